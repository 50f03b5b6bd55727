/- LinkRight: what is linked is a right image, as long as all its objects and one more for each, and one. -/
import Derived.Below
import Derived.Carry
import Derived.ChangeOld
import Derived.Deep.Quiet
import Derived.Deep.Slices
import Derived.Deep.Upon
import Derived.Defers
import Derived.JoinedCond
import Derived.LaidEql
import Derived.Laws.BytesString
import Derived.Laws.DeepStrings4
import Derived.Laws.Externs
import Derived.Laws.Pointers
import Derived.Laws.Slices
import Derived.Lib.AppendStr
import Derived.Lib.AppendZeros
import Derived.Lib.AtoiAllCases
import Derived.Lib.AtoiTie
import Derived.Lib.Builder
import Derived.Lib.Bytealg
import Derived.Lib.ConvBytes
import Derived.Lib.ItoaNum
import Derived.Lib.Join
import Derived.Lib.LaidTab
import Derived.Lib.SmallJoins
import Derived.Lib.UnsafeStr
import Derived.MapKept
import Derived.OpenShut
import Derived.ProofKit
import Derived.Recover
import Derived.Sort.Grow
import Derived.WalkKit
import Derived.WalkSpells
import Derived.WideMake
set_option linter.unusedVariables false
set_option linter.unusedSimpArgs false
namespace Go
theorem O {α : Sort _} {a : α} : a = a := rfl
theorem Y {α : Sort _} {a : α} {b : Prop} : a = a \/ b := .inl rfl
end Go
section
namespace Go.Bw
open Go Go.RowKit
def lk:List (Nat×Value)->Nat->Option Value
 | [],_=>none
 | (k,v)::r,n=>bif Nat.beq k n then some v else lk r n
structure Ag (n:Nat) (ds:List Deferred) (l:List (Nat×Value)) (a:Act):Prop where
 size:a.tmps.size=n
 defs:a.defers=ds
 fy:∀t v,lk l t=some v->a.tmps.getD t undef=v
def aB (l:List (Nat×Value)):Operand->Option Value
 | .tmp t=>lk l t
 | .const v=>some v
 | .global g=>some (.pointer (some ⟨g,0,none⟩))
 | .func f=>some (.func (.func f) #[] #[])
section
variable {n:Nat} {ds:List Deferred} {l:List (Nat×Value)} {a:Act}
theorem Ag.eval (h:Ag n ds l a) {x:Operand} {v:Value} (hx:aB l x=some v):a.eval x=v:=by
 cases x with
 | tmp t=>exact h.fy t v hx
 | const u=>simpa [aB,Act.eval] using hx
 | global g=>simpa [aB,Act.eval] using hx
 | func f=>simpa [aB,Act.eval] using hx
theorem Ag.put (h:Ag n ds l a) {d:Nat} (hd:Nat.blt d n=true) (v:Value):Ag n ds ((d,v)::l) (a.put (some d) v):=by
 have hd':d<a.tmps.size:=by rw [h.size]; exact Nat.le_of_ble_eq_true hd
 refine ⟨by simp [Act.put,h.size],h.defs,λt u hu=>?_⟩;simp only [lk] at hu
 by_cases e:d=t
 · subst e
   simp at hu;subst hu;simp [Act.put,Array.getD,hd']
 · have:Nat.beq d t=false:=by
     cases hb:Nat.beq d t with
     | false=>rfl
     | true=>exact absurd (Nat.eq_of_beq_eq_true hb) e
   rw [this] at hu;have:=h.fy t u hu;simp only [Act.put,Array.getD_eq_getD_getElem?] at *;rw [Array.getElem?_setIfInBounds_ne e];exact this
theorem Ag.CM (h:Ag n ds l a) (v:Value):Ag n ds l (a.put none v):=h
theorem Ag.sub (h:Ag n ds l a) {l':List (Nat×Value)} (hs:∀p ∈ l',lk l p.1=some p.2):Ag n ds l' a:=by
 refine ⟨h.size,h.defs,λt v hv=>?_⟩
 suffices hm:(t,v) ∈ l' from h.fy t v (hs _ hm)
 induction l' with
 | nil=>cases hv
 | cons p r ih=>
   obtain ⟨k,u⟩:=p;simp only [lk] at hv
   cases hb:Nat.beq k t with
   | true=>
     rw [hb] at hv;have:=Nat.eq_of_beq_eq_true hb;subst this;simp at hv;subst hv;exact List.mem_cons_self
   | false=>
     rw [hb] at hv;exact List.mem_cons_of_mem _ (ih (λp hp=>hs p (List.mem_cons_of_mem _ hp)) hv)
end
section
variable {P:Program} {ops:Array Oper} {Q:Exit->Act->World->Prop} {n:Nat} {ds:List Deferred} {l:List (Nat×Value)} {W:World->Prop}
def WL (P:Program) (ops:Array Oper) (Q:Exit->Act->World->Prop) (n:Nat) (ds:List Deferred) (l:List (Nat×Value)) (W:World->Prop) (rest:List Oper):Prop:=
 ∀a w,Ag n ds l a->W w->wpList P ops Q rest a w
def WC (P:Program) (c:Code) (Q:Exit->Act->World->Prop) (n:Nat) (ds:List Deferred) (l:List (Nat×Value)) (W:World->Prop):Prop:=
 ∀a w,Ag n ds l a->W w->c.wp P Q a w
def WE (Q:Exit->Act->World->Prop) (e:Exit) (n:Nat) (ds:List Deferred) (l:List (Nat×Value)) (W:World->Prop):Prop:=
 ∀a w,Ag n ds l a->W w->Q e a w
def Yl (P:Program) (l:List (Nat×Value)) (W:World->Prop) (o:Oper) (v:Value):Prop:=
 ∀(ρ:Operand->Value) (w:World),(∀x u,aB l x=some u->ρ x=u)->W w->(execOp ρ o).run P w = .ok (.value v) w
theorem Ln (h:WE Q .normal n ds l W):WL P ops Q n ds l W []:=λa w ha hw=>h a w ha hw
def cB (ops:Array Oper) (l:List (Nat×Value)) (g:Option (Nat×Bool)):Prop:=
 g=none\/∃j b dj,g=some (j,b)/\(ops[j]?).bind (·.dst)=some dj/\lk l dj=some (.bool b)
theorem cB.wanted {o:Oper} {a:Act} (h:cB ops l o.guard) (ha:Ag n ds l a):Region.wanted o (yielded ops a.tmps)=true:=by
 rcases h with h | ⟨j,b,dj,hg,hj,hl⟩
 · simp [Region.wanted,h]
 · have hv:=ha.fy dj _ hl
   rw [Array.getD_eq_getD_getElem?] at hv
   cases ht:a.tmps[dj]? with
   | none=>simp [ht,undef] at hv
   | some u=>
     simp [ht] at hv;subst hv;simp [Region.wanted,hg,yielded,hj,ht]
theorem WL.step {rest:List Oper} {o:Oper} (hg:cB ops l o.guard)
   (h:∀a w,Ag n ds l a->W w->∀K:Act->World->Prop,(∀a w,wpList P ops Q rest a w->K a w)->o.wp P a w K Q):WL P ops Q n ds l W (o::rest):=by
 intro a w ha hw;refine wpList_step λK hK=>?_;rw [if_pos (hg.wanted ha)];exact h a w ha hw K hK
theorem Lv {rest:List Oper} {d:Nat} {op:Op} {ty:TypeId} {pos:String} {af:Array Edge} {v:Value} {g:Option (Nat×Bool)} (hg:cB ops l g) (hn:Nat.blt d n=true)
   (hy:Yl P l W ⟨some d,op,ty,pos,af,g⟩ v) (h:WL P ops Q n ds ((d,v)::l) W rest):WL P ops Q n ds l W (⟨some d,op,ty,pos,af,g⟩::rest):=by
 refine WL.step hg λa w ha hw K hK=>?_;have:=hy a.eval w (λx u hx=>ha.eval hx) hw;simp only [Oper.wp,this,Oper.upon_value];exact hK _ _ (h _ _ (ha.put hn v) hw)
theorem V0 {rest:List Oper} {d:Nat} {op:Op} {ty:TypeId} {pos:String} {af:Array Edge} {v:Value} (hy:Yl P l W ⟨some d,op,ty,pos,af,none⟩ v) (h:WL P ops Q n ds ((d,v)::l) W rest) (hn:Nat.blt d n=true:=by rfl):WL P ops Q n ds l W (⟨some d,op,ty,pos,af,none⟩::rest):=Lv (.inl rfl) hn hy h
theorem Vg {rest:List Oper} {d:Nat} {op:Op} {ty:TypeId} {pos:String} {af:Array Edge} {v:Value} {g:Option (Nat×Bool)} (hy:Yl P l W ⟨some d,op,ty,pos,af,g⟩ v) (h:WL P ops Q n ds ((d,v)::l) W rest) (hg:cB ops l g:=by exact .inr ⟨_,_,_,rfl,rfl,rfl⟩) (hn:Nat.blt d n=true:=by rfl):WL P ops Q n ds l W (⟨some d,op,ty,pos,af,g⟩::rest):=Lv hg hn hy h
theorem cB.g {j:Nat} {b:Bool} {dj:Nat} {g:Option (Nat×Bool)} (h1:g=some (j,b)) (h2:(ops[j]?).bind (·.dst)=some dj) (h3:lk l dj=some (.bool b)):cB ops l g:=.inr ⟨j,b,dj,h1,h2,h3⟩
theorem WL.skip {rest:List Oper} {d:Nat} {op:Op} {ty:TypeId} {pos:String} {af:Array Edge} {j:Nat} {b:Bool} {oj:Oper} {dj:Nat} (hn:Nat.blt d n=true)
   (hj:ops[j]? = some oj) (CN:oj.dst=some dj) (tR:Nat.blt dj n=true) (hb:lk l dj=some (.bool (!b)))
   (h:WL P ops Q n ds ((d,undef)::l) W rest):WL P ops Q n ds l W (⟨some d,op,ty,pos,af,some (j,b)⟩::rest):=by
 intro a w ha hw;refine wpList_step λK hK=>?_;have hv:a.tmps.getD dj undef = .bool (!b):=ha.fy dj _ hb
 have aw:dj<a.tmps.size:=by rw [ha.size]; exact Nat.le_of_ble_eq_true tR
 have tV:a.tmps[dj]? = some (.bool (!b)):=by
   rw [Array.getD_eq_getD_getElem?,Array.getElem?_eq_getElem aw] at hv;rw [Array.getElem?_eq_getElem aw]
   simpa using hv
 have CO:yielded ops a.tmps j=some (!b):=by simp [yielded,hj,CN,tV]
 rw [if_neg (by simp [Region.wanted,CO])];exact hK _ _ (h _ _ (ha.put hn undef) hw)
theorem WL.sub {rest:List Oper} (l':List (Nat×Value)) (hs:∀p ∈ l',lk l p.1=some p.2) (h:WL P ops Q n ds l' W rest):WL P ops Q n ds l W rest:=
 λa w ha hw=>h a w (ha.sub hs) hw
theorem WC.sub {c:Code} (l':List (Nat×Value)) (hs:∀p ∈ l',lk l p.1=some p.2) (h:WC P c Q n ds l' W):WC P c Q n ds l W:=
 λa w ha hw=>h a w (ha.sub hs) hw
theorem WE.sub {e:Exit} (l':List (Nat×Value)) (hs:∀p ∈ l',lk l p.1=some p.2) (h:WE Q e n ds l' W):WE Q e n ds l W:=
 λa w ha hw=>h a w (ha.sub hs) hw
theorem LW {rest:List Oper} {W':World->Prop} (hW:∀w,W w->W' w) (h:WL P ops Q n ds l W' rest):WL P ops Q n ds l W rest:=
 λa w ha hw=>h a w ha (hW w hw)
theorem sh {c:Code} {W':World->Prop} (hW:∀w,W w->W' w) (h:WC P c Q n ds l W'):WC P c Q n ds l W:=
 λa w ha hw=>h a w ha (hW w hw)
theorem WE.world {e:Exit} {W':World->Prop} (hW:∀w,W w->W' w) (h:WE Q e n ds l W'):WE Q e n ds l W:=
 λa w ha hw=>h a w ha (hW w hw)
theorem sn {l:List (Nat×Value)}:∀p ∈ ([]:List (Nat×Value)),lk l p.1=some p.2:=by simp
theorem sc {l r:List (Nat×Value)} {k:Nat} {v:Value} (h:lk l k=some v) (hr:∀p ∈ r,lk l p.1=some p.2):∀p ∈ (k,v)::r,lk l p.1=some p.2:=by
 intro p hp
 rcases List.mem_cons.1 hp with rfl | hp
 · exact h
 · exact hr p hp
theorem Cs {x y:Code} (h:WC P x (Exit.then (y.wp P Q) Q) n ds l W):WC P (.seq x y) Q n ds l W:=λa w ha hw=>wp_seq (h a w ha hw)
theorem Ck (h:WE Q .normal n ds l W):WC P .skip Q n ds l W:=λa w ha hw=>wp_skip (h a w ha hw)
theorem az (h:WE Q .ret n ds l W):WC P .ret Q n ds l W:=λa w ha hw=>wp_ret (h a w ha hw)
theorem Ce {id:Nat} (h:WE Q (.exit id) n ds l W):WC P (.exit id) Q n ds l W:=λa w ha hw=>wp_exit (h a w ha hw)
theorem Cb {id:Nat} {c:Code} (h:WC P c (Exit.inBlock id Q) n ds l W):WC P (.block id c) Q n ds l W:=λa w ha hw=>wp_block (h a w ha hw)
theorem Cr {id:Nat} {o:List Oper} (h:WL P o.toArray Q n ds l W o):WC P (.region id o.toArray false) Q n ds l W:=λa w ha hw=>wp_region_lit (h a w ha hw)
theorem Cc {c:Operand} {x y:Code} {t:Bool} (hc:aB l c=some (.bool t)) (ht:t=true->WC P x Q n ds l W) (hf:t=false->WC P y Q n ds l W):WC P (.cond c x y) Q n ds l W:=
 λa w ha hw=>wp_cond_split (ha.eval hc) (λh=>ht h a w ha hw) (λh=>hf h a w ha hw)
theorem WC.L5 {c:Operand} {x y:Code} (hc:aB l c=some (.bool true)) (h:WC P x Q n ds l W):WC P (.cond c x y) Q n ds l W:=
 λa w ha hw=>wp_cond_true (ha.eval hc) (h a w ha hw)
theorem WC.CP {c:Operand} {x y:Code} (hc:aB l c=some (.bool false)) (h:WC P y Q n ds l W):WC P (.cond c x y) Q n ds l W:=
 λa w ha hw=>wp_cond_false (ha.eval hc) (h a w ha hw)
theorem Et {y:Code} {Q':Exit->Act->World->Prop} (h:WC P y Q n ds l W):WE (Exit.then (y.wp P Q) Q') .normal n ds l W:=λa w ha hw=>h a w ha hw
theorem Er {K:Act->World->Prop} (h:WE Q .ret n ds l W):WE (Exit.then K Q) .ret n ds l W:=h
theorem Ex {K:Act->World->Prop} {id:Nat} (h:WE Q (.exit id) n ds l W):WE (Exit.then K Q) (.exit id) n ds l W:=h
theorem Eb {id:Nat} (h:WE Q .normal n ds l W):WE (Exit.inBlock id Q) .normal n ds l W:=h
theorem bR {id:Nat} (h:WE Q .ret n ds l W):WE (Exit.inBlock id Q) .ret n ds l W:=h
theorem cf {id:Nat} (h:WE Q .normal n ds l W):WE (Exit.inBlock id Q) (.exit id) n ds l W:=λa w ha hw=>by
 simp only [Exit.inBlock,if_true]; exact h a w ha hw
theorem L6 {id G8:Nat} (dt:Nat.beq G8 id=false) (h:WE Q (.exit G8) n ds l W):WE (Exit.inBlock id Q) (.exit G8) n ds l W:=λa w ha hw=>by
 have:G8≠id:=λe=>by subst e; rw [Nat.beq_refl] at dt; cases dt
 simp only [Exit.inBlock,if_neg this]; exact h a w ha hw
def xO:Nat->List Value->List (Nat×Value)
 | _,[]=>[]
 | i,v::r=>(i,v)::xO (i+1) r
theorem L7 (vs:List Value):∀(i t:Nat) (v:Value),lk (xO i vs) t=some v->i<=t/\vs[t-i]? = some v:=by
 induction vs with
 | nil=>intro i t v h; cases h
 | cons x r ih=>
   intro i t v h;simp only [xO,lk] at h
   cases hb:Nat.beq i t with
   | true=>
     rw [hb] at h;have:=Nat.eq_of_beq_eq_true hb;subst this;simp at h;simp [h]
   | false=>
     rw [hb] at h;obtain ⟨h1,h2⟩:=ih (i+1) t v h;refine ⟨by omega,?_⟩
     have:t-i=(t-(i+1))+1:=by omega
     rw [this]
     simpa using h2
theorem enter {f:FuncId} {fn:Func} {c:Code} {vs:List Value} {w:World} {R:Ending->World->Prop} (hf:P.funcs[f]? = some fn) (hb:fn.body=some c)
   (m:Nat) (hm:fn.ntmps=m) (hle:Nat.ble vs.length m=true) (h:WC P c (bodyPost P fn R) m [] (xO 0 vs) (λw'=>w'=w)):Calls P f vs.toArray w R:=by
 refine calls_of_wp hf hb (h _ _ ?_ O);have SR:=Nat.le_of_ble_eq_true hle;subst hm;refine ⟨by simp; omega,O,λt v hv=>?_⟩;obtain ⟨_,h2⟩:=L7 vs 0 t v hv;simp only [Nat.sub_zero] at h2
 have aw:t<vs.length:=by
   rcases Nat.lt_or_ge t vs.length with h | h
   · exact h
   · simp [List.getElem?_eq_none h] at h2
 simp [Array.getD_eq_getD_getElem?,Array.getElem?_append,aw];simp [List.getElem?_eq_getElem aw] at h2;exact h2
theorem WE.L8 {fn:Func} {R:Ending->World->Prop} (hr:fn.results = #[]) (h:∀w,W w->R (.returned (.tuple #[])) w):WE (bodyPost P fn R) .ret n [] l W:=
 λa w ha hw=>bodyPost_ret (results_none hr _ _ _) ha.defs (h w hw)
theorem E0 {fn:Func} {R:Ending->World->Prop} (hr:fn.results = #[]) (h:∀w,W w->R (.returned (.tuple #[])) w):WE (bodyPost P fn R) .normal n [] l W:=
 λa w ha hw=>bodyPost_end (results_none hr _ _ _) ha.defs (h w hw)
theorem R1 {fn:Func} {R:Ending->World->Prop} {t:Nat} {v:Value} (hr:fn.results = #[.tmp t]) (ht:lk l t=some v) (h:∀w,W w->R (.returned v) w):WE (bodyPost P fn R) .ret n [] l W:=
 λa w ha hw=>bodyPost_ret (results_tmp hr _ _ _) ha.defs (by rw [ha.fy t v ht]; exact h w hw)
theorem WE.me {fn:Func} {R:Ending->World->Prop} {t u:Nat} {v x:Value} (hr:fn.results = #[.tmp t,.tmp u]) (ht:lk l t=some v) (hu:lk l u=some x) (h:∀w,W w->R (.returned (.tuple #[v,x])) w):WE (bodyPost P fn R) .ret n [] l W:=
 λa w ha hw=>bodyPost_ret (results_tmp2 hr _ _ _) ha.defs (by rw [ha.fy t v ht,ha.fy u x hu]; exact h w hw)
theorem aJ {fn:Func} {R:Ending->World->Prop} {ch:List PanicEntry} (h:∀w,W w->R (.panicked ch) w):WE (bodyPost P fn R) (.panic ch) n [] l W:=
 λa w ha hw=>⟨ha.defs,h w hw⟩
theorem Ep {K:Act->World->Prop} {ch:List PanicEntry} (h:WE Q (.panic ch) n ds l W):WE (Exit.then K Q) (.panic ch) n ds l W:=h
theorem WE.aQ {id:Nat} {ch:List PanicEntry} (h:WE Q (.panic ch) n ds l W):WE (Exit.inBlock id Q) (.panic ch) n ds l W:=h
theorem ab5 {p:Nat->Prop}:∀m,p m->∃k,p k/\∀j,p j->k<=j:=by
 intro m
 induction m using Nat.strongRecOn with
 | _ m ih=>
   intro hm
   by_cases h:∃j,j<m/\p j
   · obtain ⟨j,hj,hp⟩:=h
     exact ih j hj hp
   · exact ⟨m,hm,λj hp=>Nat.le_of_not_lt λaw=>h ⟨j,aw,hp⟩⟩
theorem wp_loop_ghost {ι:Type} {c:Code} {a:Act} {w:World} (I:ι->Act->World->Prop) (μ:ι->Nat) (i0:ι) (h0:I i0 a w)
   (round:∀i a w,I i a w->c.wp P (Exit.then (λa' w'=>∃j,μ j<μ i/\I j a' w') Q) a w):(Code.loop c).wp P Q a w:=by
 classical
 let J:Act->World->Prop:=λa w=>∃i,I i a w
 have ex:∀a w,J a w->∃k,(∃i,I i a w/\μ i=k)/\∀j,(∃i,I i a w/\μ i=j)->k<=j:=by
   rintro a w ⟨i,hi⟩
   exact ab5 (μ i) ⟨i,hi,O⟩
 let M:Act->World->Nat:=λa w=>if h:J a w then Classical.choose (ex a w h) else 0
 have hM:∀a w,J a w->∃i,I i a w/\μ i=M a w:=by
   intro a w h;have:=(Classical.choose_spec (ex a w h)).1;simp only [M,dif_pos h];exact this
 have hle:∀a w i,I i a w->M a w<=μ i:=by
   intro a w i hi;have h:J a w:=⟨i,hi⟩;simp only [M,dif_pos h];exact (Classical.choose_spec (ex a w h)).2 _ ⟨i,hi,O⟩
 refine wp_loop J M ⟨i0,h0⟩ λa w hJ=>?_;obtain ⟨i,hi,nk⟩:=hM a w hJ;refine wp_mono (round i a w hi) λe a' w' hq=>?_
 cases e with
 | normal=>
   obtain ⟨j,hj,hI⟩:=hq;exact ⟨⟨j,hI⟩,by have:=hle a' w' j hI; omega⟩
 | _=>exact hq
theorem WC.loop {ι:Type} {c:Code} (E:ι->List (Nat×Value)) (Wi:ι->World->Prop) (R:ι->Prop) (μ:ι->Nat) (i0:ι) (hR:R i0) (hE:∀p ∈ E i0,lk l p.1=some p.2) (hW:∀w,W w->Wi i0 w)
   (round:∀i,R i->WC P c (Exit.then (λa' w'=>∃j,μ j<μ i/\R j/\Ag n ds (E j) a'/\Wi j w') Q) n ds (E i) (Wi i)):WC P (.loop c) Q n ds l W:=by
 intro a w ha hw;refine wp_loop_ghost (λi a w=>R i/\Ag n ds (E i) a/\Wi i w) μ i0 ⟨hR,ha.sub hE,hW w hw⟩ λi a w hI=>?_;exact round i hI.1 a w hI.2.1 hI.2.2
theorem Ea {ι:Type} {E:ι->List (Nat×Value)} {Wi:ι->World->Prop} {R:ι->Prop} {μ:ι->Nat} {i:ι} (j:ι) (hμ:μ j<μ i) (hR:R j) (hE:∀p ∈ E j,lk l p.1=some p.2) (hW:∀w,W w->Wi j w) :
   WE (Exit.then (λa' w'=>∃j,μ j<μ i/\R j/\Ag n ds (E j) a'/\Wi j w') Q) .normal n ds l W:=λa w ha hw=>⟨j,hμ,hR,ha.sub hE,hW w hw⟩
end
abbrev View:=Nat->Option Obj
def Le (H:View) (w:World):Prop:=∀b o,H b=some o->w.heap[b]? = some o
def aL (H H':View):Prop:=∀b o,H b=some o->H' b=some o
theorem aL.refl (H:View):aL H H:=λ_ _ h=>h
theorem aL.trans {A B C:View} (h:aL A B) (k:aL B C):aL A C:=λb o x=>k b o (h b o x)
def eE (w:World) (H:View):Prop:=∀b,b<w.heap.size->H b=none
def nv (w0 w:World):View:=λb=>if w0.heap.size<=b then w.heap[b]? else none
theorem L9 (w0 w:World):Le (nv w0 w) w:=λb o h=>by unfold nv at h; split at h; exact h; cases h
theorem Ak (w0 w:World):eE w0 (nv w0 w):=λb h=>by unfold nv; rw [if_neg (by omega)]
theorem ab7 {w0 w:World} {H:View} (hl:Le H w) (hf:eE w0 H):aL H (nv w0 w):=λb o h=>by
 unfold nv;rw [if_pos,hl b o h]
 rcases Nat.lt_or_ge b w0.heap.size with hb | hb
 · rw [hf b hb] at h; cases h
 · exact hb
theorem eE.mono {w w':World} {H:View} (h:eE w' H) (hs:w.heap.size<=w'.heap.size):eE w H:=λb hb=>h b (by omega)
structure Fr (F:List Nat) (w0 w:World):Prop where
 os:w.os=w0.os
 tape:w.tape=w0.tape
 output:w.output=w0.output
 size:w0.heap.size<=w.heap.size
 block:∀k,k<w0.heap.size->k ∉ F->w.heap[k]? = w0.heap[k]?
abbrev Ext (w w':World):Prop:=Fr [] w w'
theorem Fr.refl (F:List Nat) (w:World):Fr F w w:=⟨rfl,rfl,rfl,Nat.le_refl _,λ_ _ _=>rfl⟩
theorem Fr.trans {F G:List Nat} {a b c:World} (h:Fr F a b) (k:Fr G b c) (hG:∀x ∈ G,x ∈ F\/a.heap.size<=x):Fr F a c:=
 ⟨k.os.trans h.os,k.tape.trans h.tape,k.output.trans h.output,Nat.le_trans h.size k.size,λi hi hF=>
   (k.block i (Nat.lt_of_lt_of_le hi h.size) λhg=>by rcases hG i hg with h' | h'; exact hF h'; omega).trans (h.block i hi hF)⟩
theorem Ext.trans {a b c:World} (h:Ext a b) (k:Ext b c):Ext a c:=Fr.trans h k (by simp)
theorem Ext.below {w w':World} (h:Ext w w'):Below w.heap.size w w':=⟨h.os,h.tape,h.output,h.size,λk hk=>h.block k hk (by simp)⟩
theorem Ext.L_ {w w':World} (h:Below w.heap.size w w'):Ext w w':=⟨h.os,h.tape,h.output,h.size,λk hk _=>h.block k hk⟩
theorem Ext.drew (w:World):Ext w w.drew:=⟨rfl,rfl,rfl,Nat.le_refl _,λ_ _ _=>rfl⟩
theorem Ext.alloc (w:World) (o:Obj):Ext w (w.alloc o):=⟨rfl,rfl,rfl,by simp,λk hk _=>Below.heap_alloc _ _ _ hk⟩
theorem lt_of_heap {w:World} {b:Nat} {o:Obj} (h:w.heap[b]? = some o):b<w.heap.size:=by
 rcases Nat.lt_or_ge b w.heap.size with hb | hb
 · exact hb
 · rw [Array.getElem?_eq_none hb] at h; cases h
theorem Le.ext {H:View} {w w':World} (h:Le H w) (e:Ext w w'):Le H w':=λb o x=>(e.block b (lt_of_heap (h b o x)) (by simp)).trans (h b o x)
structure ak where
 ids:List Nat
 holds:World->Prop
 loc:∀w w',(∀k ∈ ids,w'.heap[k]? = w.heap[k]?)->holds w->holds w'
 Am:∀w,holds w->∀k ∈ ids,k<w.heap.size
def ab (b:Nat) (o:Obj):ak:=⟨[b],λw=>w.heap[b]? = some o,λw w' h hw=>(h b (by simp)).trans hw,λw hw k hk=>by simp at hk; subst hk; exact lt_of_heap hw⟩
structure Ws (w0:World) (F:List Nat) (L:List ak) (Vs:List View) (w:World):Prop where
 fr:Fr F w0 w
 kn:∀A ∈ L,A.holds w
 nd:(L.flatMap ak.ids).Nodup
 own:∀A ∈ L,∀k ∈ A.ids,k ∈ F\/w0.heap.size<=k
 vs:∀H ∈ Vs,Le H w
 off:∀H ∈ Vs,∀A ∈ L,∀k ∈ A.ids,H k=none
section
variable {w0 w w':World} {F:List Nat} {L L' L2:List ak} {Vs:List View}
theorem Ws.init (hV:∀H ∈ Vs,Le H w):Ws w [] [] Vs w:=⟨Fr.refl _ _,by simp,by simp,by simp,hV,by simp⟩
theorem CE {P:Program} {Q:Exit->Act->World->Prop} {n:Nat} {ds:List Deferred} {l:List (Nat×Value)} {c:Code} {w0 w:World} {F:List Nat} {L:List ak} {Vs:List View} (hw:Ws w0 F L Vs w) (h:WC P c Q n ds l (Ws w0 F L Vs)):WC P c Q n ds l (λw'=>w'=w):=
 sh (λ_ e=>by subst e; exact hw) h
theorem Ws.An (h:Ws w0 F (L++L2) Vs w) (hf:Fr (L.flatMap ak.ids) w w') (hk:∀A ∈ L',A.holds w')
   (hn:(L'.flatMap ak.ids).Nodup) (hi:∀A ∈ L',∀k ∈ A.ids,k ∈ L.flatMap ak.ids\/w.heap.size<=k):Ws w0 F (L'++L2) Vs w':=by
 have nd:=h.nd;rw [List.flatMap_append,List.nodup_append] at nd
 have same:∀A ∈ L2,∀k ∈ A.ids,w'.heap[k]? = w.heap[k]?:=λA hA k hk=>
   hf.block k (A.Am w (h.kn A (by simp [hA])) k hk) λhm=>nd.2.2 k hm k (List.mem_flatMap.2 ⟨A,hA,hk⟩) rfl
 refine ⟨?_,?_,?_,?_,?_,?_⟩
 · refine h.fr.trans hf λx hx=>?_
   obtain ⟨A,hA,CQ⟩:=List.mem_flatMap.1 hx;exact h.own A (by simp [hA]) x CQ
 · intro A hA
   rcases List.mem_append.1 hA with hA | hA
   · exact hk A hA
   · exact A.loc w w' (same A hA) (h.kn A (by simp [hA]))
 · rw [List.flatMap_append,List.nodup_append]
   refine ⟨hn,nd.2.1,λx hx y hy e=>?_⟩;subst e;obtain ⟨A,hA,CQ⟩:=List.mem_flatMap.1 hx;obtain ⟨B,hB,CR⟩:=List.mem_flatMap.1 hy
   rcases hi A hA x CQ with h1 | h1
   · exact nd.2.2 x h1 x hy O
   · have:=B.Am w (h.kn B (by simp [hB])) x CR
     omega
 · intro A hA k CS
   rcases List.mem_append.1 hA with hA | hA
   · rcases hi A hA k CS with h1 | h1
     · obtain ⟨B,hB,CR⟩:=List.mem_flatMap.1 h1
       exact h.own B (by simp [hB]) k CR
     · exact .inr (Nat.le_trans h.fr.size h1)
   · exact h.own A (by simp [hA]) k CS
 · intro H hH b o hb
   rw [hf.block b (lt_of_heap (h.vs H hH b o hb))]
   · exact h.vs H hH b o hb
   · intro hm
     obtain ⟨A,hA,CQ⟩:=List.mem_flatMap.1 hm;have:=h.off H hH A (by simp [hA]) b CQ;rw [this] at hb; cases hb
 · intro H hH A hA k CS
   rcases List.mem_append.1 hA with hA | hA
   · rcases hi A hA k CS with h1 | h1
     · obtain ⟨B,hB,CR⟩:=List.mem_flatMap.1 h1
       exact h.off H hH B (by simp [hB]) k CR
     · cases hb:H k with
       | none=>rfl
       | some o=>have:=lt_of_heap (h.vs H hH k o hb); omega
   · exact h.off H hH A (by simp [hA]) k CS
theorem Ws.ext (h:Ws w0 F L Vs w) (e:Ext w w'):Ws w0 F L Vs w':=by
 have:=Ws.An (L:=[]) (L':=[]) (L2:=L) (by simpa using h) (by simpa using e) (by simp) (by simp) (by simp)
 simpa using this
theorem Ws.alloc (h:Ws w0 F L Vs w) (o:Obj):Ws w0 F (ab w.heap.size o::L) Vs (w.alloc o):=by
 have:=Ws.An (L:=[]) (L':=[ab w.heap.size o]) (L2:=L) (by simpa using h) (by simpa using Ext.alloc w o)
   (by intro A hA; simp at hA; subst hA; show (w.heap.push o)[w.heap.size]? = some o; simp) (by simp [ab]) (by simp [ab])
 simpa using this
theorem Ws.view (h:Ws w0 F L Vs w) (e:Ext w w') {H:View} (hl:Le H w') (hf:eE w H):Ws w0 F L (H::Vs) w':=by
 have g:=h.ext e;refine ⟨g.fr,g.kn,g.nd,g.own,?_,?_⟩
 · intro V hV
   rcases List.mem_cons.1 hV with rfl | hV
   · exact hl
   · exact g.vs V hV
 · intro V hV A hA k hk
   rcases List.mem_cons.1 hV with rfl | hV
   · exact hf k (A.Am w (h.kn A hA) k hk)
   · exact g.off V hV A hA k hk
theorem Ws.perm (h:Ws w0 F L Vs w) (hp:L.Perm L'):Ws w0 F L' Vs w:=
 ⟨h.fr,λA hA=>h.kn A (hp.mem_iff.2 hA),(List.Perm.flatMap_right _ hp).nodup_iff.1 h.nd,λA hA=>h.own A (hp.mem_iff.2 hA),h.vs,λH hH A hA=>h.off H hH A (hp.mem_iff.2 hA)⟩
theorem Ws.drop (h:Ws w0 F (L++L') Vs w):Ws w0 F L' Vs w:=by
 have nd:=h.nd;rw [List.flatMap_append,List.nodup_append] at nd;exact ⟨h.fr,λA hA=>h.kn A (by simp [hA]),nd.2.1,λA hA=>h.own A (by simp [hA]),h.vs,λH hH A hA=>h.off H hH A (by simp [hA])⟩
theorem Ws.bw (h:Ws w0 F L Vs w) {a_:List View} (hs:∀H ∈ a_,H ∈ Vs):Ws w0 F L a_ w:=
 ⟨h.fr,h.kn,h.nd,h.own,λH hH=>h.vs H (hs H hH),λH hH=>h.off H (hs H hH)⟩
end
def c_ {α:Type}:Nat->List α->List α
 | _,[]=>[]
 | 0,_::r=>r
 | i+1,x::r=>x::c_ i r
theorem mf {α:Type} {x:α}:∀(i:Nat) (l:List α),l[i]? = some x->l.Perm (x::c_ i l)
 | _,[],h=>by cases h
 | 0,y::r,h=>by simp at h; subst h; exact List.Perm.refl _
 | i+1,y::r,h=>by
   have:=mf i r (by simpa using h);exact (List.Perm.cons y this).trans (List.Perm.swap _ _ _)
theorem set_perm {α:Type} {x y:α}:∀(i:Nat) (l:List α),l[i]? = some x->(y::c_ i l).Perm (l.set i y)
 | _,[],h=>by cases h
 | 0,z::r,_=>by simp [c_]
 | i+1,z::r,h=>by
   have:=set_perm (y:=y) i r (by simpa using h);exact (List.Perm.swap _ _ _).trans (List.Perm.cons z this)
theorem Ws.vN {w0 w w':World} {F:List Nat} {L:List ak} {Vs:List View} (h:Ws w0 F L Vs w) (i:Nat) {A B:ak} (hi:L[i]? = some A) (hf:Fr A.ids w w') (hk:B.holds w')
   (hn:B.ids.Nodup) (Ma:∀k ∈ B.ids,k ∈ A.ids\/w.heap.size<=k):Ws w0 F (L.set i B) Vs w':=by
 have h1:=h.perm (mf i L hi);have h2:=Ws.An (L:=[A]) (L':=[B]) (L2:=c_ i L) (by simpa using h1) (by simpa using hf) (by simpa using hk) (by simpa using hn) (by simpa using Ma);exact Ws.perm (by simpa using h2) (set_perm i L hi)
theorem du {α:Type} {l:List α} {i:Nat} {x:α} (h:l[i]? = some x):x ∈ l:=List.mem_of_getElem? h
def dI (P:Program) (t:TypeId):Bool:=match P.underlying t with | some (.struct _) | some (.array _ _) | none=>false | _=>true
def eQ (P:Program) (t:TypeId):Option Nat:=match P.underlying t with | some (.struct _) | some (.array _ _)=>(P.info? t).map (·.size) | _=>none
def aX (P:Program) (t:TypeId) (f:Nat):Option Nat:=match P.underlying t with
 | some (.struct fs)=>match fs[f]? with
   | some x=>match P.info? x.type with
     | some i=>if i.size=0 then none else some x.offset
     | none=>none
   | none=>none
 | _=>none
def dL (P:Program) (t:TypeId):Option Nat:=match P.underlying t with | some (.slice e)=>(P.info? e).map (·.size) | _=>none
section
variable {P:Program} {w:World}
theorem G9 {t:TypeId} (h:dI P t=true) (w:World):(isAgg t).run P w = .ok false w:=by
 unfold dI at h
 cases hu:P.underlying t with
 | none=>simp [hu] at h
 | some d=>cases d<;>simp_all [isAgg,run_underlying hu]
theorem ab8 {t:TypeId} {k:Nat} (h:eQ P t=some k) (w:World):(isAgg t).run P w = .ok true w/\(sizeOf t).run P w = .ok k w:=by
 unfold eQ at h
 cases hu:P.underlying t with
 | none=>simp [hu] at h
 | some d=>
   cases hi:P.info? t with
   | none=>cases d<;>simp_all
   | some i=>cases d<;>simp_all [isAgg,run_underlying hu,sizeOf,typeInfo]
def gJ (o:Obj) (k:Nat):Option Value:=match o with | .cells c _ _=>c.toList[k]? | _=>none
def vc (H:View) (b k:Nat):Option Value:=(H b).bind (gJ · k)
theorem cell_of_heap {b k:Nat} {o:Obj} {v:Value} (h:w.heap[b]? = some o) (hc:gJ o k=some v):w.cell? ⟨b,k,none⟩=some v:=by
 cases o<;>simp_all [gJ,World.cell?]
theorem Le.cell {H:View} (h:Le H w) {b k:Nat} {v:Value} (hc:vc H b k=some v):w.cell? ⟨b,k,none⟩=some v:=by
 unfold vc at hc
 cases hb:H b with
 | none=>simp [hb] at hc
 | some o=>simp [hb] at hc; exact cell_of_heap (h b o hb) hc
theorem aL.cell {H H':View} (h:aL H H') {b k:Nat} {v:Value} (hc:vc H b k=some v):vc H' b k=some v:=by
 unfold vc at *
 cases hb:H b with
 | none=>simp [hb] at hc
 | some o=>simp [hb] at hc; simp [h b o hb,hc]
theorem qv (b o k:Nat):(⟨b,o,none⟩:Addr).add k=⟨b,o+k,none⟩:=by unfold Addr.add; split<;>simp_all
theorem SS {t:TypeId} (ht:dI P t=true) {b k:Nat} {v:Value} (hc:w.cell? ⟨b,k,none⟩=some v):(loadVar t ⟨b,k,none⟩).run P w = .ok v w:=by
 simp [loadVar,G9 ht,hc]
theorem G' {t:TypeId} {n:Nat} (ht:eQ P t=some n) {b k:Nat} {cs:List Value} (hl:cs.length=n) (hc:∀j v,cs[j]? = some v->w.cell? ⟨b,k+j,none⟩=some v) :
   (loadVar t ⟨b,k,none⟩).run P w = .ok (.agg cs.toArray) w:=by
 obtain ⟨h1,h2⟩:=ab8 ht w;have:=run_loadCells_list (P:=P) w ⟨b,k,none⟩ cs (λj v h=>by rw [qv]; exact hc j v h);rw [hl] at this;simp [loadVar,h1,h2,this]
end
def st (l:List UInt8):Value:=.string ⟨l.toArray⟩
section
variable {P:Program} {l:List (Nat×Value)} {W:World->Prop} {w0:World} {F:List Nat} {L:List ak} {Vs:List View}
 {d:Option Tmp} {ty:TypeId} {pos:String} {af:Array Edge} {g:Option (Nat×Bool)}
theorem Ym {x:Operand} {v:Value} (hx:aB l x=some v):Yl P l W ⟨d,.move x,ty,pos,af,g⟩ v:=λρ w aF _=>by simp [execOp,aF x v hx]
theorem Ya {x:Operand} {v:Value} (hx:aB l x=some v):Yl P l W ⟨d,.assign x,ty,pos,af,g⟩ v:=λρ w aF _=>by simp [execOp,aF x v hx]
theorem SU {c x y:Operand} {t:Bool} {u v:Value} (hc:aB l c=some (.bool t)) (hx:aB l x=some u) (hy:aB l y=some v):Yl P l W ⟨d,.pick c x y,ty,pos,af,g⟩ (if t then u else v):=
 λρ w aF _=>by simp [execOp,aF c _ hc,aF x _ hx,aF y _ hy,asBool]
theorem aG {t u:TypeId} {x y:Operand} {k:IntKind} {a b:Int} (hx:aB l x=some (.int k a)) (hy:aB l y=some (.int k b)):Yl P l W ⟨d,.binOp .eql t x y u,ty,pos,af,g⟩ (.bool (a==b)):=
 λρ w aF _=>by simp [execOp,aF x _ hx,aF y _ hy,eqGuard,binOp,Op.intCmp]
theorem jq {t u:TypeId} {x y:Operand} {k:IntKind} {a b:Int} (hx:aB l x=some (.int k a)) (hy:aB l y=some (.int k b)):Yl P l W ⟨d,.binOp .neq t x y u,ty,pos,af,g⟩ (.bool (a != b)):=
 λρ w aF _=>by simp [execOp,aF x _ hx,aF y _ hy,eqGuard,binOp,Op.intCmp]
theorem bq {t u:TypeId} {x y:Operand} {k:IntKind} {a b:Int} (hx:aB l x=some (.int k a)) (hy:aB l y=some (.int k b)):Yl P l W ⟨d,.binOp .lss t x y u,ty,pos,af,g⟩ (.bool (decide (a<b))):=
 λρ w aF _=>by simp [execOp,aF x _ hx,aF y _ hy,eqGuard,binOp,Op.intCmp]
theorem ij {t u:TypeId} {x y:Operand} {k:IntKind} {a b:Int} (hx:aB l x=some (.int k a)) (hy:aB l y=some (.int k b)):Yl P l W ⟨d,.binOp .leq t x y u,ty,pos,af,g⟩ (.bool (decide (a<=b))):=
 λρ w aF _=>by simp [execOp,aF x _ hx,aF y _ hy,eqGuard,binOp,Op.intCmp]
theorem bZ {t u:TypeId} {x y:Operand} {k:IntKind} {a b:Int} (hx:aB l x=some (.int k a)) (hy:aB l y=some (.int k b)):Yl P l W ⟨d,.binOp .gtr t x y u,ty,pos,af,g⟩ (.bool (decide (b<a))):=
 λρ w aF _=>by simp [execOp,aF x _ hx,aF y _ hy,eqGuard,binOp,Op.intCmp]
theorem fm {t u:TypeId} {x y:Operand} {k:IntKind} {a b:Int} (hx:aB l x=some (.int k a)) (hy:aB l y=some (.int k b)):Yl P l W ⟨d,.binOp .geq t x y u,ty,pos,af,g⟩ (.bool (decide (b<=a))):=
 λρ w aF _=>by simp [execOp,aF x _ hx,aF y _ hy,eqGuard,binOp,Op.intCmp]
theorem vO {t u:TypeId} {x y:Operand} {k:IntKind} {a b:Int} (hx:aB l x=some (.int k a)) (hy:aB l y=some (.int k b)):Yl P l W ⟨d,.binOp .add t x y u,ty,pos,af,g⟩ (.int k (k.wrap (a+b))):=
 λρ w aF _=>by simp [execOp,aF x _ hx,aF y _ hy,eqGuard,binOp,Op.intArith]
theorem Mb {t u:TypeId} {x y:Operand} {k:IntKind} {a b:Int} (hx:aB l x=some (.int k a)) (hy:aB l y=some (.int k b)):Yl P l W ⟨d,.binOp .sub t x y u,ty,pos,af,g⟩ (.int k (k.wrap (a-b))):=
 λρ w aF _=>by simp [execOp,aF x _ hx,aF y _ hy,eqGuard,binOp,Op.intArith]
theorem ab9 {t u:TypeId} {x y:Operand} {k:IntKind} {a b:Int} (hx:aB l x=some (.int k a)) (hy:aB l y=some (.int k b)):Yl P l W ⟨d,.binOp .mul t x y u,ty,pos,af,g⟩ (.int k (k.wrap (a*b))):=
 λρ w aF _=>by simp [execOp,aF x _ hx,aF y _ hy,eqGuard,binOp,Op.intArith]
theorem G_ {n:Int} (h : -9223372036854775808<=n/\n<=9223372036854775807):IntKind.i64.wrap n=n:=by rw [IntKind.wrap_i64]; omega
theorem lH {t u:TypeId} {x y:Operand} {a b:Int} (hx:aB l x=some (.int .i64 a)) (hy:aB l y=some (.int .i64 b)) (hb : -9223372036854775808<=a+b/\a+b<=9223372036854775807):Yl P l W ⟨d,.binOp .add t x y u,ty,pos,af,g⟩ (.int .i64 (a+b)):=by
 have:=vO (P:=P) (W:=W) (d:=d) (t:=t) (u:=u) (ty:=ty) (pos:=pos) (af:=af) (g:=g) hx hy
 rwa [G_ hb] at this
theorem ab' {t u:TypeId} {x y:Operand} {a b:Int} (hx:aB l x=some (.int .i64 a)) (hy:aB l y=some (.int .i64 b)) (hb : -9223372036854775808<=a-b/\a-b<=9223372036854775807):Yl P l W ⟨d,.binOp .sub t x y u,ty,pos,af,g⟩ (.int .i64 (a-b)):=by
 have:=Mb (P:=P) (W:=W) (d:=d) (t:=t) (u:=u) (ty:=ty) (pos:=pos) (af:=af) (g:=g) hx hy
 rwa [G_ hb] at this
theorem Yi {t u:TypeId} {x y:Operand} {a:Nat} {b:Int} (hx:aB l x=some (.int .i64 (a:Int))) (hy:aB l y=some (.int .i64 b)) (h1:b=1) (hb:(a:Int)<9223372036854775807):Yl P l W ⟨d,.binOp .add t x y u,ty,pos,af,g⟩ (.int .i64 ((a+1:Nat):Int)):=by
 subst h1;have:=lH (P:=P) (W:=W) (d:=d) (t:=t) (u:=u) (ty:=ty) (pos:=pos) (af:=af) (g:=g) hx hy (by omega)
 simpa using this
theorem CT {t u:TypeId} {x y:Operand} {a b:List UInt8} (hx:aB l x=some (st a)) (hy:aB l y=some (st b)):Yl P l W ⟨d,.binOp .eql t x y u,ty,pos,af,g⟩ (.bool (a==b)):=
 λρ w aF _=>by simp [execOp,aF x _ hx,aF y _ hy,st,eqGuard,binOp,Op.stringOp]
theorem Mc {t u:TypeId} {x y:Operand} {a b:List UInt8} (hx:aB l x=some (st a)) (hy:aB l y=some (st b)):Yl P l W ⟨d,.binOp .neq t x y u,ty,pos,af,g⟩ (.bool (!(a==b))):=
 λρ w aF _=>by simp [execOp,aF x _ hx,aF y _ hy,st,eqGuard,binOp,Op.stringOp]
theorem ab_ {t u:TypeId} {x y:Operand} {a b:List UInt8} (hx:aB l x=some (st a)) (hy:aB l y=some (st b)) (h:a.length+b.length<=9223372036854775807):Yl P l W ⟨d,.binOp .add t x y u,ty,pos,af,g⟩ (st (a++b)):=by
 intro ρ w aF _
 have e:(Op.stringOp .add ⟨a.toArray⟩ ⟨b.toArray⟩).run P w = .ok (st (a++b)) w:=by
   rw [run_string_add_sum w _ _ (by show a.toArray.size+b.toArray.size<=_; simpa using h)];simp [st]
   rfl
 simp [execOp,aF x _ hx,aF y _ hy,st,eqGuard,binOp,e]
theorem eu {t:TypeId} {x:Operand} {b:Bool} (hx:aB l x=some (.bool b)):Yl P l W ⟨d,.unOp .not t x,ty,pos,af,g⟩ (.bool (!b)):=
 λρ w aF _=>by simp [execOp,aF x _ hx,Op.unary]
theorem aO {x:Operand} {p:Addr} (hx:aB l x=some (.pointer (some p))):Yl P l W ⟨d,.nilCheck x,ty,pos,af,g⟩ (.pointer (some p)):=
 λρ w aF _=>by simp [execOp,aF x _ hx]
theorem Yx {x:Operand} {vs:Array Value} {i:Nat} {v:Value} (hx:aB l x=some (.tuple vs)) (hi:vs[i]? = some v):Yl P l W ⟨d,.extract x i,ty,pos,af,g⟩ v:=
 λρ w aF _=>by simp [execOp,aF x _ hx,Instr.extract,hi]
theorem Yf {t:TypeId} {x:Operand} {f o b k:Nat} (ho:aX P t f=some k) (hx:aB l x=some (.pointer (some ⟨b,o,none⟩))):Yl P l W ⟨d,.fieldAddr t x f,ty,pos,af,g⟩ (.pointer (some ⟨b,o+k,none⟩)):=by
 intro ρ w aF _;unfold aX at ho
 cases hu:P.underlying t with
 | none=>simp [hu] at ho
 | some dd=>
   cases dd<;>simp [hu] at ho
   rename_i fs
   cases hf:fs[f]? with
   | none=>simp [hf] at ho
   | some fd=>
     simp [hf] at ho
     cases hi:P.info? fd.type with
     | none=>simp [hi] at ho
     | some i=>
       simp [hi] at ho;obtain ⟨h0,rfl⟩:=ho;simp [execOp,aF x _ hx,Instr.fieldAt,run_underlying hu,hf,Instr.sureAddr,fieldPlace,sizeOf,typeInfo,hi,h0,qv]
theorem Md {t:TypeId} {x y:Operand} {b o n c s:Nat} {k:IntKind} {i:Int} (hs:dL P t=some s) (hx:aB l x=some (.slice (some ⟨b,o,none⟩) n c)) (hy:aB l y=some (.int k i)) (h0:0<=i) (h1:i<n) :
   Yl P l W ⟨d,.indexAddr t x y,ty,pos,af,g⟩ (.pointer (some ⟨b,o+i.toNat*s,none⟩)):=by
 intro ρ w aF _;unfold dL at hs
 cases hu:P.underlying t with
 | none=>simp [hu] at hs
 | some dd=>
   cases dd<;>simp [hu] at hs
   rename_i e;obtain ⟨inf,hi,rfl⟩:=hs;simp [execOp,aF x _ hx,aF y _ hy,Instr.indexAt,run_underlying hu,asIntOf,h0,h1,sizeOf,typeInfo,hi,qv]
theorem aca {t:TypeId} {x y:Operand} {b o n c s:Nat} {k:IntKind} {i:Nat} (hs:dL P t=some s) (hx:aB l x=some (.slice (some ⟨b,o,none⟩) n c)) (hy:aB l y=some (.int k (i:Int))) (h1:i<n) :
   Yl P l W ⟨d,.indexAddr t x y,ty,pos,af,g⟩ (.pointer (some ⟨b,o+i*s,none⟩)):=by
 have:=Md (P:=P) (W:=W) (d:=d) (ty:=ty) (pos:=pos) (af:=af) (g:=g) hs hx hy (by omega) (by omega)
 simpa using this
theorem Yn {t:TypeId} {x:Operand} {a:Option Addr} {n c s:Nat} (hs:dL P t=some s) (hx:aB l x=some (.slice a n c)):Yl P l W ⟨d,.call ⟨.builtin .len,#[x],#[t]⟩,ty,pos,af,g⟩ (.int .i64 (n:Int)):=by
 intro ρ w aF _;unfold dL at hs
 cases hu:P.underlying t with
 | none=>simp [hu] at hs
 | some dd=>
   cases dd<;>simp [hu] at hs
   simp [execOp,resolve,invoke,builtin,aF x _ hx,Builtin.len_,run_underlying hu,goInt]
theorem CV {t:TypeId} {x:Operand} {s:List UInt8} (hs:P.underlying t=some .string) (hx:aB l x=some (st s)):Yl P l W ⟨d,.call ⟨.builtin .len,#[x],#[t]⟩,ty,pos,af,g⟩ (.int .i64 (s.length:Int)):=by
 intro ρ w aF _
 have e:(ByteArray.mk s.toArray).size=s.length:=by show s.toArray.size=_; simp
 simp [execOp,resolve,invoke,builtin,aF x _ hx,st,Builtin.len_,run_underlying hs,goInt,e]
theorem acb (s:List UInt8) (i:Nat):(ByteArray.mk s.toArray)[i]? = s[i]?:=by
 rcases Nat.lt_or_ge i s.length with h | h
 · rw [List.getElem?_eq_getElem h,getElem?_pos (ByteArray.mk s.toArray) i (by show i<s.toArray.size; simpa using h)]
   rfl
 · rw [List.getElem?_eq_none h,getElem?_neg (ByteArray.mk s.toArray) i (by show ¬i<s.toArray.size; simpa using h)]
theorem acd {t:TypeId} {x y:Operand} {s:List UInt8} {k:IntKind} {i:Int} {u:UInt8} (hs:P.underlying t=some .string) (hx:aB l x=some (st s)) (hy:aB l y=some (.int k i)) (h0:0<=i) (hu:s[i.toNat]? = some u) :
   Yl P l W ⟨d,.index t x y,ty,pos,af,g⟩ (.int .u8 (u.toNat:Int)):=by
 intro ρ w aF _;simp [execOp,aF x _ hx,aF y _ hy,st,Instr.index,asIntOf,run_underlying hs,h0,acb,hu]
theorem CX {t:TypeId} {x y:Operand} {s:List UInt8} {k:IntKind} {i:Nat} {u:UInt8} (hs:P.underlying t=some .string) (hx:aB l x=some (st s)) (hy:aB l y=some (.int k (i:Int))) (hu:s[i]? = some u) :
   Yl P l W ⟨d,.index t x y,ty,pos,af,g⟩ (.int .u8 (u.toNat:Int)):=acd hs hx hy (by omega) (by simpa using hu)
theorem Ha {t:TypeId} {x:Operand} {b o:Nat} {v:Value} (ht:dI P t=true) (hx:aB l x=some (.pointer (some ⟨b,o,none⟩))) (hc:∀w,W w->w.cell? ⟨b,o,none⟩=some v):Yl P l W ⟨d,.load t x,ty,pos,af,g⟩ v:=
 λρ w aF hw=>by simp [execOp,aF x _ hx,Instr.loadAt,Instr.sureAddr,SS ht (hc w hw)]
theorem Me {t:TypeId} {x:Operand} {b o n:Nat} {cs:List Value} (ht:eQ P t=some n) (hx:aB l x=some (.pointer (some ⟨b,o,none⟩))) (hl:cs.length=n) (hc:∀w,W w->∀j v,cs[j]? = some v->w.cell? ⟨b,o+j,none⟩=some v) :
   Yl P l W ⟨d,.load t x,ty,pos,af,g⟩ (.agg cs.toArray):=
 λρ w aF hw=>by simp [execOp,aF x _ hx,Instr.loadAt,Instr.sureAddr,G' ht hl (hc w hw)]
theorem dm {t:TypeId} {x:Operand} {b o:Nat} {v:Value} {H:View} (i:Nat) (ht:dI P t=true) (hx:aB l x=some (.pointer (some ⟨b,o,none⟩))) (hV:Vs[i]? = some H) (hc:vc H b o=some v) :
   Yl P l (Ws w0 F L Vs) ⟨d,.load t x,ty,pos,af,g⟩ v:=Ha ht hx λ_ hw=>(hw.vs H (du hV)).cell hc
theorem cM {t:TypeId} {x:Operand} {b o n:Nat} {cs:List Value} {H:View} (i:Nat) (ht:eQ P t=some n) (hx:aB l x=some (.pointer (some ⟨b,o,none⟩))) (hV:Vs[i]? = some H) (hl:cs.length=n) (hc:∀j v,cs[j]? = some v->vc H b (o+j)=some v) :
   Yl P l (Ws w0 F L Vs) ⟨d,.load t x,ty,pos,af,g⟩ (.agg cs.toArray):=Me ht hx hl λ_ hw j v h=>(hw.vs H (du hV)).cell (hc j v h)
theorem Yd {t:TypeId} {x:Operand} {b o:Nat} {v:Value} {ob:Obj} (i:Nat) (hx:aB l x=some (.pointer (some ⟨b,o,none⟩))) (hL:L[i]? = some (ab b ob)) (hc:gJ ob o=some v) (ht:dI P t=true) :
   Yl P l (Ws w0 F L Vs) ⟨d,.load t x,ty,pos,af,g⟩ v:=Ha ht hx λ_ hw=>cell_of_heap (hw.kn _ (du hL)) hc
def cellsIn (o:Obj) (k n:Nat):List Value:=match o with | .cells c _ _=>(c.toList.drop k).take n | _=>[]
theorem bA {t:TypeId} {x:Operand} {b o n:Nat} {ob:Obj} (i:Nat) (hx:aB l x=some (.pointer (some ⟨b,o,none⟩))) (hL:L[i]? = some (ab b ob)) (ht:eQ P t=some n) (hl:(cellsIn ob o n).length=n) :
   Yl P l (Ws w0 F L Vs) ⟨d,.load t x,ty,pos,af,g⟩ (.agg (cellsIn ob o n).toArray):=Me ht hx hl λw hw j v h=>by
 have hk:w.heap[b]? = some ob:=hw.kn _ (du hL);refine cell_of_heap hk ?_
 cases ob<;>simp [cellsIn,gJ] at *
 rw [List.getElem?_take] at h
 split at h
 · simpa using h
 · cases h
end
def zeroOf (P:Program) (t:TypeId):Option Value:=(P.info? t).bind (·.zero)
def cq (P:Program) (t:TypeId):Option Nat:=(P.info? t).map (·.size)
theorem xP {P:Program} {t:TypeId} {z:Value} (h:zeroOf P t=some z) (w:World):(zeroValue t).run P w = .ok z w:=by
 unfold zeroOf at h
 cases hi:P.info? t with
 | none=>simp [hi] at h
 | some i=>simp [hi] at h; simp [zeroValue,typeInfo,hi,h]
theorem Hb {P:Program} {t:TypeId} {k:Nat} (h:cq P t=some k) (w:World):(sizeOf t).run P w = .ok k w:=by
 unfold cq at h
 cases hi:P.info? t with
 | none=>simp [hi] at h
 | some i=>simp [hi] at h; simp [sizeOf,typeInfo,hi,h]
theorem ace (vs:List Value):∀(k off:Nat) (cells:Array Value),off+k+vs.length<=cells.size->
   ((vs.zipIdx k).foldl (λcs (p:Value×Nat)=>cs.setIfInBounds (off+p.2) p.1) cells).toList=cells.toList.take (off+k)++vs++cells.toList.drop (off+k+vs.length):=by
 induction vs with
 | nil=>intro k off cells _; simp
 | cons v r ih=>
   intro k off cells h;simp only [List.zipIdx_cons,List.foldl_cons];rw [ih (k+1) off _ (by simp at h ⊢; omega)];simp only [Array.toList_setIfInBounds];have:=list_seg_step cells.toList (off+k) v r (by simp at h ⊢; omega)
   simpa [Nat.add_assoc] using this
def dv:Value->List Value | .agg cs=>cs.toList | v=>[v]
theorem vP (v:Value):v.cells.toList=dv v:=by cases v<;>rfl
def si (place:Nat->Option (Nat×Nat)):List Value->List (Nat×Value)->Option (List Value)
 | cells,[]=>some cells
 | cells,(i,v)::r=>match place i with
   | some (off,size)=>bif Nat.beq (dv v).length size&&Nat.ble (off+size) cells.length then si place (cells.take off++dv v++cells.drop (off+size)) r else none
   | none=>none
theorem CY (place:Nat->Option (Nat×Nat)):∀(parts:List (Nat×Value)) (cells:Array Value) (out:List Value),si place cells.toList parts=some out->Instr.fill place cells parts=some out.toArray
 | [],cells,out,h=>by simp [si] at h; simp [Instr.fill,<-h]
 | (i,v)::r,cells,out,h=>by
   simp only [si] at h
   cases hp:place i with
   | none=>simp [hp] at h
   | some x=>
     obtain ⟨off,size⟩:=x;simp only [hp] at h
     cases hb:(Nat.beq (dv v).length size&&Nat.ble (off+size) cells.toList.length) with
     | false=>rw [hb] at h; cases h
     | true=>
       rw [hb] at h;simp only [Bool.and_eq_true] at hb;have h1:=Nat.eq_of_beq_eq_true hb.1;have h2:=Nat.le_of_ble_eq_true hb.2
       have h3:v.cells.size=size:=by rw [<-h1,<-vP]; simp
       have h4:off+v.cells.size<=cells.size:=by rw [h3]; simpa using h2
       simp only [Instr.fill,hp];rw [if_neg (by simp [h3]; rw [h3] at h4; omega)];have e:=ace v.cells.toList 0 off cells (by simpa using h4);simp only [Nat.add_zero,Array.length_toList] at e
       have e2:(v.cells.zipIdx.foldl (λcs (c,j)=>cs.setIfInBounds (off+j) c) cells)=(cells.toList.take off++dv v++cells.toList.drop (off+size)).toArray:=by
         apply Array.ext';rw [<-Array.foldl_toList,Array.toList_zipIdx];rw [h3] at e;rw [e,vP]
       rw [e2];exact CY place r _ out (by simpa using h)
def eR (P:Program) (t:TypeId):Option (List (Nat×Nat)):=match P.underlying t with
 | some (.struct fs)=>fs.toList.mapM λf=>(cq P f.type).map (f.offset,·)
 | _=>none
theorem run_places {P:Program}:∀(fs:List Field) (pl:List (Nat×Nat)),fs.mapM (λf=>(cq P f.type).map (f.offset,·))=some pl->∀w:World,
   (fs.mapM (m:=Sem) λf=>do pure (f.offset,<-sizeOf f.type)).run P w = .ok pl w
 | [],pl,h,w=>by simp at h; subst h; simp
 | f::fs,pl,h,w=>by
   simp only [List.mapM_cons,Option.bind_eq_bind] at h
   cases hs:cq P f.type with
   | none=>simp [hs] at h
   | some k=>
     simp only [hs,Option.map_some,Option.bind_some] at h
     cases hr:fs.mapM (λf=>(cq P f.type).map (f.offset,·)) with
     | none=>simp [hr] at h
     | some rl=>
       simp [hr] at h;subst h;have ih:=run_places fs rl hr w;simp only [List.mapM_cons,Sem.run_bind,Hb hs,Result.andThen_ok,Sem.run_pure,ih]
def tW (l:List (Nat×Value)):List (Nat×Operand)->Option (List (Nat×Value))
 | []=>some []
 | (i,x)::r=>match aB l x,tW l r with
   | some v,some vs=>some ((i,v)::vs)
   | _,_=>none
theorem Hc {l:List (Nat×Value)} {ρ:Operand->Value} (aF:∀x u,aB l x=some u->ρ x=u):∀(ps:List (Nat×Operand)) (vs:List (Nat×Value)),tW l ps=some vs->ps.map (λp=>(p.1,ρ p.2))=vs
 | [],vs,h=>by simp [tW] at h; simp [h]
 | (i,x)::r,vs,h=>by
   simp only [tW] at h
   cases hx:aB l x with
   | none=>simp [hx] at h
   | some v=>
     cases hr:tW l r with
     | none=>simp [hx,hr] at h
     | some us=>
       simp [hx,hr] at h;subst h;simp [aF x v hx,Hc aF r us hr]
def ik (l:List (Nat×Value)):List Operand->Option (List Value)
 | []=>some []
 | x::r=>match aB l x,ik l r with
   | some v,some vs=>some (v::vs)
   | _,_=>none
theorem Hd {l:List (Nat×Value)} {ρ:Operand->Value} (aF:∀x u,aB l x=some u->ρ x=u):∀(ps:List Operand) (vs:List Value),ik l ps=some vs->ps.map ρ=vs
 | [],vs,h=>by simp [ik] at h; simp [h]
 | x::r,vs,h=>by
   simp only [ik] at h
   cases hx:aB l x with
   | none=>simp [hx] at h
   | some v=>
     cases hr:ik l r with
     | none=>simp [hx,hr] at h
     | some us=>
       simp [hx,hr] at h;subst h;simp [aF x v hx,Hd aF r us hr]
section
variable {P:Program} {l:List (Nat×Value)} {W:World->Prop} {w0:World} {F:List Nat} {L:List ak} {Vs:List View}
 {d:Option Tmp} {ty:TypeId} {pos:String} {af:Array Edge} {g:Option (Nat×Bool)}
theorem Yb {t:TypeId} {parts:List (Nat×Operand)} {vs:List (Nat×Value)} {z:Value} {pl:List (Nat×Nat)} {out:List Value} (hz:zeroOf P t=some z) (hp:eR P t=some pl)
   (hv:tW l parts=some vs) (hf:si (λi=>pl[i]?) (dv z) vs=some out):Yl P l W ⟨d,.build t parts.toArray,ty,pos,af,g⟩ (.agg out.toArray):=by
 intro ρ w aF _
 have e1:((parts.toArray.map λ (i,x)=>(i,ρ x)):Array (Nat×Value)).toList=vs:=by simpa using Hc aF parts vs hv
 unfold eR at hp
 cases hu:P.underlying t with
 | none=>simp [hu] at hp
 | some dd=>
   cases dd<;>simp [hu] at hp
   rename_i fs;have e2:=run_places (P:=P) fs.toList pl (by simpa using hp) w
   have e3:(fs.mapM (m:=Sem) λf=>do pure (f.offset,<-sizeOf f.type)).run P w = .ok pl.toArray w:=by
     rw [Array.mapM_eq_mapM_toList,Sem.run_map,e2]; rfl
   have e4:Instr.fill (λi=>pl.toArray[i]?) z.cells vs=some out.toArray:=by
     refine CY _ vs z.cells out ?_;rw [vP]
     simpa using hf
   simp only [execOp,Instr.build,Sem.run_bind,xP hz,Result.andThen_ok,run_underlying hu,e3,e1,e4,Sem.run_pure]
end
section
variable {P:Program} {ops:Array Oper} {Q:Exit->Act->World->Prop} {n:Nat} {ds:List Deferred} {l:List (Nat×Value)} {W:World->Prop} {w0:World} {F:List Nat} {L:List ak} {Vs:List View}
 {rest:List Oper} {d:Nat} {ty:TypeId} {pos:String} {af:Array Edge} {g:Option (Nat×Bool)}
theorem SV (t:TypeId) (v:Value) (w:World):(newVar t v).run P w = .ok ⟨w.heap.size,0,none⟩ (w.alloc (.cells v.cells t)):=by
 simp [newVar,newRow]
theorem WL.new {op:Op} {o:Obj} {mk:Nat->Value} (hg:cB ops l g) (hn:Nat.blt d n=true)
   (hr:∀(ρ:Operand->Value) (w:World),(∀x u,aB l x=some u->ρ x=u)->Ws w0 F L Vs w->(execOp ρ ⟨some d,op,ty,pos,af,g⟩).run P w = .ok (.value (mk w.heap.size)) (w.alloc o))
   (h:∀b,WL P ops Q n ds ((d,mk b)::l) (Ws w0 F (ab b o::L) Vs) rest) :
   WL P ops Q n ds l (Ws w0 F L Vs) (⟨some d,op,ty,pos,af,g⟩::rest):=by
 refine WL.step hg λa w ha hw K hK=>?_;have:=hr a.eval w (λx u hx=>ha.eval hx) hw;simp only [Oper.wp,this,Oper.upon_value];exact hK _ _ (h w.heap.size _ _ (ha.put hn _) (hw.alloc o))
theorem WL.box {T:TypeId} {x:Operand} {v:Value} (hg:cB ops l g) (hn:Nat.blt d n=true) (hx:aB l x=some v)
   (h:∀b,WL P ops Q n ds ((d,.pointer (some ⟨b,0,none⟩))::l) (Ws w0 F (ab b (.cells v.cells T (0,0))::L) Vs) rest) :
   WL P ops Q n ds l (Ws w0 F L Vs) (⟨some d,.box T x,ty,pos,af,g⟩::rest):=
 WL.new (mk:=λb=>.pointer (some ⟨b,0,none⟩)) hg hn (λρ w aF hw=>by simp [execOp,Instr.box,aF x v hx,SV]) h
theorem Al {T:TypeId} {z:Value} (hg:cB ops l g) (hn:Nat.blt d n=true) (hz:zeroOf P T=some z)
   (h:∀b,WL P ops Q n ds ((d,.pointer (some ⟨b,0,none⟩))::l) (Ws w0 F (ab b (.cells z.cells T (0,0))::L) Vs) rest) :
   WL P ops Q n ds l (Ws w0 F L Vs) (⟨some d,.alloc T,ty,pos,af,g⟩::rest):=
 WL.new (mk:=λb=>.pointer (some ⟨b,0,none⟩)) hg hn (λρ w aF hw=>by simp [execOp,Instr.alloc,xP hz,SV]) h
def mg (ob:Obj) (o:Nat) (vs:List Value):Obj:=match ob with | .cells c T f=>.cells (c.toList.take o++vs++c.toList.drop (o+vs.length)).toArray T f | x=>x
def tY (ob:Obj) (o k:Nat):Bool:=match ob with | .cells c _ f=>Nat.ble (o+k) c.toList.length&&(Nat.beq f.1 0&&Nat.beq f.2 0) | _=>false
theorem SY {t:TypeId} {k b o:Nat} {ob:Obj} {v:Value} {w:World} (hs:cq P t=some k) (hl:(dv v).length=k) (h1:(dv v).all (·.oneCell')=true) (hb:w.heap[b]? = some ob) (aE:tY ob o k=true) :
   (storeVar t ⟨b,o,none⟩ v).run P w = .ok () { w with heap:=w.heap.setIfInBounds b (mg ob o (dv v)) }:=by
 cases ob with
 | cells c T f=>
   obtain ⟨f1,f2⟩:=f;simp only [tY,Bool.and_eq_true] at aE;obtain ⟨h2,h3,h4⟩:=aE;have e1:=Nat.eq_of_beq_eq_true h3;have e2:=Nat.eq_of_beq_eq_true h4;subst e1; subst e2;have h2:=Nat.le_of_ble_eq_true h2;have e:=run_storeCells_at P b o T (dv v) 0 c w hb (by simp at h2 ⊢; omega) (λu hu=>List.all_eq_true.1 h1 u hu)
   have hc:v.cells.size=k:=by rw [<-hl,<-vP]; simp
   have e0:(storeVar t ⟨b,o,none⟩ v).run P w=(storeCells ⟨b,o,none⟩ (dv v)).run P w:=by
     simp [storeVar,Hb hs,hc,vP]
   rw [e0,e];have He:=setRow_heap w b c (c.toList.take (o+0)++dv v++c.toList.drop (o+0+(dv v).length)).toArray T (0,0) hb;have aw:=lt_of_heap hb;simp only [mg,Nat.add_zero] at He ⊢
   suffices hh:(w.setRow b (c.toList.take o++dv v++c.toList.drop (o+(dv v).length)).toArray).heap=w.heap.setIfInBounds b (.cells (c.toList.take o++dv v++c.toList.drop (o+(dv v).length)).toArray T (0,0)) by
     rw [<-hh]; rfl
   apply Array.ext_getElem?;intro j
   by_cases hj:b=j
   · subst hj
     rw [He];simp [aw]
   · rw [Array.getElem?_setIfInBounds_ne hj]
     simp [World.setRow,Array.getElem?_modify,hj]
 | _=>simp [tY] at aE
theorem an {t:TypeId} {x y:Operand} {b o k:Nat} {ob:Obj} {v:Value} (i:Nat) (hg:cB ops l g) (hx:aB l x=some (.pointer (some ⟨b,o,none⟩))) (hy:aB l y=some v) (hL:L[i]? = some (ab b ob))
   (hs:cq P t=some k) (hl:(dv v).length=k) (h1:(dv v).all (·.oneCell')=true) (aE:tY ob o k=true)
   (h:WL P ops Q n ds l (Ws w0 F (L.set i (ab b (mg ob o (dv v)))) Vs) rest) :
   WL P ops Q n ds l (Ws w0 F L Vs) (⟨none,.store t x y,ty,pos,af,g⟩::rest):=by
 refine WL.step hg λa w ha hw K hK=>?_;have hb:w.heap[b]? = some ob:=hw.kn _ (du hL)
 have dM:(execOp a.eval ⟨none,.store t x y,ty,pos,af,g⟩).run P w = .ok .skip { w with heap:=w.heap.setIfInBounds b (mg ob o (dv v)) }:=by
   simp only [execOp,ha.eval hx,ha.eval hy,Instr.storeAt,Instr.sureAddr,Sem.run_bind,Sem.run_pure,Result.andThen_ok,SY hs hl h1 hb aE]
 simp only [Oper.wp,dM,Oper.upon_skip];refine hK _ _ (h _ _ (ha.CM undef) ?_);refine Ws.vN hw i hL ⟨O,O,O,by simp,λj hj dt=>?_⟩ ?_ (by simp [ab]) (by simp [ab])
 · have:b≠j:=λe=>dt (by simp [ab,e])
   simp [Array.getElem?_setIfInBounds_ne this]
 · show (w.heap.setIfInBounds b _)[b]? = _
   simp [lt_of_heap hb]
def Enters (P:Program) (f:FuncId):Prop:=∀args w,(callFunc f args).run P w = .ok (.enter f args) w
theorem enters_of {f : FuncId} {fn : Func} (hf : P.funcs[f]? = some fn) (hn : (fn.name == "runtime.NumGoroutine") = false) (hb : fn.body.isNone = false) : Enters P f := λargs w => by
 have tZ : fn.name ≠ "runtime.NumGoroutine" := by simpa using hn
 have xQ:fn.body≠none:=by intro e; rw [e] at hb; cases hb
 simp [callFunc,hf,tZ,xQ]
theorem Mf {ρ:Operand->Value} {dst:Option Tmp} {f:FuncId} {args:Array Operand} {ts:Array TypeId} {vs:List Value} {w:World} (hf:Enters P f) (aF:∀x u,aB l x=some u->ρ x=u) (ha:ik l args.toList=some vs) :
   (execOp ρ ⟨dst,.call ⟨.value (.func f),args,ts⟩,ty,pos,af,g⟩).run P w = .ok (.enter f vs.toArray) w:=by
 have e:args.map ρ=vs.toArray:=by
   apply Array.ext'
   simpa using Hd aF _ _ ha
 have e2:ρ (.func f) = .func (.func f) #[] #[]:=aF (.func f) _ rfl;simp only [execOp,resolve,e,e2,Deferred.ofValue,Sem.run_bind,Sem.run_pure,Result.andThen_ok,invoke]
 simpa using hf _ w
theorem WL.CZ {ι:Type} {f:FuncId} {args:Array Operand} {ts:Array TypeId} {vs:List Value} (hg:cB ops l g) (hn:Nat.blt d n=true) (hf:Enters P f) (ha:ik l args.toList=some vs)
   (v:ι->Value) (R:ι->World->Prop) (Pn:List PanicEntry->World->Prop)
   (hC:∀w,W w->Calls P f vs.toArray w λe w'=>(∃i,e = .returned (v i)/\R i w')\/∃ch,e = .panicked ch/\Pn ch w')
   (hr:∀i,WL P ops Q n ds ((d,v i)::l) (R i) rest) (hp:∀ch,WE Q (.panic ch) n ds l (Pn ch)) :
   WL P ops Q n ds l W (⟨some d,.call ⟨.value (.func f),args,ts⟩,ty,pos,af,g⟩::rest):=by
 refine WL.step hg λa w cN hw K hK=>?_;have dM:=Mf (P:=P) (dst:=some d) (ts:=ts) (ty:=ty) (pos:=pos) (af:=af) (g:=g) (w:=w) hf (λx u hx=>cN.eval hx) ha;simp only [Oper.wp,dM,Oper.upon_enter];refine (hC w hw).mono λe w' he=>?_
 rcases he with ⟨i,rfl,h⟩ | ⟨ch,rfl,h⟩
 · exact hK _ _ (hr i _ _ (cN.put hn _) h)
 · exact hp ch _ _ cN h
theorem WL.call {ι:Type} {f:FuncId} {args:Array Operand} {ts:Array TypeId} {vs:List Value} (hg:cB ops l g) (hn:Nat.blt d n=true) (hf:Enters P f) (ha:ik l args.toList=some vs)
   (v:ι->Value) (R:ι->World->Prop)
   (hC:∀w,W w->Calls P f vs.toArray w λe w'=>∃i,e = .returned (v i)/\R i w')
   (hr:∀i,WL P ops Q n ds ((d,v i)::l) (R i) rest) :
   WL P ops Q n ds l W (⟨some d,.call ⟨.value (.func f),args,ts⟩,ty,pos,af,g⟩::rest):=
 WL.CZ hg hn hf ha v R (λ_ _=>False) (λw hw=>(hC w hw).mono λ_ _ h=>.inl h) hr (λ_ _ _ _ h=>h.elim)
theorem Lp {f:FuncId} {args:Array Operand} {ts:Array TypeId} {vs:List Value} {v:Value} (hg:cB ops l g) (hn:Nat.blt d n=true) (hf:Enters P f) (ha:ik l args.toList=some vs)
   (hC:∀w,Ws w0 F L Vs w->Calls P f vs.toArray w λe w'=>e = .returned v/\Ext w w')
   (hr:WL P ops Q n ds ((d,v)::l) (Ws w0 F L Vs) rest) :
   WL P ops Q n ds l (Ws w0 F L Vs) (⟨some d,.call ⟨.value (.func f),args,ts⟩,ty,pos,af,g⟩::rest):=by
 refine WL.step hg λa w cN hw K hK=>?_;have dM:=Mf (P:=P) (dst:=some d) (ts:=ts) (ty:=ty) (pos:=pos) (af:=af) (g:=g) (w:=w) hf (λx u hx=>cN.eval hx) ha;simp only [Oper.wp,dM,Oper.upon_enter];refine (hC w hw).mono λe w' he=>?_;obtain ⟨rfl,h⟩:=he;exact hK _ _ (hr _ _ (cN.put hn _) (hw.ext h))
theorem Ld {ι:Type} {f:FuncId} {args:Array Operand} {ts:Array TypeId} {vs:List Value} (hg:cB ops l g) (hn:Nat.blt d n=true) (hf:Enters P f) (ha:ik l args.toList=some vs)
   (v:ι->Value) (R:View->ι->Prop)
   (hC:∀w,Ws w0 F L Vs w->Calls P f vs.toArray w λe w'=>∃i,e = .returned (v i)/\Ext w w'/\R (nv w w') i)
   (hr:∀H i,eE w0 H->R H i->WL P ops Q n ds ((d,v i)::l) (Ws w0 F L (H::Vs)) rest) :
   WL P ops Q n ds l (Ws w0 F L Vs) (⟨some d,.call ⟨.value (.func f),args,ts⟩,ty,pos,af,g⟩::rest):=by
 refine WL.step hg λa w cN hw K hK=>?_;have dM:=Mf (P:=P) (dst:=some d) (ts:=ts) (ty:=ty) (pos:=pos) (af:=af) (g:=g) (w:=w) hf (λx u hx=>cN.eval hx) ha;simp only [Oper.wp,dM,Oper.upon_enter];refine (hC w hw).mono λe w' he=>?_;obtain ⟨i,rfl,h,hR⟩:=he;exact hK _ _ (hr (nv w w') i ((Ak w w').mono hw.fr.size) hR _ _ (cN.put hn _) (hw.view h (L9 w w') (Ak w w')))
end
section
variable {P:Program} {ops:Array Oper} {Q:Exit->Act->World->Prop} {n:Nat} {ds:List Deferred} {l:List (Nat×Value)} {W:World->Prop} {w0:World} {F:List Nat} {L:List ak} {Vs:List View}
 {rest:List Oper} {d:Nat} {ty:TypeId} {pos:String} {af:Array Edge} {g:Option (Nat×Bool)}
def dw (e:TypeId) (size:Nat) (v:Value) (m:Nat) (xs:List Value):ak:=
 ⟨v.ownBlock.toList,λw=>w.ownsRow 0 e size v m xs,
  λw w' h hw=>by
   obtain ⟨h1,h2⟩:=hw;refine ⟨h1,?_⟩
   rcases h2 with h2 | ⟨g,cap,cur,hv,h0,hg,r⟩
   · exact .inl h2
   · exact .inr ⟨g,cap,cur,hv,h0,by rw [h g (by simp [hv,Value.ownBlock])]; exact hg,r⟩,
  λw hw k hk=>by
   obtain ⟨h1,h2⟩:=hw
   rcases h2 with ⟨h2,_⟩ | ⟨g,cap,cur,hv,h0,hg,r⟩
   · subst h2; simp [Value.ownBlock] at hk
   · subst hv; simp [Value.ownBlock] at hk; subst hk; exact lt_of_heap hg⟩
theorem Ws.fB {w:World} (h:Ws w0 F L Vs w) (e:TypeId) (size:Nat):Ws w0 F (dw e size (.slice none 0 0) 0 []::L) Vs w:=by
 have:=Ws.An (L:=[]) (L':=[dw e size (.slice none 0 0) 0 []]) (L2:=L) (by simpa using h) (Fr.refl _ _)
   (by intro A hA; simp at hA; subst hA; exact World.ownsRow_nil _ _ _ _) (by simp [dw,Value.ownBlock]) (by simp [dw,Value.ownBlock])
 simpa using this
theorem Ws.SZ {w:World} (h:Ws w0 F L Vs w) (i:Nat) {b m cap:Nat} {cur:Array Value} {e:TypeId} {size:Nat} (hL:L[i]? = some (ab b (.cells cur e (0,0)))) (hm:m<=cap) (hc:cap<=maxLen) (hs:cur.size=cap*size) :
   Ws w0 F (L.set i (dw e size (.slice (some ⟨b,0,none⟩) m cap) m (cur.toList.take (m*size)))) Vs w:=by
 have hb:w.heap[b]? = some (.cells cur e (0,0)):=h.kn _ (du hL);refine Ws.vN h i hL (Fr.refl _ _) ?_ (by simp [dw,Value.ownBlock]) (by simp [dw,ab,Value.ownBlock]);exact ⟨by rw [List.length_take,Array.length_toList,hs]; exact Nat.min_eq_left (Nat.mul_le_mul_right _ hm),.inr ⟨b,cap,cur,O,Nat.zero_le _,hb,hm,hc,hs,O⟩⟩
structure eS (P:Program) (t e:TypeId) (z:Value) (size bytes:Nat):Prop where
 under:P.underlying t=some (.slice e)
 info:∃i,P.info? e=some i/\i.zero=some z/\i.size=size/\i.bytes=bytes
 zs:z.cells.size=size
 pos:0<size
def S1 (P:Program) (t:TypeId):Option (TypeId×Value×Nat×Nat):=match P.underlying t with
 | some (.slice e)=>match P.info? e with
   | some i=>match i.zero with
     | some z=>bif Nat.beq z.cells.size i.size&&Nat.blt 0 i.size then some (e,z,i.size,i.bytes) else none
     | none=>none
   | none=>none
 | _=>none
theorem gW {t e:TypeId} {z:Value} {size bytes:Nat} (h:S1 P t=some (e,z,size,bytes)):eS P t e z size bytes:=by
 unfold S1 at h
 cases hu:P.underlying t with
 | none=>simp [hu] at h
 | some dd=>
   cases dd<;>simp [hu] at h
   rename_i e'
   cases hi:P.info? e' with
   | none=>simp [hi] at h
   | some i=>
     simp [hi] at h
     cases hz:i.zero with
     | none=>simp [hz] at h
     | some z'=>
       simp only [hz] at h
       cases hb:(Nat.beq z'.cells.size i.size&&Nat.blt 0 i.size) with
       | false=>rw [hb] at h; cases h
       | true=>
         rw [hb] at h;simp at h;obtain ⟨rfl,rfl,rfl,rfl⟩:=h;simp only [Bool.and_eq_true] at hb;exact ⟨hu,⟨i,hi,hz,O,O⟩,Nat.eq_of_beq_eq_true hb.1,Nat.le_of_ble_eq_true hb.2⟩
theorem acf {t e ty:TypeId} {z v v':Value} {size bytes m c k:Nat} {a:Addr} {xs news:List Value} {w w':World} (hE:eS P t e z size bytes) (Ao:w.ownsRow 0 e size v m xs)
   (hl:news.length=k*size) (Aq:∀j u,news[j]? = some u->w.cell? (a.add j)=some u) (h1:∀u ∈ news,u.oneCell'=true)
   (og:m+k<=maxLen) (t':(m+k)*bytes<=140737488355328) (dM:(Builtin.append_ #[t,t] ty #[v,.slice (some a) k c]).run P w = .ok v' w') (vQ:v' = .slice none 0 0↔v = .slice none 0 0/\k=0) :
   v'.ownBlock=v.ownBlock\/v'.ownBlock=some w.heap.size:=by
 obtain ⟨inf,hi,hz,ga,lI⟩:=hE.info;subst ga; subst lI
 have acg:((m+k:Nat):Int)<=9223372036854775807:=by simp only [maxLen] at og; omega
 obtain ⟨hx,h2⟩:=Ao
 rcases h2 with ⟨rfl,rfl⟩ | ⟨g,cap,cur,rfl,_,hg,mh,xR,im,xS⟩
 · by_cases hk:k=0
   · exact .inl (by rw [vQ.2 ⟨O,hk⟩])
   · have e2:=run_append_nil (P:=P) w t ty e inf z hE.under hi hz a k c news hl Aq (by omega) (by omega) (by simp at t'; omega)
     rw [dM] at e2
     injection e2 with e2 _
     exact .inr (by rw [e2]; rfl)
 · by_cases S2:m+k<=cap
   · have e2:=run_append_room (P:=P) w t ty e inf hE.under hi g m cap cur hg a k c news hl Aq h1 S2 (by
       rw [hl,im,<-Nat.add_mul]; exact Nat.mul_le_mul_right _ S2)
     rw [dM] at e2
     injection e2 with e2 _
     exact .inl (by rw [e2]; rfl)
   · have ach:∀j v,xs[j]? = some v->w.cell? ((⟨g,0,none⟩:Addr).add j)=some v:=by
       intro j u hu;rw [qv,<-xS] at *;refine cell_of_heap hg ?_;rw [List.getElem?_take] at hu
       split at hu
       · simpa [gJ] using hu
       · cases hu
     have e2:=run_append_grow (P:=P) w t ty e inf z hE.under hi hz ⟨g,0,none⟩ m cap xs hx ach a k c news hl Aq (by omega) acg (growslice_fits (by omega) t');rw [dM] at e2
     injection e2 with e2 _
     exact .inr (by rw [e2]; rfl)
theorem WL.append {t e:TypeId} {z v:Value} {size bytes m c k:Nat} {s x:Operand} {a:Addr} {xs news:List Value} (i:Nat) (hg:cB ops l g) (hn:Nat.blt d n=true) (hE:eS P t e z size bytes)
   (hs:aB l s=some v) (hx:aB l x=some (.slice (some a) k c)) (hL:L[i]? = some (dw e size v m xs))
   (hl:news.length=k*size) (Aq:∀w,Ws w0 F L Vs w->∀j u,news[j]? = some u->w.cell? (a.add j)=some u) (h1:∀u ∈ news,u.oneCell'=true)
   (og:m+k<=maxLen) (t':(m+k)*bytes<=140737488355328)
   (h:∀v',(v' = .slice none 0 0↔v = .slice none 0 0/\k=0)->WL P ops Q n ds ((d,v')::l) (Ws w0 F (L.set i (dw e size v' (m+k) (xs++news))) Vs) rest) :
   WL P ops Q n ds l (Ws w0 F L Vs) (⟨some d,.call ⟨.builtin .append,#[s,x],#[t,t]⟩,ty,pos,af,g⟩::rest):=by
 refine WL.step hg λa' w ha hw K hK=>?_;obtain ⟨inf,hi,hz,ga,lI⟩:=hE.info;have Ao:w.ownsRow 0 e size v m xs:=hw.kn _ (du hL);obtain ⟨v',w',dM,aci,C0,vQ⟩:=run_append_own (P:=P) w 0 t ty e inf z size bytes hE.under hi hz ga lI hE.zs hE.pos v m xs Ao a k c news hl (Aq w hw) h1 og t' (Nat.zero_le _)
 have qw:(execOp a'.eval ⟨some d,.call ⟨.builtin .append,#[s,x],#[t,t]⟩,ty,pos,af,g⟩).run P w = .ok (.value v') w':=by
   simp only [execOp,resolve,List.map_toArray,List.map_cons,List.map_nil,ha.eval hs,ha.eval hx,Sem.run_bind,Sem.run_pure,Result.andThen_ok,invoke,builtin,dM]
 simp only [Oper.wp,qw,Oper.upon_value];refine hK _ _ (h v' vQ _ _ (ha.put hn _) ?_);refine Ws.vN hw i hL ⟨C0.os,C0.tape,C0.output,C0.size,λj hj dt=>C0.block j hj λe=>dt ?_⟩ aci ?_ λj hj=>?_
 · simp [dw,<-e]
 · cases hv:v'.ownBlock<;>simp [dw,hv]
 · simp only [dw,Option.mem_toList] at hj ⊢
   rcases acf hE Ao hl (Aq w hw) h1 og t' dM vQ with e | e
   · exact .inl (by rw [<-e]; exact hj)
   · rw [e] at hj; injection hj with hj; exact .inr (by omega)
end
section
variable {P:Program} {ops:Array Oper} {Q:Exit->Act->World->Prop} {n:Nat} {ds:List Deferred} {l:List (Nat×Value)} {W:World->Prop} {w0:World} {F:List Nat} {L:List ak} {Vs:List View}
def pg (us l:List (Nat×Value)):Bool:=us.all λp=>(lk l p.1).isNone
theorem acj {us:List (Nat×Value)} (hf:pg us l=true) {t:Nat} {u:Value} (hu:lk l t=some u):lk (us++l) t=some u:=by
 induction us with
 | nil=>exact hu
 | cons p r ih=>
   obtain ⟨k,v⟩:=p;simp only [pg,List.all_cons,Bool.and_eq_true] at hf;simp only [List.cons_append,lk]
   cases hb:Nat.beq k t with
   | false=>exact ih hf.2
   | true=>
     have:=Nat.eq_of_beq_eq_true hb;subst this;have hn:=hf.1;rw [hu] at hn;cases hn
theorem Ag.forget {a:Act} {us:List (Nat×Value)} (h:Ag n ds (us++l) a) (hf:pg us l=true):Ag n ds l a:=
 ⟨h.size,h.defs,λt u hu=>h.fy t u (acj hf hu)⟩
theorem Ag.Hf {a:Act} {l':List (Nat×Value)} (m:Nat) (h:Ag n ds l' a) (hd:l'.drop m=l) (hf:pg (l'.take m) l=true):Ag n ds l a:=by
 subst hd;rw [<-List.take_append_drop m l'] at h;exact h.forget hf
def kZ (ops:Array Oper):List (Nat×Value)->List Oper->Option (List (Nat×Value))
 | l,[]=>some l
 | l,o::r=>match o.guard,o.dst with
   | some (j,b),some d=>match (ops[j]?).bind (·.dst) with
     | some dj=>match lk l dj with
       | some (.bool b')=>bif (b' != b) then kZ ops ((d,undef)::l) r else none
       | some (.tuple _)=>kZ ops ((d,undef)::l) r
       | _=>none
     | none=>none
   | _,_=>none
def sj (n:Nat) (os:List Oper):Bool:=os.all λo=>match o.dst with | some d=>Nat.blt d n | none=>true
theorem S3 {a:Act} {l:List (Nat×Value)} (ha:Ag n ds l a) {t:Nat} {v:Value} (h:lk l t=some v) (hv:v≠undef\/t<n):a.tmps[t]? = some v:=by
 have h1:=ha.fy t v h;rw [Array.getD_eq_getD_getElem?] at h1
 rcases Nat.lt_or_ge t a.tmps.size with aw | cz
 · rw [Array.getElem?_eq_getElem aw] at h1 ⊢
   simpa using h1
 · rw [Array.getElem?_eq_none cz] at h1
   rcases hv with hv | hv
   · exact absurd (by simpa using h1.symm) hv
   · rw [ha.size] at cz; omega
theorem WL.Mg {gs rest:List Oper} {l2:List (Nat×Value)}:∀{l:List (Nat×Value)},kZ ops l gs=some l2->sj n gs=true->(∀a w,Ag n ds l2 a->W w->wpList P ops Q rest a w)->
   ∀a w,Ag n ds l a->W w->wpList P ops Q (gs++rest) a w:=by
 induction gs with
 | nil=>intro l hs _ h a w ha hw; simp [kZ] at hs; subst hs; exact h a w ha hw
 | cons o r ih=>
   intro l hs eZ h a w ha hw;simp only [kZ] at hs;simp only [sj,List.all_cons,Bool.and_eq_true] at eZ
   have key:∀d,o.dst=some d->Region.wanted o (yielded ops a.tmps)=false->kZ ops ((d,undef)::l) r=some l2->wpList P ops Q (o::r++rest) a w:=by
     intro d hd dE Hg
     have Mh:Nat.blt d n=true:=by have:=eZ.1; rw [hd] at this; exact this
     simp only [List.cons_append,wpList,dE];rw [hd];exact ih Hg eZ.2 h _ _ (ha.put Mh undef) hw
   cases hg:o.guard with
   | none=>simp [hg] at hs
   | some jb=>
     obtain ⟨j,b⟩:=jb
     cases hd:o.dst with
     | none=>simp [hg,hd] at hs
     | some d=>
       simp only [hg,hd] at hs
       cases hj:(ops[j]?).bind (·.dst) with
       | none=>simp [hj] at hs
       | some dj=>
         simp only [hj] at hs
         cases hl:lk l dj with
         | none=>simp [hl] at hs
         | some v=>
           simp only [hl] at hs;have hv:=ha.fy dj v hl
           cases v with
           | bool b'=>
             cases hb:(b' != b) with
             | false=>simp [hb] at hs
             | true=>
               simp only [hb,cond_true] at hs;refine key d hd ?_ hs;have tV:=S3 ha hl (.inl (by simp [undef]))
               have hy:yielded ops a.tmps j=some b':=by simp [yielded,hj,tV]
               simp only [Region.wanted,hg,hy]
               cases b<;>cases b'<;>first | rfl | (simp at hb)
           | tuple vs=>
             refine key d hd ?_ hs
             have hy:yielded ops a.tmps j=none:=by
               simp only [yielded,hj,Option.bind_some];rw [Array.getD_eq_getD_getElem?] at hv
               cases ht:a.tmps[dj]? with
               | none=>rfl
               | some u=>simp [ht] at hv; simp [hv]
             simp [Region.wanted,hg,hy]
           | _=>simp at hs
theorem ack {gs rest:List Oper}:∀(a:Act) (w:World),wpList P ops (Exit.then (wpList P ops Q rest) Q) gs a w->wpList P ops Q (gs++rest) a w:=by
 induction gs with
 | nil=>intro a w h; exact h
 | cons o r ih=>
   intro a w h;simp only [List.cons_append,wpList] at h ⊢
   split
   · rename_i hw
     rw [if_pos hw] at h
     rcases h with h | ⟨h1,a2,w2,h2⟩
     · left
       unfold Oper.wp at h ⊢;unfold Oper.upon at h ⊢
       split at h
       all_goals first
         | exact ih _ _ h
         | exact h
         | (refine h.mono λe w' he=>?_
            cases e with
            | returned v=>exact ih _ _ he
            | panicked ch=>exact he
            | outgrown=>obtain ⟨a3,w3,h3⟩:=he; exact ⟨a3,w3,h3⟩)
         | exact h.mono λv w' he=>ih _ _ he
     · exact .inr ⟨h1,a2,w2,h2⟩
   · rename_i hw
     rw [if_neg hw] at h;exact ih _ _ h
theorem acm {Q':Exit->Act->World->Prop} (hq:∀e a w,Q e a w->Q' e a w) {gs:List Oper}:∀(a:Act) (w:World),wpList P ops Q gs a w->wpList P ops Q' gs a w:=by
 induction gs with
 | nil=>intro a w h; exact hq _ _ _ h
 | cons o r ih=>
   intro a w h;simp only [wpList] at h ⊢
   split
   · rename_i hw
     rw [if_pos hw] at h
     rcases h with h | ⟨h1,a2,w2,h2⟩
     · left
       unfold Oper.wp at h ⊢;unfold Oper.upon at h ⊢
       split at h
       all_goals first
         | exact ih _ _ h
         | exact hq _ _ _ h
         | exact h
         | (refine h.mono λe w' he=>?_
            cases e with
            | returned v=>exact ih _ _ he
            | panicked ch=>exact hq _ _ _ he
            | outgrown=>obtain ⟨a3,w3,h3⟩:=he; exact ⟨a3,w3,hq _ _ _ h3⟩)
         | exact h.mono λv w' he=>ih _ _ he
     · exact .inr ⟨h1,a2,w2,hq _ _ _ h2⟩
   · rename_i hw
     rw [if_neg hw] at h;exact ih _ _ h
def sk (Q:Exit->Act->World->Prop) (n:Nat) (ds:List Deferred) (l:List (Nat×Value)) (W:World->Prop) (dx:Nat) (x:Value):Exit->Act->World->Prop:=
 Exit.then (λa w=>(Ag n ds l a/\a.tmps.getD dx undef=x)/\W w) Q
theorem Gt {l':List (Nat×Value)} {dx:Nat} {x:Value} (m:Nat) (hx:lk l' dx=some x) (hd:l'.drop m=l) (hf:pg (l'.take m) l=true):WL P ops (sk Q n ds l W dx x) n ds l' W []:=
 λa w ha hw=>⟨⟨ha.Hf m hd hf,ha.fy _ _ hx⟩,hw⟩
theorem Ag.known {a:Act} (h:Ag n ds l a) {d:Nat} {v:Value} (hv:lk l d=some v):Ag n ds ((d,v)::l) a:=
 ⟨h.size,h.defs,λt u hu=>by
   simp only [lk] at hu
   cases hb:Nat.beq d t with
   | true=>
     rw [hb] at hu;have:=Nat.eq_of_beq_eq_true hb;subst this;simp at hu; subst hu;exact h.fy _ _ hv
   | false=>rw [hb] at hu; exact h.fy t u hu⟩
theorem Ag.Hh {a:Act} {d:Nat} {v:Value} (h:Ag n ds ((d,v)::l) a) (hv:lk l d=some v):Ag n ds l a:=
 ⟨h.size,h.defs,λt u hu=>by
   refine h.fy t u ?_;simp only [lk]
   cases hb:Nat.beq d t with
   | true=>
     have:=Nat.eq_of_beq_eq_true hb;subst this;rw [hv] at hu
     simpa using hu
   | false=>exact hu⟩
theorem WL.C1 (m:Nat) {os:List Oper} {dj dp dx:Nat} (want:Bool) {c x:Bool} {t a b:Operand} {ty:TypeId} {pos:String} {af:Array Edge} {g:Option (Nat×Bool)} {l2:List (Nat×Value)}
   (hp:os[m]? = some ⟨some dp,.pick t a b,ty,pos,af,g⟩) (C2:t = .tmp dj) (hb:lk l dj=some (.bool c)) (eZ:sj n (os.take m)=true)
   (hg:cB ops l g) (qx:Nat.blt dp n=true)
   (fK:(a,b)=(bif want then (Operand.tmp dx,Operand.const (.bool false)) else (Operand.const (.bool true),Operand.tmp dx)))
   (hF:kZ ops ((dj,.bool (!want))::l) (os.take m)=some l2) (qy:l2.drop m=(dj,.bool (!want))::l) (qz:pg (l2.take m) ((dj,.bool (!want))::l)=true)
   (hT:c=want->WL P ops (sk Q n ds ((dj,.bool want)::l) W dx (.bool x)) n ds ((dj,.bool want)::l) W (os.take m))
   (h:WL P ops Q n ds ((dp,.bool (bif want then c&&x else c||x))::l) W (os.drop (m+1))):WL P ops Q n ds l W os:=by
 intro a0 w ha hw
 have xT:os=os.take m++⟨some dp,.pick t a b,ty,pos,af,g⟩::os.drop (m+1):=by
   obtain ⟨aw,he⟩:=List.getElem?_eq_some_iff.1 hp;rw [<-he,List.getElem_cons_drop aw,List.take_append_drop]
 rw [xT];subst C2
 have pick:∀(a':Act) (w':World) (r:Bool),Ag n ds l a'->W w'->(if c then a'.eval a else a'.eval b) = .bool r->r=(bif want then c&&x else c||x)->
     wpList P ops Q (⟨some dp,.pick (.tmp dj) a b,ty,pos,af,g⟩::os.drop (m+1)) a' w':=by
   intro a' w' r cN dE hv hr;refine wpList_step λK hK=>?_;rw [if_pos (cB.wanted (o:=⟨some dp,.pick (.tmp dj) a b,ty,pos,af,g⟩) hg cN)]
   have dM:(execOp a'.eval ⟨some dp,.pick (.tmp dj) a b,ty,pos,af,g⟩).run P w' = .ok (.value (.bool r)) w':=by
     have h1:a'.eval (.tmp dj) = .bool c:=cN.fy dj _ hb;simp only [execOp,h1,asBool,Sem.run_bind,Sem.run_pure,Result.andThen_ok,hv]
   simp only [Oper.wp,dM,Oper.upon_value];exact hK _ _ (h _ _ (by rw [<-hr]; exact cN.put qx _) dE)
 by_cases hc:c=want
 · refine ack _ _ (acm (Q:=sk Q n ds ((dj,.bool want)::l) W dx (.bool x)) (λe a' w' hq=>?_) _ _ (hT hc a0 w (ha.known (by rw [<-hc]; exact hb)) hw))
   cases e with
   | normal=>
     obtain ⟨⟨cN,hx⟩,dE⟩:=hq;refine pick a' w' x (cN.Hh (by rw [<-hc]; exact hb)) dE ?_ ?_
     · subst hc
       cases c
       · simp at fK; obtain ⟨rfl,rfl⟩:=fK; exact hx
       · simp at fK; obtain ⟨rfl,rfl⟩:=fK; exact hx
     · subst hc; cases c<;>rfl
   | _=>exact hq
 · have mj:c = !want:=by cases c<;>cases want<;>first | rfl | exact absurd rfl hc
   refine WL.Mg hF eZ (λa' w' cN dE=>?_) a0 w (ha.known (by rw [<-mj]; exact hb)) hw;have t_:Ag n ds l a':=(cN.Hf m qy qz).Hh (by rw [<-mj]; exact hb);refine pick a' w' c t_ dE ?_ ?_
   · subst mj
     cases want
     · simp at fK; obtain ⟨rfl,rfl⟩:=fK; rfl
     · simp at fK; obtain ⟨rfl,rfl⟩:=fK; rfl
   · subst mj; cases want<;>rfl
theorem La (m:Nat) {os:List Oper} {dj dp dx:Nat} {c x:Bool} {t a b:Operand} {ty:TypeId} {pos:String} {af:Array Edge} {g:Option (Nat×Bool)} {l2:List (Nat×Value)}
   (hp:os[m]? = some ⟨some dp,.pick t a b,ty,pos,af,g⟩) (C2:t = .tmp dj) (hb:lk l dj=some (.bool c)) (eZ:sj n (os.take m)=true)
   (hg:cB ops l g) (qx:Nat.blt dp n=true) (fK:(a,b)=(Operand.tmp dx,Operand.const (.bool false)))
   (hF:kZ ops ((dj,.bool false)::l) (os.take m)=some l2) (qy:l2.drop m=(dj,.bool false)::l) (qz:pg (l2.take m) ((dj,.bool false)::l)=true)
   (hT:c=true->WL P ops (sk Q n ds ((dj,.bool true)::l) W dx (.bool x)) n ds ((dj,.bool true)::l) W (os.take m))
   (h:WL P ops Q n ds ((dp,.bool (c&&x))::l) W (os.drop (m+1))):WL P ops Q n ds l W os:=
 WL.C1 m true hp C2 hb eZ hg qx fK hF qy qz hT h
theorem Lo (m:Nat) {os:List Oper} {dj dp dx:Nat} {c x:Bool} {t a b:Operand} {ty:TypeId} {pos:String} {af:Array Edge} {g:Option (Nat×Bool)} {l2:List (Nat×Value)}
   (hp:os[m]? = some ⟨some dp,.pick t a b,ty,pos,af,g⟩) (C2:t = .tmp dj) (hb:lk l dj=some (.bool c)) (eZ:sj n (os.take m)=true)
   (hg:cB ops l g) (qx:Nat.blt dp n=true) (fK:(a,b)=(Operand.const (.bool true),Operand.tmp dx))
   (hF:kZ ops ((dj,.bool true)::l) (os.take m)=some l2) (qy:l2.drop m=(dj,.bool true)::l) (qz:pg (l2.take m) ((dj,.bool true)::l)=true)
   (hT:c=false->WL P ops (sk Q n ds ((dj,.bool false)::l) W dx (.bool x)) n ds ((dj,.bool false)::l) W (os.take m))
   (h:WL P ops Q n ds ((dp,.bool (c||x))::l) W (os.drop (m+1))):WL P ops Q n ds l W os:=
 WL.C1 m false hp C2 hb eZ hg qx fK hF qy qz hT h
end
section
variable {P:Program} {ops:Array Oper} {Q:Exit->Act->World->Prop} {n:Nat} {ds:List Deferred} {l l':List (Nat×Value)} {W:World->Prop} {w0:World} {F:List Nat} {L:List ak} {Vs:List View}
 {rest:List Oper} {d:Nat} {ty:TypeId} {pos:String} {af:Array Edge} {g:Option (Nat×Bool)}
theorem cU {ι:Type} {c:Code} (U:ι->List (Nat×Value)) (l':List (Nat×Value)) (Wi:ι->World->Prop) (R:ι->Prop) (μ:ι->Nat) (i0:ι) (hR:R i0) (hE:∀p ∈ U i0++l',lk l p.1=some p.2) (hW:∀w,W w->Wi i0 w)
   (round:∀i,R i->WC P c (Exit.then (λa' w'=>∃j,μ j<μ i/\R j/\Ag n ds (U j++l') a'/\Wi j w') Q) n ds (U i++l') (Wi i)):WC P (.loop c) Q n ds l W:=
 WC.loop (λi=>U i++l') Wi R μ i0 hR hE hW round
theorem CW {ι:Type} {c:Code} (U:ι->List (Nat×Value)) (l':List (Nat×Value)) (R:ι->Prop) (μ:ι->Nat) (i0:ι) (hR:R i0) (hE:∀p ∈ U i0++l',lk l p.1=some p.2)
   (round:∀i,R i->WC P c (Exit.then (λa' w'=>∃j,μ j<μ i/\R j/\Ag n ds (U j++l') a'/\W w') Q) n ds (U i++l') W):WC P (.loop c) Q n ds l W:=
 WC.loop (λi=>U i++l') (λ_=>W) R μ i0 hR hE (λ_ h=>h) round
theorem WL.make {t e:TypeId} {x y:Operand} {kl kc:IntKind} {ln cn:Int} {z:Value} {size bytes:Nat} (hg:cB ops l g) (hn:Nat.blt d n=true) (hE:eS P t e z size bytes)
   (hx:aB l x=some (.int kl ln)) (hy:aB l y=some (.int kc cn)) (h0:0<=ln) (h1:ln<=cn) (hb:(bytes:Int)*cn<=281474976710656) (og:cn<=9223372036854775807)
   (h:∀b,WL P ops Q n ds ((d,.slice (some ⟨b,0,none⟩) ln.toNat cn.toNat)::l) (Ws w0 F (ab b (.cells (madeCells z.cells (cn.toNat*size)) e (0,0))::L) Vs) rest) :
   WL P ops Q n ds l (Ws w0 F L Vs) (⟨some d,.makeSlice t x y,ty,pos,af,g⟩::rest):=by
 obtain ⟨inf,hi,hz,ga,lI⟩:=hE.info;refine WL.new (mk:=λb=>.slice (some ⟨b,0,none⟩) ln.toNat cn.toNat) hg hn (λρ w aF hw=>?_) h;have:=run_make (P:=P) w t e inf z hE.under hi hz kl kc ln cn h0 h1 (by rw [lI]; exact hb) og;rw [ga] at this;simp [execOp,aF x _ hx,aF y _ hy,this]
theorem acn (v:Value) (hv:v.cells = #[v]) (k:Nat):madeCells v.cells (k*1)=(List.replicate k v).toArray:=by
 rw [hv];apply Array.ext';simp only [madeCells,Nat.mul_one];apply List.ext_getElem?;intro j
 rcases Nat.lt_or_ge j k with h | h
 · simp [h,Nat.mod_one]
 · simp [h]
theorem WL.S4 {t:TypeId} {x y:Operand} {b o k:Nat} {ob:Obj} {v:Value} (i:Nat) (qA:Obj) (hg:cB ops l g) (hx:aB l x=some (.pointer (some ⟨b,o,none⟩))) (hy:aB l y=some v) (hL:L[i]? = some (ab b ob))
   (hs:cq P t=some k) (hl:(dv v).length=k) (h1:(dv v).all (·.oneCell')=true) (aE:tY ob o k=true) (he:mg ob o (dv v)=qA)
   (h:WL P ops Q n ds l (Ws w0 F (L.set i (ab b qA)) Vs) rest) :
   WL P ops Q n ds l (Ws w0 F L Vs) (⟨none,.store t x y,ty,pos,af,g⟩::rest):=an i hg hx hy hL hs hl h1 aE (by rw [he]; exact h)
end
section
variable {P:Program} {l:List (Nat×Value)} {W:World->Prop} {w0:World} {F:List Nat} {L:List ak} {Vs:List View}
 {d:Option Tmp} {ty:TypeId} {pos:String} {af:Array Edge} {g:Option (Nat×Bool)}
theorem aco {t:TypeId} {x y:Operand} {a:Option Addr} {m c s:Nat} {k:IntKind} {h:Int} (hs:dL P t=some s) (hx:aB l x=some (.slice a m c)) (jP:∀p,a=some p->p.spot=none) (hy:aB l y=some (.int k h)) (h0:0<=h) (h1:h<=c) :
   Yl P l W ⟨d,.slice t x none (some y) none,ty,pos,af,g⟩ (.slice a h.toNat c):=by
 intro ρ w aF _;unfold dL at hs
 cases hu:P.underlying t with
 | none=>simp [hu] at hs
 | some dd=>
   cases dd<;>simp [hu] at hs
   rename_i e;obtain ⟨inf,hi,rfl⟩:=hs
   have ea:(if c=0 then a else a.map (·.add (0*inf.size)))=a:=by
     split
     · rfl
     · cases a with
       | none=>rfl
       | some p=>simp [Addr.add]
   have hc:h<=(c:Int):=h1;simp [execOp,aF x _ hx,aF y _ hy,Instr.sliceAt,Instr.slice,Instr.sliceBounds,Instr.sliceBound,asIntOf,run_underlying hu,sizeOf,typeInfo,hi,h0,hc]
   simpa using ea
end
def aT (H:View) (b o:Nat) (cs:List Value):Prop:=∀j v,cs[j]? = some v->vc H b (o+j)=some v
theorem aT.mono {H H':View} (h:aL H H') {b o:Nat} {cs:List Value} (r:aT H b o cs):aT H' b o cs:=λj v hv=>h.cell (r j v hv)
structure Sl {α:Type} (rd:View->Nat->Nat->α->Prop) (k:Nat) (H:View) (a:Option Addr) (c:Nat) (l:List α):Prop where
 cap:l.length<=c
 max:c<=9223372036854775807
 spot:∀p,a=some p->0<c->p.spot=none
 aZ:∀i x,l[i]? = some x->∃b o,a=some ⟨b,o,none⟩/\rd H b (o+i*k) x
theorem Sl.mono {α:Type} {rd:View->Nat->Nat->α->Prop} {k:Nat} {H H':View} {a:Option Addr} {c:Nat} {l:List α} (hm:∀b o x,rd H b o x->rd H' b o x) (h:Sl rd k H a c l):Sl rd k H' a c l:=
 ⟨h.cap,h.max,h.spot,λi x hx=>let ⟨b,o,ha,hb⟩:=h.aZ i x hx; ⟨b,o,ha,hm _ _ _ hb⟩⟩
theorem Sl.nil {α:Type} {rd:View->Nat->Nat->α->Prop} {k:Nat} {H:View}:Sl rd k H none 0 ([]:List α):=⟨Nat.le_refl _,by decide,by simp,by simp⟩
section
variable {P:Program} {l:List (Nat×Value)} {W:World->Prop} {d:Option Tmp} {ty:TypeId} {pos:String} {af:Array Edge} {g:Option (Nat×Bool)}
theorem Yo {t:TypeId} {x y:Operand} {a:Option Addr} {b o n c s:Nat} {k:IntKind} {i:Nat} (hs:dL P t=some s) (hx:aB l x=some (.slice a n c)) (hy:aB l y=some (.int k (i:Int))) (ha:a=some ⟨b,o,none⟩) (h1:i<n) :
   Yl P l W ⟨d,.indexAddr t x y,ty,pos,af,g⟩ (.pointer (some ⟨b,o+i*s,none⟩)):=by subst ha; exact aca hs hx hy h1
theorem Ar {t:TypeId} {x y:Operand} {a:Option Addr} {b o n c s:Nat} {k:IntKind} {i:Int} (hs:dL P t=some s) (hx:aB l x=some (.slice a n c)) (hy:aB l y=some (.int k i)) (ha:a=some ⟨b,o,none⟩) (h0:0<=i) (h1:i<n) :
   Yl P l W ⟨d,.indexAddr t x y,ty,pos,af,g⟩ (.pointer (some ⟨b,o+i.toNat*s,none⟩)):=by subst ha; exact Md hs hx hy h0 h1
end
section
variable {P:Program} {md:Region.Mode} {ops:Array Oper} {C:World->Prop} {Q:Exit->Act->World->Prop}
def YV (P:Program) (ops:Array Oper) (C:World->Prop) (o:Oper) (v:Value) (a:Act):Prop:=
 (Region.wanted o (yielded ops a.tmps)=true/\∀w,C w->(execOp a.eval o).run P w = .ok (.value v) w)\/
 (Region.wanted o (yielded ops a.tmps)=false/\v=undef)
theorem YV.of_same {o:Oper} {v:Value} {a a':Act} (hy:YV P ops C o v a) (he:execOp a'.eval o=execOp a.eval o)
   (hw:Region.wanted o (yielded ops a'.tmps)=Region.wanted o (yielded ops a.tmps)):YV P ops C o v a':=by
 unfold YV at *;rw [he,hw];exact hy
theorem YV.wpOp {i:Nat} {o:Oper} {v:Value} {a:Act} {w:World} (hi:ops[i]? = some o) (hy:YV P ops C o v a) (hC:C w) {K:Act->World->Prop} (h:K (a.put o.dst v) w):wpOp P ops Q i K a w:=by
 unfold Go.wpOp;simp only [hi]
 rcases hy with ⟨hw,hv⟩ | ⟨hw,rfl⟩
 · simp only [hw,if_true]
   refine .inl ?_;simp only [Oper.wp,hv w hC,Oper.upon_value];exact h
 · simp only [hw,Bool.false_eq_true,if_false]; exact h
def qB (P:Program) (md:Region.Mode) (ops:Array Oper) (C:World->Prop) (Q:Exit->Act->World->Prop):Nat->Array Bool->Act->World->Prop
 | 0,listed,a,w=>C w/\Region.ready md ops listed=[]/\Q .normal a w
 | fuel+1,listed,a,w=>C w/\(Region.ready md ops listed=[]->Q .normal a w)/\
   ∀i ∈ Region.ready md ops listed,wpOp P ops Q i (qB P md ops C Q fuel (listed.setIfInBounds i true)) a w
theorem Hj:∀(fuel:Nat) (listed:Array Bool) (a:Act) (w:World),qB P md ops C Q fuel listed a w->wpAny P md ops Q fuel listed a w
 | 0,_,_,_,h=>h.2
 | fuel+1,listed,a,w,h=>⟨h.2.1,λi hi=>wpOp_mono (λa' w' h'=>Hj fuel _ a' w' h') (h.2.2 i hi)⟩
theorem qB.c {fuel:Nat} {listed:Array Bool} {a:Act} {w:World} (h:qB P md ops C Q fuel listed a w):C w:=by cases fuel<;>exact h.1
theorem S5 {j:Nat} {oi oj:Oper} {v:Value} (hj:ops[j]? = some oj) (ml:oi.apart ops oj=true)
   (jr:∀cs b,oi.op≠.select cs b) (S6:∀cs b,oj.op≠.select cs b)
   (hQ:∀c a w,Q (.panic c) (a.put oi.dst v) w->Q (.panic c) a w) {K:Act->World->Prop} {a:Act} {w:World}
   (hy:YV P ops C oi v a) (h:wpOp P ops Q j K (a.put oi.dst v) w) :
   wpOp P ops Q j (λa' w'=>YV P ops C oi v a'/\K (a'.put oi.dst v) w') a w:=by
 obtain ⟨h1,h2,h3⟩:=Oper.apart_spec ml
 have bF:∀(a:Act),YV P ops C oi v a->∀u,YV P ops C oi v (a.put oj.dst u):=λa hy u=>
   hy.of_same (execOp_put oi jr a oj.dst u h3) (wanted_put oi a oj.dst u h3)
 have acp:∀d,YV P ops C oi v { a with defers:=d::a.defers }:=λd=>hy.of_same rfl rfl;unfold wpOp at *;simp only [hj] at *;rw [wanted_put oj a oi.dst v h1] at h
 split
 · rename_i hw
   simp only [hw,if_true] at h
   rcases h with h | ⟨S7,acq⟩
   case inr=>exact .inr ⟨by unfold Oper.asks at *; rw [execOp_put oj S6 a oi.dst v h1] at S7; exact S7,acq⟩
   refine .inl ?_;unfold Oper.wp at *;rw [execOp_put oj S6 a oi.dst v h1] at h
   generalize (execOp a.eval oj).run P w=r at *
   cases r with
   | ok n w'=>
     cases n<;>simp only [Oper.upon] at h ⊢
     case value u=>exact ⟨bF a hy u,by rw [<-Act.put_comm a v u h2]; exact h⟩
     case skip=>exact ⟨bF a hy _,by rw [<-Act.put_comm a v undef h2]; exact h⟩
     case defer d=>
       refine ⟨bF _ (acp d) _,?_⟩;rw [<-Act.put_comm _ v undef h2,<-Act.put_defers];exact h
     case enter f args=>
       refine Calls.mono h λe w'' he=>?_
       cases e with
       | returned u=>exact ⟨bF a hy u,by rw [<-Act.put_comm a v u h2]; exact he⟩
       | panicked c=>exact hQ _ _ _ he
       | outgrown=>exact he
     case row row args=>exact Rows.mono h λu w'' he=>⟨bF a hy u,by rw [<-Act.put_comm a v u h2]; exact he⟩
   | halt x w'=>
     cases x<;>simp only [Oper.upon] at h ⊢
     case panic u=>exact hQ _ _ _ h
 · rename_i hw
   simp only [hw] at h;exact ⟨bF a hy _,by rw [<-Act.put_comm a v undef h2]; exact h⟩
theorem Mi {i:Nat} {oi:Oper} {v:Value} (hi:ops[i]? = some oi) (C3:∀(j:Nat) (o:Oper) cs b,ops[j]? = some o->o.op≠.select cs b)
   (hQ:∀c a w,Q (.panic c) (a.put oi.dst v) w->Q (.panic c) a w) :
   ∀(fuel:Nat) (listed:Array Bool) (a:Act) (w:World),
     (∀j oj,ops[j]? = some oj->j≠i->listed.getD j true=false->(∀e ∈ oj.after,Region.binds md e=true->e.on≠i)->oi.apart ops oj=true)->
     i ∈ Region.ready md ops listed->YV P ops C oi v a->C w->
     qB P md ops C Q fuel (listed.setIfInBounds i true) (a.put oi.dst v) w->qB P md ops C Q (fuel+1) listed a w:=by
 intro fuel
 induction fuel with
 | zero=>
   intro listed a w _ hr hy hC H;refine ⟨hC,λh=>(by rw [h] at hr; cases hr),λj hj=>?_⟩
   by_cases iG:j=i
   · subst iG; exact hy.wpOp hi hC H
   · have:=ready_mono hj iG
     rw [H.2.1] at this;cases this
 | succ fuel ih=>
   intro listed a w C4 hr hy hC H;refine ⟨hC,λh=>(by rw [h] at hr; cases hr),λj hj=>?_⟩
   by_cases iG:j=i
   · subst iG; exact hy.wpOp hi hC H
   · have h1:=H.2.2 j (ready_mono hj iG)
     obtain ⟨C5,oj,ph,cg⟩:=mem_ready.1 hj
     have oh:∀e ∈ oj.after,Region.binds md e=true->e.on≠i:=λe he hb heq=>by
       have h1:=cg e he hb;have h0:=(mem_ready.1 hr).1;rw [heq] at h1
       rcases Nat.lt_or_ge i listed.size with h' | h'
       · simp [h'] at h0 h1; rw [h0] at h1; cases h1
       · simp [Array.getElem?_eq_none h'] at h1
     have h2:=S5 ph (C4 j oj ph iG C5 oh) (λcs b=>C3 i oi cs b hi) (λcs b=>C3 j oj cs b ph) hQ hy h1
     have Mj:∀k ok,ops[k]? = some ok->k≠i->(listed.setIfInBounds j true).getD k true=false->
         (∀e ∈ ok.after,Region.binds md e=true->e.on≠i)->oi.apart ops ok=true:=λk ok hk pj xU gK=>by
       refine C4 k ok hk pj ?_ gK
       by_cases jQ:j=k
       · subst jQ; exact C5
       · rw [getD_set_ne true jQ] at xU; exact xU
     refine wpOp_mono (λa' w' h3=>ih (listed.setIfInBounds j true) a' w' Mj (ready_mono hr (Ne.symm iG)) h3.1 h3.2.c ?_) h2;rw [Array.setIfInBounds_comm _ _ iG];exact h3.2
def nn (md:Region.Mode) (ops:Array Oper):List (Nat×Bool)->Array Bool->Bool
 | [],listed=>(Region.ready md ops listed).isEmpty
 | (i,q)::r,listed=>(bif q then (Region.ready md ops listed).contains i&&Region.free md ops listed i else Region.ready md ops listed==[i])&&nn md ops r (listed.setIfInBounds i true)
def np (P:Program) (ops:Array Oper) (C:World->Prop) (Q:Exit->Act->World->Prop):List (Nat×Bool)->Act->World->Prop
 | [],a,w=>C w/\Q .normal a w
 | (i,true)::r,a,w=>C w/\∃o v,ops[i]? = some o/\YV P ops C o v a/\np P ops C Q r (a.put o.dst v) w
 | (i,false)::r,a,w=>C w/\wpOp P ops Q i (np P ops C Q r) a w
theorem Mk (hs:Region.noSelect ops=true) (hQ:∀c a w d v,Q (.panic c) (a.put d v) w->Q (.panic c) a w):∀(ord:List (Nat×Bool)) (listed:Array Bool) (a:Act) (w:World),
   nn md ops ord listed=true->np P ops C Q ord a w->qB P md ops C Q ord.length listed a w
 | [],listed,a,w,hB,h=>⟨h.1,by simpa [nn] using hB,h.2⟩
 | (i,true)::r,listed,a,w,hB,h=>by
   simp only [nn,cond_true,Bool.and_eq_true] at hB;obtain ⟨hC,o,v,ho,hy,h⟩:=h
   exact Mi ho (Region.noSelect_spec hs) (λc a w=>hQ c a w o.dst v) r.length listed a w (Region.free_spec ho hB.1.2) (by simpa using hB.1.1) hy hC
     (Mk hs hQ r _ _ _ hB.2 h)
 | (i,false)::r,listed,a,w,hB,h=>by
   simp only [nn,cond_false,Bool.and_eq_true,beq_iff_eq] at hB;refine ⟨h.1,λhe=>(by rw [he] at hB; cases hB.1),λj hj=>?_⟩;rw [hB.1] at hj;simp at hj;subst hj;exact wpOp_mono (λa' w' h'=>Mk hs hQ r _ _ _ hB.2 h') h.2
theorem acs {id:Nat} {a:Act} {w:World} {l:List Oper} (ord:List (Nat×Bool)) (hm:P.follows .mixedOrders=true) (hB:(Region.noSelect l.toArray&&(ord.length==l.toArray.size&&nn .any l.toArray ord (Array.replicate l.toArray.size false)))=true)
   (hQ:∀c a w d v,Q (.panic c) (a.put d v) w->Q (.panic c) a w) (h:np P l.toArray C Q ord a w.drew):(Code.region id l.toArray true).wp P Q a w:=by
 simp only [Bool.and_eq_true,beq_iff_eq] at hB;have:=Hj (md:=.any) _ _ _ _ (Mk hB.1 hQ ord _ a w.drew hB.2.2 h);rw [hB.2.1] at this;exact wp_region_any hm this
variable {n:Nat} {ds:List Deferred} {l:List (Nat×Value)} {W:World->Prop}
def WD (P:Program) (ops:Array Oper) (C:World->Prop) (Q:Exit->Act->World->Prop) (n:Nat) (ds:List Deferred) (l:List (Nat×Value)) (W:World->Prop) (ord:List (Nat×Bool)):Prop:=
 ∀a w,Ag n ds l a->W w->np P ops C Q ord a w
theorem WC.S8 {id:Nat} {os:List Oper} (C:World->Prop) (ord:List (Nat×Bool)) (hm:P.follows .mixedOrders=true) (hB:(Region.noSelect os.toArray&&(ord.length==os.toArray.size&&nn .any os.toArray ord (Array.replicate os.toArray.size false)))=true)
   (hQ:∀c a w d v,Q (.panic c) (a.put d v) w->Q (.panic c) a w) (hW:∀w,W w->W w.drew) (h:WD P os.toArray C Q n ds l W ord):WC P (.region id os.toArray true) Q n ds l W:=
 λa w ha hw=>acs ord hm hB hQ (h a w.drew ha (hW w hw))
theorem Dq {r:List (Nat×Bool)} {i d:Nat} {op:Op} {ty:TypeId} {pos:String} {af:Array Edge} {g:Option (Nat×Bool)} {v:Value} (hi:ops[i]? = some ⟨some d,op,ty,pos,af,g⟩) (hg:cB ops l g) (hn:Nat.blt d n=true)
   (hC:∀w,W w->C w) (hy:Yl P l C ⟨some d,op,ty,pos,af,g⟩ v) (h:WD P ops C Q n ds ((d,v)::l) W r):WD P ops C Q n ds l W ((i,true)::r):=by
 intro a w ha hw;refine ⟨hC w hw,_,v,hi,.inl ⟨cB.wanted (o:=⟨some d,op,ty,pos,af,g⟩) hg ha,λw' dE=>hy a.eval w' (λx u hx=>ha.eval hx) dE⟩,h _ _ (ha.put hn v) hw⟩
theorem D0 {i d:Nat} {op:Op} {ty:TypeId} {pos:String} {af:Array Edge} {v:Value} {r:List (Nat×Bool)} (hi:ops[i]? = some ⟨some d,op,ty,pos,af,none⟩) (hC:∀w,W w->C w) (hy:Yl P l C ⟨some d,op,ty,pos,af,none⟩ v) (h:WD P ops C Q n ds ((d,v)::l) W r) (hn:Nat.blt d n=true:=by rfl):WD P ops C Q n ds l W ((i,true)::r):=Dq hi (.inl rfl) hn hC hy h
theorem De {r:List (Nat×Bool)} {i:Nat} {o:Oper} (hi:ops[i]? = some o) (hC:∀w,W w->C w) (h:WL P ops (Exit.then (np P ops C Q r) Q) n ds l W [o]):WD P ops C Q n ds l W ((i,false)::r):=by
 intro a w ha hw;refine ⟨hC w hw,?_⟩;have:=h a w ha hw;unfold wpList at this;unfold wpOp;simp only [hi]
 split
 · rename_i dE
   rw [if_pos dE] at this
   rcases this with this | ⟨h1,a2,w2,h2⟩
   · left
     unfold Oper.wp at this ⊢;unfold Oper.upon at this ⊢
     split at this
     all_goals first
       | exact this
       | (refine this.mono λe w' he=>?_
          cases e with
          | returned v=>exact he
          | panicked ch=>exact he
          | outgrown=>obtain ⟨a3,w3,h3⟩:=he; exact ⟨a3,w3,h3⟩)
       | exact this.mono λv w' he=>he
   · exact .inr ⟨h1,a2,w2,h2⟩
 · rename_i dE
   rw [if_neg dE] at this;exact this
theorem Ed {r:List (Nat×Bool)} (h:WD P ops C Q n ds l W r):WE (Exit.then (np P ops C Q r) Q) .normal n ds l W:=h
theorem WD.nil (hC:∀w,W w->C w) (h:WE Q .normal n ds l W):WD P ops C Q n ds l W []:=λa w ha hw=>⟨hC w hw,h a w ha hw⟩
theorem Ws.drew {w0 w:World} {F:List Nat} {L:List ak} {Vs:List View} (h:Ws w0 F L Vs w):Ws w0 F L Vs w.drew:=h.ext (Ext.drew w)
theorem Ws.out {w0 w:World} {F:List Nat} {L:List ak} {Vs:List View} (i:Nat) (h:Ws w0 F L Vs w):Ws w0 F (c_ i L) Vs w:=by
 cases hx:L[i]? with
 | none=>
   have:c_ i L=L:=by
     clear h
     induction L generalizing i with
     | nil=>cases i<;>rfl
     | cons x r ih=>
       cases i with
       | zero=>simp at hx
       | succ i=>simp only [c_]; rw [ih i (by simpa using hx)]
   rw [this]; exact h
 | some x=>exact Ws.drop (L:=[x]) (h.perm (mf i L hx))
end
section
variable {P:Program} {ops:Array Oper} {Q:Exit->Act->World->Prop} {n:Nat} {ds:List Deferred} {l l':List (Nat×Value)} {W:World->Prop} {w0:World} {F:List Nat} {L:List ak} {Vs:List View}
 {rest:List Oper} {d:Nat} {ty:TypeId} {pos:String} {af:Array Edge} {g:Option (Nat×Bool)}
def vR (z:Value) (k:Nat):List Value:=(List.range k).map λi=>((dv z)[i % (dv z).length]?).getD undef
theorem acu (z:Value) (k:Nat) (hz:0<z.cells.size):((Array.range k).map (z.cells[· % z.cells.size]!):Array Value).toList=vR z k:=by
 simp only [Array.toList_map,Array.toList_range,vR];apply List.map_congr_left;intro i _;have aw:i % z.cells.size<z.cells.size:=Nat.mod_lt _ hz
 have e:(dv z).length=z.cells.size:=by rw [<-vP]; simp
 rw [e,<-vP];simp [aw]
theorem WL.Ml {t e:TypeId} {len size bytes:Nat} {parts:List (Nat×Operand)} {z:Value} {vs:List (Nat×Value)} {out:List Value} (hg:cB ops l g) (hn:Nat.blt d n=true) (hE:eS P t e z size bytes)
   (hv:tW l parts=some vs) (hb:Nat.ble (len*size) 16777216=true) (hf:si (λi=>some (i*size,size)) (bif Nat.beq (len*size) 0 then [] else vR z (len*size)) vs=some out)
   (h:∀b,WL P ops Q n ds ((d,.slice (some ⟨b,0,none⟩) len len)::l) (Ws w0 F (ab b (.cells out.toArray e (0,0))::L) Vs) rest) :
   WL P ops Q n ds l (Ws w0 F L Vs) (⟨some d,.buildSlice t len parts.toArray,ty,pos,af,g⟩::rest):=by
 obtain ⟨inf,hi,hz,ga,lI⟩:=hE.info;have xQ:=Nat.le_of_ble_eq_true hb;refine WL.new (mk:=λb=>.slice (some ⟨b,0,none⟩) len len) hg hn (λρ w aF hw=>?_) h
 have e1:((parts.toArray.map λ (i,x)=>(i,ρ x)):Array (Nat×Value)).toList=vs:=by simpa using Hc aF parts vs hv
 have hzs:zeroOf P e=some z:=by simp [zeroOf,hi,hz]
 have S9:cq P e=some size:=by simp [cq,hi,ga]
 have oh:¬len*size > 2 ^ 24:=by omega
 by_cases h0:len*size=0
 · have Mm:Instr.fill (λi=>some (i*size,size)) #[] vs=some out.toArray:=by
     refine CY _ vs #[] out ?_
     simpa [h0] using hf
   simp only [execOp,Instr.buildSlice,Sem.run_bind,run_underlying hE.under,Result.andThen_ok,Hb S9,if_neg oh,Sem.run_pure,if_pos h0,e1];simp [h0,Mm,newRow,Array.range_zero']
 · have Mm:Instr.fill (λi=>some (i*size,size)) ((Array.range (len*size)).map (z.cells[· % z.cells.size]!)) vs=some out.toArray:=by
     refine CY _ vs _ out ?_;rw [acu z _ (by rw [hE.zs]; exact hE.pos)]
     have:Nat.beq (len*size) 0=false:=by
       cases hbq:Nat.beq (len*size) 0 with
       | false=>rfl
       | true=>exact absurd (Nat.eq_of_beq_eq_true hbq) h0
     simpa [this] using hf
   simp only [execOp,Instr.buildSlice,Sem.run_bind,run_underlying hE.under,Result.andThen_ok,Hb S9,if_neg oh,Sem.run_pure,if_neg h0,e1,xP hzs,Mm];simp [newRow]
theorem S' {ρ:Operand->Value} {dst:Option Tmp} {f:FuncId} {cx:Operand} {eF:Array Value} {args:Array Operand} {ts:Array TypeId} {vs:List Value} {w:World} (hf:Enters P f) (aF:∀x u,aB l x=some u->ρ x=u)
   (qC:aB l cx=some (.func (.func f) #[] eF)) (ha:ik l args.toList=some vs) :
   (execOp ρ ⟨dst,.call ⟨.value cx,args,ts⟩,ty,pos,af,g⟩).run P w = .ok (.enter f (vs.toArray++eF)) w:=by
 have e:args.map ρ=vs.toArray:=by
   apply Array.ext'
   simpa using Hd aF _ _ ha
 simp only [execOp,resolve,e,aF cx _ qC,Deferred.ofValue,Sem.run_bind,Sem.run_pure,Result.andThen_ok,invoke]
 simpa using hf _ w
theorem WL.acx {ι:Type} {f:FuncId} {cx:Operand} {eF:Array Value} {args:Array Operand} {ts:Array TypeId} {vs:List Value} (hg:cB ops l g) (hn:Nat.blt d n=true) (hf:Enters P f) (qC:aB l cx=some (.func (.func f) #[] eF)) (ha:ik l args.toList=some vs)
   (v:ι->Value) (R:ι->World->Prop) (Pn:List PanicEntry->World->Prop)
   (hC:∀w,W w->Calls P f (vs.toArray++eF) w λe w'=>(∃i,e = .returned (v i)/\R i w')\/∃ch,e = .panicked ch/\Pn ch w')
   (hr:∀i,WL P ops Q n ds ((d,v i)::l) (R i) rest) (hp:∀ch,WE Q (.panic ch) n ds l (Pn ch)) :
   WL P ops Q n ds l W (⟨some d,.call ⟨.value cx,args,ts⟩,ty,pos,af,g⟩::rest):=by
 refine WL.step hg λa w cN hw K hK=>?_;have dM:=S' (P:=P) (dst:=some d) (ts:=ts) (ty:=ty) (pos:=pos) (af:=af) (g:=g) (w:=w) hf (λx u hx=>cN.eval hx) qC ha;simp only [Oper.wp,dM,Oper.upon_enter];refine (hC w hw).mono λe w' he=>?_
 rcases he with ⟨i,rfl,h⟩ | ⟨ch,rfl,h⟩
 · exact hK _ _ (hr i _ _ (cN.put hn _) h)
 · exact hp ch _ _ cN h
theorem WL.Hk {f:FuncId} {cx:Operand} {eF:Array Value} {args:Array Operand} {ts:Array TypeId} {vs:List Value} {v:Value} (hg:cB ops l g) (hn:Nat.blt d n=true) (hf:Enters P f) (qC:aB l cx=some (.func (.func f) #[] eF)) (ha:ik l args.toList=some vs)
   (hC:∀w,Ws w0 F L Vs w->Calls P f (vs.toArray++eF) w λe w'=>e = .returned v/\Ext w w')
   (hr:WL P ops Q n ds ((d,v)::l) (Ws w0 F L Vs) rest) :
   WL P ops Q n ds l (Ws w0 F L Vs) (⟨some d,.call ⟨.value cx,args,ts⟩,ty,pos,af,g⟩::rest):=by
 refine WL.step hg λa w cN hw K hK=>?_;have dM:=S' (P:=P) (dst:=some d) (ts:=ts) (ty:=ty) (pos:=pos) (af:=af) (g:=g) (w:=w) hf (λx u hx=>cN.eval hx) qC ha;simp only [Oper.wp,dM,Oper.upon_enter];refine (hC w hw).mono λe w' he=>?_;obtain ⟨rfl,h⟩:=he;exact hK _ _ (hr _ _ (cN.put hn _) (hw.ext h))
theorem WE.S_ {fn:Func} {R:Ending->World->Prop} {a b o k:Nat} {t:TypeId} {ob:Obj} (i:Nat) (hr:fn.results = #[.cell a t]) (ha:lk l a=some (.pointer (some ⟨b,o,none⟩))) (hL:L[i]? = some (ab b ob)) (ht:eQ P t=some k) (hl:(cellsIn ob o k).length=k)
   (h:∀w,Ws w0 F L Vs w->R (.returned (.agg (cellsIn ob o k).toArray)) w):WE (bodyPost P fn R) .ret n [] l (Ws w0 F L Vs):=by
 intro A w hA hw
 have dM:(loadVar t ⟨b,o,none⟩).run P w = .ok (.agg (cellsIn ob o k).toArray) w:=G' ht hl λj v hj=>by
   have hk:w.heap[b]? = some ob:=hw.kn _ (du hL);refine cell_of_heap hk ?_
   cases ob<;>simp [cellsIn,gJ] at *
   rw [List.getElem?_take] at hj
   split at hj
   · simpa using hj
   · cases hj
 refine bodyPost_ret (v:=.agg (cellsIn ob o k).toArray) ?_ hA.defs (h w hw);have cN:=hA.fy a _ ha;rw [Array.getD_eq_getD_getElem?] at cN;simp [results,hr,cN,asAddr,dM]
theorem WE.vT {fn:Func} {R:Ending->World->Prop} {a b o k u:Nat} {x:Value} {t:TypeId} {ob:Obj} (i:Nat) (hr:fn.results = #[.cell a t,.tmp u]) (ha:lk l a=some (.pointer (some ⟨b,o,none⟩))) (hu:lk l u=some x) (hL:L[i]? = some (ab b ob)) (ht:eQ P t=some k) (hl:(cellsIn ob o k).length=k)
   (h:∀w,Ws w0 F L Vs w->R (.returned (.tuple #[.agg (cellsIn ob o k).toArray,x])) w):WE (bodyPost P fn R) .ret n [] l (Ws w0 F L Vs):=by
 intro A w hA hw
 have dM:(loadVar t ⟨b,o,none⟩).run P w = .ok (.agg (cellsIn ob o k).toArray) w:=G' ht hl λj v hj=>by
   have hk:w.heap[b]? = some ob:=hw.kn _ (du hL);refine cell_of_heap hk ?_
   cases ob<;>simp [cellsIn,gJ] at *
   rw [List.getElem?_take] at hj
   split at hj
   · simpa using hj
   · cases hj
 refine bodyPost_ret (v:=.tuple #[.agg (cellsIn ob o k).toArray,x]) ?_ hA.defs (h w hw);have cN:=hA.fy a _ ha;have At:=hA.fy u _ hu;rw [Array.getD_eq_getD_getElem?] at cN At;simp [results,hr,cN,At,asAddr,dM]
end
theorem Ws.Ta {w0 w:World} {L:List ak} {Vs:List View} (h:Ws w0 [] L Vs w) (i:Nat) {b:Nat} {ob:Obj} (hL:L[i]? = some (ab b ob)) {k:Nat} {v:Value} (hc:gJ ob k=some v):vc (nv w0 w) b k=some v:=by
 have hb:w.heap[b]? = some ob:=h.kn _ (du hL);have ho:=h.own _ (du hL) b (by simp [ab]);simp at ho;unfold vc nv;rw [if_pos ho,hb];exact hc
theorem Ws.nvs {w0 w:World} {L:List ak} {Vs:List View} (h:Ws w0 [] L Vs w) (i:Nat) {e:TypeId} {size m:Nat} {v:Value} {xs:List Value} (hL:L[i]? = some (dw e size v m xs)) :
   (v = .slice none 0 0/\xs=[])\/∃b c,v = .slice (some ⟨b,0,none⟩) m c/\m<=c/\c<=maxLen/\∀j u,xs[j]? = some u->vc (nv w0 w) b j=some u:=by
 obtain ⟨h1,h2⟩:=(h.kn _ (du hL):w.ownsRow 0 e size v m xs)
 rcases h2 with ⟨rfl,rfl⟩ | ⟨b,cap,cur,rfl,_,hb,hm,hc,hs,ht⟩
 · exact .inl ⟨O,by cases xs; rfl; simp at h1⟩
 · refine .inr ⟨b,cap,O,hm,hc,λj u hu=>?_⟩
   have ho:=h.own _ (du hL) b (by simp [dw,Value.ownBlock]);simp at ho;unfold vc nv;rw [if_pos ho,hb];rw [<-ht,List.getElem?_take] at hu
   split at hu
   · simpa [gJ] using hu
   · cases hu
theorem vU {α:Type} {f:α->List Value} {k:Nat} (hf:∀x,(f x).length=k):∀l:List α,(l.flatMap f).length=l.length*k
 | []=>by simp
 | x::r=>by simp [hf,vU hf r,Nat.add_mul]; omega
theorem Hl {α:Type} {f:α->List Value} {k:Nat} (hf:∀x,(f x).length=k):∀(l:List α) (i:Nat) (x:α),l[i]? = some x->
   l.flatMap f=(l.take i).flatMap f++f x++(l.drop (i+1)).flatMap f
 | [],i,x,h=>by simp at h
 | y::r,0,x,h=>by simp at h; simp [h]
 | y::r,i+1,x,h=>by
   have:=Hl hf r i x (by simpa using h);simp only [List.flatMap_cons,List.take_succ_cons,List.drop_succ_cons];rw [this];simp
theorem pk {α:Type} {f:α->List Value} {k:Nat} (hf:∀x,(f x).length=k) {l:List α} {i:Nat} {x:α} (h:l[i]? = some x) {j:Nat} (hj:j<k):(l.flatMap f)[i*k+j]? = (f x)[j]?:=by
 have hi:=(List.getElem?_eq_some_iff.1 h).1
 have e1:((l.take i).flatMap f).length=i*k:=by rw [vU hf,List.length_take,Nat.min_eq_left (by omega)]
 rw [Hl hf l i x h,List.append_assoc,List.getElem?_append_right (by omega),e1,Nat.add_sub_cancel_left,List.getElem?_append_left (by rw [hf]; exact hj)]
theorem acz {α:Type} {f:α->List Value} {k:Nat} (hf:∀x,(f x).length=k) {l:List α} {i:Nat} {x y:α} (h:l[i]? = some x) {j:Nat} {vs:List Value} (hj:j+vs.length<=k) (hy:f y=(f x).take j++vs++(f x).drop (j+vs.length)) :
   (l.flatMap f).take (i*k+j)++vs++(l.flatMap f).drop (i*k+j+vs.length)=(l.set i y).flatMap f:=by
 have hi:=(List.getElem?_eq_some_iff.1 h).1
 have e1:((l.take i).flatMap f).length=i*k:=by rw [vU hf,List.length_take,Nat.min_eq_left (by omega)]
 have h2:(l.set i y)[i]? = some y:=by simp [hi]
 rw [Hl hf (l.set i y) i y h2,Hl hf l i x h,hy];have ht:(l.set i y).take i=l.take i:=List.take_set_of_le (Nat.le_refl i);have hd:(l.set i y).drop (i+1)=l.drop (i+1):=List.drop_set_of_lt (by omega);rw [ht,hd]
 generalize hA:(l.take i).flatMap f=A at *
 generalize hB:(l.drop (i+1)).flatMap f=B at *
 have t1:(A++f x++B).take (i*k+j)=A++(f x).take j:=by
   rw [List.append_assoc,List.take_append,e1,List.take_of_length_le (by omega),Nat.add_sub_cancel_left,List.take_append_of_le_length (by rw [hf]; omega)]
 have t2:(A++f x++B).drop (i*k+j+vs.length)=(f x).drop (j+vs.length)++B:=by
   rw [List.append_assoc,List.drop_append,e1,List.drop_of_length_le (by omega),List.nil_append,List.drop_append,hf]
   have e3:i*k+j+vs.length-i*k=j+vs.length:=by omega
   rw [e3]
   have e4:j+vs.length-k=0:=by omega
   simp [e4]
 rw [t1,t2];simp
section
variable {P:Program} {ops:Array Oper} {Q:Exit->Act->World->Prop} {n:Nat} {ds:List Deferred} {l l':List (Nat×Value)} {W:World->Prop} {w0:World} {F:List Nat} {L:List ak} {Vs:List View}
 {rest:List Oper} {d:Nat} {ty:TypeId} {pos:String} {af:Array Edge} {g:Option (Nat×Bool)}
theorem WL.Hm {b m cap:Nat} {cur:Array Value} {e:TypeId} {size:Nat} (i:Nat) (hL:L[i]? = some (ab b (.cells cur e (0,0)))) (hm:m<=cap) (hc:cap<=maxLen) (hs:cur.size=cap*size)
   (h:WL P ops Q n ds l (Ws w0 F (L.set i (dw e size (.slice (some ⟨b,0,none⟩) m cap) m (cur.toList.take (m*size)))) Vs) rest):WL P ops Q n ds l (Ws w0 F L Vs) rest:=
 LW (λ_ hw=>hw.SZ i hL hm hc hs) h
end
section
variable {P:Program} {l:List (Nat×Value)} {W:World->Prop} {d:Option Tmp} {ty:TypeId} {pos:String} {af:Array Edge} {g:Option (Nat×Bool)}
theorem Tb {t u:TypeId} {x:Operand} {a:Option Addr} {m c s:Nat} (hs:dL P t=some s) (hx:aB l x=some (.slice a m c)):Yl P l W ⟨d,.binOp .eql t x (.const (.slice none 0 0)) u,ty,pos,af,g⟩ (.bool a.isNone):=by
 intro ρ w aF _;unfold dL at hs
 cases hu:P.underlying t with
 | none=>simp [hu] at hs
 | some dd=>
   cases dd<;>simp [hu] at hs
   have hy:ρ (.const (.slice none 0 0)) = .slice none 0 0:=aF _ _ rfl;rename_i el
   have e:(binOp .eql t (.slice a m c) (.slice none 0 0)).run P w = .ok (.bool a.isNone) w:=by
     simp only [binOp];simp [Op.equal,Op.maxDepth,Lib.run_equalIn_slice_nil w 9999 t el a m c 0 0 hu]
   simp only [execOp,aF x _ hx,hy,eqGuard,Sem.run_bind];simp [e]
end
section
variable {P:Program} {ops:Array Oper} {Q:Exit->Act->World->Prop} {n:Nat} {ds:List Deferred} {l l':List (Nat×Value)} {W:World->Prop} {w0:World} {F:List Nat} {L:List ak} {Vs:List View}
 {rest:List Oper} {d:Nat} {ty:TypeId} {pos:String} {af:Array Edge} {g:Option (Nat×Bool)}
theorem Lf {A:ak} (i:Nat) (hL:L[i]? = some A) (h:WL P ops Q n ds l (Ws w0 F (A::c_ i L) Vs) rest):WL P ops Q n ds l (Ws w0 F L Vs) rest:=
 LW (λ_ hw=>hw.perm (mf i L hL)) h
theorem WC.front {c:Code} {A:ak} (i:Nat) (hL:L[i]? = some A) (h:WC P c Q n ds l (Ws w0 F (A::c_ i L) Vs)):WC P c Q n ds l (Ws w0 F L Vs):=
 sh (λ_ hw=>hw.perm (mf i L hL)) h
theorem Ws.self {w:World} {L1 L2:List ak} (h:Ws w0 F (L1++L2) Vs w):Ws w (L1.flatMap ak.ids) L1 Vs w:=by
 have nd:=h.nd;rw [List.flatMap_append,List.nodup_append] at nd;exact ⟨Fr.refl _ _,λA hA=>h.kn A (by simp [hA]),nd.1,λA hA k hk=>.inl (List.mem_flatMap.2 ⟨A,hA,hk⟩),h.vs,λH hH A hA=>h.off H hH A (by simp [hA])⟩
theorem Ws.back {w w':World} {L1 ew L2:List ak} {a_:List View} (h:Ws w0 F (L1++L2) Vs w) (g:Ws w (L1.flatMap ak.ids) ew a_ w'):Ws w0 F (ew++L2) Vs w':=
 Ws.An h g.fr g.kn g.nd g.own
theorem Lw {ι:Type} {f:FuncId} {args:Array Operand} {ts:Array TypeId} {vs:List Value} (L1 L2:List ak) (hg:cB ops l g) (hn:Nat.blt d n=true) (hf:Enters P f) (ha:ik l args.toList=some vs) (hL:L=L1++L2)
   (v:ι->Value) (ew:ι->List ak) (R:ι->Prop) (a_:List View) (hV:∀H ∈ a_,H ∈ Vs)
   (hC:∀w,Ws w (L1.flatMap ak.ids) L1 a_ w->Calls P f vs.toArray w λe w'=>∃i,e = .returned (v i)/\R i/\Ws w (L1.flatMap ak.ids) (ew i) a_ w')
   (hr:∀i,R i->WL P ops Q n ds ((d,v i)::l) (Ws w0 F (ew i++L2) Vs) rest) :
   WL P ops Q n ds l (Ws w0 F L Vs) (⟨some d,.call ⟨.value (.func f),args,ts⟩,ty,pos,af,g⟩::rest):=by
 subst hL;refine WL.call hg hn hf ha v (λi w'=>R i/\Ws w0 F (ew i++L2) Vs w') (λw hw=>(hC w (hw.self.bw hV)).mono λe w' ⟨i,he,hR,h⟩=>⟨i,he,hR,hw.back h⟩) λi=>?_;intro a w cN hw;exact hr i hw.1 a w cN hw.2
theorem eT {f:FuncId} {args:Array Operand} {ts:Array TypeId} {vs:List Value} (L1 L2 ew:List ak) (hg:cB ops l g) (hn:Nat.blt d n=true) (hf:Enters P f) (ha:ik l args.toList=some vs) (hL:L=L1++L2)
   (a_:List View) (hV:∀H ∈ a_,H ∈ Vs)
   (hC:∀w,Ws w (L1.flatMap ak.ids) L1 a_ w->Calls P f vs.toArray w λe w'=>e = .returned (.tuple #[])/\Ws w (L1.flatMap ak.ids) ew a_ w')
   (hr:WL P ops Q n ds ((d,.tuple #[])::l) (Ws w0 F (ew++L2) Vs) rest) :
   WL P ops Q n ds l (Ws w0 F L Vs) (⟨some d,.call ⟨.value (.func f),args,ts⟩,ty,pos,af,g⟩::rest):=
 Lw (ι:=Unit) L1 L2 hg hn hf ha hL (λ_=>.tuple #[]) (λ_=>ew) (λ_=>True) a_ hV (λw hw=>(hC w hw).mono λe w' ⟨h1,h2⟩=>⟨(),h1,trivial,h2⟩) (λ_ _=>hr)
end
def hv (w:World):View:=λb=>w.heap[b]?
theorem iq (w:World):Le (hv w) w:=λ_ _ h=>h
theorem Hn {w:World} {b k:Nat} {ob:Obj} {v:Value} (h:w.heap[b]? = some ob) (hc:gJ ob k=some v):vc (hv w) b k=some v:=by simp [vc,hv,h,hc]
theorem mm {w:World} {H:View} (h:Le H w):aL H (hv w):=λb o hb=>h b o hb
theorem Ws.gL {w0 w:World} {F:List Nat} {L:List ak} {Vs:List View} (h:Ws w0 F L Vs w) (i:Nat) {b:Nat} {ob:Obj} (hL:L[i]? = some (ab b ob)) {k:Nat} {v:Value} (hc:gJ ob k=some v):vc (hv w) b k=some v:=
 Hn (h.kn _ (du hL)) hc
section
variable {P:Program} {ops:Array Oper} {Q:Exit->Act->World->Prop} {n:Nat} {ds:List Deferred} {l l':List (Nat×Value)} {W:World->Prop} {w0:World} {F:List Nat} {L:List ak} {Vs:List View} {rest:List Oper}
theorem bH {b:Nat} {ob:Obj} (i:Nat) (qA:Obj) (hL:L[i]? = some (ab b ob)) (he:ob=qA) (h:WL P ops Q n ds l (Ws w0 F (L.set i (ab b qA)) Vs) rest):WL P ops Q n ds l (Ws w0 F L Vs) rest:=by
 subst he
 have:L.set i (ab b ob)=L:=by
   obtain ⟨hi,he⟩:=List.getElem?_eq_some_iff.1 hL;rw [<-he];exact List.set_getElem_self hi
 rwa [this] at h
end
def C6 (P:Program) (t:TypeId):Option Nat:=match P.underlying t with | some (.int _)=>some 0 | some .string=>some 1 | some .bool=>some 2 | _=>none
def Au (P:Program):Nat->List Field->Option (List Nat)
 | _,[]=>some []
 | i, f :: r => bif Nat.beq f.offset i && !(f.name == "_") then (match C6 P f.type, Au P (i + 1) r with | some k, some ks => some (k :: ks) | _, _ => none) else none
def Ho (P:Program) (t:TypeId):Option (List Nat):=match P.underlying t with
 | some (.struct fs)=>bif P.stoodInHeld t||P.eqGuardType P.depth t then none else Au P 0 fs.toList
 | _=>none
def om:List Nat->List Value->List Value->Option Bool
 | [],[],[]=>some true
 | 0::ks,.int k a::xs,.int k' b::ys=>match om ks xs ys with | some r=>if k=k' then some ((a==b)&&r) else none | none=>none
 | 1::ks,.string a::xs,.string b::ys=>match om ks xs ys with | some r=>some ((a.data.toList==b.data.toList)&&r) | none=>none
 | 2::ks,.bool a::xs,.bool b::ys=>match om ks xs ys with | some r=>some ((a==b)&&r) | none=>none
 | _,_,_=>none
section
variable {P:Program}
theorem Tc {t:TypeId} {k:Nat} (h:C6 P t=some k) (cs:Array Value) (off:Nat) (v:Value) (hv:cs[off]? = some v) (w:World):(part t cs off).run P w = .ok v w:=by
 have hn:dI P t=true:=by
   unfold C6 at h;unfold dI
   cases hu:P.underlying t with
   | none=>simp [hu] at h
   | some d=>cases d<;>simp_all
 simp [part,G9 hn,hv]
theorem Td (d:Nat):∀(fs:List Field) (i:Nat) (ks:List Nat) (xs ys:List Value) (pre xV:List Value) (r:Bool) (w:World),Au P i fs=some ks->om ks xs ys=some r->pre.length=i->xV.length=i->
   (Op.eqFields (d+1) (pre++xs).toArray (xV++ys).toArray fs).run P w = .ok r w
 | [],i,ks,xs,ys,pre,xV,r,w,hk,he,_,_=>by
   simp [Au] at hk;subst hk
   cases xs<;>cases ys<;>simp [om] at he
   subst he;simp [Op.eqFields]
 | f::fs,i,ks,xs,ys,pre,xV,r,w,hk,he,hp,Te=>by
   simp only [Au] at hk
   cases hb : (Nat.beq f.offset i && !(f.name == "_")) with
   | false=>rw [hb] at hk; cases hk
   | true=>
     rw [hb] at hk;simp only [cond_true] at hk;simp only [Bool.and_eq_true] at hb;have ho:=Nat.eq_of_beq_eq_true hb.1
     have acA : f.name ≠ "_" := by simpa using hb.2
     cases eU:C6 P f.type with
     | none=>simp [eU] at hk
     | some k=>
       cases Mn:Au P (i+1) fs with
       | none=>simp [eU,Mn] at hk
       | some kr=>
         simp [eU,Mn] at hk;subst hk
         cases xs with
         | nil=>cases ys<;>simp [om] at he
         | cons x xs=>
           cases ys with
           | nil=>rcases k with _ | _ | _ | k<;>cases x<;>simp [om] at he
           | cons y ys=>
             have hx:((pre++x::xs).toArray)[f.offset]? = some x:=by simp [ho,<-hp]
             have hy:((xV++y::ys).toArray)[f.offset]? = some y:=by simp [ho,<-Te]
             have key:∀b r',(Op.equalIn (d+1) f.type x y).run P w = .ok b w->om kr xs ys=some r'->r=(b&&r')->(Op.eqFields (d+1) (pre++x::xs).toArray (xV++y::ys).toArray (f::fs)).run P w = .ok r w:=by
               intro b r' h1 h2 h3;have ih:=Td d fs (i+1) kr xs ys (pre++[x]) (xV++[y]) r' w Mn h2 (by simp [hp]) (by simp [Te]);simp only [List.append_assoc,List.singleton_append] at ih;simp only [Op.eqFields,acA,ne_eq,not_false_eq_true,if_true,Sem.run_bind,Tc eU _ _ _ hx,Tc eU _ _ _ hy,Result.andThen_ok,h1];cases b
               · simp [h3]
               · simp [h3,ih]
             unfold C6 at eU
             cases hu:P.underlying f.type with
             | none=>simp [hu] at eU
             | some td=>
               cases xW:om kr xs ys with
               | none=>cases td<;>simp [hu] at eU<;>subst eU<;>cases x<;>cases y<;>simp [om,xW] at he
               | some r'=>
                 cases td<;>simp [hu] at eU<;>subst eU<;>cases x<;>cases y<;>simp [om,xW] at he
                 · exact key _ r' (run_equalIn_bool' w d _ _ _ hu) xW he.symm
                 · obtain ⟨rfl,he⟩:=he
                   exact key _ r' (run_equalIn_int w d _ _ _ _ _ hu) xW he.symm
                 · refine key _ r' (run_equalIn_string w d _ _ _ hu) xW ?_
                   rw [ByteArray.toList_eq,ByteArray.toList_eq];rw [<-he]; simp
variable {l:List (Nat×Value)} {W:World->Prop} {d:Option Tmp} {ty:TypeId} {pos:String} {af:Array Edge} {g:Option (Nat×Bool)}
theorem acB {t:TypeId} {ks:List Nat} {xs ys:List Value} {r:Bool} (hf:Ho P t=some ks) (he:om ks xs ys=some r) (w:World) :
   (Op.equalIn 10000 t (.agg xs.toArray) (.agg ys.toArray)).run P w = .ok r w/\P.eqGuardType P.depth t=false:=by
 unfold Ho at hf
 cases hu:P.underlying t with
 | none=>simp [hu] at hf
 | some td=>
   cases td<;>simp [hu] at hf
   rename_i fs
   cases hb:(P.stoodInHeld t||P.eqGuardType P.depth t) with
   | true=>rw [hb] at hf; cases hf
   | false=>
     rw [hb] at hf;simp only [Bool.or_eq_false_iff] at hb
     have ct:P.fieldsOf t=fs:=by simp [Program.fieldsOf,hu]
     refine ⟨?_,hb.2⟩;rw [run_equalIn_struct w 9999 t _ _ (by rw [ct]; exact hu) hb.1,ct]
     simpa using Td 9998 fs.toList 0 ks xs ys [] [] r w (by simpa using hf) he rfl rfl
theorem acC {t u:TypeId} {x y:Operand} {ks:List Nat} {xs ys:List Value} {r:Bool} (hf:Ho P t=some ks) (hx:aB l x=some (.agg xs.toArray)) (hy:aB l y=some (.agg ys.toArray)) (he:om ks xs ys=some r) :
   Yl P l W ⟨d,.binOp .eql t x y u,ty,pos,af,g⟩ (.bool r):=by
 intro ρ w aF _;obtain ⟨h1,h2⟩:=acB hf he w;simp only [execOp,aF x _ hx,aF y _ hy,Sem.run_bind,run_eqGuard_agg w _ _ _ _ _ _ h2,Result.andThen_ok,run_eql_struct w,h1,Sem.run_pure]
end
section
variable {P:Program} {l:List (Nat×Value)} {W:World->Prop} {d:Option Tmp} {ty:TypeId} {pos:String} {af:Array Edge} {g:Option (Nat×Bool)}
theorem acD {t u:TypeId} {x y:Operand} {k:IntKind} {a b:Int} (hx:aB l x=some (.int k a)) (hy:aB l y=some (.int k b)) (hb:b≠0):Yl P l W ⟨d,.binOp .quo t x y u,ty,pos,af,g⟩ (.int k (k.wrap (a.tdiv b))):=
 λρ w aF _=>by simp [execOp,aF x _ hx,aF y _ hy,eqGuard,binOp,Op.intDiv,hb]
theorem acE {t u:TypeId} {x y:Operand} {k:IntKind} {a b:Int} (hx:aB l x=some (.int k a)) (hy:aB l y=some (.int k b)) (hb:b≠0):Yl P l W ⟨d,.binOp .rem t x y u,ty,pos,af,g⟩ (.int k (a.tmod b)):=
 λρ w aF _=>by simp [execOp,aF x _ hx,aF y _ hy,eqGuard,binOp,Op.intDiv,hb]
end
theorem Sl.flat {α:Type} {rd:View->Nat->Nat->α->Prop} {k:Nat} {H:View} {b o c:Nat} {l:List α} {f:α->List Value} (h:Sl rd k H (some ⟨b,o,none⟩) c l) (hf:∀x,(f x).length=k) (hk:0<k) (dP:∀b o x,rd H b o x->aT H b o (f x)) :
   ∀j u,(l.flatMap f)[j]? = some u->vc H b (o+j)=some u:=by
 intro j u hu;have hj:=(List.getElem?_eq_some_iff.1 hu).1;rw [vU hf] at hj;have hi:j / k<l.length:=Nat.div_lt_of_lt_mul (by rw [Nat.mul_comm]; exact hj);have hx:l[j / k]? = some l[j / k]:=List.getElem?_eq_getElem hi;have hm:j % k<k:=Nat.mod_lt _ hk
 have e:j / k*k+j % k=j:=by rw [Nat.mul_comm]; exact Nat.div_add_mod j k
 have h2:=pk hf hx hm;rw [e,hu] at h2;obtain ⟨b',o',Hp,hr⟩:=h.aZ _ _ hx;simp at Hp;obtain ⟨rfl,rfl⟩:=Hp;have h3:=dP _ _ _ hr (j % k) u h2.symm;rw [Nat.add_assoc,e] at h3;exact h3
section
variable {P:Program} {Q:Exit->Act->World->Prop} {n:Nat} {ds:List Deferred} {l:List (Nat×Value)}
theorem WC.xX {id:Nat} {os:List Oper} {w0:World} {F:List Nat} {L:List ak} {Vs:List View} (ord:List (Nat×Bool)) (hm:P.follows .mixedOrders=true) (hB:(Region.noSelect os.toArray&&(ord.length==os.toArray.size&&nn .any os.toArray ord (Array.replicate os.toArray.size false)))=true)
   (hQ:∀c a w d v,Q (.panic c) (a.put d v) w->Q (.panic c) a w) (h:WD P os.toArray (Ws w0 F L Vs) Q n ds l (Ws w0 F L Vs) ord):WC P (.region id os.toArray true) Q n ds l (Ws w0 F L Vs):=
 WC.S8 _ ord hm hB hQ (λ_ h=>h.drew) h
theorem WC.nq {id:Nat} {os:List Oper} {w0:World} {F:List Nat} {L:List ak} {Vs:List View} (i:Nat) (ord:List (Nat×Bool)) (hm:P.follows .mixedOrders=true) (hB:(Region.noSelect os.toArray&&(ord.length==os.toArray.size&&nn .any os.toArray ord (Array.replicate os.toArray.size false)))=true)
   (hQ:∀c a w d v,Q (.panic c) (a.put d v) w->Q (.panic c) a w) (h:WD P os.toArray (Ws w0 F (c_ i L) Vs) Q n ds l (Ws w0 F L Vs) ord):WC P (.region id os.toArray true) Q n ds l (Ws w0 F L Vs):=
 WC.S8 _ ord hm hB hQ (λ_ h=>h.drew) h
end
section
variable {P:Program} {l:List (Nat×Value)} {W:World->Prop} {d:Option Tmp} {ty:TypeId} {pos:String} {af:Array Edge} {g:Option (Nat×Bool)}
theorem Mo {t u:TypeId} {x y:Operand} {a b:Nat} {a' b':Int} (hx:aB l x=some (.int .i64 a')) (hy:aB l y=some (.int .i64 b')) (ea:a'=(a:Int)) (eb:b'=(b:Int)) (hb:(a:Int)+b<=9223372036854775807):Yl P l W ⟨d,.binOp .add t x y u,ty,pos,af,g⟩ (.int .i64 ((a+b:Nat):Int)):=by
 subst ea eb;have:=lH (P:=P) (W:=W) (d:=d) (ty:=ty) (pos:=pos) (af:=af) (g:=g) (t:=t) (u:=u) hx hy ⟨by omega,hb⟩
 rwa [show ((a+b:Nat):Int)=(a:Int)+b by omega]
theorem C7 {f:FuncId} {eF:Array Operand} {vs:List Value} (ha:ik l eF.toList=some vs):Yl P l W ⟨d,.makeFunc (.func f) #[] eF,ty,pos,af,g⟩ (.func (.func f) #[] vs.toArray):=by
 intro ρ w aF _
 have e:eF.map ρ=vs.toArray:=by
   apply Array.ext'
   simpa using Hd aF _ _ ha
 simp [execOp,Instr.makeFunc,e]
end
section
variable {P:Program} {ops:Array Oper} {Q:Exit->Act->World->Prop} {n:Nat} {ds:List Deferred} {l:List (Nat×Value)} {w0:World} {F:List Nat} {L:List ak} {Vs:List View} {rest:List Oper}
theorem WL.Hq {e:TypeId} {size m:Nat} {v:Value} {xs:List Value} (i m':Nat) (Tf:List Value) (hL:L[i]? = some (dw e size v m xs)) (hm:m=m') (hx:xs=Tf)
   (h:WL P ops Q n ds l (Ws w0 F (L.set i (dw e size v m' Tf)) Vs) rest):WL P ops Q n ds l (Ws w0 F L Vs) rest:=by
 subst hm hx
 have:L.set i (dw e size v m xs)=L:=by
   obtain ⟨hi,he⟩:=List.getElem?_eq_some_iff.1 hL;rw [<-he];exact List.set_getElem_self hi
 rwa [this] at h
end
theorem Ws.bF {w0 w:World} {F:List Nat} {L L':List ak} {Vs:List View} (h:Ws w0 F (L++L') Vs w):Ws w0 F L Vs w:=Ws.drop (h.perm List.perm_append_comm)
theorem Hr (l:List UInt8):(ByteArray.mk l.toArray).size=l.length:=by show l.toArray.size=_; simp
theorem acF {w0 w:World} {F:List Nat} {L:List ak} {Vs:List View} (h:Ws w0 F L Vs w) (i:Nat) {b:Nat} {c:Array Value} {T:TypeId} {fz:Nat×Nat} (hL:L[i]? = some (ab b (.cells c T fz))) {k:Nat} {u:Value} (hu:c.toList[k]? = some u):w.cell? ((⟨b,0,none⟩:Addr).add k)=some u:=by
 rw [qv];exact cell_of_heap (h.kn _ (du hL)) (by simpa [gJ] using hu)
def bv (b:Nat) (ob:Obj):View:=λk=>if k=b then some ob else none
theorem Ws.Hs {w0 w:World} {F:List Nat} {L:List ak} {Vs:List View} (h:Ws w0 F L Vs w) (i:Nat) {b:Nat} {ob:Obj} (hL:L[i]? = some (ab b ob)):Ws w0 F (c_ i L) (bv b ob::Vs) w:=by
 have hp:=h.perm (mf i L hL);have hd:Ws w0 F (c_ i L) Vs w:=Ws.drop (L:=[ab b ob]) hp;have hb:w.heap[b]? = some ob:=h.kn _ (du hL);have nd:=hp.nd;rw [List.flatMap_cons,List.nodup_append] at nd;refine ⟨hd.fr,hd.kn,hd.nd,hd.own,?_,?_⟩
 · intro H hH
   rcases List.mem_cons.1 hH with rfl | hH
   · intro k o hk
     unfold bv at hk
     split at hk
     · rename_i e; subst e; injection hk with hk; subst hk; exact hb
     · cases hk
   · exact hd.vs H hH
 · intro H hH A hA k hk
   rcases List.mem_cons.1 hH with rfl | hH
   · unfold bv
     rw [if_neg];intro e;subst e;exact nd.2.2 k (by simp [ab]) k (List.mem_flatMap.2 ⟨A,hA,hk⟩) O
   · exact hd.off H hH A hA k hk
section
variable {P:Program} {ops:Array Oper} {Q:Exit->Act->World->Prop} {n:Nat} {ds:List Deferred} {l:List (Nat×Value)} {w0:World} {F:List Nat} {L:List ak} {Vs:List View} {rest:List Oper}
theorem WL.Hs {b:Nat} {ob:Obj} (i:Nat) (hL:L[i]? = some (ab b ob)) (h:WL P ops Q n ds l (Ws w0 F (c_ i L) (bv b ob::Vs)) rest):WL P ops Q n ds l (Ws w0 F L Vs) rest:=
 LW (λ_ hw=>hw.Hs i hL) h
end
section
variable {P:Program} {l:List (Nat×Value)} {W:World->Prop} {d:Option Tmp} {ty:TypeId} {pos:String} {af:Array Edge} {g:Option (Nat×Bool)}
theorem Ht {t u:TypeId} {x y:Operand} {a b:Int} (v:Int) (hx:aB l x=some (.int .i64 a)) (hy:aB l y=some (.int .i64 b)) (he:a+b=v) (hb : -9223372036854775808<=v/\v<=9223372036854775807):Yl P l W ⟨d,.binOp .add t x y u,ty,pos,af,g⟩ (.int .i64 v):=by
 subst he; exact lH hx hy hb
theorem qD {t u:TypeId} {x y:Operand} {a b:Int} (v:Int) (hx:aB l x=some (.int .i64 a)) (hy:aB l y=some (.int .i64 b)) (he:a-b=v) (hb : -9223372036854775808<=v/\v<=9223372036854775807):Yl P l W ⟨d,.binOp .sub t x y u,ty,pos,af,g⟩ (.int .i64 v):=by
 subst he; exact ab' hx hy hb
end
def Hu (size:Nat):Nat->List (Nat×Value)->Bool
 | _,[]=>true
 | k,(i,v)::r=>Nat.beq i k&&Nat.beq (dv v).length size&&Hu size (k+1) r
def Av:List (Nat×Value)->List Value
 | []=>[]
 | (_,v)::r=>dv v++Av r
theorem Tg (size:Nat):∀(vs:List (Nat×Value)) (k:Nat) (done rest:List Value),Hu size k vs=true->done.length=k*size->rest.length=vs.length*size->
   si (λi=>some (i*size,size)) (done++rest) vs=some (done++Av vs)
 | [],k,done,rest,_,_,hr=>by
   have:rest=[]:=List.eq_nil_of_length_eq_zero (by simpa using hr);simp [si,Av,this]
 | (i,v)::r,k,done,rest,hf,hd,hr=>by
   simp only [Hu,Bool.and_eq_true] at hf;obtain ⟨⟨h1,h2⟩,h3⟩:=hf;have h1:=Nat.eq_of_beq_eq_true h1;subst h1;have h2:=Nat.eq_of_beq_eq_true h2
   have hrl:size<=rest.length:=by rw [hr,List.length_cons,Nat.add_mul]; omega
   have hb:(Nat.beq (dv v).length size&&Nat.ble (i*size+size) (done++rest).length)=true:=by
     rw [h2,Nat.beq_refl,Bool.true_and];exact Nat.ble_eq_true_of_le (by simp; omega)
   simp only [si,hb,cond_true]
   have e1:(done++rest).take (i*size)=done:=by rw [<-hd]; simp
   have e2:(done++rest).drop (i*size+size)=rest.drop size:=by
     rw [List.drop_append,hd,List.drop_of_length_le (by omega)];simp
   rw [e1,e2];have:=Tg size r (i+1) (done++dv v) (rest.drop size) h3 (by simp [hd,h2,Nat.add_mul]) (by simp [hr,Nat.add_mul]);rw [this];simp [Av]
theorem acG (z:Value) (k:Nat):(vR z k).length=k:=by simp [vR]
section
variable {P:Program} {ops:Array Oper} {Q:Exit->Act->World->Prop} {n:Nat} {ds:List Deferred} {l:List (Nat×Value)} {w0:World} {F:List Nat} {L:List ak} {Vs:List View} {rest:List Oper} {d:Nat} {ty:TypeId} {pos:String} {af:Array Edge} {g:Option (Nat×Bool)}
theorem Lb {t e:TypeId} {len size bytes:Nat} {parts:List (Nat×Operand)} {z:Value} {vs:List (Nat×Value)} (hg:cB ops l g) (hn:Nat.blt d n=true) (hE:eS P t e z size bytes)
   (hv:tW l parts=some vs) (hb:Nat.ble (len*size) 16777216=true) (hf:Hu size 0 vs=true) (hl:vs.length=len)
   (h:∀b,WL P ops Q n ds ((d,.slice (some ⟨b,0,none⟩) len len)::l) (Ws w0 F (ab b (.cells (Av vs).toArray e (0,0))::L) Vs) rest) :
   WL P ops Q n ds l (Ws w0 F L Vs) (⟨some d,.buildSlice t len parts.toArray,ty,pos,af,g⟩::rest):=by
 refine WL.Ml hg hn hE hv hb (out:=Av vs) ?_ h
 have hz:(bif Nat.beq (len*size) 0 then [] else vR z (len*size))=vR z (len*size):=by
   cases hq:Nat.beq (len*size) 0 with
   | false=>rfl
   | true=>have:=Nat.eq_of_beq_eq_true hq; rw [this]; rfl
 rw [hz];have:=Tg size vs 0 [] (vR z (len*size)) hf (by simp) (by rw [acG,hl])
 simpa using this
end
inductive Ord where
 | nil
 | stop
 | q (i:Nat) (r:Ord)
 | e (i:Nat) (r alt:Ord)
def Ord.alts:Ord->List Nat
 | .e i _ alt=>i::alt.alts
 | _=>[]
def js (md:Region.Mode) (ops:Array Oper):Bool->Ord->Nat->Array Bool->Bool
 | top,.nil,k,listed=>top&&(Nat.beq k 0&&(Region.ready md ops listed).isEmpty)
 | top,.stop,_,_=>!top
 | top,.q i r,k,listed=>match k with
   | 0=>false
   | k+1=>top&&((Region.ready md ops listed).contains i&&Region.free md ops listed i&&js md ops true r k (listed.setIfInBounds i true))
 | top,.e i r alt,k,listed=>match k with
   | 0=>false
   | k+1=>(bif top then Region.ready md ops listed==i::alt.alts else true)&&(js md ops true r k (listed.setIfInBounds i true)&&js md ops false alt (k+1) listed)
section
variable {P:Program} {md:Region.Mode} {ops:Array Oper} {C:World->Prop} {Q:Exit->Act->World->Prop}
def so (P:Program) (ops:Array Oper) (C:World->Prop) (Q:Exit->Act->World->Prop):Ord->Act->World->Prop
 | .nil,a,w=>C w/\Q .normal a w
 | .stop,_,_=>True
 | .q i r,a,w=>C w/\∃o v,ops[i]? = some o/\YV P ops C o v a/\so P ops C Q r (a.put o.dst v) w
 | .e i r alt,a,w=>C w/\(wpOp P ops Q i (so P ops C Q r) a w/\so P ops C Q alt a w)
theorem Hv (hs:Region.noSelect ops=true) (hQ:∀c a w d v,Q (.panic c) (a.put d v) w->Q (.panic c) a w):∀(o:Ord) (k:Nat) (listed:Array Bool) (a:Act) (w:World),
   (js md ops true o k listed=true->so P ops C Q o a w->qB P md ops C Q k listed a w)/\
   (js md ops false o k listed=true->so P ops C Q o a w->∀j ∈ o.alts,∃k',k=k'+1/\wpOp P ops Q j (qB P md ops C Q k' (listed.setIfInBounds j true)) a w)
 | .nil,k,listed,a,w=>by
   refine ⟨λhB h=>?_,λhB=>by simp [js] at hB⟩;simp only [js,Bool.true_and,Bool.and_eq_true] at hB;obtain rfl:=Nat.eq_of_beq_eq_true hB.1;exact ⟨h.1,by simpa using hB.2,h.2⟩
 | .stop,k,listed,a,w=>⟨λhB=>by simp [js] at hB,λ_ _ j hj=>by simp [Ord.alts] at hj⟩
 | .q i r,k,listed,a,w=>by
   cases k with
   | zero=>exact ⟨λhB=>by simp [js] at hB,λhB=>by simp [js] at hB⟩
   | succ k=>
     refine ⟨λhB h=>?_,λhB=>by simp [js] at hB⟩;simp only [js,Bool.true_and,Bool.and_eq_true] at hB;obtain ⟨hC,o,v,ho,hy,h⟩:=h
     exact Mi ho (Region.noSelect_spec hs) (λc a w=>hQ c a w o.dst v) k listed a w (Region.free_spec ho hB.1.2) (by simpa using hB.1.1) hy hC
       ((Hv hs hQ r k _ _ _).1 hB.2 h)
 | .e i r alt,k,listed,a,w=>by
   cases k with
   | zero=>exact ⟨λhB=>by simp [js] at hB,λhB=>by simp [js] at hB⟩
   | succ k=>
     have gq:js md ops true r k (listed.setIfInBounds i true)=true->js md ops false alt (k+1) listed=true->so P ops C Q (.e i r alt) a w->
         ∀j ∈ i::alt.alts,wpOp P ops Q j (qB P md ops C Q k (listed.setIfInBounds j true)) a w:=by
       intro h1 h2 h j hj
       rcases List.mem_cons.1 hj with rfl | hj
       · exact wpOp_mono (λa' w' h'=>(Hv hs hQ r k _ a' w').1 h1 h') h.2.1
       · obtain ⟨k',hk,hx⟩:=(Hv hs hQ alt (k+1) listed a w).2 h2 h.2.2 j hj
         injection hk with hk
         subst hk;exact hx
     refine ⟨λhB h=>?_,λhB h j hj=>?_⟩
     · simp only [js,cond_true,Bool.and_eq_true,beq_iff_eq] at hB
       refine ⟨h.1,λhe=>(by rw [he] at hB; cases hB.1),λj hj=>?_⟩;rw [hB.1] at hj;exact gq hB.2.1 hB.2.2 h j hj
     · simp only [js,cond_false,Bool.true_and,Bool.and_eq_true] at hB
       exact ⟨k,O,gq hB.1 hB.2 h j hj⟩
theorem acH {id:Nat} {a:Act} {w:World} {l:List Oper} (ord:Ord) (hm:P.follows .mixedOrders=true) (hB:(Region.noSelect l.toArray&&js .any l.toArray true ord l.toArray.size (Array.replicate l.toArray.size false))=true)
   (hQ:∀c a w d v,Q (.panic c) (a.put d v) w->Q (.panic c) a w) (h:so P l.toArray C Q ord a w.drew):(Code.region id l.toArray true).wp P Q a w:=by
 simp only [Bool.and_eq_true] at hB;have:=Hj (md:=.any) _ _ _ _ ((Hv hB.1 hQ ord _ _ a w.drew).1 hB.2 h);exact wp_region_any hm this
variable {n:Nat} {ds:List Deferred} {l:List (Nat×Value)} {W:World->Prop}
def WT (P:Program) (ops:Array Oper) (C:World->Prop) (Q:Exit->Act->World->Prop) (n:Nat) (ds:List Deferred) (l:List (Nat×Value)) (W:World->Prop) (ord:Ord):Prop:=
 ∀a w,Ag n ds l a->W w->so P ops C Q ord a w
theorem WT.q {r:Ord} {i d:Nat} {op:Op} {ty:TypeId} {pos:String} {af:Array Edge} {g:Option (Nat×Bool)} {v:Value} (hi:ops[i]? = some ⟨some d,op,ty,pos,af,g⟩) (hg:cB ops l g) (hn:Nat.blt d n=true)
   (hC:∀w,W w->C w) (hy:Yl P l C ⟨some d,op,ty,pos,af,g⟩ v) (h:WT P ops C Q n ds ((d,v)::l) W r):WT P ops C Q n ds l W (.q i r):=by
 intro a w ha hw;refine ⟨hC w hw,_,v,hi,.inl ⟨cB.wanted (o:=⟨some d,op,ty,pos,af,g⟩) hg ha,λw' dE=>hy a.eval w' (λx u hx=>ha.eval hx) dE⟩,h _ _ (ha.put hn v) hw⟩
theorem WT.e {r alt:Ord} {i:Nat} {o:Oper} (hi:ops[i]? = some o) (hC:∀w,W w->C w) (h:WL P ops (Exit.then (so P ops C Q r) Q) n ds l W [o]) (h2:WT P ops C Q n ds l W alt):WT P ops C Q n ds l W (.e i r alt):=by
 intro a w ha hw;refine ⟨hC w hw,?_,h2 a w ha hw⟩;have:=h a w ha hw;unfold wpList at this;unfold wpOp;simp only [hi]
 split
 · rename_i dE
   rw [if_pos dE] at this
   rcases this with this | ⟨h1,a2,w2,h2⟩
   · left
     unfold Oper.wp at this ⊢;unfold Oper.upon at this ⊢
     split at this
     all_goals first
       | exact this
       | (refine this.mono λe w' he=>?_
          cases e with
          | returned v=>exact he
          | panicked ch=>exact he
          | outgrown=>obtain ⟨a3,w3,h3⟩:=he; exact ⟨a3,w3,h3⟩)
       | exact this.mono λv w' he=>he
   · exact .inr ⟨h1,a2,w2,h2⟩
 · rename_i dE
   rw [if_neg dE] at this;exact this
theorem WT.stop:WT P ops C Q n ds l W .stop:=λ_ _ _ _=>trivial
theorem ja {r:Ord} (h:WT P ops C Q n ds l W r):WE (Exit.then (so P ops C Q r) Q) .normal n ds l W:=h
theorem WT.nil (hC:∀w,W w->C w) (h:WE Q .normal n ds l W):WT P ops C Q n ds l W .nil:=λa w ha hw=>⟨hC w hw,h a w ha hw⟩
theorem WC.acI {id:Nat} {os:List Oper} {w0:World} {F:List Nat} {L:List ak} {Vs:List View} (ord:Ord) (hm:P.follows .mixedOrders=true) (hB:(Region.noSelect os.toArray&&js .any os.toArray true ord os.toArray.size (Array.replicate os.toArray.size false))=true)
   (hQ:∀c a w d v,Q (.panic c) (a.put d v) w->Q (.panic c) a w) (h:WT P os.toArray (Ws w0 F L Vs) Q n ds l (Ws w0 F L Vs) ord):WC P (.region id os.toArray true) Q n ds l (Ws w0 F L Vs):=
 λa w ha hw=>acH ord hm hB hQ (h a w.drew ha hw.drew)
end
abbrev nr:=List UInt8×Value×Nat
def mo (e:nr):MapEntry:={ key:=st e.1,val:=e.2.1,born:=e.2.2 }
def pn (m:List nr) (c:Nat):Obj:=.map (m.map mo).toArray c
def oo (k:List UInt8):List nr->Nat->Option (Nat×Value)
 | [],_=>none
 | e::r,i=>if (k==e.1)=true then some (i,e.2.1) else oo k r (i+1)
def Aw (k:List UInt8) (v:Value) (m:List nr) (c:Nat):List nr:=match oo k m 0 with
 | some (i,_)=>m.modify i λe=>(k,v,e.2.2)
 | none=>m++[(k,v,c)]
def Ax (k:List UInt8) (m:List nr) (c:Nat):Nat:=match oo k m 0 with | some _=>c | none=>c+1
def C8 (k:List UInt8) (m:List nr) (z:Value):Value:=match oo k m 0 with | some (_,v)=>v | none=>z
theorem Mp (a b:List UInt8):(ByteArray.mk a.toArray==ByteArray.mk b.toArray)=(a==b):=by
 show (a.toArray==b.toArray)=_
 simp
theorem acJ (m:List nr) (j:Nat) (k:List UInt8) (v:Value):(m.map mo).modify j (λe=>{ e with key:=st k,val:=v })=(m.modify j λe=>(k,v,e.2.2)).map mo:=by
 apply List.ext_getElem?;intro i;simp only [List.getElem?_modify,List.getElem?_map]
 cases m[i]? with
 | none=>simp
 | some e=>by_cases h:j=i<;>simp [h,mo]
theorem Mq (k:List UInt8):∀(m:List nr) (i:Nat),Instr.findNow .string (st k) (m.map mo) i=some (oo k m i)
 | [],_=>rfl
 | e::r,i=>by
   simp only [List.map_cons,Instr.findNow,mo,st,Instr.sameNow,Mp,oo];cases h:(k==e.1)
   · simp only [Bool.false_eq_true,if_false]
     exact Mq k r (i+1)
   · simp
section
variable {P:Program} {ops:Array Oper} {Q:Exit->Act->World->Prop} {n:Nat} {ds:List Deferred} {l:List (Nat×Value)} {w0:World} {F:List Nat} {L:List ak} {Vs:List View} {rest:List Oper} {d:Nat} {ty:TypeId} {pos:String} {af:Array Edge} {g:Option (Nat×Bool)}
theorem WL.acK {t:TypeId} (hg:cB ops l g) (hn:Nat.blt d n=true)
   (h:∀b,WL P ops Q n ds ((d,.map (some b))::l) (Ws w0 F (ab b (pn [] 0)::L) Vs) rest) :
   WL P ops Q n ds l (Ws w0 F L Vs) (⟨some d,.makeMap t none,ty,pos,af,g⟩::rest):=
 WL.new (mk:=λb=>.map (some b)) (o:=pn [] 0) hg hn (λρ w _ _=>by
   simp only [execOp]
   simp [Instr.makeMap,pn]) h
theorem acL {dd:Option Tmp} {t kt e:TypeId} {x y:Operand} {b c:Nat} {m:List nr} {k:List UInt8} {z:Value} (i:Nat) (ht:P.underlying t=some (.map kt e)) (hk:P.underlying kt=some .string) (hz:zeroOf P e=some z) (hx:aB l x=some (.map (some b))) (hy:aB l y=some (st k)) (hL:L[i]? = some (ab b (pn m c))) :
   Yl P l (Ws w0 F L Vs) ⟨dd,.lookup t x y false,ty,pos,af,g⟩ (C8 k m z):=by
 intro ρ w aF hw;have hb:w.heap[b]? = some (.map (m.map mo).toArray c):=hw.kn _ (du hL);have hf:=Mq k m 0;have hc:(Instr.checkKey (m.map mo).toArray.isEmpty 10000 kt (st k)).run P w = .ok () w:=MapKept.run_checkKey (k:=st k) hk (by simp [MapKept.IsKey,st]) _ 9999
 have e1:(Instr.lookup t (.map (some b)) (st k) false).run P w = .ok (C8 k m z) w:=by
   simp only [Instr.lookup,Sem.run_bind,run_underlying ht,Result.andThen_ok,MapKept.run_getObj_map hb,Sem.run_pure,hc];rw [MapKept.run_findKey hk (by simpa using hf)];unfold C8
   cases hm:oo k m 0 with
   | none=>simp [Result.andThen_ok,xP hz]
   | some r=>obtain ⟨i,v⟩:=r; simp [Result.andThen_ok]
 simp [execOp,aF x _ hx,aF y _ hy,e1]
theorem Th {dd:Option Tmp} {t kt e:TypeId} {x:Operand} {b c:Nat} {m:List nr} (i:Nat) (ht:P.underlying t=some (.map kt e)) (hx:aB l x=some (.map (some b))) (hL:L[i]? = some (ab b (pn m c))) :
   Yl P l (Ws w0 F L Vs) ⟨dd,.call ⟨.builtin .len,#[x],#[t]⟩,ty,pos,af,g⟩ (.int .i64 (m.length:Int)):=by
 intro ρ w aF hw;have hb:w.heap[b]? = some (.map (m.map mo).toArray c):=hw.kn _ (du hL);simp [execOp,resolve,invoke,builtin,aF x _ hx,Builtin.len_,run_underlying ht,MapKept.run_getObj_map hb,goInt]
theorem WL.acM {t kt e:TypeId} {x y u:Operand} {b c:Nat} {m:List nr} {k:List UInt8} {v:Value} (i:Nat) (hg:cB ops l g) (ht:P.underlying t=some (.map kt e)) (hk:P.underlying kt=some .string) (hx:aB l x=some (.map (some b))) (hy:aB l y=some (st k)) (hu:aB l u=some v) (hL:L[i]? = some (ab b (pn m c)))
   (h:WL P ops Q n ds l (Ws w0 F (L.set i (ab b (pn (Aw k v m c) (Ax k m c)))) Vs) rest) :
   WL P ops Q n ds l (Ws w0 F L Vs) (⟨none,.mapUpdate t x y u,ty,pos,af,g⟩::rest):=by
 refine WL.step hg λa w ha hw K hK=>?_;have hb:w.heap[b]? = some (.map (m.map mo).toArray c):=hw.kn _ (du hL);have hf:=Mq k m 0;have hc:(Instr.checkKey false 10000 kt (st k)).run P w = .ok () w:=MapKept.run_checkKey (k:=st k) hk (by simp [MapKept.IsKey,st]) _ 9999
 have e1:(Instr.mapUpdate t (.map (some b)) (st k) v).run P w = .ok () { w with heap:=w.heap.setIfInBounds b (pn (Aw k v m c) (Ax k m c)) }:=by
   simp only [Instr.mapUpdate,Sem.run_bind,run_underlying ht,Result.andThen_ok,MapKept.run_getObj_map hb,Sem.run_pure,hc];rw [MapKept.run_findKey hk (by simpa using hf)];unfold Aw Ax
   cases hm:oo k m 0 with
   | none=>simp [Result.andThen_ok,MapKept.run_setObj_map _ hb,pn,mo,st]
   | some r=>
     obtain ⟨j,v'⟩:=r
     have xY:m[j]?.map (·.1)=some k:=by
       have key:∀(m:List nr) (i0:Nat),oo k m i0=some (j,v')->i0<=j/\(m[j-i0]?).map (·.1)=some k:=by
         intro m
         induction m with
         | nil=>intro i0 h; simp [oo] at h
         | cons e r ih=>
           intro i0 h;simp only [oo] at h
           split at h
           · rename_i hk
             injection h with h; injection h with h1 h2
             subst h1;simp at hk;simp [hk]
           · obtain ⟨h1,h2⟩:=ih (i0+1) h
             refine ⟨by omega,?_⟩
             have:j-i0=(j-(i0+1))+1:=by omega
             rw [this]; simpa using h2
       simpa using (key m 0 hm).2
     have gX:((((m.map mo).toArray)[j]?).map (·.key)).getD (st k)=st k:=by
       cases he:m[j]? with
       | none=>simp [he]
       | some e=>rw [he] at xY; simp at xY; simp [he,mo,xY]
     simp only [gX,Result.andThen_ok]
     have acN:(Instr.keyThatStays (st k) (st k)).run P w = .ok (st k) w:=by
       simp [Instr.keyThatStays,Instr.sameBits,st,Mp]
     simp only [Sem.run_bind,acN,Result.andThen_ok,MapKept.run_setObj_map _ hb,pn]
     have C9:(m.map mo).toArray.modify j (λe=>{ e with key:=st k,val:=v })=((m.modify j λe=>(k,v,e.2.2)).map mo).toArray:=by
       apply Array.ext';rw [Array.toList_modify];exact acJ m j k v
     rw [C9]
 have qw:(execOp a.eval ⟨none,.mapUpdate t x y u,ty,pos,af,g⟩).run P w = .ok .skip { w with heap:=w.heap.setIfInBounds b (pn (Aw k v m c) (Ax k m c)) }:=by
   simp only [execOp,ha.eval hx,ha.eval hy,ha.eval hu,Sem.run_bind,e1,Result.andThen_ok,Sem.run_pure]
 simp only [Oper.wp,qw,Oper.upon_skip];refine hK _ _ (h _ _ (ha.CM undef) ?_);refine Ws.vN hw i hL ⟨O,O,O,by simp,λj hj dt=>?_⟩ ?_ (by simp [ab]) (by simp [ab])
 · have:b≠j:=λe=>dt (by simp [ab,e])
   simp [Array.getElem?_setIfInBounds_ne this]
 · show (w.heap.setIfInBounds b _)[b]? = _
   simp [lt_of_heap hb]
theorem WL.Ti {e:TypeId} {size m:Nat} {v:Value} {xs:List Value} (i:Nat) (hL:L[i]? = some (dw e size v m xs))
   (h:∀a k,v = .slice a m k->WL P ops Q n ds l (Ws w0 F L Vs) rest):WL P ops Q n ds l (Ws w0 F L Vs) rest:=by
 intro a w ha hw;obtain ⟨h1,h2⟩:=(hw.kn _ (du hL):w.ownsRow 0 e size v m xs)
 rcases h2 with ⟨h3,h4⟩ | ⟨b,cap,cur,hv,_⟩
 · exact h none 0 (by rw [h3,h4]) a w ha hw
 · exact h _ _ hv a w ha hw
end
section
variable {P:Program} {ops:Array Oper} {Q:Exit->Act->World->Prop} {n:Nat} {ds:List Deferred} {l:List (Nat×Value)} {W:World->Prop} {w0:World} {F:List Nat} {L:List ak} {Vs:List View}
 {rest:List Oper} {d:Nat} {ty:TypeId} {pos:String} {af:Array Edge} {g:Option (Nat×Bool)}
theorem bd {ι κ:Type} {f:FuncId} {args:Array Operand} {ts:Array TypeId} {vs:List Value} (L1 L2:List ak) (hg:cB ops l g) (hn:Nat.blt d n=true) (hf:Enters P f) (ha:ik l args.toList=some vs) (hL:L=L1++L2)
   (v:ι->Value) (ew:ι->List ak) (R:ι->Prop) (ch:κ->List PanicEntry) (Lp:κ->List ak) (Rp:κ->Prop) (a_:List View) (hV:∀H ∈ a_,H ∈ Vs)
   (hC:∀w,Ws w (L1.flatMap ak.ids) L1 a_ w->Calls P f vs.toArray w λe w'=>(∃i,e = .returned (v i)/\R i/\Ws w (L1.flatMap ak.ids) (ew i) a_ w')\/(∃j,e = .panicked (ch j)/\Rp j/\Ws w (L1.flatMap ak.ids) (Lp j) a_ w'))
   (hp:∀j,Rp j->WE Q (.panic (ch j)) n ds l (Ws w0 F (Lp j++L2) Vs))
   (hr:∀i,R i->WL P ops Q n ds ((d,v i)::l) (Ws w0 F (ew i++L2) Vs) rest) :
   WL P ops Q n ds l (Ws w0 F L Vs) (⟨some d,.call ⟨.value (.func f),args,ts⟩,ty,pos,af,g⟩::rest):=by
 subst hL;refine WL.CZ hg hn hf ha v (λi w'=>R i/\Ws w0 F (ew i++L2) Vs w') (λc w'=>∃j,c=ch j/\Rp j/\Ws w0 F (Lp j++L2) Vs w') (λw hw=>(hC w (hw.self.bw hV)).mono λe w' h=>?_) (λi=>?_) (λc=>?_)
 · rcases h with ⟨i,he,hR,h⟩ | ⟨j,he,hR,h⟩
   · exact .inl ⟨i,he,hR,hw.back h⟩
   · exact .inr ⟨_,he,j,O,hR,hw.back h⟩
 · intro a w cN hw
   exact hr i hw.1 a w cN hw.2
 · rintro a w cN ⟨j,rfl,hR,hw⟩
   exact hp j hR a w cN hw
theorem WL.acO {ι κ:Type} {f:FuncId} {cx:Operand} {eF:Array Value} {args:Array Operand} {ts:Array TypeId} {vs:List Value} (L1 L2:List ak) (hg:cB ops l g) (hn:Nat.blt d n=true) (hf:Enters P f) (qC:aB l cx=some (.func (.func f) #[] eF)) (ha:ik l args.toList=some vs) (hL:L=L1++L2)
   (v:ι->Value) (ew:ι->List ak) (R:ι->Prop) (ch:κ->List PanicEntry) (Lp:κ->List ak) (Rp:κ->Prop) (a_:List View) (hV:∀H ∈ a_,H ∈ Vs)
   (hC:∀w,Ws w (L1.flatMap ak.ids) L1 a_ w->Calls P f (vs.toArray++eF) w λe w'=>(∃i,e = .returned (v i)/\R i/\Ws w (L1.flatMap ak.ids) (ew i) a_ w')\/(∃j,e = .panicked (ch j)/\Rp j/\Ws w (L1.flatMap ak.ids) (Lp j) a_ w'))
   (hp:∀j,Rp j->WE Q (.panic (ch j)) n ds l (Ws w0 F (Lp j++L2) Vs))
   (hr:∀i,R i->WL P ops Q n ds ((d,v i)::l) (Ws w0 F (ew i++L2) Vs) rest) :
   WL P ops Q n ds l (Ws w0 F L Vs) (⟨some d,.call ⟨.value cx,args,ts⟩,ty,pos,af,g⟩::rest):=by
 subst hL;refine WL.acx hg hn hf qC ha v (λi w'=>R i/\Ws w0 F (ew i++L2) Vs w') (λc w'=>∃j,c=ch j/\Rp j/\Ws w0 F (Lp j++L2) Vs w') (λw hw=>(hC w (hw.self.bw hV)).mono λe w' h=>?_) (λi=>?_) (λc=>?_)
 · rcases h with ⟨i,he,hR,h⟩ | ⟨j,he,hR,h⟩
   · exact .inl ⟨i,he,hR,hw.back h⟩
   · exact .inr ⟨_,he,j,O,hR,hw.back h⟩
 · intro a w cN hw
   exact hr i hw.1 a w cN hw.2
 · rintro a w cN ⟨j,rfl,hR,hw⟩
   exact hp j hR a w cN hw
theorem qE {W:World->Prop} {dd:Option Tmp} {t:TypeId} {x:Operand} {v:Value} (ht:P.concrete t=true) (hx:aB l x=some v):Yl P l W ⟨dd,.makeInterface t x,ty,pos,af,g⟩ (.iface t v):=
 λρ w aF _=>by
   have e:(Instr.makeInterface t v).run P w = .ok (.iface t v) w:=run_makeInterface (h:=ht) ..;simp [execOp,aF x v hx,e]
theorem WL.panic {x:Operand} {t:TypeId} {v:Value} {dd:Option Tmp} (hg:cB ops l g) (hx:aB l x=some (.iface t v)) (h:WE Q (.panic [⟨.iface t v,false,false⟩]) n ds l W):WL P ops Q n ds l W (⟨dd,.panic x,ty,pos,af,g⟩::rest):=by
 refine WL.step hg λa w ha hw K hK=>?_
 have:(execOp a.eval ⟨dd,.panic x,ty,pos,af,g⟩).run P w = .halt (.panic (.iface t v)) w:=by
   have e:(Instr.panic (.iface t v)).run P w = .halt (.panic (.iface t v)) w:=rfl;simp [execOp,ha.eval hx,e]
 simp only [Oper.wp,this,Oper.upon_panic];exact h a w ha hw
theorem WL.defer {cx:Operand} {f:FuncId} {eF:List Value} {ts:Array TypeId} (hg:cB ops l g) (qC:aB l cx=some (.func (.func f) #[] eF.toArray))
   (h:WL P ops Q n (⟨.fn (.func f) eF.toArray,#[]⟩::ds) l W rest):WL P ops Q n ds l W (⟨none,.defer ⟨.value cx,#[],ts⟩,ty,pos,af,g⟩::rest):=by
 refine WL.step hg λa w ha hw K hK=>?_
 have:(execOp a.eval ⟨none,.defer ⟨.value cx,#[],ts⟩,ty,pos,af,g⟩).run P w = .ok (.defer ⟨.fn (.func f) eF.toArray,#[]⟩) w:=by
   simp [execOp,resolve,ha.eval qC,Deferred.ofValue]
 simp only [Oper.wp,this,Oper.upon_defer];refine hK _ _ (h _ _ ⟨ha.size,?_,ha.fy⟩ hw)
 show _::a.defers=_
 rw [ha.defs]
theorem Mr {f:FuncId} {fn:Func} {c:Code} {vs:List Value} {w:World} {R:Ending->World->Prop} (hf:P.funcs[f]? = some fn) (hb:fn.body=some c)
   (m:Nat) (hm:fn.ntmps=m) (hle:Nat.ble vs.length m=true) (h:WC P c (bodyPostD P fn R) m [] (xO 0 vs) (λw'=>w'=w)):Calls P f vs.toArray w R:=by
 refine calls_of_wp_defers hf hb (h _ _ ?_ O);have SR:=Nat.le_of_ble_eq_true hle;subst hm;refine ⟨by simp; omega,O,λt v hv=>?_⟩;obtain ⟨_,h2⟩:=L7 vs 0 t v hv;simp only [Nat.sub_zero] at h2
 have aw:t<vs.length:=by
   rcases Nat.lt_or_ge t vs.length with h | h
   · exact h
   · simp [List.getElem?_eq_none h] at h2
 simp [Array.getD_eq_getD_getElem?,Array.getElem?_append,aw];simp [List.getElem?_eq_getElem aw] at h2;exact h2
def Rs (P:Program) (fn:Func) (l:List (Nat×Value)) (W:World->Prop) (v:Value):Prop:=∀(tmps:Array Value) w,(∀t u,lk l t=some u->tmps.getD t undef=u)->W w->(results fn tmps).run P w = .ok v w
def pq (tmps:Array Value):ResultVar->Sem Value
 | .tmp t=>pure (tmps.getD t undef)
 | .cell a t=>do loadVar t (<-asAddr (tmps.getD a undef))
theorem C_ (fn:Func) (tmps:Array Value):results fn tmps=(do let vs <-fn.results.mapM (pq tmps); pure (if h:vs.size=1 then vs[0] else .tuple vs)):=by
 have e:(λr:ResultVar=>match r with | .tmp t=>(pure (tmps.getD t undef):Sem Value) | .cell a t=>do loadVar t (<-asAddr (tmps.getD a undef)))=pq tmps:=by funext r; cases r<;>rfl
 rw [<-e]; rfl
def ud (P:Program) (l:List (Nat×Value)) (W:World->Prop) (r:ResultVar) (v:Value):Prop:=∀(tmps:Array Value) w,(∀t u,lk l t=some u->tmps.getD t undef=u)->W w->(pq tmps r).run P w = .ok v w
theorem iH {t:Nat} {v:Value} (h:lk l t=some v):ud P l W (.tmp t) v:=λtmps w ht _=>by simp only [pq,ht t v h,Sem.run_pure]
theorem gM {a b o:Nat} {t:TypeId} {v:Value} {ob:Obj} (i:Nat) (ha:lk l a=some (.pointer (some ⟨b,o,none⟩))) (hL:L[i]? = some (ab b ob)) (hc:gJ ob o=some v) (ht:dI P t=true):ud P l (Ws w0 F L Vs) (.cell a t) v:=λtmps w h hw=>by
 simp only [pq,h a _ ha,asAddr,Sem.run_bind,Sem.run_pure,Result.andThen_ok,SS ht (cell_of_heap (hw.kn _ (du hL)) hc)]
theorem cS {a b o k:Nat} {t:TypeId} {ob:Obj} (i:Nat) (ha:lk l a=some (.pointer (some ⟨b,o,none⟩))) (hL:L[i]? = some (ab b ob)) (ht:eQ P t=some k) (hl:(cellsIn ob o k).length=k):ud P l (Ws w0 F L Vs) (.cell a t) (.agg (cellsIn ob o k).toArray):=λtmps w h hw=>by
 have dM:(loadVar t ⟨b,o,none⟩).run P w = .ok (.agg (cellsIn ob o k).toArray) w:=G' ht hl λj v hj=>by
   have hk:w.heap[b]? = some ob:=hw.kn _ (du hL);refine cell_of_heap hk ?_
   cases ob<;>simp [cellsIn,gJ] at *
   rw [List.getElem?_take] at hj
   split at hj
   · simpa using hj
   · cases hj
 simp only [pq,h a _ ha,asAddr,Sem.run_bind,Sem.run_pure,Result.andThen_ok,dM]
theorem gd {fn:Func} {r:ResultVar} {v:Value} (hr:fn.results = #[r]) (h:ud P l W r v):Rs P fn l W v:=λtmps w ht hw=>by
 have h1:=h tmps w ht hw;simp [C_,hr,Array.mapM_eq_mapM_toList,List.mapM_cons,List.mapM_nil,h1]
theorem gu {fn:Func} {r s:ResultVar} {v x:Value} (hr:fn.results = #[r,s]) (h:ud P l W r v) (h':ud P l W s x):Rs P fn l W (.tuple #[v,x]):=λtmps w ht hw=>by
 have h1:=h tmps w ht hw;have h2:=h' tmps w ht hw;simp [C_,hr,Array.mapM_eq_mapM_toList,List.mapM_cons,List.mapM_nil,h1,h2]
theorem xZ {fn:Func} {r s u:ResultVar} {v x y:Value} (hr:fn.results = #[r,s,u]) (h:ud P l W r v) (h':ud P l W s x) (h'':ud P l W u y):Rs P fn l W (.tuple #[v,x,y]):=λtmps w ht hw=>by
 have h1:=h tmps w ht hw;have h2:=h' tmps w ht hw;have h3:=h'' tmps w ht hw;simp [C_,hr,Array.mapM_eq_mapM_toList,List.mapM_cons,List.mapM_nil,h1,h2,h3]
theorem WE.dJ {fn:Func} {R:Ending->World->Prop} {v:Value} (hr:Rs P fn l W v) (h:∀w,W w->R (.returned v) w):WE (bodyPost P fn R) .ret n [] l W:=
 λa w ha hw=>bodyPost_ret (hr a.tmps w ha.fy hw) ha.defs (h w hw)
theorem WE.Tj {fn:Func} {R:Ending->World->Prop} {f:FuncId} {eF:List Value} {W':World->Prop} {v:Value} (hf:Enters P f)
   (hC:∀w,W w->CallsD P f eF.toArray .returning w λe u' w'=>e = .returned (.tuple #[])/\u' = .returning/\W' w')
   (hr:Rs P fn l W' v) (h:∀w,W' w->R (.returned v) w):WE (bodyPostD P fn R) .ret n [⟨.fn (.func f) eF.toArray,#[]⟩] l W:=by
 intro a w ha hw
 show Leaves P fn a.tmps R a.defers .returning w
 rw [ha.defs];refine ⟨by simp,.func f,eF.toArray,f,eF.toArray,O,?_,(hC w hw).mono λe u' w' he=>?_⟩
 · simp only [invoke]
   simpa using hf eF.toArray w
 · obtain ⟨rfl,rfl,dE⟩:=he
   exact ⟨v,hr a.tmps w' ha.fy dE,h w' dE⟩
theorem WE.sq {fn:Func} {R:Ending->World->Prop} {f:FuncId} {eF:List Value} {W':World->Prop} {v pv:Value} (hf:Enters P f)
   (hC:∀w,W w->CallsD P f eF.toArray (.panicking [⟨pv,false,false⟩]) w λe u' w'=>e = .returned (.tuple #[])/\u' = .panicking [⟨pv,true,false⟩]/\W' w')
   (hr:Rs P fn l W' v) (h:∀w,W' w->R (.returned v) w):WE (bodyPostD P fn R) (.panic [⟨pv,false,false⟩]) n [⟨.fn (.func f) eF.toArray,#[]⟩] l W:=by
 intro a w ha hw
 show Leaves P fn a.tmps R a.defers (.panicking [⟨pv,false,false⟩]) w
 rw [ha.defs];refine ⟨by simp,.func f,eF.toArray,f,eF.toArray,O,?_,(hC w hw).mono λe u' w' he=>?_⟩
 · simp only [invoke]
   simpa using hf eF.toArray w
 · obtain ⟨rfl,rfl,dE⟩:=he
   exact ⟨v,hr a.tmps w' ha.fy dE,h w' dE⟩
theorem WE.Ay {fn:Func} {R:Ending->World->Prop} {v:Value} (hr:Rs P fn l W v) (h:∀w,W w->R (.returned v) w):WE (bodyPostD P fn R) .ret n [] l W:=by
 intro a w ha hw
 show Leaves P fn a.tmps R a.defers .returning w
 rw [ha.defs];exact ⟨v,hr a.tmps w ha.fy hw,h w hw⟩
def Tl (u:FrameMode) (rv:Value) (u':FrameMode):Prop:=(u = .returning/\rv = .nilIface/\u' = .returning)\/∃v,u = .panicking [⟨v,false,false⟩]/\rv=v/\u' = .panicking [⟨v,true,false⟩]
theorem acQ {id:Nat} {o:Oper} {os:List Oper} {d:Nat} {y:Code} {pr:Frame} {cs:List Frame} {a:Act} {w:World} {rv:Value} {u':FrameMode} {Q:Exit->Act->World->Prop} {Qs:Exit->Act->List Frame->World->Prop}
   (Ms:o.dst=some d) (Mt:o.guard=none) (dM:(execOp a.eval o).run P w = .ok .recover w) (hu:Tl pr.mode rv u')
   (hQ:∀e a w,Q e a w->Qs e a ({ pr with mode:=u' }::cs) w)
   (h:wpList P (o::os).toArray (Exit.then (y.wp P Q) Q) os (a.put (some d) rv) w):(Code.seq (.region id (o::os).toArray false) y).wpS P Qs a (pr::cs) w:=by
 refine wpS_seq ?_;intro b k hb pt;have Tm:(o::os).toArray[0]? = some o:=rfl
 have acR:Region.wanted o (yielded (o::os).toArray a.tmps)=true:=by simp [Region.wanted,Mt]
 have hg:=stepG_op (P:=P) (b:=b) (k:=k) (cs:=pr::cs) (w:=w) (rest:=List.range' 1 os.length) Tm acR;have hk:(b.at a (.inRegion (o::os).toArray (0::List.range' 1 os.length)::k)).kind = .deferred:=hb;have Mu:=tryRecover_deferred hk (pr::cs)
 have acS:∀v,(b.at a (.inRegion (o::os).toArray (0::List.range' 1 os.length)::k)).finish v=b.at (a.put (some d) v) (.inRegion (o::os).toArray (List.range' 1 os.length)::k):=by
   intro v; rw [Frame.finish_at,Tm,<-Ms]; rfl
 have acT:step P (lone (b.at a (.inRegion (o::os).toArray (0::List.range' 1 os.length)::k)) (pr::cs) w) = .next (lone (b.at (a.put (some d) rv) (.inRegion (o::os).toArray (List.range' 1 os.length)::k)) ({ pr with mode:=u' }::cs) w):=by
   refine step_lone_go ?_;rw [hg,<-acS];simp only [Frame.at] at Mu ⊢
   rcases hu with ⟨hm,rfl,rfl⟩ | ⟨v,hm,rfl,rfl⟩
   · simp [stepG.apply,dM,Mu,recoverD,hm]
     rw [<-hm]
   · simp [stepG.apply,dM,Mu,recoverD,hm]
 have hl:wpOps P (o::os).toArray (Exit.then (y.wp P Q) Q) (List.range' 1 os.length) (a.put (some d) rv) w:=by
   rw [wpOps_eq_wpList os 1 (λj=>by simp [Nat.add_comm 1 j])]; exact h
 obtain ⟨e,a',w',hq,acU⟩:=wp_ops _ _ _ hl b k ({ pr with mode:=u' }::cs)
 have hs0:step P (lone (b.at a (.code (.region id (o::os).toArray false)::k)) (pr::cs) w) = .next (lone (b.at a (.inRegion (o::os).toArray (0::List.range' 1 os.length)::k)) (pr::cs) w):=by
   have:=step_region (P:=P) (b:=b) (a:=a) (k:=k) (cs:=pr::cs) (w:=w) (ops:=(o::os).toArray) (id:=id);rw [this];simp [List.range_eq_range',List.range'_succ]
 refine ⟨e,a',_,w',?_,.of_steps (.head hs0 (.one acT)) acU⟩
 cases e with
 | normal=>exact wpS_of_wp (wp_mono hq λe a w h=>hQ e a w h)
 | _=>exact hQ _ _ _ hq
theorem Da {f:FuncId} {fn:Func} {id:Nat} {o:Oper} {os:List Oper} {d:Nat} {y:Code} {vs:List Value} {w:World} {rv:Value} {u u':FrameMode} {R:Ending->World->Prop} (hf:P.funcs[f]? = some fn) (hb:fn.body=some (.seq (.region id (o::os).toArray false) y))
   (m:Nat) (hm:fn.ntmps=m) (hle:Nat.ble vs.length m=true) (Ms:o.dst=some d) (hdm:Nat.blt d m=true) (Mt:o.guard=none) (fL:∀(ρ:Operand->Value),(execOp ρ o).run P w = .ok .recover w) (hu:Tl u rv u')
   (h:WL P (o::os).toArray (Exit.then (y.wp P (bodyPost P fn R)) (bodyPost P fn R)) m [] ((d,rv)::xO 0 vs) (λw'=>w'=w) os):CallsD P f vs.toArray u w λe u2 w'=>u2=u'/\R e w':=by
 refine callsD_of_wpS hf hb λpr cs hc=>?_;refine acQ (Q:=bodyPost P fn R) Ms Mt (fL _) (by rw [hc]; exact hu) (λe a w hq=>?_) (h _ _ ?_ O)
 · cases e with
   | normal=>exact ⟨hq.1,u',rfl,hq.2.choose,hq.2.choose_spec.1,rfl,hq.2.choose_spec.2⟩
   | ret=>exact ⟨hq.1,u',rfl,hq.2.choose,hq.2.choose_spec.1,rfl,hq.2.choose_spec.2⟩
   | panic ch=>exact ⟨hq.1,u',rfl,rfl,hq.2⟩
   | outgrown=>exact ⟨u',rfl,hq⟩
   | exit i=>exact hq
   | goto i=>exact hq
 · have SR:=Nat.le_of_ble_eq_true hle
   subst hm
   have hA:Ag fn.ntmps [] (xO 0 vs) { tmps:=vs.toArray++Array.replicate (fn.ntmps-vs.toArray.size) undef,defers:=[] }:=by
     refine ⟨by simp; omega,O,λt v hv=>?_⟩;obtain ⟨_,h2⟩:=L7 vs 0 t v hv;simp only [Nat.sub_zero] at h2
     have aw:t<vs.length:=by
       rcases Nat.lt_or_ge t vs.length with h | h
       · exact h
       · simp [List.getElem?_eq_none h] at h2
     simp [Array.getD_eq_getD_getElem?,Array.getElem?_append,aw];simp [List.getElem?_eq_getElem aw] at h2;exact h2
   exact hA.put hdm rv
theorem Tn {t u:TypeId} {x:Operand} {W:World->Prop} {dd:Option Tmp} (ht:P.underlying t=some (.interface (P.methodsAt t))) (hx:aB l x=some .nilIface):Yl P l W ⟨dd,.binOp .neq t x (.const .nilIface) u,ty,pos,af,g⟩ (.bool false):=by
 intro ρ w aF _;have hy:ρ (.const .nilIface) = .nilIface:=aF _ _ rfl;simp only [execOp,aF x _ hx,hy,Sem.run_bind];simp [eqGuard_nil_constR,run_neq_nil_nil (h:=ht)]
theorem acX {t u s:TypeId} {x:Operand} {v:Value} {W:World->Prop} {dd:Option Tmp} (ht:P.underlying t=some (.interface (P.methodsAt t))) (hx:aB l x=some (.iface s v)):Yl P l W ⟨dd,.binOp .neq t x (.const .nilIface) u,ty,pos,af,g⟩ (.bool true):=by
 intro ρ w aF _;have hy:ρ (.const .nilIface) = .nilIface:=aF _ _ rfl
 have hg:(eqGuard .neq t x (.const .nilIface) (.iface s v) .nilIface)=pure ():=by cases x<;>rfl
 simp only [execOp,aF x _ hx,hy,Sem.run_bind,hg];simp [run_neq_held_nil (h:=ht)]
end
section
variable {P:Program} {l:List (Nat×Value)} {W:World->Prop} {d:Option Tmp} {ty:TypeId} {pos:String} {af:Array Edge} {g:Option (Nat×Bool)}
theorem To (s:List UInt8) (i j:Nat):Value.string ((ByteArray.mk s.toArray).extract i j)=st ((s.take j).drop i):=by
 have e:((ByteArray.mk s.toArray).extract i j)=⟨((s.take j).drop i).toArray⟩:=by
   apply ByteArray.ext;simp [List.drop_take]
 rw [e]; rfl
theorem Tp {t:TypeId} {x y:Operand} {s:List UInt8} {k:IntKind} {h:Int} (ht:P.underlying t=some .string) (hx:aB l x=some (st s)) (hy:aB l y=some (.int k h)) (h0:0<=h) (h1:h<=s.length):Yl P l W ⟨d,.slice t x none (some y) none,ty,pos,af,g⟩ (st (s.take h.toNat)):=by
 intro ρ w aF _;have e:=run_slice_string_h (P:=P) w t ⟨s.toArray⟩ ht k h h0 (by rw [Hr]; exact h1)
 have e2:(Instr.sliceAt t (.string ⟨s.toArray⟩) none (some (.int k h)) none).run P w = .ok (st (s.take h.toNat)) w:=by
   rw [run_sliceAt_string (h:=ht),e,To]; simp
 simp [execOp,aF x _ hx,aF y _ hy,st,e2]
theorem Mv {t:TypeId} {x y:Operand} {s:List UInt8} {k:IntKind} {h:Int} (ht:P.underlying t=some .string) (hx:aB l x=some (st s)) (hy:aB l y=some (.int k h)) (h0:0<=h) (h1:h<=s.length):Yl P l W ⟨d,.slice t x (some y) none none,ty,pos,af,g⟩ (st (s.drop h.toNat)):=by
 intro ρ w aF _;have e:=run_slice_string_l (P:=P) w t ⟨s.toArray⟩ ht k h h0 (by rw [Hr]; exact h1)
 have e2:(Instr.sliceAt t (.string ⟨s.toArray⟩) (some (.int k h)) none none).run P w = .ok (st (s.drop h.toNat)) w:=by
   rw [run_sliceAt_string (h:=ht),e,To,Hr,List.take_length]
 simp [execOp,aF x _ hx,aF y _ hy,st,e2]
end
abbrev bo {α:Type} (e:TypeId) (k:Nat) (f:α->List Value) (a:Option Addr) (c:Nat) (xs:List α):ak:=dw e k (.slice a xs.length c) xs.length (xs.flatMap f)
section
variable {P:Program} {ops:Array Oper} {Q:Exit->Act->World->Prop} {n:Nat} {ds:List Deferred} {l:List (Nat×Value)} {w0:World} {F:List Nat} {L:List ak} {Vs:List View}
 {rest:List Oper} {d:Nat} {ty:TypeId} {pos:String} {af:Array Edge} {g:Option (Nat×Bool)}
theorem LA {α:Type} {f:α->List Value} {t e:TypeId} {z:Value} {size bytes cc:Nat} {s y:Operand} {a:Option Addr} {c bb:Nat} {xs:List α} {T:TypeId} {fz:Nat×Nat} (x:α) (i j:Nat) (hg:cB ops l g) (hn:Nat.blt d n=true) (hE:eS P t e z size bytes)
   (hs:aB l s=some (.slice a xs.length c)) (hy:aB l y=some (.slice (some ⟨bb,0,none⟩) 1 cc)) (hL:L[i]? = some (bo e size f a c xs)) (hB:L[j]? = some (ab bb (.cells (f x).toArray T fz)))
   (hl:(f x).length=size) (h1:(f x).all (·.oneCell')=true) (og:xs.length+1<=9223372036854775807) (t':(xs.length+1)*bytes<=140737488355328)
   (h:∀a' c',WL P ops Q n ds ((d,.slice a' (xs++[x]).length c')::l) (Ws w0 F (L.set i (bo e size f a' c' (xs++[x]))) Vs) rest) :
   WL P ops Q n ds l (Ws w0 F L Vs) (⟨some d,.call ⟨.builtin .append,#[s,y],#[t,t]⟩,ty,pos,af,g⟩::rest):=by
 refine WL.append i hg hn hE hs hy hL (news:=f x) (k:=1) (by rw [Nat.one_mul]; exact hl) (λw hw k u hu=>acF hw j hB (k:=k) (by simpa using hu)) (λu hu=>List.all_eq_true.1 h1 u hu) (by unfold maxLen; omega) t' λv' _=>?_
 have e1:(xs.flatMap f)++f x=(xs++[x]).flatMap f:=by simp
 have e2:xs.length+1=(xs++[x]).length:=by simp
 rw [e1,e2];have hi:i<L.length:=(List.getElem?_eq_some_iff.1 hL).1;refine WL.Ti i (m:=(xs++[x]).length) (xs:=(xs++[x]).flatMap f) (e:=e) (size:=size) (v:=v') (by simp [hi]) λa' c' hv=>?_;subst hv;exact h a' c'
end
theorem Ws.gv {α:Type} {rd:View->Nat->Nat->α->Prop} {f:α->List Value} {k:Nat} {w0 w:World} {L:List ak} {Vs:List View} (h:Ws w0 [] L Vs w) (i:Nat) {a:Option Addr} {c:Nat} {e:TypeId} {xs:List α} (hL:L[i]? = some (bo e k f a c xs))
   (hf:∀x,(f x).length=k) (dP:∀H b o x,aT H b o (f x)->rd H b o x):Sl rd k (nv w0 w) a c xs:=by
 rcases h.nvs i hL with ⟨h1,h2⟩ | ⟨b,c',h1,h2,h3,h4⟩
 · injection h1 with ha hl hc
   subst ha hc;have:xs=[]:=List.eq_nil_of_length_eq_zero (by omega);subst this;exact Sl.nil
 · injection h1 with ha hl hc
   subst ha hc;refine ⟨h2,by unfold maxLen at h3; omega,by simp,λi x hx=>⟨b,0,O,dP _ _ _ _ λj v hv=>?_⟩⟩
   have hj:j<k:=by have:=(List.getElem?_eq_some_iff.1 hv).1; rw [hf] at this; exact this
   rw [Nat.zero_add];exact h4 _ _ (by rw [pk hf hx hj]; exact hv)
theorem Ws.Hw {α:Type} {rd:View->Nat->Nat->α->Prop} {f:α->List Value} {k:Nat} {w0 w:World} {F:List Nat} {L:List ak} {Vs:List View} (h:Ws w0 F L Vs w) (i:Nat) {a:Option Addr} {c:Nat} {e:TypeId} {xs:List α} (hL:L[i]? = some (bo e k f a c xs))
   (hf:∀x,(f x).length=k) (dP:∀H b o x,aT H b o (f x)->rd H b o x):Sl rd k (hv w) a c xs:=by
 obtain ⟨h1,h2⟩:=(h.kn _ (du hL):w.ownsRow 0 e k _ xs.length (xs.flatMap f))
 rcases h2 with ⟨h3,h4⟩ | ⟨b,cap,cur,h5,_,hb,mh,hc,hs,ht⟩
 · injection h3 with ha hl hc
   subst ha hc;have:xs=[]:=List.eq_nil_of_length_eq_zero (by omega);subst this;exact Sl.nil
 · injection h5 with ha hl mj
   subst ha mj;refine ⟨mh,by unfold maxLen at hc; omega,by simp,λi x hx=>⟨b,0,O,dP _ _ _ _ λj v hv=>?_⟩⟩
   have hj:j<k:=by have:=(List.getElem?_eq_some_iff.1 hv).1; rw [hf] at this; exact this
   have h6:(xs.flatMap f)[i*k+j]? = some v:=by rw [pk hf hx hj]; exact hv
   rw [<-ht,List.getElem?_take] at h6
   split at h6
   · refine Hn hb ?_
     simpa [gJ] using h6
   · cases h6
def mq (rs:List ResultVar) (d:Option Tmp):Bool:=match d with
 | none=>true
 | some d=>rs.all λr=>match r with | .tmp t=>!(Nat.beq d t) | .cell a _=>!(Nat.beq d a)
theorem acY {r:ResultVar} {d:Nat} {v:Value} {a:Act} (h:(match r with | .tmp t=>!(Nat.beq d t) | .cell a _=>!(Nat.beq d a))=true):pq (a.put (some d) v).tmps r=pq a.tmps r:=by
 have key:∀t,(!(Nat.beq d t))=true->(a.put (some d) v).tmps.getD t undef=a.tmps.getD t undef:=λt ht=>by
   have dt:d≠t:=λe=>by subst e; simp at ht
   simp only [Act.put,Array.getD_eq_getD_getElem?];rw [Array.getElem?_setIfInBounds_ne dt]
 cases r with
 | tmp t=>simp only [pq,key t h]
 | cell x _=>simp only [pq,key x h]
theorem acZ {fn:Func} {rs:List ResultVar} (hr:fn.results=rs.toArray) {d:Option Tmp} {v:Value} {a:Act} (h:mq rs d=true):results fn (a.put d v).tmps=results fn a.tmps:=by
 cases d with
 | none=>rfl
 | some d=>
   simp only [mq,List.all_eq_true] at h
   have e:∀l:List ResultVar,(∀r ∈ l,r ∈ rs)->l.mapM (pq (a.put (some d) v).tmps)=l.mapM (pq a.tmps):=by
     intro l
     induction l with
     | nil=>intro _; rfl
     | cons x l ih=>
       intro hl;rw [List.mapM_cons,List.mapM_cons,acY (h x (hl x (by simp))),ih λr hr=>hl r (by simp [hr])]
   rw [C_,C_,hr,Array.mapM_eq_mapM_toList,Array.mapM_eq_mapM_toList,e _ λr hr=>by simpa using hr]
theorem Mw {P:Program} {fn:Func} {rs:List ResultVar} {R:Ending->World->Prop} (hr:fn.results=rs.toArray) {d:Option Tmp} {v:Value} {a:Act} (h:mq rs d=true):∀(ds:List Deferred) (u:FrameMode) (w:World),Leaves P fn (a.put d v).tmps R ds u w->Leaves P fn a.tmps R ds u w
 | [],.returning,w,hl=>by
   simp only [Leaves] at hl ⊢;rw [acZ hr h] at hl;exact hl
 | [],.panicking _,_,hl=>hl
 | [],.run,_,hl=>hl
 | x::ds,u,w,hl=>by
   obtain ⟨h1,fv,cap,f,args,h2,h3,h4⟩:=hl;refine ⟨h1,fv,cap,f,args,h2,h3,h4.mono λe u' w' he=>?_⟩
   cases e with
   | returned v=>exact Mw hr h ds _ _ he
   | panicked ch=>exact Mw hr h ds _ _ he
   | outgrown=>exact he
theorem qF {P:Program} {fn:Func} (rs:List ResultVar) {R:Ending->World->Prop} (hr:fn.results=rs.toArray) {d:Option Tmp} {v:Value} {a:Act} {c:List PanicEntry} {w:World} (h:mq rs d=true) (hl:bodyPostD P fn R (.panic c) (a.put d v) w):bodyPostD P fn R (.panic c) a w:=by
 have e:(a.put d v).defers=a.defers:=by cases d<;>rfl
 have hl:Leaves P fn (a.put d v).tmps R (a.put d v).defers (.panicking c) w:=hl;rw [e] at hl;exact Mw hr h _ _ _ hl
section
variable {P:Program} {md:Region.Mode} {ops:Array Oper} {C:World->Prop} {Q:Exit->Act->World->Prop}
def Az (ok:Option Tmp->Bool) (ops:Array Oper):Bool:=ops.toList.all λo=>ok o.dst
theorem Tq {ok:Option Tmp->Bool} (h:Az ok ops=true) {i:Nat} {o:Oper} (ho:ops[i]? = some o):ok o.dst=true:=by
 refine List.all_eq_true.1 h o ?_
 have:ops.toList[i]? = some o:=by simpa using ho
 exact List.mem_of_getElem? this
theorem Mx {ok:Option Tmp->Bool} (aE:Az ok ops=true) (hs:Region.noSelect ops=true) (hQ:∀c a w d v,ok d=true->Q (.panic c) (a.put d v) w->Q (.panic c) a w):∀(ord:List (Nat×Bool)) (listed:Array Bool) (a:Act) (w:World),
   nn md ops ord listed=true->np P ops C Q ord a w->qB P md ops C Q ord.length listed a w
 | [],listed,a,w,hB,h=>⟨h.1,by simpa [nn] using hB,h.2⟩
 | (i,true)::r,listed,a,w,hB,h=>by
   simp only [nn,cond_true,Bool.and_eq_true] at hB;obtain ⟨hC,o,v,ho,hy,h⟩:=h
   exact Mi ho (Region.noSelect_spec hs) (λc a w=>hQ c a w o.dst v (Tq aE ho)) r.length listed a w (Region.free_spec ho hB.1.2) (by simpa using hB.1.1) hy hC
     (Mx aE hs hQ r _ _ _ hB.2 h)
 | (i,false)::r,listed,a,w,hB,h=>by
   simp only [nn,cond_false,Bool.and_eq_true,beq_iff_eq] at hB;refine ⟨h.1,λhe=>(by rw [he] at hB; cases hB.1),λj hj=>?_⟩;rw [hB.1] at hj;simp at hj;subst hj;exact wpOp_mono (λa' w' h'=>Mx aE hs hQ r _ _ _ hB.2 h') h.2
variable {n:Nat} {ds:List Deferred} {l:List (Nat×Value)} {W:World->Prop}
def outs:List Nat->List ak->List ak
 | [],L=>L
 | i::r,L=>outs r (c_ i L)
theorem Wo {w0 w:World} {F:List Nat} {L:List ak} {Vs:List View} (i:Nat) (h:Ws w0 F L Vs w):Ws w0 F (c_ i L) Vs w:=Ws.out i h
theorem Wt {w0 w:World} {F:List Nat} {L:List ak} {Vs:List View} (n:Nat) (h:Ws w0 F L Vs w):Ws w0 F (L.take n) Vs w:=Ws.bF (L':=L.drop n) (by rw [List.take_append_drop]; exact h)
theorem Wd {w0 w:World} {F:List Nat} {L:List ak} {Vs:List View} (n:Nat) (h:Ws w0 F L Vs w):Ws w0 F (L.drop n) Vs w:=Ws.drop (L:=L.take n) (by rw [List.take_append_drop]; exact h)
theorem Wv {w0 w:World} {F:List Nat} {L:List ak} {Vs:List View} (n:Nat) (h:Ws w0 F L Vs w):Ws w0 F L (Vs.drop n) w:=Ws.bw h λ_ hm=>List.mem_of_mem_drop hm
theorem Ws.f {w0 w:World} {F:List Nat} {L:List ak} {Vs:List View} (i:Nat) {A:ak} (h:Ws w0 F L Vs w) (hA:L[i]? = some A):Ws w0 F (A::c_ i L) Vs w:=h.perm (mf i L hA)
theorem Wp {w0:World} {F:List Nat} {L:List ak} {Vs:List View} (i:Nat):∀w,Ws w0 F L Vs w->Ws w0 F (c_ i L) Vs w:=λ_ h=>Wo i h
theorem bk {w0:World} {F:List Nat} {L:List ak} {Vs:List View} (is:List Nat):∀w,Ws w0 F L Vs w->Ws w0 F (outs is L) Vs w:=λ_ h=>by
 induction is generalizing L with
 | nil=>exact h
 | cons i r ih=>exact ih (Wo i h)
theorem WC.Hx {id:Nat} {os:List Oper} {w0:World} {F:List Nat} {L:List ak} {Vs:List View} (ok:Option Tmp->Bool) (is:List Nat) (ord:List (Nat×Bool)) (hm:P.follows .mixedOrders=true) (aE:Az ok os.toArray=true) (hB:(Region.noSelect os.toArray&&(ord.length==os.toArray.size&&nn .any os.toArray ord (Array.replicate os.toArray.size false)))=true)
   (hQ:∀c a w d v,ok d=true->Q (.panic c) (a.put d v) w->Q (.panic c) a w) (h:WD P os.toArray (Ws w0 F (outs is L) Vs) Q n ds l (Ws w0 F L Vs) ord):WC P (.region id os.toArray true) Q n ds l (Ws w0 F L Vs):=by
 intro a w ha hw;simp only [Bool.and_eq_true,beq_iff_eq] at hB;have:=Hj (md:=.any) _ _ _ _ (Mx aE hB.1 hQ ord _ a w.drew hB.2.2 (h a w.drew ha hw.drew));rw [hB.2.1] at this;exact wp_region_any hm this
theorem WD.skip {r:List (Nat×Bool)} {i d:Nat} {op:Op} {ty:TypeId} {pos:String} {af:Array Edge} {j:Nat} {b:Bool} {oj:Oper} {dj:Nat} (hi:ops[i]? = some ⟨some d,op,ty,pos,af,some (j,b)⟩) (hn:Nat.blt d n=true)
   (hj:ops[j]? = some oj) (CN:oj.dst=some dj) (tR:Nat.blt dj n=true) (hb:lk l dj=some (.bool (!b)))
   (hC:∀w,W w->C w) (h:WD P ops C Q n ds ((d,undef)::l) W r):WD P ops C Q n ds l W ((i,true)::r):=by
 intro a w ha hw;have hv:a.tmps.getD dj undef = .bool (!b):=ha.fy dj _ hb
 have aw:dj<a.tmps.size:=by rw [ha.size]; exact Nat.le_of_ble_eq_true tR
 have tV:a.tmps[dj]? = some (.bool (!b)):=by
   rw [Array.getD_eq_getD_getElem?,Array.getElem?_eq_getElem aw] at hv;rw [Array.getElem?_eq_getElem aw]
   simpa using hv
 have CO:yielded ops a.tmps j=some (!b):=by simp [yielded,hj,CN,tV]
 exact ⟨hC w hw,_,undef,hi,.inr ⟨by simp [Region.wanted,CO],O⟩,h _ _ (ha.put hn undef) hw⟩
theorem WE.front {w0:World} {F:List Nat} {L:List ak} {Vs:List View} {e:Exit} {A:ak} (i:Nat) (hL:L[i]? = some A) (h:WE Q e n ds l (Ws w0 F (A::c_ i L) Vs)):WE Q e n ds l (Ws w0 F L Vs):=
 WE.world (λ_ hw=>hw.perm (mf i L hL)) h
theorem pw {w0:World} {F:List Nat} {L:List ak} {Vs:List View} {f:FuncId} {args:Array Value} {u u':FrameMode} (L1 L2 ew:List ak) (hL:L=L1++L2)
   (hC:∀w,Ws w (L1.flatMap ak.ids) L1 [] w->CallsD P f args u w λe u2 w'=>u2=u'/\(e = .returned (.tuple #[])/\Ws w (L1.flatMap ak.ids) ew [] w')) :
   ∀w,Ws w0 F L Vs w->CallsD P f args u w λe u2 w'=>e = .returned (.tuple #[])/\u2=u'/\Ws w0 F (ew++L2) Vs w':=by
 intro w hw;subst hL;exact (hC w (hw.self.bw (by simp))).mono λe u2 w' ⟨h1,h2,h3⟩=>⟨h2,h1,hw.back h3⟩
end
open Go.ChangeShapes Go.WideShapes Go.ChangeAt Go.RowKit Go.Joins Go.Deep
theorem Tr {α:Type} (p:Nat->α->Prop):∀n,(∀i,i<n->∃x,p i x)->∃l:List α,l.length=n/\∀(i:Nat) (x:α),l[i]? = some x->p i x
 | 0,_=>⟨[],rfl,by simp⟩
 | n+1,h=>by
   obtain ⟨l,hl,hp⟩:=Tr p n λi hi=>h i (by omega);obtain ⟨x,hx⟩:=h n (by omega);refine ⟨l++[x],by simp [hl],λi y hy=>?_⟩
   rcases Nat.lt_trichotomy i n with h1 | h1 | h1
   · rw [List.getElem?_append_left (by omega)] at hy; exact hp i y hy
   · subst h1
     rw [List.getElem?_append_right (by omega),hl] at hy;simp at hy; subst hy; exact hx
   · rw [List.getElem?_eq_none (by simp; omega)] at hy; cases hy
theorem My {w:World} {b o:Nat} {v:Value} (h:w.cell? ⟨b,o,none⟩=some v):vc (hv w) b o=some v:=by
 unfold vc hv;unfold World.cell? at h
 cases hb:w.heap[b]? with
 | none=>simp [hb] at h
 | some ob=>cases ob<;>simp [hb,gJ] at h ⊢<;>exact h
inductive Sh where
 | int
 | str
 | bool
deriving DecidableEq
def jt (P:Program):Nat->List Field->Bool
 | _,[]=>true
 | i,f::r=>Nat.beq f.offset i&&(Nat.beq (P.cellsOf f.type) 1&&jt P (i+1) r)
section
variable {P:Program} {H:Type} {enc:TypeId×Value->H} {w:World} {base:Nat} {spare:Nat->Bool} {held:Bool}
theorem Ts:∀(i:Nat) (l:List Field) (j:Nat) (f:Field),jt P i l=true->l[j]? = some f->f.offset=i+j/\P.cellsOf f.type=1
 | _,[],j,f,_,h=>by cases h
 | i,g::r,0,f,hr,h=>by
   simp only [jt,Bool.and_eq_true] at hr;simp at h; subst h;exact ⟨Nat.eq_of_beq_eq_true hr.1,Nat.eq_of_beq_eq_true hr.2.1⟩
 | i,g::r,j+1,f,hr,h=>by
   simp only [jt,Bool.and_eq_true] at hr;have:=Ts (i+1) r j f hr.2.2 (by simpa using h);exact ⟨by omega,this.2⟩
end
end Go.Bw
end
section
namespace Go.Bw
set_option linter.unnecessarySimpa false
open Go Go.RowKit
def dF (As:List ak):ak:=⟨As.flatMap ak.ids,λw=>∀A ∈ As,A.holds w,
 λw w' h hw A hA=>A.loc w w' (λk hk=>h k (List.mem_flatMap.2 ⟨A,hA,hk⟩)) (hw A hA),
 λw hw k hk=>let ⟨A,hA,hk⟩:=List.mem_flatMap.1 hk; A.Am w (hw A hA) k hk⟩
section
variable {P:Program} {ops:Array Oper} {Q:Exit->Act->World->Prop} {n:Nat} {ds:List Deferred} {l:List (Nat×Value)} {w0 w:World} {F:List Nat} {L:List ak} {Vs:List View} {rest:List Oper} {A:ak} {As:List ak}
theorem Ws.AB (h:Ws w0 F (dF (A::As)::L) Vs w):Ws w0 F (A::dF As::L) Vs w:=by
 refine ⟨h.fr,?_,?_,?_,h.vs,?_⟩
 · intro B hB
   have hf:=h.kn (dF (A::As)) (by simp)
   rcases List.mem_cons.1 hB with rfl | hB
   · exact hf _ (by simp)
   · rcases List.mem_cons.1 hB with rfl | hB
     · exact λC hC=>hf C (by simp [hC])
     · exact h.kn B (by simp [hB])
 · have:=h.nd
   simpa [dF] using this
 · intro B hB k hk
   rcases List.mem_cons.1 hB with rfl | hB
   · exact h.own (dF (B::As)) (by simp) k (by simp [dF,hk])
   · rcases List.mem_cons.1 hB with rfl | hB
     · exact h.own (dF (A::As)) (by simp) k (by simp only [dF,List.flatMap_cons] at hk ⊢; exact List.mem_append_right _ hk)
     · exact h.own B (by simp [hB]) k hk
 · intro H hH B hB k hk
   rcases List.mem_cons.1 hB with rfl | hB
   · exact h.off H hH (dF (B::As)) (by simp) k (by simp [dF,hk])
   · rcases List.mem_cons.1 hB with rfl | hB
     · exact h.off H hH (dF (A::As)) (by simp) k (by simp only [dF,List.flatMap_cons] at hk ⊢; exact List.mem_append_right _ hk)
     · exact h.off H hH B (by simp [hB]) k hk
theorem Ws.AD (h:Ws w0 F (A::dF As::L) Vs w):Ws w0 F (dF (A::As)::L) Vs w:=by
 have hA:=h.kn A (by simp);have hF:=h.kn (dF As) (by simp);refine ⟨h.fr,?_,?_,?_,h.vs,?_⟩
 · intro B hB
   rcases List.mem_cons.1 hB with rfl | hB
   · intro C hC
     rcases List.mem_cons.1 hC with rfl | hC
     · exact hA
     · exact hF C hC
   · exact h.kn B (by simp [hB])
 · have:=h.nd
   simpa [dF] using this
 · intro B hB k hk
   rcases List.mem_cons.1 hB with rfl | hB
   · simp only [dF,List.flatMap_cons,List.mem_append] at hk
     rcases hk with hk | hk
     · exact h.own A (by simp) k hk
     · exact h.own (dF As) (by simp) k hk
   · exact h.own B (by simp [hB]) k hk
 · intro H hH B hB k hk
   rcases List.mem_cons.1 hB with rfl | hB
   · simp only [dF,List.flatMap_cons,List.mem_append] at hk
     rcases hk with hk | hk
     · exact h.off H hH A (by simp) k hk
     · exact h.off H hH (dF As) (by simp) k hk
   · exact h.off H hH B (by simp [hB]) k hk
theorem Ws.ac0 (h:Ws w0 F L Vs w):Ws w0 F (dF []::L) Vs w:=by
 refine ⟨h.fr,?_,by simpa [dF] using h.nd,?_,h.vs,?_⟩
 · intro B hB
   rcases List.mem_cons.1 hB with rfl | hB
   · intro C hC; cases hC
   · exact h.kn B hB
 · intro B hB k hk
   rcases List.mem_cons.1 hB with rfl | hB
   · simp [dF] at hk
   · exact h.own B hB k hk
 · intro H hH B hB k hk
   rcases List.mem_cons.1 hB with rfl | hB
   · simp [dF] at hk
   · exact h.off H hH B hB k hk
theorem ac1 {w:World} {e:TypeId} {size m m' c:Nat} {a:Option Addr} {xs:List Value} (h:w.ownsRow 0 e size (.slice a m c) m xs) (hm:m'<=m):w.ownsRow 0 e size (.slice a m' c) m' (xs.take (m'*size)):=by
 obtain ⟨h1,h2⟩:=h;have hmul:m'*size<=m*size:=Nat.mul_le_mul_right _ hm
 rcases h2 with ⟨h2,h3⟩ | ⟨g,cap,cur,hv,h0,hg,mh,hc,hs,ht⟩
 · injection h2 with ha hl hc
   subst ha hc
   obtain rfl:m'=0:=by omega
   exact ⟨by simp,.inl ⟨O,by simp⟩⟩
 · injection hv with ha hl mj
   subst ha mj;refine ⟨by rw [List.length_take,h1]; omega,.inr ⟨g,c,cur,O,h0,hg,by omega,hc,hs,?_⟩⟩;rw [<-ht,List.take_take]
   congr 1
   omega
theorem Tt {α:Type} {f:α->List Value} {k:Nat} (hf:∀x,(f x).length=k):∀(xs:List α) (m:Nat),(xs.flatMap f).take (m*k)=(xs.take m).flatMap f
 | [],m=>by simp
 | x::r,0=>by simp
 | x::r,m+1=>by
   simp only [List.flatMap_cons,List.take_succ_cons];rw [List.take_append,hf,List.take_of_length_le (by rw [hf,Nat.add_mul]; omega),<-Tt hf r m]
   congr 2
   rw [Nat.add_mul]; omega
theorem WL.ac2 {α:Type} {f:α->List Value} {e:TypeId} {k c:Nat} {a:Option Addr} {xs:List α} (i m:Nat) (hL:L[i]? = some (bo e k f a c xs)) (hf:∀x,(f x).length=k) (hm:m<=xs.length)
   (h:WL P ops Q n ds l (Ws w0 F (L.set i (bo e k f a c (xs.take m))) Vs) rest):WL P ops Q n ds l (Ws w0 F L Vs) rest:=by
 refine LW (λw hw=>?_) h;have ho:w.ownsRow 0 e k (.slice a xs.length c) xs.length (xs.flatMap f):=hw.kn _ (du hL);have ht:=ac1 ho hm;rw [Tt hf] at ht;refine Ws.vN hw i hL (Fr.refl _ _) ?_ (by simp [dw]; cases a<;>simp [Value.ownBlock]) (λk hk=>?_)
 · show w.ownsRow 0 e k (.slice a (xs.take m).length c) (xs.take m).length _
   rw [show (xs.take m).length=m by simp; omega];exact ht
 · refine .inl ?_
   simp only [dw] at hk ⊢
   cases a<;>simpa [Value.ownBlock] using hk
end
section
variable {P:Program} {l:List (Nat×Value)} {W:World->Prop} {d:Option Tmp} {ty:TypeId} {pos:String} {af:Array Edge} {g:Option (Nat×Bool)}
theorem ue {t:TypeId} {x y:Operand} {a:Option Addr} {m c s:Nat} {k:IntKind} {h:Int} (n:Nat) (hs:dL P t=some s) (hx:aB l x=some (.slice a m c)) (jP:∀p,a=some p->p.spot=none) (hy:aB l y=some (.int k h)) (hh:h=(n:Int)) (h1:n<=c) :
   Yl P l W ⟨d,.slice t x none (some y) none,ty,pos,af,g⟩ (.slice a n c):=by
 subst hh;exact aco hs hx jP hy (by omega) (by omega)
theorem Hy {t:TypeId} {x y:Operand} {a:Option Addr} {m c s:Nat} {k:IntKind} {h:Int} (n:Nat) (hs:dL P t=some s) (hx:aB l x=some (.slice a m c)) (hy:aB l y=some (.int k h)) (hh:h=(n:Int)) (h1:n<=m) (h2:m<=c) :
   Yl P l W ⟨d,.slice t x (some y) none none,ty,pos,af,g⟩ (.slice (if c-n=0 then a else a.map (·.add (n*s))) (m-n) (c-n)):=by
 intro ρ w aF _;subst hh;unfold dL at hs
 cases hu:P.underlying t with
 | none=>simp [hu] at hs
 | some dd=>
   cases dd<;>simp [hu] at hs
   rename_i e;obtain ⟨inf,hi,rfl⟩:=hs;simp [execOp,aF x _ hx,aF y _ hy,Instr.sliceAt,Instr.slice,Instr.sliceBounds,Instr.sliceBound,asIntOf,run_underlying hu,sizeOf,typeInfo,hi,h1]
   by_cases Mz:c=n
   · subst Mz; simp
   · have:¬c-n=0:=by omega
     simp [Mz,this]
end
theorem Sl.drop {α:Type} {rd:View->Nat->Nat->α->Prop} {k:Nat} {H:View} {a:Option Addr} {c:Nat} {l:List α} (h:Sl rd k H a c l) (n:Nat) (hn:n<=l.length):Sl rd k H (if c-n=0 then a else a.map (·.add (n*k))) (c-n) (l.drop n):=by
 have hc:=h.cap;refine ⟨by simp; omega,by have:=h.max; omega,?_,λi x hx=>?_⟩
 · intro p hp ad
   split at hp
   · omega
   · cases a with
     | none=>cases hp
     | some q=>
       have hq:=h.spot q rfl (by omega);obtain ⟨b,o,s⟩:=q;obtain rfl:s=none:=hq;simp [qv] at hp;subst hp; rfl
 · rw [List.getElem?_drop] at hx
   have hi:=(List.getElem?_eq_some_iff.1 hx).1;obtain ⟨b,o,ha,hr⟩:=h.aZ _ _ hx;subst ha;refine ⟨b,o+n*k,?_,?_⟩
   · rw [if_neg (by omega)]; simp [qv]
   · rw [Nat.add_mul] at hr
     rw [Nat.add_assoc]; exact hr
theorem Sl.take {α:Type} {rd:View->Nat->Nat->α->Prop} {k:Nat} {H:View} {a:Option Addr} {c:Nat} {l:List α} (h:Sl rd k H a c l) (n:Nat):Sl rd k H a c (l.take n):=
 ⟨by have:=h.cap; simp; omega,h.max,h.spot,λi x hx=>h.aZ i x (by
   rw [List.getElem?_take] at hx
   split at hx
   · exact hx
   · cases hx)⟩
end Go.Bw
end
section
namespace Go.Bw
set_option linter.unnecessarySimpa false
open Go Go.RowKit
section
variable {P:Program} {md:Region.Mode} {ops:Array Oper} {S:List Nat} {C D:World->Prop} {Q:Exit->Act->World->Prop}
def mr (S:List Nat) (listed:Array Bool):Prop:=∀s ∈ S,listed.getD s true=false
def qG (P:Program) (md:Region.Mode) (ops:Array Oper) (S:List Nat) (C D:World->Prop) (Q:Exit->Act->World->Prop):Nat->Array Bool->Act->World->Prop
 | 0,listed,a,w=>((mr S listed->C w)/\D w)/\Region.ready md ops listed=[]/\Q .normal a w
 | fuel+1,listed,a,w=>((mr S listed->C w)/\D w)/\(Region.ready md ops listed=[]->Q .normal a w)/\
   ∀i ∈ Region.ready md ops listed,wpOp P ops Q i (qG P md ops S C D Q fuel (listed.setIfInBounds i true)) a w
theorem Tu:∀(fuel:Nat) (listed:Array Bool) (a:Act) (w:World),qG P md ops S C D Q fuel listed a w->wpAny P md ops Q fuel listed a w
 | 0,_,_,_,h=>h.2
 | fuel+1,listed,a,w,h=>⟨h.2.1,λi hi=>wpOp_mono (λa' w' h'=>Tu fuel _ a' w' h') (h.2.2 i hi)⟩
theorem qG.c {fuel:Nat} {listed:Array Bool} {a:Act} {w:World} (h:qG P md ops S C D Q fuel listed a w):(mr S listed->C w)/\D w:=by cases fuel<;>exact h.1
theorem Hz {i:Nat} (hi:i ∉ S) {listed:Array Bool}:mr S (listed.setIfInBounds i true)↔mr S listed:=by
 constructor
 · intro h s hs
   have dt:i≠s:=λe=>by subst e; exact hi hs
   have:=h s hs
   rwa [getD_set_ne true dt] at this
 · intro h s hs
   have dt:i≠s:=λe=>by subst e; exact hi hs
   rw [getD_set_ne true dt];exact h s hs
def AE (md:Region.Mode) (ops:Array Oper) (listed:Array Bool):Prop:=∀(j:Nat) (o:Oper),ops[j]? = some o->listed.getD j true=true->∀e ∈ o.after,Region.binds md e=true->listed.getD e.on true=true
def AF (md:Region.Mode) (ops:Array Oper) (i:Nat):Nat->Nat->Bool
 | 0,_=>false
 | f+1,s=>match ops[s]? with
   | some os=>os.after.any λe=>Region.binds md e&&(Nat.beq e.on i||AF md ops i f e.on)
   | none=>false
theorem Tv {listed:Array Bool} (k6:AE md ops listed) {i:Nat}:∀(f s:Nat),AF md ops i f s=true->(∀o,ops[s]? = some o->∀e ∈ o.after,Region.binds md e=true->listed.getD e.on true=true)->listed.getD i true=true
 | 0,s,h,_=>by simp [AF] at h
 | f+1,s,h,hs=>by
   simp only [AF] at h
   cases ho:ops[s]? with
   | none=>simp [ho] at h
   | some o=>
     simp only [ho] at h;obtain ⟨e,he,MA⟩:=Array.any_eq_true'.1 h;simp only [Bool.and_eq_true,Bool.or_eq_true] at MA;have hl:=hs o ho e he MA.1
     rcases MA.2 with h1 | h1
     · have:=Nat.eq_of_beq_eq_true h1
       rw [this] at hl; exact hl
     · exact Tv k6 f e.on h1 λo' ho' e' xW xQ=>k6 e.on o' ho' hl e' xW xQ
theorem Tw {listed:Array Bool} {j:Nat} (hj:j ∈ Region.ready md ops listed):∀o,ops[j]? = some o->∀e ∈ o.after,Region.binds md e=true->listed.getD e.on true=true:=by
 intro o ho e he hb;obtain ⟨_,oj,ph,cg⟩:=mem_ready.1 hj;rw [ho] at ph
 injection ph with ph
 subst ph;have h1:=cg e he hb
 rcases Nat.lt_or_ge e.on listed.size with h' | h'
 · simp [Array.getD_eq_getD_getElem?,h'] at h1 ⊢
   exact h1
 · simp [Array.getD_eq_getD_getElem?,Array.getElem?_eq_none h']
theorem AE.set {listed:Array Bool} {j:Nat} (k6:AE md ops listed) (hj:j ∈ Region.ready md ops listed):AE md ops (listed.setIfInBounds j true):=by
 have up:∀k,listed.getD k true=true->(listed.setIfInBounds j true).getD k true=true:=by
   intro k hk
   by_cases jQ:j=k
   · subst jQ
     rcases Nat.lt_or_ge j listed.size with h' | h'
     · simp [Array.getD_eq_getD_getElem?,h']
     · simp [Array.getD_eq_getD_getElem?,h']
   · rw [getD_set_ne true jQ]; exact hk
 intro k o ho hk e he hb
 by_cases jQ:j=k
 · subst jQ
   exact up _ (Tw hj o ho e he hb)
 · rw [getD_set_ne true jQ] at hk
   exact up _ (k6 k o ho hk e he hb)
def Kept (md:Region.Mode) (ops:Array Oper) (S:List Nat) (C D Ci:World->Prop) (i:Nat):Prop:=
 (∀w,D w->Ci w)\/((∀w,C w->Ci w)/\∀s ∈ S,AF md ops i ops.size s=true)
theorem ac4 {i:Nat} {oi:Oper} {v:Value} {Ci:World->Prop} (hi:ops[i]? = some oi) (C3:∀(j:Nat) (o:Oper) cs b,ops[j]? = some o->o.op≠.select cs b)
   (hQ:∀c a w,Q (.panic c) (a.put oi.dst v) w->Q (.panic c) a w) (HA:i ∉ S) (hK:Kept md ops S C D Ci i) :
   ∀(fuel:Nat) (listed:Array Bool) (a:Act) (w:World),
     (∀j oj,ops[j]? = some oj->j≠i->listed.getD j true=false->(∀e ∈ oj.after,Region.binds md e=true->e.on≠i)->oi.apart ops oj=true)->
     i ∈ Region.ready md ops listed->AE md ops listed->YV P ops Ci oi v a->((mr S listed->C w)/\D w)->((∀w,D w->Ci w)\/mr S listed)->
     qG P md ops S C D Q fuel (listed.setIfInBounds i true) (a.put oi.dst v) w->qG P md ops S C D Q (fuel+1) listed a w:=by
 have Ty:∀(listed:Array Bool) (w:World),((mr S listed->C w)/\D w)->((∀w,D w->Ci w)\/mr S listed)->Ci w:=by
   intro listed w h1 h2
   rcases h2 with h2 | h2
   · exact h2 w h1.2
   · rcases hK with hK | hK
     · exact hK w h1.2
     · exact hK.1 w (h1.1 h2)
 intro fuel
 induction fuel with
 | zero=>
   intro listed a w _ hr _ hy hC hU H;refine ⟨hC,λh=>(by rw [h] at hr; cases hr),λj hj=>?_⟩
   by_cases iG:j=i
   · subst iG; exact hy.wpOp hi (Ty _ _ hC hU) H
   · have:=ready_mono hj iG
     rw [H.2.1] at this;cases this
 | succ fuel ih=>
   intro listed a w C4 hr k6 hy hC hU H;refine ⟨hC,λh=>(by rw [h] at hr; cases hr),λj hj=>?_⟩
   by_cases iG:j=i
   · subst iG; exact hy.wpOp hi (Ty _ _ hC hU) H
   · have h1:=H.2.2 j (ready_mono hj iG)
     obtain ⟨C5,oj,ph,cg⟩:=mem_ready.1 hj
     have oh:∀e ∈ oj.after,Region.binds md e=true->e.on≠i:=λe he hb heq=>by
       have h1:=cg e he hb;have h0:=(mem_ready.1 hr).1;rw [heq] at h1
       rcases Nat.lt_or_ge i listed.size with h' | h'
       · simp [h'] at h0 h1; rw [h0] at h1; cases h1
       · simp [Array.getElem?_eq_none h'] at h1
     have hU':(∀w,D w->Ci w)\/mr S (listed.setIfInBounds j true):=by
       rcases hK with hK | hK
       · exact .inl hK
       · rcases hU with hU | hU
         · exact .inl hU
         · refine .inr ((Hz λhjS=>?_).2 hU)
           have MB:=Tv k6 _ j (hK.2 j hjS) (Tw hj);have h0:=(mem_ready.1 hr).1;rw [MB] at h0;cases h0
     have h2:=S5 ph (C4 j oj ph iG C5 oh) (λcs b=>C3 i oi cs b hi) (λcs b=>C3 j oj cs b ph) hQ hy h1
     have Mj:∀k ok,ops[k]? = some ok->k≠i->(listed.setIfInBounds j true).getD k true=false->
         (∀e ∈ ok.after,Region.binds md e=true->e.on≠i)->oi.apart ops ok=true:=λk ok hk pj xU gK=>by
       refine C4 k ok hk pj ?_ gK
       by_cases jQ:j=k
       · subst jQ; exact C5
       · rw [getD_set_ne true jQ] at xU; exact xU
     refine wpOp_mono (λa' w' h3=>ih (listed.setIfInBounds j true) a' w' Mj (ready_mono hr (Ne.symm iG)) (k6.set hj) h3.1 ?_ hU' ?_) h2
     · have hc:=h3.2.c
       rw [Array.setIfInBounds_comm _ _ (Ne.symm iG)] at hc;exact ⟨λhu=>hc.1 ((Hz HA).2 hu),hc.2⟩
     · rw [Array.setIfInBounds_comm _ _ iG]
       exact h3.2
inductive ky where
 | nil
 | stop
 | q (m:Bool) (i:Nat) (r:ky)
 | e (i:Nat) (r alt:ky)
def ky.alts:ky->List Nat
 | .e i _ alt=>i::alt.alts
 | _=>[]
def behind (md:Region.Mode) (ops:Array Oper) (i:Nat) (S:List Nat):Bool:=S.all λs=>AF md ops i ops.size s
def HB (i:Nat) (S:List Nat):Bool:=S.all λs=>!(Nat.beq s i)
theorem Tz {i:Nat} (h:HB i S=true):i ∉ S:=λhi=>by
 have:=List.all_eq_true.1 h i hi;simp at this
def vV (md:Region.Mode) (ops:Array Oper):List Nat->Array Bool->Bool
 | [],listed=>(Region.ready md ops listed).isEmpty
 | s::r,listed=>Region.ready md ops listed==[s]&&vV md ops r (listed.setIfInBounds s true)
def ju (md:Region.Mode) (ops:Array Oper) (S:List Nat):Bool->ky->Nat->Array Bool->Bool
 | top,.nil,k,listed=>top&&(Nat.beq k S.length&&vV md ops S listed)
 | top,.stop,_,_=>!top
 | top,.q m i r,k,listed=>match k with
   | 0=>false
   | k+1=>top&&((Region.ready md ops listed).contains i&&(Region.free md ops listed i&&(HB i S&&((!m||behind md ops i S)&&ju md ops S true r k (listed.setIfInBounds i true)))))
 | top,.e i r alt,k,listed=>match k with
   | 0=>false
   | k+1=>(bif top then Region.ready md ops listed==i::alt.alts else true)&&(HB i S&&(ju md ops S true r k (listed.setIfInBounds i true)&&ju md ops S false alt (k+1) listed))
def vW (P:Program) (ops:Array Oper) (D:World->Prop) (Q:Exit->Act->World->Prop):List Nat->Act->World->Prop
 | [],a,w=>D w/\Q .normal a w
 | s::r,a,w=>D w/\wpOp P ops Q s (vW P ops D Q r) a w
def sr (P:Program) (ops:Array Oper) (S:List Nat) (C D:World->Prop) (Q:Exit->Act->World->Prop):ky->Act->World->Prop
 | .nil,a,w=>C w/\vW P ops D Q S a w
 | .stop,_,_=>True
 | .q m i r,a,w=>(C w/\D w)/\∃o v,ops[i]? = some o/\YV P ops (bif m then C else D) o v a/\sr P ops S C D Q r (a.put o.dst v) w
 | .e i r alt,a,w=>(C w/\D w)/\(wpOp P ops Q i (sr P ops S C D Q r) a w/\sr P ops S C D Q alt a w)
theorem ac7:∀(r:List Nat) (listed:Array Bool) (a:Act) (w:World),(r=S/\C w\/¬mr S listed)->(∀s ∈ r,s ∈ S)->(∀s ∈ r,listed.getD s true=false)->vV md ops r listed=true->vW P ops D Q r a w->qG P md ops S C D Q r.length listed a w
 | [],listed,a,w,hc,_,_,hB,h=>⟨⟨λhu=>(by rcases hc with hc | hc; exact hc.2; exact absurd hu hc),h.1⟩,by simpa [vV] using hB,h.2⟩
 | s::r,listed,a,w,hc,gq,xU,hB,h=>by
   simp only [vV,Bool.and_eq_true,beq_iff_eq] at hB;refine ⟨⟨λhu=>(by rcases hc with hc | hc; exact hc.2; exact absurd hu hc),h.1⟩,λhe=>(by rw [he] at hB; cases hB.1),λj hj=>?_⟩;rw [hB.1] at hj;simp at hj;subst hj
   have aw:j<listed.size:=by
     have:=xU j (by simp)
     rcases Nat.lt_or_ge j listed.size with h' | h'
     · exact h'
     · simp [Array.getElem?_eq_none h'] at this
   have oh:¬mr S (listed.setIfInBounds j true):=λhu=>by
     have:=hu j (gq j (by simp));simp [Array.getD_eq_getD_getElem?,aw] at this
   refine wpOp_mono (λa' w' h'=>TA r (listed.setIfInBounds j true) a' w' oh (λs hs=>gq s (by simp [hs])) hB.2 h') h.2
where
 TA:∀(r:List Nat) (listed:Array Bool) (a:Act) (w:World),¬mr S listed->(∀s ∈ r,s ∈ S)->vV md ops r listed=true->vW P ops D Q r a w->qG P md ops S C D Q r.length listed a w
 | [],listed,a,w,hc,_,hB,h=>⟨⟨λhu=>absurd hu hc,h.1⟩,by simpa [vV] using hB,h.2⟩
 | s::r,listed,a,w,hc,gq,hB,h=>by
   simp only [vV,Bool.and_eq_true,beq_iff_eq] at hB;refine ⟨⟨λhu=>absurd hu hc,h.1⟩,λhe=>(by rw [he] at hB; cases hB.1),λj hj=>?_⟩;rw [hB.1] at hj;simp at hj;subst hj;refine wpOp_mono (λa' w' h'=>TA r (listed.setIfInBounds j true) a' w' (λhu=>hc λs hs=>?_) (λs hs=>gq s (by simp [hs])) hB.2 h') h.2;have:=hu s hs
   rcases Nat.decEq j s with dt | he
   · rwa [getD_set_ne true dt] at this
   · subst he
     rcases Nat.lt_or_ge j listed.size with h' | h'
     · simp [Array.getD_eq_getD_getElem?,h'] at this
     · simp [Array.getD_eq_getD_getElem?] at this
theorem HC {ok:Option Tmp->Bool} (aE:Az ok ops=true) (hs:Region.noSelect ops=true) (hQ:∀c a w d v,ok d=true->Q (.panic c) (a.put d v) w->Q (.panic c) a w):∀(o:ky) (k:Nat) (listed:Array Bool) (a:Act) (w:World),mr S listed->AE md ops listed->
   (ju md ops S true o k listed=true->sr P ops S C D Q o a w->qG P md ops S C D Q k listed a w)/\
   ((∀j ∈ o.alts,j ∈ Region.ready md ops listed)->ju md ops S false o k listed=true->sr P ops S C D Q o a w->∀j ∈ o.alts,∃k',k=k'+1/\wpOp P ops Q j (qG P md ops S C D Q k' (listed.setIfInBounds j true)) a w)
 | .nil,k,listed,a,w,hu,_=>by
   refine ⟨λhB h=>?_,λ_ hB=>by simp [ju] at hB⟩;simp only [ju,Bool.true_and,Bool.and_eq_true] at hB;obtain rfl:=Nat.eq_of_beq_eq_true hB.1;exact ac7 S listed a w (.inl ⟨O,h.1⟩) (λ_ h=>h) hu hB.2 h.2
 | .stop,k,listed,a,w,hu,_=>⟨λhB=>by simp [ju] at hB,λ_ _ _ j hj=>by simp [ky.alts] at hj⟩
 | .q m i r,k,listed,a,w,hu,k6=>by
   cases k with
   | zero=>exact ⟨λhB=>by simp [ju] at hB,λ_ hB=>by simp [ju] at hB⟩
   | succ k=>
     refine ⟨λhB h=>?_,λ_ hB=>by simp [ju] at hB⟩;simp only [ju,Bool.true_and,Bool.and_eq_true] at hB;obtain ⟨hB1,hB2,hB3,TB,hB5⟩:=hB;obtain ⟨hC,o,v,ho,hy,h⟩:=h;have HA:=Tz hB3
     have hK:Kept md ops S C D (bif m then C else D) i:=by
       cases m with
       | false=>exact .inl λ_ h=>h
       | true=>
         refine .inr ⟨λ_ h=>h,λs hs=>?_⟩;simp only [Bool.not_true,Bool.false_or] at TB;exact List.all_eq_true.1 TB s hs
     have TC:i ∈ Region.ready md ops listed:=by simpa using hB1
     exact ac4 ho (Region.noSelect_spec hs) (λc a w=>hQ c a w o.dst v (Tq aE ho)) HA hK k listed a w (Region.free_spec ho hB2) TC k6 hy ⟨λ_=>hC.1,hC.2⟩ (.inr hu)
       ((HC aE hs hQ r k _ _ _ ((Hz HA).2 hu) (k6.set TC)).1 hB5 h)
 | .e i r alt,k,listed,a,w,hu,k6=>by
   cases k with
   | zero=>exact ⟨λhB=>by simp [ju] at hB,λ_ hB=>by simp [ju] at hB⟩
   | succ k=>
     have gq:(∀j ∈ i::alt.alts,j ∈ Region.ready md ops listed)->HB i S=true->ju md ops S true r k (listed.setIfInBounds i true)=true->ju md ops S false alt (k+1) listed=true->sr P ops S C D Q (.e i r alt) a w->
         ∀j ∈ i::alt.alts,wpOp P ops Q j (qG P md ops S C D Q k (listed.setIfInBounds j true)) a w:=by
       intro dP h0 h1 h2 h j hj
       rcases List.mem_cons.1 hj with rfl | hj
       · exact wpOp_mono (λa' w' h'=>(HC aE hs hQ r k _ a' w' ((Hz (Tz h0)).2 hu) (k6.set (dP _ (by simp)))).1 h1 h') h.2.1
       · obtain ⟨k',hk,hx⟩:=(HC aE hs hQ alt (k+1) listed a w hu k6).2 (λj hj=>dP j (by simp [hj])) h2 h.2.2 j hj
         injection hk with hk
         subst hk;exact hx
     refine ⟨λhB h=>?_,λdP hB h j hj=>?_⟩
     · simp only [ju,cond_true,Bool.and_eq_true,beq_iff_eq] at hB
       refine ⟨⟨λ_=>h.1.1,h.1.2⟩,λhe=>(by rw [he] at hB; cases hB.1),λj hj=>?_⟩;rw [hB.1] at hj;exact gq (λj hj=>by rw [hB.1]; exact hj) hB.2.1 hB.2.2.1 hB.2.2.2 h j hj
     · simp only [ju,cond_false,Bool.true_and,Bool.and_eq_true] at hB
       exact ⟨k,O,gq dP hB.1 hB.2.1 hB.2.2 h j hj⟩
variable {n:Nat} {ds:List Deferred} {l:List (Nat×Value)} {W:World->Prop}
def WU (P:Program) (ops:Array Oper) (S:List Nat) (C D:World->Prop) (Q:Exit->Act->World->Prop) (n:Nat) (ds:List Deferred) (l:List (Nat×Value)) (W:World->Prop) (ord:ky):Prop:=
 ∀a w,Ag n ds l a->W w->sr P ops S C D Q ord a w
def WS (P:Program) (ops:Array Oper) (D:World->Prop) (Q:Exit->Act->World->Prop) (n:Nat) (ds:List Deferred) (l:List (Nat×Value)) (W:World->Prop) (S:List Nat):Prop:=
 ∀a w,Ag n ds l a->W w->vW P ops D Q S a w
abbrev oq:World->Prop:=λ_=>True
def MC (k:Nat) (S:List Nat):Bool:=S.all λs=>Nat.blt s k
theorem ada (h:MC ops.size S=true):mr S (Array.replicate ops.size false):=λs hs=>by
 have:=List.all_eq_true.1 h s hs;have aw:=Nat.blt_eq.mp this;simp [Array.getD_eq_getD_getElem?,aw]
theorem WC.adb {id:Nat} {os:List Oper} {W' C' D':World->Prop} (ok:Option Tmp->Bool) (S:List Nat) (ord:ky) (hm:P.follows .mixedOrders=true) (hd:∀w,W' w->W' w.drew)
   (hB:(Az ok os.toArray&&(Region.noSelect os.toArray&&(MC os.toArray.size S&&ju .any os.toArray S true ord os.toArray.size (Array.replicate os.toArray.size false))))=true)
   (hQ:∀c a w d v,ok d=true->Q (.panic c) (a.put d v) w->Q (.panic c) a w) (h:WU P os.toArray S C' D' Q n ds l W' ord):WC P (.region id os.toArray true) Q n ds l W':=by
 intro a w ha hw;simp only [Bool.and_eq_true] at hB
 have:=Tu (md:=.any) _ _ _ _ ((HC hB.1 hB.2.1 hQ ord _ _ a w.drew (ada hB.2.2.1) (λj o ho hj=>by
   have aw:j<os.length:=by simpa using (Array.getElem?_eq_some_iff.1 ho).1
   simp [Array.getD_eq_getD_getElem?,Array.getElem?_replicate,aw] at hj)).1 hB.2.2.2 (h a w.drew ha (hd w hw)))
 exact wp_region_any hm this
theorem CU {id:Nat} {os:List Oper} {w0:World} {F:List Nat} {L:List ak} {Vs:List View} (ok:Option Tmp->Bool) (is:List Nat) (S:List Nat) (ord:ky) (hm:P.follows .mixedOrders=true)
   (hB:(Az ok os.toArray&&(Region.noSelect os.toArray&&(MC os.toArray.size S&&ju .any os.toArray S true ord os.toArray.size (Array.replicate os.toArray.size false))))=true)
   (hQ:∀c a w d v,ok d=true->Q (.panic c) (a.put d v) w->Q (.panic c) a w) (h:WU P os.toArray S (Ws w0 F (outs is L) Vs) oq Q n ds l (Ws w0 F L Vs) ord):WC P (.region id os.toArray true) Q n ds l (Ws w0 F L Vs):=
 WC.adb ok S ord hm (λ_ h=>h.drew) hB hQ h
theorem WV.q {m:Bool} {r:ky} {i d:Nat} {op:Op} {ty:TypeId} {pos:String} {af:Array Edge} {g:Option (Nat×Bool)} {v:Value} (hi:ops[i]? = some ⟨some d,op,ty,pos,af,g⟩) (hg:cB ops l g) (hn:Nat.blt d n=true)
   (hC:∀w,W w->C w) (hD:∀w,W w->D w) (hy:Yl P l (bif m then C else D) ⟨some d,op,ty,pos,af,g⟩ v) (h:WU P ops S C D Q n ds ((d,v)::l) W r):WU P ops S C D Q n ds l W (.q m i r):=by
 intro a w ha hw;refine ⟨⟨hC w hw,hD w hw⟩,_,v,hi,.inl ⟨cB.wanted (o:=⟨some d,op,ty,pos,af,g⟩) hg ha,λw' dE=>hy a.eval w' (λx u hx=>ha.eval hx) dE⟩,h _ _ (ha.put hn v) hw⟩
theorem Uq {m:Bool} {r:ky} {i d:Nat} {op:Op} {ty:TypeId} {pos:String} {af:Array Edge} {g:Option (Nat×Bool)} {v:Value} (hi:ops[i]? = some ⟨some d,op,ty,pos,af,g⟩) (hg:cB ops l g) (hn:Nat.blt d n=true)
   (hC:∀w,W w->C w) (hy:Yl P l (bif m then C else λ_=>True) ⟨some d,op,ty,pos,af,g⟩ v) (h:WU P ops S C oq Q n ds ((d,v)::l) W r):WU P ops S C oq Q n ds l W (.q m i r):=WV.q hi hg hn hC (λ_ _=>trivial) hy h
theorem U0 {m:Bool} {r:ky} {i d:Nat} {op:Op} {ty:TypeId} {pos:String} {af:Array Edge} {v:Value} (hi:ops[i]? = some ⟨some d,op,ty,pos,af,none⟩) (hC:∀w,W w->C w) (hy:Yl P l (bif m then C else λ_=>True) ⟨some d,op,ty,pos,af,none⟩ v) (h:WU P ops S C oq Q n ds ((d,v)::l) W r) (hn:Nat.blt d n=true:=by rfl):WU P ops S C oq Q n ds l W (.q m i r):=Uq hi (.inl rfl) hn hC hy h
theorem WU.skip {r:ky} {i d:Nat} {op:Op} {ty:TypeId} {pos:String} {af:Array Edge} {j:Nat} {b:Bool} {oj:Oper} {dj:Nat} (hi:ops[i]? = some ⟨some d,op,ty,pos,af,some (j,b)⟩) (hn:Nat.blt d n=true)
   (hj:ops[j]? = some oj) (CN:oj.dst=some dj) (tR:Nat.blt dj n=true) (hb:lk l dj=some (.bool (!b)))
   (hC:∀w,W w->C w) (h:WU P ops S C oq Q n ds ((d,undef)::l) W r):WU P ops S C oq Q n ds l W (.q false i r):=by
 intro a w ha hw;have hv:a.tmps.getD dj undef = .bool (!b):=ha.fy dj _ hb
 have aw:dj<a.tmps.size:=by rw [ha.size]; exact Nat.le_of_ble_eq_true tR
 have tV:a.tmps[dj]? = some (.bool (!b)):=by
   rw [Array.getD_eq_getD_getElem?,Array.getElem?_eq_getElem aw] at hv;rw [Array.getElem?_eq_getElem aw]
   simpa using hv
 have CO:yielded ops a.tmps j=some (!b):=by simp [yielded,hj,CN,tV]
 exact ⟨⟨hC w hw,trivial⟩,_,undef,hi,.inr ⟨by simp [Region.wanted,CO],O⟩,h _ _ (ha.put hn undef) hw⟩
theorem TD {i:Nat} {o:Oper} {K:Act->World->Prop} (hi:ops[i]? = some o) {a:Act} {w:World} (this:wpList P ops (Exit.then K Q) [o] a w):wpOp P ops Q i K a w:=by
 unfold wpList at this;unfold wpOp;simp only [hi]
 split
 · rename_i dE
   rw [if_pos dE] at this
   rcases this with this | ⟨h1,a2,w2,h2⟩
   · left
     unfold Oper.wp at this ⊢;unfold Oper.upon at this ⊢
     split at this
     all_goals first
       | exact this
       | (refine this.mono λe w' he=>?_
          cases e with
          | returned v=>exact he
          | panicked ch=>exact he
          | outgrown=>obtain ⟨a3,w3,h3⟩:=he; exact ⟨a3,w3,h3⟩)
       | exact this.mono λv w' he=>he
   · exact .inr ⟨h1,a2,w2,h2⟩
 · rename_i dE
   rw [if_neg dE] at this;exact this
theorem WV.e {r alt:ky} {i:Nat} {o:Oper} (hi:ops[i]? = some o) (hC:∀w,W w->C w) (hD:∀w,W w->D w) (h:WL P ops (Exit.then (sr P ops S C D Q r) Q) n ds l W [o]) (h2:WU P ops S C D Q n ds l W alt):WU P ops S C D Q n ds l W (.e i r alt):=
 λa w ha hw=>⟨⟨hC w hw,hD w hw⟩,TD hi (h a w ha hw),h2 a w ha hw⟩
theorem Ue {r alt:ky} {i:Nat} {o:Oper} (hi:ops[i]? = some o) (hC:∀w,W w->C w) (h:WL P ops (Exit.then (sr P ops S C oq Q r) Q) n ds l W [o]) (h2:WU P ops S C oq Q n ds l W alt):WU P ops S C oq Q n ds l W (.e i r alt):=WV.e hi hC (λ_ _=>trivial) h h2
theorem WU.stop:WU P ops S C D Q n ds l W .stop:=λ_ _ _ _=>trivial
theorem Eu {r:ky} (h:WU P ops S C D Q n ds l W r):WE (Exit.then (sr P ops S C D Q r) Q) .normal n ds l W:=h
theorem WU.nil (hC:∀w,W w->C w) (h:WS P ops D Q n ds l W S):WU P ops S C D Q n ds l W .nil:=λa w ha hw=>⟨hC w hw,h a w ha hw⟩
theorem MD.nil (hD:∀w,W w->D w) (h:WE Q .normal n ds l W):WS P ops D Q n ds l W []:=λa w ha hw=>⟨hD w hw,h a w ha hw⟩
theorem WS.nil (h:WE Q .normal n ds l W):WS P ops oq Q n ds l W []:=MD.nil (λ_ _=>trivial) h
theorem MD.e {s:Nat} {r:List Nat} {o:Oper} (hi:ops[s]? = some o) (hD:∀w,W w->D w) (h:WL P ops (Exit.then (vW P ops D Q r) Q) n ds l W [o]):WS P ops D Q n ds l W (s::r):=
 λa w ha hw=>⟨hD w hw,TD hi (h a w ha hw)⟩
theorem WS.e {s:Nat} {r:List Nat} {o:Oper} (hi:ops[s]? = some o) (h:WL P ops (Exit.then (vW P ops oq Q r) Q) n ds l W [o]):WS P ops oq Q n ds l W (s::r):=MD.e hi (λ_ _=>trivial) h
theorem Es {r:List Nat} (h:WS P ops D Q n ds l W r):WE (Exit.then (vW P ops D Q r) Q) .normal n ds l W:=h
end
end Go.Bw
end
section
namespace Go.Bw
set_option linter.unnecessarySimpa false
open Go Go.RowKit
theorem ME {α:Type} {f:α->List Value} {e:TypeId} {k c b o:Nat} {a:Option Addr} {xs:List α} {w:World} (h:(bo e k f a c xs).holds w) (ha:a=some ⟨b,o,none⟩) :
   o=0/\∃cur,w.heap[b]? = some (.cells cur e (0,0))/\cur.toList.take (xs.length*k)=xs.flatMap f/\cur.size=c*k/\xs.length<=c:=by
 subst ha;obtain ⟨h1,h2⟩:=(h:w.ownsRow 0 e k _ xs.length (xs.flatMap f))
 rcases h2 with ⟨h3,_⟩ | ⟨g,cap,cur,hv,_,hb,mh,hc,hs,ht⟩
 · cases h3
 · injection hv with h3 _ h4
   injection h3 with h3
   injection h3 with h3 h5
   subst h3 h4 h5;exact ⟨O,cur,hb,ht,hs,mh⟩
section
variable {P:Program} {ops:Array Oper} {Q:Exit->Act->World->Prop} {n:Nat} {ds:List Deferred} {l:List (Nat×Value)} {w0:World} {F:List Nat} {L:List ak} {Vs:List View} {rest:List Oper}
 {ty:TypeId} {pos:String} {af:Array Edge} {g:Option (Nat×Bool)}
theorem MF {α:Type} {f:α->List Value} {e:TypeId} {k c:Nat} {a:Option Addr} {xs:List α} {w:World} (hw:Ws w0 F L Vs w) (i:Nat) (hL:L[i]? = some (bo e k f a c xs)) (hm:0<xs.length):(∃b,a=some ⟨b,0,none⟩)/\xs.length<=c/\c<=maxLen:=by
 obtain ⟨h1,h2⟩:=(hw.kn _ (du hL):w.ownsRow 0 e k _ xs.length (xs.flatMap f))
 rcases h2 with ⟨h3,h4⟩ | ⟨b,cap,cur,hv,_,_,mh,hc,_⟩
 · injection h3 with _ h5 _; omega
 · injection hv with h3 _ h4
   subst h3 h4;exact ⟨⟨b,O⟩,mh,hc⟩
theorem WC.x0 {α:Type} {f:α->List Value} {cd:Code} {e:TypeId} {k c:Nat} {a:Option Addr} {xs:List α} (i:Nat) (hL:L[i]? = some (bo e k f a c xs)) (hm:0<xs.length)
   (h:∀b,a=some ⟨b,0,none⟩->xs.length<=c->c<=maxLen->WC P cd Q n ds l (Ws w0 F L Vs)):WC P cd Q n ds l (Ws w0 F L Vs):=by
 intro A w ha hw;obtain ⟨⟨b,hb⟩,h1,h2⟩:=MF hw i hL hm;exact h b hb h1 h2 A w ha hw
theorem WL.x0 {α:Type} {f:α->List Value} {e:TypeId} {k c:Nat} {a:Option Addr} {xs:List α} (i:Nat) (hL:L[i]? = some (bo e k f a c xs)) (hm:0<xs.length)
   (h:∀b,a=some ⟨b,0,none⟩->xs.length<=c->c<=maxLen->WL P ops Q n ds l (Ws w0 F L Vs) rest):WL P ops Q n ds l (Ws w0 F L Vs) rest:=by
 intro A w ha hw;obtain ⟨⟨b,hb⟩,h1,h2⟩:=MF hw i hL hm;exact h b hb h1 h2 A w ha hw
theorem WC.ade {α:Type} {f:α->List Value} {cd:Code} {e:TypeId} {k c:Nat} {a:Option Addr} {xs:List α} (i:Nat) (hL:L[i]? = some (bo e k f a c xs))
   (h:(∀p,a=some p->p.spot=none)->xs.length<=c->c<=maxLen->WC P cd Q n ds l (Ws w0 F L Vs)):WC P cd Q n ds l (Ws w0 F L Vs):=by
 intro A w ha hw;obtain ⟨h1,h2⟩:=(hw.kn _ (du hL):w.ownsRow 0 e k _ xs.length (xs.flatMap f))
 rcases h2 with ⟨h3,h4⟩ | ⟨b,cap,cur,hv,_,_,mh,hc,_⟩
 · injection h3 with h5 h6 h7
   subst h5 h7;exact h (by simp) (by omega) (by unfold maxLen; omega) A w ha hw
 · injection hv with h3 _ h4
   subst h3 h4;exact h (by simp) mh hc A w ha hw
theorem qH {α:Type} {f:α->List Value} {t e:TypeId} {x:Operand} {b o p k c:Nat} {a:Option Addr} {xs:List α} {y:α} {v:Value} {d:Option Tmp} (i j q:Nat) (hx:aB l x=some (.pointer (some ⟨b,p,none⟩))) (hL:L[i]? = some (bo e k f a c xs)) (ha:a=some ⟨b,o,none⟩)
   (hp:p=o+j*k+q) (hf:∀x,(f x).length=k) (hy:xs[j]? = some y) (hq:(f y)[q]? = some v) (ht:dI P t=true):Yl P l (Ws w0 F L Vs) ⟨d,.load t x,ty,pos,af,g⟩ v:=Ha ht hx λw hw=>by
 obtain ⟨rfl,cur,hb,nt,im,hm⟩:=ME (hw.kn _ (du hL)) ha;refine cell_of_heap hb ?_
 have MG:q<k:=by have:=(List.getElem?_eq_some_iff.1 hq).1; rw [hf] at this; exact this
 have h6:(xs.flatMap f)[j*k+q]? = some v:=by rw [pk hf hy MG]; exact hq
 rw [<-nt,List.getElem?_take] at h6
 split at h6
 · subst hp; simpa [gJ] using h6
 · cases h6
theorem WL.storeT {α:Type} {f:α->List Value} {t e:TypeId} {x z:Operand} {b o p k kk c:Nat} {a:Option Addr} {xs:List α} {y:α} {v:Value} (i j q:Nat) (y':α) (hg:cB ops l g) (hx:aB l x=some (.pointer (some ⟨b,p,none⟩))) (hz:aB l z=some v) (hL:L[i]? = some (bo e k f a c xs)) (ha:a=some ⟨b,o,none⟩)
   (hp:p=o+j*k+q) (hf:∀x,(f x).length=k) (hy:xs[j]? = some y) (hs:cq P t=some kk) (hl:(dv v).length=kk) (h1:(dv v).all (·.oneCell')=true) (hq:q+kk<=k) (AG:f y'=(f y).take q++dv v++(f y).drop (q+kk))
   (h:WL P ops Q n ds l (Ws w0 F (L.set i (bo e k f a c (xs.set j y'))) Vs) rest):WL P ops Q n ds l (Ws w0 F L Vs) (⟨none,.store t x z,ty,pos,af,g⟩::rest):=by
 refine WL.step hg λA w hA hw K hK=>?_;have hh:(bo e k f a c xs).holds w:=hw.kn _ (du hL);obtain ⟨rfl,cur,hb,nt,im,hm⟩:=ME hh ha;have hj:j<xs.length:=(List.getElem?_eq_some_iff.1 hy).1
 have jQ:j*k+k<=xs.length*k:=by rw [<-Nat.succ_mul]; exact Nat.mul_le_mul_right _ hj
 have ot:xs.length*k<=c*k:=Nat.mul_le_mul_right _ hm
 have aE:tY (.cells cur e (0,0)) p kk=true:=by
   simp only [tY,Nat.beq_refl,Bool.and_true,Bool.and_self];exact Nat.ble_eq_true_of_le (by simp [im]; omega)
 have dM:(execOp A.eval ⟨none,.store t x z,ty,pos,af,g⟩).run P w = .ok .skip { w with heap:=w.heap.setIfInBounds b (mg (.cells cur e (0,0)) p (dv v)) }:=by
   simp only [execOp,hA.eval hx,hA.eval hz,Instr.storeAt,Instr.sureAddr,Sem.run_bind,Sem.run_pure,Result.andThen_ok,SY hs hl h1 hb aE]
 simp only [Oper.wp,dM,Oper.upon_skip];refine hK _ _ (h _ _ (hA.CM undef) ?_);have aw:=lt_of_heap hb
 have hlen:(xs.set j y').length=xs.length:=by simp
 have nw:=acz hf hy (j:=q) (vs:=dv v) (y:=y') (by omega) (by rw [hl]; exact AG);refine Ws.vN hw i hL ⟨O,O,O,by simp,λj' hj' dt=>?_⟩ ?_ (by subst ha; simp [dw,Value.ownBlock]) (λk' HD=>?_)
 · have:b≠j':=λe'=>dt (by subst ha; simp [dw,Value.ownBlock,e'])
   simp [Array.getElem?_setIfInBounds_ne this]
 · show World.ownsRow _ 0 e k (.slice a (xs.set j y').length c) (xs.set j y').length _
   rw [hlen];obtain ⟨g1,g2⟩:=(hh:w.ownsRow 0 e k _ xs.length (xs.flatMap f));refine ⟨by rw [vU hf,hlen],.inr ?_⟩
   rcases g2 with ⟨g3,_⟩ | ⟨g,cap,asX,hv,g0,xQ,mh,xR,Hg,ht'⟩
   · subst ha; cases g3
   · subst ha
     injection hv with e3 _ e4
     injection e3 with e3
     injection e3 with e3
     subst e3 e4;refine ⟨b,c,(cur.toList.take p++dv v++cur.toList.drop (p+(dv v).length)).toArray,O,Nat.zero_le _,?_,mh,xR,?_,?_⟩
     · show (w.heap.setIfInBounds b _)[b]? = _
       simp [aw,mg]
     · simp [im]; omega
     · rw [<-nw,<-nt]
       subst hp;simp only [Nat.zero_add]
       have k6:cur.toList.length=c*k:=by simp [im]
       have e1:((cur.toList.take (xs.length*k)).take (j*k+q))=cur.toList.take (j*k+q):=by rw [List.take_take]; congr 1; omega
       have e2:(cur.toList.take (j*k+q)).length=j*k+q:=by rw [List.length_take,k6]; omega
       have e3:(cur.toList.take (j*k+q)++dv v).length=j*k+q+kk:=by rw [List.length_append,e2,hl]
       rw [e1,hl]
       have hm':xs.length*k=(j*k+q+kk)+(xs.length*k-(j*k+q+kk)):=by omega
       rw [List.take_append,e3,List.take_of_length_le (by rw [e3]; omega),List.drop_take]
 · refine .inl ?_
   simp only [dw] at HD ⊢;subst ha
   simpa [Value.ownBlock] using HD
theorem WL.Db {α:Type} {f:α->List Value} {e:TypeId} {k c:Nat} {a:Option Addr} {xs:List α} (i:Nat) (ys:List α) (hL:L[i]? = some (bo e k f a c xs)) (hf:∀x,(f x).length=k) (hm:ys.length<=xs.length) (he:xs.take ys.length=ys)
   (h:WL P ops Q n ds l (Ws w0 F (L.set i (bo e k f a c ys)) Vs) rest):WL P ops Q n ds l (Ws w0 F L Vs) rest:=
 WL.ac2 i ys.length hL hf hm (by rw [he]; exact h)
theorem WL.TE {A:ak} {As:List ak} (h:WL P ops Q n ds l (Ws w0 F (A::dF As::L) Vs) rest):WL P ops Q n ds l (Ws w0 F (dF (A::As)::L) Vs) rest:=LW (λ_ h=>h.AB) h
theorem WL.TF {A:ak} {As:List ak} (h:WL P ops Q n ds l (Ws w0 F (dF (A::As)::L) Vs) rest):WL P ops Q n ds l (Ws w0 F (A::dF As::L) Vs) rest:=LW (λ_ h=>h.AD) h
theorem WC.TE {c:Code} {A:ak} {As:List ak} (h:WC P c Q n ds l (Ws w0 F (A::dF As::L) Vs)):WC P c Q n ds l (Ws w0 F (dF (A::As)::L) Vs):=sh (λ_ h=>h.AB) h
theorem WC.TF {c:Code} {A:ak} {As:List ak} (h:WC P c Q n ds l (Ws w0 F (dF (A::As)::L) Vs)):WC P c Q n ds l (Ws w0 F (A::dF As::L) Vs):=sh (λ_ h=>h.AD) h
theorem WL.perm {L':List ak} (hp:L.Perm L') (h:WL P ops Q n ds l (Ws w0 F L' Vs) rest):WL P ops Q n ds l (Ws w0 F L Vs) rest:=LW (λ_ h=>h.perm hp) h
end
end Go.Bw
end
section
namespace Go.Bw
set_option linter.unnecessarySimpa false
open Go Go.RowKit
section
variable {P:Program} {ops:Array Oper} {Q:Exit->Act->World->Prop} {n:Nat} {ds:List Deferred} {l:List (Nat×Value)} {w0 w:World} {F:List Nat} {L:List ak} {Vs:List View} {rest:List Oper} {A:ak} {As:List ak}
theorem Ws.adf (h:Ws w0 F L Vs w) (i:Nat) (hL:L[i]? = some (dF (A::As))):Ws w0 F (L.set i (dF As)) Vs w:=by
 have h1:=(h.perm (mf i L hL)).AB;have h2:Ws w0 F (dF As::c_ i L) Vs w:=Ws.drop (L:=[A]) h1;exact h2.perm (set_perm i L hL)
theorem Ws.TG (h:Ws w0 F L Vs w) (i:Nat) (hL:L[i]? = some (dF As)) (e:TypeId) (size:Nat):Ws w0 F (L.set i (dF (dw e size (.slice none 0 0) 0 []::As))) Vs w:=by
 have h1:=(h.perm (mf i L hL)).fB e size;have h2:=h1.AD;exact h2.perm (set_perm i L hL)
theorem Ws.ao (h:Ws w0 F L Vs w) (i:Nat) (hL:L[i]? = some A):Ws w0 F (A::c_ i L) Vs w:=h.perm (mf i L hL)
theorem WL.TH {t tn e:TypeId} {z:Value} {kn k:IntKind} {bytes d:Nat} {x y:Operand} {ty:TypeId} {pos:String} {af:Array Edge} {g:Option (Nat×Bool)} (m:Nat) (hg:cB ops l g) (hn:Nat.blt d n=true) (hE:eS P t e z 1 bytes) (htn:P.underlying tn=some (.int kn))
   (hx:aB l x=some (.slice none 0 0)) (hy:aB l y=some (.int k (m:Int))) (h0:0<m) (og:m<=maxLen) (h48:m*bytes<=281474976710656)
   (h:∀b c cur,m<=c->c<=maxLen->cur.size=c->WL P ops Q n ds ((d,.slice (some ⟨b,0,none⟩) m c)::l) (Ws w0 F (ab b (.cells cur e (0,0))::L) Vs) rest) :
   WL P ops Q n ds l (Ws w0 F L Vs) (⟨some d,.call ⟨.builtin .append,#[x,y],#[t,tn]⟩,ty,pos,af,g⟩::rest):=by
 refine WL.step hg λa w ha hw K hK=>?_;obtain ⟨inf,hi,hz,ga,lI⟩:=hE.info;have dM:=Lib.run_append_nil_zeros (P:=P) w t tn ty e inf z k kn hE.under htn hi hz m h0 (by omega) (by unfold maxLen at og; omega) (by rw [lI]; exact h48)
 have qw:(execOp a.eval ⟨some d,.call ⟨.builtin .append,#[x,y],#[t,tn]⟩,ty,pos,af,g⟩).run P w = .ok (.value (.slice (some ⟨w.heap.size,0,none⟩) m (grownCap w m 0 e))) (w.drew.alloc (.cells (Builtin.zeroCells z.cells m++Builtin.zeroCells z.cells (grownCap w m 0 e-m)) e)):=by
   simp only [execOp,resolve,List.map_toArray,List.map_cons,List.map_nil,ha.eval hx,ha.eval hy,Sem.run_bind,Sem.run_pure,Result.andThen_ok,invoke,builtin,dM]
 simp only [Oper.wp,qw,Oper.upon_value];have cz:=grownCap_ge w m 0 e;refine hK _ _ (h w.heap.size _ (Builtin.zeroCells z.cells m++Builtin.zeroCells z.cells (grownCap w m 0 e-m)) cz (grownCap_le_maxLen w m 0 e og) ?_ _ _ (ha.put hn _) ?_)
 · have uf:z.cells.size=1:=hE.zs
   simp [Builtin.zeroCells,uf]; omega
 · exact hw.drew.alloc _
end
section
variable {P:Program} {l:List (Nat×Value)} {W:World->Prop} {d:Option Tmp} {ty:TypeId} {pos:String} {af:Array Edge} {g:Option (Nat×Bool)}
theorem HG {t:TypeId} {x:Operand} {a:Option Addr} {n c s:Nat} (hs:dL P t=some s) (hx:aB l x=some (.slice a n c)):Yl P l W ⟨d,.call ⟨.builtin .cap,#[x],#[t]⟩,ty,pos,af,g⟩ (.int .i64 (c:Int)):=by
 intro ρ w aF _;unfold dL at hs
 cases hu:P.underlying t with
 | none=>simp [hu] at hs
 | some dd=>
   cases dd<;>simp [hu] at hs
   simp [execOp,resolve,invoke,builtin,aF x _ hx,Builtin.cap_,run_underlying hu,goInt]
end
end Go.Bw
end
section
namespace Go.Bw
set_option linter.unnecessarySimpa false
open Go Go.RowKit
section
variable {P:Program} {ops:Array Oper} {Q:Exit->Act->World->Prop} {n:Nat} {ds:List Deferred} {l:List (Nat×Value)} {w0 w:World} {F:List Nat} {L:List ak} {Vs:List View} {rest:List Oper}
 {ty:TypeId} {pos:String} {af:Array Edge} {g:Option (Nat×Bool)} {d:Nat}
theorem WL.x1 {α:Type} {f:α->List Value} {rd:View->Nat->Nat->α->Prop} {t e:TypeId} {z:Value} {size bytes:Nat} {s y:Operand} {a a2:Option Addr} {c c2:Nat} {xs ys:List α} (i:Nat) (H:World->View) (hg:cB ops l g) (hn:Nat.blt d n=true) (hE:eS P t e z size bytes)
   (hs:aB l s=some (.slice a xs.length c)) (hy:aB l y=some (.slice a2 ys.length c2)) (hL:L[i]? = some (bo e size f a c xs)) (hH:∀w,Ws w0 F L Vs w->Le (H w) w/\Sl rd size (H w) a2 c2 ys) (dP:∀H b o x,rd H b o x->aT H b o (f x))
   (hf:∀x,(f x).length=size) (h1:∀x,(f x).all (·.oneCell')=true) (og:xs.length+ys.length<=9223372036854775807) (t':(xs.length+ys.length)*bytes<=140737488355328)
   (h:∀a' c',WL P ops Q n ds ((d,.slice a' (xs++ys).length c')::l) (Ws w0 F (L.set i (bo e size f a' c' (xs++ys))) Vs) rest) :
   WL P ops Q n ds l (Ws w0 F L Vs) (⟨some d,.call ⟨.builtin .append,#[s,y],#[t,t]⟩,ty,pos,af,g⟩::rest):=by
 cases a2 with
 | none=>
   refine WL.step hg λA w hA hw K hK=>?_;obtain ⟨inf,hi,hz,ga,lI⟩:=hE.info;obtain ⟨_,Dc⟩:=hH w hw
   have HH:ys=[]:=by
     cases ys with
     | nil=>rfl
     | cons x r=>obtain ⟨b,o,hb,_⟩:=Dc.aZ 0 x rfl; cases hb
   subst HH;have Ao:w.ownsRow 0 e size (.slice a xs.length c) xs.length (xs.flatMap f):=hw.kn _ (du hL)
   have dQ:xs.length<=c:=by
     rcases Ao.2 with ⟨h3,_⟩ | ⟨b,cap,cur,hv,_,_,mh,_⟩
     · injection h3 with _ h4 h5; omega
     · injection hv with _ _ h5; omega
   have dM:=run_append_nothing (P:=P) w t t ty e inf hE.under hi a xs.length c dQ (.slice none 0 c2) ⟨.inl ⟨e,hE.under⟩,by simp [Builtin.lenOf],run_firstCells_none w _ 0 0 c2,run_firstCells_none w.drew _ 0 0 c2,by simp,by simp⟩
   have qw:(execOp A.eval ⟨some d,.call ⟨.builtin .append,#[s,y],#[t,t]⟩,ty,pos,af,g⟩).run P w = .ok (.value (.slice a xs.length c)) w:=by
     simp only [execOp,resolve,List.map_toArray,List.map_cons,List.map_nil,hA.eval hs,hA.eval hy,Sem.run_bind,Sem.run_pure,Result.andThen_ok,invoke,builtin,List.length_nil,dM]
   simp only [Oper.wp,qw,Oper.upon_value];have hi':i<L.length:=(List.getElem?_eq_some_iff.1 hL).1
   have He:L.set i (bo e size f a c xs)=L:=by
     rw [<-(List.getElem?_eq_some_iff.1 hL).2]; exact List.set_getElem_self hi'
   have hh:=h a c;simp only [List.append_nil] at hh;rw [He] at hh;exact hK _ _ (hh _ _ (hA.put hn _) hw)
 | some p=>
   have e1:(xs.flatMap f)++ys.flatMap f=(xs++ys).flatMap f:=by simp
   have e2:xs.length+ys.length=(xs++ys).length:=by simp
   refine WL.append i hg hn hE hs hy hL (news:=ys.flatMap f) (k:=ys.length) (vU hf ys) (λw hw k u hu=>?_) (λu hu=>?_) (by unfold maxLen; omega) t' λv' _=>?_
   · obtain ⟨hle,Dc⟩:=hH w hw
     have hk:=(List.getElem?_eq_some_iff.1 hu).1
     have hy0:0<ys.length:=by
       cases ys with
       | nil=>simp at hk
       | cons x r=>simp
     obtain ⟨b,o,hb,_⟩:=Dc.aZ 0 _ (List.getElem?_eq_getElem hy0)
     injection hb with hb
     subst hb;rw [qv];have Dd:=hE.pos;exact hle.cell (Dc.flat hf Dd (dP _) k u hu)
   · obtain ⟨x,_,hx⟩:=List.mem_flatMap.1 hu
     exact List.all_eq_true.1 (h1 x) u hx
   · rw [e1,e2]
     have hi:i<L.length:=(List.getElem?_eq_some_iff.1 hL).1;refine WL.Ti i (m:=(xs++ys).length) (xs:=(xs++ys).flatMap f) (e:=e) (size:=size) (v:=v') (by simp [hi]) λa' c' hv=>?_;subst hv;exact h a' c'
theorem WL.Df {ι:Type} {f:FuncId} {args:Array Operand} {ts:Array TypeId} {vs:List Value} (hg:cB ops l g) (hn:Nat.blt d n=true) (hf:Enters P f) (ha:ik l args.toList=some vs)
   (v:ι->Value) (ew:ι->List ak) (R:ι->Prop)
   (hC:∀w,Ws w0 F L Vs w->Calls P f vs.toArray w λe w'=>∃i,e = .returned (v i)/\R i/\Ws w [] (ew i) [] w')
   (hr:∀i,R i->WL P ops Q n ds ((d,v i)::l) (Ws w0 F (ew i++L) Vs) rest) :
   WL P ops Q n ds l (Ws w0 F L Vs) (⟨some d,.call ⟨.value (.func f),args,ts⟩,ty,pos,af,g⟩::rest):=by
 refine WL.call hg hn hf ha v (λi w'=>R i/\Ws w0 F (ew i++L) Vs w') (λw hw=>(hC w hw).mono λe w' ⟨i,he,hR,h⟩=>⟨i,he,hR,?_⟩) λi=>?_
 · exact Ws.An (L:=[]) (L':=ew i) (L2:=L) (by simpa using hw) (by simpa using h.fr) h.kn h.nd (λA hA k hk=>by
     rcases h.own A hA k hk with h1 | h1
     · simp at h1
     · exact .inr h1)
 · intro a w cN hw
   exact hr i hw.1 a w cN hw.2
end
end Go.Bw
end
section
namespace Go.Bw
set_option linter.unnecessarySimpa false
open Go Go.RowKit
section
variable {P:Program} {ops:Array Oper} {Q:Exit->Act->World->Prop} {n:Nat} {ds:List Deferred} {l:List (Nat×Value)} {w0:World} {F:List Nat} {L:List ak} {Vs:List View} {rest:List Oper} {c:Code}
 {ty:TypeId} {pos:String} {af:Array Edge} {g:Option (Nat×Bool)}
theorem WC.fact {p:Prop} {W:World->Prop} (hp:∀w,W w->p) (h:p->WC P c Q n ds l W):WC P c Q n ds l W:=λa w ha hw=>h (hp w hw) a w ha hw
theorem WL.fact {p:Prop} {W:World->Prop} (hp:∀w,W w->p) (h:p->WL P ops Q n ds l W rest):WL P ops Q n ds l W rest:=λa w ha hw=>h (hp w hw) a w ha hw
theorem Ws.ou {α:Type} {f:α->List Value} {k b c:Nat} {e:TypeId} {xs:List α} {w:World} (h:Ws w0 F L Vs w) (i:Nat) (hL:L[i]? = some (ab b (.cells (xs.flatMap f).toArray e (0,0)))) (hf:∀x,(f x).length=k) (hc:xs.length=c) (hm:c<=maxLen):Ws w0 F (L.set i (bo e k f (some ⟨b,0,none⟩) c xs)) Vs w:=by
 have h1:=h.SZ i hL (m:=c) (cap:=c) (size:=k) (Nat.le_refl _) hm (by simp [vU hf,hc])
 have e1:dw e k (.slice (some ⟨b,0,none⟩) c c) c ((xs.flatMap f).toArray.toList.take (c*k))=bo e k f (some ⟨b,0,none⟩) c xs:=by
   show _=dw e k (.slice (some ⟨b,0,none⟩) xs.length c) xs.length (xs.flatMap f)
   rw [hc,List.take_of_length_le (by rw [List.toList_toArray,vU hf,hc]; exact Nat.le_refl _)]
 rw [e1] at h1;exact h1
theorem WC.Dg {ι:Type} {x y:Code} {W:World->Prop} (E:ι->List (Nat×Value)) (Wi:ι->World->Prop) (R:ι->Prop) (hx:WC P x (Exit.then (λa w=>∃i,R i/\Ag n ds (E i) a/\Wi i w) Q) n ds l W) (hy:∀i,R i->WC P y Q n ds (E i) (Wi i)):WC P (.seq x y) Q n ds l W:=by
 intro a w ha hw;refine wp_seq (wp_mono (hx a w ha hw) λe a' w' hq=>?_)
 cases e with
 | normal=>obtain ⟨i,hR,h1,h2⟩:=hq; exact hy i hR a' w' h1 h2
 | _=>exact hq
theorem Em {ι:Type} {Q:Exit->Act->World->Prop} {W:World->Prop} {E:ι->List (Nat×Value)} {Wi:ι->World->Prop} {R:ι->Prop} (i:ι) (hR:R i) (hE:∀p ∈ E i,lk l p.1=some p.2) (hW:∀w,W w->Wi i w) :
   WE (Exit.then (λa w=>∃i,R i/\Ag n ds (E i) a/\Wi i w) Q) .normal n ds l W:=λa w ha hw=>⟨i,hR,ha.sub hE,hW w hw⟩
theorem MH {A:ak} (i:Nat) (hL:L[i]? = some A):L.set i A=L:=by
 rw [<-(List.getElem?_eq_some_iff.1 hL).2]; exact List.set_getElem_self (List.getElem?_eq_some_iff.1 hL).1
theorem WL.px {A A':ak} (i:Nat) (hL:L[i]? = some A) (hA:A=A') (h:WL P ops Q n ds l (Ws w0 F (L.set i A') Vs) rest):WL P ops Q n ds l (Ws w0 F L Vs) rest:=by
 subst hA; rwa [MH i hL] at h
theorem WC.px {A A':ak} (i:Nat) (hL:L[i]? = some A) (hA:A=A') (h:WC P c Q n ds l (Ws w0 F (L.set i A') Vs)):WC P c Q n ds l (Ws w0 F L Vs):=by
 subst hA; rwa [MH i hL] at h
theorem Ws.px {w:World} {A A':ak} (h:Ws w0 F L Vs w) (i:Nat) (hL:L[i]? = some A) (hA:A=A'):Ws w0 F (L.set i A') Vs w:=by
 subst hA; rwa [MH i hL]
theorem adk {α:Type} {f:α->List Value} {t e:TypeId} {x:Operand} {b o p k c:Nat} {a:Option Addr} {xs:List α} {y:α} {v:Value} {d:Option Tmp} {As:List ak} (i j q:Nat) (hx:aB l x=some (.pointer (some ⟨b,p,none⟩))) (hL:L[i]? = some (dF As)) (hA:bo e k f a c xs ∈ As) (ha:a=some ⟨b,o,none⟩)
   (hp:p=o+j*k+q) (hf:∀x,(f x).length=k) (hy:xs[j]? = some y) (hq:(f y)[q]? = some v) (ht:dI P t=true):Yl P l (Ws w0 F L Vs) ⟨d,.load t x,ty,pos,af,g⟩ v:=Ha ht hx λw hw=>by
 have hh:(bo e k f a c xs).holds w:=(hw.kn _ (du hL):(dF As).holds w) _ hA;obtain ⟨rfl,cur,hb,nt,im,hm⟩:=ME hh ha;refine cell_of_heap hb ?_
 have MG:q<k:=by have:=(List.getElem?_eq_some_iff.1 hq).1; rw [hf] at this; exact this
 have h6:(xs.flatMap f)[j*k+q]? = some v:=by rw [pk hf hy MG]; exact hq
 rw [<-nt,List.getElem?_take] at h6
 split at h6
 · subst hp; simpa [gJ] using h6
 · cases h6
theorem TI {α:Type} {f:α->List Value} {e:TypeId} {k c:Nat} {a:Option Addr} {xs:List α} {w:World} {As:List ak} (hw:Ws w0 F L Vs w) (i:Nat) (hL:L[i]? = some (dF As)) (hA:bo e k f a c xs ∈ As) (hm:0<xs.length):∃b o,a=some ⟨b,o,none⟩:=by
 obtain ⟨h1,h2⟩:=((hw.kn _ (du hL):(dF As).holds w) _ hA:w.ownsRow 0 e k _ xs.length (xs.flatMap f))
 rcases h2 with ⟨h3,h4⟩ | ⟨b,cap,cur,hv,_,_,mh,hc,_⟩
 · injection h3 with _ h5 _; omega
 · injection hv with h3 _ h4
   subst h3 h4;exact ⟨b,0,O⟩
theorem HJ {α:Type} {f:α->List Value} {e:TypeId} {k c:Nat} {a:Option Addr} {xs:List α} {w:World} (hw:Ws w0 F L Vs w) (i:Nat) (hL:L[i]? = some (bo e k f a c xs)) (hm:0<xs.length):∃b o,a=some ⟨b,o,none⟩:=by
 obtain ⟨⟨b,h⟩,_⟩:=MF hw i hL hm;exact ⟨b,0,h⟩
end
section
variable {P:Program} {l:List (Nat×Value)} {W:World->Prop} {d:Option Tmp} {ty:TypeId} {pos:String} {af:Array Edge} {g:Option (Nat×Bool)}
theorem adl {t u:TypeId} {x y:Operand} {k:IntKind} {a b:Int} (hx:aB l x=some (.int k a)) (hy:aB l y=some (.int k b)) (h:a<b):Yl P l W ⟨d,.binOp .lss t x y u,ty,pos,af,g⟩ (.bool true):=by
 have:=bq (P:=P) (W:=W) (d:=d) (ty:=ty) (pos:=pos) (af:=af) (g:=g) (t:=t) (u:=u) hx hy
 rwa [show decide (a<b)=true by simpa using h] at this
theorem adm {t u:TypeId} {x y:Operand} {k:IntKind} {a b:Int} (hx:aB l x=some (.int k a)) (hy:aB l y=some (.int k b)) (h:b<=a):Yl P l W ⟨d,.binOp .lss t x y u,ty,pos,af,g⟩ (.bool false):=by
 have:=bq (P:=P) (W:=W) (d:=d) (ty:=ty) (pos:=pos) (af:=af) (g:=g) (t:=t) (u:=u) hx hy
 rwa [show decide (a<b)=false by simp; omega] at this
end
section
variable {P:Program} {l:List (Nat×Value)} {W:World->Prop} {d:Option Tmp} {ty:TypeId} {pos:String} {af:Array Edge} {g:Option (Nat×Bool)}
def AH (v:Value) (b:Bool):Prop:=(b=true->v = .nilIface)/\(b=false->∃t x,v = .iface t x)
theorem adn {t u:TypeId} {x:Operand} {v:Value} (b:Bool) (ht:P.underlying t=some (.interface (P.methodsAt t))) (hx:aB l x=some v) (hb:AH v b):Yl P l W ⟨d,.binOp .eql t x (.const .nilIface) u,ty,pos,af,g⟩ (.bool b):=by
 intro ρ w aF _;have hy:ρ (.const .nilIface) = .nilIface:=aF _ _ rfl
 cases b with
 | true=>
   obtain rfl:=hb.1 rfl;simp only [execOp,aF x _ hx,hy,Sem.run_bind];simp [eqGuard_nil_constR,run_eql_nil_nil (h:=ht)]
 | false=>
   obtain ⟨s,y,rfl⟩:=hb.2 rfl
   have hg:(eqGuard .eql t x (.const .nilIface) (.iface s y) .nilIface)=pure ():=by cases x<;>rfl
   simp only [execOp,aF x _ hx,hy,Sem.run_bind,hg];simp [run_eql_held_nil (h:=ht)]
end
theorem WL.wk {P:Program} {ops:Array Oper} {Q:Exit->Act->World->Prop} {n:Nat} {ds:List Deferred} {l:List (Nat×Value)} {W W':World->Prop} {rest:List Oper} (hW:∀w,W w->W' w) (h:WL P ops Q n ds l W' rest):WL P ops Q n ds l W rest:=λa w ha hw=>h a w ha (hW w hw)
structure MI (P:Program) (gp gs gr:Nat) (H:View):Prop where
 pow:∃t f,H gp=some (.cells (Lib.pow10Tab.map λz=>Value.int .u64 z).toArray t f)
 syn:∃ev,vc H gs 0=some ev/\(ev = .nilIface\/∃te pe,ev = .iface te pe)
 rng:∃ev,vc H gr 0=some ev/\(ev = .nilIface\/∃te pe,ev = .iface te pe)
theorem MI.MJ {P:Program} {gp gs gr:Nat} {H:View} (h:MI P gp gs gr H) {w:World} (hl:Le H w) {nm:String} (hg:P.globalNamed nm=some gp):Lib.TabIs P w nm .u64 Lib.pow10Tab:=by
 obtain ⟨t,f,hp⟩:=h.pow;unfold Lib.TabIs World.var?;rw [hg];simp [hl _ _ hp]
theorem adq {P:Program} {W:World} {nm:String} {g:Nat} (ht:Lib.TabIs P W nm .u64 Lib.pow10Tab) (hg:P.globalNamed nm=some g):∃t f,hv W g=some (.cells (Lib.pow10Tab.map λz=>Value.int .u64 z).toArray t f):=by
 unfold Lib.TabIs World.var? at ht;rw [hg] at ht;simp only [Option.bind_some] at ht
 cases hb:W.heap[g]? with
 | none=>simp [hb] at ht
 | some o=>
   cases o with
   | cells cs t f=>
     simp only [hb,Option.some.injEq] at ht;subst ht;exact ⟨t,f,hb⟩
   | _=>simp [hb] at ht
theorem adr (w:World) (k:Nat) (os:Array Obj):Ext w (Go.Sort.grow (w.drewN k) os):=by
 refine ⟨O,O,O,by simp [Go.Sort.grow,World.drewN],λb hb _=>?_⟩;simp [Go.Sort.grow,World.drewN,Array.getElem?_append,hb]
structure qI {κ:Type} [BEq κ] [LawfulBEq κ] (kd:TypeDesc) (kv:κ->Value):Prop where
 same:∀a b,Instr.sameNow kd (kv a) (kv b)=some (a==b)
 isKey:∀a,MapKept.IsKey kd (kv a)
theorem lJ:qI (.int .i64) (λn:Int=>Value.int .i64 n):=⟨λa b=>by simp [Instr.sameNow],λa=>by simp [MapKept.IsKey]⟩
theorem jv:qI .string st:=⟨λa b=>by simp only [st,Instr.sameNow,Mp],λa=>by simp [MapKept.IsKey,st]⟩
section
variable {κ:Type} {kv:κ->Value}
abbrev cV (κ:Type):=κ×Value×Nat
def ny (kv:κ->Value) (e:cV κ):MapEntry:={ key:=kv e.1,val:=e.2.1,born:=e.2.2 }
def bn (kv:κ->Value) (m:List (cV κ)) (c:Nat):Obj:=.map (m.map (ny kv)).toArray c
theorem ads (m:List (cV κ)) (j:Nat) (k:κ) (v:Value):(m.map (ny kv)).modify j (λe=>{ e with key:=kv k,val:=v })=(m.modify j λe=>(k,v,e.2.2)).map (ny kv):=by
 apply List.ext_getElem?;intro i;simp only [List.getElem?_modify,List.getElem?_map]
 cases m[i]? with
 | none=>simp
 | some e=>by_cases h:j=i<;>simp [h,ny]
variable {P:Program} {ops:Array Oper} {Q:Exit->Act->World->Prop} {n:Nat} {ds:List Deferred} {l:List (Nat×Value)} {w0:World} {F:List Nat} {L:List ak} {Vs:List View} {rest:List Oper} {d:Nat} {ty:TypeId} {pos:String} {af:Array Edge} {g:Option (Nat×Bool)}
theorem WL.ss {t:TypeId} (kv:κ->Value) (hg:cB ops l g) (hn:Nat.blt d n=true)
   (h:∀b,WL P ops Q n ds ((d,.map (some b))::l) (Ws w0 F (ab b (bn kv [] 0)::L) Vs) rest) :
   WL P ops Q n ds l (Ws w0 F L Vs) (⟨some d,.makeMap t none,ty,pos,af,g⟩::rest):=
 WL.new (mk:=λb=>.map (some b)) (o:=bn kv [] 0) hg hn (λρ w _ _=>by
   simp only [execOp]
   simp [Instr.makeMap,bn]) h
end
section
variable {κ:Type} [BEq κ] [LawfulBEq κ] {kd:TypeDesc} {kv:κ->Value}
def bG (k:κ):List (cV κ)->Nat->Option (Nat×Value)
 | [],_=>none
 | e::r,i=>if (k==e.1)=true then some (i,e.2.1) else bG k r (i+1)
def dN (k:κ) (v:Value) (m:List (cV κ)) (c:Nat):List (cV κ):=match bG k m 0 with
 | some (i,_)=>m.modify i λe=>(k,v,e.2.2)
 | none=>m++[(k,v,c)]
def jc (k:κ) (m:List (cV κ)) (c:Nat):Nat:=match bG k m 0 with | some _=>c | none=>c+1
def dU (k:κ) (m:List (cV κ)) (z:Value):Value:=match bG k m 0 with | some (_,v)=>v | none=>z
def ow (k:κ) (m:List (cV κ)):Bool:=(bG k m 0).isSome
theorem MK (hk:qI kd kv) (k:κ):∀(m:List (cV κ)) (i:Nat),Instr.findNow kd (kv k) (m.map (ny kv)) i=some (bG k m i)
 | [],_=>rfl
 | e::r,i=>by
   simp only [List.map_cons,Instr.findNow,ny,hk.same,bG];cases h:(k==e.1)
   · simp only [Bool.false_eq_true,if_false]
     exact MK hk k r (i+1)
   · simp
theorem TJ (k:κ) (j:Nat) (v':Value):∀(m:List (cV κ)) (i0:Nat),bG k m i0=some (j,v')->i0<=j/\(m[j-i0]?).map (·.1)=some k
 | [],i0,h=>by simp [bG] at h
 | e::r,i0,h=>by
   simp only [bG] at h
   split at h
   · rename_i hk
     injection h with h; injection h with h1 h2
     subst h1;simp at hk;simp [hk]
   · obtain ⟨h1,h2⟩:=TJ k j v' r (i0+1) h
     refine ⟨by omega,?_⟩
     have:j-i0=(j-(i0+1))+1:=by omega
     rw [this]; simpa using h2
variable {P:Program} {ops:Array Oper} {Q:Exit->Act->World->Prop} {n:Nat} {ds:List Deferred} {l:List (Nat×Value)} {w0:World} {F:List Nat} {L:List ak} {Vs:List View} {rest:List Oper} {d:Nat} {ty:TypeId} {pos:String} {af:Array Edge} {g:Option (Nat×Bool)}
theorem HL {w:World} {t kt e:TypeId} {b c:Nat} {m:List (cV κ)} {k:κ} {z:Value} (cm:Bool) (eU:qI kd kv) (ht:P.underlying t=some (.map kt e)) (hk:P.underlying kt=some kd) (hz:zeroOf P e=some z) (hb:w.heap[b]? = some (bn kv m c)) :
   (Instr.lookup t (.map (some b)) (kv k) cm).run P w = .ok (if cm=true then .tuple #[dU k m z,.bool (ow k m)] else dU k m z) w:=by
 have hf:=MK eU k m 0;have hb:w.heap[b]? = some (.map (m.map (ny kv)).toArray c):=hb;have hc:(Instr.checkKey (m.map (ny kv)).toArray.isEmpty 10000 kt (kv k)).run P w = .ok () w:=MapKept.run_checkKey (k:=kv k) hk (eU.isKey k) _ 9999;simp only [Instr.lookup,Sem.run_bind,run_underlying ht,Result.andThen_ok,MapKept.run_getObj_map hb,Sem.run_pure,hc];rw [MapKept.run_findKey hk (by simpa using hf)];unfold dU ow
 cases hm:bG k m 0 with
 | none=>simp [Result.andThen_ok,xP hz]
 | some r=>obtain ⟨i,v⟩:=r; simp [Result.andThen_ok]
theorem AI {dd:Option Tmp} {t kt e:TypeId} {x y:Operand} {b c:Nat} {m:List (cV κ)} {k:κ} {z:Value} (i:Nat) (eU:qI kd kv) (ht:P.underlying t=some (.map kt e)) (hk:P.underlying kt=some kd) (hz:zeroOf P e=some z) (hx:aB l x=some (.map (some b))) (hy:aB l y=some (kv k)) (hL:L[i]? = some (ab b (bn kv m c))) :
   Yl P l (Ws w0 F L Vs) ⟨dd,.lookup t x y false,ty,pos,af,g⟩ (dU k m z):=by
 intro ρ w aF hw;simp [execOp,aF x _ hx,aF y _ hy,HL (P:=P) (k:=k) false eU ht hk hz (hw.kn _ (du hL):w.heap[b]? = some (bn kv m c))]
theorem ML {dd:Option Tmp} {t kt e:TypeId} {x y:Operand} {b c:Nat} {m:List (cV κ)} {k:κ} {z:Value} (i:Nat) (eU:qI kd kv) (ht:P.underlying t=some (.map kt e)) (hk:P.underlying kt=some kd) (hz:zeroOf P e=some z) (hx:aB l x=some (.map (some b))) (hy:aB l y=some (kv k)) (hL:L[i]? = some (ab b (bn kv m c))) :
   Yl P l (Ws w0 F L Vs) ⟨dd,.lookup t x y true,ty,pos,af,g⟩ (.tuple #[dU k m z,.bool (ow k m)]):=by
 intro ρ w aF hw;simp [execOp,aF x _ hx,aF y _ hy,HL (P:=P) (k:=k) true eU ht hk hz (hw.kn _ (du hL):w.heap[b]? = some (bn kv m c))]
theorem TK {w:World} {t kt e:TypeId} {b c:Nat} {m:List (cV κ)} {k:κ} {v:Value} (eU:qI kd kv) (ht:P.underlying t=some (.map kt e)) (hk:P.underlying kt=some kd) (xQ:w.heap[b]? = some (bn kv m c)) :
   (Instr.mapUpdate t (.map (some b)) (kv k) v).run P w = .ok () { w with heap:=w.heap.setIfInBounds b (bn kv (dN k v m c) (jc k m c)) }:=by
 have hb:w.heap[b]? = some (.map (m.map (ny kv)).toArray c):=xQ;have hf:=MK eU k m 0;have hc:(Instr.checkKey false 10000 kt (kv k)).run P w = .ok () w:=MapKept.run_checkKey (k:=kv k) hk (eU.isKey k) _ 9999;simp only [Instr.mapUpdate,Sem.run_bind,run_underlying ht,Result.andThen_ok,MapKept.run_getObj_map hb,Sem.run_pure,hc];rw [MapKept.run_findKey hk (by simpa using hf)];unfold dN jc
 cases hm:bG k m 0 with
 | none=>simp [Result.andThen_ok,MapKept.run_setObj_map _ hb,bn,ny]
 | some r=>
   obtain ⟨j,v'⟩:=r
   have xY:m[j]?.map (·.1)=some k:=by simpa using (TJ k j v' m 0 hm).2
   have gX:((((m.map (ny kv)).toArray)[j]?).map (·.key)).getD (kv k)=kv k:=by
     cases he:m[j]? with
     | none=>simp [he]
     | some e=>rw [he] at xY; simp at xY; simp [he,ny,xY]
   simp only [gX,Result.andThen_ok];simp only [Sem.run_bind,MapKept.run_keyThatStays (eU.isKey k),Result.andThen_ok,MapKept.run_setObj_map _ hb,bn]
   have C9:(m.map (ny kv)).toArray.modify j (λe=>{ e with key:=kv k,val:=v })=((m.modify j λe=>(k,v,e.2.2)).map (ny kv)).toArray:=by
     apply Array.ext';rw [Array.toList_modify];exact ads m j k v
   rw [C9]
theorem WL.vX {t kt e:TypeId} {x y u:Operand} {b c:Nat} {m:List (cV κ)} {k:κ} {v:Value} (i:Nat) (eU:qI kd kv) (hg:cB ops l g) (ht:P.underlying t=some (.map kt e)) (hk:P.underlying kt=some kd) (hx:aB l x=some (.map (some b))) (hy:aB l y=some (kv k)) (hu:aB l u=some v) (hL:L[i]? = some (ab b (bn kv m c)))
   (h:WL P ops Q n ds l (Ws w0 F (L.set i (ab b (bn kv (dN k v m c) (jc k m c)))) Vs) rest) :
   WL P ops Q n ds l (Ws w0 F L Vs) (⟨none,.mapUpdate t x y u,ty,pos,af,g⟩::rest):=by
 refine WL.step hg λa w ha hw K hK=>?_;have hb:w.heap[b]? = some (bn kv m c):=hw.kn _ (du hL)
 have qw:(execOp a.eval ⟨none,.mapUpdate t x y u,ty,pos,af,g⟩).run P w = .ok .skip { w with heap:=w.heap.setIfInBounds b (bn kv (dN k v m c) (jc k m c)) }:=by
   simp only [execOp,ha.eval hx,ha.eval hy,ha.eval hu,Sem.run_bind,TK eU ht hk hb,Result.andThen_ok,Sem.run_pure]
 simp only [Oper.wp,qw,Oper.upon_skip];refine hK _ _ (h _ _ (ha.CM undef) ?_);refine Ws.vN hw i hL ⟨O,O,O,by simp,λj hj dt=>?_⟩ ?_ (by simp [ab]) (by simp [ab])
 · have:b≠j:=λe=>dt (by simp [ab,e])
   simp [Array.getElem?_setIfInBounds_ne this]
 · show (w.heap.setIfInBounds b _)[b]? = _
   simp [lt_of_heap hb]
theorem WL.mu {t kt e:TypeId} {x y u:Operand} {b c:Nat} {m:List (cV κ)} {k:κ} {v:Value} (i:Nat) (eU:qI kd kv) (hg:cB ops l g) (ht:P.underlying t=some (.map kt e)) (hk:P.underlying kt=some kd) (hx:aB l x=some (.map (some b))) (hy:aB l y=some (kv k)) (hu:aB l u=some v) (hL:L[i]? = some (ab b (bn kv m c)))
   (h:WL P ops Q n ds l (Ws w0 F (L.set i (ab b (bn kv (dN k v m c) (jc k m c)))) Vs) rest) :
   WL P ops Q n ds l (Ws w0 F L Vs) (⟨none,.insert t x y u,ty,pos,af,g⟩::rest):=by
 refine WL.step hg λa w ha hw K hK=>?_;have hb:w.heap[b]? = some (bn kv m c):=hw.kn _ (du hL)
 have qw:(execOp a.eval ⟨none,.insert t x y u,ty,pos,af,g⟩).run P w = .ok .skip { w with heap:=w.heap.setIfInBounds b (bn kv (dN k v m c) (jc k m c)) }:=by
   simp only [execOp,ha.eval hx,ha.eval hy,ha.eval hu,Sem.run_bind,TK eU ht hk hb,Result.andThen_ok,Sem.run_pure]
 simp only [Oper.wp,qw,Oper.upon_skip];refine hK _ _ (h _ _ (ha.CM undef) ?_);refine Ws.vN hw i hL ⟨O,O,O,by simp,λj hj dt=>?_⟩ ?_ (by simp [ab]) (by simp [ab])
 · have:b≠j:=λe=>dt (by simp [ab,e])
   simp [Array.getElem?_setIfInBounds_ne this]
 · show (w.heap.setIfInBounds b _)[b]? = _
   simp [lt_of_heap hb]
end
def x2 (P:Program) (t:TypeId):Option (Nat×Nat):=match P.underlying t with | some (.array n e)=>(P.info? e).map λi=>(n,i.size) | _=>none
def HM (P:Program) (t:TypeId):Option Nat:=match P.underlying t with | some (.array n e)=>if dI P e=true/\(P.info? e).map (·.size)=some 1 then some n else none | _=>none
section
variable {P:Program} {l:List (Nat×Value)} {W:World->Prop} {d:Option Tmp} {ty:TypeId} {pos:String} {af:Array Edge} {g:Option (Nat×Bool)}
theorem x3 {t:TypeId} {x y:Operand} {b o n s:Nat} {k:IntKind} {i:Nat} (hs:x2 P t=some (n,s)) (hx:aB l x=some (.pointer (some ⟨b,o,none⟩))) (hy:aB l y=some (.int k (i:Int))) (h1:i<n) :
   Yl P l W ⟨d,.indexAddr t x y,ty,pos,af,g⟩ (.pointer (some ⟨b,o+i*s,none⟩)):=by
 intro ρ w aF _;unfold x2 at hs
 cases hu:P.underlying t with
 | none=>simp [hu] at hs
 | some dd=>
   cases dd<;>simp [hu] at hs
   rename_i m e;obtain ⟨inf,hi,h2,h3⟩:=hs;subst h2 h3
   have aw:(i:Int)<(m:Int):=by omega
   simp [execOp,aF x _ hx,aF y _ hy,Instr.indexAt,run_underlying hu,asIntOf,aw,h1,sizeOf,typeInfo,hi,qv,Instr.sureAddr]
theorem TL {t:TypeId} {x y:Operand} {n:Nat} {cs:Array Value} {k:IntKind} {i:Nat} {v:Value} (hs:HM P t=some n) (hx:aB l x=some (.agg cs)) (hy:aB l y=some (.int k (i:Int))) (h1:i<n) (hv:cs[i]? = some v) :
   Yl P l W ⟨d,.index t x y,ty,pos,af,g⟩ v:=by
 intro ρ w aF _;unfold HM at hs
 cases hu:P.underlying t with
 | none=>simp [hu] at hs
 | some dd=>
   cases dd<;>simp [hu] at hs
   rename_i m e;obtain ⟨⟨hna,inf,hi,ga⟩,rfl⟩:=hs
   have aw:(i:Int)<(m:Int):=by omega
   have ha:=G9 hna w
   have hp:(part e cs (i*inf.size)).run P w = .ok v w:=by
     simp [part,ha,ga,hv]
   simp [execOp,aF x _ hx,aF y _ hy,Instr.index,run_underlying hu,asIntOf,aw,h1,sizeOf,typeInfo,hi,hp]
end
end Go.Bw
end
section
namespace Go.Bw
open Go
structure Tok where
 kind:Int
 n:Int
 text:List UInt8
deriving DecidableEq
def Tok.cells (t:Tok):List Value:=[.int .i64 t.kind,.int .i64 t.n,st t.text]
theorem Tok.a8 (x:Tok):x.cells.length=3:=rfl
def aY (H:View) (b o:Nat) (x:Tok):Prop:=aT H b o x.cells
def su (u:Int):Bool:=decide (97<=u)&&decide (u<=122)
def HO (u:Int):Bool:=decide (48<=u)&&decide (u<=57)
def ox (u:UInt8):Bool:=su u.toNat||HO u.toNat
def dZ (s:List UInt8):Bool:=(decide (1<=s.length)&&decide (s.length<=8))&&su ((s[0]?.getD 0).toNat)&&s.all ox
def MM:List UInt8:=[123,125,40,41,91,93,44,59,61,46,43,45,42,47,37,60,33,38,124]
def ug (u:UInt8):Bool:=MM.contains u
def ir:List UInt8->Nat
 | []=>0
 | c::r=>if ox c=true then ir r+1 else 0
def x4 (s:List UInt8):Option Nat:=match Lib.decNat s with
 | some n=>if n<=1099511627775/\Lib.decDigits n=s then some n else none
 | none=>none
def vY (s:List UInt8):Option Tok:=if dZ s=true then some ⟨1,0,s⟩ else (x4 s).map (λn:Nat=>(⟨2,(n:Int),[]⟩:Tok))
def lK:Nat->List UInt8->Option (List Tok)
 | _,[]=>some []
 | 0,_::_=>none
 | f+1,c::r=>
   if 0<ir (c::r) then
     match vY ((c::r).take (ir (c::r))) with
     | some t=>(lK f ((c::r).drop (ir (c::r)))).map (t::·)
     | none=>none
   else if ug c=true then (lK f r).map (⟨3,0,[c]⟩::·)
   else if c=32\/c=10 then lK f r
   else none
def jR (s:List UInt8):Option (List Tok):=lK s.length s
def dO (s:List UInt8):List Tok×Int:=if 4096<s.length then ([],2) else match jR s with
 | some l=>(l,0)
 | none=>([],1)
def x5 (t:Tok):Bool:=decide (1<=t.kind)&&decide (t.kind<=3)
def oy (t:Tok):Bool:=if t.kind=1 then t.n==0&&dZ t.text else if t.kind=2 then t.text==[]&&(decide (0<=t.n)&&decide (t.n<=1099511627775)) else t.n==0&&(t.text.length==1&&ug (t.text[0]?.getD 0))
def HP (t:Tok):Bool:=!x5 t
def HQ (t:Tok):Bool:=!oy t
def Dh (l:List Tok):Int:=if l.any HP=true then 4 else if l.any HQ=true then 1 else if 4096<l.length then 2 else 0
def uh (t:Tok):List UInt8:=if t.kind=2 then Lib.itoa t.n else t.text
theorem TM:∀(s:List UInt8) (n:Nat),n<=s.length->(∀j,j<n->ox (s[j]?.getD 0)=true)->(n=s.length\/ox (s[n]?.getD 0)=false)->ir s=n
 | [],n,h,_,_=>by simp at h; subst h; rfl
 | c::r,0,_,_,h=>by
   have:ox c=false:=by
     rcases h with h | h
     · simp at h
     · simpa using h
   simp [ir,this]
 | c::r,n+1,hn,ha,h=>by
   have h0:ox c=true:=by simpa using ha 0 (by omega)
   rw [ir,if_pos h0,TM r n (by simpa using hn) (λj hj=>by simpa using ha (j+1) (by omega)) (by rcases h with h | h; left; simpa using h; right; simpa using h)]
theorem MN:∀(f g:Nat) (s:List UInt8),s.length<=f->s.length<=g->lK f s=lK g s
 | _,_,[],_,_=>by simp [lK]
 | 0,_,_::_,h,_=>by simp at h
 | _+1,0,_::_,_,h=>by simp at h
 | f+1,g+1,c::r,hf,hg=>by
   simp only [List.length_cons] at hf hg;unfold lK;rw [MN f g r (by omega) (by omega)]
   by_cases h0:0<ir (c::r)
   · rw [MN f g ((c::r).drop (ir (c::r))) (by simp; omega) (by simp; omega)]
   · simp only [if_neg h0]
theorem TN:jR []=some []:=rfl
theorem MO {s:List UInt8} (h:0<ir s):jR s=match vY (s.take (ir s)) with
   | some t=>(jR (s.drop (ir s))).map (t::·)
   | none=>none:=by
 cases s with
 | nil=>simp [ir] at h
 | cons c r=>
   show lK (r.length+1) (c::r)=_
   rw [lK,if_pos h];unfold jR;rw [MN r.length ((c::r).drop (ir (c::r))).length _ (by simp; omega) (Nat.le_refl _)]
theorem TO {c:UInt8} {r:List UInt8} (h:ir (c::r)=0) (hs:ug c=true):jR (c::r)=(jR r).map (⟨3,0,[c]⟩::·):=by
 show lK (r.length+1) (c::r)=_
 rw [lK,if_neg (by omega),if_pos hs]
 rfl
theorem TP {c:UInt8} {r:List UInt8} (h:ir (c::r)=0) (hs:ug c=false) (hb:c=32\/c=10):jR (c::r)=jR r:=by
 show lK (r.length+1) (c::r)=_
 rw [lK,if_neg (by omega),if_neg (by simp [hs]),if_pos hb]
 rfl
theorem TQ {c:UInt8} {r:List UInt8} (h:ir (c::r)=0) (hs:ug c=false) (hb:¬(c=32\/c=10)):jR (c::r)=none:=by
 show lK (r.length+1) (c::r)=_
 rw [lK,if_neg (by omega),if_neg (by simp [hs]),if_neg hb]
theorem MP (d:Nat) (hd:d<10):∀(l:List UInt8) (acc n:Nat),Lib.decFrom acc l=some n->Lib.decFrom acc (l++[UInt8.ofNat (48+d)])=some (n*10+d)
 | [],acc,n,h=>by
   simp only [Lib.decFrom,Option.some.injEq] at h;subst h
   have e:(UInt8.ofNat (48+d)).toNat=48+d:=by simp [UInt8.toNat_ofNat']; omega
   have:Lib.digitVal (UInt8.ofNat (48+d))=some d:=by
     unfold Lib.digitVal;rw [e,if_pos (by omega)];simp
   simp only [List.nil_append,Lib.decFrom,this]
 | b::r,acc,n,h=>by
   simp only [Lib.decFrom,List.cons_append] at h ⊢
   cases hb:Lib.digitVal b with
   | none=>simp [hb] at h
   | some e=>
     simp only [hb] at h ⊢;exact MP d hd r _ n h
theorem TR (n:Nat):Lib.decDigits n≠[]:=by
 rw [Lib.decDigits]
 split<;>simp
theorem adu (n:Nat):Lib.decFrom 0 (Lib.decDigits n)=some n:=by
 induction n using Nat.strongRecOn with
 | _ n ih=>
   rw [Lib.decDigits]
   split
   · rename_i h
     have:=MP n h [] 0 0 rfl
     simpa using this
   · rename_i h
     rw [MP (n % 10) (by omega) _ _ _ (ih (n / 10) (by omega))]
     congr 1
     omega
theorem TS (n:Nat):Lib.decNat (Lib.decDigits n)=some n:=by
 unfold Lib.decNat;rw [if_neg (by simpa using TR n),adu]
theorem adv (n:Nat):∀x ∈ Lib.decDigits n,48<=x.toNat/\x.toNat<=57:=by
 induction n using Nat.strongRecOn with
 | _ n ih=>
   rw [Lib.decDigits]
   have e:∀d,d<10->(UInt8.ofNat (48+d)).toNat=48+d:=λd hd=>by simp [UInt8.toNat_ofNat']; omega
   split
   · rename_i h
     intro x hx;simp only [List.mem_singleton] at hx;subst hx;rw [e n h]; omega
   · intro x hx
     rw [List.mem_append,List.mem_singleton] at hx
     rcases hx with hx | hx
     · exact ih (n / 10) (by omega) x hx
     · subst hx
       rw [e _ (by omega)]; omega
theorem TT:∀(k n:Nat),n<10 ^ (k+1)->(Lib.decDigits n).length<=k+1
 | 0,n,h=>by
   rw [Lib.decDigits,dif_pos (by simpa using h)];simp
 | k+1,n,h=>by
   rw [Lib.decDigits]
   split
   · simp
   · rw [Nat.pow_succ] at h
     have:=TT k (n / 10) (by omega);simp; omega
theorem adw (n:Nat):Lib.itoa (n:Int)=Lib.decDigits n:=by
 unfold Lib.itoa;rw [if_neg (by omega)];simp
theorem TU {n:Int} (h:0<=n):Lib.itoa n=Lib.decDigits n.toNat:=by
 unfold Lib.itoa;rw [if_neg (by omega)]
theorem adx {n:Nat} (h:n<=1099511627775):(Lib.decDigits n).length<=13:=TT 12 n (by omega)
theorem TV {s:List UInt8} {n:Nat} (h:x4 s=some n):n<=1099511627775/\Lib.decDigits n=s:=by
 unfold x4 at h
 split at h
 · split at h
   · injection h with h
     subst h; assumption
   · cases h
 · cases h
theorem ady {n:Nat} (h:n<=1099511627775):x4 (Lib.decDigits n)=some n:=by
 unfold x4;rw [TS];simp [h]
def mw (s:List UInt8):Tok×Bool:=if dZ s=true then (⟨1,0,s⟩,true) else match Lib.atoiAll s with
 | .ok v=>(⟨2,v,[]⟩,((decide (0<=v)&&decide (v<=1099511627775))&&(Lib.itoa v==s)))
 | .range=>(⟨2,Lib.atoiSat s,[]⟩,false)
 | _=>(⟨2,0,[]⟩,false)
theorem TW {n:Nat} (h:n<=1099511627775):Lib.atoiAll (Lib.decDigits n) = .ok (n:Int):=by
 have hl:=adx h;rw [Lib.atoiAll_short _ (by omega)];have dt:=TR n;have cg:=adv n;have hd:=TS n
 cases hs:Lib.decDigits n with
 | nil=>exact absurd hs dt
 | cons b r=>
   rw [hs] at cg hd;have hb:=cg b (by simp)
   have h45:(b==45)=false:=by
     rw [beq_eq_false_iff_ne];intro e; subst e; revert hb; decide
   have h43:(b==43)=false:=by
     rw [beq_eq_false_iff_ne];intro e; subst e; revert hb; decide
   simp [Lib.atoi,h45,h43,hd,Lib.NumEnd.ofOption]
theorem TX (s:List UInt8):vY s=if (mw s).2=true then some (mw s).1 else none:=by
 unfold vY mw
 by_cases hn:dZ s=true
 · simp [hn]
 · simp only [if_neg hn]
   cases h:x4 s with
   | some n=>
     obtain ⟨h1,h2⟩:=TV h;subst h2;rw [TW h1]
     have:((n:Int)<=1099511627775):=by omega
     simp [adw,this]
   | none=>
     cases ha:Lib.atoiAll s with
     | ok v=>
       simp only
       by_cases hv:((decide (0<=v)&&decide (v<=1099511627775))&&(Lib.itoa v==s))=true
       · simp only [Bool.and_eq_true,decide_eq_true_eq,beq_iff_eq] at hv
         obtain ⟨⟨h1,h2⟩,h3⟩:=hv
         have:x4 s=some v.toNat:=by
           rw [<-h3,TU h1];exact ady (by omega)
         rw [h] at this; cases this
       · rw [if_neg hv]; rfl
     | range=>rfl
     | _=>rfl
theorem adB {s:List UInt8} {t:Tok} (h:vY s=some t):x5 t=true/\oy t=true:=by
 unfold vY at h
 split at h
 · rename_i hn
   injection h with h
   subst h;exact ⟨O,by simp [oy,hn]⟩
 · obtain ⟨n,hn,rfl⟩:=Option.map_eq_some_iff.1 h
   have:=(TV hn).1;exact ⟨O,by simp [oy]; omega⟩
theorem HR:∀(k:Nat) (s:List UInt8) (l:List Tok),s.length<=k->jR s=some l->(∀t ∈ l,x5 t=true/\oy t=true)/\l.length<=s.length
 | _,[],l,_,h=>by
   rw [TN] at h
   injection h with h
   subst h; simp
 | 0,_::_,_,h,_=>by simp at h
 | k+1,c::r,l,hk,h=>by
   simp only [List.length_cons] at hk
   by_cases h0:0<ir (c::r)
   · rw [MO h0] at h
     cases hw:vY ((c::r).take (ir (c::r))) with
     | none=>simp [hw] at h
     | some t=>
       simp only [hw] at h;obtain ⟨l',x6,rfl⟩:=Option.map_eq_some_iff.1 h;obtain ⟨h1,h2⟩:=HR k ((c::r).drop (ir (c::r))) l' (by simp; omega) x6;refine ⟨λx hx=>?_,?_⟩
       · rcases List.mem_cons.1 hx with rfl | hx
         · exact adB hw
         · exact h1 x hx
       · simp at h2 ⊢; omega
   · have MQ:ir (c::r)=0:=by omega
     cases hs:ug c with
     | true=>
       rw [TO MQ hs] at h;obtain ⟨l',x6,rfl⟩:=Option.map_eq_some_iff.1 h;obtain ⟨h1,h2⟩:=HR k r l' (by omega) x6;refine ⟨λx hx=>?_,by simpa using h2⟩
       rcases List.mem_cons.1 hx with rfl | hx
       · exact ⟨O,by simp [oy,hs]⟩
       · exact h1 x hx
     | false=>
       by_cases hb:c=32\/c=10
       · rw [TP MQ hs hb] at h
         obtain ⟨h1,h2⟩:=HR k r l (by omega) h;exact ⟨h1,by simp; omega⟩
       · rw [TQ MQ hs hb] at h; cases h
theorem any_none {α:Type} {p:α->Bool} {l:List α} (h:∀t ∈ l,p t=false):l.any p=false:=by
 rw [List.any_eq_false];intro x hx;simp [h x hx]
theorem adC {l:List Tok} (h:∀t ∈ l,x5 t=true/\oy t=true) (hl:l.length<=4096):Dh l=0:=by
 unfold Dh;rw [any_none (p:=HP) λt ht=>by simp [HP,(h t ht).1],any_none (p:=HQ) λt ht=>by simp [HQ,(h t ht).2]];simp; omega
theorem TY {l:List Tok} (h:Dh l=0):(∀t ∈ l,x5 t=true/\oy t=true)/\l.length<=4096:=by
 unfold Dh at h
 split at h
 · cases h
 · rename_i h1
   split at h
   · cases h
   · rename_i h2
     split at h
     · cases h
     · rename_i h3
       simp only [List.any_eq_true,not_exists,not_and] at h1 h2;refine ⟨λt ht=>⟨?_,?_⟩,by omega⟩
       · have:=h1 t ht; simpa [HP] using this
       · have:=h2 t ht; simpa [HQ] using this
theorem TZ {s:List UInt8} (h:(dO s).2=0):Dh (dO s).1=0:=by
 unfold dO at h ⊢
 split
 · simp_all
 · rename_i h1
   cases ho:jR s with
   | none=>simp [h1,ho] at h
   | some l=>
     obtain ⟨h2,h3⟩:=HR _ s l (Nat.le_refl _) ho;exact adC h2 (show l.length<=4096 by omega)
end Go.Bw
end
section
namespace Go.Bw
open Go
inductive ax where
 | mk (op n:Int) (mod nm:List UInt8) (args:List ax)
inductive aP where
 | mk (op:Int) (mod nm:List UInt8) (args:List ax) (body other:List aP)
def ax.op:ax->Int | .mk o _ _ _ _=>o
def ax.n:ax->Int | .mk _ n _ _ _=>n
def ax.mod:ax->List UInt8 | .mk _ _ m _ _=>m
def ax.nm:ax->List UInt8 | .mk _ _ _ s _=>s
def ax.args:ax->List ax | .mk _ _ _ _ a=>a
def aP.op:aP->Int | .mk o _ _ _ _ _=>o
def aP.mod:aP->List UInt8 | .mk _ m _ _ _ _=>m
def aP.nm:aP->List UInt8 | .mk _ _ s _ _ _=>s
def aP.args:aP->List ax | .mk _ _ _ a _ _=>a
def aP.body:aP->List aP | .mk _ _ _ _ b _=>b
def aP.other:aP->List aP | .mk _ _ _ _ _ o=>o
structure bI where
 kind:Int
 nm:List UInt8
 aR:Bool
 n:Int
deriving DecidableEq
structure dC where
 nm:List UInt8
 aR:Bool
 params:List (List UInt8)
 av:List (List UInt8)
 body:List aP
structure bc where
 nm:List UInt8
 ae:List (List UInt8)
 decls:List bI
 procs:List dC
 main:List aP
structure aA where
 f:Nat
 m:Nat
 k:Nat
deriving DecidableEq
instance:Add aA:=⟨λa b=>⟨a.f+b.f,a.m+b.m,a.k+b.k⟩⟩
def aA.bf (c:aA):Nat:=c.f+c.m+c.k
def c0:aA:=⟨0,0,0⟩
theorem aA.x7 (a b:aA):(a+b).f=a.f+b.f:=rfl
theorem aA.x8 (a b:aA):(a+b).m=a.m+b.m:=rfl
theorem aA.x9 (a b:aA):(a+b).k=a.k+b.k:=rfl
theorem aA.ext' {a b:aA} (h1:a.f=b.f) (h2:a.m=b.m) (h3:a.k=b.k):a=b:=by
 cases a; cases b; simp_all
theorem aA.gf (a b c:aA):a+b+c=a+(b+c):=aA.ext' (Nat.add_assoc _ _ _) (Nat.add_assoc _ _ _) (Nat.add_assoc _ _ _)
theorem aA.cJ (a b:aA):(a+b).bf=a.bf+b.bf:=by
 simp only [aA.bf,aA.x7,aA.x8,aA.x9]; omega
def MR (b:Bool):Nat:=if b=true then 1 else 0
def cj (b:Bool):aA:=⟨MR b,0,0⟩
def bg (b:Bool):aA:=⟨0,MR b,0⟩
def cA (b:Bool):aA:=⟨0,0,MR b⟩
def vZ:List (List UInt8):=[[109,111,100,117,108,101],[117,115,101],[112,117,98],[99,111,110,115,116],[118,97,114],[97,114,114,97,121],[112,114,111,99],[108,111,99,97,108],[109,97,105,110],[105,102],[101,108,115,101],[119,104,105,108,101],[114,101,116,117,114,110],[111,117,116],[105,110]]
def gw (s:List UInt8):Bool:=dZ s&&!(vZ.contains s)
def dy (op:Int):Option (Bool×Int):=if op=1\/op=2 then some (false,0) else if op=3 then some (true,0) else if op=4 then some (true,1) else if op=5 then some (true,-1) else if op=6 then some (false,1) else if 7<=op/\op<=15 then some (false,2) else none
def bB (op:Int):Option (Bool×Int):=if op=1 then some (true,1) else if op=2 then some (true,2) else if op=3 then some (true,-1) else if 4<=op/\op<=7 then some (false,1) else none
def py (r:Bool) (mod nm:List UInt8):Bool:=(r&&((!(mod==[])&&!gw mod)||!gw nm))||(!r&&!(mod++nm==[]))
def sv (a:Int) (len:Nat):Bool:=decide (0<=a)&&!((len:Int)==a)
def cK (s:Bool×Int) (mod nm:List UInt8) (len:Nat):aA:=cj (py s.1 mod nm)+cj (sv s.2 len)+bg (decide (3<len))
def k7 (op n:Int):Bool:=((op==1)&&(decide (n<0)||decide (1099511627775<n)))||(!(op==1)&&!(n==0))
mutual
def iI:ax->Nat->aA
 | .mk op n mod nm args,d=>if 6<d then ⟨0,1,0⟩ else cA (dy op).isNone+cK ((dy op).getD (false,0)) mod nm args.length+cj (k7 op n)+bW args (d+1)
def bW:List ax->Nat->aA
 | [],_=>c0
 | x::r,d=>iI x d+bW r d
end
def inner (op:Int):Bool:=(op==4)||(op==5)
def gN (op:Int) (b o:Nat):Bool:=(!inner op&&decide (0<b))||(!(op==4)&&decide (0<o))
def qJ (d len:Nat) (c:aA):aA:=if 6<d then ⟨0,1,0⟩ else bg (decide (10<len))+c
mutual
def ui:aP->Nat->aA
 | .mk op mod nm args body other,d=>cA (bB op).isNone+cK ((bB op).getD (false,0)) mod nm args.length+bW args 1+cj (gN op body.length other.length)
     + (if (inner op||decide (0<body.length))=true then qJ (d+1) body.length (bM body (d+1)) else c0)+(if 0<other.length then qJ (d+1) other.length (bM other (d+1)) else c0)
def bM:List aP->Nat->aA
 | [],_=>c0
 | x::r,d=>ui x d+bM r d
end
def cZ (l:List aP) (d:Nat):aA:=qJ d l.length (bM l d)
def aC:List (List UInt8)->aA
 | []=>c0
 | s::r=>cj (!gw s)+aC r
def gO (d:bI):aA:=aC [d.nm]+(if d.kind=1 then cj (decide (d.n<0)||decide (1099511627775<d.n)) else if d.kind=2 then cj (!(d.n==0)) else if d.kind=3 then cj (decide (d.n<1)||decide (32<d.n)) else cA true)
def cO:List bI->aA
 | []=>c0
 | d::r=>gO d+cO r
def qK (p:dC):aA:=aC [p.nm]+aC p.params+aC p.av+bg (decide (3<p.params.length)||decide (4<p.av.length))+cZ p.body 1
def dz:List dC->aA
 | []=>c0
 | p::r=>qK p+dz r
def v7 (m:bc):aA:=aC [m.nm]+aC m.ae+bg ((decide (3<m.ae.length)||decide (10<m.decls.length))||decide (6<m.procs.length))+cO m.decls+dz m.procs+cZ m.main 1
def uj (c:aA):Int:=if 0<c.k then 4 else if 0<c.m then 2 else if 0<c.f then 1 else 0
def jw (m:bc):Int:=uj (v7 m)
def gP (n low high:Int):Bool:=decide (low<=n)&&decide (n<=high)
def adD (op:Int):Int:=if op=1\/op=2\/op=3 then 0 else if op=4\/op=6 then 1 else if op=5 then -1 else 2
def T0 (op:Int):Int:=if op=2 then 2 else if op=3 then -1 else 1
end Go.Bw
end
section
namespace Go.Bw
open Go
def d_ (s:List UInt8):List Value:=[st s]
def rdStr (H:View) (b o:Nat) (s:List UInt8):Prop:=aT H b o (d_ s)
theorem oz (s:List UInt8):(d_ s).length=1:=rfl
theorem AJ {H H':View} (h:aL H H') (b o:Nat) (x:List UInt8) (r:rdStr H b o x):rdStr H' b o x:=aT.mono h r
def bI.cells (d:bI):List Value:=[.int .i64 d.kind,st d.nm,.bool d.aR,.int .i64 d.n]
theorem bI.a8 (d:bI):d.cells.length=4:=rfl
def x' (H:View) (b o:Nat) (d:bI):Prop:=aT H b o d.cells
theorem adE {H H':View} (h:aL H H') (b o:Nat) (x:bI) (r:x' H b o x):x' H' b o x:=aT.mono h r
def x_ (e:ax) (a:Option Addr) (c:Nat):List Value:=[.int .i64 e.op,.int .i64 e.n,st e.mod,st e.nm,.slice a e.args.length c]
def eG:Nat->View->Nat->Nat->ax->Prop
 | 0=>λ_ _ _ _=>False
 | k+1=>λH b o e=>∃a c,aT H b o (x_ e a c)/\Sl (eG k) 5 H a c e.args
def yb (s:aP) (a:Option Addr) (c:Nat) (a2:Option Addr) (c2:Nat) (a3:Option Addr) (c3:Nat):List Value:=[.int .i64 s.op,st s.mod,st s.nm,.slice a s.args.length c,.slice a2 s.body.length c2,.slice a3 s.other.length c3]
def gY (ke:Nat):Nat->View->Nat->Nat->aP->Prop
 | 0=>λ_ _ _ _=>False
 | k+1=>λH b o s=>∃a c a2 c2 a3 c3,aT H b o (yb s a c a2 c2 a3 c3)/\Sl (eG ke) 5 H a c s.args/\Sl (gY ke k) 6 H a2 c2 s.body/\Sl (gY ke k) 6 H a3 c3 s.other
def MS (p:dC) (a1:Option Addr) (c1:Nat) (a2:Option Addr) (c2:Nat) (a3:Option Addr) (c3:Nat):List Value:=[st p.nm,.bool p.aR,.slice a1 p.params.length c1,.slice a2 p.av.length c2,.slice a3 p.body.length c3]
def HW (ke ks:Nat) (H:View) (b o:Nat) (p:dC):Prop:=∃a1 c1 a2 c2 a3 c3,aT H b o (MS p a1 c1 a2 c2 a3 c3)/\Sl rdStr 1 H a1 c1 p.params/\Sl rdStr 1 H a2 c2 p.av/\Sl (gY ke ks) 6 H a3 c3 p.body
structure lL where
 a1:Option Addr
 c1:Nat
 a2:Option Addr
 c2:Nat
 a3:Option Addr
 c3:Nat
 a4:Option Addr
 c4:Nat
def gg (m:bc) (r:lL):List Value:=[st m.nm,.slice r.a1 m.ae.length r.c1,.slice r.a2 m.decls.length r.c2,.slice r.a3 m.procs.length r.c3,.slice r.a4 m.main.length r.c4]
structure nz (ke ks:Nat) (H:View) (r:lL) (m:bc):Prop where
 ae:Sl rdStr 1 H r.a1 r.c1 m.ae
 decls:Sl x' 4 H r.a2 r.c2 m.decls
 procs:Sl (HW ke ks) 5 H r.a3 r.c3 m.procs
 main:Sl (gY ke ks) 6 H r.a4 r.c4 m.main
theorem Sl.imp {α:Type} {rd T1:View->Nat->Nat->α->Prop} {k:Nat} {H H':View} {a:Option Addr} {c:Nat} {l:List α} (hm:∀b o x,rd H b o x->T1 H' b o x) (h:Sl rd k H a c l):Sl T1 k H' a c l:=
 ⟨h.cap,h.max,h.spot,λi x hx=>by obtain ⟨b,o,h1,h2⟩:=h.aZ i x hx; exact ⟨b,o,h1,hm _ _ _ h2⟩⟩
theorem AK {H H':View} (hH:aL H H'):∀{k k':Nat},k<=k'->∀(b o:Nat) (e:ax),eG k H b o e->eG k' H' b o e
 | 0,_,_,_,_,_,h=>h.elim
 | k+1,0,hk,_,_,_,_=>absurd hk (by omega)
 | k+1,k'+1,hk,b,o,e,h=>by
   obtain ⟨a,c,h1,h2⟩:=h;exact ⟨a,c,aT.mono hH h1,h2.imp λb o x hx=>AK hH (by omega) b o x hx⟩
theorem Di {H H':View} (hH:aL H H') {ke my:Nat} (qL:ke<=my):∀{k k':Nat},k<=k'->∀(b o:Nat) (e:aP),gY ke k H b o e->gY my k' H' b o e
 | 0,_,_,_,_,_,h=>h.elim
 | k+1,0,hk,_,_,_,_=>absurd hk (by omega)
 | k+1,k'+1,hk,b,o,e,h=>by
   obtain ⟨a,c,a2,c2,a3,c3,h1,h2,h3,h4⟩:=h;exact ⟨a,c,a2,c2,a3,c3,aT.mono hH h1,h2.imp λb o x hx=>AK hH qL b o x hx,h3.imp λb o x hx=>Di hH qL (by omega) b o x hx,h4.imp λb o x hx=>Di hH qL (by omega) b o x hx⟩
theorem adF {H H':View} (hH:aL H H') {ke my ks v8:Nat} (qL:ke<=my) (MT:ks<=v8) (b o:Nat) (p:dC) (h:HW ke ks H b o p):HW my v8 H' b o p:=by
 obtain ⟨a1,c1,a2,c2,a3,c3,h1,h2,h3,h4⟩:=h;exact ⟨a1,c1,a2,c2,a3,c3,aT.mono hH h1,h2.imp λb o x hx=>AJ hH b o x hx,h3.imp λb o x hx=>AJ hH b o x hx,h4.imp λb o x hx=>Di hH qL MT b o x hx⟩
mutual
def wE:ax->Nat
 | .mk _ _ mod nm args=>1+mod.length+nm.length+dG args
def dG:List ax->Nat
 | []=>0
 | x::r=>wE x+dG r
end
mutual
def wS:aP->Nat
 | .mk _ mod nm args body other=>1+mod.length+nm.length+dG args+cP body+cP other
def cP:List aP->Nat
 | []=>0
 | x::r=>wS x+cP r
end
def wN:List (List UInt8)->Nat
 | []=>0
 | s::r=>1+s.length+wN r
def wD:List bI->Nat
 | []=>0
 | d::r=>1+d.nm.length+wD r
def wP:List dC->Nat
 | []=>0
 | p::r=>1+p.nm.length+wN p.params+wN p.av+cP p.body+wP r
def wM (m:bc):Nat:=1+m.nm.length+wN m.ae+wD m.decls+wP m.procs+cP m.main
theorem adG:∀x:ax,1<=wE x | .mk _ _ _ _ _=>by unfold wE; omega
theorem adH:∀x:aP,1<=wS x | .mk _ _ _ _ _ _=>by unfold wS; omega
theorem T2 (x:ax):wE x=1+x.mod.length+x.nm.length+dG x.args:=by cases x; rfl
theorem T3 (x:aP):wS x=1+x.mod.length+x.nm.length+dG x.args+cP x.body+cP x.other:=by cases x; rfl
theorem T4 {i:Nat} {x:ax}:∀{l:List ax},l[i]? = some x->wE x<=dG l
 | [],h=>by simp at h
 | y::r,h=>by
   unfold dG
   cases i with
   | zero=>simp at h; subst h; omega
   | succ i=>have:=T4 (i:=i) (l:=r) (by simpa using h); omega
theorem T5 {i:Nat} {x:aP}:∀{l:List aP},l[i]? = some x->wS x<=cP l
 | [],h=>by simp at h
 | y::r,h=>by
   unfold cP
   cases i with
   | zero=>simp at h; subst h; omega
   | succ i=>have:=T5 (i:=i) (l:=r) (by simpa using h); omega
theorem T6:∀l:List ax,l.length<=dG l
 | []=>Nat.le_refl _
 | x::r=>by have:=T6 r; have:=adG x; unfold dG; simp; omega
theorem T7:∀l:List aP,l.length<=cP l
 | []=>Nat.le_refl _
 | x::r=>by have:=T7 r; have:=adH x; unfold cP; simp; omega
theorem Dj:∀l:List (List UInt8),l.length<=wN l
 | []=>Nat.le_refl _
 | x::r=>by have:=Dj r; unfold wN; simp; omega
theorem lM (b:Bool):(cj b).bf<=1:=by cases b<;>decide
theorem AL (b:Bool):(bg b).bf<=1:=by cases b<;>decide
theorem Dk (b:Bool):(cA b).bf<=1:=by cases b<;>decide
theorem HX (s:Bool×Int) (mod nm:List UInt8) (len:Nat):(cK s mod nm len).bf<=3:=by
 unfold cK;rw [aA.cJ,aA.cJ];have:=lM (py s.1 mod nm); have:=lM (sv s.2 len); have:=AL (decide (3<len));omega
theorem T8:c0.bf=0:=rfl
mutual
theorem adI:∀(x:ax) (d:Nat),(iI x d).bf<=8*wE x
 | .mk op n mod nm args,d=>by
   unfold iI wE
   split
   · show 0+1+0<=_
     omega
   · rw [aA.cJ,aA.cJ,aA.cJ]
     have:=AM args (d+1); have:=Dk (dy op).isNone; have:=HX ((dy op).getD (false,0)) mod nm args.length; have:=lM (k7 op n);omega
theorem AM:∀(l:List ax) (d:Nat),(bW l d).bf<=8*dG l
 | [],_=>Nat.le_refl _
 | x::r,d=>by
   have:=adI x d; have:=AM r d;unfold bW dG;rw [aA.cJ];omega
end
theorem MU (d len:Nat) (c:aA):(qJ d len c).bf<=1+c.bf:=by
 unfold qJ
 split
 · show 0+1+0<=_
   omega
 · rw [aA.cJ]
   have:=AL (decide (10<len));omega
theorem T9 (b:Prop) [Decidable b] (c:aA):(if b then c else c0).bf<=c.bf:=by
 split
 · exact Nat.le_refl _
 · exact Nat.zero_le _
mutual
theorem adJ:∀(x:aP) (d:Nat),(ui x d).bf<=8*wS x
 | .mk op mod nm args body other,d=>by
   unfold ui wS;rw [aA.cJ,aA.cJ,aA.cJ,aA.cJ,aA.cJ];have h1:=AM args 1; have h2:=Dk (bB op).isNone; have h3:=HX ((bB op).getD (false,0)) mod nm args.length; have h4:=lM (gN op body.length other.length);have h5:=T9 ((inner op||decide (0<body.length))=true) (qJ (d+1) body.length (bM body (d+1)));have h6:=T9 (0<other.length) (qJ (d+1) other.length (bM other (d+1)));have h7:=MU (d+1) body.length (bM body (d+1)); have h8:=MU (d+1) other.length (bM other (d+1));have h9:=Dl body (d+1); have eH:=Dl other (d+1);omega
theorem Dl:∀(l:List aP) (d:Nat),(bM l d).bf<=8*cP l
 | [],_=>Nat.le_refl _
 | x::r,d=>by
   have:=adJ x d; have:=Dl r d;unfold bM cP;rw [aA.cJ];omega
end
theorem AN:∀l:List (List UInt8),(aC l).bf<=wN l
 | []=>Nat.le_refl _
 | s::r=>by
   have:=AN r; have:=lM (!gw s);unfold aC wN;rw [aA.cJ];omega
theorem adK (d:bI):(gO d).bf<=2:=by
 unfold gO aC aC;rw [aA.cJ,aA.cJ,T8];have:=lM (!gw d.nm)
 split
 · have:=lM (decide (d.n<0)||decide (1099511627775<d.n)); omega
 · split
   · have:=lM (!(d.n==0)); omega
   · split
     · have:=lM (decide (d.n<1)||decide (32<d.n)); omega
     · have:=Dk true; omega
theorem MV:∀l:List bI,(cO l).bf<=8*wD l
 | []=>Nat.le_refl _
 | d::r=>by
   have:=MV r; have:=adK d;unfold cO wD;rw [aA.cJ];omega
theorem MW (l:List aP) (d:Nat):(cZ l d).bf<=1+8*cP l:=by
 unfold cZ;have:=MU d l.length (bM l d); have:=Dl l d;omega
theorem MX (s:List UInt8):(aC [s]).bf<=1:=by
 unfold aC aC;rw [aA.cJ,T8];have:=lM (!gw s);omega
theorem adL (p:dC):(qK p).bf<=3+wN p.params+wN p.av+8*cP p.body:=by
 unfold qK;rw [aA.cJ,aA.cJ,aA.cJ,aA.cJ];have:=MX p.nm; have:=AN p.params; have:=AN p.av; have:=AL (decide (3<p.params.length)||decide (4<p.av.length)); have:=MW p.body 1;omega
theorem HY:∀l:List dC,(dz l).bf<=8*wP l
 | []=>Nat.le_refl _
 | p::r=>by
   have:=HY r; have:=adL p;unfold dz wP;rw [aA.cJ];omega
theorem MY {α:Type} {rd:View->Nat->Nat->α->Prop} {f:α->List Value} {k:Nat} {H:View} {b m:Nat} {T:TypeId} {fz:Nat×Nat} {xs:List α} (hH:H b=some (.cells (xs.flatMap f).toArray T fz)) (hf:∀x,(f x).length=k) (dP:∀H b o x,aT H b o (f x)->rd H b o x) (hn:xs.length<=m) (hm:m<=9223372036854775807):Sl rd k H (some ⟨b,0,none⟩) m xs:=by
 refine ⟨hn,hm,by simp,λi x hx=>⟨b,0,O,dP _ _ _ _ λj v hv=>?_⟩⟩
 have hj:j<k:=by rw [<-hf x]; exact (List.getElem?_eq_some_iff.1 hv).1
 have h1:vc H b (0+i*k+j)=gJ (.cells (xs.flatMap f).toArray T fz) (0+i*k+j):=by unfold vc; rw [hH]; rfl
 rw [h1];simp only [gJ,Nat.zero_add];rw [pk hf hx hj];exact hv
section
variable {P:Program} {ops:Array Oper} {Q:Exit->Act->World->Prop} {n:Nat} {ds:List Deferred} {l:List (Nat×Value)} {w0:World} {F:List Nat} {L:List ak} {Vs:List View} {rest:List Oper}
theorem fC {T:TypeId} {m b:Nat} {cur:Array Value} {fz:Nat×Nat} (i:Nat) (xs:List (List UInt8)) (hL:L[i]? = some (ab b (.cells cur T fz))) (hc:cur=(xs.flatMap d_).toArray) (hn:xs.length<=m) (hm:m<=9223372036854775807)
   (h:∀H,Sl rdStr 1 H (some ⟨b,0,none⟩) m xs->WL P ops Q n ds l (Ws w0 F (c_ i L) (H::Vs)) rest):WL P ops Q n ds l (Ws w0 F L Vs) rest:=by
 subst hc
 have hb:bv b (.cells (xs.flatMap d_).toArray T fz) b=some (.cells (xs.flatMap d_).toArray T fz):=by simp [bv]
 exact WL.Hs i hL (h _ (MY (f:=d_) hb oz (λ_ _ _ _ h=>h) hn hm))
end
section
variable {P:Program} {l:List (Nat×Value)} {W:World->Prop} {d:Option Tmp} {ty:TypeId} {pos:String} {af:Array Edge} {g:Option (Nat×Bool)}
theorem T' {t:TypeId} {parts:List (Nat×Operand)} {vs:List (Nat×Value)} {z:Value} {n s:Nat} {out:List Value} (hz:zeroOf P t=some z) (hp:x2 P t=some (n,s))
   (hv:tW l parts=some vs) (hf:si (λi=>some (i*s,s)) (dv z) vs=some out):Yl P l W ⟨d,.build t parts.toArray,ty,pos,af,g⟩ (.agg out.toArray):=by
 intro ρ w aF _
 have e1:((parts.toArray.map λ (i,x)=>(i,ρ x)):Array (Nat×Value)).toList=vs:=by simpa using Hc aF parts vs hv
 unfold x2 at hp
 cases hu:P.underlying t with
 | none=>simp [hu] at hp
 | some dd=>
   cases dd<;>simp [hu] at hp
   rename_i m e;obtain ⟨inf,hi,h2,h3⟩:=hp;subst h2 h3
   have e4:Instr.fill (λi=>some (i*inf.size,inf.size)) z.cells vs=some out.toArray:=by
     refine CY _ vs z.cells out ?_;rw [vP]
     simpa using hf
   simp only [execOp,Instr.build,Sem.run_bind,xP hz,Result.andThen_ok,run_underlying hu,e1,e4,sizeOf,typeInfo,hi,Sem.run_pure];simp [hi,e4]
end
section
variable {P:Program} {ops:Array Oper} {Q:Exit->Act->World->Prop} {n:Nat} {ds:List Deferred} {l:List (Nat×Value)} {w0:World} {F:List Nat} {L:List ak} {Vs:List View}
 {rest:List Oper} {d:Nat} {ty:TypeId} {pos:String} {af:Array Edge} {g:Option (Nat×Bool)}
theorem iu {ι κ:Type} {f:FuncId} {args:Array Operand} {ts:Array TypeId} {vs:List Value} (L1 L2:List ak) (hg:cB ops l g) (hn:Nat.blt d n=true) (hf:Enters P f) (ha:ik l args.toList=some vs) (hL:L=L1++L2)
   (v:ι->Value) (ew:ι->List ak) (R:View->ι->Prop) (ch:κ->List PanicEntry) (Lp:κ->List ak) (Rp:κ->Prop) (a_:List View) (hV:∀H ∈ a_,H ∈ Vs)
   (Ma:∀i,∀k ∈ (ew i).flatMap ak.ids,k ∈ L1.flatMap ak.ids)
   (hC:∀w,Ws w (L1.flatMap ak.ids) L1 a_ w->Calls P f vs.toArray w λe w'=>(∃i,e = .returned (v i)/\R (nv w w') i/\Ws w (L1.flatMap ak.ids) (ew i) a_ w')\/(∃j,e = .panicked (ch j)/\Rp j/\Ws w (L1.flatMap ak.ids) (Lp j) a_ w'))
   (hp:∀j,Rp j->WE Q (.panic (ch j)) n ds l (Ws w0 F (Lp j++L2) Vs))
   (hr:∀H i,eE w0 H->R H i->WL P ops Q n ds ((d,v i)::l) (Ws w0 F (ew i++L2) (H::Vs)) rest) :
   WL P ops Q n ds l (Ws w0 F L Vs) (⟨some d,.call ⟨.value (.func f),args,ts⟩,ty,pos,af,g⟩::rest):=by
 subst hL;refine WL.CZ (ι:=View×ι) hg hn hf ha (λi=>v i.2) (λi w'=>(eE w0 i.1/\R i.1 i.2)/\Ws w0 F (ew i.2++L2) (i.1::Vs) w') (λc w'=>∃j,c=ch j/\Rp j/\Ws w0 F (Lp j++L2) Vs w') (λw hw=>(hC w (hw.self.bw hV)).mono λe w' he=>?_) (λi=>?_) (λc=>?_)
 · rcases he with ⟨i,rfl,hR,h⟩ | ⟨j,rfl,hR,h⟩
   · have hb:=hw.back h
     refine .inl ⟨(nv w w',i),O,⟨(Ak w w').mono hw.fr.size,hR⟩,hb.fr,hb.kn,hb.nd,hb.own,λH hH=>?_,λH hH A hA k hk=>?_⟩
     · rcases List.mem_cons.1 hH with rfl | hH
       · exact L9 w w'
       · exact hb.vs H hH
     · rcases List.mem_cons.1 hH with rfl | hH
       · have aw:k<w.heap.size:=by
           rcases List.mem_append.1 hA with hA | hA
           · have jx:=Ma i k (List.mem_flatMap.2 ⟨A,hA,hk⟩)
             obtain ⟨B,hB,hkB⟩:=List.mem_flatMap.1 jx;exact B.Am w (hw.kn B (by simp [hB])) k hkB
           · exact A.Am w (hw.kn A (by simp [hA])) k hk
         exact Ak w w' k aw
       · exact hb.off H hH A hA k hk
   · exact .inr ⟨_,O,j,O,hR,hw.back h⟩
 · intro a w cN dE
   exact hr i.1 i.2 dE.1.1 dE.1.2 a w cN dE.2
 · rintro a w cN ⟨j,rfl,hR,dE⟩
   exact hp j hR a w cN dE
end
def rv (A:ak) (w:World):View:=λb=>if b ∈ A.ids then w.heap[b]? else none
section
variable {w0 w:World} {F:List Nat} {L:List ak} {Vs:List View} {A:ak}
theorem adN (A:ak) (w:World):Le (rv A w) w:=λb o h=>by
 unfold rv at h
 split at h
 · exact h
 · cases h
theorem Ws.Dm (h:Ws w0 F L Vs w) (i:Nat) (hL:L[i]? = some A):Ws w0 F (c_ i L) (rv A w::Vs) w:=by
 have h1:=h.perm (mf i L hL);have h2:Ws w0 F (c_ i L) Vs w:=Ws.drop (L:=[A]) h1;refine ⟨h2.fr,h2.kn,h2.nd,h2.own,λH hH=>?_,λH hH B hB k hk=>?_⟩
 · rcases List.mem_cons.1 hH with rfl | hH
   · exact adN A w
   · exact h2.vs H hH
 · rcases List.mem_cons.1 hH with rfl | hH
   · have nd:=h1.nd
     rw [List.flatMap_cons,List.nodup_append] at nd;unfold rv;rw [if_neg];intro eI;exact nd.2.2 k eI k (List.mem_flatMap.2 ⟨B,hB,hk⟩) O
   · exact h2.off H hH B hB k hk
theorem HZ {α:Type} {rd:View->Nat->Nat->α->Prop} {f:α->List Value} {k e c:Nat} {a:Option Addr} {xs:List α} (h:(bo e k f a c xs).holds w)
   (hf:∀x,(f x).length=k) (dP:∀H b o x,aT H b o (f x)->rd H b o x):Sl rd k (rv (bo e k f a c xs) w) a c xs:=by
 obtain ⟨h1,h2⟩:=(h:w.ownsRow 0 e k _ xs.length (xs.flatMap f))
 rcases h2 with ⟨h3,h4⟩ | ⟨b,cap,cur,h5,_,hb,mh,hc,hs,ht⟩
 · injection h3 with ha hl hc
   subst ha hc;have:xs=[]:=List.eq_nil_of_length_eq_zero (by omega);subst this;exact Sl.nil
 · injection h5 with ha hl mj
   subst ha mj;refine ⟨mh,by unfold maxLen at hc; omega,by simp,λi x hx=>⟨b,0,O,dP _ _ _ _ λj v hv=>?_⟩⟩
   have hj:j<k:=by have:=(List.getElem?_eq_some_iff.1 hv).1; rw [hf] at this; exact this
   have h6:(xs.flatMap f)[i*k+j]? = some v:=by rw [pk hf hx hj]; exact hv
   rw [<-ht,List.getElem?_take] at h6
   split at h6
   · have hr:rv (bo e k f (some ⟨b,0,none⟩) c xs) w b=some (.cells cur e (0,0)):=by
       unfold rv;rw [if_pos (by simp [dw,Value.ownBlock])];exact hb
     have h7:vc (rv (bo e k f (some ⟨b,0,none⟩) c xs) w) b (0+i*k+j)=gJ (.cells cur e (0,0)) (0+i*k+j):=by unfold vc; rw [hr]; rfl
     rw [h7]
     simpa [gJ] using h6
   · cases h6
end
section
variable {P:Program} {ops:Array Oper} {cd:Code} {Q:Exit->Act->World->Prop} {n:Nat} {ds:List Deferred} {l:List (Nat×Value)} {w0:World} {F:List Nat} {L:List ak} {Vs:List View} {rest:List Oper}
theorem WC.v_ {α:Type} {rd:View->Nat->Nat->α->Prop} {f:α->List Value} {k e c:Nat} {a:Option Addr} {xs:List α} (i:Nat) (hL:L[i]? = some (bo e k f a c xs))
   (hf:∀x,(f x).length=k) (dP:∀H b o x,aT H b o (f x)->rd H b o x) (h:∀H,Sl rd k H a c xs->WC P cd Q n ds l (Ws w0 F (c_ i L) (H::Vs))):WC P cd Q n ds l (Ws w0 F L Vs):=
 λac w ha hw=>h _ (HZ (hw.kn _ (du hL)) hf dP) ac w ha (hw.Dm i hL)
theorem fo {b:Nat} {ob:Obj} (i:Nat) (qA:Obj) (hL:L[i]? = some (ab b ob)) (he:ob=qA) (h:WC P cd Q n ds l (Ws w0 F (L.set i (ab b qA)) Vs)):WC P cd Q n ds l (Ws w0 F L Vs):=
 WC.px i hL (by rw [he]) h
theorem WL.v_ {α:Type} {rd:View->Nat->Nat->α->Prop} {f:α->List Value} {k e c:Nat} {a:Option Addr} {xs:List α} (i:Nat) (hL:L[i]? = some (bo e k f a c xs))
   (hf:∀x,(f x).length=k) (dP:∀H b o x,aT H b o (f x)->rd H b o x) (h:∀H,Sl rd k H a c xs->WL P ops Q n ds l (Ws w0 F (c_ i L) (H::Vs)) rest):WL P ops Q n ds l (Ws w0 F L Vs) rest:=
 λac w ha hw=>h _ (HZ (hw.kn _ (du hL)) hf dP) ac w ha (hw.Dm i hL)
theorem WL.jy {α:Type} {rd:View->Nat->Nat->α->Prop} {f:α->List Value} {k T b m:Nat} {fz:Nat×Nat} {cur:Array Value} (i:Nat) (xs:List α) (hL:L[i]? = some (ab b (.cells cur T fz))) (hc:cur=(xs.flatMap f).toArray)
   (hf:∀x,(f x).length=k) (dP:∀H b o x,aT H b o (f x)->rd H b o x) (hn:xs.length<=m) (hm:m<=9223372036854775807)
   (h:∀H,Sl rd k H (some ⟨b,0,none⟩) m xs->WL P ops Q n ds l (Ws w0 F (c_ i L) (H::Vs)) rest):WL P ops Q n ds l (Ws w0 F L Vs) rest:=by
 subst hc
 have hb:bv b (.cells (xs.flatMap f).toArray T fz) b=some (.cells (xs.flatMap f).toArray T fz):=by simp [bv]
 exact WL.Hs i hL (h _ (MY (f:=f) hb hf dP hn hm))
end
def H0 (P:Program) (t:TypeId) (f:Nat):Option Nat:=match P.underlying t with
 | some (.struct fs)=>match fs[f]? with
   | some x=>if dI P x.type=true then some x.offset else none
   | none=>none
 | _=>none
section
variable {P:Program} {l:List (Nat×Value)} {W:World->Prop} {d:Option Tmp} {ty:TypeId} {pos:String} {af:Array Edge} {g:Option (Nat×Bool)}
theorem T_ {t:TypeId} {x:Operand} {f k:Nat} {cs:Array Value} {v:Value} (hf:H0 P t f=some k) (hx:aB l x=some (.agg cs)) (hv:cs[k]? = some v):Yl P l W ⟨d,.field t x f,ty,pos,af,g⟩ v:=by
 intro ρ w aF _;unfold H0 at hf
 cases hu:P.underlying t with
 | none=>simp [hu] at hf
 | some dd=>
   cases dd<;>simp [hu] at hf
   rename_i fs
   cases ct:fs[f]? with
   | none=>simp [ct] at hf
   | some fd=>
     simp [ct] at hf;obtain ⟨h1,rfl⟩:=hf;have ha:=G9 h1 w
     have hp:(part fd.type cs fd.offset).run P w = .ok v w:=by simp [part,ha,hv]
     simp [execOp,aF x _ hx,Instr.field,run_underlying hu,ct,asAgg,hp]
end
abbrev v0:View:=λ_=>none
theorem wa (w:World):eE w v0:=λ_ _=>rfl
def vj (A B:View):View:=λb=>match A b with | some o=>some o | none=>B b
theorem Ua (A B:View):aL A (vj A B):=λb o h=>by simp [vj,h]
theorem Ub {A B:View} {w:World} (ha:Le A w) (hb:Le B w):aL B (vj A B):=λb o h=>by
 cases hA:A b with
 | none=>simp [vj,hA,h]
 | some o'=>
   have h1:=ha b o' hA;have h2:=hb b o h;rw [h1] at h2
   injection h2 with h2
   subst h2;simp [vj,hA]
theorem adO {A B:View} {w:World} (ha:Le A w) (hb:Le B w):Le (vj A B) w:=λb o h=>by
 unfold vj at h
 split at h
 · rename_i o' hA; injection h with h; subst h; exact ha b _ hA
 · exact hb b o h
theorem Uc {A B:View} {w:World} (ha:eE w A) (hb:eE w B):eE w (vj A B):=λb h=>by simp [vj,ha b h,hb b h]
section
variable {w0 w:World} {F:List Nat} {L:List ak} {Vs:List View} {A:ak}
theorem Ws.v0 (h:Ws w0 F L Vs w):Ws w0 F L (v0::Vs) w:=
 ⟨h.fr,h.kn,h.nd,h.own,λH hH=>by
   rcases List.mem_cons.1 hH with rfl | hH
   · intro b o hb; cases hb
   · exact h.vs H hH,λH hH=>by
   rcases List.mem_cons.1 hH with rfl | hH
   · intro _ _ _ _; rfl
   · exact h.off H hH⟩
theorem Ws.nA {H1 H2:View} (h:Ws w0 F L (H1::H2::Vs) w):Ws w0 F L (vj H1 H2::Vs) w:=
 ⟨h.fr,h.kn,h.nd,h.own,λH hH=>by
   rcases List.mem_cons.1 hH with rfl | hH
   · exact adO (h.vs H1 (by simp)) (h.vs H2 (by simp))
   · exact h.vs H (by simp [hH]),λH hH A hA k hk=>by
   rcases List.mem_cons.1 hH with rfl | hH
   · simp [vj,h.off H1 (by simp) A hA k hk,h.off H2 (by simp) A hA k hk]
   · exact h.off H (by simp [hH]) A hA k hk⟩
theorem Ws.adP (h:Ws w0 F (A::L) Vs w) (hF:∀k ∈ F,k ∈ L.flatMap ak.ids):∀k ∈ A.ids,w0.heap.size<=k:=by
 intro k hk
 rcases h.own A (by simp) k hk with h1 | h1
 · have nd:=h.nd
   rw [List.flatMap_cons,List.nodup_append] at nd;exact absurd O (nd.2.2 k hk k (hF k h1))
 · exact h1
theorem MZ (h:Ws w0 F (A::L) Vs w) (hF:∀k ∈ F,k ∈ L.flatMap ak.ids):eE w0 (rv A w):=λb hb=>by
 unfold rv;rw [if_neg];intro hk;have:=h.adP hF b hk;omega
theorem bD {H:View} (h:Ws w0 F L Vs w) (hm:H ∈ Vs) (hf:eE w0 H):aL H (nv w0 w):=ab7 (h.vs H hm) hf
end
section
variable {P:Program} {ops:Array Oper} {cd:Code} {Q:Exit->Act->World->Prop} {n:Nat} {ds:List Deferred} {l:List (Nat×Value)} {w0:World} {F:List Nat} {L:List ak} {Vs:List View} {rest:List Oper}
theorem WL.v0 (h:WL P ops Q n ds l (Ws w0 F L (v0::Vs)) rest):WL P ops Q n ds l (Ws w0 F L Vs) rest:=LW (λ_ hw=>hw.v0) h
theorem WL.nA {H1 H2:View} (h:∀H,aL H1 H->aL H2 H->(∀u,eE u H1->eE u H2->eE u H)->WL P ops Q n ds l (Ws w0 F L (H::Vs)) rest):WL P ops Q n ds l (Ws w0 F L (H1::H2::Vs)) rest:=
 λa w ha hw=>h (vj H1 H2) (Ua H1 H2) (Ub (hw.vs H1 (by simp)) (hw.vs H2 (by simp))) (λu h1 h2=>Uc h1 h2) a w ha hw.nA
theorem WC.nA {H1 H2:View} (h:∀H,aL H1 H->aL H2 H->(∀u,eE u H1->eE u H2->eE u H)->WC P cd Q n ds l (Ws w0 F L (H::Vs))):WC P cd Q n ds l (Ws w0 F L (H1::H2::Vs)):=
 λa w ha hw=>h (vj H1 H2) (Ua H1 H2) (Ub (hw.vs H1 (by simp)) (hw.vs H2 (by simp))) (λu h1 h2=>Uc h1 h2) a w ha hw.nA
theorem WL.pz {α:Type} {rd:View->Nat->Nat->α->Prop} {f:α->List Value} {k e c:Nat} {a:Option Addr} {xs:List α} (i:Nat) (hL:L[i]? = some (bo e k f a c xs)) (hF:∀k ∈ F,k ∈ (c_ i L).flatMap ak.ids)
   (hf:∀x,(f x).length=k) (dP:∀H b o x,aT H b o (f x)->rd H b o x) (h:∀H,eE w0 H->Sl rd k H a c xs->WL P ops Q n ds l (Ws w0 F (c_ i L) (H::Vs)) rest):WL P ops Q n ds l (Ws w0 F L Vs) rest:=
 λac w ha hw=>h _ (MZ (hw.perm (mf i L hL)) hF) (HZ (hw.kn _ (du hL)) hf dP) ac w ha (hw.Dm i hL)
theorem WC.pz {α:Type} {rd:View->Nat->Nat->α->Prop} {f:α->List Value} {k e c:Nat} {a:Option Addr} {xs:List α} (i:Nat) (hL:L[i]? = some (bo e k f a c xs)) (hF:∀k ∈ F,k ∈ (c_ i L).flatMap ak.ids)
   (hf:∀x,(f x).length=k) (dP:∀H b o x,aT H b o (f x)->rd H b o x) (h:∀H,eE w0 H->Sl rd k H a c xs->WC P cd Q n ds l (Ws w0 F (c_ i L) (H::Vs))):WC P cd Q n ds l (Ws w0 F L Vs):=
 λac w ha hw=>h _ (MZ (hw.perm (mf i L hL)) hF) (HZ (hw.kn _ (du hL)) hf dP) ac w ha (hw.Dm i hL)
theorem LN {α:Type} {rd:View->Nat->Nat->α->Prop} {f:α->List Value} {k T b m:Nat} {fz:Nat×Nat} {cur:Array Value} (i:Nat) (xs:List α) (hL:L[i]? = some (ab b (.cells cur T fz))) (hc:cur=(xs.flatMap f).toArray) (hF:∀k ∈ F,k ∈ (c_ i L).flatMap ak.ids)
   (hf:∀x,(f x).length=k) (dP:∀H b o x,aT H b o (f x)->rd H b o x) (hn:xs.length<=m) (hm:m<=9223372036854775807)
   (h:∀H,eE w0 H->Sl rd k H (some ⟨b,0,none⟩) m xs->WL P ops Q n ds l (Ws w0 F (c_ i L) (H::Vs)) rest):WL P ops Q n ds l (Ws w0 F L Vs) rest:=by
 subst hc;intro ac w ha hw;have hb:w.heap[b]? = some (.cells (xs.flatMap f).toArray T fz):=hw.kn _ (du hL)
 have hr:rv (ab b (.cells (xs.flatMap f).toArray T fz)) w b=some (.cells (xs.flatMap f).toArray T fz):=by
   unfold rv;rw [if_pos (by simp [ab])];exact hb
 exact h _ (MZ (hw.perm (mf i L hL)) hF) (MY (f:=f) hr hf dP hn hm) ac w ha (hw.Dm i hL)
end
section
variable {κ:Type} [BEq κ] [LawfulBEq κ] {kd:TypeDesc} {kv:κ->Value}
variable {P:Program} {l:List (Nat×Value)} {w0:World} {F:List Nat} {L:List ak} {Vs:List View} {ty:TypeId} {pos:String} {af:Array Edge} {g:Option (Nat×Bool)}
theorem Ud {dd:Option Tmp} {t kt e:TypeId} {x y:Operand} {b c:Nat} {m:List (cV κ)} {k:κ} {z:Value} (i:Nat) {H:View} (hH:Vs[i]? = some H) (eU:qI kd kv) (ht:P.underlying t=some (.map kt e)) (hk:P.underlying kt=some kd) (hz:zeroOf P e=some z) (hx:aB l x=some (.map (some b))) (hy:aB l y=some (kv k)) (hb:H b=some (bn kv m c)) :
   Yl P l (Ws w0 F L Vs) ⟨dd,.lookup t x y false,ty,pos,af,g⟩ (dU k m z):=by
 intro ρ w aF hw;simp [execOp,aF x _ hx,aF y _ hy,HL (P:=P) (k:=k) false eU ht hk hz (hw.vs H (du hH) b _ hb:w.heap[b]? = some (bn kv m c))]
theorem Uf {dd:Option Tmp} {t kt e:TypeId} {x y:Operand} {b c:Nat} {m:List (cV κ)} {k:κ} {z:Value} (i:Nat) {H:View} (hH:Vs[i]? = some H) (eU:qI kd kv) (ht:P.underlying t=some (.map kt e)) (hk:P.underlying kt=some kd) (hz:zeroOf P e=some z) (hx:aB l x=some (.map (some b))) (hy:aB l y=some (kv k)) (hb:H b=some (bn kv m c)) :
   Yl P l (Ws w0 F L Vs) ⟨dd,.lookup t x y true,ty,pos,af,g⟩ (.tuple #[dU k m z,.bool (ow k m)]):=by
 intro ρ w aF hw;simp [execOp,aF x _ hx,aF y _ hy,HL (P:=P) (k:=k) true eU ht hk hz (hw.vs H (du hH) b _ hb:w.heap[b]? = some (bn kv m c))]
end
theorem Ws.nvb {w0 w:World} {L:List ak} {Vs:List View} (h:Ws w0 [] L Vs w) (i:Nat) {b:Nat} {ob:Obj} (hL:L[i]? = some (ab b ob)):nv w0 w b=some ob:=by
 have hb:w.heap[b]? = some ob:=h.kn _ (du hL)
 have hn:w0.heap.size<=b:=by
   rcases h.own _ (du hL) b (by simp [ab]) with h' | h'
   · cases h'
   · exact h'
 unfold nv;rw [if_pos hn];exact hb
section
variable {Q:Exit->Act->World->Prop} {n:Nat} {ds:List Deferred} {l:List (Nat×Value)} {w0:World} {F:List Nat} {L:List ak} {Vs:List View}
theorem WE.nB {e:Exit} {b:Nat} {ob:Obj} (i:Nat) (qA:Obj) (hL:L[i]? = some (ab b ob)) (he:ob=qA) (h:WE Q e n ds l (Ws w0 F (L.set i (ab b qA)) Vs)):WE Q e n ds l (Ws w0 F L Vs):=by
 subst he
 have:L.set i (ab b ob)=L:=by
   obtain ⟨hi,he⟩:=List.getElem?_eq_some_iff.1 hL;rw [<-he];exact List.set_getElem_self hi
 rwa [this] at h
end
theorem Ws.nC {w0 w:World} {F:List Nat} {L:List ak} {Vs:List View} (h:Ws w0 F L Vs w) (i:Nat) {b:Nat} {ob:Obj} (hL:L[i]? = some (ab b ob)):hv w b=some ob:=h.kn _ (du hL)
theorem wb {H:View} {b k:Nat} {ob:Obj} {v:Value} (h:H b=some ob) (hc:gJ ob k=some v):vc H b k=some v:=by
 unfold vc;rw [h];exact hc
section
variable {P:Program} {ops:Array Oper} {Q:Exit->Act->World->Prop} {n:Nat} {ds:List Deferred} {l:List (Nat×Value)} {w0:World} {F:List Nat} {L:List ak} {Vs:List View} {rest:List Oper} {d:Nat} {ty:TypeId} {pos:String} {af:Array Edge} {g:Option (Nat×Bool)}
theorem WL.lN {ι κ:Type} {f:FuncId} {args:Array Operand} {ts:Array TypeId} {vs:List Value} (hg:cB ops l g) (hn:Nat.blt d n=true) (hf:Enters P f) (ha:ik l args.toList=some vs)
   (v:ι->Value) (R:ι->Prop) (ch:κ->List PanicEntry) (Rp:κ->Prop)
   (hC:∀w,Ws w0 F L Vs w->Calls P f vs.toArray w λe w'=>(∃i,e = .returned (v i)/\Ext w w'/\R i)\/(∃j,e = .panicked (ch j)/\Ext w w'/\Rp j))
   (hp:∀j,Rp j->WE Q (.panic (ch j)) n ds l (Ws w0 F L Vs))
   (hr:∀i,R i->WL P ops Q n ds ((d,v i)::l) (Ws w0 F L Vs) rest) :
   WL P ops Q n ds l (Ws w0 F L Vs) (⟨some d,.call ⟨.value (.func f),args,ts⟩,ty,pos,af,g⟩::rest):=
 WL.CZ hg hn hf ha v (λi w'=>R i/\Ws w0 F L Vs w') (λc w'=>∃j,c=ch j/\Rp j/\Ws w0 F L Vs w') (λw hw=>(hC w hw).mono λe w' h=>by
   rcases h with ⟨i,h1,h2,h3⟩ | ⟨j,h1,h2,h3⟩
   · exact .inl ⟨i,h1,h3,hw.ext h2⟩
   · exact .inr ⟨_,h1,j,O,h3,hw.ext h2⟩) (λi a w ha hw=>hr i hw.1 a w ha hw.2) (λc a w ha hw=>by
   obtain ⟨j,rfl,h1,h2⟩:=hw
   exact hp j h1 a w ha h2)
theorem WL.wc {ι κ:Type} {f:FuncId} {args:Array Operand} {ts:Array TypeId} {vs:List Value} (hg:cB ops l g) (hn:Nat.blt d n=true) (hf:Enters P f) (ha:ik l args.toList=some vs)
   (v:ι->Value) (R:View->ι->Prop) (ch:κ->List PanicEntry) (Rp:κ->Prop)
   (hC:∀w,Ws w0 F L Vs w->Calls P f vs.toArray w λe w'=>(∃i,e = .returned (v i)/\Ext w w'/\R (nv w w') i)\/(∃j,e = .panicked (ch j)/\Ext w w'/\Rp j))
   (hp:∀j,Rp j->WE Q (.panic (ch j)) n ds l (Ws w0 F L Vs))
   (hr:∀H i,eE w0 H->R H i->WL P ops Q n ds ((d,v i)::l) (Ws w0 F L (H::Vs)) rest) :
   WL P ops Q n ds l (Ws w0 F L Vs) (⟨some d,.call ⟨.value (.func f),args,ts⟩,ty,pos,af,g⟩::rest):=
 WL.CZ (ι:=View×ι) hg hn hf ha (λi=>v i.2) (λi w'=>(eE w0 i.1/\R i.1 i.2)/\Ws w0 F L (i.1::Vs) w') (λc w'=>∃j,c=ch j/\Rp j/\Ws w0 F L Vs w') (λw hw=>(hC w hw).mono λe w' h=>by
   rcases h with ⟨i,h1,h2,h3⟩ | ⟨j,h1,h2,h3⟩
   · exact .inl ⟨(nv w w',i),h1,⟨(Ak w w').mono hw.fr.size,h3⟩,hw.view h2 (L9 w w') (Ak w w')⟩
   · exact .inr ⟨_,h1,j,O,h3,hw.ext h2⟩) (λi a w ha hw=>hr i.1 i.2 hw.1.1 hw.1.2 a w ha hw.2) (λc a w ha hw=>by
   obtain ⟨j,rfl,h1,h2⟩:=hw
   exact hp j h1 a w ha h2)
end
section
variable {P:Program} {l:List (Nat×Value)} {W:World->Prop} {ty:TypeId} {pos:String} {af:Array Edge} {g:Option (Nat×Bool)}
theorem adR {dd:Option Tmp} {x:Operand} {s xt:TypeId} {v:Value} {fs:Array Field} (hu:P.underlying s=some (.struct fs)) (hx:aB l x=some (.iface s v)):Yl P l W ⟨dd,.typeAssert x xt s true,ty,pos,af,g⟩ (.tuple #[v,.bool true]):=by
 intro ρ w aF _;simp [execOp,aF x _ hx,Instr.typeAssert,run_underlying hu]
theorem adS {dd:Option Tmp} {x:Operand} {s xt:TypeId} {z:Value} {fs:Array Field} (hu:P.underlying s=some (.struct fs)) (hz:zeroOf P s=some z) (hx:aB l x=some .nilIface):Yl P l W ⟨dd,.typeAssert x xt s true,ty,pos,af,g⟩ (.tuple #[z,.bool false]):=by
 intro ρ w aF _;simp [execOp,aF x _ hx,Instr.typeAssert,run_underlying hu,xP hz]
end
def ye (b:Bool):List Value:=[.bool b]
def rdBool (H:View) (b o:Nat) (x:Bool):Prop:=aT H b o (ye x)
theorem adT (b:Bool):(ye b).length=1:=rfl
end Go.Bw
end
