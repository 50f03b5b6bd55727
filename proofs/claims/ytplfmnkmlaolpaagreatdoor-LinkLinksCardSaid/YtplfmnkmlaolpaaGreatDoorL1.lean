/- LinkLinks: Check and Link answer just what the document says, errors too, whatever they are handed. -/
import Derived.Below
import Derived.Carry
import Derived.ChangeOld
import Derived.Deep.Quiet
import Derived.Deep.Slices
import Derived.Deep.Upon
import Derived.Defers
import Derived.JoinedCond
import Derived.LaidEql
import Derived.Laws.BytesString
import Derived.Laws.DeepStrings4
import Derived.Laws.Externs
import Derived.Laws.Pointers
import Derived.Laws.Slices
import Derived.Lib.AppendStr
import Derived.Lib.AppendZeros
import Derived.Lib.AtoiAllCases
import Derived.Lib.AtoiTie
import Derived.Lib.Builder
import Derived.Lib.Bytealg
import Derived.Lib.ConvBytes
import Derived.Lib.ItoaNum
import Derived.Lib.Join
import Derived.Lib.LaidTab
import Derived.Lib.SmallJoins
import Derived.Lib.UnsafeStr
import Derived.MapKept
import Derived.OpenShut
import Derived.ProofKit
import Derived.Recover
import Derived.Sort.Grow
import Derived.WalkKit
import Derived.WalkSpells
import Derived.WideMake
set_option linter.unusedVariables false
set_option linter.unusedSimpArgs false
namespace Go
theorem O {α : Sort _} {a : α} : a = a := rfl
theorem Y {α : Sort _} {a : α} {b : Prop} : a = a \/ b := .inl rfl
end Go
section
namespace Go.Bw
open Go Go.RowKit
def lk:List (Nat×Value)->Nat->Option Value
 | [],_=>none
 | (k,v)::r,n=>bif Nat.beq k n then some v else lk r n
structure Ag (n:Nat) (ds:List Deferred) (l:List (Nat×Value)) (a:Act):Prop where
 size:a.tmps.size=n
 defs:a.defers=ds
 gd:∀t v,lk l t=some v->a.tmps.getD t undef=v
def aB (l:List (Nat×Value)):Operand->Option Value
 | .tmp t=>lk l t
 | .const v=>some v
 | .global g=>some (.pointer (some ⟨g,0,none⟩))
 | .func f=>some (.func (.func f) #[] #[])
section
variable {n:Nat} {ds:List Deferred} {l:List (Nat×Value)} {a:Act}
theorem Ag.eval (h:Ag n ds l a) {x:Operand} {v:Value} (hx:aB l x=some v):a.eval x=v:=by
 cases x with
 | tmp t=>exact h.gd t v hx
 | const u=>simpa [aB,Act.eval] using hx
 | global g=>simpa [aB,Act.eval] using hx
 | func f=>simpa [aB,Act.eval] using hx
theorem Ag.put (h:Ag n ds l a) {d:Nat} (hd:Nat.blt d n=true) (v:Value):Ag n ds ((d,v)::l) (a.put (some d) v):=by
 have hd':d<a.tmps.size:=by rw [h.size]; exact Nat.le_of_ble_eq_true hd
 refine ⟨by simp [Act.put,h.size],h.defs,λt u hu=>?_⟩;simp only [lk] at hu
 by_cases e:d=t
 · subst e
   simp at hu;subst hu;simp [Act.put,Array.getD,hd']
 · have:Nat.beq d t=false:=by
     cases hb:Nat.beq d t with
     | false=>rfl
     | true=>exact absurd (Nat.eq_of_beq_eq_true hb) e
   rw [this] at hu;have:=h.gd t u hu;simp only [Act.put,Array.getD_eq_getD_getElem?] at *;rw [Array.getElem?_setIfInBounds_ne e];exact this
theorem Ag.Ee (h:Ag n ds l a) (v:Value):Ag n ds l (a.put none v):=h
theorem Ag.sub (h:Ag n ds l a) {l':List (Nat×Value)} (hs:∀p ∈ l',lk l p.1=some p.2):Ag n ds l' a:=by
 refine ⟨h.size,h.defs,λt v hv=>?_⟩
 suffices hm:(t,v) ∈ l' from h.gd t v (hs _ hm)
 induction l' with
 | nil=>cases hv
 | cons p r ih=>
   obtain ⟨k,u⟩:=p;simp only [lk] at hv
   cases hb:Nat.beq k t with
   | true=>
     rw [hb] at hv;have:=Nat.eq_of_beq_eq_true hb;subst this;simp at hv;subst hv;exact List.mem_cons_self
   | false=>
     rw [hb] at hv;exact List.mem_cons_of_mem _ (ih (λp hp=>hs p (List.mem_cons_of_mem _ hp)) hv)
end
section
variable {P:Program} {ops:Array Oper} {Q:Exit->Act->World->Prop} {n:Nat} {ds:List Deferred} {l:List (Nat×Value)} {W:World->Prop}
def WL (P:Program) (ops:Array Oper) (Q:Exit->Act->World->Prop) (n:Nat) (ds:List Deferred) (l:List (Nat×Value)) (W:World->Prop) (rest:List Oper):Prop:=
 ∀a w,Ag n ds l a->W w->wpList P ops Q rest a w
def WC (P:Program) (c:Code) (Q:Exit->Act->World->Prop) (n:Nat) (ds:List Deferred) (l:List (Nat×Value)) (W:World->Prop):Prop:=
 ∀a w,Ag n ds l a->W w->c.wp P Q a w
def WE (Q:Exit->Act->World->Prop) (e:Exit) (n:Nat) (ds:List Deferred) (l:List (Nat×Value)) (W:World->Prop):Prop:=
 ∀a w,Ag n ds l a->W w->Q e a w
def Yl (P:Program) (l:List (Nat×Value)) (W:World->Prop) (o:Oper) (v:Value):Prop:=
 ∀(ρ:Operand->Value) (w:World),(∀x u,aB l x=some u->ρ x=u)->W w->(execOp ρ o).run P w = .ok (.value v) w
theorem Ln (h:WE Q .normal n ds l W):WL P ops Q n ds l W []:=λa w ha hw=>h a w ha hw
def cP (ops:Array Oper) (l:List (Nat×Value)) (g:Option (Nat×Bool)):Prop:=
 g=none\/∃j b dj,g=some (j,b)/\(ops[j]?).bind (·.dst)=some dj/\lk l dj=some (.bool b)
theorem cP.wanted {o:Oper} {a:Act} (h:cP ops l o.guard) (ha:Ag n ds l a):Region.wanted o (yielded ops a.tmps)=true:=by
 rcases h with h | ⟨j,b,dj,hg,hj,hl⟩
 · simp [Region.wanted,h]
 · have hv:=ha.gd dj _ hl
   rw [Array.getD_eq_getD_getElem?] at hv
   cases ht:a.tmps[dj]? with
   | none=>simp [ht,undef] at hv
   | some u=>
     simp [ht] at hv;subst hv;simp [Region.wanted,hg,yielded,hj,ht]
theorem WL.step {rest:List Oper} {o:Oper} (hg:cP ops l o.guard)
   (h:∀a w,Ag n ds l a->W w->∀K:Act->World->Prop,(∀a w,wpList P ops Q rest a w->K a w)->o.wp P a w K Q):WL P ops Q n ds l W (o::rest):=by
 intro a w ha hw;refine wpList_step λK hK=>?_;rw [if_pos (hg.wanted ha)];exact h a w ha hw K hK
theorem Lv {rest:List Oper} {d:Nat} {op:Op} {ty:TypeId} {pos:String} {af:Array Edge} {v:Value} {g:Option (Nat×Bool)} (hg:cP ops l g) (hn:Nat.blt d n=true)
   (hy:Yl P l W ⟨some d,op,ty,pos,af,g⟩ v) (h:WL P ops Q n ds ((d,v)::l) W rest):WL P ops Q n ds l W (⟨some d,op,ty,pos,af,g⟩::rest):=by
 refine WL.step hg λa w ha hw K hK=>?_;have:=hy a.eval w (λx u hx=>ha.eval hx) hw;simp only [Oper.wp,this,Oper.upon_value];exact hK _ _ (h _ _ (ha.put hn v) hw)
theorem V0 {rest:List Oper} {d:Nat} {op:Op} {ty:TypeId} {pos:String} {af:Array Edge} {v:Value} (hy:Yl P l W ⟨some d,op,ty,pos,af,none⟩ v) (h:WL P ops Q n ds ((d,v)::l) W rest) (hn:Nat.blt d n=true:=by rfl):WL P ops Q n ds l W (⟨some d,op,ty,pos,af,none⟩::rest):=Lv (.inl rfl) hn hy h
theorem Vg {rest:List Oper} {d:Nat} {op:Op} {ty:TypeId} {pos:String} {af:Array Edge} {v:Value} {g:Option (Nat×Bool)} (hy:Yl P l W ⟨some d,op,ty,pos,af,g⟩ v) (h:WL P ops Q n ds ((d,v)::l) W rest) (hg:cP ops l g:=by exact .inr ⟨_,_,_,rfl,rfl,rfl⟩) (hn:Nat.blt d n=true:=by rfl):WL P ops Q n ds l W (⟨some d,op,ty,pos,af,g⟩::rest):=Lv hg hn hy h
theorem cP.g {j:Nat} {b:Bool} {dj:Nat} {g:Option (Nat×Bool)} (h1:g=some (j,b)) (h2:(ops[j]?).bind (·.dst)=some dj) (h3:lk l dj=some (.bool b)):cP ops l g:=.inr ⟨j,b,dj,h1,h2,h3⟩
theorem WL.skip {rest:List Oper} {d:Nat} {op:Op} {ty:TypeId} {pos:String} {af:Array Edge} {j:Nat} {b:Bool} {oj:Oper} {dj:Nat} (hn:Nat.blt d n=true)
   (hj:ops[j]? = some oj) (Ef:oj.dst=some dj) (vf:Nat.blt dj n=true) (hb:lk l dj=some (.bool (!b)))
   (h:WL P ops Q n ds ((d,undef)::l) W rest):WL P ops Q n ds l W (⟨some d,op,ty,pos,af,some (j,b)⟩::rest):=by
 intro a w ha hw;refine wpList_step λK hK=>?_;have hv:a.tmps.getD dj undef = .bool (!b):=ha.gd dj _ hb
 have av:dj<a.tmps.size:=by rw [ha.size]; exact Nat.le_of_ble_eq_true vf
 have vg:a.tmps[dj]? = some (.bool (!b)):=by
   rw [Array.getD_eq_getD_getElem?,Array.getElem?_eq_getElem av] at hv;rw [Array.getElem?_eq_getElem av]
   simpa using hv
 have Eg:yielded ops a.tmps j=some (!b):=by simp [yielded,hj,Ef,vg]
 rw [if_neg (by simp [Region.wanted,Eg])];exact hK _ _ (h _ _ (ha.put hn undef) hw)
theorem WL.sub {rest:List Oper} (l':List (Nat×Value)) (hs:∀p ∈ l',lk l p.1=some p.2) (h:WL P ops Q n ds l' W rest):WL P ops Q n ds l W rest:=
 λa w ha hw=>h a w (ha.sub hs) hw
theorem WC.sub {c:Code} (l':List (Nat×Value)) (hs:∀p ∈ l',lk l p.1=some p.2) (h:WC P c Q n ds l' W):WC P c Q n ds l W:=
 λa w ha hw=>h a w (ha.sub hs) hw
theorem WE.sub {e:Exit} (l':List (Nat×Value)) (hs:∀p ∈ l',lk l p.1=some p.2) (h:WE Q e n ds l' W):WE Q e n ds l W:=
 λa w ha hw=>h a w (ha.sub hs) hw
theorem LW {rest:List Oper} {W':World->Prop} (hW:∀w,W w->W' w) (h:WL P ops Q n ds l W' rest):WL P ops Q n ds l W rest:=
 λa w ha hw=>h a w ha (hW w hw)
theorem nP {c:Code} {W':World->Prop} (hW:∀w,W w->W' w) (h:WC P c Q n ds l W'):WC P c Q n ds l W:=
 λa w ha hw=>h a w ha (hW w hw)
theorem WE.world {e:Exit} {W':World->Prop} (hW:∀w,W w->W' w) (h:WE Q e n ds l W'):WE Q e n ds l W:=
 λa w ha hw=>h a w ha (hW w hw)
theorem sn {l:List (Nat×Value)}:∀p ∈ ([]:List (Nat×Value)),lk l p.1=some p.2:=by simp
theorem sc {l r:List (Nat×Value)} {k:Nat} {v:Value} (h:lk l k=some v) (hr:∀p ∈ r,lk l p.1=some p.2):∀p ∈ (k,v)::r,lk l p.1=some p.2:=by
 intro p hp
 rcases List.mem_cons.1 hp with rfl | hp
 · exact h
 · exact hr p hp
theorem Cs {x y:Code} (h:WC P x (Exit.then (y.wp P Q) Q) n ds l W):WC P (.seq x y) Q n ds l W:=λa w ha hw=>wp_seq (h a w ha hw)
theorem Ck (h:WE Q .normal n ds l W):WC P .skip Q n ds l W:=λa w ha hw=>wp_skip (h a w ha hw)
theorem aw (h:WE Q .ret n ds l W):WC P .ret Q n ds l W:=λa w ha hw=>wp_ret (h a w ha hw)
theorem Ce {id:Nat} (h:WE Q (.exit id) n ds l W):WC P (.exit id) Q n ds l W:=λa w ha hw=>wp_exit (h a w ha hw)
theorem Cb {id:Nat} {c:Code} (h:WC P c (Exit.inBlock id Q) n ds l W):WC P (.block id c) Q n ds l W:=λa w ha hw=>wp_block (h a w ha hw)
theorem Cr {id:Nat} {o:List Oper} (h:WL P o.toArray Q n ds l W o):WC P (.region id o.toArray false) Q n ds l W:=λa w ha hw=>wp_region_lit (h a w ha hw)
theorem Cc {c:Operand} {x y:Code} {t:Bool} (hc:aB l c=some (.bool t)) (ht:t=true->WC P x Q n ds l W) (hf:t=false->WC P y Q n ds l W):WC P (.cond c x y) Q n ds l W:=
 λa w ha hw=>wp_cond_split (ha.eval hc) (λh=>ht h a w ha hw) (λh=>hf h a w ha hw)
theorem WC.M_ {c:Operand} {x y:Code} (hc:aB l c=some (.bool true)) (h:WC P x Q n ds l W):WC P (.cond c x y) Q n ds l W:=
 λa w ha hw=>wp_cond_true (ha.eval hc) (h a w ha hw)
theorem WC.yU {c:Operand} {x y:Code} (hc:aB l c=some (.bool false)) (h:WC P y Q n ds l W):WC P (.cond c x y) Q n ds l W:=
 λa w ha hw=>wp_cond_false (ha.eval hc) (h a w ha hw)
theorem Et {y:Code} {Q':Exit->Act->World->Prop} (h:WC P y Q n ds l W):WE (Exit.then (y.wp P Q) Q') .normal n ds l W:=λa w ha hw=>h a w ha hw
theorem Er {K:Act->World->Prop} (h:WE Q .ret n ds l W):WE (Exit.then K Q) .ret n ds l W:=h
theorem Ex {K:Act->World->Prop} {id:Nat} (h:WE Q (.exit id) n ds l W):WE (Exit.then K Q) (.exit id) n ds l W:=h
theorem Eb {id:Nat} (h:WE Q .normal n ds l W):WE (Exit.inBlock id Q) .normal n ds l W:=h
theorem bt {id:Nat} (h:WE Q .ret n ds l W):WE (Exit.inBlock id Q) .ret n ds l W:=h
theorem bK {id:Nat} (h:WE Q .normal n ds l W):WE (Exit.inBlock id Q) (.exit id) n ds l W:=λa w ha hw=>by
 simp only [Exit.inBlock,if_true]; exact h a w ha hw
theorem Na {id IA:Nat} (dB:Nat.beq IA id=false) (h:WE Q (.exit IA) n ds l W):WE (Exit.inBlock id Q) (.exit IA) n ds l W:=λa w ha hw=>by
 have:IA≠id:=λe=>by subst e; rw [Nat.beq_refl] at dB; cases dB
 simp only [Exit.inBlock,if_neg this]; exact h a w ha hw
def yV:Nat->List Value->List (Nat×Value)
 | _,[]=>[]
 | i,v::r=>(i,v)::yV (i+1) r
theorem Nb (vs:List Value):∀(i t:Nat) (v:Value),lk (yV i vs) t=some v->i<=t/\vs[t-i]? = some v:=by
 induction vs with
 | nil=>intro i t v h; cases h
 | cons x r ih=>
   intro i t v h;simp only [yV,lk] at h
   cases hb:Nat.beq i t with
   | true=>
     rw [hb] at h;have:=Nat.eq_of_beq_eq_true hb;subst this;simp at h;simp [h]
   | false=>
     rw [hb] at h;obtain ⟨h1,h2⟩:=ih (i+1) t v h;refine ⟨by omega,?_⟩
     have:t-i=(t-(i+1))+1:=by omega
     rw [this]
     simpa using h2
theorem enter {f:FuncId} {fn:Func} {c:Code} {vs:List Value} {w:World} {R:Ending->World->Prop} (hf:P.funcs[f]? = some fn) (hb:fn.body=some c)
   (m:Nat) (hm:fn.ntmps=m) (hle:Nat.ble vs.length m=true) (h:WC P c (bodyPost P fn R) m [] (yV 0 vs) (λw'=>w'=w)):Calls P f vs.toArray w R:=by
 refine calls_of_wp hf hb (h _ _ ?_ O);have T1:=Nat.le_of_ble_eq_true hle;subst hm;refine ⟨by simp; omega,O,λt v hv=>?_⟩;obtain ⟨_,h2⟩:=Nb vs 0 t v hv;simp only [Nat.sub_zero] at h2
 have av:t<vs.length:=by
   rcases Nat.lt_or_ge t vs.length with h | h
   · exact h
   · simp [List.getElem?_eq_none h] at h2
 simp [Array.getD_eq_getD_getElem?,Array.getElem?_append,av];simp [List.getElem?_eq_getElem av] at h2;exact h2
theorem WE.Nc {fn:Func} {R:Ending->World->Prop} (hr:fn.results = #[]) (h:∀w,W w->R (.returned (.tuple #[])) w):WE (bodyPost P fn R) .ret n [] l W:=
 λa w ha hw=>bodyPost_ret (results_none hr _ _ _) ha.defs (h w hw)
theorem E0 {fn:Func} {R:Ending->World->Prop} (hr:fn.results = #[]) (h:∀w,W w->R (.returned (.tuple #[])) w):WE (bodyPost P fn R) .normal n [] l W:=
 λa w ha hw=>bodyPost_end (results_none hr _ _ _) ha.defs (h w hw)
theorem R1 {fn:Func} {R:Ending->World->Prop} {t:Nat} {v:Value} (hr:fn.results = #[.tmp t]) (ht:lk l t=some v) (h:∀w,W w->R (.returned v) w):WE (bodyPost P fn R) .ret n [] l W:=
 λa w ha hw=>bodyPost_ret (results_tmp hr _ _ _) ha.defs (by rw [ha.gd t v ht]; exact h w hw)
theorem WE.mQ {fn:Func} {R:Ending->World->Prop} {t u:Nat} {v x:Value} (hr:fn.results = #[.tmp t,.tmp u]) (ht:lk l t=some v) (hu:lk l u=some x) (h:∀w,W w->R (.returned (.tuple #[v,x])) w):WE (bodyPost P fn R) .ret n [] l W:=
 λa w ha hw=>bodyPost_ret (results_tmp2 hr _ _ _) ha.defs (by rw [ha.gd t v ht,ha.gd u x hu]; exact h w hw)
theorem aL {fn:Func} {R:Ending->World->Prop} {ch:List PanicEntry} (h:∀w,W w->R (.panicked ch) w):WE (bodyPost P fn R) (.panic ch) n [] l W:=
 λa w ha hw=>⟨ha.defs,h w hw⟩
theorem Ep {K:Act->World->Prop} {ch:List PanicEntry} (h:WE Q (.panic ch) n ds l W):WE (Exit.then K Q) (.panic ch) n ds l W:=h
theorem WE.aS {id:Nat} {ch:List PanicEntry} (h:WE Q (.panic ch) n ds l W):WE (Exit.inBlock id Q) (.panic ch) n ds l W:=h
theorem adp {p:Nat->Prop}:∀m,p m->∃k,p k/\∀j,p j->k<=j:=by
 intro m
 induction m using Nat.strongRecOn with
 | _ m ih=>
   intro hm
   by_cases h:∃j,j<m/\p j
   · obtain ⟨j,hj,hp⟩:=h
     exact ih j hj hp
   · exact ⟨m,hm,λj hp=>Nat.le_of_not_lt λav=>h ⟨j,av,hp⟩⟩
theorem wp_loop_ghost {ι:Type} {c:Code} {a:Act} {w:World} (I:ι->Act->World->Prop) (μ:ι->Nat) (i0:ι) (h0:I i0 a w)
   (round:∀i a w,I i a w->c.wp P (Exit.then (λa' w'=>∃j,μ j<μ i/\I j a' w') Q) a w):(Code.loop c).wp P Q a w:=by
 classical
 let J:Act->World->Prop:=λa w=>∃i,I i a w
 have ex:∀a w,J a w->∃k,(∃i,I i a w/\μ i=k)/\∀j,(∃i,I i a w/\μ i=j)->k<=j:=by
   rintro a w ⟨i,hi⟩
   exact adp (μ i) ⟨i,hi,O⟩
 let M:Act->World->Nat:=λa w=>if h:J a w then Classical.choose (ex a w h) else 0
 have hM:∀a w,J a w->∃i,I i a w/\μ i=M a w:=by
   intro a w h;have:=(Classical.choose_spec (ex a w h)).1;simp only [M,dif_pos h];exact this
 have hle:∀a w i,I i a w->M a w<=μ i:=by
   intro a w i hi;have h:J a w:=⟨i,hi⟩;simp only [M,dif_pos h];exact (Classical.choose_spec (ex a w h)).2 _ ⟨i,hi,O⟩
 refine wp_loop J M ⟨i0,h0⟩ λa w hJ=>?_;obtain ⟨i,hi,nQ⟩:=hM a w hJ;refine wp_mono (round i a w hi) λe a' w' hq=>?_
 cases e with
 | normal=>
   obtain ⟨j,hj,hI⟩:=hq;exact ⟨⟨j,hI⟩,by have:=hle a' w' j hI; omega⟩
 | _=>exact hq
theorem WC.loop {ι:Type} {c:Code} (E:ι->List (Nat×Value)) (Wi:ι->World->Prop) (R:ι->Prop) (μ:ι->Nat) (i0:ι) (hR:R i0) (hE:∀p ∈ E i0,lk l p.1=some p.2) (hW:∀w,W w->Wi i0 w)
   (round:∀i,R i->WC P c (Exit.then (λa' w'=>∃j,μ j<μ i/\R j/\Ag n ds (E j) a'/\Wi j w') Q) n ds (E i) (Wi i)):WC P (.loop c) Q n ds l W:=by
 intro a w ha hw;refine wp_loop_ghost (λi a w=>R i/\Ag n ds (E i) a/\Wi i w) μ i0 ⟨hR,ha.sub hE,hW w hw⟩ λi a w hI=>?_;exact round i hI.1 a w hI.2.1 hI.2.2
theorem Ea {ι:Type} {E:ι->List (Nat×Value)} {Wi:ι->World->Prop} {R:ι->Prop} {μ:ι->Nat} {i:ι} (j:ι) (hμ:μ j<μ i) (hR:R j) (hE:∀p ∈ E j,lk l p.1=some p.2) (hW:∀w,W w->Wi j w) :
   WE (Exit.then (λa' w'=>∃j,μ j<μ i/\R j/\Ag n ds (E j) a'/\Wi j w') Q) .normal n ds l W:=λa w ha hw=>⟨j,hμ,hR,ha.sub hE,hW w hw⟩
end
abbrev View:=Nat->Option Obj
def Le (H:View) (w:World):Prop:=∀b o,H b=some o->w.heap[b]? = some o
def aN (H H':View):Prop:=∀b o,H b=some o->H' b=some o
theorem aN.refl (H:View):aN H H:=λ_ _ h=>h
theorem aN.trans {A B C:View} (h:aN A B) (k:aN B C):aN A C:=λb o x=>k b o (h b o x)
def eU (w:World) (H:View):Prop:=∀b,b<w.heap.size->H b=none
def nv (w0 w:World):View:=λb=>if w0.heap.size<=b then w.heap[b]? else none
theorem Nd (w0 w:World):Le (nv w0 w) w:=λb o h=>by unfold nv at h; split at h; exact h; cases h
theorem BB (w0 w:World):eU w0 (nv w0 w):=λb h=>by unfold nv; rw [if_neg (by omega)]
theorem adr {w0 w:World} {H:View} (hl:Le H w) (hf:eU w0 H):aN H (nv w0 w):=λb o h=>by
 unfold nv;rw [if_pos,hl b o h]
 rcases Nat.lt_or_ge b w0.heap.size with hb | hb
 · rw [hf b hb] at h; cases h
 · exact hb
theorem eU.mono {w w':World} {H:View} (h:eU w' H) (hs:w.heap.size<=w'.heap.size):eU w H:=λb hb=>h b (by omega)
structure Fr (F:List Nat) (w0 w:World):Prop where
 os:w.os=w0.os
 tape:w.tape=w0.tape
 output:w.output=w0.output
 size:w0.heap.size<=w.heap.size
 block:∀k,k<w0.heap.size->k ∉ F->w.heap[k]? = w0.heap[k]?
abbrev Ext (w w':World):Prop:=Fr [] w w'
theorem Fr.refl (F:List Nat) (w:World):Fr F w w:=⟨rfl,rfl,rfl,Nat.le_refl _,λ_ _ _=>rfl⟩
theorem Fr.trans {F G:List Nat} {a b c:World} (h:Fr F a b) (k:Fr G b c) (hG:∀x ∈ G,x ∈ F\/a.heap.size<=x):Fr F a c:=
 ⟨k.os.trans h.os,k.tape.trans h.tape,k.output.trans h.output,Nat.le_trans h.size k.size,λi hi hF=>
   (k.block i (Nat.lt_of_lt_of_le hi h.size) λhg=>by rcases hG i hg with h' | h'; exact hF h'; omega).trans (h.block i hi hF)⟩
theorem Ext.trans {a b c:World} (h:Ext a b) (k:Ext b c):Ext a c:=Fr.trans h k (by simp)
theorem Ext.below {w w':World} (h:Ext w w'):Below w.heap.size w w':=⟨h.os,h.tape,h.output,h.size,λk hk=>h.block k hk (by simp)⟩
theorem Ext.Nf {w w':World} (h:Below w.heap.size w w'):Ext w w':=⟨h.os,h.tape,h.output,h.size,λk hk _=>h.block k hk⟩
theorem Ext.drew (w:World):Ext w w.drew:=⟨rfl,rfl,rfl,Nat.le_refl _,λ_ _ _=>rfl⟩
theorem Ext.alloc (w:World) (o:Obj):Ext w (w.alloc o):=⟨rfl,rfl,rfl,by simp,λk hk _=>Below.heap_alloc _ _ _ hk⟩
theorem lt_of_heap {w:World} {b:Nat} {o:Obj} (h:w.heap[b]? = some o):b<w.heap.size:=by
 rcases Nat.lt_or_ge b w.heap.size with hb | hb
 · exact hb
 · rw [Array.getElem?_eq_none hb] at h; cases h
theorem Le.ext {H:View} {w w':World} (h:Le H w) (e:Ext w w'):Le H w':=λb o x=>(e.block b (lt_of_heap (h b o x)) (by simp)).trans (h b o x)
structure ao where
 ids:List Nat
 holds:World->Prop
 loc:∀w w',(∀k ∈ ids,w'.heap[k]? = w.heap[k]?)->holds w->holds w'
 BC:∀w,holds w->∀k ∈ ids,k<w.heap.size
def ab (b:Nat) (o:Obj):ao:=⟨[b],λw=>w.heap[b]? = some o,λw w' h hw=>(h b (by simp)).trans hw,λw hw k hk=>by simp at hk; subst hk; exact lt_of_heap hw⟩
structure Ws (w0:World) (F:List Nat) (L:List ao) (Vs:List View) (w:World):Prop where
 fr:Fr F w0 w
 kn:∀A ∈ L,A.holds w
 nd:(L.flatMap ao.ids).Nodup
 own:∀A ∈ L,∀k ∈ A.ids,k ∈ F\/w0.heap.size<=k
 vs:∀H ∈ Vs,Le H w
 off:∀H ∈ Vs,∀A ∈ L,∀k ∈ A.ids,H k=none
section
variable {w0 w w':World} {F:List Nat} {L L' L2:List ao} {Vs:List View}
theorem Ws.init (hV:∀H ∈ Vs,Le H w):Ws w [] [] Vs w:=⟨Fr.refl _ _,by simp,by simp,by simp,hV,by simp⟩
theorem CE {P:Program} {Q:Exit->Act->World->Prop} {n:Nat} {ds:List Deferred} {l:List (Nat×Value)} {c:Code} {w0 w:World} {F:List Nat} {L:List ao} {Vs:List View} (hw:Ws w0 F L Vs w) (h:WC P c Q n ds l (Ws w0 F L Vs)):WC P c Q n ds l (λw'=>w'=w):=
 nP (λ_ e=>by subst e; exact hw) h
theorem Ws.BD (h:Ws w0 F (L++L2) Vs w) (hf:Fr (L.flatMap ao.ids) w w') (hk:∀A ∈ L',A.holds w')
   (hn:(L'.flatMap ao.ids).Nodup) (hi:∀A ∈ L',∀k ∈ A.ids,k ∈ L.flatMap ao.ids\/w.heap.size<=k):Ws w0 F (L'++L2) Vs w':=by
 have nd:=h.nd;rw [List.flatMap_append,List.nodup_append] at nd
 have same:∀A ∈ L2,∀k ∈ A.ids,w'.heap[k]? = w.heap[k]?:=λA hA k hk=>
   hf.block k (A.BC w (h.kn A (by simp [hA])) k hk) λhm=>nd.2.2 k hm k (List.mem_flatMap.2 ⟨A,hA,hk⟩) rfl
 refine ⟨?_,?_,?_,?_,?_,?_⟩
 · refine h.fr.trans hf λx hx=>?_
   obtain ⟨A,hA,Eh⟩:=List.mem_flatMap.1 hx;exact h.own A (by simp [hA]) x Eh
 · intro A hA
   rcases List.mem_append.1 hA with hA | hA
   · exact hk A hA
   · exact A.loc w w' (same A hA) (h.kn A (by simp [hA]))
 · rw [List.flatMap_append,List.nodup_append]
   refine ⟨hn,nd.2.1,λx hx y hy e=>?_⟩;subst e;obtain ⟨A,hA,Eh⟩:=List.mem_flatMap.1 hx;obtain ⟨B,hB,Ei⟩:=List.mem_flatMap.1 hy
   rcases hi A hA x Eh with h1 | h1
   · exact nd.2.2 x h1 x hy O
   · have:=B.BC w (h.kn B (by simp [hB])) x Ei
     omega
 · intro A hA k Ej
   rcases List.mem_append.1 hA with hA | hA
   · rcases hi A hA k Ej with h1 | h1
     · obtain ⟨B,hB,Ei⟩:=List.mem_flatMap.1 h1
       exact h.own B (by simp [hB]) k Ei
     · exact .inr (Nat.le_trans h.fr.size h1)
   · exact h.own A (by simp [hA]) k Ej
 · intro H hH b o hb
   rw [hf.block b (lt_of_heap (h.vs H hH b o hb))]
   · exact h.vs H hH b o hb
   · intro hm
     obtain ⟨A,hA,Eh⟩:=List.mem_flatMap.1 hm;have:=h.off H hH A (by simp [hA]) b Eh;rw [this] at hb; cases hb
 · intro H hH A hA k Ej
   rcases List.mem_append.1 hA with hA | hA
   · rcases hi A hA k Ej with h1 | h1
     · obtain ⟨B,hB,Ei⟩:=List.mem_flatMap.1 h1
       exact h.off H hH B (by simp [hB]) k Ei
     · cases hb:H k with
       | none=>rfl
       | some o=>have:=lt_of_heap (h.vs H hH k o hb); omega
   · exact h.off H hH A (by simp [hA]) k Ej
theorem Ws.ext (h:Ws w0 F L Vs w) (e:Ext w w'):Ws w0 F L Vs w':=by
 have:=Ws.BD (L:=[]) (L':=[]) (L2:=L) (by simpa using h) (by simpa using e) (by simp) (by simp) (by simp)
 simpa using this
theorem Ws.alloc (h:Ws w0 F L Vs w) (o:Obj):Ws w0 F (ab w.heap.size o::L) Vs (w.alloc o):=by
 have:=Ws.BD (L:=[]) (L':=[ab w.heap.size o]) (L2:=L) (by simpa using h) (by simpa using Ext.alloc w o)
   (by intro A hA; simp at hA; subst hA; show (w.heap.push o)[w.heap.size]? = some o; simp) (by simp [ab]) (by simp [ab])
 simpa using this
theorem Ws.view (h:Ws w0 F L Vs w) (e:Ext w w') {H:View} (hl:Le H w') (hf:eU w H):Ws w0 F L (H::Vs) w':=by
 have g:=h.ext e;refine ⟨g.fr,g.kn,g.nd,g.own,?_,?_⟩
 · intro V hV
   rcases List.mem_cons.1 hV with rfl | hV
   · exact hl
   · exact g.vs V hV
 · intro V hV A hA k hk
   rcases List.mem_cons.1 hV with rfl | hV
   · exact hf k (A.BC w (h.kn A hA) k hk)
   · exact g.off V hV A hA k hk
theorem Ws.perm (h:Ws w0 F L Vs w) (hp:L.Perm L'):Ws w0 F L' Vs w:=
 ⟨h.fr,λA hA=>h.kn A (hp.mem_iff.2 hA),(List.Perm.flatMap_right _ hp).nodup_iff.1 h.nd,λA hA=>h.own A (hp.mem_iff.2 hA),h.vs,λH hH A hA=>h.off H hH A (hp.mem_iff.2 hA)⟩
theorem Ws.drop (h:Ws w0 F (L++L') Vs w):Ws w0 F L' Vs w:=by
 have nd:=h.nd;rw [List.flatMap_append,List.nodup_append] at nd;exact ⟨h.fr,λA hA=>h.kn A (by simp [hA]),nd.2.1,λA hA=>h.own A (by simp [hA]),h.vs,λH hH A hA=>h.off H hH A (by simp [hA])⟩
theorem Ws.bB (h:Ws w0 F L Vs w) {bc:List View} (hs:∀H ∈ bc,H ∈ Vs):Ws w0 F L bc w:=
 ⟨h.fr,h.kn,h.nd,h.own,λH hH=>h.vs H (hs H hH),λH hH=>h.off H (hs H hH)⟩
end
def dv {α:Type}:Nat->List α->List α
 | _,[]=>[]
 | 0,_::r=>r
 | i+1,x::r=>x::dv i r
theorem mR {α:Type} {x:α}:∀(i:Nat) (l:List α),l[i]? = some x->l.Perm (x::dv i l)
 | _,[],h=>by cases h
 | 0,y::r,h=>by simp at h; subst h; exact List.Perm.refl _
 | i+1,y::r,h=>by
   have:=mR i r (by simpa using h);exact (List.Perm.cons y this).trans (List.Perm.swap _ _ _)
theorem set_perm {α:Type} {x y:α}:∀(i:Nat) (l:List α),l[i]? = some x->(y::dv i l).Perm (l.set i y)
 | _,[],h=>by cases h
 | 0,z::r,_=>by simp [dv]
 | i+1,z::r,h=>by
   have:=set_perm (y:=y) i r (by simpa using h);exact (List.Perm.swap _ _ _).trans (List.Perm.cons z this)
theorem Ws.xi {w0 w w':World} {F:List Nat} {L:List ao} {Vs:List View} (h:Ws w0 F L Vs w) (i:Nat) {A B:ao} (hi:L[i]? = some A) (hf:Fr A.ids w w') (hk:B.holds w')
   (hn:B.ids.Nodup) (Ng:∀k ∈ B.ids,k ∈ A.ids\/w.heap.size<=k):Ws w0 F (L.set i B) Vs w':=by
 have h1:=h.perm (mR i L hi);have h2:=Ws.BD (L:=[A]) (L':=[B]) (L2:=dv i L) (by simpa using h1) (by simpa using hf) (by simpa using hk) (by simpa using hn) (by simpa using Ng);exact Ws.perm (by simpa using h2) (set_perm i L hi)
theorem dD {α:Type} {l:List α} {i:Nat} {x:α} (h:l[i]? = some x):x ∈ l:=List.mem_of_getElem? h
def dV (P:Program) (t:TypeId):Bool:=match P.underlying t with | some (.struct _) | some (.array _ _) | none=>false | _=>true
def fg (P:Program) (t:TypeId):Option Nat:=match P.underlying t with | some (.struct _) | some (.array _ _)=>(P.info? t).map (·.size) | _=>none
def aZ (P:Program) (t:TypeId) (f:Nat):Option Nat:=match P.underlying t with
 | some (.struct fs)=>match fs[f]? with
   | some x=>match P.info? x.type with
     | some i=>if i.size=0 then none else some x.offset
     | none=>none
   | none=>none
 | _=>none
def dQ (P:Program) (t:TypeId):Option Nat:=match P.underlying t with | some (.slice e)=>(P.info? e).map (·.size) | _=>none
section
variable {P:Program} {w:World}
theorem IB {t:TypeId} (h:dV P t=true) (w:World):(isAgg t).run P w = .ok false w:=by
 unfold dV at h
 cases hu:P.underlying t with
 | none=>simp [hu] at h
 | some d=>cases d<;>simp_all [isAgg,run_underlying hu]
theorem ads {t:TypeId} {k:Nat} (h:fg P t=some k) (w:World):(isAgg t).run P w = .ok true w/\(sizeOf t).run P w = .ok k w:=by
 unfold fg at h
 cases hu:P.underlying t with
 | none=>simp [hu] at h
 | some d=>
   cases hi:P.info? t with
   | none=>cases d<;>simp_all
   | some i=>cases d<;>simp_all [isAgg,run_underlying hu,sizeOf,typeInfo]
def g_ (o:Obj) (k:Nat):Option Value:=match o with | .cells c _ _=>c.toList[k]? | _=>none
def vc (H:View) (b k:Nat):Option Value:=(H b).bind (g_ · k)
theorem cell_of_heap {b k:Nat} {o:Obj} {v:Value} (h:w.heap[b]? = some o) (hc:g_ o k=some v):w.cell? ⟨b,k,none⟩=some v:=by
 cases o<;>simp_all [g_,World.cell?]
theorem Le.cell {H:View} (h:Le H w) {b k:Nat} {v:Value} (hc:vc H b k=some v):w.cell? ⟨b,k,none⟩=some v:=by
 unfold vc at hc
 cases hb:H b with
 | none=>simp [hb] at hc
 | some o=>simp [hb] at hc; exact cell_of_heap (h b o hb) hc
theorem aN.cell {H H':View} (h:aN H H') {b k:Nat} {v:Value} (hc:vc H b k=some v):vc H' b k=some v:=by
 unfold vc at *
 cases hb:H b with
 | none=>simp [hb] at hc
 | some o=>simp [hb] at hc; simp [h b o hb,hc]
theorem ru (b o k:Nat):(⟨b,o,none⟩:Addr).add k=⟨b,o+k,none⟩:=by unfold Addr.add; split<;>simp_all
theorem T2 {t:TypeId} (ht:dV P t=true) {b k:Nat} {v:Value} (hc:w.cell? ⟨b,k,none⟩=some v):(loadVar t ⟨b,k,none⟩).run P w = .ok v w:=by
 simp [loadVar,IB ht,hc]
theorem IC {t:TypeId} {n:Nat} (ht:fg P t=some n) {b k:Nat} {cs:List Value} (hl:cs.length=n) (hc:∀j v,cs[j]? = some v->w.cell? ⟨b,k+j,none⟩=some v) :
   (loadVar t ⟨b,k,none⟩).run P w = .ok (.agg cs.toArray) w:=by
 obtain ⟨h1,h2⟩:=ads ht w;have:=run_loadCells_list (P:=P) w ⟨b,k,none⟩ cs (λj v h=>by rw [ru]; exact hc j v h);rw [hl] at this;simp [loadVar,h1,h2,this]
end
def st (l:List UInt8):Value:=.string ⟨l.toArray⟩
section
variable {P:Program} {l:List (Nat×Value)} {W:World->Prop} {w0:World} {F:List Nat} {L:List ao} {Vs:List View}
 {d:Option Tmp} {ty:TypeId} {pos:String} {af:Array Edge} {g:Option (Nat×Bool)}
theorem Ym {x:Operand} {v:Value} (hx:aB l x=some v):Yl P l W ⟨d,.move x,ty,pos,af,g⟩ v:=λρ w aD _=>by simp [execOp,aD x v hx]
theorem Ya {x:Operand} {v:Value} (hx:aB l x=some v):Yl P l W ⟨d,.assign x,ty,pos,af,g⟩ v:=λρ w aD _=>by simp [execOp,aD x v hx]
theorem T3 {c x y:Operand} {t:Bool} {u v:Value} (hc:aB l c=some (.bool t)) (hx:aB l x=some u) (hy:aB l y=some v):Yl P l W ⟨d,.pick c x y,ty,pos,af,g⟩ (if t then u else v):=
 λρ w aD _=>by simp [execOp,aD c _ hc,aD x _ hx,aD y _ hy,asBool]
theorem aF {t u:TypeId} {x y:Operand} {k:IntKind} {a b:Int} (hx:aB l x=some (.int k a)) (hy:aB l y=some (.int k b)):Yl P l W ⟨d,.binOp .eql t x y u,ty,pos,af,g⟩ (.bool (a==b)):=
 λρ w aD _=>by simp [execOp,aD x _ hx,aD y _ hy,eqGuard,binOp,Op.intCmp]
theorem i' {t u:TypeId} {x y:Operand} {k:IntKind} {a b:Int} (hx:aB l x=some (.int k a)) (hy:aB l y=some (.int k b)):Yl P l W ⟨d,.binOp .neq t x y u,ty,pos,af,g⟩ (.bool (a != b)):=
 λρ w aD _=>by simp [execOp,aD x _ hx,aD y _ hy,eqGuard,binOp,Op.intCmp]
theorem a_ {t u:TypeId} {x y:Operand} {k:IntKind} {a b:Int} (hx:aB l x=some (.int k a)) (hy:aB l y=some (.int k b)):Yl P l W ⟨d,.binOp .lss t x y u,ty,pos,af,g⟩ (.bool (decide (a<b))):=
 λρ w aD _=>by simp [execOp,aD x _ hx,aD y _ hy,eqGuard,binOp,Op.intCmp]
theorem gL {t u:TypeId} {x y:Operand} {k:IntKind} {a b:Int} (hx:aB l x=some (.int k a)) (hy:aB l y=some (.int k b)):Yl P l W ⟨d,.binOp .leq t x y u,ty,pos,af,g⟩ (.bool (decide (a<=b))):=
 λρ w aD _=>by simp [execOp,aD x _ hx,aD y _ hy,eqGuard,binOp,Op.intCmp]
theorem bX {t u:TypeId} {x y:Operand} {k:IntKind} {a b:Int} (hx:aB l x=some (.int k a)) (hy:aB l y=some (.int k b)):Yl P l W ⟨d,.binOp .gtr t x y u,ty,pos,af,g⟩ (.bool (decide (b<a))):=
 λρ w aD _=>by simp [execOp,aD x _ hx,aD y _ hy,eqGuard,binOp,Op.intCmp]
theorem eK {t u:TypeId} {x y:Operand} {k:IntKind} {a b:Int} (hx:aB l x=some (.int k a)) (hy:aB l y=some (.int k b)):Yl P l W ⟨d,.binOp .geq t x y u,ty,pos,af,g⟩ (.bool (decide (b<=a))):=
 λρ w aD _=>by simp [execOp,aD x _ hx,aD y _ hy,eqGuard,binOp,Op.intCmp]
theorem xj {t u:TypeId} {x y:Operand} {k:IntKind} {a b:Int} (hx:aB l x=some (.int k a)) (hy:aB l y=some (.int k b)):Yl P l W ⟨d,.binOp .add t x y u,ty,pos,af,g⟩ (.int k (k.wrap (a+b))):=
 λρ w aD _=>by simp [execOp,aD x _ hx,aD y _ hy,eqGuard,binOp,Op.intArith]
theorem Nh {t u:TypeId} {x y:Operand} {k:IntKind} {a b:Int} (hx:aB l x=some (.int k a)) (hy:aB l y=some (.int k b)):Yl P l W ⟨d,.binOp .sub t x y u,ty,pos,af,g⟩ (.int k (k.wrap (a-b))):=
 λρ w aD _=>by simp [execOp,aD x _ hx,aD y _ hy,eqGuard,binOp,Op.intArith]
theorem adt {t u:TypeId} {x y:Operand} {k:IntKind} {a b:Int} (hx:aB l x=some (.int k a)) (hy:aB l y=some (.int k b)):Yl P l W ⟨d,.binOp .mul t x y u,ty,pos,af,g⟩ (.int k (k.wrap (a*b))):=
 λρ w aD _=>by simp [execOp,aD x _ hx,aD y _ hy,eqGuard,binOp,Op.intArith]
theorem ID {n:Int} (h : -9223372036854775808<=n/\n<=9223372036854775807):IntKind.i64.wrap n=n:=by rw [IntKind.wrap_i64]; omega
theorem jz {t u:TypeId} {x y:Operand} {a b:Int} (hx:aB l x=some (.int .i64 a)) (hy:aB l y=some (.int .i64 b)) (hb : -9223372036854775808<=a+b/\a+b<=9223372036854775807):Yl P l W ⟨d,.binOp .add t x y u,ty,pos,af,g⟩ (.int .i64 (a+b)):=by
 have:=xj (P:=P) (W:=W) (d:=d) (t:=t) (u:=u) (ty:=ty) (pos:=pos) (af:=af) (g:=g) hx hy
 rwa [ID hb] at this
theorem adu {t u:TypeId} {x y:Operand} {a b:Int} (hx:aB l x=some (.int .i64 a)) (hy:aB l y=some (.int .i64 b)) (hb : -9223372036854775808<=a-b/\a-b<=9223372036854775807):Yl P l W ⟨d,.binOp .sub t x y u,ty,pos,af,g⟩ (.int .i64 (a-b)):=by
 have:=Nh (P:=P) (W:=W) (d:=d) (t:=t) (u:=u) (ty:=ty) (pos:=pos) (af:=af) (g:=g) hx hy
 rwa [ID hb] at this
theorem Yi {t u:TypeId} {x y:Operand} {a:Nat} {b:Int} (hx:aB l x=some (.int .i64 (a:Int))) (hy:aB l y=some (.int .i64 b)) (h1:b=1) (hb:(a:Int)<9223372036854775807):Yl P l W ⟨d,.binOp .add t x y u,ty,pos,af,g⟩ (.int .i64 ((a+1:Nat):Int)):=by
 subst h1;have:=jz (P:=P) (W:=W) (d:=d) (t:=t) (u:=u) (ty:=ty) (pos:=pos) (af:=af) (g:=g) hx hy (by omega)
 simpa using this
theorem yW {t u:TypeId} {x y:Operand} {a b:List UInt8} (hx:aB l x=some (st a)) (hy:aB l y=some (st b)):Yl P l W ⟨d,.binOp .eql t x y u,ty,pos,af,g⟩ (.bool (a==b)):=
 λρ w aD _=>by simp [execOp,aD x _ hx,aD y _ hy,st,eqGuard,binOp,Op.stringOp]
theorem Ni {t u:TypeId} {x y:Operand} {a b:List UInt8} (hx:aB l x=some (st a)) (hy:aB l y=some (st b)):Yl P l W ⟨d,.binOp .neq t x y u,ty,pos,af,g⟩ (.bool (!(a==b))):=
 λρ w aD _=>by simp [execOp,aD x _ hx,aD y _ hy,st,eqGuard,binOp,Op.stringOp]
theorem adv {t u:TypeId} {x y:Operand} {a b:List UInt8} (hx:aB l x=some (st a)) (hy:aB l y=some (st b)) (h:a.length+b.length<=9223372036854775807):Yl P l W ⟨d,.binOp .add t x y u,ty,pos,af,g⟩ (st (a++b)):=by
 intro ρ w aD _
 have e:(Op.stringOp .add ⟨a.toArray⟩ ⟨b.toArray⟩).run P w = .ok (st (a++b)) w:=by
   rw [run_string_add_sum w _ _ (by show a.toArray.size+b.toArray.size<=_; simpa using h)];simp [st]
   rfl
 simp [execOp,aD x _ hx,aD y _ hy,st,eqGuard,binOp,e]
theorem dw {t:TypeId} {x:Operand} {b:Bool} (hx:aB l x=some (.bool b)):Yl P l W ⟨d,.unOp .not t x,ty,pos,af,g⟩ (.bool (!b)):=
 λρ w aD _=>by simp [execOp,aD x _ hx,Op.unary]
theorem aQ {x:Operand} {p:Addr} (hx:aB l x=some (.pointer (some p))):Yl P l W ⟨d,.nilCheck x,ty,pos,af,g⟩ (.pointer (some p)):=
 λρ w aD _=>by simp [execOp,aD x _ hx]
theorem Yx {x:Operand} {vs:Array Value} {i:Nat} {v:Value} (hx:aB l x=some (.tuple vs)) (hi:vs[i]? = some v):Yl P l W ⟨d,.extract x i,ty,pos,af,g⟩ v:=
 λρ w aD _=>by simp [execOp,aD x _ hx,Instr.extract,hi]
theorem Yf {t:TypeId} {x:Operand} {f o b k:Nat} (ho:aZ P t f=some k) (hx:aB l x=some (.pointer (some ⟨b,o,none⟩))):Yl P l W ⟨d,.fieldAddr t x f,ty,pos,af,g⟩ (.pointer (some ⟨b,o+k,none⟩)):=by
 intro ρ w aD _;unfold aZ at ho
 cases hu:P.underlying t with
 | none=>simp [hu] at ho
 | some dd=>
   cases dd<;>simp [hu] at ho
   rename_i fs
   cases hf:fs[f]? with
   | none=>simp [hf] at ho
   | some fd=>
     simp [hf] at ho
     cases hi:P.info? fd.type with
     | none=>simp [hi] at ho
     | some i=>
       simp [hi] at ho;obtain ⟨h0,rfl⟩:=ho;simp [execOp,aD x _ hx,Instr.fieldAt,run_underlying hu,hf,Instr.sureAddr,fieldPlace,sizeOf,typeInfo,hi,h0,ru]
theorem Nj {t:TypeId} {x y:Operand} {b o n c s:Nat} {k:IntKind} {i:Int} (hs:dQ P t=some s) (hx:aB l x=some (.slice (some ⟨b,o,none⟩) n c)) (hy:aB l y=some (.int k i)) (h0:0<=i) (h1:i<n) :
   Yl P l W ⟨d,.indexAddr t x y,ty,pos,af,g⟩ (.pointer (some ⟨b,o+i.toNat*s,none⟩)):=by
 intro ρ w aD _;unfold dQ at hs
 cases hu:P.underlying t with
 | none=>simp [hu] at hs
 | some dd=>
   cases dd<;>simp [hu] at hs
   rename_i e;obtain ⟨inf,hi,rfl⟩:=hs;simp [execOp,aD x _ hx,aD y _ hy,Instr.indexAt,run_underlying hu,asIntOf,h0,h1,sizeOf,typeInfo,hi,ru]
theorem adw {t:TypeId} {x y:Operand} {b o n c s:Nat} {k:IntKind} {i:Nat} (hs:dQ P t=some s) (hx:aB l x=some (.slice (some ⟨b,o,none⟩) n c)) (hy:aB l y=some (.int k (i:Int))) (h1:i<n) :
   Yl P l W ⟨d,.indexAddr t x y,ty,pos,af,g⟩ (.pointer (some ⟨b,o+i*s,none⟩)):=by
 have:=Nj (P:=P) (W:=W) (d:=d) (ty:=ty) (pos:=pos) (af:=af) (g:=g) hs hx hy (by omega) (by omega)
 simpa using this
theorem Yn {t:TypeId} {x:Operand} {a:Option Addr} {n c s:Nat} (hs:dQ P t=some s) (hx:aB l x=some (.slice a n c)):Yl P l W ⟨d,.call ⟨.builtin .len,#[x],#[t]⟩,ty,pos,af,g⟩ (.int .i64 (n:Int)):=by
 intro ρ w aD _;unfold dQ at hs
 cases hu:P.underlying t with
 | none=>simp [hu] at hs
 | some dd=>
   cases dd<;>simp [hu] at hs
   simp [execOp,resolve,invoke,builtin,aD x _ hx,Builtin.len_,run_underlying hu,goInt]
theorem yX {t:TypeId} {x:Operand} {s:List UInt8} (hs:P.underlying t=some .string) (hx:aB l x=some (st s)):Yl P l W ⟨d,.call ⟨.builtin .len,#[x],#[t]⟩,ty,pos,af,g⟩ (.int .i64 (s.length:Int)):=by
 intro ρ w aD _
 have e:(ByteArray.mk s.toArray).size=s.length:=by show s.toArray.size=_; simp
 simp [execOp,resolve,invoke,builtin,aD x _ hx,st,Builtin.len_,run_underlying hs,goInt,e]
theorem adx (s:List UInt8) (i:Nat):(ByteArray.mk s.toArray)[i]? = s[i]?:=by
 rcases Nat.lt_or_ge i s.length with h | h
 · rw [List.getElem?_eq_getElem h,getElem?_pos (ByteArray.mk s.toArray) i (by show i<s.toArray.size; simpa using h)]
   rfl
 · rw [List.getElem?_eq_none h,getElem?_neg (ByteArray.mk s.toArray) i (by show ¬i<s.toArray.size; simpa using h)]
theorem ady {t:TypeId} {x y:Operand} {s:List UInt8} {k:IntKind} {i:Int} {u:UInt8} (hs:P.underlying t=some .string) (hx:aB l x=some (st s)) (hy:aB l y=some (.int k i)) (h0:0<=i) (hu:s[i.toNat]? = some u) :
   Yl P l W ⟨d,.index t x y,ty,pos,af,g⟩ (.int .u8 (u.toNat:Int)):=by
 intro ρ w aD _;simp [execOp,aD x _ hx,aD y _ hy,st,Instr.index,asIntOf,run_underlying hs,h0,adx,hu]
theorem xk {t:TypeId} {x y:Operand} {s:List UInt8} {k:IntKind} {i:Nat} {u:UInt8} (hs:P.underlying t=some .string) (hx:aB l x=some (st s)) (hy:aB l y=some (.int k (i:Int))) (hu:s[i]? = some u) :
   Yl P l W ⟨d,.index t x y,ty,pos,af,g⟩ (.int .u8 (u.toNat:Int)):=ady hs hx hy (by omega) (by simpa using hu)
theorem IE {t:TypeId} {x:Operand} {b o:Nat} {v:Value} (ht:dV P t=true) (hx:aB l x=some (.pointer (some ⟨b,o,none⟩))) (hc:∀w,W w->w.cell? ⟨b,o,none⟩=some v):Yl P l W ⟨d,.load t x,ty,pos,af,g⟩ v:=
 λρ w aD hw=>by simp [execOp,aD x _ hx,Instr.loadAt,Instr.sureAddr,T2 ht (hc w hw)]
theorem Nk {t:TypeId} {x:Operand} {b o n:Nat} {cs:List Value} (ht:fg P t=some n) (hx:aB l x=some (.pointer (some ⟨b,o,none⟩))) (hl:cs.length=n) (hc:∀w,W w->∀j v,cs[j]? = some v->w.cell? ⟨b,o+j,none⟩=some v) :
   Yl P l W ⟨d,.load t x,ty,pos,af,g⟩ (.agg cs.toArray):=
 λρ w aD hw=>by simp [execOp,aD x _ hx,Instr.loadAt,Instr.sureAddr,IC ht hl (hc w hw)]
theorem bL {t:TypeId} {x:Operand} {b o:Nat} {v:Value} {H:View} (i:Nat) (ht:dV P t=true) (hx:aB l x=some (.pointer (some ⟨b,o,none⟩))) (hV:Vs[i]? = some H) (hc:vc H b o=some v) :
   Yl P l (Ws w0 F L Vs) ⟨d,.load t x,ty,pos,af,g⟩ v:=IE ht hx λ_ hw=>(hw.vs H (dD hV)).cell hc
theorem cF {t:TypeId} {x:Operand} {b o n:Nat} {cs:List Value} {H:View} (i:Nat) (ht:fg P t=some n) (hx:aB l x=some (.pointer (some ⟨b,o,none⟩))) (hV:Vs[i]? = some H) (hl:cs.length=n) (hc:∀j v,cs[j]? = some v->vc H b (o+j)=some v) :
   Yl P l (Ws w0 F L Vs) ⟨d,.load t x,ty,pos,af,g⟩ (.agg cs.toArray):=Nk ht hx hl λ_ hw j v h=>(hw.vs H (dD hV)).cell (hc j v h)
theorem Yd {t:TypeId} {x:Operand} {b o:Nat} {v:Value} {ob:Obj} (i:Nat) (hx:aB l x=some (.pointer (some ⟨b,o,none⟩))) (hL:L[i]? = some (ab b ob)) (hc:g_ ob o=some v) (ht:dV P t=true) :
   Yl P l (Ws w0 F L Vs) ⟨d,.load t x,ty,pos,af,g⟩ v:=IE ht hx λ_ hw=>cell_of_heap (hw.kn _ (dD hL)) hc
def cellsIn (o:Obj) (k n:Nat):List Value:=match o with | .cells c _ _=>(c.toList.drop k).take n | _=>[]
theorem bC {t:TypeId} {x:Operand} {b o n:Nat} {ob:Obj} (i:Nat) (hx:aB l x=some (.pointer (some ⟨b,o,none⟩))) (hL:L[i]? = some (ab b ob)) (ht:fg P t=some n) (hl:(cellsIn ob o n).length=n) :
   Yl P l (Ws w0 F L Vs) ⟨d,.load t x,ty,pos,af,g⟩ (.agg (cellsIn ob o n).toArray):=Nk ht hx hl λw hw j v h=>by
 have hk:w.heap[b]? = some ob:=hw.kn _ (dD hL);refine cell_of_heap hk ?_
 cases ob<;>simp [cellsIn,g_] at *
 rw [List.getElem?_take] at h
 split at h
 · simpa using h
 · cases h
end
def zeroOf (P:Program) (t:TypeId):Option Value:=(P.info? t).bind (·.zero)
def cG (P:Program) (t:TypeId):Option Nat:=(P.info? t).map (·.size)
theorem yY {P:Program} {t:TypeId} {z:Value} (h:zeroOf P t=some z) (w:World):(zeroValue t).run P w = .ok z w:=by
 unfold zeroOf at h
 cases hi:P.info? t with
 | none=>simp [hi] at h
 | some i=>simp [hi] at h; simp [zeroValue,typeInfo,hi,h]
theorem IF {P:Program} {t:TypeId} {k:Nat} (h:cG P t=some k) (w:World):(sizeOf t).run P w = .ok k w:=by
 unfold cG at h
 cases hi:P.info? t with
 | none=>simp [hi] at h
 | some i=>simp [hi] at h; simp [sizeOf,typeInfo,hi,h]
theorem adz (vs:List Value):∀(k off:Nat) (cells:Array Value),off+k+vs.length<=cells.size->
   ((vs.zipIdx k).foldl (λcs (p:Value×Nat)=>cs.setIfInBounds (off+p.2) p.1) cells).toList=cells.toList.take (off+k)++vs++cells.toList.drop (off+k+vs.length):=by
 induction vs with
 | nil=>intro k off cells _; simp
 | cons v r ih=>
   intro k off cells h;simp only [List.zipIdx_cons,List.foldl_cons];rw [ih (k+1) off _ (by simp at h ⊢; omega)];simp only [Array.toList_setIfInBounds];have:=list_seg_step cells.toList (off+k) v r (by simp at h ⊢; omega)
   simpa [Nat.add_assoc] using this
def dE:Value->List Value | .agg cs=>cs.toList | v=>[v]
theorem xl (v:Value):v.cells.toList=dE v:=by cases v<;>rfl
def tp (place:Nat->Option (Nat×Nat)):List Value->List (Nat×Value)->Option (List Value)
 | cells,[]=>some cells
 | cells,(i,v)::r=>match place i with
   | some (off,size)=>bif Nat.beq (dE v).length size&&Nat.ble (off+size) cells.length then tp place (cells.take off++dE v++cells.drop (off+size)) r else none
   | none=>none
theorem Ek (place:Nat->Option (Nat×Nat)):∀(parts:List (Nat×Value)) (cells:Array Value) (out:List Value),tp place cells.toList parts=some out->Instr.fill place cells parts=some out.toArray
 | [],cells,out,h=>by simp [tp] at h; simp [Instr.fill,<-h]
 | (i,v)::r,cells,out,h=>by
   simp only [tp] at h
   cases hp:place i with
   | none=>simp [hp] at h
   | some x=>
     obtain ⟨off,size⟩:=x;simp only [hp] at h
     cases hb:(Nat.beq (dE v).length size&&Nat.ble (off+size) cells.toList.length) with
     | false=>rw [hb] at h; cases h
     | true=>
       rw [hb] at h;simp only [Bool.and_eq_true] at hb;have h1:=Nat.eq_of_beq_eq_true hb.1;have h2:=Nat.le_of_ble_eq_true hb.2
       have h3:v.cells.size=size:=by rw [<-h1,<-xl]; simp
       have h4:off+v.cells.size<=cells.size:=by rw [h3]; simpa using h2
       simp only [Instr.fill,hp];rw [if_neg (by simp [h3]; rw [h3] at h4; omega)];have e:=adz v.cells.toList 0 off cells (by simpa using h4);simp only [Nat.add_zero,Array.length_toList] at e
       have e2:(v.cells.zipIdx.foldl (λcs (c,j)=>cs.setIfInBounds (off+j) c) cells)=(cells.toList.take off++dE v++cells.toList.drop (off+size)).toArray:=by
         apply Array.ext';rw [<-Array.foldl_toList,Array.toList_zipIdx];rw [h3] at e;rw [e,xl]
       rw [e2];exact Ek place r _ out (by simpa using h)
def fh (P:Program) (t:TypeId):Option (List (Nat×Nat)):=match P.underlying t with
 | some (.struct fs)=>fs.toList.mapM λf=>(cG P f.type).map (f.offset,·)
 | _=>none
theorem run_places {P:Program}:∀(fs:List Field) (pl:List (Nat×Nat)),fs.mapM (λf=>(cG P f.type).map (f.offset,·))=some pl->∀w:World,
   (fs.mapM (m:=Sem) λf=>do pure (f.offset,<-sizeOf f.type)).run P w = .ok pl w
 | [],pl,h,w=>by simp at h; subst h; simp
 | f::fs,pl,h,w=>by
   simp only [List.mapM_cons,Option.bind_eq_bind] at h
   cases hs:cG P f.type with
   | none=>simp [hs] at h
   | some k=>
     simp only [hs,Option.map_some,Option.bind_some] at h
     cases hr:fs.mapM (λf=>(cG P f.type).map (f.offset,·)) with
     | none=>simp [hr] at h
     | some rl=>
       simp [hr] at h;subst h;have ih:=run_places fs rl hr w;simp only [List.mapM_cons,Sem.run_bind,IF hs,Result.andThen_ok,Sem.run_pure,ih]
def vh (l:List (Nat×Value)):List (Nat×Operand)->Option (List (Nat×Value))
 | []=>some []
 | (i,x)::r=>match aB l x,vh l r with
   | some v,some vs=>some ((i,v)::vs)
   | _,_=>none
theorem IG {l:List (Nat×Value)} {ρ:Operand->Value} (aD:∀x u,aB l x=some u->ρ x=u):∀(ps:List (Nat×Operand)) (vs:List (Nat×Value)),vh l ps=some vs->ps.map (λp=>(p.1,ρ p.2))=vs
 | [],vs,h=>by simp [vh] at h; simp [h]
 | (i,x)::r,vs,h=>by
   simp only [vh] at h
   cases hx:aB l x with
   | none=>simp [hx] at h
   | some v=>
     cases hr:vh l r with
     | none=>simp [hx,hr] at h
     | some us=>
       simp [hx,hr] at h;subst h;simp [aD x v hx,IG aD r us hr]
def iH (l:List (Nat×Value)):List Operand->Option (List Value)
 | []=>some []
 | x::r=>match aB l x,iH l r with
   | some v,some vs=>some (v::vs)
   | _,_=>none
theorem IH {l:List (Nat×Value)} {ρ:Operand->Value} (aD:∀x u,aB l x=some u->ρ x=u):∀(ps:List Operand) (vs:List Value),iH l ps=some vs->ps.map ρ=vs
 | [],vs,h=>by simp [iH] at h; simp [h]
 | x::r,vs,h=>by
   simp only [iH] at h
   cases hx:aB l x with
   | none=>simp [hx] at h
   | some v=>
     cases hr:iH l r with
     | none=>simp [hx,hr] at h
     | some us=>
       simp [hx,hr] at h;subst h;simp [aD x v hx,IH aD r us hr]
section
variable {P:Program} {l:List (Nat×Value)} {W:World->Prop} {w0:World} {F:List Nat} {L:List ao} {Vs:List View}
 {d:Option Tmp} {ty:TypeId} {pos:String} {af:Array Edge} {g:Option (Nat×Bool)}
theorem Yb {t:TypeId} {parts:List (Nat×Operand)} {vs:List (Nat×Value)} {z:Value} {pl:List (Nat×Nat)} {out:List Value} (hz:zeroOf P t=some z) (hp:fh P t=some pl)
   (hv:vh l parts=some vs) (hf:tp (λi=>pl[i]?) (dE z) vs=some out):Yl P l W ⟨d,.build t parts.toArray,ty,pos,af,g⟩ (.agg out.toArray):=by
 intro ρ w aD _
 have e1:((parts.toArray.map λ (i,x)=>(i,ρ x)):Array (Nat×Value)).toList=vs:=by simpa using IG aD parts vs hv
 unfold fh at hp
 cases hu:P.underlying t with
 | none=>simp [hu] at hp
 | some dd=>
   cases dd<;>simp [hu] at hp
   rename_i fs;have e2:=run_places (P:=P) fs.toList pl (by simpa using hp) w
   have e3:(fs.mapM (m:=Sem) λf=>do pure (f.offset,<-sizeOf f.type)).run P w = .ok pl.toArray w:=by
     rw [Array.mapM_eq_mapM_toList,Sem.run_map,e2]; rfl
   have e4:Instr.fill (λi=>pl.toArray[i]?) z.cells vs=some out.toArray:=by
     refine Ek _ vs z.cells out ?_;rw [xl]
     simpa using hf
   simp only [execOp,Instr.build,Sem.run_bind,yY hz,Result.andThen_ok,run_underlying hu,e3,e1,e4,Sem.run_pure]
end
section
variable {P:Program} {ops:Array Oper} {Q:Exit->Act->World->Prop} {n:Nat} {ds:List Deferred} {l:List (Nat×Value)} {W:World->Prop} {w0:World} {F:List Nat} {L:List ao} {Vs:List View}
 {rest:List Oper} {d:Nat} {ty:TypeId} {pos:String} {af:Array Edge} {g:Option (Nat×Bool)}
theorem T4 (t:TypeId) (v:Value) (w:World):(newVar t v).run P w = .ok ⟨w.heap.size,0,none⟩ (w.alloc (.cells v.cells t)):=by
 simp [newVar,newRow]
theorem WL.new {op:Op} {o:Obj} {mk:Nat->Value} (hg:cP ops l g) (hn:Nat.blt d n=true)
   (hr:∀(ρ:Operand->Value) (w:World),(∀x u,aB l x=some u->ρ x=u)->Ws w0 F L Vs w->(execOp ρ ⟨some d,op,ty,pos,af,g⟩).run P w = .ok (.value (mk w.heap.size)) (w.alloc o))
   (h:∀b,WL P ops Q n ds ((d,mk b)::l) (Ws w0 F (ab b o::L) Vs) rest) :
   WL P ops Q n ds l (Ws w0 F L Vs) (⟨some d,op,ty,pos,af,g⟩::rest):=by
 refine WL.step hg λa w ha hw K hK=>?_;have:=hr a.eval w (λx u hx=>ha.eval hx) hw;simp only [Oper.wp,this,Oper.upon_value];exact hK _ _ (h w.heap.size _ _ (ha.put hn _) (hw.alloc o))
theorem WL.box {T:TypeId} {x:Operand} {v:Value} (hg:cP ops l g) (hn:Nat.blt d n=true) (hx:aB l x=some v)
   (h:∀b,WL P ops Q n ds ((d,.pointer (some ⟨b,0,none⟩))::l) (Ws w0 F (ab b (.cells v.cells T (0,0))::L) Vs) rest) :
   WL P ops Q n ds l (Ws w0 F L Vs) (⟨some d,.box T x,ty,pos,af,g⟩::rest):=
 WL.new (mk:=λb=>.pointer (some ⟨b,0,none⟩)) hg hn (λρ w aD hw=>by simp [execOp,Instr.box,aD x v hx,T4]) h
theorem Al {T:TypeId} {z:Value} (hg:cP ops l g) (hn:Nat.blt d n=true) (hz:zeroOf P T=some z)
   (h:∀b,WL P ops Q n ds ((d,.pointer (some ⟨b,0,none⟩))::l) (Ws w0 F (ab b (.cells z.cells T (0,0))::L) Vs) rest) :
   WL P ops Q n ds l (Ws w0 F L Vs) (⟨some d,.alloc T,ty,pos,af,g⟩::rest):=
 WL.new (mk:=λb=>.pointer (some ⟨b,0,none⟩)) hg hn (λρ w aD hw=>by simp [execOp,Instr.alloc,yY hz,T4]) h
def mS (ob:Obj) (o:Nat) (vs:List Value):Obj:=match ob with | .cells c T f=>.cells (c.toList.take o++vs++c.toList.drop (o+vs.length)).toArray T f | x=>x
def vi (ob:Obj) (o k:Nat):Bool:=match ob with | .cells c _ f=>Nat.ble (o+k) c.toList.length&&(Nat.beq f.1 0&&Nat.beq f.2 0) | _=>false
theorem T5 {t:TypeId} {k b o:Nat} {ob:Obj} {v:Value} {w:World} (hs:cG P t=some k) (hl:(dE v).length=k) (h1:(dE v).all (·.oneCell')=true) (hb:w.heap[b]? = some ob) (aA:vi ob o k=true) :
   (storeVar t ⟨b,o,none⟩ v).run P w = .ok () { w with heap:=w.heap.setIfInBounds b (mS ob o (dE v)) }:=by
 cases ob with
 | cells c T f=>
   obtain ⟨f1,f2⟩:=f;simp only [vi,Bool.and_eq_true] at aA;obtain ⟨h2,h3,h4⟩:=aA;have e1:=Nat.eq_of_beq_eq_true h3;have e2:=Nat.eq_of_beq_eq_true h4;subst e1; subst e2;have h2:=Nat.le_of_ble_eq_true h2;have e:=run_storeCells_at P b o T (dE v) 0 c w hb (by simp at h2 ⊢; omega) (λu hu=>List.all_eq_true.1 h1 u hu)
   have hc:v.cells.size=k:=by rw [<-hl,<-xl]; simp
   have e0:(storeVar t ⟨b,o,none⟩ v).run P w=(storeCells ⟨b,o,none⟩ (dE v)).run P w:=by
     simp [storeVar,IF hs,hc,xl]
   rw [e0,e];have II:=setRow_heap w b c (c.toList.take (o+0)++dE v++c.toList.drop (o+0+(dE v).length)).toArray T (0,0) hb;have av:=lt_of_heap hb;simp only [mS,Nat.add_zero] at II ⊢
   suffices hh:(w.setRow b (c.toList.take o++dE v++c.toList.drop (o+(dE v).length)).toArray).heap=w.heap.setIfInBounds b (.cells (c.toList.take o++dE v++c.toList.drop (o+(dE v).length)).toArray T (0,0)) by
     rw [<-hh]; rfl
   apply Array.ext_getElem?;intro j
   by_cases hj:b=j
   · subst hj
     rw [II];simp [av]
   · rw [Array.getElem?_setIfInBounds_ne hj]
     simp [World.setRow,Array.getElem?_modify,hj]
 | _=>simp [vi] at aA
theorem ak {t:TypeId} {x y:Operand} {b o k:Nat} {ob:Obj} {v:Value} (i:Nat) (hg:cP ops l g) (hx:aB l x=some (.pointer (some ⟨b,o,none⟩))) (hy:aB l y=some v) (hL:L[i]? = some (ab b ob))
   (hs:cG P t=some k) (hl:(dE v).length=k) (h1:(dE v).all (·.oneCell')=true) (aA:vi ob o k=true)
   (h:WL P ops Q n ds l (Ws w0 F (L.set i (ab b (mS ob o (dE v)))) Vs) rest) :
   WL P ops Q n ds l (Ws w0 F L Vs) (⟨none,.store t x y,ty,pos,af,g⟩::rest):=by
 refine WL.step hg λa w ha hw K hK=>?_;have hb:w.heap[b]? = some ob:=hw.kn _ (dD hL)
 have dX:(execOp a.eval ⟨none,.store t x y,ty,pos,af,g⟩).run P w = .ok .skip { w with heap:=w.heap.setIfInBounds b (mS ob o (dE v)) }:=by
   simp only [execOp,ha.eval hx,ha.eval hy,Instr.storeAt,Instr.sureAddr,Sem.run_bind,Sem.run_pure,Result.andThen_ok,T5 hs hl h1 hb aA]
 simp only [Oper.wp,dX,Oper.upon_skip];refine hK _ _ (h _ _ (ha.Ee undef) ?_);refine Ws.xi hw i hL ⟨O,O,O,by simp,λj hj dB=>?_⟩ ?_ (by simp [ab]) (by simp [ab])
 · have:b≠j:=λe=>dB (by simp [ab,e])
   simp [Array.getElem?_setIfInBounds_ne this]
 · show (w.heap.setIfInBounds b _)[b]? = _
   simp [lt_of_heap hb]
def Enters (P:Program) (f:FuncId):Prop:=∀args w,(callFunc f args).run P w = .ok (.enter f args) w
theorem enters_of {f : FuncId} {fn : Func} (hf : P.funcs[f]? = some fn) (hn : (fn.name == "runtime.NumGoroutine") = false) (hb : fn.body.isNone = false) : Enters P f := λargs w => by
 have vk : fn.name ≠ "runtime.NumGoroutine" := by simpa using hn
 have yZ:fn.body≠none:=by intro e; rw [e] at hb; cases hb
 simp [callFunc,hf,vk,yZ]
theorem Nl {ρ:Operand->Value} {dst:Option Tmp} {f:FuncId} {args:Array Operand} {ts:Array TypeId} {vs:List Value} {w:World} (hf:Enters P f) (aD:∀x u,aB l x=some u->ρ x=u) (ha:iH l args.toList=some vs) :
   (execOp ρ ⟨dst,.call ⟨.value (.func f),args,ts⟩,ty,pos,af,g⟩).run P w = .ok (.enter f vs.toArray) w:=by
 have e:args.map ρ=vs.toArray:=by
   apply Array.ext'
   simpa using IH aD _ _ ha
 have e2:ρ (.func f) = .func (.func f) #[] #[]:=aD (.func f) _ rfl;simp only [execOp,resolve,e,e2,Deferred.ofValue,Sem.run_bind,Sem.run_pure,Result.andThen_ok,invoke]
 simpa using hf _ w
theorem WL.El {ι:Type} {f:FuncId} {args:Array Operand} {ts:Array TypeId} {vs:List Value} (hg:cP ops l g) (hn:Nat.blt d n=true) (hf:Enters P f) (ha:iH l args.toList=some vs)
   (v:ι->Value) (R:ι->World->Prop) (Pn:List PanicEntry->World->Prop)
   (hC:∀w,W w->Calls P f vs.toArray w λe w'=>(∃i,e = .returned (v i)/\R i w')\/∃ch,e = .panicked ch/\Pn ch w')
   (hr:∀i,WL P ops Q n ds ((d,v i)::l) (R i) rest) (hp:∀ch,WE Q (.panic ch) n ds l (Pn ch)) :
   WL P ops Q n ds l W (⟨some d,.call ⟨.value (.func f),args,ts⟩,ty,pos,af,g⟩::rest):=by
 refine WL.step hg λa w c_ hw K hK=>?_;have dX:=Nl (P:=P) (dst:=some d) (ts:=ts) (ty:=ty) (pos:=pos) (af:=af) (g:=g) (w:=w) hf (λx u hx=>c_.eval hx) ha;simp only [Oper.wp,dX,Oper.upon_enter];refine (hC w hw).mono λe w' he=>?_
 rcases he with ⟨i,rfl,h⟩ | ⟨ch,rfl,h⟩
 · exact hK _ _ (hr i _ _ (c_.put hn _) h)
 · exact hp ch _ _ c_ h
theorem WL.call {ι:Type} {f:FuncId} {args:Array Operand} {ts:Array TypeId} {vs:List Value} (hg:cP ops l g) (hn:Nat.blt d n=true) (hf:Enters P f) (ha:iH l args.toList=some vs)
   (v:ι->Value) (R:ι->World->Prop)
   (hC:∀w,W w->Calls P f vs.toArray w λe w'=>∃i,e = .returned (v i)/\R i w')
   (hr:∀i,WL P ops Q n ds ((d,v i)::l) (R i) rest) :
   WL P ops Q n ds l W (⟨some d,.call ⟨.value (.func f),args,ts⟩,ty,pos,af,g⟩::rest):=
 WL.El hg hn hf ha v R (λ_ _=>False) (λw hw=>(hC w hw).mono λ_ _ h=>.inl h) hr (λ_ _ _ _ h=>h.elim)
theorem Lp {f:FuncId} {args:Array Operand} {ts:Array TypeId} {vs:List Value} {v:Value} (hg:cP ops l g) (hn:Nat.blt d n=true) (hf:Enters P f) (ha:iH l args.toList=some vs)
   (hC:∀w,Ws w0 F L Vs w->Calls P f vs.toArray w λe w'=>e = .returned v/\Ext w w')
   (hr:WL P ops Q n ds ((d,v)::l) (Ws w0 F L Vs) rest) :
   WL P ops Q n ds l (Ws w0 F L Vs) (⟨some d,.call ⟨.value (.func f),args,ts⟩,ty,pos,af,g⟩::rest):=by
 refine WL.step hg λa w c_ hw K hK=>?_;have dX:=Nl (P:=P) (dst:=some d) (ts:=ts) (ty:=ty) (pos:=pos) (af:=af) (g:=g) (w:=w) hf (λx u hx=>c_.eval hx) ha;simp only [Oper.wp,dX,Oper.upon_enter];refine (hC w hw).mono λe w' he=>?_;obtain ⟨rfl,h⟩:=he;exact hK _ _ (hr _ _ (c_.put hn _) (hw.ext h))
theorem Ld {ι:Type} {f:FuncId} {args:Array Operand} {ts:Array TypeId} {vs:List Value} (hg:cP ops l g) (hn:Nat.blt d n=true) (hf:Enters P f) (ha:iH l args.toList=some vs)
   (v:ι->Value) (R:View->ι->Prop)
   (hC:∀w,Ws w0 F L Vs w->Calls P f vs.toArray w λe w'=>∃i,e = .returned (v i)/\Ext w w'/\R (nv w w') i)
   (hr:∀H i,eU w0 H->R H i->WL P ops Q n ds ((d,v i)::l) (Ws w0 F L (H::Vs)) rest) :
   WL P ops Q n ds l (Ws w0 F L Vs) (⟨some d,.call ⟨.value (.func f),args,ts⟩,ty,pos,af,g⟩::rest):=by
 refine WL.step hg λa w c_ hw K hK=>?_;have dX:=Nl (P:=P) (dst:=some d) (ts:=ts) (ty:=ty) (pos:=pos) (af:=af) (g:=g) (w:=w) hf (λx u hx=>c_.eval hx) ha;simp only [Oper.wp,dX,Oper.upon_enter];refine (hC w hw).mono λe w' he=>?_;obtain ⟨i,rfl,h,hR⟩:=he;exact hK _ _ (hr (nv w w') i ((BB w w').mono hw.fr.size) hR _ _ (c_.put hn _) (hw.view h (Nd w w') (BB w w')))
end
section
variable {P:Program} {ops:Array Oper} {Q:Exit->Act->World->Prop} {n:Nat} {ds:List Deferred} {l:List (Nat×Value)} {W:World->Prop} {w0:World} {F:List Nat} {L:List ao} {Vs:List View}
 {rest:List Oper} {d:Nat} {ty:TypeId} {pos:String} {af:Array Edge} {g:Option (Nat×Bool)}
def dF (e:TypeId) (size:Nat) (v:Value) (m:Nat) (xs:List Value):ao:=
 ⟨v.ownBlock.toList,λw=>w.ownsRow 0 e size v m xs,
  λw w' h hw=>by
   obtain ⟨h1,h2⟩:=hw;refine ⟨h1,?_⟩
   rcases h2 with h2 | ⟨g,cap,cur,hv,h0,hg,r⟩
   · exact .inl h2
   · exact .inr ⟨g,cap,cur,hv,h0,by rw [h g (by simp [hv,Value.ownBlock])]; exact hg,r⟩,
  λw hw k hk=>by
   obtain ⟨h1,h2⟩:=hw
   rcases h2 with ⟨h2,_⟩ | ⟨g,cap,cur,hv,h0,hg,r⟩
   · subst h2; simp [Value.ownBlock] at hk
   · subst hv; simp [Value.ownBlock] at hk; subst hk; exact lt_of_heap hg⟩
theorem Ws.fj {w:World} (h:Ws w0 F L Vs w) (e:TypeId) (size:Nat):Ws w0 F (dF e size (.slice none 0 0) 0 []::L) Vs w:=by
 have:=Ws.BD (L:=[]) (L':=[dF e size (.slice none 0 0) 0 []]) (L2:=L) (by simpa using h) (Fr.refl _ _)
   (by intro A hA; simp at hA; subst hA; exact World.ownsRow_nil _ _ _ _) (by simp [dF,Value.ownBlock]) (by simp [dF,Value.ownBlock])
 simpa using this
theorem Ws.T6 {w:World} (h:Ws w0 F L Vs w) (i:Nat) {b m cap:Nat} {cur:Array Value} {e:TypeId} {size:Nat} (hL:L[i]? = some (ab b (.cells cur e (0,0)))) (hm:m<=cap) (hc:cap<=maxLen) (hs:cur.size=cap*size) :
   Ws w0 F (L.set i (dF e size (.slice (some ⟨b,0,none⟩) m cap) m (cur.toList.take (m*size)))) Vs w:=by
 have hb:w.heap[b]? = some (.cells cur e (0,0)):=h.kn _ (dD hL);refine Ws.xi h i hL (Fr.refl _ _) ?_ (by simp [dF,Value.ownBlock]) (by simp [dF,ab,Value.ownBlock]);exact ⟨by rw [List.length_take,Array.length_toList,hs]; exact Nat.min_eq_left (Nat.mul_le_mul_right _ hm),.inr ⟨b,cap,cur,O,Nat.zero_le _,hb,hm,hc,hs,O⟩⟩
structure fk (P:Program) (t e:TypeId) (z:Value) (size bytes:Nat):Prop where
 under:P.underlying t=some (.slice e)
 info:∃i,P.info? e=some i/\i.zero=some z/\i.size=size/\i.bytes=bytes
 zs:z.cells.size=size
 pos:0<size
def T7 (P:Program) (t:TypeId):Option (TypeId×Value×Nat×Nat):=match P.underlying t with
 | some (.slice e)=>match P.info? e with
   | some i=>match i.zero with
     | some z=>bif Nat.beq z.cells.size i.size&&Nat.blt 0 i.size then some (e,z,i.size,i.bytes) else none
     | none=>none
   | none=>none
 | _=>none
theorem iw {t e:TypeId} {z:Value} {size bytes:Nat} (h:T7 P t=some (e,z,size,bytes)):fk P t e z size bytes:=by
 unfold T7 at h
 cases hu:P.underlying t with
 | none=>simp [hu] at h
 | some dd=>
   cases dd<;>simp [hu] at h
   rename_i e'
   cases hi:P.info? e' with
   | none=>simp [hi] at h
   | some i=>
     simp [hi] at h
     cases hz:i.zero with
     | none=>simp [hz] at h
     | some z'=>
       simp only [hz] at h
       cases hb:(Nat.beq z'.cells.size i.size&&Nat.blt 0 i.size) with
       | false=>rw [hb] at h; cases h
       | true=>
         rw [hb] at h;simp at h;obtain ⟨rfl,rfl,rfl,rfl⟩:=h;simp only [Bool.and_eq_true] at hb;exact ⟨hu,⟨i,hi,hz,O,O⟩,Nat.eq_of_beq_eq_true hb.1,Nat.le_of_ble_eq_true hb.2⟩
theorem adA {t e ty:TypeId} {z v v':Value} {size bytes m c k:Nat} {a:Addr} {xs news:List Value} {w w':World} (hE:fk P t e z size bytes) (BE:w.ownsRow 0 e size v m xs)
   (hl:news.length=k*size) (BF:∀j u,news[j]? = some u->w.cell? (a.add j)=some u) (h1:∀u ∈ news,u.oneCell'=true)
   (oX:m+k<=maxLen) (vl:(m+k)*bytes<=140737488355328) (dX:(Builtin.append_ #[t,t] ty #[v,.slice (some a) k c]).run P w = .ok v' w') (xm:v' = .slice none 0 0↔v = .slice none 0 0/\k=0) :
   v'.ownBlock=v.ownBlock\/v'.ownBlock=some w.heap.size:=by
 obtain ⟨inf,hi,hz,gz,l8⟩:=hE.info;subst gz; subst l8
 have adB:((m+k:Nat):Int)<=9223372036854775807:=by simp only [maxLen] at oX; omega
 obtain ⟨hx,h2⟩:=BE
 rcases h2 with ⟨rfl,rfl⟩ | ⟨g,cap,cur,rfl,_,hg,mT,vm,iI,y7⟩
 · by_cases hk:k=0
   · exact .inl (by rw [xm.2 ⟨O,hk⟩])
   · have e2:=run_append_nil (P:=P) w t ty e inf z hE.under hi hz a k c news hl BF (by omega) (by omega) (by simp at vl; omega)
     rw [dX] at e2
     injection e2 with e2 _
     exact .inr (by rw [e2]; rfl)
 · by_cases T8:m+k<=cap
   · have e2:=run_append_room (P:=P) w t ty e inf hE.under hi g m cap cur hg a k c news hl BF h1 T8 (by
       rw [hl,iI,<-Nat.add_mul]; exact Nat.mul_le_mul_right _ T8)
     rw [dX] at e2
     injection e2 with e2 _
     exact .inl (by rw [e2]; rfl)
   · have adC:∀j v,xs[j]? = some v->w.cell? ((⟨g,0,none⟩:Addr).add j)=some v:=by
       intro j u hu;rw [ru,<-y7] at *;refine cell_of_heap hg ?_;rw [List.getElem?_take] at hu
       split at hu
       · simpa [g_] using hu
       · cases hu
     have e2:=run_append_grow (P:=P) w t ty e inf z hE.under hi hz ⟨g,0,none⟩ m cap xs hx adC a k c news hl BF (by omega) adB (growslice_fits (by omega) vl);rw [dX] at e2
     injection e2 with e2 _
     exact .inr (by rw [e2]; rfl)
theorem WL.append {t e:TypeId} {z v:Value} {size bytes m c k:Nat} {s x:Operand} {a:Addr} {xs news:List Value} (i:Nat) (hg:cP ops l g) (hn:Nat.blt d n=true) (hE:fk P t e z size bytes)
   (hs:aB l s=some v) (hx:aB l x=some (.slice (some a) k c)) (hL:L[i]? = some (dF e size v m xs))
   (hl:news.length=k*size) (BF:∀w,Ws w0 F L Vs w->∀j u,news[j]? = some u->w.cell? (a.add j)=some u) (h1:∀u ∈ news,u.oneCell'=true)
   (oX:m+k<=maxLen) (vl:(m+k)*bytes<=140737488355328)
   (h:∀v',(v' = .slice none 0 0↔v = .slice none 0 0/\k=0)->WL P ops Q n ds ((d,v')::l) (Ws w0 F (L.set i (dF e size v' (m+k) (xs++news))) Vs) rest) :
   WL P ops Q n ds l (Ws w0 F L Vs) (⟨some d,.call ⟨.builtin .append,#[s,x],#[t,t]⟩,ty,pos,af,g⟩::rest):=by
 refine WL.step hg λa' w ha hw K hK=>?_;obtain ⟨inf,hi,hz,gz,l8⟩:=hE.info;have BE:w.ownsRow 0 e size v m xs:=hw.kn _ (dD hL);obtain ⟨v',w',dX,adD,En,xm⟩:=run_append_own (P:=P) w 0 t ty e inf z size bytes hE.under hi hz gz l8 hE.zs hE.pos v m xs BE a k c news hl (BF w hw) h1 oX vl (Nat.zero_le _)
 have ry:(execOp a'.eval ⟨some d,.call ⟨.builtin .append,#[s,x],#[t,t]⟩,ty,pos,af,g⟩).run P w = .ok (.value v') w':=by
   simp only [execOp,resolve,List.map_toArray,List.map_cons,List.map_nil,ha.eval hs,ha.eval hx,Sem.run_bind,Sem.run_pure,Result.andThen_ok,invoke,builtin,dX]
 simp only [Oper.wp,ry,Oper.upon_value];refine hK _ _ (h v' xm _ _ (ha.put hn _) ?_);refine Ws.xi hw i hL ⟨En.os,En.tape,En.output,En.size,λj hj dB=>En.block j hj λe=>dB ?_⟩ adD ?_ λj hj=>?_
 · simp [dF,<-e]
 · cases hv:v'.ownBlock<;>simp [dF,hv]
 · simp only [dF,Option.mem_toList] at hj ⊢
   rcases adA hE BE hl (BF w hw) h1 oX vl dX xm with e | e
   · exact .inl (by rw [<-e]; exact hj)
   · rw [e] at hj; injection hj with hj; exact .inr (by omega)
end
section
variable {P:Program} {ops:Array Oper} {Q:Exit->Act->World->Prop} {n:Nat} {ds:List Deferred} {l:List (Nat×Value)} {W:World->Prop} {w0:World} {F:List Nat} {L:List ao} {Vs:List View}
def pV (us l:List (Nat×Value)):Bool:=us.all λp=>(lk l p.1).isNone
theorem adE {us:List (Nat×Value)} (hf:pV us l=true) {t:Nat} {u:Value} (hu:lk l t=some u):lk (us++l) t=some u:=by
 induction us with
 | nil=>exact hu
 | cons p r ih=>
   obtain ⟨k,v⟩:=p;simp only [pV,List.all_cons,Bool.and_eq_true] at hf;simp only [List.cons_append,lk]
   cases hb:Nat.beq k t with
   | false=>exact ih hf.2
   | true=>
     have:=Nat.eq_of_beq_eq_true hb;subst this;have hn:=hf.1;rw [hu] at hn;cases hn
theorem Ag.forget {a:Act} {us:List (Nat×Value)} (h:Ag n ds (us++l) a) (hf:pV us l=true):Ag n ds l a:=
 ⟨h.size,h.defs,λt u hu=>h.gd t u (adE hf hu)⟩
theorem Ag.IJ {a:Act} {l':List (Nat×Value)} (m:Nat) (h:Ag n ds l' a) (hd:l'.drop m=l) (hf:pV (l'.take m) l=true):Ag n ds l a:=by
 subst hd;rw [<-List.take_append_drop m l'] at h;exact h.forget hf
def lH (ops:Array Oper):List (Nat×Value)->List Oper->Option (List (Nat×Value))
 | l,[]=>some l
 | l,o::r=>match o.guard,o.dst with
   | some (j,b),some d=>match (ops[j]?).bind (·.dst) with
     | some dj=>match lk l dj with
       | some (.bool b')=>bif (b' != b) then lH ops ((d,undef)::l) r else none
       | some (.tuple _)=>lH ops ((d,undef)::l) r
       | _=>none
     | none=>none
   | _,_=>none
def tq (n:Nat) (os:List Oper):Bool:=os.all λo=>match o.dst with | some d=>Nat.blt d n | none=>true
theorem T9 {a:Act} {l:List (Nat×Value)} (ha:Ag n ds l a) {t:Nat} {v:Value} (h:lk l t=some v) (hv:v≠undef\/t<n):a.tmps[t]? = some v:=by
 have h1:=ha.gd t v h;rw [Array.getD_eq_getD_getElem?] at h1
 rcases Nat.lt_or_ge t a.tmps.size with av | cC
 · rw [Array.getElem?_eq_getElem av] at h1 ⊢
   simpa using h1
 · rw [Array.getElem?_eq_none cC] at h1
   rcases hv with hv | hv
   · exact absurd (by simpa using h1.symm) hv
   · rw [ha.size] at cC; omega
theorem WL.Nn {gs rest:List Oper} {l2:List (Nat×Value)}:∀{l:List (Nat×Value)},lH ops l gs=some l2->tq n gs=true->(∀a w,Ag n ds l2 a->W w->wpList P ops Q rest a w)->
   ∀a w,Ag n ds l a->W w->wpList P ops Q (gs++rest) a w:=by
 induction gs with
 | nil=>intro l hs _ h a w ha hw; simp [lH] at hs; subst hs; exact h a w ha hw
 | cons o r ih=>
   intro l hs eL h a w ha hw;simp only [lH] at hs;simp only [tq,List.all_cons,Bool.and_eq_true] at eL
   have key:∀d,o.dst=some d->Region.wanted o (yielded ops a.tmps)=false->lH ops ((d,undef)::l) r=some l2->wpList P ops Q (o::r++rest) a w:=by
     intro d hd dR IK
     have No:Nat.blt d n=true:=by have:=eL.1; rw [hd] at this; exact this
     simp only [List.cons_append,wpList,dR];rw [hd];exact ih IK eL.2 h _ _ (ha.put No undef) hw
   cases hg:o.guard with
   | none=>simp [hg] at hs
   | some jb=>
     obtain ⟨j,b⟩:=jb
     cases hd:o.dst with
     | none=>simp [hg,hd] at hs
     | some d=>
       simp only [hg,hd] at hs
       cases hj:(ops[j]?).bind (·.dst) with
       | none=>simp [hj] at hs
       | some dj=>
         simp only [hj] at hs
         cases hl:lk l dj with
         | none=>simp [hl] at hs
         | some v=>
           simp only [hl] at hs;have hv:=ha.gd dj v hl
           cases v with
           | bool b'=>
             cases hb:(b' != b) with
             | false=>simp [hb] at hs
             | true=>
               simp only [hb,cond_true] at hs;refine key d hd ?_ hs;have vg:=T9 ha hl (.inl (by simp [undef]))
               have hy:yielded ops a.tmps j=some b':=by simp [yielded,hj,vg]
               simp only [Region.wanted,hg,hy]
               cases b<;>cases b'<;>first | rfl | (simp at hb)
           | tuple vs=>
             refine key d hd ?_ hs
             have hy:yielded ops a.tmps j=none:=by
               simp only [yielded,hj,Option.bind_some];rw [Array.getD_eq_getD_getElem?] at hv
               cases ht:a.tmps[dj]? with
               | none=>rfl
               | some u=>simp [ht] at hv; simp [hv]
             simp [Region.wanted,hg,hy]
           | _=>simp at hs
theorem adF {gs rest:List Oper}:∀(a:Act) (w:World),wpList P ops (Exit.then (wpList P ops Q rest) Q) gs a w->wpList P ops Q (gs++rest) a w:=by
 induction gs with
 | nil=>intro a w h; exact h
 | cons o r ih=>
   intro a w h;simp only [List.cons_append,wpList] at h ⊢
   split
   · rename_i hw
     rw [if_pos hw] at h
     rcases h with h | ⟨h1,a2,w2,h2⟩
     · left
       unfold Oper.wp at h ⊢;unfold Oper.upon at h ⊢
       split at h
       all_goals first
         | exact ih _ _ h
         | exact h
         | (refine h.mono λe w' he=>?_
            cases e with
            | returned v=>exact ih _ _ he
            | panicked ch=>exact he
            | outgrown=>obtain ⟨a3,w3,h3⟩:=he; exact ⟨a3,w3,h3⟩)
         | exact h.mono λv w' he=>ih _ _ he
     · exact .inr ⟨h1,a2,w2,h2⟩
   · rename_i hw
     rw [if_neg hw] at h;exact ih _ _ h
theorem adG {Q':Exit->Act->World->Prop} (hq:∀e a w,Q e a w->Q' e a w) {gs:List Oper}:∀(a:Act) (w:World),wpList P ops Q gs a w->wpList P ops Q' gs a w:=by
 induction gs with
 | nil=>intro a w h; exact hq _ _ _ h
 | cons o r ih=>
   intro a w h;simp only [wpList] at h ⊢
   split
   · rename_i hw
     rw [if_pos hw] at h
     rcases h with h | ⟨h1,a2,w2,h2⟩
     · left
       unfold Oper.wp at h ⊢;unfold Oper.upon at h ⊢
       split at h
       all_goals first
         | exact ih _ _ h
         | exact hq _ _ _ h
         | exact h
         | (refine h.mono λe w' he=>?_
            cases e with
            | returned v=>exact ih _ _ he
            | panicked ch=>exact hq _ _ _ he
            | outgrown=>obtain ⟨a3,w3,h3⟩:=he; exact ⟨a3,w3,hq _ _ _ h3⟩)
         | exact h.mono λv w' he=>ih _ _ he
     · exact .inr ⟨h1,a2,w2,hq _ _ _ h2⟩
   · rename_i hw
     rw [if_neg hw] at h;exact ih _ _ h
def tr (Q:Exit->Act->World->Prop) (n:Nat) (ds:List Deferred) (l:List (Nat×Value)) (W:World->Prop) (dx:Nat) (x:Value):Exit->Act->World->Prop:=
 Exit.then (λa w=>(Ag n ds l a/\a.tmps.getD dx undef=x)/\W w) Q
theorem Gt {l':List (Nat×Value)} {dx:Nat} {x:Value} (m:Nat) (hx:lk l' dx=some x) (hd:l'.drop m=l) (hf:pV (l'.take m) l=true):WL P ops (tr Q n ds l W dx x) n ds l' W []:=
 λa w ha hw=>⟨⟨ha.IJ m hd hf,ha.gd _ _ hx⟩,hw⟩
theorem Ag.known {a:Act} (h:Ag n ds l a) {d:Nat} {v:Value} (hv:lk l d=some v):Ag n ds ((d,v)::l) a:=
 ⟨h.size,h.defs,λt u hu=>by
   simp only [lk] at hu
   cases hb:Nat.beq d t with
   | true=>
     rw [hb] at hu;have:=Nat.eq_of_beq_eq_true hb;subst this;simp at hu; subst hu;exact h.gd _ _ hv
   | false=>rw [hb] at hu; exact h.gd t u hu⟩
theorem Ag.IL {a:Act} {d:Nat} {v:Value} (h:Ag n ds ((d,v)::l) a) (hv:lk l d=some v):Ag n ds l a:=
 ⟨h.size,h.defs,λt u hu=>by
   refine h.gd t u ?_;simp only [lk]
   cases hb:Nat.beq d t with
   | true=>
     have:=Nat.eq_of_beq_eq_true hb;subst this;rw [hv] at hu
     simpa using hu
   | false=>exact hu⟩
theorem WL.Eo (m:Nat) {os:List Oper} {dj dp dx:Nat} (want:Bool) {c x:Bool} {t a b:Operand} {ty:TypeId} {pos:String} {af:Array Edge} {g:Option (Nat×Bool)} {l2:List (Nat×Value)}
   (hp:os[m]? = some ⟨some dp,.pick t a b,ty,pos,af,g⟩) (Ew:t = .tmp dj) (hb:lk l dj=some (.bool c)) (eL:tq n (os.take m)=true)
   (hg:cP ops l g) (rz:Nat.blt dp n=true)
   (gj:(a,b)=(bif want then (Operand.tmp dx,Operand.const (.bool false)) else (Operand.const (.bool true),Operand.tmp dx)))
   (hF:lH ops ((dj,.bool (!want))::l) (os.take m)=some l2) (rB:l2.drop m=(dj,.bool (!want))::l) (rC:pV (l2.take m) ((dj,.bool (!want))::l)=true)
   (hT:c=want->WL P ops (tr Q n ds ((dj,.bool want)::l) W dx (.bool x)) n ds ((dj,.bool want)::l) W (os.take m))
   (h:WL P ops Q n ds ((dp,.bool (bif want then c&&x else c||x))::l) W (os.drop (m+1))):WL P ops Q n ds l W os:=by
 intro a0 w ha hw
 have y8:os=os.take m++⟨some dp,.pick t a b,ty,pos,af,g⟩::os.drop (m+1):=by
   obtain ⟨av,he⟩:=List.getElem?_eq_some_iff.1 hp;rw [<-he,List.getElem_cons_drop av,List.take_append_drop]
 rw [y8];subst Ew
 have pick:∀(a':Act) (w':World) (r:Bool),Ag n ds l a'->W w'->(if c then a'.eval a else a'.eval b) = .bool r->r=(bif want then c&&x else c||x)->
     wpList P ops Q (⟨some dp,.pick (.tmp dj) a b,ty,pos,af,g⟩::os.drop (m+1)) a' w':=by
   intro a' w' r c_ dR hv hr;refine wpList_step λK hK=>?_;rw [if_pos (cP.wanted (o:=⟨some dp,.pick (.tmp dj) a b,ty,pos,af,g⟩) hg c_)]
   have dX:(execOp a'.eval ⟨some dp,.pick (.tmp dj) a b,ty,pos,af,g⟩).run P w' = .ok (.value (.bool r)) w':=by
     have h1:a'.eval (.tmp dj) = .bool c:=c_.gd dj _ hb;simp only [execOp,h1,asBool,Sem.run_bind,Sem.run_pure,Result.andThen_ok,hv]
   simp only [Oper.wp,dX,Oper.upon_value];exact hK _ _ (h _ _ (by rw [<-hr]; exact c_.put rz _) dR)
 by_cases hc:c=want
 · refine adF _ _ (adG (Q:=tr Q n ds ((dj,.bool want)::l) W dx (.bool x)) (λe a' w' hq=>?_) _ _ (hT hc a0 w (ha.known (by rw [<-hc]; exact hb)) hw))
   cases e with
   | normal=>
     obtain ⟨⟨c_,hx⟩,dR⟩:=hq;refine pick a' w' x (c_.IL (by rw [<-hc]; exact hb)) dR ?_ ?_
     · subst hc
       cases c
       · simp at gj; obtain ⟨rfl,rfl⟩:=gj; exact hx
       · simp at gj; obtain ⟨rfl,rfl⟩:=gj; exact hx
     · subst hc; cases c<;>rfl
   | _=>exact hq
 · have mU:c = !want:=by cases c<;>cases want<;>first | rfl | exact absurd rfl hc
   refine WL.Nn hF eL (λa' w' c_ dR=>?_) a0 w (ha.known (by rw [<-mU]; exact hb)) hw;have lI:Ag n ds l a':=(c_.IJ m rB rC).IL (by rw [<-mU]; exact hb);refine pick a' w' c lI dR ?_ ?_
   · subst mU
     cases want
     · simp at gj; obtain ⟨rfl,rfl⟩:=gj; rfl
     · simp at gj; obtain ⟨rfl,rfl⟩:=gj; rfl
   · subst mU; cases want<;>rfl
theorem La (m:Nat) {os:List Oper} {dj dp dx:Nat} {c x:Bool} {t a b:Operand} {ty:TypeId} {pos:String} {af:Array Edge} {g:Option (Nat×Bool)} {l2:List (Nat×Value)}
   (hp:os[m]? = some ⟨some dp,.pick t a b,ty,pos,af,g⟩) (Ew:t = .tmp dj) (hb:lk l dj=some (.bool c)) (eL:tq n (os.take m)=true)
   (hg:cP ops l g) (rz:Nat.blt dp n=true) (gj:(a,b)=(Operand.tmp dx,Operand.const (.bool false)))
   (hF:lH ops ((dj,.bool false)::l) (os.take m)=some l2) (rB:l2.drop m=(dj,.bool false)::l) (rC:pV (l2.take m) ((dj,.bool false)::l)=true)
   (hT:c=true->WL P ops (tr Q n ds ((dj,.bool true)::l) W dx (.bool x)) n ds ((dj,.bool true)::l) W (os.take m))
   (h:WL P ops Q n ds ((dp,.bool (c&&x))::l) W (os.drop (m+1))):WL P ops Q n ds l W os:=
 WL.Eo m true hp Ew hb eL hg rz gj hF rB rC hT h
theorem Lo (m:Nat) {os:List Oper} {dj dp dx:Nat} {c x:Bool} {t a b:Operand} {ty:TypeId} {pos:String} {af:Array Edge} {g:Option (Nat×Bool)} {l2:List (Nat×Value)}
   (hp:os[m]? = some ⟨some dp,.pick t a b,ty,pos,af,g⟩) (Ew:t = .tmp dj) (hb:lk l dj=some (.bool c)) (eL:tq n (os.take m)=true)
   (hg:cP ops l g) (rz:Nat.blt dp n=true) (gj:(a,b)=(Operand.const (.bool true),Operand.tmp dx))
   (hF:lH ops ((dj,.bool true)::l) (os.take m)=some l2) (rB:l2.drop m=(dj,.bool true)::l) (rC:pV (l2.take m) ((dj,.bool true)::l)=true)
   (hT:c=false->WL P ops (tr Q n ds ((dj,.bool false)::l) W dx (.bool x)) n ds ((dj,.bool false)::l) W (os.take m))
   (h:WL P ops Q n ds ((dp,.bool (c||x))::l) W (os.drop (m+1))):WL P ops Q n ds l W os:=
 WL.Eo m false hp Ew hb eL hg rz gj hF rB rC hT h
end
section
variable {P:Program} {ops:Array Oper} {Q:Exit->Act->World->Prop} {n:Nat} {ds:List Deferred} {l l':List (Nat×Value)} {W:World->Prop} {w0:World} {F:List Nat} {L:List ao} {Vs:List View}
 {rest:List Oper} {d:Nat} {ty:TypeId} {pos:String} {af:Array Edge} {g:Option (Nat×Bool)}
theorem ct {ι:Type} {c:Code} (U:ι->List (Nat×Value)) (l':List (Nat×Value)) (Wi:ι->World->Prop) (R:ι->Prop) (μ:ι->Nat) (i0:ι) (hR:R i0) (hE:∀p ∈ U i0++l',lk l p.1=some p.2) (hW:∀w,W w->Wi i0 w)
   (round:∀i,R i->WC P c (Exit.then (λa' w'=>∃j,μ j<μ i/\R j/\Ag n ds (U j++l') a'/\Wi j w') Q) n ds (U i++l') (Wi i)):WC P (.loop c) Q n ds l W:=
 WC.loop (λi=>U i++l') Wi R μ i0 hR hE hW round
theorem CW {ι:Type} {c:Code} (U:ι->List (Nat×Value)) (l':List (Nat×Value)) (R:ι->Prop) (μ:ι->Nat) (i0:ι) (hR:R i0) (hE:∀p ∈ U i0++l',lk l p.1=some p.2)
   (round:∀i,R i->WC P c (Exit.then (λa' w'=>∃j,μ j<μ i/\R j/\Ag n ds (U j++l') a'/\W w') Q) n ds (U i++l') W):WC P (.loop c) Q n ds l W:=
 WC.loop (λi=>U i++l') (λ_=>W) R μ i0 hR hE (λ_ h=>h) round
theorem WL.make {t e:TypeId} {x y:Operand} {kl kc:IntKind} {ln cn:Int} {z:Value} {size bytes:Nat} (hg:cP ops l g) (hn:Nat.blt d n=true) (hE:fk P t e z size bytes)
   (hx:aB l x=some (.int kl ln)) (hy:aB l y=some (.int kc cn)) (h0:0<=ln) (h1:ln<=cn) (hb:(bytes:Int)*cn<=281474976710656) (oX:cn<=9223372036854775807)
   (h:∀b,WL P ops Q n ds ((d,.slice (some ⟨b,0,none⟩) ln.toNat cn.toNat)::l) (Ws w0 F (ab b (.cells (madeCells z.cells (cn.toNat*size)) e (0,0))::L) Vs) rest) :
   WL P ops Q n ds l (Ws w0 F L Vs) (⟨some d,.makeSlice t x y,ty,pos,af,g⟩::rest):=by
 obtain ⟨inf,hi,hz,gz,l8⟩:=hE.info;refine WL.new (mk:=λb=>.slice (some ⟨b,0,none⟩) ln.toNat cn.toNat) hg hn (λρ w aD hw=>?_) h;have:=run_make (P:=P) w t e inf z hE.under hi hz kl kc ln cn h0 h1 (by rw [l8]; exact hb) oX;rw [gz] at this;simp [execOp,aD x _ hx,aD y _ hy,this]
theorem adH (v:Value) (hv:v.cells = #[v]) (k:Nat):madeCells v.cells (k*1)=(List.replicate k v).toArray:=by
 rw [hv];apply Array.ext';simp only [madeCells,Nat.mul_one];apply List.ext_getElem?;intro j
 rcases Nat.lt_or_ge j k with h | h
 · simp [h,Nat.mod_one]
 · simp [h]
theorem WL.T' {t:TypeId} {x y:Operand} {b o k:Nat} {ob:Obj} {v:Value} (i:Nat) (rG:Obj) (hg:cP ops l g) (hx:aB l x=some (.pointer (some ⟨b,o,none⟩))) (hy:aB l y=some v) (hL:L[i]? = some (ab b ob))
   (hs:cG P t=some k) (hl:(dE v).length=k) (h1:(dE v).all (·.oneCell')=true) (aA:vi ob o k=true) (he:mS ob o (dE v)=rG)
   (h:WL P ops Q n ds l (Ws w0 F (L.set i (ab b rG)) Vs) rest) :
   WL P ops Q n ds l (Ws w0 F L Vs) (⟨none,.store t x y,ty,pos,af,g⟩::rest):=ak i hg hx hy hL hs hl h1 aA (by rw [he]; exact h)
end
section
variable {P:Program} {l:List (Nat×Value)} {W:World->Prop} {w0:World} {F:List Nat} {L:List ao} {Vs:List View}
 {d:Option Tmp} {ty:TypeId} {pos:String} {af:Array Edge} {g:Option (Nat×Bool)}
theorem adI {t:TypeId} {x y:Operand} {a:Option Addr} {m c s:Nat} {k:IntKind} {h:Int} (hs:dQ P t=some s) (hx:aB l x=some (.slice a m c)) (kq:∀p,a=some p->p.spot=none) (hy:aB l y=some (.int k h)) (h0:0<=h) (h1:h<=c) :
   Yl P l W ⟨d,.slice t x none (some y) none,ty,pos,af,g⟩ (.slice a h.toNat c):=by
 intro ρ w aD _;unfold dQ at hs
 cases hu:P.underlying t with
 | none=>simp [hu] at hs
 | some dd=>
   cases dd<;>simp [hu] at hs
   rename_i e;obtain ⟨inf,hi,rfl⟩:=hs
   have ea:(if c=0 then a else a.map (·.add (0*inf.size)))=a:=by
     split
     · rfl
     · cases a with
       | none=>rfl
       | some p=>simp [Addr.add]
   have hc:h<=(c:Int):=h1;simp [execOp,aD x _ hx,aD y _ hy,Instr.sliceAt,Instr.slice,Instr.sliceBounds,Instr.sliceBound,asIntOf,run_underlying hu,sizeOf,typeInfo,hi,h0,hc]
   simpa using ea
end
def aP (H:View) (b o:Nat) (cs:List Value):Prop:=∀j v,cs[j]? = some v->vc H b (o+j)=some v
theorem aP.mono {H H':View} (h:aN H H') {b o:Nat} {cs:List Value} (r:aP H b o cs):aP H' b o cs:=λj v hv=>h.cell (r j v hv)
structure Sl {α:Type} (rd:View->Nat->Nat->α->Prop) (k:Nat) (H:View) (a:Option Addr) (c:Nat) (l:List α):Prop where
 cap:l.length<=c
 max:c<=9223372036854775807
 spot:∀p,a=some p->0<c->p.spot=none
 aO:∀i x,l[i]? = some x->∃b o,a=some ⟨b,o,none⟩/\rd H b (o+i*k) x
theorem Sl.mono {α:Type} {rd:View->Nat->Nat->α->Prop} {k:Nat} {H H':View} {a:Option Addr} {c:Nat} {l:List α} (hm:∀b o x,rd H b o x->rd H' b o x) (h:Sl rd k H a c l):Sl rd k H' a c l:=
 ⟨h.cap,h.max,h.spot,λi x hx=>let ⟨b,o,ha,hb⟩:=h.aO i x hx; ⟨b,o,ha,hm _ _ _ hb⟩⟩
theorem Sl.nil {α:Type} {rd:View->Nat->Nat->α->Prop} {k:Nat} {H:View}:Sl rd k H none 0 ([]:List α):=⟨Nat.le_refl _,by decide,by simp,by simp⟩
section
variable {P:Program} {l:List (Nat×Value)} {W:World->Prop} {d:Option Tmp} {ty:TypeId} {pos:String} {af:Array Edge} {g:Option (Nat×Bool)}
theorem Yo {t:TypeId} {x y:Operand} {a:Option Addr} {b o n c s:Nat} {k:IntKind} {i:Nat} (hs:dQ P t=some s) (hx:aB l x=some (.slice a n c)) (hy:aB l y=some (.int k (i:Int))) (ha:a=some ⟨b,o,none⟩) (h1:i<n) :
   Yl P l W ⟨d,.indexAddr t x y,ty,pos,af,g⟩ (.pointer (some ⟨b,o+i*s,none⟩)):=by subst ha; exact adw hs hx hy h1
theorem nR {t:TypeId} {x y:Operand} {a:Option Addr} {b o n c s:Nat} {k:IntKind} {i:Int} (hs:dQ P t=some s) (hx:aB l x=some (.slice a n c)) (hy:aB l y=some (.int k i)) (ha:a=some ⟨b,o,none⟩) (h0:0<=i) (h1:i<n) :
   Yl P l W ⟨d,.indexAddr t x y,ty,pos,af,g⟩ (.pointer (some ⟨b,o+i.toNat*s,none⟩)):=by subst ha; exact Nj hs hx hy h0 h1
end
section
variable {P:Program} {md:Region.Mode} {ops:Array Oper} {C:World->Prop} {Q:Exit->Act->World->Prop}
def YV (P:Program) (ops:Array Oper) (C:World->Prop) (o:Oper) (v:Value) (a:Act):Prop:=
 (Region.wanted o (yielded ops a.tmps)=true/\∀w,C w->(execOp a.eval o).run P w = .ok (.value v) w)\/
 (Region.wanted o (yielded ops a.tmps)=false/\v=undef)
theorem YV.of_same {o:Oper} {v:Value} {a a':Act} (hy:YV P ops C o v a) (he:execOp a'.eval o=execOp a.eval o)
   (hw:Region.wanted o (yielded ops a'.tmps)=Region.wanted o (yielded ops a.tmps)):YV P ops C o v a':=by
 unfold YV at *;rw [he,hw];exact hy
theorem YV.wpOp {i:Nat} {o:Oper} {v:Value} {a:Act} {w:World} (hi:ops[i]? = some o) (hy:YV P ops C o v a) (hC:C w) {K:Act->World->Prop} (h:K (a.put o.dst v) w):wpOp P ops Q i K a w:=by
 unfold Go.wpOp;simp only [hi]
 rcases hy with ⟨hw,hv⟩ | ⟨hw,rfl⟩
 · simp only [hw,if_true]
   refine .inl ?_;simp only [Oper.wp,hv w hC,Oper.upon_value];exact h
 · simp only [hw,Bool.false_eq_true,if_false]; exact h
def rH (P:Program) (md:Region.Mode) (ops:Array Oper) (C:World->Prop) (Q:Exit->Act->World->Prop):Nat->Array Bool->Act->World->Prop
 | 0,listed,a,w=>C w/\Region.ready md ops listed=[]/\Q .normal a w
 | fuel+1,listed,a,w=>C w/\(Region.ready md ops listed=[]->Q .normal a w)/\
   ∀i ∈ Region.ready md ops listed,wpOp P ops Q i (rH P md ops C Q fuel (listed.setIfInBounds i true)) a w
theorem IM:∀(fuel:Nat) (listed:Array Bool) (a:Act) (w:World),rH P md ops C Q fuel listed a w->wpAny P md ops Q fuel listed a w
 | 0,_,_,_,h=>h.2
 | fuel+1,listed,a,w,h=>⟨h.2.1,λi hi=>wpOp_mono (λa' w' h'=>IM fuel _ a' w' h') (h.2.2 i hi)⟩
theorem rH.c {fuel:Nat} {listed:Array Bool} {a:Act} {w:World} (h:rH P md ops C Q fuel listed a w):C w:=by cases fuel<;>exact h.1
theorem T_ {j:Nat} {oi oj:Oper} {v:Value} (hj:ops[j]? = some oj) (mV:oi.apart ops oj=true)
   (fy:∀cs b,oi.op≠.select cs b) (Ua:∀cs b,oj.op≠.select cs b)
   (hQ:∀c a w,Q (.panic c) (a.put oi.dst v) w->Q (.panic c) a w) {K:Act->World->Prop} {a:Act} {w:World}
   (hy:YV P ops C oi v a) (h:wpOp P ops Q j K (a.put oi.dst v) w) :
   wpOp P ops Q j (λa' w'=>YV P ops C oi v a'/\K (a'.put oi.dst v) w') a w:=by
 obtain ⟨h1,h2,h3⟩:=Oper.apart_spec mV
 have bM:∀(a:Act),YV P ops C oi v a->∀u,YV P ops C oi v (a.put oj.dst u):=λa hy u=>
   hy.of_same (execOp_put oi fy a oj.dst u h3) (wanted_put oi a oj.dst u h3)
 have adJ:∀d,YV P ops C oi v { a with defers:=d::a.defers }:=λd=>hy.of_same rfl rfl;unfold wpOp at *;simp only [hj] at *;rw [wanted_put oj a oi.dst v h1] at h
 split
 · rename_i hw
   simp only [hw,if_true] at h
   rcases h with h | ⟨Ub,adK⟩
   case inr=>exact .inr ⟨by unfold Oper.asks at *; rw [execOp_put oj Ua a oi.dst v h1] at Ub; exact Ub,adK⟩
   refine .inl ?_;unfold Oper.wp at *;rw [execOp_put oj Ua a oi.dst v h1] at h
   generalize (execOp a.eval oj).run P w=r at *
   cases r with
   | ok n w'=>
     cases n<;>simp only [Oper.upon] at h ⊢
     case value u=>exact ⟨bM a hy u,by rw [<-Act.put_comm a v u h2]; exact h⟩
     case skip=>exact ⟨bM a hy _,by rw [<-Act.put_comm a v undef h2]; exact h⟩
     case defer d=>
       refine ⟨bM _ (adJ d) _,?_⟩;rw [<-Act.put_comm _ v undef h2,<-Act.put_defers];exact h
     case enter f args=>
       refine Calls.mono h λe w'' he=>?_
       cases e with
       | returned u=>exact ⟨bM a hy u,by rw [<-Act.put_comm a v u h2]; exact he⟩
       | panicked c=>exact hQ _ _ _ he
       | outgrown=>exact he
     case row row args=>exact Rows.mono h λu w'' he=>⟨bM a hy u,by rw [<-Act.put_comm a v u h2]; exact he⟩
   | halt x w'=>
     cases x<;>simp only [Oper.upon] at h ⊢
     case panic u=>exact hQ _ _ _ h
 · rename_i hw
   simp only [hw] at h;exact ⟨bM a hy _,by rw [<-Act.put_comm a v undef h2]; exact h⟩
theorem Np {i:Nat} {oi:Oper} {v:Value} (hi:ops[i]? = some oi) (Ey:∀(j:Nat) (o:Oper) cs b,ops[j]? = some o->o.op≠.select cs b)
   (hQ:∀c a w,Q (.panic c) (a.put oi.dst v) w->Q (.panic c) a w) :
   ∀(fuel:Nat) (listed:Array Bool) (a:Act) (w:World),
     (∀j oj,ops[j]? = some oj->j≠i->listed.getD j true=false->(∀e ∈ oj.after,Region.binds md e=true->e.on≠i)->oi.apart ops oj=true)->
     i ∈ Region.ready md ops listed->YV P ops C oi v a->C w->
     rH P md ops C Q fuel (listed.setIfInBounds i true) (a.put oi.dst v) w->rH P md ops C Q (fuel+1) listed a w:=by
 intro fuel
 induction fuel with
 | zero=>
   intro listed a w _ hr hy hC H;refine ⟨hC,λh=>(by rw [h] at hr; cases hr),λj hj=>?_⟩
   by_cases i_:j=i
   · subst i_; exact hy.wpOp hi hC H
   · have:=ready_mono hj i_
     rw [H.2.1] at this;cases this
 | succ fuel ih=>
   intro listed a w Ez hr hy hC H;refine ⟨hC,λh=>(by rw [h] at hr; cases hr),λj hj=>?_⟩
   by_cases i_:j=i
   · subst i_; exact hy.wpOp hi hC H
   · have h1:=H.2.2 j (ready_mono hj i_)
     obtain ⟨EA,oj,pW,bN⟩:=mem_ready.1 hj
     have oY:∀e ∈ oj.after,Region.binds md e=true->e.on≠i:=λe he hb heq=>by
       have h1:=bN e he hb;have h0:=(mem_ready.1 hr).1;rw [heq] at h1
       rcases Nat.lt_or_ge i listed.size with h' | h'
       · simp [h'] at h0 h1; rw [h0] at h1; cases h1
       · simp [Array.getElem?_eq_none h'] at h1
     have h2:=T_ pW (Ez j oj pW i_ EA oY) (λcs b=>Ey i oi cs b hi) (λcs b=>Ey j oj cs b pW) hQ hy h1
     have Nq:∀k ok,ops[k]? = some ok->k≠i->(listed.setIfInBounds j true).getD k true=false->
         (∀e ∈ ok.after,Region.binds md e=true->e.on≠i)->oi.apart ops ok=true:=λk ok hk pX y9 dW=>by
       refine Ez k ok hk pX ?_ dW
       by_cases ku:j=k
       · subst ku; exact EA
       · rw [getD_set_ne true ku] at y9; exact y9
     refine wpOp_mono (λa' w' h3=>ih (listed.setIfInBounds j true) a' w' Nq (ready_mono hr (Ne.symm i_)) h3.1 h3.2.c ?_) h2;rw [Array.setIfInBounds_comm _ _ i_];exact h3.2
def nS (md:Region.Mode) (ops:Array Oper):List (Nat×Bool)->Array Bool->Bool
 | [],listed=>(Region.ready md ops listed).isEmpty
 | (i,q)::r,listed=>(bif q then (Region.ready md ops listed).contains i&&Region.free md ops listed i else Region.ready md ops listed==[i])&&nS md ops r (listed.setIfInBounds i true)
def nT (P:Program) (ops:Array Oper) (C:World->Prop) (Q:Exit->Act->World->Prop):List (Nat×Bool)->Act->World->Prop
 | [],a,w=>C w/\Q .normal a w
 | (i,true)::r,a,w=>C w/\∃o v,ops[i]? = some o/\YV P ops C o v a/\nT P ops C Q r (a.put o.dst v) w
 | (i,false)::r,a,w=>C w/\wpOp P ops Q i (nT P ops C Q r) a w
theorem Nr (hs:Region.noSelect ops=true) (hQ:∀c a w d v,Q (.panic c) (a.put d v) w->Q (.panic c) a w):∀(ord:List (Nat×Bool)) (listed:Array Bool) (a:Act) (w:World),
   nS md ops ord listed=true->nT P ops C Q ord a w->rH P md ops C Q ord.length listed a w
 | [],listed,a,w,hB,h=>⟨h.1,by simpa [nS] using hB,h.2⟩
 | (i,true)::r,listed,a,w,hB,h=>by
   simp only [nS,cond_true,Bool.and_eq_true] at hB;obtain ⟨hC,o,v,ho,hy,h⟩:=h
   exact Np ho (Region.noSelect_spec hs) (λc a w=>hQ c a w o.dst v) r.length listed a w (Region.free_spec ho hB.1.2) (by simpa using hB.1.1) hy hC
     (Nr hs hQ r _ _ _ hB.2 h)
 | (i,false)::r,listed,a,w,hB,h=>by
   simp only [nS,cond_false,Bool.and_eq_true,beq_iff_eq] at hB;refine ⟨h.1,λhe=>(by rw [he] at hB; cases hB.1),λj hj=>?_⟩;rw [hB.1] at hj;simp at hj;subst hj;exact wpOp_mono (λa' w' h'=>Nr hs hQ r _ _ _ hB.2 h') h.2
theorem adM {id:Nat} {a:Act} {w:World} {l:List Oper} (ord:List (Nat×Bool)) (hm:P.follows .mixedOrders=true) (hB:(Region.noSelect l.toArray&&(ord.length==l.toArray.size&&nS .any l.toArray ord (Array.replicate l.toArray.size false)))=true)
   (hQ:∀c a w d v,Q (.panic c) (a.put d v) w->Q (.panic c) a w) (h:nT P l.toArray C Q ord a w.drew):(Code.region id l.toArray true).wp P Q a w:=by
 simp only [Bool.and_eq_true,beq_iff_eq] at hB;have:=IM (md:=.any) _ _ _ _ (Nr hB.1 hQ ord _ a w.drew hB.2.2 h);rw [hB.2.1] at this;exact wp_region_any hm this
variable {n:Nat} {ds:List Deferred} {l:List (Nat×Value)} {W:World->Prop}
def WD (P:Program) (ops:Array Oper) (C:World->Prop) (Q:Exit->Act->World->Prop) (n:Nat) (ds:List Deferred) (l:List (Nat×Value)) (W:World->Prop) (ord:List (Nat×Bool)):Prop:=
 ∀a w,Ag n ds l a->W w->nT P ops C Q ord a w
theorem WC.Uc {id:Nat} {os:List Oper} (C:World->Prop) (ord:List (Nat×Bool)) (hm:P.follows .mixedOrders=true) (hB:(Region.noSelect os.toArray&&(ord.length==os.toArray.size&&nS .any os.toArray ord (Array.replicate os.toArray.size false)))=true)
   (hQ:∀c a w d v,Q (.panic c) (a.put d v) w->Q (.panic c) a w) (hW:∀w,W w->W w.drew) (h:WD P os.toArray C Q n ds l W ord):WC P (.region id os.toArray true) Q n ds l W:=
 λa w ha hw=>adM ord hm hB hQ (h a w.drew ha (hW w hw))
theorem Dq {r:List (Nat×Bool)} {i d:Nat} {op:Op} {ty:TypeId} {pos:String} {af:Array Edge} {g:Option (Nat×Bool)} {v:Value} (hi:ops[i]? = some ⟨some d,op,ty,pos,af,g⟩) (hg:cP ops l g) (hn:Nat.blt d n=true)
   (hC:∀w,W w->C w) (hy:Yl P l C ⟨some d,op,ty,pos,af,g⟩ v) (h:WD P ops C Q n ds ((d,v)::l) W r):WD P ops C Q n ds l W ((i,true)::r):=by
 intro a w ha hw;refine ⟨hC w hw,_,v,hi,.inl ⟨cP.wanted (o:=⟨some d,op,ty,pos,af,g⟩) hg ha,λw' dR=>hy a.eval w' (λx u hx=>ha.eval hx) dR⟩,h _ _ (ha.put hn v) hw⟩
theorem D0 {i d:Nat} {op:Op} {ty:TypeId} {pos:String} {af:Array Edge} {v:Value} {r:List (Nat×Bool)} (hi:ops[i]? = some ⟨some d,op,ty,pos,af,none⟩) (hC:∀w,W w->C w) (hy:Yl P l C ⟨some d,op,ty,pos,af,none⟩ v) (h:WD P ops C Q n ds ((d,v)::l) W r) (hn:Nat.blt d n=true:=by rfl):WD P ops C Q n ds l W ((i,true)::r):=Dq hi (.inl rfl) hn hC hy h
theorem De {r:List (Nat×Bool)} {i:Nat} {o:Oper} (hi:ops[i]? = some o) (hC:∀w,W w->C w) (h:WL P ops (Exit.then (nT P ops C Q r) Q) n ds l W [o]):WD P ops C Q n ds l W ((i,false)::r):=by
 intro a w ha hw;refine ⟨hC w hw,?_⟩;have:=h a w ha hw;unfold wpList at this;unfold wpOp;simp only [hi]
 split
 · rename_i dR
   rw [if_pos dR] at this
   rcases this with this | ⟨h1,a2,w2,h2⟩
   · left
     unfold Oper.wp at this ⊢;unfold Oper.upon at this ⊢
     split at this
     all_goals first
       | exact this
       | (refine this.mono λe w' he=>?_
          cases e with
          | returned v=>exact he
          | panicked ch=>exact he
          | outgrown=>obtain ⟨a3,w3,h3⟩:=he; exact ⟨a3,w3,h3⟩)
       | exact this.mono λv w' he=>he
   · exact .inr ⟨h1,a2,w2,h2⟩
 · rename_i dR
   rw [if_neg dR] at this;exact this
theorem Ed {r:List (Nat×Bool)} (h:WD P ops C Q n ds l W r):WE (Exit.then (nT P ops C Q r) Q) .normal n ds l W:=h
theorem WD.nil (hC:∀w,W w->C w) (h:WE Q .normal n ds l W):WD P ops C Q n ds l W []:=λa w ha hw=>⟨hC w hw,h a w ha hw⟩
theorem Ws.drew {w0 w:World} {F:List Nat} {L:List ao} {Vs:List View} (h:Ws w0 F L Vs w):Ws w0 F L Vs w.drew:=h.ext (Ext.drew w)
theorem Ws.out {w0 w:World} {F:List Nat} {L:List ao} {Vs:List View} (i:Nat) (h:Ws w0 F L Vs w):Ws w0 F (dv i L) Vs w:=by
 cases hx:L[i]? with
 | none=>
   have:dv i L=L:=by
     clear h
     induction L generalizing i with
     | nil=>cases i<;>rfl
     | cons x r ih=>
       cases i with
       | zero=>simp at hx
       | succ i=>simp only [dv]; rw [ih i (by simpa using hx)]
   rw [this]; exact h
 | some x=>exact Ws.drop (L:=[x]) (h.perm (mR i L hx))
end
section
variable {P:Program} {ops:Array Oper} {Q:Exit->Act->World->Prop} {n:Nat} {ds:List Deferred} {l l':List (Nat×Value)} {W:World->Prop} {w0:World} {F:List Nat} {L:List ao} {Vs:List View}
 {rest:List Oper} {d:Nat} {ty:TypeId} {pos:String} {af:Array Edge} {g:Option (Nat×Bool)}
def xn (z:Value) (k:Nat):List Value:=(List.range k).map λi=>((dE z)[i % (dE z).length]?).getD undef
theorem adN (z:Value) (k:Nat) (hz:0<z.cells.size):((Array.range k).map (z.cells[· % z.cells.size]!):Array Value).toList=xn z k:=by
 simp only [Array.toList_map,Array.toList_range,xn];apply List.map_congr_left;intro i _;have av:i % z.cells.size<z.cells.size:=Nat.mod_lt _ hz
 have e:(dE z).length=z.cells.size:=by rw [<-xl]; simp
 rw [e,<-xl];simp [av]
theorem WL.IN {t e:TypeId} {len size bytes:Nat} {parts:List (Nat×Operand)} {z:Value} {vs:List (Nat×Value)} {out:List Value} (hg:cP ops l g) (hn:Nat.blt d n=true) (hE:fk P t e z size bytes)
   (hv:vh l parts=some vs) (hb:Nat.ble (len*size) 16777216=true) (hf:tp (λi=>some (i*size,size)) (bif Nat.beq (len*size) 0 then [] else xn z (len*size)) vs=some out)
   (h:∀b,WL P ops Q n ds ((d,.slice (some ⟨b,0,none⟩) len len)::l) (Ws w0 F (ab b (.cells out.toArray e (0,0))::L) Vs) rest) :
   WL P ops Q n ds l (Ws w0 F L Vs) (⟨some d,.buildSlice t len parts.toArray,ty,pos,af,g⟩::rest):=by
 obtain ⟨inf,hi,hz,gz,l8⟩:=hE.info;have yZ:=Nat.le_of_ble_eq_true hb;refine WL.new (mk:=λb=>.slice (some ⟨b,0,none⟩) len len) hg hn (λρ w aD hw=>?_) h
 have e1:((parts.toArray.map λ (i,x)=>(i,ρ x)):Array (Nat×Value)).toList=vs:=by simpa using IG aD parts vs hv
 have hzs:zeroOf P e=some z:=by simp [zeroOf,hi,hz]
 have Ud:cG P e=some size:=by simp [cG,hi,gz]
 have oY:¬len*size > 2 ^ 24:=by omega
 by_cases h0:len*size=0
 · have Nt:Instr.fill (λi=>some (i*size,size)) #[] vs=some out.toArray:=by
     refine Ek _ vs #[] out ?_
     simpa [h0] using hf
   simp only [execOp,Instr.buildSlice,Sem.run_bind,run_underlying hE.under,Result.andThen_ok,IF Ud,if_neg oY,Sem.run_pure,if_pos h0,e1];simp [h0,Nt,newRow,Array.range_zero']
 · have Nt:Instr.fill (λi=>some (i*size,size)) ((Array.range (len*size)).map (z.cells[· % z.cells.size]!)) vs=some out.toArray:=by
     refine Ek _ vs _ out ?_;rw [adN z _ (by rw [hE.zs]; exact hE.pos)]
     have:Nat.beq (len*size) 0=false:=by
       cases hbq:Nat.beq (len*size) 0 with
       | false=>rfl
       | true=>exact absurd (Nat.eq_of_beq_eq_true hbq) h0
     simpa [this] using hf
   simp only [execOp,Instr.buildSlice,Sem.run_bind,run_underlying hE.under,Result.andThen_ok,IF Ud,if_neg oY,Sem.run_pure,if_neg h0,e1,yY hzs,Nt];simp [newRow]
theorem Uf {ρ:Operand->Value} {dst:Option Tmp} {f:FuncId} {cx:Operand} {eV:Array Value} {args:Array Operand} {ts:Array TypeId} {vs:List Value} {w:World} (hf:Enters P f) (aD:∀x u,aB l x=some u->ρ x=u)
   (rI:aB l cx=some (.func (.func f) #[] eV)) (ha:iH l args.toList=some vs) :
   (execOp ρ ⟨dst,.call ⟨.value cx,args,ts⟩,ty,pos,af,g⟩).run P w = .ok (.enter f (vs.toArray++eV)) w:=by
 have e:args.map ρ=vs.toArray:=by
   apply Array.ext'
   simpa using IH aD _ _ ha
 simp only [execOp,resolve,e,aD cx _ rI,Deferred.ofValue,Sem.run_bind,Sem.run_pure,Result.andThen_ok,invoke]
 simpa using hf _ w
theorem WL.adQ {ι:Type} {f:FuncId} {cx:Operand} {eV:Array Value} {args:Array Operand} {ts:Array TypeId} {vs:List Value} (hg:cP ops l g) (hn:Nat.blt d n=true) (hf:Enters P f) (rI:aB l cx=some (.func (.func f) #[] eV)) (ha:iH l args.toList=some vs)
   (v:ι->Value) (R:ι->World->Prop) (Pn:List PanicEntry->World->Prop)
   (hC:∀w,W w->Calls P f (vs.toArray++eV) w λe w'=>(∃i,e = .returned (v i)/\R i w')\/∃ch,e = .panicked ch/\Pn ch w')
   (hr:∀i,WL P ops Q n ds ((d,v i)::l) (R i) rest) (hp:∀ch,WE Q (.panic ch) n ds l (Pn ch)) :
   WL P ops Q n ds l W (⟨some d,.call ⟨.value cx,args,ts⟩,ty,pos,af,g⟩::rest):=by
 refine WL.step hg λa w c_ hw K hK=>?_;have dX:=Uf (P:=P) (dst:=some d) (ts:=ts) (ty:=ty) (pos:=pos) (af:=af) (g:=g) (w:=w) hf (λx u hx=>c_.eval hx) rI ha;simp only [Oper.wp,dX,Oper.upon_enter];refine (hC w hw).mono λe w' he=>?_
 rcases he with ⟨i,rfl,h⟩ | ⟨ch,rfl,h⟩
 · exact hK _ _ (hr i _ _ (c_.put hn _) h)
 · exact hp ch _ _ c_ h
theorem WL.IP {f:FuncId} {cx:Operand} {eV:Array Value} {args:Array Operand} {ts:Array TypeId} {vs:List Value} {v:Value} (hg:cP ops l g) (hn:Nat.blt d n=true) (hf:Enters P f) (rI:aB l cx=some (.func (.func f) #[] eV)) (ha:iH l args.toList=some vs)
   (hC:∀w,Ws w0 F L Vs w->Calls P f (vs.toArray++eV) w λe w'=>e = .returned v/\Ext w w')
   (hr:WL P ops Q n ds ((d,v)::l) (Ws w0 F L Vs) rest) :
   WL P ops Q n ds l (Ws w0 F L Vs) (⟨some d,.call ⟨.value cx,args,ts⟩,ty,pos,af,g⟩::rest):=by
 refine WL.step hg λa w c_ hw K hK=>?_;have dX:=Uf (P:=P) (dst:=some d) (ts:=ts) (ty:=ty) (pos:=pos) (af:=af) (g:=g) (w:=w) hf (λx u hx=>c_.eval hx) rI ha;simp only [Oper.wp,dX,Oper.upon_enter];refine (hC w hw).mono λe w' he=>?_;obtain ⟨rfl,h⟩:=he;exact hK _ _ (hr _ _ (c_.put hn _) (hw.ext h))
theorem WE.Ug {fn:Func} {R:Ending->World->Prop} {a b o k:Nat} {t:TypeId} {ob:Obj} (i:Nat) (hr:fn.results = #[.cell a t]) (ha:lk l a=some (.pointer (some ⟨b,o,none⟩))) (hL:L[i]? = some (ab b ob)) (ht:fg P t=some k) (hl:(cellsIn ob o k).length=k)
   (h:∀w,Ws w0 F L Vs w->R (.returned (.agg (cellsIn ob o k).toArray)) w):WE (bodyPost P fn R) .ret n [] l (Ws w0 F L Vs):=by
 intro A w hA hw
 have dX:(loadVar t ⟨b,o,none⟩).run P w = .ok (.agg (cellsIn ob o k).toArray) w:=IC ht hl λj v hj=>by
   have hk:w.heap[b]? = some ob:=hw.kn _ (dD hL);refine cell_of_heap hk ?_
   cases ob<;>simp [cellsIn,g_] at *
   rw [List.getElem?_take] at hj
   split at hj
   · simpa using hj
   · cases hj
 refine bodyPost_ret (v:=.agg (cellsIn ob o k).toArray) ?_ hA.defs (h w hw);have c_:=hA.gd a _ ha;rw [Array.getD_eq_getD_getElem?] at c_;simp [results,hr,c_,asAddr,dX]
theorem WE.xo {fn:Func} {R:Ending->World->Prop} {a b o k u:Nat} {x:Value} {t:TypeId} {ob:Obj} (i:Nat) (hr:fn.results = #[.cell a t,.tmp u]) (ha:lk l a=some (.pointer (some ⟨b,o,none⟩))) (hu:lk l u=some x) (hL:L[i]? = some (ab b ob)) (ht:fg P t=some k) (hl:(cellsIn ob o k).length=k)
   (h:∀w,Ws w0 F L Vs w->R (.returned (.tuple #[.agg (cellsIn ob o k).toArray,x])) w):WE (bodyPost P fn R) .ret n [] l (Ws w0 F L Vs):=by
 intro A w hA hw
 have dX:(loadVar t ⟨b,o,none⟩).run P w = .ok (.agg (cellsIn ob o k).toArray) w:=IC ht hl λj v hj=>by
   have hk:w.heap[b]? = some ob:=hw.kn _ (dD hL);refine cell_of_heap hk ?_
   cases ob<;>simp [cellsIn,g_] at *
   rw [List.getElem?_take] at hj
   split at hj
   · simpa using hj
   · cases hj
 refine bodyPost_ret (v:=.tuple #[.agg (cellsIn ob o k).toArray,x]) ?_ hA.defs (h w hw);have c_:=hA.gd a _ ha;have BG:=hA.gd u _ hu;rw [Array.getD_eq_getD_getElem?] at c_ BG;simp [results,hr,c_,BG,asAddr,dX]
end
theorem Ws.Uh {w0 w:World} {L:List ao} {Vs:List View} (h:Ws w0 [] L Vs w) (i:Nat) {b:Nat} {ob:Obj} (hL:L[i]? = some (ab b ob)) {k:Nat} {v:Value} (hc:g_ ob k=some v):vc (nv w0 w) b k=some v:=by
 have hb:w.heap[b]? = some ob:=h.kn _ (dD hL);have ho:=h.own _ (dD hL) b (by simp [ab]);simp at ho;unfold vc nv;rw [if_pos ho,hb];exact hc
theorem Ws.nvs {w0 w:World} {L:List ao} {Vs:List View} (h:Ws w0 [] L Vs w) (i:Nat) {e:TypeId} {size m:Nat} {v:Value} {xs:List Value} (hL:L[i]? = some (dF e size v m xs)) :
   (v = .slice none 0 0/\xs=[])\/∃b c,v = .slice (some ⟨b,0,none⟩) m c/\m<=c/\c<=maxLen/\∀j u,xs[j]? = some u->vc (nv w0 w) b j=some u:=by
 obtain ⟨h1,h2⟩:=(h.kn _ (dD hL):w.ownsRow 0 e size v m xs)
 rcases h2 with ⟨rfl,rfl⟩ | ⟨b,cap,cur,rfl,_,hb,hm,hc,hs,ht⟩
 · exact .inl ⟨O,by cases xs; rfl; simp at h1⟩
 · refine .inr ⟨b,cap,O,hm,hc,λj u hu=>?_⟩
   have ho:=h.own _ (dD hL) b (by simp [dF,Value.ownBlock]);simp at ho;unfold vc nv;rw [if_pos ho,hb];rw [<-ht,List.getElem?_take] at hu
   split at hu
   · simpa [g_] using hu
   · cases hu
theorem xq {α:Type} {f:α->List Value} {k:Nat} (hf:∀x,(f x).length=k):∀l:List α,(l.flatMap f).length=l.length*k
 | []=>by simp
 | x::r=>by simp [hf,xq hf r,Nat.add_mul]; omega
theorem IQ {α:Type} {f:α->List Value} {k:Nat} (hf:∀x,(f x).length=k):∀(l:List α) (i:Nat) (x:α),l[i]? = some x->
   l.flatMap f=(l.take i).flatMap f++f x++(l.drop (i+1)).flatMap f
 | [],i,x,h=>by simp at h
 | y::r,0,x,h=>by simp at h; simp [h]
 | y::r,i+1,x,h=>by
   have:=IQ hf r i x (by simpa using h);simp only [List.flatMap_cons,List.take_succ_cons,List.drop_succ_cons];rw [this];simp
theorem pY {α:Type} {f:α->List Value} {k:Nat} (hf:∀x,(f x).length=k) {l:List α} {i:Nat} {x:α} (h:l[i]? = some x) {j:Nat} (hj:j<k):(l.flatMap f)[i*k+j]? = (f x)[j]?:=by
 have hi:=(List.getElem?_eq_some_iff.1 h).1
 have e1:((l.take i).flatMap f).length=i*k:=by rw [xq hf,List.length_take,Nat.min_eq_left (by omega)]
 rw [IQ hf l i x h,List.append_assoc,List.getElem?_append_right (by omega),e1,Nat.add_sub_cancel_left,List.getElem?_append_left (by rw [hf]; exact hj)]
theorem adS {α:Type} {f:α->List Value} {k:Nat} (hf:∀x,(f x).length=k) {l:List α} {i:Nat} {x y:α} (h:l[i]? = some x) {j:Nat} {vs:List Value} (hj:j+vs.length<=k) (hy:f y=(f x).take j++vs++(f x).drop (j+vs.length)) :
   (l.flatMap f).take (i*k+j)++vs++(l.flatMap f).drop (i*k+j+vs.length)=(l.set i y).flatMap f:=by
 have hi:=(List.getElem?_eq_some_iff.1 h).1
 have e1:((l.take i).flatMap f).length=i*k:=by rw [xq hf,List.length_take,Nat.min_eq_left (by omega)]
 have h2:(l.set i y)[i]? = some y:=by simp [hi]
 rw [IQ hf (l.set i y) i y h2,IQ hf l i x h,hy];have ht:(l.set i y).take i=l.take i:=List.take_set_of_le (Nat.le_refl i);have hd:(l.set i y).drop (i+1)=l.drop (i+1):=List.drop_set_of_lt (by omega);rw [ht,hd]
 generalize hA:(l.take i).flatMap f=A at *
 generalize hB:(l.drop (i+1)).flatMap f=B at *
 have t1:(A++f x++B).take (i*k+j)=A++(f x).take j:=by
   rw [List.append_assoc,List.take_append,e1,List.take_of_length_le (by omega),Nat.add_sub_cancel_left,List.take_append_of_le_length (by rw [hf]; omega)]
 have t2:(A++f x++B).drop (i*k+j+vs.length)=(f x).drop (j+vs.length)++B:=by
   rw [List.append_assoc,List.drop_append,e1,List.drop_of_length_le (by omega),List.nil_append,List.drop_append,hf]
   have e3:i*k+j+vs.length-i*k=j+vs.length:=by omega
   rw [e3]
   have e4:j+vs.length-k=0:=by omega
   simp [e4]
 rw [t1,t2];simp
section
variable {P:Program} {ops:Array Oper} {Q:Exit->Act->World->Prop} {n:Nat} {ds:List Deferred} {l l':List (Nat×Value)} {W:World->Prop} {w0:World} {F:List Nat} {L:List ao} {Vs:List View}
 {rest:List Oper} {d:Nat} {ty:TypeId} {pos:String} {af:Array Edge} {g:Option (Nat×Bool)}
theorem WL.EB {b m cap:Nat} {cur:Array Value} {e:TypeId} {size:Nat} (i:Nat) (hL:L[i]? = some (ab b (.cells cur e (0,0)))) (hm:m<=cap) (hc:cap<=maxLen) (hs:cur.size=cap*size)
   (h:WL P ops Q n ds l (Ws w0 F (L.set i (dF e size (.slice (some ⟨b,0,none⟩) m cap) m (cur.toList.take (m*size)))) Vs) rest):WL P ops Q n ds l (Ws w0 F L Vs) rest:=
 LW (λ_ hw=>hw.T6 i hL hm hc hs) h
end
section
variable {P:Program} {l:List (Nat×Value)} {W:World->Prop} {d:Option Tmp} {ty:TypeId} {pos:String} {af:Array Edge} {g:Option (Nat×Bool)}
theorem Ui {t u:TypeId} {x:Operand} {a:Option Addr} {m c s:Nat} (hs:dQ P t=some s) (hx:aB l x=some (.slice a m c)):Yl P l W ⟨d,.binOp .eql t x (.const (.slice none 0 0)) u,ty,pos,af,g⟩ (.bool a.isNone):=by
 intro ρ w aD _;unfold dQ at hs
 cases hu:P.underlying t with
 | none=>simp [hu] at hs
 | some dd=>
   cases dd<;>simp [hu] at hs
   have hy:ρ (.const (.slice none 0 0)) = .slice none 0 0:=aD _ _ rfl;rename_i el
   have e:(binOp .eql t (.slice a m c) (.slice none 0 0)).run P w = .ok (.bool a.isNone) w:=by
     simp only [binOp];simp [Op.equal,Op.maxDepth,Lib.run_equalIn_slice_nil w 9999 t el a m c 0 0 hu]
   simp only [execOp,aD x _ hx,hy,eqGuard,Sem.run_bind];simp [e]
end
section
variable {P:Program} {ops:Array Oper} {Q:Exit->Act->World->Prop} {n:Nat} {ds:List Deferred} {l l':List (Nat×Value)} {W:World->Prop} {w0:World} {F:List Nat} {L:List ao} {Vs:List View}
 {rest:List Oper} {d:Nat} {ty:TypeId} {pos:String} {af:Array Edge} {g:Option (Nat×Bool)}
theorem Lf {A:ao} (i:Nat) (hL:L[i]? = some A) (h:WL P ops Q n ds l (Ws w0 F (A::dv i L) Vs) rest):WL P ops Q n ds l (Ws w0 F L Vs) rest:=
 LW (λ_ hw=>hw.perm (mR i L hL)) h
theorem WC.front {c:Code} {A:ao} (i:Nat) (hL:L[i]? = some A) (h:WC P c Q n ds l (Ws w0 F (A::dv i L) Vs)):WC P c Q n ds l (Ws w0 F L Vs):=
 nP (λ_ hw=>hw.perm (mR i L hL)) h
theorem Ws.self {w:World} {L1 L2:List ao} (h:Ws w0 F (L1++L2) Vs w):Ws w (L1.flatMap ao.ids) L1 Vs w:=by
 have nd:=h.nd;rw [List.flatMap_append,List.nodup_append] at nd;exact ⟨Fr.refl _ _,λA hA=>h.kn A (by simp [hA]),nd.1,λA hA k hk=>.inl (List.mem_flatMap.2 ⟨A,hA,hk⟩),h.vs,λH hH A hA=>h.off H hH A (by simp [hA])⟩
theorem Ws.back {w w':World} {L1 eM L2:List ao} {bc:List View} (h:Ws w0 F (L1++L2) Vs w) (g:Ws w (L1.flatMap ao.ids) eM bc w'):Ws w0 F (eM++L2) Vs w':=
 Ws.BD h g.fr g.kn g.nd g.own
theorem Lw {ι:Type} {f:FuncId} {args:Array Operand} {ts:Array TypeId} {vs:List Value} (L1 L2:List ao) (hg:cP ops l g) (hn:Nat.blt d n=true) (hf:Enters P f) (ha:iH l args.toList=some vs) (hL:L=L1++L2)
   (v:ι->Value) (eM:ι->List ao) (R:ι->Prop) (bc:List View) (hV:∀H ∈ bc,H ∈ Vs)
   (hC:∀w,Ws w (L1.flatMap ao.ids) L1 bc w->Calls P f vs.toArray w λe w'=>∃i,e = .returned (v i)/\R i/\Ws w (L1.flatMap ao.ids) (eM i) bc w')
   (hr:∀i,R i->WL P ops Q n ds ((d,v i)::l) (Ws w0 F (eM i++L2) Vs) rest) :
   WL P ops Q n ds l (Ws w0 F L Vs) (⟨some d,.call ⟨.value (.func f),args,ts⟩,ty,pos,af,g⟩::rest):=by
 subst hL;refine WL.call hg hn hf ha v (λi w'=>R i/\Ws w0 F (eM i++L2) Vs w') (λw hw=>(hC w (hw.self.bB hV)).mono λe w' ⟨i,he,hR,h⟩=>⟨i,he,hR,hw.back h⟩) λi=>?_;intro a w c_ hw;exact hr i hw.1 a w c_ hw.2
theorem fl {f:FuncId} {args:Array Operand} {ts:Array TypeId} {vs:List Value} (L1 L2 eM:List ao) (hg:cP ops l g) (hn:Nat.blt d n=true) (hf:Enters P f) (ha:iH l args.toList=some vs) (hL:L=L1++L2)
   (bc:List View) (hV:∀H ∈ bc,H ∈ Vs)
   (hC:∀w,Ws w (L1.flatMap ao.ids) L1 bc w->Calls P f vs.toArray w λe w'=>e = .returned (.tuple #[])/\Ws w (L1.flatMap ao.ids) eM bc w')
   (hr:WL P ops Q n ds ((d,.tuple #[])::l) (Ws w0 F (eM++L2) Vs) rest) :
   WL P ops Q n ds l (Ws w0 F L Vs) (⟨some d,.call ⟨.value (.func f),args,ts⟩,ty,pos,af,g⟩::rest):=
 Lw (ι:=Unit) L1 L2 hg hn hf ha hL (λ_=>.tuple #[]) (λ_=>eM) (λ_=>True) bc hV (λw hw=>(hC w hw).mono λe w' ⟨h1,h2⟩=>⟨(),h1,trivial,h2⟩) (λ_ _=>hr)
end
def hv (w:World):View:=λb=>w.heap[b]?
theorem ix (w:World):Le (hv w) w:=λ_ _ h=>h
theorem IS {w:World} {b k:Nat} {ob:Obj} {v:Value} (h:w.heap[b]? = some ob) (hc:g_ ob k=some v):vc (hv w) b k=some v:=by simp [vc,hv,h,hc]
theorem mW {w:World} {H:View} (h:Le H w):aN H (hv w):=λb o hb=>h b o hb
theorem Ws.hP {w0 w:World} {F:List Nat} {L:List ao} {Vs:List View} (h:Ws w0 F L Vs w) (i:Nat) {b:Nat} {ob:Obj} (hL:L[i]? = some (ab b ob)) {k:Nat} {v:Value} (hc:g_ ob k=some v):vc (hv w) b k=some v:=
 IS (h.kn _ (dD hL)) hc
section
variable {P:Program} {ops:Array Oper} {Q:Exit->Act->World->Prop} {n:Nat} {ds:List Deferred} {l l':List (Nat×Value)} {W:World->Prop} {w0:World} {F:List Nat} {L:List ao} {Vs:List View} {rest:List Oper}
theorem bI {b:Nat} {ob:Obj} (i:Nat) (rG:Obj) (hL:L[i]? = some (ab b ob)) (he:ob=rG) (h:WL P ops Q n ds l (Ws w0 F (L.set i (ab b rG)) Vs) rest):WL P ops Q n ds l (Ws w0 F L Vs) rest:=by
 subst he
 have:L.set i (ab b ob)=L:=by
   obtain ⟨hi,he⟩:=List.getElem?_eq_some_iff.1 hL;rw [<-he];exact List.set_getElem_self hi
 rwa [this] at h
end
def EC (P:Program) (t:TypeId):Option Nat:=match P.underlying t with | some (.int _)=>some 0 | some .string=>some 1 | some .bool=>some 2 | _=>none
def BH (P:Program):Nat->List Field->Option (List Nat)
 | _,[]=>some []
 | i, f :: r => bif Nat.beq f.offset i && !(f.name == "_") then (match EC P f.type, BH P (i + 1) r with | some k, some ks => some (k :: ks) | _, _ => none) else none
def BI (P:Program) (t:TypeId):Option (List Nat):=match P.underlying t with
 | some (.struct fs)=>bif P.stoodInHeld t||P.eqGuardType P.depth t then none else BH P 0 fs.toList
 | _=>none
def iJ:List Nat->List Value->List Value->Option Bool
 | [],[],[]=>some true
 | 0::ks,.int k a::xs,.int k' b::ys=>match iJ ks xs ys with | some r=>if k=k' then some ((a==b)&&r) else none | none=>none
 | 1::ks,.string a::xs,.string b::ys=>match iJ ks xs ys with | some r=>some ((a.data.toList==b.data.toList)&&r) | none=>none
 | 2::ks,.bool a::xs,.bool b::ys=>match iJ ks xs ys with | some r=>some ((a==b)&&r) | none=>none
 | _,_,_=>none
section
variable {P:Program}
theorem Uj {t:TypeId} {k:Nat} (h:EC P t=some k) (cs:Array Value) (off:Nat) (v:Value) (hv:cs[off]? = some v) (w:World):(part t cs off).run P w = .ok v w:=by
 have hn:dV P t=true:=by
   unfold EC at h;unfold dV
   cases hu:P.underlying t with
   | none=>simp [hu] at h
   | some d=>cases d<;>simp_all
 simp [part,IB hn,hv]
theorem Uk (d:Nat):∀(fs:List Field) (i:Nat) (ks:List Nat) (xs ys:List Value) (pre y_:List Value) (r:Bool) (w:World),BH P i fs=some ks->iJ ks xs ys=some r->pre.length=i->y_.length=i->
   (Op.eqFields (d+1) (pre++xs).toArray (y_++ys).toArray fs).run P w = .ok r w
 | [],i,ks,xs,ys,pre,y_,r,w,hk,he,_,_=>by
   simp [BH] at hk;subst hk
   cases xs<;>cases ys<;>simp [iJ] at he
   subst he;simp [Op.eqFields]
 | f::fs,i,ks,xs,ys,pre,y_,r,w,hk,he,hp,Ul=>by
   simp only [BH] at hk
   cases hb : (Nat.beq f.offset i && !(f.name == "_")) with
   | false=>rw [hb] at hk; cases hk
   | true=>
     rw [hb] at hk;simp only [cond_true] at hk;simp only [Bool.and_eq_true] at hb;have ho:=Nat.eq_of_beq_eq_true hb.1
     have adT : f.name ≠ "_" := by simpa using hb.2
     cases fm:EC P f.type with
     | none=>simp [fm] at hk
     | some k=>
       cases Nu:BH P (i+1) fs with
       | none=>simp [fm,Nu] at hk
       | some kr=>
         simp [fm,Nu] at hk;subst hk
         cases xs with
         | nil=>cases ys<;>simp [iJ] at he
         | cons x xs=>
           cases ys with
           | nil=>rcases k with _ | _ | _ | k<;>cases x<;>simp [iJ] at he
           | cons y ys=>
             have hx:((pre++x::xs).toArray)[f.offset]? = some x:=by simp [ho,<-hp]
             have hy:((y_++y::ys).toArray)[f.offset]? = some y:=by simp [ho,<-Ul]
             have key:∀b r',(Op.equalIn (d+1) f.type x y).run P w = .ok b w->iJ kr xs ys=some r'->r=(b&&r')->(Op.eqFields (d+1) (pre++x::xs).toArray (y_++y::ys).toArray (f::fs)).run P w = .ok r w:=by
               intro b r' h1 h2 h3;have ih:=Uk d fs (i+1) kr xs ys (pre++[x]) (y_++[y]) r' w Nu h2 (by simp [hp]) (by simp [Ul]);simp only [List.append_assoc,List.singleton_append] at ih;simp only [Op.eqFields,adT,ne_eq,not_false_eq_true,if_true,Sem.run_bind,Uj fm _ _ _ hx,Uj fm _ _ _ hy,Result.andThen_ok,h1];cases b
               · simp [h3]
               · simp [h3,ih]
             unfold EC at fm
             cases hu:P.underlying f.type with
             | none=>simp [hu] at fm
             | some td=>
               cases zb:iJ kr xs ys with
               | none=>cases td<;>simp [hu] at fm<;>subst fm<;>cases x<;>cases y<;>simp [iJ,zb] at he
               | some r'=>
                 cases td<;>simp [hu] at fm<;>subst fm<;>cases x<;>cases y<;>simp [iJ,zb] at he
                 · exact key _ r' (run_equalIn_bool' w d _ _ _ hu) zb he.symm
                 · obtain ⟨rfl,he⟩:=he
                   exact key _ r' (run_equalIn_int w d _ _ _ _ _ hu) zb he.symm
                 · refine key _ r' (run_equalIn_string w d _ _ _ hu) zb ?_
                   rw [ByteArray.toList_eq,ByteArray.toList_eq];rw [<-he]; simp
variable {l:List (Nat×Value)} {W:World->Prop} {d:Option Tmp} {ty:TypeId} {pos:String} {af:Array Edge} {g:Option (Nat×Bool)}
theorem Um {t:TypeId} {ks:List Nat} {xs ys:List Value} {r:Bool} (hf:BI P t=some ks) (he:iJ ks xs ys=some r) (w:World) :
   (Op.equalIn 10000 t (.agg xs.toArray) (.agg ys.toArray)).run P w = .ok r w/\P.eqGuardType P.depth t=false:=by
 unfold BI at hf
 cases hu:P.underlying t with
 | none=>simp [hu] at hf
 | some td=>
   cases td<;>simp [hu] at hf
   rename_i fs
   cases hb:(P.stoodInHeld t||P.eqGuardType P.depth t) with
   | true=>rw [hb] at hf; cases hf
   | false=>
     rw [hb] at hf;simp only [Bool.or_eq_false_iff] at hb
     have cH:P.fieldsOf t=fs:=by simp [Program.fieldsOf,hu]
     refine ⟨?_,hb.2⟩;rw [run_equalIn_struct w 9999 t _ _ (by rw [cH]; exact hu) hb.1,cH]
     simpa using Uk 9998 fs.toList 0 ks xs ys [] [] r w (by simpa using hf) he rfl rfl
theorem adU {t u:TypeId} {x y:Operand} {ks:List Nat} {xs ys:List Value} {r:Bool} (hf:BI P t=some ks) (hx:aB l x=some (.agg xs.toArray)) (hy:aB l y=some (.agg ys.toArray)) (he:iJ ks xs ys=some r) :
   Yl P l W ⟨d,.binOp .eql t x y u,ty,pos,af,g⟩ (.bool r):=by
 intro ρ w aD _;obtain ⟨h1,h2⟩:=Um hf he w;simp only [execOp,aD x _ hx,aD y _ hy,Sem.run_bind,run_eqGuard_agg w _ _ _ _ _ _ h2,Result.andThen_ok,run_eql_struct w,h1,Sem.run_pure]
theorem adV {t u:TypeId} {x y:Operand} {ks:List Nat} {xs ys:List Value} {r:Bool} (hf:BI P t=some ks) (hx:aB l x=some (.agg xs.toArray)) (hy:aB l y=some (.agg ys.toArray)) (he:iJ ks xs ys=some r) :
   Yl P l W ⟨d,.binOp .neq t x y u,ty,pos,af,g⟩ (.bool (!r)):=by
 intro ρ w aD _;obtain ⟨h1,h2⟩:=Um hf he w;simp only [execOp,aD x _ hx,aD y _ hy,Sem.run_bind,run_eqGuard_agg w _ _ _ _ _ _ h2,Result.andThen_ok,run_neq_struct w,h1,Sem.run_pure]
end
section
variable {P:Program} {l:List (Nat×Value)} {W:World->Prop} {d:Option Tmp} {ty:TypeId} {pos:String} {af:Array Edge} {g:Option (Nat×Bool)}
theorem adW {t u:TypeId} {x y:Operand} {k:IntKind} {a b:Int} (hx:aB l x=some (.int k a)) (hy:aB l y=some (.int k b)) (hb:b≠0):Yl P l W ⟨d,.binOp .quo t x y u,ty,pos,af,g⟩ (.int k (k.wrap (a.tdiv b))):=
 λρ w aD _=>by simp [execOp,aD x _ hx,aD y _ hy,eqGuard,binOp,Op.intDiv,hb]
theorem adX {t u:TypeId} {x y:Operand} {k:IntKind} {a b:Int} (hx:aB l x=some (.int k a)) (hy:aB l y=some (.int k b)) (hb:b≠0):Yl P l W ⟨d,.binOp .rem t x y u,ty,pos,af,g⟩ (.int k (a.tmod b)):=
 λρ w aD _=>by simp [execOp,aD x _ hx,aD y _ hy,eqGuard,binOp,Op.intDiv,hb]
end
theorem Sl.flat {α:Type} {rd:View->Nat->Nat->α->Prop} {k:Nat} {H:View} {b o c:Nat} {l:List α} {f:α->List Value} (h:Sl rd k H (some ⟨b,o,none⟩) c l) (hf:∀x,(f x).length=k) (hk:0<k) (ed:∀b o x,rd H b o x->aP H b o (f x)) :
   ∀j u,(l.flatMap f)[j]? = some u->vc H b (o+j)=some u:=by
 intro j u hu;have hj:=(List.getElem?_eq_some_iff.1 hu).1;rw [xq hf] at hj;have hi:j / k<l.length:=Nat.div_lt_of_lt_mul (by rw [Nat.mul_comm]; exact hj);have hx:l[j / k]? = some l[j / k]:=List.getElem?_eq_getElem hi;have hm:j % k<k:=Nat.mod_lt _ hk
 have e:j / k*k+j % k=j:=by rw [Nat.mul_comm]; exact Nat.div_add_mod j k
 have h2:=pY hf hx hm;rw [e,hu] at h2;obtain ⟨b',o',BJ,hr⟩:=h.aO _ _ hx;simp at BJ;obtain ⟨rfl,rfl⟩:=BJ;have h3:=ed _ _ _ hr (j % k) u h2.symm;rw [Nat.add_assoc,e] at h3;exact h3
section
variable {P:Program} {Q:Exit->Act->World->Prop} {n:Nat} {ds:List Deferred} {l:List (Nat×Value)}
theorem WC.nU {id:Nat} {os:List Oper} {w0:World} {F:List Nat} {L:List ao} {Vs:List View} (ord:List (Nat×Bool)) (hm:P.follows .mixedOrders=true) (hB:(Region.noSelect os.toArray&&(ord.length==os.toArray.size&&nS .any os.toArray ord (Array.replicate os.toArray.size false)))=true)
   (hQ:∀c a w d v,Q (.panic c) (a.put d v) w->Q (.panic c) a w) (h:WD P os.toArray (Ws w0 F L Vs) Q n ds l (Ws w0 F L Vs) ord):WC P (.region id os.toArray true) Q n ds l (Ws w0 F L Vs):=
 WC.Uc _ ord hm hB hQ (λ_ h=>h.drew) h
theorem WC.nV {id:Nat} {os:List Oper} {w0:World} {F:List Nat} {L:List ao} {Vs:List View} (i:Nat) (ord:List (Nat×Bool)) (hm:P.follows .mixedOrders=true) (hB:(Region.noSelect os.toArray&&(ord.length==os.toArray.size&&nS .any os.toArray ord (Array.replicate os.toArray.size false)))=true)
   (hQ:∀c a w d v,Q (.panic c) (a.put d v) w->Q (.panic c) a w) (h:WD P os.toArray (Ws w0 F (dv i L) Vs) Q n ds l (Ws w0 F L Vs) ord):WC P (.region id os.toArray true) Q n ds l (Ws w0 F L Vs):=
 WC.Uc _ ord hm hB hQ (λ_ h=>h.drew) h
end
section
variable {P:Program} {l:List (Nat×Value)} {W:World->Prop} {d:Option Tmp} {ty:TypeId} {pos:String} {af:Array Edge} {g:Option (Nat×Bool)}
theorem Nv {t u:TypeId} {x y:Operand} {a b:Nat} {a' b':Int} (hx:aB l x=some (.int .i64 a')) (hy:aB l y=some (.int .i64 b')) (ea:a'=(a:Int)) (eb:b'=(b:Int)) (hb:(a:Int)+b<=9223372036854775807):Yl P l W ⟨d,.binOp .add t x y u,ty,pos,af,g⟩ (.int .i64 ((a+b:Nat):Int)):=by
 subst ea eb;have:=jz (P:=P) (W:=W) (d:=d) (ty:=ty) (pos:=pos) (af:=af) (g:=g) (t:=t) (u:=u) hx hy ⟨by omega,hb⟩
 rwa [show ((a+b:Nat):Int)=(a:Int)+b by omega]
theorem ED {f:FuncId} {eV:Array Operand} {vs:List Value} (ha:iH l eV.toList=some vs):Yl P l W ⟨d,.makeFunc (.func f) #[] eV,ty,pos,af,g⟩ (.func (.func f) #[] vs.toArray):=by
 intro ρ w aD _
 have e:eV.map ρ=vs.toArray:=by
   apply Array.ext'
   simpa using IH aD _ _ ha
 simp [execOp,Instr.makeFunc,e]
end
section
variable {P:Program} {ops:Array Oper} {Q:Exit->Act->World->Prop} {n:Nat} {ds:List Deferred} {l:List (Nat×Value)} {w0:World} {F:List Nat} {L:List ao} {Vs:List View} {rest:List Oper}
theorem WL.EG {e:TypeId} {size m:Nat} {v:Value} {xs:List Value} (i m':Nat) (Un:List Value) (hL:L[i]? = some (dF e size v m xs)) (hm:m=m') (hx:xs=Un)
   (h:WL P ops Q n ds l (Ws w0 F (L.set i (dF e size v m' Un)) Vs) rest):WL P ops Q n ds l (Ws w0 F L Vs) rest:=by
 subst hm hx
 have:L.set i (dF e size v m xs)=L:=by
   obtain ⟨hi,he⟩:=List.getElem?_eq_some_iff.1 hL;rw [<-he];exact List.set_getElem_self hi
 rwa [this] at h
end
theorem Ws.bM {w0 w:World} {F:List Nat} {L L':List ao} {Vs:List View} (h:Ws w0 F (L++L') Vs w):Ws w0 F L Vs w:=Ws.drop (h.perm List.perm_append_comm)
theorem IT (l:List UInt8):(ByteArray.mk l.toArray).size=l.length:=by show l.toArray.size=_; simp
theorem adY {w0 w:World} {F:List Nat} {L:List ao} {Vs:List View} (h:Ws w0 F L Vs w) (i:Nat) {b:Nat} {c:Array Value} {T:TypeId} {fz:Nat×Nat} (hL:L[i]? = some (ab b (.cells c T fz))) {k:Nat} {u:Value} (hu:c.toList[k]? = some u):w.cell? ((⟨b,0,none⟩:Addr).add k)=some u:=by
 rw [ru];exact cell_of_heap (h.kn _ (dD hL)) (by simpa [g_] using hu)
def bv (b:Nat) (ob:Obj):View:=λk=>if k=b then some ob else none
theorem Ws.IU {w0 w:World} {F:List Nat} {L:List ao} {Vs:List View} (h:Ws w0 F L Vs w) (i:Nat) {b:Nat} {ob:Obj} (hL:L[i]? = some (ab b ob)):Ws w0 F (dv i L) (bv b ob::Vs) w:=by
 have hp:=h.perm (mR i L hL);have hd:Ws w0 F (dv i L) Vs w:=Ws.drop (L:=[ab b ob]) hp;have hb:w.heap[b]? = some ob:=h.kn _ (dD hL);have nd:=hp.nd;rw [List.flatMap_cons,List.nodup_append] at nd;refine ⟨hd.fr,hd.kn,hd.nd,hd.own,?_,?_⟩
 · intro H hH
   rcases List.mem_cons.1 hH with rfl | hH
   · intro k o hk
     unfold bv at hk
     split at hk
     · rename_i e; subst e; injection hk with hk; subst hk; exact hb
     · cases hk
   · exact hd.vs H hH
 · intro H hH A hA k hk
   rcases List.mem_cons.1 hH with rfl | hH
   · unfold bv
     rw [if_neg];intro e;subst e;exact nd.2.2 k (by simp [ab]) k (List.mem_flatMap.2 ⟨A,hA,hk⟩) O
   · exact hd.off H hH A hA k hk
section
variable {P:Program} {ops:Array Oper} {Q:Exit->Act->World->Prop} {n:Nat} {ds:List Deferred} {l:List (Nat×Value)} {w0:World} {F:List Nat} {L:List ao} {Vs:List View} {rest:List Oper}
theorem WL.IU {b:Nat} {ob:Obj} (i:Nat) (hL:L[i]? = some (ab b ob)) (h:WL P ops Q n ds l (Ws w0 F (dv i L) (bv b ob::Vs)) rest):WL P ops Q n ds l (Ws w0 F L Vs) rest:=
 LW (λ_ hw=>hw.IU i hL) h
end
section
variable {P:Program} {l:List (Nat×Value)} {W:World->Prop} {d:Option Tmp} {ty:TypeId} {pos:String} {af:Array Edge} {g:Option (Nat×Bool)}
theorem IV {t u:TypeId} {x y:Operand} {a b:Int} (v:Int) (hx:aB l x=some (.int .i64 a)) (hy:aB l y=some (.int .i64 b)) (he:a+b=v) (hb : -9223372036854775808<=v/\v<=9223372036854775807):Yl P l W ⟨d,.binOp .add t x y u,ty,pos,af,g⟩ (.int .i64 v):=by
 subst he; exact jz hx hy hb
theorem nW {t u:TypeId} {x y:Operand} {a b:Int} (v:Int) (hx:aB l x=some (.int .i64 a)) (hy:aB l y=some (.int .i64 b)) (he:a-b=v) (hb : -9223372036854775808<=v/\v<=9223372036854775807):Yl P l W ⟨d,.binOp .sub t x y u,ty,pos,af,g⟩ (.int .i64 v):=by
 subst he; exact adu hx hy hb
end
def IW (size:Nat):Nat->List (Nat×Value)->Bool
 | _,[]=>true
 | k,(i,v)::r=>Nat.beq i k&&Nat.beq (dE v).length size&&IW size (k+1) r
def BK:List (Nat×Value)->List Value
 | []=>[]
 | (_,v)::r=>dE v++BK r
theorem Uo (size:Nat):∀(vs:List (Nat×Value)) (k:Nat) (done rest:List Value),IW size k vs=true->done.length=k*size->rest.length=vs.length*size->
   tp (λi=>some (i*size,size)) (done++rest) vs=some (done++BK vs)
 | [],k,done,rest,_,_,hr=>by
   have:rest=[]:=List.eq_nil_of_length_eq_zero (by simpa using hr);simp [tp,BK,this]
 | (i,v)::r,k,done,rest,hf,hd,hr=>by
   simp only [IW,Bool.and_eq_true] at hf;obtain ⟨⟨h1,h2⟩,h3⟩:=hf;have h1:=Nat.eq_of_beq_eq_true h1;subst h1;have h2:=Nat.eq_of_beq_eq_true h2
   have hrl:size<=rest.length:=by rw [hr,List.length_cons,Nat.add_mul]; omega
   have hb:(Nat.beq (dE v).length size&&Nat.ble (i*size+size) (done++rest).length)=true:=by
     rw [h2,Nat.beq_refl,Bool.true_and];exact Nat.ble_eq_true_of_le (by simp; omega)
   simp only [tp,hb,cond_true]
   have e1:(done++rest).take (i*size)=done:=by rw [<-hd]; simp
   have e2:(done++rest).drop (i*size+size)=rest.drop size:=by
     rw [List.drop_append,hd,List.drop_of_length_le (by omega)];simp
   rw [e1,e2];have:=Uo size r (i+1) (done++dE v) (rest.drop size) h3 (by simp [hd,h2,Nat.add_mul]) (by simp [hr,Nat.add_mul]);rw [this];simp [BK]
theorem adZ (z:Value) (k:Nat):(xn z k).length=k:=by simp [xn]
section
variable {P:Program} {ops:Array Oper} {Q:Exit->Act->World->Prop} {n:Nat} {ds:List Deferred} {l:List (Nat×Value)} {w0:World} {F:List Nat} {L:List ao} {Vs:List View} {rest:List Oper} {d:Nat} {ty:TypeId} {pos:String} {af:Array Edge} {g:Option (Nat×Bool)}
theorem Lb {t e:TypeId} {len size bytes:Nat} {parts:List (Nat×Operand)} {z:Value} {vs:List (Nat×Value)} (hg:cP ops l g) (hn:Nat.blt d n=true) (hE:fk P t e z size bytes)
   (hv:vh l parts=some vs) (hb:Nat.ble (len*size) 16777216=true) (hf:IW size 0 vs=true) (hl:vs.length=len)
   (h:∀b,WL P ops Q n ds ((d,.slice (some ⟨b,0,none⟩) len len)::l) (Ws w0 F (ab b (.cells (BK vs).toArray e (0,0))::L) Vs) rest) :
   WL P ops Q n ds l (Ws w0 F L Vs) (⟨some d,.buildSlice t len parts.toArray,ty,pos,af,g⟩::rest):=by
 refine WL.IN hg hn hE hv hb (out:=BK vs) ?_ h
 have hz:(bif Nat.beq (len*size) 0 then [] else xn z (len*size))=xn z (len*size):=by
   cases hq:Nat.beq (len*size) 0 with
   | false=>rfl
   | true=>have:=Nat.eq_of_beq_eq_true hq; rw [this]; rfl
 rw [hz];have:=Uo size vs 0 [] (xn z (len*size)) hf (by simp) (by rw [adZ,hl])
 simpa using this
end
inductive Ord where
 | nil
 | stop
 | q (i:Nat) (r:Ord)
 | e (i:Nat) (r alt:Ord)
def Ord.alts:Ord->List Nat
 | .e i _ alt=>i::alt.alts
 | _=>[]
def jM (md:Region.Mode) (ops:Array Oper):Bool->Ord->Nat->Array Bool->Bool
 | top,.nil,k,listed=>top&&(Nat.beq k 0&&(Region.ready md ops listed).isEmpty)
 | top,.stop,_,_=>!top
 | top,.q i r,k,listed=>match k with
   | 0=>false
   | k+1=>top&&((Region.ready md ops listed).contains i&&Region.free md ops listed i&&jM md ops true r k (listed.setIfInBounds i true))
 | top,.e i r alt,k,listed=>match k with
   | 0=>false
   | k+1=>(bif top then Region.ready md ops listed==i::alt.alts else true)&&(jM md ops true r k (listed.setIfInBounds i true)&&jM md ops false alt (k+1) listed)
section
variable {P:Program} {md:Region.Mode} {ops:Array Oper} {C:World->Prop} {Q:Exit->Act->World->Prop}
def tt (P:Program) (ops:Array Oper) (C:World->Prop) (Q:Exit->Act->World->Prop):Ord->Act->World->Prop
 | .nil,a,w=>C w/\Q .normal a w
 | .stop,_,_=>True
 | .q i r,a,w=>C w/\∃o v,ops[i]? = some o/\YV P ops C o v a/\tt P ops C Q r (a.put o.dst v) w
 | .e i r alt,a,w=>C w/\(wpOp P ops Q i (tt P ops C Q r) a w/\tt P ops C Q alt a w)
theorem IX (hs:Region.noSelect ops=true) (hQ:∀c a w d v,Q (.panic c) (a.put d v) w->Q (.panic c) a w):∀(o:Ord) (k:Nat) (listed:Array Bool) (a:Act) (w:World),
   (jM md ops true o k listed=true->tt P ops C Q o a w->rH P md ops C Q k listed a w)/\
   (jM md ops false o k listed=true->tt P ops C Q o a w->∀j ∈ o.alts,∃k',k=k'+1/\wpOp P ops Q j (rH P md ops C Q k' (listed.setIfInBounds j true)) a w)
 | .nil,k,listed,a,w=>by
   refine ⟨λhB h=>?_,λhB=>by simp [jM] at hB⟩;simp only [jM,Bool.true_and,Bool.and_eq_true] at hB;obtain rfl:=Nat.eq_of_beq_eq_true hB.1;exact ⟨h.1,by simpa using hB.2,h.2⟩
 | .stop,k,listed,a,w=>⟨λhB=>by simp [jM] at hB,λ_ _ j hj=>by simp [Ord.alts] at hj⟩
 | .q i r,k,listed,a,w=>by
   cases k with
   | zero=>exact ⟨λhB=>by simp [jM] at hB,λhB=>by simp [jM] at hB⟩
   | succ k=>
     refine ⟨λhB h=>?_,λhB=>by simp [jM] at hB⟩;simp only [jM,Bool.true_and,Bool.and_eq_true] at hB;obtain ⟨hC,o,v,ho,hy,h⟩:=h
     exact Np ho (Region.noSelect_spec hs) (λc a w=>hQ c a w o.dst v) k listed a w (Region.free_spec ho hB.1.2) (by simpa using hB.1.1) hy hC
       ((IX hs hQ r k _ _ _).1 hB.2 h)
 | .e i r alt,k,listed,a,w=>by
   cases k with
   | zero=>exact ⟨λhB=>by simp [jM] at hB,λhB=>by simp [jM] at hB⟩
   | succ k=>
     have gM:jM md ops true r k (listed.setIfInBounds i true)=true->jM md ops false alt (k+1) listed=true->tt P ops C Q (.e i r alt) a w->
         ∀j ∈ i::alt.alts,wpOp P ops Q j (rH P md ops C Q k (listed.setIfInBounds j true)) a w:=by
       intro h1 h2 h j hj
       rcases List.mem_cons.1 hj with rfl | hj
       · exact wpOp_mono (λa' w' h'=>(IX hs hQ r k _ a' w').1 h1 h') h.2.1
       · obtain ⟨k',hk,hx⟩:=(IX hs hQ alt (k+1) listed a w).2 h2 h.2.2 j hj
         injection hk with hk
         subst hk;exact hx
     refine ⟨λhB h=>?_,λhB h j hj=>?_⟩
     · simp only [jM,cond_true,Bool.and_eq_true,beq_iff_eq] at hB
       refine ⟨h.1,λhe=>(by rw [he] at hB; cases hB.1),λj hj=>?_⟩;rw [hB.1] at hj;exact gM hB.2.1 hB.2.2 h j hj
     · simp only [jM,cond_false,Bool.true_and,Bool.and_eq_true] at hB
       exact ⟨k,O,gM hB.1 hB.2 h j hj⟩
theorem ad0 {id:Nat} {a:Act} {w:World} {l:List Oper} (ord:Ord) (hm:P.follows .mixedOrders=true) (hB:(Region.noSelect l.toArray&&jM .any l.toArray true ord l.toArray.size (Array.replicate l.toArray.size false))=true)
   (hQ:∀c a w d v,Q (.panic c) (a.put d v) w->Q (.panic c) a w) (h:tt P l.toArray C Q ord a w.drew):(Code.region id l.toArray true).wp P Q a w:=by
 simp only [Bool.and_eq_true] at hB;have:=IM (md:=.any) _ _ _ _ ((IX hB.1 hQ ord _ _ a w.drew).1 hB.2 h);exact wp_region_any hm this
variable {n:Nat} {ds:List Deferred} {l:List (Nat×Value)} {W:World->Prop}
def WT (P:Program) (ops:Array Oper) (C:World->Prop) (Q:Exit->Act->World->Prop) (n:Nat) (ds:List Deferred) (l:List (Nat×Value)) (W:World->Prop) (ord:Ord):Prop:=
 ∀a w,Ag n ds l a->W w->tt P ops C Q ord a w
theorem WT.q {r:Ord} {i d:Nat} {op:Op} {ty:TypeId} {pos:String} {af:Array Edge} {g:Option (Nat×Bool)} {v:Value} (hi:ops[i]? = some ⟨some d,op,ty,pos,af,g⟩) (hg:cP ops l g) (hn:Nat.blt d n=true)
   (hC:∀w,W w->C w) (hy:Yl P l C ⟨some d,op,ty,pos,af,g⟩ v) (h:WT P ops C Q n ds ((d,v)::l) W r):WT P ops C Q n ds l W (.q i r):=by
 intro a w ha hw;refine ⟨hC w hw,_,v,hi,.inl ⟨cP.wanted (o:=⟨some d,op,ty,pos,af,g⟩) hg ha,λw' dR=>hy a.eval w' (λx u hx=>ha.eval hx) dR⟩,h _ _ (ha.put hn v) hw⟩
theorem WT.e {r alt:Ord} {i:Nat} {o:Oper} (hi:ops[i]? = some o) (hC:∀w,W w->C w) (h:WL P ops (Exit.then (tt P ops C Q r) Q) n ds l W [o]) (h2:WT P ops C Q n ds l W alt):WT P ops C Q n ds l W (.e i r alt):=by
 intro a w ha hw;refine ⟨hC w hw,?_,h2 a w ha hw⟩;have:=h a w ha hw;unfold wpList at this;unfold wpOp;simp only [hi]
 split
 · rename_i dR
   rw [if_pos dR] at this
   rcases this with this | ⟨h1,a2,w2,h2⟩
   · left
     unfold Oper.wp at this ⊢;unfold Oper.upon at this ⊢
     split at this
     all_goals first
       | exact this
       | (refine this.mono λe w' he=>?_
          cases e with
          | returned v=>exact he
          | panicked ch=>exact he
          | outgrown=>obtain ⟨a3,w3,h3⟩:=he; exact ⟨a3,w3,h3⟩)
       | exact this.mono λv w' he=>he
   · exact .inr ⟨h1,a2,w2,h2⟩
 · rename_i dR
   rw [if_neg dR] at this;exact this
theorem WT.stop:WT P ops C Q n ds l W .stop:=λ_ _ _ _=>trivial
theorem jA {r:Ord} (h:WT P ops C Q n ds l W r):WE (Exit.then (tt P ops C Q r) Q) .normal n ds l W:=h
theorem WT.nil (hC:∀w,W w->C w) (h:WE Q .normal n ds l W):WT P ops C Q n ds l W .nil:=λa w ha hw=>⟨hC w hw,h a w ha hw⟩
theorem WC.ad1 {id:Nat} {os:List Oper} {w0:World} {F:List Nat} {L:List ao} {Vs:List View} (ord:Ord) (hm:P.follows .mixedOrders=true) (hB:(Region.noSelect os.toArray&&jM .any os.toArray true ord os.toArray.size (Array.replicate os.toArray.size false))=true)
   (hQ:∀c a w d v,Q (.panic c) (a.put d v) w->Q (.panic c) a w) (h:WT P os.toArray (Ws w0 F L Vs) Q n ds l (Ws w0 F L Vs) ord):WC P (.region id os.toArray true) Q n ds l (Ws w0 F L Vs):=
 λa w ha hw=>ad0 ord hm hB hQ (h a w.drew ha hw.drew)
end
abbrev nX:=List UInt8×Value×Nat
def mX (e:nX):MapEntry:={ key:=st e.1,val:=e.2.1,born:=e.2.2 }
def pZ (m:List nX) (c:Nat):Obj:=.map (m.map mX).toArray c
def oZ (k:List UInt8):List nX->Nat->Option (Nat×Value)
 | [],_=>none
 | e::r,i=>if (k==e.1)=true then some (i,e.2.1) else oZ k r (i+1)
def BL (k:List UInt8) (v:Value) (m:List nX) (c:Nat):List nX:=match oZ k m 0 with
 | some (i,_)=>m.modify i λe=>(k,v,e.2.2)
 | none=>m++[(k,v,c)]
def BM (k:List UInt8) (m:List nX) (c:Nat):Nat:=match oZ k m 0 with | some _=>c | none=>c+1
def EH (k:List UInt8) (m:List nX) (z:Value):Value:=match oZ k m 0 with | some (_,v)=>v | none=>z
theorem Nw (a b:List UInt8):(ByteArray.mk a.toArray==ByteArray.mk b.toArray)=(a==b):=by
 show (a.toArray==b.toArray)=_
 simp
theorem ad2 (m:List nX) (j:Nat) (k:List UInt8) (v:Value):(m.map mX).modify j (λe=>{ e with key:=st k,val:=v })=(m.modify j λe=>(k,v,e.2.2)).map mX:=by
 apply List.ext_getElem?;intro i;simp only [List.getElem?_modify,List.getElem?_map]
 cases m[i]? with
 | none=>simp
 | some e=>by_cases h:j=i<;>simp [h,mX]
theorem Nx (k:List UInt8):∀(m:List nX) (i:Nat),Instr.findNow .string (st k) (m.map mX) i=some (oZ k m i)
 | [],_=>rfl
 | e::r,i=>by
   simp only [List.map_cons,Instr.findNow,mX,st,Instr.sameNow,Nw,oZ];cases h:(k==e.1)
   · simp only [Bool.false_eq_true,if_false]
     exact Nx k r (i+1)
   · simp
section
variable {P:Program} {ops:Array Oper} {Q:Exit->Act->World->Prop} {n:Nat} {ds:List Deferred} {l:List (Nat×Value)} {w0:World} {F:List Nat} {L:List ao} {Vs:List View} {rest:List Oper} {d:Nat} {ty:TypeId} {pos:String} {af:Array Edge} {g:Option (Nat×Bool)}
theorem WL.ad3 {t:TypeId} (hg:cP ops l g) (hn:Nat.blt d n=true)
   (h:∀b,WL P ops Q n ds ((d,.map (some b))::l) (Ws w0 F (ab b (pZ [] 0)::L) Vs) rest) :
   WL P ops Q n ds l (Ws w0 F L Vs) (⟨some d,.makeMap t none,ty,pos,af,g⟩::rest):=
 WL.new (mk:=λb=>.map (some b)) (o:=pZ [] 0) hg hn (λρ w _ _=>by
   simp only [execOp]
   simp [Instr.makeMap,pZ]) h
theorem ad4 {dd:Option Tmp} {t kt e:TypeId} {x y:Operand} {b c:Nat} {m:List nX} {k:List UInt8} {z:Value} (i:Nat) (ht:P.underlying t=some (.map kt e)) (hk:P.underlying kt=some .string) (hz:zeroOf P e=some z) (hx:aB l x=some (.map (some b))) (hy:aB l y=some (st k)) (hL:L[i]? = some (ab b (pZ m c))) :
   Yl P l (Ws w0 F L Vs) ⟨dd,.lookup t x y false,ty,pos,af,g⟩ (EH k m z):=by
 intro ρ w aD hw;have hb:w.heap[b]? = some (.map (m.map mX).toArray c):=hw.kn _ (dD hL);have hf:=Nx k m 0;have hc:(Instr.checkKey (m.map mX).toArray.isEmpty 10000 kt (st k)).run P w = .ok () w:=MapKept.run_checkKey (k:=st k) hk (by simp [MapKept.IsKey,st]) _ 9999
 have e1:(Instr.lookup t (.map (some b)) (st k) false).run P w = .ok (EH k m z) w:=by
   simp only [Instr.lookup,Sem.run_bind,run_underlying ht,Result.andThen_ok,MapKept.run_getObj_map hb,Sem.run_pure,hc];rw [MapKept.run_findKey hk (by simpa using hf)];unfold EH
   cases hm:oZ k m 0 with
   | none=>simp [Result.andThen_ok,yY hz]
   | some r=>obtain ⟨i,v⟩:=r; simp [Result.andThen_ok]
 simp [execOp,aD x _ hx,aD y _ hy,e1]
theorem Up {dd:Option Tmp} {t kt e:TypeId} {x:Operand} {b c:Nat} {m:List nX} (i:Nat) (ht:P.underlying t=some (.map kt e)) (hx:aB l x=some (.map (some b))) (hL:L[i]? = some (ab b (pZ m c))) :
   Yl P l (Ws w0 F L Vs) ⟨dd,.call ⟨.builtin .len,#[x],#[t]⟩,ty,pos,af,g⟩ (.int .i64 (m.length:Int)):=by
 intro ρ w aD hw;have hb:w.heap[b]? = some (.map (m.map mX).toArray c):=hw.kn _ (dD hL);simp [execOp,resolve,invoke,builtin,aD x _ hx,Builtin.len_,run_underlying ht,MapKept.run_getObj_map hb,goInt]
theorem WL.ad5 {t kt e:TypeId} {x y u:Operand} {b c:Nat} {m:List nX} {k:List UInt8} {v:Value} (i:Nat) (hg:cP ops l g) (ht:P.underlying t=some (.map kt e)) (hk:P.underlying kt=some .string) (hx:aB l x=some (.map (some b))) (hy:aB l y=some (st k)) (hu:aB l u=some v) (hL:L[i]? = some (ab b (pZ m c)))
   (h:WL P ops Q n ds l (Ws w0 F (L.set i (ab b (pZ (BL k v m c) (BM k m c)))) Vs) rest) :
   WL P ops Q n ds l (Ws w0 F L Vs) (⟨none,.mapUpdate t x y u,ty,pos,af,g⟩::rest):=by
 refine WL.step hg λa w ha hw K hK=>?_;have hb:w.heap[b]? = some (.map (m.map mX).toArray c):=hw.kn _ (dD hL);have hf:=Nx k m 0;have hc:(Instr.checkKey false 10000 kt (st k)).run P w = .ok () w:=MapKept.run_checkKey (k:=st k) hk (by simp [MapKept.IsKey,st]) _ 9999
 have e1:(Instr.mapUpdate t (.map (some b)) (st k) v).run P w = .ok () { w with heap:=w.heap.setIfInBounds b (pZ (BL k v m c) (BM k m c)) }:=by
   simp only [Instr.mapUpdate,Sem.run_bind,run_underlying ht,Result.andThen_ok,MapKept.run_getObj_map hb,Sem.run_pure,hc];rw [MapKept.run_findKey hk (by simpa using hf)];unfold BL BM
   cases hm:oZ k m 0 with
   | none=>simp [Result.andThen_ok,MapKept.run_setObj_map _ hb,pZ,mX,st]
   | some r=>
     obtain ⟨j,v'⟩:=r
     have zd:m[j]?.map (·.1)=some k:=by
       have key:∀(m:List nX) (i0:Nat),oZ k m i0=some (j,v')->i0<=j/\(m[j-i0]?).map (·.1)=some k:=by
         intro m
         induction m with
         | nil=>intro i0 h; simp [oZ] at h
         | cons e r ih=>
           intro i0 h;simp only [oZ] at h
           split at h
           · rename_i hk
             injection h with h; injection h with h1 h2
             subst h1;simp at hk;simp [hk]
           · obtain ⟨h1,h2⟩:=ih (i0+1) h
             refine ⟨by omega,?_⟩
             have:j-i0=(j-(i0+1))+1:=by omega
             rw [this]; simpa using h2
       simpa using (key m 0 hm).2
     have iy:((((m.map mX).toArray)[j]?).map (·.key)).getD (st k)=st k:=by
       cases he:m[j]? with
       | none=>simp [he]
       | some e=>rw [he] at zd; simp at zd; simp [he,mX,zd]
     simp only [iy,Result.andThen_ok]
     have ad6:(Instr.keyThatStays (st k) (st k)).run P w = .ok (st k) w:=by
       simp [Instr.keyThatStays,Instr.sameBits,st,Nw]
     simp only [Sem.run_bind,ad6,Result.andThen_ok,MapKept.run_setObj_map _ hb,pZ]
     have EI:(m.map mX).toArray.modify j (λe=>{ e with key:=st k,val:=v })=((m.modify j λe=>(k,v,e.2.2)).map mX).toArray:=by
       apply Array.ext';rw [Array.toList_modify];exact ad2 m j k v
     rw [EI]
 have ry:(execOp a.eval ⟨none,.mapUpdate t x y u,ty,pos,af,g⟩).run P w = .ok .skip { w with heap:=w.heap.setIfInBounds b (pZ (BL k v m c) (BM k m c)) }:=by
   simp only [execOp,ha.eval hx,ha.eval hy,ha.eval hu,Sem.run_bind,e1,Result.andThen_ok,Sem.run_pure]
 simp only [Oper.wp,ry,Oper.upon_skip];refine hK _ _ (h _ _ (ha.Ee undef) ?_);refine Ws.xi hw i hL ⟨O,O,O,by simp,λj hj dB=>?_⟩ ?_ (by simp [ab]) (by simp [ab])
 · have:b≠j:=λe=>dB (by simp [ab,e])
   simp [Array.getElem?_setIfInBounds_ne this]
 · show (w.heap.setIfInBounds b _)[b]? = _
   simp [lt_of_heap hb]
theorem WL.Ur {e:TypeId} {size m:Nat} {v:Value} {xs:List Value} (i:Nat) (hL:L[i]? = some (dF e size v m xs))
   (h:∀a k,v = .slice a m k->WL P ops Q n ds l (Ws w0 F L Vs) rest):WL P ops Q n ds l (Ws w0 F L Vs) rest:=by
 intro a w ha hw;obtain ⟨h1,h2⟩:=(hw.kn _ (dD hL):w.ownsRow 0 e size v m xs)
 rcases h2 with ⟨h3,h4⟩ | ⟨b,cap,cur,hv,_⟩
 · exact h none 0 (by rw [h3,h4]) a w ha hw
 · exact h _ _ hv a w ha hw
end
section
variable {P:Program} {ops:Array Oper} {Q:Exit->Act->World->Prop} {n:Nat} {ds:List Deferred} {l:List (Nat×Value)} {W:World->Prop} {w0:World} {F:List Nat} {L:List ao} {Vs:List View}
 {rest:List Oper} {d:Nat} {ty:TypeId} {pos:String} {af:Array Edge} {g:Option (Nat×Bool)}
theorem bg {ι κ:Type} {f:FuncId} {args:Array Operand} {ts:Array TypeId} {vs:List Value} (L1 L2:List ao) (hg:cP ops l g) (hn:Nat.blt d n=true) (hf:Enters P f) (ha:iH l args.toList=some vs) (hL:L=L1++L2)
   (v:ι->Value) (eM:ι->List ao) (R:ι->Prop) (ch:κ->List PanicEntry) (Lp:κ->List ao) (Rp:κ->Prop) (bc:List View) (hV:∀H ∈ bc,H ∈ Vs)
   (hC:∀w,Ws w (L1.flatMap ao.ids) L1 bc w->Calls P f vs.toArray w λe w'=>(∃i,e = .returned (v i)/\R i/\Ws w (L1.flatMap ao.ids) (eM i) bc w')\/(∃j,e = .panicked (ch j)/\Rp j/\Ws w (L1.flatMap ao.ids) (Lp j) bc w'))
   (hp:∀j,Rp j->WE Q (.panic (ch j)) n ds l (Ws w0 F (Lp j++L2) Vs))
   (hr:∀i,R i->WL P ops Q n ds ((d,v i)::l) (Ws w0 F (eM i++L2) Vs) rest) :
   WL P ops Q n ds l (Ws w0 F L Vs) (⟨some d,.call ⟨.value (.func f),args,ts⟩,ty,pos,af,g⟩::rest):=by
 subst hL;refine WL.El hg hn hf ha v (λi w'=>R i/\Ws w0 F (eM i++L2) Vs w') (λc w'=>∃j,c=ch j/\Rp j/\Ws w0 F (Lp j++L2) Vs w') (λw hw=>(hC w (hw.self.bB hV)).mono λe w' h=>?_) (λi=>?_) (λc=>?_)
 · rcases h with ⟨i,he,hR,h⟩ | ⟨j,he,hR,h⟩
   · exact .inl ⟨i,he,hR,hw.back h⟩
   · exact .inr ⟨_,he,j,O,hR,hw.back h⟩
 · intro a w c_ hw
   exact hr i hw.1 a w c_ hw.2
 · rintro a w c_ ⟨j,rfl,hR,hw⟩
   exact hp j hR a w c_ hw
theorem WL.ad7 {ι κ:Type} {f:FuncId} {cx:Operand} {eV:Array Value} {args:Array Operand} {ts:Array TypeId} {vs:List Value} (L1 L2:List ao) (hg:cP ops l g) (hn:Nat.blt d n=true) (hf:Enters P f) (rI:aB l cx=some (.func (.func f) #[] eV)) (ha:iH l args.toList=some vs) (hL:L=L1++L2)
   (v:ι->Value) (eM:ι->List ao) (R:ι->Prop) (ch:κ->List PanicEntry) (Lp:κ->List ao) (Rp:κ->Prop) (bc:List View) (hV:∀H ∈ bc,H ∈ Vs)
   (hC:∀w,Ws w (L1.flatMap ao.ids) L1 bc w->Calls P f (vs.toArray++eV) w λe w'=>(∃i,e = .returned (v i)/\R i/\Ws w (L1.flatMap ao.ids) (eM i) bc w')\/(∃j,e = .panicked (ch j)/\Rp j/\Ws w (L1.flatMap ao.ids) (Lp j) bc w'))
   (hp:∀j,Rp j->WE Q (.panic (ch j)) n ds l (Ws w0 F (Lp j++L2) Vs))
   (hr:∀i,R i->WL P ops Q n ds ((d,v i)::l) (Ws w0 F (eM i++L2) Vs) rest) :
   WL P ops Q n ds l (Ws w0 F L Vs) (⟨some d,.call ⟨.value cx,args,ts⟩,ty,pos,af,g⟩::rest):=by
 subst hL;refine WL.adQ hg hn hf rI ha v (λi w'=>R i/\Ws w0 F (eM i++L2) Vs w') (λc w'=>∃j,c=ch j/\Rp j/\Ws w0 F (Lp j++L2) Vs w') (λw hw=>(hC w (hw.self.bB hV)).mono λe w' h=>?_) (λi=>?_) (λc=>?_)
 · rcases h with ⟨i,he,hR,h⟩ | ⟨j,he,hR,h⟩
   · exact .inl ⟨i,he,hR,hw.back h⟩
   · exact .inr ⟨_,he,j,O,hR,hw.back h⟩
 · intro a w c_ hw
   exact hr i hw.1 a w c_ hw.2
 · rintro a w c_ ⟨j,rfl,hR,hw⟩
   exact hp j hR a w c_ hw
theorem rJ {W:World->Prop} {dd:Option Tmp} {t:TypeId} {x:Operand} {v:Value} (ht:P.concrete t=true) (hx:aB l x=some v):Yl P l W ⟨dd,.makeInterface t x,ty,pos,af,g⟩ (.iface t v):=
 λρ w aD _=>by
   have e:(Instr.makeInterface t v).run P w = .ok (.iface t v) w:=run_makeInterface (h:=ht) ..;simp [execOp,aD x v hx,e]
theorem WL.panic {x:Operand} {t:TypeId} {v:Value} {dd:Option Tmp} (hg:cP ops l g) (hx:aB l x=some (.iface t v)) (h:WE Q (.panic [⟨.iface t v,false,false⟩]) n ds l W):WL P ops Q n ds l W (⟨dd,.panic x,ty,pos,af,g⟩::rest):=by
 refine WL.step hg λa w ha hw K hK=>?_
 have:(execOp a.eval ⟨dd,.panic x,ty,pos,af,g⟩).run P w = .halt (.panic (.iface t v)) w:=by
   have e:(Instr.panic (.iface t v)).run P w = .halt (.panic (.iface t v)) w:=rfl;simp [execOp,ha.eval hx,e]
 simp only [Oper.wp,this,Oper.upon_panic];exact h a w ha hw
theorem WL.defer {cx:Operand} {f:FuncId} {eV:List Value} {ts:Array TypeId} (hg:cP ops l g) (rI:aB l cx=some (.func (.func f) #[] eV.toArray))
   (h:WL P ops Q n (⟨.fn (.func f) eV.toArray,#[]⟩::ds) l W rest):WL P ops Q n ds l W (⟨none,.defer ⟨.value cx,#[],ts⟩,ty,pos,af,g⟩::rest):=by
 refine WL.step hg λa w ha hw K hK=>?_
 have:(execOp a.eval ⟨none,.defer ⟨.value cx,#[],ts⟩,ty,pos,af,g⟩).run P w = .ok (.defer ⟨.fn (.func f) eV.toArray,#[]⟩) w:=by
   simp [execOp,resolve,ha.eval rI,Deferred.ofValue]
 simp only [Oper.wp,this,Oper.upon_defer];refine hK _ _ (h _ _ ⟨ha.size,?_,ha.gd⟩ hw)
 show _::a.defers=_
 rw [ha.defs]
theorem Ny {f:FuncId} {fn:Func} {c:Code} {vs:List Value} {w:World} {R:Ending->World->Prop} (hf:P.funcs[f]? = some fn) (hb:fn.body=some c)
   (m:Nat) (hm:fn.ntmps=m) (hle:Nat.ble vs.length m=true) (h:WC P c (bodyPostD P fn R) m [] (yV 0 vs) (λw'=>w'=w)):Calls P f vs.toArray w R:=by
 refine calls_of_wp_defers hf hb (h _ _ ?_ O);have T1:=Nat.le_of_ble_eq_true hle;subst hm;refine ⟨by simp; omega,O,λt v hv=>?_⟩;obtain ⟨_,h2⟩:=Nb vs 0 t v hv;simp only [Nat.sub_zero] at h2
 have av:t<vs.length:=by
   rcases Nat.lt_or_ge t vs.length with h | h
   · exact h
   · simp [List.getElem?_eq_none h] at h2
 simp [Array.getD_eq_getD_getElem?,Array.getElem?_append,av];simp [List.getElem?_eq_getElem av] at h2;exact h2
def Rs (P:Program) (fn:Func) (l:List (Nat×Value)) (W:World->Prop) (v:Value):Prop:=∀(tmps:Array Value) w,(∀t u,lk l t=some u->tmps.getD t undef=u)->W w->(results fn tmps).run P w = .ok v w
def p1 (tmps:Array Value):ResultVar->Sem Value
 | .tmp t=>pure (tmps.getD t undef)
 | .cell a t=>do loadVar t (<-asAddr (tmps.getD a undef))
theorem EJ (fn:Func) (tmps:Array Value):results fn tmps=(do let vs <-fn.results.mapM (p1 tmps); pure (if h:vs.size=1 then vs[0] else .tuple vs)):=by
 have e:(λr:ResultVar=>match r with | .tmp t=>(pure (tmps.getD t undef):Sem Value) | .cell a t=>do loadVar t (<-asAddr (tmps.getD a undef)))=p1 tmps:=by funext r; cases r<;>rfl
 rw [<-e]; rfl
def vn (P:Program) (l:List (Nat×Value)) (W:World->Prop) (r:ResultVar) (v:Value):Prop:=∀(tmps:Array Value) w,(∀t u,lk l t=some u->tmps.getD t undef=u)->W w->(p1 tmps r).run P w = .ok v w
theorem hY {t:Nat} {v:Value} (h:lk l t=some v):vn P l W (.tmp t) v:=λtmps w ht _=>by simp only [p1,ht t v h,Sem.run_pure]
theorem hZ {a b o:Nat} {t:TypeId} {v:Value} {ob:Obj} (i:Nat) (ha:lk l a=some (.pointer (some ⟨b,o,none⟩))) (hL:L[i]? = some (ab b ob)) (hc:g_ ob o=some v) (ht:dV P t=true):vn P l (Ws w0 F L Vs) (.cell a t) v:=λtmps w h hw=>by
 simp only [p1,h a _ ha,asAddr,Sem.run_bind,Sem.run_pure,Result.andThen_ok,T2 ht (cell_of_heap (hw.kn _ (dD hL)) hc)]
theorem cU {a b o k:Nat} {t:TypeId} {ob:Obj} (i:Nat) (ha:lk l a=some (.pointer (some ⟨b,o,none⟩))) (hL:L[i]? = some (ab b ob)) (ht:fg P t=some k) (hl:(cellsIn ob o k).length=k):vn P l (Ws w0 F L Vs) (.cell a t) (.agg (cellsIn ob o k).toArray):=λtmps w h hw=>by
 have dX:(loadVar t ⟨b,o,none⟩).run P w = .ok (.agg (cellsIn ob o k).toArray) w:=IC ht hl λj v hj=>by
   have hk:w.heap[b]? = some ob:=hw.kn _ (dD hL);refine cell_of_heap hk ?_
   cases ob<;>simp [cellsIn,g_] at *
   rw [List.getElem?_take] at hj
   split at hj
   · simpa using hj
   · cases hj
 simp only [p1,h a _ ha,asAddr,Sem.run_bind,Sem.run_pure,Result.andThen_ok,dX]
theorem gA {fn:Func} {r:ResultVar} {v:Value} (hr:fn.results = #[r]) (h:vn P l W r v):Rs P fn l W v:=λtmps w ht hw=>by
 have h1:=h tmps w ht hw;simp [EJ,hr,Array.mapM_eq_mapM_toList,List.mapM_cons,List.mapM_nil,h1]
theorem gf {fn:Func} {r s:ResultVar} {v x:Value} (hr:fn.results = #[r,s]) (h:vn P l W r v) (h':vn P l W s x):Rs P fn l W (.tuple #[v,x]):=λtmps w ht hw=>by
 have h1:=h tmps w ht hw;have h2:=h' tmps w ht hw;simp [EJ,hr,Array.mapM_eq_mapM_toList,List.mapM_cons,List.mapM_nil,h1,h2]
theorem ze {fn:Func} {r s u:ResultVar} {v x y:Value} (hr:fn.results = #[r,s,u]) (h:vn P l W r v) (h':vn P l W s x) (h'':vn P l W u y):Rs P fn l W (.tuple #[v,x,y]):=λtmps w ht hw=>by
 have h1:=h tmps w ht hw;have h2:=h' tmps w ht hw;have h3:=h'' tmps w ht hw;simp [EJ,hr,Array.mapM_eq_mapM_toList,List.mapM_cons,List.mapM_nil,h1,h2,h3]
theorem WE.dM {fn:Func} {R:Ending->World->Prop} {v:Value} (hr:Rs P fn l W v) (h:∀w,W w->R (.returned v) w):WE (bodyPost P fn R) .ret n [] l W:=
 λa w ha hw=>bodyPost_ret (hr a.tmps w ha.gd hw) ha.defs (h w hw)
theorem WE.Us {fn:Func} {R:Ending->World->Prop} {f:FuncId} {eV:List Value} {W':World->Prop} {v:Value} (hf:Enters P f)
   (hC:∀w,W w->CallsD P f eV.toArray .returning w λe u' w'=>e = .returned (.tuple #[])/\u' = .returning/\W' w')
   (hr:Rs P fn l W' v) (h:∀w,W' w->R (.returned v) w):WE (bodyPostD P fn R) .ret n [⟨.fn (.func f) eV.toArray,#[]⟩] l W:=by
 intro a w ha hw
 show Leaves P fn a.tmps R a.defers .returning w
 rw [ha.defs];refine ⟨by simp,.func f,eV.toArray,f,eV.toArray,O,?_,(hC w hw).mono λe u' w' he=>?_⟩
 · simp only [invoke]
   simpa using hf eV.toArray w
 · obtain ⟨rfl,rfl,dR⟩:=he
   exact ⟨v,hr a.tmps w' ha.gd dR,h w' dR⟩
theorem WE.tv {fn:Func} {R:Ending->World->Prop} {f:FuncId} {eV:List Value} {W':World->Prop} {v pv:Value} (hf:Enters P f)
   (hC:∀w,W w->CallsD P f eV.toArray (.panicking [⟨pv,false,false⟩]) w λe u' w'=>e = .returned (.tuple #[])/\u' = .panicking [⟨pv,true,false⟩]/\W' w')
   (hr:Rs P fn l W' v) (h:∀w,W' w->R (.returned v) w):WE (bodyPostD P fn R) (.panic [⟨pv,false,false⟩]) n [⟨.fn (.func f) eV.toArray,#[]⟩] l W:=by
 intro a w ha hw
 show Leaves P fn a.tmps R a.defers (.panicking [⟨pv,false,false⟩]) w
 rw [ha.defs];refine ⟨by simp,.func f,eV.toArray,f,eV.toArray,O,?_,(hC w hw).mono λe u' w' he=>?_⟩
 · simp only [invoke]
   simpa using hf eV.toArray w
 · obtain ⟨rfl,rfl,dR⟩:=he
   exact ⟨v,hr a.tmps w' ha.gd dR,h w' dR⟩
theorem WE.BN {fn:Func} {R:Ending->World->Prop} {v:Value} (hr:Rs P fn l W v) (h:∀w,W w->R (.returned v) w):WE (bodyPostD P fn R) .ret n [] l W:=by
 intro a w ha hw
 show Leaves P fn a.tmps R a.defers .returning w
 rw [ha.defs];exact ⟨v,hr a.tmps w ha.gd hw,h w hw⟩
def Ut (u:FrameMode) (rv:Value) (u':FrameMode):Prop:=(u = .returning/\rv = .nilIface/\u' = .returning)\/∃v,u = .panicking [⟨v,false,false⟩]/\rv=v/\u' = .panicking [⟨v,true,false⟩]
theorem ad9 {id:Nat} {o:Oper} {os:List Oper} {d:Nat} {y:Code} {p3:Frame} {cs:List Frame} {a:Act} {w:World} {rv:Value} {u':FrameMode} {Q:Exit->Act->World->Prop} {Qs:Exit->Act->List Frame->World->Prop}
   (Nz:o.dst=some d) (NA:o.guard=none) (dX:(execOp a.eval o).run P w = .ok .recover w) (hu:Ut p3.mode rv u')
   (hQ:∀e a w,Q e a w->Qs e a ({ p3 with mode:=u' }::cs) w)
   (h:wpList P (o::os).toArray (Exit.then (y.wp P Q) Q) os (a.put (some d) rv) w):(Code.seq (.region id (o::os).toArray false) y).wpS P Qs a (p3::cs) w:=by
 refine wpS_seq ?_;intro b k hb jN;have Uu:(o::os).toArray[0]? = some o:=rfl
 have ad':Region.wanted o (yielded (o::os).toArray a.tmps)=true:=by simp [Region.wanted,NA]
 have hg:=stepG_op (P:=P) (b:=b) (k:=k) (cs:=p3::cs) (w:=w) (rest:=List.range' 1 os.length) Uu ad';have hk:(b.at a (.inRegion (o::os).toArray (0::List.range' 1 os.length)::k)).kind = .deferred:=hb;have NB:=tryRecover_deferred hk (p3::cs)
 have ad_:∀v,(b.at a (.inRegion (o::os).toArray (0::List.range' 1 os.length)::k)).finish v=b.at (a.put (some d) v) (.inRegion (o::os).toArray (List.range' 1 os.length)::k):=by
   intro v; rw [Frame.finish_at,Uu,<-Nz]; rfl
 have aea:step P (lone (b.at a (.inRegion (o::os).toArray (0::List.range' 1 os.length)::k)) (p3::cs) w) = .next (lone (b.at (a.put (some d) rv) (.inRegion (o::os).toArray (List.range' 1 os.length)::k)) ({ p3 with mode:=u' }::cs) w):=by
   refine step_lone_go ?_;rw [hg,<-ad_];simp only [Frame.at] at NB ⊢
   rcases hu with ⟨hm,rfl,rfl⟩ | ⟨v,hm,rfl,rfl⟩
   · simp [stepG.apply,dX,NB,recoverD,hm]
     rw [<-hm]
   · simp [stepG.apply,dX,NB,recoverD,hm]
 have hl:wpOps P (o::os).toArray (Exit.then (y.wp P Q) Q) (List.range' 1 os.length) (a.put (some d) rv) w:=by
   rw [wpOps_eq_wpList os 1 (λj=>by simp [Nat.add_comm 1 j])]; exact h
 obtain ⟨e,a',w',hq,aeb⟩:=wp_ops _ _ _ hl b k ({ p3 with mode:=u' }::cs)
 have hs0:step P (lone (b.at a (.code (.region id (o::os).toArray false)::k)) (p3::cs) w) = .next (lone (b.at a (.inRegion (o::os).toArray (0::List.range' 1 os.length)::k)) (p3::cs) w):=by
   have:=step_region (P:=P) (b:=b) (a:=a) (k:=k) (cs:=p3::cs) (w:=w) (ops:=(o::os).toArray) (id:=id);rw [this];simp [List.range_eq_range',List.range'_succ]
 refine ⟨e,a',_,w',?_,.of_steps (.head hs0 (.one aea)) aeb⟩
 cases e with
 | normal=>exact wpS_of_wp (wp_mono hq λe a w h=>hQ e a w h)
 | _=>exact hQ _ _ _ hq
theorem EL {f:FuncId} {fn:Func} {id:Nat} {o:Oper} {os:List Oper} {d:Nat} {y:Code} {vs:List Value} {w:World} {rv:Value} {u u':FrameMode} {R:Ending->World->Prop} (hf:P.funcs[f]? = some fn) (hb:fn.body=some (.seq (.region id (o::os).toArray false) y))
   (m:Nat) (hm:fn.ntmps=m) (hle:Nat.ble vs.length m=true) (Nz:o.dst=some d) (hdm:Nat.blt d m=true) (NA:o.guard=none) (gk:∀(ρ:Operand->Value),(execOp ρ o).run P w = .ok .recover w) (hu:Ut u rv u')
   (h:WL P (o::os).toArray (Exit.then (y.wp P (bodyPost P fn R)) (bodyPost P fn R)) m [] ((d,rv)::yV 0 vs) (λw'=>w'=w) os):CallsD P f vs.toArray u w λe u2 w'=>u2=u'/\R e w':=by
 refine callsD_of_wpS hf hb λp3 cs hc=>?_;refine ad9 (Q:=bodyPost P fn R) Nz NA (gk _) (by rw [hc]; exact hu) (λe a w hq=>?_) (h _ _ ?_ O)
 · cases e with
   | normal=>exact ⟨hq.1,u',rfl,hq.2.choose,hq.2.choose_spec.1,rfl,hq.2.choose_spec.2⟩
   | ret=>exact ⟨hq.1,u',rfl,hq.2.choose,hq.2.choose_spec.1,rfl,hq.2.choose_spec.2⟩
   | panic ch=>exact ⟨hq.1,u',rfl,rfl,hq.2⟩
   | outgrown=>exact ⟨u',rfl,hq⟩
   | exit i=>exact hq
   | goto i=>exact hq
 · have T1:=Nat.le_of_ble_eq_true hle
   subst hm
   have hA:Ag fn.ntmps [] (yV 0 vs) { tmps:=vs.toArray++Array.replicate (fn.ntmps-vs.toArray.size) undef,defers:=[] }:=by
     refine ⟨by simp; omega,O,λt v hv=>?_⟩;obtain ⟨_,h2⟩:=Nb vs 0 t v hv;simp only [Nat.sub_zero] at h2
     have av:t<vs.length:=by
       rcases Nat.lt_or_ge t vs.length with h | h
       · exact h
       · simp [List.getElem?_eq_none h] at h2
     simp [Array.getD_eq_getD_getElem?,Array.getElem?_append,av];simp [List.getElem?_eq_getElem av] at h2;exact h2
   exact hA.put hdm rv
theorem Uv {t u:TypeId} {x:Operand} {W:World->Prop} {dd:Option Tmp} (ht:P.underlying t=some (.interface (P.methodsAt t))) (hx:aB l x=some .nilIface):Yl P l W ⟨dd,.binOp .neq t x (.const .nilIface) u,ty,pos,af,g⟩ (.bool false):=by
 intro ρ w aD _;have hy:ρ (.const .nilIface) = .nilIface:=aD _ _ rfl;simp only [execOp,aD x _ hx,hy,Sem.run_bind];simp [eqGuard_nil_constR,run_neq_nil_nil (h:=ht)]
theorem aee {t u s:TypeId} {x:Operand} {v:Value} {W:World->Prop} {dd:Option Tmp} (ht:P.underlying t=some (.interface (P.methodsAt t))) (hx:aB l x=some (.iface s v)):Yl P l W ⟨dd,.binOp .neq t x (.const .nilIface) u,ty,pos,af,g⟩ (.bool true):=by
 intro ρ w aD _;have hy:ρ (.const .nilIface) = .nilIface:=aD _ _ rfl
 have hg:(eqGuard .neq t x (.const .nilIface) (.iface s v) .nilIface)=pure ():=by cases x<;>rfl
 simp only [execOp,aD x _ hx,hy,Sem.run_bind,hg];simp [run_neq_held_nil (h:=ht)]
end
section
variable {P:Program} {l:List (Nat×Value)} {W:World->Prop} {d:Option Tmp} {ty:TypeId} {pos:String} {af:Array Edge} {g:Option (Nat×Bool)}
theorem Uw (s:List UInt8) (i j:Nat):Value.string ((ByteArray.mk s.toArray).extract i j)=st ((s.take j).drop i):=by
 have e:((ByteArray.mk s.toArray).extract i j)=⟨((s.take j).drop i).toArray⟩:=by
   apply ByteArray.ext;simp [List.drop_take]
 rw [e]; rfl
theorem Ux {t:TypeId} {x y:Operand} {s:List UInt8} {k:IntKind} {h:Int} (ht:P.underlying t=some .string) (hx:aB l x=some (st s)) (hy:aB l y=some (.int k h)) (h0:0<=h) (h1:h<=s.length):Yl P l W ⟨d,.slice t x none (some y) none,ty,pos,af,g⟩ (st (s.take h.toNat)):=by
 intro ρ w aD _;have e:=run_slice_string_h (P:=P) w t ⟨s.toArray⟩ ht k h h0 (by rw [IT]; exact h1)
 have e2:(Instr.sliceAt t (.string ⟨s.toArray⟩) none (some (.int k h)) none).run P w = .ok (st (s.take h.toNat)) w:=by
   rw [run_sliceAt_string (h:=ht),e,Uw]; simp
 simp [execOp,aD x _ hx,aD y _ hy,st,e2]
theorem NC {t:TypeId} {x y:Operand} {s:List UInt8} {k:IntKind} {h:Int} (ht:P.underlying t=some .string) (hx:aB l x=some (st s)) (hy:aB l y=some (.int k h)) (h0:0<=h) (h1:h<=s.length):Yl P l W ⟨d,.slice t x (some y) none none,ty,pos,af,g⟩ (st (s.drop h.toNat)):=by
 intro ρ w aD _;have e:=run_slice_string_l (P:=P) w t ⟨s.toArray⟩ ht k h h0 (by rw [IT]; exact h1)
 have e2:(Instr.sliceAt t (.string ⟨s.toArray⟩) (some (.int k h)) none none).run P w = .ok (st (s.drop h.toNat)) w:=by
   rw [run_sliceAt_string (h:=ht),e,Uw,IT,List.take_length]
 simp [execOp,aD x _ hx,aD y _ hy,st,e2]
end
abbrev bj {α:Type} (e:TypeId) (k:Nat) (f:α->List Value) (a:Option Addr) (c:Nat) (xs:List α):ao:=dF e k (.slice a xs.length c) xs.length (xs.flatMap f)
section
variable {P:Program} {ops:Array Oper} {Q:Exit->Act->World->Prop} {n:Nat} {ds:List Deferred} {l:List (Nat×Value)} {w0:World} {F:List Nat} {L:List ao} {Vs:List View}
 {rest:List Oper} {d:Nat} {ty:TypeId} {pos:String} {af:Array Edge} {g:Option (Nat×Bool)}
theorem LA {α:Type} {f:α->List Value} {t e:TypeId} {z:Value} {size bytes cc:Nat} {s y:Operand} {a:Option Addr} {c bb:Nat} {xs:List α} {T:TypeId} {fz:Nat×Nat} (x:α) (i j:Nat) (hg:cP ops l g) (hn:Nat.blt d n=true) (hE:fk P t e z size bytes)
   (hs:aB l s=some (.slice a xs.length c)) (hy:aB l y=some (.slice (some ⟨bb,0,none⟩) 1 cc)) (hL:L[i]? = some (bj e size f a c xs)) (hB:L[j]? = some (ab bb (.cells (f x).toArray T fz)))
   (hl:(f x).length=size) (h1:(f x).all (·.oneCell')=true) (oX:xs.length+1<=9223372036854775807) (vl:(xs.length+1)*bytes<=140737488355328)
   (h:∀a' c',WL P ops Q n ds ((d,.slice a' (xs++[x]).length c')::l) (Ws w0 F (L.set i (bj e size f a' c' (xs++[x]))) Vs) rest) :
   WL P ops Q n ds l (Ws w0 F L Vs) (⟨some d,.call ⟨.builtin .append,#[s,y],#[t,t]⟩,ty,pos,af,g⟩::rest):=by
 refine WL.append i hg hn hE hs hy hL (news:=f x) (k:=1) (by rw [Nat.one_mul]; exact hl) (λw hw k u hu=>adY hw j hB (k:=k) (by simpa using hu)) (λu hu=>List.all_eq_true.1 h1 u hu) (by unfold maxLen; omega) vl λv' _=>?_
 have e1:(xs.flatMap f)++f x=(xs++[x]).flatMap f:=by simp
 have e2:xs.length+1=(xs++[x]).length:=by simp
 rw [e1,e2];have hi:i<L.length:=(List.getElem?_eq_some_iff.1 hL).1;refine WL.Ur i (m:=(xs++[x]).length) (xs:=(xs++[x]).flatMap f) (e:=e) (size:=size) (v:=v') (by simp [hi]) λa' c' hv=>?_;subst hv;exact h a' c'
end
theorem Ws.gB {α:Type} {rd:View->Nat->Nat->α->Prop} {f:α->List Value} {k:Nat} {w0 w:World} {L:List ao} {Vs:List View} (h:Ws w0 [] L Vs w) (i:Nat) {a:Option Addr} {c:Nat} {e:TypeId} {xs:List α} (hL:L[i]? = some (bj e k f a c xs))
   (hf:∀x,(f x).length=k) (ed:∀H b o x,aP H b o (f x)->rd H b o x):Sl rd k (nv w0 w) a c xs:=by
 rcases h.nvs i hL with ⟨h1,h2⟩ | ⟨b,c',h1,h2,h3,h4⟩
 · injection h1 with ha hl hc
   subst ha hc;have:xs=[]:=List.eq_nil_of_length_eq_zero (by omega);subst this;exact Sl.nil
 · injection h1 with ha hl hc
   subst ha hc;refine ⟨h2,by unfold maxLen at h3; omega,by simp,λi x hx=>⟨b,0,O,ed _ _ _ _ λj v hv=>?_⟩⟩
   have hj:j<k:=by have:=(List.getElem?_eq_some_iff.1 hv).1; rw [hf] at this; exact this
   rw [Nat.zero_add];exact h4 _ _ (by rw [pY hf hx hj]; exact hv)
theorem Ws.EM {α:Type} {rd:View->Nat->Nat->α->Prop} {f:α->List Value} {k:Nat} {w0 w:World} {F:List Nat} {L:List ao} {Vs:List View} (h:Ws w0 F L Vs w) (i:Nat) {a:Option Addr} {c:Nat} {e:TypeId} {xs:List α} (hL:L[i]? = some (bj e k f a c xs))
   (hf:∀x,(f x).length=k) (ed:∀H b o x,aP H b o (f x)->rd H b o x):Sl rd k (hv w) a c xs:=by
 obtain ⟨h1,h2⟩:=(h.kn _ (dD hL):w.ownsRow 0 e k _ xs.length (xs.flatMap f))
 rcases h2 with ⟨h3,h4⟩ | ⟨b,cap,cur,h5,_,hb,mT,hc,hs,ht⟩
 · injection h3 with ha hl hc
   subst ha hc;have:xs=[]:=List.eq_nil_of_length_eq_zero (by omega);subst this;exact Sl.nil
 · injection h5 with ha hl mU
   subst ha mU;refine ⟨mT,by unfold maxLen at hc; omega,by simp,λi x hx=>⟨b,0,O,ed _ _ _ _ λj v hv=>?_⟩⟩
   have hj:j<k:=by have:=(List.getElem?_eq_some_iff.1 hv).1; rw [hf] at this; exact this
   have h6:(xs.flatMap f)[i*k+j]? = some v:=by rw [pY hf hx hj]; exact hv
   rw [<-ht,List.getElem?_take] at h6
   split at h6
   · refine IS hb ?_
     simpa [g_] using h6
   · cases h6
def mY (rs:List ResultVar) (d:Option Tmp):Bool:=match d with
 | none=>true
 | some d=>rs.all λr=>match r with | .tmp t=>!(Nat.beq d t) | .cell a _=>!(Nat.beq d a)
theorem aef {r:ResultVar} {d:Nat} {v:Value} {a:Act} (h:(match r with | .tmp t=>!(Nat.beq d t) | .cell a _=>!(Nat.beq d a))=true):p1 (a.put (some d) v).tmps r=p1 a.tmps r:=by
 have key:∀t,(!(Nat.beq d t))=true->(a.put (some d) v).tmps.getD t undef=a.tmps.getD t undef:=λt ht=>by
   have dB:d≠t:=λe=>by subst e; simp at ht
   simp only [Act.put,Array.getD_eq_getD_getElem?];rw [Array.getElem?_setIfInBounds_ne dB]
 cases r with
 | tmp t=>simp only [p1,key t h]
 | cell x _=>simp only [p1,key x h]
theorem aeg {fn:Func} {rs:List ResultVar} (hr:fn.results=rs.toArray) {d:Option Tmp} {v:Value} {a:Act} (h:mY rs d=true):results fn (a.put d v).tmps=results fn a.tmps:=by
 cases d with
 | none=>rfl
 | some d=>
   simp only [mY,List.all_eq_true] at h
   have e:∀l:List ResultVar,(∀r ∈ l,r ∈ rs)->l.mapM (p1 (a.put (some d) v).tmps)=l.mapM (p1 a.tmps):=by
     intro l
     induction l with
     | nil=>intro _; rfl
     | cons x l ih=>
       intro hl;rw [List.mapM_cons,List.mapM_cons,aef (h x (hl x (by simp))),ih λr hr=>hl r (by simp [hr])]
   rw [EJ,EJ,hr,Array.mapM_eq_mapM_toList,Array.mapM_eq_mapM_toList,e _ λr hr=>by simpa using hr]
theorem ND {P:Program} {fn:Func} {rs:List ResultVar} {R:Ending->World->Prop} (hr:fn.results=rs.toArray) {d:Option Tmp} {v:Value} {a:Act} (h:mY rs d=true):∀(ds:List Deferred) (u:FrameMode) (w:World),Leaves P fn (a.put d v).tmps R ds u w->Leaves P fn a.tmps R ds u w
 | [],.returning,w,hl=>by
   simp only [Leaves] at hl ⊢;rw [aeg hr h] at hl;exact hl
 | [],.panicking _,_,hl=>hl
 | [],.run,_,hl=>hl
 | x::ds,u,w,hl=>by
   obtain ⟨h1,fv,cap,f,args,h2,h3,h4⟩:=hl;refine ⟨h1,fv,cap,f,args,h2,h3,h4.mono λe u' w' he=>?_⟩
   cases e with
   | returned v=>exact ND hr h ds _ _ he
   | panicked ch=>exact ND hr h ds _ _ he
   | outgrown=>exact he
theorem rK {P:Program} {fn:Func} (rs:List ResultVar) {R:Ending->World->Prop} (hr:fn.results=rs.toArray) {d:Option Tmp} {v:Value} {a:Act} {c:List PanicEntry} {w:World} (h:mY rs d=true) (hl:bodyPostD P fn R (.panic c) (a.put d v) w):bodyPostD P fn R (.panic c) a w:=by
 have e:(a.put d v).defers=a.defers:=by cases d<;>rfl
 have hl:Leaves P fn (a.put d v).tmps R (a.put d v).defers (.panicking c) w:=hl;rw [e] at hl;exact ND hr h _ _ _ hl
section
variable {P:Program} {md:Region.Mode} {ops:Array Oper} {C:World->Prop} {Q:Exit->Act->World->Prop}
def BO (ok:Option Tmp->Bool) (ops:Array Oper):Bool:=ops.toList.all λo=>ok o.dst
theorem Uy {ok:Option Tmp->Bool} (h:BO ok ops=true) {i:Nat} {o:Oper} (ho:ops[i]? = some o):ok o.dst=true:=by
 refine List.all_eq_true.1 h o ?_
 have:ops.toList[i]? = some o:=by simpa using ho
 exact List.mem_of_getElem? this
theorem NF {ok:Option Tmp->Bool} (aA:BO ok ops=true) (hs:Region.noSelect ops=true) (hQ:∀c a w d v,ok d=true->Q (.panic c) (a.put d v) w->Q (.panic c) a w):∀(ord:List (Nat×Bool)) (listed:Array Bool) (a:Act) (w:World),
   nS md ops ord listed=true->nT P ops C Q ord a w->rH P md ops C Q ord.length listed a w
 | [],listed,a,w,hB,h=>⟨h.1,by simpa [nS] using hB,h.2⟩
 | (i,true)::r,listed,a,w,hB,h=>by
   simp only [nS,cond_true,Bool.and_eq_true] at hB;obtain ⟨hC,o,v,ho,hy,h⟩:=h
   exact Np ho (Region.noSelect_spec hs) (λc a w=>hQ c a w o.dst v (Uy aA ho)) r.length listed a w (Region.free_spec ho hB.1.2) (by simpa using hB.1.1) hy hC
     (NF aA hs hQ r _ _ _ hB.2 h)
 | (i,false)::r,listed,a,w,hB,h=>by
   simp only [nS,cond_false,Bool.and_eq_true,beq_iff_eq] at hB;refine ⟨h.1,λhe=>(by rw [he] at hB; cases hB.1),λj hj=>?_⟩;rw [hB.1] at hj;simp at hj;subst hj;exact wpOp_mono (λa' w' h'=>NF aA hs hQ r _ _ _ hB.2 h') h.2
variable {n:Nat} {ds:List Deferred} {l:List (Nat×Value)} {W:World->Prop}
def outs:List Nat->List ao->List ao
 | [],L=>L
 | i::r,L=>outs r (dv i L)
theorem Wo {w0 w:World} {F:List Nat} {L:List ao} {Vs:List View} (i:Nat) (h:Ws w0 F L Vs w):Ws w0 F (dv i L) Vs w:=Ws.out i h
theorem Wt {w0 w:World} {F:List Nat} {L:List ao} {Vs:List View} (n:Nat) (h:Ws w0 F L Vs w):Ws w0 F (L.take n) Vs w:=Ws.bM (L':=L.drop n) (by rw [List.take_append_drop]; exact h)
theorem Wd {w0 w:World} {F:List Nat} {L:List ao} {Vs:List View} (n:Nat) (h:Ws w0 F L Vs w):Ws w0 F (L.drop n) Vs w:=Ws.drop (L:=L.take n) (by rw [List.take_append_drop]; exact h)
theorem Wv {w0 w:World} {F:List Nat} {L:List ao} {Vs:List View} (n:Nat) (h:Ws w0 F L Vs w):Ws w0 F L (Vs.drop n) w:=Ws.bB h λ_ hm=>List.mem_of_mem_drop hm
theorem Ws.f {w0 w:World} {F:List Nat} {L:List ao} {Vs:List View} (i:Nat) {A:ao} (h:Ws w0 F L Vs w) (hA:L[i]? = some A):Ws w0 F (A::dv i L) Vs w:=h.perm (mR i L hA)
theorem Wp {w0:World} {F:List Nat} {L:List ao} {Vs:List View} (i:Nat):∀w,Ws w0 F L Vs w->Ws w0 F (dv i L) Vs w:=λ_ h=>Wo i h
theorem bw {w0:World} {F:List Nat} {L:List ao} {Vs:List View} (is:List Nat):∀w,Ws w0 F L Vs w->Ws w0 F (outs is L) Vs w:=λ_ h=>by
 induction is generalizing L with
 | nil=>exact h
 | cons i r ih=>exact ih (Wo i h)
theorem WC.IY {id:Nat} {os:List Oper} {w0:World} {F:List Nat} {L:List ao} {Vs:List View} (ok:Option Tmp->Bool) (is:List Nat) (ord:List (Nat×Bool)) (hm:P.follows .mixedOrders=true) (aA:BO ok os.toArray=true) (hB:(Region.noSelect os.toArray&&(ord.length==os.toArray.size&&nS .any os.toArray ord (Array.replicate os.toArray.size false)))=true)
   (hQ:∀c a w d v,ok d=true->Q (.panic c) (a.put d v) w->Q (.panic c) a w) (h:WD P os.toArray (Ws w0 F (outs is L) Vs) Q n ds l (Ws w0 F L Vs) ord):WC P (.region id os.toArray true) Q n ds l (Ws w0 F L Vs):=by
 intro a w ha hw;simp only [Bool.and_eq_true,beq_iff_eq] at hB;have:=IM (md:=.any) _ _ _ _ (NF aA hB.1 hQ ord _ a w.drew hB.2.2 (h a w.drew ha hw.drew));rw [hB.2.1] at this;exact wp_region_any hm this
theorem WD.skip {r:List (Nat×Bool)} {i d:Nat} {op:Op} {ty:TypeId} {pos:String} {af:Array Edge} {j:Nat} {b:Bool} {oj:Oper} {dj:Nat} (hi:ops[i]? = some ⟨some d,op,ty,pos,af,some (j,b)⟩) (hn:Nat.blt d n=true)
   (hj:ops[j]? = some oj) (Ef:oj.dst=some dj) (vf:Nat.blt dj n=true) (hb:lk l dj=some (.bool (!b)))
   (hC:∀w,W w->C w) (h:WD P ops C Q n ds ((d,undef)::l) W r):WD P ops C Q n ds l W ((i,true)::r):=by
 intro a w ha hw;have hv:a.tmps.getD dj undef = .bool (!b):=ha.gd dj _ hb
 have av:dj<a.tmps.size:=by rw [ha.size]; exact Nat.le_of_ble_eq_true vf
 have vg:a.tmps[dj]? = some (.bool (!b)):=by
   rw [Array.getD_eq_getD_getElem?,Array.getElem?_eq_getElem av] at hv;rw [Array.getElem?_eq_getElem av]
   simpa using hv
 have Eg:yielded ops a.tmps j=some (!b):=by simp [yielded,hj,Ef,vg]
 exact ⟨hC w hw,_,undef,hi,.inr ⟨by simp [Region.wanted,Eg],O⟩,h _ _ (ha.put hn undef) hw⟩
theorem WE.front {w0:World} {F:List Nat} {L:List ao} {Vs:List View} {e:Exit} {A:ao} (i:Nat) (hL:L[i]? = some A) (h:WE Q e n ds l (Ws w0 F (A::dv i L) Vs)):WE Q e n ds l (Ws w0 F L Vs):=
 WE.world (λ_ hw=>hw.perm (mR i L hL)) h
theorem p4 {w0:World} {F:List Nat} {L:List ao} {Vs:List View} {f:FuncId} {args:Array Value} {u u':FrameMode} (L1 L2 eM:List ao) (hL:L=L1++L2)
   (hC:∀w,Ws w (L1.flatMap ao.ids) L1 [] w->CallsD P f args u w λe u2 w'=>u2=u'/\(e = .returned (.tuple #[])/\Ws w (L1.flatMap ao.ids) eM [] w')) :
   ∀w,Ws w0 F L Vs w->CallsD P f args u w λe u2 w'=>e = .returned (.tuple #[])/\u2=u'/\Ws w0 F (eM++L2) Vs w':=by
 intro w hw;subst hL;exact (hC w (hw.self.bB (by simp))).mono λe u2 w' ⟨h1,h2,h3⟩=>⟨h2,h1,hw.back h3⟩
end
open Go.ChangeShapes Go.WideShapes Go.ChangeAt Go.RowKit Go.Joins Go.Deep
theorem Uz {α:Type} (p:Nat->α->Prop):∀n,(∀i,i<n->∃x,p i x)->∃l:List α,l.length=n/\∀(i:Nat) (x:α),l[i]? = some x->p i x
 | 0,_=>⟨[],rfl,by simp⟩
 | n+1,h=>by
   obtain ⟨l,hl,hp⟩:=Uz p n λi hi=>h i (by omega);obtain ⟨x,hx⟩:=h n (by omega);refine ⟨l++[x],by simp [hl],λi y hy=>?_⟩
   rcases Nat.lt_trichotomy i n with h1 | h1 | h1
   · rw [List.getElem?_append_left (by omega)] at hy; exact hp i y hy
   · subst h1
     rw [List.getElem?_append_right (by omega),hl] at hy;simp at hy; subst hy; exact hx
   · rw [List.getElem?_eq_none (by simp; omega)] at hy; cases hy
theorem NG {w:World} {b o:Nat} {v:Value} (h:w.cell? ⟨b,o,none⟩=some v):vc (hv w) b o=some v:=by
 unfold vc hv;unfold World.cell? at h
 cases hb:w.heap[b]? with
 | none=>simp [hb] at h
 | some ob=>cases ob<;>simp [hb,g_] at h ⊢<;>exact h
inductive Sh where
 | int
 | str
 | bool
deriving DecidableEq
def jO (P:Program):Nat->List Field->Bool
 | _,[]=>true
 | i,f::r=>Nat.beq f.offset i&&(Nat.beq (P.cellsOf f.type) 1&&jO P (i+1) r)
section
variable {P:Program} {H:Type} {enc:TypeId×Value->H} {w:World} {base:Nat} {spare:Nat->Bool} {held:Bool}
theorem UA:∀(i:Nat) (l:List Field) (j:Nat) (f:Field),jO P i l=true->l[j]? = some f->f.offset=i+j/\P.cellsOf f.type=1
 | _,[],j,f,_,h=>by cases h
 | i,g::r,0,f,hr,h=>by
   simp only [jO,Bool.and_eq_true] at hr;simp at h; subst h;exact ⟨Nat.eq_of_beq_eq_true hr.1,Nat.eq_of_beq_eq_true hr.2.1⟩
 | i,g::r,j+1,f,hr,h=>by
   simp only [jO,Bool.and_eq_true] at hr;have:=UA (i+1) r j f hr.2.2 (by simpa using h);exact ⟨by omega,this.2⟩
end
end Go.Bw
end
section
namespace Go.Bw
set_option linter.unnecessarySimpa false
open Go Go.RowKit
def dS (As:List ao):ao:=⟨As.flatMap ao.ids,λw=>∀A ∈ As,A.holds w,
 λw w' h hw A hA=>A.loc w w' (λk hk=>h k (List.mem_flatMap.2 ⟨A,hA,hk⟩)) (hw A hA),
 λw hw k hk=>let ⟨A,hA,hk⟩:=List.mem_flatMap.1 hk; A.BC w (hw A hA) k hk⟩
section
variable {P:Program} {ops:Array Oper} {Q:Exit->Act->World->Prop} {n:Nat} {ds:List Deferred} {l:List (Nat×Value)} {w0 w:World} {F:List Nat} {L:List ao} {Vs:List View} {rest:List Oper} {A:ao} {As:List ao}
theorem Ws.BP (h:Ws w0 F (dS (A::As)::L) Vs w):Ws w0 F (A::dS As::L) Vs w:=by
 refine ⟨h.fr,?_,?_,?_,h.vs,?_⟩
 · intro B hB
   have hf:=h.kn (dS (A::As)) (by simp)
   rcases List.mem_cons.1 hB with rfl | hB
   · exact hf _ (by simp)
   · rcases List.mem_cons.1 hB with rfl | hB
     · exact λC hC=>hf C (by simp [hC])
     · exact h.kn B (by simp [hB])
 · have:=h.nd
   simpa [dS] using this
 · intro B hB k hk
   rcases List.mem_cons.1 hB with rfl | hB
   · exact h.own (dS (B::As)) (by simp) k (by simp [dS,hk])
   · rcases List.mem_cons.1 hB with rfl | hB
     · exact h.own (dS (A::As)) (by simp) k (by simp only [dS,List.flatMap_cons] at hk ⊢; exact List.mem_append_right _ hk)
     · exact h.own B (by simp [hB]) k hk
 · intro H hH B hB k hk
   rcases List.mem_cons.1 hB with rfl | hB
   · exact h.off H hH (dS (B::As)) (by simp) k (by simp [dS,hk])
   · rcases List.mem_cons.1 hB with rfl | hB
     · exact h.off H hH (dS (A::As)) (by simp) k (by simp only [dS,List.flatMap_cons] at hk ⊢; exact List.mem_append_right _ hk)
     · exact h.off H hH B (by simp [hB]) k hk
theorem Ws.BQ (h:Ws w0 F (A::dS As::L) Vs w):Ws w0 F (dS (A::As)::L) Vs w:=by
 have hA:=h.kn A (by simp);have hF:=h.kn (dS As) (by simp);refine ⟨h.fr,?_,?_,?_,h.vs,?_⟩
 · intro B hB
   rcases List.mem_cons.1 hB with rfl | hB
   · intro C hC
     rcases List.mem_cons.1 hC with rfl | hC
     · exact hA
     · exact hF C hC
   · exact h.kn B (by simp [hB])
 · have:=h.nd
   simpa [dS] using this
 · intro B hB k hk
   rcases List.mem_cons.1 hB with rfl | hB
   · simp only [dS,List.flatMap_cons,List.mem_append] at hk
     rcases hk with hk | hk
     · exact h.own A (by simp) k hk
     · exact h.own (dS As) (by simp) k hk
   · exact h.own B (by simp [hB]) k hk
 · intro H hH B hB k hk
   rcases List.mem_cons.1 hB with rfl | hB
   · simp only [dS,List.flatMap_cons,List.mem_append] at hk
     rcases hk with hk | hk
     · exact h.off H hH A (by simp) k hk
     · exact h.off H hH (dS As) (by simp) k hk
   · exact h.off H hH B (by simp [hB]) k hk
theorem Ws.aeh (h:Ws w0 F L Vs w):Ws w0 F (dS []::L) Vs w:=by
 refine ⟨h.fr,?_,by simpa [dS] using h.nd,?_,h.vs,?_⟩
 · intro B hB
   rcases List.mem_cons.1 hB with rfl | hB
   · intro C hC; cases hC
   · exact h.kn B hB
 · intro B hB k hk
   rcases List.mem_cons.1 hB with rfl | hB
   · simp [dS] at hk
   · exact h.own B hB k hk
 · intro H hH B hB k hk
   rcases List.mem_cons.1 hB with rfl | hB
   · simp [dS] at hk
   · exact h.off H hH B hB k hk
theorem aei {w:World} {e:TypeId} {size m m' c:Nat} {a:Option Addr} {xs:List Value} (h:w.ownsRow 0 e size (.slice a m c) m xs) (hm:m'<=m):w.ownsRow 0 e size (.slice a m' c) m' (xs.take (m'*size)):=by
 obtain ⟨h1,h2⟩:=h;have hmul:m'*size<=m*size:=Nat.mul_le_mul_right _ hm
 rcases h2 with ⟨h2,h3⟩ | ⟨g,cap,cur,hv,h0,hg,mT,hc,hs,ht⟩
 · injection h2 with ha hl hc
   subst ha hc
   obtain rfl:m'=0:=by omega
   exact ⟨by simp,.inl ⟨O,by simp⟩⟩
 · injection hv with ha hl mU
   subst ha mU;refine ⟨by rw [List.length_take,h1]; omega,.inr ⟨g,c,cur,O,h0,hg,by omega,hc,hs,?_⟩⟩;rw [<-ht,List.take_take]
   congr 1
   omega
theorem UB {α:Type} {f:α->List Value} {k:Nat} (hf:∀x,(f x).length=k):∀(xs:List α) (m:Nat),(xs.flatMap f).take (m*k)=(xs.take m).flatMap f
 | [],m=>by simp
 | x::r,0=>by simp
 | x::r,m+1=>by
   simp only [List.flatMap_cons,List.take_succ_cons];rw [List.take_append,hf,List.take_of_length_le (by rw [hf,Nat.add_mul]; omega),<-UB hf r m]
   congr 2
   rw [Nat.add_mul]; omega
theorem WL.aej {α:Type} {f:α->List Value} {e:TypeId} {k c:Nat} {a:Option Addr} {xs:List α} (i m:Nat) (hL:L[i]? = some (bj e k f a c xs)) (hf:∀x,(f x).length=k) (hm:m<=xs.length)
   (h:WL P ops Q n ds l (Ws w0 F (L.set i (bj e k f a c (xs.take m))) Vs) rest):WL P ops Q n ds l (Ws w0 F L Vs) rest:=by
 refine LW (λw hw=>?_) h;have ho:w.ownsRow 0 e k (.slice a xs.length c) xs.length (xs.flatMap f):=hw.kn _ (dD hL);have ht:=aei ho hm;rw [UB hf] at ht;refine Ws.xi hw i hL (Fr.refl _ _) ?_ (by simp [dF]; cases a<;>simp [Value.ownBlock]) (λk hk=>?_)
 · show w.ownsRow 0 e k (.slice a (xs.take m).length c) (xs.take m).length _
   rw [show (xs.take m).length=m by simp; omega];exact ht
 · refine .inl ?_
   simp only [dF] at hk ⊢
   cases a<;>simpa [Value.ownBlock] using hk
end
section
variable {P:Program} {l:List (Nat×Value)} {W:World->Prop} {d:Option Tmp} {ty:TypeId} {pos:String} {af:Array Edge} {g:Option (Nat×Bool)}
theorem vo {t:TypeId} {x y:Operand} {a:Option Addr} {m c s:Nat} {k:IntKind} {h:Int} (n:Nat) (hs:dQ P t=some s) (hx:aB l x=some (.slice a m c)) (kq:∀p,a=some p->p.spot=none) (hy:aB l y=some (.int k h)) (hh:h=(n:Int)) (h1:n<=c) :
   Yl P l W ⟨d,.slice t x none (some y) none,ty,pos,af,g⟩ (.slice a n c):=by
 subst hh;exact adI hs hx kq hy (by omega) (by omega)
theorem IZ {t:TypeId} {x y:Operand} {a:Option Addr} {m c s:Nat} {k:IntKind} {h:Int} (n:Nat) (hs:dQ P t=some s) (hx:aB l x=some (.slice a m c)) (hy:aB l y=some (.int k h)) (hh:h=(n:Int)) (h1:n<=m) (h2:m<=c) :
   Yl P l W ⟨d,.slice t x (some y) none none,ty,pos,af,g⟩ (.slice (if c-n=0 then a else a.map (·.add (n*s))) (m-n) (c-n)):=by
 intro ρ w aD _;subst hh;unfold dQ at hs
 cases hu:P.underlying t with
 | none=>simp [hu] at hs
 | some dd=>
   cases dd<;>simp [hu] at hs
   rename_i e;obtain ⟨inf,hi,rfl⟩:=hs;simp [execOp,aD x _ hx,aD y _ hy,Instr.sliceAt,Instr.slice,Instr.sliceBounds,Instr.sliceBound,asIntOf,run_underlying hu,sizeOf,typeInfo,hi,h1]
   by_cases NH:c=n
   · subst NH; simp
   · have:¬c-n=0:=by omega
     simp [NH,this]
end
theorem Sl.drop {α:Type} {rd:View->Nat->Nat->α->Prop} {k:Nat} {H:View} {a:Option Addr} {c:Nat} {l:List α} (h:Sl rd k H a c l) (n:Nat) (hn:n<=l.length):Sl rd k H (if c-n=0 then a else a.map (·.add (n*k))) (c-n) (l.drop n):=by
 have hc:=h.cap;refine ⟨by simp; omega,by have:=h.max; omega,?_,λi x hx=>?_⟩
 · intro p hp ad
   split at hp
   · omega
   · cases a with
     | none=>cases hp
     | some q=>
       have hq:=h.spot q rfl (by omega);obtain ⟨b,o,s⟩:=q;obtain rfl:s=none:=hq;simp [ru] at hp;subst hp; rfl
 · rw [List.getElem?_drop] at hx
   have hi:=(List.getElem?_eq_some_iff.1 hx).1;obtain ⟨b,o,ha,hr⟩:=h.aO _ _ hx;subst ha;refine ⟨b,o+n*k,?_,?_⟩
   · rw [if_neg (by omega)]; simp [ru]
   · rw [Nat.add_mul] at hr
     rw [Nat.add_assoc]; exact hr
theorem Sl.take {α:Type} {rd:View->Nat->Nat->α->Prop} {k:Nat} {H:View} {a:Option Addr} {c:Nat} {l:List α} (h:Sl rd k H a c l) (n:Nat):Sl rd k H a c (l.take n):=
 ⟨by have:=h.cap; simp; omega,h.max,h.spot,λi x hx=>h.aO i x (by
   rw [List.getElem?_take] at hx
   split at hx
   · exact hx
   · cases hx)⟩
end Go.Bw
end
section
namespace Go.Bw
set_option linter.unnecessarySimpa false
open Go Go.RowKit
section
variable {P:Program} {md:Region.Mode} {ops:Array Oper} {S:List Nat} {C D:World->Prop} {Q:Exit->Act->World->Prop}
def mZ (S:List Nat) (listed:Array Bool):Prop:=∀s ∈ S,listed.getD s true=false
def rL (P:Program) (md:Region.Mode) (ops:Array Oper) (S:List Nat) (C D:World->Prop) (Q:Exit->Act->World->Prop):Nat->Array Bool->Act->World->Prop
 | 0,listed,a,w=>((mZ S listed->C w)/\D w)/\Region.ready md ops listed=[]/\Q .normal a w
 | fuel+1,listed,a,w=>((mZ S listed->C w)/\D w)/\(Region.ready md ops listed=[]->Q .normal a w)/\
   ∀i ∈ Region.ready md ops listed,wpOp P ops Q i (rL P md ops S C D Q fuel (listed.setIfInBounds i true)) a w
theorem UC:∀(fuel:Nat) (listed:Array Bool) (a:Act) (w:World),rL P md ops S C D Q fuel listed a w->wpAny P md ops Q fuel listed a w
 | 0,_,_,_,h=>h.2
 | fuel+1,listed,a,w,h=>⟨h.2.1,λi hi=>wpOp_mono (λa' w' h'=>UC fuel _ a' w' h') (h.2.2 i hi)⟩
theorem rL.c {fuel:Nat} {listed:Array Bool} {a:Act} {w:World} (h:rL P md ops S C D Q fuel listed a w):(mZ S listed->C w)/\D w:=by cases fuel<;>exact h.1
theorem I0 {i:Nat} (hi:i ∉ S) {listed:Array Bool}:mZ S (listed.setIfInBounds i true)↔mZ S listed:=by
 constructor
 · intro h s hs
   have dB:i≠s:=λe=>by subst e; exact hi hs
   have:=h s hs
   rwa [getD_set_ne true dB] at this
 · intro h s hs
   have dB:i≠s:=λe=>by subst e; exact hi hs
   rw [getD_set_ne true dB];exact h s hs
def BR (md:Region.Mode) (ops:Array Oper) (listed:Array Bool):Prop:=∀(j:Nat) (o:Oper),ops[j]? = some o->listed.getD j true=true->∀e ∈ o.after,Region.binds md e=true->listed.getD e.on true=true
def BS (md:Region.Mode) (ops:Array Oper) (i:Nat):Nat->Nat->Bool
 | 0,_=>false
 | f+1,s=>match ops[s]? with
   | some os=>os.after.any λe=>Region.binds md e&&(Nat.beq e.on i||BS md ops i f e.on)
   | none=>false
theorem UD {listed:Array Bool} (kx:BR md ops listed) {i:Nat}:∀(f s:Nat),BS md ops i f s=true->(∀o,ops[s]? = some o->∀e ∈ o.after,Region.binds md e=true->listed.getD e.on true=true)->listed.getD i true=true
 | 0,s,h,_=>by simp [BS] at h
 | f+1,s,h,hs=>by
   simp only [BS] at h
   cases ho:ops[s]? with
   | none=>simp [ho] at h
   | some o=>
     simp only [ho] at h;obtain ⟨e,he,NI⟩:=Array.any_eq_true'.1 h;simp only [Bool.and_eq_true,Bool.or_eq_true] at NI;have hl:=hs o ho e he NI.1
     rcases NI.2 with h1 | h1
     · have:=Nat.eq_of_beq_eq_true h1
       rw [this] at hl; exact hl
     · exact UD kx f e.on h1 λo' ho' e' zb yZ=>kx e.on o' ho' hl e' zb yZ
theorem UE {listed:Array Bool} {j:Nat} (hj:j ∈ Region.ready md ops listed):∀o,ops[j]? = some o->∀e ∈ o.after,Region.binds md e=true->listed.getD e.on true=true:=by
 intro o ho e he hb;obtain ⟨_,oj,pW,bN⟩:=mem_ready.1 hj;rw [ho] at pW
 injection pW with pW
 subst pW;have h1:=bN e he hb
 rcases Nat.lt_or_ge e.on listed.size with h' | h'
 · simp [Array.getD_eq_getD_getElem?,h'] at h1 ⊢
   exact h1
 · simp [Array.getD_eq_getD_getElem?,Array.getElem?_eq_none h']
theorem BR.set {listed:Array Bool} {j:Nat} (kx:BR md ops listed) (hj:j ∈ Region.ready md ops listed):BR md ops (listed.setIfInBounds j true):=by
 have up:∀k,listed.getD k true=true->(listed.setIfInBounds j true).getD k true=true:=by
   intro k hk
   by_cases ku:j=k
   · subst ku
     rcases Nat.lt_or_ge j listed.size with h' | h'
     · simp [Array.getD_eq_getD_getElem?,h']
     · simp [Array.getD_eq_getD_getElem?,h']
   · rw [getD_set_ne true ku]; exact hk
 intro k o ho hk e he hb
 by_cases ku:j=k
 · subst ku
   exact up _ (UE hj o ho e he hb)
 · rw [getD_set_ne true ku] at hk
   exact up _ (kx k o ho hk e he hb)
def Kept (md:Region.Mode) (ops:Array Oper) (S:List Nat) (C D Ci:World->Prop) (i:Nat):Prop:=
 (∀w,D w->Ci w)\/((∀w,C w->Ci w)/\∀s ∈ S,BS md ops i ops.size s=true)
theorem ael {i:Nat} {oi:Oper} {v:Value} {Ci:World->Prop} (hi:ops[i]? = some oi) (Ey:∀(j:Nat) (o:Oper) cs b,ops[j]? = some o->o.op≠.select cs b)
   (hQ:∀c a w,Q (.panic c) (a.put oi.dst v) w->Q (.panic c) a w) (I1:i ∉ S) (hK:Kept md ops S C D Ci i) :
   ∀(fuel:Nat) (listed:Array Bool) (a:Act) (w:World),
     (∀j oj,ops[j]? = some oj->j≠i->listed.getD j true=false->(∀e ∈ oj.after,Region.binds md e=true->e.on≠i)->oi.apart ops oj=true)->
     i ∈ Region.ready md ops listed->BR md ops listed->YV P ops Ci oi v a->((mZ S listed->C w)/\D w)->((∀w,D w->Ci w)\/mZ S listed)->
     rL P md ops S C D Q fuel (listed.setIfInBounds i true) (a.put oi.dst v) w->rL P md ops S C D Q (fuel+1) listed a w:=by
 have UF:∀(listed:Array Bool) (w:World),((mZ S listed->C w)/\D w)->((∀w,D w->Ci w)\/mZ S listed)->Ci w:=by
   intro listed w h1 h2
   rcases h2 with h2 | h2
   · exact h2 w h1.2
   · rcases hK with hK | hK
     · exact hK w h1.2
     · exact hK.1 w (h1.1 h2)
 intro fuel
 induction fuel with
 | zero=>
   intro listed a w _ hr _ hy hC hU H;refine ⟨hC,λh=>(by rw [h] at hr; cases hr),λj hj=>?_⟩
   by_cases i_:j=i
   · subst i_; exact hy.wpOp hi (UF _ _ hC hU) H
   · have:=ready_mono hj i_
     rw [H.2.1] at this;cases this
 | succ fuel ih=>
   intro listed a w Ez hr kx hy hC hU H;refine ⟨hC,λh=>(by rw [h] at hr; cases hr),λj hj=>?_⟩
   by_cases i_:j=i
   · subst i_; exact hy.wpOp hi (UF _ _ hC hU) H
   · have h1:=H.2.2 j (ready_mono hj i_)
     obtain ⟨EA,oj,pW,bN⟩:=mem_ready.1 hj
     have oY:∀e ∈ oj.after,Region.binds md e=true->e.on≠i:=λe he hb heq=>by
       have h1:=bN e he hb;have h0:=(mem_ready.1 hr).1;rw [heq] at h1
       rcases Nat.lt_or_ge i listed.size with h' | h'
       · simp [h'] at h0 h1; rw [h0] at h1; cases h1
       · simp [Array.getElem?_eq_none h'] at h1
     have hU':(∀w,D w->Ci w)\/mZ S (listed.setIfInBounds j true):=by
       rcases hK with hK | hK
       · exact .inl hK
       · rcases hU with hU | hU
         · exact .inl hU
         · refine .inr ((I0 λhjS=>?_).2 hU)
           have I2:=UD kx _ j (hK.2 j hjS) (UE hj);have h0:=(mem_ready.1 hr).1;rw [I2] at h0;cases h0
     have h2:=T_ pW (Ez j oj pW i_ EA oY) (λcs b=>Ey i oi cs b hi) (λcs b=>Ey j oj cs b pW) hQ hy h1
     have Nq:∀k ok,ops[k]? = some ok->k≠i->(listed.setIfInBounds j true).getD k true=false->
         (∀e ∈ ok.after,Region.binds md e=true->e.on≠i)->oi.apart ops ok=true:=λk ok hk pX y9 dW=>by
       refine Ez k ok hk pX ?_ dW
       by_cases ku:j=k
       · subst ku; exact EA
       · rw [getD_set_ne true ku] at y9; exact y9
     refine wpOp_mono (λa' w' h3=>ih (listed.setIfInBounds j true) a' w' Nq (ready_mono hr (Ne.symm i_)) (kx.set hj) h3.1 ?_ hU' ?_) h2
     · have hc:=h3.2.c
       rw [Array.setIfInBounds_comm _ _ (Ne.symm i_)] at hc;exact ⟨λhu=>hc.1 ((I0 I1).2 hu),hc.2⟩
     · rw [Array.setIfInBounds_comm _ _ i_]
       exact h3.2
inductive kX where
 | nil
 | stop
 | q (m:Bool) (i:Nat) (r:kX)
 | e (i:Nat) (r alt:kX)
def kX.alts:kX->List Nat
 | .e i _ alt=>i::alt.alts
 | _=>[]
def behind (md:Region.Mode) (ops:Array Oper) (i:Nat) (S:List Nat):Bool:=S.all λs=>BS md ops i ops.size s
def I3 (i:Nat) (S:List Nat):Bool:=S.all λs=>!(Nat.beq s i)
theorem UG {i:Nat} (h:I3 i S=true):i ∉ S:=λhi=>by
 have:=List.all_eq_true.1 h i hi;simp at this
def xv (md:Region.Mode) (ops:Array Oper):List Nat->Array Bool->Bool
 | [],listed=>(Region.ready md ops listed).isEmpty
 | s::r,listed=>Region.ready md ops listed==[s]&&xv md ops r (listed.setIfInBounds s true)
def jP (md:Region.Mode) (ops:Array Oper) (S:List Nat):Bool->kX->Nat->Array Bool->Bool
 | top,.nil,k,listed=>top&&(Nat.beq k S.length&&xv md ops S listed)
 | top,.stop,_,_=>!top
 | top,.q m i r,k,listed=>match k with
   | 0=>false
   | k+1=>top&&((Region.ready md ops listed).contains i&&(Region.free md ops listed i&&(I3 i S&&((!m||behind md ops i S)&&jP md ops S true r k (listed.setIfInBounds i true)))))
 | top,.e i r alt,k,listed=>match k with
   | 0=>false
   | k+1=>(bif top then Region.ready md ops listed==i::alt.alts else true)&&(I3 i S&&(jP md ops S true r k (listed.setIfInBounds i true)&&jP md ops S false alt (k+1) listed))
def xw (P:Program) (ops:Array Oper) (D:World->Prop) (Q:Exit->Act->World->Prop):List Nat->Act->World->Prop
 | [],a,w=>D w/\Q .normal a w
 | s::r,a,w=>D w/\wpOp P ops Q s (xw P ops D Q r) a w
def tw (P:Program) (ops:Array Oper) (S:List Nat) (C D:World->Prop) (Q:Exit->Act->World->Prop):kX->Act->World->Prop
 | .nil,a,w=>C w/\xw P ops D Q S a w
 | .stop,_,_=>True
 | .q m i r,a,w=>(C w/\D w)/\∃o v,ops[i]? = some o/\YV P ops (bif m then C else D) o v a/\tw P ops S C D Q r (a.put o.dst v) w
 | .e i r alt,a,w=>(C w/\D w)/\(wpOp P ops Q i (tw P ops S C D Q r) a w/\tw P ops S C D Q alt a w)
theorem aeo:∀(r:List Nat) (listed:Array Bool) (a:Act) (w:World),(r=S/\C w\/¬mZ S listed)->(∀s ∈ r,s ∈ S)->(∀s ∈ r,listed.getD s true=false)->xv md ops r listed=true->xw P ops D Q r a w->rL P md ops S C D Q r.length listed a w
 | [],listed,a,w,hc,_,_,hB,h=>⟨⟨λhu=>(by rcases hc with hc | hc; exact hc.2; exact absurd hu hc),h.1⟩,by simpa [xv] using hB,h.2⟩
 | s::r,listed,a,w,hc,gM,y9,hB,h=>by
   simp only [xv,Bool.and_eq_true,beq_iff_eq] at hB;refine ⟨⟨λhu=>(by rcases hc with hc | hc; exact hc.2; exact absurd hu hc),h.1⟩,λhe=>(by rw [he] at hB; cases hB.1),λj hj=>?_⟩;rw [hB.1] at hj;simp at hj;subst hj
   have av:j<listed.size:=by
     have:=y9 j (by simp)
     rcases Nat.lt_or_ge j listed.size with h' | h'
     · exact h'
     · simp [Array.getElem?_eq_none h'] at this
   have oY:¬mZ S (listed.setIfInBounds j true):=λhu=>by
     have:=hu j (gM j (by simp));simp [Array.getD_eq_getD_getElem?,av] at this
   refine wpOp_mono (λa' w' h'=>UH r (listed.setIfInBounds j true) a' w' oY (λs hs=>gM s (by simp [hs])) hB.2 h') h.2
where
 UH:∀(r:List Nat) (listed:Array Bool) (a:Act) (w:World),¬mZ S listed->(∀s ∈ r,s ∈ S)->xv md ops r listed=true->xw P ops D Q r a w->rL P md ops S C D Q r.length listed a w
 | [],listed,a,w,hc,_,hB,h=>⟨⟨λhu=>absurd hu hc,h.1⟩,by simpa [xv] using hB,h.2⟩
 | s::r,listed,a,w,hc,gM,hB,h=>by
   simp only [xv,Bool.and_eq_true,beq_iff_eq] at hB;refine ⟨⟨λhu=>absurd hu hc,h.1⟩,λhe=>(by rw [he] at hB; cases hB.1),λj hj=>?_⟩;rw [hB.1] at hj;simp at hj;subst hj;refine wpOp_mono (λa' w' h'=>UH r (listed.setIfInBounds j true) a' w' (λhu=>hc λs hs=>?_) (λs hs=>gM s (by simp [hs])) hB.2 h') h.2;have:=hu s hs
   rcases Nat.decEq j s with dB | he
   · rwa [getD_set_ne true dB] at this
   · subst he
     rcases Nat.lt_or_ge j listed.size with h' | h'
     · simp [Array.getD_eq_getD_getElem?,h'] at this
     · simp [Array.getD_eq_getD_getElem?] at this
theorem I4 {ok:Option Tmp->Bool} (aA:BO ok ops=true) (hs:Region.noSelect ops=true) (hQ:∀c a w d v,ok d=true->Q (.panic c) (a.put d v) w->Q (.panic c) a w):∀(o:kX) (k:Nat) (listed:Array Bool) (a:Act) (w:World),mZ S listed->BR md ops listed->
   (jP md ops S true o k listed=true->tw P ops S C D Q o a w->rL P md ops S C D Q k listed a w)/\
   ((∀j ∈ o.alts,j ∈ Region.ready md ops listed)->jP md ops S false o k listed=true->tw P ops S C D Q o a w->∀j ∈ o.alts,∃k',k=k'+1/\wpOp P ops Q j (rL P md ops S C D Q k' (listed.setIfInBounds j true)) a w)
 | .nil,k,listed,a,w,hu,_=>by
   refine ⟨λhB h=>?_,λ_ hB=>by simp [jP] at hB⟩;simp only [jP,Bool.true_and,Bool.and_eq_true] at hB;obtain rfl:=Nat.eq_of_beq_eq_true hB.1;exact aeo S listed a w (.inl ⟨O,h.1⟩) (λ_ h=>h) hu hB.2 h.2
 | .stop,k,listed,a,w,hu,_=>⟨λhB=>by simp [jP] at hB,λ_ _ _ j hj=>by simp [kX.alts] at hj⟩
 | .q m i r,k,listed,a,w,hu,kx=>by
   cases k with
   | zero=>exact ⟨λhB=>by simp [jP] at hB,λ_ hB=>by simp [jP] at hB⟩
   | succ k=>
     refine ⟨λhB h=>?_,λ_ hB=>by simp [jP] at hB⟩;simp only [jP,Bool.true_and,Bool.and_eq_true] at hB;obtain ⟨hB1,hB2,hB3,UI,hB5⟩:=hB;obtain ⟨hC,o,v,ho,hy,h⟩:=h;have I1:=UG hB3
     have hK:Kept md ops S C D (bif m then C else D) i:=by
       cases m with
       | false=>exact .inl λ_ h=>h
       | true=>
         refine .inr ⟨λ_ h=>h,λs hs=>?_⟩;simp only [Bool.not_true,Bool.false_or] at UI;exact List.all_eq_true.1 UI s hs
     have UJ:i ∈ Region.ready md ops listed:=by simpa using hB1
     exact ael ho (Region.noSelect_spec hs) (λc a w=>hQ c a w o.dst v (Uy aA ho)) I1 hK k listed a w (Region.free_spec ho hB2) UJ kx hy ⟨λ_=>hC.1,hC.2⟩ (.inr hu)
       ((I4 aA hs hQ r k _ _ _ ((I0 I1).2 hu) (kx.set UJ)).1 hB5 h)
 | .e i r alt,k,listed,a,w,hu,kx=>by
   cases k with
   | zero=>exact ⟨λhB=>by simp [jP] at hB,λ_ hB=>by simp [jP] at hB⟩
   | succ k=>
     have gM:(∀j ∈ i::alt.alts,j ∈ Region.ready md ops listed)->I3 i S=true->jP md ops S true r k (listed.setIfInBounds i true)=true->jP md ops S false alt (k+1) listed=true->tw P ops S C D Q (.e i r alt) a w->
         ∀j ∈ i::alt.alts,wpOp P ops Q j (rL P md ops S C D Q k (listed.setIfInBounds j true)) a w:=by
       intro ed h0 h1 h2 h j hj
       rcases List.mem_cons.1 hj with rfl | hj
       · exact wpOp_mono (λa' w' h'=>(I4 aA hs hQ r k _ a' w' ((I0 (UG h0)).2 hu) (kx.set (ed _ (by simp)))).1 h1 h') h.2.1
       · obtain ⟨k',hk,hx⟩:=(I4 aA hs hQ alt (k+1) listed a w hu kx).2 (λj hj=>ed j (by simp [hj])) h2 h.2.2 j hj
         injection hk with hk
         subst hk;exact hx
     refine ⟨λhB h=>?_,λed hB h j hj=>?_⟩
     · simp only [jP,cond_true,Bool.and_eq_true,beq_iff_eq] at hB
       refine ⟨⟨λ_=>h.1.1,h.1.2⟩,λhe=>(by rw [he] at hB; cases hB.1),λj hj=>?_⟩;rw [hB.1] at hj;exact gM (λj hj=>by rw [hB.1]; exact hj) hB.2.1 hB.2.2.1 hB.2.2.2 h j hj
     · simp only [jP,cond_false,Bool.true_and,Bool.and_eq_true] at hB
       exact ⟨k,O,gM ed hB.1 hB.2.1 hB.2.2 h j hj⟩
variable {n:Nat} {ds:List Deferred} {l:List (Nat×Value)} {W:World->Prop}
def WU (P:Program) (ops:Array Oper) (S:List Nat) (C D:World->Prop) (Q:Exit->Act->World->Prop) (n:Nat) (ds:List Deferred) (l:List (Nat×Value)) (W:World->Prop) (ord:kX):Prop:=
 ∀a w,Ag n ds l a->W w->tw P ops S C D Q ord a w
def WS (P:Program) (ops:Array Oper) (D:World->Prop) (Q:Exit->Act->World->Prop) (n:Nat) (ds:List Deferred) (l:List (Nat×Value)) (W:World->Prop) (S:List Nat):Prop:=
 ∀a w,Ag n ds l a->W w->xw P ops D Q S a w
abbrev o3:World->Prop:=λ_=>True
def NJ (k:Nat) (S:List Nat):Bool:=S.all λs=>Nat.blt s k
theorem aet (h:NJ ops.size S=true):mZ S (Array.replicate ops.size false):=λs hs=>by
 have:=List.all_eq_true.1 h s hs;have av:=Nat.blt_eq.mp this;simp [Array.getD_eq_getD_getElem?,av]
theorem WC.aeu {id:Nat} {os:List Oper} {W' C' D':World->Prop} (ok:Option Tmp->Bool) (S:List Nat) (ord:kX) (hm:P.follows .mixedOrders=true) (hd:∀w,W' w->W' w.drew)
   (hB:(BO ok os.toArray&&(Region.noSelect os.toArray&&(NJ os.toArray.size S&&jP .any os.toArray S true ord os.toArray.size (Array.replicate os.toArray.size false))))=true)
   (hQ:∀c a w d v,ok d=true->Q (.panic c) (a.put d v) w->Q (.panic c) a w) (h:WU P os.toArray S C' D' Q n ds l W' ord):WC P (.region id os.toArray true) Q n ds l W':=by
 intro a w ha hw;simp only [Bool.and_eq_true] at hB
 have:=UC (md:=.any) _ _ _ _ ((I4 hB.1 hB.2.1 hQ ord _ _ a w.drew (aet hB.2.2.1) (λj o ho hj=>by
   have av:j<os.length:=by simpa using (Array.getElem?_eq_some_iff.1 ho).1
   simp [Array.getD_eq_getD_getElem?,Array.getElem?_replicate,av] at hj)).1 hB.2.2.2 (h a w.drew ha (hd w hw)))
 exact wp_region_any hm this
theorem CU {id:Nat} {os:List Oper} {w0:World} {F:List Nat} {L:List ao} {Vs:List View} (ok:Option Tmp->Bool) (is:List Nat) (S:List Nat) (ord:kX) (hm:P.follows .mixedOrders=true)
   (hB:(BO ok os.toArray&&(Region.noSelect os.toArray&&(NJ os.toArray.size S&&jP .any os.toArray S true ord os.toArray.size (Array.replicate os.toArray.size false))))=true)
   (hQ:∀c a w d v,ok d=true->Q (.panic c) (a.put d v) w->Q (.panic c) a w) (h:WU P os.toArray S (Ws w0 F (outs is L) Vs) o3 Q n ds l (Ws w0 F L Vs) ord):WC P (.region id os.toArray true) Q n ds l (Ws w0 F L Vs):=
 WC.aeu ok S ord hm (λ_ h=>h.drew) hB hQ h
theorem WV.q {m:Bool} {r:kX} {i d:Nat} {op:Op} {ty:TypeId} {pos:String} {af:Array Edge} {g:Option (Nat×Bool)} {v:Value} (hi:ops[i]? = some ⟨some d,op,ty,pos,af,g⟩) (hg:cP ops l g) (hn:Nat.blt d n=true)
   (hC:∀w,W w->C w) (hD:∀w,W w->D w) (hy:Yl P l (bif m then C else D) ⟨some d,op,ty,pos,af,g⟩ v) (h:WU P ops S C D Q n ds ((d,v)::l) W r):WU P ops S C D Q n ds l W (.q m i r):=by
 intro a w ha hw;refine ⟨⟨hC w hw,hD w hw⟩,_,v,hi,.inl ⟨cP.wanted (o:=⟨some d,op,ty,pos,af,g⟩) hg ha,λw' dR=>hy a.eval w' (λx u hx=>ha.eval hx) dR⟩,h _ _ (ha.put hn v) hw⟩
theorem Uq {m:Bool} {r:kX} {i d:Nat} {op:Op} {ty:TypeId} {pos:String} {af:Array Edge} {g:Option (Nat×Bool)} {v:Value} (hi:ops[i]? = some ⟨some d,op,ty,pos,af,g⟩) (hg:cP ops l g) (hn:Nat.blt d n=true)
   (hC:∀w,W w->C w) (hy:Yl P l (bif m then C else λ_=>True) ⟨some d,op,ty,pos,af,g⟩ v) (h:WU P ops S C o3 Q n ds ((d,v)::l) W r):WU P ops S C o3 Q n ds l W (.q m i r):=WV.q hi hg hn hC (λ_ _=>trivial) hy h
theorem U0 {m:Bool} {r:kX} {i d:Nat} {op:Op} {ty:TypeId} {pos:String} {af:Array Edge} {v:Value} (hi:ops[i]? = some ⟨some d,op,ty,pos,af,none⟩) (hC:∀w,W w->C w) (hy:Yl P l (bif m then C else λ_=>True) ⟨some d,op,ty,pos,af,none⟩ v) (h:WU P ops S C o3 Q n ds ((d,v)::l) W r) (hn:Nat.blt d n=true:=by rfl):WU P ops S C o3 Q n ds l W (.q m i r):=Uq hi (.inl rfl) hn hC hy h
theorem WU.skip {r:kX} {i d:Nat} {op:Op} {ty:TypeId} {pos:String} {af:Array Edge} {j:Nat} {b:Bool} {oj:Oper} {dj:Nat} (hi:ops[i]? = some ⟨some d,op,ty,pos,af,some (j,b)⟩) (hn:Nat.blt d n=true)
   (hj:ops[j]? = some oj) (Ef:oj.dst=some dj) (vf:Nat.blt dj n=true) (hb:lk l dj=some (.bool (!b)))
   (hC:∀w,W w->C w) (h:WU P ops S C o3 Q n ds ((d,undef)::l) W r):WU P ops S C o3 Q n ds l W (.q false i r):=by
 intro a w ha hw;have hv:a.tmps.getD dj undef = .bool (!b):=ha.gd dj _ hb
 have av:dj<a.tmps.size:=by rw [ha.size]; exact Nat.le_of_ble_eq_true vf
 have vg:a.tmps[dj]? = some (.bool (!b)):=by
   rw [Array.getD_eq_getD_getElem?,Array.getElem?_eq_getElem av] at hv;rw [Array.getElem?_eq_getElem av]
   simpa using hv
 have Eg:yielded ops a.tmps j=some (!b):=by simp [yielded,hj,Ef,vg]
 exact ⟨⟨hC w hw,trivial⟩,_,undef,hi,.inr ⟨by simp [Region.wanted,Eg],O⟩,h _ _ (ha.put hn undef) hw⟩
theorem UK {i:Nat} {o:Oper} {K:Act->World->Prop} (hi:ops[i]? = some o) {a:Act} {w:World} (this:wpList P ops (Exit.then K Q) [o] a w):wpOp P ops Q i K a w:=by
 unfold wpList at this;unfold wpOp;simp only [hi]
 split
 · rename_i dR
   rw [if_pos dR] at this
   rcases this with this | ⟨h1,a2,w2,h2⟩
   · left
     unfold Oper.wp at this ⊢;unfold Oper.upon at this ⊢
     split at this
     all_goals first
       | exact this
       | (refine this.mono λe w' he=>?_
          cases e with
          | returned v=>exact he
          | panicked ch=>exact he
          | outgrown=>obtain ⟨a3,w3,h3⟩:=he; exact ⟨a3,w3,h3⟩)
       | exact this.mono λv w' he=>he
   · exact .inr ⟨h1,a2,w2,h2⟩
 · rename_i dR
   rw [if_neg dR] at this;exact this
theorem WV.e {r alt:kX} {i:Nat} {o:Oper} (hi:ops[i]? = some o) (hC:∀w,W w->C w) (hD:∀w,W w->D w) (h:WL P ops (Exit.then (tw P ops S C D Q r) Q) n ds l W [o]) (h2:WU P ops S C D Q n ds l W alt):WU P ops S C D Q n ds l W (.e i r alt):=
 λa w ha hw=>⟨⟨hC w hw,hD w hw⟩,UK hi (h a w ha hw),h2 a w ha hw⟩
theorem Ue {r alt:kX} {i:Nat} {o:Oper} (hi:ops[i]? = some o) (hC:∀w,W w->C w) (h:WL P ops (Exit.then (tw P ops S C o3 Q r) Q) n ds l W [o]) (h2:WU P ops S C o3 Q n ds l W alt):WU P ops S C o3 Q n ds l W (.e i r alt):=WV.e hi hC (λ_ _=>trivial) h h2
theorem WU.stop:WU P ops S C D Q n ds l W .stop:=λ_ _ _ _=>trivial
theorem Eu {r:kX} (h:WU P ops S C D Q n ds l W r):WE (Exit.then (tw P ops S C D Q r) Q) .normal n ds l W:=h
theorem WU.nil (hC:∀w,W w->C w) (h:WS P ops D Q n ds l W S):WU P ops S C D Q n ds l W .nil:=λa w ha hw=>⟨hC w hw,h a w ha hw⟩
theorem NK.nil (hD:∀w,W w->D w) (h:WE Q .normal n ds l W):WS P ops D Q n ds l W []:=λa w ha hw=>⟨hD w hw,h a w ha hw⟩
theorem WS.nil (h:WE Q .normal n ds l W):WS P ops o3 Q n ds l W []:=NK.nil (λ_ _=>trivial) h
theorem NK.e {s:Nat} {r:List Nat} {o:Oper} (hi:ops[s]? = some o) (hD:∀w,W w->D w) (h:WL P ops (Exit.then (xw P ops D Q r) Q) n ds l W [o]):WS P ops D Q n ds l W (s::r):=
 λa w ha hw=>⟨hD w hw,UK hi (h a w ha hw)⟩
theorem WS.e {s:Nat} {r:List Nat} {o:Oper} (hi:ops[s]? = some o) (h:WL P ops (Exit.then (xw P ops o3 Q r) Q) n ds l W [o]):WS P ops o3 Q n ds l W (s::r):=NK.e hi (λ_ _=>trivial) h
theorem Es {r:List Nat} (h:WS P ops D Q n ds l W r):WE (Exit.then (xw P ops D Q r) Q) .normal n ds l W:=h
end
end Go.Bw
end
section
namespace Go.Bw
set_option linter.unnecessarySimpa false
open Go Go.RowKit
theorem NL {α:Type} {f:α->List Value} {e:TypeId} {k c b o:Nat} {a:Option Addr} {xs:List α} {w:World} (h:(bj e k f a c xs).holds w) (ha:a=some ⟨b,o,none⟩) :
   o=0/\∃cur,w.heap[b]? = some (.cells cur e (0,0))/\cur.toList.take (xs.length*k)=xs.flatMap f/\cur.size=c*k/\xs.length<=c:=by
 subst ha;obtain ⟨h1,h2⟩:=(h:w.ownsRow 0 e k _ xs.length (xs.flatMap f))
 rcases h2 with ⟨h3,_⟩ | ⟨g,cap,cur,hv,_,hb,mT,hc,hs,ht⟩
 · cases h3
 · injection hv with h3 _ h4
   injection h3 with h3
   injection h3 with h3 h5
   subst h3 h4 h5;exact ⟨O,cur,hb,ht,hs,mT⟩
section
variable {P:Program} {ops:Array Oper} {Q:Exit->Act->World->Prop} {n:Nat} {ds:List Deferred} {l:List (Nat×Value)} {w0:World} {F:List Nat} {L:List ao} {Vs:List View} {rest:List Oper}
 {ty:TypeId} {pos:String} {af:Array Edge} {g:Option (Nat×Bool)}
theorem NM {α:Type} {f:α->List Value} {e:TypeId} {k c:Nat} {a:Option Addr} {xs:List α} {w:World} (hw:Ws w0 F L Vs w) (i:Nat) (hL:L[i]? = some (bj e k f a c xs)) (hm:0<xs.length):(∃b,a=some ⟨b,0,none⟩)/\xs.length<=c/\c<=maxLen:=by
 obtain ⟨h1,h2⟩:=(hw.kn _ (dD hL):w.ownsRow 0 e k _ xs.length (xs.flatMap f))
 rcases h2 with ⟨h3,h4⟩ | ⟨b,cap,cur,hv,_,_,mT,hc,_⟩
 · injection h3 with _ h5 _; omega
 · injection hv with h3 _ h4
   subst h3 h4;exact ⟨⟨b,O⟩,mT,hc⟩
theorem WC.xx {α:Type} {f:α->List Value} {cd:Code} {e:TypeId} {k c:Nat} {a:Option Addr} {xs:List α} (i:Nat) (hL:L[i]? = some (bj e k f a c xs)) (hm:0<xs.length)
   (h:∀b,a=some ⟨b,0,none⟩->xs.length<=c->c<=maxLen->WC P cd Q n ds l (Ws w0 F L Vs)):WC P cd Q n ds l (Ws w0 F L Vs):=by
 intro A w ha hw;obtain ⟨⟨b,hb⟩,h1,h2⟩:=NM hw i hL hm;exact h b hb h1 h2 A w ha hw
theorem WL.xx {α:Type} {f:α->List Value} {e:TypeId} {k c:Nat} {a:Option Addr} {xs:List α} (i:Nat) (hL:L[i]? = some (bj e k f a c xs)) (hm:0<xs.length)
   (h:∀b,a=some ⟨b,0,none⟩->xs.length<=c->c<=maxLen->WL P ops Q n ds l (Ws w0 F L Vs) rest):WL P ops Q n ds l (Ws w0 F L Vs) rest:=by
 intro A w ha hw;obtain ⟨⟨b,hb⟩,h1,h2⟩:=NM hw i hL hm;exact h b hb h1 h2 A w ha hw
theorem WC.aev {α:Type} {f:α->List Value} {cd:Code} {e:TypeId} {k c:Nat} {a:Option Addr} {xs:List α} (i:Nat) (hL:L[i]? = some (bj e k f a c xs))
   (h:(∀p,a=some p->p.spot=none)->xs.length<=c->c<=maxLen->WC P cd Q n ds l (Ws w0 F L Vs)):WC P cd Q n ds l (Ws w0 F L Vs):=by
 intro A w ha hw;obtain ⟨h1,h2⟩:=(hw.kn _ (dD hL):w.ownsRow 0 e k _ xs.length (xs.flatMap f))
 rcases h2 with ⟨h3,h4⟩ | ⟨b,cap,cur,hv,_,_,mT,hc,_⟩
 · injection h3 with h5 h6 h7
   subst h5 h7;exact h (by simp) (by omega) (by unfold maxLen; omega) A w ha hw
 · injection hv with h3 _ h4
   subst h3 h4;exact h (by simp) mT hc A w ha hw
theorem p5 {α:Type} {f:α->List Value} {t e:TypeId} {x:Operand} {b o p k c:Nat} {a:Option Addr} {xs:List α} {y:α} {v:Value} {d:Option Tmp} (i j q:Nat) (hx:aB l x=some (.pointer (some ⟨b,p,none⟩))) (hL:L[i]? = some (bj e k f a c xs)) (ha:a=some ⟨b,o,none⟩)
   (hp:p=o+j*k+q) (hf:∀x,(f x).length=k) (hy:xs[j]? = some y) (hq:(f y)[q]? = some v) (ht:dV P t=true):Yl P l (Ws w0 F L Vs) ⟨d,.load t x,ty,pos,af,g⟩ v:=IE ht hx λw hw=>by
 obtain ⟨rfl,cur,hb,nY,iI,hm⟩:=NL (hw.kn _ (dD hL)) ha;refine cell_of_heap hb ?_
 have NN:q<k:=by have:=(List.getElem?_eq_some_iff.1 hq).1; rw [hf] at this; exact this
 have h6:(xs.flatMap f)[j*k+q]? = some v:=by rw [pY hf hy NN]; exact hq
 rw [<-nY,List.getElem?_take] at h6
 split at h6
 · subst hp; simpa [g_] using h6
 · cases h6
theorem WL.storeT {α:Type} {f:α->List Value} {t e:TypeId} {x z:Operand} {b o p k kk c:Nat} {a:Option Addr} {xs:List α} {y:α} {v:Value} (i j q:Nat) (y':α) (hg:cP ops l g) (hx:aB l x=some (.pointer (some ⟨b,p,none⟩))) (hz:aB l z=some v) (hL:L[i]? = some (bj e k f a c xs)) (ha:a=some ⟨b,o,none⟩)
   (hp:p=o+j*k+q) (hf:∀x,(f x).length=k) (hy:xs[j]? = some y) (hs:cG P t=some kk) (hl:(dE v).length=kk) (h1:(dE v).all (·.oneCell')=true) (hq:q+kk<=k) (BU:f y'=(f y).take q++dE v++(f y).drop (q+kk))
   (h:WL P ops Q n ds l (Ws w0 F (L.set i (bj e k f a c (xs.set j y'))) Vs) rest):WL P ops Q n ds l (Ws w0 F L Vs) (⟨none,.store t x z,ty,pos,af,g⟩::rest):=by
 refine WL.step hg λA w hA hw K hK=>?_;have hh:(bj e k f a c xs).holds w:=hw.kn _ (dD hL);obtain ⟨rfl,cur,hb,nY,iI,hm⟩:=NL hh ha;have hj:j<xs.length:=(List.getElem?_eq_some_iff.1 hy).1
 have ku:j*k+k<=xs.length*k:=by rw [<-Nat.succ_mul]; exact Nat.mul_le_mul_right _ hj
 have jQ:xs.length*k<=c*k:=Nat.mul_le_mul_right _ hm
 have aA:vi (.cells cur e (0,0)) p kk=true:=by
   simp only [vi,Nat.beq_refl,Bool.and_true,Bool.and_self];exact Nat.ble_eq_true_of_le (by simp [iI]; omega)
 have dX:(execOp A.eval ⟨none,.store t x z,ty,pos,af,g⟩).run P w = .ok .skip { w with heap:=w.heap.setIfInBounds b (mS (.cells cur e (0,0)) p (dE v)) }:=by
   simp only [execOp,hA.eval hx,hA.eval hz,Instr.storeAt,Instr.sureAddr,Sem.run_bind,Sem.run_pure,Result.andThen_ok,T5 hs hl h1 hb aA]
 simp only [Oper.wp,dX,Oper.upon_skip];refine hK _ _ (h _ _ (hA.Ee undef) ?_);have av:=lt_of_heap hb
 have hlen:(xs.set j y').length=xs.length:=by simp
 have nZ:=adS hf hy (j:=q) (vs:=dE v) (y:=y') (by omega) (by rw [hl]; exact BU);refine Ws.xi hw i hL ⟨O,O,O,by simp,λj' hj' dB=>?_⟩ ?_ (by subst ha; simp [dF,Value.ownBlock]) (λk' I5=>?_)
 · have:b≠j':=λe'=>dB (by subst ha; simp [dF,Value.ownBlock,e'])
   simp [Array.getElem?_setIfInBounds_ne this]
 · show World.ownsRow _ 0 e k (.slice a (xs.set j y').length c) (xs.set j y').length _
   rw [hlen];obtain ⟨g1,g2⟩:=(hh:w.ownsRow 0 e k _ xs.length (xs.flatMap f));refine ⟨by rw [xq hf,hlen],.inr ?_⟩
   rcases g2 with ⟨g3,_⟩ | ⟨g,cap,auI,hv,g0,yZ,mT,vm,IK,ht'⟩
   · subst ha; cases g3
   · subst ha
     injection hv with e3 _ e4
     injection e3 with e3
     injection e3 with e3
     subst e3 e4;refine ⟨b,c,(cur.toList.take p++dE v++cur.toList.drop (p+(dE v).length)).toArray,O,Nat.zero_le _,?_,mT,vm,?_,?_⟩
     · show (w.heap.setIfInBounds b _)[b]? = _
       simp [av,mS]
     · simp [iI]; omega
     · rw [<-nZ,<-nY]
       subst hp;simp only [Nat.zero_add]
       have kx:cur.toList.length=c*k:=by simp [iI]
       have e1:((cur.toList.take (xs.length*k)).take (j*k+q))=cur.toList.take (j*k+q):=by rw [List.take_take]; congr 1; omega
       have e2:(cur.toList.take (j*k+q)).length=j*k+q:=by rw [List.length_take,kx]; omega
       have e3:(cur.toList.take (j*k+q)++dE v).length=j*k+q+kk:=by rw [List.length_append,e2,hl]
       rw [e1,hl]
       have hm':xs.length*k=(j*k+q+kk)+(xs.length*k-(j*k+q+kk)):=by omega
       rw [List.take_append,e3,List.take_of_length_le (by rw [e3]; omega),List.drop_take]
 · refine .inl ?_
   simp only [dF] at I5 ⊢;subst ha
   simpa [Value.ownBlock] using I5
theorem WL.EN {α:Type} {f:α->List Value} {e:TypeId} {k c:Nat} {a:Option Addr} {xs:List α} (i:Nat) (ys:List α) (hL:L[i]? = some (bj e k f a c xs)) (hf:∀x,(f x).length=k) (hm:ys.length<=xs.length) (he:xs.take ys.length=ys)
   (h:WL P ops Q n ds l (Ws w0 F (L.set i (bj e k f a c ys)) Vs) rest):WL P ops Q n ds l (Ws w0 F L Vs) rest:=
 WL.aej i ys.length hL hf hm (by rw [he]; exact h)
theorem WL.UL {A:ao} {As:List ao} (h:WL P ops Q n ds l (Ws w0 F (A::dS As::L) Vs) rest):WL P ops Q n ds l (Ws w0 F (dS (A::As)::L) Vs) rest:=LW (λ_ h=>h.BP) h
theorem WL.UM {A:ao} {As:List ao} (h:WL P ops Q n ds l (Ws w0 F (dS (A::As)::L) Vs) rest):WL P ops Q n ds l (Ws w0 F (A::dS As::L) Vs) rest:=LW (λ_ h=>h.BQ) h
theorem WC.UL {c:Code} {A:ao} {As:List ao} (h:WC P c Q n ds l (Ws w0 F (A::dS As::L) Vs)):WC P c Q n ds l (Ws w0 F (dS (A::As)::L) Vs):=nP (λ_ h=>h.BP) h
theorem WC.UM {c:Code} {A:ao} {As:List ao} (h:WC P c Q n ds l (Ws w0 F (dS (A::As)::L) Vs)):WC P c Q n ds l (Ws w0 F (A::dS As::L) Vs):=nP (λ_ h=>h.BQ) h
theorem WL.perm {L':List ao} (hp:L.Perm L') (h:WL P ops Q n ds l (Ws w0 F L' Vs) rest):WL P ops Q n ds l (Ws w0 F L Vs) rest:=LW (λ_ h=>h.perm hp) h
end
end Go.Bw
end
section
namespace Go.Bw
set_option linter.unnecessarySimpa false
open Go Go.RowKit
section
variable {P:Program} {ops:Array Oper} {Q:Exit->Act->World->Prop} {n:Nat} {ds:List Deferred} {l:List (Nat×Value)} {w0 w:World} {F:List Nat} {L:List ao} {Vs:List View} {rest:List Oper} {A:ao} {As:List ao}
theorem Ws.aew (h:Ws w0 F L Vs w) (i:Nat) (hL:L[i]? = some (dS (A::As))):Ws w0 F (L.set i (dS As)) Vs w:=by
 have h1:=(h.perm (mR i L hL)).BP;have h2:Ws w0 F (dS As::dv i L) Vs w:=Ws.drop (L:=[A]) h1;exact h2.perm (set_perm i L hL)
theorem Ws.UN (h:Ws w0 F L Vs w) (i:Nat) (hL:L[i]? = some (dS As)) (e:TypeId) (size:Nat):Ws w0 F (L.set i (dS (dF e size (.slice none 0 0) 0 []::As))) Vs w:=by
 have h1:=(h.perm (mR i L hL)).fj e size;have h2:=h1.BQ;exact h2.perm (set_perm i L hL)
theorem Ws.ar (h:Ws w0 F L Vs w) (i:Nat) (hL:L[i]? = some A):Ws w0 F (A::dv i L) Vs w:=h.perm (mR i L hL)
theorem WL.UO {t tn e:TypeId} {z:Value} {kn k:IntKind} {bytes d:Nat} {x y:Operand} {ty:TypeId} {pos:String} {af:Array Edge} {g:Option (Nat×Bool)} (m:Nat) (hg:cP ops l g) (hn:Nat.blt d n=true) (hE:fk P t e z 1 bytes) (htn:P.underlying tn=some (.int kn))
   (hx:aB l x=some (.slice none 0 0)) (hy:aB l y=some (.int k (m:Int))) (h0:0<m) (oX:m<=maxLen) (h48:m*bytes<=281474976710656)
   (h:∀b c cur,m<=c->c<=maxLen->cur.size=c->WL P ops Q n ds ((d,.slice (some ⟨b,0,none⟩) m c)::l) (Ws w0 F (ab b (.cells cur e (0,0))::L) Vs) rest) :
   WL P ops Q n ds l (Ws w0 F L Vs) (⟨some d,.call ⟨.builtin .append,#[x,y],#[t,tn]⟩,ty,pos,af,g⟩::rest):=by
 refine WL.step hg λa w ha hw K hK=>?_;obtain ⟨inf,hi,hz,gz,l8⟩:=hE.info;have dX:=Lib.run_append_nil_zeros (P:=P) w t tn ty e inf z k kn hE.under htn hi hz m h0 (by omega) (by unfold maxLen at oX; omega) (by rw [l8]; exact h48)
 have ry:(execOp a.eval ⟨some d,.call ⟨.builtin .append,#[x,y],#[t,tn]⟩,ty,pos,af,g⟩).run P w = .ok (.value (.slice (some ⟨w.heap.size,0,none⟩) m (grownCap w m 0 e))) (w.drew.alloc (.cells (Builtin.zeroCells z.cells m++Builtin.zeroCells z.cells (grownCap w m 0 e-m)) e)):=by
   simp only [execOp,resolve,List.map_toArray,List.map_cons,List.map_nil,ha.eval hx,ha.eval hy,Sem.run_bind,Sem.run_pure,Result.andThen_ok,invoke,builtin,dX]
 simp only [Oper.wp,ry,Oper.upon_value];have cC:=grownCap_ge w m 0 e;refine hK _ _ (h w.heap.size _ (Builtin.zeroCells z.cells m++Builtin.zeroCells z.cells (grownCap w m 0 e-m)) cC (grownCap_le_maxLen w m 0 e oX) ?_ _ _ (ha.put hn _) ?_)
 · have vp:z.cells.size=1:=hE.zs
   simp [Builtin.zeroCells,vp]; omega
 · exact hw.drew.alloc _
end
section
variable {P:Program} {l:List (Nat×Value)} {W:World->Prop} {d:Option Tmp} {ty:TypeId} {pos:String} {af:Array Edge} {g:Option (Nat×Bool)}
theorem I6 {t:TypeId} {x:Operand} {a:Option Addr} {n c s:Nat} (hs:dQ P t=some s) (hx:aB l x=some (.slice a n c)):Yl P l W ⟨d,.call ⟨.builtin .cap,#[x],#[t]⟩,ty,pos,af,g⟩ (.int .i64 (c:Int)):=by
 intro ρ w aD _;unfold dQ at hs
 cases hu:P.underlying t with
 | none=>simp [hu] at hs
 | some dd=>
   cases dd<;>simp [hu] at hs
   simp [execOp,resolve,invoke,builtin,aD x _ hx,Builtin.cap_,run_underlying hu,goInt]
end
end Go.Bw
end
section
namespace Go.Bw
set_option linter.unnecessarySimpa false
open Go Go.RowKit
section
variable {P:Program} {ops:Array Oper} {Q:Exit->Act->World->Prop} {n:Nat} {ds:List Deferred} {l:List (Nat×Value)} {w0 w:World} {F:List Nat} {L:List ao} {Vs:List View} {rest:List Oper}
 {ty:TypeId} {pos:String} {af:Array Edge} {g:Option (Nat×Bool)} {d:Nat}
theorem WL.tx {α:Type} {f:α->List Value} {rd:View->Nat->Nat->α->Prop} {t e:TypeId} {z:Value} {size bytes:Nat} {s y:Operand} {a a2:Option Addr} {c c2:Nat} {xs ys:List α} (i:Nat) (H:World->View) (hg:cP ops l g) (hn:Nat.blt d n=true) (hE:fk P t e z size bytes)
   (hs:aB l s=some (.slice a xs.length c)) (hy:aB l y=some (.slice a2 ys.length c2)) (hL:L[i]? = some (bj e size f a c xs)) (hH:∀w,Ws w0 F L Vs w->Le (H w) w/\Sl rd size (H w) a2 c2 ys) (ed:∀H b o x,rd H b o x->aP H b o (f x))
   (hf:∀x,(f x).length=size) (h1:∀x,(f x).all (·.oneCell')=true) (oX:xs.length+ys.length<=9223372036854775807) (vl:(xs.length+ys.length)*bytes<=140737488355328)
   (h:∀a' c',WL P ops Q n ds ((d,.slice a' (xs++ys).length c')::l) (Ws w0 F (L.set i (bj e size f a' c' (xs++ys))) Vs) rest) :
   WL P ops Q n ds l (Ws w0 F L Vs) (⟨some d,.call ⟨.builtin .append,#[s,y],#[t,t]⟩,ty,pos,af,g⟩::rest):=by
 cases a2 with
 | none=>
   refine WL.step hg λA w hA hw K hK=>?_;obtain ⟨inf,hi,hz,gz,l8⟩:=hE.info;obtain ⟨_,EO⟩:=hH w hw
   have I7:ys=[]:=by
     cases ys with
     | nil=>rfl
     | cons x r=>obtain ⟨b,o,hb,_⟩:=EO.aO 0 x rfl; cases hb
   subst I7;have BE:w.ownsRow 0 e size (.slice a xs.length c) xs.length (xs.flatMap f):=hw.kn _ (dD hL)
   have dN:xs.length<=c:=by
     rcases BE.2 with ⟨h3,_⟩ | ⟨b,cap,cur,hv,_,_,mT,_⟩
     · injection h3 with _ h4 h5; omega
     · injection hv with _ _ h5; omega
   have dX:=run_append_nothing (P:=P) w t t ty e inf hE.under hi a xs.length c dN (.slice none 0 c2) ⟨.inl ⟨e,hE.under⟩,by simp [Builtin.lenOf],run_firstCells_none w _ 0 0 c2,run_firstCells_none w.drew _ 0 0 c2,by simp,by simp⟩
   have ry:(execOp A.eval ⟨some d,.call ⟨.builtin .append,#[s,y],#[t,t]⟩,ty,pos,af,g⟩).run P w = .ok (.value (.slice a xs.length c)) w:=by
     simp only [execOp,resolve,List.map_toArray,List.map_cons,List.map_nil,hA.eval hs,hA.eval hy,Sem.run_bind,Sem.run_pure,Result.andThen_ok,invoke,builtin,List.length_nil,dX]
   simp only [Oper.wp,ry,Oper.upon_value];have hi':i<L.length:=(List.getElem?_eq_some_iff.1 hL).1
   have II:L.set i (bj e size f a c xs)=L:=by
     rw [<-(List.getElem?_eq_some_iff.1 hL).2]; exact List.set_getElem_self hi'
   have hh:=h a c;simp only [List.append_nil] at hh;rw [II] at hh;exact hK _ _ (hh _ _ (hA.put hn _) hw)
 | some p=>
   have e1:(xs.flatMap f)++ys.flatMap f=(xs++ys).flatMap f:=by simp
   have e2:xs.length+ys.length=(xs++ys).length:=by simp
   refine WL.append i hg hn hE hs hy hL (news:=ys.flatMap f) (k:=ys.length) (xq hf ys) (λw hw k u hu=>?_) (λu hu=>?_) (by unfold maxLen; omega) vl λv' _=>?_
   · obtain ⟨hle,EO⟩:=hH w hw
     have hk:=(List.getElem?_eq_some_iff.1 hu).1
     have hy0:0<ys.length:=by
       cases ys with
       | nil=>simp at hk
       | cons x r=>simp
     obtain ⟨b,o,hb,_⟩:=EO.aO 0 _ (List.getElem?_eq_getElem hy0)
     injection hb with hb
     subst hb;rw [ru];have EP:=hE.pos;exact hle.cell (EO.flat hf EP (ed _) k u hu)
   · obtain ⟨x,_,hx⟩:=List.mem_flatMap.1 hu
     exact List.all_eq_true.1 (h1 x) u hx
   · rw [e1,e2]
     have hi:i<L.length:=(List.getElem?_eq_some_iff.1 hL).1;refine WL.Ur i (m:=(xs++ys).length) (xs:=(xs++ys).flatMap f) (e:=e) (size:=size) (v:=v') (by simp [hi]) λa' c' hv=>?_;subst hv;exact h a' c'
theorem WL.ER {ι:Type} {f:FuncId} {args:Array Operand} {ts:Array TypeId} {vs:List Value} (hg:cP ops l g) (hn:Nat.blt d n=true) (hf:Enters P f) (ha:iH l args.toList=some vs)
   (v:ι->Value) (eM:ι->List ao) (R:ι->Prop)
   (hC:∀w,Ws w0 F L Vs w->Calls P f vs.toArray w λe w'=>∃i,e = .returned (v i)/\R i/\Ws w [] (eM i) [] w')
   (hr:∀i,R i->WL P ops Q n ds ((d,v i)::l) (Ws w0 F (eM i++L) Vs) rest) :
   WL P ops Q n ds l (Ws w0 F L Vs) (⟨some d,.call ⟨.value (.func f),args,ts⟩,ty,pos,af,g⟩::rest):=by
 refine WL.call hg hn hf ha v (λi w'=>R i/\Ws w0 F (eM i++L) Vs w') (λw hw=>(hC w hw).mono λe w' ⟨i,he,hR,h⟩=>⟨i,he,hR,?_⟩) λi=>?_
 · exact Ws.BD (L:=[]) (L':=eM i) (L2:=L) (by simpa using hw) (by simpa using h.fr) h.kn h.nd (λA hA k hk=>by
     rcases h.own A hA k hk with h1 | h1
     · simp at h1
     · exact .inr h1)
 · intro a w c_ hw
   exact hr i hw.1 a w c_ hw.2
end
end Go.Bw
end
section
namespace Go.Bw
set_option linter.unnecessarySimpa false
open Go Go.RowKit
section
variable {P:Program} {ops:Array Oper} {Q:Exit->Act->World->Prop} {n:Nat} {ds:List Deferred} {l:List (Nat×Value)} {w0:World} {F:List Nat} {L:List ao} {Vs:List View} {rest:List Oper} {c:Code}
 {ty:TypeId} {pos:String} {af:Array Edge} {g:Option (Nat×Bool)}
theorem WC.fact {p:Prop} {W:World->Prop} (hp:∀w,W w->p) (h:p->WC P c Q n ds l W):WC P c Q n ds l W:=λa w ha hw=>h (hp w hw) a w ha hw
theorem WL.fact {p:Prop} {W:World->Prop} (hp:∀w,W w->p) (h:p->WL P ops Q n ds l W rest):WL P ops Q n ds l W rest:=λa w ha hw=>h (hp w hw) a w ha hw
theorem Ws.n0 {α:Type} {f:α->List Value} {k b c:Nat} {e:TypeId} {xs:List α} {w:World} (h:Ws w0 F L Vs w) (i:Nat) (hL:L[i]? = some (ab b (.cells (xs.flatMap f).toArray e (0,0)))) (hf:∀x,(f x).length=k) (hc:xs.length=c) (hm:c<=maxLen):Ws w0 F (L.set i (bj e k f (some ⟨b,0,none⟩) c xs)) Vs w:=by
 have h1:=h.T6 i hL (m:=c) (cap:=c) (size:=k) (Nat.le_refl _) hm (by simp [xq hf,hc])
 have e1:dF e k (.slice (some ⟨b,0,none⟩) c c) c ((xs.flatMap f).toArray.toList.take (c*k))=bj e k f (some ⟨b,0,none⟩) c xs:=by
   show _=dF e k (.slice (some ⟨b,0,none⟩) xs.length c) xs.length (xs.flatMap f)
   rw [hc,List.take_of_length_le (by rw [List.toList_toArray,xq hf,hc]; exact Nat.le_refl _)]
 rw [e1] at h1;exact h1
theorem WC.ES {ι:Type} {x y:Code} {W:World->Prop} (E:ι->List (Nat×Value)) (Wi:ι->World->Prop) (R:ι->Prop) (hx:WC P x (Exit.then (λa w=>∃i,R i/\Ag n ds (E i) a/\Wi i w) Q) n ds l W) (hy:∀i,R i->WC P y Q n ds (E i) (Wi i)):WC P (.seq x y) Q n ds l W:=by
 intro a w ha hw;refine wp_seq (wp_mono (hx a w ha hw) λe a' w' hq=>?_)
 cases e with
 | normal=>obtain ⟨i,hR,h1,h2⟩:=hq; exact hy i hR a' w' h1 h2
 | _=>exact hq
theorem Em {ι:Type} {Q:Exit->Act->World->Prop} {W:World->Prop} {E:ι->List (Nat×Value)} {Wi:ι->World->Prop} {R:ι->Prop} (i:ι) (hR:R i) (hE:∀p ∈ E i,lk l p.1=some p.2) (hW:∀w,W w->Wi i w) :
   WE (Exit.then (λa w=>∃i,R i/\Ag n ds (E i) a/\Wi i w) Q) .normal n ds l W:=λa w ha hw=>⟨i,hR,ha.sub hE,hW w hw⟩
theorem NO {A:ao} (i:Nat) (hL:L[i]? = some A):L.set i A=L:=by
 rw [<-(List.getElem?_eq_some_iff.1 hL).2]; exact List.set_getElem_self (List.getElem?_eq_some_iff.1 hL).1
theorem WL.p6 {A A':ao} (i:Nat) (hL:L[i]? = some A) (hA:A=A') (h:WL P ops Q n ds l (Ws w0 F (L.set i A') Vs) rest):WL P ops Q n ds l (Ws w0 F L Vs) rest:=by
 subst hA; rwa [NO i hL] at h
theorem WC.p6 {A A':ao} (i:Nat) (hL:L[i]? = some A) (hA:A=A') (h:WC P c Q n ds l (Ws w0 F (L.set i A') Vs)):WC P c Q n ds l (Ws w0 F L Vs):=by
 subst hA; rwa [NO i hL] at h
theorem Ws.p6 {w:World} {A A':ao} (h:Ws w0 F L Vs w) (i:Nat) (hL:L[i]? = some A) (hA:A=A'):Ws w0 F (L.set i A') Vs w:=by
 subst hA; rwa [NO i hL]
theorem aeB {α:Type} {f:α->List Value} {t e:TypeId} {x:Operand} {b o p k c:Nat} {a:Option Addr} {xs:List α} {y:α} {v:Value} {d:Option Tmp} {As:List ao} (i j q:Nat) (hx:aB l x=some (.pointer (some ⟨b,p,none⟩))) (hL:L[i]? = some (dS As)) (hA:bj e k f a c xs ∈ As) (ha:a=some ⟨b,o,none⟩)
   (hp:p=o+j*k+q) (hf:∀x,(f x).length=k) (hy:xs[j]? = some y) (hq:(f y)[q]? = some v) (ht:dV P t=true):Yl P l (Ws w0 F L Vs) ⟨d,.load t x,ty,pos,af,g⟩ v:=IE ht hx λw hw=>by
 have hh:(bj e k f a c xs).holds w:=(hw.kn _ (dD hL):(dS As).holds w) _ hA;obtain ⟨rfl,cur,hb,nY,iI,hm⟩:=NL hh ha;refine cell_of_heap hb ?_
 have NN:q<k:=by have:=(List.getElem?_eq_some_iff.1 hq).1; rw [hf] at this; exact this
 have h6:(xs.flatMap f)[j*k+q]? = some v:=by rw [pY hf hy NN]; exact hq
 rw [<-nY,List.getElem?_take] at h6
 split at h6
 · subst hp; simpa [g_] using h6
 · cases h6
theorem UP {α:Type} {f:α->List Value} {e:TypeId} {k c:Nat} {a:Option Addr} {xs:List α} {w:World} {As:List ao} (hw:Ws w0 F L Vs w) (i:Nat) (hL:L[i]? = some (dS As)) (hA:bj e k f a c xs ∈ As) (hm:0<xs.length):∃b o,a=some ⟨b,o,none⟩:=by
 obtain ⟨h1,h2⟩:=((hw.kn _ (dD hL):(dS As).holds w) _ hA:w.ownsRow 0 e k _ xs.length (xs.flatMap f))
 rcases h2 with ⟨h3,h4⟩ | ⟨b,cap,cur,hv,_,_,mT,hc,_⟩
 · injection h3 with _ h5 _; omega
 · injection hv with h3 _ h4
   subst h3 h4;exact ⟨b,0,O⟩
theorem I8 {α:Type} {f:α->List Value} {e:TypeId} {k c:Nat} {a:Option Addr} {xs:List α} {w:World} (hw:Ws w0 F L Vs w) (i:Nat) (hL:L[i]? = some (bj e k f a c xs)) (hm:0<xs.length):∃b o,a=some ⟨b,o,none⟩:=by
 obtain ⟨⟨b,h⟩,_⟩:=NM hw i hL hm;exact ⟨b,0,h⟩
end
section
variable {P:Program} {l:List (Nat×Value)} {W:World->Prop} {d:Option Tmp} {ty:TypeId} {pos:String} {af:Array Edge} {g:Option (Nat×Bool)}
theorem aeC {t u:TypeId} {x y:Operand} {k:IntKind} {a b:Int} (hx:aB l x=some (.int k a)) (hy:aB l y=some (.int k b)) (h:a<b):Yl P l W ⟨d,.binOp .lss t x y u,ty,pos,af,g⟩ (.bool true):=by
 have:=a_ (P:=P) (W:=W) (d:=d) (ty:=ty) (pos:=pos) (af:=af) (g:=g) (t:=t) (u:=u) hx hy
 rwa [show decide (a<b)=true by simpa using h] at this
theorem aeD {t u:TypeId} {x y:Operand} {k:IntKind} {a b:Int} (hx:aB l x=some (.int k a)) (hy:aB l y=some (.int k b)) (h:b<=a):Yl P l W ⟨d,.binOp .lss t x y u,ty,pos,af,g⟩ (.bool false):=by
 have:=a_ (P:=P) (W:=W) (d:=d) (ty:=ty) (pos:=pos) (af:=af) (g:=g) (t:=t) (u:=u) hx hy
 rwa [show decide (a<b)=false by simp; omega] at this
end
section
variable {P:Program} {l:List (Nat×Value)} {W:World->Prop} {d:Option Tmp} {ty:TypeId} {pos:String} {af:Array Edge} {g:Option (Nat×Bool)}
def BV (v:Value) (b:Bool):Prop:=(b=true->v = .nilIface)/\(b=false->∃t x,v = .iface t x)
theorem aeE {t u:TypeId} {x:Operand} {v:Value} (b:Bool) (ht:P.underlying t=some (.interface (P.methodsAt t))) (hx:aB l x=some v) (hb:BV v b):Yl P l W ⟨d,.binOp .eql t x (.const .nilIface) u,ty,pos,af,g⟩ (.bool b):=by
 intro ρ w aD _;have hy:ρ (.const .nilIface) = .nilIface:=aD _ _ rfl
 cases b with
 | true=>
   obtain rfl:=hb.1 rfl;simp only [execOp,aD x _ hx,hy,Sem.run_bind];simp [eqGuard_nil_constR,run_eql_nil_nil (h:=ht)]
 | false=>
   obtain ⟨s,y,rfl⟩:=hb.2 rfl
   have hg:(eqGuard .eql t x (.const .nilIface) (.iface s y) .nilIface)=pure ():=by cases x<;>rfl
   simp only [execOp,aD x _ hx,hy,Sem.run_bind,hg];simp [run_eql_held_nil (h:=ht)]
end
theorem WL.wk {P:Program} {ops:Array Oper} {Q:Exit->Act->World->Prop} {n:Nat} {ds:List Deferred} {l:List (Nat×Value)} {W W':World->Prop} {rest:List Oper} (hW:∀w,W w->W' w) (h:WL P ops Q n ds l W' rest):WL P ops Q n ds l W rest:=λa w ha hw=>h a w ha (hW w hw)
structure NP (P:Program) (gp gs gr:Nat) (H:View):Prop where
 pow:∃t f,H gp=some (.cells (Lib.pow10Tab.map λz=>Value.int .u64 z).toArray t f)
 syn:∃ev,vc H gs 0=some ev/\(ev = .nilIface\/∃te pe,ev = .iface te pe)
 rng:∃ev,vc H gr 0=some ev/\(ev = .nilIface\/∃te pe,ev = .iface te pe)
theorem NP.NQ {P:Program} {gp gs gr:Nat} {H:View} (h:NP P gp gs gr H) {w:World} (hl:Le H w) {nm:String} (hg:P.globalNamed nm=some gp):Lib.TabIs P w nm .u64 Lib.pow10Tab:=by
 obtain ⟨t,f,hp⟩:=h.pow;unfold Lib.TabIs World.var?;rw [hg];simp [hl _ _ hp]
theorem aeH {P:Program} {W:World} {nm:String} {g:Nat} (ht:Lib.TabIs P W nm .u64 Lib.pow10Tab) (hg:P.globalNamed nm=some g):∃t f,hv W g=some (.cells (Lib.pow10Tab.map λz=>Value.int .u64 z).toArray t f):=by
 unfold Lib.TabIs World.var? at ht;rw [hg] at ht;simp only [Option.bind_some] at ht
 cases hb:W.heap[g]? with
 | none=>simp [hb] at ht
 | some o=>
   cases o with
   | cells cs t f=>
     simp only [hb,Option.some.injEq] at ht;subst ht;exact ⟨t,f,hb⟩
   | _=>simp [hb] at ht
theorem aeI (w:World) (k:Nat) (os:Array Obj):Ext w (Go.Sort.grow (w.drewN k) os):=by
 refine ⟨O,O,O,by simp [Go.Sort.grow,World.drewN],λb hb _=>?_⟩;simp [Go.Sort.grow,World.drewN,Array.getElem?_append,hb]
structure rQ {κ:Type} [BEq κ] [LawfulBEq κ] (kd:TypeDesc) (kv:κ->Value):Prop where
 same:∀a b,Instr.sameNow kd (kv a) (kv b)=some (a==b)
 isKey:∀a,MapKept.IsKey kd (kv a)
theorem l9:rQ (.int .i64) (λn:Int=>Value.int .i64 n):=⟨λa b=>by simp [Instr.sameNow],λa=>by simp [MapKept.IsKey]⟩
theorem jR:rQ .string st:=⟨λa b=>by simp only [st,Instr.sameNow,Nw],λa=>by simp [MapKept.IsKey,st]⟩
section
variable {κ:Type} {kv:κ->Value}
abbrev di (κ:Type):=κ×Value×Nat
def n5 (kv:κ->Value) (e:di κ):MapEntry:={ key:=kv e.1,val:=e.2.1,born:=e.2.2 }
def bz (kv:κ->Value) (m:List (di κ)) (c:Nat):Obj:=.map (m.map (n5 kv)).toArray c
theorem aeJ (m:List (di κ)) (j:Nat) (k:κ) (v:Value):(m.map (n5 kv)).modify j (λe=>{ e with key:=kv k,val:=v })=(m.modify j λe=>(k,v,e.2.2)).map (n5 kv):=by
 apply List.ext_getElem?;intro i;simp only [List.getElem?_modify,List.getElem?_map]
 cases m[i]? with
 | none=>simp
 | some e=>by_cases h:j=i<;>simp [h,n5]
variable {P:Program} {ops:Array Oper} {Q:Exit->Act->World->Prop} {n:Nat} {ds:List Deferred} {l:List (Nat×Value)} {w0:World} {F:List Nat} {L:List ao} {Vs:List View} {rest:List Oper} {d:Nat} {ty:TypeId} {pos:String} {af:Array Edge} {g:Option (Nat×Bool)}
theorem WL.tz {t:TypeId} (kv:κ->Value) (hg:cP ops l g) (hn:Nat.blt d n=true)
   (h:∀b,WL P ops Q n ds ((d,.map (some b))::l) (Ws w0 F (ab b (bz kv [] 0)::L) Vs) rest) :
   WL P ops Q n ds l (Ws w0 F L Vs) (⟨some d,.makeMap t none,ty,pos,af,g⟩::rest):=
 WL.new (mk:=λb=>.map (some b)) (o:=bz kv [] 0) hg hn (λρ w _ _=>by
   simp only [execOp]
   simp [Instr.makeMap,bz]) h
end
section
variable {κ:Type} [BEq κ] [LawfulBEq κ] {kd:TypeDesc} {kv:κ->Value}
def bP (k:κ):List (di κ)->Nat->Option (Nat×Value)
 | [],_=>none
 | e::r,i=>if (k==e.1)=true then some (i,e.2.1) else bP k r (i+1)
def dY (k:κ) (v:Value) (m:List (di κ)) (c:Nat):List (di κ):=match bP k m 0 with
 | some (i,_)=>m.modify i λe=>(k,v,e.2.2)
 | none=>m++[(k,v,c)]
def jB (k:κ) (m:List (di κ)) (c:Nat):Nat:=match bP k m 0 with | some _=>c | none=>c+1
def eu (k:κ) (m:List (di κ)) (z:Value):Value:=match bP k m 0 with | some (_,v)=>v | none=>z
def o4 (k:κ) (m:List (di κ)):Bool:=(bP k m 0).isSome
theorem NR (hk:rQ kd kv) (k:κ):∀(m:List (di κ)) (i:Nat),Instr.findNow kd (kv k) (m.map (n5 kv)) i=some (bP k m i)
 | [],_=>rfl
 | e::r,i=>by
   simp only [List.map_cons,Instr.findNow,n5,hk.same,bP];cases h:(k==e.1)
   · simp only [Bool.false_eq_true,if_false]
     exact NR hk k r (i+1)
   · simp
theorem UQ (k:κ) (j:Nat) (v':Value):∀(m:List (di κ)) (i0:Nat),bP k m i0=some (j,v')->i0<=j/\(m[j-i0]?).map (·.1)=some k
 | [],i0,h=>by simp [bP] at h
 | e::r,i0,h=>by
   simp only [bP] at h
   split at h
   · rename_i hk
     injection h with h; injection h with h1 h2
     subst h1;simp at hk;simp [hk]
   · obtain ⟨h1,h2⟩:=UQ k j v' r (i0+1) h
     refine ⟨by omega,?_⟩
     have:j-i0=(j-(i0+1))+1:=by omega
     rw [this]; simpa using h2
variable {P:Program} {ops:Array Oper} {Q:Exit->Act->World->Prop} {n:Nat} {ds:List Deferred} {l:List (Nat×Value)} {w0:World} {F:List Nat} {L:List ao} {Vs:List View} {rest:List Oper} {d:Nat} {ty:TypeId} {pos:String} {af:Array Edge} {g:Option (Nat×Bool)}
theorem I9 {w:World} {t kt e:TypeId} {b c:Nat} {m:List (di κ)} {k:κ} {z:Value} (cm:Bool) (fm:rQ kd kv) (ht:P.underlying t=some (.map kt e)) (hk:P.underlying kt=some kd) (hz:zeroOf P e=some z) (hb:w.heap[b]? = some (bz kv m c)) :
   (Instr.lookup t (.map (some b)) (kv k) cm).run P w = .ok (if cm=true then .tuple #[eu k m z,.bool (o4 k m)] else eu k m z) w:=by
 have hf:=NR fm k m 0;have hb:w.heap[b]? = some (.map (m.map (n5 kv)).toArray c):=hb;have hc:(Instr.checkKey (m.map (n5 kv)).toArray.isEmpty 10000 kt (kv k)).run P w = .ok () w:=MapKept.run_checkKey (k:=kv k) hk (fm.isKey k) _ 9999;simp only [Instr.lookup,Sem.run_bind,run_underlying ht,Result.andThen_ok,MapKept.run_getObj_map hb,Sem.run_pure,hc];rw [MapKept.run_findKey hk (by simpa using hf)];unfold eu o4
 cases hm:bP k m 0 with
 | none=>simp [Result.andThen_ok,yY hz]
 | some r=>obtain ⟨i,v⟩:=r; simp [Result.andThen_ok]
theorem BW {dd:Option Tmp} {t kt e:TypeId} {x y:Operand} {b c:Nat} {m:List (di κ)} {k:κ} {z:Value} (i:Nat) (fm:rQ kd kv) (ht:P.underlying t=some (.map kt e)) (hk:P.underlying kt=some kd) (hz:zeroOf P e=some z) (hx:aB l x=some (.map (some b))) (hy:aB l y=some (kv k)) (hL:L[i]? = some (ab b (bz kv m c))) :
   Yl P l (Ws w0 F L Vs) ⟨dd,.lookup t x y false,ty,pos,af,g⟩ (eu k m z):=by
 intro ρ w aD hw;simp [execOp,aD x _ hx,aD y _ hy,I9 (P:=P) (k:=k) false fm ht hk hz (hw.kn _ (dD hL):w.heap[b]? = some (bz kv m c))]
theorem NS {dd:Option Tmp} {t kt e:TypeId} {x y:Operand} {b c:Nat} {m:List (di κ)} {k:κ} {z:Value} (i:Nat) (fm:rQ kd kv) (ht:P.underlying t=some (.map kt e)) (hk:P.underlying kt=some kd) (hz:zeroOf P e=some z) (hx:aB l x=some (.map (some b))) (hy:aB l y=some (kv k)) (hL:L[i]? = some (ab b (bz kv m c))) :
   Yl P l (Ws w0 F L Vs) ⟨dd,.lookup t x y true,ty,pos,af,g⟩ (.tuple #[eu k m z,.bool (o4 k m)]):=by
 intro ρ w aD hw;simp [execOp,aD x _ hx,aD y _ hy,I9 (P:=P) (k:=k) true fm ht hk hz (hw.kn _ (dD hL):w.heap[b]? = some (bz kv m c))]
theorem UR {w:World} {t kt e:TypeId} {b c:Nat} {m:List (di κ)} {k:κ} {v:Value} (fm:rQ kd kv) (ht:P.underlying t=some (.map kt e)) (hk:P.underlying kt=some kd) (yZ:w.heap[b]? = some (bz kv m c)) :
   (Instr.mapUpdate t (.map (some b)) (kv k) v).run P w = .ok () { w with heap:=w.heap.setIfInBounds b (bz kv (dY k v m c) (jB k m c)) }:=by
 have hb:w.heap[b]? = some (.map (m.map (n5 kv)).toArray c):=yZ;have hf:=NR fm k m 0;have hc:(Instr.checkKey false 10000 kt (kv k)).run P w = .ok () w:=MapKept.run_checkKey (k:=kv k) hk (fm.isKey k) _ 9999;simp only [Instr.mapUpdate,Sem.run_bind,run_underlying ht,Result.andThen_ok,MapKept.run_getObj_map hb,Sem.run_pure,hc];rw [MapKept.run_findKey hk (by simpa using hf)];unfold dY jB
 cases hm:bP k m 0 with
 | none=>simp [Result.andThen_ok,MapKept.run_setObj_map _ hb,bz,n5]
 | some r=>
   obtain ⟨j,v'⟩:=r
   have zd:m[j]?.map (·.1)=some k:=by simpa using (UQ k j v' m 0 hm).2
   have iy:((((m.map (n5 kv)).toArray)[j]?).map (·.key)).getD (kv k)=kv k:=by
     cases he:m[j]? with
     | none=>simp [he]
     | some e=>rw [he] at zd; simp at zd; simp [he,n5,zd]
   simp only [iy,Result.andThen_ok];simp only [Sem.run_bind,MapKept.run_keyThatStays (fm.isKey k),Result.andThen_ok,MapKept.run_setObj_map _ hb,bz]
   have EI:(m.map (n5 kv)).toArray.modify j (λe=>{ e with key:=kv k,val:=v })=((m.modify j λe=>(k,v,e.2.2)).map (n5 kv)).toArray:=by
     apply Array.ext';rw [Array.toList_modify];exact aeJ m j k v
   rw [EI]
theorem WL.xy {t kt e:TypeId} {x y u:Operand} {b c:Nat} {m:List (di κ)} {k:κ} {v:Value} (i:Nat) (fm:rQ kd kv) (hg:cP ops l g) (ht:P.underlying t=some (.map kt e)) (hk:P.underlying kt=some kd) (hx:aB l x=some (.map (some b))) (hy:aB l y=some (kv k)) (hu:aB l u=some v) (hL:L[i]? = some (ab b (bz kv m c)))
   (h:WL P ops Q n ds l (Ws w0 F (L.set i (ab b (bz kv (dY k v m c) (jB k m c)))) Vs) rest) :
   WL P ops Q n ds l (Ws w0 F L Vs) (⟨none,.mapUpdate t x y u,ty,pos,af,g⟩::rest):=by
 refine WL.step hg λa w ha hw K hK=>?_;have hb:w.heap[b]? = some (bz kv m c):=hw.kn _ (dD hL)
 have ry:(execOp a.eval ⟨none,.mapUpdate t x y u,ty,pos,af,g⟩).run P w = .ok .skip { w with heap:=w.heap.setIfInBounds b (bz kv (dY k v m c) (jB k m c)) }:=by
   simp only [execOp,ha.eval hx,ha.eval hy,ha.eval hu,Sem.run_bind,UR fm ht hk hb,Result.andThen_ok,Sem.run_pure]
 simp only [Oper.wp,ry,Oper.upon_skip];refine hK _ _ (h _ _ (ha.Ee undef) ?_);refine Ws.xi hw i hL ⟨O,O,O,by simp,λj hj dB=>?_⟩ ?_ (by simp [ab]) (by simp [ab])
 · have:b≠j:=λe=>dB (by simp [ab,e])
   simp [Array.getElem?_setIfInBounds_ne this]
 · show (w.heap.setIfInBounds b _)[b]? = _
   simp [lt_of_heap hb]
theorem WL.m_ {t kt e:TypeId} {x y u:Operand} {b c:Nat} {m:List (di κ)} {k:κ} {v:Value} (i:Nat) (fm:rQ kd kv) (hg:cP ops l g) (ht:P.underlying t=some (.map kt e)) (hk:P.underlying kt=some kd) (hx:aB l x=some (.map (some b))) (hy:aB l y=some (kv k)) (hu:aB l u=some v) (hL:L[i]? = some (ab b (bz kv m c)))
   (h:WL P ops Q n ds l (Ws w0 F (L.set i (ab b (bz kv (dY k v m c) (jB k m c)))) Vs) rest) :
   WL P ops Q n ds l (Ws w0 F L Vs) (⟨none,.insert t x y u,ty,pos,af,g⟩::rest):=by
 refine WL.step hg λa w ha hw K hK=>?_;have hb:w.heap[b]? = some (bz kv m c):=hw.kn _ (dD hL)
 have ry:(execOp a.eval ⟨none,.insert t x y u,ty,pos,af,g⟩).run P w = .ok .skip { w with heap:=w.heap.setIfInBounds b (bz kv (dY k v m c) (jB k m c)) }:=by
   simp only [execOp,ha.eval hx,ha.eval hy,ha.eval hu,Sem.run_bind,UR fm ht hk hb,Result.andThen_ok,Sem.run_pure]
 simp only [Oper.wp,ry,Oper.upon_skip];refine hK _ _ (h _ _ (ha.Ee undef) ?_);refine Ws.xi hw i hL ⟨O,O,O,by simp,λj hj dB=>?_⟩ ?_ (by simp [ab]) (by simp [ab])
 · have:b≠j:=λe=>dB (by simp [ab,e])
   simp [Array.getElem?_setIfInBounds_ne this]
 · show (w.heap.setIfInBounds b _)[b]? = _
   simp [lt_of_heap hb]
end
def zf (P:Program) (t:TypeId):Option (Nat×Nat):=match P.underlying t with | some (.array n e)=>(P.info? e).map λi=>(n,i.size) | _=>none
def I' (P:Program) (t:TypeId):Option Nat:=match P.underlying t with | some (.array n e)=>if dV P e=true/\(P.info? e).map (·.size)=some 1 then some n else none | _=>none
section
variable {P:Program} {l:List (Nat×Value)} {W:World->Prop} {d:Option Tmp} {ty:TypeId} {pos:String} {af:Array Edge} {g:Option (Nat×Bool)}
theorem zg {t:TypeId} {x y:Operand} {b o n s:Nat} {k:IntKind} {i:Nat} (hs:zf P t=some (n,s)) (hx:aB l x=some (.pointer (some ⟨b,o,none⟩))) (hy:aB l y=some (.int k (i:Int))) (h1:i<n) :
   Yl P l W ⟨d,.indexAddr t x y,ty,pos,af,g⟩ (.pointer (some ⟨b,o+i*s,none⟩)):=by
 intro ρ w aD _;unfold zf at hs
 cases hu:P.underlying t with
 | none=>simp [hu] at hs
 | some dd=>
   cases dd<;>simp [hu] at hs
   rename_i m e;obtain ⟨inf,hi,h2,h3⟩:=hs;subst h2 h3
   have av:(i:Int)<(m:Int):=by omega
   simp [execOp,aD x _ hx,aD y _ hy,Instr.indexAt,run_underlying hu,asIntOf,av,h1,sizeOf,typeInfo,hi,ru,Instr.sureAddr]
theorem US {t:TypeId} {x y:Operand} {n:Nat} {cs:Array Value} {k:IntKind} {i:Nat} {v:Value} (hs:I' P t=some n) (hx:aB l x=some (.agg cs)) (hy:aB l y=some (.int k (i:Int))) (h1:i<n) (hv:cs[i]? = some v) :
   Yl P l W ⟨d,.index t x y,ty,pos,af,g⟩ v:=by
 intro ρ w aD _;unfold I' at hs
 cases hu:P.underlying t with
 | none=>simp [hu] at hs
 | some dd=>
   cases dd<;>simp [hu] at hs
   rename_i m e;obtain ⟨⟨hna,inf,hi,gz⟩,rfl⟩:=hs
   have av:(i:Int)<(m:Int):=by omega
   have ha:=IB hna w
   have hp:(part e cs (i*inf.size)).run P w = .ok v w:=by
     simp [part,ha,gz,hv]
   simp [execOp,aD x _ hx,aD y _ hy,Instr.index,run_underlying hu,asIntOf,av,h1,sizeOf,typeInfo,hi,hp]
end
end Go.Bw
end
section
namespace Go.Bw
open Go
structure Tok where
 kind:Int
 n:Int
 text:List UInt8
deriving DecidableEq
def Tok.cells (t:Tok):List Value:=[.int .i64 t.kind,.int .i64 t.n,st t.text]
theorem Tok.aX (x:Tok):x.cells.length=3:=rfl
def a6 (H:View) (b o:Nat) (x:Tok):Prop:=aP H b o x.cells
def l_ (u:Int):Bool:=decide (97<=u)&&decide (u<=122)
def zh (u:Int):Bool:=decide (48<=u)&&decide (u<=57)
def kY (u:UInt8):Bool:=l_ u.toNat||zh u.toNat
def dG (s:List UInt8):Bool:=(decide (1<=s.length)&&decide (s.length<=8))&&l_ ((s[0]?.getD 0).toNat)&&s.all kY
def NT:List UInt8:=[123,125,40,41,91,93,44,59,61,46,43,45,42,47,37,60,33,38,124]
def vq (u:UInt8):Bool:=NT.contains u
def iK:List UInt8->Nat
 | []=>0
 | c::r=>if kY c=true then iK r+1 else 0
def zi (s:List UInt8):Option Nat:=match Lib.decNat s with
 | some n=>if n<=1099511627775/\Lib.decDigits n=s then some n else none
 | none=>none
def xz (s:List UInt8):Option Tok:=if dG s=true then some ⟨1,0,s⟩ else (zi s).map (λn:Nat=>(⟨2,(n:Int),[]⟩:Tok))
def mb:Nat->List UInt8->Option (List Tok)
 | _,[]=>some []
 | 0,_::_=>none
 | f+1,c::r=>
   if 0<iK (c::r) then
     match xz ((c::r).take (iK (c::r))) with
     | some t=>(mb f ((c::r).drop (iK (c::r)))).map (t::·)
     | none=>none
   else if vq c=true then (mb f r).map (⟨3,0,[c]⟩::·)
   else if c=32\/c=10 then mb f r
   else none
def ky (s:List UInt8):Option (List Tok):=mb s.length s
def dZ (s:List UInt8):List Tok×Int:=if 4096<s.length then ([],2) else match ky s with
 | some l=>(l,0)
 | none=>([],1)
def zj (t:Tok):Bool:=decide (1<=t.kind)&&decide (t.kind<=3)
def o5 (t:Tok):Bool:=if t.kind=1 then t.n==0&&dG t.text else if t.kind=2 then t.text==[]&&(decide (0<=t.n)&&decide (t.n<=1099511627775)) else t.n==0&&(t.text.length==1&&vq (t.text[0]?.getD 0))
def I_ (t:Tok):Bool:=!zj t
def Ja (t:Tok):Bool:=!o5 t
def ET (l:List Tok):Int:=if l.any I_=true then 4 else if l.any Ja=true then 1 else if 4096<l.length then 2 else 0
def vr (t:Tok):List UInt8:=if t.kind=2 then Lib.itoa t.n else t.text
theorem UT:∀(s:List UInt8) (n:Nat),n<=s.length->(∀j,j<n->kY (s[j]?.getD 0)=true)->(n=s.length\/kY (s[n]?.getD 0)=false)->iK s=n
 | [],n,h,_,_=>by simp at h; subst h; rfl
 | c::r,0,_,_,h=>by
   have:kY c=false:=by
     rcases h with h | h
     · simp at h
     · simpa using h
   simp [iK,this]
 | c::r,n+1,hn,ha,h=>by
   have h0:kY c=true:=by simpa using ha 0 (by omega)
   rw [iK,if_pos h0,UT r n (by simpa using hn) (λj hj=>by simpa using ha (j+1) (by omega)) (by rcases h with h | h; left; simpa using h; right; simpa using h)]
theorem NU:∀(f g:Nat) (s:List UInt8),s.length<=f->s.length<=g->mb f s=mb g s
 | _,_,[],_,_=>by simp [mb]
 | 0,_,_::_,h,_=>by simp at h
 | _+1,0,_::_,_,h=>by simp at h
 | f+1,g+1,c::r,hf,hg=>by
   simp only [List.length_cons] at hf hg;unfold mb;rw [NU f g r (by omega) (by omega)]
   by_cases h0:0<iK (c::r)
   · rw [NU f g ((c::r).drop (iK (c::r))) (by simp; omega) (by simp; omega)]
   · simp only [if_neg h0]
theorem UU:ky []=some []:=rfl
theorem NV {s:List UInt8} (h:0<iK s):ky s=match xz (s.take (iK s)) with
   | some t=>(ky (s.drop (iK s))).map (t::·)
   | none=>none:=by
 cases s with
 | nil=>simp [iK] at h
 | cons c r=>
   show mb (r.length+1) (c::r)=_
   rw [mb,if_pos h];unfold ky;rw [NU r.length ((c::r).drop (iK (c::r))).length _ (by simp; omega) (Nat.le_refl _)]
theorem UW {c:UInt8} {r:List UInt8} (h:iK (c::r)=0) (hs:vq c=true):ky (c::r)=(ky r).map (⟨3,0,[c]⟩::·):=by
 show mb (r.length+1) (c::r)=_
 rw [mb,if_neg (by omega),if_pos hs]
 rfl
theorem UX {c:UInt8} {r:List UInt8} (h:iK (c::r)=0) (hs:vq c=false) (hb:c=32\/c=10):ky (c::r)=ky r:=by
 show mb (r.length+1) (c::r)=_
 rw [mb,if_neg (by omega),if_neg (by simp [hs]),if_pos hb]
 rfl
theorem UY {c:UInt8} {r:List UInt8} (h:iK (c::r)=0) (hs:vq c=false) (hb:¬(c=32\/c=10)):ky (c::r)=none:=by
 show mb (r.length+1) (c::r)=_
 rw [mb,if_neg (by omega),if_neg (by simp [hs]),if_neg hb]
theorem NW (d:Nat) (hd:d<10):∀(l:List UInt8) (acc n:Nat),Lib.decFrom acc l=some n->Lib.decFrom acc (l++[UInt8.ofNat (48+d)])=some (n*10+d)
 | [],acc,n,h=>by
   simp only [Lib.decFrom,Option.some.injEq] at h;subst h
   have e:(UInt8.ofNat (48+d)).toNat=48+d:=by simp [UInt8.toNat_ofNat']; omega
   have:Lib.digitVal (UInt8.ofNat (48+d))=some d:=by
     unfold Lib.digitVal;rw [e,if_pos (by omega)];simp
   simp only [List.nil_append,Lib.decFrom,this]
 | b::r,acc,n,h=>by
   simp only [Lib.decFrom,List.cons_append] at h ⊢
   cases hb:Lib.digitVal b with
   | none=>simp [hb] at h
   | some e=>
     simp only [hb] at h ⊢;exact NW d hd r _ n h
theorem UZ (n:Nat):Lib.decDigits n≠[]:=by
 rw [Lib.decDigits]
 split<;>simp
theorem aeL (n:Nat):Lib.decFrom 0 (Lib.decDigits n)=some n:=by
 induction n using Nat.strongRecOn with
 | _ n ih=>
   rw [Lib.decDigits]
   split
   · rename_i h
     have:=NW n h [] 0 0 rfl
     simpa using this
   · rename_i h
     rw [NW (n % 10) (by omega) _ _ _ (ih (n / 10) (by omega))]
     congr 1
     omega
theorem U1 (n:Nat):Lib.decNat (Lib.decDigits n)=some n:=by
 unfold Lib.decNat;rw [if_neg (by simpa using UZ n),aeL]
theorem aeM (n:Nat):∀x ∈ Lib.decDigits n,48<=x.toNat/\x.toNat<=57:=by
 induction n using Nat.strongRecOn with
 | _ n ih=>
   rw [Lib.decDigits]
   have e:∀d,d<10->(UInt8.ofNat (48+d)).toNat=48+d:=λd hd=>by simp [UInt8.toNat_ofNat']; omega
   split
   · rename_i h
     intro x hx;simp only [List.mem_singleton] at hx;subst hx;rw [e n h]; omega
   · intro x hx
     rw [List.mem_append,List.mem_singleton] at hx
     rcases hx with hx | hx
     · exact ih (n / 10) (by omega) x hx
     · subst hx
       rw [e _ (by omega)]; omega
theorem U2:∀(k n:Nat),n<10 ^ (k+1)->(Lib.decDigits n).length<=k+1
 | 0,n,h=>by
   rw [Lib.decDigits,dif_pos (by simpa using h)];simp
 | k+1,n,h=>by
   rw [Lib.decDigits]
   split
   · simp
   · rw [Nat.pow_succ] at h
     have:=U2 k (n / 10) (by omega);simp; omega
theorem aeN (n:Nat):Lib.itoa (n:Int)=Lib.decDigits n:=by
 unfold Lib.itoa;rw [if_neg (by omega)];simp
theorem U3 {n:Int} (h:0<=n):Lib.itoa n=Lib.decDigits n.toNat:=by
 unfold Lib.itoa;rw [if_neg (by omega)]
theorem aeO {n:Nat} (h:n<=1099511627775):(Lib.decDigits n).length<=13:=U2 12 n (by omega)
theorem U4 {s:List UInt8} {n:Nat} (h:zi s=some n):n<=1099511627775/\Lib.decDigits n=s:=by
 unfold zi at h
 split at h
 · split at h
   · injection h with h
     subst h; assumption
   · cases h
 · cases h
theorem aeP {n:Nat} (h:n<=1099511627775):zi (Lib.decDigits n)=some n:=by
 unfold zi;rw [U1];simp [h]
def nc (s:List UInt8):Tok×Bool:=if dG s=true then (⟨1,0,s⟩,true) else match Lib.atoiAll s with
 | .ok v=>(⟨2,v,[]⟩,((decide (0<=v)&&decide (v<=1099511627775))&&(Lib.itoa v==s)))
 | .range=>(⟨2,Lib.atoiSat s,[]⟩,false)
 | _=>(⟨2,0,[]⟩,false)
theorem U5 {n:Nat} (h:n<=1099511627775):Lib.atoiAll (Lib.decDigits n) = .ok (n:Int):=by
 have hl:=aeO h;rw [Lib.atoiAll_short _ (by omega)];have dB:=UZ n;have bN:=aeM n;have hd:=U1 n
 cases hs:Lib.decDigits n with
 | nil=>exact absurd hs dB
 | cons b r=>
   rw [hs] at bN hd;have hb:=bN b (by simp)
   have h45:(b==45)=false:=by
     rw [beq_eq_false_iff_ne];intro e; subst e; revert hb; decide
   have h43:(b==43)=false:=by
     rw [beq_eq_false_iff_ne];intro e; subst e; revert hb; decide
   simp [Lib.atoi,h45,h43,hd,Lib.NumEnd.ofOption]
theorem U6 (s:List UInt8):xz s=if (nc s).2=true then some (nc s).1 else none:=by
 unfold xz nc
 by_cases hn:dG s=true
 · simp [hn]
 · simp only [if_neg hn]
   cases h:zi s with
   | some n=>
     obtain ⟨h1,h2⟩:=U4 h;subst h2;rw [U5 h1]
     have:((n:Int)<=1099511627775):=by omega
     simp [aeN,this]
   | none=>
     cases ha:Lib.atoiAll s with
     | ok v=>
       simp only
       by_cases hv:((decide (0<=v)&&decide (v<=1099511627775))&&(Lib.itoa v==s))=true
       · simp only [Bool.and_eq_true,decide_eq_true_eq,beq_iff_eq] at hv
         obtain ⟨⟨h1,h2⟩,h3⟩:=hv
         have:zi s=some v.toNat:=by
           rw [<-h3,U3 h1];exact aeP (by omega)
         rw [h] at this; cases this
       · rw [if_neg hv]; rfl
     | range=>rfl
     | _=>rfl
theorem aeS {s:List UInt8} {t:Tok} (h:xz s=some t):zj t=true/\o5 t=true:=by
 unfold xz at h
 split at h
 · rename_i hn
   injection h with h
   subst h;exact ⟨O,by simp [o5,hn]⟩
 · obtain ⟨n,hn,rfl⟩:=Option.map_eq_some_iff.1 h
   have:=(U4 hn).1;exact ⟨O,by simp [o5]; omega⟩
theorem Jb:∀(k:Nat) (s:List UInt8) (l:List Tok),s.length<=k->ky s=some l->(∀t ∈ l,zj t=true/\o5 t=true)/\l.length<=s.length
 | _,[],l,_,h=>by
   rw [UU] at h
   injection h with h
   subst h; simp
 | 0,_::_,_,h,_=>by simp at h
 | k+1,c::r,l,hk,h=>by
   simp only [List.length_cons] at hk
   by_cases h0:0<iK (c::r)
   · rw [NV h0] at h
     cases hw:xz ((c::r).take (iK (c::r))) with
     | none=>simp [hw] at h
     | some t=>
       simp only [hw] at h;obtain ⟨l',zk,rfl⟩:=Option.map_eq_some_iff.1 h;obtain ⟨h1,h2⟩:=Jb k ((c::r).drop (iK (c::r))) l' (by simp; omega) zk;refine ⟨λx hx=>?_,?_⟩
       · rcases List.mem_cons.1 hx with rfl | hx
         · exact aeS hw
         · exact h1 x hx
       · simp at h2 ⊢; omega
   · have NX:iK (c::r)=0:=by omega
     cases hs:vq c with
     | true=>
       rw [UW NX hs] at h;obtain ⟨l',zk,rfl⟩:=Option.map_eq_some_iff.1 h;obtain ⟨h1,h2⟩:=Jb k r l' (by omega) zk;refine ⟨λx hx=>?_,by simpa using h2⟩
       rcases List.mem_cons.1 hx with rfl | hx
       · exact ⟨O,by simp [o5,hs]⟩
       · exact h1 x hx
     | false=>
       by_cases hb:c=32\/c=10
       · rw [UX NX hs hb] at h
         obtain ⟨h1,h2⟩:=Jb k r l (by omega) h;exact ⟨h1,by simp; omega⟩
       · rw [UY NX hs hb] at h; cases h
theorem any_none {α:Type} {p:α->Bool} {l:List α} (h:∀t ∈ l,p t=false):l.any p=false:=by
 rw [List.any_eq_false];intro x hx;simp [h x hx]
theorem aeT {l:List Tok} (h:∀t ∈ l,zj t=true/\o5 t=true) (hl:l.length<=4096):ET l=0:=by
 unfold ET;rw [any_none (p:=I_) λt ht=>by simp [I_,(h t ht).1],any_none (p:=Ja) λt ht=>by simp [Ja,(h t ht).2]];simp; omega
theorem U7 {l:List Tok} (h:ET l=0):(∀t ∈ l,zj t=true/\o5 t=true)/\l.length<=4096:=by
 unfold ET at h
 split at h
 · cases h
 · rename_i h1
   split at h
   · cases h
   · rename_i h2
     split at h
     · cases h
     · rename_i h3
       simp only [List.any_eq_true,not_exists,not_and] at h1 h2;refine ⟨λt ht=>⟨?_,?_⟩,by omega⟩
       · have:=h1 t ht; simpa [I_] using this
       · have:=h2 t ht; simpa [Ja] using this
theorem U8 {s:List UInt8} (h:(dZ s).2=0):ET (dZ s).1=0:=by
 unfold dZ at h ⊢
 split
 · simp_all
 · rename_i h1
   cases ho:ky s with
   | none=>simp [h1,ho] at h
   | some l=>
     obtain ⟨h2,h3⟩:=Jb _ s l (Nat.le_refl _) ho;exact aeT h2 (show l.length<=4096 by omega)
end Go.Bw
end
section
namespace Go.Bw
open Go
inductive az where
 | mk (op n:Int) (mod nm:List UInt8) (args:List az)
inductive aR where
 | mk (op:Int) (mod nm:List UInt8) (args:List az) (body other:List aR)
def az.op:az->Int | .mk o _ _ _ _=>o
def az.n:az->Int | .mk _ n _ _ _=>n
def az.mod:az->List UInt8 | .mk _ _ m _ _=>m
def az.nm:az->List UInt8 | .mk _ _ _ s _=>s
def az.args:az->List az | .mk _ _ _ _ a=>a
def aR.op:aR->Int | .mk o _ _ _ _ _=>o
def aR.mod:aR->List UInt8 | .mk _ m _ _ _ _=>m
def aR.nm:aR->List UInt8 | .mk _ _ s _ _ _=>s
def aR.args:aR->List az | .mk _ _ _ a _ _=>a
def aR.body:aR->List aR | .mk _ _ _ _ b _=>b
def aR.other:aR->List aR | .mk _ _ _ _ _ o=>o
structure bS where
 kind:Int
 nm:List UInt8
 aT:Bool
 n:Int
deriving DecidableEq
structure dO where
 nm:List UInt8
 aT:Bool
 params:List (List UInt8)
 ax:List (List UInt8)
 body:List aR
structure bf where
 nm:List UInt8
 ae:List (List UInt8)
 decls:List bS
 procs:List dO
 main:List aR
structure aC where
 f:Nat
 m:Nat
 k:Nat
deriving DecidableEq
instance:Add aC:=⟨λa b=>⟨a.f+b.f,a.m+b.m,a.k+b.k⟩⟩
def aC.bl (c:aC):Nat:=c.f+c.m+c.k
def c0:aC:=⟨0,0,0⟩
theorem aC.zl (a b:aC):(a+b).f=a.f+b.f:=rfl
theorem aC.zm (a b:aC):(a+b).m=a.m+b.m:=rfl
theorem aC.zo (a b:aC):(a+b).k=a.k+b.k:=rfl
theorem aC.ext' {a b:aC} (h1:a.f=b.f) (h2:a.m=b.m) (h3:a.k=b.k):a=b:=by
 cases a; cases b; simp_all
theorem aC.gC (a b c:aC):a+b+c=a+(b+c):=aC.ext' (Nat.add_assoc _ _ _) (Nat.add_assoc _ _ _) (Nat.add_assoc _ _ _)
theorem aC.cZ (a b:aC):(a+b).bl=a.bl+b.bl:=by
 simp only [aC.bl,aC.zl,aC.zm,aC.zo]; omega
def NY (b:Bool):Nat:=if b=true then 1 else 0
def cA (b:Bool):aC:=⟨NY b,0,0⟩
def bn (b:Bool):aC:=⟨0,NY b,0⟩
def cN (b:Bool):aC:=⟨0,0,NY b⟩
def xA:List (List UInt8):=[[109,111,100,117,108,101],[117,115,101],[112,117,98],[99,111,110,115,116],[118,97,114],[97,114,114,97,121],[112,114,111,99],[108,111,99,97,108],[109,97,105,110],[105,102],[101,108,115,101],[119,104,105,108,101],[114,101,116,117,114,110],[111,117,116],[105,110]]
def gN (s:List UInt8):Bool:=dG s&&!(xA.contains s)
def dH (op:Int):Option (Bool×Int):=if op=1\/op=2 then some (false,0) else if op=3 then some (true,0) else if op=4 then some (true,1) else if op=5 then some (true,-1) else if op=6 then some (false,1) else if 7<=op/\op<=15 then some (false,2) else none
def bG (op:Int):Option (Bool×Int):=if op=1 then some (true,1) else if op=2 then some (true,2) else if op=3 then some (true,-1) else if 4<=op/\op<=7 then some (false,1) else none
def p7 (r:Bool) (mod nm:List UInt8):Bool:=(r&&((!(mod==[])&&!gN mod)||!gN nm))||(!r&&!(mod++nm==[]))
def tC (a:Int) (len:Nat):Bool:=decide (0<=a)&&!((len:Int)==a)
def c8 (s:Bool×Int) (mod nm:List UInt8) (len:Nat):aC:=cA (p7 s.1 mod nm)+cA (tC s.2 len)+bn (decide (3<len))
def lJ (op n:Int):Bool:=((op==1)&&(decide (n<0)||decide (1099511627775<n)))||(!(op==1)&&!(n==0))
mutual
def ja:az->Nat->aC
 | .mk op n mod nm args,d=>if 6<d then ⟨0,1,0⟩ else cN (dH op).isNone+c8 ((dH op).getD (false,0)) mod nm args.length+cA (lJ op n)+cq args (d+1)
def cq:List az->Nat->aC
 | [],_=>c0
 | x::r,d=>ja x d+cq r d
end
def inner (op:Int):Bool:=(op==4)||(op==5)
def h_ (op:Int) (b o:Nat):Bool:=(!inner op&&decide (0<b))||(!(op==4)&&decide (0<o))
def rR (d len:Nat) (c:aC):aC:=if 6<d then ⟨0,1,0⟩ else bn (decide (10<len))+c
mutual
def vt:aR->Nat->aC
 | .mk op mod nm args body other,d=>cN (bG op).isNone+c8 ((bG op).getD (false,0)) mod nm args.length+cq args 1+cA (h_ op body.length other.length)
     + (if (inner op||decide (0<body.length))=true then rR (d+1) body.length (bU body (d+1)) else c0)+(if 0<other.length then rR (d+1) other.length (bU other (d+1)) else c0)
def bU:List aR->Nat->aC
 | [],_=>c0
 | x::r,d=>vt x d+bU r d
end
def dn (l:List aR) (d:Nat):aC:=rR d l.length (bU l d)
def aE:List (List UInt8)->aC
 | []=>c0
 | s::r=>cA (!gN s)+aE r
def ie (d:bS):aC:=aE [d.nm]+(if d.kind=1 then cA (decide (d.n<0)||decide (1099511627775<d.n)) else if d.kind=2 then cA (!(d.n==0)) else if d.kind=3 then cA (decide (d.n<1)||decide (32<d.n)) else cN true)
def db:List bS->aC
 | []=>c0
 | d::r=>ie d+db r
def rT (p:dO):aC:=aE [p.nm]+aE p.params+aE p.ax+bn (decide (3<p.params.length)||decide (4<p.ax.length))+dn p.body 1
def dI:List dO->aC
 | []=>c0
 | p::r=>rT p+dI r
def xB (m:bf):aC:=aE [m.nm]+aE m.ae+bn ((decide (3<m.ae.length)||decide (10<m.decls.length))||decide (6<m.procs.length))+db m.decls+dI m.procs+dn m.main 1
def vu (c:aC):Int:=if 0<c.k then 4 else if 0<c.m then 2 else if 0<c.f then 1 else 0
def jS (m:bf):Int:=vu (xB m)
def gD (n low high:Int):Bool:=decide (low<=n)&&decide (n<=high)
def aeU (op:Int):Int:=if op=1\/op=2\/op=3 then 0 else if op=4\/op=6 then 1 else if op=5 then -1 else 2
def U9 (op:Int):Int:=if op=2 then 2 else if op=3 then -1 else 1
end Go.Bw
end
section
namespace Go.Bw
open Go
def dJ (s:List UInt8):List Value:=[st s]
def rdStr (H:View) (b o:Nat) (s:List UInt8):Prop:=aP H b o (dJ s)
theorem lK (s:List UInt8):(dJ s).length=1:=rfl
theorem BX {H H':View} (h:aN H H') (b o:Nat) (x:List UInt8) (r:rdStr H b o x):rdStr H' b o x:=aP.mono h r
def bS.cells (d:bS):List Value:=[.int .i64 d.kind,st d.nm,.bool d.aT,.int .i64 d.n]
theorem bS.aX (d:bS):d.cells.length=4:=rfl
def zp (H:View) (b o:Nat) (d:bS):Prop:=aP H b o d.cells
theorem aeV {H H':View} (h:aN H H') (b o:Nat) (x:bS) (r:zp H b o x):zp H' b o x:=aP.mono h r
def zq (e:az) (a:Option Addr) (c:Nat):List Value:=[.int .i64 e.op,.int .i64 e.n,st e.mod,st e.nm,.slice a e.args.length c]
def eW:Nat->View->Nat->Nat->az->Prop
 | 0=>λ_ _ _ _=>False
 | k+1=>λH b o e=>∃a c,aP H b o (zq e a c)/\Sl (eW k) 5 H a c e.args
def zr (s:aR) (a:Option Addr) (c:Nat) (a2:Option Addr) (c2:Nat) (a3:Option Addr) (c3:Nat):List Value:=[.int .i64 s.op,st s.mod,st s.nm,.slice a s.args.length c,.slice a2 s.body.length c2,.slice a3 s.other.length c3]
def iz (ke:Nat):Nat->View->Nat->Nat->aR->Prop
 | 0=>λ_ _ _ _=>False
 | k+1=>λH b o s=>∃a c a2 c2 a3 c3,aP H b o (zr s a c a2 c2 a3 c3)/\Sl (eW ke) 5 H a c s.args/\Sl (iz ke k) 6 H a2 c2 s.body/\Sl (iz ke k) 6 H a3 c3 s.other
def NZ (p:dO) (a1:Option Addr) (c1:Nat) (a2:Option Addr) (c2:Nat) (a3:Option Addr) (c3:Nat):List Value:=[st p.nm,.bool p.aT,.slice a1 p.params.length c1,.slice a2 p.ax.length c2,.slice a3 p.body.length c3]
def Jc (ke ks:Nat) (H:View) (b o:Nat) (p:dO):Prop:=∃a1 c1 a2 c2 a3 c3,aP H b o (NZ p a1 c1 a2 c2 a3 c3)/\Sl rdStr 1 H a1 c1 p.params/\Sl rdStr 1 H a2 c2 p.ax/\Sl (iz ke ks) 6 H a3 c3 p.body
structure mc where
 a1:Option Addr
 c1:Nat
 a2:Option Addr
 c2:Nat
 a3:Option Addr
 c3:Nat
 a4:Option Addr
 c4:Nat
def gE (m:bf) (r:mc):List Value:=[st m.nm,.slice r.a1 m.ae.length r.c1,.slice r.a2 m.decls.length r.c2,.slice r.a3 m.procs.length r.c3,.slice r.a4 m.main.length r.c4]
structure n6 (ke ks:Nat) (H:View) (r:mc) (m:bf):Prop where
 ae:Sl rdStr 1 H r.a1 r.c1 m.ae
 decls:Sl zp 4 H r.a2 r.c2 m.decls
 procs:Sl (Jc ke ks) 5 H r.a3 r.c3 m.procs
 main:Sl (iz ke ks) 6 H r.a4 r.c4 m.main
theorem Sl.imp {α:Type} {rd U':View->Nat->Nat->α->Prop} {k:Nat} {H H':View} {a:Option Addr} {c:Nat} {l:List α} (hm:∀b o x,rd H b o x->U' H' b o x) (h:Sl rd k H a c l):Sl U' k H' a c l:=
 ⟨h.cap,h.max,h.spot,λi x hx=>by obtain ⟨b,o,h1,h2⟩:=h.aO i x hx; exact ⟨b,o,h1,hm _ _ _ h2⟩⟩
theorem BY {H H':View} (hH:aN H H'):∀{k k':Nat},k<=k'->∀(b o:Nat) (e:az),eW k H b o e->eW k' H' b o e
 | 0,_,_,_,_,_,h=>h.elim
 | k+1,0,hk,_,_,_,_=>absurd hk (by omega)
 | k+1,k'+1,hk,b,o,e,h=>by
   obtain ⟨a,c,h1,h2⟩:=h;exact ⟨a,c,aP.mono hH h1,h2.imp λb o x hx=>BY hH (by omega) b o x hx⟩
theorem EU {H H':View} (hH:aN H H') {ke nf:Nat} (rV:ke<=nf):∀{k k':Nat},k<=k'->∀(b o:Nat) (e:aR),iz ke k H b o e->iz nf k' H' b o e
 | 0,_,_,_,_,_,h=>h.elim
 | k+1,0,hk,_,_,_,_=>absurd hk (by omega)
 | k+1,k'+1,hk,b,o,e,h=>by
   obtain ⟨a,c,a2,c2,a3,c3,h1,h2,h3,h4⟩:=h;exact ⟨a,c,a2,c2,a3,c3,aP.mono hH h1,h2.imp λb o x hx=>BY hH rV b o x hx,h3.imp λb o x hx=>EU hH rV (by omega) b o x hx,h4.imp λb o x hx=>EU hH rV (by omega) b o x hx⟩
theorem aeW {H H':View} (hH:aN H H') {ke nf ks xC:Nat} (rV:ke<=nf) (N0:ks<=xC) (b o:Nat) (p:dO) (h:Jc ke ks H b o p):Jc nf xC H' b o p:=by
 obtain ⟨a1,c1,a2,c2,a3,c3,h1,h2,h3,h4⟩:=h;exact ⟨a1,c1,a2,c2,a3,c3,aP.mono hH h1,h2.imp λb o x hx=>BX hH b o x hx,h3.imp λb o x hx=>BX hH b o x hx,h4.imp λb o x hx=>EU hH rV N0 b o x hx⟩
mutual
def wE:az->Nat
 | .mk _ _ mod nm args=>1+mod.length+nm.length+dT args
def dT:List az->Nat
 | []=>0
 | x::r=>wE x+dT r
end
mutual
def wS:aR->Nat
 | .mk _ mod nm args body other=>1+mod.length+nm.length+dT args+de body+de other
def de:List aR->Nat
 | []=>0
 | x::r=>wS x+de r
end
def wN:List (List UInt8)->Nat
 | []=>0
 | s::r=>1+s.length+wN r
def wD:List bS->Nat
 | []=>0
 | d::r=>1+d.nm.length+wD r
def wP:List dO->Nat
 | []=>0
 | p::r=>1+p.nm.length+wN p.params+wN p.ax+de p.body+wP r
def wM (m:bf):Nat:=1+m.nm.length+wN m.ae+wD m.decls+wP m.procs+de m.main
theorem aeX:∀x:az,1<=wE x | .mk _ _ _ _ _=>by unfold wE; omega
theorem aeY:∀x:aR,1<=wS x | .mk _ _ _ _ _ _=>by unfold wS; omega
theorem U_ (x:az):wE x=1+x.mod.length+x.nm.length+dT x.args:=by cases x; rfl
theorem Va (x:aR):wS x=1+x.mod.length+x.nm.length+dT x.args+de x.body+de x.other:=by cases x; rfl
theorem Vb {i:Nat} {x:az}:∀{l:List az},l[i]? = some x->wE x<=dT l
 | [],h=>by simp at h
 | y::r,h=>by
   unfold dT
   cases i with
   | zero=>simp at h; subst h; omega
   | succ i=>have:=Vb (i:=i) (l:=r) (by simpa using h); omega
theorem Vc {i:Nat} {x:aR}:∀{l:List aR},l[i]? = some x->wS x<=de l
 | [],h=>by simp at h
 | y::r,h=>by
   unfold de
   cases i with
   | zero=>simp at h; subst h; omega
   | succ i=>have:=Vc (i:=i) (l:=r) (by simpa using h); omega
theorem Vd:∀l:List az,l.length<=dT l
 | []=>Nat.le_refl _
 | x::r=>by have:=Vd r; have:=aeX x; unfold dT; simp; omega
theorem Ve:∀l:List aR,l.length<=de l
 | []=>Nat.le_refl _
 | x::r=>by have:=Ve r; have:=aeY x; unfold de; simp; omega
theorem EV:∀l:List (List UInt8),l.length<=wN l
 | []=>Nat.le_refl _
 | x::r=>by have:=EV r; unfold wN; simp; omega
theorem me (b:Bool):(cA b).bl<=1:=by cases b<;>decide
theorem BZ (b:Bool):(bn b).bl<=1:=by cases b<;>decide
theorem EW (b:Bool):(cN b).bl<=1:=by cases b<;>decide
theorem Jd (s:Bool×Int) (mod nm:List UInt8) (len:Nat):(c8 s mod nm len).bl<=3:=by
 unfold c8;rw [aC.cZ,aC.cZ];have:=me (p7 s.1 mod nm); have:=me (tC s.2 len); have:=BZ (decide (3<len));omega
theorem Vf:c0.bl=0:=rfl
mutual
theorem aeZ:∀(x:az) (d:Nat),(ja x d).bl<=8*wE x
 | .mk op n mod nm args,d=>by
   unfold ja wE
   split
   · show 0+1+0<=_
     omega
   · rw [aC.cZ,aC.cZ,aC.cZ]
     have:=B0 args (d+1); have:=EW (dH op).isNone; have:=Jd ((dH op).getD (false,0)) mod nm args.length; have:=me (lJ op n);omega
theorem B0:∀(l:List az) (d:Nat),(cq l d).bl<=8*dT l
 | [],_=>Nat.le_refl _
 | x::r,d=>by
   have:=aeZ x d; have:=B0 r d;unfold cq dT;rw [aC.cZ];omega
end
theorem N1 (d len:Nat) (c:aC):(rR d len c).bl<=1+c.bl:=by
 unfold rR
 split
 · show 0+1+0<=_
   omega
 · rw [aC.cZ]
   have:=BZ (decide (10<len));omega
theorem Vh (b:Prop) [Decidable b] (c:aC):(if b then c else c0).bl<=c.bl:=by
 split
 · exact Nat.le_refl _
 · exact Nat.zero_le _
mutual
theorem ae0:∀(x:aR) (d:Nat),(vt x d).bl<=8*wS x
 | .mk op mod nm args body other,d=>by
   unfold vt wS;rw [aC.cZ,aC.cZ,aC.cZ,aC.cZ,aC.cZ];have h1:=B0 args 1; have h2:=EW (bG op).isNone; have h3:=Jd ((bG op).getD (false,0)) mod nm args.length; have h4:=me (h_ op body.length other.length);have h5:=Vh ((inner op||decide (0<body.length))=true) (rR (d+1) body.length (bU body (d+1)));have h6:=Vh (0<other.length) (rR (d+1) other.length (bU other (d+1)));have h7:=N1 (d+1) body.length (bU body (d+1)); have h8:=N1 (d+1) other.length (bU other (d+1));have h9:=EX body (d+1); have eX:=EX other (d+1);omega
theorem EX:∀(l:List aR) (d:Nat),(bU l d).bl<=8*de l
 | [],_=>Nat.le_refl _
 | x::r,d=>by
   have:=ae0 x d; have:=EX r d;unfold bU de;rw [aC.cZ];omega
end
theorem B1:∀l:List (List UInt8),(aE l).bl<=wN l
 | []=>Nat.le_refl _
 | s::r=>by
   have:=B1 r; have:=me (!gN s);unfold aE wN;rw [aC.cZ];omega
theorem ae1 (d:bS):(ie d).bl<=2:=by
 unfold ie aE aE;rw [aC.cZ,aC.cZ,Vf];have:=me (!gN d.nm)
 split
 · have:=me (decide (d.n<0)||decide (1099511627775<d.n)); omega
 · split
   · have:=me (!(d.n==0)); omega
   · split
     · have:=me (decide (d.n<1)||decide (32<d.n)); omega
     · have:=EW true; omega
theorem N2:∀l:List bS,(db l).bl<=8*wD l
 | []=>Nat.le_refl _
 | d::r=>by
   have:=N2 r; have:=ae1 d;unfold db wD;rw [aC.cZ];omega
theorem N3 (l:List aR) (d:Nat):(dn l d).bl<=1+8*de l:=by
 unfold dn;have:=N1 d l.length (bU l d); have:=EX l d;omega
theorem N4 (s:List UInt8):(aE [s]).bl<=1:=by
 unfold aE aE;rw [aC.cZ,Vf];have:=me (!gN s);omega
theorem ae2 (p:dO):(rT p).bl<=3+wN p.params+wN p.ax+8*de p.body:=by
 unfold rT;rw [aC.cZ,aC.cZ,aC.cZ,aC.cZ];have:=N4 p.nm; have:=B1 p.params; have:=B1 p.ax; have:=BZ (decide (3<p.params.length)||decide (4<p.ax.length)); have:=N3 p.body 1;omega
theorem Je:∀l:List dO,(dI l).bl<=8*wP l
 | []=>Nat.le_refl _
 | p::r=>by
   have:=Je r; have:=ae2 p;unfold dI wP;rw [aC.cZ];omega
theorem N5 {α:Type} {rd:View->Nat->Nat->α->Prop} {f:α->List Value} {k:Nat} {H:View} {b m:Nat} {T:TypeId} {fz:Nat×Nat} {xs:List α} (hH:H b=some (.cells (xs.flatMap f).toArray T fz)) (hf:∀x,(f x).length=k) (ed:∀H b o x,aP H b o (f x)->rd H b o x) (hn:xs.length<=m) (hm:m<=9223372036854775807):Sl rd k H (some ⟨b,0,none⟩) m xs:=by
 refine ⟨hn,hm,by simp,λi x hx=>⟨b,0,O,ed _ _ _ _ λj v hv=>?_⟩⟩
 have hj:j<k:=by rw [<-hf x]; exact (List.getElem?_eq_some_iff.1 hv).1
 have h1:vc H b (0+i*k+j)=g_ (.cells (xs.flatMap f).toArray T fz) (0+i*k+j):=by unfold vc; rw [hH]; rfl
 rw [h1];simp only [g_,Nat.zero_add];rw [pY hf hx hj];exact hv
section
variable {P:Program} {ops:Array Oper} {Q:Exit->Act->World->Prop} {n:Nat} {ds:List Deferred} {l:List (Nat×Value)} {w0:World} {F:List Nat} {L:List ao} {Vs:List View} {rest:List Oper}
theorem gg {T:TypeId} {m b:Nat} {cur:Array Value} {fz:Nat×Nat} (i:Nat) (xs:List (List UInt8)) (hL:L[i]? = some (ab b (.cells cur T fz))) (hc:cur=(xs.flatMap dJ).toArray) (hn:xs.length<=m) (hm:m<=9223372036854775807)
   (h:∀H,Sl rdStr 1 H (some ⟨b,0,none⟩) m xs->WL P ops Q n ds l (Ws w0 F (dv i L) (H::Vs)) rest):WL P ops Q n ds l (Ws w0 F L Vs) rest:=by
 subst hc
 have hb:bv b (.cells (xs.flatMap dJ).toArray T fz) b=some (.cells (xs.flatMap dJ).toArray T fz):=by simp [bv]
 exact WL.IU i hL (h _ (N5 (f:=dJ) hb lK (λ_ _ _ _ h=>h) hn hm))
end
section
variable {P:Program} {l:List (Nat×Value)} {W:World->Prop} {d:Option Tmp} {ty:TypeId} {pos:String} {af:Array Edge} {g:Option (Nat×Bool)}
theorem Vi {t:TypeId} {parts:List (Nat×Operand)} {vs:List (Nat×Value)} {z:Value} {n s:Nat} {out:List Value} (hz:zeroOf P t=some z) (hp:zf P t=some (n,s))
   (hv:vh l parts=some vs) (hf:tp (λi=>some (i*s,s)) (dE z) vs=some out):Yl P l W ⟨d,.build t parts.toArray,ty,pos,af,g⟩ (.agg out.toArray):=by
 intro ρ w aD _
 have e1:((parts.toArray.map λ (i,x)=>(i,ρ x)):Array (Nat×Value)).toList=vs:=by simpa using IG aD parts vs hv
 unfold zf at hp
 cases hu:P.underlying t with
 | none=>simp [hu] at hp
 | some dd=>
   cases dd<;>simp [hu] at hp
   rename_i m e;obtain ⟨inf,hi,h2,h3⟩:=hp;subst h2 h3
   have e4:Instr.fill (λi=>some (i*inf.size,inf.size)) z.cells vs=some out.toArray:=by
     refine Ek _ vs z.cells out ?_;rw [xl]
     simpa using hf
   simp only [execOp,Instr.build,Sem.run_bind,yY hz,Result.andThen_ok,run_underlying hu,e1,e4,sizeOf,typeInfo,hi,Sem.run_pure];simp [hi,e4]
end
section
variable {P:Program} {ops:Array Oper} {Q:Exit->Act->World->Prop} {n:Nat} {ds:List Deferred} {l:List (Nat×Value)} {w0:World} {F:List Nat} {L:List ao} {Vs:List View}
 {rest:List Oper} {d:Nat} {ty:TypeId} {pos:String} {af:Array Edge} {g:Option (Nat×Bool)}
theorem iL {ι κ:Type} {f:FuncId} {args:Array Operand} {ts:Array TypeId} {vs:List Value} (L1 L2:List ao) (hg:cP ops l g) (hn:Nat.blt d n=true) (hf:Enters P f) (ha:iH l args.toList=some vs) (hL:L=L1++L2)
   (v:ι->Value) (eM:ι->List ao) (R:View->ι->Prop) (ch:κ->List PanicEntry) (Lp:κ->List ao) (Rp:κ->Prop) (bc:List View) (hV:∀H ∈ bc,H ∈ Vs)
   (Ng:∀i,∀k ∈ (eM i).flatMap ao.ids,k ∈ L1.flatMap ao.ids)
   (hC:∀w,Ws w (L1.flatMap ao.ids) L1 bc w->Calls P f vs.toArray w λe w'=>(∃i,e = .returned (v i)/\R (nv w w') i/\Ws w (L1.flatMap ao.ids) (eM i) bc w')\/(∃j,e = .panicked (ch j)/\Rp j/\Ws w (L1.flatMap ao.ids) (Lp j) bc w'))
   (hp:∀j,Rp j->WE Q (.panic (ch j)) n ds l (Ws w0 F (Lp j++L2) Vs))
   (hr:∀H i,eU w0 H->R H i->WL P ops Q n ds ((d,v i)::l) (Ws w0 F (eM i++L2) (H::Vs)) rest) :
   WL P ops Q n ds l (Ws w0 F L Vs) (⟨some d,.call ⟨.value (.func f),args,ts⟩,ty,pos,af,g⟩::rest):=by
 subst hL;refine WL.El (ι:=View×ι) hg hn hf ha (λi=>v i.2) (λi w'=>(eU w0 i.1/\R i.1 i.2)/\Ws w0 F (eM i.2++L2) (i.1::Vs) w') (λc w'=>∃j,c=ch j/\Rp j/\Ws w0 F (Lp j++L2) Vs w') (λw hw=>(hC w (hw.self.bB hV)).mono λe w' he=>?_) (λi=>?_) (λc=>?_)
 · rcases he with ⟨i,rfl,hR,h⟩ | ⟨j,rfl,hR,h⟩
   · have hb:=hw.back h
     refine .inl ⟨(nv w w',i),O,⟨(BB w w').mono hw.fr.size,hR⟩,hb.fr,hb.kn,hb.nd,hb.own,λH hH=>?_,λH hH A hA k hk=>?_⟩
     · rcases List.mem_cons.1 hH with rfl | hH
       · exact Nd w w'
       · exact hb.vs H hH
     · rcases List.mem_cons.1 hH with rfl | hH
       · have av:k<w.heap.size:=by
           rcases List.mem_append.1 hA with hA | hA
           · have ig:=Ng i k (List.mem_flatMap.2 ⟨A,hA,hk⟩)
             obtain ⟨B,hB,hkB⟩:=List.mem_flatMap.1 ig;exact B.BC w (hw.kn B (by simp [hB])) k hkB
           · exact A.BC w (hw.kn A (by simp [hA])) k hk
         exact BB w w' k av
       · exact hb.off H hH A hA k hk
   · exact .inr ⟨_,O,j,O,hR,hw.back h⟩
 · intro a w c_ dR
   exact hr i.1 i.2 dR.1.1 dR.1.2 a w c_ dR.2
 · rintro a w c_ ⟨j,rfl,hR,dR⟩
   exact hp j hR a w c_ dR
end
def rv (A:ao) (w:World):View:=λb=>if b ∈ A.ids then w.heap[b]? else none
section
variable {w0 w:World} {F:List Nat} {L:List ao} {Vs:List View} {A:ao}
theorem ae4 (A:ao) (w:World):Le (rv A w) w:=λb o h=>by
 unfold rv at h
 split at h
 · exact h
 · cases h
theorem Ws.EY (h:Ws w0 F L Vs w) (i:Nat) (hL:L[i]? = some A):Ws w0 F (dv i L) (rv A w::Vs) w:=by
 have h1:=h.perm (mR i L hL);have h2:Ws w0 F (dv i L) Vs w:=Ws.drop (L:=[A]) h1;refine ⟨h2.fr,h2.kn,h2.nd,h2.own,λH hH=>?_,λH hH B hB k hk=>?_⟩
 · rcases List.mem_cons.1 hH with rfl | hH
   · exact ae4 A w
   · exact h2.vs H hH
 · rcases List.mem_cons.1 hH with rfl | hH
   · have nd:=h1.nd
     rw [List.flatMap_cons,List.nodup_append] at nd;unfold rv;rw [if_neg];intro d_;exact nd.2.2 k d_ k (List.mem_flatMap.2 ⟨B,hB,hk⟩) O
   · exact h2.off H hH B hB k hk
theorem Jf {α:Type} {rd:View->Nat->Nat->α->Prop} {f:α->List Value} {k e c:Nat} {a:Option Addr} {xs:List α} (h:(bj e k f a c xs).holds w)
   (hf:∀x,(f x).length=k) (ed:∀H b o x,aP H b o (f x)->rd H b o x):Sl rd k (rv (bj e k f a c xs) w) a c xs:=by
 obtain ⟨h1,h2⟩:=(h:w.ownsRow 0 e k _ xs.length (xs.flatMap f))
 rcases h2 with ⟨h3,h4⟩ | ⟨b,cap,cur,h5,_,hb,mT,hc,hs,ht⟩
 · injection h3 with ha hl hc
   subst ha hc;have:xs=[]:=List.eq_nil_of_length_eq_zero (by omega);subst this;exact Sl.nil
 · injection h5 with ha hl mU
   subst ha mU;refine ⟨mT,by unfold maxLen at hc; omega,by simp,λi x hx=>⟨b,0,O,ed _ _ _ _ λj v hv=>?_⟩⟩
   have hj:j<k:=by have:=(List.getElem?_eq_some_iff.1 hv).1; rw [hf] at this; exact this
   have h6:(xs.flatMap f)[i*k+j]? = some v:=by rw [pY hf hx hj]; exact hv
   rw [<-ht,List.getElem?_take] at h6
   split at h6
   · have hr:rv (bj e k f (some ⟨b,0,none⟩) c xs) w b=some (.cells cur e (0,0)):=by
       unfold rv;rw [if_pos (by simp [dF,Value.ownBlock])];exact hb
     have h7:vc (rv (bj e k f (some ⟨b,0,none⟩) c xs) w) b (0+i*k+j)=g_ (.cells cur e (0,0)) (0+i*k+j):=by unfold vc; rw [hr]; rfl
     rw [h7]
     simpa [g_] using h6
   · cases h6
end
section
variable {P:Program} {ops:Array Oper} {cd:Code} {Q:Exit->Act->World->Prop} {n:Nat} {ds:List Deferred} {l:List (Nat×Value)} {w0:World} {F:List Nat} {L:List ao} {Vs:List View} {rest:List Oper}
theorem WC.p8 {α:Type} {rd:View->Nat->Nat->α->Prop} {f:α->List Value} {k e c:Nat} {a:Option Addr} {xs:List α} (i:Nat) (hL:L[i]? = some (bj e k f a c xs))
   (hf:∀x,(f x).length=k) (ed:∀H b o x,aP H b o (f x)->rd H b o x) (h:∀H,Sl rd k H a c xs->WC P cd Q n ds l (Ws w0 F (dv i L) (H::Vs))):WC P cd Q n ds l (Ws w0 F L Vs):=
 λac w ha hw=>h _ (Jf (hw.kn _ (dD hL)) hf ed) ac w ha (hw.EY i hL)
theorem eY {b:Nat} {ob:Obj} (i:Nat) (rG:Obj) (hL:L[i]? = some (ab b ob)) (he:ob=rG) (h:WC P cd Q n ds l (Ws w0 F (L.set i (ab b rG)) Vs)):WC P cd Q n ds l (Ws w0 F L Vs):=
 WC.p6 i hL (by rw [he]) h
theorem WL.p8 {α:Type} {rd:View->Nat->Nat->α->Prop} {f:α->List Value} {k e c:Nat} {a:Option Addr} {xs:List α} (i:Nat) (hL:L[i]? = some (bj e k f a c xs))
   (hf:∀x,(f x).length=k) (ed:∀H b o x,aP H b o (f x)->rd H b o x) (h:∀H,Sl rd k H a c xs->WL P ops Q n ds l (Ws w0 F (dv i L) (H::Vs)) rest):WL P ops Q n ds l (Ws w0 F L Vs) rest:=
 λac w ha hw=>h _ (Jf (hw.kn _ (dD hL)) hf ed) ac w ha (hw.EY i hL)
theorem WL.jT {α:Type} {rd:View->Nat->Nat->α->Prop} {f:α->List Value} {k T b m:Nat} {fz:Nat×Nat} {cur:Array Value} (i:Nat) (xs:List α) (hL:L[i]? = some (ab b (.cells cur T fz))) (hc:cur=(xs.flatMap f).toArray)
   (hf:∀x,(f x).length=k) (ed:∀H b o x,aP H b o (f x)->rd H b o x) (hn:xs.length<=m) (hm:m<=9223372036854775807)
   (h:∀H,Sl rd k H (some ⟨b,0,none⟩) m xs->WL P ops Q n ds l (Ws w0 F (dv i L) (H::Vs)) rest):WL P ops Q n ds l (Ws w0 F L Vs) rest:=by
 subst hc
 have hb:bv b (.cells (xs.flatMap f).toArray T fz) b=some (.cells (xs.flatMap f).toArray T fz):=by simp [bv]
 exact WL.IU i hL (h _ (N5 (f:=f) hb hf ed hn hm))
end
def Jg (P:Program) (t:TypeId) (f:Nat):Option Nat:=match P.underlying t with
 | some (.struct fs)=>match fs[f]? with
   | some x=>if dV P x.type=true then some x.offset else none
   | none=>none
 | _=>none
section
variable {P:Program} {l:List (Nat×Value)} {W:World->Prop} {d:Option Tmp} {ty:TypeId} {pos:String} {af:Array Edge} {g:Option (Nat×Bool)}
theorem Vj {t:TypeId} {x:Operand} {f k:Nat} {cs:Array Value} {v:Value} (hf:Jg P t f=some k) (hx:aB l x=some (.agg cs)) (hv:cs[k]? = some v):Yl P l W ⟨d,.field t x f,ty,pos,af,g⟩ v:=by
 intro ρ w aD _;unfold Jg at hf
 cases hu:P.underlying t with
 | none=>simp [hu] at hf
 | some dd=>
   cases dd<;>simp [hu] at hf
   rename_i fs
   cases cH:fs[f]? with
   | none=>simp [cH] at hf
   | some fd=>
     simp [cH] at hf;obtain ⟨h1,rfl⟩:=hf;have ha:=IB h1 w
     have hp:(part fd.type cs fd.offset).run P w = .ok v w:=by simp [part,ha,hv]
     simp [execOp,aD x _ hx,Instr.field,run_underlying hu,cH,asAgg,hp]
end
abbrev v0:View:=λ_=>none
theorem xD (w:World):eU w v0:=λ_ _=>rfl
def vj (A B:View):View:=λb=>match A b with | some o=>some o | none=>B b
theorem Vk (A B:View):aN A (vj A B):=λb o h=>by simp [vj,h]
theorem Vl {A B:View} {w:World} (ha:Le A w) (hb:Le B w):aN B (vj A B):=λb o h=>by
 cases hA:A b with
 | none=>simp [vj,hA,h]
 | some o'=>
   have h1:=ha b o' hA;have h2:=hb b o h;rw [h1] at h2
   injection h2 with h2
   subst h2;simp [vj,hA]
theorem ae5 {A B:View} {w:World} (ha:Le A w) (hb:Le B w):Le (vj A B) w:=λb o h=>by
 unfold vj at h
 split at h
 · rename_i o' hA; injection h with h; subst h; exact ha b _ hA
 · exact hb b o h
theorem Vm {A B:View} {w:World} (ha:eU w A) (hb:eU w B):eU w (vj A B):=λb h=>by simp [vj,ha b h,hb b h]
section
variable {w0 w:World} {F:List Nat} {L:List ao} {Vs:List View} {A:ao}
theorem Ws.v0 (h:Ws w0 F L Vs w):Ws w0 F L (v0::Vs) w:=
 ⟨h.fr,h.kn,h.nd,h.own,λH hH=>by
   rcases List.mem_cons.1 hH with rfl | hH
   · intro b o hb; cases hb
   · exact h.vs H hH,λH hH=>by
   rcases List.mem_cons.1 hH with rfl | hH
   · intro _ _ _ _; rfl
   · exact h.off H hH⟩
theorem Ws.n8 {H1 H2:View} (h:Ws w0 F L (H1::H2::Vs) w):Ws w0 F L (vj H1 H2::Vs) w:=
 ⟨h.fr,h.kn,h.nd,h.own,λH hH=>by
   rcases List.mem_cons.1 hH with rfl | hH
   · exact ae5 (h.vs H1 (by simp)) (h.vs H2 (by simp))
   · exact h.vs H (by simp [hH]),λH hH A hA k hk=>by
   rcases List.mem_cons.1 hH with rfl | hH
   · simp [vj,h.off H1 (by simp) A hA k hk,h.off H2 (by simp) A hA k hk]
   · exact h.off H (by simp [hH]) A hA k hk⟩
theorem Ws.ae6 (h:Ws w0 F (A::L) Vs w) (hF:∀k ∈ F,k ∈ L.flatMap ao.ids):∀k ∈ A.ids,w0.heap.size<=k:=by
 intro k hk
 rcases h.own A (by simp) k hk with h1 | h1
 · have nd:=h.nd
   rw [List.flatMap_cons,List.nodup_append] at nd;exact absurd O (nd.2.2 k hk k (hF k h1))
 · exact h1
theorem N6 (h:Ws w0 F (A::L) Vs w) (hF:∀k ∈ F,k ∈ L.flatMap ao.ids):eU w0 (rv A w):=λb hb=>by
 unfold rv;rw [if_neg];intro hk;have:=h.ae6 hF b hk;omega
theorem bJ {H:View} (h:Ws w0 F L Vs w) (hm:H ∈ Vs) (hf:eU w0 H):aN H (nv w0 w):=adr (h.vs H hm) hf
end
section
variable {P:Program} {ops:Array Oper} {cd:Code} {Q:Exit->Act->World->Prop} {n:Nat} {ds:List Deferred} {l:List (Nat×Value)} {w0:World} {F:List Nat} {L:List ao} {Vs:List View} {rest:List Oper}
theorem WL.v0 (h:WL P ops Q n ds l (Ws w0 F L (v0::Vs)) rest):WL P ops Q n ds l (Ws w0 F L Vs) rest:=LW (λ_ hw=>hw.v0) h
theorem WL.n8 {H1 H2:View} (h:∀H,aN H1 H->aN H2 H->(∀u,eU u H1->eU u H2->eU u H)->WL P ops Q n ds l (Ws w0 F L (H::Vs)) rest):WL P ops Q n ds l (Ws w0 F L (H1::H2::Vs)) rest:=
 λa w ha hw=>h (vj H1 H2) (Vk H1 H2) (Vl (hw.vs H1 (by simp)) (hw.vs H2 (by simp))) (λu h1 h2=>Vm h1 h2) a w ha hw.n8
theorem WC.n8 {H1 H2:View} (h:∀H,aN H1 H->aN H2 H->(∀u,eU u H1->eU u H2->eU u H)->WC P cd Q n ds l (Ws w0 F L (H::Vs))):WC P cd Q n ds l (Ws w0 F L (H1::H2::Vs)):=
 λa w ha hw=>h (vj H1 H2) (Vk H1 H2) (Vl (hw.vs H1 (by simp)) (hw.vs H2 (by simp))) (λu h1 h2=>Vm h1 h2) a w ha hw.n8
theorem WL.p_ {α:Type} {rd:View->Nat->Nat->α->Prop} {f:α->List Value} {k e c:Nat} {a:Option Addr} {xs:List α} (i:Nat) (hL:L[i]? = some (bj e k f a c xs)) (hF:∀k ∈ F,k ∈ (dv i L).flatMap ao.ids)
   (hf:∀x,(f x).length=k) (ed:∀H b o x,aP H b o (f x)->rd H b o x) (h:∀H,eU w0 H->Sl rd k H a c xs->WL P ops Q n ds l (Ws w0 F (dv i L) (H::Vs)) rest):WL P ops Q n ds l (Ws w0 F L Vs) rest:=
 λac w ha hw=>h _ (N6 (hw.perm (mR i L hL)) hF) (Jf (hw.kn _ (dD hL)) hf ed) ac w ha (hw.EY i hL)
theorem WC.p_ {α:Type} {rd:View->Nat->Nat->α->Prop} {f:α->List Value} {k e c:Nat} {a:Option Addr} {xs:List α} (i:Nat) (hL:L[i]? = some (bj e k f a c xs)) (hF:∀k ∈ F,k ∈ (dv i L).flatMap ao.ids)
   (hf:∀x,(f x).length=k) (ed:∀H b o x,aP H b o (f x)->rd H b o x) (h:∀H,eU w0 H->Sl rd k H a c xs->WC P cd Q n ds l (Ws w0 F (dv i L) (H::Vs))):WC P cd Q n ds l (Ws w0 F L Vs):=
 λac w ha hw=>h _ (N6 (hw.perm (mR i L hL)) hF) (Jf (hw.kn _ (dD hL)) hf ed) ac w ha (hw.EY i hL)
theorem LN {α:Type} {rd:View->Nat->Nat->α->Prop} {f:α->List Value} {k T b m:Nat} {fz:Nat×Nat} {cur:Array Value} (i:Nat) (xs:List α) (hL:L[i]? = some (ab b (.cells cur T fz))) (hc:cur=(xs.flatMap f).toArray) (hF:∀k ∈ F,k ∈ (dv i L).flatMap ao.ids)
   (hf:∀x,(f x).length=k) (ed:∀H b o x,aP H b o (f x)->rd H b o x) (hn:xs.length<=m) (hm:m<=9223372036854775807)
   (h:∀H,eU w0 H->Sl rd k H (some ⟨b,0,none⟩) m xs->WL P ops Q n ds l (Ws w0 F (dv i L) (H::Vs)) rest):WL P ops Q n ds l (Ws w0 F L Vs) rest:=by
 subst hc;intro ac w ha hw;have hb:w.heap[b]? = some (.cells (xs.flatMap f).toArray T fz):=hw.kn _ (dD hL)
 have hr:rv (ab b (.cells (xs.flatMap f).toArray T fz)) w b=some (.cells (xs.flatMap f).toArray T fz):=by
   unfold rv;rw [if_pos (by simp [ab])];exact hb
 exact h _ (N6 (hw.perm (mR i L hL)) hF) (N5 (f:=f) hr hf ed hn hm) ac w ha (hw.EY i hL)
end
section
variable {κ:Type} [BEq κ] [LawfulBEq κ] {kd:TypeDesc} {kv:κ->Value}
variable {P:Program} {l:List (Nat×Value)} {w0:World} {F:List Nat} {L:List ao} {Vs:List View} {ty:TypeId} {pos:String} {af:Array Edge} {g:Option (Nat×Bool)}
theorem Vn {dd:Option Tmp} {t kt e:TypeId} {x y:Operand} {b c:Nat} {m:List (di κ)} {k:κ} {z:Value} (i:Nat) {H:View} (hH:Vs[i]? = some H) (fm:rQ kd kv) (ht:P.underlying t=some (.map kt e)) (hk:P.underlying kt=some kd) (hz:zeroOf P e=some z) (hx:aB l x=some (.map (some b))) (hy:aB l y=some (kv k)) (hb:H b=some (bz kv m c)) :
   Yl P l (Ws w0 F L Vs) ⟨dd,.lookup t x y false,ty,pos,af,g⟩ (eu k m z):=by
 intro ρ w aD hw;simp [execOp,aD x _ hx,aD y _ hy,I9 (P:=P) (k:=k) false fm ht hk hz (hw.vs H (dD hH) b _ hb:w.heap[b]? = some (bz kv m c))]
theorem Vo {dd:Option Tmp} {t kt e:TypeId} {x y:Operand} {b c:Nat} {m:List (di κ)} {k:κ} {z:Value} (i:Nat) {H:View} (hH:Vs[i]? = some H) (fm:rQ kd kv) (ht:P.underlying t=some (.map kt e)) (hk:P.underlying kt=some kd) (hz:zeroOf P e=some z) (hx:aB l x=some (.map (some b))) (hy:aB l y=some (kv k)) (hb:H b=some (bz kv m c)) :
   Yl P l (Ws w0 F L Vs) ⟨dd,.lookup t x y true,ty,pos,af,g⟩ (.tuple #[eu k m z,.bool (o4 k m)]):=by
 intro ρ w aD hw;simp [execOp,aD x _ hx,aD y _ hy,I9 (P:=P) (k:=k) true fm ht hk hz (hw.vs H (dD hH) b _ hb:w.heap[b]? = some (bz kv m c))]
end
theorem Ws.nvb {w0 w:World} {L:List ao} {Vs:List View} (h:Ws w0 [] L Vs w) (i:Nat) {b:Nat} {ob:Obj} (hL:L[i]? = some (ab b ob)):nv w0 w b=some ob:=by
 have hb:w.heap[b]? = some ob:=h.kn _ (dD hL)
 have hn:w0.heap.size<=b:=by
   rcases h.own _ (dD hL) b (by simp [ab]) with h' | h'
   · cases h'
   · exact h'
 unfold nv;rw [if_pos hn];exact hb
section
variable {Q:Exit->Act->World->Prop} {n:Nat} {ds:List Deferred} {l:List (Nat×Value)} {w0:World} {F:List Nat} {L:List ao} {Vs:List View}
theorem WE.n9 {e:Exit} {b:Nat} {ob:Obj} (i:Nat) (rG:Obj) (hL:L[i]? = some (ab b ob)) (he:ob=rG) (h:WE Q e n ds l (Ws w0 F (L.set i (ab b rG)) Vs)):WE Q e n ds l (Ws w0 F L Vs):=by
 subst he
 have:L.set i (ab b ob)=L:=by
   obtain ⟨hi,he⟩:=List.getElem?_eq_some_iff.1 hL;rw [<-he];exact List.set_getElem_self hi
 rwa [this] at h
end
theorem Ws.n_ {w0 w:World} {F:List Nat} {L:List ao} {Vs:List View} (h:Ws w0 F L Vs w) (i:Nat) {b:Nat} {ob:Obj} (hL:L[i]? = some (ab b ob)):hv w b=some ob:=h.kn _ (dD hL)
theorem xE {H:View} {b k:Nat} {ob:Obj} {v:Value} (h:H b=some ob) (hc:g_ ob k=some v):vc H b k=some v:=by
 unfold vc;rw [h];exact hc
section
variable {P:Program} {ops:Array Oper} {Q:Exit->Act->World->Prop} {n:Nat} {ds:List Deferred} {l:List (Nat×Value)} {w0:World} {F:List Nat} {L:List ao} {Vs:List View} {rest:List Oper} {d:Nat} {ty:TypeId} {pos:String} {af:Array Edge} {g:Option (Nat×Bool)}
theorem WL.mf {ι κ:Type} {f:FuncId} {args:Array Operand} {ts:Array TypeId} {vs:List Value} (hg:cP ops l g) (hn:Nat.blt d n=true) (hf:Enters P f) (ha:iH l args.toList=some vs)
   (v:ι->Value) (R:ι->Prop) (ch:κ->List PanicEntry) (Rp:κ->Prop)
   (hC:∀w,Ws w0 F L Vs w->Calls P f vs.toArray w λe w'=>(∃i,e = .returned (v i)/\Ext w w'/\R i)\/(∃j,e = .panicked (ch j)/\Ext w w'/\Rp j))
   (hp:∀j,Rp j->WE Q (.panic (ch j)) n ds l (Ws w0 F L Vs))
   (hr:∀i,R i->WL P ops Q n ds ((d,v i)::l) (Ws w0 F L Vs) rest) :
   WL P ops Q n ds l (Ws w0 F L Vs) (⟨some d,.call ⟨.value (.func f),args,ts⟩,ty,pos,af,g⟩::rest):=
 WL.El hg hn hf ha v (λi w'=>R i/\Ws w0 F L Vs w') (λc w'=>∃j,c=ch j/\Rp j/\Ws w0 F L Vs w') (λw hw=>(hC w hw).mono λe w' h=>by
   rcases h with ⟨i,h1,h2,h3⟩ | ⟨j,h1,h2,h3⟩
   · exact .inl ⟨i,h1,h3,hw.ext h2⟩
   · exact .inr ⟨_,h1,j,O,h3,hw.ext h2⟩) (λi a w ha hw=>hr i hw.1 a w ha hw.2) (λc a w ha hw=>by
   obtain ⟨j,rfl,h1,h2⟩:=hw
   exact hp j h1 a w ha h2)
theorem WL.xF {ι κ:Type} {f:FuncId} {args:Array Operand} {ts:Array TypeId} {vs:List Value} (hg:cP ops l g) (hn:Nat.blt d n=true) (hf:Enters P f) (ha:iH l args.toList=some vs)
   (v:ι->Value) (R:View->ι->Prop) (ch:κ->List PanicEntry) (Rp:κ->Prop)
   (hC:∀w,Ws w0 F L Vs w->Calls P f vs.toArray w λe w'=>(∃i,e = .returned (v i)/\Ext w w'/\R (nv w w') i)\/(∃j,e = .panicked (ch j)/\Ext w w'/\Rp j))
   (hp:∀j,Rp j->WE Q (.panic (ch j)) n ds l (Ws w0 F L Vs))
   (hr:∀H i,eU w0 H->R H i->WL P ops Q n ds ((d,v i)::l) (Ws w0 F L (H::Vs)) rest) :
   WL P ops Q n ds l (Ws w0 F L Vs) (⟨some d,.call ⟨.value (.func f),args,ts⟩,ty,pos,af,g⟩::rest):=
 WL.El (ι:=View×ι) hg hn hf ha (λi=>v i.2) (λi w'=>(eU w0 i.1/\R i.1 i.2)/\Ws w0 F L (i.1::Vs) w') (λc w'=>∃j,c=ch j/\Rp j/\Ws w0 F L Vs w') (λw hw=>(hC w hw).mono λe w' h=>by
   rcases h with ⟨i,h1,h2,h3⟩ | ⟨j,h1,h2,h3⟩
   · exact .inl ⟨(nv w w',i),h1,⟨(BB w w').mono hw.fr.size,h3⟩,hw.view h2 (Nd w w') (BB w w')⟩
   · exact .inr ⟨_,h1,j,O,h3,hw.ext h2⟩) (λi a w ha hw=>hr i.1 i.2 hw.1.1 hw.1.2 a w ha hw.2) (λc a w ha hw=>by
   obtain ⟨j,rfl,h1,h2⟩:=hw
   exact hp j h1 a w ha h2)
end
section
variable {P:Program} {l:List (Nat×Value)} {W:World->Prop} {ty:TypeId} {pos:String} {af:Array Edge} {g:Option (Nat×Bool)}
theorem ae8 {dd:Option Tmp} {x:Operand} {s xt:TypeId} {v:Value} {fs:Array Field} (hu:P.underlying s=some (.struct fs)) (hx:aB l x=some (.iface s v)):Yl P l W ⟨dd,.typeAssert x xt s true,ty,pos,af,g⟩ (.tuple #[v,.bool true]):=by
 intro ρ w aD _;simp [execOp,aD x _ hx,Instr.typeAssert,run_underlying hu]
theorem ae9 {dd:Option Tmp} {x:Operand} {s xt:TypeId} {z:Value} {fs:Array Field} (hu:P.underlying s=some (.struct fs)) (hz:zeroOf P s=some z) (hx:aB l x=some .nilIface):Yl P l W ⟨dd,.typeAssert x xt s true,ty,pos,af,g⟩ (.tuple #[z,.bool false]):=by
 intro ρ w aD _;simp [execOp,aD x _ hx,Instr.typeAssert,run_underlying hu,yY hz]
end
def zt (b:Bool):List Value:=[.bool b]
def rdBool (H:View) (b o:Nat) (x:Bool):Prop:=aP H b o (zt x)
theorem ae' (b:Bool):(zt b).length=1:=rfl
end Go.Bw
end
