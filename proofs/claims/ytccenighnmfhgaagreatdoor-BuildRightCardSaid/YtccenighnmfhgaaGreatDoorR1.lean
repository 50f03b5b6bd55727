/- BuildRight: what Units tells is a right program, or needs too many numbers; what Build tells is a right image. -/
import Derived.Below
import Derived.Carry
import Derived.ChangeOld
import Derived.Deep.Quiet
import Derived.Deep.Slices
import Derived.Deep.Upon
import Derived.Defers
import Derived.JoinedCond
import Derived.LaidEql
import Derived.Laws.BytesString
import Derived.Laws.DeepStrings4
import Derived.Laws.Externs
import Derived.Laws.Pointers
import Derived.Laws.Slices
import Derived.Lib.AppendStr
import Derived.Lib.AppendZeros
import Derived.Lib.AtoiAllCases
import Derived.Lib.AtoiTie
import Derived.Lib.Builder
import Derived.Lib.Bytealg
import Derived.Lib.ConvBytes
import Derived.Lib.ItoaNum
import Derived.Lib.Join
import Derived.Lib.LaidTab
import Derived.Lib.SmallJoins
import Derived.Lib.UnsafeStr
import Derived.MapKept
import Derived.OpenShut
import Derived.ProofKit
import Derived.Recover
import Derived.Sort.Grow
import Derived.WalkKit
import Derived.WalkSpells
import Derived.WideMake
set_option linter.unusedVariables false
set_option linter.unusedSimpArgs false
namespace Go
theorem O {α : Sort _} {a : α} : a = a := rfl
theorem Y {α : Sort _} {a : α} {b : Prop} : a = a \/ b := .inl rfl
end Go
section
namespace Go.Bw
open Go Go.RowKit
def lk:List (Nat×Value)->Nat->Option Value
 | [],_=>none
 | (k,v)::r,n=>bif Nat.beq k n then some v else lk r n
structure Ag (n:Nat) (ds:List Deferred) (l:List (Nat×Value)) (a:Act):Prop where
 size:a.tmps.size=n
 defs:a.defers=ds
 aI:∀t v,lk l t=some v->a.tmps.getD t undef=v
def bk (l:List (Nat×Value)):Operand->Option Value
 | .tmp t=>lk l t
 | .const v=>some v
 | .global g=>some (.pointer (some ⟨g,0,none⟩))
 | .func f=>some (.func (.func f) #[] #[])
section
variable {n:Nat} {ds:List Deferred} {l:List (Nat×Value)} {a:Act}
theorem Ag.eval (h:Ag n ds l a) {x:Operand} {v:Value} (b:bk l x=some v):a.eval x=v:=by
 cases x with
 | tmp t=>exact h.aI t v b
 | const u=>simpa [bk,Act.eval] using b
 | global g=>simpa [bk,Act.eval] using b
 | func f=>simpa [bk,Act.eval] using b
theorem Ag.put (h:Ag n ds l a) {d:Nat} (c:Nat.blt d n=true) (v:Value):Ag n ds ((d,v)::l) (a.put (some d) v):=by
 have f:d<a.tmps.size:=by rw [h.size]; exact Nat.le_of_ble_eq_true c
 refine ⟨by simp [Act.put,h.size],h.defs,λt u b=>?_⟩;simp only [lk] at b
 by_cases e:d=t
 · subst e
   simp at b;subst b;simp [Act.put,Array.getD,f]
 · have:Nat.beq d t=false:=by
     cases g:Nat.beq d t with
     | false=>rfl
     | true=>exact absurd (Nat.eq_of_beq_eq_true g) e
   rw [this] at b;have:=h.aI t u b;simp only [Act.put,Array.getD_eq_getD_getElem?] at *;rw [Array.getElem?_setIfInBounds_ne e];exact this
theorem Ag.tG (h:Ag n ds l a) (v:Value):Ag n ds l (a.put none v):=h
theorem Ag.sub (h:Ag n ds l a) {b:List (Nat×Value)} (d:∀p ∈ b,lk l p.1=some p.2):Ag n ds b a:=by
 refine ⟨h.size,h.defs,λt v hv=>?_⟩
 suffices hm:(t,v) ∈ b from h.aI t v (d _ hm)
 induction b with
 | nil=>cases hv
 | cons p r e=>
   obtain ⟨k,u⟩:=p;simp only [lk] at hv
   cases c:Nat.beq k t with
   | true=>
     rw [c] at hv;have:=Nat.eq_of_beq_eq_true c;subst this;simp at hv;subst hv;exact List.mem_cons_self
   | false=>
     rw [c] at hv;exact List.mem_cons_of_mem _ (e (λp f=>d p (List.mem_cons_of_mem _ f)) hv)
end
section
variable {P:Program} {ops:Array Oper} {Q:Exit->Act->World->Prop} {n:Nat} {ds:List Deferred} {l:List (Nat×Value)} {W:World->Prop}
def WL (P:Program) (ops:Array Oper) (Q:Exit->Act->World->Prop) (n:Nat) (ds:List Deferred) (l:List (Nat×Value)) (W:World->Prop) (rest:List Oper):Prop:=
 ∀a w,Ag n ds l a->W w->wpList P ops Q rest a w
def WC (P:Program) (c:Code) (Q:Exit->Act->World->Prop) (n:Nat) (ds:List Deferred) (l:List (Nat×Value)) (W:World->Prop):Prop:=
 ∀a w,Ag n ds l a->W w->c.wp P Q a w
def WE (Q:Exit->Act->World->Prop) (e:Exit) (n:Nat) (ds:List Deferred) (l:List (Nat×Value)) (W:World->Prop):Prop:=
 ∀a w,Ag n ds l a->W w->Q e a w
def Yl (P:Program) (l:List (Nat×Value)) (W:World->Prop) (o:Oper) (v:Value):Prop:=
 ∀(a:Operand->Value) (w:World),(∀x u,bk l x=some u->a x=u)->W w->(execOp a o).run P w = .ok (.value v) w
theorem Ln (h:WE Q .normal n ds l W):WL P ops Q n ds l W []:=λa w b c=>h a w b c
def dq (ops:Array Oper) (l:List (Nat×Value)) (g:Option (Nat×Bool)):Prop:=
 g=none\/∃j b a,g=some (j,b)/\(ops[j]?).bind (·.dst)=some a/\lk l a=some (.bool b)
theorem dq.wanted {o:Oper} {a:Act} (h:dq ops l o.guard) (e:Ag n ds l a):Region.wanted o (yielded ops a.tmps)=true:=by
 rcases h with h | ⟨j,b,d,f,g,i⟩
 · simp [Region.wanted,h]
 · have hv:=e.aI d _ i
   rw [Array.getD_eq_getD_getElem?] at hv
   cases c:a.tmps[d]? with
   | none=>simp [c,undef] at hv
   | some u=>
     simp [c] at hv;subst hv;simp [Region.wanted,f,yielded,g,c]
theorem WL.step {rest:List Oper} {o:Oper} (d:dq ops l o.guard)
   (h:∀a w,Ag n ds l a->W w->∀b:Act->World->Prop,(∀a w,wpList P ops Q rest a w->b a w)->o.wp P a w b Q):WL P ops Q n ds l W (o::rest):=by
 intro a w c e;refine wpList_step λb f=>?_;rw [if_pos (d.wanted c)];exact h a w c e b f
theorem Lv {rest:List Oper} {d:Nat} {op:Op} {ty:TypeId} {pos:String} {af:Array Edge} {v:Value} {g:Option (Nat×Bool)} (e:dq ops l g) (f:Nat.blt d n=true)
   (i:Yl P l W ⟨some d,op,ty,pos,af,g⟩ v) (h:WL P ops Q n ds ((d,v)::l) W rest):WL P ops Q n ds l W (⟨some d,op,ty,pos,af,g⟩::rest):=by
 refine WL.step e λa w b c m j=>?_;have:=i a.eval w (λx u k=>b.eval k) c;simp only [Oper.wp,this,Oper.upon_value];exact j _ _ (h _ _ (b.put f v) c)
theorem I {rest:List Oper} {d:Nat} {op:Op} {ty:TypeId} {pos:String} {af:Array Edge} {v:Value} (a:Yl P l W ⟨some d,op,ty,pos,af,none⟩ v) (h:WL P ops Q n ds ((d,v)::l) W rest) (b:Nat.blt d n=true:=by rfl):WL P ops Q n ds l W (⟨some d,op,ty,pos,af,none⟩::rest):=Lv (.inl rfl) b a h
theorem Vg {rest:List Oper} {d:Nat} {op:Op} {ty:TypeId} {pos:String} {af:Array Edge} {v:Value} {g:Option (Nat×Bool)} (a:Yl P l W ⟨some d,op,ty,pos,af,g⟩ v) (h:WL P ops Q n ds ((d,v)::l) W rest) (b:dq ops l g:=by exact .inr ⟨_,_,_,rfl,rfl,rfl⟩) (c:Nat.blt d n=true:=by rfl):WL P ops Q n ds l W (⟨some d,op,ty,pos,af,g⟩::rest):=Lv b c a h
theorem dq.g {j:Nat} {b:Bool} {a:Nat} {g:Option (Nat×Bool)} (c:g=some (j,b)) (d:(ops[j]?).bind (·.dst)=some a) (e:lk l a=some (.bool b)):dq ops l g:=.inr ⟨j,b,a,c,d,e⟩
theorem WL.skip {rest:List Oper} {d:Nat} {op:Op} {ty:TypeId} {pos:String} {af:Array Edge} {j:Nat} {b:Bool} {f:Oper} {c:Nat} (i:Nat.blt d n=true)
   (k:ops[j]? = some f) (m:f.dst=some c) (o:Nat.blt c n=true) (p:lk l c=some (.bool (!b)))
   (h:WL P ops Q n ds ((d,undef)::l) W rest):WL P ops Q n ds l W (⟨some d,op,ty,pos,af,some (j,b)⟩::rest):=by
 intro a w e q;refine wpList_step λu r=>?_;have hv:a.tmps.getD c undef = .bool (!b):=e.aI c _ p
 have g:c<a.tmps.size:=by rw [e.size]; exact Nat.le_of_ble_eq_true o
 have s:a.tmps[c]? = some (.bool (!b)):=by
   rw [Array.getD_eq_getD_getElem?,Array.getElem?_eq_getElem g] at hv;rw [Array.getElem?_eq_getElem g]
   simpa using hv
 have t:yielded ops a.tmps j=some (!b):=by simp [yielded,k,m,s]
 rw [if_neg (by simp [Region.wanted,t])];exact r _ _ (h _ _ (e.put i undef) q)
theorem WL.sub {rest:List Oper} (b:List (Nat×Value)) (c:∀p ∈ b,lk l p.1=some p.2) (h:WL P ops Q n ds b W rest):WL P ops Q n ds l W rest:=
 λa w d e=>h a w (d.sub c) e
theorem WC.sub {c:Code} (b:List (Nat×Value)) (d:∀p ∈ b,lk l p.1=some p.2) (h:WC P c Q n ds b W):WC P c Q n ds l W:=
 λa w e f=>h a w (e.sub d) f
theorem WE.sub {e:Exit} (b:List (Nat×Value)) (c:∀p ∈ b,lk l p.1=some p.2) (h:WE Q e n ds b W):WE Q e n ds l W:=
 λa w d f=>h a w (d.sub c) f
theorem LW {rest:List Oper} {W':World->Prop} (b:∀w,W w->W' w) (h:WL P ops Q n ds l W' rest):WL P ops Q n ds l W rest:=
 λa w c d=>h a w c (b w d)
theorem pW {c:Code} {W':World->Prop} (b:∀w,W w->W' w) (h:WC P c Q n ds l W'):WC P c Q n ds l W:=
 λa w d e=>h a w d (b w e)
theorem WE.world {e:Exit} {W':World->Prop} (b:∀w,W w->W' w) (h:WE Q e n ds l W'):WE Q e n ds l W:=
 λa w c d=>h a w c (b w d)
theorem sn {l:List (Nat×Value)}:∀p ∈ ([]:List (Nat×Value)),lk l p.1=some p.2:=by simp
theorem sc {l r:List (Nat×Value)} {k:Nat} {v:Value} (h:lk l k=some v) (b:∀p ∈ r,lk l p.1=some p.2):∀p ∈ (k,v)::r,lk l p.1=some p.2:=by
 intro p a
 rcases List.mem_cons.1 a with rfl | a
 · exact h
 · exact b p a
theorem Cs {x y:Code} (h:WC P x (Exit.then (y.wp P Q) Q) n ds l W):WC P (.seq x y) Q n ds l W:=λa w b c=>wp_seq (h a w b c)
theorem Ck (h:WE Q .normal n ds l W):WC P .skip Q n ds l W:=λa w b c=>wp_skip (h a w b c)
theorem aX (h:WE Q .ret n ds l W):WC P .ret Q n ds l W:=λa w b c=>wp_ret (h a w b c)
theorem Ce {id:Nat} (h:WE Q (.exit id) n ds l W):WC P (.exit id) Q n ds l W:=λa w b c=>wp_exit (h a w b c)
theorem Cb {id:Nat} {c:Code} (h:WC P c (Exit.inBlock id Q) n ds l W):WC P (.block id c) Q n ds l W:=λa w b d=>wp_block (h a w b d)
theorem Cr {id:Nat} {o:List Oper} (h:WL P o.toArray Q n ds l W o):WC P (.region id o.toArray false) Q n ds l W:=λa w b c=>wp_region_lit (h a w b c)
theorem Cc {c:Operand} {x y:Code} {t:Bool} (e:bk l c=some (.bool t)) (f:t=true->WC P x Q n ds l W) (g:t=false->WC P y Q n ds l W):WC P (.cond c x y) Q n ds l W:=
 λa w b d=>wp_cond_split (b.eval e) (λh=>f h a w b d) (λh=>g h a w b d)
theorem WC.yv {c:Operand} {x y:Code} (d:bk l c=some (.bool true)) (h:WC P x Q n ds l W):WC P (.cond c x y) Q n ds l W:=
 λa w b e=>wp_cond_true (b.eval d) (h a w b e)
theorem WC.kc {c:Operand} {x y:Code} (d:bk l c=some (.bool false)) (h:WC P y Q n ds l W):WC P (.cond c x y) Q n ds l W:=
 λa w b e=>wp_cond_false (b.eval d) (h a w b e)
theorem Et {y:Code} {b:Exit->Act->World->Prop} (h:WC P y Q n ds l W):WE (Exit.then (y.wp P Q) b) .normal n ds l W:=λa w c d=>h a w c d
theorem Er {a:Act->World->Prop} (h:WE Q .ret n ds l W):WE (Exit.then a Q) .ret n ds l W:=h
theorem Ex {a:Act->World->Prop} {id:Nat} (h:WE Q (.exit id) n ds l W):WE (Exit.then a Q) (.exit id) n ds l W:=h
theorem ae {y:Code} {a:Exit->Act->World->Prop} (h:WC P y Q n ds l W):WL P ops (Exit.then (y.wp P Q) a) n ds l W []:=Ln (Et h)
theorem aa {id:Nat} {o:List Oper} {y:Code} (h:WL P o.toArray (Exit.then (y.wp P Q) Q) n ds l W o):WC P (.seq (.region id o.toArray false) y) Q n ds l W:=Cs (Cr h)
theorem bf {y:Code} {a:Exit->Act->World->Prop} (h:WC P y Q n ds l W):WC P .skip (Exit.then (y.wp P Q) a) n ds l W:=Ck (Et h)
theorem Eb {id:Nat} (h:WE Q .normal n ds l W):WE (Exit.inBlock id Q) .normal n ds l W:=h
theorem cj {id:Nat} (h:WE Q .ret n ds l W):WE (Exit.inBlock id Q) .ret n ds l W:=h
theorem cp {id:Nat} (h:WE Q .normal n ds l W):WE (Exit.inBlock id Q) (.exit id) n ds l W:=λa w b c=>by
 simp only [Exit.inBlock,if_true]; exact h a w b c
theorem tH {id b:Nat} (c:Nat.beq b id=false) (h:WE Q (.exit b) n ds l W):WE (Exit.inBlock id Q) (.exit b) n ds l W:=λa w d f=>by
 have:b≠id:=λe=>by subst e; rw [Nat.beq_refl] at c; cases c
 simp only [Exit.inBlock,if_neg this]; exact h a w d f
def qX:Nat->List Value->List (Nat×Value)
 | _,[]=>[]
 | i,v::r=>(i,v)::qX (i+1) r
theorem yw (vs:List Value):∀(i t:Nat) (v:Value),lk (qX i vs) t=some v->i<=t/\vs[t-i]? = some v:=by
 induction vs with
 | nil=>intro i t v h; cases h
 | cons x r b=>
   intro i t v h;simp only [qX,lk] at h
   cases a:Nat.beq i t with
   | true=>
     rw [a] at h;have:=Nat.eq_of_beq_eq_true a;subst this;simp at h;simp [h]
   | false=>
     rw [a] at h;obtain ⟨d,c⟩:=b (i+1) t v h;refine ⟨by omega,?_⟩
     have:t-i=(t-(i+1))+1:=by omega
     rw [this]
     simpa using c
theorem enter {f:FuncId} {fn:Func} {c:Code} {vs:List Value} {w:World} {R:Ending->World->Prop} (d:P.funcs[f]? = some fn) (e:fn.body=some c)
   (m:Nat) (g:fn.ntmps=m) (i:Nat.ble vs.length m=true) (h:WC P c (bodyPost P fn R) m [] (qX 0 vs) (λw'=>w'=w)):Calls P f vs.toArray w R:=by
 refine calls_of_wp d e (h _ _ ?_ O);have j:=Nat.le_of_ble_eq_true i;subst g;refine ⟨by simp; omega,O,λt v hv=>?_⟩;obtain ⟨_,a⟩:=yw vs 0 t v hv;simp only [Nat.sub_zero] at a
 have b:t<vs.length:=by
   rcases Nat.lt_or_ge t vs.length with h | h
   · exact h
   · simp [List.getElem?_eq_none h] at a
 simp [Array.getD_eq_getD_getElem?,Array.getElem?_append,b];simp [List.getElem?_eq_getElem b] at a;exact a
theorem WE.vK {fn:Func} {R:Ending->World->Prop} (b:fn.results = #[]) (h:∀w,W w->R (.returned (.tuple #[])) w):WE (bodyPost P fn R) .ret n [] l W:=
 λa w c d=>bodyPost_ret (results_none b _ _ _) c.defs (h w d)
theorem E0 {fn:Func} {R:Ending->World->Prop} (b:fn.results = #[]) (h:∀w,W w->R (.returned (.tuple #[])) w):WE (bodyPost P fn R) .normal n [] l W:=
 λa w c d=>bodyPost_end (results_none b _ _ _) c.defs (h w d)
theorem R1 {fn:Func} {R:Ending->World->Prop} {t:Nat} {v:Value} (c:fn.results = #[.tmp t]) (d:lk l t=some v) (h:∀w,W w->R (.returned v) w):WE (bodyPost P fn R) .ret n [] l W:=
 λa w b e=>bodyPost_ret (results_tmp c _ _ _) b.defs (by rw [b.aI t v d]; exact h w e)
theorem WE.gi {fn:Func} {R:Ending->World->Prop} {t u:Nat} {v x:Value} (c:fn.results = #[.tmp t,.tmp u]) (d:lk l t=some v) (e:lk l u=some x) (h:∀w,W w->R (.returned (.tuple #[v,x])) w):WE (bodyPost P fn R) .ret n [] l W:=
 λa w b f=>bodyPost_ret (results_tmp2 c _ _ _) b.defs (by rw [b.aI t v d,b.aI u x e]; exact h w f)
theorem Ka {fn:Func} {t u s:Tmp} (h:fn.results = #[.tmp t,.tmp u,.tmp s]) (tmps:Array Value) (P:Program) (w:World) :
   (results fn tmps).run P w = .ok (.tuple #[tmps.getD t undef,tmps.getD u undef,tmps.getD s undef]) w:=by
 simp [results,h]
theorem WE.pX {fn:Func} {R:Ending->World->Prop} {t u s:Nat} {v x y:Value} (c:fn.results = #[.tmp t,.tmp u,.tmp s]) (d:lk l t=some v) (e:lk l u=some x) (f:lk l s=some y) (h:∀w,W w->R (.returned (.tuple #[v,x,y])) w):WE (bodyPost P fn R) .ret n [] l W:=
 λa w b g=>bodyPost_ret (Ka c _ _ _) b.defs (by rw [b.aI t v d,b.aI u x e,b.aI s y f]; exact h w g)
theorem b6 {fn:Func} {R:Ending->World->Prop} {b:List PanicEntry} (h:∀w,W w->R (.panicked b) w):WE (bodyPost P fn R) (.panic b) n [] l W:=
 λa w c d=>⟨c.defs,h w d⟩
theorem Ep {b:Act->World->Prop} {a:List PanicEntry} (h:WE Q (.panic a) n ds l W):WE (Exit.then b Q) (.panic a) n ds l W:=h
theorem WE.ck {id:Nat} {a:List PanicEntry} (h:WE Q (.panic a) n ds l W):WE (Exit.inBlock id Q) (.panic a) n ds l W:=h
theorem Kb {p:Nat->Prop}:∀m,p m->∃k,p k/\∀j,p j->k<=j:=by
 intro m
 induction m using Nat.strongRecOn with
 | _ m b=>
   intro c
   by_cases h:∃j,j<m/\p j
   · obtain ⟨j,d,a⟩:=h
     exact b j d a
   · exact ⟨m,c,λj a=>Nat.le_of_not_lt λe=>h ⟨j,e,a⟩⟩
theorem wp_loop_ghost {ι:Type} {c:Code} {a:Act} {w:World} (b:ι->Act->World->Prop) (d:ι->Nat) (l:ι) (o:b l a w)
   (p:∀i a w,b i a w->c.wp P (Exit.then (λf w'=>∃j,d j<d i/\b j f w') Q) a w):(Code.loop c).wp P Q a w:=by
 classical
 let J:Act->World->Prop:=λa w=>∃i,b i a w
 have g:∀a w,J a w->∃k,(∃i,b i a w/\d i=k)/\∀j,(∃i,b i a w/\d i=j)->k<=j:=by
   rintro a w ⟨i,hi⟩
   exact Kb (d i) ⟨i,hi,O⟩
 let M:Act->World->Nat:=λa w=>if h:J a w then Classical.choose (g a w h) else 0
 have q:∀a w,J a w->∃i,b i a w/\d i=M a w:=by
   intro a w h;have:=(Classical.choose_spec (g a w h)).1;simp only [M,dif_pos h];exact this
 have r:∀a w i,b i a w->M a w<=d i:=by
   intro a w i hi;have h:J a w:=⟨i,hi⟩;simp only [M,dif_pos h];exact (Classical.choose_spec (g a w h)).2 _ ⟨i,hi,O⟩
 refine wp_loop J M ⟨l,o⟩ λa w s=>?_;obtain ⟨i,hi,t⟩:=q a w s;refine wp_mono (p i a w hi) λe f w' m=>?_
 cases e with
 | normal=>
   obtain ⟨j,u,n⟩:=m;exact ⟨⟨j,n⟩,by have:=r f w' j n; omega⟩
 | _=>exact m
theorem WC.loop {ι:Type} {c:Code} (b:ι->List (Nat×Value)) (d:ι->World->Prop) (R:ι->Prop) (f:ι->Nat) (e:ι) (h:R e) (k:∀p ∈ b e,lk l p.1=some p.2) (m:∀w,W w->d e w)
   (o:∀i,R i->WC P c (Exit.then (λq w'=>∃j,f j<f i/\R j/\Ag n ds (b j) q/\d j w') Q) n ds (b i) (d i)):WC P (.loop c) Q n ds l W:=by
 intro a w r s;refine wp_loop_ghost (λi a w=>R i/\Ag n ds (b i) a/\d i w) f e ⟨h,r.sub k,m w s⟩ λi a w g=>?_;exact o i g.1 a w g.2.1 g.2.2
theorem Ea {ι:Type} {c:ι->List (Nat×Value)} {d:ι->World->Prop} {R:ι->Prop} {b:ι->Nat} {i:ι} (j:ι) (e:b j<b i) (f:R j) (g:∀p ∈ c j,lk l p.1=some p.2) (h:∀w,W w->d j w) :
   WE (Exit.then (λk w'=>∃j,b j<b i/\R j/\Ag n ds (c j) k/\d j w') Q) .normal n ds l W:=λa w m o=>⟨j,e,f,m.sub g,h w o⟩
end
abbrev View:=Nat->Option Obj
def Le (a:View) (w:World):Prop:=∀b o,a b=some o->w.heap[b]? = some o
def bw (a c:View):Prop:=∀b o,a b=some o->c b=some o
theorem bw.refl (a:View):bw a a:=λ_ _ h=>h
theorem bw.trans {a B C:View} (h:bw a B) (k:bw B C):bw a C:=λb o x=>k b o (h b o x)
def eW (w:World) (a:View):Prop:=∀b,b<w.heap.size->a b=none
def nv (a w:World):View:=λb=>if a.heap.size<=b then w.heap[b]? else none
theorem yx (a w:World):Le (nv a w) w:=λb o h=>by unfold nv at h; split at h; exact h; cases h
theorem r_ (a w:World):eW a (nv a w):=λb h=>by unfold nv; rw [if_neg (by omega)]
theorem Kc {a w:World} {c:View} (e:Le c w) (f:eW a c):bw c (nv a w):=λb o h=>by
 unfold nv;rw [if_pos,e b o h]
 rcases Nat.lt_or_ge b a.heap.size with d | d
 · rw [f b d] at h; cases h
 · exact d
theorem eW.mono {w w':World} {a:View} (h:eW w' a) (c:w.heap.size<=w'.heap.size):eW w a:=λb d=>h b (by omega)
structure Fr (F:List Nat) (w0 w:World):Prop where
 os:w.os=w0.os
 tape:w.tape=w0.tape
 output:w.output=w0.output
 size:w0.heap.size<=w.heap.size
 block:∀k,k<w0.heap.size->k ∉ F->w.heap[k]? = w0.heap[k]?
abbrev Ext (w w':World):Prop:=Fr [] w w'
theorem Fr.refl (a:List Nat) (w:World):Fr a w w:=⟨rfl,rfl,rfl,Nat.le_refl _,λ_ _ _=>rfl⟩
theorem Fr.trans {d e:List Nat} {a b c:World} (h:Fr d a b) (k:Fr e b c) (j:∀x ∈ e,x ∈ d\/a.heap.size<=x):Fr d a c:=
 ⟨k.os.trans h.os,k.tape.trans h.tape,k.output.trans h.output,Nat.le_trans h.size k.size,λi hi f=>
   (k.block i (Nat.lt_of_lt_of_le hi h.size) λl=>by rcases j i l with g | g; exact f g; omega).trans (h.block i hi f)⟩
theorem Ext.trans {a b c:World} (h:Ext a b) (k:Ext b c):Ext a c:=Fr.trans h k (by simp)
theorem Ext.below {w w':World} (h:Ext w w'):Below w.heap.size w w':=⟨h.os,h.tape,h.output,h.size,λk a=>h.block k a (by simp)⟩
theorem Ext.yy {w w':World} (h:Below w.heap.size w w'):Ext w w':=⟨h.os,h.tape,h.output,h.size,λk a _=>h.block k a⟩
theorem Ext.drew (w:World):Ext w w.drew:=⟨rfl,rfl,rfl,Nat.le_refl _,λ_ _ _=>rfl⟩
theorem Ext.alloc (w:World) (o:Obj):Ext w (w.alloc o):=⟨rfl,rfl,rfl,by simp,λk a _=>Below.heap_alloc _ _ _ a⟩
theorem lt_of_heap {w:World} {b:Nat} {o:Obj} (h:w.heap[b]? = some o):b<w.heap.size:=by
 rcases Nat.lt_or_ge b w.heap.size with a | a
 · exact a
 · rw [Array.getElem?_eq_none a] at h; cases h
theorem Le.ext {a:View} {w w':World} (h:Le a w) (e:Ext w w'):Le a w':=λb o x=>(e.block b (lt_of_heap (h b o x)) (by simp)).trans (h b o x)
structure aS where
 ids:List Nat
 holds:World->Prop
 loc:∀w w',(∀k ∈ ids,w'.heap[k]? = w.heap[k]?)->holds w->holds w'
 dY:∀w,holds w->∀k ∈ ids,k<w.heap.size
def aq (b:Nat) (o:Obj):aS:=⟨[b],λw=>w.heap[b]? = some o,λw w' h a=>(h b (by simp)).trans a,λw a k c=>by simp at c; subst c; exact lt_of_heap a⟩
structure Ws (w0:World) (F:List Nat) (L:List aS) (Vs:List View) (w:World):Prop where
 fr:Fr F w0 w
 kn:∀A ∈ L,A.holds w
 nd:(L.flatMap aS.ids).Nodup
 own:∀A ∈ L,∀k ∈ A.ids,k ∈ F\/w0.heap.size<=k
 vs:∀H ∈ Vs,Le H w
 off:∀H ∈ Vs,∀A ∈ L,∀k ∈ A.ids,H k=none
section
variable {w0 w w':World} {F:List Nat} {L L' L2:List aS} {Vs:List View}
theorem Ws.init (a:∀b ∈ Vs,Le b w):Ws w [] [] Vs w:=⟨Fr.refl _ _,by simp,by simp,by simp,a,by simp⟩
theorem CE {P:Program} {Q:Exit->Act->World->Prop} {n:Nat} {ds:List Deferred} {l:List (Nat×Value)} {c:Code} {a w:World} {b:List Nat} {L:List aS} {Vs:List View} (d:Ws a b L Vs w) (h:WC P c Q n ds l (Ws a b L Vs)):WC P c Q n ds l (λw'=>w'=w):=
 pW (λ_ e=>by subst e; exact d) h
theorem Ws.pY (h:Ws w0 F (L++L2) Vs w) (q:Fr (L.flatMap aS.ids) w w') (p:∀c ∈ L',c.holds w')
   (u:(L'.flatMap aS.ids).Nodup) (hi:∀c ∈ L',∀k ∈ c.ids,k ∈ L.flatMap aS.ids\/w.heap.size<=k):Ws w0 F (L'++L2) Vs w':=by
 have nd:=h.nd;rw [List.flatMap_append,List.nodup_append] at nd
 have same:∀c ∈ L2,∀k ∈ c.ids,w'.heap[k]? = w.heap[k]?:=λc a k p=>
   q.block k (c.dY w (h.kn c (by simp [a])) k p) λr=>nd.2.2 k r k (List.mem_flatMap.2 ⟨c,a,p⟩) rfl
 refine ⟨?_,?_,?_,?_,?_,?_⟩
 · refine h.fr.trans q λx s=>?_
   obtain ⟨c,a,j⟩:=List.mem_flatMap.1 s;exact h.own c (by simp [a]) x j
 · intro c a
   rcases List.mem_append.1 a with a | a
   · exact p c a
   · exact c.loc w w' (same c a) (h.kn c (by simp [a]))
 · rw [List.flatMap_append,List.nodup_append]
   refine ⟨u,nd.2.1,λx s y t e=>?_⟩;subst e;obtain ⟨c,a,j⟩:=List.mem_flatMap.1 s;obtain ⟨B,l,m⟩:=List.mem_flatMap.1 t
   rcases hi c a x j with d | d
   · exact nd.2.2 x d x t O
   · have:=B.dY w (h.kn B (by simp [l])) x m
     omega
 · intro c a k n
   rcases List.mem_append.1 a with a | a
   · rcases hi c a k n with d | d
     · obtain ⟨B,l,m⟩:=List.mem_flatMap.1 d
       exact h.own B (by simp [l]) k m
     · exact .inr (Nat.le_trans h.fr.size d)
   · exact h.own c (by simp [a]) k n
 · intro f g b o i
   rw [q.block b (lt_of_heap (h.vs f g b o i))]
   · exact h.vs f g b o i
   · intro r
     obtain ⟨c,a,j⟩:=List.mem_flatMap.1 r;have:=h.off f g c (by simp [a]) b j;rw [this] at i; cases i
 · intro f g c a k n
   rcases List.mem_append.1 a with a | a
   · rcases hi c a k n with d | d
     · obtain ⟨B,l,m⟩:=List.mem_flatMap.1 d
       exact h.off f g B (by simp [l]) k m
     · cases i:f k with
       | none=>rfl
       | some o=>have:=lt_of_heap (h.vs f g k o i); omega
   · exact h.off f g c (by simp [a]) k n
theorem Ws.ext (h:Ws w0 F L Vs w) (e:Ext w w'):Ws w0 F L Vs w':=by
 have:=Ws.pY (L:=[]) (L':=[]) (L2:=L) (by simpa using h) (by simpa using e) (by simp) (by simp) (by simp)
 simpa using this
theorem Ws.alloc (h:Ws w0 F L Vs w) (o:Obj):Ws w0 F (aq w.heap.size o::L) Vs (w.alloc o):=by
 have:=Ws.pY (L:=[]) (L':=[aq w.heap.size o]) (L2:=L) (by simpa using h) (by simpa using Ext.alloc w o)
   (by intro b a; simp at a; subst a; show (w.heap.push o)[w.heap.size]? = some o; simp) (by simp [aq]) (by simp [aq])
 simpa using this
theorem Ws.view (h:Ws w0 F L Vs w) (e:Ext w w') {b:View} (j:Le b w') (l:eW w b):Ws w0 F L (b::Vs) w':=by
 have g:=h.ext e;refine ⟨g.fr,g.kn,g.nd,g.own,?_,?_⟩
 · intro c a
   rcases List.mem_cons.1 a with rfl | a
   · exact j
   · exact g.vs c a
 · intro c a d f k i
   rcases List.mem_cons.1 a with rfl | a
   · exact l k (d.dY w (h.kn d f) k i)
   · exact g.off c a d f k i
theorem Ws.perm (h:Ws w0 F L Vs w) (c:L.Perm L'):Ws w0 F L' Vs w:=
 ⟨h.fr,λa b=>h.kn a (c.mem_iff.2 b),(List.Perm.flatMap_right _ c).nodup_iff.1 h.nd,λa b=>h.own a (c.mem_iff.2 b),h.vs,λd e a b=>h.off d e a (c.mem_iff.2 b)⟩
theorem Ws.drop (h:Ws w0 F (L++L') Vs w):Ws w0 F L' Vs w:=by
 have nd:=h.nd;rw [List.flatMap_append,List.nodup_append] at nd;exact ⟨h.fr,λa b=>h.kn a (by simp [b]),nd.2.1,λa b=>h.own a (by simp [b]),h.vs,λc d a b=>h.off c d a (by simp [b])⟩
theorem Ws.cv (h:Ws w0 F L Vs w) {ah:List View} (c:∀a ∈ ah,a ∈ Vs):Ws w0 F L ah w:=
 ⟨h.fr,h.kn,h.nd,h.own,λa b=>h.vs a (c a b),λa b=>h.off a (c a b)⟩
end
def dM {α:Type}:Nat->List α->List α
 | _,[]=>[]
 | 0,_::r=>r
 | i+1,x::r=>x::dM i r
theorem k' {α:Type} {x:α}:∀(i:Nat) (l:List α),l[i]? = some x->l.Perm (x::dM i l)
 | _,[],h=>by cases h
 | 0,y::r,h=>by simp at h; subst h; exact List.Perm.refl _
 | i+1,y::r,h=>by
   have:=k' i r (by simpa using h);exact (List.Perm.cons y this).trans (List.Perm.swap _ _ _)
theorem set_perm {α:Type} {x y:α}:∀(i:Nat) (l:List α),l[i]? = some x->(y::dM i l).Perm (l.set i y)
 | _,[],h=>by cases h
 | 0,z::r,_=>by simp [dM]
 | i+1,z::r,h=>by
   have:=set_perm (y:=y) i r (by simpa using h);exact (List.Perm.swap _ _ _).trans (List.Perm.cons z this)
theorem Ws.pZ {b w w':World} {c:List Nat} {L:List aS} {Vs:List View} (h:Ws b c L Vs w) (i:Nat) {a B:aS} (hi:L[i]? = some a) (d:Fr a.ids w w') (e:B.holds w')
   (f:B.ids.Nodup) (g:∀k ∈ B.ids,k ∈ a.ids\/w.heap.size<=k):Ws b c (L.set i B) Vs w':=by
 have j:=h.perm (k' i L hi);have l:=Ws.pY (L:=[a]) (L':=[B]) (L2:=dM i L) (by simpa using j) (by simpa using d) (by simpa using e) (by simpa using f) (by simpa using g);exact Ws.perm (by simpa using l) (set_perm i L hi)
theorem ed {α:Type} {l:List α} {i:Nat} {x:α} (h:l[i]? = some x):x ∈ l:=List.mem_of_getElem? h
def eG (P:Program) (t:TypeId):Bool:=match P.underlying t with | some (.struct _) | some (.array _ _) | none=>false | _=>true
def f' (P:Program) (t:TypeId):Option Nat:=match P.underlying t with | some (.struct _) | some (.array _ _)=>(P.info? t).map (·.size) | _=>none
def an (P:Program) (t:TypeId) (f:Nat):Option Nat:=match P.underlying t with
 | some (.struct fs)=>match fs[f]? with
   | some x=>match P.info? x.type with
     | some i=>if i.size=0 then none else some x.offset
     | none=>none
   | none=>none
 | _=>none
def eO (P:Program) (t:TypeId):Option Nat:=match P.underlying t with | some (.slice e)=>(P.info? e).map (·.size) | _=>none
section
variable {P:Program} {w:World}
theorem yz {t:TypeId} (h:eG P t=true) (w:World):(isAgg t).run P w = .ok false w:=by
 unfold eG at h
 cases a:P.underlying t with
 | none=>simp [a] at h
 | some d=>cases d<;>simp_all [isAgg,run_underlying a]
theorem Kd {t:TypeId} {k:Nat} (h:f' P t=some k) (w:World):(isAgg t).run P w = .ok true w/\(sizeOf t).run P w = .ok k w:=by
 unfold f' at h
 cases a:P.underlying t with
 | none=>simp [a] at h
 | some d=>
   cases hi:P.info? t with
   | none=>cases d<;>simp_all
   | some i=>cases d<;>simp_all [isAgg,run_underlying a,sizeOf,typeInfo]
def f_ (o:Obj) (k:Nat):Option Value:=match o with | .cells c _ _=>c.toList[k]? | _=>none
def vc (a:View) (b k:Nat):Option Value:=(a b).bind (f_ · k)
theorem cell_of_heap {b k:Nat} {o:Obj} {v:Value} (h:w.heap[b]? = some o) (a:f_ o k=some v):w.cell? ⟨b,k,none⟩=some v:=by
 cases o<;>simp_all [f_,World.cell?]
theorem Le.cell {c:View} (h:Le c w) {b k:Nat} {v:Value} (a:vc c b k=some v):w.cell? ⟨b,k,none⟩=some v:=by
 unfold vc at a
 cases d:c b with
 | none=>simp [d] at a
 | some o=>simp [d] at a; exact cell_of_heap (h b o d) a
theorem bw.cell {a e:View} (h:bw a e) {b k:Nat} {v:Value} (c:vc a b k=some v):vc e b k=some v:=by
 unfold vc at *
 cases d:a b with
 | none=>simp [d] at c
 | some o=>simp [d] at c; simp [h b o d,c]
theorem lO (b o k:Nat):(⟨b,o,none⟩:Addr).add k=⟨b,o+k,none⟩:=by unfold Addr.add; split<;>simp_all
theorem CB {t:TypeId} (a:eG P t=true) {b k:Nat} {v:Value} (c:w.cell? ⟨b,k,none⟩=some v):(loadVar t ⟨b,k,none⟩).run P w = .ok v w:=by
 simp [loadVar,yz a,c]
theorem vL {t:TypeId} {n:Nat} (a:f' P t=some n) {b k:Nat} {cs:List Value} (c:cs.length=n) (d:∀j v,cs[j]? = some v->w.cell? ⟨b,k+j,none⟩=some v) :
   (loadVar t ⟨b,k,none⟩).run P w = .ok (.agg cs.toArray) w:=by
 obtain ⟨e,f⟩:=Kd a w;have:=run_loadCells_list (P:=P) w ⟨b,k,none⟩ cs (λj v h=>by rw [lO]; exact d j v h);rw [c] at this;simp [loadVar,e,f,this]
end
def st (l:List UInt8):Value:=.string ⟨l.toArray⟩
section
variable {P:Program} {l:List (Nat×Value)} {W:World->Prop} {w0:World} {F:List Nat} {L:List aS} {Vs:List View}
 {d:Option Tmp} {ty:TypeId} {pos:String} {af:Array Edge} {g:Option (Nat×Bool)}
theorem Ym {x:Operand} {v:Value} (a:bk l x=some v):Yl P l W ⟨d,.move x,ty,pos,af,g⟩ v:=λc w b _=>by simp [execOp,b x v a]
theorem Ya {x:Operand} {v:Value} (a:bk l x=some v):Yl P l W ⟨d,.assign x,ty,pos,af,g⟩ v:=λc w b _=>by simp [execOp,b x v a]
theorem ad {P:Program} {ops:Array Oper} {Q:Exit->Act->World->Prop} {n:Nat} {ds:List Deferred} {l:List (Nat×Value)} {W:World->Prop} {rest:List Oper} {d:Nat} {x:Operand} {ty:TypeId} {pos:String} {af:Array Edge} {v:Value} (a:bk l x=some v) (h:WL P ops Q n ds ((d,v)::l) W rest) (b:Nat.blt d n=true:=by rfl):WL P ops Q n ds l W (⟨some d,.move x,ty,pos,af,none⟩::rest):=I (Ym a) h b
theorem ai {P:Program} {ops:Array Oper} {Q:Exit->Act->World->Prop} {n:Nat} {ds:List Deferred} {l:List (Nat×Value)} {W:World->Prop} {rest:List Oper} {d:Nat} {x:Operand} {ty:TypeId} {pos:String} {af:Array Edge} {v:Value} (a:bk l x=some v) (h:WL P ops Q n ds ((d,v)::l) W rest) (b:Nat.blt d n=true:=by rfl):WL P ops Q n ds l W (⟨some d,.assign x,ty,pos,af,none⟩::rest):=I (Ya a) h b
theorem bP {t u:TypeId} {x y:Operand} {k:IntKind} {a b:Int} (e:bk l x=some (.int k a)) (f:bk l y=some (.int k b)):Yl P l W ⟨d,.binOp .eql t x y u,ty,pos,af,g⟩ (.bool (a==b)):=
 λh w c _=>by simp [execOp,c x _ e,c y _ f,eqGuard,binOp,Op.intCmp]
theorem e8 {t u:TypeId} {x y:Operand} {k:IntKind} {a b:Int} (e:bk l x=some (.int k a)) (f:bk l y=some (.int k b)):Yl P l W ⟨d,.binOp .neq t x y u,ty,pos,af,g⟩ (.bool (a != b)):=
 λh w c _=>by simp [execOp,c x _ e,c y _ f,eqGuard,binOp,Op.intCmp]
theorem b0 {t u:TypeId} {x y:Operand} {k:IntKind} {a b:Int} (e:bk l x=some (.int k a)) (f:bk l y=some (.int k b)):Yl P l W ⟨d,.binOp .lss t x y u,ty,pos,af,g⟩ (.bool (decide (a<b))):=
 λh w c _=>by simp [execOp,c x _ e,c y _ f,eqGuard,binOp,Op.intCmp]
theorem hg {t u:TypeId} {x y:Operand} {k:IntKind} {a b:Int} (e:bk l x=some (.int k a)) (f:bk l y=some (.int k b)):Yl P l W ⟨d,.binOp .leq t x y u,ty,pos,af,g⟩ (.bool (decide (a<=b))):=
 λh w c _=>by simp [execOp,c x _ e,c y _ f,eqGuard,binOp,Op.intCmp]
theorem dc {t u:TypeId} {x y:Operand} {k:IntKind} {a b:Int} (e:bk l x=some (.int k a)) (f:bk l y=some (.int k b)):Yl P l W ⟨d,.binOp .gtr t x y u,ty,pos,af,g⟩ (.bool (decide (b<a))):=
 λh w c _=>by simp [execOp,c x _ e,c y _ f,eqGuard,binOp,Op.intCmp]
theorem aJ {t u:TypeId} {x y:Operand} {k:IntKind} {a b:Int} (e:bk l x=some (.int k a)) (f:bk l y=some (.int k b)):Yl P l W ⟨d,.binOp .geq t x y u,ty,pos,af,g⟩ (.bool (decide (b<=a))):=
 λh w c _=>by simp [execOp,c x _ e,c y _ f,eqGuard,binOp,Op.intCmp]
theorem vM {t u:TypeId} {x y:Operand} {k:IntKind} {a b:Int} (e:bk l x=some (.int k a)) (f:bk l y=some (.int k b)):Yl P l W ⟨d,.binOp .add t x y u,ty,pos,af,g⟩ (.int k (k.wrap (a+b))):=
 λh w c _=>by simp [execOp,c x _ e,c y _ f,eqGuard,binOp,Op.intArith]
theorem Ke {t u:TypeId} {x y:Operand} {k:IntKind} {a b:Int} (e:bk l x=some (.int k a)) (f:bk l y=some (.int k b)):Yl P l W ⟨d,.binOp .sub t x y u,ty,pos,af,g⟩ (.int k (k.wrap (a-b))):=
 λh w c _=>by simp [execOp,c x _ e,c y _ f,eqGuard,binOp,Op.intArith]
theorem vN {n:Int} (h : -9223372036854775808<=n/\n<=9223372036854775807):IntKind.i64.wrap n=n:=by rw [IntKind.wrap_i64]; omega
theorem bd {t u:TypeId} {x y:Operand} {a b:Int} (c:bk l x=some (.int .i64 a)) (e:bk l y=some (.int .i64 b)) (f : -9223372036854775808<=a+b/\a+b<=9223372036854775807):Yl P l W ⟨d,.binOp .add t x y u,ty,pos,af,g⟩ (.int .i64 (a+b)):=by
 have:=vM (P:=P) (W:=W) (d:=d) (t:=t) (u:=u) (ty:=ty) (pos:=pos) (af:=af) (g:=g) c e
 rwa [vN f] at this
theorem yA {t u:TypeId} {x y:Operand} {a b:Int} (c:bk l x=some (.int .i64 a)) (e:bk l y=some (.int .i64 b)) (f : -9223372036854775808<=a-b/\a-b<=9223372036854775807):Yl P l W ⟨d,.binOp .sub t x y u,ty,pos,af,g⟩ (.int .i64 (a-b)):=by
 have:=Ke (P:=P) (W:=W) (d:=d) (t:=t) (u:=u) (ty:=ty) (pos:=pos) (af:=af) (g:=g) c e
 rwa [vN f] at this
theorem Yi {t u:TypeId} {x y:Operand} {a:Nat} {b:Int} (c:bk l x=some (.int .i64 (a:Int))) (e:bk l y=some (.int .i64 b)) (f:b=1) (h:(a:Int)<9223372036854775807):Yl P l W ⟨d,.binOp .add t x y u,ty,pos,af,g⟩ (.int .i64 ((a+1:Nat):Int)):=by
 subst f;have:=bd (P:=P) (W:=W) (d:=d) (t:=t) (u:=u) (ty:=ty) (pos:=pos) (af:=af) (g:=g) c e (by omega)
 simpa using this
theorem qY {t u:TypeId} {x y:Operand} {a b:List UInt8} (e:bk l x=some (st a)) (f:bk l y=some (st b)):Yl P l W ⟨d,.binOp .eql t x y u,ty,pos,af,g⟩ (.bool (a==b)):=
 λh w c _=>by simp [execOp,c x _ e,c y _ f,st,eqGuard,binOp,Op.stringOp]
theorem vO {t u:TypeId} {x y:Operand} {a b:List UInt8} (e:bk l x=some (st a)) (f:bk l y=some (st b)):Yl P l W ⟨d,.binOp .neq t x y u,ty,pos,af,g⟩ (.bool (!(a==b))):=
 λh w c _=>by simp [execOp,c x _ e,c y _ f,st,eqGuard,binOp,Op.stringOp]
theorem Kf {t u:TypeId} {x y:Operand} {a b:List UInt8} (f:bk l x=some (st a)) (i:bk l y=some (st b)) (h:a.length+b.length<=9223372036854775807):Yl P l W ⟨d,.binOp .add t x y u,ty,pos,af,g⟩ (st (a++b)):=by
 intro j w c _
 have e:(Op.stringOp .add ⟨a.toArray⟩ ⟨b.toArray⟩).run P w = .ok (st (a++b)) w:=by
   rw [run_string_add_sum w _ _ (by show a.toArray.size+b.toArray.size<=_; simpa using h)];simp [st]
   rfl
 simp [execOp,c x _ f,c y _ i,st,eqGuard,binOp,e]
theorem az {t:TypeId} {x:Operand} {b:Bool} (a:bk l x=some (.bool b)):Yl P l W ⟨d,.unOp .not t x,ty,pos,af,g⟩ (.bool (!b)):=
 λe w c _=>by simp [execOp,c x _ a,Op.unary]
theorem cy {x:Operand} {p:Addr} (a:bk l x=some (.pointer (some p))):Yl P l W ⟨d,.nilCheck x,ty,pos,af,g⟩ (.pointer (some p)):=
 λc w b _=>by simp [execOp,b x _ a]
theorem Yx {x:Operand} {vs:Array Value} {i:Nat} {v:Value} (a:bk l x=some (.tuple vs)) (hi:vs[i]? = some v):Yl P l W ⟨d,.extract x i,ty,pos,af,g⟩ v:=
 λc w b _=>by simp [execOp,b x _ a,Instr.extract,hi]
theorem Yf {t:TypeId} {x:Operand} {f o b k:Nat} (a:an P t f=some k) (h:bk l x=some (.pointer (some ⟨b,o,none⟩))):Yl P l W ⟨d,.fieldAddr t x f,ty,pos,af,g⟩ (.pointer (some ⟨b,o+k,none⟩)):=by
 intro q w j _;unfold an at a
 cases c:P.underlying t with
 | none=>simp [c] at a
 | some m=>
   cases m<;>simp [c] at a
   rename_i fs
   cases e:fs[f]? with
   | none=>simp [e] at a
   | some n=>
     simp [e] at a
     cases hi:P.info? n.type with
     | none=>simp [hi] at a
     | some i=>
       simp [hi] at a;obtain ⟨p,rfl⟩:=a;simp [execOp,j x _ h,Instr.fieldAt,run_underlying c,e,Instr.sureAddr,fieldPlace,sizeOf,typeInfo,hi,p,lO]
theorem l9 {t:TypeId} {x y:Operand} {b o n c s:Nat} {k:IntKind} {i:Int} (a:eO P t=some s) (j:bk l x=some (.slice (some ⟨b,o,none⟩) n c)) (m:bk l y=some (.int k i)) (p:0<=i) (q:i<n) :
   Yl P l W ⟨d,.indexAddr t x y,ty,pos,af,g⟩ (.pointer (some ⟨b,o+i.toNat*s,none⟩)):=by
 intro u w h _;unfold eO at a
 cases f:P.underlying t with
 | none=>simp [f] at a
 | some r=>
   cases r<;>simp [f] at a
   rename_i e;obtain ⟨v,hi,rfl⟩:=a;simp [execOp,h x _ j,h y _ m,Instr.indexAt,run_underlying f,asIntOf,p,q,sizeOf,typeInfo,hi,lO]
theorem CD {t:TypeId} {x y:Operand} {b o n c s:Nat} {k:IntKind} {i:Nat} (a:eO P t=some s) (e:bk l x=some (.slice (some ⟨b,o,none⟩) n c)) (f:bk l y=some (.int k (i:Int))) (h:i<n) :
   Yl P l W ⟨d,.indexAddr t x y,ty,pos,af,g⟩ (.pointer (some ⟨b,o+i*s,none⟩)):=by
 have:=l9 (P:=P) (W:=W) (d:=d) (ty:=ty) (pos:=pos) (af:=af) (g:=g) a e f (by omega) (by omega)
 simpa using this
theorem Yn {t:TypeId} {x:Operand} {a:Option Addr} {n c s:Nat} (b:eO P t=some s) (f:bk l x=some (.slice a n c)):Yl P l W ⟨d,.call ⟨.builtin .len,#[x],#[t]⟩,ty,pos,af,g⟩ (.int .i64 (n:Int)):=by
 intro j w h _;unfold eO at b
 cases e:P.underlying t with
 | none=>simp [e] at b
 | some i=>
   cases i<;>simp [e] at b
   simp [execOp,resolve,invoke,builtin,h x _ f,Builtin.len_,run_underlying e,goInt]
theorem mX {t:TypeId} {x:Operand} {s:List UInt8} (a:P.underlying t=some .string) (b:bk l x=some (st s)):Yl P l W ⟨d,.call ⟨.builtin .len,#[x],#[t]⟩,ty,pos,af,g⟩ (.int .i64 (s.length:Int)):=by
 intro f w c _
 have e:(ByteArray.mk s.toArray).size=s.length:=by show s.toArray.size=_; simp
 simp [execOp,resolve,invoke,builtin,c x _ b,st,Builtin.len_,run_underlying a,goInt,e]
theorem Kg (s:List UInt8) (i:Nat):(ByteArray.mk s.toArray)[i]? = s[i]?:=by
 rcases Nat.lt_or_ge i s.length with h | h
 · rw [List.getElem?_eq_getElem h,getElem?_pos (ByteArray.mk s.toArray) i (by show i<s.toArray.size; simpa using h)]
   rfl
 · rw [List.getElem?_eq_none h,getElem?_neg (ByteArray.mk s.toArray) i (by show ¬i<s.toArray.size; simpa using h)]
theorem Kh {t:TypeId} {x y:Operand} {s:List UInt8} {k:IntKind} {i:Int} {u:UInt8} (b:P.underlying t=some .string) (c:bk l x=some (st s)) (e:bk l y=some (.int k i)) (f:0<=i) (h:s[i.toNat]? = some u) :
   Yl P l W ⟨d,.index t x y,ty,pos,af,g⟩ (.int .u8 (u.toNat:Int)):=by
 intro j w a _;simp [execOp,a x _ c,a y _ e,st,Instr.index,asIntOf,run_underlying b,f,Kg,h]
theorem qZ {t:TypeId} {x y:Operand} {s:List UInt8} {k:IntKind} {i:Nat} {u:UInt8} (a:P.underlying t=some .string) (b:bk l x=some (st s)) (c:bk l y=some (.int k (i:Int))) (e:s[i]? = some u) :
   Yl P l W ⟨d,.index t x y,ty,pos,af,g⟩ (.int .u8 (u.toNat:Int)):=Kh a b c (by omega) (by simpa using e)
theorem yB {t:TypeId} {x:Operand} {b o:Nat} {v:Value} (a:eG P t=true) (c:bk l x=some (.pointer (some ⟨b,o,none⟩))) (e:∀w,W w->w.cell? ⟨b,o,none⟩=some v):Yl P l W ⟨d,.load t x,ty,pos,af,g⟩ v:=
 λi w f h=>by simp [execOp,f x _ c,Instr.loadAt,Instr.sureAddr,CB a (e w h)]
theorem ml {t:TypeId} {x:Operand} {b o n:Nat} {cs:List Value} (a:f' P t=some n) (c:bk l x=some (.pointer (some ⟨b,o,none⟩))) (e:cs.length=n) (f:∀w,W w->∀j v,cs[j]? = some v->w.cell? ⟨b,o+j,none⟩=some v) :
   Yl P l W ⟨d,.load t x,ty,pos,af,g⟩ (.agg cs.toArray):=
 λk w h i=>by simp [execOp,h x _ c,Instr.loadAt,Instr.sureAddr,vL a e (f w i)]
theorem b9 {t:TypeId} {x:Operand} {b o:Nat} {v:Value} {a:View} (i:Nat) (c:eG P t=true) (e:bk l x=some (.pointer (some ⟨b,o,none⟩))) (f:Vs[i]? = some a) (h:vc a b o=some v) :
   Yl P l (Ws w0 F L Vs) ⟨d,.load t x,ty,pos,af,g⟩ v:=yB c e λ_ j=>(j.vs a (ed f)).cell h
theorem dj {t:TypeId} {x:Operand} {b o n:Nat} {cs:List Value} {a:View} (i:Nat) (c:f' P t=some n) (e:bk l x=some (.pointer (some ⟨b,o,none⟩))) (f:Vs[i]? = some a) (k:cs.length=n) (m:∀j v,cs[j]? = some v->vc a b (o+j)=some v) :
   Yl P l (Ws w0 F L Vs) ⟨d,.load t x,ty,pos,af,g⟩ (.agg cs.toArray):=ml c e k λ_ p j v h=>(p.vs a (ed f)).cell (m j v h)
theorem Yd {t:TypeId} {x:Operand} {b o:Nat} {v:Value} {a:Obj} (i:Nat) (c:bk l x=some (.pointer (some ⟨b,o,none⟩))) (e:L[i]? = some (aq b a)) (f:f_ a o=some v) (h:eG P t=true) :
   Yl P l (Ws w0 F L Vs) ⟨d,.load t x,ty,pos,af,g⟩ v:=yB h c λ_ j=>cell_of_heap (j.kn _ (ed e)) f
def cellsIn (o:Obj) (k n:Nat):List Value:=match o with | .cells c _ _=>(c.toList.drop k).take n | _=>[]
theorem b8 {t:TypeId} {x:Operand} {b o n:Nat} {a:Obj} (i:Nat) (c:bk l x=some (.pointer (some ⟨b,o,none⟩))) (e:L[i]? = some (aq b a)) (f:f' P t=some n) (k:(cellsIn a o n).length=n) :
   Yl P l (Ws w0 F L Vs) ⟨d,.load t x,ty,pos,af,g⟩ (.agg (cellsIn a o n).toArray):=ml f c k λw m j v h=>by
 have p:w.heap[b]? = some a:=m.kn _ (ed e);refine cell_of_heap p ?_
 cases a<;>simp [cellsIn,f_] at *
 rw [List.getElem?_take] at h
 split at h
 · simpa using h
 · cases h
end
def zeroOf (P:Program) (t:TypeId):Option Value:=(P.info? t).bind (·.zero)
def dk (P:Program) (t:TypeId):Option Nat:=(P.info? t).map (·.size)
theorem q0 {P:Program} {t:TypeId} {a:Value} (h:zeroOf P t=some a) (w:World):(zeroValue t).run P w = .ok a w:=by
 unfold zeroOf at h
 cases hi:P.info? t with
 | none=>simp [hi] at h
 | some i=>simp [hi] at h; simp [zeroValue,typeInfo,hi,h]
theorem vP {P:Program} {t:TypeId} {k:Nat} (h:dk P t=some k) (w:World):(sizeOf t).run P w = .ok k w:=by
 unfold dk at h
 cases hi:P.info? t with
 | none=>simp [hi] at h
 | some i=>simp [hi] at h; simp [sizeOf,typeInfo,hi,h]
theorem Ki (vs:List Value):∀(k off:Nat) (cells:Array Value),off+k+vs.length<=cells.size->
   ((vs.zipIdx k).foldl (λcs (p:Value×Nat)=>cs.setIfInBounds (off+p.2) p.1) cells).toList=cells.toList.take (off+k)++vs++cells.toList.drop (off+k+vs.length):=by
 induction vs with
 | nil=>intro k off cells _; simp
 | cons v r a=>
   intro k off cells h;simp only [List.zipIdx_cons,List.foldl_cons];rw [a (k+1) off _ (by simp at h ⊢; omega)];simp only [Array.toList_setIfInBounds];have:=list_seg_step cells.toList (off+k) v r (by simp at h ⊢; omega)
   simpa [Nat.add_assoc] using this
def eB:Value->List Value | .agg cs=>cs.toList | v=>[v]
theorem p0 (v:Value):v.cells.toList=eB v:=by cases v<;>rfl
def nQ (place:Nat->Option (Nat×Nat)):List Value->List (Nat×Value)->Option (List Value)
 | cells,[]=>some cells
 | cells,(i,v)::r=>match place i with
   | some (off,size)=>bif Nat.beq (eB v).length size&&Nat.ble (off+size) cells.length then nQ place (cells.take off++eB v++cells.drop (off+size)) r else none
   | none=>none
theorem tJ (place:Nat->Option (Nat×Nat)):∀(parts:List (Nat×Value)) (cells:Array Value) (out:List Value),nQ place cells.toList parts=some out->Instr.fill place cells parts=some out.toArray
 | [],cells,out,h=>by simp [nQ] at h; simp [Instr.fill,<-h]
 | (i,v)::r,cells,out,h=>by
   simp only [nQ] at h
   cases d:place i with
   | none=>simp [d] at h
   | some x=>
     obtain ⟨off,size⟩:=x;simp only [d] at h
     cases a:(Nat.beq (eB v).length size&&Nat.ble (off+size) cells.toList.length) with
     | false=>rw [a] at h; cases h
     | true=>
       rw [a] at h;simp only [Bool.and_eq_true] at a;have g:=Nat.eq_of_beq_eq_true a.1;have k:=Nat.le_of_ble_eq_true a.2
       have b:v.cells.size=size:=by rw [<-g,<-p0]; simp
       have f:off+v.cells.size<=cells.size:=by rw [b]; simpa using k
       simp only [Instr.fill,d];rw [if_neg (by simp [b]; rw [b] at f; omega)];have e:=Ki v.cells.toList 0 off cells (by simpa using f);simp only [Nat.add_zero,Array.length_toList] at e
       have l:(v.cells.zipIdx.foldl (λcs (c,j)=>cs.setIfInBounds (off+j) c) cells)=(cells.toList.take off++eB v++cells.toList.drop (off+size)).toArray:=by
         apply Array.ext';rw [<-Array.foldl_toList,Array.toList_zipIdx];rw [b] at e;rw [e,p0]
       rw [l];exact tJ place r _ out (by simpa using h)
def aK (P:Program) (t:TypeId):Option (List (Nat×Nat)):=match P.underlying t with
 | some (.struct fs)=>fs.toList.mapM λf=>(dk P f.type).map (f.offset,·)
 | _=>none
theorem run_places {P:Program}:∀(fs:List Field) (pl:List (Nat×Nat)),fs.mapM (λf=>(dk P f.type).map (f.offset,·))=some pl->∀w:World,
   (fs.mapM (m:=Sem) λf=>do pure (f.offset,<-sizeOf f.type)).run P w = .ok pl w
 | [],pl,h,w=>by simp at h; subst h; simp
 | f::fs,pl,h,w=>by
   simp only [List.mapM_cons,Option.bind_eq_bind] at h
   cases a:dk P f.type with
   | none=>simp [a] at h
   | some k=>
     simp only [a,Option.map_some,Option.bind_some] at h
     cases b:fs.mapM (λf=>(dk P f.type).map (f.offset,·)) with
     | none=>simp [b] at h
     | some c=>
       simp [b] at h;subst h;have d:=run_places fs c b w;simp only [List.mapM_cons,Sem.run_bind,vP a,Result.andThen_ok,Sem.run_pure,d]
def oY (l:List (Nat×Value)):List (Nat×Operand)->Option (List (Nat×Value))
 | []=>some []
 | (i,x)::r=>match bk l x,oY l r with
   | some v,some vs=>some ((i,v)::vs)
   | _,_=>none
theorem vQ {l:List (Nat×Value)} {c:Operand->Value} (d:∀x u,bk l x=some u->c x=u):∀(ps:List (Nat×Operand)) (vs:List (Nat×Value)),oY l ps=some vs->ps.map (λp=>(p.1,c p.2))=vs
 | [],vs,h=>by simp [oY] at h; simp [h]
 | (i,x)::r,vs,h=>by
   simp only [oY] at h
   cases a:bk l x with
   | none=>simp [a] at h
   | some v=>
     cases b:oY l r with
     | none=>simp [a,b] at h
     | some us=>
       simp [a,b] at h;subst h;simp [d x v a,vQ d r us b]
def hU (l:List (Nat×Value)):List Operand->Option (List Value)
 | []=>some []
 | x::r=>match bk l x,hU l r with
   | some v,some vs=>some (v::vs)
   | _,_=>none
theorem vR {l:List (Nat×Value)} {c:Operand->Value} (d:∀x u,bk l x=some u->c x=u):∀(ps:List Operand) (vs:List Value),hU l ps=some vs->ps.map c=vs
 | [],vs,h=>by simp [hU] at h; simp [h]
 | x::r,vs,h=>by
   simp only [hU] at h
   cases a:bk l x with
   | none=>simp [a] at h
   | some v=>
     cases b:hU l r with
     | none=>simp [a,b] at h
     | some us=>
       simp [a,b] at h;subst h;simp [d x v a,vR d r us b]
section
variable {P:Program} {l:List (Nat×Value)} {W:World->Prop} {w0:World} {F:List Nat} {L:List aS} {Vs:List View}
 {d:Option Tmp} {ty:TypeId} {pos:String} {af:Array Edge} {g:Option (Nat×Bool)}
theorem Yb {t:TypeId} {parts:List (Nat×Operand)} {vs:List (Nat×Value)} {a:Value} {pl:List (Nat×Nat)} {out:List Value} (e:zeroOf P t=some a) (b:aK P t=some pl)
   (hv:oY l parts=some vs) (h:nQ (λi=>pl[i]?) (eB a) vs=some out):Yl P l W ⟨d,.build t parts.toArray,ty,pos,af,g⟩ (.agg out.toArray):=by
 intro j w k _
 have n:((parts.toArray.map λ (i,x)=>(i,j x)):Array (Nat×Value)).toList=vs:=by simpa using vQ k parts vs hv
 unfold aK at b
 cases c:P.underlying t with
 | none=>simp [c] at b
 | some o=>
   cases o<;>simp [c] at b
   rename_i fs;have p:=run_places (P:=P) fs.toList pl (by simpa using b) w
   have q:(fs.mapM (m:=Sem) λf=>do pure (f.offset,<-sizeOf f.type)).run P w = .ok pl.toArray w:=by
     rw [Array.mapM_eq_mapM_toList,Sem.run_map,p]; rfl
   have r:Instr.fill (λi=>pl.toArray[i]?) a.cells vs=some out.toArray:=by
     refine tJ _ vs a.cells out ?_;rw [p0]
     simpa using h
   simp only [execOp,Instr.build,Sem.run_bind,q0 e,Result.andThen_ok,run_underlying c,q,n,r,Sem.run_pure]
end
section
variable {P:Program} {ops:Array Oper} {Q:Exit->Act->World->Prop} {n:Nat} {ds:List Deferred} {l:List (Nat×Value)} {W:World->Prop} {w0:World} {F:List Nat} {L:List aS} {Vs:List View}
 {rest:List Oper} {d:Nat} {ty:TypeId} {pos:String} {af:Array Edge} {g:Option (Nat×Bool)}
theorem CF (t:TypeId) (v:Value) (w:World):(newVar t v).run P w = .ok ⟨w.heap.size,0,none⟩ (w.alloc (.cells v.cells t)):=by
 simp [newVar,newRow]
theorem WL.new {op:Op} {o:Obj} {mk:Nat->Value} (i:dq ops l g) (j:Nat.blt d n=true)
   (k:∀(c:Operand->Value) (w:World),(∀x u,bk l x=some u->c x=u)->Ws w0 F L Vs w->(execOp c ⟨some d,op,ty,pos,af,g⟩).run P w = .ok (.value (mk w.heap.size)) (w.alloc o))
   (h:∀b,WL P ops Q n ds ((d,mk b)::l) (Ws w0 F (aq b o::L) Vs) rest) :
   WL P ops Q n ds l (Ws w0 F L Vs) (⟨some d,op,ty,pos,af,g⟩::rest):=by
 refine WL.step i λa w e f q m=>?_;have:=k a.eval w (λx u p=>e.eval p) f;simp only [Oper.wp,this,Oper.upon_value];exact m _ _ (h w.heap.size _ _ (e.put j _) (f.alloc o))
theorem WL.box {T:TypeId} {x:Operand} {v:Value} (a:dq ops l g) (c:Nat.blt d n=true) (e:bk l x=some v)
   (h:∀b,WL P ops Q n ds ((d,.pointer (some ⟨b,0,none⟩))::l) (Ws w0 F (aq b (.cells v.cells T (0,0))::L) Vs) rest) :
   WL P ops Q n ds l (Ws w0 F L Vs) (⟨some d,.box T x,ty,pos,af,g⟩::rest):=
 WL.new (mk:=λb=>.pointer (some ⟨b,0,none⟩)) a c (λi w f j=>by simp [execOp,Instr.box,f x v e,CF]) h
theorem Al {T:TypeId} {a:Value} (c:dq ops l g) (e:Nat.blt d n=true) (f:zeroOf P T=some a)
   (h:∀b,WL P ops Q n ds ((d,.pointer (some ⟨b,0,none⟩))::l) (Ws w0 F (aq b (.cells a.cells T (0,0))::L) Vs) rest) :
   WL P ops Q n ds l (Ws w0 F L Vs) (⟨some d,.alloc T,ty,pos,af,g⟩::rest):=
 WL.new (mk:=λb=>.pointer (some ⟨b,0,none⟩)) c e (λi w j k=>by simp [execOp,Instr.alloc,q0 f,CF]) h
def oZ (a:Obj) (o:Nat) (vs:List Value):Obj:=match a with | .cells c T f=>.cells (c.toList.take o++vs++c.toList.drop (o+vs.length)).toArray T f | x=>x
def o0 (a:Obj) (o k:Nat):Bool:=match a with | .cells c _ f=>Nat.ble (o+k) c.toList.length&&(Nat.beq f.1 0&&Nat.beq f.2 0) | _=>false
theorem CG {t:TypeId} {k b o:Nat} {a:Obj} {v:Value} {w:World} (m:dk P t=some k) (n:(eB v).length=k) (p:(eB v).all (·.oneCell')=true) (d:w.heap[b]? = some a) (g:o0 a o k=true) :
   (storeVar t ⟨b,o,none⟩ v).run P w = .ok () { w with heap:=w.heap.setIfInBounds b (oZ a o (eB v)) }:=by
 cases a with
 | cells c T f=>
   obtain ⟨C,D⟩:=f;simp only [o0,Bool.and_eq_true] at g;obtain ⟨h,q,r⟩:=g;have s:=Nat.eq_of_beq_eq_true q;have x:=Nat.eq_of_beq_eq_true r;subst s; subst x;have h:=Nat.le_of_ble_eq_true h;have e:=run_storeCells_at P b o T (eB v) 0 c w d (by simp at h ⊢; omega) (λu y=>List.all_eq_true.1 p u y)
   have z:v.cells.size=k:=by rw [<-n,<-p0]; simp
   have A:(storeVar t ⟨b,o,none⟩ v).run P w=(storeCells ⟨b,o,none⟩ (eB v)).run P w:=by
     simp [storeVar,vP m,z,p0]
   rw [A,e];have l:=setRow_heap w b c (c.toList.take (o+0)++eB v++c.toList.drop (o+0+(eB v).length)).toArray T (0,0) d;have B:=lt_of_heap d;simp only [oZ,Nat.add_zero] at l ⊢
   suffices hh:(w.setRow b (c.toList.take o++eB v++c.toList.drop (o+(eB v).length)).toArray).heap=w.heap.setIfInBounds b (.cells (c.toList.take o++eB v++c.toList.drop (o+(eB v).length)).toArray T (0,0)) by
     rw [<-hh]; rfl
   apply Array.ext_getElem?;intro j
   by_cases i:b=j
   · subst i
     rw [l];simp [B]
   · rw [Array.getElem?_setIfInBounds_ne i]
     simp [World.setRow,Array.getElem?_modify,i]
 | _=>simp [o0] at g
theorem aO {t:TypeId} {x y:Operand} {b o k:Nat} {c:Obj} {v:Value} (i:Nat) (q:dq ops l g) (r:bk l x=some (.pointer (some ⟨b,o,none⟩))) (s:bk l y=some v) (f:L[i]? = some (aq b c))
   (u:dk P t=some k) (z:(eB v).length=k) (A:(eB v).all (·.oneCell')=true) (B:o0 c o k=true)
   (h:WL P ops Q n ds l (Ws w0 F (L.set i (aq b (oZ c o (eB v)))) Vs) rest) :
   WL P ops Q n ds l (Ws w0 F L Vs) (⟨none,.store t x y,ty,pos,af,g⟩::rest):=by
 refine WL.step q λa w d m G C=>?_;have p:w.heap[b]? = some c:=m.kn _ (ed f)
 have D:(execOp a.eval ⟨none,.store t x y,ty,pos,af,g⟩).run P w = .ok .skip { w with heap:=w.heap.setIfInBounds b (oZ c o (eB v)) }:=by
   simp only [execOp,d.eval r,d.eval s,Instr.storeAt,Instr.sureAddr,Sem.run_bind,Sem.run_pure,Result.andThen_ok,CG u z A p B]
 simp only [Oper.wp,D,Oper.upon_skip];refine C _ _ (h _ _ (d.tG undef) ?_);refine Ws.pZ m i f ⟨O,O,O,by simp,λj H E=>?_⟩ ?_ (by simp [aq]) (by simp [aq])
 · have:b≠j:=λe=>E (by simp [aq,e])
   simp [Array.getElem?_setIfInBounds_ne this]
 · show (w.heap.setIfInBounds b _)[b]? = _
   simp [lt_of_heap p]
def Enters (P:Program) (f:FuncId):Prop:=∀args w,(callFunc f args).run P w = .ok (.enter f args) w
theorem enters_of {f : FuncId} {fn : Func} (b : P.funcs[f]? = some fn) (c : (fn.name == "runtime.NumGoroutine") = false) (a : fn.body.isNone = false) : Enters P f := λargs w => by
 have d : fn.name ≠ "runtime.NumGoroutine" := by simpa using c
 have g:fn.body≠none:=by intro e; rw [e] at a; cases a
 simp [callFunc,b,d,g]
theorem yC {a:Operand->Value} {dst:Option Tmp} {f:FuncId} {args:Array Operand} {ts:Array TypeId} {vs:List Value} {w:World} (c:Enters P f) (b:∀x u,bk l x=some u->a x=u) (d:hU l args.toList=some vs) :
   (execOp a ⟨dst,.call ⟨.value (.func f),args,ts⟩,ty,pos,af,g⟩).run P w = .ok (.enter f vs.toArray) w:=by
 have e:args.map a=vs.toArray:=by
   apply Array.ext'
   simpa using vR b _ _ d
 have h:a (.func f) = .func (.func f) #[] #[]:=b (.func f) _ rfl;simp only [execOp,resolve,e,h,Deferred.ofValue,Sem.run_bind,Sem.run_pure,Result.andThen_ok,invoke]
 simpa using c _ w
theorem WL.tK {ι:Type} {f:FuncId} {args:Array Operand} {ts:Array TypeId} {vs:List Value} (k:dq ops l g) (m:Nat.blt d n=true) (o:Enters P f) (p:hU l args.toList=some vs)
   (v:ι->Value) (R:ι->World->Prop) (j:List PanicEntry->World->Prop)
   (q:∀w,W w->Calls P f vs.toArray w λe w'=>(∃i,e = .returned (v i)/\R i w')\/∃b,e = .panicked b/\j b w')
   (r:∀i,WL P ops Q n ds ((d,v i)::l) (R i) rest) (s:∀b,WE Q (.panic b) n ds l (j b)) :
   WL P ops Q n ds l W (⟨some d,.call ⟨.value (.func f),args,ts⟩,ty,pos,af,g⟩::rest):=by
 refine WL.step k λa w c t C y=>?_;have z:=yC (P:=P) (dst:=some d) (ts:=ts) (ty:=ty) (pos:=pos) (af:=af) (g:=g) (w:=w) o (λx u A=>c.eval A) p;simp only [Oper.wp,z,Oper.upon_enter];refine (q w t).mono λe w' B=>?_
 rcases B with ⟨i,rfl,h⟩ | ⟨b,rfl,h⟩
 · exact y _ _ (r i _ _ (c.put m _) h)
 · exact s b _ _ c h
theorem WL.call {ι:Type} {f:FuncId} {args:Array Operand} {ts:Array TypeId} {vs:List Value} (a:dq ops l g) (b:Nat.blt d n=true) (c:Enters P f) (j:hU l args.toList=some vs)
   (v:ι->Value) (R:ι->World->Prop)
   (k:∀w,W w->Calls P f vs.toArray w λe w'=>∃i,e = .returned (v i)/\R i w')
   (m:∀i,WL P ops Q n ds ((d,v i)::l) (R i) rest) :
   WL P ops Q n ds l W (⟨some d,.call ⟨.value (.func f),args,ts⟩,ty,pos,af,g⟩::rest):=
 WL.tK a b c j v R (λ_ _=>False) (λw o=>(k w o).mono λ_ _ h=>.inl h) m (λ_ _ _ _ h=>h.elim)
theorem Lp {f:FuncId} {args:Array Operand} {ts:Array TypeId} {vs:List Value} {v:Value} (i:dq ops l g) (j:Nat.blt d n=true) (k:Enters P f) (m:hU l args.toList=some vs)
   (o:∀w,Ws w0 F L Vs w->Calls P f vs.toArray w λe w'=>e = .returned v/\Ext w w')
   (p:WL P ops Q n ds ((d,v)::l) (Ws w0 F L Vs) rest) :
   WL P ops Q n ds l (Ws w0 F L Vs) (⟨some d,.call ⟨.value (.func f),args,ts⟩,ty,pos,af,g⟩::rest):=by
 refine WL.step i λa w b c y q=>?_;have r:=yC (P:=P) (dst:=some d) (ts:=ts) (ty:=ty) (pos:=pos) (af:=af) (g:=g) (w:=w) k (λx u s=>b.eval s) m;simp only [Oper.wp,r,Oper.upon_enter];refine (o w c).mono λe w' t=>?_;obtain ⟨rfl,h⟩:=t;exact q _ _ (p _ _ (b.put j _) (c.ext h))
theorem Ld {ι:Type} {f:FuncId} {args:Array Operand} {ts:Array TypeId} {vs:List Value} (k:dq ops l g) (m:Nat.blt d n=true) (o:Enters P f) (p:hU l args.toList=some vs)
   (v:ι->Value) (R:View->ι->Prop)
   (q:∀w,Ws w0 F L Vs w->Calls P f vs.toArray w λe w'=>∃i,e = .returned (v i)/\Ext w w'/\R (nv w w') i)
   (r:∀b i,eW w0 b->R b i->WL P ops Q n ds ((d,v i)::l) (Ws w0 F L (b::Vs)) rest) :
   WL P ops Q n ds l (Ws w0 F L Vs) (⟨some d,.call ⟨.value (.func f),args,ts⟩,ty,pos,af,g⟩::rest):=by
 refine WL.step k λa w j c B s=>?_;have t:=yC (P:=P) (dst:=some d) (ts:=ts) (ty:=ty) (pos:=pos) (af:=af) (g:=g) (w:=w) o (λx u y=>j.eval y) p;simp only [Oper.wp,t,Oper.upon_enter];refine (q w c).mono λe w' z=>?_;obtain ⟨i,rfl,h,A⟩:=z;exact s _ _ (r (nv w w') i ((r_ w w').mono c.fr.size) A _ _ (j.put m _) (c.view h (yx w w') (r_ w w')))
end
section
variable {P:Program} {ops:Array Oper} {Q:Exit->Act->World->Prop} {n:Nat} {ds:List Deferred} {l:List (Nat×Value)} {W:World->Prop} {w0:World} {F:List Nat} {L:List aS} {Vs:List View}
 {rest:List Oper} {d:Nat} {ty:TypeId} {pos:String} {af:Array Edge} {g:Option (Nat×Bool)}
def bY (e:TypeId) (size:Nat) (v:Value) (m:Nat) (xs:List Value):aS:=
 ⟨v.ownBlock.toList,λw=>w.ownsRow 0 e size v m xs,
  λw w' h b=>by
   obtain ⟨f,a⟩:=b;refine ⟨f,?_⟩
   rcases a with a | ⟨g,cap,i,hv,j,c,r⟩
   · exact .inl a
   · exact .inr ⟨g,cap,i,hv,j,by rw [h g (by simp [hv,Value.ownBlock])]; exact c,r⟩,
  λw b k d=>by
   obtain ⟨f,a⟩:=b
   rcases a with ⟨a,_⟩ | ⟨g,cap,i,hv,j,c,r⟩
   · subst a; simp [Value.ownBlock] at d
   · subst hv; simp [Value.ownBlock] at d; subst d; exact lt_of_heap c⟩
theorem Ws.e4 {w:World} (h:Ws w0 F L Vs w) (e:TypeId) (size:Nat):Ws w0 F (bY e size (.slice none 0 0) 0 []::L) Vs w:=by
 have:=Ws.pY (L:=[]) (L':=[bY e size (.slice none 0 0) 0 []]) (L2:=L) (by simpa using h) (Fr.refl _ _)
   (by intro b a; simp at a; subst a; exact World.ownsRow_nil _ _ _ _) (by simp [bY,Value.ownBlock]) (by simp [bY,Value.ownBlock])
 simpa using this
theorem Ws.CH {w:World} (h:Ws w0 F L Vs w) (i:Nat) {b m cap:Nat} {a:Array Value} {e:TypeId} {size:Nat} (c:L[i]? = some (aq b (.cells a e (0,0)))) (d:m<=cap) (g:cap<=maxLen) (f:a.size=cap*size) :
   Ws w0 F (L.set i (bY e size (.slice (some ⟨b,0,none⟩) m cap) m (a.toList.take (m*size)))) Vs w:=by
 have j:w.heap[b]? = some (.cells a e (0,0)):=h.kn _ (ed c);refine Ws.pZ h i c (Fr.refl _ _) ?_ (by simp [bY,Value.ownBlock]) (by simp [bY,aq,Value.ownBlock]);exact ⟨by rw [List.length_take,Array.length_toList,f]; exact Nat.min_eq_left (Nat.mul_le_mul_right _ d),.inr ⟨b,cap,a,O,Nat.zero_le _,j,d,g,f,O⟩⟩
structure aE (P:Program) (t e:TypeId) (z:Value) (size bytes:Nat):Prop where
 under:P.underlying t=some (.slice e)
 info:∃i,P.info? e=some i/\i.zero=some z/\i.size=size/\i.bytes=bytes
 zs:z.cells.size=size
 pos:0<size
def CI (P:Program) (t:TypeId):Option (TypeId×Value×Nat×Nat):=match P.underlying t with
 | some (.slice e)=>match P.info? e with
   | some i=>match i.zero with
     | some a=>bif Nat.beq a.cells.size i.size&&Nat.blt 0 i.size then some (e,a,i.size,i.bytes) else none
     | none=>none
   | none=>none
 | _=>none
theorem hV {t e:TypeId} {d:Value} {size f:Nat} (h:CI P t=some (e,d,size,f)):aE P t e d size f:=by
 unfold CI at h
 cases b:P.underlying t with
 | none=>simp [b] at h
 | some g=>
   cases g<;>simp [b] at h
   rename_i j
   cases hi:P.info? j with
   | none=>simp [hi] at h
   | some i=>
     simp [hi] at h
     cases c:i.zero with
     | none=>simp [c] at h
     | some k=>
       simp only [c] at h
       cases a:(Nat.beq k.cells.size i.size&&Nat.blt 0 i.size) with
       | false=>rw [a] at h; cases h
       | true=>
         rw [a] at h;simp at h;obtain ⟨rfl,rfl,rfl,rfl⟩:=h;simp only [Bool.and_eq_true] at a;exact ⟨b,⟨i,hi,c,O,O⟩,Nat.eq_of_beq_eq_true a.1,Nat.le_of_ble_eq_true a.2⟩
theorem Kk {t e ty:TypeId} {l v d:Value} {size q m c k:Nat} {a:Addr} {xs news:List Value} {w w':World} (f:aE P t e l size q) (z:w.ownsRow 0 e size v m xs)
   (h:news.length=k*size) (n:∀j u,news[j]? = some u->w.cell? (a.add j)=some u) (A:∀u ∈ news,u.oneCell'=true)
   (B:m+k<=maxLen) (r:(m+k)*q<=140737488355328) (o:(Builtin.append_ #[t,t] ty #[v,.slice (some a) k c]).run P w = .ok d w') (C:d = .slice none 0 0↔v = .slice none 0 0/\k=0) :
   d.ownBlock=v.ownBlock\/d.ownBlock=some w.heap.size:=by
 obtain ⟨p,hi,s,D,E⟩:=f.info;subst D; subst E
 have F:((m+k:Nat):Int)<=9223372036854775807:=by simp only [maxLen] at B; omega
 obtain ⟨G,H⟩:=z
 rcases H with ⟨rfl,rfl⟩ | ⟨g,cap,I,rfl,_,x,N,Q,J,K⟩
 · by_cases L:k=0
   · exact .inl (by rw [C.2 ⟨O,L⟩])
   · have b:=run_append_nil (P:=P) w t ty e p l f.under hi s a k c news h n (by omega) (by omega) (by simp at r; omega)
     rw [o] at b
     injection b with b _
     exact .inr (by rw [b]; rfl)
 · by_cases y:m+k<=cap
   · have b:=run_append_room (P:=P) w t ty e p f.under hi g m cap I x a k c news h n A y (by
       rw [h,J,<-Nat.add_mul]; exact Nat.mul_le_mul_right _ y)
     rw [o] at b
     injection b with b _
     exact .inl (by rw [b]; rfl)
   · have M:∀j v,xs[j]? = some v->w.cell? ((⟨g,0,none⟩:Addr).add j)=some v:=by
       intro j u i;rw [lO,<-K] at *;refine cell_of_heap x ?_;rw [List.getElem?_take] at i
       split at i
       · simpa [f_] using i
       · cases i
     have b:=run_append_grow (P:=P) w t ty e p l f.under hi s ⟨g,0,none⟩ m cap xs G M a k c news h n (by omega) F (growslice_fits (by omega) r);rw [o] at b
     injection b with b _
     exact .inr (by rw [b]; rfl)
theorem WL.append {t e:TypeId} {z v:Value} {size r m c k:Nat} {s x:Operand} {a:Addr} {xs news:List Value} (i:Nat) (K:dq ops l g) (M:Nat.blt d n=true) (o:aE P t e z size r)
   (N:bk l s=some v) (O:bk l x=some (.slice (some a) k c)) (A:L[i]? = some (bY e size v m xs))
   (B:news.length=k*size) (C:∀w,Ws w0 F L Vs w->∀j u,news[j]? = some u->w.cell? (a.add j)=some u) (D:∀u ∈ news,u.oneCell'=true)
   (E:m+k<=maxLen) (G:(m+k)*r<=140737488355328)
   (h:∀b,(b = .slice none 0 0↔v = .slice none 0 0/\k=0)->WL P ops Q n ds ((d,b)::l) (Ws w0 F (L.set i (bY e size b (m+k) (xs++news))) Vs) rest) :
   WL P ops Q n ds l (Ws w0 F L Vs) (⟨some d,.call ⟨.builtin .append,#[s,x],#[t,t]⟩,ty,pos,af,g⟩::rest):=by
 refine WL.step K λR w y q aa S=>?_;obtain ⟨T,hi,U,V,W⟩:=o.info;have H:w.ownsRow 0 e size v m xs:=q.kn _ (ed A);obtain ⟨b,w',I,X,p,J⟩:=run_append_own (P:=P) w 0 t ty e T z size r o.under hi U V W o.zs o.pos v m xs H a k c news B (C w q) D E G (Nat.zero_le _)
 have Y:(execOp R.eval ⟨some d,.call ⟨.builtin .append,#[s,x],#[t,t]⟩,ty,pos,af,g⟩).run P w = .ok (.value b) w':=by
   simp only [execOp,resolve,List.map_toArray,List.map_cons,List.map_nil,y.eval N,y.eval O,Sem.run_bind,Sem.run_pure,Result.andThen_ok,invoke,builtin,I]
 simp only [Oper.wp,Y,Oper.upon_value];refine S _ _ (h b J _ _ (y.put M _) ?_);refine Ws.pZ q i A ⟨p.os,p.tape,p.output,p.size,λj f Z=>p.block j f λe=>Z ?_⟩ X ?_ λj f=>?_
 · simp [bY,<-e]
 · cases hv:b.ownBlock<;>simp [bY,hv]
 · simp only [bY,Option.mem_toList] at f ⊢
   rcases Kk o H B (C w q) D E G I J with e | e
   · exact .inl (by rw [<-e]; exact f)
   · rw [e] at f; injection f with f; exact .inr (by omega)
end
section
variable {P:Program} {ops:Array Oper} {Q:Exit->Act->World->Prop} {n:Nat} {ds:List Deferred} {l:List (Nat×Value)} {W:World->Prop} {w0:World} {F:List Nat} {L:List aS} {Vs:List View}
def mm (us l:List (Nat×Value)):Bool:=us.all λp=>(lk l p.1).isNone
theorem Kl {us:List (Nat×Value)} (a:mm us l=true) {t:Nat} {u:Value} (b:lk l t=some u):lk (us++l) t=some u:=by
 induction us with
 | nil=>exact b
 | cons p r d=>
   obtain ⟨k,v⟩:=p;simp only [mm,List.all_cons,Bool.and_eq_true] at a;simp only [List.cons_append,lk]
   cases e:Nat.beq k t with
   | false=>exact d a.2
   | true=>
     have:=Nat.eq_of_beq_eq_true e;subst this;have c:=a.1;rw [b] at c;cases c
theorem Ag.forget {a:Act} {us:List (Nat×Value)} (h:Ag n ds (us++l) a) (b:mm us l=true):Ag n ds l a:=
 ⟨h.size,h.defs,λt u c=>h.aI t u (Kl b c)⟩
theorem Ag.hB {a:Act} {b:List (Nat×Value)} (m:Nat) (h:Ag n ds b a) (c:b.drop m=l) (d:mm (b.take m) l=true):Ag n ds l a:=by
 subst c;rw [<-List.take_append_drop m b] at h;exact h.forget d
def j1 (ops:Array Oper):List (Nat×Value)->List Oper->Option (List (Nat×Value))
 | l,[]=>some l
 | l,o::r=>match o.guard,o.dst with
   | some (j,b),some d=>match (ops[j]?).bind (·.dst) with
     | some a=>match lk l a with
       | some (.bool c)=>bif (c != b) then j1 ops ((d,undef)::l) r else none
       | some (.tuple _)=>j1 ops ((d,undef)::l) r
       | _=>none
     | none=>none
   | _,_=>none
def nR (n:Nat) (os:List Oper):Bool:=os.all λo=>match o.dst with | some d=>Nat.blt d n | none=>true
theorem CJ {a:Act} {l:List (Nat×Value)} (c:Ag n ds l a) {t:Nat} {v:Value} (h:lk l t=some v) (hv:v≠undef\/t<n):a.tmps[t]? = some v:=by
 have b:=c.aI t v h;rw [Array.getD_eq_getD_getElem?] at b
 rcases Nat.lt_or_ge t a.tmps.size with e | d
 · rw [Array.getElem?_eq_getElem e] at b ⊢
   simpa using b
 · rw [Array.getElem?_eq_none d] at b
   rcases hv with hv | hv
   · exact absurd (by simpa using b.symm) hv
   · rw [c.size] at d; omega
theorem WL.yD {i rest:List Oper} {p:List (Nat×Value)}:∀{l:List (Nat×Value)},j1 ops l i=some p->nR n i=true->(∀a w,Ag n ds p a->W w->wpList P ops Q rest a w)->
   ∀a w,Ag n ds l a->W w->wpList P ops Q (i++rest) a w:=by
 induction i with
 | nil=>intro l c _ h a w f q; simp [j1] at c; subst c; exact h a w f q
 | cons o r A=>
   intro l c s h a w f q;simp only [j1] at c;simp only [nR,List.all_cons,Bool.and_eq_true] at s
   have key:∀d,o.dst=some d->Region.wanted o (yielded ops a.tmps)=false->j1 ops ((d,undef)::l) r=some p->wpList P ops Q (o::r++rest) a w:=by
     intro d e B C
     have D:Nat.blt d n=true:=by have:=s.1; rw [e] at this; exact this
     simp only [List.cons_append,wpList,B];rw [e];exact A C s.2 h _ _ (f.put D undef) q
   cases g:o.guard with
   | none=>simp [g] at c
   | some E=>
     obtain ⟨j,b⟩:=E
     cases e:o.dst with
     | none=>simp [g,e] at c
     | some d=>
       simp only [g,e] at c
       cases k:(ops[j]?).bind (·.dst) with
       | none=>simp [k] at c
       | some t=>
         simp only [k] at c
         cases m:lk l t with
         | none=>simp [m] at c
         | some v=>
           simp only [m] at c;have hv:=f.aI t v m
           cases v with
           | bool x=>
             cases y:(x != b) with
             | false=>simp [y] at c
             | true=>
               simp only [y,cond_true] at c;refine key d e ?_ c;have F:=CJ f m (.inl (by simp [undef]))
               have z:yielded ops a.tmps j=some x:=by simp [yielded,k,F]
               simp only [Region.wanted,g,z]
               cases b<;>cases x<;>first | rfl | (simp at y)
           | tuple vs=>
             refine key d e ?_ c
             have z:yielded ops a.tmps j=none:=by
               simp only [yielded,k,Option.bind_some];rw [Array.getD_eq_getD_getElem?] at hv
               cases G:a.tmps[t]? with
               | none=>rfl
               | some u=>simp [G] at hv; simp [hv]
             simp [Region.wanted,g,z]
           | _=>simp at c
theorem Km {d rest:List Oper}:∀(a:Act) (w:World),wpList P ops (Exit.then (wpList P ops Q rest) Q) d a w->wpList P ops Q (d++rest) a w:=by
 induction d with
 | nil=>intro a w h; exact h
 | cons o r c=>
   intro a w h;simp only [List.cons_append,wpList] at h ⊢
   split
   · rename_i f
     rw [if_pos f] at h
     rcases h with h | ⟨g,a2,i,j⟩
     · left
       unfold Oper.wp at h ⊢;unfold Oper.upon at h ⊢
       split at h
       all_goals first
         | exact c _ _ h
         | exact h
         | (refine h.mono λe w' b=>?_
            cases e with
            | returned v=>exact c _ _ b
            | panicked m=>exact b
            | outgrown=>obtain ⟨a3,k,l⟩:=b; exact ⟨a3,k,l⟩)
         | exact h.mono λv w' b=>c _ _ b
     · exact .inr ⟨g,a2,i,j⟩
   · rename_i f
     rw [if_neg f] at h;exact c _ _ h
theorem Kn {i:Exit->Act->World->Prop} (b:∀e a w,Q e a w->i e a w) {f:List Oper}:∀(a:Act) (w:World),wpList P ops Q f a w->wpList P ops i f a w:=by
 induction f with
 | nil=>intro a w h; exact b _ _ _ h
 | cons o r d=>
   intro a w h;simp only [wpList] at h ⊢
   split
   · rename_i g
     rw [if_pos g] at h
     rcases h with h | ⟨j,a2,k,l⟩
     · left
       unfold Oper.wp at h ⊢;unfold Oper.upon at h ⊢
       split at h
       all_goals first
         | exact d _ _ h
         | exact b _ _ _ h
         | exact h
         | (refine h.mono λe w' c=>?_
            cases e with
            | returned v=>exact d _ _ c
            | panicked p=>exact b _ _ _ c
            | outgrown=>obtain ⟨a3,m,n⟩:=c; exact ⟨a3,m,b _ _ _ n⟩)
         | exact h.mono λv w' c=>d _ _ c
     · exact .inr ⟨j,a2,k,b _ _ _ l⟩
   · rename_i g
     rw [if_neg g] at h;exact d _ _ h
def nS (Q:Exit->Act->World->Prop) (n:Nat) (ds:List Deferred) (l:List (Nat×Value)) (W:World->Prop) (dx:Nat) (x:Value):Exit->Act->World->Prop:=
 Exit.then (λa w=>(Ag n ds l a/\a.tmps.getD dx undef=x)/\W w) Q
theorem Gt {b:List (Nat×Value)} {dx:Nat} {x:Value} (m:Nat) (d:lk b dx=some x) (e:b.drop m=l) (f:mm (b.take m) l=true):WL P ops (nS Q n ds l W dx x) n ds b W []:=
 λa w c g=>⟨⟨c.hB m e f,c.aI _ _ d⟩,g⟩
theorem Ag.known {a:Act} (h:Ag n ds l a) {d:Nat} {v:Value} (hv:lk l d=some v):Ag n ds ((d,v)::l) a:=
 ⟨h.size,h.defs,λt u b=>by
   simp only [lk] at b
   cases c:Nat.beq d t with
   | true=>
     rw [c] at b;have:=Nat.eq_of_beq_eq_true c;subst this;simp at b; subst b;exact h.aI _ _ hv
   | false=>rw [c] at b; exact h.aI t u b⟩
theorem Ag.vT {a:Act} {d:Nat} {v:Value} (h:Ag n ds ((d,v)::l) a) (hv:lk l d=some v):Ag n ds l a:=
 ⟨h.size,h.defs,λt u b=>by
   refine h.aI t u ?_;simp only [lk]
   cases c:Nat.beq d t with
   | true=>
     have:=Nat.eq_of_beq_eq_true c;subst this;rw [hv] at b
     simpa using b
   | false=>exact b⟩
theorem WL.tL (m:Nat) {os:List Oper} {f k dx:Nat} (d:Bool) {c x:Bool} {t a b:Operand} {ty:TypeId} {pos:String} {af:Array Edge} {g:Option (Nat×Bool)} {y:List (Nat×Value)}
   (F:os[m]? = some ⟨some k,.pick t a b,ty,pos,af,g⟩) (G:t = .tmp f) (s:lk l f=some (.bool c)) (H:nR n (os.take m)=true)
   (I:dq ops l g) (J:Nat.blt k n=true)
   (j:(a,b)=(bif d then (Operand.tmp dx,Operand.const (.bool false)) else (Operand.const (.bool true),Operand.tmp dx)))
   (K:j1 ops ((f,.bool (!d))::l) (os.take m)=some y) (L:y.drop m=(f,.bool (!d))::l) (M:mm (y.take m) ((f,.bool (!d))::l)=true)
   (N:c=d->WL P ops (nS Q n ds ((f,.bool d)::l) W dx (.bool x)) n ds ((f,.bool d)::l) W (os.take m))
   (h:WL P ops Q n ds ((k,.bool (bif d then c&&x else c||x))::l) W (os.drop (m+1))):WL P ops Q n ds l W os:=by
 intro z w A B
 have O:os=os.take m++⟨some k,.pick t a b,ty,pos,af,g⟩::os.drop (m+1):=by
   obtain ⟨R,S⟩:=List.getElem?_eq_some_iff.1 F;rw [<-S,List.getElem_cons_drop R,List.take_append_drop]
 rw [O];subst G
 have C:∀(i:Act) (w':World) (r:Bool),Ag n ds l i->W w'->(if c then i.eval a else i.eval b) = .bool r->r=(bif d then c&&x else c||x)->
     wpList P ops Q (⟨some k,.pick (.tmp f) a b,ty,pos,af,g⟩::os.drop (m+1)) i w':=by
   intro i w' r p u hv T;refine wpList_step λZ U=>?_;rw [if_pos (dq.wanted (o:=⟨some k,.pick (.tmp f) a b,ty,pos,af,g⟩) I p)]
   have V:(execOp i.eval ⟨some k,.pick (.tmp f) a b,ty,pos,af,g⟩).run P w' = .ok (.value (.bool r)) w':=by
     have X:i.eval (.tmp f) = .bool c:=p.aI f _ s;simp only [execOp,X,asBool,Sem.run_bind,Sem.run_pure,Result.andThen_ok,hv]
   simp only [Oper.wp,V,Oper.upon_value];exact U _ _ (h _ _ (by rw [<-T]; exact p.put J _) u)
 by_cases q:c=d
 · refine Km _ _ (Kn (Q:=nS Q n ds ((f,.bool d)::l) W dx (.bool x)) (λe i w' D=>?_) _ _ (N q z w (A.known (by rw [<-q]; exact s)) B))
   cases e with
   | normal=>
     obtain ⟨⟨p,E⟩,u⟩:=D;refine C i w' x (p.vT (by rw [<-q]; exact s)) u ?_ ?_
     · subst q
       cases c
       · simp at j; obtain ⟨rfl,rfl⟩:=j; exact E
       · simp at j; obtain ⟨rfl,rfl⟩:=j; exact E
     · subst q; cases c<;>rfl
   | _=>exact D
 · have v:c = !d:=by cases c<;>cases d<;>first | rfl | exact absurd rfl q
   refine WL.yD K H (λi w' p u=>?_) z w (A.known (by rw [<-v]; exact s)) B;have Y:Ag n ds l i:=(p.hB m L M).vT (by rw [<-v]; exact s);refine C i w' c Y u ?_ ?_
   · subst v
     cases d
     · simp at j; obtain ⟨rfl,rfl⟩:=j; rfl
     · simp at j; obtain ⟨rfl,rfl⟩:=j; rfl
   · subst v; cases d<;>rfl
theorem La (m:Nat) {os:List Oper} {d e dx:Nat} {c x:Bool} {t a b:Operand} {ty:TypeId} {pos:String} {af:Array Edge} {g:Option (Nat×Bool)} {f:List (Nat×Value)}
   (i:os[m]? = some ⟨some e,.pick t a b,ty,pos,af,g⟩) (j:t = .tmp d) (k:lk l d=some (.bool c)) (o:nR n (os.take m)=true)
   (p:dq ops l g) (q:Nat.blt e n=true) (r:(a,b)=(Operand.tmp dx,Operand.const (.bool false)))
   (s:j1 ops ((d,.bool false)::l) (os.take m)=some f) (u:f.drop m=(d,.bool false)::l) (v:mm (f.take m) ((d,.bool false)::l)=true)
   (w:c=true->WL P ops (nS Q n ds ((d,.bool true)::l) W dx (.bool x)) n ds ((d,.bool true)::l) W (os.take m))
   (h:WL P ops Q n ds ((e,.bool (c&&x))::l) W (os.drop (m+1))):WL P ops Q n ds l W os:=
 WL.tL m true i j k o p q r s u v w h
theorem Lo (m:Nat) {os:List Oper} {d e dx:Nat} {c x:Bool} {t a b:Operand} {ty:TypeId} {pos:String} {af:Array Edge} {g:Option (Nat×Bool)} {f:List (Nat×Value)}
   (i:os[m]? = some ⟨some e,.pick t a b,ty,pos,af,g⟩) (j:t = .tmp d) (k:lk l d=some (.bool c)) (o:nR n (os.take m)=true)
   (p:dq ops l g) (q:Nat.blt e n=true) (r:(a,b)=(Operand.const (.bool true),Operand.tmp dx))
   (s:j1 ops ((d,.bool true)::l) (os.take m)=some f) (u:f.drop m=(d,.bool true)::l) (v:mm (f.take m) ((d,.bool true)::l)=true)
   (w:c=false->WL P ops (nS Q n ds ((d,.bool false)::l) W dx (.bool x)) n ds ((d,.bool false)::l) W (os.take m))
   (h:WL P ops Q n ds ((e,.bool (c||x))::l) W (os.drop (m+1))):WL P ops Q n ds l W os:=
 WL.tL m false i j k o p q r s u v w h
end
section
variable {P:Program} {ops:Array Oper} {Q:Exit->Act->World->Prop} {n:Nat} {ds:List Deferred} {l l':List (Nat×Value)} {W:World->Prop} {w0:World} {F:List Nat} {L:List aS} {Vs:List View}
 {rest:List Oper} {d:Nat} {ty:TypeId} {pos:String} {af:Array Edge} {g:Option (Nat×Bool)}
theorem av {ι:Type} {c:Code} (U:ι->List (Nat×Value)) (a:List (Nat×Value)) (b:ι->World->Prop) (R:ι->Prop) (e:ι->Nat) (d:ι) (f:R d) (g:∀p ∈ U d++a,lk l p.1=some p.2) (h:∀w,W w->b d w)
   (k:∀i,R i->WC P c (Exit.then (λm w'=>∃j,e j<e i/\R j/\Ag n ds (U j++a) m/\b j w') Q) n ds (U i++a) (b i)):WC P (.loop c) Q n ds l W:=
 WC.loop (λi=>U i++a) b R e d f g h k
theorem CW {ι:Type} {c:Code} (U:ι->List (Nat×Value)) (a:List (Nat×Value)) (R:ι->Prop) (b:ι->Nat) (d:ι) (e:R d) (f:∀p ∈ U d++a,lk l p.1=some p.2)
   (g:∀i,R i->WC P c (Exit.then (λk w'=>∃j,b j<b i/\R j/\Ag n ds (U j++a) k/\W w') Q) n ds (U i++a) W):WC P (.loop c) Q n ds l W:=
 WC.loop (λi=>U i++a) (λ_=>W) R b d e f (λ_ h=>h) g
theorem WL.make {t e:TypeId} {x y:Operand} {i j:IntKind} {c a:Int} {f:Value} {size k:Nat} (p:dq ops l g) (q:Nat.blt d n=true) (m:aE P t e f size k)
   (r:bk l x=some (.int i c)) (s:bk l y=some (.int j a)) (u:0<=c) (v:c<=a) (z:(k:Int)*a<=281474976710656) (A:a<=9223372036854775807)
   (h:∀b,WL P ops Q n ds ((d,.slice (some ⟨b,0,none⟩) c.toNat a.toNat)::l) (Ws w0 F (aq b (.cells (madeCells f.cells (a.toNat*size)) e (0,0))::L) Vs) rest) :
   WL P ops Q n ds l (Ws w0 F L Vs) (⟨some d,.makeSlice t x y,ty,pos,af,g⟩::rest):=by
 obtain ⟨B,hi,C,D,E⟩:=m.info;refine WL.new (mk:=λb=>.slice (some ⟨b,0,none⟩) c.toNat a.toNat) p q (λG w o H=>?_) h;have:=run_make (P:=P) w t e B f m.under hi C i j c a u v (by rw [E]; exact z) A;rw [D] at this;simp [execOp,o x _ r,o y _ s,this]
theorem WL.mH {t:TypeId} {x y:Operand} {b o k:Nat} {a:Obj} {v:Value} (i:Nat) (c:Obj) (d:dq ops l g) (e:bk l x=some (.pointer (some ⟨b,o,none⟩))) (f:bk l y=some v) (j:L[i]? = some (aq b a))
   (m:dk P t=some k) (p:(eB v).length=k) (q:(eB v).all (·.oneCell')=true) (r:o0 a o k=true) (s:oZ a o (eB v)=c)
   (h:WL P ops Q n ds l (Ws w0 F (L.set i (aq b c)) Vs) rest) :
   WL P ops Q n ds l (Ws w0 F L Vs) (⟨none,.store t x y,ty,pos,af,g⟩::rest):=aO i d e f j m p q r (by rw [s]; exact h)
end
section
variable {P:Program} {l:List (Nat×Value)} {W:World->Prop} {w0:World} {F:List Nat} {L:List aS} {Vs:List View}
 {d:Option Tmp} {ty:TypeId} {pos:String} {af:Array Edge} {g:Option (Nat×Bool)}
theorem Ko {t:TypeId} {x y:Operand} {a:Option Addr} {m c s:Nat} {k:IntKind} {h:Int} (b:eO P t=some s) (j:bk l x=some (.slice a m c)) (A:∀p,a=some p->p.spot=none) (n:bk l y=some (.int k h)) (o:0<=h) (q:h<=c) :
   Yl P l W ⟨d,.slice t x none (some y) none,ty,pos,af,g⟩ (.slice a h.toNat c):=by
 intro B w i _;unfold eO at b
 cases f:P.underlying t with
 | none=>simp [f] at b
 | some r=>
   cases r<;>simp [f] at b
   rename_i e;obtain ⟨u,hi,rfl⟩:=b
   have v:(if c=0 then a else a.map (·.add (0*u.size)))=a:=by
     split
     · rfl
     · cases a with
       | none=>rfl
       | some p=>simp [Addr.add]
   have z:h<=(c:Int):=q;simp [execOp,i x _ j,i y _ n,Instr.sliceAt,Instr.slice,Instr.sliceBounds,Instr.sliceBound,asIntOf,run_underlying f,sizeOf,typeInfo,hi,o,z]
   simpa using v
end
def bI (a:View) (b o:Nat) (cs:List Value):Prop:=∀j v,cs[j]? = some v->vc a b (o+j)=some v
theorem bI.mono {a c:View} (h:bw a c) {b o:Nat} {cs:List Value} (r:bI a b o cs):bI c b o cs:=λj v hv=>h.cell (r j v hv)
structure Sl {α:Type} (rd:View->Nat->Nat->α->Prop) (k:Nat) (H:View) (a:Option Addr) (c:Nat) (l:List α):Prop where
 cap:l.length<=c
 max:c<=9223372036854775807
 spot:∀p,a=some p->0<c->p.spot=none
 bJ:∀i x,l[i]? = some x->∃b o,a=some ⟨b,o,none⟩/\rd H b (o+i*k) x
theorem Sl.mono {α:Type} {rd:View->Nat->Nat->α->Prop} {k:Nat} {d e:View} {a:Option Addr} {c:Nat} {l:List α} (f:∀b o x,rd d b o x->rd e b o x) (h:Sl rd k d a c l):Sl rd k e a c l:=
 ⟨h.cap,h.max,h.spot,λi x g=>let ⟨b,o,j,m⟩:=h.bJ i x g; ⟨b,o,j,f _ _ _ m⟩⟩
theorem Sl.nil {α:Type} {rd:View->Nat->Nat->α->Prop} {k:Nat} {a:View}:Sl rd k a none 0 ([]:List α):=⟨Nat.le_refl _,by decide,by simp,by simp⟩
section
variable {P:Program} {l:List (Nat×Value)} {W:World->Prop} {d:Option Tmp} {ty:TypeId} {pos:String} {af:Array Edge} {g:Option (Nat×Bool)}
theorem Yo {t:TypeId} {x y:Operand} {a:Option Addr} {b o n c s:Nat} {k:IntKind} {i:Nat} (e:eO P t=some s) (f:bk l x=some (.slice a n c)) (h:bk l y=some (.int k (i:Int))) (j:a=some ⟨b,o,none⟩) (m:i<n) :
   Yl P l W ⟨d,.indexAddr t x y,ty,pos,af,g⟩ (.pointer (some ⟨b,o+i*s,none⟩)):=by subst j; exact CD e f h m
theorem d_ {t:TypeId} {x y:Operand} {a:Option Addr} {b o n c s:Nat} {k:IntKind} {i:Int} (e:eO P t=some s) (f:bk l x=some (.slice a n c)) (h:bk l y=some (.int k i)) (j:a=some ⟨b,o,none⟩) (m:0<=i) (p:i<n) :
   Yl P l W ⟨d,.indexAddr t x y,ty,pos,af,g⟩ (.pointer (some ⟨b,o+i.toNat*s,none⟩)):=by subst j; exact l9 e f h m p
end
section
variable {P:Program} {md:Region.Mode} {ops:Array Oper} {C:World->Prop} {Q:Exit->Act->World->Prop}
def YV (P:Program) (ops:Array Oper) (C:World->Prop) (o:Oper) (v:Value) (a:Act):Prop:=
 (Region.wanted o (yielded ops a.tmps)=true/\∀w,C w->(execOp a.eval o).run P w = .ok (.value v) w)\/
 (Region.wanted o (yielded ops a.tmps)=false/\v=undef)
theorem YV.of_same {o:Oper} {v:Value} {a b:Act} (c:YV P ops C o v a) (d:execOp b.eval o=execOp a.eval o)
   (e:Region.wanted o (yielded ops b.tmps)=Region.wanted o (yielded ops a.tmps)):YV P ops C o v b:=by
 unfold YV at *;rw [d,e];exact c
theorem YV.wpOp {i:Nat} {o:Oper} {v:Value} {a:Act} {w:World} (hi:ops[i]? = some o) (d:YV P ops C o v a) (e:C w) {c:Act->World->Prop} (h:c (a.put o.dst v) w):wpOp P ops Q i c a w:=by
 unfold Go.wpOp;simp only [hi]
 rcases d with ⟨b,hv⟩ | ⟨b,rfl⟩
 · simp only [b,if_true]
   refine .inl ?_;simp only [Oper.wp,hv w e,Oper.upon_value];exact h
 · simp only [b,Bool.false_eq_true,if_false]; exact h
def mZ (P:Program) (md:Region.Mode) (ops:Array Oper) (C:World->Prop) (Q:Exit->Act->World->Prop):Nat->Array Bool->Act->World->Prop
 | 0,listed,a,w=>C w/\Region.ready md ops listed=[]/\Q .normal a w
 | fuel+1,listed,a,w=>C w/\(Region.ready md ops listed=[]->Q .normal a w)/\
   ∀i ∈ Region.ready md ops listed,wpOp P ops Q i (mZ P md ops C Q fuel (listed.setIfInBounds i true)) a w
theorem vU:∀(fuel:Nat) (b:Array Bool) (a:Act) (w:World),mZ P md ops C Q fuel b a w->wpAny P md ops Q fuel b a w
 | 0,_,_,_,h=>h.2
 | fuel+1,b,a,w,h=>⟨h.2.1,λi hi=>wpOp_mono (λc w' d=>vU fuel _ c w' d) (h.2.2 i hi)⟩
theorem mZ.c {fuel:Nat} {b:Array Bool} {a:Act} {w:World} (h:mZ P md ops C Q fuel b a w):C w:=by cases fuel<;>exact h.1
theorem CL {j:Nat} {g i:Oper} {v:Value} (B:ops[j]? = some i) (D:g.apart ops i=true)
   (E:∀cs b,g.op≠.select cs b) (q:∀cs b,i.op≠.select cs b)
   (s:∀c a w,Q (.panic c) (a.put g.dst v) w->Q (.panic c) a w) {t:Act->World->Prop} {a:Act} {w:World}
   (k:YV P ops C g v a) (h:wpOp P ops Q j t (a.put g.dst v) w) :
   wpOp P ops Q j (λy w'=>YV P ops C g v y/\t (y.put g.dst v) w') a w:=by
 obtain ⟨o,l,z⟩:=Oper.apart_spec D
 have o1:∀(a:Act),YV P ops C g v a->∀u,YV P ops C g v (a.put i.dst u):=λa k u=>
   k.of_same (execOp_put g E a i.dst u z) (wanted_put g a i.dst u z)
 have F:∀d,YV P ops C g v { a with defers:=d::a.defers }:=λd=>k.of_same rfl rfl;unfold wpOp at *;simp only [B] at *;rw [wanted_put i a g.dst v o] at h
 split
 · rename_i p
   simp only [p,if_true] at h
   rcases h with h | ⟨A,G⟩
   case inr=>exact .inr ⟨by unfold Oper.asks at *; rw [execOp_put i q a g.dst v o] at A; exact A,G⟩
   refine .inl ?_;unfold Oper.wp at *;rw [execOp_put i q a g.dst v o] at h
   generalize (execOp a.eval i).run P w=r at *
   cases r with
   | ok n w'=>
     cases n<;>simp only [Oper.upon] at h ⊢
     case value u=>exact ⟨o1 a k u,by rw [<-Act.put_comm a v u l]; exact h⟩
     case skip=>exact ⟨o1 a k _,by rw [<-Act.put_comm a v undef l]; exact h⟩
     case defer d=>
       refine ⟨o1 _ (F d) _,?_⟩;rw [<-Act.put_comm _ v undef l,<-Act.put_defers];exact h
     case enter f args=>
       refine Calls.mono h λe H m=>?_
       cases e with
       | returned u=>exact ⟨o1 a k u,by rw [<-Act.put_comm a v u l]; exact m⟩
       | panicked c=>exact s _ _ _ m
       | outgrown=>exact m
     case row row args=>exact Rows.mono h λu H m=>⟨o1 a k u,by rw [<-Act.put_comm a v u l]; exact m⟩
   | halt x w'=>
     cases x<;>simp only [Oper.upon] at h ⊢
     case panic u=>exact s _ _ _ h
 · rename_i p
   simp only [p] at h;exact ⟨o1 a k _,by rw [<-Act.put_comm a v undef l]; exact h⟩
theorem yE {i:Nat} {g:Oper} {v:Value} (hi:ops[i]? = some g) (y:∀(j:Nat) (o:Oper) cs b,ops[j]? = some o->o.op≠.select cs b)
   (F:∀c a w,Q (.panic c) (a.put g.dst v) w->Q (.panic c) a w) :
   ∀(fuel:Nat) (d:Array Bool) (a:Act) (w:World),
     (∀j l,ops[j]? = some l->j≠i->d.getD j true=false->(∀e ∈ l.after,Region.binds md e=true->e.on≠i)->g.apart ops l=true)->
     i ∈ Region.ready md ops d->YV P ops C g v a->C w->
     mZ P md ops C Q fuel (d.setIfInBounds i true) (a.put g.dst v) w->mZ P md ops C Q (fuel+1) d a w:=by
 intro fuel
 induction fuel with
 | zero=>
   intro d a w _ m r p q;refine ⟨p,λh=>(by rw [h] at m; cases m),λj s=>?_⟩
   by_cases f:j=i
   · subst f; exact r.wpOp hi p q
   · have:=ready_mono s f
     rw [q.2.1] at this;cases this
 | succ fuel G=>
   intro d a w z m r p q;refine ⟨p,λh=>(by rw [h] at m; cases m),λj s=>?_⟩
   by_cases f:j=i
   · subst f; exact r.wpOp hi p q
   · have n:=q.2.2 j (ready_mono s f)
     obtain ⟨A,l,t,H⟩:=mem_ready.1 s
     have I:∀e ∈ l.after,Region.binds md e=true->e.on≠i:=λe J K L=>by
       have n:=H e J K;have B:=(mem_ready.1 m).1;rw [L] at n
       rcases Nat.lt_or_ge i d.size with u | u
       · simp [u] at B n; rw [B] at n; cases n
       · simp [Array.getElem?_eq_none u] at n
     have M:=CL t (z j l t f A I) (λcs b=>y i g cs b hi) (λcs b=>y j l cs b t) F r n
     have N:∀k ok,ops[k]? = some ok->k≠i->(d.setIfInBounds j true).getD k true=false->
         (∀e ∈ ok.after,Region.binds md e=true->e.on≠i)->g.apart ops ok=true:=λk ok O R D S=>by
       refine z k ok O R ?_ S
       by_cases E:j=k
       · subst E; exact A
       · rw [getD_set_ne true E] at D; exact D
     refine wpOp_mono (λT w' x=>G (d.setIfInBounds j true) T w' N (ready_mono m (Ne.symm f)) x.1 x.2.c ?_) M;rw [Array.setIfInBounds_comm _ _ f];exact x.2
def k_ (md:Region.Mode) (ops:Array Oper):List (Nat×Bool)->Array Bool->Bool
 | [],listed=>(Region.ready md ops listed).isEmpty
 | (i,q)::r,listed=>(bif q then (Region.ready md ops listed).contains i&&Region.free md ops listed i else Region.ready md ops listed==[i])&&k_ md ops r (listed.setIfInBounds i true)
def la (P:Program) (ops:Array Oper) (C:World->Prop) (Q:Exit->Act->World->Prop):List (Nat×Bool)->Act->World->Prop
 | [],a,w=>C w/\Q .normal a w
 | (i,true)::r,a,w=>C w/\∃o v,ops[i]? = some o/\YV P ops C o v a/\la P ops C Q r (a.put o.dst v) w
 | (i,false)::r,a,w=>C w/\wpOp P ops Q i (la P ops C Q r) a w
theorem yF (f:Region.noSelect ops=true) (g:∀c a w d v,Q (.panic c) (a.put d v) w->Q (.panic c) a w):∀(ord:List (Nat×Bool)) (e:Array Bool) (a:Act) (w:World),
   k_ md ops ord e=true->la P ops C Q ord a w->mZ P md ops C Q ord.length e a w
 | [],e,a,w,b,h=>⟨h.1,by simpa [k_] using b,h.2⟩
 | (i,true)::r,e,a,w,b,h=>by
   simp only [k_,cond_true,Bool.and_eq_true] at b;obtain ⟨m,o,v,l,n,h⟩:=h
   exact yE l (Region.noSelect_spec f) (λc a w=>g c a w o.dst v) r.length e a w (Region.free_spec l b.1.2) (by simpa using b.1.1) n m
     (yF f g r _ _ _ b.2 h)
 | (i,false)::r,e,a,w,b,h=>by
   simp only [k_,cond_false,Bool.and_eq_true,beq_iff_eq] at b;refine ⟨h.1,λp=>(by rw [p] at b; cases b.1),λj k=>?_⟩;rw [b.1] at k;simp at k;subst k;exact wpOp_mono (λs w' q=>yF f g r _ _ _ b.2 q) h.2
theorem zp {id:Nat} {a:Act} {w:World} {l:List Oper} (ord:List (Nat×Bool)) (e:P.follows .mixedOrders=true) (b:(Region.noSelect l.toArray&&(ord.length==l.toArray.size&&k_ .any l.toArray ord (Array.replicate l.toArray.size false)))=true)
   (f:∀c a w d v,Q (.panic c) (a.put d v) w->Q (.panic c) a w) (h:la P l.toArray C Q ord a w.drew):(Code.region id l.toArray true).wp P Q a w:=by
 simp only [Bool.and_eq_true,beq_iff_eq] at b;have:=vU (md:=.any) _ _ _ _ (yF b.1 f ord _ a w.drew b.2.2 h);rw [b.2.1] at this;exact wp_region_any e this
variable {n:Nat} {ds:List Deferred} {l:List (Nat×Value)} {W:World->Prop}
def WD (P:Program) (ops:Array Oper) (C:World->Prop) (Q:Exit->Act->World->Prop) (n:Nat) (ds:List Deferred) (l:List (Nat×Value)) (W:World->Prop) (ord:List (Nat×Bool)):Prop:=
 ∀a w,Ag n ds l a->W w->la P ops C Q ord a w
theorem WC.CM {id:Nat} {os:List Oper} (C:World->Prop) (ord:List (Nat×Bool)) (b:P.follows .mixedOrders=true) (e:(Region.noSelect os.toArray&&(ord.length==os.toArray.size&&k_ .any os.toArray ord (Array.replicate os.toArray.size false)))=true)
   (f:∀c a w d v,Q (.panic c) (a.put d v) w->Q (.panic c) a w) (g:∀w,W w->W w.drew) (h:WD P os.toArray C Q n ds l W ord):WC P (.region id os.toArray true) Q n ds l W:=
 λa w i j=>zp ord b e f (h a w.drew i (g w j))
theorem Dq {r:List (Nat×Bool)} {i d:Nat} {op:Op} {ty:TypeId} {pos:String} {af:Array Edge} {g:Option (Nat×Bool)} {v:Value} (hi:ops[i]? = some ⟨some d,op,ty,pos,af,g⟩) (e:dq ops l g) (f:Nat.blt d n=true)
   (j:∀w,W w->C w) (k:Yl P l C ⟨some d,op,ty,pos,af,g⟩ v) (h:WD P ops C Q n ds ((d,v)::l) W r):WD P ops C Q n ds l W ((i,true)::r):=by
 intro a w b c;refine ⟨j w c,_,v,hi,.inl ⟨dq.wanted (o:=⟨some d,op,ty,pos,af,g⟩) e b,λw' m=>k a.eval w' (λx u p=>b.eval p) m⟩,h _ _ (b.put f v) c⟩
theorem D0 {i d:Nat} {op:Op} {ty:TypeId} {pos:String} {af:Array Edge} {v:Value} {r:List (Nat×Bool)} (hi:ops[i]? = some ⟨some d,op,ty,pos,af,none⟩) (a:∀w,W w->C w) (b:Yl P l C ⟨some d,op,ty,pos,af,none⟩ v) (h:WD P ops C Q n ds ((d,v)::l) W r) (c:Nat.blt d n=true:=by rfl):WD P ops C Q n ds l W ((i,true)::r):=Dq hi (.inl rfl) c a b h
theorem De {r:List (Nat×Bool)} {i:Nat} {o:Oper} (hi:ops[i]? = some o) (f:∀w,W w->C w) (h:WL P ops (Exit.then (la P ops C Q r) Q) n ds l W [o]):WD P ops C Q n ds l W ((i,false)::r):=by
 intro a w g d;refine ⟨f w d,?_⟩;have:=h a w g d;unfold wpList at this;unfold wpOp;simp only [hi]
 split
 · rename_i c
   rw [if_pos c] at this
   rcases this with this | ⟨j,a2,k,m⟩
   · left
     unfold Oper.wp at this ⊢;unfold Oper.upon at this ⊢
     split at this
     all_goals first
       | exact this
       | (refine this.mono λe w' b=>?_
          cases e with
          | returned v=>exact b
          | panicked s=>exact b
          | outgrown=>obtain ⟨a3,p,q⟩:=b; exact ⟨a3,p,q⟩)
       | exact this.mono λv w' b=>b
   · exact .inr ⟨j,a2,k,m⟩
 · rename_i c
   rw [if_neg c] at this;exact this
theorem Ed {r:List (Nat×Bool)} (h:WD P ops C Q n ds l W r):WE (Exit.then (la P ops C Q r) Q) .normal n ds l W:=h
theorem WD.nil (c:∀w,W w->C w) (h:WE Q .normal n ds l W):WD P ops C Q n ds l W []:=λa w d b=>⟨c w b,h a w d b⟩
theorem Ws.drew {a w:World} {b:List Nat} {L:List aS} {Vs:List View} (h:Ws a b L Vs w):Ws a b L Vs w.drew:=h.ext (Ext.drew w)
theorem Ws.out {b w:World} {c:List Nat} {L:List aS} {Vs:List View} (i:Nat) (h:Ws b c L Vs w):Ws b c (dM i L) Vs w:=by
 cases a:L[i]? with
 | none=>
   have:dM i L=L:=by
     clear h
     induction L generalizing i with
     | nil=>cases i<;>rfl
     | cons x r d=>
       cases i with
       | zero=>simp at a
       | succ i=>simp only [dM]; rw [d i (by simpa using a)]
   rw [this]; exact h
 | some x=>exact Ws.drop (L:=[x]) (h.perm (k' i L a))
end
section
variable {P:Program} {ops:Array Oper} {Q:Exit->Act->World->Prop} {n:Nat} {ds:List Deferred} {l l':List (Nat×Value)} {W:World->Prop} {w0:World} {F:List Nat} {L:List aS} {Vs:List View}
 {rest:List Oper} {d:Nat} {ty:TypeId} {pos:String} {af:Array Edge} {g:Option (Nat×Bool)}
def p1 (a:Value) (k:Nat):List Value:=(List.range k).map λi=>((eB a)[i % (eB a).length]?).getD undef
theorem Kq (a:Value) (k:Nat) (b:0<a.cells.size):((Array.range k).map (a.cells[· % a.cells.size]!):Array Value).toList=p1 a k:=by
 simp only [Array.toList_map,Array.toList_range,p1];apply List.map_congr_left;intro i _;have c:i % a.cells.size<a.cells.size:=Nat.mod_lt _ b
 have e:(eB a).length=a.cells.size:=by rw [<-p0]; simp
 rw [e,<-p0];simp [c]
theorem WL.CN {t e:TypeId} {len size q:Nat} {parts:List (Nat×Operand)} {a:Value} {vs:List (Nat×Value)} {out:List Value} (r:dq ops l g) (s:Nat.blt d n=true) (c:aE P t e a size q)
   (hv:oY l parts=some vs) (u:Nat.ble (len*size) 16777216=true) (k:nQ (λi=>some (i*size,size)) (bif Nat.beq (len*size) 0 then [] else p1 a (len*size)) vs=some out)
   (h:∀b,WL P ops Q n ds ((d,.slice (some ⟨b,0,none⟩) len len)::l) (Ws w0 F (aq b (.cells out.toArray e (0,0))::L) Vs) rest) :
   WL P ops Q n ds l (Ws w0 F L Vs) (⟨some d,.buildSlice t len parts.toArray,ty,pos,af,g⟩::rest):=by
 obtain ⟨D,hi,v,y,E⟩:=c.info;have G:=Nat.le_of_ble_eq_true u;refine WL.new (mk:=λb=>.slice (some ⟨b,0,none⟩) len len) r s (λz w A H=>?_) h
 have m:((parts.toArray.map λ (i,x)=>(i,z x)):Array (Nat×Value)).toList=vs:=by simpa using vQ A parts vs hv
 have B:zeroOf P e=some a:=by simp [zeroOf,hi,v]
 have o:dk P e=some size:=by simp [dk,hi,y]
 have p:¬len*size > 2 ^ 24:=by omega
 by_cases f:len*size=0
 · have j:Instr.fill (λi=>some (i*size,size)) #[] vs=some out.toArray:=by
     refine tJ _ vs #[] out ?_
     simpa [f] using k
   simp only [execOp,Instr.buildSlice,Sem.run_bind,run_underlying c.under,Result.andThen_ok,vP o,if_neg p,Sem.run_pure,if_pos f,m];simp [f,j,newRow,Array.range_zero']
 · have j:Instr.fill (λi=>some (i*size,size)) ((Array.range (len*size)).map (a.cells[· % a.cells.size]!)) vs=some out.toArray:=by
     refine tJ _ vs _ out ?_;rw [Kq a _ (by rw [c.zs]; exact c.pos)]
     have:Nat.beq (len*size) 0=false:=by
       cases C:Nat.beq (len*size) 0 with
       | false=>rfl
       | true=>exact absurd (Nat.eq_of_beq_eq_true C) f
     simpa [this] using k
   simp only [execOp,Instr.buildSlice,Sem.run_bind,run_underlying c.under,Result.andThen_ok,vP o,if_neg p,Sem.run_pure,if_neg f,m,q0 B,j];simp [newRow]
theorem CO {a:Operand->Value} {dst:Option Tmp} {f:FuncId} {b:Operand} {c:Array Value} {args:Array Operand} {ts:Array TypeId} {vs:List Value} {w:World} (h:Enters P f) (d:∀x u,bk l x=some u->a x=u)
   (i:bk l b=some (.func (.func f) #[] c)) (j:hU l args.toList=some vs) :
   (execOp a ⟨dst,.call ⟨.value b,args,ts⟩,ty,pos,af,g⟩).run P w = .ok (.enter f (vs.toArray++c)) w:=by
 have e:args.map a=vs.toArray:=by
   apply Array.ext'
   simpa using vR d _ _ j
 simp only [execOp,resolve,e,d b _ i,Deferred.ofValue,Sem.run_bind,Sem.run_pure,Result.andThen_ok,invoke]
 simpa using h _ w
theorem WL.Kr {ι:Type} {f:FuncId} {j:Operand} {k:Array Value} {args:Array Operand} {ts:Array TypeId} {vs:List Value} (o:dq ops l g) (p:Nat.blt d n=true) (q:Enters P f) (r:bk l j=some (.func (.func f) #[] k)) (s:hU l args.toList=some vs)
   (v:ι->Value) (R:ι->World->Prop) (m:List PanicEntry->World->Prop)
   (t:∀w,W w->Calls P f (vs.toArray++k) w λe w'=>(∃i,e = .returned (v i)/\R i w')\/∃b,e = .panicked b/\m b w')
   (y:∀i,WL P ops Q n ds ((d,v i)::l) (R i) rest) (z:∀b,WE Q (.panic b) n ds l (m b)) :
   WL P ops Q n ds l W (⟨some d,.call ⟨.value j,args,ts⟩,ty,pos,af,g⟩::rest):=by
 refine WL.step o λa w c A F B=>?_;have C:=CO (P:=P) (dst:=some d) (ts:=ts) (ty:=ty) (pos:=pos) (af:=af) (g:=g) (w:=w) q (λx u D=>c.eval D) r s;simp only [Oper.wp,C,Oper.upon_enter];refine (t w A).mono λe w' E=>?_
 rcases E with ⟨i,rfl,h⟩ | ⟨b,rfl,h⟩
 · exact B _ _ (y i _ _ (c.put p _) h)
 · exact z b _ _ c h
theorem WL.sa {f:FuncId} {b:Operand} {c:Array Value} {args:Array Operand} {ts:Array TypeId} {vs:List Value} {v:Value} (k:dq ops l g) (m:Nat.blt d n=true) (o:Enters P f) (p:bk l b=some (.func (.func f) #[] c)) (q:hU l args.toList=some vs)
   (r:∀w,Ws w0 F L Vs w->Calls P f (vs.toArray++c) w λe w'=>e = .returned v/\Ext w w')
   (s:WL P ops Q n ds ((d,v)::l) (Ws w0 F L Vs) rest) :
   WL P ops Q n ds l (Ws w0 F L Vs) (⟨some d,.call ⟨.value b,args,ts⟩,ty,pos,af,g⟩::rest):=by
 refine WL.step k λa w i j B t=>?_;have y:=CO (P:=P) (dst:=some d) (ts:=ts) (ty:=ty) (pos:=pos) (af:=af) (g:=g) (w:=w) o (λx u z=>i.eval z) p q;simp only [Oper.wp,y,Oper.upon_enter];refine (r w j).mono λe w' A=>?_;obtain ⟨rfl,h⟩:=A;exact t _ _ (s _ _ (i.put m _) (j.ext h))
theorem WE.yG {fn:Func} {R:Ending->World->Prop} {a b o k:Nat} {t:TypeId} {c:Obj} (i:Nat) (m:fn.results = #[.cell a t]) (p:lk l a=some (.pointer (some ⟨b,o,none⟩))) (q:L[i]? = some (aq b c)) (r:f' P t=some k) (s:(cellsIn c o k).length=k)
   (h:∀w,Ws w0 F L Vs w->R (.returned (.agg (cellsIn c o k).toArray)) w):WE (bodyPost P fn R) .ret n [] l (Ws w0 F L Vs):=by
 intro y w e f
 have u:(loadVar t ⟨b,o,none⟩).run P w = .ok (.agg (cellsIn c o k).toArray) w:=vL r s λj v d=>by
   have x:w.heap[b]? = some c:=f.kn _ (ed q);refine cell_of_heap x ?_
   cases c<;>simp [cellsIn,f_] at *
   rw [List.getElem?_take] at d
   split at d
   · simpa using d
   · cases d
 refine bodyPost_ret (v:=.agg (cellsIn c o k).toArray) ?_ e.defs (h w f);have g:=e.aI a _ p;rw [Array.getD_eq_getD_getElem?] at g;simp [results,m,g,asAddr,u]
theorem WE.p2 {fn:Func} {R:Ending->World->Prop} {a b o k u:Nat} {x:Value} {t:TypeId} {c:Obj} (i:Nat) (p:fn.results = #[.cell a t,.tmp u]) (q:lk l a=some (.pointer (some ⟨b,o,none⟩))) (r:lk l u=some x) (s:L[i]? = some (aq b c)) (y:f' P t=some k) (z:(cellsIn c o k).length=k)
   (h:∀w,Ws w0 F L Vs w->R (.returned (.tuple #[.agg (cellsIn c o k).toArray,x])) w):WE (bodyPost P fn R) .ret n [] l (Ws w0 F L Vs):=by
 intro C w e f
 have A:(loadVar t ⟨b,o,none⟩).run P w = .ok (.agg (cellsIn c o k).toArray) w:=vL y z λj v d=>by
   have B:w.heap[b]? = some c:=f.kn _ (ed s);refine cell_of_heap B ?_
   cases c<;>simp [cellsIn,f_] at *
   rw [List.getElem?_take] at d
   split at d
   · simpa using d
   · cases d
 refine bodyPost_ret (v:=.tuple #[.agg (cellsIn c o k).toArray,x]) ?_ e.defs (h w f);have g:=e.aI a _ q;have m:=e.aI u _ r;rw [Array.getD_eq_getD_getElem?] at g m;simp [results,p,g,m,asAddr,A]
end
theorem Ws.yH {c w:World} {L:List aS} {Vs:List View} (h:Ws c [] L Vs w) (i:Nat) {b:Nat} {a:Obj} (d:L[i]? = some (aq b a)) {k:Nat} {v:Value} (f:f_ a k=some v):vc (nv c w) b k=some v:=by
 have g:w.heap[b]? = some a:=h.kn _ (ed d);have e:=h.own _ (ed d) b (by simp [aq]);simp at e;unfold vc nv;rw [if_pos e,g];exact f
theorem Ws.Ks {d w:World} {L:List aS} {Vs:List View} (h:Ws d [] L Vs w) (i:Nat) {e:TypeId} {size m:Nat} {v:Value} {xs:List Value} (f:L[i]? = some (bY e size v m xs)) :
   (v = .slice none 0 0/\xs=[])\/∃b c,v = .slice (some ⟨b,0,none⟩) m c/\m<=c/\c<=maxLen/\∀j u,xs[j]? = some u->vc (nv d w) b j=some u:=by
 obtain ⟨k,l⟩:=(h.kn _ (ed f):w.ownsRow 0 e size v m xs)
 rcases l with ⟨rfl,rfl⟩ | ⟨b,cap,r,rfl,_,n,o,p,s,q⟩
 · exact .inl ⟨O,by cases xs; rfl; simp at k⟩
 · refine .inr ⟨b,cap,O,o,p,λj u a=>?_⟩
   have g:=h.own _ (ed f) b (by simp [bY,Value.ownBlock]);simp at g;unfold vc nv;rw [if_pos g,n];rw [<-q,List.getElem?_take] at a
   split at a
   · simpa [f_] using a
   · cases a
theorem p3 {α:Type} {f:α->List Value} {k:Nat} (a:∀x,(f x).length=k):∀l:List α,(l.flatMap f).length=l.length*k
 | []=>by simp
 | x::r=>by simp [a,p3 a r,Nat.add_mul]; omega
theorem vV {α:Type} {f:α->List Value} {k:Nat} (a:∀x,(f x).length=k):∀(l:List α) (i:Nat) (x:α),l[i]? = some x->
   l.flatMap f=(l.take i).flatMap f++f x++(l.drop (i+1)).flatMap f
 | [],i,x,h=>by simp at h
 | y::r,0,x,h=>by simp at h; simp [h]
 | y::r,i+1,x,h=>by
   have:=vV a r i x (by simpa using h);simp only [List.flatMap_cons,List.take_succ_cons,List.drop_succ_cons];rw [this];simp
theorem o2 {α:Type} {f:α->List Value} {k:Nat} (a:∀x,(f x).length=k) {l:List α} {i:Nat} {x:α} (h:l[i]? = some x) {j:Nat} (b:j<k):(l.flatMap f)[i*k+j]? = (f x)[j]?:=by
 have hi:=(List.getElem?_eq_some_iff.1 h).1
 have c:((l.take i).flatMap f).length=i*k:=by rw [p3 a,List.length_take,Nat.min_eq_left (by omega)]
 rw [vV a l i x h,List.append_assoc,List.getElem?_append_right (by omega),c,Nat.add_sub_cancel_left,List.getElem?_append_left (by rw [a]; exact b)]
theorem Kt {α:Type} {f:α->List Value} {k:Nat} (a:∀x,(f x).length=k) {l:List α} {i:Nat} {x y:α} (h:l[i]? = some x) {j:Nat} {vs:List Value} (r:j+vs.length<=k) (d:f y=(f x).take j++vs++(f x).drop (j+vs.length)) :
   (l.flatMap f).take (i*k+j)++vs++(l.flatMap f).drop (i*k+j+vs.length)=(l.set i y).flatMap f:=by
 have hi:=(List.getElem?_eq_some_iff.1 h).1
 have c:((l.take i).flatMap f).length=i*k:=by rw [p3 a,List.length_take,Nat.min_eq_left (by omega)]
 have e:(l.set i y)[i]? = some y:=by simp [hi]
 rw [vV a (l.set i y) i y e,vV a l i x h,d];have g:(l.set i y).take i=l.take i:=List.take_set_of_le (Nat.le_refl i);have m:(l.set i y).drop (i+1)=l.drop (i+1):=List.drop_set_of_lt (by omega);rw [g,m]
 generalize s:(l.take i).flatMap f=b at *
 generalize t:(l.drop (i+1)).flatMap f=B at *
 have n:(b++f x++B).take (i*k+j)=b++(f x).take j:=by
   rw [List.append_assoc,List.take_append,c,List.take_of_length_le (by omega),Nat.add_sub_cancel_left,List.take_append_of_le_length (by rw [a]; omega)]
 have o:(b++f x++B).drop (i*k+j+vs.length)=(f x).drop (j+vs.length)++B:=by
   rw [List.append_assoc,List.drop_append,c,List.drop_of_length_le (by omega),List.nil_append,List.drop_append,a]
   have p:i*k+j+vs.length-i*k=j+vs.length:=by omega
   rw [p]
   have q:j+vs.length-k=0:=by omega
   simp [q]
 rw [n,o];simp
section
variable {P:Program} {ops:Array Oper} {Q:Exit->Act->World->Prop} {n:Nat} {ds:List Deferred} {l l':List (Nat×Value)} {W:World->Prop} {w0:World} {F:List Nat} {L:List aS} {Vs:List View}
 {rest:List Oper} {d:Nat} {ty:TypeId} {pos:String} {af:Array Edge} {g:Option (Nat×Bool)}
theorem Ku {e:TypeId} {size m c b:Nat} {xs:List Value} {w:World} (h:(bY e size (.slice (some ⟨b,0,none⟩) m c) m xs).holds w):∃a,w.heap[b]? = some (.cells a e (0,0))/\a.toList.take (m*size)=xs/\a.size=c*size/\m<=c/\xs.length=m*size:=by
 obtain ⟨g,f⟩:=(h:w.ownsRow 0 e size _ m xs)
 rcases f with ⟨f,_⟩ | ⟨o,cap,a,hv,_,i,j,p,k,l⟩
 · cases f
 · injection hv with d _ n
   injection d with d
   injection d with d
   subst d; subst n;exact ⟨a,i,l,k,j,g⟩
theorem WL.CP {b m cap:Nat} {a:Array Value} {e:TypeId} {size:Nat} (i:Nat) (c:L[i]? = some (aq b (.cells a e (0,0)))) (d:m<=cap) (f:cap<=maxLen) (g:a.size=cap*size)
   (h:WL P ops Q n ds l (Ws w0 F (L.set i (bY e size (.slice (some ⟨b,0,none⟩) m cap) m (a.toList.take (m*size)))) Vs) rest):WL P ops Q n ds l (Ws w0 F L Vs) rest:=
 LW (λ_ j=>j.CH i c d f g) h
end
section
variable {P:Program} {l:List (Nat×Value)} {W:World->Prop} {d:Option Tmp} {ty:TypeId} {pos:String} {af:Array Edge} {g:Option (Nat×Bool)}
theorem Kv {t u:TypeId} {x:Operand} {a:Option Addr} {m c s:Nat} (b:eO P t=some s) (i:bk l x=some (.slice a m c)):Yl P l W ⟨d,.binOp .eql t x (.const (.slice none 0 0)) u,ty,pos,af,g⟩ (.bool a.isNone):=by
 intro j w h _;unfold eO at b
 cases f:P.underlying t with
 | none=>simp [f] at b
 | some k=>
   cases k<;>simp [f] at b
   have n:j (.const (.slice none 0 0)) = .slice none 0 0:=h _ _ rfl;rename_i o
   have e:(binOp .eql t (.slice a m c) (.slice none 0 0)).run P w = .ok (.bool a.isNone) w:=by
     simp only [binOp];simp [Op.equal,Op.maxDepth,Lib.run_equalIn_slice_nil w 9999 t o a m c 0 0 f]
   simp only [execOp,h x _ i,n,eqGuard,Sem.run_bind];simp [e]
end
section
variable {P:Program} {ops:Array Oper} {Q:Exit->Act->World->Prop} {n:Nat} {ds:List Deferred} {l l':List (Nat×Value)} {W:World->Prop} {w0:World} {F:List Nat} {L:List aS} {Vs:List View}
 {rest:List Oper} {d:Nat} {ty:TypeId} {pos:String} {af:Array Edge} {g:Option (Nat×Bool)}
theorem Lf {a:aS} (i:Nat) (b:L[i]? = some a) (h:WL P ops Q n ds l (Ws w0 F (a::dM i L) Vs) rest):WL P ops Q n ds l (Ws w0 F L Vs) rest:=
 LW (λ_ c=>c.perm (k' i L b)) h
theorem WC.front {c:Code} {a:aS} (i:Nat) (b:L[i]? = some a) (h:WC P c Q n ds l (Ws w0 F (a::dM i L) Vs)):WC P c Q n ds l (Ws w0 F L Vs):=
 pW (λ_ d=>d.perm (k' i L b)) h
theorem Ws.self {w:World} {c L2:List aS} (h:Ws w0 F (c++L2) Vs w):Ws w (c.flatMap aS.ids) c Vs w:=by
 have nd:=h.nd;rw [List.flatMap_append,List.nodup_append] at nd;exact ⟨Fr.refl _ _,λa b=>h.kn a (by simp [b]),nd.1,λa b k d=>.inl (List.mem_flatMap.2 ⟨a,b,d⟩),h.vs,λe f a b=>h.off e f a (by simp [b])⟩
theorem Ws.back {w w':World} {a b L2:List aS} {ah:List View} (h:Ws w0 F (a++L2) Vs w) (g:Ws w (a.flatMap aS.ids) b ah w'):Ws w0 F (b++L2) Vs w':=
 Ws.pY h g.fr g.kn g.nd g.own
theorem Lw {ι:Type} {f:FuncId} {args:Array Operand} {ts:Array TypeId} {vs:List Value} (c L2:List aS) (k:dq ops l g) (m:Nat.blt d n=true) (o:Enters P f) (p:hU l args.toList=some vs) (q:L=c++L2)
   (v:ι->Value) (j:ι->List aS) (R:ι->Prop) (ah:List View) (r:∀s ∈ ah,s ∈ Vs)
   (t:∀w,Ws w (c.flatMap aS.ids) c ah w->Calls P f vs.toArray w λe w'=>∃i,e = .returned (v i)/\R i/\Ws w (c.flatMap aS.ids) (j i) ah w')
   (u:∀i,R i->WL P ops Q n ds ((d,v i)::l) (Ws w0 F (j i++L2) Vs) rest) :
   WL P ops Q n ds l (Ws w0 F L Vs) (⟨some d,.call ⟨.value (.func f),args,ts⟩,ty,pos,af,g⟩::rest):=by
 subst q;refine WL.call k m o p v (λi w'=>R i/\Ws w0 F (j i++L2) Vs w') (λw b=>(t w (b.self.cv r)).mono λe w' ⟨i,x,y,h⟩=>⟨i,x,y,b.back h⟩) λi=>?_;intro a w z b;exact u i b.1 a w z b.2
theorem fe {f:FuncId} {args:Array Operand} {ts:Array TypeId} {vs:List Value} (a L2 b:List aS) (c:dq ops l g) (h:Nat.blt d n=true) (i:Enters P f) (j:hU l args.toList=some vs) (k:L=a++L2)
   (ah:List View) (m:∀o ∈ ah,o ∈ Vs)
   (p:∀w,Ws w (a.flatMap aS.ids) a ah w->Calls P f vs.toArray w λe w'=>e = .returned (.tuple #[])/\Ws w (a.flatMap aS.ids) b ah w')
   (q:WL P ops Q n ds ((d,.tuple #[])::l) (Ws w0 F (b++L2) Vs) rest) :
   WL P ops Q n ds l (Ws w0 F L Vs) (⟨some d,.call ⟨.value (.func f),args,ts⟩,ty,pos,af,g⟩::rest):=
 Lw (ι:=Unit) a L2 c h i j k (λ_=>.tuple #[]) (λ_=>b) (λ_=>True) ah m (λw r=>(p w r).mono λe w' ⟨s,t⟩=>⟨(),s,trivial,t⟩) (λ_ _=>q)
end
def hv (w:World):View:=λb=>w.heap[b]?
theorem iR (w:World):Le (hv w) w:=λ_ _ h=>h
theorem vW {w:World} {b k:Nat} {a:Obj} {v:Value} (h:w.heap[b]? = some a) (c:f_ a k=some v):vc (hv w) b k=some v:=by simp [vc,hv,h,c]
theorem bB {w:World} {a:View} (h:Le a w):bw a (hv w):=λb o c=>h b o c
theorem Ws.kf {c w:World} {d:List Nat} {L:List aS} {Vs:List View} (h:Ws c d L Vs w) (i:Nat) {b:Nat} {a:Obj} (e:L[i]? = some (aq b a)) {k:Nat} {v:Value} (f:f_ a k=some v):vc (hv w) b k=some v:=
 vW (h.kn _ (ed e)) f
section
variable {P:Program} {ops:Array Oper} {Q:Exit->Act->World->Prop} {n:Nat} {ds:List Deferred} {l l':List (Nat×Value)} {W:World->Prop} {w0:World} {F:List Nat} {L:List aS} {Vs:List View} {rest:List Oper}
theorem cD {b:Nat} {a:Obj} (i:Nat) (d:Obj) (e:L[i]? = some (aq b a)) (c:a=d) (h:WL P ops Q n ds l (Ws w0 F (L.set i (aq b d)) Vs) rest):WL P ops Q n ds l (Ws w0 F L Vs) rest:=by
 subst c
 have:L.set i (aq b a)=L:=by
   obtain ⟨hi,c⟩:=List.getElem?_eq_some_iff.1 e;rw [<-c];exact List.set_getElem_self hi
 rwa [this] at h
end
theorem Sl.flat {α:Type} {rd:View->Nat->Nat->α->Prop} {k:Nat} {a:View} {b o c:Nat} {l:List α} {f:α->List Value} (h:Sl rd k a (some ⟨b,o,none⟩) c l) (d:∀x,(f x).length=k) (r:0<k) (s:∀b o x,rd a b o x->bI a b o (f x)) :
   ∀j u,(l.flatMap f)[j]? = some u->vc a b (o+j)=some u:=by
 intro j u g;have i:=(List.getElem?_eq_some_iff.1 g).1;rw [p3 d] at i;have hi:j / k<l.length:=Nat.div_lt_of_lt_mul (by rw [Nat.mul_comm]; exact i);have m:l[j / k]? = some l[j / k]:=List.getElem?_eq_getElem hi;have t:j % k<k:=Nat.mod_lt _ r
 have e:j / k*k+j % k=j:=by rw [Nat.mul_comm]; exact Nat.div_add_mod j k
 have n:=o2 d m t;rw [e,g] at n;obtain ⟨w,y,p,v⟩:=h.bJ _ _ m;simp at p;obtain ⟨rfl,rfl⟩:=p;have q:=s _ _ _ v (j % k) u n.symm;rw [Nat.add_assoc,e] at q;exact q
def o3:List Oper->Nat->Nat->List Nat
 | [],_,_=>[]
 | o::r,i,m=>bif !m.testBit i&&o.after.toList.all (λe=>!Region.binds .any e||m.testBit e.on) then i::o3 r (i+1) m else o3 r (i+1) m
def vX (a:Oper) (ops:Array Oper) (i:Nat):List Oper->Nat->Nat->Bool
 | [],_,_=>true
 | o::r,j,m=>(j==i||m.testBit j||(o.after.toList.any (λe=>Region.binds .any e&&e.on==i)||a.apart ops o))&&vX a ops i r (j+1) m
def CQ (os:List Oper) (i m:Nat):Bool:=match os[i]? with | none=>false | some a=>vX a os.toArray i os 0 m
def p4 (os:List Oper):List (Nat×Bool)->Nat->Bool
 | [],m=>(o3 os 0 m).isEmpty
 | (i,q)::r,m=>(bif q then (o3 os 0 m).contains i&&CQ os i m else o3 os 0 m==[i])&&p4 os r (m||| 2 ^ i)
structure LM (n:Nat) (listed:Array Bool) (m:Nat):Prop where
 size:listed.size=n
 bit:∀j,listed.getD j false=m.testBit j
theorem LM.t {n m:Nat} {a:Array Bool} (h:LM n a m) {j:Nat} (b:j<n):a.getD j true=m.testBit j:=by
 rw [<-h.bit j]
 have:j<a.size:=by rw [h.size]; exact b
 simp [Array.getD,this]
theorem LM.set {n m i:Nat} {a:Array Bool} (h:LM n a m) (hi:i<n):LM n (a.setIfInBounds i true) (m||| 2 ^ i):=by
 refine ⟨by simp [h.size],λj=>?_⟩;rw [Nat.testBit_or,Nat.testBit_two_pow,<-h.bit j]
 have c:i<a.size:=by rw [h.size]; exact hi
 by_cases e:i=j
 · subst e
   simp [Array.getD,c]
 · by_cases b:j<a.size
   · simp [Array.getD,b,e]
   · simp [Array.getD,b,e]
theorem CR (ops:Array Oper) {a:Array Bool} {m:Nat} (h:LM ops.size a m):∀(os:List Oper) (i:Nat),i+os.length=ops.size->(∀j o,os[j]? = some o->ops[i+j]? = some o)->
   o3 os i m=((List.range os.length).map (i + ·)).filter λk=>!a.getD k true&&((ops[k]?).map (·.after.all λe=>!Region.binds .any e||a.getD e.on false)).getD false
 | [],_,_,_=>by simp [o3]
 | o::r,i,b,c=>by
   have d:=c 0 o rfl;rw [Nat.add_zero] at d
   have f:=CR ops h r (i+1) (by simp at b; omega) λj g l=>by rw [show i+1+j=i+(j+1) by omega]; exact c (j+1) g (by simpa using l)
   have e:(List.range (o::r).length).map (i + ·)=i::(List.range r.length).map (i+1 + ·):=by
     rw [List.length_cons,List.range_succ_eq_map,List.map_cons,List.map_map]
     congr 1
     refine List.map_congr_left λk _=>?_
     show i+(k+1)=i+1+k
     omega
   have n:(!a.getD i true&&((ops[i]?).map (·.after.all λe=>!Region.binds .any e||a.getD e.on false)).getD false)=(!m.testBit i&&o.after.toList.all (λe=>!Region.binds .any e||m.testBit e.on)):=by
     rw [h.t (by simp at b; omega),d,Option.map_some,Option.getD_some,<-Array.all_toList]
     congr 2
     funext e
     rw [h.bit]
   rw [e,List.filter_cons,n,o3,f]
   cases (!m.testBit i&&o.after.toList.all (λe=>!Region.binds .any e||m.testBit e.on))<;>simp
theorem CS {os:List Oper} {a:Array Bool} {m:Nat} (h:LM os.toArray.size a m):o3 os 0 m=Region.ready .any os.toArray a:=by
 rw [CR os.toArray h os 0 (by simp) λj o b=>by simpa using b];unfold Region.ready
 have:(List.range os.length).map (0 + ·)=List.range os.toArray.size:=by simp
 rw [this]
theorem CT (ops:Array Oper) {d:Array Bool} {m i:Nat} {f:Oper} (h:LM ops.size d m):∀(os:List Oper) (k:Nat),k+os.length=ops.size->(∀j o,os[j]? = some o->ops[k+j]? = some o)->vX f ops i os k m=true->
   ∀j,k<=j->j<ops.size->(j==i||d.getD j true||match ops[j]? with
     | some g=>g.after.any (λe=>Region.binds .any e&&e.on==i)||f.apart ops g
     | none=>true)=true
 | [],k,a,_,_,j,p,b=>by simp at a; omega
 | o::r,k,a,l,c,j,p,b=>by
   rw [vX,Bool.and_eq_true] at c
   by_cases e:k=j
   · subst e
     have n:=l 0 o rfl;rw [Nat.add_zero] at n;rw [h.t b,n];have:=c.1
     simpa using this
   · exact CT ops h r (k+1) (by simp at a; omega) (λj q s=>by rw [show k+1+j=k+(j+1) by omega]; exact l (j+1) q (by simpa using s)) c.2 j (by omega) b
theorem mY {os:List Oper}:∀(ord:List (Nat×Bool)) (b:Array Bool) (m:Nat),LM os.toArray.size b m->p4 os ord m=true->k_ .any os.toArray ord b=true
 | [],b,m,h,c=>by
   rw [p4,CS h] at c;exact c
 | (i,q)::r,b,m,h,c=>by
   rw [p4,Bool.and_eq_true,CS h] at c;obtain ⟨a,g⟩:=c
   have hi:i<os.toArray.size:=by
     have f:i ∈ Region.ready .any os.toArray b:=by
       cases q with
       | true=>simp only [cond_true,Bool.and_eq_true] at a; simpa using a.1
       | false=>simp only [cond_false,beq_iff_eq] at a; rw [a]; simp
     unfold Region.ready at f;exact List.mem_range.1 (List.mem_filter.1 f).1
   rw [k_,Bool.and_eq_true];refine ⟨?_,mY r _ _ (h.set hi) g⟩
   cases q with
   | false=>exact a
   | true=>
     simp only [cond_true,Bool.and_eq_true] at a ⊢;refine ⟨a.1,?_⟩;have d:=a.2;unfold CQ at d;have k:os[i]? = some os[i]:=List.getElem?_eq_getElem (by simpa using hi);rw [k] at d;unfold Region.free;rw [show os.toArray[i]? = some os[i] by simp];simp only [List.all_eq_true,List.mem_range];exact λj e=>CT os.toArray h os 0 (by simp) (λj o e=>by simpa using e) d j (Nat.zero_le _) e
theorem zQ (n:Nat):LM n (Array.replicate n false) 0:=⟨by simp,λj=>by simp [Array.getD]⟩
theorem yI {os:List Oper} {ord:List (Nat×Bool)} (h:(Region.noSelect os.toArray&&(ord.length==os.toArray.size&&p4 os ord 0))=true):(Region.noSelect os.toArray&&(ord.length==os.toArray.size&&k_ .any os.toArray ord (Array.replicate os.toArray.size false)))=true:=by
 simp only [Bool.and_eq_true] at h ⊢;exact ⟨h.1,h.2.1,mY ord _ 0 (zQ _) h.2.2⟩
section
variable {P:Program} {Q:Exit->Act->World->Prop} {n:Nat} {ds:List Deferred} {l:List (Nat×Value)}
theorem WC.ld {id:Nat} {os:List Oper} {b:World} {e:List Nat} {L:List aS} {Vs:List View} (ord:List (Nat×Bool)) (f:P.follows .mixedOrders=true) (g:(Region.noSelect os.toArray&&(ord.length==os.toArray.size&&p4 os ord 0))=true)
   (i:∀c a w d v,Q (.panic c) (a.put d v) w->Q (.panic c) a w) (h:WD P os.toArray (Ws b e L Vs) Q n ds l (Ws b e L Vs) ord):WC P (.region id os.toArray true) Q n ds l (Ws b e L Vs):=
 WC.CM _ ord f (yI g) i (λ_ h=>h.drew) h
theorem WC.kg {id:Nat} {os:List Oper} {b:World} {e:List Nat} {L:List aS} {Vs:List View} (i:Nat) (ord:List (Nat×Bool)) (f:P.follows .mixedOrders=true) (g:(Region.noSelect os.toArray&&(ord.length==os.toArray.size&&p4 os ord 0))=true)
   (j:∀c a w d v,Q (.panic c) (a.put d v) w->Q (.panic c) a w) (h:WD P os.toArray (Ws b e (dM i L) Vs) Q n ds l (Ws b e L Vs) ord):WC P (.region id os.toArray true) Q n ds l (Ws b e L Vs):=
 WC.CM _ ord f (yI g) j (λ_ h=>h.drew) h
end
section
variable {P:Program} {l:List (Nat×Value)} {W:World->Prop} {d:Option Tmp} {ty:TypeId} {pos:String} {af:Array Edge} {g:Option (Nat×Bool)}
theorem vY {t u:TypeId} {x y:Operand} {a b:Nat} {c e:Int} (f:bk l x=some (.int .i64 c)) (h:bk l y=some (.int .i64 e)) (i:c=(a:Int)) (j:e=(b:Int)) (k:(a:Int)+b<=9223372036854775807):Yl P l W ⟨d,.binOp .add t x y u,ty,pos,af,g⟩ (.int .i64 ((a+b:Nat):Int)):=by
 subst i j;have:=bd (P:=P) (W:=W) (d:=d) (ty:=ty) (pos:=pos) (af:=af) (g:=g) (t:=t) (u:=u) f h ⟨by omega,k⟩
 rwa [show ((a+b:Nat):Int)=(a:Int)+b by omega]
theorem cn {f:FuncId} {a:Array Operand} {vs:List Value} (b:hU l a.toList=some vs):Yl P l W ⟨d,.makeFunc (.func f) #[] a,ty,pos,af,g⟩ (.func (.func f) #[] vs.toArray):=by
 intro c w h _
 have e:a.map c=vs.toArray:=by
   apply Array.ext'
   simpa using vR h _ _ b
 simp [execOp,Instr.makeFunc,e]
end
section
variable {P:Program} {ops:Array Oper} {Q:Exit->Act->World->Prop} {n:Nat} {ds:List Deferred} {l:List (Nat×Value)} {w0:World} {F:List Nat} {L:List aS} {Vs:List View} {rest:List Oper}
theorem WL.shape {e:TypeId} {size m:Nat} {v:Value} {xs:List Value} (i:Nat) (f:L[i]? = some (bY e size v m xs)) (p:0<m)
   (h:∀b c,v = .slice (some ⟨b,0,none⟩) m c->m<=c->c<=maxLen->WL P ops Q n ds l (Ws w0 F L Vs) rest):WL P ops Q n ds l (Ws w0 F L Vs) rest:=by
 intro a w g d;obtain ⟨q,j⟩:=(d.kn _ (ed f):w.ownsRow 0 e size v m xs)
 rcases j with ⟨r,s⟩ | ⟨b,cap,t,hv,_,_,k,o,_⟩
 · omega
 · exact h b cap hv k o a w g d
theorem WL.vZ {e:TypeId} {size m:Nat} {v:Value} {xs:List Value} (i a:Nat) (b:List Value) (c:L[i]? = some (bY e size v m xs)) (d:m=a) (f:xs=b)
   (h:WL P ops Q n ds l (Ws w0 F (L.set i (bY e size v a b)) Vs) rest):WL P ops Q n ds l (Ws w0 F L Vs) rest:=by
 subst d f
 have:L.set i (bY e size v m xs)=L:=by
   obtain ⟨hi,g⟩:=List.getElem?_eq_some_iff.1 c;rw [<-g];exact List.set_getElem_self hi
 rwa [this] at h
end
theorem Ws.o1 {a w:World} {b:List Nat} {L L':List aS} {Vs:List View} (h:Ws a b (L++L') Vs w):Ws a b L Vs w:=Ws.drop (h.perm List.perm_append_comm)
def au (b:UInt8):Value:=.int .u8 (b.toNat:Int)
theorem Kx (l:List UInt8):Lib.strCells ⟨l.toArray⟩=l.map au:=by simp [Lib.strCells,au,Function.comp_def]
theorem cq (l:List UInt8):(ByteArray.mk l.toArray).size=l.length:=by show l.toArray.size=_; simp
theorem yJ {w:World} {b:Nat} {c:Array Value} {T:TypeId} {a:Nat×Nat} (h:w.heap[b]? = some (.cells c T a)):w.shape? b=some (T,c.size):=by simp [World.shape?,h]
section
variable {P:Program} {l:List (Nat×Value)} {W:World->Prop} {w0:World} {F:List Nat} {L:List aS} {Vs:List View} {d:Option Tmp} {ty:TypeId} {pos:String} {af:Array Edge} {g:Option (Nat×Bool)}
theorem de {s t:TypeId} {b k a:IntKind} {x:Operand} {n:Int} (c:P.underlying s=some (.int b)) (e:P.underlying t=some (.int a)) (f:bk l x=some (.int k n)):Yl P l W ⟨d,.convert s t x,ty,pos,af,g⟩ (.int a (a.wrap n)):=by
 intro i w h _;simp [execOp,h x _ f,convert,run_underlying c,run_underlying e,Conv.intToInt]
theorem Ky {s t u:TypeId} {x:Operand} {b o:Nat} {c:Array Value} {T:TypeId} {a:Nat×Nat} {j:Nat} (i:Nat) (f:P.underlying s=some (.pointer u)) (h:P.underlying t=some .unsafePointer) (k:dk P u=some (j+1)) (m:L[i]? = some (aq b (.cells c T a))) (n:Nat.blt o c.toList.length=true)
   (p:bk l x=some (.pointer (some ⟨b,o,none⟩))):Yl P l (Ws w0 F L Vs) ⟨d,.convert s t x,ty,pos,af,g⟩ (.pointer (some ⟨b,o,none⟩)):=by
 intro y w q r;obtain ⟨z,hi,A⟩:=Option.map_eq_some_iff.1 k;have v:=yJ (r.kn _ (ed m):w.heap[b]? = some (.cells c T a));have e:=Lib.run_to_unsafe (P:=P) w ⟨b,o,none⟩ f h hi (by omega) v (by have:=Nat.blt_eq.mp n; simpa using this);simp [execOp,q x _ p,e]
theorem Kz {s t u:TypeId} {x:Operand} {b o:Nat} {c:Array Value} {T:TypeId} {a:Nat×Nat} {j n:Nat} (i:Nat) (f:P.underlying s=some .unsafePointer) (h:P.underlying t=some (.pointer u)) (k:dk P u=some j) (m:L[i]? = some (aq b (.cells c T a)))
   (p:c.toList.length=n) (q:liesAt P P.depth T (n / P.cellsOf T) o u 1=true)
   (r:bk l x=some (.pointer (some ⟨b,o,none⟩))):Yl P l (Ws w0 F L Vs) ⟨d,.convert s t x,ty,pos,af,g⟩ (.pointer (some ⟨b,o,none⟩)):=by
 intro B w v y;obtain ⟨C,hi,D⟩:=Option.map_eq_some_iff.1 k;have z:=yJ (y.kn _ (ed m):w.heap[b]? = some (.cells c T a))
 have A:c.size=n:=by simpa using p
 have e:=Lib.run_from_unsafe (P:=P) w ⟨b,o,none⟩ f h hi z (by rw [A]; exact q);simp [execOp,v x _ r,e]
theorem KA {f:FuncId} {x:Operand} {v:Value} {ts:Array TypeId} (b:∀(u:Value) (w:World),(callFunc f #[u]).run P w = .ok (.value u) w) (c:bk l x=some v):Yl P l W ⟨d,.call ⟨.value (.func f),#[x],ts⟩,ty,pos,af,g⟩ v:=by
 intro e w a _;have h:e (.func f) = .func (.func f) #[] #[]:=a _ _ rfl;simp [execOp,resolve,Deferred.ofValue,invoke,a x _ c,h,b]
theorem KB {f : FuncId} {fn : Func} (a : P.funcs[f]? = some fn) (b : (fn.name == "runtime.NumGoroutine") = false) (c : fn.body.isNone = true) (d : Extern.findNext fn = none) (e : Extern.find fn = some Extern.AbiNoEscape.same) :
   ∀(u:Value) (w:World),(callFunc f #[u]).run P w = .ok (.value u) w:=by
 intro u w;rw [run_callFunc_extern a b c d e,Lib.run_noEscape]; rfl
theorem KC {t u e:TypeId} {x:Operand} {q:Option Addr} (a:P.underlying t=some (.pointer e)) (c:bk l x=some (.pointer q)):Yl P l W ⟨d,.binOp .eql t x (.const (.pointer none)) u,ty,pos,af,g⟩ (.bool q.isNone):=by
 intro f w b _;have h:f (.const (.pointer none)) = .pointer none:=b _ _ rfl
 have i:P.underlying t=some (.pointer (P.pointee t)):=by rw [a]; simp [Program.pointee,a]
 have j:=run_eql_pointer_nil (P:=P) w t q i;simp only [execOp,b x _ c,h,eqGuard,Sem.run_bind];simp [j]
theorem KD {t e:TypeId} {a:Addr} {k:Nat} (b:P.underlying t=some (.pointer e)) (c:dk P e=some (k+1)) (w:World) (m:Nat):(Op.equalIn (m+1) t (.pointer (some a)) (.pointer (some a))).run P w = .ok true w:=by
 obtain ⟨d,hi,g⟩:=Option.map_eq_some_iff.1 c
 have f:d.size≠0:=by omega
 simp only [Op.equalIn,Sem.run_bind,run_underlying b,Result.andThen_ok,sizeOf,typeInfo];simp [hi,f,run_sameAddr_same]
theorem zU {t u e:TypeId} {x y:Operand} {a:Addr} {j:Nat} (c:P.underlying t=some (.pointer e)) (f:dk P e=some (j+1)) (h:bk l x=some (.pointer (some a))) (i:bk l y=some (.pointer (some a))):Yl P l W ⟨d,.binOp .neq t x y u,ty,pos,af,g⟩ (.bool false):=by
 intro o w b _;have k:=KD (P:=P) (a:=a) c f w 9999
 have m:(binOp .neq t (.pointer (some a)) (.pointer (some a))).run P w = .ok (.bool false) w:=by
   simp only [binOp];have n:(Op.equal t (.pointer (some a)) (.pointer (some a))).run P w = .ok true w:=k;simp [n]
 simp only [execOp,b x _ h,b y _ i,eqGuard,Sem.run_bind];simp [m]
theorem KF {t u:TypeId} {x y:Operand} {k b:IntKind} {n m:Int} (c:bk l x=some (.int k n)) (e:bk l y=some (.int b m)) (f:0<=m):Yl P l W ⟨d,.binOp .shr t x y u,ty,pos,af,g⟩ (.int k (n.fdiv (2 ^ (min m.toNat k.bits)))):=by
 intro h w a _
 have:¬m<0:=by omega
 simp [execOp,a x _ c,a y _ e,eqGuard,binOp,Op.shift,this]
theorem KG {x:Operand} {ts:Array TypeId} {a:Addr} {n c:Nat} (b:c≠0) (e:bk l x=some (.slice (some a) n c)):Yl P l W ⟨d,.call ⟨.builtin .unsafeSliceData,#[x],ts⟩,ty,pos,af,g⟩ (.pointer (some a)):=by
 intro h w f _;simp [execOp,resolve,invoke,builtin,f x _ e,Lib.run_unsafeSliceData_row w _ _ a n c b]
end
section
variable {P:Program} {ops:Array Oper} {Q:Exit->Act->World->Prop} {n:Nat} {ds:List Deferred} {l:List (Nat×Value)} {w0:World} {F:List Nat} {L:List aS} {Vs:List View} {rest:List Oper} {d:Nat} {ty:TypeId} {pos:String} {af:Array Edge} {g:Option (Nat×Bool)}
theorem KH {t u e ty:TypeId} {v c:Value} {m:Nat} {s:ByteArray} {xs:List Value} {w w':World} {i:TypeInfo} (d:P.underlying t=some (.slice e)) (b:P.underlying u=some .string) (hi:P.info? e=some i) (h:i.zero=some (.int .u8 0)) (k:i.size=1) (l:i.bytes=1)
   (o:w.ownsRow 0 e 1 v m xs) (C:m+s.size<=140737488355328) (f:(Builtin.append_ #[t,u] ty #[v,.string s]).run P w = .ok c w') (p:c = .slice none 0 0↔v = .slice none 0 0/\s.size=0) :
   c.ownBlock=v.ownBlock\/c.ownBlock=some w.heap.size:=by
 obtain ⟨q,r⟩:=o
 have D:xs.length=m:=by simpa using q
 rcases r with ⟨rfl,rfl⟩ | ⟨g,cap,x,rfl,_,n,E,F,G,y⟩
 · by_cases z:s.size=0
   · exact .inl (by rw [p.2 ⟨O,z⟩])
   · have a:=run_append_nil_string (P:=P) w t u ty e i (.int .u8 0) d b hi h s (by omega) (by omega) (by rw [l]; omega)
     rw [f] at a
     injection a with a _
     exact .inr (by rw [a]; rfl)
 · by_cases A:m+s.size<=cap
   · have a:=Lib.run_append_room_string (P:=P) w t u ty e i d b hi k g m cap x n s A (by omega)
     rw [f] at a
     injection a with a _
     exact .inl (by rw [a]; rfl)
   · have B:∀j v,xs[j]? = some v->w.cell? ((⟨g,0,none⟩:Addr).add j)=some v:=by
       intro j u b;rw [lO,<-y] at *;refine cell_of_heap n ?_;rw [List.getElem?_take] at b
       split at b
       · simpa [f_] using b
       · cases b
     have a:=Lib.run_append_grow_string (P:=P) w t u ty e i (.int .u8 0) d b hi h ⟨g,0,none⟩ m cap xs (by rw [k]; omega) B s (by omega) (by omega) (by rw [l]; exact growslice_fits (by omega) (by omega));rw [f] at a
     injection a with a _
     exact .inr (by rw [a]; rfl)
theorem WL.KI {t u e:TypeId} {v:Value} {m:Nat} {s x:Operand} {a:List UInt8} {xs:List Value} (i:Nat) (I:dq ops l g) (J:Nat.blt d n=true) (o:aE P t e (.int .u8 0) 1 1) (r:P.underlying u=some .string)
   (K:bk l s=some v) (M:bk l x=some (st a)) (y:L[i]? = some (bY e 1 v m xs)) (z:m+a.length<=140737488355328)
   (h:∀b,(b = .slice none 0 0↔v = .slice none 0 0/\a.length=0)->WL P ops Q n ds ((d,b)::l) (Ws w0 F (L.set i (bY e 1 b (m+a.length) (xs++a.map au))) Vs) rest) :
   WL P ops Q n ds l (Ws w0 F L Vs) (⟨some d,.call ⟨.builtin .append,#[s,x],#[t,u]⟩,ty,pos,af,g⟩::rest):=by
 refine WL.step I λN w p A V O=>?_;obtain ⟨R,hi,B,C,D⟩:=o.info;have E:w.ownsRow 0 e 1 v m xs:=A.kn _ (ed y);have f:=cq a;obtain ⟨b,w',G,H,k,q⟩:=Lib.run_append_own_string (P:=P) w 0 t u ty e R o.under r hi B C D v m xs E ⟨a.toArray⟩ (by rw [f]; unfold maxLen; omega) (by rw [f]; exact z) (Nat.zero_le _);have S:=KH o.under r hi B C D E (by rw [f]; exact z) G q;rw [f,Kx] at H;rw [f] at q
 have T:(execOp N.eval ⟨some d,.call ⟨.builtin .append,#[s,x],#[t,u]⟩,ty,pos,af,g⟩).run P w = .ok (.value b) w':=by
   simp only [execOp,resolve,List.map_toArray,List.map_cons,List.map_nil,p.eval K,p.eval M,Sem.run_bind,Sem.run_pure,Result.andThen_ok,invoke,builtin,st,G]
 simp only [Oper.wp,T,Oper.upon_value];refine O _ _ (h b q _ _ (p.put J _) ?_);refine Ws.pZ A i y ⟨k.os,k.tape,k.output,k.size,λj c U=>k.block j c λe=>U ?_⟩ H ?_ λj c=>?_
 · simp [bY,<-e]
 · cases hv:b.ownBlock<;>simp [bY,hv]
 · simp only [bY,Option.mem_toList] at c ⊢
   rcases S with e | e
   · exact .inl (by rw [<-e]; exact c)
   · rw [e] at c; injection c with c; exact .inr (by omega)
theorem WL.KJ {f it e:TypeId} {x y:Operand} {b c m:Nat} {a:List UInt8} (i:Nat) (s:dq ops l g) (t:Nat.blt d n=true) (v:P.underlying f=some (.pointer e)) (z:P.cellsOf e=1)
   (A:bk l x=some (.pointer (some ⟨b,0,none⟩))) (B:bk l y=some (.int .i64 (m:Int))) (C:a.length=m) (p:L[i]? = some (bY e 1 (.slice (some ⟨b,0,none⟩) m c) m (a.map au))) (D:a≠[]) (E:m<=9223372036854775807)
   (h:WL P ops Q n ds ((d,st a)::l) (Ws w0 F (dM i L) Vs) rest) :
   WL P ops Q n ds l (Ws w0 F L Vs) (⟨some d,.call ⟨.builtin .unsafeString,#[x,y],#[f,it]⟩,ty,pos,af,g⟩::rest):=by
 refine WL.step s λG w o q U H=>?_;subst C;obtain ⟨I,r,J,V,W,X⟩:=Ku (q.kn _ (ed p));have K:=yJ r
 have M:=Lib.run_unsafeString_row (P:=P) w f it ty e v z b I.size K a D (by omega) E (λj u N=>by
   rw [lO];refine cell_of_heap r ?_
   have k:(a.map au)[j]? = some (au u):=by simp [N]
   rw [<-J,List.getElem?_take] at k
   split at k
   · simpa [f_,au] using k
   · cases k)
 have O:(execOp G.eval ⟨some d,.call ⟨.builtin .unsafeString,#[x,y],#[f,it]⟩,ty,pos,af,g⟩).run P w = .ok (.value (st a)) (w.freeze ⟨b,0,none⟩ a.length):=by
   simp only [execOp,resolve,List.map_toArray,List.map_cons,List.map_nil,o.eval A,o.eval B,Sem.run_bind,Sem.run_pure,Result.andThen_ok,invoke,builtin,st,M]
 simp only [Oper.wp,O,Oper.upon_value];refine H _ _ (h _ _ (o.put t _) ?_);have R:=q.perm (k' i L p)
 have:=Ws.pY (L:=[bY e 1 (.slice (some ⟨b,0,none⟩) a.length c) a.length (a.map au)]) (L':=[]) (L2:=dM i L) R (w':=w.freeze ⟨b,0,none⟩ a.length) ⟨by unfold World.freeze; split<;>rfl,by unfold World.freeze; split<;>rfl,by unfold World.freeze; split<;>rfl,by unfold World.freeze; split<;>simp,λj Y S=>by
   have T:j≠b:=λe=>S (by simp [bY,Value.ownBlock,e]);unfold World.freeze
   split
   · rfl
   · simp [Array.getElem?_modify,Ne.symm T]⟩ (by simp) (by simp) (by simp)
 simpa using this
end
theorem CV {a w:World} {d:List Nat} {L:List aS} {Vs:List View} (h:Ws a d L Vs w) (i:Nat) {b:Nat} {c:Array Value} {T:TypeId} {e:Nat×Nat} (f:L[i]? = some (aq b (.cells c T e))) {k:Nat} {u:Value} (g:c.toList[k]? = some u):w.cell? ((⟨b,0,none⟩:Addr).add k)=some u:=by
 rw [lO];exact cell_of_heap (h.kn _ (ed f)) (by simpa [f_] using g)
section
variable {P:Program} {ops:Array Oper} {Q:Exit->Act->World->Prop} {n:Nat} {ds:List Deferred} {l:List (Nat×Value)} {w0:World} {F:List Nat} {L:List aS} {Vs:List View} {rest:List Oper}
theorem WL.nt {e:TypeId} {size m:Nat} {v:Value} {xs:List Value} (i:Nat) (g:L[i]? = some (bY e size v m xs))
   (h:∀a k c,v = .slice a k c->WL P ops Q n ds l (Ws w0 F L Vs) rest):WL P ops Q n ds l (Ws w0 F L Vs) rest:=by
 intro a w f d;obtain ⟨p,j⟩:=(d.kn _ (ed g):w.ownsRow 0 e size v m xs)
 rcases j with ⟨o,_⟩ | ⟨b,cap,q,hv,_⟩
 · exact h _ _ _ o a w f d
 · exact h _ _ _ hv a w f d
end
def bv (b:Nat) (a:Obj):View:=λk=>if k=b then some a else none
theorem KK {b k:Nat} {a:Obj} {v:Value} (h:f_ a k=some v):vc (bv b a) b k=some v:=by simp [vc,bv,h]
theorem Ws.kh {g w:World} {j:List Nat} {L:List aS} {Vs:List View} (h:Ws g j L Vs w) (i:Nat) {b:Nat} {f:Obj} (m:L[i]? = some (aq b f)):Ws g j (dM i L) (bv b f::Vs) w:=by
 have n:=h.perm (k' i L m);have d:Ws g j (dM i L) Vs w:=Ws.drop (L:=[aq b f]) n;have r:w.heap[b]? = some f:=h.kn _ (ed m);have nd:=n.nd;rw [List.flatMap_cons,List.nodup_append] at nd;refine ⟨d.fr,d.kn,d.nd,d.own,?_,?_⟩
 · intro l c
   rcases List.mem_cons.1 c with rfl | c
   · intro k o a
     unfold bv at a
     split at a
     · rename_i e; subst e; injection a with a; subst a; exact r
     · cases a
   · exact d.vs l c
 · intro l c p q k a
   rcases List.mem_cons.1 c with rfl | c
   · unfold bv
     rw [if_neg];intro e;subst e;exact nd.2.2 k (by simp [aq]) k (List.mem_flatMap.2 ⟨p,q,a⟩) O
   · exact d.off l c p q k a
section
variable {P:Program} {ops:Array Oper} {Q:Exit->Act->World->Prop} {n:Nat} {ds:List Deferred} {l:List (Nat×Value)} {w0:World} {F:List Nat} {L:List aS} {Vs:List View} {rest:List Oper}
theorem WL.kh {b:Nat} {a:Obj} (i:Nat) (c:L[i]? = some (aq b a)) (h:WL P ops Q n ds l (Ws w0 F (dM i L) (bv b a::Vs)) rest):WL P ops Q n ds l (Ws w0 F L Vs) rest:=
 LW (λ_ d=>d.kh i c) h
theorem WC.shape {c:Code} {e:TypeId} {size m:Nat} {v:Value} {xs:List Value} (i:Nat) (f:L[i]? = some (bY e size v m xs)) (q:0<m)
   (h:∀b k,v = .slice (some ⟨b,0,none⟩) m k->m<=k->k<=maxLen->WC P c Q n ds l (Ws w0 F L Vs)):WC P c Q n ds l (Ws w0 F L Vs):=by
 intro a w g d;obtain ⟨r,j⟩:=(d.kn _ (ed f):w.ownsRow 0 e size v m xs)
 rcases j with ⟨s,t⟩ | ⟨b,cap,u,hv,_,_,o,p,_⟩
 · omega
 · exact h b cap hv o p a w g d
end
section
variable {P:Program} {l:List (Nat×Value)} {W:World->Prop} {d:Option Tmp} {ty:TypeId} {pos:String} {af:Array Edge} {g:Option (Nat×Bool)}
theorem v7 {t u:TypeId} {x y:Operand} {a b:Int} (v:Int) (c:bk l x=some (.int .i64 a)) (e:bk l y=some (.int .i64 b)) (f:a+b=v) (h : -9223372036854775808<=v/\v<=9223372036854775807):Yl P l W ⟨d,.binOp .add t x y u,ty,pos,af,g⟩ (.int .i64 v):=by
 subst f; exact bd c e h
theorem nU {t u:TypeId} {x y:Operand} {a b:Int} (v:Int) (c:bk l x=some (.int .i64 a)) (e:bk l y=some (.int .i64 b)) (f:a-b=v) (h : -9223372036854775808<=v/\v<=9223372036854775807):Yl P l W ⟨d,.binOp .sub t x y u,ty,pos,af,g⟩ (.int .i64 v):=by
 subst f; exact yA c e h
end
def v8 (size:Nat):Nat->List (Nat×Value)->Bool
 | _,[]=>true
 | k,(i,v)::r=>Nat.beq i k&&Nat.beq (eB v).length size&&v8 size (k+1) r
def df:List (Nat×Value)->List Value
 | []=>[]
 | (_,v)::r=>eB v++df r
theorem CX (size:Nat):∀(vs:List (Nat×Value)) (k:Nat) (done rest:List Value),v8 size k vs=true->done.length=k*size->rest.length=vs.length*size->
   nQ (λi=>some (i*size,size)) (done++rest) vs=some (done++df vs)
 | [],k,done,rest,_,_,a=>by
   have:rest=[]:=List.eq_nil_of_length_eq_zero (by simpa using a);simp [nQ,df,this]
 | (i,v)::r,k,done,rest,e,c,a=>by
   simp only [v8,Bool.and_eq_true] at e;obtain ⟨⟨d,b⟩,f⟩:=e;have d:=Nat.eq_of_beq_eq_true d;subst d;have b:=Nat.eq_of_beq_eq_true b
   have l:size<=rest.length:=by rw [a,List.length_cons,Nat.add_mul]; omega
   have g:(Nat.beq (eB v).length size&&Nat.ble (i*size+size) (done++rest).length)=true:=by
     rw [b,Nat.beq_refl,Bool.true_and];exact Nat.ble_eq_true_of_le (by simp; omega)
   simp only [nQ,g,cond_true]
   have h:(done++rest).take (i*size)=done:=by rw [<-c]; simp
   have j:(done++rest).drop (i*size+size)=rest.drop size:=by
     rw [List.drop_append,c,List.drop_of_length_le (by omega)];simp
   rw [h,j];have:=CX size r (i+1) (done++eB v) (rest.drop size) f (by simp [c,b,Nat.add_mul]) (by simp [a,Nat.add_mul]);rw [this];simp [df]
theorem KL (a:Value) (k:Nat):(p1 a k).length=k:=by simp [p1]
section
variable {P:Program} {ops:Array Oper} {Q:Exit->Act->World->Prop} {n:Nat} {ds:List Deferred} {l:List (Nat×Value)} {w0:World} {F:List Nat} {L:List aS} {Vs:List View} {rest:List Oper} {d:Nat} {ty:TypeId} {pos:String} {af:Array Edge} {g:Option (Nat×Bool)}
theorem Lb {t e:TypeId} {len size c:Nat} {parts:List (Nat×Operand)} {a:Value} {vs:List (Nat×Value)} (f:dq ops l g) (i:Nat.blt d n=true) (j:aE P t e a size c)
   (hv:oY l parts=some vs) (k:Nat.ble (len*size) 16777216=true) (m:v8 size 0 vs=true) (o:vs.length=len)
   (h:∀b,WL P ops Q n ds ((d,.slice (some ⟨b,0,none⟩) len len)::l) (Ws w0 F (aq b (.cells (df vs).toArray e (0,0))::L) Vs) rest) :
   WL P ops Q n ds l (Ws w0 F L Vs) (⟨some d,.buildSlice t len parts.toArray,ty,pos,af,g⟩::rest):=by
 refine WL.CN f i j hv k (out:=df vs) ?_ h
 have p:(bif Nat.beq (len*size) 0 then [] else p1 a (len*size))=p1 a (len*size):=by
   cases q:Nat.beq (len*size) 0 with
   | false=>rfl
   | true=>have:=Nat.eq_of_beq_eq_true q; rw [this]; rfl
 rw [p];have:=CX size vs 0 [] (p1 a (len*size)) m (by simp) (by rw [KL,o])
 simpa using this
end
inductive Ord where
 | nil
 | stop
 | q (i:Nat) (r:Ord)
 | e (i:Nat) (r alt:Ord)
def Ord.alts:Ord->List Nat
 | .e i _ a=>i::a.alts
 | _=>[]
def iS (md:Region.Mode) (ops:Array Oper):Bool->Ord->Nat->Array Bool->Bool
 | top,.nil,k,listed=>top&&(Nat.beq k 0&&(Region.ready md ops listed).isEmpty)
 | top,.stop,_,_=>!top
 | top,.q i r,k,listed=>match k with
   | 0=>false
   | k+1=>top&&((Region.ready md ops listed).contains i&&Region.free md ops listed i&&iS md ops true r k (listed.setIfInBounds i true))
 | top,.e i r alt,k,listed=>match k with
   | 0=>false
   | k+1=>(bif top then Region.ready md ops listed==i::alt.alts else true)&&(iS md ops true r k (listed.setIfInBounds i true)&&iS md ops false alt (k+1) listed)
section
variable {P:Program} {md:Region.Mode} {ops:Array Oper} {C:World->Prop} {Q:Exit->Act->World->Prop}
def nV (P:Program) (ops:Array Oper) (C:World->Prop) (Q:Exit->Act->World->Prop):Ord->Act->World->Prop
 | .nil,a,w=>C w/\Q .normal a w
 | .stop,_,_=>True
 | .q i r,a,w=>C w/\∃o v,ops[i]? = some o/\YV P ops C o v a/\nV P ops C Q r (a.put o.dst v) w
 | .e i r alt,a,w=>C w/\(wpOp P ops Q i (nV P ops C Q r) a w/\nV P ops C Q alt a w)
theorem v' (l:Region.noSelect ops=true) (m:∀c a w d v,Q (.panic c) (a.put d v) w->Q (.panic c) a w):∀(o:Ord) (k:Nat) (f:Array Bool) (a:Act) (w:World),
   (iS md ops true o k f=true->nV P ops C Q o a w->mZ P md ops C Q k f a w)/\
   (iS md ops false o k f=true->nV P ops C Q o a w->∀j ∈ o.alts,∃n,k=n+1/\wpOp P ops Q j (mZ P md ops C Q n (f.setIfInBounds j true)) a w)
 | .nil,k,f,a,w=>by
   refine ⟨λb h=>?_,λb=>by simp [iS] at b⟩;simp only [iS,Bool.true_and,Bool.and_eq_true] at b;obtain rfl:=Nat.eq_of_beq_eq_true b.1;exact ⟨h.1,by simpa using b.2,h.2⟩
 | .stop,k,f,a,w=>⟨λb=>by simp [iS] at b,λ_ _ j g=>by simp [Ord.alts] at g⟩
 | .q i r,k,f,a,w=>by
   cases k with
   | zero=>exact ⟨λb=>by simp [iS] at b,λb=>by simp [iS] at b⟩
   | succ k=>
     refine ⟨λb h=>?_,λb=>by simp [iS] at b⟩;simp only [iS,Bool.true_and,Bool.and_eq_true] at b;obtain ⟨u,o,v,s,x,h⟩:=h
     exact yE s (Region.noSelect_spec l) (λc a w=>m c a w o.dst v) k f a w (Region.free_spec s b.1.2) (by simpa using b.1.1) x u
       ((v' l m r k _ _ _).1 b.2 h)
 | .e i r alt,k,f,a,w=>by
   cases k with
   | zero=>exact ⟨λb=>by simp [iS] at b,λb=>by simp [iS] at b⟩
   | succ k=>
     have t:iS md ops true r k (f.setIfInBounds i true)=true->iS md ops false alt (k+1) f=true->nV P ops C Q (.e i r alt) a w->
         ∀j ∈ i::alt.alts,wpOp P ops Q j (mZ P md ops C Q k (f.setIfInBounds j true)) a w:=by
       intro y z h j g
       rcases List.mem_cons.1 g with rfl | g
       · exact wpOp_mono (λA w' B=>(v' l m r k _ A w').1 y B) h.2.1
       · obtain ⟨n,p,D⟩:=(v' l m alt (k+1) f a w).2 z h.2.2 j g
         injection p with p
         subst p;exact D
     refine ⟨λb h=>?_,λb h j g=>?_⟩
     · simp only [iS,cond_true,Bool.and_eq_true,beq_iff_eq] at b
       refine ⟨h.1,λE=>(by rw [E] at b; cases b.1),λj g=>?_⟩;rw [b.1] at g;exact t b.2.1 b.2.2 h j g
     · simp only [iS,cond_false,Bool.true_and,Bool.and_eq_true] at b
       exact ⟨k,O,t b.1 b.2 h j g⟩
theorem KM {id:Nat} {a:Act} {w:World} {l:List Oper} (ord:Ord) (e:P.follows .mixedOrders=true) (b:(Region.noSelect l.toArray&&iS .any l.toArray true ord l.toArray.size (Array.replicate l.toArray.size false))=true)
   (f:∀c a w d v,Q (.panic c) (a.put d v) w->Q (.panic c) a w) (h:nV P l.toArray C Q ord a w.drew):(Code.region id l.toArray true).wp P Q a w:=by
 simp only [Bool.and_eq_true] at b;have:=vU (md:=.any) _ _ _ _ ((v' b.1 f ord _ _ a w.drew).1 b.2 h);exact wp_region_any e this
variable {n:Nat} {ds:List Deferred} {l:List (Nat×Value)} {W:World->Prop}
def WT (P:Program) (ops:Array Oper) (C:World->Prop) (Q:Exit->Act->World->Prop) (n:Nat) (ds:List Deferred) (l:List (Nat×Value)) (W:World->Prop) (ord:Ord):Prop:=
 ∀a w,Ag n ds l a->W w->nV P ops C Q ord a w
theorem WT.q {r:Ord} {i d:Nat} {op:Op} {ty:TypeId} {pos:String} {af:Array Edge} {g:Option (Nat×Bool)} {v:Value} (hi:ops[i]? = some ⟨some d,op,ty,pos,af,g⟩) (e:dq ops l g) (f:Nat.blt d n=true)
   (j:∀w,W w->C w) (k:Yl P l C ⟨some d,op,ty,pos,af,g⟩ v) (h:WT P ops C Q n ds ((d,v)::l) W r):WT P ops C Q n ds l W (.q i r):=by
 intro a w b c;refine ⟨j w c,_,v,hi,.inl ⟨dq.wanted (o:=⟨some d,op,ty,pos,af,g⟩) e b,λw' m=>k a.eval w' (λx u p=>b.eval p) m⟩,h _ _ (b.put f v) c⟩
theorem WT.e {r g:Ord} {i:Nat} {o:Oper} (hi:ops[i]? = some o) (k:∀w,W w->C w) (h:WL P ops (Exit.then (nV P ops C Q r) Q) n ds l W [o]) (c:WT P ops C Q n ds l W g):WT P ops C Q n ds l W (.e i r g):=by
 intro a w j d;refine ⟨k w d,?_,c a w j d⟩;have:=h a w j d;unfold wpList at this;unfold wpOp;simp only [hi]
 split
 · rename_i f
   rw [if_pos f] at this
   rcases this with this | ⟨m,a2,p,c⟩
   · left
     unfold Oper.wp at this ⊢;unfold Oper.upon at this ⊢
     split at this
     all_goals first
       | exact this
       | (refine this.mono λe w' b=>?_
          cases e with
          | returned v=>exact b
          | panicked t=>exact b
          | outgrown=>obtain ⟨a3,q,s⟩:=b; exact ⟨a3,q,s⟩)
       | exact this.mono λv w' b=>b
   · exact .inr ⟨m,a2,p,c⟩
 · rename_i f
   rw [if_neg f] at this;exact this
theorem WT.stop:WT P ops C Q n ds l W .stop:=λ_ _ _ _=>trivial
theorem iw {r:Ord} (h:WT P ops C Q n ds l W r):WE (Exit.then (nV P ops C Q r) Q) .normal n ds l W:=h
theorem WT.nil (c:∀w,W w->C w) (h:WE Q .normal n ds l W):WT P ops C Q n ds l W .nil:=λa w d b=>⟨c w b,h a w d b⟩
theorem WC.KN {id:Nat} {os:List Oper} {b:World} {e:List Nat} {L:List aS} {Vs:List View} (ord:Ord) (f:P.follows .mixedOrders=true) (g:(Region.noSelect os.toArray&&iS .any os.toArray true ord os.toArray.size (Array.replicate os.toArray.size false))=true)
   (i:∀c a w d v,Q (.panic c) (a.put d v) w->Q (.panic c) a w) (h:WT P os.toArray (Ws b e L Vs) Q n ds l (Ws b e L Vs) ord):WC P (.region id os.toArray true) Q n ds l (Ws b e L Vs):=
 λa w j k=>KM ord f g i (h a w.drew j k.drew)
end
abbrev lf:=List UInt8×Value×Nat
def kO (e:lf):MapEntry:={ key:=st e.1,val:=e.2.1,born:=e.2.2 }
def mn (m:List lf) (c:Nat):Obj:=.map (m.map kO).toArray c
def lP (k:List UInt8):List lf->Nat->Option (Nat×Value)
 | [],_=>none
 | e::r,i=>if (k==e.1)=true then some (i,e.2.1) else lP k r (i+1)
def sd (k:List UInt8) (v:Value) (m:List lf) (c:Nat):List lf:=match lP k m 0 with
 | some (i,_)=>m.modify i λe=>(k,v,e.2.2)
 | none=>m++[(k,v,c)]
def se (k:List UInt8) (m:List lf) (c:Nat):Nat:=match lP k m 0 with | some _=>c | none=>c+1
def ec (k:List UInt8) (m:List lf) (a:Value):Value:=match lP k m 0 with | some (_,v)=>v | none=>a
theorem yK (a b:List UInt8):(ByteArray.mk a.toArray==ByteArray.mk b.toArray)=(a==b):=by
 show (a.toArray==b.toArray)=_
 simp
theorem KO (m:List lf) (j:Nat) (k:List UInt8) (v:Value):(m.map kO).modify j (λe=>{ e with key:=st k,val:=v })=(m.modify j λe=>(k,v,e.2.2)).map kO:=by
 apply List.ext_getElem?;intro i;simp only [List.getElem?_modify,List.getElem?_map]
 cases m[i]? with
 | none=>simp
 | some e=>by_cases h:j=i<;>simp [h,kO]
theorem yL (k:List UInt8):∀(m:List lf) (i:Nat),Instr.findNow .string (st k) (m.map kO) i=some (lP k m i)
 | [],_=>rfl
 | e::r,i=>by
   simp only [List.map_cons,Instr.findNow,kO,st,Instr.sameNow,yK,lP];cases h:(k==e.1)
   · simp only [Bool.false_eq_true,if_false]
     exact yL k r (i+1)
   · simp
section
variable {P:Program} {ops:Array Oper} {Q:Exit->Act->World->Prop} {n:Nat} {ds:List Deferred} {l:List (Nat×Value)} {w0:World} {F:List Nat} {L:List aS} {Vs:List View} {rest:List Oper} {d:Nat} {ty:TypeId} {pos:String} {af:Array Edge} {g:Option (Nat×Bool)}
theorem WL.KP {t:TypeId} (a:dq ops l g) (c:Nat.blt d n=true)
   (h:∀b,WL P ops Q n ds ((d,.map (some b))::l) (Ws w0 F (aq b (mn [] 0)::L) Vs) rest) :
   WL P ops Q n ds l (Ws w0 F L Vs) (⟨some d,.makeMap t none,ty,pos,af,g⟩::rest):=
 WL.new (mk:=λb=>.map (some b)) (o:=mn [] 0) a c (λe w _ _=>by
   simp only [execOp]
   simp [Instr.makeMap,mn]) h
theorem KQ {j:Option Tmp} {t a e:TypeId} {x y:Operand} {b c:Nat} {m:List lf} {k:List UInt8} {d:Value} (i:Nat) (n:P.underlying t=some (.map a e)) (f:P.underlying a=some .string) (o:zeroOf P e=some d) (p:bk l x=some (.map (some b))) (q:bk l y=some (st k)) (s:L[i]? = some (aq b (mn m c))) :
   Yl P l (Ws w0 F L Vs) ⟨j,.lookup t x y false,ty,pos,af,g⟩ (ec k m d):=by
 intro D w h u;have z:w.heap[b]? = some (.map (m.map kO).toArray c):=u.kn _ (ed s);have A:=yL k m 0;have B:(Instr.checkKey (m.map kO).toArray.isEmpty 10000 a (st k)).run P w = .ok () w:=MapKept.run_checkKey (k:=st k) f (by simp [MapKept.IsKey,st]) _ 9999
 have C:(Instr.lookup t (.map (some b)) (st k) false).run P w = .ok (ec k m d) w:=by
   simp only [Instr.lookup,Sem.run_bind,run_underlying n,Result.andThen_ok,MapKept.run_getObj_map z,Sem.run_pure,B];rw [MapKept.run_findKey f (by simpa using A)];unfold ec
   cases E:lP k m 0 with
   | none=>simp [Result.andThen_ok,q0 o]
   | some r=>obtain ⟨i,v⟩:=r; simp [Result.andThen_ok]
 simp [execOp,h x _ p,h y _ q,C]
theorem v_ {a:Option Tmp} {t d e:TypeId} {x:Operand} {b c:Nat} {m:List lf} (i:Nat) (f:P.underlying t=some (.map d e)) (h:bk l x=some (.map (some b))) (j:L[i]? = some (aq b (mn m c))) :
   Yl P l (Ws w0 F L Vs) ⟨a,.call ⟨.builtin .len,#[x],#[t]⟩,ty,pos,af,g⟩ (.int .i64 (m.length:Int)):=by
 intro p w k n;have o:w.heap[b]? = some (.map (m.map kO).toArray c):=n.kn _ (ed j);simp [execOp,resolve,invoke,builtin,k x _ h,Builtin.len_,run_underlying f,MapKept.run_getObj_map o,goInt]
theorem WL.KR {t q e:TypeId} {x y u:Operand} {b c:Nat} {m:List lf} {k:List UInt8} {v:Value} (i:Nat) (E:dq ops l g) (G:P.underlying t=some (.map q e)) (f:P.underlying q=some .string) (H:bk l x=some (.map (some b))) (I:bk l y=some (st k)) (J:bk l u=some v) (A:L[i]? = some (aq b (mn m c)))
   (h:WL P ops Q n ds l (Ws w0 F (L.set i (aq b (mn (sd k v m c) (se k m c)))) Vs) rest) :
   WL P ops Q n ds l (Ws w0 F L Vs) (⟨none,.mapUpdate t x y u,ty,pos,af,g⟩::rest):=by
 refine WL.step E λa w o B aa K=>?_;have p:w.heap[b]? = some (.map (m.map kO).toArray c):=B.kn _ (ed A);have M:=yL k m 0;have N:(Instr.checkKey false 10000 q (st k)).run P w = .ok () w:=MapKept.run_checkKey (k:=st k) f (by simp [MapKept.IsKey,st]) _ 9999
 have R:(Instr.mapUpdate t (.map (some b)) (st k) v).run P w = .ok () { w with heap:=w.heap.setIfInBounds b (mn (sd k v m c) (se k m c)) }:=by
   simp only [Instr.mapUpdate,Sem.run_bind,run_underlying G,Result.andThen_ok,MapKept.run_getObj_map p,Sem.run_pure,N];rw [MapKept.run_findKey f (by simpa using M)];unfold sd se
   cases S:lP k m 0 with
   | none=>simp [Result.andThen_ok,MapKept.run_setObj_map _ p,mn,kO,st]
   | some r=>
     obtain ⟨j,T⟩:=r
     have s:m[j]?.map (·.1)=some k:=by
       have key:∀(m:List lf) (d:Nat),lP k m d=some (j,T)->d<=j/\(m[j-d]?).map (·.1)=some k:=by
         intro m
         induction m with
         | nil=>intro d h; simp [lP] at h
         | cons e r U=>
           intro d h;simp only [lP] at h
           split at h
           · rename_i f
             injection h with h; injection h with C D
             subst C;simp at f;simp [f]
           · obtain ⟨C,D⟩:=U (d+1) h
             refine ⟨by omega,?_⟩
             have:j-d=(j-(d+1))+1:=by omega
             rw [this]; simpa using D
       simpa using (key m 0 S).2
     have V:((((m.map kO).toArray)[j]?).map (·.key)).getD (st k)=st k:=by
       cases z:m[j]? with
       | none=>simp [z]
       | some e=>rw [z] at s; simp at s; simp [z,kO,s]
     simp only [V,Result.andThen_ok]
     have W:(Instr.keyThatStays (st k) (st k)).run P w = .ok (st k) w:=by
       simp [Instr.keyThatStays,Instr.sameBits,st,yK]
     simp only [Sem.run_bind,W,Result.andThen_ok,MapKept.run_setObj_map _ p,mn]
     have X:(m.map kO).toArray.modify j (λe=>{ e with key:=st k,val:=v })=((m.modify j λe=>(k,v,e.2.2)).map kO).toArray:=by
       apply Array.ext';rw [Array.toList_modify];exact KO m j k v
     rw [X]
 have Y:(execOp a.eval ⟨none,.mapUpdate t x y u,ty,pos,af,g⟩).run P w = .ok .skip { w with heap:=w.heap.setIfInBounds b (mn (sd k v m c) (se k m c)) }:=by
   simp only [execOp,o.eval H,o.eval I,o.eval J,Sem.run_bind,R,Result.andThen_ok,Sem.run_pure]
 simp only [Oper.wp,Y,Oper.upon_skip];refine K _ _ (h _ _ (o.tG undef) ?_);refine Ws.pZ B i A ⟨O,O,O,by simp,λj ab Z=>?_⟩ ?_ (by simp [aq]) (by simp [aq])
 · have:b≠j:=λe=>Z (by simp [aq,e])
   simp [Array.getElem?_setIfInBounds_ne this]
 · show (w.heap.setIfInBounds b _)[b]? = _
   simp [lt_of_heap p]
theorem WL.yM {e:TypeId} {size m:Nat} {v:Value} {xs:List Value} (i:Nat) (f:L[i]? = some (bY e size v m xs))
   (h:∀a k,v = .slice a m k->WL P ops Q n ds l (Ws w0 F L Vs) rest):WL P ops Q n ds l (Ws w0 F L Vs) rest:=by
 intro a w d c;obtain ⟨p,g⟩:=(c.kn _ (ed f):w.ownsRow 0 e size v m xs)
 rcases g with ⟨j,o⟩ | ⟨b,cap,q,hv,_⟩
 · exact h none 0 (by rw [j,o]) a w d c
 · exact h _ _ hv a w d c
end
section
variable {P:Program} {ops:Array Oper} {Q:Exit->Act->World->Prop} {n:Nat} {ds:List Deferred} {l:List (Nat×Value)} {W:World->Prop} {w0:World} {F:List Nat} {L:List aS} {Vs:List View}
 {rest:List Oper} {d:Nat} {ty:TypeId} {pos:String} {af:Array Edge} {g:Option (Nat×Bool)}
theorem dF {ι κ:Type} {f:FuncId} {args:Array Operand} {ts:Array TypeId} {vs:List Value} (k L2:List aS) (t:dq ops l g) (u:Nat.blt d n=true) (x:Enters P f) (y:hU l args.toList=some vs) (z:L=k++L2)
   (v:ι->Value) (o:ι->List aS) (R:ι->Prop) (p:κ->List PanicEntry) (Lp:κ->List aS) (q:κ->Prop) (ah:List View) (A:∀B ∈ ah,B ∈ Vs)
   (C:∀w,Ws w (k.flatMap aS.ids) k ah w->Calls P f vs.toArray w λe w'=>(∃i,e = .returned (v i)/\R i/\Ws w (k.flatMap aS.ids) (o i) ah w')\/(∃j,e = .panicked (p j)/\q j/\Ws w (k.flatMap aS.ids) (Lp j) ah w'))
   (D:∀j,q j->WE Q (.panic (p j)) n ds l (Ws w0 F (Lp j++L2) Vs))
   (E:∀i,R i->WL P ops Q n ds ((d,v i)::l) (Ws w0 F (o i++L2) Vs) rest) :
   WL P ops Q n ds l (Ws w0 F L Vs) (⟨some d,.call ⟨.value (.func f),args,ts⟩,ty,pos,af,g⟩::rest):=by
 subst z;refine WL.tK t u x y v (λi w'=>R i/\Ws w0 F (o i++L2) Vs w') (λc w'=>∃j,c=p j/\q j/\Ws w0 F (Lp j++L2) Vs w') (λw b=>(C w (b.self.cv A)).mono λe w' h=>?_) (λi=>?_) (λc=>?_)
 · rcases h with ⟨i,r,m,h⟩ | ⟨j,r,m,h⟩
   · exact .inl ⟨i,r,m,b.back h⟩
   · exact .inr ⟨_,r,j,O,m,b.back h⟩
 · intro a w s b
   exact E i b.1 a w s b.2
 · rintro a w s ⟨j,rfl,m,b⟩
   exact D j m a w s b
theorem WL.CY {ι κ:Type} {f:FuncId} {t:Operand} {u:Array Value} {args:Array Operand} {ts:Array TypeId} {vs:List Value} (k L2:List aS) (x:dq ops l g) (y:Nat.blt d n=true) (z:Enters P f) (A:bk l t=some (.func (.func f) #[] u)) (B:hU l args.toList=some vs) (C:L=k++L2)
   (v:ι->Value) (o:ι->List aS) (R:ι->Prop) (p:κ->List PanicEntry) (Lp:κ->List aS) (q:κ->Prop) (ah:List View) (D:∀E ∈ ah,E ∈ Vs)
   (G:∀w,Ws w (k.flatMap aS.ids) k ah w->Calls P f (vs.toArray++u) w λe w'=>(∃i,e = .returned (v i)/\R i/\Ws w (k.flatMap aS.ids) (o i) ah w')\/(∃j,e = .panicked (p j)/\q j/\Ws w (k.flatMap aS.ids) (Lp j) ah w'))
   (H:∀j,q j->WE Q (.panic (p j)) n ds l (Ws w0 F (Lp j++L2) Vs))
   (I:∀i,R i->WL P ops Q n ds ((d,v i)::l) (Ws w0 F (o i++L2) Vs) rest) :
   WL P ops Q n ds l (Ws w0 F L Vs) (⟨some d,.call ⟨.value t,args,ts⟩,ty,pos,af,g⟩::rest):=by
 subst C;refine WL.Kr x y z A B v (λi w'=>R i/\Ws w0 F (o i++L2) Vs w') (λc w'=>∃j,c=p j/\q j/\Ws w0 F (Lp j++L2) Vs w') (λw b=>(G w (b.self.cv D)).mono λe w' h=>?_) (λi=>?_) (λc=>?_)
 · rcases h with ⟨i,r,m,h⟩ | ⟨j,r,m,h⟩
   · exact .inl ⟨i,r,m,b.back h⟩
   · exact .inr ⟨_,r,j,O,m,b.back h⟩
 · intro a w s b
   exact I i b.1 a w s b.2
 · rintro a w s ⟨j,rfl,m,b⟩
   exact H j m a w s b
theorem bL {W:World->Prop} {a:Option Tmp} {t:TypeId} {x:Operand} {v:Value} (b:P.concrete t=true) (c:bk l x=some v):Yl P l W ⟨a,.makeInterface t x,ty,pos,af,g⟩ (.iface t v):=
 λf w d _=>by
   have e:(Instr.makeInterface t v).run P w = .ok (.iface t v) w:=run_makeInterface (h:=b) ..;simp [execOp,d x v c,e]
theorem WL.panic {x:Operand} {t:TypeId} {v:Value} {b:Option Tmp} (d:dq ops l g) (f:bk l x=some (.iface t v)) (h:WE Q (.panic [⟨.iface t v,false,false⟩]) n ds l W):WL P ops Q n ds l W (⟨b,.panic x,ty,pos,af,g⟩::rest):=by
 refine WL.step d λa w c i j k=>?_
 have:(execOp a.eval ⟨b,.panic x,ty,pos,af,g⟩).run P w = .halt (.panic (.iface t v)) w:=by
   have e:(Instr.panic (.iface t v)).run P w = .halt (.panic (.iface t v)) w:=rfl;simp [execOp,c.eval f,e]
 simp only [Oper.wp,this,Oper.upon_panic];exact h a w c i
theorem WL.defer {c:Operand} {f:FuncId} {d:List Value} {ts:Array TypeId} (e:dq ops l g) (i:bk l c=some (.func (.func f) #[] d.toArray))
   (h:WL P ops Q n (⟨.fn (.func f) d.toArray,#[]⟩::ds) l W rest):WL P ops Q n ds l W (⟨none,.defer ⟨.value c,#[],ts⟩,ty,pos,af,g⟩::rest):=by
 refine WL.step e λa w b j m k=>?_
 have:(execOp a.eval ⟨none,.defer ⟨.value c,#[],ts⟩,ty,pos,af,g⟩).run P w = .ok (.defer ⟨.fn (.func f) d.toArray,#[]⟩) w:=by
   simp [execOp,resolve,b.eval i,Deferred.ofValue]
 simp only [Oper.wp,this,Oper.upon_defer];refine k _ _ (h _ _ ⟨b.size,?_,b.aI⟩ j)
 show _::a.defers=_
 rw [b.defs]
theorem yN {f:FuncId} {fn:Func} {c:Code} {vs:List Value} {w:World} {R:Ending->World->Prop} (d:P.funcs[f]? = some fn) (e:fn.body=some c)
   (m:Nat) (g:fn.ntmps=m) (i:Nat.ble vs.length m=true) (h:WC P c (bodyPostD P fn R) m [] (qX 0 vs) (λw'=>w'=w)):Calls P f vs.toArray w R:=by
 refine calls_of_wp_defers d e (h _ _ ?_ O);have j:=Nat.le_of_ble_eq_true i;subst g;refine ⟨by simp; omega,O,λt v hv=>?_⟩;obtain ⟨_,a⟩:=yw vs 0 t v hv;simp only [Nat.sub_zero] at a
 have b:t<vs.length:=by
   rcases Nat.lt_or_ge t vs.length with h | h
   · exact h
   · simp [List.getElem?_eq_none h] at a
 simp [Array.getD_eq_getD_getElem?,Array.getElem?_append,b];simp [List.getElem?_eq_getElem b] at a;exact a
def Rs (P:Program) (fn:Func) (l:List (Nat×Value)) (W:World->Prop) (v:Value):Prop:=∀(tmps:Array Value) w,(∀t u,lk l t=some u->tmps.getD t undef=u)->W w->(results fn tmps).run P w = .ok v w
def mo (tmps:Array Value):ResultVar->Sem Value
 | .tmp t=>pure (tmps.getD t undef)
 | .cell a t=>do loadVar t (<-asAddr (tmps.getD a undef))
theorem wa (fn:Func) (tmps:Array Value):results fn tmps=(do let vs <-fn.results.mapM (mo tmps); pure (if h:vs.size=1 then vs[0] else .tuple vs)):=by
 have e:(λr:ResultVar=>match r with | .tmp t=>(pure (tmps.getD t undef):Sem Value) | .cell a t=>do loadVar t (<-asAddr (tmps.getD a undef)))=mo tmps:=by funext r; cases r<;>rfl
 rw [<-e]; rfl
def sg (P:Program) (l:List (Nat×Value)) (W:World->Prop) (r:ResultVar) (v:Value):Prop:=∀(tmps:Array Value) w,(∀t u,lk l t=some u->tmps.getD t undef=u)->W w->(mo tmps r).run P w = .ok v w
theorem gz {t:Nat} {v:Value} (h:lk l t=some v):sg P l W (.tmp t) v:=λtmps w a _=>by simp only [mo,a t v h,Sem.run_pure]
theorem lQ {a b o:Nat} {t:TypeId} {v:Value} {c:Obj} (i:Nat) (d:lk l a=some (.pointer (some ⟨b,o,none⟩))) (e:L[i]? = some (aq b c)) (f:f_ c o=some v) (g:eG P t=true):sg P l (Ws w0 F L Vs) (.cell a t) v:=λtmps w h j=>by
 simp only [mo,h a _ d,asAddr,Sem.run_bind,Sem.run_pure,Result.andThen_ok,CB g (cell_of_heap (j.kn _ (ed e)) f)]
theorem dI {a b o k:Nat} {t:TypeId} {c:Obj} (i:Nat) (e:lk l a=some (.pointer (some ⟨b,o,none⟩))) (f:L[i]? = some (aq b c)) (g:f' P t=some k) (m:(cellsIn c o k).length=k):sg P l (Ws w0 F L Vs) (.cell a t) (.agg (cellsIn c o k).toArray):=λtmps w h n=>by
 have p:(loadVar t ⟨b,o,none⟩).run P w = .ok (.agg (cellsIn c o k).toArray) w:=vL g m λj v d=>by
   have q:w.heap[b]? = some c:=n.kn _ (ed f);refine cell_of_heap q ?_
   cases c<;>simp [cellsIn,f_] at *
   rw [List.getElem?_take] at d
   split at d
   · simpa using d
   · cases d
 simp only [mo,h a _ e,asAddr,Sem.run_bind,Sem.run_pure,Result.andThen_ok,p]
theorem gL {fn:Func} {r:ResultVar} {v:Value} (a:fn.results = #[r]) (h:sg P l W r v):Rs P fn l W v:=λtmps w b c=>by
 have d:=h tmps w b c;simp [wa,a,Array.mapM_eq_mapM_toList,List.mapM_cons,List.mapM_nil,d]
theorem fj {fn:Func} {r s:ResultVar} {v x:Value} (c:fn.results = #[r,s]) (h:sg P l W r v) (d:sg P l W s x):Rs P fn l W (.tuple #[v,x]):=λtmps w a b=>by
 have e:=h tmps w a b;have f:=d tmps w a b;simp [wa,c,Array.mapM_eq_mapM_toList,List.mapM_cons,List.mapM_nil,e,f]
theorem WE.ee {fn:Func} {R:Ending->World->Prop} {v:Value} (d:Rs P fn l W v) (h:∀w,W w->R (.returned v) w):WE (bodyPost P fn R) .ret n [] l W:=
 λa w b c=>bodyPost_ret (d a.tmps w b.aI c) b.defs (h w c)
theorem WE.yO {fn:Func} {R:Ending->World->Prop} {f:FuncId} {b:List Value} {W':World->Prop} {v:Value} (i:Enters P f)
   (j:∀w,W w->CallsD P f b.toArray .returning w λe c w'=>e = .returned (.tuple #[])/\c = .returning/\W' w')
   (k:Rs P fn l W' v) (h:∀w,W' w->R (.returned v) w):WE (bodyPostD P fn R) .ret n [⟨.fn (.func f) b.toArray,#[]⟩] l W:=by
 intro a w d m
 show Leaves P fn a.tmps R a.defers .returning w
 rw [d.defs];refine ⟨by simp,.func f,b.toArray,f,b.toArray,O,?_,(j w m).mono λe c w' o=>?_⟩
 · simp only [invoke]
   simpa using i b.toArray w
 · obtain ⟨rfl,rfl,g⟩:=o
   exact ⟨v,k a.tmps w' d.aI g,h w' g⟩
theorem WE.cr {fn:Func} {R:Ending->World->Prop} {f:FuncId} {b:List Value} {W':World->Prop} {v c:Value} (j:Enters P f)
   (k:∀w,W w->CallsD P f b.toArray (.panicking [⟨c,false,false⟩]) w λe d w'=>e = .returned (.tuple #[])/\d = .panicking [⟨c,true,false⟩]/\W' w')
   (m:Rs P fn l W' v) (h:∀w,W' w->R (.returned v) w):WE (bodyPostD P fn R) (.panic [⟨c,false,false⟩]) n [⟨.fn (.func f) b.toArray,#[]⟩] l W:=by
 intro a w g o
 show Leaves P fn a.tmps R a.defers (.panicking [⟨c,false,false⟩]) w
 rw [g.defs];refine ⟨by simp,.func f,b.toArray,f,b.toArray,O,?_,(k w o).mono λe d w' p=>?_⟩
 · simp only [invoke]
   simpa using j b.toArray w
 · obtain ⟨rfl,rfl,i⟩:=p
   exact ⟨v,m a.tmps w' g.aI i,h w' i⟩
theorem WE.yP {fn:Func} {R:Ending->World->Prop} {v:Value} (d:Rs P fn l W v) (h:∀w,W w->R (.returned v) w):WE (bodyPostD P fn R) .ret n [] l W:=by
 intro a w b c
 show Leaves P fn a.tmps R a.defers .returning w
 rw [b.defs];exact ⟨v,d a.tmps w b.aI c,h w c⟩
def CZ (u:FrameMode) (rv:Value) (a:FrameMode):Prop:=(u = .returning/\rv = .nilIface/\a = .returning)\/∃v,u = .panicking [⟨v,false,false⟩]/\rv=v/\a = .panicking [⟨v,true,false⟩]
theorem KS {id:Nat} {o:Oper} {os:List Oper} {d:Nat} {y:Code} {c:Frame} {cs:List Frame} {a:Act} {w:World} {rv:Value} {f:FrameMode} {Q:Exit->Act->World->Prop} {l:Exit->Act->List Frame->World->Prop}
   (r:o.dst=some d) (s:o.guard=none) (m:(execOp a.eval o).run P w = .ok .recover w) (t:CZ c.mode rv f)
   (n:∀e a w,Q e a w->l e a ({ c with mode:=f }::cs) w)
   (h:wpList P (o::os).toArray (Exit.then (y.wp P Q) Q) os (a.put (some d) rv) w):(Code.seq (.region id (o::os).toArray false) y).wpS P l a (c::cs) w:=by
 refine wpS_seq ?_;intro b k u H;have p:(o::os).toArray[0]? = some o:=rfl
 have x:Region.wanted o (yielded (o::os).toArray a.tmps)=true:=by simp [Region.wanted,s]
 have z:=stepG_op (P:=P) (b:=b) (k:=k) (cs:=c::cs) (w:=w) (rest:=List.range' 1 os.length) p x;have A:(b.at a (.inRegion (o::os).toArray (0::List.range' 1 os.length)::k)).kind = .deferred:=u;have i:=tryRecover_deferred A (c::cs)
 have B:∀v,(b.at a (.inRegion (o::os).toArray (0::List.range' 1 os.length)::k)).finish v=b.at (a.put (some d) v) (.inRegion (o::os).toArray (List.range' 1 os.length)::k):=by
   intro v; rw [Frame.finish_at,p,<-r]; rfl
 have C:step P (lone (b.at a (.inRegion (o::os).toArray (0::List.range' 1 os.length)::k)) (c::cs) w) = .next (lone (b.at (a.put (some d) rv) (.inRegion (o::os).toArray (List.range' 1 os.length)::k)) ({ c with mode:=f }::cs) w):=by
   refine step_lone_go ?_;rw [z,<-B];simp only [Frame.at] at i ⊢
   rcases t with ⟨g,rfl,rfl⟩ | ⟨v,g,rfl,rfl⟩
   · simp [stepG.apply,m,i,recoverD,g]
     rw [<-g]
   · simp [stepG.apply,m,i,recoverD,g]
 have D:wpOps P (o::os).toArray (Exit.then (y.wp P Q) Q) (List.range' 1 os.length) (a.put (some d) rv) w:=by
   rw [wpOps_eq_wpList os 1 (λj=>by simp [Nat.add_comm 1 j])]; exact h
 obtain ⟨e,E,w',q,F⟩:=wp_ops _ _ _ D b k ({ c with mode:=f }::cs)
 have G:step P (lone (b.at a (.code (.region id (o::os).toArray false)::k)) (c::cs) w) = .next (lone (b.at a (.inRegion (o::os).toArray (0::List.range' 1 os.length)::k)) (c::cs) w):=by
   have:=step_region (P:=P) (b:=b) (a:=a) (k:=k) (cs:=c::cs) (w:=w) (ops:=(o::os).toArray) (id:=id);rw [this];simp [List.range_eq_range',List.range'_succ]
 refine ⟨e,E,_,w',?_,.of_steps (.head G (.one C)) F⟩
 cases e with
 | normal=>exact wpS_of_wp (wp_mono q λe a w h=>n e a w h)
 | _=>exact n _ _ _ q
theorem sh {f:FuncId} {fn:Func} {id:Nat} {o:Oper} {os:List Oper} {d:Nat} {y:Code} {vs:List Value} {w:World} {rv:Value} {u c:FrameMode} {R:Ending->World->Prop} (k:P.funcs[f]? = some fn) (l:fn.body=some (.seq (.region id (o::os).toArray false) y))
   (m:Nat) (n:fn.ntmps=m) (p:Nat.ble vs.length m=true) (q:o.dst=some d) (r:Nat.blt d m=true) (s:o.guard=none) (x:∀(z:Operand->Value),(execOp z o).run P w = .ok .recover w) (A:CZ u rv c)
   (h:WL P (o::os).toArray (Exit.then (y.wp P (bodyPost P fn R)) (bodyPost P fn R)) m [] ((d,rv)::qX 0 vs) (λw'=>w'=w) os):CallsD P f vs.toArray u w λe B w'=>B=c/\R e w':=by
 refine callsD_of_wpS k l λE cs C=>?_;refine KS (Q:=bodyPost P fn R) q s (x _) (by rw [C]; exact A) (λe a w b=>?_) (h _ _ ?_ O)
 · cases e with
   | normal=>exact ⟨b.1,c,rfl,b.2.choose,b.2.choose_spec.1,rfl,b.2.choose_spec.2⟩
   | ret=>exact ⟨b.1,c,rfl,b.2.choose,b.2.choose_spec.1,rfl,b.2.choose_spec.2⟩
   | panic F=>exact ⟨b.1,c,rfl,rfl,b.2⟩
   | outgrown=>exact ⟨c,rfl,b⟩
   | exit i=>exact b
   | goto i=>exact b
 · have G:=Nat.le_of_ble_eq_true p
   subst n
   have D:Ag fn.ntmps [] (qX 0 vs) { tmps:=vs.toArray++Array.replicate (fn.ntmps-vs.toArray.size) undef,defers:=[] }:=by
     refine ⟨by simp; omega,O,λt v hv=>?_⟩;obtain ⟨_,g⟩:=yw vs 0 t v hv;simp only [Nat.sub_zero] at g
     have j:t<vs.length:=by
       rcases Nat.lt_or_ge t vs.length with h | h
       · exact h
       · simp [List.getElem?_eq_none h] at g
     simp [Array.getD_eq_getD_getElem?,Array.getElem?_append,j];simp [List.getElem?_eq_getElem j] at g;exact g
   exact D.put r rv
theorem yQ {t u:TypeId} {x:Operand} {W:World->Prop} {b:Option Tmp} (c:P.underlying t=some (.interface (P.methodsAt t))) (d:bk l x=some .nilIface):Yl P l W ⟨b,.binOp .neq t x (.const .nilIface) u,ty,pos,af,g⟩ (.bool false):=by
 intro e w a _;have f:e (.const .nilIface) = .nilIface:=a _ _ rfl;simp only [execOp,a x _ d,f,Sem.run_bind];simp [eqGuard_nil_constR,run_neq_nil_nil (h:=c)]
theorem C0 {t u s:TypeId} {x:Operand} {v:Value} {W:World->Prop} {b:Option Tmp} (c:P.underlying t=some (.interface (P.methodsAt t))) (d:bk l x=some (.iface s v)):Yl P l W ⟨b,.binOp .neq t x (.const .nilIface) u,ty,pos,af,g⟩ (.bool true):=by
 intro e w a _;have f:e (.const .nilIface) = .nilIface:=a _ _ rfl
 have i:(eqGuard .neq t x (.const .nilIface) (.iface s v) .nilIface)=pure ():=by cases x<;>rfl
 simp only [execOp,a x _ d,f,Sem.run_bind,i];simp [run_neq_held_nil (h:=c)]
end
section
variable {P:Program} {l:List (Nat×Value)} {W:World->Prop} {d:Option Tmp} {ty:TypeId} {pos:String} {af:Array Edge} {g:Option (Nat×Bool)}
theorem C1 (s:List UInt8) (i j:Nat):Value.string ((ByteArray.mk s.toArray).extract i j)=st ((s.take j).drop i):=by
 have e:((ByteArray.mk s.toArray).extract i j)=⟨((s.take j).drop i).toArray⟩:=by
   apply ByteArray.ext;simp [List.drop_take]
 rw [e]; rfl
theorem yR {t:TypeId} {x y:Operand} {s:List UInt8} {k:IntKind} {h:Int} (a:P.underlying t=some .string) (c:bk l x=some (st s)) (f:bk l y=some (.int k h)) (i:0<=h) (j:h<=s.length):Yl P l W ⟨d,.slice t x none (some y) none,ty,pos,af,g⟩ (st (s.take h.toNat)):=by
 intro n w b _;have e:=run_slice_string_h (P:=P) w t ⟨s.toArray⟩ a k h i (by rw [cq]; exact j)
 have m:(Instr.sliceAt t (.string ⟨s.toArray⟩) none (some (.int k h)) none).run P w = .ok (st (s.take h.toNat)) w:=by
   rw [run_sliceAt_string (h:=a),e,C1]; simp
 simp [execOp,b x _ c,b y _ f,st,m]
theorem wb {t:TypeId} {x y:Operand} {s:List UInt8} {k:IntKind} {h:Int} (a:P.underlying t=some .string) (c:bk l x=some (st s)) (f:bk l y=some (.int k h)) (i:0<=h) (j:h<=s.length):Yl P l W ⟨d,.slice t x (some y) none none,ty,pos,af,g⟩ (st (s.drop h.toNat)):=by
 intro n w b _;have e:=run_slice_string_l (P:=P) w t ⟨s.toArray⟩ a k h i (by rw [cq]; exact j)
 have m:(Instr.sliceAt t (.string ⟨s.toArray⟩) (some (.int k h)) none none).run P w = .ok (st (s.drop h.toNat)) w:=by
   rw [run_sliceAt_string (h:=a),e,C1,cq,List.take_length]
 simp [execOp,b x _ c,b y _ f,st,m]
theorem KT {t u:TypeId} {x y:Operand} {a:IntKind} {n:Int} (m:Nat) (f:bk l x=some (.int .i64 n)) (h:bk l y=some (.int a (m:Int))) (i:m<=64):Yl P l W ⟨d,.binOp .shl t x y u,ty,pos,af,g⟩ (.int .i64 (IntKind.i64.wrap (n*2 ^ m))):=by
 intro j w b _
 have e:min m IntKind.i64.bits=m:=by simp [IntKind.bits]; omega
 have:¬(m:Int)<0:=by omega
 have c:(binOp .shl t (.int .i64 n) (.int a (m:Int))).run P w = .ok (.int .i64 (IntKind.i64.wrap (n*2 ^ (min (m:Int).toNat IntKind.i64.bits)))) w:=by
   simp only [binOp,Op.shift,if_neg this,Sem.run_pure]
 rw [Int.toNat_natCast,e] at c;simp only [execOp,b x _ f,b y _ h,Sem.run_bind,show eqGuard .shl t x y (.int .i64 n) (.int a (m:Int))=pure () from rfl,Sem.run_pure,Result.andThen_ok,c]
theorem KU (a b:Int) (h:a % 18446744073709551616=b % 18446744073709551616):IntKind.i64.wrap a=IntKind.i64.wrap b:=by
 rw [IntKind.wrap_i64,IntKind.wrap_i64]; omega
theorem KV (n:Int) (b:Nat) (d:b<256):IntKind.i64.wrap ((BitVec.ofInt 64 (IntKind.i64.wrap (n*2 ^ 8))||| BitVec.ofInt 64 (b:Int)).toNat:Int)=IntKind.i64.wrap (n*256+b):=by
 have a:(BitVec.ofInt 64 (IntKind.i64.wrap (n*2 ^ 8))).toNat=((n % 72057594037927936).toNat) <<< 8:=by
   rw [BitVec.toNat_ofInt,Nat.shiftLeft_eq]
   have e:IntKind.i64.wrap (n*2 ^ 8) % ((2 ^ 64:Nat):Int)=(n % 72057594037927936)*256:=by
     rw [IntKind.wrap_i64]; omega
   rw [e]; omega
 have c:(BitVec.ofInt 64 (b:Int)).toNat=b:=by
   rw [BitVec.toNat_ofInt];omega
 rw [BitVec.toNat_or,a,c,<-Nat.shiftLeft_add_eq_or_of_lt (by omega),Nat.shiftLeft_eq];apply KU;omega
theorem zX {t u:TypeId} {x y:Operand} {n:Int} {b:Nat} (c:bk l x=some (.int .i64 (IntKind.i64.wrap (n*2 ^ 8)))) (f:bk l y=some (.int .i64 (b:Int))) (h:b<256):Yl P l W ⟨d,.binOp .or t x y u,ty,pos,af,g⟩ (.int .i64 (IntKind.i64.wrap (n*256+b))):=by
 intro i w a _;have e:(binOp .or t (.int .i64 (IntKind.i64.wrap (n*2 ^ 8))) (.int .i64 (b:Int))).run P w = .ok (.int .i64 (IntKind.i64.wrap ((BitVec.ofInt 64 (IntKind.i64.wrap (n*2 ^ 8))||| BitVec.ofInt 64 (b:Int)).toNat:Int))) w:=rfl;rw [KV n b h] at e;simp only [execOp,a x _ c,a y _ f,Sem.run_bind,show eqGuard .or t x y (.int .i64 (IntKind.i64.wrap (n*2 ^ 8))) (.int .i64 (b:Int))=pure () from rfl,Sem.run_pure,Result.andThen_ok,e]
end
section
variable {P:Program} {ops:Array Oper} {Q:Exit->Act->World->Prop} {n:Nat} {ds:List Deferred} {l:List (Nat×Value)} {w0:World} {F:List Nat} {L:List aS} {Vs:List View}
 {rest:List Oper} {d:Nat} {ty:TypeId} {pos:String} {af:Array Edge} {g:Option (Nat×Bool)}
theorem WL.KX {s t e:TypeId} {x:Operand} {f:List UInt8} (r:dq ops l g) (u:Nat.blt d n=true) (v:P.underlying s=some .string) (y:P.underlying t=some (.slice e)) (z:P.underlying e=some (.int .u8)) (A:bk l x=some (st f))
   (h:∀b c k,WL P ops Q n ds ((d,.slice (some ⟨b,0,none⟩) f.length c)::l) (Ws w0 F (aq b (.cells (f.map au++List.replicate k (Value.int .u8 0)).toArray e (f.length+k,f.length+k+1))::L) Vs) rest) :
   WL P ops Q n ds l (Ws w0 F L Vs) (⟨some d,.convert s t x,ty,pos,af,g⟩::rest):=by
 refine WL.step r λa w i B H C=>?_;have m:=Lib.run_convert_string_bytes (P:=P) w s t e ⟨f.toArray⟩ v y z
 have D:(execOp a.eval ⟨some d,.convert s t x,ty,pos,af,g⟩).run P w = .ok (.value (.slice (some ⟨w.heap.size,0,none⟩) f.length (grownCap w f.length 0 e))) (Lib.bytesWorld w e ⟨f.toArray⟩):=by
   rw [cq] at m;simp only [execOp,i.eval A,st,Sem.run_bind,m,Result.andThen_ok,Sem.run_pure]
 simp only [Oper.wp,D,Oper.upon_value];refine C _ _ (h w.heap.size _ (grownCap w f.length 0 e-f.length) _ _ (i.put u _) ?_)
 have o:Lib.bytesCells w e ⟨f.toArray⟩=(f.map au++List.replicate (grownCap w f.length 0 e-f.length) (Value.int .u8 0)).toArray:=by
   unfold Lib.bytesCells;rw [cq];apply Array.ext';simp [au]
 have E:(Lib.bytesCells w e ⟨f.toArray⟩).size=f.length+(grownCap w f.length 0 e-f.length):=by rw [o]; simp
 have p:=Lib.bytesWorld_at_new w e ⟨f.toArray⟩;rw [E,o] at p
 have:=Ws.pY (L:=[]) (L':=[aq w.heap.size (.cells (f.map au++List.replicate (grownCap w f.length 0 e-f.length) (Value.int .u8 0)).toArray e (f.length+(grownCap w f.length 0 e-f.length),f.length+(grownCap w f.length 0 e-f.length)+1))]) (L2:=L) (w':=Lib.bytesWorld w e ⟨f.toArray⟩) (by simpa using B)
   ⟨by unfold Lib.bytesWorld World.freeze; split<;>rfl,by unfold Lib.bytesWorld World.freeze; split<;>rfl,by unfold Lib.bytesWorld World.freeze; split<;>rfl,by rw [Lib.bytesWorld_size]; omega,λj G _=>Lib.bytesWorld_at_old w e _ j G⟩
   (by intro I q; simp at q; subst q; exact p) (by simp [aq]) (by simp [aq])
 simpa using this
end
abbrev cf {α:Type} (e:TypeId) (k:Nat) (f:α->List Value) (a:Option Addr) (c:Nat) (xs:List α):aS:=bY e k (.slice a xs.length c) xs.length (xs.flatMap f)
section
variable {P:Program} {ops:Array Oper} {Q:Exit->Act->World->Prop} {n:Nat} {ds:List Deferred} {l:List (Nat×Value)} {w0:World} {F:List Nat} {L:List aS} {Vs:List View}
 {rest:List Oper} {d:Nat} {ty:TypeId} {pos:String} {af:Array Edge} {g:Option (Nat×Bool)}
theorem LA {α:Type} {f:α->List Value} {t e:TypeId} {A:Value} {size q B:Nat} {s y:Operand} {a:Option Addr} {c r:Nat} {xs:List α} {T:TypeId} {C:Nat×Nat} (x:α) (i j:Nat) (D:dq ops l g) (E:Nat.blt d n=true) (G:aE P t e A size q)
   (H:bk l s=some (.slice a xs.length c)) (I:bk l y=some (.slice (some ⟨r,0,none⟩) 1 B)) (z:L[i]? = some (cf e size f a c xs)) (J:L[j]? = some (aq r (.cells (f x).toArray T C)))
   (K:(f x).length=size) (M:(f x).all (·.oneCell')=true) (V:xs.length+1<=9223372036854775807) (N:(xs.length+1)*q<=140737488355328)
   (h:∀b o,WL P ops Q n ds ((d,.slice b (xs++[x]).length o)::l) (Ws w0 F (L.set i (cf e size f b o (xs++[x]))) Vs) rest) :
   WL P ops Q n ds l (Ws w0 F L Vs) (⟨some d,.call ⟨.builtin .append,#[s,y],#[t,t]⟩,ty,pos,af,g⟩::rest):=by
 refine WL.append i D E G H I z (news:=f x) (k:=1) (by rw [Nat.one_mul]; exact K) (λw O k u p=>CV O j J (k:=k) (by simpa using p)) (λu p=>List.all_eq_true.1 M u p) (by unfold maxLen; omega) N λR _=>?_
 have S:(xs.flatMap f)++f x=(xs++[x]).flatMap f:=by simp
 have U:xs.length+1=(xs++[x]).length:=by simp
 rw [S,U];have hi:i<L.length:=(List.getElem?_eq_some_iff.1 z).1;refine WL.yM i (m:=(xs++[x]).length) (xs:=(xs++[x]).flatMap f) (e:=e) (size:=size) (v:=R) (by simp [hi]) λb o hv=>?_;subst hv;exact h b o
end
theorem Ws.jg {α:Type} {rd:View->Nat->Nat->α->Prop} {f:α->List Value} {k:Nat} {m w:World} {L:List aS} {Vs:List View} (h:Ws m [] L Vs w) (i:Nat) {a:Option Addr} {c:Nat} {e:TypeId} {xs:List α} (r:L[i]? = some (cf e k f a c xs))
   (n:∀x,(f x).length=k) (s:∀p b o x,bI p b o (f x)->rd p b o x):Sl rd k (nv m w) a c xs:=by
 rcases h.Ks i r with ⟨d,q⟩ | ⟨b,B,d,q,t,u⟩
 · injection d with g y l
   subst g l;have:xs=[]:=List.eq_nil_of_length_eq_zero (by omega);subst this;exact Sl.nil
 · injection d with g y l
   subst g l;refine ⟨q,by unfold maxLen at t; omega,by simp,λi x z=>⟨b,0,O,s _ _ _ _ λj v hv=>?_⟩⟩
   have A:j<k:=by have:=(List.getElem?_eq_some_iff.1 hv).1; rw [n] at this; exact this
   rw [Nat.zero_add];exact u _ _ (by rw [o2 n z A]; exact hv)
theorem Ws.KY {α:Type} {rd:View->Nat->Nat->α->Prop} {f:α->List Value} {k:Nat} {p w:World} {q:List Nat} {L:List aS} {Vs:List View} (h:Ws p q L Vs w) (i:Nat) {a:Option Addr} {c:Nat} {e:TypeId} {xs:List α} (r:L[i]? = some (cf e k f a c xs))
   (m:∀x,(f x).length=k) (s:∀n b o x,bI n b o (f x)->rd n b o x):Sl rd k (hv w) a c xs:=by
 obtain ⟨G,t⟩:=(h.kn _ (ed r):w.ownsRow 0 e k _ xs.length (xs.flatMap f))
 rcases t with ⟨u,H⟩ | ⟨b,cap,I,y,_,z,A,g,J,B⟩
 · injection u with l C g
   subst l g;have:xs=[]:=List.eq_nil_of_length_eq_zero (by omega);subst this;exact Sl.nil
 · injection y with l C D
   subst l D;refine ⟨A,by unfold maxLen at g; omega,by simp,λi x E=>⟨b,0,O,s _ _ _ _ λj v hv=>?_⟩⟩
   have F:j<k:=by have:=(List.getElem?_eq_some_iff.1 hv).1; rw [m] at this; exact this
   have d:(xs.flatMap f)[i*k+j]? = some v:=by rw [o2 m E F]; exact hv
   rw [<-B,List.getElem?_take] at d
   split at d
   · refine vW z ?_
     simpa [f_] using d
   · cases d
def m_ (b:List ResultVar) (d:Option Tmp):Bool:=match d with
 | none=>true
 | some d=>b.all λr=>match r with | .tmp t=>!(Nat.beq d t) | .cell a _=>!(Nat.beq d a)
theorem KZ {r:ResultVar} {d:Nat} {v:Value} {a:Act} (h:(match r with | .tmp t=>!(Nat.beq d t) | .cell a _=>!(Nat.beq d a))=true):mo (a.put (some d) v).tmps r=mo a.tmps r:=by
 have key:∀t,(!(Nat.beq d t))=true->(a.put (some d) v).tmps.getD t undef=a.tmps.getD t undef:=λt b=>by
   have c:d≠t:=λe=>by subst e; simp at b
   simp only [Act.put,Array.getD_eq_getD_getElem?];rw [Array.getElem?_setIfInBounds_ne c]
 cases r with
 | tmp t=>simp only [mo,key t h]
 | cell x _=>simp only [mo,key x h]
theorem K0 {fn:Func} {c:List ResultVar} (b:fn.results=c.toArray) {d:Option Tmp} {v:Value} {a:Act} (h:m_ c d=true):results fn (a.put d v).tmps=results fn a.tmps:=by
 cases d with
 | none=>rfl
 | some d=>
   simp only [m_,List.all_eq_true] at h
   have e:∀l:List ResultVar,(∀r ∈ l,r ∈ c)->l.mapM (mo (a.put (some d) v).tmps)=l.mapM (mo a.tmps):=by
     intro l
     induction l with
     | nil=>intro _; rfl
     | cons x l g=>
       intro f;rw [List.mapM_cons,List.mapM_cons,KZ (h x (f x (by simp))),g λr b=>f r (by simp [b])]
   rw [wa,wa,b,Array.mapM_eq_mapM_toList,Array.mapM_eq_mapM_toList,e _ λr b=>by simpa using b]
theorem yS {P:Program} {fn:Func} {i:List ResultVar} {R:Ending->World->Prop} (c:fn.results=i.toArray) {d:Option Tmp} {v:Value} {a:Act} (h:m_ i d=true):∀(ds:List Deferred) (u:FrameMode) (w:World),Leaves P fn (a.put d v).tmps R ds u w->Leaves P fn a.tmps R ds u w
 | [],.returning,w,b=>by
   simp only [Leaves] at b ⊢;rw [K0 c h] at b;exact b
 | [],.panicking _,_,b=>b
 | [],.run,_,b=>b
 | x::ds,u,w,b=>by
   obtain ⟨j,k,cap,f,args,l,m,n⟩:=b;refine ⟨j,k,cap,f,args,l,m,n.mono λe o w' g=>?_⟩
   cases e with
   | returned v=>exact yS c h ds _ _ g
   | panicked p=>exact yS c h ds _ _ g
   | outgrown=>exact g
theorem q5 {P:Program} {fn:Func} (f:List ResultVar) {R:Ending->World->Prop} (g:fn.results=f.toArray) {d:Option Tmp} {v:Value} {a:Act} {c:List PanicEntry} {w:World} (h:m_ f d=true) (b:bodyPostD P fn R (.panic c) (a.put d v) w):bodyPostD P fn R (.panic c) a w:=by
 have e:(a.put d v).defers=a.defers:=by cases d<;>rfl
 have b:Leaves P fn (a.put d v).tmps R (a.put d v).defers (.panicking c) w:=b;rw [e] at b;exact yS g h _ _ _ b
section
variable {P:Program} {md:Region.Mode} {ops:Array Oper} {C:World->Prop} {Q:Exit->Act->World->Prop}
def si (ok:Option Tmp->Bool) (ops:Array Oper):Bool:=ops.toList.all λo=>ok o.dst
theorem C2 {ok:Option Tmp->Bool} (h:si ok ops=true) {i:Nat} {o:Oper} (a:ops[i]? = some o):ok o.dst=true:=by
 refine List.all_eq_true.1 h o ?_
 have:ops.toList[i]? = some o:=by simpa using a
 exact List.mem_of_getElem? this
theorem yT {ok:Option Tmp->Bool} (f:si ok ops=true) (g:Region.noSelect ops=true) (k:∀c a w d v,ok d=true->Q (.panic c) (a.put d v) w->Q (.panic c) a w):∀(ord:List (Nat×Bool)) (e:Array Bool) (a:Act) (w:World),
   k_ md ops ord e=true->la P ops C Q ord a w->mZ P md ops C Q ord.length e a w
 | [],e,a,w,b,h=>⟨h.1,by simpa [k_] using b,h.2⟩
 | (i,true)::r,e,a,w,b,h=>by
   simp only [k_,cond_true,Bool.and_eq_true] at b;obtain ⟨n,o,v,l,p,h⟩:=h
   exact yE l (Region.noSelect_spec g) (λc a w=>k c a w o.dst v (C2 f l)) r.length e a w (Region.free_spec l b.1.2) (by simpa using b.1.1) p n
     (yT f g k r _ _ _ b.2 h)
 | (i,false)::r,e,a,w,b,h=>by
   simp only [k_,cond_false,Bool.and_eq_true,beq_iff_eq] at b;refine ⟨h.1,λq=>(by rw [q] at b; cases b.1),λj m=>?_⟩;rw [b.1] at m;simp at m;subst m;exact wpOp_mono (λt w' s=>yT f g k r _ _ _ b.2 s) h.2
variable {n:Nat} {ds:List Deferred} {l:List (Nat×Value)} {W:World->Prop}
def outs:List Nat->List aS->List aS
 | [],L=>L
 | i::r,L=>outs r (dM i L)
theorem Wo {a w:World} {b:List Nat} {L:List aS} {Vs:List View} (i:Nat) (h:Ws a b L Vs w):Ws a b (dM i L) Vs w:=Ws.out i h
theorem Wt {a w:World} {b:List Nat} {L:List aS} {Vs:List View} (n:Nat) (h:Ws a b L Vs w):Ws a b (L.take n) Vs w:=Ws.o1 (L':=L.drop n) (by rw [List.take_append_drop]; exact h)
theorem Wd {a w:World} {b:List Nat} {L:List aS} {Vs:List View} (n:Nat) (h:Ws a b L Vs w):Ws a b (L.drop n) Vs w:=Ws.drop (L:=L.take n) (by rw [List.take_append_drop]; exact h)
theorem Wv {a w:World} {b:List Nat} {L:List aS} {Vs:List View} (n:Nat) (h:Ws a b L Vs w):Ws a b L (Vs.drop n) w:=Ws.cv h λ_ c=>List.mem_of_mem_drop c
theorem Ws.f {a w:World} {b:List Nat} {L:List aS} {Vs:List View} (i:Nat) {c:aS} (h:Ws a b L Vs w) (d:L[i]? = some c):Ws a b (c::dM i L) Vs w:=h.perm (k' i L d)
theorem Wp {a:World} {b:List Nat} {L:List aS} {Vs:List View} (i:Nat):∀w,Ws a b L Vs w->Ws a b (dM i L) Vs w:=λ_ h=>Wo i h
theorem cK {a:World} {b:List Nat} {L:List aS} {Vs:List View} (c:List Nat):∀w,Ws a b L Vs w->Ws a b (outs c L) Vs w:=λ_ h=>by
 induction c generalizing L with
 | nil=>exact h
 | cons i r d=>exact d (Wo i h)
theorem WC.tO {id:Nat} {os:List Oper} {e:World} {f:List Nat} {L:List aS} {Vs:List View} (ok:Option Tmp->Bool) (g:List Nat) (ord:List (Nat×Bool)) (i:P.follows .mixedOrders=true) (j:si ok os.toArray=true) (b:(Region.noSelect os.toArray&&(ord.length==os.toArray.size&&p4 os ord 0))=true)
   (k:∀c a w d v,ok d=true->Q (.panic c) (a.put d v) w->Q (.panic c) a w) (h:WD P os.toArray (Ws e f (outs g L) Vs) Q n ds l (Ws e f L Vs) ord):WC P (.region id os.toArray true) Q n ds l (Ws e f L Vs):=by
 intro a w m o;have b:=yI b;simp only [Bool.and_eq_true,beq_iff_eq] at b;have:=vU (md:=.any) _ _ _ _ (yT j b.1 k ord _ a w.drew b.2.2 (h a w.drew m o.drew));rw [b.2.1] at this;exact wp_region_any i this
theorem WD.skip {r:List (Nat×Bool)} {i d:Nat} {op:Op} {ty:TypeId} {pos:String} {af:Array Edge} {j:Nat} {b:Bool} {f:Oper} {c:Nat} (hi:ops[i]? = some ⟨some d,op,ty,pos,af,some (j,b)⟩) (m:Nat.blt d n=true)
   (o:ops[j]? = some f) (p:f.dst=some c) (q:Nat.blt c n=true) (s:lk l c=some (.bool (!b)))
   (t:∀w,W w->C w) (h:WD P ops C Q n ds ((d,undef)::l) W r):WD P ops C Q n ds l W ((i,true)::r):=by
 intro a w e g;have hv:a.tmps.getD c undef = .bool (!b):=e.aI c _ s
 have k:c<a.tmps.size:=by rw [e.size]; exact Nat.le_of_ble_eq_true q
 have u:a.tmps[c]? = some (.bool (!b)):=by
   rw [Array.getD_eq_getD_getElem?,Array.getElem?_eq_getElem k] at hv;rw [Array.getElem?_eq_getElem k]
   simpa using hv
 have v:yielded ops a.tmps j=some (!b):=by simp [yielded,o,p,u]
 exact ⟨t w g,_,undef,hi,.inr ⟨by simp [Region.wanted,v],O⟩,h _ _ (e.put m undef) g⟩
theorem WE.front {a:World} {b:List Nat} {L:List aS} {Vs:List View} {e:Exit} {c:aS} (i:Nat) (d:L[i]? = some c) (h:WE Q e n ds l (Ws a b (c::dM i L) Vs)):WE Q e n ds l (Ws a b L Vs):=
 WE.world (λ_ f=>f.perm (k' i L d)) h
theorem nW {c:World} {d:List Nat} {L:List aS} {Vs:List View} {f:FuncId} {args:Array Value} {u g:FrameMode} (a L2 h:List aS) (j:L=a++L2)
   (k:∀w,Ws w (a.flatMap aS.ids) a [] w->CallsD P f args u w λe b w'=>b=g/\(e = .returned (.tuple #[])/\Ws w (a.flatMap aS.ids) h [] w')) :
   ∀w,Ws c d L Vs w->CallsD P f args u w λe b w'=>e = .returned (.tuple #[])/\b=g/\Ws c d (h++L2) Vs w':=by
 intro w i;subst j;exact (k w (i.self.cv (by simp))).mono λe b w' ⟨l,m,n⟩=>⟨m,l,i.back n⟩
end
open Go.ChangeShapes Go.WideShapes Go.ChangeAt Go.RowKit Go.Joins Go.Deep
theorem C3 {α:Type} (p:Nat->α->Prop):∀n,(∀i,i<n->∃x,p i x)->∃l:List α,l.length=n/\∀(i:Nat) (x:α),l[i]? = some x->p i x
 | 0,_=>⟨[],rfl,by simp⟩
 | n+1,h=>by
   obtain ⟨l,c,d⟩:=C3 p n λi hi=>h i (by omega);obtain ⟨x,e⟩:=h n (by omega);refine ⟨l++[x],by simp [c],λi y a=>?_⟩
   rcases Nat.lt_trichotomy i n with b | b | b
   · rw [List.getElem?_append_left (by omega)] at a; exact d i y a
   · subst b
     rw [List.getElem?_append_right (by omega),c] at a;simp at a; subst a; exact e
   · rw [List.getElem?_eq_none (by simp; omega)] at a; cases a
theorem yU {w:World} {b o:Nat} {v:Value} (h:w.cell? ⟨b,o,none⟩=some v):vc (hv w) b o=some v:=by
 unfold vc hv;unfold World.cell? at h
 cases a:w.heap[b]? with
 | none=>simp [a] at h
 | some c=>cases c<;>simp [a,f_] at h ⊢<;>exact h
inductive Sh where
 | int
 | str
 | bool
deriving DecidableEq
def mq (P:Program):Nat->List Field->Bool
 | _,[]=>true
 | i,f::r=>Nat.beq f.offset i&&(Nat.beq (P.cellsOf f.type) 1&&mq P (i+1) r)
end Go.Bw
end
section
namespace Go.Bw
set_option linter.unnecessarySimpa false
open Go Go.RowKit
section
variable {P:Program} {l:List (Nat×Value)} {W:World->Prop} {d:Option Tmp} {ty:TypeId} {pos:String} {af:Array Edge} {g:Option (Nat×Bool)}
theorem C4 {t:TypeId} {x y:Operand} {a:Option Addr} {m c s:Nat} {k:IntKind} {h:Int} (n:Nat) (b:eO P t=some s) (e:bk l x=some (.slice a m c)) (f:∀p,a=some p->p.spot=none) (i:bk l y=some (.int k h)) (j:h=(n:Int)) (o:n<=c) :
   Yl P l W ⟨d,.slice t x none (some y) none,ty,pos,af,g⟩ (.slice a n c):=by
 subst j;exact Ko b e f i (by omega) (by omega)
theorem C5 {t:TypeId} {x y:Operand} {a:Option Addr} {m c s:Nat} {k:IntKind} {h:Int} (n:Nat) (b:eO P t=some s) (o:bk l x=some (.slice a m c)) (p:bk l y=some (.int k h)) (q:h=(n:Int)) (r:n<=m) (v:m<=c) :
   Yl P l W ⟨d,.slice t x (some y) none none,ty,pos,af,g⟩ (.slice (if c-n=0 then a else a.map (·.add (n*s))) (m-n) (c-n)):=by
 intro z w i _;subst q;unfold eO at b
 cases f:P.underlying t with
 | none=>simp [f] at b
 | some u=>
   cases u<;>simp [f] at b
   rename_i e;obtain ⟨A,hi,rfl⟩:=b;simp [execOp,i x _ o,i y _ p,Instr.sliceAt,Instr.slice,Instr.sliceBounds,Instr.sliceBound,asIntOf,run_underlying f,sizeOf,typeInfo,hi,r]
   by_cases j:c=n
   · subst j; simp
   · have:¬c-n=0:=by omega
     simp [j,this]
end
theorem Sl.drop {α:Type} {rd:View->Nat->Nat->α->Prop} {k:Nat} {f:View} {a:Option Addr} {c:Nat} {l:List α} (h:Sl rd k f a c l) (n:Nat) (r:n<=l.length):Sl rd k f (if c-n=0 then a else a.map (·.add (n*k))) (c-n) (l.drop n):=by
 have t:=h.cap;refine ⟨by simp; omega,by have:=h.max; omega,?_,λi x e=>?_⟩
 · intro p d u
   split at d
   · omega
   · cases a with
     | none=>cases d
     | some q=>
       have j:=h.spot q rfl (by omega);obtain ⟨b,o,s⟩:=q;obtain rfl:s=none:=j;simp [lO] at d;subst d; rfl
 · rw [List.getElem?_drop] at e
   have hi:=(List.getElem?_eq_some_iff.1 e).1;obtain ⟨b,o,m,g⟩:=h.bJ _ _ e;subst m;refine ⟨b,o+n*k,?_,?_⟩
   · rw [if_neg (by omega)]; simp [lO]
   · rw [Nat.add_mul] at g
     rw [Nat.add_assoc]; exact g
theorem Sl.take {α:Type} {rd:View->Nat->Nat->α->Prop} {k:Nat} {d:View} {a:Option Addr} {c:Nat} {l:List α} (h:Sl rd k d a c l) (n:Nat):Sl rd k d a c (l.take n):=
 ⟨by have:=h.cap; simp; omega,h.max,h.spot,λi x b=>h.bJ i x (by
   rw [List.getElem?_take] at b
   split at b
   · exact b
   · cases b)⟩
end Go.Bw
end
section
namespace Go.Bw
set_option linter.unnecessarySimpa false
open Go Go.RowKit
section
variable {P:Program} {md:Region.Mode} {ops:Array Oper} {S:List Nat} {C D:World->Prop} {Q:Exit->Act->World->Prop}
def kP (S:List Nat) (a:Array Bool):Prop:=∀s ∈ S,a.getD s true=false
def bM (P:Program) (md:Region.Mode) (ops:Array Oper) (S:List Nat) (C b:World->Prop) (Q:Exit->Act->World->Prop):Nat->Array Bool->Act->World->Prop
 | 0,listed,a,w=>((kP S listed->C w)/\b w)/\Region.ready md ops listed=[]/\Q .normal a w
 | fuel+1,listed,a,w=>((kP S listed->C w)/\b w)/\(Region.ready md ops listed=[]->Q .normal a w)/\
   ∀i ∈ Region.ready md ops listed,wpOp P ops Q i (bM P md ops S C b Q fuel (listed.setIfInBounds i true)) a w
theorem C6:∀(fuel:Nat) (b:Array Bool) (a:Act) (w:World),bM P md ops S C D Q fuel b a w->wpAny P md ops Q fuel b a w
 | 0,_,_,_,h=>h.2
 | fuel+1,b,a,w,h=>⟨h.2.1,λi hi=>wpOp_mono (λc w' d=>C6 fuel _ c w' d) (h.2.2 i hi)⟩
theorem bM.c {fuel:Nat} {b:Array Bool} {a:Act} {w:World} (h:bM P md ops S C D Q fuel b a w):(kP S b->C w)/\D w:=by cases fuel<;>exact h.1
theorem wc {i:Nat} (hi:i ∉ S) {c:Array Bool}:kP S (c.setIfInBounds i true)↔kP S c:=by
 constructor
 · intro h s a
   have b:i≠s:=λe=>by subst e; exact hi a
   have:=h s a
   rwa [getD_set_ne true b] at this
 · intro h s a
   have b:i≠s:=λe=>by subst e; exact hi a
   rw [getD_set_ne true b];exact h s a
def sj (md:Region.Mode) (ops:Array Oper) (a:Array Bool):Prop:=∀(j:Nat) (o:Oper),ops[j]? = some o->a.getD j true=true->∀e ∈ o.after,Region.binds md e=true->a.getD e.on true=true
def sk (md:Region.Mode) (ops:Array Oper) (i:Nat):Nat->Nat->Bool
 | 0,_=>false
 | f+1,s=>match ops[s]? with
   | some os=>os.after.any λe=>Region.binds md e&&(Nat.beq e.on i||sk md ops i f e.on)
   | none=>false
theorem C7 {a:Array Bool} (j:sj md ops a) {i:Nat}:∀(f s:Nat),sk md ops i f s=true->(∀o,ops[s]? = some o->∀e ∈ o.after,Region.binds md e=true->a.getD e.on true=true)->a.getD i true=true
 | 0,s,h,_=>by simp [sk] at h
 | f+1,s,h,k=>by
   simp only [sk] at h
   cases b:ops[s]? with
   | none=>simp [b] at h
   | some o=>
     simp only [b] at h;obtain ⟨e,l,c⟩:=Array.any_eq_true'.1 h;simp only [Bool.and_eq_true,Bool.or_eq_true] at c;have d:=k o b e l c.1
     rcases c.2 with g | g
     · have:=Nat.eq_of_beq_eq_true g
       rw [this] at d; exact d
     · exact C7 j f e.on g λm n p q r=>j e.on m n d p q r
theorem C8 {b:Array Bool} {j:Nat} (f:j ∈ Region.ready md ops b):∀o,ops[j]? = some o->∀e ∈ o.after,Region.binds md e=true->b.getD e.on true=true:=by
 intro o g e h i;obtain ⟨_,l,a,k⟩:=mem_ready.1 f;rw [g] at a
 injection a with a
 subst a;have d:=k e h i
 rcases Nat.lt_or_ge e.on b.size with c | c
 · simp [Array.getD_eq_getD_getElem?,c] at d ⊢
   exact d
 · simp [Array.getD_eq_getD_getElem?,Array.getElem?_eq_none c]
theorem sj.set {a:Array Bool} {j:Nat} (i:sj md ops a) (l:j ∈ Region.ready md ops a):sj md ops (a.setIfInBounds j true):=by
 have up:∀k,a.getD k true=true->(a.setIfInBounds j true).getD k true=true:=by
   intro k c
   by_cases b:j=k
   · subst b
     rcases Nat.lt_or_ge j a.size with d | d
     · simp [Array.getD_eq_getD_getElem?,d]
     · simp [Array.getD_eq_getD_getElem?,d]
   · rw [getD_set_ne true b]; exact c
 intro k o f c e g h
 by_cases b:j=k
 · subst b
   exact up _ (C8 l o f e g h)
 · rw [getD_set_ne true b] at c
   exact up _ (i k o f c e g h)
def Kept (md:Region.Mode) (ops:Array Oper) (S:List Nat) (C b a:World->Prop) (i:Nat):Prop:=
 (∀w,b w->a w)\/((∀w,C w->a w)/\∀s ∈ S,sk md ops i ops.size s=true)
theorem K1 {i:Nat} {p:Oper} {v:Value} {s:World->Prop} (hi:ops[i]? = some p) (G:∀(j:Nat) (o:Oper) cs b,ops[j]? = some o->o.op≠.select cs b)
   (N:∀c a w,Q (.panic c) (a.put p.dst v) w->Q (.panic c) a w) (O:i ∉ S) (g:Kept md ops S C D s i) :
   ∀(fuel:Nat) (d:Array Bool) (a:Act) (w:World),
     (∀j q,ops[j]? = some q->j≠i->d.getD j true=false->(∀e ∈ q.after,Region.binds md e=true->e.on≠i)->p.apart ops q=true)->
     i ∈ Region.ready md ops d->sj md ops d->YV P ops s p v a->((kP S d->C w)/\D w)->((∀w,D w->s w)\/kP S d)->
     bM P md ops S C D Q fuel (d.setIfInBounds i true) (a.put p.dst v) w->bM P md ops S C D Q (fuel+1) d a w:=by
 have H:∀(d:Array Bool) (w:World),((kP S d->C w)/\D w)->((∀w,D w->s w)\/kP S d)->s w:=by
   intro d w f r
   rcases r with r | r
   · exact r w f.2
   · rcases g with g | g
     · exact g w f.2
     · exact g.1 w (f.1 r)
 intro fuel
 induction fuel with
 | zero=>
   intro d a w _ m _ z u n x;refine ⟨u,λh=>(by rw [h] at m; cases m),λj t=>?_⟩
   by_cases l:j=i
   · subst l; exact z.wpOp hi (H _ _ u n) x
   · have:=ready_mono t l
     rw [x.2.1] at this;cases this
 | succ fuel R=>
   intro d a w I m J z u n x;refine ⟨u,λh=>(by rw [h] at m; cases m),λj t=>?_⟩
   by_cases l:j=i
   · subst l; exact z.wpOp hi (H _ _ u n) x
   · have f:=x.2.2 j (ready_mono t l)
     obtain ⟨K,q,A,T⟩:=mem_ready.1 t
     have U:∀e ∈ q.after,Region.binds md e=true->e.on≠i:=λe V W X=>by
       have f:=T e V W;have y:=(mem_ready.1 m).1;rw [X] at f
       rcases Nat.lt_or_ge i d.size with B | B
       · simp [B] at y f; rw [y] at f; cases f
       · simp [Array.getElem?_eq_none B] at f
     have Y:(∀w,D w->s w)\/kP S (d.setIfInBounds j true):=by
       rcases g with g | g
       · exact .inl g
       · rcases n with n | n
         · exact .inl n
         · refine .inr ((wc λZ=>?_).2 n)
           have aa:=C7 J _ j (g.2 j Z) (C8 t);have y:=(mem_ready.1 m).1;rw [aa] at y;cases y
     have r:=CL A (I j q A l K U) (λcs b=>G i p cs b hi) (λcs b=>G j q cs b A) N z f
     have ab:∀k ok,ops[k]? = some ok->k≠i->(d.setIfInBounds j true).getD k true=false->
         (∀e ∈ ok.after,Region.binds md e=true->e.on≠i)->p.apart ops ok=true:=λk ok ac ad L ae=>by
       refine I k ok ac ad ?_ ae
       by_cases M:j=k
       · subst M; exact K
       · rw [getD_set_ne true M] at L; exact L
     refine wpOp_mono (λaf w' E=>R (d.setIfInBounds j true) af w' ab (ready_mono m (Ne.symm l)) (J.set t) E.1 ?_ Y ?_) r
     · have F:=E.2.c
       rw [Array.setIfInBounds_comm _ _ (Ne.symm l)] at F;exact ⟨λag=>F.1 ((wc O).2 ag),F.2⟩
     · rw [Array.setIfInBounds_comm _ _ l]
       exact E.2
inductive jH where
 | nil
 | stop
 | q (m:Bool) (i:Nat) (r:jH)
 | e (i:Nat) (r alt:jH)
def jH.alts:jH->List Nat
 | .e i _ a=>i::a.alts
 | _=>[]
def behind (md:Region.Mode) (ops:Array Oper) (i:Nat) (S:List Nat):Bool:=S.all λs=>sk md ops i ops.size s
def we (i:Nat) (S:List Nat):Bool:=S.all λs=>!(Nat.beq s i)
theorem C9 {i:Nat} (h:we i S=true):i ∉ S:=λhi=>by
 have:=List.all_eq_true.1 h i hi;simp at this
def p5 (md:Region.Mode) (ops:Array Oper):List Nat->Array Bool->Bool
 | [],listed=>(Region.ready md ops listed).isEmpty
 | s::r,listed=>Region.ready md ops listed==[s]&&p5 md ops r (listed.setIfInBounds s true)
def iT (md:Region.Mode) (ops:Array Oper) (S:List Nat):Bool->jH->Nat->Array Bool->Bool
 | top,.nil,k,listed=>top&&(Nat.beq k S.length&&p5 md ops S listed)
 | top,.stop,_,_=>!top
 | top,.q m i r,k,listed=>match k with
   | 0=>false
   | k+1=>top&&((Region.ready md ops listed).contains i&&(Region.free md ops listed i&&(we i S&&((!m||behind md ops i S)&&iT md ops S true r k (listed.setIfInBounds i true)))))
 | top,.e i r alt,k,listed=>match k with
   | 0=>false
   | k+1=>(bif top then Region.ready md ops listed==i::alt.alts else true)&&(we i S&&(iT md ops S true r k (listed.setIfInBounds i true)&&iT md ops S false alt (k+1) listed))
def p6 (P:Program) (ops:Array Oper) (b:World->Prop) (Q:Exit->Act->World->Prop):List Nat->Act->World->Prop
 | [],a,w=>b w/\Q .normal a w
 | s::r,a,w=>b w/\wpOp P ops Q s (p6 P ops b Q r) a w
def nX (P:Program) (ops:Array Oper) (S:List Nat) (C b:World->Prop) (Q:Exit->Act->World->Prop):jH->Act->World->Prop
 | .nil,a,w=>C w/\p6 P ops b Q S a w
 | .stop,_,_=>True
 | .q m i r,a,w=>(C w/\b w)/\∃o v,ops[i]? = some o/\YV P ops (bif m then C else b) o v a/\nX P ops S C b Q r (a.put o.dst v) w
 | .e i r alt,a,w=>(C w/\b w)/\(wpOp P ops Q i (nX P ops S C b Q r) a w/\nX P ops S C b Q alt a w)
theorem K2:∀(r:List Nat) (b:Array Bool) (a:Act) (w:World),(r=S/\C w\/¬kP S b)->(∀s ∈ r,s ∈ S)->(∀s ∈ r,b.getD s true=false)->p5 md ops r b=true->p6 P ops D Q r a w->bM P md ops S C D Q r.length b a w
 | [],b,a,w,c,_,_,d,h=>⟨⟨λe=>(by rcases c with c | c; exact c.2; exact absurd e c),h.1⟩,by simpa [p5] using d,h.2⟩
 | s::r,b,a,w,c,l,n,d,h=>by
   simp only [p5,Bool.and_eq_true,beq_iff_eq] at d;refine ⟨⟨λe=>(by rcases c with c | c; exact c.2; exact absurd e c),h.1⟩,λi=>(by rw [i] at d; cases d.1),λj g=>?_⟩;rw [d.1] at g;simp at g;subst g
   have o:j<b.size:=by
     have:=n j (by simp)
     rcases Nat.lt_or_ge j b.size with f | f
     · exact f
     · simp [Array.getElem?_eq_none f] at this
   have p:¬kP S (b.setIfInBounds j true):=λe=>by
     have:=e j (l j (by simp));simp [Array.getD_eq_getD_getElem?,o] at this
   refine wpOp_mono (λm w' f=>C' r (b.setIfInBounds j true) m w' p (λs k=>l s (by simp [k])) d.2 f) h.2
where
 C':∀(r:List Nat) (b:Array Bool) (a:Act) (w:World),¬kP S b->(∀s ∈ r,s ∈ S)->p5 md ops r b=true->p6 P ops D Q r a w->bM P md ops S C D Q r.length b a w
 | [],b,a,w,c,_,d,h=>⟨⟨λe=>absurd e c,h.1⟩,by simpa [p5] using d,h.2⟩
 | s::r,b,a,w,c,l,d,h=>by
   simp only [p5,Bool.and_eq_true,beq_iff_eq] at d;refine ⟨⟨λe=>absurd e c,h.1⟩,λi=>(by rw [i] at d; cases d.1),λj g=>?_⟩;rw [d.1] at g;simp at g;subst g;refine wpOp_mono (λm w' f=>C' r (b.setIfInBounds j true) m w' (λe=>c λs k=>?_) (λs k=>l s (by simp [k])) d.2 f) h.2;have:=e s k
   rcases Nat.decEq j s with q | i
   · rwa [getD_set_ne true q] at this
   · subst i
     rcases Nat.lt_or_ge j b.size with f | f
     · simp [Array.getD_eq_getD_getElem?,f] at this
     · simp [Array.getD_eq_getD_getElem?] at this
theorem wg {ok:Option Tmp->Bool} (p:si ok ops=true) (l:Region.noSelect ops=true) (t:∀c a w d v,ok d=true->Q (.panic c) (a.put d v) w->Q (.panic c) a w):∀(o:jH) (k:Nat) (f:Array Bool) (a:Act) (w:World),kP S f->sj md ops f->
   (iT md ops S true o k f=true->nX P ops S C D Q o a w->bM P md ops S C D Q k f a w)/\
   ((∀j ∈ o.alts,j ∈ Region.ready md ops f)->iT md ops S false o k f=true->nX P ops S C D Q o a w->∀j ∈ o.alts,∃x,k=x+1/\wpOp P ops Q j (bM P md ops S C D Q x (f.setIfInBounds j true)) a w)
 | .nil,k,f,a,w,hu,_=>by
   refine ⟨λb h=>?_,λ_ b=>by simp [iT] at b⟩;simp only [iT,Bool.true_and,Bool.and_eq_true] at b;obtain rfl:=Nat.eq_of_beq_eq_true b.1;exact K2 S f a w (.inl ⟨O,h.1⟩) (λ_ h=>h) hu b.2 h.2
 | .stop,k,f,a,w,hu,_=>⟨λb=>by simp [iT] at b,λ_ _ _ j g=>by simp [jH.alts] at g⟩
 | .q m i r,k,f,a,w,hu,n=>by
   cases k with
   | zero=>exact ⟨λb=>by simp [iT] at b,λ_ b=>by simp [iT] at b⟩
   | succ k=>
     refine ⟨λb h=>?_,λ_ b=>by simp [iT] at b⟩;simp only [iT,Bool.true_and,Bool.and_eq_true] at b;obtain ⟨H,I,J,A,K⟩:=b;obtain ⟨B,o,v,y,L,h⟩:=h;have E:=C9 J
     have M:Kept md ops S C D (bif m then C else D) i:=by
       cases m with
       | false=>exact .inl λ_ h=>h
       | true=>
         refine .inr ⟨λ_ h=>h,λs l=>?_⟩;simp only [Bool.not_true,Bool.false_or] at A;exact List.all_eq_true.1 A s l
     have F:i ∈ Region.ready md ops f:=by simpa using H
     exact K1 y (Region.noSelect_spec l) (λc a w=>t c a w o.dst v (C2 p y)) E M k f a w (Region.free_spec y I) F n L ⟨λ_=>B.1,B.2⟩ (.inr hu)
       ((wg p l t r k _ _ _ ((wc E).2 hu) (n.set F)).1 K h)
 | .e i r alt,k,f,a,w,hu,n=>by
   cases k with
   | zero=>exact ⟨λb=>by simp [iT] at b,λ_ b=>by simp [iT] at b⟩
   | succ k=>
     have G:(∀j ∈ i::alt.alts,j ∈ Region.ready md ops f)->we i S=true->iT md ops S true r k (f.setIfInBounds i true)=true->iT md ops S false alt (k+1) f=true->nX P ops S C D Q (.e i r alt) a w->
         ∀j ∈ i::alt.alts,wpOp P ops Q j (bM P md ops S C D Q k (f.setIfInBounds j true)) a w:=by
       intro u N R T h j g
       rcases List.mem_cons.1 g with rfl | g
       · exact wpOp_mono (λU w' V=>(wg p l t r k _ U w' ((wc (C9 N)).2 hu) (n.set (u _ (by simp)))).1 R V) h.2.1
       · obtain ⟨x,z,W⟩:=(wg p l t alt (k+1) f a w hu n).2 (λj g=>u j (by simp [g])) T h.2.2 j g
         injection z with z
         subst z;exact W
     refine ⟨λb h=>?_,λu b h j g=>?_⟩
     · simp only [iT,cond_true,Bool.and_eq_true,beq_iff_eq] at b
       refine ⟨⟨λ_=>h.1.1,h.1.2⟩,λX=>(by rw [X] at b; cases b.1),λj g=>?_⟩;rw [b.1] at g;exact G (λj g=>by rw [b.1]; exact g) b.2.1 b.2.2.1 b.2.2.2 h j g
     · simp only [iT,cond_false,Bool.true_and,Bool.and_eq_true] at b
       exact ⟨k,O,G u b.1 b.2.1 b.2.2 h j g⟩
variable {n:Nat} {ds:List Deferred} {l:List (Nat×Value)} {W:World->Prop}
def WU (P:Program) (ops:Array Oper) (S:List Nat) (C b:World->Prop) (Q:Exit->Act->World->Prop) (n:Nat) (ds:List Deferred) (l:List (Nat×Value)) (W:World->Prop) (ord:jH):Prop:=
 ∀a w,Ag n ds l a->W w->nX P ops S C b Q ord a w
def WS (P:Program) (ops:Array Oper) (b:World->Prop) (Q:Exit->Act->World->Prop) (n:Nat) (ds:List Deferred) (l:List (Nat×Value)) (W:World->Prop) (S:List Nat):Prop:=
 ∀a w,Ag n ds l a->W w->p6 P ops b Q S a w
abbrev lR:World->Prop:=λ_=>True
def yV (k:Nat) (S:List Nat):Bool:=S.all λs=>Nat.blt s k
theorem K3 (h:yV ops.size S=true):kP S (Array.replicate ops.size false):=λs a=>by
 have:=List.all_eq_true.1 h s a;have b:=Nat.blt_eq.mp this;simp [Array.getD_eq_getD_getElem?,b]
theorem WC.K4 {id:Nat} {os:List Oper} {W' e f:World->Prop} (ok:Option Tmp->Bool) (S:List Nat) (ord:jH) (g:P.follows .mixedOrders=true) (i:∀w,W' w->W' w.drew)
   (b:(si ok os.toArray&&(Region.noSelect os.toArray&&(yV os.toArray.size S&&iT .any os.toArray S true ord os.toArray.size (Array.replicate os.toArray.size false))))=true)
   (k:∀c a w d v,ok d=true->Q (.panic c) (a.put d v) w->Q (.panic c) a w) (h:WU P os.toArray S e f Q n ds l W' ord):WC P (.region id os.toArray true) Q n ds l W':=by
 intro a w m p;simp only [Bool.and_eq_true] at b
 have:=C6 (md:=.any) _ _ _ _ ((wg b.1 b.2.1 k ord _ _ a w.drew (K3 b.2.2.1) (λj o q r=>by
   have s:j<os.length:=by simpa using (Array.getElem?_eq_some_iff.1 q).1
   simp [Array.getD_eq_getD_getElem?,Array.getElem?_replicate,s] at r)).1 b.2.2.2 (h a w.drew m (i w p)))
 exact wp_region_any g this
theorem CU {id:Nat} {os:List Oper} {b:World} {e:List Nat} {L:List aS} {Vs:List View} (ok:Option Tmp->Bool) (f:List Nat) (S:List Nat) (ord:jH) (g:P.follows .mixedOrders=true)
   (i:(si ok os.toArray&&(Region.noSelect os.toArray&&(yV os.toArray.size S&&iT .any os.toArray S true ord os.toArray.size (Array.replicate os.toArray.size false))))=true)
   (j:∀c a w d v,ok d=true->Q (.panic c) (a.put d v) w->Q (.panic c) a w) (h:WU P os.toArray S (Ws b e (outs f L) Vs) lR Q n ds l (Ws b e L Vs) ord):WC P (.region id os.toArray true) Q n ds l (Ws b e L Vs):=
 WC.K4 ok S ord g (λ_ h=>h.drew) i j h
theorem WV.q {m:Bool} {r:jH} {i d:Nat} {op:Op} {ty:TypeId} {pos:String} {af:Array Edge} {g:Option (Nat×Bool)} {v:Value} (hi:ops[i]? = some ⟨some d,op,ty,pos,af,g⟩) (e:dq ops l g) (f:Nat.blt d n=true)
   (j:∀w,W w->C w) (k:∀w,W w->D w) (p:Yl P l (bif m then C else D) ⟨some d,op,ty,pos,af,g⟩ v) (h:WU P ops S C D Q n ds ((d,v)::l) W r):WU P ops S C D Q n ds l W (.q m i r):=by
 intro a w b c;refine ⟨⟨j w c,k w c⟩,_,v,hi,.inl ⟨dq.wanted (o:=⟨some d,op,ty,pos,af,g⟩) e b,λw' s=>p a.eval w' (λx u t=>b.eval t) s⟩,h _ _ (b.put f v) c⟩
theorem Uq {m:Bool} {r:jH} {i d:Nat} {op:Op} {ty:TypeId} {pos:String} {af:Array Edge} {g:Option (Nat×Bool)} {v:Value} (hi:ops[i]? = some ⟨some d,op,ty,pos,af,g⟩) (a:dq ops l g) (b:Nat.blt d n=true)
   (c:∀w,W w->C w) (e:Yl P l (bif m then C else λ_=>True) ⟨some d,op,ty,pos,af,g⟩ v) (h:WU P ops S C lR Q n ds ((d,v)::l) W r):WU P ops S C lR Q n ds l W (.q m i r):=WV.q hi a b c (λ_ _=>trivial) e h
theorem U0 {m:Bool} {r:jH} {i d:Nat} {op:Op} {ty:TypeId} {pos:String} {af:Array Edge} {v:Value} (hi:ops[i]? = some ⟨some d,op,ty,pos,af,none⟩) (a:∀w,W w->C w) (b:Yl P l (bif m then C else λ_=>True) ⟨some d,op,ty,pos,af,none⟩ v) (h:WU P ops S C lR Q n ds ((d,v)::l) W r) (c:Nat.blt d n=true:=by rfl):WU P ops S C lR Q n ds l W (.q m i r):=Uq hi (.inl rfl) c a b h
theorem WU.skip {r:jH} {i d:Nat} {op:Op} {ty:TypeId} {pos:String} {af:Array Edge} {j:Nat} {b:Bool} {f:Oper} {c:Nat} (hi:ops[i]? = some ⟨some d,op,ty,pos,af,some (j,b)⟩) (m:Nat.blt d n=true)
   (o:ops[j]? = some f) (p:f.dst=some c) (s:Nat.blt c n=true) (t:lk l c=some (.bool (!b)))
   (u:∀w,W w->C w) (h:WU P ops S C lR Q n ds ((d,undef)::l) W r):WU P ops S C lR Q n ds l W (.q false i r):=by
 intro a w e g;have hv:a.tmps.getD c undef = .bool (!b):=e.aI c _ t
 have k:c<a.tmps.size:=by rw [e.size]; exact Nat.le_of_ble_eq_true s
 have v:a.tmps[c]? = some (.bool (!b)):=by
   rw [Array.getD_eq_getD_getElem?,Array.getElem?_eq_getElem k] at hv;rw [Array.getElem?_eq_getElem k]
   simpa using hv
 have x:yielded ops a.tmps j=some (!b):=by simp [yielded,o,p,v]
 exact ⟨⟨u w g,trivial⟩,_,undef,hi,.inr ⟨by simp [Region.wanted,x],O⟩,h _ _ (e.put m undef) g⟩
theorem C_ {i:Nat} {o:Oper} {d:Act->World->Prop} (hi:ops[i]? = some o) {a:Act} {w:World} (this:wpList P ops (Exit.then d Q) [o] a w):wpOp P ops Q i d a w:=by
 unfold wpList at this;unfold wpOp;simp only [hi]
 split
 · rename_i c
   rw [if_pos c] at this
   rcases this with this | ⟨f,a2,g,h⟩
   · left
     unfold Oper.wp at this ⊢;unfold Oper.upon at this ⊢
     split at this
     all_goals first
       | exact this
       | (refine this.mono λe w' b=>?_
          cases e with
          | returned v=>exact b
          | panicked l=>exact b
          | outgrown=>obtain ⟨a3,j,k⟩:=b; exact ⟨a3,j,k⟩)
       | exact this.mono λv w' b=>b
   · exact .inr ⟨f,a2,g,h⟩
 · rename_i c
   rw [if_neg c] at this;exact this
theorem WV.e {r c:jH} {i:Nat} {o:Oper} (hi:ops[i]? = some o) (f:∀w,W w->C w) (g:∀w,W w->D w) (h:WL P ops (Exit.then (nX P ops S C D Q r) Q) n ds l W [o]) (j:WU P ops S C D Q n ds l W c):WU P ops S C D Q n ds l W (.e i r c):=
 λa w d b=>⟨⟨f w b,g w b⟩,C_ hi (h a w d b),j a w d b⟩
theorem Ue {r a:jH} {i:Nat} {o:Oper} (hi:ops[i]? = some o) (b:∀w,W w->C w) (h:WL P ops (Exit.then (nX P ops S C lR Q r) Q) n ds l W [o]) (c:WU P ops S C lR Q n ds l W a):WU P ops S C lR Q n ds l W (.e i r a):=WV.e hi b (λ_ _=>trivial) h c
theorem WU.stop:WU P ops S C D Q n ds l W .stop:=λ_ _ _ _=>trivial
theorem Eu {r:jH} (h:WU P ops S C D Q n ds l W r):WE (Exit.then (nX P ops S C D Q r) Q) .normal n ds l W:=h
theorem WU.nil (c:∀w,W w->C w) (h:WS P ops D Q n ds l W S):WU P ops S C D Q n ds l W .nil:=λa w d b=>⟨c w b,h a w d b⟩
theorem yX.nil (c:∀w,W w->D w) (h:WE Q .normal n ds l W):WS P ops D Q n ds l W []:=λa w d b=>⟨c w b,h a w d b⟩
theorem WS.nil (h:WE Q .normal n ds l W):WS P ops lR Q n ds l W []:=yX.nil (λ_ _=>trivial) h
theorem yX.e {s:Nat} {r:List Nat} {o:Oper} (hi:ops[s]? = some o) (c:∀w,W w->D w) (h:WL P ops (Exit.then (p6 P ops D Q r) Q) n ds l W [o]):WS P ops D Q n ds l W (s::r):=
 λa w d b=>⟨c w b,C_ hi (h a w d b)⟩
theorem WS.e {s:Nat} {r:List Nat} {o:Oper} (hi:ops[s]? = some o) (h:WL P ops (Exit.then (p6 P ops lR Q r) Q) n ds l W [o]):WS P ops lR Q n ds l W (s::r):=yX.e hi (λ_ _=>trivial) h
theorem Es {r:List Nat} (h:WS P ops D Q n ds l W r):WE (Exit.then (p6 P ops D Q r) Q) .normal n ds l W:=h
end
end Go.Bw
end
section
namespace Go.Bw
set_option linter.unnecessarySimpa false
open Go Go.RowKit
theorem Da {α:Type} {f:α->List Value} {e:TypeId} {k c b o:Nat} {a:Option Addr} {xs:List α} {w:World} (h:(cf e k f a c xs).holds w) (j:a=some ⟨b,o,none⟩) :
   o=0/\∃i,w.heap[b]? = some (.cells i e (0,0))/\i.toList.take (xs.length*k)=xs.flatMap f/\i.size=c*k/\xs.length<=c:=by
 subst j;obtain ⟨t,l⟩:=(h:w.ownsRow 0 e k _ xs.length (xs.flatMap f))
 rcases l with ⟨d,_⟩ | ⟨g,cap,i,hv,_,m,n,u,p,q⟩
 · cases d
 · injection hv with d _ r
   injection d with d
   injection d with d s
   subst d r s;exact ⟨O,i,m,q,p,n⟩
section
variable {P:Program} {ops:Array Oper} {Q:Exit->Act->World->Prop} {n:Nat} {ds:List Deferred} {l:List (Nat×Value)} {w0:World} {F:List Nat} {L:List aS} {Vs:List View} {rest:List Oper}
 {ty:TypeId} {pos:String} {af:Array Edge} {g:Option (Nat×Bool)}
theorem Db {α:Type} {f:α->List Value} {e:TypeId} {k c:Nat} {a:Option Addr} {xs:List α} {w:World} (h:Ws w0 F L Vs w) (i:Nat) (j:L[i]? = some (cf e k f a c xs)) (o:0<xs.length):(∃b,a=some ⟨b,0,none⟩)/\xs.length<=c/\c<=maxLen:=by
 obtain ⟨p,l⟩:=(h.kn _ (ed j):w.ownsRow 0 e k _ xs.length (xs.flatMap f))
 rcases l with ⟨d,g⟩ | ⟨b,cap,q,hv,_,_,m,n,_⟩
 · injection d with _ r _; omega
 · injection hv with d _ g
   subst d g;exact ⟨⟨b,O⟩,m,n⟩
theorem WC.ek {α:Type} {f:α->List Value} {d:Code} {e:TypeId} {k c:Nat} {a:Option Addr} {xs:List α} (i:Nat) (j:L[i]? = some (cf e k f a c xs)) (m:0<xs.length)
   (h:∀b,a=some ⟨b,0,none⟩->xs.length<=c->c<=maxLen->WC P d Q n ds l (Ws w0 F L Vs)):WC P d Q n ds l (Ws w0 F L Vs):=by
 intro o w p g;obtain ⟨⟨b,q⟩,r,s⟩:=Db g i j m;exact h b q r s o w p g
theorem WL.ek {α:Type} {f:α->List Value} {e:TypeId} {k c:Nat} {a:Option Addr} {xs:List α} (i:Nat) (g:L[i]? = some (cf e k f a c xs)) (j:0<xs.length)
   (h:∀b,a=some ⟨b,0,none⟩->xs.length<=c->c<=maxLen->WL P ops Q n ds l (Ws w0 F L Vs) rest):WL P ops Q n ds l (Ws w0 F L Vs) rest:=by
 intro m w o d;obtain ⟨⟨b,p⟩,q,r⟩:=Db d i g j;exact h b p q r m w o d
theorem p7 {α:Type} {f:α->List Value} {t e:TypeId} {x:Operand} {b o p k c:Nat} {a:Option Addr} {xs:List α} {y:α} {v:Value} {d:Option Tmp} (i j q:Nat) (r:bk l x=some (.pointer (some ⟨b,p,none⟩))) (s:L[i]? = some (cf e k f a c xs)) (u:a=some ⟨b,o,none⟩)
   (z:p=o+j*k+q) (m:∀x,(f x).length=k) (A:xs[j]? = some y) (n:(f y)[q]? = some v) (B:eG P t=true):Yl P l (Ws w0 F L Vs) ⟨d,.load t x,ty,pos,af,g⟩ v:=yB B r λw C=>by
 obtain ⟨rfl,H,D,E,I,J⟩:=Da (C.kn _ (ed s)) u;refine cell_of_heap D ?_
 have G:q<k:=by have:=(List.getElem?_eq_some_iff.1 n).1; rw [m] at this; exact this
 have h:(xs.flatMap f)[j*k+q]? = some v:=by rw [o2 m A G]; exact n
 rw [<-E,List.getElem?_take] at h
 split at h
 · subst z; simpa [f_] using h
 · cases h
theorem WL.storeT {α:Type} {f:α->List Value} {t e:TypeId} {x A:Operand} {b o p k m c:Nat} {a:Option Addr} {xs:List α} {y:α} {v:Value} (i j q:Nat) (s:α) (N:dq ops l g) (R:bk l x=some (.pointer (some ⟨b,p,none⟩))) (S:bk l A=some v) (D:L[i]? = some (cf e k f a c xs)) (u:a=some ⟨b,o,none⟩)
   (T:p=o+j*k+q) (E:∀x,(f x).length=k) (G:xs[j]? = some y) (U:dk P t=some m) (z:(eB v).length=m) (V:(eB v).all (·.oneCell')=true) (au:q+m<=k) (W:f s=(f y).take q++eB v++(f y).drop (q+m))
   (h:WL P ops Q n ds l (Ws w0 F (L.set i (cf e k f a c (xs.set j s))) Vs) rest):WL P ops Q n ds l (Ws w0 F L Vs) (⟨none,.store t x A,ty,pos,af,g⟩::rest):=by
 refine WL.step N λX w B H av Y=>?_;have I:(cf e k f a c xs).holds w:=H.kn _ (ed D);obtain ⟨rfl,d,J,Z,C,aa⟩:=Da I u;have ab:j<xs.length:=(List.getElem?_eq_some_iff.1 G).1
 have aw:j*k+k<=xs.length*k:=by rw [<-Nat.succ_mul]; exact Nat.mul_le_mul_right _ ab
 have ax:xs.length*k<=c*k:=Nat.mul_le_mul_right _ aa
 have ac:o0 (.cells d e (0,0)) p m=true:=by
   simp only [o0,Nat.beq_refl,Bool.and_true,Bool.and_self];exact Nat.ble_eq_true_of_le (by simp [C]; omega)
 have ad:(execOp X.eval ⟨none,.store t x A,ty,pos,af,g⟩).run P w = .ok .skip { w with heap:=w.heap.setIfInBounds b (oZ (.cells d e (0,0)) p (eB v)) }:=by
   simp only [execOp,B.eval R,B.eval S,Instr.storeAt,Instr.sureAddr,Sem.run_bind,Sem.run_pure,Result.andThen_ok,CG U z V J ac]
 simp only [Oper.wp,ad,Oper.upon_skip];refine Y _ _ (h _ _ (B.tG undef) ?_);have ae:=lt_of_heap J
 have K:(xs.set j s).length=xs.length:=by simp
 have ag:=Kt E G (j:=q) (vs:=eB v) (y:=s) (by omega) (by rw [z]; exact W);refine Ws.pZ H i D ⟨O,O,O,by simp,λah ay ai=>?_⟩ ?_ (by subst u; simp [bY,Value.ownBlock]) (λaz M=>?_)
 · have:b≠ah:=λaj=>ai (by subst u; simp [bY,Value.ownBlock,aj])
   simp [Array.getElem?_setIfInBounds_ne this]
 · show World.ownsRow _ 0 e k (.slice a (xs.set j s).length c) (xs.set j s).length _
   rw [K];obtain ⟨aA,ak⟩:=(I:w.ownsRow 0 e k _ xs.length (xs.flatMap f));refine ⟨by rw [p3 E,K],.inr ?_⟩
   rcases ak with ⟨al,_⟩ | ⟨g,cap,aB,hv,aC,aD,am,an,aE,aF⟩
   · subst u; cases al
   · subst u
     injection hv with r _ ao
     injection r with r
     injection r with r
     subst r ao;refine ⟨b,c,(d.toList.take p++eB v++d.toList.drop (p+(eB v).length)).toArray,O,Nat.zero_le _,?_,am,an,?_,?_⟩
     · show (w.heap.setIfInBounds b _)[b]? = _
       simp [ae,oZ]
     · simp [C]; omega
     · rw [<-ag,<-Z]
       subst T;simp only [Nat.zero_add]
       have ap:d.toList.length=c*k:=by simp [C]
       have aq:((d.toList.take (xs.length*k)).take (j*k+q))=d.toList.take (j*k+q):=by rw [List.take_take]; congr 1; omega
       have ar:(d.toList.take (j*k+q)).length=j*k+q:=by rw [List.length_take,ap]; omega
       have r:(d.toList.take (j*k+q)++eB v).length=j*k+q+m:=by rw [List.length_append,ar,z]
       rw [aq,z]
       have aG:xs.length*k=(j*k+q+m)+(xs.length*k-(j*k+q+m)):=by omega
       rw [List.take_append,r,List.take_of_length_le (by rw [r]; omega),List.drop_take]
 · refine .inl ?_
   simp only [bY] at M ⊢;subst u
   simpa [Value.ownBlock] using M
theorem WL.perm {L':List aS} (a:L.Perm L') (h:WL P ops Q n ds l (Ws w0 F L' Vs) rest):WL P ops Q n ds l (Ws w0 F L Vs) rest:=LW (λ_ h=>h.perm a) h
end
end Go.Bw
end
section
namespace Go.Bw
set_option linter.unnecessarySimpa false
open Go Go.RowKit
section
variable {P:Program} {ops:Array Oper} {Q:Exit->Act->World->Prop} {n:Nat} {ds:List Deferred} {l:List (Nat×Value)} {w0 w:World} {F:List Nat} {L:List aS} {Vs:List View} {rest:List Oper} {A:aS} {As:List aS}
theorem Ws.bR (h:Ws w0 F L Vs w) (i:Nat) (a:L[i]? = some A):Ws w0 F (A::dM i L) Vs w:=h.perm (k' i L a)
theorem WL.K6 {t i e:TypeId} {f:Value} {kn k:IntKind} {p d:Nat} {x y:Operand} {ty:TypeId} {pos:String} {af:Array Edge} {g:Option (Nat×Bool)} (m:Nat) (s:dq ops l g) (u:Nat.blt d n=true) (j:aE P t e f 1 p) (v:P.underlying i=some (.int kn))
   (z:bk l x=some (.slice none 0 0)) (A:bk l y=some (.int k (m:Int))) (B:0<m) (q:m<=maxLen) (C:m*p<=281474976710656)
   (h:∀b c r,m<=c->c<=maxLen->r.size=c->WL P ops Q n ds ((d,.slice (some ⟨b,0,none⟩) m c)::l) (Ws w0 F (aq b (.cells r e (0,0))::L) Vs) rest) :
   WL P ops Q n ds l (Ws w0 F L Vs) (⟨some d,.call ⟨.builtin .append,#[x,y],#[t,i]⟩,ty,pos,af,g⟩::rest):=by
 refine WL.step s λa w o D O E=>?_;obtain ⟨G,hi,H,R,I⟩:=j.info;have J:=Lib.run_append_nil_zeros (P:=P) w t i ty e G f k kn j.under v hi H m B (by omega) (by unfold maxLen at q; omega) (by rw [I]; exact C)
 have K:(execOp a.eval ⟨some d,.call ⟨.builtin .append,#[x,y],#[t,i]⟩,ty,pos,af,g⟩).run P w = .ok (.value (.slice (some ⟨w.heap.size,0,none⟩) m (grownCap w m 0 e))) (w.drew.alloc (.cells (Builtin.zeroCells f.cells m++Builtin.zeroCells f.cells (grownCap w m 0 e-m)) e)):=by
   simp only [execOp,resolve,List.map_toArray,List.map_cons,List.map_nil,o.eval z,o.eval A,Sem.run_bind,Sem.run_pure,Result.andThen_ok,invoke,builtin,J]
 simp only [Oper.wp,K,Oper.upon_value];have M:=grownCap_ge w m 0 e;refine E _ _ (h w.heap.size _ (Builtin.zeroCells f.cells m++Builtin.zeroCells f.cells (grownCap w m 0 e-m)) M (grownCap_le_maxLen w m 0 e q) ?_ _ _ (o.put u _) ?_)
 · have N:f.cells.size=1:=j.zs
   simp [Builtin.zeroCells,N]; omega
 · exact D.drew.alloc _
end
section
variable {P:Program} {l:List (Nat×Value)} {W:World->Prop} {d:Option Tmp} {ty:TypeId} {pos:String} {af:Array Edge} {g:Option (Nat×Bool)}
theorem Dc {t:TypeId} {x:Operand} {a:Option Addr} {n c s:Nat} (b:eO P t=some s) (f:bk l x=some (.slice a n c)):Yl P l W ⟨d,.call ⟨.builtin .cap,#[x],#[t]⟩,ty,pos,af,g⟩ (.int .i64 (c:Int)):=by
 intro j w h _;unfold eO at b
 cases e:P.underlying t with
 | none=>simp [e] at b
 | some i=>
   cases i<;>simp [e] at b
   simp [execOp,resolve,invoke,builtin,h x _ f,Builtin.cap_,run_underlying e,goInt]
end
end Go.Bw
end
section
namespace Go.Bw
set_option linter.unnecessarySimpa false
open Go Go.RowKit
section
variable {P:Program} {ops:Array Oper} {Q:Exit->Act->World->Prop} {n:Nat} {ds:List Deferred} {l:List (Nat×Value)} {w0 w:World} {F:List Nat} {L:List aS} {Vs:List View} {rest:List Oper}
 {ty:TypeId} {pos:String} {af:Array Edge} {g:Option (Nat×Bool)} {d:Nat}
theorem WL.tQ {α:Type} {f:α->List Value} {rd:View->Nat->Nat->α->Prop} {t e:TypeId} {T:Value} {size J:Nat} {s y:Operand} {a a2:Option Addr} {c c2:Nat} {xs ys:List α} (i:Nat) (j:World->View) (K:dq ops l g) (M:Nat.blt d n=true) (q:aE P t e T size J)
   (N:bk l s=some (.slice a xs.length c)) (O:bk l y=some (.slice a2 ys.length c2)) (z:L[i]? = some (cf e size f a c xs)) (R:∀w,Ws w0 F L Vs w->Le (j w) w/\Sl rd size (j w) a2 c2 ys) (U:∀j b o x,rd j b o x->bI j b o (f x))
   (S:∀x,(f x).length=size) (V:∀x,(f x).all (·.oneCell')=true) (au:xs.length+ys.length<=9223372036854775807) (W:(xs.length+ys.length)*J<=140737488355328)
   (h:∀C D,WL P ops Q n ds ((d,.slice C (xs++ys).length D)::l) (Ws w0 F (L.set i (cf e size f C D (xs++ys))) Vs) rest) :
   WL P ops Q n ds l (Ws w0 F L Vs) (⟨some d,.call ⟨.builtin .append,#[s,y],#[t,t]⟩,ty,pos,af,g⟩::rest):=by
 cases a2 with
 | none=>
   refine WL.step K λX w H A av Y=>?_;obtain ⟨Z,hi,aw,ax,ay⟩:=q.info;obtain ⟨_,E⟩:=R w A
   have aa:ys=[]:=by
     cases ys with
     | nil=>rfl
     | cons x r=>obtain ⟨b,o,B,_⟩:=E.bJ 0 x rfl; cases B
   subst aa;have ab:w.ownsRow 0 e size (.slice a xs.length c) xs.length (xs.flatMap f):=A.kn _ (ed z)
   have ac:xs.length<=c:=by
     rcases ab.2 with ⟨ad,_⟩ | ⟨b,cap,az,hv,_,_,aA,_⟩
     · injection ad with _ aB ae; omega
     · injection hv with _ _ ae; omega
   have ag:=run_append_nothing (P:=P) w t t ty e Z q.under hi a xs.length c ac (.slice none 0 c2) ⟨.inl ⟨e,q.under⟩,by simp [Builtin.lenOf],run_firstCells_none w _ 0 0 c2,run_firstCells_none w.drew _ 0 0 c2,by simp,by simp⟩
   have ah:(execOp X.eval ⟨some d,.call ⟨.builtin .append,#[s,y],#[t,t]⟩,ty,pos,af,g⟩).run P w = .ok (.value (.slice a xs.length c)) w:=by
     simp only [execOp,resolve,List.map_toArray,List.map_cons,List.map_nil,H.eval N,H.eval O,Sem.run_bind,Sem.run_pure,Result.andThen_ok,invoke,builtin,List.length_nil,ag]
   simp only [Oper.wp,ah,Oper.upon_value];have ai:i<L.length:=(List.getElem?_eq_some_iff.1 z).1
   have aj:L.set i (cf e size f a c xs)=L:=by
     rw [<-(List.getElem?_eq_some_iff.1 z).2]; exact List.set_getElem_self ai
   have I:=h a c;simp only [List.append_nil] at I;rw [aj] at I;exact Y _ _ (I _ _ (H.put M _) A)
 | some p=>
   have ak:(xs.flatMap f)++ys.flatMap f=(xs++ys).flatMap f:=by simp
   have al:xs.length+ys.length=(xs++ys).length:=by simp
   refine WL.append i K M q N O z (news:=ys.flatMap f) (k:=ys.length) (p3 S ys) (λw A k u G=>?_) (λu G=>?_) (by unfold maxLen; omega) W λam _=>?_
   · obtain ⟨an,E⟩:=R w A
     have ao:=(List.getElem?_eq_some_iff.1 G).1
     have ap:0<ys.length:=by
       cases ys with
       | nil=>simp at ao
       | cons x r=>simp
     obtain ⟨b,o,B,_⟩:=E.bJ 0 _ (List.getElem?_eq_getElem ap)
     injection B with B
     subst B;rw [lO];have aq:=q.pos;exact an.cell (E.flat S aq (U _) k u G)
   · obtain ⟨x,_,ar⟩:=List.mem_flatMap.1 G
     exact List.all_eq_true.1 (V x) u ar
   · rw [ak,al]
     have hi:i<L.length:=(List.getElem?_eq_some_iff.1 z).1;refine WL.yM i (m:=(xs++ys).length) (xs:=(xs++ys).flatMap f) (e:=e) (size:=size) (v:=am) (by simp [hi]) λC D hv=>?_;subst hv;exact h C D
theorem WL.Dd {ι:Type} {f:FuncId} {args:Array Operand} {ts:Array TypeId} {vs:List Value} (m:dq ops l g) (o:Nat.blt d n=true) (p:Enters P f) (q:hU l args.toList=some vs)
   (v:ι->Value) (c:ι->List aS) (R:ι->Prop)
   (r:∀w,Ws w0 F L Vs w->Calls P f vs.toArray w λe w'=>∃i,e = .returned (v i)/\R i/\Ws w [] (c i) [] w')
   (s:∀i,R i->WL P ops Q n ds ((d,v i)::l) (Ws w0 F (c i++L) Vs) rest) :
   WL P ops Q n ds l (Ws w0 F L Vs) (⟨some d,.call ⟨.value (.func f),args,ts⟩,ty,pos,af,g⟩::rest):=by
 refine WL.call m o p q v (λi w'=>R i/\Ws w0 F (c i++L) Vs w') (λw b=>(r w b).mono λe w' ⟨i,t,u,h⟩=>⟨i,t,u,?_⟩) λi=>?_
 · exact Ws.pY (L:=[]) (L':=c i) (L2:=L) (by simpa using b) (by simpa using h.fr) h.kn h.nd (λx y k z=>by
     rcases h.own x y k z with j | j
     · simp at j
     · exact .inr j)
 · intro a w A b
   exact s i b.1 a w A b.2
end
end Go.Bw
end
section
namespace Go.Bw
set_option linter.unnecessarySimpa false
open Go Go.RowKit
section
variable {P:Program} {ops:Array Oper} {Q:Exit->Act->World->Prop} {n:Nat} {ds:List Deferred} {l:List (Nat×Value)} {w0:World} {F:List Nat} {L:List aS} {Vs:List View} {rest:List Oper} {c:Code}
 {ty:TypeId} {pos:String} {af:Array Edge} {g:Option (Nat×Bool)}
theorem Ws.nY {α:Type} {f:α->List Value} {k b c:Nat} {e:TypeId} {xs:List α} {w:World} (h:Ws w0 F L Vs w) (i:Nat) (j:L[i]? = some (aq b (.cells (xs.flatMap f).toArray e (0,0)))) (d:∀x,(f x).length=k) (a:xs.length=c) (l:c<=maxLen):Ws w0 F (L.set i (cf e k f (some ⟨b,0,none⟩) c xs)) Vs w:=by
 have g:=h.CH i j (m:=c) (cap:=c) (size:=k) (Nat.le_refl _) l (by simp [p3 d,a])
 have n:bY e k (.slice (some ⟨b,0,none⟩) c c) c ((xs.flatMap f).toArray.toList.take (c*k))=cf e k f (some ⟨b,0,none⟩) c xs:=by
   show _=bY e k (.slice (some ⟨b,0,none⟩) xs.length c) xs.length (xs.flatMap f)
   rw [a,List.take_of_length_le (by rw [List.toList_toArray,p3 d,a]; exact Nat.le_refl _)]
 rw [n] at g;exact g
theorem WC.wh {ι:Type} {x y:Code} {W:World->Prop} (b:ι->List (Nat×Value)) (c:ι->World->Prop) (R:ι->Prop) (f:WC P x (Exit.then (λa w=>∃i,R i/\Ag n ds (b i) a/\c i w) Q) n ds l W) (g:∀i,R i->WC P y Q n ds (b i) (c i)):WC P (.seq x y) Q n ds l W:=by
 intro a w h j;refine wp_seq (wp_mono (f a w h j) λe k w' d=>?_)
 cases e with
 | normal=>obtain ⟨i,m,o,p⟩:=d; exact g i m k w' o p
 | _=>exact d
theorem Em {ι:Type} {Q:Exit->Act->World->Prop} {W:World->Prop} {b:ι->List (Nat×Value)} {c:ι->World->Prop} {R:ι->Prop} (i:ι) (d:R i) (e:∀p ∈ b i,lk l p.1=some p.2) (f:∀w,W w->c i w) :
   WE (Exit.then (λa w=>∃i,R i/\Ag n ds (b i) a/\c i w) Q) .normal n ds l W:=λa w g h=>⟨i,d,g.sub e,f w h⟩
theorem yY {a:aS} (i:Nat) (b:L[i]? = some a):L.set i a=L:=by
 rw [<-(List.getElem?_eq_some_iff.1 b).2]; exact List.set_getElem_self (List.getElem?_eq_some_iff.1 b).1
theorem WL.tR {a b:aS} (i:Nat) (c:L[i]? = some a) (d:a=b) (h:WL P ops Q n ds l (Ws w0 F (L.set i b) Vs) rest):WL P ops Q n ds l (Ws w0 F L Vs) rest:=by
 subst d; rwa [yY i c] at h
theorem WC.tR {a b:aS} (i:Nat) (d:L[i]? = some a) (e:a=b) (h:WC P c Q n ds l (Ws w0 F (L.set i b) Vs)):WC P c Q n ds l (Ws w0 F L Vs):=by
 subst e; rwa [yY i d] at h
theorem Ws.tR {w:World} {a b:aS} (h:Ws w0 F L Vs w) (i:Nat) (c:L[i]? = some a) (d:a=b):Ws w0 F (L.set i b) Vs w:=by
 subst d; rwa [yY i c]
end
section
variable {P:Program} {l:List (Nat×Value)} {W:World->Prop} {d:Option Tmp} {ty:TypeId} {pos:String} {af:Array Edge} {g:Option (Nat×Bool)}
def dh (v:Value) (b:Bool):Prop:=(b=true->v = .nilIface)/\(b=false->∃t x,v = .iface t x)
theorem K7 {t u:TypeId} {x:Operand} {v:Value} (b:Bool) (c:P.underlying t=some (.interface (P.methodsAt t))) (e:bk l x=some v) (f:dh v b):Yl P l W ⟨d,.binOp .eql t x (.const .nilIface) u,ty,pos,af,g⟩ (.bool b):=by
 intro j w a _;have i:j (.const .nilIface) = .nilIface:=a _ _ rfl
 cases b with
 | true=>
   obtain rfl:=f.1 rfl;simp only [execOp,a x _ e,i,Sem.run_bind];simp [eqGuard_nil_constR,run_eql_nil_nil (h:=c)]
 | false=>
   obtain ⟨s,y,rfl⟩:=f.2 rfl
   have k:(eqGuard .eql t x (.const .nilIface) (.iface s y) .nilIface)=pure ():=by cases x<;>rfl
   simp only [execOp,a x _ e,i,Sem.run_bind,k];simp [run_eql_held_nil (h:=c)]
end
theorem WL.wk {P:Program} {ops:Array Oper} {Q:Exit->Act->World->Prop} {n:Nat} {ds:List Deferred} {l:List (Nat×Value)} {W W':World->Prop} {rest:List Oper} (b:∀w,W w->W' w) (h:WL P ops Q n ds l W' rest):WL P ops Q n ds l W rest:=λa w c d=>h a w c (b w d)
structure y0 (P:Program) (gp gs gr:Nat) (H:View):Prop where
 pow:∃t f,H gp=some (.cells (Lib.pow10Tab.map λz=>Value.int .u64 z).toArray t f)
 K':∃ev,vc H gs 0=some ev/\(ev = .nilIface\/∃te pe,ev = .iface te pe)
 K_:∃ev,vc H gr 0=some ev/\(ev = .nilIface\/∃te pe,ev = .iface te pe)
theorem y0.ep {P:Program} {a c d:Nat} {b:View} (h:y0 P a c d b) {w:World} (e:Le b w) {nm:String} (g:P.globalNamed nm=some a):Lib.TabIs P w nm .u64 Lib.pow10Tab:=by
 obtain ⟨t,f,i⟩:=h.pow;unfold Lib.TabIs World.var?;rw [g];simp [e _ _ i]
theorem zY {P:Program} {W:World} {nm:String} {g:Nat} (a:Lib.TabIs P W nm .u64 Lib.pow10Tab) (c:P.globalNamed nm=some g):∃t f,hv W g=some (.cells (Lib.pow10Tab.map λd=>Value.int .u64 d).toArray t f):=by
 unfold Lib.TabIs World.var? at a;rw [c] at a;simp only [Option.bind_some] at a
 cases b:W.heap[g]? with
 | none=>simp [b] at a
 | some o=>
   cases o with
   | cells cs t f=>
     simp only [b,Option.some.injEq] at a;subst a;exact ⟨t,f,b⟩
   | _=>simp [b] at a
theorem BG (w:World) (k:Nat) (os:Array Obj):Ext w (Go.Sort.grow (w.drewN k) os):=by
 refine ⟨O,O,O,by simp [Go.Sort.grow,World.drewN],λb a _=>?_⟩;simp [Go.Sort.grow,World.drewN,Array.getElem?_append,a]
structure nb {κ:Type} [BEq κ] [LawfulBEq κ] (kd:TypeDesc) (kv:κ->Value):Prop where
 same:∀a b,Instr.sameNow kd (kv a) (kv b)=some (a==b)
 isKey:∀a,MapKept.IsKey kd (kv a)
theorem iU:nb (.int .i64) (λn:Int=>Value.int .i64 n):=⟨λa b=>by simp [Instr.sameNow],λa=>by simp [MapKept.IsKey]⟩
theorem gj:nb .string st:=⟨λa b=>by simp only [st,Instr.sameNow,yK],λa=>by simp [MapKept.IsKey,st]⟩
section
variable {κ:Type} {kv:κ->Value}
abbrev c8 (κ:Type):=κ×Value×Nat
def lg (a:κ->Value) (e:c8 κ):MapEntry:={ key:=a e.1,val:=e.2.1,born:=e.2.2 }
def b4 (a:κ->Value) (m:List (c8 κ)) (c:Nat):Obj:=.map (m.map (lg a)).toArray c
theorem Lc (m:List (c8 κ)) (j:Nat) (k:κ) (v:Value):(m.map (lg kv)).modify j (λe=>{ e with key:=kv k,val:=v })=(m.modify j λe=>(k,v,e.2.2)).map (lg kv):=by
 apply List.ext_getElem?;intro i;simp only [List.getElem?_modify,List.getElem?_map]
 cases m[i]? with
 | none=>simp
 | some e=>by_cases h:j=i<;>simp [h,lg]
variable {P:Program} {ops:Array Oper} {Q:Exit->Act->World->Prop} {n:Nat} {ds:List Deferred} {l:List (Nat×Value)} {w0:World} {F:List Nat} {L:List aS} {Vs:List View} {rest:List Oper} {d:Nat} {ty:TypeId} {pos:String} {af:Array Edge} {g:Option (Nat×Bool)}
theorem WL.lh {t:TypeId} (a:κ->Value) (c:dq ops l g) (e:Nat.blt d n=true)
   (h:∀b,WL P ops Q n ds ((d,.map (some b))::l) (Ws w0 F (aq b (b4 a [] 0)::L) Vs) rest) :
   WL P ops Q n ds l (Ws w0 F L Vs) (⟨some d,.makeMap t none,ty,pos,af,g⟩::rest):=
 WL.new (mk:=λb=>.map (some b)) (o:=b4 a [] 0) c e (λf w _ _=>by
   simp only [execOp]
   simp [Instr.makeMap,b4]) h
end
section
variable {κ:Type} [BEq κ] [LawfulBEq κ] {kd:TypeDesc} {kv:κ->Value}
def cw (k:κ):List (c8 κ)->Nat->Option (Nat×Value)
 | [],_=>none
 | e::r,i=>if (k==e.1)=true then some (i,e.2.1) else cw k r (i+1)
def dZ (k:κ) (v:Value) (m:List (c8 κ)) (c:Nat):List (c8 κ):=match cw k m 0 with
 | some (i,_)=>m.modify i λe=>(k,v,e.2.2)
 | none=>m++[(k,v,c)]
def gA (k:κ) (m:List (c8 κ)) (c:Nat):Nat:=match cw k m 0 with | some _=>c | none=>c+1
def eD (k:κ) (m:List (c8 κ)) (a:Value):Value:=match cw k m 0 with | some (_,v)=>v | none=>a
def lS (k:κ) (m:List (c8 κ)):Bool:=(cw k m 0).isSome
theorem y3 (a:nb kd kv) (k:κ):∀(m:List (c8 κ)) (i:Nat),Instr.findNow kd (kv k) (m.map (lg kv)) i=some (cw k m i)
 | [],_=>rfl
 | e::r,i=>by
   simp only [List.map_cons,Instr.findNow,lg,a.same,cw];cases h:(k==e.1)
   · simp only [Bool.false_eq_true,if_false]
     exact y3 a k r (i+1)
   · simp
theorem nG (k:κ) (j:Nat) (b:Value):∀(m:List (c8 κ)) (a:Nat),cw k m a=some (j,b)->a<=j/\(m[j-a]?).map (·.1)=some k
 | [],a,h=>by simp [cw] at h
 | e::r,a,h=>by
   simp only [cw] at h
   split at h
   · rename_i c
     injection h with h; injection h with d f
     subst d;simp at c;simp [c]
   · obtain ⟨d,f⟩:=nG k j b r (a+1) h
     refine ⟨by omega,?_⟩
     have:j-a=(j-(a+1))+1:=by omega
     rw [this]; simpa using f
variable {P:Program} {ops:Array Oper} {Q:Exit->Act->World->Prop} {n:Nat} {ds:List Deferred} {l:List (Nat×Value)} {w0:World} {F:List Nat} {L:List aS} {Vs:List View} {rest:List Oper} {d:Nat} {ty:TypeId} {pos:String} {af:Array Edge} {g:Option (Nat×Bool)}
theorem wi {w:World} {t a e:TypeId} {b c:Nat} {m:List (c8 κ)} {k:κ} {d:Value} (g:Bool) (h:nb kd kv) (l:P.underlying t=some (.map a e)) (j:P.underlying a=some kd) (n:zeroOf P e=some d) (f:w.heap[b]? = some (b4 kv m c)) :
   (Instr.lookup t (.map (some b)) (kv k) g).run P w = .ok (if g=true then .tuple #[eD k m d,.bool (lS k m)] else eD k m d) w:=by
 have o:=y3 h k m 0;have f:w.heap[b]? = some (.map (m.map (lg kv)).toArray c):=f;have p:(Instr.checkKey (m.map (lg kv)).toArray.isEmpty 10000 a (kv k)).run P w = .ok () w:=MapKept.run_checkKey (k:=kv k) j (h.isKey k) _ 9999;simp only [Instr.lookup,Sem.run_bind,run_underlying l,Result.andThen_ok,MapKept.run_getObj_map f,Sem.run_pure,p];rw [MapKept.run_findKey j (by simpa using o)];unfold eD lS
 cases q:cw k m 0 with
 | none=>simp [Result.andThen_ok,q0 n]
 | some r=>obtain ⟨i,v⟩:=r; simp [Result.andThen_ok]
theorem mr {h:Option Tmp} {t a e:TypeId} {x y:Operand} {b c:Nat} {m:List (c8 κ)} {k:κ} {d:Value} (i:Nat) (j:nb kd kv) (n:P.underlying t=some (.map a e)) (o:P.underlying a=some kd) (p:zeroOf P e=some d) (q:bk l x=some (.map (some b))) (r:bk l y=some (kv k)) (s:L[i]? = some (aq b (b4 kv m c))) :
   Yl P l (Ws w0 F L Vs) ⟨h,.lookup t x y false,ty,pos,af,g⟩ (eD k m d):=by
 intro v w f u;simp [execOp,f x _ q,f y _ r,wi (P:=P) (k:=k) false j n o p (u.kn _ (ed s):w.heap[b]? = some (b4 kv m c))]
theorem wj {h:Option Tmp} {t a e:TypeId} {x y:Operand} {b c:Nat} {m:List (c8 κ)} {k:κ} {d:Value} (i:Nat) (j:nb kd kv) (n:P.underlying t=some (.map a e)) (o:P.underlying a=some kd) (p:zeroOf P e=some d) (q:bk l x=some (.map (some b))) (r:bk l y=some (kv k)) (s:L[i]? = some (aq b (b4 kv m c))) :
   Yl P l (Ws w0 F L Vs) ⟨h,.lookup t x y true,ty,pos,af,g⟩ (.tuple #[eD k m d,.bool (lS k m)]):=by
 intro v w f u;simp [execOp,f x _ q,f y _ r,wi (P:=P) (k:=k) true j n o p (u.kn _ (ed s):w.heap[b]? = some (b4 kv m c))]
theorem Df {w:World} {t a e:TypeId} {b c:Nat} {m:List (c8 κ)} {k:κ} {v:Value} (d:nb kd kv) (l:P.underlying t=some (.map a e)) (i:P.underlying a=some kd) (n:w.heap[b]? = some (b4 kv m c)) :
   (Instr.mapUpdate t (.map (some b)) (kv k) v).run P w = .ok () { w with heap:=w.heap.setIfInBounds b (b4 kv (dZ k v m c) (gA k m c)) }:=by
 have f:w.heap[b]? = some (.map (m.map (lg kv)).toArray c):=n;have o:=y3 d k m 0;have p:(Instr.checkKey false 10000 a (kv k)).run P w = .ok () w:=MapKept.run_checkKey (k:=kv k) i (d.isKey k) _ 9999;simp only [Instr.mapUpdate,Sem.run_bind,run_underlying l,Result.andThen_ok,MapKept.run_getObj_map f,Sem.run_pure,p];rw [MapKept.run_findKey i (by simpa using o)];unfold dZ gA
 cases q:cw k m 0 with
 | none=>simp [Result.andThen_ok,MapKept.run_setObj_map _ f,b4,lg]
 | some r=>
   obtain ⟨j,s⟩:=r
   have g:m[j]?.map (·.1)=some k:=by simpa using (nG k j s m 0 q).2
   have u:((((m.map (lg kv)).toArray)[j]?).map (·.key)).getD (kv k)=kv k:=by
     cases h:m[j]? with
     | none=>simp [h]
     | some e=>rw [h] at g; simp at g; simp [h,lg,g]
   simp only [u,Result.andThen_ok];simp only [Sem.run_bind,MapKept.run_keyThatStays (d.isKey k),Result.andThen_ok,MapKept.run_setObj_map _ f,b4]
   have x:(m.map (lg kv)).toArray.modify j (λe=>{ e with key:=kv k,val:=v })=((m.modify j λe=>(k,v,e.2.2)).map (lg kv)).toArray:=by
     apply Array.ext';rw [Array.toList_modify];exact Lc m j k v
   rw [x]
theorem WL.mu {t f e:TypeId} {x y u:Operand} {b c:Nat} {m:List (c8 κ)} {k:κ} {v:Value} (i:Nat) (r:nb kd kv) (s:dq ops l g) (z:P.underlying t=some (.map f e)) (A:P.underlying f=some kd) (B:bk l x=some (.map (some b))) (C:bk l y=some (kv k)) (D:bk l u=some v) (o:L[i]? = some (aq b (b4 kv m c)))
   (h:WL P ops Q n ds l (Ws w0 F (L.set i (aq b (b4 kv (dZ k v m c) (gA k m c)))) Vs) rest) :
   WL P ops Q n ds l (Ws w0 F L Vs) (⟨none,.mapUpdate t x y u,ty,pos,af,g⟩::rest):=by
 refine WL.step s λa w d p I E=>?_;have q:w.heap[b]? = some (b4 kv m c):=p.kn _ (ed o)
 have G:(execOp a.eval ⟨none,.mapUpdate t x y u,ty,pos,af,g⟩).run P w = .ok .skip { w with heap:=w.heap.setIfInBounds b (b4 kv (dZ k v m c) (gA k m c)) }:=by
   simp only [execOp,d.eval B,d.eval C,d.eval D,Sem.run_bind,Df r z A q,Result.andThen_ok,Sem.run_pure]
 simp only [Oper.wp,G,Oper.upon_skip];refine E _ _ (h _ _ (d.tG undef) ?_);refine Ws.pZ p i o ⟨O,O,O,by simp,λj J H=>?_⟩ ?_ (by simp [aq]) (by simp [aq])
 · have:b≠j:=λe=>H (by simp [aq,e])
   simp [Array.getElem?_setIfInBounds_ne this]
 · show (w.heap.setIfInBounds b _)[b]? = _
   simp [lt_of_heap q]
theorem WL.kQ {t f e:TypeId} {x y u:Operand} {b c:Nat} {m:List (c8 κ)} {k:κ} {v:Value} (i:Nat) (r:nb kd kv) (s:dq ops l g) (z:P.underlying t=some (.map f e)) (A:P.underlying f=some kd) (B:bk l x=some (.map (some b))) (C:bk l y=some (kv k)) (D:bk l u=some v) (o:L[i]? = some (aq b (b4 kv m c)))
   (h:WL P ops Q n ds l (Ws w0 F (L.set i (aq b (b4 kv (dZ k v m c) (gA k m c)))) Vs) rest) :
   WL P ops Q n ds l (Ws w0 F L Vs) (⟨none,.insert t x y u,ty,pos,af,g⟩::rest):=by
 refine WL.step s λa w d p I E=>?_;have q:w.heap[b]? = some (b4 kv m c):=p.kn _ (ed o)
 have G:(execOp a.eval ⟨none,.insert t x y u,ty,pos,af,g⟩).run P w = .ok .skip { w with heap:=w.heap.setIfInBounds b (b4 kv (dZ k v m c) (gA k m c)) }:=by
   simp only [execOp,d.eval B,d.eval C,d.eval D,Sem.run_bind,Df r z A q,Result.andThen_ok,Sem.run_pure]
 simp only [Oper.wp,G,Oper.upon_skip];refine E _ _ (h _ _ (d.tG undef) ?_);refine Ws.pZ p i o ⟨O,O,O,by simp,λj J H=>?_⟩ ?_ (by simp [aq]) (by simp [aq])
 · have:b≠j:=λe=>H (by simp [aq,e])
   simp [Array.getElem?_setIfInBounds_ne this]
 · show (w.heap.setIfInBounds b _)[b]? = _
   simp [lt_of_heap q]
end
def q7 (P:Program) (t:TypeId):Option (Nat×Nat):=match P.underlying t with | some (.array n e)=>(P.info? e).map λi=>(n,i.size) | _=>none
def hD (P:Program) (t:TypeId):Option Nat:=match P.underlying t with | some (.array n e)=>if eG P e=true/\(P.info? e).map (·.size)=some 1 then some n else none | _=>none
section
variable {P:Program} {l:List (Nat×Value)} {W:World->Prop} {d:Option Tmp} {ty:TypeId} {pos:String} {af:Array Edge} {g:Option (Nat×Bool)}
theorem q8 {t:TypeId} {x y:Operand} {b o n s:Nat} {k:IntKind} {i:Nat} (a:q7 P t=some (n,s)) (h:bk l x=some (.pointer (some ⟨b,o,none⟩))) (j:bk l y=some (.int k (i:Int))) (p:i<n) :
   Yl P l W ⟨d,.indexAddr t x y,ty,pos,af,g⟩ (.pointer (some ⟨b,o+i*s,none⟩)):=by
 intro z w f _;unfold q7 at a
 cases c:P.underlying t with
 | none=>simp [c] at a
 | some q=>
   cases q<;>simp [c] at a
   rename_i m e;obtain ⟨A,hi,r,u⟩:=a;subst r u
   have v:(i:Int)<(m:Int):=by omega
   simp [execOp,f x _ h,f y _ j,Instr.indexAt,run_underlying c,asIntOf,v,p,sizeOf,typeInfo,hi,lO,Instr.sureAddr]
theorem Dg {t:TypeId} {x y:Operand} {n:Nat} {cs:Array Value} {k:IntKind} {i:Nat} {v:Value} (a:hD P t=some n) (f:bk l x=some (.agg cs)) (h:bk l y=some (.int k (i:Int))) (j:i<n) (hv:cs[i]? = some v) :
   Yl P l W ⟨d,.index t x y,ty,pos,af,g⟩ v:=by
 intro A w c _;unfold hD at a
 cases b:P.underlying t with
 | none=>simp [b] at a
 | some o=>
   cases o<;>simp [b] at a
   rename_i m e;obtain ⟨⟨p,q,hi,r⟩,rfl⟩:=a
   have s:(i:Int)<(m:Int):=by omega
   have u:=yz p w
   have z:(part e cs (i*q.size)).run P w = .ok v w:=by
     simp [part,u,r,hv]
   simp [execOp,c x _ f,c y _ h,Instr.index,run_underlying b,asIntOf,s,j,sizeOf,typeInfo,hi,z]
end
end Go.Bw
end
section
namespace Go.Bw
open Go
structure Tok where
 kind:Int
 n:Int
 text:List UInt8
deriving DecidableEq
def Tok.cells (t:Tok):List Value:=[.int .i64 t.kind,.int .i64 t.n,st t.text]
theorem Tok.aj (x:Tok):x.cells.length=3:=rfl
def ag (a:View) (b o:Nat) (x:Tok):Prop:=bI a b o x.cells
def kR (u:Int):Bool:=decide (97<=u)&&decide (u<=122)
def ew (u:Int):Bool:=decide (48<=u)&&decide (u<=57)
def iy (u:UInt8):Bool:=kR u.toNat||ew u.toNat
def dU (s:List UInt8):Bool:=(decide (1<=s.length)&&decide (s.length<=8))&&kR ((s[0]?.getD 0).toNat)&&s.all iy
def o4:List UInt8:=[123,125,40,41,91,93,44,59,61,46,43,45,42,47,37,60,33,38,124]
def kS (u:UInt8):Bool:=o4.contains u
def eX:List UInt8->Nat
 | []=>0
 | c::r=>if iy c=true then eX r+1 else 0
def q9 (s:List UInt8):Option Nat:=match Lib.decNat s with
 | some n=>if n<=1099511627775/\Lib.decDigits n=s then some n else none
 | none=>none
def nc (s:List UInt8):Option Tok:=if dU s=true then some ⟨1,0,s⟩ else (q9 s).map (λn:Nat=>(⟨2,(n:Int),[]⟩:Tok))
def ki:Nat->List UInt8->Option (List Tok)
 | _,[]=>some []
 | 0,_::_=>none
 | f+1,c::r=>
   if 0<eX (c::r) then
     match nc ((c::r).take (eX (c::r))) with
     | some t=>(ki f ((c::r).drop (eX (c::r)))).map (t::·)
     | none=>none
   else if kS c=true then (ki f r).map (⟨3,0,[c]⟩::·)
   else if c=32\/c=10 then ki f r
   else none
def ft (s:List UInt8):Option (List Tok):=ki s.length s
def ey (s:List UInt8):List Tok×Int:=if 4096<s.length then ([],2) else match ft s with
 | some l=>(l,0)
 | none=>([],1)
def nZ (t:Tok):Bool:=decide (1<=t.kind)&&decide (t.kind<=3)
def iz (t:Tok):Bool:=if t.kind=1 then t.n==0&&dU t.text else if t.kind=2 then t.text==[]&&(decide (0<=t.n)&&decide (t.n<=1099511627775)) else t.n==0&&(t.text.length==1&&kS (t.text[0]?.getD 0))
def wm (t:Tok):Bool:=!nZ t
def wo (t:Tok):Bool:=!iz t
def eC (l:List Tok):Int:=if l.any wm=true then 4 else if l.any wo=true then 1 else if 4096<l.length then 2 else 0
def lj (t:Tok):List UInt8:=if t.kind=2 then Lib.itoa t.n else t.text
def o5 (l:List Tok):List UInt8:=Lib.join (l.map lj) [32]
theorem Dh:∀s:List UInt8,eX s<=s.length
 | []=>Nat.le_refl _
 | c::r=>by
   have:=Dh r;unfold eX
   split<;>simp<;>omega
theorem Di (b:List UInt8) (c:UInt8) (d:iy c=false):∀a:List UInt8,eX (a++c::b)=eX a
 | []=>by simp [eX,d]
 | x::a=>by
   rw [List.cons_append];unfold eX;rw [Di b c d a]
theorem y4:∀(s:List UInt8) (n:Nat),n<=s.length->(∀j,j<n->iy (s[j]?.getD 0)=true)->(n=s.length\/iy (s[n]?.getD 0)=false)->eX s=n
 | [],n,h,_,_=>by simp at h; subst h; rfl
 | c::r,0,_,_,h=>by
   have:iy c=false:=by
     rcases h with h | h
     · simp at h
     · simpa using h
   simp [eX,this]
 | c::r,n+1,b,a,h=>by
   have d:iy c=true:=by simpa using a 0 (by omega)
   rw [eX,if_pos d,y4 r n (by simpa using b) (λj e=>by simpa using a (j+1) (by omega)) (by rcases h with h | h; left; simpa using h; right; simpa using h)]
theorem Dj {s:List UInt8} (h:s.all iy=true):eX s=s.length:=by
 refine y4 s s.length (Nat.le_refl _) (λj a=>?_) Y;rw [List.getElem?_eq_getElem a];exact List.all_eq_true.1 h _ (List.getElem_mem a)
theorem y5:∀(f g:Nat) (s:List UInt8),s.length<=f->s.length<=g->ki f s=ki g s
 | _,_,[],_,_=>by simp [ki]
 | 0,_,_::_,h,_=>by simp at h
 | _+1,0,_::_,_,h=>by simp at h
 | f+1,g+1,c::r,a,b=>by
   simp only [List.length_cons] at a b;unfold ki;rw [y5 f g r (by omega) (by omega)]
   by_cases d:0<eX (c::r)
   · rw [y5 f g ((c::r).drop (eX (c::r))) (by simp; omega) (by simp; omega)]
   · simp only [if_neg d]
theorem tV:ft []=some []:=rfl
theorem q' {s:List UInt8} (h:0<eX s):ft s=match nc (s.take (eX s)) with
   | some t=>(ft (s.drop (eX s))).map (t::·)
   | none=>none:=by
 cases s with
 | nil=>simp [eX] at h
 | cons c r=>
   show ki (r.length+1) (c::r)=_
   rw [ki,if_pos h];unfold ft;rw [y5 r.length ((c::r).drop (eX (c::r))).length _ (by simp; omega) (Nat.le_refl _)]
theorem tW {c:UInt8} {r:List UInt8} (h:eX (c::r)=0) (a:kS c=true):ft (c::r)=(ft r).map (⟨3,0,[c]⟩::·):=by
 show ki (r.length+1) (c::r)=_
 rw [ki,if_neg (by omega),if_pos a]
 rfl
theorem eH {c:UInt8} {r:List UInt8} (h:eX (c::r)=0) (a:kS c=false) (b:c=32\/c=10):ft (c::r)=ft r:=by
 show ki (r.length+1) (c::r)=_
 rw [ki,if_neg (by omega),if_neg (by simp [a]),if_pos b]
 rfl
theorem wq {c:UInt8} {r:List UInt8} (h:eX (c::r)=0) (a:kS c=false) (b:¬(c=32\/c=10)):ft (c::r)=none:=by
 show ki (r.length+1) (c::r)=_
 rw [ki,if_neg (by omega),if_neg (by simp [a]),if_neg b]
theorem B':∀u:UInt8,kS u=true->iy u=false:=by
 have h:∀u ∈ o4,iy u=false:=by decide
 intro u a;exact h u (by simpa [kS] using a)
theorem y6:∀(k:Nat) (a b:List UInt8),a.length<=k->ft (a++32::b)=(ft a).bind λl=>(ft b).map (l++·)
 | _,[],b,_=>by
   have g:iy 32=false:=by decide
   rw [List.nil_append,eH (by simp [eX,g]) (by decide) (.inl rfl)];simp only [tV,Option.bind_some,List.nil_append]
   cases ft b<;>rfl
 | 0,_::_,_,h=>by simp at h
 | k+1,c::r,b,j=>by
   have g:iy 32=false:=by decide
   have m:=Di b 32 g (c::r);have n:=Dh (c::r)
   by_cases p:0<eX (c::r)
   · rw [q' (s:=(c::r)++32::b) (by omega),q' p,m,List.take_append_of_le_length n,List.drop_append_of_le_length n]
     cases nc ((c::r).take (eX (c::r))) with
     | none=>rfl
     | some t=>
       simp only;rw [y6 k ((c::r).drop (eX (c::r))) b (by simp at j ⊢; omega)]
       cases ft ((c::r).drop (eX (c::r)))<;>simp
       cases ft b<;>simp
   · have e:eX (c::r)=0:=by omega
     have i:eX (c::(r++32::b))=0:=by rw [<-List.cons_append,m]; exact e
     have o:=y6 k r b (by simpa using j);rw [List.cons_append]
     cases d:kS c with
     | true=>
       rw [tW i d,tW e d,o]
       cases ft r<;>simp
       cases ft b<;>simp
     | false=>
       by_cases f:c=32\/c=10
       · rw [eH i d f,eH e d f,o]
       · rw [wq i d f,wq e d f]; rfl
theorem y7 (d:Nat) (f:d<10):∀(l:List UInt8) (a n:Nat),Lib.decFrom a l=some n->Lib.decFrom a (l++[UInt8.ofNat (48+d)])=some (n*10+d)
 | [],a,n,h=>by
   simp only [Lib.decFrom,Option.some.injEq] at h;subst h
   have e:(UInt8.ofNat (48+d)).toNat=48+d:=by simp [UInt8.toNat_ofNat']; omega
   have:Lib.digitVal (UInt8.ofNat (48+d))=some d:=by
     unfold Lib.digitVal;rw [e,if_pos (by omega)];simp
   simp only [List.nil_append,Lib.decFrom,this]
 | b::r,a,n,h=>by
   simp only [Lib.decFrom,List.cons_append] at h ⊢
   cases c:Lib.digitVal b with
   | none=>simp [c] at h
   | some e=>
     simp only [c] at h ⊢;exact y7 d f r _ n h
theorem y8 (n:Nat):Lib.decDigits n≠[]:=by
 rw [Lib.decDigits]
 split<;>simp
theorem Cy (n:Nat):Lib.decFrom 0 (Lib.decDigits n)=some n:=by
 induction n using Nat.strongRecOn with
 | _ n a=>
   rw [Lib.decDigits]
   split
   · rename_i h
     have:=y7 n h [] 0 0 rfl
     simpa using this
   · rename_i h
     rw [y7 (n % 10) (by omega) _ _ _ (a (n / 10) (by omega))]
     congr 1
     omega
theorem Dk (n:Nat):Lib.decNat (Lib.decDigits n)=some n:=by
 unfold Lib.decNat;rw [if_neg (by simpa using y8 n),Cy]
theorem Dl (n:Nat):∀x ∈ Lib.decDigits n,48<=x.toNat/\x.toNat<=57:=by
 induction n using Nat.strongRecOn with
 | _ n b=>
   rw [Lib.decDigits]
   have e:∀d,d<10->(UInt8.ofNat (48+d)).toNat=48+d:=λd c=>by simp [UInt8.toNat_ofNat']; omega
   split
   · rename_i h
     intro x a;simp only [List.mem_singleton] at a;subst a;rw [e n h]; omega
   · intro x a
     rw [List.mem_append,List.mem_singleton] at a
     rcases a with a | a
     · exact b (n / 10) (by omega) x a
     · subst a
       rw [e _ (by omega)]; omega
theorem Dm:∀(k n:Nat),n<10 ^ (k+1)->(Lib.decDigits n).length<=k+1
 | 0,n,h=>by
   rw [Lib.decDigits,dif_pos (by simpa using h)];simp
 | k+1,n,h=>by
   rw [Lib.decDigits]
   split
   · simp
   · rw [Nat.pow_succ] at h
     have:=Dm k (n / 10) (by omega);simp; omega
theorem CA (n:Nat):Lib.itoa (n:Int)=Lib.decDigits n:=by
 unfold Lib.itoa;rw [if_neg (by omega)];simp
theorem y9 {n:Int} (h:0<=n):Lib.itoa n=Lib.decDigits n.toNat:=by
 unfold Lib.itoa;rw [if_neg (by omega)]
theorem Lg {n:Nat} (h:n<=1099511627775):(Lib.decDigits n).length<=13:=Dm 12 n (by omega)
theorem Dn {s:List UInt8} {n:Nat} (h:q9 s=some n):n<=1099511627775/\Lib.decDigits n=s:=by
 unfold q9 at h
 split at h
 · split at h
   · injection h with h
     subst h; assumption
   · cases h
 · cases h
theorem Dp {n:Nat} (h:n<=1099511627775):q9 (Lib.decDigits n)=some n:=by
 unfold q9;rw [Dk];simp [h]
def kT (s:List UInt8):Tok×Bool:=if dU s=true then (⟨1,0,s⟩,true) else match Lib.atoiAll s with
 | .ok v=>(⟨2,v,[]⟩,((decide (0<=v)&&decide (v<=1099511627775))&&(Lib.itoa v==s)))
 | .range=>(⟨2,Lib.atoiSat s,[]⟩,false)
 | _=>(⟨2,0,[]⟩,false)
theorem nN {n:Nat} (h:n<=1099511627775):Lib.atoiAll (Lib.decDigits n) = .ok (n:Int):=by
 have k:=Lg h;rw [Lib.atoiAll_short _ (by omega)];have g:=y8 n;have a:=Dl n;have c:=Dk n
 cases d:Lib.decDigits n with
 | nil=>exact absurd d g
 | cons b r=>
   rw [d] at a c;have f:=a b (by simp)
   have i:(b==45)=false:=by
     rw [beq_eq_false_iff_ne];intro e; subst e; revert f; decide
   have j:(b==43)=false:=by
     rw [beq_eq_false_iff_ne];intro e; subst e; revert f; decide
   simp [Lib.atoi,i,j,c,Lib.NumEnd.ofOption]
theorem Dr (s:List UInt8):nc s=if (kT s).2=true then some (kT s).1 else none:=by
 unfold nc kT
 by_cases b:dU s=true
 · simp [b]
 · simp only [if_neg b]
   cases h:q9 s with
   | some n=>
     obtain ⟨a,c⟩:=Dn h;subst c;rw [nN a]
     have:((n:Int)<=1099511627775):=by omega
     simp [CA,this]
   | none=>
     cases e:Lib.atoiAll s with
     | ok v=>
       simp only
       by_cases hv:((decide (0<=v)&&decide (v<=1099511627775))&&(Lib.itoa v==s))=true
       · simp only [Bool.and_eq_true,decide_eq_true_eq,beq_iff_eq] at hv
         obtain ⟨⟨a,c⟩,d⟩:=hv
         have:q9 s=some v.toNat:=by
           rw [<-d,y9 a];exact Dp (by omega)
         rw [h] at this; cases this
       · rw [if_neg hv]; rfl
     | range=>rfl
     | _=>rfl
theorem Lh {s:List UInt8} {t:Tok} (h:nc s=some t):nZ t=true/\iz t=true:=by
 unfold nc at h
 split at h
 · rename_i a
   injection h with h
   subst h;exact ⟨O,by simp [iz,a]⟩
 · obtain ⟨n,a,rfl⟩:=Option.map_eq_some_iff.1 h
   have:=(Dn a).1;exact ⟨O,by simp [iz]; omega⟩
theorem wu:∀(k:Nat) (s:List UInt8) (l:List Tok),s.length<=k->ft s=some l->(∀t ∈ l,nZ t=true/\iz t=true)/\l.length<=s.length
 | _,[],l,_,h=>by
   rw [tV] at h
   injection h with h
   subst h; simp
 | 0,_::_,_,h,_=>by simp at h
 | k+1,c::r,l,n,h=>by
   simp only [List.length_cons] at n
   by_cases o:0<eX (c::r)
   · rw [q' o] at h
     cases f:nc ((c::r).take (eX (c::r))) with
     | none=>simp [f] at h
     | some t=>
       simp only [f] at h;obtain ⟨g,i,rfl⟩:=Option.map_eq_some_iff.1 h;obtain ⟨b,d⟩:=wu k ((c::r).drop (eX (c::r))) g (by simp; omega) i;refine ⟨λx a=>?_,?_⟩
       · rcases List.mem_cons.1 a with rfl | a
         · exact Lh f
         · exact b x a
       · simp at d ⊢; omega
   · have j:eX (c::r)=0:=by omega
     cases e:kS c with
     | true=>
       rw [tW j e] at h;obtain ⟨g,i,rfl⟩:=Option.map_eq_some_iff.1 h;obtain ⟨b,d⟩:=wu k r g (by omega) i;refine ⟨λx a=>?_,by simpa using d⟩
       rcases List.mem_cons.1 a with rfl | a
       · exact ⟨O,by simp [iz,e]⟩
       · exact b x a
     | false=>
       by_cases m:c=32\/c=10
       · rw [eH j e m] at h
         obtain ⟨b,d⟩:=wu k r l (by omega) h;exact ⟨b,by simp; omega⟩
       · rw [wq j e m] at h; cases h
theorem any_none {α:Type} {p:α->Bool} {l:List α} (h:∀t ∈ l,p t=false):l.any p=false:=by
 rw [List.any_eq_false];intro x a;simp [h x a]
theorem Li {l:List Tok} (h:∀t ∈ l,nZ t=true/\iz t=true) (b:l.length<=4096):eC l=0:=by
 unfold eC;rw [any_none (p:=wm) λt a=>by simp [wm,(h t a).1],any_none (p:=wo) λt a=>by simp [wo,(h t a).2]];simp; omega
theorem Ds {l:List Tok} (h:eC l=0):(∀t ∈ l,nZ t=true/\iz t=true)/\l.length<=4096:=by
 unfold eC at h
 split at h
 · cases h
 · rename_i a
   split at h
   · cases h
   · rename_i b
     split at h
     · cases h
     · rename_i d
       simp only [List.any_eq_true,not_exists,not_and] at a b;refine ⟨λt c=>⟨?_,?_⟩,by omega⟩
       · have:=a t c; simpa [wm] using this
       · have:=b t c; simpa [wo] using this
theorem Dt {s:List UInt8} (h:(ey s).2=0):eC (ey s).1=0:=by
 unfold ey at h ⊢
 split
 · simp_all
 · rename_i b
   cases a:ft s with
   | none=>simp [b,a] at h
   | some l=>
     obtain ⟨c,d⟩:=wu _ s l (Nat.le_refl _) a;exact Li c (show l.length<=4096 by omega)
theorem Lj {x:UInt8} (h:48<=x.toNat/\x.toNat<=57):iy x=true:=by
 unfold iy ew
 have a:((48:Int)<=(x.toNat:Int)):=by omega
 have b:((x.toNat:Int)<=57):=by omega
 simp [a,b]
theorem Du {t:Tok} (j:nZ t=true) (d:iz t=true):ft (lj t)=some [t]:=by
 obtain ⟨k,n,s⟩:=t
 have l:k=1\/k=2\/k=3:=by simp [nZ] at j; omega
 rcases l with rfl | rfl | rfl
 · simp only [iz,if_pos,Bool.and_eq_true,beq_iff_eq] at d
   obtain ⟨rfl,f⟩:=d;have g:=f;simp only [dU,Bool.and_eq_true,decide_eq_true_eq] at g;obtain ⟨⟨⟨m,y⟩,_⟩,o⟩:=g;have e:=Dj o
   show ft s=_
   rw [q' (by omega),e,List.take_length,List.drop_length];simp [nc,f,tV]
 · simp only [iz,Bool.and_eq_true,beq_iff_eq,decide_eq_true_eq] at d
   obtain ⟨rfl,p,m⟩:=(by simpa using d:s=[]/\0<=n/\n<=1099511627775)
   show ft (Lib.itoa n)=_
   rw [y9 p];have h:=Dl n.toNat;have e:eX (Lib.decDigits n.toNat)=(Lib.decDigits n.toNat).length:=Dj (List.all_eq_true.2 λx q=>Lj (h x q));have i:=y8 n.toNat;have z:0<(Lib.decDigits n.toNat).length:=List.length_pos_iff.2 i;rw [q' (by omega),e,List.take_length,List.drop_length]
   have u:dU (Lib.decDigits n.toNat)=false:=by
     cases a:Lib.decDigits n.toNat with
     | nil=>exact absurd a i
     | cons b r=>
       have A:=h b (by rw [a]; simp)
       have:kR (b.toNat:Int)=false:=by simp [kR]; omega
       simp [dU,this]
   have v:((n.toNat:Nat):Int)=n:=by omega
   simp [nc,u,Dp (show n.toNat<=1099511627775 by omega),tV,v]
 · obtain ⟨rfl,w,a⟩:=(by simpa [iz] using d:n=0/\s.length=1/\kS (s[0]?.getD 0)=true)
   match s,w with
   | [c],_=>
     have a:kS c=true:=by simpa using a
     show ft [c]=_
     rw [tW (by simp [eX,B' c a]) a]
     rfl
theorem Lk (x y:List UInt8) (r:List (List UInt8)) (s:List UInt8):Lib.join (x::y::r) s=x++s++Lib.join (y::r) s:=by
 simp [Lib.join,List.intercalate,List.intersperse]
theorem Dv:∀l:List Tok,(∀t ∈ l,nZ t=true/\iz t=true)->ft (o5 l)=some l
 | [],_=>rfl
 | [t],h=>by
   have e:o5 [t]=lj t:=by simp [o5,Lib.join,List.intercalate]
   rw [e];exact Du (h t (by simp)).1 (h t (by simp)).2
 | t::u::r,h=>by
   have e:o5 (t::u::r)=lj t++32::o5 (u::r):=by
     unfold o5;simp only [List.map_cons,Lk];simp
   rw [e,y6 _ _ _ (Nat.le_refl _),Du (h t (by simp)).1 (h t (by simp)).2,Dv (u::r) (λx a=>h x (List.mem_cons_of_mem _ a))]
   rfl
end Go.Bw
end
section
namespace Go.Bw
open Go
inductive aV where
 | mk (op n:Int) (mod nm:List UInt8) (args:List aV)
inductive bl where
 | mk (op:Int) (mod nm:List UInt8) (args:List aV) (body other:List bl)
def aV.op:aV->Int | .mk o _ _ _ _=>o
def aV.n:aV->Int | .mk _ n _ _ _=>n
def aV.mod:aV->List UInt8 | .mk _ _ m _ _=>m
def aV.nm:aV->List UInt8 | .mk _ _ _ s _=>s
def aV.args:aV->List aV | .mk _ _ _ _ a=>a
def bl.op:bl->Int | .mk o _ _ _ _ _=>o
def bl.mod:bl->List UInt8 | .mk _ m _ _ _ _=>m
def bl.nm:bl->List UInt8 | .mk _ _ s _ _ _=>s
def bl.args:bl->List aV | .mk _ _ _ a _ _=>a
def bl.body:bl->List bl | .mk _ _ _ _ b _=>b
def bl.other:bl->List bl | .mk _ _ _ _ _ o=>o
structure cB where
 kind:Int
 nm:List UInt8
 bx:Bool
 n:Int
deriving DecidableEq
structure dA where
 nm:List UInt8
 bx:Bool
 params:List (List UInt8)
 ay:List (List UInt8)
 body:List bl
structure aZ where
 nm:List UInt8
 ak:List (List UInt8)
 decls:List cB
 procs:List dA
 main:List bl
structure bo where
 f:Nat
 m:Nat
 k:Nat
deriving DecidableEq
instance:Add bo:=⟨λa b=>⟨a.f+b.f,a.m+b.m,a.k+b.k⟩⟩
def bo.bE (c:bo):Nat:=c.f+c.m+c.k
def c0:bo:=⟨0,0,0⟩
theorem bo.q_ (a b:bo):(a+b).f=a.f+b.f:=rfl
theorem bo.ra (a b:bo):(a+b).m=a.m+b.m:=rfl
theorem bo.rb (a b:bo):(a+b).k=a.k+b.k:=rfl
theorem bo.ext' {a b:bo} (c:a.f=b.f) (d:a.m=b.m) (e:a.k=b.k):a=b:=by
 cases a; cases b; simp_all
theorem bo.gM (a b c:bo):a+b+c=a+(b+c):=bo.ext' (Nat.add_assoc _ _ _) (Nat.add_assoc _ _ _) (Nat.add_assoc _ _ _)
theorem bo.dG (a b:bo):(a+b).bE=a.bE+b.bE:=by
 simp only [bo.bE,bo.q_,bo.ra,bo.rb]; omega
def y' (b:Bool):Nat:=if b=true then 1 else 0
def dn (b:Bool):bo:=⟨y' b,0,0⟩
def ch (b:Bool):bo:=⟨0,y' b,0⟩
def du (b:Bool):bo:=⟨0,0,y' b⟩
def bN:List (List UInt8):=[[109,111,100,117,108,101],[117,115,101],[112,117,98],[99,111,110,115,116],[118,97,114],[97,114,114,97,121],[112,114,111,99],[108,111,99,97,108],[109,97,105,110],[105,102],[101,108,115,101],[119,104,105,108,101],[114,101,116,117,114,110],[111,117,116],[105,110]]
def ei (s:List UInt8):Bool:=dU s&&!(bN.contains s)
def dR (op:Int):Option (Bool×Int):=if op=1\/op=2 then some (false,0) else if op=3 then some (true,0) else if op=4 then some (true,1) else if op=5 then some (true,-1) else if op=6 then some (false,1) else if 7<=op/\op<=15 then some (false,2) else none
def cu (op:Int):Option (Bool×Int):=if op=1 then some (true,1) else if op=2 then some (true,2) else if op=3 then some (true,-1) else if 4<=op/\op<=7 then some (false,1) else none
def gU (r:Bool) (mod nm:List UInt8):Bool:=(r&&((!(mod==[])&&!ei mod)||!ei nm))||(!r&&!(mod++nm==[]))
def j2 (a:Int) (len:Nat):Bool:=decide (0<=a)&&!((len:Int)==a)
def dB (s:Bool×Int) (mod nm:List UInt8) (len:Nat):bo:=dn (gU s.1 mod nm)+dn (j2 s.2 len)+ch (decide (3<len))
def gN (op n:Int):Bool:=((op==1)&&(decide (n<0)||decide (1099511627775<n)))||(!(op==1)&&!(n==0))
mutual
def ga:aV->Nat->bo
 | .mk op n mod nm args,d=>if 6<d then ⟨0,1,0⟩ else du (dR op).isNone+dB ((dR op).getD (false,0)) mod nm args.length+dn (gN op n)+cP args (d+1)
def cP:List aV->Nat->bo
 | [],_=>c0
 | x::r,d=>ga x d+cP r d
end
def inner (op:Int):Bool:=(op==4)||(op==5)
def gB (op:Int) (b o:Nat):Bool:=(!inner op&&decide (0<b))||(!(op==4)&&decide (0<o))
def kU (d len:Nat) (c:bo):bo:=if 6<d then ⟨0,1,0⟩ else ch (decide (10<len))+c
mutual
def eP:bl->Nat->bo
 | .mk op mod nm args body other,d=>du (cu op).isNone+dB ((cu op).getD (false,0)) mod nm args.length+cP args 1+dn (gB op body.length other.length)
     + (if (inner op||decide (0<body.length))=true then kU (d+1) body.length (ar body (d+1)) else c0)+(if 0<other.length then kU (d+1) other.length (ar other (d+1)) else c0)
def ar:List bl->Nat->bo
 | [],_=>c0
 | x::r,d=>eP x d+ar r d
end
def dw (l:List bl) (d:Nat):bo:=kU d l.length (ar l d)
def bp:List (List UInt8)->bo
 | []=>c0
 | s::r=>dn (!ei s)+bp r
def gk (d:cB):bo:=bp [d.nm]+(if d.kind=1 then dn (decide (d.n<0)||decide (1099511627775<d.n)) else if d.kind=2 then dn (!(d.n==0)) else if d.kind=3 then dn (decide (d.n<1)||decide (32<d.n)) else du true)
def dJ:List cB->bo
 | []=>c0
 | d::r=>gk d+dJ r
def lT (p:dA):bo:=bp [p.nm]+bp p.params+bp p.ay+ch (decide (3<p.params.length)||decide (4<p.ay.length))+dw p.body 1
def eo:List dA->bo
 | []=>c0
 | p::r=>lT p+eo r
def nf (m:aZ):bo:=bp [m.nm]+bp m.ak+ch ((decide (3<m.ak.length)||decide (10<m.decls.length))||decide (6<m.procs.length))+dJ m.decls+eo m.procs+dw m.main 1
def o6 (c:bo):Int:=if 0<c.k then 4 else if 0<c.m then 2 else if 0<c.f then 1 else 0
def fH (m:aZ):Int:=o6 (nf m)
def dv (n a b:Int):Bool:=decide (a<=n)&&decide (n<=b)
def hA (op:Int):Int:=if op=1\/op=2\/op=3 then 0 else if op=4\/op=6 then 1 else if op=5 then -1 else 2
def lU (op:Int):Int:=if op=2 then 2 else if op=3 then -1 else 1
theorem Dw (op:Int):(dR op).isNone = !dv op 1 15:=by
 unfold dR dv;rw [Bool.eq_iff_iff]
 split
 · simp; omega
 · split
   · simp; omega
   · split
     · simp; omega
     · split
       · simp; omega
       · split
         · simp; omega
         · split
           · simp; omega
           · simp; omega
theorem Dx (op:Int):(cu op).isNone = !dv op 1 7:=by
 unfold cu dv;rw [Bool.eq_iff_iff]
 split
 · simp; omega
 · split
   · simp; omega
   · split
     · simp; omega
     · split
       · simp; omega
       · simp; omega
theorem Ll (a b:List UInt8):(a++b==[])=((a==[])&&(b==[])):=by
 cases a<;>cases b<;>rfl
theorem Lm {op:Int} (h:(dR op).isNone=false):((dR op).getD (false,0)).1=dv op 3 5/\((dR op).getD (false,0)).2=hA op:=by
 rw [Dw] at h
 have a:op=1\/op=2\/op=3\/op=4\/op=5\/op=6\/(7<=op/\op<=15):=by
   simp [dv] at h; omega
 rcases a with rfl | rfl | rfl | rfl | rfl | rfl | b
 any_goals exact ⟨rfl,rfl⟩
 unfold dR hA dv;rw [if_neg (by omega),if_neg (by omega),if_neg (by omega),if_neg (by omega),if_neg (by omega),if_pos b,if_neg (by omega),if_neg (by omega),if_neg (by omega)];refine ⟨?_,O⟩;simp; omega
theorem DO {op:Int} (h:(cu op).isNone=false):((cu op).getD (false,0)).1=dv op 1 3/\((cu op).getD (false,0)).2=lU op:=by
 rw [Dx] at h
 have a:op=1\/op=2\/op=3\/op=4\/op=5\/op=6\/op=7:=by
   simp [dv] at h; omega
 rcases a with rfl | rfl | rfl | rfl | rfl | rfl | rfl<;>exact ⟨rfl,rfl⟩
end Go.Bw
end
section
namespace Go.Bw
open Go
def dD (s:List UInt8):List Value:=[st s]
def rdStr (a:View) (b o:Nat) (s:List UInt8):Prop:=bI a b o (dD s)
theorem iA (s:List UInt8):(dD s).length=1:=rfl
theorem dm {a c:View} (h:bw a c) (b o:Nat) (x:List UInt8) (r:rdStr a b o x):rdStr c b o x:=bI.mono h r
def cB.cells (d:cB):List Value:=[.int .i64 d.kind,st d.nm,.bool d.bx,.int .i64 d.n]
theorem cB.aj (d:cB):d.cells.length=4:=rfl
def re (a:View) (b o:Nat) (d:cB):Prop:=bI a b o d.cells
theorem DY {a c:View} (h:bw a c) (b o:Nat) (x:cB) (r:re a b o x):re c b o x:=bI.mono h r
def rf (e:aV) (a:Option Addr) (c:Nat):List Value:=[.int .i64 e.op,.int .i64 e.n,st e.mod,st e.nm,.slice a e.args.length c]
def ff:Nat->View->Nat->Nat->aV->Prop
 | 0=>λ_ _ _ _=>False
 | k+1=>λd b o e=>∃a c,bI d b o (rf e a c)/\Sl (ff k) 5 d a c e.args
def rh (s:bl) (a:Option Addr) (c:Nat) (a2:Option Addr) (c2:Nat) (a3:Option Addr) (c3:Nat):List Value:=[.int .i64 s.op,st s.mod,st s.nm,.slice a s.args.length c,.slice a2 s.body.length c2,.slice a3 s.other.length c3]
def a6 (ke:Nat):Nat->View->Nat->Nat->bl->Prop
 | 0=>λ_ _ _ _=>False
 | k+1=>λd b o s=>∃a c a2 c2 a3 c3,bI d b o (rh s a c a2 c2 a3 c3)/\Sl (ff ke) 5 d a c s.args/\Sl (a6 ke k) 6 d a2 c2 s.body/\Sl (a6 ke k) 6 d a3 c3 s.other
def y_ (p:dA) (a1:Option Addr) (c1:Nat) (a2:Option Addr) (c2:Nat) (a3:Option Addr) (c3:Nat):List Value:=[st p.nm,.bool p.bx,.slice a1 p.params.length c1,.slice a2 p.ay.length c2,.slice a3 p.body.length c3]
def wv (ke ks:Nat) (a:View) (b o:Nat) (p:dA):Prop:=∃a1 c1 a2 c2 a3 c3,bI a b o (y_ p a1 c1 a2 c2 a3 c3)/\Sl rdStr 1 a a1 c1 p.params/\Sl rdStr 1 a a2 c2 p.ay/\Sl (a6 ke ks) 6 a a3 c3 p.body
structure ic where
 a1:Option Addr
 c1:Nat
 a2:Option Addr
 c2:Nat
 a3:Option Addr
 c3:Nat
 a4:Option Addr
 c4:Nat
def fu (m:aZ) (r:ic):List Value:=[st m.nm,.slice r.a1 m.ak.length r.c1,.slice r.a2 m.decls.length r.c2,.slice r.a3 m.procs.length r.c3,.slice r.a4 m.main.length r.c4]
structure iB (ke ks:Nat) (H:View) (r:ic) (m:aZ):Prop where
 ak:Sl rdStr 1 H r.a1 r.c1 m.ak
 decls:Sl re 4 H r.a2 r.c2 m.decls
 procs:Sl (wv ke ks) 5 H r.a3 r.c3 m.procs
 main:Sl (a6 ke ks) 6 H r.a4 r.c4 m.main
theorem Sl.imp {α:Type} {rd d:View->Nat->Nat->α->Prop} {k:Nat} {e f:View} {a:Option Addr} {c:Nat} {l:List α} (g:∀b o x,rd e b o x->d f b o x) (h:Sl rd k e a c l):Sl d k f a c l:=
 ⟨h.cap,h.max,h.spot,λi x j=>by obtain ⟨b,o,m,n⟩:=h.bJ i x j; exact ⟨b,o,m,g _ _ _ n⟩⟩
theorem so {f g:View} (i:bw f g):∀{k d:Nat},k<=d->∀(b o:Nat) (e:aV),ff k f b o e->ff d g b o e
 | 0,_,_,_,_,_,h=>h.elim
 | k+1,0,j,_,_,_,_=>absurd j (by omega)
 | k+1,d+1,j,b,o,e,h=>by
   obtain ⟨a,c,l,m⟩:=h;exact ⟨a,c,bI.mono i l,m.imp λb o x n=>so i (by omega) b o x n⟩
theorem ri {j l:View} (f:bw j l) {ke m:Nat} (g:ke<=m):∀{k i:Nat},k<=i->∀(b o:Nat) (e:bl),a6 ke k j b o e->a6 m i l b o e
 | 0,_,_,_,_,_,h=>h.elim
 | k+1,0,n,_,_,_,_=>absurd n (by omega)
 | k+1,i+1,n,b,o,e,h=>by
   obtain ⟨a,c,a2,c2,a3,c3,p,q,r,s⟩:=h;exact ⟨a,c,a2,c2,a3,c3,bI.mono f p,q.imp λb o x d=>so f g b o x d,r.imp λb o x d=>ri f g (by omega) b o x d,s.imp λb o x d=>ri f g (by omega) b o x d⟩
theorem Dy {d e:View} (c:bw d e) {ke f ks g:Nat} (i:ke<=f) (j:ks<=g) (b o:Nat) (p:dA) (h:wv ke ks d b o p):wv f g e b o p:=by
 obtain ⟨a1,c1,a2,c2,a3,c3,k,l,m,n⟩:=h;exact ⟨a1,c1,a2,c2,a3,c3,bI.mono c k,l.imp λb o x a=>dm c b o x a,m.imp λb o x a=>dm c b o x a,n.imp λb o x a=>ri c i j b o x a⟩
mutual
def wE:aV->Nat
 | .mk _ _ mod nm args=>1+mod.length+nm.length+ax args
def ax:List aV->Nat
 | []=>0
 | x::r=>wE x+ax r
end
mutual
def wS:bl->Nat
 | .mk _ mod nm args body other=>1+mod.length+nm.length+ax args+dC body+dC other
def dC:List bl->Nat
 | []=>0
 | x::r=>wS x+dC r
end
def wN:List (List UInt8)->Nat
 | []=>0
 | s::r=>1+s.length+wN r
def wD:List cB->Nat
 | []=>0
 | d::r=>1+d.nm.length+wD r
def wP:List dA->Nat
 | []=>0
 | p::r=>1+p.nm.length+wN p.params+wN p.ay+dC p.body+wP r
def wM (m:aZ):Nat:=1+m.nm.length+wN m.ak+wD m.decls+wP m.procs+dC m.main
theorem Ek:∀x:aV,1<=wE x | .mk _ _ _ _ _=>by unfold wE; omega
theorem Lq:∀x:bl,1<=wS x | .mk _ _ _ _ _ _=>by unfold wS; omega
theorem Dz (x:aV):wE x=1+x.mod.length+x.nm.length+ax x.args:=by cases x; rfl
theorem DA (x:bl):wS x=1+x.mod.length+x.nm.length+ax x.args+dC x.body+dC x.other:=by cases x; rfl
theorem DB {i:Nat} {x:aV}:∀{l:List aV},l[i]? = some x->wE x<=ax l
 | [],h=>by simp at h
 | y::r,h=>by
   unfold ax
   cases i with
   | zero=>simp at h; subst h; omega
   | succ i=>have:=DB (i:=i) (l:=r) (by simpa using h); omega
theorem DC {i:Nat} {x:bl}:∀{l:List bl},l[i]? = some x->wS x<=dC l
 | [],h=>by simp at h
 | y::r,h=>by
   unfold dC
   cases i with
   | zero=>simp at h; subst h; omega
   | succ i=>have:=DC (i:=i) (l:=r) (by simpa using h); omega
theorem DD:∀l:List aV,l.length<=ax l
 | []=>Nat.le_refl _
 | x::r=>by have:=DD r; have:=Ek x; unfold ax; simp; omega
theorem DE:∀l:List bl,l.length<=dC l
 | []=>Nat.le_refl _
 | x::r=>by have:=DE r; have:=Lq x; unfold dC; simp; omega
theorem tY:∀l:List (List UInt8),l.length<=wN l
 | []=>Nat.le_refl _
 | x::r=>by have:=tY r; unfold wN; simp; omega
theorem kj (b:Bool):(dn b).bE<=1:=by cases b<;>decide
theorem sq (b:Bool):(ch b).bE<=1:=by cases b<;>decide
theorem tZ (b:Bool):(du b).bE<=1:=by cases b<;>decide
theorem wx (s:Bool×Int) (mod nm:List UInt8) (len:Nat):(dB s mod nm len).bE<=3:=by
 unfold dB;rw [bo.dG,bo.dG];have:=kj (gU s.1 mod nm); have:=kj (j2 s.2 len); have:=sq (decide (3<len));omega
theorem DF:c0.bE=0:=rfl
mutual
theorem Lr:∀(x:aV) (d:Nat),(ga x d).bE<=8*wE x
 | .mk op n mod nm args,d=>by
   unfold ga wE
   split
   · show 0+1+0<=_
     omega
   · rw [bo.dG,bo.dG,bo.dG]
     have:=sr args (d+1); have:=tZ (dR op).isNone; have:=wx ((dR op).getD (false,0)) mod nm args.length; have:=kj (gN op n);omega
theorem sr:∀(l:List aV) (d:Nat),(cP l d).bE<=8*ax l
 | [],_=>Nat.le_refl _
 | x::r,d=>by
   have:=Lr x d; have:=sr r d;unfold cP ax;rw [bo.dG];omega
end
theorem za (d len:Nat) (c:bo):(kU d len c).bE<=1+c.bE:=by
 unfold kU
 split
 · show 0+1+0<=_
   omega
 · rw [bo.dG]
   have:=sq (decide (10<len));omega
theorem DG (b:Prop) [Decidable b] (c:bo):(if b then c else c0).bE<=c.bE:=by
 split
 · exact Nat.le_refl _
 · exact Nat.zero_le _
mutual
theorem Ls:∀(x:bl) (d:Nat),(eP x d).bE<=8*wS x
 | .mk op mod nm args body other,d=>by
   unfold eP wS;rw [bo.dG,bo.dG,bo.dG,bo.dG,bo.dG];have a:=sr args 1; have b:=tZ (cu op).isNone; have c:=wx ((cu op).getD (false,0)) mod nm args.length; have e:=kj (gB op body.length other.length);have f:=DG ((inner op||decide (0<body.length))=true) (kU (d+1) body.length (ar body (d+1)));have g:=DG (0<other.length) (kU (d+1) other.length (ar other (d+1)));have h:=za (d+1) body.length (ar body (d+1)); have i:=za (d+1) other.length (ar other (d+1));have j:=t' body (d+1); have k:=t' other (d+1);omega
theorem t':∀(l:List bl) (d:Nat),(ar l d).bE<=8*dC l
 | [],_=>Nat.le_refl _
 | x::r,d=>by
   have:=Ls x d; have:=t' r d;unfold ar dC;rw [bo.dG];omega
end
theorem ss:∀l:List (List UInt8),(bp l).bE<=wN l
 | []=>Nat.le_refl _
 | s::r=>by
   have:=ss r; have:=kj (!ei s);unfold bp wN;rw [bo.dG];omega
theorem Lt (d:cB):(gk d).bE<=2:=by
 unfold gk bp bp;rw [bo.dG,bo.dG,DF];have:=kj (!ei d.nm)
 split
 · have:=kj (decide (d.n<0)||decide (1099511627775<d.n)); omega
 · split
   · have:=kj (!(d.n==0)); omega
   · split
     · have:=kj (decide (d.n<1)||decide (32<d.n)); omega
     · have:=tZ true; omega
theorem zb:∀l:List cB,(dJ l).bE<=8*wD l
 | []=>Nat.le_refl _
 | d::r=>by
   have:=zb r; have:=Lt d;unfold dJ wD;rw [bo.dG];omega
theorem zc (l:List bl) (d:Nat):(dw l d).bE<=1+8*dC l:=by
 unfold dw;have:=za d l.length (ar l d); have:=t' l d;omega
theorem zd (s:List UInt8):(bp [s]).bE<=1:=by
 unfold bp bp;rw [bo.dG,DF];have:=kj (!ei s);omega
theorem Lu (p:dA):(lT p).bE<=3+wN p.params+wN p.ay+8*dC p.body:=by
 unfold lT;rw [bo.dG,bo.dG,bo.dG,bo.dG];have:=zd p.nm; have:=ss p.params; have:=ss p.ay; have:=sq (decide (3<p.params.length)||decide (4<p.ay.length)); have:=zc p.body 1;omega
theorem wy:∀l:List dA,(eo l).bE<=8*wP l
 | []=>Nat.le_refl _
 | p::r=>by
   have:=wy r; have:=Lu p;unfold eo wP;rw [bo.dG];omega
theorem ze {α:Type} {rd:View->Nat->Nat->α->Prop} {f:α->List Value} {k:Nat} {a:View} {b m:Nat} {T:TypeId} {c:Nat×Nat} {xs:List α} (e:a b=some (.cells (xs.flatMap f).toArray T c)) (d:∀x,(f x).length=k) (g:∀a b o x,bI a b o (f x)->rd a b o x) (h:xs.length<=m) (l:m<=9223372036854775807):Sl rd k a (some ⟨b,0,none⟩) m xs:=by
 refine ⟨h,l,by simp,λi x n=>⟨b,0,O,g _ _ _ _ λj v hv=>?_⟩⟩
 have p:j<k:=by rw [<-d x]; exact (List.getElem?_eq_some_iff.1 hv).1
 have q:vc a b (0+i*k+j)=f_ (.cells (xs.flatMap f).toArray T c) (0+i*k+j):=by unfold vc; rw [e]; rfl
 rw [q];simp only [f_,Nat.zero_add];rw [o2 d n p];exact hv
section
variable {P:Program} {ops:Array Oper} {Q:Exit->Act->World->Prop} {n:Nat} {ds:List Deferred} {l:List (Nat×Value)} {w0:World} {F:List Nat} {L:List aS} {Vs:List View} {rest:List Oper}
theorem a7 {T:TypeId} {m b:Nat} {c:Array Value} {a:Nat×Nat} (i:Nat) (xs:List (List UInt8)) (e:L[i]? = some (aq b (.cells c T a))) (g:c=(xs.flatMap dD).toArray) (j:xs.length<=m) (k:m<=9223372036854775807)
   (h:∀d,Sl rdStr 1 d (some ⟨b,0,none⟩) m xs->WL P ops Q n ds l (Ws w0 F (dM i L) (d::Vs)) rest):WL P ops Q n ds l (Ws w0 F L Vs) rest:=by
 subst g
 have o:bv b (.cells (xs.flatMap dD).toArray T a) b=some (.cells (xs.flatMap dD).toArray T a):=by simp [bv]
 exact WL.kh i e (h _ (ze (f:=dD) o iA (λ_ _ _ _ h=>h) j k))
end
section
variable {P:Program} {l:List (Nat×Value)} {W:World->Prop} {d:Option Tmp} {ty:TypeId} {pos:String} {af:Array Edge} {g:Option (Nat×Bool)}
theorem DH {t:TypeId} {parts:List (Nat×Operand)} {vs:List (Nat×Value)} {a:Value} {n s:Nat} {out:List Value} (j:zeroOf P t=some a) (b:q7 P t=some (n,s))
   (hv:oY l parts=some vs) (k:nQ (λi=>some (i*s,s)) (eB a) vs=some out):Yl P l W ⟨d,.build t parts.toArray,ty,pos,af,g⟩ (.agg out.toArray):=by
 intro o w p _
 have q:((parts.toArray.map λ (i,x)=>(i,o x)):Array (Nat×Value)).toList=vs:=by simpa using vQ p parts vs hv
 unfold q7 at b
 cases c:P.underlying t with
 | none=>simp [c] at b
 | some r=>
   cases r<;>simp [c] at b
   rename_i m e;obtain ⟨f,hi,u,v⟩:=b;subst u v
   have h:Instr.fill (λi=>some (i*f.size,f.size)) a.cells vs=some out.toArray:=by
     refine tJ _ vs a.cells out ?_;rw [p0]
     simpa using k
   simp only [execOp,Instr.build,Sem.run_bind,q0 j,Result.andThen_ok,run_underlying c,q,h,sizeOf,typeInfo,hi,Sem.run_pure];simp [hi,h]
end
section
variable {P:Program} {ops:Array Oper} {Q:Exit->Act->World->Prop} {n:Nat} {ds:List Deferred} {l:List (Nat×Value)} {w0:World} {F:List Nat} {L:List aS} {Vs:List View}
 {rest:List Oper} {d:Nat} {ty:TypeId} {pos:String} {af:Array Edge} {g:Option (Nat×Bool)}
theorem hW {ι κ:Type} {f:FuncId} {args:Array Operand} {ts:Array TypeId} {vs:List Value} (o L2:List aS) (D:dq ops l g) (E:Nat.blt d n=true) (G:Enters P f) (H:hU l args.toList=some vs) (I:L=o++L2)
   (v:ι->Value) (u:ι->List aS) (R:View->ι->Prop) (y:κ->List PanicEntry) (Lp:κ->List aS) (z:κ->Prop) (ah:List View) (J:∀b ∈ ah,b ∈ Vs)
   (K:∀i,∀k ∈ (u i).flatMap aS.ids,k ∈ o.flatMap aS.ids)
   (M:∀w,Ws w (o.flatMap aS.ids) o ah w->Calls P f vs.toArray w λe w'=>(∃i,e = .returned (v i)/\R (nv w w') i/\Ws w (o.flatMap aS.ids) (u i) ah w')\/(∃j,e = .panicked (y j)/\z j/\Ws w (o.flatMap aS.ids) (Lp j) ah w'))
   (N:∀j,z j->WE Q (.panic (y j)) n ds l (Ws w0 F (Lp j++L2) Vs))
   (S:∀b i,eW w0 b->R b i->WL P ops Q n ds ((d,v i)::l) (Ws w0 F (u i++L2) (b::Vs)) rest) :
   WL P ops Q n ds l (Ws w0 F L Vs) (⟨some d,.call ⟨.value (.func f),args,ts⟩,ty,pos,af,g⟩::rest):=by
 subst I;refine WL.tK (ι:=View×ι) D E G H (λi=>v i.2) (λi w'=>(eW w0 i.1/\R i.1 i.2)/\Ws w0 F (u i.2++L2) (i.1::Vs) w') (λc w'=>∃j,c=y j/\z j/\Ws w0 F (Lp j++L2) Vs w') (λw p=>(M w (p.self.cv J)).mono λe w' T=>?_) (λi=>?_) (λc=>?_)
 · rcases T with ⟨i,rfl,s,h⟩ | ⟨j,rfl,s,h⟩
   · have q:=p.back h
     refine .inl ⟨(nv w w',i),O,⟨(r_ w w').mono p.fr.size,s⟩,q.fr,q.kn,q.nd,q.own,λb m=>?_,λb m x r k A=>?_⟩
     · rcases List.mem_cons.1 m with rfl | m
       · exact yx w w'
       · exact q.vs b m
     · rcases List.mem_cons.1 m with rfl | m
       · have U:k<w.heap.size:=by
           rcases List.mem_append.1 r with r | r
           · have V:=K i k (List.mem_flatMap.2 ⟨x,r,A⟩)
             obtain ⟨B,W,X⟩:=List.mem_flatMap.1 V;exact B.dY w (p.kn B (by simp [W])) k X
           · exact x.dY w (p.kn x (by simp [r])) k A
         exact r_ w w' k U
       · exact q.off b m x r k A
   · exact .inr ⟨_,O,j,O,s,p.back h⟩
 · intro a w C t
   exact S i.1 i.2 t.1.1 t.1.2 a w C t.2
 · rintro a w C ⟨j,rfl,s,t⟩
   exact N j s a w C t
end
def rv (a:aS) (w:World):View:=λb=>if b ∈ a.ids then w.heap[b]? else none
section
variable {w0 w:World} {F:List Nat} {L:List aS} {Vs:List View} {A:aS}
theorem EB (a:aS) (w:World):Le (rv a w) w:=λb o h=>by
 unfold rv at h
 split at h
 · exact h
 · cases h
theorem Ws.t_ (h:Ws w0 F L Vs w) (i:Nat) (g:L[i]? = some A):Ws w0 F (dM i L) (rv A w::Vs) w:=by
 have d:=h.perm (k' i L g);have b:Ws w0 F (dM i L) Vs w:=Ws.drop (L:=[A]) d;refine ⟨b.fr,b.kn,b.nd,b.own,λc a=>?_,λc a B e k f=>?_⟩
 · rcases List.mem_cons.1 a with rfl | a
   · exact EB A w
   · exact b.vs c a
 · rcases List.mem_cons.1 a with rfl | a
   · have nd:=d.nd
     rw [List.flatMap_cons,List.nodup_append] at nd;unfold rv;rw [if_neg];intro j;exact nd.2.2 k j k (List.mem_flatMap.2 ⟨B,e,f⟩) O
   · exact b.off c a B e k f
theorem wz {α:Type} {rd:View->Nat->Nat->α->Prop} {f:α->List Value} {k e c:Nat} {a:Option Addr} {xs:List α} (h:(cf e k f a c xs).holds w)
   (m:∀x,(f x).length=k) (q:∀n b o x,bI n b o (f x)->rd n b o x):Sl rd k (rv (cf e k f a c xs) w) a c xs:=by
 obtain ⟨G,r⟩:=(h:w.ownsRow 0 e k _ xs.length (xs.flatMap f))
 rcases r with ⟨s,H⟩ | ⟨b,cap,p,t,_,u,y,g,I,z⟩
 · injection s with l A g
   subst l g;have:xs=[]:=List.eq_nil_of_length_eq_zero (by omega);subst this;exact Sl.nil
 · injection t with l A B
   subst l B;refine ⟨y,by unfold maxLen at g; omega,by simp,λi x C=>⟨b,0,O,q _ _ _ _ λj v hv=>?_⟩⟩
   have D:j<k:=by have:=(List.getElem?_eq_some_iff.1 hv).1; rw [m] at this; exact this
   have d:(xs.flatMap f)[i*k+j]? = some v:=by rw [o2 m C D]; exact hv
   rw [<-z,List.getElem?_take] at d
   split at d
   · have E:rv (cf e k f (some ⟨b,0,none⟩) c xs) w b=some (.cells p e (0,0)):=by
       unfold rv;rw [if_pos (by simp [bY,Value.ownBlock])];exact u
     have F:vc (rv (cf e k f (some ⟨b,0,none⟩) c xs) w) b (0+i*k+j)=f_ (.cells p e (0,0)) (0+i*k+j):=by unfold vc; rw [E]; rfl
     rw [F]
     simpa [f_] using d
   · cases d
end
section
variable {P:Program} {ops:Array Oper} {cd:Code} {Q:Exit->Act->World->Prop} {n:Nat} {ds:List Deferred} {l:List (Nat×Value)} {w0:World} {F:List Nat} {L:List aS} {Vs:List View} {rest:List Oper}
theorem WC.lV {α:Type} {rd:View->Nat->Nat->α->Prop} {f:α->List Value} {k e c:Nat} {a:Option Addr} {xs:List α} (i:Nat) (g:L[i]? = some (cf e k f a c xs))
   (m:∀x,(f x).length=k) (p:∀d b o x,bI d b o (f x)->rd d b o x) (h:∀d,Sl rd k d a c xs->WC P cd Q n ds l (Ws w0 F (dM i L) (d::Vs))):WC P cd Q n ds l (Ws w0 F L Vs):=
 λq w r j=>h _ (wz (j.kn _ (ed g)) m p) q w r (j.t_ i g)
theorem e9 {b:Nat} {a:Obj} (i:Nat) (c:Obj) (d:L[i]? = some (aq b a)) (e:a=c) (h:WC P cd Q n ds l (Ws w0 F (L.set i (aq b c)) Vs)):WC P cd Q n ds l (Ws w0 F L Vs):=
 WC.tR i d (by rw [e]) h
theorem WL.lV {α:Type} {rd:View->Nat->Nat->α->Prop} {f:α->List Value} {k e c:Nat} {a:Option Addr} {xs:List α} (i:Nat) (g:L[i]? = some (cf e k f a c xs))
   (m:∀x,(f x).length=k) (p:∀d b o x,bI d b o (f x)->rd d b o x) (h:∀d,Sl rd k d a c xs->WL P ops Q n ds l (Ws w0 F (dM i L) (d::Vs)) rest):WL P ops Q n ds l (Ws w0 F L Vs) rest:=
 λq w r j=>h _ (wz (j.kn _ (ed g)) m p) q w r (j.t_ i g)
theorem WL.iV {α:Type} {rd:View->Nat->Nat->α->Prop} {f:α->List Value} {k T b m:Nat} {c:Nat×Nat} {d:Array Value} (i:Nat) (xs:List α) (e:L[i]? = some (aq b (.cells d T c))) (g:d=(xs.flatMap f).toArray)
   (j:∀x,(f x).length=k) (p:∀a b o x,bI a b o (f x)->rd a b o x) (q:xs.length<=m) (r:m<=9223372036854775807)
   (h:∀a,Sl rd k a (some ⟨b,0,none⟩) m xs->WL P ops Q n ds l (Ws w0 F (dM i L) (a::Vs)) rest):WL P ops Q n ds l (Ws w0 F L Vs) rest:=by
 subst g
 have s:bv b (.cells (xs.flatMap f).toArray T c) b=some (.cells (xs.flatMap f).toArray T c):=by simp [bv]
 exact WL.kh i e (h _ (ze (f:=f) s j p q r))
end
def wA (P:Program) (t:TypeId) (f:Nat):Option Nat:=match P.underlying t with
 | some (.struct fs)=>match fs[f]? with
   | some x=>if eG P x.type=true then some x.offset else none
   | none=>none
 | _=>none
section
variable {P:Program} {l:List (Nat×Value)} {W:World->Prop} {d:Option Tmp} {ty:TypeId} {pos:String} {af:Array Edge} {g:Option (Nat×Bool)}
theorem DI {t:TypeId} {x:Operand} {f k:Nat} {cs:Array Value} {v:Value} (a:wA P t f=some k) (h:bk l x=some (.agg cs)) (hv:cs[k]? = some v):Yl P l W ⟨d,.field t x f,ty,pos,af,g⟩ v:=by
 intro p w i _;unfold wA at a
 cases b:P.underlying t with
 | none=>simp [b] at a
 | some j=>
   cases j<;>simp [b] at a
   rename_i fs
   cases c:fs[f]? with
   | none=>simp [c] at a
   | some e=>
     simp [c] at a;obtain ⟨m,rfl⟩:=a;have n:=yz m w
     have o:(part e.type cs e.offset).run P w = .ok v w:=by simp [part,n,hv]
     simp [execOp,i x _ h,Instr.field,run_underlying b,c,asAgg,o]
end
end Go.Bw
end
