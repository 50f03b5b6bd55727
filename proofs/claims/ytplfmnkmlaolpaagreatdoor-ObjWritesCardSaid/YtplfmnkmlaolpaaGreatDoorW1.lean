/- ObjWrites: Write and Read of objects answer just what the document says, whatever they are handed. -/
import Derived.Below
import Derived.Carry
import Derived.ChangeOld
import Derived.Deep.Quiet
import Derived.Deep.Slices
import Derived.Deep.Upon
import Derived.Defers
import Derived.JoinedCond
import Derived.LaidEql
import Derived.Laws.BytesString
import Derived.Laws.DeepStrings4
import Derived.Laws.Externs
import Derived.Laws.Pointers
import Derived.Laws.Slices
import Derived.Lib.AppendStr
import Derived.Lib.AppendZeros
import Derived.Lib.AtoiAllCases
import Derived.Lib.AtoiTie
import Derived.Lib.Builder
import Derived.Lib.Bytealg
import Derived.Lib.ConvBytes
import Derived.Lib.ItoaNum
import Derived.Lib.Join
import Derived.Lib.LaidTab
import Derived.Lib.SmallJoins
import Derived.Lib.UnsafeStr
import Derived.MapKept
import Derived.OpenShut
import Derived.ProofKit
import Derived.Recover
import Derived.Sort.Grow
import Derived.WalkKit
import Derived.WalkSpells
import Derived.WideMake
set_option linter.unusedVariables false
set_option linter.unusedSimpArgs false
namespace Go
theorem O {α : Sort _} {a : α} : a = a := rfl
theorem Y {α : Sort _} {a : α} {b : Prop} : a = a ∨ b := .inl rfl
end Go
section
namespace Go.Bw
open Go Go.RowKit
def lk:List (Nat×Value)→Nat→Option Value
 | [],_=>none
 | (k,v)::r,n=>bif Nat.beq k n then some v else lk r n
structure Ag (n:Nat) (ds:List Deferred) (l:List (Nat×Value)) (a:Act):Prop where
 size:a.tmps.size=n
 defs:a.defers=ds
 vals:∀t v,lk l t=some v→a.tmps.getD t undef=v
def opv (l:List (Nat×Value)):Operand→Option Value
 | .tmp t=>lk l t
 | .const v=>some v
 | .global g=>some (.pointer (some ⟨g,0,none⟩))
 | .func f=>some (.func (.func f) #[] #[])
section
variable {n:Nat} {ds:List Deferred} {l:List (Nat×Value)} {a:Act}
theorem Ag.eval (h:Ag n ds l a) {x:Operand} {v:Value} (hx:opv l x=some v):a.eval x=v:=by
 cases x with
 | tmp t=>exact h.vals t v hx
 | const u=>simpa [opv,Act.eval] using hx
 | global g=>simpa [opv,Act.eval] using hx
 | func f=>simpa [opv,Act.eval] using hx
theorem Ag.put (h:Ag n ds l a) {d:Nat} (hd:Nat.blt d n=true) (v:Value):Ag n ds ((d,v)::l) (a.put (some d) v):=by
 have hd':d<a.tmps.size:=by rw [h.size]; exact Nat.le_of_ble_eq_true hd
 refine ⟨by simp [Act.put,h.size],h.defs,fun t u hu=>?_⟩
 simp only [lk] at hu
 by_cases e:d=t
 · subst e
   simp at hu
   subst hu
   simp [Act.put,Array.getD,hd']
 · have:Nat.beq d t=false:=by
     cases hb:Nat.beq d t with
     | false=>rfl
     | true=>exact absurd (Nat.eq_of_beq_eq_true hb) e
   rw [this] at hu
   have:=h.vals t u hu
   simp only [Act.put,Array.getD_eq_getD_getElem?] at *
   rw [Array.getElem?_setIfInBounds_ne e]
   exact this
theorem Ag.put_none (h:Ag n ds l a) (v:Value):Ag n ds l (a.put none v):=h
theorem Ag.sub (h:Ag n ds l a) {l':List (Nat×Value)} (hs:∀p ∈ l',lk l p.1=some p.2):Ag n ds l' a:=by
 refine ⟨h.size,h.defs,fun t v hv=>?_⟩
 suffices hm:(t,v) ∈ l' from h.vals t v (hs _ hm)
 induction l' with
 | nil=>cases hv
 | cons p r ih=>
   obtain ⟨k,u⟩:=p
   simp only [lk] at hv
   cases hb:Nat.beq k t with
   | true=>
     rw [hb] at hv
     have:=Nat.eq_of_beq_eq_true hb
     subst this
     simp at hv
     subst hv
     exact List.mem_cons_self
   | false=>
     rw [hb] at hv
     exact List.mem_cons_of_mem _ (ih (fun p hp=>hs p (List.mem_cons_of_mem _ hp)) hv)
end
section
variable {P:Program} {ops:Array Oper} {Q:Exit→Act→World→Prop} {n:Nat} {ds:List Deferred} {l:List (Nat×Value)} {W:World→Prop}
def WL (P:Program) (ops:Array Oper) (Q:Exit→Act→World→Prop) (n:Nat) (ds:List Deferred) (l:List (Nat×Value)) (W:World→Prop) (rest:List Oper):Prop:=
 ∀a w,Ag n ds l a→W w→wpList P ops Q rest a w
def WC (P:Program) (c:Code) (Q:Exit→Act→World→Prop) (n:Nat) (ds:List Deferred) (l:List (Nat×Value)) (W:World→Prop):Prop:=
 ∀a w,Ag n ds l a→W w→c.wp P Q a w
def WE (Q:Exit→Act→World→Prop) (e:Exit) (n:Nat) (ds:List Deferred) (l:List (Nat×Value)) (W:World→Prop):Prop:=
 ∀a w,Ag n ds l a→W w→Q e a w
def Yl (P:Program) (l:List (Nat×Value)) (W:World→Prop) (o:Oper) (v:Value):Prop:=
 ∀(ρ:Operand→Value) (w:World),(∀x u,opv l x=some u→ρ x=u)→W w→(execOp ρ o).run P w = .ok (.value v) w
theorem Ln (h:WE Q .normal n ds l W):WL P ops Q n ds l W []:=fun a w ha hw=>h a w ha hw
def GOk (ops:Array Oper) (l:List (Nat×Value)) (g:Option (Nat×Bool)):Prop:=
 g=none∨∃j b dj,g=some (j,b)∧(ops[j]?).bind (·.dst)=some dj∧lk l dj=some (.bool b)
theorem GOk.wanted {o:Oper} {a:Act} (h:GOk ops l o.guard) (ha:Ag n ds l a):Region.wanted o (yielded ops a.tmps)=true:=by
 rcases h with h | ⟨j,b,dj,hg,hj,hl⟩
 · simp [Region.wanted,h]
 · have hv:=ha.vals dj _ hl
   rw [Array.getD_eq_getD_getElem?] at hv
   cases ht:a.tmps[dj]? with
   | none=>simp [ht,undef] at hv
   | some u=>
     simp [ht] at hv
     subst hv
     simp [Region.wanted,hg,yielded,hj,ht]
theorem WL.step {rest:List Oper} {o:Oper} (hg:GOk ops l o.guard)
   (h:∀a w,Ag n ds l a→W w→∀K:Act→World→Prop,(∀a w,wpList P ops Q rest a w→K a w)→o.wp P a w K Q):WL P ops Q n ds l W (o::rest):=by
 intro a w ha hw
 refine wpList_step fun K hK=>?_
 rw [if_pos (hg.wanted ha)]
 exact h a w ha hw K hK
theorem Lv {rest:List Oper} {d:Nat} {op:Op} {ty:TypeId} {pos:String} {af:Array Edge} {v:Value} {g:Option (Nat×Bool)} (hg:GOk ops l g) (hn:Nat.blt d n=true)
   (hy:Yl P l W ⟨some d,op,ty,pos,af,g⟩ v) (h:WL P ops Q n ds ((d,v)::l) W rest):WL P ops Q n ds l W (⟨some d,op,ty,pos,af,g⟩::rest):=by
 refine WL.step hg fun a w ha hw K hK=>?_
 have:=hy a.eval w (fun x u hx=>ha.eval hx) hw
 simp only [Oper.wp,this,Oper.upon_value]
 exact hK _ _ (h _ _ (ha.put hn v) hw)
theorem V0 {rest:List Oper} {d:Nat} {op:Op} {ty:TypeId} {pos:String} {af:Array Edge} {v:Value} (hy:Yl P l W ⟨some d,op,ty,pos,af,none⟩ v) (h:WL P ops Q n ds ((d,v)::l) W rest) (hn:Nat.blt d n=true:=by rfl):WL P ops Q n ds l W (⟨some d,op,ty,pos,af,none⟩::rest):=Lv (.inl rfl) hn hy h
theorem Vg {rest:List Oper} {d:Nat} {op:Op} {ty:TypeId} {pos:String} {af:Array Edge} {v:Value} {g:Option (Nat×Bool)} (hy:Yl P l W ⟨some d,op,ty,pos,af,g⟩ v) (h:WL P ops Q n ds ((d,v)::l) W rest) (hg:GOk ops l g:=by exact .inr ⟨_,_,_,rfl,rfl,rfl⟩) (hn:Nat.blt d n=true:=by rfl):WL P ops Q n ds l W (⟨some d,op,ty,pos,af,g⟩::rest):=Lv hg hn hy h
theorem GOk.g {j:Nat} {b:Bool} {dj:Nat} {g:Option (Nat×Bool)} (h1:g=some (j,b)) (h2:(ops[j]?).bind (·.dst)=some dj) (h3:lk l dj=some (.bool b)):GOk ops l g:=.inr ⟨j,b,dj,h1,h2,h3⟩
theorem WL.skip {rest:List Oper} {d:Nat} {op:Op} {ty:TypeId} {pos:String} {af:Array Edge} {j:Nat} {b:Bool} {oj:Oper} {dj:Nat} (hn:Nat.blt d n=true)
   (hj:ops[j]? = some oj) (hdj:oj.dst=some dj) (hnj:Nat.blt dj n=true) (hb:lk l dj=some (.bool (!b)))
   (h:WL P ops Q n ds ((d,undef)::l) W rest):WL P ops Q n ds l W (⟨some d,op,ty,pos,af,some (j,b)⟩::rest):=by
 intro a w ha hw
 refine wpList_step fun K hK=>?_
 have hv:a.tmps.getD dj undef = .bool (!b):=ha.vals dj _ hb
 have hlt:dj<a.tmps.size:=by rw [ha.size]; exact Nat.le_of_ble_eq_true hnj
 have hget:a.tmps[dj]? = some (.bool (!b)):=by
   rw [Array.getD_eq_getD_getElem?,Array.getElem?_eq_getElem hlt] at hv
   rw [Array.getElem?_eq_getElem hlt]
   simpa using hv
 have hyd:yielded ops a.tmps j=some (!b):=by simp [yielded,hj,hdj,hget]
 rw [if_neg (by simp [Region.wanted,hyd])]
 exact hK _ _ (h _ _ (ha.put hn undef) hw)
theorem WL.sub {rest:List Oper} (l':List (Nat×Value)) (hs:∀p ∈ l',lk l p.1=some p.2) (h:WL P ops Q n ds l' W rest):WL P ops Q n ds l W rest:=
 fun a w ha hw=>h a w (ha.sub hs) hw
theorem WC.sub {c:Code} (l':List (Nat×Value)) (hs:∀p ∈ l',lk l p.1=some p.2) (h:WC P c Q n ds l' W):WC P c Q n ds l W:=
 fun a w ha hw=>h a w (ha.sub hs) hw
theorem WE.sub {e:Exit} (l':List (Nat×Value)) (hs:∀p ∈ l',lk l p.1=some p.2) (h:WE Q e n ds l' W):WE Q e n ds l W:=
 fun a w ha hw=>h a w (ha.sub hs) hw
theorem LW {rest:List Oper} {W':World→Prop} (hW:∀w,W w→W' w) (h:WL P ops Q n ds l W' rest):WL P ops Q n ds l W rest:=
 fun a w ha hw=>h a w ha (hW w hw)
theorem CWd {c:Code} {W':World→Prop} (hW:∀w,W w→W' w) (h:WC P c Q n ds l W'):WC P c Q n ds l W:=
 fun a w ha hw=>h a w ha (hW w hw)
theorem WE.world {e:Exit} {W':World→Prop} (hW:∀w,W w→W' w) (h:WE Q e n ds l W'):WE Q e n ds l W:=
 fun a w ha hw=>h a w ha (hW w hw)
theorem sn {l:List (Nat×Value)}:∀p ∈ ([]:List (Nat×Value)),lk l p.1=some p.2:=by simp
theorem sc {l r:List (Nat×Value)} {k:Nat} {v:Value} (h:lk l k=some v) (hr:∀p ∈ r,lk l p.1=some p.2):∀p ∈ (k,v)::r,lk l p.1=some p.2:=by
 intro p hp
 rcases List.mem_cons.1 hp with rfl | hp
 · exact h
 · exact hr p hp
theorem Cs {x y:Code} (h:WC P x (Exit.then (y.wp P Q) Q) n ds l W):WC P (.seq x y) Q n ds l W:=fun a w ha hw=>wp_seq (h a w ha hw)
theorem Ck (h:WE Q .normal n ds l W):WC P .skip Q n ds l W:=fun a w ha hw=>wp_skip (h a w ha hw)
theorem Crt (h:WE Q .ret n ds l W):WC P .ret Q n ds l W:=fun a w ha hw=>wp_ret (h a w ha hw)
theorem Ce {id:Nat} (h:WE Q (.exit id) n ds l W):WC P (.exit id) Q n ds l W:=fun a w ha hw=>wp_exit (h a w ha hw)
theorem Cb {id:Nat} {c:Code} (h:WC P c (Exit.inBlock id Q) n ds l W):WC P (.block id c) Q n ds l W:=fun a w ha hw=>wp_block (h a w ha hw)
theorem Cr {id:Nat} {o:List Oper} (h:WL P o.toArray Q n ds l W o):WC P (.region id o.toArray false) Q n ds l W:=fun a w ha hw=>wp_region_lit (h a w ha hw)
theorem Cc {c:Operand} {x y:Code} {t:Bool} (hc:opv l c=some (.bool t)) (ht:t=true→WC P x Q n ds l W) (hf:t=false→WC P y Q n ds l W):WC P (.cond c x y) Q n ds l W:=
 fun a w ha hw=>wp_cond_split (ha.eval hc) (fun h=>ht h a w ha hw) (fun h=>hf h a w ha hw)
theorem WC.condt {c:Operand} {x y:Code} (hc:opv l c=some (.bool true)) (h:WC P x Q n ds l W):WC P (.cond c x y) Q n ds l W:=
 fun a w ha hw=>wp_cond_true (ha.eval hc) (h a w ha hw)
theorem WC.condf {c:Operand} {x y:Code} (hc:opv l c=some (.bool false)) (h:WC P y Q n ds l W):WC P (.cond c x y) Q n ds l W:=
 fun a w ha hw=>wp_cond_false (ha.eval hc) (h a w ha hw)
theorem Et {y:Code} {Q':Exit→Act→World→Prop} (h:WC P y Q n ds l W):WE (Exit.then (y.wp P Q) Q') .normal n ds l W:=fun a w ha hw=>h a w ha hw
theorem Er {K:Act→World→Prop} (h:WE Q .ret n ds l W):WE (Exit.then K Q) .ret n ds l W:=h
theorem Ex {K:Act→World→Prop} {id:Nat} (h:WE Q (.exit id) n ds l W):WE (Exit.then K Q) (.exit id) n ds l W:=h
theorem Eb {id:Nat} (h:WE Q .normal n ds l W):WE (Exit.inBlock id Q) .normal n ds l W:=h
theorem Ebr {id:Nat} (h:WE Q .ret n ds l W):WE (Exit.inBlock id Q) .ret n ds l W:=h
theorem Ebh {id:Nat} (h:WE Q .normal n ds l W):WE (Exit.inBlock id Q) (.exit id) n ds l W:=fun a w ha hw=>by
 simp only [Exit.inBlock,if_true]; exact h a w ha hw
theorem Ebm {id id':Nat} (hne:Nat.beq id' id=false) (h:WE Q (.exit id') n ds l W):WE (Exit.inBlock id Q) (.exit id') n ds l W:=fun a w ha hw=>by
 have:id'≠id:=fun e=>by subst e; rw [Nat.beq_refl] at hne; cases hne
 simp only [Exit.inBlock,if_neg this]; exact h a w ha hw
def env0:Nat→List Value→List (Nat×Value)
 | _,[]=>[]
 | i,v::r=>(i,v)::env0 (i+1) r
theorem lk_env0 (vs:List Value):∀(i t:Nat) (v:Value),lk (env0 i vs) t=some v→i≤t∧vs[t-i]? = some v:=by
 induction vs with
 | nil=>intro i t v h; cases h
 | cons x r ih=>
   intro i t v h
   simp only [env0,lk] at h
   cases hb:Nat.beq i t with
   | true=>
     rw [hb] at h
     have:=Nat.eq_of_beq_eq_true hb
     subst this
     simp at h
     simp [h]
   | false=>
     rw [hb] at h
     obtain ⟨h1,h2⟩:=ih (i+1) t v h
     refine ⟨by omega,?_⟩
     have:t-i=(t-(i+1))+1:=by omega
     rw [this]
     simpa using h2
theorem enter {f:FuncId} {fn:Func} {c:Code} {vs:List Value} {w:World} {R:Ending→World→Prop} (hf:P.funcs[f]? = some fn) (hb:fn.body=some c)
   (m:Nat) (hm:fn.ntmps=m) (hle:Nat.ble vs.length m=true) (h:WC P c (bodyPost P fn R) m [] (env0 0 vs) (fun w'=>w'=w)):Calls P f vs.toArray w R:=by
 refine calls_of_wp hf hb (h _ _ ?_ O)
 have hle':=Nat.le_of_ble_eq_true hle
 subst hm
 refine ⟨by simp; omega,O,fun t v hv=>?_⟩
 obtain ⟨_,h2⟩:=lk_env0 vs 0 t v hv
 simp only [Nat.sub_zero] at h2
 have hlt:t<vs.length:=by
   rcases Nat.lt_or_ge t vs.length with h | h
   · exact h
   · simp [List.getElem?_eq_none h] at h2
 simp [Array.getD_eq_getD_getElem?,Array.getElem?_append,hlt]
 simp [List.getElem?_eq_getElem hlt] at h2
 exact h2
theorem WE.ret0 {fn:Func} {R:Ending→World→Prop} (hr:fn.results = #[]) (h:∀w,W w→R (.returned (.tuple #[])) w):WE (bodyPost P fn R) .ret n [] l W:=
 fun a w ha hw=>bodyPost_ret (results_none hr _ _ _) ha.defs (h w hw)
theorem E0 {fn:Func} {R:Ending→World→Prop} (hr:fn.results = #[]) (h:∀w,W w→R (.returned (.tuple #[])) w):WE (bodyPost P fn R) .normal n [] l W:=
 fun a w ha hw=>bodyPost_end (results_none hr _ _ _) ha.defs (h w hw)
theorem R1 {fn:Func} {R:Ending→World→Prop} {t:Nat} {v:Value} (hr:fn.results = #[.tmp t]) (ht:lk l t=some v) (h:∀w,W w→R (.returned v) w):WE (bodyPost P fn R) .ret n [] l W:=
 fun a w ha hw=>bodyPost_ret (results_tmp hr _ _ _) ha.defs (by rw [ha.vals t v ht]; exact h w hw)
theorem WE.ret2 {fn:Func} {R:Ending→World→Prop} {t u:Nat} {v x:Value} (hr:fn.results = #[.tmp t,.tmp u]) (ht:lk l t=some v) (hu:lk l u=some x) (h:∀w,W w→R (.returned (.tuple #[v,x])) w):WE (bodyPost P fn R) .ret n [] l W:=
 fun a w ha hw=>bodyPost_ret (results_tmp2 hr _ _ _) ha.defs (by rw [ha.vals t v ht,ha.vals u x hu]; exact h w hw)
theorem Epp {fn:Func} {R:Ending→World→Prop} {ch:List PanicEntry} (h:∀w,W w→R (.panicked ch) w):WE (bodyPost P fn R) (.panic ch) n [] l W:=
 fun a w ha hw=>⟨ha.defs,h w hw⟩
theorem Ep {K:Act→World→Prop} {ch:List PanicEntry} (h:WE Q (.panic ch) n ds l W):WE (Exit.then K Q) (.panic ch) n ds l W:=h
theorem WE.block_panic {id:Nat} {ch:List PanicEntry} (h:WE Q (.panic ch) n ds l W):WE (Exit.inBlock id Q) (.panic ch) n ds l W:=h
theorem least_of {p:Nat→Prop}:∀m,p m→∃k,p k∧∀j,p j→k≤j:=by
 intro m
 induction m using Nat.strongRecOn with
 | _ m ih=>
   intro hm
   by_cases h:∃j,j<m∧p j
   · obtain ⟨j,hj,hp⟩:=h
     exact ih j hj hp
   · exact ⟨m,hm,fun j hp=>Nat.le_of_not_lt fun hlt=>h ⟨j,hlt,hp⟩⟩
theorem wp_loop_ghost {ι:Type} {c:Code} {a:Act} {w:World} (I:ι→Act→World→Prop) (μ:ι→Nat) (i0:ι) (h0:I i0 a w)
   (round:∀i a w,I i a w→c.wp P (Exit.then (fun a' w'=>∃j,μ j<μ i∧I j a' w') Q) a w):(Code.loop c).wp P Q a w:=by
 classical
 let J:Act→World→Prop:=fun a w=>∃i,I i a w
 have ex:∀a w,J a w→∃k,(∃i,I i a w∧μ i=k)∧∀j,(∃i,I i a w∧μ i=j)→k≤j:=by
   rintro a w ⟨i,hi⟩
   exact least_of (μ i) ⟨i,hi,O⟩
 let M:Act→World→Nat:=fun a w=>if h:J a w then Classical.choose (ex a w h) else 0
 have hM:∀a w,J a w→∃i,I i a w∧μ i=M a w:=by
   intro a w h
   have:=(Classical.choose_spec (ex a w h)).1
   simp only [M,dif_pos h]
   exact this
 have hle:∀a w i,I i a w→M a w≤μ i:=by
   intro a w i hi
   have h:J a w:=⟨i,hi⟩
   simp only [M,dif_pos h]
   exact (Classical.choose_spec (ex a w h)).2 _ ⟨i,hi,O⟩
 refine wp_loop J M ⟨i0,h0⟩ fun a w hJ=>?_
 obtain ⟨i,hi,hmi⟩:=hM a w hJ
 refine wp_mono (round i a w hi) fun e a' w' hq=>?_
 cases e with
 | normal=>
   obtain ⟨j,hj,hI⟩:=hq
   exact ⟨⟨j,hI⟩,by have:=hle a' w' j hI; omega⟩
 | _=>exact hq
theorem WC.loop {ι:Type} {c:Code} (E:ι→List (Nat×Value)) (Wi:ι→World→Prop) (R:ι→Prop) (μ:ι→Nat) (i0:ι) (hR:R i0) (hE:∀p ∈ E i0,lk l p.1=some p.2) (hW:∀w,W w→Wi i0 w)
   (round:∀i,R i→WC P c (Exit.then (fun a' w'=>∃j,μ j<μ i∧R j∧Ag n ds (E j) a'∧Wi j w') Q) n ds (E i) (Wi i)):WC P (.loop c) Q n ds l W:=by
 intro a w ha hw
 refine wp_loop_ghost (fun i a w=>R i∧Ag n ds (E i) a∧Wi i w) μ i0 ⟨hR,ha.sub hE,hW w hw⟩ fun i a w hI=>?_
 exact round i hI.1 a w hI.2.1 hI.2.2
theorem Ea {ι:Type} {E:ι→List (Nat×Value)} {Wi:ι→World→Prop} {R:ι→Prop} {μ:ι→Nat} {i:ι} (j:ι) (hμ:μ j<μ i) (hR:R j) (hE:∀p ∈ E j,lk l p.1=some p.2) (hW:∀w,W w→Wi j w) :
   WE (Exit.then (fun a' w'=>∃j,μ j<μ i∧R j∧Ag n ds (E j) a'∧Wi j w') Q) .normal n ds l W:=fun a w ha hw=>⟨j,hμ,hR,ha.sub hE,hW w hw⟩
end
end Go.Bw
end
section
namespace Go.Bw
open Go Go.RowKit
abbrev View:=Nat→Option Obj
def Le (H:View) (w:World):Prop:=∀b o,H b=some o→w.heap[b]? = some o
def VLe (H H':View):Prop:=∀b o,H b=some o→H' b=some o
theorem VLe.refl (H:View):VLe H H:=fun _ _ h=>h
theorem VLe.trans {A B C:View} (h:VLe A B) (k:VLe B C):VLe A C:=fun b o x=>k b o (h b o x)
def Fresh (w:World) (H:View):Prop:=∀b,b<w.heap.size→H b=none
def nv (w0 w:World):View:=fun b=>if w0.heap.size≤b then w.heap[b]? else none
theorem nv_le (w0 w:World):Le (nv w0 w) w:=fun b o h=>by unfold nv at h; split at h; exact h; cases h
theorem nv_fresh (w0 w:World):Fresh w0 (nv w0 w):=fun b h=>by unfold nv; rw [if_neg (by omega)]
theorem nv_of {w0 w:World} {H:View} (hl:Le H w) (hf:Fresh w0 H):VLe H (nv w0 w):=fun b o h=>by
 unfold nv
 rw [if_pos,hl b o h]
 rcases Nat.lt_or_ge b w0.heap.size with hb | hb
 · rw [hf b hb] at h; cases h
 · exact hb
theorem Fresh.mono {w w':World} {H:View} (h:Fresh w' H) (hs:w.heap.size≤w'.heap.size):Fresh w H:=fun b hb=>h b (by omega)
structure Fr (F:List Nat) (w0 w:World):Prop where
 os:w.os=w0.os
 tape:w.tape=w0.tape
 output:w.output=w0.output
 size:w0.heap.size≤w.heap.size
 block:∀k,k<w0.heap.size→k ∉ F→w.heap[k]? = w0.heap[k]?
abbrev Ext (w w':World):Prop:=Fr [] w w'
theorem Fr.refl (F:List Nat) (w:World):Fr F w w:=⟨rfl,rfl,rfl,Nat.le_refl _,fun _ _ _=>rfl⟩
theorem Fr.trans {F G:List Nat} {a b c:World} (h:Fr F a b) (k:Fr G b c) (hG:∀x ∈ G,x ∈ F∨a.heap.size≤x):Fr F a c:=
 ⟨k.os.trans h.os,k.tape.trans h.tape,k.output.trans h.output,Nat.le_trans h.size k.size,fun i hi hF=>
   (k.block i (Nat.lt_of_lt_of_le hi h.size) fun hg=>by rcases hG i hg with h' | h'; exact hF h'; omega).trans (h.block i hi hF)⟩
theorem Ext.trans {a b c:World} (h:Ext a b) (k:Ext b c):Ext a c:=Fr.trans h k (by simp)
theorem Ext.below {w w':World} (h:Ext w w'):Below w.heap.size w w':=⟨h.os,h.tape,h.output,h.size,fun k hk=>h.block k hk (by simp)⟩
theorem Ext.of_below {w w':World} (h:Below w.heap.size w w'):Ext w w':=⟨h.os,h.tape,h.output,h.size,fun k hk _=>h.block k hk⟩
theorem Ext.drew (w:World):Ext w w.drew:=⟨rfl,rfl,rfl,Nat.le_refl _,fun _ _ _=>rfl⟩
theorem Ext.alloc (w:World) (o:Obj):Ext w (w.alloc o):=⟨rfl,rfl,rfl,by simp,fun k hk _=>Below.heap_alloc _ _ _ hk⟩
theorem lt_of_heap {w:World} {b:Nat} {o:Obj} (h:w.heap[b]? = some o):b<w.heap.size:=by
 rcases Nat.lt_or_ge b w.heap.size with hb | hb
 · exact hb
 · rw [Array.getElem?_eq_none hb] at h; cases h
theorem Le.ext {H:View} {w w':World} (h:Le H w) (e:Ext w w'):Le H w':=fun b o x=>(e.block b (lt_of_heap (h b o x)) (by simp)).trans (h b o x)
structure Asr where
 ids:List Nat
 holds:World→Prop
 loc:∀w w',(∀k ∈ ids,w'.heap[k]? = w.heap[k]?)→holds w→holds w'
 pres:∀w,holds w→∀k ∈ ids,k<w.heap.size
def blk (b:Nat) (o:Obj):Asr:=⟨[b],fun w=>w.heap[b]? = some o,fun w w' h hw=>(h b (by simp)).trans hw,fun w hw k hk=>by simp at hk; subst hk; exact lt_of_heap hw⟩
structure Ws (w0:World) (F:List Nat) (L:List Asr) (Vs:List View) (w:World):Prop where
 fr:Fr F w0 w
 kn:∀A ∈ L,A.holds w
 nd:(L.flatMap Asr.ids).Nodup
 own:∀A ∈ L,∀k ∈ A.ids,k ∈ F∨w0.heap.size≤k
 vs:∀H ∈ Vs,Le H w
 off:∀H ∈ Vs,∀A ∈ L,∀k ∈ A.ids,H k=none
section
variable {w0 w w':World} {F:List Nat} {L L' L2:List Asr} {Vs:List View}
theorem Ws.init (hV:∀H ∈ Vs,Le H w):Ws w [] [] Vs w:=⟨Fr.refl _ _,by simp,by simp,by simp,hV,by simp⟩
theorem CE {P:Program} {Q:Exit→Act→World→Prop} {n:Nat} {ds:List Deferred} {l:List (Nat×Value)} {c:Code} {w0 w:World} {F:List Nat} {L:List Asr} {Vs:List View} (hw:Ws w0 F L Vs w) (h:WC P c Q n ds l (Ws w0 F L Vs)):WC P c Q n ds l (fun w'=>w'=w):=
 CWd (fun _ e=>by subst e; exact hw) h
theorem Ws.turn (h:Ws w0 F (L++L2) Vs w) (hf:Fr (L.flatMap Asr.ids) w w') (hk:∀A ∈ L',A.holds w')
   (hn:(L'.flatMap Asr.ids).Nodup) (hi:∀A ∈ L',∀k ∈ A.ids,k ∈ L.flatMap Asr.ids∨w.heap.size≤k):Ws w0 F (L'++L2) Vs w':=by
 have nd:=h.nd
 rw [List.flatMap_append,List.nodup_append] at nd
 have same:∀A ∈ L2,∀k ∈ A.ids,w'.heap[k]? = w.heap[k]?:=fun A hA k hk=>
   hf.block k (A.pres w (h.kn A (by simp [hA])) k hk) fun hm=>nd.2.2 k hm k (List.mem_flatMap.2 ⟨A,hA,hk⟩) rfl
 refine ⟨?_,?_,?_,?_,?_,?_⟩
 · refine h.fr.trans hf fun x hx=>?_
   obtain ⟨A,hA,hxA⟩:=List.mem_flatMap.1 hx
   exact h.own A (by simp [hA]) x hxA
 · intro A hA
   rcases List.mem_append.1 hA with hA | hA
   · exact hk A hA
   · exact A.loc w w' (same A hA) (h.kn A (by simp [hA]))
 · rw [List.flatMap_append,List.nodup_append]
   refine ⟨hn,nd.2.1,fun x hx y hy e=>?_⟩
   subst e
   obtain ⟨A,hA,hxA⟩:=List.mem_flatMap.1 hx
   obtain ⟨B,hB,hxB⟩:=List.mem_flatMap.1 hy
   rcases hi A hA x hxA with h1 | h1
   · exact nd.2.2 x h1 x hy O
   · have:=B.pres w (h.kn B (by simp [hB])) x hxB
     omega
 · intro A hA k hkA
   rcases List.mem_append.1 hA with hA | hA
   · rcases hi A hA k hkA with h1 | h1
     · obtain ⟨B,hB,hxB⟩:=List.mem_flatMap.1 h1
       exact h.own B (by simp [hB]) k hxB
     · exact .inr (Nat.le_trans h.fr.size h1)
   · exact h.own A (by simp [hA]) k hkA
 · intro H hH b o hb
   rw [hf.block b (lt_of_heap (h.vs H hH b o hb))]
   · exact h.vs H hH b o hb
   · intro hm
     obtain ⟨A,hA,hxA⟩:=List.mem_flatMap.1 hm
     have:=h.off H hH A (by simp [hA]) b hxA
     rw [this] at hb; cases hb
 · intro H hH A hA k hkA
   rcases List.mem_append.1 hA with hA | hA
   · rcases hi A hA k hkA with h1 | h1
     · obtain ⟨B,hB,hxB⟩:=List.mem_flatMap.1 h1
       exact h.off H hH B (by simp [hB]) k hxB
     · cases hb:H k with
       | none=>rfl
       | some o=>have:=lt_of_heap (h.vs H hH k o hb); omega
   · exact h.off H hH A (by simp [hA]) k hkA
theorem Ws.ext (h:Ws w0 F L Vs w) (e:Ext w w'):Ws w0 F L Vs w':=by
 have:=Ws.turn (L:=[]) (L':=[]) (L2:=L) (by simpa using h) (by simpa using e) (by simp) (by simp) (by simp)
 simpa using this
theorem Ws.alloc (h:Ws w0 F L Vs w) (o:Obj):Ws w0 F (blk w.heap.size o::L) Vs (w.alloc o):=by
 have:=Ws.turn (L:=[]) (L':=[blk w.heap.size o]) (L2:=L) (by simpa using h) (by simpa using Ext.alloc w o)
   (by intro A hA; simp at hA; subst hA; show (w.heap.push o)[w.heap.size]? = some o; simp) (by simp [blk]) (by simp [blk])
 simpa using this
theorem Ws.view (h:Ws w0 F L Vs w) (e:Ext w w') {H:View} (hl:Le H w') (hf:Fresh w H):Ws w0 F L (H::Vs) w':=by
 have g:=h.ext e
 refine ⟨g.fr,g.kn,g.nd,g.own,?_,?_⟩
 · intro V hV
   rcases List.mem_cons.1 hV with rfl | hV
   · exact hl
   · exact g.vs V hV
 · intro V hV A hA k hk
   rcases List.mem_cons.1 hV with rfl | hV
   · exact hf k (A.pres w (h.kn A hA) k hk)
   · exact g.off V hV A hA k hk
theorem Ws.perm (h:Ws w0 F L Vs w) (hp:L.Perm L'):Ws w0 F L' Vs w:=
 ⟨h.fr,fun A hA=>h.kn A (hp.mem_iff.2 hA),(List.Perm.flatMap_right _ hp).nodup_iff.1 h.nd,fun A hA=>h.own A (hp.mem_iff.2 hA),h.vs,fun H hH A hA=>h.off H hH A (hp.mem_iff.2 hA)⟩
theorem Ws.drop (h:Ws w0 F (L++L') Vs w):Ws w0 F L' Vs w:=by
 have nd:=h.nd
 rw [List.flatMap_append,List.nodup_append] at nd
 exact ⟨h.fr,fun A hA=>h.kn A (by simp [hA]),nd.2.1,fun A hA=>h.own A (by simp [hA]),h.vs,fun H hH A hA=>h.off H hH A (by simp [hA])⟩
theorem Ws.drops (h:Ws w0 F L Vs w) {Vs':List View} (hs:∀H ∈ Vs',H ∈ Vs):Ws w0 F L Vs' w:=
 ⟨h.fr,h.kn,h.nd,h.own,fun H hH=>h.vs H (hs H hH),fun H hH=>h.off H (hs H hH)⟩
end
def outOf {α:Type}:Nat→List α→List α
 | _,[]=>[]
 | 0,_::r=>r
 | i+1,x::r=>x::outOf i r
theorem outOf_perm {α:Type} {x:α}:∀(i:Nat) (l:List α),l[i]? = some x→l.Perm (x::outOf i l)
 | _,[],h=>by cases h
 | 0,y::r,h=>by simp at h; subst h; exact List.Perm.refl _
 | i+1,y::r,h=>by
   have:=outOf_perm i r (by simpa using h)
   exact (List.Perm.cons y this).trans (List.Perm.swap _ _ _)
theorem set_perm {α:Type} {x y:α}:∀(i:Nat) (l:List α),l[i]? = some x→(y::outOf i l).Perm (l.set i y)
 | _,[],h=>by cases h
 | 0,z::r,_=>by simp [outOf]
 | i+1,z::r,h=>by
   have:=set_perm (y:=y) i r (by simpa using h)
   exact (List.Perm.swap _ _ _).trans (List.Perm.cons z this)
theorem Ws.turn1 {w0 w w':World} {F:List Nat} {L:List Asr} {Vs:List View} (h:Ws w0 F L Vs w) (i:Nat) {A B:Asr} (hi:L[i]? = some A) (hf:Fr A.ids w w') (hk:B.holds w')
   (hn:B.ids.Nodup) (hids:∀k ∈ B.ids,k ∈ A.ids∨w.heap.size≤k):Ws w0 F (L.set i B) Vs w':=by
 have h1:=h.perm (outOf_perm i L hi)
 have h2:=Ws.turn (L:=[A]) (L':=[B]) (L2:=outOf i L) (by simpa using h1) (by simpa using hf) (by simpa using hk) (by simpa using hn) (by simpa using hids)
 exact Ws.perm (by simpa using h2) (set_perm i L hi)
theorem mem_of_idx {α:Type} {l:List α} {i:Nat} {x:α} (h:l[i]? = some x):x ∈ l:=List.mem_of_getElem? h
end Go.Bw
end
section
namespace Go.Bw
open Go Go.RowKit
def nonAgg (P:Program) (t:TypeId):Bool:=match P.underlying t with | some (.struct _) | some (.array _ _) | none=>false | _=>true
def aggOf (P:Program) (t:TypeId):Option Nat:=match P.underlying t with | some (.struct _) | some (.array _ _)=>(P.info? t).map (·.size) | _=>none
def fieldOff (P:Program) (t:TypeId) (f:Nat):Option Nat:=match P.underlying t with
 | some (.struct fs)=>match fs[f]? with
   | some x=>match P.info? x.type with
     | some i=>if i.size=0 then none else some x.offset
     | none=>none
   | none=>none
 | _=>none
def elemSz (P:Program) (t:TypeId):Option Nat:=match P.underlying t with | some (.slice e)=>(P.info? e).map (·.size) | _=>none
section
variable {P:Program} {w:World}
theorem run_isAgg_non {t:TypeId} (h:nonAgg P t=true) (w:World):(isAgg t).run P w = .ok false w:=by
 unfold nonAgg at h
 cases hu:P.underlying t with
 | none=>simp [hu] at h
 | some d=>cases d<;>simp_all [isAgg,run_underlying hu]
theorem run_isAgg_agg {t:TypeId} {k:Nat} (h:aggOf P t=some k) (w:World):(isAgg t).run P w = .ok true w∧(sizeOf t).run P w = .ok k w:=by
 unfold aggOf at h
 cases hu:P.underlying t with
 | none=>simp [hu] at h
 | some d=>
   cases hi:P.info? t with
   | none=>cases d<;>simp_all
   | some i=>cases d<;>simp_all [isAgg,run_underlying hu,sizeOf,typeInfo]
def cellIn (o:Obj) (k:Nat):Option Value:=match o with | .cells c _ _=>c.toList[k]? | _=>none
def vc (H:View) (b k:Nat):Option Value:=(H b).bind (cellIn · k)
theorem cell_of_heap {b k:Nat} {o:Obj} {v:Value} (h:w.heap[b]? = some o) (hc:cellIn o k=some v):w.cell? ⟨b,k,none⟩=some v:=by
 cases o<;>simp_all [cellIn,World.cell?]
theorem Le.cell {H:View} (h:Le H w) {b k:Nat} {v:Value} (hc:vc H b k=some v):w.cell? ⟨b,k,none⟩=some v:=by
 unfold vc at hc
 cases hb:H b with
 | none=>simp [hb] at hc
 | some o=>simp [hb] at hc; exact cell_of_heap (h b o hb) hc
theorem VLe.cell {H H':View} (h:VLe H H') {b k:Nat} {v:Value} (hc:vc H b k=some v):vc H' b k=some v:=by
 unfold vc at *
 cases hb:H b with
 | none=>simp [hb] at hc
 | some o=>simp [hb] at hc; simp [h b o hb,hc]
theorem add_none (b o k:Nat):(⟨b,o,none⟩:Addr).add k=⟨b,o+k,none⟩:=by unfold Addr.add; split<;>simp_all
theorem run_loadVar_one {t:TypeId} (ht:nonAgg P t=true) {b k:Nat} {v:Value} (hc:w.cell? ⟨b,k,none⟩=some v):(loadVar t ⟨b,k,none⟩).run P w = .ok v w:=by
 simp [loadVar,run_isAgg_non ht,hc]
theorem run_loadVar_agg {t:TypeId} {n:Nat} (ht:aggOf P t=some n) {b k:Nat} {cs:List Value} (hl:cs.length=n) (hc:∀j v,cs[j]? = some v→w.cell? ⟨b,k+j,none⟩=some v) :
   (loadVar t ⟨b,k,none⟩).run P w = .ok (.agg cs.toArray) w:=by
 obtain ⟨h1,h2⟩:=run_isAgg_agg ht w
 have:=run_loadCells_list (P:=P) w ⟨b,k,none⟩ cs (fun j v h=>by rw [add_none]; exact hc j v h)
 rw [hl] at this
 simp [loadVar,h1,h2,this]
end
def st (l:List UInt8):Value:=.string ⟨l.toArray⟩
section
variable {P:Program} {l:List (Nat×Value)} {W:World→Prop} {w0:World} {F:List Nat} {L:List Asr} {Vs:List View}
 {d:Option Tmp} {ty:TypeId} {pos:String} {af:Array Edge} {g:Option (Nat×Bool)}
theorem Ym {x:Operand} {v:Value} (hx:opv l x=some v):Yl P l W ⟨d,.move x,ty,pos,af,g⟩ v:=fun ρ w hρ _=>by simp [execOp,hρ x v hx]
theorem Ya {x:Operand} {v:Value} (hx:opv l x=some v):Yl P l W ⟨d,.assign x,ty,pos,af,g⟩ v:=fun ρ w hρ _=>by simp [execOp,hρ x v hx]
theorem yl_eq {t u:TypeId} {x y:Operand} {k:IntKind} {a b:Int} (hx:opv l x=some (.int k a)) (hy:opv l y=some (.int k b)):Yl P l W ⟨d,.binOp .eql t x y u,ty,pos,af,g⟩ (.bool (a==b)):=
 fun ρ w hρ _=>by simp [execOp,hρ x _ hx,hρ y _ hy,eqGuard,binOp,Op.intCmp]
theorem yl_ne {t u:TypeId} {x y:Operand} {k:IntKind} {a b:Int} (hx:opv l x=some (.int k a)) (hy:opv l y=some (.int k b)):Yl P l W ⟨d,.binOp .neq t x y u,ty,pos,af,g⟩ (.bool (a != b)):=
 fun ρ w hρ _=>by simp [execOp,hρ x _ hx,hρ y _ hy,eqGuard,binOp,Op.intCmp]
theorem yl_lt {t u:TypeId} {x y:Operand} {k:IntKind} {a b:Int} (hx:opv l x=some (.int k a)) (hy:opv l y=some (.int k b)):Yl P l W ⟨d,.binOp .lss t x y u,ty,pos,af,g⟩ (.bool (decide (a<b))):=
 fun ρ w hρ _=>by simp [execOp,hρ x _ hx,hρ y _ hy,eqGuard,binOp,Op.intCmp]
theorem yl_le {t u:TypeId} {x y:Operand} {k:IntKind} {a b:Int} (hx:opv l x=some (.int k a)) (hy:opv l y=some (.int k b)):Yl P l W ⟨d,.binOp .leq t x y u,ty,pos,af,g⟩ (.bool (decide (a≤b))):=
 fun ρ w hρ _=>by simp [execOp,hρ x _ hx,hρ y _ hy,eqGuard,binOp,Op.intCmp]
theorem yl_gt {t u:TypeId} {x y:Operand} {k:IntKind} {a b:Int} (hx:opv l x=some (.int k a)) (hy:opv l y=some (.int k b)):Yl P l W ⟨d,.binOp .gtr t x y u,ty,pos,af,g⟩ (.bool (decide (b<a))):=
 fun ρ w hρ _=>by simp [execOp,hρ x _ hx,hρ y _ hy,eqGuard,binOp,Op.intCmp]
theorem yl_ge {t u:TypeId} {x y:Operand} {k:IntKind} {a b:Int} (hx:opv l x=some (.int k a)) (hy:opv l y=some (.int k b)):Yl P l W ⟨d,.binOp .geq t x y u,ty,pos,af,g⟩ (.bool (decide (b≤a))):=
 fun ρ w hρ _=>by simp [execOp,hρ x _ hx,hρ y _ hy,eqGuard,binOp,Op.intCmp]
theorem yl_addw {t u:TypeId} {x y:Operand} {k:IntKind} {a b:Int} (hx:opv l x=some (.int k a)) (hy:opv l y=some (.int k b)):Yl P l W ⟨d,.binOp .add t x y u,ty,pos,af,g⟩ (.int k (k.wrap (a+b))):=
 fun ρ w hρ _=>by simp [execOp,hρ x _ hx,hρ y _ hy,eqGuard,binOp,Op.intArith]
theorem yl_subw {t u:TypeId} {x y:Operand} {k:IntKind} {a b:Int} (hx:opv l x=some (.int k a)) (hy:opv l y=some (.int k b)):Yl P l W ⟨d,.binOp .sub t x y u,ty,pos,af,g⟩ (.int k (k.wrap (a-b))):=
 fun ρ w hρ _=>by simp [execOp,hρ x _ hx,hρ y _ hy,eqGuard,binOp,Op.intArith]
theorem wrap_in {n:Int} (h : -9223372036854775808≤n∧n≤9223372036854775807):IntKind.i64.wrap n=n:=by rw [IntKind.wrap_i64]; omega
theorem yl_add {t u:TypeId} {x y:Operand} {a b:Int} (hx:opv l x=some (.int .i64 a)) (hy:opv l y=some (.int .i64 b)) (hb : -9223372036854775808≤a+b∧a+b≤9223372036854775807):Yl P l W ⟨d,.binOp .add t x y u,ty,pos,af,g⟩ (.int .i64 (a+b)):=by
 have:=yl_addw (P:=P) (W:=W) (d:=d) (t:=t) (u:=u) (ty:=ty) (pos:=pos) (af:=af) (g:=g) hx hy
 rwa [wrap_in hb] at this
theorem yl_sub {t u:TypeId} {x y:Operand} {a b:Int} (hx:opv l x=some (.int .i64 a)) (hy:opv l y=some (.int .i64 b)) (hb : -9223372036854775808≤a-b∧a-b≤9223372036854775807):Yl P l W ⟨d,.binOp .sub t x y u,ty,pos,af,g⟩ (.int .i64 (a-b)):=by
 have:=yl_subw (P:=P) (W:=W) (d:=d) (t:=t) (u:=u) (ty:=ty) (pos:=pos) (af:=af) (g:=g) hx hy
 rwa [wrap_in hb] at this
theorem Yi {t u:TypeId} {x y:Operand} {a:Nat} {b:Int} (hx:opv l x=some (.int .i64 (a:Int))) (hy:opv l y=some (.int .i64 b)) (h1:b=1) (hb:(a:Int)<9223372036854775807):Yl P l W ⟨d,.binOp .add t x y u,ty,pos,af,g⟩ (.int .i64 ((a+1:Nat):Int)):=by
 subst h1
 have:=yl_add (P:=P) (W:=W) (d:=d) (t:=t) (u:=u) (ty:=ty) (pos:=pos) (af:=af) (g:=g) hx hy (by omega)
 simpa using this
theorem yl_eqs {t u:TypeId} {x y:Operand} {a b:List UInt8} (hx:opv l x=some (st a)) (hy:opv l y=some (st b)):Yl P l W ⟨d,.binOp .eql t x y u,ty,pos,af,g⟩ (.bool (a==b)):=
 fun ρ w hρ _=>by simp [execOp,hρ x _ hx,hρ y _ hy,st,eqGuard,binOp,Op.stringOp]
theorem yl_nes {t u:TypeId} {x y:Operand} {a b:List UInt8} (hx:opv l x=some (st a)) (hy:opv l y=some (st b)):Yl P l W ⟨d,.binOp .neq t x y u,ty,pos,af,g⟩ (.bool (!(a==b))):=
 fun ρ w hρ _=>by simp [execOp,hρ x _ hx,hρ y _ hy,st,eqGuard,binOp,Op.stringOp]
theorem yl_cats {t u:TypeId} {x y:Operand} {a b:List UInt8} (hx:opv l x=some (st a)) (hy:opv l y=some (st b)) (h:a.length+b.length≤9223372036854775807):Yl P l W ⟨d,.binOp .add t x y u,ty,pos,af,g⟩ (st (a++b)):=by
 intro ρ w hρ _
 have e:(Op.stringOp .add ⟨a.toArray⟩ ⟨b.toArray⟩).run P w = .ok (st (a++b)) w:=by
   rw [run_string_add_sum w _ _ (by show a.toArray.size+b.toArray.size≤_; simpa using h)]
   simp [st]
   rfl
 simp [execOp,hρ x _ hx,hρ y _ hy,st,eqGuard,binOp,e]
theorem yl_not {t:TypeId} {x:Operand} {b:Bool} (hx:opv l x=some (.bool b)):Yl P l W ⟨d,.unOp .not t x,ty,pos,af,g⟩ (.bool (!b)):=
 fun ρ w hρ _=>by simp [execOp,hρ x _ hx,Op.unary]
theorem yl_nil {x:Operand} {p:Addr} (hx:opv l x=some (.pointer (some p))):Yl P l W ⟨d,.nilCheck x,ty,pos,af,g⟩ (.pointer (some p)):=
 fun ρ w hρ _=>by simp [execOp,hρ x _ hx]
theorem Yx {x:Operand} {vs:Array Value} {i:Nat} {v:Value} (hx:opv l x=some (.tuple vs)) (hi:vs[i]? = some v):Yl P l W ⟨d,.extract x i,ty,pos,af,g⟩ v:=
 fun ρ w hρ _=>by simp [execOp,hρ x _ hx,Instr.extract,hi]
theorem Yf {t:TypeId} {x:Operand} {f o b k:Nat} (ho:fieldOff P t f=some k) (hx:opv l x=some (.pointer (some ⟨b,o,none⟩))):Yl P l W ⟨d,.fieldAddr t x f,ty,pos,af,g⟩ (.pointer (some ⟨b,o+k,none⟩)):=by
 intro ρ w hρ _
 unfold fieldOff at ho
 cases hu:P.underlying t with
 | none=>simp [hu] at ho
 | some dd=>
   cases dd<;>simp [hu] at ho
   rename_i fs
   cases hf:fs[f]? with
   | none=>simp [hf] at ho
   | some fd=>
     simp [hf] at ho
     cases hi:P.info? fd.type with
     | none=>simp [hi] at ho
     | some i=>
       simp [hi] at ho
       obtain ⟨h0,rfl⟩:=ho
       simp [execOp,hρ x _ hx,Instr.fieldAt,run_underlying hu,hf,Instr.sureAddr,fieldPlace,sizeOf,typeInfo,hi,h0,add_none]
theorem yl_ia {t:TypeId} {x y:Operand} {b o n c s:Nat} {k:IntKind} {i:Int} (hs:elemSz P t=some s) (hx:opv l x=some (.slice (some ⟨b,o,none⟩) n c)) (hy:opv l y=some (.int k i)) (h0:0≤i) (h1:i<n) :
   Yl P l W ⟨d,.indexAddr t x y,ty,pos,af,g⟩ (.pointer (some ⟨b,o+i.toNat*s,none⟩)):=by
 intro ρ w hρ _
 unfold elemSz at hs
 cases hu:P.underlying t with
 | none=>simp [hu] at hs
 | some dd=>
   cases dd<;>simp [hu] at hs
   rename_i e
   obtain ⟨inf,hi,rfl⟩:=hs
   simp [execOp,hρ x _ hx,hρ y _ hy,Instr.indexAt,run_underlying hu,asIntOf,h0,h1,sizeOf,typeInfo,hi,add_none]
theorem yl_iak {t:TypeId} {x y:Operand} {b o n c s:Nat} {k:IntKind} {i:Nat} (hs:elemSz P t=some s) (hx:opv l x=some (.slice (some ⟨b,o,none⟩) n c)) (hy:opv l y=some (.int k (i:Int))) (h1:i<n) :
   Yl P l W ⟨d,.indexAddr t x y,ty,pos,af,g⟩ (.pointer (some ⟨b,o+i*s,none⟩)):=by
 have:=yl_ia (P:=P) (W:=W) (d:=d) (ty:=ty) (pos:=pos) (af:=af) (g:=g) hs hx hy (by omega) (by omega)
 simpa using this
theorem Yn {t:TypeId} {x:Operand} {a:Option Addr} {n c s:Nat} (hs:elemSz P t=some s) (hx:opv l x=some (.slice a n c)):Yl P l W ⟨d,.call ⟨.builtin .len,#[x],#[t]⟩,ty,pos,af,g⟩ (.int .i64 (n:Int)):=by
 intro ρ w hρ _
 unfold elemSz at hs
 cases hu:P.underlying t with
 | none=>simp [hu] at hs
 | some dd=>
   cases dd<;>simp [hu] at hs
   simp [execOp,resolve,invoke,builtin,hρ x _ hx,Builtin.len_,run_underlying hu,goInt]
theorem yl_lens {t:TypeId} {x:Operand} {s:List UInt8} (hs:P.underlying t=some .string) (hx:opv l x=some (st s)):Yl P l W ⟨d,.call ⟨.builtin .len,#[x],#[t]⟩,ty,pos,af,g⟩ (.int .i64 (s.length:Int)):=by
 intro ρ w hρ _
 have e:(ByteArray.mk s.toArray).size=s.length:=by show s.toArray.size=_; simp
 simp [execOp,resolve,invoke,builtin,hρ x _ hx,st,Builtin.len_,run_underlying hs,goInt,e]
theorem st_get (s:List UInt8) (i:Nat):(ByteArray.mk s.toArray)[i]? = s[i]?:=by
 rcases Nat.lt_or_ge i s.length with h | h
 · rw [List.getElem?_eq_getElem h,getElem?_pos (ByteArray.mk s.toArray) i (by show i<s.toArray.size; simpa using h)]
   rfl
 · rw [List.getElem?_eq_none h,getElem?_neg (ByteArray.mk s.toArray) i (by show ¬i<s.toArray.size; simpa using h)]
theorem yl_idxs {t:TypeId} {x y:Operand} {s:List UInt8} {k:IntKind} {i:Int} {u:UInt8} (hs:P.underlying t=some .string) (hx:opv l x=some (st s)) (hy:opv l y=some (.int k i)) (h0:0≤i) (hu:s[i.toNat]? = some u) :
   Yl P l W ⟨d,.index t x y,ty,pos,af,g⟩ (.int .u8 (u.toNat:Int)):=by
 intro ρ w hρ _
 simp [execOp,hρ x _ hx,hρ y _ hy,st,Instr.index,asIntOf,run_underlying hs,h0,st_get,hu]
theorem yl_idxk {t:TypeId} {x y:Operand} {s:List UInt8} {k:IntKind} {i:Nat} {u:UInt8} (hs:P.underlying t=some .string) (hx:opv l x=some (st s)) (hy:opv l y=some (.int k (i:Int))) (hu:s[i]? = some u) :
   Yl P l W ⟨d,.index t x y,ty,pos,af,g⟩ (.int .u8 (u.toNat:Int)):=yl_idxs hs hx hy (by omega) (by simpa using hu)
theorem yl_ldc {t:TypeId} {x:Operand} {b o:Nat} {v:Value} (ht:nonAgg P t=true) (hx:opv l x=some (.pointer (some ⟨b,o,none⟩))) (hc:∀w,W w→w.cell? ⟨b,o,none⟩=some v):Yl P l W ⟨d,.load t x,ty,pos,af,g⟩ v:=
 fun ρ w hρ hw=>by simp [execOp,hρ x _ hx,Instr.loadAt,Instr.sureAddr,run_loadVar_one ht (hc w hw)]
theorem yl_ldac {t:TypeId} {x:Operand} {b o n:Nat} {cs:List Value} (ht:aggOf P t=some n) (hx:opv l x=some (.pointer (some ⟨b,o,none⟩))) (hl:cs.length=n) (hc:∀w,W w→∀j v,cs[j]? = some v→w.cell? ⟨b,o+j,none⟩=some v) :
   Yl P l W ⟨d,.load t x,ty,pos,af,g⟩ (.agg cs.toArray):=
 fun ρ w hρ hw=>by simp [execOp,hρ x _ hx,Instr.loadAt,Instr.sureAddr,run_loadVar_agg ht hl (hc w hw)]
theorem yl_ld {t:TypeId} {x:Operand} {b o:Nat} {v:Value} {H:View} (i:Nat) (ht:nonAgg P t=true) (hx:opv l x=some (.pointer (some ⟨b,o,none⟩))) (hV:Vs[i]? = some H) (hc:vc H b o=some v) :
   Yl P l (Ws w0 F L Vs) ⟨d,.load t x,ty,pos,af,g⟩ v:=yl_ldc ht hx fun _ hw=>(hw.vs H (mem_of_idx hV)).cell hc
theorem yl_lda {t:TypeId} {x:Operand} {b o n:Nat} {cs:List Value} {H:View} (i:Nat) (ht:aggOf P t=some n) (hx:opv l x=some (.pointer (some ⟨b,o,none⟩))) (hV:Vs[i]? = some H) (hl:cs.length=n) (hc:∀j v,cs[j]? = some v→vc H b (o+j)=some v) :
   Yl P l (Ws w0 F L Vs) ⟨d,.load t x,ty,pos,af,g⟩ (.agg cs.toArray):=yl_ldac ht hx hl fun _ hw j v h=>(hw.vs H (mem_of_idx hV)).cell (hc j v h)
theorem Yd {t:TypeId} {x:Operand} {b o:Nat} {v:Value} {ob:Obj} (i:Nat) (hx:opv l x=some (.pointer (some ⟨b,o,none⟩))) (hL:L[i]? = some (blk b ob)) (hc:cellIn ob o=some v) (ht:nonAgg P t=true) :
   Yl P l (Ws w0 F L Vs) ⟨d,.load t x,ty,pos,af,g⟩ v:=yl_ldc ht hx fun _ hw=>cell_of_heap (hw.kn _ (mem_of_idx hL)) hc
def cellsIn (o:Obj) (k n:Nat):List Value:=match o with | .cells c _ _=>(c.toList.drop k).take n | _=>[]
theorem Yda {t:TypeId} {x:Operand} {b o n:Nat} {ob:Obj} (i:Nat) (hx:opv l x=some (.pointer (some ⟨b,o,none⟩))) (hL:L[i]? = some (blk b ob)) (ht:aggOf P t=some n) (hl:(cellsIn ob o n).length=n) :
   Yl P l (Ws w0 F L Vs) ⟨d,.load t x,ty,pos,af,g⟩ (.agg (cellsIn ob o n).toArray):=yl_ldac ht hx hl fun w hw j v h=>by
 have hk:w.heap[b]? = some ob:=hw.kn _ (mem_of_idx hL)
 refine cell_of_heap hk ?_
 cases ob<;>simp [cellsIn,cellIn] at *
 rw [List.getElem?_take] at h
 split at h
 · simpa using h
 · cases h
end
end Go.Bw
end
section
namespace Go.Bw
open Go Go.RowKit
def zeroOf (P:Program) (t:TypeId):Option Value:=(P.info? t).bind (·.zero)
def sizeP (P:Program) (t:TypeId):Option Nat:=(P.info? t).map (·.size)
theorem run_zero {P:Program} {t:TypeId} {z:Value} (h:zeroOf P t=some z) (w:World):(zeroValue t).run P w = .ok z w:=by
 unfold zeroOf at h
 cases hi:P.info? t with
 | none=>simp [hi] at h
 | some i=>simp [hi] at h; simp [zeroValue,typeInfo,hi,h]
theorem run_size {P:Program} {t:TypeId} {k:Nat} (h:sizeP P t=some k) (w:World):(sizeOf t).run P w = .ok k w:=by
 unfold sizeP at h
 cases hi:P.info? t with
 | none=>simp [hi] at h
 | some i=>simp [hi] at h; simp [sizeOf,typeInfo,hi,h]
theorem fold_set (vs:List Value):∀(k off:Nat) (cells:Array Value),off+k+vs.length≤cells.size→
   ((vs.zipIdx k).foldl (fun cs (p:Value×Nat)=>cs.setIfInBounds (off+p.2) p.1) cells).toList=cells.toList.take (off+k)++vs++cells.toList.drop (off+k+vs.length):=by
 induction vs with
 | nil=>intro k off cells _; simp
 | cons v r ih=>
   intro k off cells h
   simp only [List.zipIdx_cons,List.foldl_cons]
   rw [ih (k+1) off _ (by simp at h ⊢; omega)]
   simp only [Array.toList_setIfInBounds]
   have:=list_seg_step cells.toList (off+k) v r (by simp at h ⊢; omega)
   simpa [Nat.add_assoc] using this
def vcells:Value→List Value | .agg cs=>cs.toList | v=>[v]
theorem vcells_eq (v:Value):v.cells.toList=vcells v:=by cases v<;>rfl
def fillL (place:Nat→Option (Nat×Nat)):List Value→List (Nat×Value)→Option (List Value)
 | cells,[]=>some cells
 | cells,(i,v)::r=>match place i with
   | some (off,size)=>bif Nat.beq (vcells v).length size&&Nat.ble (off+size) cells.length then fillL place (cells.take off++vcells v++cells.drop (off+size)) r else none
   | none=>none
theorem fill_of (place:Nat→Option (Nat×Nat)):∀(parts:List (Nat×Value)) (cells:Array Value) (out:List Value),fillL place cells.toList parts=some out→Instr.fill place cells parts=some out.toArray
 | [],cells,out,h=>by simp [fillL] at h; simp [Instr.fill,←h]
 | (i,v)::r,cells,out,h=>by
   simp only [fillL] at h
   cases hp:place i with
   | none=>simp [hp] at h
   | some x=>
     obtain ⟨off,size⟩:=x
     simp only [hp] at h
     cases hb:(Nat.beq (vcells v).length size&&Nat.ble (off+size) cells.toList.length) with
     | false=>rw [hb] at h; cases h
     | true=>
       rw [hb] at h
       simp only [Bool.and_eq_true] at hb
       have h1:=Nat.eq_of_beq_eq_true hb.1
       have h2:=Nat.le_of_ble_eq_true hb.2
       have h3:v.cells.size=size:=by rw [←h1,←vcells_eq]; simp
       have h4:off+v.cells.size≤cells.size:=by rw [h3]; simpa using h2
       simp only [Instr.fill,hp]
       rw [if_neg (by simp [h3]; rw [h3] at h4; omega)]
       have e:=fold_set v.cells.toList 0 off cells (by simpa using h4)
       simp only [Nat.add_zero,Array.length_toList] at e
       have e2:(v.cells.zipIdx.foldl (fun cs (c,j)=>cs.setIfInBounds (off+j) c) cells)=(cells.toList.take off++vcells v++cells.toList.drop (off+size)).toArray:=by
         apply Array.ext'
         rw [←Array.foldl_toList,Array.toList_zipIdx]
         rw [h3] at e
         rw [e,vcells_eq]
       rw [e2]
       exact fill_of place r _ out (by simpa using h)
def placesP (P:Program) (t:TypeId):Option (List (Nat×Nat)):=match P.underlying t with
 | some (.struct fs)=>fs.toList.mapM fun f=>(sizeP P f.type).map (f.offset,·)
 | _=>none
theorem run_places {P:Program}:∀(fs:List Field) (pl:List (Nat×Nat)),fs.mapM (fun f=>(sizeP P f.type).map (f.offset,·))=some pl→∀w:World,
   (fs.mapM (m:=Sem) fun f=>do pure (f.offset,←sizeOf f.type)).run P w = .ok pl w
 | [],pl,h,w=>by simp at h; subst h; simp
 | f::fs,pl,h,w=>by
   simp only [List.mapM_cons,Option.bind_eq_bind] at h
   cases hs:sizeP P f.type with
   | none=>simp [hs] at h
   | some k=>
     simp only [hs,Option.map_some,Option.bind_some] at h
     cases hr:fs.mapM (fun f=>(sizeP P f.type).map (f.offset,·)) with
     | none=>simp [hr] at h
     | some rl=>
       simp [hr] at h
       subst h
       have ih:=run_places fs rl hr w
       simp only [List.mapM_cons,Sem.run_bind,run_size hs,Result.andThen_ok,Sem.run_pure,ih]
def evp (l:List (Nat×Value)):List (Nat×Operand)→Option (List (Nat×Value))
 | []=>some []
 | (i,x)::r=>match opv l x,evp l r with
   | some v,some vs=>some ((i,v)::vs)
   | _,_=>none
theorem evp_map {l:List (Nat×Value)} {ρ:Operand→Value} (hρ:∀x u,opv l x=some u→ρ x=u):∀(ps:List (Nat×Operand)) (vs:List (Nat×Value)),evp l ps=some vs→ps.map (fun p=>(p.1,ρ p.2))=vs
 | [],vs,h=>by simp [evp] at h; simp [h]
 | (i,x)::r,vs,h=>by
   simp only [evp] at h
   cases hx:opv l x with
   | none=>simp [hx] at h
   | some v=>
     cases hr:evp l r with
     | none=>simp [hx,hr] at h
     | some us=>
       simp [hx,hr] at h
       subst h
       simp [hρ x v hx,evp_map hρ r us hr]
def evs (l:List (Nat×Value)):List Operand→Option (List Value)
 | []=>some []
 | x::r=>match opv l x,evs l r with
   | some v,some vs=>some (v::vs)
   | _,_=>none
theorem evs_map {l:List (Nat×Value)} {ρ:Operand→Value} (hρ:∀x u,opv l x=some u→ρ x=u):∀(ps:List Operand) (vs:List Value),evs l ps=some vs→ps.map ρ=vs
 | [],vs,h=>by simp [evs] at h; simp [h]
 | x::r,vs,h=>by
   simp only [evs] at h
   cases hx:opv l x with
   | none=>simp [hx] at h
   | some v=>
     cases hr:evs l r with
     | none=>simp [hx,hr] at h
     | some us=>
       simp [hx,hr] at h
       subst h
       simp [hρ x v hx,evs_map hρ r us hr]
section
variable {P:Program} {l:List (Nat×Value)} {W:World→Prop} {w0:World} {F:List Nat} {L:List Asr} {Vs:List View}
 {d:Option Tmp} {ty:TypeId} {pos:String} {af:Array Edge} {g:Option (Nat×Bool)}
theorem Yb {t:TypeId} {parts:List (Nat×Operand)} {vs:List (Nat×Value)} {z:Value} {pl:List (Nat×Nat)} {out:List Value} (hz:zeroOf P t=some z) (hp:placesP P t=some pl)
   (hv:evp l parts=some vs) (hf:fillL (fun i=>pl[i]?) (vcells z) vs=some out):Yl P l W ⟨d,.build t parts.toArray,ty,pos,af,g⟩ (.agg out.toArray):=by
 intro ρ w hρ _
 have e1:((parts.toArray.map fun (i,x)=>(i,ρ x)):Array (Nat×Value)).toList=vs:=by simpa using evp_map hρ parts vs hv
 unfold placesP at hp
 cases hu:P.underlying t with
 | none=>simp [hu] at hp
 | some dd=>
   cases dd<;>simp [hu] at hp
   rename_i fs
   have e2:=run_places (P:=P) fs.toList pl (by simpa using hp) w
   have e3:(fs.mapM (m:=Sem) fun f=>do pure (f.offset,←sizeOf f.type)).run P w = .ok pl.toArray w:=by
     rw [Array.mapM_eq_mapM_toList,Sem.run_map,e2]; rfl
   have e4:Instr.fill (fun i=>pl.toArray[i]?) z.cells vs=some out.toArray:=by
     refine fill_of _ vs z.cells out ?_
     rw [vcells_eq]
     simpa using hf
   simp only [execOp,Instr.build,Sem.run_bind,run_zero hz,Result.andThen_ok,run_underlying hu,e3,e1,e4,Sem.run_pure]
end
section
variable {P:Program} {ops:Array Oper} {Q:Exit→Act→World→Prop} {n:Nat} {ds:List Deferred} {l:List (Nat×Value)} {W:World→Prop} {w0:World} {F:List Nat} {L:List Asr} {Vs:List View}
 {rest:List Oper} {d:Nat} {ty:TypeId} {pos:String} {af:Array Edge} {g:Option (Nat×Bool)}
theorem newVar_run (t:TypeId) (v:Value) (w:World):(newVar t v).run P w = .ok ⟨w.heap.size,0,none⟩ (w.alloc (.cells v.cells t)):=by
 simp [newVar,newRow]
theorem WL.new {op:Op} {o:Obj} {mk:Nat→Value} (hg:GOk ops l g) (hn:Nat.blt d n=true)
   (hr:∀(ρ:Operand→Value) (w:World),(∀x u,opv l x=some u→ρ x=u)→Ws w0 F L Vs w→(execOp ρ ⟨some d,op,ty,pos,af,g⟩).run P w = .ok (.value (mk w.heap.size)) (w.alloc o))
   (h:∀b,WL P ops Q n ds ((d,mk b)::l) (Ws w0 F (blk b o::L) Vs) rest) :
   WL P ops Q n ds l (Ws w0 F L Vs) (⟨some d,op,ty,pos,af,g⟩::rest):=by
 refine WL.step hg fun a w ha hw K hK=>?_
 have:=hr a.eval w (fun x u hx=>ha.eval hx) hw
 simp only [Oper.wp,this,Oper.upon_value]
 exact hK _ _ (h w.heap.size _ _ (ha.put hn _) (hw.alloc o))
theorem WL.box {T:TypeId} {x:Operand} {v:Value} (hg:GOk ops l g) (hn:Nat.blt d n=true) (hx:opv l x=some v)
   (h:∀b,WL P ops Q n ds ((d,.pointer (some ⟨b,0,none⟩))::l) (Ws w0 F (blk b (.cells v.cells T (0,0))::L) Vs) rest) :
   WL P ops Q n ds l (Ws w0 F L Vs) (⟨some d,.box T x,ty,pos,af,g⟩::rest):=
 WL.new (mk:=fun b=>.pointer (some ⟨b,0,none⟩)) hg hn (fun ρ w hρ hw=>by simp [execOp,Instr.box,hρ x v hx,newVar_run]) h
theorem Al {T:TypeId} {z:Value} (hg:GOk ops l g) (hn:Nat.blt d n=true) (hz:zeroOf P T=some z)
   (h:∀b,WL P ops Q n ds ((d,.pointer (some ⟨b,0,none⟩))::l) (Ws w0 F (blk b (.cells z.cells T (0,0))::L) Vs) rest) :
   WL P ops Q n ds l (Ws w0 F L Vs) (⟨some d,.alloc T,ty,pos,af,g⟩::rest):=
 WL.new (mk:=fun b=>.pointer (some ⟨b,0,none⟩)) hg hn (fun ρ w hρ hw=>by simp [execOp,Instr.alloc,run_zero hz,newVar_run]) h
def setIn (ob:Obj) (o:Nat) (vs:List Value):Obj:=match ob with | .cells c T f=>.cells (c.toList.take o++vs++c.toList.drop (o+vs.length)).toArray T f | x=>x
def stOk (ob:Obj) (o k:Nat):Bool:=match ob with | .cells c _ f=>Nat.ble (o+k) c.toList.length&&(Nat.beq f.1 0&&Nat.beq f.2 0) | _=>false
theorem run_storeVar {t:TypeId} {k b o:Nat} {ob:Obj} {v:Value} {w:World} (hs:sizeP P t=some k) (hl:(vcells v).length=k) (h1:(vcells v).all (·.oneCell')=true) (hb:w.heap[b]? = some ob) (hok:stOk ob o k=true) :
   (storeVar t ⟨b,o,none⟩ v).run P w = .ok () { w with heap:=w.heap.setIfInBounds b (setIn ob o (vcells v)) }:=by
 cases ob with
 | cells c T f=>
   obtain ⟨f1,f2⟩:=f
   simp only [stOk,Bool.and_eq_true] at hok
   obtain ⟨h2,h3,h4⟩:=hok
   have e1:=Nat.eq_of_beq_eq_true h3
   have e2:=Nat.eq_of_beq_eq_true h4
   subst e1; subst e2
   have h2:=Nat.le_of_ble_eq_true h2
   have e:=run_storeCells_at P b o T (vcells v) 0 c w hb (by simp at h2 ⊢; omega) (fun u hu=>List.all_eq_true.1 h1 u hu)
   have hc:v.cells.size=k:=by rw [←hl,←vcells_eq]; simp
   have e0:(storeVar t ⟨b,o,none⟩ v).run P w=(storeCells ⟨b,o,none⟩ (vcells v)).run P w:=by
     simp [storeVar,run_size hs,hc,vcells_eq]
   rw [e0,e]
   have hset:=setRow_heap w b c (c.toList.take (o+0)++vcells v++c.toList.drop (o+0+(vcells v).length)).toArray T (0,0) hb
   have hlt:=lt_of_heap hb
   simp only [setIn,Nat.add_zero] at hset ⊢
   suffices hh:(w.setRow b (c.toList.take o++vcells v++c.toList.drop (o+(vcells v).length)).toArray).heap=w.heap.setIfInBounds b (.cells (c.toList.take o++vcells v++c.toList.drop (o+(vcells v).length)).toArray T (0,0)) by
     rw [←hh]; rfl
   apply Array.ext_getElem?
   intro j
   by_cases hj:b=j
   · subst hj
     rw [hset]
     simp [hlt]
   · rw [Array.getElem?_setIfInBounds_ne hj]
     simp [World.setRow,Array.getElem?_modify,hj]
 | _=>simp [stOk] at hok
theorem Lst {t:TypeId} {x y:Operand} {b o k:Nat} {ob:Obj} {v:Value} (i:Nat) (hg:GOk ops l g) (hx:opv l x=some (.pointer (some ⟨b,o,none⟩))) (hy:opv l y=some v) (hL:L[i]? = some (blk b ob))
   (hs:sizeP P t=some k) (hl:(vcells v).length=k) (h1:(vcells v).all (·.oneCell')=true) (hok:stOk ob o k=true)
   (h:WL P ops Q n ds l (Ws w0 F (L.set i (blk b (setIn ob o (vcells v)))) Vs) rest) :
   WL P ops Q n ds l (Ws w0 F L Vs) (⟨none,.store t x y,ty,pos,af,g⟩::rest):=by
 refine WL.step hg fun a w ha hw K hK=>?_
 have hb:w.heap[b]? = some ob:=hw.kn _ (mem_of_idx hL)
 have hrun:(execOp a.eval ⟨none,.store t x y,ty,pos,af,g⟩).run P w = .ok .skip { w with heap:=w.heap.setIfInBounds b (setIn ob o (vcells v)) }:=by
   simp only [execOp,ha.eval hx,ha.eval hy,Instr.storeAt,Instr.sureAddr,Sem.run_bind,Sem.run_pure,Result.andThen_ok,run_storeVar hs hl h1 hb hok]
 simp only [Oper.wp,hrun,Oper.upon_skip]
 refine hK _ _ (h _ _ (ha.put_none undef) ?_)
 refine Ws.turn1 hw i hL ⟨O,O,O,by simp,fun j hj hne=>?_⟩ ?_ (by simp [blk]) (by simp [blk])
 · have:b≠j:=fun e=>hne (by simp [blk,e])
   simp [Array.getElem?_setIfInBounds_ne this]
 · show (w.heap.setIfInBounds b _)[b]? = _
   simp [lt_of_heap hb]
def Enters (P:Program) (f:FuncId):Prop:=∀args w,(callFunc f args).run P w = .ok (.enter f args) w
theorem enters_of {f : FuncId} {fn : Func} (hf : P.funcs[f]? = some fn) (hn : (fn.name == "runtime.NumGoroutine") = false) (hb : fn.body.isNone = false) : Enters P f := fun args w => by
 have hn' : fn.name ≠ "runtime.NumGoroutine" := by simpa using hn
 have hb':fn.body≠none:=by intro e; rw [e] at hb; cases hb
 simp [callFunc,hf,hn',hb']
theorem run_call {ρ:Operand→Value} {dst:Option Tmp} {f:FuncId} {args:Array Operand} {ts:Array TypeId} {vs:List Value} {w:World} (hf:Enters P f) (hρ:∀x u,opv l x=some u→ρ x=u) (ha:evs l args.toList=some vs) :
   (execOp ρ ⟨dst,.call ⟨.value (.func f),args,ts⟩,ty,pos,af,g⟩).run P w = .ok (.enter f vs.toArray) w:=by
 have e:args.map ρ=vs.toArray:=by
   apply Array.ext'
   simpa using evs_map hρ _ _ ha
 have e2:ρ (.func f) = .func (.func f) #[] #[]:=hρ (.func f) _ rfl
 simp only [execOp,resolve,e,e2,Deferred.ofValue,Sem.run_bind,Sem.run_pure,Result.andThen_ok,invoke]
 simpa using hf _ w
theorem WL.callx {ι:Type} {f:FuncId} {args:Array Operand} {ts:Array TypeId} {vs:List Value} (hg:GOk ops l g) (hn:Nat.blt d n=true) (hf:Enters P f) (ha:evs l args.toList=some vs)
   (v:ι→Value) (R:ι→World→Prop) (Pn:List PanicEntry→World→Prop)
   (hC:∀w,W w→Calls P f vs.toArray w fun e w'=>(∃i,e = .returned (v i)∧R i w')∨∃ch,e = .panicked ch∧Pn ch w')
   (hr:∀i,WL P ops Q n ds ((d,v i)::l) (R i) rest) (hp:∀ch,WE Q (.panic ch) n ds l (Pn ch)) :
   WL P ops Q n ds l W (⟨some d,.call ⟨.value (.func f),args,ts⟩,ty,pos,af,g⟩::rest):=by
 refine WL.step hg fun a w ha' hw K hK=>?_
 have hrun:=run_call (P:=P) (dst:=some d) (ts:=ts) (ty:=ty) (pos:=pos) (af:=af) (g:=g) (w:=w) hf (fun x u hx=>ha'.eval hx) ha
 simp only [Oper.wp,hrun,Oper.upon_enter]
 refine (hC w hw).mono fun e w' he=>?_
 rcases he with ⟨i,rfl,h⟩ | ⟨ch,rfl,h⟩
 · exact hK _ _ (hr i _ _ (ha'.put hn _) h)
 · exact hp ch _ _ ha' h
theorem WL.call {ι:Type} {f:FuncId} {args:Array Operand} {ts:Array TypeId} {vs:List Value} (hg:GOk ops l g) (hn:Nat.blt d n=true) (hf:Enters P f) (ha:evs l args.toList=some vs)
   (v:ι→Value) (R:ι→World→Prop)
   (hC:∀w,W w→Calls P f vs.toArray w fun e w'=>∃i,e = .returned (v i)∧R i w')
   (hr:∀i,WL P ops Q n ds ((d,v i)::l) (R i) rest) :
   WL P ops Q n ds l W (⟨some d,.call ⟨.value (.func f),args,ts⟩,ty,pos,af,g⟩::rest):=
 WL.callx hg hn hf ha v R (fun _ _=>False) (fun w hw=>(hC w hw).mono fun _ _ h=>.inl h) hr (fun _ _ _ _ h=>h.elim)
theorem Lp {f:FuncId} {args:Array Operand} {ts:Array TypeId} {vs:List Value} {v:Value} (hg:GOk ops l g) (hn:Nat.blt d n=true) (hf:Enters P f) (ha:evs l args.toList=some vs)
   (hC:∀w,Ws w0 F L Vs w→Calls P f vs.toArray w fun e w'=>e = .returned v∧Ext w w')
   (hr:WL P ops Q n ds ((d,v)::l) (Ws w0 F L Vs) rest) :
   WL P ops Q n ds l (Ws w0 F L Vs) (⟨some d,.call ⟨.value (.func f),args,ts⟩,ty,pos,af,g⟩::rest):=by
 refine WL.step hg fun a w ha' hw K hK=>?_
 have hrun:=run_call (P:=P) (dst:=some d) (ts:=ts) (ty:=ty) (pos:=pos) (af:=af) (g:=g) (w:=w) hf (fun x u hx=>ha'.eval hx) ha
 simp only [Oper.wp,hrun,Oper.upon_enter]
 refine (hC w hw).mono fun e w' he=>?_
 obtain ⟨rfl,h⟩:=he
 exact hK _ _ (hr _ _ (ha'.put hn _) (hw.ext h))
theorem Ld {ι:Type} {f:FuncId} {args:Array Operand} {ts:Array TypeId} {vs:List Value} (hg:GOk ops l g) (hn:Nat.blt d n=true) (hf:Enters P f) (ha:evs l args.toList=some vs)
   (v:ι→Value) (R:View→ι→Prop)
   (hC:∀w,Ws w0 F L Vs w→Calls P f vs.toArray w fun e w'=>∃i,e = .returned (v i)∧Ext w w'∧R (nv w w') i)
   (hr:∀H i,Fresh w0 H→R H i→WL P ops Q n ds ((d,v i)::l) (Ws w0 F L (H::Vs)) rest) :
   WL P ops Q n ds l (Ws w0 F L Vs) (⟨some d,.call ⟨.value (.func f),args,ts⟩,ty,pos,af,g⟩::rest):=by
 refine WL.step hg fun a w ha' hw K hK=>?_
 have hrun:=run_call (P:=P) (dst:=some d) (ts:=ts) (ty:=ty) (pos:=pos) (af:=af) (g:=g) (w:=w) hf (fun x u hx=>ha'.eval hx) ha
 simp only [Oper.wp,hrun,Oper.upon_enter]
 refine (hC w hw).mono fun e w' he=>?_
 obtain ⟨i,rfl,h,hR⟩:=he
 exact hK _ _ (hr (nv w w') i ((nv_fresh w w').mono hw.fr.size) hR _ _ (ha'.put hn _) (hw.view h (nv_le w w') (nv_fresh w w')))
end
section
variable {P:Program} {ops:Array Oper} {Q:Exit→Act→World→Prop} {n:Nat} {ds:List Deferred} {l:List (Nat×Value)} {W:World→Prop} {w0:World} {F:List Nat} {L:List Asr} {Vs:List View}
 {rest:List Oper} {d:Nat} {ty:TypeId} {pos:String} {af:Array Edge} {g:Option (Nat×Bool)}
def osl (e:TypeId) (size:Nat) (v:Value) (m:Nat) (xs:List Value):Asr:=
 ⟨v.ownBlock.toList,fun w=>w.ownsRow 0 e size v m xs,
  fun w w' h hw=>by
   obtain ⟨h1,h2⟩:=hw
   refine ⟨h1,?_⟩
   rcases h2 with h2 | ⟨g,cap,cur,hv,h0,hg,r⟩
   · exact .inl h2
   · exact .inr ⟨g,cap,cur,hv,h0,by rw [h g (by simp [hv,Value.ownBlock])]; exact hg,r⟩,
  fun w hw k hk=>by
   obtain ⟨h1,h2⟩:=hw
   rcases h2 with ⟨h2,_⟩ | ⟨g,cap,cur,hv,h0,hg,r⟩
   · subst h2; simp [Value.ownBlock] at hk
   · subst hv; simp [Value.ownBlock] at hk; subst hk; exact lt_of_heap hg⟩
theorem Ws.osl_nil {w:World} (h:Ws w0 F L Vs w) (e:TypeId) (size:Nat):Ws w0 F (osl e size (.slice none 0 0) 0 []::L) Vs w:=by
 have:=Ws.turn (L:=[]) (L':=[osl e size (.slice none 0 0) 0 []]) (L2:=L) (by simpa using h) (Fr.refl _ _)
   (by intro A hA; simp at hA; subst hA; exact World.ownsRow_nil _ _ _ _) (by simp [osl,Value.ownBlock]) (by simp [osl,Value.ownBlock])
 simpa using this
theorem Ws.osl_blk {w:World} (h:Ws w0 F L Vs w) (i:Nat) {b m cap:Nat} {cur:Array Value} {e:TypeId} {size:Nat} (hL:L[i]? = some (blk b (.cells cur e (0,0)))) (hm:m≤cap) (hc:cap≤maxLen) (hs:cur.size=cap*size) :
   Ws w0 F (L.set i (osl e size (.slice (some ⟨b,0,none⟩) m cap) m (cur.toList.take (m*size)))) Vs w:=by
 have hb:w.heap[b]? = some (.cells cur e (0,0)):=h.kn _ (mem_of_idx hL)
 refine Ws.turn1 h i hL (Fr.refl _ _) ?_ (by simp [osl,Value.ownBlock]) (by simp [osl,blk,Value.ownBlock])
 exact ⟨by rw [List.length_take,Array.length_toList,hs]; exact Nat.min_eq_left (Nat.mul_le_mul_right _ hm),.inr ⟨b,cap,cur,O,Nat.zero_le _,hb,hm,hc,hs,O⟩⟩
structure EltOk (P:Program) (t e:TypeId) (z:Value) (size bytes:Nat):Prop where
 under:P.underlying t=some (.slice e)
 info:∃i,P.info? e=some i∧i.zero=some z∧i.size=size∧i.bytes=bytes
 zs:z.cells.size=size
 pos:0<size
def eltB (P:Program) (t:TypeId):Option (TypeId×Value×Nat×Nat):=match P.underlying t with
 | some (.slice e)=>match P.info? e with
   | some i=>match i.zero with
     | some z=>bif Nat.beq z.cells.size i.size&&Nat.blt 0 i.size then some (e,z,i.size,i.bytes) else none
     | none=>none
   | none=>none
 | _=>none
theorem eltOk_of {t e:TypeId} {z:Value} {size bytes:Nat} (h:eltB P t=some (e,z,size,bytes)):EltOk P t e z size bytes:=by
 unfold eltB at h
 cases hu:P.underlying t with
 | none=>simp [hu] at h
 | some dd=>
   cases dd<;>simp [hu] at h
   rename_i e'
   cases hi:P.info? e' with
   | none=>simp [hi] at h
   | some i=>
     simp [hi] at h
     cases hz:i.zero with
     | none=>simp [hz] at h
     | some z'=>
       simp only [hz] at h
       cases hb:(Nat.beq z'.cells.size i.size&&Nat.blt 0 i.size) with
       | false=>rw [hb] at h; cases h
       | true=>
         rw [hb] at h
         simp at h
         obtain ⟨rfl,rfl,rfl,rfl⟩:=h
         simp only [Bool.and_eq_true] at hb
         exact ⟨hu,⟨i,hi,hz,O,O⟩,Nat.eq_of_beq_eq_true hb.1,Nat.le_of_ble_eq_true hb.2⟩
theorem append_block {t e ty:TypeId} {z v v':Value} {size bytes m c k:Nat} {a:Addr} {xs news:List Value} {w w':World} (hE:EltOk P t e z size bytes) (hown:w.ownsRow 0 e size v m xs)
   (hl:news.length=k*size) (hnews:∀j u,news[j]? = some u→w.cell? (a.add j)=some u) (h1:∀u ∈ news,u.oneCell'=true)
   (h63:m+k≤maxLen) (hby:(m+k)*bytes≤140737488355328) (hrun:(Builtin.append_ #[t,t] ty #[v,.slice (some a) k c]).run P w = .ok v' w') (hnil:v' = .slice none 0 0↔v = .slice none 0 0∧k=0) :
   v'.ownBlock=v.ownBlock∨v'.ownBlock=some w.heap.size:=by
 obtain ⟨inf,hi,hz,hsz,hbt⟩:=hE.info
 subst hsz; subst hbt
 have hsmall:((m+k:Nat):Int)≤9223372036854775807:=by simp only [maxLen] at h63; omega
 obtain ⟨hx,h2⟩:=hown
 rcases h2 with ⟨rfl,rfl⟩ | ⟨g,cap,cur,rfl,_,hg,hmc,hcm,hcs,htk⟩
 · by_cases hk:k=0
   · exact .inl (by rw [hnil.2 ⟨O,hk⟩])
   · have e2:=run_append_nil (P:=P) w t ty e inf z hE.under hi hz a k c news hl hnews (by omega) (by omega) (by simp at hby; omega)
     rw [hrun] at e2
     injection e2 with e2 _
     exact .inr (by rw [e2]; rfl)
 · by_cases hroom:m+k≤cap
   · have e2:=run_append_room (P:=P) w t ty e inf hE.under hi g m cap cur hg a k c news hl hnews h1 hroom (by
       rw [hl,hcs,←Nat.add_mul]; exact Nat.mul_le_mul_right _ hroom)
     rw [hrun] at e2
     injection e2 with e2 _
     exact .inl (by rw [e2]; rfl)
   · have hcell:∀j v,xs[j]? = some v→w.cell? ((⟨g,0,none⟩:Addr).add j)=some v:=by
       intro j u hu
       rw [add_none,←htk] at *
       refine cell_of_heap hg ?_
       rw [List.getElem?_take] at hu
       split at hu
       · simpa [cellIn] using hu
       · cases hu
     have e2:=run_append_grow (P:=P) w t ty e inf z hE.under hi hz ⟨g,0,none⟩ m cap xs hx hcell a k c news hl hnews (by omega) hsmall (growslice_fits (by omega) hby)
     rw [hrun] at e2
     injection e2 with e2 _
     exact .inr (by rw [e2]; rfl)
theorem WL.append {t e:TypeId} {z v:Value} {size bytes m c k:Nat} {s x:Operand} {a:Addr} {xs news:List Value} (i:Nat) (hg:GOk ops l g) (hn:Nat.blt d n=true) (hE:EltOk P t e z size bytes)
   (hs:opv l s=some v) (hx:opv l x=some (.slice (some a) k c)) (hL:L[i]? = some (osl e size v m xs))
   (hl:news.length=k*size) (hnews:∀w,Ws w0 F L Vs w→∀j u,news[j]? = some u→w.cell? (a.add j)=some u) (h1:∀u ∈ news,u.oneCell'=true)
   (h63:m+k≤maxLen) (hby:(m+k)*bytes≤140737488355328)
   (h:∀v',(v' = .slice none 0 0↔v = .slice none 0 0∧k=0)→WL P ops Q n ds ((d,v')::l) (Ws w0 F (L.set i (osl e size v' (m+k) (xs++news))) Vs) rest) :
   WL P ops Q n ds l (Ws w0 F L Vs) (⟨some d,.call ⟨.builtin .append,#[s,x],#[t,t]⟩,ty,pos,af,g⟩::rest):=by
 refine WL.step hg fun a' w ha hw K hK=>?_
 obtain ⟨inf,hi,hz,hsz,hbt⟩:=hE.info
 have hown:w.ownsRow 0 e size v m xs:=hw.kn _ (mem_of_idx hL)
 obtain ⟨v',w',hrun,hown',hgr,hnil⟩:=run_append_own (P:=P) w 0 t ty e inf z size bytes hE.under hi hz hsz hbt hE.zs hE.pos v m xs hown a k c news hl (hnews w hw) h1 h63 hby (Nat.zero_le _)
 have hrun':(execOp a'.eval ⟨some d,.call ⟨.builtin .append,#[s,x],#[t,t]⟩,ty,pos,af,g⟩).run P w = .ok (.value v') w':=by
   simp only [execOp,resolve,List.map_toArray,List.map_cons,List.map_nil,ha.eval hs,ha.eval hx,Sem.run_bind,Sem.run_pure,Result.andThen_ok,invoke,builtin,hrun]
 simp only [Oper.wp,hrun',Oper.upon_value]
 refine hK _ _ (h v' hnil _ _ (ha.put hn _) ?_)
 refine Ws.turn1 hw i hL ⟨hgr.os,hgr.tape,hgr.output,hgr.size,fun j hj hne=>hgr.block j hj fun e=>hne ?_⟩ hown' ?_ fun j hj=>?_
 · simp [osl,←e]
 · cases hv:v'.ownBlock<;>simp [osl,hv]
 · simp only [osl,Option.mem_toList] at hj ⊢
   rcases append_block hE hown hl (hnews w hw) h1 h63 hby hrun hnil with e | e
   · exact .inl (by rw [←e]; exact hj)
   · rw [e] at hj; injection hj with hj; exact .inr (by omega)
end
end Go.Bw
end
section
namespace Go.Bw
open Go Go.RowKit
section
variable {P:Program} {ops:Array Oper} {Q:Exit→Act→World→Prop} {n:Nat} {ds:List Deferred} {l:List (Nat×Value)} {W:World→Prop} {w0:World} {F:List Nat} {L:List Asr} {Vs:List View}
def freshB (us l:List (Nat×Value)):Bool:=us.all fun p=>(lk l p.1).isNone
theorem lk_fresh {us:List (Nat×Value)} (hf:freshB us l=true) {t:Nat} {u:Value} (hu:lk l t=some u):lk (us++l) t=some u:=by
 induction us with
 | nil=>exact hu
 | cons p r ih=>
   obtain ⟨k,v⟩:=p
   simp only [freshB,List.all_cons,Bool.and_eq_true] at hf
   simp only [List.cons_append,lk]
   cases hb:Nat.beq k t with
   | false=>exact ih hf.2
   | true=>
     have:=Nat.eq_of_beq_eq_true hb
     subst this
     have hn:=hf.1
     rw [hu] at hn
     cases hn
theorem Ag.forget {a:Act} {us:List (Nat×Value)} (h:Ag n ds (us++l) a) (hf:freshB us l=true):Ag n ds l a:=
 ⟨h.size,h.defs,fun t u hu=>h.vals t u (lk_fresh hf hu)⟩
theorem Ag.forget' {a:Act} {l':List (Nat×Value)} (m:Nat) (h:Ag n ds l' a) (hd:l'.drop m=l) (hf:freshB (l'.take m) l=true):Ag n ds l a:=by
 subst hd
 rw [←List.take_append_drop m l'] at h
 exact h.forget hf
def allSkip (ops:Array Oper):List (Nat×Value)→List Oper→Option (List (Nat×Value))
 | l,[]=>some l
 | l,o::r=>match o.guard,o.dst with
   | some (j,b),some d=>match (ops[j]?).bind (·.dst) with
     | some dj=>match lk l dj with
       | some (.bool b')=>bif (b' != b) then allSkip ops ((d,undef)::l) r else none
       | some (.tuple _)=>allSkip ops ((d,undef)::l) r
       | _=>none
     | none=>none
   | _,_=>none
def inB (n:Nat) (os:List Oper):Bool:=os.all fun o=>match o.dst with | some d=>Nat.blt d n | none=>true
theorem getD_get {a:Act} {l:List (Nat×Value)} (ha:Ag n ds l a) {t:Nat} {v:Value} (h:lk l t=some v) (hv:v≠undef∨t<n):a.tmps[t]? = some v:=by
 have h1:=ha.vals t v h
 rw [Array.getD_eq_getD_getElem?] at h1
 rcases Nat.lt_or_ge t a.tmps.size with hlt | hge
 · rw [Array.getElem?_eq_getElem hlt] at h1 ⊢
   simpa using h1
 · rw [Array.getElem?_eq_none hge] at h1
   rcases hv with hv | hv
   · exact absurd (by simpa using h1.symm) hv
   · rw [ha.size] at hge; omega
theorem WL.skips {gs rest:List Oper} {l2:List (Nat×Value)}:∀{l:List (Nat×Value)},allSkip ops l gs=some l2→inB n gs=true→(∀a w,Ag n ds l2 a→W w→wpList P ops Q rest a w)→
   ∀a w,Ag n ds l a→W w→wpList P ops Q (gs++rest) a w:=by
 induction gs with
 | nil=>intro l hs _ h a w ha hw; simp [allSkip] at hs; subst hs; exact h a w ha hw
 | cons o r ih=>
   intro l hs hin h a w ha hw
   simp only [allSkip] at hs
   simp only [inB,List.all_cons,Bool.and_eq_true] at hin
   have key:∀d,o.dst=some d→Region.wanted o (yielded ops a.tmps)=false→allSkip ops ((d,undef)::l) r=some l2→wpList P ops Q (o::r++rest) a w:=by
     intro d hd hw' hs'
     have hdn:Nat.blt d n=true:=by have:=hin.1; rw [hd] at this; exact this
     simp only [List.cons_append,wpList,hw']
     rw [hd]
     exact ih hs' hin.2 h _ _ (ha.put hdn undef) hw
   cases hg:o.guard with
   | none=>simp [hg] at hs
   | some jb=>
     obtain ⟨j,b⟩:=jb
     cases hd:o.dst with
     | none=>simp [hg,hd] at hs
     | some d=>
       simp only [hg,hd] at hs
       cases hj:(ops[j]?).bind (·.dst) with
       | none=>simp [hj] at hs
       | some dj=>
         simp only [hj] at hs
         cases hl:lk l dj with
         | none=>simp [hl] at hs
         | some v=>
           simp only [hl] at hs
           have hv:=ha.vals dj v hl
           cases v with
           | bool b'=>
             cases hb:(b' != b) with
             | false=>simp [hb] at hs
             | true=>
               simp only [hb,cond_true] at hs
               refine key d hd ?_ hs
               have hget:=getD_get ha hl (.inl (by simp [undef]))
               have hy:yielded ops a.tmps j=some b':=by simp [yielded,hj,hget]
               simp only [Region.wanted,hg,hy]
               cases b<;>cases b'<;>first | rfl | (simp at hb)
           | tuple vs=>
             refine key d hd ?_ hs
             have hy:yielded ops a.tmps j=none:=by
               simp only [yielded,hj,Option.bind_some]
               rw [Array.getD_eq_getD_getElem?] at hv
               cases ht:a.tmps[dj]? with
               | none=>rfl
               | some u=>simp [ht] at hv; simp [hv]
             simp [Region.wanted,hg,hy]
           | _=>simp at hs
theorem wpList_append {gs rest:List Oper}:∀(a:Act) (w:World),wpList P ops (Exit.then (wpList P ops Q rest) Q) gs a w→wpList P ops Q (gs++rest) a w:=by
 induction gs with
 | nil=>intro a w h; exact h
 | cons o r ih=>
   intro a w h
   simp only [List.cons_append,wpList] at h ⊢
   split
   · rename_i hw
     rw [if_pos hw] at h
     rcases h with h | ⟨h1,a2,w2,h2⟩
     · left
       unfold Oper.wp at h ⊢
       unfold Oper.upon at h ⊢
       split at h
       all_goals first
         | exact ih _ _ h
         | exact h
         | (refine h.mono fun e w' he=>?_
            cases e with
            | returned v=>exact ih _ _ he
            | panicked ch=>exact he
            | outgrown=>obtain ⟨a3,w3,h3⟩:=he; exact ⟨a3,w3,h3⟩)
         | exact h.mono fun v w' he=>ih _ _ he
     · exact .inr ⟨h1,a2,w2,h2⟩
   · rename_i hw
     rw [if_neg hw] at h
     exact ih _ _ h
theorem wpList_mono {Q':Exit→Act→World→Prop} (hq:∀e a w,Q e a w→Q' e a w) {gs:List Oper}:∀(a:Act) (w:World),wpList P ops Q gs a w→wpList P ops Q' gs a w:=by
 induction gs with
 | nil=>intro a w h; exact hq _ _ _ h
 | cons o r ih=>
   intro a w h
   simp only [wpList] at h ⊢
   split
   · rename_i hw
     rw [if_pos hw] at h
     rcases h with h | ⟨h1,a2,w2,h2⟩
     · left
       unfold Oper.wp at h ⊢
       unfold Oper.upon at h ⊢
       split at h
       all_goals first
         | exact ih _ _ h
         | exact hq _ _ _ h
         | exact h
         | (refine h.mono fun e w' he=>?_
            cases e with
            | returned v=>exact ih _ _ he
            | panicked ch=>exact hq _ _ _ he
            | outgrown=>obtain ⟨a3,w3,h3⟩:=he; exact ⟨a3,w3,hq _ _ _ h3⟩)
         | exact h.mono fun v w' he=>ih _ _ he
     · exact .inr ⟨h1,a2,w2,hq _ _ _ h2⟩
   · rename_i hw
     rw [if_neg hw] at h
     exact ih _ _ h
def Got (Q:Exit→Act→World→Prop) (n:Nat) (ds:List Deferred) (l:List (Nat×Value)) (W:World→Prop) (dx:Nat) (x:Value):Exit→Act→World→Prop:=
 Exit.then (fun a w=>(Ag n ds l a∧a.tmps.getD dx undef=x)∧W w) Q
theorem Gt {l':List (Nat×Value)} {dx:Nat} {x:Value} (m:Nat) (hx:lk l' dx=some x) (hd:l'.drop m=l) (hf:freshB (l'.take m) l=true):WL P ops (Got Q n ds l W dx x) n ds l' W []:=
 fun a w ha hw=>⟨⟨ha.forget' m hd hf,ha.vals _ _ hx⟩,hw⟩
theorem Ag.known {a:Act} (h:Ag n ds l a) {d:Nat} {v:Value} (hv:lk l d=some v):Ag n ds ((d,v)::l) a:=
 ⟨h.size,h.defs,fun t u hu=>by
   simp only [lk] at hu
   cases hb:Nat.beq d t with
   | true=>
     rw [hb] at hu
     have:=Nat.eq_of_beq_eq_true hb
     subst this
     simp at hu; subst hu
     exact h.vals _ _ hv
   | false=>rw [hb] at hu; exact h.vals t u hu⟩
theorem Ag.known' {a:Act} {d:Nat} {v:Value} (h:Ag n ds ((d,v)::l) a) (hv:lk l d=some v):Ag n ds l a:=
 ⟨h.size,h.defs,fun t u hu=>by
   refine h.vals t u ?_
   simp only [lk]
   cases hb:Nat.beq d t with
   | true=>
     have:=Nat.eq_of_beq_eq_true hb
     subst this
     rw [hv] at hu
     simpa using hu
   | false=>exact hu⟩
theorem WL.logic (m:Nat) {os:List Oper} {dj dp dx:Nat} (want:Bool) {c x:Bool} {t a b:Operand} {ty:TypeId} {pos:String} {af:Array Edge} {g:Option (Nat×Bool)} {l2:List (Nat×Value)}
   (hp:os[m]? = some ⟨some dp,.pick t a b,ty,pos,af,g⟩) (htj:t = .tmp dj) (hb:lk l dj=some (.bool c)) (hin:inB n (os.take m)=true)
   (hg:GOk ops l g) (hdp:Nat.blt dp n=true)
   (hab:(a,b)=(bif want then (Operand.tmp dx,Operand.const (.bool false)) else (Operand.const (.bool true),Operand.tmp dx)))
   (hF:allSkip ops ((dj,.bool (!want))::l) (os.take m)=some l2) (hF1:l2.drop m=(dj,.bool (!want))::l) (hF2:freshB (l2.take m) ((dj,.bool (!want))::l)=true)
   (hT:c=want→WL P ops (Got Q n ds ((dj,.bool want)::l) W dx (.bool x)) n ds ((dj,.bool want)::l) W (os.take m))
   (h:WL P ops Q n ds ((dp,.bool (bif want then c&&x else c||x))::l) W (os.drop (m+1))):WL P ops Q n ds l W os:=by
 intro a0 w ha hw
 have hos:os=os.take m++⟨some dp,.pick t a b,ty,pos,af,g⟩::os.drop (m+1):=by
   obtain ⟨hlt,he⟩:=List.getElem?_eq_some_iff.1 hp
   rw [←he,List.getElem_cons_drop hlt,List.take_append_drop]
 rw [hos]
 subst htj
 have pick:∀(a':Act) (w':World) (r:Bool),Ag n ds l a'→W w'→(if c then a'.eval a else a'.eval b) = .bool r→r=(bif want then c&&x else c||x)→
     wpList P ops Q (⟨some dp,.pick (.tmp dj) a b,ty,pos,af,g⟩::os.drop (m+1)) a' w':=by
   intro a' w' r ha' hw' hv hr
   refine wpList_step fun K hK=>?_
   rw [if_pos (GOk.wanted (o:=⟨some dp,.pick (.tmp dj) a b,ty,pos,af,g⟩) hg ha')]
   have hrun:(execOp a'.eval ⟨some dp,.pick (.tmp dj) a b,ty,pos,af,g⟩).run P w' = .ok (.value (.bool r)) w':=by
     have h1:a'.eval (.tmp dj) = .bool c:=ha'.vals dj _ hb
     simp only [execOp,h1,asBool,Sem.run_bind,Sem.run_pure,Result.andThen_ok,hv]
   simp only [Oper.wp,hrun,Oper.upon_value]
   exact hK _ _ (h _ _ (by rw [←hr]; exact ha'.put hdp _) hw')
 by_cases hc:c=want
 · refine wpList_append _ _ (wpList_mono (Q:=Got Q n ds ((dj,.bool want)::l) W dx (.bool x)) (fun e a' w' hq=>?_) _ _ (hT hc a0 w (ha.known (by rw [←hc]; exact hb)) hw))
   cases e with
   | normal=>
     obtain ⟨⟨ha',hx⟩,hw'⟩:=hq
     refine pick a' w' x (ha'.known' (by rw [←hc]; exact hb)) hw' ?_ ?_
     · subst hc
       cases c
       · simp at hab; obtain ⟨rfl,rfl⟩:=hab; exact hx
       · simp at hab; obtain ⟨rfl,rfl⟩:=hab; exact hx
     · subst hc; cases c<;>rfl
   | _=>exact hq
 · have hc':c = !want:=by cases c<;>cases want<;>first | rfl | exact absurd rfl hc
   refine WL.skips hF hin (fun a' w' ha' hw'=>?_) a0 w (ha.known (by rw [←hc']; exact hb)) hw
   have ha2:Ag n ds l a':=(ha'.forget' m hF1 hF2).known' (by rw [←hc']; exact hb)
   refine pick a' w' c ha2 hw' ?_ ?_
   · subst hc'
     cases want
     · simp at hab; obtain ⟨rfl,rfl⟩:=hab; rfl
     · simp at hab; obtain ⟨rfl,rfl⟩:=hab; rfl
   · subst hc'; cases want<;>rfl
theorem La (m:Nat) {os:List Oper} {dj dp dx:Nat} {c x:Bool} {t a b:Operand} {ty:TypeId} {pos:String} {af:Array Edge} {g:Option (Nat×Bool)} {l2:List (Nat×Value)}
   (hp:os[m]? = some ⟨some dp,.pick t a b,ty,pos,af,g⟩) (htj:t = .tmp dj) (hb:lk l dj=some (.bool c)) (hin:inB n (os.take m)=true)
   (hg:GOk ops l g) (hdp:Nat.blt dp n=true) (hab:(a,b)=(Operand.tmp dx,Operand.const (.bool false)))
   (hF:allSkip ops ((dj,.bool false)::l) (os.take m)=some l2) (hF1:l2.drop m=(dj,.bool false)::l) (hF2:freshB (l2.take m) ((dj,.bool false)::l)=true)
   (hT:c=true→WL P ops (Got Q n ds ((dj,.bool true)::l) W dx (.bool x)) n ds ((dj,.bool true)::l) W (os.take m))
   (h:WL P ops Q n ds ((dp,.bool (c&&x))::l) W (os.drop (m+1))):WL P ops Q n ds l W os:=
 WL.logic m true hp htj hb hin hg hdp hab hF hF1 hF2 hT h
theorem Lo (m:Nat) {os:List Oper} {dj dp dx:Nat} {c x:Bool} {t a b:Operand} {ty:TypeId} {pos:String} {af:Array Edge} {g:Option (Nat×Bool)} {l2:List (Nat×Value)}
   (hp:os[m]? = some ⟨some dp,.pick t a b,ty,pos,af,g⟩) (htj:t = .tmp dj) (hb:lk l dj=some (.bool c)) (hin:inB n (os.take m)=true)
   (hg:GOk ops l g) (hdp:Nat.blt dp n=true) (hab:(a,b)=(Operand.const (.bool true),Operand.tmp dx))
   (hF:allSkip ops ((dj,.bool true)::l) (os.take m)=some l2) (hF1:l2.drop m=(dj,.bool true)::l) (hF2:freshB (l2.take m) ((dj,.bool true)::l)=true)
   (hT:c=false→WL P ops (Got Q n ds ((dj,.bool false)::l) W dx (.bool x)) n ds ((dj,.bool false)::l) W (os.take m))
   (h:WL P ops Q n ds ((dp,.bool (c||x))::l) W (os.drop (m+1))):WL P ops Q n ds l W os:=
 WL.logic m false hp htj hb hin hg hdp hab hF hF1 hF2 hT h
end
end Go.Bw
end
section
namespace Go.Bw
open Go Go.RowKit
section
variable {P:Program} {ops:Array Oper} {Q:Exit→Act→World→Prop} {n:Nat} {ds:List Deferred} {l l':List (Nat×Value)} {W:World→Prop} {w0:World} {F:List Nat} {L:List Asr} {Vs:List View}
 {rest:List Oper} {d:Nat} {ty:TypeId} {pos:String} {af:Array Edge} {g:Option (Nat×Bool)}
theorem CLk {ι:Type} {c:Code} (U:ι→List (Nat×Value)) (l':List (Nat×Value)) (Wi:ι→World→Prop) (R:ι→Prop) (μ:ι→Nat) (i0:ι) (hR:R i0) (hE:∀p ∈ U i0++l',lk l p.1=some p.2) (hW:∀w,W w→Wi i0 w)
   (round:∀i,R i→WC P c (Exit.then (fun a' w'=>∃j,μ j<μ i∧R j∧Ag n ds (U j++l') a'∧Wi j w') Q) n ds (U i++l') (Wi i)):WC P (.loop c) Q n ds l W:=
 WC.loop (fun i=>U i++l') Wi R μ i0 hR hE hW round
theorem CW {ι:Type} {c:Code} (U:ι→List (Nat×Value)) (l':List (Nat×Value)) (R:ι→Prop) (μ:ι→Nat) (i0:ι) (hR:R i0) (hE:∀p ∈ U i0++l',lk l p.1=some p.2)
   (round:∀i,R i→WC P c (Exit.then (fun a' w'=>∃j,μ j<μ i∧R j∧Ag n ds (U j++l') a'∧W w') Q) n ds (U i++l') W):WC P (.loop c) Q n ds l W:=
 WC.loop (fun i=>U i++l') (fun _=>W) R μ i0 hR hE (fun _ h=>h) round
theorem WL.make {t e:TypeId} {x y:Operand} {kl kc:IntKind} {ln cn:Int} {z:Value} {size bytes:Nat} (hg:GOk ops l g) (hn:Nat.blt d n=true) (hE:EltOk P t e z size bytes)
   (hx:opv l x=some (.int kl ln)) (hy:opv l y=some (.int kc cn)) (h0:0≤ln) (h1:ln≤cn) (hb:(bytes:Int)*cn≤281474976710656) (h63:cn≤9223372036854775807)
   (h:∀b,WL P ops Q n ds ((d,.slice (some ⟨b,0,none⟩) ln.toNat cn.toNat)::l) (Ws w0 F (blk b (.cells (madeCells z.cells (cn.toNat*size)) e (0,0))::L) Vs) rest) :
   WL P ops Q n ds l (Ws w0 F L Vs) (⟨some d,.makeSlice t x y,ty,pos,af,g⟩::rest):=by
 obtain ⟨inf,hi,hz,hsz,hbt⟩:=hE.info
 refine WL.new (mk:=fun b=>.slice (some ⟨b,0,none⟩) ln.toNat cn.toNat) hg hn (fun ρ w hρ hw=>?_) h
 have:=run_make (P:=P) w t e inf z hE.under hi hz kl kc ln cn h0 h1 (by rw [hbt]; exact hb) h63
 rw [hsz] at this
 simp [execOp,hρ x _ hx,hρ y _ hy,this]
theorem WL.storeAs {t:TypeId} {x y:Operand} {b o k:Nat} {ob:Obj} {v:Value} (i:Nat) (ob':Obj) (hg:GOk ops l g) (hx:opv l x=some (.pointer (some ⟨b,o,none⟩))) (hy:opv l y=some v) (hL:L[i]? = some (blk b ob))
   (hs:sizeP P t=some k) (hl:(vcells v).length=k) (h1:(vcells v).all (·.oneCell')=true) (hok:stOk ob o k=true) (he:setIn ob o (vcells v)=ob')
   (h:WL P ops Q n ds l (Ws w0 F (L.set i (blk b ob')) Vs) rest) :
   WL P ops Q n ds l (Ws w0 F L Vs) (⟨none,.store t x y,ty,pos,af,g⟩::rest):=Lst i hg hx hy hL hs hl h1 hok (by rw [he]; exact h)
end
section
variable {P:Program} {l:List (Nat×Value)} {W:World→Prop} {w0:World} {F:List Nat} {L:List Asr} {Vs:List View}
 {d:Option Tmp} {ty:TypeId} {pos:String} {af:Array Edge} {g:Option (Nat×Bool)}
theorem yl_slhi {t:TypeId} {x y:Operand} {a:Option Addr} {m c s:Nat} {k:IntKind} {h:Int} (hs:elemSz P t=some s) (hx:opv l x=some (.slice a m c)) (hsp:∀p,a=some p→p.spot=none) (hy:opv l y=some (.int k h)) (h0:0≤h) (h1:h≤c) :
   Yl P l W ⟨d,.slice t x none (some y) none,ty,pos,af,g⟩ (.slice a h.toNat c):=by
 intro ρ w hρ _
 unfold elemSz at hs
 cases hu:P.underlying t with
 | none=>simp [hu] at hs
 | some dd=>
   cases dd<;>simp [hu] at hs
   rename_i e
   obtain ⟨inf,hi,rfl⟩:=hs
   have ea:(if c=0 then a else a.map (·.add (0*inf.size)))=a:=by
     split
     · rfl
     · cases a with
       | none=>rfl
       | some p=>simp [Addr.add]
   have hc:h≤(c:Int):=h1
   simp [execOp,hρ x _ hx,hρ y _ hy,Instr.sliceAt,Instr.slice,Instr.sliceBounds,Instr.sliceBound,asIntOf,run_underlying hu,sizeOf,typeInfo,hi,h0,hc]
   simpa using ea
end
def RdC (H:View) (b o:Nat) (cs:List Value):Prop:=∀j v,cs[j]? = some v→vc H b (o+j)=some v
theorem RdC.mono {H H':View} (h:VLe H H') {b o:Nat} {cs:List Value} (r:RdC H b o cs):RdC H' b o cs:=fun j v hv=>h.cell (r j v hv)
structure Sl {α:Type} (rd:View→Nat→Nat→α→Prop) (k:Nat) (H:View) (a:Option Addr) (c:Nat) (l:List α):Prop where
 cap:l.length≤c
 max:c≤9223372036854775807
 spot:∀p,a=some p→0<c→p.spot=none
 elt:∀i x,l[i]? = some x→∃b o,a=some ⟨b,o,none⟩∧rd H b (o+i*k) x
theorem Sl.mono {α:Type} {rd:View→Nat→Nat→α→Prop} {k:Nat} {H H':View} {a:Option Addr} {c:Nat} {l:List α} (hm:∀b o x,rd H b o x→rd H' b o x) (h:Sl rd k H a c l):Sl rd k H' a c l:=
 ⟨h.cap,h.max,h.spot,fun i x hx=>let ⟨b,o,ha,hb⟩:=h.elt i x hx; ⟨b,o,ha,hm _ _ _ hb⟩⟩
theorem Sl.nil {α:Type} {rd:View→Nat→Nat→α→Prop} {k:Nat} {H:View}:Sl rd k H none 0 ([]:List α):=⟨Nat.le_refl _,by decide,by simp,by simp⟩
section
variable {P:Program} {l:List (Nat×Value)} {W:World→Prop} {d:Option Tmp} {ty:TypeId} {pos:String} {af:Array Edge} {g:Option (Nat×Bool)}
theorem Yo {t:TypeId} {x y:Operand} {a:Option Addr} {b o n c s:Nat} {k:IntKind} {i:Nat} (hs:elemSz P t=some s) (hx:opv l x=some (.slice a n c)) (hy:opv l y=some (.int k (i:Int))) (ha:a=some ⟨b,o,none⟩) (h1:i<n) :
   Yl P l W ⟨d,.indexAddr t x y,ty,pos,af,g⟩ (.pointer (some ⟨b,o+i*s,none⟩)):=by subst ha; exact yl_iak hs hx hy h1
theorem yl_iai {t:TypeId} {x y:Operand} {a:Option Addr} {b o n c s:Nat} {k:IntKind} {i:Int} (hs:elemSz P t=some s) (hx:opv l x=some (.slice a n c)) (hy:opv l y=some (.int k i)) (ha:a=some ⟨b,o,none⟩) (h0:0≤i) (h1:i<n) :
   Yl P l W ⟨d,.indexAddr t x y,ty,pos,af,g⟩ (.pointer (some ⟨b,o+i.toNat*s,none⟩)):=by subst ha; exact yl_ia hs hx hy h0 h1
end
end Go.Bw
end
section
namespace Go.Bw
open Go Go.RowKit
section
variable {P:Program} {md:Region.Mode} {ops:Array Oper} {C:World→Prop} {Q:Exit→Act→World→Prop}
def YV (P:Program) (ops:Array Oper) (C:World→Prop) (o:Oper) (v:Value) (a:Act):Prop:=
 (Region.wanted o (yielded ops a.tmps)=true∧∀w,C w→(execOp a.eval o).run P w = .ok (.value v) w)∨
 (Region.wanted o (yielded ops a.tmps)=false∧v=undef)
theorem YV.of_same {o:Oper} {v:Value} {a a':Act} (hy:YV P ops C o v a) (he:execOp a'.eval o=execOp a.eval o)
   (hw:Region.wanted o (yielded ops a'.tmps)=Region.wanted o (yielded ops a.tmps)):YV P ops C o v a':=by
 unfold YV at *
 rw [he,hw]
 exact hy
theorem YV.wpOp {i:Nat} {o:Oper} {v:Value} {a:Act} {w:World} (hi:ops[i]? = some o) (hy:YV P ops C o v a) (hC:C w) {K:Act→World→Prop} (h:K (a.put o.dst v) w):wpOp P ops Q i K a w:=by
 unfold Go.wpOp
 simp only [hi]
 rcases hy with ⟨hw,hv⟩ | ⟨hw,rfl⟩
 · simp only [hw,if_true]
   refine .inl ?_
   simp only [Oper.wp,hv w hC,Oper.upon_value]
   exact h
 · simp only [hw,Bool.false_eq_true,if_false]; exact h
def wpAnyC (P:Program) (md:Region.Mode) (ops:Array Oper) (C:World→Prop) (Q:Exit→Act→World→Prop):Nat→Array Bool→Act→World→Prop
 | 0,listed,a,w=>C w∧Region.ready md ops listed=[]∧Q .normal a w
 | fuel+1,listed,a,w=>C w∧(Region.ready md ops listed=[]→Q .normal a w)∧
   ∀i ∈ Region.ready md ops listed,wpOp P ops Q i (wpAnyC P md ops C Q fuel (listed.setIfInBounds i true)) a w
theorem wpAny_of_C:∀(fuel:Nat) (listed:Array Bool) (a:Act) (w:World),wpAnyC P md ops C Q fuel listed a w→wpAny P md ops Q fuel listed a w
 | 0,_,_,_,h=>h.2
 | fuel+1,listed,a,w,h=>⟨h.2.1,fun i hi=>wpOp_mono (fun a' w' h'=>wpAny_of_C fuel _ a' w' h') (h.2.2 i hi)⟩
theorem wpAnyC.c {fuel:Nat} {listed:Array Bool} {a:Act} {w:World} (h:wpAnyC P md ops C Q fuel listed a w):C w:=by cases fuel<;>exact h.1
theorem wpOp_putC {j:Nat} {oi oj:Oper} {v:Value} (hj:ops[j]? = some oj) (hap:oi.apart ops oj=true)
   (hsi:∀cs b,oi.op≠.select cs b) (hsj:∀cs b,oj.op≠.select cs b)
   (hQ:∀c a w,Q (.panic c) (a.put oi.dst v) w→Q (.panic c) a w) {K:Act→World→Prop} {a:Act} {w:World}
   (hy:YV P ops C oi v a) (h:wpOp P ops Q j K (a.put oi.dst v) w) :
   wpOp P ops Q j (fun a' w'=>YV P ops C oi v a'∧K (a'.put oi.dst v) w') a w:=by
 obtain ⟨h1,h2,h3⟩:=Oper.apart_spec hap
 have keep:∀(a:Act),YV P ops C oi v a→∀u,YV P ops C oi v (a.put oj.dst u):=fun a hy u=>
   hy.of_same (execOp_put oi hsi a oj.dst u h3) (wanted_put oi a oj.dst u h3)
 have keepD:∀d,YV P ops C oi v { a with defers:=d::a.defers }:=fun d=>hy.of_same rfl rfl
 unfold wpOp at *
 simp only [hj] at *
 rw [wanted_put oj a oi.dst v h1] at h
 split
 · rename_i hw
   simp only [hw,if_true] at h
   rcases h with h | ⟨hasks,hlets⟩
   case inr=>exact .inr ⟨by unfold Oper.asks at *; rw [execOp_put oj hsj a oi.dst v h1] at hasks; exact hasks,hlets⟩
   refine .inl ?_
   unfold Oper.wp at *
   rw [execOp_put oj hsj a oi.dst v h1] at h
   generalize (execOp a.eval oj).run P w=r at *
   cases r with
   | ok n w'=>
     cases n<;>simp only [Oper.upon] at h ⊢
     case value u=>exact ⟨keep a hy u,by rw [←Act.put_comm a v u h2]; exact h⟩
     case skip=>exact ⟨keep a hy _,by rw [←Act.put_comm a v undef h2]; exact h⟩
     case defer d=>
       refine ⟨keep _ (keepD d) _,?_⟩
       rw [←Act.put_comm _ v undef h2,←Act.put_defers]
       exact h
     case enter f args=>
       refine Calls.mono h fun e w'' he=>?_
       cases e with
       | returned u=>exact ⟨keep a hy u,by rw [←Act.put_comm a v u h2]; exact he⟩
       | panicked c=>exact hQ _ _ _ he
       | outgrown=>exact he
     case row row args=>exact Rows.mono h fun u w'' he=>⟨keep a hy u,by rw [←Act.put_comm a v u h2]; exact he⟩
   | halt x w'=>
     cases x<;>simp only [Oper.upon] at h ⊢
     case panic u=>exact hQ _ _ _ h
 · rename_i hw
   simp only [hw] at h
   exact ⟨keep a hy _,by rw [←Act.put_comm a v undef h2]; exact h⟩
theorem wpAnyC_first {i:Nat} {oi:Oper} {v:Value} (hi:ops[i]? = some oi) (hsel:∀(j:Nat) (o:Oper) cs b,ops[j]? = some o→o.op≠.select cs b)
   (hQ:∀c a w,Q (.panic c) (a.put oi.dst v) w→Q (.panic c) a w) :
   ∀(fuel:Nat) (listed:Array Bool) (a:Act) (w:World),
     (∀j oj,ops[j]? = some oj→j≠i→listed.getD j true=false→(∀e ∈ oj.after,Region.binds md e=true→e.on≠i)→oi.apart ops oj=true)→
     i ∈ Region.ready md ops listed→YV P ops C oi v a→C w→
     wpAnyC P md ops C Q fuel (listed.setIfInBounds i true) (a.put oi.dst v) w→wpAnyC P md ops C Q (fuel+1) listed a w:=by
 intro fuel
 induction fuel with
 | zero=>
   intro listed a w _ hr hy hC H
   refine ⟨hC,fun h=>(by rw [h] at hr; cases hr),fun j hj=>?_⟩
   by_cases hji:j=i
   · subst hji; exact hy.wpOp hi hC H
   · have:=ready_mono hj hji
     rw [H.2.1] at this
     cases this
 | succ fuel ih=>
   intro listed a w hfree hr hy hC H
   refine ⟨hC,fun h=>(by rw [h] at hr; cases hr),fun j hj=>?_⟩
   by_cases hji:j=i
   · subst hji; exact hy.wpOp hi hC H
   · have h1:=H.2.2 j (ready_mono hj hji)
     obtain ⟨hjun,oj,hoj,hall⟩:=mem_ready.1 hj
     have hnot:∀e ∈ oj.after,Region.binds md e=true→e.on≠i:=fun e he hb heq=>by
       have h1:=hall e he hb
       have h0:=(mem_ready.1 hr).1
       rw [heq] at h1
       rcases Nat.lt_or_ge i listed.size with h' | h'
       · simp [h'] at h0 h1; rw [h0] at h1; cases h1
       · simp [Array.getElem?_eq_none h'] at h1
     have h2:=wpOp_putC hoj (hfree j oj hoj hji hjun hnot) (fun cs b=>hsel i oi cs b hi) (fun cs b=>hsel j oj cs b hoj) hQ hy h1
     have hfree':∀k ok,ops[k]? = some ok→k≠i→(listed.setIfInBounds j true).getD k true=false→
         (∀e ∈ ok.after,Region.binds md e=true→e.on≠i)→oi.apart ops ok=true:=fun k ok hk hki hun hno=>by
       refine hfree k ok hk hki ?_ hno
       by_cases hjk:j=k
       · subst hjk; exact hjun
       · rw [getD_set_ne true hjk] at hun; exact hun
     refine wpOp_mono (fun a' w' h3=>ih (listed.setIfInBounds j true) a' w' hfree' (ready_mono hr (Ne.symm hji)) h3.1 h3.2.c ?_) h2
     rw [Array.setIfInBounds_comm _ _ hji]
     exact h3.2
def ordB (md:Region.Mode) (ops:Array Oper):List (Nat×Bool)→Array Bool→Bool
 | [],listed=>(Region.ready md ops listed).isEmpty
 | (i,q)::r,listed=>(bif q then (Region.ready md ops listed).contains i&&Region.free md ops listed i else Region.ready md ops listed==[i])&&ordB md ops r (listed.setIfInBounds i true)
def wpC (P:Program) (ops:Array Oper) (C:World→Prop) (Q:Exit→Act→World→Prop):List (Nat×Bool)→Act→World→Prop
 | [],a,w=>C w∧Q .normal a w
 | (i,true)::r,a,w=>C w∧∃o v,ops[i]? = some o∧YV P ops C o v a∧wpC P ops C Q r (a.put o.dst v) w
 | (i,false)::r,a,w=>C w∧wpOp P ops Q i (wpC P ops C Q r) a w
theorem wpAnyC_ord (hs:Region.noSelect ops=true) (hQ:∀c a w d v,Q (.panic c) (a.put d v) w→Q (.panic c) a w):∀(ord:List (Nat×Bool)) (listed:Array Bool) (a:Act) (w:World),
   ordB md ops ord listed=true→wpC P ops C Q ord a w→wpAnyC P md ops C Q ord.length listed a w
 | [],listed,a,w,hB,h=>⟨h.1,by simpa [ordB] using hB,h.2⟩
 | (i,true)::r,listed,a,w,hB,h=>by
   simp only [ordB,cond_true,Bool.and_eq_true] at hB
   obtain ⟨hC,o,v,ho,hy,h⟩:=h
   exact wpAnyC_first ho (Region.noSelect_spec hs) (fun c a w=>hQ c a w o.dst v) r.length listed a w (Region.free_spec ho hB.1.2) (by simpa using hB.1.1) hy hC
     (wpAnyC_ord hs hQ r _ _ _ hB.2 h)
 | (i,false)::r,listed,a,w,hB,h=>by
   simp only [ordB,cond_false,Bool.and_eq_true,beq_iff_eq] at hB
   refine ⟨h.1,fun he=>(by rw [he] at hB; cases hB.1),fun j hj=>?_⟩
   rw [hB.1] at hj
   simp at hj
   subst hj
   exact wpOp_mono (fun a' w' h'=>wpAnyC_ord hs hQ r _ _ _ hB.2 h') h.2
theorem wp_region_c {id:Nat} {a:Act} {w:World} {l:List Oper} (ord:List (Nat×Bool)) (hm:P.follows .mixedOrders=true) (hB:(Region.noSelect l.toArray&&(ord.length==l.toArray.size&&ordB .any l.toArray ord (Array.replicate l.toArray.size false)))=true)
   (hQ:∀c a w d v,Q (.panic c) (a.put d v) w→Q (.panic c) a w) (h:wpC P l.toArray C Q ord a w.drew):(Code.region id l.toArray true).wp P Q a w:=by
 simp only [Bool.and_eq_true,beq_iff_eq] at hB
 have:=wpAny_of_C (md:=.any) _ _ _ _ (wpAnyC_ord hB.1 hQ ord _ a w.drew hB.2.2 h)
 rw [hB.2.1] at this
 exact wp_region_any hm this
variable {n:Nat} {ds:List Deferred} {l:List (Nat×Value)} {W:World→Prop}
def WD (P:Program) (ops:Array Oper) (C:World→Prop) (Q:Exit→Act→World→Prop) (n:Nat) (ds:List Deferred) (l:List (Nat×Value)) (W:World→Prop) (ord:List (Nat×Bool)):Prop:=
 ∀a w,Ag n ds l a→W w→wpC P ops C Q ord a w
theorem WC.draws {id:Nat} {os:List Oper} (C:World→Prop) (ord:List (Nat×Bool)) (hm:P.follows .mixedOrders=true) (hB:(Region.noSelect os.toArray&&(ord.length==os.toArray.size&&ordB .any os.toArray ord (Array.replicate os.toArray.size false)))=true)
   (hQ:∀c a w d v,Q (.panic c) (a.put d v) w→Q (.panic c) a w) (hW:∀w,W w→W w.drew) (h:WD P os.toArray C Q n ds l W ord):WC P (.region id os.toArray true) Q n ds l W:=
 fun a w ha hw=>wp_region_c ord hm hB hQ (h a w.drew ha (hW w hw))
theorem Dq {r:List (Nat×Bool)} {i d:Nat} {op:Op} {ty:TypeId} {pos:String} {af:Array Edge} {g:Option (Nat×Bool)} {v:Value} (hi:ops[i]? = some ⟨some d,op,ty,pos,af,g⟩) (hg:GOk ops l g) (hn:Nat.blt d n=true)
   (hC:∀w,W w→C w) (hy:Yl P l C ⟨some d,op,ty,pos,af,g⟩ v) (h:WD P ops C Q n ds ((d,v)::l) W r):WD P ops C Q n ds l W ((i,true)::r):=by
 intro a w ha hw
 refine ⟨hC w hw,_,v,hi,.inl ⟨GOk.wanted (o:=⟨some d,op,ty,pos,af,g⟩) hg ha,fun w' hw'=>hy a.eval w' (fun x u hx=>ha.eval hx) hw'⟩,h _ _ (ha.put hn v) hw⟩
theorem D0 {i d:Nat} {op:Op} {ty:TypeId} {pos:String} {af:Array Edge} {v:Value} {r:List (Nat×Bool)} (hi:ops[i]? = some ⟨some d,op,ty,pos,af,none⟩) (hC:∀w,W w→C w) (hy:Yl P l C ⟨some d,op,ty,pos,af,none⟩ v) (h:WD P ops C Q n ds ((d,v)::l) W r) (hn:Nat.blt d n=true:=by rfl):WD P ops C Q n ds l W ((i,true)::r):=Dq hi (.inl rfl) hn hC hy h
theorem De {r:List (Nat×Bool)} {i:Nat} {o:Oper} (hi:ops[i]? = some o) (hC:∀w,W w→C w) (h:WL P ops (Exit.then (wpC P ops C Q r) Q) n ds l W [o]):WD P ops C Q n ds l W ((i,false)::r):=by
 intro a w ha hw
 refine ⟨hC w hw,?_⟩
 have:=h a w ha hw
 unfold wpList at this
 unfold wpOp
 simp only [hi]
 split
 · rename_i hw'
   rw [if_pos hw'] at this
   rcases this with this | ⟨h1,a2,w2,h2⟩
   · left
     unfold Oper.wp at this ⊢
     unfold Oper.upon at this ⊢
     split at this
     all_goals first
       | exact this
       | (refine this.mono fun e w' he=>?_
          cases e with
          | returned v=>exact he
          | panicked ch=>exact he
          | outgrown=>obtain ⟨a3,w3,h3⟩:=he; exact ⟨a3,w3,h3⟩)
       | exact this.mono fun v w' he=>he
   · exact .inr ⟨h1,a2,w2,h2⟩
 · rename_i hw'
   rw [if_neg hw'] at this
   exact this
theorem Ed {r:List (Nat×Bool)} (h:WD P ops C Q n ds l W r):WE (Exit.then (wpC P ops C Q r) Q) .normal n ds l W:=h
theorem WD.nil (hC:∀w,W w→C w) (h:WE Q .normal n ds l W):WD P ops C Q n ds l W []:=fun a w ha hw=>⟨hC w hw,h a w ha hw⟩
theorem Ws.drew {w0 w:World} {F:List Nat} {L:List Asr} {Vs:List View} (h:Ws w0 F L Vs w):Ws w0 F L Vs w.drew:=h.ext (Ext.drew w)
theorem Ws.out {w0 w:World} {F:List Nat} {L:List Asr} {Vs:List View} (i:Nat) (h:Ws w0 F L Vs w):Ws w0 F (outOf i L) Vs w:=by
 cases hx:L[i]? with
 | none=>
   have:outOf i L=L:=by
     clear h
     induction L generalizing i with
     | nil=>cases i<;>rfl
     | cons x r ih=>
       cases i with
       | zero=>simp at hx
       | succ i=>simp only [outOf]; rw [ih i (by simpa using hx)]
   rw [this]; exact h
 | some x=>exact Ws.drop (L:=[x]) (h.perm (outOf_perm i L hx))
end
end Go.Bw
end
section
namespace Go.Bw
open Go Go.RowKit
section
variable {P:Program} {ops:Array Oper} {Q:Exit→Act→World→Prop} {n:Nat} {ds:List Deferred} {l l':List (Nat×Value)} {W:World→Prop} {w0:World} {F:List Nat} {L:List Asr} {Vs:List View}
 {rest:List Oper} {d:Nat} {ty:TypeId} {pos:String} {af:Array Edge} {g:Option (Nat×Bool)}
def zerosL (z:Value) (k:Nat):List Value:=(List.range k).map fun i=>((vcells z)[i % (vcells z).length]?).getD undef
theorem zerosL_eq (z:Value) (k:Nat) (hz:0<z.cells.size):((Array.range k).map (z.cells[· % z.cells.size]!):Array Value).toList=zerosL z k:=by
 simp only [Array.toList_map,Array.toList_range,zerosL]
 apply List.map_congr_left
 intro i _
 have hlt:i % z.cells.size<z.cells.size:=Nat.mod_lt _ hz
 have e:(vcells z).length=z.cells.size:=by rw [←vcells_eq]; simp
 rw [e,←vcells_eq]
 simp [hlt]
theorem WL.bslice {t e:TypeId} {len size bytes:Nat} {parts:List (Nat×Operand)} {z:Value} {vs:List (Nat×Value)} {out:List Value} (hg:GOk ops l g) (hn:Nat.blt d n=true) (hE:EltOk P t e z size bytes)
   (hv:evp l parts=some vs) (hb:Nat.ble (len*size) 16777216=true) (hf:fillL (fun i=>some (i*size,size)) (bif Nat.beq (len*size) 0 then [] else zerosL z (len*size)) vs=some out)
   (h:∀b,WL P ops Q n ds ((d,.slice (some ⟨b,0,none⟩) len len)::l) (Ws w0 F (blk b (.cells out.toArray e (0,0))::L) Vs) rest) :
   WL P ops Q n ds l (Ws w0 F L Vs) (⟨some d,.buildSlice t len parts.toArray,ty,pos,af,g⟩::rest):=by
 obtain ⟨inf,hi,hz,hsz,hbt⟩:=hE.info
 have hb':=Nat.le_of_ble_eq_true hb
 refine WL.new (mk:=fun b=>.slice (some ⟨b,0,none⟩) len len) hg hn (fun ρ w hρ hw=>?_) h
 have e1:((parts.toArray.map fun (i,x)=>(i,ρ x)):Array (Nat×Value)).toList=vs:=by simpa using evp_map hρ parts vs hv
 have hzs:zeroOf P e=some z:=by simp [zeroOf,hi,hz]
 have hss:sizeP P e=some size:=by simp [sizeP,hi,hsz]
 have hnot:¬len*size > 2 ^ 24:=by omega
 by_cases h0:len*size=0
 · have hfill:Instr.fill (fun i=>some (i*size,size)) #[] vs=some out.toArray:=by
     refine fill_of _ vs #[] out ?_
     simpa [h0] using hf
   simp only [execOp,Instr.buildSlice,Sem.run_bind,run_underlying hE.under,Result.andThen_ok,run_size hss,if_neg hnot,Sem.run_pure,if_pos h0,e1]
   simp [h0,hfill,newRow,Array.range_zero']
 · have hfill:Instr.fill (fun i=>some (i*size,size)) ((Array.range (len*size)).map (z.cells[· % z.cells.size]!)) vs=some out.toArray:=by
     refine fill_of _ vs _ out ?_
     rw [zerosL_eq z _ (by rw [hE.zs]; exact hE.pos)]
     have:Nat.beq (len*size) 0=false:=by
       cases hbq:Nat.beq (len*size) 0 with
       | false=>rfl
       | true=>exact absurd (Nat.eq_of_beq_eq_true hbq) h0
     simpa [this] using hf
   simp only [execOp,Instr.buildSlice,Sem.run_bind,run_underlying hE.under,Result.andThen_ok,run_size hss,if_neg hnot,Sem.run_pure,if_neg h0,e1,run_zero hzs,hfill]
   simp [newRow]
theorem run_callv {ρ:Operand→Value} {dst:Option Tmp} {f:FuncId} {cx:Operand} {caps:Array Value} {args:Array Operand} {ts:Array TypeId} {vs:List Value} {w:World} (hf:Enters P f) (hρ:∀x u,opv l x=some u→ρ x=u)
   (hcx:opv l cx=some (.func (.func f) #[] caps)) (ha:evs l args.toList=some vs) :
   (execOp ρ ⟨dst,.call ⟨.value cx,args,ts⟩,ty,pos,af,g⟩).run P w = .ok (.enter f (vs.toArray++caps)) w:=by
 have e:args.map ρ=vs.toArray:=by
   apply Array.ext'
   simpa using evs_map hρ _ _ ha
 simp only [execOp,resolve,e,hρ cx _ hcx,Deferred.ofValue,Sem.run_bind,Sem.run_pure,Result.andThen_ok,invoke]
 simpa using hf _ w
theorem WL.callvx {ι:Type} {f:FuncId} {cx:Operand} {caps:Array Value} {args:Array Operand} {ts:Array TypeId} {vs:List Value} (hg:GOk ops l g) (hn:Nat.blt d n=true) (hf:Enters P f) (hcx:opv l cx=some (.func (.func f) #[] caps)) (ha:evs l args.toList=some vs)
   (v:ι→Value) (R:ι→World→Prop) (Pn:List PanicEntry→World→Prop)
   (hC:∀w,W w→Calls P f (vs.toArray++caps) w fun e w'=>(∃i,e = .returned (v i)∧R i w')∨∃ch,e = .panicked ch∧Pn ch w')
   (hr:∀i,WL P ops Q n ds ((d,v i)::l) (R i) rest) (hp:∀ch,WE Q (.panic ch) n ds l (Pn ch)) :
   WL P ops Q n ds l W (⟨some d,.call ⟨.value cx,args,ts⟩,ty,pos,af,g⟩::rest):=by
 refine WL.step hg fun a w ha' hw K hK=>?_
 have hrun:=run_callv (P:=P) (dst:=some d) (ts:=ts) (ty:=ty) (pos:=pos) (af:=af) (g:=g) (w:=w) hf (fun x u hx=>ha'.eval hx) hcx ha
 simp only [Oper.wp,hrun,Oper.upon_enter]
 refine (hC w hw).mono fun e w' he=>?_
 rcases he with ⟨i,rfl,h⟩ | ⟨ch,rfl,h⟩
 · exact hK _ _ (hr i _ _ (ha'.put hn _) h)
 · exact hp ch _ _ ha' h
theorem WL.callvp {f:FuncId} {cx:Operand} {caps:Array Value} {args:Array Operand} {ts:Array TypeId} {vs:List Value} {v:Value} (hg:GOk ops l g) (hn:Nat.blt d n=true) (hf:Enters P f) (hcx:opv l cx=some (.func (.func f) #[] caps)) (ha:evs l args.toList=some vs)
   (hC:∀w,Ws w0 F L Vs w→Calls P f (vs.toArray++caps) w fun e w'=>e = .returned v∧Ext w w')
   (hr:WL P ops Q n ds ((d,v)::l) (Ws w0 F L Vs) rest) :
   WL P ops Q n ds l (Ws w0 F L Vs) (⟨some d,.call ⟨.value cx,args,ts⟩,ty,pos,af,g⟩::rest):=by
 refine WL.step hg fun a w ha' hw K hK=>?_
 have hrun:=run_callv (P:=P) (dst:=some d) (ts:=ts) (ty:=ty) (pos:=pos) (af:=af) (g:=g) (w:=w) hf (fun x u hx=>ha'.eval hx) hcx ha
 simp only [Oper.wp,hrun,Oper.upon_enter]
 refine (hC w hw).mono fun e w' he=>?_
 obtain ⟨rfl,h⟩:=he
 exact hK _ _ (hr _ _ (ha'.put hn _) (hw.ext h))
theorem WE.retc1 {fn:Func} {R:Ending→World→Prop} {a b o k:Nat} {t:TypeId} {ob:Obj} (i:Nat) (hr:fn.results = #[.cell a t]) (ha:lk l a=some (.pointer (some ⟨b,o,none⟩))) (hL:L[i]? = some (blk b ob)) (ht:aggOf P t=some k) (hl:(cellsIn ob o k).length=k)
   (h:∀w,Ws w0 F L Vs w→R (.returned (.agg (cellsIn ob o k).toArray)) w):WE (bodyPost P fn R) .ret n [] l (Ws w0 F L Vs):=by
 intro A w hA hw
 have hrun:(loadVar t ⟨b,o,none⟩).run P w = .ok (.agg (cellsIn ob o k).toArray) w:=run_loadVar_agg ht hl fun j v hj=>by
   have hk:w.heap[b]? = some ob:=hw.kn _ (mem_of_idx hL)
   refine cell_of_heap hk ?_
   cases ob<;>simp [cellsIn,cellIn] at *
   rw [List.getElem?_take] at hj
   split at hj
   · simpa using hj
   · cases hj
 refine bodyPost_ret (v:=.agg (cellsIn ob o k).toArray) ?_ hA.defs (h w hw)
 have ha':=hA.vals a _ ha
 rw [Array.getD_eq_getD_getElem?] at ha'
 simp [results,hr,ha',asAddr,hrun]
theorem WE.retc2 {fn:Func} {R:Ending→World→Prop} {a b o k u:Nat} {x:Value} {t:TypeId} {ob:Obj} (i:Nat) (hr:fn.results = #[.cell a t,.tmp u]) (ha:lk l a=some (.pointer (some ⟨b,o,none⟩))) (hu:lk l u=some x) (hL:L[i]? = some (blk b ob)) (ht:aggOf P t=some k) (hl:(cellsIn ob o k).length=k)
   (h:∀w,Ws w0 F L Vs w→R (.returned (.tuple #[.agg (cellsIn ob o k).toArray,x])) w):WE (bodyPost P fn R) .ret n [] l (Ws w0 F L Vs):=by
 intro A w hA hw
 have hrun:(loadVar t ⟨b,o,none⟩).run P w = .ok (.agg (cellsIn ob o k).toArray) w:=run_loadVar_agg ht hl fun j v hj=>by
   have hk:w.heap[b]? = some ob:=hw.kn _ (mem_of_idx hL)
   refine cell_of_heap hk ?_
   cases ob<;>simp [cellsIn,cellIn] at *
   rw [List.getElem?_take] at hj
   split at hj
   · simpa using hj
   · cases hj
 refine bodyPost_ret (v:=.tuple #[.agg (cellsIn ob o k).toArray,x]) ?_ hA.defs (h w hw)
 have ha':=hA.vals a _ ha
 have hu':=hA.vals u _ hu
 rw [Array.getD_eq_getD_getElem?] at ha' hu'
 simp [results,hr,ha',hu',asAddr,hrun]
end
theorem Ws.nvc {w0 w:World} {L:List Asr} {Vs:List View} (h:Ws w0 [] L Vs w) (i:Nat) {b:Nat} {ob:Obj} (hL:L[i]? = some (blk b ob)) {k:Nat} {v:Value} (hc:cellIn ob k=some v):vc (nv w0 w) b k=some v:=by
 have hb:w.heap[b]? = some ob:=h.kn _ (mem_of_idx hL)
 have ho:=h.own _ (mem_of_idx hL) b (by simp [blk])
 simp at ho
 unfold vc nv
 rw [if_pos ho,hb]
 exact hc
theorem Ws.nvs {w0 w:World} {L:List Asr} {Vs:List View} (h:Ws w0 [] L Vs w) (i:Nat) {e:TypeId} {size m:Nat} {v:Value} {xs:List Value} (hL:L[i]? = some (osl e size v m xs)) :
   (v = .slice none 0 0∧xs=[])∨∃b c,v = .slice (some ⟨b,0,none⟩) m c∧m≤c∧c≤maxLen∧∀j u,xs[j]? = some u→vc (nv w0 w) b j=some u:=by
 obtain ⟨h1,h2⟩:=(h.kn _ (mem_of_idx hL):w.ownsRow 0 e size v m xs)
 rcases h2 with ⟨rfl,rfl⟩ | ⟨b,cap,cur,rfl,_,hb,hm,hc,hs,ht⟩
 · exact .inl ⟨O,by cases xs; rfl; simp at h1⟩
 · refine .inr ⟨b,cap,O,hm,hc,fun j u hu=>?_⟩
   have ho:=h.own _ (mem_of_idx hL) b (by simp [osl,Value.ownBlock])
   simp at ho
   unfold vc nv
   rw [if_pos ho,hb]
   rw [←ht,List.getElem?_take] at hu
   split at hu
   · simpa [cellIn] using hu
   · cases hu
end Go.Bw
end
section
namespace Go.Bw
open Go Go.RowKit
theorem flat_length {α:Type} {f:α→List Value} {k:Nat} (hf:∀x,(f x).length=k):∀l:List α,(l.flatMap f).length=l.length*k
 | []=>by simp
 | x::r=>by simp [hf,flat_length hf r,Nat.add_mul]; omega
theorem flat_split {α:Type} {f:α→List Value} {k:Nat} (hf:∀x,(f x).length=k):∀(l:List α) (i:Nat) (x:α),l[i]? = some x→
   l.flatMap f=(l.take i).flatMap f++f x++(l.drop (i+1)).flatMap f
 | [],i,x,h=>by simp at h
 | y::r,0,x,h=>by simp at h; simp [h]
 | y::r,i+1,x,h=>by
   have:=flat_split hf r i x (by simpa using h)
   simp only [List.flatMap_cons,List.take_succ_cons,List.drop_succ_cons]
   rw [this]
   simp
theorem flat_get {α:Type} {f:α→List Value} {k:Nat} (hf:∀x,(f x).length=k) {l:List α} {i:Nat} {x:α} (h:l[i]? = some x) {j:Nat} (hj:j<k):(l.flatMap f)[i*k+j]? = (f x)[j]?:=by
 have hi:=(List.getElem?_eq_some_iff.1 h).1
 have e1:((l.take i).flatMap f).length=i*k:=by rw [flat_length hf,List.length_take,Nat.min_eq_left (by omega)]
 rw [flat_split hf l i x h,List.append_assoc,List.getElem?_append_right (by omega),e1,Nat.add_sub_cancel_left,List.getElem?_append_left (by rw [hf]; exact hj)]
theorem flat_set {α:Type} {f:α→List Value} {k:Nat} (hf:∀x,(f x).length=k) {l:List α} {i:Nat} {x y:α} (h:l[i]? = some x) {j:Nat} {vs:List Value} (hj:j+vs.length≤k) (hy:f y=(f x).take j++vs++(f x).drop (j+vs.length)) :
   (l.flatMap f).take (i*k+j)++vs++(l.flatMap f).drop (i*k+j+vs.length)=(l.set i y).flatMap f:=by
 have hi:=(List.getElem?_eq_some_iff.1 h).1
 have e1:((l.take i).flatMap f).length=i*k:=by rw [flat_length hf,List.length_take,Nat.min_eq_left (by omega)]
 have h2:(l.set i y)[i]? = some y:=by simp [hi]
 rw [flat_split hf (l.set i y) i y h2,flat_split hf l i x h,hy]
 have ht:(l.set i y).take i=l.take i:=List.take_set_of_le (Nat.le_refl i)
 have hd:(l.set i y).drop (i+1)=l.drop (i+1):=List.drop_set_of_lt (by omega)
 rw [ht,hd]
 generalize hA:(l.take i).flatMap f=A at *
 generalize hB:(l.drop (i+1)).flatMap f=B at *
 have t1:(A++f x++B).take (i*k+j)=A++(f x).take j:=by
   rw [List.append_assoc,List.take_append,e1,List.take_of_length_le (by omega),Nat.add_sub_cancel_left,List.take_append_of_le_length (by rw [hf]; omega)]
 have t2:(A++f x++B).drop (i*k+j+vs.length)=(f x).drop (j+vs.length)++B:=by
   rw [List.append_assoc,List.drop_append,e1,List.drop_of_length_le (by omega),List.nil_append,List.drop_append,hf]
   have e3:i*k+j+vs.length-i*k=j+vs.length:=by omega
   rw [e3]
   have e4:j+vs.length-k=0:=by omega
   simp [e4]
 rw [t1,t2]
 simp
section
variable {P:Program} {ops:Array Oper} {Q:Exit→Act→World→Prop} {n:Nat} {ds:List Deferred} {l l':List (Nat×Value)} {W:World→Prop} {w0:World} {F:List Nat} {L:List Asr} {Vs:List View}
 {rest:List Oper} {d:Nat} {ty:TypeId} {pos:String} {af:Array Edge} {g:Option (Nat×Bool)}
theorem osl_cell {e:TypeId} {size m c b:Nat} {xs:List Value} {w:World} (h:(osl e size (.slice (some ⟨b,0,none⟩) m c) m xs).holds w):∃cur,w.heap[b]? = some (.cells cur e (0,0))∧cur.toList.take (m*size)=xs∧cur.size=c*size∧m≤c∧xs.length=m*size:=by
 obtain ⟨h1,h2⟩:=(h:w.ownsRow 0 e size _ m xs)
 rcases h2 with ⟨h2,_⟩ | ⟨g',cap,cur,hv,_,hb,hm,hc,hs,ht⟩
 · cases h2
 · injection hv with h3 _ h4
   injection h3 with h3
   injection h3 with h3
   subst h3; subst h4
   exact ⟨cur,hb,ht,hs,hm,h1⟩
theorem WL.asOsl {b m cap:Nat} {cur:Array Value} {e:TypeId} {size:Nat} (i:Nat) (hL:L[i]? = some (blk b (.cells cur e (0,0)))) (hm:m≤cap) (hc:cap≤maxLen) (hs:cur.size=cap*size)
   (h:WL P ops Q n ds l (Ws w0 F (L.set i (osl e size (.slice (some ⟨b,0,none⟩) m cap) m (cur.toList.take (m*size)))) Vs) rest):WL P ops Q n ds l (Ws w0 F L Vs) rest:=
 LW (fun _ hw=>hw.osl_blk i hL hm hc hs) h
end
section
variable {P:Program} {l:List (Nat×Value)} {W:World→Prop} {d:Option Tmp} {ty:TypeId} {pos:String} {af:Array Edge} {g:Option (Nat×Bool)}
theorem yl_eqnil {t u:TypeId} {x:Operand} {a:Option Addr} {m c s:Nat} (hs:elemSz P t=some s) (hx:opv l x=some (.slice a m c)):Yl P l W ⟨d,.binOp .eql t x (.const (.slice none 0 0)) u,ty,pos,af,g⟩ (.bool a.isNone):=by
 intro ρ w hρ _
 unfold elemSz at hs
 cases hu:P.underlying t with
 | none=>simp [hu] at hs
 | some dd=>
   cases dd<;>simp [hu] at hs
   have hy:ρ (.const (.slice none 0 0)) = .slice none 0 0:=hρ _ _ rfl
   rename_i el
   have e:(binOp .eql t (.slice a m c) (.slice none 0 0)).run P w = .ok (.bool a.isNone) w:=by
     simp only [binOp]
     simp [Op.equal,Op.maxDepth,Lib.run_equalIn_slice_nil w 9999 t el a m c 0 0 hu]
   simp only [execOp,hρ x _ hx,hy,eqGuard,Sem.run_bind]
   simp [e]
end
end Go.Bw
end
section
namespace Go.Bw
open Go Go.RowKit
section
variable {P:Program} {ops:Array Oper} {Q:Exit→Act→World→Prop} {n:Nat} {ds:List Deferred} {l l':List (Nat×Value)} {W:World→Prop} {w0:World} {F:List Nat} {L:List Asr} {Vs:List View}
 {rest:List Oper} {d:Nat} {ty:TypeId} {pos:String} {af:Array Edge} {g:Option (Nat×Bool)}
theorem Lf {A:Asr} (i:Nat) (hL:L[i]? = some A) (h:WL P ops Q n ds l (Ws w0 F (A::outOf i L) Vs) rest):WL P ops Q n ds l (Ws w0 F L Vs) rest:=
 LW (fun _ hw=>hw.perm (outOf_perm i L hL)) h
theorem WC.front {c:Code} {A:Asr} (i:Nat) (hL:L[i]? = some A) (h:WC P c Q n ds l (Ws w0 F (A::outOf i L) Vs)):WC P c Q n ds l (Ws w0 F L Vs):=
 CWd (fun _ hw=>hw.perm (outOf_perm i L hL)) h
theorem Ws.self {w:World} {L1 L2:List Asr} (h:Ws w0 F (L1++L2) Vs w):Ws w (L1.flatMap Asr.ids) L1 Vs w:=by
 have nd:=h.nd
 rw [List.flatMap_append,List.nodup_append] at nd
 exact ⟨Fr.refl _ _,fun A hA=>h.kn A (by simp [hA]),nd.1,fun A hA k hk=>.inl (List.mem_flatMap.2 ⟨A,hA,hk⟩),h.vs,fun H hH A hA=>h.off H hH A (by simp [hA])⟩
theorem Ws.back {w w':World} {L1 L1' L2:List Asr} {Vs':List View} (h:Ws w0 F (L1++L2) Vs w) (g:Ws w (L1.flatMap Asr.ids) L1' Vs' w'):Ws w0 F (L1'++L2) Vs w':=
 Ws.turn h g.fr g.kn g.nd g.own
theorem Lw {ι:Type} {f:FuncId} {args:Array Operand} {ts:Array TypeId} {vs:List Value} (L1 L2:List Asr) (hg:GOk ops l g) (hn:Nat.blt d n=true) (hf:Enters P f) (ha:evs l args.toList=some vs) (hL:L=L1++L2)
   (v:ι→Value) (L1':ι→List Asr) (R:ι→Prop) (Vs':List View) (hV:∀H ∈ Vs',H ∈ Vs)
   (hC:∀w,Ws w (L1.flatMap Asr.ids) L1 Vs' w→Calls P f vs.toArray w fun e w'=>∃i,e = .returned (v i)∧R i∧Ws w (L1.flatMap Asr.ids) (L1' i) Vs' w')
   (hr:∀i,R i→WL P ops Q n ds ((d,v i)::l) (Ws w0 F (L1' i++L2) Vs) rest) :
   WL P ops Q n ds l (Ws w0 F L Vs) (⟨some d,.call ⟨.value (.func f),args,ts⟩,ty,pos,af,g⟩::rest):=by
 subst hL
 refine WL.call hg hn hf ha v (fun i w'=>R i∧Ws w0 F (L1' i++L2) Vs w') (fun w hw=>(hC w (hw.self.drops hV)).mono fun e w' ⟨i,he,hR,h⟩=>⟨i,he,hR,hw.back h⟩) fun i=>?_
 intro a w ha' hw
 exact hr i hw.1 a w ha' hw.2
theorem Lw0 {f:FuncId} {args:Array Operand} {ts:Array TypeId} {vs:List Value} (L1 L2 L1':List Asr) (hg:GOk ops l g) (hn:Nat.blt d n=true) (hf:Enters P f) (ha:evs l args.toList=some vs) (hL:L=L1++L2)
   (Vs':List View) (hV:∀H ∈ Vs',H ∈ Vs)
   (hC:∀w,Ws w (L1.flatMap Asr.ids) L1 Vs' w→Calls P f vs.toArray w fun e w'=>e = .returned (.tuple #[])∧Ws w (L1.flatMap Asr.ids) L1' Vs' w')
   (hr:WL P ops Q n ds ((d,.tuple #[])::l) (Ws w0 F (L1'++L2) Vs) rest) :
   WL P ops Q n ds l (Ws w0 F L Vs) (⟨some d,.call ⟨.value (.func f),args,ts⟩,ty,pos,af,g⟩::rest):=
 Lw (ι:=Unit) L1 L2 hg hn hf ha hL (fun _=>.tuple #[]) (fun _=>L1') (fun _=>True) Vs' hV (fun w hw=>(hC w hw).mono fun e w' ⟨h1,h2⟩=>⟨(),h1,trivial,h2⟩) (fun _ _=>hr)
end
def hv (w:World):View:=fun b=>w.heap[b]?
theorem hv_le (w:World):Le (hv w) w:=fun _ _ h=>h
theorem hv_blk {w:World} {b k:Nat} {ob:Obj} {v:Value} (h:w.heap[b]? = some ob) (hc:cellIn ob k=some v):vc (hv w) b k=some v:=by simp [vc,hv,h,hc]
theorem hv_of {w:World} {H:View} (h:Le H w):VLe H (hv w):=fun b o hb=>h b o hb
theorem Ws.hvb {w0 w:World} {F:List Nat} {L:List Asr} {Vs:List View} (h:Ws w0 F L Vs w) (i:Nat) {b:Nat} {ob:Obj} (hL:L[i]? = some (blk b ob)) {k:Nat} {v:Value} (hc:cellIn ob k=some v):vc (hv w) b k=some v:=
 hv_blk (h.kn _ (mem_of_idx hL)) hc
end Go.Bw
namespace Go.Bw
open Go Go.RowKit
section
variable {P:Program} {ops:Array Oper} {Q:Exit→Act→World→Prop} {n:Nat} {ds:List Deferred} {l l':List (Nat×Value)} {W:World→Prop} {w0:World} {F:List Nat} {L:List Asr} {Vs:List View} {rest:List Oper}
theorem Lrb {b:Nat} {ob:Obj} (i:Nat) (ob':Obj) (hL:L[i]? = some (blk b ob)) (he:ob=ob') (h:WL P ops Q n ds l (Ws w0 F (L.set i (blk b ob')) Vs) rest):WL P ops Q n ds l (Ws w0 F L Vs) rest:=by
 subst he
 have:L.set i (blk b ob)=L:=by
   obtain ⟨hi,he⟩:=List.getElem?_eq_some_iff.1 hL
   rw [←he]
   exact List.set_getElem_self hi
 rwa [this] at h
end
end Go.Bw
end
section
namespace Go.Bw
open Go Go.RowKit
def kindP (P:Program) (t:TypeId):Option Nat:=match P.underlying t with | some (.int _)=>some 0 | some .string=>some 1 | some .bool=>some 2 | _=>none
def kindsL (P:Program):Nat→List Field→Option (List Nat)
 | _,[]=>some []
 | i, f :: r => bif Nat.beq f.offset i && !(f.name == "_") then (match kindP P f.type, kindsL P (i + 1) r with | some k, some ks => some (k :: ks) | _, _ => none) else none
def flatSt (P:Program) (t:TypeId):Option (List Nat):=match P.underlying t with
 | some (.struct fs)=>bif P.stoodInHeld t||P.eqGuardType P.depth t then none else kindsL P 0 fs.toList
 | _=>none
def eqK:List Nat→List Value→List Value→Option Bool
 | [],[],[]=>some true
 | 0::ks,.int k a::xs,.int k' b::ys=>match eqK ks xs ys with | some r=>if k=k' then some ((a==b)&&r) else none | none=>none
 | 1::ks,.string a::xs,.string b::ys=>match eqK ks xs ys with | some r=>some ((a.data.toList==b.data.toList)&&r) | none=>none
 | 2::ks,.bool a::xs,.bool b::ys=>match eqK ks xs ys with | some r=>some ((a==b)&&r) | none=>none
 | _,_,_=>none
section
variable {P:Program}
theorem run_part {t:TypeId} {k:Nat} (h:kindP P t=some k) (cs:Array Value) (off:Nat) (v:Value) (hv:cs[off]? = some v) (w:World):(part t cs off).run P w = .ok v w:=by
 have hn:nonAgg P t=true:=by
   unfold kindP at h
   unfold nonAgg
   cases hu:P.underlying t with
   | none=>simp [hu] at h
   | some d=>cases d<;>simp_all
 simp [part,run_isAgg_non hn,hv]
theorem run_eqFields (d:Nat):∀(fs:List Field) (i:Nat) (ks:List Nat) (xs ys:List Value) (pre pre':List Value) (r:Bool) (w:World),kindsL P i fs=some ks→eqK ks xs ys=some r→pre.length=i→pre'.length=i→
   (Op.eqFields (d+1) (pre++xs).toArray (pre'++ys).toArray fs).run P w = .ok r w
 | [],i,ks,xs,ys,pre,pre',r,w,hk,he,_,_=>by
   simp [kindsL] at hk
   subst hk
   cases xs<;>cases ys<;>simp [eqK] at he
   subst he
   simp [Op.eqFields]
 | f::fs,i,ks,xs,ys,pre,pre',r,w,hk,he,hp,hp'=>by
   simp only [kindsL] at hk
   cases hb : (Nat.beq f.offset i && !(f.name == "_")) with
   | false=>rw [hb] at hk; cases hk
   | true=>
     rw [hb] at hk
     simp only [cond_true] at hk
     simp only [Bool.and_eq_true] at hb
     have ho:=Nat.eq_of_beq_eq_true hb.1
     have hname : f.name ≠ "_" := by simpa using hb.2
     cases hkk:kindP P f.type with
     | none=>simp [hkk] at hk
     | some k=>
       cases hkr:kindsL P (i+1) fs with
       | none=>simp [hkk,hkr] at hk
       | some kr=>
         simp [hkk,hkr] at hk
         subst hk
         cases xs with
         | nil=>cases ys<;>simp [eqK] at he
         | cons x xs=>
           cases ys with
           | nil=>rcases k with _ | _ | _ | k<;>cases x<;>simp [eqK] at he
           | cons y ys=>
             have hx:((pre++x::xs).toArray)[f.offset]? = some x:=by simp [ho,←hp]
             have hy:((pre'++y::ys).toArray)[f.offset]? = some y:=by simp [ho,←hp']
             have key:∀b r',(Op.equalIn (d+1) f.type x y).run P w = .ok b w→eqK kr xs ys=some r'→r=(b&&r')→(Op.eqFields (d+1) (pre++x::xs).toArray (pre'++y::ys).toArray (f::fs)).run P w = .ok r w:=by
               intro b r' h1 h2 h3
               have ih:=run_eqFields d fs (i+1) kr xs ys (pre++[x]) (pre'++[y]) r' w hkr h2 (by simp [hp]) (by simp [hp'])
               simp only [List.append_assoc,List.singleton_append] at ih
               simp only [Op.eqFields,hname,ne_eq,not_false_eq_true,if_true,Sem.run_bind,run_part hkk _ _ _ hx,run_part hkk _ _ _ hy,Result.andThen_ok,h1]
               cases b
               · simp [h3]
               · simp [h3,ih]
             unfold kindP at hkk
             cases hu:P.underlying f.type with
             | none=>simp [hu] at hkk
             | some td=>
               cases he':eqK kr xs ys with
               | none=>cases td<;>simp [hu] at hkk<;>subst hkk<;>cases x<;>cases y<;>simp [eqK,he'] at he
               | some r'=>
                 cases td<;>simp [hu] at hkk<;>subst hkk<;>cases x<;>cases y<;>simp [eqK,he'] at he
                 · exact key _ r' (run_equalIn_bool' w d _ _ _ hu) he' he.symm
                 · obtain ⟨rfl,he⟩:=he
                   exact key _ r' (run_equalIn_int w d _ _ _ _ _ hu) he' he.symm
                 · refine key _ r' (run_equalIn_string w d _ _ _ hu) he' ?_
                   rw [ByteArray.toList_eq,ByteArray.toList_eq]
                   rw [←he]; simp
variable {l:List (Nat×Value)} {W:World→Prop} {d:Option Tmp} {ty:TypeId} {pos:String} {af:Array Edge} {g:Option (Nat×Bool)}
theorem run_eqst {t:TypeId} {ks:List Nat} {xs ys:List Value} {r:Bool} (hf:flatSt P t=some ks) (he:eqK ks xs ys=some r) (w:World) :
   (Op.equalIn 10000 t (.agg xs.toArray) (.agg ys.toArray)).run P w = .ok r w∧P.eqGuardType P.depth t=false:=by
 unfold flatSt at hf
 cases hu:P.underlying t with
 | none=>simp [hu] at hf
 | some td=>
   cases td<;>simp [hu] at hf
   rename_i fs
   cases hb:(P.stoodInHeld t||P.eqGuardType P.depth t) with
   | true=>rw [hb] at hf; cases hf
   | false=>
     rw [hb] at hf
     simp only [Bool.or_eq_false_iff] at hb
     have hfs:P.fieldsOf t=fs:=by simp [Program.fieldsOf,hu]
     refine ⟨?_,hb.2⟩
     rw [run_equalIn_struct w 9999 t _ _ (by rw [hfs]; exact hu) hb.1,hfs]
     simpa using run_eqFields 9998 fs.toList 0 ks xs ys [] [] r w (by simpa using hf) he rfl rfl
theorem yl_nest {t u:TypeId} {x y:Operand} {ks:List Nat} {xs ys:List Value} {r:Bool} (hf:flatSt P t=some ks) (hx:opv l x=some (.agg xs.toArray)) (hy:opv l y=some (.agg ys.toArray)) (he:eqK ks xs ys=some r) :
   Yl P l W ⟨d,.binOp .neq t x y u,ty,pos,af,g⟩ (.bool (!r)):=by
 intro ρ w hρ _
 obtain ⟨h1,h2⟩:=run_eqst hf he w
 simp only [execOp,hρ x _ hx,hρ y _ hy,Sem.run_bind,run_eqGuard_agg w _ _ _ _ _ _ h2,Result.andThen_ok,run_neq_struct w,h1,Sem.run_pure]
end
end Go.Bw
namespace Go.Bw
open Go Go.RowKit
theorem Sl.flat {α:Type} {rd:View→Nat→Nat→α→Prop} {k:Nat} {H:View} {b o c:Nat} {l:List α} {f:α→List Value} (h:Sl rd k H (some ⟨b,o,none⟩) c l) (hf:∀x,(f x).length=k) (hk:0<k) (hrd:∀b o x,rd H b o x→RdC H b o (f x)) :
   ∀j u,(l.flatMap f)[j]? = some u→vc H b (o+j)=some u:=by
 intro j u hu
 have hj:=(List.getElem?_eq_some_iff.1 hu).1
 rw [flat_length hf] at hj
 have hi:j / k<l.length:=Nat.div_lt_of_lt_mul (by rw [Nat.mul_comm]; exact hj)
 have hx:l[j / k]? = some l[j / k]:=List.getElem?_eq_getElem hi
 have hm:j % k<k:=Nat.mod_lt _ hk
 have e:j / k*k+j % k=j:=by rw [Nat.mul_comm]; exact Nat.div_add_mod j k
 have h2:=flat_get hf hx hm
 rw [e,hu] at h2
 obtain ⟨b',o',hbo,hr⟩:=h.elt _ _ hx
 simp at hbo
 obtain ⟨rfl,rfl⟩:=hbo
 have h3:=hrd _ _ _ hr (j % k) u h2.symm
 rw [Nat.add_assoc,e] at h3
 exact h3
end Go.Bw
end
section
namespace Go.Bw
open Go Go.RowKit
section
variable {P:Program} {Q:Exit→Act→World→Prop} {n:Nat} {ds:List Deferred} {l:List (Nat×Value)}
theorem WC.draws0 {id:Nat} {os:List Oper} {w0:World} {F:List Nat} {L:List Asr} {Vs:List View} (ord:List (Nat×Bool)) (hm:P.follows .mixedOrders=true) (hB:(Region.noSelect os.toArray&&(ord.length==os.toArray.size&&ordB .any os.toArray ord (Array.replicate os.toArray.size false)))=true)
   (hQ:∀c a w d v,Q (.panic c) (a.put d v) w→Q (.panic c) a w) (h:WD P os.toArray (Ws w0 F L Vs) Q n ds l (Ws w0 F L Vs) ord):WC P (.region id os.toArray true) Q n ds l (Ws w0 F L Vs):=
 WC.draws _ ord hm hB hQ (fun _ h=>h.drew) h
theorem WC.draws1 {id:Nat} {os:List Oper} {w0:World} {F:List Nat} {L:List Asr} {Vs:List View} (i:Nat) (ord:List (Nat×Bool)) (hm:P.follows .mixedOrders=true) (hB:(Region.noSelect os.toArray&&(ord.length==os.toArray.size&&ordB .any os.toArray ord (Array.replicate os.toArray.size false)))=true)
   (hQ:∀c a w d v,Q (.panic c) (a.put d v) w→Q (.panic c) a w) (h:WD P os.toArray (Ws w0 F (outOf i L) Vs) Q n ds l (Ws w0 F L Vs) ord):WC P (.region id os.toArray true) Q n ds l (Ws w0 F L Vs):=
 WC.draws _ ord hm hB hQ (fun _ h=>h.drew) h
end
section
variable {P:Program} {l:List (Nat×Value)} {W:World→Prop} {d:Option Tmp} {ty:TypeId} {pos:String} {af:Array Edge} {g:Option (Nat×Bool)}
theorem yl_addn {t u:TypeId} {x y:Operand} {a b:Nat} {a' b':Int} (hx:opv l x=some (.int .i64 a')) (hy:opv l y=some (.int .i64 b')) (ea:a'=(a:Int)) (eb:b'=(b:Int)) (hb:(a:Int)+b≤9223372036854775807):Yl P l W ⟨d,.binOp .add t x y u,ty,pos,af,g⟩ (.int .i64 ((a+b:Nat):Int)):=by
 subst ea eb
 have:=yl_add (P:=P) (W:=W) (d:=d) (ty:=ty) (pos:=pos) (af:=af) (g:=g) (t:=t) (u:=u) hx hy ⟨by omega,hb⟩
 rwa [show ((a+b:Nat):Int)=(a:Int)+b by omega]
theorem yl_func {f:FuncId} {caps:Array Operand} {vs:List Value} (ha:evs l caps.toList=some vs):Yl P l W ⟨d,.makeFunc (.func f) #[] caps,ty,pos,af,g⟩ (.func (.func f) #[] vs.toArray):=by
 intro ρ w hρ _
 have e:caps.map ρ=vs.toArray:=by
   apply Array.ext'
   simpa using evs_map hρ _ _ ha
 simp [execOp,Instr.makeFunc,e]
end
section
variable {P:Program} {ops:Array Oper} {Q:Exit→Act→World→Prop} {n:Nat} {ds:List Deferred} {l:List (Nat×Value)} {w0:World} {F:List Nat} {L:List Asr} {Vs:List View} {rest:List Oper}
theorem WL.shape {e:TypeId} {size m:Nat} {v:Value} {xs:List Value} (i:Nat) (hL:L[i]? = some (osl e size v m xs)) (hm:0<m)
   (h:∀b c,v = .slice (some ⟨b,0,none⟩) m c→m≤c→c≤maxLen→WL P ops Q n ds l (Ws w0 F L Vs) rest):WL P ops Q n ds l (Ws w0 F L Vs) rest:=by
 intro a w ha hw
 obtain ⟨h1,h2⟩:=(hw.kn _ (mem_of_idx hL):w.ownsRow 0 e size v m xs)
 rcases h2 with ⟨h3,h4⟩ | ⟨b,cap,cur,hv,_,_,hmc,hc,_⟩
 · omega
 · exact h b cap hv hmc hc a w ha hw
theorem WL.reosl {e:TypeId} {size m:Nat} {v:Value} {xs:List Value} (i m':Nat) (xs':List Value) (hL:L[i]? = some (osl e size v m xs)) (hm:m=m') (hx:xs=xs')
   (h:WL P ops Q n ds l (Ws w0 F (L.set i (osl e size v m' xs')) Vs) rest):WL P ops Q n ds l (Ws w0 F L Vs) rest:=by
 subst hm hx
 have:L.set i (osl e size v m xs)=L:=by
   obtain ⟨hi,he⟩:=List.getElem?_eq_some_iff.1 hL
   rw [←he]
   exact List.set_getElem_self hi
 rwa [this] at h
end
theorem Ws.keep {w0 w:World} {F:List Nat} {L L':List Asr} {Vs:List View} (h:Ws w0 F (L++L') Vs w):Ws w0 F L Vs w:=Ws.drop (h.perm List.perm_append_comm)
end Go.Bw
end
section
namespace Go.Bw
open Go Go.RowKit
def byv (b:UInt8):Value:=.int .u8 (b.toNat:Int)
theorem strCells_st (l:List UInt8):Lib.strCells ⟨l.toArray⟩=l.map byv:=by simp [Lib.strCells,byv,Function.comp_def]
theorem size_st (l:List UInt8):(ByteArray.mk l.toArray).size=l.length:=by show l.toArray.size=_; simp
theorem shape_cells {w:World} {b:Nat} {c:Array Value} {T:TypeId} {fz:Nat×Nat} (h:w.heap[b]? = some (.cells c T fz)):w.shape? b=some (T,c.size):=by simp [World.shape?,h]
section
variable {P:Program} {l:List (Nat×Value)} {W:World→Prop} {w0:World} {F:List Nat} {L:List Asr} {Vs:List View} {d:Option Tmp} {ty:TypeId} {pos:String} {af:Array Edge} {g:Option (Nat×Bool)}
theorem yl_cvi {s t:TypeId} {k1 k k2:IntKind} {x:Operand} {n:Int} (hs:P.underlying s=some (.int k1)) (ht:P.underlying t=some (.int k2)) (hx:opv l x=some (.int k n)):Yl P l W ⟨d,.convert s t x,ty,pos,af,g⟩ (.int k2 (k2.wrap n)):=by
 intro ρ w hρ _
 simp [execOp,hρ x _ hx,convert,run_underlying hs,run_underlying ht,Conv.intToInt]
theorem yl_cvp {s t u:TypeId} {x:Operand} {b o:Nat} {c:Array Value} {T:TypeId} {fz:Nat×Nat} {j:Nat} (i:Nat) (hs:P.underlying s=some (.pointer u)) (ht:P.underlying t=some .unsafePointer) (hu:sizeP P u=some (j+1)) (hL:L[i]? = some (blk b (.cells c T fz))) (ho:Nat.blt o c.toList.length=true)
   (hx:opv l x=some (.pointer (some ⟨b,o,none⟩))):Yl P l (Ws w0 F L Vs) ⟨d,.convert s t x,ty,pos,af,g⟩ (.pointer (some ⟨b,o,none⟩)):=by
 intro ρ w hρ hw
 obtain ⟨inf,hi,hz⟩:=Option.map_eq_some_iff.1 hu
 have hsh:=shape_cells (hw.kn _ (mem_of_idx hL):w.heap[b]? = some (.cells c T fz))
 have e:=Lib.run_to_unsafe (P:=P) w ⟨b,o,none⟩ hs ht hi (by omega) hsh (by have:=Nat.blt_eq.mp ho; simpa using this)
 simp [execOp,hρ x _ hx,e]
theorem yl_cvq {s t u:TypeId} {x:Operand} {b o:Nat} {c:Array Value} {T:TypeId} {fz:Nat×Nat} {j n:Nat} (i:Nat) (hs:P.underlying s=some .unsafePointer) (ht:P.underlying t=some (.pointer u)) (hu:sizeP P u=some j) (hL:L[i]? = some (blk b (.cells c T fz)))
   (hn:c.toList.length=n) (hl:liesAt P P.depth T (n / P.cellsOf T) o u 1=true)
   (hx:opv l x=some (.pointer (some ⟨b,o,none⟩))):Yl P l (Ws w0 F L Vs) ⟨d,.convert s t x,ty,pos,af,g⟩ (.pointer (some ⟨b,o,none⟩)):=by
 intro ρ w hρ hw
 obtain ⟨inf,hi,hz⟩:=Option.map_eq_some_iff.1 hu
 have hsh:=shape_cells (hw.kn _ (mem_of_idx hL):w.heap[b]? = some (.cells c T fz))
 have hn':c.size=n:=by simpa using hn
 have e:=Lib.run_from_unsafe (P:=P) w ⟨b,o,none⟩ hs ht hi hsh (by rw [hn']; exact hl)
 simp [execOp,hρ x _ hx,e]
theorem yl_same {f:FuncId} {x:Operand} {v:Value} {ts:Array TypeId} (hf:∀(u:Value) (w:World),(callFunc f #[u]).run P w = .ok (.value u) w) (hx:opv l x=some v):Yl P l W ⟨d,.call ⟨.value (.func f),#[x],ts⟩,ty,pos,af,g⟩ v:=by
 intro ρ w hρ _
 have hc:ρ (.func f) = .func (.func f) #[] #[]:=hρ _ _ rfl
 simp [execOp,resolve,Deferred.ofValue,invoke,hρ x _ hx,hc,hf]
theorem same_of {f : FuncId} {fn : Func} (hf : P.funcs[f]? = some fn) (hname : (fn.name == "runtime.NumGoroutine") = false) (hb : fn.body.isNone = true) (hn : Extern.findNext fn = none) (he : Extern.find fn = some Extern.AbiNoEscape.same) :
   ∀(u:Value) (w:World),(callFunc f #[u]).run P w = .ok (.value u) w:=by
 intro u w
 rw [run_callFunc_extern hf hname hb hn he,Lib.run_noEscape]; rfl
theorem yl_eqpn {t u e:TypeId} {x:Operand} {q:Option Addr} (ht:P.underlying t=some (.pointer e)) (hx:opv l x=some (.pointer q)):Yl P l W ⟨d,.binOp .eql t x (.const (.pointer none)) u,ty,pos,af,g⟩ (.bool q.isNone):=by
 intro ρ w hρ _
 have hy:ρ (.const (.pointer none)) = .pointer none:=hρ _ _ rfl
 have hp:P.underlying t=some (.pointer (P.pointee t)):=by rw [ht]; simp [Program.pointee,ht]
 have e1:=run_eql_pointer_nil (P:=P) w t q hp
 simp only [execOp,hρ x _ hx,hy,eqGuard,Sem.run_bind]
 simp [e1]
theorem run_equalIn_self {t e:TypeId} {a:Addr} {k:Nat} (ht:P.underlying t=some (.pointer e)) (hs:sizeP P e=some (k+1)) (w:World) (m:Nat):(Op.equalIn (m+1) t (.pointer (some a)) (.pointer (some a))).run P w = .ok true w:=by
 obtain ⟨inf,hi,hz⟩:=Option.map_eq_some_iff.1 hs
 have hne:inf.size≠0:=by omega
 simp only [Op.equalIn,Sem.run_bind,run_underlying ht,Result.andThen_ok,sizeOf,typeInfo]
 simp [hi,hne,run_sameAddr_same]
theorem yl_neps {t u e:TypeId} {x y:Operand} {a:Addr} {j:Nat} (ht:P.underlying t=some (.pointer e)) (hs:sizeP P e=some (j+1)) (hx:opv l x=some (.pointer (some a))) (hy:opv l y=some (.pointer (some a))):Yl P l W ⟨d,.binOp .neq t x y u,ty,pos,af,g⟩ (.bool false):=by
 intro ρ w hρ _
 have e2:=run_equalIn_self (P:=P) (a:=a) ht hs w 9999
 have e1:(binOp .neq t (.pointer (some a)) (.pointer (some a))).run P w = .ok (.bool false) w:=by
   simp only [binOp]
   have e3:(Op.equal t (.pointer (some a)) (.pointer (some a))).run P w = .ok true w:=e2
   simp [e3]
 simp only [execOp,hρ x _ hx,hρ y _ hy,eqGuard,Sem.run_bind]
 simp [e1]
theorem yl_shr {t u:TypeId} {x y:Operand} {k k2:IntKind} {n m:Int} (hx:opv l x=some (.int k n)) (hy:opv l y=some (.int k2 m)) (hm:0≤m):Yl P l W ⟨d,.binOp .shr t x y u,ty,pos,af,g⟩ (.int k (n.fdiv (2 ^ (min m.toNat k.bits)))):=by
 intro ρ w hρ _
 have:¬m<0:=by omega
 simp [execOp,hρ x _ hx,hρ y _ hy,eqGuard,binOp,Op.shift,this]
theorem yl_sld {x:Operand} {ts:Array TypeId} {a:Addr} {n c:Nat} (hc:c≠0) (hx:opv l x=some (.slice (some a) n c)):Yl P l W ⟨d,.call ⟨.builtin .unsafeSliceData,#[x],ts⟩,ty,pos,af,g⟩ (.pointer (some a)):=by
 intro ρ w hρ _
 simp [execOp,resolve,invoke,builtin,hρ x _ hx,Lib.run_unsafeSliceData_row w _ _ a n c hc]
theorem yl_b2s {s t e:TypeId} {x:Operand} {b m c:Nat} {bs:List UInt8} {T:TypeId} {fz:Nat×Nat} (i:Nat) (hs:P.underlying s=some (.slice e)) (he:P.underlying e=some (.int .u8)) (ht:P.underlying t=some .string) (hL:L[i]? = some (blk b (.cells (bs.map byv).toArray T fz))) (hm:bs.length=m)
   (hx:opv l x=some (.slice (some ⟨b,0,none⟩) m c)):Yl P l (Ws w0 F L Vs) ⟨d,.convert s t x,ty,pos,af,g⟩ (st bs):=by
 intro ρ w hρ hw
 have hb:w.heap[b]? = some (.cells (bs.map byv).toArray T fz):=hw.kn _ (mem_of_idx hL)
 subst hm
 have hld:=run_loadCells_list (P:=P) w ⟨b,0,none⟩ ((bs.map fun x=>(x.toNat:Int)).map (Value.int .u8)) (fun j v hv=>by
   rw [add_none]
   refine cell_of_heap hb ?_
   simp only [cellIn,List.getElem?_toArray,Nat.zero_add]
   rw [←hv]
   simp only [List.getElem?_map,Option.map_map]
   rfl)
 simp only [List.length_map] at hld
 have e1:=run_bytesToString (P:=P) w ⟨b,0,none⟩ bs.length c (bs.map fun x=>(x.toNat:Int)) hld
 have e2:∀(bs:List UInt8) (r:ByteArray),(bs.map fun x=>(x.toNat:Int)).foldl (fun r n=>r.push (UInt8.ofNat n.toNat)) r=⟨r.data++bs.toArray⟩:=by
   intro bs
   induction bs with
   | nil=>intro r; simp
   | cons x xs ih=>
     intro r
     simp only [List.map_cons,List.foldl_cons]
     rw [ih]
     simp [ByteArray.push]
 rw [e2] at e1
 have e3:(convert s t (.slice (some ⟨b,0,none⟩) bs.length c)).run P w = .ok (st bs) w:=by
   simp only [convert,Sem.run_bind,run_underlying hs,run_underlying ht,Result.andThen_ok,run_underlying he,e1]
   simp [st]
 simp [execOp,hρ x _ hx,e3]
end
section
variable {P:Program} {ops:Array Oper} {Q:Exit→Act→World→Prop} {n:Nat} {ds:List Deferred} {l:List (Nat×Value)} {w0:World} {F:List Nat} {L:List Asr} {Vs:List View} {rest:List Oper} {d:Nat} {ty:TypeId} {pos:String} {af:Array Edge} {g:Option (Nat×Bool)}
theorem appends_block {t u e ty:TypeId} {v v':Value} {m:Nat} {s:ByteArray} {xs:List Value} {w w':World} {i:TypeInfo} (ht:P.underlying t=some (.slice e)) (hu:P.underlying u=some .string) (hi:P.info? e=some i) (hz:i.zero=some (.int .u8 0)) (hsize:i.size=1) (hby1:i.bytes=1)
   (hown:w.ownsRow 0 e 1 v m xs) (hby:m+s.size≤140737488355328) (hrun:(Builtin.append_ #[t,u] ty #[v,.string s]).run P w = .ok v' w') (hnil:v' = .slice none 0 0↔v = .slice none 0 0∧s.size=0) :
   v'.ownBlock=v.ownBlock∨v'.ownBlock=some w.heap.size:=by
 obtain ⟨hx,h2⟩:=hown
 have hxl:xs.length=m:=by simpa using hx
 rcases h2 with ⟨rfl,rfl⟩ | ⟨g,cap,cur,rfl,_,hg,hmc,hcm,hcs,htk⟩
 · by_cases hk:s.size=0
   · exact .inl (by rw [hnil.2 ⟨O,hk⟩])
   · have e2:=run_append_nil_string (P:=P) w t u ty e i (.int .u8 0) ht hu hi hz s (by omega) (by omega) (by rw [hby1]; omega)
     rw [hrun] at e2
     injection e2 with e2 _
     exact .inr (by rw [e2]; rfl)
 · by_cases hroom:m+s.size≤cap
   · have e2:=Lib.run_append_room_string (P:=P) w t u ty e i ht hu hi hsize g m cap cur hg s hroom (by omega)
     rw [hrun] at e2
     injection e2 with e2 _
     exact .inl (by rw [e2]; rfl)
   · have hcell:∀j v,xs[j]? = some v→w.cell? ((⟨g,0,none⟩:Addr).add j)=some v:=by
       intro j u hu
       rw [add_none,←htk] at *
       refine cell_of_heap hg ?_
       rw [List.getElem?_take] at hu
       split at hu
       · simpa [cellIn] using hu
       · cases hu
     have e2:=Lib.run_append_grow_string (P:=P) w t u ty e i (.int .u8 0) ht hu hi hz ⟨g,0,none⟩ m cap xs (by rw [hsize]; omega) hcell s (by omega) (by omega) (by rw [hby1]; exact growslice_fits (by omega) (by omega))
     rw [hrun] at e2
     injection e2 with e2 _
     exact .inr (by rw [e2]; rfl)
theorem WL.appends {t u e:TypeId} {v:Value} {m:Nat} {s x:Operand} {bs:List UInt8} {xs:List Value} (i:Nat) (hg:GOk ops l g) (hn:Nat.blt d n=true) (hE:EltOk P t e (.int .u8 0) 1 1) (hu:P.underlying u=some .string)
   (hs:opv l s=some v) (hx:opv l x=some (st bs)) (hL:L[i]? = some (osl e 1 v m xs)) (hby:m+bs.length≤140737488355328)
   (h:∀v',(v' = .slice none 0 0↔v = .slice none 0 0∧bs.length=0)→WL P ops Q n ds ((d,v')::l) (Ws w0 F (L.set i (osl e 1 v' (m+bs.length) (xs++bs.map byv))) Vs) rest) :
   WL P ops Q n ds l (Ws w0 F L Vs) (⟨some d,.call ⟨.builtin .append,#[s,x],#[t,u]⟩,ty,pos,af,g⟩::rest):=by
 refine WL.step hg fun a' w ha hw K hK=>?_
 obtain ⟨inf,hi,hz,hsz,hbt⟩:=hE.info
 have hown:w.ownsRow 0 e 1 v m xs:=hw.kn _ (mem_of_idx hL)
 have hsl:=size_st bs
 obtain ⟨v',w',hrun,hown',hgr,hnil⟩:=Lib.run_append_own_string (P:=P) w 0 t u ty e inf hE.under hu hi hz hsz hbt v m xs hown ⟨bs.toArray⟩ (by rw [hsl]; unfold maxLen; omega) (by rw [hsl]; exact hby) (Nat.zero_le _)
 have hblk:=appends_block hE.under hu hi hz hsz hbt hown (by rw [hsl]; exact hby) hrun hnil
 rw [hsl,strCells_st] at hown'
 rw [hsl] at hnil
 have hrun':(execOp a'.eval ⟨some d,.call ⟨.builtin .append,#[s,x],#[t,u]⟩,ty,pos,af,g⟩).run P w = .ok (.value v') w':=by
   simp only [execOp,resolve,List.map_toArray,List.map_cons,List.map_nil,ha.eval hs,ha.eval hx,Sem.run_bind,Sem.run_pure,Result.andThen_ok,invoke,builtin,st,hrun]
 simp only [Oper.wp,hrun',Oper.upon_value]
 refine hK _ _ (h v' hnil _ _ (ha.put hn _) ?_)
 refine Ws.turn1 hw i hL ⟨hgr.os,hgr.tape,hgr.output,hgr.size,fun j hj hne=>hgr.block j hj fun e=>hne ?_⟩ hown' ?_ fun j hj=>?_
 · simp [osl,←e]
 · cases hv:v'.ownBlock<;>simp [osl,hv]
 · simp only [osl,Option.mem_toList] at hj ⊢
   rcases hblk with e | e
   · exact .inl (by rw [←e]; exact hj)
   · rw [e] at hj; injection hj with hj; exact .inr (by omega)
theorem WL.ustr {pt it e:TypeId} {x y:Operand} {b c m:Nat} {bs:List UInt8} (i:Nat) (hg:GOk ops l g) (hn:Nat.blt d n=true) (hp:P.underlying pt=some (.pointer e)) (hc:P.cellsOf e=1)
   (hx:opv l x=some (.pointer (some ⟨b,0,none⟩))) (hy:opv l y=some (.int .i64 (m:Int))) (hm:bs.length=m) (hL:L[i]? = some (osl e 1 (.slice (some ⟨b,0,none⟩) m c) m (bs.map byv))) (h0:bs≠[]) (hb:m≤9223372036854775807)
   (h:WL P ops Q n ds ((d,st bs)::l) (Ws w0 F (outOf i L) Vs) rest) :
   WL P ops Q n ds l (Ws w0 F L Vs) (⟨some d,.call ⟨.builtin .unsafeString,#[x,y],#[pt,it]⟩,ty,pos,af,g⟩::rest):=by
 refine WL.step hg fun a' w ha hw K hK=>?_
 subst hm
 obtain ⟨cur,hcur,hxs,hcs,hmc,hlen⟩:=osl_cell (hw.kn _ (mem_of_idx hL))
 have hsh:=shape_cells hcur
 have hrun:=Lib.run_unsafeString_row (P:=P) w pt it ty e hp hc b cur.size hsh bs h0 (by omega) hb (fun j u hu=>by
   rw [add_none]
   refine cell_of_heap hcur ?_
   have h1:(bs.map byv)[j]? = some (byv u):=by simp [hu]
   rw [←hxs,List.getElem?_take] at h1
   split at h1
   · simpa [cellIn,byv] using h1
   · cases h1)
 have hrun':(execOp a'.eval ⟨some d,.call ⟨.builtin .unsafeString,#[x,y],#[pt,it]⟩,ty,pos,af,g⟩).run P w = .ok (.value (st bs)) (w.freeze ⟨b,0,none⟩ bs.length):=by
   simp only [execOp,resolve,List.map_toArray,List.map_cons,List.map_nil,ha.eval hx,ha.eval hy,Sem.run_bind,Sem.run_pure,Result.andThen_ok,invoke,builtin,st,hrun]
 simp only [Oper.wp,hrun',Oper.upon_value]
 refine hK _ _ (h _ _ (ha.put hn _) ?_)
 have hw':=hw.perm (outOf_perm i L hL)
 have:=Ws.turn (L:=[osl e 1 (.slice (some ⟨b,0,none⟩) bs.length c) bs.length (bs.map byv)]) (L':=[]) (L2:=outOf i L) hw' (w':=w.freeze ⟨b,0,none⟩ bs.length) ⟨by unfold World.freeze; split<;>rfl,by unfold World.freeze; split<;>rfl,by unfold World.freeze; split<;>rfl,by unfold World.freeze; split<;>simp,fun j hj hne=>by
   have hbj:j≠b:=fun e=>hne (by simp [osl,Value.ownBlock,e])
   unfold World.freeze
   split
   · rfl
   · simp [Array.getElem?_modify,Ne.symm hbj]⟩ (by simp) (by simp) (by simp)
 simpa using this
end
theorem blk_cells {w0 w:World} {F:List Nat} {L:List Asr} {Vs:List View} (h:Ws w0 F L Vs w) (i:Nat) {b:Nat} {c:Array Value} {T:TypeId} {fz:Nat×Nat} (hL:L[i]? = some (blk b (.cells c T fz))) {k:Nat} {u:Value} (hu:c.toList[k]? = some u):w.cell? ((⟨b,0,none⟩:Addr).add k)=some u:=by
 rw [add_none]
 exact cell_of_heap (h.kn _ (mem_of_idx hL)) (by simpa [cellIn] using hu)
section
variable {P:Program} {ops:Array Oper} {Q:Exit→Act→World→Prop} {n:Nat} {ds:List Deferred} {l:List (Nat×Value)} {w0:World} {F:List Nat} {L:List Asr} {Vs:List View} {rest:List Oper}
theorem WL.slc {e:TypeId} {size m:Nat} {v:Value} {xs:List Value} (i:Nat) (hL:L[i]? = some (osl e size v m xs))
   (h:∀a k c,v = .slice a k c→WL P ops Q n ds l (Ws w0 F L Vs) rest):WL P ops Q n ds l (Ws w0 F L Vs) rest:=by
 intro a w ha hw
 obtain ⟨h1,h2⟩:=(hw.kn _ (mem_of_idx hL):w.ownsRow 0 e size v m xs)
 rcases h2 with ⟨h3,_⟩ | ⟨b,cap,cur,hv,_⟩
 · exact h _ _ _ h3 a w ha hw
 · exact h _ _ _ hv a w ha hw
end
def bv (b:Nat) (ob:Obj):View:=fun k=>if k=b then some ob else none
theorem bv_vc {b k:Nat} {ob:Obj} {v:Value} (h:cellIn ob k=some v):vc (bv b ob) b k=some v:=by simp [vc,bv,h]
theorem Ws.blkview {w0 w:World} {F:List Nat} {L:List Asr} {Vs:List View} (h:Ws w0 F L Vs w) (i:Nat) {b:Nat} {ob:Obj} (hL:L[i]? = some (blk b ob)):Ws w0 F (outOf i L) (bv b ob::Vs) w:=by
 have hp:=h.perm (outOf_perm i L hL)
 have hd:Ws w0 F (outOf i L) Vs w:=Ws.drop (L:=[blk b ob]) hp
 have hb:w.heap[b]? = some ob:=h.kn _ (mem_of_idx hL)
 have nd:=hp.nd
 rw [List.flatMap_cons,List.nodup_append] at nd
 refine ⟨hd.fr,hd.kn,hd.nd,hd.own,?_,?_⟩
 · intro H hH
   rcases List.mem_cons.1 hH with rfl | hH
   · intro k o hk
     unfold bv at hk
     split at hk
     · rename_i e; subst e; injection hk with hk; subst hk; exact hb
     · cases hk
   · exact hd.vs H hH
 · intro H hH A hA k hk
   rcases List.mem_cons.1 hH with rfl | hH
   · unfold bv
     rw [if_neg]
     intro e
     subst e
     exact nd.2.2 k (by simp [blk]) k (List.mem_flatMap.2 ⟨A,hA,hk⟩) O
   · exact hd.off H hH A hA k hk
section
variable {P:Program} {ops:Array Oper} {Q:Exit→Act→World→Prop} {n:Nat} {ds:List Deferred} {l:List (Nat×Value)} {w0:World} {F:List Nat} {L:List Asr} {Vs:List View} {rest:List Oper}
theorem WL.blkview {b:Nat} {ob:Obj} (i:Nat) (hL:L[i]? = some (blk b ob)) (h:WL P ops Q n ds l (Ws w0 F (outOf i L) (bv b ob::Vs)) rest):WL P ops Q n ds l (Ws w0 F L Vs) rest:=
 LW (fun _ hw=>hw.blkview i hL) h
theorem WC.shape {c:Code} {e:TypeId} {size m:Nat} {v:Value} {xs:List Value} (i:Nat) (hL:L[i]? = some (osl e size v m xs)) (hm:0<m)
   (h:∀b k,v = .slice (some ⟨b,0,none⟩) m k→m≤k→k≤maxLen→WC P c Q n ds l (Ws w0 F L Vs)):WC P c Q n ds l (Ws w0 F L Vs):=by
 intro a w ha hw
 obtain ⟨h1,h2⟩:=(hw.kn _ (mem_of_idx hL):w.ownsRow 0 e size v m xs)
 rcases h2 with ⟨h3,h4⟩ | ⟨b,cap,cur,hv,_,_,hmc,hc,_⟩
 · omega
 · exact h b cap hv hmc hc a w ha hw
end
section
variable {P:Program} {l:List (Nat×Value)} {W:World→Prop} {d:Option Tmp} {ty:TypeId} {pos:String} {af:Array Edge} {g:Option (Nat×Bool)}
theorem yl_addv {t u:TypeId} {x y:Operand} {a b:Int} (v:Int) (hx:opv l x=some (.int .i64 a)) (hy:opv l y=some (.int .i64 b)) (he:a+b=v) (hb : -9223372036854775808≤v∧v≤9223372036854775807):Yl P l W ⟨d,.binOp .add t x y u,ty,pos,af,g⟩ (.int .i64 v):=by
 subst he; exact yl_add hx hy hb
theorem yl_subv {t u:TypeId} {x y:Operand} {a b:Int} (v:Int) (hx:opv l x=some (.int .i64 a)) (hy:opv l y=some (.int .i64 b)) (he:a-b=v) (hb : -9223372036854775808≤v∧v≤9223372036854775807):Yl P l W ⟨d,.binOp .sub t x y u,ty,pos,af,g⟩ (.int .i64 v):=by
 subst he; exact yl_sub hx hy hb
theorem yl_shrk {t u:TypeId} {x y:Operand} {k2:IntKind} {n:Int} (m:Nat) (hx:opv l x=some (.int .i64 n)) (hy:opv l y=some (.int k2 (m:Int))) (hm:m≤64):Yl P l W ⟨d,.binOp .shr t x y u,ty,pos,af,g⟩ (.int .i64 (n.fdiv (2 ^ m))):=by
 have h:=yl_shr (P:=P) (W:=W) (d:=d) (ty:=ty) (pos:=pos) (af:=af) (g:=g) (t:=t) (u:=u) hx hy (by omega)
 have e:min ((m:Int).toNat) IntKind.i64.bits=m:=by simp [IntKind.bits]; omega
 rwa [e] at h
end
def fullB (size:Nat):Nat→List (Nat×Value)→Bool
 | _,[]=>true
 | k,(i,v)::r=>Nat.beq i k&&Nat.beq (vcells v).length size&&fullB size (k+1) r
def fullV:List (Nat×Value)→List Value
 | []=>[]
 | (_,v)::r=>vcells v++fullV r
theorem fill_full (size:Nat):∀(vs:List (Nat×Value)) (k:Nat) (done rest:List Value),fullB size k vs=true→done.length=k*size→rest.length=vs.length*size→
   fillL (fun i=>some (i*size,size)) (done++rest) vs=some (done++fullV vs)
 | [],k,done,rest,_,_,hr=>by
   have:rest=[]:=List.eq_nil_of_length_eq_zero (by simpa using hr)
   simp [fillL,fullV,this]
 | (i,v)::r,k,done,rest,hf,hd,hr=>by
   simp only [fullB,Bool.and_eq_true] at hf
   obtain ⟨⟨h1,h2⟩,h3⟩:=hf
   have h1:=Nat.eq_of_beq_eq_true h1
   subst h1
   have h2:=Nat.eq_of_beq_eq_true h2
   have hrl:size≤rest.length:=by rw [hr,List.length_cons,Nat.add_mul]; omega
   have hb:(Nat.beq (vcells v).length size&&Nat.ble (i*size+size) (done++rest).length)=true:=by
     rw [h2,Nat.beq_refl,Bool.true_and]
     exact Nat.ble_eq_true_of_le (by simp; omega)
   simp only [fillL,hb,cond_true]
   have e1:(done++rest).take (i*size)=done:=by rw [←hd]; simp
   have e2:(done++rest).drop (i*size+size)=rest.drop size:=by
     rw [List.drop_append,hd,List.drop_of_length_le (by omega)]
     simp
   rw [e1,e2]
   have:=fill_full size r (i+1) (done++vcells v) (rest.drop size) h3 (by simp [hd,h2,Nat.add_mul]) (by simp [hr,Nat.add_mul])
   rw [this]
   simp [fullV]
theorem zerosL_len (z:Value) (k:Nat):(zerosL z k).length=k:=by simp [zerosL]
section
variable {P:Program} {ops:Array Oper} {Q:Exit→Act→World→Prop} {n:Nat} {ds:List Deferred} {l:List (Nat×Value)} {w0:World} {F:List Nat} {L:List Asr} {Vs:List View} {rest:List Oper} {d:Nat} {ty:TypeId} {pos:String} {af:Array Edge} {g:Option (Nat×Bool)}
theorem Lb {t e:TypeId} {len size bytes:Nat} {parts:List (Nat×Operand)} {z:Value} {vs:List (Nat×Value)} (hg:GOk ops l g) (hn:Nat.blt d n=true) (hE:EltOk P t e z size bytes)
   (hv:evp l parts=some vs) (hb:Nat.ble (len*size) 16777216=true) (hf:fullB size 0 vs=true) (hl:vs.length=len)
   (h:∀b,WL P ops Q n ds ((d,.slice (some ⟨b,0,none⟩) len len)::l) (Ws w0 F (blk b (.cells (fullV vs).toArray e (0,0))::L) Vs) rest) :
   WL P ops Q n ds l (Ws w0 F L Vs) (⟨some d,.buildSlice t len parts.toArray,ty,pos,af,g⟩::rest):=by
 refine WL.bslice hg hn hE hv hb (out:=fullV vs) ?_ h
 have hz:(bif Nat.beq (len*size) 0 then [] else zerosL z (len*size))=zerosL z (len*size):=by
   cases hq:Nat.beq (len*size) 0 with
   | false=>rfl
   | true=>have:=Nat.eq_of_beq_eq_true hq; rw [this]; rfl
 rw [hz]
 have:=fill_full size vs 0 [] (zerosL z (len*size)) hf (by simp) (by rw [zerosL_len,hl])
 simpa using this
end
end Go.Bw
end
section
namespace Go.Bw
open Go Go.RowKit
inductive Ord where
 | nil
 | stop
 | q (i:Nat) (r:Ord)
 | e (i:Nat) (r alt:Ord)
def Ord.alts:Ord→List Nat
 | .e i _ alt=>i::alt.alts
 | _=>[]
def ordG (md:Region.Mode) (ops:Array Oper):Bool→Ord→Nat→Array Bool→Bool
 | top,.nil,k,listed=>top&&(Nat.beq k 0&&(Region.ready md ops listed).isEmpty)
 | top,.stop,_,_=>!top
 | top,.q i r,k,listed=>match k with
   | 0=>false
   | k+1=>top&&((Region.ready md ops listed).contains i&&Region.free md ops listed i&&ordG md ops true r k (listed.setIfInBounds i true))
 | top,.e i r alt,k,listed=>match k with
   | 0=>false
   | k+1=>(bif top then Region.ready md ops listed==i::alt.alts else true)&&(ordG md ops true r k (listed.setIfInBounds i true)&&ordG md ops false alt (k+1) listed)
section
variable {P:Program} {md:Region.Mode} {ops:Array Oper} {C:World→Prop} {Q:Exit→Act→World→Prop}
def wpT (P:Program) (ops:Array Oper) (C:World→Prop) (Q:Exit→Act→World→Prop):Ord→Act→World→Prop
 | .nil,a,w=>C w∧Q .normal a w
 | .stop,_,_=>True
 | .q i r,a,w=>C w∧∃o v,ops[i]? = some o∧YV P ops C o v a∧wpT P ops C Q r (a.put o.dst v) w
 | .e i r alt,a,w=>C w∧(wpOp P ops Q i (wpT P ops C Q r) a w∧wpT P ops C Q alt a w)
theorem wpT_any (hs:Region.noSelect ops=true) (hQ:∀c a w d v,Q (.panic c) (a.put d v) w→Q (.panic c) a w):∀(o:Ord) (k:Nat) (listed:Array Bool) (a:Act) (w:World),
   (ordG md ops true o k listed=true→wpT P ops C Q o a w→wpAnyC P md ops C Q k listed a w)∧
   (ordG md ops false o k listed=true→wpT P ops C Q o a w→∀j ∈ o.alts,∃k',k=k'+1∧wpOp P ops Q j (wpAnyC P md ops C Q k' (listed.setIfInBounds j true)) a w)
 | .nil,k,listed,a,w=>by
   refine ⟨fun hB h=>?_,fun hB=>by simp [ordG] at hB⟩
   simp only [ordG,Bool.true_and,Bool.and_eq_true] at hB
   obtain rfl:=Nat.eq_of_beq_eq_true hB.1
   exact ⟨h.1,by simpa using hB.2,h.2⟩
 | .stop,k,listed,a,w=>⟨fun hB=>by simp [ordG] at hB,fun _ _ j hj=>by simp [Ord.alts] at hj⟩
 | .q i r,k,listed,a,w=>by
   cases k with
   | zero=>exact ⟨fun hB=>by simp [ordG] at hB,fun hB=>by simp [ordG] at hB⟩
   | succ k=>
     refine ⟨fun hB h=>?_,fun hB=>by simp [ordG] at hB⟩
     simp only [ordG,Bool.true_and,Bool.and_eq_true] at hB
     obtain ⟨hC,o,v,ho,hy,h⟩:=h
     exact wpAnyC_first ho (Region.noSelect_spec hs) (fun c a w=>hQ c a w o.dst v) k listed a w (Region.free_spec ho hB.1.2) (by simpa using hB.1.1) hy hC
       ((wpT_any hs hQ r k _ _ _).1 hB.2 h)
 | .e i r alt,k,listed,a,w=>by
   cases k with
   | zero=>exact ⟨fun hB=>by simp [ordG] at hB,fun hB=>by simp [ordG] at hB⟩
   | succ k=>
     have hsub:ordG md ops true r k (listed.setIfInBounds i true)=true→ordG md ops false alt (k+1) listed=true→wpT P ops C Q (.e i r alt) a w→
         ∀j ∈ i::alt.alts,wpOp P ops Q j (wpAnyC P md ops C Q k (listed.setIfInBounds j true)) a w:=by
       intro h1 h2 h j hj
       rcases List.mem_cons.1 hj with rfl | hj
       · exact wpOp_mono (fun a' w' h'=>(wpT_any hs hQ r k _ a' w').1 h1 h') h.2.1
       · obtain ⟨k',hk,hx⟩:=(wpT_any hs hQ alt (k+1) listed a w).2 h2 h.2.2 j hj
         injection hk with hk
         subst hk
         exact hx
     refine ⟨fun hB h=>?_,fun hB h j hj=>?_⟩
     · simp only [ordG,cond_true,Bool.and_eq_true,beq_iff_eq] at hB
       refine ⟨h.1,fun he=>(by rw [he] at hB; cases hB.1),fun j hj=>?_⟩
       rw [hB.1] at hj
       exact hsub hB.2.1 hB.2.2 h j hj
     · simp only [ordG,cond_false,Bool.true_and,Bool.and_eq_true] at hB
       exact ⟨k,O,hsub hB.1 hB.2 h j hj⟩
theorem wp_region_t {id:Nat} {a:Act} {w:World} {l:List Oper} (ord:Ord) (hm:P.follows .mixedOrders=true) (hB:(Region.noSelect l.toArray&&ordG .any l.toArray true ord l.toArray.size (Array.replicate l.toArray.size false))=true)
   (hQ:∀c a w d v,Q (.panic c) (a.put d v) w→Q (.panic c) a w) (h:wpT P l.toArray C Q ord a w.drew):(Code.region id l.toArray true).wp P Q a w:=by
 simp only [Bool.and_eq_true] at hB
 have:=wpAny_of_C (md:=.any) _ _ _ _ ((wpT_any hB.1 hQ ord _ _ a w.drew).1 hB.2 h)
 exact wp_region_any hm this
variable {n:Nat} {ds:List Deferred} {l:List (Nat×Value)} {W:World→Prop}
def WT (P:Program) (ops:Array Oper) (C:World→Prop) (Q:Exit→Act→World→Prop) (n:Nat) (ds:List Deferred) (l:List (Nat×Value)) (W:World→Prop) (ord:Ord):Prop:=
 ∀a w,Ag n ds l a→W w→wpT P ops C Q ord a w
theorem WT.q {r:Ord} {i d:Nat} {op:Op} {ty:TypeId} {pos:String} {af:Array Edge} {g:Option (Nat×Bool)} {v:Value} (hi:ops[i]? = some ⟨some d,op,ty,pos,af,g⟩) (hg:GOk ops l g) (hn:Nat.blt d n=true)
   (hC:∀w,W w→C w) (hy:Yl P l C ⟨some d,op,ty,pos,af,g⟩ v) (h:WT P ops C Q n ds ((d,v)::l) W r):WT P ops C Q n ds l W (.q i r):=by
 intro a w ha hw
 refine ⟨hC w hw,_,v,hi,.inl ⟨GOk.wanted (o:=⟨some d,op,ty,pos,af,g⟩) hg ha,fun w' hw'=>hy a.eval w' (fun x u hx=>ha.eval hx) hw'⟩,h _ _ (ha.put hn v) hw⟩
theorem WT.e {r alt:Ord} {i:Nat} {o:Oper} (hi:ops[i]? = some o) (hC:∀w,W w→C w) (h:WL P ops (Exit.then (wpT P ops C Q r) Q) n ds l W [o]) (h2:WT P ops C Q n ds l W alt):WT P ops C Q n ds l W (.e i r alt):=by
 intro a w ha hw
 refine ⟨hC w hw,?_,h2 a w ha hw⟩
 have:=h a w ha hw
 unfold wpList at this
 unfold wpOp
 simp only [hi]
 split
 · rename_i hw'
   rw [if_pos hw'] at this
   rcases this with this | ⟨h1,a2,w2,h2⟩
   · left
     unfold Oper.wp at this ⊢
     unfold Oper.upon at this ⊢
     split at this
     all_goals first
       | exact this
       | (refine this.mono fun e w' he=>?_
          cases e with
          | returned v=>exact he
          | panicked ch=>exact he
          | outgrown=>obtain ⟨a3,w3,h3⟩:=he; exact ⟨a3,w3,h3⟩)
       | exact this.mono fun v w' he=>he
   · exact .inr ⟨h1,a2,w2,h2⟩
 · rename_i hw'
   rw [if_neg hw'] at this
   exact this
theorem WT.stop:WT P ops C Q n ds l W .stop:=fun _ _ _ _=>trivial
theorem Ett {r:Ord} (h:WT P ops C Q n ds l W r):WE (Exit.then (wpT P ops C Q r) Q) .normal n ds l W:=h
theorem WT.nil (hC:∀w,W w→C w) (h:WE Q .normal n ds l W):WT P ops C Q n ds l W .nil:=fun a w ha hw=>⟨hC w hw,h a w ha hw⟩
theorem WC.drawt0 {id:Nat} {os:List Oper} {w0:World} {F:List Nat} {L:List Asr} {Vs:List View} (ord:Ord) (hm:P.follows .mixedOrders=true) (hB:(Region.noSelect os.toArray&&ordG .any os.toArray true ord os.toArray.size (Array.replicate os.toArray.size false))=true)
   (hQ:∀c a w d v,Q (.panic c) (a.put d v) w→Q (.panic c) a w) (h:WT P os.toArray (Ws w0 F L Vs) Q n ds l (Ws w0 F L Vs) ord):WC P (.region id os.toArray true) Q n ds l (Ws w0 F L Vs):=
 fun a w ha hw=>wp_region_t ord hm hB hQ (h a w.drew ha hw.drew)
end
end Go.Bw
end
section
namespace Go.Bw
open Go Go.RowKit
abbrev MEnt:=List UInt8×Value×Nat
def ment (e:MEnt):MapEntry:={ key:=st e.1,val:=e.2.1,born:=e.2.2 }
def mobj (m:List MEnt) (c:Nat):Obj:=.map (m.map ment).toArray c
def mfind (k:List UInt8):List MEnt→Nat→Option (Nat×Value)
 | [],_=>none
 | e::r,i=>if (k==e.1)=true then some (i,e.2.1) else mfind k r (i+1)
def mput (k:List UInt8) (v:Value) (m:List MEnt) (c:Nat):List MEnt:=match mfind k m 0 with
 | some (i,_)=>m.modify i fun e=>(k,v,e.2.2)
 | none=>m++[(k,v,c)]
def mclock (k:List UInt8) (m:List MEnt) (c:Nat):Nat:=match mfind k m 0 with | some _=>c | none=>c+1
def mget (k:List UInt8) (m:List MEnt) (z:Value):Value:=match mfind k m 0 with | some (_,v)=>v | none=>z
theorem st_beq (a b:List UInt8):(ByteArray.mk a.toArray==ByteArray.mk b.toArray)=(a==b):=by
 show (a.toArray==b.toArray)=_
 simp
theorem map_modify (m:List MEnt) (j:Nat) (k:List UInt8) (v:Value):(m.map ment).modify j (fun e=>{ e with key:=st k,val:=v })=(m.modify j fun e=>(k,v,e.2.2)).map ment:=by
 apply List.ext_getElem?
 intro i
 simp only [List.getElem?_modify,List.getElem?_map]
 cases m[i]? with
 | none=>simp
 | some e=>by_cases h:j=i<;>simp [h,ment]
theorem findNow_st (k:List UInt8):∀(m:List MEnt) (i:Nat),Instr.findNow .string (st k) (m.map ment) i=some (mfind k m i)
 | [],_=>rfl
 | e::r,i=>by
   simp only [List.map_cons,Instr.findNow,ment,st,Instr.sameNow,st_beq,mfind]
   cases h:(k==e.1)
   · simp only [Bool.false_eq_true,if_false]
     exact findNow_st k r (i+1)
   · simp
section
variable {P:Program} {ops:Array Oper} {Q:Exit→Act→World→Prop} {n:Nat} {ds:List Deferred} {l:List (Nat×Value)} {w0:World} {F:List Nat} {L:List Asr} {Vs:List View} {rest:List Oper} {d:Nat} {ty:TypeId} {pos:String} {af:Array Edge} {g:Option (Nat×Bool)}
theorem WL.mkmap {t:TypeId} (hg:GOk ops l g) (hn:Nat.blt d n=true)
   (h:∀b,WL P ops Q n ds ((d,.map (some b))::l) (Ws w0 F (blk b (mobj [] 0)::L) Vs) rest) :
   WL P ops Q n ds l (Ws w0 F L Vs) (⟨some d,.makeMap t none,ty,pos,af,g⟩::rest):=
 WL.new (mk:=fun b=>.map (some b)) (o:=mobj [] 0) hg hn (fun ρ w _ _=>by
   simp only [execOp]
   simp [Instr.makeMap,mobj]) h
theorem yl_mlook {dd:Option Tmp} {t kt e:TypeId} {x y:Operand} {b c:Nat} {m:List MEnt} {k:List UInt8} {z:Value} (i:Nat) (ht:P.underlying t=some (.map kt e)) (hk:P.underlying kt=some .string) (hz:zeroOf P e=some z) (hx:opv l x=some (.map (some b))) (hy:opv l y=some (st k)) (hL:L[i]? = some (blk b (mobj m c))) :
   Yl P l (Ws w0 F L Vs) ⟨dd,.lookup t x y false,ty,pos,af,g⟩ (mget k m z):=by
 intro ρ w hρ hw
 have hb:w.heap[b]? = some (.map (m.map ment).toArray c):=hw.kn _ (mem_of_idx hL)
 have hf:=findNow_st k m 0
 have hc:(Instr.checkKey (m.map ment).toArray.isEmpty 10000 kt (st k)).run P w = .ok () w:=MapKept.run_checkKey (k:=st k) hk (by simp [MapKept.IsKey,st]) _ 9999
 have e1:(Instr.lookup t (.map (some b)) (st k) false).run P w = .ok (mget k m z) w:=by
   simp only [Instr.lookup,Sem.run_bind,run_underlying ht,Result.andThen_ok,MapKept.run_getObj_map hb,Sem.run_pure,hc]
   rw [MapKept.run_findKey hk (by simpa using hf)]
   unfold mget
   cases hm:mfind k m 0 with
   | none=>simp [Result.andThen_ok,run_zero hz]
   | some r=>obtain ⟨i,v⟩:=r; simp [Result.andThen_ok]
 simp [execOp,hρ x _ hx,hρ y _ hy,e1]
theorem yl_mlen {dd:Option Tmp} {t kt e:TypeId} {x:Operand} {b c:Nat} {m:List MEnt} (i:Nat) (ht:P.underlying t=some (.map kt e)) (hx:opv l x=some (.map (some b))) (hL:L[i]? = some (blk b (mobj m c))) :
   Yl P l (Ws w0 F L Vs) ⟨dd,.call ⟨.builtin .len,#[x],#[t]⟩,ty,pos,af,g⟩ (.int .i64 (m.length:Int)):=by
 intro ρ w hρ hw
 have hb:w.heap[b]? = some (.map (m.map ment).toArray c):=hw.kn _ (mem_of_idx hL)
 simp [execOp,resolve,invoke,builtin,hρ x _ hx,Builtin.len_,run_underlying ht,MapKept.run_getObj_map hb,goInt]
theorem WL.mset {t kt e:TypeId} {x y u:Operand} {b c:Nat} {m:List MEnt} {k:List UInt8} {v:Value} (i:Nat) (hg:GOk ops l g) (ht:P.underlying t=some (.map kt e)) (hk:P.underlying kt=some .string) (hx:opv l x=some (.map (some b))) (hy:opv l y=some (st k)) (hu:opv l u=some v) (hL:L[i]? = some (blk b (mobj m c)))
   (h:WL P ops Q n ds l (Ws w0 F (L.set i (blk b (mobj (mput k v m c) (mclock k m c)))) Vs) rest) :
   WL P ops Q n ds l (Ws w0 F L Vs) (⟨none,.mapUpdate t x y u,ty,pos,af,g⟩::rest):=by
 refine WL.step hg fun a w ha hw K hK=>?_
 have hb:w.heap[b]? = some (.map (m.map ment).toArray c):=hw.kn _ (mem_of_idx hL)
 have hf:=findNow_st k m 0
 have hc:(Instr.checkKey false 10000 kt (st k)).run P w = .ok () w:=MapKept.run_checkKey (k:=st k) hk (by simp [MapKept.IsKey,st]) _ 9999
 have e1:(Instr.mapUpdate t (.map (some b)) (st k) v).run P w = .ok () { w with heap:=w.heap.setIfInBounds b (mobj (mput k v m c) (mclock k m c)) }:=by
   simp only [Instr.mapUpdate,Sem.run_bind,run_underlying ht,Result.andThen_ok,MapKept.run_getObj_map hb,Sem.run_pure,hc]
   rw [MapKept.run_findKey hk (by simpa using hf)]
   unfold mput mclock
   cases hm:mfind k m 0 with
   | none=>simp [Result.andThen_ok,MapKept.run_setObj_map _ hb,mobj,ment,st]
   | some r=>
     obtain ⟨j,v'⟩:=r
     have hkey:m[j]?.map (·.1)=some k:=by
       have key:∀(m:List MEnt) (i0:Nat),mfind k m i0=some (j,v')→i0≤j∧(m[j-i0]?).map (·.1)=some k:=by
         intro m
         induction m with
         | nil=>intro i0 h; simp [mfind] at h
         | cons e r ih=>
           intro i0 h
           simp only [mfind] at h
           split at h
           · rename_i hk
             injection h with h; injection h with h1 h2
             subst h1
             simp at hk
             simp [hk]
           · obtain ⟨h1,h2⟩:=ih (i0+1) h
             refine ⟨by omega,?_⟩
             have:j-i0=(j-(i0+1))+1:=by omega
             rw [this]; simpa using h2
       simpa using (key m 0 hm).2
     have hst:((((m.map ment).toArray)[j]?).map (·.key)).getD (st k)=st k:=by
       cases he:m[j]? with
       | none=>simp [he]
       | some e=>rw [he] at hkey; simp at hkey; simp [he,ment,hkey]
     simp only [hst,Result.andThen_ok]
     have hkeep:(Instr.keyThatStays (st k) (st k)).run P w = .ok (st k) w:=by
       simp [Instr.keyThatStays,Instr.sameBits,st,st_beq]
     simp only [Sem.run_bind,hkeep,Result.andThen_ok,MapKept.run_setObj_map _ hb,mobj]
     have hmm:(m.map ment).toArray.modify j (fun e=>{ e with key:=st k,val:=v })=((m.modify j fun e=>(k,v,e.2.2)).map ment).toArray:=by
       apply Array.ext'
       rw [Array.toList_modify]
       exact map_modify m j k v
     rw [hmm]
 have hrun':(execOp a.eval ⟨none,.mapUpdate t x y u,ty,pos,af,g⟩).run P w = .ok .skip { w with heap:=w.heap.setIfInBounds b (mobj (mput k v m c) (mclock k m c)) }:=by
   simp only [execOp,ha.eval hx,ha.eval hy,ha.eval hu,Sem.run_bind,e1,Result.andThen_ok,Sem.run_pure]
 simp only [Oper.wp,hrun',Oper.upon_skip]
 refine hK _ _ (h _ _ (ha.put_none undef) ?_)
 refine Ws.turn1 hw i hL ⟨O,O,O,by simp,fun j hj hne=>?_⟩ ?_ (by simp [blk]) (by simp [blk])
 · have:b≠j:=fun e=>hne (by simp [blk,e])
   simp [Array.getElem?_setIfInBounds_ne this]
 · show (w.heap.setIfInBounds b _)[b]? = _
   simp [lt_of_heap hb]
theorem WL.slcm {e:TypeId} {size m:Nat} {v:Value} {xs:List Value} (i:Nat) (hL:L[i]? = some (osl e size v m xs))
   (h:∀a k,v = .slice a m k→WL P ops Q n ds l (Ws w0 F L Vs) rest):WL P ops Q n ds l (Ws w0 F L Vs) rest:=by
 intro a w ha hw
 obtain ⟨h1,h2⟩:=(hw.kn _ (mem_of_idx hL):w.ownsRow 0 e size v m xs)
 rcases h2 with ⟨h3,h4⟩ | ⟨b,cap,cur,hv,_⟩
 · exact h none 0 (by rw [h3,h4]) a w ha hw
 · exact h _ _ hv a w ha hw
end
end Go.Bw
end
section
namespace Go.Bw
open Go Go.RowKit
section
variable {P:Program} {ops:Array Oper} {Q:Exit→Act→World→Prop} {n:Nat} {ds:List Deferred} {l:List (Nat×Value)} {W:World→Prop} {w0:World} {F:List Nat} {L:List Asr} {Vs:List View}
 {rest:List Oper} {d:Nat} {ty:TypeId} {pos:String} {af:Array Edge} {g:Option (Nat×Bool)}
theorem Lwx {ι κ:Type} {f:FuncId} {args:Array Operand} {ts:Array TypeId} {vs:List Value} (L1 L2:List Asr) (hg:GOk ops l g) (hn:Nat.blt d n=true) (hf:Enters P f) (ha:evs l args.toList=some vs) (hL:L=L1++L2)
   (v:ι→Value) (L1':ι→List Asr) (R:ι→Prop) (ch:κ→List PanicEntry) (Lp:κ→List Asr) (Rp:κ→Prop) (Vs':List View) (hV:∀H ∈ Vs',H ∈ Vs)
   (hC:∀w,Ws w (L1.flatMap Asr.ids) L1 Vs' w→Calls P f vs.toArray w fun e w'=>(∃i,e = .returned (v i)∧R i∧Ws w (L1.flatMap Asr.ids) (L1' i) Vs' w')∨(∃j,e = .panicked (ch j)∧Rp j∧Ws w (L1.flatMap Asr.ids) (Lp j) Vs' w'))
   (hp:∀j,Rp j→WE Q (.panic (ch j)) n ds l (Ws w0 F (Lp j++L2) Vs))
   (hr:∀i,R i→WL P ops Q n ds ((d,v i)::l) (Ws w0 F (L1' i++L2) Vs) rest) :
   WL P ops Q n ds l (Ws w0 F L Vs) (⟨some d,.call ⟨.value (.func f),args,ts⟩,ty,pos,af,g⟩::rest):=by
 subst hL
 refine WL.callx hg hn hf ha v (fun i w'=>R i∧Ws w0 F (L1' i++L2) Vs w') (fun c w'=>∃j,c=ch j∧Rp j∧Ws w0 F (Lp j++L2) Vs w') (fun w hw=>(hC w (hw.self.drops hV)).mono fun e w' h=>?_) (fun i=>?_) (fun c=>?_)
 · rcases h with ⟨i,he,hR,h⟩ | ⟨j,he,hR,h⟩
   · exact .inl ⟨i,he,hR,hw.back h⟩
   · exact .inr ⟨_,he,j,O,hR,hw.back h⟩
 · intro a w ha' hw
   exact hr i hw.1 a w ha' hw.2
 · rintro a w ha' ⟨j,rfl,hR,hw⟩
   exact hp j hR a w ha' hw
theorem WL.callvwx {ι κ:Type} {f:FuncId} {cx:Operand} {caps:Array Value} {args:Array Operand} {ts:Array TypeId} {vs:List Value} (L1 L2:List Asr) (hg:GOk ops l g) (hn:Nat.blt d n=true) (hf:Enters P f) (hcx:opv l cx=some (.func (.func f) #[] caps)) (ha:evs l args.toList=some vs) (hL:L=L1++L2)
   (v:ι→Value) (L1':ι→List Asr) (R:ι→Prop) (ch:κ→List PanicEntry) (Lp:κ→List Asr) (Rp:κ→Prop) (Vs':List View) (hV:∀H ∈ Vs',H ∈ Vs)
   (hC:∀w,Ws w (L1.flatMap Asr.ids) L1 Vs' w→Calls P f (vs.toArray++caps) w fun e w'=>(∃i,e = .returned (v i)∧R i∧Ws w (L1.flatMap Asr.ids) (L1' i) Vs' w')∨(∃j,e = .panicked (ch j)∧Rp j∧Ws w (L1.flatMap Asr.ids) (Lp j) Vs' w'))
   (hp:∀j,Rp j→WE Q (.panic (ch j)) n ds l (Ws w0 F (Lp j++L2) Vs))
   (hr:∀i,R i→WL P ops Q n ds ((d,v i)::l) (Ws w0 F (L1' i++L2) Vs) rest) :
   WL P ops Q n ds l (Ws w0 F L Vs) (⟨some d,.call ⟨.value cx,args,ts⟩,ty,pos,af,g⟩::rest):=by
 subst hL
 refine WL.callvx hg hn hf hcx ha v (fun i w'=>R i∧Ws w0 F (L1' i++L2) Vs w') (fun c w'=>∃j,c=ch j∧Rp j∧Ws w0 F (Lp j++L2) Vs w') (fun w hw=>(hC w (hw.self.drops hV)).mono fun e w' h=>?_) (fun i=>?_) (fun c=>?_)
 · rcases h with ⟨i,he,hR,h⟩ | ⟨j,he,hR,h⟩
   · exact .inl ⟨i,he,hR,hw.back h⟩
   · exact .inr ⟨_,he,j,O,hR,hw.back h⟩
 · intro a w ha' hw
   exact hr i hw.1 a w ha' hw.2
 · rintro a w ha' ⟨j,rfl,hR,hw⟩
   exact hp j hR a w ha' hw
theorem yl_mki {W:World→Prop} {dd:Option Tmp} {t:TypeId} {x:Operand} {v:Value} (ht:P.concrete t=true) (hx:opv l x=some v):Yl P l W ⟨dd,.makeInterface t x,ty,pos,af,g⟩ (.iface t v):=
 fun ρ w hρ _=>by
   have e:(Instr.makeInterface t v).run P w = .ok (.iface t v) w:=run_makeInterface (h:=ht) ..
   simp [execOp,hρ x v hx,e]
theorem WL.panic {x:Operand} {t:TypeId} {v:Value} {dd:Option Tmp} (hg:GOk ops l g) (hx:opv l x=some (.iface t v)) (h:WE Q (.panic [⟨.iface t v,false,false⟩]) n ds l W):WL P ops Q n ds l W (⟨dd,.panic x,ty,pos,af,g⟩::rest):=by
 refine WL.step hg fun a w ha hw K hK=>?_
 have:(execOp a.eval ⟨dd,.panic x,ty,pos,af,g⟩).run P w = .halt (.panic (.iface t v)) w:=by
   have e:(Instr.panic (.iface t v)).run P w = .halt (.panic (.iface t v)) w:=rfl
   simp [execOp,ha.eval hx,e]
 simp only [Oper.wp,this,Oper.upon_panic]
 exact h a w ha hw
theorem WL.defer {cx:Operand} {f:FuncId} {caps:List Value} {ts:Array TypeId} (hg:GOk ops l g) (hcx:opv l cx=some (.func (.func f) #[] caps.toArray))
   (h:WL P ops Q n (⟨.fn (.func f) caps.toArray,#[]⟩::ds) l W rest):WL P ops Q n ds l W (⟨none,.defer ⟨.value cx,#[],ts⟩,ty,pos,af,g⟩::rest):=by
 refine WL.step hg fun a w ha hw K hK=>?_
 have:(execOp a.eval ⟨none,.defer ⟨.value cx,#[],ts⟩,ty,pos,af,g⟩).run P w = .ok (.defer ⟨.fn (.func f) caps.toArray,#[]⟩) w:=by
   simp [execOp,resolve,ha.eval hcx,Deferred.ofValue]
 simp only [Oper.wp,this,Oper.upon_defer]
 refine hK _ _ (h _ _ ⟨ha.size,?_,ha.vals⟩ hw)
 show _::a.defers=_
 rw [ha.defs]
theorem enterD {f:FuncId} {fn:Func} {c:Code} {vs:List Value} {w:World} {R:Ending→World→Prop} (hf:P.funcs[f]? = some fn) (hb:fn.body=some c)
   (m:Nat) (hm:fn.ntmps=m) (hle:Nat.ble vs.length m=true) (h:WC P c (bodyPostD P fn R) m [] (env0 0 vs) (fun w'=>w'=w)):Calls P f vs.toArray w R:=by
 refine calls_of_wp_defers hf hb (h _ _ ?_ O)
 have hle':=Nat.le_of_ble_eq_true hle
 subst hm
 refine ⟨by simp; omega,O,fun t v hv=>?_⟩
 obtain ⟨_,h2⟩:=lk_env0 vs 0 t v hv
 simp only [Nat.sub_zero] at h2
 have hlt:t<vs.length:=by
   rcases Nat.lt_or_ge t vs.length with h | h
   · exact h
   · simp [List.getElem?_eq_none h] at h2
 simp [Array.getD_eq_getD_getElem?,Array.getElem?_append,hlt]
 simp [List.getElem?_eq_getElem hlt] at h2
 exact h2
def Rs (P:Program) (fn:Func) (l:List (Nat×Value)) (W:World→Prop) (v:Value):Prop:=∀(tmps:Array Value) w,(∀t u,lk l t=some u→tmps.getD t undef=u)→W w→(results fn tmps).run P w = .ok v w
def rvS (tmps:Array Value):ResultVar→Sem Value
 | .tmp t=>pure (tmps.getD t undef)
 | .cell a t=>do loadVar t (←asAddr (tmps.getD a undef))
theorem results_eq (fn:Func) (tmps:Array Value):results fn tmps=(do let vs ←fn.results.mapM (rvS tmps); pure (if h:vs.size=1 then vs[0] else .tuple vs)):=by
 have e:(fun r:ResultVar=>match r with | .tmp t=>(pure (tmps.getD t undef):Sem Value) | .cell a t=>do loadVar t (←asAddr (tmps.getD a undef)))=rvS tmps:=by funext r; cases r<;>rfl
 rw [←e]; rfl
def Rv1 (P:Program) (l:List (Nat×Value)) (W:World→Prop) (r:ResultVar) (v:Value):Prop:=∀(tmps:Array Value) w,(∀t u,lk l t=some u→tmps.getD t undef=u)→W w→(rvS tmps r).run P w = .ok v w
theorem rv_tmp {t:Nat} {v:Value} (h:lk l t=some v):Rv1 P l W (.tmp t) v:=fun tmps w ht _=>by simp only [rvS,ht t v h,Sem.run_pure]
theorem rv_one {a b o:Nat} {t:TypeId} {v:Value} {ob:Obj} (i:Nat) (ha:lk l a=some (.pointer (some ⟨b,o,none⟩))) (hL:L[i]? = some (blk b ob)) (hc:cellIn ob o=some v) (ht:nonAgg P t=true):Rv1 P l (Ws w0 F L Vs) (.cell a t) v:=fun tmps w h hw=>by
 simp only [rvS,h a _ ha,asAddr,Sem.run_bind,Sem.run_pure,Result.andThen_ok,run_loadVar_one ht (cell_of_heap (hw.kn _ (mem_of_idx hL)) hc)]
theorem rv_agg {a b o k:Nat} {t:TypeId} {ob:Obj} (i:Nat) (ha:lk l a=some (.pointer (some ⟨b,o,none⟩))) (hL:L[i]? = some (blk b ob)) (ht:aggOf P t=some k) (hl:(cellsIn ob o k).length=k):Rv1 P l (Ws w0 F L Vs) (.cell a t) (.agg (cellsIn ob o k).toArray):=fun tmps w h hw=>by
 have hrun:(loadVar t ⟨b,o,none⟩).run P w = .ok (.agg (cellsIn ob o k).toArray) w:=run_loadVar_agg ht hl fun j v hj=>by
   have hk:w.heap[b]? = some ob:=hw.kn _ (mem_of_idx hL)
   refine cell_of_heap hk ?_
   cases ob<;>simp [cellsIn,cellIn] at *
   rw [List.getElem?_take] at hj
   split at hj
   · simpa using hj
   · cases hj
 simp only [rvS,h a _ ha,asAddr,Sem.run_bind,Sem.run_pure,Result.andThen_ok,hrun]
theorem rs_1 {fn:Func} {r:ResultVar} {v:Value} (hr:fn.results = #[r]) (h:Rv1 P l W r v):Rs P fn l W v:=fun tmps w ht hw=>by
 have h1:=h tmps w ht hw
 simp [results_eq,hr,Array.mapM_eq_mapM_toList,List.mapM_cons,List.mapM_nil,h1]
theorem rs_2 {fn:Func} {r s:ResultVar} {v x:Value} (hr:fn.results = #[r,s]) (h:Rv1 P l W r v) (h':Rv1 P l W s x):Rs P fn l W (.tuple #[v,x]):=fun tmps w ht hw=>by
 have h1:=h tmps w ht hw
 have h2:=h' tmps w ht hw
 simp [results_eq,hr,Array.mapM_eq_mapM_toList,List.mapM_cons,List.mapM_nil,h1,h2]
theorem WE.retR {fn:Func} {R:Ending→World→Prop} {v:Value} (hr:Rs P fn l W v) (h:∀w,W w→R (.returned v) w):WE (bodyPost P fn R) .ret n [] l W:=
 fun a w ha hw=>bodyPost_ret (hr a.tmps w ha.vals hw) ha.defs (h w hw)
theorem WE.retD {fn:Func} {R:Ending→World→Prop} {f:FuncId} {caps:List Value} {W':World→Prop} {v:Value} (hf:Enters P f)
   (hC:∀w,W w→CallsD P f caps.toArray .returning w fun e u' w'=>e = .returned (.tuple #[])∧u' = .returning∧W' w')
   (hr:Rs P fn l W' v) (h:∀w,W' w→R (.returned v) w):WE (bodyPostD P fn R) .ret n [⟨.fn (.func f) caps.toArray,#[]⟩] l W:=by
 intro a w ha hw
 show Leaves P fn a.tmps R a.defers .returning w
 rw [ha.defs]
 refine ⟨by simp,.func f,caps.toArray,f,caps.toArray,O,?_,(hC w hw).mono fun e u' w' he=>?_⟩
 · simp only [invoke]
   simpa using hf caps.toArray w
 · obtain ⟨rfl,rfl,hw'⟩:=he
   exact ⟨v,hr a.tmps w' ha.vals hw',h w' hw'⟩
theorem WE.panD {fn:Func} {R:Ending→World→Prop} {f:FuncId} {caps:List Value} {W':World→Prop} {v pv:Value} (hf:Enters P f)
   (hC:∀w,W w→CallsD P f caps.toArray (.panicking [⟨pv,false,false⟩]) w fun e u' w'=>e = .returned (.tuple #[])∧u' = .panicking [⟨pv,true,false⟩]∧W' w')
   (hr:Rs P fn l W' v) (h:∀w,W' w→R (.returned v) w):WE (bodyPostD P fn R) (.panic [⟨pv,false,false⟩]) n [⟨.fn (.func f) caps.toArray,#[]⟩] l W:=by
 intro a w ha hw
 show Leaves P fn a.tmps R a.defers (.panicking [⟨pv,false,false⟩]) w
 rw [ha.defs]
 refine ⟨by simp,.func f,caps.toArray,f,caps.toArray,O,?_,(hC w hw).mono fun e u' w' he=>?_⟩
 · simp only [invoke]
   simpa using hf caps.toArray w
 · obtain ⟨rfl,rfl,hw'⟩:=he
   exact ⟨v,hr a.tmps w' ha.vals hw',h w' hw'⟩
theorem WE.retD0 {fn:Func} {R:Ending→World→Prop} {v:Value} (hr:Rs P fn l W v) (h:∀w,W w→R (.returned v) w):WE (bodyPostD P fn R) .ret n [] l W:=by
 intro a w ha hw
 show Leaves P fn a.tmps R a.defers .returning w
 rw [ha.defs]
 exact ⟨v,hr a.tmps w ha.vals hw,h w hw⟩
def Rcv (u:FrameMode) (rv:Value) (u':FrameMode):Prop:=(u = .returning∧rv = .nilIface∧u' = .returning)∨∃v,u = .panicking [⟨v,false,false⟩]∧rv=v∧u' = .panicking [⟨v,true,false⟩]
theorem wpS_recover {id:Nat} {o:Oper} {os:List Oper} {d:Nat} {y:Code} {c₀:Frame} {cs:List Frame} {a:Act} {w:World} {rv:Value} {u':FrameMode} {Q:Exit→Act→World→Prop} {Qs:Exit→Act→List Frame→World→Prop}
   (hod:o.dst=some d) (hog:o.guard=none) (hrun:(execOp a.eval o).run P w = .ok .recover w) (hu:Rcv c₀.mode rv u')
   (hQ:∀e a w,Q e a w→Qs e a ({ c₀ with mode:=u' }::cs) w)
   (h:wpList P (o::os).toArray (Exit.then (y.wp P Q) Q) os (a.put (some d) rv) w):(Code.seq (.region id (o::os).toArray false) y).wpS P Qs a (c₀::cs) w:=by
 refine wpS_seq ?_
 intro b k hb hro
 have hops:(o::os).toArray[0]? = some o:=rfl
 have hwant:Region.wanted o (yielded (o::os).toArray a.tmps)=true:=by simp [Region.wanted,hog]
 have hg:=stepG_op (P:=P) (b:=b) (k:=k) (cs:=c₀::cs) (w:=w) (rest:=List.range' 1 os.length) hops hwant
 have hk:(b.at a (.inRegion (o::os).toArray (0::List.range' 1 os.length)::k)).kind = .deferred:=hb
 have htr:=tryRecover_deferred hk (c₀::cs)
 have hfin:∀v,(b.at a (.inRegion (o::os).toArray (0::List.range' 1 os.length)::k)).finish v=b.at (a.put (some d) v) (.inRegion (o::os).toArray (List.range' 1 os.length)::k):=by
   intro v; rw [Frame.finish_at,hops,←hod]; rfl
 have hstep:step P (lone (b.at a (.inRegion (o::os).toArray (0::List.range' 1 os.length)::k)) (c₀::cs) w) = .next (lone (b.at (a.put (some d) rv) (.inRegion (o::os).toArray (List.range' 1 os.length)::k)) ({ c₀ with mode:=u' }::cs) w):=by
   refine step_lone_go ?_
   rw [hg,←hfin]
   simp only [Frame.at] at htr ⊢
   rcases hu with ⟨hm,rfl,rfl⟩ | ⟨v,hm,rfl,rfl⟩
   · simp [stepG.apply,hrun,htr,recoverD,hm]
     rw [←hm]
   · simp [stepG.apply,hrun,htr,recoverD,hm]
 have hl:wpOps P (o::os).toArray (Exit.then (y.wp P Q) Q) (List.range' 1 os.length) (a.put (some d) rv) w:=by
   rw [wpOps_eq_wpList os 1 (fun j=>by simp [Nat.add_comm 1 j])]; exact h
 obtain ⟨e,a',w',hq,harr⟩:=wp_ops _ _ _ hl b k ({ c₀ with mode:=u' }::cs)
 have hs0:step P (lone (b.at a (.code (.region id (o::os).toArray false)::k)) (c₀::cs) w) = .next (lone (b.at a (.inRegion (o::os).toArray (0::List.range' 1 os.length)::k)) (c₀::cs) w):=by
   have:=step_region (P:=P) (b:=b) (a:=a) (k:=k) (cs:=c₀::cs) (w:=w) (ops:=(o::os).toArray) (id:=id)
   rw [this]
   simp [List.range_eq_range',List.range'_succ]
 refine ⟨e,a',_,w',?_,.of_steps (.head hs0 (.one hstep)) harr⟩
 cases e with
 | normal=>exact wpS_of_wp (wp_mono hq fun e a w h=>hQ e a w h)
 | _=>exact hQ _ _ _ hq
theorem closD {f:FuncId} {fn:Func} {id:Nat} {o:Oper} {os:List Oper} {d:Nat} {y:Code} {vs:List Value} {w:World} {rv:Value} {u u':FrameMode} {R:Ending→World→Prop} (hf:P.funcs[f]? = some fn) (hb:fn.body=some (.seq (.region id (o::os).toArray false) y))
   (m:Nat) (hm:fn.ntmps=m) (hle:Nat.ble vs.length m=true) (hod:o.dst=some d) (hdm:Nat.blt d m=true) (hog:o.guard=none) (hop:∀(ρ:Operand→Value),(execOp ρ o).run P w = .ok .recover w) (hu:Rcv u rv u')
   (h:WL P (o::os).toArray (Exit.then (y.wp P (bodyPost P fn R)) (bodyPost P fn R)) m [] ((d,rv)::env0 0 vs) (fun w'=>w'=w) os):CallsD P f vs.toArray u w fun e u2 w'=>u2=u'∧R e w':=by
 refine callsD_of_wpS hf hb fun c₀ cs hc=>?_
 refine wpS_recover (Q:=bodyPost P fn R) hod hog (hop _) (by rw [hc]; exact hu) (fun e a w hq=>?_) (h _ _ ?_ O)
 · cases e with
   | normal=>exact ⟨hq.1,u',rfl,hq.2.choose,hq.2.choose_spec.1,rfl,hq.2.choose_spec.2⟩
   | ret=>exact ⟨hq.1,u',rfl,hq.2.choose,hq.2.choose_spec.1,rfl,hq.2.choose_spec.2⟩
   | panic ch=>exact ⟨hq.1,u',rfl,rfl,hq.2⟩
   | outgrown=>exact ⟨u',rfl,hq⟩
   | exit i=>exact hq
   | goto i=>exact hq
 · have hle':=Nat.le_of_ble_eq_true hle
   subst hm
   have hA:Ag fn.ntmps [] (env0 0 vs) { tmps:=vs.toArray++Array.replicate (fn.ntmps-vs.toArray.size) undef,defers:=[] }:=by
     refine ⟨by simp; omega,O,fun t v hv=>?_⟩
     obtain ⟨_,h2⟩:=lk_env0 vs 0 t v hv
     simp only [Nat.sub_zero] at h2
     have hlt:t<vs.length:=by
       rcases Nat.lt_or_ge t vs.length with h | h
       · exact h
       · simp [List.getElem?_eq_none h] at h2
     simp [Array.getD_eq_getD_getElem?,Array.getElem?_append,hlt]
     simp [List.getElem?_eq_getElem hlt] at h2
     exact h2
   exact hA.put hdm rv
theorem yl_nein {t u:TypeId} {x:Operand} {W:World→Prop} {dd:Option Tmp} (ht:P.underlying t=some (.interface (P.methodsAt t))) (hx:opv l x=some .nilIface):Yl P l W ⟨dd,.binOp .neq t x (.const .nilIface) u,ty,pos,af,g⟩ (.bool false):=by
 intro ρ w hρ _
 have hy:ρ (.const .nilIface) = .nilIface:=hρ _ _ rfl
 simp only [execOp,hρ x _ hx,hy,Sem.run_bind]
 simp [eqGuard_nil_constR,run_neq_nil_nil (h:=ht)]
theorem yl_neih {t u s:TypeId} {x:Operand} {v:Value} {W:World→Prop} {dd:Option Tmp} (ht:P.underlying t=some (.interface (P.methodsAt t))) (hx:opv l x=some (.iface s v)):Yl P l W ⟨dd,.binOp .neq t x (.const .nilIface) u,ty,pos,af,g⟩ (.bool true):=by
 intro ρ w hρ _
 have hy:ρ (.const .nilIface) = .nilIface:=hρ _ _ rfl
 have hg:(eqGuard .neq t x (.const .nilIface) (.iface s v) .nilIface)=pure ():=by cases x<;>rfl
 simp only [execOp,hρ x _ hx,hy,Sem.run_bind,hg]
 simp [run_neq_held_nil (h:=ht)]
end
end Go.Bw
end
section
namespace Go.Bw
open Go Go.RowKit
section
variable {P:Program} {l:List (Nat×Value)} {W:World→Prop} {d:Option Tmp} {ty:TypeId} {pos:String} {af:Array Edge} {g:Option (Nat×Bool)}
theorem st_extract (s:List UInt8) (i j:Nat):Value.string ((ByteArray.mk s.toArray).extract i j)=st ((s.take j).drop i):=by
 have e:((ByteArray.mk s.toArray).extract i j)=⟨((s.take j).drop i).toArray⟩:=by
   apply ByteArray.ext
   simp [List.drop_take]
 rw [e]; rfl
theorem yl_ssh {t:TypeId} {x y:Operand} {s:List UInt8} {k:IntKind} {h:Int} (ht:P.underlying t=some .string) (hx:opv l x=some (st s)) (hy:opv l y=some (.int k h)) (h0:0≤h) (h1:h≤s.length):Yl P l W ⟨d,.slice t x none (some y) none,ty,pos,af,g⟩ (st (s.take h.toNat)):=by
 intro ρ w hρ _
 have e:=run_slice_string_h (P:=P) w t ⟨s.toArray⟩ ht k h h0 (by rw [size_st]; exact h1)
 have e2:(Instr.sliceAt t (.string ⟨s.toArray⟩) none (some (.int k h)) none).run P w = .ok (st (s.take h.toNat)) w:=by
   rw [run_sliceAt_string (h:=ht),e,st_extract]; simp
 simp [execOp,hρ x _ hx,hρ y _ hy,st,e2]
theorem yl_sst {t:TypeId} {x y:Operand} {s:List UInt8} {k:IntKind} {h:Int} (ht:P.underlying t=some .string) (hx:opv l x=some (st s)) (hy:opv l y=some (.int k h)) (h0:0≤h) (h1:h≤s.length):Yl P l W ⟨d,.slice t x (some y) none none,ty,pos,af,g⟩ (st (s.drop h.toNat)):=by
 intro ρ w hρ _
 have e:=run_slice_string_l (P:=P) w t ⟨s.toArray⟩ ht k h h0 (by rw [size_st]; exact h1)
 have e2:(Instr.sliceAt t (.string ⟨s.toArray⟩) (some (.int k h)) none none).run P w = .ok (st (s.drop h.toNat)) w:=by
   rw [run_sliceAt_string (h:=ht),e,st_extract,size_st,List.take_length]
 simp [execOp,hρ x _ hx,hρ y _ hy,st,e2]
theorem yl_shlk {t u:TypeId} {x y:Operand} {k2:IntKind} {n:Int} (m:Nat) (hx:opv l x=some (.int .i64 n)) (hy:opv l y=some (.int k2 (m:Int))) (hm:m≤64):Yl P l W ⟨d,.binOp .shl t x y u,ty,pos,af,g⟩ (.int .i64 (IntKind.i64.wrap (n*2 ^ m))):=by
 intro ρ w hρ _
 have e:min m IntKind.i64.bits=m:=by simp [IntKind.bits]; omega
 have:¬(m:Int)<0:=by omega
 have e1:(binOp .shl t (.int .i64 n) (.int k2 (m:Int))).run P w = .ok (.int .i64 (IntKind.i64.wrap (n*2 ^ (min (m:Int).toNat IntKind.i64.bits)))) w:=by
   simp only [binOp,Op.shift,if_neg this,Sem.run_pure]
 rw [Int.toNat_natCast,e] at e1
 simp only [execOp,hρ x _ hx,hρ y _ hy,Sem.run_bind,show eqGuard .shl t x y (.int .i64 n) (.int k2 (m:Int))=pure () from rfl,Sem.run_pure,Result.andThen_ok,e1]
theorem wrap_mod (a b:Int) (h:a % 18446744073709551616=b % 18446744073709551616):IntKind.i64.wrap a=IntKind.i64.wrap b:=by
 rw [IntKind.wrap_i64,IntKind.wrap_i64]; omega
theorem or_low (n:Int) (b:Nat) (hb:b<256):IntKind.i64.wrap ((BitVec.ofInt 64 (IntKind.i64.wrap (n*2 ^ 8))||| BitVec.ofInt 64 (b:Int)).toNat:Int)=IntKind.i64.wrap (n*256+b):=by
 have h1:(BitVec.ofInt 64 (IntKind.i64.wrap (n*2 ^ 8))).toNat=((n % 72057594037927936).toNat) <<< 8:=by
   rw [BitVec.toNat_ofInt,Nat.shiftLeft_eq]
   have e:IntKind.i64.wrap (n*2 ^ 8) % ((2 ^ 64:Nat):Int)=(n % 72057594037927936)*256:=by
     rw [IntKind.wrap_i64]; omega
   rw [e]; omega
 have h2:(BitVec.ofInt 64 (b:Int)).toNat=b:=by
   rw [BitVec.toNat_ofInt]
   omega
 rw [BitVec.toNat_or,h1,h2,←Nat.shiftLeft_add_eq_or_of_lt (by omega),Nat.shiftLeft_eq]
 apply wrap_mod
 omega
theorem yl_or8 {t u:TypeId} {x y:Operand} {n:Int} {b:Nat} (hx:opv l x=some (.int .i64 (IntKind.i64.wrap (n*2 ^ 8)))) (hy:opv l y=some (.int .i64 (b:Int))) (hb:b<256):Yl P l W ⟨d,.binOp .or t x y u,ty,pos,af,g⟩ (.int .i64 (IntKind.i64.wrap (n*256+b))):=by
 intro ρ w hρ _
 have e:(binOp .or t (.int .i64 (IntKind.i64.wrap (n*2 ^ 8))) (.int .i64 (b:Int))).run P w = .ok (.int .i64 (IntKind.i64.wrap ((BitVec.ofInt 64 (IntKind.i64.wrap (n*2 ^ 8))||| BitVec.ofInt 64 (b:Int)).toNat:Int))) w:=rfl
 rw [or_low n b hb] at e
 simp only [execOp,hρ x _ hx,hρ y _ hy,Sem.run_bind,show eqGuard .or t x y (.int .i64 (IntKind.i64.wrap (n*2 ^ 8))) (.int .i64 (b:Int))=pure () from rfl,Sem.run_pure,Result.andThen_ok,e]
end
section
variable {P:Program} {ops:Array Oper} {Q:Exit→Act→World→Prop} {n:Nat} {ds:List Deferred} {l:List (Nat×Value)} {w0:World} {F:List Nat} {L:List Asr} {Vs:List View}
 {rest:List Oper} {d:Nat} {ty:TypeId} {pos:String} {af:Array Edge} {g:Option (Nat×Bool)}
theorem WL.s2b {s t e:TypeId} {x:Operand} {bs:List UInt8} (hg:GOk ops l g) (hn:Nat.blt d n=true) (hs:P.underlying s=some .string) (ht:P.underlying t=some (.slice e)) (he:P.underlying e=some (.int .u8)) (hx:opv l x=some (st bs))
   (h:∀b c k,WL P ops Q n ds ((d,.slice (some ⟨b,0,none⟩) bs.length c)::l) (Ws w0 F (blk b (.cells (bs.map byv++List.replicate k (Value.int .u8 0)).toArray e (bs.length+k,bs.length+k+1))::L) Vs) rest) :
   WL P ops Q n ds l (Ws w0 F L Vs) (⟨some d,.convert s t x,ty,pos,af,g⟩::rest):=by
 refine WL.step hg fun a w ha hw K hK=>?_
 have hrun:=Lib.run_convert_string_bytes (P:=P) w s t e ⟨bs.toArray⟩ hs ht he
 have hrun':(execOp a.eval ⟨some d,.convert s t x,ty,pos,af,g⟩).run P w = .ok (.value (.slice (some ⟨w.heap.size,0,none⟩) bs.length (grownCap w bs.length 0 e))) (Lib.bytesWorld w e ⟨bs.toArray⟩):=by
   rw [size_st] at hrun
   simp only [execOp,ha.eval hx,st,Sem.run_bind,hrun,Result.andThen_ok,Sem.run_pure]
 simp only [Oper.wp,hrun',Oper.upon_value]
 refine hK _ _ (h w.heap.size _ (grownCap w bs.length 0 e-bs.length) _ _ (ha.put hn _) ?_)
 have hc:Lib.bytesCells w e ⟨bs.toArray⟩=(bs.map byv++List.replicate (grownCap w bs.length 0 e-bs.length) (Value.int .u8 0)).toArray:=by
   unfold Lib.bytesCells
   rw [size_st]
   apply Array.ext'
   simp [byv]
 have hsz:(Lib.bytesCells w e ⟨bs.toArray⟩).size=bs.length+(grownCap w bs.length 0 e-bs.length):=by rw [hc]; simp
 have hnew:=Lib.bytesWorld_at_new w e ⟨bs.toArray⟩
 rw [hsz,hc] at hnew
 have:=Ws.turn (L:=[]) (L':=[blk w.heap.size (.cells (bs.map byv++List.replicate (grownCap w bs.length 0 e-bs.length) (Value.int .u8 0)).toArray e (bs.length+(grownCap w bs.length 0 e-bs.length),bs.length+(grownCap w bs.length 0 e-bs.length)+1))]) (L2:=L) (w':=Lib.bytesWorld w e ⟨bs.toArray⟩) (by simpa using hw)
   ⟨by unfold Lib.bytesWorld World.freeze; split<;>rfl,by unfold Lib.bytesWorld World.freeze; split<;>rfl,by unfold Lib.bytesWorld World.freeze; split<;>rfl,by rw [Lib.bytesWorld_size]; omega,fun j hj _=>Lib.bytesWorld_at_old w e _ j hj⟩
   (by intro A hA; simp at hA; subst hA; exact hnew) (by simp [blk]) (by simp [blk])
 simpa using this
end
end Go.Bw
end
section
namespace Go.Bw
open Go Go.RowKit
abbrev osT {α:Type} (e:TypeId) (k:Nat) (f:α→List Value) (a:Option Addr) (c:Nat) (xs:List α):Asr:=osl e k (.slice a xs.length c) xs.length (xs.flatMap f)
section
variable {P:Program} {ops:Array Oper} {Q:Exit→Act→World→Prop} {n:Nat} {ds:List Deferred} {l:List (Nat×Value)} {w0:World} {F:List Nat} {L:List Asr} {Vs:List View}
 {rest:List Oper} {d:Nat} {ty:TypeId} {pos:String} {af:Array Edge} {g:Option (Nat×Bool)}
theorem LA {α:Type} {f:α→List Value} {t e:TypeId} {z:Value} {size bytes cc:Nat} {s y:Operand} {a:Option Addr} {c bb:Nat} {xs:List α} {T:TypeId} {fz:Nat×Nat} (x:α) (i j:Nat) (hg:GOk ops l g) (hn:Nat.blt d n=true) (hE:EltOk P t e z size bytes)
   (hs:opv l s=some (.slice a xs.length c)) (hy:opv l y=some (.slice (some ⟨bb,0,none⟩) 1 cc)) (hL:L[i]? = some (osT e size f a c xs)) (hB:L[j]? = some (blk bb (.cells (f x).toArray T fz)))
   (hl:(f x).length=size) (h1:(f x).all (·.oneCell')=true) (h63:xs.length+1≤9223372036854775807) (hby:(xs.length+1)*bytes≤140737488355328)
   (h:∀a' c',WL P ops Q n ds ((d,.slice a' (xs++[x]).length c')::l) (Ws w0 F (L.set i (osT e size f a' c' (xs++[x]))) Vs) rest) :
   WL P ops Q n ds l (Ws w0 F L Vs) (⟨some d,.call ⟨.builtin .append,#[s,y],#[t,t]⟩,ty,pos,af,g⟩::rest):=by
 refine WL.append i hg hn hE hs hy hL (news:=f x) (k:=1) (by rw [Nat.one_mul]; exact hl) (fun w hw k u hu=>blk_cells hw j hB (k:=k) (by simpa using hu)) (fun u hu=>List.all_eq_true.1 h1 u hu) (by unfold maxLen; omega) hby fun v' _=>?_
 have e1:(xs.flatMap f)++f x=(xs++[x]).flatMap f:=by simp
 have e2:xs.length+1=(xs++[x]).length:=by simp
 rw [e1,e2]
 have hi:i<L.length:=(List.getElem?_eq_some_iff.1 hL).1
 refine WL.slcm i (m:=(xs++[x]).length) (xs:=(xs++[x]).flatMap f) (e:=e) (size:=size) (v:=v') (by simp [hi]) fun a' c' hv=>?_
 subst hv
 exact h a' c'
end
theorem Ws.slT {α:Type} {rd:View→Nat→Nat→α→Prop} {f:α→List Value} {k:Nat} {w0 w:World} {L:List Asr} {Vs:List View} (h:Ws w0 [] L Vs w) (i:Nat) {a:Option Addr} {c:Nat} {e:TypeId} {xs:List α} (hL:L[i]? = some (osT e k f a c xs))
   (hf:∀x,(f x).length=k) (hrd:∀H b o x,RdC H b o (f x)→rd H b o x):Sl rd k (nv w0 w) a c xs:=by
 rcases h.nvs i hL with ⟨h1,h2⟩ | ⟨b,c',h1,h2,h3,h4⟩
 · injection h1 with ha hl hc
   subst ha hc
   have:xs=[]:=List.eq_nil_of_length_eq_zero (by omega)
   subst this
   exact Sl.nil
 · injection h1 with ha hl hc
   subst ha hc
   refine ⟨h2,by unfold maxLen at h3; omega,by simp,fun i x hx=>⟨b,0,O,hrd _ _ _ _ fun j v hv=>?_⟩⟩
   have hj:j<k:=by have:=(List.getElem?_eq_some_iff.1 hv).1; rw [hf] at this; exact this
   rw [Nat.zero_add]
   exact h4 _ _ (by rw [flat_get hf hx hj]; exact hv)
theorem Ws.slTh {α:Type} {rd:View→Nat→Nat→α→Prop} {f:α→List Value} {k:Nat} {w0 w:World} {F:List Nat} {L:List Asr} {Vs:List View} (h:Ws w0 F L Vs w) (i:Nat) {a:Option Addr} {c:Nat} {e:TypeId} {xs:List α} (hL:L[i]? = some (osT e k f a c xs))
   (hf:∀x,(f x).length=k) (hrd:∀H b o x,RdC H b o (f x)→rd H b o x):Sl rd k (hv w) a c xs:=by
 obtain ⟨h1,h2⟩:=(h.kn _ (mem_of_idx hL):w.ownsRow 0 e k _ xs.length (xs.flatMap f))
 rcases h2 with ⟨h3,h4⟩ | ⟨b,cap,cur,h5,_,hb,hmc,hc,hs,ht⟩
 · injection h3 with ha hl hc
   subst ha hc
   have:xs=[]:=List.eq_nil_of_length_eq_zero (by omega)
   subst this
   exact Sl.nil
 · injection h5 with ha hl hc'
   subst ha hc'
   refine ⟨hmc,by unfold maxLen at hc; omega,by simp,fun i x hx=>⟨b,0,O,hrd _ _ _ _ fun j v hv=>?_⟩⟩
   have hj:j<k:=by have:=(List.getElem?_eq_some_iff.1 hv).1; rw [hf] at this; exact this
   have h6:(xs.flatMap f)[i*k+j]? = some v:=by rw [flat_get hf hx hj]; exact hv
   rw [←ht,List.getElem?_take] at h6
   split at h6
   · refine hv_blk hb ?_
     simpa [cellIn] using h6
   · cases h6
end Go.Bw
end
section
namespace Go.Bw
open Go Go.RowKit
def noRes (rs:List ResultVar) (d:Option Tmp):Bool:=match d with
 | none=>true
 | some d=>rs.all fun r=>match r with | .tmp t=>!(Nat.beq d t) | .cell a _=>!(Nat.beq d a)
theorem rvS_put {r:ResultVar} {d:Nat} {v:Value} {a:Act} (h:(match r with | .tmp t=>!(Nat.beq d t) | .cell a _=>!(Nat.beq d a))=true):rvS (a.put (some d) v).tmps r=rvS a.tmps r:=by
 have key:∀t,(!(Nat.beq d t))=true→(a.put (some d) v).tmps.getD t undef=a.tmps.getD t undef:=fun t ht=>by
   have hne:d≠t:=fun e=>by subst e; simp at ht
   simp only [Act.put,Array.getD_eq_getD_getElem?]
   rw [Array.getElem?_setIfInBounds_ne hne]
 cases r with
 | tmp t=>simp only [rvS,key t h]
 | cell x _=>simp only [rvS,key x h]
theorem results_put {fn:Func} {rs:List ResultVar} (hr:fn.results=rs.toArray) {d:Option Tmp} {v:Value} {a:Act} (h:noRes rs d=true):results fn (a.put d v).tmps=results fn a.tmps:=by
 cases d with
 | none=>rfl
 | some d=>
   simp only [noRes,List.all_eq_true] at h
   have e:∀l:List ResultVar,(∀r ∈ l,r ∈ rs)→l.mapM (rvS (a.put (some d) v).tmps)=l.mapM (rvS a.tmps):=by
     intro l
     induction l with
     | nil=>intro _; rfl
     | cons x l ih=>
       intro hl
       rw [List.mapM_cons,List.mapM_cons,rvS_put (h x (hl x (by simp))),ih fun r hr=>hl r (by simp [hr])]
   rw [results_eq,results_eq,hr,Array.mapM_eq_mapM_toList,Array.mapM_eq_mapM_toList,e _ fun r hr=>by simpa using hr]
theorem leaves_put {P:Program} {fn:Func} {rs:List ResultVar} {R:Ending→World→Prop} (hr:fn.results=rs.toArray) {d:Option Tmp} {v:Value} {a:Act} (h:noRes rs d=true):∀(ds:List Deferred) (u:FrameMode) (w:World),Leaves P fn (a.put d v).tmps R ds u w→Leaves P fn a.tmps R ds u w
 | [],.returning,w,hl=>by
   simp only [Leaves] at hl ⊢
   rw [results_put hr h] at hl
   exact hl
 | [],.panicking _,_,hl=>hl
 | [],.run,_,hl=>hl
 | x::ds,u,w,hl=>by
   obtain ⟨h1,fv,cap,f,args,h2,h3,h4⟩:=hl
   refine ⟨h1,fv,cap,f,args,h2,h3,h4.mono fun e u' w' he=>?_⟩
   cases e with
   | returned v=>exact leaves_put hr h ds _ _ he
   | panicked ch=>exact leaves_put hr h ds _ _ he
   | outgrown=>exact he
theorem bodyD_put {P:Program} {fn:Func} (rs:List ResultVar) {R:Ending→World→Prop} (hr:fn.results=rs.toArray) {d:Option Tmp} {v:Value} {a:Act} {c:List PanicEntry} {w:World} (h:noRes rs d=true) (hl:bodyPostD P fn R (.panic c) (a.put d v) w):bodyPostD P fn R (.panic c) a w:=by
 have e:(a.put d v).defers=a.defers:=by cases d<;>rfl
 have hl:Leaves P fn (a.put d v).tmps R (a.put d v).defers (.panicking c) w:=hl
 rw [e] at hl
 exact leaves_put hr h _ _ _ hl
section
variable {P:Program} {md:Region.Mode} {ops:Array Oper} {C:World→Prop} {Q:Exit→Act→World→Prop}
def allD (ok:Option Tmp→Bool) (ops:Array Oper):Bool:=ops.toList.all fun o=>ok o.dst
theorem allD_get {ok:Option Tmp→Bool} (h:allD ok ops=true) {i:Nat} {o:Oper} (ho:ops[i]? = some o):ok o.dst=true:=by
 refine List.all_eq_true.1 h o ?_
 have:ops.toList[i]? = some o:=by simpa using ho
 exact List.mem_of_getElem? this
theorem wpAnyC_ordK {ok:Option Tmp→Bool} (hok:allD ok ops=true) (hs:Region.noSelect ops=true) (hQ:∀c a w d v,ok d=true→Q (.panic c) (a.put d v) w→Q (.panic c) a w):∀(ord:List (Nat×Bool)) (listed:Array Bool) (a:Act) (w:World),
   ordB md ops ord listed=true→wpC P ops C Q ord a w→wpAnyC P md ops C Q ord.length listed a w
 | [],listed,a,w,hB,h=>⟨h.1,by simpa [ordB] using hB,h.2⟩
 | (i,true)::r,listed,a,w,hB,h=>by
   simp only [ordB,cond_true,Bool.and_eq_true] at hB
   obtain ⟨hC,o,v,ho,hy,h⟩:=h
   exact wpAnyC_first ho (Region.noSelect_spec hs) (fun c a w=>hQ c a w o.dst v (allD_get hok ho)) r.length listed a w (Region.free_spec ho hB.1.2) (by simpa using hB.1.1) hy hC
     (wpAnyC_ordK hok hs hQ r _ _ _ hB.2 h)
 | (i,false)::r,listed,a,w,hB,h=>by
   simp only [ordB,cond_false,Bool.and_eq_true,beq_iff_eq] at hB
   refine ⟨h.1,fun he=>(by rw [he] at hB; cases hB.1),fun j hj=>?_⟩
   rw [hB.1] at hj
   simp at hj
   subst hj
   exact wpOp_mono (fun a' w' h'=>wpAnyC_ordK hok hs hQ r _ _ _ hB.2 h') h.2
variable {n:Nat} {ds:List Deferred} {l:List (Nat×Value)} {W:World→Prop}
def outs:List Nat→List Asr→List Asr
 | [],L=>L
 | i::r,L=>outs r (outOf i L)
theorem Wo {w0 w:World} {F:List Nat} {L:List Asr} {Vs:List View} (i:Nat) (h:Ws w0 F L Vs w):Ws w0 F (outOf i L) Vs w:=Ws.out i h
theorem Wt {w0 w:World} {F:List Nat} {L:List Asr} {Vs:List View} (n:Nat) (h:Ws w0 F L Vs w):Ws w0 F (L.take n) Vs w:=Ws.keep (L':=L.drop n) (by rw [List.take_append_drop]; exact h)
theorem Wd {w0 w:World} {F:List Nat} {L:List Asr} {Vs:List View} (n:Nat) (h:Ws w0 F L Vs w):Ws w0 F (L.drop n) Vs w:=Ws.drop (L:=L.take n) (by rw [List.take_append_drop]; exact h)
theorem Wv {w0 w:World} {F:List Nat} {L:List Asr} {Vs:List View} (n:Nat) (h:Ws w0 F L Vs w):Ws w0 F L (Vs.drop n) w:=Ws.drops h fun _ hm=>List.mem_of_mem_drop hm
theorem Ws.f {w0 w:World} {F:List Nat} {L:List Asr} {Vs:List View} (i:Nat) {A:Asr} (h:Ws w0 F L Vs w) (hA:L[i]? = some A):Ws w0 F (A::outOf i L) Vs w:=h.perm (outOf_perm i L hA)
theorem Wp {w0:World} {F:List Nat} {L:List Asr} {Vs:List View} (i:Nat):∀w,Ws w0 F L Vs w→Ws w0 F (outOf i L) Vs w:=fun _ h=>Wo i h
theorem Wos {w0:World} {F:List Nat} {L:List Asr} {Vs:List View} (is:List Nat):∀w,Ws w0 F L Vs w→Ws w0 F (outs is L) Vs w:=fun _ h=>by
 induction is generalizing L with
 | nil=>exact h
 | cons i r ih=>exact ih (Wo i h)
theorem WC.drawsK {id:Nat} {os:List Oper} {w0:World} {F:List Nat} {L:List Asr} {Vs:List View} (ok:Option Tmp→Bool) (is:List Nat) (ord:List (Nat×Bool)) (hm:P.follows .mixedOrders=true) (hok:allD ok os.toArray=true) (hB:(Region.noSelect os.toArray&&(ord.length==os.toArray.size&&ordB .any os.toArray ord (Array.replicate os.toArray.size false)))=true)
   (hQ:∀c a w d v,ok d=true→Q (.panic c) (a.put d v) w→Q (.panic c) a w) (h:WD P os.toArray (Ws w0 F (outs is L) Vs) Q n ds l (Ws w0 F L Vs) ord):WC P (.region id os.toArray true) Q n ds l (Ws w0 F L Vs):=by
 intro a w ha hw
 simp only [Bool.and_eq_true,beq_iff_eq] at hB
 have:=wpAny_of_C (md:=.any) _ _ _ _ (wpAnyC_ordK hok hB.1 hQ ord _ a w.drew hB.2.2 (h a w.drew ha hw.drew))
 rw [hB.2.1] at this
 exact wp_region_any hm this
theorem WD.skip {r:List (Nat×Bool)} {i d:Nat} {op:Op} {ty:TypeId} {pos:String} {af:Array Edge} {j:Nat} {b:Bool} {oj:Oper} {dj:Nat} (hi:ops[i]? = some ⟨some d,op,ty,pos,af,some (j,b)⟩) (hn:Nat.blt d n=true)
   (hj:ops[j]? = some oj) (hdj:oj.dst=some dj) (hnj:Nat.blt dj n=true) (hb:lk l dj=some (.bool (!b)))
   (hC:∀w,W w→C w) (h:WD P ops C Q n ds ((d,undef)::l) W r):WD P ops C Q n ds l W ((i,true)::r):=by
 intro a w ha hw
 have hv:a.tmps.getD dj undef = .bool (!b):=ha.vals dj _ hb
 have hlt:dj<a.tmps.size:=by rw [ha.size]; exact Nat.le_of_ble_eq_true hnj
 have hget:a.tmps[dj]? = some (.bool (!b)):=by
   rw [Array.getD_eq_getD_getElem?,Array.getElem?_eq_getElem hlt] at hv
   rw [Array.getElem?_eq_getElem hlt]
   simpa using hv
 have hyd:yielded ops a.tmps j=some (!b):=by simp [yielded,hj,hdj,hget]
 exact ⟨hC w hw,_,undef,hi,.inr ⟨by simp [Region.wanted,hyd],O⟩,h _ _ (ha.put hn undef) hw⟩
theorem WE.front {w0:World} {F:List Nat} {L:List Asr} {Vs:List View} {e:Exit} {A:Asr} (i:Nat) (hL:L[i]? = some A) (h:WE Q e n ds l (Ws w0 F (A::outOf i L) Vs)):WE Q e n ds l (Ws w0 F L Vs):=
 WE.world (fun _ hw=>hw.perm (outOf_perm i L hL)) h
theorem closW {w0:World} {F:List Nat} {L:List Asr} {Vs:List View} {f:FuncId} {args:Array Value} {u u':FrameMode} (L1 L2 L1':List Asr) (hL:L=L1++L2)
   (hC:∀w,Ws w (L1.flatMap Asr.ids) L1 [] w→CallsD P f args u w fun e u2 w'=>u2=u'∧(e = .returned (.tuple #[])∧Ws w (L1.flatMap Asr.ids) L1' [] w')) :
   ∀w,Ws w0 F L Vs w→CallsD P f args u w fun e u2 w'=>e = .returned (.tuple #[])∧u2=u'∧Ws w0 F (L1'++L2) Vs w':=by
 intro w hw
 subst hL
 exact (hC w (hw.self.drops (by simp))).mono fun e u2 w' ⟨h1,h2,h3⟩=>⟨h2,h1,hw.back h3⟩
end
end Go.Bw
end
section
namespace Go.Bw
open Go Go.RowKit
open Go.ChangeShapes Go.WideShapes Go.ChangeAt Go.RowKit Go.Joins Go.Deep
theorem exists_list' {α:Type} (p:Nat→α→Prop):∀n,(∀i,i<n→∃x,p i x)→∃l:List α,l.length=n∧∀(i:Nat) (x:α),l[i]? = some x→p i x
 | 0,_=>⟨[],rfl,by simp⟩
 | n+1,h=>by
   obtain ⟨l,hl,hp⟩:=exists_list' p n fun i hi=>h i (by omega)
   obtain ⟨x,hx⟩:=h n (by omega)
   refine ⟨l++[x],by simp [hl],fun i y hy=>?_⟩
   rcases Nat.lt_trichotomy i n with h1 | h1 | h1
   · rw [List.getElem?_append_left (by omega)] at hy; exact hp i y hy
   · subst h1
     rw [List.getElem?_append_right (by omega),hl] at hy
     simp at hy; subst hy; exact hx
   · rw [List.getElem?_eq_none (by simp; omega)] at hy; cases hy
theorem vc_of_cell' {w:World} {b o:Nat} {v:Value} (h:w.cell? ⟨b,o,none⟩=some v):vc (hv w) b o=some v:=by
 unfold vc hv
 unfold World.cell? at h
 cases hb:w.heap[b]? with
 | none=>simp [hb] at h
 | some ob=>cases ob<;>simp [hb,cellIn] at h ⊢<;>exact h
inductive Sh where
 | int
 | str
 | bool
deriving DecidableEq
def Sh.fit:Sh→Value→Prop
 | .int,v=>∃k:Int,v = .int .i64 k∧-9223372036854775808≤k∧k≤9223372036854775807
 | .str,v=>∃l:List UInt8,v=st l∧l.length≤9223372036854775807
 | .bool,v=>∃b,v = .bool b
def shP (P:Program) (t:TypeId):Option Sh:=match P.underlying t with
 | some (.int .i64)=>some .int
 | some .string=>some .str
 | some .bool=>some .bool
 | _=>none
def inRow (P:Program):Nat→List Field→Bool
 | _,[]=>true
 | i,f::r=>Nat.beq f.offset i&&(Nat.beq (P.cellsOf f.type) 1&&inRow P (i+1) r)
section
variable {P:Program} {H:Type} {enc:TypeId×Value→H} {w:World} {base:Nat} {spare:Nat→Bool} {held:Bool}
theorem inRow_get:∀(i:Nat) (l:List Field) (j:Nat) (f:Field),inRow P i l=true→l[j]? = some f→f.offset=i+j∧P.cellsOf f.type=1
 | _,[],j,f,_,h=>by cases h
 | i,g::r,0,f,hr,h=>by
   simp only [inRow,Bool.and_eq_true] at hr
   simp at h; subst h
   exact ⟨Nat.eq_of_beq_eq_true hr.1,Nat.eq_of_beq_eq_true hr.2.1⟩
 | i,g::r,j+1,f,hr,h=>by
   simp only [inRow,Bool.and_eq_true] at hr
   have:=inRow_get (i+1) r j f hr.2.2 (by simpa using h)
   exact ⟨by omega,this.2⟩
theorem sh_trod {t:TypeId} {s:Sh} {fuel:Nat} {v:Value} {x:DataW H×List MemPlace} (hs:shP P t=some s) (h:DataW.trod enc P w base spare held fuel t [v]=some x):s.fit v:=by
 unfold shP at hs
 cases hu:P.underlying t with
 | none=>simp [hu] at hs
 | some d=>
   cases d<;>simp [hu] at hs
   case int k=>
     cases k<;>simp at hs
     subst hs
     obtain ⟨n,e,_,hw⟩:=DataW.trod_int hu h
     injection e with e _
     subst e
     refine ⟨n,O,?_⟩
     simp [Lit.wf,IntKind.min,IntKind.max,IntKind.signed,IntKind.bits] at hw
     omega
   case string=>
     subst hs
     obtain ⟨s,e,_,hw⟩:=DataW.trod_string hu h
     injection e with e _
     subst e
     exact ⟨s.data.toList,by simp [st],by unfold maxLen at hw; simpa using hw⟩
   case bool=>
     subst hs
     obtain ⟨b,e,_⟩:=DataW.trod_bool hu h
     injection e with e _
     exact ⟨b,e⟩
theorem okWide_agg' {r:Reach} {t:TypeId} {fs:Array Field} {v:Value} (hu:P.underlying t=some (.struct fs)) (h:Value.okWide P w r base t v):∃cs,v = .agg cs∧Row.okWide P w r base t cs:=by
 unfold Value.okWide at h
 simp only [hu] at h
 obtain ⟨cs',e,_,hr⟩:=h
 exact ⟨cs',e,hr⟩
theorem open_str {r:Reach} {b0:Nat} {t:TypeId} {v:Value} {d:DataW H} {p:List MemPlace} (hu:P.underlying t=some .string) (hval:Value.okWide P w r b0 t v) (h:DataW.Trod enc P w base spare held t v d p) :
   ∃l:List UInt8,v=st l∧l.length≤9223372036854775807:=by
 obtain ⟨n,rfl⟩:=okWide_string hu hval
 obtain ⟨fuel,h⟩:=h
 exact sh_trod (s:=.str) (by simp [shP,hu]) h
end
end Go.Bw
end
section
namespace Go.Bw
set_option linter.unnecessarySimpa false
open Go Go.RowKit
section
variable {P:Program} {l:List (Nat×Value)} {W:World→Prop} {d:Option Tmp} {ty:TypeId} {pos:String} {af:Array Edge} {g:Option (Nat×Bool)}
theorem yl_slhn {t:TypeId} {x y:Operand} {a:Option Addr} {m c s:Nat} {k:IntKind} {h:Int} (n:Nat) (hs:elemSz P t=some s) (hx:opv l x=some (.slice a m c)) (hsp:∀p,a=some p→p.spot=none) (hy:opv l y=some (.int k h)) (hh:h=(n:Int)) (h1:n≤c) :
   Yl P l W ⟨d,.slice t x none (some y) none,ty,pos,af,g⟩ (.slice a n c):=by
 subst hh
 exact yl_slhi hs hx hsp hy (by omega) (by omega)
theorem yl_slln {t:TypeId} {x y:Operand} {a:Option Addr} {m c s:Nat} {k:IntKind} {h:Int} (n:Nat) (hs:elemSz P t=some s) (hx:opv l x=some (.slice a m c)) (hy:opv l y=some (.int k h)) (hh:h=(n:Int)) (h1:n≤m) (h2:m≤c) :
   Yl P l W ⟨d,.slice t x (some y) none none,ty,pos,af,g⟩ (.slice (if c-n=0 then a else a.map (·.add (n*s))) (m-n) (c-n)):=by
 intro ρ w hρ _
 subst hh
 unfold elemSz at hs
 cases hu:P.underlying t with
 | none=>simp [hu] at hs
 | some dd=>
   cases dd<;>simp [hu] at hs
   rename_i e
   obtain ⟨inf,hi,rfl⟩:=hs
   simp [execOp,hρ x _ hx,hρ y _ hy,Instr.sliceAt,Instr.slice,Instr.sliceBounds,Instr.sliceBound,asIntOf,run_underlying hu,sizeOf,typeInfo,hi,h1]
   by_cases hcn:c=n
   · subst hcn; simp
   · have:¬c-n=0:=by omega
     simp [hcn,this]
end
theorem Sl.drop {α:Type} {rd:View→Nat→Nat→α→Prop} {k:Nat} {H:View} {a:Option Addr} {c:Nat} {l:List α} (h:Sl rd k H a c l) (n:Nat) (hn:n≤l.length):Sl rd k H (if c-n=0 then a else a.map (·.add (n*k))) (c-n) (l.drop n):=by
 have hc:=h.cap
 refine ⟨by simp; omega,by have:=h.max; omega,?_,fun i x hx=>?_⟩
 · intro p hp hc0
   split at hp
   · omega
   · cases a with
     | none=>cases hp
     | some q=>
       have hq:=h.spot q rfl (by omega)
       obtain ⟨b,o,s⟩:=q
       obtain rfl:s=none:=hq
       simp [add_none] at hp
       subst hp; rfl
 · rw [List.getElem?_drop] at hx
   have hi:=(List.getElem?_eq_some_iff.1 hx).1
   obtain ⟨b,o,ha,hr⟩:=h.elt _ _ hx
   subst ha
   refine ⟨b,o+n*k,?_,?_⟩
   · rw [if_neg (by omega)]; simp [add_none]
   · rw [Nat.add_mul] at hr
     rw [Nat.add_assoc]; exact hr
theorem Sl.take {α:Type} {rd:View→Nat→Nat→α→Prop} {k:Nat} {H:View} {a:Option Addr} {c:Nat} {l:List α} (h:Sl rd k H a c l) (n:Nat):Sl rd k H a c (l.take n):=
 ⟨by have:=h.cap; simp; omega,h.max,h.spot,fun i x hx=>h.elt i x (by
   rw [List.getElem?_take] at hx
   split at hx
   · exact hx
   · cases hx)⟩
end Go.Bw
end
section
namespace Go.Bw
set_option linter.unnecessarySimpa false
open Go Go.RowKit
section
variable {P:Program} {md:Region.Mode} {ops:Array Oper} {S:List Nat} {C D:World→Prop} {Q:Exit→Act→World→Prop}
def unl (S:List Nat) (listed:Array Bool):Prop:=∀s ∈ S,listed.getD s true=false
def wpAnyE (P:Program) (md:Region.Mode) (ops:Array Oper) (S:List Nat) (C D:World→Prop) (Q:Exit→Act→World→Prop):Nat→Array Bool→Act→World→Prop
 | 0,listed,a,w=>((unl S listed→C w)∧D w)∧Region.ready md ops listed=[]∧Q .normal a w
 | fuel+1,listed,a,w=>((unl S listed→C w)∧D w)∧(Region.ready md ops listed=[]→Q .normal a w)∧
   ∀i ∈ Region.ready md ops listed,wpOp P ops Q i (wpAnyE P md ops S C D Q fuel (listed.setIfInBounds i true)) a w
theorem wpAny_of_E:∀(fuel:Nat) (listed:Array Bool) (a:Act) (w:World),wpAnyE P md ops S C D Q fuel listed a w→wpAny P md ops Q fuel listed a w
 | 0,_,_,_,h=>h.2
 | fuel+1,listed,a,w,h=>⟨h.2.1,fun i hi=>wpOp_mono (fun a' w' h'=>wpAny_of_E fuel _ a' w' h') (h.2.2 i hi)⟩
theorem wpAnyE.c {fuel:Nat} {listed:Array Bool} {a:Act} {w:World} (h:wpAnyE P md ops S C D Q fuel listed a w):(unl S listed→C w)∧D w:=by cases fuel<;>exact h.1
theorem unl_set {i:Nat} (hi:i ∉ S) {listed:Array Bool}:unl S (listed.setIfInBounds i true)↔unl S listed:=by
 constructor
 · intro h s hs
   have hne:i≠s:=fun e=>by subst e; exact hi hs
   have:=h s hs
   rwa [getD_set_ne true hne] at this
 · intro h s hs
   have hne:i≠s:=fun e=>by subst e; exact hi hs
   rw [getD_set_ne true hne]
   exact h s hs
def Closed (md:Region.Mode) (ops:Array Oper) (listed:Array Bool):Prop:=∀(j:Nat) (o:Oper),ops[j]? = some o→listed.getD j true=true→∀e ∈ o.after,Region.binds md e=true→listed.getD e.on true=true
def reachB (md:Region.Mode) (ops:Array Oper) (i:Nat):Nat→Nat→Bool
 | 0,_=>false
 | f+1,s=>match ops[s]? with
   | some os=>os.after.any fun e=>Region.binds md e&&(Nat.beq e.on i||reachB md ops i f e.on)
   | none=>false
theorem reach_listed {listed:Array Bool} (hcl:Closed md ops listed) {i:Nat}:∀(f s:Nat),reachB md ops i f s=true→(∀o,ops[s]? = some o→∀e ∈ o.after,Region.binds md e=true→listed.getD e.on true=true)→listed.getD i true=true
 | 0,s,h,_=>by simp [reachB] at h
 | f+1,s,h,hs=>by
   simp only [reachB] at h
   cases ho:ops[s]? with
   | none=>simp [ho] at h
   | some o=>
     simp only [ho] at h
     obtain ⟨e,he,hbe⟩:=Array.any_eq_true'.1 h
     simp only [Bool.and_eq_true,Bool.or_eq_true] at hbe
     have hl:=hs o ho e he hbe.1
     rcases hbe.2 with h1 | h1
     · have:=Nat.eq_of_beq_eq_true h1
       rw [this] at hl; exact hl
     · exact reach_listed hcl f e.on h1 fun o' ho' e' he' hb'=>hcl e.on o' ho' hl e' he' hb'
theorem ready_preds {listed:Array Bool} {j:Nat} (hj:j ∈ Region.ready md ops listed):∀o,ops[j]? = some o→∀e ∈ o.after,Region.binds md e=true→listed.getD e.on true=true:=by
 intro o ho e he hb
 obtain ⟨_,oj,hoj,hall⟩:=mem_ready.1 hj
 rw [ho] at hoj
 injection hoj with hoj
 subst hoj
 have h1:=hall e he hb
 rcases Nat.lt_or_ge e.on listed.size with h' | h'
 · simp [Array.getD_eq_getD_getElem?,h'] at h1 ⊢
   exact h1
 · simp [Array.getD_eq_getD_getElem?,Array.getElem?_eq_none h']
theorem Closed.set {listed:Array Bool} {j:Nat} (hcl:Closed md ops listed) (hj:j ∈ Region.ready md ops listed):Closed md ops (listed.setIfInBounds j true):=by
 have up:∀k,listed.getD k true=true→(listed.setIfInBounds j true).getD k true=true:=by
   intro k hk
   by_cases hjk:j=k
   · subst hjk
     rcases Nat.lt_or_ge j listed.size with h' | h'
     · simp [Array.getD_eq_getD_getElem?,h']
     · simp [Array.getD_eq_getD_getElem?,h']
   · rw [getD_set_ne true hjk]; exact hk
 intro k o ho hk e he hb
 by_cases hjk:j=k
 · subst hjk
   exact up _ (ready_preds hj o ho e he hb)
 · rw [getD_set_ne true hjk] at hk
   exact up _ (hcl k o ho hk e he hb)
def Kept (md:Region.Mode) (ops:Array Oper) (S:List Nat) (C D Ci:World→Prop) (i:Nat):Prop:=
 (∀w,D w→Ci w)∨((∀w,C w→Ci w)∧∀s ∈ S,reachB md ops i ops.size s=true)
theorem wpAnyE_first {i:Nat} {oi:Oper} {v:Value} {Ci:World→Prop} (hi:ops[i]? = some oi) (hsel:∀(j:Nat) (o:Oper) cs b,ops[j]? = some o→o.op≠.select cs b)
   (hQ:∀c a w,Q (.panic c) (a.put oi.dst v) w→Q (.panic c) a w) (hiS:i ∉ S) (hK:Kept md ops S C D Ci i) :
   ∀(fuel:Nat) (listed:Array Bool) (a:Act) (w:World),
     (∀j oj,ops[j]? = some oj→j≠i→listed.getD j true=false→(∀e ∈ oj.after,Region.binds md e=true→e.on≠i)→oi.apart ops oj=true)→
     i ∈ Region.ready md ops listed→Closed md ops listed→YV P ops Ci oi v a→((unl S listed→C w)∧D w)→((∀w,D w→Ci w)∨unl S listed)→
     wpAnyE P md ops S C D Q fuel (listed.setIfInBounds i true) (a.put oi.dst v) w→wpAnyE P md ops S C D Q (fuel+1) listed a w:=by
 have hCi:∀(listed:Array Bool) (w:World),((unl S listed→C w)∧D w)→((∀w,D w→Ci w)∨unl S listed)→Ci w:=by
   intro listed w h1 h2
   rcases h2 with h2 | h2
   · exact h2 w h1.2
   · rcases hK with hK | hK
     · exact hK w h1.2
     · exact hK.1 w (h1.1 h2)
 intro fuel
 induction fuel with
 | zero=>
   intro listed a w _ hr _ hy hC hU H
   refine ⟨hC,fun h=>(by rw [h] at hr; cases hr),fun j hj=>?_⟩
   by_cases hji:j=i
   · subst hji; exact hy.wpOp hi (hCi _ _ hC hU) H
   · have:=ready_mono hj hji
     rw [H.2.1] at this
     cases this
 | succ fuel ih=>
   intro listed a w hfree hr hcl hy hC hU H
   refine ⟨hC,fun h=>(by rw [h] at hr; cases hr),fun j hj=>?_⟩
   by_cases hji:j=i
   · subst hji; exact hy.wpOp hi (hCi _ _ hC hU) H
   · have h1:=H.2.2 j (ready_mono hj hji)
     obtain ⟨hjun,oj,hoj,hall⟩:=mem_ready.1 hj
     have hnot:∀e ∈ oj.after,Region.binds md e=true→e.on≠i:=fun e he hb heq=>by
       have h1:=hall e he hb
       have h0:=(mem_ready.1 hr).1
       rw [heq] at h1
       rcases Nat.lt_or_ge i listed.size with h' | h'
       · simp [h'] at h0 h1; rw [h0] at h1; cases h1
       · simp [Array.getElem?_eq_none h'] at h1
     have hU':(∀w,D w→Ci w)∨unl S (listed.setIfInBounds j true):=by
       rcases hK with hK | hK
       · exact .inl hK
       · rcases hU with hU | hU
         · exact .inl hU
         · refine .inr ((unl_set fun hjS=>?_).2 hU)
           have hil:=reach_listed hcl _ j (hK.2 j hjS) (ready_preds hj)
           have h0:=(mem_ready.1 hr).1
           rw [hil] at h0
           cases h0
     have h2:=wpOp_putC hoj (hfree j oj hoj hji hjun hnot) (fun cs b=>hsel i oi cs b hi) (fun cs b=>hsel j oj cs b hoj) hQ hy h1
     have hfree':∀k ok,ops[k]? = some ok→k≠i→(listed.setIfInBounds j true).getD k true=false→
         (∀e ∈ ok.after,Region.binds md e=true→e.on≠i)→oi.apart ops ok=true:=fun k ok hk hki hun hno=>by
       refine hfree k ok hk hki ?_ hno
       by_cases hjk:j=k
       · subst hjk; exact hjun
       · rw [getD_set_ne true hjk] at hun; exact hun
     refine wpOp_mono (fun a' w' h3=>ih (listed.setIfInBounds j true) a' w' hfree' (ready_mono hr (Ne.symm hji)) (hcl.set hj) h3.1 ?_ hU' ?_) h2
     · have hc:=h3.2.c
       rw [Array.setIfInBounds_comm _ _ (Ne.symm hji)] at hc
       exact ⟨fun hu=>hc.1 ((unl_set hiS).2 hu),hc.2⟩
     · rw [Array.setIfInBounds_comm _ _ hji]
       exact h3.2
inductive Ore where
 | nil
 | stop
 | q (m:Bool) (i:Nat) (r:Ore)
 | e (i:Nat) (r alt:Ore)
def Ore.alts:Ore→List Nat
 | .e i _ alt=>i::alt.alts
 | _=>[]
def behind (md:Region.Mode) (ops:Array Oper) (i:Nat) (S:List Nat):Bool:=S.all fun s=>reachB md ops i ops.size s
def notIn (i:Nat) (S:List Nat):Bool:=S.all fun s=>!(Nat.beq s i)
theorem notIn_spec {i:Nat} (h:notIn i S=true):i ∉ S:=fun hi=>by
 have:=List.all_eq_true.1 h i hi
 simp at this
def ordS (md:Region.Mode) (ops:Array Oper):List Nat→Array Bool→Bool
 | [],listed=>(Region.ready md ops listed).isEmpty
 | s::r,listed=>Region.ready md ops listed==[s]&&ordS md ops r (listed.setIfInBounds s true)
def ordE (md:Region.Mode) (ops:Array Oper) (S:List Nat):Bool→Ore→Nat→Array Bool→Bool
 | top,.nil,k,listed=>top&&(Nat.beq k S.length&&ordS md ops S listed)
 | top,.stop,_,_=>!top
 | top,.q m i r,k,listed=>match k with
   | 0=>false
   | k+1=>top&&((Region.ready md ops listed).contains i&&(Region.free md ops listed i&&(notIn i S&&((!m||behind md ops i S)&&ordE md ops S true r k (listed.setIfInBounds i true)))))
 | top,.e i r alt,k,listed=>match k with
   | 0=>false
   | k+1=>(bif top then Region.ready md ops listed==i::alt.alts else true)&&(notIn i S&&(ordE md ops S true r k (listed.setIfInBounds i true)&&ordE md ops S false alt (k+1) listed))
def wpS_ (P:Program) (ops:Array Oper) (D:World→Prop) (Q:Exit→Act→World→Prop):List Nat→Act→World→Prop
 | [],a,w=>D w∧Q .normal a w
 | s::r,a,w=>D w∧wpOp P ops Q s (wpS_ P ops D Q r) a w
def wpU (P:Program) (ops:Array Oper) (S:List Nat) (C D:World→Prop) (Q:Exit→Act→World→Prop):Ore→Act→World→Prop
 | .nil,a,w=>C w∧wpS_ P ops D Q S a w
 | .stop,_,_=>True
 | .q m i r,a,w=>(C w∧D w)∧∃o v,ops[i]? = some o∧YV P ops (bif m then C else D) o v a∧wpU P ops S C D Q r (a.put o.dst v) w
 | .e i r alt,a,w=>(C w∧D w)∧(wpOp P ops Q i (wpU P ops S C D Q r) a w∧wpU P ops S C D Q alt a w)
theorem wpS_any:∀(r:List Nat) (listed:Array Bool) (a:Act) (w:World),(r=S∧C w∨¬unl S listed)→(∀s ∈ r,s ∈ S)→(∀s ∈ r,listed.getD s true=false)→ordS md ops r listed=true→wpS_ P ops D Q r a w→wpAnyE P md ops S C D Q r.length listed a w
 | [],listed,a,w,hc,_,_,hB,h=>⟨⟨fun hu=>(by rcases hc with hc | hc; exact hc.2; exact absurd hu hc),h.1⟩,by simpa [ordS] using hB,h.2⟩
 | s::r,listed,a,w,hc,hsub,hun,hB,h=>by
   simp only [ordS,Bool.and_eq_true,beq_iff_eq] at hB
   refine ⟨⟨fun hu=>(by rcases hc with hc | hc; exact hc.2; exact absurd hu hc),h.1⟩,fun he=>(by rw [he] at hB; cases hB.1),fun j hj=>?_⟩
   rw [hB.1] at hj
   simp at hj
   subst hj
   have hlt:j<listed.size:=by
     have:=hun j (by simp)
     rcases Nat.lt_or_ge j listed.size with h' | h'
     · exact h'
     · simp [Array.getElem?_eq_none h'] at this
   have hnot:¬unl S (listed.setIfInBounds j true):=fun hu=>by
     have:=hu j (hsub j (by simp))
     simp [Array.getD_eq_getD_getElem?,hlt] at this
   refine wpOp_mono (fun a' w' h'=>wpS_any_aux r (listed.setIfInBounds j true) a' w' hnot (fun s hs=>hsub s (by simp [hs])) hB.2 h') h.2
where
 wpS_any_aux:∀(r:List Nat) (listed:Array Bool) (a:Act) (w:World),¬unl S listed→(∀s ∈ r,s ∈ S)→ordS md ops r listed=true→wpS_ P ops D Q r a w→wpAnyE P md ops S C D Q r.length listed a w
 | [],listed,a,w,hc,_,hB,h=>⟨⟨fun hu=>absurd hu hc,h.1⟩,by simpa [ordS] using hB,h.2⟩
 | s::r,listed,a,w,hc,hsub,hB,h=>by
   simp only [ordS,Bool.and_eq_true,beq_iff_eq] at hB
   refine ⟨⟨fun hu=>absurd hu hc,h.1⟩,fun he=>(by rw [he] at hB; cases hB.1),fun j hj=>?_⟩
   rw [hB.1] at hj
   simp at hj
   subst hj
   refine wpOp_mono (fun a' w' h'=>wpS_any_aux r (listed.setIfInBounds j true) a' w' (fun hu=>hc fun s hs=>?_) (fun s hs=>hsub s (by simp [hs])) hB.2 h') h.2
   have:=hu s hs
   rcases Nat.decEq j s with hne | he
   · rwa [getD_set_ne true hne] at this
   · subst he
     rcases Nat.lt_or_ge j listed.size with h' | h'
     · simp [Array.getD_eq_getD_getElem?,h'] at this
     · simp [Array.getD_eq_getD_getElem?] at this
theorem wpU_any {ok:Option Tmp→Bool} (hok:allD ok ops=true) (hs:Region.noSelect ops=true) (hQ:∀c a w d v,ok d=true→Q (.panic c) (a.put d v) w→Q (.panic c) a w):∀(o:Ore) (k:Nat) (listed:Array Bool) (a:Act) (w:World),unl S listed→Closed md ops listed→
   (ordE md ops S true o k listed=true→wpU P ops S C D Q o a w→wpAnyE P md ops S C D Q k listed a w)∧
   ((∀j ∈ o.alts,j ∈ Region.ready md ops listed)→ordE md ops S false o k listed=true→wpU P ops S C D Q o a w→∀j ∈ o.alts,∃k',k=k'+1∧wpOp P ops Q j (wpAnyE P md ops S C D Q k' (listed.setIfInBounds j true)) a w)
 | .nil,k,listed,a,w,hu,_=>by
   refine ⟨fun hB h=>?_,fun _ hB=>by simp [ordE] at hB⟩
   simp only [ordE,Bool.true_and,Bool.and_eq_true] at hB
   obtain rfl:=Nat.eq_of_beq_eq_true hB.1
   exact wpS_any S listed a w (.inl ⟨O,h.1⟩) (fun _ h=>h) hu hB.2 h.2
 | .stop,k,listed,a,w,hu,_=>⟨fun hB=>by simp [ordE] at hB,fun _ _ _ j hj=>by simp [Ore.alts] at hj⟩
 | .q m i r,k,listed,a,w,hu,hcl=>by
   cases k with
   | zero=>exact ⟨fun hB=>by simp [ordE] at hB,fun _ hB=>by simp [ordE] at hB⟩
   | succ k=>
     refine ⟨fun hB h=>?_,fun _ hB=>by simp [ordE] at hB⟩
     simp only [ordE,Bool.true_and,Bool.and_eq_true] at hB
     obtain ⟨hB1,hB2,hB3,hB4,hB5⟩:=hB
     obtain ⟨hC,o,v,ho,hy,h⟩:=h
     have hiS:=notIn_spec hB3
     have hK:Kept md ops S C D (bif m then C else D) i:=by
       cases m with
       | false=>exact .inl fun _ h=>h
       | true=>
         refine .inr ⟨fun _ h=>h,fun s hs=>?_⟩
         simp only [Bool.not_true,Bool.false_or] at hB4
         exact List.all_eq_true.1 hB4 s hs
     have hir:i ∈ Region.ready md ops listed:=by simpa using hB1
     exact wpAnyE_first ho (Region.noSelect_spec hs) (fun c a w=>hQ c a w o.dst v (allD_get hok ho)) hiS hK k listed a w (Region.free_spec ho hB2) hir hcl hy ⟨fun _=>hC.1,hC.2⟩ (.inr hu)
       ((wpU_any hok hs hQ r k _ _ _ ((unl_set hiS).2 hu) (hcl.set hir)).1 hB5 h)
 | .e i r alt,k,listed,a,w,hu,hcl=>by
   cases k with
   | zero=>exact ⟨fun hB=>by simp [ordE] at hB,fun _ hB=>by simp [ordE] at hB⟩
   | succ k=>
     have hsub:(∀j ∈ i::alt.alts,j ∈ Region.ready md ops listed)→notIn i S=true→ordE md ops S true r k (listed.setIfInBounds i true)=true→ordE md ops S false alt (k+1) listed=true→wpU P ops S C D Q (.e i r alt) a w→
         ∀j ∈ i::alt.alts,wpOp P ops Q j (wpAnyE P md ops S C D Q k (listed.setIfInBounds j true)) a w:=by
       intro hrd h0 h1 h2 h j hj
       rcases List.mem_cons.1 hj with rfl | hj
       · exact wpOp_mono (fun a' w' h'=>(wpU_any hok hs hQ r k _ a' w' ((unl_set (notIn_spec h0)).2 hu) (hcl.set (hrd _ (by simp)))).1 h1 h') h.2.1
       · obtain ⟨k',hk,hx⟩:=(wpU_any hok hs hQ alt (k+1) listed a w hu hcl).2 (fun j hj=>hrd j (by simp [hj])) h2 h.2.2 j hj
         injection hk with hk
         subst hk
         exact hx
     refine ⟨fun hB h=>?_,fun hrd hB h j hj=>?_⟩
     · simp only [ordE,cond_true,Bool.and_eq_true,beq_iff_eq] at hB
       refine ⟨⟨fun _=>h.1.1,h.1.2⟩,fun he=>(by rw [he] at hB; cases hB.1),fun j hj=>?_⟩
       rw [hB.1] at hj
       exact hsub (fun j hj=>by rw [hB.1]; exact hj) hB.2.1 hB.2.2.1 hB.2.2.2 h j hj
     · simp only [ordE,cond_false,Bool.true_and,Bool.and_eq_true] at hB
       exact ⟨k,O,hsub hrd hB.1 hB.2.1 hB.2.2 h j hj⟩
variable {n:Nat} {ds:List Deferred} {l:List (Nat×Value)} {W:World→Prop}
def WU (P:Program) (ops:Array Oper) (S:List Nat) (C D:World→Prop) (Q:Exit→Act→World→Prop) (n:Nat) (ds:List Deferred) (l:List (Nat×Value)) (W:World→Prop) (ord:Ore):Prop:=
 ∀a w,Ag n ds l a→W w→wpU P ops S C D Q ord a w
def WS (P:Program) (ops:Array Oper) (D:World→Prop) (Q:Exit→Act→World→Prop) (n:Nat) (ds:List Deferred) (l:List (Nat×Value)) (W:World→Prop) (S:List Nat):Prop:=
 ∀a w,Ag n ds l a→W w→wpS_ P ops D Q S a w
abbrev noD:World→Prop:=fun _=>True
def unlB (k:Nat) (S:List Nat):Bool:=S.all fun s=>Nat.blt s k
theorem unl_start (h:unlB ops.size S=true):unl S (Array.replicate ops.size false):=fun s hs=>by
 have:=List.all_eq_true.1 h s hs
 have hlt:=Nat.blt_eq.mp this
 simp [Array.getD_eq_getD_getElem?,hlt]
theorem WC.drawUD {id:Nat} {os:List Oper} {W' C' D':World→Prop} (ok:Option Tmp→Bool) (S:List Nat) (ord:Ore) (hm:P.follows .mixedOrders=true) (hd:∀w,W' w→W' w.drew)
   (hB:(allD ok os.toArray&&(Region.noSelect os.toArray&&(unlB os.toArray.size S&&ordE .any os.toArray S true ord os.toArray.size (Array.replicate os.toArray.size false))))=true)
   (hQ:∀c a w d v,ok d=true→Q (.panic c) (a.put d v) w→Q (.panic c) a w) (h:WU P os.toArray S C' D' Q n ds l W' ord):WC P (.region id os.toArray true) Q n ds l W':=by
 intro a w ha hw
 simp only [Bool.and_eq_true] at hB
 have:=wpAny_of_E (md:=.any) _ _ _ _ ((wpU_any hB.1 hB.2.1 hQ ord _ _ a w.drew (unl_start hB.2.2.1) (fun j o ho hj=>by
   have hlt:j<os.length:=by simpa using (Array.getElem?_eq_some_iff.1 ho).1
   simp [Array.getD_eq_getD_getElem?,Array.getElem?_replicate,hlt] at hj)).1 hB.2.2.2 (h a w.drew ha (hd w hw)))
 exact wp_region_any hm this
theorem CU {id:Nat} {os:List Oper} {w0:World} {F:List Nat} {L:List Asr} {Vs:List View} (ok:Option Tmp→Bool) (is:List Nat) (S:List Nat) (ord:Ore) (hm:P.follows .mixedOrders=true)
   (hB:(allD ok os.toArray&&(Region.noSelect os.toArray&&(unlB os.toArray.size S&&ordE .any os.toArray S true ord os.toArray.size (Array.replicate os.toArray.size false))))=true)
   (hQ:∀c a w d v,ok d=true→Q (.panic c) (a.put d v) w→Q (.panic c) a w) (h:WU P os.toArray S (Ws w0 F (outs is L) Vs) noD Q n ds l (Ws w0 F L Vs) ord):WC P (.region id os.toArray true) Q n ds l (Ws w0 F L Vs):=
 WC.drawUD ok S ord hm (fun _ h=>h.drew) hB hQ h
theorem WV.q {m:Bool} {r:Ore} {i d:Nat} {op:Op} {ty:TypeId} {pos:String} {af:Array Edge} {g:Option (Nat×Bool)} {v:Value} (hi:ops[i]? = some ⟨some d,op,ty,pos,af,g⟩) (hg:GOk ops l g) (hn:Nat.blt d n=true)
   (hC:∀w,W w→C w) (hD:∀w,W w→D w) (hy:Yl P l (bif m then C else D) ⟨some d,op,ty,pos,af,g⟩ v) (h:WU P ops S C D Q n ds ((d,v)::l) W r):WU P ops S C D Q n ds l W (.q m i r):=by
 intro a w ha hw
 refine ⟨⟨hC w hw,hD w hw⟩,_,v,hi,.inl ⟨GOk.wanted (o:=⟨some d,op,ty,pos,af,g⟩) hg ha,fun w' hw'=>hy a.eval w' (fun x u hx=>ha.eval hx) hw'⟩,h _ _ (ha.put hn v) hw⟩
theorem Uq {m:Bool} {r:Ore} {i d:Nat} {op:Op} {ty:TypeId} {pos:String} {af:Array Edge} {g:Option (Nat×Bool)} {v:Value} (hi:ops[i]? = some ⟨some d,op,ty,pos,af,g⟩) (hg:GOk ops l g) (hn:Nat.blt d n=true)
   (hC:∀w,W w→C w) (hy:Yl P l (bif m then C else fun _=>True) ⟨some d,op,ty,pos,af,g⟩ v) (h:WU P ops S C noD Q n ds ((d,v)::l) W r):WU P ops S C noD Q n ds l W (.q m i r):=WV.q hi hg hn hC (fun _ _=>trivial) hy h
theorem U0 {m:Bool} {r:Ore} {i d:Nat} {op:Op} {ty:TypeId} {pos:String} {af:Array Edge} {v:Value} (hi:ops[i]? = some ⟨some d,op,ty,pos,af,none⟩) (hC:∀w,W w→C w) (hy:Yl P l (bif m then C else fun _=>True) ⟨some d,op,ty,pos,af,none⟩ v) (h:WU P ops S C noD Q n ds ((d,v)::l) W r) (hn:Nat.blt d n=true:=by rfl):WU P ops S C noD Q n ds l W (.q m i r):=Uq hi (.inl rfl) hn hC hy h
theorem WU.skip {r:Ore} {i d:Nat} {op:Op} {ty:TypeId} {pos:String} {af:Array Edge} {j:Nat} {b:Bool} {oj:Oper} {dj:Nat} (hi:ops[i]? = some ⟨some d,op,ty,pos,af,some (j,b)⟩) (hn:Nat.blt d n=true)
   (hj:ops[j]? = some oj) (hdj:oj.dst=some dj) (hnj:Nat.blt dj n=true) (hb:lk l dj=some (.bool (!b)))
   (hC:∀w,W w→C w) (h:WU P ops S C noD Q n ds ((d,undef)::l) W r):WU P ops S C noD Q n ds l W (.q false i r):=by
 intro a w ha hw
 have hv:a.tmps.getD dj undef = .bool (!b):=ha.vals dj _ hb
 have hlt:dj<a.tmps.size:=by rw [ha.size]; exact Nat.le_of_ble_eq_true hnj
 have hget:a.tmps[dj]? = some (.bool (!b)):=by
   rw [Array.getD_eq_getD_getElem?,Array.getElem?_eq_getElem hlt] at hv
   rw [Array.getElem?_eq_getElem hlt]
   simpa using hv
 have hyd:yielded ops a.tmps j=some (!b):=by simp [yielded,hj,hdj,hget]
 exact ⟨⟨hC w hw,trivial⟩,_,undef,hi,.inr ⟨by simp [Region.wanted,hyd],O⟩,h _ _ (ha.put hn undef) hw⟩
theorem wpOp_of_list {i:Nat} {o:Oper} {K:Act→World→Prop} (hi:ops[i]? = some o) {a:Act} {w:World} (this:wpList P ops (Exit.then K Q) [o] a w):wpOp P ops Q i K a w:=by
 unfold wpList at this
 unfold wpOp
 simp only [hi]
 split
 · rename_i hw'
   rw [if_pos hw'] at this
   rcases this with this | ⟨h1,a2,w2,h2⟩
   · left
     unfold Oper.wp at this ⊢
     unfold Oper.upon at this ⊢
     split at this
     all_goals first
       | exact this
       | (refine this.mono fun e w' he=>?_
          cases e with
          | returned v=>exact he
          | panicked ch=>exact he
          | outgrown=>obtain ⟨a3,w3,h3⟩:=he; exact ⟨a3,w3,h3⟩)
       | exact this.mono fun v w' he=>he
   · exact .inr ⟨h1,a2,w2,h2⟩
 · rename_i hw'
   rw [if_neg hw'] at this
   exact this
theorem WV.e {r alt:Ore} {i:Nat} {o:Oper} (hi:ops[i]? = some o) (hC:∀w,W w→C w) (hD:∀w,W w→D w) (h:WL P ops (Exit.then (wpU P ops S C D Q r) Q) n ds l W [o]) (h2:WU P ops S C D Q n ds l W alt):WU P ops S C D Q n ds l W (.e i r alt):=
 fun a w ha hw=>⟨⟨hC w hw,hD w hw⟩,wpOp_of_list hi (h a w ha hw),h2 a w ha hw⟩
theorem Ue {r alt:Ore} {i:Nat} {o:Oper} (hi:ops[i]? = some o) (hC:∀w,W w→C w) (h:WL P ops (Exit.then (wpU P ops S C noD Q r) Q) n ds l W [o]) (h2:WU P ops S C noD Q n ds l W alt):WU P ops S C noD Q n ds l W (.e i r alt):=WV.e hi hC (fun _ _=>trivial) h h2
theorem WU.stop:WU P ops S C D Q n ds l W .stop:=fun _ _ _ _=>trivial
theorem Eu {r:Ore} (h:WU P ops S C D Q n ds l W r):WE (Exit.then (wpU P ops S C D Q r) Q) .normal n ds l W:=h
theorem WU.nil (hC:∀w,W w→C w) (h:WS P ops D Q n ds l W S):WU P ops S C D Q n ds l W .nil:=fun a w ha hw=>⟨hC w hw,h a w ha hw⟩
theorem WSV.nil (hD:∀w,W w→D w) (h:WE Q .normal n ds l W):WS P ops D Q n ds l W []:=fun a w ha hw=>⟨hD w hw,h a w ha hw⟩
theorem WS.nil (h:WE Q .normal n ds l W):WS P ops noD Q n ds l W []:=WSV.nil (fun _ _=>trivial) h
theorem WSV.e {s:Nat} {r:List Nat} {o:Oper} (hi:ops[s]? = some o) (hD:∀w,W w→D w) (h:WL P ops (Exit.then (wpS_ P ops D Q r) Q) n ds l W [o]):WS P ops D Q n ds l W (s::r):=
 fun a w ha hw=>⟨hD w hw,wpOp_of_list hi (h a w ha hw)⟩
theorem WS.e {s:Nat} {r:List Nat} {o:Oper} (hi:ops[s]? = some o) (h:WL P ops (Exit.then (wpS_ P ops noD Q r) Q) n ds l W [o]):WS P ops noD Q n ds l W (s::r):=WSV.e hi (fun _ _=>trivial) h
theorem Es {r:List Nat} (h:WS P ops D Q n ds l W r):WE (Exit.then (wpS_ P ops D Q r) Q) .normal n ds l W:=h
end
end Go.Bw
end
section
namespace Go.Bw
set_option linter.unnecessarySimpa false
open Go Go.RowKit
theorem osT_holds {α:Type} {f:α→List Value} {e:TypeId} {k c b o:Nat} {a:Option Addr} {xs:List α} {w:World} (h:(osT e k f a c xs).holds w) (ha:a=some ⟨b,o,none⟩) :
   o=0∧∃cur,w.heap[b]? = some (.cells cur e (0,0))∧cur.toList.take (xs.length*k)=xs.flatMap f∧cur.size=c*k∧xs.length≤c:=by
 subst ha
 obtain ⟨h1,h2⟩:=(h:w.ownsRow 0 e k _ xs.length (xs.flatMap f))
 rcases h2 with ⟨h3,_⟩ | ⟨g,cap,cur,hv,_,hb,hmc,hc,hs,ht⟩
 · cases h3
 · injection hv with h3 _ h4
   injection h3 with h3
   injection h3 with h3 h5
   subst h3 h4 h5
   exact ⟨O,cur,hb,ht,hs,hmc⟩
section
variable {P:Program} {ops:Array Oper} {Q:Exit→Act→World→Prop} {n:Nat} {ds:List Deferred} {l:List (Nat×Value)} {w0:World} {F:List Nat} {L:List Asr} {Vs:List View} {rest:List Oper}
 {ty:TypeId} {pos:String} {af:Array Edge} {g:Option (Nat×Bool)}
theorem osT_shape {α:Type} {f:α→List Value} {e:TypeId} {k c:Nat} {a:Option Addr} {xs:List α} {w:World} (hw:Ws w0 F L Vs w) (i:Nat) (hL:L[i]? = some (osT e k f a c xs)) (hm:0<xs.length):(∃b,a=some ⟨b,0,none⟩)∧xs.length≤c∧c≤maxLen:=by
 obtain ⟨h1,h2⟩:=(hw.kn _ (mem_of_idx hL):w.ownsRow 0 e k _ xs.length (xs.flatMap f))
 rcases h2 with ⟨h3,h4⟩ | ⟨b,cap,cur,hv,_,_,hmc,hc,_⟩
 · injection h3 with _ h5 _; omega
 · injection hv with h3 _ h4
   subst h3 h4
   exact ⟨⟨b,O⟩,hmc,hc⟩
theorem WC.shapeT {α:Type} {f:α→List Value} {cd:Code} {e:TypeId} {k c:Nat} {a:Option Addr} {xs:List α} (i:Nat) (hL:L[i]? = some (osT e k f a c xs)) (hm:0<xs.length)
   (h:∀b,a=some ⟨b,0,none⟩→xs.length≤c→c≤maxLen→WC P cd Q n ds l (Ws w0 F L Vs)):WC P cd Q n ds l (Ws w0 F L Vs):=by
 intro A w ha hw
 obtain ⟨⟨b,hb⟩,h1,h2⟩:=osT_shape hw i hL hm
 exact h b hb h1 h2 A w ha hw
theorem WL.shapeT {α:Type} {f:α→List Value} {e:TypeId} {k c:Nat} {a:Option Addr} {xs:List α} (i:Nat) (hL:L[i]? = some (osT e k f a c xs)) (hm:0<xs.length)
   (h:∀b,a=some ⟨b,0,none⟩→xs.length≤c→c≤maxLen→WL P ops Q n ds l (Ws w0 F L Vs) rest):WL P ops Q n ds l (Ws w0 F L Vs) rest:=by
 intro A w ha hw
 obtain ⟨⟨b,hb⟩,h1,h2⟩:=osT_shape hw i hL hm
 exact h b hb h1 h2 A w ha hw
theorem WL.storeT {α:Type} {f:α→List Value} {t e:TypeId} {x z:Operand} {b o p k kk c:Nat} {a:Option Addr} {xs:List α} {y:α} {v:Value} (i j q:Nat) (y':α) (hg:GOk ops l g) (hx:opv l x=some (.pointer (some ⟨b,p,none⟩))) (hz:opv l z=some v) (hL:L[i]? = some (osT e k f a c xs)) (ha:a=some ⟨b,o,none⟩)
   (hp:p=o+j*k+q) (hf:∀x,(f x).length=k) (hy:xs[j]? = some y) (hs:sizeP P t=some kk) (hl:(vcells v).length=kk) (h1:(vcells v).all (·.oneCell')=true) (hq:q+kk≤k) (hy':f y'=(f y).take q++vcells v++(f y).drop (q+kk))
   (h:WL P ops Q n ds l (Ws w0 F (L.set i (osT e k f a c (xs.set j y'))) Vs) rest):WL P ops Q n ds l (Ws w0 F L Vs) (⟨none,.store t x z,ty,pos,af,g⟩::rest):=by
 refine WL.step hg fun A w hA hw K hK=>?_
 have hh:(osT e k f a c xs).holds w:=hw.kn _ (mem_of_idx hL)
 obtain ⟨rfl,cur,hb,hxs,hcs,hm⟩:=osT_holds hh ha
 have hj:j<xs.length:=(List.getElem?_eq_some_iff.1 hy).1
 have hjk:j*k+k≤xs.length*k:=by rw [←Nat.succ_mul]; exact Nat.mul_le_mul_right _ hj
 have hck:xs.length*k≤c*k:=Nat.mul_le_mul_right _ hm
 have hok:stOk (.cells cur e (0,0)) p kk=true:=by
   simp only [stOk,Nat.beq_refl,Bool.and_true,Bool.and_self]
   exact Nat.ble_eq_true_of_le (by simp [hcs]; omega)
 have hrun:(execOp A.eval ⟨none,.store t x z,ty,pos,af,g⟩).run P w = .ok .skip { w with heap:=w.heap.setIfInBounds b (setIn (.cells cur e (0,0)) p (vcells v)) }:=by
   simp only [execOp,hA.eval hx,hA.eval hz,Instr.storeAt,Instr.sureAddr,Sem.run_bind,Sem.run_pure,Result.andThen_ok,run_storeVar hs hl h1 hb hok]
 simp only [Oper.wp,hrun,Oper.upon_skip]
 refine hK _ _ (h _ _ (hA.put_none undef) ?_)
 have hlt:=lt_of_heap hb
 have hlen:(xs.set j y').length=xs.length:=by simp
 have hfl:=flat_set hf hy (j:=q) (vs:=vcells v) (y:=y') (by omega) (by rw [hl]; exact hy')
 refine Ws.turn1 hw i hL ⟨O,O,O,by simp,fun j' hj' hne=>?_⟩ ?_ (by subst ha; simp [osl,Value.ownBlock]) (fun k' hk'=>?_)
 · have:b≠j':=fun e'=>hne (by subst ha; simp [osl,Value.ownBlock,e'])
   simp [Array.getElem?_setIfInBounds_ne this]
 · show World.ownsRow _ 0 e k (.slice a (xs.set j y').length c) (xs.set j y').length _
   rw [hlen]
   obtain ⟨g1,g2⟩:=(hh:w.ownsRow 0 e k _ xs.length (xs.flatMap f))
   refine ⟨by rw [flat_length hf,hlen],.inr ?_⟩
   rcases g2 with ⟨g3,_⟩ | ⟨g,cap,cur',hv,g0,hb',hmc,hcm,hs',ht'⟩
   · subst ha; cases g3
   · subst ha
     injection hv with e3 _ e4
     injection e3 with e3
     injection e3 with e3
     subst e3 e4
     refine ⟨b,c,(cur.toList.take p++vcells v++cur.toList.drop (p+(vcells v).length)).toArray,O,Nat.zero_le _,?_,hmc,hcm,?_,?_⟩
     · show (w.heap.setIfInBounds b _)[b]? = _
       simp [hlt,setIn]
     · simp [hcs]; omega
     · rw [←hfl,←hxs]
       subst hp
       simp only [Nat.zero_add]
       have hcl:cur.toList.length=c*k:=by simp [hcs]
       have e1:((cur.toList.take (xs.length*k)).take (j*k+q))=cur.toList.take (j*k+q):=by rw [List.take_take]; congr 1; omega
       have e2:(cur.toList.take (j*k+q)).length=j*k+q:=by rw [List.length_take,hcl]; omega
       have e3:(cur.toList.take (j*k+q)++vcells v).length=j*k+q+kk:=by rw [List.length_append,e2,hl]
       rw [e1,hl]
       have hm':xs.length*k=(j*k+q+kk)+(xs.length*k-(j*k+q+kk)):=by omega
       rw [List.take_append,e3,List.take_of_length_le (by rw [e3]; omega),List.drop_take]
 · refine .inl ?_
   simp only [osl] at hk' ⊢
   subst ha
   simpa [Value.ownBlock] using hk'
theorem WL.perm {L':List Asr} (hp:L.Perm L') (h:WL P ops Q n ds l (Ws w0 F L' Vs) rest):WL P ops Q n ds l (Ws w0 F L Vs) rest:=LW (fun _ h=>h.perm hp) h
end
end Go.Bw
end
section
namespace Go.Bw
set_option linter.unnecessarySimpa false
open Go Go.RowKit
section
variable {P:Program} {ops:Array Oper} {Q:Exit→Act→World→Prop} {n:Nat} {ds:List Deferred} {l:List (Nat×Value)} {w0 w:World} {F:List Nat} {L:List Asr} {Vs:List View} {rest:List Oper} {A:Asr} {As:List Asr}
theorem Ws.fronti (h:Ws w0 F L Vs w) (i:Nat) (hL:L[i]? = some A):Ws w0 F (A::outOf i L) Vs w:=h.perm (outOf_perm i L hL)
theorem WL.zeros {t tn e:TypeId} {z:Value} {kn k:IntKind} {bytes d:Nat} {x y:Operand} {ty:TypeId} {pos:String} {af:Array Edge} {g:Option (Nat×Bool)} (m:Nat) (hg:GOk ops l g) (hn:Nat.blt d n=true) (hE:EltOk P t e z 1 bytes) (htn:P.underlying tn=some (.int kn))
   (hx:opv l x=some (.slice none 0 0)) (hy:opv l y=some (.int k (m:Int))) (h0:0<m) (h63:m≤maxLen) (h48:m*bytes≤281474976710656)
   (h:∀b c cur,m≤c→c≤maxLen→cur.size=c→WL P ops Q n ds ((d,.slice (some ⟨b,0,none⟩) m c)::l) (Ws w0 F (blk b (.cells cur e (0,0))::L) Vs) rest) :
   WL P ops Q n ds l (Ws w0 F L Vs) (⟨some d,.call ⟨.builtin .append,#[x,y],#[t,tn]⟩,ty,pos,af,g⟩::rest):=by
 refine WL.step hg fun a w ha hw K hK=>?_
 obtain ⟨inf,hi,hz,hsz,hbt⟩:=hE.info
 have hrun:=Lib.run_append_nil_zeros (P:=P) w t tn ty e inf z k kn hE.under htn hi hz m h0 (by omega) (by unfold maxLen at h63; omega) (by rw [hbt]; exact h48)
 have hrun':(execOp a.eval ⟨some d,.call ⟨.builtin .append,#[x,y],#[t,tn]⟩,ty,pos,af,g⟩).run P w = .ok (.value (.slice (some ⟨w.heap.size,0,none⟩) m (grownCap w m 0 e))) (w.drew.alloc (.cells (Builtin.zeroCells z.cells m++Builtin.zeroCells z.cells (grownCap w m 0 e-m)) e)):=by
   simp only [execOp,resolve,List.map_toArray,List.map_cons,List.map_nil,ha.eval hx,ha.eval hy,Sem.run_bind,Sem.run_pure,Result.andThen_ok,invoke,builtin,hrun]
 simp only [Oper.wp,hrun',Oper.upon_value]
 have hge:=grownCap_ge w m 0 e
 refine hK _ _ (h w.heap.size _ (Builtin.zeroCells z.cells m++Builtin.zeroCells z.cells (grownCap w m 0 e-m)) hge (grownCap_le_maxLen w m 0 e h63) ?_ _ _ (ha.put hn _) ?_)
 · have hz1:z.cells.size=1:=hE.zs
   simp [Builtin.zeroCells,hz1]; omega
 · exact hw.drew.alloc _
end
section
variable {P:Program} {l:List (Nat×Value)} {W:World→Prop} {d:Option Tmp} {ty:TypeId} {pos:String} {af:Array Edge} {g:Option (Nat×Bool)}
theorem yl_cap {t:TypeId} {x:Operand} {a:Option Addr} {n c s:Nat} (hs:elemSz P t=some s) (hx:opv l x=some (.slice a n c)):Yl P l W ⟨d,.call ⟨.builtin .cap,#[x],#[t]⟩,ty,pos,af,g⟩ (.int .i64 (c:Int)):=by
 intro ρ w hρ _
 unfold elemSz at hs
 cases hu:P.underlying t with
 | none=>simp [hu] at hs
 | some dd=>
   cases dd<;>simp [hu] at hs
   simp [execOp,resolve,invoke,builtin,hρ x _ hx,Builtin.cap_,run_underlying hu,goInt]
end
end Go.Bw
end
section
namespace Go.Bw
set_option linter.unnecessarySimpa false
open Go Go.RowKit
section
variable {P:Program} {ops:Array Oper} {Q:Exit→Act→World→Prop} {n:Nat} {ds:List Deferred} {l:List (Nat×Value)} {w0 w:World} {F:List Nat} {L:List Asr} {Vs:List View} {rest:List Oper}
 {ty:TypeId} {pos:String} {af:Array Edge} {g:Option (Nat×Bool)} {d:Nat}
theorem WL.appendL {α:Type} {f:α→List Value} {rd:View→Nat→Nat→α→Prop} {t e:TypeId} {z:Value} {size bytes:Nat} {s y:Operand} {a a2:Option Addr} {c c2:Nat} {xs ys:List α} (i:Nat) (H:World→View) (hg:GOk ops l g) (hn:Nat.blt d n=true) (hE:EltOk P t e z size bytes)
   (hs:opv l s=some (.slice a xs.length c)) (hy:opv l y=some (.slice a2 ys.length c2)) (hL:L[i]? = some (osT e size f a c xs)) (hH:∀w,Ws w0 F L Vs w→Le (H w) w∧Sl rd size (H w) a2 c2 ys) (hrd:∀H b o x,rd H b o x→RdC H b o (f x))
   (hf:∀x,(f x).length=size) (h1:∀x,(f x).all (·.oneCell')=true) (h63:xs.length+ys.length≤9223372036854775807) (hby:(xs.length+ys.length)*bytes≤140737488355328)
   (h:∀a' c',WL P ops Q n ds ((d,.slice a' (xs++ys).length c')::l) (Ws w0 F (L.set i (osT e size f a' c' (xs++ys))) Vs) rest) :
   WL P ops Q n ds l (Ws w0 F L Vs) (⟨some d,.call ⟨.builtin .append,#[s,y],#[t,t]⟩,ty,pos,af,g⟩::rest):=by
 cases a2 with
 | none=>
   refine WL.step hg fun A w hA hw K hK=>?_
   obtain ⟨inf,hi,hz,hsz,hbt⟩:=hE.info
   obtain ⟨_,hsl⟩:=hH w hw
   have hys:ys=[]:=by
     cases ys with
     | nil=>rfl
     | cons x r=>obtain ⟨b,o,hb,_⟩:=hsl.elt 0 x rfl; cases hb
   subst hys
   have hown:w.ownsRow 0 e size (.slice a xs.length c) xs.length (xs.flatMap f):=hw.kn _ (mem_of_idx hL)
   have hcap:xs.length≤c:=by
     rcases hown.2 with ⟨h3,_⟩ | ⟨b,cap,cur,hv,_,_,hmc,_⟩
     · injection h3 with _ h4 h5; omega
     · injection hv with _ _ h5; omega
   have hrun:=run_append_nothing (P:=P) w t t ty e inf hE.under hi a xs.length c hcap (.slice none 0 c2) ⟨.inl ⟨e,hE.under⟩,by simp [Builtin.lenOf],run_firstCells_none w _ 0 0 c2,run_firstCells_none w.drew _ 0 0 c2,by simp,by simp⟩
   have hrun':(execOp A.eval ⟨some d,.call ⟨.builtin .append,#[s,y],#[t,t]⟩,ty,pos,af,g⟩).run P w = .ok (.value (.slice a xs.length c)) w:=by
     simp only [execOp,resolve,List.map_toArray,List.map_cons,List.map_nil,hA.eval hs,hA.eval hy,Sem.run_bind,Sem.run_pure,Result.andThen_ok,invoke,builtin,List.length_nil,hrun]
   simp only [Oper.wp,hrun',Oper.upon_value]
   have hi':i<L.length:=(List.getElem?_eq_some_iff.1 hL).1
   have hset:L.set i (osT e size f a c xs)=L:=by
     rw [←(List.getElem?_eq_some_iff.1 hL).2]; exact List.set_getElem_self hi'
   have hh:=h a c
   simp only [List.append_nil] at hh
   rw [hset] at hh
   exact hK _ _ (hh _ _ (hA.put hn _) hw)
 | some p=>
   have e1:(xs.flatMap f)++ys.flatMap f=(xs++ys).flatMap f:=by simp
   have e2:xs.length+ys.length=(xs++ys).length:=by simp
   refine WL.append i hg hn hE hs hy hL (news:=ys.flatMap f) (k:=ys.length) (flat_length hf ys) (fun w hw k u hu=>?_) (fun u hu=>?_) (by unfold maxLen; omega) hby fun v' _=>?_
   · obtain ⟨hle,hsl⟩:=hH w hw
     have hk:=(List.getElem?_eq_some_iff.1 hu).1
     have hy0:0<ys.length:=by
       cases ys with
       | nil=>simp at hk
       | cons x r=>simp
     obtain ⟨b,o,hb,_⟩:=hsl.elt 0 _ (List.getElem?_eq_getElem hy0)
     injection hb with hb
     subst hb
     rw [add_none]
     have hpos:=hE.pos
     exact hle.cell (hsl.flat hf hpos (hrd _) k u hu)
   · obtain ⟨x,_,hx⟩:=List.mem_flatMap.1 hu
     exact List.all_eq_true.1 (h1 x) u hx
   · rw [e1,e2]
     have hi:i<L.length:=(List.getElem?_eq_some_iff.1 hL).1
     refine WL.slcm i (m:=(xs++ys).length) (xs:=(xs++ys).flatMap f) (e:=e) (size:=size) (v:=v') (by simp [hi]) fun a' c' hv=>?_
     subst hv
     exact h a' c'
theorem WL.calln {ι:Type} {f:FuncId} {args:Array Operand} {ts:Array TypeId} {vs:List Value} (hg:GOk ops l g) (hn:Nat.blt d n=true) (hf:Enters P f) (ha:evs l args.toList=some vs)
   (v:ι→Value) (L1':ι→List Asr) (R:ι→Prop)
   (hC:∀w,Ws w0 F L Vs w→Calls P f vs.toArray w fun e w'=>∃i,e = .returned (v i)∧R i∧Ws w [] (L1' i) [] w')
   (hr:∀i,R i→WL P ops Q n ds ((d,v i)::l) (Ws w0 F (L1' i++L) Vs) rest) :
   WL P ops Q n ds l (Ws w0 F L Vs) (⟨some d,.call ⟨.value (.func f),args,ts⟩,ty,pos,af,g⟩::rest):=by
 refine WL.call hg hn hf ha v (fun i w'=>R i∧Ws w0 F (L1' i++L) Vs w') (fun w hw=>(hC w hw).mono fun e w' ⟨i,he,hR,h⟩=>⟨i,he,hR,?_⟩) fun i=>?_
 · exact Ws.turn (L:=[]) (L':=L1' i) (L2:=L) (by simpa using hw) (by simpa using h.fr) h.kn h.nd (fun A hA k hk=>by
     rcases h.own A hA k hk with h1 | h1
     · simp at h1
     · exact .inr h1)
 · intro a w ha' hw
   exact hr i hw.1 a w ha' hw.2
end
end Go.Bw
end
section
namespace Go.Bw
set_option linter.unnecessarySimpa false
open Go Go.RowKit
section
variable {P:Program} {ops:Array Oper} {Q:Exit→Act→World→Prop} {n:Nat} {ds:List Deferred} {l:List (Nat×Value)} {w0:World} {F:List Nat} {L:List Asr} {Vs:List View} {rest:List Oper} {c:Code}
 {ty:TypeId} {pos:String} {af:Array Edge} {g:Option (Nat×Bool)}
theorem Ws.osT_blk {α:Type} {f:α→List Value} {k b c:Nat} {e:TypeId} {xs:List α} {w:World} (h:Ws w0 F L Vs w) (i:Nat) (hL:L[i]? = some (blk b (.cells (xs.flatMap f).toArray e (0,0)))) (hf:∀x,(f x).length=k) (hc:xs.length=c) (hm:c≤maxLen):Ws w0 F (L.set i (osT e k f (some ⟨b,0,none⟩) c xs)) Vs w:=by
 have h1:=h.osl_blk i hL (m:=c) (cap:=c) (size:=k) (Nat.le_refl _) hm (by simp [flat_length hf,hc])
 have e1:osl e k (.slice (some ⟨b,0,none⟩) c c) c ((xs.flatMap f).toArray.toList.take (c*k))=osT e k f (some ⟨b,0,none⟩) c xs:=by
   show _=osl e k (.slice (some ⟨b,0,none⟩) xs.length c) xs.length (xs.flatMap f)
   rw [hc,List.take_of_length_le (by rw [List.toList_toArray,flat_length hf,hc]; exact Nat.le_refl _)]
 rw [e1] at h1
 exact h1
theorem WC.cutE {ι:Type} {x y:Code} {W:World→Prop} (E:ι→List (Nat×Value)) (Wi:ι→World→Prop) (R:ι→Prop) (hx:WC P x (Exit.then (fun a w=>∃i,R i∧Ag n ds (E i) a∧Wi i w) Q) n ds l W) (hy:∀i,R i→WC P y Q n ds (E i) (Wi i)):WC P (.seq x y) Q n ds l W:=by
 intro a w ha hw
 refine wp_seq (wp_mono (hx a w ha hw) fun e a' w' hq=>?_)
 cases e with
 | normal=>obtain ⟨i,hR,h1,h2⟩:=hq; exact hy i hR a' w' h1 h2
 | _=>exact hq
theorem Em {ι:Type} {Q:Exit→Act→World→Prop} {W:World→Prop} {E:ι→List (Nat×Value)} {Wi:ι→World→Prop} {R:ι→Prop} (i:ι) (hR:R i) (hE:∀p ∈ E i,lk l p.1=some p.2) (hW:∀w,W w→Wi i w) :
   WE (Exit.then (fun a w=>∃i,R i∧Ag n ds (E i) a∧Wi i w) Q) .normal n ds l W:=fun a w ha hw=>⟨i,hR,ha.sub hE,hW w hw⟩
theorem set_same {A:Asr} (i:Nat) (hL:L[i]? = some A):L.set i A=L:=by
 rw [←(List.getElem?_eq_some_iff.1 hL).2]; exact List.set_getElem_self (List.getElem?_eq_some_iff.1 hL).1
theorem WL.reL {A A':Asr} (i:Nat) (hL:L[i]? = some A) (hA:A=A') (h:WL P ops Q n ds l (Ws w0 F (L.set i A') Vs) rest):WL P ops Q n ds l (Ws w0 F L Vs) rest:=by
 subst hA; rwa [set_same i hL] at h
theorem WC.reL {A A':Asr} (i:Nat) (hL:L[i]? = some A) (hA:A=A') (h:WC P c Q n ds l (Ws w0 F (L.set i A') Vs)):WC P c Q n ds l (Ws w0 F L Vs):=by
 subst hA; rwa [set_same i hL] at h
theorem Ws.reL {w:World} {A A':Asr} (h:Ws w0 F L Vs w) (i:Nat) (hL:L[i]? = some A) (hA:A=A'):Ws w0 F (L.set i A') Vs w:=by
 subst hA; rwa [set_same i hL]
end
end Go.Bw
end
section
namespace Go.Bw
open Go Go.RowKit
section
variable {P:Program} {l:List (Nat×Value)} {W:World→Prop} {d:Option Tmp} {ty:TypeId} {pos:String} {af:Array Edge} {g:Option (Nat×Bool)}
def ErrIs (v:Value) (b:Bool):Prop:=(b=true→v = .nilIface)∧(b=false→∃t x,v = .iface t x)
theorem yl_eqnr {t u:TypeId} {x:Operand} {v:Value} (b:Bool) (ht:P.underlying t=some (.interface (P.methodsAt t))) (hx:opv l x=some v) (hb:ErrIs v b):Yl P l W ⟨d,.binOp .eql t x (.const .nilIface) u,ty,pos,af,g⟩ (.bool b):=by
 intro ρ w hρ _
 have hy:ρ (.const .nilIface) = .nilIface:=hρ _ _ rfl
 cases b with
 | true=>
   obtain rfl:=hb.1 rfl
   simp only [execOp,hρ x _ hx,hy,Sem.run_bind]
   simp [eqGuard_nil_constR,run_eql_nil_nil (h:=ht)]
 | false=>
   obtain ⟨s,y,rfl⟩:=hb.2 rfl
   have hg:(eqGuard .eql t x (.const .nilIface) (.iface s y) .nilIface)=pure ():=by cases x<;>rfl
   simp only [execOp,hρ x _ hx,hy,Sem.run_bind,hg]
   simp [run_eql_held_nil (h:=ht)]
end
theorem WL.wk {P:Program} {ops:Array Oper} {Q:Exit→Act→World→Prop} {n:Nat} {ds:List Deferred} {l:List (Nat×Value)} {W W':World→Prop} {rest:List Oper} (hW:∀w,W w→W' w) (h:WL P ops Q n ds l W' rest):WL P ops Q n ds l W rest:=fun a w ha hw=>h a w ha (hW w hw)
structure LaidV (P:Program) (gp gs gr:Nat) (H:View):Prop where
 pow:∃t f,H gp=some (.cells (Lib.pow10Tab.map fun z=>Value.int .u64 z).toArray t f)
 syn:∃ev,vc H gs 0=some ev∧(ev = .nilIface∨∃te pe,ev = .iface te pe)
 rng:∃ev,vc H gr 0=some ev∧(ev = .nilIface∨∃te pe,ev = .iface te pe)
theorem LaidV.tab {P:Program} {gp gs gr:Nat} {H:View} (h:LaidV P gp gs gr H) {w:World} (hl:Le H w) {nm:String} (hg:P.globalNamed nm=some gp):Lib.TabIs P w nm .u64 Lib.pow10Tab:=by
 obtain ⟨t,f,hp⟩:=h.pow
 unfold Lib.TabIs World.var?
 rw [hg]
 simp [hl _ _ hp]
theorem pow_of {P:Program} {W:World} {nm:String} {g:Nat} (ht:Lib.TabIs P W nm .u64 Lib.pow10Tab) (hg:P.globalNamed nm=some g):∃t f,hv W g=some (.cells (Lib.pow10Tab.map fun z=>Value.int .u64 z).toArray t f):=by
 unfold Lib.TabIs World.var? at ht
 rw [hg] at ht
 simp only [Option.bind_some] at ht
 cases hb:W.heap[g]? with
 | none=>simp [hb] at ht
 | some o=>
   cases o with
   | cells cs t f=>
     simp only [hb,Option.some.injEq] at ht
     subst ht
     exact ⟨t,f,hb⟩
   | _=>simp [hb] at ht
theorem ext_grow (w:World) (k:Nat) (os:Array Obj):Ext w (Go.Sort.grow (w.drewN k) os):=by
 refine ⟨O,O,O,by simp [Go.Sort.grow,World.drewN],fun b hb _=>?_⟩
 simp [Go.Sort.grow,World.drewN,Array.getElem?_append,hb]
end Go.Bw
end
section
namespace Go.Bw
open Go Go.RowKit
structure KeyOk {κ:Type} [BEq κ] [LawfulBEq κ] (kd:TypeDesc) (kv:κ→Value):Prop where
 same:∀a b,Instr.sameNow kd (kv a) (kv b)=some (a==b)
 isKey:∀a,MapKept.IsKey kd (kv a)
theorem keyInt:KeyOk (.int .i64) (fun n:Int=>Value.int .i64 n):=⟨fun a b=>by simp [Instr.sameNow],fun a=>by simp [MapKept.IsKey]⟩
theorem keyStr:KeyOk .string st:=⟨fun a b=>by simp only [st,Instr.sameNow,st_beq],fun a=>by simp [MapKept.IsKey,st]⟩
section
variable {κ:Type} {kv:κ→Value}
abbrev GEnt (κ:Type):=κ×Value×Nat
def gent (kv:κ→Value) (e:GEnt κ):MapEntry:={ key:=kv e.1,val:=e.2.1,born:=e.2.2 }
def gobj (kv:κ→Value) (m:List (GEnt κ)) (c:Nat):Obj:=.map (m.map (gent kv)).toArray c
theorem gmap_modify (m:List (GEnt κ)) (j:Nat) (k:κ) (v:Value):(m.map (gent kv)).modify j (fun e=>{ e with key:=kv k,val:=v })=(m.modify j fun e=>(k,v,e.2.2)).map (gent kv):=by
 apply List.ext_getElem?
 intro i
 simp only [List.getElem?_modify,List.getElem?_map]
 cases m[i]? with
 | none=>simp
 | some e=>by_cases h:j=i<;>simp [h,gent]
variable {P:Program} {ops:Array Oper} {Q:Exit→Act→World→Prop} {n:Nat} {ds:List Deferred} {l:List (Nat×Value)} {w0:World} {F:List Nat} {L:List Asr} {Vs:List View} {rest:List Oper} {d:Nat} {ty:TypeId} {pos:String} {af:Array Edge} {g:Option (Nat×Bool)}
theorem WL.gmk {t:TypeId} (kv:κ→Value) (hg:GOk ops l g) (hn:Nat.blt d n=true)
   (h:∀b,WL P ops Q n ds ((d,.map (some b))::l) (Ws w0 F (blk b (gobj kv [] 0)::L) Vs) rest) :
   WL P ops Q n ds l (Ws w0 F L Vs) (⟨some d,.makeMap t none,ty,pos,af,g⟩::rest):=
 WL.new (mk:=fun b=>.map (some b)) (o:=gobj kv [] 0) hg hn (fun ρ w _ _=>by
   simp only [execOp]
   simp [Instr.makeMap,gobj]) h
end
section
variable {κ:Type} [BEq κ] [LawfulBEq κ] {kd:TypeDesc} {kv:κ→Value}
def gfind (k:κ):List (GEnt κ)→Nat→Option (Nat×Value)
 | [],_=>none
 | e::r,i=>if (k==e.1)=true then some (i,e.2.1) else gfind k r (i+1)
def gput (k:κ) (v:Value) (m:List (GEnt κ)) (c:Nat):List (GEnt κ):=match gfind k m 0 with
 | some (i,_)=>m.modify i fun e=>(k,v,e.2.2)
 | none=>m++[(k,v,c)]
def gclock (k:κ) (m:List (GEnt κ)) (c:Nat):Nat:=match gfind k m 0 with | some _=>c | none=>c+1
def gget (k:κ) (m:List (GEnt κ)) (z:Value):Value:=match gfind k m 0 with | some (_,v)=>v | none=>z
def ghas (k:κ) (m:List (GEnt κ)):Bool:=(gfind k m 0).isSome
theorem gfindNow (hk:KeyOk kd kv) (k:κ):∀(m:List (GEnt κ)) (i:Nat),Instr.findNow kd (kv k) (m.map (gent kv)) i=some (gfind k m i)
 | [],_=>rfl
 | e::r,i=>by
   simp only [List.map_cons,Instr.findNow,gent,hk.same,gfind]
   cases h:(k==e.1)
   · simp only [Bool.false_eq_true,if_false]
     exact gfindNow hk k r (i+1)
   · simp
theorem gfind_key (k:κ) (j:Nat) (v':Value):∀(m:List (GEnt κ)) (i0:Nat),gfind k m i0=some (j,v')→i0≤j∧(m[j-i0]?).map (·.1)=some k
 | [],i0,h=>by simp [gfind] at h
 | e::r,i0,h=>by
   simp only [gfind] at h
   split at h
   · rename_i hk
     injection h with h; injection h with h1 h2
     subst h1
     simp at hk
     simp [hk]
   · obtain ⟨h1,h2⟩:=gfind_key k j v' r (i0+1) h
     refine ⟨by omega,?_⟩
     have:j-i0=(j-(i0+1))+1:=by omega
     rw [this]; simpa using h2
variable {P:Program} {ops:Array Oper} {Q:Exit→Act→World→Prop} {n:Nat} {ds:List Deferred} {l:List (Nat×Value)} {w0:World} {F:List Nat} {L:List Asr} {Vs:List View} {rest:List Oper} {d:Nat} {ty:TypeId} {pos:String} {af:Array Edge} {g:Option (Nat×Bool)}
theorem run_glook {w:World} {t kt e:TypeId} {b c:Nat} {m:List (GEnt κ)} {k:κ} {z:Value} (cm:Bool) (hkk:KeyOk kd kv) (ht:P.underlying t=some (.map kt e)) (hk:P.underlying kt=some kd) (hz:zeroOf P e=some z) (hb:w.heap[b]? = some (gobj kv m c)) :
   (Instr.lookup t (.map (some b)) (kv k) cm).run P w = .ok (if cm=true then .tuple #[gget k m z,.bool (ghas k m)] else gget k m z) w:=by
 have hf:=gfindNow hkk k m 0
 have hb:w.heap[b]? = some (.map (m.map (gent kv)).toArray c):=hb
 have hc:(Instr.checkKey (m.map (gent kv)).toArray.isEmpty 10000 kt (kv k)).run P w = .ok () w:=MapKept.run_checkKey (k:=kv k) hk (hkk.isKey k) _ 9999
 simp only [Instr.lookup,Sem.run_bind,run_underlying ht,Result.andThen_ok,MapKept.run_getObj_map hb,Sem.run_pure,hc]
 rw [MapKept.run_findKey hk (by simpa using hf)]
 unfold gget ghas
 cases hm:gfind k m 0 with
 | none=>simp [Result.andThen_ok,run_zero hz]
 | some r=>obtain ⟨i,v⟩:=r; simp [Result.andThen_ok]
theorem yl_glook {dd:Option Tmp} {t kt e:TypeId} {x y:Operand} {b c:Nat} {m:List (GEnt κ)} {k:κ} {z:Value} (i:Nat) (hkk:KeyOk kd kv) (ht:P.underlying t=some (.map kt e)) (hk:P.underlying kt=some kd) (hz:zeroOf P e=some z) (hx:opv l x=some (.map (some b))) (hy:opv l y=some (kv k)) (hL:L[i]? = some (blk b (gobj kv m c))) :
   Yl P l (Ws w0 F L Vs) ⟨dd,.lookup t x y false,ty,pos,af,g⟩ (gget k m z):=by
 intro ρ w hρ hw
 simp [execOp,hρ x _ hx,hρ y _ hy,run_glook (P:=P) (k:=k) false hkk ht hk hz (hw.kn _ (mem_of_idx hL):w.heap[b]? = some (gobj kv m c))]
theorem yl_glook2 {dd:Option Tmp} {t kt e:TypeId} {x y:Operand} {b c:Nat} {m:List (GEnt κ)} {k:κ} {z:Value} (i:Nat) (hkk:KeyOk kd kv) (ht:P.underlying t=some (.map kt e)) (hk:P.underlying kt=some kd) (hz:zeroOf P e=some z) (hx:opv l x=some (.map (some b))) (hy:opv l y=some (kv k)) (hL:L[i]? = some (blk b (gobj kv m c))) :
   Yl P l (Ws w0 F L Vs) ⟨dd,.lookup t x y true,ty,pos,af,g⟩ (.tuple #[gget k m z,.bool (ghas k m)]):=by
 intro ρ w hρ hw
 simp [execOp,hρ x _ hx,hρ y _ hy,run_glook (P:=P) (k:=k) true hkk ht hk hz (hw.kn _ (mem_of_idx hL):w.heap[b]? = some (gobj kv m c))]
theorem run_gset {w:World} {t kt e:TypeId} {b c:Nat} {m:List (GEnt κ)} {k:κ} {v:Value} (hkk:KeyOk kd kv) (ht:P.underlying t=some (.map kt e)) (hk:P.underlying kt=some kd) (hb':w.heap[b]? = some (gobj kv m c)) :
   (Instr.mapUpdate t (.map (some b)) (kv k) v).run P w = .ok () { w with heap:=w.heap.setIfInBounds b (gobj kv (gput k v m c) (gclock k m c)) }:=by
 have hb:w.heap[b]? = some (.map (m.map (gent kv)).toArray c):=hb'
 have hf:=gfindNow hkk k m 0
 have hc:(Instr.checkKey false 10000 kt (kv k)).run P w = .ok () w:=MapKept.run_checkKey (k:=kv k) hk (hkk.isKey k) _ 9999
 simp only [Instr.mapUpdate,Sem.run_bind,run_underlying ht,Result.andThen_ok,MapKept.run_getObj_map hb,Sem.run_pure,hc]
 rw [MapKept.run_findKey hk (by simpa using hf)]
 unfold gput gclock
 cases hm:gfind k m 0 with
 | none=>simp [Result.andThen_ok,MapKept.run_setObj_map _ hb,gobj,gent]
 | some r=>
   obtain ⟨j,v'⟩:=r
   have hkey:m[j]?.map (·.1)=some k:=by simpa using (gfind_key k j v' m 0 hm).2
   have hst:((((m.map (gent kv)).toArray)[j]?).map (·.key)).getD (kv k)=kv k:=by
     cases he:m[j]? with
     | none=>simp [he]
     | some e=>rw [he] at hkey; simp at hkey; simp [he,gent,hkey]
   simp only [hst,Result.andThen_ok]
   simp only [Sem.run_bind,MapKept.run_keyThatStays (hkk.isKey k),Result.andThen_ok,MapKept.run_setObj_map _ hb,gobj]
   have hmm:(m.map (gent kv)).toArray.modify j (fun e=>{ e with key:=kv k,val:=v })=((m.modify j fun e=>(k,v,e.2.2)).map (gent kv)).toArray:=by
     apply Array.ext'
     rw [Array.toList_modify]
     exact gmap_modify m j k v
   rw [hmm]
theorem WL.gset {t kt e:TypeId} {x y u:Operand} {b c:Nat} {m:List (GEnt κ)} {k:κ} {v:Value} (i:Nat) (hkk:KeyOk kd kv) (hg:GOk ops l g) (ht:P.underlying t=some (.map kt e)) (hk:P.underlying kt=some kd) (hx:opv l x=some (.map (some b))) (hy:opv l y=some (kv k)) (hu:opv l u=some v) (hL:L[i]? = some (blk b (gobj kv m c)))
   (h:WL P ops Q n ds l (Ws w0 F (L.set i (blk b (gobj kv (gput k v m c) (gclock k m c)))) Vs) rest) :
   WL P ops Q n ds l (Ws w0 F L Vs) (⟨none,.mapUpdate t x y u,ty,pos,af,g⟩::rest):=by
 refine WL.step hg fun a w ha hw K hK=>?_
 have hb:w.heap[b]? = some (gobj kv m c):=hw.kn _ (mem_of_idx hL)
 have hrun':(execOp a.eval ⟨none,.mapUpdate t x y u,ty,pos,af,g⟩).run P w = .ok .skip { w with heap:=w.heap.setIfInBounds b (gobj kv (gput k v m c) (gclock k m c)) }:=by
   simp only [execOp,ha.eval hx,ha.eval hy,ha.eval hu,Sem.run_bind,run_gset hkk ht hk hb,Result.andThen_ok,Sem.run_pure]
 simp only [Oper.wp,hrun',Oper.upon_skip]
 refine hK _ _ (h _ _ (ha.put_none undef) ?_)
 refine Ws.turn1 hw i hL ⟨O,O,O,by simp,fun j hj hne=>?_⟩ ?_ (by simp [blk]) (by simp [blk])
 · have:b≠j:=fun e=>hne (by simp [blk,e])
   simp [Array.getElem?_setIfInBounds_ne this]
 · show (w.heap.setIfInBounds b _)[b]? = _
   simp [lt_of_heap hb]
theorem WL.gins {t kt e:TypeId} {x y u:Operand} {b c:Nat} {m:List (GEnt κ)} {k:κ} {v:Value} (i:Nat) (hkk:KeyOk kd kv) (hg:GOk ops l g) (ht:P.underlying t=some (.map kt e)) (hk:P.underlying kt=some kd) (hx:opv l x=some (.map (some b))) (hy:opv l y=some (kv k)) (hu:opv l u=some v) (hL:L[i]? = some (blk b (gobj kv m c)))
   (h:WL P ops Q n ds l (Ws w0 F (L.set i (blk b (gobj kv (gput k v m c) (gclock k m c)))) Vs) rest) :
   WL P ops Q n ds l (Ws w0 F L Vs) (⟨none,.insert t x y u,ty,pos,af,g⟩::rest):=by
 refine WL.step hg fun a w ha hw K hK=>?_
 have hb:w.heap[b]? = some (gobj kv m c):=hw.kn _ (mem_of_idx hL)
 have hrun':(execOp a.eval ⟨none,.insert t x y u,ty,pos,af,g⟩).run P w = .ok .skip { w with heap:=w.heap.setIfInBounds b (gobj kv (gput k v m c) (gclock k m c)) }:=by
   simp only [execOp,ha.eval hx,ha.eval hy,ha.eval hu,Sem.run_bind,run_gset hkk ht hk hb,Result.andThen_ok,Sem.run_pure]
 simp only [Oper.wp,hrun',Oper.upon_skip]
 refine hK _ _ (h _ _ (ha.put_none undef) ?_)
 refine Ws.turn1 hw i hL ⟨O,O,O,by simp,fun j hj hne=>?_⟩ ?_ (by simp [blk]) (by simp [blk])
 · have:b≠j:=fun e=>hne (by simp [blk,e])
   simp [Array.getElem?_setIfInBounds_ne this]
 · show (w.heap.setIfInBounds b _)[b]? = _
   simp [lt_of_heap hb]
end
end Go.Bw
end
section
namespace Go.Bw
open Go Go.RowKit
def arrP (P:Program) (t:TypeId):Option (Nat×Nat):=match P.underlying t with | some (.array n e)=>(P.info? e).map fun i=>(n,i.size) | _=>none
def arr1 (P:Program) (t:TypeId):Option Nat:=match P.underlying t with | some (.array n e)=>if nonAgg P e=true∧(P.info? e).map (·.size)=some 1 then some n else none | _=>none
section
variable {P:Program} {l:List (Nat×Value)} {W:World→Prop} {d:Option Tmp} {ty:TypeId} {pos:String} {af:Array Edge} {g:Option (Nat×Bool)}
theorem yl_iar {t:TypeId} {x y:Operand} {b o n s:Nat} {k:IntKind} {i:Nat} (hs:arrP P t=some (n,s)) (hx:opv l x=some (.pointer (some ⟨b,o,none⟩))) (hy:opv l y=some (.int k (i:Int))) (h1:i<n) :
   Yl P l W ⟨d,.indexAddr t x y,ty,pos,af,g⟩ (.pointer (some ⟨b,o+i*s,none⟩)):=by
 intro ρ w hρ _
 unfold arrP at hs
 cases hu:P.underlying t with
 | none=>simp [hu] at hs
 | some dd=>
   cases dd<;>simp [hu] at hs
   rename_i m e
   obtain ⟨inf,hi,h2,h3⟩:=hs
   subst h2 h3
   have hlt:(i:Int)<(m:Int):=by omega
   simp [execOp,hρ x _ hx,hρ y _ hy,Instr.indexAt,run_underlying hu,asIntOf,hlt,h1,sizeOf,typeInfo,hi,add_none,Instr.sureAddr]
theorem yl_ixa {t:TypeId} {x y:Operand} {n:Nat} {cs:Array Value} {k:IntKind} {i:Nat} {v:Value} (hs:arr1 P t=some n) (hx:opv l x=some (.agg cs)) (hy:opv l y=some (.int k (i:Int))) (h1:i<n) (hv:cs[i]? = some v) :
   Yl P l W ⟨d,.index t x y,ty,pos,af,g⟩ v:=by
 intro ρ w hρ _
 unfold arr1 at hs
 cases hu:P.underlying t with
 | none=>simp [hu] at hs
 | some dd=>
   cases dd<;>simp [hu] at hs
   rename_i m e
   obtain ⟨⟨hna,inf,hi,hsz⟩,rfl⟩:=hs
   have hlt:(i:Int)<(m:Int):=by omega
   have ha:=run_isAgg_non hna w
   have hp:(part e cs (i*inf.size)).run P w = .ok v w:=by
     simp [part,ha,hsz,hv]
   simp [execOp,hρ x _ hx,hρ y _ hy,Instr.index,run_underlying hu,asIntOf,hlt,h1,sizeOf,typeInfo,hi,hp]
end
end Go.Bw
end
section
namespace Go.Bw
open Go
structure Tok where
 kind:Int
 n:Int
 text:List UInt8
deriving DecidableEq
def Tok.cells (t:Tok):List Value:=[.int .i64 t.kind,.int .i64 t.n,st t.text]
theorem Tok.cells_len (x:Tok):x.cells.length=3:=rfl
def rdTok (H:View) (b o:Nat) (x:Tok):Prop:=RdC H b o x.cells
def letterB (u:Int):Bool:=decide (97≤u)&&decide (u≤122)
def digitB (u:Int):Bool:=decide (48≤u)&&decide (u≤57)
def charB (u:UInt8):Bool:=letterB u.toNat||digitB u.toNat
def nameB (s:List UInt8):Bool:=(decide (1≤s.length)&&decide (s.length≤8))&&letterB ((s[0]?.getD 0).toNat)&&s.all charB
def signL:List UInt8:=[123,125,40,41,91,93,44,59,61,46,43,45,42,47,37,60,33,38,124]
def signB (u:UInt8):Bool:=signL.contains u
def runC:List UInt8→Nat
 | []=>0
 | c::r=>if charB c=true then runC r+1 else 0
def numN (s:List UInt8):Option Nat:=match Lib.decNat s with
 | some n=>if n≤1099511627775∧Lib.decDigits n=s then some n else none
 | none=>none
def wordT (s:List UInt8):Option Tok:=if nameB s=true then some ⟨1,0,s⟩ else (numN s).map (fun n:Nat=>(⟨2,(n:Int),[]⟩:Tok))
def lexF:Nat→List UInt8→Option (List Tok)
 | _,[]=>some []
 | 0,_::_=>none
 | f+1,c::r=>
   if 0<runC (c::r) then
     match wordT ((c::r).take (runC (c::r))) with
     | some t=>(lexF f ((c::r).drop (runC (c::r)))).map (t::·)
     | none=>none
   else if signB c=true then (lexF f r).map (⟨3,0,[c]⟩::·)
   else if c=32∨c=10 then lexF f r
   else none
def lexO (s:List UInt8):Option (List Tok):=lexF s.length s
def lexR (s:List UInt8):List Tok×Int:=if 4096<s.length then ([],2) else match lexO s with
 | some l=>(l,0)
 | none=>([],1)
def kindT (t:Tok):Bool:=decide (1≤t.kind)&&decide (t.kind≤3)
def tokOk (t:Tok):Bool:=if t.kind=1 then t.n==0&&nameB t.text else if t.kind=2 then t.text==[]&&(decide (0≤t.n)&&decide (t.n≤1099511627775)) else t.n==0&&(t.text.length==1&&signB (t.text[0]?.getD 0))
def kindBad (t:Tok):Bool:=!kindT t
def tokBad (t:Tok):Bool:=!tokOk t
def checkT (l:List Tok):Int:=if l.any kindBad=true then 4 else if l.any tokBad=true then 1 else if 4096<l.length then 2 else 0
def tokTxt (t:Tok):List UInt8:=if t.kind=2 then Lib.itoa t.n else t.text
theorem runC_spec:∀(s:List UInt8) (n:Nat),n≤s.length→(∀j,j<n→charB (s[j]?.getD 0)=true)→(n=s.length∨charB (s[n]?.getD 0)=false)→runC s=n
 | [],n,h,_,_=>by simp at h; subst h; rfl
 | c::r,0,_,_,h=>by
   have:charB c=false:=by
     rcases h with h | h
     · simp at h
     · simpa using h
   simp [runC,this]
 | c::r,n+1,hn,ha,h=>by
   have h0:charB c=true:=by simpa using ha 0 (by omega)
   rw [runC,if_pos h0,runC_spec r n (by simpa using hn) (fun j hj=>by simpa using ha (j+1) (by omega)) (by rcases h with h | h; left; simpa using h; right; simpa using h)]
theorem lexF_more:∀(f g:Nat) (s:List UInt8),s.length≤f→s.length≤g→lexF f s=lexF g s
 | _,_,[],_,_=>by simp [lexF]
 | 0,_,_::_,h,_=>by simp at h
 | _+1,0,_::_,_,h=>by simp at h
 | f+1,g+1,c::r,hf,hg=>by
   simp only [List.length_cons] at hf hg
   unfold lexF
   rw [lexF_more f g r (by omega) (by omega)]
   by_cases h0:0<runC (c::r)
   · rw [lexF_more f g ((c::r).drop (runC (c::r))) (by simp; omega) (by simp; omega)]
   · simp only [if_neg h0]
theorem lexO_nil:lexO []=some []:=rfl
theorem lexO_word {s:List UInt8} (h:0<runC s):lexO s=match wordT (s.take (runC s)) with
   | some t=>(lexO (s.drop (runC s))).map (t::·)
   | none=>none:=by
 cases s with
 | nil=>simp [runC] at h
 | cons c r=>
   show lexF (r.length+1) (c::r)=_
   rw [lexF,if_pos h]
   unfold lexO
   rw [lexF_more r.length ((c::r).drop (runC (c::r))).length _ (by simp; omega) (Nat.le_refl _)]
theorem lexO_sign {c:UInt8} {r:List UInt8} (h:runC (c::r)=0) (hs:signB c=true):lexO (c::r)=(lexO r).map (⟨3,0,[c]⟩::·):=by
 show lexF (r.length+1) (c::r)=_
 rw [lexF,if_neg (by omega),if_pos hs]
 rfl
theorem lexO_blank {c:UInt8} {r:List UInt8} (h:runC (c::r)=0) (hs:signB c=false) (hb:c=32∨c=10):lexO (c::r)=lexO r:=by
 show lexF (r.length+1) (c::r)=_
 rw [lexF,if_neg (by omega),if_neg (by simp [hs]),if_pos hb]
 rfl
theorem lexO_bad {c:UInt8} {r:List UInt8} (h:runC (c::r)=0) (hs:signB c=false) (hb:¬(c=32∨c=10)):lexO (c::r)=none:=by
 show lexF (r.length+1) (c::r)=_
 rw [lexF,if_neg (by omega),if_neg (by simp [hs]),if_neg hb]
theorem decFrom_snoc (d:Nat) (hd:d<10):∀(l:List UInt8) (acc n:Nat),Lib.decFrom acc l=some n→Lib.decFrom acc (l++[UInt8.ofNat (48+d)])=some (n*10+d)
 | [],acc,n,h=>by
   simp only [Lib.decFrom,Option.some.injEq] at h
   subst h
   have e:(UInt8.ofNat (48+d)).toNat=48+d:=by simp [UInt8.toNat_ofNat']; omega
   have:Lib.digitVal (UInt8.ofNat (48+d))=some d:=by
     unfold Lib.digitVal
     rw [e,if_pos (by omega)]
     simp
   simp only [List.nil_append,Lib.decFrom,this]
 | b::r,acc,n,h=>by
   simp only [Lib.decFrom,List.cons_append] at h ⊢
   cases hb:Lib.digitVal b with
   | none=>simp [hb] at h
   | some e=>
     simp only [hb] at h ⊢
     exact decFrom_snoc d hd r _ n h
theorem decDigits_ne (n:Nat):Lib.decDigits n≠[]:=by
 rw [Lib.decDigits]
 split<;>simp
theorem decFrom_digits (n:Nat):Lib.decFrom 0 (Lib.decDigits n)=some n:=by
 induction n using Nat.strongRecOn with
 | _ n ih=>
   rw [Lib.decDigits]
   split
   · rename_i h
     have:=decFrom_snoc n h [] 0 0 rfl
     simpa using this
   · rename_i h
     rw [decFrom_snoc (n % 10) (by omega) _ _ _ (ih (n / 10) (by omega))]
     congr 1
     omega
theorem decNat_digits (n:Nat):Lib.decNat (Lib.decDigits n)=some n:=by
 unfold Lib.decNat
 rw [if_neg (by simpa using decDigits_ne n),decFrom_digits]
theorem decDigits_all (n:Nat):∀x ∈ Lib.decDigits n,48≤x.toNat∧x.toNat≤57:=by
 induction n using Nat.strongRecOn with
 | _ n ih=>
   rw [Lib.decDigits]
   have e:∀d,d<10→(UInt8.ofNat (48+d)).toNat=48+d:=fun d hd=>by simp [UInt8.toNat_ofNat']; omega
   split
   · rename_i h
     intro x hx
     simp only [List.mem_singleton] at hx
     subst hx
     rw [e n h]; omega
   · intro x hx
     rw [List.mem_append,List.mem_singleton] at hx
     rcases hx with hx | hx
     · exact ih (n / 10) (by omega) x hx
     · subst hx
       rw [e _ (by omega)]; omega
theorem decDigits_len:∀(k n:Nat),n<10 ^ (k+1)→(Lib.decDigits n).length≤k+1
 | 0,n,h=>by
   rw [Lib.decDigits,dif_pos (by simpa using h)]
   simp
 | k+1,n,h=>by
   rw [Lib.decDigits]
   split
   · simp
   · rw [Nat.pow_succ] at h
     have:=decDigits_len k (n / 10) (by omega)
     simp; omega
theorem itoa_nat (n:Nat):Lib.itoa (n:Int)=Lib.decDigits n:=by
 unfold Lib.itoa
 rw [if_neg (by omega)]
 simp
theorem itoa_pos {n:Int} (h:0≤n):Lib.itoa n=Lib.decDigits n.toNat:=by
 unfold Lib.itoa
 rw [if_neg (by omega)]
theorem digits13 {n:Nat} (h:n≤1099511627775):(Lib.decDigits n).length≤13:=decDigits_len 12 n (by omega)
theorem numN_some {s:List UInt8} {n:Nat} (h:numN s=some n):n≤1099511627775∧Lib.decDigits n=s:=by
 unfold numN at h
 split at h
 · split at h
   · injection h with h
     subst h; assumption
   · cases h
 · cases h
theorem numN_digits {n:Nat} (h:n≤1099511627775):numN (Lib.decDigits n)=some n:=by
 unfold numN
 rw [decNat_digits]
 simp [h]
def wordP (s:List UInt8):Tok×Bool:=if nameB s=true then (⟨1,0,s⟩,true) else match Lib.atoiAll s with
 | .ok v=>(⟨2,v,[]⟩,((decide (0≤v)&&decide (v≤1099511627775))&&(Lib.itoa v==s)))
 | .range=>(⟨2,Lib.atoiSat s,[]⟩,false)
 | _=>(⟨2,0,[]⟩,false)
theorem atoiAll_digits {n:Nat} (h:n≤1099511627775):Lib.atoiAll (Lib.decDigits n) = .ok (n:Int):=by
 have hl:=digits13 h
 rw [Lib.atoiAll_short _ (by omega)]
 have hne:=decDigits_ne n
 have hall:=decDigits_all n
 have hd:=decNat_digits n
 cases hs:Lib.decDigits n with
 | nil=>exact absurd hs hne
 | cons b r=>
   rw [hs] at hall hd
   have hb:=hall b (by simp)
   have h45:(b==45)=false:=by
     rw [beq_eq_false_iff_ne]
     intro e; subst e; revert hb; decide
   have h43:(b==43)=false:=by
     rw [beq_eq_false_iff_ne]
     intro e; subst e; revert hb; decide
   simp [Lib.atoi,h45,h43,hd,Lib.NumEnd.ofOption]
theorem word_same (s:List UInt8):wordT s=if (wordP s).2=true then some (wordP s).1 else none:=by
 unfold wordT wordP
 by_cases hn:nameB s=true
 · simp [hn]
 · simp only [if_neg hn]
   cases h:numN s with
   | some n=>
     obtain ⟨h1,h2⟩:=numN_some h
     subst h2
     rw [atoiAll_digits h1]
     have:((n:Int)≤1099511627775):=by omega
     simp [itoa_nat,this]
   | none=>
     cases ha:Lib.atoiAll s with
     | ok v=>
       simp only
       by_cases hv:((decide (0≤v)&&decide (v≤1099511627775))&&(Lib.itoa v==s))=true
       · simp only [Bool.and_eq_true,decide_eq_true_eq,beq_iff_eq] at hv
         obtain ⟨⟨h1,h2⟩,h3⟩:=hv
         have:numN s=some v.toNat:=by
           rw [←h3,itoa_pos h1]
           exact numN_digits (by omega)
         rw [h] at this; cases this
       · rw [if_neg hv]; rfl
     | range=>rfl
     | _=>rfl
theorem wordT_ok {s:List UInt8} {t:Tok} (h:wordT s=some t):kindT t=true∧tokOk t=true:=by
 unfold wordT at h
 split at h
 · rename_i hn
   injection h with h
   subst h
   exact ⟨O,by simp [tokOk,hn]⟩
 · obtain ⟨n,hn,rfl⟩:=Option.map_eq_some_iff.1 h
   have:=(numN_some hn).1
   exact ⟨O,by simp [tokOk]; omega⟩
theorem lexO_ok:∀(k:Nat) (s:List UInt8) (l:List Tok),s.length≤k→lexO s=some l→(∀t ∈ l,kindT t=true∧tokOk t=true)∧l.length≤s.length
 | _,[],l,_,h=>by
   rw [lexO_nil] at h
   injection h with h
   subst h; simp
 | 0,_::_,_,h,_=>by simp at h
 | k+1,c::r,l,hk,h=>by
   simp only [List.length_cons] at hk
   by_cases h0:0<runC (c::r)
   · rw [lexO_word h0] at h
     cases hw:wordT ((c::r).take (runC (c::r))) with
     | none=>simp [hw] at h
     | some t=>
       simp only [hw] at h
       obtain ⟨l',hl',rfl⟩:=Option.map_eq_some_iff.1 h
       obtain ⟨h1,h2⟩:=lexO_ok k ((c::r).drop (runC (c::r))) l' (by simp; omega) hl'
       refine ⟨fun x hx=>?_,?_⟩
       · rcases List.mem_cons.1 hx with rfl | hx
         · exact wordT_ok hw
         · exact h1 x hx
       · simp at h2 ⊢; omega
   · have h0':runC (c::r)=0:=by omega
     cases hs:signB c with
     | true=>
       rw [lexO_sign h0' hs] at h
       obtain ⟨l',hl',rfl⟩:=Option.map_eq_some_iff.1 h
       obtain ⟨h1,h2⟩:=lexO_ok k r l' (by omega) hl'
       refine ⟨fun x hx=>?_,by simpa using h2⟩
       rcases List.mem_cons.1 hx with rfl | hx
       · exact ⟨O,by simp [tokOk,hs]⟩
       · exact h1 x hx
     | false=>
       by_cases hb:c=32∨c=10
       · rw [lexO_blank h0' hs hb] at h
         obtain ⟨h1,h2⟩:=lexO_ok k r l (by omega) h
         exact ⟨h1,by simp; omega⟩
       · rw [lexO_bad h0' hs hb] at h; cases h
theorem any_none {α:Type} {p:α→Bool} {l:List α} (h:∀t ∈ l,p t=false):l.any p=false:=by
 rw [List.any_eq_false]
 intro x hx
 simp [h x hx]
theorem checkT_of {l:List Tok} (h:∀t ∈ l,kindT t=true∧tokOk t=true) (hl:l.length≤4096):checkT l=0:=by
 unfold checkT
 rw [any_none (p:=kindBad) fun t ht=>by simp [kindBad,(h t ht).1],any_none (p:=tokBad) fun t ht=>by simp [tokBad,(h t ht).2]]
 simp; omega
theorem checkT_zero {l:List Tok} (h:checkT l=0):(∀t ∈ l,kindT t=true∧tokOk t=true)∧l.length≤4096:=by
 unfold checkT at h
 split at h
 · cases h
 · rename_i h1
   split at h
   · cases h
   · rename_i h2
     split at h
     · cases h
     · rename_i h3
       simp only [List.any_eq_true,not_exists,not_and] at h1 h2
       refine ⟨fun t ht=>⟨?_,?_⟩,by omega⟩
       · have:=h1 t ht; simpa [kindBad] using this
       · have:=h2 t ht; simpa [tokBad] using this
theorem lex_checks {s:List UInt8} (h:(lexR s).2=0):checkT (lexR s).1=0:=by
 unfold lexR at h ⊢
 split
 · simp_all
 · rename_i h1
   cases ho:lexO s with
   | none=>simp [h1,ho] at h
   | some l=>
     obtain ⟨h2,h3⟩:=lexO_ok _ s l (Nat.le_refl _) ho
     exact checkT_of h2 (show l.length≤4096 by omega)
end Go.Bw
end
section
namespace Go.Bw
open Go
inductive TExpr where
 | mk (op n:Int) (mod nm:List UInt8) (args:List TExpr)
inductive TStmt where
 | mk (op:Int) (mod nm:List UInt8) (args:List TExpr) (body other:List TStmt)
def TExpr.op:TExpr→Int | .mk o _ _ _ _=>o
def TExpr.n:TExpr→Int | .mk _ n _ _ _=>n
def TExpr.mod:TExpr→List UInt8 | .mk _ _ m _ _=>m
def TExpr.nm:TExpr→List UInt8 | .mk _ _ _ s _=>s
def TExpr.args:TExpr→List TExpr | .mk _ _ _ _ a=>a
def TStmt.op:TStmt→Int | .mk o _ _ _ _ _=>o
def TStmt.mod:TStmt→List UInt8 | .mk _ m _ _ _ _=>m
def TStmt.nm:TStmt→List UInt8 | .mk _ _ s _ _ _=>s
def TStmt.args:TStmt→List TExpr | .mk _ _ _ a _ _=>a
def TStmt.body:TStmt→List TStmt | .mk _ _ _ _ b _=>b
def TStmt.other:TStmt→List TStmt | .mk _ _ _ _ _ o=>o
structure TDecl where
 kind:Int
 nm:List UInt8
 pub:Bool
 n:Int
deriving DecidableEq
structure TProc where
 nm:List UInt8
 pub:Bool
 params:List (List UInt8)
 locs:List (List UInt8)
 body:List TStmt
structure TMod where
 nm:List UInt8
 uses:List (List UInt8)
 decls:List TDecl
 procs:List TProc
 main:List TStmt
structure Cnt where
 f:Nat
 m:Nat
 k:Nat
deriving DecidableEq
instance:Add Cnt:=⟨fun a b=>⟨a.f+b.f,a.m+b.m,a.k+b.k⟩⟩
def Cnt.tot (c:Cnt):Nat:=c.f+c.m+c.k
def c0:Cnt:=⟨0,0,0⟩
theorem Cnt.add_f (a b:Cnt):(a+b).f=a.f+b.f:=rfl
theorem Cnt.add_m (a b:Cnt):(a+b).m=a.m+b.m:=rfl
theorem Cnt.add_k (a b:Cnt):(a+b).k=a.k+b.k:=rfl
theorem Cnt.ext' {a b:Cnt} (h1:a.f=b.f) (h2:a.m=b.m) (h3:a.k=b.k):a=b:=by
 cases a; cases b; simp_all
theorem Cnt.add_assoc' (a b c:Cnt):a+b+c=a+(b+c):=Cnt.ext' (Nat.add_assoc _ _ _) (Nat.add_assoc _ _ _) (Nat.add_assoc _ _ _)
theorem Cnt.tot_add (a b:Cnt):(a+b).tot=a.tot+b.tot:=by
 simp only [Cnt.tot,Cnt.add_f,Cnt.add_m,Cnt.add_k]; omega
def b2n (b:Bool):Nat:=if b=true then 1 else 0
def noteF (b:Bool):Cnt:=⟨b2n b,0,0⟩
def noteM (b:Bool):Cnt:=⟨0,b2n b,0⟩
def noteK (b:Bool):Cnt:=⟨0,0,b2n b⟩
def wordsL:List (List UInt8):=[[109,111,100,117,108,101],[117,115,101],[112,117,98],[99,111,110,115,116],[118,97,114],[97,114,114,97,121],[112,114,111,99],[108,111,99,97,108],[109,97,105,110],[105,102],[101,108,115,101],[119,104,105,108,101],[114,101,116,117,114,110],[111,117,116],[105,110]]
def nameT (s:List UInt8):Bool:=nameB s&&!(wordsL.contains s)
def shE (op:Int):Option (Bool×Int):=if op=1∨op=2 then some (false,0) else if op=3 then some (true,0) else if op=4 then some (true,1) else if op=5 then some (true,-1) else if op=6 then some (false,1) else if 7≤op∧op≤15 then some (false,2) else none
def shS (op:Int):Option (Bool×Int):=if op=1 then some (true,1) else if op=2 then some (true,2) else if op=3 then some (true,-1) else if 4≤op∧op≤7 then some (false,1) else none
def badName (r:Bool) (mod nm:List UInt8):Bool:=(r&&((!(mod==[])&&!nameT mod)||!nameT nm))||(!r&&!(mod++nm==[]))
def badArgs (a:Int) (len:Nat):Bool:=decide (0≤a)&&!((len:Int)==a)
def shapeC (s:Bool×Int) (mod nm:List UInt8) (len:Nat):Cnt:=noteF (badName s.1 mod nm)+noteF (badArgs s.2 len)+noteM (decide (3<len))
def numBad (op n:Int):Bool:=((op==1)&&(decide (n<0)||decide (1099511627775<n)))||(!(op==1)&&!(n==0))
mutual
def cntE:TExpr→Nat→Cnt
 | .mk op n mod nm args,d=>if 6<d then ⟨0,1,0⟩ else noteK (shE op).isNone+shapeC ((shE op).getD (false,0)) mod nm args.length+noteF (numBad op n)+cntEs args (d+1)
def cntEs:List TExpr→Nat→Cnt
 | [],_=>c0
 | x::r,d=>cntE x d+cntEs r d
end
def inner (op:Int):Bool:=(op==4)||(op==5)
def bodyBad (op:Int) (b o:Nat):Bool:=(!inner op&&decide (0<b))||(!(op==4)&&decide (0<o))
def blkC (d len:Nat) (c:Cnt):Cnt:=if 6<d then ⟨0,1,0⟩ else noteM (decide (10<len))+c
mutual
def cntS:TStmt→Nat→Cnt
 | .mk op mod nm args body other,d=>noteK (shS op).isNone+shapeC ((shS op).getD (false,0)) mod nm args.length+cntEs args 1+noteF (bodyBad op body.length other.length)
     + (if (inner op||decide (0<body.length))=true then blkC (d+1) body.length (cntSs body (d+1)) else c0)+(if 0<other.length then blkC (d+1) other.length (cntSs other (d+1)) else c0)
def cntSs:List TStmt→Nat→Cnt
 | [],_=>c0
 | x::r,d=>cntS x d+cntSs r d
end
def cntB (l:List TStmt) (d:Nat):Cnt:=blkC d l.length (cntSs l d)
def cntN:List (List UInt8)→Cnt
 | []=>c0
 | s::r=>noteF (!nameT s)+cntN r
def declC (d:TDecl):Cnt:=cntN [d.nm]+(if d.kind=1 then noteF (decide (d.n<0)||decide (1099511627775<d.n)) else if d.kind=2 then noteF (!(d.n==0)) else if d.kind=3 then noteF (decide (d.n<1)||decide (32<d.n)) else noteK true)
def declsC:List TDecl→Cnt
 | []=>c0
 | d::r=>declC d+declsC r
def procC (p:TProc):Cnt:=cntN [p.nm]+cntN p.params+cntN p.locs+noteM (decide (3<p.params.length)||decide (4<p.locs.length))+cntB p.body 1
def procsC:List TProc→Cnt
 | []=>c0
 | p::r=>procC p+procsC r
def modC (m:TMod):Cnt:=cntN [m.nm]+cntN m.uses+noteM ((decide (3<m.uses.length)||decide (10<m.decls.length))||decide (6<m.procs.length))+declsC m.decls+procsC m.procs+cntB m.main 1
def errC (c:Cnt):Int:=if 0<c.k then 4 else if 0<c.m then 2 else if 0<c.f then 1 else 0
def checkM (m:TMod):Int:=errC (modC m)
def within_ (n low high:Int):Bool:=decide (low≤n)&&decide (n≤high)
def exprArgsT (op:Int):Int:=if op=1∨op=2∨op=3 then 0 else if op=4∨op=6 then 1 else if op=5 then -1 else 2
def stmtArgsT (op:Int):Int:=if op=2 then 2 else if op=3 then -1 else 1
end Go.Bw
end
section
namespace Go.Bw
open Go
def strC (s:List UInt8):List Value:=[st s]
def rdStr (H:View) (b o:Nat) (s:List UInt8):Prop:=RdC H b o (strC s)
theorem strC_len (s:List UInt8):(strC s).length=1:=rfl
theorem rdStr_mono {H H':View} (h:VLe H H') (b o:Nat) (x:List UInt8) (r:rdStr H b o x):rdStr H' b o x:=RdC.mono h r
def TDecl.cells (d:TDecl):List Value:=[.int .i64 d.kind,st d.nm,.bool d.pub,.int .i64 d.n]
theorem TDecl.cells_len (d:TDecl):d.cells.length=4:=rfl
def rdDecl (H:View) (b o:Nat) (d:TDecl):Prop:=RdC H b o d.cells
theorem rdDecl_mono {H H':View} (h:VLe H H') (b o:Nat) (x:TDecl) (r:rdDecl H b o x):rdDecl H' b o x:=RdC.mono h r
def exprV (e:TExpr) (a:Option Addr) (c:Nat):List Value:=[.int .i64 e.op,.int .i64 e.n,st e.mod,st e.nm,.slice a e.args.length c]
def RdE:Nat→View→Nat→Nat→TExpr→Prop
 | 0=>fun _ _ _ _=>False
 | k+1=>fun H b o e=>∃a c,RdC H b o (exprV e a c)∧Sl (RdE k) 5 H a c e.args
def stmtV (s:TStmt) (a:Option Addr) (c:Nat) (a2:Option Addr) (c2:Nat) (a3:Option Addr) (c3:Nat):List Value:=[.int .i64 s.op,st s.mod,st s.nm,.slice a s.args.length c,.slice a2 s.body.length c2,.slice a3 s.other.length c3]
def RdS (ke:Nat):Nat→View→Nat→Nat→TStmt→Prop
 | 0=>fun _ _ _ _=>False
 | k+1=>fun H b o s=>∃a c a2 c2 a3 c3,RdC H b o (stmtV s a c a2 c2 a3 c3)∧Sl (RdE ke) 5 H a c s.args∧Sl (RdS ke k) 6 H a2 c2 s.body∧Sl (RdS ke k) 6 H a3 c3 s.other
def procV (p:TProc) (a1:Option Addr) (c1:Nat) (a2:Option Addr) (c2:Nat) (a3:Option Addr) (c3:Nat):List Value:=[st p.nm,.bool p.pub,.slice a1 p.params.length c1,.slice a2 p.locs.length c2,.slice a3 p.body.length c3]
def RdP (ke ks:Nat) (H:View) (b o:Nat) (p:TProc):Prop:=∃a1 c1 a2 c2 a3 c3,RdC H b o (procV p a1 c1 a2 c2 a3 c3)∧Sl rdStr 1 H a1 c1 p.params∧Sl rdStr 1 H a2 c2 p.locs∧Sl (RdS ke ks) 6 H a3 c3 p.body
structure MAt where
 a1:Option Addr
 c1:Nat
 a2:Option Addr
 c2:Nat
 a3:Option Addr
 c3:Nat
 a4:Option Addr
 c4:Nat
def modV (m:TMod) (r:MAt):List Value:=[st m.nm,.slice r.a1 m.uses.length r.c1,.slice r.a2 m.decls.length r.c2,.slice r.a3 m.procs.length r.c3,.slice r.a4 m.main.length r.c4]
structure RdM (ke ks:Nat) (H:View) (r:MAt) (m:TMod):Prop where
 uses:Sl rdStr 1 H r.a1 r.c1 m.uses
 decls:Sl rdDecl 4 H r.a2 r.c2 m.decls
 procs:Sl (RdP ke ks) 5 H r.a3 r.c3 m.procs
 main:Sl (RdS ke ks) 6 H r.a4 r.c4 m.main
theorem Sl.imp {α:Type} {rd rd':View→Nat→Nat→α→Prop} {k:Nat} {H H':View} {a:Option Addr} {c:Nat} {l:List α} (hm:∀b o x,rd H b o x→rd' H' b o x) (h:Sl rd k H a c l):Sl rd' k H' a c l:=
 ⟨h.cap,h.max,h.spot,fun i x hx=>by obtain ⟨b,o,h1,h2⟩:=h.elt i x hx; exact ⟨b,o,h1,hm _ _ _ h2⟩⟩
theorem RdE_mono {H H':View} (hH:VLe H H'):∀{k k':Nat},k≤k'→∀(b o:Nat) (e:TExpr),RdE k H b o e→RdE k' H' b o e
 | 0,_,_,_,_,_,h=>h.elim
 | k+1,0,hk,_,_,_,_=>absurd hk (by omega)
 | k+1,k'+1,hk,b,o,e,h=>by
   obtain ⟨a,c,h1,h2⟩:=h
   exact ⟨a,c,RdC.mono hH h1,h2.imp fun b o x hx=>RdE_mono hH (by omega) b o x hx⟩
theorem RdS_mono {H H':View} (hH:VLe H H') {ke ke':Nat} (hke:ke≤ke'):∀{k k':Nat},k≤k'→∀(b o:Nat) (e:TStmt),RdS ke k H b o e→RdS ke' k' H' b o e
 | 0,_,_,_,_,_,h=>h.elim
 | k+1,0,hk,_,_,_,_=>absurd hk (by omega)
 | k+1,k'+1,hk,b,o,e,h=>by
   obtain ⟨a,c,a2,c2,a3,c3,h1,h2,h3,h4⟩:=h
   exact ⟨a,c,a2,c2,a3,c3,RdC.mono hH h1,h2.imp fun b o x hx=>RdE_mono hH hke b o x hx,h3.imp fun b o x hx=>RdS_mono hH hke (by omega) b o x hx,h4.imp fun b o x hx=>RdS_mono hH hke (by omega) b o x hx⟩
theorem RdP_mono {H H':View} (hH:VLe H H') {ke ke' ks ks':Nat} (hke:ke≤ke') (hks:ks≤ks') (b o:Nat) (p:TProc) (h:RdP ke ks H b o p):RdP ke' ks' H' b o p:=by
 obtain ⟨a1,c1,a2,c2,a3,c3,h1,h2,h3,h4⟩:=h
 exact ⟨a1,c1,a2,c2,a3,c3,RdC.mono hH h1,h2.imp fun b o x hx=>rdStr_mono hH b o x hx,h3.imp fun b o x hx=>rdStr_mono hH b o x hx,h4.imp fun b o x hx=>RdS_mono hH hke hks b o x hx⟩
mutual
def wE:TExpr→Nat
 | .mk _ _ mod nm args=>1+mod.length+nm.length+wEs args
def wEs:List TExpr→Nat
 | []=>0
 | x::r=>wE x+wEs r
end
mutual
def wS:TStmt→Nat
 | .mk _ mod nm args body other=>1+mod.length+nm.length+wEs args+wSs body+wSs other
def wSs:List TStmt→Nat
 | []=>0
 | x::r=>wS x+wSs r
end
def wN:List (List UInt8)→Nat
 | []=>0
 | s::r=>1+s.length+wN r
def wD:List TDecl→Nat
 | []=>0
 | d::r=>1+d.nm.length+wD r
def wP:List TProc→Nat
 | []=>0
 | p::r=>1+p.nm.length+wN p.params+wN p.locs+wSs p.body+wP r
def wM (m:TMod):Nat:=1+m.nm.length+wN m.uses+wD m.decls+wP m.procs+wSs m.main
theorem wE_pos:∀x:TExpr,1≤wE x | .mk _ _ _ _ _=>by unfold wE; omega
theorem wS_pos:∀x:TStmt,1≤wS x | .mk _ _ _ _ _ _=>by unfold wS; omega
theorem wE_eq (x:TExpr):wE x=1+x.mod.length+x.nm.length+wEs x.args:=by cases x; rfl
theorem wS_eq (x:TStmt):wS x=1+x.mod.length+x.nm.length+wEs x.args+wSs x.body+wSs x.other:=by cases x; rfl
theorem wEs_mem {i:Nat} {x:TExpr}:∀{l:List TExpr},l[i]? = some x→wE x≤wEs l
 | [],h=>by simp at h
 | y::r,h=>by
   unfold wEs
   cases i with
   | zero=>simp at h; subst h; omega
   | succ i=>have:=wEs_mem (i:=i) (l:=r) (by simpa using h); omega
theorem wSs_mem {i:Nat} {x:TStmt}:∀{l:List TStmt},l[i]? = some x→wS x≤wSs l
 | [],h=>by simp at h
 | y::r,h=>by
   unfold wSs
   cases i with
   | zero=>simp at h; subst h; omega
   | succ i=>have:=wSs_mem (i:=i) (l:=r) (by simpa using h); omega
theorem wEs_len:∀l:List TExpr,l.length≤wEs l
 | []=>Nat.le_refl _
 | x::r=>by have:=wEs_len r; have:=wE_pos x; unfold wEs; simp; omega
theorem wSs_len:∀l:List TStmt,l.length≤wSs l
 | []=>Nat.le_refl _
 | x::r=>by have:=wSs_len r; have:=wS_pos x; unfold wSs; simp; omega
theorem wN_len:∀l:List (List UInt8),l.length≤wN l
 | []=>Nat.le_refl _
 | x::r=>by have:=wN_len r; unfold wN; simp; omega
theorem noteF_tot (b:Bool):(noteF b).tot≤1:=by cases b<;>decide
theorem noteM_tot (b:Bool):(noteM b).tot≤1:=by cases b<;>decide
theorem noteK_tot (b:Bool):(noteK b).tot≤1:=by cases b<;>decide
theorem shapeC_tot (s:Bool×Int) (mod nm:List UInt8) (len:Nat):(shapeC s mod nm len).tot≤3:=by
 unfold shapeC
 rw [Cnt.tot_add,Cnt.tot_add]
 have:=noteF_tot (badName s.1 mod nm); have:=noteF_tot (badArgs s.2 len); have:=noteM_tot (decide (3<len))
 omega
theorem c0_tot:c0.tot=0:=rfl
mutual
theorem cntE_le:∀(x:TExpr) (d:Nat),(cntE x d).tot≤8*wE x
 | .mk op n mod nm args,d=>by
   unfold cntE wE
   split
   · show 0+1+0≤_
     omega
   · rw [Cnt.tot_add,Cnt.tot_add,Cnt.tot_add]
     have:=cntEs_le args (d+1); have:=noteK_tot (shE op).isNone; have:=shapeC_tot ((shE op).getD (false,0)) mod nm args.length; have:=noteF_tot (numBad op n)
     omega
theorem cntEs_le:∀(l:List TExpr) (d:Nat),(cntEs l d).tot≤8*wEs l
 | [],_=>Nat.le_refl _
 | x::r,d=>by
   have:=cntE_le x d; have:=cntEs_le r d
   unfold cntEs wEs
   rw [Cnt.tot_add]
   omega
end
theorem blkC_le (d len:Nat) (c:Cnt):(blkC d len c).tot≤1+c.tot:=by
 unfold blkC
 split
 · show 0+1+0≤_
   omega
 · rw [Cnt.tot_add]
   have:=noteM_tot (decide (10<len))
   omega
theorem if_tot (b:Prop) [Decidable b] (c:Cnt):(if b then c else c0).tot≤c.tot:=by
 split
 · exact Nat.le_refl _
 · exact Nat.zero_le _
mutual
theorem cntS_le:∀(x:TStmt) (d:Nat),(cntS x d).tot≤8*wS x
 | .mk op mod nm args body other,d=>by
   unfold cntS wS
   rw [Cnt.tot_add,Cnt.tot_add,Cnt.tot_add,Cnt.tot_add,Cnt.tot_add]
   have h1:=cntEs_le args 1; have h2:=noteK_tot (shS op).isNone; have h3:=shapeC_tot ((shS op).getD (false,0)) mod nm args.length; have h4:=noteF_tot (bodyBad op body.length other.length)
   have h5:=if_tot ((inner op||decide (0<body.length))=true) (blkC (d+1) body.length (cntSs body (d+1)))
   have h6:=if_tot (0<other.length) (blkC (d+1) other.length (cntSs other (d+1)))
   have h7:=blkC_le (d+1) body.length (cntSs body (d+1)); have h8:=blkC_le (d+1) other.length (cntSs other (d+1))
   have h9:=cntSs_le body (d+1); have h10:=cntSs_le other (d+1)
   omega
theorem cntSs_le:∀(l:List TStmt) (d:Nat),(cntSs l d).tot≤8*wSs l
 | [],_=>Nat.le_refl _
 | x::r,d=>by
   have:=cntS_le x d; have:=cntSs_le r d
   unfold cntSs wSs
   rw [Cnt.tot_add]
   omega
end
theorem cntN_le:∀l:List (List UInt8),(cntN l).tot≤wN l
 | []=>Nat.le_refl _
 | s::r=>by
   have:=cntN_le r; have:=noteF_tot (!nameT s)
   unfold cntN wN
   rw [Cnt.tot_add]
   omega
theorem declC_tot (d:TDecl):(declC d).tot≤2:=by
 unfold declC cntN cntN
 rw [Cnt.tot_add,Cnt.tot_add,c0_tot]
 have:=noteF_tot (!nameT d.nm)
 split
 · have:=noteF_tot (decide (d.n<0)||decide (1099511627775<d.n)); omega
 · split
   · have:=noteF_tot (!(d.n==0)); omega
   · split
     · have:=noteF_tot (decide (d.n<1)||decide (32<d.n)); omega
     · have:=noteK_tot true; omega
theorem declsC_le:∀l:List TDecl,(declsC l).tot≤8*wD l
 | []=>Nat.le_refl _
 | d::r=>by
   have:=declsC_le r; have:=declC_tot d
   unfold declsC wD
   rw [Cnt.tot_add]
   omega
theorem cntB_le (l:List TStmt) (d:Nat):(cntB l d).tot≤1+8*wSs l:=by
 unfold cntB
 have:=blkC_le d l.length (cntSs l d); have:=cntSs_le l d
 omega
theorem cntN1_le (s:List UInt8):(cntN [s]).tot≤1:=by
 unfold cntN cntN
 rw [Cnt.tot_add,c0_tot]
 have:=noteF_tot (!nameT s)
 omega
theorem procC_le (p:TProc):(procC p).tot≤3+wN p.params+wN p.locs+8*wSs p.body:=by
 unfold procC
 rw [Cnt.tot_add,Cnt.tot_add,Cnt.tot_add,Cnt.tot_add]
 have:=cntN1_le p.nm; have:=cntN_le p.params; have:=cntN_le p.locs; have:=noteM_tot (decide (3<p.params.length)||decide (4<p.locs.length)); have:=cntB_le p.body 1
 omega
theorem procsC_le:∀l:List TProc,(procsC l).tot≤8*wP l
 | []=>Nat.le_refl _
 | p::r=>by
   have:=procsC_le r; have:=procC_le p
   unfold procsC wP
   rw [Cnt.tot_add]
   omega
end Go.Bw
end
section
namespace Go.Bw
open Go Go.RowKit
theorem sl_blk {α:Type} {rd:View→Nat→Nat→α→Prop} {f:α→List Value} {k:Nat} {H:View} {b m:Nat} {T:TypeId} {fz:Nat×Nat} {xs:List α} (hH:H b=some (.cells (xs.flatMap f).toArray T fz)) (hf:∀x,(f x).length=k) (hrd:∀H b o x,RdC H b o (f x)→rd H b o x) (hn:xs.length≤m) (hm:m≤9223372036854775807):Sl rd k H (some ⟨b,0,none⟩) m xs:=by
 refine ⟨hn,hm,by simp,fun i x hx=>⟨b,0,O,hrd _ _ _ _ fun j v hv=>?_⟩⟩
 have hj:j<k:=by rw [←hf x]; exact (List.getElem?_eq_some_iff.1 hv).1
 have h1:vc H b (0+i*k+j)=cellIn (.cells (xs.flatMap f).toArray T fz) (0+i*k+j):=by unfold vc; rw [hH]; rfl
 rw [h1]
 simp only [cellIn,Nat.zero_add]
 rw [flat_get hf hx hj]
 exact hv
section
variable {P:Program} {ops:Array Oper} {Q:Exit→Act→World→Prop} {n:Nat} {ds:List Deferred} {l:List (Nat×Value)} {w0:World} {F:List Nat} {L:List Asr} {Vs:List View} {rest:List Oper}
theorem Lsv {T:TypeId} {m b:Nat} {cur:Array Value} {fz:Nat×Nat} (i:Nat) (xs:List (List UInt8)) (hL:L[i]? = some (blk b (.cells cur T fz))) (hc:cur=(xs.flatMap strC).toArray) (hn:xs.length≤m) (hm:m≤9223372036854775807)
   (h:∀H,Sl rdStr 1 H (some ⟨b,0,none⟩) m xs→WL P ops Q n ds l (Ws w0 F (outOf i L) (H::Vs)) rest):WL P ops Q n ds l (Ws w0 F L Vs) rest:=by
 subst hc
 have hb:bv b (.cells (xs.flatMap strC).toArray T fz) b=some (.cells (xs.flatMap strC).toArray T fz):=by simp [bv]
 exact WL.blkview i hL (h _ (sl_blk (f:=strC) hb strC_len (fun _ _ _ _ h=>h) hn hm))
end
end Go.Bw
end
section
namespace Go.Bw
open Go Go.RowKit
section
variable {P:Program} {l:List (Nat×Value)} {W:World→Prop} {d:Option Tmp} {ty:TypeId} {pos:String} {af:Array Edge} {g:Option (Nat×Bool)}
theorem yl_builda {t:TypeId} {parts:List (Nat×Operand)} {vs:List (Nat×Value)} {z:Value} {n s:Nat} {out:List Value} (hz:zeroOf P t=some z) (hp:arrP P t=some (n,s))
   (hv:evp l parts=some vs) (hf:fillL (fun i=>some (i*s,s)) (vcells z) vs=some out):Yl P l W ⟨d,.build t parts.toArray,ty,pos,af,g⟩ (.agg out.toArray):=by
 intro ρ w hρ _
 have e1:((parts.toArray.map fun (i,x)=>(i,ρ x)):Array (Nat×Value)).toList=vs:=by simpa using evp_map hρ parts vs hv
 unfold arrP at hp
 cases hu:P.underlying t with
 | none=>simp [hu] at hp
 | some dd=>
   cases dd<;>simp [hu] at hp
   rename_i m e
   obtain ⟨inf,hi,h2,h3⟩:=hp
   subst h2 h3
   have e4:Instr.fill (fun i=>some (i*inf.size,inf.size)) z.cells vs=some out.toArray:=by
     refine fill_of _ vs z.cells out ?_
     rw [vcells_eq]
     simpa using hf
   simp only [execOp,Instr.build,Sem.run_bind,run_zero hz,Result.andThen_ok,run_underlying hu,e1,e4,sizeOf,typeInfo,hi,Sem.run_pure]
   simp [hi,e4]
end
section
variable {P:Program} {ops:Array Oper} {Q:Exit→Act→World→Prop} {n:Nat} {ds:List Deferred} {l:List (Nat×Value)} {w0:World} {F:List Nat} {L:List Asr} {Vs:List View}
 {rest:List Oper} {d:Nat} {ty:TypeId} {pos:String} {af:Array Edge} {g:Option (Nat×Bool)}
theorem Lwy {ι κ:Type} {f:FuncId} {args:Array Operand} {ts:Array TypeId} {vs:List Value} (L1 L2:List Asr) (hg:GOk ops l g) (hn:Nat.blt d n=true) (hf:Enters P f) (ha:evs l args.toList=some vs) (hL:L=L1++L2)
   (v:ι→Value) (L1':ι→List Asr) (R:View→ι→Prop) (ch:κ→List PanicEntry) (Lp:κ→List Asr) (Rp:κ→Prop) (Vs':List View) (hV:∀H ∈ Vs',H ∈ Vs)
   (hids:∀i,∀k ∈ (L1' i).flatMap Asr.ids,k ∈ L1.flatMap Asr.ids)
   (hC:∀w,Ws w (L1.flatMap Asr.ids) L1 Vs' w→Calls P f vs.toArray w fun e w'=>(∃i,e = .returned (v i)∧R (nv w w') i∧Ws w (L1.flatMap Asr.ids) (L1' i) Vs' w')∨(∃j,e = .panicked (ch j)∧Rp j∧Ws w (L1.flatMap Asr.ids) (Lp j) Vs' w'))
   (hp:∀j,Rp j→WE Q (.panic (ch j)) n ds l (Ws w0 F (Lp j++L2) Vs))
   (hr:∀H i,Fresh w0 H→R H i→WL P ops Q n ds ((d,v i)::l) (Ws w0 F (L1' i++L2) (H::Vs)) rest) :
   WL P ops Q n ds l (Ws w0 F L Vs) (⟨some d,.call ⟨.value (.func f),args,ts⟩,ty,pos,af,g⟩::rest):=by
 subst hL
 refine WL.callx (ι:=View×ι) hg hn hf ha (fun i=>v i.2) (fun i w'=>(Fresh w0 i.1∧R i.1 i.2)∧Ws w0 F (L1' i.2++L2) (i.1::Vs) w') (fun c w'=>∃j,c=ch j∧Rp j∧Ws w0 F (Lp j++L2) Vs w') (fun w hw=>(hC w (hw.self.drops hV)).mono fun e w' he=>?_) (fun i=>?_) (fun c=>?_)
 · rcases he with ⟨i,rfl,hR,h⟩ | ⟨j,rfl,hR,h⟩
   · have hb:=hw.back h
     refine .inl ⟨(nv w w',i),O,⟨(nv_fresh w w').mono hw.fr.size,hR⟩,hb.fr,hb.kn,hb.nd,hb.own,fun H hH=>?_,fun H hH A hA k hk=>?_⟩
     · rcases List.mem_cons.1 hH with rfl | hH
       · exact nv_le w w'
       · exact hb.vs H hH
     · rcases List.mem_cons.1 hH with rfl | hH
       · have hlt:k<w.heap.size:=by
           rcases List.mem_append.1 hA with hA | hA
           · have hk1:=hids i k (List.mem_flatMap.2 ⟨A,hA,hk⟩)
             obtain ⟨B,hB,hkB⟩:=List.mem_flatMap.1 hk1
             exact B.pres w (hw.kn B (by simp [hB])) k hkB
           · exact A.pres w (hw.kn A (by simp [hA])) k hk
         exact nv_fresh w w' k hlt
       · exact hb.off H hH A hA k hk
   · exact .inr ⟨_,O,j,O,hR,hw.back h⟩
 · intro a w ha' hw'
   exact hr i.1 i.2 hw'.1.1 hw'.1.2 a w ha' hw'.2
 · rintro a w ha' ⟨j,rfl,hR,hw'⟩
   exact hp j hR a w ha' hw'
end
end Go.Bw
end
section
namespace Go.Bw
open Go Go.RowKit
def rv (A:Asr) (w:World):View:=fun b=>if b ∈ A.ids then w.heap[b]? else none
section
variable {w0 w:World} {F:List Nat} {L:List Asr} {Vs:List View} {A:Asr}
theorem rv_le (A:Asr) (w:World):Le (rv A w) w:=fun b o h=>by
 unfold rv at h
 split at h
 · exact h
 · cases h
theorem Ws.asview (h:Ws w0 F L Vs w) (i:Nat) (hL:L[i]? = some A):Ws w0 F (outOf i L) (rv A w::Vs) w:=by
 have h1:=h.perm (outOf_perm i L hL)
 have h2:Ws w0 F (outOf i L) Vs w:=Ws.drop (L:=[A]) h1
 refine ⟨h2.fr,h2.kn,h2.nd,h2.own,fun H hH=>?_,fun H hH B hB k hk=>?_⟩
 · rcases List.mem_cons.1 hH with rfl | hH
   · exact rv_le A w
   · exact h2.vs H hH
 · rcases List.mem_cons.1 hH with rfl | hH
   · have nd:=h1.nd
     rw [List.flatMap_cons,List.nodup_append] at nd
     unfold rv
     rw [if_neg]
     intro hk2
     exact nd.2.2 k hk2 k (List.mem_flatMap.2 ⟨B,hB,hk⟩) O
   · exact h2.off H hH B hB k hk
theorem sl_rv {α:Type} {rd:View→Nat→Nat→α→Prop} {f:α→List Value} {k e c:Nat} {a:Option Addr} {xs:List α} (h:(osT e k f a c xs).holds w)
   (hf:∀x,(f x).length=k) (hrd:∀H b o x,RdC H b o (f x)→rd H b o x):Sl rd k (rv (osT e k f a c xs) w) a c xs:=by
 obtain ⟨h1,h2⟩:=(h:w.ownsRow 0 e k _ xs.length (xs.flatMap f))
 rcases h2 with ⟨h3,h4⟩ | ⟨b,cap,cur,h5,_,hb,hmc,hc,hs,ht⟩
 · injection h3 with ha hl hc
   subst ha hc
   have:xs=[]:=List.eq_nil_of_length_eq_zero (by omega)
   subst this
   exact Sl.nil
 · injection h5 with ha hl hc'
   subst ha hc'
   refine ⟨hmc,by unfold maxLen at hc; omega,by simp,fun i x hx=>⟨b,0,O,hrd _ _ _ _ fun j v hv=>?_⟩⟩
   have hj:j<k:=by have:=(List.getElem?_eq_some_iff.1 hv).1; rw [hf] at this; exact this
   have h6:(xs.flatMap f)[i*k+j]? = some v:=by rw [flat_get hf hx hj]; exact hv
   rw [←ht,List.getElem?_take] at h6
   split at h6
   · have hr:rv (osT e k f (some ⟨b,0,none⟩) c xs) w b=some (.cells cur e (0,0)):=by
       unfold rv
       rw [if_pos (by simp [osl,Value.ownBlock])]
       exact hb
     have h7:vc (rv (osT e k f (some ⟨b,0,none⟩) c xs) w) b (0+i*k+j)=cellIn (.cells cur e (0,0)) (0+i*k+j):=by unfold vc; rw [hr]; rfl
     rw [h7]
     simpa [cellIn] using h6
   · cases h6
end
section
variable {P:Program} {ops:Array Oper} {cd:Code} {Q:Exit→Act→World→Prop} {n:Nat} {ds:List Deferred} {l:List (Nat×Value)} {w0:World} {F:List Nat} {L:List Asr} {Vs:List View} {rest:List Oper}
theorem WC.oslview {α:Type} {rd:View→Nat→Nat→α→Prop} {f:α→List Value} {k e c:Nat} {a:Option Addr} {xs:List α} (i:Nat) (hL:L[i]? = some (osT e k f a c xs))
   (hf:∀x,(f x).length=k) (hrd:∀H b o x,RdC H b o (f x)→rd H b o x) (h:∀H,Sl rd k H a c xs→WC P cd Q n ds l (Ws w0 F (outOf i L) (H::Vs))):WC P cd Q n ds l (Ws w0 F L Vs):=
 fun ac w ha hw=>h _ (sl_rv (hw.kn _ (mem_of_idx hL)) hf hrd) ac w ha (hw.asview i hL)
theorem Crb {b:Nat} {ob:Obj} (i:Nat) (ob':Obj) (hL:L[i]? = some (blk b ob)) (he:ob=ob') (h:WC P cd Q n ds l (Ws w0 F (L.set i (blk b ob')) Vs)):WC P cd Q n ds l (Ws w0 F L Vs):=
 WC.reL i hL (by rw [he]) h
theorem WL.oslview {α:Type} {rd:View→Nat→Nat→α→Prop} {f:α→List Value} {k e c:Nat} {a:Option Addr} {xs:List α} (i:Nat) (hL:L[i]? = some (osT e k f a c xs))
   (hf:∀x,(f x).length=k) (hrd:∀H b o x,RdC H b o (f x)→rd H b o x) (h:∀H,Sl rd k H a c xs→WL P ops Q n ds l (Ws w0 F (outOf i L) (H::Vs)) rest):WL P ops Q n ds l (Ws w0 F L Vs) rest:=
 fun ac w ha hw=>h _ (sl_rv (hw.kn _ (mem_of_idx hL)) hf hrd) ac w ha (hw.asview i hL)
theorem WL.blksl {α:Type} {rd:View→Nat→Nat→α→Prop} {f:α→List Value} {k T b m:Nat} {fz:Nat×Nat} {cur:Array Value} (i:Nat) (xs:List α) (hL:L[i]? = some (blk b (.cells cur T fz))) (hc:cur=(xs.flatMap f).toArray)
   (hf:∀x,(f x).length=k) (hrd:∀H b o x,RdC H b o (f x)→rd H b o x) (hn:xs.length≤m) (hm:m≤9223372036854775807)
   (h:∀H,Sl rd k H (some ⟨b,0,none⟩) m xs→WL P ops Q n ds l (Ws w0 F (outOf i L) (H::Vs)) rest):WL P ops Q n ds l (Ws w0 F L Vs) rest:=by
 subst hc
 have hb:bv b (.cells (xs.flatMap f).toArray T fz) b=some (.cells (xs.flatMap f).toArray T fz):=by simp [bv]
 exact WL.blkview i hL (h _ (sl_blk (f:=f) hb hf hrd hn hm))
end
def fld1 (P:Program) (t:TypeId) (f:Nat):Option Nat:=match P.underlying t with
 | some (.struct fs)=>match fs[f]? with
   | some x=>if nonAgg P x.type=true then some x.offset else none
   | none=>none
 | _=>none
section
variable {P:Program} {l:List (Nat×Value)} {W:World→Prop} {d:Option Tmp} {ty:TypeId} {pos:String} {af:Array Edge} {g:Option (Nat×Bool)}
theorem yl_field {t:TypeId} {x:Operand} {f k:Nat} {cs:Array Value} {v:Value} (hf:fld1 P t f=some k) (hx:opv l x=some (.agg cs)) (hv:cs[k]? = some v):Yl P l W ⟨d,.field t x f,ty,pos,af,g⟩ v:=by
 intro ρ w hρ _
 unfold fld1 at hf
 cases hu:P.underlying t with
 | none=>simp [hu] at hf
 | some dd=>
   cases dd<;>simp [hu] at hf
   rename_i fs
   cases hfs:fs[f]? with
   | none=>simp [hfs] at hf
   | some fd=>
     simp [hfs] at hf
     obtain ⟨h1,rfl⟩:=hf
     have ha:=run_isAgg_non h1 w
     have hp:(part fd.type cs fd.offset).run P w = .ok v w:=by simp [part,ha,hv]
     simp [execOp,hρ x _ hx,Instr.field,run_underlying hu,hfs,asAgg,hp]
end
end Go.Bw
end
