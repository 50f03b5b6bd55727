/- Each module stands behind all that it needs, and the order does not hang on how the modules were told, where what is handed in has a bulk of at most 1048576 (the second form). -/
import Derived.Below
import Derived.Carry
import Derived.ChangeOld
import Derived.Deep.Quiet
import Derived.Deep.Slices
import Derived.Deep.Upon
import Derived.Defers
import Derived.JoinedCond
import Derived.LaidEql
import Derived.Laws.BytesString
import Derived.Laws.DeepStrings4
import Derived.Laws.Externs
import Derived.Laws.Pointers
import Derived.Lib.AppendStr
import Derived.Lib.AppendZeros
import Derived.Lib.AtoiAllCases
import Derived.Lib.AtoiTie
import Derived.Lib.Builder
import Derived.Lib.Bytealg
import Derived.Lib.ItoaNum
import Derived.Lib.Join
import Derived.Lib.LaidTab
import Derived.Lib.SmallJoins
import Derived.Lib.UnsafeStr
import Derived.MapKept
import Derived.Maps.Own
import Derived.Maps.Range
import Derived.OpenShut
import Derived.ProofKit
import Derived.Recover
import Derived.Sort.Grow
import Derived.Sort.KeysCollected
import Derived.WalkKit
import Derived.WalkSpells
import Derived.WideMake
set_option linter.unusedVariables false
set_option linter.unusedSimpArgs false
section
namespace Go.Bw
open Go Go.RowKit
def lk:List (Nat×Value)→Nat→Option Value
 | [],_=>none
 | (k,v)::r,n=>bif Nat.beq k n then some v else lk r n
structure Ag (n:Nat) (ds:List Deferred) (l:List (Nat×Value)) (a:Act):Prop where
 size:a.tmps.size=n
 defs:a.defers=ds
 vals:∀t v,lk l t=some v→a.tmps.getD t undef=v
def opv (l:List (Nat×Value)):Operand→Option Value
 | .tmp t=>lk l t
 | .const v=>some v
 | .global g=>some (.pointer (some ⟨g,0,none⟩))
 | .func f=>some (.func (.func f) #[] #[])
section
variable {n:Nat} {ds:List Deferred} {l:List (Nat×Value)} {a:Act}
theorem Ag.eval (h:Ag n ds l a) {x:Operand} {v:Value} (hx:opv l x=some v):a.eval x=v:=by
 cases x with
 | tmp t=>exact h.vals t v hx
 | const u=>simpa [opv,Act.eval] using hx
 | global g=>simpa [opv,Act.eval] using hx
 | func f=>simpa [opv,Act.eval] using hx
theorem Ag.put (h:Ag n ds l a) {d:Nat} (hd:Nat.blt d n=true) (v:Value):Ag n ds ((d,v)::l) (a.put (some d) v):=by
 have hd':d<a.tmps.size:=by rw [h.size]; exact Nat.le_of_ble_eq_true hd
 refine ⟨by simp [Act.put,h.size],h.defs,fun t u hu=>?_⟩
 simp only [lk] at hu
 by_cases e:d=t
 · subst e
   simp at hu
   subst hu
   simp [Act.put,Array.getD,hd']
 · have:Nat.beq d t=false:=by
     cases hb:Nat.beq d t with
     | false=>rfl
     | true=>exact absurd (Nat.eq_of_beq_eq_true hb) e
   rw [this] at hu
   have:=h.vals t u hu
   simp only [Act.put,Array.getD_eq_getD_getElem?] at *
   rw [Array.getElem?_setIfInBounds_ne e]
   exact this
theorem Ag.put_none (h:Ag n ds l a) (v:Value):Ag n ds l (a.put none v):=h
theorem Ag.sub (h:Ag n ds l a) {l':List (Nat×Value)} (hs:∀p ∈ l',lk l p.1=some p.2):Ag n ds l' a:=by
 refine ⟨h.size,h.defs,fun t v hv=>?_⟩
 suffices hm:(t,v) ∈ l' from h.vals t v (hs _ hm)
 induction l' with
 | nil=>cases hv
 | cons p r ih=>
   obtain ⟨k,u⟩:=p
   simp only [lk] at hv
   cases hb:Nat.beq k t with
   | true=>
     rw [hb] at hv
     have:=Nat.eq_of_beq_eq_true hb
     subst this
     simp at hv
     subst hv
     exact List.mem_cons_self
   | false=>
     rw [hb] at hv
     exact List.mem_cons_of_mem _ (ih (fun p hp=>hs p (List.mem_cons_of_mem _ hp)) hv)
end
section
variable {P:Program} {ops:Array Oper} {Q:Exit→Act→World→Prop} {n:Nat} {ds:List Deferred} {l:List (Nat×Value)} {W:World→Prop}
def WL (P:Program) (ops:Array Oper) (Q:Exit→Act→World→Prop) (n:Nat) (ds:List Deferred) (l:List (Nat×Value)) (W:World→Prop) (rest:List Oper):Prop:=
 ∀a w,Ag n ds l a→W w→wpList P ops Q rest a w
def WC (P:Program) (c:Code) (Q:Exit→Act→World→Prop) (n:Nat) (ds:List Deferred) (l:List (Nat×Value)) (W:World→Prop):Prop:=
 ∀a w,Ag n ds l a→W w→c.wp P Q a w
def WE (Q:Exit→Act→World→Prop) (e:Exit) (n:Nat) (ds:List Deferred) (l:List (Nat×Value)) (W:World→Prop):Prop:=
 ∀a w,Ag n ds l a→W w→Q e a w
def Yl (P:Program) (l:List (Nat×Value)) (W:World→Prop) (o:Oper) (v:Value):Prop:=
 ∀(ρ:Operand→Value) (w:World),(∀x u,opv l x=some u→ρ x=u)→W w→(execOp ρ o).run P w = .ok (.value v) w
theorem Ln (h:WE Q .normal n ds l W):WL P ops Q n ds l W []:=fun a w ha hw=>h a w ha hw
def GOk (ops:Array Oper) (l:List (Nat×Value)) (g:Option (Nat×Bool)):Prop:=
 g=none∨∃j b dj,g=some (j,b)∧(ops[j]?).bind (·.dst)=some dj∧lk l dj=some (.bool b)
theorem GOk.wanted {o:Oper} {a:Act} (h:GOk ops l o.guard) (ha:Ag n ds l a):Region.wanted o (yielded ops a.tmps)=true:=by
 rcases h with h | ⟨j,b,dj,hg,hj,hl⟩
 · simp [Region.wanted,h]
 · have hv:=ha.vals dj _ hl
   rw [Array.getD_eq_getD_getElem?] at hv
   cases ht:a.tmps[dj]? with
   | none=>simp [ht,undef] at hv
   | some u=>
     simp [ht] at hv
     subst hv
     simp [Region.wanted,hg,yielded,hj,ht]
theorem WL.step {rest:List Oper} {o:Oper} (hg:GOk ops l o.guard)
   (h:∀a w,Ag n ds l a→W w→∀K:Act→World→Prop,(∀a w,wpList P ops Q rest a w→K a w)→o.wp P a w K Q):WL P ops Q n ds l W (o::rest):=by
 intro a w ha hw
 refine wpList_step fun K hK=>?_
 rw [if_pos (hg.wanted ha)]
 exact h a w ha hw K hK
theorem Lv {rest:List Oper} {d:Nat} {op:Op} {ty:TypeId} {pos:String} {af:Array Edge} {v:Value} {g:Option (Nat×Bool)} (hg:GOk ops l g) (hn:Nat.blt d n=true)
   (hy:Yl P l W ⟨some d,op,ty,pos,af,g⟩ v) (h:WL P ops Q n ds ((d,v)::l) W rest):WL P ops Q n ds l W (⟨some d,op,ty,pos,af,g⟩::rest):=by
 refine WL.step hg fun a w ha hw K hK=>?_
 have:=hy a.eval w (fun x u hx=>ha.eval hx) hw
 simp only [Oper.wp,this,Oper.upon_value]
 exact hK _ _ (h _ _ (ha.put hn v) hw)
theorem V0 {rest:List Oper} {d:Nat} {op:Op} {ty:TypeId} {pos:String} {af:Array Edge} {v:Value} (hy:Yl P l W ⟨some d,op,ty,pos,af,none⟩ v) (h:WL P ops Q n ds ((d,v)::l) W rest) (hn:Nat.blt d n=true:=by rfl):WL P ops Q n ds l W (⟨some d,op,ty,pos,af,none⟩::rest):=Lv (.inl rfl) hn hy h
theorem GOk.g {j:Nat} {b:Bool} {dj:Nat} {g:Option (Nat×Bool)} (h1:g=some (j,b)) (h2:(ops[j]?).bind (·.dst)=some dj) (h3:lk l dj=some (.bool b)):GOk ops l g:=.inr ⟨j,b,dj,h1,h2,h3⟩
theorem WL.skip {rest:List Oper} {d:Nat} {op:Op} {ty:TypeId} {pos:String} {af:Array Edge} {j:Nat} {b:Bool} {oj:Oper} {dj:Nat} (hn:Nat.blt d n=true)
   (hj:ops[j]? = some oj) (hdj:oj.dst=some dj) (hnj:Nat.blt dj n=true) (hb:lk l dj=some (.bool (!b)))
   (h:WL P ops Q n ds ((d,undef)::l) W rest):WL P ops Q n ds l W (⟨some d,op,ty,pos,af,some (j,b)⟩::rest):=by
 intro a w ha hw
 refine wpList_step fun K hK=>?_
 have hv:a.tmps.getD dj undef = .bool (!b):=ha.vals dj _ hb
 have hlt:dj<a.tmps.size:=by rw [ha.size]; exact Nat.le_of_ble_eq_true hnj
 have hget:a.tmps[dj]? = some (.bool (!b)):=by
   rw [Array.getD_eq_getD_getElem?,Array.getElem?_eq_getElem hlt] at hv
   rw [Array.getElem?_eq_getElem hlt]
   simpa using hv
 have hyd:yielded ops a.tmps j=some (!b):=by simp [yielded,hj,hdj,hget]
 rw [if_neg (by simp [Region.wanted,hyd])]
 exact hK _ _ (h _ _ (ha.put hn undef) hw)
theorem WL.sub {rest:List Oper} (l':List (Nat×Value)) (hs:∀p ∈ l',lk l p.1=some p.2) (h:WL P ops Q n ds l' W rest):WL P ops Q n ds l W rest:=
 fun a w ha hw=>h a w (ha.sub hs) hw
theorem WC.sub {c:Code} (l':List (Nat×Value)) (hs:∀p ∈ l',lk l p.1=some p.2) (h:WC P c Q n ds l' W):WC P c Q n ds l W:=
 fun a w ha hw=>h a w (ha.sub hs) hw
theorem WE.sub {e:Exit} (l':List (Nat×Value)) (hs:∀p ∈ l',lk l p.1=some p.2) (h:WE Q e n ds l' W):WE Q e n ds l W:=
 fun a w ha hw=>h a w (ha.sub hs) hw
theorem LW {rest:List Oper} {W':World→Prop} (hW:∀w,W w→W' w) (h:WL P ops Q n ds l W' rest):WL P ops Q n ds l W rest:=
 fun a w ha hw=>h a w ha (hW w hw)
theorem CWd {c:Code} {W':World→Prop} (hW:∀w,W w→W' w) (h:WC P c Q n ds l W'):WC P c Q n ds l W:=
 fun a w ha hw=>h a w ha (hW w hw)
theorem WE.world {e:Exit} {W':World→Prop} (hW:∀w,W w→W' w) (h:WE Q e n ds l W'):WE Q e n ds l W:=
 fun a w ha hw=>h a w ha (hW w hw)
theorem sn {l:List (Nat×Value)}:∀p ∈ ([]:List (Nat×Value)),lk l p.1=some p.2:=by simp
theorem sc {l r:List (Nat×Value)} {k:Nat} {v:Value} (h:lk l k=some v) (hr:∀p ∈ r,lk l p.1=some p.2):∀p ∈ (k,v)::r,lk l p.1=some p.2:=by
 intro p hp
 rcases List.mem_cons.1 hp with rfl | hp
 · exact h
 · exact hr p hp
theorem Cs {x y:Code} (h:WC P x (Exit.then (y.wp P Q) Q) n ds l W):WC P (.seq x y) Q n ds l W:=fun a w ha hw=>wp_seq (h a w ha hw)
theorem Ck (h:WE Q .normal n ds l W):WC P .skip Q n ds l W:=fun a w ha hw=>wp_skip (h a w ha hw)
theorem Crt (h:WE Q .ret n ds l W):WC P .ret Q n ds l W:=fun a w ha hw=>wp_ret (h a w ha hw)
theorem Ce {id:Nat} (h:WE Q (.exit id) n ds l W):WC P (.exit id) Q n ds l W:=fun a w ha hw=>wp_exit (h a w ha hw)
theorem Cb {id:Nat} {c:Code} (h:WC P c (Exit.inBlock id Q) n ds l W):WC P (.block id c) Q n ds l W:=fun a w ha hw=>wp_block (h a w ha hw)
theorem Cr {id:Nat} {o:List Oper} (h:WL P o.toArray Q n ds l W o):WC P (.region id o.toArray false) Q n ds l W:=fun a w ha hw=>wp_region_lit (h a w ha hw)
theorem Cc {c:Operand} {x y:Code} {t:Bool} (hc:opv l c=some (.bool t)) (ht:t=true→WC P x Q n ds l W) (hf:t=false→WC P y Q n ds l W):WC P (.cond c x y) Q n ds l W:=
 fun a w ha hw=>wp_cond_split (ha.eval hc) (fun h=>ht h a w ha hw) (fun h=>hf h a w ha hw)
theorem WC.condf {c:Operand} {x y:Code} (hc:opv l c=some (.bool false)) (h:WC P y Q n ds l W):WC P (.cond c x y) Q n ds l W:=
 fun a w ha hw=>wp_cond_false (ha.eval hc) (h a w ha hw)
theorem Et {y:Code} {Q':Exit→Act→World→Prop} (h:WC P y Q n ds l W):WE (Exit.then (y.wp P Q) Q') .normal n ds l W:=fun a w ha hw=>h a w ha hw
theorem Er {K:Act→World→Prop} (h:WE Q .ret n ds l W):WE (Exit.then K Q) .ret n ds l W:=h
theorem Ex {K:Act→World→Prop} {id:Nat} (h:WE Q (.exit id) n ds l W):WE (Exit.then K Q) (.exit id) n ds l W:=h
theorem Eb {id:Nat} (h:WE Q .normal n ds l W):WE (Exit.inBlock id Q) .normal n ds l W:=h
theorem Ebr {id:Nat} (h:WE Q .ret n ds l W):WE (Exit.inBlock id Q) .ret n ds l W:=h
theorem Ebh {id:Nat} (h:WE Q .normal n ds l W):WE (Exit.inBlock id Q) (.exit id) n ds l W:=fun a w ha hw=>by
 simp only [Exit.inBlock,if_true]; exact h a w ha hw
theorem Ebm {id id':Nat} (hne:Nat.beq id' id=false) (h:WE Q (.exit id') n ds l W):WE (Exit.inBlock id Q) (.exit id') n ds l W:=fun a w ha hw=>by
 have:id'≠id:=fun e=>by subst e; rw [Nat.beq_refl] at hne; cases hne
 simp only [Exit.inBlock,if_neg this]; exact h a w ha hw
def env0:Nat→List Value→List (Nat×Value)
 | _,[]=>[]
 | i,v::r=>(i,v)::env0 (i+1) r
theorem lk_env0 (vs:List Value):∀(i t:Nat) (v:Value),lk (env0 i vs) t=some v→i≤t∧vs[t-i]? = some v:=by
 induction vs with
 | nil=>intro i t v h; cases h
 | cons x r ih=>
   intro i t v h
   simp only [env0,lk] at h
   cases hb:Nat.beq i t with
   | true=>
     rw [hb] at h
     have:=Nat.eq_of_beq_eq_true hb
     subst this
     simp at h
     simp [h]
   | false=>
     rw [hb] at h
     obtain ⟨h1,h2⟩:=ih (i+1) t v h
     refine ⟨by omega,?_⟩
     have:t-i=(t-(i+1))+1:=by omega
     rw [this]
     simpa using h2
theorem enter {f:FuncId} {fn:Func} {c:Code} {vs:List Value} {w:World} {R:Ending→World→Prop} (hf:P.funcs[f]? = some fn) (hb:fn.body=some c)
   (m:Nat) (hm:fn.ntmps=m) (hle:Nat.ble vs.length m=true) (h:WC P c (bodyPost P fn R) m [] (env0 0 vs) (fun w'=>w'=w)):Calls P f vs.toArray w R:=by
 refine calls_of_wp hf hb (h _ _ ?_ rfl)
 have hle':=Nat.le_of_ble_eq_true hle
 subst hm
 refine ⟨by simp; omega,rfl,fun t v hv=>?_⟩
 obtain ⟨_,h2⟩:=lk_env0 vs 0 t v hv
 simp only [Nat.sub_zero] at h2
 have hlt:t<vs.length:=by
   rcases Nat.lt_or_ge t vs.length with h | h
   · exact h
   · simp [List.getElem?_eq_none h] at h2
 simp [Array.getD_eq_getD_getElem?,Array.getElem?_append,hlt]
 simp [List.getElem?_eq_getElem hlt] at h2
 exact h2
theorem WE.ret0 {fn:Func} {R:Ending→World→Prop} (hr:fn.results = #[]) (h:∀w,W w→R (.returned (.tuple #[])) w):WE (bodyPost P fn R) .ret n [] l W:=
 fun a w ha hw=>bodyPost_ret (results_none hr _ _ _) ha.defs (h w hw)
theorem WE.end0 {fn:Func} {R:Ending→World→Prop} (hr:fn.results = #[]) (h:∀w,W w→R (.returned (.tuple #[])) w):WE (bodyPost P fn R) .normal n [] l W:=
 fun a w ha hw=>bodyPost_end (results_none hr _ _ _) ha.defs (h w hw)
theorem WE.ret1 {fn:Func} {R:Ending→World→Prop} {t:Nat} {v:Value} (hr:fn.results = #[.tmp t]) (ht:lk l t=some v) (h:∀w,W w→R (.returned v) w):WE (bodyPost P fn R) .ret n [] l W:=
 fun a w ha hw=>bodyPost_ret (results_tmp hr _ _ _) ha.defs (by rw [ha.vals t v ht]; exact h w hw)
theorem WE.ret2 {fn:Func} {R:Ending→World→Prop} {t u:Nat} {v x:Value} (hr:fn.results = #[.tmp t,.tmp u]) (ht:lk l t=some v) (hu:lk l u=some x) (h:∀w,W w→R (.returned (.tuple #[v,x])) w):WE (bodyPost P fn R) .ret n [] l W:=
 fun a w ha hw=>bodyPost_ret (results_tmp2 hr _ _ _) ha.defs (by rw [ha.vals t v ht,ha.vals u x hu]; exact h w hw)
theorem least_of {p:Nat→Prop}:∀m,p m→∃k,p k∧∀j,p j→k≤j:=by
 intro m
 induction m using Nat.strongRecOn with
 | _ m ih=>
   intro hm
   by_cases h:∃j,j<m∧p j
   · obtain ⟨j,hj,hp⟩:=h
     exact ih j hj hp
   · exact ⟨m,hm,fun j hp=>Nat.le_of_not_lt fun hlt=>h ⟨j,hlt,hp⟩⟩
theorem wp_loop_ghost {ι:Type} {c:Code} {a:Act} {w:World} (I:ι→Act→World→Prop) (μ:ι→Nat) (i0:ι) (h0:I i0 a w)
   (round:∀i a w,I i a w→c.wp P (Exit.then (fun a' w'=>∃j,μ j<μ i∧I j a' w') Q) a w):(Code.loop c).wp P Q a w:=by
 classical
 let J:Act→World→Prop:=fun a w=>∃i,I i a w
 have ex:∀a w,J a w→∃k,(∃i,I i a w∧μ i=k)∧∀j,(∃i,I i a w∧μ i=j)→k≤j:=by
   rintro a w ⟨i,hi⟩
   exact least_of (μ i) ⟨i,hi,rfl⟩
 let M:Act→World→Nat:=fun a w=>if h:J a w then Classical.choose (ex a w h) else 0
 have hM:∀a w,J a w→∃i,I i a w∧μ i=M a w:=by
   intro a w h
   have:=(Classical.choose_spec (ex a w h)).1
   simp only [M,dif_pos h]
   exact this
 have hle:∀a w i,I i a w→M a w≤μ i:=by
   intro a w i hi
   have h:J a w:=⟨i,hi⟩
   simp only [M,dif_pos h]
   exact (Classical.choose_spec (ex a w h)).2 _ ⟨i,hi,rfl⟩
 refine wp_loop J M ⟨i0,h0⟩ fun a w hJ=>?_
 obtain ⟨i,hi,hmi⟩:=hM a w hJ
 refine wp_mono (round i a w hi) fun e a' w' hq=>?_
 cases e with
 | normal=>
   obtain ⟨j,hj,hI⟩:=hq
   exact ⟨⟨j,hI⟩,by have:=hle a' w' j hI; omega⟩
 | _=>exact hq
theorem WC.loop {ι:Type} {c:Code} (E:ι→List (Nat×Value)) (Wi:ι→World→Prop) (R:ι→Prop) (μ:ι→Nat) (i0:ι) (hR:R i0) (hE:∀p ∈ E i0,lk l p.1=some p.2) (hW:∀w,W w→Wi i0 w)
   (round:∀i,R i→WC P c (Exit.then (fun a' w'=>∃j,μ j<μ i∧R j∧Ag n ds (E j) a'∧Wi j w') Q) n ds (E i) (Wi i)):WC P (.loop c) Q n ds l W:=by
 intro a w ha hw
 refine wp_loop_ghost (fun i a w=>R i∧Ag n ds (E i) a∧Wi i w) μ i0 ⟨hR,ha.sub hE,hW w hw⟩ fun i a w hI=>?_
 exact round i hI.1 a w hI.2.1 hI.2.2
theorem Ea {ι:Type} {E:ι→List (Nat×Value)} {Wi:ι→World→Prop} {R:ι→Prop} {μ:ι→Nat} {i:ι} (j:ι) (hμ:μ j<μ i) (hR:R j) (hE:∀p ∈ E j,lk l p.1=some p.2) (hW:∀w,W w→Wi j w) :
   WE (Exit.then (fun a' w'=>∃j,μ j<μ i∧R j∧Ag n ds (E j) a'∧Wi j w') Q) .normal n ds l W:=fun a w ha hw=>⟨j,hμ,hR,ha.sub hE,hW w hw⟩
end
end Go.Bw
end
section
namespace Go.Bw
open Go Go.RowKit
abbrev View:=Nat→Option Obj
def Le (H:View) (w:World):Prop:=∀b o,H b=some o→w.heap[b]? = some o
def VLe (H H':View):Prop:=∀b o,H b=some o→H' b=some o
theorem VLe.refl (H:View):VLe H H:=fun _ _ h=>h
theorem VLe.trans {A B C:View} (h:VLe A B) (k:VLe B C):VLe A C:=fun b o x=>k b o (h b o x)
def Fresh (w:World) (H:View):Prop:=∀b,b<w.heap.size→H b=none
def nv (w0 w:World):View:=fun b=>if w0.heap.size≤b then w.heap[b]? else none
theorem nv_le (w0 w:World):Le (nv w0 w) w:=fun b o h=>by unfold nv at h; split at h; exact h; cases h
theorem nv_fresh (w0 w:World):Fresh w0 (nv w0 w):=fun b h=>by unfold nv; rw [if_neg (by omega)]
theorem nv_of {w0 w:World} {H:View} (hl:Le H w) (hf:Fresh w0 H):VLe H (nv w0 w):=fun b o h=>by
 unfold nv
 rw [if_pos,hl b o h]
 rcases Nat.lt_or_ge b w0.heap.size with hb | hb
 · rw [hf b hb] at h; cases h
 · exact hb
theorem Fresh.mono {w w':World} {H:View} (h:Fresh w' H) (hs:w.heap.size≤w'.heap.size):Fresh w H:=fun b hb=>h b (by omega)
structure Fr (F:List Nat) (w0 w:World):Prop where
 os:w.os=w0.os
 tape:w.tape=w0.tape
 output:w.output=w0.output
 size:w0.heap.size≤w.heap.size
 block:∀k,k<w0.heap.size→k ∉ F→w.heap[k]? = w0.heap[k]?
abbrev Ext (w w':World):Prop:=Fr [] w w'
theorem Fr.refl (F:List Nat) (w:World):Fr F w w:=⟨rfl,rfl,rfl,Nat.le_refl _,fun _ _ _=>rfl⟩
theorem Fr.trans {F G:List Nat} {a b c:World} (h:Fr F a b) (k:Fr G b c) (hG:∀x ∈ G,x ∈ F∨a.heap.size≤x):Fr F a c:=
 ⟨k.os.trans h.os,k.tape.trans h.tape,k.output.trans h.output,Nat.le_trans h.size k.size,fun i hi hF=>
   (k.block i (Nat.lt_of_lt_of_le hi h.size) fun hg=>by rcases hG i hg with h' | h'; exact hF h'; omega).trans (h.block i hi hF)⟩
theorem Ext.trans {a b c:World} (h:Ext a b) (k:Ext b c):Ext a c:=Fr.trans h k (by simp)
theorem Ext.below {w w':World} (h:Ext w w'):Below w.heap.size w w':=⟨h.os,h.tape,h.output,h.size,fun k hk=>h.block k hk (by simp)⟩
theorem Ext.of_below {w w':World} (h:Below w.heap.size w w'):Ext w w':=⟨h.os,h.tape,h.output,h.size,fun k hk _=>h.block k hk⟩
theorem Ext.drew (w:World):Ext w w.drew:=⟨rfl,rfl,rfl,Nat.le_refl _,fun _ _ _=>rfl⟩
theorem Ext.alloc (w:World) (o:Obj):Ext w (w.alloc o):=⟨rfl,rfl,rfl,by simp,fun k hk _=>Below.heap_alloc _ _ _ hk⟩
theorem lt_of_heap {w:World} {b:Nat} {o:Obj} (h:w.heap[b]? = some o):b<w.heap.size:=by
 rcases Nat.lt_or_ge b w.heap.size with hb | hb
 · exact hb
 · rw [Array.getElem?_eq_none hb] at h; cases h
theorem Le.ext {H:View} {w w':World} (h:Le H w) (e:Ext w w'):Le H w':=fun b o x=>(e.block b (lt_of_heap (h b o x)) (by simp)).trans (h b o x)
structure Asr where
 ids:List Nat
 holds:World→Prop
 loc:∀w w',(∀k ∈ ids,w'.heap[k]? = w.heap[k]?)→holds w→holds w'
 pres:∀w,holds w→∀k ∈ ids,k<w.heap.size
def blk (b:Nat) (o:Obj):Asr:=⟨[b],fun w=>w.heap[b]? = some o,fun w w' h hw=>(h b (by simp)).trans hw,fun w hw k hk=>by simp at hk; subst hk; exact lt_of_heap hw⟩
structure Ws (w0:World) (F:List Nat) (L:List Asr) (Vs:List View) (w:World):Prop where
 fr:Fr F w0 w
 kn:∀A ∈ L,A.holds w
 nd:(L.flatMap Asr.ids).Nodup
 own:∀A ∈ L,∀k ∈ A.ids,k ∈ F∨w0.heap.size≤k
 vs:∀H ∈ Vs,Le H w
 off:∀H ∈ Vs,∀A ∈ L,∀k ∈ A.ids,H k=none
section
variable {w0 w w':World} {F:List Nat} {L L' L2:List Asr} {Vs:List View}
theorem Ws.init (hV:∀H ∈ Vs,Le H w):Ws w [] [] Vs w:=⟨Fr.refl _ _,by simp,by simp,by simp,hV,by simp⟩
theorem Ws.turn (h:Ws w0 F (L++L2) Vs w) (hf:Fr (L.flatMap Asr.ids) w w') (hk:∀A ∈ L',A.holds w')
   (hn:(L'.flatMap Asr.ids).Nodup) (hi:∀A ∈ L',∀k ∈ A.ids,k ∈ L.flatMap Asr.ids∨w.heap.size≤k):Ws w0 F (L'++L2) Vs w':=by
 have nd:=h.nd
 rw [List.flatMap_append,List.nodup_append] at nd
 have same:∀A ∈ L2,∀k ∈ A.ids,w'.heap[k]? = w.heap[k]?:=fun A hA k hk=>
   hf.block k (A.pres w (h.kn A (by simp [hA])) k hk) fun hm=>nd.2.2 k hm k (List.mem_flatMap.2 ⟨A,hA,hk⟩) rfl
 refine ⟨?_,?_,?_,?_,?_,?_⟩
 · refine h.fr.trans hf fun x hx=>?_
   obtain ⟨A,hA,hxA⟩:=List.mem_flatMap.1 hx
   exact h.own A (by simp [hA]) x hxA
 · intro A hA
   rcases List.mem_append.1 hA with hA | hA
   · exact hk A hA
   · exact A.loc w w' (same A hA) (h.kn A (by simp [hA]))
 · rw [List.flatMap_append,List.nodup_append]
   refine ⟨hn,nd.2.1,fun x hx y hy e=>?_⟩
   subst e
   obtain ⟨A,hA,hxA⟩:=List.mem_flatMap.1 hx
   obtain ⟨B,hB,hxB⟩:=List.mem_flatMap.1 hy
   rcases hi A hA x hxA with h1 | h1
   · exact nd.2.2 x h1 x hy rfl
   · have:=B.pres w (h.kn B (by simp [hB])) x hxB
     omega
 · intro A hA k hkA
   rcases List.mem_append.1 hA with hA | hA
   · rcases hi A hA k hkA with h1 | h1
     · obtain ⟨B,hB,hxB⟩:=List.mem_flatMap.1 h1
       exact h.own B (by simp [hB]) k hxB
     · exact .inr (Nat.le_trans h.fr.size h1)
   · exact h.own A (by simp [hA]) k hkA
 · intro H hH b o hb
   rw [hf.block b (lt_of_heap (h.vs H hH b o hb))]
   · exact h.vs H hH b o hb
   · intro hm
     obtain ⟨A,hA,hxA⟩:=List.mem_flatMap.1 hm
     have:=h.off H hH A (by simp [hA]) b hxA
     rw [this] at hb; cases hb
 · intro H hH A hA k hkA
   rcases List.mem_append.1 hA with hA | hA
   · rcases hi A hA k hkA with h1 | h1
     · obtain ⟨B,hB,hxB⟩:=List.mem_flatMap.1 h1
       exact h.off H hH B (by simp [hB]) k hxB
     · cases hb:H k with
       | none=>rfl
       | some o=>have:=lt_of_heap (h.vs H hH k o hb); omega
   · exact h.off H hH A (by simp [hA]) k hkA
theorem Ws.ext (h:Ws w0 F L Vs w) (e:Ext w w'):Ws w0 F L Vs w':=by
 have:=Ws.turn (L:=[]) (L':=[]) (L2:=L) (by simpa using h) (by simpa using e) (by simp) (by simp) (by simp)
 simpa using this
theorem Ws.alloc (h:Ws w0 F L Vs w) (o:Obj):Ws w0 F (blk w.heap.size o::L) Vs (w.alloc o):=by
 have:=Ws.turn (L:=[]) (L':=[blk w.heap.size o]) (L2:=L) (by simpa using h) (by simpa using Ext.alloc w o)
   (by intro A hA; simp at hA; subst hA; show (w.heap.push o)[w.heap.size]? = some o; simp) (by simp [blk]) (by simp [blk])
 simpa using this
theorem Ws.view (h:Ws w0 F L Vs w) (e:Ext w w') {H:View} (hl:Le H w') (hf:Fresh w H):Ws w0 F L (H::Vs) w':=by
 have g:=h.ext e
 refine ⟨g.fr,g.kn,g.nd,g.own,?_,?_⟩
 · intro V hV
   rcases List.mem_cons.1 hV with rfl | hV
   · exact hl
   · exact g.vs V hV
 · intro V hV A hA k hk
   rcases List.mem_cons.1 hV with rfl | hV
   · exact hf k (A.pres w (h.kn A hA) k hk)
   · exact g.off V hV A hA k hk
theorem Ws.perm (h:Ws w0 F L Vs w) (hp:L.Perm L'):Ws w0 F L' Vs w:=
 ⟨h.fr,fun A hA=>h.kn A (hp.mem_iff.2 hA),(List.Perm.flatMap_right _ hp).nodup_iff.1 h.nd,fun A hA=>h.own A (hp.mem_iff.2 hA),h.vs,fun H hH A hA=>h.off H hH A (hp.mem_iff.2 hA)⟩
theorem Ws.drop (h:Ws w0 F (L++L') Vs w):Ws w0 F L' Vs w:=by
 have nd:=h.nd
 rw [List.flatMap_append,List.nodup_append] at nd
 exact ⟨h.fr,fun A hA=>h.kn A (by simp [hA]),nd.2.1,fun A hA=>h.own A (by simp [hA]),h.vs,fun H hH A hA=>h.off H hH A (by simp [hA])⟩
theorem Ws.drops (h:Ws w0 F L Vs w) {Vs':List View} (hs:∀H ∈ Vs',H ∈ Vs):Ws w0 F L Vs' w:=
 ⟨h.fr,h.kn,h.nd,h.own,fun H hH=>h.vs H (hs H hH),fun H hH=>h.off H (hs H hH)⟩
end
def outOf {α:Type}:Nat→List α→List α
 | _,[]=>[]
 | 0,_::r=>r
 | i+1,x::r=>x::outOf i r
theorem outOf_perm {α:Type} {x:α}:∀(i:Nat) (l:List α),l[i]? = some x→l.Perm (x::outOf i l)
 | _,[],h=>by cases h
 | 0,y::r,h=>by simp at h; subst h; exact List.Perm.refl _
 | i+1,y::r,h=>by
   have:=outOf_perm i r (by simpa using h)
   exact (List.Perm.cons y this).trans (List.Perm.swap _ _ _)
theorem set_perm {α:Type} {x y:α}:∀(i:Nat) (l:List α),l[i]? = some x→(y::outOf i l).Perm (l.set i y)
 | _,[],h=>by cases h
 | 0,z::r,_=>by simp [outOf]
 | i+1,z::r,h=>by
   have:=set_perm (y:=y) i r (by simpa using h)
   exact (List.Perm.swap _ _ _).trans (List.Perm.cons z this)
theorem Ws.turn1 {w0 w w':World} {F:List Nat} {L:List Asr} {Vs:List View} (h:Ws w0 F L Vs w) (i:Nat) {A B:Asr} (hi:L[i]? = some A) (hf:Fr A.ids w w') (hk:B.holds w')
   (hn:B.ids.Nodup) (hids:∀k ∈ B.ids,k ∈ A.ids∨w.heap.size≤k):Ws w0 F (L.set i B) Vs w':=by
 have h1:=h.perm (outOf_perm i L hi)
 have h2:=Ws.turn (L:=[A]) (L':=[B]) (L2:=outOf i L) (by simpa using h1) (by simpa using hf) (by simpa using hk) (by simpa using hn) (by simpa using hids)
 exact Ws.perm (by simpa using h2) (set_perm i L hi)
theorem mem_of_idx {α:Type} {l:List α} {i:Nat} {x:α} (h:l[i]? = some x):x ∈ l:=List.mem_of_getElem? h
end Go.Bw
end
section
namespace Go.Bw
open Go Go.RowKit
def nonAgg (P:Program) (t:TypeId):Bool:=match P.underlying t with | some (.struct _) | some (.array _ _) | none=>false | _=>true
def aggOf (P:Program) (t:TypeId):Option Nat:=match P.underlying t with | some (.struct _) | some (.array _ _)=>(P.info? t).map (·.size) | _=>none
def fieldOff (P:Program) (t:TypeId) (f:Nat):Option Nat:=match P.underlying t with
 | some (.struct fs)=>match fs[f]? with
   | some x=>match P.info? x.type with
     | some i=>if i.size=0 then none else some x.offset
     | none=>none
   | none=>none
 | _=>none
def elemSz (P:Program) (t:TypeId):Option Nat:=match P.underlying t with | some (.slice e)=>(P.info? e).map (·.size) | _=>none
section
variable {P:Program} {w:World}
theorem run_isAgg_non {t:TypeId} (h:nonAgg P t=true) (w:World):(isAgg t).run P w = .ok false w:=by
 unfold nonAgg at h
 cases hu:P.underlying t with
 | none=>simp [hu] at h
 | some d=>cases d<;>simp_all [isAgg,run_underlying hu]
theorem run_isAgg_agg {t:TypeId} {k:Nat} (h:aggOf P t=some k) (w:World):(isAgg t).run P w = .ok true w∧(sizeOf t).run P w = .ok k w:=by
 unfold aggOf at h
 cases hu:P.underlying t with
 | none=>simp [hu] at h
 | some d=>
   cases hi:P.info? t with
   | none=>cases d<;>simp_all
   | some i=>cases d<;>simp_all [isAgg,run_underlying hu,sizeOf,typeInfo]
def cellIn (o:Obj) (k:Nat):Option Value:=match o with | .cells c _ _=>c.toList[k]? | _=>none
def vc (H:View) (b k:Nat):Option Value:=(H b).bind (cellIn · k)
theorem cell_of_heap {b k:Nat} {o:Obj} {v:Value} (h:w.heap[b]? = some o) (hc:cellIn o k=some v):w.cell? ⟨b,k,none⟩=some v:=by
 cases o<;>simp_all [cellIn,World.cell?]
theorem Le.cell {H:View} (h:Le H w) {b k:Nat} {v:Value} (hc:vc H b k=some v):w.cell? ⟨b,k,none⟩=some v:=by
 unfold vc at hc
 cases hb:H b with
 | none=>simp [hb] at hc
 | some o=>simp [hb] at hc; exact cell_of_heap (h b o hb) hc
theorem VLe.cell {H H':View} (h:VLe H H') {b k:Nat} {v:Value} (hc:vc H b k=some v):vc H' b k=some v:=by
 unfold vc at *
 cases hb:H b with
 | none=>simp [hb] at hc
 | some o=>simp [hb] at hc; simp [h b o hb,hc]
theorem add_none (b o k:Nat):(⟨b,o,none⟩:Addr).add k=⟨b,o+k,none⟩:=by unfold Addr.add; split<;>simp_all
theorem run_loadVar_one {t:TypeId} (ht:nonAgg P t=true) {b k:Nat} {v:Value} (hc:w.cell? ⟨b,k,none⟩=some v):(loadVar t ⟨b,k,none⟩).run P w = .ok v w:=by
 simp [loadVar,run_isAgg_non ht,hc]
theorem run_loadVar_agg {t:TypeId} {n:Nat} (ht:aggOf P t=some n) {b k:Nat} {cs:List Value} (hl:cs.length=n) (hc:∀j v,cs[j]? = some v→w.cell? ⟨b,k+j,none⟩=some v) :
   (loadVar t ⟨b,k,none⟩).run P w = .ok (.agg cs.toArray) w:=by
 obtain ⟨h1,h2⟩:=run_isAgg_agg ht w
 have:=run_loadCells_list (P:=P) w ⟨b,k,none⟩ cs (fun j v h=>by rw [add_none]; exact hc j v h)
 rw [hl] at this
 simp [loadVar,h1,h2,this]
end
def st (l:List UInt8):Value:=.string ⟨l.toArray⟩
section
variable {P:Program} {l:List (Nat×Value)} {W:World→Prop} {w0:World} {F:List Nat} {L:List Asr} {Vs:List View}
 {d:Option Tmp} {ty:TypeId} {pos:String} {af:Array Edge} {g:Option (Nat×Bool)}
theorem Ym {x:Operand} {v:Value} (hx:opv l x=some v):Yl P l W ⟨d,.move x,ty,pos,af,g⟩ v:=fun ρ w hρ _=>by simp [execOp,hρ x v hx]
theorem Ya {x:Operand} {v:Value} (hx:opv l x=some v):Yl P l W ⟨d,.assign x,ty,pos,af,g⟩ v:=fun ρ w hρ _=>by simp [execOp,hρ x v hx]
theorem yl_pick {c x y:Operand} {t:Bool} {u v:Value} (hc:opv l c=some (.bool t)) (hx:opv l x=some u) (hy:opv l y=some v):Yl P l W ⟨d,.pick c x y,ty,pos,af,g⟩ (if t then u else v):=
 fun ρ w hρ _=>by simp [execOp,hρ c _ hc,hρ x _ hx,hρ y _ hy,asBool]
theorem yl_eq {t u:TypeId} {x y:Operand} {k:IntKind} {a b:Int} (hx:opv l x=some (.int k a)) (hy:opv l y=some (.int k b)):Yl P l W ⟨d,.binOp .eql t x y u,ty,pos,af,g⟩ (.bool (a==b)):=
 fun ρ w hρ _=>by simp [execOp,hρ x _ hx,hρ y _ hy,eqGuard,binOp,Op.intCmp]
theorem yl_ne {t u:TypeId} {x y:Operand} {k:IntKind} {a b:Int} (hx:opv l x=some (.int k a)) (hy:opv l y=some (.int k b)):Yl P l W ⟨d,.binOp .neq t x y u,ty,pos,af,g⟩ (.bool (a != b)):=
 fun ρ w hρ _=>by simp [execOp,hρ x _ hx,hρ y _ hy,eqGuard,binOp,Op.intCmp]
theorem yl_lt {t u:TypeId} {x y:Operand} {k:IntKind} {a b:Int} (hx:opv l x=some (.int k a)) (hy:opv l y=some (.int k b)):Yl P l W ⟨d,.binOp .lss t x y u,ty,pos,af,g⟩ (.bool (decide (a<b))):=
 fun ρ w hρ _=>by simp [execOp,hρ x _ hx,hρ y _ hy,eqGuard,binOp,Op.intCmp]
theorem yl_le {t u:TypeId} {x y:Operand} {k:IntKind} {a b:Int} (hx:opv l x=some (.int k a)) (hy:opv l y=some (.int k b)):Yl P l W ⟨d,.binOp .leq t x y u,ty,pos,af,g⟩ (.bool (decide (a≤b))):=
 fun ρ w hρ _=>by simp [execOp,hρ x _ hx,hρ y _ hy,eqGuard,binOp,Op.intCmp]
theorem yl_gt {t u:TypeId} {x y:Operand} {k:IntKind} {a b:Int} (hx:opv l x=some (.int k a)) (hy:opv l y=some (.int k b)):Yl P l W ⟨d,.binOp .gtr t x y u,ty,pos,af,g⟩ (.bool (decide (b<a))):=
 fun ρ w hρ _=>by simp [execOp,hρ x _ hx,hρ y _ hy,eqGuard,binOp,Op.intCmp]
theorem yl_ge {t u:TypeId} {x y:Operand} {k:IntKind} {a b:Int} (hx:opv l x=some (.int k a)) (hy:opv l y=some (.int k b)):Yl P l W ⟨d,.binOp .geq t x y u,ty,pos,af,g⟩ (.bool (decide (b≤a))):=
 fun ρ w hρ _=>by simp [execOp,hρ x _ hx,hρ y _ hy,eqGuard,binOp,Op.intCmp]
theorem yl_addw {t u:TypeId} {x y:Operand} {k:IntKind} {a b:Int} (hx:opv l x=some (.int k a)) (hy:opv l y=some (.int k b)):Yl P l W ⟨d,.binOp .add t x y u,ty,pos,af,g⟩ (.int k (k.wrap (a+b))):=
 fun ρ w hρ _=>by simp [execOp,hρ x _ hx,hρ y _ hy,eqGuard,binOp,Op.intArith]
theorem yl_subw {t u:TypeId} {x y:Operand} {k:IntKind} {a b:Int} (hx:opv l x=some (.int k a)) (hy:opv l y=some (.int k b)):Yl P l W ⟨d,.binOp .sub t x y u,ty,pos,af,g⟩ (.int k (k.wrap (a-b))):=
 fun ρ w hρ _=>by simp [execOp,hρ x _ hx,hρ y _ hy,eqGuard,binOp,Op.intArith]
theorem wrap_in {n:Int} (h : -9223372036854775808≤n∧n≤9223372036854775807):IntKind.i64.wrap n=n:=by rw [IntKind.wrap_i64]; omega
theorem yl_add {t u:TypeId} {x y:Operand} {a b:Int} (hx:opv l x=some (.int .i64 a)) (hy:opv l y=some (.int .i64 b)) (hb : -9223372036854775808≤a+b∧a+b≤9223372036854775807):Yl P l W ⟨d,.binOp .add t x y u,ty,pos,af,g⟩ (.int .i64 (a+b)):=by
 have:=yl_addw (P:=P) (W:=W) (d:=d) (t:=t) (u:=u) (ty:=ty) (pos:=pos) (af:=af) (g:=g) hx hy
 rwa [wrap_in hb] at this
theorem yl_sub {t u:TypeId} {x y:Operand} {a b:Int} (hx:opv l x=some (.int .i64 a)) (hy:opv l y=some (.int .i64 b)) (hb : -9223372036854775808≤a-b∧a-b≤9223372036854775807):Yl P l W ⟨d,.binOp .sub t x y u,ty,pos,af,g⟩ (.int .i64 (a-b)):=by
 have:=yl_subw (P:=P) (W:=W) (d:=d) (t:=t) (u:=u) (ty:=ty) (pos:=pos) (af:=af) (g:=g) hx hy
 rwa [wrap_in hb] at this
theorem Yi {t u:TypeId} {x y:Operand} {a:Nat} {b:Int} (hx:opv l x=some (.int .i64 (a:Int))) (hy:opv l y=some (.int .i64 b)) (h1:b=1) (hb:(a:Int)<9223372036854775807):Yl P l W ⟨d,.binOp .add t x y u,ty,pos,af,g⟩ (.int .i64 ((a+1:Nat):Int)):=by
 subst h1
 have:=yl_add (P:=P) (W:=W) (d:=d) (t:=t) (u:=u) (ty:=ty) (pos:=pos) (af:=af) (g:=g) hx hy (by omega)
 simpa using this
theorem yl_eqs {t u:TypeId} {x y:Operand} {a b:List UInt8} (hx:opv l x=some (st a)) (hy:opv l y=some (st b)):Yl P l W ⟨d,.binOp .eql t x y u,ty,pos,af,g⟩ (.bool (a==b)):=
 fun ρ w hρ _=>by simp [execOp,hρ x _ hx,hρ y _ hy,st,eqGuard,binOp,Op.stringOp]
theorem yl_nes {t u:TypeId} {x y:Operand} {a b:List UInt8} (hx:opv l x=some (st a)) (hy:opv l y=some (st b)):Yl P l W ⟨d,.binOp .neq t x y u,ty,pos,af,g⟩ (.bool (!(a==b))):=
 fun ρ w hρ _=>by simp [execOp,hρ x _ hx,hρ y _ hy,st,eqGuard,binOp,Op.stringOp]
theorem yl_cats {t u:TypeId} {x y:Operand} {a b:List UInt8} (hx:opv l x=some (st a)) (hy:opv l y=some (st b)) (h:a.length+b.length≤9223372036854775807):Yl P l W ⟨d,.binOp .add t x y u,ty,pos,af,g⟩ (st (a++b)):=by
 intro ρ w hρ _
 have e:(Op.stringOp .add ⟨a.toArray⟩ ⟨b.toArray⟩).run P w = .ok (st (a++b)) w:=by
   rw [run_string_add_sum w _ _ (by show a.toArray.size+b.toArray.size≤_; simpa using h)]
   simp [st]
   rfl
 simp [execOp,hρ x _ hx,hρ y _ hy,st,eqGuard,binOp,e]
theorem yl_not {t:TypeId} {x:Operand} {b:Bool} (hx:opv l x=some (.bool b)):Yl P l W ⟨d,.unOp .not t x,ty,pos,af,g⟩ (.bool (!b)):=
 fun ρ w hρ _=>by simp [execOp,hρ x _ hx,Op.unary]
theorem yl_nil {x:Operand} {p:Addr} (hx:opv l x=some (.pointer (some p))):Yl P l W ⟨d,.nilCheck x,ty,pos,af,g⟩ (.pointer (some p)):=
 fun ρ w hρ _=>by simp [execOp,hρ x _ hx]
theorem Yx {x:Operand} {vs:Array Value} {i:Nat} {v:Value} (hx:opv l x=some (.tuple vs)) (hi:vs[i]? = some v):Yl P l W ⟨d,.extract x i,ty,pos,af,g⟩ v:=
 fun ρ w hρ _=>by simp [execOp,hρ x _ hx,Instr.extract,hi]
theorem Yf {t:TypeId} {x:Operand} {f o b k:Nat} (ho:fieldOff P t f=some k) (hx:opv l x=some (.pointer (some ⟨b,o,none⟩))):Yl P l W ⟨d,.fieldAddr t x f,ty,pos,af,g⟩ (.pointer (some ⟨b,o+k,none⟩)):=by
 intro ρ w hρ _
 unfold fieldOff at ho
 cases hu:P.underlying t with
 | none=>simp [hu] at ho
 | some dd=>
   cases dd<;>simp [hu] at ho
   rename_i fs
   cases hf:fs[f]? with
   | none=>simp [hf] at ho
   | some fd=>
     simp [hf] at ho
     cases hi:P.info? fd.type with
     | none=>simp [hi] at ho
     | some i=>
       simp [hi] at ho
       obtain ⟨h0,rfl⟩:=ho
       simp [execOp,hρ x _ hx,Instr.fieldAt,run_underlying hu,hf,Instr.sureAddr,fieldPlace,sizeOf,typeInfo,hi,h0,add_none]
theorem yl_ia {t:TypeId} {x y:Operand} {b o n c s:Nat} {k:IntKind} {i:Int} (hs:elemSz P t=some s) (hx:opv l x=some (.slice (some ⟨b,o,none⟩) n c)) (hy:opv l y=some (.int k i)) (h0:0≤i) (h1:i<n) :
   Yl P l W ⟨d,.indexAddr t x y,ty,pos,af,g⟩ (.pointer (some ⟨b,o+i.toNat*s,none⟩)):=by
 intro ρ w hρ _
 unfold elemSz at hs
 cases hu:P.underlying t with
 | none=>simp [hu] at hs
 | some dd=>
   cases dd<;>simp [hu] at hs
   rename_i e
   obtain ⟨inf,hi,rfl⟩:=hs
   simp [execOp,hρ x _ hx,hρ y _ hy,Instr.indexAt,run_underlying hu,asIntOf,h0,h1,sizeOf,typeInfo,hi,add_none]
theorem yl_iak {t:TypeId} {x y:Operand} {b o n c s:Nat} {k:IntKind} {i:Nat} (hs:elemSz P t=some s) (hx:opv l x=some (.slice (some ⟨b,o,none⟩) n c)) (hy:opv l y=some (.int k (i:Int))) (h1:i<n) :
   Yl P l W ⟨d,.indexAddr t x y,ty,pos,af,g⟩ (.pointer (some ⟨b,o+i*s,none⟩)):=by
 have:=yl_ia (P:=P) (W:=W) (d:=d) (ty:=ty) (pos:=pos) (af:=af) (g:=g) hs hx hy (by omega) (by omega)
 simpa using this
theorem Yn {t:TypeId} {x:Operand} {a:Option Addr} {n c s:Nat} (hs:elemSz P t=some s) (hx:opv l x=some (.slice a n c)):Yl P l W ⟨d,.call ⟨.builtin .len,#[x],#[t]⟩,ty,pos,af,g⟩ (.int .i64 (n:Int)):=by
 intro ρ w hρ _
 unfold elemSz at hs
 cases hu:P.underlying t with
 | none=>simp [hu] at hs
 | some dd=>
   cases dd<;>simp [hu] at hs
   simp [execOp,resolve,invoke,builtin,hρ x _ hx,Builtin.len_,run_underlying hu,goInt]
theorem yl_lens {t:TypeId} {x:Operand} {s:List UInt8} (hs:P.underlying t=some .string) (hx:opv l x=some (st s)):Yl P l W ⟨d,.call ⟨.builtin .len,#[x],#[t]⟩,ty,pos,af,g⟩ (.int .i64 (s.length:Int)):=by
 intro ρ w hρ _
 have e:(ByteArray.mk s.toArray).size=s.length:=by show s.toArray.size=_; simp
 simp [execOp,resolve,invoke,builtin,hρ x _ hx,st,Builtin.len_,run_underlying hs,goInt,e]
theorem st_get (s:List UInt8) (i:Nat):(ByteArray.mk s.toArray)[i]? = s[i]?:=by
 rcases Nat.lt_or_ge i s.length with h | h
 · rw [List.getElem?_eq_getElem h,getElem?_pos (ByteArray.mk s.toArray) i (by show i<s.toArray.size; simpa using h)]
   rfl
 · rw [List.getElem?_eq_none h,getElem?_neg (ByteArray.mk s.toArray) i (by show ¬i<s.toArray.size; simpa using h)]
theorem yl_idxs {t:TypeId} {x y:Operand} {s:List UInt8} {k:IntKind} {i:Int} {u:UInt8} (hs:P.underlying t=some .string) (hx:opv l x=some (st s)) (hy:opv l y=some (.int k i)) (h0:0≤i) (hu:s[i.toNat]? = some u) :
   Yl P l W ⟨d,.index t x y,ty,pos,af,g⟩ (.int .u8 (u.toNat:Int)):=by
 intro ρ w hρ _
 simp [execOp,hρ x _ hx,hρ y _ hy,st,Instr.index,asIntOf,run_underlying hs,h0,st_get,hu]
theorem yl_idxk {t:TypeId} {x y:Operand} {s:List UInt8} {k:IntKind} {i:Nat} {u:UInt8} (hs:P.underlying t=some .string) (hx:opv l x=some (st s)) (hy:opv l y=some (.int k (i:Int))) (hu:s[i]? = some u) :
   Yl P l W ⟨d,.index t x y,ty,pos,af,g⟩ (.int .u8 (u.toNat:Int)):=yl_idxs hs hx hy (by omega) (by simpa using hu)
theorem yl_ldc {t:TypeId} {x:Operand} {b o:Nat} {v:Value} (ht:nonAgg P t=true) (hx:opv l x=some (.pointer (some ⟨b,o,none⟩))) (hc:∀w,W w→w.cell? ⟨b,o,none⟩=some v):Yl P l W ⟨d,.load t x,ty,pos,af,g⟩ v:=
 fun ρ w hρ hw=>by simp [execOp,hρ x _ hx,Instr.loadAt,Instr.sureAddr,run_loadVar_one ht (hc w hw)]
theorem yl_ldac {t:TypeId} {x:Operand} {b o n:Nat} {cs:List Value} (ht:aggOf P t=some n) (hx:opv l x=some (.pointer (some ⟨b,o,none⟩))) (hl:cs.length=n) (hc:∀w,W w→∀j v,cs[j]? = some v→w.cell? ⟨b,o+j,none⟩=some v) :
   Yl P l W ⟨d,.load t x,ty,pos,af,g⟩ (.agg cs.toArray):=
 fun ρ w hρ hw=>by simp [execOp,hρ x _ hx,Instr.loadAt,Instr.sureAddr,run_loadVar_agg ht hl (hc w hw)]
theorem yl_ld {t:TypeId} {x:Operand} {b o:Nat} {v:Value} {H:View} (i:Nat) (ht:nonAgg P t=true) (hx:opv l x=some (.pointer (some ⟨b,o,none⟩))) (hV:Vs[i]? = some H) (hc:vc H b o=some v) :
   Yl P l (Ws w0 F L Vs) ⟨d,.load t x,ty,pos,af,g⟩ v:=yl_ldc ht hx fun _ hw=>(hw.vs H (mem_of_idx hV)).cell hc
theorem yl_lda {t:TypeId} {x:Operand} {b o n:Nat} {cs:List Value} {H:View} (i:Nat) (ht:aggOf P t=some n) (hx:opv l x=some (.pointer (some ⟨b,o,none⟩))) (hV:Vs[i]? = some H) (hl:cs.length=n) (hc:∀j v,cs[j]? = some v→vc H b (o+j)=some v) :
   Yl P l (Ws w0 F L Vs) ⟨d,.load t x,ty,pos,af,g⟩ (.agg cs.toArray):=yl_ldac ht hx hl fun _ hw j v h=>(hw.vs H (mem_of_idx hV)).cell (hc j v h)
theorem Yd {t:TypeId} {x:Operand} {b o:Nat} {v:Value} {ob:Obj} (i:Nat) (hx:opv l x=some (.pointer (some ⟨b,o,none⟩))) (hL:L[i]? = some (blk b ob)) (hc:cellIn ob o=some v) (ht:nonAgg P t=true) :
   Yl P l (Ws w0 F L Vs) ⟨d,.load t x,ty,pos,af,g⟩ v:=yl_ldc ht hx fun _ hw=>cell_of_heap (hw.kn _ (mem_of_idx hL)) hc
def cellsIn (o:Obj) (k n:Nat):List Value:=match o with | .cells c _ _=>(c.toList.drop k).take n | _=>[]
theorem Yda {t:TypeId} {x:Operand} {b o n:Nat} {ob:Obj} (i:Nat) (hx:opv l x=some (.pointer (some ⟨b,o,none⟩))) (hL:L[i]? = some (blk b ob)) (ht:aggOf P t=some n) (hl:(cellsIn ob o n).length=n) :
   Yl P l (Ws w0 F L Vs) ⟨d,.load t x,ty,pos,af,g⟩ (.agg (cellsIn ob o n).toArray):=yl_ldac ht hx hl fun w hw j v h=>by
 have hk:w.heap[b]? = some ob:=hw.kn _ (mem_of_idx hL)
 refine cell_of_heap hk ?_
 cases ob<;>simp [cellsIn,cellIn] at *
 rw [List.getElem?_take] at h
 split at h
 · simpa using h
 · cases h
end
end Go.Bw
end
section
namespace Go.Bw
open Go Go.RowKit
def zeroOf (P:Program) (t:TypeId):Option Value:=(P.info? t).bind (·.zero)
def sizeP (P:Program) (t:TypeId):Option Nat:=(P.info? t).map (·.size)
theorem run_zero {P:Program} {t:TypeId} {z:Value} (h:zeroOf P t=some z) (w:World):(zeroValue t).run P w = .ok z w:=by
 unfold zeroOf at h
 cases hi:P.info? t with
 | none=>simp [hi] at h
 | some i=>simp [hi] at h; simp [zeroValue,typeInfo,hi,h]
theorem run_size {P:Program} {t:TypeId} {k:Nat} (h:sizeP P t=some k) (w:World):(sizeOf t).run P w = .ok k w:=by
 unfold sizeP at h
 cases hi:P.info? t with
 | none=>simp [hi] at h
 | some i=>simp [hi] at h; simp [sizeOf,typeInfo,hi,h]
theorem fold_set (vs:List Value):∀(k off:Nat) (cells:Array Value),off+k+vs.length≤cells.size→
   ((vs.zipIdx k).foldl (fun cs (p:Value×Nat)=>cs.setIfInBounds (off+p.2) p.1) cells).toList=cells.toList.take (off+k)++vs++cells.toList.drop (off+k+vs.length):=by
 induction vs with
 | nil=>intro k off cells _; simp
 | cons v r ih=>
   intro k off cells h
   simp only [List.zipIdx_cons,List.foldl_cons]
   rw [ih (k+1) off _ (by simp at h ⊢; omega)]
   simp only [Array.toList_setIfInBounds]
   have:=list_seg_step cells.toList (off+k) v r (by simp at h ⊢; omega)
   simpa [Nat.add_assoc] using this
def vcells:Value→List Value | .agg cs=>cs.toList | v=>[v]
theorem vcells_eq (v:Value):v.cells.toList=vcells v:=by cases v<;>rfl
def fillL (place:Nat→Option (Nat×Nat)):List Value→List (Nat×Value)→Option (List Value)
 | cells,[]=>some cells
 | cells,(i,v)::r=>match place i with
   | some (off,size)=>bif Nat.beq (vcells v).length size&&Nat.ble (off+size) cells.length then fillL place (cells.take off++vcells v++cells.drop (off+size)) r else none
   | none=>none
theorem fill_of (place:Nat→Option (Nat×Nat)):∀(parts:List (Nat×Value)) (cells:Array Value) (out:List Value),fillL place cells.toList parts=some out→Instr.fill place cells parts=some out.toArray
 | [],cells,out,h=>by simp [fillL] at h; simp [Instr.fill,←h]
 | (i,v)::r,cells,out,h=>by
   simp only [fillL] at h
   cases hp:place i with
   | none=>simp [hp] at h
   | some x=>
     obtain ⟨off,size⟩:=x
     simp only [hp] at h
     cases hb:(Nat.beq (vcells v).length size&&Nat.ble (off+size) cells.toList.length) with
     | false=>rw [hb] at h; cases h
     | true=>
       rw [hb] at h
       simp only [Bool.and_eq_true] at hb
       have h1:=Nat.eq_of_beq_eq_true hb.1
       have h2:=Nat.le_of_ble_eq_true hb.2
       have h3:v.cells.size=size:=by rw [←h1,←vcells_eq]; simp
       have h4:off+v.cells.size≤cells.size:=by rw [h3]; simpa using h2
       simp only [Instr.fill,hp]
       rw [if_neg (by simp [h3]; rw [h3] at h4; omega)]
       have e:=fold_set v.cells.toList 0 off cells (by simpa using h4)
       simp only [Nat.add_zero,Array.length_toList] at e
       have e2:(v.cells.zipIdx.foldl (fun cs (c,j)=>cs.setIfInBounds (off+j) c) cells)=(cells.toList.take off++vcells v++cells.toList.drop (off+size)).toArray:=by
         apply Array.ext'
         rw [←Array.foldl_toList,Array.toList_zipIdx]
         rw [h3] at e
         rw [e,vcells_eq]
       rw [e2]
       exact fill_of place r _ out (by simpa using h)
def placesP (P:Program) (t:TypeId):Option (List (Nat×Nat)):=match P.underlying t with
 | some (.struct fs)=>fs.toList.mapM fun f=>(sizeP P f.type).map (f.offset,·)
 | _=>none
theorem run_places {P:Program}:∀(fs:List Field) (pl:List (Nat×Nat)),fs.mapM (fun f=>(sizeP P f.type).map (f.offset,·))=some pl→∀w:World,
   (fs.mapM (m:=Sem) fun f=>do pure (f.offset,←sizeOf f.type)).run P w = .ok pl w
 | [],pl,h,w=>by simp at h; subst h; simp
 | f::fs,pl,h,w=>by
   simp only [List.mapM_cons,Option.bind_eq_bind] at h
   cases hs:sizeP P f.type with
   | none=>simp [hs] at h
   | some k=>
     simp only [hs,Option.map_some,Option.bind_some] at h
     cases hr:fs.mapM (fun f=>(sizeP P f.type).map (f.offset,·)) with
     | none=>simp [hr] at h
     | some rl=>
       simp [hr] at h
       subst h
       have ih:=run_places fs rl hr w
       simp only [List.mapM_cons,Sem.run_bind,run_size hs,Result.andThen_ok,Sem.run_pure,ih]
def evp (l:List (Nat×Value)):List (Nat×Operand)→Option (List (Nat×Value))
 | []=>some []
 | (i,x)::r=>match opv l x,evp l r with
   | some v,some vs=>some ((i,v)::vs)
   | _,_=>none
theorem evp_map {l:List (Nat×Value)} {ρ:Operand→Value} (hρ:∀x u,opv l x=some u→ρ x=u):∀(ps:List (Nat×Operand)) (vs:List (Nat×Value)),evp l ps=some vs→ps.map (fun p=>(p.1,ρ p.2))=vs
 | [],vs,h=>by simp [evp] at h; simp [h]
 | (i,x)::r,vs,h=>by
   simp only [evp] at h
   cases hx:opv l x with
   | none=>simp [hx] at h
   | some v=>
     cases hr:evp l r with
     | none=>simp [hx,hr] at h
     | some us=>
       simp [hx,hr] at h
       subst h
       simp [hρ x v hx,evp_map hρ r us hr]
def evs (l:List (Nat×Value)):List Operand→Option (List Value)
 | []=>some []
 | x::r=>match opv l x,evs l r with
   | some v,some vs=>some (v::vs)
   | _,_=>none
theorem evs_map {l:List (Nat×Value)} {ρ:Operand→Value} (hρ:∀x u,opv l x=some u→ρ x=u):∀(ps:List Operand) (vs:List Value),evs l ps=some vs→ps.map ρ=vs
 | [],vs,h=>by simp [evs] at h; simp [h]
 | x::r,vs,h=>by
   simp only [evs] at h
   cases hx:opv l x with
   | none=>simp [hx] at h
   | some v=>
     cases hr:evs l r with
     | none=>simp [hx,hr] at h
     | some us=>
       simp [hx,hr] at h
       subst h
       simp [hρ x v hx,evs_map hρ r us hr]
section
variable {P:Program} {l:List (Nat×Value)} {W:World→Prop} {w0:World} {F:List Nat} {L:List Asr} {Vs:List View}
 {d:Option Tmp} {ty:TypeId} {pos:String} {af:Array Edge} {g:Option (Nat×Bool)}
theorem Yb {t:TypeId} {parts:List (Nat×Operand)} {vs:List (Nat×Value)} {z:Value} {pl:List (Nat×Nat)} {out:List Value} (hz:zeroOf P t=some z) (hp:placesP P t=some pl)
   (hv:evp l parts=some vs) (hf:fillL (fun i=>pl[i]?) (vcells z) vs=some out):Yl P l W ⟨d,.build t parts.toArray,ty,pos,af,g⟩ (.agg out.toArray):=by
 intro ρ w hρ _
 have e1:((parts.toArray.map fun (i,x)=>(i,ρ x)):Array (Nat×Value)).toList=vs:=by simpa using evp_map hρ parts vs hv
 unfold placesP at hp
 cases hu:P.underlying t with
 | none=>simp [hu] at hp
 | some dd=>
   cases dd<;>simp [hu] at hp
   rename_i fs
   have e2:=run_places (P:=P) fs.toList pl (by simpa using hp) w
   have e3:(fs.mapM (m:=Sem) fun f=>do pure (f.offset,←sizeOf f.type)).run P w = .ok pl.toArray w:=by
     rw [Array.mapM_eq_mapM_toList,Sem.run_map,e2]; rfl
   have e4:Instr.fill (fun i=>pl.toArray[i]?) z.cells vs=some out.toArray:=by
     refine fill_of _ vs z.cells out ?_
     rw [vcells_eq]
     simpa using hf
   simp only [execOp,Instr.build,Sem.run_bind,run_zero hz,Result.andThen_ok,run_underlying hu,e3,e1,e4,Sem.run_pure]
end
section
variable {P:Program} {ops:Array Oper} {Q:Exit→Act→World→Prop} {n:Nat} {ds:List Deferred} {l:List (Nat×Value)} {W:World→Prop} {w0:World} {F:List Nat} {L:List Asr} {Vs:List View}
 {rest:List Oper} {d:Nat} {ty:TypeId} {pos:String} {af:Array Edge} {g:Option (Nat×Bool)}
theorem newVar_run (t:TypeId) (v:Value) (w:World):(newVar t v).run P w = .ok ⟨w.heap.size,0,none⟩ (w.alloc (.cells v.cells t)):=by
 simp [newVar,newRow]
theorem WL.new {op:Op} {o:Obj} {mk:Nat→Value} (hg:GOk ops l g) (hn:Nat.blt d n=true)
   (hr:∀(ρ:Operand→Value) (w:World),(∀x u,opv l x=some u→ρ x=u)→Ws w0 F L Vs w→(execOp ρ ⟨some d,op,ty,pos,af,g⟩).run P w = .ok (.value (mk w.heap.size)) (w.alloc o))
   (h:∀b,WL P ops Q n ds ((d,mk b)::l) (Ws w0 F (blk b o::L) Vs) rest) :
   WL P ops Q n ds l (Ws w0 F L Vs) (⟨some d,op,ty,pos,af,g⟩::rest):=by
 refine WL.step hg fun a w ha hw K hK=>?_
 have:=hr a.eval w (fun x u hx=>ha.eval hx) hw
 simp only [Oper.wp,this,Oper.upon_value]
 exact hK _ _ (h w.heap.size _ _ (ha.put hn _) (hw.alloc o))
theorem WL.box {T:TypeId} {x:Operand} {v:Value} (hg:GOk ops l g) (hn:Nat.blt d n=true) (hx:opv l x=some v)
   (h:∀b,WL P ops Q n ds ((d,.pointer (some ⟨b,0,none⟩))::l) (Ws w0 F (blk b (.cells v.cells T (0,0))::L) Vs) rest) :
   WL P ops Q n ds l (Ws w0 F L Vs) (⟨some d,.box T x,ty,pos,af,g⟩::rest):=
 WL.new (mk:=fun b=>.pointer (some ⟨b,0,none⟩)) hg hn (fun ρ w hρ hw=>by simp [execOp,Instr.box,hρ x v hx,newVar_run]) h
theorem WL.alloc {T:TypeId} {z:Value} (hg:GOk ops l g) (hn:Nat.blt d n=true) (hz:zeroOf P T=some z)
   (h:∀b,WL P ops Q n ds ((d,.pointer (some ⟨b,0,none⟩))::l) (Ws w0 F (blk b (.cells z.cells T (0,0))::L) Vs) rest) :
   WL P ops Q n ds l (Ws w0 F L Vs) (⟨some d,.alloc T,ty,pos,af,g⟩::rest):=
 WL.new (mk:=fun b=>.pointer (some ⟨b,0,none⟩)) hg hn (fun ρ w hρ hw=>by simp [execOp,Instr.alloc,run_zero hz,newVar_run]) h
def setIn (ob:Obj) (o:Nat) (vs:List Value):Obj:=match ob with | .cells c T f=>.cells (c.toList.take o++vs++c.toList.drop (o+vs.length)).toArray T f | x=>x
def stOk (ob:Obj) (o k:Nat):Bool:=match ob with | .cells c _ f=>Nat.ble (o+k) c.toList.length&&(Nat.beq f.1 0&&Nat.beq f.2 0) | _=>false
theorem run_storeVar {t:TypeId} {k b o:Nat} {ob:Obj} {v:Value} {w:World} (hs:sizeP P t=some k) (hl:(vcells v).length=k) (h1:(vcells v).all (·.oneCell')=true) (hb:w.heap[b]? = some ob) (hok:stOk ob o k=true) :
   (storeVar t ⟨b,o,none⟩ v).run P w = .ok () { w with heap:=w.heap.setIfInBounds b (setIn ob o (vcells v)) }:=by
 cases ob with
 | cells c T f=>
   obtain ⟨f1,f2⟩:=f
   simp only [stOk,Bool.and_eq_true] at hok
   obtain ⟨h2,h3,h4⟩:=hok
   have e1:=Nat.eq_of_beq_eq_true h3
   have e2:=Nat.eq_of_beq_eq_true h4
   subst e1; subst e2
   have h2:=Nat.le_of_ble_eq_true h2
   have e:=run_storeCells_at P b o T (vcells v) 0 c w hb (by simp at h2 ⊢; omega) (fun u hu=>List.all_eq_true.1 h1 u hu)
   have hc:v.cells.size=k:=by rw [←hl,←vcells_eq]; simp
   have e0:(storeVar t ⟨b,o,none⟩ v).run P w=(storeCells ⟨b,o,none⟩ (vcells v)).run P w:=by
     simp [storeVar,run_size hs,hc,vcells_eq]
   rw [e0,e]
   have hset:=setRow_heap w b c (c.toList.take (o+0)++vcells v++c.toList.drop (o+0+(vcells v).length)).toArray T (0,0) hb
   have hlt:=lt_of_heap hb
   simp only [setIn,Nat.add_zero] at hset ⊢
   suffices hh:(w.setRow b (c.toList.take o++vcells v++c.toList.drop (o+(vcells v).length)).toArray).heap=w.heap.setIfInBounds b (.cells (c.toList.take o++vcells v++c.toList.drop (o+(vcells v).length)).toArray T (0,0)) by
     rw [←hh]; rfl
   apply Array.ext_getElem?
   intro j
   by_cases hj:b=j
   · subst hj
     rw [hset]
     simp [hlt]
   · rw [Array.getElem?_setIfInBounds_ne hj]
     simp [World.setRow,Array.getElem?_modify,hj]
 | _=>simp [stOk] at hok
theorem Lst {t:TypeId} {x y:Operand} {b o k:Nat} {ob:Obj} {v:Value} (i:Nat) (hg:GOk ops l g) (hx:opv l x=some (.pointer (some ⟨b,o,none⟩))) (hy:opv l y=some v) (hL:L[i]? = some (blk b ob))
   (hs:sizeP P t=some k) (hl:(vcells v).length=k) (h1:(vcells v).all (·.oneCell')=true) (hok:stOk ob o k=true)
   (h:WL P ops Q n ds l (Ws w0 F (L.set i (blk b (setIn ob o (vcells v)))) Vs) rest) :
   WL P ops Q n ds l (Ws w0 F L Vs) (⟨none,.store t x y,ty,pos,af,g⟩::rest):=by
 refine WL.step hg fun a w ha hw K hK=>?_
 have hb:w.heap[b]? = some ob:=hw.kn _ (mem_of_idx hL)
 have hrun:(execOp a.eval ⟨none,.store t x y,ty,pos,af,g⟩).run P w = .ok .skip { w with heap:=w.heap.setIfInBounds b (setIn ob o (vcells v)) }:=by
   simp only [execOp,ha.eval hx,ha.eval hy,Instr.storeAt,Instr.sureAddr,Sem.run_bind,Sem.run_pure,Result.andThen_ok,run_storeVar hs hl h1 hb hok]
 simp only [Oper.wp,hrun,Oper.upon_skip]
 refine hK _ _ (h _ _ (ha.put_none undef) ?_)
 refine Ws.turn1 hw i hL ⟨rfl,rfl,rfl,by simp,fun j hj hne=>?_⟩ ?_ (by simp [blk]) (by simp [blk])
 · have:b≠j:=fun e=>hne (by simp [blk,e])
   simp [Array.getElem?_setIfInBounds_ne this]
 · show (w.heap.setIfInBounds b _)[b]? = _
   simp [lt_of_heap hb]
def Enters (P:Program) (f:FuncId):Prop:=∀args w,(callFunc f args).run P w = .ok (.enter f args) w
theorem enters_of {f : FuncId} {fn : Func} (hf : P.funcs[f]? = some fn) (hn : (fn.name == "runtime.NumGoroutine") = false) (hb : fn.body.isNone = false) : Enters P f := fun args w => by
 have hn' : fn.name ≠ "runtime.NumGoroutine" := by simpa using hn
 have hb':fn.body≠none:=by intro e; rw [e] at hb; cases hb
 simp [callFunc,hf,hn',hb']
theorem run_call {ρ:Operand→Value} {dst:Option Tmp} {f:FuncId} {args:Array Operand} {ts:Array TypeId} {vs:List Value} {w:World} (hf:Enters P f) (hρ:∀x u,opv l x=some u→ρ x=u) (ha:evs l args.toList=some vs) :
   (execOp ρ ⟨dst,.call ⟨.value (.func f),args,ts⟩,ty,pos,af,g⟩).run P w = .ok (.enter f vs.toArray) w:=by
 have e:args.map ρ=vs.toArray:=by
   apply Array.ext'
   simpa using evs_map hρ _ _ ha
 have e2:ρ (.func f) = .func (.func f) #[] #[]:=hρ (.func f) _ rfl
 simp only [execOp,resolve,e,e2,Deferred.ofValue,Sem.run_bind,Sem.run_pure,Result.andThen_ok,invoke]
 simpa using hf _ w
theorem WL.callx {ι:Type} {f:FuncId} {args:Array Operand} {ts:Array TypeId} {vs:List Value} (hg:GOk ops l g) (hn:Nat.blt d n=true) (hf:Enters P f) (ha:evs l args.toList=some vs)
   (v:ι→Value) (R:ι→World→Prop) (Pn:List PanicEntry→World→Prop)
   (hC:∀w,W w→Calls P f vs.toArray w fun e w'=>(∃i,e = .returned (v i)∧R i w')∨∃ch,e = .panicked ch∧Pn ch w')
   (hr:∀i,WL P ops Q n ds ((d,v i)::l) (R i) rest) (hp:∀ch,WE Q (.panic ch) n ds l (Pn ch)) :
   WL P ops Q n ds l W (⟨some d,.call ⟨.value (.func f),args,ts⟩,ty,pos,af,g⟩::rest):=by
 refine WL.step hg fun a w ha' hw K hK=>?_
 have hrun:=run_call (P:=P) (dst:=some d) (ts:=ts) (ty:=ty) (pos:=pos) (af:=af) (g:=g) (w:=w) hf (fun x u hx=>ha'.eval hx) ha
 simp only [Oper.wp,hrun,Oper.upon_enter]
 refine (hC w hw).mono fun e w' he=>?_
 rcases he with ⟨i,rfl,h⟩ | ⟨ch,rfl,h⟩
 · exact hK _ _ (hr i _ _ (ha'.put hn _) h)
 · exact hp ch _ _ ha' h
theorem WL.call {ι:Type} {f:FuncId} {args:Array Operand} {ts:Array TypeId} {vs:List Value} (hg:GOk ops l g) (hn:Nat.blt d n=true) (hf:Enters P f) (ha:evs l args.toList=some vs)
   (v:ι→Value) (R:ι→World→Prop)
   (hC:∀w,W w→Calls P f vs.toArray w fun e w'=>∃i,e = .returned (v i)∧R i w')
   (hr:∀i,WL P ops Q n ds ((d,v i)::l) (R i) rest) :
   WL P ops Q n ds l W (⟨some d,.call ⟨.value (.func f),args,ts⟩,ty,pos,af,g⟩::rest):=
 WL.callx hg hn hf ha v R (fun _ _=>False) (fun w hw=>(hC w hw).mono fun _ _ h=>.inl h) hr (fun _ _ _ _ h=>h.elim)
theorem Lp {f:FuncId} {args:Array Operand} {ts:Array TypeId} {vs:List Value} {v:Value} (hg:GOk ops l g) (hn:Nat.blt d n=true) (hf:Enters P f) (ha:evs l args.toList=some vs)
   (hC:∀w,Ws w0 F L Vs w→Calls P f vs.toArray w fun e w'=>e = .returned v∧Ext w w')
   (hr:WL P ops Q n ds ((d,v)::l) (Ws w0 F L Vs) rest) :
   WL P ops Q n ds l (Ws w0 F L Vs) (⟨some d,.call ⟨.value (.func f),args,ts⟩,ty,pos,af,g⟩::rest):=by
 refine WL.step hg fun a w ha' hw K hK=>?_
 have hrun:=run_call (P:=P) (dst:=some d) (ts:=ts) (ty:=ty) (pos:=pos) (af:=af) (g:=g) (w:=w) hf (fun x u hx=>ha'.eval hx) ha
 simp only [Oper.wp,hrun,Oper.upon_enter]
 refine (hC w hw).mono fun e w' he=>?_
 obtain ⟨rfl,h⟩:=he
 exact hK _ _ (hr _ _ (ha'.put hn _) (hw.ext h))
theorem Ld {ι:Type} {f:FuncId} {args:Array Operand} {ts:Array TypeId} {vs:List Value} (hg:GOk ops l g) (hn:Nat.blt d n=true) (hf:Enters P f) (ha:evs l args.toList=some vs)
   (v:ι→Value) (R:View→ι→Prop)
   (hC:∀w,Ws w0 F L Vs w→Calls P f vs.toArray w fun e w'=>∃i,e = .returned (v i)∧Ext w w'∧R (nv w w') i)
   (hr:∀H i,Fresh w0 H→R H i→WL P ops Q n ds ((d,v i)::l) (Ws w0 F L (H::Vs)) rest) :
   WL P ops Q n ds l (Ws w0 F L Vs) (⟨some d,.call ⟨.value (.func f),args,ts⟩,ty,pos,af,g⟩::rest):=by
 refine WL.step hg fun a w ha' hw K hK=>?_
 have hrun:=run_call (P:=P) (dst:=some d) (ts:=ts) (ty:=ty) (pos:=pos) (af:=af) (g:=g) (w:=w) hf (fun x u hx=>ha'.eval hx) ha
 simp only [Oper.wp,hrun,Oper.upon_enter]
 refine (hC w hw).mono fun e w' he=>?_
 obtain ⟨i,rfl,h,hR⟩:=he
 exact hK _ _ (hr (nv w w') i ((nv_fresh w w').mono hw.fr.size) hR _ _ (ha'.put hn _) (hw.view h (nv_le w w') (nv_fresh w w')))
end
section
variable {P:Program} {ops:Array Oper} {Q:Exit→Act→World→Prop} {n:Nat} {ds:List Deferred} {l:List (Nat×Value)} {W:World→Prop} {w0:World} {F:List Nat} {L:List Asr} {Vs:List View}
 {rest:List Oper} {d:Nat} {ty:TypeId} {pos:String} {af:Array Edge} {g:Option (Nat×Bool)}
def osl (e:TypeId) (size:Nat) (v:Value) (m:Nat) (xs:List Value):Asr:=
 ⟨v.ownBlock.toList,fun w=>w.ownsRow 0 e size v m xs,
  fun w w' h hw=>by
   obtain ⟨h1,h2⟩:=hw
   refine ⟨h1,?_⟩
   rcases h2 with h2 | ⟨g,cap,cur,hv,h0,hg,r⟩
   · exact .inl h2
   · exact .inr ⟨g,cap,cur,hv,h0,by rw [h g (by simp [hv,Value.ownBlock])]; exact hg,r⟩,
  fun w hw k hk=>by
   obtain ⟨h1,h2⟩:=hw
   rcases h2 with ⟨h2,_⟩ | ⟨g,cap,cur,hv,h0,hg,r⟩
   · subst h2; simp [Value.ownBlock] at hk
   · subst hv; simp [Value.ownBlock] at hk; subst hk; exact lt_of_heap hg⟩
theorem Ws.osl_nil {w:World} (h:Ws w0 F L Vs w) (e:TypeId) (size:Nat):Ws w0 F (osl e size (.slice none 0 0) 0 []::L) Vs w:=by
 have:=Ws.turn (L:=[]) (L':=[osl e size (.slice none 0 0) 0 []]) (L2:=L) (by simpa using h) (Fr.refl _ _)
   (by intro A hA; simp at hA; subst hA; exact World.ownsRow_nil _ _ _ _) (by simp [osl,Value.ownBlock]) (by simp [osl,Value.ownBlock])
 simpa using this
theorem Ws.osl_blk {w:World} (h:Ws w0 F L Vs w) (i:Nat) {b m cap:Nat} {cur:Array Value} {e:TypeId} {size:Nat} (hL:L[i]? = some (blk b (.cells cur e (0,0)))) (hm:m≤cap) (hc:cap≤maxLen) (hs:cur.size=cap*size) :
   Ws w0 F (L.set i (osl e size (.slice (some ⟨b,0,none⟩) m cap) m (cur.toList.take (m*size)))) Vs w:=by
 have hb:w.heap[b]? = some (.cells cur e (0,0)):=h.kn _ (mem_of_idx hL)
 refine Ws.turn1 h i hL (Fr.refl _ _) ?_ (by simp [osl,Value.ownBlock]) (by simp [osl,blk,Value.ownBlock])
 exact ⟨by rw [List.length_take,Array.length_toList,hs]; exact Nat.min_eq_left (Nat.mul_le_mul_right _ hm),.inr ⟨b,cap,cur,rfl,Nat.zero_le _,hb,hm,hc,hs,rfl⟩⟩
structure EltOk (P:Program) (t e:TypeId) (z:Value) (size bytes:Nat):Prop where
 under:P.underlying t=some (.slice e)
 info:∃i,P.info? e=some i∧i.zero=some z∧i.size=size∧i.bytes=bytes
 zs:z.cells.size=size
 pos:0<size
def eltB (P:Program) (t:TypeId):Option (TypeId×Value×Nat×Nat):=match P.underlying t with
 | some (.slice e)=>match P.info? e with
   | some i=>match i.zero with
     | some z=>bif Nat.beq z.cells.size i.size&&Nat.blt 0 i.size then some (e,z,i.size,i.bytes) else none
     | none=>none
   | none=>none
 | _=>none
theorem eltOk_of {t e:TypeId} {z:Value} {size bytes:Nat} (h:eltB P t=some (e,z,size,bytes)):EltOk P t e z size bytes:=by
 unfold eltB at h
 cases hu:P.underlying t with
 | none=>simp [hu] at h
 | some dd=>
   cases dd<;>simp [hu] at h
   rename_i e'
   cases hi:P.info? e' with
   | none=>simp [hi] at h
   | some i=>
     simp [hi] at h
     cases hz:i.zero with
     | none=>simp [hz] at h
     | some z'=>
       simp only [hz] at h
       cases hb:(Nat.beq z'.cells.size i.size&&Nat.blt 0 i.size) with
       | false=>rw [hb] at h; cases h
       | true=>
         rw [hb] at h
         simp at h
         obtain ⟨rfl,rfl,rfl,rfl⟩:=h
         simp only [Bool.and_eq_true] at hb
         exact ⟨hu,⟨i,hi,hz,rfl,rfl⟩,Nat.eq_of_beq_eq_true hb.1,Nat.le_of_ble_eq_true hb.2⟩
theorem append_block {t e ty:TypeId} {z v v':Value} {size bytes m c k:Nat} {a:Addr} {xs news:List Value} {w w':World} (hE:EltOk P t e z size bytes) (hown:w.ownsRow 0 e size v m xs)
   (hl:news.length=k*size) (hnews:∀j u,news[j]? = some u→w.cell? (a.add j)=some u) (h1:∀u ∈ news,u.oneCell'=true)
   (h63:m+k≤maxLen) (hby:(m+k)*bytes≤140737488355328) (hrun:(Builtin.append_ #[t,t] ty #[v,.slice (some a) k c]).run P w = .ok v' w') (hnil:v' = .slice none 0 0↔v = .slice none 0 0∧k=0) :
   v'.ownBlock=v.ownBlock∨v'.ownBlock=some w.heap.size:=by
 obtain ⟨inf,hi,hz,hsz,hbt⟩:=hE.info
 subst hsz; subst hbt
 have hsmall:((m+k:Nat):Int)≤9223372036854775807:=by simp only [maxLen] at h63; omega
 obtain ⟨hx,h2⟩:=hown
 rcases h2 with ⟨rfl,rfl⟩ | ⟨g,cap,cur,rfl,_,hg,hmc,hcm,hcs,htk⟩
 · by_cases hk:k=0
   · exact .inl (by rw [hnil.2 ⟨rfl,hk⟩])
   · have e2:=run_append_nil (P:=P) w t ty e inf z hE.under hi hz a k c news hl hnews (by omega) (by omega) (by simp at hby; omega)
     rw [hrun] at e2
     injection e2 with e2 _
     exact .inr (by rw [e2]; rfl)
 · by_cases hroom:m+k≤cap
   · have e2:=run_append_room (P:=P) w t ty e inf hE.under hi g m cap cur hg a k c news hl hnews h1 hroom (by
       rw [hl,hcs,←Nat.add_mul]; exact Nat.mul_le_mul_right _ hroom)
     rw [hrun] at e2
     injection e2 with e2 _
     exact .inl (by rw [e2]; rfl)
   · have hcell:∀j v,xs[j]? = some v→w.cell? ((⟨g,0,none⟩:Addr).add j)=some v:=by
       intro j u hu
       rw [add_none,←htk] at *
       refine cell_of_heap hg ?_
       rw [List.getElem?_take] at hu
       split at hu
       · simpa [cellIn] using hu
       · cases hu
     have e2:=run_append_grow (P:=P) w t ty e inf z hE.under hi hz ⟨g,0,none⟩ m cap xs hx hcell a k c news hl hnews (by omega) hsmall (growslice_fits (by omega) hby)
     rw [hrun] at e2
     injection e2 with e2 _
     exact .inr (by rw [e2]; rfl)
theorem WL.append {t e:TypeId} {z v:Value} {size bytes m c k:Nat} {s x:Operand} {a:Addr} {xs news:List Value} (i:Nat) (hg:GOk ops l g) (hn:Nat.blt d n=true) (hE:EltOk P t e z size bytes)
   (hs:opv l s=some v) (hx:opv l x=some (.slice (some a) k c)) (hL:L[i]? = some (osl e size v m xs))
   (hl:news.length=k*size) (hnews:∀w,Ws w0 F L Vs w→∀j u,news[j]? = some u→w.cell? (a.add j)=some u) (h1:∀u ∈ news,u.oneCell'=true)
   (h63:m+k≤maxLen) (hby:(m+k)*bytes≤140737488355328)
   (h:∀v',(v' = .slice none 0 0↔v = .slice none 0 0∧k=0)→WL P ops Q n ds ((d,v')::l) (Ws w0 F (L.set i (osl e size v' (m+k) (xs++news))) Vs) rest) :
   WL P ops Q n ds l (Ws w0 F L Vs) (⟨some d,.call ⟨.builtin .append,#[s,x],#[t,t]⟩,ty,pos,af,g⟩::rest):=by
 refine WL.step hg fun a' w ha hw K hK=>?_
 obtain ⟨inf,hi,hz,hsz,hbt⟩:=hE.info
 have hown:w.ownsRow 0 e size v m xs:=hw.kn _ (mem_of_idx hL)
 obtain ⟨v',w',hrun,hown',hgr,hnil⟩:=run_append_own (P:=P) w 0 t ty e inf z size bytes hE.under hi hz hsz hbt hE.zs hE.pos v m xs hown a k c news hl (hnews w hw) h1 h63 hby (Nat.zero_le _)
 have hrun':(execOp a'.eval ⟨some d,.call ⟨.builtin .append,#[s,x],#[t,t]⟩,ty,pos,af,g⟩).run P w = .ok (.value v') w':=by
   simp only [execOp,resolve,List.map_toArray,List.map_cons,List.map_nil,ha.eval hs,ha.eval hx,Sem.run_bind,Sem.run_pure,Result.andThen_ok,invoke,builtin,hrun]
 simp only [Oper.wp,hrun',Oper.upon_value]
 refine hK _ _ (h v' hnil _ _ (ha.put hn _) ?_)
 refine Ws.turn1 hw i hL ⟨hgr.os,hgr.tape,hgr.output,hgr.size,fun j hj hne=>hgr.block j hj fun e=>hne ?_⟩ hown' ?_ fun j hj=>?_
 · simp [osl,←e]
 · cases hv:v'.ownBlock<;>simp [osl,hv]
 · simp only [osl,Option.mem_toList] at hj ⊢
   rcases append_block hE hown hl (hnews w hw) h1 h63 hby hrun hnil with e | e
   · exact .inl (by rw [←e]; exact hj)
   · rw [e] at hj; injection hj with hj; exact .inr (by omega)
end
end Go.Bw
end
section
namespace Go.Bw
open Go Go.RowKit
section
variable {P:Program} {ops:Array Oper} {Q:Exit→Act→World→Prop} {n:Nat} {ds:List Deferred} {l:List (Nat×Value)} {W:World→Prop} {w0:World} {F:List Nat} {L:List Asr} {Vs:List View}
def freshB (us l:List (Nat×Value)):Bool:=us.all fun p=>(lk l p.1).isNone
theorem lk_fresh {us:List (Nat×Value)} (hf:freshB us l=true) {t:Nat} {u:Value} (hu:lk l t=some u):lk (us++l) t=some u:=by
 induction us with
 | nil=>exact hu
 | cons p r ih=>
   obtain ⟨k,v⟩:=p
   simp only [freshB,List.all_cons,Bool.and_eq_true] at hf
   simp only [List.cons_append,lk]
   cases hb:Nat.beq k t with
   | false=>exact ih hf.2
   | true=>
     have:=Nat.eq_of_beq_eq_true hb
     subst this
     have hn:=hf.1
     rw [hu] at hn
     cases hn
theorem Ag.forget {a:Act} {us:List (Nat×Value)} (h:Ag n ds (us++l) a) (hf:freshB us l=true):Ag n ds l a:=
 ⟨h.size,h.defs,fun t u hu=>h.vals t u (lk_fresh hf hu)⟩
theorem Ag.forget' {a:Act} {l':List (Nat×Value)} (m:Nat) (h:Ag n ds l' a) (hd:l'.drop m=l) (hf:freshB (l'.take m) l=true):Ag n ds l a:=by
 subst hd
 rw [←List.take_append_drop m l'] at h
 exact h.forget hf
def allSkip (ops:Array Oper):List (Nat×Value)→List Oper→Option (List (Nat×Value))
 | l,[]=>some l
 | l,o::r=>match o.guard,o.dst with
   | some (j,b),some d=>match (ops[j]?).bind (·.dst) with
     | some dj=>match lk l dj with
       | some (.bool b')=>bif (b' != b) then allSkip ops ((d,undef)::l) r else none
       | some (.tuple _)=>allSkip ops ((d,undef)::l) r
       | _=>none
     | none=>none
   | _,_=>none
def inB (n:Nat) (os:List Oper):Bool:=os.all fun o=>match o.dst with | some d=>Nat.blt d n | none=>true
theorem getD_get {a:Act} {l:List (Nat×Value)} (ha:Ag n ds l a) {t:Nat} {v:Value} (h:lk l t=some v) (hv:v≠undef∨t<n):a.tmps[t]? = some v:=by
 have h1:=ha.vals t v h
 rw [Array.getD_eq_getD_getElem?] at h1
 rcases Nat.lt_or_ge t a.tmps.size with hlt | hge
 · rw [Array.getElem?_eq_getElem hlt] at h1 ⊢
   simpa using h1
 · rw [Array.getElem?_eq_none hge] at h1
   rcases hv with hv | hv
   · exact absurd (by simpa using h1.symm) hv
   · rw [ha.size] at hge; omega
theorem WL.skips {gs rest:List Oper} {l2:List (Nat×Value)}:∀{l:List (Nat×Value)},allSkip ops l gs=some l2→inB n gs=true→(∀a w,Ag n ds l2 a→W w→wpList P ops Q rest a w)→
   ∀a w,Ag n ds l a→W w→wpList P ops Q (gs++rest) a w:=by
 induction gs with
 | nil=>intro l hs _ h a w ha hw; simp [allSkip] at hs; subst hs; exact h a w ha hw
 | cons o r ih=>
   intro l hs hin h a w ha hw
   simp only [allSkip] at hs
   simp only [inB,List.all_cons,Bool.and_eq_true] at hin
   have key:∀d,o.dst=some d→Region.wanted o (yielded ops a.tmps)=false→allSkip ops ((d,undef)::l) r=some l2→wpList P ops Q (o::r++rest) a w:=by
     intro d hd hw' hs'
     have hdn:Nat.blt d n=true:=by have:=hin.1; rw [hd] at this; exact this
     simp only [List.cons_append,wpList,hw']
     rw [hd]
     exact ih hs' hin.2 h _ _ (ha.put hdn undef) hw
   cases hg:o.guard with
   | none=>simp [hg] at hs
   | some jb=>
     obtain ⟨j,b⟩:=jb
     cases hd:o.dst with
     | none=>simp [hg,hd] at hs
     | some d=>
       simp only [hg,hd] at hs
       cases hj:(ops[j]?).bind (·.dst) with
       | none=>simp [hj] at hs
       | some dj=>
         simp only [hj] at hs
         cases hl:lk l dj with
         | none=>simp [hl] at hs
         | some v=>
           simp only [hl] at hs
           have hv:=ha.vals dj v hl
           cases v with
           | bool b'=>
             cases hb:(b' != b) with
             | false=>simp [hb] at hs
             | true=>
               simp only [hb,cond_true] at hs
               refine key d hd ?_ hs
               have hget:=getD_get ha hl (.inl (by simp [undef]))
               have hy:yielded ops a.tmps j=some b':=by simp [yielded,hj,hget]
               simp only [Region.wanted,hg,hy]
               cases b<;>cases b'<;>first | rfl | (simp at hb)
           | tuple vs=>
             refine key d hd ?_ hs
             have hy:yielded ops a.tmps j=none:=by
               simp only [yielded,hj,Option.bind_some]
               rw [Array.getD_eq_getD_getElem?] at hv
               cases ht:a.tmps[dj]? with
               | none=>rfl
               | some u=>simp [ht] at hv; simp [hv]
             simp [Region.wanted,hg,hy]
           | _=>simp at hs
theorem wpList_append {gs rest:List Oper}:∀(a:Act) (w:World),wpList P ops (Exit.then (wpList P ops Q rest) Q) gs a w→wpList P ops Q (gs++rest) a w:=by
 induction gs with
 | nil=>intro a w h; exact h
 | cons o r ih=>
   intro a w h
   simp only [List.cons_append,wpList] at h ⊢
   split
   · rename_i hw
     rw [if_pos hw] at h
     rcases h with h | ⟨h1,a2,w2,h2⟩
     · left
       unfold Oper.wp at h ⊢
       unfold Oper.upon at h ⊢
       split at h
       all_goals first
         | exact ih _ _ h
         | exact h
         | (refine h.mono fun e w' he=>?_
            cases e with
            | returned v=>exact ih _ _ he
            | panicked ch=>exact he
            | outgrown=>obtain ⟨a3,w3,h3⟩:=he; exact ⟨a3,w3,h3⟩)
         | exact h.mono fun v w' he=>ih _ _ he
     · exact .inr ⟨h1,a2,w2,h2⟩
   · rename_i hw
     rw [if_neg hw] at h
     exact ih _ _ h
theorem wpList_mono {Q':Exit→Act→World→Prop} (hq:∀e a w,Q e a w→Q' e a w) {gs:List Oper}:∀(a:Act) (w:World),wpList P ops Q gs a w→wpList P ops Q' gs a w:=by
 induction gs with
 | nil=>intro a w h; exact hq _ _ _ h
 | cons o r ih=>
   intro a w h
   simp only [wpList] at h ⊢
   split
   · rename_i hw
     rw [if_pos hw] at h
     rcases h with h | ⟨h1,a2,w2,h2⟩
     · left
       unfold Oper.wp at h ⊢
       unfold Oper.upon at h ⊢
       split at h
       all_goals first
         | exact ih _ _ h
         | exact hq _ _ _ h
         | exact h
         | (refine h.mono fun e w' he=>?_
            cases e with
            | returned v=>exact ih _ _ he
            | panicked ch=>exact hq _ _ _ he
            | outgrown=>obtain ⟨a3,w3,h3⟩:=he; exact ⟨a3,w3,hq _ _ _ h3⟩)
         | exact h.mono fun v w' he=>ih _ _ he
     · exact .inr ⟨h1,a2,w2,hq _ _ _ h2⟩
   · rename_i hw
     rw [if_neg hw] at h
     exact ih _ _ h
def Got (Q:Exit→Act→World→Prop) (n:Nat) (ds:List Deferred) (l:List (Nat×Value)) (W:World→Prop) (dx:Nat) (x:Value):Exit→Act→World→Prop:=
 Exit.then (fun a w=>(Ag n ds l a∧a.tmps.getD dx undef=x)∧W w) Q
theorem Gt {l':List (Nat×Value)} {dx:Nat} {x:Value} (m:Nat) (hx:lk l' dx=some x) (hd:l'.drop m=l) (hf:freshB (l'.take m) l=true):WL P ops (Got Q n ds l W dx x) n ds l' W []:=
 fun a w ha hw=>⟨⟨ha.forget' m hd hf,ha.vals _ _ hx⟩,hw⟩
theorem Ag.known {a:Act} (h:Ag n ds l a) {d:Nat} {v:Value} (hv:lk l d=some v):Ag n ds ((d,v)::l) a:=
 ⟨h.size,h.defs,fun t u hu=>by
   simp only [lk] at hu
   cases hb:Nat.beq d t with
   | true=>
     rw [hb] at hu
     have:=Nat.eq_of_beq_eq_true hb
     subst this
     simp at hu; subst hu
     exact h.vals _ _ hv
   | false=>rw [hb] at hu; exact h.vals t u hu⟩
theorem Ag.known' {a:Act} {d:Nat} {v:Value} (h:Ag n ds ((d,v)::l) a) (hv:lk l d=some v):Ag n ds l a:=
 ⟨h.size,h.defs,fun t u hu=>by
   refine h.vals t u ?_
   simp only [lk]
   cases hb:Nat.beq d t with
   | true=>
     have:=Nat.eq_of_beq_eq_true hb
     subst this
     rw [hv] at hu
     simpa using hu
   | false=>exact hu⟩
theorem WL.logic (m:Nat) {os:List Oper} {dj dp dx:Nat} (want:Bool) {c x:Bool} {t a b:Operand} {ty:TypeId} {pos:String} {af:Array Edge} {g:Option (Nat×Bool)} {l2:List (Nat×Value)}
   (hp:os[m]? = some ⟨some dp,.pick t a b,ty,pos,af,g⟩) (htj:t = .tmp dj) (hb:lk l dj=some (.bool c)) (hin:inB n (os.take m)=true)
   (hg:GOk ops l g) (hdp:Nat.blt dp n=true)
   (hab:(a,b)=(bif want then (Operand.tmp dx,Operand.const (.bool false)) else (Operand.const (.bool true),Operand.tmp dx)))
   (hF:allSkip ops ((dj,.bool (!want))::l) (os.take m)=some l2) (hF1:l2.drop m=(dj,.bool (!want))::l) (hF2:freshB (l2.take m) ((dj,.bool (!want))::l)=true)
   (hT:c=want→WL P ops (Got Q n ds ((dj,.bool want)::l) W dx (.bool x)) n ds ((dj,.bool want)::l) W (os.take m))
   (h:WL P ops Q n ds ((dp,.bool (bif want then c&&x else c||x))::l) W (os.drop (m+1))):WL P ops Q n ds l W os:=by
 intro a0 w ha hw
 have hos:os=os.take m++⟨some dp,.pick t a b,ty,pos,af,g⟩::os.drop (m+1):=by
   obtain ⟨hlt,he⟩:=List.getElem?_eq_some_iff.1 hp
   rw [←he,List.getElem_cons_drop hlt,List.take_append_drop]
 rw [hos]
 subst htj
 have pick:∀(a':Act) (w':World) (r:Bool),Ag n ds l a'→W w'→(if c then a'.eval a else a'.eval b) = .bool r→r=(bif want then c&&x else c||x)→
     wpList P ops Q (⟨some dp,.pick (.tmp dj) a b,ty,pos,af,g⟩::os.drop (m+1)) a' w':=by
   intro a' w' r ha' hw' hv hr
   refine wpList_step fun K hK=>?_
   rw [if_pos (GOk.wanted (o:=⟨some dp,.pick (.tmp dj) a b,ty,pos,af,g⟩) hg ha')]
   have hrun:(execOp a'.eval ⟨some dp,.pick (.tmp dj) a b,ty,pos,af,g⟩).run P w' = .ok (.value (.bool r)) w':=by
     have h1:a'.eval (.tmp dj) = .bool c:=ha'.vals dj _ hb
     simp only [execOp,h1,asBool,Sem.run_bind,Sem.run_pure,Result.andThen_ok,hv]
   simp only [Oper.wp,hrun,Oper.upon_value]
   exact hK _ _ (h _ _ (by rw [←hr]; exact ha'.put hdp _) hw')
 by_cases hc:c=want
 · refine wpList_append _ _ (wpList_mono (Q:=Got Q n ds ((dj,.bool want)::l) W dx (.bool x)) (fun e a' w' hq=>?_) _ _ (hT hc a0 w (ha.known (by rw [←hc]; exact hb)) hw))
   cases e with
   | normal=>
     obtain ⟨⟨ha',hx⟩,hw'⟩:=hq
     refine pick a' w' x (ha'.known' (by rw [←hc]; exact hb)) hw' ?_ ?_
     · subst hc
       cases c
       · simp at hab; obtain ⟨rfl,rfl⟩:=hab; exact hx
       · simp at hab; obtain ⟨rfl,rfl⟩:=hab; exact hx
     · subst hc; cases c<;>rfl
   | _=>exact hq
 · have hc':c = !want:=by cases c<;>cases want<;>first | rfl | exact absurd rfl hc
   refine WL.skips hF hin (fun a' w' ha' hw'=>?_) a0 w (ha.known (by rw [←hc']; exact hb)) hw
   have ha2:Ag n ds l a':=(ha'.forget' m hF1 hF2).known' (by rw [←hc']; exact hb)
   refine pick a' w' c ha2 hw' ?_ ?_
   · subst hc'
     cases want
     · simp at hab; obtain ⟨rfl,rfl⟩:=hab; rfl
     · simp at hab; obtain ⟨rfl,rfl⟩:=hab; rfl
   · subst hc'; cases want<;>rfl
theorem WL.and (m:Nat) {os:List Oper} {dj dp dx:Nat} {c x:Bool} {t a b:Operand} {ty:TypeId} {pos:String} {af:Array Edge} {g:Option (Nat×Bool)} {l2:List (Nat×Value)}
   (hp:os[m]? = some ⟨some dp,.pick t a b,ty,pos,af,g⟩) (htj:t = .tmp dj) (hb:lk l dj=some (.bool c)) (hin:inB n (os.take m)=true)
   (hg:GOk ops l g) (hdp:Nat.blt dp n=true) (hab:(a,b)=(Operand.tmp dx,Operand.const (.bool false)))
   (hF:allSkip ops ((dj,.bool false)::l) (os.take m)=some l2) (hF1:l2.drop m=(dj,.bool false)::l) (hF2:freshB (l2.take m) ((dj,.bool false)::l)=true)
   (hT:c=true→WL P ops (Got Q n ds ((dj,.bool true)::l) W dx (.bool x)) n ds ((dj,.bool true)::l) W (os.take m))
   (h:WL P ops Q n ds ((dp,.bool (c&&x))::l) W (os.drop (m+1))):WL P ops Q n ds l W os:=
 WL.logic m true hp htj hb hin hg hdp hab hF hF1 hF2 hT h
theorem WL.or (m:Nat) {os:List Oper} {dj dp dx:Nat} {c x:Bool} {t a b:Operand} {ty:TypeId} {pos:String} {af:Array Edge} {g:Option (Nat×Bool)} {l2:List (Nat×Value)}
   (hp:os[m]? = some ⟨some dp,.pick t a b,ty,pos,af,g⟩) (htj:t = .tmp dj) (hb:lk l dj=some (.bool c)) (hin:inB n (os.take m)=true)
   (hg:GOk ops l g) (hdp:Nat.blt dp n=true) (hab:(a,b)=(Operand.const (.bool true),Operand.tmp dx))
   (hF:allSkip ops ((dj,.bool true)::l) (os.take m)=some l2) (hF1:l2.drop m=(dj,.bool true)::l) (hF2:freshB (l2.take m) ((dj,.bool true)::l)=true)
   (hT:c=false→WL P ops (Got Q n ds ((dj,.bool false)::l) W dx (.bool x)) n ds ((dj,.bool false)::l) W (os.take m))
   (h:WL P ops Q n ds ((dp,.bool (c||x))::l) W (os.drop (m+1))):WL P ops Q n ds l W os:=
 WL.logic m false hp htj hb hin hg hdp hab hF hF1 hF2 hT h
end
end Go.Bw
end
section
namespace Go.Bw
open Go Go.RowKit
section
variable {P:Program} {ops:Array Oper} {Q:Exit→Act→World→Prop} {n:Nat} {ds:List Deferred} {l l':List (Nat×Value)} {W:World→Prop} {w0:World} {F:List Nat} {L:List Asr} {Vs:List View}
 {rest:List Oper} {d:Nat} {ty:TypeId} {pos:String} {af:Array Edge} {g:Option (Nat×Bool)}
theorem CK {ι:Type} {c:Code} (U:ι→List (Nat×Value)) (l':List (Nat×Value)) (Wi:ι→World→Prop) (R:ι→Prop) (μ:ι→Nat) (i0:ι) (hR:R i0) (hE:∀p ∈ U i0++l',lk l p.1=some p.2) (hW:∀w,W w→Wi i0 w)
   (round:∀i,R i→WC P c (Exit.then (fun a' w'=>∃j,μ j<μ i∧R j∧Ag n ds (U j++l') a'∧Wi j w') Q) n ds (U i++l') (Wi i)):WC P (.loop c) Q n ds l W:=
 WC.loop (fun i=>U i++l') Wi R μ i0 hR hE hW round
theorem CW {ι:Type} {c:Code} (U:ι→List (Nat×Value)) (l':List (Nat×Value)) (R:ι→Prop) (μ:ι→Nat) (i0:ι) (hR:R i0) (hE:∀p ∈ U i0++l',lk l p.1=some p.2)
   (round:∀i,R i→WC P c (Exit.then (fun a' w'=>∃j,μ j<μ i∧R j∧Ag n ds (U j++l') a'∧W w') Q) n ds (U i++l') W):WC P (.loop c) Q n ds l W:=
 WC.loop (fun i=>U i++l') (fun _=>W) R μ i0 hR hE (fun _ h=>h) round
end
def RdC (H:View) (b o:Nat) (cs:List Value):Prop:=∀j v,cs[j]? = some v→vc H b (o+j)=some v
theorem RdC.mono {H H':View} (h:VLe H H') {b o:Nat} {cs:List Value} (r:RdC H b o cs):RdC H' b o cs:=fun j v hv=>h.cell (r j v hv)
structure Sl {α:Type} (rd:View→Nat→Nat→α→Prop) (k:Nat) (H:View) (a:Option Addr) (c:Nat) (l:List α):Prop where
 cap:l.length≤c
 max:c≤9223372036854775807
 spot:∀p,a=some p→0<c→p.spot=none
 elt:∀i x,l[i]? = some x→∃b o,a=some ⟨b,o,none⟩∧rd H b (o+i*k) x
theorem Sl.mono {α:Type} {rd:View→Nat→Nat→α→Prop} {k:Nat} {H H':View} {a:Option Addr} {c:Nat} {l:List α} (hm:∀b o x,rd H b o x→rd H' b o x) (h:Sl rd k H a c l):Sl rd k H' a c l:=
 ⟨h.cap,h.max,h.spot,fun i x hx=>let ⟨b,o,ha,hb⟩:=h.elt i x hx; ⟨b,o,ha,hm _ _ _ hb⟩⟩
theorem Sl.nil {α:Type} {rd:View→Nat→Nat→α→Prop} {k:Nat} {H:View}:Sl rd k H none 0 ([]:List α):=⟨Nat.le_refl _,by decide,by simp,by simp⟩
section
variable {P:Program} {l:List (Nat×Value)} {W:World→Prop} {d:Option Tmp} {ty:TypeId} {pos:String} {af:Array Edge} {g:Option (Nat×Bool)}
theorem Yo {t:TypeId} {x y:Operand} {a:Option Addr} {b o n c s:Nat} {k:IntKind} {i:Nat} (hs:elemSz P t=some s) (hx:opv l x=some (.slice a n c)) (hy:opv l y=some (.int k (i:Int))) (ha:a=some ⟨b,o,none⟩) (h1:i<n) :
   Yl P l W ⟨d,.indexAddr t x y,ty,pos,af,g⟩ (.pointer (some ⟨b,o+i*s,none⟩)):=by subst ha; exact yl_iak hs hx hy h1
end
end Go.Bw
end
section
namespace Go.Bw
open Go Go.RowKit
section
variable {P:Program} {md:Region.Mode} {ops:Array Oper} {C:World→Prop} {Q:Exit→Act→World→Prop}
def YV (P:Program) (ops:Array Oper) (C:World→Prop) (o:Oper) (v:Value) (a:Act):Prop:=
 (Region.wanted o (yielded ops a.tmps)=true∧∀w,C w→(execOp a.eval o).run P w = .ok (.value v) w)∨
 (Region.wanted o (yielded ops a.tmps)=false∧v=undef)
theorem YV.of_same {o:Oper} {v:Value} {a a':Act} (hy:YV P ops C o v a) (he:execOp a'.eval o=execOp a.eval o)
   (hw:Region.wanted o (yielded ops a'.tmps)=Region.wanted o (yielded ops a.tmps)):YV P ops C o v a':=by
 unfold YV at *
 rw [he,hw]
 exact hy
theorem YV.wpOp {i:Nat} {o:Oper} {v:Value} {a:Act} {w:World} (hi:ops[i]? = some o) (hy:YV P ops C o v a) (hC:C w) {K:Act→World→Prop} (h:K (a.put o.dst v) w):wpOp P ops Q i K a w:=by
 unfold Go.wpOp
 simp only [hi]
 rcases hy with ⟨hw,hv⟩ | ⟨hw,rfl⟩
 · simp only [hw,if_true]
   refine .inl ?_
   simp only [Oper.wp,hv w hC,Oper.upon_value]
   exact h
 · simp only [hw,Bool.false_eq_true,if_false]; exact h
def wpAnyC (P:Program) (md:Region.Mode) (ops:Array Oper) (C:World→Prop) (Q:Exit→Act→World→Prop):Nat→Array Bool→Act→World→Prop
 | 0,listed,a,w=>C w∧Region.ready md ops listed=[]∧Q .normal a w
 | fuel+1,listed,a,w=>C w∧(Region.ready md ops listed=[]→Q .normal a w)∧
   ∀i ∈ Region.ready md ops listed,wpOp P ops Q i (wpAnyC P md ops C Q fuel (listed.setIfInBounds i true)) a w
theorem wpAny_of_C:∀(fuel:Nat) (listed:Array Bool) (a:Act) (w:World),wpAnyC P md ops C Q fuel listed a w→wpAny P md ops Q fuel listed a w
 | 0,_,_,_,h=>h.2
 | fuel+1,listed,a,w,h=>⟨h.2.1,fun i hi=>wpOp_mono (fun a' w' h'=>wpAny_of_C fuel _ a' w' h') (h.2.2 i hi)⟩
theorem wpAnyC.c {fuel:Nat} {listed:Array Bool} {a:Act} {w:World} (h:wpAnyC P md ops C Q fuel listed a w):C w:=by cases fuel<;>exact h.1
theorem wpOp_putC {j:Nat} {oi oj:Oper} {v:Value} (hj:ops[j]? = some oj) (hap:oi.apart ops oj=true)
   (hsi:∀cs b,oi.op≠.select cs b) (hsj:∀cs b,oj.op≠.select cs b)
   (hQ:∀c a w,Q (.panic c) (a.put oi.dst v) w→Q (.panic c) a w) {K:Act→World→Prop} {a:Act} {w:World}
   (hy:YV P ops C oi v a) (h:wpOp P ops Q j K (a.put oi.dst v) w) :
   wpOp P ops Q j (fun a' w'=>YV P ops C oi v a'∧K (a'.put oi.dst v) w') a w:=by
 obtain ⟨h1,h2,h3⟩:=Oper.apart_spec hap
 have keep:∀(a:Act),YV P ops C oi v a→∀u,YV P ops C oi v (a.put oj.dst u):=fun a hy u=>
   hy.of_same (execOp_put oi hsi a oj.dst u h3) (wanted_put oi a oj.dst u h3)
 have keepD:∀d,YV P ops C oi v { a with defers:=d::a.defers }:=fun d=>hy.of_same rfl rfl
 unfold wpOp at *
 simp only [hj] at *
 rw [wanted_put oj a oi.dst v h1] at h
 split
 · rename_i hw
   simp only [hw,if_true] at h
   rcases h with h | ⟨hasks,hlets⟩
   case inr=>exact .inr ⟨by unfold Oper.asks at *; rw [execOp_put oj hsj a oi.dst v h1] at hasks; exact hasks,hlets⟩
   refine .inl ?_
   unfold Oper.wp at *
   rw [execOp_put oj hsj a oi.dst v h1] at h
   generalize (execOp a.eval oj).run P w=r at *
   cases r with
   | ok n w'=>
     cases n<;>simp only [Oper.upon] at h ⊢
     case value u=>exact ⟨keep a hy u,by rw [←Act.put_comm a v u h2]; exact h⟩
     case skip=>exact ⟨keep a hy _,by rw [←Act.put_comm a v undef h2]; exact h⟩
     case defer d=>
       refine ⟨keep _ (keepD d) _,?_⟩
       rw [←Act.put_comm _ v undef h2,←Act.put_defers]
       exact h
     case enter f args=>
       refine Calls.mono h fun e w'' he=>?_
       cases e with
       | returned u=>exact ⟨keep a hy u,by rw [←Act.put_comm a v u h2]; exact he⟩
       | panicked c=>exact hQ _ _ _ he
       | outgrown=>exact he
     case row row args=>exact Rows.mono h fun u w'' he=>⟨keep a hy u,by rw [←Act.put_comm a v u h2]; exact he⟩
   | halt x w'=>
     cases x<;>simp only [Oper.upon] at h ⊢
     case panic u=>exact hQ _ _ _ h
 · rename_i hw
   simp only [hw] at h
   exact ⟨keep a hy _,by rw [←Act.put_comm a v undef h2]; exact h⟩
theorem wpAnyC_first {i:Nat} {oi:Oper} {v:Value} (hi:ops[i]? = some oi) (hsel:∀(j:Nat) (o:Oper) cs b,ops[j]? = some o→o.op≠.select cs b)
   (hQ:∀c a w,Q (.panic c) (a.put oi.dst v) w→Q (.panic c) a w) :
   ∀(fuel:Nat) (listed:Array Bool) (a:Act) (w:World),
     (∀j oj,ops[j]? = some oj→j≠i→listed.getD j true=false→(∀e ∈ oj.after,Region.binds md e=true→e.on≠i)→oi.apart ops oj=true)→
     i ∈ Region.ready md ops listed→YV P ops C oi v a→C w→
     wpAnyC P md ops C Q fuel (listed.setIfInBounds i true) (a.put oi.dst v) w→wpAnyC P md ops C Q (fuel+1) listed a w:=by
 intro fuel
 induction fuel with
 | zero=>
   intro listed a w _ hr hy hC H
   refine ⟨hC,fun h=>(by rw [h] at hr; cases hr),fun j hj=>?_⟩
   by_cases hji:j=i
   · subst hji; exact hy.wpOp hi hC H
   · have:=ready_mono hj hji
     rw [H.2.1] at this
     cases this
 | succ fuel ih=>
   intro listed a w hfree hr hy hC H
   refine ⟨hC,fun h=>(by rw [h] at hr; cases hr),fun j hj=>?_⟩
   by_cases hji:j=i
   · subst hji; exact hy.wpOp hi hC H
   · have h1:=H.2.2 j (ready_mono hj hji)
     obtain ⟨hjun,oj,hoj,hall⟩:=mem_ready.1 hj
     have hnot:∀e ∈ oj.after,Region.binds md e=true→e.on≠i:=fun e he hb heq=>by
       have h1:=hall e he hb
       have h0:=(mem_ready.1 hr).1
       rw [heq] at h1
       rcases Nat.lt_or_ge i listed.size with h' | h'
       · simp [h'] at h0 h1; rw [h0] at h1; cases h1
       · simp [Array.getElem?_eq_none h'] at h1
     have h2:=wpOp_putC hoj (hfree j oj hoj hji hjun hnot) (fun cs b=>hsel i oi cs b hi) (fun cs b=>hsel j oj cs b hoj) hQ hy h1
     have hfree':∀k ok,ops[k]? = some ok→k≠i→(listed.setIfInBounds j true).getD k true=false→
         (∀e ∈ ok.after,Region.binds md e=true→e.on≠i)→oi.apart ops ok=true:=fun k ok hk hki hun hno=>by
       refine hfree k ok hk hki ?_ hno
       by_cases hjk:j=k
       · subst hjk; exact hjun
       · rw [getD_set_ne true hjk] at hun; exact hun
     refine wpOp_mono (fun a' w' h3=>ih (listed.setIfInBounds j true) a' w' hfree' (ready_mono hr (Ne.symm hji)) h3.1 h3.2.c ?_) h2
     rw [Array.setIfInBounds_comm _ _ hji]
     exact h3.2
def ordB (md:Region.Mode) (ops:Array Oper):List (Nat×Bool)→Array Bool→Bool
 | [],listed=>(Region.ready md ops listed).isEmpty
 | (i,q)::r,listed=>(bif q then (Region.ready md ops listed).contains i&&Region.free md ops listed i else Region.ready md ops listed==[i])&&ordB md ops r (listed.setIfInBounds i true)
def wpC (P:Program) (ops:Array Oper) (C:World→Prop) (Q:Exit→Act→World→Prop):List (Nat×Bool)→Act→World→Prop
 | [],a,w=>C w∧Q .normal a w
 | (i,true)::r,a,w=>C w∧∃o v,ops[i]? = some o∧YV P ops C o v a∧wpC P ops C Q r (a.put o.dst v) w
 | (i,false)::r,a,w=>C w∧wpOp P ops Q i (wpC P ops C Q r) a w
theorem wpAnyC_ord (hs:Region.noSelect ops=true) (hQ:∀c a w d v,Q (.panic c) (a.put d v) w→Q (.panic c) a w):∀(ord:List (Nat×Bool)) (listed:Array Bool) (a:Act) (w:World),
   ordB md ops ord listed=true→wpC P ops C Q ord a w→wpAnyC P md ops C Q ord.length listed a w
 | [],listed,a,w,hB,h=>⟨h.1,by simpa [ordB] using hB,h.2⟩
 | (i,true)::r,listed,a,w,hB,h=>by
   simp only [ordB,cond_true,Bool.and_eq_true] at hB
   obtain ⟨hC,o,v,ho,hy,h⟩:=h
   exact wpAnyC_first ho (Region.noSelect_spec hs) (fun c a w=>hQ c a w o.dst v) r.length listed a w (Region.free_spec ho hB.1.2) (by simpa using hB.1.1) hy hC
     (wpAnyC_ord hs hQ r _ _ _ hB.2 h)
 | (i,false)::r,listed,a,w,hB,h=>by
   simp only [ordB,cond_false,Bool.and_eq_true,beq_iff_eq] at hB
   refine ⟨h.1,fun he=>(by rw [he] at hB; cases hB.1),fun j hj=>?_⟩
   rw [hB.1] at hj
   simp at hj
   subst hj
   exact wpOp_mono (fun a' w' h'=>wpAnyC_ord hs hQ r _ _ _ hB.2 h') h.2
theorem wp_region_c {id:Nat} {a:Act} {w:World} {l:List Oper} (ord:List (Nat×Bool)) (hm:P.follows .mixedOrders=true) (hB:(Region.noSelect l.toArray&&(ord.length==l.toArray.size&&ordB .any l.toArray ord (Array.replicate l.toArray.size false)))=true)
   (hQ:∀c a w d v,Q (.panic c) (a.put d v) w→Q (.panic c) a w) (h:wpC P l.toArray C Q ord a w.drew):(Code.region id l.toArray true).wp P Q a w:=by
 simp only [Bool.and_eq_true,beq_iff_eq] at hB
 have:=wpAny_of_C (md:=.any) _ _ _ _ (wpAnyC_ord hB.1 hQ ord _ a w.drew hB.2.2 h)
 rw [hB.2.1] at this
 exact wp_region_any hm this
variable {n:Nat} {ds:List Deferred} {l:List (Nat×Value)} {W:World→Prop}
def WD (P:Program) (ops:Array Oper) (C:World→Prop) (Q:Exit→Act→World→Prop) (n:Nat) (ds:List Deferred) (l:List (Nat×Value)) (W:World→Prop) (ord:List (Nat×Bool)):Prop:=
 ∀a w,Ag n ds l a→W w→wpC P ops C Q ord a w
theorem WC.draws {id:Nat} {os:List Oper} (C:World→Prop) (ord:List (Nat×Bool)) (hm:P.follows .mixedOrders=true) (hB:(Region.noSelect os.toArray&&(ord.length==os.toArray.size&&ordB .any os.toArray ord (Array.replicate os.toArray.size false)))=true)
   (hQ:∀c a w d v,Q (.panic c) (a.put d v) w→Q (.panic c) a w) (hW:∀w,W w→W w.drew) (h:WD P os.toArray C Q n ds l W ord):WC P (.region id os.toArray true) Q n ds l W:=
 fun a w ha hw=>wp_region_c ord hm hB hQ (h a w.drew ha (hW w hw))
theorem Dq {r:List (Nat×Bool)} {i d:Nat} {op:Op} {ty:TypeId} {pos:String} {af:Array Edge} {g:Option (Nat×Bool)} {v:Value} (hi:ops[i]? = some ⟨some d,op,ty,pos,af,g⟩) (hg:GOk ops l g) (hn:Nat.blt d n=true)
   (hC:∀w,W w→C w) (hy:Yl P l C ⟨some d,op,ty,pos,af,g⟩ v) (h:WD P ops C Q n ds ((d,v)::l) W r):WD P ops C Q n ds l W ((i,true)::r):=by
 intro a w ha hw
 refine ⟨hC w hw,_,v,hi,.inl ⟨GOk.wanted (o:=⟨some d,op,ty,pos,af,g⟩) hg ha,fun w' hw'=>hy a.eval w' (fun x u hx=>ha.eval hx) hw'⟩,h _ _ (ha.put hn v) hw⟩
theorem De {r:List (Nat×Bool)} {i:Nat} {o:Oper} (hi:ops[i]? = some o) (hC:∀w,W w→C w) (h:WL P ops (Exit.then (wpC P ops C Q r) Q) n ds l W [o]):WD P ops C Q n ds l W ((i,false)::r):=by
 intro a w ha hw
 refine ⟨hC w hw,?_⟩
 have:=h a w ha hw
 unfold wpList at this
 unfold wpOp
 simp only [hi]
 split
 · rename_i hw'
   rw [if_pos hw'] at this
   rcases this with this | ⟨h1,a2,w2,h2⟩
   · left
     unfold Oper.wp at this ⊢
     unfold Oper.upon at this ⊢
     split at this
     all_goals first
       | exact this
       | (refine this.mono fun e w' he=>?_
          cases e with
          | returned v=>exact he
          | panicked ch=>exact he
          | outgrown=>obtain ⟨a3,w3,h3⟩:=he; exact ⟨a3,w3,h3⟩)
       | exact this.mono fun v w' he=>he
   · exact .inr ⟨h1,a2,w2,h2⟩
 · rename_i hw'
   rw [if_neg hw'] at this
   exact this
theorem Ed {r:List (Nat×Bool)} (h:WD P ops C Q n ds l W r):WE (Exit.then (wpC P ops C Q r) Q) .normal n ds l W:=h
theorem WD.nil (hC:∀w,W w→C w) (h:WE Q .normal n ds l W):WD P ops C Q n ds l W []:=fun a w ha hw=>⟨hC w hw,h a w ha hw⟩
theorem Ws.drew {w0 w:World} {F:List Nat} {L:List Asr} {Vs:List View} (h:Ws w0 F L Vs w):Ws w0 F L Vs w.drew:=h.ext (Ext.drew w)
theorem Ws.out {w0 w:World} {F:List Nat} {L:List Asr} {Vs:List View} (i:Nat) (h:Ws w0 F L Vs w):Ws w0 F (outOf i L) Vs w:=by
 cases hx:L[i]? with
 | none=>
   have:outOf i L=L:=by
     clear h
     induction L generalizing i with
     | nil=>cases i<;>rfl
     | cons x r ih=>
       cases i with
       | zero=>simp at hx
       | succ i=>simp only [outOf]; rw [ih i (by simpa using hx)]
   rw [this]; exact h
 | some x=>exact Ws.drop (L:=[x]) (h.perm (outOf_perm i L hx))
end
end Go.Bw
end
section
namespace Go.Bw
open Go Go.RowKit
section
variable {P:Program} {ops:Array Oper} {Q:Exit→Act→World→Prop} {n:Nat} {ds:List Deferred} {l l':List (Nat×Value)} {W:World→Prop} {w0:World} {F:List Nat} {L:List Asr} {Vs:List View}
 {rest:List Oper} {d:Nat} {ty:TypeId} {pos:String} {af:Array Edge} {g:Option (Nat×Bool)}
def zerosL (z:Value) (k:Nat):List Value:=(List.range k).map fun i=>((vcells z)[i % (vcells z).length]?).getD undef
theorem zerosL_eq (z:Value) (k:Nat) (hz:0<z.cells.size):((Array.range k).map (z.cells[· % z.cells.size]!):Array Value).toList=zerosL z k:=by
 simp only [Array.toList_map,Array.toList_range,zerosL]
 apply List.map_congr_left
 intro i _
 have hlt:i % z.cells.size<z.cells.size:=Nat.mod_lt _ hz
 have e:(vcells z).length=z.cells.size:=by rw [←vcells_eq]; simp
 rw [e,←vcells_eq]
 simp [hlt]
theorem WL.bslice {t e:TypeId} {len size bytes:Nat} {parts:List (Nat×Operand)} {z:Value} {vs:List (Nat×Value)} {out:List Value} (hg:GOk ops l g) (hn:Nat.blt d n=true) (hE:EltOk P t e z size bytes)
   (hv:evp l parts=some vs) (hb:Nat.ble (len*size) 16777216=true) (hf:fillL (fun i=>some (i*size,size)) (bif Nat.beq (len*size) 0 then [] else zerosL z (len*size)) vs=some out)
   (h:∀b,WL P ops Q n ds ((d,.slice (some ⟨b,0,none⟩) len len)::l) (Ws w0 F (blk b (.cells out.toArray e (0,0))::L) Vs) rest) :
   WL P ops Q n ds l (Ws w0 F L Vs) (⟨some d,.buildSlice t len parts.toArray,ty,pos,af,g⟩::rest):=by
 obtain ⟨inf,hi,hz,hsz,hbt⟩:=hE.info
 have hb':=Nat.le_of_ble_eq_true hb
 refine WL.new (mk:=fun b=>.slice (some ⟨b,0,none⟩) len len) hg hn (fun ρ w hρ hw=>?_) h
 have e1:((parts.toArray.map fun (i,x)=>(i,ρ x)):Array (Nat×Value)).toList=vs:=by simpa using evp_map hρ parts vs hv
 have hzs:zeroOf P e=some z:=by simp [zeroOf,hi,hz]
 have hss:sizeP P e=some size:=by simp [sizeP,hi,hsz]
 have hnot:¬len*size > 2 ^ 24:=by omega
 by_cases h0:len*size=0
 · have hfill:Instr.fill (fun i=>some (i*size,size)) #[] vs=some out.toArray:=by
     refine fill_of _ vs #[] out ?_
     simpa [h0] using hf
   simp only [execOp,Instr.buildSlice,Sem.run_bind,run_underlying hE.under,Result.andThen_ok,run_size hss,if_neg hnot,Sem.run_pure,if_pos h0,e1]
   simp [h0,hfill,newRow,Array.range_zero']
 · have hfill:Instr.fill (fun i=>some (i*size,size)) ((Array.range (len*size)).map (z.cells[· % z.cells.size]!)) vs=some out.toArray:=by
     refine fill_of _ vs _ out ?_
     rw [zerosL_eq z _ (by rw [hE.zs]; exact hE.pos)]
     have:Nat.beq (len*size) 0=false:=by
       cases hbq:Nat.beq (len*size) 0 with
       | false=>rfl
       | true=>exact absurd (Nat.eq_of_beq_eq_true hbq) h0
     simpa [this] using hf
   simp only [execOp,Instr.buildSlice,Sem.run_bind,run_underlying hE.under,Result.andThen_ok,run_size hss,if_neg hnot,Sem.run_pure,if_neg h0,e1,run_zero hzs,hfill]
   simp [newRow]
theorem run_callv {ρ:Operand→Value} {dst:Option Tmp} {f:FuncId} {cx:Operand} {caps:Array Value} {args:Array Operand} {ts:Array TypeId} {vs:List Value} {w:World} (hf:Enters P f) (hρ:∀x u,opv l x=some u→ρ x=u)
   (hcx:opv l cx=some (.func (.func f) #[] caps)) (ha:evs l args.toList=some vs) :
   (execOp ρ ⟨dst,.call ⟨.value cx,args,ts⟩,ty,pos,af,g⟩).run P w = .ok (.enter f (vs.toArray++caps)) w:=by
 have e:args.map ρ=vs.toArray:=by
   apply Array.ext'
   simpa using evs_map hρ _ _ ha
 simp only [execOp,resolve,e,hρ cx _ hcx,Deferred.ofValue,Sem.run_bind,Sem.run_pure,Result.andThen_ok,invoke]
 simpa using hf _ w
theorem WL.callvp {f:FuncId} {cx:Operand} {caps:Array Value} {args:Array Operand} {ts:Array TypeId} {vs:List Value} {v:Value} (hg:GOk ops l g) (hn:Nat.blt d n=true) (hf:Enters P f) (hcx:opv l cx=some (.func (.func f) #[] caps)) (ha:evs l args.toList=some vs)
   (hC:∀w,Ws w0 F L Vs w→Calls P f (vs.toArray++caps) w fun e w'=>e = .returned v∧Ext w w')
   (hr:WL P ops Q n ds ((d,v)::l) (Ws w0 F L Vs) rest) :
   WL P ops Q n ds l (Ws w0 F L Vs) (⟨some d,.call ⟨.value cx,args,ts⟩,ty,pos,af,g⟩::rest):=by
 refine WL.step hg fun a w ha' hw K hK=>?_
 have hrun:=run_callv (P:=P) (dst:=some d) (ts:=ts) (ty:=ty) (pos:=pos) (af:=af) (g:=g) (w:=w) hf (fun x u hx=>ha'.eval hx) hcx ha
 simp only [Oper.wp,hrun,Oper.upon_enter]
 refine (hC w hw).mono fun e w' he=>?_
 obtain ⟨rfl,h⟩:=he
 exact hK _ _ (hr _ _ (ha'.put hn _) (hw.ext h))
end
theorem Ws.nvc {w0 w:World} {L:List Asr} {Vs:List View} (h:Ws w0 [] L Vs w) (i:Nat) {b:Nat} {ob:Obj} (hL:L[i]? = some (blk b ob)) {k:Nat} {v:Value} (hc:cellIn ob k=some v):vc (nv w0 w) b k=some v:=by
 have hb:w.heap[b]? = some ob:=h.kn _ (mem_of_idx hL)
 have ho:=h.own _ (mem_of_idx hL) b (by simp [blk])
 simp at ho
 unfold vc nv
 rw [if_pos ho,hb]
 exact hc
theorem Ws.nvs {w0 w:World} {L:List Asr} {Vs:List View} (h:Ws w0 [] L Vs w) (i:Nat) {e:TypeId} {size m:Nat} {v:Value} {xs:List Value} (hL:L[i]? = some (osl e size v m xs)) :
   (v = .slice none 0 0∧xs=[])∨∃b c,v = .slice (some ⟨b,0,none⟩) m c∧m≤c∧c≤maxLen∧∀j u,xs[j]? = some u→vc (nv w0 w) b j=some u:=by
 obtain ⟨h1,h2⟩:=(h.kn _ (mem_of_idx hL):w.ownsRow 0 e size v m xs)
 rcases h2 with ⟨rfl,rfl⟩ | ⟨b,cap,cur,rfl,_,hb,hm,hc,hs,ht⟩
 · exact .inl ⟨rfl,by cases xs; rfl; simp at h1⟩
 · refine .inr ⟨b,cap,rfl,hm,hc,fun j u hu=>?_⟩
   have ho:=h.own _ (mem_of_idx hL) b (by simp [osl,Value.ownBlock])
   simp at ho
   unfold vc nv
   rw [if_pos ho,hb]
   rw [←ht,List.getElem?_take] at hu
   split at hu
   · simpa [cellIn] using hu
   · cases hu
end Go.Bw
end
section
namespace Go.Bw
open Go Go.RowKit
theorem flat_length {α:Type} {f:α→List Value} {k:Nat} (hf:∀x,(f x).length=k):∀l:List α,(l.flatMap f).length=l.length*k
 | []=>by simp
 | x::r=>by simp [hf,flat_length hf r,Nat.add_mul]; omega
theorem flat_split {α:Type} {f:α→List Value} {k:Nat} (hf:∀x,(f x).length=k):∀(l:List α) (i:Nat) (x:α),l[i]? = some x→
   l.flatMap f=(l.take i).flatMap f++f x++(l.drop (i+1)).flatMap f
 | [],i,x,h=>by simp at h
 | y::r,0,x,h=>by simp at h; simp [h]
 | y::r,i+1,x,h=>by
   have:=flat_split hf r i x (by simpa using h)
   simp only [List.flatMap_cons,List.take_succ_cons,List.drop_succ_cons]
   rw [this]
   simp
theorem flat_get {α:Type} {f:α→List Value} {k:Nat} (hf:∀x,(f x).length=k) {l:List α} {i:Nat} {x:α} (h:l[i]? = some x) {j:Nat} (hj:j<k):(l.flatMap f)[i*k+j]? = (f x)[j]?:=by
 have hi:=(List.getElem?_eq_some_iff.1 h).1
 have e1:((l.take i).flatMap f).length=i*k:=by rw [flat_length hf,List.length_take,Nat.min_eq_left (by omega)]
 rw [flat_split hf l i x h,List.append_assoc,List.getElem?_append_right (by omega),e1,Nat.add_sub_cancel_left,List.getElem?_append_left (by rw [hf]; exact hj)]
theorem flat_set {α:Type} {f:α→List Value} {k:Nat} (hf:∀x,(f x).length=k) {l:List α} {i:Nat} {x y:α} (h:l[i]? = some x) {j:Nat} {vs:List Value} (hj:j+vs.length≤k) (hy:f y=(f x).take j++vs++(f x).drop (j+vs.length)) :
   (l.flatMap f).take (i*k+j)++vs++(l.flatMap f).drop (i*k+j+vs.length)=(l.set i y).flatMap f:=by
 have hi:=(List.getElem?_eq_some_iff.1 h).1
 have e1:((l.take i).flatMap f).length=i*k:=by rw [flat_length hf,List.length_take,Nat.min_eq_left (by omega)]
 have h2:(l.set i y)[i]? = some y:=by simp [hi]
 rw [flat_split hf (l.set i y) i y h2,flat_split hf l i x h,hy]
 have ht:(l.set i y).take i=l.take i:=List.take_set_of_le (Nat.le_refl i)
 have hd:(l.set i y).drop (i+1)=l.drop (i+1):=List.drop_set_of_lt (by omega)
 rw [ht,hd]
 generalize hA:(l.take i).flatMap f=A at *
 generalize hB:(l.drop (i+1)).flatMap f=B at *
 have t1:(A++f x++B).take (i*k+j)=A++(f x).take j:=by
   rw [List.append_assoc,List.take_append,e1,List.take_of_length_le (by omega),Nat.add_sub_cancel_left,List.take_append_of_le_length (by rw [hf]; omega)]
 have t2:(A++f x++B).drop (i*k+j+vs.length)=(f x).drop (j+vs.length)++B:=by
   rw [List.append_assoc,List.drop_append,e1,List.drop_of_length_le (by omega),List.nil_append,List.drop_append,hf]
   have e3:i*k+j+vs.length-i*k=j+vs.length:=by omega
   rw [e3]
   have e4:j+vs.length-k=0:=by omega
   simp [e4]
 rw [t1,t2]
 simp
section
variable {P:Program} {ops:Array Oper} {Q:Exit→Act→World→Prop} {n:Nat} {ds:List Deferred} {l l':List (Nat×Value)} {W:World→Prop} {w0:World} {F:List Nat} {L:List Asr} {Vs:List View}
 {rest:List Oper} {d:Nat} {ty:TypeId} {pos:String} {af:Array Edge} {g:Option (Nat×Bool)}
theorem WL.callo {f:FuncId} {args:Array Operand} {ts:Array TypeId} {vs:List Value} {e:TypeId} {size m:Nat} {xs:List Value} (hg:GOk ops l g) (hn:Nat.blt d n=true) (hf:Enters P f) (ha:evs l args.toList=some vs)
   (hC:∀w,Ws w0 F L Vs w→Calls P f vs.toArray w fun e' w'=>∃v,e' = .returned v∧Ext w w'∧w'.ownsRow w.heap.size e size v m xs)
   (hr:∀v,(v = .slice none 0 0∧m=0∨∃b c,v = .slice (some ⟨b,0,none⟩) m c∧m≤c∧c≤maxLen)→WL P ops Q n ds ((d,v)::l) (Ws w0 F (osl e size v m xs::L) Vs) rest) :
   WL P ops Q n ds l (Ws w0 F L Vs) (⟨some d,.call ⟨.value (.func f),args,ts⟩,ty,pos,af,g⟩::rest):=by
 refine WL.step hg fun a w ha' hw K hK=>?_
 have hrun:=run_call (P:=P) (dst:=some d) (ts:=ts) (ty:=ty) (pos:=pos) (af:=af) (g:=g) (w:=w) hf (fun x u hx=>ha'.eval hx) ha
 simp only [Oper.wp,hrun,Oper.upon_enter]
 refine (hC w hw).mono fun e' w' he=>?_
 obtain ⟨v,rfl,hx,ho⟩:=he
 have hbase:w'.ownsRow 0 e size v m xs:=by
   obtain ⟨h1,h2⟩:=ho
   rcases h2 with h2 | ⟨g',cap,cur,hv,_,r⟩
   · exact ⟨h1,.inl h2⟩
   · exact ⟨h1,.inr ⟨g',cap,cur,hv,Nat.zero_le _,r⟩⟩
 refine hK _ _ (hr v ?_ _ _ (ha'.put hn _) ?_)
 · obtain ⟨_,h2⟩:=ho
   rcases h2 with ⟨h2,h3⟩ | ⟨g',cap,cur,hv,_,_,hm,hc,_⟩
   · exact .inl ⟨h2,h3⟩
   · exact .inr ⟨g',cap,hv,hm,hc⟩
 · have:=Ws.turn (L:=[]) (L':=[osl e size v m xs]) (L2:=L) (by simpa using hw) (by simpa using hx) (by intro A hA; simp at hA; subst hA; exact hbase)
     (by cases hv:v.ownBlock<;>simp [osl,hv]) (by
       intro A hA k hk
       simp at hA; subst hA
       simp only [osl,Option.mem_toList] at hk
       obtain ⟨_,h2⟩:=ho
       rcases h2 with ⟨h2,_⟩ | ⟨g',cap,cur,hv,hb,_⟩
       · subst h2; simp [Value.ownBlock] at hk
       · subst hv; simp [Value.ownBlock] at hk; subst hk; exact .inr hb)
   simpa using this
theorem WL.asOsl {b m cap:Nat} {cur:Array Value} {e:TypeId} {size:Nat} (i:Nat) (hL:L[i]? = some (blk b (.cells cur e (0,0)))) (hm:m≤cap) (hc:cap≤maxLen) (hs:cur.size=cap*size)
   (h:WL P ops Q n ds l (Ws w0 F (L.set i (osl e size (.slice (some ⟨b,0,none⟩) m cap) m (cur.toList.take (m*size)))) Vs) rest):WL P ops Q n ds l (Ws w0 F L Vs) rest:=
 LW (fun _ hw=>hw.osl_blk i hL hm hc hs) h
end
section
variable {P:Program} {l:List (Nat×Value)} {W:World→Prop} {d:Option Tmp} {ty:TypeId} {pos:String} {af:Array Edge} {g:Option (Nat×Bool)}
theorem yl_eqnil {t u:TypeId} {x:Operand} {a:Option Addr} {m c s:Nat} (hs:elemSz P t=some s) (hx:opv l x=some (.slice a m c)):Yl P l W ⟨d,.binOp .eql t x (.const (.slice none 0 0)) u,ty,pos,af,g⟩ (.bool a.isNone):=by
 intro ρ w hρ _
 unfold elemSz at hs
 cases hu:P.underlying t with
 | none=>simp [hu] at hs
 | some dd=>
   cases dd<;>simp [hu] at hs
   have hy:ρ (.const (.slice none 0 0)) = .slice none 0 0:=hρ _ _ rfl
   rename_i el
   have e:(binOp .eql t (.slice a m c) (.slice none 0 0)).run P w = .ok (.bool a.isNone) w:=by
     simp only [binOp]
     simp [Op.equal,Op.maxDepth,Lib.run_equalIn_slice_nil w 9999 t el a m c 0 0 hu]
   simp only [execOp,hρ x _ hx,hy,eqGuard,Sem.run_bind]
   simp [e]
end
end Go.Bw
end
section
namespace Go.Bw
open Go Go.RowKit
section
variable {P:Program} {ops:Array Oper} {Q:Exit→Act→World→Prop} {n:Nat} {ds:List Deferred} {l l':List (Nat×Value)} {W:World→Prop} {w0:World} {F:List Nat} {L:List Asr} {Vs:List View}
 {rest:List Oper} {d:Nat} {ty:TypeId} {pos:String} {af:Array Edge} {g:Option (Nat×Bool)}
theorem Lf {A:Asr} (i:Nat) (hL:L[i]? = some A) (h:WL P ops Q n ds l (Ws w0 F (A::outOf i L) Vs) rest):WL P ops Q n ds l (Ws w0 F L Vs) rest:=
 LW (fun _ hw=>hw.perm (outOf_perm i L hL)) h
theorem WC.front {c:Code} {A:Asr} (i:Nat) (hL:L[i]? = some A) (h:WC P c Q n ds l (Ws w0 F (A::outOf i L) Vs)):WC P c Q n ds l (Ws w0 F L Vs):=
 CWd (fun _ hw=>hw.perm (outOf_perm i L hL)) h
theorem Ws.self {w:World} {L1 L2:List Asr} (h:Ws w0 F (L1++L2) Vs w):Ws w (L1.flatMap Asr.ids) L1 Vs w:=by
 have nd:=h.nd
 rw [List.flatMap_append,List.nodup_append] at nd
 exact ⟨Fr.refl _ _,fun A hA=>h.kn A (by simp [hA]),nd.1,fun A hA k hk=>.inl (List.mem_flatMap.2 ⟨A,hA,hk⟩),h.vs,fun H hH A hA=>h.off H hH A (by simp [hA])⟩
theorem Ws.back {w w':World} {L1 L1' L2:List Asr} {Vs':List View} (h:Ws w0 F (L1++L2) Vs w) (g:Ws w (L1.flatMap Asr.ids) L1' Vs' w'):Ws w0 F (L1'++L2) Vs w':=
 Ws.turn h g.fr g.kn g.nd g.own
theorem Lw {ι:Type} {f:FuncId} {args:Array Operand} {ts:Array TypeId} {vs:List Value} (L1 L2:List Asr) (hg:GOk ops l g) (hn:Nat.blt d n=true) (hf:Enters P f) (ha:evs l args.toList=some vs) (hL:L=L1++L2)
   (v:ι→Value) (L1':ι→List Asr) (R:ι→Prop) (Vs':List View) (hV:∀H ∈ Vs',H ∈ Vs)
   (hC:∀w,Ws w (L1.flatMap Asr.ids) L1 Vs' w→Calls P f vs.toArray w fun e w'=>∃i,e = .returned (v i)∧R i∧Ws w (L1.flatMap Asr.ids) (L1' i) Vs' w')
   (hr:∀i,R i→WL P ops Q n ds ((d,v i)::l) (Ws w0 F (L1' i++L2) Vs) rest) :
   WL P ops Q n ds l (Ws w0 F L Vs) (⟨some d,.call ⟨.value (.func f),args,ts⟩,ty,pos,af,g⟩::rest):=by
 subst hL
 refine WL.call hg hn hf ha v (fun i w'=>R i∧Ws w0 F (L1' i++L2) Vs w') (fun w hw=>(hC w (hw.self.drops hV)).mono fun e w' ⟨i,he,hR,h⟩=>⟨i,he,hR,hw.back h⟩) fun i=>?_
 intro a w ha' hw
 exact hr i hw.1 a w ha' hw.2
theorem WL.callw0 {f:FuncId} {args:Array Operand} {ts:Array TypeId} {vs:List Value} (L1 L2 L1':List Asr) (hg:GOk ops l g) (hn:Nat.blt d n=true) (hf:Enters P f) (ha:evs l args.toList=some vs) (hL:L=L1++L2)
   (Vs':List View) (hV:∀H ∈ Vs',H ∈ Vs)
   (hC:∀w,Ws w (L1.flatMap Asr.ids) L1 Vs' w→Calls P f vs.toArray w fun e w'=>e = .returned (.tuple #[])∧Ws w (L1.flatMap Asr.ids) L1' Vs' w')
   (hr:WL P ops Q n ds ((d,.tuple #[])::l) (Ws w0 F (L1'++L2) Vs) rest) :
   WL P ops Q n ds l (Ws w0 F L Vs) (⟨some d,.call ⟨.value (.func f),args,ts⟩,ty,pos,af,g⟩::rest):=
 Lw (ι:=Unit) L1 L2 hg hn hf ha hL (fun _=>.tuple #[]) (fun _=>L1') (fun _=>True) Vs' hV (fun w hw=>(hC w hw).mono fun e w' ⟨h1,h2⟩=>⟨(),h1,trivial,h2⟩) (fun _ _=>hr)
end
def hv (w:World):View:=fun b=>w.heap[b]?
theorem hv_le (w:World):Le (hv w) w:=fun _ _ h=>h
theorem hv_of {w:World} {H:View} (h:Le H w):VLe H (hv w):=fun b o hb=>h b o hb
end Go.Bw
namespace Go.Bw
open Go Go.RowKit
section
variable {P:Program} {ops:Array Oper} {Q:Exit→Act→World→Prop} {n:Nat} {ds:List Deferred} {l l':List (Nat×Value)} {W:World→Prop} {w0:World} {F:List Nat} {L:List Asr} {Vs:List View} {rest:List Oper}
theorem Lrb {b:Nat} {ob:Obj} (i:Nat) (ob':Obj) (hL:L[i]? = some (blk b ob)) (he:ob=ob') (h:WL P ops Q n ds l (Ws w0 F (L.set i (blk b ob')) Vs) rest):WL P ops Q n ds l (Ws w0 F L Vs) rest:=by
 subst he
 have:L.set i (blk b ob)=L:=by
   obtain ⟨hi,he⟩:=List.getElem?_eq_some_iff.1 hL
   rw [←he]
   exact List.set_getElem_self hi
 rwa [this] at h
end
end Go.Bw
end
section
namespace Go.Bw
open Go Go.RowKit
section
variable {P:Program} {l:List (Nat×Value)} {W:World→Prop} {d:Option Tmp} {ty:TypeId} {pos:String} {af:Array Edge} {g:Option (Nat×Bool)}
theorem yl_rem {t u:TypeId} {x y:Operand} {k:IntKind} {a b:Int} (hx:opv l x=some (.int k a)) (hy:opv l y=some (.int k b)) (hb:b≠0):Yl P l W ⟨d,.binOp .rem t x y u,ty,pos,af,g⟩ (.int k (a.tmod b)):=
 fun ρ w hρ _=>by simp [execOp,hρ x _ hx,hρ y _ hy,eqGuard,binOp,Op.intDiv,hb]
end
end Go.Bw
namespace Go.Bw
open Go Go.RowKit
theorem Sl.flat {α:Type} {rd:View→Nat→Nat→α→Prop} {k:Nat} {H:View} {b o c:Nat} {l:List α} {f:α→List Value} (h:Sl rd k H (some ⟨b,o,none⟩) c l) (hf:∀x,(f x).length=k) (hk:0<k) (hrd:∀b o x,rd H b o x→RdC H b o (f x)) :
   ∀j u,(l.flatMap f)[j]? = some u→vc H b (o+j)=some u:=by
 intro j u hu
 have hj:=(List.getElem?_eq_some_iff.1 hu).1
 rw [flat_length hf] at hj
 have hi:j / k<l.length:=Nat.div_lt_of_lt_mul (by rw [Nat.mul_comm]; exact hj)
 have hx:l[j / k]? = some l[j / k]:=List.getElem?_eq_getElem hi
 have hm:j % k<k:=Nat.mod_lt _ hk
 have e:j / k*k+j % k=j:=by rw [Nat.mul_comm]; exact Nat.div_add_mod j k
 have h2:=flat_get hf hx hm
 rw [e,hu] at h2
 obtain ⟨b',o',hbo,hr⟩:=h.elt _ _ hx
 simp at hbo
 obtain ⟨rfl,rfl⟩:=hbo
 have h3:=hrd _ _ _ hr (j % k) u h2.symm
 rw [Nat.add_assoc,e] at h3
 exact h3
end Go.Bw
end
section
namespace Go.Bw
open Go Go.RowKit
section
variable {P:Program} {Q:Exit→Act→World→Prop} {n:Nat} {ds:List Deferred} {l:List (Nat×Value)}
theorem WC.draws0 {id:Nat} {os:List Oper} {w0:World} {F:List Nat} {L:List Asr} {Vs:List View} (ord:List (Nat×Bool)) (hm:P.follows .mixedOrders=true) (hB:(Region.noSelect os.toArray&&(ord.length==os.toArray.size&&ordB .any os.toArray ord (Array.replicate os.toArray.size false)))=true)
   (hQ:∀c a w d v,Q (.panic c) (a.put d v) w→Q (.panic c) a w) (h:WD P os.toArray (Ws w0 F L Vs) Q n ds l (Ws w0 F L Vs) ord):WC P (.region id os.toArray true) Q n ds l (Ws w0 F L Vs):=
 WC.draws _ ord hm hB hQ (fun _ h=>h.drew) h
theorem WC.draws1 {id:Nat} {os:List Oper} {w0:World} {F:List Nat} {L:List Asr} {Vs:List View} (i:Nat) (ord:List (Nat×Bool)) (hm:P.follows .mixedOrders=true) (hB:(Region.noSelect os.toArray&&(ord.length==os.toArray.size&&ordB .any os.toArray ord (Array.replicate os.toArray.size false)))=true)
   (hQ:∀c a w d v,Q (.panic c) (a.put d v) w→Q (.panic c) a w) (h:WD P os.toArray (Ws w0 F (outOf i L) Vs) Q n ds l (Ws w0 F L Vs) ord):WC P (.region id os.toArray true) Q n ds l (Ws w0 F L Vs):=
 WC.draws _ ord hm hB hQ (fun _ h=>h.drew) h
end
section
variable {P:Program} {l:List (Nat×Value)} {W:World→Prop} {d:Option Tmp} {ty:TypeId} {pos:String} {af:Array Edge} {g:Option (Nat×Bool)}
theorem yl_addn {t u:TypeId} {x y:Operand} {a b:Nat} {a' b':Int} (hx:opv l x=some (.int .i64 a')) (hy:opv l y=some (.int .i64 b')) (ea:a'=(a:Int)) (eb:b'=(b:Int)) (hb:(a:Int)+b≤9223372036854775807):Yl P l W ⟨d,.binOp .add t x y u,ty,pos,af,g⟩ (.int .i64 ((a+b:Nat):Int)):=by
 subst ea eb
 have:=yl_add (P:=P) (W:=W) (d:=d) (ty:=ty) (pos:=pos) (af:=af) (g:=g) (t:=t) (u:=u) hx hy ⟨by omega,hb⟩
 rwa [show ((a+b:Nat):Int)=(a:Int)+b by omega]
theorem yl_func {f:FuncId} {caps:Array Operand} {vs:List Value} (ha:evs l caps.toList=some vs):Yl P l W ⟨d,.makeFunc (.func f) #[] caps,ty,pos,af,g⟩ (.func (.func f) #[] vs.toArray):=by
 intro ρ w hρ _
 have e:caps.map ρ=vs.toArray:=by
   apply Array.ext'
   simpa using evs_map hρ _ _ ha
 simp [execOp,Instr.makeFunc,e]
end
section
variable {P:Program} {ops:Array Oper} {Q:Exit→Act→World→Prop} {n:Nat} {ds:List Deferred} {l:List (Nat×Value)} {w0:World} {F:List Nat} {L:List Asr} {Vs:List View} {rest:List Oper}
theorem WL.reosl {e:TypeId} {size m:Nat} {v:Value} {xs:List Value} (i m':Nat) (xs':List Value) (hL:L[i]? = some (osl e size v m xs)) (hm:m=m') (hx:xs=xs')
   (h:WL P ops Q n ds l (Ws w0 F (L.set i (osl e size v m' xs')) Vs) rest):WL P ops Q n ds l (Ws w0 F L Vs) rest:=by
 subst hm hx
 have:L.set i (osl e size v m xs)=L:=by
   obtain ⟨hi,he⟩:=List.getElem?_eq_some_iff.1 hL
   rw [←he]
   exact List.set_getElem_self hi
 rwa [this] at h
end
theorem Ws.keep {w0 w:World} {F:List Nat} {L L':List Asr} {Vs:List View} (h:Ws w0 F (L++L') Vs w):Ws w0 F L Vs w:=Ws.drop (h.perm List.perm_append_comm)
end Go.Bw
end
section
set_option linter.unusedSimpArgs false
namespace Go.Bw
open Go Go.RowKit
section
variable {P:Program} {l:List (Nat×Value)} {W:World→Prop} {w0:World} {F:List Nat} {L:List Asr} {Vs:List View} {d:Option Tmp} {ty:TypeId} {pos:String} {af:Array Edge} {g:Option (Nat×Bool)}
theorem yl_cvi {s t:TypeId} {k1 k k2:IntKind} {x:Operand} {n:Int} (hs:P.underlying s=some (.int k1)) (ht:P.underlying t=some (.int k2)) (hx:opv l x=some (.int k n)):Yl P l W ⟨d,.convert s t x,ty,pos,af,g⟩ (.int k2 (k2.wrap n)):=by
 intro ρ w hρ _
 simp [execOp,hρ x _ hx,convert,run_underlying hs,run_underlying ht,Conv.intToInt]
end
theorem blk_cells {w0 w:World} {F:List Nat} {L:List Asr} {Vs:List View} (h:Ws w0 F L Vs w) (i:Nat) {b:Nat} {c:Array Value} {T:TypeId} {fz:Nat×Nat} (hL:L[i]? = some (blk b (.cells c T fz))) {k:Nat} {u:Value} (hu:c.toList[k]? = some u):w.cell? ((⟨b,0,none⟩:Addr).add k)=some u:=by
 rw [add_none]
 exact cell_of_heap (h.kn _ (mem_of_idx hL)) (by simpa [cellIn] using hu)
def bv (b:Nat) (ob:Obj):View:=fun k=>if k=b then some ob else none
theorem Ws.blkview {w0 w:World} {F:List Nat} {L:List Asr} {Vs:List View} (h:Ws w0 F L Vs w) (i:Nat) {b:Nat} {ob:Obj} (hL:L[i]? = some (blk b ob)):Ws w0 F (outOf i L) (bv b ob::Vs) w:=by
 have hp:=h.perm (outOf_perm i L hL)
 have hd:Ws w0 F (outOf i L) Vs w:=Ws.drop (L:=[blk b ob]) hp
 have hb:w.heap[b]? = some ob:=h.kn _ (mem_of_idx hL)
 have nd:=hp.nd
 rw [List.flatMap_cons,List.nodup_append] at nd
 refine ⟨hd.fr,hd.kn,hd.nd,hd.own,?_,?_⟩
 · intro H hH
   rcases List.mem_cons.1 hH with rfl | hH
   · intro k o hk
     unfold bv at hk
     split at hk
     · rename_i e; subst e; injection hk with hk; subst hk; exact hb
     · cases hk
   · exact hd.vs H hH
 · intro H hH A hA k hk
   rcases List.mem_cons.1 hH with rfl | hH
   · unfold bv
     rw [if_neg]
     intro e
     subst e
     exact nd.2.2 k (by simp [blk]) k (List.mem_flatMap.2 ⟨A,hA,hk⟩) rfl
   · exact hd.off H hH A hA k hk
section
variable {P:Program} {ops:Array Oper} {Q:Exit→Act→World→Prop} {n:Nat} {ds:List Deferred} {l:List (Nat×Value)} {w0:World} {F:List Nat} {L:List Asr} {Vs:List View} {rest:List Oper}
theorem WL.blkview {b:Nat} {ob:Obj} (i:Nat) (hL:L[i]? = some (blk b ob)) (h:WL P ops Q n ds l (Ws w0 F (outOf i L) (bv b ob::Vs)) rest):WL P ops Q n ds l (Ws w0 F L Vs) rest:=
 LW (fun _ hw=>hw.blkview i hL) h
end
section
variable {P:Program} {l:List (Nat×Value)} {W:World→Prop} {d:Option Tmp} {ty:TypeId} {pos:String} {af:Array Edge} {g:Option (Nat×Bool)}
theorem yl_addv {t u:TypeId} {x y:Operand} {a b:Int} (v:Int) (hx:opv l x=some (.int .i64 a)) (hy:opv l y=some (.int .i64 b)) (he:a+b=v) (hb : -9223372036854775808≤v∧v≤9223372036854775807):Yl P l W ⟨d,.binOp .add t x y u,ty,pos,af,g⟩ (.int .i64 v):=by
 subst he; exact yl_add hx hy hb
theorem yl_subv {t u:TypeId} {x y:Operand} {a b:Int} (v:Int) (hx:opv l x=some (.int .i64 a)) (hy:opv l y=some (.int .i64 b)) (he:a-b=v) (hb : -9223372036854775808≤v∧v≤9223372036854775807):Yl P l W ⟨d,.binOp .sub t x y u,ty,pos,af,g⟩ (.int .i64 v):=by
 subst he; exact yl_sub hx hy hb
end
def fullB (size:Nat):Nat→List (Nat×Value)→Bool
 | _,[]=>true
 | k,(i,v)::r=>Nat.beq i k&&Nat.beq (vcells v).length size&&fullB size (k+1) r
def fullV:List (Nat×Value)→List Value
 | []=>[]
 | (_,v)::r=>vcells v++fullV r
theorem fill_full (size:Nat):∀(vs:List (Nat×Value)) (k:Nat) (done rest:List Value),fullB size k vs=true→done.length=k*size→rest.length=vs.length*size→
   fillL (fun i=>some (i*size,size)) (done++rest) vs=some (done++fullV vs)
 | [],k,done,rest,_,_,hr=>by
   have:rest=[]:=List.eq_nil_of_length_eq_zero (by simpa using hr)
   simp [fillL,fullV,this]
 | (i,v)::r,k,done,rest,hf,hd,hr=>by
   simp only [fullB,Bool.and_eq_true] at hf
   obtain ⟨⟨h1,h2⟩,h3⟩:=hf
   have h1:=Nat.eq_of_beq_eq_true h1
   subst h1
   have h2:=Nat.eq_of_beq_eq_true h2
   have hrl:size≤rest.length:=by rw [hr,List.length_cons,Nat.add_mul]; omega
   have hb:(Nat.beq (vcells v).length size&&Nat.ble (i*size+size) (done++rest).length)=true:=by
     rw [h2,Nat.beq_refl,Bool.true_and]
     exact Nat.ble_eq_true_of_le (by simp; omega)
   simp only [fillL,hb,cond_true]
   have e1:(done++rest).take (i*size)=done:=by rw [←hd]; simp
   have e2:(done++rest).drop (i*size+size)=rest.drop size:=by
     rw [List.drop_append,hd,List.drop_of_length_le (by omega)]
     simp
   rw [e1,e2]
   have:=fill_full size r (i+1) (done++vcells v) (rest.drop size) h3 (by simp [hd,h2,Nat.add_mul]) (by simp [hr,Nat.add_mul])
   rw [this]
   simp [fullV]
theorem zerosL_len (z:Value) (k:Nat):(zerosL z k).length=k:=by simp [zerosL]
section
variable {P:Program} {ops:Array Oper} {Q:Exit→Act→World→Prop} {n:Nat} {ds:List Deferred} {l:List (Nat×Value)} {w0:World} {F:List Nat} {L:List Asr} {Vs:List View} {rest:List Oper} {d:Nat} {ty:TypeId} {pos:String} {af:Array Edge} {g:Option (Nat×Bool)}
theorem Lb {t e:TypeId} {len size bytes:Nat} {parts:List (Nat×Operand)} {z:Value} {vs:List (Nat×Value)} (hg:GOk ops l g) (hn:Nat.blt d n=true) (hE:EltOk P t e z size bytes)
   (hv:evp l parts=some vs) (hb:Nat.ble (len*size) 16777216=true) (hf:fullB size 0 vs=true) (hl:vs.length=len)
   (h:∀b,WL P ops Q n ds ((d,.slice (some ⟨b,0,none⟩) len len)::l) (Ws w0 F (blk b (.cells (fullV vs).toArray e (0,0))::L) Vs) rest) :
   WL P ops Q n ds l (Ws w0 F L Vs) (⟨some d,.buildSlice t len parts.toArray,ty,pos,af,g⟩::rest):=by
 refine WL.bslice hg hn hE hv hb (out:=fullV vs) ?_ h
 have hz:(bif Nat.beq (len*size) 0 then [] else zerosL z (len*size))=zerosL z (len*size):=by
   cases hq:Nat.beq (len*size) 0 with
   | false=>rfl
   | true=>have:=Nat.eq_of_beq_eq_true hq; rw [this]; rfl
 rw [hz]
 have:=fill_full size vs 0 [] (zerosL z (len*size)) hf (by simp) (by rw [zerosL_len,hl])
 simpa using this
end
end Go.Bw
end
section
namespace Go.Bw
open Go Go.RowKit
inductive Ord where
 | nil
 | stop
 | q (i:Nat) (r:Ord)
 | e (i:Nat) (r alt:Ord)
def Ord.alts:Ord→List Nat
 | .e i _ alt=>i::alt.alts
 | _=>[]
section
variable {P:Program} {md:Region.Mode} {ops:Array Oper} {C:World→Prop} {Q:Exit→Act→World→Prop}
def wpT (P:Program) (ops:Array Oper) (C:World→Prop) (Q:Exit→Act→World→Prop):Ord→Act→World→Prop
 | .nil,a,w=>C w∧Q .normal a w
 | .stop,_,_=>True
 | .q i r,a,w=>C w∧∃o v,ops[i]? = some o∧YV P ops C o v a∧wpT P ops C Q r (a.put o.dst v) w
 | .e i r alt,a,w=>C w∧(wpOp P ops Q i (wpT P ops C Q r) a w∧wpT P ops C Q alt a w)
variable {n:Nat} {ds:List Deferred} {l:List (Nat×Value)} {W:World→Prop}
def WT (P:Program) (ops:Array Oper) (C:World→Prop) (Q:Exit→Act→World→Prop) (n:Nat) (ds:List Deferred) (l:List (Nat×Value)) (W:World→Prop) (ord:Ord):Prop:=
 ∀a w,Ag n ds l a→W w→wpT P ops C Q ord a w
theorem WT.q {r:Ord} {i d:Nat} {op:Op} {ty:TypeId} {pos:String} {af:Array Edge} {g:Option (Nat×Bool)} {v:Value} (hi:ops[i]? = some ⟨some d,op,ty,pos,af,g⟩) (hg:GOk ops l g) (hn:Nat.blt d n=true)
   (hC:∀w,W w→C w) (hy:Yl P l C ⟨some d,op,ty,pos,af,g⟩ v) (h:WT P ops C Q n ds ((d,v)::l) W r):WT P ops C Q n ds l W (.q i r):=by
 intro a w ha hw
 refine ⟨hC w hw,_,v,hi,.inl ⟨GOk.wanted (o:=⟨some d,op,ty,pos,af,g⟩) hg ha,fun w' hw'=>hy a.eval w' (fun x u hx=>ha.eval hx) hw'⟩,h _ _ (ha.put hn v) hw⟩
theorem WT.e {r alt:Ord} {i:Nat} {o:Oper} (hi:ops[i]? = some o) (hC:∀w,W w→C w) (h:WL P ops (Exit.then (wpT P ops C Q r) Q) n ds l W [o]) (h2:WT P ops C Q n ds l W alt):WT P ops C Q n ds l W (.e i r alt):=by
 intro a w ha hw
 refine ⟨hC w hw,?_,h2 a w ha hw⟩
 have:=h a w ha hw
 unfold wpList at this
 unfold wpOp
 simp only [hi]
 split
 · rename_i hw'
   rw [if_pos hw'] at this
   rcases this with this | ⟨h1,a2,w2,h2⟩
   · left
     unfold Oper.wp at this ⊢
     unfold Oper.upon at this ⊢
     split at this
     all_goals first
       | exact this
       | (refine this.mono fun e w' he=>?_
          cases e with
          | returned v=>exact he
          | panicked ch=>exact he
          | outgrown=>obtain ⟨a3,w3,h3⟩:=he; exact ⟨a3,w3,h3⟩)
       | exact this.mono fun v w' he=>he
   · exact .inr ⟨h1,a2,w2,h2⟩
 · rename_i hw'
   rw [if_neg hw'] at this
   exact this
theorem WT.stop:WT P ops C Q n ds l W .stop:=fun _ _ _ _=>trivial
theorem WT.nil (hC:∀w,W w→C w) (h:WE Q .normal n ds l W):WT P ops C Q n ds l W .nil:=fun a w ha hw=>⟨hC w hw,h a w ha hw⟩
end
end Go.Bw
end
section
set_option linter.unusedSimpArgs false
namespace Go.Bw
open Go Go.RowKit
abbrev MEnt:=List UInt8×Value×Nat
def ment (e:MEnt):MapEntry:={ key:=st e.1,val:=e.2.1,born:=e.2.2 }
def mobj (m:List MEnt) (c:Nat):Obj:=.map (m.map ment).toArray c
theorem st_beq (a b:List UInt8):(ByteArray.mk a.toArray==ByteArray.mk b.toArray)=(a==b):=by
 show (a.toArray==b.toArray)=_
 simp
section
variable {P:Program} {ops:Array Oper} {Q:Exit→Act→World→Prop} {n:Nat} {ds:List Deferred} {l:List (Nat×Value)} {w0:World} {F:List Nat} {L:List Asr} {Vs:List View} {rest:List Oper} {d:Nat} {ty:TypeId} {pos:String} {af:Array Edge} {g:Option (Nat×Bool)}
theorem yl_mlen {dd:Option Tmp} {t kt e:TypeId} {x:Operand} {b c:Nat} {m:List MEnt} (i:Nat) (ht:P.underlying t=some (.map kt e)) (hx:opv l x=some (.map (some b))) (hL:L[i]? = some (blk b (mobj m c))) :
   Yl P l (Ws w0 F L Vs) ⟨dd,.call ⟨.builtin .len,#[x],#[t]⟩,ty,pos,af,g⟩ (.int .i64 (m.length:Int)):=by
 intro ρ w hρ hw
 have hb:w.heap[b]? = some (.map (m.map ment).toArray c):=hw.kn _ (mem_of_idx hL)
 simp [execOp,resolve,invoke,builtin,hρ x _ hx,Builtin.len_,run_underlying ht,MapKept.run_getObj_map hb,goInt]
theorem WL.slcm {e:TypeId} {size m:Nat} {v:Value} {xs:List Value} (i:Nat) (hL:L[i]? = some (osl e size v m xs))
   (h:∀a k,v = .slice a m k→WL P ops Q n ds l (Ws w0 F L Vs) rest):WL P ops Q n ds l (Ws w0 F L Vs) rest:=by
 intro a w ha hw
 obtain ⟨h1,h2⟩:=(hw.kn _ (mem_of_idx hL):w.ownsRow 0 e size v m xs)
 rcases h2 with ⟨h3,h4⟩ | ⟨b,cap,cur,hv,_⟩
 · exact h none 0 (by rw [h3,h4]) a w ha hw
 · exact h _ _ hv a w ha hw
end
end Go.Bw
end
section
namespace Go.Bw
open Go Go.RowKit
section
variable {P:Program} {ops:Array Oper} {Q:Exit→Act→World→Prop} {n:Nat} {ds:List Deferred} {l:List (Nat×Value)} {W:World→Prop} {w0:World} {F:List Nat} {L:List Asr} {Vs:List View}
 {rest:List Oper} {d:Nat} {ty:TypeId} {pos:String} {af:Array Edge} {g:Option (Nat×Bool)}
theorem WL.panic {x:Operand} {t:TypeId} {v:Value} {dd:Option Tmp} (hg:GOk ops l g) (hx:opv l x=some (.iface t v)) (h:WE Q (.panic [⟨.iface t v,false,false⟩]) n ds l W):WL P ops Q n ds l W (⟨dd,.panic x,ty,pos,af,g⟩::rest):=by
 refine WL.step hg fun a w ha hw K hK=>?_
 have:(execOp a.eval ⟨dd,.panic x,ty,pos,af,g⟩).run P w = .halt (.panic (.iface t v)) w:=by
   have e:(Instr.panic (.iface t v)).run P w = .halt (.panic (.iface t v)) w:=rfl
   simp [execOp,ha.eval hx,e]
 simp only [Oper.wp,this,Oper.upon_panic]
 exact h a w ha hw
theorem WL.defer {cx:Operand} {f:FuncId} {caps:List Value} {ts:Array TypeId} (hg:GOk ops l g) (hcx:opv l cx=some (.func (.func f) #[] caps.toArray))
   (h:WL P ops Q n (⟨.fn (.func f) caps.toArray,#[]⟩::ds) l W rest):WL P ops Q n ds l W (⟨none,.defer ⟨.value cx,#[],ts⟩,ty,pos,af,g⟩::rest):=by
 refine WL.step hg fun a w ha hw K hK=>?_
 have:(execOp a.eval ⟨none,.defer ⟨.value cx,#[],ts⟩,ty,pos,af,g⟩).run P w = .ok (.defer ⟨.fn (.func f) caps.toArray,#[]⟩) w:=by
   simp [execOp,resolve,ha.eval hcx,Deferred.ofValue]
 simp only [Oper.wp,this,Oper.upon_defer]
 refine hK _ _ (h _ _ ⟨ha.size,?_,ha.vals⟩ hw)
 show _::a.defers=_
 rw [ha.defs]
def Rs (P:Program) (fn:Func) (l:List (Nat×Value)) (W:World→Prop) (v:Value):Prop:=∀(tmps:Array Value) w,(∀t u,lk l t=some u→tmps.getD t undef=u)→W w→(results fn tmps).run P w = .ok v w
def rvS (tmps:Array Value):ResultVar→Sem Value
 | .tmp t=>pure (tmps.getD t undef)
 | .cell a t=>do loadVar t (←asAddr (tmps.getD a undef))
theorem results_eq (fn:Func) (tmps:Array Value):results fn tmps=(do let vs ←fn.results.mapM (rvS tmps); pure (if h:vs.size=1 then vs[0] else .tuple vs)):=by
 have e:(fun r:ResultVar=>match r with | .tmp t=>(pure (tmps.getD t undef):Sem Value) | .cell a t=>do loadVar t (←asAddr (tmps.getD a undef)))=rvS tmps:=by funext r; cases r<;>rfl
 rw [←e]; rfl
def Rv1 (P:Program) (l:List (Nat×Value)) (W:World→Prop) (r:ResultVar) (v:Value):Prop:=∀(tmps:Array Value) w,(∀t u,lk l t=some u→tmps.getD t undef=u)→W w→(rvS tmps r).run P w = .ok v w
theorem rv_tmp {t:Nat} {v:Value} (h:lk l t=some v):Rv1 P l W (.tmp t) v:=fun tmps w ht _=>by simp only [rvS,ht t v h,Sem.run_pure]
theorem rs_1 {fn:Func} {r:ResultVar} {v:Value} (hr:fn.results = #[r]) (h:Rv1 P l W r v):Rs P fn l W v:=fun tmps w ht hw=>by
 have h1:=h tmps w ht hw
 simp [results_eq,hr,Array.mapM_eq_mapM_toList,List.mapM_cons,List.mapM_nil,h1]
theorem WE.retR {fn:Func} {R:Ending→World→Prop} {v:Value} (hr:Rs P fn l W v) (h:∀w,W w→R (.returned v) w):WE (bodyPost P fn R) .ret n [] l W:=
 fun a w ha hw=>bodyPost_ret (hr a.tmps w ha.vals hw) ha.defs (h w hw)
end
end Go.Bw
end
section
namespace Go.Bw
open Go Go.RowKit
abbrev osT {α:Type} (e:TypeId) (k:Nat) (f:α→List Value) (a:Option Addr) (c:Nat) (xs:List α):Asr:=osl e k (.slice a xs.length c) xs.length (xs.flatMap f)
section
variable {P:Program} {ops:Array Oper} {Q:Exit→Act→World→Prop} {n:Nat} {ds:List Deferred} {l:List (Nat×Value)} {w0:World} {F:List Nat} {L:List Asr} {Vs:List View}
 {rest:List Oper} {d:Nat} {ty:TypeId} {pos:String} {af:Array Edge} {g:Option (Nat×Bool)}
theorem LA {α:Type} {f:α→List Value} {t e:TypeId} {z:Value} {size bytes cc:Nat} {s y:Operand} {a:Option Addr} {c bb:Nat} {xs:List α} {T:TypeId} {fz:Nat×Nat} (x:α) (i j:Nat) (hg:GOk ops l g) (hn:Nat.blt d n=true) (hE:EltOk P t e z size bytes)
   (hs:opv l s=some (.slice a xs.length c)) (hy:opv l y=some (.slice (some ⟨bb,0,none⟩) 1 cc)) (hL:L[i]? = some (osT e size f a c xs)) (hB:L[j]? = some (blk bb (.cells (f x).toArray T fz)))
   (hl:(f x).length=size) (h1:(f x).all (·.oneCell')=true) (h63:xs.length+1≤9223372036854775807) (hby:(xs.length+1)*bytes≤140737488355328)
   (h:∀a' c',WL P ops Q n ds ((d,.slice a' (xs++[x]).length c')::l) (Ws w0 F (L.set i (osT e size f a' c' (xs++[x]))) Vs) rest) :
   WL P ops Q n ds l (Ws w0 F L Vs) (⟨some d,.call ⟨.builtin .append,#[s,y],#[t,t]⟩,ty,pos,af,g⟩::rest):=by
 refine WL.append i hg hn hE hs hy hL (news:=f x) (k:=1) (by rw [Nat.one_mul]; exact hl) (fun w hw k u hu=>blk_cells hw j hB (k:=k) (by simpa using hu)) (fun u hu=>List.all_eq_true.1 h1 u hu) (by unfold maxLen; omega) hby fun v' _=>?_
 have e1:(xs.flatMap f)++f x=(xs++[x]).flatMap f:=by simp
 have e2:xs.length+1=(xs++[x]).length:=by simp
 rw [e1,e2]
 have hi:i<L.length:=(List.getElem?_eq_some_iff.1 hL).1
 refine WL.slcm i (m:=(xs++[x]).length) (xs:=(xs++[x]).flatMap f) (e:=e) (size:=size) (v:=v') (by simp [hi]) fun a' c' hv=>?_
 subst hv
 exact h a' c'
end
theorem Ws.slT {α:Type} {rd:View→Nat→Nat→α→Prop} {f:α→List Value} {k:Nat} {w0 w:World} {L:List Asr} {Vs:List View} (h:Ws w0 [] L Vs w) (i:Nat) {a:Option Addr} {c:Nat} {e:TypeId} {xs:List α} (hL:L[i]? = some (osT e k f a c xs))
   (hf:∀x,(f x).length=k) (hrd:∀H b o x,RdC H b o (f x)→rd H b o x):Sl rd k (nv w0 w) a c xs:=by
 rcases h.nvs i hL with ⟨h1,h2⟩ | ⟨b,c',h1,h2,h3,h4⟩
 · injection h1 with ha hl hc
   subst ha hc
   have:xs=[]:=List.eq_nil_of_length_eq_zero (by omega)
   subst this
   exact Sl.nil
 · injection h1 with ha hl hc
   subst ha hc
   refine ⟨h2,by unfold maxLen at h3; omega,by simp,fun i x hx=>⟨b,0,rfl,hrd _ _ _ _ fun j v hv=>?_⟩⟩
   have hj:j<k:=by have:=(List.getElem?_eq_some_iff.1 hv).1; rw [hf] at this; exact this
   rw [Nat.zero_add]
   exact h4 _ _ (by rw [flat_get hf hx hj]; exact hv)
end Go.Bw
end
section
namespace Go.Bw
open Go Go.RowKit
section
variable {P:Program} {md:Region.Mode} {ops:Array Oper} {C:World→Prop} {Q:Exit→Act→World→Prop}
def allD (ok:Option Tmp→Bool) (ops:Array Oper):Bool:=ops.toList.all fun o=>ok o.dst
theorem allD_get {ok:Option Tmp→Bool} (h:allD ok ops=true) {i:Nat} {o:Oper} (ho:ops[i]? = some o):ok o.dst=true:=by
 refine List.all_eq_true.1 h o ?_
 have:ops.toList[i]? = some o:=by simpa using ho
 exact List.mem_of_getElem? this
variable {n:Nat} {ds:List Deferred} {l:List (Nat×Value)} {W:World→Prop}
def outs:List Nat→List Asr→List Asr
 | [],L=>L
 | i::r,L=>outs r (outOf i L)
theorem WD.skip {r:List (Nat×Bool)} {i d:Nat} {op:Op} {ty:TypeId} {pos:String} {af:Array Edge} {j:Nat} {b:Bool} {oj:Oper} {dj:Nat} (hi:ops[i]? = some ⟨some d,op,ty,pos,af,some (j,b)⟩) (hn:Nat.blt d n=true)
   (hj:ops[j]? = some oj) (hdj:oj.dst=some dj) (hnj:Nat.blt dj n=true) (hb:lk l dj=some (.bool (!b)))
   (hC:∀w,W w→C w) (h:WD P ops C Q n ds ((d,undef)::l) W r):WD P ops C Q n ds l W ((i,true)::r):=by
 intro a w ha hw
 have hv:a.tmps.getD dj undef = .bool (!b):=ha.vals dj _ hb
 have hlt:dj<a.tmps.size:=by rw [ha.size]; exact Nat.le_of_ble_eq_true hnj
 have hget:a.tmps[dj]? = some (.bool (!b)):=by
   rw [Array.getD_eq_getD_getElem?,Array.getElem?_eq_getElem hlt] at hv
   rw [Array.getElem?_eq_getElem hlt]
   simpa using hv
 have hyd:yielded ops a.tmps j=some (!b):=by simp [yielded,hj,hdj,hget]
 exact ⟨hC w hw,_,undef,hi,.inr ⟨by simp [Region.wanted,hyd],rfl⟩,h _ _ (ha.put hn undef) hw⟩
theorem WE.front {w0:World} {F:List Nat} {L:List Asr} {Vs:List View} {e:Exit} {A:Asr} (i:Nat) (hL:L[i]? = some A) (h:WE Q e n ds l (Ws w0 F (A::outOf i L) Vs)):WE Q e n ds l (Ws w0 F L Vs):=
 WE.world (fun _ hw=>hw.perm (outOf_perm i L hL)) h
end
end Go.Bw
end
section
namespace Go.Bw
open Go Go.RowKit
open Go.ChangeShapes Go.WideShapes Go.ChangeAt Go.RowKit Go.Joins Go.Deep
theorem exists_list' {α:Type} (p:Nat→α→Prop):∀n,(∀i,i<n→∃x,p i x)→∃l:List α,l.length=n∧∀(i:Nat) (x:α),l[i]? = some x→p i x
 | 0,_=>⟨[],rfl,by simp⟩
 | n+1,h=>by
   obtain ⟨l,hl,hp⟩:=exists_list' p n fun i hi=>h i (by omega)
   obtain ⟨x,hx⟩:=h n (by omega)
   refine ⟨l++[x],by simp [hl],fun i y hy=>?_⟩
   rcases Nat.lt_trichotomy i n with h1 | h1 | h1
   · rw [List.getElem?_append_left (by omega)] at hy; exact hp i y hy
   · subst h1
     rw [List.getElem?_append_right (by omega),hl] at hy
     simp at hy; subst hy; exact hx
   · rw [List.getElem?_eq_none (by simp; omega)] at hy; cases hy
theorem vc_of_cell' {w:World} {b o:Nat} {v:Value} (h:w.cell? ⟨b,o,none⟩=some v):vc (hv w) b o=some v:=by
 unfold vc hv
 unfold World.cell? at h
 cases hb:w.heap[b]? with
 | none=>simp [hb] at h
 | some ob=>cases ob<;>simp [hb,cellIn] at h ⊢<;>exact h
inductive Sh where
 | int
 | str
 | bool
deriving DecidableEq
def Sh.fit:Sh→Value→Prop
 | .int,v=>∃k:Int,v = .int .i64 k∧-9223372036854775808≤k∧k≤9223372036854775807
 | .str,v=>∃l:List UInt8,v=st l∧l.length≤9223372036854775807
 | .bool,v=>∃b,v = .bool b
def shP (P:Program) (t:TypeId):Option Sh:=match P.underlying t with
 | some (.int .i64)=>some .int
 | some .string=>some .str
 | some .bool=>some .bool
 | _=>none
def inRow (P:Program):Nat→List Field→Bool
 | _,[]=>true
 | i,f::r=>Nat.beq f.offset i&&(Nat.beq (P.cellsOf f.type) 1&&inRow P (i+1) r)
section
variable {P:Program} {H:Type} {enc:TypeId×Value→H} {w:World} {base:Nat} {spare:Nat→Bool} {held:Bool}
theorem inRow_get:∀(i:Nat) (l:List Field) (j:Nat) (f:Field),inRow P i l=true→l[j]? = some f→f.offset=i+j∧P.cellsOf f.type=1
 | _,[],j,f,_,h=>by cases h
 | i,g::r,0,f,hr,h=>by
   simp only [inRow,Bool.and_eq_true] at hr
   simp at h; subst h
   exact ⟨Nat.eq_of_beq_eq_true hr.1,Nat.eq_of_beq_eq_true hr.2.1⟩
 | i,g::r,j+1,f,hr,h=>by
   simp only [inRow,Bool.and_eq_true] at hr
   have:=inRow_get (i+1) r j f hr.2.2 (by simpa using h)
   exact ⟨by omega,this.2⟩
theorem sh_trod {t:TypeId} {s:Sh} {fuel:Nat} {v:Value} {x:DataW H×List MemPlace} (hs:shP P t=some s) (h:DataW.trod enc P w base spare held fuel t [v]=some x):s.fit v:=by
 unfold shP at hs
 cases hu:P.underlying t with
 | none=>simp [hu] at hs
 | some d=>
   cases d<;>simp [hu] at hs
   case int k=>
     cases k<;>simp at hs
     subst hs
     obtain ⟨n,e,_,hw⟩:=DataW.trod_int hu h
     injection e with e _
     subst e
     refine ⟨n,rfl,?_⟩
     simp [Lit.wf,IntKind.min,IntKind.max,IntKind.signed,IntKind.bits] at hw
     omega
   case string=>
     subst hs
     obtain ⟨s,e,_,hw⟩:=DataW.trod_string hu h
     injection e with e _
     subst e
     exact ⟨s.data.toList,by simp [st],by unfold maxLen at hw; simpa using hw⟩
   case bool=>
     subst hs
     obtain ⟨b,e,_⟩:=DataW.trod_bool hu h
     injection e with e _
     exact ⟨b,e⟩
theorem open_int {r:Reach} {b0:Nat} {t:TypeId} {v:Value} {d:DataW H} {p:List MemPlace} (hu:P.underlying t=some (.int .i64)) (hval:Value.okWide P w r b0 t v) (h:DataW.Trod enc P w base spare held t v d p) :
   ∃k:Int,v = .int .i64 k∧-9223372036854775808≤k∧k≤9223372036854775807:=by
 obtain ⟨n,rfl⟩:=okWide_int hu hval
 obtain ⟨fuel,h⟩:=h
 exact sh_trod (s:=.int) (by simp [shP,hu]) h
end
end Go.Bw
end
section
namespace Go.Bw
set_option linter.unusedVariables false
set_option linter.unnecessarySimpa false
set_option linter.unusedSimpArgs false
open Go Go.RowKit
section
variable {P:Program} {l:List (Nat×Value)} {W:World→Prop} {d:Option Tmp} {ty:TypeId} {pos:String} {af:Array Edge} {g:Option (Nat×Bool)}
theorem yl_slln {t:TypeId} {x y:Operand} {a:Option Addr} {m c s:Nat} {k:IntKind} {h:Int} (n:Nat) (hs:elemSz P t=some s) (hx:opv l x=some (.slice a m c)) (hy:opv l y=some (.int k h)) (hh:h=(n:Int)) (h1:n≤m) (h2:m≤c) :
   Yl P l W ⟨d,.slice t x (some y) none none,ty,pos,af,g⟩ (.slice (if c-n=0 then a else a.map (·.add (n*s))) (m-n) (c-n)):=by
 intro ρ w hρ _
 subst hh
 unfold elemSz at hs
 cases hu:P.underlying t with
 | none=>simp [hu] at hs
 | some dd=>
   cases dd<;>simp [hu] at hs
   rename_i e
   obtain ⟨inf,hi,rfl⟩:=hs
   simp [execOp,hρ x _ hx,hρ y _ hy,Instr.sliceAt,Instr.slice,Instr.sliceBounds,Instr.sliceBound,asIntOf,run_underlying hu,sizeOf,typeInfo,hi,h1]
   by_cases hcn:c=n
   · subst hcn; simp
   · have:¬c-n=0:=by omega
     simp [hcn,this]
end
theorem Sl.drop {α:Type} {rd:View→Nat→Nat→α→Prop} {k:Nat} {H:View} {a:Option Addr} {c:Nat} {l:List α} (h:Sl rd k H a c l) (n:Nat) (hn:n≤l.length):Sl rd k H (if c-n=0 then a else a.map (·.add (n*k))) (c-n) (l.drop n):=by
 have hc:=h.cap
 refine ⟨by simp; omega,by have:=h.max; omega,?_,fun i x hx=>?_⟩
 · intro p hp hc0
   split at hp
   · omega
   · cases a with
     | none=>cases hp
     | some q=>
       have hq:=h.spot q rfl (by omega)
       obtain ⟨b,o,s⟩:=q
       obtain rfl:s=none:=hq
       simp [add_none] at hp
       subst hp; rfl
 · rw [List.getElem?_drop] at hx
   have hi:=(List.getElem?_eq_some_iff.1 hx).1
   obtain ⟨b,o,ha,hr⟩:=h.elt _ _ hx
   subst ha
   refine ⟨b,o+n*k,?_,?_⟩
   · rw [if_neg (by omega)]; simp [add_none]
   · rw [Nat.add_mul] at hr
     rw [Nat.add_assoc]; exact hr
theorem Sl.take {α:Type} {rd:View→Nat→Nat→α→Prop} {k:Nat} {H:View} {a:Option Addr} {c:Nat} {l:List α} (h:Sl rd k H a c l) (n:Nat):Sl rd k H a c (l.take n):=
 ⟨by have:=h.cap; simp; omega,h.max,h.spot,fun i x hx=>h.elt i x (by
   rw [List.getElem?_take] at hx
   split at hx
   · exact hx
   · cases hx)⟩
end Go.Bw
end
section
namespace Go.Bw
set_option linter.unusedVariables false
set_option linter.unnecessarySimpa false
set_option linter.unusedSimpArgs false
open Go Go.RowKit
section
variable {P:Program} {md:Region.Mode} {ops:Array Oper} {S:List Nat} {C:World→Prop} {Q:Exit→Act→World→Prop}
def unl (S:List Nat) (listed:Array Bool):Prop:=∀s ∈ S,listed.getD s true=false
def wpAnyE (P:Program) (md:Region.Mode) (ops:Array Oper) (S:List Nat) (C:World→Prop) (Q:Exit→Act→World→Prop):Nat→Array Bool→Act→World→Prop
 | 0,listed,a,w=>(unl S listed→C w)∧Region.ready md ops listed=[]∧Q .normal a w
 | fuel+1,listed,a,w=>(unl S listed→C w)∧(Region.ready md ops listed=[]→Q .normal a w)∧
   ∀i ∈ Region.ready md ops listed,wpOp P ops Q i (wpAnyE P md ops S C Q fuel (listed.setIfInBounds i true)) a w
theorem wpAny_of_E:∀(fuel:Nat) (listed:Array Bool) (a:Act) (w:World),wpAnyE P md ops S C Q fuel listed a w→wpAny P md ops Q fuel listed a w
 | 0,_,_,_,h=>h.2
 | fuel+1,listed,a,w,h=>⟨h.2.1,fun i hi=>wpOp_mono (fun a' w' h'=>wpAny_of_E fuel _ a' w' h') (h.2.2 i hi)⟩
theorem wpAnyE.c {fuel:Nat} {listed:Array Bool} {a:Act} {w:World} (h:wpAnyE P md ops S C Q fuel listed a w):unl S listed→C w:=by cases fuel<;>exact h.1
theorem unl_set {i:Nat} (hi:i ∉ S) {listed:Array Bool}:unl S (listed.setIfInBounds i true)↔unl S listed:=by
 constructor
 · intro h s hs
   have hne:i≠s:=fun e=>by subst e; exact hi hs
   have:=h s hs
   rwa [getD_set_ne true hne] at this
 · intro h s hs
   have hne:i≠s:=fun e=>by subst e; exact hi hs
   rw [getD_set_ne true hne]
   exact h s hs
def Closed (md:Region.Mode) (ops:Array Oper) (listed:Array Bool):Prop:=∀(j:Nat) (o:Oper),ops[j]? = some o→listed.getD j true=true→∀e ∈ o.after,Region.binds md e=true→listed.getD e.on true=true
def reachB (md:Region.Mode) (ops:Array Oper) (i:Nat):Nat→Nat→Bool
 | 0,_=>false
 | f+1,s=>match ops[s]? with
   | some os=>os.after.any fun e=>Region.binds md e&&(Nat.beq e.on i||reachB md ops i f e.on)
   | none=>false
theorem reach_listed {listed:Array Bool} (hcl:Closed md ops listed) {i:Nat}:∀(f s:Nat),reachB md ops i f s=true→(∀o,ops[s]? = some o→∀e ∈ o.after,Region.binds md e=true→listed.getD e.on true=true)→listed.getD i true=true
 | 0,s,h,_=>by simp [reachB] at h
 | f+1,s,h,hs=>by
   simp only [reachB] at h
   cases ho:ops[s]? with
   | none=>simp [ho] at h
   | some o=>
     simp only [ho] at h
     obtain ⟨e,he,hbe⟩:=Array.any_eq_true'.1 h
     simp only [Bool.and_eq_true,Bool.or_eq_true] at hbe
     have hl:=hs o ho e he hbe.1
     rcases hbe.2 with h1 | h1
     · have:=Nat.eq_of_beq_eq_true h1
       rw [this] at hl; exact hl
     · exact reach_listed hcl f e.on h1 fun o' ho' e' he' hb'=>hcl e.on o' ho' hl e' he' hb'
theorem ready_preds {listed:Array Bool} {j:Nat} (hj:j ∈ Region.ready md ops listed):∀o,ops[j]? = some o→∀e ∈ o.after,Region.binds md e=true→listed.getD e.on true=true:=by
 intro o ho e he hb
 obtain ⟨_,oj,hoj,hall⟩:=mem_ready.1 hj
 rw [ho] at hoj
 injection hoj with hoj
 subst hoj
 have h1:=hall e he hb
 rcases Nat.lt_or_ge e.on listed.size with h' | h'
 · simp [Array.getD_eq_getD_getElem?,h'] at h1 ⊢
   exact h1
 · simp [Array.getD_eq_getD_getElem?,Array.getElem?_eq_none h']
theorem Closed.set {listed:Array Bool} {j:Nat} (hcl:Closed md ops listed) (hj:j ∈ Region.ready md ops listed):Closed md ops (listed.setIfInBounds j true):=by
 have up:∀k,listed.getD k true=true→(listed.setIfInBounds j true).getD k true=true:=by
   intro k hk
   by_cases hjk:j=k
   · subst hjk
     rcases Nat.lt_or_ge j listed.size with h' | h'
     · simp [Array.getD_eq_getD_getElem?,h']
     · simp [Array.getD_eq_getD_getElem?,h']
   · rw [getD_set_ne true hjk]; exact hk
 intro k o ho hk e he hb
 by_cases hjk:j=k
 · subst hjk
   exact up _ (ready_preds hj o ho e he hb)
 · rw [getD_set_ne true hjk] at hk
   exact up _ (hcl k o ho hk e he hb)
def Kept (md:Region.Mode) (ops:Array Oper) (S:List Nat) (C Ci:World→Prop) (i:Nat):Prop:=
 (∀w,Ci w)∨((∀w,C w→Ci w)∧∀s ∈ S,reachB md ops i ops.size s=true)
theorem wpAnyE_first {i:Nat} {oi:Oper} {v:Value} {Ci:World→Prop} (hi:ops[i]? = some oi) (hsel:∀(j:Nat) (o:Oper) cs b,ops[j]? = some o→o.op≠.select cs b)
   (hQ:∀c a w,Q (.panic c) (a.put oi.dst v) w→Q (.panic c) a w) (hiS:i ∉ S) (hK:Kept md ops S C Ci i) :
   ∀(fuel:Nat) (listed:Array Bool) (a:Act) (w:World),
     (∀j oj,ops[j]? = some oj→j≠i→listed.getD j true=false→(∀e ∈ oj.after,Region.binds md e=true→e.on≠i)→oi.apart ops oj=true)→
     i ∈ Region.ready md ops listed→Closed md ops listed→YV P ops Ci oi v a→(unl S listed→C w)→((∀w,Ci w)∨unl S listed)→
     wpAnyE P md ops S C Q fuel (listed.setIfInBounds i true) (a.put oi.dst v) w→wpAnyE P md ops S C Q (fuel+1) listed a w:=by
 have hCi:∀(listed:Array Bool) (w:World),(unl S listed→C w)→((∀w,Ci w)∨unl S listed)→Ci w:=by
   intro listed w h1 h2
   rcases h2 with h2 | h2
   · exact h2 w
   · rcases hK with hK | hK
     · exact hK w
     · exact hK.1 w (h1 h2)
 intro fuel
 induction fuel with
 | zero=>
   intro listed a w _ hr _ hy hC hU H
   refine ⟨hC,fun h=>(by rw [h] at hr; cases hr),fun j hj=>?_⟩
   by_cases hji:j=i
   · subst hji; exact hy.wpOp hi (hCi _ _ hC hU) H
   · have:=ready_mono hj hji
     rw [H.2.1] at this
     cases this
 | succ fuel ih=>
   intro listed a w hfree hr hcl hy hC hU H
   refine ⟨hC,fun h=>(by rw [h] at hr; cases hr),fun j hj=>?_⟩
   by_cases hji:j=i
   · subst hji; exact hy.wpOp hi (hCi _ _ hC hU) H
   · have h1:=H.2.2 j (ready_mono hj hji)
     obtain ⟨hjun,oj,hoj,hall⟩:=mem_ready.1 hj
     have hnot:∀e ∈ oj.after,Region.binds md e=true→e.on≠i:=fun e he hb heq=>by
       have h1:=hall e he hb
       have h0:=(mem_ready.1 hr).1
       rw [heq] at h1
       rcases Nat.lt_or_ge i listed.size with h' | h'
       · simp [h'] at h0 h1; rw [h0] at h1; cases h1
       · simp [Array.getElem?_eq_none h'] at h1
     have hU':(∀w,Ci w)∨unl S (listed.setIfInBounds j true):=by
       rcases hK with hK | hK
       · exact .inl hK
       · rcases hU with hU | hU
         · exact .inl hU
         · refine .inr ((unl_set fun hjS=>?_).2 hU)
           have hil:=reach_listed hcl _ j (hK.2 j hjS) (ready_preds hj)
           have h0:=(mem_ready.1 hr).1
           rw [hil] at h0
           cases h0
     have h2:=wpOp_putC hoj (hfree j oj hoj hji hjun hnot) (fun cs b=>hsel i oi cs b hi) (fun cs b=>hsel j oj cs b hoj) hQ hy h1
     have hfree':∀k ok,ops[k]? = some ok→k≠i→(listed.setIfInBounds j true).getD k true=false→
         (∀e ∈ ok.after,Region.binds md e=true→e.on≠i)→oi.apart ops ok=true:=fun k ok hk hki hun hno=>by
       refine hfree k ok hk hki ?_ hno
       by_cases hjk:j=k
       · subst hjk; exact hjun
       · rw [getD_set_ne true hjk] at hun; exact hun
     refine wpOp_mono (fun a' w' h3=>ih (listed.setIfInBounds j true) a' w' hfree' (ready_mono hr (Ne.symm hji)) (hcl.set hj) h3.1 ?_ hU' ?_) h2
     · have hc:=h3.2.c
       rw [Array.setIfInBounds_comm _ _ (Ne.symm hji)] at hc
       intro hu
       exact hc ((unl_set hiS).2 hu)
     · rw [Array.setIfInBounds_comm _ _ hji]
       exact h3.2
inductive Ore where
 | nil
 | stop
 | q (m:Bool) (i:Nat) (r:Ore)
 | e (i:Nat) (r alt:Ore)
def Ore.alts:Ore→List Nat
 | .e i _ alt=>i::alt.alts
 | _=>[]
def behind (md:Region.Mode) (ops:Array Oper) (i:Nat) (S:List Nat):Bool:=S.all fun s=>reachB md ops i ops.size s
def notIn (i:Nat) (S:List Nat):Bool:=S.all fun s=>!(Nat.beq s i)
theorem notIn_spec {i:Nat} (h:notIn i S=true):i ∉ S:=fun hi=>by
 have:=List.all_eq_true.1 h i hi
 simp at this
def ordS (md:Region.Mode) (ops:Array Oper):List Nat→Array Bool→Bool
 | [],listed=>(Region.ready md ops listed).isEmpty
 | s::r,listed=>Region.ready md ops listed==[s]&&ordS md ops r (listed.setIfInBounds s true)
def ordE (md:Region.Mode) (ops:Array Oper) (S:List Nat):Bool→Ore→Nat→Array Bool→Bool
 | top,.nil,k,listed=>top&&(Nat.beq k S.length&&ordS md ops S listed)
 | top,.stop,_,_=>!top
 | top,.q m i r,k,listed=>match k with
   | 0=>false
   | k+1=>top&&((Region.ready md ops listed).contains i&&(Region.free md ops listed i&&(notIn i S&&((!m||behind md ops i S)&&ordE md ops S true r k (listed.setIfInBounds i true)))))
 | top,.e i r alt,k,listed=>match k with
   | 0=>false
   | k+1=>(bif top then Region.ready md ops listed==i::alt.alts else true)&&(notIn i S&&(ordE md ops S true r k (listed.setIfInBounds i true)&&ordE md ops S false alt (k+1) listed))
def wpS_ (P:Program) (ops:Array Oper) (Q:Exit→Act→World→Prop):List Nat→Act→World→Prop
 | [],a,w=>Q .normal a w
 | s::r,a,w=>wpOp P ops Q s (wpS_ P ops Q r) a w
def wpU (P:Program) (ops:Array Oper) (S:List Nat) (C:World→Prop) (Q:Exit→Act→World→Prop):Ore→Act→World→Prop
 | .nil,a,w=>C w∧wpS_ P ops Q S a w
 | .stop,_,_=>True
 | .q m i r,a,w=>C w∧∃o v,ops[i]? = some o∧YV P ops (bif m then C else fun _=>True) o v a∧wpU P ops S C Q r (a.put o.dst v) w
 | .e i r alt,a,w=>C w∧(wpOp P ops Q i (wpU P ops S C Q r) a w∧wpU P ops S C Q alt a w)
theorem wpS_any:∀(r:List Nat) (listed:Array Bool) (a:Act) (w:World),(r=S∧C w∨¬unl S listed)→(∀s ∈ r,s ∈ S)→(∀s ∈ r,listed.getD s true=false)→ordS md ops r listed=true→wpS_ P ops Q r a w→wpAnyE P md ops S C Q r.length listed a w
 | [],listed,a,w,hc,_,_,hB,h=>⟨fun hu=>(by rcases hc with hc | hc; exact hc.2; exact absurd hu hc),by simpa [ordS] using hB,h⟩
 | s::r,listed,a,w,hc,hsub,hun,hB,h=>by
   simp only [ordS,Bool.and_eq_true,beq_iff_eq] at hB
   refine ⟨fun hu=>(by rcases hc with hc | hc; exact hc.2; exact absurd hu hc),fun he=>(by rw [he] at hB; cases hB.1),fun j hj=>?_⟩
   rw [hB.1] at hj
   simp at hj
   subst hj
   have hlt:j<listed.size:=by
     have:=hun j (by simp)
     rcases Nat.lt_or_ge j listed.size with h' | h'
     · exact h'
     · simp [Array.getElem?_eq_none h'] at this
   have hnot:¬unl S (listed.setIfInBounds j true):=fun hu=>by
     have:=hu j (hsub j (by simp))
     simp [Array.getD_eq_getD_getElem?,hlt] at this
   refine wpOp_mono (fun a' w' h'=>wpS_any_aux r (listed.setIfInBounds j true) a' w' hnot (fun s hs=>hsub s (by simp [hs])) hB.2 h') h
where
 wpS_any_aux:∀(r:List Nat) (listed:Array Bool) (a:Act) (w:World),¬unl S listed→(∀s ∈ r,s ∈ S)→ordS md ops r listed=true→wpS_ P ops Q r a w→wpAnyE P md ops S C Q r.length listed a w
 | [],listed,a,w,hc,_,hB,h=>⟨fun hu=>absurd hu hc,by simpa [ordS] using hB,h⟩
 | s::r,listed,a,w,hc,hsub,hB,h=>by
   simp only [ordS,Bool.and_eq_true,beq_iff_eq] at hB
   refine ⟨fun hu=>absurd hu hc,fun he=>(by rw [he] at hB; cases hB.1),fun j hj=>?_⟩
   rw [hB.1] at hj
   simp at hj
   subst hj
   refine wpOp_mono (fun a' w' h'=>wpS_any_aux r (listed.setIfInBounds j true) a' w' (fun hu=>hc fun s hs=>?_) (fun s hs=>hsub s (by simp [hs])) hB.2 h') h
   have:=hu s hs
   rcases Nat.decEq j s with hne | he
   · rwa [getD_set_ne true hne] at this
   · subst he
     rcases Nat.lt_or_ge j listed.size with h' | h'
     · simp [Array.getD_eq_getD_getElem?,h'] at this
     · simp [Array.getD_eq_getD_getElem?] at this
theorem wpU_any {ok:Option Tmp→Bool} (hok:allD ok ops=true) (hs:Region.noSelect ops=true) (hQ:∀c a w d v,ok d=true→Q (.panic c) (a.put d v) w→Q (.panic c) a w):∀(o:Ore) (k:Nat) (listed:Array Bool) (a:Act) (w:World),unl S listed→Closed md ops listed→
   (ordE md ops S true o k listed=true→wpU P ops S C Q o a w→wpAnyE P md ops S C Q k listed a w)∧
   ((∀j ∈ o.alts,j ∈ Region.ready md ops listed)→ordE md ops S false o k listed=true→wpU P ops S C Q o a w→∀j ∈ o.alts,∃k',k=k'+1∧wpOp P ops Q j (wpAnyE P md ops S C Q k' (listed.setIfInBounds j true)) a w)
 | .nil,k,listed,a,w,hu,_=>by
   refine ⟨fun hB h=>?_,fun _ hB=>by simp [ordE] at hB⟩
   simp only [ordE,Bool.true_and,Bool.and_eq_true] at hB
   obtain rfl:=Nat.eq_of_beq_eq_true hB.1
   exact wpS_any S listed a w (.inl ⟨rfl,h.1⟩) (fun _ h=>h) hu hB.2 h.2
 | .stop,k,listed,a,w,hu,_=>⟨fun hB=>by simp [ordE] at hB,fun _ _ _ j hj=>by simp [Ore.alts] at hj⟩
 | .q m i r,k,listed,a,w,hu,hcl=>by
   cases k with
   | zero=>exact ⟨fun hB=>by simp [ordE] at hB,fun _ hB=>by simp [ordE] at hB⟩
   | succ k=>
     refine ⟨fun hB h=>?_,fun _ hB=>by simp [ordE] at hB⟩
     simp only [ordE,Bool.true_and,Bool.and_eq_true] at hB
     obtain ⟨hB1,hB2,hB3,hB4,hB5⟩:=hB
     obtain ⟨hC,o,v,ho,hy,h⟩:=h
     have hiS:=notIn_spec hB3
     have hK:Kept md ops S C (bif m then C else fun _=>True) i:=by
       cases m with
       | false=>exact .inl fun _=>trivial
       | true=>
         refine .inr ⟨fun _ h=>h,fun s hs=>?_⟩
         simp only [Bool.not_true,Bool.false_or] at hB4
         exact List.all_eq_true.1 hB4 s hs
     have hir:i ∈ Region.ready md ops listed:=by simpa using hB1
     exact wpAnyE_first ho (Region.noSelect_spec hs) (fun c a w=>hQ c a w o.dst v (allD_get hok ho)) hiS hK k listed a w (Region.free_spec ho hB2) hir hcl hy (fun _=>hC) (.inr hu)
       ((wpU_any hok hs hQ r k _ _ _ ((unl_set hiS).2 hu) (hcl.set hir)).1 hB5 h)
 | .e i r alt,k,listed,a,w,hu,hcl=>by
   cases k with
   | zero=>exact ⟨fun hB=>by simp [ordE] at hB,fun _ hB=>by simp [ordE] at hB⟩
   | succ k=>
     have hsub:(∀j ∈ i::alt.alts,j ∈ Region.ready md ops listed)→notIn i S=true→ordE md ops S true r k (listed.setIfInBounds i true)=true→ordE md ops S false alt (k+1) listed=true→wpU P ops S C Q (.e i r alt) a w→
         ∀j ∈ i::alt.alts,wpOp P ops Q j (wpAnyE P md ops S C Q k (listed.setIfInBounds j true)) a w:=by
       intro hrd h0 h1 h2 h j hj
       rcases List.mem_cons.1 hj with rfl | hj
       · exact wpOp_mono (fun a' w' h'=>(wpU_any hok hs hQ r k _ a' w' ((unl_set (notIn_spec h0)).2 hu) (hcl.set (hrd _ (by simp)))).1 h1 h') h.2.1
       · obtain ⟨k',hk,hx⟩:=(wpU_any hok hs hQ alt (k+1) listed a w hu hcl).2 (fun j hj=>hrd j (by simp [hj])) h2 h.2.2 j hj
         injection hk with hk
         subst hk
         exact hx
     refine ⟨fun hB h=>?_,fun hrd hB h j hj=>?_⟩
     · simp only [ordE,cond_true,Bool.and_eq_true,beq_iff_eq] at hB
       refine ⟨fun _=>h.1,fun he=>(by rw [he] at hB; cases hB.1),fun j hj=>?_⟩
       rw [hB.1] at hj
       exact hsub (fun j hj=>by rw [hB.1]; exact hj) hB.2.1 hB.2.2.1 hB.2.2.2 h j hj
     · simp only [ordE,cond_false,Bool.true_and,Bool.and_eq_true] at hB
       exact ⟨k,rfl,hsub hrd hB.1 hB.2.1 hB.2.2 h j hj⟩
variable {n:Nat} {ds:List Deferred} {l:List (Nat×Value)} {W:World→Prop}
def WU (P:Program) (ops:Array Oper) (S:List Nat) (C:World→Prop) (Q:Exit→Act→World→Prop) (n:Nat) (ds:List Deferred) (l:List (Nat×Value)) (W:World→Prop) (ord:Ore):Prop:=
 ∀a w,Ag n ds l a→W w→wpU P ops S C Q ord a w
def WS (P:Program) (ops:Array Oper) (Q:Exit→Act→World→Prop) (n:Nat) (ds:List Deferred) (l:List (Nat×Value)) (W:World→Prop) (S:List Nat):Prop:=
 ∀a w,Ag n ds l a→W w→wpS_ P ops Q S a w
def unlB (k:Nat) (S:List Nat):Bool:=S.all fun s=>Nat.blt s k
theorem unl_start (h:unlB ops.size S=true):unl S (Array.replicate ops.size false):=fun s hs=>by
 have:=List.all_eq_true.1 h s hs
 have hlt:=Nat.blt_eq.mp this
 simp [Array.getD_eq_getD_getElem?,hlt]
theorem CU {id:Nat} {os:List Oper} {w0:World} {F:List Nat} {L:List Asr} {Vs:List View} (ok:Option Tmp→Bool) (is:List Nat) (S:List Nat) (ord:Ore) (hm:P.follows .mixedOrders=true)
   (hB:(allD ok os.toArray&&(Region.noSelect os.toArray&&(unlB os.toArray.size S&&ordE .any os.toArray S true ord os.toArray.size (Array.replicate os.toArray.size false))))=true)
   (hQ:∀c a w d v,ok d=true→Q (.panic c) (a.put d v) w→Q (.panic c) a w) (h:WU P os.toArray S (Ws w0 F (outs is L) Vs) Q n ds l (Ws w0 F L Vs) ord):WC P (.region id os.toArray true) Q n ds l (Ws w0 F L Vs):=by
 intro a w ha hw
 simp only [Bool.and_eq_true] at hB
 have:=wpAny_of_E (md:=.any) _ _ _ _ ((wpU_any hB.1 hB.2.1 hQ ord _ _ a w.drew (unl_start hB.2.2.1) (fun j o ho hj=>by
   have hlt:j<os.length:=by simpa using (Array.getElem?_eq_some_iff.1 ho).1
   simp [Array.getD_eq_getD_getElem?,Array.getElem?_replicate,hlt] at hj)).1 hB.2.2.2 (h a w.drew ha hw.drew))
 exact wp_region_any hm this
theorem Uq {m:Bool} {r:Ore} {i d:Nat} {op:Op} {ty:TypeId} {pos:String} {af:Array Edge} {g:Option (Nat×Bool)} {v:Value} (hi:ops[i]? = some ⟨some d,op,ty,pos,af,g⟩) (hg:GOk ops l g) (hn:Nat.blt d n=true)
   (hC:∀w,W w→C w) (hy:Yl P l (bif m then C else fun _=>True) ⟨some d,op,ty,pos,af,g⟩ v) (h:WU P ops S C Q n ds ((d,v)::l) W r):WU P ops S C Q n ds l W (.q m i r):=by
 intro a w ha hw
 refine ⟨hC w hw,_,v,hi,.inl ⟨GOk.wanted (o:=⟨some d,op,ty,pos,af,g⟩) hg ha,fun w' hw'=>hy a.eval w' (fun x u hx=>ha.eval hx) hw'⟩,h _ _ (ha.put hn v) hw⟩
theorem WU.skip {r:Ore} {i d:Nat} {op:Op} {ty:TypeId} {pos:String} {af:Array Edge} {j:Nat} {b:Bool} {oj:Oper} {dj:Nat} (hi:ops[i]? = some ⟨some d,op,ty,pos,af,some (j,b)⟩) (hn:Nat.blt d n=true)
   (hj:ops[j]? = some oj) (hdj:oj.dst=some dj) (hnj:Nat.blt dj n=true) (hb:lk l dj=some (.bool (!b)))
   (hC:∀w,W w→C w) (h:WU P ops S C Q n ds ((d,undef)::l) W r):WU P ops S C Q n ds l W (.q false i r):=by
 intro a w ha hw
 have hv:a.tmps.getD dj undef = .bool (!b):=ha.vals dj _ hb
 have hlt:dj<a.tmps.size:=by rw [ha.size]; exact Nat.le_of_ble_eq_true hnj
 have hget:a.tmps[dj]? = some (.bool (!b)):=by
   rw [Array.getD_eq_getD_getElem?,Array.getElem?_eq_getElem hlt] at hv
   rw [Array.getElem?_eq_getElem hlt]
   simpa using hv
 have hyd:yielded ops a.tmps j=some (!b):=by simp [yielded,hj,hdj,hget]
 exact ⟨hC w hw,_,undef,hi,.inr ⟨by simp [Region.wanted,hyd],rfl⟩,h _ _ (ha.put hn undef) hw⟩
theorem wpOp_of_list {i:Nat} {o:Oper} {K:Act→World→Prop} (hi:ops[i]? = some o) {a:Act} {w:World} (this:wpList P ops (Exit.then K Q) [o] a w):wpOp P ops Q i K a w:=by
 unfold wpList at this
 unfold wpOp
 simp only [hi]
 split
 · rename_i hw'
   rw [if_pos hw'] at this
   rcases this with this | ⟨h1,a2,w2,h2⟩
   · left
     unfold Oper.wp at this ⊢
     unfold Oper.upon at this ⊢
     split at this
     all_goals first
       | exact this
       | (refine this.mono fun e w' he=>?_
          cases e with
          | returned v=>exact he
          | panicked ch=>exact he
          | outgrown=>obtain ⟨a3,w3,h3⟩:=he; exact ⟨a3,w3,h3⟩)
       | exact this.mono fun v w' he=>he
   · exact .inr ⟨h1,a2,w2,h2⟩
 · rename_i hw'
   rw [if_neg hw'] at this
   exact this
theorem Ue {r alt:Ore} {i:Nat} {o:Oper} (hi:ops[i]? = some o) (hC:∀w,W w→C w) (h:WL P ops (Exit.then (wpU P ops S C Q r) Q) n ds l W [o]) (h2:WU P ops S C Q n ds l W alt):WU P ops S C Q n ds l W (.e i r alt):=
 fun a w ha hw=>⟨hC w hw,wpOp_of_list hi (h a w ha hw),h2 a w ha hw⟩
theorem WU.stop:WU P ops S C Q n ds l W .stop:=fun _ _ _ _=>trivial
theorem Eu {r:Ore} (h:WU P ops S C Q n ds l W r):WE (Exit.then (wpU P ops S C Q r) Q) .normal n ds l W:=h
theorem WU.nil (hC:∀w,W w→C w) (h:WS P ops Q n ds l W S):WU P ops S C Q n ds l W .nil:=fun a w ha hw=>⟨hC w hw,h a w ha hw⟩
theorem WS.nil (h:WE Q .normal n ds l W):WS P ops Q n ds l W []:=h
theorem WS.e {s:Nat} {r:List Nat} {o:Oper} (hi:ops[s]? = some o) (h:WL P ops (Exit.then (wpS_ P ops Q r) Q) n ds l W [o]):WS P ops Q n ds l W (s::r):=
 fun a w ha hw=>wpOp_of_list hi (h a w ha hw)
theorem Es {r:List Nat} (h:WS P ops Q n ds l W r):WE (Exit.then (wpS_ P ops Q r) Q) .normal n ds l W:=h
end
end Go.Bw
end
section
namespace Go.Bw
set_option linter.unusedVariables false
set_option linter.unnecessarySimpa false
set_option linter.unusedSimpArgs false
open Go Go.RowKit
theorem osT_holds {α:Type} {f:α→List Value} {e:TypeId} {k c b o:Nat} {a:Option Addr} {xs:List α} {w:World} (h:(osT e k f a c xs).holds w) (ha:a=some ⟨b,o,none⟩) :
   o=0∧∃cur,w.heap[b]? = some (.cells cur e (0,0))∧cur.toList.take (xs.length*k)=xs.flatMap f∧cur.size=c*k∧xs.length≤c:=by
 subst ha
 obtain ⟨h1,h2⟩:=(h:w.ownsRow 0 e k _ xs.length (xs.flatMap f))
 rcases h2 with ⟨h3,_⟩ | ⟨g,cap,cur,hv,_,hb,hmc,hc,hs,ht⟩
 · cases h3
 · injection hv with h3 _ h4
   injection h3 with h3
   injection h3 with h3 h5
   subst h3 h4 h5
   exact ⟨rfl,cur,hb,ht,hs,hmc⟩
section
variable {P:Program} {ops:Array Oper} {Q:Exit→Act→World→Prop} {n:Nat} {ds:List Deferred} {l:List (Nat×Value)} {w0:World} {F:List Nat} {L:List Asr} {Vs:List View} {rest:List Oper}
 {ty:TypeId} {pos:String} {af:Array Edge} {g:Option (Nat×Bool)}
theorem osT_shape {α:Type} {f:α→List Value} {e:TypeId} {k c:Nat} {a:Option Addr} {xs:List α} {w:World} (hw:Ws w0 F L Vs w) (i:Nat) (hL:L[i]? = some (osT e k f a c xs)) (hm:0<xs.length):(∃b,a=some ⟨b,0,none⟩)∧xs.length≤c∧c≤maxLen:=by
 obtain ⟨h1,h2⟩:=(hw.kn _ (mem_of_idx hL):w.ownsRow 0 e k _ xs.length (xs.flatMap f))
 rcases h2 with ⟨h3,h4⟩ | ⟨b,cap,cur,hv,_,_,hmc,hc,_⟩
 · injection h3 with _ h5 _; omega
 · injection hv with h3 _ h4
   subst h3 h4
   exact ⟨⟨b,rfl⟩,hmc,hc⟩
theorem WC.shapeT {α:Type} {f:α→List Value} {cd:Code} {e:TypeId} {k c:Nat} {a:Option Addr} {xs:List α} (i:Nat) (hL:L[i]? = some (osT e k f a c xs)) (hm:0<xs.length)
   (h:∀b,a=some ⟨b,0,none⟩→xs.length≤c→c≤maxLen→WC P cd Q n ds l (Ws w0 F L Vs)):WC P cd Q n ds l (Ws w0 F L Vs):=by
 intro A w ha hw
 obtain ⟨⟨b,hb⟩,h1,h2⟩:=osT_shape hw i hL hm
 exact h b hb h1 h2 A w ha hw
theorem WL.shapeT {α:Type} {f:α→List Value} {e:TypeId} {k c:Nat} {a:Option Addr} {xs:List α} (i:Nat) (hL:L[i]? = some (osT e k f a c xs)) (hm:0<xs.length)
   (h:∀b,a=some ⟨b,0,none⟩→xs.length≤c→c≤maxLen→WL P ops Q n ds l (Ws w0 F L Vs) rest):WL P ops Q n ds l (Ws w0 F L Vs) rest:=by
 intro A w ha hw
 obtain ⟨⟨b,hb⟩,h1,h2⟩:=osT_shape hw i hL hm
 exact h b hb h1 h2 A w ha hw
theorem yl_ldT {α:Type} {f:α→List Value} {t e:TypeId} {x:Operand} {b o p k c:Nat} {a:Option Addr} {xs:List α} {y:α} {v:Value} {d:Option Tmp} (i j q:Nat) (hx:opv l x=some (.pointer (some ⟨b,p,none⟩))) (hL:L[i]? = some (osT e k f a c xs)) (ha:a=some ⟨b,o,none⟩)
   (hp:p=o+j*k+q) (hf:∀x,(f x).length=k) (hy:xs[j]? = some y) (hq:(f y)[q]? = some v) (ht:nonAgg P t=true):Yl P l (Ws w0 F L Vs) ⟨d,.load t x,ty,pos,af,g⟩ v:=yl_ldc ht hx fun w hw=>by
 obtain ⟨rfl,cur,hb,hxs,hcs,hm⟩:=osT_holds (hw.kn _ (mem_of_idx hL)) ha
 refine cell_of_heap hb ?_
 have hqk:q<k:=by have:=(List.getElem?_eq_some_iff.1 hq).1; rw [hf] at this; exact this
 have h6:(xs.flatMap f)[j*k+q]? = some v:=by rw [flat_get hf hy hqk]; exact hq
 rw [←hxs,List.getElem?_take] at h6
 split at h6
 · subst hp; simpa [cellIn] using h6
 · cases h6
theorem WL.storeT {α:Type} {f:α→List Value} {t e:TypeId} {x z:Operand} {b o p k kk c:Nat} {a:Option Addr} {xs:List α} {y:α} {v:Value} (i j q:Nat) (y':α) (hg:GOk ops l g) (hx:opv l x=some (.pointer (some ⟨b,p,none⟩))) (hz:opv l z=some v) (hL:L[i]? = some (osT e k f a c xs)) (ha:a=some ⟨b,o,none⟩)
   (hp:p=o+j*k+q) (hf:∀x,(f x).length=k) (hy:xs[j]? = some y) (hs:sizeP P t=some kk) (hl:(vcells v).length=kk) (h1:(vcells v).all (·.oneCell')=true) (hq:q+kk≤k) (hy':f y'=(f y).take q++vcells v++(f y).drop (q+kk))
   (h:WL P ops Q n ds l (Ws w0 F (L.set i (osT e k f a c (xs.set j y'))) Vs) rest):WL P ops Q n ds l (Ws w0 F L Vs) (⟨none,.store t x z,ty,pos,af,g⟩::rest):=by
 refine WL.step hg fun A w hA hw K hK=>?_
 have hh:(osT e k f a c xs).holds w:=hw.kn _ (mem_of_idx hL)
 obtain ⟨rfl,cur,hb,hxs,hcs,hm⟩:=osT_holds hh ha
 have hj:j<xs.length:=(List.getElem?_eq_some_iff.1 hy).1
 have hjk:j*k+k≤xs.length*k:=by rw [←Nat.succ_mul]; exact Nat.mul_le_mul_right _ hj
 have hck:xs.length*k≤c*k:=Nat.mul_le_mul_right _ hm
 have hok:stOk (.cells cur e (0,0)) p kk=true:=by
   simp only [stOk,Nat.beq_refl,Bool.and_true,Bool.and_self]
   exact Nat.ble_eq_true_of_le (by simp [hcs]; omega)
 have hrun:(execOp A.eval ⟨none,.store t x z,ty,pos,af,g⟩).run P w = .ok .skip { w with heap:=w.heap.setIfInBounds b (setIn (.cells cur e (0,0)) p (vcells v)) }:=by
   simp only [execOp,hA.eval hx,hA.eval hz,Instr.storeAt,Instr.sureAddr,Sem.run_bind,Sem.run_pure,Result.andThen_ok,run_storeVar hs hl h1 hb hok]
 simp only [Oper.wp,hrun,Oper.upon_skip]
 refine hK _ _ (h _ _ (hA.put_none undef) ?_)
 have hlt:=lt_of_heap hb
 have hlen:(xs.set j y').length=xs.length:=by simp
 have hfl:=flat_set hf hy (j:=q) (vs:=vcells v) (y:=y') (by omega) (by rw [hl]; exact hy')
 refine Ws.turn1 hw i hL ⟨rfl,rfl,rfl,by simp,fun j' hj' hne=>?_⟩ ?_ (by subst ha; simp [osl,Value.ownBlock]) (fun k' hk'=>?_)
 · have:b≠j':=fun e'=>hne (by subst ha; simp [osl,Value.ownBlock,e'])
   simp [Array.getElem?_setIfInBounds_ne this]
 · show World.ownsRow _ 0 e k (.slice a (xs.set j y').length c) (xs.set j y').length _
   rw [hlen]
   obtain ⟨g1,g2⟩:=(hh:w.ownsRow 0 e k _ xs.length (xs.flatMap f))
   refine ⟨by rw [flat_length hf,hlen],.inr ?_⟩
   rcases g2 with ⟨g3,_⟩ | ⟨g,cap,cur',hv,g0,hb',hmc,hcm,hs',ht'⟩
   · subst ha; cases g3
   · subst ha
     injection hv with e3 _ e4
     injection e3 with e3
     injection e3 with e3
     subst e3 e4
     refine ⟨b,c,(cur.toList.take p++vcells v++cur.toList.drop (p+(vcells v).length)).toArray,rfl,Nat.zero_le _,?_,hmc,hcm,?_,?_⟩
     · show (w.heap.setIfInBounds b _)[b]? = _
       simp [hlt,setIn]
     · simp [hcs]; omega
     · rw [←hfl,←hxs]
       subst hp
       simp only [Nat.zero_add]
       have hcl:cur.toList.length=c*k:=by simp [hcs]
       have e1:((cur.toList.take (xs.length*k)).take (j*k+q))=cur.toList.take (j*k+q):=by rw [List.take_take]; congr 1; omega
       have e2:(cur.toList.take (j*k+q)).length=j*k+q:=by rw [List.length_take,hcl]; omega
       have e3:(cur.toList.take (j*k+q)++vcells v).length=j*k+q+kk:=by rw [List.length_append,e2,hl]
       rw [e1,hl]
       have hm':xs.length*k=(j*k+q+kk)+(xs.length*k-(j*k+q+kk)):=by omega
       rw [List.take_append,e3,List.take_of_length_le (by rw [e3]; omega),List.drop_take]
 · refine .inl ?_
   simp only [osl] at hk' ⊢
   subst ha
   simpa [Value.ownBlock] using hk'
theorem WL.perm {L':List Asr} (hp:L.Perm L') (h:WL P ops Q n ds l (Ws w0 F L' Vs) rest):WL P ops Q n ds l (Ws w0 F L Vs) rest:=LW (fun _ h=>h.perm hp) h
end
end Go.Bw
end
section
namespace Go.Bw
set_option linter.unusedVariables false
set_option linter.unnecessarySimpa false
set_option linter.unusedSimpArgs false
open Go Go.RowKit
section
variable {P:Program} {ops:Array Oper} {Q:Exit→Act→World→Prop} {n:Nat} {ds:List Deferred} {l:List (Nat×Value)} {w0 w:World} {F:List Nat} {L:List Asr} {Vs:List View} {rest:List Oper} {A:Asr} {As:List Asr}
theorem Ws.fronti (h:Ws w0 F L Vs w) (i:Nat) (hL:L[i]? = some A):Ws w0 F (A::outOf i L) Vs w:=h.perm (outOf_perm i L hL)
end
end Go.Bw
end
section
namespace Go.Bw
set_option linter.unusedVariables false
set_option linter.unnecessarySimpa false
set_option linter.unusedSimpArgs false
open Go Go.RowKit
section
variable {P:Program} {ops:Array Oper} {Q:Exit→Act→World→Prop} {n:Nat} {ds:List Deferred} {l:List (Nat×Value)} {w0 w:World} {F:List Nat} {L:List Asr} {Vs:List View} {rest:List Oper}
 {ty:TypeId} {pos:String} {af:Array Edge} {g:Option (Nat×Bool)} {d:Nat}
theorem WL.appendL {α:Type} {f:α→List Value} {rd:View→Nat→Nat→α→Prop} {t e:TypeId} {z:Value} {size bytes:Nat} {s y:Operand} {a a2:Option Addr} {c c2:Nat} {xs ys:List α} (i:Nat) (H:World→View) (hg:GOk ops l g) (hn:Nat.blt d n=true) (hE:EltOk P t e z size bytes)
   (hs:opv l s=some (.slice a xs.length c)) (hy:opv l y=some (.slice a2 ys.length c2)) (hL:L[i]? = some (osT e size f a c xs)) (hH:∀w,Ws w0 F L Vs w→Le (H w) w∧Sl rd size (H w) a2 c2 ys) (hrd:∀H b o x,rd H b o x→RdC H b o (f x))
   (hf:∀x,(f x).length=size) (h1:∀x,(f x).all (·.oneCell')=true) (h63:xs.length+ys.length≤9223372036854775807) (hby:(xs.length+ys.length)*bytes≤140737488355328)
   (h:∀a' c',WL P ops Q n ds ((d,.slice a' (xs++ys).length c')::l) (Ws w0 F (L.set i (osT e size f a' c' (xs++ys))) Vs) rest) :
   WL P ops Q n ds l (Ws w0 F L Vs) (⟨some d,.call ⟨.builtin .append,#[s,y],#[t,t]⟩,ty,pos,af,g⟩::rest):=by
 cases a2 with
 | none=>
   refine WL.step hg fun A w hA hw K hK=>?_
   obtain ⟨inf,hi,hz,hsz,hbt⟩:=hE.info
   obtain ⟨_,hsl⟩:=hH w hw
   have hys:ys=[]:=by
     cases ys with
     | nil=>rfl
     | cons x r=>obtain ⟨b,o,hb,_⟩:=hsl.elt 0 x rfl; cases hb
   subst hys
   have hown:w.ownsRow 0 e size (.slice a xs.length c) xs.length (xs.flatMap f):=hw.kn _ (mem_of_idx hL)
   have hcap:xs.length≤c:=by
     rcases hown.2 with ⟨h3,_⟩ | ⟨b,cap,cur,hv,_,_,hmc,_⟩
     · injection h3 with _ h4 h5; omega
     · injection hv with _ _ h5; omega
   have hrun:=run_append_nothing (P:=P) w t t ty e inf hE.under hi a xs.length c hcap (.slice none 0 c2) ⟨.inl ⟨e,hE.under⟩,by simp [Builtin.lenOf],run_firstCells_none w _ 0 0 c2,run_firstCells_none w.drew _ 0 0 c2,by simp,by simp⟩
   have hrun':(execOp A.eval ⟨some d,.call ⟨.builtin .append,#[s,y],#[t,t]⟩,ty,pos,af,g⟩).run P w = .ok (.value (.slice a xs.length c)) w:=by
     simp only [execOp,resolve,List.map_toArray,List.map_cons,List.map_nil,hA.eval hs,hA.eval hy,Sem.run_bind,Sem.run_pure,Result.andThen_ok,invoke,builtin,List.length_nil,hrun]
   simp only [Oper.wp,hrun',Oper.upon_value]
   have hi':i<L.length:=(List.getElem?_eq_some_iff.1 hL).1
   have hset:L.set i (osT e size f a c xs)=L:=by
     rw [←(List.getElem?_eq_some_iff.1 hL).2]; exact List.set_getElem_self hi'
   have hh:=h a c
   simp only [List.append_nil] at hh
   rw [hset] at hh
   exact hK _ _ (hh _ _ (hA.put hn _) hw)
 | some p=>
   have e1:(xs.flatMap f)++ys.flatMap f=(xs++ys).flatMap f:=by simp
   have e2:xs.length+ys.length=(xs++ys).length:=by simp
   refine WL.append i hg hn hE hs hy hL (news:=ys.flatMap f) (k:=ys.length) (flat_length hf ys) (fun w hw k u hu=>?_) (fun u hu=>?_) (by unfold maxLen; omega) hby fun v' _=>?_
   · obtain ⟨hle,hsl⟩:=hH w hw
     have hk:=(List.getElem?_eq_some_iff.1 hu).1
     have hy0:0<ys.length:=by
       cases ys with
       | nil=>simp at hk
       | cons x r=>simp
     obtain ⟨b,o,hb,_⟩:=hsl.elt 0 _ (List.getElem?_eq_getElem hy0)
     injection hb with hb
     subst hb
     rw [add_none]
     have hpos:=hE.pos
     exact hle.cell (hsl.flat hf hpos (hrd _) k u hu)
   · obtain ⟨x,_,hx⟩:=List.mem_flatMap.1 hu
     exact List.all_eq_true.1 (h1 x) u hx
   · rw [e1,e2]
     have hi:i<L.length:=(List.getElem?_eq_some_iff.1 hL).1
     refine WL.slcm i (m:=(xs++ys).length) (xs:=(xs++ys).flatMap f) (e:=e) (size:=size) (v:=v') (by simp [hi]) fun a' c' hv=>?_
     subst hv
     exact h a' c'
theorem WL.calln {ι:Type} {f:FuncId} {args:Array Operand} {ts:Array TypeId} {vs:List Value} (hg:GOk ops l g) (hn:Nat.blt d n=true) (hf:Enters P f) (ha:evs l args.toList=some vs)
   (v:ι→Value) (L1':ι→List Asr) (R:ι→Prop)
   (hC:∀w,Ws w0 F L Vs w→Calls P f vs.toArray w fun e w'=>∃i,e = .returned (v i)∧R i∧Ws w [] (L1' i) [] w')
   (hr:∀i,R i→WL P ops Q n ds ((d,v i)::l) (Ws w0 F (L1' i++L) Vs) rest) :
   WL P ops Q n ds l (Ws w0 F L Vs) (⟨some d,.call ⟨.value (.func f),args,ts⟩,ty,pos,af,g⟩::rest):=by
 refine WL.call hg hn hf ha v (fun i w'=>R i∧Ws w0 F (L1' i++L) Vs w') (fun w hw=>(hC w hw).mono fun e w' ⟨i,he,hR,h⟩=>⟨i,he,hR,?_⟩) fun i=>?_
 · exact Ws.turn (L:=[]) (L':=L1' i) (L2:=L) (by simpa using hw) (by simpa using h.fr) h.kn h.nd (fun A hA k hk=>by
     rcases h.own A hA k hk with h1 | h1
     · simp at h1
     · exact .inr h1)
 · intro a w ha' hw
   exact hr i hw.1 a w ha' hw.2
end
end Go.Bw
end
section
namespace Go.Bw
set_option linter.unusedVariables false
set_option linter.unnecessarySimpa false
set_option linter.unusedSimpArgs false
open Go Go.RowKit
section
variable {P:Program} {ops:Array Oper} {Q:Exit→Act→World→Prop} {n:Nat} {ds:List Deferred} {l:List (Nat×Value)} {w0:World} {F:List Nat} {L:List Asr} {Vs:List View} {rest:List Oper} {c:Code}
 {ty:TypeId} {pos:String} {af:Array Edge} {g:Option (Nat×Bool)}
theorem WC.cutE {ι:Type} {x y:Code} {W:World→Prop} (E:ι→List (Nat×Value)) (Wi:ι→World→Prop) (R:ι→Prop) (hx:WC P x (Exit.then (fun a w=>∃i,R i∧Ag n ds (E i) a∧Wi i w) Q) n ds l W) (hy:∀i,R i→WC P y Q n ds (E i) (Wi i)):WC P (.seq x y) Q n ds l W:=by
 intro a w ha hw
 refine wp_seq (wp_mono (hx a w ha hw) fun e a' w' hq=>?_)
 cases e with
 | normal=>obtain ⟨i,hR,h1,h2⟩:=hq; exact hy i hR a' w' h1 h2
 | _=>exact hq
theorem WE.meetE {ι:Type} {Q:Exit→Act→World→Prop} {W:World→Prop} {E:ι→List (Nat×Value)} {Wi:ι→World→Prop} {R:ι→Prop} (i:ι) (hR:R i) (hE:∀p ∈ E i,lk l p.1=some p.2) (hW:∀w,W w→Wi i w) :
   WE (Exit.then (fun a w=>∃i,R i∧Ag n ds (E i) a∧Wi i w) Q) .normal n ds l W:=fun a w ha hw=>⟨i,hR,ha.sub hE,hW w hw⟩
theorem set_same {A:Asr} (i:Nat) (hL:L[i]? = some A):L.set i A=L:=by
 rw [←(List.getElem?_eq_some_iff.1 hL).2]; exact List.set_getElem_self (List.getElem?_eq_some_iff.1 hL).1
theorem WL.reL {A A':Asr} (i:Nat) (hL:L[i]? = some A) (hA:A=A') (h:WL P ops Q n ds l (Ws w0 F (L.set i A') Vs) rest):WL P ops Q n ds l (Ws w0 F L Vs) rest:=by
 subst hA; rwa [set_same i hL] at h
theorem WC.reL {A A':Asr} (i:Nat) (hL:L[i]? = some A) (hA:A=A') (h:WC P c Q n ds l (Ws w0 F (L.set i A') Vs)):WC P c Q n ds l (Ws w0 F L Vs):=by
 subst hA; rwa [set_same i hL] at h
theorem Ws.reL {w:World} {A A':Asr} (h:Ws w0 F L Vs w) (i:Nat) (hL:L[i]? = some A) (hA:A=A'):Ws w0 F (L.set i A') Vs w:=by
 subst hA; rwa [set_same i hL]
end
section
variable {P:Program} {l:List (Nat×Value)} {W:World→Prop} {d:Option Tmp} {ty:TypeId} {pos:String} {af:Array Edge} {g:Option (Nat×Bool)}
theorem yl_ltT {t u:TypeId} {x y:Operand} {k:IntKind} {a b:Int} (hx:opv l x=some (.int k a)) (hy:opv l y=some (.int k b)) (h:a<b):Yl P l W ⟨d,.binOp .lss t x y u,ty,pos,af,g⟩ (.bool true):=by
 have:=yl_lt (P:=P) (W:=W) (d:=d) (ty:=ty) (pos:=pos) (af:=af) (g:=g) (t:=t) (u:=u) hx hy
 rwa [show decide (a<b)=true by simpa using h] at this
theorem yl_ltF {t u:TypeId} {x y:Operand} {k:IntKind} {a b:Int} (hx:opv l x=some (.int k a)) (hy:opv l y=some (.int k b)) (h:b≤a):Yl P l W ⟨d,.binOp .lss t x y u,ty,pos,af,g⟩ (.bool false):=by
 have:=yl_lt (P:=P) (W:=W) (d:=d) (ty:=ty) (pos:=pos) (af:=af) (g:=g) (t:=t) (u:=u) hx hy
 rwa [show decide (a<b)=false by simp; omega] at this
end
end Go.Bw
end
section
namespace Go.Bw
open Go Go.RowKit
theorem WL.wk {P:Program} {ops:Array Oper} {Q:Exit→Act→World→Prop} {n:Nat} {ds:List Deferred} {l:List (Nat×Value)} {W W':World→Prop} {rest:List Oper} (hW:∀w,W w→W' w) (h:WL P ops Q n ds l W' rest):WL P ops Q n ds l W rest:=fun a w ha hw=>h a w ha (hW w hw)
theorem yl_neg {P:Program} {l:List (Nat×Value)} {W:World→Prop} {d:Option Tmp} {ty:TypeId} {pos:String} {af:Array Edge} {g:Option (Nat×Bool)} {t:TypeId} {x:Operand} {a:Int} (hx:opv l x=some (.int .i64 a)):Yl P l W ⟨d,.unOp .neg t x,ty,pos,af,g⟩ (.int .i64 (IntKind.i64.wrap (-a))):=
 fun ρ w hρ _=>by simp [execOp,hρ x _ hx,Op.unary,Op.intArith]
end Go.Bw
end
section
set_option linter.unusedSimpArgs false
namespace Go.Bw
open Go Go.RowKit
structure KeyOk {κ:Type} [BEq κ] [LawfulBEq κ] (kd:TypeDesc) (kv:κ→Value):Prop where
 same:∀a b,Instr.sameNow kd (kv a) (kv b)=some (a==b)
 isKey:∀a,MapKept.IsKey kd (kv a)
theorem keyInt:KeyOk (.int .i64) (fun n:Int=>Value.int .i64 n):=⟨fun a b=>by simp [Instr.sameNow],fun a=>by simp [MapKept.IsKey]⟩
theorem keyStr:KeyOk .string st:=⟨fun a b=>by simp only [st,Instr.sameNow,st_beq],fun a=>by simp [MapKept.IsKey,st]⟩
section
variable {κ:Type} {kv:κ→Value}
abbrev GEnt (κ:Type):=κ×Value×Nat
def gent (kv:κ→Value) (e:GEnt κ):MapEntry:={ key:=kv e.1,val:=e.2.1,born:=e.2.2 }
def gobj (kv:κ→Value) (m:List (GEnt κ)) (c:Nat):Obj:=.map (m.map (gent kv)).toArray c
theorem gmap_modify (m:List (GEnt κ)) (j:Nat) (k:κ) (v:Value):(m.map (gent kv)).modify j (fun e=>{ e with key:=kv k,val:=v })=(m.modify j fun e=>(k,v,e.2.2)).map (gent kv):=by
 apply List.ext_getElem?
 intro i
 simp only [List.getElem?_modify,List.getElem?_map]
 cases m[i]? with
 | none=>simp
 | some e=>by_cases h:j=i<;>simp [h,gent]
variable {P:Program} {ops:Array Oper} {Q:Exit→Act→World→Prop} {n:Nat} {ds:List Deferred} {l:List (Nat×Value)} {w0:World} {F:List Nat} {L:List Asr} {Vs:List View} {rest:List Oper} {d:Nat} {ty:TypeId} {pos:String} {af:Array Edge} {g:Option (Nat×Bool)}
theorem WL.gmk {t:TypeId} (kv:κ→Value) (hg:GOk ops l g) (hn:Nat.blt d n=true)
   (h:∀b,WL P ops Q n ds ((d,.map (some b))::l) (Ws w0 F (blk b (gobj kv [] 0)::L) Vs) rest) :
   WL P ops Q n ds l (Ws w0 F L Vs) (⟨some d,.makeMap t none,ty,pos,af,g⟩::rest):=
 WL.new (mk:=fun b=>.map (some b)) (o:=gobj kv [] 0) hg hn (fun ρ w _ _=>by
   simp only [execOp]
   simp [Instr.makeMap,gobj]) h
end
section
variable {κ:Type} [BEq κ] [LawfulBEq κ] {kd:TypeDesc} {kv:κ→Value}
def gfind (k:κ):List (GEnt κ)→Nat→Option (Nat×Value)
 | [],_=>none
 | e::r,i=>if (k==e.1)=true then some (i,e.2.1) else gfind k r (i+1)
def gput (k:κ) (v:Value) (m:List (GEnt κ)) (c:Nat):List (GEnt κ):=match gfind k m 0 with
 | some (i,_)=>m.modify i fun e=>(k,v,e.2.2)
 | none=>m++[(k,v,c)]
def gclock (k:κ) (m:List (GEnt κ)) (c:Nat):Nat:=match gfind k m 0 with | some _=>c | none=>c+1
def gget (k:κ) (m:List (GEnt κ)) (z:Value):Value:=match gfind k m 0 with | some (_,v)=>v | none=>z
def ghas (k:κ) (m:List (GEnt κ)):Bool:=(gfind k m 0).isSome
theorem gfindNow (hk:KeyOk kd kv) (k:κ):∀(m:List (GEnt κ)) (i:Nat),Instr.findNow kd (kv k) (m.map (gent kv)) i=some (gfind k m i)
 | [],_=>rfl
 | e::r,i=>by
   simp only [List.map_cons,Instr.findNow,gent,hk.same,gfind]
   cases h:(k==e.1)
   · simp only [Bool.false_eq_true,if_false]
     exact gfindNow hk k r (i+1)
   · simp
theorem gfind_key (k:κ) (j:Nat) (v':Value):∀(m:List (GEnt κ)) (i0:Nat),gfind k m i0=some (j,v')→i0≤j∧(m[j-i0]?).map (·.1)=some k
 | [],i0,h=>by simp [gfind] at h
 | e::r,i0,h=>by
   simp only [gfind] at h
   split at h
   · rename_i hk
     injection h with h; injection h with h1 h2
     subst h1
     simp at hk
     simp [hk]
   · obtain ⟨h1,h2⟩:=gfind_key k j v' r (i0+1) h
     refine ⟨by omega,?_⟩
     have:j-i0=(j-(i0+1))+1:=by omega
     rw [this]; simpa using h2
variable {P:Program} {ops:Array Oper} {Q:Exit→Act→World→Prop} {n:Nat} {ds:List Deferred} {l:List (Nat×Value)} {w0:World} {F:List Nat} {L:List Asr} {Vs:List View} {rest:List Oper} {d:Nat} {ty:TypeId} {pos:String} {af:Array Edge} {g:Option (Nat×Bool)}
theorem run_glook {w:World} {t kt e:TypeId} {b c:Nat} {m:List (GEnt κ)} {k:κ} {z:Value} (cm:Bool) (hkk:KeyOk kd kv) (ht:P.underlying t=some (.map kt e)) (hk:P.underlying kt=some kd) (hz:zeroOf P e=some z) (hb:w.heap[b]? = some (gobj kv m c)) :
   (Instr.lookup t (.map (some b)) (kv k) cm).run P w = .ok (if cm=true then .tuple #[gget k m z,.bool (ghas k m)] else gget k m z) w:=by
 have hf:=gfindNow hkk k m 0
 have hb:w.heap[b]? = some (.map (m.map (gent kv)).toArray c):=hb
 have hc:(Instr.checkKey (m.map (gent kv)).toArray.isEmpty 10000 kt (kv k)).run P w = .ok () w:=MapKept.run_checkKey (k:=kv k) hk (hkk.isKey k) _ 9999
 simp only [Instr.lookup,Sem.run_bind,run_underlying ht,Result.andThen_ok,MapKept.run_getObj_map hb,Sem.run_pure,hc]
 rw [MapKept.run_findKey hk (by simpa using hf)]
 unfold gget ghas
 cases hm:gfind k m 0 with
 | none=>simp [Result.andThen_ok,run_zero hz]
 | some r=>obtain ⟨i,v⟩:=r; simp [Result.andThen_ok]
theorem yl_glook {dd:Option Tmp} {t kt e:TypeId} {x y:Operand} {b c:Nat} {m:List (GEnt κ)} {k:κ} {z:Value} (i:Nat) (hkk:KeyOk kd kv) (ht:P.underlying t=some (.map kt e)) (hk:P.underlying kt=some kd) (hz:zeroOf P e=some z) (hx:opv l x=some (.map (some b))) (hy:opv l y=some (kv k)) (hL:L[i]? = some (blk b (gobj kv m c))) :
   Yl P l (Ws w0 F L Vs) ⟨dd,.lookup t x y false,ty,pos,af,g⟩ (gget k m z):=by
 intro ρ w hρ hw
 simp [execOp,hρ x _ hx,hρ y _ hy,run_glook (P:=P) (k:=k) false hkk ht hk hz (hw.kn _ (mem_of_idx hL):w.heap[b]? = some (gobj kv m c))]
theorem yl_glook2 {dd:Option Tmp} {t kt e:TypeId} {x y:Operand} {b c:Nat} {m:List (GEnt κ)} {k:κ} {z:Value} (i:Nat) (hkk:KeyOk kd kv) (ht:P.underlying t=some (.map kt e)) (hk:P.underlying kt=some kd) (hz:zeroOf P e=some z) (hx:opv l x=some (.map (some b))) (hy:opv l y=some (kv k)) (hL:L[i]? = some (blk b (gobj kv m c))) :
   Yl P l (Ws w0 F L Vs) ⟨dd,.lookup t x y true,ty,pos,af,g⟩ (.tuple #[gget k m z,.bool (ghas k m)]):=by
 intro ρ w hρ hw
 simp [execOp,hρ x _ hx,hρ y _ hy,run_glook (P:=P) (k:=k) true hkk ht hk hz (hw.kn _ (mem_of_idx hL):w.heap[b]? = some (gobj kv m c))]
theorem run_gset {w:World} {t kt e:TypeId} {b c:Nat} {m:List (GEnt κ)} {k:κ} {v:Value} (hkk:KeyOk kd kv) (ht:P.underlying t=some (.map kt e)) (hk:P.underlying kt=some kd) (hb':w.heap[b]? = some (gobj kv m c)) :
   (Instr.mapUpdate t (.map (some b)) (kv k) v).run P w = .ok () { w with heap:=w.heap.setIfInBounds b (gobj kv (gput k v m c) (gclock k m c)) }:=by
 have hb:w.heap[b]? = some (.map (m.map (gent kv)).toArray c):=hb'
 have hf:=gfindNow hkk k m 0
 have hc:(Instr.checkKey false 10000 kt (kv k)).run P w = .ok () w:=MapKept.run_checkKey (k:=kv k) hk (hkk.isKey k) _ 9999
 simp only [Instr.mapUpdate,Sem.run_bind,run_underlying ht,Result.andThen_ok,MapKept.run_getObj_map hb,Sem.run_pure,hc]
 rw [MapKept.run_findKey hk (by simpa using hf)]
 unfold gput gclock
 cases hm:gfind k m 0 with
 | none=>simp [Result.andThen_ok,MapKept.run_setObj_map _ hb,gobj,gent]
 | some r=>
   obtain ⟨j,v'⟩:=r
   have hkey:m[j]?.map (·.1)=some k:=by simpa using (gfind_key k j v' m 0 hm).2
   have hst:((((m.map (gent kv)).toArray)[j]?).map (·.key)).getD (kv k)=kv k:=by
     cases he:m[j]? with
     | none=>simp [he]
     | some e=>rw [he] at hkey; simp at hkey; simp [he,gent,hkey]
   simp only [hst,Result.andThen_ok]
   simp only [Sem.run_bind,MapKept.run_keyThatStays (hkk.isKey k),Result.andThen_ok,MapKept.run_setObj_map _ hb,gobj]
   have hmm:(m.map (gent kv)).toArray.modify j (fun e=>{ e with key:=kv k,val:=v })=((m.modify j fun e=>(k,v,e.2.2)).map (gent kv)).toArray:=by
     apply Array.ext'
     rw [Array.toList_modify]
     exact gmap_modify m j k v
   rw [hmm]
theorem WL.gset {t kt e:TypeId} {x y u:Operand} {b c:Nat} {m:List (GEnt κ)} {k:κ} {v:Value} (i:Nat) (hkk:KeyOk kd kv) (hg:GOk ops l g) (ht:P.underlying t=some (.map kt e)) (hk:P.underlying kt=some kd) (hx:opv l x=some (.map (some b))) (hy:opv l y=some (kv k)) (hu:opv l u=some v) (hL:L[i]? = some (blk b (gobj kv m c)))
   (h:WL P ops Q n ds l (Ws w0 F (L.set i (blk b (gobj kv (gput k v m c) (gclock k m c)))) Vs) rest) :
   WL P ops Q n ds l (Ws w0 F L Vs) (⟨none,.mapUpdate t x y u,ty,pos,af,g⟩::rest):=by
 refine WL.step hg fun a w ha hw K hK=>?_
 have hb:w.heap[b]? = some (gobj kv m c):=hw.kn _ (mem_of_idx hL)
 have hrun':(execOp a.eval ⟨none,.mapUpdate t x y u,ty,pos,af,g⟩).run P w = .ok .skip { w with heap:=w.heap.setIfInBounds b (gobj kv (gput k v m c) (gclock k m c)) }:=by
   simp only [execOp,ha.eval hx,ha.eval hy,ha.eval hu,Sem.run_bind,run_gset hkk ht hk hb,Result.andThen_ok,Sem.run_pure]
 simp only [Oper.wp,hrun',Oper.upon_skip]
 refine hK _ _ (h _ _ (ha.put_none undef) ?_)
 refine Ws.turn1 hw i hL ⟨rfl,rfl,rfl,by simp,fun j hj hne=>?_⟩ ?_ (by simp [blk]) (by simp [blk])
 · have:b≠j:=fun e=>hne (by simp [blk,e])
   simp [Array.getElem?_setIfInBounds_ne this]
 · show (w.heap.setIfInBounds b _)[b]? = _
   simp [lt_of_heap hb]
theorem WL.gins {t kt e:TypeId} {x y u:Operand} {b c:Nat} {m:List (GEnt κ)} {k:κ} {v:Value} (i:Nat) (hkk:KeyOk kd kv) (hg:GOk ops l g) (ht:P.underlying t=some (.map kt e)) (hk:P.underlying kt=some kd) (hx:opv l x=some (.map (some b))) (hy:opv l y=some (kv k)) (hu:opv l u=some v) (hL:L[i]? = some (blk b (gobj kv m c)))
   (h:WL P ops Q n ds l (Ws w0 F (L.set i (blk b (gobj kv (gput k v m c) (gclock k m c)))) Vs) rest) :
   WL P ops Q n ds l (Ws w0 F L Vs) (⟨none,.insert t x y u,ty,pos,af,g⟩::rest):=by
 refine WL.step hg fun a w ha hw K hK=>?_
 have hb:w.heap[b]? = some (gobj kv m c):=hw.kn _ (mem_of_idx hL)
 have hrun':(execOp a.eval ⟨none,.insert t x y u,ty,pos,af,g⟩).run P w = .ok .skip { w with heap:=w.heap.setIfInBounds b (gobj kv (gput k v m c) (gclock k m c)) }:=by
   simp only [execOp,ha.eval hx,ha.eval hy,ha.eval hu,Sem.run_bind,run_gset hkk ht hk hb,Result.andThen_ok,Sem.run_pure]
 simp only [Oper.wp,hrun',Oper.upon_skip]
 refine hK _ _ (h _ _ (ha.put_none undef) ?_)
 refine Ws.turn1 hw i hL ⟨rfl,rfl,rfl,by simp,fun j hj hne=>?_⟩ ?_ (by simp [blk]) (by simp [blk])
 · have:b≠j:=fun e=>hne (by simp [blk,e])
   simp [Array.getElem?_setIfInBounds_ne this]
 · show (w.heap.setIfInBounds b _)[b]? = _
   simp [lt_of_heap hb]
end
end Go.Bw
end
section
set_option linter.unusedSimpArgs false
namespace Go.Bw
open Go Go.RowKit
def arrP (P:Program) (t:TypeId):Option (Nat×Nat):=match P.underlying t with | some (.array n e)=>(P.info? e).map fun i=>(n,i.size) | _=>none
def arr1 (P:Program) (t:TypeId):Option Nat:=match P.underlying t with | some (.array n e)=>if nonAgg P e=true∧(P.info? e).map (·.size)=some 1 then some n else none | _=>none
section
variable {P:Program} {l:List (Nat×Value)} {W:World→Prop} {d:Option Tmp} {ty:TypeId} {pos:String} {af:Array Edge} {g:Option (Nat×Bool)}
theorem yl_iar {t:TypeId} {x y:Operand} {b o n s:Nat} {k:IntKind} {i:Nat} (hs:arrP P t=some (n,s)) (hx:opv l x=some (.pointer (some ⟨b,o,none⟩))) (hy:opv l y=some (.int k (i:Int))) (h1:i<n) :
   Yl P l W ⟨d,.indexAddr t x y,ty,pos,af,g⟩ (.pointer (some ⟨b,o+i*s,none⟩)):=by
 intro ρ w hρ _
 unfold arrP at hs
 cases hu:P.underlying t with
 | none=>simp [hu] at hs
 | some dd=>
   cases dd<;>simp [hu] at hs
   rename_i m e
   obtain ⟨inf,hi,h2,h3⟩:=hs
   subst h2 h3
   have hlt:(i:Int)<(m:Int):=by omega
   simp [execOp,hρ x _ hx,hρ y _ hy,Instr.indexAt,run_underlying hu,asIntOf,hlt,h1,sizeOf,typeInfo,hi,add_none,Instr.sureAddr]
theorem yl_ixa {t:TypeId} {x y:Operand} {n:Nat} {cs:Array Value} {k:IntKind} {i:Nat} {v:Value} (hs:arr1 P t=some n) (hx:opv l x=some (.agg cs)) (hy:opv l y=some (.int k (i:Int))) (h1:i<n) (hv:cs[i]? = some v) :
   Yl P l W ⟨d,.index t x y,ty,pos,af,g⟩ v:=by
 intro ρ w hρ _
 unfold arr1 at hs
 cases hu:P.underlying t with
 | none=>simp [hu] at hs
 | some dd=>
   cases dd<;>simp [hu] at hs
   rename_i m e
   obtain ⟨⟨hna,inf,hi,hsz⟩,rfl⟩:=hs
   have hlt:(i:Int)<(m:Int):=by omega
   have ha:=run_isAgg_non hna w
   have hp:(part e cs (i*inf.size)).run P w = .ok v w:=by
     simp [part,ha,hsz,hv]
   simp [execOp,hρ x _ hx,hρ y _ hy,Instr.index,run_underlying hu,asIntOf,hlt,h1,sizeOf,typeInfo,hi,hp]
end
end Go.Bw
end
section
namespace Go.Bw
open Go
set_option linter.unusedVariables false
set_option linter.unusedSimpArgs false
structure Tok where
 kind:Int
 n:Int
 text:List UInt8
deriving DecidableEq
def Tok.cells (t:Tok):List Value:=[.int .i64 t.kind,.int .i64 t.n,st t.text]
theorem Tok.cells_len (x:Tok):x.cells.length=3:=rfl
def letterB (u:Int):Bool:=decide (97≤u)&&decide (u≤122)
def digitB (u:Int):Bool:=decide (48≤u)&&decide (u≤57)
def charB (u:UInt8):Bool:=letterB u.toNat||digitB u.toNat
def nameB (s:List UInt8):Bool:=(decide (1≤s.length)&&decide (s.length≤8))&&letterB ((s[0]?.getD 0).toNat)&&s.all charB
def signL:List UInt8:=[123,125,40,41,91,93,44,59,61,46,43,45,42,47,37,60,33,38,124]
def signB (u:UInt8):Bool:=signL.contains u
def kindT (t:Tok):Bool:=decide (1≤t.kind)&&decide (t.kind≤3)
def tokOk (t:Tok):Bool:=if t.kind=1 then t.n==0&&nameB t.text else if t.kind=2 then t.text==[]&&(decide (0≤t.n)&&decide (t.n≤1099511627775)) else t.n==0&&(t.text.length==1&&signB (t.text[0]?.getD 0))
end Go.Bw
end
section
namespace Go.Bw
open Go
set_option linter.unusedVariables false
set_option linter.unusedSimpArgs false
inductive TExpr where
 | mk (op n:Int) (mod nm:List UInt8) (args:List TExpr)
inductive TStmt where
 | mk (op:Int) (mod nm:List UInt8) (args:List TExpr) (body other:List TStmt)
def TExpr.op:TExpr→Int | .mk o _ _ _ _=>o
def TExpr.n:TExpr→Int | .mk _ n _ _ _=>n
def TExpr.mod:TExpr→List UInt8 | .mk _ _ m _ _=>m
def TExpr.nm:TExpr→List UInt8 | .mk _ _ _ s _=>s
def TExpr.args:TExpr→List TExpr | .mk _ _ _ _ a=>a
def TStmt.op:TStmt→Int | .mk o _ _ _ _ _=>o
def TStmt.mod:TStmt→List UInt8 | .mk _ m _ _ _ _=>m
def TStmt.nm:TStmt→List UInt8 | .mk _ _ s _ _ _=>s
def TStmt.args:TStmt→List TExpr | .mk _ _ _ a _ _=>a
def TStmt.body:TStmt→List TStmt | .mk _ _ _ _ b _=>b
def TStmt.other:TStmt→List TStmt | .mk _ _ _ _ _ o=>o
structure TDecl where
 kind:Int
 nm:List UInt8
 pub:Bool
 n:Int
deriving DecidableEq
structure TProc where
 nm:List UInt8
 pub:Bool
 params:List (List UInt8)
 locs:List (List UInt8)
 body:List TStmt
structure TMod where
 nm:List UInt8
 uses:List (List UInt8)
 decls:List TDecl
 procs:List TProc
 main:List TStmt
structure Cnt where
 f:Nat
 m:Nat
 k:Nat
deriving DecidableEq
instance:Add Cnt:=⟨fun a b=>⟨a.f+b.f,a.m+b.m,a.k+b.k⟩⟩
def Cnt.tot (c:Cnt):Nat:=c.f+c.m+c.k
def c0:Cnt:=⟨0,0,0⟩
theorem Cnt.add_f (a b:Cnt):(a+b).f=a.f+b.f:=rfl
theorem Cnt.add_m (a b:Cnt):(a+b).m=a.m+b.m:=rfl
theorem Cnt.add_k (a b:Cnt):(a+b).k=a.k+b.k:=rfl
theorem Cnt.ext' {a b:Cnt} (h1:a.f=b.f) (h2:a.m=b.m) (h3:a.k=b.k):a=b:=by
 cases a; cases b; simp_all
theorem Cnt.add_assoc' (a b c:Cnt):a+b+c=a+(b+c):=Cnt.ext' (Nat.add_assoc _ _ _) (Nat.add_assoc _ _ _) (Nat.add_assoc _ _ _)
theorem Cnt.tot_add (a b:Cnt):(a+b).tot=a.tot+b.tot:=by
 simp only [Cnt.tot,Cnt.add_f,Cnt.add_m,Cnt.add_k]; omega
def b2n (b:Bool):Nat:=if b=true then 1 else 0
def noteF (b:Bool):Cnt:=⟨b2n b,0,0⟩
def noteM (b:Bool):Cnt:=⟨0,b2n b,0⟩
def noteK (b:Bool):Cnt:=⟨0,0,b2n b⟩
def wordsL:List (List UInt8):=[[109,111,100,117,108,101],[117,115,101],[112,117,98],[99,111,110,115,116],[118,97,114],[97,114,114,97,121],[112,114,111,99],[108,111,99,97,108],[109,97,105,110],[105,102],[101,108,115,101],[119,104,105,108,101],[114,101,116,117,114,110],[111,117,116],[105,110]]
def nameT (s:List UInt8):Bool:=nameB s&&!(wordsL.contains s)
def shE (op:Int):Option (Bool×Int):=if op=1∨op=2 then some (false,0) else if op=3 then some (true,0) else if op=4 then some (true,1) else if op=5 then some (true,-1) else if op=6 then some (false,1) else if 7≤op∧op≤15 then some (false,2) else none
def shS (op:Int):Option (Bool×Int):=if op=1 then some (true,1) else if op=2 then some (true,2) else if op=3 then some (true,-1) else if 4≤op∧op≤7 then some (false,1) else none
def badName (r:Bool) (mod nm:List UInt8):Bool:=(r&&((!(mod==[])&&!nameT mod)||!nameT nm))||(!r&&!(mod++nm==[]))
def badArgs (a:Int) (len:Nat):Bool:=decide (0≤a)&&!((len:Int)==a)
def shapeC (s:Bool×Int) (mod nm:List UInt8) (len:Nat):Cnt:=noteF (badName s.1 mod nm)+noteF (badArgs s.2 len)+noteM (decide (3<len))
def numBad (op n:Int):Bool:=((op==1)&&(decide (n<0)||decide (1099511627775<n)))||(!(op==1)&&!(n==0))
mutual
def cntE:TExpr→Nat→Cnt
 | .mk op n mod nm args,d=>if 6<d then ⟨0,1,0⟩ else noteK (shE op).isNone+shapeC ((shE op).getD (false,0)) mod nm args.length+noteF (numBad op n)+cntEs args (d+1)
def cntEs:List TExpr→Nat→Cnt
 | [],_=>c0
 | x::r,d=>cntE x d+cntEs r d
end
def inner (op:Int):Bool:=(op==4)||(op==5)
def bodyBad (op:Int) (b o:Nat):Bool:=(!inner op&&decide (0<b))||(!(op==4)&&decide (0<o))
def blkC (d len:Nat) (c:Cnt):Cnt:=if 6<d then ⟨0,1,0⟩ else noteM (decide (10<len))+c
mutual
def cntS:TStmt→Nat→Cnt
 | .mk op mod nm args body other,d=>noteK (shS op).isNone+shapeC ((shS op).getD (false,0)) mod nm args.length+cntEs args 1+noteF (bodyBad op body.length other.length)
     + (if (inner op||decide (0<body.length))=true then blkC (d+1) body.length (cntSs body (d+1)) else c0)+(if 0<other.length then blkC (d+1) other.length (cntSs other (d+1)) else c0)
def cntSs:List TStmt→Nat→Cnt
 | [],_=>c0
 | x::r,d=>cntS x d+cntSs r d
end
def cntB (l:List TStmt) (d:Nat):Cnt:=blkC d l.length (cntSs l d)
def cntN:List (List UInt8)→Cnt
 | []=>c0
 | s::r=>noteF (!nameT s)+cntN r
def declC (d:TDecl):Cnt:=cntN [d.nm]+(if d.kind=1 then noteF (decide (d.n<0)||decide (1099511627775<d.n)) else if d.kind=2 then noteF (!(d.n==0)) else if d.kind=3 then noteF (decide (d.n<1)||decide (32<d.n)) else noteK true)
def declsC:List TDecl→Cnt
 | []=>c0
 | d::r=>declC d+declsC r
def procC (p:TProc):Cnt:=cntN [p.nm]+cntN p.params+cntN p.locs+noteM (decide (3<p.params.length)||decide (4<p.locs.length))+cntB p.body 1
def procsC:List TProc→Cnt
 | []=>c0
 | p::r=>procC p+procsC r
def modC (m:TMod):Cnt:=cntN [m.nm]+cntN m.uses+noteM ((decide (3<m.uses.length)||decide (10<m.decls.length))||decide (6<m.procs.length))+declsC m.decls+procsC m.procs+cntB m.main 1
def errC (c:Cnt):Int:=if 0<c.k then 4 else if 0<c.m then 2 else if 0<c.f then 1 else 0
def checkM (m:TMod):Int:=errC (modC m)
def within_ (n low high:Int):Bool:=decide (low≤n)&&decide (n≤high)
def exprArgsT (op:Int):Int:=if op=1∨op=2∨op=3 then 0 else if op=4∨op=6 then 1 else if op=5 then -1 else 2
def stmtArgsT (op:Int):Int:=if op=2 then 2 else if op=3 then -1 else 1
end Go.Bw
end
section
namespace Go.Bw
open Go
set_option linter.unusedVariables false
set_option linter.unusedSimpArgs false
def strC (s:List UInt8):List Value:=[st s]
def rdStr (H:View) (b o:Nat) (s:List UInt8):Prop:=RdC H b o (strC s)
theorem strC_len (s:List UInt8):(strC s).length=1:=rfl
theorem rdStr_mono {H H':View} (h:VLe H H') (b o:Nat) (x:List UInt8) (r:rdStr H b o x):rdStr H' b o x:=RdC.mono h r
def TDecl.cells (d:TDecl):List Value:=[.int .i64 d.kind,st d.nm,.bool d.pub,.int .i64 d.n]
theorem TDecl.cells_len (d:TDecl):d.cells.length=4:=rfl
def rdDecl (H:View) (b o:Nat) (d:TDecl):Prop:=RdC H b o d.cells
def exprV (e:TExpr) (a:Option Addr) (c:Nat):List Value:=[.int .i64 e.op,.int .i64 e.n,st e.mod,st e.nm,.slice a e.args.length c]
def RdE:Nat→View→Nat→Nat→TExpr→Prop
 | 0=>fun _ _ _ _=>False
 | k+1=>fun H b o e=>∃a c,RdC H b o (exprV e a c)∧Sl (RdE k) 5 H a c e.args
def stmtV (s:TStmt) (a:Option Addr) (c:Nat) (a2:Option Addr) (c2:Nat) (a3:Option Addr) (c3:Nat):List Value:=[.int .i64 s.op,st s.mod,st s.nm,.slice a s.args.length c,.slice a2 s.body.length c2,.slice a3 s.other.length c3]
def RdS (ke:Nat):Nat→View→Nat→Nat→TStmt→Prop
 | 0=>fun _ _ _ _=>False
 | k+1=>fun H b o s=>∃a c a2 c2 a3 c3,RdC H b o (stmtV s a c a2 c2 a3 c3)∧Sl (RdE ke) 5 H a c s.args∧Sl (RdS ke k) 6 H a2 c2 s.body∧Sl (RdS ke k) 6 H a3 c3 s.other
def procV (p:TProc) (a1:Option Addr) (c1:Nat) (a2:Option Addr) (c2:Nat) (a3:Option Addr) (c3:Nat):List Value:=[st p.nm,.bool p.pub,.slice a1 p.params.length c1,.slice a2 p.locs.length c2,.slice a3 p.body.length c3]
def RdP (ke ks:Nat) (H:View) (b o:Nat) (p:TProc):Prop:=∃a1 c1 a2 c2 a3 c3,RdC H b o (procV p a1 c1 a2 c2 a3 c3)∧Sl rdStr 1 H a1 c1 p.params∧Sl rdStr 1 H a2 c2 p.locs∧Sl (RdS ke ks) 6 H a3 c3 p.body
structure MAt where
 a1:Option Addr
 c1:Nat
 a2:Option Addr
 c2:Nat
 a3:Option Addr
 c3:Nat
 a4:Option Addr
 c4:Nat
def modV (m:TMod) (r:MAt):List Value:=[st m.nm,.slice r.a1 m.uses.length r.c1,.slice r.a2 m.decls.length r.c2,.slice r.a3 m.procs.length r.c3,.slice r.a4 m.main.length r.c4]
structure RdM (ke ks:Nat) (H:View) (r:MAt) (m:TMod):Prop where
 uses:Sl rdStr 1 H r.a1 r.c1 m.uses
 decls:Sl rdDecl 4 H r.a2 r.c2 m.decls
 procs:Sl (RdP ke ks) 5 H r.a3 r.c3 m.procs
 main:Sl (RdS ke ks) 6 H r.a4 r.c4 m.main
theorem Sl.imp {α:Type} {rd rd':View→Nat→Nat→α→Prop} {k:Nat} {H H':View} {a:Option Addr} {c:Nat} {l:List α} (hm:∀b o x,rd H b o x→rd' H' b o x) (h:Sl rd k H a c l):Sl rd' k H' a c l:=
 ⟨h.cap,h.max,h.spot,fun i x hx=>by obtain ⟨b,o,h1,h2⟩:=h.elt i x hx; exact ⟨b,o,h1,hm _ _ _ h2⟩⟩
theorem RdE_mono {H H':View} (hH:VLe H H'):∀{k k':Nat},k≤k'→∀(b o:Nat) (e:TExpr),RdE k H b o e→RdE k' H' b o e
 | 0,_,_,_,_,_,h=>h.elim
 | k+1,0,hk,_,_,_,_=>absurd hk (by omega)
 | k+1,k'+1,hk,b,o,e,h=>by
   obtain ⟨a,c,h1,h2⟩:=h
   exact ⟨a,c,RdC.mono hH h1,h2.imp fun b o x hx=>RdE_mono hH (by omega) b o x hx⟩
theorem RdS_mono {H H':View} (hH:VLe H H') {ke ke':Nat} (hke:ke≤ke'):∀{k k':Nat},k≤k'→∀(b o:Nat) (e:TStmt),RdS ke k H b o e→RdS ke' k' H' b o e
 | 0,_,_,_,_,_,h=>h.elim
 | k+1,0,hk,_,_,_,_=>absurd hk (by omega)
 | k+1,k'+1,hk,b,o,e,h=>by
   obtain ⟨a,c,a2,c2,a3,c3,h1,h2,h3,h4⟩:=h
   exact ⟨a,c,a2,c2,a3,c3,RdC.mono hH h1,h2.imp fun b o x hx=>RdE_mono hH hke b o x hx,h3.imp fun b o x hx=>RdS_mono hH hke (by omega) b o x hx,h4.imp fun b o x hx=>RdS_mono hH hke (by omega) b o x hx⟩
theorem RdP_mono {H H':View} (hH:VLe H H') {ke ke' ks ks':Nat} (hke:ke≤ke') (hks:ks≤ks') (b o:Nat) (p:TProc) (h:RdP ke ks H b o p):RdP ke' ks' H' b o p:=by
 obtain ⟨a1,c1,a2,c2,a3,c3,h1,h2,h3,h4⟩:=h
 exact ⟨a1,c1,a2,c2,a3,c3,RdC.mono hH h1,h2.imp fun b o x hx=>rdStr_mono hH b o x hx,h3.imp fun b o x hx=>rdStr_mono hH b o x hx,h4.imp fun b o x hx=>RdS_mono hH hke hks b o x hx⟩
mutual
def wE:TExpr→Nat
 | .mk _ _ mod nm args=>1+mod.length+nm.length+wEs args
def wEs:List TExpr→Nat
 | []=>0
 | x::r=>wE x+wEs r
end
mutual
def wS:TStmt→Nat
 | .mk _ mod nm args body other=>1+mod.length+nm.length+wEs args+wSs body+wSs other
def wSs:List TStmt→Nat
 | []=>0
 | x::r=>wS x+wSs r
end
def wN:List (List UInt8)→Nat
 | []=>0
 | s::r=>1+s.length+wN r
def wD:List TDecl→Nat
 | []=>0
 | d::r=>1+d.nm.length+wD r
def wP:List TProc→Nat
 | []=>0
 | p::r=>1+p.nm.length+wN p.params+wN p.locs+wSs p.body+wP r
def wM (m:TMod):Nat:=1+m.nm.length+wN m.uses+wD m.decls+wP m.procs+wSs m.main
theorem wE_eq (x:TExpr):wE x=1+x.mod.length+x.nm.length+wEs x.args:=by cases x; rfl
theorem wS_eq (x:TStmt):wS x=1+x.mod.length+x.nm.length+wEs x.args+wSs x.body+wSs x.other:=by cases x; rfl
theorem wN_len:∀l:List (List UInt8),l.length≤wN l
 | []=>Nat.le_refl _
 | x::r=>by have:=wN_len r; unfold wN; simp; omega
theorem noteF_tot (b:Bool):(noteF b).tot≤1:=by cases b<;>decide
theorem noteM_tot (b:Bool):(noteM b).tot≤1:=by cases b<;>decide
theorem noteK_tot (b:Bool):(noteK b).tot≤1:=by cases b<;>decide
theorem shapeC_tot (s:Bool×Int) (mod nm:List UInt8) (len:Nat):(shapeC s mod nm len).tot≤3:=by
 unfold shapeC
 rw [Cnt.tot_add,Cnt.tot_add]
 have:=noteF_tot (badName s.1 mod nm); have:=noteF_tot (badArgs s.2 len); have:=noteM_tot (decide (3<len))
 omega
theorem c0_tot:c0.tot=0:=rfl
mutual
theorem cntE_le:∀(x:TExpr) (d:Nat),(cntE x d).tot≤8*wE x
 | .mk op n mod nm args,d=>by
   unfold cntE wE
   split
   · show 0+1+0≤_
     omega
   · rw [Cnt.tot_add,Cnt.tot_add,Cnt.tot_add]
     have:=cntEs_le args (d+1); have:=noteK_tot (shE op).isNone; have:=shapeC_tot ((shE op).getD (false,0)) mod nm args.length; have:=noteF_tot (numBad op n)
     omega
theorem cntEs_le:∀(l:List TExpr) (d:Nat),(cntEs l d).tot≤8*wEs l
 | [],_=>Nat.le_refl _
 | x::r,d=>by
   have:=cntE_le x d; have:=cntEs_le r d
   unfold cntEs wEs
   rw [Cnt.tot_add]
   omega
end
theorem blkC_le (d len:Nat) (c:Cnt):(blkC d len c).tot≤1+c.tot:=by
 unfold blkC
 split
 · show 0+1+0≤_
   omega
 · rw [Cnt.tot_add]
   have:=noteM_tot (decide (10<len))
   omega
theorem if_tot (b:Prop) [Decidable b] (c:Cnt):(if b then c else c0).tot≤c.tot:=by
 split
 · exact Nat.le_refl _
 · exact Nat.zero_le _
mutual
theorem cntS_le:∀(x:TStmt) (d:Nat),(cntS x d).tot≤8*wS x
 | .mk op mod nm args body other,d=>by
   unfold cntS wS
   rw [Cnt.tot_add,Cnt.tot_add,Cnt.tot_add,Cnt.tot_add,Cnt.tot_add]
   have h1:=cntEs_le args 1; have h2:=noteK_tot (shS op).isNone; have h3:=shapeC_tot ((shS op).getD (false,0)) mod nm args.length; have h4:=noteF_tot (bodyBad op body.length other.length)
   have h5:=if_tot ((inner op||decide (0<body.length))=true) (blkC (d+1) body.length (cntSs body (d+1)))
   have h6:=if_tot (0<other.length) (blkC (d+1) other.length (cntSs other (d+1)))
   have h7:=blkC_le (d+1) body.length (cntSs body (d+1)); have h8:=blkC_le (d+1) other.length (cntSs other (d+1))
   have h9:=cntSs_le body (d+1); have h10:=cntSs_le other (d+1)
   omega
theorem cntSs_le:∀(l:List TStmt) (d:Nat),(cntSs l d).tot≤8*wSs l
 | [],_=>Nat.le_refl _
 | x::r,d=>by
   have:=cntS_le x d; have:=cntSs_le r d
   unfold cntSs wSs
   rw [Cnt.tot_add]
   omega
end
theorem cntN_le:∀l:List (List UInt8),(cntN l).tot≤wN l
 | []=>Nat.le_refl _
 | s::r=>by
   have:=cntN_le r; have:=noteF_tot (!nameT s)
   unfold cntN wN
   rw [Cnt.tot_add]
   omega
theorem declC_tot (d:TDecl):(declC d).tot≤2:=by
 unfold declC cntN cntN
 rw [Cnt.tot_add,Cnt.tot_add,c0_tot]
 have:=noteF_tot (!nameT d.nm)
 split
 · have:=noteF_tot (decide (d.n<0)||decide (1099511627775<d.n)); omega
 · split
   · have:=noteF_tot (!(d.n==0)); omega
   · split
     · have:=noteF_tot (decide (d.n<1)||decide (32<d.n)); omega
     · have:=noteK_tot true; omega
theorem declsC_le:∀l:List TDecl,(declsC l).tot≤8*wD l
 | []=>Nat.le_refl _
 | d::r=>by
   have:=declsC_le r; have:=declC_tot d
   unfold declsC wD
   rw [Cnt.tot_add]
   omega
theorem cntB_le (l:List TStmt) (d:Nat):(cntB l d).tot≤1+8*wSs l:=by
 unfold cntB
 have:=blkC_le d l.length (cntSs l d); have:=cntSs_le l d
 omega
theorem cntN1_le (s:List UInt8):(cntN [s]).tot≤1:=by
 unfold cntN cntN
 rw [Cnt.tot_add,c0_tot]
 have:=noteF_tot (!nameT s)
 omega
theorem procC_le (p:TProc):(procC p).tot≤3+wN p.params+wN p.locs+8*wSs p.body:=by
 unfold procC
 rw [Cnt.tot_add,Cnt.tot_add,Cnt.tot_add,Cnt.tot_add]
 have:=cntN1_le p.nm; have:=cntN_le p.params; have:=cntN_le p.locs; have:=noteM_tot (decide (3<p.params.length)||decide (4<p.locs.length)); have:=cntB_le p.body 1
 omega
theorem procsC_le:∀l:List TProc,(procsC l).tot≤8*wP l
 | []=>Nat.le_refl _
 | p::r=>by
   have:=procsC_le r; have:=procC_le p
   unfold procsC wP
   rw [Cnt.tot_add]
   omega
end Go.Bw
end
section
set_option linter.unusedSimpArgs false
namespace Go.Bw
open Go Go.RowKit
theorem sl_blk {α:Type} {rd:View→Nat→Nat→α→Prop} {f:α→List Value} {k:Nat} {H:View} {b m:Nat} {T:TypeId} {fz:Nat×Nat} {xs:List α} (hH:H b=some (.cells (xs.flatMap f).toArray T fz)) (hf:∀x,(f x).length=k) (hrd:∀H b o x,RdC H b o (f x)→rd H b o x) (hn:xs.length≤m) (hm:m≤9223372036854775807):Sl rd k H (some ⟨b,0,none⟩) m xs:=by
 refine ⟨hn,hm,by simp,fun i x hx=>⟨b,0,rfl,hrd _ _ _ _ fun j v hv=>?_⟩⟩
 have hj:j<k:=by rw [←hf x]; exact (List.getElem?_eq_some_iff.1 hv).1
 have h1:vc H b (0+i*k+j)=cellIn (.cells (xs.flatMap f).toArray T fz) (0+i*k+j):=by unfold vc; rw [hH]; rfl
 rw [h1]
 simp only [cellIn,Nat.zero_add]
 rw [flat_get hf hx hj]
 exact hv
section
variable {P:Program} {ops:Array Oper} {Q:Exit→Act→World→Prop} {n:Nat} {ds:List Deferred} {l:List (Nat×Value)} {w0:World} {F:List Nat} {L:List Asr} {Vs:List View} {rest:List Oper}
theorem Lsv {T:TypeId} {m b:Nat} {cur:Array Value} {fz:Nat×Nat} (i:Nat) (xs:List (List UInt8)) (hL:L[i]? = some (blk b (.cells cur T fz))) (hc:cur=(xs.flatMap strC).toArray) (hn:xs.length≤m) (hm:m≤9223372036854775807)
   (h:∀H,Sl rdStr 1 H (some ⟨b,0,none⟩) m xs→WL P ops Q n ds l (Ws w0 F (outOf i L) (H::Vs)) rest):WL P ops Q n ds l (Ws w0 F L Vs) rest:=by
 subst hc
 have hb:bv b (.cells (xs.flatMap strC).toArray T fz) b=some (.cells (xs.flatMap strC).toArray T fz):=by simp [bv]
 exact WL.blkview i hL (h _ (sl_blk (f:=strC) hb strC_len (fun _ _ _ _ h=>h) hn hm))
end
end Go.Bw
end
section
set_option linter.unusedSimpArgs false
namespace Go.Bw
open Go Go.RowKit
section
variable {P:Program} {l:List (Nat×Value)} {W:World→Prop} {d:Option Tmp} {ty:TypeId} {pos:String} {af:Array Edge} {g:Option (Nat×Bool)}
theorem yl_builda {t:TypeId} {parts:List (Nat×Operand)} {vs:List (Nat×Value)} {z:Value} {n s:Nat} {out:List Value} (hz:zeroOf P t=some z) (hp:arrP P t=some (n,s))
   (hv:evp l parts=some vs) (hf:fillL (fun i=>some (i*s,s)) (vcells z) vs=some out):Yl P l W ⟨d,.build t parts.toArray,ty,pos,af,g⟩ (.agg out.toArray):=by
 intro ρ w hρ _
 have e1:((parts.toArray.map fun (i,x)=>(i,ρ x)):Array (Nat×Value)).toList=vs:=by simpa using evp_map hρ parts vs hv
 unfold arrP at hp
 cases hu:P.underlying t with
 | none=>simp [hu] at hp
 | some dd=>
   cases dd<;>simp [hu] at hp
   rename_i m e
   obtain ⟨inf,hi,h2,h3⟩:=hp
   subst h2 h3
   have e4:Instr.fill (fun i=>some (i*inf.size,inf.size)) z.cells vs=some out.toArray:=by
     refine fill_of _ vs z.cells out ?_
     rw [vcells_eq]
     simpa using hf
   simp only [execOp,Instr.build,Sem.run_bind,run_zero hz,Result.andThen_ok,run_underlying hu,e1,e4,sizeOf,typeInfo,hi,Sem.run_pure]
   simp [hi,e4]
end
end Go.Bw
end
section
set_option linter.unusedSimpArgs false
namespace Go.Bw
open Go Go.RowKit
def rv (A:Asr) (w:World):View:=fun b=>if b ∈ A.ids then w.heap[b]? else none
section
variable {w0 w:World} {F:List Nat} {L:List Asr} {Vs:List View} {A:Asr}
theorem rv_le (A:Asr) (w:World):Le (rv A w) w:=fun b o h=>by
 unfold rv at h
 split at h
 · exact h
 · cases h
theorem Ws.asview (h:Ws w0 F L Vs w) (i:Nat) (hL:L[i]? = some A):Ws w0 F (outOf i L) (rv A w::Vs) w:=by
 have h1:=h.perm (outOf_perm i L hL)
 have h2:Ws w0 F (outOf i L) Vs w:=Ws.drop (L:=[A]) h1
 refine ⟨h2.fr,h2.kn,h2.nd,h2.own,fun H hH=>?_,fun H hH B hB k hk=>?_⟩
 · rcases List.mem_cons.1 hH with rfl | hH
   · exact rv_le A w
   · exact h2.vs H hH
 · rcases List.mem_cons.1 hH with rfl | hH
   · have nd:=h1.nd
     rw [List.flatMap_cons,List.nodup_append] at nd
     unfold rv
     rw [if_neg]
     intro hk2
     exact nd.2.2 k hk2 k (List.mem_flatMap.2 ⟨B,hB,hk⟩) rfl
   · exact h2.off H hH B hB k hk
theorem sl_rv {α:Type} {rd:View→Nat→Nat→α→Prop} {f:α→List Value} {k e c:Nat} {a:Option Addr} {xs:List α} (h:(osT e k f a c xs).holds w)
   (hf:∀x,(f x).length=k) (hrd:∀H b o x,RdC H b o (f x)→rd H b o x):Sl rd k (rv (osT e k f a c xs) w) a c xs:=by
 obtain ⟨h1,h2⟩:=(h:w.ownsRow 0 e k _ xs.length (xs.flatMap f))
 rcases h2 with ⟨h3,h4⟩ | ⟨b,cap,cur,h5,_,hb,hmc,hc,hs,ht⟩
 · injection h3 with ha hl hc
   subst ha hc
   have:xs=[]:=List.eq_nil_of_length_eq_zero (by omega)
   subst this
   exact Sl.nil
 · injection h5 with ha hl hc'
   subst ha hc'
   refine ⟨hmc,by unfold maxLen at hc; omega,by simp,fun i x hx=>⟨b,0,rfl,hrd _ _ _ _ fun j v hv=>?_⟩⟩
   have hj:j<k:=by have:=(List.getElem?_eq_some_iff.1 hv).1; rw [hf] at this; exact this
   have h6:(xs.flatMap f)[i*k+j]? = some v:=by rw [flat_get hf hx hj]; exact hv
   rw [←ht,List.getElem?_take] at h6
   split at h6
   · have hr:rv (osT e k f (some ⟨b,0,none⟩) c xs) w b=some (.cells cur e (0,0)):=by
       unfold rv
       rw [if_pos (by simp [osl,Value.ownBlock])]
       exact hb
     have h7:vc (rv (osT e k f (some ⟨b,0,none⟩) c xs) w) b (0+i*k+j)=cellIn (.cells cur e (0,0)) (0+i*k+j):=by unfold vc; rw [hr]; rfl
     rw [h7]
     simpa [cellIn] using h6
   · cases h6
end
section
variable {P:Program} {ops:Array Oper} {cd:Code} {Q:Exit→Act→World→Prop} {n:Nat} {ds:List Deferred} {l:List (Nat×Value)} {w0:World} {F:List Nat} {L:List Asr} {Vs:List View} {rest:List Oper}
theorem WC.oslview {α:Type} {rd:View→Nat→Nat→α→Prop} {f:α→List Value} {k e c:Nat} {a:Option Addr} {xs:List α} (i:Nat) (hL:L[i]? = some (osT e k f a c xs))
   (hf:∀x,(f x).length=k) (hrd:∀H b o x,RdC H b o (f x)→rd H b o x) (h:∀H,Sl rd k H a c xs→WC P cd Q n ds l (Ws w0 F (outOf i L) (H::Vs))):WC P cd Q n ds l (Ws w0 F L Vs):=
 fun ac w ha hw=>h _ (sl_rv (hw.kn _ (mem_of_idx hL)) hf hrd) ac w ha (hw.asview i hL)
theorem Crb {b:Nat} {ob:Obj} (i:Nat) (ob':Obj) (hL:L[i]? = some (blk b ob)) (he:ob=ob') (h:WC P cd Q n ds l (Ws w0 F (L.set i (blk b ob')) Vs)):WC P cd Q n ds l (Ws w0 F L Vs):=
 WC.reL i hL (by rw [he]) h
theorem WL.oslview {α:Type} {rd:View→Nat→Nat→α→Prop} {f:α→List Value} {k e c:Nat} {a:Option Addr} {xs:List α} (i:Nat) (hL:L[i]? = some (osT e k f a c xs))
   (hf:∀x,(f x).length=k) (hrd:∀H b o x,RdC H b o (f x)→rd H b o x) (h:∀H,Sl rd k H a c xs→WL P ops Q n ds l (Ws w0 F (outOf i L) (H::Vs)) rest):WL P ops Q n ds l (Ws w0 F L Vs) rest:=
 fun ac w ha hw=>h _ (sl_rv (hw.kn _ (mem_of_idx hL)) hf hrd) ac w ha (hw.asview i hL)
theorem WL.blksl {α:Type} {rd:View→Nat→Nat→α→Prop} {f:α→List Value} {k T b m:Nat} {fz:Nat×Nat} {cur:Array Value} (i:Nat) (xs:List α) (hL:L[i]? = some (blk b (.cells cur T fz))) (hc:cur=(xs.flatMap f).toArray)
   (hf:∀x,(f x).length=k) (hrd:∀H b o x,RdC H b o (f x)→rd H b o x) (hn:xs.length≤m) (hm:m≤9223372036854775807)
   (h:∀H,Sl rd k H (some ⟨b,0,none⟩) m xs→WL P ops Q n ds l (Ws w0 F (outOf i L) (H::Vs)) rest):WL P ops Q n ds l (Ws w0 F L Vs) rest:=by
 subst hc
 have hb:bv b (.cells (xs.flatMap f).toArray T fz) b=some (.cells (xs.flatMap f).toArray T fz):=by simp [bv]
 exact WL.blkview i hL (h _ (sl_blk (f:=f) hb hf hrd hn hm))
end
end Go.Bw
end
section
set_option linter.unusedSimpArgs false
namespace Go.Bw
open Go Go.RowKit
abbrev v0:View:=fun _=>none
section
variable {w0 w:World} {F:List Nat} {L:List Asr} {Vs:List View} {A:Asr}
theorem Ws.v0 (h:Ws w0 F L Vs w):Ws w0 F L (v0::Vs) w:=
 ⟨h.fr,h.kn,h.nd,h.own,fun H hH=>by
   rcases List.mem_cons.1 hH with rfl | hH
   · intro b o hb; cases hb
   · exact h.vs H hH,fun H hH=>by
   rcases List.mem_cons.1 hH with rfl | hH
   · intro _ _ _ _; rfl
   · exact h.off H hH⟩
theorem Ws.new_ids (h:Ws w0 F (A::L) Vs w) (hF:∀k ∈ F,k ∈ L.flatMap Asr.ids):∀k ∈ A.ids,w0.heap.size≤k:=by
 intro k hk
 rcases h.own A (by simp) k hk with h1 | h1
 · have nd:=h.nd
   rw [List.flatMap_cons,List.nodup_append] at nd
   exact absurd rfl (nd.2.2 k hk k (hF k h1))
 · exact h1
theorem rv_fresh (h:Ws w0 F (A::L) Vs w) (hF:∀k ∈ F,k ∈ L.flatMap Asr.ids):Fresh w0 (rv A w):=fun b hb=>by
 unfold rv
 rw [if_neg]
 intro hk
 have:=h.new_ids hF b hk
 omega
theorem nv_vs {H:View} (h:Ws w0 F L Vs w) (hm:H ∈ Vs) (hf:Fresh w0 H):VLe H (nv w0 w):=nv_of (h.vs H hm) hf
end
section
variable {P:Program} {ops:Array Oper} {cd:Code} {Q:Exit→Act→World→Prop} {n:Nat} {ds:List Deferred} {l:List (Nat×Value)} {w0:World} {F:List Nat} {L:List Asr} {Vs:List View} {rest:List Oper}
theorem WL.v0 (h:WL P ops Q n ds l (Ws w0 F L (v0::Vs)) rest):WL P ops Q n ds l (Ws w0 F L Vs) rest:=LW (fun _ hw=>hw.v0) h
theorem LN {α:Type} {rd:View→Nat→Nat→α→Prop} {f:α→List Value} {k T b m:Nat} {fz:Nat×Nat} {cur:Array Value} (i:Nat) (xs:List α) (hL:L[i]? = some (blk b (.cells cur T fz))) (hc:cur=(xs.flatMap f).toArray) (hF:∀k ∈ F,k ∈ (outOf i L).flatMap Asr.ids)
   (hf:∀x,(f x).length=k) (hrd:∀H b o x,RdC H b o (f x)→rd H b o x) (hn:xs.length≤m) (hm:m≤9223372036854775807)
   (h:∀H,Fresh w0 H→Sl rd k H (some ⟨b,0,none⟩) m xs→WL P ops Q n ds l (Ws w0 F (outOf i L) (H::Vs)) rest):WL P ops Q n ds l (Ws w0 F L Vs) rest:=by
 subst hc
 intro ac w ha hw
 have hb:w.heap[b]? = some (.cells (xs.flatMap f).toArray T fz):=hw.kn _ (mem_of_idx hL)
 have hr:rv (blk b (.cells (xs.flatMap f).toArray T fz)) w b=some (.cells (xs.flatMap f).toArray T fz):=by
   unfold rv
   rw [if_pos (by simp [blk])]
   exact hb
 exact h _ (rv_fresh (hw.perm (outOf_perm i L hL)) hF) (sl_blk (f:=f) hr hf hrd hn hm) ac w ha (hw.asview i hL)
end
end Go.Bw
end
section
set_option linter.unusedSimpArgs false
namespace Go.Bw
open Go Go.RowKit
section
variable {P:Program} {ops:Array Oper} {C:World→Prop} {Q:Exit→Act→World→Prop} {n:Nat} {ds:List Deferred} {l:List (Nat×Value)} {W:World→Prop}
theorem allSkip_head {a:Act} {l2:List (Nat×Value)} {o:Oper} {r:List Oper} (hs:allSkip ops l (o::r)=some l2) (ha:Ag n ds l a) :
   ∃d,o.dst=some d∧Region.wanted o (yielded ops a.tmps)=false∧allSkip ops ((d,undef)::l) r=some l2:=by
 simp only [allSkip] at hs
 cases hg:o.guard with
 | none=>simp [hg] at hs
 | some jb=>
   obtain ⟨j,b⟩:=jb
   cases hd:o.dst with
   | none=>simp [hg,hd] at hs
   | some d=>
     simp only [hg,hd] at hs
     cases hj:(ops[j]?).bind (·.dst) with
     | none=>simp [hj] at hs
     | some dj=>
       simp only [hj] at hs
       cases hl:lk l dj with
       | none=>simp [hl] at hs
       | some v=>
         simp only [hl] at hs
         have hv:=ha.vals dj v hl
         cases v with
         | bool b'=>
           cases hb:(b' != b) with
           | false=>simp [hb] at hs
           | true=>
             simp only [hb,cond_true] at hs
             refine ⟨d,rfl,?_,hs⟩
             have hget:=getD_get ha hl (.inl (by simp [undef]))
             have hy:yielded ops a.tmps j=some b':=by simp [yielded,hj,hget]
             simp only [Region.wanted,hg,hy]
             cases b<;>cases b'<;>first | rfl | (simp at hb)
         | tuple vs=>
           refine ⟨d,rfl,?_,hs⟩
           have hy:yielded ops a.tmps j=none:=by
             simp only [yielded,hj,Option.bind_some]
             rw [Array.getD_eq_getD_getElem?] at hv
             cases ht:a.tmps[dj]? with
             | none=>rfl
             | some u=>simp [ht] at hv; simp [hv]
           simp [Region.wanted,hg,hy]
         | _=>simp at hs
def opsOf (ops:Array Oper):List (Nat×Bool)→Option (List Oper)
 | []=>some []
 | (i,_)::r=>match ops[i]?,opsOf ops r with
   | some o,some t=>some (o::t)
   | _,_=>none
theorem WD.skips {gs rest:List (Nat×Bool)}:∀{os:List Oper} {l2 l:List (Nat×Value)},opsOf ops gs=some os→allSkip ops l os=some l2→inB n os=true→(∀w,W w→C w)→(∀a w,Ag n ds l2 a→W w→wpC P ops C Q rest a w)→
   ∀a w,Ag n ds l a→W w→wpC P ops C Q (gs++rest) a w:=by
 induction gs with
 | nil=>
   intro os l2 l ho hs _ _ h a w ha hw
   injection ho with ho
   subst ho
   simp [allSkip] at hs; subst hs; exact h a w ha hw
 | cons p r ih=>
   obtain ⟨i,q⟩:=p
   intro os l2 l ho hs hin hC h a w ha hw
   unfold opsOf at ho
   cases hi:ops[i]? with
   | none=>rw [hi] at ho; cases ho
   | some o=>
     cases ht:opsOf ops r with
     | none=>rw [hi,ht] at ho; cases ho
     | some t=>
       rw [hi,ht] at ho
       injection ho with ho
       subst ho
       obtain ⟨d,hd,hwn,hs'⟩:=allSkip_head hs ha
       simp only [inB,List.all_cons,Bool.and_eq_true] at hin
       have hdn:Nat.blt d n=true:=by have:=hin.1; rw [hd] at this; exact this
       have hrest:=ih ht hs' hin.2 hC h (a.put (some d) undef) w (ha.put hdn undef) hw
       cases q with
       | true=>exact ⟨hC w hw,o,undef,hi,.inr ⟨hwn,rfl⟩,by rw [hd]; exact hrest⟩
       | false=>
         refine ⟨hC w hw,?_⟩
         unfold wpOp
         simp only [hi,hwn,Bool.false_eq_true,if_false]
         rw [hd]
         exact hrest
theorem wpOp_then {i:Nat} {K K':Act→World→Prop} {Kx:Act→World→Prop} (hk:∀a w,K a w→K' a w) {a:Act} {w:World} (h:wpOp P ops (Exit.then Kx Q) i K a w):wpOp P ops Q i K' a w:=by
 unfold wpOp at h ⊢
 cases hi:ops[i]? with
 | none=>simp only [hi] at h ⊢; exact hk _ _ h
 | some o=>
   simp only [hi] at h ⊢
   split
   · rename_i hw
     rw [if_pos hw] at h
     rcases h with h | ⟨h1,a2,w2,h2⟩
     · left
       unfold Oper.wp at h ⊢
       unfold Oper.upon at h ⊢
       split at h
       all_goals first
         | exact hk _ _ h
         | exact h
         | (refine h.mono fun e w' he=>?_
            cases e with
            | returned v=>exact hk _ _ he
            | panicked ch=>exact he
            | outgrown=>obtain ⟨a3,w3,h3⟩:=he; exact ⟨a3,w3,h3⟩)
         | exact h.mono fun v w' he=>hk _ _ he
     · exact .inr ⟨h1,a2,w2,h2⟩
   · rename_i hw
     rw [if_neg hw] at h
     exact hk _ _ h
theorem Gi {l':List (Nat×Value)} {dx:Nat} {x:Value} (m:Nat) (hC:∀w,W w→C w) (hx:lk l' dx=some x) (hd:l'.drop m=l) (hf:freshB (l'.take m) l=true):WD P ops C (Got Q n ds l W dx x) n ds l' W []:=
 fun _ w ha hw=>⟨hC w hw,⟨ha.forget' m hd hf,ha.vals _ _ hx⟩,hw⟩
theorem wpC_got {gs rest:List (Nat×Bool)} {dx:Nat} {x:Value} (hK:∀a w,(Ag n ds l a∧a.tmps.getD dx undef=x)∧W w→wpC P ops C Q rest a w):∀(a:Act) (w:World),wpC P ops C (Got Q n ds l W dx x) gs a w→wpC P ops C Q (gs++rest) a w:=by
 induction gs with
 | nil=>intro a w h; exact hK a w h.2
 | cons p r ih=>
   obtain ⟨i,q⟩:=p
   intro a w h
   cases q with
   | true=>obtain ⟨h1,o,v,h2,h3,h4⟩:=h; exact ⟨h1,o,v,h2,h3,ih _ _ h4⟩
   | false=>exact ⟨h.1,wpOp_then (fun a w h=>ih a w h) h.2⟩
theorem WD.logic (m:Nat) {ord:List (Nat×Bool)} {os:List Oper} {ip dj dp dx:Nat} (want:Bool) {c x:Bool} {a b:Operand} {ty:TypeId} {pos:String} {af:Array Edge} {g:Option (Nat×Bool)} {l2:List (Nat×Value)}
   (hm:ord[m]? = some (ip,true)) (hp:ops[ip]? = some ⟨some dp,.pick (.tmp dj) a b,ty,pos,af,g⟩) (hos:opsOf ops (ord.take m)=some os) (hb:lk l dj=some (.bool c)) (hin:inB n os=true)
   (hg:GOk ops l g) (hdp:Nat.blt dp n=true) (hC:∀w,W w→C w)
   (hab:(a,b)=(bif want then (Operand.tmp dx,Operand.const (.bool false)) else (Operand.const (.bool true),Operand.tmp dx)))
   (hF:allSkip ops ((dj,.bool (!want))::l) os=some l2) (hF1:l2.drop m=(dj,.bool (!want))::l) (hF2:freshB (l2.take m) ((dj,.bool (!want))::l)=true)
   (hT:c=want→WD P ops C (Got Q n ds ((dj,.bool want)::l) W dx (.bool x)) n ds ((dj,.bool want)::l) W (ord.take m))
   (h:WD P ops C Q n ds ((dp,.bool (bif want then c&&x else c||x))::l) W (ord.drop (m+1))):WD P ops C Q n ds l W ord:=by
 intro a0 w ha hw
 have hord:ord=ord.take m++(ip,true)::ord.drop (m+1):=by
   obtain ⟨hlt,he⟩:=List.getElem?_eq_some_iff.1 hm
   rw [←he,List.getElem_cons_drop hlt,List.take_append_drop]
 rw [hord]
 have pick:∀(a':Act) (w':World) (r:Bool),Ag n ds l a'→W w'→(if c then a'.eval a else a'.eval b) = .bool r→r=(bif want then c&&x else c||x)→
     wpC P ops C Q ((ip,true)::ord.drop (m+1)) a' w':=by
   intro a' w' r ha' hw' hv hr
   refine ⟨hC w' hw',_,.bool r,hp,.inl ⟨GOk.wanted (o:=⟨some dp,.pick (.tmp dj) a b,ty,pos,af,g⟩) hg ha',fun w2 _=>?_⟩,h _ _ (by rw [←hr]; exact ha'.put hdp _) hw'⟩
   have h1:a'.eval (.tmp dj) = .bool c:=ha'.vals dj _ hb
   simp only [execOp,h1,asBool,Sem.run_bind,Sem.run_pure,Result.andThen_ok,hv]
 by_cases hc:c=want
 · refine wpC_got (l:=(dj,.bool want)::l) (W:=W) (dx:=dx) (x:=.bool x) (fun a' w' hq=>?_) _ _ (hT hc a0 w (ha.known (by rw [←hc]; exact hb)) hw)
   obtain ⟨⟨ha',hx⟩,hw'⟩:=hq
   refine pick a' w' x (ha'.known' (by rw [←hc]; exact hb)) hw' ?_ ?_
   · subst hc
     cases c
     · simp at hab; obtain ⟨rfl,rfl⟩:=hab; exact hx
     · simp at hab; obtain ⟨rfl,rfl⟩:=hab; exact hx
   · subst hc; cases c<;>rfl
 · have hc':c = !want:=by cases c<;>cases want<;>first | rfl | exact absurd rfl hc
   refine WD.skips hos hF hin hC (fun a' w' ha' hw'=>?_) a0 w (ha.known (by rw [←hc']; exact hb)) hw
   have ha2:Ag n ds l a':=(ha'.forget' m hF1 hF2).known' (by rw [←hc']; exact hb)
   refine pick a' w' c ha2 hw' ?_ ?_
   · subst hc'
     cases want
     · simp at hab; obtain ⟨rfl,rfl⟩:=hab; rfl
     · simp at hab; obtain ⟨rfl,rfl⟩:=hab; rfl
   · subst hc'; cases want<;>rfl
theorem WD.and (m:Nat) {ord:List (Nat×Bool)} {os:List Oper} {ip dj dp dx:Nat} {c x:Bool} {a b:Operand} {ty:TypeId} {pos:String} {af:Array Edge} {g:Option (Nat×Bool)} {l2:List (Nat×Value)}
   (hm:ord[m]? = some (ip,true)) (hp:ops[ip]? = some ⟨some dp,.pick (.tmp dj) a b,ty,pos,af,g⟩) (hos:opsOf ops (ord.take m)=some os) (hb:lk l dj=some (.bool c)) (hin:inB n os=true)
   (hg:GOk ops l g) (hdp:Nat.blt dp n=true) (hC:∀w,W w→C w) (hab:(a,b)=(Operand.tmp dx,Operand.const (.bool false)))
   (hF:allSkip ops ((dj,.bool false)::l) os=some l2) (hF1:l2.drop m=(dj,.bool false)::l) (hF2:freshB (l2.take m) ((dj,.bool false)::l)=true)
   (hT:c=true→WD P ops C (Got Q n ds ((dj,.bool true)::l) W dx (.bool x)) n ds ((dj,.bool true)::l) W (ord.take m))
   (h:WD P ops C Q n ds ((dp,.bool (c&&x))::l) W (ord.drop (m+1))):WD P ops C Q n ds l W ord:=
 WD.logic m true hm hp hos hb hin hg hdp hC hab hF hF1 hF2 hT h
theorem WD.or (m:Nat) {ord:List (Nat×Bool)} {os:List Oper} {ip dj dp dx:Nat} {c x:Bool} {a b:Operand} {ty:TypeId} {pos:String} {af:Array Edge} {g:Option (Nat×Bool)} {l2:List (Nat×Value)}
   (hm:ord[m]? = some (ip,true)) (hp:ops[ip]? = some ⟨some dp,.pick (.tmp dj) a b,ty,pos,af,g⟩) (hos:opsOf ops (ord.take m)=some os) (hb:lk l dj=some (.bool c)) (hin:inB n os=true)
   (hg:GOk ops l g) (hdp:Nat.blt dp n=true) (hC:∀w,W w→C w) (hab:(a,b)=(Operand.const (.bool true),Operand.tmp dx))
   (hF:allSkip ops ((dj,.bool true)::l) os=some l2) (hF1:l2.drop m=(dj,.bool true)::l) (hF2:freshB (l2.take m) ((dj,.bool true)::l)=true)
   (hT:c=false→WD P ops C (Got Q n ds ((dj,.bool false)::l) W dx (.bool x)) n ds ((dj,.bool false)::l) W (ord.take m))
   (h:WD P ops C Q n ds ((dp,.bool (c||x))::l) W (ord.drop (m+1))):WD P ops C Q n ds l W ord:=
 WD.logic m false hm hp hos hb hin hg hdp hC hab hF hF1 hF2 hT h
end
end Go.Bw
end
section
namespace Go.Bw
open Go Go.RowKit
section
variable {P:Program} {l:List (Nat×Value)} {W:World→Prop} {d:Option Tmp} {ty:TypeId} {pos:String} {af:Array Edge} {g:Option (Nat×Bool)}
theorem yl_nesY {t u:TypeId} {x y:Operand} {a b:List UInt8} (hx:opv l x=some (st a)) (hy:opv l y=some (st b)) (h:a=b):Yl P l W ⟨d,.binOp .neq t x y u,ty,pos,af,g⟩ (.bool false):=by
 subst h
 have:=yl_nes (P:=P) (W:=W) (d:=d) (ty:=ty) (pos:=pos) (af:=af) (g:=g) (t:=t) (u:=u) hx hy
 rwa [show (!(a==a))=false by simp] at this
theorem yl_eqiY {t u:TypeId} {x y:Operand} {k:IntKind} {a b:Int} (hx:opv l x=some (.int k a)) (hy:opv l y=some (.int k b)) (h:a=b):Yl P l W ⟨d,.binOp .eql t x y u,ty,pos,af,g⟩ (.bool true):=by
 subst h
 have:=yl_eq (P:=P) (W:=W) (d:=d) (ty:=ty) (pos:=pos) (af:=af) (g:=g) (t:=t) (u:=u) hx hy
 rwa [show (a==a)=true by simp] at this
theorem WD.wk {ops:Array Oper} {C:World→Prop} {Q:Exit→Act→World→Prop} {n:Nat} {ds:List Deferred} {W':World→Prop} {rest:List (Nat×Bool)} (hW:∀w,W w→W' w) (h:WD P ops C Q n ds l W' rest):WD P ops C Q n ds l W rest:=fun a w ha hw=>h a w ha (hW w hw)
end
end Go.Bw
end
section
namespace Go.Bw
open Go Go.RowKit
open Go.ChangeShapes Go.WideShapes Go.ChangeAt Go.RowKit Go.Joins Go.Deep
structure Bulk (H:Type) where
 B:DataW H→Nat
 BA:List (DataW H)→Nat
 str:∀l:List UInt8,B (.lit (.string l))=l.length+1
 agg:∀l,B (.agg l)=BA l+1
 sl:∀l r,BA l+1≤B (.slice l r)
 nil:BA []=0
 cons:∀d r,BA (d::r)=B d+BA r
section
variable {P:Program} {H:Type} {enc:TypeId×Value→H} {w:World} {base:Nat} {spare:Nat→Bool} {held:Bool} (K:Bulk H)
theorem fields_x {t:TypeId} {fs:Array Field} {fuel:Nat} {cs:List Value} {x:DataW H×List MemPlace} (hu:P.underlying t=some (.struct fs)) (hr:(inRow P 0 fs.toList&&Nat.beq (P.cellsOf t) fs.size)=true) (h:DataW.trod enc P w base spare held fuel t cs=some x) :
   cs.length=fs.size∧∃(ys:List (DataW H×List MemPlace)) (n:Nat),fuel=n+1∧x.1 = .agg (ys.map (·.1))∧ys.length=fs.size∧∀(j:Nat) (f:Field),fs[j]? = some f→∃v y,cs[j]? = some v∧ys[j]? = some y∧DataW.trod enc P w base spare held n f.type [v]=some y:=by
 simp only [Bool.and_eq_true] at hr
 obtain ⟨ys,n,hn,hx,hlen,hyl,hf⟩:=DataW.trod_struct hu h
 have hl:cs.length=fs.size:=hlen.trans (Nat.eq_of_beq_eq_true hr.2)
 refine ⟨hl,ys,n,hn,by rw [hx],hyl,fun j f hj=>?_⟩
 have hlt:j<fs.size:=(Array.getElem?_eq_some_iff.1 hj).1
 obtain ⟨h1,h2⟩:=inRow_get 0 fs.toList j f hr.1 (by simpa using hj)
 have g:=hf j f hj
 have e1:cs[j]? = some cs[j]:=List.getElem?_eq_getElem (by omega)
 have e2:ys[j]? = some ys[j]:=List.getElem?_eq_getElem (by omega)
 rw [h1,h2,Nat.zero_add,e2,List.drop_eq_getElem_cons (by omega)] at g
 exact ⟨_,_,e1,e2,by simpa only [List.take_succ_cons,List.take_zero] using g⟩
theorem str_x {t:TypeId} {fuel:Nat} {v:Value} {x:DataW H×List MemPlace} (hu:P.underlying t=some .string) (h:DataW.trod enc P w base spare held fuel t [v]=some x):∃l:List UInt8,v=st l∧K.B x.1=l.length+1:=by
 obtain ⟨s,e,hx,_⟩:=DataW.trod_string hu h
 injection e with e _
 subst e
 exact ⟨s.data.toList,by simp [st],by rw [hx]; exact K.str _⟩
theorem int_x {t:TypeId} {fuel:Nat} {v:Value} {x:DataW H×List MemPlace} (hu:P.underlying t=some (.int .i64)) (h:DataW.trod enc P w base spare held fuel t [v]=some x):∃k:Int,v = .int .i64 k:=by
 obtain ⟨n,e,_⟩:=DataW.trod_int hu h
 injection e with e _
 exact ⟨n,e⟩
theorem bool_x {t:TypeId} {fuel:Nat} {v:Value} {x:DataW H×List MemPlace} (hu:P.underlying t=some .bool) (h:DataW.trod enc P w base spare held fuel t [v]=some x):∃b,v = .bool b:=by
 obtain ⟨n,e,_⟩:=DataW.trod_bool hu h
 injection e with e _
 exact ⟨n,e⟩
theorem slice_x {α:Type} {rd:View→Nat→Nat→α→Prop} (wt:α→Nat) (ws:List α→Nat) (h0:ws []=0) (h1:∀x r,ws (x::r)=wt x+ws r) {ts e:TypeId} {k fuel:Nat} {v:Value} {x:DataW H×List MemPlace} (hu:P.underlying ts=some (.slice e)) (hc:P.cellsOf e=k) (hk:0<k) (hsp:∀b,spare b=true)
   (helt:∀(n:Nat) (cs':List Value) (y:DataW H×List MemPlace),n<fuel→DataW.trod enc P w base spare held n e cs'=some y→cs'.length=k→∃z:α,(∀b o,RdC (hv w) b o cs'→rd (hv w) b o z)∧wt z≤K.B y.1)
   (h:DataW.trod enc P w base spare held fuel ts [v]=some x):∃(a:Option Addr) (c:Nat) (xs:List α),v = .slice a xs.length c∧Sl rd k (hv w) a c xs∧ws xs≤K.B x.1:=by
 rcases DataW.trod_slice hu h with ⟨e1,_⟩ | ⟨a,len,cap,elems,rest,n,hn,e1,hx,hb,hl,hm,hlen,hel,hspr,_⟩
 · injection e1 with e1 _
   exact ⟨none,0,[],e1,Sl.nil,by rw [h0]; exact Nat.zero_le _⟩
 · injection e1 with e1 _
   have hspot:0<cap→a.spot=none:=by
     intro hcap
     rcases Nat.lt_or_ge 0 len with h2 | h2
     · have g:=hel 0 h2
       obtain ⟨y,hy⟩:∃y,elems[0]? = some y:=⟨_,List.getElem?_eq_getElem (by omega)⟩
       rw [hy] at g
       obtain ⟨cs',hcs,_⟩:=Option.bind_eq_some_iff.1 g
       rw [hc] at hcs
       obtain ⟨_,hl',hat⟩:=World.cells?_some hcs
       obtain ⟨u,hu'⟩:∃u,cs'[0]? = some u:=⟨_,List.getElem?_eq_getElem (by omega)⟩
       have:=hat 0 hk
       rw [hu'] at this
       simpa [Addr.add] using World.cell?_spot this
     · obtain ⟨hr1,hr2⟩:=hspr (hsp _)
       have hl0:len=0:=by omega
       have g:=hr2 0 (by omega)
       rw [hl0] at g
       obtain ⟨y,hy⟩:∃y,rest[0]? = some y:=⟨_,List.getElem?_eq_getElem (by omega)⟩
       rw [hy] at g
       obtain ⟨cs',hcs,_⟩:=Option.bind_eq_some_iff.1 g
       rw [hc] at hcs
       obtain ⟨_,hl',hat⟩:=World.cells?_some hcs
       obtain ⟨u,hu'⟩:∃u,cs'[0]? = some u:=⟨_,List.getElem?_eq_getElem (by omega)⟩
       have:=hat 0 hk
       rw [hu'] at this
       simpa [Addr.add] using World.cell?_spot this
   obtain ⟨xs,hxl,hxs⟩:=exists_list' (fun i (z:α)=>(∀b o,a=⟨b,o,none⟩→rd (hv w) b (o+i*k) z)∧∃y:DataW H×List MemPlace,elems[i]? = some y∧wt z≤K.B y.1) len (fun i hi=>by
     have g:=hel i hi
     obtain ⟨y,hy⟩:∃y,elems[i]? = some y:=⟨_,List.getElem?_eq_getElem (by omega)⟩
     rw [hy] at g
     obtain ⟨cs',hcs,ht⟩:=Option.bind_eq_some_iff.1 g
     rw [hc] at hcs
     obtain ⟨_,hl',hat⟩:=World.cells?_some hcs
     obtain ⟨z,hz1,hz2⟩:=helt n cs' y (by omega) ht hl'
     refine ⟨z,fun b o hab=>hz1 _ _ fun j v hj=>?_,y,hy,hz2⟩
     subst hab
     have hjk:j<k:=by have:=(List.getElem?_eq_some_iff.1 hj).1; omega
     have:=hat j hjk
     rw [hj] at this
     rw [add_none,add_none] at this
     exact vc_of_cell' this)
   have hws:∀(l:List α) (es:List (DataW H×List MemPlace)),l.length=es.length→(∀(i:Nat) (z:α),l[i]? = some z→∃y:DataW H×List MemPlace,es[i]? = some y∧wt z≤K.B y.1)→ws l≤K.BA (es.map (·.1)):=by
     intro l
     induction l with
     | nil=>intro es _ _; rw [h0]; exact Nat.zero_le _
     | cons z l ih=>
       intro es hle hh
       cases es with
       | nil=>cases hle
       | cons y es=>
         obtain ⟨y',hy',hz⟩:=hh 0 z rfl
         simp at hy'; subst hy'
         have:=ih es (by simpa using hle) fun i z' hz'=>by
           obtain ⟨y',hy',hz⟩:=hh (i+1) z' (by simpa using hz')
           exact ⟨y',by simpa using hy',hz⟩
         rw [h1,List.map_cons,K.cons]
         omega
   refine ⟨some a,cap,xs,by rw [e1,hxl],⟨by omega,by unfold maxLen at hm; omega,fun p hp hc0=>by injection hp with hp; subst hp; exact hspot hc0,fun i z hz=>?_⟩,?_⟩
   · have hi:i<len:=by have:=(List.getElem?_eq_some_iff.1 hz).1; omega
     have hsn:=hspot (by omega)
     obtain ⟨b,o,s⟩:=a
     obtain rfl:s=none:=hsn
     exact ⟨b,o,rfl,(hxs i z hz).1 b o rfl⟩
   · have:=hws xs elems (by omega) fun i z hz=>(hxs i z hz).2
     simp only [hx]
     have:=K.sl (elems.map (·.1)) (rest.map (·.1))
     omega
structure ModTy (P:Program) (tE tS tD tP tM tEs tSs tDs tPs tTs:TypeId) (e s d p m:Array Field) (tI tB tT:TypeId):Prop where
 uI:P.underlying tI=some (.int .i64)
 uB:P.underlying tB=some .bool
 uT:P.underlying tT=some .string
 cT:P.cellsOf tT=1
 uE:P.underlying tE=some (.struct e)
 rE:(inRow P 0 e.toList&&Nat.beq (P.cellsOf tE) e.size)=true
 fE:e.map (·.type) = #[tI,tI,tT,tT,tEs]
 uEs:P.underlying tEs=some (.slice tE)
 uS:P.underlying tS=some (.struct s)
 rS:(inRow P 0 s.toList&&Nat.beq (P.cellsOf tS) s.size)=true
 fS:s.map (·.type) = #[tI,tT,tT,tEs,tSs,tSs]
 uSs:P.underlying tSs=some (.slice tS)
 uD:P.underlying tD=some (.struct d)
 rD:(inRow P 0 d.toList&&Nat.beq (P.cellsOf tD) d.size)=true
 fD:d.map (·.type) = #[tI,tT,tB,tI]
 uDs:P.underlying tDs=some (.slice tD)
 uP:P.underlying tP=some (.struct p)
 rP:(inRow P 0 p.toList&&Nat.beq (P.cellsOf tP) p.size)=true
 fP:p.map (·.type) = #[tT,tB,tTs,tTs,tSs]
 uPs:P.underlying tPs=some (.slice tP)
 uTs:P.underlying tTs=some (.slice tT)
 uM:P.underlying tM=some (.struct m)
 rM:(inRow P 0 m.toList&&Nat.beq (P.cellsOf tM) m.size)=true
 fM:m.map (·.type) = #[tT,tTs,tDs,tPs,tSs]
theorem fld_of {fs:Array Field} {ts:Array TypeId} (h:fs.map (·.type)=ts) {j:Nat} {t:TypeId} (ht:ts[j]? = some t):∃f,fs[j]? = some f∧f.type=t:=by
 rw [←h,Array.getElem?_map] at ht
 obtain ⟨f,h1,h2⟩:=Option.map_eq_some_iff.1 ht
 exact ⟨f,h1,h2⟩
variable {tE tS tD tP tM tEs tSs tDs tPs tTs tI tB tT:TypeId} {e s d p m:Array Field}
theorem row_cells {t:TypeId} {fs:Array Field} (hr:(inRow P 0 fs.toList&&Nat.beq (P.cellsOf t) fs.size)=true):P.cellsOf t=fs.size:=by
 simp only [Bool.and_eq_true] at hr
 exact Nat.eq_of_beq_eq_true hr.2
theorem size_of {fs:Array Field} {ts:Array TypeId} (h:fs.map (·.type)=ts):fs.size=ts.size:=by rw [←h]; simp
theorem expr_x (T:ModTy P tE tS tD tP tM tEs tSs tDs tPs tTs e s d p m tI tB tT) (hsp:∀b,spare b=true):∀(fuel:Nat) (cs:List Value) (x:DataW H×List MemPlace),DataW.trod enc P w base spare held fuel tE cs=some x→∃(y:TExpr) (a:Option Addr) (c:Nat),cs=exprV y a c∧Sl (RdE fuel) 5 (hv w) a c y.args∧wE y≤K.B x.1:=by
 intro fuel
 induction fuel using Nat.strongRecOn with
 | _ fuel ih=>
 intro cs x h
 obtain ⟨hl,ys,n,hn,hx,hyl,hf⟩:=fields_x T.uE T.rE h
 have hsz:=size_of T.fE
 simp at hsz
 obtain ⟨f0,g0,q0⟩:=fld_of T.fE (j:=0) rfl
 obtain ⟨f1,g1,q1⟩:=fld_of T.fE (j:=1) rfl
 obtain ⟨f2,g2,q2⟩:=fld_of T.fE (j:=2) rfl
 obtain ⟨f3,g3,q3⟩:=fld_of T.fE (j:=3) rfl
 obtain ⟨f4,g4,q4⟩:=fld_of T.fE (j:=4) rfl
 obtain ⟨v0,y0,i0,j0,t0⟩:=hf 0 f0 g0
 obtain ⟨v1,y1,i1,j1,t1⟩:=hf 1 f1 g1
 obtain ⟨v2,y2,i2,j2,t2⟩:=hf 2 f2 g2
 obtain ⟨v3,y3,i3,j3,t3⟩:=hf 3 f3 g3
 obtain ⟨v4,y4,i4,j4,t4⟩:=hf 4 f4 g4
 rw [q0] at t0; rw [q1] at t1; rw [q2] at t2; rw [q3] at t3; rw [q4] at t4
 obtain ⟨op,rfl⟩:=int_x T.uI t0
 obtain ⟨nn,rfl⟩:=int_x T.uI t1
 obtain ⟨mod,rfl,b2⟩:=str_x K T.uT t2
 obtain ⟨nm,rfl,b3⟩:=str_x K T.uT t3
 obtain ⟨a,c,args,rfl,hsl,hw⟩:=slice_x (rd:=RdE fuel) K wE wEs rfl (fun _ _=>rfl) T.uEs ((row_cells T.rE).trans hsz) (by omega) hsp (fun n' cs' y hn' ht _=>by
   obtain ⟨z,a,c,rfl,hs,hz⟩:=ih n' (by omega) cs' y ht
   refine ⟨z,fun b o hr=>?_,hz⟩
   obtain ⟨k,rfl⟩:∃k,fuel=k+1:=⟨fuel-1,by omega⟩
   exact ⟨a,c,hr,hs.imp fun b o y hy=>RdE_mono (VLe.refl _) (by omega) b o y hy⟩) t4
 refine ⟨TExpr.mk op nn mod nm args,a,c,?_,hsl,?_⟩
 · match cs,hl.trans hsz with
   | [c0,c1,c2,c3,c4],_=>
     simp at i0 i1 i2 i3 i4
     subst i0 i1 i2 i3 i4
     rfl
 · match ys,hyl.trans hsz with
   | [d0,d1,d2,d3,d4],_=>
     simp at j0 j1 j2 j3 j4
     subst j0 j1 j2 j3 j4
     rw [hx]
     simp only [List.map_cons,List.map_nil,K.agg,K.cons,K.nil,wE]
     omega
theorem stmt_x (T:ModTy P tE tS tD tP tM tEs tSs tDs tPs tTs e s d p m tI tB tT) (hsp:∀b,spare b=true):∀(fuel:Nat) (cs:List Value) (x:DataW H×List MemPlace),DataW.trod enc P w base spare held fuel tS cs=some x→∃(y:TStmt) (a1:Option Addr) (c1:Nat) (a2:Option Addr) (c2:Nat) (a3:Option Addr) (c3:Nat),cs=stmtV y a1 c1 a2 c2 a3 c3∧Sl (RdE fuel) 5 (hv w) a1 c1 y.args∧Sl (RdS fuel fuel) 6 (hv w) a2 c2 y.body∧Sl (RdS fuel fuel) 6 (hv w) a3 c3 y.other∧wS y≤K.B x.1:=by
 intro fuel
 induction fuel using Nat.strongRecOn with
 | _ fuel ih=>
 intro cs x h
 obtain ⟨hl,ys,n,hn,hx,hyl,hf⟩:=fields_x T.uS T.rS h
 have hsz:=size_of T.fS
 simp at hsz
 have hszE:=size_of T.fE
 simp at hszE
 obtain ⟨f0,g0,q0⟩:=fld_of T.fS (j:=0) rfl
 obtain ⟨f1,g1,q1⟩:=fld_of T.fS (j:=1) rfl
 obtain ⟨f2,g2,q2⟩:=fld_of T.fS (j:=2) rfl
 obtain ⟨f3,g3,q3⟩:=fld_of T.fS (j:=3) rfl
 obtain ⟨f4,g4,q4⟩:=fld_of T.fS (j:=4) rfl
 obtain ⟨f5,g5,q5⟩:=fld_of T.fS (j:=5) rfl
 obtain ⟨v0,y0,i0,j0,t0⟩:=hf 0 f0 g0
 obtain ⟨v1,y1,i1,j1,t1⟩:=hf 1 f1 g1
 obtain ⟨v2,y2,i2,j2,t2⟩:=hf 2 f2 g2
 obtain ⟨v3,y3,i3,j3,t3⟩:=hf 3 f3 g3
 obtain ⟨v4,y4,i4,j4,t4⟩:=hf 4 f4 g4
 obtain ⟨v5,y5,i5,j5,t5⟩:=hf 5 f5 g5
 rw [q0] at t0; rw [q1] at t1; rw [q2] at t2; rw [q3] at t3; rw [q4] at t4; rw [q5] at t5
 have hS:∀n' (cs':List Value) (y:DataW H×List MemPlace),n'<n→DataW.trod enc P w base spare held n' tS cs'=some y→cs'.length=6→∃z:TStmt,(∀b o,RdC (hv w) b o cs'→RdS fuel fuel (hv w) b o z)∧wS z≤K.B y.1:=fun n' cs' y hn' ht _=>by
   obtain ⟨z,a1,c1,a2,c2,a3,c3,rfl,h1,h2,h3,hz⟩:=ih n' (by omega) cs' y ht
   refine ⟨z,fun b o hr=>?_,hz⟩
   obtain ⟨k,rfl⟩:∃k,fuel=k+1:=⟨fuel-1,by omega⟩
   exact ⟨a1,c1,a2,c2,a3,c3,hr,h1.imp fun b o y hy=>RdE_mono (VLe.refl _) (by omega) b o y hy,h2.imp fun b o y hy=>RdS_mono (VLe.refl _) (by omega) (by omega) b o y hy,h3.imp fun b o y hy=>RdS_mono (VLe.refl _) (by omega) (by omega) b o y hy⟩
 obtain ⟨op,rfl⟩:=int_x T.uI t0
 obtain ⟨mod,rfl,b2⟩:=str_x K T.uT t1
 obtain ⟨nm,rfl,b3⟩:=str_x K T.uT t2
 obtain ⟨a1,c1,args,rfl,hs1,w1⟩:=slice_x (rd:=RdE fuel) K wE wEs rfl (fun _ _=>rfl) T.uEs ((row_cells T.rE).trans hszE) (by omega) hsp (fun n' cs' y hn' ht _=>by
   obtain ⟨z,a,c,rfl,hs,hz⟩:=expr_x K T hsp n' cs' y ht
   refine ⟨z,fun b o hr=>?_,hz⟩
   obtain ⟨k,rfl⟩:∃k,fuel=k+1:=⟨fuel-1,by omega⟩
   exact ⟨a,c,hr,hs.imp fun b o y hy=>RdE_mono (VLe.refl _) (by omega) b o y hy⟩) t3
 obtain ⟨a2,c2,body,rfl,hs2,w2⟩:=slice_x (rd:=RdS fuel fuel) K wS wSs rfl (fun _ _=>rfl) T.uSs ((row_cells T.rS).trans hsz) (by omega) hsp hS t4
 obtain ⟨a3,c3,other,rfl,hs3,w3⟩:=slice_x (rd:=RdS fuel fuel) K wS wSs rfl (fun _ _=>rfl) T.uSs ((row_cells T.rS).trans hsz) (by omega) hsp hS t5
 refine ⟨TStmt.mk op mod nm args body other,a1,c1,a2,c2,a3,c3,?_,hs1,hs2,hs3,?_⟩
 · match cs,hl.trans hsz with
   | [c0,c1,c2,c3,c4,c5],_=>
     simp at i0 i1 i2 i3 i4 i5
     subst i0 i1 i2 i3 i4 i5
     rfl
 · match ys,hyl.trans hsz with
   | [d0,d1,d2,d3,d4,d5],_=>
     simp at j0 j1 j2 j3 j4 j5
     subst j0 j1 j2 j3 j4 j5
     rw [hx]
     simp only [List.map_cons,List.map_nil,K.agg,K.cons,K.nil,wS]
     omega
theorem block_x (T:ModTy P tE tS tD tP tM tEs tSs tDs tPs tTs e s d p m tI tB tT) (hsp:∀b,spare b=true) {fuel:Nat} {v:Value} {x:DataW H×List MemPlace} (h:DataW.trod enc P w base spare held fuel tSs [v]=some x):∃(a:Option Addr) (c:Nat) (l:List TStmt),v = .slice a l.length c∧Sl (RdS fuel fuel) 6 (hv w) a c l∧wSs l≤K.B x.1:=by
 have hsz:=size_of T.fS
 simp at hsz
 refine slice_x (rd:=RdS fuel fuel) K wS wSs rfl (fun _ _=>rfl) T.uSs ((row_cells T.rS).trans hsz) (by omega) hsp (fun n' cs' y hn' ht _=>?_) h
 obtain ⟨z,a1,c1,a2,c2,a3,c3,rfl,h1,h2,h3,hz⟩:=stmt_x K T hsp n' cs' y ht
 refine ⟨z,fun b o hr=>?_,hz⟩
 obtain ⟨k,rfl⟩:∃k,fuel=k+1:=⟨fuel-1,by omega⟩
 exact ⟨a1,c1,a2,c2,a3,c3,hr,h1.imp fun b o y hy=>RdE_mono (VLe.refl _) (by omega) b o y hy,h2.imp fun b o y hy=>RdS_mono (VLe.refl _) (by omega) (by omega) b o y hy,h3.imp fun b o y hy=>RdS_mono (VLe.refl _) (by omega) (by omega) b o y hy⟩
theorem texts_x (T:ModTy P tE tS tD tP tM tEs tSs tDs tPs tTs e s d p m tI tB tT) (hsp:∀b,spare b=true) {fuel:Nat} {v:Value} {x:DataW H×List MemPlace} (h:DataW.trod enc P w base spare held fuel tTs [v]=some x):∃(a:Option Addr) (c:Nat) (l:List (List UInt8)),v = .slice a l.length c∧Sl rdStr 1 (hv w) a c l∧wN l≤K.B x.1:=by
 refine slice_x (rd:=rdStr) K (fun s=>1+s.length) wN rfl (fun _ _=>rfl) T.uTs T.cT (by omega) hsp (fun n' cs' y hn' ht hl=>?_) h
 match cs',hl with
 | [u],_=>
   obtain ⟨l,rfl,hb⟩:=str_x K T.uT ht
   exact ⟨l,fun b o hr=>hr,by omega⟩
theorem decl_x (T:ModTy P tE tS tD tP tM tEs tSs tDs tPs tTs e s d p m tI tB tT) {fuel:Nat} {cs:List Value} {x:DataW H×List MemPlace} (h:DataW.trod enc P w base spare held fuel tD cs=some x):∃y:TDecl,cs=y.cells∧1+y.nm.length≤K.B x.1:=by
 obtain ⟨hl,ys,n,hn,hx,hyl,hf⟩:=fields_x T.uD T.rD h
 have hsz:=size_of T.fD
 simp at hsz
 obtain ⟨f0,g0,q0⟩:=fld_of T.fD (j:=0) rfl
 obtain ⟨f1,g1,q1⟩:=fld_of T.fD (j:=1) rfl
 obtain ⟨f2,g2,q2⟩:=fld_of T.fD (j:=2) rfl
 obtain ⟨f3,g3,q3⟩:=fld_of T.fD (j:=3) rfl
 obtain ⟨v0,y0,i0,j0,t0⟩:=hf 0 f0 g0
 obtain ⟨v1,y1,i1,j1,t1⟩:=hf 1 f1 g1
 obtain ⟨v2,y2,i2,j2,t2⟩:=hf 2 f2 g2
 obtain ⟨v3,y3,i3,j3,t3⟩:=hf 3 f3 g3
 rw [q0] at t0; rw [q1] at t1; rw [q2] at t2; rw [q3] at t3
 obtain ⟨kd,rfl⟩:=int_x T.uI t0
 obtain ⟨nm,rfl,b1⟩:=str_x K T.uT t1
 obtain ⟨pb,rfl⟩:=bool_x T.uB t2
 obtain ⟨nn,rfl⟩:=int_x T.uI t3
 refine ⟨⟨kd,nm,pb,nn⟩,?_,?_⟩
 · match cs,hl.trans hsz with
   | [c0,c1,c2,c3],_=>
     simp at i0 i1 i2 i3
     subst i0 i1 i2 i3
     rfl
 · match ys,hyl.trans hsz with
   | [d0,d1,d2,d3],_=>
     simp at j0 j1 j2 j3
     subst j0 j1 j2 j3
     rw [hx]
     simp only [List.map_cons,List.map_nil,K.agg,K.cons,K.nil]
     omega
theorem proc_x (T:ModTy P tE tS tD tP tM tEs tSs tDs tPs tTs e s d p m tI tB tT) (hsp:∀b,spare b=true) {fuel:Nat} {cs:List Value} {x:DataW H×List MemPlace} (h:DataW.trod enc P w base spare held fuel tP cs=some x):∃(y:TProc) (a1:Option Addr) (c1:Nat) (a2:Option Addr) (c2:Nat) (a3:Option Addr) (c3:Nat),cs=procV y a1 c1 a2 c2 a3 c3∧Sl rdStr 1 (hv w) a1 c1 y.params∧Sl rdStr 1 (hv w) a2 c2 y.locs∧Sl (RdS fuel fuel) 6 (hv w) a3 c3 y.body∧1+y.nm.length+wN y.params+wN y.locs+wSs y.body≤K.B x.1:=by
 obtain ⟨hl,ys,n,hn,hx,hyl,hf⟩:=fields_x T.uP T.rP h
 have hsz:=size_of T.fP
 simp at hsz
 obtain ⟨f0,g0,q0⟩:=fld_of T.fP (j:=0) rfl
 obtain ⟨f1,g1,q1⟩:=fld_of T.fP (j:=1) rfl
 obtain ⟨f2,g2,q2⟩:=fld_of T.fP (j:=2) rfl
 obtain ⟨f3,g3,q3⟩:=fld_of T.fP (j:=3) rfl
 obtain ⟨f4,g4,q4⟩:=fld_of T.fP (j:=4) rfl
 obtain ⟨v0,y0,i0,j0,t0⟩:=hf 0 f0 g0
 obtain ⟨v1,y1,i1,j1,t1⟩:=hf 1 f1 g1
 obtain ⟨v2,y2,i2,j2,t2⟩:=hf 2 f2 g2
 obtain ⟨v3,y3,i3,j3,t3⟩:=hf 3 f3 g3
 obtain ⟨v4,y4,i4,j4,t4⟩:=hf 4 f4 g4
 rw [q0] at t0; rw [q1] at t1; rw [q2] at t2; rw [q3] at t3; rw [q4] at t4
 obtain ⟨nm,rfl,b0⟩:=str_x K T.uT t0
 obtain ⟨pb,rfl⟩:=bool_x T.uB t1
 obtain ⟨a1,c1,ps,rfl,h1,w1⟩:=texts_x K T hsp t2
 obtain ⟨a2,c2,ls,rfl,h2,w2⟩:=texts_x K T hsp t3
 obtain ⟨a3,c3,bd,rfl,h3,w3⟩:=block_x K T hsp t4
 refine ⟨⟨nm,pb,ps,ls,bd⟩,a1,c1,a2,c2,a3,c3,?_,h1,h2,h3.imp fun b o y hy=>RdS_mono (VLe.refl _) (by omega) (by omega) b o y hy,?_⟩
 · match cs,hl.trans hsz with
   | [c0,c1,c2,c3,c4],_=>
     simp at i0 i1 i2 i3 i4
     subst i0 i1 i2 i3 i4
     rfl
 · match ys,hyl.trans hsz with
   | [d0,d1,d2,d3,d4],_=>
     simp at j0 j1 j2 j3 j4
     subst j0 j1 j2 j3 j4
     rw [hx]
     simp only [List.map_cons,List.map_nil,K.agg,K.cons,K.nil]
     omega
theorem mod_x (T:ModTy P tE tS tD tP tM tEs tSs tDs tPs tTs e s d p m tI tB tT) (hsp:∀b,spare b=true) {fuel:Nat} {cs:List Value} {x:DataW H×List MemPlace} (h:DataW.trod enc P w base spare held fuel tM cs=some x):∃(y:TMod) (r:MAt),cs=modV y r∧RdM fuel fuel (hv w) r y∧wM y≤K.B x.1:=by
 obtain ⟨hl,ys,n,hn,hx,hyl,hf⟩:=fields_x T.uM T.rM h
 have hsz:=size_of T.fM
 simp at hsz
 have hszD:=size_of T.fD
 simp at hszD
 have hszP:=size_of T.fP
 simp at hszP
 obtain ⟨f0,g0,q0⟩:=fld_of T.fM (j:=0) rfl
 obtain ⟨f1,g1,q1⟩:=fld_of T.fM (j:=1) rfl
 obtain ⟨f2,g2,q2⟩:=fld_of T.fM (j:=2) rfl
 obtain ⟨f3,g3,q3⟩:=fld_of T.fM (j:=3) rfl
 obtain ⟨f4,g4,q4⟩:=fld_of T.fM (j:=4) rfl
 obtain ⟨v0,y0,i0,j0,t0⟩:=hf 0 f0 g0
 obtain ⟨v1,y1,i1,j1,t1⟩:=hf 1 f1 g1
 obtain ⟨v2,y2,i2,j2,t2⟩:=hf 2 f2 g2
 obtain ⟨v3,y3,i3,j3,t3⟩:=hf 3 f3 g3
 obtain ⟨v4,y4,i4,j4,t4⟩:=hf 4 f4 g4
 rw [q0] at t0; rw [q1] at t1; rw [q2] at t2; rw [q3] at t3; rw [q4] at t4
 obtain ⟨nm,rfl,b0⟩:=str_x K T.uT t0
 obtain ⟨a1,c1,us,rfl,h1,w1⟩:=texts_x K T hsp t1
 obtain ⟨a2,c2,ds,rfl,h2,w2⟩:=slice_x (rd:=rdDecl) K (fun d=>1+d.nm.length) wD rfl (fun _ _=>rfl) T.uDs ((row_cells T.rD).trans hszD) (by omega) hsp (fun n' cs' y hn' ht _=>by
   obtain ⟨z,rfl,hz⟩:=decl_x K T ht
   exact ⟨z,fun b o hr=>hr,hz⟩) t2
 obtain ⟨a3,c3,ps,rfl,h3,w3⟩:=slice_x (rd:=RdP fuel fuel) K (fun p=>1+p.nm.length+wN p.params+wN p.locs+wSs p.body) wP rfl (fun _ _=>rfl) T.uPs ((row_cells T.rP).trans hszP) (by omega) hsp (fun n' cs' y hn' ht _=>by
   obtain ⟨z,a1,c1,a2,c2,a3,c3,rfl,h1,h2,h3,hz⟩:=proc_x K T hsp ht
   exact ⟨z,fun b o hr=>⟨a1,c1,a2,c2,a3,c3,hr,h1,h2,h3.imp fun b o y hy=>RdS_mono (VLe.refl _) (by omega) (by omega) b o y hy⟩,hz⟩) t3
 obtain ⟨a4,c4,mn,rfl,h4,w4⟩:=block_x K T hsp t4
 refine ⟨⟨nm,us,ds,ps,mn⟩,⟨a1,c1,a2,c2,a3,c3,a4,c4⟩,?_,⟨h1,h2,h3,h4.imp fun b o y hy=>RdS_mono (VLe.refl _) (by omega) (by omega) b o y hy⟩,?_⟩
 · match cs,hl.trans hsz with
   | [c0,c1,c2,c3,c4],_=>
     simp at i0 i1 i2 i3 i4
     subst i0 i1 i2 i3 i4
     rfl
 · match ys,hyl.trans hsz with
   | [d0,d1,d2,d3,d4],_=>
     simp at j0 j1 j2 j3 j4
     subst j0 j1 j2 j3 j4
     rw [hx]
     simp only [List.map_cons,List.map_nil,K.agg,K.cons,K.nil,wM]
     omega
end
end Go.Bw
end
section
namespace Go.Bw
open Go Go.RowKit
open Go.ChangeShapes Go.WideShapes Go.ChangeAt Go.RowKit Go.Joins Go.Deep
def rdMods (n:Nat) (H:View) (b o:Nat) (m:TMod):Prop:=∃r:MAt,RdC H b o (modV m r)∧RdM n n H r m
def wMs:List TMod→Nat
 | []=>0
 | m::r=>wM m+wMs r
theorem wMs_mem:∀{l:List TMod} {m:TMod},m ∈ l→wM m≤wMs l
 | x::r,m,h=>by
   rcases List.mem_cons.1 h with e | h
   · subst e; exact Nat.le_add_right _ _
   · have:=wMs_mem h; show wM m≤wM x+wMs r; omega
section
variable {P:Program} {H:Type} {enc:TypeId×Value→H} {w:World} {base:Nat} {spare:Nat→Bool} {held:Bool} {tE tS tD tP tM tEs tSs tDs tPs tTs tI tB tT tMs:TypeId} {e s d p m:Array Field}
theorem open_mods (K:Bulk H) (T:ModTy P tE tS tD tP tM tEs tSs tDs tPs tTs e s d p m tI tB tT) (uMs:P.underlying tMs=some (.slice tM)) (hsp:∀b,spare b=true) {r:Reach} {b0:Nat} {v:Value} {x:DataW H} {pl:List MemPlace} (hval:Value.okWide P w r b0 tMs v) (h:DataW.Trod enc P w base spare held tMs v x pl) :
   ∃(a:Option Addr) (c n:Nat) (l:List TMod),v = .slice a l.length c∧Sl (rdMods n) 5 (hv w) a c l∧wMs l≤K.B x:=by
 obtain ⟨a,k,c,rfl⟩:=okWide_slice uMs hval
 obtain ⟨fuel,h⟩:=h
 have hsz:=size_of T.fM
 simp at hsz
 obtain ⟨a,c,l,h1,h2,h3⟩:=slice_x (rd:=rdMods fuel) K wM wMs rfl (fun _ _=>rfl) uMs ((row_cells T.rM).trans hsz) (by omega) hsp (fun n' cs' y hn' ht _=>by
   obtain ⟨z,q,rfl,hr,hw⟩:=mod_x K T hsp ht
   exact ⟨z,fun b o hc=>⟨q,hc,hr.uses,hr.decls,hr.procs.imp fun b o x hx=>RdP_mono (VLe.refl _) (by omega) (by omega) b o x hx,hr.main.imp fun b o x hx=>RdS_mono (VLe.refl _) (by omega) (by omega) b o x hx⟩,hw⟩) h
 exact ⟨a,c,fuel,l,h1,h2,h3⟩
end
end Go.Bw
end
section
namespace Go.Bw
open Go
set_option linter.unusedVariables false
set_option linter.unusedSimpArgs false
structure FItem where
 kind:Int
 n:Int
 pl:Int
 name:List UInt8
deriving DecidableEq
def FItem.cells (x:FItem):List Value:=[.int .i64 x.kind,.int .i64 x.n,.int .i64 x.pl,st x.name]
theorem FItem.cells_len (x:FItem):x.cells.length=4:=rfl
def twiceB (l:List (List UInt8)):Bool:=(List.range l.length).any fun i=>(List.range i).any fun j=>l[i]?.getD []==l[j]?.getD []
theorem twice_yes {l:List (List UInt8)} {i j:Nat} (hi:i<l.length) (hj:j<i) (h:(l[i]?.getD []==l[j]?.getD [])=true):twiceB l=true:=by
 unfold twiceB
 exact List.any_eq_true.2 ⟨i,by simpa using hi,List.any_eq_true.2 ⟨j,by simpa using hj,h⟩⟩
theorem twice_iff {l:List (List UInt8)}:twiceB l=true↔∃i j,i<l.length∧j<i∧l[i]? = l[j]?:=by
 constructor
 · intro h
   unfold twiceB at h
   obtain ⟨i,hi,h⟩:=List.any_eq_true.1 h
   obtain ⟨j,hj,h⟩:=List.any_eq_true.1 h
   have hi:i<l.length:=by simpa using hi
   have hj:j<i:=by simpa using hj
   refine ⟨i,j,hi,hj,?_⟩
   rw [List.getElem?_eq_getElem hi,List.getElem?_eq_getElem (by omega)] at h ⊢
   simpa using h
 · rintro ⟨i,j,hi,hj,h⟩
   exact twice_yes hi hj (by rw [h]; simp)
theorem nodup_twice {l:List (List UInt8)}:l.Nodup↔twiceB l=false:=by
 constructor
 · intro h
   rw [Bool.eq_false_iff]
   intro ht
   obtain ⟨i,j,hi,hj,e⟩:=twice_iff.1 ht
   have:=(List.getElem?_inj hi h).1 e
   omega
 · intro h
   show List.Pairwise _ l
   rw [List.pairwise_iff_getElem]
   intro i j hi hj hij e
   have:=twice_iff.2 ⟨j,i,hj,hij,by rw [List.getElem?_eq_getElem hi,List.getElem?_eq_getElem hj,e]⟩
   rw [h] at this; cases this
inductive TNode where
 | mk (op n m pl:Int) (args:List TNode)
inductive TAct where
 | mk (op n m pl:Int) (args:List TNode) (body other:List TAct)
def TNode.op:TNode→Int | .mk o _ _ _ _=>o
def TNode.n:TNode→Int | .mk _ n _ _ _=>n
def TNode.m:TNode→Int | .mk _ _ m _ _=>m
def TNode.pl:TNode→Int | .mk _ _ _ p _=>p
def TNode.args:TNode→List TNode | .mk _ _ _ _ a=>a
def TAct.op:TAct→Int | .mk o _ _ _ _ _ _=>o
def TAct.n:TAct→Int | .mk _ n _ _ _ _ _=>n
def TAct.m:TAct→Int | .mk _ _ m _ _ _ _=>m
def TAct.pl:TAct→Int | .mk _ _ _ p _ _ _=>p
def TAct.args:TAct→List TNode | .mk _ _ _ _ a _ _=>a
def TAct.body:TAct→List TAct | .mk _ _ _ _ _ b _=>b
def TAct.other:TAct→List TAct | .mk _ _ _ _ _ _ o=>o
structure TPart where
 params:Int
 locals:Int
 body:List TAct
structure TUnit where
 nm:List UInt8
 uses:List (List UInt8)
 data:Int
 parts:List TPart
 main:List TAct
def nodeV (e:TNode) (a:Option Addr) (c:Nat):List Value:=[.int .i64 e.op,.int .i64 e.n,.int .i64 e.m,.int .i64 e.pl,.slice a e.args.length c]
def RdN:Nat→View→Nat→Nat→TNode→Prop
 | 0=>fun _ _ _ _=>False
 | k+1=>fun H b o e=>∃a c,RdC H b o (nodeV e a c)∧Sl (RdN k) 5 H a c e.args
structure AAt where
 s1:Option Addr×Nat
 s2:Option Addr×Nat
 s3:Option Addr×Nat
def actV (s:TAct) (r:AAt):List Value:=[.int .i64 s.op,.int .i64 s.n,.int .i64 s.m,.int .i64 s.pl,.slice r.s1.1 s.args.length r.s1.2,.slice r.s2.1 s.body.length r.s2.2,.slice r.s3.1 s.other.length r.s3.2]
def RdA (ke:Nat):Nat→View→Nat→Nat→TAct→Prop
 | 0=>fun _ _ _ _=>False
 | k+1=>fun H b o s=>∃r:AAt,RdC H b o (actV s r)∧Sl (RdN ke) 5 H r.s1.1 r.s1.2 s.args∧Sl (RdA ke k) 7 H r.s2.1 r.s2.2 s.body∧Sl (RdA ke k) 7 H r.s3.1 r.s3.2 s.other
def partV (p:TPart) (r:Option Addr×Nat):List Value:=[.int .i64 p.params,.int .i64 p.locals,.slice r.1 p.body.length r.2]
def RdPt (ke ks:Nat) (H:View) (b o:Nat) (p:TPart):Prop:=∃r:Option Addr×Nat,RdC H b o (partV p r)∧Sl (RdA ke ks) 7 H r.1 r.2 p.body
structure UAt where
 s1:Option Addr×Nat
 s2:Option Addr×Nat
 s3:Option Addr×Nat
structure RdU (ke ks:Nat) (H:View) (r:UAt) (u:TUnit):Prop where
 uses:Sl rdStr 1 H r.s1.1 r.s1.2 u.uses
 parts:Sl (RdPt ke ks) 3 H r.s2.1 r.s2.2 u.parts
 main:Sl (RdA ke ks) 7 H r.s3.1 r.s3.2 u.main
theorem RdN_mono {H H':View} (hH:VLe H H'):∀{k k':Nat},k≤k'→∀(b o:Nat) (e:TNode),RdN k H b o e→RdN k' H' b o e
 | 0,_,_,_,_,_,h=>h.elim
 | k+1,0,hk,_,_,_,_=>absurd hk (by omega)
 | k+1,k'+1,hk,b,o,e,h=>by
   obtain ⟨a,c,h1,h2⟩:=h
   exact ⟨a,c,RdC.mono hH h1,h2.imp fun b o x hx=>RdN_mono hH (by omega) b o x hx⟩
theorem RdA_mono {H H':View} (hH:VLe H H') {ke ke':Nat} (hke:ke≤ke'):∀{k k':Nat},k≤k'→∀(b o:Nat) (e:TAct),RdA ke k H b o e→RdA ke' k' H' b o e
 | 0,_,_,_,_,_,h=>h.elim
 | k+1,0,hk,_,_,_,_=>absurd hk (by omega)
 | k+1,k'+1,hk,b,o,e,h=>by
   obtain ⟨r,h1,h2,h3,h4⟩:=h
   exact ⟨r,RdC.mono hH h1,h2.imp fun b o x hx=>RdN_mono hH hke b o x hx,h3.imp fun b o x hx=>RdA_mono hH hke (by omega) b o x hx,h4.imp fun b o x hx=>RdA_mono hH hke (by omega) b o x hx⟩
theorem RdPt_mono {H H':View} (hH:VLe H H') {ke ke' ks ks':Nat} (hke:ke≤ke') (hks:ks≤ks') (b o:Nat) (p:TPart) (h:RdPt ke ks H b o p):RdPt ke' ks' H' b o p:=by
 obtain ⟨r,h1,h2⟩:=h
 exact ⟨r,RdC.mono hH h1,h2.imp fun b o x hx=>RdA_mono hH hke hks b o x hx⟩
theorem slN_mv {H N:View} {k c:Nat} {a:Option Addr} {l:List TNode} (h:Sl (RdN k) 5 H a c l) (hv:VLe H N):Sl (RdN k) 5 N a c l:=h.imp fun b o x hx=>RdN_mono hv (Nat.le_refl _) b o x hx
theorem slA_mv {H N:View} {ke k c:Nat} {a:Option Addr} {l:List TAct} (h:Sl (RdA ke k) 7 H a c l) (hv:VLe H N):Sl (RdA ke k) 7 N a c l:=h.imp fun b o x hx=>RdA_mono hv (Nat.le_refl _) (Nat.le_refl _) b o x hx
theorem slPt_mv {H N:View} {ke k c:Nat} {a:Option Addr} {l:List TPart} (h:Sl (RdPt ke k) 3 H a c l) (hv:VLe H N):Sl (RdPt ke k) 3 N a c l:=h.imp fun b o x hx=>RdPt_mono hv (Nat.le_refl _) (Nat.le_refl _) b o x hx
theorem RdU.mv {ke ks:Nat} {H N:View} {r:UAt} {u:TUnit} (h:RdU ke ks H r u) (hv:VLe H N):RdU ke ks N r u:=⟨h.uses.imp fun b o x hx=>rdStr_mono hv b o x hx,slPt_mv h.parts hv,slA_mv h.main hv⟩
def Xs {X:Type} (R:View→X→Prop) (J:View) (es:List X):Prop:=∀e ∈ es,R J e
theorem Xs.nil {X:Type} {R:View→X→Prop} (J:View):Xs R J []:=by intro e h; simp at h
theorem Xs.mono {X:Type} {R:View→X→Prop} (hm:∀{A B:View} {x:X},VLe A B→R A x→R B x) {J J':View} {es:List X} (h:Xs R J es) (hv:VLe J J'):Xs R J' es:=fun e he=>hm hv (h e he)
theorem Xs.snoc {X:Type} {R:View→X→Prop} (hm:∀{A B:View} {x:X},VLe A B→R A x→R B x) {J J1 J2:View} {es:List X} {e:X} (h:Xs R J es) (h1:VLe J J2) (h2:VLe J1 J2) (he:R J1 e):Xs R J2 (es++[e]):=by
 intro x hx
 rcases List.mem_append.1 hx with hx | hx
 · exact hm h1 (h x hx)
 · rw [List.mem_singleton] at hx
   subst hx
   exact hm h2 he
abbrev XN:=TNode×Option Addr×Nat
def XN.cells (e:XN):List Value:=nodeV e.1 e.2.1 e.2.2
theorem XN.cells_len (e:XN):(XN.cells e).length=5:=rfl
def SlN (k:Nat) (J:View) (e:XN):Prop:=Sl (RdN k) 5 J e.2.1 e.2.2 e.1.args
theorem SlN.mv {k:Nat} {A B:View} {e:XN} (hv:VLe A B) (h:SlN k A e):SlN k B e:=slN_mv h hv
abbrev XA:=TAct×AAt
def XA.cells (e:XA):List Value:=actV e.1 e.2
theorem XA.cells_len (e:XA):(XA.cells e).length=7:=rfl
structure SlA (ke k:Nat) (N:View) (e:XA):Prop where
 args:Sl (RdN ke) 5 N e.2.s1.1 e.2.s1.2 e.1.args
 body:Sl (RdA ke k) 7 N e.2.s2.1 e.2.s2.2 e.1.body
 other:Sl (RdA ke k) 7 N e.2.s3.1 e.2.s3.2 e.1.other
theorem SlA.mv {ke k:Nat} {A B:View} {e:XA} (hv:VLe A B) (h:SlA ke k A e):SlA ke k B e:=⟨slN_mv h.args hv,slA_mv h.body hv,slA_mv h.other hv⟩
abbrev XP:=TPart×Option Addr×Nat
def XP.cells (e:XP):List Value:=partV e.1 e.2
theorem XP.cells_len (e:XP):(XP.cells e).length=3:=rfl
def SlPt (ke k:Nat) (J:View) (e:XP):Prop:=Sl (RdA ke k) 7 J e.2.1 e.2.2 e.1.body
theorem SlPt.mv {ke k:Nat} {A B:View} {e:XP} (hv:VLe A B) (h:SlPt ke k A e):SlPt ke k B e:=slA_mv h hv
end Go.Bw
end
section
namespace Go.Bw
open Go Go.RowKit
open Go.ChangeShapes Go.WideShapes Go.ChangeAt Go.RowKit Go.Joins Go.Deep
structure FaceTy (P:Program) (tI tT tX tXs tF tFs:TypeId) (x f:Array Field):Prop where
 uI:P.underlying tI=some (.int .i64)
 uT:P.underlying tT=some .string
 uX:P.underlying tX=some (.struct x)
 rX:(inRow P 0 x.toList&&Nat.beq (P.cellsOf tX) x.size)=true
 fX:x.map (·.type) = #[tI,tI,tI,tT]
 uXs:P.underlying tXs=some (.slice tX)
 uF:P.underlying tF=some (.struct f)
 rF:(inRow P 0 f.toList&&Nat.beq (P.cellsOf tF) f.size)=true
 fF:f.map (·.type) = #[tT,tXs]
 uFs:P.underlying tFs=some (.slice tF)
end Go.Bw
end
section
namespace Go.Bw
open Go
set_option linter.unusedVariables false
set_option linter.unusedSimpArgs false
structure Scp where
 locs:List (List UInt8)
 own:List FItem
 uses:List (List UInt8)
 faces:List (List FItem)
def idxOf (nm:List UInt8):List (List UInt8)→Nat→Option Nat
 | [],_=>none
 | s::r,i=>if s=nm then some i else idxOf nm r (i+1)
def er (a b:Int):Int:=if a=0 then b else a
theorem er_0 (b:Int):er 0 b=b:=rfl
theorem er_assoc (a b c:Int):er (er a b) c=er a (er b c):=by unfold er; split<;>simp_all
theorem er_zero {a b:Int}:er a b=0↔a=0∧b=0:=by unfold er; split<;>simp_all
theorem er_ne {a b:Int} (h:a≠0):er a b=a:=by unfold er; rw [if_neg h]
structure RN where
 op:Int
 n:Int
 m:Int
 pl:Int
 e:Int
def ers {α:Type} (f:α→Int):List α→Int
 | []=>0
 | x::r=>er (f x) (ers f r)
theorem ers_app {α:Type} (f:α→Int):∀a b:List α,ers f (a++b)=er (ers f a) (ers f b)
 | [],b=>rfl
 | x::a,b=>by simp only [List.cons_append,ers,ers_app f a b,er_assoc]
theorem ers_hit {α:Type} (f:α→Int) {l:List α} {i:Nat} {x:α} (h:l[i]? = some x) (h0:ers f (l.take i)=0) (hx:f x≠0):ers f l=f x:=by
 have e:l=l.take i++l.drop i:=(List.take_append_drop i l).symm
 rw [e,ers_app,h0,er_0]
 have hd:l.drop i=x::l.drop (i+1):=by
   obtain ⟨hlt,hx'⟩:=List.getElem?_eq_some_iff.1 h
   rw [List.drop_eq_getElem_cons hlt,hx']
 rw [hd,ers,er_ne hx]
theorem idxOf_none {nm:List UInt8}:∀{l:List (List UInt8)} {s:Nat},idxOf nm l s=none↔nm ∉ l
 | [],_=>by simp [idxOf]
 | x::r,s=>by
   rw [idxOf]
   by_cases h:x=nm
   · simp [h]
   · rw [if_neg h,idxOf_none (l:=r)]
     simp only [List.mem_cons,not_or]
     exact ⟨fun hr=>⟨fun e=>h e.symm,hr⟩,fun hr=>hr.2⟩
theorem idxOf_le {nm:List UInt8}:∀{l:List (List UInt8)} {s k:Nat},idxOf nm l s=some k→s≤k∧l[k-s]? = some nm
 | [],_,_,h=>by cases h
 | x::r,s,k,h=>by
   rw [idxOf] at h
   split at h
   · rename_i hx; injection h with h; subst h; simp [hx]
   · obtain ⟨h1,h2⟩:=idxOf_le h
     refine ⟨by omega,?_⟩
     rw [show k-s=(k-(s+1))+1 by omega]; simpa using h2
end Go.Bw
end
section
namespace Go.Bw
open Go
set_option linter.unusedVariables false
set_option linter.unusedSimpArgs false
def ltT (x y:List UInt8):Bool:=Op.bytesLess x y
theorem ltT_irr:∀x:List UInt8,ltT x x=false
 | []=>rfl
 | a::x=>by
   have h:=ltT_irr x
   unfold ltT at h ⊢
   simp only [Op.bytesLess,h,Bool.and_false,Bool.or_false]
   simp
theorem ltT_cons (a b:UInt8) (x y:List UInt8):ltT (a::x) (b::y)=(decide (a<b)||((a==b)&&ltT x y)):=rfl
theorem ltT_tri:∀x y:List UInt8,x≠y→ltT x y=true∨ltT y x=true
 | [],[],h=>absurd rfl h
 | [],b::y,_=>.inl rfl
 | a::x,[],_=>.inr rfl
 | a::x,b::y,h=>by
   rw [ltT_cons,ltT_cons]
   by_cases e:a=b
   · subst e
     have:=ltT_tri x y (fun e=>h (by rw [e]))
     simpa using this
   · rcases Nat.lt_or_gt_of_ne (fun hh=>e (UInt8.toNat_inj.1 hh)) with h1 | h1
     · left; simp [UInt8.lt_iff_toNat_lt,h1]
     · right; simp [UInt8.lt_iff_toNat_lt,h1]
theorem ltT_trans:∀x y z:List UInt8,ltT x y=true→ltT y z=true→ltT x z=true
 | [],[],_,h,_=>by cases h
 | [],_::_,[],_,h=>by cases h
 | [],_::_,_::_,_,_=>rfl
 | _::_,[],_,h,_=>by cases h
 | _::_,_::_,[],_,h=>by cases h
 | a::x,b::y,c::z,h1,h2=>by
   rw [ltT_cons] at h1 h2 ⊢
   simp only [Bool.or_eq_true,Bool.and_eq_true,decide_eq_true_eq,beq_iff_eq,UInt8.lt_iff_toNat_lt] at h1 h2 ⊢
   rcases h1 with h1 | ⟨rfl,h1⟩
   · rcases h2 with h2 | ⟨rfl,h2⟩
     · exact .inl (by omega)
     · exact .inl h1
   · rcases h2 with h2 | ⟨rfl,h2⟩
     · exact .inl h2
     · exact .inr ⟨rfl,ltT_trans x y z h1 h2⟩
theorem ltT_asym {x y:List UInt8} (h:ltT x y=true):ltT y x=false:=by
 rw [Bool.eq_false_iff]
 intro h2
 have:=ltT_trans x y x h h2
 rw [ltT_irr] at this; cases this
def SortedT (l:List (List UInt8)):Prop:=l.Pairwise fun x y=>ltT x y=true
theorem sortedT_nodup {l:List (List UInt8)} (h:SortedT l):l.Nodup:=h.imp fun {a b} hab e=>by subst e; rw [ltT_irr] at hab; cases hab
theorem sortedT_eq {l l':List (List UInt8)} (h:SortedT l) (h':SortedT l') (hm:∀s,s ∈ l↔s ∈ l'):l=l':=by
 refine List.Perm.eq_of_pairwise (le:=fun a b=>ltT a b=true) (fun a b _ _ h1 h2=>?_) h h' ((List.perm_ext_iff_of_nodup (sortedT_nodup h) (sortedT_nodup h')).2 hm)
 rw [ltT_asym h1] at h2; cases h2
def namesL (l:List TMod):List (List UInt8):=l.map (·.nm)
def placeL (l:List TMod) (s:List UInt8):Option Nat:=idxOf s (namesL l) 0
def nmAt (l:List TMod) (i:Nat):List UInt8:=(l[i]?.map (·.nm)).getD []
def usesAt (l:List TMod) (i:Nat):List (List UInt8):=(l[i]?.map (·.uses)).getD []
def usesOk (l:List TMod):Bool:=l.all fun m=>m.uses.all fun s=>(placeL l s).isSome
def orderE (l:List TMod):Int:=if 4<l.length then 2 else er (ers checkM l) (if twiceB (namesL l)=true then 6 else if usesOk l=true then 0 else 5)
structure OrdOk (l:List TMod):Prop where
 few:l.length≤4
 mods:∀m ∈ l,checkM m=0
 nd:(namesL l).Nodup
 uses:∀m ∈ l,∀s ∈ m.uses,∃j,placeL l s=some j
theorem ers_zero {α:Type} {f:α→Int}:∀{l:List α},ers f l=0↔∀x ∈ l,f x=0
 | []=>by simp [ers]
 | x::l=>by rw [ers,er_zero,ers_zero (l:=l)]; simp
theorem orderE_zero {l:List TMod}:orderE l=0↔OrdOk l:=by
 unfold orderE
 constructor
 · intro h
   split at h
   · cases h
   · rename_i h4
     obtain ⟨h1,h2⟩:=er_zero.1 h
     split at h2
     · cases h2
     · rename_i ht
       split at h2
       · rename_i hu
         refine ⟨by omega,ers_zero.1 h1,nodup_twice.2 (by simpa using ht),fun m hm s hs=>?_⟩
         have:=List.all_eq_true.1 (List.all_eq_true.1 hu m hm) s hs
         cases hp:placeL l s with
         | none=>rw [hp] at this; cases this
         | some j=>exact ⟨j,rfl⟩
       · cases h2
 · intro h
   rw [if_neg (by have:=h.few; omega),ers_zero.2 h.mods,er_0,if_neg (by rw [nodup_twice.1 h.nd]; decide),if_pos]
   refine List.all_eq_true.2 fun m hm=>List.all_eq_true.2 fun s hs=>?_
   obtain ⟨j,hj⟩:=h.uses m hm s hs
   rw [hj]; rfl
theorem placeL_at {l:List TMod} {s:List UInt8} {j:Nat} (h:placeL l s=some j):j<l.length∧nmAt l j=s:=by
 have h2:=(idxOf_le h).2
 rw [Nat.sub_zero] at h2
 unfold namesL at h2
 rw [List.getElem?_map] at h2
 obtain ⟨m,hm,e⟩:=Option.map_eq_some_iff.1 h2
 exact ⟨(List.getElem?_eq_some_iff.1 hm).1,by rw [nmAt,hm]; exact e⟩
theorem nmAt_get {l:List TMod} {i:Nat} {m:TMod} (h:l[i]? = some m):nmAt l i=m.nm:=by rw [nmAt,h]; rfl
theorem usesAt_get {l:List TMod} {i:Nat} {m:TMod} (h:l[i]? = some m):usesAt l i=m.uses:=by rw [usesAt,h]; rfl
theorem names_get {l:List TMod} {i:Nat} {m:TMod} (h:l[i]? = some m):(namesL l)[i]? = some m.nm:=by unfold namesL; rw [List.getElem?_map,h]; rfl
theorem names_len (l:List TMod):(namesL l).length=l.length:=by simp [namesL]
theorem nm_inj {l:List TMod} (hn:(namesL l).Nodup) {i j:Nat} (hi:i<l.length) (hj:j<l.length) (h:nmAt l i=nmAt l j):i=j:=by
 have e:(namesL l)[i]? = (namesL l)[j]?:=by
   rw [names_get (List.getElem?_eq_getElem hi),names_get (List.getElem?_eq_getElem hj),←nmAt_get (List.getElem?_eq_getElem hi),←nmAt_get (List.getElem?_eq_getElem hj),h]
 exact (List.getElem?_inj (by rw [names_len]; exact hi) hn).1 e
theorem place_nm {l:List TMod} (hn:(namesL l).Nodup) {i:Nat} (hi:i<l.length):placeL l (nmAt l i)=some i:=by
 cases hp:placeL l (nmAt l i) with
 | none=>
   refine absurd ?_ (idxOf_none.1 hp)
   rw [nmAt_get (List.getElem?_eq_getElem hi)]
   exact List.mem_of_getElem? (names_get (List.getElem?_eq_getElem hi))
 | some j=>
   obtain ⟨h1,h2⟩:=placeL_at hp
   rw [nm_inj hn h1 hi h2]
def doneS (l:List TMod) (d:List Nat) (s:List UInt8):Bool:=match placeL l s with | some j=>d.contains j | none=>false
def readyB (l:List TMod) (d:List Nat) (i:Nat):Bool:=!d.contains i&&(usesAt l i).all (doneS l d)
structure Best (l:List TMod) (d:List Nat) (b:Nat):Prop where
 lt:b<l.length
 ready:readyB l d b=true
 least:∀i,i<l.length→readyB l d i=true→i=b∨ltT (nmAt l b) (nmAt l i)=true
inductive Greedy (l:List TMod):List Nat→Prop where
 | nil:Greedy l []
 | snoc {d:List Nat} {b:Nat}:Greedy l d→Best l d b→Greedy l (d++[b])
def NoReady (l:List TMod) (d:List Nat):Prop:=∀i,i<l.length→readyB l d i=false
theorem best_eq {l:List TMod} {d:List Nat} {a b:Nat} (ha:Best l d a) (hb:Best l d b):a=b:=by
 rcases ha.least b hb.lt hb.ready with h | h
 · exact h.symm
 · rcases hb.least a ha.lt ha.ready with h2 | h2
   · exact h2
   · rw [ltT_asym h] at h2; cases h2
theorem greedy_inv {l:List TMod} {d:List Nat} {b:Nat} (h:Greedy l (d++[b])):Greedy l d∧Best l d b:=by
 generalize he:d++[b]=e at h
 cases h with
 | nil=>simp at he
 | snoc h1 h2=>
   obtain ⟨rfl,e2⟩:=List.append_inj' he rfl
   injection e2 with e2
   subst e2
   exact ⟨h1,h2⟩
theorem greedy_take {l:List TMod}:∀{d:List Nat},Greedy l d→∀k,Greedy l (d.take k):=by
 intro d h
 induction h with
 | nil=>intro k; simp; exact .nil
 | @snoc d b h1 h2 ih=>
   intro k
   rcases Nat.lt_or_ge d.length k with hk | hk
   · rw [List.take_of_length_le (by simp; omega)]; exact .snoc h1 h2
   · rw [List.take_append_of_le_length hk]; exact ih k
theorem greedy_eq {l:List TMod}:∀{n:Nat} {d e:List Nat},d.length=n→e.length=n→Greedy l d→Greedy l e→d=e
 | 0,d,e,h1,h2,_,_=>by rw [List.eq_nil_of_length_eq_zero h1,List.eq_nil_of_length_eq_zero h2]
 | n+1,d,e,h1,h2,hd,he=>by
   obtain ⟨d',a,rfl⟩:∃d' a,d=d'++[a]:=⟨d.dropLast,d.getLast (by intro h; rw [h] at h1; cases h1),(List.dropLast_concat_getLast _).symm⟩
   obtain ⟨e',b,rfl⟩:∃d' a,e=d'++[a]:=⟨e.dropLast,e.getLast (by intro h; rw [h] at h2; cases h2),(List.dropLast_concat_getLast _).symm⟩
   obtain ⟨k1,k2⟩:=greedy_inv hd
   obtain ⟨k3,k4⟩:=greedy_inv he
   have:=greedy_eq (n:=n) (by simpa using h1) (by simpa using h2) k1 k3
   subst this
   rw [best_eq k2 k4]
theorem greedy_no {l:List TMod} {d e:List Nat} (hd:Greedy l d) (hn:NoReady l d) (he:Greedy l e):e.length≤d.length:=by
 rcases Nat.lt_or_ge d.length e.length with h | h
 · have h1:=greedy_take he (d.length+1)
   have h2:e.take (d.length+1)=e.take d.length++[e[d.length]]:=by rw [List.take_add_one,List.getElem?_eq_getElem h]; rfl
   rw [h2] at h1
   obtain ⟨k1,k2⟩:=greedy_inv h1
   have e1:=greedy_eq (n:=d.length) rfl (by simp; omega) hd k1
   rw [←e1] at k2
   have:=k2.ready
   rw [hn _ k2.lt] at this; cases this
 · exact h
def Ended (l:List TMod) (d:List Nat):Prop:=Greedy l d∧(d.length=l.length∨NoReady l d)
theorem greedy_lt {l:List TMod} {d:List Nat} (h:Greedy l d):(∀i ∈ d,i<l.length)∧d.Nodup:=by
 induction h with
 | nil=>simp
 | @snoc d b h1 h2 ih=>
   refine ⟨fun i hi=>?_,?_⟩
   · rcases List.mem_append.1 hi with hi | hi
     · exact ih.1 i hi
     · rw [List.mem_singleton] at hi; subst hi; exact h2.lt
   · rw [List.nodup_append]
     refine ⟨ih.2,by simp,fun a ha b' hb'=>?_⟩
     rw [List.mem_singleton] at hb'; subst hb'
     intro e; subst e
     have:=h2.ready
     simp [readyB,ha] at this
theorem nodup_le:∀{n:Nat} {d:List Nat},d.Nodup→(∀i ∈ d,i<n)→d.length≤n
 | 0,[],_,_=>Nat.le_refl _
 | 0,x::_,_,h=>absurd (h x (by simp)) (by omega)
 | n+1,d,hd,hb=>by
   have h1:(d.erase n).length≤n:=nodup_le (hd.erase n) fun i hi=>by
     have h2:=(hd.mem_erase_iff).1 hi
     have:=hb i h2.2
     have:=h2.1
     omega
   by_cases hm:n ∈ d
   · rw [List.length_erase_of_mem hm] at h1; omega
   · rw [List.erase_of_not_mem hm] at h1; omega
theorem ended_eq {l:List TMod} {d e:List Nat} (hd:Ended l d) (he:Ended l e):d=e:=by
 have ld:=nodup_le (greedy_lt hd.1).2 (greedy_lt hd.1).1
 have le:=nodup_le (greedy_lt he.1).2 (greedy_lt he.1).1
 have h:d.length=e.length:=by
   rcases hd.2 with h1 | h1
   · rcases he.2 with h2 | h2
     · omega
     · have:=greedy_no he.1 h2 hd.1; omega
   · have h3:=greedy_no hd.1 h1 he.1
     rcases he.2 with h2 | h2
     · omega
     · have:=greedy_no he.1 h2 hd.1; omega
 exact greedy_eq (n:=d.length) rfl h.symm hd.1 he.1
def sortV (l:List TMod) (d:List Nat):List Nat×Int:=if d.length=l.length then (d,0) else ([],9)
def usesN (l:List TMod) (s:List UInt8):List (List UInt8):=match placeL l s with | some i=>usesAt l i | none=>[]
inductive Reach (l:List TMod) (a:List UInt8):List UInt8→Prop where
 | base {s:List UInt8}:s ∈ usesN l a→Reach l a s
 | step {b s:List UInt8}:Reach l a b→s ∈ usesN l b→Reach l a s
theorem reach_place {l:List TMod} (ho:OrdOk l) {a s:List UInt8} (h:Reach l a s):∃j,placeL l s=some j:=by
 have key:∀b,s ∈ usesN l b→∃j,placeL l s=some j:=fun b hb=>by
   unfold usesN at hb
   split at hb
   · rename_i i hi
     have hlt:=(placeL_at hi).1
     rw [usesAt_get (List.getElem?_eq_getElem hlt)] at hb
     exact ho.uses _ (List.getElem_mem hlt) s hb
   · simp at hb
 cases h with
 | base h=>exact key _ h
 | step _ h=>exact key _ h
structure ClosedN (l:List TMod) (a:List UInt8) (S:List UInt8→Prop):Prop where
 base:∀s ∈ usesN l a,S s
 step:∀b,S b→∀s ∈ usesN l b,S s
 sound:∀s,S s→Reach l a s
theorem ClosedN.iff {l:List TMod} {a:List UInt8} {S:List UInt8→Prop} (h:ClosedN l a S) (s:List UInt8):S s↔Reach l a s:=
 ⟨h.sound s,fun hr=>by
   induction hr with
   | base h1=>exact h.base _ h1
   | step _ h1 ih=>exact h.step _ ih _ h1⟩
def tabZ (l:List (List UInt8)) (s:Nat):List (GEnt (List UInt8)):=match l with
 | []=>[]
 | x::r=>(x,.int .i64 (s:Int),s)::tabZ r (s+1)
theorem tabZ_len:∀(l:List (List UInt8)) (s:Nat),(tabZ l s).length=l.length
 | [],_=>rfl
 | x::r,s=>by rw [tabZ,List.length_cons,tabZ_len r,List.length_cons]
theorem tabZ_snoc:∀(l:List (List UInt8)) (x:List UInt8) (s:Nat),tabZ (l++[x]) s=tabZ l s++[(x,.int .i64 ((s+l.length:Nat):Int),s+l.length)]
 | [],x,s=>rfl
 | y::r,x,s=>by
   rw [List.cons_append,tabZ,tabZ_snoc r x,tabZ,List.cons_append,List.length_cons,show s+1+r.length=s+(r.length+1) by omega]
theorem tabZ_find (nm:List UInt8):∀(l:List (List UInt8)) (s i:Nat),(gfind nm (tabZ l s) i).map (·.2)=(idxOf nm l s).map fun k=>.int .i64 (k:Int)
 | [],_,_=>rfl
 | x::r,s,i=>by
   rw [tabZ,gfind,idxOf]
   by_cases h:x=nm
   · simp [h]
   · rw [if_neg (by simpa using fun e=>h e.symm),if_neg h]
     exact tabZ_find nm r (s+1) (i+1)
theorem tabZ_get (nm:List UInt8) (l:List (List UInt8)):gget nm (tabZ l 0) (.int .i64 0) = .int .i64 (((idxOf nm l 0).getD 0:Nat):Int)∧ghas nm (tabZ l 0)=(idxOf nm l 0).isSome:=by
 have h:=tabZ_find nm l 0 0
 unfold gget ghas
 cases hf:gfind nm (tabZ l 0) 0 with
 | none=>rw [hf] at h; cases hi:idxOf nm l 0 with | none=>exact ⟨rfl,rfl⟩ | some x=>rw [hi] at h; cases h
 | some r=>rw [hf] at h; cases hi:idxOf nm l 0 with
   | none=>rw [hi] at h; cases h
   | some x=>rw [hi] at h; simp at h; exact ⟨by simp [h],rfl⟩
theorem gput_len {κ:Type} [BEq κ] (k:κ) (v:Value) (m:List (GEnt κ)) (c:Nat):(gput k v m c).length≤m.length+1:=by
 unfold gput
 split<;>simp
def TabState (ns:List (List UInt8)) (i:Nat) (M:List (GEnt (List UInt8))) (c:Nat):Prop:=((ns.take i).Nodup∧M=tabZ (ns.take i) 0∧c=i)∨(¬(ns.take i).Nodup∧M.length<i)
theorem tabState_step {ns:List (List UInt8)} {i:Nat} {M:List (GEnt (List UInt8))} {c:Nat} {x:List UInt8} (h:TabState ns i M c) (hx:ns[i]? = some x):TabState ns (i+1) (gput x (.int .i64 (i:Int)) M c) (gclock x M c):=by
 have hlt:=(List.getElem?_eq_some_iff.1 hx).1
 have hl:(ns.take i).length=i:=by simp; omega
 have hT:ns.take (i+1)=ns.take i++[x]:=by rw [List.take_add_one,hx]; rfl
 rcases h with ⟨h1,rfl,hc⟩ | ⟨h1,h2⟩
 · have hc':=hc.symm
   subst hc'
   have hf:=tabZ_find x (ns.take i) 0 0
   by_cases hm:x ∈ ns.take i
   · right
     refine ⟨fun hn=>?_,?_⟩
     · rw [hT,List.nodup_append] at hn
       exact hn.2.2 x hm x (by simp) rfl
     · have hs:(gfind x (tabZ (ns.take i) 0) 0).isSome=true:=by
         cases hg:gfind x (tabZ (ns.take i) 0) 0 with
         | some r=>rfl
         | none=>
           rw [hg] at hf
           have:idxOf x (ns.take i) 0=none:=by
             cases hi:idxOf x (ns.take i) 0 with
             | none=>rfl
             | some k=>rw [hi] at hf; cases hf
           exact absurd hm (idxOf_none.1 this)
       unfold gput
       cases hg:gfind x (tabZ (ns.take i) 0) 0 with
       | none=>rw [hg] at hs; cases hs
       | some r=>simp [tabZ_len,hl]
   · left
     have hg:gfind x (tabZ (ns.take i) 0) 0=none:=by
       rw [idxOf_none.2 hm] at hf
       simpa using hf
     refine ⟨?_,?_,?_⟩
     · rw [hT,List.nodup_append]
       exact ⟨h1,by simp,fun a ha b hb e=>by rw [List.mem_singleton] at hb; subst hb; subst e; exact hm ha⟩
     · unfold gput
       rw [hg,hT,tabZ_snoc,hl]
       simp
     · unfold gclock
       rw [hg]
 · right
   refine ⟨fun hn=>h1 ?_,?_⟩
   · rw [hT,List.nodup_append] at hn; exact hn.1
   · have:=gput_len x (.int .i64 (i:Int)) M c
     omega
end Go.Bw
end
section
namespace Go.Bw
open Go
set_option linter.unusedVariables false
set_option linter.unusedSimpArgs false
def ltN (l:List TMod) (a b:Nat):Prop:=ltT (nmAt l a) (nmAt l b)=true
def SortedUp {α:Type} (R:α→α→Prop) (d:List α) (i:Nat):Prop:=∀(x y:Nat) (a b:α),x<y→y<i→d[x]? = some a→d[y]? = some b→R a b
structure InsInv {α:Type} (R:α→α→Prop) (d0 d:List α) (i j:Nat):Prop where
 perm:d.Perm d0
 ji:j≤i
 il:i<d.length
 ord:∀(x y:Nat) (a b:α),x<y→y≤i→x≠j→y≠j→d[x]? = some a→d[y]? = some b→R a b
 up:∀(y:Nat) (a b:α),j<y→y≤i→d[j]? = some a→d[y]? = some b→R a b
theorem ins_start {α:Type} {R:α→α→Prop} {d0 d:List α} {i:Nat} (hp:d.Perm d0) (hi:i<d.length) (h:SortedUp R d i):InsInv R d0 d i i:=
 ⟨hp,Nat.le_refl _,hi,fun x y a b hxy hy h1 h2 ha hb=>h x y a b hxy (by omega) ha hb,fun y a b h1 h2=>by omega⟩
theorem swap_split {α:Type} {d:List α} {j:Nat} {a b:α} (hb:d[j]? = some b) (ha:d[j+1]? = some a):d=d.take j++b::a::d.drop (j+2)∧(d.set (j+1) b).set j a=d.take j++a::b::d.drop (j+2):=by
 obtain ⟨h1,h2⟩:=List.getElem?_eq_some_iff.1 hb
 obtain ⟨h3,h4⟩:=List.getElem?_eq_some_iff.1 ha
 have e:d=d.take j++b::a::d.drop (j+2):=by
   conv=>lhs; rw [←List.take_append_drop j d,List.drop_eq_getElem_cons h1,h2,List.drop_eq_getElem_cons h3,h4]
 refine ⟨e,?_⟩
 have hl:(d.take j).length=j:=by simp; omega
 conv=>lhs; rw [e]
 rw [List.set_append_right _ _ (by omega),hl,show j+1-j=1 by omega,List.set_append_right _ _ (by omega),hl,Nat.sub_self]
 rfl
theorem ins_swap {α:Type} {R:α→α→Prop} {d0 d:List α} {i j:Nat} {a b:α} (h:InsInv R d0 d i (j+1)) (ha:d[j+1]? = some a) (hb:d[j]? = some b) (hr:R a b):InsInv R d0 ((d.set (j+1) b).set j a) i j:=by
 obtain ⟨e1,e2⟩:=swap_split hb ha
 have hj:=h.ji
 have hil:=h.il
 have g:∀x,((d.set (j+1) b).set j a)[x]? = if x=j then some a else if x=j+1 then some b else d[x]?:=by
   intro x
   rw [List.getElem?_set,List.getElem?_set]
   simp only [List.length_set]
   by_cases hx:x=j
   · subst hx; rw [if_pos rfl,if_pos (by omega),if_pos rfl]
   · rw [if_neg (fun e=>hx e.symm),if_neg hx]
     by_cases hx2:x=j+1
     · subst hx2; rw [if_pos rfl,if_pos (by omega),if_pos rfl]
     · rw [if_neg (fun e=>hx2 e.symm),if_neg hx2]
 refine ⟨?_,by omega,by simpa using hil,?_,?_⟩
 · rw [e2]
   refine List.Perm.trans ?_ h.perm
   conv=>rhs; rw [e1]
   exact List.Perm.append_left _ (List.Perm.swap _ _ _)
 · intro x y u v hxy hy h1 h2 hu hv
   rw [g,if_neg h1] at hu
   rw [g,if_neg h2] at hv
   by_cases hx:x=j+1
   · rw [if_pos hx] at hu
     injection hu with hu; subst hu
     rw [if_neg (by omega)] at hv
     exact h.ord j y b v (by omega) hy (by omega) (by omega) hb hv
   · rw [if_neg hx] at hu
     by_cases hy2:y=j+1
     · rw [if_pos hy2] at hv
       injection hv with hv; subst hv
       exact h.ord x j u b (by omega) (by omega) hx (by omega) hu hb
     · rw [if_neg hy2] at hv
       exact h.ord x y u v hxy hy hx hy2 hu hv
 · intro y u v h1 h2 hu hv
   rw [g,if_pos rfl] at hu
   injection hu with hu; subst hu
   rw [g,if_neg (by omega)] at hv
   by_cases hy:y=j+1
   · rw [if_pos hy] at hv
     injection hv with hv; subst hv
     exact hr
   · rw [if_neg hy] at hv
     exact h.up y a v (by omega) h2 ha hv
theorem ins_end0 {α:Type} {R:α→α→Prop} {d0 d:List α} {i:Nat} (h:InsInv R d0 d i 0):SortedUp R d (i+1):=by
 intro x y a b hxy hy ha hb
 by_cases hx:x=0
 · subst hx; exact h.up y a b hxy (by omega) ha hb
 · exact h.ord x y a b hxy (by omega) hx (by omega) ha hb
theorem ins_end {α:Type} {R:α→α→Prop} (ht:∀a b c,R a b→R b c→R a c) {d0 d:List α} {i j:Nat} {a b:α} (h:InsInv R d0 d i (j+1)) (ha:d[j+1]? = some a) (hb:d[j]? = some b) (hr:R b a):SortedUp R d (i+1):=by
 intro x y u v hxy hy hu hv
 by_cases hx:x=j+1
 · subst hx; exact h.up y u v hxy (by omega) hu hv
 · by_cases hy2:y=j+1
   · subst hy2
     rw [ha] at hv; injection hv with hv; subst hv
     by_cases hx2:x=j
     · subst hx2; rw [hb] at hu; injection hu with hu; subst hu; exact hr
     · exact ht u b a (h.ord x j u b (by omega) (by have:=h.ji; omega) hx (by omega) hu hb) hr
   · exact h.ord x y u v hxy (by omega) hx hy2 hu hv
def cmpT (a b:List UInt8):Int:=if ltT a b=true then -1 else if (!(ltT a b||a==b))=true then 1 else 0
theorem cmpT_neg {a b:List UInt8}:cmpT a b<0↔ltT a b=true:=by
 unfold cmpT
 by_cases h:ltT a b=true
 · simp [h]
 · rw [if_neg h]
   constructor
   · intro h2; split at h2<;>omega
   · intro h2; exact absurd h2 h
def tabD (d:List Nat) (s:Nat):List (GEnt Int):=match d with
 | []=>[]
 | i::r=>((i:Int),.int .i64 1,s)::tabD r (s+1)
theorem tabD_snoc:∀(d:List Nat) (i s:Nat),tabD (d++[i]) s=tabD d s++[((i:Int),.int .i64 1,s+d.length)]
 | [],i,s=>rfl
 | y::r,i,s=>by
   rw [List.cons_append,tabD,tabD_snoc r i,tabD,List.cons_append,List.length_cons,show s+1+r.length=s+(r.length+1) by omega]
theorem tabD_find (i:Nat):∀(d:List Nat) (s k:Nat),(gfind (i:Int) (tabD d s) k).map (·.2)=if d.contains i=true then some (.int .i64 1) else none
 | [],_,_=>rfl
 | x::r,s,k=>by
   rw [tabD,gfind]
   by_cases h:i=x
   · subst h; simp
   · rw [if_neg (by simpa using fun e:(i:Int)=(x:Int)=>h (by omega)),tabD_find i r (s+1) (k+1)]
     simp [h]
theorem tabD_get (i:Nat) (d:List Nat):gget (i:Int) (tabD d 0) (.int .i64 0) = .int .i64 (if d.contains i=true then 1 else 0):=by
 have h:=tabD_find i d 0 0
 unfold gget
 cases hf:gfind (i:Int) (tabD d 0) 0 with
 | none=>rw [hf] at h; split at h<;>simp_all
 | some r=>rw [hf] at h; split at h<;>simp_all
theorem tabD_put {i:Nat} {d:List Nat} (h:d.contains i=false):gput (i:Int) (.int .i64 1) (tabD d 0) d.length=tabD (d++[i]) 0∧gclock (i:Int) (tabD d 0) d.length=(d++[i]).length:=by
 have hf:=tabD_find i d 0 0
 rw [h,if_neg (by decide)] at hf
 have hf:gfind (i:Int) (tabD d 0) 0=none:=by simpa using hf
 unfold gput gclock
 rw [hf,tabD_snoc]
 simp
theorem best_of {l:List TMod} {d out:List Nat} {k b:Nat} (hp:d.Perm (List.range l.length)) (hs:SortedUp (ltN l) d d.length) (hk:d[k]? = some b) (hr:readyB l out b=true) (hno:∀x c,x<k→d[x]? = some c→readyB l out c=false):Best l out b:=by
 refine ⟨by simpa using hp.subset (List.mem_of_getElem? hk),hr,fun i hi hri=>?_⟩
 have hm:i ∈ d:=hp.symm.subset (by simpa using hi)
 obtain ⟨y,hy⟩:=List.getElem?_of_mem hm
 have hyl:=(List.getElem?_eq_some_iff.1 hy).1
 rcases Nat.lt_trichotomy y k with h | h | h
 · rw [hno y i h hy] at hri; cases hri
 · subst h; rw [hk] at hy; injection hy with hy; exact .inl hy.symm
 · exact .inr (hs k y b i h hyl hk hy)
theorem noReady_of {l:List TMod} {d out:List Nat} (hp:d.Perm (List.range l.length)) (hno:∀x c:Nat,d[x]? = some c→readyB l out c=false):NoReady l out:=fun i hi=>by
 have hm:i ∈ d:=hp.symm.subset (by simpa using hi)
 obtain ⟨y,hy⟩:=List.getElem?_of_mem hm
 exact hno y i hy
end Go.Bw
end
section
namespace Go.Bw
open Go Go.RowKit Go.Maps Go.Sort
open Go.WideElems (Fit rd rg pl rd_val rd_mk rg_of)
set_option linter.unusedVariables false
set_option linter.unusedSimpArgs false
def Rany:Value→Option (DataW Unit×List MemPlace):=fun _=>some (.map [],[])
structure MapOk (M:List (GEnt (List UInt8))) (c:Nat):Prop where
 nd:(M.map (·.1)).Nodup
 len:∀e ∈ M,e.1.length≤maxLen
 size:M.length≤maxLen
 born:M.map (·.2.2)=List.range M.length
 clock:c=M.length
theorem key_st {P:Program} {k:TypeId} (hk:P.underlying k=some .string) {x:List UInt8} (hx:x.length≤maxLen):keyOf P k (st x)=some (.string x):=by
 rw [keyOf_string hk]
 simp [mapKey,hk,st]
 exact hx
theorem ownsMap_gobj {P:Program} {k:TypeId} (hk:P.underlying k=some .string) {w:World} {b c:Nat} {M:List (GEnt (List UInt8))} (h:MapOk M c) (hb:w.heap[b]? = some (gobj st M c)) :
   ∃D0:DataW Unit,w.ownsMap P k Rany b M.length D0∧(strKeys D0).Perm (M.map (·.1))∧Maps.size D0=M.length:=by
 have hrd:∀e ∈ M,rd P k Rany (gent st e)=some (.string e.1,.map []):=fun e he=>rd_mk (R:=Rany) (val:=e.2.1) (born:=e.2.2) (yv:=(.map [],[])) (key_st hk (h.len e he)) rfl
 have hrg:((M.map (gent st)).toArray.toList.map (rg P k Rany))=M.map fun e=>(Lit.string e.1,(DataW.map []:DataW Unit)):=by
   simp only [List.map_map]
   exact List.map_congr_left fun e he=>rg_of (hrd e he)
 refine ⟨.map (((M.map (gent st)).toArray.toList.map (rg P k Rany)).foldr DataW.insert []),⟨(M.map (gent st)).toArray,c,hb,⟨?_,⟨?_,?_,?_⟩,?_⟩,by simp,rfl⟩,?_,?_⟩
 · simpa using h.size
 · intro x hx
   have hx:x ∈ M.map (gent st):=hx
   obtain ⟨e,he,rfl⟩:=List.mem_map.1 hx
   have:e.2.2 ∈ M.map (·.2.2):=List.mem_map.2 ⟨e,he,rfl⟩
   rw [h.born] at this
   rw [h.clock]
   simpa [gent] using this
 · have:((M.map (gent st)).toArray.toList.map (·.born))=M.map (·.2.2):=by simp [gent,Function.comp_def]
   rw [this,h.born]
   exact List.nodup_range
 · have:((M.map (gent st)).toArray.toList.map (·.key))=(M.map (·.1)).map st:=by simp [gent,Function.comp_def]
   rw [this]
   exact List.pairwise_map.2 (h.nd.imp fun hab e=>hab (by simpa [st] using e))
 · intro x hx
   have hx:x ∈ M.map (gent st):=hx
   obtain ⟨e,he,rfl⟩:=List.mem_map.1 hx
   exact ⟨_,hrd e he⟩
 · show ((List.foldr DataW.insert [] _).map fun p=>strOf p.1).Perm _
   rw [hrg]
   refine ((WideShapes.sorted_perm _).map _).trans ?_
   simp [Function.comp_def,strOf]
 · show (List.foldr DataW.insert [] _).length=_
   rw [length_sorted]
   simp
end Go.Bw
end
section
namespace Go.Bw
open Go
set_option linter.unusedVariables false
set_option linter.unusedSimpArgs false
section
variable {κ:Type} [BEq κ] [LawfulBEq κ]
theorem gfind_some (k:κ):∀(m:List (GEnt κ)) (i j:Nat) (v:Value),gfind k m i=some (j,v)→i≤j∧∃b,m[j-i]? = some (k,v,b)
 | [],i,j,v,h=>by simp [gfind] at h
 | e::r,i,j,v,h=>by
   simp only [gfind] at h
   split at h
   · rename_i he
     have he2:e.1=k:=(eq_of_beq he).symm
     injection h with h
     injection h with h1 h2
     subst h1 h2
     exact ⟨Nat.le_refl _,e.2.2,by rw [Nat.sub_self,List.getElem?_cons_zero,←he2]⟩
   · obtain ⟨h1,b,h2⟩:=gfind_some k r (i+1) j v h
     refine ⟨by omega,b,?_⟩
     rw [show j-i=(j-(i+1))+1 by omega,List.getElem?_cons_succ]
     exact h2
theorem gfind_none (k:κ):∀(m:List (GEnt κ)) (i:Nat),gfind k m i=none↔k ∉ m.map (·.1)
 | [],i=>by simp [gfind]
 | e::r,i=>by
   simp only [gfind,List.map_cons,List.mem_cons,not_or]
   split
   · rename_i he
     have he2:e.1=k:=(eq_of_beq he).symm
     exact ⟨fun h=>(by cases h),fun h=>absurd he2.symm h.1⟩
   · rename_i he
     have he2:¬k=e.1:=fun e2=>he (by simp [e2])
     rw [gfind_none k r (i+1)]
     exact ⟨fun h=>⟨he2,h⟩,fun h=>h.2⟩
theorem gput_keys (k:κ) (v:Value) (m:List (GEnt κ)) (c:Nat):((k ∈ m.map (·.1))∧(gput k v m c).map (·.1)=m.map (·.1)∧(gput k v m c).map (·.2.2)=m.map (·.2.2)∧gclock k m c=c)∨
   (k ∉ m.map (·.1)∧gput k v m c=m++[(k,v,c)]∧gclock k m c=c+1):=by
 unfold gput gclock
 cases hf:gfind k m 0 with
 | none=>exact .inr ⟨(gfind_none k m 0).1 hf,rfl,rfl⟩
 | some r=>
   obtain ⟨j,u⟩:=r
   obtain ⟨_,b,hb⟩:=gfind_some k m 0 j u hf
   rw [Nat.sub_zero] at hb
   refine .inl ⟨List.mem_map.2 ⟨_,List.mem_of_getElem? hb,rfl⟩,?_,?_,rfl⟩
   all_goals
     apply List.ext_getElem?
     intro i
     simp only [List.getElem?_map,List.getElem?_modify]
     by_cases hij:j=i
     · subst hij; rw [hb]; simp
     · simp [hij]
theorem gget_gput (k:κ) (v:Value) (m:List (GEnt κ)) (c:Nat) (z:Value):gget k (gput k v m c) z=v:=by
 have key:∃e,gfind k (gput k v m c) 0=some (e,v):=by
   unfold gput
   cases hf:gfind k m 0 with
   | none=>
     have h1:∀(m:List (GEnt κ)) (i:Nat),gfind k m i=none→gfind k (m++[(k,v,c)]) i=some (i+m.length,v):=by
       intro m
       induction m with
       | nil=>intro i _; simp [gfind]
       | cons e r ih=>
         intro i h
         simp only [gfind,List.cons_append] at h ⊢
         split at h
         · cases h
         · rename_i he
           rw [if_neg he,ih _ h,List.length_cons]
           congr 2
           omega
     exact ⟨_,h1 m 0 hf⟩
   | some r=>
     obtain ⟨j,u⟩:=r
     have h1:∀(m:List (GEnt κ)) (i:Nat),gfind k m i=some (j,u)→gfind k (m.modify (j-i) fun e=>(k,v,e.2.2)) i=some (j,v):=by
       intro m
       induction m with
       | nil=>intro i h; simp [gfind] at h
       | cons e r ih=>
         intro i h
         simp only [gfind] at h
         split at h
         · injection h with h
           injection h with h1 h2
           subst h1
           rw [Nat.sub_self]
           simp [gfind]
         · rename_i he
           have hle:=(gfind_some k r (i+1) j u h).1
           rw [show j-i=(j-(i+1))+1 by omega,List.modify_succ_cons,gfind,if_neg he]
           exact ih _ h
     exact ⟨_,h1 m 0 hf⟩
 obtain ⟨e,he⟩:=key
 unfold gget
 rw [he]
end
structure NeedSt (M:List (GEnt (List UInt8))) (c p:Nat):Prop where
 nd:(M.map (·.1)).Nodup
 born:M.map (·.2.2)=List.range M.length
 clock:c=M.length
 cnt:∀x v,gget x M (.int .i64 0)=v→∃n:Nat,n≤p∧v = .int .i64 (n:Int)∧(n=0↔x ∉ M.map (·.1))
theorem needSt_nil:NeedSt [] 0 0:=⟨by simp,rfl,rfl,fun x v h=>⟨0,Nat.le_refl _,h.symm,by simp⟩⟩
theorem gget_other {κ:Type} [BEq κ] [LawfulBEq κ] {k k':κ} (v:Value) (m:List (GEnt κ)) (c:Nat) (z:Value) (h:k'≠k):gget k' (gput k v m c) z=gget k' m z:=by
 have h1:∀(m:List (GEnt κ)) (i:Nat),(gfind k' (m++[(k,v,c)]) i).map (·.2)=(gfind k' m i).map (·.2):=by
   intro m
   induction m with
   | nil=>intro i; simp [gfind,h]
   | cons e r ih=>intro i; simp only [gfind,List.cons_append]; split<;>simp [ih]
 have h2:∀(m:List (GEnt κ)) (i j:Nat),(m[j]?.map (·.1)=some k)→(gfind k' (m.modify j fun e=>(k,v,e.2.2)) i).map (·.2)=(gfind k' m i).map (·.2):=by
   intro m
   induction m with
   | nil=>intro i j hj; simp at hj
   | cons e r ih=>
     intro i j hj
     cases j with
     | zero=>
       have hj2:e.1=k:=by simpa using hj
       have hne:¬(k'==e.1)=true:=by rw [hj2]; simpa using h
       have hne2:¬(k'==k)=true:=by simpa using h
       rw [List.modify_zero_cons,gfind,gfind,if_neg hne,if_neg (show ¬(k'==(k,v,e.2.2).1)=true from hne2)]
     | succ j=>
       rw [List.modify_succ_cons,gfind,gfind]
       split
       · rfl
       · exact ih _ _ (by simpa using hj)
 have h3:(gfind k' (gput k v m c) 0).map (·.2)=(gfind k' m 0).map (·.2):=by
   unfold gput
   cases hf:gfind k m 0 with
   | none=>exact h1 m 0
   | some r=>
     obtain ⟨j,u⟩:=r
     obtain ⟨_,b,hb⟩:=gfind_some k m 0 j u hf
     rw [Nat.sub_zero] at hb
     exact h2 m 0 j (by rw [hb]; rfl)
 unfold gget
 cases ha:gfind k' (gput k v m c) 0 with
 | none=>rw [ha] at h3; cases hb:gfind k' m 0 with | none=>rfl | some r=>rw [hb] at h3; cases h3
 | some q=>rw [ha] at h3; cases hb:gfind k' m 0 with
   | none=>rw [hb] at h3; cases h3
   | some r=>rw [hb] at h3; simp at h3; simp [h3]
theorem NeedSt.put {M:List (GEnt (List UInt8))} {c p n:Nat} {x:List UInt8} (h:NeedSt M c p) (hn:n≤p) (h0:n=0↔x ∉ M.map (·.1)) :
   NeedSt (gput x (.int .i64 ((n+1:Nat):Int)) M c) (gclock x M c) (p+1)∧(gput x (.int .i64 ((n+1:Nat):Int)) M c).map (·.1)=(if n=0 then M.map (·.1)++[x] else M.map (·.1)):=by
 have hcnt:∀y v,gget y (gput x (.int .i64 ((n+1:Nat):Int)) M c) (.int .i64 0)=v→∃k:Nat,k≤p+1∧v = .int .i64 (k:Int)∧(k=0↔y ∉ (if n=0 then M.map (·.1)++[x] else M.map (·.1))):=by
   intro y v hv
   by_cases hy:y=x
   · subst hy
     rw [gget_gput] at hv
     refine ⟨n+1,by omega,hv.symm,?_⟩
     split
     · simp
     · rename_i hne
       exact ⟨fun h=>by omega,fun h2=>absurd (h0.2 h2) hne⟩
   · rw [gget_other _ _ _ _ hy] at hv
     obtain ⟨k,h1,h2,h3⟩:=h.cnt y v hv
     refine ⟨k,by omega,h2,h3.trans ?_⟩
     split
     · simp [hy]
     · rfl
 rcases gput_keys x (.int .i64 ((n+1:Nat):Int)) M c with ⟨h1,h2,h3,h4⟩ | ⟨h1,h2,h3⟩
 · have hne:¬n=0:=fun e=>h0.1 e h1
   rw [if_neg hne] at hcnt ⊢
   have hlen:(gput x (.int .i64 ((n+1:Nat):Int)) M c).length=M.length:=by have:=congrArg List.length h2; simpa using this
   exact ⟨⟨by rw [h2]; exact h.nd,by rw [h3,hlen]; exact h.born,by rw [h4,hlen]; exact h.clock,fun y v hv=>by rw [h2]; exact hcnt y v hv⟩,h2⟩
 · have he:n=0:=h0.2 h1
   rw [if_pos he] at hcnt ⊢
   have hk:(gput x (.int .i64 ((n+1:Nat):Int)) M c).map (·.1)=M.map (·.1)++[x]:=by rw [h2]; simp
   refine ⟨⟨?_,?_,?_,fun y v hv=>by rw [hk]; exact hcnt y v hv⟩,hk⟩
   · rw [hk,List.nodup_append]
     exact ⟨h.nd,by simp,fun a ha b hb e=>by rw [List.mem_singleton] at hb; subst hb; subst e; exact h1 ha⟩
   · rw [h2,List.map_append,h.born,List.length_append,List.length_singleton,List.range_succ,h.clock]; rfl
   · rw [h3,h2,h.clock]; simp
structure NeedW (l:List TMod) (nm:List UInt8) (ds nx:List (List UInt8)):Prop where
 base:∀s ∈ usesN l nm,s ∈ ds∨s ∈ nx
 step:∀b ∈ ds,∀s ∈ usesN l b,s ∈ ds∨s ∈ nx
 sound:∀s,s ∈ ds∨s ∈ nx→Reach l nm s
theorem needW_start (l:List TMod) (nm:List UInt8):NeedW l nm [] (usesN l nm):=⟨fun s h=>.inr h,fun b h=>by simp at h,fun s h=>by
 rcases h with h | h
 · simp at h
 · exact .base h⟩
theorem NeedW.old {l:List TMod} {nm x:List UInt8} {ds r:List (List UInt8)} (h:NeedW l nm ds (x::r)) (hx:x ∈ ds):NeedW l nm ds r:=by
 have key:∀s,s ∈ ds∨s ∈ x::r→s ∈ ds∨s ∈ r:=fun s hs=>by
   rcases hs with hs | hs
   · exact .inl hs
   · rcases List.mem_cons.1 hs with e | hs
     · subst e; exact .inl hx
     · exact .inr hs
 exact ⟨fun s hs=>key s (h.base s hs),fun b hb s hs=>key s (h.step b hb s hs),fun s hs=>h.sound s (hs.imp id (List.mem_cons_of_mem _))⟩
theorem NeedW.new {l:List TMod} {nm x:List UInt8} {ds r:List (List UInt8)} (h:NeedW l nm ds (x::r)):NeedW l nm (ds++[x]) (r++usesN l x):=by
 have key:∀s,s ∈ ds∨s ∈ x::r→s ∈ ds++[x]∨s ∈ r++usesN l x:=fun s hs=>by
   rcases hs with hs | hs
   · exact .inl (List.mem_append_left _ hs)
   · rcases List.mem_cons.1 hs with e | hs
     · subst e; exact .inl (by simp)
     · exact .inr (List.mem_append_left _ hs)
 refine ⟨fun s hs=>key s (h.base s hs),fun b hb s hs=>?_,fun s hs=>?_⟩
 · rcases List.mem_append.1 hb with hb | hb
   · exact key s (h.step b hb s hs)
   · rw [List.mem_singleton] at hb; subst hb
     exact .inr (List.mem_append_right _ hs)
 · rcases hs with hs | hs
   · rcases List.mem_append.1 hs with hs | hs
     · exact h.sound s (.inl hs)
     · rw [List.mem_singleton] at hs; subst hs
       exact h.sound _ (.inr (by simp))
   · rcases List.mem_append.1 hs with hs | hs
     · exact h.sound s (.inr (List.mem_cons_of_mem _ hs))
     · exact .step (h.sound x (.inr (by simp))) hs
theorem NeedW.fin {l:List TMod} {nm:List UInt8} {ds:List (List UInt8)} (h:NeedW l nm ds []) (s:List UInt8):s ∈ ds↔Reach l nm s:=
 ClosedN.iff (S:=fun s=>s ∈ ds) ⟨fun s hs=>(h.base s hs).resolve_right (by simp),fun b hb s hs=>(h.step b hb s hs).resolve_right (by simp),fun s hs=>h.sound s (.inl hs)⟩ s
def remN (l:List TMod) (ds:List (List UInt8)):Nat:=((List.range l.length).map fun i=>if nmAt l i ∈ ds then 0 else (usesAt l i).length).sum
theorem sum_but {f g:Nat→Nat} {j a:Nat}:∀{r:List Nat},r.Nodup→j ∈ r→(∀i ∈ r,i≠j→f i=g i)→f j=g j+a→(r.map f).sum=(r.map g).sum+a
 | [],_,h,_,_=>by simp at h
 | x::r,hn,hj,he,ha=>by
   rw [List.map_cons,List.map_cons,List.sum_cons,List.sum_cons]
   obtain ⟨hx,hn2⟩:=List.nodup_cons.1 hn
   rcases List.mem_cons.1 hj with e | hj
   · subst e
     have:r.map f=r.map g:=List.map_congr_left fun i hi=>he i (by simp [hi]) (fun e=>hx (e▸hi))
     rw [this,ha]; omega
   · rw [sum_but hn2 hj (fun i hi=>he i (by simp [hi])) ha,he x (by simp) (fun e=>hx (e▸hj))]; omega
theorem remN_step {l:List TMod} (hn:(namesL l).Nodup) {x:List UInt8} {ds:List (List UInt8)} {j:Nat} (hj:placeL l x=some j) (hx:x ∉ ds):remN l ds=remN l (ds++[x])+(usesAt l j).length:=by
 obtain ⟨hlt,hnm⟩:=placeL_at hj
 refine sum_but (j:=j) List.nodup_range (by simpa using hlt) (fun i hi hij=>?_) ?_
 · have hne:nmAt l i≠x:=fun e=>hij (nm_inj hn (by simpa using hi) hlt (e.trans hnm.symm))
   simp [hne]
 · rw [hnm,if_neg hx,if_pos (by simp)]; omega
theorem remN_le {l:List TMod} {k:Nat} (h:∀m ∈ l,m.uses.length≤k) (ds:List (List UInt8)):remN l ds≤l.length*k:=by
 have:∀r:List Nat,(∀i ∈ r,i<l.length)→(r.map fun i=>if nmAt l i ∈ ds then 0 else (usesAt l i).length).sum≤r.length*k:=by
   intro r
   induction r with
   | nil=>intro _; simp
   | cons x r ih=>
     intro hr
     have h1:=ih fun i hi=>hr i (by simp [hi])
     have h2:(if nmAt l x ∈ ds then 0 else (usesAt l x).length)≤k:=by
       split
       · omega
       · have hlt:=hr x (by simp)
         rw [usesAt_get (List.getElem?_eq_getElem hlt)]
         exact h _ (List.getElem_mem hlt)
     rw [List.map_cons,List.sum_cons,List.length_cons,Nat.add_mul]
     omega
 have:=this (List.range l.length) (by simp)
 simpa [remN] using this
theorem ltT_iff:∀x y:List UInt8,ltT x y=true↔x<y
 | [],[]=>by simp [ltT,Op.bytesLess]
 | [],_::_=>by simp [ltT,Op.bytesLess]
 | _::_,[]=>by simp [ltT,Op.bytesLess]
 | a::x,b::y=>by
   rw [ltT_cons,List.cons_lt_cons_iff,←ltT_iff x y]
   simp
theorem sortedT_merge {ks:List (List UInt8)} (hn:ks.Nodup):SortedT (ks.mergeSort fun x y=>decide (x≤y))∧∀s,s ∈ ks.mergeSort (fun x y=>decide (x≤y))↔s ∈ ks:=by
 refine ⟨?_,fun s=>(List.mergeSort_perm ks _).mem_iff⟩
 have h1:(ks.mergeSort fun x y=>decide (x≤y)).Pairwise fun x y=>decide (x≤y)=true:=List.pairwise_mergeSort (fun a b c h1 h2=>by simp only [decide_eq_true_eq] at *; exact List.le_trans h1 h2) (fun a b=>by simp only [Bool.or_eq_true,decide_eq_true_eq]; exact List.le_total a b) ks
 have h2:(ks.mergeSort fun x y=>decide (x≤y)).Nodup:=(List.mergeSort_perm ks _).nodup_iff.2 hn
 refine (h1.and h2).imp fun {a b} hab=>?_
 rcases ltT_tri a b hab.2 with h | h
 · exact h
 · have hle:a≤b:=by simpa using hab.1
   exact absurd ((ltT_iff b a).1 h) (List.not_lt.2 hle)
end Go.Bw
end
section
namespace Go.Bw
open Go
set_option linter.unusedVariables false
set_option linter.unusedSimpArgs false
def SubM (a b:List Bool):Prop:=∀j:Nat,a[j]? = some true→b[j]? = some true
theorem SubM.refl (a:List Bool):SubM a a:=fun _ h=>h
theorem SubM.count:∀{a b:List Bool},a.length=b.length→SubM a b→a.count true≤b.count true∧(b.count true≤a.count true→a=b)
 | [],[],_,_=>⟨Nat.le_refl _,fun _=>rfl⟩
 | [],_::_,h,_=>by cases h
 | _::_,[],h,_=>by cases h
 | x::a,y::b,h,hs=>by
   obtain ⟨h1,h2⟩:=SubM.count (a:=a) (b:=b) (by simpa using h) fun j hj=>by simpa using hs (j+1) (by simpa using hj)
   have h0:x=true→y=true:=fun e=>by simpa using hs 0 (by simp [e])
   cases x<;>cases y<;>simp at h0 ⊢
   · exact ⟨h1,h2⟩
   · exact ⟨by omega,by omega⟩
   · exact ⟨h1,h2⟩
theorem SubM.set (a:List Bool) (p:Nat):SubM a (a.set p true):=fun j h=>by
 have hlt:=(List.getElem?_eq_some_iff.1 h).1
 rw [List.getElem?_set]
 by_cases e:p=j
 · subst e; simp [hlt]
 · rw [if_neg e]; exact h
theorem SubM.trans {a b c:List Bool} (h:SubM a b) (k:SubM b c):SubM a c:=fun j hj=>k j (h j hj)
def actM (l:List TMod) (nm:List UInt8) (S:List Bool) (j:Nat):Prop:=S[j]? = some true∨nmAt l j=nm
def metM (l:List TMod) (S:List Bool) (s:List UInt8):Prop:=∃p,placeL l s=some p∧S[p]? = some true
theorem metM.sub {l:List TMod} {a b:List Bool} {s:List UInt8} (h:metM l a s) (hs:SubM a b):metM l b s:=let ⟨p,h1,h2⟩:=h; ⟨p,h1,hs p h2⟩
def ClosedM (l:List TMod) (nm:List UInt8) (S:List Bool):Prop:=∀j,j<l.length→actM l nm S j→∀s ∈ usesAt l j,metM l S s
structure MkOk (l:List TMod) (nm:List UInt8) (S:List Bool):Prop where
 len:S.length=l.length
 sound:∀j,S[j]? = some true→Go.Bw.Reach l nm (nmAt l j)
structure RoundM (l:List TMod) (nm:List UInt8) (S0 S:List Bool) (j:Nat):Prop where
 ok:MkOk l nm S
 sub:SubM S0 S
 same:ClosedM l nm S0→S=S0
 done:∀i,i<j→actM l nm S0 i→∀s ∈ usesAt l i,metM l S s
def ltR (a b:List UInt8):Prop:=ltT a b=true
def mkNames (l:List TMod) (S:List Bool) (i:Nat):List (List UInt8):=((List.range i).filter fun j=>(S[j]?).getD false).map (nmAt l)
structure NamesM (l:List TMod) (S:List Bool) (i:Nat) (out:List (List UInt8)):Prop where
 perm:out.Perm (mkNames l S i)
 up:SortedUp ltR out out.length
end Go.Bw
end
