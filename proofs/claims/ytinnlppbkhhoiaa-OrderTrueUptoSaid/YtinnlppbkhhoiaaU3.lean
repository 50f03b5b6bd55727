/- Each module stands behind all that it needs, and the order does not hang on how the modules were told, where what is handed in has a bulk of at most 1048576 (the second form). -/
import Derived.JoinedCond
import Derived.OpenShut
import Derived.ProofKit
import Derived.Test.YtinnlppbkhhoiaaRows
import Derived.WalkKit
import Derived.Test.YtinnlppbkhhoiaaU2
set_option linter.unusedVariables false
set_option linter.unusedSimpArgs false
section
namespace Go.Proofs.Ytinnlppbkhhoiaa
open Go.Bw
set_option linter.unusedVariables false
set_option linter.unusedSimpArgs false
open Go.ChangeShapes Go.WideShapes Go.ChangeAt Go.RowKit Go.Joins Go.Deep
theorem own:ownKnob Try.prog.godebug=none:=by kernel_rfl
theorem laidOut:laidOutB Try.prog=true:=by kernel_rfl
theorem modTy:∃e s d p m,ModTy Try.prog 108 104 80 83 39 102 37 35 36 27 e s d p m 3 4 9:=⟨_,_,_,_,_,⟨Try.underlying3,Try.underlying4,Try.underlying9,(by kernel_rfl),Try.underlying108,(by kernel_rfl),(by simp),Try.underlying102,Try.underlying104,(by kernel_rfl),(by simp),Try.underlying37,Try.underlying80,(by kernel_rfl),(by simp),Try.underlying35,Try.underlying83,(by kernel_rfl),(by simp),Try.underlying36,Try.underlying27,Try.underlying39,(by kernel_rfl),(by simp)⟩⟩
def bulkOf (H:Type):Bulk H:=⟨Rows.uptoBulk,Rows.uptoBulkAll,fun l=>by simp [Rows.uptoBulk],fun l=>by simp [Rows.uptoBulk],fun l r=>by simp only [Rows.uptoBulk]; omega,by simp [Rows.uptoBulkAll],fun d r=>by simp [Rows.uptoBulkAll]⟩
end Go.Proofs.Ytinnlppbkhhoiaa
end
section
namespace Go.Bw
open Go
set_option linter.unusedVariables false
set_option linter.unusedSimpArgs false
theorem takeSnoc {α:Type} {l:List α} {k:Nat} {x:α} (h:l[k]? = some x):l.take (k+1)=l.take k++[x]:=by rw [List.take_add_one,h]; rfl
theorem greedy_at {l:List TMod} {d:List Nat} (h:Greedy l d) {k x:Nat} (hk:d[k]? = some x):readyB l (d.take k) x=true:=by
 have h1:=greedy_take h (k+1)
 rw [takeSnoc hk] at h1
 exact (greedy_inv h1).2.ready
theorem ready_uses {l:List TMod} {d:List Nat} {x:Nat} (h:readyB l d x=true) {s:List UInt8} (hs:s ∈ usesAt l x):∃p,placeL l s=some p∧p ∈ d:=by
 unfold readyB at h
 have h2:=List.all_eq_true.1 (Bool.and_eq_true_iff.1 h).2 s hs
 unfold doneS at h2
 split at h2
 · rename_i j hj; exact ⟨j,hj,by simpa using h2⟩
 · cases h2
theorem reach_before {l:List TMod} (hn:(namesL l).Nodup) {d:List Nat} (h:Greedy l d) {k x:Nat} (hk:d[k]? = some x) {s:List UInt8} (hr:Go.Bw.Reach l (nmAt l x) s):∃p,placeL l s=some p∧p ∈ d.take k:=by
 have hx:x<l.length:=(greedy_lt h).1 x (List.mem_of_getElem? hk)
 induction hr with
 | base hs=>
   unfold usesN at hs
   rw [place_nm hn hx] at hs
   exact ready_uses (greedy_at h hk) hs
 | step _ hs ih=>
   obtain ⟨q,hq,hm⟩:=ih
   unfold usesN at hs
   rw [hq] at hs
   obtain ⟨k',hk'⟩:=List.getElem?_of_mem hm
   rw [List.getElem?_take] at hk'
   split at hk'
   · rename_i hlt
     obtain ⟨p,hp,hpm⟩:=ready_uses (greedy_at h hk') hs
     refine ⟨p,hp,?_⟩
     have:(d.take k).take k'=d.take k':=by rw [List.take_take,Nat.min_eq_left (by omega)]
     rw [←this] at hpm
     exact List.mem_of_mem_take hpm
   · cases hk'
theorem sum_count:∀{A B:List (List UInt8)},A.Nodup→(∀b ∈ B,b ∈ A)→(A.map fun x=>B.count x).sum=B.length
 | A,[],_,_=>by
   have h0:∀A':List (List UInt8),(A'.map fun x=>([]:List (List UInt8)).count x).sum=0:=by
     intro A'
     induction A' with
     | nil=>rfl
     | cons x r ih=>rw [List.map_cons,List.sum_cons,ih]; rfl
   exact h0 A
 | A,b::r,hn,h=>by
   have ih:=sum_count (A:=A) (B:=r) hn fun c hc=>h c (by simp [hc])
   have hb:=h b (by simp)
   have key:∀A':List (List UInt8),A'.Nodup→(A'.map fun x=>(b::r).count x).sum=(A'.map fun x=>r.count x).sum+if b ∈ A' then 1 else 0:=by
     intro A'
     induction A' with
     | nil=>intro _; simp
     | cons x t ih2=>
       intro hn2
       obtain ⟨h1,h2⟩:=List.nodup_cons.1 hn2
       rw [List.map_cons,List.map_cons,List.sum_cons,List.sum_cons,ih2 h2,List.count_cons]
       by_cases e:b=x
       · subst e
         simp [h1]
         omega
       · have e2:¬(b==x)=true:=by simpa using e
         rw [if_neg e2]
         by_cases hm:b ∈ t
         · rw [if_pos hm,if_pos (by simp [hm])]; omega
         · rw [if_neg hm,if_neg (by simp [e,hm])]; omega
   rw [key A hn,ih,if_pos hb,List.length_cons]
structure Ren (l l':List TMod) (f:Nat→Nat):Prop where
 len:l'.length=l.length
 inv:∀k,f (f k)=k
 lt:∀k,k<l.length→f k<l.length
 get:∀k,k<l.length→l'[f k]? = l[k]?
theorem Ren.nm {l l':List TMod} {f:Nat→Nat} (h:Ren l l' f) {k:Nat} (hk:k<l.length):nmAt l' (f k)=nmAt l k:=by unfold nmAt; rw [h.get k hk]
theorem Ren.us {l l':List TMod} {f:Nat→Nat} (h:Ren l l' f) {k:Nat} (hk:k<l.length):usesAt l' (f k)=usesAt l k:=by unfold usesAt; rw [h.get k hk]
theorem Ren.back {l l':List TMod} {f:Nat→Nat} (h:Ren l l' f):Ren l' l f:=⟨h.len.symm,h.inv,fun k hk=>by rw [h.len] at hk ⊢; exact h.lt k hk,fun k hk=>by
 rw [h.len] at hk
 have:=h.get (f k) (h.lt k hk)
 rw [h.inv] at this
 exact this.symm⟩
theorem Ren.mem {l l':List TMod} {f:Nat→Nat} (h:Ren l l' f) {m:TMod} (hm:m ∈ l):m ∈ l':=by
 obtain ⟨k,hk⟩:=List.getElem?_of_mem hm
 have hlt:=(List.getElem?_eq_some_iff.1 hk).1
 rw [←h.get k hlt] at hk
 exact List.mem_of_getElem? hk
theorem Ren.nodup {l l':List TMod} {f:Nat→Nat} (h:Ren l l' f) (hn:(namesL l).Nodup):(namesL l').Nodup:=by
 unfold List.Nodup
 rw [List.pairwise_iff_getElem]
 intro i j hi hj hij e
 rw [names_len] at hi hj
 have h1:nmAt l' i=nmAt l' j:=by
   have e1:=names_get (List.getElem?_eq_getElem hi)
   have e2:=names_get (List.getElem?_eq_getElem hj)
   rw [List.getElem?_eq_getElem (by rw [names_len]; exact hi)] at e1
   rw [List.getElem?_eq_getElem (by rw [names_len]; exact hj)] at e2
   injection e1 with e1
   injection e2 with e2
   rw [nmAt_get (List.getElem?_eq_getElem hi),nmAt_get (List.getElem?_eq_getElem hj),←e1,←e2,e]
 have hb:=h.back
 rw [←hb.nm hi,←hb.nm hj] at h1
 have h2:=nm_inj hn (by have:=hb.lt i hi; rw [h.len] at this; exact this) (by have:=hb.lt j hj; rw [h.len] at this; exact this) h1
 have h3:=congrArg f h2
 rw [h.inv,h.inv] at h3
 omega
theorem Ren.place {l l':List TMod} {f:Nat→Nat} (h:Ren l l' f) (hn:(namesL l).Nodup) {s:List UInt8} {p:Nat} (hp:placeL l s=some p):placeL l' s=some (f p):=by
 obtain ⟨h1,h2⟩:=placeL_at hp
 have h3:=place_nm (h.nodup hn) (i:=f p) (by rw [h.len]; exact h.lt p h1)
 rw [h.nm h1,h2] at h3
 exact h3
theorem Ren.ok {l l':List TMod} {f:Nat→Nat} (h:Ren l l' f) (ho:OrdOk l):OrdOk l':=
 ⟨by rw [h.len]; exact ho.few,fun m hm=>ho.mods m (h.back.mem hm),h.nodup ho.nd,fun m hm s hs=>by
   obtain ⟨p,hp⟩:=ho.uses m (h.back.mem hm) s hs
   exact ⟨f p,h.place ho.nd hp⟩⟩
theorem Ren.contains {l l':List TMod} {f:Nat→Nat} (h:Ren l l' f) (d:List Nat) (x:Nat):(d.map f).contains (f x)=d.contains x:=by
 rw [Bool.eq_iff_iff]
 simp only [List.contains_iff_mem,List.mem_map]
 constructor
 · rintro ⟨y,hy,e⟩
   have:=congrArg f e
   rw [h.inv,h.inv] at this
   rw [←this]; exact hy
 · exact fun hx=>⟨x,hx,rfl⟩
theorem Ren.ready {l l':List TMod} {f:Nat→Nat} (h:Ren l l' f) (ho:OrdOk l) (d:List Nat) {x:Nat} (hx:x<l.length):readyB l' (d.map f) (f x)=readyB l d x:=by
 unfold readyB
 rw [h.contains,h.us hx]
 congr 1
 have key:∀u:List (List UInt8),(∀s ∈ u,∃p,placeL l s=some p)→u.all (doneS l' (d.map f))=u.all (doneS l d):=by
   intro u
   induction u with
   | nil=>intro _; rfl
   | cons s r ih=>
     intro hu
     obtain ⟨p,hp⟩:=hu s (by simp)
     rw [List.all_cons,List.all_cons,ih fun s hs=>hu s (by simp [hs])]
     congr 1
     unfold doneS
     rw [hp,h.place ho.nd hp]
     exact h.contains d p
 refine key _ fun s hs=>?_
 rw [usesAt_get (List.getElem?_eq_getElem hx)] at hs
 exact ho.uses _ (List.getElem_mem hx) s hs
theorem Ren.greedy {l l':List TMod} {f:Nat→Nat} (h:Ren l l' f) (ho:OrdOk l) {d:List Nat} (hd:Greedy l d):Greedy l' (d.map f):=by
 induction hd with
 | nil=>exact .nil
 | @snoc d b h1 h2 ih=>
   rw [List.map_append]
   refine .snoc ih ⟨by rw [h.len]; exact h.lt b h2.lt,by rw [h.ready ho d h2.lt]; exact h2.ready,fun i hi hr=>?_⟩
   rw [h.len] at hi
   have hfi:=h.lt i hi
   have e:f (f i)=i:=h.inv i
   rw [←e,h.ready ho d hfi] at hr
   rcases h2.least (f i) hfi hr with h3 | h3
   · left; rw [←e,h3]
   · right
     rw [h.nm h2.lt,←e,h.nm hfi]
     exact h3
def swp (i j k:Nat):Nat:=if k=i then j else if k=j then i else k
theorem ren_swap {l:List TMod} {i j:Nat} {x y:TMod} (hi:l[i]? = some x) (hj:l[j]? = some y):Ren l ((l.set i y).set j x) (swp i j):=by
 have hli:=(List.getElem?_eq_some_iff.1 hi).1
 have hlj:=(List.getElem?_eq_some_iff.1 hj).1
 refine ⟨by simp,fun k=>?_,fun k hk=>?_,fun k hk=>?_⟩
 · unfold swp
   by_cases h1:k=i
   · subst h1
     by_cases h2:j=k
     · subst h2; simp
     · simp [h2]
   · by_cases h2:k=j
     · subst h2; simp [h1]
     · simp [h1,h2]
 · unfold swp
   split
   · exact hlj
   · split
     · exact hli
     · exact hk
 · unfold swp
   rw [List.getElem?_set]
   by_cases h1:k=i
   · subst h1
     rw [if_pos rfl,if_pos rfl]
     simp [hlj,hi]
   · rw [if_neg h1]
     by_cases h2:k=j
     · subst h2
       rw [if_pos rfl,if_neg h1,List.getElem?_set]
       simp [hli,hj]
     · rw [if_neg h2,if_neg (fun e=>h2 e.symm),List.getElem?_set,if_neg (fun e=>h1 e.symm)]
end Go.Bw
end
section
namespace Go.Bw
open Go
set_option linter.unusedVariables false
set_option linter.unusedSimpArgs false
def chooseN (n m:Int):Int:=(if n<0 then IntKind.i64.wrap (-(IntKind.i64.wrap (n+1))) else n).tmod m
theorem chooseN_in {n m:Int} (h : -9223372036854775808≤n) (h2:n≤9223372036854775807) (hm:0<m):0≤chooseN n m∧chooseN n m<m:=by
 unfold chooseN
 by_cases hn:n<0
 · rw [if_pos hn,wrap_in (n:=n+1) (by omega),wrap_in (by omega)]
   exact ⟨Int.tmod_nonneg _ (by omega),Int.tmod_lt_of_pos _ (by omega)⟩
 · rw [if_neg hn]
   exact ⟨Int.tmod_nonneg _ (by omega),Int.tmod_lt_of_pos _ (by omega)⟩
theorem chooseN_nat {n:Int} {k:Nat} (h : -9223372036854775808≤n∧n≤9223372036854775807) (hk:0<k):∃j:Nat,j<k∧chooseN n (k:Int)=(j:Int):=by
 obtain ⟨h1,h2⟩:=chooseN_in h.1 h.2 (m:=(k:Int)) (by omega)
 exact ⟨(chooseN n (k:Int)).toNat,by omega,by omega⟩
end Go.Bw
end
section
namespace Go.Bw
open Go
set_option linter.unusedVariables false
set_option linter.unusedSimpArgs false
theorem perm_mem {l:List TMod} {d:List Nat} (h:Greedy l d) (hl:d.length=l.length) {i:Nat} (hi:i<l.length):i ∈ d:=by
 obtain ⟨h1,h2⟩:=greedy_lt h
 by_cases hm:i ∈ d
 · exact hm
 · have:=nodup_le (n:=l.length) (d:=i::d) (List.nodup_cons.2 ⟨hm,h2⟩) fun j hj=>by
     rcases List.mem_cons.1 hj with e | hj
     · subst e; exact hi
     · exact h1 j hj
   rw [List.length_cons] at this
   omega
theorem seen_all {l:List TMod} (hn:(namesL l).Nodup) {d:List Nat} (h:Greedy l d) {k i:Nat} (hk:d[k]? = some i) {ns:List (List UInt8)} (hm:∀s,s ∈ ns↔Go.Bw.Reach l (nmAt l i) s) :
   ((d.take k).map fun x=>ns.count (nmAt l x)).sum=ns.length:=by
 have hlt:=(greedy_lt h).1
 have key:=sum_count (A:=(d.take k).map (nmAt l)) (B:=ns) (by
   unfold List.Nodup
   rw [List.pairwise_map]
   have h2:(d.take k).Nodup:=(List.take_sublist k d).nodup (greedy_lt h).2
   exact List.Pairwise.imp_of_mem (fun ha hb hab e=>hab (nm_inj hn (hlt _ (List.mem_of_mem_take ha)) (hlt _ (List.mem_of_mem_take hb)) e)) h2) fun b hb=>by
   obtain ⟨p,hp,hpm⟩:=reach_before hn h hk ((hm b).1 hb)
   exact List.mem_map.2 ⟨p,hpm,(placeL_at hp).2⟩
 rw [List.map_map] at key
 exact key
theorem sum_snoc {f:Nat→Nat} {d:List Nat} {k x:Nat} (h:d[k]? = some x):((d.take (k+1)).map f).sum=((d.take k).map f).sum+f x:=by rw [takeSnoc h]; simp
theorem count_snoc {ns:List (List UInt8)} {j:Nat} {s u:List UInt8} (h:ns[j]? = some u):(ns.take (j+1)).count s=(ns.take j).count s+if (s==u)=true then 1 else 0:=by
 rw [takeSnoc h,List.count_append,List.count_singleton]
 by_cases e:s=u
 · subst e; simp
 · have e2:¬u=s:=fun h=>e h.symm
   simp [e,e2]
theorem swap_ended {l l':List TMod} {f:Nat→Nat} (h:Ren l l' f) (ho:OrdOk l) {d:List Nat} (hd:Greedy l d) (hl:d.length=l.length):Ended l' (d.map f):=
 ⟨h.greedy ho hd,.inl (by rw [List.length_map,hl,h.len])⟩
def dgN (d:List Nat) (k:Nat):Int:=(((d[k]?).getD 0:Nat):Int)
theorem dgN_get {d:List Nat} {k x:Nat} (h:d[k]? = some x):dgN d k=(x:Int):=by unfold dgN; rw [h]; rfl
theorem choices {α β:Type} {p:Nat→α→β→Prop}:∀(l:List α) (s:Nat),(∀i x,l[i]? = some x→∃r,p (s+i) x r)→∃ys:List (α×β),ys.map (·.1)=l∧∀(i:Nat) y,ys[i]? = some y→p (s+i) y.1 y.2
 | [],_,_=>⟨[],rfl,fun i y h=>by simp at h⟩
 | x::l,s,h=>by
   obtain ⟨r,hr⟩:=h 0 x rfl
   obtain ⟨ys,h1,h2⟩:=choices l (s+1) fun i y hy=>by
     obtain ⟨r,hr⟩:=h (i+1) y hy
     exact ⟨r,by rw [show s+1+i=s+(i+1) by omega]; exact hr⟩
   refine ⟨(x,r)::ys,by simp [h1],fun i y hy=>?_⟩
   cases i with
   | zero=>simp at hy; subst hy; exact hr
   | succ i=>rw [show s+(i+1)=s+1+i by omega]; exact h2 i y (by simpa using hy)
end Go.Bw
end
section
namespace Go.Bw
open Go Go.RowKit
set_option linter.unusedVariables false
set_option linter.unusedSimpArgs false
section
variable {P:Program} {l:List (Nat×Value)} {W:World→Prop} {w0:World} {F:List Nat} {L:List Asr} {Vs:List View}
 {d:Option Tmp} {ty:TypeId} {pos:String} {af:Array Edge} {g:Option (Nat×Bool)}
theorem yl_ldaT {α:Type} {f:α→List Value} {t e:TypeId} {x:Operand} {b o p k c:Nat} {a:Option Addr} {xs:List α} {y:α} (i j:Nat) (hx:opv l x=some (.pointer (some ⟨b,p,none⟩))) (hL:L[i]? = some (osT e k f a c xs)) (ha:a=some ⟨b,o,none⟩)
   (hp:p=o+j*k) (hf:∀x,(f x).length=k) (hy:xs[j]? = some y) (ht:aggOf P t=some k):Yl P l (Ws w0 F L Vs) ⟨d,.load t x,ty,pos,af,g⟩ (.agg (f y).toArray):=yl_ldac ht hx (hf y) fun w hw q v hq=>by
 obtain ⟨rfl,cur,hb,hxs,hcs,hm⟩:=osT_holds (hw.kn _ (mem_of_idx hL)) ha
 refine cell_of_heap hb ?_
 have hqk:q<k:=by have:=(List.getElem?_eq_some_iff.1 hq).1; rw [hf] at this; exact this
 have h6:(xs.flatMap f)[j*k+q]? = some v:=by rw [flat_get hf hy hqk]; exact hq
 rw [←hxs,List.getElem?_take] at h6
 split at h6
 · subst hp; simpa [cellIn,Nat.add_assoc] using h6
 · cases h6
theorem yl_geT {t u:TypeId} {x y:Operand} {k:IntKind} {a b:Int} (hx:opv l x=some (.int k a)) (hy:opv l y=some (.int k b)) (h:b≤a):Yl P l W ⟨d,.binOp .geq t x y u,ty,pos,af,g⟩ (.bool true):=by
 have:=yl_ge (P:=P) (W:=W) (d:=d) (t:=t) (u:=u) (ty:=ty) (pos:=pos) (af:=af) (g:=g) hx hy
 rwa [decide_eq_true h] at this
theorem yl_geF {t u:TypeId} {x y:Operand} {k:IntKind} {a b:Int} (hx:opv l x=some (.int k a)) (hy:opv l y=some (.int k b)) (h:a<b):Yl P l W ⟨d,.binOp .geq t x y u,ty,pos,af,g⟩ (.bool false):=by
 have:=yl_ge (P:=P) (W:=W) (d:=d) (t:=t) (u:=u) (ty:=ty) (pos:=pos) (af:=af) (g:=g) hx hy
 rwa [decide_eq_false (by omega)] at this
end
end Go.Bw
end
section
namespace Go.Proofs.Ytinnlppbkhhoiaa
open Go.Bw
set_option linter.unusedVariables false
set_option linter.unusedSimpArgs false
theorem en13:Enters Try.prog 13:=enters_of Try.func13 (by kernel_rfl) rfl
theorem choose_any (n m:Int) (hm:m≠0) (w:World) :
   Calls Try.prog 13 #[.int .i64 n,.int .i64 m] w fun e w'=>e = .returned (.int .i64 (chooseN n m))∧Ext w w':=by
 refine enter Try.func13 rfl 13 rfl rfl ?_
 refine CWd (W':=Ws w [] [] []) (fun _ e=>by subst e; exact Ws.init (by simp)) ?_
 refine Cs (Cr ?_)
 refine V0 (Ya rfl) ?_
 refine Ln (Et (Cs (Cs (Cr ?_))))
 refine V0 (Ym rfl) ?_
 refine V0 (yl_lt rfl rfl) ?_
 refine Ln (Et ?_)
 refine Cc rfl (fun hc0=>?_) (fun hc0=>?_)
 ·
  refine Cr ?_
  refine V0 (Ym rfl) ?_
  refine V0 (yl_addw rfl rfl) ?_
  refine V0 (yl_neg rfl) ?_
  refine V0 (Ya rfl) ?_
  refine Ln (Et (Cs (Cr ?_)))
  refine V0 (Ym rfl) ?_
  refine V0 (Ym rfl) ?_
  refine V0 (yl_rem rfl rfl hm) ?_
  refine V0 (Ya rfl) ?_
  refine Ln (Et (Crt ?_))
  refine WE.ret1 rfl rfl fun w' hw=>?_
  exact ⟨by rw [chooseN,if_pos (by simpa using hc0)],hw.fr⟩
 ·
  refine Ck (Et (Cs (Cr ?_)))
  refine V0 (Ym rfl) ?_
  refine V0 (Ym rfl) ?_
  refine V0 (yl_rem rfl rfl hm) ?_
  refine V0 (Ya rfl) ?_
  refine Ln (Et (Crt ?_))
  refine WE.ret1 rfl rfl fun w' hw=>?_
  exact ⟨by rw [chooseN,if_neg (by simpa using hc0)],hw.fr⟩
end Go.Proofs.Ytinnlppbkhhoiaa
end
section
namespace Go.Proofs.Ytinnlppbkhhoiaa
open Go.Bw
set_option linter.unusedVariables false
set_option linter.unusedSimpArgs false
abbrev MP:=TMod×MAt
def mpC (x:MP):List Value:=modV x.1 x.2
theorem mpC_len (x:MP):(mpC x).length=5:=rfl
theorem mpC_one (x:MP):(mpC x).all (·.oneCell')=true:=rfl
def rdMP (ke ks:Nat) (H:View) (b o:Nat) (x:MP):Prop:=RdC H b o (mpC x)∧RdM ke ks H x.2 x.1
theorem sl_pairs {ke ks:Nat} {H:View} {a:Option Addr} {c:Nat} {l:List TMod} (h:Sl (rdMod ke ks) 5 H a c l):∃ys:List MP,ys.map (·.1)=l∧Sl (rdMP ke ks) 5 H a c ys:=by
 obtain ⟨ys,h1,h2⟩:=choices (β:=MAt) (p:=fun i x r=>∃b o,a=some ⟨b,o,none⟩∧RdC H b (o+i*5) (modV x r)∧RdM ke ks H r x) l 0 fun i x hx=>by
   obtain ⟨b,o,ha,r,hr,hm⟩:=h.elt i x hx
   exact ⟨r,b,o,ha,by rw [Nat.zero_add]; exact hr,hm⟩
 have hl:ys.length=l.length:=by rw [←h1,List.length_map]
 refine ⟨ys,h1,by rw [hl]; exact h.cap,h.max,h.spot,fun i y hy=>?_⟩
 obtain ⟨b,o,ha,hr,hm⟩:=h2 i y hy
 rw [Nat.zero_add] at hr
 exact ⟨b,o,ha,hr,hm⟩
theorem sl_unpair {ke ks:Nat} {H:View} {a:Option Addr} {c:Nat} {ys:List MP} (h:Sl (fun H b o x=>RdC H b o (mpC x)) 5 H a c ys) (hm:∀y ∈ ys,RdM ke ks H y.2 y.1):Sl (rdMod ke ks) 5 H a c (ys.map (·.1)):=by
 refine ⟨by rw [List.length_map]; exact h.cap,h.max,h.spot,fun i x hx=>?_⟩
 rw [List.getElem?_map] at hx
 obtain ⟨y,hy,rfl⟩:=Option.map_eq_some_iff.1 hx
 obtain ⟨b,o,ha,hr⟩:=h.elt i y hy
 exact ⟨b,o,ha,y.2,hr,hm y (List.mem_of_getElem? hy)⟩
theorem RdM_mono {H H':View} (hH:VLe H H') {ke ks:Nat} {r:MAt} {m:TMod} (h:RdM ke ks H r m):RdM ke ks H' r m:=
 ⟨h.uses.imp fun _ _ _ h=>RdC.mono hH h,h.decls.imp fun _ _ _ h=>RdC.mono hH h,h.procs.imp fun b o x hx=>RdP_mono hH (Nat.le_refl _) (Nat.le_refl _) b o x hx,h.main.imp fun b o x hx=>RdS_mono hH (Nat.le_refl _) (Nat.le_refl _) b o x hx⟩
theorem sort_ok {l d:List _} {e:Int} (h:SortR l (d,e)) (h0:e=0) (hp:0<l.length):OrdOk l∧Greedy l d∧d.length=l.length:=by
 rcases h with ⟨h1,h2⟩ | ⟨h1,d2,he,h2⟩
 · injection h2 with _ h2
   exact absurd (h2.symm.trans h0) h1
 · unfold sortV at h2
   split at h2
   · rename_i hl
     injection h2 with h2 _
     subst h2
     exact ⟨orderE_zero.1 h1,he.1,hl⟩
   · injection h2 with _ h2
     rw [h0] at h2
     cases h2
theorem sort_same {l l':List TMod} {f:Nat→Nat} {q:List Nat×Int} (h:SortR l' q) (r:Ren l l' f) (ho:OrdOk l) {d:List Nat} (hd:Greedy l d) (hl:d.length=l.length):q=(d.map f,0):=by
 rcases h with ⟨h1,_⟩ | ⟨_,d2,he,rfl⟩
 · exact absurd (orderE_zero.2 (r.ok ho)) h1
 · have:=ended_eq he (swap_ended r ho hd hl)
   subst this
   unfold sortV
   rw [if_pos (by rw [List.length_map,hl,r.len])]
theorem need_ok {l:List TMod} {nm:Tx} {ns:List Tx} {e:Int} (h:NeedR l nm (ns,e)) (ho:OrdOk l) {i:Nat} (hp:placeL l nm=some i):e=0∧SortedT ns∧∀s,s ∈ ns↔Go.Bw.Reach l nm s:=by
 rcases h with ⟨h1,_⟩ | ⟨_,h2,_⟩ | ⟨_,_,ns2,h3,h4,h5⟩
 · exact absurd (orderE_zero.2 ho) h1
 · rw [hp] at h2; cases h2
 · injection h3 with h3 h6
   subst h3
   exact ⟨h6,h4,h5⟩
theorem need_few {l:List TMod} (ho:OrdOk l) {nm:Tx} {ns:List Tx} (hs:SortedT ns) (hm:∀s,s ∈ ns↔Go.Bw.Reach l nm s):ns.length≤4:=by
 have h1:ns.length≤(namesL l).length:=nodup_sub_le (sortedT_nodup hs) fun s hs=>by
   obtain ⟨j,hj⟩:=reach_place ho ((hm s).1 hs)
   obtain ⟨hlt,hnm⟩:=placeL_at hj
   rw [←hnm,nmAt_get (List.getElem?_eq_getElem hlt)]
   exact List.mem_of_getElem? (names_get (List.getElem?_eq_getElem hlt))
 rw [names_len] at h1
 have:=ho.few
 omega
theorem orderTrue_any (H:View) (ke ks:Nat) (a:Option Addr) (c:Nat) (l:List TMod) (z1:Int) (hz1 : -9223372036854775808≤z1∧z1≤9223372036854775807) (z2:Int) (hz2 : -9223372036854775808≤z2∧z2≤9223372036854775807) (w:World) (hH:Le H w) (hm:Sl (rdMod ke ks) 5 H a c l) (hb:∀m ∈ l,wM m≤109951162777) :
   Calls Try.prog 4 #[.slice a l.length c,.int .i64 z1,.int .i64 z2] w fun e w'=>e = .returned (.bool true)∧Ext w w':=by
 have hcap:=hm.cap
 have hmax:=hm.max
 refine enter Try.func4 rfl 190 rfl rfl ?_
 refine CWd (W':=Ws w [] [] [H]) (fun _ e=>by subst e; exact Ws.init (by simp [hH])) ?_
 refine Cs (Cr ?_)
 refine V0 (Ya rfl) ?_
 refine Ln (Et (Cs (Cr ?_)))
 refine V0 (Ym rfl) ?_
 refine Ld (.inl rfl) rfl en6 rfl (fun r:SP×List Nat×Int=>.tuple #[.slice r.1.1 r.2.1.length r.1.2,.int .i64 r.2.2]) (fun F r=>Sl rdIx 1 F r.1.1 r.1.2 r.2.1∧SortR l r.2) (fun w hw=>sort_any H ke ks a c l w (hw.vs _ (by simp)) hm hb) ?_
 intro F24 r24 hf24 h24
 obtain ⟨s24,q24⟩:=r24
 obtain ⟨hs24,hq24⟩:=h24
 dsimp only at hs24 hq24
 obtain ⟨d,e24⟩:=q24
 dsimp only at *
 refine V0 (Ym rfl) ?_
 refine V0 (Yx rfl rfl) ?_
 refine V0 (Yx rfl rfl) ?_
 refine V0 (Ya rfl) ?_
 refine V0 (Ya rfl) ?_
 refine Ln (Et (Cs (Cs (Cr ?_))))
 refine V0 (Ym rfl) ?_
 refine V0 (yl_ne rfl rfl) ?_
 refine V0 (Ym rfl) ?_
 apply WL.or 3 rfl rfl rfl rfl (.inl rfl) rfl rfl rfl rfl rfl
 ·
  intro hg0
  refine Lv (.g rfl rfl rfl) rfl (Ym rfl) ?_
  refine Lv (.g rfl rfl rfl) rfl (Yn es22 rfl) ?_
  refine Lv (.g rfl rfl rfl) rfl (yl_eq rfl rfl) ?_
  exact Gt 3 rfl rfl rfl
 refine Ln (Et ?_)
 refine Cc rfl (fun hc0=>?_) (fun hc0=>?_)
 ·
  refine Cs (Cr ?_)
  refine Lp (.inl rfl) rfl en10 rfl (fun w hw=>orderBegun_any w) ?_
  refine V0 (Ya rfl) ?_
  refine Ln (Et (Crt (Er ?_)))
  refine WE.ret1 rfl rfl fun w' hw=>?_
  exact ⟨rfl,hw.fr⟩
 ·
  have h240:e24=0:=by
    have h9:=(Bool.or_eq_false_iff.1 hc0).1
    simpa using h9
  have hpos:0<l.length:=by
    have h9:=(Bool.or_eq_false_iff.1 hc0).2
    have h8:¬l.length=0:=by simpa using h9
    omega
  obtain ⟨ho,hgr,hdl⟩:=sort_ok hq24 h240 hpos
  subst h240
  have hfew:=ho.few
  obtain ⟨ci,hci,hcz1⟩:=chooseN_nat hz1 hpos
  obtain ⟨cj,hcj,hcz2⟩:=chooseN_nat hz2 hpos
  obtain ⟨mci,hmcii⟩:∃m,l[ci]? = some m:=⟨_,List.getElem?_eq_getElem hci⟩
  obtain ⟨pbi,poi,hai,ri,hrowi,hrdi⟩:=hm.elt ci mci hmcii
  have hni:=nmAt_get hmcii
  obtain ⟨mcj,hmcji⟩:∃m,l[cj]? = some m:=⟨_,List.getElem?_eq_getElem hcj⟩
  obtain ⟨pbj,poj,haj,rj,hrowj,hrdj⟩:=hm.elt cj mcj hmcji
  have hnj:=nmAt_get hmcji
  have hpl:=place_nm ho.nd hci
  rw [hni] at hpl
  refine Ck (Et (Cs (Cr ?_)))
  refine V0 (Ym rfl) ?_
  refine V0 (Ym rfl) ?_
  refine V0 (Yn es22 rfl) ?_
  refine Lp (.inl rfl) rfl en13 rfl (fun w hw=>choose_any z1 (l.length:Int) (by omega) w) ?_
  rw [hcz1]
  refine V0 (Ym rfl) ?_
  refine V0 (Ym rfl) ?_
  refine V0 (Yn es22 rfl) ?_
  refine Lp (.inl rfl) rfl en13 rfl (fun w hw=>choose_any z2 (l.length:Int) (by omega) w) ?_
  rw [hcz2]
  refine V0 (Ya rfl) ?_
  refine V0 (Ya rfl) ?_
  refine Ln (Et (Cs (Cr ?_)))
  refine V0 (Ym rfl) ?_
  refine V0 (Ym rfl) ?_
  refine V0 (Ym rfl) ?_
  refine V0 (Yo es22 rfl rfl hai hci) ?_
  refine V0 (Yf fo39_0 rfl) ?_
  refine V0 (yl_ld 1 na9 rfl rfl (hrowi 0 _ rfl)) ?_
  refine Ld (.inl rfl) rfl en7 rfl (fun r:SP×List Tx×Int=>.tuple #[.slice r.1.1 r.2.1.length r.1.2,.int .i64 r.2.2]) (fun F r=>Sl rdStr 1 F r.1.1 r.1.2 r.2.1∧NeedR l mci.nm r.2) (fun w hw=>needs_any H ke ks a c l mci.nm w (hw.vs _ (by simp)) hm hb) ?_
  intro F50 r50 hf50 h50
  obtain ⟨s50,q50⟩:=r50
  obtain ⟨hs50,hq50⟩:=h50
  dsimp only at hs50 hq50
  obtain ⟨ns,e50⟩:=q50
  dsimp only at *
  obtain ⟨he50,hsrt,hmem⟩:=need_ok hq50 ho hpl
  subst he50
  have hnl:=need_few ho hsrt hmem
  refine V0 (Ym rfl) ?_
  refine V0 (Yx rfl rfl) ?_
  refine V0 (Yx rfl rfl) ?_
  refine V0 (Ya rfl) ?_
  refine V0 (Ya rfl) ?_
  refine Ln (Et (Cs (Cs (Cr ?_))))
  refine V0 (Ym rfl) ?_
  refine V0 (yl_ne rfl rfl) ?_
  refine V0 (Ym rfl) ?_
  apply WL.or 5 rfl rfl rfl rfl (.inl rfl) rfl rfl rfl rfl rfl
  ·
   intro hg1
   refine Lv (.g rfl rfl rfl) rfl (Ym rfl) ?_
   refine Lv (.g rfl rfl rfl) rfl (Yn es23 rfl) ?_
   refine Lv (.g rfl rfl rfl) rfl (Ym rfl) ?_
   refine Lv (.g rfl rfl rfl) rfl (Yn es22 rfl) ?_
   refine Lv (.g rfl rfl rfl) rfl (yl_ne rfl rfl) ?_
   exact Gt 5 rfl rfl rfl
  refine Ln (Et ?_)
  refine Cc rfl (fun hc1=>?_) (fun hc1=>?_)
  ·
   exfalso
   rw [hdl] at hc1
   simp at hc1
  ·
   refine Ck (Et (Cs (Cr ?_)))
   refine V0 (Ya rfl) ?_
   refine Ln (Et (Cs (Cs (Cr ?_))))
   refine V0 (Ya rfl) ?_
   refine Ln (Et (Cb ?_))
   refine CW (ι:=Nat×Nat) (fun g=>[(14,.int .i64 (g.1:Int)),(13,.int .i64 (g.2:Int))]) [(0,_),(6,_),(7,_),(9,_),(10,_),(11,_)] (fun g=>g.1≤d.length∧(∀y,y<g.1→d[y]?≠some ci)∧g.2=((d.take g.1).map fun x=>ns.count (nmAt l x)).sum∧g.2≤4*g.1) (fun g=>d.length-g.1) (0,0) ⟨Nat.zero_le _,fun y h=>by omega,rfl,Nat.le_refl _⟩ (sc rfl (sc rfl (sc rfl (sc rfl (sc rfl (sc rfl (sc rfl (sc rfl sn)))))))) ?_
   intro g ⟨hgi,hgn,hgs,hgb⟩
   refine Cs (Cs (Cr ?_))
   refine V0 (Ym rfl) ?_
   refine V0 (Ym rfl) ?_
   refine V0 (Yn es23 rfl) ?_
   refine V0 (yl_lt rfl rfl) ?_
   refine V0 (Ym rfl) ?_
   apply WL.and 6 (x:=!(dgN d g.1==(ci:Int))) rfl rfl rfl rfl (.inl rfl) rfl rfl rfl rfl rfl
   ·
    intro hg2
    have hlt2:g.1<d.length:=by simpa using hg2
    obtain ⟨x,hxi⟩:∃x,d[g.1]? = some x:=⟨_,List.getElem?_eq_getElem hlt2⟩
    obtain ⟨pbz,poz,haz,hrz⟩:=hs24.elt g.1 x hxi
    have hrz:RdC F24 pbz (poz+g.1*1) (ixC x):=hrz
    refine Lv (.g rfl rfl rfl) rfl (Ym rfl) ?_
    refine Lv (.g rfl rfl rfl) rfl (Ym rfl) ?_
    refine Lv (.g rfl rfl rfl) rfl (Yo es23 rfl rfl haz (by omega)) ?_
    refine Lv (.g rfl rfl rfl) rfl (yl_ld 1 na3 rfl rfl (hrz 0 _ rfl)) ?_
    refine Lv (.g rfl rfl rfl) rfl (Ym rfl) ?_
    refine Lv (.g rfl rfl rfl) rfl (yl_ne rfl rfl) ?_
    rw [show ((x:Int) != (ci:Int)) = !(dgN d g.1==(ci:Int)) from by rw [dgN_get hxi]; rfl]
    exact Gt 6 rfl rfl rfl
   refine Ln (Et ?_)
   refine Cc rfl (fun hc2=>?_) (fun hc2=>?_)
   ·
    have hand:g.1<d.length∧¬dgN d g.1=(ci:Int):=by simpa using hc2
    obtain ⟨x,hxi⟩:∃x,d[g.1]? = some x:=⟨_,List.getElem?_eq_getElem hand.1⟩
    have hltd:=hand.1
    obtain ⟨pbz,poz,haz,hrz⟩:=hs24.elt g.1 x hxi
    have hrz:RdC F24 pbz (poz+g.1*1) (ixC x):=hrz
    have hxc:x≠ci:=fun e=>hand.2 (by rw [dgN_get hxi,e])
    have hxl:x<l.length:=(greedy_lt hgr).1 x (List.mem_of_getElem? hxi)
    obtain ⟨mx,hmxi⟩:∃m,l[x]? = some m:=⟨_,List.getElem?_eq_getElem hxl⟩
    obtain ⟨pbv,pov,hav,rv,hrowv,hrdv⟩:=hm.elt x mx hmxi
    have hnv:=nmAt_get hmxi
    refine Ck (Et (Cs (Cb (Cs (Cr ?_)))))
    refine V0 (Ya rfl) ?_
    refine Ln (Et (Cb ?_))
    refine CW (ι:=Nat×Nat) (fun r=>[(15,.int .i64 (r.1:Int)),(13,.int .i64 (r.2:Int))]) [(0,_),(6,_),(7,_),(9,_),(10,_),(11,_),(14,_)] (fun r=>r.1≤ns.length∧r.2=g.2+(ns.take r.1).count (nmAt l x)∧r.2≤g.2+r.1) (fun r=>ns.length-r.1) (0,g.2) ⟨Nat.zero_le _,rfl,Nat.le_refl _⟩ (sc rfl (sc rfl (sc rfl (sc rfl (sc rfl (sc rfl (sc rfl (sc rfl (sc rfl sn))))))))) ?_
    intro r ⟨hri,hrc,hrb⟩
    refine Cs (Cs (Cr ?_))
    refine V0 (Ym rfl) ?_
    refine V0 (Ym rfl) ?_
    refine V0 (Yn es27 rfl) ?_
    refine V0 (yl_lt rfl rfl) ?_
    refine Ln (Et ?_)
    refine Cc rfl (fun hc3=>?_) (fun hc3=>?_)
    ·
     have hlt:r.1<ns.length:=by simpa using hc3
     obtain ⟨s,hsi⟩:∃q,ns[r.1]? = some q:=⟨_,List.getElem?_eq_getElem hlt⟩
     obtain ⟨pbs,pos,has,hrs⟩:=hs50.elt r.1 s hsi
     have hrs:RdC F50 pbs (pos+r.1*1) (strC s):=hrs
     have hltn:r.1<ns.length:=hlt
     refine Ck (Et (Cs (Cb (Cs ?_))))
     refine WC.draws0 [(0,true),(1,true),(2,true),(3,true),(4,true),(5,true),(6,true),(7,true),(8,true),(9,true),(10,true),(11,true),(12,true),(13,true),(14,true),(15,true),(16,true),(17,true),(18,true),(19,true),(20,true),(21,true),(22,true),(23,true),(24,true),(25,true),(26,true),(27,true),(28,true)] mixed (by kernel_rfl) (fun _ _ _ d _ h=>by cases d<;>exact h) ?_
     refine Dq rfl (.inl rfl) rfl (fun _ h=>h) (Ym rfl) ?_
     refine Dq rfl (.inl rfl) rfl (fun _ h=>h) (Ym rfl) ?_
     refine Dq rfl (.inl rfl) rfl (fun _ h=>h) (Yo es23 rfl rfl haz (by omega)) ?_
     refine Dq rfl (.inl rfl) rfl (fun _ h=>h) (yl_ld 1 na3 rfl rfl (hrz 0 _ rfl)) ?_
     refine Dq rfl (.inl rfl) rfl (fun _ h=>h) (yl_geT rfl rfl (by omega)) ?_
     refine Dq rfl (.inl rfl) rfl (fun _ h=>h) (Ym rfl) ?_
     refine Dq rfl (.g rfl rfl rfl) rfl (fun _ h=>h) (Ym rfl) ?_
     refine Dq rfl (.g rfl rfl rfl) rfl (fun _ h=>h) (Ym rfl) ?_
     refine Dq rfl (.g rfl rfl rfl) rfl (fun _ h=>h) (Yo es23 rfl rfl haz (by omega)) ?_
     refine Dq rfl (.g rfl rfl rfl) rfl (fun _ h=>h) (yl_ld 1 na3 rfl rfl (hrz 0 _ rfl)) ?_
     refine Dq rfl (.g rfl rfl rfl) rfl (fun _ h=>h) (Ym rfl) ?_
     refine Dq rfl (.g rfl rfl rfl) rfl (fun _ h=>h) (Yn es22 rfl) ?_
     refine Dq rfl (.g rfl rfl rfl) rfl (fun _ h=>h) (yl_ltT rfl rfl (by omega)) ?_
     refine Dq rfl (.inl rfl) rfl (fun _ h=>h) (yl_pick rfl rfl rfl) ?_
     refine Dq rfl (.inl rfl) rfl (fun _ h=>h) (Ym rfl) ?_
     refine Dq rfl (.g rfl rfl rfl) rfl (fun _ h=>h) (Ym rfl) ?_
     refine Dq rfl (.g rfl rfl rfl) rfl (fun _ h=>h) (Ym rfl) ?_
     refine Dq rfl (.g rfl rfl rfl) rfl (fun _ h=>h) (Ym rfl) ?_
     refine Dq rfl (.g rfl rfl rfl) rfl (fun _ h=>h) (Yo es23 rfl rfl haz (by omega)) ?_
     refine Dq rfl (.g rfl rfl rfl) rfl (fun _ h=>h) (yl_ld 1 na3 rfl rfl (hrz 0 _ rfl)) ?_
     refine Dq rfl (.g rfl rfl rfl) rfl (fun _ h=>h) (Yo es22 rfl rfl hav hxl) ?_
     refine Dq rfl (.g rfl rfl rfl) rfl (fun _ h=>h) (Yf fo39_0 rfl) ?_
     refine Dq rfl (.g rfl rfl rfl) rfl (fun _ h=>h) (yl_ld 2 na9 rfl rfl (hrowv 0 _ rfl)) ?_
     refine Dq rfl (.g rfl rfl rfl) rfl (fun _ h=>h) (Ym rfl) ?_
     refine Dq rfl (.g rfl rfl rfl) rfl (fun _ h=>h) (Ym rfl) ?_
     refine Dq rfl (.g rfl rfl rfl) rfl (fun _ h=>h) (Yo es27 rfl rfl has (by omega)) ?_
     refine Dq rfl (.g rfl rfl rfl) rfl (fun _ h=>h) (yl_ld 0 na9 rfl rfl (hrs 0 _ rfl)) ?_
     refine Dq rfl (.g rfl rfl rfl) rfl (fun _ h=>h) (yl_eqs rfl rfl) ?_
     refine Dq rfl (.inl rfl) rfl (fun _ h=>h) (yl_pick rfl rfl rfl) ?_
     refine WD.nil (fun _ h=>h) ?_
     refine Et ?_
     refine Cc rfl (fun hc4=>?_) (fun hc4=>?_)
     ·
      have hs4:(nmAt l x==s)=true:=by rw [hnv]; exact hc4
      refine Cr ?_
      refine V0 (Ym rfl) ?_
      refine V0 (Yi rfl rfl rfl (by omega)) ?_
      refine V0 (Ya rfl) ?_
      refine Ln (Eb (Et (Cr ?_)))
      refine V0 (Ym rfl) ?_
      refine V0 (Yi rfl rfl rfl (by omega)) ?_
      refine V0 (Ya rfl) ?_
      refine Ln ?_
      exact Ea ((r.1+1,r.2+1):Nat×Nat) (by show _-(r.1+1)<_; omega) ⟨(by show r.1+1≤_; omega),(by show r.2+1=_; rw [count_snoc hsi,if_pos hs4]; omega),(by show r.2+1≤g.2+(r.1+1); omega)⟩ (sc rfl (sc rfl (sc rfl (sc rfl (sc rfl (sc rfl (sc rfl (sc rfl (sc rfl sn))))))))) (fun _ h=>h)
     ·
      have hs4:(nmAt l x==s)=false:=by rw [hnv]; exact hc4
      refine Ck (Eb (Et (Cr ?_)))
      refine V0 (Ym rfl) ?_
      refine V0 (Yi rfl rfl rfl (by omega)) ?_
      refine V0 (Ya rfl) ?_
      refine Ln ?_
      exact Ea ((r.1+1,r.2):Nat×Nat) (by show _-(r.1+1)<_; omega) ⟨(by show r.1+1≤_; omega),(by show r.2=_; rw [count_snoc hsi,if_neg (by rw [hs4]; decide)]; omega),(by show r.2≤g.2+(r.1+1); omega)⟩ (sc rfl (sc rfl (sc rfl (sc rfl (sc rfl (sc rfl (sc rfl (sc rfl (sc rfl sn))))))))) (fun _ h=>h)
    ·
     have hrn:r.1=ns.length:=by simp at hc3; omega
     rw [hrn,List.take_length] at hrc
     refine Ce (Ex (Ex (Ebh (Eb (Et ?_)))))
     refine Cr ?_
     refine V0 (Ym rfl) ?_
     refine V0 (Yi rfl rfl rfl (by omega)) ?_
     refine V0 (Ya rfl) ?_
     refine Ln ?_
     exact Ea ((g.1+1,r.2):Nat×Nat) (by show _-(g.1+1)<_; omega) ⟨(by show g.1+1≤_; omega),fun y hy=>by
         rcases Nat.lt_succ_iff_lt_or_eq.1 hy with h | h
         · exact hgn y h
         · subst h; rw [hxi]; intro e; injection e with e; exact hxc e,(by show r.2=_; rw [sum_snoc hxi,←hgs]; exact hrc),(by show r.2≤4*(g.1+1); omega)⟩ (sc rfl (sc rfl (sc rfl (sc rfl (sc rfl (sc rfl (sc rfl (sc rfl sn)))))))) (fun _ h=>h)
   ·
    have hdk:d[g.1]? = some ci:=by
      obtain ⟨y,hy⟩:=List.getElem?_of_mem (perm_mem hgr hdl hci)
      rcases Nat.lt_trichotomy y g.1 with h | h | h
      · exact absurd hy (hgn y h)
      · rw [←h]; exact hy
      · have hlt:g.1<d.length:=by have:=(List.getElem?_eq_some_iff.1 hy).1; omega
        have hx2:=List.getElem?_eq_getElem hlt
        have hc22:dgN d g.1=(ci:Int):=by simpa [hlt] using hc2
        rw [dgN_get hx2] at hc22
        rw [hx2,show d[g.1]=ci by omega]
    have hseen:g.2=ns.length:=by rw [hgs]; exact seen_all ho.nd hgr hdk (by rw [hni]; exact hmem)
    refine Ce (Ex (Ex (Ebh (Et (Cs ?_)))))
    refine Cs (Cr ?_)
    refine V0 (Ym rfl) ?_
    refine V0 (Ym rfl) ?_
    refine V0 (Yn es27 rfl) ?_
    refine V0 (yl_ne rfl rfl) ?_
    refine Ln (Et ?_)
    refine Cc rfl (fun hc5=>?_) (fun hc5=>?_)
    ·
     exfalso
     rw [hseen] at hc5
     simp at hc5
    ·
     refine Ck (Et (Cs ?_))
     obtain ⟨ys,hys,hsp⟩:=sl_pairs hm
     have hyl:ys.length=l.length:=by rw [←hys,List.length_map]
     obtain ⟨yi,hyi⟩:∃y,ys[ci]? = some y:=⟨_,List.getElem?_eq_getElem (by omega)⟩
     obtain ⟨yj,hyj⟩:∃y,ys[cj]? = some y:=⟨_,List.getElem?_eq_getElem (by omega)⟩
     have hy1:yi.1=mci:=by
       have h9:(ys.map (·.1))[ci]? = some yi.1:=by rw [List.getElem?_map,hyi]; rfl
       rw [hys,hmcii] at h9; injection h9 with h9; exact h9.symm
     have hy2:yj.1=mcj:=by
       have h9:(ys.map (·.1))[cj]? = some yj.1:=by rw [List.getElem?_map,hyj]; rfl
       rw [hys,hmcji] at h9; injection h9 with h9; exact h9.symm
     have hli:ci<([]++ys).length:=by show ci<ys.length; omega
     have hlj:cj<([]++ys).length:=by show cj<ys.length; omega
     have hyj2:(([]++ys).set ci yj)[cj]? = some yj:=by
       rw [List.nil_append,List.getElem?_set]
       split
       · rename_i e; subst e; simp; omega
       · exact hyj
     have hren:=ren_swap hmcii hmcji
     refine Cr ?_
     refine WL.bslice (.inl rfl) rfl el22 rfl rfl rfl fun b117=>?_
     refine WL.asOsl (size:=5) 0 rfl (Nat.le_refl 0) (Nat.zero_le _) rfl ?_
     refine WL.reosl 0 ([]:List MP).length (([]:List MP).flatMap mpC) rfl rfl rfl ?_
     refine V0 (Ym rfl) ?_
     refine WL.appendL (f:=mpC) (rd:=rdMP ke ks) (ys:=ys) (xs:=[]) 0 (fun _=>H) (.inl rfl) rfl el22 rfl (by show some (Value.slice a l.length c)=_; rw [←hyl]) rfl (fun w hw=>⟨hw.vs H (by simp),hsp⟩) (fun _ _ _ _ h=>h.1) mpC_len mpC_one (by simp; omega) (by simp; omega) fun a119 c119=>?_
     refine V0 (Ya rfl) ?_
     refine Ln (Et ?_)
     refine WC.shapeT 0 rfl (by show 0<ys.length; omega) fun cb hcb hcc hcm=>?_
     subst hcb
     refine WC.cutE (ι:=Nat×Nat) (fun q=>[(0,.slice a l.length c),(7,.slice s24.1 d.length s24.2),(9,.int .i64 (ci:Int)),(10,.int .i64 (cj:Int)),(16,.slice (some ⟨cb,0,none⟩) ([]++ys).length c119),(17,.pointer (some ⟨q.1,0,none⟩)),(18,.pointer (some ⟨q.2,0,none⟩))]) (fun q=>Ws w [] [blk q.1 (.cells (mpC yi).toArray 39 (0,0)),blk q.2 (.cells (mpC yj).toArray 39 (0,0)),osT 39 5 mpC (some ⟨cb,0,none⟩) c119 ([]++ys)] [F50,F24,H]) (fun q=>True) ?_ ?_
     ·
      refine CU (fun _=>true) [] [11] (.q false 0 (.q false 1 (.q false 2 (.q true 3 (.q false 4 (.q false 5 (.q false 6 (.q true 7 (.e 8 (.e 9 (.e 10 .nil .stop) .stop) (.e 9 (.e 8 (.e 10 .nil .stop) .stop) .stop)))))))))) mixed (by kernel_rfl) (fun _ _ _ d _ _ h=>by cases d<;>exact h) ?_
      refine Uq rfl (.inl rfl) rfl (fun _ h=>h) (Ym rfl) ?_
      refine Uq rfl (.inl rfl) rfl (fun _ h=>h) (Ym rfl) ?_
      refine Uq rfl (.inl rfl) rfl (fun _ h=>h) (yl_iak es22 rfl rfl hli) ?_
      refine Uq rfl (.inl rfl) rfl (fun _ h=>h) (yl_ldaT (y:=yi) 0 ci rfl rfl rfl rfl mpC_len hyi ag39) ?_
      refine Uq rfl (.inl rfl) rfl (fun _ h=>h) (Ym rfl) ?_
      refine Uq rfl (.inl rfl) rfl (fun _ h=>h) (Ym rfl) ?_
      refine Uq rfl (.inl rfl) rfl (fun _ h=>h) (yl_iak es22 rfl rfl hlj) ?_
      refine Uq rfl (.inl rfl) rfl (fun _ h=>h) (yl_ldaT (y:=yj) 0 cj rfl rfl rfl rfl mpC_len hyj ag39) ?_
      refine Ue rfl (fun _ h=>h) ?_ ?_
      ·
       refine WL.alloc (.inl rfl) rfl zr39 fun b17=>?_
       refine Ln (Eu ?_)
       refine Ue rfl (fun _ h=>by have h:=Ws.drop (L:=[_]) (L':=_) h; exact h) ?_ WU.stop
       refine WL.alloc (.inl rfl) rfl zr39 fun b18=>?_
       refine Ln (Eu ?_)
       refine Ue rfl (fun _ h=>by have h:=Ws.drop (L:=[_,_]) (L':=_) h; exact h) ?_ WU.stop
       refine Lst 1 (.inl rfl) rfl rfl rfl sz39 rfl rfl rfl ?_
       refine Ln (Eu ?_)
       refine WU.nil (fun _ h=>by have h:=Ws.drop (L:=[_,_]) (L':=_) h; exact h) ?_
       refine WS.e rfl ?_
       refine Lst 0 (.inl rfl) rfl rfl rfl sz39 rfl rfl rfl ?_
       refine Ln (Es ?_)
       refine WS.nil ?_
       exact WE.meetE (b17,b18) trivial (sc rfl (sc rfl (sc rfl (sc rfl (sc rfl (sc rfl (sc rfl sn))))))) (fun _ h=>by
         have h:=h.fronti 2 rfl
         have h:=h.fronti 1 rfl
         have h:=h.fronti 2 rfl
         exact h)
      refine Ue rfl (fun _ h=>h) ?_ WU.stop
      refine WL.alloc (.inl rfl) rfl zr39 fun b18=>?_
      refine Ln (Eu ?_)
      refine Ue rfl (fun _ h=>by have h:=Ws.drop (L:=[_]) (L':=_) h; exact h) ?_ WU.stop
      refine WL.alloc (.inl rfl) rfl zr39 fun b17=>?_
      refine Ln (Eu ?_)
      refine Ue rfl (fun _ h=>by have h:=Ws.drop (L:=[_,_]) (L':=_) h; exact h) ?_ WU.stop
      refine Lst 0 (.inl rfl) rfl rfl rfl sz39 rfl rfl rfl ?_
      refine Ln (Eu ?_)
      refine WU.nil (fun _ h=>by have h:=Ws.drop (L:=[_,_]) (L':=_) h; exact h) ?_
      refine WS.e rfl ?_
      refine Lst 1 (.inl rfl) rfl rfl rfl sz39 rfl rfl rfl ?_
      refine Ln (Es ?_)
      refine WS.nil ?_
      exact WE.meetE (b17,b18) trivial (sc rfl (sc rfl (sc rfl (sc rfl (sc rfl (sc rfl (sc rfl sn))))))) (fun _ h=>by
        have h:=h.fronti 2 rfl
        have h:=h.fronti 2 rfl
        have h:=h.fronti 2 rfl
        exact h)
     intro q _
     refine Cs (Cr ?_)
     refine V0 (Ym rfl) ?_
     refine V0 (Ym rfl) ?_
     refine V0 (Yda 1 rfl rfl ag39 rfl) ?_
     refine V0 (yl_iak es22 rfl rfl (by show ci<([]++ys).length; exact hli)) ?_
     refine WL.storeT (y:=yi) 2 ci 0 yj (.inl rfl) rfl rfl rfl rfl rfl mpC_len hyi sz39 rfl rfl (by decide) rfl ?_
     refine Ln (Et (Cs (Cr ?_)))
     refine V0 (Ym rfl) ?_
     refine V0 (Ym rfl) ?_
     refine V0 (Yda 0 rfl rfl ag39 rfl) ?_
     refine V0 (yl_iak es22 rfl rfl (by show cj<([]++ys).length; exact hlj)) ?_
     refine WL.storeT (y:=yj) 2 cj 0 yi (.inl rfl) rfl rfl rfl rfl rfl mpC_len hyj2 sz39 rfl rfl (by decide) rfl ?_
     refine Ln (Et (Cs ?_))
     refine WC.oslview (rd:=fun H b o x=>RdC H b o (mpC x)) 2 rfl mpC_len (fun _ _ _ _ h=>h) fun H4 hH4=>?_
     have hysm:(List.set (List.set (([]:List MP)++ys) ci yj) cj yi).map (·.1)=((l.set ci mcj).set cj mci):=by rw [List.nil_append,List.map_set,List.map_set,hys,hy1,hy2]
     have hmm:∀y ∈ (List.set (List.set (([]:List MP)++ys) ci yj) cj yi),RdM ke ks H y.2 y.1:=fun y hy=>by
       have hyy:y ∈ ys:=by
         rcases List.mem_or_eq_of_mem_set hy with h | h
         · rcases List.mem_or_eq_of_mem_set h with h | h
           · exact h
           · subst h; exact List.mem_of_getElem? hyj
         · subst h; exact List.mem_of_getElem? hyi
       obtain ⟨q,hq⟩:=List.getElem?_of_mem hyy
       obtain ⟨_,_,_,_,h⟩:=hsp.elt q y hq
       exact h
     have hsl2:∀w,Le H4 w→Le H w→Sl (rdMod ke ks) 5 (hv w) (some ⟨cb,0,none⟩) c119 ((l.set ci mcj).set cj mci):=fun w h1 h2=>by
       rw [←hysm]
       exact sl_unpair (hH4.imp fun _ _ _ h=>RdC.mono (hv_of h1) h) fun y hy=>RdM_mono (hv_of h2) (hmm y hy)
     have hb2:∀m ∈ ((l.set ci mcj).set cj mci),wM m≤109951162777:=fun m hm2=>hb m (hren.back.mem hm2)
     have hl2n:((l.set ci mcj).set cj mci).length=([]++ys).length:=by rw [List.nil_append,hyl,List.length_set,List.length_set]
     refine Cr ?_
     refine V0 (Ym rfl) ?_
     refine Ld (.inl rfl) rfl en6 rfl (fun r:SP×List Nat×Int=>.tuple #[.slice r.1.1 r.2.1.length r.1.2,.int .i64 r.2.2]) (fun F r=>Sl rdIx 1 F r.1.1 r.1.2 r.2.1∧SortR ((l.set ci mcj).set cj mci) r.2) (fun w hw=>by
       have hcc:=sort_any (hv w) ke ks (some ⟨cb,0,none⟩) c119 ((l.set ci mcj).set cj mci) w (hv_le w) (hsl2 w (hw.vs _ (by simp)) (hw.vs _ (by simp))) hb2
       rw [hl2n] at hcc
       exact hcc) ?_
     intro F138 r138 hf138 h138
     obtain ⟨s138,q138⟩:=r138
     obtain ⟨hs138,hq138⟩:=h138
     dsimp only at hs138 hq138
     obtain ⟨d2,e138⟩:=q138
     dsimp only at *
     have hqq:=sort_same hq138 hren ho hgr hdl
     injection hqq with hd2 he2
     subst hd2 he2
     refine V0 (Ym rfl) ?_
     refine V0 (Yx rfl rfl) ?_
     refine V0 (Yx rfl rfl) ?_
     refine V0 (Ya rfl) ?_
     refine V0 (Ya rfl) ?_
     refine Ln (Et (Cs (Cs (Cr ?_))))
     refine V0 (Ym rfl) ?_
     refine V0 (yl_ne rfl rfl) ?_
     refine V0 (Ym rfl) ?_
     apply WL.or 5 rfl rfl rfl rfl (.inl rfl) rfl rfl rfl rfl rfl
     ·
      intro hg3
      refine Lv (.g rfl rfl rfl) rfl (Ym rfl) ?_
      refine Lv (.g rfl rfl rfl) rfl (Yn es23 rfl) ?_
      refine Lv (.g rfl rfl rfl) rfl (Ym rfl) ?_
      refine Lv (.g rfl rfl rfl) rfl (Yn es23 rfl) ?_
      refine Lv (.g rfl rfl rfl) rfl (yl_ne rfl rfl) ?_
      exact Gt 5 rfl rfl rfl
     refine Ln (Et ?_)
     refine Cc rfl (fun hc6=>?_) (fun hc6=>?_)
     ·
      exfalso
      simp at hc6
     ·
      refine Ck (Et (Cs (Cs (Cr ?_))))
      refine V0 (Ya rfl) ?_
      refine Ln (Et (Cb ?_))
      refine CW (ι:=Nat) (fun k=>[(21,.int .i64 (k:Int))]) [(0,_),(7,_),(16,_),(19,_)] (fun k=>k≤d.length) (fun k=>d.length-k) 0 (Nat.zero_le _) (sc rfl (sc rfl (sc rfl (sc rfl (sc rfl sn))))) ?_
      intro k hk
      refine Cs (Cs (Cr ?_))
      refine V0 (Ym rfl) ?_
      refine V0 (Ym rfl) ?_
      refine V0 (Yn es23 rfl) ?_
      refine V0 (yl_lt rfl rfl) ?_
      refine Ln (Et ?_)
      refine Cc rfl (fun hc7=>?_) (fun hc7=>?_)
      ·
       have hlt7:k<d.length:=by simpa using hc7
       obtain ⟨x,hxi⟩:∃x,d[k]? = some x:=⟨_,List.getElem?_eq_getElem hlt7⟩
       obtain ⟨pbz,poz,haz,hrz⟩:=hs24.elt k x hxi
       have hrz:RdC F24 pbz (poz+k*1) (ixC x):=hrz
       have hxl:x<l.length:=(greedy_lt hgr).1 x (List.mem_of_getElem? hxi)
       obtain ⟨mx,hmxi⟩:∃m,l[x]? = some m:=⟨_,List.getElem?_eq_getElem hxl⟩
       obtain ⟨pbv,pov,hav,rv,hrowv,hrdv⟩:=hm.elt x mx hmxi
       have hnv:=nmAt_get hmxi
       have hpl2:swp ci cj x<l.length:=hren.lt x hxl
       obtain ⟨pbp,pop,hap,hrp⟩:=hs138.elt k (swp ci cj x) (by rw [List.getElem?_map,hxi]; rfl)
       have hrp:RdC F138 pbp (pop+k*1) (ixC (swp ci cj x)):=hrp
       have hlp:k<(d.map (swp ci cj)).length:=by rw [List.length_map]; exact hlt7
       have hlq:swp ci cj x<([]++ys).length:=by show swp ci cj x<ys.length; omega
       obtain ⟨y2,hy2i⟩:∃y,(List.set (List.set (([]:List MP)++ys) ci yj) cj yi)[swp ci cj x]? = some y:=⟨_,List.getElem?_eq_getElem (by rw [List.length_set,List.length_set]; exact hlq)⟩
       obtain ⟨pbq,poq,haq,hrq⟩:=hH4.elt _ y2 hy2i
       have hrq:RdC H4 pbq (poq+swp ci cj x*5) (mpC y2):=hrq
       have hnm2:y2.1.nm=mx.nm:=by
         have h9:((List.set (List.set (([]:List MP)++ys) ci yj) cj yi).map (·.1))[swp ci cj x]? = some y2.1:=by rw [List.getElem?_map,hy2i]; rfl
         rw [hysm,hren.get x hxl,hmxi] at h9
         injection h9 with h9
         rw [h9]
       refine Ck (Et (Cs (Cb (Cs ?_))))
       refine WC.draws0 [(0,true),(1,true),(2,true),(3,true),(4,true),(5,true),(6,true),(7,true),(8,true),(9,true),(10,true),(11,true),(12,true),(13,true),(14,true),(15,true),(16,true),(17,true),(18,true),(19,true),(20,true),(21,true),(22,true),(23,true),(24,true),(25,true),(26,true),(27,true),(28,true),(29,true),(30,true),(31,true),(32,true)] mixed (by kernel_rfl) (fun _ _ _ d _ h=>by cases d<;>exact h) ?_
       refine Dq rfl (.inl rfl) rfl (fun _ h=>h) (Ym rfl) ?_
       refine Dq rfl (.inl rfl) rfl (fun _ h=>h) (Ym rfl) ?_
       refine Dq rfl (.inl rfl) rfl (fun _ h=>h) (Yo es23 rfl rfl hap hlp) ?_
       refine Dq rfl (.inl rfl) rfl (fun _ h=>h) (yl_ld 0 na3 rfl rfl (hrp 0 _ rfl)) ?_
       refine Dq rfl (.inl rfl) rfl (fun _ h=>h) (yl_ltF rfl rfl (by omega)) ?_
       refine Dq rfl (.inl rfl) rfl (fun _ h=>h) (Ym rfl) ?_
       refine Dq rfl (.g rfl rfl rfl) rfl (fun _ h=>h) (Ym rfl) ?_
       refine Dq rfl (.g rfl rfl rfl) rfl (fun _ h=>h) (Ym rfl) ?_
       refine Dq rfl (.g rfl rfl rfl) rfl (fun _ h=>h) (Yo es23 rfl rfl hap hlp) ?_
       refine Dq rfl (.g rfl rfl rfl) rfl (fun _ h=>h) (yl_ld 0 na3 rfl rfl (hrp 0 _ rfl)) ?_
       refine Dq rfl (.g rfl rfl rfl) rfl (fun _ h=>h) (Ym rfl) ?_
       refine Dq rfl (.g rfl rfl rfl) rfl (fun _ h=>h) (Yn es22 rfl) ?_
       refine Dq rfl (.g rfl rfl rfl) rfl (fun _ h=>h) (yl_geF rfl rfl (by omega)) ?_
       refine Dq rfl (.inl rfl) rfl (fun _ h=>h) (yl_pick rfl rfl rfl) ?_
       refine Dq rfl (.inl rfl) rfl (fun _ h=>h) (Ym rfl) ?_
       refine Dq rfl (.g rfl rfl rfl) rfl (fun _ h=>h) (Ym rfl) ?_
       refine Dq rfl (.g rfl rfl rfl) rfl (fun _ h=>h) (Ym rfl) ?_
       refine Dq rfl (.g rfl rfl rfl) rfl (fun _ h=>h) (Ym rfl) ?_
       refine Dq rfl (.g rfl rfl rfl) rfl (fun _ h=>h) (Yo es23 rfl rfl hap hlp) ?_
       refine Dq rfl (.g rfl rfl rfl) rfl (fun _ h=>h) (yl_ld 0 na3 rfl rfl (hrp 0 _ rfl)) ?_
       refine Dq rfl (.g rfl rfl rfl) rfl (fun _ h=>h) (Yo es22 rfl rfl haq hlq) ?_
       refine Dq rfl (.g rfl rfl rfl) rfl (fun _ h=>h) (Yf fo39_0 rfl) ?_
       refine Dq rfl (.g rfl rfl rfl) rfl (fun _ h=>h) (yl_ld 1 na9 rfl rfl (hrq 0 _ rfl)) ?_
       refine Dq rfl (.g rfl rfl rfl) rfl (fun _ h=>h) (Ym rfl) ?_
       refine Dq rfl (.g rfl rfl rfl) rfl (fun _ h=>h) (Ym rfl) ?_
       refine Dq rfl (.g rfl rfl rfl) rfl (fun _ h=>h) (Ym rfl) ?_
       refine Dq rfl (.g rfl rfl rfl) rfl (fun _ h=>h) (Yo es23 rfl rfl haz (by omega)) ?_
       refine Dq rfl (.g rfl rfl rfl) rfl (fun _ h=>h) (yl_ld 3 na3 rfl rfl (hrz 0 _ rfl)) ?_
       refine Dq rfl (.g rfl rfl rfl) rfl (fun _ h=>h) (Yo es22 rfl rfl hav hxl) ?_
       refine Dq rfl (.g rfl rfl rfl) rfl (fun _ h=>h) (Yf fo39_0 rfl) ?_
       refine Dq rfl (.g rfl rfl rfl) rfl (fun _ h=>h) (yl_ld 4 na9 rfl rfl (hrowv 0 _ rfl)) ?_
       refine Dq rfl (.g rfl rfl rfl) rfl (fun _ h=>h) (yl_nesY rfl rfl hnm2) ?_
       refine Dq rfl (.inl rfl) rfl (fun _ h=>h) (yl_pick rfl rfl rfl) ?_
       refine WD.nil (fun _ h=>h) ?_
       refine Et ?_
       refine WC.condf rfl ?_
       refine Ck (Eb (Et (Cr ?_)))
       refine V0 (Ym rfl) ?_
       refine V0 (Yi rfl rfl rfl (by omega)) ?_
       refine V0 (Ya rfl) ?_
       refine Ln ?_
       exact Ea (k+1) (by omega) (by omega) (sc rfl (sc rfl (sc rfl (sc rfl (sc rfl sn))))) (fun _ h=>h)
      ·
       refine Ce (Ex (Ex (Ebh (Et (Cs ?_)))))
       refine Cr ?_
       refine Lp (.inl rfl) rfl en10 rfl (fun w hw=>orderBegun_any w) ?_
       refine V0 (Ya rfl) ?_
       refine Ln (Et (Crt ?_))
       refine WE.ret1 rfl rfl fun w' hw=>?_
       exact ⟨rfl,hw.fr⟩
end Go.Proofs.Ytinnlppbkhhoiaa
end
