/- The order of modules and what a module needs are as the document says, errors too, where what is handed in has a bulk of at most 1048576 (the second form). -/
import Derived.Deep.Upon
import Derived.Ground.GgzProg
import Derived.Ground.SlgmProg
import Derived.Maps.Own
import Derived.Maps.Range
import Derived.Scope
import Derived.Shelf.LaysC
import Derived.Shelf.LaysM
import Derived.Shelf.SlIter.Nil
import Derived.Shelf.SortM.Plain
import Derived.Shelf.SortM.SortNone
import Derived.Sort.KeysCollected
import Derived.Test.YtinnlppbkhhoiaaProg
import Derived.Test.YtinnlppbkhhoiaaRows
import Derived.Test.YtinnlppbkhhoiaaT1
set_option linter.unusedVariables false
set_option linter.unusedSimpArgs false
section
namespace Go.Bw
open Go
set_option linter.unusedVariables false
set_option linter.unusedSimpArgs false
def ltN (l:List TMod) (a b:Nat):Prop:=ltT (nmAt l a) (nmAt l b)=true
def SortedUp {α:Type} (R:α→α→Prop) (d:List α) (i:Nat):Prop:=∀(x y:Nat) (a b:α),x<y→y<i→d[x]? = some a→d[y]? = some b→R a b
structure InsInv {α:Type} (R:α→α→Prop) (d0 d:List α) (i j:Nat):Prop where
 perm:d.Perm d0
 ji:j≤i
 il:i<d.length
 ord:∀(x y:Nat) (a b:α),x<y→y≤i→x≠j→y≠j→d[x]? = some a→d[y]? = some b→R a b
 up:∀(y:Nat) (a b:α),j<y→y≤i→d[j]? = some a→d[y]? = some b→R a b
theorem ins_start {α:Type} {R:α→α→Prop} {d0 d:List α} {i:Nat} (hp:d.Perm d0) (hi:i<d.length) (h:SortedUp R d i):InsInv R d0 d i i:=
 ⟨hp,Nat.le_refl _,hi,fun x y a b hxy hy h1 h2 ha hb=>h x y a b hxy (by omega) ha hb,fun y a b h1 h2=>by omega⟩
theorem swap_split {α:Type} {d:List α} {j:Nat} {a b:α} (hb:d[j]? = some b) (ha:d[j+1]? = some a):d=d.take j++b::a::d.drop (j+2)∧(d.set (j+1) b).set j a=d.take j++a::b::d.drop (j+2):=by
 obtain ⟨h1,h2⟩:=List.getElem?_eq_some_iff.1 hb
 obtain ⟨h3,h4⟩:=List.getElem?_eq_some_iff.1 ha
 have e:d=d.take j++b::a::d.drop (j+2):=by
   conv=>lhs; rw [←List.take_append_drop j d,List.drop_eq_getElem_cons h1,h2,List.drop_eq_getElem_cons h3,h4]
 refine ⟨e,?_⟩
 have hl:(d.take j).length=j:=by simp; omega
 conv=>lhs; rw [e]
 rw [List.set_append_right _ _ (by omega),hl,show j+1-j=1 by omega,List.set_append_right _ _ (by omega),hl,Nat.sub_self]
 rfl
theorem ins_swap {α:Type} {R:α→α→Prop} {d0 d:List α} {i j:Nat} {a b:α} (h:InsInv R d0 d i (j+1)) (ha:d[j+1]? = some a) (hb:d[j]? = some b) (hr:R a b):InsInv R d0 ((d.set (j+1) b).set j a) i j:=by
 obtain ⟨e1,e2⟩:=swap_split hb ha
 have hj:=h.ji
 have hil:=h.il
 have g:∀x,((d.set (j+1) b).set j a)[x]? = if x=j then some a else if x=j+1 then some b else d[x]?:=by
   intro x
   rw [List.getElem?_set,List.getElem?_set]
   simp only [List.length_set]
   by_cases hx:x=j
   · subst hx; rw [if_pos rfl,if_pos (by omega),if_pos rfl]
   · rw [if_neg (fun e=>hx e.symm),if_neg hx]
     by_cases hx2:x=j+1
     · subst hx2; rw [if_pos rfl,if_pos (by omega),if_pos rfl]
     · rw [if_neg (fun e=>hx2 e.symm),if_neg hx2]
 refine ⟨?_,by omega,by simpa using hil,?_,?_⟩
 · rw [e2]
   refine List.Perm.trans ?_ h.perm
   conv=>rhs; rw [e1]
   exact List.Perm.append_left _ (List.Perm.swap _ _ _)
 · intro x y u v hxy hy h1 h2 hu hv
   rw [g,if_neg h1] at hu
   rw [g,if_neg h2] at hv
   by_cases hx:x=j+1
   · rw [if_pos hx] at hu
     injection hu with hu; subst hu
     rw [if_neg (by omega)] at hv
     exact h.ord j y b v (by omega) hy (by omega) (by omega) hb hv
   · rw [if_neg hx] at hu
     by_cases hy2:y=j+1
     · rw [if_pos hy2] at hv
       injection hv with hv; subst hv
       exact h.ord x j u b (by omega) (by omega) hx (by omega) hu hb
     · rw [if_neg hy2] at hv
       exact h.ord x y u v hxy hy hx hy2 hu hv
 · intro y u v h1 h2 hu hv
   rw [g,if_pos rfl] at hu
   injection hu with hu; subst hu
   rw [g,if_neg (by omega)] at hv
   by_cases hy:y=j+1
   · rw [if_pos hy] at hv
     injection hv with hv; subst hv
     exact hr
   · rw [if_neg hy] at hv
     exact h.up y a v (by omega) h2 ha hv
theorem ins_end0 {α:Type} {R:α→α→Prop} {d0 d:List α} {i:Nat} (h:InsInv R d0 d i 0):SortedUp R d (i+1):=by
 intro x y a b hxy hy ha hb
 by_cases hx:x=0
 · subst hx; exact h.up y a b hxy (by omega) ha hb
 · exact h.ord x y a b hxy (by omega) hx (by omega) ha hb
theorem ins_end {α:Type} {R:α→α→Prop} (ht:∀a b c,R a b→R b c→R a c) {d0 d:List α} {i j:Nat} {a b:α} (h:InsInv R d0 d i (j+1)) (ha:d[j+1]? = some a) (hb:d[j]? = some b) (hr:R b a):SortedUp R d (i+1):=by
 intro x y u v hxy hy hu hv
 by_cases hx:x=j+1
 · subst hx; exact h.up y u v hxy (by omega) hu hv
 · by_cases hy2:y=j+1
   · subst hy2
     rw [ha] at hv; injection hv with hv; subst hv
     by_cases hx2:x=j
     · subst hx2; rw [hb] at hu; injection hu with hu; subst hu; exact hr
     · exact ht u b a (h.ord x j u b (by omega) (by have:=h.ji; omega) hx (by omega) hu hb) hr
   · exact h.ord x y u v hxy (by omega) hx hy2 hu hv
def cmpT (a b:List UInt8):Int:=if ltT a b=true then -1 else if (!(ltT a b||a==b))=true then 1 else 0
theorem cmpT_neg {a b:List UInt8}:cmpT a b<0↔ltT a b=true:=by
 unfold cmpT
 by_cases h:ltT a b=true
 · simp [h]
 · rw [if_neg h]
   constructor
   · intro h2; split at h2<;>omega
   · intro h2; exact absurd h2 h
def tabD (d:List Nat) (s:Nat):List (GEnt Int):=match d with
 | []=>[]
 | i::r=>((i:Int),.int .i64 1,s)::tabD r (s+1)
theorem tabD_snoc:∀(d:List Nat) (i s:Nat),tabD (d++[i]) s=tabD d s++[((i:Int),.int .i64 1,s+d.length)]
 | [],i,s=>rfl
 | y::r,i,s=>by
   rw [List.cons_append,tabD,tabD_snoc r i,tabD,List.cons_append,List.length_cons,show s+1+r.length=s+(r.length+1) by omega]
theorem tabD_find (i:Nat):∀(d:List Nat) (s k:Nat),(gfind (i:Int) (tabD d s) k).map (·.2)=if d.contains i=true then some (.int .i64 1) else none
 | [],_,_=>rfl
 | x::r,s,k=>by
   rw [tabD,gfind]
   by_cases h:i=x
   · subst h; simp
   · rw [if_neg (by simpa using fun e:(i:Int)=(x:Int)=>h (by omega)),tabD_find i r (s+1) (k+1)]
     simp [h]
theorem tabD_get (i:Nat) (d:List Nat):gget (i:Int) (tabD d 0) (.int .i64 0) = .int .i64 (if d.contains i=true then 1 else 0):=by
 have h:=tabD_find i d 0 0
 unfold gget
 cases hf:gfind (i:Int) (tabD d 0) 0 with
 | none=>rw [hf] at h; split at h<;>simp_all
 | some r=>rw [hf] at h; split at h<;>simp_all
theorem tabD_put {i:Nat} {d:List Nat} (h:d.contains i=false):gput (i:Int) (.int .i64 1) (tabD d 0) d.length=tabD (d++[i]) 0∧gclock (i:Int) (tabD d 0) d.length=(d++[i]).length:=by
 have hf:=tabD_find i d 0 0
 rw [h,if_neg (by decide)] at hf
 have hf:gfind (i:Int) (tabD d 0) 0=none:=by simpa using hf
 unfold gput gclock
 rw [hf,tabD_snoc]
 simp
theorem best_of {l:List TMod} {d out:List Nat} {k b:Nat} (hp:d.Perm (List.range l.length)) (hs:SortedUp (ltN l) d d.length) (hk:d[k]? = some b) (hr:readyB l out b=true) (hno:∀x c,x<k→d[x]? = some c→readyB l out c=false):Best l out b:=by
 refine ⟨by simpa using hp.subset (List.mem_of_getElem? hk),hr,fun i hi hri=>?_⟩
 have hm:i ∈ d:=hp.symm.subset (by simpa using hi)
 obtain ⟨y,hy⟩:=List.getElem?_of_mem hm
 have hyl:=(List.getElem?_eq_some_iff.1 hy).1
 rcases Nat.lt_trichotomy y k with h | h | h
 · rw [hno y i h hy] at hri; cases hri
 · subst h; rw [hk] at hy; injection hy with hy; exact .inl hy.symm
 · exact .inr (hs k y b i h hyl hk hy)
theorem noReady_of {l:List TMod} {d out:List Nat} (hp:d.Perm (List.range l.length)) (hno:∀x c:Nat,d[x]? = some c→readyB l out c=false):NoReady l out:=fun i hi=>by
 have hm:i ∈ d:=hp.symm.subset (by simpa using hi)
 obtain ⟨y,hy⟩:=List.getElem?_of_mem hm
 exact hno y i hy
end Go.Bw
end
section
namespace Go.Bw
open Go Go.RowKit Go.Maps Go.Sort
open Go.WideElems (Fit rd rg pl rd_val rd_mk rg_of)
set_option linter.unusedVariables false
set_option linter.unusedSimpArgs false
def Rany:Value→Option (DataW Unit×List MemPlace):=fun _=>some (.map [],[])
structure MapOk (M:List (GEnt (List UInt8))) (c:Nat):Prop where
 nd:(M.map (·.1)).Nodup
 len:∀e ∈ M,e.1.length≤maxLen
 size:M.length≤maxLen
 born:M.map (·.2.2)=List.range M.length
 clock:c=M.length
theorem key_st {P:Program} {k:TypeId} (hk:P.underlying k=some .string) {x:List UInt8} (hx:x.length≤maxLen):keyOf P k (st x)=some (.string x):=by
 rw [keyOf_string hk]
 simp [mapKey,hk,st]
 exact hx
theorem ownsMap_gobj {P:Program} {k:TypeId} (hk:P.underlying k=some .string) {w:World} {b c:Nat} {M:List (GEnt (List UInt8))} (h:MapOk M c) (hb:w.heap[b]? = some (gobj st M c)) :
   ∃D0:DataW Unit,w.ownsMap P k Rany b M.length D0∧(strKeys D0).Perm (M.map (·.1))∧Maps.size D0=M.length:=by
 have hrd:∀e ∈ M,rd P k Rany (gent st e)=some (.string e.1,.map []):=fun e he=>rd_mk (R:=Rany) (val:=e.2.1) (born:=e.2.2) (yv:=(.map [],[])) (key_st hk (h.len e he)) rfl
 have hrg:((M.map (gent st)).toArray.toList.map (rg P k Rany))=M.map fun e=>(Lit.string e.1,(DataW.map []:DataW Unit)):=by
   simp only [List.map_map]
   exact List.map_congr_left fun e he=>rg_of (hrd e he)
 refine ⟨.map (((M.map (gent st)).toArray.toList.map (rg P k Rany)).foldr DataW.insert []),⟨(M.map (gent st)).toArray,c,hb,⟨?_,⟨?_,?_,?_⟩,?_⟩,by simp,rfl⟩,?_,?_⟩
 · simpa using h.size
 · intro x hx
   have hx:x ∈ M.map (gent st):=hx
   obtain ⟨e,he,rfl⟩:=List.mem_map.1 hx
   have:e.2.2 ∈ M.map (·.2.2):=List.mem_map.2 ⟨e,he,rfl⟩
   rw [h.born] at this
   rw [h.clock]
   simpa [gent] using this
 · have:((M.map (gent st)).toArray.toList.map (·.born))=M.map (·.2.2):=by simp [gent,Function.comp_def]
   rw [this,h.born]
   exact List.nodup_range
 · have:((M.map (gent st)).toArray.toList.map (·.key))=(M.map (·.1)).map st:=by simp [gent,Function.comp_def]
   rw [this]
   exact List.pairwise_map.2 (h.nd.imp fun hab e=>hab (by simpa [st] using e))
 · intro x hx
   have hx:x ∈ M.map (gent st):=hx
   obtain ⟨e,he,rfl⟩:=List.mem_map.1 hx
   exact ⟨_,hrd e he⟩
 · show ((List.foldr DataW.insert [] _).map fun p=>strOf p.1).Perm _
   rw [hrg]
   refine ((WideShapes.sorted_perm _).map _).trans ?_
   simp [Function.comp_def,strOf]
 · show (List.foldr DataW.insert [] _).length=_
   rw [length_sorted]
   simp
end Go.Bw
end
section
namespace Go.Bw
open Go
set_option linter.unusedVariables false
set_option linter.unusedSimpArgs false
section
variable {κ:Type} [BEq κ] [LawfulBEq κ]
theorem gfind_some (k:κ):∀(m:List (GEnt κ)) (i j:Nat) (v:Value),gfind k m i=some (j,v)→i≤j∧∃b,m[j-i]? = some (k,v,b)
 | [],i,j,v,h=>by simp [gfind] at h
 | e::r,i,j,v,h=>by
   simp only [gfind] at h
   split at h
   · rename_i he
     have he2:e.1=k:=(eq_of_beq he).symm
     injection h with h
     injection h with h1 h2
     subst h1 h2
     exact ⟨Nat.le_refl _,e.2.2,by rw [Nat.sub_self,List.getElem?_cons_zero,←he2]⟩
   · obtain ⟨h1,b,h2⟩:=gfind_some k r (i+1) j v h
     refine ⟨by omega,b,?_⟩
     rw [show j-i=(j-(i+1))+1 by omega,List.getElem?_cons_succ]
     exact h2
theorem gfind_none (k:κ):∀(m:List (GEnt κ)) (i:Nat),gfind k m i=none↔k ∉ m.map (·.1)
 | [],i=>by simp [gfind]
 | e::r,i=>by
   simp only [gfind,List.map_cons,List.mem_cons,not_or]
   split
   · rename_i he
     have he2:e.1=k:=(eq_of_beq he).symm
     exact ⟨fun h=>(by cases h),fun h=>absurd he2.symm h.1⟩
   · rename_i he
     have he2:¬k=e.1:=fun e2=>he (by simp [e2])
     rw [gfind_none k r (i+1)]
     exact ⟨fun h=>⟨he2,h⟩,fun h=>h.2⟩
theorem gput_keys (k:κ) (v:Value) (m:List (GEnt κ)) (c:Nat):((k ∈ m.map (·.1))∧(gput k v m c).map (·.1)=m.map (·.1)∧(gput k v m c).map (·.2.2)=m.map (·.2.2)∧gclock k m c=c)∨
   (k ∉ m.map (·.1)∧gput k v m c=m++[(k,v,c)]∧gclock k m c=c+1):=by
 unfold gput gclock
 cases hf:gfind k m 0 with
 | none=>exact .inr ⟨(gfind_none k m 0).1 hf,rfl,rfl⟩
 | some r=>
   obtain ⟨j,u⟩:=r
   obtain ⟨_,b,hb⟩:=gfind_some k m 0 j u hf
   rw [Nat.sub_zero] at hb
   refine .inl ⟨List.mem_map.2 ⟨_,List.mem_of_getElem? hb,rfl⟩,?_,?_,rfl⟩
   all_goals
     apply List.ext_getElem?
     intro i
     simp only [List.getElem?_map,List.getElem?_modify]
     by_cases hij:j=i
     · subst hij; rw [hb]; simp
     · simp [hij]
theorem gget_gput (k:κ) (v:Value) (m:List (GEnt κ)) (c:Nat) (z:Value):gget k (gput k v m c) z=v:=by
 have key:∃e,gfind k (gput k v m c) 0=some (e,v):=by
   unfold gput
   cases hf:gfind k m 0 with
   | none=>
     have h1:∀(m:List (GEnt κ)) (i:Nat),gfind k m i=none→gfind k (m++[(k,v,c)]) i=some (i+m.length,v):=by
       intro m
       induction m with
       | nil=>intro i _; simp [gfind]
       | cons e r ih=>
         intro i h
         simp only [gfind,List.cons_append] at h ⊢
         split at h
         · cases h
         · rename_i he
           rw [if_neg he,ih _ h,List.length_cons]
           congr 2
           omega
     exact ⟨_,h1 m 0 hf⟩
   | some r=>
     obtain ⟨j,u⟩:=r
     have h1:∀(m:List (GEnt κ)) (i:Nat),gfind k m i=some (j,u)→gfind k (m.modify (j-i) fun e=>(k,v,e.2.2)) i=some (j,v):=by
       intro m
       induction m with
       | nil=>intro i h; simp [gfind] at h
       | cons e r ih=>
         intro i h
         simp only [gfind] at h
         split at h
         · injection h with h
           injection h with h1 h2
           subst h1
           rw [Nat.sub_self]
           simp [gfind]
         · rename_i he
           have hle:=(gfind_some k r (i+1) j u h).1
           rw [show j-i=(j-(i+1))+1 by omega,List.modify_succ_cons,gfind,if_neg he]
           exact ih _ h
     exact ⟨_,h1 m 0 hf⟩
 obtain ⟨e,he⟩:=key
 unfold gget
 rw [he]
end
structure NeedSt (M:List (GEnt (List UInt8))) (c p:Nat):Prop where
 nd:(M.map (·.1)).Nodup
 born:M.map (·.2.2)=List.range M.length
 clock:c=M.length
 cnt:∀x v,gget x M (.int .i64 0)=v→∃n:Nat,n≤p∧v = .int .i64 (n:Int)∧(n=0↔x ∉ M.map (·.1))
theorem needSt_nil:NeedSt [] 0 0:=⟨by simp,rfl,rfl,fun x v h=>⟨0,Nat.le_refl _,h.symm,by simp⟩⟩
theorem gget_other {κ:Type} [BEq κ] [LawfulBEq κ] {k k':κ} (v:Value) (m:List (GEnt κ)) (c:Nat) (z:Value) (h:k'≠k):gget k' (gput k v m c) z=gget k' m z:=by
 have h1:∀(m:List (GEnt κ)) (i:Nat),(gfind k' (m++[(k,v,c)]) i).map (·.2)=(gfind k' m i).map (·.2):=by
   intro m
   induction m with
   | nil=>intro i; simp [gfind,h]
   | cons e r ih=>intro i; simp only [gfind,List.cons_append]; split<;>simp [ih]
 have h2:∀(m:List (GEnt κ)) (i j:Nat),(m[j]?.map (·.1)=some k)→(gfind k' (m.modify j fun e=>(k,v,e.2.2)) i).map (·.2)=(gfind k' m i).map (·.2):=by
   intro m
   induction m with
   | nil=>intro i j hj; simp at hj
   | cons e r ih=>
     intro i j hj
     cases j with
     | zero=>
       have hj2:e.1=k:=by simpa using hj
       have hne:¬(k'==e.1)=true:=by rw [hj2]; simpa using h
       have hne2:¬(k'==k)=true:=by simpa using h
       rw [List.modify_zero_cons,gfind,gfind,if_neg hne,if_neg (show ¬(k'==(k,v,e.2.2).1)=true from hne2)]
     | succ j=>
       rw [List.modify_succ_cons,gfind,gfind]
       split
       · rfl
       · exact ih _ _ (by simpa using hj)
 have h3:(gfind k' (gput k v m c) 0).map (·.2)=(gfind k' m 0).map (·.2):=by
   unfold gput
   cases hf:gfind k m 0 with
   | none=>exact h1 m 0
   | some r=>
     obtain ⟨j,u⟩:=r
     obtain ⟨_,b,hb⟩:=gfind_some k m 0 j u hf
     rw [Nat.sub_zero] at hb
     exact h2 m 0 j (by rw [hb]; rfl)
 unfold gget
 cases ha:gfind k' (gput k v m c) 0 with
 | none=>rw [ha] at h3; cases hb:gfind k' m 0 with | none=>rfl | some r=>rw [hb] at h3; cases h3
 | some q=>rw [ha] at h3; cases hb:gfind k' m 0 with
   | none=>rw [hb] at h3; cases h3
   | some r=>rw [hb] at h3; simp at h3; simp [h3]
theorem NeedSt.put {M:List (GEnt (List UInt8))} {c p n:Nat} {x:List UInt8} (h:NeedSt M c p) (hn:n≤p) (h0:n=0↔x ∉ M.map (·.1)) :
   NeedSt (gput x (.int .i64 ((n+1:Nat):Int)) M c) (gclock x M c) (p+1)∧(gput x (.int .i64 ((n+1:Nat):Int)) M c).map (·.1)=(if n=0 then M.map (·.1)++[x] else M.map (·.1)):=by
 have hcnt:∀y v,gget y (gput x (.int .i64 ((n+1:Nat):Int)) M c) (.int .i64 0)=v→∃k:Nat,k≤p+1∧v = .int .i64 (k:Int)∧(k=0↔y ∉ (if n=0 then M.map (·.1)++[x] else M.map (·.1))):=by
   intro y v hv
   by_cases hy:y=x
   · subst hy
     rw [gget_gput] at hv
     refine ⟨n+1,by omega,hv.symm,?_⟩
     split
     · simp
     · rename_i hne
       exact ⟨fun h=>by omega,fun h2=>absurd (h0.2 h2) hne⟩
   · rw [gget_other _ _ _ _ hy] at hv
     obtain ⟨k,h1,h2,h3⟩:=h.cnt y v hv
     refine ⟨k,by omega,h2,h3.trans ?_⟩
     split
     · simp [hy]
     · rfl
 rcases gput_keys x (.int .i64 ((n+1:Nat):Int)) M c with ⟨h1,h2,h3,h4⟩ | ⟨h1,h2,h3⟩
 · have hne:¬n=0:=fun e=>h0.1 e h1
   rw [if_neg hne] at hcnt ⊢
   have hlen:(gput x (.int .i64 ((n+1:Nat):Int)) M c).length=M.length:=by have:=congrArg List.length h2; simpa using this
   exact ⟨⟨by rw [h2]; exact h.nd,by rw [h3,hlen]; exact h.born,by rw [h4,hlen]; exact h.clock,fun y v hv=>by rw [h2]; exact hcnt y v hv⟩,h2⟩
 · have he:n=0:=h0.2 h1
   rw [if_pos he] at hcnt ⊢
   have hk:(gput x (.int .i64 ((n+1:Nat):Int)) M c).map (·.1)=M.map (·.1)++[x]:=by rw [h2]; simp
   refine ⟨⟨?_,?_,?_,fun y v hv=>by rw [hk]; exact hcnt y v hv⟩,hk⟩
   · rw [hk,List.nodup_append]
     exact ⟨h.nd,by simp,fun a ha b hb e=>by rw [List.mem_singleton] at hb; subst hb; subst e; exact h1 ha⟩
   · rw [h2,List.map_append,h.born,List.length_append,List.length_singleton,List.range_succ,h.clock]; rfl
   · rw [h3,h2,h.clock]; simp
structure NeedW (l:List TMod) (nm:List UInt8) (ds nx:List (List UInt8)):Prop where
 base:∀s ∈ usesN l nm,s ∈ ds∨s ∈ nx
 step:∀b ∈ ds,∀s ∈ usesN l b,s ∈ ds∨s ∈ nx
 sound:∀s,s ∈ ds∨s ∈ nx→Reach l nm s
theorem needW_start (l:List TMod) (nm:List UInt8):NeedW l nm [] (usesN l nm):=⟨fun s h=>.inr h,fun b h=>by simp at h,fun s h=>by
 rcases h with h | h
 · simp at h
 · exact .base h⟩
theorem NeedW.old {l:List TMod} {nm x:List UInt8} {ds r:List (List UInt8)} (h:NeedW l nm ds (x::r)) (hx:x ∈ ds):NeedW l nm ds r:=by
 have key:∀s,s ∈ ds∨s ∈ x::r→s ∈ ds∨s ∈ r:=fun s hs=>by
   rcases hs with hs | hs
   · exact .inl hs
   · rcases List.mem_cons.1 hs with e | hs
     · subst e; exact .inl hx
     · exact .inr hs
 exact ⟨fun s hs=>key s (h.base s hs),fun b hb s hs=>key s (h.step b hb s hs),fun s hs=>h.sound s (hs.imp id (List.mem_cons_of_mem _))⟩
theorem NeedW.new {l:List TMod} {nm x:List UInt8} {ds r:List (List UInt8)} (h:NeedW l nm ds (x::r)):NeedW l nm (ds++[x]) (r++usesN l x):=by
 have key:∀s,s ∈ ds∨s ∈ x::r→s ∈ ds++[x]∨s ∈ r++usesN l x:=fun s hs=>by
   rcases hs with hs | hs
   · exact .inl (List.mem_append_left _ hs)
   · rcases List.mem_cons.1 hs with e | hs
     · subst e; exact .inl (by simp)
     · exact .inr (List.mem_append_left _ hs)
 refine ⟨fun s hs=>key s (h.base s hs),fun b hb s hs=>?_,fun s hs=>?_⟩
 · rcases List.mem_append.1 hb with hb | hb
   · exact key s (h.step b hb s hs)
   · rw [List.mem_singleton] at hb; subst hb
     exact .inr (List.mem_append_right _ hs)
 · rcases hs with hs | hs
   · rcases List.mem_append.1 hs with hs | hs
     · exact h.sound s (.inl hs)
     · rw [List.mem_singleton] at hs; subst hs
       exact h.sound _ (.inr (by simp))
   · rcases List.mem_append.1 hs with hs | hs
     · exact h.sound s (.inr (List.mem_cons_of_mem _ hs))
     · exact .step (h.sound x (.inr (by simp))) hs
theorem NeedW.fin {l:List TMod} {nm:List UInt8} {ds:List (List UInt8)} (h:NeedW l nm ds []) (s:List UInt8):s ∈ ds↔Reach l nm s:=
 ClosedN.iff (S:=fun s=>s ∈ ds) ⟨fun s hs=>(h.base s hs).resolve_right (by simp),fun b hb s hs=>(h.step b hb s hs).resolve_right (by simp),fun s hs=>h.sound s (.inl hs)⟩ s
def remN (l:List TMod) (ds:List (List UInt8)):Nat:=((List.range l.length).map fun i=>if nmAt l i ∈ ds then 0 else (usesAt l i).length).sum
theorem sum_but {f g:Nat→Nat} {j a:Nat}:∀{r:List Nat},r.Nodup→j ∈ r→(∀i ∈ r,i≠j→f i=g i)→f j=g j+a→(r.map f).sum=(r.map g).sum+a
 | [],_,h,_,_=>by simp at h
 | x::r,hn,hj,he,ha=>by
   rw [List.map_cons,List.map_cons,List.sum_cons,List.sum_cons]
   obtain ⟨hx,hn2⟩:=List.nodup_cons.1 hn
   rcases List.mem_cons.1 hj with e | hj
   · subst e
     have:r.map f=r.map g:=List.map_congr_left fun i hi=>he i (by simp [hi]) (fun e=>hx (e▸hi))
     rw [this,ha]; omega
   · rw [sum_but hn2 hj (fun i hi=>he i (by simp [hi])) ha,he x (by simp) (fun e=>hx (e▸hj))]; omega
theorem remN_step {l:List TMod} (hn:(namesL l).Nodup) {x:List UInt8} {ds:List (List UInt8)} {j:Nat} (hj:placeL l x=some j) (hx:x ∉ ds):remN l ds=remN l (ds++[x])+(usesAt l j).length:=by
 obtain ⟨hlt,hnm⟩:=placeL_at hj
 refine sum_but (j:=j) List.nodup_range (by simpa using hlt) (fun i hi hij=>?_) ?_
 · have hne:nmAt l i≠x:=fun e=>hij (nm_inj hn (by simpa using hi) hlt (e.trans hnm.symm))
   simp [hne]
 · rw [hnm,if_neg hx,if_pos (by simp)]; omega
theorem remN_le {l:List TMod} {k:Nat} (h:∀m ∈ l,m.uses.length≤k) (ds:List (List UInt8)):remN l ds≤l.length*k:=by
 have:∀r:List Nat,(∀i ∈ r,i<l.length)→(r.map fun i=>if nmAt l i ∈ ds then 0 else (usesAt l i).length).sum≤r.length*k:=by
   intro r
   induction r with
   | nil=>intro _; simp
   | cons x r ih=>
     intro hr
     have h1:=ih fun i hi=>hr i (by simp [hi])
     have h2:(if nmAt l x ∈ ds then 0 else (usesAt l x).length)≤k:=by
       split
       · omega
       · have hlt:=hr x (by simp)
         rw [usesAt_get (List.getElem?_eq_getElem hlt)]
         exact h _ (List.getElem_mem hlt)
     rw [List.map_cons,List.sum_cons,List.length_cons,Nat.add_mul]
     omega
 have:=this (List.range l.length) (by simp)
 simpa [remN] using this
theorem ltT_iff:∀x y:List UInt8,ltT x y=true↔x<y
 | [],[]=>by simp [ltT,Op.bytesLess]
 | [],_::_=>by simp [ltT,Op.bytesLess]
 | _::_,[]=>by simp [ltT,Op.bytesLess]
 | a::x,b::y=>by
   rw [ltT_cons,List.cons_lt_cons_iff,←ltT_iff x y]
   simp
theorem sortedT_merge {ks:List (List UInt8)} (hn:ks.Nodup):SortedT (ks.mergeSort fun x y=>decide (x≤y))∧∀s,s ∈ ks.mergeSort (fun x y=>decide (x≤y))↔s ∈ ks:=by
 refine ⟨?_,fun s=>(List.mergeSort_perm ks _).mem_iff⟩
 have h1:(ks.mergeSort fun x y=>decide (x≤y)).Pairwise fun x y=>decide (x≤y)=true:=List.pairwise_mergeSort (fun a b c h1 h2=>by simp only [decide_eq_true_eq] at *; exact List.le_trans h1 h2) (fun a b=>by simp only [Bool.or_eq_true,decide_eq_true_eq]; exact List.le_total a b) ks
 have h2:(ks.mergeSort fun x y=>decide (x≤y)).Nodup:=(List.mergeSort_perm ks _).nodup_iff.2 hn
 refine (h1.and h2).imp fun {a b} hab=>?_
 rcases ltT_tri a b hab.2 with h | h
 · exact h
 · have hle:a≤b:=by simpa using hab.1
   exact absurd ((ltT_iff b a).1 h) (List.not_lt.2 hle)
end Go.Bw
end
section
namespace Go.Bw
open Go
set_option linter.unusedVariables false
set_option linter.unusedSimpArgs false
def SubM (a b:List Bool):Prop:=∀j:Nat,a[j]? = some true→b[j]? = some true
theorem SubM.refl (a:List Bool):SubM a a:=fun _ h=>h
theorem SubM.count:∀{a b:List Bool},a.length=b.length→SubM a b→a.count true≤b.count true∧(b.count true≤a.count true→a=b)
 | [],[],_,_=>⟨Nat.le_refl _,fun _=>rfl⟩
 | [],_::_,h,_=>by cases h
 | _::_,[],h,_=>by cases h
 | x::a,y::b,h,hs=>by
   obtain ⟨h1,h2⟩:=SubM.count (a:=a) (b:=b) (by simpa using h) fun j hj=>by simpa using hs (j+1) (by simpa using hj)
   have h0:x=true→y=true:=fun e=>by simpa using hs 0 (by simp [e])
   cases x<;>cases y<;>simp at h0 ⊢
   · exact ⟨h1,h2⟩
   · exact ⟨by omega,by omega⟩
   · exact ⟨h1,h2⟩
theorem SubM.set (a:List Bool) (p:Nat):SubM a (a.set p true):=fun j h=>by
 have hlt:=(List.getElem?_eq_some_iff.1 h).1
 rw [List.getElem?_set]
 by_cases e:p=j
 · subst e; simp [hlt]
 · rw [if_neg e]; exact h
theorem SubM.trans {a b c:List Bool} (h:SubM a b) (k:SubM b c):SubM a c:=fun j hj=>k j (h j hj)
def actM (l:List TMod) (nm:List UInt8) (S:List Bool) (j:Nat):Prop:=S[j]? = some true∨nmAt l j=nm
def metM (l:List TMod) (S:List Bool) (s:List UInt8):Prop:=∃p,placeL l s=some p∧S[p]? = some true
theorem metM.sub {l:List TMod} {a b:List Bool} {s:List UInt8} (h:metM l a s) (hs:SubM a b):metM l b s:=let ⟨p,h1,h2⟩:=h; ⟨p,h1,hs p h2⟩
def ClosedM (l:List TMod) (nm:List UInt8) (S:List Bool):Prop:=∀j,j<l.length→actM l nm S j→∀s ∈ usesAt l j,metM l S s
structure MkOk (l:List TMod) (nm:List UInt8) (S:List Bool):Prop where
 len:S.length=l.length
 sound:∀j,S[j]? = some true→Go.Bw.Reach l nm (nmAt l j)
structure RoundM (l:List TMod) (nm:List UInt8) (S0 S:List Bool) (j:Nat):Prop where
 ok:MkOk l nm S
 sub:SubM S0 S
 same:ClosedM l nm S0→S=S0
 done:∀i,i<j→actM l nm S0 i→∀s ∈ usesAt l i,metM l S s
theorem round_start {l:List TMod} {nm:List UInt8} {S:List Bool} (h:MkOk l nm S):RoundM l nm S S 0:=⟨h,SubM.refl S,fun _=>rfl,fun i hi=>by omega⟩
theorem RoundM.mark {l:List TMod} {nm:List UInt8} {S0 S:List Bool} {j p:Nat} {s:List UInt8} (h:RoundM l nm S0 S j) (hj:j<l.length) (ha:actM l nm S j) (hs:s ∈ usesAt l j) (hp:placeL l s=some p) (hn:(namesL l).Nodup) :
   RoundM l nm S0 (S.set p true) j∧metM l (S.set p true) s:=by
 obtain ⟨hpl,hpn⟩:=placeL_at hp
 have hset:(S.set p true)[p]? = some true:=by rw [List.getElem?_set]; simp [h.ok.len,hpl]
 have hus:usesN l (nmAt l j)=usesAt l j:=by unfold usesN; rw [place_nm hn hj]
 have hr:Go.Bw.Reach l nm s:=by
   rcases ha with ha | ha
   · exact .step (h.ok.sound j ha) (by rw [hus]; exact hs)
   · exact .base (by rw [←ha,hus]; exact hs)
 refine ⟨⟨⟨by rw [List.length_set]; exact h.ok.len,fun i hi=>?_⟩,h.sub.trans (SubM.set S p),fun hc=>?_,fun i hi hia u hu=>(h.done i hi hia u hu).sub (SubM.set S p)⟩,p,hp,hset⟩
 · rw [List.getElem?_set] at hi
   by_cases e:p=i
   · subst e; rw [hpn]; exact hr
   · rw [if_neg e] at hi; exact h.ok.sound i hi
 · have he:=h.same hc
   subst he
   obtain ⟨p',hp',hm⟩:=hc j hj ha s hs
   rw [hp] at hp'
   injection hp' with hp'
   subst hp'
   obtain ⟨hlt,hv⟩:=List.getElem?_eq_some_iff.1 hm
   rw [←hv]
   exact List.set_getElem_self hlt
theorem RoundM.next {l:List TMod} {nm:List UInt8} {S0 S:List Bool} {j:Nat} (h:RoundM l nm S0 S j) (hj:actM l nm S0 j→∀s ∈ usesAt l j,metM l S s):RoundM l nm S0 S (j+1):=
 ⟨h.ok,h.sub,h.same,fun i hi hia=>by
   rcases Nat.lt_succ_iff_lt_or_eq.1 hi with h2 | h2
   · exact h.done i h2 hia
   · subst h2; exact hj hia⟩
def RoundsM (l:List TMod) (nm:List UInt8) (S:List Bool) (i:Nat):Prop:=MkOk l nm S∧(ClosedM l nm S∨i≤S.count true)
theorem rounds_step {l:List TMod} {nm:List UInt8} {S0 S:List Bool} {i:Nat} (h0:RoundsM l nm S0 i) (h:RoundM l nm S0 S l.length):RoundsM l nm S (i+1):=by
 refine ⟨h.ok,?_⟩
 obtain ⟨h1,h2⟩:=SubM.count (h0.1.len.trans h.ok.len.symm) h.sub
 have hsame:S=S0→ClosedM l nm S:=fun e=>by
   subst e
   exact fun j hj ha s hs=>h.done j hj ha s hs
 rcases h0.2 with hc | hc
 · exact .inl (hsame (h.same hc))
 · rcases Nat.lt_or_ge (S0.count true) (S.count true) with h3 | h3
   · exact .inr (by omega)
   · exact .inl (hsame (h2 h3).symm)
theorem rounds_end {l:List TMod} {nm:List UInt8} {S:List Bool} (h:RoundsM l nm S (l.length+1)):ClosedM l nm S:=by
 rcases h.2 with hc | hc
 · exact hc
 · have:=List.count_le_length (a:=true) (l:=S)
   have:=h.1.len
   omega
theorem marks_reach {l:List TMod} (hn:(namesL l).Nodup) {nm:List UInt8} {S:List Bool} (h:MkOk l nm S) (hc:ClosedM l nm S) (s:List UInt8):metM l S s↔Go.Bw.Reach l nm s:=by
 refine ClosedN.iff (S:=fun s=>metM l S s) ⟨fun s hs=>?_,fun b hb s hs=>?_,fun s hs=>?_⟩ s
 · unfold usesN at hs
   split at hs
   · rename_i i hi
     exact hc i (placeL_at hi).1 (.inr (placeL_at hi).2) s hs
   · simp at hs
 · obtain ⟨p,hp,hm⟩:=hb
   unfold usesN at hs
   rw [hp] at hs
   exact hc p (placeL_at hp).1 (.inl hm) s hs
 · obtain ⟨p,hp,hm⟩:=hs
   have:=h.sound p hm
   rwa [(placeL_at hp).2] at this
def ltR (a b:List UInt8):Prop:=ltT a b=true
def mkNames (l:List TMod) (S:List Bool) (i:Nat):List (List UInt8):=((List.range i).filter fun j=>(S[j]?).getD false).map (nmAt l)
structure NamesM (l:List TMod) (S:List Bool) (i:Nat) (out:List (List UInt8)):Prop where
 perm:out.Perm (mkNames l S i)
 up:SortedUp ltR out out.length
theorem names_nil (l:List TMod) (S:List Bool):NamesM l S 0 []:=⟨by simp [mkNames],fun x y a b h1 h2=>by simp at h2⟩
theorem mkNames_skip {l:List TMod} {S:List Bool} {i:Nat} (h:S[i]? = some false):mkNames l S (i+1)=mkNames l S i:=by
 unfold mkNames
 rw [List.range_succ,List.filter_append,List.map_append]
 simp [h]
theorem mkNames_take {l:List TMod} {S:List Bool} {i:Nat} (h:S[i]? = some true):mkNames l S (i+1)=mkNames l S i++[nmAt l i]:=by
 unfold mkNames
 rw [List.range_succ,List.filter_append,List.map_append]
 simp [h]
theorem mkNames_nodup {l:List TMod} (hn:(namesL l).Nodup) {S:List Bool} {i:Nat} (hi:i≤l.length):(mkNames l S i).Nodup:=by
 unfold mkNames
 refine List.pairwise_map.2 ?_
 have h1:((List.range i).filter fun j=>(S[j]?).getD false).Nodup:=List.nodup_range.filter _
 refine h1.imp_of_mem fun {a b} ha hb hab e=>hab ?_
 have ha2:=List.mem_range.1 (List.mem_filter.1 ha).1
 have hb2:=List.mem_range.1 (List.mem_filter.1 hb).1
 exact nm_inj hn (by omega) (by omega) e
theorem mkNames_len (l:List TMod) (S:List Bool) (i:Nat):(mkNames l S i).length≤i:=by
 unfold mkNames
 rw [List.length_map]
 exact Nat.le_trans (List.length_filter_le _ _) (by simp)
theorem mem_mkNames {l:List TMod} (hn:(namesL l).Nodup) {S:List Bool} (hl:S.length=l.length) (s:List UInt8):s ∈ mkNames l S l.length↔metM l S s:=by
 unfold mkNames metM
 constructor
 · intro h
   obtain ⟨j,hj,rfl⟩:=List.mem_map.1 h
   obtain ⟨h1,h2⟩:=List.mem_filter.1 hj
   have h1:=List.mem_range.1 h1
   refine ⟨j,place_nm hn h1,?_⟩
   rw [List.getElem?_eq_getElem (by omega)] at h2 ⊢
   simpa using h2
 · rintro ⟨p,hp,hm⟩
   obtain ⟨h1,h2⟩:=placeL_at hp
   exact List.mem_map.2 ⟨p,List.mem_filter.2 ⟨List.mem_range.2 h1,by rw [hm]; rfl⟩,h2⟩
theorem NamesM.sorted {l:List TMod} {S:List Bool} {i:Nat} {out:List (List UInt8)} (h:NamesM l S i out):SortedT out:=by
 unfold SortedT
 rw [List.pairwise_iff_getElem]
 intro x y hx hy hxy
 exact h.up x y _ _ hxy hy (List.getElem?_eq_getElem hx) (List.getElem?_eq_getElem hy)
theorem names_start {l:List TMod} {S:List Bool} {i:Nat} {out:List (List UInt8)} (h:NamesM l S i out) (hs:S[i]? = some true):InsInv ltR (out++[nmAt l i]) (out++[nmAt l i]) out.length out.length:=
 ins_start (List.Perm.refl _) (by simp) fun x y a b hxy hy ha hb=>by
   rw [List.getElem?_append_left (by omega)] at ha hb
   exact h.up x y a b hxy (by omega) ha hb
theorem names_next {l:List TMod} {S:List Bool} {i:Nat} {out d:List (List UInt8)} (h:NamesM l S i out) (hs:S[i]? = some true) (hp:d.Perm (out++[nmAt l i])) (hu:SortedUp ltR d (out.length+1)):NamesM l S (i+1) d:=by
 refine ⟨?_,?_⟩
 · rw [mkNames_take hs]
   exact hp.trans (List.Perm.append_right _ h.perm)
 · have hl:d.length=out.length+1:=by rw [hp.length_eq]; simp
   rw [hl]
   exact hu
theorem names_skip {l:List TMod} {S:List Bool} {i:Nat} {out:List (List UInt8)} (h:NamesM l S i out) (hs:S[i]? = some false):NamesM l S (i+1) out:=⟨by rw [mkNames_skip hs]; exact h.perm,h.up⟩
end Go.Bw
end
section
namespace Go.Proofs
open Go.Shelf
def Try.keys23_ren:Go.Shelf.Ren:=⟨fun | 7=>23 | 10=>34 | n=>n,fun | 23=>51 | 26=>9 | 3=>3 | 28=>59 | 0=>0 | 27=>58 | 33=>54 | 4=>4 | n=>n,fun | n=>n⟩
theorem Try.keys23:Go.Proofs.SlLaysZ.n7 Try.prog Try.keys23_ren:={
 mixed:=by kernel_rfl
 f7:=⟨Try.f23.name,by decide,Try.func23.trans (congrArg some (by kernel_rfl))⟩
 f10:=⟨Try.f34.name,by decide,Try.func34.trans (congrArg some (by kernel_rfl))⟩
 t0:=Try.underlying0
 a0:=Try.isAgg0
 z0:=Try.sizeOf0
 v0:=Try.zeroValue0
 t4:=Try.underlying4
 a4:=Try.isAgg4
 z4:=Try.sizeOf4
 v4:=Try.zeroValue4
 t23:=Try.underlying51
 a23:=Try.isAgg51
 z23:=Try.sizeOf51
 v23:=Try.zeroValue51
 t26:=Try.underlying9
 a26:=Try.isAgg9
 z26:=Try.sizeOf9
 v26:=Try.zeroValue9
 t27:=Try.underlying58
 a27:=Try.isAgg58
 z27:=Try.sizeOf58
 v27:=Try.zeroValue58
 t28:=Try.underlying59
 a28:=Try.isAgg59
 z28:=Try.sizeOf59
 v28:=Try.zeroValue59
 t33:=Try.underlying54
 a33:=Try.isAgg54
 z33:=Try.sizeOf54
 v33:=Try.zeroValue54 }
def Try.sorted22_ren:Go.Shelf.Ren:=⟨fun | 6=>22 | 8=>32 | 9=>33 | 11=>53 | 13=>29 | 12=>54 | 23=>51 | 24=>52 | 14=>64 | 15=>65 | 16=>66 | 17=>67 | 18=>68 | 19=>69 | 20=>70 | 21=>71 | 22=>72 | 25=>80 | 26=>60 | 27=>61 | 28=>81 | 29=>82 | 30=>30 | 31=>88 | n=>n,fun | 26=>9 | 28=>59 | 24=>27 | 0=>0 | 3=>3 | 37=>67 | 48=>94 | 50=>96 | 4=>4 | 40=>88 | 39=>87 | 45=>55 | 5=>5 | 9=>9 | 51=>110 | 55=>114 | 57=>125 | 58=>126 | 33=>54 | n=>n,fun | n=>n⟩
theorem Try.sorted22:Go.Proofs.SlLaysZ.n6 Try.prog Try.sorted22_ren:={
 mixed:=by kernel_rfl
 f6:=⟨Try.f22.name,by decide,Try.func22.trans (congrArg some (by kernel_rfl))⟩
 f8:=⟨Try.f32.name,by decide,Try.func32.trans (congrArg some (by kernel_rfl))⟩
 f11:=⟨Try.f53.name,by decide,Try.func53.trans (congrArg some (by kernel_rfl))⟩
 t0:=Try.underlying0
 a0:=Try.isAgg0
 z0:=Try.sizeOf0
 v0:=Try.zeroValue0
 t24:=Try.underlying27
 a24:=Try.isAgg27
 z24:=Try.sizeOf27
 v24:=Try.zeroValue27
 t26:=Try.underlying9
 a26:=Try.isAgg9
 z26:=Try.sizeOf9
 v26:=Try.zeroValue9
 t28:=Try.underlying59
 a28:=Try.isAgg59
 z28:=Try.sizeOf59
 v28:=Try.zeroValue59
 i26:=by kernel_rfl }
def Try.sort33_ren:Go.Shelf.Ren:=⟨fun | 6=>33 | 8=>29 | 9=>54 | 19=>51 | 20=>52 | 21=>64 | 22=>65 | 23=>66 | 24=>67 | 25=>68 | 26=>69 | 27=>70 | 28=>71 | 29=>72 | 36=>80 | 31=>60 | 32=>61 | 37=>81 | 38=>82 | 39=>30 | 41=>88 | n=>n,fun | 27=>27 | 29=>9 | 3=>3 | 32=>67 | 26=>27 | 0=>0 | 44=>94 | 46=>96 | 4=>4 | 36=>88 | 35=>87 | 41=>55 | 5=>5 | 9=>9 | 53=>110 | 57=>114 | 63=>125 | 64=>126 | n=>n,fun | n=>n⟩
theorem Try.sort33:Go.Proofs.SlLaysM.n6 Try.prog Try.sort33_ren:={
 mixed:=by kernel_rfl
 f6:=⟨Try.f33.name,by decide,Try.func33.trans (congrArg some (by kernel_rfl))⟩
 f8:=Try.func29.trans (congrArg some (by kernel_rfl))
 f9:=⟨Try.f54.name,by decide,Try.func54.trans (congrArg some (by kernel_rfl))⟩
 f19:=Try.func51.trans (congrArg some (by kernel_rfl))
 f20:=Try.func52.trans (congrArg some (by kernel_rfl))
 f21:=⟨Try.f64.name,by decide,Try.func64.trans (congrArg some (by kernel_rfl))⟩
 f22:=⟨Try.f65.name,by decide,Try.func65.trans (congrArg some (by kernel_rfl))⟩
 f23:=⟨Try.f66.name,by decide,Try.func66.trans (congrArg some (by kernel_rfl))⟩
 f24:=⟨Try.f67.name,by decide,Try.func67.trans (congrArg some (by kernel_rfl))⟩
 f25:=⟨Try.f68.name,by decide,Try.func68.trans (congrArg some (by kernel_rfl))⟩
 f26:=⟨Try.f69.name,by decide,Try.func69.trans (congrArg some (by kernel_rfl))⟩
 f27:=⟨Try.f70.name,by decide,Try.func70.trans (congrArg some (by kernel_rfl))⟩
 f28:=⟨Try.f71.name,by decide,Try.func71.trans (congrArg some (by kernel_rfl))⟩
 f29:=⟨Try.f72.name,by decide,Try.func72.trans (congrArg some (by kernel_rfl))⟩
 f31:=Try.func60.trans (congrArg some (by kernel_rfl))
 f32:=Try.func61.trans (congrArg some (by kernel_rfl))
 f36:=⟨Try.f80.name,by decide,Try.func80.trans (congrArg some (by kernel_rfl))⟩
 f37:=⟨Try.f81.name,by decide,Try.func81.trans (congrArg some (by kernel_rfl))⟩
 f38:=⟨Try.f82.name,by decide,Try.func82.trans (congrArg some (by kernel_rfl))⟩
 f39:=⟨Try.f30.name,by decide,Try.func30.trans (congrArg some (by kernel_rfl))⟩
 f41:=⟨Try.f88.name,by decide,Try.func88.trans (congrArg some (by kernel_rfl))⟩
 t0:=Try.underlying0
 a0:=Try.isAgg0
 z0:=Try.sizeOf0
 v0:=Try.zeroValue0
 t3:=Try.underlying3
 a3:=Try.isAgg3
 z3:=Try.sizeOf3
 v3:=Try.zeroValue3
 t4:=Try.underlying4
 a4:=Try.isAgg4
 z4:=Try.sizeOf4
 v4:=Try.zeroValue4
 t5:=Try.underlying5
 a5:=Try.isAgg5
 z5:=Try.sizeOf5
 v5:=Try.zeroValue5
 t9:=Try.underlying9
 a9:=Try.isAgg9
 z9:=Try.sizeOf9
 v9:=Try.zeroValue9
 t26:=Try.underlying27
 a26:=Try.isAgg27
 z26:=Try.sizeOf27
 v26:=Try.zeroValue27
 t27:=Try.underlying27
 a27:=Try.isAgg27
 z27:=Try.sizeOf27
 v27:=Try.zeroValue27
 t29:=Try.underlying9
 a29:=Try.isAgg9
 z29:=Try.sizeOf9
 v29:=Try.zeroValue9
 t32:=Try.underlying67
 a32:=Try.isAgg67
 z32:=Try.sizeOf67
 v32:=Try.zeroValue67
 t35:=Try.underlying87
 a35:=Try.isAgg87
 z35:=Try.sizeOf87
 v35:=Try.zeroValue87
 t36:=Try.underlying88
 a36:=Try.isAgg88
 z36:=Try.sizeOf88
 v36:=Try.zeroValue88
 t41:=Try.underlying55
 a41:=Try.isAgg55
 z41:=Try.sizeOf55
 v41:=Try.zeroValue55
 t44:=Try.underlying94
 a44:=Try.isAgg94
 z44:=Try.sizeOf94
 v44:=Try.zeroValue94
 t46:=Try.underlying96
 a46:=Try.isAgg96
 z46:=Try.sizeOf96
 v46:=Try.zeroValue96
 t53:=Try.underlying110
 a53:=Try.isAgg110
 z53:=Try.sizeOf110
 v53:=Try.zeroValue110
 t57:=Try.underlying114
 a57:=Try.isAgg114
 z57:=Try.sizeOf114
 v57:=Try.zeroValue114
 t63:=Try.underlying125
 a63:=Try.isAgg125
 z63:=Try.sizeOf125
 v63:=Try.zeroValue125
 t64:=Try.underlying126
 a64:=Try.isAgg126
 z64:=Try.sizeOf126
 v64:=Try.zeroValue126 }
end Go.Proofs
end
section
set_option linter.unusedSimpArgs false
namespace Go.Bw
open Go Go.RowKit
section
variable {κ:Type} [BEq κ] [LawfulBEq κ] {kd:TypeDesc} {kv:κ→Value}
variable {P:Program} {l:List (Nat×Value)} {w0:World} {F:List Nat} {L:List Asr} {Vs:List View} {ty:TypeId} {pos:String} {af:Array Edge} {g:Option (Nat×Bool)}
theorem yl_glookv {dd:Option Tmp} {t kt e:TypeId} {x y:Operand} {b c:Nat} {m:List (GEnt κ)} {k:κ} {z:Value} (i:Nat) {H:View} (hH:Vs[i]? = some H) (hkk:KeyOk kd kv) (ht:P.underlying t=some (.map kt e)) (hk:P.underlying kt=some kd) (hz:zeroOf P e=some z) (hx:opv l x=some (.map (some b))) (hy:opv l y=some (kv k)) (hb:H b=some (gobj kv m c)) :
   Yl P l (Ws w0 F L Vs) ⟨dd,.lookup t x y false,ty,pos,af,g⟩ (gget k m z):=by
 intro ρ w hρ hw
 simp [execOp,hρ x _ hx,hρ y _ hy,run_glook (P:=P) (k:=k) false hkk ht hk hz (hw.vs H (mem_of_idx hH) b _ hb:w.heap[b]? = some (gobj kv m c))]
theorem yl_glook2v {dd:Option Tmp} {t kt e:TypeId} {x y:Operand} {b c:Nat} {m:List (GEnt κ)} {k:κ} {z:Value} (i:Nat) {H:View} (hH:Vs[i]? = some H) (hkk:KeyOk kd kv) (ht:P.underlying t=some (.map kt e)) (hk:P.underlying kt=some kd) (hz:zeroOf P e=some z) (hx:opv l x=some (.map (some b))) (hy:opv l y=some (kv k)) (hb:H b=some (gobj kv m c)) :
   Yl P l (Ws w0 F L Vs) ⟨dd,.lookup t x y true,ty,pos,af,g⟩ (.tuple #[gget k m z,.bool (ghas k m)]):=by
 intro ρ w hρ hw
 simp [execOp,hρ x _ hx,hρ y _ hy,run_glook (P:=P) (k:=k) true hkk ht hk hz (hw.vs H (mem_of_idx hH) b _ hb:w.heap[b]? = some (gobj kv m c))]
end
theorem Ws.nvb {w0 w:World} {L:List Asr} {Vs:List View} (h:Ws w0 [] L Vs w) (i:Nat) {b:Nat} {ob:Obj} (hL:L[i]? = some (blk b ob)):nv w0 w b=some ob:=by
 have hb:w.heap[b]? = some ob:=h.kn _ (mem_of_idx hL)
 have hn:w0.heap.size≤b:=by
   rcases h.own _ (mem_of_idx hL) b (by simp [blk]) with h' | h'
   · cases h'
   · exact h'
 unfold nv
 rw [if_pos hn]
 exact hb
section
variable {Q:Exit→Act→World→Prop} {n:Nat} {ds:List Deferred} {l:List (Nat×Value)} {w0:World} {F:List Nat} {L:List Asr} {Vs:List View}
theorem WE.reblk {e:Exit} {b:Nat} {ob:Obj} (i:Nat) (ob':Obj) (hL:L[i]? = some (blk b ob)) (he:ob=ob') (h:WE Q e n ds l (Ws w0 F (L.set i (blk b ob')) Vs)):WE Q e n ds l (Ws w0 F L Vs):=by
 subst he
 have:L.set i (blk b ob)=L:=by
   obtain ⟨hi,he⟩:=List.getElem?_eq_some_iff.1 hL
   rw [←he]
   exact List.set_getElem_self hi
 rwa [this] at h
end
theorem vc_blk {H:View} {b k:Nat} {ob:Obj} {v:Value} (h:H b=some ob) (hc:cellIn ob k=some v):vc H b k=some v:=by
 unfold vc
 rw [h]
 exact hc
def boolC (b:Bool):List Value:=[.bool b]
end Go.Bw
end
section
set_option linter.unusedSimpArgs false
namespace Go.Bw
open Go Go.RowKit
section
variable {P:Program} {Q:Exit→Act→World→Prop} {n:Nat} {ds:List Deferred} {l:List (Nat×Value)} {W:World→Prop}
theorem WC.scope {c:Code} (h:WC P c (Exit.noGoto Q) n ds l W):WC P (.scope c) Q n ds l W:=fun a w ha hw=>wp_scope_straight (h a w ha hw)
theorem WC.label {i:Nat} (h:WE Q .normal n ds l W):WC P (.label i) Q n ds l W:=fun a w ha hw=>wp_label (h a w ha hw)
theorem WE.scope_ret (h:WE Q .ret n ds l W):WE (Exit.noGoto Q) .ret n ds l W:=h
end
section
variable {P:Program} {l:List (Nat×Value)} {W:World→Prop} {ty:TypeId} {pos:String} {af:Array Edge} {g:Option (Nat×Bool)} {d:Option Tmp}
theorem yl_lts {t u:TypeId} {x y:Operand} {a b:List UInt8} (hx:opv l x=some (st a)) (hy:opv l y=some (st b)):Yl P l W ⟨d,.binOp .lss t x y u,ty,pos,af,g⟩ (.bool (Op.bytesLess a b)):=
 fun ρ w hρ _=>by simp [execOp,hρ x _ hx,hρ y _ hy,st,eqGuard,binOp,Op.stringOp]
theorem yl_gts {t u:TypeId} {x y:Operand} {a b:List UInt8} (hx:opv l x=some (st a)) (hy:opv l y=some (st b)):Yl P l W ⟨d,.binOp .gtr t x y u,ty,pos,af,g⟩ (.bool (!(Op.bytesLess a b||a==b))):=
 fun ρ w hρ _=>by simp [execOp,hρ x _ hx,hρ y _ hy,st,eqGuard,binOp,Op.stringOp]
end
section
variable {P:Program} {ops:Array Oper} {C:World→Prop} {Q:Exit→Act→World→Prop} {n:Nat} {ds:List Deferred} {l:List (Nat×Value)} {W:World→Prop}
theorem WD.skipU {r:List (Nat×Bool)} {i d:Nat} {op:Op} {ty:TypeId} {pos:String} {af:Array Edge} {j:Nat} {b:Bool} {oj:Oper} {dj:Nat} (hi:ops[i]? = some ⟨some d,op,ty,pos,af,some (j,b)⟩) (hn:Nat.blt d n=true)
   (hj:ops[j]? = some oj) (hdj:oj.dst=some dj) (hnj:Nat.blt dj n=true) (hb:lk l dj=some undef)
   (hC:∀w,W w→C w) (h:WD P ops C Q n ds ((d,undef)::l) W r):WD P ops C Q n ds l W ((i,true)::r):=by
 intro a w ha hw
 have hv:a.tmps.getD dj undef=undef:=ha.vals dj _ hb
 have hlt:dj<a.tmps.size:=by rw [ha.size]; exact Nat.le_of_ble_eq_true hnj
 have hget:a.tmps[dj]? = some undef:=by
   rw [Array.getD_eq_getD_getElem?,Array.getElem?_eq_getElem hlt] at hv
   rw [Array.getElem?_eq_getElem hlt]
   simpa using hv
 have hyd:yielded ops a.tmps j=none:=by simp [yielded,hj,hdj,hget,undef]
 exact ⟨hC w hw,_,undef,hi,.inr ⟨by simp [Region.wanted,hyd],rfl⟩,h _ _ (ha.put hn undef) hw⟩
end
section
variable {P:Program} {ops:Array Oper} {cd:Code} {Q:Exit→Act→World→Prop} {n:Nat} {ds:List Deferred} {l:List (Nat×Value)} {w0:World} {F:List Nat} {L:List Asr} {Vs:List View} {rest:List Oper}
theorem WL.blkH {b:Nat} {ob:Obj} (i:Nat) (hL:L[i]? = some (blk b ob)) (h:∀H:View,H b=some ob→WL P ops Q n ds l (Ws w0 F (outOf i L) (H::Vs)) rest):WL P ops Q n ds l (Ws w0 F L Vs) rest:=
 WL.blkview i hL (h _ (by simp [bv]))
theorem WC.blkH {b:Nat} {ob:Obj} (i:Nat) (hL:L[i]? = some (blk b ob)) (h:∀H:View,H b=some ob→WC P cd Q n ds l (Ws w0 F (outOf i L) (H::Vs))):WC P cd Q n ds l (Ws w0 F L Vs):=
 fun a w ha hw=>h _ (by simp [bv]) a w ha (hw.blkview i hL)
end
end Go.Bw
end
section
namespace Go.Bw
open Go Go.RowKit
set_option linter.unusedVariables false
set_option linter.unusedSimpArgs false
def osX (e:TypeId) (v:Value) (vs:List Value):Asr:=
 ⟨v.ownBlock.toList,fun w=>(v = .slice none 0 0∧vs=[])∨∃b o cap cur,v = .slice (some ⟨b,o,none⟩) vs.length cap∧w.heap[b]? = some (.cells cur e (0,0))∧vs.length≤cap∧cap≤maxLen∧o+cap≤cur.size∧(cur.toList.drop o).take vs.length=vs,
  fun w w' h hw=>by
   rcases hw with h2 | ⟨b,o,cap,cur,hv,hg,r⟩
   · exact .inl h2
   · exact .inr ⟨b,o,cap,cur,hv,by rw [h b (by simp [hv,Value.ownBlock])]; exact hg,r⟩,
  fun w hw k hk=>by
   rcases hw with ⟨h2,_⟩ | ⟨b,o,cap,cur,hv,hg,r⟩
   · subst h2; simp [Value.ownBlock] at hk
   · subst hv; simp [Value.ownBlock] at hk; subst hk; exact lt_of_heap hg⟩
theorem osX_of {e:TypeId} {v:Value} {vs:List Value} {w:World} (h:w.ownsRow 0 e 1 v vs.length vs):(osX e v vs).holds w:=by
 rcases h.2 with ⟨h1,h2⟩ | ⟨b,cap,cur,hv,_,hg,hm,hc,hs,ht⟩
 · exact .inl ⟨h1,List.eq_nil_of_length_eq_zero h2⟩
 · exact .inr ⟨b,0,cap,cur,hv,hg,hm,hc,by omega,by simpa using ht⟩
section
variable {P:Program} {ops:Array Oper} {cd:Code} {Q:Exit→Act→World→Prop} {n:Nat} {ds:List Deferred} {l:List (Nat×Value)} {w0:World} {F:List Nat} {L:List Asr} {Vs:List View} {rest:List Oper}
 {d:Nat} {ty:TypeId} {pos:String} {af:Array Edge} {g:Option (Nat×Bool)}
theorem Ws.toX {e:TypeId} {v:Value} {vs:List Value} {m:Nat} {w:World} (hw:Ws w0 F L Vs w) (i:Nat) (hL:L[i]? = some (osl e 1 v m vs)) (hm:m=vs.length):Ws w0 F (L.set i (osX e v vs)) Vs w:=by
 subst hm
 exact hw.turn1 i hL (Fr.refl _ _) (osX_of (hw.kn _ (mem_of_idx hL))) (by cases hv:v.ownBlock<;>simp [osX,hv]) fun k hk=>.inl hk
theorem WL.toX {e:TypeId} {v:Value} {vs:List Value} {m:Nat} (i:Nat) (hL:L[i]? = some (osl e 1 v m vs)) (hm:m=vs.length) (h:WL P ops Q n ds l (Ws w0 F (L.set i (osX e v vs)) Vs) rest):WL P ops Q n ds l (Ws w0 F L Vs) rest:=
 LW (fun _ hw=>hw.toX i hL hm) h
theorem osX_shape {e:TypeId} {a:Option Addr} {m c:Nat} {vs:List Value} {w:World} (hw:Ws w0 F L Vs w) (i:Nat) (hL:L[i]? = some (osX e (.slice a m c) vs)):m=vs.length∧vs.length≤c∧c≤maxLen∧(0<vs.length→∃b o,a=some ⟨b,o,none⟩):=by
 rcases (hw.kn _ (mem_of_idx hL):(osX e (.slice a m c) vs).holds w) with ⟨h1,h2⟩ | ⟨b,o,cap,cur,hv,hg,hm,hc,_⟩
 · injection h1 with _ h4 h5
   subst h2 h4 h5
   exact ⟨rfl,Nat.le_refl _,by unfold maxLen; omega,fun h=>absurd h (by simp)⟩
 · injection hv with h3 h4 h5
   subst h3 h4 h5
   exact ⟨rfl,hm,hc,fun _=>⟨b,o,rfl⟩⟩
theorem WC.shapeX {e:TypeId} {a:Option Addr} {m c:Nat} {vs:List Value} (i:Nat) (hL:L[i]? = some (osX e (.slice a m c) vs)) (h:vs.length≤c→c≤maxLen→(0<vs.length→∃b o,a=some ⟨b,o,none⟩)→WC P cd Q n ds l (Ws w0 F L Vs)):WC P cd Q n ds l (Ws w0 F L Vs):=by
 intro A w ha hw
 obtain ⟨_,h1,h2,h3⟩:=osX_shape hw i hL
 exact h h1 h2 h3 A w ha hw
theorem yl_ldX {t e:TypeId} {x:Operand} {b o p m c:Nat} {a:Option Addr} {vs:List Value} {v:Value} {d:Option Tmp} (i j:Nat) (hx:opv l x=some (.pointer (some ⟨b,p,none⟩))) (hL:L[i]? = some (osX e (.slice a m c) vs)) (ha:a=some ⟨b,o,none⟩)
   (hp:p=o+j) (hy:vs[j]? = some v) (ht:nonAgg P t=true):Yl P l (Ws w0 F L Vs) ⟨d,.load t x,ty,pos,af,g⟩ v:=yl_ldc ht hx fun w hw=>by
 rcases (hw.kn _ (mem_of_idx hL):(osX e (.slice a m c) vs).holds w) with ⟨h1,h2⟩ | ⟨b',o',cap,cur,hv,hg,hm,hc,_,hs⟩
 · rw [h2] at hy; cases hy
 · injection hv with h3 h4 h5
   rw [ha] at h3
   injection h3 with h3
   injection h3 with h6 h7
   subst h6 h7
   refine cell_of_heap hg ?_
   rw [←hs,List.getElem?_take] at hy
   split at hy
   · rw [List.getElem?_drop] at hy
     subst hp
     simpa [cellIn] using hy
   · cases hy
theorem Ws.popX {e:TypeId} {a:Option Addr} {c:Nat} {u:Value} {vs:List Value} {w:World} (hw:Ws w0 F L Vs w) (i:Nat) (hL:L[i]? = some (osX e (.slice a (u::vs).length c) (u::vs))) :
   Ws w0 F (L.set i (osX e (.slice (if c-1=0 then a else a.map (·.add (1*1))) ((u::vs).length-1) (c-1)) vs)) Vs w:=by
 rcases (hw.kn _ (mem_of_idx hL):(osX e (.slice a (u::vs).length c) (u::vs)).holds w) with ⟨_,h2⟩ | ⟨b,o,cap,cur,hv,hg,hm,hc,hcs,hs⟩
 · cases h2
 · injection hv with h3 h4 h5
   subst h3 h5
   have hl:(u::vs).length=vs.length+1:=rfl
   refine hw.turn1 i hL (Fr.refl _ _) ?_ ?_ ?_
   · by_cases h0:c-1=0
     · rw [if_pos h0]
       have hv0:vs=[]:=List.eq_nil_of_length_eq_zero (by omega)
       subst hv0
       exact .inr ⟨b,o,c-1,cur,rfl,hg,by simp,by omega,by omega,by simp⟩
     · rw [if_neg h0]
       refine .inr ⟨b,o+1,c-1,cur,rfl,hg,by omega,by omega,by omega,?_⟩
       have h6:(cur.toList.drop o).take (vs.length+1)=u::vs:=hs
       rw [←List.drop_drop]
       cases hd:cur.toList.drop o with
       | nil=>rw [hd] at h6; simp at h6
       | cons x r=>
         rw [hd,List.take_succ_cons] at h6
         injection h6 with _ h7
   · split<;>simp [osX,Value.ownBlock]
   · intro k hk
     left
     split at hk<;>simpa [osX,Value.ownBlock,add_none] using hk
theorem WL.popX {e t:TypeId} {a:Option Addr} {c:Nat} {x y:Operand} {k:IntKind} {h1:Int} {α:Type} {f:α→Value} {z:α} {zs:List α} (i:Nat) (hg:GOk ops l g) (hn:Nat.blt d n=true) (hs:elemSz P t=some 1) (hx:opv l x=some (.slice a (z::zs).length c)) (hy:opv l y=some (.int k h1)) (hh:h1=((1:Nat):Int))
   (hL:L[i]? = some (osX e (.slice a (z::zs).length c) ((z::zs).map f)))
   (h:∀a' c',WL P ops Q n ds ((d,.slice a' zs.length c')::l) (Ws w0 F (L.set i (osX e (.slice a' zs.length c') (zs.map f))) Vs) rest) :
   WL P ops Q n ds l (Ws w0 F L Vs) (⟨some d,.slice t x (some y) none none,ty,pos,af,g⟩::rest):=by
 have hc:∀w,Ws w0 F L Vs w→(z::zs).length≤c:=fun w hw=>by
   have:=(osX_shape hw i hL).2.1
   simpa using this
 intro A w hA hw
 refine Lv hg hn (v:=.slice (if c-1=0 then a else a.map (·.add (1*1))) zs.length (c-1)) (yl_slln 1 hs hx hy hh (by simp) (hc w hw)) (LW (fun w' hw'=>?_) (h _ _)) A w hA hw
 have h9:=Ws.popX (u:=f z) (vs:=zs.map f) hw' i (by simpa using hL)
 simpa using h9
theorem setCell_heap {w:World} {b o:Nat} {v:Value} {cur:Array Value} {e:TypeId} {fz:Nat×Nat} (h:w.heap[b]? = some (.cells cur e fz)):(w.setCell ⟨b,o,none⟩ v).heap[b]? = some (.cells (cur.setIfInBounds o v) e fz):=by
 simp [World.setCell,Array.getElem?_modify,h]
theorem setCells_heap {b:Nat} {e:TypeId} {fz:Nat×Nat}:∀(vs:List Value) (o:Nat) (w:World) (cur:Array Value),w.heap[b]? = some (.cells cur e fz)→o+vs.length≤cur.size→
   ∃cur',(w.setCells b o vs).heap[b]? = some (.cells cur' e fz)∧cur'.size=cur.size∧(∀j,j<o→cur'[j]? = cur[j]?)∧∀j,j<vs.length→cur'[o+j]? = vs[j]?
 | [],o,w,cur,h,_=>⟨cur,h,rfl,fun _ _=>rfl,fun j hj=>by cases hj⟩
 | v::r,o,w,cur,h,hl=>by
   obtain ⟨cur',h1,h2,h3,h4⟩:=setCells_heap r (o+1) _ _ (setCell_heap (o:=o) (v:=v) h) (by simp at hl ⊢; omega)
   refine ⟨cur',h1,by simpa using h2,fun j hj=>?_,fun j hj=>?_⟩
   · rw [h3 j (by omega),Array.getElem?_setIfInBounds_ne (by omega)]
   · cases j with
     | zero=>rw [Nat.add_zero,h3 o (by omega),Array.getElem?_setIfInBounds_self_of_lt (by simp at hl; omega)]; rfl
     | succ j=>rw [show o+(j+1)=o+1+j by omega,h4 j (by simpa using hj)]; rfl
theorem setCells_meta (b:Nat):∀(vs:List Value) (o:Nat) (w:World),(w.setCells b o vs).tape=w.tape∧(w.setCells b o vs).heap.size=w.heap.size
 | [],_,_=>⟨rfl,rfl⟩
 | v::r,o,w=>by
   obtain ⟨h1,h2⟩:=setCells_meta b r (o+1) (w.setCell ⟨b,o,none⟩ v)
   exact ⟨h1,h2.trans (by simp [World.setCell])⟩
theorem WL.appendX {α:Type} {f:α→Value} {rd:View→Nat→Nat→α→Prop} {t e:TypeId} {z:Value} {bytes:Nat} {s y:Operand} {a a2:Option Addr} {c c2:Nat} {xs ys:List α} (i:Nat) (H:World→View) (hg:GOk ops l g) (hn:Nat.blt d n=true) (hE:EltOk P t e z 1 bytes)
   (hs:opv l s=some (.slice a xs.length c)) (hy:opv l y=some (.slice a2 ys.length c2)) (hL:L[i]? = some (osX e (.slice a xs.length c) (xs.map f))) (hH:∀w,Ws w0 F L Vs w→Le (H w) w∧Sl rd 1 (H w) a2 c2 ys) (hrd:∀H b o x,rd H b o x→vc H b o=some (f x))
   (h1:∀x,(f x).oneCell'=true) (h63:xs.length+ys.length≤9223372036854775807) (hby:(xs.length+ys.length)*bytes≤140737488355328)
   (h:∀a' c',WL P ops Q n ds ((d,.slice a' (xs++ys).length c')::l) (Ws w0 F (L.set i (osX e (.slice a' (xs++ys).length c') ((xs++ys).map f))) Vs) rest) :
   WL P ops Q n ds l (Ws w0 F L Vs) (⟨some d,.call ⟨.builtin .append,#[s,y],#[t,t]⟩,ty,pos,af,g⟩::rest):=by
 refine WL.step hg fun A w hA hw K hK=>?_
 obtain ⟨inf,hi,hz,hsz,hbt⟩:=hE.info
 obtain ⟨hle,hsl⟩:=hH w hw
 obtain ⟨_,hcap,hcm,_⟩:=osX_shape hw i hL
 rw [List.length_map] at hcap
 suffices hx:∃v' w',(Builtin.append_ #[t,t] ty #[.slice a xs.length c,.slice a2 ys.length c2]).run P w = .ok v' w'∧∃a' c',v' = .slice a' (xs++ys).length c'∧Ws w0 F (L.set i (osX e (.slice a' (xs++ys).length c') ((xs++ys).map f))) Vs w' by
   obtain ⟨v',w',hrun,a',c',rfl,hws⟩:=hx
   have hrun':(execOp A.eval ⟨some d,.call ⟨.builtin .append,#[s,y],#[t,t]⟩,ty,pos,af,g⟩).run P w = .ok (.value (.slice a' (xs++ys).length c')) w':=by
     simp only [execOp,resolve,List.map_toArray,List.map_cons,List.map_nil,hA.eval hs,hA.eval hy,Sem.run_bind,Sem.run_pure,Result.andThen_ok,invoke,builtin,hrun]
   simp only [Oper.wp,hrun',Oper.upon_value]
   exact hK _ _ (h a' c' _ _ (hA.put hn _) hws)
 by_cases hys:ys=[]
 · subst hys
   have hrun:=run_append_nothing (P:=P) w t t ty e inf hE.under hi a xs.length c hcap (.slice a2 0 c2) ⟨.inl ⟨e,hE.under⟩,fun _=>rfl,by cases a2<;>simp [Builtin.firstCells,loadCells,loadCellsFrom],by cases a2<;>simp [Builtin.firstCells,loadCells,loadCellsFrom],by simp,by simp⟩
   refine ⟨_,_,hrun,a,c,by simp,?_⟩
   have hset:L.set i (osX e (.slice a (xs++[]).length c) ((xs++[]).map f))=L:=by
     rw [List.append_nil,←(List.getElem?_eq_some_iff.1 hL).2]; exact List.set_getElem_self _
   rw [hset]
   exact hw
 · obtain ⟨b2,o2,ha2,_⟩:=hsl.elt 0 _ (List.getElem?_eq_getElem (List.length_pos_iff.2 hys))
   subst ha2
   have hyl:=List.length_pos_iff.2 hys
   have hsrc:Src P inf.size t (.slice (some ⟨b2,o2,none⟩) ys.length c2) ys.length (ys.map f) w:=by
     rw [hsz]
     refine Src.ofSlice w hE.under _ _ _ _ (by simp) (fun j u hu=>?_) (fun u hu=>?_)
     · rw [List.getElem?_map] at hu
       obtain ⟨x,hx,rfl⟩:=Option.map_eq_some_iff.1 hu
       obtain ⟨b3,o3,hb3,hr⟩:=hsl.elt j x hx
       injection hb3 with hb3
       injection hb3 with hb3 ho3
       subst hb3 ho3
       rw [add_none]
       have:=hrd _ _ _ _ hr
       rw [Nat.mul_one] at this
       exact hle.cell this
     · obtain ⟨x,_,rfl⟩:=List.mem_map.1 hu
       exact h1 x
   have e2:xs.length+ys.length=(xs++ys).length:=by simp
   have hlen:(xs.map f++ys.map f).length=(xs++ys).length:=by simp
   have grown:∀G,G=grownCap w (xs.length+ys.length) c e→Ws w0 F (L.set i (osX e (.slice (some ⟨w.heap.size,0,none⟩) (xs++ys).length G) ((xs++ys).map f))) Vs
       (w.drew.alloc (.cells ((xs.map f++ys.map f).toArray++Builtin.zeroCells z.cells (G-(xs.length+ys.length))) e)):=by
     intro G hG
     have hge:=grownCap_ge w (xs.length+ys.length) c e
     have hcm2:grownCap w (xs.length+ys.length) c e≤maxLen:=grownCap_le_maxLen w _ c e (by unfold maxLen; omega)
     rw [←hG] at hge hcm2
     refine hw.turn1 i hL ⟨rfl,rfl,rfl,by simp,fun k hk _=>heap_alloc_old w.drew _ hk⟩ ?_ (by simp [osX,Value.ownBlock]) fun k hk=>.inr ?_
     · refine .inr ⟨w.heap.size,0,G,_,by rw [List.length_map],heap_alloc_new w.drew _,by rw [List.length_map]; omega,hcm2,?_,?_⟩
       · simp only [Array.size_append,List.size_toArray,size_zeroCells,hE.zs,hlen]
         omega
       · rw [List.drop_zero,Array.toList_append,List.map_append,List.length_append,←List.length_append]
         exact List.take_left
     · simp [osX,Value.ownBlock] at hk; omega
   rcases (hw.kn _ (mem_of_idx hL):(osX e (.slice a xs.length c) (xs.map f)).holds w) with ⟨hv,hx0⟩ | ⟨b,o,cap,cur,hv,hb,hm,hc,hcs,htk⟩
   · injection hv with hv1 hv2 hv3
     have hx1:xs=[]:=by simpa using hx0
     subst hv1 hv3 hx1
     have hrun:=run_append_grow_src (P:=P) w t t ty e inf z hE.under hi hz none 0 0 [] (run_firstCells_none w.drew _ 0 0 0) _ _ _ hsrc (by omega) (by simp at h63 ⊢; omega) (by rw [hbt]; exact growslice_fits (by omega) (by simpa using hby))
     exact ⟨_,_,hrun,some ⟨w.heap.size,0,none⟩,grownCap w (0+ys.length) 0 e,by simp,by simpa using grown _ rfl⟩
   · injection hv with hv1 hv2 hv3
     subst hv1 hv3
     rw [List.length_map] at htk hm
     by_cases hroom:xs.length+ys.length≤c
     · have hcell:∀j,j<c→∃v,cur[o+j]? = some v:=fun j hj=>⟨_,Array.getElem?_eq_getElem (by omega)⟩
       have hrun:=run_append_room_src (P:=P) w t t ty e inf hE.under hi b o xs.length c _ _ _ hsrc hroom (fun j hj=>by
         rw [hsz,Nat.mul_one]
         obtain ⟨v,hv⟩:=hcell (xs.length+j) (by simp at hj; omega)
         rw [cell_of_heap hb (v:=v) (by simpa [cellIn,Nat.add_assoc] using hv)]
         rfl) (fun j hj=>by simp [World.frozen?,hb])
       refine ⟨_,_,hrun,_,c,by rw [e2],?_⟩
       rw [hsz,Nat.mul_one]
       obtain ⟨cur',k1,k2,k3,k4⟩:=setCells_heap (ys.map f) (o+xs.length) w cur hb (by simp; omega)
       refine hw.turn1 i hL ⟨World.os_setCells _ _ _ _,(setCells_meta _ _ _ _).1,World.output_setCells _ _ _ _,Nat.le_of_eq (setCells_meta _ _ _ _).2.symm,fun k hk hne=>World.heap_setCells_other _ _ _ _ hk (by simpa [osX,Value.ownBlock] using hne)⟩ ?_ (by simp [osX,Value.ownBlock]) fun k hk=>.inl (by simpa [osX,Value.ownBlock] using hk)
       · refine .inr ⟨b,o,c,cur',by rw [List.length_map],k1,by rw [List.length_map]; omega,hc,by omega,?_⟩
         rw [List.length_map]
         apply List.ext_getElem?
         intro j
         rw [List.getElem?_take]
         by_cases hj:j<(xs++ys).length
         · rw [if_pos hj,List.getElem?_drop,Array.getElem?_toList,List.map_append]
           by_cases hj2:j<xs.length
           · rw [k3 _ (by omega),List.getElem?_append_left (by simpa using hj2),←htk,List.getElem?_take,if_pos hj2,List.getElem?_drop,Array.getElem?_toList]
           · rw [List.getElem?_append_right (by simp; omega),List.length_map,←k4 _ (by simp at hj ⊢; omega)]
             congr 1
             omega
         · rw [if_neg hj,List.getElem?_eq_none (by simp at hj ⊢; omega)]
     · have hold:∀j v,(xs.map f)[j]? = some v→w.cell? ((⟨b,o,none⟩:Addr).add j)=some v:=fun j v hv=>by
         rw [add_none]
         refine cell_of_heap hb ?_
         rw [←htk,List.getElem?_take] at hv
         split at hv
         · rw [List.getElem?_drop] at hv
           simpa [cellIn] using hv
         · cases hv
       have hrun:=run_append_grow_src (P:=P) w t t ty e inf z hE.under hi hz (some ⟨b,o,none⟩) xs.length c (xs.map f) (run_firstCells_some w.drew inf.size xs.length ⟨b,o,none⟩ xs.length c (xs.map f) (by rw [hsz]; simp) (by simpa using hold)) _ _ _ hsrc (by omega) (by omega) (by rw [hbt]; exact growslice_fits (by omega) hby)
       exact ⟨_,_,hrun,_,_,by rw [e2],grown _ rfl⟩
theorem WL.popX2 {e t:TypeId} {a:Option Addr} {c:Nat} {x y:Operand} {k:IntKind} {h1:Int} {α:Type} {f:α→Value} {xs:List α} {z:α} {zs:List α} (i:Nat) (hz:xs=z::zs) (hg:GOk ops l g) (hn:Nat.blt d n=true) (hs:elemSz P t=some 1) (hx:opv l x=some (.slice a xs.length c)) (hy:opv l y=some (.int k h1)) (hh:h1=((1:Nat):Int))
   (hL:L[i]? = some (osX e (.slice a xs.length c) (xs.map f)))
   (h:∀a' c',WL P ops Q n ds ((d,.slice a' zs.length c')::l) (Ws w0 F (L.set i (osX e (.slice a' zs.length c') (zs.map f))) Vs) rest) :
   WL P ops Q n ds l (Ws w0 F L Vs) (⟨some d,.slice t x (some y) none none,ty,pos,af,g⟩::rest):=by
 subst hz
 exact WL.popX i hg hn hs hx hy hh hL h
end
end Go.Bw
end
section
namespace Go.Bw
open Go
set_option linter.unusedVariables false
set_option linter.unusedSimpArgs false
abbrev Tx:=List UInt8
def J (l:List Tx):Tx:=Lib.join l [32]
theorem tot0 {a b:Cnt} (h:(a+b).tot=0):a.tot=0∧b.tot=0:=by
 rw [Cnt.tot_add] at h; omega
theorem noteF0 {b:Bool} (h:(noteF b).tot=0):b=false:=by cases b; rfl; cases h
theorem noteM0 {b:Bool} (h:(noteM b).tot=0):b=false:=by cases b; rfl; cases h
structure OkE (op n:Int) (mod nm:Tx) (args:List TExpr) (d:Nat):Prop where
 deep:d≤6
 kind:1≤op∧op≤15
 name:badName (within_ op 3 5) mod nm=false
 nargs:badArgs (exprArgsT op) args.length=false
 few:args.length≤3
 num:numBad op n=false
 sub:(cntEs args (d+1)).tot=0
structure OkS (op:Int) (mod nm:Tx) (args:List TExpr) (body other:List TStmt) (d:Nat):Prop where
 kind:1≤op∧op≤7
 name:badName (within_ op 1 3) mod nm=false
 nargs:badArgs (stmtArgsT op) args.length=false
 few:args.length≤3
 exprs:(cntEs args 1).tot=0
 form:bodyBad op body.length other.length=false
 body:(inner op||decide (0<body.length))=true→(blkC (d+1) body.length (cntSs body (d+1))).tot=0
 other:0<other.length→(blkC (d+1) other.length (cntSs other (d+1))).tot=0
theorem OkS.len {op:Int} {mod nm:Tx} {args:List TExpr} {body other:List TStmt} {d:Nat} (h:OkS op mod nm args body other d) (ho:op≠3):args.length=if op=2 then 2 else 1:=by
 have:=h.nargs
 unfold badArgs stmtArgsT at this
 by_cases h2:op=2
 · rw [if_pos h2] at this ⊢; simp at this; omega
 · rw [if_neg h2,if_neg ho] at this; rw [if_neg h2]; simp at this; omega
theorem declsC0:∀{l:List TDecl},(declsC l).tot=0→∀d ∈ l,(declC d).tot=0
 | [],_,d,hd=>by simp at hd
 | x::r,h,d,hd=>by
   unfold declsC at h
   obtain ⟨h1,h2⟩:=tot0 h
   rcases List.mem_cons.1 hd with rfl | hd
   · exact h1
   · exact declsC0 h2 d hd
theorem procsC0:∀{l:List TProc},(procsC l).tot=0→∀d ∈ l,(procC d).tot=0
 | [],_,d,hd=>by simp at hd
 | x::r,h,d,hd=>by
   unfold procsC at h
   obtain ⟨h1,h2⟩:=tot0 h
   rcases List.mem_cons.1 hd with rfl | hd
   · exact h1
   · exact procsC0 h2 d hd
theorem err0 {c:Cnt}:errC c=0↔c.tot=0:=by
 unfold errC Cnt.tot
 split
 · omega
 · split
   · omega
   · split<;>omega
end Go.Bw
end
section
namespace Go.Bw
open Go
set_option linter.unusedVariables false
set_option linter.unusedSimpArgs false
def putTok (s:Tx):Tok:=match Lib.atoiAll s with
 | .ok v=>⟨2,v,[]⟩
 | _=>if nameB s=true then ⟨1,0,s⟩ else ⟨3,0,s⟩
def okTok (t:Tok):Prop:=kindT t=true∧tokOk t=true
theorem cntN0:∀{l:List Tx},(cntN l).tot=0→∀s ∈ l,nameT s=true
 | [],_,s,hs=>by simp at hs
 | x::r,h,s,hs=>by
   unfold cntN at h
   obtain ⟨h1,h2⟩:=tot0 h
   rcases List.mem_cons.1 hs with rfl | hs
   · simpa using noteF0 h1
   · exact cntN0 h2 s hs
structure OkD (d:TDecl):Prop where
 name:nameT d.nm=true
 kind:d.kind=1∨d.kind=2∨d.kind=3
 n1:d.kind=1→0≤d.n∧d.n≤1099511627775
 n2:d.kind=2→d.n=0
 n3:d.kind=3→1≤d.n∧d.n≤32
structure OkP (p:TProc):Prop where
 name:nameT p.nm=true
 params:∀s ∈ p.params,nameT s=true
 locs:∀s ∈ p.locs,nameT s=true
 few:p.params.length≤3∧p.locs.length≤4
 body:(cntB p.body 1).tot=0
structure OkM (m:TMod):Prop where
 name:nameT m.nm=true
 uses:∀s ∈ m.uses,nameT s=true
 few:m.uses.length≤3∧m.decls.length≤10∧m.procs.length≤6
 decls:∀d ∈ m.decls,(declC d).tot=0
 procs:∀p ∈ m.procs,(procC p).tot=0
 main:(cntB m.main 1).tot=0
theorem okM {m:TMod} (h:(modC m).tot=0):OkM m:=by
 unfold modC at h
 obtain ⟨h,h6⟩:=tot0 h
 obtain ⟨h,h5⟩:=tot0 h
 obtain ⟨h,h4⟩:=tot0 h
 obtain ⟨h,h3⟩:=tot0 h
 obtain ⟨h1,h2⟩:=tot0 h
 have:=noteM0 h3
 simp at this
 exact ⟨cntN0 h1 m.nm (by simp),cntN0 h2,by omega,declsC0 h4,procsC0 h5,h6⟩
end Go.Bw
end
section
namespace Go.Bw
open Go
set_option linter.unusedVariables false
set_option linter.unusedSimpArgs false
abbrev Tk:=List Tok
def hasT (s:Tx):Tk→Option Tk
 | []=>none
 | t::r=>if (t.text==s)=true then some r else none
def AllOk (l:Tk):Prop:=∀t ∈ l,okTok t
def Eats (l:Tk) (ws:List Tx) (r:Tk):Prop:=AllOk l∧l=ws.map putTok++r
theorem Eats.ok {l r:Tk} {ws:List Tx} (h:Eats l ws r):AllOk r:=fun t ht=>h.1 t (by rw [h.2]; exact List.mem_append_right _ ht)
theorem Eats.trans {l r q:Tk} {a b:List Tx} (h:Eats l a r) (k:Eats r b q):Eats l (a++b) q:=⟨h.1,by rw [h.2,k.2]; simp⟩
theorem Eats.nil {l:Tk} (h:AllOk l):Eats l [] l:=⟨h,rfl⟩
end Go.Bw
end
section
namespace Go.Bw
open Go
set_option linter.unusedVariables false
set_option linter.unusedSimpArgs false
structure Stop (q:Tk):Prop where
 dot:hasT [46] q=none
 br:hasT [91] q=none
 pa:hasT [40] q=none
end Go.Bw
end
section
namespace Go.Bw
open Go
set_option linter.unusedVariables false
set_option linter.unusedSimpArgs false
theorem checkM_tot {m:TMod}:checkM m=0↔(modC m).tot=0:=err0
end Go.Bw
end
section
namespace Go.Proofs.Ytinnlppbkhhoiaa
open Go.Bw
set_option linter.unusedVariables false
set_option linter.unusedSimpArgs false
open Go.Proofs
def within (n low high:Int):Bool:=decide (low≤n)&&decide (n≤high)
theorem within_nat (n:Nat):within (n:Int) 1 8=(decide (1≤n)&&decide (n≤8)):=by
 rw [Bool.eq_iff_iff]
 simp [within]
 omega
theorem lex_cond (n:Nat) (u:Int):(((((n:Int)==0)||decide (8<(n:Int)))||decide (u<97))||decide (122<u)) = !((decide (1≤n)&&decide (n≤8))&&letterB u):=by
 rw [Bool.eq_iff_iff]
 simp [letterB]
 omega
theorem at0 {s:List UInt8} {i:Nat} (h:i<s.length):s[i]? = some (s[i]?.getD 0):=by rw [List.getElem?_eq_getElem h]; rfl
theorem all_no {s:List UInt8} {p:UInt8→Bool} {i:Nat} (h:i<s.length) (hp:p (s[i]?.getD 0)=false):s.all p=false:=by
 rw [List.all_eq_false]
 exact ⟨_,List.mem_of_getElem? (at0 h),by simp [hp]⟩
theorem all_yes {s:List UInt8} {p:UInt8→Bool} (h:∀i,i<s.length→p (s[i]?.getD 0)=true):s.all p=true:=by
 rw [List.all_eq_true]
 intro x hx
 obtain ⟨i,hi⟩:=List.getElem?_of_mem hx
 have:=h i (List.getElem?_eq_some_iff.1 hi).1
 rw [hi] at this
 exact this
theorem toNat_inj {u v:UInt8} (h:(u.toNat:Int)=(v.toNat:Int)):u=v:=UInt8.toNat_inj.1 (by omega)
theorem us9:Try.prog.underlying 9=some .string:=by kernel_rfl
theorem en74:Enters Try.prog 74:=enters_of Try.func74 (by kernel_rfl) rfl
theorem en89:Enters Try.prog 89:=enters_of Try.func89 (by kernel_rfl) rfl
theorem en90:Enters Try.prog 90:=enters_of Try.func90 (by kernel_rfl) rfl
theorem en86:Enters Try.prog 86:=enters_of Try.func86 (by kernel_rfl) rfl
theorem within_any (n low high:Int) (w:World) :
   Calls Try.prog 74 #[.int .i64 n,.int .i64 low,.int .i64 high] w fun e w'=>e = .returned (.bool (within n low high))∧Ext w w':=by
 refine enter Try.func74 rfl 15 rfl rfl ?_
 refine CWd (W':=Ws w [] [] []) (fun _ e=>by subst e; exact Ws.init (by simp)) ?_
 refine Cs (Cr ?_)
 refine V0 (Ya rfl) ?_
 refine Ln (Et (Cs (Cr ?_)))
 refine V0 (Ym rfl) ?_
 refine V0 (Ym rfl) ?_
 refine V0 (yl_ge rfl rfl) ?_
 refine V0 (Ym rfl) ?_
 apply WL.and 3 rfl rfl rfl rfl (.inl rfl) rfl rfl rfl rfl rfl
 ·
  intro hg0
  refine Lv (.g rfl rfl rfl) rfl (Ym rfl) ?_
  refine Lv (.g rfl rfl rfl) rfl (Ym rfl) ?_
  refine Lv (.g rfl rfl rfl) rfl (yl_le rfl rfl) ?_
  exact Gt 3 rfl rfl rfl
 refine V0 (Ya rfl) ?_
 refine Ln (Et (Crt ?_))
 refine WE.ret1 rfl rfl fun w' hw=>?_
 exact ⟨rfl,hw.fr⟩
theorem letter_any (u:Int) (w:World) :
   Calls Try.prog 89 #[.int .u8 u] w fun e w'=>e = .returned (.bool (letterB u))∧Ext w w':=by
 refine enter Try.func89 rfl 9 rfl rfl ?_
 refine CWd (W':=Ws w [] [] []) (fun _ e=>by subst e; exact Ws.init (by simp)) ?_
 refine Cs (Cr ?_)
 refine V0 (Ya rfl) ?_
 refine Ln (Et (Cs (Cr ?_)))
 refine V0 (Ym rfl) ?_
 refine V0 (yl_ge rfl rfl) ?_
 refine V0 (Ym rfl) ?_
 apply WL.and 2 rfl rfl rfl rfl (.inl rfl) rfl rfl rfl rfl rfl
 ·
  intro hg0
  refine Lv (.g rfl rfl rfl) rfl (Ym rfl) ?_
  refine Lv (.g rfl rfl rfl) rfl (yl_le rfl rfl) ?_
  exact Gt 2 rfl rfl rfl
 refine V0 (Ya rfl) ?_
 refine Ln (Et (Crt ?_))
 refine WE.ret1 rfl rfl fun w' hw=>?_
 exact ⟨rfl,hw.fr⟩
theorem digit_any (u:Int) (w:World) :
   Calls Try.prog 90 #[.int .u8 u] w fun e w'=>e = .returned (.bool (digitB u))∧Ext w w':=by
 refine enter Try.func90 rfl 9 rfl rfl ?_
 refine CWd (W':=Ws w [] [] []) (fun _ e=>by subst e; exact Ws.init (by simp)) ?_
 refine Cs (Cr ?_)
 refine V0 (Ya rfl) ?_
 refine Ln (Et (Cs (Cr ?_)))
 refine V0 (Ym rfl) ?_
 refine V0 (yl_ge rfl rfl) ?_
 refine V0 (Ym rfl) ?_
 apply WL.and 2 rfl rfl rfl rfl (.inl rfl) rfl rfl rfl rfl rfl
 ·
  intro hg0
  refine Lv (.g rfl rfl rfl) rfl (Ym rfl) ?_
  refine Lv (.g rfl rfl rfl) rfl (yl_le rfl rfl) ?_
  exact Gt 2 rfl rfl rfl
 refine V0 (Ya rfl) ?_
 refine Ln (Et (Crt ?_))
 refine WE.ret1 rfl rfl fun w' hw=>?_
 exact ⟨rfl,hw.fr⟩
theorem plain_char (u:Int) (w:World) :
   Calls Try.prog 86 #[.int .u8 u] w fun e w'=>e = .returned (.bool (letterB u||digitB u))∧Ext w w':=by
 refine enter Try.func86 rfl 17 rfl rfl ?_
 refine CWd (W':=Ws w [] [] []) (fun _ e=>by subst e; exact Ws.init (by simp)) ?_
 refine Cs (Cr ?_)
 refine V0 (Ya rfl) ?_
 refine Ln (Et (Cs (Cr ?_)))
 refine V0 (Ym rfl) ?_
 refine V0 (yl_ge rfl rfl) ?_
 refine V0 (Ym rfl) ?_
 apply WL.and 2 rfl rfl rfl rfl (.inl rfl) rfl rfl rfl rfl rfl
 ·
  intro hg0
  refine Lv (.g rfl rfl rfl) rfl (Ym rfl) ?_
  refine Lv (.g rfl rfl rfl) rfl (yl_le rfl rfl) ?_
  exact Gt 2 rfl rfl rfl
 refine V0 (Ym rfl) ?_
 apply WL.or 6 rfl rfl rfl rfl (.inl rfl) rfl rfl rfl rfl rfl
 ·
  intro hg1
  refine Lv (.g rfl rfl rfl) rfl (Ym rfl) ?_
  refine Lv (.g rfl rfl rfl) rfl (yl_ge rfl rfl) ?_
  refine Lv (.g rfl rfl rfl) rfl (Ym rfl) ?_
  apply WL.and 2 rfl rfl rfl rfl (.g rfl rfl rfl) rfl rfl rfl rfl rfl
  ·
   intro hg2
   refine Lv (.g rfl rfl rfl) rfl (Ym rfl) ?_
   refine Lv (.g rfl rfl rfl) rfl (yl_le rfl rfl) ?_
   exact Gt 2 rfl rfl rfl
  exact Gt 4 rfl rfl rfl
 refine V0 (Ya rfl) ?_
 refine Ln (Et (Crt ?_))
 refine WE.ret1 rfl rfl fun w' hw=>?_
 exact ⟨rfl,hw.fr⟩
theorem isName_any (s:List UInt8) (w:World) :
   Calls Try.prog 84 #[st s] w fun e w'=>e = .returned (.bool (nameB s))∧Ext w w':=by
 refine enter Try.func84 rfl 32 rfl rfl ?_
 refine CWd (W':=Ws w [] [] []) (fun _ e=>by subst e; exact Ws.init (by simp)) ?_
 refine Cs (Cr ?_)
 refine V0 (Ya rfl) ?_
 refine Ln (Et (Cs (Cs (Cr ?_))))
 refine V0 (Ym rfl) ?_
 refine V0 (yl_lens us9 rfl) ?_
 refine Lp (.inl rfl) rfl en74 rfl (fun w hw=>within_any _ _ _ w) ?_
 refine V0 (yl_not rfl) ?_
 refine V0 (Ym rfl) ?_
 apply WL.or 4 rfl rfl rfl rfl (.inl rfl) rfl rfl rfl rfl rfl
 ·
  intro hg0
  have h0:0<s.length:=by simp [within] at hg0; omega
  have hu0:=at0 h0
  refine Lv (.g rfl rfl rfl) rfl (Ym rfl) ?_
  refine Lv (.g rfl rfl rfl) rfl (yl_idxk us9 rfl rfl hu0) ?_
  refine Lp (.g rfl rfl rfl) rfl en89 rfl (fun w hw=>letter_any _ w) ?_
  refine Lv (.g rfl rfl rfl) rfl (yl_not rfl) ?_
  exact Gt 4 rfl rfl rfl
 refine Ln (Et ?_)
 refine Cc rfl (fun hc0=>?_) (fun hc0=>?_)
 ·
  have hn:nameB s=false:=by
    unfold nameB
    rw [within_nat] at hc0
    revert hc0
    generalize (decide (1≤s.length)&&decide (s.length≤8))=A
    generalize letterB ((s[0]?.getD 0).toNat)=B
    cases A<;>cases B<;>simp
  refine Cs (Cr ?_)
  refine V0 (Ya rfl) ?_
  refine Ln (Et (Crt (Er ?_)))
  refine WE.ret1 rfl rfl fun w' hw=>?_
  exact ⟨by rw [hn],hw.fr⟩
 ·
  have hok:((decide (1≤s.length)&&decide (s.length≤8))&&letterB ((s[0]?.getD 0).toNat))=true:=by
    rw [within_nat] at hc0
    revert hc0
    generalize (decide (1≤s.length)&&decide (s.length≤8))=A
    generalize letterB ((s[0]?.getD 0).toNat)=B
    cases A<;>cases B<;>simp
  have h8:s.length≤8:=by simp at hok; omega
  refine Ck (Et (Cs (Cs (Cr ?_))))
  refine V0 (Ya rfl) ?_
  refine Ln (Et (Cb ?_))
  refine CW (ι:=Nat) (fun i=>[(3,.int .i64 (i:Int))]) [(0,_)] (fun i=>i≤s.length∧∀j,j<i→charB (s[j]?.getD 0)=true) (fun i=>s.length-i) 0 ⟨Nat.zero_le _,by simp⟩ (sc rfl (sc rfl sn)) ?_
  intro i ⟨hi,hall⟩
  refine Cs (Cs (Cr ?_))
  refine V0 (Ym rfl) ?_
  refine V0 (Ym rfl) ?_
  refine V0 (yl_lens us9 rfl) ?_
  refine V0 (yl_lt rfl rfl) ?_
  refine Ln (Et ?_)
  refine Cc rfl (fun hc1=>?_) (fun hc1=>?_)
  ·
   have hlt:i<s.length:=by simpa using hc1
   have hui:=at0 hlt
   refine Ck (Et (Cs (Cb (Cs (Cr ?_)))))
   refine V0 (Ym rfl) ?_
   refine V0 (Ym rfl) ?_
   refine V0 (yl_idxk us9 rfl rfl hui) ?_
   refine Lp (.inl rfl) rfl en89 rfl (fun w hw=>letter_any _ w) ?_
   refine V0 (yl_not rfl) ?_
   refine V0 (Ym rfl) ?_
   apply WL.and 5 rfl rfl rfl rfl (.inl rfl) rfl rfl rfl rfl rfl
   ·
    intro hg1
    refine Lv (.g rfl rfl rfl) rfl (Ym rfl) ?_
    refine Lv (.g rfl rfl rfl) rfl (Ym rfl) ?_
    refine Lv (.g rfl rfl rfl) rfl (yl_idxk us9 rfl rfl hui) ?_
    refine Lp (.g rfl rfl rfl) rfl en90 rfl (fun w hw=>digit_any _ w) ?_
    refine Lv (.g rfl rfl rfl) rfl (yl_not rfl) ?_
    exact Gt 5 rfl rfl rfl
   refine Ln (Et ?_)
   refine Cc rfl (fun hc2=>?_) (fun hc2=>?_)
   ·
    have hch:charB (s[i]?.getD 0)=false:=by unfold charB; revert hc2; cases letterB _<;>cases digitB _<;>simp
    refine Cs (Cr ?_)
    refine V0 (Ya rfl) ?_
    refine Ln (Et (Crt (Ebr (Er (Er ?_)))))
    refine Ebr (Er ?_)
    refine WE.ret1 rfl rfl fun w' hw=>?_
    exact ⟨by unfold nameB; rw [all_no hlt hch]; simp,hw.fr⟩
   ·
    have hch:charB (s[i]?.getD 0)=true:=by unfold charB; revert hc2; cases letterB _<;>cases digitB _<;>simp
    refine Ck (Eb (Et (Cr ?_)))
    refine V0 (Ym rfl) ?_
    refine V0 (Yi rfl rfl rfl (by omega)) ?_
    refine V0 (Ya rfl) ?_
    refine Ln ?_
    exact Ea (i+1) (by omega) ⟨by omega,fun j hj=>by rcases Nat.lt_succ_iff_lt_or_eq.1 hj with h | rfl; exact hall j h; exact hch⟩ (sc rfl (sc rfl sn)) (fun _ h=>h)
  ·
   have hge:¬i<s.length:=by simpa using hc1
   refine Ce (Ex (Ex (Ebh (Et (Cs ?_)))))
   refine Cr ?_
   refine V0 (Ya rfl) ?_
   refine Ln (Et (Crt ?_))
   refine WE.ret1 rfl rfl fun w' hw=>?_
   exact ⟨by unfold nameB; rw [all_yes fun j hj=>hall j (by omega),hok]; rfl,hw.fr⟩
theorem lexName_any (s:List UInt8) (w:World) :
   Calls Try.prog 76 #[st s] w fun e w'=>e = .returned (.bool (nameB s))∧Ext w w':=by
 refine enter Try.func76 rfl 33 rfl rfl ?_
 refine CWd (W':=Ws w [] [] []) (fun _ e=>by subst e; exact Ws.init (by simp)) ?_
 refine Cs (Cr ?_)
 refine V0 (Ya rfl) ?_
 refine Ln (Et (Cs (Cs (Cr ?_))))
 refine V0 (Ym rfl) ?_
 refine V0 (yl_lens us9 rfl) ?_
 refine V0 (yl_eq rfl rfl) ?_
 refine V0 (Ym rfl) ?_
 apply WL.or 3 rfl rfl rfl rfl (.inl rfl) rfl rfl rfl rfl rfl
 ·
  intro hg0
  refine Lv (.g rfl rfl rfl) rfl (Ym rfl) ?_
  refine Lv (.g rfl rfl rfl) rfl (yl_lens us9 rfl) ?_
  refine Lv (.g rfl rfl rfl) rfl (yl_gt rfl rfl) ?_
  exact Gt 3 rfl rfl rfl
 refine V0 (Ym rfl) ?_
 apply WL.or 3 rfl rfl rfl rfl (.inl rfl) rfl rfl rfl rfl rfl
 ·
  intro hg1
  have h0:0<s.length:=by
    rcases Nat.eq_zero_or_pos s.length with h | h
    · simp [h] at hg1
    · exact h
  have hu0:=at0 h0
  refine Lv (.g rfl rfl rfl) rfl (Ym rfl) ?_
  refine Lv (.g rfl rfl rfl) rfl (yl_idxk us9 rfl rfl (by assumption)) ?_
  refine Lv (.g rfl rfl rfl) rfl (yl_lt rfl rfl) ?_
  exact Gt 3 rfl rfl rfl
 refine V0 (Ym rfl) ?_
 apply WL.or 3 rfl rfl rfl rfl (.inl rfl) rfl rfl rfl rfl rfl
 ·
  intro hg2
  have h0:0<s.length:=by
    rcases Nat.eq_zero_or_pos s.length with h | h
    · simp [h] at hg2
    · exact h
  have hu0:=at0 h0
  refine Lv (.g rfl rfl rfl) rfl (Ym rfl) ?_
  refine Lv (.g rfl rfl rfl) rfl (yl_idxk us9 rfl rfl hu0) ?_
  refine Lv (.g rfl rfl rfl) rfl (yl_gt rfl rfl) ?_
  exact Gt 3 rfl rfl rfl
 refine Ln (Et ?_)
 refine Cc rfl (fun hc0=>?_) (fun hc0=>?_)
 ·
  rw [lex_cond] at hc0
  have hn:nameB s=false:=by
    unfold nameB
    simp only [Bool.not_eq_true'] at hc0
    rw [hc0]; rfl
  refine Cs (Cr ?_)
  refine V0 (Ya rfl) ?_
  refine Ln (Et (Crt (Er ?_)))
  refine WE.ret1 rfl rfl fun w' hw=>?_
  exact ⟨by rw [hn],hw.fr⟩
 ·
  rw [lex_cond] at hc0
  have hok:((decide (1≤s.length)&&decide (s.length≤8))&&letterB ((s[0]?.getD 0).toNat))=true:=by simpa using hc0
  have h8:s.length≤8:=by simp at hok; omega
  refine Ck (Et (Cs (Cs (Cr ?_))))
  refine V0 (Ym rfl) ?_
  refine V0 (yl_lens us9 rfl) ?_
  refine V0 (Ym rfl) ?_
  refine Ln (Et (Cb ?_))
  refine CW (ι:=Nat) (fun i=>[(24,.int .i64 (i:Int))]) [(0,_),(23,_)] (fun i=>i≤s.length∧∀j,j<i→charB (s[j]?.getD 0)=true) (fun i=>s.length-i) 0 ⟨Nat.zero_le _,by simp⟩ (sc rfl (sc rfl (sc rfl sn))) ?_
  intro i ⟨hi,hall⟩
  refine Cs (Cr ?_)
  refine V0 (yl_lt rfl rfl) ?_
  refine Ln (Et (Cs ?_))
  refine Cc rfl (fun hc1=>?_) (fun hc1=>?_)
  ·
   have hlt:i<s.length:=by simpa using hc1
   have hui:=at0 hlt
   refine Ck (Et (Cs (Cb (Cs (Cr ?_)))))
   refine V0 (Ym rfl) ?_
   refine V0 (Ya rfl) ?_
   refine Ln (Et (Cs (Cr ?_)))
   refine V0 (Ym rfl) ?_
   refine V0 (Ym rfl) ?_
   refine V0 (yl_idxk us9 rfl rfl hui) ?_
   refine Lp (.inl rfl) rfl en86 rfl (fun w hw=>plain_char _ w) ?_
   refine V0 (yl_not rfl) ?_
   refine Ln (Et ?_)
   refine Cc rfl (fun hc2=>?_) (fun hc2=>?_)
   ·
    have hch:charB (s[i]?.getD 0)=false:=by unfold charB; revert hc2; cases letterB _<;>cases digitB _<;>simp
    refine Cs (Cr ?_)
    refine V0 (Ya rfl) ?_
    refine Ln (Et (Crt (Ebr (Er (Er ?_)))))
    refine Ebr (Er ?_)
    refine WE.ret1 rfl rfl fun w' hw=>?_
    exact ⟨by unfold nameB; rw [all_no hlt hch]; simp,hw.fr⟩
   ·
    have hch:charB (s[i]?.getD 0)=true:=by unfold charB; revert hc2; cases letterB _<;>cases digitB _<;>simp
    refine Ck (Eb (Et (Cr ?_)))
    refine V0 (Yi rfl rfl rfl (by omega)) ?_
    refine V0 (Ym rfl) ?_
    refine Ln ?_
    exact Ea (i+1) (by omega) ⟨by omega,fun j hj=>by rcases Nat.lt_succ_iff_lt_or_eq.1 hj with h | rfl; exact hall j h; exact hch⟩ (sc rfl (sc rfl (sc rfl sn))) (fun _ h=>h)
  ·
   have hge:¬i<s.length:=by simpa using hc1
   refine Ce (Ex (Ex (Ebh (Et (Cs ?_)))))
   refine Cr ?_
   refine V0 (Ya rfl) ?_
   refine Ln (Et (Crt ?_))
   refine WE.ret1 rfl rfl fun w' hw=>?_
   exact ⟨by unfold nameB; rw [all_yes fun j hj=>hall j (by omega),hok]; rfl,hw.fr⟩
end Go.Proofs.Ytinnlppbkhhoiaa
end
section
namespace Go.Proofs.Ytinnlppbkhhoiaa
open Go.Bw
set_option linter.unusedVariables false
set_option linter.unusedSimpArgs false
theorem any_true {α:Type} {p:α→Bool} {l:List α} {j:Nat} {x:α} (hj:l[j]? = some x) (h:p x=true):l.any p=true:=List.any_eq_true.2 ⟨x,List.mem_of_getElem? hj,h⟩
theorem any_false {α:Type} {p:α→Bool} {l:List α} (h:∀(j:Nat) (x:α),l[j]? = some x→p x=false):l.any p=false:=by
 rw [List.any_eq_false]
 intro x hx
 obtain ⟨j,hj⟩:=List.getElem?_of_mem hx
 simp [h j x hj]
theorem take_snoc {α:Type} {l:List α} {i:Nat} {x:α} (h:l[i]? = some x):l.take (i+1)=l.take i++[x]:=by rw [List.take_add_one,h]; rfl
end Go.Proofs.Ytinnlppbkhhoiaa
end
section
namespace Go.Proofs.Ytinnlppbkhhoiaa
open Go.Bw
set_option linter.unusedVariables false
set_option linter.unusedSimpArgs false
abbrev kI:Int→Value:=fun n:Int=>Value.int .i64 n
def vS (r:Bool) (a:Int):Value:=.agg #[.bool r,.int .i64 a]
def exprsK (n:Nat):List (GEnt Int):=[(1,vS false 0,0),(2,vS false 0,1),(3,vS true 0,2),(4,vS true 1,3),(5,vS true (-1),4),(6,vS false 1,5)]++(List.range n).map fun j=>(((7+j:Nat):Int),vS false 2,6+j)
def stmtsK:List (GEnt Int):=[(1,vS true 1,0),(2,vS true 2,1),(3,vS true (-1),2),(4,vS false 1,3),(5,vS false 1,4),(6,vS false 1,5),(7,vS false 1,6)]
theorem exprs_step (n:Nat) (h:n<9):gobj kI (gput ((7+n:Nat):Int) (vS false 2) (exprsK n) (6+n)) (gclock ((7+n:Nat):Int) (exprsK n) (6+n))=gobj kI (exprsK (n+1)) (6+(n+1)):=by
 match n,h with
 | 0,_=>rfl
 | 1,_=>rfl
 | 2,_=>rfl
 | 3,_=>rfl
 | 4,_=>rfl
 | 5,_=>rfl
 | 6,_=>rfl
 | 7,_=>rfl
 | 8,_=>rfl
theorem exprs_get (op:Int):gget op (exprsK 9) (vS false 0)=vS ((shE op).getD (false,0)).1 ((shE op).getD (false,0)).2∧ghas op (exprsK 9) = !(shE op).isNone:=by
 by_cases h1:op=1
 · subst h1; exact ⟨rfl,rfl⟩
 by_cases h2:op=2
 · subst h2; exact ⟨rfl,rfl⟩
 by_cases h3:op=3
 · subst h3; exact ⟨rfl,rfl⟩
 by_cases h4:op=4
 · subst h4; exact ⟨rfl,rfl⟩
 by_cases h5:op=5
 · subst h5; exact ⟨rfl,rfl⟩
 by_cases h6:op=6
 · subst h6; exact ⟨rfl,rfl⟩
 by_cases h7:op=7
 · subst h7; exact ⟨rfl,rfl⟩
 by_cases h8:op=8
 · subst h8; exact ⟨rfl,rfl⟩
 by_cases h9:op=9
 · subst h9; exact ⟨rfl,rfl⟩
 by_cases h10:op=10
 · subst h10; exact ⟨rfl,rfl⟩
 by_cases h11:op=11
 · subst h11; exact ⟨rfl,rfl⟩
 by_cases h12:op=12
 · subst h12; exact ⟨rfl,rfl⟩
 by_cases h13:op=13
 · subst h13; exact ⟨rfl,rfl⟩
 by_cases h14:op=14
 · subst h14; exact ⟨rfl,rfl⟩
 by_cases h15:op=15
 · subst h15; exact ⟨rfl,rfl⟩
 have hn:shE op=none:=by
   unfold shE
   rw [if_neg (by omega),if_neg h3,if_neg h4,if_neg h5,if_neg h6,if_neg (by omega)]
 have hf:gfind op (exprsK 9) 0=none:=by
   show gfind op [(1,vS false 0,0),(2,vS false 0,1),(3,vS true 0,2),(4,vS true 1,3),(5,vS true (-1),4),(6,vS false 1,5),(7,vS false 2,6),(8,vS false 2,7),(9,vS false 2,8),(10,vS false 2,9),(11,vS false 2,10),(12,vS false 2,11),(13,vS false 2,12),(14,vS false 2,13),(15,vS false 2,14)] 0=none
   simp [gfind,h1,h2,h3,h4,h5,h6,h7,h8,h9,h10,h11,h12,h13,h14,h15]
 rw [gget,ghas,hf,hn]
 exact ⟨rfl,rfl⟩
theorem stmts_get (op:Int):gget op stmtsK (vS false 0)=vS ((shS op).getD (false,0)).1 ((shS op).getD (false,0)).2∧ghas op stmtsK = !(shS op).isNone:=by
 by_cases h1:op=1
 · subst h1; exact ⟨rfl,rfl⟩
 by_cases h2:op=2
 · subst h2; exact ⟨rfl,rfl⟩
 by_cases h3:op=3
 · subst h3; exact ⟨rfl,rfl⟩
 by_cases h4:op=4
 · subst h4; exact ⟨rfl,rfl⟩
 by_cases h5:op=5
 · subst h5; exact ⟨rfl,rfl⟩
 by_cases h6:op=6
 · subst h6; exact ⟨rfl,rfl⟩
 by_cases h7:op=7
 · subst h7; exact ⟨rfl,rfl⟩
 have hn:shS op=none:=by
   unfold shS
   rw [if_neg h1,if_neg h2,if_neg h3,if_neg (by omega)]
 have hf:gfind op stmtsK 0=none:=by simp [stmtsK,gfind,h1,h2,h3,h4,h5,h6,h7]
 rw [gget,ghas,hf,hn]
 exact ⟨rfl,rfl⟩
theorem cntN_app:∀a b:List Tx,cntN (a++b)=cntN a+cntN b
 | [],b=>by apply Cnt.ext'<;>simp [Cnt.add_f,Cnt.add_m,Cnt.add_k,cntN,c0]
 | x::a,b=>by
   rw [List.cons_append,show ∀q,cntN (x::q)=noteF (!nameT x)+cntN q from fun _=>rfl,cntN_app a b,show ∀q,cntN (x::q)=noteF (!nameT x)+cntN q from fun _=>rfl,Cnt.add_assoc']
theorem cntN_one (s:Tx):cntN [s]=noteF (!nameT s):=rfl
theorem cntN_take {l:List Tx} {i:Nat} {s:Tx} (h:l[i]? = some s):cntN (l.take (i+1))=cntN (l.take i)+noteF (!nameT s):=by rw [take_snoc h,cntN_app,cntN_one]
theorem add_c0 (c:Cnt):c+c0=c:=rfl
theorem tot_f (c:Cnt):c.f≤c.tot:=by unfold Cnt.tot; omega
theorem tot_m (c:Cnt):c.m≤c.tot:=by unfold Cnt.tot; omega
theorem tot_k (c:Cnt):c.k≤c.tot:=by unfold Cnt.tot; omega
theorem el27:EltOk Try.prog 27 9 (st []) 1 16:=eltOk_of (by kernel_rfl)
theorem es27:elemSz Try.prog 27=some 1:=by kernel_rfl
theorem na9:nonAgg Try.prog 9=true:=by kernel_rfl
theorem en87:Enters Try.prog 87:=enters_of Try.func87 (by kernel_rfl) rfl
theorem en76:Enters Try.prog 76:=enters_of Try.func76 (by kernel_rfl) rfl
theorem en78:Enters Try.prog 78:=enters_of Try.func78 (by kernel_rfl) rfl
theorem en77:Enters Try.prog 77:=enters_of Try.func77 (by kernel_rfl) rfl
theorem ui3:Try.prog.underlying 3=some (.int .i64):=by kernel_rfl
theorem pl101:placesP Try.prog 101=some [(0,1),(1,1)]:=by kernel_rfl
theorem zr101:zeroOf Try.prog 101=some (.agg #[.bool false,.int .i64 0]):=by kernel_rfl
theorem um72:Try.prog.underlying 72=some (.map 3 101):=by kernel_rfl
theorem mixed:Try.prog.follows .mixedOrders=true:=by kernel_rfl
theorem fo76_0:fieldOff Try.prog 76 0=some 0:=by kernel_rfl
theorem ar74:arrP Try.prog 74=some (10,1):=by kernel_rfl
theorem na3:nonAgg Try.prog 3=true:=by kernel_rfl
theorem sz3:sizeP Try.prog 3=some 1:=by kernel_rfl
theorem reserved_any (w:World) :
   Calls Try.prog 78 #[] w fun e w'=>∃r:Option Addr×Nat,e = .returned (.slice r.1 wordsL.length r.2)∧Ext w w'∧Sl rdStr 1 (nv w w') r.1 r.2 wordsL:=by
 refine enter Try.func78 rfl 2 rfl rfl ?_
 refine CWd (W':=Ws w [] [] []) (fun _ e=>by subst e; exact Ws.init (by simp)) ?_
 refine Cs (Cr ?_)
 refine V0 (Ya rfl) ?_
 refine Ln (Et (Cs (Cr ?_)))
 refine Lb (.inl rfl) rfl el27 rfl rfl rfl rfl fun b1=>?_
 refine V0 (Ya rfl) ?_
 refine Ln (Et (Crt ?_))
 refine WE.retR (rs_1 rfl (rv_tmp rfl)) fun w' hw=>?_
 exact ⟨(some ⟨b1,0,none⟩,15),rfl,hw.fr,⟨show wordsL.length≤15 by decide,show 15≤9223372036854775807 by decide,by simp,fun j x hj=>⟨b1,0,rfl,fun k v hk=>hw.nvc 0 rfl (by
     have:k<1:=(List.getElem?_eq_some_iff.1 hk).1
     show (wordsL.flatMap strC)[0+j*1+k]? = some v
     rw [Nat.zero_add,flat_get strC_len hj this]; exact hk)⟩⟩⟩
theorem indexS_any (H:View) (a:Option Addr) (c:Nat) (l:List Tx) (s:Tx) (w:World) (hH:Le H w) (hm:Sl rdStr 1 H a c l) :
   Calls Try.prog 87 #[.slice a l.length c,st s] w fun e w'=>(∃n:Int,e = .returned (.int .i64 n)∧decide (0≤n)=l.contains s)∧Ext w w':=by
 have hcap:=hm.cap
 have hmax:=hm.max
 refine enter Try.func87 rfl 19 rfl rfl ?_
 refine CWd (W':=Ws w [] [] [H]) (fun _ e=>by subst e; exact Ws.init (by simp [hH])) ?_
 refine Cs (Cr ?_)
 refine V0 (Ya rfl) ?_
 refine Ln (Et (Cs (Cs (Cr ?_))))
 refine V0 (Ym rfl) ?_
 refine V0 (Yn es27 rfl) ?_
 refine V0 (Ym rfl) ?_
 refine Ln (Et (Cb ?_))
 refine CW (ι:=Nat) (fun i=>[(8,.int .i64 (i:Int))]) [(0,_),(1,_),(7,_)] (fun i=>i≤l.length∧∀j,j<i→l[j]?≠some s) (fun i=>l.length-i) 0 ⟨Nat.zero_le _,by simp⟩ (sc rfl (sc rfl (sc rfl (sc rfl sn)))) ?_
 intro i ⟨hi,hall⟩
 refine Cs (Cr ?_)
 refine V0 (yl_lt rfl rfl) ?_
 refine Ln (Et (Cs ?_))
 refine Cc rfl (fun hc0=>?_) (fun hc0=>?_)
 ·
  have hlt:i<l.length:=by simpa using hc0
  obtain ⟨x,hxi⟩:∃x,l[i]? = some x:=⟨_,List.getElem?_eq_getElem hlt⟩
  obtain ⟨pbx,pox,ha,hrow⟩:=hm.elt i x hxi
  have hrow:RdC H pbx (pox+i*1) (strC x):=hrow
  refine Ck (Et (Cs (Cb (Cs (Cr ?_)))))
  refine V0 (Ym rfl) ?_
  refine V0 (Ya rfl) ?_
  refine Ln (Et (Cs (Cr ?_)))
  refine V0 (Ym rfl) ?_
  refine V0 (Ym rfl) ?_
  refine V0 (Ym rfl) ?_
  refine V0 (Yo es27 rfl rfl (by assumption) (by omega)) ?_
  refine V0 (yl_ld 0 na9 rfl rfl (hrow 0 _ rfl)) ?_
  refine V0 (yl_eqs rfl rfl) ?_
  refine Ln (Et ?_)
  refine Cc rfl (fun hc1=>?_) (fun hc1=>?_)
  ·
   have heq:s=x:=by simpa using hc1
   refine Cs (Cr ?_)
   refine V0 (Ym rfl) ?_
   refine V0 (Ya rfl) ?_
   refine Ln (Et (Crt (Ebr (Er (Er ?_)))))
   refine Ebr (Er ?_)
   refine WE.ret1 rfl rfl fun w' hw=>?_
   refine ⟨⟨_,rfl,?_⟩,hw.fr⟩
   rw [decide_eq_true (by omega),List.contains_iff_mem.2 (by rw [heq]; exact List.mem_of_getElem? hxi)]
  ·
   have hne:¬s=x:=by simpa using hc1
   refine Ck (Eb (Et (Cr ?_)))
   refine V0 (Yi rfl rfl rfl (by omega)) ?_
   refine V0 (Ym rfl) ?_
   refine Ln ?_
   exact Ea (i+1) (by omega) ⟨by omega,fun j hj=>by rcases Nat.lt_succ_iff_lt_or_eq.1 hj with h | rfl; exact hall j h; rw [hxi]; intro e; injection e with e; exact hne e.symm⟩ (sc rfl (sc rfl (sc rfl (sc rfl sn)))) (fun _ h=>h)
 ·
  have hge:¬i<l.length:=by simpa using hc0
  have hno:l.contains s=false:=by
    rw [Bool.eq_false_iff]
    intro h
    rw [List.contains_iff_mem] at h
    obtain ⟨j,hj⟩:=List.getElem?_of_mem h
    exact hall j (by have:=(List.getElem?_eq_some_iff.1 hj).1; omega) hj
  refine Ce (Ex (Ex (Ebh (Et (Cs ?_)))))
  refine Cr ?_
  refine V0 (Ya rfl) ?_
  refine Ln (Et (Crt ?_))
  refine WE.ret1 rfl rfl fun w' hw=>?_
  refine ⟨⟨_,rfl,?_⟩,hw.fr⟩
  rw [hno]; rfl
theorem containsS_any (H:View) (a:Option Addr) (c:Nat) (l:List Tx) (s:Tx) (w:World) (hH:Le H w) (hm:Sl rdStr 1 H a c l) :
   Calls Try.prog 77 #[.slice a l.length c,st s] w fun e w'=>e = .returned (.bool (l.contains s))∧Ext w w':=by
 refine enter Try.func77 rfl 9 rfl rfl ?_
 refine CWd (W':=Ws w [] [] [H]) (fun _ e=>by subst e; exact Ws.init (by simp [hH])) ?_
 refine Cs (Cr ?_)
 refine V0 (Ya rfl) ?_
 refine Ln (Et (Cs (Cr ?_)))
 refine V0 (Ym rfl) ?_
 refine V0 (Ym rfl) ?_
 refine Ld (.inl rfl) rfl en87 rfl (fun n:Int=>.int .i64 n) (fun _ n=>decide (0≤n)=l.contains s) (fun w hw=>(indexS_any H a c l s w (hw.vs _ (by simp)) hm).mono fun e w' h=>by
     obtain ⟨⟨n,h1,h2⟩,h3⟩:=h
     exact ⟨n,h1,h3,h2⟩) ?_
 intro F7 n7 hf7 h7
 refine V0 (yl_ge rfl rfl) ?_
 refine V0 (Ya rfl) ?_
 refine Ln (Et (Crt ?_))
 refine WE.ret1 rfl rfl fun w' hw=>?_
 exact ⟨by rw [h7],hw.fr⟩
theorem treeName_any (s:Tx) (w:World) :
   Calls Try.prog 56 #[st s] w fun e w'=>e = .returned (.bool (nameT s))∧Ext w w':=by
 refine enter Try.func56 rfl 11 rfl rfl ?_
 refine CWd (W':=Ws w [] [] []) (fun _ e=>by subst e; exact Ws.init (by simp)) ?_
 refine Cs (Cr ?_)
 refine V0 (Ya rfl) ?_
 refine Ln (Et (Cs (Cr ?_)))
 refine V0 (Ym rfl) ?_
 refine Lp (.inl rfl) rfl en76 rfl (fun w hw=>lexName_any _ w) ?_
 refine V0 (Ym rfl) ?_
 apply WL.and 4 rfl rfl rfl rfl (.inl rfl) rfl rfl rfl rfl rfl
 ·
  intro hg0
  refine Ld (.g rfl rfl rfl) rfl en78 rfl (fun r:Option Addr×Nat=>.slice r.1 wordsL.length r.2) (fun H r=>Sl rdStr 1 H r.1 r.2 wordsL) (fun w hw=>reserved_any w) ?_
  intro F6 r6 hf6 h6
  refine Lv (.g rfl rfl rfl) rfl (Ym rfl) ?_
  refine Lp (.g rfl rfl rfl) rfl en77 rfl (fun w hw=>containsS_any F6 r6.1 r6.2 wordsL s w (hw.vs _ (by simp)) h6) ?_
  refine Lv (.g rfl rfl rfl) rfl (yl_not rfl) ?_
  refine WL.wk ?_ (Gt 4 rfl rfl rfl)
  exact fun _ h=>Ws.drops (h) (fun _ hm=>List.mem_append_right [_] hm)
 refine V0 (Ya rfl) ?_
 refine Ln (Et (Crt ?_))
 refine WE.ret1 rfl rfl fun w' hw=>?_
 exact ⟨rfl,hw.fr⟩
theorem exprs_any (w:World) :
   Calls Try.prog 37 #[] w fun e w'=>∃b:Nat,e = .returned (.map (some b))∧Ws w [] [blk b (gobj kI (exprsK 9) 15)] [] w':=by
 refine enter Try.func37 rfl 19 rfl rfl ?_
 refine CWd (W':=Ws w [] [] []) (fun _ e=>by subst e; exact Ws.init (by simp)) ?_
 refine Cs (Cr ?_)
 refine V0 (Ya rfl) ?_
 refine Ln (Et (Cs (Cr ?_)))
 refine WL.gmk (fun n:Int=>Value.int .i64 n) (.inl rfl) rfl fun b3=>?_
 refine V0 (Yb zr101 pl101 rfl rfl) ?_
 refine WL.gins 0 keyInt (.inl rfl) um72 ui3 rfl rfl rfl rfl ?_
 refine V0 (Yb zr101 pl101 rfl rfl) ?_
 refine WL.gins 0 keyInt (.inl rfl) um72 ui3 rfl rfl rfl rfl ?_
 refine V0 (Yb zr101 pl101 rfl rfl) ?_
 refine WL.gins 0 keyInt (.inl rfl) um72 ui3 rfl rfl rfl rfl ?_
 refine V0 (Yb zr101 pl101 rfl rfl) ?_
 refine WL.gins 0 keyInt (.inl rfl) um72 ui3 rfl rfl rfl rfl ?_
 refine V0 (Yb zr101 pl101 rfl rfl) ?_
 refine WL.gins 0 keyInt (.inl rfl) um72 ui3 rfl rfl rfl rfl ?_
 refine V0 (Yb zr101 pl101 rfl rfl) ?_
 refine WL.gins 0 keyInt (.inl rfl) um72 ui3 rfl rfl rfl rfl ?_
 refine V0 (Ym rfl) ?_
 refine Lrb 0 (gobj kI (exprsK 0) (6+0)) rfl rfl ?_
 refine V0 (Ya rfl) ?_
 refine Ln (Et (Cs (Cs (Cr ?_))))
 refine V0 (Ya rfl) ?_
 refine Ln (Et (Cb ?_))
 refine CK (ι:=Nat) (fun i=>[(2,.int .i64 ((7+i:Nat):Int))]) [(0,_),(1,_)] (fun i=>Ws w [] [blk b3 (gobj kI (exprsK i) (6+i))] []) (fun i=>i≤9) (fun i=>9-i) 0 (Nat.zero_le _) (sc rfl (sc rfl (sc rfl sn))) (fun _ h=>h) ?_
 intro i hi
 refine Cs (Cs (Cr ?_))
 refine V0 (Ym rfl) ?_
 refine V0 (yl_le rfl rfl) ?_
 refine Ln (Et ?_)
 refine Cc rfl (fun hc0=>?_) (fun hc0=>?_)
 ·
  have hlt:i<9:=by simp at hc0; omega
  refine Ck (Et (Cs (Cb (Cr ?_))))
  refine V0 (Ym rfl) ?_
  refine V0 (Ym rfl) ?_
  refine V0 (Yb zr101 pl101 rfl rfl) ?_
  refine WL.gset 0 keyInt (.inl rfl) um72 ui3 rfl rfl rfl rfl ?_
  refine Ln (Eb (Et (Cr ?_)))
  refine V0 (Ym rfl) ?_
  refine V0 (yl_addv (((7+i:Nat):Int)+1) rfl rfl rfl (by omega)) ?_
  refine V0 (Ya rfl) ?_
  refine Ln ?_
  rw [show (((7+i:Nat):Int)+1)=((7+(i+1):Nat):Int) by omega]
  exact Ea (i+1) (by omega) (by omega) (sc rfl (sc rfl (sc rfl sn))) (fun _ h=>by
    have h:=Ws.reL h 0 rfl (congrArg (blk b3) (exprs_step i hlt))
    exact h)
 ·
  have hie:i=9:=by simp at hc0; omega
  subst hie
  refine Ce (Ex (Ex (Ebh (Et (Cs ?_)))))
  refine Cr ?_
  refine V0 (Ym rfl) ?_
  refine V0 (Ya rfl) ?_
  refine Ln (Et (Crt ?_))
  refine WE.retR (rs_1 rfl (rv_tmp rfl)) fun w' hw=>?_
  exact ⟨b3,rfl,hw⟩
theorem stmts_any (w:World) :
   Calls Try.prog 38 #[] w fun e w'=>∃b:Nat,e = .returned (.map (some b))∧Ws w [] [blk b (gobj kI stmtsK 7)] [] w':=by
 refine enter Try.func38 rfl 10 rfl rfl ?_
 refine CWd (W':=Ws w [] [] []) (fun _ e=>by subst e; exact Ws.init (by simp)) ?_
 refine Cs (Cr ?_)
 refine V0 (Ya rfl) ?_
 refine Ln (Et (Cs (Cr ?_)))
 refine WL.gmk (fun n:Int=>Value.int .i64 n) (.inl rfl) rfl fun b1=>?_
 refine V0 (Yb zr101 pl101 rfl rfl) ?_
 refine WL.gins 0 keyInt (.inl rfl) um72 ui3 rfl rfl rfl rfl ?_
 refine V0 (Yb zr101 pl101 rfl rfl) ?_
 refine WL.gins 0 keyInt (.inl rfl) um72 ui3 rfl rfl rfl rfl ?_
 refine V0 (Yb zr101 pl101 rfl rfl) ?_
 refine WL.gins 0 keyInt (.inl rfl) um72 ui3 rfl rfl rfl rfl ?_
 refine V0 (Yb zr101 pl101 rfl rfl) ?_
 refine WL.gins 0 keyInt (.inl rfl) um72 ui3 rfl rfl rfl rfl ?_
 refine V0 (Yb zr101 pl101 rfl rfl) ?_
 refine WL.gins 0 keyInt (.inl rfl) um72 ui3 rfl rfl rfl rfl ?_
 refine V0 (Yb zr101 pl101 rfl rfl) ?_
 refine WL.gins 0 keyInt (.inl rfl) um72 ui3 rfl rfl rfl rfl ?_
 refine V0 (Yb zr101 pl101 rfl rfl) ?_
 refine WL.gins 0 keyInt (.inl rfl) um72 ui3 rfl rfl rfl rfl ?_
 refine V0 (Ym rfl) ?_
 refine V0 (Ya rfl) ?_
 refine Ln (Et (Crt ?_))
 refine WE.retR (rs_1 rfl (rv_tmp rfl)) fun w' hw=>?_
 exact ⟨b1,rfl,hw⟩
theorem note1_any (vb be bs:Nat) (c:Cnt) (b:Bool) (w:World) (hb:c.tot≤4611686018427387904) (hw:Ws w [vb] [blk vb (.cells #[.int .i64 0,.int .i64 ((c).f:Int),.int .i64 ((c).m:Int),.int .i64 0,.int .i64 ((c).k:Int),.int .i64 0,.int .i64 0,.int .i64 0,.int .i64 0,.int .i64 0,.map (some be),.map (some bs)] 76 (0,0))] [] w) :
   Calls Try.prog 40 #[.pointer (some ⟨vb,0,none⟩),.bool b,.int .i64 1] w fun e w'=>e = .returned (.tuple #[])∧Ws w [vb] [blk vb (.cells #[.int .i64 0,.int .i64 ((c+noteF b).f:Int),.int .i64 ((c+noteF b).m:Int),.int .i64 0,.int .i64 ((c+noteF b).k:Int),.int .i64 0,.int .i64 0,.int .i64 0,.int .i64 0,.int .i64 0,.map (some be),.map (some bs)] 76 (0,0))] [] w':=by
 have hf:=tot_f c
 refine enter Try.func40 rfl 17 rfl rfl ?_
 refine CWd (W':=Ws w [vb] [blk vb (.cells #[.int .i64 0,.int .i64 ((c).f:Int),.int .i64 ((c).m:Int),.int .i64 0,.int .i64 ((c).k:Int),.int .i64 0,.int .i64 0,.int .i64 0,.int .i64 0,.int .i64 0,.map (some be),.map (some bs)] 76 (0,0))] []) (fun _ e=>by subst e; exact hw) ?_
 refine Cs (Cr ?_)
 refine V0 (Ym rfl) ?_
 refine Ln (Et ?_)
 refine Cc rfl (fun hc0=>?_) (fun hc0=>?_)
 ·
  subst hc0
  refine WC.draws1 0 [(0,true),(1,true),(2,true),(3,true),(4,true),(7,true),(8,true),(5,false),(6,true),(9,true),(10,false)] mixed (by kernel_rfl) (fun _ _ _ d _ h=>by cases d<;>exact h) ?_
  refine Dq rfl (.inl rfl) rfl (fun _ h=>by have h:=Ws.out 0 h; exact h) (Ym rfl) ?_
  refine Dq rfl (.inl rfl) rfl (fun _ h=>by have h:=Ws.out 0 h; exact h) (Ym rfl) ?_
  refine Dq rfl (.inl rfl) rfl (fun _ h=>by have h:=Ws.out 0 h; exact h) (yl_nil rfl) ?_
  refine Dq rfl (.inl rfl) rfl (fun _ h=>by have h:=Ws.out 0 h; exact h) (Yf fo76_0 rfl) ?_
  refine Dq rfl (.inl rfl) rfl (fun _ h=>by have h:=Ws.out 0 h; exact h) (yl_iar (i:=1) ar74 rfl rfl (by decide)) ?_
  refine Dq rfl (.inl rfl) rfl (fun _ h=>by have h:=Ws.out 0 h; exact h) (yl_nil rfl) ?_
  refine Dq rfl (.inl rfl) rfl (fun _ h=>by have h:=Ws.out 0 h; exact h) (Yf fo76_0 rfl) ?_
  refine De rfl (fun _ h=>by have h:=Ws.out 0 h; exact h) ?_
  refine V0 (Yd 0 rfl rfl rfl na3) ?_
  refine Ln (Ed ?_)
  refine Dq rfl (.inl rfl) rfl (fun _ h=>by have h:=Ws.out 0 h; exact h) (Yi rfl rfl rfl (by omega)) ?_
  refine Dq rfl (.inl rfl) rfl (fun _ h=>by have h:=Ws.out 0 h; exact h) (yl_iar (i:=1) ar74 rfl rfl (by decide)) ?_
  refine De rfl (fun _ h=>by have h:=Ws.out 0 h; exact h) ?_
  refine Lst 0 (.inl rfl) rfl rfl rfl sz3 rfl rfl rfl ?_
  refine Ln (Ed ?_)
  refine WD.nil (fun _ h=>by have h:=Ws.out 0 h; exact h) ?_
  refine WE.end0 rfl fun w' hw=>?_
  exact ⟨rfl,hw⟩
 ·
  subst hc0
  refine Ck ?_
  refine WE.end0 rfl fun w' hw=>?_
  exact ⟨rfl,hw⟩
theorem note2_any (vb be bs:Nat) (c:Cnt) (b:Bool) (w:World) (hb:c.tot≤4611686018427387904) (hw:Ws w [vb] [blk vb (.cells #[.int .i64 0,.int .i64 ((c).f:Int),.int .i64 ((c).m:Int),.int .i64 0,.int .i64 ((c).k:Int),.int .i64 0,.int .i64 0,.int .i64 0,.int .i64 0,.int .i64 0,.map (some be),.map (some bs)] 76 (0,0))] [] w) :
   Calls Try.prog 40 #[.pointer (some ⟨vb,0,none⟩),.bool b,.int .i64 2] w fun e w'=>e = .returned (.tuple #[])∧Ws w [vb] [blk vb (.cells #[.int .i64 0,.int .i64 ((c+noteM b).f:Int),.int .i64 ((c+noteM b).m:Int),.int .i64 0,.int .i64 ((c+noteM b).k:Int),.int .i64 0,.int .i64 0,.int .i64 0,.int .i64 0,.int .i64 0,.map (some be),.map (some bs)] 76 (0,0))] [] w':=by
 have hm:=tot_m c
 refine enter Try.func40 rfl 17 rfl rfl ?_
 refine CWd (W':=Ws w [vb] [blk vb (.cells #[.int .i64 0,.int .i64 ((c).f:Int),.int .i64 ((c).m:Int),.int .i64 0,.int .i64 ((c).k:Int),.int .i64 0,.int .i64 0,.int .i64 0,.int .i64 0,.int .i64 0,.map (some be),.map (some bs)] 76 (0,0))] []) (fun _ e=>by subst e; exact hw) ?_
 refine Cs (Cr ?_)
 refine V0 (Ym rfl) ?_
 refine Ln (Et ?_)
 refine Cc rfl (fun hc0=>?_) (fun hc0=>?_)
 ·
  subst hc0
  refine WC.draws1 0 [(0,true),(1,true),(2,true),(3,true),(4,true),(7,true),(8,true),(5,false),(6,true),(9,true),(10,false)] mixed (by kernel_rfl) (fun _ _ _ d _ h=>by cases d<;>exact h) ?_
  refine Dq rfl (.inl rfl) rfl (fun _ h=>by have h:=Ws.out 0 h; exact h) (Ym rfl) ?_
  refine Dq rfl (.inl rfl) rfl (fun _ h=>by have h:=Ws.out 0 h; exact h) (Ym rfl) ?_
  refine Dq rfl (.inl rfl) rfl (fun _ h=>by have h:=Ws.out 0 h; exact h) (yl_nil rfl) ?_
  refine Dq rfl (.inl rfl) rfl (fun _ h=>by have h:=Ws.out 0 h; exact h) (Yf fo76_0 rfl) ?_
  refine Dq rfl (.inl rfl) rfl (fun _ h=>by have h:=Ws.out 0 h; exact h) (yl_iar (i:=2) ar74 rfl rfl (by decide)) ?_
  refine Dq rfl (.inl rfl) rfl (fun _ h=>by have h:=Ws.out 0 h; exact h) (yl_nil rfl) ?_
  refine Dq rfl (.inl rfl) rfl (fun _ h=>by have h:=Ws.out 0 h; exact h) (Yf fo76_0 rfl) ?_
  refine De rfl (fun _ h=>by have h:=Ws.out 0 h; exact h) ?_
  refine V0 (Yd 0 rfl rfl rfl na3) ?_
  refine Ln (Ed ?_)
  refine Dq rfl (.inl rfl) rfl (fun _ h=>by have h:=Ws.out 0 h; exact h) (Yi rfl rfl rfl (by omega)) ?_
  refine Dq rfl (.inl rfl) rfl (fun _ h=>by have h:=Ws.out 0 h; exact h) (yl_iar (i:=2) ar74 rfl rfl (by decide)) ?_
  refine De rfl (fun _ h=>by have h:=Ws.out 0 h; exact h) ?_
  refine Lst 0 (.inl rfl) rfl rfl rfl sz3 rfl rfl rfl ?_
  refine Ln (Ed ?_)
  refine WD.nil (fun _ h=>by have h:=Ws.out 0 h; exact h) ?_
  refine WE.end0 rfl fun w' hw=>?_
  exact ⟨rfl,hw⟩
 ·
  subst hc0
  refine Ck ?_
  refine WE.end0 rfl fun w' hw=>?_
  exact ⟨rfl,hw⟩
theorem note4_any (vb be bs:Nat) (c:Cnt) (b:Bool) (w:World) (hb:c.tot≤4611686018427387904) (hw:Ws w [vb] [blk vb (.cells #[.int .i64 0,.int .i64 ((c).f:Int),.int .i64 ((c).m:Int),.int .i64 0,.int .i64 ((c).k:Int),.int .i64 0,.int .i64 0,.int .i64 0,.int .i64 0,.int .i64 0,.map (some be),.map (some bs)] 76 (0,0))] [] w) :
   Calls Try.prog 40 #[.pointer (some ⟨vb,0,none⟩),.bool b,.int .i64 4] w fun e w'=>e = .returned (.tuple #[])∧Ws w [vb] [blk vb (.cells #[.int .i64 0,.int .i64 ((c+noteK b).f:Int),.int .i64 ((c+noteK b).m:Int),.int .i64 0,.int .i64 ((c+noteK b).k:Int),.int .i64 0,.int .i64 0,.int .i64 0,.int .i64 0,.int .i64 0,.map (some be),.map (some bs)] 76 (0,0))] [] w':=by
 have hk:=tot_k c
 refine enter Try.func40 rfl 17 rfl rfl ?_
 refine CWd (W':=Ws w [vb] [blk vb (.cells #[.int .i64 0,.int .i64 ((c).f:Int),.int .i64 ((c).m:Int),.int .i64 0,.int .i64 ((c).k:Int),.int .i64 0,.int .i64 0,.int .i64 0,.int .i64 0,.int .i64 0,.map (some be),.map (some bs)] 76 (0,0))] []) (fun _ e=>by subst e; exact hw) ?_
 refine Cs (Cr ?_)
 refine V0 (Ym rfl) ?_
 refine Ln (Et ?_)
 refine Cc rfl (fun hc0=>?_) (fun hc0=>?_)
 ·
  subst hc0
  refine WC.draws1 0 [(0,true),(1,true),(2,true),(3,true),(4,true),(7,true),(8,true),(5,false),(6,true),(9,true),(10,false)] mixed (by kernel_rfl) (fun _ _ _ d _ h=>by cases d<;>exact h) ?_
  refine Dq rfl (.inl rfl) rfl (fun _ h=>by have h:=Ws.out 0 h; exact h) (Ym rfl) ?_
  refine Dq rfl (.inl rfl) rfl (fun _ h=>by have h:=Ws.out 0 h; exact h) (Ym rfl) ?_
  refine Dq rfl (.inl rfl) rfl (fun _ h=>by have h:=Ws.out 0 h; exact h) (yl_nil rfl) ?_
  refine Dq rfl (.inl rfl) rfl (fun _ h=>by have h:=Ws.out 0 h; exact h) (Yf fo76_0 rfl) ?_
  refine Dq rfl (.inl rfl) rfl (fun _ h=>by have h:=Ws.out 0 h; exact h) (yl_iar (i:=4) ar74 rfl rfl (by decide)) ?_
  refine Dq rfl (.inl rfl) rfl (fun _ h=>by have h:=Ws.out 0 h; exact h) (yl_nil rfl) ?_
  refine Dq rfl (.inl rfl) rfl (fun _ h=>by have h:=Ws.out 0 h; exact h) (Yf fo76_0 rfl) ?_
  refine De rfl (fun _ h=>by have h:=Ws.out 0 h; exact h) ?_
  refine V0 (Yd 0 rfl rfl rfl na3) ?_
  refine Ln (Ed ?_)
  refine Dq rfl (.inl rfl) rfl (fun _ h=>by have h:=Ws.out 0 h; exact h) (Yi rfl rfl rfl (by omega)) ?_
  refine Dq rfl (.inl rfl) rfl (fun _ h=>by have h:=Ws.out 0 h; exact h) (yl_iar (i:=4) ar74 rfl rfl (by decide)) ?_
  refine De rfl (fun _ h=>by have h:=Ws.out 0 h; exact h) ?_
  refine Lst 0 (.inl rfl) rfl rfl rfl sz3 rfl rfl rfl ?_
  refine Ln (Ed ?_)
  refine WD.nil (fun _ h=>by have h:=Ws.out 0 h; exact h) ?_
  refine WE.end0 rfl fun w' hw=>?_
  exact ⟨rfl,hw⟩
 ·
  subst hc0
  refine Ck ?_
  refine WE.end0 rfl fun w' hw=>?_
  exact ⟨rfl,hw⟩
end Go.Proofs.Ytinnlppbkhhoiaa
end
section
namespace Go.Proofs.Ytinnlppbkhhoiaa
open Go.Bw
set_option linter.unusedVariables false
set_option linter.unusedSimpArgs false
theorem cntN_len:∀l:List Tx,(cntN l).tot≤l.length
 | []=>Nat.le_refl _
 | s::r=>by
   have:=cntN_len r; have:=noteF_tot (!nameT s)
   rw [show cntN (s::r)=noteF (!nameT s)+cntN r from rfl,Cnt.tot_add,List.length_cons]
   omega
theorem int_lt3 (n:Nat):decide ((3:Int)<(n:Int))=decide (3<n):=by rw [Bool.eq_iff_iff]; simp; omega
theorem cntE_eq (x:TExpr) (d:Nat):cntE x d=if 6<d then ⟨0,1,0⟩ else noteK (shE x.op).isNone+shapeC ((shE x.op).getD (false,0)) x.mod x.nm x.args.length+noteF (numBad x.op x.n)+cntEs x.args (d+1):=by
 cases x; rw [cntE]; rfl
theorem cntEs_app (d:Nat):∀a b:List TExpr,cntEs (a++b) d=cntEs a d+cntEs b d
 | [],b=>by apply Cnt.ext'<;>simp [Cnt.add_f,Cnt.add_m,Cnt.add_k,cntEs,c0]
 | x::a,b=>by
   rw [List.cons_append,show ∀q,cntEs (x::q) d=cntE x d+cntEs q d from fun q=>by rw [cntEs],cntEs_app d a b,show ∀q,cntEs (x::q) d=cntE x d+cntEs q d from fun q=>by rw [cntEs],Cnt.add_assoc']
theorem cntEs_take {l:List TExpr} {i:Nat} {x:TExpr} (d:Nat) (h:l[i]? = some x):cntEs (l.take (i+1)) d=cntEs (l.take i) d+cntE x d:=by
 rw [take_snoc h,cntEs_app,show cntEs [x] d=cntE x d+c0 by rw [cntEs,cntEs],add_c0]
theorem wEs_take:∀(l:List TExpr) (i:Nat),wEs (l.take i)≤wEs l
 | [],i=>by simp
 | x::r,0=>by simp [wEs]
 | x::r,i+1=>by have:=wEs_take r i; simp only [List.take_succ_cons,wEs]; omega
theorem wEs_upto {l:List TExpr} {i:Nat} {x:TExpr} (h:l[i]? = some x):wEs (l.take i)+wE x≤wEs l:=by
 have h2:=wEs_take l (i+1)
 rw [take_snoc h] at h2
 have:∀a b:List TExpr,wEs (a++b)=wEs a+wEs b:=by
   intro a b
   induction a with
   | nil=>simp [wEs]
   | cons y a ih=>simp only [List.cons_append,wEs,ih]; omega
 rw [this] at h2
 simp only [wEs] at h2
 omega
theorem cntS_eq (x:TStmt) (d:Nat):cntS x d=noteK (shS x.op).isNone+shapeC ((shS x.op).getD (false,0)) x.mod x.nm x.args.length+cntEs x.args 1+noteF (bodyBad x.op x.body.length x.other.length)
     + (if (inner x.op||decide (0<x.body.length))=true then cntB x.body (d+1) else c0)+(if 0<x.other.length then cntB x.other (d+1) else c0):=by
 cases x; rw [cntS]; rfl
theorem cntSs_app (d:Nat):∀a b:List TStmt,cntSs (a++b) d=cntSs a d+cntSs b d
 | [],b=>by apply Cnt.ext'<;>simp [Cnt.add_f,Cnt.add_m,Cnt.add_k,cntSs,c0]
 | x::a,b=>by
   rw [List.cons_append,show ∀q,cntSs (x::q) d=cntS x d+cntSs q d from fun q=>by rw [cntSs],cntSs_app d a b,show ∀q,cntSs (x::q) d=cntS x d+cntSs q d from fun q=>by rw [cntSs],Cnt.add_assoc']
theorem cntSs_take {l:List TStmt} {i:Nat} {x:TStmt} (d:Nat) (h:l[i]? = some x):cntSs (l.take (i+1)) d=cntSs (l.take i) d+cntS x d:=by
 rw [take_snoc h,cntSs_app,show cntSs [x] d=cntS x d+c0 by rw [cntSs,cntSs],add_c0]
theorem wSs_take:∀(l:List TStmt) (i:Nat),wSs (l.take i)≤wSs l
 | [],i=>by simp
 | x::r,0=>by simp [wSs]
 | x::r,i+1=>by have:=wSs_take r i; simp only [List.take_succ_cons,wSs]; omega
theorem wSs_upto {l:List TStmt} {i:Nat} {x:TStmt} (h:l[i]? = some x):wSs (l.take i)+wS x≤wSs l:=by
 have h2:=wSs_take l (i+1)
 rw [take_snoc h] at h2
 have:∀a b:List TStmt,wSs (a++b)=wSs a+wSs b:=by
   intro a b
   induction a with
   | nil=>simp [wSs]
   | cons y a ih=>simp only [List.cons_append,wSs,ih]; omega
 rw [this] at h2
 simp only [wSs] at h2
 omega
theorem en56:Enters Try.prog 56:=enters_of Try.func56 (by kernel_rfl) rfl
theorem en40:Enters Try.prog 40:=enters_of Try.func40 (by kernel_rfl) rfl
theorem fo80_1:fieldOff Try.prog 80 1=some 1:=by kernel_rfl
theorem en39:Enters Try.prog 39:=enters_of Try.func39 (by kernel_rfl) rfl
theorem fo80_0:fieldOff Try.prog 80 0=some 0:=by kernel_rfl
theorem fo80_3:fieldOff Try.prog 80 3=some 3:=by kernel_rfl
theorem fo101_0:fieldOff Try.prog 101 0=some 0:=by kernel_rfl
theorem na4:nonAgg Try.prog 4=true:=by kernel_rfl
theorem fo101_1:fieldOff Try.prog 101 1=some 1:=by kernel_rfl
theorem names_any (vb be bs:Nat) (H:View) (a:Option Addr) (n:Nat) (l:List Tx) (c:Cnt) (w:World) (hm:Sl rdStr 1 H a n l) (hb:c.tot+l.length≤4611686018427387904) (hw:Ws w [vb] [blk vb (.cells #[.int .i64 0,.int .i64 ((c).f:Int),.int .i64 ((c).m:Int),.int .i64 0,.int .i64 ((c).k:Int),.int .i64 0,.int .i64 0,.int .i64 0,.int .i64 0,.int .i64 0,.map (some be),.map (some bs)] 76 (0,0))] [H] w) :
   Calls Try.prog 39 #[.pointer (some ⟨vb,0,none⟩),.slice a l.length n] w fun e w'=>e = .returned (.tuple #[])∧Ws w [vb] [blk vb (.cells #[.int .i64 0,.int .i64 ((c+cntN l).f:Int),.int .i64 ((c+cntN l).m:Int),.int .i64 0,.int .i64 ((c+cntN l).k:Int),.int .i64 0,.int .i64 0,.int .i64 0,.int .i64 0,.int .i64 0,.map (some be),.map (some bs)] 76 (0,0))] [H] w':=by
 have hcap:=hm.cap
 have hmax:=hm.max
 refine enter Try.func39 rfl 18 rfl rfl ?_
 refine CWd (W':=Ws w [vb] [blk vb (.cells #[.int .i64 0,.int .i64 ((c).f:Int),.int .i64 ((c).m:Int),.int .i64 0,.int .i64 ((c).k:Int),.int .i64 0,.int .i64 0,.int .i64 0,.int .i64 0,.int .i64 0,.map (some be),.map (some bs)] 76 (0,0))] [H]) (fun _ e=>by subst e; exact hw) ?_
 refine Cs (Cr ?_)
 refine V0 (Ym rfl) ?_
 refine V0 (Yn es27 rfl) ?_
 refine V0 (Ym rfl) ?_
 refine Ln (Et (Cb ?_))
 refine CK (ι:=Nat) (fun i=>[(8,.int .i64 (i:Int))]) [(0,_),(6,_),(7,_)] (fun i=>Ws w [vb] [blk vb (.cells #[.int .i64 0,.int .i64 ((c+cntN (l.take i)).f:Int),.int .i64 ((c+cntN (l.take i)).m:Int),.int .i64 0,.int .i64 ((c+cntN (l.take i)).k:Int),.int .i64 0,.int .i64 0,.int .i64 0,.int .i64 0,.int .i64 0,.map (some be),.map (some bs)] 76 (0,0))] [H]) (fun i=>i≤l.length) (fun i=>l.length-i) 0 (Nat.zero_le _) (sc rfl (sc rfl (sc rfl (sc rfl sn)))) (fun _ h=>h) ?_
 intro i hi
 refine Cs (Cr ?_)
 refine V0 (yl_lt rfl rfl) ?_
 refine Ln (Et (Cs ?_))
 refine Cc rfl (fun hc0=>?_) (fun hc0=>?_)
 ·
  have hlt:i<l.length:=by simpa using hc0
  obtain ⟨x,hxi⟩:∃x,l[i]? = some x:=⟨_,List.getElem?_eq_getElem hlt⟩
  obtain ⟨pbx,pox,ha,hrow⟩:=hm.elt i x hxi
  have hrow:RdC H pbx (pox+i*1) (strC x):=hrow
  have e2:c+cntN (l.take i)+noteF (!nameT x)=c+cntN (l.take (i+1)):=by rw [cntN_take hxi,Cnt.add_assoc']
  have hbt:(c+cntN (l.take i)).tot≤4611686018427387904:=by
    rw [Cnt.tot_add]
    have:=cntN_len (l.take i)
    simp at this
    omega
  refine Ck (Et (Cs (Cb (Cs (Cr ?_)))))
  refine V0 (Yo es27 rfl rfl (by assumption) (by omega)) ?_
  refine V0 (yl_ld 0 na9 rfl rfl (hrow 0 _ rfl)) ?_
  refine V0 (Ya rfl) ?_
  refine Ln (Et (Cr ?_))
  refine V0 (Ym rfl) ?_
  refine V0 (Ym rfl) ?_
  refine Lp (.inl rfl) rfl en56 rfl (fun w hw=>treeName_any _ w) ?_
  refine V0 (yl_not rfl) ?_
  refine Lf 0 rfl ?_
  refine WL.callw0 [_] _ [blk vb (.cells #[.int .i64 0,.int .i64 ((c+cntN (l.take i)+noteF (!nameT x)).f:Int),.int .i64 ((c+cntN (l.take i)+noteF (!nameT x)).m:Int),.int .i64 0,.int .i64 ((c+cntN (l.take i)+noteF (!nameT x)).k:Int),.int .i64 0,.int .i64 0,.int .i64 0,.int .i64 0,.int .i64 0,.map (some be),.map (some bs)] 76 (0,0))] (.inl rfl) rfl en40 rfl rfl [] (by simp) (fun w hw=>note1_any vb be bs (c+cntN (l.take i)) (!nameT x) w (hbt) hw) ?_
  refine Ln (Eb (Et (Cr ?_)))
  refine V0 (Yi rfl rfl rfl (by omega)) ?_
  refine V0 (Ym rfl) ?_
  refine Ln ?_
  rw [e2]
  exact Ea (i+1) (by omega) (by omega) (sc rfl (sc rfl (sc rfl (sc rfl sn)))) (fun _ h=>h)
 ·
  have hge:¬i<l.length:=by simpa using hc0
  have hT:l.take i=l:=List.take_of_length_le (by omega)
  rw [hT]
  refine Ce (Ex (Ex (Ebh ?_)))
  refine WE.end0 rfl fun w' hw=>?_
  exact ⟨rfl,hw⟩
theorem vdecl_any (vb be bs:Nat) (d:TDecl) (c:Cnt) (w:World) (hb:c.tot+4≤4611686018427387904) (hw:Ws w [vb] [blk vb (.cells #[.int .i64 0,.int .i64 ((c).f:Int),.int .i64 ((c).m:Int),.int .i64 0,.int .i64 ((c).k:Int),.int .i64 0,.int .i64 0,.int .i64 0,.int .i64 0,.int .i64 0,.map (some be),.map (some bs)] 76 (0,0))] [] w) :
   Calls Try.prog 41 #[.pointer (some ⟨vb,0,none⟩),.agg #[.int .i64 d.kind,st d.nm,.bool d.pub,.int .i64 d.n]] w fun e w'=>e = .returned (.tuple #[])∧Ws w [vb] [blk vb (.cells #[.int .i64 0,.int .i64 ((c+declC d).f:Int),.int .i64 ((c+declC d).m:Int),.int .i64 0,.int .i64 ((c+declC d).k:Int),.int .i64 0,.int .i64 0,.int .i64 0,.int .i64 0,.int .i64 0,.map (some be),.map (some bs)] 76 (0,0))] [] w':=by
 have hbt:(c+cntN [d.nm]).tot≤4611686018427387904:=by
   rw [Cnt.tot_add]
   have:=cntN_len [d.nm]
   simp at this
   omega
 refine enter Try.func41 rfl 44 rfl rfl ?_
 refine CWd (W':=Ws w [vb] [blk vb (.cells #[.int .i64 0,.int .i64 ((c).f:Int),.int .i64 ((c).m:Int),.int .i64 0,.int .i64 ((c).k:Int),.int .i64 0,.int .i64 0,.int .i64 0,.int .i64 0,.int .i64 0,.map (some be),.map (some bs)] 76 (0,0))] []) (fun _ e=>by subst e; exact hw) ?_
 refine Cs (Cr ?_)
 refine WL.box (.inl rfl) rfl rfl fun b3=>?_
 refine Ln (Et (Cs (Cr ?_)))
 refine V0 (Ym rfl) ?_
 refine V0 (Yf fo80_1 rfl) ?_
 refine V0 (Yd 0 rfl rfl rfl na9) ?_
 refine Lb (.inl rfl) rfl el27 rfl rfl rfl rfl fun b7=>?_
 refine Lsv (T:=9) (m:=1) 0 [d.nm] rfl rfl (show 1≤1 by decide) (by decide) fun H7 hH7=>?_
 refine Lf 1 rfl ?_
 refine WL.callw0 [_] _ [blk vb (.cells #[.int .i64 0,.int .i64 ((c+cntN [d.nm]).f:Int),.int .i64 ((c+cntN [d.nm]).m:Int),.int .i64 0,.int .i64 ((c+cntN [d.nm]).k:Int),.int .i64 0,.int .i64 0,.int .i64 0,.int .i64 0,.int .i64 0,.map (some be),.map (some bs)] 76 (0,0))] (.inl rfl) rfl en39 rfl rfl [H7] (by simp) (fun w hw=>names_any vb be bs H7 _ _ [d.nm] (c) w hH7 (by show c.tot+1≤_; omega) hw) ?_
 refine Ln (Et (Cs (Cr ?_)))
 refine V0 (Yf fo80_0 rfl) ?_
 refine V0 (Yd 1 rfl rfl rfl na3) ?_
 refine Ln (Et (Cb (Cs (Cr ?_))))
 refine V0 (yl_eq rfl rfl) ?_
 refine V0 (Ya rfl) ?_
 refine Ln (Et ?_)
 refine Cc rfl (fun hc0=>?_) (fun hc0=>?_)
 ·
  have hk:d.kind=1:=by simpa using hc0
  have e2:∀b,(b=(decide (d.n<0)||decide (1099511627775<d.n)))→c+cntN [d.nm]+noteF b=c+declC d:=fun b hb=>by rw [hb,declC,if_pos hk,Cnt.add_assoc']
  refine Cr ?_
  refine V0 (Ym rfl) ?_
  refine V0 (Yf fo80_3 rfl) ?_
  refine V0 (Yd 1 rfl rfl rfl na3) ?_
  refine V0 (yl_lt rfl rfl) ?_
  refine V0 (Ym rfl) ?_
  apply WL.or 3 rfl rfl rfl rfl (.inl rfl) rfl rfl rfl rfl rfl
  ·
   intro hg0
   refine Lv (.g rfl rfl rfl) rfl (Yf fo80_3 rfl) ?_
   refine Lv (.g rfl rfl rfl) rfl (Yd 1 rfl rfl rfl na3) ?_
   refine Lv (.g rfl rfl rfl) rfl (yl_gt rfl rfl) ?_
   exact Gt 3 rfl rfl rfl
  refine Lf 0 rfl ?_
  refine WL.callw0 [_] _ [blk vb (.cells #[.int .i64 0,.int .i64 ((c+cntN [d.nm]+noteF (decide (d.n<0)||decide (1099511627775<d.n))).f:Int),.int .i64 ((c+cntN [d.nm]+noteF (decide (d.n<0)||decide (1099511627775<d.n))).m:Int),.int .i64 0,.int .i64 ((c+cntN [d.nm]+noteF (decide (d.n<0)||decide (1099511627775<d.n))).k:Int),.int .i64 0,.int .i64 0,.int .i64 0,.int .i64 0,.int .i64 0,.map (some be),.map (some bs)] 76 (0,0))] (.inl rfl) rfl en40 rfl rfl [] (by simp) (fun w hw=>note1_any vb be bs (c+cntN [d.nm]) (decide (d.n<0)||decide (1099511627775<d.n)) w (hbt) hw) ?_
  refine Ln (Eb ?_)
  refine WE.end0 rfl fun w' hw=>?_
  rw [e2 _ rfl] at hw
  exact ⟨rfl,Ws.drops (Ws.keep (L:=[_]) hw) (fun _ hm=>List.mem_append_right [_] hm)⟩
 ·
  have hk:¬d.kind=1:=by simpa using hc0
  refine Cs (Cr ?_)
  refine V0 (yl_eq rfl rfl) ?_
  refine V0 (Ya rfl) ?_
  refine Ln (Et ?_)
  refine Cc rfl (fun hc1=>?_) (fun hc1=>?_)
  ·
   have hk2:d.kind=2:=by simpa using hc1
   have e2:∀b,(b=(!(d.n==0)))→c+cntN [d.nm]+noteF b=c+declC d:=fun b hb=>by rw [hb,declC,if_neg hk,if_pos hk2,Cnt.add_assoc']
   refine Cr ?_
   refine V0 (Ym rfl) ?_
   refine V0 (Yf fo80_3 rfl) ?_
   refine V0 (Yd 1 rfl rfl rfl na3) ?_
   refine V0 (yl_ne rfl rfl) ?_
   refine Lf 0 rfl ?_
   refine WL.callw0 [_] _ [blk vb (.cells #[.int .i64 0,.int .i64 ((c+cntN [d.nm]+noteF (!(d.n==0))).f:Int),.int .i64 ((c+cntN [d.nm]+noteF (!(d.n==0))).m:Int),.int .i64 0,.int .i64 ((c+cntN [d.nm]+noteF (!(d.n==0))).k:Int),.int .i64 0,.int .i64 0,.int .i64 0,.int .i64 0,.int .i64 0,.map (some be),.map (some bs)] 76 (0,0))] (.inl rfl) rfl en40 rfl rfl [] (by simp) (fun w hw=>note1_any vb be bs (c+cntN [d.nm]) (!(d.n==0)) w (hbt) hw) ?_
   refine Ln (Eb ?_)
   refine WE.end0 rfl fun w' hw=>?_
   rw [e2 _ rfl] at hw
   exact ⟨rfl,Ws.drops (Ws.keep (L:=[_]) hw) (fun _ hm=>List.mem_append_right [_] hm)⟩
  ·
   have hk2:¬d.kind=2:=by simpa using hc1
   refine Cs (Cr ?_)
   refine V0 (yl_eq rfl rfl) ?_
   refine V0 (Ya rfl) ?_
   refine Ln (Et ?_)
   refine Cc rfl (fun hc2=>?_) (fun hc2=>?_)
   ·
    have hk3:d.kind=3:=by simpa using hc2
    have e2:∀b,(b=(decide (d.n<1)||decide (32<d.n)))→c+cntN [d.nm]+noteF b=c+declC d:=fun b hb=>by rw [hb,declC,if_neg hk,if_neg hk2,if_pos hk3,Cnt.add_assoc']
    refine Cr ?_
    refine V0 (Ym rfl) ?_
    refine V0 (Yf fo80_3 rfl) ?_
    refine V0 (Yd 1 rfl rfl rfl na3) ?_
    refine V0 (yl_lt rfl rfl) ?_
    refine V0 (Ym rfl) ?_
    apply WL.or 3 rfl rfl rfl rfl (.inl rfl) rfl rfl rfl rfl rfl
    ·
     intro hg1
     refine Lv (.g rfl rfl rfl) rfl (Yf fo80_3 rfl) ?_
     refine Lv (.g rfl rfl rfl) rfl (Yd 1 rfl rfl rfl na3) ?_
     refine Lv (.g rfl rfl rfl) rfl (yl_gt rfl rfl) ?_
     exact Gt 3 rfl rfl rfl
    refine Lf 0 rfl ?_
    refine WL.callw0 [_] _ [blk vb (.cells #[.int .i64 0,.int .i64 ((c+cntN [d.nm]+noteF (decide (d.n<1)||decide (32<d.n))).f:Int),.int .i64 ((c+cntN [d.nm]+noteF (decide (d.n<1)||decide (32<d.n))).m:Int),.int .i64 0,.int .i64 ((c+cntN [d.nm]+noteF (decide (d.n<1)||decide (32<d.n))).k:Int),.int .i64 0,.int .i64 0,.int .i64 0,.int .i64 0,.int .i64 0,.map (some be),.map (some bs)] 76 (0,0))] (.inl rfl) rfl en40 rfl rfl [] (by simp) (fun w hw=>note1_any vb be bs (c+cntN [d.nm]) (decide (d.n<1)||decide (32<d.n)) w (hbt) hw) ?_
    refine Ln (Eb ?_)
    refine WE.end0 rfl fun w' hw=>?_
    rw [e2 _ rfl] at hw
    exact ⟨rfl,Ws.drops (Ws.keep (L:=[_]) hw) (fun _ hm=>List.mem_append_right [_] hm)⟩
   ·
    have hk3:¬d.kind=3:=by simpa using hc2
    have e2:∀b,(b=true)→c+cntN [d.nm]+noteK b=c+declC d:=fun b hb=>by rw [hb,declC,if_neg hk,if_neg hk2,if_neg hk3,Cnt.add_assoc']
    refine Cr ?_
    refine V0 (Ym rfl) ?_
    refine Lf 0 rfl ?_
    refine WL.callw0 [_] _ [blk vb (.cells #[.int .i64 0,.int .i64 ((c+cntN [d.nm]+noteK (true)).f:Int),.int .i64 ((c+cntN [d.nm]+noteK (true)).m:Int),.int .i64 0,.int .i64 ((c+cntN [d.nm]+noteK (true)).k:Int),.int .i64 0,.int .i64 0,.int .i64 0,.int .i64 0,.int .i64 0,.map (some be),.map (some bs)] 76 (0,0))] (.inl rfl) rfl en40 rfl rfl [] (by simp) (fun w hw=>note4_any vb be bs (c+cntN [d.nm]) (true) w (hbt) hw) ?_
    refine Ln (Eb ?_)
    refine WE.end0 rfl fun w' hw=>?_
    rw [e2 _ rfl] at hw
    exact ⟨rfl,Ws.drops (Ws.keep (L:=[_]) hw) (fun _ hm=>List.mem_append_right [_] hm)⟩
theorem vshape_any (vb be bs:Nat) (r:Bool) (a:Int) (mod nm:Tx) (len:Nat) (c:Cnt) (w:World) (hb:c.tot+4≤4611686018427387904) (hl:mod.length+nm.length≤9223372036854775807) (hw:Ws w [vb] [blk vb (.cells #[.int .i64 0,.int .i64 ((c).f:Int),.int .i64 ((c).m:Int),.int .i64 0,.int .i64 ((c).k:Int),.int .i64 0,.int .i64 0,.int .i64 0,.int .i64 0,.int .i64 0,.map (some be),.map (some bs)] 76 (0,0))] [] w) :
   Calls Try.prog 57 #[.pointer (some ⟨vb,0,none⟩),.agg #[.bool r,.int .i64 a],st mod,st nm,.int .i64 (len:Int)] w fun e w'=>e = .returned (.tuple #[])∧Ws w [vb] [blk vb (.cells #[.int .i64 0,.int .i64 ((c+shapeC (r,a) mod nm len).f:Int),.int .i64 ((c+shapeC (r,a) mod nm len).m:Int),.int .i64 0,.int .i64 ((c+shapeC (r,a) mod nm len).k:Int),.int .i64 0,.int .i64 0,.int .i64 0,.int .i64 0,.int .i64 0,.map (some be),.map (some bs)] 76 (0,0))] [] w':=by
 have h1:(c+noteF (badName r mod nm)).tot≤4611686018427387904:=by rw [Cnt.tot_add]; have:=noteF_tot (badName r mod nm); omega
 have h2:(c+noteF (badName r mod nm)+noteF (badArgs a len)).tot≤4611686018427387904:=by rw [Cnt.tot_add,Cnt.tot_add]; have:=noteF_tot (badName r mod nm); have:=noteF_tot (badArgs a len); omega
 have e3:c+noteF (badName r mod nm)+noteF (badArgs a len)+noteM (decide (3<len))=c+shapeC (r,a) mod nm len:=by rw [shapeC,Cnt.add_assoc',Cnt.add_assoc',Cnt.add_assoc']
 refine enter Try.func57 rfl 54 rfl rfl ?_
 refine CWd (W':=Ws w [vb] [blk vb (.cells #[.int .i64 0,.int .i64 ((c).f:Int),.int .i64 ((c).m:Int),.int .i64 0,.int .i64 ((c).k:Int),.int .i64 0,.int .i64 0,.int .i64 0,.int .i64 0,.int .i64 0,.map (some be),.map (some bs)] 76 (0,0))] []) (fun _ e=>by subst e; exact hw) ?_
 refine Cs (Cr ?_)
 refine WL.box (.inl rfl) rfl rfl fun b6=>?_
 refine Ln (Et (Cs (Cr ?_)))
 refine V0 (Ym rfl) ?_
 refine V0 (Yf fo101_0 rfl) ?_
 refine V0 (Yd 0 rfl rfl rfl na4) ?_
 refine V0 (Ym rfl) ?_
 apply WL.and 12 rfl rfl rfl rfl (.inl rfl) rfl rfl rfl rfl rfl
 ·
  intro hg0
  refine Lv (.g rfl rfl rfl) rfl (Ym rfl) ?_
  refine Lv (.g rfl rfl rfl) rfl (yl_nes rfl rfl) ?_
  refine Lv (.g rfl rfl rfl) rfl (Ym rfl) ?_
  apply WL.and 3 rfl rfl rfl rfl (.g rfl rfl rfl) rfl rfl rfl rfl rfl
  ·
   intro hg1
   refine Lv (.g rfl rfl rfl) rfl (Ym rfl) ?_
   refine Lp (.g rfl rfl rfl) rfl en56 rfl (fun w hw=>treeName_any _ w) ?_
   refine Lv (.g rfl rfl rfl) rfl (yl_not rfl) ?_
   exact Gt 3 rfl rfl rfl
  refine Lv (.g rfl rfl rfl) rfl (Ym rfl) ?_
  apply WL.or 3 rfl rfl rfl rfl (.g rfl rfl rfl) rfl rfl rfl rfl rfl
  ·
   intro hg2
   refine Lv (.g rfl rfl rfl) rfl (Ym rfl) ?_
   refine Lp (.g rfl rfl rfl) rfl en56 rfl (fun w hw=>treeName_any _ w) ?_
   refine Lv (.g rfl rfl rfl) rfl (yl_not rfl) ?_
   exact Gt 3 rfl rfl rfl
  exact Gt 6 rfl rfl rfl
 refine V0 (Ym rfl) ?_
 apply WL.or 9 rfl rfl rfl rfl (.inl rfl) rfl rfl rfl rfl rfl
 ·
  intro hg3
  refine Lv (.g rfl rfl rfl) rfl (Yf fo101_0 rfl) ?_
  refine Lv (.g rfl rfl rfl) rfl (Yd 0 rfl rfl rfl na4) ?_
  refine Lv (.g rfl rfl rfl) rfl (yl_not rfl) ?_
  refine Lv (.g rfl rfl rfl) rfl (Ym rfl) ?_
  apply WL.and 4 rfl rfl rfl rfl (.g rfl rfl rfl) rfl rfl rfl rfl rfl
  ·
   intro hg4
   refine Lv (.g rfl rfl rfl) rfl (Ym rfl) ?_
   refine Lv (.g rfl rfl rfl) rfl (Ym rfl) ?_
   refine Lv (.g rfl rfl rfl) rfl (yl_cats rfl rfl hl) ?_
   refine Lv (.g rfl rfl rfl) rfl (yl_nes rfl rfl) ?_
   exact Gt 4 rfl rfl rfl
  exact Gt 5 rfl rfl rfl
 refine Lf 1 rfl ?_
 refine WL.callw0 [_] _ [blk vb (.cells #[.int .i64 0,.int .i64 ((c+noteF (badName r mod nm)).f:Int),.int .i64 ((c+noteF (badName r mod nm)).m:Int),.int .i64 0,.int .i64 ((c+noteF (badName r mod nm)).k:Int),.int .i64 0,.int .i64 0,.int .i64 0,.int .i64 0,.int .i64 0,.map (some be),.map (some bs)] 76 (0,0))] (.inl rfl) rfl en40 rfl rfl [] (by simp) (fun w hw=>note1_any vb be bs (c) (badName r mod nm) w (by omega) hw) ?_
 refine Ln (Et (Cs (Cr ?_)))
 refine V0 (Ym rfl) ?_
 refine V0 (Yf fo101_1 rfl) ?_
 refine V0 (Yd 1 rfl rfl rfl na3) ?_
 refine V0 (yl_ge rfl rfl) ?_
 refine V0 (Ym rfl) ?_
 apply WL.and 4 rfl rfl rfl rfl (.inl rfl) rfl rfl rfl rfl rfl
 ·
  intro hg5
  refine Lv (.g rfl rfl rfl) rfl (Ym rfl) ?_
  refine Lv (.g rfl rfl rfl) rfl (Yf fo101_1 rfl) ?_
  refine Lv (.g rfl rfl rfl) rfl (Yd 1 rfl rfl rfl na3) ?_
  refine Lv (.g rfl rfl rfl) rfl (yl_ne rfl rfl) ?_
  exact Gt 4 rfl rfl rfl
 refine Lf 0 rfl ?_
 refine WL.callw0 [_] _ [blk vb (.cells #[.int .i64 0,.int .i64 ((c+noteF (badName r mod nm)+noteF (badArgs a len)).f:Int),.int .i64 ((c+noteF (badName r mod nm)+noteF (badArgs a len)).m:Int),.int .i64 0,.int .i64 ((c+noteF (badName r mod nm)+noteF (badArgs a len)).k:Int),.int .i64 0,.int .i64 0,.int .i64 0,.int .i64 0,.int .i64 0,.map (some be),.map (some bs)] 76 (0,0))] (.inl rfl) rfl en40 rfl rfl [] (by simp) (fun w hw=>note1_any vb be bs (c+noteF (badName r mod nm)) (badArgs a len) w (h1) hw) ?_
 refine Ln (Et (Cr ?_))
 refine V0 (Ym rfl) ?_
 refine V0 (Ym rfl) ?_
 refine V0 (yl_gt rfl rfl) ?_
 rw [int_lt3]
 refine Lf 0 rfl ?_
 refine WL.callw0 [_] _ [blk vb (.cells #[.int .i64 0,.int .i64 ((c+noteF (badName r mod nm)+noteF (badArgs a len)+noteM (decide (3<len))).f:Int),.int .i64 ((c+noteF (badName r mod nm)+noteF (badArgs a len)+noteM (decide (3<len))).m:Int),.int .i64 0,.int .i64 ((c+noteF (badName r mod nm)+noteF (badArgs a len)+noteM (decide (3<len))).k:Int),.int .i64 0,.int .i64 0,.int .i64 0,.int .i64 0,.int .i64 0,.map (some be),.map (some bs)] 76 (0,0))] (.inl rfl) rfl en40 rfl rfl [] (by simp) (fun w hw=>note2_any vb be bs (c+noteF (badName r mod nm)+noteF (badArgs a len)) (decide (3<len)) w (h2) hw) ?_
 refine Ln ?_
 refine WE.end0 rfl fun w' hw=>?_
 rw [e3] at hw
 exact ⟨rfl,Ws.keep (L:=[_]) hw⟩
end Go.Proofs.Ytinnlppbkhhoiaa
end
section
namespace Go.Proofs.Ytinnlppbkhhoiaa
open Go.Bw
set_option linter.unusedVariables false
set_option linter.unusedSimpArgs false
theorem fo76_1:fieldOff Try.prog 76 1=some 10:=by kernel_rfl
theorem na72:nonAgg Try.prog 72=true:=by kernel_rfl
theorem fo108_0:fieldOff Try.prog 108 0=some 0:=by kernel_rfl
theorem sz101:sizeP Try.prog 101=some 2:=by kernel_rfl
theorem ag101:aggOf Try.prog 101=some 2:=by kernel_rfl
theorem fo108_2:fieldOff Try.prog 108 2=some 2:=by kernel_rfl
theorem fo108_3:fieldOff Try.prog 108 3=some 3:=by kernel_rfl
theorem fo108_4:fieldOff Try.prog 108 4=some 4:=by kernel_rfl
theorem na102:nonAgg Try.prog 102=true:=by kernel_rfl
theorem es102:elemSz Try.prog 102=some 5:=by kernel_rfl
theorem en57:Enters Try.prog 57:=enters_of Try.func57 (by kernel_rfl) rfl
theorem fo108_1:fieldOff Try.prog 108 1=some 1:=by kernel_rfl
theorem ag108:aggOf Try.prog 108=some 5:=by kernel_rfl
theorem zr108:zeroOf Try.prog 108=some (.agg #[.int .i64 0,.int .i64 0,st [],st [],.slice none 0 0]):=by kernel_rfl
theorem sz108:sizeP Try.prog 108=some 5:=by kernel_rfl
theorem en58:Enters Try.prog 58:=enters_of Try.func58 (by kernel_rfl) rfl
theorem vexpr_any (vb be bs:Nat) (H:View) (k:Nat) (x:TExpr) (a:Option Addr) (n:Nat) (d:Nat) (c:Cnt) (w:World) (hm:Sl (RdE k) 5 H a n x.args) (hb:c.tot+8*wE x≤1152921504606846976) (hw:Ws w [vb,be,bs] [blk vb (.cells #[.int .i64 0,.int .i64 ((c).f:Int),.int .i64 ((c).m:Int),.int .i64 0,.int .i64 ((c).k:Int),.int .i64 0,.int .i64 0,.int .i64 0,.int .i64 0,.int .i64 0,.map (some be),.map (some bs)] 76 (0,0)),blk be (gobj kI (exprsK 9) 15),blk bs (gobj kI stmtsK 7)] [H] w) :
   Calls Try.prog 58 #[.pointer (some ⟨vb,0,none⟩),.agg #[.int .i64 x.op,.int .i64 x.n,st x.mod,st x.nm,.slice a x.args.length n],.int .i64 (d:Int)] w fun e w'=>e = .returned (.tuple #[])∧Ws w [vb,be,bs] [blk vb (.cells #[.int .i64 0,.int .i64 ((c+cntE x d).f:Int),.int .i64 ((c+cntE x d).m:Int),.int .i64 0,.int .i64 ((c+cntE x d).k:Int),.int .i64 0,.int .i64 0,.int .i64 0,.int .i64 0,.int .i64 0,.map (some be),.map (some bs)] 76 (0,0)),blk be (gobj kI (exprsK 9) 15),blk bs (gobj kI stmtsK 7)] [H] w':=by
 induction k using Nat.strongRecOn generalizing x a n d c w
 rename_i k ih
 have hcap:=hm.cap
 have hmax:=hm.max
 have hw8:=wE_eq x
 have hge:gget x.op (exprsK 9) (.agg #[.bool false,.int .i64 0]) = .agg #[.bool ((shE x.op).getD (false,0)).1,.int .i64 ((shE x.op).getD (false,0)).2]:=(exprs_get x.op).1
 have hgh:=(exprs_get x.op).2
 have t1:=noteK_tot (shE x.op).isNone
 have t2:=shapeC_tot ((shE x.op).getD (false,0)) x.mod x.nm x.args.length
 have t3:=noteF_tot (numBad x.op x.n)
 refine enter Try.func58 rfl 76 rfl rfl ?_
 refine CWd (W':=Ws w [vb,be,bs] [blk vb (.cells #[.int .i64 0,.int .i64 ((c).f:Int),.int .i64 ((c).m:Int),.int .i64 0,.int .i64 ((c).k:Int),.int .i64 0,.int .i64 0,.int .i64 0,.int .i64 0,.int .i64 0,.map (some be),.map (some bs)] 76 (0,0)),blk be (gobj kI (exprsK 9) 15),blk bs (gobj kI stmtsK 7)] [H]) (fun _ e=>by subst e; exact hw) ?_
 refine Cs (Cr ?_)
 refine WL.box (.inl rfl) rfl rfl fun b4=>?_
 refine Ln (Et (Cs (Cs (Cr ?_))))
 refine V0 (Ym rfl) ?_
 refine V0 (yl_gt rfl rfl) ?_
 refine Ln (Et ?_)
 refine Cc rfl (fun hc0=>?_) (fun hc0=>?_)
 ·
  have hd:6<d:=by simp at hc0; omega
  refine Cs (Cr ?_)
  refine V0 (Ym rfl) ?_
  refine Lf 1 rfl ?_
  refine WL.callw0 [_] _ [blk vb (.cells #[.int .i64 0,.int .i64 ((c+noteM (true)).f:Int),.int .i64 ((c+noteM (true)).m:Int),.int .i64 0,.int .i64 ((c+noteM (true)).k:Int),.int .i64 0,.int .i64 0,.int .i64 0,.int .i64 0,.int .i64 0,.map (some be),.map (some bs)] 76 (0,0))] (.inl rfl) rfl en40 rfl rfl [] (by simp) (fun w hw=>note2_any vb be bs (c) (true) w (by omega) hw) ?_
  refine Ln (Et (Crt (Er ?_)))
  refine WE.ret0 rfl fun w' hw=>?_
  rw [show c+cntE x d=c+noteM true by rw [cntE_eq,if_pos hd]; rfl]
  exact ⟨rfl,(by have h:=hw; have h:=h.fronti 3 rfl; have h:=h.fronti 3 rfl; have h:=h.fronti 2 rfl; exact Ws.keep (L:=[_,_,_]) h)⟩
 ·
  have hd:¬6<d:=by simp at hc0; omega
  have hE:c+cntE x d=c+noteK (shE x.op).isNone+shapeC ((shE x.op).getD (false,0)) x.mod x.nm x.args.length+noteF (numBad x.op x.n)+cntEs x.args (d+1):=by rw [cntE_eq,if_neg hd,Cnt.add_assoc',Cnt.add_assoc',Cnt.add_assoc',Cnt.add_assoc',Cnt.add_assoc']
  have hT1:(c+noteK (shE x.op).isNone).tot≤1152921504606846980:=by rw [Cnt.tot_add]; omega
  have hT2:(c+noteK (shE x.op).isNone+shapeC ((shE x.op).getD (false,0)) x.mod x.nm x.args.length).tot≤1152921504606846990:=by rw [Cnt.tot_add,Cnt.tot_add]; omega
  refine Ck (Et (Cs ?_))
  refine WC.draws0 [(0,true),(1,true),(2,true),(3,true),(4,true),(5,true),(6,true),(7,true),(8,true),(9,true),(10,false),(11,false),(12,false)] mixed (by kernel_rfl) (fun _ _ _ d _ h=>by cases d<;>exact h) ?_
  refine Dq rfl (.inl rfl) rfl (fun _ h=>h) (Ym rfl) ?_
  refine Dq rfl (.inl rfl) rfl (fun _ h=>h) (yl_nil rfl) ?_
  refine Dq rfl (.inl rfl) rfl (fun _ h=>h) (Yf fo76_1 rfl) ?_
  refine Dq rfl (.inl rfl) rfl (fun _ h=>h) (Yd 1 rfl rfl rfl na72) ?_
  refine Dq rfl (.inl rfl) rfl (fun _ h=>h) (Yf fo108_0 rfl) ?_
  refine Dq rfl (.inl rfl) rfl (fun _ h=>h) (Yd 0 rfl rfl rfl na3) ?_
  refine Dq rfl (.inl rfl) rfl (fun _ h=>h) (yl_glook2 2 keyInt um72 ui3 zr101 rfl rfl rfl) ?_
  rw [hge,hgh]
  refine Dq rfl (.inl rfl) rfl (fun _ h=>h) (Ym rfl) ?_
  refine Dq rfl (.inl rfl) rfl (fun _ h=>h) (Yx rfl rfl) ?_
  refine Dq rfl (.inl rfl) rfl (fun _ h=>h) (Yx rfl rfl) ?_
  refine De rfl (fun _ h=>h) ?_
  refine WL.alloc (.inl rfl) rfl zr101 fun b6=>?_
  refine Ln (Ed ?_)
  refine De rfl (fun _ h=>by have h:=Ws.drop (L:=[_]) (L':=_) h; exact h) ?_
  refine Lst 0 (.inl rfl) rfl rfl rfl sz101 rfl rfl rfl ?_
  refine Ln (Ed ?_)
  refine De rfl (fun _ h=>by have h:=Ws.drop (L:=[_]) (L':=_) h; exact h) ?_
  refine V0 (Ya rfl) ?_
  refine Ln (Ed ?_)
  refine WD.nil (fun _ h=>by have h:=Ws.drop (L:=[_]) (L':=_) h; exact h) ?_
  refine Et (Cs (Cr ?_))
  refine V0 (Ym rfl) ?_
  refine V0 (Ym rfl) ?_
  refine V0 (yl_not rfl) ?_
  rw [Bool.not_not]
  refine Lf 2 rfl ?_
  refine WL.callw0 [_] _ [blk vb (.cells #[.int .i64 0,.int .i64 ((c+noteK ((shE x.op).isNone)).f:Int),.int .i64 ((c+noteK ((shE x.op).isNone)).m:Int),.int .i64 0,.int .i64 ((c+noteK ((shE x.op).isNone)).k:Int),.int .i64 0,.int .i64 0,.int .i64 0,.int .i64 0,.int .i64 0,.map (some be),.map (some bs)] 76 (0,0))] (.inl rfl) rfl en40 rfl rfl [] (by simp) (fun w hw=>note4_any vb be bs (c) ((shE x.op).isNone) w (by omega) hw) ?_
  refine Ln (Et (Cs (Cr ?_)))
  refine V0 (Ym rfl) ?_
  refine V0 (Yda 1 rfl rfl ag101 rfl) ?_
  refine V0 (Yf fo108_2 rfl) ?_
  refine V0 (Yd 2 rfl rfl rfl na9) ?_
  refine V0 (Yf fo108_3 rfl) ?_
  refine V0 (Yd 2 rfl rfl rfl na9) ?_
  refine V0 (Yf fo108_4 rfl) ?_
  refine V0 (Yd 2 rfl rfl rfl na102) ?_
  refine V0 (Yn es102 rfl) ?_
  refine Lf 0 rfl ?_
  refine WL.callw0 [_] _ [blk vb (.cells #[.int .i64 0,.int .i64 ((c+noteK (shE x.op).isNone+shapeC ((shE x.op).getD (false,0)) x.mod x.nm x.args.length).f:Int),.int .i64 ((c+noteK (shE x.op).isNone+shapeC ((shE x.op).getD (false,0)) x.mod x.nm x.args.length).m:Int),.int .i64 0,.int .i64 ((c+noteK (shE x.op).isNone+shapeC ((shE x.op).getD (false,0)) x.mod x.nm x.args.length).k:Int),.int .i64 0,.int .i64 0,.int .i64 0,.int .i64 0,.int .i64 0,.map (some be),.map (some bs)] 76 (0,0))] (.inl rfl) rfl en57 rfl rfl [] (by simp) (fun w hw=>vshape_any vb be bs ((shE x.op).getD (false,0)).1 ((shE x.op).getD (false,0)).2 x.mod x.nm x.args.length (c+noteK (shE x.op).isNone) w (by omega) (by omega) hw) ?_
  refine Ln (Et (Cs (Cr ?_)))
  refine V0 (Ym rfl) ?_
  refine V0 (Yf fo108_0 rfl) ?_
  refine V0 (Yd 2 rfl rfl rfl na3) ?_
  refine V0 (yl_eq rfl rfl) ?_
  refine V0 (Ym rfl) ?_
  apply WL.and 8 rfl rfl rfl rfl (.inl rfl) rfl rfl rfl rfl rfl
  ·
   intro hg0
   refine Lv (.g rfl rfl rfl) rfl (Yf fo108_1 rfl) ?_
   refine Lv (.g rfl rfl rfl) rfl (Yd 2 rfl rfl rfl na3) ?_
   refine Lv (.g rfl rfl rfl) rfl (yl_lt rfl rfl) ?_
   refine Lv (.g rfl rfl rfl) rfl (Ym rfl) ?_
   apply WL.or 3 rfl rfl rfl rfl (.g rfl rfl rfl) rfl rfl rfl rfl rfl
   ·
    intro hg1
    refine Lv (.g rfl rfl rfl) rfl (Yf fo108_1 rfl) ?_
    refine Lv (.g rfl rfl rfl) rfl (Yd 2 rfl rfl rfl na3) ?_
    refine Lv (.g rfl rfl rfl) rfl (yl_gt rfl rfl) ?_
    exact Gt 3 rfl rfl rfl
   exact Gt 5 rfl rfl rfl
  refine V0 (Ym rfl) ?_
  apply WL.or 8 rfl rfl rfl rfl (.inl rfl) rfl rfl rfl rfl rfl
  ·
   intro hg2
   refine Lv (.g rfl rfl rfl) rfl (Yf fo108_0 rfl) ?_
   refine Lv (.g rfl rfl rfl) rfl (Yd 2 rfl rfl rfl na3) ?_
   refine Lv (.g rfl rfl rfl) rfl (yl_ne rfl rfl) ?_
   refine Lv (.g rfl rfl rfl) rfl (Ym rfl) ?_
   apply WL.and 3 rfl rfl rfl rfl (.g rfl rfl rfl) rfl rfl rfl rfl rfl
   ·
    intro hg3
    refine Lv (.g rfl rfl rfl) rfl (Yf fo108_1 rfl) ?_
    refine Lv (.g rfl rfl rfl) rfl (Yd 2 rfl rfl rfl na3) ?_
    refine Lv (.g rfl rfl rfl) rfl (yl_ne rfl rfl) ?_
    exact Gt 3 rfl rfl rfl
   exact Gt 5 rfl rfl rfl
  refine Lf 0 rfl ?_
  refine WL.callw0 [_] _ [blk vb (.cells #[.int .i64 0,.int .i64 ((c+noteK (shE x.op).isNone+shapeC ((shE x.op).getD (false,0)) x.mod x.nm x.args.length+noteF (numBad x.op x.n)).f:Int),.int .i64 ((c+noteK (shE x.op).isNone+shapeC ((shE x.op).getD (false,0)) x.mod x.nm x.args.length+noteF (numBad x.op x.n)).m:Int),.int .i64 0,.int .i64 ((c+noteK (shE x.op).isNone+shapeC ((shE x.op).getD (false,0)) x.mod x.nm x.args.length+noteF (numBad x.op x.n)).k:Int),.int .i64 0,.int .i64 0,.int .i64 0,.int .i64 0,.int .i64 0,.map (some be),.map (some bs)] 76 (0,0))] (.inl rfl) rfl en40 rfl rfl [] (by simp) (fun w hw=>note1_any vb be bs (c+noteK (shE x.op).isNone+shapeC ((shE x.op).getD (false,0)) x.mod x.nm x.args.length) (numBad x.op x.n) w (by omega) hw) ?_
  refine Ln (Et (Cs (Cr ?_)))
  refine V0 (Yf fo108_4 rfl) ?_
  refine V0 (Yd 2 rfl rfl rfl na102) ?_
  refine V0 (Yn es102 rfl) ?_
  refine V0 (Ym rfl) ?_
  refine Ln (Et (Cb ?_))
  refine CK (ι:=Nat) (fun i=>[(66,.int .i64 (i:Int))]) [(0,_),(2,_),(64,_),(65,_)] (fun i=>Ws w [vb,be,bs] [blk vb (.cells #[.int .i64 0,.int .i64 ((c+noteK (shE x.op).isNone+shapeC ((shE x.op).getD (false,0)) x.mod x.nm x.args.length+noteF (numBad x.op x.n)+cntEs (x.args.take i) (d+1)).f:Int),.int .i64 ((c+noteK (shE x.op).isNone+shapeC ((shE x.op).getD (false,0)) x.mod x.nm x.args.length+noteF (numBad x.op x.n)+cntEs (x.args.take i) (d+1)).m:Int),.int .i64 0,.int .i64 ((c+noteK (shE x.op).isNone+shapeC ((shE x.op).getD (false,0)) x.mod x.nm x.args.length+noteF (numBad x.op x.n)+cntEs (x.args.take i) (d+1)).k:Int),.int .i64 0,.int .i64 0,.int .i64 0,.int .i64 0,.int .i64 0,.map (some be),.map (some bs)] 76 (0,0)),blk be (gobj kI (exprsK 9) 15),blk bs (gobj kI stmtsK 7)] [H]) (fun i=>i≤x.args.length) (fun i=>x.args.length-i) 0 (Nat.zero_le _) (sc rfl (sc rfl (sc rfl (sc rfl (sc rfl sn))))) (fun _ h=>by have h:=h.fronti 4 rfl; have h:=h.fronti 4 rfl; have h:=h.fronti 2 rfl; have h:=Ws.keep (L:=[_,_,_]) h; exact h) ?_
  intro i hi
  refine Cs (Cr ?_)
  refine V0 (yl_lt rfl rfl) ?_
  refine Ln (Et (Cs ?_))
  refine Cc rfl (fun hc1=>?_) (fun hc1=>?_)
  ·
   have hlt:i<x.args.length:=by simpa using hc1
   obtain ⟨y,hyi⟩:∃q,x.args[i]? = some q:=⟨_,List.getElem?_eq_getElem hlt⟩
   obtain ⟨pby,poy,hay,hry⟩:=hm.elt i y hyi
   obtain ⟨k',rfl⟩:∃k',k=k'+1:=by
     cases k with
     | zero=>exact hry.elim
     | succ k'=>exact ⟨k',rfl⟩
   obtain ⟨ya,yn,hrow,hsub⟩:=hry
   have hup:=wEs_upto hyi
   have hle:=cntEs_le (x.args.take i) (d+1)
   have hbi:(c+noteK (shE x.op).isNone+shapeC ((shE x.op).getD (false,0)) x.mod x.nm x.args.length+noteF (numBad x.op x.n)+cntEs (x.args.take i) (d+1)).tot+8*wE y≤1152921504606846976:=by rw [Cnt.tot_add,Cnt.tot_add,Cnt.tot_add,Cnt.tot_add]; omega
   have e2:c+noteK (shE x.op).isNone+shapeC ((shE x.op).getD (false,0)) x.mod x.nm x.args.length+noteF (numBad x.op x.n)+cntEs (x.args.take i) (d+1)+cntE y (d+1)=c+noteK (shE x.op).isNone+shapeC ((shE x.op).getD (false,0)) x.mod x.nm x.args.length+noteF (numBad x.op x.n)+cntEs (x.args.take (i+1)) (d+1):=by rw [cntEs_take (d+1) hyi,←Cnt.add_assoc']
   refine Ck (Et (Cs (Cb (Cs (Cr ?_)))))
   refine V0 (Yo es102 rfl rfl hay (by omega)) ?_
   refine V0 (yl_lda 0 ag108 rfl rfl rfl (hrow)) ?_
   refine WL.alloc (.inl rfl) rfl zr108 fun b9=>?_
   refine Lst 0 (.inl rfl) rfl rfl rfl sz108 rfl rfl rfl ?_
   refine Ln (Et (Cr ?_))
   refine V0 (Ym rfl) ?_
   refine V0 (Yda 0 rfl rfl ag108 rfl) ?_
   refine V0 (Ym rfl) ?_
   refine V0 (Yi rfl rfl rfl (by omega)) ?_
   refine Lf 3 rfl ?_
   refine Lf 3 rfl ?_
   refine Lf 3 rfl ?_
   refine WL.callw0 [_,_,_] _ [blk vb (.cells #[.int .i64 0,.int .i64 ((c+noteK (shE x.op).isNone+shapeC ((shE x.op).getD (false,0)) x.mod x.nm x.args.length+noteF (numBad x.op x.n)+cntEs (x.args.take i) (d+1)+cntE y (d+1)).f:Int),.int .i64 ((c+noteK (shE x.op).isNone+shapeC ((shE x.op).getD (false,0)) x.mod x.nm x.args.length+noteF (numBad x.op x.n)+cntEs (x.args.take i) (d+1)+cntE y (d+1)).m:Int),.int .i64 0,.int .i64 ((c+noteK (shE x.op).isNone+shapeC ((shE x.op).getD (false,0)) x.mod x.nm x.args.length+noteF (numBad x.op x.n)+cntEs (x.args.take i) (d+1)+cntE y (d+1)).k:Int),.int .i64 0,.int .i64 0,.int .i64 0,.int .i64 0,.int .i64 0,.map (some be),.map (some bs)] 76 (0,0)),blk be (gobj kI (exprsK 9) 15),blk bs (gobj kI stmtsK 7)] (.inl rfl) rfl en58 rfl rfl [H] (by simp) (fun w hw=>by
       have:=ih k' (by omega) y ya yn (d+1) (c+noteK (shE x.op).isNone+shapeC ((shE x.op).getD (false,0)) x.mod x.nm x.args.length+noteF (numBad x.op x.n)+cntEs (x.args.take i) (d+1)) w hsub hbi hw
       exact this) ?_
   refine Ln (Eb (Et (Cr ?_)))
   refine V0 (Yi rfl rfl rfl (by omega)) ?_
   refine V0 (Ym rfl) ?_
   refine Ln ?_
   rw [e2]
   exact Ea (i+1) (by omega) (by omega) (sc rfl (sc rfl (sc rfl (sc rfl (sc rfl sn))))) (fun _ h=>by have h:=h.fronti 2 rfl; have h:=h.fronti 2 rfl; have h:=h.fronti 2 rfl; have h:=Ws.keep (L:=[_,_,_]) h; exact h)
  ·
   have hge2:¬i<x.args.length:=by simpa using hc1
   rw [List.take_of_length_le (by omega),←hE]
   refine Ce (Ex (Ex (Ebh ?_)))
   refine WE.end0 rfl fun w' hw=>?_
   exact ⟨rfl,hw⟩
end Go.Proofs.Ytinnlppbkhhoiaa
end
section
namespace Go.Proofs.Ytinnlppbkhhoiaa
open Go.Bw
set_option linter.unusedVariables false
set_option linter.unusedSimpArgs false
theorem c0_add (c:Cnt):c0+c=c:=by apply Cnt.ext'<;>simp [Cnt.add_f,Cnt.add_m,Cnt.add_k,c0]
theorem int_lt0 (n:Nat):decide ((0:Int)<(n:Int))=decide (0<n):=by rw [Bool.eq_iff_iff]; simp
theorem int_lt10 (n:Nat):decide ((10:Int)<(n:Int))=decide (10<n):=by rw [Bool.eq_iff_iff]; simp; omega
theorem cntB_eq {l:List TStmt} {d:Nat} (h:¬6<d):cntB l d=noteM (decide (10<l.length))+cntSs l d:=by rw [cntB,blkC,if_neg h]
theorem es37:elemSz Try.prog 37=some 6:=by kernel_rfl
theorem ag104:aggOf Try.prog 104=some 6:=by kernel_rfl
theorem zr104:zeroOf Try.prog 104=some (.agg #[.int .i64 0,st [],st [],.slice none 0 0,.slice none 0 0,.slice none 0 0]):=by kernel_rfl
theorem sz104:sizeP Try.prog 104=some 6:=by kernel_rfl
theorem fo76_2:fieldOff Try.prog 76 2=some 11:=by kernel_rfl
theorem fo104_0:fieldOff Try.prog 104 0=some 0:=by kernel_rfl
theorem fo104_1:fieldOff Try.prog 104 1=some 1:=by kernel_rfl
theorem fo104_2:fieldOff Try.prog 104 2=some 2:=by kernel_rfl
theorem fo104_3:fieldOff Try.prog 104 3=some 3:=by kernel_rfl
theorem fo104_4:fieldOff Try.prog 104 4=some 4:=by kernel_rfl
theorem na37:nonAgg Try.prog 37=true:=by kernel_rfl
theorem fo104_5:fieldOff Try.prog 104 5=some 5:=by kernel_rfl
theorem en42:Enters Try.prog 42:=enters_of Try.func42 (by kernel_rfl) rfl
theorem vblock_any (vb be bs:Nat) (H:View) (ke k:Nat) (l:List TStmt) (a:Option Addr) (n:Nat) (d:Nat) (c:Cnt) (w:World) (hm:Sl (RdS ke k) 6 H a n l) (hb:c.tot+2+8*wSs l≤1152921504606846976) (hw:Ws w [vb,be,bs] [blk vb (.cells #[.int .i64 0,.int .i64 ((c).f:Int),.int .i64 ((c).m:Int),.int .i64 0,.int .i64 ((c).k:Int),.int .i64 0,.int .i64 0,.int .i64 0,.int .i64 0,.int .i64 0,.map (some be),.map (some bs)] 76 (0,0)),blk be (gobj kI (exprsK 9) 15),blk bs (gobj kI stmtsK 7)] [H] w) :
   Calls Try.prog 42 #[.pointer (some ⟨vb,0,none⟩),.slice a l.length n,.int .i64 (d:Int)] w fun e w'=>e = .returned (.tuple #[])∧Ws w [vb,be,bs] [blk vb (.cells #[.int .i64 0,.int .i64 ((c+cntB l d).f:Int),.int .i64 ((c+cntB l d).m:Int),.int .i64 0,.int .i64 ((c+cntB l d).k:Int),.int .i64 0,.int .i64 0,.int .i64 0,.int .i64 0,.int .i64 0,.map (some be),.map (some bs)] 76 (0,0)),blk be (gobj kI (exprsK 9) 15),blk bs (gobj kI stmtsK 7)] [H] w':=by
 induction k using Nat.strongRecOn generalizing l a n d c w
 rename_i k ih
 have hcap:=hm.cap
 have hmax:=hm.max
 have tM:=noteM_tot (decide (10<l.length))
 refine enter Try.func42 rfl 116 rfl rfl ?_
 refine CWd (W':=Ws w [vb,be,bs] [blk vb (.cells #[.int .i64 0,.int .i64 ((c).f:Int),.int .i64 ((c).m:Int),.int .i64 0,.int .i64 ((c).k:Int),.int .i64 0,.int .i64 0,.int .i64 0,.int .i64 0,.int .i64 0,.map (some be),.map (some bs)] 76 (0,0)),blk be (gobj kI (exprsK 9) 15),blk bs (gobj kI stmtsK 7)] [H]) (fun _ e=>by subst e; exact hw) ?_
 refine Cs (Cs (Cr ?_))
 refine V0 (Ym rfl) ?_
 refine V0 (yl_gt rfl rfl) ?_
 refine Ln (Et ?_)
 refine Cc rfl (fun hc0=>?_) (fun hc0=>?_)
 ·
  have hd:6<d:=by simp at hc0; omega
  refine Cs (Cr ?_)
  refine V0 (Ym rfl) ?_
  refine Lf 0 rfl ?_
  refine WL.callw0 [_] _ [blk vb (.cells #[.int .i64 0,.int .i64 ((c+noteM (true)).f:Int),.int .i64 ((c+noteM (true)).m:Int),.int .i64 0,.int .i64 ((c+noteM (true)).k:Int),.int .i64 0,.int .i64 0,.int .i64 0,.int .i64 0,.int .i64 0,.map (some be),.map (some bs)] 76 (0,0))] (.inl rfl) rfl en40 rfl rfl [] (by simp) (fun w hw=>note2_any vb be bs (c) (true) w (by omega) hw) ?_
  refine Ln (Et (Crt (Er ?_)))
  refine WE.ret0 rfl fun w' hw=>?_
  rw [show c+cntB l d=c+noteM true by rw [cntB,blkC,if_pos hd]; rfl]
  exact ⟨rfl,hw⟩
 ·
  have hd:¬6<d:=by simp at hc0; omega
  refine Ck (Et (Cs (Cr ?_)))
  refine V0 (Ym rfl) ?_
  refine V0 (Ym rfl) ?_
  refine V0 (Yn es37 rfl) ?_
  refine V0 (yl_gt rfl rfl) ?_
  rw [int_lt10]
  refine Lf 0 rfl ?_
  refine WL.callw0 [_] _ [blk vb (.cells #[.int .i64 0,.int .i64 ((c+noteM (decide (10<l.length))).f:Int),.int .i64 ((c+noteM (decide (10<l.length))).m:Int),.int .i64 0,.int .i64 ((c+noteM (decide (10<l.length))).k:Int),.int .i64 0,.int .i64 0,.int .i64 0,.int .i64 0,.int .i64 0,.map (some be),.map (some bs)] 76 (0,0))] (.inl rfl) rfl en40 rfl rfl [] (by simp) (fun w hw=>note2_any vb be bs (c) (decide (10<l.length)) w (by omega) hw) ?_
  refine Ln (Et (Cs (Cr ?_)))
  refine V0 (Ym rfl) ?_
  refine V0 (Yn es37 rfl) ?_
  refine V0 (Ym rfl) ?_
  refine Ln (Et (Cb ?_))
  refine CK (ι:=Nat) (fun i=>[(24,.int .i64 (i:Int))]) [(0,_),(2,_),(22,_),(23,_)] (fun i=>Ws w [vb,be,bs] [blk vb (.cells #[.int .i64 0,.int .i64 ((c+noteM (decide (10<l.length))+cntSs (l.take i) d).f:Int),.int .i64 ((c+noteM (decide (10<l.length))+cntSs (l.take i) d).m:Int),.int .i64 0,.int .i64 ((c+noteM (decide (10<l.length))+cntSs (l.take i) d).k:Int),.int .i64 0,.int .i64 0,.int .i64 0,.int .i64 0,.int .i64 0,.map (some be),.map (some bs)] 76 (0,0)),blk be (gobj kI (exprsK 9) 15),blk bs (gobj kI stmtsK 7)] [H]) (fun i=>i≤l.length) (fun i=>l.length-i) 0 (Nat.zero_le _) (sc rfl (sc rfl (sc rfl (sc rfl (sc rfl sn))))) (fun _ h=>h) ?_
  intro i hi
  refine Cs (Cr ?_)
  refine V0 (yl_lt rfl rfl) ?_
  refine Ln (Et (Cs ?_))
  refine Cc rfl (fun hc1=>?_) (fun hc1=>?_)
  ·
   have hlt:i<l.length:=by simpa using hc1
   obtain ⟨y,hyi⟩:∃q,l[i]? = some q:=⟨_,List.getElem?_eq_getElem hlt⟩
   obtain ⟨pby,poy,hay,hry⟩:=hm.elt i y hyi
   obtain ⟨k',rfl⟩:∃k',k=k'+1:=by
     cases k with
     | zero=>exact hry.elim
     | succ k'=>exact ⟨k',rfl⟩
   obtain ⟨ya,yn,y2,m2,y3,m3,hrow,hs1,hs2,hs3⟩:=hry
   have hup:=wSs_upto hyi
   have hwy:=wS_eq y
   have hle:=cntSs_le (l.take i) d
   have t1:=noteK_tot (shS y.op).isNone
   have t2:=shapeC_tot ((shS y.op).getD (false,0)) y.mod y.nm y.args.length
   have t3:=noteF_tot (bodyBad y.op y.body.length y.other.length)
   have t4:=cntEs_le y.args 1
   have t5:=cntB_le y.body (d+1)
   have hge:gget y.op stmtsK (.agg #[.bool false,.int .i64 0]) = .agg #[.bool ((shS y.op).getD (false,0)).1,.int .i64 ((shS y.op).getD (false,0)).2]:=(stmts_get y.op).1
   have hgh:=(stmts_get y.op).2
   have cap1:=hs1.cap
   have max1:=hs1.max
   have cap2:=hs2.cap
   have max2:=hs2.max
   have cap3:=hs3.cap
   have max3:=hs3.max
   have hb1:(c+noteM (decide (10<l.length))+cntSs (l.take i) d).tot≤1152921504606846976:=by simp only [Cnt.tot_add]; omega
   have hb2:(c+noteM (decide (10<l.length))+cntSs (l.take i) d+noteK (shS y.op).isNone).tot+4≤1152921504606846976:=by simp only [Cnt.tot_add]; omega
   have hb4:(c+noteM (decide (10<l.length))+cntSs (l.take i) d+noteK (shS y.op).isNone+shapeC ((shS y.op).getD (false,0)) y.mod y.nm y.args.length+cntEs y.args 1).tot≤1152921504606846976:=by simp only [Cnt.tot_add]; omega
   have hb5:(c+noteM (decide (10<l.length))+cntSs (l.take i) d+noteK (shS y.op).isNone+shapeC ((shS y.op).getD (false,0)) y.mod y.nm y.args.length+cntEs y.args 1+noteF (bodyBad y.op y.body.length y.other.length)).tot+2+8*wSs y.body≤1152921504606846976:=by simp only [Cnt.tot_add]; omega
   have hb6:(c+noteM (decide (10<l.length))+cntSs (l.take i) d+noteK (shS y.op).isNone+shapeC ((shS y.op).getD (false,0)) y.mod y.nm y.args.length+cntEs y.args 1+noteF (bodyBad y.op y.body.length y.other.length)+cntB y.body (d+1)).tot+2+8*wSs y.other≤1152921504606846976:=by simp only [Cnt.tot_add]; omega
   have hb7:(c+noteM (decide (10<l.length))+cntSs (l.take i) d+noteK (shS y.op).isNone+shapeC ((shS y.op).getD (false,0)) y.mod y.nm y.args.length+cntEs y.args 1+noteF (bodyBad y.op y.body.length y.other.length)).tot+2+8*wSs y.other≤1152921504606846976:=by simp only [Cnt.tot_add]; omega
   refine Ck (Et (Cs (Cb (Cs (Cr ?_)))))
   refine V0 (Yo es37 rfl rfl hay (by omega)) ?_
   refine V0 (yl_lda 0 ag104 rfl rfl rfl (hrow)) ?_
   refine WL.alloc (.inl rfl) rfl zr104 fun b7=>?_
   refine Lst 0 (.inl rfl) rfl rfl rfl sz104 rfl rfl rfl ?_
   refine Ln (Et (Cs ?_))
   refine WC.draws0 [(0,true),(1,true),(2,true),(3,true),(4,true),(5,true),(6,true),(7,true),(8,true),(9,true),(10,false),(11,false),(12,false)] mixed (by kernel_rfl) (fun _ _ _ d _ h=>by cases d<;>exact h) ?_
   refine Dq rfl (.inl rfl) rfl (fun _ h=>h) (Ym rfl) ?_
   refine Dq rfl (.inl rfl) rfl (fun _ h=>h) (yl_nil rfl) ?_
   refine Dq rfl (.inl rfl) rfl (fun _ h=>h) (Yf fo76_2 rfl) ?_
   refine Dq rfl (.inl rfl) rfl (fun _ h=>h) (Yd 1 rfl rfl rfl na72) ?_
   refine Dq rfl (.inl rfl) rfl (fun _ h=>h) (Yf fo104_0 rfl) ?_
   refine Dq rfl (.inl rfl) rfl (fun _ h=>h) (Yd 0 rfl rfl rfl na3) ?_
   refine Dq rfl (.inl rfl) rfl (fun _ h=>h) (yl_glook2 3 keyInt um72 ui3 zr101 rfl rfl rfl) ?_
   rw [hge,hgh]
   refine Dq rfl (.inl rfl) rfl (fun _ h=>h) (Ym rfl) ?_
   refine Dq rfl (.inl rfl) rfl (fun _ h=>h) (Yx rfl rfl) ?_
   refine Dq rfl (.inl rfl) rfl (fun _ h=>h) (Yx rfl rfl) ?_
   refine De rfl (fun _ h=>h) ?_
   refine WL.alloc (.inl rfl) rfl zr101 fun b8=>?_
   refine Ln (Ed ?_)
   refine De rfl (fun _ h=>by have h:=Ws.drop (L:=[_]) (L':=_) h; exact h) ?_
   refine Lst 0 (.inl rfl) rfl rfl rfl sz101 rfl rfl rfl ?_
   refine Ln (Ed ?_)
   refine De rfl (fun _ h=>by have h:=Ws.drop (L:=[_]) (L':=_) h; exact h) ?_
   refine V0 (Ya rfl) ?_
   refine Ln (Ed ?_)
   refine WD.nil (fun _ h=>by have h:=Ws.drop (L:=[_]) (L':=_) h; exact h) ?_
   refine Et (Cs (Cr ?_))
   refine V0 (Ym rfl) ?_
   refine V0 (Ym rfl) ?_
   refine V0 (yl_not rfl) ?_
   rw [Bool.not_not]
   refine Lf 2 rfl ?_
   refine WL.callw0 [_] _ [blk vb (.cells #[.int .i64 0,.int .i64 ((c+noteM (decide (10<l.length))+cntSs (l.take i) d+noteK ((shS y.op).isNone)).f:Int),.int .i64 ((c+noteM (decide (10<l.length))+cntSs (l.take i) d+noteK ((shS y.op).isNone)).m:Int),.int .i64 0,.int .i64 ((c+noteM (decide (10<l.length))+cntSs (l.take i) d+noteK ((shS y.op).isNone)).k:Int),.int .i64 0,.int .i64 0,.int .i64 0,.int .i64 0,.int .i64 0,.map (some be),.map (some bs)] 76 (0,0))] (.inl rfl) rfl en40 rfl rfl [] (by simp) (fun w hw=>note4_any vb be bs (c+noteM (decide (10<l.length))+cntSs (l.take i) d) ((shS y.op).isNone) w (by omega) hw) ?_
   refine Ln (Et (Cs (Cr ?_)))
   refine V0 (Ym rfl) ?_
   refine V0 (Yda 1 rfl rfl ag101 rfl) ?_
   refine V0 (Yf fo104_1 rfl) ?_
   refine V0 (Yd 2 rfl rfl rfl na9) ?_
   refine V0 (Yf fo104_2 rfl) ?_
   refine V0 (Yd 2 rfl rfl rfl na9) ?_
   refine V0 (Yf fo104_3 rfl) ?_
   refine V0 (Yd 2 rfl rfl rfl na102) ?_
   refine V0 (Yn es102 rfl) ?_
   refine Lf 0 rfl ?_
   refine WL.callw0 [_] _ [blk vb (.cells #[.int .i64 0,.int .i64 ((c+noteM (decide (10<l.length))+cntSs (l.take i) d+noteK (shS y.op).isNone+shapeC ((shS y.op).getD (false,0)) y.mod y.nm y.args.length).f:Int),.int .i64 ((c+noteM (decide (10<l.length))+cntSs (l.take i) d+noteK (shS y.op).isNone+shapeC ((shS y.op).getD (false,0)) y.mod y.nm y.args.length).m:Int),.int .i64 0,.int .i64 ((c+noteM (decide (10<l.length))+cntSs (l.take i) d+noteK (shS y.op).isNone+shapeC ((shS y.op).getD (false,0)) y.mod y.nm y.args.length).k:Int),.int .i64 0,.int .i64 0,.int .i64 0,.int .i64 0,.int .i64 0,.map (some be),.map (some bs)] 76 (0,0))] (.inl rfl) rfl en57 rfl rfl [] (by simp) (fun w hw=>vshape_any vb be bs ((shS y.op).getD (false,0)).1 ((shS y.op).getD (false,0)).2 y.mod y.nm y.args.length (c+noteM (decide (10<l.length))+cntSs (l.take i) d+noteK (shS y.op).isNone) w (by omega) (by omega) hw) ?_
   refine Ln (Et (Cs (Cs (Cr ?_))))
   refine V0 (Yf fo104_3 rfl) ?_
   refine V0 (Yd 2 rfl rfl rfl na102) ?_
   refine V0 (Yn es102 rfl) ?_
   refine V0 (Ym rfl) ?_
   refine Ln (Et (Cb ?_))
   refine CK (ι:=Nat) (fun j=>[(55,.int .i64 (j:Int))]) [(0,_),(2,_),(7,_),(22,_),(23,_),(24,_),(53,_),(54,_)] (fun j=>Ws w [vb,be,bs] ([blk vb (.cells #[.int .i64 0,.int .i64 ((c+noteM (decide (10<l.length))+cntSs (l.take i) d+noteK (shS y.op).isNone+shapeC ((shS y.op).getD (false,0)) y.mod y.nm y.args.length+cntEs (y.args.take j) 1).f:Int),.int .i64 ((c+noteM (decide (10<l.length))+cntSs (l.take i) d+noteK (shS y.op).isNone+shapeC ((shS y.op).getD (false,0)) y.mod y.nm y.args.length+cntEs (y.args.take j) 1).m:Int),.int .i64 0,.int .i64 ((c+noteM (decide (10<l.length))+cntSs (l.take i) d+noteK (shS y.op).isNone+shapeC ((shS y.op).getD (false,0)) y.mod y.nm y.args.length+cntEs (y.args.take j) 1).k:Int),.int .i64 0,.int .i64 0,.int .i64 0,.int .i64 0,.int .i64 0,.map (some be),.map (some bs)] 76 (0,0)),blk be (gobj kI (exprsK 9) 15),blk bs (gobj kI stmtsK 7)]++[blk b7 (.cells (stmtV y ya yn y2 m2 y3 m3).toArray 104 (0,0))]) [H]) (fun j=>j≤y.args.length) (fun j=>y.args.length-j) 0 (Nat.zero_le _) (sc rfl (sc rfl (sc rfl (sc rfl (sc rfl (sc rfl (sc rfl (sc rfl (sc rfl sn))))))))) (fun _ h=>by have h:=h.fronti 2 rfl; have h:=h.fronti 4 rfl; have h:=h.fronti 4 rfl; have h:=h.fronti 3 rfl; have h:=Ws.keep (L:=[_,_,_,_]) h; exact h) ?_
   intro j hj
   refine Cs (Cr ?_)
   refine V0 (yl_lt rfl rfl) ?_
   refine Ln (Et (Cs ?_))
   refine Cc rfl (fun hc2=>?_) (fun hc2=>?_)
   ·
    have hlt:j<y.args.length:=by simpa using hc2
    obtain ⟨z,hzi⟩:∃q,y.args[j]? = some q:=⟨_,List.getElem?_eq_getElem hlt⟩
    obtain ⟨pbz,poz,haz,hrz⟩:=hs1.elt j z hzi
    obtain ⟨ke',rfl⟩:∃ke',ke=ke'+1:=by
      cases ke with
      | zero=>exact hrz.elim
      | succ k'=>exact ⟨k',rfl⟩
    obtain ⟨za,zn,hrow2,hsub⟩:=hrz
    have hup2:=wEs_upto hzi
    have hle2:=cntEs_le (y.args.take j) 1
    have hbj:(c+noteM (decide (10<l.length))+cntSs (l.take i) d+noteK (shS y.op).isNone+shapeC ((shS y.op).getD (false,0)) y.mod y.nm y.args.length+cntEs (y.args.take j) 1).tot+8*wE z≤1152921504606846976:=by simp only [Cnt.tot_add]; omega
    have e2:c+noteM (decide (10<l.length))+cntSs (l.take i) d+noteK (shS y.op).isNone+shapeC ((shS y.op).getD (false,0)) y.mod y.nm y.args.length+cntEs (y.args.take j) 1+cntE z 1=c+noteM (decide (10<l.length))+cntSs (l.take i) d+noteK (shS y.op).isNone+shapeC ((shS y.op).getD (false,0)) y.mod y.nm y.args.length+cntEs (y.args.take (j+1)) 1:=by rw [cntEs_take 1 hzi,←Cnt.add_assoc']
    refine Ck (Et (Cs (Cb (Cs (Cr ?_)))))
    refine V0 (Yo es102 rfl rfl haz (by omega)) ?_
    refine V0 (yl_lda 0 ag108 rfl rfl rfl (hrow2)) ?_
    refine WL.alloc (.inl rfl) rfl zr108 fun b11=>?_
    refine Lst 0 (.inl rfl) rfl rfl rfl sz108 rfl rfl rfl ?_
    refine Ln (Et (Cr ?_))
    refine V0 (Ym rfl) ?_
    refine V0 (Yda 0 rfl rfl ag108 rfl) ?_
    refine Lf 3 rfl ?_
    refine Lf 3 rfl ?_
    refine Lf 3 rfl ?_
    refine WL.callw0 [_,_,_] _ [blk vb (.cells #[.int .i64 0,.int .i64 ((c+noteM (decide (10<l.length))+cntSs (l.take i) d+noteK (shS y.op).isNone+shapeC ((shS y.op).getD (false,0)) y.mod y.nm y.args.length+cntEs (y.args.take j) 1+cntE z 1).f:Int),.int .i64 ((c+noteM (decide (10<l.length))+cntSs (l.take i) d+noteK (shS y.op).isNone+shapeC ((shS y.op).getD (false,0)) y.mod y.nm y.args.length+cntEs (y.args.take j) 1+cntE z 1).m:Int),.int .i64 0,.int .i64 ((c+noteM (decide (10<l.length))+cntSs (l.take i) d+noteK (shS y.op).isNone+shapeC ((shS y.op).getD (false,0)) y.mod y.nm y.args.length+cntEs (y.args.take j) 1+cntE z 1).k:Int),.int .i64 0,.int .i64 0,.int .i64 0,.int .i64 0,.int .i64 0,.map (some be),.map (some bs)] 76 (0,0)),blk be (gobj kI (exprsK 9) 15),blk bs (gobj kI stmtsK 7)] (.inl rfl) rfl en58 rfl rfl [H] (by simp) (fun w hw=>by
        have:=vexpr_any vb be bs H ke' z za zn 1 (c+noteM (decide (10<l.length))+cntSs (l.take i) d+noteK (shS y.op).isNone+shapeC ((shS y.op).getD (false,0)) y.mod y.nm y.args.length+cntEs (y.args.take j) 1) w hsub hbj hw
        exact this) ?_
    refine Ln (Eb (Et (Cr ?_)))
    refine V0 (Yi rfl rfl rfl (by omega)) ?_
    refine V0 (Ym rfl) ?_
    refine Ln ?_
    rw [e2]
    exact Ea (j+1) (by omega) (by omega) (sc rfl (sc rfl (sc rfl (sc rfl (sc rfl (sc rfl (sc rfl (sc rfl (sc rfl sn))))))))) (fun _ h=>by have h:=h.fronti 4 rfl; have h:=h.fronti 3 rfl; have h:=h.fronti 3 rfl; have h:=h.fronti 3 rfl; have h:=Ws.keep (L:=[_,_,_,_]) h; exact h)
   ·
    have hge3:¬j<y.args.length:=by simpa using hc2
    rw [List.take_of_length_le (by omega:y.args.length≤j)]
    refine Ce (Ex (Ex (Ebh (Et (Cs ?_)))))
    refine Cr ?_
    refine V0 (Yf fo104_0 rfl) ?_
    refine V0 (Yd 3 rfl rfl rfl na3) ?_
    refine V0 (yl_eq rfl rfl) ?_
    refine V0 (Ym rfl) ?_
    apply WL.or 3 rfl rfl rfl rfl (.inl rfl) rfl rfl rfl rfl rfl
    ·
     intro hg0
     refine Lv (.g rfl rfl rfl) rfl (Yf fo104_0 rfl) ?_
     refine Lv (.g rfl rfl rfl) rfl (Yd 3 rfl rfl rfl na3) ?_
     refine Lv (.g rfl rfl rfl) rfl (yl_eq rfl rfl) ?_
     exact Gt 3 rfl rfl rfl
    refine V0 (Ya rfl) ?_
    refine Ln (Et (Cs (Cr ?_)))
    refine V0 (Ym rfl) ?_
    refine V0 (Ym rfl) ?_
    refine V0 (yl_not rfl) ?_
    refine V0 (Ym rfl) ?_
    apply WL.and 4 rfl rfl rfl rfl (.inl rfl) rfl rfl rfl rfl rfl
    ·
     intro hg1
     refine Lv (.g rfl rfl rfl) rfl (Yf fo104_4 rfl) ?_
     refine Lv (.g rfl rfl rfl) rfl (Yd 3 rfl rfl rfl na37) ?_
     refine Lv (.g rfl rfl rfl) rfl (Yn es37 rfl) ?_
     refine Lv (.g rfl rfl rfl) rfl (yl_gt rfl rfl) ?_
     rw [int_lt0]
     exact Gt 4 rfl rfl rfl
    refine V0 (Ym rfl) ?_
    apply WL.or 9 rfl rfl rfl rfl (.inl rfl) rfl rfl rfl rfl rfl
    ·
     intro hg2
     refine Lv (.g rfl rfl rfl) rfl (Yf fo104_0 rfl) ?_
     refine Lv (.g rfl rfl rfl) rfl (Yd 3 rfl rfl rfl na3) ?_
     refine Lv (.g rfl rfl rfl) rfl (yl_ne rfl rfl) ?_
     refine Lv (.g rfl rfl rfl) rfl (Ym rfl) ?_
     apply WL.and 4 rfl rfl rfl rfl (.g rfl rfl rfl) rfl rfl rfl rfl rfl
     ·
      intro hg3
      refine Lv (.g rfl rfl rfl) rfl (Yf fo104_5 rfl) ?_
      refine Lv (.g rfl rfl rfl) rfl (Yd 3 rfl rfl rfl na37) ?_
      refine Lv (.g rfl rfl rfl) rfl (Yn es37 rfl) ?_
      refine Lv (.g rfl rfl rfl) rfl (yl_gt rfl rfl) ?_
      rw [int_lt0]
      exact Gt 4 rfl rfl rfl
     exact Gt 5 rfl rfl rfl
    refine Lf 0 rfl ?_
    refine WL.callw0 [_] _ [blk vb (.cells #[.int .i64 0,.int .i64 ((c+noteM (decide (10<l.length))+cntSs (l.take i) d+noteK (shS y.op).isNone+shapeC ((shS y.op).getD (false,0)) y.mod y.nm y.args.length+cntEs y.args 1+noteF (bodyBad y.op y.body.length y.other.length)).f:Int),.int .i64 ((c+noteM (decide (10<l.length))+cntSs (l.take i) d+noteK (shS y.op).isNone+shapeC ((shS y.op).getD (false,0)) y.mod y.nm y.args.length+cntEs y.args 1+noteF (bodyBad y.op y.body.length y.other.length)).m:Int),.int .i64 0,.int .i64 ((c+noteM (decide (10<l.length))+cntSs (l.take i) d+noteK (shS y.op).isNone+shapeC ((shS y.op).getD (false,0)) y.mod y.nm y.args.length+cntEs y.args 1+noteF (bodyBad y.op y.body.length y.other.length)).k:Int),.int .i64 0,.int .i64 0,.int .i64 0,.int .i64 0,.int .i64 0,.map (some be),.map (some bs)] 76 (0,0))] (.inl rfl) rfl en40 rfl rfl [] (by simp) (fun w hw=>note1_any vb be bs (c+noteM (decide (10<l.length))+cntSs (l.take i) d+noteK (shS y.op).isNone+shapeC ((shS y.op).getD (false,0)) y.mod y.nm y.args.length+cntEs y.args 1) (bodyBad y.op y.body.length y.other.length) w (by omega) hw) ?_
    refine Ln (Et (Cs (Cs (Cr ?_))))
    refine V0 (Ym rfl) ?_
    refine V0 (Ym rfl) ?_
    apply WL.or 4 rfl rfl rfl rfl (.inl rfl) rfl rfl rfl rfl rfl
    ·
     intro hg4
     refine Lv (.g rfl rfl rfl) rfl (Yf fo104_4 rfl) ?_
     refine Lv (.g rfl rfl rfl) rfl (Yd 3 rfl rfl rfl na37) ?_
     refine Lv (.g rfl rfl rfl) rfl (Yn es37 rfl) ?_
     refine Lv (.g rfl rfl rfl) rfl (yl_gt rfl rfl) ?_
     rw [int_lt0]
     exact Gt 4 rfl rfl rfl
    refine Ln (Et ?_)
    refine Cc rfl (fun hc3=>?_) (fun hc3=>?_)
    ·
     have e3:(if (inner y.op||decide (0<y.body.length))=true then cntB y.body (d+1) else c0)=cntB y.body (d+1):=if_pos hc3
     refine Cr ?_
     refine V0 (Ym rfl) ?_
     refine V0 (Yf fo104_4 rfl) ?_
     refine V0 (Yd 3 rfl rfl rfl na37) ?_
     refine V0 (Ym rfl) ?_
     refine V0 (Yi rfl rfl rfl (by omega)) ?_
     refine Lf 2 rfl ?_
     refine Lf 2 rfl ?_
     refine Lf 2 rfl ?_
     refine WL.callw0 [_,_,_] _ [blk vb (.cells #[.int .i64 0,.int .i64 ((c+noteM (decide (10<l.length))+cntSs (l.take i) d+noteK (shS y.op).isNone+shapeC ((shS y.op).getD (false,0)) y.mod y.nm y.args.length+cntEs y.args 1+noteF (bodyBad y.op y.body.length y.other.length)+cntB y.body (d+1)).f:Int),.int .i64 ((c+noteM (decide (10<l.length))+cntSs (l.take i) d+noteK (shS y.op).isNone+shapeC ((shS y.op).getD (false,0)) y.mod y.nm y.args.length+cntEs y.args 1+noteF (bodyBad y.op y.body.length y.other.length)+cntB y.body (d+1)).m:Int),.int .i64 0,.int .i64 ((c+noteM (decide (10<l.length))+cntSs (l.take i) d+noteK (shS y.op).isNone+shapeC ((shS y.op).getD (false,0)) y.mod y.nm y.args.length+cntEs y.args 1+noteF (bodyBad y.op y.body.length y.other.length)+cntB y.body (d+1)).k:Int),.int .i64 0,.int .i64 0,.int .i64 0,.int .i64 0,.int .i64 0,.map (some be),.map (some bs)] 76 (0,0)),blk be (gobj kI (exprsK 9) 15),blk bs (gobj kI stmtsK 7)] (.inl rfl) rfl en42 rfl rfl [H] (by simp) (fun w hw=>by
         have:=ih k' (by omega) y.body y2 m2 (d+1) (c+noteM (decide (10<l.length))+cntSs (l.take i) d+noteK (shS y.op).isNone+shapeC ((shS y.op).getD (false,0)) y.mod y.nm y.args.length+cntEs y.args 1+noteF (bodyBad y.op y.body.length y.other.length)) w hs2 hb5 hw
         exact this) ?_
     refine Ln (Et (Cs (Cr ?_)))
     refine V0 (Yf fo104_5 rfl) ?_
     refine V0 (Yd 3 rfl rfl rfl na37) ?_
     refine V0 (Yn es37 rfl) ?_
     refine V0 (yl_gt rfl rfl) ?_
     rw [int_lt0]
     refine Ln (Et ?_)
     refine Cc rfl (fun hc4=>?_) (fun hc4=>?_)
     ·
      have e4:(if 0<y.other.length then cntB y.other (d+1) else c0)=cntB y.other (d+1):=if_pos (by simpa using hc4)
      refine Cr ?_
      refine V0 (Ym rfl) ?_
      refine V0 (Yf fo104_5 rfl) ?_
      refine V0 (Yd 3 rfl rfl rfl na37) ?_
      refine V0 (Ym rfl) ?_
      refine V0 (Yi rfl rfl rfl (by omega)) ?_
      refine Lf 2 rfl ?_
      refine Lf 2 rfl ?_
      refine Lf 2 rfl ?_
      refine WL.callw0 [_,_,_] _ [blk vb (.cells #[.int .i64 0,.int .i64 ((c+noteM (decide (10<l.length))+cntSs (l.take i) d+noteK (shS y.op).isNone+shapeC ((shS y.op).getD (false,0)) y.mod y.nm y.args.length+cntEs y.args 1+noteF (bodyBad y.op y.body.length y.other.length)+cntB y.body (d+1)+cntB y.other (d+1)).f:Int),.int .i64 ((c+noteM (decide (10<l.length))+cntSs (l.take i) d+noteK (shS y.op).isNone+shapeC ((shS y.op).getD (false,0)) y.mod y.nm y.args.length+cntEs y.args 1+noteF (bodyBad y.op y.body.length y.other.length)+cntB y.body (d+1)+cntB y.other (d+1)).m:Int),.int .i64 0,.int .i64 ((c+noteM (decide (10<l.length))+cntSs (l.take i) d+noteK (shS y.op).isNone+shapeC ((shS y.op).getD (false,0)) y.mod y.nm y.args.length+cntEs y.args 1+noteF (bodyBad y.op y.body.length y.other.length)+cntB y.body (d+1)+cntB y.other (d+1)).k:Int),.int .i64 0,.int .i64 0,.int .i64 0,.int .i64 0,.int .i64 0,.map (some be),.map (some bs)] 76 (0,0)),blk be (gobj kI (exprsK 9) 15),blk bs (gobj kI stmtsK 7)] (.inl rfl) rfl en42 rfl rfl [H] (by simp) (fun w hw=>by
          have:=ih k' (by omega) y.other y3 m3 (d+1) (c+noteM (decide (10<l.length))+cntSs (l.take i) d+noteK (shS y.op).isNone+shapeC ((shS y.op).getD (false,0)) y.mod y.nm y.args.length+cntEs y.args 1+noteF (bodyBad y.op y.body.length y.other.length)+cntB y.body (d+1)) w hs3 hb6 hw
          exact this) ?_
      refine Ln (Eb (Et (Cr ?_)))
      refine V0 (Yi rfl rfl rfl (by omega)) ?_
      refine V0 (Ym rfl) ?_
      refine Ln ?_
      rw [show c+noteM (decide (10<l.length))+cntSs (l.take i) d+noteK (shS y.op).isNone+shapeC ((shS y.op).getD (false,0)) y.mod y.nm y.args.length+cntEs y.args 1+noteF (bodyBad y.op y.body.length y.other.length)+cntB y.body (d+1)+cntB y.other (d+1)=c+noteM (decide (10<l.length))+cntSs (l.take (i+1)) d by rw [cntSs_take d hyi,cntS_eq,e3,e4]; simp only [Cnt.add_assoc',add_c0,c0_add]]
      exact Ea (i+1) (by omega) (by omega) (sc rfl (sc rfl (sc rfl (sc rfl (sc rfl sn))))) (fun _ h=>by have h:=h.fronti 2 rfl; have h:=h.fronti 2 rfl; have h:=h.fronti 2 rfl; have h:=Ws.keep (L:=[_,_,_]) h; exact h)
     ·
      have e4:(if 0<y.other.length then cntB y.other (d+1) else c0)=c0:=if_neg (by simpa using hc4)
      refine Ck (Eb (Et (Cr ?_)))
      refine V0 (Yi rfl rfl rfl (by omega)) ?_
      refine V0 (Ym rfl) ?_
      refine Ln ?_
      rw [show c+noteM (decide (10<l.length))+cntSs (l.take i) d+noteK (shS y.op).isNone+shapeC ((shS y.op).getD (false,0)) y.mod y.nm y.args.length+cntEs y.args 1+noteF (bodyBad y.op y.body.length y.other.length)+cntB y.body (d+1)=c+noteM (decide (10<l.length))+cntSs (l.take (i+1)) d by rw [cntSs_take d hyi,cntS_eq,e3,e4]; simp only [Cnt.add_assoc',add_c0,c0_add]]
      exact Ea (i+1) (by omega) (by omega) (sc rfl (sc rfl (sc rfl (sc rfl (sc rfl sn))))) (fun _ h=>by have h:=h.fronti 2 rfl; have h:=h.fronti 2 rfl; have h:=h.fronti 2 rfl; have h:=Ws.keep (L:=[_,_,_]) h; exact h)
    ·
     have e3:(if (inner y.op||decide (0<y.body.length))=true then cntB y.body (d+1) else c0)=c0:=if_neg (fun e=>by rw [show (inner y.op||decide (0<y.body.length))=false from hc3] at e; cases e)
     refine Ck (Et (Cs (Cr ?_)))
     refine V0 (Yf fo104_5 rfl) ?_
     refine V0 (Yd 3 rfl rfl rfl na37) ?_
     refine V0 (Yn es37 rfl) ?_
     refine V0 (yl_gt rfl rfl) ?_
     rw [int_lt0]
     refine Ln (Et ?_)
     refine Cc rfl (fun hc4=>?_) (fun hc4=>?_)
     ·
      have e4:(if 0<y.other.length then cntB y.other (d+1) else c0)=cntB y.other (d+1):=if_pos (by simpa using hc4)
      refine Cr ?_
      refine V0 (Ym rfl) ?_
      refine V0 (Yf fo104_5 rfl) ?_
      refine V0 (Yd 3 rfl rfl rfl na37) ?_
      refine V0 (Ym rfl) ?_
      refine V0 (Yi rfl rfl rfl (by omega)) ?_
      refine Lf 2 rfl ?_
      refine Lf 2 rfl ?_
      refine Lf 2 rfl ?_
      refine WL.callw0 [_,_,_] _ [blk vb (.cells #[.int .i64 0,.int .i64 ((c+noteM (decide (10<l.length))+cntSs (l.take i) d+noteK (shS y.op).isNone+shapeC ((shS y.op).getD (false,0)) y.mod y.nm y.args.length+cntEs y.args 1+noteF (bodyBad y.op y.body.length y.other.length)+cntB y.other (d+1)).f:Int),.int .i64 ((c+noteM (decide (10<l.length))+cntSs (l.take i) d+noteK (shS y.op).isNone+shapeC ((shS y.op).getD (false,0)) y.mod y.nm y.args.length+cntEs y.args 1+noteF (bodyBad y.op y.body.length y.other.length)+cntB y.other (d+1)).m:Int),.int .i64 0,.int .i64 ((c+noteM (decide (10<l.length))+cntSs (l.take i) d+noteK (shS y.op).isNone+shapeC ((shS y.op).getD (false,0)) y.mod y.nm y.args.length+cntEs y.args 1+noteF (bodyBad y.op y.body.length y.other.length)+cntB y.other (d+1)).k:Int),.int .i64 0,.int .i64 0,.int .i64 0,.int .i64 0,.int .i64 0,.map (some be),.map (some bs)] 76 (0,0)),blk be (gobj kI (exprsK 9) 15),blk bs (gobj kI stmtsK 7)] (.inl rfl) rfl en42 rfl rfl [H] (by simp) (fun w hw=>by
          have:=ih k' (by omega) y.other y3 m3 (d+1) (c+noteM (decide (10<l.length))+cntSs (l.take i) d+noteK (shS y.op).isNone+shapeC ((shS y.op).getD (false,0)) y.mod y.nm y.args.length+cntEs y.args 1+noteF (bodyBad y.op y.body.length y.other.length)) w hs3 hb7 hw
          exact this) ?_
      refine Ln (Eb (Et (Cr ?_)))
      refine V0 (Yi rfl rfl rfl (by omega)) ?_
      refine V0 (Ym rfl) ?_
      refine Ln ?_
      rw [show c+noteM (decide (10<l.length))+cntSs (l.take i) d+noteK (shS y.op).isNone+shapeC ((shS y.op).getD (false,0)) y.mod y.nm y.args.length+cntEs y.args 1+noteF (bodyBad y.op y.body.length y.other.length)+cntB y.other (d+1)=c+noteM (decide (10<l.length))+cntSs (l.take (i+1)) d by rw [cntSs_take d hyi,cntS_eq,e3,e4]; simp only [Cnt.add_assoc',add_c0,c0_add]]
      exact Ea (i+1) (by omega) (by omega) (sc rfl (sc rfl (sc rfl (sc rfl (sc rfl sn))))) (fun _ h=>by have h:=h.fronti 2 rfl; have h:=h.fronti 2 rfl; have h:=h.fronti 2 rfl; have h:=Ws.keep (L:=[_,_,_]) h; exact h)
     ·
      have e4:(if 0<y.other.length then cntB y.other (d+1) else c0)=c0:=if_neg (by simpa using hc4)
      refine Ck (Eb (Et (Cr ?_)))
      refine V0 (Yi rfl rfl rfl (by omega)) ?_
      refine V0 (Ym rfl) ?_
      refine Ln ?_
      rw [show c+noteM (decide (10<l.length))+cntSs (l.take i) d+noteK (shS y.op).isNone+shapeC ((shS y.op).getD (false,0)) y.mod y.nm y.args.length+cntEs y.args 1+noteF (bodyBad y.op y.body.length y.other.length)=c+noteM (decide (10<l.length))+cntSs (l.take (i+1)) d by rw [cntSs_take d hyi,cntS_eq,e3,e4]; simp only [Cnt.add_assoc',add_c0,c0_add]]
      exact Ea (i+1) (by omega) (by omega) (sc rfl (sc rfl (sc rfl (sc rfl (sc rfl sn))))) (fun _ h=>by have h:=h.fronti 2 rfl; have h:=h.fronti 2 rfl; have h:=h.fronti 2 rfl; have h:=Ws.keep (L:=[_,_,_]) h; exact h)
  ·
   have hge2:¬i<l.length:=by simpa using hc1
   rw [List.take_of_length_le (by omega),Cnt.add_assoc',←cntB_eq hd]
   refine Ce (Ex (Ex (Ebh ?_)))
   refine WE.end0 rfl fun w' hw=>?_
   exact ⟨rfl,hw⟩
end Go.Proofs.Ytinnlppbkhhoiaa
end
section
namespace Go.Proofs.Ytinnlppbkhhoiaa
open Go.Bw
set_option linter.unusedVariables false
set_option linter.unusedSimpArgs false
theorem wD_take:∀(l:List TDecl) (i:Nat),wD (l.take i)≤wD l
 | [],i=>by simp
 | x::r,0=>by simp [wD]
 | x::r,i+1=>by have:=wD_take r i; simp only [List.take_succ_cons,wD]; omega
theorem wP_take:∀(l:List TProc) (i:Nat),wP (l.take i)≤wP l
 | [],i=>by simp
 | x::r,0=>by simp [wP]
 | x::r,i+1=>by have:=wP_take r i; simp only [List.take_succ_cons,wP]; omega
theorem wP_upto {l:List TProc} {i:Nat} {p:TProc} (h:l[i]? = some p):wP (l.take i)+(1+p.nm.length+wN p.params+wN p.locs+wSs p.body)≤wP l:=by
 have h2:=wP_take l (i+1)
 rw [take_snoc h] at h2
 have:∀a b:List TProc,wP (a++b)=wP a+wP b:=by
   intro a b
   induction a with
   | nil=>simp [wP]
   | cons y a ih=>simp only [List.cons_append,wP,ih]; omega
 rw [this] at h2
 simp only [wP] at h2
 omega
theorem declsC_app:∀a b:List TDecl,declsC (a++b)=declsC a+declsC b
 | [],b=>by apply Cnt.ext'<;>simp [Cnt.add_f,Cnt.add_m,Cnt.add_k,declsC,c0]
 | x::a,b=>by
   rw [List.cons_append,show ∀q,declsC (x::q)=declC x+declsC q from fun _=>rfl,declsC_app a b,show ∀q,declsC (x::q)=declC x+declsC q from fun _=>rfl,Cnt.add_assoc']
theorem declsC_take {l:List TDecl} {i:Nat} {s:TDecl} (h:l[i]? = some s):declsC (l.take (i+1))=declsC (l.take i)+declC s:=by rw [take_snoc h,declsC_app]; rfl
theorem procsC_app:∀a b:List TProc,procsC (a++b)=procsC a+procsC b
 | [],b=>by apply Cnt.ext'<;>simp [Cnt.add_f,Cnt.add_m,Cnt.add_k,procsC,c0]
 | x::a,b=>by
   rw [List.cons_append,show ∀q,procsC (x::q)=procC x+procsC q from fun _=>rfl,procsC_app a b,show ∀q,procsC (x::q)=procC x+procsC q from fun _=>rfl,Cnt.add_assoc']
theorem procsC_take {l:List TProc} {i:Nat} {s:TProc} (h:l[i]? = some s):procsC (l.take (i+1))=procsC (l.take i)+procC s:=by rw [take_snoc h,procsC_app]; rfl
theorem int_lt4 (n:Nat):decide ((4:Int)<(n:Int))=decide (4<n):=by rw [Bool.eq_iff_iff]; simp; omega
theorem int_lt6 (n:Nat):decide ((6:Int)<(n:Int))=decide (6<n):=by rw [Bool.eq_iff_iff]; simp; omega
def eN (i:Nat):Nat:=if i=0 then 4 else if i=1 then 2 else 1
def cE (c:Cnt) (i:Nat):Nat:=if i=0 then c.k else if i=1 then c.m else c.f
theorem eN_get {i:Nat} (h:i<3):(#[.int .i64 4,.int .i64 2,.int .i64 1]:Array Value)[i]? = some (.int .i64 (eN i:Int)):=by
 match i,h with
 | 0,_=>rfl
 | 1,_=>rfl
 | 2,_=>rfl
theorem eN_lt (i:Nat):eN i<10:=by unfold eN; split; omega; split<;>omega
theorem found_get {c:Cnt} {be bs i:Nat} (h:i<3) {T:TypeId} {fz:Nat×Nat}:cellIn (.cells #[.int .i64 0,.int .i64 (c.f:Int),.int .i64 (c.m:Int),.int .i64 0,.int .i64 (c.k:Int),.int .i64 0,.int .i64 0,.int .i64 0,.int .i64 0,.int .i64 0,.map (some be),.map (some bs)] T fz) (0+0+eN i*1)=some (.int .i64 (cE c i:Int)):=by
 match i,h with
 | 0,_=>rfl
 | 1,_=>rfl
 | 2,_=>rfl
theorem err_at {c:Cnt} {i:Nat} (h:i<3) (h0:∀j,j<i→cE c j=0) (h1:0<cE c i):(eN i:Int)=errC c:=by
 match i,h,h0,h1 with
 | 0,_,_,h1=>unfold errC; rw [if_pos (show 0<c.k from h1)]; rfl
 | 1,_,h0,h1=>have:=h0 0 (by omega); unfold errC; rw [if_neg (by simp [cE] at this; omega),if_pos (show 0<c.m from h1)]; rfl
 | 2,_,h0,h1=>have a:=h0 0 (by omega); have b:=h0 1 (by omega); unfold errC; rw [if_neg (by simp [cE] at a; omega),if_neg (by simp [cE] at b; omega),if_pos (show 0<c.f from h1)]; rfl
theorem err_none {c:Cnt} (h:∀j,j<3→cE c j=0):errC c=0:=by
 have a:=h 0 (by omega); have b:=h 1 (by omega); have d:=h 2 (by omega)
 simp [cE] at a b d
 unfold errC
 rw [if_neg (by omega),if_neg (by omega),if_neg (by omega)]
theorem en37:Enters Try.prog 37:=enters_of Try.func37 (by kernel_rfl) rfl
theorem en38:Enters Try.prog 38:=enters_of Try.func38 (by kernel_rfl) rfl
theorem pl76:placesP Try.prog 76=some [(0,10),(10,1),(11,1)]:=by kernel_rfl
theorem zr76:zeroOf Try.prog 76=some (.agg #[.int .i64 0,.int .i64 0,.int .i64 0,.int .i64 0,.int .i64 0,.int .i64 0,.int .i64 0,.int .i64 0,.int .i64 0,.int .i64 0,.map none,.map none]):=by kernel_rfl
theorem fo39_0:fieldOff Try.prog 39 0=some 0:=by kernel_rfl
theorem fo39_1:fieldOff Try.prog 39 1=some 1:=by kernel_rfl
theorem na27:nonAgg Try.prog 27=true:=by kernel_rfl
theorem fo39_2:fieldOff Try.prog 39 2=some 2:=by kernel_rfl
theorem na35:nonAgg Try.prog 35=true:=by kernel_rfl
theorem es35:elemSz Try.prog 35=some 4:=by kernel_rfl
theorem fo39_3:fieldOff Try.prog 39 3=some 3:=by kernel_rfl
theorem na36:nonAgg Try.prog 36=true:=by kernel_rfl
theorem es36:elemSz Try.prog 36=some 5:=by kernel_rfl
theorem ag80:aggOf Try.prog 80=some 4:=by kernel_rfl
theorem zr80:zeroOf Try.prog 80=some (.agg #[.int .i64 0,st [],.bool false,.int .i64 0]):=by kernel_rfl
theorem sz80:sizeP Try.prog 80=some 4:=by kernel_rfl
theorem en41:Enters Try.prog 41:=enters_of Try.func41 (by kernel_rfl) rfl
theorem ag83:aggOf Try.prog 83=some 5:=by kernel_rfl
theorem zr83:zeroOf Try.prog 83=some (.agg #[st [],.bool false,.slice none 0 0,.slice none 0 0,.slice none 0 0]):=by kernel_rfl
theorem sz83:sizeP Try.prog 83=some 5:=by kernel_rfl
theorem fo83_0:fieldOff Try.prog 83 0=some 0:=by kernel_rfl
theorem fo83_2:fieldOff Try.prog 83 2=some 2:=by kernel_rfl
theorem fo83_3:fieldOff Try.prog 83 3=some 3:=by kernel_rfl
theorem fo83_4:fieldOff Try.prog 83 4=some 4:=by kernel_rfl
theorem fo39_4:fieldOff Try.prog 39 4=some 4:=by kernel_rfl
theorem ar85:arrP Try.prog 85=some (3,1):=by kernel_rfl
theorem zr85:zeroOf Try.prog 85=some (.agg #[.int .i64 0,.int .i64 0,.int .i64 0]):=by kernel_rfl
theorem ara85:arr1 Try.prog 85=some 3:=by kernel_rfl
theorem treeCheck_any (H:View) (ke ks:Nat) (r:MAt) (m:TMod) (w:World) (hH:Le H w) (hm:RdM ke ks H r m) (hb:wM m≤9007199254740992) :
   Calls Try.prog 27 #[.agg (modV m r).toArray] w fun e w'=>e = .returned (.int .i64 (checkM m))∧Ext w w':=by
 have hb1:=cntN1_le m.nm
 have hb2:=cntN_le m.uses
 have hb3:=noteM_tot ((decide (3<m.uses.length)||decide (10<m.decls.length))||decide (6<m.procs.length))
 have hb4:=declsC_le m.decls
 have hb5:=procsC_le m.procs
 have hb6:=cntB_le m.main 1
 have hwM:wM m=1+m.nm.length+wN m.uses+wD m.decls+wP m.procs+wSs m.main:=rfl
 have hz:c0.tot=0:=rfl
 have hl1:=wN_len m.uses
 have cu:=hm.uses.cap
 have xu:=hm.uses.max
 have cd:=hm.decls.cap
 have xd:=hm.decls.max
 have cp:=hm.procs.cap
 have xp:=hm.procs.max
 have hbd:∀i,(declsC (m.decls.take i)).tot≤8*wD m.decls:=fun i=>by have:=declsC_le (m.decls.take i); have:=wD_take m.decls i; omega
 have hbp:∀i,(procsC (m.procs.take i)).tot≤8*wP m.procs:=fun i=>by have:=procsC_le (m.procs.take i); have:=wP_take m.procs i; omega
 have hk1:(c0+cntN [m.nm]).tot+16+m.uses.length≤1152921504606846976:=by simp only [Cnt.tot_add]; omega
 have hk2:(c0+cntN [m.nm]+cntN m.uses).tot+16+m.uses.length≤1152921504606846976:=by simp only [Cnt.tot_add]; omega
 have hk3:(c0+cntN [m.nm]+cntN m.uses+noteM ((decide (3<m.uses.length)||decide (10<m.decls.length))||decide (6<m.procs.length))).tot+16+m.uses.length≤1152921504606846976:=by simp only [Cnt.tot_add]; omega
 have hk4:(c0+cntN [m.nm]+cntN m.uses+noteM ((decide (3<m.uses.length)||decide (10<m.decls.length))||decide (6<m.procs.length))+declsC m.decls).tot+16+m.uses.length≤1152921504606846976:=by simp only [Cnt.tot_add]; omega
 have hk5:(c0+cntN [m.nm]+cntN m.uses+noteM ((decide (3<m.uses.length)||decide (10<m.decls.length))||decide (6<m.procs.length))+declsC m.decls+procsC m.procs).tot+16+8*wSs m.main≤1152921504606846976:=by simp only [Cnt.tot_add]; omega
 refine enter Try.func27 rfl 106 rfl rfl ?_
 refine CWd (W':=Ws w [] [] [H]) (fun _ e=>by subst e; exact Ws.init (by simp [hH])) ?_
 refine Cs (Cr ?_)
 refine WL.box (.inl rfl) rfl rfl fun b1=>?_
 refine V0 (Ya rfl) ?_
 refine Ln (Et (Cs (Cr ?_)))
 refine WL.calln (ι:=Nat) (.inl rfl) rfl en37 rfl (fun b=>.map (some b)) (fun b=>[blk b (gobj kI (exprsK 9) 15)]) (fun _=>True) (fun w hw=>(exprs_any w).mono fun e w' h=>by
     obtain ⟨b,h1,h2⟩:=h
     exact ⟨b,h1,trivial,h2⟩) ?_
 intro be _
 refine WL.calln (ι:=Nat) (.inl rfl) rfl en38 rfl (fun b=>.map (some b)) (fun b=>[blk b (gobj kI stmtsK 7)]) (fun _=>True) (fun w hw=>(stmts_any w).mono fun e w' h=>by
     obtain ⟨b,h1,h2⟩:=h
     exact ⟨b,h1,trivial,h2⟩) ?_
 intro bs _
 refine V0 (Yb zr76 pl76 rfl rfl) ?_
 refine WL.box (.inl rfl) rfl rfl fun b13=>?_
 refine Lrb 0 (.cells #[.int .i64 0,.int .i64 ((c0).f:Int),.int .i64 ((c0).m:Int),.int .i64 0,.int .i64 ((c0).k:Int),.int .i64 0,.int .i64 0,.int .i64 0,.int .i64 0,.int .i64 0,.map (some be),.map (some bs)] 76 (0,0)) rfl rfl ?_
 refine V0 (Ya rfl) ?_
 refine Ln (Et (Cs (Cr ?_)))
 refine V0 (Ym rfl) ?_
 refine V0 (Yf fo39_0 rfl) ?_
 refine V0 (Yd 3 rfl rfl rfl na9) ?_
 refine Lb (.inl rfl) rfl el27 rfl rfl rfl rfl fun b17=>?_
 refine Lsv (T:=9) (m:=1) 0 [m.nm] rfl rfl (show 1≤1 by decide) (by decide) fun H17 hH17=>?_
 refine Lf 0 rfl ?_
 refine WL.callw0 [_] _ [blk b13 (.cells #[.int .i64 0,.int .i64 ((c0+cntN [m.nm]).f:Int),.int .i64 ((c0+cntN [m.nm]).m:Int),.int .i64 0,.int .i64 ((c0+cntN [m.nm]).k:Int),.int .i64 0,.int .i64 0,.int .i64 0,.int .i64 0,.int .i64 0,.map (some be),.map (some bs)] 76 (0,0))] (.inl rfl) rfl en39 rfl rfl [H17] (by simp) (fun w hw=>names_any b13 be bs H17 _ _ [m.nm] (c0) w hH17 (by show c0.tot+1≤_; omega) hw) ?_
 refine Ln (Et (Cs (Cr ?_)))
 refine V0 (Ym rfl) ?_
 refine V0 (Yf fo39_1 rfl) ?_
 refine V0 (Yd 3 rfl rfl rfl na27) ?_
 refine Lf 0 rfl ?_
 refine WL.callw0 [_] _ [blk b13 (.cells #[.int .i64 0,.int .i64 ((c0+cntN [m.nm]+cntN m.uses).f:Int),.int .i64 ((c0+cntN [m.nm]+cntN m.uses).m:Int),.int .i64 0,.int .i64 ((c0+cntN [m.nm]+cntN m.uses).k:Int),.int .i64 0,.int .i64 0,.int .i64 0,.int .i64 0,.int .i64 0,.map (some be),.map (some bs)] 76 (0,0))] (.inl rfl) rfl en39 rfl rfl [H] (by simp) (fun w hw=>names_any b13 be bs H r.a1 r.c1 m.uses (c0+cntN [m.nm]) w hm.uses (by omega) hw) ?_
 refine Ln (Et (Cs (Cr ?_)))
 refine V0 (Ym rfl) ?_
 refine V0 (Yf fo39_1 rfl) ?_
 refine V0 (Yd 3 rfl rfl rfl na27) ?_
 refine V0 (Yn es27 rfl) ?_
 refine V0 (yl_gt rfl rfl) ?_
 rw [int_lt3]
 refine V0 (Ym rfl) ?_
 apply WL.or 4 rfl rfl rfl rfl (.inl rfl) rfl rfl rfl rfl rfl
 ·
  intro hg0
  refine Lv (.g rfl rfl rfl) rfl (Yf fo39_2 rfl) ?_
  refine Lv (.g rfl rfl rfl) rfl (Yd 3 rfl rfl rfl na35) ?_
  refine Lv (.g rfl rfl rfl) rfl (Yn es35 rfl) ?_
  refine Lv (.g rfl rfl rfl) rfl (yl_gt rfl rfl) ?_
  rw [int_lt10]
  exact Gt 4 rfl rfl rfl
 refine V0 (Ym rfl) ?_
 apply WL.or 4 rfl rfl rfl rfl (.inl rfl) rfl rfl rfl rfl rfl
 ·
  intro hg1
  refine Lv (.g rfl rfl rfl) rfl (Yf fo39_3 rfl) ?_
  refine Lv (.g rfl rfl rfl) rfl (Yd 3 rfl rfl rfl na36) ?_
  refine Lv (.g rfl rfl rfl) rfl (Yn es36 rfl) ?_
  refine Lv (.g rfl rfl rfl) rfl (yl_gt rfl rfl) ?_
  rw [int_lt6]
  exact Gt 4 rfl rfl rfl
 refine Lf 0 rfl ?_
 refine WL.callw0 [_] _ [blk b13 (.cells #[.int .i64 0,.int .i64 ((c0+cntN [m.nm]+cntN m.uses+noteM ((decide (3<m.uses.length)||decide (10<m.decls.length))||decide (6<m.procs.length))).f:Int),.int .i64 ((c0+cntN [m.nm]+cntN m.uses+noteM ((decide (3<m.uses.length)||decide (10<m.decls.length))||decide (6<m.procs.length))).m:Int),.int .i64 0,.int .i64 ((c0+cntN [m.nm]+cntN m.uses+noteM ((decide (3<m.uses.length)||decide (10<m.decls.length))||decide (6<m.procs.length))).k:Int),.int .i64 0,.int .i64 0,.int .i64 0,.int .i64 0,.int .i64 0,.map (some be),.map (some bs)] 76 (0,0))] (.inl rfl) rfl en40 rfl rfl [] (by simp) (fun w hw=>note2_any b13 be bs (c0+cntN [m.nm]+cntN m.uses) ((decide (3<m.uses.length)||decide (10<m.decls.length))||decide (6<m.procs.length)) w (by omega) hw) ?_
 refine Ln (Et (Cs (Cs (Cr ?_))))
 refine V0 (Yf fo39_2 rfl) ?_
 refine V0 (Yd 3 rfl rfl rfl na35) ?_
 refine V0 (Yn es35 rfl) ?_
 refine V0 (Ym rfl) ?_
 refine Ln (Et (Cb ?_))
 refine CK (ι:=Nat) (fun i=>[(44,.int .i64 (i:Int))]) [(1,_),(2,_),(3,_),(42,_),(43,_)] (fun i=>Ws w [] [blk b13 (.cells #[.int .i64 0,.int .i64 ((c0+cntN [m.nm]+cntN m.uses+noteM ((decide (3<m.uses.length)||decide (10<m.decls.length))||decide (6<m.procs.length))+declsC (m.decls.take i)).f:Int),.int .i64 ((c0+cntN [m.nm]+cntN m.uses+noteM ((decide (3<m.uses.length)||decide (10<m.decls.length))||decide (6<m.procs.length))+declsC (m.decls.take i)).m:Int),.int .i64 0,.int .i64 ((c0+cntN [m.nm]+cntN m.uses+noteM ((decide (3<m.uses.length)||decide (10<m.decls.length))||decide (6<m.procs.length))+declsC (m.decls.take i)).k:Int),.int .i64 0,.int .i64 0,.int .i64 0,.int .i64 0,.int .i64 0,.map (some be),.map (some bs)] 76 (0,0)),blk be (gobj kI (exprsK 9) 15),blk bs (gobj kI stmtsK 7),blk b1 (.cells (modV m r).toArray 39 (0,0))] [H]) (fun i=>i≤m.decls.length) (fun i=>m.decls.length-i) 0 (Nat.zero_le _) (sc rfl (sc rfl (sc rfl (sc rfl (sc rfl (sc rfl sn)))))) (fun _ h=>by have h:=h.fronti 3 rfl; have h:=h.fronti 2 rfl; have h:=h.fronti 3 rfl; have h:=h.fronti 3 rfl; have h:=Ws.drops h (Vs':=[H]) (by simp); exact h) ?_
 intro i hi
 refine Cs (Cr ?_)
 refine V0 (yl_lt rfl rfl) ?_
 refine Ln (Et (Cs ?_))
 refine Cc rfl (fun hc0=>?_) (fun hc0=>?_)
 ·
  have hlt:i<m.decls.length:=by simpa using hc0
  obtain ⟨d,hdi⟩:∃q,m.decls[i]? = some q:=⟨_,List.getElem?_eq_getElem hlt⟩
  obtain ⟨pbd,pod,had,hrd⟩:=hm.decls.elt i d hdi
  have hrd:RdC H pbd (pod+i*4) d.cells:=hrd
  have e2:c0+cntN [m.nm]+cntN m.uses+noteM ((decide (3<m.uses.length)||decide (10<m.decls.length))||decide (6<m.procs.length))+declsC (m.decls.take i)+declC d=c0+cntN [m.nm]+cntN m.uses+noteM ((decide (3<m.uses.length)||decide (10<m.decls.length))||decide (6<m.procs.length))+declsC (m.decls.take (i+1)):=by rw [declsC_take hdi,←Cnt.add_assoc']
  have hbi:=hbd i
  have hki:(c0+cntN [m.nm]+cntN m.uses+noteM ((decide (3<m.uses.length)||decide (10<m.decls.length))||decide (6<m.procs.length))+declsC (m.decls.take i)).tot+4≤4611686018427387904:=by simp only [Cnt.tot_add]; omega
  refine Ck (Et (Cs (Cb (Cs (Cr ?_)))))
  refine V0 (Yo es35 rfl rfl had (by omega)) ?_
  refine V0 (yl_lda 0 ag80 rfl rfl rfl (hrd)) ?_
  refine WL.alloc (.inl rfl) rfl zr80 fun b5=>?_
  refine Lst 0 (.inl rfl) rfl rfl rfl sz80 rfl rfl rfl ?_
  refine Ln (Et (Cr ?_))
  refine V0 (Ym rfl) ?_
  refine V0 (Yda 0 rfl rfl ag80 rfl) ?_
  refine Lf 1 rfl ?_
  refine WL.callw0 [_] _ [blk b13 (.cells #[.int .i64 0,.int .i64 ((c0+cntN [m.nm]+cntN m.uses+noteM ((decide (3<m.uses.length)||decide (10<m.decls.length))||decide (6<m.procs.length))+declsC (m.decls.take i)+declC d).f:Int),.int .i64 ((c0+cntN [m.nm]+cntN m.uses+noteM ((decide (3<m.uses.length)||decide (10<m.decls.length))||decide (6<m.procs.length))+declsC (m.decls.take i)+declC d).m:Int),.int .i64 0,.int .i64 ((c0+cntN [m.nm]+cntN m.uses+noteM ((decide (3<m.uses.length)||decide (10<m.decls.length))||decide (6<m.procs.length))+declsC (m.decls.take i)+declC d).k:Int),.int .i64 0,.int .i64 0,.int .i64 0,.int .i64 0,.int .i64 0,.map (some be),.map (some bs)] 76 (0,0))] (.inl rfl) rfl en41 rfl rfl [] (by simp) (fun w hw=>vdecl_any b13 be bs d (c0+cntN [m.nm]+cntN m.uses+noteM ((decide (3<m.uses.length)||decide (10<m.decls.length))||decide (6<m.procs.length))+declsC (m.decls.take i)) w (by omega) hw) ?_
  refine Ln (Eb (Et (Cr ?_)))
  refine V0 (Yi rfl rfl rfl (by omega)) ?_
  refine V0 (Ym rfl) ?_
  refine Ln ?_
  rw [e2]
  exact Ea (i+1) (by omega) (by omega) (sc rfl (sc rfl (sc rfl (sc rfl (sc rfl (sc rfl sn)))))) (fun _ h=>by have h:=h.fronti 4 rfl; have h:=h.fronti 4 rfl; have h:=h.fronti 4 rfl; have h:=h.fronti 3 rfl; have h:=Ws.keep (L:=[_,_,_,_]) h; exact h)
 ·
  have hge:¬i<m.decls.length:=by simpa using hc0
  rw [List.take_of_length_le (by omega)]
  refine Ce (Ex (Ex (Ebh (Et (Cs ?_)))))
  refine Cs (Cr ?_)
  refine V0 (Yf fo39_3 rfl) ?_
  refine V0 (Yd 3 rfl rfl rfl na36) ?_
  refine V0 (Yn es36 rfl) ?_
  refine V0 (Ym rfl) ?_
  refine Ln (Et (Cb ?_))
  refine CK (ι:=Nat) (fun j=>[(55,.int .i64 (j:Int))]) [(1,_),(2,_),(3,_),(53,_),(54,_)] (fun j=>Ws w [] [blk b13 (.cells #[.int .i64 0,.int .i64 ((c0+cntN [m.nm]+cntN m.uses+noteM ((decide (3<m.uses.length)||decide (10<m.decls.length))||decide (6<m.procs.length))+declsC m.decls+procsC (m.procs.take j)).f:Int),.int .i64 ((c0+cntN [m.nm]+cntN m.uses+noteM ((decide (3<m.uses.length)||decide (10<m.decls.length))||decide (6<m.procs.length))+declsC m.decls+procsC (m.procs.take j)).m:Int),.int .i64 0,.int .i64 ((c0+cntN [m.nm]+cntN m.uses+noteM ((decide (3<m.uses.length)||decide (10<m.decls.length))||decide (6<m.procs.length))+declsC m.decls+procsC (m.procs.take j)).k:Int),.int .i64 0,.int .i64 0,.int .i64 0,.int .i64 0,.int .i64 0,.map (some be),.map (some bs)] 76 (0,0)),blk be (gobj kI (exprsK 9) 15),blk bs (gobj kI stmtsK 7),blk b1 (.cells (modV m r).toArray 39 (0,0))] [H]) (fun j=>j≤m.procs.length) (fun j=>m.procs.length-j) 0 (Nat.zero_le _) (sc rfl (sc rfl (sc rfl (sc rfl (sc rfl (sc rfl sn)))))) (fun _ h=>h) ?_
  intro j hj
  refine Cs (Cr ?_)
  refine V0 (yl_lt rfl rfl) ?_
  refine Ln (Et (Cs ?_))
  refine Cc rfl (fun hc1=>?_) (fun hc1=>?_)
  ·
   have hlt:j<m.procs.length:=by simpa using hc1
   obtain ⟨p,hpi⟩:∃q,m.procs[j]? = some q:=⟨_,List.getElem?_eq_getElem hlt⟩
   obtain ⟨pbp,pop,hap,hrp⟩:=hm.procs.elt j p hpi
   obtain ⟨pa1,pc1,pa2,pc2,pa3,pc3,hrow,hs1,hs2,hs3⟩:=hrp
   have hup:=wP_upto hpi
   have hbj:=hbp j
   have hle:=procsC_le (m.procs.take j)
   have q1:=cntN1_le p.nm
   have q2:=cntN_le p.params
   have q3:=cntN_le p.locs
   have q4:=noteM_tot (decide (3<p.params.length)||decide (4<p.locs.length))
   have q5:=wN_len p.params
   have q6:=wN_len p.locs
   have c1_:=hs1.cap
   have x1_:=hs1.max
   have c2_:=hs2.cap
   have x2_:=hs2.max
   have e3:c0+cntN [m.nm]+cntN m.uses+noteM ((decide (3<m.uses.length)||decide (10<m.decls.length))||decide (6<m.procs.length))+declsC m.decls+procsC (m.procs.take j)+cntN [p.nm]+cntN p.params+cntN p.locs+noteM (decide (3<p.params.length)||decide (4<p.locs.length))+cntB p.body 1=c0+cntN [m.nm]+cntN m.uses+noteM ((decide (3<m.uses.length)||decide (10<m.decls.length))||decide (6<m.procs.length))+declsC m.decls+procsC (m.procs.take (j+1)):=by rw [procsC_take hpi,procC]; simp only [Cnt.add_assoc']
   have hq0:(c0+cntN [m.nm]+cntN m.uses+noteM ((decide (3<m.uses.length)||decide (10<m.decls.length))||decide (6<m.procs.length))+declsC m.decls+procsC (m.procs.take j)).tot+16+p.params.length+p.locs.length+8*wSs p.body≤1152921504606846976:=by simp only [Cnt.tot_add]; omega
   have hq1:(c0+cntN [m.nm]+cntN m.uses+noteM ((decide (3<m.uses.length)||decide (10<m.decls.length))||decide (6<m.procs.length))+declsC m.decls+procsC (m.procs.take j)+cntN [p.nm]).tot+16+p.params.length+p.locs.length+8*wSs p.body≤1152921504606846976:=by simp only [Cnt.tot_add]; omega
   have hq2:(c0+cntN [m.nm]+cntN m.uses+noteM ((decide (3<m.uses.length)||decide (10<m.decls.length))||decide (6<m.procs.length))+declsC m.decls+procsC (m.procs.take j)+cntN [p.nm]+cntN p.params).tot+16+p.params.length+p.locs.length+8*wSs p.body≤1152921504606846976:=by simp only [Cnt.tot_add]; omega
   have hq3:(c0+cntN [m.nm]+cntN m.uses+noteM ((decide (3<m.uses.length)||decide (10<m.decls.length))||decide (6<m.procs.length))+declsC m.decls+procsC (m.procs.take j)+cntN [p.nm]+cntN p.params+cntN p.locs).tot+16+p.params.length+p.locs.length+8*wSs p.body≤1152921504606846976:=by simp only [Cnt.tot_add]; omega
   have hq4:(c0+cntN [m.nm]+cntN m.uses+noteM ((decide (3<m.uses.length)||decide (10<m.decls.length))||decide (6<m.procs.length))+declsC m.decls+procsC (m.procs.take j)+cntN [p.nm]+cntN p.params+cntN p.locs+noteM (decide (3<p.params.length)||decide (4<p.locs.length))).tot+16+p.params.length+p.locs.length+8*wSs p.body≤1152921504606846976:=by simp only [Cnt.tot_add]; omega
   refine Ck (Et (Cs (Cb (Cs (Cr ?_)))))
   refine V0 (Yo es36 rfl rfl hap (by omega)) ?_
   refine V0 (yl_lda 0 ag83 rfl rfl rfl (hrow)) ?_
   refine WL.alloc (.inl rfl) rfl zr83 fun b7=>?_
   refine Lst 0 (.inl rfl) rfl rfl rfl sz83 rfl rfl rfl ?_
   refine Ln (Et (Cs (Cr ?_)))
   refine V0 (Ym rfl) ?_
   refine V0 (Yf fo83_0 rfl) ?_
   refine V0 (Yd 0 rfl rfl rfl na9) ?_
   refine Lb (.inl rfl) rfl el27 rfl rfl rfl rfl fun b62=>?_
   refine Lsv (T:=9) (m:=1) 0 [p.nm] rfl rfl (show 1≤1 by decide) (by decide) fun H62 hH62=>?_
   refine Lf 1 rfl ?_
   refine WL.callw0 [_] _ [blk b13 (.cells #[.int .i64 0,.int .i64 ((c0+cntN [m.nm]+cntN m.uses+noteM ((decide (3<m.uses.length)||decide (10<m.decls.length))||decide (6<m.procs.length))+declsC m.decls+procsC (m.procs.take j)+cntN [p.nm]).f:Int),.int .i64 ((c0+cntN [m.nm]+cntN m.uses+noteM ((decide (3<m.uses.length)||decide (10<m.decls.length))||decide (6<m.procs.length))+declsC m.decls+procsC (m.procs.take j)+cntN [p.nm]).m:Int),.int .i64 0,.int .i64 ((c0+cntN [m.nm]+cntN m.uses+noteM ((decide (3<m.uses.length)||decide (10<m.decls.length))||decide (6<m.procs.length))+declsC m.decls+procsC (m.procs.take j)+cntN [p.nm]).k:Int),.int .i64 0,.int .i64 0,.int .i64 0,.int .i64 0,.int .i64 0,.map (some be),.map (some bs)] 76 (0,0))] (.inl rfl) rfl en39 rfl rfl [H62] (by simp) (fun w hw=>names_any b13 be bs H62 _ _ [p.nm] (c0+cntN [m.nm]+cntN m.uses+noteM ((decide (3<m.uses.length)||decide (10<m.decls.length))||decide (6<m.procs.length))+declsC m.decls+procsC (m.procs.take j)) w hH62 (by show (c0+cntN [m.nm]+cntN m.uses+noteM ((decide (3<m.uses.length)||decide (10<m.decls.length))||decide (6<m.procs.length))+declsC m.decls+procsC (m.procs.take j)).tot+1≤_; omega) hw) ?_
   refine Ln (Et (Cs (Cr ?_)))
   refine V0 (Ym rfl) ?_
   refine V0 (Yf fo83_2 rfl) ?_
   refine V0 (Yd 1 rfl rfl rfl na27) ?_
   refine Lf 0 rfl ?_
   refine WL.callw0 [_] _ [blk b13 (.cells #[.int .i64 0,.int .i64 ((c0+cntN [m.nm]+cntN m.uses+noteM ((decide (3<m.uses.length)||decide (10<m.decls.length))||decide (6<m.procs.length))+declsC m.decls+procsC (m.procs.take j)+cntN [p.nm]+cntN p.params).f:Int),.int .i64 ((c0+cntN [m.nm]+cntN m.uses+noteM ((decide (3<m.uses.length)||decide (10<m.decls.length))||decide (6<m.procs.length))+declsC m.decls+procsC (m.procs.take j)+cntN [p.nm]+cntN p.params).m:Int),.int .i64 0,.int .i64 ((c0+cntN [m.nm]+cntN m.uses+noteM ((decide (3<m.uses.length)||decide (10<m.decls.length))||decide (6<m.procs.length))+declsC m.decls+procsC (m.procs.take j)+cntN [p.nm]+cntN p.params).k:Int),.int .i64 0,.int .i64 0,.int .i64 0,.int .i64 0,.int .i64 0,.map (some be),.map (some bs)] 76 (0,0))] (.inl rfl) rfl en39 rfl rfl [H] (by simp) (fun w hw=>names_any b13 be bs H pa1 pc1 p.params (c0+cntN [m.nm]+cntN m.uses+noteM ((decide (3<m.uses.length)||decide (10<m.decls.length))||decide (6<m.procs.length))+declsC m.decls+procsC (m.procs.take j)+cntN [p.nm]) w hs1 (by omega) hw) ?_
   refine Ln (Et (Cs (Cr ?_)))
   refine V0 (Ym rfl) ?_
   refine V0 (Yf fo83_3 rfl) ?_
   refine V0 (Yd 1 rfl rfl rfl na27) ?_
   refine Lf 0 rfl ?_
   refine WL.callw0 [_] _ [blk b13 (.cells #[.int .i64 0,.int .i64 ((c0+cntN [m.nm]+cntN m.uses+noteM ((decide (3<m.uses.length)||decide (10<m.decls.length))||decide (6<m.procs.length))+declsC m.decls+procsC (m.procs.take j)+cntN [p.nm]+cntN p.params+cntN p.locs).f:Int),.int .i64 ((c0+cntN [m.nm]+cntN m.uses+noteM ((decide (3<m.uses.length)||decide (10<m.decls.length))||decide (6<m.procs.length))+declsC m.decls+procsC (m.procs.take j)+cntN [p.nm]+cntN p.params+cntN p.locs).m:Int),.int .i64 0,.int .i64 ((c0+cntN [m.nm]+cntN m.uses+noteM ((decide (3<m.uses.length)||decide (10<m.decls.length))||decide (6<m.procs.length))+declsC m.decls+procsC (m.procs.take j)+cntN [p.nm]+cntN p.params+cntN p.locs).k:Int),.int .i64 0,.int .i64 0,.int .i64 0,.int .i64 0,.int .i64 0,.map (some be),.map (some bs)] 76 (0,0))] (.inl rfl) rfl en39 rfl rfl [H] (by simp) (fun w hw=>names_any b13 be bs H pa2 pc2 p.locs (c0+cntN [m.nm]+cntN m.uses+noteM ((decide (3<m.uses.length)||decide (10<m.decls.length))||decide (6<m.procs.length))+declsC m.decls+procsC (m.procs.take j)+cntN [p.nm]+cntN p.params) w hs2 (by omega) hw) ?_
   refine Ln (Et (Cs (Cr ?_)))
   refine V0 (Ym rfl) ?_
   refine V0 (Yf fo83_2 rfl) ?_
   refine V0 (Yd 1 rfl rfl rfl na27) ?_
   refine V0 (Yn es27 rfl) ?_
   refine V0 (yl_gt rfl rfl) ?_
   rw [int_lt3]
   refine V0 (Ym rfl) ?_
   apply WL.or 4 rfl rfl rfl rfl (.inl rfl) rfl rfl rfl rfl rfl
   ·
    intro hg2
    refine Lv (.g rfl rfl rfl) rfl (Yf fo83_3 rfl) ?_
    refine Lv (.g rfl rfl rfl) rfl (Yd 1 rfl rfl rfl na27) ?_
    refine Lv (.g rfl rfl rfl) rfl (Yn es27 rfl) ?_
    refine Lv (.g rfl rfl rfl) rfl (yl_gt rfl rfl) ?_
    rw [int_lt4]
    exact Gt 4 rfl rfl rfl
   refine Lf 0 rfl ?_
   refine WL.callw0 [_] _ [blk b13 (.cells #[.int .i64 0,.int .i64 ((c0+cntN [m.nm]+cntN m.uses+noteM ((decide (3<m.uses.length)||decide (10<m.decls.length))||decide (6<m.procs.length))+declsC m.decls+procsC (m.procs.take j)+cntN [p.nm]+cntN p.params+cntN p.locs+noteM (decide (3<p.params.length)||decide (4<p.locs.length))).f:Int),.int .i64 ((c0+cntN [m.nm]+cntN m.uses+noteM ((decide (3<m.uses.length)||decide (10<m.decls.length))||decide (6<m.procs.length))+declsC m.decls+procsC (m.procs.take j)+cntN [p.nm]+cntN p.params+cntN p.locs+noteM (decide (3<p.params.length)||decide (4<p.locs.length))).m:Int),.int .i64 0,.int .i64 ((c0+cntN [m.nm]+cntN m.uses+noteM ((decide (3<m.uses.length)||decide (10<m.decls.length))||decide (6<m.procs.length))+declsC m.decls+procsC (m.procs.take j)+cntN [p.nm]+cntN p.params+cntN p.locs+noteM (decide (3<p.params.length)||decide (4<p.locs.length))).k:Int),.int .i64 0,.int .i64 0,.int .i64 0,.int .i64 0,.int .i64 0,.map (some be),.map (some bs)] 76 (0,0))] (.inl rfl) rfl en40 rfl rfl [] (by simp) (fun w hw=>note2_any b13 be bs (c0+cntN [m.nm]+cntN m.uses+noteM ((decide (3<m.uses.length)||decide (10<m.decls.length))||decide (6<m.procs.length))+declsC m.decls+procsC (m.procs.take j)+cntN [p.nm]+cntN p.params+cntN p.locs) (decide (3<p.params.length)||decide (4<p.locs.length)) w (by omega) hw) ?_
   refine Ln (Et (Cr ?_))
   refine V0 (Ym rfl) ?_
   refine V0 (Yf fo83_4 rfl) ?_
   refine V0 (Yd 1 rfl rfl rfl na37) ?_
   refine Lf 3 rfl ?_
   refine Lf 3 rfl ?_
   refine Lf 2 rfl ?_
   refine WL.callw0 [_,_,_] _ [blk b13 (.cells #[.int .i64 0,.int .i64 ((c0+cntN [m.nm]+cntN m.uses+noteM ((decide (3<m.uses.length)||decide (10<m.decls.length))||decide (6<m.procs.length))+declsC m.decls+procsC (m.procs.take j)+cntN [p.nm]+cntN p.params+cntN p.locs+noteM (decide (3<p.params.length)||decide (4<p.locs.length))+cntB p.body 1).f:Int),.int .i64 ((c0+cntN [m.nm]+cntN m.uses+noteM ((decide (3<m.uses.length)||decide (10<m.decls.length))||decide (6<m.procs.length))+declsC m.decls+procsC (m.procs.take j)+cntN [p.nm]+cntN p.params+cntN p.locs+noteM (decide (3<p.params.length)||decide (4<p.locs.length))+cntB p.body 1).m:Int),.int .i64 0,.int .i64 ((c0+cntN [m.nm]+cntN m.uses+noteM ((decide (3<m.uses.length)||decide (10<m.decls.length))||decide (6<m.procs.length))+declsC m.decls+procsC (m.procs.take j)+cntN [p.nm]+cntN p.params+cntN p.locs+noteM (decide (3<p.params.length)||decide (4<p.locs.length))+cntB p.body 1).k:Int),.int .i64 0,.int .i64 0,.int .i64 0,.int .i64 0,.int .i64 0,.map (some be),.map (some bs)] 76 (0,0)),blk be (gobj kI (exprsK 9) 15),blk bs (gobj kI stmtsK 7)] (.inl rfl) rfl en42 rfl rfl [H] (by simp) (fun w hw=>vblock_any b13 be bs H ke ks (p.body) pa3 pc3 1 (c0+cntN [m.nm]+cntN m.uses+noteM ((decide (3<m.uses.length)||decide (10<m.decls.length))||decide (6<m.procs.length))+declsC m.decls+procsC (m.procs.take j)+cntN [p.nm]+cntN p.params+cntN p.locs+noteM (decide (3<p.params.length)||decide (4<p.locs.length))) w hs3 (by omega) hw) ?_
   refine Ln (Eb (Et (Cr ?_)))
   refine V0 (Yi rfl rfl rfl (by omega)) ?_
   refine V0 (Ym rfl) ?_
   refine Ln ?_
   rw [e3]
   exact Ea (j+1) (by omega) (by omega) (sc rfl (sc rfl (sc rfl (sc rfl (sc rfl (sc rfl sn)))))) (fun _ h=>by have h:=h.fronti 4 rfl; have h:=h.fronti 3 rfl; have h:=h.fronti 3 rfl; have h:=h.fronti 3 rfl; have h:=Ws.keep (L:=[_,_,_,_]) h; have h:=Ws.drops h (fun _ hm=>List.mem_append_right [_] hm); exact h)
  ·
   have hge2:¬j<m.procs.length:=by simpa using hc1
   rw [List.take_of_length_le (by omega)]
   refine Ce (Ex (Ex (Ebh (Et (Cs ?_)))))
   refine Cr ?_
   refine V0 (Ym rfl) ?_
   refine V0 (Yf fo39_4 rfl) ?_
   refine V0 (Yd 3 rfl rfl rfl na37) ?_
   refine Lf 2 rfl ?_
   refine Lf 2 rfl ?_
   refine Lf 2 rfl ?_
   refine WL.callw0 [_,_,_] _ [blk b13 (.cells #[.int .i64 0,.int .i64 ((c0+cntN [m.nm]+cntN m.uses+noteM ((decide (3<m.uses.length)||decide (10<m.decls.length))||decide (6<m.procs.length))+declsC m.decls+procsC m.procs+cntB m.main 1).f:Int),.int .i64 ((c0+cntN [m.nm]+cntN m.uses+noteM ((decide (3<m.uses.length)||decide (10<m.decls.length))||decide (6<m.procs.length))+declsC m.decls+procsC m.procs+cntB m.main 1).m:Int),.int .i64 0,.int .i64 ((c0+cntN [m.nm]+cntN m.uses+noteM ((decide (3<m.uses.length)||decide (10<m.decls.length))||decide (6<m.procs.length))+declsC m.decls+procsC m.procs+cntB m.main 1).k:Int),.int .i64 0,.int .i64 0,.int .i64 0,.int .i64 0,.int .i64 0,.map (some be),.map (some bs)] 76 (0,0)),blk be (gobj kI (exprsK 9) 15),blk bs (gobj kI stmtsK 7)] (.inl rfl) rfl en42 rfl rfl [H] (by simp) (fun w hw=>vblock_any b13 be bs H ke ks (m.main) r.a4 r.c4 1 (c0+cntN [m.nm]+cntN m.uses+noteM ((decide (3<m.uses.length)||decide (10<m.decls.length))||decide (6<m.procs.length))+declsC m.decls+procsC m.procs) w hm.main (by omega) hw) ?_
   refine Ln (Et (Cs (Cs (Cr ?_))))
   refine V0 (yl_builda zr85 ar85 rfl rfl) ?_
   refine V0 (Ym rfl) ?_
   refine Ln (Et (Cb ?_))
   refine CK (ι:=Nat) (fun i=>[(94,.int .i64 (i:Int))]) [(3,_),(93,_)] (fun i=>Ws w [] [blk b13 (.cells #[.int .i64 0,.int .i64 ((c0+cntN [m.nm]+cntN m.uses+noteM ((decide (3<m.uses.length)||decide (10<m.decls.length))||decide (6<m.procs.length))+declsC m.decls+procsC m.procs+cntB m.main 1).f:Int),.int .i64 ((c0+cntN [m.nm]+cntN m.uses+noteM ((decide (3<m.uses.length)||decide (10<m.decls.length))||decide (6<m.procs.length))+declsC m.decls+procsC m.procs+cntB m.main 1).m:Int),.int .i64 0,.int .i64 ((c0+cntN [m.nm]+cntN m.uses+noteM ((decide (3<m.uses.length)||decide (10<m.decls.length))||decide (6<m.procs.length))+declsC m.decls+procsC m.procs+cntB m.main 1).k:Int),.int .i64 0,.int .i64 0,.int .i64 0,.int .i64 0,.int .i64 0,.map (some be),.map (some bs)] 76 (0,0)),blk be (gobj kI (exprsK 9) 15),blk bs (gobj kI stmtsK 7),blk b1 (.cells (modV m r).toArray 39 (0,0))] [H]) (fun i=>i≤3∧∀j,j<i→cE (c0+cntN [m.nm]+cntN m.uses+noteM ((decide (3<m.uses.length)||decide (10<m.decls.length))||decide (6<m.procs.length))+declsC m.decls+procsC m.procs+cntB m.main 1) j=0) (fun i=>3-i) 0 ⟨Nat.zero_le _,by simp⟩ (sc rfl (sc rfl (sc rfl sn))) (fun _ h=>h) ?_
   intro i ⟨hi,hall⟩
   refine Cs (Cr ?_)
   refine V0 (yl_lt rfl rfl) ?_
   refine Ln (Et (Cs ?_))
   refine Cc rfl (fun hc2=>?_) (fun hc2=>?_)
   ·
    have hlt:i<3:=by simp at hc2; omega
    refine Ck (Et (Cs (Cb (Cs (Cr ?_)))))
    refine V0 (yl_ixa (i:=i) ara85 rfl rfl hlt (eN_get hlt)) ?_
    refine V0 (Ya rfl) ?_
    refine Ln (Et (Cs (Cr ?_)))
    refine V0 (Ym rfl) ?_
    refine V0 (Ym rfl) ?_
    refine V0 (yl_nil rfl) ?_
    refine V0 (Yf fo76_0 rfl) ?_
    refine V0 (yl_iar (i:=eN i) ar74 rfl rfl (eN_lt i)) ?_
    refine V0 (Yd 0 rfl rfl (found_get hlt) na3) ?_
    refine V0 (yl_gt rfl rfl) ?_
    refine Ln (Et ?_)
    refine Cc rfl (fun hc3=>?_) (fun hc3=>?_)
    ·
     have hpos:0<cE (c0+cntN [m.nm]+cntN m.uses+noteM ((decide (3<m.uses.length)||decide (10<m.decls.length))||decide (6<m.procs.length))+declsC m.decls+procsC m.procs+cntB m.main 1) i:=by simpa using hc3
     refine Cs (Cr ?_)
     refine V0 (Ym rfl) ?_
     refine V0 (Ya rfl) ?_
     refine Ln (Et (Crt (Ebr (Er (Er ?_)))))
     refine Ebr (Er ?_)
     refine WE.ret1 rfl rfl fun w' hw=>?_
     refine ⟨?_,hw.fr⟩
     rw [err_at hlt hall hpos,show c0+cntN [m.nm]+cntN m.uses+noteM ((decide (3<m.uses.length)||decide (10<m.decls.length))||decide (6<m.procs.length))+declsC m.decls+procsC m.procs+cntB m.main 1=modC m by rw [modC,c0_add]]
     rfl
    ·
     have hzero:cE (c0+cntN [m.nm]+cntN m.uses+noteM ((decide (3<m.uses.length)||decide (10<m.decls.length))||decide (6<m.procs.length))+declsC m.decls+procsC m.procs+cntB m.main 1) i=0:=by simp at hc3; omega
     refine Ck (Eb (Et (Cr ?_)))
     refine V0 (Yi rfl rfl rfl (by omega)) ?_
     refine V0 (Ym rfl) ?_
     refine Ln ?_
     exact Ea (i+1) (by omega) ⟨by omega,fun j hj=>by rcases Nat.lt_succ_iff_lt_or_eq.1 hj with h | rfl; exact hall j h; exact hzero⟩ (sc rfl (sc rfl (sc rfl sn))) (fun _ h=>h)
   ·
    have hge3:¬i<3:=by simp at hc2; omega
    refine Ce (Ex (Ex (Ebh (Et (Cs ?_)))))
    refine Cr ?_
    refine V0 (Ya rfl) ?_
    refine Ln (Et (Crt ?_))
    refine WE.ret1 rfl rfl fun w' hw=>?_
    refine ⟨?_,hw.fr⟩
    rw [checkM,show modC m=c0+cntN [m.nm]+cntN m.uses+noteM ((decide (3<m.uses.length)||decide (10<m.decls.length))||decide (6<m.procs.length))+declsC m.decls+procsC m.procs+cntB m.main 1 by rw [modC,c0_add],err_none fun j hj=>hall j (by omega)]
end Go.Proofs.Ytinnlppbkhhoiaa
end
section
namespace Go.Proofs.Ytinnlppbkhhoiaa
open Go.Bw
set_option linter.unusedVariables false
set_option linter.unusedSimpArgs false
structure TOk (l:Tk):Prop where
 all:AllOk l
 len:l.length≤4096
end Go.Proofs.Ytinnlppbkhhoiaa
end
section
namespace Go.Proofs.Ytinnlppbkhhoiaa
open Go.Bw
set_option linter.unusedVariables false
set_option linter.unusedSimpArgs false
abbrev XE:=TExpr×Option Addr×Nat
def XE.cells (e:XE):List Value:=exprV e.1 e.2.1 e.2.2
theorem XE.cells_len (e:XE):(XE.cells e).length=5:=rfl
def XEs (J:View) (f:Nat) (es:List XE):Prop:=∀e ∈ es,Sl (RdE f) 5 J e.2.1 e.2.2 e.1.args
theorem XEs.nil (J:View) (f:Nat):XEs J f []:=by intro e h; simp at h
theorem XEs.snoc {J J1 J2:View} {f:Nat} {es:List XE} {e:XE} (h:XEs J f es) (h1:VLe J J2) (h2:VLe J1 J2) (he:Sl (RdE f) 5 J1 e.2.1 e.2.2 e.1.args):XEs J2 f (es++[e]):=by
 intro x hx
 rcases List.mem_append.1 hx with hx | hx
 · exact (h x hx).imp fun b o y hy=>RdE_mono h1 (Nat.le_refl _) b o y hy
 · rw [List.mem_singleton] at hx
   subst hx
   exact he.imp fun b o y hy=>RdE_mono h2 (Nat.le_refl _) b o y hy
theorem slE_mv {H N:View} {f c:Nat} {a:Option Addr} {l:List TExpr} (h:Sl (RdE f) 5 H a c l) (hv:VLe H N):Sl (RdE f) 5 N a c l:=h.imp fun b o y hy=>RdE_mono hv (Nat.le_refl _) b o y hy
structure GA where
 es:List XE
 a:Option Addr
 c:Nat
 J:View
 r:Option Addr×Nat
 q:Tk
end Go.Proofs.Ytinnlppbkhhoiaa
end
section
namespace Go.Proofs.Ytinnlppbkhhoiaa
open Go.Bw
set_option linter.unusedVariables false
set_option linter.unusedSimpArgs false
structure SAt where
 s1:Option Addr×Nat
 s2:Option Addr×Nat
 s3:Option Addr×Nat
abbrev SX:=TStmt×SAt
def SX.cells (e:SX):List Value:=stmtV e.1 e.2.s1.1 e.2.s1.2 e.2.s2.1 e.2.s2.2 e.2.s3.1 e.2.s3.2
theorem SX.cells_len (e:SX):(SX.cells e).length=6:=rfl
structure SlS (f:Nat) (N:View) (x:TStmt) (p:SAt):Prop where
 args:Sl (RdE 7) 5 N p.s1.1 p.s1.2 x.args
 body:Sl (RdS 7 f) 6 N p.s2.1 p.s2.2 x.body
 other:Sl (RdS 7 f) 6 N p.s3.1 p.s3.2 x.other
theorem slS_mv {H N:View} {f c:Nat} {a:Option Addr} {l:List TStmt} (h:Sl (RdS 7 f) 6 H a c l) (hv:VLe H N):Sl (RdS 7 f) 6 N a c l:=h.imp fun b o y hy=>RdS_mono hv (Nat.le_refl _) (Nat.le_refl _) b o y hy
theorem SlS.mv {f:Nat} {H N:View} {x:TStmt} {p:SAt} (h:SlS f H x p) (hv:VLe H N):SlS f N x p:=⟨slE_mv h.args hv,slS_mv h.body hv,slS_mv h.other hv⟩
def SXs (J:View) (f:Nat) (es:List SX):Prop:=∀e ∈ es,SlS f J e.1 e.2
theorem SXs.nil (J:View) (f:Nat):SXs J f []:=by intro e h; simp at h
theorem SXs.snoc {J J1 J2:View} {f:Nat} {es:List SX} {e:SX} (h:SXs J f es) (h1:VLe J J2) (h2:VLe J1 J2) (he:SlS f J1 e.1 e.2):SXs J2 f (es++[e]):=by
 intro x hx
 rcases List.mem_append.1 hx with hx | hx
 · exact (h x hx).mv h1
 · rw [List.mem_singleton] at hx
   subst hx
   exact he.mv h2
structure GS where
 es:List SX
 a:Option Addr
 c:Nat
 J:View
 r:Option Addr×Nat
 q:Tk
end Go.Proofs.Ytinnlppbkhhoiaa
end
section
namespace Go.Proofs.Ytinnlppbkhhoiaa
open Go.Bw
set_option linter.unusedVariables false
set_option linter.unusedSimpArgs false
structure PAt where
 s1:Option Addr×Nat
 s2:Option Addr×Nat
 s3:Option Addr×Nat
abbrev PX:=TProc×PAt
def PX.cells (e:PX):List Value:=procV e.1 e.2.s1.1 e.2.s1.2 e.2.s2.1 e.2.s2.2 e.2.s3.1 e.2.s3.2
theorem PX.cells_len (e:PX):(PX.cells e).length=5:=rfl
structure SlP (N:View) (x:TProc) (p:PAt):Prop where
 params:Sl rdStr 1 N p.s1.1 p.s1.2 x.params
 locs:Sl rdStr 1 N p.s2.1 p.s2.2 x.locs
 body:Sl (RdS 7 6) 6 N p.s3.1 p.s3.2 x.body
theorem slStr_mv {H N:View} {c:Nat} {a:Option Addr} {l:List Tx} (h:Sl rdStr 1 H a c l) (hv:VLe H N):Sl rdStr 1 N a c l:=h.imp fun b o y hy=>rdStr_mono hv b o y hy
theorem SlP.mv {H N:View} {x:TProc} {p:PAt} (h:SlP H x p) (hv:VLe H N):SlP N x p:=⟨slStr_mv h.params hv,slStr_mv h.locs hv,slS_mv h.body hv⟩
def PXs (J:View) (es:List PX):Prop:=∀e ∈ es,SlP J e.1 e.2
theorem PXs.nil (J:View):PXs J []:=by intro e h; simp at h
theorem PXs.snoc {J J1 J2:View} {es:List PX} {e:PX} (h:PXs J es) (h1:VLe J J2) (h2:VLe J1 J2) (he:SlP J1 e.1 e.2):PXs J2 (es++[e]):=by
 intro x hx
 rcases List.mem_append.1 hx with hx | hx
 · exact (h x hx).mv h1
 · rw [List.mem_singleton] at hx
   subst hx
   exact he.mv h2
structure GN where
 ps:List Tx
 a:Option Addr
 c:Nat
 r:Option Addr×Nat
 q:Tk
structure GD where
 ds:List TDecl
 a:Option Addr
 c:Nat
 pub:Bool
 r:Option Addr×Nat
 q:Tk
structure GM where
 ps:List PX
 a:Option Addr
 c:Nat
 J:View
 pub:Bool
 r:Option Addr×Nat
 q:Tk
end Go.Proofs.Ytinnlppbkhhoiaa
end
section
namespace Go.Proofs.Ytinnlppbkhhoiaa
open Go.Bw
set_option linter.unusedVariables false
set_option linter.unusedSimpArgs false
structure GU where
 us:List Tx
 a:Option Addr
 c:Nat
 r:Option Addr×Nat
 q:Tk
end Go.Proofs.Ytinnlppbkhhoiaa
end
section
namespace Go.Proofs.Ytinnlppbkhhoiaa
open Go.Bw
set_option linter.unusedVariables false
set_option linter.unusedSimpArgs false
theorem lookE_eq (x:TExpr) (lv d:Nat):lookE x lv d=if 6<d then lv==2 else lvE lv x.op x.n x.mod x.nm x.args.length||lookEs x.args lv (d+1):=by cases x; rw [lookE]; rfl
theorem lookS_eq (x:TStmt) (lv d:Nat):lookS x lv d=((lvS lv x.op x.mod x.nm x.args.length x.body.length x.other.length||lookEs x.args lv 1)
     || (((inner x.op||decide (0<x.body.length))&&lookB x.body lv (d+1))||(decide (0<x.other.length)&&lookB x.other lv (d+1)))):=by cases x; rw [lookS]; rfl
theorem lookEs_any (lv d:Nat):∀l:List TExpr,lookEs l lv d=l.any fun x=>lookE x lv d
 | []=>rfl
 | x::r=>by rw [lookEs,lookEs_any lv d r,List.any_cons]
theorem lookSs_any (lv d:Nat):∀l:List TStmt,lookSs l lv d=l.any fun x=>lookS x lv d
 | []=>rfl
 | x::r=>by rw [lookSs,lookSs_any lv d r,List.any_cons]
theorem words_no {s:Tx} (h:∀j,j<wordsL.length→wordsL[j]?≠some s):wordsL.contains s=false:=by
 rw [Bool.eq_false_iff]
 intro hc
 rw [List.contains_iff_mem] at hc
 obtain ⟨j,hj⟩:=List.getElem?_of_mem hc
 exact h j (List.getElem?_eq_some_iff.1 hj).1 hj
theorem en83:Enters Try.prog 83:=enters_of Try.func83 (by kernel_rfl) rfl
theorem en84:Enters Try.prog 84:=enters_of Try.func84 (by kernel_rfl) rfl
theorem en73:Enters Try.prog 73:=enters_of Try.func73 (by kernel_rfl) rfl
theorem words_any (w:World) :
   Calls Try.prog 83 #[] w fun e w'=>∃r:Option Addr×Nat,e = .returned (.slice r.1 wordsL.length r.2)∧Ext w w'∧Sl rdStr 1 (nv w w') r.1 r.2 wordsL:=by
 refine enter Try.func83 rfl 2 rfl rfl ?_
 refine CWd (W':=Ws w [] [] []) (fun _ e=>by subst e; exact Ws.init (by simp)) ?_
 refine Cs (Cr ?_)
 refine V0 (Ya rfl) ?_
 refine Ln (Et (Cs (Cr ?_)))
 refine Lb (.inl rfl) rfl el27 rfl rfl rfl rfl fun b1=>?_
 refine V0 (Ya rfl) ?_
 refine Ln (Et (Crt ?_))
 refine WE.retR (rs_1 rfl (rv_tmp rfl)) fun w' hw=>?_
 exact ⟨(some ⟨b1,0,none⟩,15),rfl,hw.fr,⟨show wordsL.length≤15 by decide,show 15≤9223372036854775807 by decide,by simp,fun j x hj=>⟨b1,0,rfl,fun k v hk=>hw.nvc 0 rfl (by
     have:k<1:=(List.getElem?_eq_some_iff.1 hk).1
     show (wordsL.flatMap strC)[0+j*1+k]? = some v
     rw [Nat.zero_add,flat_get strC_len hj this]; exact hk)⟩⟩⟩
theorem isNAME_any (s:Tx) (w:World) :
   Calls Try.prog 73 #[st s] w fun e w'=>e = .returned (.bool (nameT s))∧Ext w w':=by
 refine enter Try.func73 rfl 20 rfl rfl ?_
 refine CWd (W':=Ws w [] [] []) (fun _ e=>by subst e; exact Ws.init (by simp)) ?_
 refine Cs (Cr ?_)
 refine V0 (Ya rfl) ?_
 refine Ln (Et (Cs (Cr ?_)))
 refine Ld (.inl rfl) rfl en83 rfl (fun r:Option Addr×Nat=>.slice r.1 wordsL.length r.2) (fun H r=>Sl rdStr 1 H r.1 r.2 wordsL) (fun w hw=>words_any w) ?_
 intro F5 r5 hf5 h5
 have hwl:wordsL.length=15:=rfl
 refine V0 (Ya rfl) ?_
 refine Ln (Et (Cs (Cs (Cr ?_))))
 refine V0 (Ya rfl) ?_
 refine Ln (Et (Cb ?_))
 refine CW (ι:=Nat) (fun i=>[(4,.int .i64 (i:Int))]) [(0,_),(3,_)] (fun i=>i≤wordsL.length∧∀j,j<i→wordsL[j]?≠some s) (fun i=>wordsL.length-i) 0 ⟨Nat.zero_le _,by simp⟩ (sc rfl (sc rfl (sc rfl sn))) ?_
 intro i ⟨hi,hall⟩
 refine Cs (Cs (Cr ?_))
 refine V0 (Ym rfl) ?_
 refine V0 (Ym rfl) ?_
 refine V0 (Yn es27 rfl) ?_
 refine V0 (yl_lt rfl rfl) ?_
 refine Ln (Et ?_)
 refine Cc rfl (fun hc0=>?_) (fun hc0=>?_)
 ·
  have hlt:i<wordsL.length:=by simpa using hc0
  obtain ⟨x,hxi⟩:∃x,wordsL[i]? = some x:=⟨_,List.getElem?_eq_getElem hlt⟩
  obtain ⟨pbx,pox,ha,hrow⟩:=h5.elt i x hxi
  have hrow:RdC F5 pbx (pox+i*1) (strC x):=hrow
  refine Ck (Et (Cs (Cb (Cs (Cr ?_)))))
  refine V0 (Ym rfl) ?_
  refine V0 (Ym rfl) ?_
  refine V0 (Yo es27 rfl rfl (by assumption) (by omega)) ?_
  refine V0 (yl_ld 0 na9 rfl rfl (hrow 0 _ rfl)) ?_
  refine V0 (Ym rfl) ?_
  refine V0 (yl_eqs rfl rfl) ?_
  refine Ln (Et ?_)
  refine Cc rfl (fun hc1=>?_) (fun hc1=>?_)
  ·
   have heq:x=s:=by simpa using hc1
   refine Cs (Cr ?_)
   refine V0 (Ya rfl) ?_
   refine Ln (Et (Crt (Ebr (Er (Er ?_)))))
   refine Ebr (Er ?_)
   refine WE.ret1 rfl rfl fun w' hw=>?_
   refine ⟨?_,hw.fr⟩
   rw [nameT,List.contains_iff_mem.2 (by rw [←heq]; exact List.mem_of_getElem? hxi)]
   simp
  ·
   have hne:¬x=s:=by simpa using hc1
   refine Ck (Eb (Et (Cr ?_)))
   refine V0 (Ym rfl) ?_
   refine V0 (Yi rfl rfl rfl (by omega)) ?_
   refine V0 (Ya rfl) ?_
   refine Ln ?_
   exact Ea (i+1) (by omega) ⟨by omega,fun j hj=>by rcases Nat.lt_succ_iff_lt_or_eq.1 hj with h | rfl; exact hall j h; rw [hxi]; intro e; injection e with e; exact hne e⟩ (sc rfl (sc rfl (sc rfl sn))) (fun _ h=>h)
 ·
  have hge:¬i<wordsL.length:=by simpa using hc0
  refine Ce (Ex (Ex (Ebh (Et (Cs ?_)))))
  refine Cr ?_
  refine V0 (Ym rfl) ?_
  refine Lp (.inl rfl) rfl en84 rfl (fun w hw=>isName_any s w) ?_
  refine V0 (Ya rfl) ?_
  refine Ln (Et (Crt ?_))
  refine WE.ret1 rfl rfl fun w' hw=>?_
  refine ⟨?_,hw.fr⟩
  rw [nameT,words_no fun j hj=>hall j (by omega)]
  simp
theorem refFine_any (mod nm:Tx) (w:World) :
   Calls Try.prog 92 #[st mod,st nm] w fun e w'=>e = .returned (.bool (refFineT mod nm))∧Ext w w':=by
 refine enter Try.func92 rfl 15 rfl rfl ?_
 refine CWd (W':=Ws w [] [] []) (fun _ e=>by subst e; exact Ws.init (by simp)) ?_
 refine Cs (Cr ?_)
 refine V0 (Ya rfl) ?_
 refine Ln (Et (Cs (Cr ?_)))
 refine V0 (Ym rfl) ?_
 refine V0 (yl_eqs rfl rfl) ?_
 refine V0 (Ym rfl) ?_
 apply WL.or 2 rfl rfl rfl rfl (.inl rfl) rfl rfl rfl rfl rfl
 ·
  intro hg0
  refine Lv (.g rfl rfl rfl) rfl (Ym rfl) ?_
  refine Lp (.g rfl rfl rfl) rfl en73 rfl (fun w hw=>isNAME_any _ w) ?_
  exact Gt 2 rfl rfl rfl
 refine V0 (Ym rfl) ?_
 apply WL.and 2 rfl rfl rfl rfl (.inl rfl) rfl rfl rfl rfl rfl
 ·
  intro hg1
  refine Lv (.g rfl rfl rfl) rfl (Ym rfl) ?_
  refine Lp (.g rfl rfl rfl) rfl en73 rfl (fun w hw=>isNAME_any _ w) ?_
  exact Gt 2 rfl rfl rfl
 refine V0 (Ya rfl) ?_
 refine Ln (Et (Crt ?_))
 refine WE.ret1 rfl rfl fun w' hw=>?_
 exact ⟨rfl,hw.fr⟩
theorem exprArgs_any (op:Int) (w:World) :
   Calls Try.prog 96 #[.int .i64 op] w fun e w'=>e = .returned (.int .i64 (exprArgsT op))∧Ext w w':=by
 refine enter Try.func96 rfl 13 rfl rfl ?_
 refine CWd (W':=Ws w [] [] []) (fun _ e=>by subst e; exact Ws.init (by simp)) ?_
 refine Cs (Cr ?_)
 refine V0 (Ya rfl) ?_
 refine Ln (Et (Cs (Cs (Cr ?_))))
 refine V0 (Ym rfl) ?_
 refine Ln (Et (Cb (Cs (Cs (Cr ?_)))))
 refine V0 (yl_eq rfl rfl) ?_
 refine V0 (Ya rfl) ?_
 refine Ln (Et ?_)
 refine Cc rfl (fun hc0=>?_) (fun hc0=>?_)
 ·
  refine Ck (Et ?_)
  refine Cc rfl (fun hc2=>?_) (fun hc2=>?_)
  ·
   refine Cs (Cr ?_)
   refine V0 (Ya rfl) ?_
   refine Ln (Et (Crt (Ebr (Er ?_))))
   refine WE.ret1 rfl rfl fun w' hw=>?_
   simp at hc0 hc2
   exact ⟨by unfold exprArgsT; (repeat' split)<;>first | rfl | (exfalso; omega),hw.fr⟩
  ·
   refine Cs (Cs (Cr ?_))
   refine V0 (yl_eq rfl rfl) ?_
   refine V0 (Ya rfl) ?_
   refine Ln (Et ?_)
   refine Cc rfl (fun hc3=>?_) (fun hc3=>?_)
   ·
    refine Ck (Et ?_)
    refine Cc rfl (fun hc4=>?_) (fun hc4=>?_)
    ·
     refine Cs (Cr ?_)
     refine V0 (Ya rfl) ?_
     refine Ln (Et (Crt (Ebr (Er ?_))))
     refine WE.ret1 rfl rfl fun w' hw=>?_
     simp at hc0 hc2 hc3 hc4
     exact ⟨by unfold exprArgsT; (repeat' split)<;>first | rfl | (exfalso; omega),hw.fr⟩
    ·
     refine Cs (Cr ?_)
     refine V0 (yl_eq rfl rfl) ?_
     refine V0 (Ya rfl) ?_
     refine Ln (Et ?_)
     refine Cc rfl (fun hc5=>?_) (fun hc5=>?_)
     ·
      refine Cs (Cr ?_)
      refine V0 (Ya rfl) ?_
      refine Ln (Et (Crt (Ebr (Er ?_))))
      refine WE.ret1 rfl rfl fun w' hw=>?_
      simp at hc0 hc2 hc3 hc4 hc5
      exact ⟨by unfold exprArgsT; (repeat' split)<;>first | rfl | (exfalso; omega),hw.fr⟩
     ·
      refine Ck (Eb (Et (Cs (Cr ?_))))
      refine V0 (Ya rfl) ?_
      refine Ln (Et (Crt ?_))
      refine WE.ret1 rfl rfl fun w' hw=>?_
      simp at hc0 hc2 hc3 hc4 hc5
      exact ⟨by unfold exprArgsT; (repeat' split)<;>first | rfl | (exfalso; omega),hw.fr⟩
   ·
    refine Cr ?_
    refine V0 (yl_eq rfl rfl) ?_
    refine V0 (Ya rfl) ?_
    refine Ln (Et ?_)
    refine Cc rfl (fun hc4=>?_) (fun hc4=>?_)
    ·
     refine Cs (Cr ?_)
     refine V0 (Ya rfl) ?_
     refine Ln (Et (Crt (Ebr (Er ?_))))
     refine WE.ret1 rfl rfl fun w' hw=>?_
     simp at hc0 hc2 hc3 hc4
     exact ⟨by unfold exprArgsT; (repeat' split)<;>first | rfl | (exfalso; omega),hw.fr⟩
    ·
     refine Cs (Cr ?_)
     refine V0 (yl_eq rfl rfl) ?_
     refine V0 (Ya rfl) ?_
     refine Ln (Et ?_)
     refine Cc rfl (fun hc5=>?_) (fun hc5=>?_)
     ·
      refine Cs (Cr ?_)
      refine V0 (Ya rfl) ?_
      refine Ln (Et (Crt (Ebr (Er ?_))))
      refine WE.ret1 rfl rfl fun w' hw=>?_
      simp at hc0 hc2 hc3 hc4 hc5
      exact ⟨by unfold exprArgsT; (repeat' split)<;>first | rfl | (exfalso; omega),hw.fr⟩
     ·
      refine Ck (Eb (Et (Cs (Cr ?_))))
      refine V0 (Ya rfl) ?_
      refine Ln (Et (Crt ?_))
      refine WE.ret1 rfl rfl fun w' hw=>?_
      simp at hc0 hc2 hc3 hc4 hc5
      exact ⟨by unfold exprArgsT; (repeat' split)<;>first | rfl | (exfalso; omega),hw.fr⟩
 ·
  refine Cs (Cr ?_)
  refine V0 (yl_eq rfl rfl) ?_
  refine V0 (Ya rfl) ?_
  refine Ln (Et ?_)
  refine Cc rfl (fun hc1=>?_) (fun hc1=>?_)
  ·
   refine Ck (Et ?_)
   refine Cc rfl (fun hc2=>?_) (fun hc2=>?_)
   ·
    refine Cs (Cr ?_)
    refine V0 (Ya rfl) ?_
    refine Ln (Et (Crt (Ebr (Er ?_))))
    refine WE.ret1 rfl rfl fun w' hw=>?_
    simp at hc0 hc1 hc2
    exact ⟨by unfold exprArgsT; (repeat' split)<;>first | rfl | (exfalso; omega),hw.fr⟩
   ·
    refine Cs (Cs (Cr ?_))
    refine V0 (yl_eq rfl rfl) ?_
    refine V0 (Ya rfl) ?_
    refine Ln (Et ?_)
    refine Cc rfl (fun hc3=>?_) (fun hc3=>?_)
    ·
     refine Ck (Et ?_)
     refine Cc rfl (fun hc4=>?_) (fun hc4=>?_)
     ·
      refine Cs (Cr ?_)
      refine V0 (Ya rfl) ?_
      refine Ln (Et (Crt (Ebr (Er ?_))))
      refine WE.ret1 rfl rfl fun w' hw=>?_
      simp at hc0 hc1 hc2 hc3 hc4
      exact ⟨by unfold exprArgsT; (repeat' split)<;>first | rfl | (exfalso; omega),hw.fr⟩
     ·
      refine Cs (Cr ?_)
      refine V0 (yl_eq rfl rfl) ?_
      refine V0 (Ya rfl) ?_
      refine Ln (Et ?_)
      refine Cc rfl (fun hc5=>?_) (fun hc5=>?_)
      ·
       refine Cs (Cr ?_)
       refine V0 (Ya rfl) ?_
       refine Ln (Et (Crt (Ebr (Er ?_))))
       refine WE.ret1 rfl rfl fun w' hw=>?_
       simp at hc0 hc1 hc2 hc3 hc4 hc5
       exact ⟨by unfold exprArgsT; (repeat' split)<;>first | rfl | (exfalso; omega),hw.fr⟩
      ·
       refine Ck (Eb (Et (Cs (Cr ?_))))
       refine V0 (Ya rfl) ?_
       refine Ln (Et (Crt ?_))
       refine WE.ret1 rfl rfl fun w' hw=>?_
       simp at hc0 hc1 hc2 hc3 hc4 hc5
       exact ⟨by unfold exprArgsT; (repeat' split)<;>first | rfl | (exfalso; omega),hw.fr⟩
    ·
     refine Cr ?_
     refine V0 (yl_eq rfl rfl) ?_
     refine V0 (Ya rfl) ?_
     refine Ln (Et ?_)
     refine Cc rfl (fun hc4=>?_) (fun hc4=>?_)
     ·
      refine Cs (Cr ?_)
      refine V0 (Ya rfl) ?_
      refine Ln (Et (Crt (Ebr (Er ?_))))
      refine WE.ret1 rfl rfl fun w' hw=>?_
      simp at hc0 hc1 hc2 hc3 hc4
      exact ⟨by unfold exprArgsT; (repeat' split)<;>first | rfl | (exfalso; omega),hw.fr⟩
     ·
      refine Cs (Cr ?_)
      refine V0 (yl_eq rfl rfl) ?_
      refine V0 (Ya rfl) ?_
      refine Ln (Et ?_)
      refine Cc rfl (fun hc5=>?_) (fun hc5=>?_)
      ·
       refine Cs (Cr ?_)
       refine V0 (Ya rfl) ?_
       refine Ln (Et (Crt (Ebr (Er ?_))))
       refine WE.ret1 rfl rfl fun w' hw=>?_
       simp at hc0 hc1 hc2 hc3 hc4 hc5
       exact ⟨by unfold exprArgsT; (repeat' split)<;>first | rfl | (exfalso; omega),hw.fr⟩
      ·
       refine Ck (Eb (Et (Cs (Cr ?_))))
       refine V0 (Ya rfl) ?_
       refine Ln (Et (Crt ?_))
       refine WE.ret1 rfl rfl fun w' hw=>?_
       simp at hc0 hc1 hc2 hc3 hc4 hc5
       exact ⟨by unfold exprArgsT; (repeat' split)<;>first | rfl | (exfalso; omega),hw.fr⟩
  ·
   refine Cr ?_
   refine V0 (yl_eq rfl rfl) ?_
   refine V0 (Ya rfl) ?_
   refine Ln (Et ?_)
   refine Cc rfl (fun hc2=>?_) (fun hc2=>?_)
   ·
    refine Cs (Cr ?_)
    refine V0 (Ya rfl) ?_
    refine Ln (Et (Crt (Ebr (Er ?_))))
    refine WE.ret1 rfl rfl fun w' hw=>?_
    simp at hc0 hc1 hc2
    exact ⟨by unfold exprArgsT; (repeat' split)<;>first | rfl | (exfalso; omega),hw.fr⟩
   ·
    refine Cs (Cs (Cr ?_))
    refine V0 (yl_eq rfl rfl) ?_
    refine V0 (Ya rfl) ?_
    refine Ln (Et ?_)
    refine Cc rfl (fun hc3=>?_) (fun hc3=>?_)
    ·
     refine Ck (Et ?_)
     refine Cc rfl (fun hc4=>?_) (fun hc4=>?_)
     ·
      refine Cs (Cr ?_)
      refine V0 (Ya rfl) ?_
      refine Ln (Et (Crt (Ebr (Er ?_))))
      refine WE.ret1 rfl rfl fun w' hw=>?_
      simp at hc0 hc1 hc2 hc3 hc4
      exact ⟨by unfold exprArgsT; (repeat' split)<;>first | rfl | (exfalso; omega),hw.fr⟩
     ·
      refine Cs (Cr ?_)
      refine V0 (yl_eq rfl rfl) ?_
      refine V0 (Ya rfl) ?_
      refine Ln (Et ?_)
      refine Cc rfl (fun hc5=>?_) (fun hc5=>?_)
      ·
       refine Cs (Cr ?_)
       refine V0 (Ya rfl) ?_
       refine Ln (Et (Crt (Ebr (Er ?_))))
       refine WE.ret1 rfl rfl fun w' hw=>?_
       simp at hc0 hc1 hc2 hc3 hc4 hc5
       exact ⟨by unfold exprArgsT; (repeat' split)<;>first | rfl | (exfalso; omega),hw.fr⟩
      ·
       refine Ck (Eb (Et (Cs (Cr ?_))))
       refine V0 (Ya rfl) ?_
       refine Ln (Et (Crt ?_))
       refine WE.ret1 rfl rfl fun w' hw=>?_
       simp at hc0 hc1 hc2 hc3 hc4 hc5
       exact ⟨by unfold exprArgsT; (repeat' split)<;>first | rfl | (exfalso; omega),hw.fr⟩
    ·
     refine Cr ?_
     refine V0 (yl_eq rfl rfl) ?_
     refine V0 (Ya rfl) ?_
     refine Ln (Et ?_)
     refine Cc rfl (fun hc4=>?_) (fun hc4=>?_)
     ·
      refine Cs (Cr ?_)
      refine V0 (Ya rfl) ?_
      refine Ln (Et (Crt (Ebr (Er ?_))))
      refine WE.ret1 rfl rfl fun w' hw=>?_
      simp at hc0 hc1 hc2 hc3 hc4
      exact ⟨by unfold exprArgsT; (repeat' split)<;>first | rfl | (exfalso; omega),hw.fr⟩
     ·
      refine Cs (Cr ?_)
      refine V0 (yl_eq rfl rfl) ?_
      refine V0 (Ya rfl) ?_
      refine Ln (Et ?_)
      refine Cc rfl (fun hc5=>?_) (fun hc5=>?_)
      ·
       refine Cs (Cr ?_)
       refine V0 (Ya rfl) ?_
       refine Ln (Et (Crt (Ebr (Er ?_))))
       refine WE.ret1 rfl rfl fun w' hw=>?_
       simp at hc0 hc1 hc2 hc3 hc4 hc5
       exact ⟨by unfold exprArgsT; (repeat' split)<;>first | rfl | (exfalso; omega),hw.fr⟩
      ·
       refine Ck (Eb (Et (Cs (Cr ?_))))
       refine V0 (Ya rfl) ?_
       refine Ln (Et (Crt ?_))
       refine WE.ret1 rfl rfl fun w' hw=>?_
       simp at hc0 hc1 hc2 hc3 hc4 hc5
       exact ⟨by unfold exprArgsT; (repeat' split)<;>first | rfl | (exfalso; omega),hw.fr⟩
theorem stmtArgs_any (op:Int) (w:World) :
   Calls Try.prog 93 #[.int .i64 op] w fun e w'=>e = .returned (.int .i64 (stmtArgsT op))∧Ext w w':=by
 refine enter Try.func93 rfl 8 rfl rfl ?_
 refine CWd (W':=Ws w [] [] []) (fun _ e=>by subst e; exact Ws.init (by simp)) ?_
 refine Cs (Cr ?_)
 refine V0 (Ya rfl) ?_
 refine Ln (Et (Cs (Cs (Cr ?_))))
 refine V0 (Ym rfl) ?_
 refine Ln (Et (Cb (Cs (Cr ?_))))
 refine V0 (yl_eq rfl rfl) ?_
 refine V0 (Ya rfl) ?_
 refine Ln (Et ?_)
 refine Cc rfl (fun hc0=>?_) (fun hc0=>?_)
 ·
  refine Cs (Cr ?_)
  refine V0 (Ya rfl) ?_
  refine Ln (Et (Crt (Ebr (Er ?_))))
  refine WE.ret1 rfl rfl fun w' hw=>?_
  simp at hc0
  exact ⟨by unfold stmtArgsT; (repeat' split)<;>first | rfl | (exfalso; omega),hw.fr⟩
 ·
  refine Cs (Cr ?_)
  refine V0 (yl_eq rfl rfl) ?_
  refine V0 (Ya rfl) ?_
  refine Ln (Et ?_)
  refine Cc rfl (fun hc1=>?_) (fun hc1=>?_)
  ·
   refine Cs (Cr ?_)
   refine V0 (Ya rfl) ?_
   refine Ln (Et (Crt (Ebr (Er ?_))))
   refine WE.ret1 rfl rfl fun w' hw=>?_
   simp at hc0 hc1
   exact ⟨by unfold stmtArgsT; (repeat' split)<;>first | rfl | (exfalso; omega),hw.fr⟩
  ·
   refine Ck (Eb (Et (Cs (Cr ?_))))
   refine V0 (Ya rfl) ?_
   refine Ln (Et (Crt ?_))
   refine WE.ret1 rfl rfl fun w' hw=>?_
   simp at hc0 hc1
   exact ⟨by unfold stmtArgsT; (repeat' split)<;>first | rfl | (exfalso; omega),hw.fr⟩
theorem exprRef_any (op:Int) (w:World) :
   Calls Try.prog 95 #[.int .i64 op] w fun e w'=>e = .returned (.bool (within_ op 3 5))∧Ext w w':=by
 refine enter Try.func95 rfl 5 rfl rfl ?_
 refine CWd (W':=Ws w [] [] []) (fun _ e=>by subst e; exact Ws.init (by simp)) ?_
 refine Cs (Cr ?_)
 refine V0 (Ya rfl) ?_
 refine Ln (Et (Cs (Cr ?_)))
 refine V0 (Ym rfl) ?_
 refine Lp (.inl rfl) rfl en74 rfl (fun w hw=>within_any _ _ _ w) ?_
 refine V0 (Ya rfl) ?_
 refine Ln (Et (Crt ?_))
 refine WE.ret1 rfl rfl fun w' hw=>?_
 exact ⟨rfl,hw.fr⟩
theorem stmtRef_any (op:Int) (w:World) :
   Calls Try.prog 91 #[.int .i64 op] w fun e w'=>e = .returned (.bool (within_ op 1 3))∧Ext w w':=by
 refine enter Try.func91 rfl 5 rfl rfl ?_
 refine CWd (W':=Ws w [] [] []) (fun _ e=>by subst e; exact Ws.init (by simp)) ?_
 refine Cs (Cr ?_)
 refine V0 (Ya rfl) ?_
 refine Ln (Et (Cs (Cr ?_)))
 refine V0 (Ym rfl) ?_
 refine Lp (.inl rfl) rfl en74 rfl (fun w hw=>within_any _ _ _ w) ?_
 refine V0 (Ya rfl) ?_
 refine Ln (Et (Crt ?_))
 refine WE.ret1 rfl rfl fun w' hw=>?_
 exact ⟨rfl,hw.fr⟩
end Go.Proofs.Ytinnlppbkhhoiaa
end
section
namespace Go.Proofs.Ytinnlppbkhhoiaa
open Go.Bw
set_option linter.unusedVariables false
set_option linter.unusedSimpArgs false
theorem lv_eq (lv:Nat) (k:Nat):((lv:Int)==(k:Int))=(lv==k):=by rw [Bool.eq_iff_iff]; simp; omega
theorem any_at {α:Type} {p:α→Bool} {l:List α} {i:Nat} {x:α} (h:l[i]? = some x) (hp:p x=true):l.any p=true:=any_true h hp
theorem en94:Enters Try.prog 94:=enters_of Try.func94 (by kernel_rfl) rfl
theorem en95:Enters Try.prog 95:=enters_of Try.func95 (by kernel_rfl) rfl
theorem en92:Enters Try.prog 92:=enters_of Try.func92 (by kernel_rfl) rfl
theorem en96:Enters Try.prog 96:=enters_of Try.func96 (by kernel_rfl) rfl
theorem exprLook_any (H:View) (k:Nat) (x:TExpr) (a:Option Addr) (n lv d:Nat) (w:World) (hH:Le H w) (hlv:1≤lv∧lv≤3) (hd0:d≤7) (hm:Sl (RdE k) 5 H a n x.args) :
   Calls Try.prog 94 #[.agg #[.int .i64 x.op,.int .i64 x.n,st x.mod,st x.nm,.slice a x.args.length n],.int .i64 (lv:Int),.int .i64 (d:Int)] w fun e w'=>e = .returned (.bool (lookE x lv d))∧Ext w w':=by
 induction k using Nat.strongRecOn generalizing x a n d w
 rename_i k ih
 have hcap:=hm.cap
 have hmax:=hm.max
 refine enter Try.func94 rfl 106 rfl rfl ?_
 refine CWd (W':=Ws w [] [] [H]) (fun _ e=>by subst e; exact Ws.init (by simp [hH])) ?_
 refine Cs (Cr ?_)
 refine WL.box (.inl rfl) rfl rfl fun b3=>?_
 refine V0 (Ya rfl) ?_
 refine Ln (Et (Cs (Cs (Cr ?_))))
 refine V0 (Ym rfl) ?_
 refine V0 (yl_gt rfl rfl) ?_
 refine Ln (Et ?_)
 refine Cc rfl (fun hc0=>?_) (fun hc0=>?_)
 ·
  have hd:6<d:=by simp at hc0; omega
  refine Cs (Cr ?_)
  refine V0 (Ym rfl) ?_
  refine V0 (yl_eq rfl rfl) ?_
  refine V0 (Ya rfl) ?_
  refine Ln (Et (Crt (Er ?_)))
  refine WE.ret1 rfl rfl fun w' hw=>?_
  exact ⟨by rw [lookE_eq,if_pos hd,←lv_eq]; rfl,hw.fr⟩
 ·
  have hd:¬6<d:=by simp at hc0; omega
  have hE:lookE x lv d=(lvE lv x.op x.n x.mod x.nm x.args.length||lookEs x.args lv (d+1)):=by rw [lookE_eq,if_neg hd]
  refine Ck (Et (Cs (Cs (Cr ?_))))
  refine V0 (Ym rfl) ?_
  refine Ln (Et (Cb (Cs (Cr ?_))))
  refine V0 (yl_eq rfl rfl) ?_
  refine V0 (Ya rfl) ?_
  refine Ln (Et ?_)
  refine Cc rfl (fun hc1=>?_) (fun hc1=>?_)
  ·
   have hl:lv=1:=by simp at hc1; omega
   subst hl
   refine Cs (Cr ?_)
   refine V0 (Yf fo108_0 rfl) ?_
   refine V0 (Yd 0 rfl rfl rfl na3) ?_
   refine Lp (.inl rfl) rfl en74 rfl (fun w hw=>within_any _ _ _ w) ?_
   refine V0 (yl_not rfl) ?_
   refine Ln (Et ?_)
   refine Cc rfl (fun hc2=>?_) (fun hc2=>?_)
   ·
    have hy:lvE 1 x.op x.n x.mod x.nm x.args.length=true:=hc2
    refine Cs (Cr ?_)
    refine V0 (Ya rfl) ?_
    refine Ln (Et (Crt (Ebr (Er ?_))))
    refine WE.ret1 rfl rfl fun w' hw=>?_
    exact ⟨by rw [hE,hy]; rfl,hw.fr⟩
   ·
    have hno:lvE 1 x.op x.n x.mod x.nm x.args.length=false:=hc2
    refine Ck (Eb (Et (Cs (Cs (Cr ?_)))))
    refine V0 (Ya rfl) ?_
    refine Ln (Et (Cb ?_))
    refine CW (ι:=Nat) (fun i=>[(7,.int .i64 (i:Int))]) [(1,_),(2,_),(3,_)] (fun i=>i≤x.args.length∧∀j y,j<i→x.args[j]? = some y→lookE y 1 (d+1)=false) (fun i=>x.args.length-i) 0 ⟨Nat.zero_le _,by simp⟩ (sc rfl (sc rfl (sc rfl (sc rfl sn)))) ?_
    intro i ⟨hi,hall⟩
    refine Cs (Cs (Cr ?_))
    refine V0 (Ym rfl) ?_
    refine V0 (Yf fo108_4 rfl) ?_
    refine V0 (Yd 0 rfl rfl rfl na102) ?_
    refine V0 (Yn es102 rfl) ?_
    refine V0 (yl_lt rfl rfl) ?_
    refine Ln (Et ?_)
    refine Cc rfl (fun hc7=>?_) (fun hc7=>?_)
    ·
     have hlt:i<x.args.length:=by simpa using hc7
     obtain ⟨y,hyi⟩:∃q,x.args[i]? = some q:=⟨_,List.getElem?_eq_getElem hlt⟩
     obtain ⟨pby,poy,hay,hry⟩:=hm.elt i y hyi
     obtain ⟨k2,rfl⟩:∃k2,k=k2+1:=by
       cases k with
       | zero=>exact hry.elim
       | succ k2=>exact ⟨k2,rfl⟩
     obtain ⟨ya,yn,hrow,hsub⟩:=hry
     refine Ck (Et (Cs (Cb (Cs (Cr ?_)))))
     refine V0 (Yf fo108_4 rfl) ?_
     refine V0 (Yd 0 rfl rfl rfl na102) ?_
     refine V0 (Ym rfl) ?_
     refine V0 (Yo es102 rfl rfl hay (by omega)) ?_
     refine V0 (yl_lda 0 ag108 rfl rfl rfl (hrow)) ?_
     refine V0 (Ym rfl) ?_
     refine V0 (Ym rfl) ?_
     refine V0 (Yi rfl rfl rfl (by omega)) ?_
     refine Lp (.inl rfl) rfl en94 rfl (fun w hw=>by
         have:=ih k2 (by omega) y ya yn (d+1) w (hw.vs _ (by simp)) (by omega) hsub
         exact this) ?_
     refine Ln (Et ?_)
     refine Cc rfl (fun hc8=>?_) (fun hc8=>?_)
     ·
      refine Cs (Cr ?_)
      refine V0 (Ya rfl) ?_
      refine Ln (Et (Crt (Ebr (Er (Er ?_)))))
      refine Ebr (Er ?_)
      refine WE.ret1 rfl rfl fun w' hw=>?_
      exact ⟨by rw [hE,lookEs_any,any_at hyi hc8,Bool.or_true],hw.fr⟩
     ·
      refine Ck (Eb (Et (Cr ?_)))
      refine V0 (Ym rfl) ?_
      refine V0 (Yi rfl rfl rfl (by omega)) ?_
      refine V0 (Ya rfl) ?_
      refine Ln ?_
      exact Ea (i+1) (by omega) ⟨by omega,fun j z hj hz=>by rcases Nat.lt_succ_iff_lt_or_eq.1 hj with h | rfl; exact hall j z h hz; rw [hyi] at hz; injection hz with hz; subst hz; exact hc8⟩ (sc rfl (sc rfl (sc rfl (sc rfl sn)))) (fun _ h=>h)
    ·
     have hge:¬i<x.args.length:=by simpa using hc7
     have hnn:lookEs x.args 1 (d+1)=false:=by rw [lookEs_any]; exact any_false fun j y hj=>hall j y (by have:=(List.getElem?_eq_some_iff.1 hj).1; omega) hj
     refine Ce (Ex (Ex (Ebh (Et (Cs ?_)))))
     refine Cr ?_
     refine V0 (Ya rfl) ?_
     refine Ln (Et (Crt ?_))
     refine WE.ret1 rfl rfl fun w' hw=>?_
     exact ⟨by rw [hE,hno,hnn]; rfl,hw.fr⟩
  ·
   have hl1:¬lv=1:=by simp at hc1; omega
   refine Cs (Cr ?_)
   refine V0 (yl_eq rfl rfl) ?_
   refine V0 (Ya rfl) ?_
   refine Ln (Et ?_)
   refine Cc rfl (fun hc3=>?_) (fun hc3=>?_)
   ·
    have hl:lv=2:=by simp at hc3; omega
    subst hl
    refine Cs (Cr ?_)
    refine V0 (Yf fo108_4 rfl) ?_
    refine V0 (Yd 0 rfl rfl rfl na102) ?_
    refine V0 (Yn es102 rfl) ?_
    refine V0 (yl_gt rfl rfl) ?_
    rw [int_lt3]
    refine Ln (Et ?_)
    refine Cc rfl (fun hc4=>?_) (fun hc4=>?_)
    ·
     have hy:lvE 2 x.op x.n x.mod x.nm x.args.length=true:=hc4
     refine Cs (Cr ?_)
     refine V0 (Ya rfl) ?_
     refine Ln (Et (Crt (Ebr (Er ?_))))
     refine WE.ret1 rfl rfl fun w' hw=>?_
     exact ⟨by rw [hE,hy]; rfl,hw.fr⟩
    ·
     have hno:lvE 2 x.op x.n x.mod x.nm x.args.length=false:=hc4
     refine Ck (Eb (Et (Cs (Cs (Cr ?_)))))
     refine V0 (Ya rfl) ?_
     refine Ln (Et (Cb ?_))
     refine CW (ι:=Nat) (fun i=>[(7,.int .i64 (i:Int))]) [(1,_),(2,_),(3,_)] (fun i=>i≤x.args.length∧∀j y,j<i→x.args[j]? = some y→lookE y 2 (d+1)=false) (fun i=>x.args.length-i) 0 ⟨Nat.zero_le _,by simp⟩ (sc rfl (sc rfl (sc rfl (sc rfl sn)))) ?_
     intro i ⟨hi,hall⟩
     refine Cs (Cs (Cr ?_))
     refine V0 (Ym rfl) ?_
     refine V0 (Yf fo108_4 rfl) ?_
     refine V0 (Yd 0 rfl rfl rfl na102) ?_
     refine V0 (Yn es102 rfl) ?_
     refine V0 (yl_lt rfl rfl) ?_
     refine Ln (Et ?_)
     refine Cc rfl (fun hc7=>?_) (fun hc7=>?_)
     ·
      have hlt:i<x.args.length:=by simpa using hc7
      obtain ⟨y,hyi⟩:∃q,x.args[i]? = some q:=⟨_,List.getElem?_eq_getElem hlt⟩
      obtain ⟨pby,poy,hay,hry⟩:=hm.elt i y hyi
      obtain ⟨k2,rfl⟩:∃k2,k=k2+1:=by
        cases k with
        | zero=>exact hry.elim
        | succ k2=>exact ⟨k2,rfl⟩
      obtain ⟨ya,yn,hrow,hsub⟩:=hry
      refine Ck (Et (Cs (Cb (Cs (Cr ?_)))))
      refine V0 (Yf fo108_4 rfl) ?_
      refine V0 (Yd 0 rfl rfl rfl na102) ?_
      refine V0 (Ym rfl) ?_
      refine V0 (Yo es102 rfl rfl hay (by omega)) ?_
      refine V0 (yl_lda 0 ag108 rfl rfl rfl (hrow)) ?_
      refine V0 (Ym rfl) ?_
      refine V0 (Ym rfl) ?_
      refine V0 (Yi rfl rfl rfl (by omega)) ?_
      refine Lp (.inl rfl) rfl en94 rfl (fun w hw=>by
          have:=ih k2 (by omega) y ya yn (d+1) w (hw.vs _ (by simp)) (by omega) hsub
          exact this) ?_
      refine Ln (Et ?_)
      refine Cc rfl (fun hc8=>?_) (fun hc8=>?_)
      ·
       refine Cs (Cr ?_)
       refine V0 (Ya rfl) ?_
       refine Ln (Et (Crt (Ebr (Er (Er ?_)))))
       refine Ebr (Er ?_)
       refine WE.ret1 rfl rfl fun w' hw=>?_
       exact ⟨by rw [hE,lookEs_any,any_at hyi hc8,Bool.or_true],hw.fr⟩
      ·
       refine Ck (Eb (Et (Cr ?_)))
       refine V0 (Ym rfl) ?_
       refine V0 (Yi rfl rfl rfl (by omega)) ?_
       refine V0 (Ya rfl) ?_
       refine Ln ?_
       exact Ea (i+1) (by omega) ⟨by omega,fun j z hj hz=>by rcases Nat.lt_succ_iff_lt_or_eq.1 hj with h | rfl; exact hall j z h hz; rw [hyi] at hz; injection hz with hz; subst hz; exact hc8⟩ (sc rfl (sc rfl (sc rfl (sc rfl sn)))) (fun _ h=>h)
     ·
      have hge:¬i<x.args.length:=by simpa using hc7
      have hnn:lookEs x.args 2 (d+1)=false:=by rw [lookEs_any]; exact any_false fun j y hj=>hall j y (by have:=(List.getElem?_eq_some_iff.1 hj).1; omega) hj
      refine Ce (Ex (Ex (Ebh (Et (Cs ?_)))))
      refine Cr ?_
      refine V0 (Ya rfl) ?_
      refine Ln (Et (Crt ?_))
      refine WE.ret1 rfl rfl fun w' hw=>?_
      exact ⟨by rw [hE,hno,hnn]; rfl,hw.fr⟩
   ·
    have hl2:¬lv=2:=by simp at hc3; omega
    refine Cs (Cr ?_)
    refine V0 (yl_eq rfl rfl) ?_
    refine V0 (Ya rfl) ?_
    refine Ln (Et ?_)
    refine Cc rfl (fun hc5=>?_) (fun hc5=>?_)
    ·
     have hl:lv=3:=by simp at hc5; omega
     subst hl
     refine Cs ?_
     refine WC.draws0 [(0,true),(1,true),(2,false),(3,true),(4,true),(5,true),(6,true),(7,true),(8,false),(9,true),(10,true),(11,true),(12,true),(13,true),(14,false),(15,true),(16,true),(17,true),(18,true),(19,true),(20,true),(21,true),(22,true),(23,true),(24,true),(25,true),(26,true),(27,true),(28,true),(29,true),(30,true),(31,true),(32,true),(33,true),(34,false),(35,true),(36,true),(37,true),(38,true),(39,true),(40,true),(41,true),(42,true),(43,true),(44,true),(45,true),(46,true),(47,true),(48,true),(49,true),(50,true),(51,false),(52,true),(53,true),(54,true),(55,true),(56,true),(57,true),(58,true),(59,false),(60,true),(61,true),(62,true)] mixed (by kernel_rfl) (fun _ _ _ d _ h=>by cases d<;>exact h) ?_
     refine Dq rfl (.inl rfl) rfl (fun _ h=>h) (Yf fo108_0 rfl) ?_
     refine Dq rfl (.inl rfl) rfl (fun _ h=>h) (Yd 0 rfl rfl rfl na3) ?_
     refine De rfl (fun _ h=>h) ?_
     refine Lp (.inl rfl) rfl en95 rfl (fun w hw=>exprRef_any _ w) ?_
     refine Ln (Ed ?_)
     refine Dq rfl (.inl rfl) rfl (fun _ h=>h) (Ym rfl) ?_
     apply WD.and 6 rfl rfl rfl rfl rfl (.inl rfl) rfl (fun _ h=>h) rfl rfl rfl rfl
     ·
      intro hg0
      refine Dq rfl (.g rfl rfl rfl) rfl (fun _ h=>h) (Yf fo108_2 rfl) ?_
      refine Dq rfl (.g rfl rfl rfl) rfl (fun _ h=>h) (Yd 0 rfl rfl rfl na9) ?_
      refine Dq rfl (.g rfl rfl rfl) rfl (fun _ h=>h) (Yf fo108_3 rfl) ?_
      refine Dq rfl (.g rfl rfl rfl) rfl (fun _ h=>h) (Yd 0 rfl rfl rfl na9) ?_
      refine De rfl (fun _ h=>h) ?_
      refine Lp (.g rfl rfl rfl) rfl en92 rfl (fun w hw=>refFine_any _ _ w) ?_
      refine Ln (Ed ?_)
      refine Dq rfl (.g rfl rfl rfl) rfl (fun _ h=>h) (yl_not rfl) ?_
      exact Gi 6 (fun _ h=>h) rfl rfl rfl
     refine Dq rfl (.inl rfl) rfl (fun _ h=>h) (Ym rfl) ?_
     apply WD.or 14 (x:=(!within_ x.op 3 5&&(!(x.mod==[])||!(x.nm==[])))) rfl rfl rfl rfl rfl (.inl rfl) rfl (fun _ h=>h) rfl rfl rfl rfl
     ·
      intro hg1
      refine Dq rfl (.g rfl rfl rfl) rfl (fun _ h=>h) (Yf fo108_0 rfl) ?_
      refine Dq rfl (.g rfl rfl rfl) rfl (fun _ h=>h) (Yd 0 rfl rfl rfl na3) ?_
      refine De rfl (fun _ h=>h) ?_
      refine Lp (.g rfl rfl rfl) rfl en95 rfl (fun w hw=>exprRef_any _ w) ?_
      refine Ln (Ed ?_)
      refine Dq rfl (.g rfl rfl rfl) rfl (fun _ h=>h) (yl_not rfl) ?_
      refine Dq rfl (.g rfl rfl rfl) rfl (fun _ h=>h) (Ym rfl) ?_
      apply WD.and 8 rfl rfl rfl rfl rfl (.g rfl rfl rfl) rfl (fun _ h=>h) rfl rfl rfl rfl
      ·
       intro hg2
       refine Dq rfl (.g rfl rfl rfl) rfl (fun _ h=>h) (Yf fo108_2 rfl) ?_
       refine Dq rfl (.g rfl rfl rfl) rfl (fun _ h=>h) (Yd 0 rfl rfl rfl na9) ?_
       refine Dq rfl (.g rfl rfl rfl) rfl (fun _ h=>h) (yl_nes rfl rfl) ?_
       refine Dq rfl (.g rfl rfl rfl) rfl (fun _ h=>h) (Ym rfl) ?_
       apply WD.or 3 rfl rfl rfl rfl rfl (.g rfl rfl rfl) rfl (fun _ h=>h) rfl rfl rfl rfl
       ·
        intro hg3
        refine Dq rfl (.g rfl rfl rfl) rfl (fun _ h=>h) (Yf fo108_3 rfl) ?_
        refine Dq rfl (.g rfl rfl rfl) rfl (fun _ h=>h) (Yd 0 rfl rfl rfl na9) ?_
        refine Dq rfl (.g rfl rfl rfl) rfl (fun _ h=>h) (yl_nes rfl rfl) ?_
        exact Gi 3 (fun _ h=>h) rfl rfl rfl
       exact Gi 5 (fun _ h=>h) rfl rfl rfl
      exact Gi 6 (fun _ h=>h) rfl rfl rfl
     refine Dq rfl (.inl rfl) rfl (fun _ h=>h) (Ym rfl) ?_
     apply WD.or 9 rfl rfl rfl rfl rfl (.inl rfl) rfl (fun _ h=>h) rfl rfl rfl rfl
     ·
      intro hg4
      refine Dq rfl (.g rfl rfl rfl) rfl (fun _ h=>h) (Yf fo108_0 rfl) ?_
      refine Dq rfl (.g rfl rfl rfl) rfl (fun _ h=>h) (Yd 0 rfl rfl rfl na3) ?_
      refine Dq rfl (.g rfl rfl rfl) rfl (fun _ h=>h) (yl_eq rfl rfl) ?_
      refine Dq rfl (.g rfl rfl rfl) rfl (fun _ h=>h) (Ym rfl) ?_
      apply WD.and 4 rfl rfl rfl rfl rfl (.g rfl rfl rfl) rfl (fun _ h=>h) rfl rfl rfl rfl
      ·
       intro hg5
       refine Dq rfl (.g rfl rfl rfl) rfl (fun _ h=>h) (Yf fo108_1 rfl) ?_
       refine Dq rfl (.g rfl rfl rfl) rfl (fun _ h=>h) (Yd 0 rfl rfl rfl na3) ?_
       refine De rfl (fun _ h=>h) ?_
       refine Lp (.g rfl rfl rfl) rfl en74 rfl (fun w hw=>within_any _ _ _ w) ?_
       refine Ln (Ed ?_)
       refine Dq rfl (.g rfl rfl rfl) rfl (fun _ h=>h) (yl_not rfl) ?_
       exact Gi 4 (fun _ h=>h) rfl rfl rfl
      exact Gi 5 (fun _ h=>h) rfl rfl rfl
     refine Dq rfl (.inl rfl) rfl (fun _ h=>h) (Ym rfl) ?_
     apply WD.or 8 rfl rfl rfl rfl rfl (.inl rfl) rfl (fun _ h=>h) rfl rfl rfl rfl
     ·
      intro hg6
      refine Dq rfl (.g rfl rfl rfl) rfl (fun _ h=>h) (Yf fo108_0 rfl) ?_
      refine Dq rfl (.g rfl rfl rfl) rfl (fun _ h=>h) (Yd 0 rfl rfl rfl na3) ?_
      refine Dq rfl (.g rfl rfl rfl) rfl (fun _ h=>h) (yl_ne rfl rfl) ?_
      refine Dq rfl (.g rfl rfl rfl) rfl (fun _ h=>h) (Ym rfl) ?_
      apply WD.and 3 rfl rfl rfl rfl rfl (.g rfl rfl rfl) rfl (fun _ h=>h) rfl rfl rfl rfl
      ·
       intro hg7
       refine Dq rfl (.g rfl rfl rfl) rfl (fun _ h=>h) (Yf fo108_1 rfl) ?_
       refine Dq rfl (.g rfl rfl rfl) rfl (fun _ h=>h) (Yd 0 rfl rfl rfl na3) ?_
       refine Dq rfl (.g rfl rfl rfl) rfl (fun _ h=>h) (yl_ne rfl rfl) ?_
       exact Gi 3 (fun _ h=>h) rfl rfl rfl
      exact Gi 5 (fun _ h=>h) rfl rfl rfl
     refine Dq rfl (.inl rfl) rfl (fun _ h=>h) (Ym rfl) ?_
     apply WD.or 13 rfl rfl rfl rfl rfl (.inl rfl) rfl (fun _ h=>h) rfl rfl rfl rfl
     ·
      intro hg8
      refine Dq rfl (.g rfl rfl rfl) rfl (fun _ h=>h) (Yf fo108_0 rfl) ?_
      refine Dq rfl (.g rfl rfl rfl) rfl (fun _ h=>h) (Yd 0 rfl rfl rfl na3) ?_
      refine De rfl (fun _ h=>h) ?_
      refine Lp (.g rfl rfl rfl) rfl en96 rfl (fun w hw=>exprArgs_any _ w) ?_
      refine Ln (Ed ?_)
      refine Dq rfl (.g rfl rfl rfl) rfl (fun _ h=>h) (yl_ge rfl rfl) ?_
      refine Dq rfl (.g rfl rfl rfl) rfl (fun _ h=>h) (Ym rfl) ?_
      apply WD.and 7 rfl rfl rfl rfl rfl (.g rfl rfl rfl) rfl (fun _ h=>h) rfl rfl rfl rfl
      ·
       intro hg9
       refine Dq rfl (.g rfl rfl rfl) rfl (fun _ h=>h) (Yf fo108_4 rfl) ?_
       refine Dq rfl (.g rfl rfl rfl) rfl (fun _ h=>h) (Yd 0 rfl rfl rfl na102) ?_
       refine Dq rfl (.g rfl rfl rfl) rfl (fun _ h=>h) (Yn es102 rfl) ?_
       refine Dq rfl (.g rfl rfl rfl) rfl (fun _ h=>h) (Yf fo108_0 rfl) ?_
       refine Dq rfl (.g rfl rfl rfl) rfl (fun _ h=>h) (Yd 0 rfl rfl rfl na3) ?_
       refine De rfl (fun _ h=>h) ?_
       refine Lp (.g rfl rfl rfl) rfl en96 rfl (fun w hw=>exprArgs_any _ w) ?_
       refine Ln (Ed ?_)
       refine Dq rfl (.g rfl rfl rfl) rfl (fun _ h=>h) (yl_ne rfl rfl) ?_
       exact Gi 7 (fun _ h=>h) rfl rfl rfl
      exact Gi 6 (fun _ h=>h) rfl rfl rfl
     refine WD.nil (fun _ h=>h) ?_
     refine Et ?_
     refine Cc rfl (fun hc6=>?_) (fun hc6=>?_)
     ·
      have hy:lvE 3 x.op x.n x.mod x.nm x.args.length=true:=hc6
      refine Cs (Cr ?_)
      refine V0 (Ya rfl) ?_
      refine Ln (Et (Crt (Ebr (Er ?_))))
      refine WE.ret1 rfl rfl fun w' hw=>?_
      exact ⟨by rw [hE,hy]; rfl,hw.fr⟩
     ·
      have hno:lvE 3 x.op x.n x.mod x.nm x.args.length=false:=hc6
      refine Ck (Eb (Et (Cs (Cs (Cr ?_)))))
      refine V0 (Ya rfl) ?_
      refine Ln (Et (Cb ?_))
      refine CW (ι:=Nat) (fun i=>[(7,.int .i64 (i:Int))]) [(1,_),(2,_),(3,_)] (fun i=>i≤x.args.length∧∀j y,j<i→x.args[j]? = some y→lookE y 3 (d+1)=false) (fun i=>x.args.length-i) 0 ⟨Nat.zero_le _,by simp⟩ (sc rfl (sc rfl (sc rfl (sc rfl sn)))) ?_
      intro i ⟨hi,hall⟩
      refine Cs (Cs (Cr ?_))
      refine V0 (Ym rfl) ?_
      refine V0 (Yf fo108_4 rfl) ?_
      refine V0 (Yd 0 rfl rfl rfl na102) ?_
      refine V0 (Yn es102 rfl) ?_
      refine V0 (yl_lt rfl rfl) ?_
      refine Ln (Et ?_)
      refine Cc rfl (fun hc7=>?_) (fun hc7=>?_)
      ·
       have hlt:i<x.args.length:=by simpa using hc7
       obtain ⟨y,hyi⟩:∃q,x.args[i]? = some q:=⟨_,List.getElem?_eq_getElem hlt⟩
       obtain ⟨pby,poy,hay,hry⟩:=hm.elt i y hyi
       obtain ⟨k2,rfl⟩:∃k2,k=k2+1:=by
         cases k with
         | zero=>exact hry.elim
         | succ k2=>exact ⟨k2,rfl⟩
       obtain ⟨ya,yn,hrow,hsub⟩:=hry
       refine Ck (Et (Cs (Cb (Cs (Cr ?_)))))
       refine V0 (Yf fo108_4 rfl) ?_
       refine V0 (Yd 0 rfl rfl rfl na102) ?_
       refine V0 (Ym rfl) ?_
       refine V0 (Yo es102 rfl rfl hay (by omega)) ?_
       refine V0 (yl_lda 0 ag108 rfl rfl rfl (hrow)) ?_
       refine V0 (Ym rfl) ?_
       refine V0 (Ym rfl) ?_
       refine V0 (Yi rfl rfl rfl (by omega)) ?_
       refine Lp (.inl rfl) rfl en94 rfl (fun w hw=>by
           have:=ih k2 (by omega) y ya yn (d+1) w (hw.vs _ (by simp)) (by omega) hsub
           exact this) ?_
       refine Ln (Et ?_)
       refine Cc rfl (fun hc8=>?_) (fun hc8=>?_)
       ·
        refine Cs (Cr ?_)
        refine V0 (Ya rfl) ?_
        refine Ln (Et (Crt (Ebr (Er (Er ?_)))))
        refine Ebr (Er ?_)
        refine WE.ret1 rfl rfl fun w' hw=>?_
        exact ⟨by rw [hE,lookEs_any,any_at hyi hc8,Bool.or_true],hw.fr⟩
       ·
        refine Ck (Eb (Et (Cr ?_)))
        refine V0 (Ym rfl) ?_
        refine V0 (Yi rfl rfl rfl (by omega)) ?_
        refine V0 (Ya rfl) ?_
        refine Ln ?_
        exact Ea (i+1) (by omega) ⟨by omega,fun j z hj hz=>by rcases Nat.lt_succ_iff_lt_or_eq.1 hj with h | rfl; exact hall j z h hz; rw [hyi] at hz; injection hz with hz; subst hz; exact hc8⟩ (sc rfl (sc rfl (sc rfl (sc rfl sn)))) (fun _ h=>h)
      ·
       have hge:¬i<x.args.length:=by simpa using hc7
       have hnn:lookEs x.args 3 (d+1)=false:=by rw [lookEs_any]; exact any_false fun j y hj=>hall j y (by have:=(List.getElem?_eq_some_iff.1 hj).1; omega) hj
       refine Ce (Ex (Ex (Ebh (Et (Cs ?_)))))
       refine Cr ?_
       refine V0 (Ya rfl) ?_
       refine Ln (Et (Crt ?_))
       refine WE.ret1 rfl rfl fun w' hw=>?_
       exact ⟨by rw [hE,hno,hnn]; rfl,hw.fr⟩
    ·
     exact (show False by simp at hc5; omega).elim
end Go.Proofs.Ytinnlppbkhhoiaa
end
