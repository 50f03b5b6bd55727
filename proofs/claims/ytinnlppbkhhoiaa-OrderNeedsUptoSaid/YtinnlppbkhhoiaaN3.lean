/- What a module needs is all that it uses and what those use, and no more, where what is handed in has a bulk of at most 1048576 (the second form). -/
import Derived.JoinedCond
import Derived.OpenShut
import Derived.ProofKit
import Derived.Test.YtinnlppbkhhoiaaRows
import Derived.WalkKit
import Derived.Test.YtinnlppbkhhoiaaN2
set_option linter.unusedVariables false
set_option linter.unusedSimpArgs false
section
namespace Go.Proofs.Ytinnlppbkhhoiaa
open Go.Bw
set_option linter.unusedVariables false
set_option linter.unusedSimpArgs false
open Go.ChangeShapes Go.WideShapes Go.ChangeAt Go.RowKit Go.Joins Go.Deep
theorem own:ownKnob Try.prog.godebug=none:=by kernel_rfl
theorem laidOut:laidOutB Try.prog=true:=by kernel_rfl
theorem modTy:∃e s d p m,ModTy Try.prog 108 104 80 83 39 102 37 35 36 27 e s d p m 3 4 9:=⟨_,_,_,_,_,⟨Try.underlying3,Try.underlying4,Try.underlying9,(by kernel_rfl),Try.underlying108,(by kernel_rfl),(by simp),Try.underlying102,Try.underlying104,(by kernel_rfl),(by simp),Try.underlying37,Try.underlying80,(by kernel_rfl),(by simp),Try.underlying35,Try.underlying83,(by kernel_rfl),(by simp),Try.underlying36,Try.underlying27,Try.underlying39,(by kernel_rfl),(by simp)⟩⟩
def bulkOf (H:Type):Bulk H:=⟨Rows.uptoBulk,Rows.uptoBulkAll,fun l=>by simp [Rows.uptoBulk],fun l=>by simp [Rows.uptoBulk],fun l r=>by simp only [Rows.uptoBulk]; omega,by simp [Rows.uptoBulkAll],fun d r=>by simp [Rows.uptoBulkAll]⟩
end Go.Proofs.Ytinnlppbkhhoiaa
end
section
namespace Go.Bw
open Go
set_option linter.unusedVariables false
set_option linter.unusedSimpArgs false
structure Ren (l l':List TMod) (f:Nat→Nat):Prop where
 len:l'.length=l.length
 inv:∀k,f (f k)=k
 lt:∀k,k<l.length→f k<l.length
 get:∀k,k<l.length→l'[f k]? = l[k]?
theorem Ren.nm {l l':List TMod} {f:Nat→Nat} (h:Ren l l' f) {k:Nat} (hk:k<l.length):nmAt l' (f k)=nmAt l k:=by unfold nmAt; rw [h.get k hk]
theorem Ren.us {l l':List TMod} {f:Nat→Nat} (h:Ren l l' f) {k:Nat} (hk:k<l.length):usesAt l' (f k)=usesAt l k:=by unfold usesAt; rw [h.get k hk]
theorem Ren.back {l l':List TMod} {f:Nat→Nat} (h:Ren l l' f):Ren l' l f:=⟨h.len.symm,h.inv,fun k hk=>by rw [h.len] at hk ⊢; exact h.lt k hk,fun k hk=>by
 rw [h.len] at hk
 have:=h.get (f k) (h.lt k hk)
 rw [h.inv] at this
 exact this.symm⟩
theorem Ren.mem {l l':List TMod} {f:Nat→Nat} (h:Ren l l' f) {m:TMod} (hm:m ∈ l):m ∈ l':=by
 obtain ⟨k,hk⟩:=List.getElem?_of_mem hm
 have hlt:=(List.getElem?_eq_some_iff.1 hk).1
 rw [←h.get k hlt] at hk
 exact List.mem_of_getElem? hk
theorem Ren.nodup {l l':List TMod} {f:Nat→Nat} (h:Ren l l' f) (hn:(namesL l).Nodup):(namesL l').Nodup:=by
 unfold List.Nodup
 rw [List.pairwise_iff_getElem]
 intro i j hi hj hij e
 rw [names_len] at hi hj
 have h1:nmAt l' i=nmAt l' j:=by
   have e1:=names_get (List.getElem?_eq_getElem hi)
   have e2:=names_get (List.getElem?_eq_getElem hj)
   rw [List.getElem?_eq_getElem (by rw [names_len]; exact hi)] at e1
   rw [List.getElem?_eq_getElem (by rw [names_len]; exact hj)] at e2
   injection e1 with e1
   injection e2 with e2
   rw [nmAt_get (List.getElem?_eq_getElem hi),nmAt_get (List.getElem?_eq_getElem hj),←e1,←e2,e]
 have hb:=h.back
 rw [←hb.nm hi,←hb.nm hj] at h1
 have h2:=nm_inj hn (by have:=hb.lt i hi; rw [h.len] at this; exact this) (by have:=hb.lt j hj; rw [h.len] at this; exact this) h1
 have h3:=congrArg f h2
 rw [h.inv,h.inv] at h3
 omega
theorem Ren.place {l l':List TMod} {f:Nat→Nat} (h:Ren l l' f) (hn:(namesL l).Nodup) {s:List UInt8} {p:Nat} (hp:placeL l s=some p):placeL l' s=some (f p):=by
 obtain ⟨h1,h2⟩:=placeL_at hp
 have h3:=place_nm (h.nodup hn) (i:=f p) (by rw [h.len]; exact h.lt p h1)
 rw [h.nm h1,h2] at h3
 exact h3
theorem Ren.ok {l l':List TMod} {f:Nat→Nat} (h:Ren l l' f) (ho:OrdOk l):OrdOk l':=
 ⟨by rw [h.len]; exact ho.few,fun m hm=>ho.mods m (h.back.mem hm),h.nodup ho.nd,fun m hm s hs=>by
   obtain ⟨p,hp⟩:=ho.uses m (h.back.mem hm) s hs
   exact ⟨f p,h.place ho.nd hp⟩⟩
theorem Ren.contains {l l':List TMod} {f:Nat→Nat} (h:Ren l l' f) (d:List Nat) (x:Nat):(d.map f).contains (f x)=d.contains x:=by
 rw [Bool.eq_iff_iff]
 simp only [List.contains_iff_mem,List.mem_map]
 constructor
 · rintro ⟨y,hy,e⟩
   have:=congrArg f e
   rw [h.inv,h.inv] at this
   rw [←this]; exact hy
 · exact fun hx=>⟨x,hx,rfl⟩
theorem Ren.ready {l l':List TMod} {f:Nat→Nat} (h:Ren l l' f) (ho:OrdOk l) (d:List Nat) {x:Nat} (hx:x<l.length):readyB l' (d.map f) (f x)=readyB l d x:=by
 unfold readyB
 rw [h.contains,h.us hx]
 congr 1
 have key:∀u:List (List UInt8),(∀s ∈ u,∃p,placeL l s=some p)→u.all (doneS l' (d.map f))=u.all (doneS l d):=by
   intro u
   induction u with
   | nil=>intro _; rfl
   | cons s r ih=>
     intro hu
     obtain ⟨p,hp⟩:=hu s (by simp)
     rw [List.all_cons,List.all_cons,ih fun s hs=>hu s (by simp [hs])]
     congr 1
     unfold doneS
     rw [hp,h.place ho.nd hp]
     exact h.contains d p
 refine key _ fun s hs=>?_
 rw [usesAt_get (List.getElem?_eq_getElem hx)] at hs
 exact ho.uses _ (List.getElem_mem hx) s hs
end Go.Bw
end
section
namespace Go.Bw
open Go
set_option linter.unusedVariables false
set_option linter.unusedSimpArgs false
def actN (l:List TMod) (nm:List UInt8) (ns:List (List UInt8)) (j:Nat):Prop:=nmAt l j=nm∨nmAt l j ∈ ns
def GotTo (l:List TMod) (nm:List UInt8) (ns:List (List UInt8)) (G:List Bool) (i:Nat):Prop:=∀j,j<i→actN l nm ns j→∀u ∈ usesAt l j,∀d:Nat,ns[d]? = some u→G[d]? = some true
theorem reach_inv {l:List TMod} {nm s:List UInt8} (h:Go.Bw.Reach l nm s):∃j,j<l.length∧(nmAt l j=nm∨Go.Bw.Reach l nm (nmAt l j))∧s ∈ usesAt l j:=by
 have key:∀b,s ∈ usesN l b→∃j,j<l.length∧nmAt l j=b∧s ∈ usesAt l j:=fun b hb=>by
   unfold usesN at hb
   split at hb
   · rename_i i hi
     exact ⟨i,(placeL_at hi).1,(placeL_at hi).2,hb⟩
   · simp at hb
 cases h with
 | base h=>
   obtain ⟨j,h1,h2,h3⟩:=key _ h
   exact ⟨j,h1,.inl h2,h3⟩
 | step hb h=>
   obtain ⟨j,h1,h2,h3⟩:=key _ h
   exact ⟨j,h1,.inr (by rw [h2]; exact hb),h3⟩
theorem got_all {l:List TMod} {nm:List UInt8} {ns:List (List UInt8)} {G:List Bool} (hm:∀s,s ∈ ns↔Go.Bw.Reach l nm s) (h:GotTo l nm ns G l.length) {d:Nat} {u:List UInt8} (hd:ns[d]? = some u):G[d]? = some true:=by
 obtain ⟨j,h1,h2,h3⟩:=reach_inv ((hm u).1 (List.mem_of_getElem? hd))
 exact h j h1 (h2.imp id fun h=>(hm _).2 h) u h3 d hd
theorem act_use {l:List TMod} (hn:(namesL l).Nodup) {nm:List UInt8} {ns:List (List UInt8)} (hm:∀s,s ∈ ns↔Go.Bw.Reach l nm s) {j:Nat} (hj:j<l.length) (ha:actN l nm ns j) {u:List UInt8} (hu:u ∈ usesAt l j):u ∈ ns:=by
 have hus:usesN l (nmAt l j)=usesAt l j:=by unfold usesN; rw [place_nm hn hj]
 rw [hm]
 rcases ha with ha | ha
 · exact .base (by rw [←ha,hus]; exact hu)
 · exact .step ((hm _).1 ha) (by rw [hus]; exact hu)
theorem reach_trans {l:List TMod} {a b c:List UInt8} (h1:Go.Bw.Reach l a b) (h2:Go.Bw.Reach l b c):Go.Bw.Reach l a c:=by
 induction h2 with
 | base h=>exact .step h1 h
 | step _ h ih=>exact .step ih h
theorem gotTo_next {l:List TMod} {nm:List UInt8} {ns:List (List UInt8)} {G:List Bool} {i:Nat} (h:GotTo l nm ns G i) (hi:actN l nm ns i→∀u ∈ usesAt l i,∀d:Nat,ns[d]? = some u→G[d]? = some true):GotTo l nm ns G (i+1):=fun j hj=>by
 rcases Nat.lt_succ_iff_lt_or_eq.1 hj with h2 | h2
 · exact h j h2
 · subst h2; exact hi
theorem gotTo_sub {l:List TMod} {nm:List UInt8} {ns:List (List UInt8)} {G G':List Bool} {i:Nat} (h:GotTo l nm ns G i) (hs:SubM G G'):GotTo l nm ns G' i:=fun j hj ha u hu d hd=>hs d (h j hj ha u hu d hd)
theorem subM_or {G:List Bool} {d:Nat} {y b:Bool} (hy:G[d]? = some y):SubM G (G.set d (y||b)):=fun j hj=>by
 have hlt:=(List.getElem?_eq_some_iff.1 hj).1
 rw [List.getElem?_set]
 by_cases e:d=j
 · subst e
   rw [hy] at hj
   injection hj with hj
   subst hj
   simp [hlt]
 · rw [if_neg e]; exact hj
theorem placed_need {l:List TMod} {nm:List UInt8} {r:List (List UInt8)×Int} (h:(¬orderE l=0∧r=([],orderE l))∨(orderE l=0∧placeL l nm=none∧r=([],5))∨(orderE l=0∧¬placeL l nm=none∧∃ns,r=(ns,0)∧SortedT ns∧∀s,s ∈ ns↔Go.Bw.Reach l nm s)) (h0:r.2=0) :
   orderE l=0∧¬placeL l nm=none∧r=(r.1,0)∧SortedT r.1∧∀s,s ∈ r.1↔Go.Bw.Reach l nm s:=by
 rcases h with ⟨h1,rfl⟩ | ⟨h1,h2,rfl⟩ | ⟨h1,h2,ns,rfl,h3,h4⟩
 · exact absurd h0 h1
 · cases h0
 · exact ⟨h1,h2,rfl,h3,h4⟩
def chooseN (n m:Int):Int:=(if n<0 then IntKind.i64.wrap (-(IntKind.i64.wrap (n+1))) else n).tmod m
theorem chooseN_in {n m:Int} (h : -9223372036854775808≤n) (h2:n≤9223372036854775807) (hm:0<m):0≤chooseN n m∧chooseN n m<m:=by
 unfold chooseN
 by_cases hn:n<0
 · rw [if_pos hn,wrap_in (n:=n+1) (by omega),wrap_in (by omega)]
   exact ⟨Int.tmod_nonneg _ (by omega),Int.tmod_lt_of_pos _ (by omega)⟩
 · rw [if_neg hn]
   exact ⟨Int.tmod_nonneg _ (by omega),Int.tmod_lt_of_pos _ (by omega)⟩
theorem chooseN_nat {n:Int} {k:Nat} (h : -9223372036854775808≤n∧n≤9223372036854775807) (hk:0<k):∃j:Nat,j<k∧chooseN n (k:Int)=(j:Int):=by
 obtain ⟨h1,h2⟩:=chooseN_in h.1 h.2 (m:=(k:Int)) (by omega)
 exact ⟨(chooseN n (k:Int)).toNat,by omega,by omega⟩
end Go.Bw
end
section
namespace Go.Proofs.Ytinnlppbkhhoiaa
open Go.Bw
set_option linter.unusedVariables false
set_option linter.unusedSimpArgs false
theorem got_get {G:List Bool} {n d:Nat} (h:G.length=n) (hd:d<n):∃y,G[d]? = some y:=⟨_,List.getElem?_eq_getElem (by omega)⟩
theorem en14:Enters Try.prog 14:=enters_of Try.func14 (by kernel_rfl) rfl
theorem en13:Enters Try.prog 13:=enters_of Try.func13 (by kernel_rfl) rfl
theorem choose_any (n m:Int) (hm:m≠0) (w:World) :
   Calls Try.prog 13 #[.int .i64 n,.int .i64 m] w fun e w'=>e = .returned (.int .i64 (chooseN n m))∧Ext w w':=by
 refine enter Try.func13 rfl 13 rfl rfl ?_
 refine CWd (W':=Ws w [] [] []) (fun _ e=>by subst e; exact Ws.init (by simp)) ?_
 refine Cs (Cr ?_)
 refine V0 (Ya rfl) ?_
 refine Ln (Et (Cs (Cs (Cr ?_))))
 refine V0 (Ym rfl) ?_
 refine V0 (yl_lt rfl rfl) ?_
 refine Ln (Et ?_)
 refine Cc rfl (fun hc0=>?_) (fun hc0=>?_)
 ·
  refine Cr ?_
  refine V0 (Ym rfl) ?_
  refine V0 (yl_addw rfl rfl) ?_
  refine V0 (yl_neg rfl) ?_
  refine V0 (Ya rfl) ?_
  refine Ln (Et (Cs (Cr ?_)))
  refine V0 (Ym rfl) ?_
  refine V0 (Ym rfl) ?_
  refine V0 (yl_rem rfl rfl hm) ?_
  refine V0 (Ya rfl) ?_
  refine Ln (Et (Crt ?_))
  refine WE.ret1 rfl rfl fun w' hw=>?_
  exact ⟨by rw [chooseN,if_pos (by simpa using hc0)],hw.fr⟩
 ·
  refine Ck (Et (Cs (Cr ?_)))
  refine V0 (Ym rfl) ?_
  refine V0 (Ym rfl) ?_
  refine V0 (yl_rem rfl rfl hm) ?_
  refine V0 (Ya rfl) ?_
  refine Ln (Et (Crt ?_))
  refine WE.ret1 rfl rfl fun w' hw=>?_
  exact ⟨by rw [chooseN,if_neg (by simpa using hc0)],hw.fr⟩
theorem has_any (H:View) (a:Option Addr) (c:Nat) (l:List Tx) (s:Tx) (w:World) (hH:Le H w) (hm:Sl rdStr 1 H a c l) :
   Calls Try.prog 14 #[.slice a l.length c,st s] w fun e w'=>e = .returned (.bool (l.contains s))∧Ext w w':=by
 have hcap:=hm.cap
 have hmax:=hm.max
 refine enter Try.func14 rfl 18 rfl rfl ?_
 refine CWd (W':=Ws w [] [] [H]) (fun _ e=>by subst e; exact Ws.init (by simp [hH])) ?_
 refine Cs (Cr ?_)
 refine V0 (Ya rfl) ?_
 refine Ln (Et (Cs (Cs (Cr ?_))))
 refine V0 (Ya rfl) ?_
 refine Ln (Et (Cb ?_))
 refine CW (ι:=Nat) (fun i=>[(5,.int .i64 (i:Int))]) [(0,_),(1,_)] (fun i=>i≤l.length∧∀x ∈ l.take i,¬x=s) (fun i=>l.length-i) 0 ⟨Nat.zero_le _,by simp⟩ (sc rfl (sc rfl (sc rfl sn))) ?_
 intro i ⟨hi,hall⟩
 refine Cs (Cs (Cr ?_))
 refine V0 (Ym rfl) ?_
 refine V0 (Ym rfl) ?_
 refine V0 (Yn es27 rfl) ?_
 refine V0 (yl_lt rfl rfl) ?_
 refine Ln (Et ?_)
 refine Cc rfl (fun hc0=>?_) (fun hc0=>?_)
 ·
  have hlt:i<l.length:=by simpa using hc0
  obtain ⟨y,hyi⟩:∃q,l[i]? = some q:=⟨_,List.getElem?_eq_getElem hlt⟩
  obtain ⟨pby,poy,hay,hry⟩:=hm.elt i y hyi
  have hry:RdC H pby (poy+i*1) (strC y):=hry
  refine Ck (Et (Cs (Cb (Cs (Cr ?_)))))
  refine V0 (Ym rfl) ?_
  refine V0 (Ym rfl) ?_
  refine V0 (Yo es27 rfl rfl hay (by omega)) ?_
  refine V0 (yl_ld 0 na9 rfl rfl (hry 0 _ rfl)) ?_
  refine V0 (Ym rfl) ?_
  refine V0 (yl_eqs rfl rfl) ?_
  refine Ln (Et ?_)
  refine Cc rfl (fun hc1=>?_) (fun hc1=>?_)
  ·
   have hs:y=s:=by simpa using hc1
   subst hs
   refine Cs (Cr ?_)
   refine V0 (Ya rfl) ?_
   refine Ln (Et (Crt (Ebr (Er (Er ?_)))))
   refine Ebr (Er ?_)
   refine WE.ret1 rfl rfl fun w' hw=>?_
   exact ⟨by rw [show l.contains y=true by simpa using List.mem_of_getElem? hyi],hw.fr⟩
  ·
   have hs:¬y=s:=by simpa using hc1
   refine Ck (Eb (Et (Cr ?_)))
   refine V0 (Ym rfl) ?_
   refine V0 (Yi rfl rfl rfl (by omega)) ?_
   refine V0 (Ya rfl) ?_
   refine Ln ?_
   exact Ea (i+1) (by omega) ⟨by omega,mem_take_snoc hyi hall hs⟩ (sc rfl (sc rfl (sc rfl sn))) (fun _ h=>h)
 ·
  have hge:¬i<l.length:=by simpa using hc0
  rw [List.take_of_length_le (by omega)] at hall
  refine Ce (Ex (Ex (Ebh (Et (Cs ?_)))))
  refine Cr ?_
  refine V0 (Ya rfl) ?_
  refine Ln (Et (Crt ?_))
  refine WE.ret1 rfl rfl fun w' hw=>?_
  exact ⟨by rw [show l.contains s=false by simpa using fun h=>hall s h rfl],hw.fr⟩
theorem orderNeeds_any (H:View) (ke ks:Nat) (a:Option Addr) (c:Nat) (l:List TMod) (nm:Tx) (z:Int) (hz : -9223372036854775808≤z∧z≤9223372036854775807) (w:World) (hH:Le H w) (hm:Sl (rdMod ke ks) 5 H a c l) (hb:∀m ∈ l,wM m≤109951162777) :
   Calls Try.prog 5 #[.slice a l.length c,st nm,.int .i64 z] w fun e w'=>e = .returned (.bool true)∧Ext w w':=by
 have hcap:=hm.cap
 have hmax:=hm.max
 refine enter Try.func5 rfl 149 rfl rfl ?_
 refine CWd (W':=Ws w [] [] [H]) (fun _ e=>by subst e; exact Ws.init (by simp [hH])) ?_
 refine Cs (Cr ?_)
 refine V0 (Ya rfl) ?_
 refine Ln (Et (Cs (Cr ?_)))
 refine V0 (Ym rfl) ?_
 refine V0 (Ym rfl) ?_
 refine Ld (.inl rfl) rfl en7 rfl (fun r:SP×List Tx×Int=>.tuple #[.slice r.1.1 r.2.1.length r.1.2,.int .i64 r.2.2]) (fun F r=>Sl rdStr 1 F r.1.1 r.1.2 r.2.1∧NeedR l nm r.2) (fun w hw=>needs_any H ke ks a c l nm w (hw.vs _ (by simp)) hm hb) ?_
 intro F20 r20 hf20 h20
 obtain ⟨s20,q20⟩:=r20
 obtain ⟨hs20,hq20⟩:=h20
 dsimp only at hs20 hq20
 refine V0 (Ym rfl) ?_
 refine V0 (Yx rfl rfl) ?_
 refine V0 (Yx rfl rfl) ?_
 refine V0 (Ya rfl) ?_
 refine V0 (Ya rfl) ?_
 refine Ln (Et (Cs (Cs (Cr ?_))))
 refine V0 (Ym rfl) ?_
 refine V0 (yl_ne rfl rfl) ?_
 refine Ln (Et ?_)
 refine Cc rfl (fun hc0=>?_) (fun hc0=>?_)
 ·
  refine Cs (Cr ?_)
  refine Lp (.inl rfl) rfl en10 rfl (fun w hw=>orderBegun_any w) ?_
  refine V0 (Ya rfl) ?_
  refine Ln (Et (Crt (Er ?_)))
  refine WE.ret1 rfl rfl fun w' hw=>?_
  exact ⟨rfl,hw.fr⟩
 ·
  have h200:q20.2=0:=by simpa using hc0
  obtain ⟨he0,hpl0,hq0,hsrt,hmem⟩:=placed_need hq20 h200
  obtain ⟨ns,e20⟩:=q20
  dsimp only at *
  have ho:=orderE_zero.1 he0
  have hfew:=ho.few
  have hnl:ns.length≤4:=by
    have h1:ns.length≤(namesL l).length:=nodup_sub_le (sortedT_nodup hsrt) fun s hs=>by
      obtain ⟨j,hj⟩:=reach_place ho ((hmem s).1 hs)
      obtain ⟨hlt,hnm⟩:=placeL_at hj
      rw [←hnm,nmAt_get (List.getElem?_eq_getElem hlt)]
      exact List.mem_of_getElem? (names_get (List.getElem?_eq_getElem hlt))
    rw [names_len] at h1
    omega
  refine Ck (Et (Cs (Cr ?_)))
  refine V0 (Ym rfl) ?_
  refine V0 (Yn es27 rfl) ?_
  refine WL.make (.inl rfl) rfl el41 rfl rfl (by omega) (by omega) (by omega) (by omega) fun b29=>?_
  refine toBools 0 rfl (by unfold maxLen; omega) ?_
  refine V0 (Ya rfl) ?_
  refine Ln (Et (Cs (Cs (Cr ?_))))
  refine V0 (Ya rfl) ?_
  refine Ln (Et (Cb ?_))
  refine CK (ι:=Nat×List Bool) (fun g=>[(10,.int .i64 (g.1:Int))]) [(0,_),(1,_),(2,_),(7,_),(9,_)] (fun g=>Ws w [] [osT 4 1 boolC (some ⟨b29,0,none⟩) ns.length g.2] [F20,H]) (fun g=>g.1≤l.length∧g.2.length=ns.length∧GotTo l nm ns g.2 g.1) (fun g=>l.length-g.1) (0,plB ns.length []) ⟨Nat.zero_le _,plB_len _ _,fun j h=>by omega⟩ (sc rfl (sc rfl (sc rfl (sc rfl (sc rfl (sc rfl sn)))))) (fun _ h=>h) ?_
  intro g ⟨hgi0,hgl,hgt⟩
  refine Cs (Cs (Cr ?_))
  refine V0 (Ym rfl) ?_
  refine V0 (Ym rfl) ?_
  refine V0 (Yn es22 rfl) ?_
  refine V0 (yl_lt rfl rfl) ?_
  refine Ln (Et ?_)
  refine Cc rfl (fun hc1=>?_) (fun hc1=>?_)
  ·
   have hlt:g.1<l.length:=by simpa using hc1
   obtain ⟨m,hmi⟩:∃q,l[g.1]? = some q:=⟨_,List.getElem?_eq_getElem hlt⟩
   obtain ⟨pbm,pom,ham,hrm⟩:=hm.elt g.1 m hmi
   obtain ⟨rm,hrowm,hrdm⟩:=hrm
   have hmemm:=List.mem_of_getElem? hmi
   have hbwm:=hb m hmemm
   have hlt1:g.1<l.length:=hlt
   have hus:=usesAt_get hmi
   have hnmi:=nmAt_get hmi
   have hku:=hrdm.uses.cap
   have hkm:=hrdm.uses.max
   refine Ck (Et (Cs (Cb (Cs (Cr ?_)))))
   refine V0 (Ym rfl) ?_
   refine V0 (Ym rfl) ?_
   refine V0 (Yo es22 rfl rfl ham (by omega)) ?_
   refine V0 (Yf fo39_0 rfl) ?_
   refine V0 (yl_ld 1 na9 rfl rfl (hrowm 0 _ rfl)) ?_
   refine V0 (Ym rfl) ?_
   refine V0 (yl_eqs rfl rfl) ?_
   refine V0 (Ym rfl) ?_
   apply WL.or 7 (x:=ns.contains m.nm) rfl rfl rfl rfl (.inl rfl) rfl rfl rfl rfl rfl
   ·
    intro hg0
    refine Lv (.g rfl rfl rfl) rfl (Ym rfl) ?_
    refine Lv (.g rfl rfl rfl) rfl (Ym rfl) ?_
    refine Lv (.g rfl rfl rfl) rfl (Ym rfl) ?_
    refine Lv (.g rfl rfl rfl) rfl (Yo es22 rfl rfl ham (by omega)) ?_
    refine Lv (.g rfl rfl rfl) rfl (Yf fo39_0 rfl) ?_
    refine Lv (.g rfl rfl rfl) rfl (yl_ld 1 na9 rfl rfl (hrowm 0 _ rfl)) ?_
    refine Lp (.g rfl rfl rfl) rfl en14 rfl (fun w hw=>has_any F20 s20.1 s20.2 ns m.nm w (hw.vs _ (by simp)) hs20) ?_
    exact Gt 7 rfl rfl rfl
   refine V0 (Ya rfl) ?_
   refine Ln (Et (Cs (Cr ?_)))
   refine V0 (Ya rfl) ?_
   refine Ln (Et (Cb ?_))
   refine CK (ι:=Nat×List Bool) (fun r=>[(12,.int .i64 (r.1:Int))]) [(0,_),(1,_),(2,_),(7,_),(9,_),(10,_),(11,_)] (fun r=>Ws w [] [osT 4 1 boolC (some ⟨b29,0,none⟩) ns.length r.2] [F20,H]) (fun r=>r.1≤m.uses.length∧r.2.length=ns.length∧SubM g.2 r.2∧∀u ∈ m.uses.take r.1,∀d:Nat,ns[d]? = some u→r.2[d]? = some true) (fun r=>m.uses.length-r.1) (0,g.2) ⟨Nat.zero_le _,hgl,SubM.refl _,by simp⟩ (sc rfl (sc rfl (sc rfl (sc rfl (sc rfl (sc rfl (sc rfl (sc rfl sn)))))))) (fun _ h=>h) ?_
   intro r ⟨hri,hrl,hrsub,hru⟩
   refine Cs (Cs (Cr ?_))
   refine V0 (Ym rfl) ?_
   refine V0 (Ym rfl) ?_
   refine V0 (Ym rfl) ?_
   refine V0 (Yo es22 rfl rfl ham (by omega)) ?_
   refine V0 (Yf fo39_1 rfl) ?_
   refine V0 (yl_ld 1 na27 rfl rfl (hrowm 1 _ rfl)) ?_
   refine V0 (Yn es27 rfl) ?_
   refine V0 (yl_lt rfl rfl) ?_
   refine V0 (Ym rfl) ?_
   apply WL.and 1 (x:=(m.nm==nm||ns.contains m.nm)) rfl rfl rfl rfl (.inl rfl) rfl rfl rfl rfl rfl
   ·
    intro hg1
    refine Lv (.g rfl rfl rfl) rfl (Ym rfl) ?_
    exact Gt 1 rfl rfl rfl
   refine Ln (Et ?_)
   refine Cc rfl (fun hc2=>?_) (fun hc2=>?_)
   ·
    have hand:r.1<m.uses.length∧(m.nm=nm∨m.nm ∈ ns):=by simpa using hc2
    have hact:actN l nm ns g.1:=by unfold actN; rw [hnmi]; exact hand.2
    have hc22:decide ((r.1:Int)<(m.uses.length:Int))=true:=by simpa using hand.1
    have hlt:r.1<m.uses.length:=by simpa using hc22
    obtain ⟨s,hsi⟩:∃q,m.uses[r.1]? = some q:=⟨_,List.getElem?_eq_getElem hlt⟩
    obtain ⟨pbs,pos,has,hrs⟩:=hrdm.uses.elt r.1 s hsi
    have hrs:RdC H pbs (pos+r.1*1) (strC s):=hrs
    have hsn:s ∈ ns:=act_use ho.nd hmem hlt1 hact (by rw [hus]; exact List.mem_of_getElem? hsi)
    refine Ck (Et (Cs (Cb (Cs (Cs ?_)))))
    refine Cr ?_
    refine V0 (Ym rfl) ?_
    refine V0 (Ym rfl) ?_
    refine V0 (Ym rfl) ?_
    refine V0 (Yo es22 rfl rfl ham (by omega)) ?_
    refine V0 (Yf fo39_1 rfl) ?_
    refine V0 (yl_ld 1 na27 rfl rfl (hrowm 1 _ rfl)) ?_
    refine V0 (Ym rfl) ?_
    refine V0 (Yo es27 rfl rfl has (by omega)) ?_
    refine V0 (yl_ld 1 na9 rfl rfl (hrs 0 _ rfl)) ?_
    refine Lp (.inl rfl) rfl en14 rfl (fun w hw=>has_any F20 s20.1 s20.2 ns s w (hw.vs _ (by simp)) hs20) ?_
    refine V0 (yl_not rfl) ?_
    refine Ln (Et ?_)
    refine Cc rfl (fun hc3=>?_) (fun hc3=>?_)
    ·
     exfalso
     have h9:ns.contains s=true:=by simpa using hsn
     rw [h9] at hc3
     cases hc3
    ·
     refine Ck (Et (Cs (Cr ?_)))
     refine V0 (Ya rfl) ?_
     refine Ln (Et (Cb ?_))
     refine CK (ι:=Nat×List Bool) (fun v=>[(13,.int .i64 (v.1:Int))]) [(0,_),(1,_),(2,_),(7,_),(9,_),(10,_),(11,_),(12,_)] (fun v=>Ws w [] [osT 4 1 boolC (some ⟨b29,0,none⟩) ns.length v.2] [F20,H]) (fun v=>v.1≤ns.length∧v.2.length=ns.length∧SubM r.2 v.2∧∀d:Nat,d<v.1→ns[d]? = some s→v.2[d]? = some true) (fun v=>ns.length-v.1) (0,r.2) ⟨Nat.zero_le _,hrl,SubM.refl _,fun d h=>by omega⟩ (sc rfl (sc rfl (sc rfl (sc rfl (sc rfl (sc rfl (sc rfl (sc rfl (sc rfl sn))))))))) (fun _ h=>h) ?_
     intro v ⟨hvi,hvl,hvsub,hvd⟩
     refine Cs (Cs (Cr ?_))
     refine V0 (Ym rfl) ?_
     refine V0 (Ym rfl) ?_
     refine V0 (Yn es27 rfl) ?_
     refine V0 (yl_lt rfl rfl) ?_
     refine Ln (Et ?_)
     refine Cc rfl (fun hc4=>?_) (fun hc4=>?_)
     ·
      have hlt:v.1<ns.length:=by simpa using hc4
      obtain ⟨nd,hndi⟩:∃q,ns[v.1]? = some q:=⟨_,List.getElem?_eq_getElem hlt⟩
      obtain ⟨pbnd,pond,hand,hrnd⟩:=hs20.elt v.1 nd hndi
      have hltd:v.1<ns.length:=hlt
      have hrnd:RdC F20 pbnd (pond+v.1*1) (strC nd):=hrnd
      refine Ck (Et (Cs (Cb ?_)))
      obtain ⟨y,hy⟩:=got_get hvl hltd
      have hor:=subM_or (b:=(nd==s)) hy
      cases y
      ·
       skip
       refine CU (fun _=>true) [] [22] (.q false 0 (.q false 1 (.q false 2 (.q false 3 (.q false 4 (.q true 5 (.q false 6 (.q false 7 (.q false 8 (.q false 9 (.q true 10 (.q false 11 (.q false 12 (.q false 13 (.q false 14 (.q true 15 (.q false 16 (.q false 17 (.q true 18 (.q false 19 (.q false 20 (.q false 21 .nil)))))))))))))))))))))) mixed (by kernel_rfl) (fun _ _ _ d _ _ h=>by cases d<;>exact h) ?_
       refine Uq rfl (.inl rfl) rfl (fun _ h=>h) (Ym rfl) ?_
       refine Uq rfl (.inl rfl) rfl (fun _ h=>h) (Ym rfl) ?_
       refine Uq rfl (.inl rfl) rfl (fun _ h=>h) (Ym rfl) ?_
       refine Uq rfl (.inl rfl) rfl (fun _ h=>h) (Ym rfl) ?_
       refine Uq rfl (.inl rfl) rfl (fun _ h=>h) (yl_iak es41 rfl rfl (by omega)) ?_
       refine Uq rfl (.inl rfl) rfl (fun _ h=>h) (yl_ldT (y:=false) 0 v.1 0 rfl rfl rfl (by omega) boolC_len1 hy rfl na4) ?_
       refine Uq rfl (.inl rfl) rfl (fun _ h=>h) (Ym rfl) ?_
       refine Uq rfl (.g rfl rfl rfl) rfl (fun _ h=>h) (Ym rfl) ?_
       refine Uq rfl (.g rfl rfl rfl) rfl (fun _ h=>h) (Ym rfl) ?_
       refine Uq rfl (.g rfl rfl rfl) rfl (fun _ h=>h) (Yo es27 rfl rfl hand (by omega)) ?_
       refine Uq rfl (.g rfl rfl rfl) rfl (fun _ h=>h) (yl_ld 0 na9 rfl rfl (hrnd 0 _ rfl)) ?_
       refine Uq rfl (.g rfl rfl rfl) rfl (fun _ h=>h) (Ym rfl) ?_
       refine Uq rfl (.g rfl rfl rfl) rfl (fun _ h=>h) (Ym rfl) ?_
       refine Uq rfl (.g rfl rfl rfl) rfl (fun _ h=>h) (Yo es22 rfl rfl ham (by omega)) ?_
       refine Uq rfl (.g rfl rfl rfl) rfl (fun _ h=>h) (Yf fo39_1 rfl) ?_
       refine Uq rfl (.g rfl rfl rfl) rfl (fun _ h=>h) (yl_ld 1 na27 rfl rfl (hrowm 1 _ rfl)) ?_
       refine Uq rfl (.g rfl rfl rfl) rfl (fun _ h=>h) (Ym rfl) ?_
       refine Uq rfl (.g rfl rfl rfl) rfl (fun _ h=>h) (Yo es27 rfl rfl has (by omega)) ?_
       refine Uq rfl (.g rfl rfl rfl) rfl (fun _ h=>h) (yl_ld 1 na9 rfl rfl (hrs 0 _ rfl)) ?_
       refine Uq rfl (.g rfl rfl rfl) rfl (fun _ h=>h) (yl_eqs rfl rfl) ?_
       refine Uq rfl (.inl rfl) rfl (fun _ h=>h) (yl_pick rfl rfl rfl) ?_
       refine Uq rfl (.inl rfl) rfl (fun _ h=>h) (yl_iak es41 rfl rfl (by omega)) ?_
       refine WU.nil (fun _ h=>h) ?_
       refine WS.e rfl ?_
       refine WL.storeT (y:=false) 0 v.1 0 (nd==s) (.inl rfl) rfl rfl rfl rfl (by omega) boolC_len1 hy sz4 rfl rfl (by decide) rfl ?_
       refine Ln (Es ?_)
       refine WS.nil ?_
       refine Eb (Et (Cr ?_))
       refine V0 (Ym rfl) ?_
       refine V0 (Yi rfl rfl rfl (by omega)) ?_
       refine V0 (Ya rfl) ?_
       refine Ln ?_
       exact Ea ((v.1+1,v.2.set v.1 (nd==s)):Nat×List Bool) (by show _-(v.1+1)<_; omega) ⟨(by show v.1+1≤_; omega),by rw [List.length_set]; exact hvl,hvsub.trans hor,fun d hd hds=>by
           rcases Nat.lt_succ_iff_lt_or_eq.1 hd with h | h
           · exact hor d (hvd d h hds)
           · subst h; rw [hndi] at hds; injection hds with hds; subst hds; rw [List.getElem?_set]; simp; omega⟩ (sc rfl (sc rfl (sc rfl (sc rfl (sc rfl (sc rfl (sc rfl (sc rfl (sc rfl sn))))))))) (fun _ h=>h)
      ·
       skip
       refine CU (fun _=>true) [] [22] (.q false 0 (.q false 1 (.q false 2 (.q false 3 (.q false 4 (.q true 5 (.q false 6 (.q false 7 (.q false 8 (.q false 9 (.q false 10 (.q false 11 (.q false 12 (.q false 13 (.q false 14 (.q false 15 (.q false 16 (.q false 17 (.q false 18 (.q false 19 (.q false 20 (.q false 21 .nil)))))))))))))))))))))) mixed (by kernel_rfl) (fun _ _ _ d _ _ h=>by cases d<;>exact h) ?_
       refine Uq rfl (.inl rfl) rfl (fun _ h=>h) (Ym rfl) ?_
       refine Uq rfl (.inl rfl) rfl (fun _ h=>h) (Ym rfl) ?_
       refine Uq rfl (.inl rfl) rfl (fun _ h=>h) (Ym rfl) ?_
       refine Uq rfl (.inl rfl) rfl (fun _ h=>h) (Ym rfl) ?_
       refine Uq rfl (.inl rfl) rfl (fun _ h=>h) (yl_iak es41 rfl rfl (by omega)) ?_
       refine Uq rfl (.inl rfl) rfl (fun _ h=>h) (yl_ldT (y:=true) 0 v.1 0 rfl rfl rfl (by omega) boolC_len1 hy rfl na4) ?_
       refine Uq rfl (.inl rfl) rfl (fun _ h=>h) (Ym rfl) ?_
       refine WU.skip rfl rfl rfl rfl rfl rfl (fun _ h=>h) ?_
       refine WU.skip rfl rfl rfl rfl rfl rfl (fun _ h=>h) ?_
       refine WU.skip rfl rfl rfl rfl rfl rfl (fun _ h=>h) ?_
       refine WU.skip rfl rfl rfl rfl rfl rfl (fun _ h=>h) ?_
       refine WU.skip rfl rfl rfl rfl rfl rfl (fun _ h=>h) ?_
       refine WU.skip rfl rfl rfl rfl rfl rfl (fun _ h=>h) ?_
       refine WU.skip rfl rfl rfl rfl rfl rfl (fun _ h=>h) ?_
       refine WU.skip rfl rfl rfl rfl rfl rfl (fun _ h=>h) ?_
       refine WU.skip rfl rfl rfl rfl rfl rfl (fun _ h=>h) ?_
       refine WU.skip rfl rfl rfl rfl rfl rfl (fun _ h=>h) ?_
       refine WU.skip rfl rfl rfl rfl rfl rfl (fun _ h=>h) ?_
       refine WU.skip rfl rfl rfl rfl rfl rfl (fun _ h=>h) ?_
       refine WU.skip rfl rfl rfl rfl rfl rfl (fun _ h=>h) ?_
       refine Uq rfl (.inl rfl) rfl (fun _ h=>h) (yl_pick rfl rfl rfl) ?_
       refine Uq rfl (.inl rfl) rfl (fun _ h=>h) (yl_iak es41 rfl rfl (by omega)) ?_
       refine WU.nil (fun _ h=>h) ?_
       refine WS.e rfl ?_
       refine WL.storeT (y:=true) 0 v.1 0 true (.inl rfl) rfl rfl rfl rfl (by omega) boolC_len1 hy sz4 rfl rfl (by decide) rfl ?_
       refine Ln (Es ?_)
       refine WS.nil ?_
       refine Eb (Et (Cr ?_))
       refine V0 (Ym rfl) ?_
       refine V0 (Yi rfl rfl rfl (by omega)) ?_
       refine V0 (Ya rfl) ?_
       refine Ln ?_
       exact Ea ((v.1+1,v.2.set v.1 true):Nat×List Bool) (by show _-(v.1+1)<_; omega) ⟨(by show v.1+1≤_; omega),by rw [List.length_set]; exact hvl,hvsub.trans hor,fun d hd hds=>by
           rcases Nat.lt_succ_iff_lt_or_eq.1 hd with h | h
           · exact hor d (hvd d h hds)
           · subst h; rw [hndi] at hds; injection hds with hds; subst hds; rw [List.getElem?_set]; simp; omega⟩ (sc rfl (sc rfl (sc rfl (sc rfl (sc rfl (sc rfl (sc rfl (sc rfl (sc rfl sn))))))))) (fun _ h=>h)
     ·
      have hvn:¬v.1<ns.length:=by simpa using hc4
      have hrn:∀u ∈ m.uses.take (r.1+1),∀d:Nat,ns[d]? = some u→v.2[d]? = some true:=mem_take_snoc hsi (fun u hu d hd=>hvsub d (hru u hu d hd)) fun d hd=>hvd d (by have:=(List.getElem?_eq_some_iff.1 hd).1; omega) hd
      refine Ce (Ex (Ex (Ebh (Eb (Et ?_)))))
      refine Cr ?_
      refine V0 (Ym rfl) ?_
      refine V0 (Yi rfl rfl rfl (by omega)) ?_
      refine V0 (Ya rfl) ?_
      refine Ln ?_
      exact Ea ((r.1+1,v.2):Nat×List Bool) (by show _-(r.1+1)<_; omega) ⟨(by show r.1+1≤_; omega),hvl,hrsub.trans hvsub,hrn⟩ (sc rfl (sc rfl (sc rfl (sc rfl (sc rfl (sc rfl (sc rfl (sc rfl sn)))))))) (fun _ h=>h)
   ·
    have hgn:GotTo l nm ns r.2 (g.1+1):=gotTo_next (gotTo_sub hgt hrsub) fun ha u hu d hd=>by
      rw [hus] at hu
      unfold actN at ha
      rw [hnmi] at ha
      have hge:¬r.1<m.uses.length:=fun h=>by
        have:(decide ((r.1:Int)<(m.uses.length:Int))&&(m.nm==nm||ns.contains m.nm))=true:=by simpa using ⟨h,ha⟩
        rw [this] at hc2; cases hc2
      rw [List.take_of_length_le (by omega)] at hru
      exact hru u hu d hd
    refine Ce (Ex (Ex (Ebh (Eb (Et ?_)))))
    refine Cr ?_
    refine V0 (Ym rfl) ?_
    refine V0 (Yi rfl rfl rfl (by omega)) ?_
    refine V0 (Ya rfl) ?_
    refine Ln ?_
    exact Ea ((g.1+1,r.2):Nat×List Bool) (by show _-(g.1+1)<_; omega) ⟨(by show g.1+1≤_; omega),hrl,hgn⟩ (sc rfl (sc rfl (sc rfl (sc rfl (sc rfl (sc rfl sn)))))) (fun _ h=>h)
  ·
   have hgi:g.1=l.length:=by simp at hc1; omega
   rw [hgi] at hgt
   refine Ce (Ex (Ex (Ebh (Et (Cs ?_)))))
   refine Cs (Cr ?_)
   refine V0 (Ya rfl) ?_
   refine Ln (Et (Cb ?_))
   refine CW (ι:=Nat) (fun d=>[(14,.int .i64 (d:Int))]) [(0,_),(2,_),(7,_),(9,_)] (fun d=>d≤ns.length) (fun d=>ns.length-d) 0 (Nat.zero_le _) (sc rfl (sc rfl (sc rfl (sc rfl (sc rfl sn))))) ?_
   intro d hd
   refine Cs (Cs (Cr ?_))
   refine V0 (Ym rfl) ?_
   refine V0 (Ym rfl) ?_
   refine V0 (Yn es27 rfl) ?_
   refine V0 (yl_lt rfl rfl) ?_
   refine Ln (Et ?_)
   refine Cc rfl (fun hc5=>?_) (fun hc5=>?_)
   ·
    have hlt5:d<ns.length:=by simpa using hc5
    have hgd:g.2[d]? = some true:=got_all hmem hgt (List.getElem?_eq_getElem hlt5)
    refine Ck (Et (Cs (Cb (Cs (Cr ?_)))))
    refine V0 (Ym rfl) ?_
    refine V0 (Ym rfl) ?_
    refine V0 (yl_iak es41 rfl rfl (by omega)) ?_
    refine V0 (yl_ldT (y:=true) 0 d 0 rfl rfl rfl (by omega) boolC_len1 hgd rfl na4) ?_
    refine V0 (yl_not rfl) ?_
    refine Ln (Et ?_)
    refine Cc rfl (fun hc6=>?_) (fun hc6=>?_)
    ·
     cases hc6
    ·
     refine Ck (Eb (Et (Cr ?_)))
     refine V0 (Ym rfl) ?_
     refine V0 (Yi rfl rfl rfl (by omega)) ?_
     refine V0 (Ya rfl) ?_
     refine Ln ?_
     exact Ea (d+1) (by omega) (by omega) (sc rfl (sc rfl (sc rfl (sc rfl (sc rfl sn))))) (fun _ h=>h)
   ·
    refine Ce (Ex (Ex (Ebh (Et (Cs ?_)))))
    refine Cs (Cr ?_)
    refine V0 (Ym rfl) ?_
    refine V0 (Yn es27 rfl) ?_
    refine V0 (yl_eq rfl rfl) ?_
    refine Ln (Et ?_)
    refine Cc rfl (fun hc7=>?_) (fun hc7=>?_)
    ·
     refine Cs (Cr ?_)
     refine Lp (.inl rfl) rfl en10 rfl (fun w hw=>orderBegun_any w) ?_
     refine V0 (Ya rfl) ?_
     refine Ln (Et (Crt (Er ?_)))
     refine WE.ret1 rfl rfl fun w' hw=>?_
     exact ⟨rfl,hw.fr⟩
    ·
     have hpos:0<ns.length:=by
       have h9:¬ns.length=0:=by simpa using hc7
       omega
     obtain ⟨cz,hcl,hcz⟩:=chooseN_nat hz hpos
     obtain ⟨x,hxi⟩:∃x,ns[cz]? = some x:=⟨_,List.getElem?_eq_getElem hcl⟩
     obtain ⟨pbx,pox,hax,hrx⟩:=hs20.elt cz x hxi
     have hrx:RdC F20 pbx (pox+cz*1) (strC x):=hrx
     have hxr:=(hmem x).1 (List.mem_of_getElem? hxi)
     obtain ⟨xp,hxp⟩:=reach_place ho hxr
     refine Ck (Et (Cs (Cr ?_)))
     refine V0 (Ym rfl) ?_
     refine V0 (Ym rfl) ?_
     refine V0 (Ym rfl) ?_
     refine V0 (Ym rfl) ?_
     refine V0 (Yn es27 rfl) ?_
     refine Lp (.inl rfl) rfl en13 rfl (fun w hw=>choose_any z (ns.length:Int) (by omega) w) ?_
     rw [hcz]
     refine V0 (Yo (i:=cz) es27 rfl rfl hax hcl) ?_
     refine V0 (yl_ld 0 na9 rfl rfl (hrx 0 _ rfl)) ?_
     refine Ld (.inl rfl) rfl en7 rfl (fun r:SP×List Tx×Int=>.tuple #[.slice r.1.1 r.2.1.length r.1.2,.int .i64 r.2.2]) (fun F r=>Sl rdStr 1 F r.1.1 r.1.2 r.2.1∧NeedR l x r.2) (fun w hw=>needs_any H ke ks a c l x w (hw.vs _ (by simp)) hm hb) ?_
     intro F128 r128 hf128 h128
     obtain ⟨s128,q128⟩:=r128
     obtain ⟨hs128,hq128⟩:=h128
     dsimp only at hs128 hq128
     have h128:NeedR l x q128:=hq128
     obtain ⟨ms,hms,hmm⟩:∃ms,q128=(ms,0)∧∀s,s ∈ ms↔Go.Bw.Reach l x s:=by
       rcases h128 with ⟨h1,_⟩ | ⟨_,h2,_⟩ | ⟨_,_,ms,h3,_,h4⟩
       · exact absurd he0 h1
       · rw [hxp] at h2; cases h2
       · exact ⟨ms,h3,h4⟩
     subst hms
     have hmc:ms.length≤s128.2:=hs128.cap
     have hmx:=hs128.max
     refine V0 (Ym rfl) ?_
     refine V0 (Yx rfl rfl) ?_
     refine V0 (Yx rfl rfl) ?_
     refine V0 (Ya rfl) ?_
     refine V0 (Ya rfl) ?_
     refine Ln (Et (Cs (Cs (Cr ?_))))
     refine V0 (Ya rfl) ?_
     refine Ln (Et (Cb ?_))
     refine CW (ι:=Nat) (fun k=>[(17,.int .i64 (k:Int))]) [(7,_),(15,_),(16,_)] (fun k=>k≤ms.length) (fun k=>ms.length-k) 0 (Nat.zero_le _) (sc rfl (sc rfl (sc rfl (sc rfl sn)))) ?_
     intro k hk
     refine Cs (Cs (Cr ?_))
     refine V0 (Ym rfl) ?_
     refine V0 (Ym rfl) ?_
     refine V0 (Yn es27 rfl) ?_
     refine V0 (yl_lt rfl rfl) ?_
     refine Ln (Et ?_)
     refine Cc rfl (fun hc8=>?_) (fun hc8=>?_)
     ·
      have hlt:k<ms.length:=by simpa using hc8
      obtain ⟨u,hui⟩:∃q,ms[k]? = some q:=⟨_,List.getElem?_eq_getElem hlt⟩
      obtain ⟨pbu,pou,hau,hru⟩:=hs128.elt k u hui
      have hru:RdC F128 pbu (pou+k*1) (strC u):=hru
      have hun:u ∈ ns:=(hmem u).2 (reach_trans hxr ((hmm u).1 (List.mem_of_getElem? hui)))
      refine Ck (Et (Cs (Cb (Cs (Cr ?_)))))
      refine V0 (Ym rfl) ?_
      refine V0 (Ym rfl) ?_
      refine V0 (Ym rfl) ?_
      refine V0 (Yo es27 rfl rfl hau (by omega)) ?_
      refine V0 (yl_ld 0 na9 rfl rfl (hru 0 _ rfl)) ?_
      refine Lp (.inl rfl) rfl en14 rfl (fun w hw=>has_any F20 s20.1 s20.2 ns u w (hw.vs _ (by simp)) hs20) ?_
      refine V0 (yl_not rfl) ?_
      refine Ln (Et ?_)
      refine Cc rfl (fun hc9=>?_) (fun hc9=>?_)
      ·
       exfalso
       have h9:ns.contains u=true:=by simpa using hun
       rw [h9] at hc9
       cases hc9
      ·
       refine Ck (Eb (Et (Cr ?_)))
       refine V0 (Ym rfl) ?_
       refine V0 (Yi rfl rfl rfl (by omega)) ?_
       refine V0 (Ya rfl) ?_
       refine Ln ?_
       exact Ea (k+1) (by omega) (by omega) (sc rfl (sc rfl (sc rfl (sc rfl sn)))) (fun _ h=>h)
     ·
      refine Ce (Ex (Ex (Ebh (Et (Cs ?_)))))
      refine Cr ?_
      refine Lp (.inl rfl) rfl en10 rfl (fun w hw=>orderBegun_any w) ?_
      refine V0 (Ym rfl) ?_
      apply WL.and 2 (x:=true) rfl rfl rfl rfl (.inl rfl) rfl rfl rfl rfl rfl
      ·
       intro hg2
       refine Lv (.g rfl rfl rfl) rfl (Ym rfl) ?_
       refine Lv (.g rfl rfl rfl) rfl (yl_eqiY rfl rfl rfl) ?_
       exact Gt 2 rfl rfl rfl
      refine V0 (Ya rfl) ?_
      refine Ln (Et (Crt ?_))
      refine WE.ret1 rfl rfl fun w' hw=>?_
      exact ⟨rfl,hw.fr⟩
end Go.Proofs.Ytinnlppbkhhoiaa
end
