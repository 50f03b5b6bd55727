/- A face is right, what is resolved without uses is a right program, and what is resolved has a face, where what is handed in has a bulk of at most 1048576 (the second form). -/
import Derived.Lib.AppendZeros
import Derived.Test.YtinnlppbkhhoiaaGreatDoorR3
set_option linter.unusedVariables false
set_option linter.unusedSimpArgs false
section
namespace Go.Proofs.YtinnlppbkhhoiaaGreatDoor
open Go.Bw
set_option linter.unusedVariables false
set_option linter.unusedSimpArgs false
theorem resE_3 {σ:Scp} {n m:Int} {it:FItem} {mod nm:List UInt8} {len:Nat} (h:findT σ mod nm=some (m,it)):resE σ 3 n mod nm len=if m = -1 then ⟨16,n,0,it.pl,0⟩ else if it.kind=1 then ⟨1,it.n,0,0,0⟩ else if it.kind=2 then ⟨3,n,m,it.pl,0⟩ else ⟨3,n,0,0,7⟩:=by
 unfold resE
 rw [if_pos (by decide),h]
 simp
theorem resE_no {σ:Scp} {op n:Int} {mod nm:List UInt8} {len:Nat} (ho:op=3∨op=4∨op=5) (h:findT σ mod nm=none):resE σ op n mod nm len=⟨op,n,0,0,5⟩:=by
 unfold resE
 rw [if_pos (by unfold within_; simp; omega),h]
theorem resE_0 {σ:Scp} {op n:Int} {mod nm:List UInt8} {len:Nat} (h3:¬op=3) (h4:¬op=4) (h5:¬op=5):resE σ op n mod nm len=⟨op,n,0,0,0⟩:=by
 unfold resE
 rw [if_neg (by unfold within_; simp; omega)]
theorem resE_4e {σ:Scp} {n:Int} {mod nm:List UInt8} {len:Nat} (h:plErr σ mod nm 3 0≠0):(resE σ 4 n mod nm len).e=plErr σ mod nm 3 0:=by
 cases hf:findT σ mod nm with
 | none=>rw [resE_no (by simp) hf,pl_none hf]
 | some i=>
   obtain ⟨m,it⟩:=i
   have hm:=findT_m hf
   rw [pl_some hf] at h ⊢
   unfold resE
   rw [if_pos (by decide),hf]
   by_cases h1:m = -1
   · simp [h1]
   · by_cases h2:it.kind=3
     · exact absurd (by rw [if_neg (by omega),if_neg (by omega)]) h
     · simp [h1,h2]
theorem resE_4 {σ:Scp} {n m:Int} {it:FItem} {mod nm:List UInt8} {len:Nat} (hf:findT σ mod nm=some (m,it)) (h:plErr σ mod nm 3 0=0):resE σ 4 n mod nm len=⟨4,it.n,m,it.pl,0⟩:=by
 rw [pl_some hf] at h
 have hm:=findT_m hf
 have h1:0≤m∧it.kind=3:=by
   by_cases hc:0≤m∧it.kind=3
   · exact hc
   · rw [if_pos hc] at h; cases h
 unfold resE
 rw [if_pos (by decide),hf]
 simp [h1.2,show ¬m = -1 by omega]
theorem resE_5e {σ:Scp} {n:Int} {mod nm:List UInt8} {len:Nat} (h:plErr σ mod nm 4 (len:Int)≠0):(resE σ 5 n mod nm len).e=plErr σ mod nm 4 (len:Int):=by
 cases hf:findT σ mod nm with
 | none=>rw [resE_no (by simp) hf,pl_none hf]
 | some i=>
   obtain ⟨m,it⟩:=i
   have hm:=findT_m hf
   rw [pl_some hf] at h ⊢
   unfold resE
   rw [if_pos (by decide),hf]
   by_cases h1:m = -1
   · simp [h1]
   · by_cases h2:it.kind=4
     · by_cases h3:it.n=(len:Int)
       · exact absurd (by rw [if_neg (by omega),if_neg (by omega)]) h
       · simp [h1,h2,h3,show 0≤m by omega]
     · simp [h1,h2]
theorem resE_5 {σ:Scp} {n m:Int} {it:FItem} {mod nm:List UInt8} {len:Nat} (hf:findT σ mod nm=some (m,it)) (h:plErr σ mod nm 4 (len:Int)=0):resE σ 5 n mod nm len=⟨5,n,m,it.pl,0⟩:=by
 rw [pl_some hf] at h
 have hm:=findT_m hf
 have h1:0≤m∧it.kind=4:=by
   by_cases hc:0≤m∧it.kind=4
   · exact hc
   · rw [if_pos hc] at h; cases h
 have h2:it.n=(len:Int):=by
   rw [if_neg (fun hc=>hc h1)] at h
   by_cases hc:it.n=(len:Int)
   · exact hc
   · rw [if_pos ⟨rfl,hc⟩] at h; cases h
 unfold resE
 rw [if_pos (by decide),hf]
 simp [h1.2,h2,show ¬m = -1 by omega]
theorem resS_no {σ:Scp} {op:Int} {mod nm:List UInt8} {len:Nat} (ho:op=1∨op=2∨op=3) (h:findT σ mod nm=none):resS σ op mod nm len=⟨op,0,0,0,5⟩:=by
 unfold resS
 rw [if_pos (by unfold within_; simp; omega),h]
theorem resS_0 {σ:Scp} {op:Int} {mod nm:List UInt8} {len:Nat} (h1:¬op=1) (h2:¬op=2) (h3:¬op=3):resS σ op mod nm len=⟨op,0,0,0,0⟩:=by
 unfold resS
 rw [if_neg (by unfold within_; simp; omega)]
theorem resS_1 {σ:Scp} {m:Int} {it:FItem} {mod nm:List UInt8} {len:Nat} (h:findT σ mod nm=some (m,it)):resS σ 1 mod nm len=if m = -1∨it.kind=2 then ⟨1,0,m,it.pl,0⟩ else ⟨1,0,0,0,7⟩:=by
 unfold resS
 rw [if_pos (by decide),h]
 by_cases h1:m = -1∨it.kind=2
 · simp [h1]
 · simp [h1,show ¬m = -1 from fun e=>h1 (.inl e)]
theorem resS_2e {σ:Scp} {mod nm:List UInt8} {len:Nat} (h:plErr σ mod nm 3 0≠0):(resS σ 2 mod nm len).e=plErr σ mod nm 3 0:=by
 cases hf:findT σ mod nm with
 | none=>rw [resS_no (by simp) hf,pl_none hf]
 | some i=>
   obtain ⟨m,it⟩:=i
   have hm:=findT_m hf
   rw [pl_some hf] at h ⊢
   unfold resS
   rw [if_pos (by decide),hf]
   by_cases h1:m = -1
   · simp [h1]
   · by_cases h2:it.kind=3
     · exact absurd (by rw [if_neg (by omega),if_neg (by omega)]) h
     · simp [h1,h2]
theorem resS_2 {σ:Scp} {m:Int} {it:FItem} {mod nm:List UInt8} {len:Nat} (hf:findT σ mod nm=some (m,it)) (h:plErr σ mod nm 3 0=0):resS σ 2 mod nm len=⟨2,it.n,m,it.pl,0⟩:=by
 rw [pl_some hf] at h
 have hm:=findT_m hf
 have h1:0≤m∧it.kind=3:=by
   by_cases hc:0≤m∧it.kind=3
   · exact hc
   · rw [if_pos hc] at h; cases h
 unfold resS
 rw [if_pos (by decide),hf]
 simp [h1.2,show ¬m = -1 by omega]
theorem resS_3e {σ:Scp} {mod nm:List UInt8} {len:Nat} (h:plErr σ mod nm 4 (len:Int)≠0):(resS σ 3 mod nm len).e=plErr σ mod nm 4 (len:Int):=by
 cases hf:findT σ mod nm with
 | none=>rw [resS_no (by simp) hf,pl_none hf]
 | some i=>
   obtain ⟨m,it⟩:=i
   have hm:=findT_m hf
   rw [pl_some hf] at h ⊢
   unfold resS
   rw [if_pos (by decide),hf]
   by_cases h1:m = -1
   · simp [h1]
   · by_cases h2:it.kind=4
     · by_cases h3:it.n=(len:Int)
       · exact absurd (by rw [if_neg (by omega),if_neg (by omega)]) h
       · simp [h1,h2,h3,show 0≤m by omega]
     · simp [h1,h2]
theorem resS_3 {σ:Scp} {m:Int} {it:FItem} {mod nm:List UInt8} {len:Nat} (hf:findT σ mod nm=some (m,it)) (h:plErr σ mod nm 4 (len:Int)=0):resS σ 3 mod nm len=⟨3,0,m,it.pl,0⟩:=by
 rw [pl_some hf] at h
 have hm:=findT_m hf
 have h1:0≤m∧it.kind=4:=by
   by_cases hc:0≤m∧it.kind=4
   · exact hc
   · rw [if_pos hc] at h; cases h
 have h2:it.n=(len:Int):=by
   rw [if_neg (fun hc=>hc h1)] at h
   by_cases hc:it.n=(len:Int)
   · exact hc
   · rw [if_pos ⟨rfl,hc⟩] at h; cases h
 unfold resS
 rw [if_pos (by decide),hf]
 simp [h1.2,h2,show ¬m = -1 by omega]
structure GX (X:Type) where
 i:Nat
 es:List X
 a:Option Addr
 c:Nat
 J:View
theorem en74:Enters Tryz.prog 74:=enters_of Tryz.func74 (by kernel_rfl) rfl
theorem zr158:zeroOf Tryz.prog 158=some (.agg #[.int .i64 0,.int .i64 0,.int .i64 0,.int .i64 0,.slice none 0 0]):=by kernel_rfl
theorem pl158:placesP Tryz.prog 158=some [(0,1),(1,1),(2,1),(3,1),(4,1)]:=by kernel_rfl
theorem sz158:sizeP Tryz.prog 158=some 5:=by kernel_rfl
theorem fo158_0:fieldOff Tryz.prog 158 0=some 0:=by kernel_rfl
theorem fo158_3:fieldOff Tryz.prog 158 3=some 3:=by kernel_rfl
theorem fo158_1:fieldOff Tryz.prog 158 1=some 1:=by kernel_rfl
theorem fo158_2:fieldOff Tryz.prog 158 2=some 2:=by kernel_rfl
theorem en75:Enters Tryz.prog 75:=enters_of Tryz.func75 (by kernel_rfl) rfl
theorem en76:Enters Tryz.prog 76:=enters_of Tryz.func76 (by kernel_rfl) rfl
theorem fo158_4:fieldOff Tryz.prog 158 4=some 4:=by kernel_rfl
theorem sz66:sizeP Tryz.prog 66=some 1:=by kernel_rfl
theorem ag158:aggOf Tryz.prog 158=some 5:=by kernel_rfl
theorem scPlace_any (HS:View) (sb:Nat) (σ:Scp) (w:World) (hHS:Le HS w) (hS:Slv HS sb σ) (mod nm:List UInt8) (kind args:Int) :
   Calls Tryz.prog 75 #[.pointer (some ⟨sb,0,none⟩),st mod,st nm,.int .i64 kind,.int .i64 args] w fun e w'=>(∃i:Int×FItem,e = .returned (.tuple #[.int .i64 i.1,.agg i.2.cells.toArray])∧Ext w w'∧findT σ mod nm=some i∧plErr σ mod nm kind args=0)∨(∃_:Unit,e = .panicked (refd (plErr σ mod nm kind args))∧Ext w w'∧plErr σ mod nm kind args≠0):=by
 refine enter Tryz.func75 rfl 41 rfl rfl ?_
 refine CWd (W':=Ws w [] [] [HS]) (fun _ e=>by subst e; exact Ws.init (by simp [hHS])) ?_
 refine Cs (Cr ?_)
 refine V0 (Ya rfl) ?_
 refine WL.alloc (.inl rfl) rfl zr55 fun b11=>?_
 refine Ln (Et (Cs (Cr ?_)))
 refine V0 (Ym rfl) ?_
 refine V0 (Ym rfl) ?_
 refine V0 (Ym rfl) ?_
 refine WL.callpx (ι:=Int×FItem) (κ:=Unit) (.inl rfl) rfl en74 rfl (fun i=>.tuple #[.int .i64 i.1,.agg i.2.cells.toArray]) (fun i=>findT σ mod nm=some i) (fun _=>refd 5) (fun _=>findT σ mod nm=none) (fun w hw=>scFind_any HS sb σ w (hw.vs _ (by simp)) hS mod nm) ?_ ?_
 ·
  intro _ hp
  refine Ep ?_
  refine Epp fun w' hw=>?_
  rw [pl_none hp]
  exact .inr ⟨(),rfl,hw.fr,by decide⟩
 intro ⟨m18,it18⟩ hf18
 have hs18:=pl_some (kind:=kind) (args:=args) hf18
 refine V0 (Ym rfl) ?_
 refine V0 (Yx rfl rfl) ?_
 refine V0 (Yx rfl rfl) ?_
 refine WL.alloc (.inl rfl) rfl zr55 fun b13=>?_
 refine V0 (Ya rfl) ?_
 refine Lst 0 (.inl rfl) rfl rfl rfl sz55 rfl rfl rfl ?_
 refine Ln (Et (Cs (Cr ?_)))
 refine V0 (Ym rfl) ?_
 refine V0 (yl_ge rfl rfl) ?_
 refine V0 (Ym rfl) ?_
 apply WL.and 4 rfl rfl rfl rfl (.inl rfl) rfl rfl rfl rfl rfl
 ·
  intro hg0
  refine Lv (.g rfl rfl rfl) rfl (Yf fo55_0 rfl) ?_
  refine Lv (.g rfl rfl rfl) rfl (Yd 0 rfl rfl rfl na3) ?_
  refine Lv (.g rfl rfl rfl) rfl (Ym rfl) ?_
  refine Lv (.g rfl rfl rfl) rfl (yl_eq rfl rfl) ?_
  exact Gt 4 rfl rfl rfl
 refine WL.callpx (ι:=Unit) (κ:=Unit) (.inl rfl) rfl en33 rfl (fun _=>.tuple #[]) (fun _=>_=true) (fun _=>refd _) (fun _=>_=false) (fun w hw=>scMust_any _ _ w) ?_ ?_
 ·
  intro _ hp
  refine Ep ?_
  refine Epp fun w' hw=>?_
  have h7:¬(0≤m18∧it18.kind=kind):=by rintro ⟨h1,h2⟩; simp [h1,h2] at hp
  rw [if_pos h7] at hs18
  rw [hs18]
  exact .inr ⟨(),rfl,hw.fr,by decide⟩
 intro _ hm29
 have h7:0≤m18∧it18.kind=kind:=by simpa using hm29
 rw [if_neg (fun hc=>hc h7)] at hs18
 refine Ln (Et (Cs (Cr ?_)))
 refine V0 (Ym rfl) ?_
 refine V0 (yl_ne rfl rfl) ?_
 refine V0 (Ym rfl) ?_
 apply WL.or 4 rfl rfl rfl rfl (.inl rfl) rfl rfl rfl rfl rfl
 ·
  intro hg1
  refine Lv (.g rfl rfl rfl) rfl (Yf fo55_1 rfl) ?_
  refine Lv (.g rfl rfl rfl) rfl (Yd 0 rfl rfl rfl na3) ?_
  refine Lv (.g rfl rfl rfl) rfl (Ym rfl) ?_
  refine Lv (.g rfl rfl rfl) rfl (yl_eq rfl rfl) ?_
  exact Gt 4 rfl rfl rfl
 refine WL.callpx (ι:=Unit) (κ:=Unit) (.inl rfl) rfl en33 rfl (fun _=>.tuple #[]) (fun _=>_=true) (fun _=>refd _) (fun _=>_=false) (fun w hw=>scMust_any _ _ w) ?_ ?_
 ·
  intro _ hp
  refine Ep ?_
  refine Epp fun w' hw=>?_
  have h8:kind=4∧¬it18.n=args:=by simpa using hp
  rw [if_pos h8] at hs18
  rw [hs18]
  exact .inr ⟨(),rfl,hw.fr,by decide⟩
 intro _ hm38
 refine Ln (Et (Cs ?_))
 refine WC.draws1 1 [(0,true),(1,true),(2,true),(3,false)] mixed (by kernel_rfl) (fun _ _ _ d _ h=>by cases d<;>exact h) ?_
 refine Dq rfl (.inl rfl) rfl (fun _ h=>by have h:=Ws.out 1 h; exact h) (Ym rfl) ?_
 refine Dq rfl (.inl rfl) rfl (fun _ h=>by have h:=Ws.out 1 h; exact h) (Yda 0 rfl rfl ag55 rfl) ?_
 refine Dq rfl (.inl rfl) rfl (fun _ h=>by have h:=Ws.out 1 h; exact h) (Ya rfl) ?_
 refine De rfl (fun _ h=>by have h:=Ws.out 1 h; exact h) ?_
 refine Lst 1 (.inl rfl) rfl rfl rfl sz55 rfl rfl rfl ?_
 refine Ln (Ed ?_)
 refine WD.nil (fun _ h=>by have h:=Ws.out 1 h; exact h) ?_
 refine Et (Crt ?_)
 refine WE.retR (rs_2 rfl (rv_tmp rfl) (rv_agg 1 rfl rfl ag55 rfl)) fun w' hw=>?_
 have h8:¬(kind=4∧¬it18.n=args):=by rintro ⟨h1,h2⟩; simp [h1,h2] at hm38
 rw [if_neg h8] at hs18
 exact .inl ⟨(m18,it18),rfl,hw.fr,hf18,hs18⟩
theorem scNode_any (HS HE:View) (sb:Nat) (σ:Scp) (k:Nat) (x:TExpr) (a:Option Addr) (c:Nat) (w:World) (hHS:Le HS w) (hHE:Le HE w) (hS:Slv HS sb σ) (hN:ScNodes HS sb σ k) (hm:Sl (RdE k) 5 HE a c x.args) (hwt:wE x≤109951162777) :
   Calls Tryz.prog 92 #[.pointer (some ⟨sb,0,none⟩),.agg (exprV x a c).toArray] w fun e w'=>(∃r:SP,e = .returned (.agg (nodeV (nodeT σ x) r.1 r.2).toArray)∧Ext w w'∧errE σ x=0∧SlN (k+1) (nv w w') (nodeT σ x,r))∨(∃_:Unit,e = .panicked (refd (errE σ x))∧Ext w w'∧errE σ x≠0):=by
 have hwe:=wE_eq x
 have hcap:=hm.cap
 have hmax:=hm.max
 refine enter Tryz.func92 rfl 98 rfl rfl ?_
 refine CWd (W':=Ws w [] [] [HE,HS]) (fun _ e=>by subst e; exact Ws.init (by simp [hHE,hHS])) ?_
 refine Cs (Cr ?_)
 refine WL.box (.inl rfl) rfl rfl fun b3=>?_
 refine WL.alloc (.inl rfl) rfl zr158 fun b4=>?_
 refine Ln (Et (Cs (Cr ?_)))
 refine V0 (Yf fo116_0 rfl) ?_
 refine V0 (Yd 1 rfl rfl rfl na3) ?_
 refine V0 (Yf fo116_1 rfl) ?_
 refine V0 (Yd 1 rfl rfl rfl na3) ?_
 refine V0 (Yb zr158 pl158 rfl rfl) ?_
 refine WL.alloc (.inl rfl) rfl zr158 fun b5=>?_
 refine Lst 0 (.inl rfl) rfl rfl rfl sz158 rfl rfl rfl ?_
 refine Ln (Et ?_)
 refine WC.cutE (ι:=Unit) (fun _u=>[(0,.pointer (some ⟨sb,0,none⟩)),(3,.pointer (some ⟨b3,0,none⟩)),(4,.pointer (some ⟨b4,0,none⟩)),(5,.pointer (some ⟨b5,0,none⟩))]) (fun _u=>Ws w [] [blk b5 (.cells #[.int .i64 (resE σ x.op x.n x.mod x.nm x.args.length).op,.int .i64 (resE σ x.op x.n x.mod x.nm x.args.length).n,.int .i64 (resE σ x.op x.n x.mod x.nm x.args.length).m,.int .i64 (resE σ x.op x.n x.mod x.nm x.args.length).pl,.slice none 0 0] 158 (0,0)),blk b4 (.cells #[.int .i64 0,.int .i64 0,.int .i64 0,.int .i64 0,.slice none 0 0] 158 (0,0)),blk b3 (.cells (exprV x a c).toArray 116 (0,0))] [HE,HS]) (fun _u=>(resE σ x.op x.n x.mod x.nm x.args.length).e=0) ?_ ?_
 ·
  refine Cs (Cr ?_)
  refine V0 (Yf fo116_0 rfl) ?_
  refine V0 (Yd 2 rfl rfl rfl na3) ?_
  refine Ln (Et (Cb (Cs (Cr ?_))))
  refine V0 (yl_eq rfl rfl) ?_
  refine V0 (Ya rfl) ?_
  refine Ln (Et ?_)
  refine Cc rfl (fun hc0=>?_) (fun hc0=>?_)
  ·
   have hop:x.op=3:=by simpa using hc0
   refine Cs (Cr ?_)
   refine V0 (Ym rfl) ?_
   refine V0 (Yf fo116_2 rfl) ?_
   refine V0 (Yd 2 rfl rfl rfl na9) ?_
   refine V0 (Yf fo116_3 rfl) ?_
   refine V0 (Yd 2 rfl rfl rfl na9) ?_
   refine WL.callpx (ι:=Int×FItem) (κ:=Unit) (.inl rfl) rfl en74 rfl (fun i=>.tuple #[.int .i64 i.1,.agg i.2.cells.toArray]) (fun i=>findT σ x.mod x.nm=some i) (fun _=>refd 5) (fun _=>findT σ x.mod x.nm=none) (fun w hw=>scFind_any HS sb σ w (hw.vs _ (by simp)) hS x.mod x.nm) ?_ ?_
   ·
    intro _ hp
    refine Ep ?_
    refine WE.block_panic ?_
    refine Ep ?_
    refine Epp fun w' hw=>?_
    have he:errE σ x=5:=by rw [errE_eq,resE_no (by omega) hp]; rfl
    rw [he]
    exact .inr ⟨(),rfl,hw.fr,by decide⟩
   intro ⟨m27,it27⟩ hf27
   have hr3:=resE_3 (n:=x.n) (len:=x.args.length) hf27
   have hmm:=findT_m hf27
   rw [←hop] at hr3
   refine V0 (Ym rfl) ?_
   refine V0 (Yx rfl rfl) ?_
   refine V0 (Yx rfl rfl) ?_
   refine WL.alloc (.inl rfl) rfl zr55 fun b7=>?_
   refine V0 (Ya rfl) ?_
   refine Lst 0 (.inl rfl) rfl rfl rfl sz55 rfl rfl rfl ?_
   refine Ln (Et (Cb (Cs (Cr ?_))))
   refine V0 (Ym rfl) ?_
   refine V0 (yl_lt rfl rfl) ?_
   refine V0 (Ya rfl) ?_
   refine Ln (Et ?_)
   refine Cc rfl (fun hc1=>?_) (fun hc1=>?_)
   ·
    have hneg:m27 = -1:=by simp at hc1; omega
    have hres:(resE σ x.op x.n x.mod x.nm x.args.length)=⟨16,x.n,0,it27.pl,0⟩:=by rw [hr3,if_pos hneg]
    refine WC.draws1 1 [(0,true),(1,true),(2,true),(3,false),(4,false),(5,false)] mixed (by kernel_rfl) (fun _ _ _ d _ h=>by cases d<;>exact h) ?_
    refine Dq rfl (.inl rfl) rfl (fun _ h=>by have h:=Ws.out 1 h; exact h) (Yf fo55_2 rfl) ?_
    refine Dq rfl (.inl rfl) rfl (fun _ h=>by have h:=Ws.out 1 h; exact h) (Yd 0 rfl rfl rfl na3) ?_
    refine Dq rfl (.inl rfl) rfl (fun _ h=>by have h:=Ws.out 1 h; exact h) (Yf fo158_0 rfl) ?_
    refine De rfl (fun _ h=>by have h:=Ws.out 1 h; exact h) ?_
    refine Lst 1 (.inl rfl) rfl rfl rfl sz3 rfl rfl rfl ?_
    refine Ln (Ed ?_)
    refine De rfl (fun _ h=>by have h:=Ws.out 1 h; exact h) ?_
    refine V0 (Yf fo158_3 rfl) ?_
    refine Ln (Ed ?_)
    refine De rfl (fun _ h=>by have h:=Ws.out 1 h; exact h) ?_
    refine Lst 1 (.inl rfl) rfl rfl rfl sz3 rfl rfl rfl ?_
    refine Ln (Ed ?_)
    refine WD.nil (fun _ h=>by have h:=Ws.out 1 h; exact h) ?_
    refine Eb (Eb ?_)
    refine WE.reblk 1 (.cells #[.int .i64 (resE σ x.op x.n x.mod x.nm x.args.length).op,.int .i64 (resE σ x.op x.n x.mod x.nm x.args.length).n,.int .i64 (resE σ x.op x.n x.mod x.nm x.args.length).m,.int .i64 (resE σ x.op x.n x.mod x.nm x.args.length).pl,.slice none 0 0] 158 (0,0)) rfl (by rw [hres]; rfl) ?_
    exact WE.meetE () (by rw [hres]) (sc rfl (sc rfl (sc rfl (sc rfl sn)))) (fun _ h=>by
      have h:=h.fronti 3 rfl
      have h:=h.fronti 3 rfl
      have h:=h.fronti 3 rfl
      have h:=Ws.keep (L:=[_,_,_]) h
      exact h)
   ·
    have hneg:¬m27 = -1:=by simp at hc1; omega
    rw [if_neg hneg] at hr3
    refine Cs (Cr ?_)
    refine V0 (Yf fo55_0 rfl) ?_
    refine V0 (Yd 0 rfl rfl rfl na3) ?_
    refine V0 (yl_eq rfl rfl) ?_
    refine V0 (Ya rfl) ?_
    refine Ln (Et ?_)
    refine Cc rfl (fun hc2=>?_) (fun hc2=>?_)
    ·
     have hk1:it27.kind=1:=by simpa using hc2
     have hres:(resE σ x.op x.n x.mod x.nm x.args.length)=⟨1,it27.n,0,0,0⟩:=by rw [hr3,if_pos hk1]
     refine WC.draws1 1 [(0,true),(1,true),(2,true),(3,false),(4,false),(5,false)] mixed (by kernel_rfl) (fun _ _ _ d _ h=>by cases d<;>exact h) ?_
     refine Dq rfl (.inl rfl) rfl (fun _ h=>by have h:=Ws.out 1 h; exact h) (Yf fo55_1 rfl) ?_
     refine Dq rfl (.inl rfl) rfl (fun _ h=>by have h:=Ws.out 1 h; exact h) (Yd 0 rfl rfl rfl na3) ?_
     refine Dq rfl (.inl rfl) rfl (fun _ h=>by have h:=Ws.out 1 h; exact h) (Yf fo158_0 rfl) ?_
     refine De rfl (fun _ h=>by have h:=Ws.out 1 h; exact h) ?_
     refine Lst 1 (.inl rfl) rfl rfl rfl sz3 rfl rfl rfl ?_
     refine Ln (Ed ?_)
     refine De rfl (fun _ h=>by have h:=Ws.out 1 h; exact h) ?_
     refine V0 (Yf fo158_1 rfl) ?_
     refine Ln (Ed ?_)
     refine De rfl (fun _ h=>by have h:=Ws.out 1 h; exact h) ?_
     refine Lst 1 (.inl rfl) rfl rfl rfl sz3 rfl rfl rfl ?_
     refine Ln (Ed ?_)
     refine WD.nil (fun _ h=>by have h:=Ws.out 1 h; exact h) ?_
     refine Eb (Eb ?_)
     refine WE.reblk 1 (.cells #[.int .i64 (resE σ x.op x.n x.mod x.nm x.args.length).op,.int .i64 (resE σ x.op x.n x.mod x.nm x.args.length).n,.int .i64 (resE σ x.op x.n x.mod x.nm x.args.length).m,.int .i64 (resE σ x.op x.n x.mod x.nm x.args.length).pl,.slice none 0 0] 158 (0,0)) rfl (by rw [hres]; rfl) ?_
     exact WE.meetE () (by rw [hres]) (sc rfl (sc rfl (sc rfl (sc rfl sn)))) (fun _ h=>by
       have h:=h.fronti 3 rfl
       have h:=h.fronti 3 rfl
       have h:=h.fronti 3 rfl
       have h:=Ws.keep (L:=[_,_,_]) h
       exact h)
    ·
     have hk1:¬it27.kind=1:=by simpa using hc2
     rw [if_neg hk1] at hr3
     refine Cs (Cr ?_)
     refine V0 (Yf fo55_0 rfl) ?_
     refine V0 (Yd 0 rfl rfl rfl na3) ?_
     refine V0 (yl_eq rfl rfl) ?_
     refine WL.callpx (ι:=Unit) (κ:=Unit) (.inl rfl) rfl en33 rfl (fun _=>.tuple #[]) (fun _=>_=true) (fun _=>refd _) (fun _=>_=false) (fun w hw=>scMust_any _ _ w) ?_ ?_
     ·
      intro _ hp
      refine Ep ?_
      refine WE.block_panic ?_
      refine WE.block_panic ?_
      refine Ep ?_
      refine Epp fun w' hw=>?_
      have hk2:¬it27.kind=2:=by simpa using hp
      rw [if_neg hk2] at hr3
      have he:errE σ x=7:=by rw [errE_eq,hr3]; rfl
      rw [he]
      exact .inr ⟨(),rfl,hw.fr,by decide⟩
     intro _ hm33
     have hk2:it27.kind=2:=by simpa using hm33
     have hres:(resE σ x.op x.n x.mod x.nm x.args.length)=⟨x.op,x.n,m27,it27.pl,0⟩:=by rw [hr3,if_pos hk2,hop]
     refine Ln (Et ?_)
     refine WC.draws1 1 [(0,true),(1,true),(2,true),(3,true),(4,false),(5,false),(6,false)] mixed (by kernel_rfl) (fun _ _ _ d _ h=>by cases d<;>exact h) ?_
     refine Dq rfl (.inl rfl) rfl (fun _ h=>by have h:=Ws.out 1 h; exact h) (Ym rfl) ?_
     refine Dq rfl (.inl rfl) rfl (fun _ h=>by have h:=Ws.out 1 h; exact h) (Yf fo55_2 rfl) ?_
     refine Dq rfl (.inl rfl) rfl (fun _ h=>by have h:=Ws.out 1 h; exact h) (Yd 0 rfl rfl rfl na3) ?_
     refine Dq rfl (.inl rfl) rfl (fun _ h=>by have h:=Ws.out 1 h; exact h) (Yf fo158_2 rfl) ?_
     refine De rfl (fun _ h=>by have h:=Ws.out 1 h; exact h) ?_
     refine Lst 1 (.inl rfl) rfl rfl rfl sz3 rfl rfl rfl ?_
     refine Ln (Ed ?_)
     refine De rfl (fun _ h=>by have h:=Ws.out 1 h; exact h) ?_
     refine V0 (Yf fo158_3 rfl) ?_
     refine Ln (Ed ?_)
     refine De rfl (fun _ h=>by have h:=Ws.out 1 h; exact h) ?_
     refine Lst 1 (.inl rfl) rfl rfl rfl sz3 rfl rfl rfl ?_
     refine Ln (Ed ?_)
     refine WD.nil (fun _ h=>by have h:=Ws.out 1 h; exact h) ?_
     refine Eb (Eb ?_)
     refine WE.reblk 1 (.cells #[.int .i64 (resE σ x.op x.n x.mod x.nm x.args.length).op,.int .i64 (resE σ x.op x.n x.mod x.nm x.args.length).n,.int .i64 (resE σ x.op x.n x.mod x.nm x.args.length).m,.int .i64 (resE σ x.op x.n x.mod x.nm x.args.length).pl,.slice none 0 0] 158 (0,0)) rfl (by rw [hres]; rfl) ?_
     exact WE.meetE () (by rw [hres]) (sc rfl (sc rfl (sc rfl (sc rfl sn)))) (fun _ h=>by
       have h:=h.fronti 3 rfl
       have h:=h.fronti 3 rfl
       have h:=h.fronti 3 rfl
       have h:=Ws.keep (L:=[_,_,_]) h
       exact h)
  ·
   have h3:¬x.op=3:=by simpa using hc0
   refine Cs (Cr ?_)
   refine V0 (yl_eq rfl rfl) ?_
   refine V0 (Ya rfl) ?_
   refine Ln (Et ?_)
   refine Cc rfl (fun hc3=>?_) (fun hc3=>?_)
   ·
    have hop:x.op=4:=by simpa using hc3
    refine Cs (Cr ?_)
    refine V0 (Ym rfl) ?_
    refine V0 (Yf fo116_2 rfl) ?_
    refine V0 (Yd 2 rfl rfl rfl na9) ?_
    refine V0 (Yf fo116_3 rfl) ?_
    refine V0 (Yd 2 rfl rfl rfl na9) ?_
    refine WL.callpx (ι:=Int×FItem) (κ:=Unit) (.inl rfl) rfl en75 rfl (fun i=>.tuple #[.int .i64 i.1,.agg i.2.cells.toArray]) (fun i=>findT σ x.mod x.nm=some i∧plErr σ x.mod x.nm 3 0=0) (fun _=>refd (plErr σ x.mod x.nm 3 0)) (fun _=>plErr σ x.mod x.nm 3 0≠0) (fun w hw=>scPlace_any HS sb σ w (hw.vs _ (by simp)) hS x.mod x.nm 3 0) ?_ ?_
    ·
     intro _ hp
     refine Ep ?_
     refine WE.block_panic ?_
     refine Ep ?_
     refine Epp fun w' hw=>?_
     have he:errE σ x=plErr σ x.mod x.nm 3 0:=by rw [errE_eq,hop,resE_4e hp,er_ne hp]
     rw [he]
     exact .inr ⟨(),rfl,hw.fr,hp⟩
    intro ⟨m62,it62⟩ ⟨hf62,hq62⟩
    have hres:(resE σ x.op x.n x.mod x.nm x.args.length)=⟨x.op,it62.n,m62,it62.pl,0⟩:=by rw [hop]; exact resE_4 hf62 hq62
    refine V0 (Ym rfl) ?_
    refine V0 (Yx rfl rfl) ?_
    refine V0 (Yx rfl rfl) ?_
    refine WL.alloc (.inl rfl) rfl zr55 fun b9=>?_
    refine V0 (Ya rfl) ?_
    refine Lst 0 (.inl rfl) rfl rfl rfl sz55 rfl rfl rfl ?_
    refine Ln (Et ?_)
    refine WC.draws1 1 [(0,true),(1,true),(2,true),(3,true),(4,true),(5,true),(6,false),(7,false),(8,false),(9,false),(10,false)] mixed (by kernel_rfl) (fun _ _ _ d _ h=>by cases d<;>exact h) ?_
    refine Dq rfl (.inl rfl) rfl (fun _ h=>by have h:=Ws.out 1 h; exact h) (Ym rfl) ?_
    refine Dq rfl (.inl rfl) rfl (fun _ h=>by have h:=Ws.out 1 h; exact h) (Yf fo55_2 rfl) ?_
    refine Dq rfl (.inl rfl) rfl (fun _ h=>by have h:=Ws.out 1 h; exact h) (Yd 0 rfl rfl rfl na3) ?_
    refine Dq rfl (.inl rfl) rfl (fun _ h=>by have h:=Ws.out 1 h; exact h) (Yf fo55_1 rfl) ?_
    refine Dq rfl (.inl rfl) rfl (fun _ h=>by have h:=Ws.out 1 h; exact h) (Yd 0 rfl rfl rfl na3) ?_
    refine Dq rfl (.inl rfl) rfl (fun _ h=>by have h:=Ws.out 1 h; exact h) (Yf fo158_2 rfl) ?_
    refine De rfl (fun _ h=>by have h:=Ws.out 1 h; exact h) ?_
    refine Lst 1 (.inl rfl) rfl rfl rfl sz3 rfl rfl rfl ?_
    refine Ln (Ed ?_)
    refine De rfl (fun _ h=>by have h:=Ws.out 1 h; exact h) ?_
    refine V0 (Yf fo158_3 rfl) ?_
    refine Ln (Ed ?_)
    refine De rfl (fun _ h=>by have h:=Ws.out 1 h; exact h) ?_
    refine Lst 1 (.inl rfl) rfl rfl rfl sz3 rfl rfl rfl ?_
    refine Ln (Ed ?_)
    refine De rfl (fun _ h=>by have h:=Ws.out 1 h; exact h) ?_
    refine V0 (Yf fo158_1 rfl) ?_
    refine Ln (Ed ?_)
    refine De rfl (fun _ h=>by have h:=Ws.out 1 h; exact h) ?_
    refine Lst 1 (.inl rfl) rfl rfl rfl sz3 rfl rfl rfl ?_
    refine Ln (Ed ?_)
    refine WD.nil (fun _ h=>by have h:=Ws.out 1 h; exact h) ?_
    refine Eb ?_
    refine WE.reblk 1 (.cells #[.int .i64 (resE σ x.op x.n x.mod x.nm x.args.length).op,.int .i64 (resE σ x.op x.n x.mod x.nm x.args.length).n,.int .i64 (resE σ x.op x.n x.mod x.nm x.args.length).m,.int .i64 (resE σ x.op x.n x.mod x.nm x.args.length).pl,.slice none 0 0] 158 (0,0)) rfl (by rw [hres]; rfl) ?_
    exact WE.meetE () (by rw [hres]) (sc rfl (sc rfl (sc rfl (sc rfl sn)))) (fun _ h=>by
      have h:=h.fronti 3 rfl
      have h:=h.fronti 3 rfl
      have h:=h.fronti 3 rfl
      have h:=Ws.keep (L:=[_,_,_]) h
      exact h)
   ·
    have h4:¬x.op=4:=by simpa using hc3
    refine Cs (Cr ?_)
    refine V0 (yl_eq rfl rfl) ?_
    refine V0 (Ya rfl) ?_
    refine Ln (Et ?_)
    refine Cc rfl (fun hc4=>?_) (fun hc4=>?_)
    ·
     have hop:x.op=5:=by simpa using hc4
     refine Cs (Cr ?_)
     refine V0 (Ym rfl) ?_
     refine V0 (Yf fo116_2 rfl) ?_
     refine V0 (Yd 2 rfl rfl rfl na9) ?_
     refine V0 (Yf fo116_3 rfl) ?_
     refine V0 (Yd 2 rfl rfl rfl na9) ?_
     refine V0 (Yf fo116_4 rfl) ?_
     refine V0 (Yd 2 rfl rfl rfl na114) ?_
     refine V0 (Yn es114 rfl) ?_
     refine WL.callpx (ι:=Int×FItem) (κ:=Unit) (.inl rfl) rfl en75 rfl (fun i=>.tuple #[.int .i64 i.1,.agg i.2.cells.toArray]) (fun i=>findT σ x.mod x.nm=some i∧plErr σ x.mod x.nm 4 (x.args.length:Int)=0) (fun _=>refd (plErr σ x.mod x.nm 4 (x.args.length:Int))) (fun _=>plErr σ x.mod x.nm 4 (x.args.length:Int)≠0) (fun w hw=>scPlace_any HS sb σ w (hw.vs _ (by simp)) hS x.mod x.nm 4 (x.args.length:Int)) ?_ ?_
     ·
      intro _ hp
      refine Ep ?_
      refine WE.block_panic ?_
      refine Ep ?_
      refine Epp fun w' hw=>?_
      have he:errE σ x=plErr σ x.mod x.nm 4 (x.args.length:Int):=by rw [errE_eq,hop,resE_5e hp,er_ne hp]
      rw [he]
      exact .inr ⟨(),rfl,hw.fr,hp⟩
     intro ⟨m84,it84⟩ ⟨hf84,hq84⟩
     have hres:(resE σ x.op x.n x.mod x.nm x.args.length)=⟨x.op,x.n,m84,it84.pl,0⟩:=by rw [hop]; exact resE_5 hf84 hq84
     refine V0 (Ym rfl) ?_
     refine V0 (Yx rfl rfl) ?_
     refine V0 (Yx rfl rfl) ?_
     refine WL.alloc (.inl rfl) rfl zr55 fun b11=>?_
     refine V0 (Ya rfl) ?_
     refine Lst 0 (.inl rfl) rfl rfl rfl sz55 rfl rfl rfl ?_
     refine Ln (Et ?_)
     refine WC.draws1 1 [(0,true),(1,true),(2,true),(3,true),(4,false),(5,false),(6,false)] mixed (by kernel_rfl) (fun _ _ _ d _ h=>by cases d<;>exact h) ?_
     refine Dq rfl (.inl rfl) rfl (fun _ h=>by have h:=Ws.out 1 h; exact h) (Ym rfl) ?_
     refine Dq rfl (.inl rfl) rfl (fun _ h=>by have h:=Ws.out 1 h; exact h) (Yf fo55_2 rfl) ?_
     refine Dq rfl (.inl rfl) rfl (fun _ h=>by have h:=Ws.out 1 h; exact h) (Yd 0 rfl rfl rfl na3) ?_
     refine Dq rfl (.inl rfl) rfl (fun _ h=>by have h:=Ws.out 1 h; exact h) (Yf fo158_2 rfl) ?_
     refine De rfl (fun _ h=>by have h:=Ws.out 1 h; exact h) ?_
     refine Lst 1 (.inl rfl) rfl rfl rfl sz3 rfl rfl rfl ?_
     refine Ln (Ed ?_)
     refine De rfl (fun _ h=>by have h:=Ws.out 1 h; exact h) ?_
     refine V0 (Yf fo158_3 rfl) ?_
     refine Ln (Ed ?_)
     refine De rfl (fun _ h=>by have h:=Ws.out 1 h; exact h) ?_
     refine Lst 1 (.inl rfl) rfl rfl rfl sz3 rfl rfl rfl ?_
     refine Ln (Ed ?_)
     refine WD.nil (fun _ h=>by have h:=Ws.out 1 h; exact h) ?_
     refine Eb ?_
     refine WE.reblk 1 (.cells #[.int .i64 (resE σ x.op x.n x.mod x.nm x.args.length).op,.int .i64 (resE σ x.op x.n x.mod x.nm x.args.length).n,.int .i64 (resE σ x.op x.n x.mod x.nm x.args.length).m,.int .i64 (resE σ x.op x.n x.mod x.nm x.args.length).pl,.slice none 0 0] 158 (0,0)) rfl (by rw [hres]; rfl) ?_
     exact WE.meetE () (by rw [hres]) (sc rfl (sc rfl (sc rfl (sc rfl sn)))) (fun _ h=>by
       have h:=h.fronti 3 rfl
       have h:=h.fronti 3 rfl
       have h:=h.fronti 3 rfl
       have h:=Ws.keep (L:=[_,_,_]) h
       exact h)
    ·
     have h5:¬x.op=5:=by simpa using hc4
     have hres:(resE σ x.op x.n x.mod x.nm x.args.length)=⟨x.op,x.n,0,0,0⟩:=resE_0 h3 h4 h5
     refine Ck (Eb ?_)
     refine WE.reblk 0 (.cells #[.int .i64 (resE σ x.op x.n x.mod x.nm x.args.length).op,.int .i64 (resE σ x.op x.n x.mod x.nm x.args.length).n,.int .i64 (resE σ x.op x.n x.mod x.nm x.args.length).m,.int .i64 (resE σ x.op x.n x.mod x.nm x.args.length).pl,.slice none 0 0] 158 (0,0)) rfl (by rw [hres]; rfl) ?_
     exact WE.meetE () (by rw [hres]) (sc rfl (sc rfl (sc rfl (sc rfl sn)))) (fun _ h=>by
       have h:=h.fronti 2 rfl
       have h:=h.fronti 2 rfl
       have h:=h.fronti 2 rfl
       exact h)
 intro _ hR0
 refine Cs (Cr ?_)
 refine V0 (Ym rfl) ?_
 refine V0 (Yf fo116_4 rfl) ?_
 refine V0 (Yd 2 rfl rfl rfl na114) ?_
 refine WL.calldx (ι:=SP) (κ:=Unit) (.inl rfl) rfl en76 rfl (fun r=>.slice r.1 (nodesT σ x.args).length r.2) (fun F r=>errEs σ x.args=0∧Sl (RdN (k+1)) 5 F r.1 r.2 (nodesT σ x.args)) (fun _=>refd (errEs σ x.args)) (fun _=>errEs σ x.args≠0) (fun w hw=>hN HE x.args a c w (hw.vs _ (by simp)) (hw.vs _ (by simp)) hm (by omega)) ?_ ?_
 ·
  intro _ hp
  refine Ep ?_
  refine Epp fun w' hw=>?_
  have he:errE σ x=errEs σ x.args:=by rw [errE_eq,hR0,er_0]
  rw [he]
  exact .inr ⟨(),rfl,hw.fr,hp⟩
 intro F95 r95 hfr95 ⟨he95,h95⟩
 refine V0 (Yf fo158_4 rfl) ?_
 refine Lst 0 (.inl rfl) rfl rfl rfl sz66 rfl rfl rfl ?_
 refine Ln (Et (Cs (Cr ?_)))
 refine V0 (Yda 0 rfl rfl ag158 rfl) ?_
 refine Lst 1 (.inl rfl) rfl rfl rfl sz158 rfl rfl rfl ?_
 refine Ln (Et (Crt ?_))
 refine WE.retR (rs_1 rfl (rv_agg 1 rfl rfl ag158 rfl)) fun w' hw=>?_
 rw [nodeT_eq]
 exact .inl ⟨r95,rfl,hw.fr,by rw [errE_eq,hR0,er_0,he95],slN_mv h95 (nv_vs hw (by simp) hfr95)⟩
end Go.Proofs.YtinnlppbkhhoiaaGreatDoor
end
section
namespace Go.Proofs.YtinnlppbkhhoiaaGreatDoor
open Go.Bw
set_option linter.unusedVariables false
set_option linter.unusedSimpArgs false
def ScActs (HS:View) (sb:Nat) (σ:Scp) (ke k:Nat):Prop:=∀(HE:View) (l:List TStmt) (a:Option Addr) (c:Nat) (w:World),Le HS w→Le HE w→Sl (RdS ke k) 6 HE a c l→wSs l≤109951162777→
 Calls Tryz.prog 36 #[.pointer (some ⟨sb,0,none⟩),.slice a l.length c] w fun e w'=>(∃r:SP,e = .returned (.slice r.1 (actsT σ l).length r.2)∧Ext w w'∧errSs σ l=0∧Sl (RdA (ke+1) (k+1)) 7 (nv w w') r.1 r.2 (actsT σ l))∨(∃_:Unit,e = .panicked (refd (errSs σ l))∧Ext w w'∧errSs σ l≠0)
theorem map_snoc {X T S:Type} {f:X→T} {g:S→T} {es:List X} {l:List S} {i:Nat} {x:S} {e:X} (h:es.map f=(l.take i).map g) (hx:l[i]? = some x) (he:f e=g x):(es++[e]).map f=(l.take (i+1)).map g:=by
 rw [take_snoc hx]; simp [h,he]
theorem map_len {X T S:Type} {f:X→T} {g:S→T} {es:List X} {l:List S} {i:Nat} (h:es.map f=(l.take i).map g) (hi:i≤l.length):es.length=i:=by
 have:=congrArg List.length h
 simpa [Nat.min_eq_left hi] using this
theorem map_all {X T S:Type} {f:X→T} {g:S→T} {es:List X} {l:List S} {i:Nat} (h:es.map f=(l.take i).map g) (hi:i=l.length):es.map f=l.map g:=by subst hi; simpa using h
theorem en92:Enters Tryz.prog 92:=enters_of Tryz.func92 (by kernel_rfl) rfl
theorem el66:EltOk Tryz.prog 66 158 (.agg #[.int .i64 0,.int .i64 0,.int .i64 0,.int .i64 0,.slice none 0 0]) 5 56:=eltOk_of (by kernel_rfl)
theorem zr68:zeroOf Tryz.prog 68=some (.agg #[.int .i64 0,.int .i64 0,.int .i64 0,.int .i64 0,.slice none 0 0,.slice none 0 0,.slice none 0 0]):=by kernel_rfl
theorem pl68:placesP Tryz.prog 68=some [(0,1),(1,1),(2,1),(3,1),(4,1),(5,1),(6,1)]:=by kernel_rfl
theorem sz68:sizeP Tryz.prog 68=some 7:=by kernel_rfl
theorem fo68_2:fieldOff Tryz.prog 68 2=some 2:=by kernel_rfl
theorem fo68_3:fieldOff Tryz.prog 68 3=some 3:=by kernel_rfl
theorem fo68_1:fieldOff Tryz.prog 68 1=some 1:=by kernel_rfl
theorem fo68_4:fieldOff Tryz.prog 68 4=some 4:=by kernel_rfl
theorem en36:Enters Tryz.prog 36:=enters_of Tryz.func36 (by kernel_rfl) rfl
theorem fo68_5:fieldOff Tryz.prog 68 5=some 5:=by kernel_rfl
theorem sz40:sizeP Tryz.prog 40=some 1:=by kernel_rfl
theorem fo68_6:fieldOff Tryz.prog 68 6=some 6:=by kernel_rfl
theorem ag68:aggOf Tryz.prog 68=some 7:=by kernel_rfl
theorem en57:Enters Tryz.prog 57:=enters_of Tryz.func57 (by kernel_rfl) rfl
theorem el40:EltOk Tryz.prog 40 68 (.agg #[.int .i64 0,.int .i64 0,.int .i64 0,.int .i64 0,.slice none 0 0,.slice none 0 0,.slice none 0 0]) 7 104:=eltOk_of (by kernel_rfl)
theorem scNodes_any (HS HE:View) (sb:Nat) (σ:Scp) (hS:Slv HS sb σ) (k:Nat) (l:List TExpr) (a:Option Addr) (c:Nat) (w:World) (hHS:Le HS w) (hHE:Le HE w) (hm:Sl (RdE k) 5 HE a c l) (hwt:wEs l≤109951162777) :
   Calls Tryz.prog 76 #[.pointer (some ⟨sb,0,none⟩),.slice a l.length c] w fun e w'=>(∃r:SP,e = .returned (.slice r.1 (nodesT σ l).length r.2)∧Ext w w'∧errEs σ l=0∧Sl (RdN (k+1)) 5 (nv w w') r.1 r.2 (nodesT σ l))∨(∃_:Unit,e = .panicked (refd (errEs σ l))∧Ext w w'∧errEs σ l≠0):=by
 induction k using Nat.strongRecOn generalizing HE l a c w
 rename_i k ih
 have hcap:=hm.cap
 have hmax:=hm.max
 have hlw:=wEs_len l
 refine enter Tryz.func76 rfl 22 rfl rfl ?_
 refine CWd (W':=Ws w [] [] [HE,HS]) (fun _ e=>by subst e; exact Ws.init (by simp [hHE,hHS])) ?_
 refine Cs (Cr ?_)
 refine V0 (Ya rfl) ?_
 refine Ln (Et (Cs (Cr ?_)))
 refine V0 (Ya rfl) ?_
 refine LW (fun _ h=>h.osl_nil 158 5) ?_
 refine WL.v0 ?_
 refine Ln (Et (Cs (Cs (Cr ?_))))
 refine V0 (Ym rfl) ?_
 refine V0 (Yn es114 rfl) ?_
 refine V0 (Ym rfl) ?_
 refine Ln (Et (Cb ?_))
 refine CK (ι:=GX XN) (fun g=>[(10,.int .i64 (g.i:Int)),(5,.slice g.a g.es.length g.c)]) [(0,_),(4,_),(8,_),(9,_)] (fun g=>Ws w [] [osT 158 5 XN.cells g.a g.c g.es] [g.J,HE,HS]) (fun g=>g.i≤l.length∧g.es.map (·.1)=(l.take g.i).map (nodeT σ)∧ers (errE σ) (l.take g.i)=0∧(Fresh w g.J∧Xs (SlN k) g.J g.es)) (fun g=>l.length-g.i) ⟨0,[],none,0,v0⟩ ⟨Nat.zero_le _,rfl,rfl,⟨v0_fresh w,Xs.nil _⟩⟩ (sc rfl (sc rfl (sc rfl (sc rfl (sc rfl (sc rfl sn)))))) (fun _ h=>by have h:=Ws.drops h (Vs':=[v0,HE,HS]) (by simp); exact h) ?_
 intro g ⟨hi,hmap,hers,⟨hfJ,hX⟩⟩
 refine Cs (Cr ?_)
 refine V0 (yl_lt rfl rfl) ?_
 refine Ln (Et (Cs ?_))
 refine Cc rfl (fun hc0=>?_) (fun hc0=>?_)
 ·
  have hlt:g.i<l.length:=by simpa using hc0
  obtain ⟨y,hyi⟩:∃q,l[g.i]? = some q:=⟨_,List.getElem?_eq_getElem hlt⟩
  obtain ⟨pby,poy,hay,hry⟩:=hm.elt g.i y hyi
  obtain ⟨k2,rfl⟩:∃k2,k=k2+1:=by
    cases k with
    | zero=>exact hry.elim
    | succ k2=>exact ⟨k2,rfl⟩
  obtain ⟨ya,yn,hrow,hsub⟩:=hry
  have hel:=map_len hmap hi
  refine Ck (Et (Cs (Cb (Cs (Cr ?_)))))
  refine V0 (Yo es114 rfl rfl hay (by omega)) ?_
  refine V0 (yl_lda 1 ag116 rfl rfl rfl (hrow)) ?_
  refine WL.alloc (.inl rfl) rfl zr116 fun b7=>?_
  refine Lst 0 (.inl rfl) rfl rfl rfl sz116 rfl rfl rfl ?_
  refine Ln (Et (Cr ?_))
  refine V0 (Ym rfl) ?_
  refine V0 (Ym rfl) ?_
  refine V0 (Yda 0 rfl rfl ag116 rfl) ?_
  refine WL.calldx (ι:=SP) (κ:=Unit) (.inl rfl) rfl en92 rfl (fun r=>.agg (nodeV (nodeT σ y) r.1 r.2).toArray) (fun F r=>errE σ y=0∧SlN (k2+1) F (nodeT σ y,r)) (fun _=>refd (errE σ y)) (fun _=>errE σ y≠0) (fun w hw=>scNode_any HS HE sb σ k2 y ya yn w (hw.vs _ (by simp)) (hw.vs _ (by simp)) hS (fun HE l a c w h1 h2 h3 h4=>ih k2 (by omega) HE l a c w h1 h2 h3 h4) hsub (by have:=wEs_mem hyi; omega)) ?_ ?_
  ·
   intro _ hp
   refine WE.block_panic ?_
   refine Ep ?_
   refine Ep ?_
   refine WE.block_panic ?_
   refine Ep ?_
   refine Epp fun w' hw=>?_
   have he:errEs σ l=errE σ y:=by rw [errEs_ers,ers_hit (errE σ) hyi hers hp]
   rw [he]
   exact .inr ⟨(),rfl,hw.fr,hp⟩
  intro F17 r17 hfr17 ⟨he17,h17⟩
  refine WL.vjoin fun J17 j17a j17b j17f=>?_
  refine Lb (.inl rfl) rfl el66 rfl rfl rfl rfl fun b18=>?_
  refine Lrb 0 (.cells (XN.cells (nodeT σ y,r17)).toArray 158 (0,0)) rfl (rfl) ?_
  refine LA (((nodeT σ y,r17):XN)) 2 0 (.inl rfl) rfl el66 rfl rfl rfl rfl rfl rfl (by omega) (by omega) fun a19 c19=>?_
  refine V0 (Ya rfl) ?_
  refine Ln (Eb (Et (Cr ?_)))
  refine V0 (Yi rfl rfl rfl (by omega)) ?_
  refine V0 (Ym rfl) ?_
  refine Ln ?_
  exact Ea (⟨g.i+1,g.es++[(nodeT σ y,r17)],a19,c19,J17⟩:GX XN) (by show _-(g.i+1)<_; omega) ⟨(by show g.i+1≤_; omega),map_snoc hmap hyi rfl,by show ers (errE σ) (l.take (g.i+1))=0; rw [ers_take (errE σ) hyi,hers,er_0,he17],⟨j17f _ hfr17 hfJ,Xs.snoc (R:=SlN _) (fun hv h=>SlN.mv hv h) hX j17b j17a h17⟩⟩ (sc rfl (sc rfl (sc rfl (sc rfl (sc rfl (sc rfl sn)))))) (fun _ h=>Ws.drop (L:=[_,_]) h)
 ·
  have hge:g.i=l.length:=by simp at hc0; omega
  refine Ce (Ex (Ex (Ebh (Et (Cs ?_)))))
  refine WC.oslN (rd:=rdXN) 0 rfl (fun _ hk=>by cases hk) XN.cells_len (fun _ _ _ _ h=>h) fun K7 fK7 hK7=>?_
  refine Cr ?_
  refine V0 (Ym rfl) ?_
  refine V0 (Ya rfl) ?_
  refine Ln (Et (Crt ?_))
  refine WE.ret1 rfl rfl fun w' hw=>?_
  have hz:errEs σ l=0:=by rw [errEs_ers,←hers,hge,List.take_length]
  have hall:=map_all hmap hge
  rw [←nodesT_map] at hall
  rw [←hall]
  exact .inl ⟨(g.a,g.c),by rw [List.length_map],hw.fr,hz,slN_of hK7 (nv_vs hw (by simp) fK7) (nv_vs hw (by simp) hfJ) hX⟩
theorem scNodes_all (HS:View) (sb:Nat) (σ:Scp) (hS:Slv HS sb σ) (k:Nat):ScNodes HS sb σ k:=by
 intro HE l a c w hHS hHE hm hwt
 exact scNodes_any HS HE sb σ hS k l a c w hHS hHE hm hwt
theorem scAct_any (HS HE:View) (sb:Nat) (σ:Scp) (ke k:Nat) (x:TStmt) (a:Option Addr) (c:Nat) (a2:Option Addr) (c2:Nat) (a3:Option Addr) (c3:Nat) (w:World) (hHS:Le HS w) (hHE:Le HE w) (hS:Slv HS sb σ) (hN:ScNodes HS sb σ ke) (hA:ScActs HS sb σ ke k) (hm:Sl (RdE ke) 5 HE a c x.args) (hs2:Sl (RdS ke k) 6 HE a2 c2 x.body) (hs3:Sl (RdS ke k) 6 HE a3 c3 x.other) (hwt:wS x≤109951162777) :
   Calls Tryz.prog 57 #[.pointer (some ⟨sb,0,none⟩),.agg (stmtV x a c a2 c2 a3 c3).toArray] w fun e w'=>(∃r:AAt,e = .returned (.agg (actV (actT σ x) r).toArray)∧Ext w w'∧errS σ x=0∧SlA (ke+1) (k+1) (nv w w') (actT σ x,r))∨(∃_:Unit,e = .panicked (refd (errS σ x))∧Ext w w'∧errS σ x≠0):=by
 have hws:=wS_eq x
 have hcap:=hm.cap
 have hmax:=hm.max
 refine enter Tryz.func57 rfl 88 rfl rfl ?_
 refine CWd (W':=Ws w [] [] [HE,HS]) (fun _ e=>by subst e; exact Ws.init (by simp [hHE,hHS])) ?_
 refine Cs (Cr ?_)
 refine WL.box (.inl rfl) rfl rfl fun b3=>?_
 refine WL.alloc (.inl rfl) rfl zr68 fun b4=>?_
 refine Ln (Et (Cs (Cr ?_)))
 refine V0 (Yf fo118_0 rfl) ?_
 refine V0 (Yd 1 rfl rfl rfl na3) ?_
 refine V0 (Yb zr68 pl68 rfl rfl) ?_
 refine WL.alloc (.inl rfl) rfl zr68 fun b5=>?_
 refine Lst 0 (.inl rfl) rfl rfl rfl sz68 rfl rfl rfl ?_
 refine Ln (Et (Cs (Cr ?_)))
 refine WL.alloc (.inl rfl) rfl zr55 fun b6=>?_
 refine Ln (Et ?_)
 refine WC.cutE (ι:=Unit) (fun _u=>[(0,.pointer (some ⟨sb,0,none⟩)),(3,.pointer (some ⟨b3,0,none⟩)),(4,.pointer (some ⟨b4,0,none⟩)),(5,.pointer (some ⟨b5,0,none⟩))]) (fun _u=>Ws w [] [blk b5 (.cells #[.int .i64 (resS σ x.op x.mod x.nm x.args.length).op,.int .i64 (resS σ x.op x.mod x.nm x.args.length).n,.int .i64 (resS σ x.op x.mod x.nm x.args.length).m,.int .i64 (resS σ x.op x.mod x.nm x.args.length).pl,.slice none 0 0,.slice none 0 0,.slice none 0 0] 68 (0,0)),blk b4 (.cells #[.int .i64 0,.int .i64 0,.int .i64 0,.int .i64 0,.slice none 0 0,.slice none 0 0,.slice none 0 0] 68 (0,0)),blk b3 (.cells (stmtV x a c a2 c2 a3 c3).toArray 118 (0,0))] [HE,HS]) (fun _u=>(resS σ x.op x.mod x.nm x.args.length).e=0) ?_ ?_
 ·
  refine Cs (Cr ?_)
  refine V0 (Yf fo118_0 rfl) ?_
  refine V0 (Yd 3 rfl rfl rfl na3) ?_
  refine Ln (Et (Cb (Cs (Cr ?_))))
  refine V0 (yl_eq rfl rfl) ?_
  refine V0 (Ya rfl) ?_
  refine Ln (Et ?_)
  refine Cc rfl (fun hc0=>?_) (fun hc0=>?_)
  ·
   have hop:x.op=1:=by simpa using hc0
   refine Cs (Cr ?_)
   refine V0 (Ym rfl) ?_
   refine V0 (Yf fo118_1 rfl) ?_
   refine V0 (Yd 3 rfl rfl rfl na9) ?_
   refine V0 (Yf fo118_2 rfl) ?_
   refine V0 (Yd 3 rfl rfl rfl na9) ?_
   refine WL.callpx (ι:=Int×FItem) (κ:=Unit) (.inl rfl) rfl en74 rfl (fun i=>.tuple #[.int .i64 i.1,.agg i.2.cells.toArray]) (fun i=>findT σ x.mod x.nm=some i) (fun _=>refd 5) (fun _=>findT σ x.mod x.nm=none) (fun w hw=>scFind_any HS sb σ w (hw.vs _ (by simp)) hS x.mod x.nm) ?_ ?_
   ·
    intro _ hp
    refine Ep ?_
    refine WE.block_panic ?_
    refine Ep ?_
    refine Epp fun w' hw=>?_
    have he:errS σ x=5:=by rw [errS_eq,resS_no (by omega) hp]; rfl
    rw [he]
    exact .inr ⟨(),rfl,hw.fr,by decide⟩
   intro ⟨m20,it20⟩ hf20
   have hr1:=resS_1 (len:=x.args.length) hf20
   have hmm:=findT_m hf20
   refine V0 (Ym rfl) ?_
   refine V0 (Yx rfl rfl) ?_
   refine V0 (Yx rfl rfl) ?_
   refine V0 (Yf fo68_2 rfl) ?_
   refine Lst 1 (.inl rfl) rfl rfl rfl sz3 rfl rfl rfl ?_
   refine Lst 0 (.inl rfl) rfl rfl rfl sz55 rfl rfl rfl ?_
   refine Ln (Et (Cs (Cr ?_)))
   refine V0 (Yf fo68_2 rfl) ?_
   refine V0 (Yd 1 rfl rfl rfl na3) ?_
   refine V0 (yl_lt rfl rfl) ?_
   refine V0 (Ym rfl) ?_
   apply WL.or 3 rfl rfl rfl rfl (.inl rfl) rfl rfl rfl rfl rfl
   ·
    intro hg0
    refine Lv (.g rfl rfl rfl) rfl (Yf fo55_0 rfl) ?_
    refine Lv (.g rfl rfl rfl) rfl (Yd 0 rfl rfl rfl na3) ?_
    refine Lv (.g rfl rfl rfl) rfl (yl_eq rfl rfl) ?_
    exact Gt 3 rfl rfl rfl
   refine WL.callpx (ι:=Unit) (κ:=Unit) (.inl rfl) rfl en33 rfl (fun _=>.tuple #[]) (fun _=>_=true) (fun _=>refd _) (fun _=>_=false) (fun w hw=>scMust_any _ _ w) ?_ ?_
   ·
    intro _ hp
    refine Ep ?_
    refine WE.block_panic ?_
    refine Ep ?_
    refine Epp fun w' hw=>?_
    have hk2:¬(m20 = -1∨it20.kind=2):=by simp at hp; omega
    rw [if_neg hk2] at hr1
    have he:errS σ x=7:=by rw [errS_eq,hop,hr1]; rfl
    rw [he]
    exact .inr ⟨(),rfl,hw.fr,by decide⟩
   intro _ hm32
   have hk2:m20 = -1∨it20.kind=2:=by
     simp at hm32
     omega
   have hres:(resS σ x.op x.mod x.nm x.args.length)=⟨x.op,0,m20,it20.pl,0⟩:=by rw [hop]; rw [hr1,if_pos hk2]
   refine Ln (Et (Cr ?_))
   refine V0 (Yf fo55_2 rfl) ?_
   refine V0 (Yd 0 rfl rfl rfl na3) ?_
   refine V0 (Yf fo68_3 rfl) ?_
   refine Lst 1 (.inl rfl) rfl rfl rfl sz3 rfl rfl rfl ?_
   refine Ln (Eb ?_)
   refine WE.reblk 1 (.cells #[.int .i64 (resS σ x.op x.mod x.nm x.args.length).op,.int .i64 (resS σ x.op x.mod x.nm x.args.length).n,.int .i64 (resS σ x.op x.mod x.nm x.args.length).m,.int .i64 (resS σ x.op x.mod x.nm x.args.length).pl,.slice none 0 0,.slice none 0 0,.slice none 0 0] 68 (0,0)) rfl (by rw [hres]; rfl) ?_
   exact WE.meetE () (by rw [hres]) (sc rfl (sc rfl (sc rfl (sc rfl sn)))) (fun _ h=>by
     have h:=h.fronti 3 rfl
     have h:=h.fronti 3 rfl
     have h:=h.fronti 3 rfl
     have h:=Ws.keep (L:=[_,_,_]) h
     exact h)
  ·
   have h1:¬x.op=1:=by simpa using hc0
   refine Cs (Cr ?_)
   refine V0 (yl_eq rfl rfl) ?_
   refine V0 (Ya rfl) ?_
   refine Ln (Et ?_)
   refine Cc rfl (fun hc1=>?_) (fun hc1=>?_)
   ·
    have hop:x.op=2:=by simpa using hc1
    refine Cs (Cr ?_)
    refine V0 (Ym rfl) ?_
    refine V0 (Yf fo118_1 rfl) ?_
    refine V0 (Yd 3 rfl rfl rfl na9) ?_
    refine V0 (Yf fo118_2 rfl) ?_
    refine V0 (Yd 3 rfl rfl rfl na9) ?_
    refine WL.callpx (ι:=Int×FItem) (κ:=Unit) (.inl rfl) rfl en75 rfl (fun i=>.tuple #[.int .i64 i.1,.agg i.2.cells.toArray]) (fun i=>findT σ x.mod x.nm=some i∧plErr σ x.mod x.nm 3 0=0) (fun _=>refd (plErr σ x.mod x.nm 3 0)) (fun _=>plErr σ x.mod x.nm 3 0≠0) (fun w hw=>scPlace_any HS sb σ w (hw.vs _ (by simp)) hS x.mod x.nm 3 0) ?_ ?_
    ·
     intro _ hp
     refine Ep ?_
     refine WE.block_panic ?_
     refine Ep ?_
     refine Epp fun w' hw=>?_
     have he:errS σ x=plErr σ x.mod x.nm 3 0:=by rw [errS_eq,hop,resS_2e hp,er_ne hp]
     rw [he]
     exact .inr ⟨(),rfl,hw.fr,hp⟩
    intro ⟨m44,it44⟩ ⟨hf44,hq44⟩
    have hres:(resS σ x.op x.mod x.nm x.args.length)=⟨x.op,it44.n,m44,it44.pl,0⟩:=by rw [hop]; exact resS_2 hf44 hq44
    refine V0 (Ym rfl) ?_
    refine V0 (Yx rfl rfl) ?_
    refine V0 (Yx rfl rfl) ?_
    refine V0 (Yf fo68_2 rfl) ?_
    refine Lst 1 (.inl rfl) rfl rfl rfl sz3 rfl rfl rfl ?_
    refine Lst 0 (.inl rfl) rfl rfl rfl sz55 rfl rfl rfl ?_
    refine Ln (Et ?_)
    refine WC.draws1 1 [(0,true),(1,true),(2,true),(3,true),(4,true),(5,false),(6,false),(7,false)] mixed (by kernel_rfl) (fun _ _ _ d _ h=>by cases d<;>exact h) ?_
    refine Dq rfl (.inl rfl) rfl (fun _ h=>by have h:=Ws.out 1 h; exact h) (Yf fo55_2 rfl) ?_
    refine Dq rfl (.inl rfl) rfl (fun _ h=>by have h:=Ws.out 1 h; exact h) (Yd 0 rfl rfl rfl na3) ?_
    refine Dq rfl (.inl rfl) rfl (fun _ h=>by have h:=Ws.out 1 h; exact h) (Yf fo55_1 rfl) ?_
    refine Dq rfl (.inl rfl) rfl (fun _ h=>by have h:=Ws.out 1 h; exact h) (Yd 0 rfl rfl rfl na3) ?_
    refine Dq rfl (.inl rfl) rfl (fun _ h=>by have h:=Ws.out 1 h; exact h) (Yf fo68_3 rfl) ?_
    refine De rfl (fun _ h=>by have h:=Ws.out 1 h; exact h) ?_
    refine Lst 1 (.inl rfl) rfl rfl rfl sz3 rfl rfl rfl ?_
    refine Ln (Ed ?_)
    refine De rfl (fun _ h=>by have h:=Ws.out 1 h; exact h) ?_
    refine V0 (Yf fo68_1 rfl) ?_
    refine Ln (Ed ?_)
    refine De rfl (fun _ h=>by have h:=Ws.out 1 h; exact h) ?_
    refine Lst 1 (.inl rfl) rfl rfl rfl sz3 rfl rfl rfl ?_
    refine Ln (Ed ?_)
    refine WD.nil (fun _ h=>by have h:=Ws.out 1 h; exact h) ?_
    refine Eb ?_
    refine WE.reblk 1 (.cells #[.int .i64 (resS σ x.op x.mod x.nm x.args.length).op,.int .i64 (resS σ x.op x.mod x.nm x.args.length).n,.int .i64 (resS σ x.op x.mod x.nm x.args.length).m,.int .i64 (resS σ x.op x.mod x.nm x.args.length).pl,.slice none 0 0,.slice none 0 0,.slice none 0 0] 68 (0,0)) rfl (by rw [hres]; rfl) ?_
    exact WE.meetE () (by rw [hres]) (sc rfl (sc rfl (sc rfl (sc rfl sn)))) (fun _ h=>by
      have h:=h.fronti 3 rfl
      have h:=h.fronti 3 rfl
      have h:=h.fronti 3 rfl
      have h:=Ws.keep (L:=[_,_,_]) h
      exact h)
   ·
    have h2:¬x.op=2:=by simpa using hc1
    refine Cs (Cr ?_)
    refine V0 (yl_eq rfl rfl) ?_
    refine V0 (Ya rfl) ?_
    refine Ln (Et ?_)
    refine Cc rfl (fun hc2=>?_) (fun hc2=>?_)
    ·
     have hop:x.op=3:=by simpa using hc2
     refine Cs (Cr ?_)
     refine V0 (Ym rfl) ?_
     refine V0 (Yf fo118_1 rfl) ?_
     refine V0 (Yd 3 rfl rfl rfl na9) ?_
     refine V0 (Yf fo118_2 rfl) ?_
     refine V0 (Yd 3 rfl rfl rfl na9) ?_
     refine V0 (Yf fo118_3 rfl) ?_
     refine V0 (Yd 3 rfl rfl rfl na114) ?_
     refine V0 (Yn es114 rfl) ?_
     refine WL.callpx (ι:=Int×FItem) (κ:=Unit) (.inl rfl) rfl en75 rfl (fun i=>.tuple #[.int .i64 i.1,.agg i.2.cells.toArray]) (fun i=>findT σ x.mod x.nm=some i∧plErr σ x.mod x.nm 4 (x.args.length:Int)=0) (fun _=>refd (plErr σ x.mod x.nm 4 (x.args.length:Int))) (fun _=>plErr σ x.mod x.nm 4 (x.args.length:Int)≠0) (fun w hw=>scPlace_any HS sb σ w (hw.vs _ (by simp)) hS x.mod x.nm 4 (x.args.length:Int)) ?_ ?_
     ·
      intro _ hp
      refine Ep ?_
      refine WE.block_panic ?_
      refine Ep ?_
      refine Epp fun w' hw=>?_
      have he:errS σ x=plErr σ x.mod x.nm 4 (x.args.length:Int):=by rw [errS_eq,hop,resS_3e hp,er_ne hp]
      rw [he]
      exact .inr ⟨(),rfl,hw.fr,hp⟩
     intro ⟨m65,it65⟩ ⟨hf65,hq65⟩
     have hres:(resS σ x.op x.mod x.nm x.args.length)=⟨x.op,0,m65,it65.pl,0⟩:=by rw [hop]; exact resS_3 hf65 hq65
     refine V0 (Ym rfl) ?_
     refine V0 (Yx rfl rfl) ?_
     refine V0 (Yx rfl rfl) ?_
     refine V0 (Yf fo68_2 rfl) ?_
     refine Lst 1 (.inl rfl) rfl rfl rfl sz3 rfl rfl rfl ?_
     refine Lst 0 (.inl rfl) rfl rfl rfl sz55 rfl rfl rfl ?_
     refine Ln (Et (Cr ?_))
     refine V0 (Yf fo55_2 rfl) ?_
     refine V0 (Yd 0 rfl rfl rfl na3) ?_
     refine V0 (Yf fo68_3 rfl) ?_
     refine Lst 1 (.inl rfl) rfl rfl rfl sz3 rfl rfl rfl ?_
     refine Ln (Eb ?_)
     refine WE.reblk 1 (.cells #[.int .i64 (resS σ x.op x.mod x.nm x.args.length).op,.int .i64 (resS σ x.op x.mod x.nm x.args.length).n,.int .i64 (resS σ x.op x.mod x.nm x.args.length).m,.int .i64 (resS σ x.op x.mod x.nm x.args.length).pl,.slice none 0 0,.slice none 0 0,.slice none 0 0] 68 (0,0)) rfl (by rw [hres]; rfl) ?_
     exact WE.meetE () (by rw [hres]) (sc rfl (sc rfl (sc rfl (sc rfl sn)))) (fun _ h=>by
       have h:=h.fronti 3 rfl
       have h:=h.fronti 3 rfl
       have h:=h.fronti 3 rfl
       have h:=Ws.keep (L:=[_,_,_]) h
       exact h)
    ·
     have h3:¬x.op=3:=by simpa using hc2
     have hres:(resS σ x.op x.mod x.nm x.args.length)=⟨x.op,0,0,0,0⟩:=resS_0 h1 h2 h3
     refine Ck (Eb ?_)
     refine WE.reblk 1 (.cells #[.int .i64 (resS σ x.op x.mod x.nm x.args.length).op,.int .i64 (resS σ x.op x.mod x.nm x.args.length).n,.int .i64 (resS σ x.op x.mod x.nm x.args.length).m,.int .i64 (resS σ x.op x.mod x.nm x.args.length).pl,.slice none 0 0,.slice none 0 0,.slice none 0 0] 68 (0,0)) rfl (by rw [hres]; rfl) ?_
     exact WE.meetE () (by rw [hres]) (sc rfl (sc rfl (sc rfl (sc rfl sn)))) (fun _ h=>by
       have h:=h.fronti 3 rfl
       have h:=h.fronti 3 rfl
       have h:=h.fronti 3 rfl
       have h:=Ws.keep (L:=[_,_,_]) h
       exact h)
 intro _ hR0
 refine Cs (Cr ?_)
 refine V0 (Ym rfl) ?_
 refine V0 (Yf fo118_3 rfl) ?_
 refine V0 (Yd 2 rfl rfl rfl na114) ?_
 refine WL.calldx (ι:=SP) (κ:=Unit) (.inl rfl) rfl en76 rfl (fun r=>.slice r.1 (nodesT σ x.args).length r.2) (fun F r=>errEs σ x.args=0∧Sl (RdN (ke+1)) 5 F r.1 r.2 (nodesT σ x.args)) (fun _=>refd (errEs σ x.args)) (fun _=>errEs σ x.args≠0) (fun w hw=>hN HE x.args a c w (hw.vs _ (by simp)) (hw.vs _ (by simp)) hm (by omega)) ?_ ?_
 ·
  intro _ hp
  refine Ep ?_
  refine Epp fun w' hw=>?_
  have he:errS σ x=errEs σ x.args:=by rw [errS_eq,hR0,er_0,er_ne hp]
  rw [he]
  exact .inr ⟨(),rfl,hw.fr,hp⟩
 intro F75 r75 hfr75 ⟨he75,h75⟩
 refine V0 (Yf fo68_4 rfl) ?_
 refine Lst 0 (.inl rfl) rfl rfl rfl sz66 rfl rfl rfl ?_
 refine Ln (Et (Cs ?_))
 refine WC.draws1 0 [(0,true),(1,true),(2,true),(4,true),(5,true),(6,true),(3,false),(8,true),(7,false),(9,false),(10,false),(11,false)] mixed (by kernel_rfl) (fun _ _ _ d _ h=>by cases d<;>exact h) ?_
 refine Dq rfl (.inl rfl) rfl (fun _ h=>by have h:=Ws.out 0 h; exact h) (Ym rfl) ?_
 refine Dq rfl (.inl rfl) rfl (fun _ h=>by have h:=Ws.out 0 h; exact h) (Yf fo118_4 rfl) ?_
 refine Dq rfl (.inl rfl) rfl (fun _ h=>by have h:=Ws.out 0 h; exact h) (Yd 1 rfl rfl rfl na25) ?_
 refine Dq rfl (.inl rfl) rfl (fun _ h=>by have h:=Ws.out 0 h; exact h) (Ym rfl) ?_
 refine Dq rfl (.inl rfl) rfl (fun _ h=>by have h:=Ws.out 0 h; exact h) (Yf fo118_5 rfl) ?_
 refine Dq rfl (.inl rfl) rfl (fun _ h=>by have h:=Ws.out 0 h; exact h) (Yd 1 rfl rfl rfl na25) ?_
 refine De rfl (fun _ h=>by have h:=Ws.out 0 h; exact h) ?_
 refine WL.calldx (ι:=SP) (κ:=Unit) (.inl rfl) rfl en36 rfl (fun r=>.slice r.1 (actsT σ x.body).length r.2) (fun F r=>errSs σ x.body=0∧Sl (RdA (ke+1) (k+1)) 7 F r.1 r.2 (actsT σ x.body)) (fun _=>refd (errSs σ x.body)) (fun _=>errSs σ x.body≠0) (fun w hw=>hA HE x.body a2 c2 w (hw.vs _ (by simp)) (hw.vs _ (by simp)) hs2 (by omega)) ?_ ?_
 ·
  intro _ hp
  refine Ep ?_
  refine Ep ?_
  refine Epp fun w' hw=>?_
  have he:errS σ x=errSs σ x.body:=by rw [errS_eq,hR0,er_0,he75,er_0,er_ne hp]
  rw [he]
  exact .inr ⟨(),rfl,hw.fr,hp⟩
 intro F80 r80 hfr80 ⟨he80,h80⟩
 refine Ln (Ed ?_)
 refine Dq rfl (.inl rfl) rfl (fun _ h=>by have h:=Ws.out 0 h; have h:=Ws.drops h (fun _ hm=>List.mem_append_right [_] hm); exact h) (Yf fo68_5 rfl) ?_
 refine De rfl (fun _ h=>by have h:=Ws.out 0 h; have h:=Ws.drops h (fun _ hm=>List.mem_append_right [_] hm); exact h) ?_
 refine WL.calldx (ι:=SP) (κ:=Unit) (.inl rfl) rfl en36 rfl (fun r=>.slice r.1 (actsT σ x.other).length r.2) (fun F r=>errSs σ x.other=0∧Sl (RdA (ke+1) (k+1)) 7 F r.1 r.2 (actsT σ x.other)) (fun _=>refd (errSs σ x.other)) (fun _=>errSs σ x.other≠0) (fun w hw=>hA HE x.other a3 c3 w (hw.vs _ (by simp)) (hw.vs _ (by simp)) hs3 (by omega)) ?_ ?_
 ·
  intro _ hp
  refine Ep ?_
  refine Ep ?_
  refine Epp fun w' hw=>?_
  have he:errS σ x=errSs σ x.other:=by rw [errS_eq,hR0,er_0,he75,er_0,he80,er_0]
  rw [he]
  exact .inr ⟨(),rfl,hw.fr,hp⟩
 intro F84 r84 hfr84 ⟨he84,h84⟩
 refine Ln (Ed ?_)
 refine De rfl (fun _ h=>by have h:=Ws.out 0 h; have h:=Ws.drops h (fun _ hm=>List.mem_append_right [_,_] hm); exact h) ?_
 refine Lst 0 (.inl rfl) rfl rfl rfl sz40 rfl rfl rfl ?_
 refine Ln (Ed ?_)
 refine De rfl (fun _ h=>by have h:=Ws.out 0 h; have h:=Ws.drops h (fun _ hm=>List.mem_append_right [_,_] hm); exact h) ?_
 refine V0 (Yf fo68_6 rfl) ?_
 refine Ln (Ed ?_)
 refine De rfl (fun _ h=>by have h:=Ws.out 0 h; have h:=Ws.drops h (fun _ hm=>List.mem_append_right [_,_] hm); exact h) ?_
 refine Lst 0 (.inl rfl) rfl rfl rfl sz40 rfl rfl rfl ?_
 refine Ln (Ed ?_)
 refine WD.nil (fun _ h=>by have h:=Ws.out 0 h; have h:=Ws.drops h (fun _ hm=>List.mem_append_right [_,_] hm); exact h) ?_
 refine Et (Cs (Cr ?_))
 refine V0 (Yda 0 rfl rfl ag68 rfl) ?_
 refine Lst 1 (.inl rfl) rfl rfl rfl sz68 rfl rfl rfl ?_
 refine Ln (Et (Crt ?_))
 refine WE.retR (rs_1 rfl (rv_agg 1 rfl rfl ag68 rfl)) fun w' hw=>?_
 rw [actT_eq]
 exact .inl ⟨⟨r75,r80,r84⟩,rfl,hw.fr,by rw [errS_eq,hR0,he75,he80,he84]; rfl,slN_mv h75 (nv_vs hw (by simp) hfr75),slA_mv h80 (nv_vs hw (by simp) hfr80),slA_mv h84 (nv_vs hw (by simp) hfr84)⟩
theorem scActs_any (HS HE:View) (sb:Nat) (σ:Scp) (ke:Nat) (hS:Slv HS sb σ) (k:Nat) (l:List TStmt) (a:Option Addr) (c:Nat) (w:World) (hHS:Le HS w) (hHE:Le HE w) (hm:Sl (RdS ke k) 6 HE a c l) (hwt:wSs l≤109951162777) :
   Calls Tryz.prog 36 #[.pointer (some ⟨sb,0,none⟩),.slice a l.length c] w fun e w'=>(∃r:SP,e = .returned (.slice r.1 (actsT σ l).length r.2)∧Ext w w'∧errSs σ l=0∧Sl (RdA (ke+1) (k+1)) 7 (nv w w') r.1 r.2 (actsT σ l))∨(∃_:Unit,e = .panicked (refd (errSs σ l))∧Ext w w'∧errSs σ l≠0):=by
 induction k using Nat.strongRecOn generalizing HE l a c w
 rename_i k ih
 have hcap:=hm.cap
 have hmax:=hm.max
 have hlw:=wSs_len l
 refine enter Tryz.func36 rfl 22 rfl rfl ?_
 refine CWd (W':=Ws w [] [] [HE,HS]) (fun _ e=>by subst e; exact Ws.init (by simp [hHE,hHS])) ?_
 refine Cs (Cr ?_)
 refine V0 (Ya rfl) ?_
 refine Ln (Et (Cs (Cr ?_)))
 refine V0 (Ya rfl) ?_
 refine LW (fun _ h=>h.osl_nil 68 7) ?_
 refine WL.v0 ?_
 refine Ln (Et (Cs (Cs (Cr ?_))))
 refine V0 (Ym rfl) ?_
 refine V0 (Yn es25 rfl) ?_
 refine V0 (Ym rfl) ?_
 refine Ln (Et (Cb ?_))
 refine CK (ι:=GX XA) (fun g=>[(10,.int .i64 (g.i:Int)),(5,.slice g.a g.es.length g.c)]) [(0,_),(4,_),(8,_),(9,_)] (fun g=>Ws w [] [osT 68 7 XA.cells g.a g.c g.es] [g.J,HE,HS]) (fun g=>g.i≤l.length∧g.es.map (·.1)=(l.take g.i).map (actT σ)∧ers (errS σ) (l.take g.i)=0∧(Fresh w g.J∧Xs (SlA (ke+1) k) g.J g.es)) (fun g=>l.length-g.i) ⟨0,[],none,0,v0⟩ ⟨Nat.zero_le _,rfl,rfl,⟨v0_fresh w,Xs.nil _⟩⟩ (sc rfl (sc rfl (sc rfl (sc rfl (sc rfl (sc rfl sn)))))) (fun _ h=>by have h:=Ws.drops h (Vs':=[v0,HE,HS]) (by simp); exact h) ?_
 intro g ⟨hi,hmap,hers,⟨hfJ,hX⟩⟩
 refine Cs (Cr ?_)
 refine V0 (yl_lt rfl rfl) ?_
 refine Ln (Et (Cs ?_))
 refine Cc rfl (fun hc0=>?_) (fun hc0=>?_)
 ·
  have hlt:g.i<l.length:=by simpa using hc0
  obtain ⟨y,hyi⟩:∃q,l[g.i]? = some q:=⟨_,List.getElem?_eq_getElem hlt⟩
  obtain ⟨pby,poy,hay,hry⟩:=hm.elt g.i y hyi
  obtain ⟨k2,rfl⟩:∃k2,k=k2+1:=by
    cases k with
    | zero=>exact hry.elim
    | succ k2=>exact ⟨k2,rfl⟩
  obtain ⟨ya,yn,y2,m2,y3,m3,hrow,hs1,hs2,hs3⟩:=hry
  have hel:=map_len hmap hi
  refine Ck (Et (Cs (Cb (Cs (Cr ?_)))))
  refine V0 (Yo es25 rfl rfl hay (by omega)) ?_
  refine V0 (yl_lda 1 ag118 rfl rfl rfl (hrow)) ?_
  refine WL.alloc (.inl rfl) rfl zr118 fun b7=>?_
  refine Lst 0 (.inl rfl) rfl rfl rfl sz118 rfl rfl rfl ?_
  refine Ln (Et (Cr ?_))
  refine V0 (Ym rfl) ?_
  refine V0 (Ym rfl) ?_
  refine V0 (Yda 0 rfl rfl ag118 rfl) ?_
  refine WL.calldx (ι:=AAt) (κ:=Unit) (.inl rfl) rfl en57 rfl (fun r=>.agg (actV (actT σ y) r).toArray) (fun F r=>errS σ y=0∧SlA (ke+1) (k2+1) F (actT σ y,r)) (fun _=>refd (errS σ y)) (fun _=>errS σ y≠0) (fun w hw=>scAct_any HS HE sb σ ke k2 y ya yn y2 m2 y3 m3 w (hw.vs _ (by simp)) (hw.vs _ (by simp)) hS (scNodes_all HS sb σ hS ke) (fun HE l a c w h1 h2 h3 h4=>ih k2 (by omega) HE l a c w h1 h2 h3 h4) hs1 hs2 hs3 (by have:=wSs_mem hyi; omega)) ?_ ?_
  ·
   intro _ hp
   refine WE.block_panic ?_
   refine Ep ?_
   refine Ep ?_
   refine WE.block_panic ?_
   refine Ep ?_
   refine Epp fun w' hw=>?_
   have he:errSs σ l=errS σ y:=by rw [errSs_ers,ers_hit (errS σ) hyi hers hp]
   rw [he]
   exact .inr ⟨(),rfl,hw.fr,hp⟩
  intro F17 r17 hfr17 ⟨he17,h17⟩
  refine WL.vjoin fun J17 j17a j17b j17f=>?_
  refine Lb (.inl rfl) rfl el40 rfl rfl rfl rfl fun b18=>?_
  refine Lrb 0 (.cells (XA.cells (actT σ y,r17)).toArray 68 (0,0)) rfl (rfl) ?_
  refine LA (((actT σ y,r17):XA)) 2 0 (.inl rfl) rfl el40 rfl rfl rfl rfl rfl rfl (by omega) (by omega) fun a19 c19=>?_
  refine V0 (Ya rfl) ?_
  refine Ln (Eb (Et (Cr ?_)))
  refine V0 (Yi rfl rfl rfl (by omega)) ?_
  refine V0 (Ym rfl) ?_
  refine Ln ?_
  exact Ea (⟨g.i+1,g.es++[(actT σ y,r17)],a19,c19,J17⟩:GX XA) (by show _-(g.i+1)<_; omega) ⟨(by show g.i+1≤_; omega),map_snoc hmap hyi rfl,by show ers (errS σ) (l.take (g.i+1))=0; rw [ers_take (errS σ) hyi,hers,er_0,he17],⟨j17f _ hfr17 hfJ,Xs.snoc (R:=SlA _ _) (fun hv h=>SlA.mv hv h) hX j17b j17a h17⟩⟩ (sc rfl (sc rfl (sc rfl (sc rfl (sc rfl (sc rfl sn)))))) (fun _ h=>Ws.drop (L:=[_,_]) h)
 ·
  have hge:g.i=l.length:=by simp at hc0; omega
  refine Ce (Ex (Ex (Ebh (Et (Cs ?_)))))
  refine WC.oslN (rd:=rdXA) 0 rfl (fun _ hk=>by cases hk) XA.cells_len (fun _ _ _ _ h=>h) fun K7 fK7 hK7=>?_
  refine Cr ?_
  refine V0 (Ym rfl) ?_
  refine V0 (Ya rfl) ?_
  refine Ln (Et (Crt ?_))
  refine WE.ret1 rfl rfl fun w' hw=>?_
  have hz:errSs σ l=0:=by rw [errSs_ers,←hers,hge,List.take_length]
  have hall:=map_all hmap hge
  rw [←actsT_map] at hall
  rw [←hall]
  exact .inl ⟨(g.a,g.c),by rw [List.length_map],hw.fr,hz,slA_of hK7 (nv_vs hw (by simp) fK7) (nv_vs hw (by simp) hfJ) hX⟩
end Go.Proofs.YtinnlppbkhhoiaaGreatDoor
end
section
namespace Go.Proofs.YtinnlppbkhhoiaaGreatDoor
open Go.Bw
set_option linter.unusedVariables false
set_option linter.unusedSimpArgs false
def rdS (H:View) (b o:Nat) (e:SP×List Tx):Prop:=vc H b o=some (.slice e.1.1 e.2.length e.1.2)∧Sl rdStr 1 H e.1.1 e.1.2 e.2
def totL (ls:List ((Option Addr×Nat)×List Tx)):Nat:=(ls.map (·.2.length)).sum
theorem totL_take {ls:List ((Option Addr×Nat)×List Tx)} {i:Nat} {x:(Option Addr×Nat)×List Tx} (h:ls[i]? = some x):totL (ls.take (i+1))=totL (ls.take i)+x.2.length:=by
 simp [totL,List.take_add_one,h]
theorem totL_le (ls:List ((Option Addr×Nat)×List Tx)) (i:Nat):totL (ls.take i)≤totL ls:=by
 have e:totL ls=totL (ls.take i)+totL (ls.drop i):=by
   unfold totL
   rw [←List.sum_append,←List.map_append,List.take_append_drop]
 omega
theorem totL_flat (ls:List ((Option Addr×Nat)×List Tx)):(ls.flatMap (·.2)).length=totL ls:=by simp [totL,List.length_flatMap]
theorem es128:elemSz Tryz.prog 128=some 1:=by kernel_rfl
theorem en56:Enters Tryz.prog 56:=enters_of Tryz.func56 (by kernel_rfl) rfl
theorem sz73:sizeP Tryz.prog 73=some 1:=by kernel_rfl
theorem pl42:placesP Tryz.prog 42=some [(0,1),(1,1),(2,1),(3,1),(4,1)]:=by kernel_rfl
theorem zr42:zeroOf Tryz.prog 42=some (.agg #[st [],.slice none 0 0,.int .i64 0,.slice none 0 0,.slice none 0 0]):=by kernel_rfl
theorem fo73_0:fieldOff Tryz.prog 73 0=some 0:=by kernel_rfl
theorem sz42:sizeP Tryz.prog 42=some 5:=by kernel_rfl
theorem cloneS_any (H:View) (a:Option Addr) (c:Nat) (l:List Tx) (w:World) (hH:Le H w) (hm:Sl rdStr 1 H a c l) (hb:l.length≤1048576) :
   Calls Tryz.prog 34 #[.slice a l.length c] w fun e w'=>∃r:SP,e = .returned (.slice r.1 l.length r.2)∧Ext w w'∧Sl rdStr 1 (nv w w') r.1 r.2 l:=by
 have hcap:=hm.cap
 have hmax:=hm.max
 refine enter Tryz.func34 rfl 8 rfl rfl ?_
 refine CWd (W':=Ws w [] [] [H]) (fun _ e=>by subst e; exact Ws.init (by simp [hH])) ?_
 refine Cs (Cr ?_)
 refine V0 (Ya rfl) ?_
 refine Ln (Et (Cs (Cs (Cr ?_))))
 refine V0 (Ym rfl) ?_
 refine V0 (yl_eqnil es22 rfl) ?_
 refine Ln (Et ?_)
 refine Cc rfl (fun hc0=>?_) (fun hc0=>?_)
 ·
  have hnil:l=[]:=by
    cases l with
    | nil=>rfl
    | cons x r=>obtain ⟨b,o,h,_⟩:=hm.elt 0 x rfl; rw [h] at hc0; cases hc0
  refine Cs (Cr ?_)
  refine V0 (Ya rfl) ?_
  refine Ln (Et (Crt (Er ?_)))
  refine WE.ret1 rfl rfl fun w' hw=>?_
  subst hnil
  exact ⟨(none,0),rfl,hw.fr,Sl.nil⟩
 ·
  refine Ck (Et (Cs (Cr ?_)))
  refine WL.bslice (.inl rfl) rfl el22 rfl rfl rfl fun b5=>?_
  refine WL.asOsl (size:=1) 0 rfl (Nat.le_refl 0) (Nat.zero_le _) rfl ?_
  refine WL.reosl 0 ([]:List Tx).length (([]:List Tx).flatMap strC) rfl rfl rfl ?_
  refine V0 (Ym rfl) ?_
  refine WL.appendL (ys:=l) (xs:=[]) 0 (fun _=>H) (.inl rfl) rfl el22 rfl rfl rfl (fun w hw=>⟨hw.vs H (by simp),hm⟩) (fun _ _ _ _ h=>h) strC_len str_one (by simp; omega) (by simp; omega) fun a7 c7=>?_
  refine V0 (Ya rfl) ?_
  refine Ln (Et (Crt ?_))
  refine WE.ret1 rfl rfl fun w' hw=>?_
  exact ⟨(a7,c7),rfl,hw.fr,hw.slT 0 rfl strC_len (fun _ _ _ _ h=>h)⟩
theorem growS_any (m:Nat) (w:World) (hm:m≤1048576) :
   Calls Tryz.prog 56 #[.slice none 0 0,.int .i64 (m:Int)] w fun e w'=>∃r:SP,e = .returned (.slice r.1 ([]:List Tx).length r.2)∧Ws w [] [osT 9 1 strC r.1 r.2 ([]:List Tx)] [] w':=by
 refine enter Tryz.func56 rfl 27 rfl rfl ?_
 refine CWd (W':=Ws w [] [] []) (fun _ e=>by subst e; exact Ws.init (by simp)) ?_
 refine Cs (Cr ?_)
 refine V0 (Ya rfl) ?_
 refine Ln (Et (Cs (Cs (Cr ?_))))
 refine V0 (Ym rfl) ?_
 refine V0 (yl_lt rfl rfl) ?_
 refine Ln (Et ?_)
 refine Cc rfl (fun hc0=>?_) (fun hc0=>?_)
 ·
  exfalso
  simp at hc0
  omega
 ·
  refine Ck (Et (Cs (Cs (Cr ?_))))
  refine V0 (Ym rfl) ?_
  refine V0 (Ym rfl) ?_
  refine V0 (yl_cap es22 rfl) ?_
  refine V0 (Ym rfl) ?_
  refine V0 (Yn es22 rfl) ?_
  refine V0 (yl_subv 0 rfl rfl (by simp) (by omega)) ?_
  refine V0 (yl_subv (m:Int) rfl rfl (by simp) (by omega)) ?_
  refine V0 (Ya rfl) ?_
  refine Ln (Et (Cs (Cr ?_)))
  refine V0 (Ym rfl) ?_
  refine V0 (yl_gt rfl rfl) ?_
  refine Ln (Et ?_)
  refine Cc rfl (fun hc1=>?_) (fun hc1=>?_)
  ·
   have h0:0<m:=by simp at hc1; omega
   refine Cr ?_
   refine V0 (Ym rfl) ?_
   refine V0 (Ym rfl) ?_
   refine V0 (yl_cap es22 rfl) ?_
   refine V0 (yl_slhn 0 es22 rfl (by simp) rfl rfl (Nat.zero_le _)) ?_
   refine V0 (Ym rfl) ?_
   refine WL.zeros m (.inl rfl) rfl el22 ui3 rfl rfl h0 (by unfold maxLen; omega) (by omega) fun b22 c22 cur22 hc22 hcm22 hcs22=>?_
   refine WL.asOsl (m:=0) (cap:=c22) (size:=1) 0 rfl (Nat.zero_le _) hcm22 (by rw [hcs22,Nat.mul_one]) ?_
   refine WL.reosl 0 ([]:List Tx).length (([]:List Tx).flatMap strC) rfl rfl (by simp) ?_
   refine V0 (Ym rfl) ?_
   refine V0 (Yn es22 rfl) ?_
   refine V0 (yl_slhn ([]:List Tx).length es22 rfl (by simp) rfl rfl (Nat.zero_le _)) ?_
   refine V0 (Ya rfl) ?_
   refine Ln (Et (Cs (Cr ?_)))
   refine V0 (Ym rfl) ?_
   refine V0 (Ya rfl) ?_
   refine Ln (Et (Crt ?_))
   refine WE.ret1 rfl rfl fun w' hw=>?_
   exact ⟨(some ⟨b22,0,none⟩,c22),rfl,hw⟩
  ·
   refine Ck (Et (Cs (Cr ?_)))
   refine V0 (Ym rfl) ?_
   refine V0 (Ya rfl) ?_
   refine Ln (Et (Crt ?_))
   refine WE.ret1 rfl rfl fun w' hw=>?_
   exact ⟨(none,0),rfl,hw.osl_nil 9 1⟩
theorem concatS_any (H:View) (a:Option Addr) (c:Nat) (ls:List (SP×List Tx)) (w:World) (hH:Le H w) (hm:Sl rdS 1 H a c ls) (hb:totL ls≤1048576) (hls:ls.length≤1048576) :
   Calls Tryz.prog 35 #[.slice a ls.length c] w fun e w'=>∃r:SP,e = .returned (.slice r.1 (ls.flatMap (·.2)).length r.2)∧Ext w w'∧Sl rdStr 1 (nv w w') r.1 r.2 (ls.flatMap (·.2)):=by
 have hcap:=hm.cap
 have hmax:=hm.max
 refine enter Tryz.func35 rfl 36 rfl rfl ?_
 refine CWd (W':=Ws w [] [] [H]) (fun _ e=>by subst e; exact Ws.init (by simp [hH])) ?_
 refine Cs (Cr ?_)
 refine V0 (Ya rfl) ?_
 refine Ln (Et (Cs (Cr ?_)))
 refine V0 (Ya rfl) ?_
 refine Ln (Et (Cs (Cs (Cr ?_))))
 refine V0 (Ym rfl) ?_
 refine V0 (Yn es128 rfl) ?_
 refine V0 (Ym rfl) ?_
 refine Ln (Et (Cb ?_))
 refine CW (ι:=Nat) (fun i=>[(11,.int .i64 (i:Int)),(3,.int .i64 (totL (ls.take i):Int))]) [(0,_),(2,_),(9,_),(10,_)] (fun i=>i≤ls.length) (fun i=>ls.length-i) 0 (Nat.zero_le _) (sc rfl (sc rfl (sc rfl (sc rfl (sc rfl (sc rfl sn)))))) ?_
 intro i hi
 refine Cs (Cr ?_)
 refine V0 (yl_lt rfl rfl) ?_
 refine Ln (Et (Cs ?_))
 refine Cc rfl (fun hc0=>?_) (fun hc0=>?_)
 ·
  have hlt:i<ls.length:=by simpa using hc0
  obtain ⟨x,hx⟩:∃x,ls[i]? = some x:=⟨_,List.getElem?_eq_getElem hlt⟩
  obtain ⟨pb,po,ha,hrow,hxs⟩:=hm.elt i x hx
  have htk:=totL_take hx
  have htl:=totL_le ls (i+1)
  refine Ck (Et (Cs (Cb (Cs (Cr ?_)))))
  refine V0 (Yo es128 rfl rfl ha (by omega)) ?_
  refine V0 (yl_ld 0 na22 rfl rfl (hrow)) ?_
  refine V0 (Ya rfl) ?_
  refine Ln (Et (Cs (Cr ?_)))
  refine V0 (Ym rfl) ?_
  refine V0 (Ym rfl) ?_
  refine V0 (Yn es22 rfl) ?_
  refine V0 (yl_addn (a:=totL (ls.take i)) (b:=x.2.length) rfl rfl rfl rfl (by omega)) ?_
  refine V0 (Ya rfl) ?_
  refine Ln (Et (Cs (Cr ?_)))
  refine V0 (Ym rfl) ?_
  refine V0 (yl_lt rfl rfl) ?_
  refine Ln (Et ?_)
  refine Cc rfl (fun hc1=>?_) (fun hc1=>?_)
  ·
   exfalso
   simp at hc1
   omega
  ·
   refine Ck (Eb (Et (Cr ?_)))
   refine V0 (Yi rfl rfl rfl (by omega)) ?_
   refine V0 (Ym rfl) ?_
   refine Ln ?_
   rw [←htk]
   exact Ea (i+1) (by omega) (by omega) (sc rfl (sc rfl (sc rfl (sc rfl (sc rfl (sc rfl sn)))))) (fun _ h=>h)
 ·
  have hie:i=ls.length:=by simp at hc0; omega
  subst hie
  rw [List.take_length]
  refine Ce (Ex (Ex (Ebh (Et (Cs ?_)))))
  refine Cr ?_
  refine V0 (Ym rfl) ?_
  refine Lw (ι:=SP) [] _ (.inl rfl) rfl en56 rfl rfl (fun r=>.slice r.1 ([]:List Tx).length r.2) (fun r=>[osT 9 1 strC r.1 r.2 ([]:List Tx)]) (fun _=>True) [] (by simp) (fun w hw=>(growS_any (totL ls) w hb).mono fun e w' ⟨r,h1,h2⟩=>⟨r,h1,trivial,h2⟩) ?_
  intro r24 _
  refine V0 (Ya rfl) ?_
  refine Ln (Et (Cs (Cs (Cr ?_))))
  refine V0 (Ym rfl) ?_
  refine V0 (Yn es128 rfl) ?_
  refine V0 (Ym rfl) ?_
  refine Ln (Et (Cb ?_))
  refine CK (ι:=Nat×Option Addr×Nat) (fun g=>[(27,.int .i64 (g.1:Int)),(6,.slice g.2.1 ((ls.take g.1).flatMap (·.2)).length g.2.2)]) [(2,_),(25,_),(26,_)] (fun g=>Ws w [] [osT 9 1 strC g.2.1 g.2.2 ((ls.take g.1).flatMap (·.2))] [H]) (fun g=>g.1≤ls.length) (fun g=>ls.length-g.1) (0,r24.1,r24.2) (Nat.zero_le _) (sc rfl (sc rfl (sc rfl (sc rfl (sc rfl sn))))) (fun _ h=>h) ?_
  intro g hi
  refine Cs (Cr ?_)
  refine V0 (yl_lt rfl rfl) ?_
  refine Ln (Et (Cs ?_))
  refine Cc rfl (fun hc2=>?_) (fun hc2=>?_)
  ·
   have hlt:g.1<ls.length:=by simpa using hc2
   obtain ⟨x,hx⟩:∃x,ls[g.1]? = some x:=⟨_,List.getElem?_eq_getElem hlt⟩
   obtain ⟨pb,po,ha,hrow,hxs⟩:=hm.elt g.1 x hx
   have htk:=totL_take hx
   have htl:=totL_le ls (g.1+1)
   refine Ck (Et (Cs (Cb (Cs (Cr ?_)))))
   refine V0 (Yo es128 rfl rfl ha (by omega)) ?_
   refine V0 (yl_ld 0 na22 rfl rfl (hrow)) ?_
   refine V0 (Ya rfl) ?_
   refine Ln (Et (Cr ?_))
   refine V0 (Ym rfl) ?_
   refine V0 (Ym rfl) ?_
   refine WL.appendL (xs:=(ls.take g.1).flatMap (·.2)) (ys:=x.2) 0 (fun _=>H) (.inl rfl) rfl el22 rfl rfl rfl (fun w hw=>⟨hw.vs H (by simp),hxs⟩) (fun _ _ _ _ h=>h) strC_len str_one (by rw [totL_flat]; omega) (by rw [totL_flat]; omega) fun a33 c33=>?_
   rw [show ((ls.take g.1).flatMap (·.2))++x.2=(ls.take (g.1+1)).flatMap (·.2) by rw [List.take_add_one,hx]; simp]
   refine V0 (Ya rfl) ?_
   refine Ln (Eb (Et (Cr ?_)))
   refine V0 (Yi rfl rfl rfl (by omega)) ?_
   refine V0 (Ym rfl) ?_
   refine Ln ?_
   exact Ea ((g.1+1,a33,c33):Nat×Option Addr×Nat) (by first | omega | (dsimp only; omega)) (by first | omega | (dsimp only; omega)) (sc rfl (sc rfl (sc rfl (sc rfl (sc rfl sn))))) (fun _ h=>h)
  ·
   have hie:g.1=ls.length:=by simp at hc2; omega
   refine Ce (Ex (Ex (Ebh (Et (Cs ?_)))))
   refine Cr ?_
   refine V0 (Ym rfl) ?_
   refine V0 (Ya rfl) ?_
   refine Ln (Et (Crt ?_))
   refine WE.ret1 rfl rfl fun w' hw=>?_
   rw [hie,List.take_length] at hw
   rw [hie,List.take_length]
   exact ⟨(g.2.1,g.2.2),rfl,hw.fr,hw.slT 0 rfl strC_len (fun _ _ _ _ h=>h)⟩
theorem resolve1_ret (b4 b5:Nat) (m0:List Value) (hm0:m0.length=5) (e0 er_:Int) (w:World) (hw:Ws w (List.flatMap Asr.ids [blk b4 (.cells m0.toArray 42 (0,0)),blk b5 (.cells #[.int .i64 e0] 31 (0,0))]) [blk b4 (.cells m0.toArray 42 (0,0)),blk b5 (.cells #[.int .i64 e0] 31 (0,0))] [] w) :
   CallsD Tryz.prog 31 #[.pointer (some ⟨b4,0,none⟩),.pointer (some ⟨b5,0,none⟩)] (.returning) w fun e u2 w'=>u2 = .returning∧(e = .returned (.tuple #[])∧Ws w (List.flatMap Asr.ids [blk b4 (.cells m0.toArray 42 (0,0)),blk b5 (.cells #[.int .i64 e0] 31 (0,0))]) [blk b4 (.cells m0.toArray 42 (0,0)),blk b5 (.cells #[.int .i64 e0] 31 (0,0))] [] w'):=by
 refine closD Tryz.func31 rfl 18 rfl rfl rfl rfl rfl (fun _=>rfl) (.inl ⟨rfl,rfl,rfl⟩) ?_
 refine LW (W':=Ws w (List.flatMap Asr.ids [blk b4 (.cells m0.toArray 42 (0,0)),blk b5 (.cells #[.int .i64 e0] 31 (0,0))]) [blk b4 (.cells m0.toArray 42 (0,0)),blk b5 (.cells #[.int .i64 e0] 31 (0,0))] []) (fun _ e=>by subst e; exact hw) ?_
 refine V0 (Ya rfl) ?_
 refine Ln (Et (Cs (Cr ?_)))
 refine V0 (Ym rfl) ?_
 refine V0 (yl_taN Tryz.underlying73 zr73 rfl) ?_
 refine V0 (Ym rfl) ?_
 refine V0 (Yx rfl rfl) ?_
 refine V0 (Yx rfl rfl) ?_
 refine WL.alloc (.inl rfl) rfl zr73 fun b3=>?_
 refine Lst 0 (.inl rfl) rfl rfl rfl sz73 rfl rfl rfl ?_
 refine V0 (Ya rfl) ?_
 refine Ln (Et (Cs (Cr ?_)))
 refine V0 (Ym rfl) ?_
 refine Ln (Et ?_)
 refine WC.condf rfl ?_
 refine Cs (Cr ?_)
 refine V0 (Ym rfl) ?_
 refine V0 (yl_nein uif20 rfl) ?_
 refine Ln (Et ?_)
 refine WC.condf rfl ?_
 refine Ck ?_
 refine WE.end0 rfl fun w' hw=>?_
 exact ⟨rfl,Ws.drop (L:=[_]) hw⟩
theorem resolve1_pan (b4 b5:Nat) (m0:List Value) (hm0:m0.length=5) (e0 er_:Int) (w:World) (hw:Ws w (List.flatMap Asr.ids [blk b4 (.cells m0.toArray 42 (0,0)),blk b5 (.cells #[.int .i64 e0] 31 (0,0))]) [blk b4 (.cells m0.toArray 42 (0,0)),blk b5 (.cells #[.int .i64 e0] 31 (0,0))] [] w) :
   CallsD Tryz.prog 31 #[.pointer (some ⟨b4,0,none⟩),.pointer (some ⟨b5,0,none⟩)] (.panicking (refd er_)) w fun e u2 w'=>u2 = .panicking [⟨.iface 73 (.agg #[.int .i64 er_]),true,false⟩]∧(e = .returned (.tuple #[])∧Ws w (List.flatMap Asr.ids [blk b4 (.cells m0.toArray 42 (0,0)),blk b5 (.cells #[.int .i64 e0] 31 (0,0))]) [blk b4 (.cells (unitV noUnit noUAt).toArray 42 (0,0)),blk b5 (.cells #[.int .i64 er_] 31 (0,0))] [] w'):=by
 refine closD Tryz.func31 rfl 18 rfl rfl rfl rfl rfl (fun _=>rfl) (.inr ⟨_,rfl,rfl,rfl⟩) ?_
 refine LW (W':=Ws w (List.flatMap Asr.ids [blk b4 (.cells m0.toArray 42 (0,0)),blk b5 (.cells #[.int .i64 e0] 31 (0,0))]) [blk b4 (.cells m0.toArray 42 (0,0)),blk b5 (.cells #[.int .i64 e0] 31 (0,0))] []) (fun _ e=>by subst e; exact hw) ?_
 refine V0 (Ya rfl) ?_
 refine Ln (Et (Cs (Cr ?_)))
 refine V0 (Ym rfl) ?_
 refine V0 (yl_taY Tryz.underlying73 rfl) ?_
 refine V0 (Ym rfl) ?_
 refine V0 (Yx rfl rfl) ?_
 refine V0 (Yx rfl rfl) ?_
 refine WL.alloc (.inl rfl) rfl zr73 fun b3=>?_
 refine Lst 0 (.inl rfl) rfl rfl rfl sz73 rfl rfl rfl ?_
 refine V0 (Ya rfl) ?_
 refine Ln (Et (Cs (Cr ?_)))
 refine V0 (Ym rfl) ?_
 refine Ln (Et ?_)
 refine WC.condt rfl ?_
 refine WC.drawsK (fun _=>true) [1,1] [(0,true),(1,true),(2,true),(3,false),(4,false)] mixed (by kernel_rfl) (by kernel_rfl) (fun _ _ _ d _ _ h=>by cases d<;>exact h) ?_
 refine Dq rfl (.inl rfl) rfl (fun _ h=>by have h:=Ws.out 1 h; have h:=Ws.out 1 h; exact h) (Yb zr42 pl42 rfl rfl) ?_
 refine Dq rfl (.inl rfl) rfl (fun _ h=>by have h:=Ws.out 1 h; have h:=Ws.out 1 h; exact h) (Yf fo73_0 rfl) ?_
 refine Dq rfl (.inl rfl) rfl (fun _ h=>by have h:=Ws.out 1 h; have h:=Ws.out 1 h; exact h) (Yd 0 rfl rfl rfl na31) ?_
 refine De rfl (fun _ h=>by have h:=Ws.out 1 h; have h:=Ws.out 1 h; exact h) ?_
 refine WL.storeAs 1 (.cells (unitV noUnit noUAt).toArray 42 (0,0)) (.inl rfl) rfl rfl rfl sz42 rfl rfl (by simp [stOk,hm0]) (by simp [setIn,vcells,unitV,noUnit,noUAt,hm0,List.drop_eq_nil_of_le]) ?_
 refine Ln (Ed ?_)
 refine De rfl (fun _ h=>by have h:=Ws.out 1 h; have h:=Ws.out 1 h; exact h) ?_
 refine Lst 2 (.inl rfl) rfl rfl rfl sz31 rfl rfl rfl ?_
 refine Ln (Ed ?_)
 refine WD.nil (fun _ h=>by have h:=Ws.out 1 h; have h:=Ws.out 1 h; exact h) ?_
 refine WE.end0 rfl fun w' hw=>?_
 exact ⟨rfl,Ws.drop (L:=[_]) hw⟩
end Go.Proofs.YtinnlppbkhhoiaaGreatDoor
end
section
namespace Go.Proofs.YtinnlppbkhhoiaaGreatDoor
open Go.Bw
set_option linter.unusedVariables false
set_option linter.unusedSimpArgs false
def faceV (f:List UInt8×List FItem) (r:SP):List Value:=[st f.1,.slice r.1 f.2.length r.2]
def rdFace (H:View) (b o:Nat) (f:List UInt8×List FItem):Prop:=∃r:SP,RdC H b o (faceV f r)∧Sl rdItem 4 H r.1 r.2 f.2
abbrev XM:=List FItem×Nat
def XM.cells (e:XM):List Value:=[.map (some e.2)]
theorem XM.cells_len (e:XM):(XM.cells e).length=1:=rfl
def rdXM (H:View) (b o:Nat) (e:XM):Prop:=RdC H b o (XM.cells e)
def IsTab (J:View) (e:XM):Prop:=J e.2=some (gobj st (tabI e.1 0) e.1.length)
theorem IsTab.mv {A B:View} {e:XM} (hv:VLe A B) (h:IsTab A e):IsTab B e:=hv _ _ h
def okFace (u:List UInt8) (f:List UInt8×List FItem):Bool:=(faceE f.1 f.2==0)&&(f.1==u)
theorem facesOk_iff:∀{us:List (List UInt8)} {fs:List (List UInt8×List FItem)},facesOk us fs=true↔∀(k:Nat) u f,us[k]? = some u→fs[k]? = some f→okFace u f=true
 | [],fs=>by simp [facesOk]
 | u::us,[]=>by simp [facesOk]
 | u::us,f::fs=>by
   have ih:=facesOk_iff (us:=us) (fs:=fs)
   simp only [facesOk,Bool.and_eq_true]
   constructor
   · rintro ⟨h1,h2⟩ k u' f' hu hf
     cases k with
     | zero=>simp at hu hf; subst hu; subst hf; simp only [okFace,Bool.and_eq_true]; exact h1
     | succ k=>exact ih.1 h2 k u' f' (by simpa using hu) (by simpa using hf)
   · intro h
     refine ⟨by have:=h 0 u f rfl rfl; simp only [okFace,Bool.and_eq_true] at this; exact this,ih.2 fun k u' f' hu hf=>h (k+1) u' f' (by simpa using hu) (by simpa using hf)⟩
theorem face_nodup {n:List UInt8} {l:List FItem} (h:faceE n l=0):(l.map (·.name)).Nodup∧l.length≤16:=by
 unfold faceE at h
 split at h
 · cases h
 · split at h
   · rename_i h1 h2
     simp only [Bool.and_eq_true,Bool.not_eq_true',Bool.or_eq_false_iff] at h2
     exact ⟨nodup_twice.2 h2.2.1,by omega⟩
   · cases h
theorem res_face {m:TMod} {fs:List (List UInt8×List FItem)} (h:¬(faceM m).2=0):resolveM m fs=(noUnit,(faceM m).2):=by rw [resolveM,if_pos h]
theorem res_cnt {m:TMod} {fs:List (List UInt8×List FItem)} (h:(faceM m).2=0) (h1:¬fs.length=m.uses.length):resolveM m fs=(noUnit,8):=by rw [resolveM,if_neg (by simp [h]),if_pos h1]
theorem res_faces {m:TMod} {fs:List (List UInt8×List FItem)} (h:(faceM m).2=0) (h1:fs.length=m.uses.length) (h2:facesOk m.uses fs=false):resolveM m fs=(noUnit,1):=by rw [resolveM,if_neg (by simp [h]),if_neg (by simp [h1]),if_pos h2]
theorem res_err {m:TMod} {fs:List (List UInt8×List FItem)} (h:(faceM m).2=0) (h1:fs.length=m.uses.length) (h2:facesOk m.uses fs=true) (h3:errU m fs≠0):resolveM m fs=(noUnit,errU m fs):=by rw [resolveM,if_neg (by simp [h]),if_neg (by simp [h1]),if_neg (by simp [h2]),if_pos h3]
theorem res_ok {m:TMod} {fs:List (List UInt8×List FItem)} (h:(faceM m).2=0) (h1:fs.length=m.uses.length) (h2:facesOk m.uses fs=true) (h3:errU m fs=0):resolveM m fs=(unitT m fs,0):=by rw [resolveM,if_neg (by simp [h]),if_neg (by simp [h1]),if_neg (by simp [h2]),if_neg (by simp [h3])]
theorem face_zero {m:TMod} (h:(faceM m).2=0):checkM m=0∧twiceB ((itemsM m).map (·.name))=false∧twiceB m.uses=false:=by
 by_cases hc:checkM m=0
 · by_cases h2:(twiceB ((itemsM m).map (·.name))||twiceB m.uses)=true
   · rw [faceM_twice hc h2] at h; cases h
   · rw [Bool.not_eq_true,Bool.or_eq_false_iff] at h2
     exact ⟨hc,h2⟩
 · rw [faceM_err hc] at h; exact absurd h hc
theorem tab_step {l:List (List UInt8)} {k:Nat} {x:List UInt8} (hx:l[k]? = some x) (hn:x ∉ l.take k):gobj st (gput x (.int .i64 ((k+1:Nat):Int)) (tabL (l.take k) 0) k) (gclock x (tabL (l.take k) 0) k)=gobj st (tabL (l.take (k+1)) 0) (k+1):=by
 have hlt:=(List.getElem?_eq_some_iff.1 hx).1
 have hl:(l.take k).length=k:=by simp; omega
 have h:=tabL_put hn
 rw [hl] at h
 rw [h.1,h.2,take_snoc hx]
 simp [hl]
theorem nodup_at {l:List (List UInt8)} (h:l.Nodup) {k:Nat} {x:List UInt8} (hx:l[k]? = some x):x ∉ l.take k:=by
 intro hm
 obtain ⟨j,hj⟩:=List.getElem?_of_mem hm
 have hjk:j<k:=by have:=(List.getElem?_eq_some_iff.1 hj).1; simp at this; omega
 rw [List.getElem?_take,if_pos hjk] at hj
 have hjl:=(List.getElem?_eq_some_iff.1 hj).1
 have:=(List.getElem?_inj hjl h).1 (hj.trans hx.symm)
 omega
theorem pos_zero {nm:List UInt8} {l:List (List UInt8)} (h:(posN nm l==0)=true):nm ∉ l:=by
 have:¬0<posN nm l:=by simp at h; omega
 exact idxOf_none.1 (posN_no this)
theorem pos_twice {l:List (List UInt8)} {k:Nat} {x:List UInt8} (hx:l[k]? = some x) (h:(posN x (l.take k)==0)=false):twiceB l=true:=by
 have hne:¬posN x (l.take k)=0:=by simpa using h
 have hp:0<posN x (l.take k):=by
   unfold posN at hne ⊢
   cases hi:idxOf x (l.take k) 0 with
   | none=>rw [hi] at hne; exact absurd rfl hne
   | some j=>simp only; omega
 obtain ⟨j,hj,_,hlt⟩:=posN_pos hp
 have h2:=(idxOf_le hj).2
 have hjk:j<k:=by simp at hlt; omega
 rw [Nat.sub_zero,List.getElem?_take,if_pos hjk] at h2
 exact twice_iff.2 ⟨k,j,(List.getElem?_eq_some_iff.1 hx).1,hjk,by rw [hx,h2]⟩
theorem nodup_grow {l:List (List UInt8)} {k:Nat} {x:List UInt8} (hx:l[k]? = some x) (hn:x ∉ l.take k) (h:(l.take k).Nodup):(l.take (k+1)).Nodup:=by
 rw [take_snoc hx,List.nodup_append]
 exact ⟨h,by simp,fun a ha b hb=>by rw [List.mem_singleton] at hb; subst hb; intro e; subst e; exact hn ha⟩
theorem errP_twice {m:TMod} {fs:List (List UInt8×List FItem)} {p:TProc} (h:twiceB (p.params++p.locs)=true):errP m fs p=6:=by rw [errP,if_pos h]; rfl
theorem errP_body {m:TMod} {fs:List (List UInt8×List FItem)} {p:TProc} (h:twiceB (p.params++p.locs)=false):errP m fs p=errSs (scpM m fs (p.params++p.locs)) p.body:=by rw [errP,if_neg (by simp [h])]; rfl
structure GP where
 i:Nat
 es:List XP
 a:Option Addr
 c:Nat
 J:View
 lb:Value
def partU (m:TMod) (c:SP) (n:Nat) (p:SP):List Value:=[st m.nm,.slice c.1 m.uses.length c.2,.int .i64 (dataM m),.slice p.1 n p.2,.slice none 0 0]
theorem en6:Enters Tryz.prog 6:=enters_of Tryz.func6 (by kernel_rfl) rfl
theorem ag42:aggOf Tryz.prog 42=some 5:=by kernel_rfl
theorem es38:elemSz Tryz.prog 38=some 2:=by kernel_rfl
theorem en32:Enters Tryz.prog 32:=enters_of Tryz.func32 (by kernel_rfl) rfl
theorem pl82:placesP Tryz.prog 82=some [(0,1),(1,1),(2,1),(3,1)]:=by kernel_rfl
theorem zr82:zeroOf Tryz.prog 82=some (.agg #[.map none,.map none,.slice none 0 0,.map none]):=by kernel_rfl
theorem en10:Enters Tryz.prog 10:=enters_of Tryz.func10 (by kernel_rfl) rfl
theorem en31:Enters Tryz.prog 31:=enters_of Tryz.func31 (by kernel_rfl) rfl
theorem el80:EltOk Tryz.prog 80 77 (.map none) 1 8:=eltOk_of (by kernel_rfl)
theorem sz80:sizeP Tryz.prog 80=some 1:=by kernel_rfl
theorem en34:Enters Tryz.prog 34:=enters_of Tryz.func34 (by kernel_rfl) rfl
theorem sz79:sizeP Tryz.prog 79=some 1:=by kernel_rfl
theorem el128:EltOk Tryz.prog 128 22 (.slice none 0 0) 1 24:=eltOk_of (by kernel_rfl)
theorem en35:Enters Tryz.prog 35:=enters_of Tryz.func35 (by kernel_rfl) rfl
theorem fo42_3:fieldOff Tryz.prog 42 3=some 3:=by kernel_rfl
theorem na39:nonAgg Tryz.prog 39=true:=by kernel_rfl
theorem pl65:placesP Tryz.prog 65=some [(0,1),(1,1),(2,1)]:=by kernel_rfl
theorem zr65:zeroOf Tryz.prog 65=some (.agg #[.int .i64 0,.int .i64 0,.slice none 0 0]):=by kernel_rfl
theorem el39:EltOk Tryz.prog 39 65 (.agg #[.int .i64 0,.int .i64 0,.slice none 0 0]) 3 40:=eltOk_of (by kernel_rfl)
theorem sz39:sizeP Tryz.prog 39=some 1:=by kernel_rfl
theorem fo42_4:fieldOff Tryz.prog 42 4=some 4:=by kernel_rfl
theorem resolve_any (H HF:View) (ke ks:Nat) (r:MAt) (m:TMod) (fa:Option Addr) (fc:Nat) (fs:List (List UInt8×List FItem)) (w:World) (hH:Le H w) (hHF:Le HF w) (hm:RdM ke ks H r m) (hmf:Sl rdFace 2 HF fa fc fs) (hb:wM m≤109951162777) :
   Calls Tryz.prog 12 #[.agg (modV m r).toArray,.slice fa fs.length fc] w fun e w'=>∃r:UAt,e = .returned (.tuple #[.agg (unitV (resolveM m fs).1 r).toArray,.int .i64 (resolveM m fs).2])∧Ext w w'∧RdU (ke+1) (ks+1) (nv w w') r (resolveM m fs).1:=by
 have hfcap:=hmf.cap
 have hfmax:=hmf.max
 refine enterD Tryz.func12 rfl 159 rfl rfl ?_
 refine CWd (W':=Ws w [] [] [HF,H]) (fun _ e=>by subst e; exact Ws.init (by simp [hHF,hH])) ?_
 refine Cs (Cr ?_)
 refine WL.box (.inl rfl) rfl rfl fun b2=>?_
 refine WL.alloc (.inl rfl) rfl zr42 fun b4=>?_
 refine Lrb 0 (.cells (unitV noUnit noUAt).toArray 42 (0,0)) rfl rfl ?_
 refine WL.alloc (.inl rfl) rfl zr31 fun b5=>?_
 refine Lrb 0 (.cells #[.int .i64 0] 31 (0,0)) rfl rfl ?_
 refine Ln (Et (Cs (Cs (Cr ?_))))
 refine V0 (Yda 2 rfl rfl ag27 rfl) ?_
 refine Ld (.inl rfl) rfl en6 rfl (fun r:SP=>.tuple #[.agg #[st (faceM m).1.1,.slice r.1 (faceM m).1.2.length r.2],.int .i64 (faceM m).2]) (fun H r=>Sl rdItem 4 H r.1 r.2 (faceM m).1.2) (fun w hw=>face_any H ke ks r m w (hw.vs _ (by simp)) hm hb) ?_
 intro F19 r19 hf19 h19
 refine V0 (Ym rfl) ?_
 refine V0 (Yx rfl rfl) ?_
 refine V0 (Yx rfl rfl) ?_
 refine WL.alloc (.inl rfl) rfl zr30 fun b6=>?_
 refine Lst 0 (.inl rfl) rfl rfl rfl sz30 rfl rfl rfl ?_
 refine V0 (Ya rfl) ?_
 refine Ln (Et (Cs (Cr ?_)))
 refine V0 (Ym rfl) ?_
 refine V0 (yl_ne rfl rfl) ?_
 refine Ln (Et ?_)
 refine Cc rfl (fun hc0=>?_) (fun hc0=>?_)
 ·
  have he:¬(faceM m).2=0:=by simpa using hc0
  refine Cs (Cr ?_)
  refine V0 (Yb zr42 pl42 rfl rfl) ?_
  refine V0 (Ym rfl) ?_
  refine Lst 2 (.inl rfl) rfl rfl rfl sz42 rfl rfl rfl ?_
  refine Lst 1 (.inl rfl) rfl rfl rfl sz31 rfl rfl rfl ?_
  refine Ln (Et (Crt (Er ?_)))
  refine WE.retD0 (rs_2 rfl (rv_agg 2 rfl rfl ag42 rfl) (rv_one 1 rfl rfl rfl na31)) fun w' hw=>?_
  rw [res_face he]
  exact ⟨noUAt,rfl,hw.fr,noUnit_rd _⟩
 ·
  have he:(faceM m).2=0:=by simpa using hc0
  obtain ⟨hck,hndI,hndU⟩:=face_zero he
  have ho:=mOk hck
  have hndI:=nodup_twice.2 hndI
  have hndU:=nodup_twice.2 hndU
  have few:=ho.few
  have xu:=hm.uses.max
  have yu:=hm.uses.cap
  have xp:=hm.procs.max
  have yp:=hm.procs.cap
  have hwM:wM m=1+m.nm.length+wN m.uses+wD m.decls+wP m.procs+wSs m.main:=rfl
  refine Ck (Et (Cs (Cs (Cr ?_))))
  refine V0 (Ym rfl) ?_
  refine V0 (Yn es38 rfl) ?_
  refine V0 (Yf fo27_1 rfl) ?_
  refine V0 (Yd 3 rfl rfl rfl na22) ?_
  refine V0 (Yn es22 rfl) ?_
  refine V0 (yl_ne rfl rfl) ?_
  refine Ln (Et ?_)
  refine Cc rfl (fun hc1=>?_) (fun hc1=>?_)
  ·
   have hcnt:¬fs.length=m.uses.length:=by simp at hc1; omega
   refine Cs (Cr ?_)
   refine V0 (Yb zr42 pl42 rfl rfl) ?_
   refine Lst 2 (.inl rfl) rfl rfl rfl sz42 rfl rfl rfl ?_
   refine Lst 1 (.inl rfl) rfl rfl rfl sz31 rfl rfl rfl ?_
   refine Ln (Et (Crt (Er ?_)))
   refine WE.retD0 (rs_2 rfl (rv_agg 2 rfl rfl ag42 rfl) (rv_one 1 rfl rfl rfl na31)) fun w' hw=>?_
   rw [res_cnt he hcnt]
   exact ⟨noUAt,rfl,hw.fr,noUnit_rd _⟩
  ·
   have hcount:fs.length=m.uses.length:=by simp at hc1; omega
   refine Ck (Et (Cs (Cr ?_)))
   refine V0 (yl_func rfl) ?_
   refine WL.defer (.inl rfl) rfl ?_
   refine Ln (Et (Cs (Cr ?_)))
   refine V0 (Yda 3 rfl rfl ag27 rfl) ?_
   refine Ld (.inl rfl) rfl en17 rfl (fun r:SP=>.tuple #[.slice r.1 (itemsM m).length r.2,.int .i64 (dataM m)]) (fun H r=>Sl rdItem 4 H r.1 r.2 (itemsM m)) (fun w hw=>items_any H ke ks r m w (hw.vs _ (by simp)) hm ho) ?_
   intro F36 r36 hf36 h36
   refine V0 (Ym rfl) ?_
   refine V0 (Yx rfl rfl) ?_
   refine V0 (Yx rfl rfl) ?_
   refine V0 (Ya rfl) ?_
   refine V0 (Ya rfl) ?_
   refine Ln (Et (Cs (Cr ?_)))
   refine V0 (Ym rfl) ?_
   refine Ld (.inl rfl) rfl en32 rfl (fun b:Nat=>.map (some b)) (fun H b=>H b=some (gobj st (tabI (itemsM m) 0) (itemsM m).length)) (fun w hw=>tableOf_any F36 r36.1 r36.2 (itemsM m) w (hw.vs _ (by simp)) h36 hndI) ?_
   intro F40 b40 hf40 h40
   refine WL.gmk st (.inl rfl) rfl fun b41=>?_
   refine Lrb 0 (gobj st (tabL (m.uses.take 0) 0) 0) rfl rfl ?_
   refine V0 (Yb zr82 pl82 rfl rfl) ?_
   refine WL.box (.inl rfl) rfl rfl fun b43=>?_
   refine LW (fun _ h=>h.osl_nil 77 1) ?_
   refine WL.v0 ?_
   refine V0 (Ya rfl) ?_
   refine Ln (Et (Cs (Cs (Cr ?_))))
   refine V0 (Ym rfl) ?_
   refine V0 (Yn es38 rfl) ?_
   refine V0 (Ym rfl) ?_
   refine Ln (Et (Cb ?_))
   refine CK (ι:=GX XM) (fun g=>[(46,.int .i64 (g.i:Int))]) [(2,_),(4,_),(5,_),(9,_),(10,_),(44,_),(45,_)] (fun g=>Ws w [] [blk b43 (.cells #[.map (some b40),.map (some b41),.slice g.a g.es.length g.c,.map none] 82 (0,0)),blk b41 (gobj st (tabL (m.uses.take g.i) 0) g.i),osT 77 1 XM.cells g.a g.c g.es,blk b5 (.cells #[.int .i64 0] 31 (0,0)),blk b4 (.cells (unitV noUnit noUAt).toArray 42 (0,0)),blk b2 (.cells (modV m r).toArray 27 (0,0))] [g.J,F40,HF,H]) (fun g=>g.i≤fs.length∧g.es.map (·.1)=(fs.take g.i).map (·.2)∧(∀(k:Nat) u f,k<g.i→m.uses[k]? = some u→fs[k]? = some f→okFace u f=true)∧(Fresh w g.J∧Xs IsTab g.J g.es)) (fun g=>fs.length-g.i) ⟨0,[],none,0,v0⟩ ⟨Nat.zero_le _,rfl,fun k u f hk=>absurd hk (Nat.not_lt_zero k),⟨v0_fresh w,Xs.nil _⟩⟩ (sc rfl (sc rfl (sc rfl (sc rfl (sc rfl (sc rfl (sc rfl (sc rfl sn)))))))) (fun _ h=>by have h:=h.fronti 6 rfl; have h:=h.fronti 6 rfl; have h:=h.fronti 6 rfl; have h:=h.fronti 3 rfl; have h:=h.fronti 5 rfl; have h:=h.fronti 5 rfl; have h:=Ws.keep (L:=[_,_,_,_,_,_]) h; have h:=Ws.drops h (Vs':=[v0,F40,HF,H]) (by simp); exact h) ?_
   intro g ⟨hi,hmap,hok,⟨hfJ,hX⟩⟩
   refine Cs (Cr ?_)
   refine V0 (yl_lt rfl rfl) ?_
   refine Ln (Et (Cs ?_))
   refine Cc rfl (fun hc2=>?_) (fun hc2=>?_)
   ·
    have hlt:g.i<fs.length:=by simpa using hc2
    obtain ⟨f,hfi⟩:∃f,fs[g.i]? = some f:=⟨_,List.getElem?_eq_getElem hlt⟩
    obtain ⟨pbf,pof,haf,rf,hrf,hitf⟩:=hmf.elt g.i f hfi
    obtain ⟨u,hui⟩:∃u,m.uses[g.i]? = some u:=⟨_,List.getElem?_eq_getElem (by omega)⟩
    obtain ⟨pbu,pou,hau,hru⟩:=hm.uses.elt g.i u hui
    have hru:RdC H pbu (pou+g.i*1) (strC u):=hru
    have hel:=map_len hmap hi
    refine Ck (Et (Cs (Cb (Cs (Cr ?_)))))
    refine V0 (Ym rfl) ?_
    refine V0 (Yo es38 rfl rfl haf (by omega)) ?_
    refine V0 (yl_lda 2 ag30 rfl rfl rfl (hrf)) ?_
    refine WL.alloc (.inl rfl) rfl zr30 fun b12=>?_
    refine V0 (Ya rfl) ?_
    refine Lst 0 (.inl rfl) rfl rfl rfl sz30 rfl rfl rfl ?_
    refine Ln (Et (Cs ?_))
    refine WC.drawsK (noRes [.cell 4 42,.cell 5 31]) [] [(0,true),(1,false),(2,true),(3,true),(4,true),(5,true),(6,true),(7,true),(8,true),(9,true),(10,true),(11,true),(12,true),(13,false)] mixed (by kernel_rfl) (by kernel_rfl) (fun _ _ _ _ _ hd h=>bodyD_put (fn:=Tryz.f12) [.cell 4 42,.cell 5 31] rfl hd h) ?_
    refine Dq rfl (.inl rfl) rfl (fun _ h=>h) (Yda 0 rfl rfl ag30 rfl) ?_
    refine De rfl (fun _ h=>h) ?_
    refine Lp (.inl rfl) rfl en10 rfl (fun w hw=>scopeCheck_any HF rf.1 rf.2 f.1 f.2 w (hw.vs _ (by simp)) hitf) ?_
    refine Ln (Ed ?_)
    refine Dq rfl (.inl rfl) rfl (fun _ h=>h) (yl_eq rfl rfl) ?_
    refine Dq rfl (.inl rfl) rfl (fun _ h=>h) (Ym rfl) ?_
    apply WD.and 8 rfl rfl rfl rfl rfl (.inl rfl) rfl (fun _ h=>h) rfl rfl rfl rfl
    ·
     intro hg0
     refine Dq rfl (.g rfl rfl rfl) rfl (fun _ h=>h) (Yf fo30_0 rfl) ?_
     refine Dq rfl (.g rfl rfl rfl) rfl (fun _ h=>h) (Yd 0 rfl rfl rfl na9) ?_
     refine Dq rfl (.g rfl rfl rfl) rfl (fun _ h=>h) (Yf fo27_1 rfl) ?_
     refine Dq rfl (.g rfl rfl rfl) rfl (fun _ h=>h) (Yd 6 rfl rfl rfl na22) ?_
     refine Dq rfl (.g rfl rfl rfl) rfl (fun _ h=>h) (Ym rfl) ?_
     refine Dq rfl (.g rfl rfl rfl) rfl (fun _ h=>h) (Yo es22 rfl rfl hau (by omega)) ?_
     refine Dq rfl (.g rfl rfl rfl) rfl (fun _ h=>h) (yl_ld 3 na9 rfl rfl (hru 0 _ rfl)) ?_
     refine Dq rfl (.g rfl rfl rfl) rfl (fun _ h=>h) (yl_eqs rfl rfl) ?_
     exact Gi 8 (fun _ h=>h) rfl rfl rfl
    refine De rfl (fun _ h=>h) ?_
    refine WL.callpx (ι:=Unit) (κ:=Unit) (.inl rfl) rfl en33 rfl (fun _=>.tuple #[]) (fun _=>okFace u f=true) (fun _=>refd 1) (fun _=>okFace u f=false) (fun w hw=>scMust_any _ _ w) ?_ ?_
    ·
     intro _ hp
     refine Ep ?_
     refine Ep ?_
     refine WE.block_panic ?_
     refine Ep ?_
     refine Ep ?_
     refine WE.block_panic ?_
     refine Ep ?_
     refine WE.front 4 rfl ?_
     refine WE.front 5 rfl ?_
     refine WE.panD en31 (closW [_,_] _ [blk b4 (.cells (unitV noUnit noUAt).toArray 42 (0,0)),blk b5 (.cells #[.int .i64 1] 31 (0,0))] rfl (fun w hw=>resolve1_pan b4 b5 (unitV noUnit noUAt) rfl 0 1 w hw)) (rs_2 rfl (rv_agg 0 rfl rfl ag42 rfl) (rv_one 1 rfl rfl rfl na31)) fun w' hw=>?_
     have hno:facesOk m.uses fs=false:=by
       rw [Bool.eq_false_iff]
       intro h
       have:=facesOk_iff.1 h g.i u f hui hfi
       rw [hp] at this; cases this
     rw [res_faces he hcount hno]
     exact ⟨noUAt,rfl,hw.fr,noUnit_rd _⟩
    intro _ hm64
    refine Ln (Ed ?_)
    refine WD.nil (fun _ h=>h) ?_
    refine Et (Cs ?_)
    have hof:okFace u f=true:=hm64
    have hof2:=hof
    simp only [okFace,Bool.and_eq_true,beq_iff_eq] at hof2
    obtain ⟨hfe,hfu⟩:=hof2
    obtain ⟨hfn,hfl⟩:=face_nodup hfe
    have hnot:f.1 ∉ m.uses.take g.i:=by rw [hfu]; exact nodup_at hndU hui
    refine WC.drawsK (noRes [.cell 4 42,.cell 5 31]) [2] [(0,true),(1,true),(2,true),(3,true),(4,true),(5,true),(6,true),(7,true),(8,false)] mixed (by kernel_rfl) (by kernel_rfl) (fun _ _ _ _ _ hd h=>bodyD_put (fn:=Tryz.f12) [.cell 4 42,.cell 5 31] rfl hd h) ?_
    refine Dq rfl (.inl rfl) rfl (fun _ h=>by have h:=Ws.out 2 h; exact h) (Ym rfl) ?_
    refine Dq rfl (.inl rfl) rfl (fun _ h=>by have h:=Ws.out 2 h; exact h) (yl_nil rfl) ?_
    refine Dq rfl (.inl rfl) rfl (fun _ h=>by have h:=Ws.out 2 h; exact h) (Yf fo82_1 rfl) ?_
    refine Dq rfl (.inl rfl) rfl (fun _ h=>by have h:=Ws.out 2 h; exact h) (Yd 1 rfl rfl rfl na79) ?_
    refine Dq rfl (.inl rfl) rfl (fun _ h=>by have h:=Ws.out 2 h; exact h) (Yf fo30_0 rfl) ?_
    refine Dq rfl (.inl rfl) rfl (fun _ h=>by have h:=Ws.out 2 h; exact h) (Yd 0 rfl rfl rfl na9) ?_
    refine Dq rfl (.inl rfl) rfl (fun _ h=>by have h:=Ws.out 2 h; exact h) (Ym rfl) ?_
    refine Dq rfl (.inl rfl) rfl (fun _ h=>by have h:=Ws.out 2 h; exact h) (Yi rfl rfl rfl (by omega)) ?_
    refine De rfl (fun _ h=>by have h:=Ws.out 2 h; exact h) ?_
    refine WL.gset 2 keyStr (.inl rfl) um79 us9 rfl rfl rfl rfl ?_
    refine Lrb 2 (gobj st (tabL (m.uses.take (g.i+1)) 0) (g.i+1)) rfl (by rw [hfu]; exact tab_step hui (hfu▸hnot)) ?_
    refine Ln (Ed ?_)
    refine WD.nil (fun _ h=>by have h:=Ws.out 2 h; exact h) ?_
    refine Et ?_
    refine CU (noRes [.cell 4 42,.cell 5 31]) [3] [10,11,12] (.q false 0 (.q false 1 (.q false 2 (.q false 3 (.q true 4 (.q false 5 (.q true 6 (.e 7 (.e 8 (.e 9 .nil .stop) .stop) .stop)))))))) mixed (by kernel_rfl) (fun _ _ _ _ _ hd h=>bodyD_put (fn:=Tryz.f12) [.cell 4 42,.cell 5 31] rfl hd h) ?_
    refine Uq rfl (.inl rfl) rfl (fun _ h=>by have h:=Ws.out 3 h; exact h) (Ym rfl) ?_
    refine Uq rfl (.inl rfl) rfl (fun _ h=>by have h:=Ws.out 3 h; exact h) (Ym rfl) ?_
    refine Uq rfl (.inl rfl) rfl (fun _ h=>by have h:=Ws.out 3 h; exact h) (yl_nil rfl) ?_
    refine Uq rfl (.inl rfl) rfl (fun _ h=>by have h:=Ws.out 3 h; exact h) (Yf fo82_2 rfl) ?_
    refine Uq rfl (.inl rfl) rfl (fun _ h=>by have h:=Ws.out 3 h; exact h) (Yd 1 rfl rfl rfl na80) ?_
    refine Uq rfl (.inl rfl) rfl (fun _ h=>by have h:=Ws.out 3 h; exact h) (Yf fo30_1 rfl) ?_
    refine Uq rfl (.inl rfl) rfl (fun _ h=>by have h:=Ws.out 3 h; exact h) (Yd 0 rfl rfl rfl na28) ?_
    refine Ue rfl (fun _ h=>by have h:=Ws.out 3 h; exact h) ?_ WU.stop
    refine Ld (.inl rfl) rfl en32 rfl (fun b:Nat=>.map (some b)) (fun H b=>H b=some (gobj st (tabI f.2 0) f.2.length)) (fun w hw=>tableOf_any HF rf.1 rf.2 f.2 w (hw.vs _ (by simp)) hitf hfn) ?_
    intro F80 b80 hf80 h80
    refine Ln (Eu ?_)
    refine Ue rfl (fun _ h=>by have h:=Ws.out 3 h; have h:=Ws.drops h (fun _ hm=>List.mem_append_right [_] hm); exact h) ?_ WU.stop
    refine Lb (.inl rfl) rfl el80 rfl rfl rfl rfl fun b81=>?_
    refine Lrb 0 (.cells (XM.cells (f.2,b80)).toArray 77 (0,0)) rfl (rfl) ?_
    refine Ln (Eu ?_)
    refine Ue rfl (fun _ h=>by have h:=Ws.drop (L:=[_]) (L':=_) h; have h:=Ws.out 3 h; have h:=Ws.drops h (fun _ hm=>List.mem_append_right [_] hm); exact h) ?_ WU.stop
    refine LA ((f.2,b80):XM) 4 0 (.inl rfl) rfl el80 rfl rfl rfl rfl rfl rfl (by omega) (by omega) fun a82 c82=>?_
    refine Ln (Eu ?_)
    refine WU.nil (fun _ h=>by have h:=Ws.drop (L:=[_]) (L':=_) h; have h:=Ws.out 3 h; have h:=Ws.drops h (fun _ hm=>List.mem_append_right [_] hm); exact h) ?_
    refine WS.e rfl ?_
    refine V0 (yl_nil rfl) ?_
    refine Ln (Es ?_)
    refine WS.e rfl ?_
    refine V0 (Yf fo82_2 rfl) ?_
    refine Ln (Es ?_)
    refine WS.e rfl ?_
    refine Lst 2 (.inl rfl) rfl rfl rfl sz80 rfl rfl rfl ?_
    refine Ln (Es ?_)
    refine WS.nil ?_
    refine Eb (Et ?_)
    refine WC.vjoin fun J80 j80a j80b j80f=>?_
    refine Cr ?_
    refine V0 (Yi rfl rfl rfl (by omega)) ?_
    refine V0 (Ym rfl) ?_
    refine Ln ?_
    exact Ea (⟨g.i+1,g.es++[(f.2,b80)],a82,c82,J80⟩:GX XM) (by show _-(g.i+1)<_; omega) ⟨(by show g.i+1≤_; omega),map_snoc hmap hfi rfl,fun k u2 f2 hk hu2 hf2=>by
        rcases Nat.lt_succ_iff_lt_or_eq.1 hk with h | rfl
        · exact hok k u2 f2 h hu2 hf2
        · rw [hui] at hu2; rw [hfi] at hf2; injection hu2 with hu2; injection hf2 with hf2; subst hu2; subst hf2; exact hof,⟨j80f _ hf80 hfJ,Xs.snoc (R:=IsTab) (fun hv h=>IsTab.mv hv h) hX j80b j80a h80⟩⟩ (sc rfl (sc rfl (sc rfl (sc rfl (sc rfl (sc rfl (sc rfl (sc rfl sn)))))))) (fun _ h=>Ws.drop (L:=[_,_]) h)
   ·
    have hgi:g.i=fs.length:=by simp at hc2; omega
    have hfok:facesOk m.uses fs=true:=facesOk_iff.2 fun k u f hu hf=>hok k u f (by have:=(List.getElem?_eq_some_iff.1 hf).1; omega) hu hf
    have hmapF:=map_all hmap hgi
    have huall:m.uses.take g.i=m.uses:=by rw [hgi,hcount,List.take_length]
    have hglen:g.i=m.uses.length:=by rw [hgi,hcount]
    rw [huall,hglen]
    refine Ce (Ex (Ex (Ebh (Et (Cs ?_)))))
    refine WC.oslview (rd:=rdXM) 2 rfl XM.cells_len (fun _ _ _ _ h=>h) fun KF hKF=>?_
    refine WC.drawsK (noRes [.cell 4 42,.cell 5 31]) [3] [(0,true),(1,true),(2,true),(3,true),(5,true),(4,false),(6,true),(7,false)] mixed (by kernel_rfl) (by kernel_rfl) (fun _ _ _ _ _ hd h=>bodyD_put (fn:=Tryz.f12) [.cell 4 42,.cell 5 31] rfl hd h) ?_
    refine Dq rfl (.inl rfl) rfl (fun _ h=>by have h:=Ws.out 3 h; exact h) (Yf fo27_0 rfl) ?_
    refine Dq rfl (.inl rfl) rfl (fun _ h=>by have h:=Ws.out 3 h; exact h) (Yd 3 rfl rfl rfl na9) ?_
    refine Dq rfl (.inl rfl) rfl (fun _ h=>by have h:=Ws.out 3 h; exact h) (Yf fo27_1 rfl) ?_
    refine Dq rfl (.inl rfl) rfl (fun _ h=>by have h:=Ws.out 3 h; exact h) (Yd 3 rfl rfl rfl na22) ?_
    refine Dq rfl (.inl rfl) rfl (fun _ h=>by have h:=Ws.out 3 h; exact h) (Ym rfl) ?_
    refine De rfl (fun _ h=>by have h:=Ws.out 3 h; exact h) ?_
    refine Ld (.inl rfl) rfl en34 rfl (fun r:SP=>.slice r.1 m.uses.length r.2) (fun F r=>Sl rdStr 1 F r.1 r.2 m.uses) (fun w hw=>cloneS_any H r.a1 r.c1 m.uses w (hw.vs _ (by simp)) hm.uses (by omega)) ?_
    intro F90 r90 hf90 h90
    refine Ln (Ed ?_)
    refine Dq rfl (.inl rfl) rfl (fun _ h=>by have h:=Ws.out 3 h; have h:=Ws.drops h (fun _ hm=>List.mem_append_right [_] hm); exact h) (Yb zr42 pl42 rfl rfl) ?_
    refine De rfl (fun _ h=>by have h:=Ws.out 3 h; have h:=Ws.drops h (fun _ hm=>List.mem_append_right [_] hm); exact h) ?_
    refine Lst 3 (.inl rfl) rfl rfl rfl sz42 rfl rfl rfl ?_
    refine Ln (Ed ?_)
    refine WD.nil (fun _ h=>by have h:=Ws.out 3 h; have h:=Ws.drops h (fun _ hm=>List.mem_append_right [_] hm); exact h) ?_
    refine Et (Cs (Cs ?_))
    refine Crb 3 (.cells (partU m r90 ([]:List XP).length (none,0)).toArray 42 (0,0)) rfl rfl ?_
    refine CWd (fun _ h=>h.osl_nil 65 3) ?_
    refine CWd (fun _ h=>h.v0) ?_
    refine Cr ?_
    refine V0 (Yf fo27_3 rfl) ?_
    refine V0 (Yd 5 rfl rfl rfl na24) ?_
    refine V0 (Yn es24 rfl) ?_
    refine V0 (Ym rfl) ?_
    refine Ln (Et (Cb ?_))
    refine CK (ι:=GP) (fun z=>[(96,.int .i64 (z.i:Int))]) [(2,_),(4,_),(5,_),(10,_),(94,_),(95,_)] (fun z=>Ws w [] [blk b43 (.cells #[.map (some b40),.map (some b41),.slice g.a g.es.length g.c,z.lb] 82 (0,0)),blk b41 (gobj st (tabL m.uses 0) m.uses.length),osT 65 3 XP.cells z.a z.c z.es,blk b5 (.cells #[.int .i64 0] 31 (0,0)),blk b4 (.cells (partU m r90 z.es.length (z.a,z.c)).toArray 42 (0,0)),blk b2 (.cells (modV m r).toArray 27 (0,0))] [z.J,F90,KF,g.J,F40,HF,H]) (fun z=>z.i≤m.procs.length∧z.es.map (·.1)=(m.procs.take z.i).map (partT m fs)∧ers (errP m fs) (m.procs.take z.i)=0∧(Fresh w z.J∧Xs (SlPt (ke+1) (ks+1)) z.J z.es)) (fun z=>m.procs.length-z.i) ⟨0,[],none,0,v0,.map none⟩ ⟨Nat.zero_le _,rfl,rfl,⟨v0_fresh w,Xs.nil _⟩⟩ (sc rfl (sc rfl (sc rfl (sc rfl (sc rfl (sc rfl (sc rfl sn))))))) (fun _ h=>by have h:=h.fronti 5 rfl; have h:=h.fronti 5 rfl; have h:=h.fronti 5 rfl; have h:=h.fronti 3 rfl; have h:=h.fronti 5 rfl; have h:=h.fronti 5 rfl; have h:=Ws.drops h (Vs':=[v0,F90,KF,g.J,F40,HF,H]) (by simp); exact h) ?_
    intro z ⟨hi2,hmap2,hers2,⟨hfJ2,hX2⟩⟩
    refine Cs (Cr ?_)
    refine V0 (yl_lt rfl rfl) ?_
    refine Ln (Et (Cs ?_))
    refine Cc rfl (fun hc3=>?_) (fun hc3=>?_)
    ·
     have hlt:z.i<m.procs.length:=by simpa using hc3
     obtain ⟨p,hpi⟩:∃q,m.procs[z.i]? = some q:=⟨_,List.getElem?_eq_getElem hlt⟩
     obtain ⟨pbp,pop,hap,hrp⟩:=hm.procs.elt z.i p hpi
     obtain ⟨pa1,pc1,pa2,pc2,pa3,pc3,hrow,hs1,hs2,hs3⟩:=hrp
     have op:=okP (ho.procs p (List.mem_of_getElem? hpi))
     have pfew:=op.few
     have hup:=wP_upto hpi
     have hx1:=hs1.max
     have hy1:=hs1.cap
     have hx2:=hs2.max
     have hy2:=hs2.cap
     have hel2:=map_len hmap2 hi2
     refine Ck (Et (Cs (Cb (Cs (Cr ?_)))))
     refine V0 (Yo es24 rfl rfl hap (by omega)) ?_
     refine V0 (yl_lda 6 ag86 rfl rfl rfl (hrow)) ?_
     refine WL.alloc (.inl rfl) rfl zr86 fun b14=>?_
     refine Lst 0 (.inl rfl) rfl rfl rfl sz86 rfl rfl rfl ?_
     refine Ln (Et (Cs (Cr ?_)))
     refine V0 (Ym rfl) ?_
     refine WL.gmk st (.inl rfl) rfl fun b101=>?_
     refine Lrb 0 (gobj st (tabL ((p.params++p.locs).take 0) 0) 0) rfl rfl ?_
     refine V0 (yl_nil rfl) ?_
     refine V0 (Yf fo82_3 rfl) ?_
     refine Lst 2 (.inl rfl) rfl rfl rfl sz79 rfl rfl rfl ?_
     refine Ln (Et (Cs (Cs (Cr ?_))))
     refine V0 (Yf fo86_2 rfl) ?_
     refine V0 (Yd 1 rfl rfl rfl na22) ?_
     refine V0 (Yf fo86_3 rfl) ?_
     refine V0 (Yd 1 rfl rfl rfl na22) ?_
     refine Lb (.inl rfl) rfl el128 rfl rfl rfl rfl fun b108=>?_
     refine Ld (.inl rfl) rfl en35 rfl (fun r:SP=>.slice r.1 (p.params++p.locs).length r.2) (fun F r=>Sl rdStr 1 F r.1 r.2 (p.params++p.locs)) (fun w hw=>by
         have hls:Sl rdS 1 (hv w) (some ⟨b108,0,none⟩) 2 [((pa1,pc1),p.params),((pa2,pc2),p.locs)]:=⟨by simp,by decide,by simp,fun j x hj=>⟨b108,0,rfl,by
           match j,hj with
           | 0,hj=>simp only [List.getElem?_cons_zero,Option.some.injEq] at hj; subst hj; exact ⟨hw.hvb 0 rfl rfl,hs1.imp fun b o x hx=>rdStr_mono (hv_of (hw.vs H (by simp))) b o x hx⟩
           | 1,hj=>simp only [List.getElem?_cons_succ,List.getElem?_cons_zero,Option.some.injEq] at hj; subst hj; exact ⟨hw.hvb 0 rfl rfl,hs2.imp fun b o x hx=>rdStr_mono (hv_of (hw.vs H (by simp))) b o x hx⟩⟩⟩
         have hc:=concatS_any (hv w) (some ⟨b108,0,none⟩) 2 _ w (hv_le w) hls (by simp [totL]; omega) (by simp)
         rw [show [((pa1,pc1),p.params),((pa2,pc2),p.locs)].flatMap (·.2)=p.params++p.locs by simp] at hc
         exact hc) ?_
     intro F109 r109 hf109 h109
     refine V0 (Yn es22 rfl) ?_
     refine V0 (Ym rfl) ?_
     refine Ln (Et (Cb ?_))
     refine CK (ι:=Nat) (fun j=>[(111,.int .i64 (j:Int))]) [(2,_),(4,_),(5,_),(10,_),(14,_),(94,_),(95,_),(96,_),(109,_),(110,_)] (fun j=>Ws w [] [blk b43 (.cells #[.map (some b40),.map (some b41),.slice g.a g.es.length g.c,.map (some b101)] 82 (0,0)),blk b101 (gobj st (tabL ((p.params++p.locs).take j) 0) j),blk b14 (.cells (procV p pa1 pc1 pa2 pc2 pa3 pc3).toArray 86 (0,0)),blk b41 (gobj st (tabL m.uses 0) m.uses.length),osT 65 3 XP.cells z.a z.c z.es,blk b5 (.cells #[.int .i64 0] 31 (0,0)),blk b4 (.cells (partU m r90 z.es.length (z.a,z.c)).toArray 42 (0,0)),blk b2 (.cells (modV m r).toArray 27 (0,0))] [F109,z.J,F90,KF,g.J,F40,HF,H]) (fun j=>j≤(p.params++p.locs).length∧((p.params++p.locs).take j).Nodup) (fun j=>(p.params++p.locs).length-j) 0 ⟨Nat.zero_le _,List.nodup_nil⟩ (sc rfl (sc rfl (sc rfl (sc rfl (sc rfl (sc rfl (sc rfl (sc rfl (sc rfl (sc rfl (sc rfl sn))))))))))) (fun _ h=>by have h:=h.fronti 8 rfl; have h:=h.fronti 8 rfl; have h:=h.fronti 8 rfl; have h:=h.fronti 8 rfl; have h:=h.fronti 8 rfl; have h:=h.fronti 7 rfl; have h:=h.fronti 7 rfl; have h:=h.fronti 8 rfl; have h:=Ws.keep (L:=[_,_,_,_,_,_,_,_]) h; exact h) ?_
     intro j ⟨hj,hnj⟩
     refine Cs (Cr ?_)
     refine V0 (yl_lt rfl rfl) ?_
     refine Ln (Et (Cs ?_))
     refine Cc rfl (fun hc4=>?_) (fun hc4=>?_)
     ·
      have hlt:j<(p.params++p.locs).length:=by simp only [decide_eq_true_eq] at hc4; omega
      obtain ⟨s,hsi⟩:∃q,(p.params++p.locs)[j]? = some q:=⟨_,List.getElem?_eq_getElem hlt⟩
      obtain ⟨pbs,pos,has,hrs⟩:=h109.elt j s hsi
      have hrs:RdC F109 pbs (pos+j*1) (strC s):=hrs
      have hcn:=h109.cap
      have hmn:=h109.max
      refine Ck (Et (Cs (Cb (Cs (Cr ?_)))))
      refine V0 (Ym rfl) ?_
      refine V0 (Yo es22 rfl rfl has (by omega)) ?_
      refine V0 (yl_ld 0 na9 rfl rfl (hrs 0 _ rfl)) ?_
      refine V0 (Ya rfl) ?_
      refine V0 (Ya rfl) ?_
      refine Ln (Et (Cs (Cr ?_)))
      refine V0 (Ym rfl) ?_
      refine V0 (yl_nil rfl) ?_
      refine V0 (Yf fo82_3 rfl) ?_
      refine V0 (Yd 0 rfl rfl rfl na79) ?_
      refine V0 (Ym rfl) ?_
      refine V0 (yl_glook 1 keyStr um79 us9 zr3 rfl rfl rfl) ?_
      rw [posN_get]
      refine V0 (yl_eq rfl rfl) ?_
      refine WL.callpx (ι:=Unit) (κ:=Unit) (.inl rfl) rfl en33 rfl (fun _=>.tuple #[]) (fun _=>(posN s ((p.params++p.locs).take j)==0)=true) (fun _=>refd 6) (fun _=>(posN s ((p.params++p.locs).take j)==0)=false) (fun w hw=>scMust_any _ _ w) ?_ ?_
      ·
       intro _ hp
       refine Ep ?_
       refine WE.block_panic ?_
       refine Ep ?_
       refine Ep ?_
       refine WE.block_panic ?_
       refine Ep ?_
       refine WE.block_panic ?_
       refine Ep ?_
       refine Ep ?_
       refine WE.block_panic ?_
       refine Ep ?_
       refine WE.front 5 rfl ?_
       refine WE.front 6 rfl ?_
       refine WE.panD en31 (closW [_,_] _ [blk b4 (.cells (unitV noUnit noUAt).toArray 42 (0,0)),blk b5 (.cells #[.int .i64 6] 31 (0,0))] rfl (fun w hw=>resolve1_pan b4 b5 (partU m r90 z.es.length (z.a,z.c)) rfl 0 6 w hw)) (rs_2 rfl (rv_agg 0 rfl rfl ag42 rfl) (rv_one 1 rfl rfl rfl na31)) fun w' hw=>?_
       have ht:=pos_twice hsi hp
       have hE:errU m fs=6:=by rw [errU,ers_hit (errP m fs) hpi hers2 (by rw [errP_twice ht]; decide),errP_twice ht]; rfl
       rw [res_err he hcount hfok (by rw [hE]; decide),hE]
       exact ⟨noUAt,rfl,hw.fr,noUnit_rd _⟩
      intro _ hm123
      have hnot:=pos_zero hm123
      refine Ln (Et (Cr ?_))
      refine V0 (Ym rfl) ?_
      refine V0 (yl_nil rfl) ?_
      refine V0 (Yf fo82_3 rfl) ?_
      refine V0 (Yd 0 rfl rfl rfl na79) ?_
      refine V0 (Ym rfl) ?_
      refine V0 (Ym rfl) ?_
      refine V0 (Yi rfl rfl rfl (by omega)) ?_
      refine WL.gset 1 keyStr (.inl rfl) um79 us9 rfl rfl rfl rfl ?_
      refine Lrb 1 (gobj st (tabL ((p.params++p.locs).take (j+1)) 0) (j+1)) rfl (tab_step hsi hnot) ?_
      refine Ln (Eb (Et (Cr ?_)))
      refine V0 (Yi rfl rfl rfl (by omega)) ?_
      refine V0 (Ym rfl) ?_
      refine Ln ?_
      exact Ea (j+1) (by omega) ⟨by omega,nodup_grow hsi hnot hnj⟩ (sc rfl (sc rfl (sc rfl (sc rfl (sc rfl (sc rfl (sc rfl (sc rfl (sc rfl (sc rfl (sc rfl sn))))))))))) (fun _ h=>h)
     ·
      have hjn:j=(p.params++p.locs).length:=by simp only [decide_eq_false_iff_not] at hc4; omega
      have hnd2:twiceB (p.params++p.locs)=false:=nodup_twice.1 (by rw [hjn,List.take_length] at hnj; exact hnj)
      rw [hjn,List.take_length]
      refine Ce (Ex (Ex (Ebh (Et ?_))))
      refine CU (noRes [.cell 4 42,.cell 5 31]) [4] [15,16] (.q false 0 (.q true 1 (.q false 2 (.q true 3 (.q false 4 (.q false 5 (.q true 6 (.q false 7 (.q false 8 (.q false 9 (.q true 10 (.e 11 (.q false 12 (.e 13 (.e 14 .nil .stop) .stop)) .stop)))))))))))) mixed (by kernel_rfl) (fun _ _ _ _ _ hd h=>bodyD_put (fn:=Tryz.f12) [.cell 4 42,.cell 5 31] rfl hd h) ?_
      refine Uq rfl (.inl rfl) rfl (fun _ h=>by have h:=Ws.out 4 h; exact h) (Yf fo42_3 rfl) ?_
      refine Uq rfl (.inl rfl) rfl (fun _ h=>by have h:=Ws.out 4 h; exact h) (Yd 5 rfl rfl rfl na39) ?_
      refine Uq rfl (.inl rfl) rfl (fun _ h=>by have h:=Ws.out 4 h; exact h) (Yf fo86_2 rfl) ?_
      refine Uq rfl (.inl rfl) rfl (fun _ h=>by have h:=Ws.out 4 h; exact h) (Yd 2 rfl rfl rfl na22) ?_
      refine Uq rfl (.inl rfl) rfl (fun _ h=>by have h:=Ws.out 4 h; exact h) (Yn es22 rfl) ?_
      refine Uq rfl (.inl rfl) rfl (fun _ h=>by have h:=Ws.out 4 h; exact h) (Yf fo86_3 rfl) ?_
      refine Uq rfl (.inl rfl) rfl (fun _ h=>by have h:=Ws.out 4 h; exact h) (Yd 2 rfl rfl rfl na22) ?_
      refine Uq rfl (.inl rfl) rfl (fun _ h=>by have h:=Ws.out 4 h; exact h) (Yn es22 rfl) ?_
      refine Uq rfl (.inl rfl) rfl (fun _ h=>by have h:=Ws.out 4 h; exact h) (Ym rfl) ?_
      refine Uq rfl (.inl rfl) rfl (fun _ h=>by have h:=Ws.out 4 h; exact h) (Yf fo86_4 rfl) ?_
      refine Uq rfl (.inl rfl) rfl (fun _ h=>by have h:=Ws.out 4 h; exact h) (Yd 2 rfl rfl rfl na25) ?_
      refine Ue rfl (fun _ h=>by have h:=Ws.out 4 h; exact h) ?_ WU.stop
      refine WL.calldx (ι:=SP) (κ:=Unit) (.inl rfl) rfl en36 rfl (fun r=>.slice r.1 (actsT (scpM m fs (p.params++p.locs)) p.body).length r.2) (fun F r=>errSs (scpM m fs (p.params++p.locs)) p.body=0∧Sl (RdA (ke+1) (ks+1)) 7 F r.1 r.2 (actsT (scpM m fs (p.params++p.locs)) p.body)) (fun _=>refd (errSs (scpM m fs (p.params++p.locs)) p.body)) (fun _=>errSs (scpM m fs (p.params++p.locs)) p.body≠0) (fun w hw=>by
          have hS:Slv (hv w) b43 (scpM m fs (p.params++p.locs)):=⟨⟨b40,b41,g.a,g.c,b101,⟨hw.hvb 0 rfl rfl,hw.hvb 0 rfl rfl,by show vc (hv w) b43 2=some (.slice g.a (fs.map (·.2)).length g.c); rw [←hmapF,List.length_map]; exact hv_blk (hw.hvw 0 rfl) rfl,hw.hvb 0 rfl rfl⟩,hw.vs F40 (by simp) _ _ h40,hw.hvw 3 rfl,by show Sl rdTab 1 (hv w) g.a g.c (fs.map (·.2)); rw [←hmapF]; exact slX_of hKF hX fun b o e h1 h2=>⟨e.2,(hv_of (hw.vs KF (by simp))).cell (h1 0 _ rfl),hw.vs g.J (by simp) _ _ h2⟩,hw.hvw 1 rfl⟩,hndU,by show m.uses.length=(fs.map (·.2)).length; rw [List.length_map,hcount],⟨ho.few.1,by show (p.params++p.locs).length≤7; rw [List.length_append]; omega⟩⟩
          exact scActs_any (hv w) H b43 (scpM m fs (p.params++p.locs)) ke hS ks p.body pa3 pc3 w (hv_le w) (hw.vs H (by simp)) hs3 (by omega)) ?_ ?_
      ·
       intro _ hp
       refine Ep ?_
       refine WE.block_panic ?_
       refine Ep ?_
       refine Ep ?_
       refine WE.block_panic ?_
       refine Ep ?_
       refine WE.front 5 rfl ?_
       refine WE.front 6 rfl ?_
       refine WE.panD en31 (closW [_,_] _ [blk b4 (.cells (unitV noUnit noUAt).toArray 42 (0,0)),blk b5 (.cells #[.int .i64 (errSs (scpM m fs (p.params++p.locs)) p.body)] 31 (0,0))] rfl (fun w hw=>resolve1_pan b4 b5 (partU m r90 z.es.length (z.a,z.c)) rfl 0 (errSs (scpM m fs (p.params++p.locs)) p.body) w hw)) (rs_2 rfl (rv_agg 0 rfl rfl ag42 rfl) (rv_one 1 rfl rfl rfl na31)) fun w' hw=>?_
       have hE:errU m fs=errSs (scpM m fs (p.params++p.locs)) p.body:=by rw [errU,ers_hit (errP m fs) hpi hers2 (by rw [errP_body hnd2]; exact hp),errP_body hnd2,er_ne hp]
       rw [res_err he hcount hfok (by rw [hE]; exact hp),hE]
       exact ⟨noUAt,rfl,hw.fr,noUnit_rd _⟩
      intro F143 r143 hfr143 ⟨he143,h143⟩
      refine Ln (Eu ?_)
      refine Uq rfl (.inl rfl) rfl (fun _ h=>by have h:=Ws.out 4 h; have h:=Ws.drops h (fun _ hm=>List.mem_append_right [_] hm); exact h) (Yb zr65 pl65 rfl rfl) ?_
      refine Ue rfl (fun _ h=>by have h:=Ws.out 4 h; have h:=Ws.drops h (fun _ hm=>List.mem_append_right [_] hm); exact h) ?_ WU.stop
      refine Lb (.inl rfl) rfl el39 rfl rfl rfl rfl fun b145=>?_
      refine Lrb 0 (.cells (XP.cells (partT m fs p,r143)).toArray 65 (0,0)) rfl (rfl) ?_
      refine Ln (Eu ?_)
      refine Ue rfl (fun _ h=>by have h:=Ws.drop (L:=[_]) (L':=_) h; have h:=Ws.out 4 h; have h:=Ws.drops h (fun _ hm=>List.mem_append_right [_] hm); exact h) ?_ WU.stop
      refine LA (((partT m fs p,r143):XP)) 5 0 (.inl rfl) rfl el39 rfl rfl rfl rfl rfl rfl (by omega) (by omega) fun a146 c146=>?_
      refine Ln (Eu ?_)
      refine WU.nil (fun _ h=>by have h:=Ws.drop (L:=[_]) (L':=_) h; have h:=Ws.out 4 h; have h:=Ws.drops h (fun _ hm=>List.mem_append_right [_] hm); exact h) ?_
      refine WS.e rfl ?_
      refine V0 (Yf fo42_3 rfl) ?_
      refine Ln (Es ?_)
      refine WS.e rfl ?_
      refine Lst 7 (.inl rfl) rfl rfl rfl sz39 rfl rfl rfl ?_
      refine Ln (Es ?_)
      refine WS.nil ?_
      refine Eb (Et ?_)
      refine WC.vjoin fun Jx jxa jxb jxf=>?_
      refine WC.vjoin fun J143 j143a j143b j143f=>?_
      refine Cr ?_
      refine V0 (Yi rfl rfl rfl (by omega)) ?_
      refine V0 (Ym rfl) ?_
      refine Ln ?_
      exact Ea (⟨z.i+1,z.es++[(partT m fs p,r143)],a146,c146,J143,.map (some b101)⟩:GP) (by show _-(z.i+1)<_; omega) ⟨(by show z.i+1≤_; omega),map_snoc hmap2 hpi rfl,(by show ers (errP m fs) (m.procs.take (z.i+1))=0; rw [ers_take _ hpi,hers2,er_0,errP_body hnd2,he143]),⟨j143f _ (jxf _ hfr143 hf109) hfJ2,Xs.snoc (R:=SlPt _ _) (fun hv h=>SlPt.mv hv h) hX2 j143b (VLe.trans jxa j143a) h143⟩⟩ (sc rfl (sc rfl (sc rfl (sc rfl (sc rfl (sc rfl (sc rfl sn))))))) (fun _ h=>by have h:=h.fronti 8 rfl; have h:=h.fronti 8 rfl; have h:=h.fronti 8 rfl; have h:=h.fronti 8 rfl; have h:=h.fronti 8 rfl; have h:=h.fronti 6 rfl; have h:=Ws.keep (L:=[_,_,_,_,_,_]) h; exact h)
    ·
     have hqi:z.i=m.procs.length:=by simp at hc3; omega
     have hall2:=map_all hmap2 hqi
     have hers3:ers (errP m fs) m.procs=0:=by rw [←hers2,hqi,List.take_length]
     have hU:unitT m fs=⟨m.nm,m.uses,dataM m,z.es.map (·.1),actsT (scpM m fs []) m.main⟩:=by rw [hall2]; rfl
     refine Ce (Ex (Ex (Ebh (Et (Cs ?_)))))
     refine Cr ?_
     refine V0 (Ym rfl) ?_
     refine WL.gmk st (.inl rfl) rfl fun b150=>?_
     refine V0 (yl_nil rfl) ?_
     refine V0 (Yf fo82_3 rfl) ?_
     refine Lst 1 (.inl rfl) rfl rfl rfl sz79 rfl rfl rfl ?_
     refine Ln (Et (Cs (Cr ?_)))
     refine V0 (Ym rfl) ?_
     refine V0 (Yf fo27_4 rfl) ?_
     refine V0 (Yd 6 rfl rfl rfl na25) ?_
     refine WL.calldx (ι:=SP) (κ:=Unit) (.inl rfl) rfl en36 rfl (fun r=>.slice r.1 (actsT (scpM m fs []) m.main).length r.2) (fun F r=>errSs (scpM m fs []) m.main=0∧Sl (RdA (ke+1) (ks+1)) 7 F r.1 r.2 (actsT (scpM m fs []) m.main)) (fun _=>refd (errSs (scpM m fs []) m.main)) (fun _=>errSs (scpM m fs []) m.main≠0) (fun w hw=>by
         have hS:Slv (hv w) b43 (scpM m fs []):=⟨⟨b40,b41,g.a,g.c,b150,⟨hw.hvb 1 rfl rfl,hw.hvb 1 rfl rfl,by show vc (hv w) b43 2=some (.slice g.a (fs.map (·.2)).length g.c); rw [←hmapF,List.length_map]; exact hv_blk (hw.hvw 1 rfl) rfl,hw.hvb 1 rfl rfl⟩,hw.vs F40 (by simp) _ _ h40,hw.hvw 2 rfl,by show Sl rdTab 1 (hv w) g.a g.c (fs.map (·.2)); rw [←hmapF]; exact slX_of hKF hX fun b o e h1 h2=>⟨e.2,(hv_of (hw.vs KF (by simp))).cell (h1 0 _ rfl),hw.vs g.J (by simp) _ _ h2⟩,hw.hvw 0 rfl⟩,hndU,by show m.uses.length=(fs.map (·.2)).length; rw [List.length_map,hcount],⟨ho.few.1,by show (0:Nat)≤7; omega⟩⟩
         exact scActs_any (hv w) H b43 (scpM m fs []) ke hS ks m.main r.a4 r.c4 w (hv_le w) (hw.vs H (by simp)) hm.main (by omega)) ?_ ?_
     ·
      intro _ hp
      refine Ep ?_
      refine WE.front 4 rfl ?_
      refine WE.front 5 rfl ?_
      refine WE.panD en31 (closW [_,_] _ [blk b4 (.cells (unitV noUnit noUAt).toArray 42 (0,0)),blk b5 (.cells #[.int .i64 (errSs (scpM m fs []) m.main)] 31 (0,0))] rfl (fun w hw=>resolve1_pan b4 b5 (partU m r90 z.es.length (z.a,z.c)) rfl 0 (errSs (scpM m fs []) m.main) w hw)) (rs_2 rfl (rv_agg 0 rfl rfl ag42 rfl) (rv_one 1 rfl rfl rfl na31)) fun w' hw=>?_
      have hE:errU m fs=errSs (scpM m fs []) m.main:=by rw [errU,hers3,er_0]
      rw [res_err he hcount hfok (by rw [hE]; exact hp),hE]
      exact ⟨noUAt,rfl,hw.fr,noUnit_rd _⟩
     intro F156 r156 hfr156 ⟨he156,h156⟩
     refine V0 (Yf fo42_4 rfl) ?_
     refine Lst 5 (.inl rfl) rfl rfl rfl sz40 rfl rfl rfl ?_
     refine Ln (Et (Cs ?_))
     refine WC.oslN (rd:=rdXP) 3 rfl (fun _ hk=>by cases hk) XP.cells_len (fun _ _ _ _ h=>h) fun KP fKP hKP=>?_
     refine Crb 4 (.cells (unitV (unitT m fs) ⟨r90,(z.a,z.c),r156⟩).toArray 42 (0,0)) rfl (by rw [hU]; show Obj.cells _ _ _=Obj.cells (unitV _ _).toArray _ _; simp only [unitV,List.length_map]; rfl) ?_
     refine Cr ?_
     refine V0 (Yda 4 rfl rfl ag42 rfl) ?_
     refine Lst 4 (.inl rfl) rfl rfl rfl sz42 rfl rfl rfl ?_
     refine Lst 3 (.inl rfl) rfl rfl rfl sz31 rfl rfl rfl ?_
     refine Ln (Et (Crt ?_))
     refine WE.front 3 rfl ?_
     refine WE.front 4 rfl ?_
     refine WE.retD en31 (closW [_,_] _ [blk b4 (.cells (unitV (unitT m fs) ⟨r90,(z.a,z.c),r156⟩).toArray 42 (0,0)),blk b5 (.cells #[.int .i64 0] 31 (0,0))] rfl (fun w hw=>resolve1_ret b4 b5 (unitV (unitT m fs) ⟨r90,(z.a,z.c),r156⟩) rfl 0 0 w hw)) (rs_2 rfl (rv_agg 0 rfl rfl ag42 rfl) (rv_one 1 rfl rfl rfl na31)) fun w' hw=>?_
     rw [res_ok he hcount hfok (by rw [errU,hers3,er_0,he156])]
     exact ⟨⟨r90,(z.a,z.c),r156⟩,rfl,hw.fr,⟨slStr_mv h90 (nv_vs hw (by simp) hf90),by rw [hU]; exact slPt_of hKP (nv_vs hw (by simp) fKP) (nv_vs hw (by simp) hfJ2) hX2,slA_mv h156 (nv_vs hw (by simp) hfr156)⟩⟩
end Go.Proofs.YtinnlppbkhhoiaaGreatDoor
end
section
namespace Go.Proofs.YtinnlppbkhhoiaaGreatDoor
open Go.Bw
set_option linter.unusedVariables false
set_option linter.unusedSimpArgs false
structure RAt where
 ma:MAt
 fa:SP
 oa:SP
 na:SP
structure RsIn (HS:View) (m:TMod) (fs:List (List UInt8×List FItem)) (ns:List (List UInt8)) (q:RAt):Prop where
 uses:Sl rdStr 1 HS q.ma.a1 q.ma.c1 m.uses
 faces:Sl rdFace 2 HS q.fa.1 q.fa.2 fs
 own:Sl rdItem 4 HS q.oa.1 q.oa.2 (itemsM m)
 names:Sl rdStr 1 HS q.na.1 q.na.2 ns
 len:m.uses.length=fs.length
end Go.Proofs.YtinnlppbkhhoiaaGreatDoor
end
section
namespace Go.Proofs.YtinnlppbkhhoiaaGreatDoor
open Go.Bw
set_option linter.unusedVariables false
set_option linter.unusedSimpArgs false
structure GQ where
 i:Nat
 es:List XP
 a:Option Addr
 c:Nat
 J:View
 ns:List (List UInt8)
 na:SP
theorem slItem_mv {H N:View} (hv:VLe H N) {a:Option Addr} {c:Nat} {l:List FItem} (h:Sl rdItem 4 H a c l):Sl rdItem 4 N a c l:=h.imp fun b o x hx=>rdItem_mono hv b o x hx
end Go.Proofs.YtinnlppbkhhoiaaGreatDoor
end
section
namespace Go.Proofs.YtinnlppbkhhoiaaGreatDoor
open Go.Bw
set_option linter.unusedVariables false
set_option linter.unusedSimpArgs false
theorem es66:elemSz Tryz.prog 66=some 5:=by kernel_rfl
theorem na66:nonAgg Tryz.prog 66=true:=by kernel_rfl
theorem es40:elemSz Tryz.prog 40=some 7:=by kernel_rfl
theorem fo68_0:fieldOff Tryz.prog 68 0=some 0:=by kernel_rfl
theorem na40:nonAgg Tryz.prog 40=true:=by kernel_rfl
theorem fo42_0:fieldOff Tryz.prog 42 0=some 0:=by kernel_rfl
theorem fo42_1:fieldOff Tryz.prog 42 1=some 1:=by kernel_rfl
theorem fo42_2:fieldOff Tryz.prog 42 2=some 2:=by kernel_rfl
theorem es39:elemSz Tryz.prog 39=some 3:=by kernel_rfl
theorem fo65_0:fieldOff Tryz.prog 65 0=some 0:=by kernel_rfl
theorem fo65_1:fieldOff Tryz.prog 65 1=some 1:=by kernel_rfl
theorem fo65_2:fieldOff Tryz.prog 65 2=some 2:=by kernel_rfl
end Go.Proofs.YtinnlppbkhhoiaaGreatDoor
end
section
namespace Go.Proofs.YtinnlppbkhhoiaaGreatDoor
open Go.Bw
set_option linter.unusedVariables false
set_option linter.unusedSimpArgs false
def cntM:TMod:=(⟨[99,110,116],[],[(⟨1,[107],true,3⟩:TDecl),(⟨2,[115,117,109],true,0⟩:TDecl),(⟨3,[116],true,4⟩:TDecl)],[(⟨[100,111,119,110],true,[[110]],[[105]],[(TStmt.mk 1 [] [105] [(TExpr.mk 3 0 [] [110] [])] [] []),(TStmt.mk 5 [] [] [(TExpr.mk 3 0 [] [105] [])] [(TStmt.mk 1 [] [115,117,109] [(TExpr.mk 9 0 [] [] [(TExpr.mk 3 0 [] [115,117,109] []),(TExpr.mk 3 0 [] [105] [])])] [] []),(TStmt.mk 1 [] [105] [(TExpr.mk 10 0 [] [] [(TExpr.mk 3 0 [] [105] []),(TExpr.mk 1 1 [] [] [])])] [] [])] []),(TStmt.mk 6 [] [] [(TExpr.mk 3 0 [] [115,117,109] [])] [] [])]⟩:TProc)],[]⟩:TMod)
def topS:Tx:=[109,111,100,117,108,101,32,116,111,112,123,117,115,101,32,99,110,116,59,109,97,105,110,123,99,110,116,46,116,91,49,93,61,99,110,116,46,100,111,119,110,40,99,110,116,46,107,41,59,111,117,116,32,99,110,116,46,116,91,105,110,93,59,105,102,40,99,110,116,46,115,117,109,61,54,41,123,111,117,116,32,55,59,125,101,108,115,101,123,111,117,116,32,56,59,125,125,125]
def topM:TMod:=(parseM topS).1
def fsC:List (List UInt8×List FItem):=[(cntN,cntI)]
theorem cnt_w:wM cntM≤109951162777:=by decide +kernel
theorem top_parse:(parseM topS).2=0:=by decide +kernel
theorem cnt_face:faceM cntM=((cntN,cntI),0):=by decide +kernel
theorem cnt_fe:faceE cntN cntI=0:=by decide +kernel
theorem cnt_res:(resolveM cntM []).2=0:=by decide +kernel
theorem cnt_data:(resolveM cntM []).1.data=5:=by decide +kernel
theorem cnt_parts:(resolveM cntM []).1.parts.length=1:=by decide +kernel
theorem cnt_loc:((resolveM cntM []).1.parts[0]?).map (·.locals)=some 1:=by decide +kernel
theorem top_res:(resolveM topM fsC).2=0:=by decide +kernel
theorem top_res8:(resolveM topM []).2=8:=by decide +kernel
theorem top_len:(resolveM topM fsC).1.main.length=3:=by decide +kernel
theorem top_first0:((resolveM topM fsC).1.main[0]?).map (fun a=>(a.m,a.pl,a.n))=some (1,1,4):=by decide +kernel
theorem cnt_part:∃p,(resolveM cntM []).1.parts[0]? = some p∧p.locals=1:=by
 have h:=cnt_loc
 cases hx:(resolveM cntM []).1.parts[0]? with
 | none=>rw [hx] at h; cases h
 | some p=>rw [hx] at h; exact ⟨p,rfl,by simpa using h⟩
theorem top_act:∃a,(resolveM topM fsC).1.main[0]? = some a∧a.m=1∧a.pl=1∧a.n=4:=by
 have h:=top_first0
 cases hx:(resolveM topM fsC).1.main[0]? with
 | none=>rw [hx] at h; cases h
 | some a=>rw [hx] at h; exact ⟨a,rfl,by simpa using h⟩
theorem parseM_w (s:Tx):wM (parseM s).1≤73728:=by
 unfold parseM
 split
 · show wM noMod≤_; decide
 · rename_i h
   have h0:(lexR s).2=0:=by simpa using h
   have hl:=(lexR_tok h0).len
   split
   · rename_i m hm
     split
     · have:=modP_w hm
       simp at this
       show wM m≤_
       omega
     · show wM noMod≤_; decide
   · show wM noMod≤_; decide
theorem pl118:placesP Tryz.prog 118=some [(0,1),(1,1),(2,1),(3,1),(4,1),(5,1)]:=by kernel_rfl
theorem en23:Enters Tryz.prog 23:=enters_of Tryz.func23 (by kernel_rfl) rfl
theorem en12:Enters Tryz.prog 12:=enters_of Tryz.func12 (by kernel_rfl) rfl
theorem en25:Enters Tryz.prog 25:=enters_of Tryz.func25 (by kernel_rfl) rfl
theorem en24:Enters Tryz.prog 24:=enters_of Tryz.func24 (by kernel_rfl) rfl
theorem en26:Enters Tryz.prog 26:=enters_of Tryz.func26 (by kernel_rfl) rfl
theorem el38:EltOk Tryz.prog 38 30 (.agg #[st [],.slice none 0 0]) 2 40:=eltOk_of (by kernel_rfl)
theorem en9:Enters Tryz.prog 9:=enters_of Tryz.func9 (by kernel_rfl) rfl
theorem en8:Enters Tryz.prog 8:=enters_of Tryz.func8 (by kernel_rfl) rfl
theorem counter_any (w:World) :
   Calls Tryz.prog 23 #[] w fun e w'=>∃r:MAt,e = .returned (.agg (modV cntM r).toArray)∧Ext w w'∧RdM 7 6 (nv w w') r cntM:=by
 refine enter Tryz.func23 rfl 33 rfl rfl ?_
 refine CWd (W':=Ws w [] [] []) (fun _ e=>by subst e; exact Ws.init (by simp)) ?_
 refine Cs (Cr ?_)
 refine WL.alloc (.inl rfl) rfl zr27 fun b0=>?_
 refine Ln (Et (Cs (Cr ?_)))
 refine V0 (Yb zr109 pl109 rfl rfl) ?_
 refine V0 (Yb zr109 pl109 rfl rfl) ?_
 refine V0 (Yb zr109 pl109 rfl rfl) ?_
 refine Lb (.inl rfl) rfl el23 rfl rfl rfl rfl fun b4=>?_
 refine LN (rd:=rdDecl) (f:=TDecl.cells) (m:=3) 0 [(⟨1,[107],true,3⟩:TDecl),(⟨2,[115,117,109],true,0⟩:TDecl),(⟨3,[116],true,4⟩:TDecl)] rfl rfl (fun _ hk=>by cases hk) TDecl.cells_len (fun _ _ _ _ h=>h) (show 3≤3 by decide) (by decide) fun H4 fH4 hH4=>?_
 refine Lb (.inl rfl) rfl el22 rfl rfl rfl rfl fun b5=>?_
 refine LN (rd:=rdStr) (f:=strC) (m:=1) 0 [[110]] rfl rfl (fun _ hk=>by cases hk) strC_len (fun _ _ _ _ h=>h) (show 1≤1 by decide) (by decide) fun H5 fH5 hH5=>?_
 refine Lb (.inl rfl) rfl el22 rfl rfl rfl rfl fun b6=>?_
 refine LN (rd:=rdStr) (f:=strC) (m:=1) 0 [[105]] rfl rfl (fun _ hk=>by cases hk) strC_len (fun _ _ _ _ h=>h) (show 1≤1 by decide) (by decide) fun H6 fH6 hH6=>?_
 refine V0 (Yb zr116 pl116 rfl rfl) ?_
 refine Lb (.inl rfl) rfl el114 rfl rfl rfl rfl fun b8=>?_
 refine LN (rd:=rdXE) (f:=XE.cells) (m:=1) 0 [((TExpr.mk 3 0 [] [110] []),none,0)] rfl rfl (fun _ hk=>by cases hk) XE.cells_len (fun _ _ _ _ h=>h) (show 1≤1 by decide) (by decide) fun H8 fH8 hH8=>?_
 refine V0 (Yb zr118 pl118 rfl rfl) ?_
 refine V0 (Yb zr116 pl116 rfl rfl) ?_
 refine Lb (.inl rfl) rfl el114 rfl rfl rfl rfl fun b11=>?_
 refine LN (rd:=rdXE) (f:=XE.cells) (m:=1) 0 [((TExpr.mk 3 0 [] [105] []),none,0)] rfl rfl (fun _ hk=>by cases hk) XE.cells_len (fun _ _ _ _ h=>h) (show 1≤1 by decide) (by decide) fun H11 fH11 hH11=>?_
 refine V0 (Yb zr116 pl116 rfl rfl) ?_
 refine V0 (Yb zr116 pl116 rfl rfl) ?_
 refine Lb (.inl rfl) rfl el114 rfl rfl rfl rfl fun b14=>?_
 refine LN (rd:=rdXE) (f:=XE.cells) (m:=2) 0 [((TExpr.mk 3 0 [] [115,117,109] []),none,0),((TExpr.mk 3 0 [] [105] []),none,0)] rfl rfl (fun _ hk=>by cases hk) XE.cells_len (fun _ _ _ _ h=>h) (show 2≤2 by decide) (by decide) fun H14 fH14 hH14=>?_
 refine V0 (Yb zr116 pl116 rfl rfl) ?_
 refine Lb (.inl rfl) rfl el114 rfl rfl rfl rfl fun b16=>?_
 refine LN (rd:=rdXE) (f:=XE.cells) (m:=1) 0 [((TExpr.mk 9 0 [] [] [(TExpr.mk 3 0 [] [115,117,109] []),(TExpr.mk 3 0 [] [105] [])]),(some ⟨b14,0,none⟩),2)] rfl rfl (fun _ hk=>by cases hk) XE.cells_len (fun _ _ _ _ h=>h) (show 1≤1 by decide) (by decide) fun H16 fH16 hH16=>?_
 refine V0 (Yb zr118 pl118 rfl rfl) ?_
 refine V0 (Yb zr116 pl116 rfl rfl) ?_
 refine V0 (Yb zr116 pl116 rfl rfl) ?_
 refine Lb (.inl rfl) rfl el114 rfl rfl rfl rfl fun b20=>?_
 refine LN (rd:=rdXE) (f:=XE.cells) (m:=2) 0 [((TExpr.mk 3 0 [] [105] []),none,0),((TExpr.mk 1 1 [] [] []),none,0)] rfl rfl (fun _ hk=>by cases hk) XE.cells_len (fun _ _ _ _ h=>h) (show 2≤2 by decide) (by decide) fun H20 fH20 hH20=>?_
 refine V0 (Yb zr116 pl116 rfl rfl) ?_
 refine Lb (.inl rfl) rfl el114 rfl rfl rfl rfl fun b22=>?_
 refine LN (rd:=rdXE) (f:=XE.cells) (m:=1) 0 [((TExpr.mk 10 0 [] [] [(TExpr.mk 3 0 [] [105] []),(TExpr.mk 1 1 [] [] [])]),(some ⟨b20,0,none⟩),2)] rfl rfl (fun _ hk=>by cases hk) XE.cells_len (fun _ _ _ _ h=>h) (show 1≤1 by decide) (by decide) fun H22 fH22 hH22=>?_
 refine V0 (Yb zr118 pl118 rfl rfl) ?_
 refine Lb (.inl rfl) rfl el25 rfl rfl rfl rfl fun b24=>?_
 refine LN (rd:=rdSX) (f:=SX.cells) (m:=2) 0 [((TStmt.mk 1 [] [115,117,109] [(TExpr.mk 9 0 [] [] [(TExpr.mk 3 0 [] [115,117,109] []),(TExpr.mk 3 0 [] [105] [])])] [] []),(⟨((some ⟨b16,0,none⟩),1),(none,0),(none,0)⟩:SAt)),((TStmt.mk 1 [] [105] [(TExpr.mk 10 0 [] [] [(TExpr.mk 3 0 [] [105] []),(TExpr.mk 1 1 [] [] [])])] [] []),(⟨((some ⟨b22,0,none⟩),1),(none,0),(none,0)⟩:SAt))] rfl rfl (fun _ hk=>by cases hk) SX.cells_len (fun _ _ _ _ h=>h) (show 2≤2 by decide) (by decide) fun H24 fH24 hH24=>?_
 refine V0 (Yb zr118 pl118 rfl rfl) ?_
 refine V0 (Yb zr116 pl116 rfl rfl) ?_
 refine Lb (.inl rfl) rfl el114 rfl rfl rfl rfl fun b27=>?_
 refine LN (rd:=rdXE) (f:=XE.cells) (m:=1) 0 [((TExpr.mk 3 0 [] [115,117,109] []),none,0)] rfl rfl (fun _ hk=>by cases hk) XE.cells_len (fun _ _ _ _ h=>h) (show 1≤1 by decide) (by decide) fun H27 fH27 hH27=>?_
 refine V0 (Yb zr118 pl118 rfl rfl) ?_
 refine Lb (.inl rfl) rfl el25 rfl rfl rfl rfl fun b29=>?_
 refine LN (rd:=rdSX) (f:=SX.cells) (m:=3) 0 [((TStmt.mk 1 [] [105] [(TExpr.mk 3 0 [] [110] [])] [] []),(⟨((some ⟨b8,0,none⟩),1),(none,0),(none,0)⟩:SAt)),((TStmt.mk 5 [] [] [(TExpr.mk 3 0 [] [105] [])] [(TStmt.mk 1 [] [115,117,109] [(TExpr.mk 9 0 [] [] [(TExpr.mk 3 0 [] [115,117,109] []),(TExpr.mk 3 0 [] [105] [])])] [] []),(TStmt.mk 1 [] [105] [(TExpr.mk 10 0 [] [] [(TExpr.mk 3 0 [] [105] []),(TExpr.mk 1 1 [] [] [])])] [] [])] []),(⟨((some ⟨b11,0,none⟩),1),((some ⟨b24,0,none⟩),2),(none,0)⟩:SAt)),((TStmt.mk 6 [] [] [(TExpr.mk 3 0 [] [115,117,109] [])] [] []),(⟨((some ⟨b27,0,none⟩),1),(none,0),(none,0)⟩:SAt))] rfl rfl (fun _ hk=>by cases hk) SX.cells_len (fun _ _ _ _ h=>h) (show 3≤3 by decide) (by decide) fun H29 fH29 hH29=>?_
 refine V0 (Yb zr86 pl86 rfl rfl) ?_
 refine Lb (.inl rfl) rfl el24 rfl rfl rfl rfl fun b31=>?_
 refine LN (rd:=rdPX) (f:=PX.cells) (m:=1) 0 [((⟨[100,111,119,110],true,[[110]],[[105]],[(TStmt.mk 1 [] [105] [(TExpr.mk 3 0 [] [110] [])] [] []),(TStmt.mk 5 [] [] [(TExpr.mk 3 0 [] [105] [])] [(TStmt.mk 1 [] [115,117,109] [(TExpr.mk 9 0 [] [] [(TExpr.mk 3 0 [] [115,117,109] []),(TExpr.mk 3 0 [] [105] [])])] [] []),(TStmt.mk 1 [] [105] [(TExpr.mk 10 0 [] [] [(TExpr.mk 3 0 [] [105] []),(TExpr.mk 1 1 [] [] [])])] [] [])] []),(TStmt.mk 6 [] [] [(TExpr.mk 3 0 [] [115,117,109] [])] [] [])]⟩:TProc),(⟨((some ⟨b5,0,none⟩),1),((some ⟨b6,0,none⟩),1),((some ⟨b29,0,none⟩),3)⟩:PAt))] rfl rfl (fun _ hk=>by cases hk) PX.cells_len (fun _ _ _ _ h=>h) (show 1≤1 by decide) (by decide) fun H31 fH31 hH31=>?_
 refine V0 (Yb zr27 pl27 rfl rfl) ?_
 refine Lst 0 (.inl rfl) rfl rfl rfl sz27 rfl rfl rfl ?_
 refine Ln (Et (Crt ?_))
 refine WE.retc1 0 rfl rfl rfl ag27 rfl fun w' hw=>?_
 exact ⟨⟨none,0,(some ⟨b4,0,none⟩),3,(some ⟨b31,0,none⟩),1,none,0⟩,rfl,hw.fr,⟨Sl.nil,(slDecl_mv hH4 (nv_vs hw (by simp) fH4)),(slP_of hH31 (nv_vs hw (by simp) fH31) (VLe.refl _) ((PXs.nil _).snoc (VLe.refl _) (VLe.refl _) ⟨(slStr_mv hH5 (nv_vs hw (by simp) fH5)),(slStr_mv hH6 (nv_vs hw (by simp) fH6)),(slS_of hH29 (nv_vs hw (by simp) fH29) (VLe.refl _) ((((SXs.nil _ 5).snoc (VLe.refl _) (VLe.refl _) ⟨(slE_of hH8 (nv_vs hw (by simp) fH8) (VLe.refl _) ((XEs.nil _ 6).snoc (VLe.refl _) (VLe.refl _) Sl.nil)),Sl.nil,Sl.nil⟩).snoc (VLe.refl _) (VLe.refl _) ⟨(slE_of hH11 (nv_vs hw (by simp) fH11) (VLe.refl _) ((XEs.nil _ 6).snoc (VLe.refl _) (VLe.refl _) Sl.nil)),(slS_of hH24 (nv_vs hw (by simp) fH24) (VLe.refl _) (((SXs.nil _ 4).snoc (VLe.refl _) (VLe.refl _) ⟨(slE_of hH16 (nv_vs hw (by simp) fH16) (VLe.refl _) ((XEs.nil _ 6).snoc (VLe.refl _) (VLe.refl _) (slE_of hH14 (nv_vs hw (by simp) fH14) (VLe.refl _) (((XEs.nil _ 5).snoc (VLe.refl _) (VLe.refl _) Sl.nil).snoc (VLe.refl _) (VLe.refl _) Sl.nil)))),Sl.nil,Sl.nil⟩).snoc (VLe.refl _) (VLe.refl _) ⟨(slE_of hH22 (nv_vs hw (by simp) fH22) (VLe.refl _) ((XEs.nil _ 6).snoc (VLe.refl _) (VLe.refl _) (slE_of hH20 (nv_vs hw (by simp) fH20) (VLe.refl _) (((XEs.nil _ 5).snoc (VLe.refl _) (VLe.refl _) Sl.nil).snoc (VLe.refl _) (VLe.refl _) Sl.nil)))),Sl.nil,Sl.nil⟩)),Sl.nil⟩).snoc (VLe.refl _) (VLe.refl _) ⟨(slE_of hH27 (nv_vs hw (by simp) fH27) (VLe.refl _) ((XEs.nil _ 6).snoc (VLe.refl _) (VLe.refl _) Sl.nil)),Sl.nil,Sl.nil⟩))⟩)),Sl.nil⟩⟩
theorem topText_any (w:World) :
   Calls Tryz.prog 25 #[] w fun e w'=>e = .returned (st topS)∧Ext w w':=by
 refine enter Tryz.func25 rfl 1 rfl rfl ?_
 refine CWd (W':=Ws w [] [] []) (fun _ e=>by subst e; exact Ws.init (by simp)) ?_
 refine Cs (Cr ?_)
 refine V0 (Ya rfl) ?_
 refine Ln (Et (Cs (Cr ?_)))
 refine V0 (Ya rfl) ?_
 refine Ln (Et (Crt ?_))
 refine WE.ret1 rfl rfl fun w' hw=>?_
 exact ⟨rfl,hw.fr⟩
theorem scopeBegun_any (G:View) (w:World) (hG:Le G w) (hz:Laid G) :
   Calls Tryz.prog 8 #[] w fun e w'=>e = .returned (.bool true)∧Ext w w':=by
 refine enter Tryz.func8 rfl 115 rfl rfl ?_
 refine CWd (W':=Ws w [] [] [G]) (fun _ e=>by subst e; exact Ws.init (by simp [hG])) ?_
 refine Cs (Cr ?_)
 refine V0 (Ya rfl) ?_
 refine Ln (Et (Cs (Cr ?_)))
 refine Ld (.inl rfl) rfl en23 rfl (fun r:MAt=>.agg (modV cntM r).toArray) (fun H r=>RdM 7 6 H r cntM) (fun w hw=>counter_any w) ?_
 intro F12 r12 hf12 h12
 refine Ld (.inl rfl) rfl en6 rfl (fun r:SP=>.tuple #[.agg #[st cntN,.slice r.1 cntI.length r.2],.int .i64 0]) (fun H r=>Sl rdItem 4 H r.1 r.2 cntI) (fun w hw=>by
     have:=face_any F12 7 6 r12 cntM w (hw.vs _ (by simp)) h12 cnt_w
     rw [cnt_face] at this
     exact this) ?_
 intro F13 r13 hf13 h13
 refine V0 (Ym rfl) ?_
 refine V0 (Yx rfl rfl) ?_
 refine V0 (Yx rfl rfl) ?_
 refine WL.alloc (.inl rfl) rfl zr30 fun b1=>?_
 refine Lst 0 (.inl rfl) rfl rfl rfl sz30 rfl rfl rfl ?_
 refine V0 (Ya rfl) ?_
 refine Ln (Et (Cs (Cr ?_)))
 refine Ld (.inl rfl) rfl en23 rfl (fun r:MAt=>.agg (modV cntM r).toArray) (fun H r=>RdM 7 6 H r cntM) (fun w hw=>counter_any w) ?_
 intro F17 r17 hf17 h17
 refine Ld (.inl rfl) rfl en12 rfl (fun r:UAt=>.tuple #[.agg (unitV (resolveM cntM []).1 r).toArray,.int .i64 (resolveM cntM []).2]) (fun F r=>RdU (7+1) (6+1) F r (resolveM cntM []).1) (fun w hw=>by
     skip
     exact resolve_any F17 F17 7 6 r17 cntM none 0 [] w (hw.vs _ (by simp)) (hw.vs _ (by simp)) h17 Sl.nil cnt_w) ?_
 intro F18 r18 hf18 h18
 refine V0 (Ym rfl) ?_
 refine V0 (Yx rfl rfl) ?_
 refine V0 (Yx rfl rfl) ?_
 refine WL.alloc (.inl rfl) rfl zr42 fun b3=>?_
 refine Lst 0 (.inl rfl) rfl rfl rfl sz42 rfl rfl rfl ?_
 refine V0 (Ya rfl) ?_
 refine Ln (Et (Cs (Cr ?_)))
 refine Lp (.inl rfl) rfl en25 rfl (fun w hw=>topText_any w) ?_
 refine Ld (.inl rfl) rfl en24 rfl (fun r:MAt=>.tuple #[.agg (modV (topM) r).toArray,.int .i64 ((parseM topS).2)]) (fun H r=>RdM 7 6 H r (topM)) (fun w hw=>by
     have:=treeParse_any G (topS) w (hw.vs _ (by simp)) hz
     exact this) ?_
 intro F23 r23 hf23 h23
 refine V0 (Ym rfl) ?_
 refine V0 (Yx rfl rfl) ?_
 refine V0 (Yx rfl rfl) ?_
 refine WL.alloc (.inl rfl) rfl zr27 fun b5=>?_
 refine Lst 0 (.inl rfl) rfl rfl rfl sz27 rfl rfl rfl ?_
 refine V0 (Ya rfl) ?_
 refine Ln (Et ?_)
 refine WC.cutE (ι:=Nat×UAt×View) (fun q0=>[(1,.pointer (some ⟨b1,0,none⟩)),(2,.int .i64 0),(3,.pointer (some ⟨b3,0,none⟩)),(4,.int .i64 (resolveM cntM []).2),(5,.pointer (some ⟨b5,0,none⟩)),(6,.int .i64 (parseM topS).2),(7,.pointer (some ⟨q0.1,0,none⟩)),(8,.int .i64 (resolveM topM fsC).2)]) (fun q0=>Ws w [] [blk q0.1 (.cells (unitV (resolveM topM fsC).1 q0.2.1).toArray 42 (0,0)),blk b5 (.cells (modV topM r23).toArray 27 (0,0)),blk b3 (.cells (unitV (resolveM cntM []).1 r18).toArray 42 (0,0)),blk b1 (.cells #[st cntN,.slice r13.1 cntI.length r13.2] 30 (0,0))] [q0.2.2,F23,F18,F13,G]) (fun q0=>RdU 8 7 q0.2.2 q0.2.1 (resolveM topM fsC).1) ?_ ?_
 ·
  refine WC.drawt0 (.q 0 (.e 1 (.e 2 (.e 3 (.q 4 (.q 5 (.q 6 (.e 7 (.e 8 (.e 9 .nil .stop) .stop) .stop)))) (.e 7 (.e 3 (.q 4 (.q 5 (.q 6 (.e 8 (.e 9 .nil .stop) .stop)))) .stop) .stop)) (.e 7 (.e 2 (.e 3 (.q 4 (.q 5 (.q 6 (.e 8 (.e 9 .nil .stop) .stop)))) .stop) .stop) .stop)) (.e 7 (.e 1 (.e 2 (.e 3 (.q 4 (.q 5 (.q 6 (.e 8 (.e 9 .nil .stop) .stop)))) .stop) .stop) .stop) .stop))) mixed (by kernel_rfl) (fun _ _ _ d _ h=>by cases d<;>exact h) ?_
  refine WT.q rfl (.inl rfl) rfl (fun _ h=>h) (Yda 0 rfl rfl ag27 rfl) ?_
  refine WT.e rfl (fun _ h=>h) ?_ ?_
  ·
   refine Ld (.inl rfl) rfl en26 rfl (fun r:SP=>.agg #[st cntN,.slice r.1 cntI.length r.2]) (fun F r=>Sl rdItem 4 F r.1 r.2 cntI) (fun w hw=>counted_any w) ?_
   intro F28 r28 hf28 h28
   refine Ln (Ett ?_)
   refine WT.e rfl (fun _ h=>by have h:=Ws.drops h (fun _ hm=>List.mem_append_right [_] hm); exact h) ?_ ?_
   ·
    refine Lb (.inl rfl) rfl el38 rfl rfl rfl rfl fun b29=>?_
    refine Ln (Ett ?_)
    refine WT.e rfl (fun _ h=>by have h:=Ws.drop (L:=[_]) (L':=_) h; have h:=Ws.drops h (fun _ hm=>List.mem_append_right [_] hm); exact h) ?_ ?_
    ·
     refine Ld (.inl rfl) rfl en12 rfl (fun r:UAt=>.tuple #[.agg (unitV (resolveM topM fsC).1 r).toArray,.int .i64 (resolveM topM fsC).2]) (fun F r=>RdU (7+1) (6+1) F r (resolveM topM fsC).1) (fun w hw=>by
         have hfc:Sl rdFace 2 (hv w) (some ⟨b29,0,none⟩) 1 fsC:=⟨by decide,by decide,by simp,fun j x hj=>⟨b29,0,rfl,by
           match j,hj with
           | 0,hj=>simp only [fsC,List.getElem?_cons_zero,Option.some.injEq] at hj; subst hj; exact ⟨r28,fun k v hk=>by
               match k,hk with
               | 0,hk=>simp [faceV] at hk; subst hk; exact hw.hvb 0 rfl rfl
               | 1,hk=>simp [faceV] at hk; subst hk; exact hw.hvb 0 rfl rfl,slItem_mv (hv_of (hw.vs F28 (by simp))) h28⟩⟩⟩
         exact resolve_any F23 (hv w) 7 6 r23 topM (some ⟨b29,0,none⟩) 1 fsC w (hw.vs _ (by simp)) (hv_le w) h23 hfc (by have:=parseM_w topS; show wM (parseM topS).1≤_; omega)) ?_
     intro F30 r30 hf30 h30
     refine Ln (Ett ?_)
     refine WT.q rfl (.inl rfl) rfl (fun _ h=>by have h:=Ws.drop (L:=[_]) (L':=_) h; have h:=Ws.drops h (fun _ hm=>List.mem_append_right [_,_] hm); exact h) (Ym rfl) ?_
     refine WT.q rfl (.inl rfl) rfl (fun _ h=>by have h:=Ws.drop (L:=[_]) (L':=_) h; have h:=Ws.drops h (fun _ hm=>List.mem_append_right [_,_] hm); exact h) (Yx rfl rfl) ?_
     refine WT.q rfl (.inl rfl) rfl (fun _ h=>by have h:=Ws.drop (L:=[_]) (L':=_) h; have h:=Ws.drops h (fun _ hm=>List.mem_append_right [_,_] hm); exact h) (Yx rfl rfl) ?_
     refine WT.e rfl (fun _ h=>by have h:=Ws.drop (L:=[_]) (L':=_) h; have h:=Ws.drops h (fun _ hm=>List.mem_append_right [_,_] hm); exact h) ?_ WT.stop
     refine WL.alloc (.inl rfl) rfl zr42 fun b7=>?_
     refine Ln (Ett ?_)
     refine WT.e rfl (fun _ h=>by have h:=Ws.drop (L:=[_,_]) (L':=_) h; have h:=Ws.drops h (fun _ hm=>List.mem_append_right [_,_] hm); exact h) ?_ WT.stop
     refine Lst 0 (.inl rfl) rfl rfl rfl sz42 rfl rfl rfl ?_
     refine Ln (Ett ?_)
     refine WT.e rfl (fun _ h=>by have h:=Ws.drop (L:=[_,_]) (L':=_) h; have h:=Ws.drops h (fun _ hm=>List.mem_append_right [_,_] hm); exact h) ?_ WT.stop
     refine V0 (Ya rfl) ?_
     refine Ln (Ett ?_)
     refine WT.nil (fun _ h=>by have h:=Ws.drop (L:=[_,_]) (L':=_) h; have h:=Ws.drops h (fun _ hm=>List.mem_append_right [_,_] hm); exact h) ?_
     exact WE.meetE (b7,r30,F30) h30 (sc rfl (sc rfl (sc rfl (sc rfl (sc rfl (sc rfl (sc rfl (sc rfl sn)))))))) (fun _ h=>by
       have h:=h.fronti 4 rfl
       have h:=h.fronti 4 rfl
       have h:=h.fronti 4 rfl
       have h:=h.fronti 3 rfl
       have h:=Ws.keep (L:=[_,_,_,_]) h
       have h:=Ws.drops h (Vs':=[F30,F23,F18,F13,G]) (by simp)
       exact h)
    refine WT.e rfl (fun _ h=>by have h:=Ws.drop (L:=[_]) (L':=_) h; have h:=Ws.drops h (fun _ hm=>List.mem_append_right [_] hm); exact h) ?_ WT.stop
    refine WL.alloc (.inl rfl) rfl zr42 fun b7=>?_
    refine Ln (Ett ?_)
    refine WT.e rfl (fun _ h=>by have h:=Ws.drop (L:=[_,_]) (L':=_) h; have h:=Ws.drops h (fun _ hm=>List.mem_append_right [_] hm); exact h) ?_ WT.stop
    refine Ld (.inl rfl) rfl en12 rfl (fun r:UAt=>.tuple #[.agg (unitV (resolveM topM fsC).1 r).toArray,.int .i64 (resolveM topM fsC).2]) (fun F r=>RdU (7+1) (6+1) F r (resolveM topM fsC).1) (fun w hw=>by
        have hfc:Sl rdFace 2 (hv w) (some ⟨b29,0,none⟩) 1 fsC:=⟨by decide,by decide,by simp,fun j x hj=>⟨b29,0,rfl,by
          match j,hj with
          | 0,hj=>simp only [fsC,List.getElem?_cons_zero,Option.some.injEq] at hj; subst hj; exact ⟨r28,fun k v hk=>by
              match k,hk with
              | 0,hk=>simp [faceV] at hk; subst hk; exact hw.hvb 1 rfl rfl
              | 1,hk=>simp [faceV] at hk; subst hk; exact hw.hvb 1 rfl rfl,slItem_mv (hv_of (hw.vs F28 (by simp))) h28⟩⟩⟩
        exact resolve_any F23 (hv w) 7 6 r23 topM (some ⟨b29,0,none⟩) 1 fsC w (hw.vs _ (by simp)) (hv_le w) h23 hfc (by have:=parseM_w topS; show wM (parseM topS).1≤_; omega)) ?_
    intro F30 r30 hf30 h30
    refine Ln (Ett ?_)
    refine WT.q rfl (.inl rfl) rfl (fun _ h=>by have h:=Ws.drop (L:=[_,_]) (L':=_) h; have h:=Ws.drops h (fun _ hm=>List.mem_append_right [_,_] hm); exact h) (Ym rfl) ?_
    refine WT.q rfl (.inl rfl) rfl (fun _ h=>by have h:=Ws.drop (L:=[_,_]) (L':=_) h; have h:=Ws.drops h (fun _ hm=>List.mem_append_right [_,_] hm); exact h) (Yx rfl rfl) ?_
    refine WT.q rfl (.inl rfl) rfl (fun _ h=>by have h:=Ws.drop (L:=[_,_]) (L':=_) h; have h:=Ws.drops h (fun _ hm=>List.mem_append_right [_,_] hm); exact h) (Yx rfl rfl) ?_
    refine WT.e rfl (fun _ h=>by have h:=Ws.drop (L:=[_,_]) (L':=_) h; have h:=Ws.drops h (fun _ hm=>List.mem_append_right [_,_] hm); exact h) ?_ WT.stop
    refine Lst 0 (.inl rfl) rfl rfl rfl sz42 rfl rfl rfl ?_
    refine Ln (Ett ?_)
    refine WT.e rfl (fun _ h=>by have h:=Ws.drop (L:=[_,_]) (L':=_) h; have h:=Ws.drops h (fun _ hm=>List.mem_append_right [_,_] hm); exact h) ?_ WT.stop
    refine V0 (Ya rfl) ?_
    refine Ln (Ett ?_)
    refine WT.nil (fun _ h=>by have h:=Ws.drop (L:=[_,_]) (L':=_) h; have h:=Ws.drops h (fun _ hm=>List.mem_append_right [_,_] hm); exact h) ?_
    exact WE.meetE (b7,r30,F30) h30 (sc rfl (sc rfl (sc rfl (sc rfl (sc rfl (sc rfl (sc rfl (sc rfl sn)))))))) (fun _ h=>by
      have h:=h.fronti 4 rfl
      have h:=h.fronti 4 rfl
      have h:=h.fronti 4 rfl
      have h:=h.fronti 3 rfl
      have h:=Ws.keep (L:=[_,_,_,_]) h
      have h:=Ws.drops h (Vs':=[F30,F23,F18,F13,G]) (by simp)
      exact h)
   refine WT.e rfl (fun _ h=>by have h:=Ws.drops h (fun _ hm=>List.mem_append_right [_] hm); exact h) ?_ WT.stop
   refine WL.alloc (.inl rfl) rfl zr42 fun b7=>?_
   refine Ln (Ett ?_)
   refine WT.e rfl (fun _ h=>by have h:=Ws.drop (L:=[_]) (L':=_) h; have h:=Ws.drops h (fun _ hm=>List.mem_append_right [_] hm); exact h) ?_ WT.stop
   refine Lb (.inl rfl) rfl el38 rfl rfl rfl rfl fun b29=>?_
   refine Ln (Ett ?_)
   refine WT.e rfl (fun _ h=>by have h:=Ws.drop (L:=[_,_]) (L':=_) h; have h:=Ws.drops h (fun _ hm=>List.mem_append_right [_] hm); exact h) ?_ WT.stop
   refine Ld (.inl rfl) rfl en12 rfl (fun r:UAt=>.tuple #[.agg (unitV (resolveM topM fsC).1 r).toArray,.int .i64 (resolveM topM fsC).2]) (fun F r=>RdU (7+1) (6+1) F r (resolveM topM fsC).1) (fun w hw=>by
       have hfc:Sl rdFace 2 (hv w) (some ⟨b29,0,none⟩) 1 fsC:=⟨by decide,by decide,by simp,fun j x hj=>⟨b29,0,rfl,by
         match j,hj with
         | 0,hj=>simp only [fsC,List.getElem?_cons_zero,Option.some.injEq] at hj; subst hj; exact ⟨r28,fun k v hk=>by
             match k,hk with
             | 0,hk=>simp [faceV] at hk; subst hk; exact hw.hvb 0 rfl rfl
             | 1,hk=>simp [faceV] at hk; subst hk; exact hw.hvb 0 rfl rfl,slItem_mv (hv_of (hw.vs F28 (by simp))) h28⟩⟩⟩
       exact resolve_any F23 (hv w) 7 6 r23 topM (some ⟨b29,0,none⟩) 1 fsC w (hw.vs _ (by simp)) (hv_le w) h23 hfc (by have:=parseM_w topS; show wM (parseM topS).1≤_; omega)) ?_
   intro F30 r30 hf30 h30
   refine Ln (Ett ?_)
   refine WT.q rfl (.inl rfl) rfl (fun _ h=>by have h:=Ws.drop (L:=[_,_]) (L':=_) h; have h:=Ws.drops h (fun _ hm=>List.mem_append_right [_,_] hm); exact h) (Ym rfl) ?_
   refine WT.q rfl (.inl rfl) rfl (fun _ h=>by have h:=Ws.drop (L:=[_,_]) (L':=_) h; have h:=Ws.drops h (fun _ hm=>List.mem_append_right [_,_] hm); exact h) (Yx rfl rfl) ?_
   refine WT.q rfl (.inl rfl) rfl (fun _ h=>by have h:=Ws.drop (L:=[_,_]) (L':=_) h; have h:=Ws.drops h (fun _ hm=>List.mem_append_right [_,_] hm); exact h) (Yx rfl rfl) ?_
   refine WT.e rfl (fun _ h=>by have h:=Ws.drop (L:=[_,_]) (L':=_) h; have h:=Ws.drops h (fun _ hm=>List.mem_append_right [_,_] hm); exact h) ?_ WT.stop
   refine Lst 1 (.inl rfl) rfl rfl rfl sz42 rfl rfl rfl ?_
   refine Ln (Ett ?_)
   refine WT.e rfl (fun _ h=>by have h:=Ws.drop (L:=[_,_]) (L':=_) h; have h:=Ws.drops h (fun _ hm=>List.mem_append_right [_,_] hm); exact h) ?_ WT.stop
   refine V0 (Ya rfl) ?_
   refine Ln (Ett ?_)
   refine WT.nil (fun _ h=>by have h:=Ws.drop (L:=[_,_]) (L':=_) h; have h:=Ws.drops h (fun _ hm=>List.mem_append_right [_,_] hm); exact h) ?_
   exact WE.meetE (b7,r30,F30) h30 (sc rfl (sc rfl (sc rfl (sc rfl (sc rfl (sc rfl (sc rfl (sc rfl sn)))))))) (fun _ h=>by
     have h:=h.fronti 4 rfl
     have h:=h.fronti 4 rfl
     have h:=h.fronti 4 rfl
     have h:=h.fronti 4 rfl
     have h:=Ws.keep (L:=[_,_,_,_]) h
     have h:=Ws.drops h (Vs':=[F30,F23,F18,F13,G]) (by simp)
     exact h)
  refine WT.e rfl (fun _ h=>h) ?_ WT.stop
  refine WL.alloc (.inl rfl) rfl zr42 fun b7=>?_
  refine Ln (Ett ?_)
  refine WT.e rfl (fun _ h=>by have h:=Ws.drop (L:=[_]) (L':=_) h; exact h) ?_ WT.stop
  refine Ld (.inl rfl) rfl en26 rfl (fun r:SP=>.agg #[st cntN,.slice r.1 cntI.length r.2]) (fun F r=>Sl rdItem 4 F r.1 r.2 cntI) (fun w hw=>counted_any w) ?_
  intro F28 r28 hf28 h28
  refine Ln (Ett ?_)
  refine WT.e rfl (fun _ h=>by have h:=Ws.drop (L:=[_]) (L':=_) h; have h:=Ws.drops h (fun _ hm=>List.mem_append_right [_] hm); exact h) ?_ WT.stop
  refine Lb (.inl rfl) rfl el38 rfl rfl rfl rfl fun b29=>?_
  refine Ln (Ett ?_)
  refine WT.e rfl (fun _ h=>by have h:=Ws.drop (L:=[_,_]) (L':=_) h; have h:=Ws.drops h (fun _ hm=>List.mem_append_right [_] hm); exact h) ?_ WT.stop
  refine Ld (.inl rfl) rfl en12 rfl (fun r:UAt=>.tuple #[.agg (unitV (resolveM topM fsC).1 r).toArray,.int .i64 (resolveM topM fsC).2]) (fun F r=>RdU (7+1) (6+1) F r (resolveM topM fsC).1) (fun w hw=>by
      have hfc:Sl rdFace 2 (hv w) (some ⟨b29,0,none⟩) 1 fsC:=⟨by decide,by decide,by simp,fun j x hj=>⟨b29,0,rfl,by
        match j,hj with
        | 0,hj=>simp only [fsC,List.getElem?_cons_zero,Option.some.injEq] at hj; subst hj; exact ⟨r28,fun k v hk=>by
            match k,hk with
            | 0,hk=>simp [faceV] at hk; subst hk; exact hw.hvb 0 rfl rfl
            | 1,hk=>simp [faceV] at hk; subst hk; exact hw.hvb 0 rfl rfl,slItem_mv (hv_of (hw.vs F28 (by simp))) h28⟩⟩⟩
      exact resolve_any F23 (hv w) 7 6 r23 topM (some ⟨b29,0,none⟩) 1 fsC w (hw.vs _ (by simp)) (hv_le w) h23 hfc (by have:=parseM_w topS; show wM (parseM topS).1≤_; omega)) ?_
  intro F30 r30 hf30 h30
  refine Ln (Ett ?_)
  refine WT.q rfl (.inl rfl) rfl (fun _ h=>by have h:=Ws.drop (L:=[_,_]) (L':=_) h; have h:=Ws.drops h (fun _ hm=>List.mem_append_right [_,_] hm); exact h) (Ym rfl) ?_
  refine WT.q rfl (.inl rfl) rfl (fun _ h=>by have h:=Ws.drop (L:=[_,_]) (L':=_) h; have h:=Ws.drops h (fun _ hm=>List.mem_append_right [_,_] hm); exact h) (Yx rfl rfl) ?_
  refine WT.q rfl (.inl rfl) rfl (fun _ h=>by have h:=Ws.drop (L:=[_,_]) (L':=_) h; have h:=Ws.drops h (fun _ hm=>List.mem_append_right [_,_] hm); exact h) (Yx rfl rfl) ?_
  refine WT.e rfl (fun _ h=>by have h:=Ws.drop (L:=[_,_]) (L':=_) h; have h:=Ws.drops h (fun _ hm=>List.mem_append_right [_,_] hm); exact h) ?_ WT.stop
  refine Lst 1 (.inl rfl) rfl rfl rfl sz42 rfl rfl rfl ?_
  refine Ln (Ett ?_)
  refine WT.e rfl (fun _ h=>by have h:=Ws.drop (L:=[_,_]) (L':=_) h; have h:=Ws.drops h (fun _ hm=>List.mem_append_right [_,_] hm); exact h) ?_ WT.stop
  refine V0 (Ya rfl) ?_
  refine Ln (Ett ?_)
  refine WT.nil (fun _ h=>by have h:=Ws.drop (L:=[_,_]) (L':=_) h; have h:=Ws.drops h (fun _ hm=>List.mem_append_right [_,_] hm); exact h) ?_
  exact WE.meetE (b7,r30,F30) h30 (sc rfl (sc rfl (sc rfl (sc rfl (sc rfl (sc rfl (sc rfl (sc rfl sn)))))))) (fun _ h=>by
    have h:=h.fronti 4 rfl
    have h:=h.fronti 4 rfl
    have h:=h.fronti 4 rfl
    have h:=h.fronti 4 rfl
    have h:=Ws.keep (L:=[_,_,_,_]) h
    have h:=Ws.drops h (Vs':=[F30,F23,F18,F13,G]) (by simp)
    exact h)
 intro ⟨b7,r30,F30⟩ h30
 refine Cs (Cr ?_)
 refine V0 (Yda 1 rfl rfl ag27 rfl) ?_
 refine Ld (.inl rfl) rfl en12 rfl (fun r:UAt=>.tuple #[.agg (unitV (resolveM topM []).1 r).toArray,.int .i64 (resolveM topM []).2]) (fun F r=>RdU (7+1) (6+1) F r (resolveM topM []).1) (fun w hw=>by
     skip
     exact resolve_any F23 F23 7 6 r23 topM none 0 [] w (hw.vs _ (by simp)) (hw.vs _ (by simp)) h23 Sl.nil (by have:=parseM_w topS; show wM (parseM topS).1≤_; omega)) ?_
 intro F35 r35 hf35 h35
 refine V0 (Ym rfl) ?_
 refine V0 (Yx rfl rfl) ?_
 refine V0 (Yx rfl rfl) ?_
 refine WL.alloc (.inl rfl) rfl zr42 fun b9=>?_
 refine Lst 0 (.inl rfl) rfl rfl rfl sz42 rfl rfl rfl ?_
 refine V0 (Ya rfl) ?_
 refine Ln (Et (Cs ?_))
 obtain ⟨tp,htp0,htp⟩:=cnt_part
 obtain ⟨pb,po,hap,rp,hrp,hsp⟩:=h18.parts.elt 0 tp htp0
 obtain ⟨ta,hta0,hta1,hta2,hta3⟩:=top_act
 obtain ⟨qb,qo,haa,ra,hra,hsa,hsb,hsc⟩:=h30.main.elt 0 ta hta0
 have hpl:=cnt_parts
 have hml:=top_len
 have hpc:=h18.parts.cap
 have hpm:=h18.parts.max
 have hmc:=h30.main.cap
 have hmm:=h30.main.max
 refine WC.draws0 [(0,true),(1,true),(2,true),(3,true),(4,true),(5,true),(6,true),(7,true),(8,true),(9,true),(10,true),(11,true),(12,true),(13,true),(14,true),(15,true),(16,true),(17,true),(18,true),(19,true),(20,false),(21,false),(22,true),(23,true),(24,true),(25,false),(26,true),(27,true),(28,true),(29,true),(30,true),(31,true),(32,true),(33,true),(34,true),(35,true),(36,true),(37,true),(38,true),(39,true),(40,true),(41,true),(42,true),(43,true),(44,true),(45,true),(46,true),(47,true),(48,true),(49,true),(50,true),(51,true),(52,true),(53,true),(54,true),(55,true),(56,true),(57,true),(58,true),(59,true),(60,true),(61,true),(62,true),(63,true),(64,true),(65,true),(66,true),(67,true),(68,true),(69,true),(70,true),(71,true),(72,true),(73,true),(74,true),(75,true),(76,true),(77,true)] mixed (by kernel_rfl) (fun _ _ _ d _ h=>by cases d<;>exact h) ?_
 refine Dq rfl (.inl rfl) rfl (fun _ h=>h) (Ym rfl) ?_
 refine Dq rfl (.inl rfl) rfl (fun _ h=>h) (yl_eqiY rfl rfl rfl) ?_
 refine Dq rfl (.inl rfl) rfl (fun _ h=>h) (Ym rfl) ?_
 apply WD.and 2 (x:=true) rfl rfl rfl rfl rfl (.inl rfl) rfl (fun _ h=>h) rfl rfl rfl rfl
 ·
  intro hg0
  refine Dq rfl (.g rfl rfl rfl) rfl (fun _ h=>h) (Ym rfl) ?_
  refine Dq rfl (.g rfl rfl rfl) rfl (fun _ h=>h) (yl_eqiY rfl rfl cnt_res) ?_
  exact Gi 2 (fun _ h=>h) rfl rfl rfl
 refine Dq rfl (.inl rfl) rfl (fun _ h=>h) (Ym rfl) ?_
 apply WD.and 2 (x:=true) rfl rfl rfl rfl rfl (.inl rfl) rfl (fun _ h=>h) rfl rfl rfl rfl
 ·
  intro hg1
  refine Dq rfl (.g rfl rfl rfl) rfl (fun _ h=>h) (Ym rfl) ?_
  refine Dq rfl (.g rfl rfl rfl) rfl (fun _ h=>h) (yl_eqiY rfl rfl top_parse) ?_
  exact Gi 2 (fun _ h=>h) rfl rfl rfl
 refine Dq rfl (.inl rfl) rfl (fun _ h=>h) (Ym rfl) ?_
 apply WD.and 2 (x:=true) rfl rfl rfl rfl rfl (.inl rfl) rfl (fun _ h=>h) rfl rfl rfl rfl
 ·
  intro hg2
  refine Dq rfl (.g rfl rfl rfl) rfl (fun _ h=>h) (Ym rfl) ?_
  refine Dq rfl (.g rfl rfl rfl) rfl (fun _ h=>h) (yl_eqiY rfl rfl top_res) ?_
  exact Gi 2 (fun _ h=>h) rfl rfl rfl
 refine Dq rfl (.inl rfl) rfl (fun _ h=>h) (Ym rfl) ?_
 apply WD.and 2 (x:=true) rfl rfl rfl rfl rfl (.inl rfl) rfl (fun _ h=>h) rfl rfl rfl rfl
 ·
  intro hg3
  refine Dq rfl (.g rfl rfl rfl) rfl (fun _ h=>h) (Ym rfl) ?_
  refine Dq rfl (.g rfl rfl rfl) rfl (fun _ h=>h) (yl_eqiY rfl rfl top_res8) ?_
  exact Gi 2 (fun _ h=>h) rfl rfl rfl
 refine Dq rfl (.inl rfl) rfl (fun _ h=>h) (Ym rfl) ?_
 apply WD.and 3 (x:=true) rfl rfl rfl rfl rfl (.inl rfl) rfl (fun _ h=>h) rfl rfl rfl rfl
 ·
  intro hg4
  refine Dq rfl (.g rfl rfl rfl) rfl (fun _ h=>h) (Yda 4 rfl rfl ag30 rfl) ?_
  refine De rfl (fun _ h=>h) ?_
  refine Ld (.g rfl rfl rfl) rfl en26 rfl (fun r:SP=>.agg #[st cntN,.slice r.1 cntI.length r.2]) (fun F r=>Sl rdItem 4 F r.1 r.2 cntI) (fun w hw=>counted_any w) ?_
  intro F58 r58 hf58 h58
  refine Ln (Ed ?_)
  refine De rfl (fun _ h=>by have h:=Ws.drops h (fun _ hm=>List.mem_append_right [_] hm); exact h) ?_
  refine Lp (.g rfl rfl rfl) rfl en9 rfl (fun w hw=>sameFaces_eq F13 F58 r13.1 r58.1 r13.2 r58.2 cntN cntI w (hw.vs _ (by simp)) (hw.vs _ (by simp)) h13 h58) ?_
  refine Ln (Ed ?_)
  refine WD.wk (W':=Ws _ _ [_,_,_,_,_] [_,_,_,_,_,_]) (fun _ h=>Ws.drops (h) (fun _ hm=>List.mem_append_right [_] hm)) ?_
  exact Gi 3 (fun _ h=>h) rfl rfl rfl
 refine Dq rfl (.inl rfl) rfl (fun _ h=>h) (Ym rfl) ?_
 apply WD.and 3 (x:=true) rfl rfl rfl rfl rfl (.inl rfl) rfl (fun _ h=>h) rfl rfl rfl rfl
 ·
  intro hg5
  refine Dq rfl (.g rfl rfl rfl) rfl (fun _ h=>h) (Yda 4 rfl rfl ag30 rfl) ?_
  refine De rfl (fun _ h=>h) ?_
  refine Lp (.g rfl rfl rfl) rfl en10 rfl (fun w hw=>scopeCheck_any F13 r13.1 r13.2 cntN cntI w (hw.vs _ (by simp)) h13) ?_
  refine Ln (Ed ?_)
  refine Dq rfl (.g rfl rfl rfl) rfl (fun _ h=>h) (yl_eqiY rfl rfl cnt_fe) ?_
  exact Gi 3 (fun _ h=>h) rfl rfl rfl
 refine Dq rfl (.inl rfl) rfl (fun _ h=>h) (Ym rfl) ?_
 apply WD.and 3 (x:=true) rfl rfl rfl rfl rfl (.inl rfl) rfl (fun _ h=>h) rfl rfl rfl rfl
 ·
  intro hg6
  refine Dq rfl (.g rfl rfl rfl) rfl (fun _ h=>h) (Yf fo42_2 rfl) ?_
  refine Dq rfl (.g rfl rfl rfl) rfl (fun _ h=>h) (Yd 3 rfl rfl rfl na3) ?_
  refine Dq rfl (.g rfl rfl rfl) rfl (fun _ h=>h) (yl_eqiY rfl rfl cnt_data) ?_
  exact Gi 3 (fun _ h=>h) rfl rfl rfl
 refine Dq rfl (.inl rfl) rfl (fun _ h=>h) (Ym rfl) ?_
 apply WD.and 4 (x:=true) rfl rfl rfl rfl rfl (.inl rfl) rfl (fun _ h=>h) rfl rfl rfl rfl
 ·
  intro hg7
  refine Dq rfl (.g rfl rfl rfl) rfl (fun _ h=>h) (Yf fo42_3 rfl) ?_
  refine Dq rfl (.g rfl rfl rfl) rfl (fun _ h=>h) (Yd 3 rfl rfl rfl na39) ?_
  refine Dq rfl (.g rfl rfl rfl) rfl (fun _ h=>h) (Yn es39 rfl) ?_
  refine Dq rfl (.g rfl rfl rfl) rfl (fun _ h=>h) (yl_eqiY rfl rfl (by rw [cnt_parts]; rfl)) ?_
  exact Gi 4 (fun _ h=>h) rfl rfl rfl
 refine Dq rfl (.inl rfl) rfl (fun _ h=>h) (Ym rfl) ?_
 apply WD.and 6 (x:=true) rfl rfl rfl rfl rfl (.inl rfl) rfl (fun _ h=>h) rfl rfl rfl rfl
 ·
  intro hg8
  refine Dq rfl (.g rfl rfl rfl) rfl (fun _ h=>h) (Yf fo42_3 rfl) ?_
  refine Dq rfl (.g rfl rfl rfl) rfl (fun _ h=>h) (Yd 3 rfl rfl rfl na39) ?_
  refine Dq rfl (.g rfl rfl rfl) rfl (fun _ h=>h) (Yo (i:=0) es39 rfl rfl hap (by rw [hpl]; decide)) ?_
  refine Dq rfl (.g rfl rfl rfl) rfl (fun _ h=>h) (Yf fo65_1 rfl) ?_
  refine Dq rfl (.g rfl rfl rfl) rfl (fun _ h=>h) (yl_ld 3 na3 rfl rfl (hrp 1 _ rfl)) ?_
  refine Dq rfl (.g rfl rfl rfl) rfl (fun _ h=>h) (yl_eqiY rfl rfl htp) ?_
  exact Gi 6 (fun _ h=>h) rfl rfl rfl
 refine Dq rfl (.inl rfl) rfl (fun _ h=>h) (Ym rfl) ?_
 apply WD.and 4 (x:=true) rfl rfl rfl rfl rfl (.inl rfl) rfl (fun _ h=>h) rfl rfl rfl rfl
 ·
  intro hg9
  refine Dq rfl (.g rfl rfl rfl) rfl (fun _ h=>h) (Yf fo42_4 rfl) ?_
  refine Dq rfl (.g rfl rfl rfl) rfl (fun _ h=>h) (Yd 1 rfl rfl rfl na40) ?_
  refine Dq rfl (.g rfl rfl rfl) rfl (fun _ h=>h) (Yn es40 rfl) ?_
  refine Dq rfl (.g rfl rfl rfl) rfl (fun _ h=>h) (yl_eqiY rfl rfl (by rw [top_len]; rfl)) ?_
  exact Gi 4 (fun _ h=>h) rfl rfl rfl
 refine Dq rfl (.inl rfl) rfl (fun _ h=>h) (Ym rfl) ?_
 apply WD.and 6 (x:=true) rfl rfl rfl rfl rfl (.inl rfl) rfl (fun _ h=>h) rfl rfl rfl rfl
 ·
  intro hg10
  refine Dq rfl (.g rfl rfl rfl) rfl (fun _ h=>h) (Yf fo42_4 rfl) ?_
  refine Dq rfl (.g rfl rfl rfl) rfl (fun _ h=>h) (Yd 1 rfl rfl rfl na40) ?_
  refine Dq rfl (.g rfl rfl rfl) rfl (fun _ h=>h) (Yo (i:=0) es40 rfl rfl haa (by rw [hml]; decide)) ?_
  refine Dq rfl (.g rfl rfl rfl) rfl (fun _ h=>h) (Yf fo68_2 rfl) ?_
  refine Dq rfl (.g rfl rfl rfl) rfl (fun _ h=>h) (yl_ld 1 na3 rfl rfl (hra 2 _ rfl)) ?_
  refine Dq rfl (.g rfl rfl rfl) rfl (fun _ h=>h) (yl_eqiY rfl rfl hta1) ?_
  exact Gi 6 (fun _ h=>h) rfl rfl rfl
 refine Dq rfl (.inl rfl) rfl (fun _ h=>h) (Ym rfl) ?_
 apply WD.and 6 (x:=true) rfl rfl rfl rfl rfl (.inl rfl) rfl (fun _ h=>h) rfl rfl rfl rfl
 ·
  intro hg11
  refine Dq rfl (.g rfl rfl rfl) rfl (fun _ h=>h) (Yf fo42_4 rfl) ?_
  refine Dq rfl (.g rfl rfl rfl) rfl (fun _ h=>h) (Yd 1 rfl rfl rfl na40) ?_
  refine Dq rfl (.g rfl rfl rfl) rfl (fun _ h=>h) (Yo (i:=0) es40 rfl rfl haa (by rw [hml]; decide)) ?_
  refine Dq rfl (.g rfl rfl rfl) rfl (fun _ h=>h) (Yf fo68_3 rfl) ?_
  refine Dq rfl (.g rfl rfl rfl) rfl (fun _ h=>h) (yl_ld 1 na3 rfl rfl (hra 3 _ rfl)) ?_
  refine Dq rfl (.g rfl rfl rfl) rfl (fun _ h=>h) (yl_eqiY rfl rfl hta2) ?_
  exact Gi 6 (fun _ h=>h) rfl rfl rfl
 refine Dq rfl (.inl rfl) rfl (fun _ h=>h) (Ym rfl) ?_
 apply WD.and 6 (x:=true) rfl rfl rfl rfl rfl (.inl rfl) rfl (fun _ h=>h) rfl rfl rfl rfl
 ·
  intro hg12
  refine Dq rfl (.g rfl rfl rfl) rfl (fun _ h=>h) (Yf fo42_4 rfl) ?_
  refine Dq rfl (.g rfl rfl rfl) rfl (fun _ h=>h) (Yd 1 rfl rfl rfl na40) ?_
  refine Dq rfl (.g rfl rfl rfl) rfl (fun _ h=>h) (Yo (i:=0) es40 rfl rfl haa (by rw [hml]; decide)) ?_
  refine Dq rfl (.g rfl rfl rfl) rfl (fun _ h=>h) (Yf fo68_1 rfl) ?_
  refine Dq rfl (.g rfl rfl rfl) rfl (fun _ h=>h) (yl_ld 1 na3 rfl rfl (hra 1 _ rfl)) ?_
  refine Dq rfl (.g rfl rfl rfl) rfl (fun _ h=>h) (yl_eqiY rfl rfl hta3) ?_
  exact Gi 6 (fun _ h=>h) rfl rfl rfl
 refine Dq rfl (.inl rfl) rfl (fun _ h=>h) (Ya rfl) ?_
 refine WD.nil (fun _ h=>h) ?_
 refine Et (Crt ?_)
 refine WE.ret1 rfl rfl fun w' hw=>?_
 exact ⟨rfl,hw.fr⟩
end Go.Proofs.YtinnlppbkhhoiaaGreatDoor
end
