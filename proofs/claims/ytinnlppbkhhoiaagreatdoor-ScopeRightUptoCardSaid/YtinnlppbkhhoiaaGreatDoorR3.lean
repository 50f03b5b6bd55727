/- A face is right, what is resolved without uses is a right program, and what is resolved has a face, where what is handed in has a bulk of at most 1048576 (the second form). -/
import Derived.Test.YtinnlppbkhhoiaaGreatDoorR2
set_option linter.unusedVariables false
set_option linter.unusedSimpArgs false
section
namespace Go.Proofs.YtinnlppbkhhoiaaGreatDoor
open Go.Bw
set_option linter.unusedVariables false
set_option linter.unusedSimpArgs false
abbrev XE:=TExpr×Option Addr×Nat
def XE.cells (e:XE):List Value:=exprV e.1 e.2.1 e.2.2
theorem XE.cells_len (e:XE):(XE.cells e).length=5:=rfl
theorem XE.one (e:XE):(XE.cells e).all (·.oneCell')=true:=rfl
def rdXE (H:View) (b o:Nat) (e:XE):Prop:=RdC H b o (XE.cells e)
def XEs (J:View) (f:Nat) (es:List XE):Prop:=∀e ∈ es,Sl (RdE f) 5 J e.2.1 e.2.2 e.1.args
theorem XEs.nil (J:View) (f:Nat):XEs J f []:=by intro e h; simp at h
theorem XEs.snoc {J J1 J2:View} {f:Nat} {es:List XE} {e:XE} (h:XEs J f es) (h1:VLe J J2) (h2:VLe J1 J2) (he:Sl (RdE f) 5 J1 e.2.1 e.2.2 e.1.args):XEs J2 f (es++[e]):=by
 intro x hx
 rcases List.mem_append.1 hx with hx | hx
 · exact (h x hx).imp fun b o y hy=>RdE_mono h1 (Nat.le_refl _) b o y hy
 · rw [List.mem_singleton] at hx
   subst hx
   exact he.imp fun b o y hy=>RdE_mono h2 (Nat.le_refl _) b o y hy
theorem slE_of {H J N:View} {f c:Nat} {a:Option Addr} {es:List XE} (h:Sl rdXE 5 H a c es) (hv:VLe H N) (hJ:VLe J N) (hes:XEs J f es):Sl (RdE (f+1)) 5 N a c (es.map (·.1)):=by
 refine ⟨by simpa using h.cap,h.max,h.spot,fun i x hx=>?_⟩
 rw [List.getElem?_map] at hx
 obtain ⟨e,he,rfl⟩:=Option.map_eq_some_iff.1 hx
 obtain ⟨b,o,h1,h2⟩:=h.elt i e he
 exact ⟨b,o,h1,e.2.1,e.2.2,RdC.mono hv h2,(hes e (List.mem_of_getElem? he)).imp fun b o y hy=>RdE_mono hJ (Nat.le_refl _) b o y hy⟩
theorem slE_mv {H N:View} {f c:Nat} {a:Option Addr} {l:List TExpr} (h:Sl (RdE f) 5 H a c l) (hv:VLe H N):Sl (RdE f) 5 N a c l:=h.imp fun b o y hy=>RdE_mono hv (Nat.le_refl _) b o y hy
structure GA where
 es:List XE
 a:Option Addr
 c:Nat
 J:View
 r:Option Addr×Nat
 q:Tk
def GlassE (HT:View) (f:Nat):Prop:=∀(gb:Nat) (r:Option Addr×Nat) (l:Tk) (d:Nat) (w:World),f+d=7→TOk l→Sl rdTok 3 HT r.1 r.2 l→Ws w (List.flatMap Asr.ids (glassL gb r l)) (glassL gb r l) [HT] w→
 Calls Tryz.prog 107 #[.pointer (some ⟨gb,0,none⟩),.int .i64 (d:Int)] w fun e w'=>(∃(x:TExpr) (s:Option Addr×Nat) (r2:Option Addr×Nat) (q:Tk),e = .returned (.agg #[.int .i64 (x).op,.int .i64 (x).n,st (x).mod,st (x).nm,.slice s.1 (x).args.length s.2])∧exprP f l=some (x,q)∧Sl (RdE f) 5 (nv w w') s.1 s.2 x.args∧Sl rdTok 3 HT r2.1 r2.2 q∧Ws w (List.flatMap Asr.ids (glassL gb r l)) (glassL gb r2 q) [HT] w')∨(∃(r2:Option Addr×Nat) (q:Tk),e = .panicked brk∧exprP f l=none∧Ws w (List.flatMap Asr.ids (glassL gb r l)) (glassL gb r2 q) [HT] w')
theorem argsL_some {pe:Tk→Option (TExpr×Tk)} {n:Nat} {l q q2:Tk} {x:TExpr} (h1:pe l=some (x,q)) (h2:hasT [41] q=some q2):argsL pe (n+1) l=some ([x],q2):=by rw [argsL,h1]; simp only [Option.bind_some]; rw [h2]
theorem argsL_more {pe:Tk→Option (TExpr×Tk)} {n:Nat} {l q q2:Tk} {x:TExpr} (h1:pe l=some (x,q)) (h2:hasT [41] q=none) (h3:hasT [44] q=some q2):argsL pe (n+1) l=(argsL pe n q2).map fun p=>(x::p.1,p.2):=by rw [argsL,h1]; simp only [Option.bind_some]; rw [h2]; simp only; rw [h3]
theorem argsL_bad {pe:Tk→Option (TExpr×Tk)} {n:Nat} {l q:Tk} {x:TExpr} (h1:pe l=some (x,q)) (h2:hasT [41] q=none) (h3:hasT [44] q=none):argsL pe (n+1) l=none:=by rw [argsL,h1]; simp only [Option.bind_some]; rw [h2]; simp only; rw [h3]
theorem argsL_no {pe:Tk→Option (TExpr×Tk)} {n:Nat} {l:Tk} (h1:pe l=none):argsL pe (n+1) l=none:=by rw [argsL,h1]; rfl
theorem opP_hit:∀(ws:List Tx) (i k:Nat) (w:Tx) (l q:Tk),ws[i]? = some w→(∀j v,j<i→ws[j]? = some v→hasT v l=none)→hasT w l=some q→opP ws k l=some (k+i,q)
 | [],i,k,w,l,q,h,_,_=>by simp at h
 | v::ws,0,k,w,l,q,h,_,hq=>by
   simp at h; subst h
   rw [opP,hq]; rfl
 | v::ws,i+1,k,w,l,q,h,hn,hq=>by
   rw [opP,hn 0 v (by omega) rfl]
   simp only
   rw [opP_hit ws i (k+1) w l q (by simpa using h) (fun j u hj hu=>hn (j+1) u (by omega) (by simpa using hu)) hq]
   congr 2
   omega
theorem opP_miss:∀(ws:List Tx) (k:Nat) (l:Tk),(∀w ∈ ws,hasT w l=none)→opP ws k l=none
 | [],_,_,_=>rfl
 | w::ws,k,l,h=>by
   rw [opP,h w (by simp)]
   exact opP_miss ws (k+1) l fun v hv=>h v (List.mem_cons_of_mem _ hv)
theorem opsA_get {i:Nat} {w:Tx} (h:opsL[i]? = some w):((opsL.map st).toArray)[i]? = some (st w):=by
 rw [List.getElem?_toArray,List.getElem?_map,h]; rfl
theorem en107:Enters Tryz.prog 107:=enters_of Tryz.func107 (by kernel_rfl) rfl
theorem el114:EltOk Tryz.prog 114 116 (.agg #[.int .i64 0,.int .i64 0,st [],st [],.slice none 0 0]) 5 72:=eltOk_of (by kernel_rfl)
theorem en68:Enters Tryz.prog 68:=enters_of Tryz.func68 (by kernel_rfl) rfl
theorem gargs_any (gb:Nat) (HT:View) (r:Option Addr×Nat) (l:Tk) (f d:Nat) (w:World) (hE:GlassE HT f) (hfd:f+d=7) (hok:TOk l) (hm:Sl rdTok 3 HT r.1 r.2 l) (hw:Ws w (List.flatMap Asr.ids (glassL gb r l)) (glassL gb r l) [HT] w) :
   Calls Tryz.prog 109 #[.pointer (some ⟨gb,0,none⟩),.int .i64 (d:Int)] w fun e w'=>(∃(xs:List TExpr) (s:Option Addr×Nat) (r2:Option Addr×Nat) (q:Tk),e = .returned (.slice s.1 xs.length s.2)∧argsP (exprP f) l=some (xs,q)∧Sl (RdE (f+1)) 5 (nv w w') s.1 s.2 xs∧Sl rdTok 3 HT r2.1 r2.2 q∧Ws w (List.flatMap Asr.ids (glassL gb r l)) (glassL gb r2 q) [HT] w')∨(∃(r2:Option Addr×Nat) (q:Tk),e = .panicked brk∧argsP (exprP f) l=none∧Ws w (List.flatMap Asr.ids (glassL gb r l)) (glassL gb r2 q) [HT] w'):=by
 refine enter Tryz.func109 rfl 21 rfl rfl ?_
 refine CWd (W':=Ws w (List.flatMap Asr.ids (glassL gb r l)) (glassL gb r l) [HT]) (fun _ e=>by subst e; exact hw) ?_
 refine Cs (Cr ?_)
 refine V0 (Ya rfl) ?_
 refine Ln (Et (Cs (Cr ?_)))
 refine V0 (Ya rfl) ?_
 refine LW (fun _ h=>h.osl_nil 116 5) ?_
 refine WL.v0 ?_
 refine Ln (Et (Cs (Cs (Cr ?_))))
 refine V0 (Ym rfl) ?_
 refine Lf 1 rfl ?_
 refine Lw (ι:=Bool×(Option Addr×Nat)×Tk) [_] _ (.inl rfl) rfl en70 rfl rfl (fun i=>.bool i.1) (fun i=>glassL gb i.2.1 i.2.2) (fun i=>(i.1=true→hasT [41] l=some i.2.2)∧(i.1=false→hasT [41] l=none∧l=i.2.2)∧Sl rdTok 3 HT i.2.1.1 i.2.1.2 i.2.2) [HT] (by simp) (fun w hw=>has_any gb HT r l [41] w hm hw) ?_
 intro ⟨b7,r7,q7⟩ ⟨h7t,h7f,hm7⟩
 refine Ln (Et ?_)
 refine Cc rfl (fun hc0=>?_) (fun hc0=>?_)
 ·
  have hq7:=h7t hc0
  have ok7:=tHas hok hq7
  refine Cs (Cr ?_)
  refine V0 (Ym rfl) ?_
  refine V0 (Ya rfl) ?_
  refine Ln (Et (Crt (Er ?_)))
  refine WE.ret1 rfl rfl fun w' hw=>?_
  exact .inl ⟨[],(none,0),r7,q7,rfl,by rw [argsP,hq7],Sl.nil,hm7,Ws.drops (Ws.keep (L:=[_]) hw) (fun _ hm=>List.mem_append_right [_] hm)⟩
 ·
  obtain ⟨hn7,hl7⟩:=h7f hc0
  subst hl7
  refine Ck (Et (Cb ?_))
  refine CK (ι:=GA) (fun g=>[(5,.slice g.a g.es.length g.c)]) [(0,_),(1,_)] (fun g=>Ws w (List.flatMap Asr.ids (glassL gb r l)) (glassL gb g.r g.q++[osT 116 5 XE.cells g.a g.c g.es]) [g.J,HT]) (fun g=>(g.es.length+g.q.length≤l.length∧TOk g.q)∧Sl rdTok 3 HT g.r.1 g.r.2 g.q∧(Fresh w g.J∧XEs g.J f g.es)∧∃n,g.q.length<n∧argsP (exprP f) l=(argsL (exprP f) n g.q).map fun p=>(g.es.map (·.1)++p.1,p.2)) (fun g=>g.q.length) ⟨[],none,0,v0,r7,l⟩ ⟨⟨by simp,hok⟩,hm7,⟨v0_fresh w,XEs.nil _ _⟩,l.length+1,by simp,by rw [argsP,hn7]; simp⟩ (sc rfl (sc rfl (sc rfl sn))) (fun _ h=>by have h:=h.fronti 1 rfl; have h:=h.fronti 1 rfl; have h:=Ws.drops h (Vs':=[v0,HT]) (by simp); exact h) ?_
  intro g ⟨⟨hlen,hokg⟩,hmg,⟨hfJ,hXE⟩,hA⟩
  refine Cb (Cs (Cr ?_))
  refine V0 (Ym rfl) ?_
  refine V0 (Ym rfl) ?_
  refine V0 (Ym rfl) ?_
  refine Lf 0 rfl ?_
  refine Lwy (ι:=(TExpr×(Option Addr×Nat))×(Option Addr×Nat)×Tk) (κ:=(Option Addr×Nat)×Tk) [_] _ (.inl rfl) rfl en107 rfl rfl (fun i=>.agg #[.int .i64 (i.1.1).op,.int .i64 (i.1.1).n,st (i.1.1).mod,st (i.1.1).nm,.slice i.1.2.1 (i.1.1).args.length i.1.2.2]) (fun i=>glassL gb i.2.1 i.2.2) (fun F i=>exprP f g.q=some (i.1.1,i.2.2)∧Sl (RdE f) 5 F i.1.2.1 i.1.2.2 i.1.1.args∧Sl rdTok 3 HT i.2.1.1 i.2.1.2 i.2.2) (fun _=>brk) (fun i=>glassL gb i.1 i.2) (fun _=>exprP f g.q=none) ([HT]) (by simp) (fun _ _ h=>h) (fun w hw=>(hE gb g.r g.q d w hfd hokg hmg hw).mono fun e w' h=>by
      rcases h with ⟨x,s,r2,q,h1,h2,h3,h4,h5⟩ | ⟨r2,q,h1,h2,h3⟩
      · exact .inl ⟨((x,s),r2,q),h1,⟨h2,h3,h4⟩,h5⟩
      · exact .inr ⟨(r2,q),h1,h2,h3⟩) ?_ ?_
  ·
   intro ⟨rp,qp⟩ hp
   refine Ep ?_
   refine WE.block_panic ?_
   refine Ep ?_
   refine WE.block_panic ?_
   refine Epp fun w' hw=>?_
   obtain ⟨n,hn,hA⟩:=hA
   obtain ⟨n,rfl⟩:∃k,n=k+1:=⟨n-1,by omega⟩
   exact .inr ⟨rp,qp,rfl,by rw [hA,argsL_no hp]; rfl,(by have h:=hw; have h:=Ws.keep (L:=[_]) h; have h:=Ws.drops h (Vs':=[HT]) (by simp); exact h)⟩
  intro F12 ⟨⟨x12,s12⟩,r12,q12⟩ hf12 ⟨hq12,hx12,hm12⟩
  have ok12:TOk q12:=tExpr hokg hq12
  have le12:q12.length+1≤List.length (g.q):=expr_len hokg hq12
  refine WL.vjoin fun J12 j12a j12b j12f=>?_
  refine Lb (.inl rfl) rfl el114 rfl rfl rfl rfl fun b13=>?_
  refine Lrb 0 (.cells (XE.cells (x12,s12.1,s12.2)).toArray 116 (0,0)) rfl rfl ?_
  refine LA ((x12,s12.1,s12.2):XE) 2 0 (.inl rfl) rfl el114 rfl rfl rfl rfl rfl rfl (by have:=hok.len; omega) (by have:=hok.len; omega) fun a14 c14=>?_
  refine V0 (Ya rfl) ?_
  refine Ln (Et (Cs (Cs (Cr ?_))))
  refine V0 (Ym rfl) ?_
  refine Lf 1 rfl ?_
  refine Lw (ι:=Bool×(Option Addr×Nat)×Tk) [_] _ (.inl rfl) rfl en70 rfl rfl (fun i=>.bool i.1) (fun i=>glassL gb i.2.1 i.2.2) (fun i=>(i.1=true→hasT [41] q12=some i.2.2)∧(i.1=false→hasT [41] q12=none∧q12=i.2.2)∧Sl rdTok 3 HT i.2.1.1 i.2.1.2 i.2.2) [HT] (by simp) (fun w hw=>has_any gb HT r12 q12 [41] w hm12 hw) ?_
  intro ⟨b16,r16,q16⟩ ⟨h16t,h16f,hm16⟩
  refine Ln (Et ?_)
  refine Cc rfl (fun hc1=>?_) (fun hc1=>?_)
  ·
   have hq16:=h16t hc1
   have ok16:=tHas ok12 hq16
   obtain ⟨n,hn,hA⟩:=hA
   obtain ⟨n,rfl⟩:∃k,n=k+1:=⟨n-1,by omega⟩
   refine Cs ?_
   refine WC.oslN (rd:=rdXE) 2 rfl (fun k hk=>by simp [glassL,blk] at hk; subst hk; simp [outOf,glassL,blk,osl]) XE.cells_len (fun _ _ _ _ h=>h) fun K6 fK6 hK6=>?_
   refine Cr ?_
   refine V0 (Ym rfl) ?_
   refine V0 (Ya rfl) ?_
   refine Ln (Et (Crt (Er (Ebr (Er ?_)))))
   refine Ebr ?_
   refine WE.ret1 rfl rfl fun w' hw=>?_
   exact .inl ⟨(g.es++[(x12,s12.1,s12.2)]).map (·.1),(a14,c14),r16,q16,by rw [List.length_map],by rw [hA,argsL_some hq12 hq16]; simp,slE_of hK6 (nv_vs hw (by simp) fK6) (nv_vs hw (by simp) (j12f _ hf12 hfJ)) (XEs.snoc hXE j12b j12a hx12),hm16,Ws.drops (Ws.keep (L:=[_]) hw) (fun _ hm=>List.mem_append_right [_,_] hm)⟩
  ·
   obtain ⟨hn16,hl16⟩:=h16f hc1
   subst hl16
   obtain ⟨n,hn,hA⟩:=hA
   obtain ⟨n,rfl⟩:∃k,n=k+1:=⟨n-1,by omega⟩
   refine Ck (Et (Cr ?_))
   refine V0 (Ym rfl) ?_
   refine Lb (.inl rfl) rfl el22 rfl rfl rfl rfl fun b19=>?_
   refine Lsv (T:=9) (m:=1) 0 [[44]] rfl rfl (show 1≤1 by decide) (by decide) fun H19 hH19=>?_
   refine Lf 0 rfl ?_
   refine Lwx (ι:=(Option Addr×Nat)×Tk) (κ:=(Option Addr×Nat)×Tk) [_] _ (.inl rfl) rfl en68 rfl rfl (fun _=>.tuple #[]) (fun i=>glassL gb i.1 i.2) (fun i=>mustT [[44]] q12=some i.2∧Sl rdTok 3 HT i.1.1 i.1.2 i.2) (fun _=>brk) (fun i=>glassL gb i.1 i.2) (fun _=>mustT [[44]] q12=none) ([HT,H19]) (by simp) (fun w hw=>(must_any gb HT r16 q12 H19 _ _ [[44]] w hH19 hm16 hw).mono fun e w' h=>by
       rcases h with ⟨r2,q,h1,h2,h3,h4⟩ | ⟨r2,q,h1,h2,h3⟩
       · exact .inl ⟨(r2,q),h1,⟨h2,h3⟩,h4⟩
       · exact .inr ⟨(r2,q),h1,h2,h3⟩) ?_ ?_
   ·
    intro ⟨rp,qp⟩ hp
    refine WE.block_panic ?_
    refine Ep ?_
    refine WE.block_panic ?_
    refine Epp fun w' hw=>?_
    exact .inr ⟨rp,qp,rfl,by rw [hA,argsL_bad hq12 hn16 ((must1 _ _).symm.trans hp)]; rfl,(by have h:=hw; have h:=Ws.keep (L:=[_]) h; have h:=Ws.drops h (Vs':=[HT]) (by simp); exact h)⟩
   intro ⟨r20,q20⟩ ⟨hq20,hm20⟩
   have ok20:=tMust ok12 hq20
   refine Ln (Eb ?_)
   exact Ea (⟨g.es++[(x12,s12.1,s12.2)],a14,c14,J12,r20,q20⟩:GA) (by have:=mustT_len hq20; simp at this; show q20.length<g.q.length; omega) ⟨⟨by have:=mustT_len hq20; simp at this ⊢; omega,ok20⟩,hm20,⟨j12f _ hf12 hfJ,XEs.snoc hXE j12b j12a hx12⟩,n,(show q20.length<n by have:=mustT_len hq20; simp at this; omega),by rw [hA,argsL_more hq12 hn16 ((must1 _ _).symm.trans hq20)]; simp [Function.comp_def]⟩ (sc rfl (sc rfl (sc rfl sn))) (fun _ h=>by
       have h:=h.fronti 2 rfl
       have h:=h.fronti 1 rfl
       have h:=Ws.keep (L:=[_,_]) h
       have h:=Ws.drops h (Vs':=[J12,HT]) (by simp)
       exact h)
end Go.Proofs.YtinnlppbkhhoiaaGreatDoor
end
section
namespace Go.Proofs.YtinnlppbkhhoiaaGreatDoor
open Go.Bw
set_option linter.unusedVariables false
set_option linter.unusedSimpArgs false
theorem restP_1 {pe:Tk→Option (TExpr×Tk)} {l q:Tk} (h:hasT [105,110] l=some q):restP pe l=some (TExpr.mk 2 0 [] [] [],q):=by unfold restP; rw [show w_in=[105,110] from rfl,h]
theorem restP_2 {pe:Tk→Option (TExpr×Tk)} {l q:Tk} (h1:hasT [105,110] l=none) (h:hasT [33] l=some q):restP pe l=(pe q).map fun x=>(TExpr.mk 6 0 [] [] [x.1],x.2):=by unfold restP; rw [show w_in=[105,110] from rfl,h1]; simp only; rw [h]
theorem restP_3 {pe:Tk→Option (TExpr×Tk)} {l q:Tk} (h1:hasT [105,110] l=none) (h2:hasT [33] l=none) (h:hasT [40] l=some q):restP pe l=twoP pe q:=by unfold restP; rw [show w_in=[105,110] from rfl,h1]; simp only; rw [h2]; simp only; rw [h]
theorem restP_4 {pe:Tk→Option (TExpr×Tk)} {l:Tk} (h1:hasT [105,110] l=none) (h2:hasT [33] l=none) (h:hasT [40] l=none):restP pe l=(refP l).bind fun p=>tailP pe p.1.1 p.1.2 p.2:=by unfold restP; rw [show w_in=[105,110] from rfl,h1]; simp only; rw [h2]; simp only; rw [h]
theorem tailP_1 {pe:Tk→Option (TExpr×Tk)} {mod nm:Tx} {l q:Tk} (h:hasT [91] l=some q):tailP pe mod nm l=(pe q).bind fun x=>(hasT [93] x.2).map fun r=>(TExpr.mk 4 0 mod nm [x.1],r):=by unfold tailP; rw [h]
theorem tailP_2 {pe:Tk→Option (TExpr×Tk)} {mod nm:Tx} {l q:Tk} (h1:hasT [91] l=none) (h:hasT [40] l=some q):tailP pe mod nm l=(argsP pe q).map fun q=>(TExpr.mk 5 0 mod nm q.1,q.2):=by unfold tailP; rw [h1]; simp only; rw [h]
theorem tailP_3 {pe:Tk→Option (TExpr×Tk)} {mod nm:Tx} {l:Tk} (h1:hasT [91] l=none) (h:hasT [40] l=none):tailP pe mod nm l=some (TExpr.mk 3 0 mod nm [],l):=by unfold tailP; rw [h1]; simp only; rw [h]
theorem exprP_none {f d:Nat} {l:Tk} (hf:f+d=7) (h:6<d∨l=[]):exprP f l=none:=by
 rcases h with h | rfl
 · obtain rfl:f=0:=by omega
   rfl
 · cases f<;>rfl
theorem exprP_num {f:Nat} {t:Tok} {r:Tk} (h:t.kind=2):exprP (f+1) (t::r)=some (TExpr.mk 1 t.n [] [] [],r):=by rw [exprP,if_pos h]
theorem exprP_rest {f:Nat} {t:Tok} {r:Tk} (h:¬t.kind=2):exprP (f+1) (t::r)=restP (exprP f) (t::r):=by rw [exprP,if_neg h]
theorem numP_cons {t:Tok} {r:Tk} (h:t.kind=2):numP (t::r)=some (t.n,r):=by simp [numP,nextT,h]
theorem en127:Enters Tryz.prog 127:=enters_of Tryz.func127 (by kernel_rfl) rfl
theorem ara206:arr1 Tryz.prog 206=some 9:=by kernel_rfl
theorem pl116:placesP Tryz.prog 116=some [(0,1),(1,1),(2,1),(3,1),(4,1)]:=by kernel_rfl
theorem en90:Enters Tryz.prog 90:=enters_of Tryz.func90 (by kernel_rfl) rfl
theorem en119:Enters Tryz.prog 119:=enters_of Tryz.func119 (by kernel_rfl) rfl
theorem en108:Enters Tryz.prog 108:=enters_of Tryz.func108 (by kernel_rfl) rfl
theorem sz114:sizeP Tryz.prog 114=some 1:=by kernel_rfl
theorem en109:Enters Tryz.prog 109:=enters_of Tryz.func109 (by kernel_rfl) rfl
theorem gtwo_any (gb:Nat) (HT:View) (r:Option Addr×Nat) (l:Tk) (f d:Nat) (w:World) (hE:GlassE HT f) (hfd:f+d=7) (hok:TOk l) (hm:Sl rdTok 3 HT r.1 r.2 l) (hw:Ws w (List.flatMap Asr.ids (glassL gb r l)) (glassL gb r l) [HT] w) :
   Calls Tryz.prog 119 #[.pointer (some ⟨gb,0,none⟩),.int .i64 (d:Int)] w fun e w'=>(∃(x:TExpr) (s:Option Addr×Nat) (r2:Option Addr×Nat) (q:Tk),e = .returned (.agg #[.int .i64 (x).op,.int .i64 (x).n,st (x).mod,st (x).nm,.slice s.1 (x).args.length s.2])∧twoP (exprP f) l=some (x,q)∧Sl (RdE (f+1)) 5 (nv w w') s.1 s.2 x.args∧Sl rdTok 3 HT r2.1 r2.2 q∧Ws w (List.flatMap Asr.ids (glassL gb r l)) (glassL gb r2 q) [HT] w')∨(∃(r2:Option Addr×Nat) (q:Tk),e = .panicked brk∧twoP (exprP f) l=none∧Ws w (List.flatMap Asr.ids (glassL gb r l)) (glassL gb r2 q) [HT] w'):=by
 refine enter Tryz.func119 rfl 35 rfl rfl ?_
 refine CWd (W':=Ws w (List.flatMap Asr.ids (glassL gb r l)) (glassL gb r l) [HT]) (fun _ e=>by subst e; exact hw) ?_
 refine Cs (Cr ?_)
 refine WL.alloc (.inl rfl) rfl zr116 fun b4=>?_
 refine Lrb 0 (.cells (exprV (TExpr.mk 0 0 [] [] []) none 0).toArray 116 (0,0)) rfl rfl ?_
 refine Ln (Et (Cs (Cr ?_)))
 refine V0 (Ym rfl) ?_
 refine V0 (Ym rfl) ?_
 refine Lf 1 rfl ?_
 refine Lwy (ι:=(TExpr×(Option Addr×Nat))×(Option Addr×Nat)×Tk) (κ:=(Option Addr×Nat)×Tk) [_] _ (.inl rfl) rfl en107 rfl rfl (fun i=>.agg #[.int .i64 (i.1.1).op,.int .i64 (i.1.1).n,st (i.1.1).mod,st (i.1.1).nm,.slice i.1.2.1 (i.1.1).args.length i.1.2.2]) (fun i=>glassL gb i.2.1 i.2.2) (fun F i=>exprP f l=some (i.1.1,i.2.2)∧Sl (RdE f) 5 F i.1.2.1 i.1.2.2 i.1.1.args∧Sl rdTok 3 HT i.2.1.1 i.2.1.2 i.2.2) (fun _=>brk) (fun i=>glassL gb i.1 i.2) (fun _=>exprP f l=none) ([HT]) (by simp) (fun _ _ h=>h) (fun w hw=>(hE gb r l d w hfd hok hm hw).mono fun e w' h=>by
     rcases h with ⟨x,s,r2,q,h1,h2,h3,h4,h5⟩ | ⟨r2,q,h1,h2,h3⟩
     · exact .inl ⟨((x,s),r2,q),h1,⟨h2,h3,h4⟩,h5⟩
     · exact .inr ⟨(r2,q),h1,h2,h3⟩) ?_ ?_
 ·
  intro ⟨rp,qp⟩ hp
  refine Ep ?_
  refine Epp fun w' hw=>?_
  exact .inr ⟨rp,qp,rfl,by rw [twoP,hp]; rfl,(by have h:=hw; have h:=Ws.keep (L:=[_]) h; exact h)⟩
 intro F11 ⟨⟨x11,s11⟩,r11,q11⟩ hf11 ⟨hq11,hx11,hm11⟩
 have ok11:TOk q11:=tExpr hok hq11
 have le11:q11.length+1≤List.length (l):=expr_len hok hq11
 refine WL.alloc (.inl rfl) rfl zr116 fun b5=>?_
 refine Lst 0 (.inl rfl) rfl rfl rfl sz116 rfl rfl rfl ?_
 refine Ln (Et (Cs (Cs (Cr ?_))))
 refine Lp (.inl rfl) rfl en127 rfl (fun w hw=>ops_any w) ?_
 refine V0 (Ym rfl) ?_
 refine Ln (Et (Cb ?_))
 refine CK (ι:=Nat×(Option Addr×Nat)) (fun g=>[(13,.int .i64 (g.1:Int))]) [(0,_),(1,_),(4,_),(5,_),(12,_)] (fun g=>Ws w (List.flatMap Asr.ids (glassL gb r l)) (glassL gb g.2 q11++[blk b5 (.cells (XE.cells (x11,s11.1,s11.2)).toArray 116 (0,0)),blk b4 (.cells (exprV (TExpr.mk 0 0 [] [] []) none 0).toArray 116 (0,0))]) [F11,HT]) (fun g=>g.1≤9∧(∀j v,j<g.1→opsL[j]? = some v→hasT v q11=none)∧Sl rdTok 3 HT g.2.1 g.2.2 q11) (fun g=>9-g.1) (0,r11) ⟨Nat.zero_le _,by simp,hm11⟩ (sc rfl (sc rfl (sc rfl (sc rfl (sc rfl (sc rfl sn)))))) (fun _ h=>by have h:=h.fronti 2 rfl; have h:=h.fronti 1 rfl; have h:=h.fronti 2 rfl; exact h) ?_
 intro g ⟨hi,hall,hmg⟩
 refine Cs (Cr ?_)
 refine V0 (yl_lt rfl rfl) ?_
 refine Ln (Et (Cs ?_))
 refine Cc rfl (fun hc0=>?_) (fun hc0=>?_)
 ·
  have hlt:g.1<9:=by simp at hc0; omega
  obtain ⟨o,hoi⟩:∃o,opsL[g.1]? = some o:=⟨_,List.getElem?_eq_getElem (by show g.1<9; exact hlt)⟩
  refine Ck (Et (Cs (Cb (Cs (Cr ?_)))))
  refine V0 (Ym rfl) ?_
  refine V0 (yl_ixa (i:=g.1) ara206 rfl rfl hlt (opsA_get hoi)) ?_
  refine V0 (Ya rfl) ?_
  refine V0 (Ya rfl) ?_
  refine Ln (Et (Cs (Cr ?_)))
  refine V0 (Ym rfl) ?_
  refine V0 (Ym rfl) ?_
  refine Lf 0 rfl ?_
  refine Lw (ι:=Bool×(Option Addr×Nat)×Tk) [_] _ (.inl rfl) rfl en70 rfl rfl (fun i=>.bool i.1) (fun i=>glassL gb i.2.1 i.2.2) (fun i=>(i.1=true→hasT o q11=some i.2.2)∧(i.1=false→hasT o q11=none∧q11=i.2.2)∧Sl rdTok 3 HT i.2.1.1 i.2.1.2 i.2.2) [HT] (by simp) (fun w hw=>has_any gb HT g.2 q11 o w hmg hw) ?_
  intro ⟨b19,r19,q19⟩ ⟨h19t,h19f,hm19⟩
  refine Ln (Et ?_)
  refine Cc rfl (fun hc1=>?_) (fun hc1=>?_)
  ·
   have hq19:=h19t hc1
   have ok19:=tHas ok11 hq19
   have hop:opP opsL 0 q11=some (g.1,q19):=by rw [opP_hit opsL g.1 0 o q11 q19 hoi hall hq19,Nat.zero_add]
   refine Cs (Cr ?_)
   refine V0 (Ym rfl) ?_
   refine V0 (Ym rfl) ?_
   refine Lf 0 rfl ?_
   refine Lwy (ι:=(TExpr×(Option Addr×Nat))×(Option Addr×Nat)×Tk) (κ:=(Option Addr×Nat)×Tk) [_] _ (.inl rfl) rfl en107 rfl rfl (fun i=>.agg #[.int .i64 (i.1.1).op,.int .i64 (i.1.1).n,st (i.1.1).mod,st (i.1.1).nm,.slice i.1.2.1 (i.1.1).args.length i.1.2.2]) (fun i=>glassL gb i.2.1 i.2.2) (fun F i=>exprP f q19=some (i.1.1,i.2.2)∧Sl (RdE f) 5 F i.1.2.1 i.1.2.2 i.1.1.args∧Sl rdTok 3 HT i.2.1.1 i.2.1.2 i.2.2) (fun _=>brk) (fun i=>glassL gb i.1 i.2) (fun _=>exprP f q19=none) ([HT]) (by simp) (fun _ _ h=>h) (fun w hw=>(hE gb r19 q19 d w hfd ok19 hm19 hw).mono fun e w' h=>by
       rcases h with ⟨x,s,r2,q,h1,h2,h3,h4,h5⟩ | ⟨r2,q,h1,h2,h3⟩
       · exact .inl ⟨((x,s),r2,q),h1,⟨h2,h3,h4⟩,h5⟩
       · exact .inr ⟨(r2,q),h1,h2,h3⟩) ?_ ?_
   ·
    intro ⟨rp,qp⟩ hp
    refine Ep ?_
    refine WE.block_panic ?_
    refine Ep ?_
    refine Ep ?_
    refine WE.block_panic ?_
    refine Ep ?_
    refine Epp fun w' hw=>?_
    exact .inr ⟨rp,qp,rfl,by rw [twoP,hq11]; simp only [Option.bind_some]; rw [hop]; simp only [Option.bind_some]; rw [hp]; rfl,(by have h:=hw; have h:=Ws.keep (L:=[_]) h; have h:=Ws.drops h (Vs':=[HT]) (by simp); exact h)⟩
   intro F22 ⟨⟨x22,s22⟩,r22,q22⟩ hf22 ⟨hq22,hx22,hm22⟩
   have ok22:TOk q22:=tExpr ok19 hq22
   have le22:q22.length+1≤List.length (q19):=expr_len ok19 hq22
   refine WL.vjoin fun J22 j22a j22b j22f=>?_
   refine WL.alloc (.inl rfl) rfl zr116 fun b8=>?_
   refine Lst 0 (.inl rfl) rfl rfl rfl sz116 rfl rfl rfl ?_
   refine Ln (Et (Cs (Cr ?_)))
   refine V0 (Ym rfl) ?_
   refine Lb (.inl rfl) rfl el22 rfl rfl rfl rfl fun b24=>?_
   refine Lsv (T:=9) (m:=1) 0 [[41]] rfl rfl (show 1≤1 by decide) (by decide) fun H24 hH24=>?_
   refine Lf 1 rfl ?_
   refine Lwx (ι:=(Option Addr×Nat)×Tk) (κ:=(Option Addr×Nat)×Tk) [_] _ (.inl rfl) rfl en68 rfl rfl (fun _=>.tuple #[]) (fun i=>glassL gb i.1 i.2) (fun i=>mustT [[41]] q22=some i.2∧Sl rdTok 3 HT i.1.1 i.1.2 i.2) (fun _=>brk) (fun i=>glassL gb i.1 i.2) (fun _=>mustT [[41]] q22=none) ([HT,H24]) (by simp) (fun w hw=>(must_any gb HT r22 q22 H24 _ _ [[41]] w hH24 hm22 hw).mono fun e w' h=>by
       rcases h with ⟨r2,q,h1,h2,h3,h4⟩ | ⟨r2,q,h1,h2,h3⟩
       · exact .inl ⟨(r2,q),h1,⟨h2,h3⟩,h4⟩
       · exact .inr ⟨(r2,q),h1,h2,h3⟩) ?_ ?_
   ·
    intro ⟨rp,qp⟩ hp
    refine Ep ?_
    refine WE.block_panic ?_
    refine Ep ?_
    refine Ep ?_
    refine WE.block_panic ?_
    refine Ep ?_
    refine Epp fun w' hw=>?_
    exact .inr ⟨rp,qp,rfl,by rw [twoP,hq11]; simp only [Option.bind_some]; rw [hop]; simp only [Option.bind_some]; rw [hq22]; simp only [Option.bind_some]; rw [←must1,hp]; rfl,(by have h:=hw; have h:=Ws.keep (L:=[_]) h; have h:=Ws.drops h (Vs':=[HT]) (by simp); exact h)⟩
   intro ⟨r25,q25⟩ ⟨hq25,hm25⟩
   have ok25:=tMust ok22 hq25
   refine Ln (Et (Cs (Cr ?_)))
   refine V0 (Ym rfl) ?_
   refine V0 (yl_addv ((7:Int)+(g.1:Int)) rfl rfl rfl (by omega)) ?_
   refine V0 (Yda 2 rfl rfl ag116 rfl) ?_
   refine V0 (Yda 1 rfl rfl ag116 rfl) ?_
   refine Lb (.inl rfl) rfl el114 rfl rfl rfl rfl fun b30=>?_
   refine LN (rd:=rdXE) (f:=XE.cells) (m:=2) 0 [(x11,s11.1,s11.2),(x22,s22.1,s22.2)] rfl rfl (fun k hk=>by simp [glassL,blk] at hk; subst hk; simp [outOf,glassL,blk,osl]) XE.cells_len (fun _ _ _ _ h=>h) (show 2≤2 by decide) (by decide) fun H30 fH30 hH30=>?_
   refine V0 (Yb zr116 pl116 rfl rfl) ?_
   refine Lst 3 (.inl rfl) rfl rfl rfl sz116 rfl rfl rfl ?_
   refine Ln (Et (Crt (Ebr (Er (Er ?_)))))
   refine Ebr (Er ?_)
   refine WE.retR (rs_1 rfl (rv_agg 3 rfl rfl ag116 rfl)) fun w' hw=>?_
   exact .inl ⟨TExpr.mk (7+(g.1:Int)) 0 [] [] [x11,x22],(some ⟨b30,0,none⟩,2),r25,q25,rfl,by rw [twoP,hq11]; simp only [Option.bind_some]; rw [hop]; simp only [Option.bind_some]; rw [hq22]; simp only [Option.bind_some]; rw [←must1,hq25]; rfl,slE_of hH30 (nv_vs hw (by simp) fH30) (nv_vs hw (by simp) (j22f _ hf22 hf11)) (((XEs.nil J22 f).snoc (VLe.refl _) j22b hx11).snoc (VLe.refl _) j22a hx22),hm25,Ws.drops (Ws.keep (L:=[_]) hw) (fun _ hm=>List.mem_append_right [_,_,_] hm)⟩
  ·
   obtain ⟨hn19,hl19⟩:=h19f hc1
   subst hl19
   refine Ck (Eb (Et (Cr ?_)))
   refine V0 (Yi rfl rfl rfl (by omega)) ?_
   refine V0 (Ym rfl) ?_
   refine Ln ?_
   exact Ea ((g.1+1,r19):Nat×(Option Addr×Nat)) (by show 9-(g.1+1)<9-g.1; omega) ⟨by show g.1+1≤9; omega,fun j v hj hv=>by
       rcases Nat.lt_succ_iff_lt_or_eq.1 hj with h | rfl
       · exact hall j v h hv
       · rw [hoi] at hv; injection hv with hv; subst hv; exact hn19,hm19⟩ (sc rfl (sc rfl (sc rfl (sc rfl (sc rfl (sc rfl sn)))))) (fun _ h=>h)
 ·
  have hge:¬g.1<9:=by simp at hc0; omega
  have hmiss:opP opsL 0 q11=none:=opP_miss _ _ _ fun v hv=>by
    obtain ⟨j,hj⟩:=List.getElem?_of_mem hv
    exact hall j v (by have:=(List.getElem?_eq_some_iff.1 hj).1; have:opsL.length=9:=rfl; omega) hj
  refine Ce (Ex (Ex (Ebh (Et (Cr ?_)))))
  refine V0 (Yb zr126 pl126 rfl rfl) ?_
  refine V0 (yl_mki co126 rfl) ?_
  refine WL.panic (.inl rfl) rfl ?_
  refine Epp fun w' hw=>?_
  exact .inr ⟨g.2,q11,rfl,by rw [twoP,hq11]; simp only [Option.bind_some]; rw [hmiss]; rfl,(by have h:=hw; have h:=Ws.keep (L:=[_]) h; have h:=Ws.drops h (Vs':=[HT]) (by simp); exact h)⟩
theorem gexpr_any (HT:View) (f:Nat) (gb:Nat) (r:Option Addr×Nat) (l:Tk) (d:Nat) (w:World) (hfd:f+d=7) (hok:TOk l) (hm:Sl rdTok 3 HT r.1 r.2 l) (hw:Ws w (List.flatMap Asr.ids (glassL gb r l)) (glassL gb r l) [HT] w) :
   Calls Tryz.prog 107 #[.pointer (some ⟨gb,0,none⟩),.int .i64 (d:Int)] w fun e w'=>(∃(x:TExpr) (s:Option Addr×Nat) (r2:Option Addr×Nat) (q:Tk),e = .returned (.agg #[.int .i64 (x).op,.int .i64 (x).n,st (x).mod,st (x).nm,.slice s.1 (x).args.length s.2])∧exprP f l=some (x,q)∧Sl (RdE f) 5 (nv w w') s.1 s.2 x.args∧Sl rdTok 3 HT r2.1 r2.2 q∧Ws w (List.flatMap Asr.ids (glassL gb r l)) (glassL gb r2 q) [HT] w')∨(∃(r2:Option Addr×Nat) (q:Tk),e = .panicked brk∧exprP f l=none∧Ws w (List.flatMap Asr.ids (glassL gb r l)) (glassL gb r2 q) [HT] w'):=by
 induction f using Nat.strongRecOn generalizing gb r l d w
 rename_i f ih
 have hcap:=hm.cap
 have hmax:=hm.max
 refine enter Tryz.func107 rfl 83 rfl rfl ?_
 refine CWd (W':=Ws w (List.flatMap Asr.ids (glassL gb r l)) (glassL gb r l) [HT]) (fun _ e=>by subst e; exact hw) ?_
 refine Cs (Cr ?_)
 refine WL.alloc (.inl rfl) rfl zr116 fun b4=>?_
 refine Lrb 0 (.cells (exprV (TExpr.mk 0 0 [] [] []) none 0).toArray 116 (0,0)) rfl rfl ?_
 refine Ln (Et (Cs (Cs (Cr ?_))))
 refine V0 (Ym rfl) ?_
 refine V0 (yl_gt rfl rfl) ?_
 refine V0 (Ym rfl) ?_
 apply WL.or 6 rfl rfl rfl rfl (.inl rfl) rfl rfl rfl rfl rfl
 ·
  intro hg0
  refine Lv (.g rfl rfl rfl) rfl (Ym rfl) ?_
  refine Lv (.g rfl rfl rfl) rfl (yl_nil rfl) ?_
  refine Lv (.g rfl rfl rfl) rfl (Yf fo124_0 rfl) ?_
  refine Lv (.g rfl rfl rfl) rfl (Yd 1 rfl rfl rfl na119) ?_
  refine Lv (.g rfl rfl rfl) rfl (Yn es119 rfl) ?_
  refine Lv (.g rfl rfl rfl) rfl (yl_eq rfl rfl) ?_
  exact Gt 6 rfl rfl rfl
 refine Ln (Et ?_)
 refine Cc rfl (fun hc0=>?_) (fun hc0=>?_)
 ·
  have hno:exprP f l=none:=exprP_none hfd (by
    simp at hc0
    rcases hc0 with h | h
    · left; omega
    · right; exact h)
  refine Cr ?_
  refine V0 (Yb zr126 pl126 rfl rfl) ?_
  refine V0 (yl_mki co126 rfl) ?_
  refine WL.panic (.inl rfl) rfl ?_
  refine Ep ?_
  refine Epp fun w' hw=>?_
  exact .inr ⟨r,l,rfl,hno,(by have h:=hw; have h:=h.fronti 1 rfl; have h:=Ws.keep (L:=[_]) h; exact h)⟩
 ·
  have hd6:¬6<d:=by
    intro h
    have h2:(6:Int)<(d:Int):=by omega
    simp [h2] at hc0
  obtain ⟨f,rfl⟩:∃k,f=k+1:=⟨f-1,by omega⟩
  obtain ⟨t0,r0,rfl⟩:∃t r,l=t::r:=by
    cases l with
    | nil=>simp at hc0
    | cons t r=>exact ⟨t,r,rfl⟩
  obtain ⟨pbt,pot,hat,hrt⟩:=hm.elt 0 t0 rfl
  have hrt:RdC HT pbt (pot+0*3) t0.cells:=hrt
  have hE:GlassE HT f:=fun gb r l d w h1 h2 h3 h4=>ih f (by omega) gb r l d w h1 h2 h3 h4
  refine Ck (Et (Cs (Cb (Cs (Cr ?_)))))
  refine V0 (Ym rfl) ?_
  refine V0 (yl_nil rfl) ?_
  refine V0 (Yf fo124_0 rfl) ?_
  refine V0 (Yd 1 rfl rfl rfl na119) ?_
  refine V0 (Yo (i:=0) es119 rfl rfl hat (by simp)) ?_
  refine V0 (Yf fo143_0 rfl) ?_
  refine V0 (yl_ld 0 na3 rfl rfl (hrt 0 _ rfl)) ?_
  refine V0 (yl_eq rfl rfl) ?_
  refine V0 (Ya rfl) ?_
  refine Ln (Et ?_)
  refine Cc rfl (fun hc1=>?_) (fun hc1=>?_)
  ·
   have hk:t0.kind=2:=by simpa using hc1
   refine Cs (Cr ?_)
   refine V0 (Ym rfl) ?_
   refine Lf 1 rfl ?_
   refine Lwx (ι:=(Int)×(Option Addr×Nat)×Tk) (κ:=(Option Addr×Nat)×Tk) [_] _ (.inl rfl) rfl en90 rfl rfl (fun i=>.int .i64 i.1) (fun i=>glassL gb i.2.1 i.2.2) (fun i=>numP (t0::r0)=some (i.1,i.2.2)∧Sl rdTok 3 HT i.2.1.1 i.2.1.2 i.2.2) (fun _=>brk) (fun i=>glassL gb i.1 i.2) (fun _=>numP (t0::r0)=none) ([HT]) (by simp) (fun w hw=>(gnum_any gb HT r (t0::r0) w hm hw).mono fun e w' h=>by
       rcases h with ⟨t,r2,q,h1,h2,h3,h4⟩ | ⟨r2,q,h1,h2,h3⟩
       · exact .inl ⟨(t,r2,q),h1,⟨h2,h3⟩,h4⟩
       · exact .inr ⟨(r2,q),h1,h2,h3⟩) ?_ ?_
   ·
    intro ⟨rp,qp⟩ hp
    refine Ep ?_
    refine WE.block_panic ?_
    refine Ep ?_
    refine Epp fun w' hw=>?_
    rw [numP_cons hk] at hp
    cases hp
   intro ⟨n30,r30,q30⟩ ⟨hq30,hm30⟩
   have ok30:=tNum hok hq30
   refine V0 (Yb zr116 pl116 rfl rfl) ?_
   rw [numP_cons hk] at hq30
   injection hq30 with hq30
   injection hq30 with hn30 hq30
   subst hn30
   subst hq30
   refine Lst 1 (.inl rfl) rfl rfl rfl sz116 rfl rfl rfl ?_
   refine Ln (Et (Crt (Ebr (Er ?_))))
   refine WE.retR (rs_1 rfl (rv_agg 1 rfl rfl ag116 rfl)) fun w' hw=>?_
   exact .inl ⟨TExpr.mk 1 t0.n [] [] [],(none,0),r30,r0,rfl,exprP_num hk,Sl.nil,hm30,Ws.keep (L:=[_]) hw⟩
  ·
   have hk:¬t0.kind=2:=by simpa using hc1
   have hR:=exprP_rest (f:=f) (r:=r0) hk
   refine Cs (Cr ?_)
   refine V0 (Ym rfl) ?_
   refine Lf 1 rfl ?_
   refine Lw (ι:=Bool×(Option Addr×Nat)×Tk) [_] _ (.inl rfl) rfl en70 rfl rfl (fun i=>.bool i.1) (fun i=>glassL gb i.2.1 i.2.2) (fun i=>(i.1=true→hasT [105,110] (t0::r0)=some i.2.2)∧(i.1=false→hasT [105,110] (t0::r0)=none∧(t0::r0)=i.2.2)∧Sl rdTok 3 HT i.2.1.1 i.2.1.2 i.2.2) [HT] (by simp) (fun w hw=>has_any gb HT r (t0::r0) [105,110] w hm hw) ?_
   intro ⟨b34,r34,q34⟩ ⟨h34t,h34f,hm34⟩
   refine V0 (Ya rfl) ?_
   refine Ln (Et ?_)
   refine Cc rfl (fun hc2=>?_) (fun hc2=>?_)
   ·
    have hq34:=h34t hc2
    have ok34:=tHas hok hq34
    refine Cs (Cr ?_)
    refine V0 (Yb zr116 pl116 rfl rfl) ?_
    refine Lst 1 (.inl rfl) rfl rfl rfl sz116 rfl rfl rfl ?_
    refine Ln (Et (Crt (Ebr (Er ?_))))
    refine WE.retR (rs_1 rfl (rv_agg 1 rfl rfl ag116 rfl)) fun w' hw=>?_
    exact .inl ⟨TExpr.mk 2 0 [] [] [],(none,0),r34,q34,rfl,by rw [hR,restP_1 hq34],Sl.nil,hm34,Ws.keep (L:=[_]) hw⟩
   ·
    obtain ⟨hn34,hl34⟩:=h34f hc2
    subst hl34
    refine Cs (Cr ?_)
    refine V0 (Ym rfl) ?_
    refine Lf 0 rfl ?_
    refine Lw (ι:=Bool×(Option Addr×Nat)×Tk) [_] _ (.inl rfl) rfl en70 rfl rfl (fun i=>.bool i.1) (fun i=>glassL gb i.2.1 i.2.2) (fun i=>(i.1=true→hasT [33] (t0::r0)=some i.2.2)∧(i.1=false→hasT [33] (t0::r0)=none∧(t0::r0)=i.2.2)∧Sl rdTok 3 HT i.2.1.1 i.2.1.2 i.2.2) [HT] (by simp) (fun w hw=>has_any gb HT r34 (t0::r0) [33] w hm34 hw) ?_
    intro ⟨b38,r38,q38⟩ ⟨h38t,h38f,hm38⟩
    refine V0 (Ya rfl) ?_
    refine Ln (Et ?_)
    refine Cc rfl (fun hc3=>?_) (fun hc3=>?_)
    ·
     have hq38:=h38t hc3
     have ok38:=tHas hok hq38
     refine Cs (Cr ?_)
     refine V0 (Ym rfl) ?_
     refine V0 (Ym rfl) ?_
     refine V0 (Yi rfl rfl rfl (by omega)) ?_
     refine Lf 0 rfl ?_
     refine Lwy (ι:=(TExpr×(Option Addr×Nat))×(Option Addr×Nat)×Tk) (κ:=(Option Addr×Nat)×Tk) [_] _ (.inl rfl) rfl en107 rfl rfl (fun i=>.agg #[.int .i64 (i.1.1).op,.int .i64 (i.1.1).n,st (i.1.1).mod,st (i.1.1).nm,.slice i.1.2.1 (i.1.1).args.length i.1.2.2]) (fun i=>glassL gb i.2.1 i.2.2) (fun F i=>exprP f q38=some (i.1.1,i.2.2)∧Sl (RdE f) 5 F i.1.2.1 i.1.2.2 i.1.1.args∧Sl rdTok 3 HT i.2.1.1 i.2.1.2 i.2.2) (fun _=>brk) (fun i=>glassL gb i.1 i.2) (fun _=>exprP f q38=none) ([HT]) (by simp) (fun _ _ h=>h) (fun w hw=>(hE gb r38 q38 (d+1) w (by omega) ok38 hm38 hw).mono fun e w' h=>by
         rcases h with ⟨x,s,r2,q,h1,h2,h3,h4,h5⟩ | ⟨r2,q,h1,h2,h3⟩
         · exact .inl ⟨((x,s),r2,q),h1,⟨h2,h3,h4⟩,h5⟩
         · exact .inr ⟨(r2,q),h1,h2,h3⟩) ?_ ?_
     ·
      intro ⟨rp,qp⟩ hp
      refine Ep ?_
      refine WE.block_panic ?_
      refine Ep ?_
      refine Epp fun w' hw=>?_
      exact .inr ⟨rp,qp,rfl,by rw [hR,restP_2 hn34 hq38,hp]; rfl,(by have h:=hw; have h:=Ws.keep (L:=[_]) h; exact h)⟩
     intro F42 ⟨⟨x42,s42⟩,r42,q42⟩ hf42 ⟨hq42,hx42,hm42⟩
     have ok42:TOk q42:=tExpr ok38 hq42
     have le42:q42.length+1≤List.length (q38):=expr_len ok38 hq42
     refine Lb (.inl rfl) rfl el114 rfl rfl rfl rfl fun b43=>?_
     refine LN (rd:=rdXE) (f:=XE.cells) (m:=1) 0 [(x42,s42.1,s42.2)] rfl rfl (fun k hk=>by simp [glassL,blk] at hk; subst hk; simp [outOf,glassL,blk,osl]) XE.cells_len (fun _ _ _ _ h=>h) (show 1≤1 by decide) (by decide) fun H43 fH43 hH43=>?_
     refine V0 (Yb zr116 pl116 rfl rfl) ?_
     refine Lst 1 (.inl rfl) rfl rfl rfl sz116 rfl rfl rfl ?_
     refine Ln (Et (Crt (Ebr (Er ?_))))
     refine WE.retR (rs_1 rfl (rv_agg 1 rfl rfl ag116 rfl)) fun w' hw=>?_
     exact .inl ⟨TExpr.mk 6 0 [] [] [x42],(some ⟨b43,0,none⟩,1),r42,q42,rfl,by rw [hR,restP_2 hn34 hq38,hq42]; rfl,slE_of hH43 (nv_vs hw (by simp) fH43) (nv_vs hw (by simp) hf42) ((XEs.nil F42 f).snoc (VLe.refl _) (VLe.refl _) hx42),hm42,Ws.drops (Ws.keep (L:=[_]) hw) (fun _ hm=>List.mem_append_right [_,_] hm)⟩
    ·
     obtain ⟨hn38,hl38⟩:=h38f hc3
     subst hl38
     refine Cs (Cr ?_)
     refine V0 (Ym rfl) ?_
     refine Lf 0 rfl ?_
     refine Lw (ι:=Bool×(Option Addr×Nat)×Tk) [_] _ (.inl rfl) rfl en70 rfl rfl (fun i=>.bool i.1) (fun i=>glassL gb i.2.1 i.2.2) (fun i=>(i.1=true→hasT [40] (t0::r0)=some i.2.2)∧(i.1=false→hasT [40] (t0::r0)=none∧(t0::r0)=i.2.2)∧Sl rdTok 3 HT i.2.1.1 i.2.1.2 i.2.2) [HT] (by simp) (fun w hw=>has_any gb HT r38 (t0::r0) [40] w hm38 hw) ?_
     intro ⟨b47,r47,q47⟩ ⟨h47t,h47f,hm47⟩
     refine V0 (Ya rfl) ?_
     refine Ln (Et ?_)
     refine Cc rfl (fun hc4=>?_) (fun hc4=>?_)
     ·
      have hq47:=h47t hc4
      have ok47:=tHas hok hq47
      refine Cs (Cr ?_)
      refine V0 (Ym rfl) ?_
      refine V0 (Ym rfl) ?_
      refine V0 (Yi rfl rfl rfl (by omega)) ?_
      refine Lf 0 rfl ?_
      refine Lwy (ι:=((TExpr)×(Option Addr×Nat))×(Option Addr×Nat)×Tk) (κ:=(Option Addr×Nat)×Tk) [_] _ (.inl rfl) rfl en119 rfl rfl (fun i=>.agg #[.int .i64 (i.1.1).op,.int .i64 (i.1.1).n,st (i.1.1).mod,st (i.1.1).nm,.slice i.1.2.1 (i.1.1).args.length i.1.2.2]) (fun i=>glassL gb i.2.1 i.2.2) (fun F i=>twoP (exprP f) q47=some (i.1.1,i.2.2)∧Sl (RdE (f+1)) 5 F i.1.2.1 i.1.2.2 i.1.1.args∧Sl rdTok 3 HT i.2.1.1 i.2.1.2 i.2.2) (fun _=>brk) (fun i=>glassL gb i.1 i.2) (fun _=>twoP (exprP f) q47=none) ([HT]) (by simp) (fun _ _ h=>h) (fun w hw=>(gtwo_any gb HT r47 q47 f (d+1) w hE (by omega) ok47 hm47 hw).mono fun e w' h=>by
          rcases h with ⟨x,s,r2,q,h1,h2,h3,h4,h5⟩ | ⟨r2,q,h1,h2,h3⟩
          · exact .inl ⟨((x,s),r2,q),h1,⟨h2,h3,h4⟩,h5⟩
          · exact .inr ⟨(r2,q),h1,h2,h3⟩) ?_ ?_
      ·
       intro ⟨rp,qp⟩ hp
       refine Ep ?_
       refine WE.block_panic ?_
       refine Ep ?_
       refine Epp fun w' hw=>?_
       exact .inr ⟨rp,qp,rfl,by rw [hR,restP_3 hn34 hn38 hq47,hp],(by have h:=hw; have h:=Ws.keep (L:=[_]) h; exact h)⟩
      intro F51 ⟨⟨x51,s51⟩,r51,q51⟩ hf51 ⟨hq51,hx51,hm51⟩
      refine Lst 1 (.inl rfl) rfl rfl rfl sz116 rfl rfl rfl ?_
      refine Ln (Et (Crt (Ebr (Er ?_))))
      refine WE.retR (rs_1 rfl (rv_agg 1 rfl rfl ag116 rfl)) fun w' hw=>?_
      exact .inl ⟨x51,s51,r51,q51,rfl,by rw [hR,restP_3 hn34 hn38 hq47,hq51],slE_mv hx51 (nv_vs hw (by simp) hf51),hm51,Ws.drops (Ws.keep (L:=[_]) hw) (fun _ hm=>List.mem_append_right [_] hm)⟩
     ·
      obtain ⟨hn47,hl47⟩:=h47f hc4
      subst hl47
      refine Ck (Eb (Et (Cs (Cr ?_))))
      refine V0 (Ym rfl) ?_
      refine Lf 0 rfl ?_
      refine Lwx (ι:=(Tx×Tx)×(Option Addr×Nat)×Tk) (κ:=(Option Addr×Nat)×Tk) [_] _ (.inl rfl) rfl en108 rfl rfl (fun i=>.tuple #[st i.1.1,st i.1.2]) (fun i=>glassL gb i.2.1 i.2.2) (fun i=>refP (t0::r0)=some (i.1,i.2.2)∧Sl rdTok 3 HT i.2.1.1 i.2.1.2 i.2.2) (fun _=>brk) (fun i=>glassL gb i.1 i.2) (fun _=>refP (t0::r0)=none) ([HT]) (by simp) (fun w hw=>(gref_any gb HT r47 (t0::r0) w hok hm47 hw).mono fun e w' h=>by
          rcases h with ⟨t,r2,q,h1,h2,h3,h4⟩ | ⟨r2,q,h1,h2,h3⟩
          · exact .inl ⟨(t,r2,q),h1,⟨h2,h3⟩,h4⟩
          · exact .inr ⟨(r2,q),h1,h2,h3⟩) ?_ ?_
      ·
       intro ⟨rp,qp⟩ hp
       refine Ep ?_
       refine Epp fun w' hw=>?_
       exact .inr ⟨rp,qp,rfl,by rw [hR,restP_4 hn34 hn38 hn47,hp]; rfl,(by have h:=hw; have h:=Ws.keep (L:=[_]) h; exact h)⟩
      intro ⟨p54,r54,q54⟩ ⟨hq54,hm54⟩
      have ok54:=tRef hok hq54
      refine V0 (Ym rfl) ?_
      refine V0 (Yx rfl rfl) ?_
      refine V0 (Yx rfl rfl) ?_
      refine V0 (Ya rfl) ?_
      refine V0 (Ya rfl) ?_
      refine Ln (Et (Cs (Cr ?_)))
      refine V0 (Ym rfl) ?_
      refine V0 (Ym rfl) ?_
      refine V0 (Yb zr116 pl116 rfl rfl) ?_
      refine WL.alloc (.inl rfl) rfl zr116 fun b7=>?_
      refine Lst 0 (.inl rfl) rfl rfl rfl sz116 rfl rfl rfl ?_
      refine Ln (Et (Cs (Cb (Cs (Cr ?_)))))
      refine V0 (Ym rfl) ?_
      refine Lf 1 rfl ?_
      refine Lw (ι:=Bool×(Option Addr×Nat)×Tk) [_] _ (.inl rfl) rfl en70 rfl rfl (fun i=>.bool i.1) (fun i=>glassL gb i.2.1 i.2.2) (fun i=>(i.1=true→hasT [91] q54=some i.2.2)∧(i.1=false→hasT [91] q54=none∧q54=i.2.2)∧Sl rdTok 3 HT i.2.1.1 i.2.1.2 i.2.2) [HT] (by simp) (fun w hw=>has_any gb HT r54 q54 [91] w hm54 hw) ?_
      intro ⟨b62,r62,q62⟩ ⟨h62t,h62f,hm62⟩
      refine V0 (Ya rfl) ?_
      refine Ln (Et ?_)
      refine Cc rfl (fun hc5=>?_) (fun hc5=>?_)
      ·
       have hq62:=h62t hc5
       have ok62:=tHas ok54 hq62
       refine Cs (Cr ?_)
       refine V0 (Ym rfl) ?_
       refine V0 (Ym rfl) ?_
       refine V0 (Yi rfl rfl rfl (by omega)) ?_
       refine Lf 0 rfl ?_
       refine Lwy (ι:=(TExpr×(Option Addr×Nat))×(Option Addr×Nat)×Tk) (κ:=(Option Addr×Nat)×Tk) [_] _ (.inl rfl) rfl en107 rfl rfl (fun i=>.agg #[.int .i64 (i.1.1).op,.int .i64 (i.1.1).n,st (i.1.1).mod,st (i.1.1).nm,.slice i.1.2.1 (i.1.1).args.length i.1.2.2]) (fun i=>glassL gb i.2.1 i.2.2) (fun F i=>exprP f q62=some (i.1.1,i.2.2)∧Sl (RdE f) 5 F i.1.2.1 i.1.2.2 i.1.1.args∧Sl rdTok 3 HT i.2.1.1 i.2.1.2 i.2.2) (fun _=>brk) (fun i=>glassL gb i.1 i.2) (fun _=>exprP f q62=none) ([HT]) (by simp) (fun _ _ h=>h) (fun w hw=>(hE gb r62 q62 (d+1) w (by omega) ok62 hm62 hw).mono fun e w' h=>by
           rcases h with ⟨x,s,r2,q,h1,h2,h3,h4,h5⟩ | ⟨r2,q,h1,h2,h3⟩
           · exact .inl ⟨((x,s),r2,q),h1,⟨h2,h3,h4⟩,h5⟩
           · exact .inr ⟨(r2,q),h1,h2,h3⟩) ?_ ?_
       ·
        intro ⟨rp,qp⟩ hp
        refine Ep ?_
        refine WE.block_panic ?_
        refine Ep ?_
        refine Epp fun w' hw=>?_
        exact .inr ⟨rp,qp,rfl,by rw [hR,restP_4 hn34 hn38 hn47,hq54]; simp only [Option.bind_some]; rw [tailP_1 hq62,hp]; rfl,(by have h:=hw; have h:=Ws.keep (L:=[_]) h; exact h)⟩
       intro F66 ⟨⟨x66,s66⟩,r66,q66⟩ hf66 ⟨hq66,hx66,hm66⟩
       have ok66:TOk q66:=tExpr ok62 hq66
       have le66:q66.length+1≤List.length (q62):=expr_len ok62 hq66
       refine Lb (.inl rfl) rfl el114 rfl rfl rfl rfl fun b67=>?_
       refine LN (rd:=rdXE) (f:=XE.cells) (m:=1) 0 [(x66,s66.1,s66.2)] rfl rfl (fun k hk=>by simp [glassL,blk] at hk; subst hk; simp [outOf,glassL,blk,osl]) XE.cells_len (fun _ _ _ _ h=>h) (show 1≤1 by decide) (by decide) fun H67 fH67 hH67=>?_
       refine V0 (Yf fo116_0 rfl) ?_
       refine Lst 1 (.inl rfl) rfl rfl rfl sz3 rfl rfl rfl ?_
       refine V0 (Yf fo116_4 rfl) ?_
       refine Lst 1 (.inl rfl) rfl rfl rfl sz114 rfl rfl rfl ?_
       refine Ln (Et (Cr ?_))
       refine V0 (Ym rfl) ?_
       refine Lb (.inl rfl) rfl el22 rfl rfl rfl rfl fun b71=>?_
       refine Lsv (T:=9) (m:=1) 0 [[93]] rfl rfl (show 1≤1 by decide) (by decide) fun H71 hH71=>?_
       refine Lf 0 rfl ?_
       refine Lwx (ι:=(Option Addr×Nat)×Tk) (κ:=(Option Addr×Nat)×Tk) [_] _ (.inl rfl) rfl en68 rfl rfl (fun _=>.tuple #[]) (fun i=>glassL gb i.1 i.2) (fun i=>mustT [[93]] q66=some i.2∧Sl rdTok 3 HT i.1.1 i.1.2 i.2) (fun _=>brk) (fun i=>glassL gb i.1 i.2) (fun _=>mustT [[93]] q66=none) ([HT,H71]) (by simp) (fun w hw=>(must_any gb HT r66 q66 H71 _ _ [[93]] w hH71 hm66 hw).mono fun e w' h=>by
           rcases h with ⟨r2,q,h1,h2,h3,h4⟩ | ⟨r2,q,h1,h2,h3⟩
           · exact .inl ⟨(r2,q),h1,⟨h2,h3⟩,h4⟩
           · exact .inr ⟨(r2,q),h1,h2,h3⟩) ?_ ?_
       ·
        intro ⟨rp,qp⟩ hp
        refine WE.block_panic ?_
        refine Ep ?_
        refine Epp fun w' hw=>?_
        exact .inr ⟨rp,qp,rfl,by rw [hR,restP_4 hn34 hn38 hn47,hq54]; simp only [Option.bind_some]; rw [tailP_1 hq62,hq66]; simp only [Option.bind_some]; rw [←must1,hp]; rfl,(by have h:=hw; have h:=Ws.keep (L:=[_]) h; have h:=Ws.drops h (Vs':=[HT]) (by simp); exact h)⟩
       intro ⟨r72,q72⟩ ⟨hq72,hm72⟩
       have ok72:=tMust ok66 hq72
       refine Ln (Eb (Et (Cs (Cr ?_))))
       refine V0 (Yda 1 rfl rfl ag116 rfl) ?_
       refine Lst 2 (.inl rfl) rfl rfl rfl sz116 rfl rfl rfl ?_
       refine Ln (Et (Crt ?_))
       refine WE.retR (rs_1 rfl (rv_agg 2 rfl rfl ag116 rfl)) fun w' hw=>?_
       exact .inl ⟨TExpr.mk 4 0 p54.1 p54.2 [x66],(some ⟨b67,0,none⟩,1),r72,q72,rfl,by rw [hR,restP_4 hn34 hn38 hn47,hq54]; simp only [Option.bind_some]; rw [tailP_1 hq62,hq66]; simp only [Option.bind_some]; rw [←must1,hq72]; rfl,slE_of hH67 (nv_vs hw (by simp) fH67) (nv_vs hw (by simp) hf66) ((XEs.nil F66 f).snoc (VLe.refl _) (VLe.refl _) hx66),hm72,Ws.drops (Ws.keep (L:=[_]) hw) (fun _ hm=>List.mem_append_right [_,_,_] hm)⟩
      ·
       obtain ⟨hn62,hl62⟩:=h62f hc5
       subst hl62
       refine Cs (Cr ?_)
       refine V0 (Ym rfl) ?_
       refine Lf 0 rfl ?_
       refine Lw (ι:=Bool×(Option Addr×Nat)×Tk) [_] _ (.inl rfl) rfl en70 rfl rfl (fun i=>.bool i.1) (fun i=>glassL gb i.2.1 i.2.2) (fun i=>(i.1=true→hasT [40] q54=some i.2.2)∧(i.1=false→hasT [40] q54=none∧q54=i.2.2)∧Sl rdTok 3 HT i.2.1.1 i.2.1.2 i.2.2) [HT] (by simp) (fun w hw=>has_any gb HT r62 q54 [40] w hm62 hw) ?_
       intro ⟨b75,r75,q75⟩ ⟨h75t,h75f,hm75⟩
       refine V0 (Ya rfl) ?_
       refine Ln (Et ?_)
       refine Cc rfl (fun hc6=>?_) (fun hc6=>?_)
       ·
        have hq75:=h75t hc6
        have ok75:=tHas ok54 hq75
        refine Cr ?_
        refine V0 (Ym rfl) ?_
        refine V0 (Ym rfl) ?_
        refine V0 (Yi rfl rfl rfl (by omega)) ?_
        refine Lf 0 rfl ?_
        refine Lwy (ι:=((List TExpr)×(Option Addr×Nat))×(Option Addr×Nat)×Tk) (κ:=(Option Addr×Nat)×Tk) [_] _ (.inl rfl) rfl en109 rfl rfl (fun i=>.slice i.1.2.1 i.1.1.length i.1.2.2) (fun i=>glassL gb i.2.1 i.2.2) (fun F i=>argsP (exprP f) q75=some (i.1.1,i.2.2)∧Sl (RdE (f+1)) 5 F i.1.2.1 i.1.2.2 i.1.1∧Sl rdTok 3 HT i.2.1.1 i.2.1.2 i.2.2) (fun _=>brk) (fun i=>glassL gb i.1 i.2) (fun _=>argsP (exprP f) q75=none) ([HT]) (by simp) (fun _ _ h=>h) (fun w hw=>(gargs_any gb HT r75 q75 f (d+1) w hE (by omega) ok75 hm75 hw).mono fun e w' h=>by
            rcases h with ⟨x,s,r2,q,h1,h2,h3,h4,h5⟩ | ⟨r2,q,h1,h2,h3⟩
            · exact .inl ⟨((x,s),r2,q),h1,⟨h2,h3,h4⟩,h5⟩
            · exact .inr ⟨(r2,q),h1,h2,h3⟩) ?_ ?_
        ·
         intro ⟨rp,qp⟩ hp
         refine WE.block_panic ?_
         refine Ep ?_
         refine Epp fun w' hw=>?_
         exact .inr ⟨rp,qp,rfl,by rw [hR,restP_4 hn34 hn38 hn47,hq54]; simp only [Option.bind_some]; rw [tailP_2 hn62 hq75,hp]; rfl,(by have h:=hw; have h:=Ws.keep (L:=[_]) h; exact h)⟩
        intro F79 ⟨⟨xs79,s79⟩,r79,q79⟩ hf79 ⟨hq79,hx79,hm79⟩
        refine V0 (Yf fo116_0 rfl) ?_
        refine Lst 1 (.inl rfl) rfl rfl rfl sz3 rfl rfl rfl ?_
        refine V0 (Yf fo116_4 rfl) ?_
        refine Lst 1 (.inl rfl) rfl rfl rfl sz114 rfl rfl rfl ?_
        refine Ln (Eb (Et (Cs (Cr ?_))))
        refine V0 (Yda 1 rfl rfl ag116 rfl) ?_
        refine Lst 2 (.inl rfl) rfl rfl rfl sz116 rfl rfl rfl ?_
        refine Ln (Et (Crt ?_))
        refine WE.retR (rs_1 rfl (rv_agg 2 rfl rfl ag116 rfl)) fun w' hw=>?_
        exact .inl ⟨TExpr.mk 5 0 p54.1 p54.2 xs79,s79,r79,q79,rfl,by rw [hR,restP_4 hn34 hn38 hn47,hq54]; simp only [Option.bind_some]; rw [tailP_2 hn62 hq75,hq79]; rfl,slE_mv hx79 (nv_vs hw (by simp) hf79),hm79,Ws.drops (Ws.keep (L:=[_]) hw) (fun _ hm=>List.mem_append_right [_] hm)⟩
       ·
        obtain ⟨hn75,hl75⟩:=h75f hc6
        subst hl75
        refine Ck (Eb (Et (Cs (Cr ?_))))
        refine V0 (Yda 1 rfl rfl ag116 rfl) ?_
        refine Lst 2 (.inl rfl) rfl rfl rfl sz116 rfl rfl rfl ?_
        refine Ln (Et (Crt ?_))
        refine WE.retR (rs_1 rfl (rv_agg 2 rfl rfl ag116 rfl)) fun w' hw=>?_
        exact .inl ⟨TExpr.mk 3 0 p54.1 p54.2 [],(none,0),r75,q54,rfl,by rw [hR,restP_4 hn34 hn38 hn47,hq54]; simp only [Option.bind_some]; rw [tailP_3 hn62 hn75],Sl.nil,hm75,Ws.keep (L:=[_]) hw⟩
end Go.Proofs.YtinnlppbkhhoiaaGreatDoor
end
section
namespace Go.Proofs.YtinnlppbkhhoiaaGreatDoor
open Go.Bw
set_option linter.unusedVariables false
set_option linter.unusedSimpArgs false
structure SAt where
 s1:Option Addr×Nat
 s2:Option Addr×Nat
 s3:Option Addr×Nat
abbrev SX:=TStmt×SAt
def SX.cells (e:SX):List Value:=stmtV e.1 e.2.s1.1 e.2.s1.2 e.2.s2.1 e.2.s2.2 e.2.s3.1 e.2.s3.2
theorem SX.cells_len (e:SX):(SX.cells e).length=6:=rfl
def rdSX (H:View) (b o:Nat) (e:SX):Prop:=RdC H b o (SX.cells e)
structure SlS (f:Nat) (N:View) (x:TStmt) (p:SAt):Prop where
 args:Sl (RdE 7) 5 N p.s1.1 p.s1.2 x.args
 body:Sl (RdS 7 f) 6 N p.s2.1 p.s2.2 x.body
 other:Sl (RdS 7 f) 6 N p.s3.1 p.s3.2 x.other
theorem slS_mv {H N:View} {f c:Nat} {a:Option Addr} {l:List TStmt} (h:Sl (RdS 7 f) 6 H a c l) (hv:VLe H N):Sl (RdS 7 f) 6 N a c l:=h.imp fun b o y hy=>RdS_mono hv (Nat.le_refl _) (Nat.le_refl _) b o y hy
theorem SlS.mv {f:Nat} {H N:View} {x:TStmt} {p:SAt} (h:SlS f H x p) (hv:VLe H N):SlS f N x p:=⟨slE_mv h.args hv,slS_mv h.body hv,slS_mv h.other hv⟩
def SXs (J:View) (f:Nat) (es:List SX):Prop:=∀e ∈ es,SlS f J e.1 e.2
theorem SXs.nil (J:View) (f:Nat):SXs J f []:=by intro e h; simp at h
theorem SXs.snoc {J J1 J2:View} {f:Nat} {es:List SX} {e:SX} (h:SXs J f es) (h1:VLe J J2) (h2:VLe J1 J2) (he:SlS f J1 e.1 e.2):SXs J2 f (es++[e]):=by
 intro x hx
 rcases List.mem_append.1 hx with hx | hx
 · exact (h x hx).mv h1
 · rw [List.mem_singleton] at hx
   subst hx
   exact he.mv h2
theorem slS_of {H J N:View} {f c:Nat} {a:Option Addr} {es:List SX} (h:Sl rdSX 6 H a c es) (hv:VLe H N) (hJ:VLe J N) (hes:SXs J f es):Sl (RdS 7 (f+1)) 6 N a c (es.map (·.1)):=by
 refine ⟨by simpa using h.cap,h.max,h.spot,fun i x hx=>?_⟩
 rw [List.getElem?_map] at hx
 obtain ⟨e,he,rfl⟩:=Option.map_eq_some_iff.1 hx
 obtain ⟨b,o,h1,h2⟩:=h.elt i e he
 have h3:=(hes e (List.mem_of_getElem? he)).mv hJ
 exact ⟨b,o,h1,e.2.s1.1,e.2.s1.2,e.2.s2.1,e.2.s2.2,e.2.s3.1,e.2.s3.2,RdC.mono hv h2,h3.args,h3.body,h3.other⟩
structure GS where
 es:List SX
 a:Option Addr
 c:Nat
 J:View
 r:Option Addr×Nat
 q:Tk
def GlassB (HT:View) (f:Nat):Prop:=∀(gb:Nat) (r:Option Addr×Nat) (l:Tk) (d:Nat) (w:World),f+d=7→TOk l→Sl rdTok 3 HT r.1 r.2 l→Ws w (List.flatMap Asr.ids (glassL gb r l)) (glassL gb r l) [HT] w→
 Calls Tryz.prog 73 #[.pointer (some ⟨gb,0,none⟩),.int .i64 (d:Int)] w fun e w'=>(∃(x:List TStmt) (s:Option Addr×Nat) (r2:Option Addr×Nat) (q:Tk),e = .returned (.slice s.1 x.length s.2)∧blockP f l=some (x,q)∧Sl (RdS 7 f) 6 (nv w w') s.1 s.2 x∧Sl rdTok 3 HT r2.1 r2.2 q∧Ws w (List.flatMap Asr.ids (glassL gb r l)) (glassL gb r2 q) [HT] w')∨(∃(r2:Option Addr×Nat) (q:Tk),e = .panicked brk∧blockP f l=none∧Ws w (List.flatMap Asr.ids (glassL gb r l)) (glassL gb r2 q) [HT] w')
theorem tBlock {l r:Tk} {f:Nat} {x:List TStmt} (h:TOk l) (e:blockP f l=some (x,r)):TOk r:=tEats h (blockP_eats f l x r h.all e)
theorem tStmt {l r:Tk} {f:Nat} {x:TStmt} (h:TOk l) (e:stmtP (blockP f) l=some (x,r)):TOk r:=tEats h (stmtP_eats (blockP_eats f) h.all e)
theorem tArgs {l r:Tk} {xs:List TExpr} (h:TOk l) (e:argsP (exprP 6) l=some (xs,r)):TOk r:=by
 unfold argsP at e
 cases hd:hasT [41] l with
 | some q=>
   rw [hd] at e
   simp only [Option.some.injEq,Prod.mk.injEq] at e
   obtain ⟨_,rfl⟩:=e
   exact tHas h hd
 | none=>
   rw [hd] at e
   exact tEats h (argsL_eats (exprP_eats 6) _ _ _ _ h.all e)
theorem must2s {v w:Tx} {l q:Tk} (h:mustT [v,w] l=some q):∃q1,hasT v l=some q1∧hasT w q1=some q:=by rw [must2] at h; exact Option.bind_eq_some_iff.1 h
theorem must2n {v w:Tx} {l:Tk} (h:mustT [v,w] l=none):hasT v l=none∨∃q1,hasT v l=some q1∧hasT w q1=none:=by
 rw [must2] at h
 cases hv:hasT v l with
 | none=>exact .inl rfl
 | some q1=>rw [hv] at h; exact .inr ⟨q1,rfl,h⟩
theorem stmtsL_end {ps:Tk→Option (TStmt×Tk)} {n:Nat} {l q:Tk} (h:hasT [125] l=some q):stmtsL ps (n+1) l=some ([],q):=by rw [stmtsL,h]
theorem stmtsL_more {ps:Tk→Option (TStmt×Tk)} {n:Nat} {l q:Tk} {x:TStmt} (h:hasT [125] l=none) (h1:ps l=some (x,q)):stmtsL ps (n+1) l=(stmtsL ps n q).map fun p=>(x::p.1,p.2):=by rw [stmtsL,h]; simp only; rw [h1]; rfl
theorem stmtsL_bad {ps:Tk→Option (TStmt×Tk)} {n:Nat} {l:Tk} (h:hasT [125] l=none) (h1:ps l=none):stmtsL ps (n+1) l=none:=by rw [stmtsL,h]; simp only; rw [h1]; rfl
theorem en73:Enters Tryz.prog 73:=enters_of Tryz.func73 (by kernel_rfl) rfl
theorem sz25:sizeP Tryz.prog 25=some 1:=by kernel_rfl
theorem sz9:sizeP Tryz.prog 9=some 1:=by kernel_rfl
theorem en91:Enters Tryz.prog 91:=enters_of Tryz.func91 (by kernel_rfl) rfl
theorem el25:EltOk Tryz.prog 25 118 (.agg #[.int .i64 0,st [],st [],.slice none 0 0,.slice none 0 0,.slice none 0 0]) 6 112:=eltOk_of (by kernel_rfl)
theorem gstmt_any (gb:Nat) (HT:View) (r:Option Addr×Nat) (l:Tk) (f d:Nat) (w:World) (hB:GlassB HT f) (hfd:f+(d+1)=7) (hok:TOk l) (hm:Sl rdTok 3 HT r.1 r.2 l) (hw:Ws w (List.flatMap Asr.ids (glassL gb r l)) (glassL gb r l) [HT] w) :
   Calls Tryz.prog 91 #[.pointer (some ⟨gb,0,none⟩),.int .i64 (d:Int)] w fun e w'=>(∃(x:TStmt) (p:SAt) (r2:Option Addr×Nat) (q:Tk),e = .returned (.agg #[.int .i64 (x).op,st (x).mod,st (x).nm,.slice (p).s1.1 (x).args.length (p).s1.2,.slice (p).s2.1 (x).body.length (p).s2.2,.slice (p).s3.1 (x).other.length (p).s3.2])∧stmtP (blockP f) l=some (x,q)∧SlS f (nv w w') x p∧Sl rdTok 3 HT r2.1 r2.2 q∧Ws w (List.flatMap Asr.ids (glassL gb r l)) (glassL gb r2 q) [HT] w')∨(∃(r2:Option Addr×Nat) (q:Tk),e = .panicked brk∧stmtP (blockP f) l=none∧Ws w (List.flatMap Asr.ids (glassL gb r l)) (glassL gb r2 q) [HT] w'):=by
 refine enter Tryz.func91 rfl 104 rfl rfl ?_
 refine CWd (W':=Ws w (List.flatMap Asr.ids (glassL gb r l)) (glassL gb r l) [HT]) (fun _ e=>by subst e; exact hw) ?_
 refine Cs (Cr ?_)
 refine WL.alloc (.inl rfl) rfl zr118 fun b4=>?_
 refine Lrb 0 (.cells (stmtV (TStmt.mk 0 [] [] [] [] []) none 0 none 0 none 0).toArray 118 (0,0)) rfl rfl ?_
 refine Ln (Et (Cs (Cr ?_)))
 refine WL.alloc (.inl rfl) rfl zr118 fun b5=>?_
 refine Lrb 0 (.cells (stmtV (TStmt.mk 0 [] [] [] [] []) none 0 none 0 none 0).toArray 118 (0,0)) rfl rfl ?_
 refine Ln (Et (Cs (Cb (Cs (Cr ?_)))))
 refine V0 (Ym rfl) ?_
 refine Lf 2 rfl ?_
 refine Lw (ι:=Bool×(Option Addr×Nat)×Tk) [_] _ (.inl rfl) rfl en70 rfl rfl (fun i=>.bool i.1) (fun i=>glassL gb i.2.1 i.2.2) (fun i=>(i.1=true→hasT [105,102] l=some i.2.2)∧(i.1=false→hasT [105,102] l=none∧l=i.2.2)∧Sl rdTok 3 HT i.2.1.1 i.2.1.2 i.2.2) [HT] (by simp) (fun w hw=>has_any gb HT r l [105,102] w hm hw) ?_
 intro ⟨b45,r45,q45⟩ ⟨h45t,h45f,hm45⟩
 refine V0 (Ya rfl) ?_
 refine Ln (Et ?_)
 refine Cc rfl (fun hc0=>?_) (fun hc0=>?_)
 ·
  have hq45:=h45t hc0
  have ok45:=tHas hok hq45
  refine Cs (Cr ?_)
  refine V0 (Ym rfl) ?_
  refine Lf 0 rfl ?_
  refine Lwy (ι:=(TExpr×(Option Addr×Nat))×(Option Addr×Nat)×Tk) (κ:=(Option Addr×Nat)×Tk) [_] _ (.inl rfl) rfl en107 rfl rfl (fun i=>.agg #[.int .i64 (i.1.1).op,.int .i64 (i.1.1).n,st (i.1.1).mod,st (i.1.1).nm,.slice i.1.2.1 (i.1.1).args.length i.1.2.2]) (fun i=>glassL gb i.2.1 i.2.2) (fun F i=>exprP 6 q45=some (i.1.1,i.2.2)∧Sl (RdE 6) 5 F i.1.2.1 i.1.2.2 i.1.1.args∧Sl rdTok 3 HT i.2.1.1 i.2.1.2 i.2.2) (fun _=>brk) (fun i=>glassL gb i.1 i.2) (fun _=>exprP 6 q45=none) ([HT]) (by simp) (fun _ _ h=>h) (fun w hw=>((fun gb r l d w h1 h2 h3 h4=>gexpr_any HT 6 gb r l d w h1 h2 h3 h4) gb r45 q45 1 w rfl ok45 hm45 hw).mono fun e w' h=>by
      rcases h with ⟨x,s,r2,q,h1,h2,h3,h4,h5⟩ | ⟨r2,q,h1,h2,h3⟩
      · exact .inl ⟨((x,s),r2,q),h1,⟨h2,h3,h4⟩,h5⟩
      · exact .inr ⟨(r2,q),h1,h2,h3⟩) ?_ ?_
  ·
   intro ⟨rp,qp⟩ hp
   refine Ep ?_
   refine WE.block_panic ?_
   refine Ep ?_
   refine Epp fun w' hw=>?_
   exact .inr ⟨rp,qp,rfl,by simp only [stmtP,simpleP,w_if,w_else,w_while,w_return,w_out,hq45,hp,Option.bind_some,Option.map_some,Option.bind_none,Option.map_none],(by have h:=hw; have h:=Ws.keep (L:=[_]) h; exact h)⟩
  intro F47 ⟨⟨x47,s47⟩,r47,q47⟩ hf47 ⟨hq47,hx47,hm47⟩
  have ok47:TOk q47:=tExpr ok45 hq47
  have le47:q47.length+1≤List.length (q45):=expr_len ok45 hq47
  refine Lb (.inl rfl) rfl el114 rfl rfl rfl rfl fun b48=>?_
  refine LN (rd:=rdXE) (f:=XE.cells) (m:=1) 0 [(x47,s47.1,s47.2)] rfl rfl (fun k hk=>by simp [glassL,blk] at hk; subst hk; simp [outOf,glassL,blk,osl]) XE.cells_len (fun _ _ _ _ h=>h) (show 1≤1 by decide) (by decide) fun H48 fH48 hH48=>?_
  refine V0 (Yf fo118_0 rfl) ?_
  refine Lst 1 (.inl rfl) rfl rfl rfl sz3 rfl rfl rfl ?_
  refine V0 (Yf fo118_3 rfl) ?_
  refine Lst 1 (.inl rfl) rfl rfl rfl sz114 rfl rfl rfl ?_
  refine Ln (Et (Cs (Cr ?_)))
  refine V0 (Ym rfl) ?_
  refine V0 (Ym rfl) ?_
  refine V0 (Yi rfl rfl rfl (by omega)) ?_
  refine Lf 0 rfl ?_
  refine Lwy (ι:=((List TStmt)×(Option Addr×Nat))×(Option Addr×Nat)×Tk) (κ:=(Option Addr×Nat)×Tk) [_] _ (.inl rfl) rfl en73 rfl rfl (fun i=>.slice i.1.2.1 i.1.1.length i.1.2.2) (fun i=>glassL gb i.2.1 i.2.2) (fun F i=>blockP f q47=some (i.1.1,i.2.2)∧Sl (RdS 7 f) 6 F i.1.2.1 i.1.2.2 i.1.1∧Sl rdTok 3 HT i.2.1.1 i.2.1.2 i.2.2) (fun _=>brk) (fun i=>glassL gb i.1 i.2) (fun _=>blockP f q47=none) ([HT]) (by simp) (fun _ _ h=>h) (fun w hw=>(hB gb r47 q47 (d+1) w (by omega) ok47 hm47 hw).mono fun e w' h=>by
      rcases h with ⟨x,s,r2,q,h1,h2,h3,h4,h5⟩ | ⟨r2,q,h1,h2,h3⟩
      · exact .inl ⟨((x,s),r2,q),h1,⟨h2,h3,h4⟩,h5⟩
      · exact .inr ⟨(r2,q),h1,h2,h3⟩) ?_ ?_
  ·
   intro ⟨rp,qp⟩ hp
   refine Ep ?_
   refine WE.block_panic ?_
   refine Ep ?_
   refine Epp fun w' hw=>?_
   exact .inr ⟨rp,qp,rfl,by simp only [stmtP,simpleP,w_if,w_else,w_while,w_return,w_out,hq45,hq47,hp,Option.bind_some,Option.map_some,Option.bind_none,Option.map_none],(by have h:=hw; have h:=Ws.keep (L:=[_]) h; have h:=Ws.drops h (Vs':=[HT]) (by simp); exact h)⟩
  intro F54 ⟨⟨b_54,s54⟩,r54,q54⟩ hf54 ⟨hq54,hx54,hm54⟩
  have ok54:TOk q54:=tBlock ok47 hq54
  refine V0 (Yf fo118_4 rfl) ?_
  refine Lst 1 (.inl rfl) rfl rfl rfl sz25 rfl rfl rfl ?_
  refine Ln (Et (Cs (Cs (Cr ?_))))
  refine V0 (Ym rfl) ?_
  refine Lf 0 rfl ?_
  refine Lw (ι:=Bool×(Option Addr×Nat)×Tk) [_] _ (.inl rfl) rfl en70 rfl rfl (fun i=>.bool i.1) (fun i=>glassL gb i.2.1 i.2.2) (fun i=>(i.1=true→hasT [101,108,115,101] q54=some i.2.2)∧(i.1=false→hasT [101,108,115,101] q54=none∧q54=i.2.2)∧Sl rdTok 3 HT i.2.1.1 i.2.1.2 i.2.2) [HT] (by simp) (fun w hw=>has_any gb HT r54 q54 [101,108,115,101] w hm54 hw) ?_
  intro ⟨b57,r57,q57⟩ ⟨h57t,h57f,hm57⟩
  refine Ln (Et ?_)
  refine Cc rfl (fun hc1=>?_) (fun hc1=>?_)
  ·
   have hq57:=h57t hc1
   have ok57:=tHas ok54 hq57
   refine Cs (Cr ?_)
   refine V0 (Ym rfl) ?_
   refine V0 (Ym rfl) ?_
   refine V0 (Yi rfl rfl rfl (by omega)) ?_
   refine Lf 0 rfl ?_
   refine Lwy (ι:=((List TStmt)×(Option Addr×Nat))×(Option Addr×Nat)×Tk) (κ:=(Option Addr×Nat)×Tk) [_] _ (.inl rfl) rfl en73 rfl rfl (fun i=>.slice i.1.2.1 i.1.1.length i.1.2.2) (fun i=>glassL gb i.2.1 i.2.2) (fun F i=>blockP f q57=some (i.1.1,i.2.2)∧Sl (RdS 7 f) 6 F i.1.2.1 i.1.2.2 i.1.1∧Sl rdTok 3 HT i.2.1.1 i.2.1.2 i.2.2) (fun _=>brk) (fun i=>glassL gb i.1 i.2) (fun _=>blockP f q57=none) ([HT]) (by simp) (fun _ _ h=>h) (fun w hw=>(hB gb r57 q57 (d+1) w (by omega) ok57 hm57 hw).mono fun e w' h=>by
       rcases h with ⟨x,s,r2,q,h1,h2,h3,h4,h5⟩ | ⟨r2,q,h1,h2,h3⟩
       · exact .inl ⟨((x,s),r2,q),h1,⟨h2,h3,h4⟩,h5⟩
       · exact .inr ⟨(r2,q),h1,h2,h3⟩) ?_ ?_
   ·
    intro ⟨rp,qp⟩ hp
    refine Ep ?_
    refine Ep ?_
    refine WE.block_panic ?_
    refine Ep ?_
    refine Epp fun w' hw=>?_
    exact .inr ⟨rp,qp,rfl,by simp only [stmtP,simpleP,w_if,w_else,w_while,w_return,w_out,hq45,hq47,hq54,hq57,hp,Option.bind_some,Option.map_some,Option.bind_none,Option.map_none],(by have h:=hw; have h:=Ws.keep (L:=[_]) h; have h:=Ws.drops h (Vs':=[HT]) (by simp); exact h)⟩
   intro F61 ⟨⟨b_61,s61⟩,r61,q61⟩ hf61 ⟨hq61,hx61,hm61⟩
   have ok61:TOk q61:=tBlock ok57 hq61
   refine V0 (Yf fo118_5 rfl) ?_
   refine Lst 1 (.inl rfl) rfl rfl rfl sz25 rfl rfl rfl ?_
   refine Ln (Et (Cs (Cr ?_)))
   refine V0 (Yf fo118_5 rfl) ?_
   refine V0 (Yd 1 rfl rfl rfl na25) ?_
   refine V0 (Yn es25 rfl) ?_
   refine V0 (yl_eq rfl rfl) ?_
   refine Ln (Et ?_)
   refine Cc rfl (fun hc2=>?_) (fun hc2=>?_)
   ·
    have hz:b_61.length=0:=by simpa using hc2
    refine Cr ?_
    refine V0 (Yb zr126 pl126 rfl rfl) ?_
    refine V0 (yl_mki co126 rfl) ?_
    refine WL.panic (.inl rfl) rfl ?_
    refine Ep ?_
    refine WE.block_panic ?_
    refine Ep ?_
    refine Epp fun w' hw=>?_
    exact .inr ⟨r61,q61,rfl,by simp only [stmtP,simpleP,w_if,w_else,w_while,w_return,w_out,hq45,hq47,hq54,hq57,hq61,Option.bind_some,Option.map_some,Option.bind_none,Option.map_none,if_pos hz],(by have h:=hw; have h:=Ws.keep (L:=[_]) h; have h:=Ws.drops h (Vs':=[HT]) (by simp); exact h)⟩
   ·
    have hz:¬b_61.length=0:=by simpa using hc2
    refine Ck (Et (Cs (Cr ?_)))
    refine V0 (Yda 1 rfl rfl ag118 rfl) ?_
    refine Lst 2 (.inl rfl) rfl rfl rfl sz118 rfl rfl rfl ?_
    refine Ln (Et (Crt (Ebr (Er ?_))))
    refine WE.retR (rs_1 rfl (rv_agg 2 rfl rfl ag118 rfl)) fun w' hw=>?_
    exact .inl ⟨TStmt.mk 4 [] [] [x47] b_54 b_61,⟨(some ⟨b48,0,none⟩,1),s54,s61⟩,r61,q61,rfl,by simp only [stmtP,simpleP,w_if,w_else,w_while,w_return,w_out,hq45,hq47,hq54,hq57,hq61,Option.bind_some,Option.map_some,Option.bind_none,Option.map_none,if_neg hz],⟨(slE_of hH48 (nv_vs hw (by simp) fH48) (nv_vs hw (by simp) hf47) ((XEs.nil F47 6).snoc (VLe.refl _) (VLe.refl _) hx47)),(slS_mv hx54 (nv_vs hw (by simp) hf54)),(slS_mv hx61 (nv_vs hw (by simp) hf61))⟩,hm61,Ws.drops (Ws.keep (L:=[_]) hw) (fun _ hm=>List.mem_append_right [_,_,_,_] hm)⟩
  ·
   obtain ⟨hn57,hl57⟩:=h57f hc1
   subst hl57
   refine Ck (Et (Cs (Cr ?_)))
   refine V0 (Yda 1 rfl rfl ag118 rfl) ?_
   refine Lst 2 (.inl rfl) rfl rfl rfl sz118 rfl rfl rfl ?_
   refine Ln (Et (Crt (Ebr (Er ?_))))
   refine WE.retR (rs_1 rfl (rv_agg 2 rfl rfl ag118 rfl)) fun w' hw=>?_
   exact .inl ⟨TStmt.mk 4 [] [] [x47] b_54 [],⟨(some ⟨b48,0,none⟩,1),s54,((none,0):Option Addr×Nat)⟩,r57,q54,rfl,by simp only [stmtP,simpleP,w_if,w_else,w_while,w_return,w_out,hq45,hq47,hq54,hn57,Option.bind_some,Option.map_some,Option.bind_none,Option.map_none],⟨(slE_of hH48 (nv_vs hw (by simp) fH48) (nv_vs hw (by simp) hf47) ((XEs.nil F47 6).snoc (VLe.refl _) (VLe.refl _) hx47)),(slS_mv hx54 (nv_vs hw (by simp) hf54)),Sl.nil⟩,hm57,Ws.drops (Ws.keep (L:=[_]) hw) (fun _ hm=>List.mem_append_right [_,_,_] hm)⟩
 ·
  obtain ⟨hn45,hl45⟩:=h45f hc0
  subst hl45
  refine Cs (Cr ?_)
  refine V0 (Ym rfl) ?_
  refine Lf 0 rfl ?_
  refine Lw (ι:=Bool×(Option Addr×Nat)×Tk) [_] _ (.inl rfl) rfl en70 rfl rfl (fun i=>.bool i.1) (fun i=>glassL gb i.2.1 i.2.2) (fun i=>(i.1=true→hasT [119,104,105,108,101] l=some i.2.2)∧(i.1=false→hasT [119,104,105,108,101] l=none∧l=i.2.2)∧Sl rdTok 3 HT i.2.1.1 i.2.1.2 i.2.2) [HT] (by simp) (fun w hw=>has_any gb HT r45 l [119,104,105,108,101] w hm45 hw) ?_
  intro ⟨b72,r72,q72⟩ ⟨h72t,h72f,hm72⟩
  refine V0 (Ya rfl) ?_
  refine Ln (Et ?_)
  refine Cc rfl (fun hc3=>?_) (fun hc3=>?_)
  ·
   have hq72:=h72t hc3
   have ok72:=tHas hok hq72
   refine Cs (Cr ?_)
   refine V0 (Ym rfl) ?_
   refine Lf 0 rfl ?_
   refine Lwy (ι:=(TExpr×(Option Addr×Nat))×(Option Addr×Nat)×Tk) (κ:=(Option Addr×Nat)×Tk) [_] _ (.inl rfl) rfl en107 rfl rfl (fun i=>.agg #[.int .i64 (i.1.1).op,.int .i64 (i.1.1).n,st (i.1.1).mod,st (i.1.1).nm,.slice i.1.2.1 (i.1.1).args.length i.1.2.2]) (fun i=>glassL gb i.2.1 i.2.2) (fun F i=>exprP 6 q72=some (i.1.1,i.2.2)∧Sl (RdE 6) 5 F i.1.2.1 i.1.2.2 i.1.1.args∧Sl rdTok 3 HT i.2.1.1 i.2.1.2 i.2.2) (fun _=>brk) (fun i=>glassL gb i.1 i.2) (fun _=>exprP 6 q72=none) ([HT]) (by simp) (fun _ _ h=>h) (fun w hw=>((fun gb r l d w h1 h2 h3 h4=>gexpr_any HT 6 gb r l d w h1 h2 h3 h4) gb r72 q72 1 w rfl ok72 hm72 hw).mono fun e w' h=>by
       rcases h with ⟨x,s,r2,q,h1,h2,h3,h4,h5⟩ | ⟨r2,q,h1,h2,h3⟩
       · exact .inl ⟨((x,s),r2,q),h1,⟨h2,h3,h4⟩,h5⟩
       · exact .inr ⟨(r2,q),h1,h2,h3⟩) ?_ ?_
   ·
    intro ⟨rp,qp⟩ hp
    refine Ep ?_
    refine WE.block_panic ?_
    refine Ep ?_
    refine Epp fun w' hw=>?_
    exact .inr ⟨rp,qp,rfl,by simp only [stmtP,simpleP,w_if,w_else,w_while,w_return,w_out,hn45,hq72,hp,Option.bind_some,Option.map_some,Option.bind_none,Option.map_none],(by have h:=hw; have h:=Ws.keep (L:=[_]) h; exact h)⟩
   intro F74 ⟨⟨x74,s74⟩,r74,q74⟩ hf74 ⟨hq74,hx74,hm74⟩
   have ok74:TOk q74:=tExpr ok72 hq74
   have le74:q74.length+1≤List.length (q72):=expr_len ok72 hq74
   refine Lb (.inl rfl) rfl el114 rfl rfl rfl rfl fun b75=>?_
   refine LN (rd:=rdXE) (f:=XE.cells) (m:=1) 0 [(x74,s74.1,s74.2)] rfl rfl (fun k hk=>by simp [glassL,blk] at hk; subst hk; simp [outOf,glassL,blk,osl]) XE.cells_len (fun _ _ _ _ h=>h) (show 1≤1 by decide) (by decide) fun H75 fH75 hH75=>?_
   refine V0 (Yf fo118_0 rfl) ?_
   refine Lst 1 (.inl rfl) rfl rfl rfl sz3 rfl rfl rfl ?_
   refine V0 (Yf fo118_3 rfl) ?_
   refine Lst 1 (.inl rfl) rfl rfl rfl sz114 rfl rfl rfl ?_
   refine Ln (Et (Cs (Cr ?_)))
   refine V0 (Ym rfl) ?_
   refine V0 (Ym rfl) ?_
   refine V0 (Yi rfl rfl rfl (by omega)) ?_
   refine Lf 0 rfl ?_
   refine Lwy (ι:=((List TStmt)×(Option Addr×Nat))×(Option Addr×Nat)×Tk) (κ:=(Option Addr×Nat)×Tk) [_] _ (.inl rfl) rfl en73 rfl rfl (fun i=>.slice i.1.2.1 i.1.1.length i.1.2.2) (fun i=>glassL gb i.2.1 i.2.2) (fun F i=>blockP f q74=some (i.1.1,i.2.2)∧Sl (RdS 7 f) 6 F i.1.2.1 i.1.2.2 i.1.1∧Sl rdTok 3 HT i.2.1.1 i.2.1.2 i.2.2) (fun _=>brk) (fun i=>glassL gb i.1 i.2) (fun _=>blockP f q74=none) ([HT]) (by simp) (fun _ _ h=>h) (fun w hw=>(hB gb r74 q74 (d+1) w (by omega) ok74 hm74 hw).mono fun e w' h=>by
       rcases h with ⟨x,s,r2,q,h1,h2,h3,h4,h5⟩ | ⟨r2,q,h1,h2,h3⟩
       · exact .inl ⟨((x,s),r2,q),h1,⟨h2,h3,h4⟩,h5⟩
       · exact .inr ⟨(r2,q),h1,h2,h3⟩) ?_ ?_
   ·
    intro ⟨rp,qp⟩ hp
    refine Ep ?_
    refine WE.block_panic ?_
    refine Ep ?_
    refine Epp fun w' hw=>?_
    exact .inr ⟨rp,qp,rfl,by simp only [stmtP,simpleP,w_if,w_else,w_while,w_return,w_out,hn45,hq72,hq74,hp,Option.bind_some,Option.map_some,Option.bind_none,Option.map_none],(by have h:=hw; have h:=Ws.keep (L:=[_]) h; have h:=Ws.drops h (Vs':=[HT]) (by simp); exact h)⟩
   intro F81 ⟨⟨b_81,s81⟩,r81,q81⟩ hf81 ⟨hq81,hx81,hm81⟩
   have ok81:TOk q81:=tBlock ok74 hq81
   refine V0 (Yf fo118_4 rfl) ?_
   refine Lst 1 (.inl rfl) rfl rfl rfl sz25 rfl rfl rfl ?_
   refine Ln (Et (Cs (Cr ?_)))
   refine V0 (Yda 1 rfl rfl ag118 rfl) ?_
   refine Lst 2 (.inl rfl) rfl rfl rfl sz118 rfl rfl rfl ?_
   refine Ln (Et (Crt (Ebr (Er ?_))))
   refine WE.retR (rs_1 rfl (rv_agg 2 rfl rfl ag118 rfl)) fun w' hw=>?_
   exact .inl ⟨TStmt.mk 5 [] [] [x74] b_81 [],⟨(some ⟨b75,0,none⟩,1),s81,((none,0):Option Addr×Nat)⟩,r81,q81,rfl,by simp only [stmtP,simpleP,w_if,w_else,w_while,w_return,w_out,hn45,hq72,hq74,hq81,Option.bind_some,Option.map_some,Option.bind_none,Option.map_none],⟨(slE_of hH75 (nv_vs hw (by simp) fH75) (nv_vs hw (by simp) hf74) ((XEs.nil F74 6).snoc (VLe.refl _) (VLe.refl _) hx74)),(slS_mv hx81 (nv_vs hw (by simp) hf81)),Sl.nil⟩,hm81,Ws.drops (Ws.keep (L:=[_]) hw) (fun _ hm=>List.mem_append_right [_,_,_] hm)⟩
  ·
   obtain ⟨hn72,hl72⟩:=h72f hc3
   subst hl72
   refine Cs (Cr ?_)
   refine V0 (Ym rfl) ?_
   refine Lf 0 rfl ?_
   refine Lw (ι:=Bool×(Option Addr×Nat)×Tk) [_] _ (.inl rfl) rfl en70 rfl rfl (fun i=>.bool i.1) (fun i=>glassL gb i.2.1 i.2.2) (fun i=>(i.1=true→hasT [114,101,116,117,114,110] l=some i.2.2)∧(i.1=false→hasT [114,101,116,117,114,110] l=none∧l=i.2.2)∧Sl rdTok 3 HT i.2.1.1 i.2.1.2 i.2.2) [HT] (by simp) (fun w hw=>has_any gb HT r72 l [114,101,116,117,114,110] w hm72 hw) ?_
   intro ⟨b86,r86,q86⟩ ⟨h86t,h86f,hm86⟩
   refine V0 (Ya rfl) ?_
   refine Ln (Et ?_)
   refine Cc rfl (fun hc4=>?_) (fun hc4=>?_)
   ·
    have hq86:=h86t hc4
    have ok86:=tHas hok hq86
    refine Cr ?_
    refine V0 (Ym rfl) ?_
    refine Lf 0 rfl ?_
    refine Lwy (ι:=(TExpr×(Option Addr×Nat))×(Option Addr×Nat)×Tk) (κ:=(Option Addr×Nat)×Tk) [_] _ (.inl rfl) rfl en107 rfl rfl (fun i=>.agg #[.int .i64 (i.1.1).op,.int .i64 (i.1.1).n,st (i.1.1).mod,st (i.1.1).nm,.slice i.1.2.1 (i.1.1).args.length i.1.2.2]) (fun i=>glassL gb i.2.1 i.2.2) (fun F i=>exprP 6 q86=some (i.1.1,i.2.2)∧Sl (RdE 6) 5 F i.1.2.1 i.1.2.2 i.1.1.args∧Sl rdTok 3 HT i.2.1.1 i.2.1.2 i.2.2) (fun _=>brk) (fun i=>glassL gb i.1 i.2) (fun _=>exprP 6 q86=none) ([HT]) (by simp) (fun _ _ h=>h) (fun w hw=>((fun gb r l d w h1 h2 h3 h4=>gexpr_any HT 6 gb r l d w h1 h2 h3 h4) gb r86 q86 1 w rfl ok86 hm86 hw).mono fun e w' h=>by
        rcases h with ⟨x,s,r2,q,h1,h2,h3,h4,h5⟩ | ⟨r2,q,h1,h2,h3⟩
        · exact .inl ⟨((x,s),r2,q),h1,⟨h2,h3,h4⟩,h5⟩
        · exact .inr ⟨(r2,q),h1,h2,h3⟩) ?_ ?_
    ·
     intro ⟨rp,qp⟩ hp
     refine WE.block_panic ?_
     refine Ep ?_
     refine Epp fun w' hw=>?_
     exact .inr ⟨rp,qp,rfl,by simp only [stmtP,simpleP,w_if,w_else,w_while,w_return,w_out,hn45,hn72,hq86,hp,Option.bind_some,Option.map_some,Option.bind_none,Option.map_none],(by have h:=hw; have h:=Ws.keep (L:=[_]) h; exact h)⟩
    intro F88 ⟨⟨x88,s88⟩,r88,q88⟩ hf88 ⟨hq88,hx88,hm88⟩
    have ok88:TOk q88:=tExpr ok86 hq88
    have le88:q88.length+1≤List.length (q86):=expr_len ok86 hq88
    refine Lb (.inl rfl) rfl el114 rfl rfl rfl rfl fun b89=>?_
    refine LN (rd:=rdXE) (f:=XE.cells) (m:=1) 0 [(x88,s88.1,s88.2)] rfl rfl (fun k hk=>by simp [glassL,blk] at hk; subst hk; simp [outOf,glassL,blk,osl]) XE.cells_len (fun _ _ _ _ h=>h) (show 1≤1 by decide) (by decide) fun H89 fH89 hH89=>?_
    refine V0 (Yf fo118_0 rfl) ?_
    refine Lst 1 (.inl rfl) rfl rfl rfl sz3 rfl rfl rfl ?_
    refine V0 (Yf fo118_3 rfl) ?_
    refine Lst 1 (.inl rfl) rfl rfl rfl sz114 rfl rfl rfl ?_
    refine Ln (Eb (Et (Cs (Cr ?_))))
    refine V0 (Ym rfl) ?_
    refine Lb (.inl rfl) rfl el22 rfl rfl rfl rfl fun b101=>?_
    refine Lsv (T:=9) (m:=1) 0 [[59]] rfl rfl (show 1≤1 by decide) (by decide) fun H101 hH101=>?_
    refine Lf 0 rfl ?_
    refine Lwx (ι:=(Option Addr×Nat)×Tk) (κ:=(Option Addr×Nat)×Tk) [_] _ (.inl rfl) rfl en68 rfl rfl (fun _=>.tuple #[]) (fun i=>glassL gb i.1 i.2) (fun i=>mustT [[59]] q88=some i.2∧Sl rdTok 3 HT i.1.1 i.1.2 i.2) (fun _=>brk) (fun i=>glassL gb i.1 i.2) (fun _=>mustT [[59]] q88=none) ([HT,H101]) (by simp) (fun w hw=>(must_any gb HT r88 q88 H101 _ _ [[59]] w hH101 hm88 hw).mono fun e w' h=>by
        rcases h with ⟨r2,q,h1,h2,h3,h4⟩ | ⟨r2,q,h1,h2,h3⟩
        · exact .inl ⟨(r2,q),h1,⟨h2,h3⟩,h4⟩
        · exact .inr ⟨(r2,q),h1,h2,h3⟩) ?_ ?_
    ·
     intro ⟨rp,qp⟩ hp
     rw [must1] at hp
     refine Ep ?_
     refine Epp fun w' hw=>?_
     exact .inr ⟨rp,qp,rfl,by simp only [stmtP,simpleP,w_if,w_else,w_while,w_return,w_out,hn45,hn72,hq86,hq88,hp,Option.bind_some,Option.map_some,Option.bind_none,Option.map_none],(by have h:=hw; have h:=Ws.keep (L:=[_]) h; have h:=Ws.drops h (Vs':=[HT]) (by simp); exact h)⟩
    intro ⟨r102,q102⟩ ⟨hq102,hm102⟩
    have ok102:=tMust ok88 hq102
    rw [must1] at hq102
    refine Ln (Et (Cs (Cr ?_)))
    refine V0 (Yda 1 rfl rfl ag118 rfl) ?_
    refine Lst 2 (.inl rfl) rfl rfl rfl sz118 rfl rfl rfl ?_
    refine Ln (Et (Crt ?_))
    refine WE.retR (rs_1 rfl (rv_agg 2 rfl rfl ag118 rfl)) fun w' hw=>?_
    exact .inl ⟨TStmt.mk 6 [] [] [x88] [] [],⟨(some ⟨b89,0,none⟩,1),((none,0):Option Addr×Nat),((none,0):Option Addr×Nat)⟩,r102,q102,rfl,by simp only [stmtP,simpleP,w_if,w_else,w_while,w_return,w_out,hn45,hn72,hq86,hq88,hq102,Option.bind_some,Option.map_some,Option.bind_none,Option.map_none],⟨(slE_of hH89 (nv_vs hw (by simp) fH89) (nv_vs hw (by simp) hf88) ((XEs.nil F88 6).snoc (VLe.refl _) (VLe.refl _) hx88)),Sl.nil,Sl.nil⟩,hm102,Ws.drops (Ws.keep (L:=[_]) hw) (fun _ hm=>List.mem_append_right [_,_,_] hm)⟩
   ·
    obtain ⟨hn86,hl86⟩:=h86f hc4
    subst hl86
    refine Cs (Cr ?_)
    refine V0 (Ym rfl) ?_
    refine Lf 0 rfl ?_
    refine Lw (ι:=Bool×(Option Addr×Nat)×Tk) [_] _ (.inl rfl) rfl en70 rfl rfl (fun i=>.bool i.1) (fun i=>glassL gb i.2.1 i.2.2) (fun i=>(i.1=true→hasT [111,117,116] l=some i.2.2)∧(i.1=false→hasT [111,117,116] l=none∧l=i.2.2)∧Sl rdTok 3 HT i.2.1.1 i.2.1.2 i.2.2) [HT] (by simp) (fun w hw=>has_any gb HT r86 l [111,117,116] w hm86 hw) ?_
    intro ⟨b94,r94,q94⟩ ⟨h94t,h94f,hm94⟩
    refine V0 (Ya rfl) ?_
    refine Ln (Et ?_)
    refine Cc rfl (fun hc5=>?_) (fun hc5=>?_)
    ·
     have hq94:=h94t hc5
     have ok94:=tHas hok hq94
     refine Cr ?_
     refine V0 (Ym rfl) ?_
     refine Lf 0 rfl ?_
     refine Lwy (ι:=(TExpr×(Option Addr×Nat))×(Option Addr×Nat)×Tk) (κ:=(Option Addr×Nat)×Tk) [_] _ (.inl rfl) rfl en107 rfl rfl (fun i=>.agg #[.int .i64 (i.1.1).op,.int .i64 (i.1.1).n,st (i.1.1).mod,st (i.1.1).nm,.slice i.1.2.1 (i.1.1).args.length i.1.2.2]) (fun i=>glassL gb i.2.1 i.2.2) (fun F i=>exprP 6 q94=some (i.1.1,i.2.2)∧Sl (RdE 6) 5 F i.1.2.1 i.1.2.2 i.1.1.args∧Sl rdTok 3 HT i.2.1.1 i.2.1.2 i.2.2) (fun _=>brk) (fun i=>glassL gb i.1 i.2) (fun _=>exprP 6 q94=none) ([HT]) (by simp) (fun _ _ h=>h) (fun w hw=>((fun gb r l d w h1 h2 h3 h4=>gexpr_any HT 6 gb r l d w h1 h2 h3 h4) gb r94 q94 1 w rfl ok94 hm94 hw).mono fun e w' h=>by
         rcases h with ⟨x,s,r2,q,h1,h2,h3,h4,h5⟩ | ⟨r2,q,h1,h2,h3⟩
         · exact .inl ⟨((x,s),r2,q),h1,⟨h2,h3,h4⟩,h5⟩
         · exact .inr ⟨(r2,q),h1,h2,h3⟩) ?_ ?_
     ·
      intro ⟨rp,qp⟩ hp
      refine WE.block_panic ?_
      refine Ep ?_
      refine Epp fun w' hw=>?_
      exact .inr ⟨rp,qp,rfl,by simp only [stmtP,simpleP,w_if,w_else,w_while,w_return,w_out,hn45,hn72,hn86,hq94,hp,Option.bind_some,Option.map_some,Option.bind_none,Option.map_none],(by have h:=hw; have h:=Ws.keep (L:=[_]) h; exact h)⟩
     intro F96 ⟨⟨x96,s96⟩,r96,q96⟩ hf96 ⟨hq96,hx96,hm96⟩
     have ok96:TOk q96:=tExpr ok94 hq96
     have le96:q96.length+1≤List.length (q94):=expr_len ok94 hq96
     refine Lb (.inl rfl) rfl el114 rfl rfl rfl rfl fun b97=>?_
     refine LN (rd:=rdXE) (f:=XE.cells) (m:=1) 0 [(x96,s96.1,s96.2)] rfl rfl (fun k hk=>by simp [glassL,blk] at hk; subst hk; simp [outOf,glassL,blk,osl]) XE.cells_len (fun _ _ _ _ h=>h) (show 1≤1 by decide) (by decide) fun H97 fH97 hH97=>?_
     refine V0 (Yf fo118_0 rfl) ?_
     refine Lst 1 (.inl rfl) rfl rfl rfl sz3 rfl rfl rfl ?_
     refine V0 (Yf fo118_3 rfl) ?_
     refine Lst 1 (.inl rfl) rfl rfl rfl sz114 rfl rfl rfl ?_
     refine Ln (Eb (Et (Cs (Cr ?_))))
     refine V0 (Ym rfl) ?_
     refine Lb (.inl rfl) rfl el22 rfl rfl rfl rfl fun b101=>?_
     refine Lsv (T:=9) (m:=1) 0 [[59]] rfl rfl (show 1≤1 by decide) (by decide) fun H101 hH101=>?_
     refine Lf 0 rfl ?_
     refine Lwx (ι:=(Option Addr×Nat)×Tk) (κ:=(Option Addr×Nat)×Tk) [_] _ (.inl rfl) rfl en68 rfl rfl (fun _=>.tuple #[]) (fun i=>glassL gb i.1 i.2) (fun i=>mustT [[59]] q96=some i.2∧Sl rdTok 3 HT i.1.1 i.1.2 i.2) (fun _=>brk) (fun i=>glassL gb i.1 i.2) (fun _=>mustT [[59]] q96=none) ([HT,H101]) (by simp) (fun w hw=>(must_any gb HT r96 q96 H101 _ _ [[59]] w hH101 hm96 hw).mono fun e w' h=>by
         rcases h with ⟨r2,q,h1,h2,h3,h4⟩ | ⟨r2,q,h1,h2,h3⟩
         · exact .inl ⟨(r2,q),h1,⟨h2,h3⟩,h4⟩
         · exact .inr ⟨(r2,q),h1,h2,h3⟩) ?_ ?_
     ·
      intro ⟨rp,qp⟩ hp
      rw [must1] at hp
      refine Ep ?_
      refine Epp fun w' hw=>?_
      exact .inr ⟨rp,qp,rfl,by simp only [stmtP,simpleP,w_if,w_else,w_while,w_return,w_out,hn45,hn72,hn86,hq94,hq96,hp,Option.bind_some,Option.map_some,Option.bind_none,Option.map_none],(by have h:=hw; have h:=Ws.keep (L:=[_]) h; have h:=Ws.drops h (Vs':=[HT]) (by simp); exact h)⟩
     intro ⟨r102,q102⟩ ⟨hq102,hm102⟩
     have ok102:=tMust ok96 hq102
     rw [must1] at hq102
     refine Ln (Et (Cs (Cr ?_)))
     refine V0 (Yda 1 rfl rfl ag118 rfl) ?_
     refine Lst 2 (.inl rfl) rfl rfl rfl sz118 rfl rfl rfl ?_
     refine Ln (Et (Crt ?_))
     refine WE.retR (rs_1 rfl (rv_agg 2 rfl rfl ag118 rfl)) fun w' hw=>?_
     exact .inl ⟨TStmt.mk 7 [] [] [x96] [] [],⟨(some ⟨b97,0,none⟩,1),((none,0):Option Addr×Nat),((none,0):Option Addr×Nat)⟩,r102,q102,rfl,by simp only [stmtP,simpleP,w_if,w_else,w_while,w_return,w_out,hn45,hn72,hn86,hq94,hq96,hq102,Option.bind_some,Option.map_some,Option.bind_none,Option.map_none],⟨(slE_of hH97 (nv_vs hw (by simp) fH97) (nv_vs hw (by simp) hf96) ((XEs.nil F96 6).snoc (VLe.refl _) (VLe.refl _) hx96)),Sl.nil,Sl.nil⟩,hm102,Ws.drops (Ws.keep (L:=[_]) hw) (fun _ hm=>List.mem_append_right [_,_,_] hm)⟩
    ·
     obtain ⟨hn94,hl94⟩:=h94f hc5
     subst hl94
     refine Cs (Cr ?_)
     refine V0 (Ym rfl) ?_
     refine Lf 0 rfl ?_
     refine Lwx (ι:=(Tx×Tx)×(Option Addr×Nat)×Tk) (κ:=(Option Addr×Nat)×Tk) [_] _ (.inl rfl) rfl en108 rfl rfl (fun i=>.tuple #[st i.1.1,st i.1.2]) (fun i=>glassL gb i.2.1 i.2.2) (fun i=>refP l=some (i.1,i.2.2)∧Sl rdTok 3 HT i.2.1.1 i.2.1.2 i.2.2) (fun _=>brk) (fun i=>glassL gb i.1 i.2) (fun _=>refP l=none) ([HT]) (by simp) (fun w hw=>(gref_any gb HT r94 l w hok hm94 hw).mono fun e w' h=>by
         rcases h with ⟨t,r2,q,h1,h2,h3,h4⟩ | ⟨r2,q,h1,h2,h3⟩
         · exact .inl ⟨(t,r2,q),h1,⟨h2,h3⟩,h4⟩
         · exact .inr ⟨(r2,q),h1,h2,h3⟩) ?_ ?_
     ·
      intro ⟨rp,qp⟩ hp
      refine Ep ?_
      refine WE.block_panic ?_
      refine Ep ?_
      refine Epp fun w' hw=>?_
      exact .inr ⟨rp,qp,rfl,by simp only [stmtP,simpleP,w_if,w_else,w_while,w_return,w_out,hn45,hn72,hn86,hn94,hp,Option.bind_some,Option.map_some,Option.bind_none,Option.map_none],(by have h:=hw; have h:=Ws.keep (L:=[_]) h; exact h)⟩
     intro ⟨p9,r9,q9⟩ ⟨hq9,hm9⟩
     have ok9:=tRef hok hq9
     refine V0 (Ym rfl) ?_
     refine V0 (Yx rfl rfl) ?_
     refine V0 (Yx rfl rfl) ?_
     refine V0 (Yf fo118_1 rfl) ?_
     refine Lst 1 (.inl rfl) rfl rfl rfl sz9 rfl rfl rfl ?_
     refine V0 (Yf fo118_2 rfl) ?_
     refine Lst 1 (.inl rfl) rfl rfl rfl sz9 rfl rfl rfl ?_
     refine Ln (Et (Cb (Cs (Cr ?_))))
     refine V0 (Ym rfl) ?_
     refine Lf 0 rfl ?_
     refine Lw (ι:=Bool×(Option Addr×Nat)×Tk) [_] _ (.inl rfl) rfl en70 rfl rfl (fun i=>.bool i.1) (fun i=>glassL gb i.2.1 i.2.2) (fun i=>(i.1=true→hasT [40] q9=some i.2.2)∧(i.1=false→hasT [40] q9=none∧q9=i.2.2)∧Sl rdTok 3 HT i.2.1.1 i.2.1.2 i.2.2) [HT] (by simp) (fun w hw=>has_any gb HT r9 q9 [40] w hm9 hw) ?_
     intro ⟨b24,r24,q24⟩ ⟨h24t,h24f,hm24⟩
     refine V0 (Ya rfl) ?_
     refine Ln (Et ?_)
     refine Cc rfl (fun hc6=>?_) (fun hc6=>?_)
     ·
      have hq24:=h24t hc6
      have ok24:=tHas ok9 hq24
      refine Cr ?_
      refine V0 (Ym rfl) ?_
      refine Lf 0 rfl ?_
      refine Lwy (ι:=((List TExpr)×(Option Addr×Nat))×(Option Addr×Nat)×Tk) (κ:=(Option Addr×Nat)×Tk) [_] _ (.inl rfl) rfl en109 rfl rfl (fun i=>.slice i.1.2.1 i.1.1.length i.1.2.2) (fun i=>glassL gb i.2.1 i.2.2) (fun F i=>argsP (exprP 6) q24=some (i.1.1,i.2.2)∧Sl (RdE (6+1)) 5 F i.1.2.1 i.1.2.2 i.1.1∧Sl rdTok 3 HT i.2.1.1 i.2.1.2 i.2.2) (fun _=>brk) (fun i=>glassL gb i.1 i.2) (fun _=>argsP (exprP 6) q24=none) ([HT]) (by simp) (fun _ _ h=>h) (fun w hw=>(gargs_any gb HT r24 q24 6 (1) w (fun gb r l d w h1 h2 h3 h4=>gexpr_any HT 6 gb r l d w h1 h2 h3 h4) (by omega) ok24 hm24 hw).mono fun e w' h=>by
          rcases h with ⟨x,s,r2,q,h1,h2,h3,h4,h5⟩ | ⟨r2,q,h1,h2,h3⟩
          · exact .inl ⟨((x,s),r2,q),h1,⟨h2,h3,h4⟩,h5⟩
          · exact .inr ⟨(r2,q),h1,h2,h3⟩) ?_ ?_
      ·
       intro ⟨rp,qp⟩ hp
       refine WE.block_panic ?_
       refine WE.block_panic ?_
       refine Ep ?_
       refine Epp fun w' hw=>?_
       exact .inr ⟨rp,qp,rfl,by simp only [stmtP,simpleP,w_if,w_else,w_while,w_return,w_out,hn45,hn72,hn86,hn94,hq9,hq24,hp,Option.bind_some,Option.map_some,Option.bind_none,Option.map_none],(by have h:=hw; have h:=Ws.keep (L:=[_]) h; exact h)⟩
      intro F26 ⟨⟨xs26,s26⟩,r26,q26⟩ hf26 ⟨hq26,hx26,hm26⟩
      have ok26:TOk q26:=tArgs ok24 hq26
      refine V0 (Yf fo118_0 rfl) ?_
      refine Lst 1 (.inl rfl) rfl rfl rfl sz3 rfl rfl rfl ?_
      refine V0 (Yf fo118_3 rfl) ?_
      refine Lst 1 (.inl rfl) rfl rfl rfl sz114 rfl rfl rfl ?_
      refine Ln (Eb (Eb (Et (Cs (Cr ?_)))))
      refine V0 (Ym rfl) ?_
      refine Lb (.inl rfl) rfl el22 rfl rfl rfl rfl fun b101=>?_
      refine Lsv (T:=9) (m:=1) 0 [[59]] rfl rfl (show 1≤1 by decide) (by decide) fun H101 hH101=>?_
      refine Lf 0 rfl ?_
      refine Lwx (ι:=(Option Addr×Nat)×Tk) (κ:=(Option Addr×Nat)×Tk) [_] _ (.inl rfl) rfl en68 rfl rfl (fun _=>.tuple #[]) (fun i=>glassL gb i.1 i.2) (fun i=>mustT [[59]] q26=some i.2∧Sl rdTok 3 HT i.1.1 i.1.2 i.2) (fun _=>brk) (fun i=>glassL gb i.1 i.2) (fun _=>mustT [[59]] q26=none) ([HT,H101]) (by simp) (fun w hw=>(must_any gb HT r26 q26 H101 _ _ [[59]] w hH101 hm26 hw).mono fun e w' h=>by
          rcases h with ⟨r2,q,h1,h2,h3,h4⟩ | ⟨r2,q,h1,h2,h3⟩
          · exact .inl ⟨(r2,q),h1,⟨h2,h3⟩,h4⟩
          · exact .inr ⟨(r2,q),h1,h2,h3⟩) ?_ ?_
      ·
       intro ⟨rp,qp⟩ hp
       rw [must1] at hp
       refine Ep ?_
       refine Epp fun w' hw=>?_
       exact .inr ⟨rp,qp,rfl,by simp only [stmtP,simpleP,w_if,w_else,w_while,w_return,w_out,hn45,hn72,hn86,hn94,hq9,hq24,hq26,hp,Option.bind_some,Option.map_some,Option.bind_none,Option.map_none],(by have h:=hw; have h:=Ws.keep (L:=[_]) h; have h:=Ws.drops h (Vs':=[HT]) (by simp); exact h)⟩
      intro ⟨r102,q102⟩ ⟨hq102,hm102⟩
      have ok102:=tMust ok26 hq102
      rw [must1] at hq102
      refine Ln (Et (Cs (Cr ?_)))
      refine V0 (Yda 1 rfl rfl ag118 rfl) ?_
      refine Lst 2 (.inl rfl) rfl rfl rfl sz118 rfl rfl rfl ?_
      refine Ln (Et (Crt ?_))
      refine WE.retR (rs_1 rfl (rv_agg 2 rfl rfl ag118 rfl)) fun w' hw=>?_
      exact .inl ⟨TStmt.mk 3 p9.1 p9.2 xs26 [] [],⟨s26,((none,0):Option Addr×Nat),((none,0):Option Addr×Nat)⟩,r102,q102,rfl,by simp only [stmtP,simpleP,w_if,w_else,w_while,w_return,w_out,hn45,hn72,hn86,hn94,hq9,hq24,hq26,hq102,Option.bind_some,Option.map_some,Option.bind_none,Option.map_none],⟨(slE_mv hx26 (nv_vs hw (by simp) hf26)),Sl.nil,Sl.nil⟩,hm102,Ws.drops (Ws.keep (L:=[_]) hw) (fun _ hm=>List.mem_append_right [_,_] hm)⟩
     ·
      obtain ⟨hn24,hl24⟩:=h24f hc6
      subst hl24
      refine Cs (Cr ?_)
      refine V0 (Ym rfl) ?_
      refine Lf 0 rfl ?_
      refine Lw (ι:=Bool×(Option Addr×Nat)×Tk) [_] _ (.inl rfl) rfl en70 rfl rfl (fun i=>.bool i.1) (fun i=>glassL gb i.2.1 i.2.2) (fun i=>(i.1=true→hasT [91] q9=some i.2.2)∧(i.1=false→hasT [91] q9=none∧q9=i.2.2)∧Sl rdTok 3 HT i.2.1.1 i.2.1.2 i.2.2) [HT] (by simp) (fun w hw=>has_any gb HT r24 q9 [91] w hm24 hw) ?_
      intro ⟨b31,r31,q31⟩ ⟨h31t,h31f,hm31⟩
      refine V0 (Ya rfl) ?_
      refine Ln (Et ?_)
      refine Cc rfl (fun hc7=>?_) (fun hc7=>?_)
      ·
       have hq31:=h31t hc7
       have ok31:=tHas ok9 hq31
       refine Cs (Cr ?_)
       refine V0 (Ym rfl) ?_
       refine Lf 0 rfl ?_
       refine Lwy (ι:=(TExpr×(Option Addr×Nat))×(Option Addr×Nat)×Tk) (κ:=(Option Addr×Nat)×Tk) [_] _ (.inl rfl) rfl en107 rfl rfl (fun i=>.agg #[.int .i64 (i.1.1).op,.int .i64 (i.1.1).n,st (i.1.1).mod,st (i.1.1).nm,.slice i.1.2.1 (i.1.1).args.length i.1.2.2]) (fun i=>glassL gb i.2.1 i.2.2) (fun F i=>exprP 6 q31=some (i.1.1,i.2.2)∧Sl (RdE 6) 5 F i.1.2.1 i.1.2.2 i.1.1.args∧Sl rdTok 3 HT i.2.1.1 i.2.1.2 i.2.2) (fun _=>brk) (fun i=>glassL gb i.1 i.2) (fun _=>exprP 6 q31=none) ([HT]) (by simp) (fun _ _ h=>h) (fun w hw=>((fun gb r l d w h1 h2 h3 h4=>gexpr_any HT 6 gb r l d w h1 h2 h3 h4) gb r31 q31 1 w rfl ok31 hm31 hw).mono fun e w' h=>by
           rcases h with ⟨x,s,r2,q,h1,h2,h3,h4,h5⟩ | ⟨r2,q,h1,h2,h3⟩
           · exact .inl ⟨((x,s),r2,q),h1,⟨h2,h3,h4⟩,h5⟩
           · exact .inr ⟨(r2,q),h1,h2,h3⟩) ?_ ?_
       ·
        intro ⟨rp,qp⟩ hp
        refine Ep ?_
        refine WE.block_panic ?_
        refine WE.block_panic ?_
        refine Ep ?_
        refine Epp fun w' hw=>?_
        exact .inr ⟨rp,qp,rfl,by simp only [stmtP,simpleP,w_if,w_else,w_while,w_return,w_out,hn45,hn72,hn86,hn94,hq9,hn24,hq31,hp,Option.bind_some,Option.map_some,Option.bind_none,Option.map_none],(by have h:=hw; have h:=Ws.keep (L:=[_]) h; exact h)⟩
       intro F33 ⟨⟨x33,s33⟩,r33,q33⟩ hf33 ⟨hq33,hx33,hm33⟩
       have ok33:TOk q33:=tExpr ok31 hq33
       have le33:q33.length+1≤List.length (q31):=expr_len ok31 hq33
       refine WL.alloc (.inl rfl) rfl zr116 fun b6=>?_
       refine Lst 0 (.inl rfl) rfl rfl rfl sz116 rfl rfl rfl ?_
       refine Ln (Et (Cs (Cr ?_)))
       refine V0 (Ym rfl) ?_
       refine Lb (.inl rfl) rfl el22 rfl rfl rfl rfl fun b35=>?_
       refine Lsv (T:=9) (m:=2) 0 [[93],[61]] rfl rfl (show 2≤2 by decide) (by decide) fun H35 hH35=>?_
       refine Lf 1 rfl ?_
       refine Lwx (ι:=(Option Addr×Nat)×Tk) (κ:=(Option Addr×Nat)×Tk) [_] _ (.inl rfl) rfl en68 rfl rfl (fun _=>.tuple #[]) (fun i=>glassL gb i.1 i.2) (fun i=>mustT [[93],[61]] q33=some i.2∧Sl rdTok 3 HT i.1.1 i.1.2 i.2) (fun _=>brk) (fun i=>glassL gb i.1 i.2) (fun _=>mustT [[93],[61]] q33=none) ([HT,H35]) (by simp) (fun w hw=>(must_any gb HT r33 q33 H35 _ _ [[93],[61]] w hH35 hm33 hw).mono fun e w' h=>by
           rcases h with ⟨r2,q,h1,h2,h3,h4⟩ | ⟨r2,q,h1,h2,h3⟩
           · exact .inl ⟨(r2,q),h1,⟨h2,h3⟩,h4⟩
           · exact .inr ⟨(r2,q),h1,h2,h3⟩) ?_ ?_
       ·
        intro ⟨rp,qp⟩ hp
        refine Ep ?_
        refine WE.block_panic ?_
        refine WE.block_panic ?_
        refine Ep ?_
        refine Epp fun w' hw=>?_
        rcases must2n hp with hp | ⟨q36m,hp1,hp⟩
        · exact .inr ⟨rp,qp,rfl,by simp only [stmtP,simpleP,w_if,w_else,w_while,w_return,w_out,hn45,hn72,hn86,hn94,hq9,hn24,hq31,hq33,hp,Option.bind_some,Option.map_some,Option.bind_none,Option.map_none],(by have h:=hw; have h:=Ws.keep (L:=[_]) h; have h:=Ws.drops h (Vs':=[HT]) (by simp); exact h)⟩
        · exact .inr ⟨rp,qp,rfl,by simp only [stmtP,simpleP,w_if,w_else,w_while,w_return,w_out,hn45,hn72,hn86,hn94,hq9,hn24,hq31,hq33,hp1,hp,Option.bind_some,Option.map_some,Option.bind_none,Option.map_none],(by have h:=hw; have h:=Ws.keep (L:=[_]) h; have h:=Ws.drops h (Vs':=[HT]) (by simp); exact h)⟩
       intro ⟨r36,q36⟩ ⟨hq36,hm36⟩
       have ok36:=tMust ok33 hq36
       refine Ln (Et ?_)
       refine CU (fun _=>true) [2,0] [7] (.q true 0 (.q false 1 (.q false 4 (.e 2 (.e 3 (.e 5 (.q false 6 .nil) .stop) (.e 5 (.e 3 (.q false 6 .nil) .stop) .stop)) .stop)))) mixed (by kernel_rfl) (fun _ _ _ d _ _ h=>by cases d<;>exact h) ?_
       refine Uq rfl (.inl rfl) rfl (fun _ h=>by have h:=Ws.out 2 h; have h:=Ws.out 0 h; exact h) (Yda 0 rfl rfl ag116 rfl) ?_
       refine Uq rfl (.inl rfl) rfl (fun _ h=>by have h:=Ws.out 2 h; have h:=Ws.out 0 h; exact h) (Ym rfl) ?_
       refine Uq rfl (.inl rfl) rfl (fun _ h=>by have h:=Ws.out 2 h; have h:=Ws.out 0 h; exact h) (Yf fo118_0 rfl) ?_
       refine Ue rfl (fun _ h=>by have h:=Ws.out 2 h; have h:=Ws.out 0 h; exact h) ?_ WU.stop
       refine Lf 0 rfl ?_
       refine Lwy (ι:=(TExpr×(Option Addr×Nat))×(Option Addr×Nat)×Tk) (κ:=(Option Addr×Nat)×Tk) [_] _ (.inl rfl) rfl en107 rfl rfl (fun i=>.agg #[.int .i64 (i.1.1).op,.int .i64 (i.1.1).n,st (i.1.1).mod,st (i.1.1).nm,.slice i.1.2.1 (i.1.1).args.length i.1.2.2]) (fun i=>glassL gb i.2.1 i.2.2) (fun F i=>exprP 6 q36=some (i.1.1,i.2.2)∧Sl (RdE 6) 5 F i.1.2.1 i.1.2.2 i.1.1.args∧Sl rdTok 3 HT i.2.1.1 i.2.1.2 i.2.2) (fun _=>brk) (fun i=>glassL gb i.1 i.2) (fun _=>exprP 6 q36=none) ([HT]) (by simp) (fun _ _ h=>h) (fun w hw=>((fun gb r l d w h1 h2 h3 h4=>gexpr_any HT 6 gb r l d w h1 h2 h3 h4) gb r36 q36 1 w rfl ok36 hm36 hw).mono fun e w' h=>by
           rcases h with ⟨x,s,r2,q,h1,h2,h3,h4,h5⟩ | ⟨r2,q,h1,h2,h3⟩
           · exact .inl ⟨((x,s),r2,q),h1,⟨h2,h3,h4⟩,h5⟩
           · exact .inr ⟨(r2,q),h1,h2,h3⟩) ?_ ?_
       ·
        intro ⟨rp,qp⟩ hp
        refine Ep ?_
        refine WE.block_panic ?_
        refine WE.block_panic ?_
        refine Ep ?_
        refine Epp fun w' hw=>?_
        obtain ⟨q36m,hq36a,hq36b⟩:=must2s hq36
        exact .inr ⟨rp,qp,rfl,by simp only [stmtP,simpleP,w_if,w_else,w_while,w_return,w_out,hn45,hn72,hn86,hn94,hq9,hn24,hq31,hq33,hq36a,hq36b,hp,Option.bind_some,Option.map_some,Option.bind_none,Option.map_none],(by have h:=hw; have h:=Ws.keep (L:=[_]) h; have h:=Ws.drops h (Vs':=[HT]) (by simp); exact h)⟩
       intro F39 ⟨⟨x39,s39⟩,r39,q39⟩ hf39 ⟨hq39,hx39,hm39⟩
       have ok39:TOk q39:=tExpr ok36 hq39
       have le39:q39.length+1≤List.length (q36):=expr_len ok36 hq39
       refine Ln (Eu ?_)
       refine Ue rfl (fun _ h=>by have h:=Ws.out 2 h; have h:=Ws.out 0 h; have h:=Ws.drops h (fun _ hm=>List.mem_append_right [_] hm); exact h) ?_ ?_
       ·
        refine Lb (.inl rfl) rfl el114 rfl rfl rfl rfl fun b40=>?_
        refine LN (rd:=rdXE) (f:=XE.cells) (m:=2) 0 [(x33,s33.1,s33.2),(x39,s39.1,s39.2)] rfl rfl (fun k hk=>by simp [glassL,blk] at hk; subst hk; simp [outOf,glassL,blk,osl]) XE.cells_len (fun _ _ _ _ h=>h) (show 2≤2 by decide) (by decide) fun H40 fH40 hH40=>?_
        refine Ln (Eu ?_)
        refine Ue rfl (fun _ h=>by have h:=Ws.out 2 h; have h:=Ws.out 0 h; have h:=Ws.drops h (fun _ hm=>List.mem_append_right [_,_] hm); exact h) ?_ WU.stop
        refine Lst 2 (.inl rfl) rfl rfl rfl sz3 rfl rfl rfl ?_
        refine Ln (Eu ?_)
        refine Uq rfl (.inl rfl) rfl (fun _ h=>by have h:=Ws.out 2 h; have h:=Ws.out 0 h; have h:=Ws.drops h (fun _ hm=>List.mem_append_right [_,_] hm); exact h) (Yf fo118_3 rfl) ?_
        refine WU.nil (fun _ h=>by have h:=Ws.out 2 h; have h:=Ws.out 0 h; have h:=Ws.drops h (fun _ hm=>List.mem_append_right [_,_] hm); exact h) ?_
        refine WS.e rfl ?_
        refine Lst 2 (.inl rfl) rfl rfl rfl sz114 rfl rfl rfl ?_
        refine Ln (Es ?_)
        refine WS.nil ?_
        refine Eb (Eb (Et (Cs (Cr ?_))))
        refine V0 (Ym rfl) ?_
        refine Lb (.inl rfl) rfl el22 rfl rfl rfl rfl fun b101=>?_
        refine Lsv (T:=9) (m:=1) 0 [[59]] rfl rfl (show 1≤1 by decide) (by decide) fun H101 hH101=>?_
        refine Lf 0 rfl ?_
        refine Lwx (ι:=(Option Addr×Nat)×Tk) (κ:=(Option Addr×Nat)×Tk) [_] _ (.inl rfl) rfl en68 rfl rfl (fun _=>.tuple #[]) (fun i=>glassL gb i.1 i.2) (fun i=>mustT [[59]] q39=some i.2∧Sl rdTok 3 HT i.1.1 i.1.2 i.2) (fun _=>brk) (fun i=>glassL gb i.1 i.2) (fun _=>mustT [[59]] q39=none) ([HT,H101]) (by simp) (fun w hw=>(must_any gb HT r39 q39 H101 _ _ [[59]] w hH101 hm39 hw).mono fun e w' h=>by
            rcases h with ⟨r2,q,h1,h2,h3,h4⟩ | ⟨r2,q,h1,h2,h3⟩
            · exact .inl ⟨(r2,q),h1,⟨h2,h3⟩,h4⟩
            · exact .inr ⟨(r2,q),h1,h2,h3⟩) ?_ ?_
        ·
         intro ⟨rp,qp⟩ hp
         rw [must1] at hp
         refine Ep ?_
         refine Epp fun w' hw=>?_
         obtain ⟨q36m,hq36a,hq36b⟩:=must2s hq36
         exact .inr ⟨rp,qp,rfl,by simp only [stmtP,simpleP,w_if,w_else,w_while,w_return,w_out,hn45,hn72,hn86,hn94,hq9,hn24,hq31,hq33,hq36a,hq36b,hq39,hp,Option.bind_some,Option.map_some,Option.bind_none,Option.map_none],(by have h:=hw; have h:=Ws.keep (L:=[_]) h; have h:=Ws.drops h (Vs':=[HT]) (by simp); exact h)⟩
        intro ⟨r102,q102⟩ ⟨hq102,hm102⟩
        have ok102:=tMust ok39 hq102
        rw [must1] at hq102
        refine Ln (Et (Cs (Cr ?_)))
        refine V0 (Yda 2 rfl rfl ag118 rfl) ?_
        refine Lst 3 (.inl rfl) rfl rfl rfl sz118 rfl rfl rfl ?_
        refine Ln (Et (Crt ?_))
        refine WE.retR (rs_1 rfl (rv_agg 3 rfl rfl ag118 rfl)) fun w' hw=>?_
        obtain ⟨q36m,hq36a,hq36b⟩:=must2s hq36
        exact .inl ⟨TStmt.mk 2 p9.1 p9.2 [x33,x39] [] [],⟨(some ⟨b40,0,none⟩,2),((none,0):Option Addr×Nat),((none,0):Option Addr×Nat)⟩,r102,q102,rfl,by simp only [stmtP,simpleP,w_if,w_else,w_while,w_return,w_out,hn45,hn72,hn86,hn94,hq9,hn24,hq31,hq33,hq36a,hq36b,hq39,hq102,Option.bind_some,Option.map_some,Option.bind_none,Option.map_none],⟨(slE_of hH40 (nv_vs hw (by simp) fH40) (VLe.refl _) (((XEs.nil (nv w w') 6).snoc (VLe.refl _) (nv_vs hw (by simp) hf33) hx33).snoc (VLe.refl _) (nv_vs hw (by simp) hf39) hx39)),Sl.nil,Sl.nil⟩,hm102,Ws.drops (Ws.keep (L:=[_]) hw) (fun _ hm=>List.mem_append_right [_,_,_,_,_] hm)⟩
       refine Ue rfl (fun _ h=>by have h:=Ws.out 2 h; have h:=Ws.out 0 h; have h:=Ws.drops h (fun _ hm=>List.mem_append_right [_] hm); exact h) ?_ WU.stop
       refine Lst 2 (.inl rfl) rfl rfl rfl sz3 rfl rfl rfl ?_
       refine Ln (Eu ?_)
       refine Ue rfl (fun _ h=>by have h:=Ws.out 2 h; have h:=Ws.out 0 h; have h:=Ws.drops h (fun _ hm=>List.mem_append_right [_] hm); exact h) ?_ WU.stop
       refine Lb (.inl rfl) rfl el114 rfl rfl rfl rfl fun b40=>?_
       refine LN (rd:=rdXE) (f:=XE.cells) (m:=2) 0 [(x33,s33.1,s33.2),(x39,s39.1,s39.2)] rfl rfl (fun k hk=>by simp [glassL,blk] at hk; subst hk; simp [outOf,glassL,blk,osl]) XE.cells_len (fun _ _ _ _ h=>h) (show 2≤2 by decide) (by decide) fun H40 fH40 hH40=>?_
       refine Ln (Eu ?_)
       refine Uq rfl (.inl rfl) rfl (fun _ h=>by have h:=Ws.out 2 h; have h:=Ws.out 0 h; have h:=Ws.drops h (fun _ hm=>List.mem_append_right [_,_] hm); exact h) (Yf fo118_3 rfl) ?_
       refine WU.nil (fun _ h=>by have h:=Ws.out 2 h; have h:=Ws.out 0 h; have h:=Ws.drops h (fun _ hm=>List.mem_append_right [_,_] hm); exact h) ?_
       refine WS.e rfl ?_
       refine Lst 2 (.inl rfl) rfl rfl rfl sz114 rfl rfl rfl ?_
       refine Ln (Es ?_)
       refine WS.nil ?_
       refine Eb (Eb (Et (Cs (Cr ?_))))
       refine V0 (Ym rfl) ?_
       refine Lb (.inl rfl) rfl el22 rfl rfl rfl rfl fun b101=>?_
       refine Lsv (T:=9) (m:=1) 0 [[59]] rfl rfl (show 1≤1 by decide) (by decide) fun H101 hH101=>?_
       refine Lf 0 rfl ?_
       refine Lwx (ι:=(Option Addr×Nat)×Tk) (κ:=(Option Addr×Nat)×Tk) [_] _ (.inl rfl) rfl en68 rfl rfl (fun _=>.tuple #[]) (fun i=>glassL gb i.1 i.2) (fun i=>mustT [[59]] q39=some i.2∧Sl rdTok 3 HT i.1.1 i.1.2 i.2) (fun _=>brk) (fun i=>glassL gb i.1 i.2) (fun _=>mustT [[59]] q39=none) ([HT,H101]) (by simp) (fun w hw=>(must_any gb HT r39 q39 H101 _ _ [[59]] w hH101 hm39 hw).mono fun e w' h=>by
           rcases h with ⟨r2,q,h1,h2,h3,h4⟩ | ⟨r2,q,h1,h2,h3⟩
           · exact .inl ⟨(r2,q),h1,⟨h2,h3⟩,h4⟩
           · exact .inr ⟨(r2,q),h1,h2,h3⟩) ?_ ?_
       ·
        intro ⟨rp,qp⟩ hp
        rw [must1] at hp
        refine Ep ?_
        refine Epp fun w' hw=>?_
        obtain ⟨q36m,hq36a,hq36b⟩:=must2s hq36
        exact .inr ⟨rp,qp,rfl,by simp only [stmtP,simpleP,w_if,w_else,w_while,w_return,w_out,hn45,hn72,hn86,hn94,hq9,hn24,hq31,hq33,hq36a,hq36b,hq39,hp,Option.bind_some,Option.map_some,Option.bind_none,Option.map_none],(by have h:=hw; have h:=Ws.keep (L:=[_]) h; have h:=Ws.drops h (Vs':=[HT]) (by simp); exact h)⟩
       intro ⟨r102,q102⟩ ⟨hq102,hm102⟩
       have ok102:=tMust ok39 hq102
       rw [must1] at hq102
       refine Ln (Et (Cs (Cr ?_)))
       refine V0 (Yda 2 rfl rfl ag118 rfl) ?_
       refine Lst 3 (.inl rfl) rfl rfl rfl sz118 rfl rfl rfl ?_
       refine Ln (Et (Crt ?_))
       refine WE.retR (rs_1 rfl (rv_agg 3 rfl rfl ag118 rfl)) fun w' hw=>?_
       obtain ⟨q36m,hq36a,hq36b⟩:=must2s hq36
       exact .inl ⟨TStmt.mk 2 p9.1 p9.2 [x33,x39] [] [],⟨(some ⟨b40,0,none⟩,2),((none,0):Option Addr×Nat),((none,0):Option Addr×Nat)⟩,r102,q102,rfl,by simp only [stmtP,simpleP,w_if,w_else,w_while,w_return,w_out,hn45,hn72,hn86,hn94,hq9,hn24,hq31,hq33,hq36a,hq36b,hq39,hq102,Option.bind_some,Option.map_some,Option.bind_none,Option.map_none],⟨(slE_of hH40 (nv_vs hw (by simp) fH40) (VLe.refl _) (((XEs.nil (nv w w') 6).snoc (VLe.refl _) (nv_vs hw (by simp) hf33) hx33).snoc (VLe.refl _) (nv_vs hw (by simp) hf39) hx39)),Sl.nil,Sl.nil⟩,hm102,Ws.drops (Ws.keep (L:=[_]) hw) (fun _ hm=>List.mem_append_right [_,_,_,_,_] hm)⟩
      ·
       obtain ⟨hn31,hl31⟩:=h31f hc7
       subst hl31
       refine Cs (Cr ?_)
       refine V0 (Ym rfl) ?_
       refine Lb (.inl rfl) rfl el22 rfl rfl rfl rfl fun b15=>?_
       refine Lsv (T:=9) (m:=1) 0 [[61]] rfl rfl (show 1≤1 by decide) (by decide) fun H15 hH15=>?_
       refine Lf 0 rfl ?_
       refine Lwx (ι:=(Option Addr×Nat)×Tk) (κ:=(Option Addr×Nat)×Tk) [_] _ (.inl rfl) rfl en68 rfl rfl (fun _=>.tuple #[]) (fun i=>glassL gb i.1 i.2) (fun i=>mustT [[61]] q9=some i.2∧Sl rdTok 3 HT i.1.1 i.1.2 i.2) (fun _=>brk) (fun i=>glassL gb i.1 i.2) (fun _=>mustT [[61]] q9=none) ([HT,H15]) (by simp) (fun w hw=>(must_any gb HT r31 q9 H15 _ _ [[61]] w hH15 hm31 hw).mono fun e w' h=>by
           rcases h with ⟨r2,q,h1,h2,h3,h4⟩ | ⟨r2,q,h1,h2,h3⟩
           · exact .inl ⟨(r2,q),h1,⟨h2,h3⟩,h4⟩
           · exact .inr ⟨(r2,q),h1,h2,h3⟩) ?_ ?_
       ·
        intro ⟨rp,qp⟩ hp
        rw [must1] at hp
        refine Ep ?_
        refine WE.block_panic ?_
        refine WE.block_panic ?_
        refine Ep ?_
        refine Epp fun w' hw=>?_
        exact .inr ⟨rp,qp,rfl,by simp only [stmtP,simpleP,w_if,w_else,w_while,w_return,w_out,hn45,hn72,hn86,hn94,hq9,hn24,hn31,hp,Option.bind_some,Option.map_some,Option.bind_none,Option.map_none],(by have h:=hw; have h:=Ws.keep (L:=[_]) h; have h:=Ws.drops h (Vs':=[HT]) (by simp); exact h)⟩
       intro ⟨r16,q16⟩ ⟨hq16,hm16⟩
       have ok16:=tMust ok9 hq16
       rw [must1] at hq16
       refine Ln (Et (Cr ?_))
       refine V0 (Ym rfl) ?_
       refine Lf 0 rfl ?_
       refine Lwy (ι:=(TExpr×(Option Addr×Nat))×(Option Addr×Nat)×Tk) (κ:=(Option Addr×Nat)×Tk) [_] _ (.inl rfl) rfl en107 rfl rfl (fun i=>.agg #[.int .i64 (i.1.1).op,.int .i64 (i.1.1).n,st (i.1.1).mod,st (i.1.1).nm,.slice i.1.2.1 (i.1.1).args.length i.1.2.2]) (fun i=>glassL gb i.2.1 i.2.2) (fun F i=>exprP 6 q16=some (i.1.1,i.2.2)∧Sl (RdE 6) 5 F i.1.2.1 i.1.2.2 i.1.1.args∧Sl rdTok 3 HT i.2.1.1 i.2.1.2 i.2.2) (fun _=>brk) (fun i=>glassL gb i.1 i.2) (fun _=>exprP 6 q16=none) ([HT]) (by simp) (fun _ _ h=>h) (fun w hw=>((fun gb r l d w h1 h2 h3 h4=>gexpr_any HT 6 gb r l d w h1 h2 h3 h4) gb r16 q16 1 w rfl ok16 hm16 hw).mono fun e w' h=>by
           rcases h with ⟨x,s,r2,q,h1,h2,h3,h4,h5⟩ | ⟨r2,q,h1,h2,h3⟩
           · exact .inl ⟨((x,s),r2,q),h1,⟨h2,h3,h4⟩,h5⟩
           · exact .inr ⟨(r2,q),h1,h2,h3⟩) ?_ ?_
       ·
        intro ⟨rp,qp⟩ hp
        refine WE.block_panic ?_
        refine WE.block_panic ?_
        refine Ep ?_
        refine Epp fun w' hw=>?_
        exact .inr ⟨rp,qp,rfl,by simp only [stmtP,simpleP,w_if,w_else,w_while,w_return,w_out,hn45,hn72,hn86,hn94,hq9,hn24,hn31,hq16,hp,Option.bind_some,Option.map_some,Option.bind_none,Option.map_none],(by have h:=hw; have h:=Ws.keep (L:=[_]) h; have h:=Ws.drops h (Vs':=[HT]) (by simp); exact h)⟩
       intro F18 ⟨⟨x18,s18⟩,r18,q18⟩ hf18 ⟨hq18,hx18,hm18⟩
       have ok18:TOk q18:=tExpr ok16 hq18
       have le18:q18.length+1≤List.length (q16):=expr_len ok16 hq18
       refine Lb (.inl rfl) rfl el114 rfl rfl rfl rfl fun b19=>?_
       refine LN (rd:=rdXE) (f:=XE.cells) (m:=1) 0 [(x18,s18.1,s18.2)] rfl rfl (fun k hk=>by simp [glassL,blk] at hk; subst hk; simp [outOf,glassL,blk,osl]) XE.cells_len (fun _ _ _ _ h=>h) (show 1≤1 by decide) (by decide) fun H19 fH19 hH19=>?_
       refine V0 (Yf fo118_0 rfl) ?_
       refine Lst 1 (.inl rfl) rfl rfl rfl sz3 rfl rfl rfl ?_
       refine V0 (Yf fo118_3 rfl) ?_
       refine Lst 1 (.inl rfl) rfl rfl rfl sz114 rfl rfl rfl ?_
       refine Ln (Eb (Eb (Et (Cs (Cr ?_)))))
       refine V0 (Ym rfl) ?_
       refine Lb (.inl rfl) rfl el22 rfl rfl rfl rfl fun b101=>?_
       refine Lsv (T:=9) (m:=1) 0 [[59]] rfl rfl (show 1≤1 by decide) (by decide) fun H101 hH101=>?_
       refine Lf 0 rfl ?_
       refine Lwx (ι:=(Option Addr×Nat)×Tk) (κ:=(Option Addr×Nat)×Tk) [_] _ (.inl rfl) rfl en68 rfl rfl (fun _=>.tuple #[]) (fun i=>glassL gb i.1 i.2) (fun i=>mustT [[59]] q18=some i.2∧Sl rdTok 3 HT i.1.1 i.1.2 i.2) (fun _=>brk) (fun i=>glassL gb i.1 i.2) (fun _=>mustT [[59]] q18=none) ([HT,H101]) (by simp) (fun w hw=>(must_any gb HT r18 q18 H101 _ _ [[59]] w hH101 hm18 hw).mono fun e w' h=>by
           rcases h with ⟨r2,q,h1,h2,h3,h4⟩ | ⟨r2,q,h1,h2,h3⟩
           · exact .inl ⟨(r2,q),h1,⟨h2,h3⟩,h4⟩
           · exact .inr ⟨(r2,q),h1,h2,h3⟩) ?_ ?_
       ·
        intro ⟨rp,qp⟩ hp
        rw [must1] at hp
        refine Ep ?_
        refine Epp fun w' hw=>?_
        exact .inr ⟨rp,qp,rfl,by simp only [stmtP,simpleP,w_if,w_else,w_while,w_return,w_out,hn45,hn72,hn86,hn94,hq9,hn24,hn31,hq16,hq18,hp,Option.bind_some,Option.map_some,Option.bind_none,Option.map_none],(by have h:=hw; have h:=Ws.keep (L:=[_]) h; have h:=Ws.drops h (Vs':=[HT]) (by simp); exact h)⟩
       intro ⟨r102,q102⟩ ⟨hq102,hm102⟩
       have ok102:=tMust ok18 hq102
       rw [must1] at hq102
       refine Ln (Et (Cs (Cr ?_)))
       refine V0 (Yda 1 rfl rfl ag118 rfl) ?_
       refine Lst 2 (.inl rfl) rfl rfl rfl sz118 rfl rfl rfl ?_
       refine Ln (Et (Crt ?_))
       refine WE.retR (rs_1 rfl (rv_agg 2 rfl rfl ag118 rfl)) fun w' hw=>?_
       exact .inl ⟨TStmt.mk 1 p9.1 p9.2 [x18] [] [],⟨(some ⟨b19,0,none⟩,1),((none,0):Option Addr×Nat),((none,0):Option Addr×Nat)⟩,r102,q102,rfl,by simp only [stmtP,simpleP,w_if,w_else,w_while,w_return,w_out,hn45,hn72,hn86,hn94,hq9,hn24,hn31,hq16,hq18,hq102,Option.bind_some,Option.map_some,Option.bind_none,Option.map_none],⟨(slE_of hH19 (nv_vs hw (by simp) fH19) (nv_vs hw (by simp) hf18) ((XEs.nil F18 6).snoc (VLe.refl _) (VLe.refl _) hx18)),Sl.nil,Sl.nil⟩,hm102,Ws.drops (Ws.keep (L:=[_]) hw) (fun _ hm=>List.mem_append_right [_,_,_,_] hm)⟩
theorem gblock_any (HT:View) (f:Nat) (gb:Nat) (r:Option Addr×Nat) (l:Tk) (d:Nat) (w:World) (hfd:f+d=7) (hok:TOk l) (hm:Sl rdTok 3 HT r.1 r.2 l) (hw:Ws w (List.flatMap Asr.ids (glassL gb r l)) (glassL gb r l) [HT] w) :
   Calls Tryz.prog 73 #[.pointer (some ⟨gb,0,none⟩),.int .i64 (d:Int)] w fun e w'=>(∃(x:List TStmt) (s:Option Addr×Nat) (r2:Option Addr×Nat) (q:Tk),e = .returned (.slice s.1 x.length s.2)∧blockP f l=some (x,q)∧Sl (RdS 7 f) 6 (nv w w') s.1 s.2 x∧Sl rdTok 3 HT r2.1 r2.2 q∧Ws w (List.flatMap Asr.ids (glassL gb r l)) (glassL gb r2 q) [HT] w')∨(∃(r2:Option Addr×Nat) (q:Tk),e = .panicked brk∧blockP f l=none∧Ws w (List.flatMap Asr.ids (glassL gb r l)) (glassL gb r2 q) [HT] w'):=by
 induction f using Nat.strongRecOn generalizing gb r l d w
 rename_i f ih
 refine enter Tryz.func73 rfl 23 rfl rfl ?_
 refine CWd (W':=Ws w (List.flatMap Asr.ids (glassL gb r l)) (glassL gb r l) [HT]) (fun _ e=>by subst e; exact hw) ?_
 refine Cs (Cr ?_)
 refine V0 (Ya rfl) ?_
 refine Ln (Et (Cs (Cs (Cr ?_))))
 refine V0 (Ym rfl) ?_
 refine V0 (yl_gt rfl rfl) ?_
 refine Ln (Et ?_)
 refine Cc rfl (fun hc0=>?_) (fun hc0=>?_)
 ·
  have hno:blockP f l=none:=by
    obtain rfl:f=0:=by simp at hc0; omega
    rfl
  refine Cr ?_
  refine V0 (Yb zr126 pl126 rfl rfl) ?_
  refine V0 (yl_mki co126 rfl) ?_
  refine WL.panic (.inl rfl) rfl ?_
  refine Ep ?_
  refine Epp fun w' hw=>?_
  exact .inr ⟨r,l,rfl,hno,(by have h:=hw; exact h)⟩
 ·
  have hd6:¬6<d:=by simp at hc0; omega
  obtain ⟨f,rfl⟩:∃k,f=k+1:=⟨f-1,by omega⟩
  have hB:GlassB HT f:=fun gb r l d w h1 h2 h3 h4=>ih f (by omega) gb r l d w h1 h2 h3 h4
  refine Ck (Et (Cs (Cr ?_)))
  refine V0 (Ym rfl) ?_
  refine Lb (.inl rfl) rfl el22 rfl rfl rfl rfl fun b11=>?_
  refine Lsv (T:=9) (m:=1) 0 [[123]] rfl rfl (show 1≤1 by decide) (by decide) fun H11 hH11=>?_
  refine Lf 0 rfl ?_
  refine Lwx (ι:=(Option Addr×Nat)×Tk) (κ:=(Option Addr×Nat)×Tk) [_] _ (.inl rfl) rfl en68 rfl rfl (fun _=>.tuple #[]) (fun i=>glassL gb i.1 i.2) (fun i=>mustT [[123]] l=some i.2∧Sl rdTok 3 HT i.1.1 i.1.2 i.2) (fun _=>brk) (fun i=>glassL gb i.1 i.2) (fun _=>mustT [[123]] l=none) ([HT,H11]) (by simp) (fun w hw=>(must_any gb HT r l H11 _ _ [[123]] w hH11 hm hw).mono fun e w' h=>by
      rcases h with ⟨r2,q,h1,h2,h3,h4⟩ | ⟨r2,q,h1,h2,h3⟩
      · exact .inl ⟨(r2,q),h1,⟨h2,h3⟩,h4⟩
      · exact .inr ⟨(r2,q),h1,h2,h3⟩) ?_ ?_
  ·
   intro ⟨rp,qp⟩ hp
   rw [must1] at hp
   refine Ep ?_
   refine Epp fun w' hw=>?_
   exact .inr ⟨rp,qp,rfl,by rw [blockP,hp]; rfl,(by have h:=hw; have h:=Ws.drops h (Vs':=[HT]) (by simp); exact h)⟩
  intro ⟨r12,q12⟩ ⟨hq12,hm12⟩
  have ok12:=tMust hok hq12
  rw [must1] at hq12
  refine Ln (Et (Cs (Cr ?_)))
  refine V0 (Ya rfl) ?_
  refine LW (fun _ h=>h.osl_nil 118 6) ?_
  refine WL.v0 ?_
  refine Ln (Et (Cs (Cb ?_)))
  refine CK (ι:=GS) (fun g=>[(5,.slice g.a g.es.length g.c)]) [(0,_),(1,_),(4,_)] (fun g=>Ws w (List.flatMap Asr.ids (glassL gb r l)) (glassL gb g.r g.q++[osT 118 6 SX.cells g.a g.c g.es]) [g.J,HT]) (fun g=>(g.es.length+g.q.length≤l.length∧TOk g.q)∧Sl rdTok 3 HT g.r.1 g.r.2 g.q∧(Fresh w g.J∧SXs g.J f g.es)∧∃n,g.q.length<n∧blockP (f+1) l=(stmtsL (stmtP (blockP f)) n g.q).map fun p=>(g.es.map (·.1)++p.1,p.2)) (fun g=>g.q.length) ⟨[],none,0,v0,r12,q12⟩ ⟨⟨by have:q12.length+1=l.length:=hasT_len hq12; simp; omega,ok12⟩,hm12,⟨v0_fresh w,SXs.nil _ _⟩,q12.length+1,by simp,by rw [blockP,hq12]; simp⟩ (sc rfl (sc rfl (sc rfl (sc rfl sn)))) (fun _ h=>by have h:=h.fronti 1 rfl; have h:=Ws.drops h (Vs':=[v0,HT]) (by simp); exact h) ?_
  intro g ⟨⟨hlen,hokg⟩,hmg,⟨hfJ,hXE⟩,hA⟩
  refine Cs (Cs (Cr ?_))
  refine V0 (Ym rfl) ?_
  refine Lf 0 rfl ?_
  refine Lw (ι:=Bool×(Option Addr×Nat)×Tk) [_] _ (.inl rfl) rfl en70 rfl rfl (fun i=>.bool i.1) (fun i=>glassL gb i.2.1 i.2.2) (fun i=>(i.1=true→hasT [125] g.q=some i.2.2)∧(i.1=false→hasT [125] g.q=none∧g.q=i.2.2)∧Sl rdTok 3 HT i.2.1.1 i.2.1.2 i.2.2) [HT] (by simp) (fun w hw=>has_any gb HT g.r g.q [125] w hmg hw) ?_
  intro ⟨b14,r14,q14⟩ ⟨h14t,h14f,hm14⟩
  refine V0 (yl_not rfl) ?_
  refine Ln (Et ?_)
  refine Cc rfl (fun hc1=>?_) (fun hc1=>?_)
  ·
   obtain ⟨hn14,hl14⟩:=h14f (by simpa using hc1)
   subst hl14
   obtain ⟨n,hn,hA⟩:=hA
   obtain ⟨n,rfl⟩:∃k,n=k+1:=⟨n-1,by omega⟩
   refine Ck (Et (Cb (Cr ?_)))
   refine V0 (Ym rfl) ?_
   refine V0 (Ym rfl) ?_
   refine V0 (Ym rfl) ?_
   refine Lf 0 rfl ?_
   refine Lwy (ι:=(TStmt×SAt)×(Option Addr×Nat)×Tk) (κ:=(Option Addr×Nat)×Tk) [_] _ (.inl rfl) rfl en91 rfl rfl (fun i=>.agg #[.int .i64 (i.1.1).op,st (i.1.1).mod,st (i.1.1).nm,.slice (i.1.2).s1.1 (i.1.1).args.length (i.1.2).s1.2,.slice (i.1.2).s2.1 (i.1.1).body.length (i.1.2).s2.2,.slice (i.1.2).s3.1 (i.1.1).other.length (i.1.2).s3.2]) (fun i=>glassL gb i.2.1 i.2.2) (fun F i=>stmtP (blockP f) g.q=some (i.1.1,i.2.2)∧SlS f F i.1.1 i.1.2∧Sl rdTok 3 HT i.2.1.1 i.2.1.2 i.2.2) (fun _=>brk) (fun i=>glassL gb i.1 i.2) (fun _=>stmtP (blockP f) g.q=none) ([HT]) (by simp) (fun _ _ h=>h) (fun w hw=>(gstmt_any gb HT r14 g.q f d w hB (by omega) hokg hm14 hw).mono fun e w' h=>by
       rcases h with ⟨x,s,r2,q,h1,h2,h3,h4,h5⟩ | ⟨r2,q,h1,h2,h3⟩
       · exact .inl ⟨((x,s),r2,q),h1,⟨h2,h3,h4⟩,h5⟩
       · exact .inr ⟨(r2,q),h1,h2,h3⟩) ?_ ?_
   ·
    intro ⟨rp,qp⟩ hp
    refine WE.block_panic ?_
    refine Ep ?_
    refine WE.block_panic ?_
    refine Ep ?_
    refine Epp fun w' hw=>?_
    exact .inr ⟨rp,qp,rfl,by rw [hA,stmtsL_bad hn14 hp]; rfl,(by have h:=hw; have h:=Ws.keep (L:=[_]) h; have h:=Ws.drops h (Vs':=[HT]) (by simp); exact h)⟩
   intro F19 ⟨⟨x19,s19⟩,r19,q19⟩ hf19 ⟨hq19,hx19,hm19⟩
   have ok19:TOk q19:=tStmt hokg hq19
   have le19:q19.length<List.length (g.q):=stmtP_short (blockP_eats f) (hokg).all hq19
   refine WL.vjoin fun J19 j19a j19b j19f=>?_
   refine Lb (.inl rfl) rfl el25 rfl rfl rfl rfl fun b20=>?_
   refine Lrb 0 (.cells (SX.cells (x19,s19)).toArray 118 (0,0)) rfl rfl ?_
   refine LA ((x19,s19):SX) 2 0 (.inl rfl) rfl el25 rfl rfl rfl rfl rfl rfl (by have:=hok.len; omega) (by have:=hok.len; omega) fun a21 c21=>?_
   refine V0 (Ya rfl) ?_
   refine Ln (Eb ?_)
   exact Ea (⟨g.es++[(x19,s19)],a21,c21,J19,r19,q19⟩:GS) (by show q19.length<g.q.length; omega) ⟨⟨by simp; omega,ok19⟩,hm19,⟨j19f _ hf19 hfJ,SXs.snoc hXE j19b j19a hx19⟩,n,(show q19.length<n by omega),by rw [hA,stmtsL_more hn14 hq19]; simp [Function.comp_def]⟩ (sc rfl (sc rfl (sc rfl (sc rfl sn)))) (fun _ h=>by
       have h:=h.fronti 2 rfl
       have h:=h.fronti 2 rfl
       have h:=Ws.keep (L:=[_,_]) h
       have h:=Ws.drops h (Vs':=[J19,HT]) (by simp)
       exact h)
  ·
   have hq14:=h14t (by simpa using hc1)
   have ok14:=tHas hokg hq14
   obtain ⟨n,hn,hA⟩:=hA
   obtain ⟨n,rfl⟩:∃k,n=k+1:=⟨n-1,by omega⟩
   refine Ce (Ex (Ex (Ebh (Et (Cs ?_)))))
   refine WC.oslN (rd:=rdSX) 1 rfl (fun k hk=>by simp [glassL,blk] at hk; subst hk; simp [outOf,glassL,blk,osl]) SX.cells_len (fun _ _ _ _ h=>h) fun K7 fK7 hK7=>?_
   refine Cr ?_
   refine V0 (Ym rfl) ?_
   refine V0 (Ya rfl) ?_
   refine Ln (Et (Crt ?_))
   refine WE.ret1 rfl rfl fun w' hw=>?_
   exact .inl ⟨g.es.map (·.1),(g.a,g.c),r14,q14,by rw [List.length_map],by rw [hA,stmtsL_end hq14]; simp,slS_of hK7 (nv_vs hw (by simp) fK7) (nv_vs hw (by simp) hfJ) hXE,hm14,(Ws.drops hw (fun _ hm=>List.mem_append_right [_,_] hm))⟩
end Go.Proofs.YtinnlppbkhhoiaaGreatDoor
end
section
namespace Go.Proofs.YtinnlppbkhhoiaaGreatDoor
open Go.Bw
set_option linter.unusedVariables false
set_option linter.unusedSimpArgs false
theorem tDecl {l r:Tk} {pub:Bool} {o:Option TDecl} (h:TOk l) (e:declP pub l=some (o,r)):TOk r:=by
 cases o with
 | none=>obtain rfl:=declP_none e; exact h
 | some d=>exact tEats h (declP_eats h.all e).1
theorem decl_len {l r:Tk} {pub:Bool} {d:TDecl} (h:TOk l) (e:declP pub l=some (some d,r)):r.length<l.length:=by
 have h1:=(declP_eats h.all e).1.2
 rw [h1]
 simp [pubD]
 omega
theorem tProc {l r:Tk} {pub:Bool} {p:TProc} (h:TOk l) (e:procP pub l=some (p,r)):TOk r:=tEats h (procP_eats h.all e).1
theorem proc_len {l r:Tk} {pub:Bool} {p:TProc} (h:TOk l) (e:procP pub l=some (p,r)):r.length<l.length:=by
 have h1:=(procP_eats h.all e).1.2
 rw [h1]
 simp [procB]
 omega
theorem nam_len {l r:Tk} {a:Tx} (h:TOk l) (e:namP l=some (a,r)):r.length<l.length:=by
 have h1:=(namP_eats h.all e).1.2
 rw [h1]
 simp
theorem pub_of {l q:Tk} {b:Bool} (ht:b=true→hasT [112,117,98] l=some q) (hf:b=false→hasT [112,117,98] l=none∧l=q):pubP l=(b,q):=by
 unfold pubP
 rw [show w_pub=[112,117,98] from rfl]
 cases b with
 | true=>rw [ht rfl]; rfl
 | false=>obtain ⟨h1,h2⟩:=hf rfl; rw [h1,h2]; rfl
theorem tPub {l q:Tk} {b:Bool} (h:TOk l) (ht:b=true→hasT [112,117,98] l=some q) (hf:b=false→hasT [112,117,98] l=none∧l=q):TOk q∧q.length≤l.length:=by
 cases b with
 | true=>exact ⟨tHas h (ht rfl),by have:=hasT_len (ht rfl); omega⟩
 | false=>obtain ⟨_,h2⟩:=hf rfl; subst h2; exact ⟨h,Nat.le_refl _⟩
theorem paramsL_end {n:Nat} {first:Bool} {l q:Tk} (h:hasT [41] l=some q):paramsL (n+1) first l=some ([],q):=by rw [paramsL,h]
theorem paramsL_1 {n:Nat} {l q:Tk} {a:Tx} (h:hasT [41] l=none) (h1:namP l=some (a,q)):paramsL (n+1) true l=(paramsL n false q).map fun p=>(a::p.1,p.2):=by rw [paramsL,h]; simp [h1]
theorem paramsL_1n {n:Nat} {l:Tk} (h:hasT [41] l=none) (h1:namP l=none):paramsL (n+1) true l=none:=by rw [paramsL,h]; simp [h1]
theorem paramsL_2 {n:Nat} {l l1 q:Tk} {a:Tx} (h:hasT [41] l=none) (h2:hasT [44] l=some l1) (h1:namP l1=some (a,q)):paramsL (n+1) false l=(paramsL n false q).map fun p=>(a::p.1,p.2):=by rw [paramsL,h]; simp [h1,h2]
theorem paramsL_2n {n:Nat} {l:Tk} (h:hasT [41] l=none) (h2:hasT [44] l=none):paramsL (n+1) false l=none:=by rw [paramsL,h]; simp [h2]
theorem paramsL_2m {n:Nat} {l l1:Tk} (h:hasT [41] l=none) (h2:hasT [44] l=some l1) (h1:namP l1=none):paramsL (n+1) false l=none:=by rw [paramsL,h]; simp [h1,h2]
def isNil (l:List Tx):Bool:=match l with | []=>true | _=>false
theorem isNil_snoc (l:List Tx) (x:Tx):isNil (l++[x])=false:=by cases l<;>rfl
theorem isNil_t {l:List Tx} (h:¬0<l.length):isNil l=true:=by cases l with | nil=>rfl | cons _ _=>exact absurd (by simp) h
theorem isNil_f {l:List Tx} (h:0<l.length):isNil l=false:=by cases l with | nil=>simp at h | cons _ _=>rfl
structure PAt where
 s1:Option Addr×Nat
 s2:Option Addr×Nat
 s3:Option Addr×Nat
abbrev PX:=TProc×PAt
def PX.cells (e:PX):List Value:=procV e.1 e.2.s1.1 e.2.s1.2 e.2.s2.1 e.2.s2.2 e.2.s3.1 e.2.s3.2
theorem PX.cells_len (e:PX):(PX.cells e).length=5:=rfl
def rdPX (H:View) (b o:Nat) (e:PX):Prop:=RdC H b o (PX.cells e)
structure SlP (N:View) (x:TProc) (p:PAt):Prop where
 params:Sl rdStr 1 N p.s1.1 p.s1.2 x.params
 locs:Sl rdStr 1 N p.s2.1 p.s2.2 x.locs
 body:Sl (RdS 7 6) 6 N p.s3.1 p.s3.2 x.body
theorem slStr_mv {H N:View} {c:Nat} {a:Option Addr} {l:List Tx} (h:Sl rdStr 1 H a c l) (hv:VLe H N):Sl rdStr 1 N a c l:=h.imp fun b o y hy=>rdStr_mono hv b o y hy
theorem slDecl_mv {H N:View} {c:Nat} {a:Option Addr} {l:List TDecl} (h:Sl rdDecl 4 H a c l) (hv:VLe H N):Sl rdDecl 4 N a c l:=h.imp fun b o y hy=>rdDecl_mono hv b o y hy
theorem SlP.mv {H N:View} {x:TProc} {p:PAt} (h:SlP H x p) (hv:VLe H N):SlP N x p:=⟨slStr_mv h.params hv,slStr_mv h.locs hv,slS_mv h.body hv⟩
def PXs (J:View) (es:List PX):Prop:=∀e ∈ es,SlP J e.1 e.2
theorem PXs.nil (J:View):PXs J []:=by intro e h; simp at h
theorem PXs.snoc {J J1 J2:View} {es:List PX} {e:PX} (h:PXs J es) (h1:VLe J J2) (h2:VLe J1 J2) (he:SlP J1 e.1 e.2):PXs J2 (es++[e]):=by
 intro x hx
 rcases List.mem_append.1 hx with hx | hx
 · exact (h x hx).mv h1
 · rw [List.mem_singleton] at hx
   subst hx
   exact he.mv h2
theorem slP_of {H J N:View} {c:Nat} {a:Option Addr} {es:List PX} (h:Sl rdPX 5 H a c es) (hv:VLe H N) (hJ:VLe J N) (hes:PXs J es):Sl (RdP 7 6) 5 N a c (es.map (·.1)):=by
 refine ⟨by simpa using h.cap,h.max,h.spot,fun i x hx=>?_⟩
 rw [List.getElem?_map] at hx
 obtain ⟨e,he,rfl⟩:=Option.map_eq_some_iff.1 hx
 obtain ⟨b,o,h1,h2⟩:=h.elt i e he
 have h3:=(hes e (List.mem_of_getElem? he)).mv hJ
 exact ⟨b,o,h1,e.2.s1.1,e.2.s1.2,e.2.s2.1,e.2.s2.2,e.2.s3.1,e.2.s3.2,RdC.mono hv h2,h3.params,h3.locs,h3.body⟩
structure GN where
 ps:List Tx
 a:Option Addr
 c:Nat
 r:Option Addr×Nat
 q:Tk
structure GD where
 ds:List TDecl
 a:Option Addr
 c:Nat
 pub:Bool
 r:Option Addr×Nat
 q:Tk
structure GM where
 ps:List PX
 a:Option Addr
 c:Nat
 J:View
 pub:Bool
 r:Option Addr×Nat
 q:Tk
theorem locsL_end {n:Nat} {l:Tk} (h:hasT [108,111,99,97,108] l=none):locsL (n+1) l=some ([],l):=by rw [locsL,show w_local=[108,111,99,97,108] from rfl,h]
theorem locsL_more {n:Nat} {l l1 q q2:Tk} {a:Tx} (h:hasT [108,111,99,97,108] l=some l1) (h1:namP l1=some (a,q)) (h2:hasT [59] q=some q2):locsL (n+1) l=(locsL n q2).map fun p=>(a::p.1,p.2):=by rw [locsL,show w_local=[108,111,99,97,108] from rfl,h]; simp [h1,h2]
theorem locsL_b1 {n:Nat} {l l1:Tk} (h:hasT [108,111,99,97,108] l=some l1) (h1:namP l1=none):locsL (n+1) l=none:=by rw [locsL,show w_local=[108,111,99,97,108] from rfl,h]; simp [h1]
theorem locsL_b2 {n:Nat} {l l1 q:Tk} {a:Tx} (h:hasT [108,111,99,97,108] l=some l1) (h1:namP l1=some (a,q)) (h2:hasT [59] q=none):locsL (n+1) l=none:=by rw [locsL,show w_local=[108,111,99,97,108] from rfl,h]; simp [h1,h2]
theorem usesL_end {n:Nat} {l:Tk} (h:hasT [117,115,101] l=none):usesL (n+1) l=some ([],l):=by rw [usesL,show w_use=[117,115,101] from rfl,h]
theorem usesL_more {n:Nat} {l l1 q q2:Tk} {a:Tx} (h:hasT [117,115,101] l=some l1) (h1:namP l1=some (a,q)) (h2:hasT [59] q=some q2):usesL (n+1) l=(usesL n q2).map fun p=>(a::p.1,p.2):=by rw [usesL,show w_use=[117,115,101] from rfl,h]; simp [h1,h2]
theorem usesL_b1 {n:Nat} {l l1:Tk} (h:hasT [117,115,101] l=some l1) (h1:namP l1=none):usesL (n+1) l=none:=by rw [usesL,show w_use=[117,115,101] from rfl,h]; simp [h1]
theorem usesL_b2 {n:Nat} {l l1 q:Tk} {a:Tx} (h:hasT [117,115,101] l=some l1) (h1:namP l1=some (a,q)) (h2:hasT [59] q=none):usesL (n+1) l=none:=by rw [usesL,show w_use=[117,115,101] from rfl,h]; simp [h1,h2]
theorem declsL_end {n:Nat} {pub:Bool} {l q:Tk} (h:declP pub l=some (none,q)):declsL (n+1) pub l=some (([],pub),q):=by rw [declsL,h]; rfl
theorem declsL_more {n:Nat} {pub b:Bool} {l q q2:Tk} {d:TDecl} (h:declP pub l=some (some d,q)) (h2:pubP q=(b,q2)):declsL (n+1) pub l=(declsL n b q2).map fun p=>((d::p.1.1,p.1.2),p.2):=by rw [declsL,h]; simp only [Option.bind_some]; rw [h2]
theorem declsL_bad {n:Nat} {pub:Bool} {l:Tk} (h:declP pub l=none):declsL (n+1) pub l=none:=by rw [declsL,h]; rfl
theorem procsL_end {n:Nat} {pub:Bool} {l:Tk} (h:hasT [112,114,111,99] l=none):procsL (n+1) pub l=some (([],pub),l):=by rw [procsL,show w_proc=[112,114,111,99] from rfl,h]
theorem procsL_more {n:Nat} {pub b:Bool} {l l1 q q2:Tk} {d:TProc} (h0:hasT [112,114,111,99] l=some l1) (h:procP pub l1=some (d,q)) (h2:pubP q=(b,q2)):procsL (n+1) pub l=(procsL n b q2).map fun p=>((d::p.1.1,p.1.2),p.2):=by rw [procsL,show w_proc=[112,114,111,99] from rfl,h0]; simp only; rw [h]; simp only [Option.bind_some]; rw [h2]
theorem procsL_bad {n:Nat} {pub:Bool} {l l1:Tk} (h0:hasT [112,114,111,99] l=some l1) (h:procP pub l1=none):procsL (n+1) pub l=none:=by rw [procsL,show w_proc=[112,114,111,99] from rfl,h0]; simp only; rw [h]; rfl
theorem pl109:placesP Tryz.prog 109=some [(0,1),(1,1),(2,1),(3,1)]:=by kernel_rfl
theorem gdecl_any (gb:Nat) (HT:View) (r:Option Addr×Nat) (l:Tk) (pub:Bool) (w:World) (hok:TOk l) (hm:Sl rdTok 3 HT r.1 r.2 l) (hw:Ws w (List.flatMap Asr.ids (glassL gb r l)) (glassL gb r l) [HT] w) :
   Calls Tryz.prog 71 #[.pointer (some ⟨gb,0,none⟩),.bool pub] w fun e w'=>(∃(o:Option TDecl) (r2:Option Addr×Nat) (q:Tk),e = .returned (.tuple #[.agg #[.int .i64 ((o).getD (⟨0,[],pub,0⟩:TDecl)).kind,st ((o).getD (⟨0,[],pub,0⟩:TDecl)).nm,.bool ((o).getD (⟨0,[],pub,0⟩:TDecl)).pub,.int .i64 ((o).getD (⟨0,[],pub,0⟩:TDecl)).n],.bool (o).isSome])∧declP pub l=some (o,q)∧Sl rdTok 3 HT r2.1 r2.2 q∧Ws w (List.flatMap Asr.ids (glassL gb r l)) (glassL gb r2 q) [HT] w')∨(∃(r2:Option Addr×Nat) (q:Tk),e = .panicked brk∧declP pub l=none∧Ws w (List.flatMap Asr.ids (glassL gb r l)) (glassL gb r2 q) [HT] w'):=by
 refine enter Tryz.func71 rfl 50 rfl rfl ?_
 refine CWd (W':=Ws w (List.flatMap Asr.ids (glassL gb r l)) (glassL gb r l) [HT]) (fun _ e=>by subst e; exact hw) ?_
 refine Cs (Cr ?_)
 refine WL.alloc (.inl rfl) rfl zr109 fun b4=>?_
 refine V0 (Ya rfl) ?_
 refine Ln (Et (Cs (Cr ?_)))
 refine V0 (Ym rfl) ?_
 refine V0 (Yb zr109 pl109 rfl rfl) ?_
 refine WL.alloc (.inl rfl) rfl zr109 fun b6=>?_
 refine Lst 0 (.inl rfl) rfl rfl rfl sz109 rfl rfl rfl ?_
 refine Ln (Et (Cs (Cb (Cs (Cr ?_)))))
 refine V0 (Ym rfl) ?_
 refine Lf 2 rfl ?_
 refine Lw (ι:=Bool×(Option Addr×Nat)×Tk) [_] _ (.inl rfl) rfl en70 rfl rfl (fun i=>.bool i.1) (fun i=>glassL gb i.2.1 i.2.2) (fun i=>(i.1=true→hasT [99,111,110,115,116] l=some i.2.2)∧(i.1=false→hasT [99,111,110,115,116] l=none∧l=i.2.2)∧Sl rdTok 3 HT i.2.1.1 i.2.1.2 i.2.2) [HT] (by simp) (fun w hw=>has_any gb HT r l [99,111,110,115,116] w hm hw) ?_
 intro ⟨b12,r12,q12⟩ ⟨h12t,h12f,hm12⟩
 refine V0 (Ya rfl) ?_
 refine Ln (Et ?_)
 refine Cc rfl (fun hc0=>?_) (fun hc0=>?_)
 ·
  have hq12:=h12t hc0
  have ok12:=tHas hok hq12
  refine Cs (Cr ?_)
  refine V0 (Ym rfl) ?_
  refine Lf 0 rfl ?_
  refine Lwx (ι:=(Tx)×(Option Addr×Nat)×Tk) (κ:=(Option Addr×Nat)×Tk) [_] _ (.inl rfl) rfl en69 rfl rfl (fun i=>st i.1) (fun i=>glassL gb i.2.1 i.2.2) (fun i=>namP q12=some (i.1,i.2.2)∧Sl rdTok 3 HT i.2.1.1 i.2.1.2 i.2.2) (fun _=>brk) (fun i=>glassL gb i.1 i.2) (fun _=>namP q12=none) ([HT]) (by simp) (fun w hw=>(gname_any gb HT r12 q12 w hm12 hw).mono fun e w' h=>by
      rcases h with ⟨t,r2,q,h1,h2,h3,h4⟩ | ⟨r2,q,h1,h2,h3⟩
      · exact .inl ⟨(t,r2,q),h1,⟨h2,h3⟩,h4⟩
      · exact .inr ⟨(r2,q),h1,h2,h3⟩) ?_ ?_
  ·
   intro ⟨rp,qp⟩ hp
   refine Ep ?_
   refine WE.block_panic ?_
   refine Ep ?_
   refine Epp fun w' hw=>?_
   exact .inr ⟨rp,qp,rfl,by simp only [declP,w_const,w_var,w_array,hq12,hp,Option.bind_some,Option.map_some,Option.bind_none,Option.map_none],(by have h:=hw; have h:=Ws.keep (L:=[_]) h; exact h)⟩
  intro ⟨s14,r14,q14⟩ ⟨hq14,hm14⟩
  have ok14:=tNam ok12 hq14
  refine V0 (Yf fo109_0 rfl) ?_
  refine Lst 1 (.inl rfl) rfl rfl rfl sz3 rfl rfl rfl ?_
  refine V0 (Yf fo109_1 rfl) ?_
  refine Lst 1 (.inl rfl) rfl rfl rfl sz9 rfl rfl rfl ?_
  refine Ln (Et (Cs (Cr ?_)))
  refine V0 (Ym rfl) ?_
  refine Lb (.inl rfl) rfl el22 rfl rfl rfl rfl fun b18=>?_
  refine Lsv (T:=9) (m:=1) 0 [[61]] rfl rfl (show 1≤1 by decide) (by decide) fun H18 hH18=>?_
  refine Lf 0 rfl ?_
  refine Lwx (ι:=(Option Addr×Nat)×Tk) (κ:=(Option Addr×Nat)×Tk) [_] _ (.inl rfl) rfl en68 rfl rfl (fun _=>.tuple #[]) (fun i=>glassL gb i.1 i.2) (fun i=>mustT [[61]] q14=some i.2∧Sl rdTok 3 HT i.1.1 i.1.2 i.2) (fun _=>brk) (fun i=>glassL gb i.1 i.2) (fun _=>mustT [[61]] q14=none) ([HT,H18]) (by simp) (fun w hw=>(must_any gb HT r14 q14 H18 _ _ [[61]] w hH18 hm14 hw).mono fun e w' h=>by
      rcases h with ⟨r2,q,h1,h2,h3,h4⟩ | ⟨r2,q,h1,h2,h3⟩
      · exact .inl ⟨(r2,q),h1,⟨h2,h3⟩,h4⟩
      · exact .inr ⟨(r2,q),h1,h2,h3⟩) ?_ ?_
  ·
   intro ⟨rp,qp⟩ hp
   rw [must1] at hp
   refine Ep ?_
   refine WE.block_panic ?_
   refine Ep ?_
   refine Epp fun w' hw=>?_
   exact .inr ⟨rp,qp,rfl,by simp only [declP,w_const,w_var,w_array,hq12,hq14,hp,Option.bind_some,Option.map_some,Option.bind_none,Option.map_none],(by have h:=hw; have h:=Ws.keep (L:=[_]) h; have h:=Ws.drops h (Vs':=[HT]) (by simp); exact h)⟩
  intro ⟨r19,q19⟩ ⟨hq19,hm19⟩
  have ok19:=tMust ok14 hq19
  rw [must1] at hq19
  refine Ln (Et (Cr ?_))
  refine V0 (Ym rfl) ?_
  refine Lf 0 rfl ?_
  refine Lwx (ι:=(Int)×(Option Addr×Nat)×Tk) (κ:=(Option Addr×Nat)×Tk) [_] _ (.inl rfl) rfl en90 rfl rfl (fun i=>.int .i64 i.1) (fun i=>glassL gb i.2.1 i.2.2) (fun i=>numP q19=some (i.1,i.2.2)∧Sl rdTok 3 HT i.2.1.1 i.2.1.2 i.2.2) (fun _=>brk) (fun i=>glassL gb i.1 i.2) (fun _=>numP q19=none) ([HT]) (by simp) (fun w hw=>(gnum_any gb HT r19 q19 w hm19 hw).mono fun e w' h=>by
      rcases h with ⟨t,r2,q,h1,h2,h3,h4⟩ | ⟨r2,q,h1,h2,h3⟩
      · exact .inl ⟨(t,r2,q),h1,⟨h2,h3⟩,h4⟩
      · exact .inr ⟨(r2,q),h1,h2,h3⟩) ?_ ?_
  ·
   intro ⟨rp,qp⟩ hp
   refine WE.block_panic ?_
   refine Ep ?_
   refine Epp fun w' hw=>?_
   exact .inr ⟨rp,qp,rfl,by simp only [declP,w_const,w_var,w_array,hq12,hq14,hq19,hp,Option.bind_some,Option.map_some,Option.bind_none,Option.map_none],(by have h:=hw; have h:=Ws.keep (L:=[_]) h; have h:=Ws.drops h (Vs':=[HT]) (by simp); exact h)⟩
  intro ⟨n21,r21,q21⟩ ⟨hq21,hm21⟩
  have ok21:=tNum ok19 hq21
  refine V0 (Yf fo109_3 rfl) ?_
  refine Lst 1 (.inl rfl) rfl rfl rfl sz3 rfl rfl rfl ?_
  refine Ln (Eb (Et (Cs (Cr ?_))))
  refine V0 (Ym rfl) ?_
  refine Lb (.inl rfl) rfl el22 rfl rfl rfl rfl fun b47=>?_
  refine Lsv (T:=9) (m:=1) 0 [[59]] rfl rfl (show 1≤1 by decide) (by decide) fun H47 hH47=>?_
  refine Lf 0 rfl ?_
  refine Lwx (ι:=(Option Addr×Nat)×Tk) (κ:=(Option Addr×Nat)×Tk) [_] _ (.inl rfl) rfl en68 rfl rfl (fun _=>.tuple #[]) (fun i=>glassL gb i.1 i.2) (fun i=>mustT [[59]] q21=some i.2∧Sl rdTok 3 HT i.1.1 i.1.2 i.2) (fun _=>brk) (fun i=>glassL gb i.1 i.2) (fun _=>mustT [[59]] q21=none) ([HT,H47]) (by simp) (fun w hw=>(must_any gb HT r21 q21 H47 _ _ [[59]] w hH47 hm21 hw).mono fun e w' h=>by
      rcases h with ⟨r2,q,h1,h2,h3,h4⟩ | ⟨r2,q,h1,h2,h3⟩
      · exact .inl ⟨(r2,q),h1,⟨h2,h3⟩,h4⟩
      · exact .inr ⟨(r2,q),h1,h2,h3⟩) ?_ ?_
  ·
   intro ⟨rp,qp⟩ hp
   rw [must1] at hp
   refine Ep ?_
   refine Epp fun w' hw=>?_
   exact .inr ⟨rp,qp,rfl,by simp only [declP,w_const,w_var,w_array,hq12,hq14,hq19,hq21,hp,Option.bind_some,Option.map_some,Option.bind_none,Option.map_none],(by have h:=hw; have h:=Ws.keep (L:=[_]) h; have h:=Ws.drops h (Vs':=[HT]) (by simp); exact h)⟩
  intro ⟨r48,q48⟩ ⟨hq48,hm48⟩
  have ok48:=tMust ok21 hq48
  rw [must1] at hq48
  refine Ln (Et (Cs (Cr ?_)))
  refine V0 (Yda 1 rfl rfl ag109 rfl) ?_
  refine Lst 2 (.inl rfl) rfl rfl rfl sz109 rfl rfl rfl ?_
  refine V0 (Ya rfl) ?_
  refine Ln (Et (Crt ?_))
  refine WE.retR (rs_2 rfl (rv_agg 2 rfl rfl ag109 rfl) (rv_tmp rfl)) fun w' hw=>?_
  exact .inl ⟨some ⟨1,s14,pub,n21⟩,r48,q48,rfl,by simp only [declP,w_const,w_var,w_array,hq12,hq14,hq19,hq21,hq48,Option.bind_some,Option.map_some,Option.bind_none,Option.map_none],hm48,Ws.drops (Ws.keep (L:=[_]) hw) (fun _ hm=>List.mem_append_right [_,_] hm)⟩
 ·
  obtain ⟨hn12,hl12⟩:=h12f hc0
  subst hl12
  refine Cs (Cr ?_)
  refine V0 (Ym rfl) ?_
  refine Lf 0 rfl ?_
  refine Lw (ι:=Bool×(Option Addr×Nat)×Tk) [_] _ (.inl rfl) rfl en70 rfl rfl (fun i=>.bool i.1) (fun i=>glassL gb i.2.1 i.2.2) (fun i=>(i.1=true→hasT [118,97,114] l=some i.2.2)∧(i.1=false→hasT [118,97,114] l=none∧l=i.2.2)∧Sl rdTok 3 HT i.2.1.1 i.2.1.2 i.2.2) [HT] (by simp) (fun w hw=>has_any gb HT r12 l [118,97,114] w hm12 hw) ?_
  intro ⟨b25,r25,q25⟩ ⟨h25t,h25f,hm25⟩
  refine V0 (Ya rfl) ?_
  refine Ln (Et ?_)
  refine Cc rfl (fun hc1=>?_) (fun hc1=>?_)
  ·
   have hq25:=h25t hc1
   have ok25:=tHas hok hq25
   refine Cr ?_
   refine V0 (Ym rfl) ?_
   refine Lf 0 rfl ?_
   refine Lwx (ι:=(Tx)×(Option Addr×Nat)×Tk) (κ:=(Option Addr×Nat)×Tk) [_] _ (.inl rfl) rfl en69 rfl rfl (fun i=>st i.1) (fun i=>glassL gb i.2.1 i.2.2) (fun i=>namP q25=some (i.1,i.2.2)∧Sl rdTok 3 HT i.2.1.1 i.2.1.2 i.2.2) (fun _=>brk) (fun i=>glassL gb i.1 i.2) (fun _=>namP q25=none) ([HT]) (by simp) (fun w hw=>(gname_any gb HT r25 q25 w hm25 hw).mono fun e w' h=>by
       rcases h with ⟨t,r2,q,h1,h2,h3,h4⟩ | ⟨r2,q,h1,h2,h3⟩
       · exact .inl ⟨(t,r2,q),h1,⟨h2,h3⟩,h4⟩
       · exact .inr ⟨(r2,q),h1,h2,h3⟩) ?_ ?_
   ·
    intro ⟨rp,qp⟩ hp
    refine WE.block_panic ?_
    refine Ep ?_
    refine Epp fun w' hw=>?_
    exact .inr ⟨rp,qp,rfl,by simp only [declP,w_const,w_var,w_array,hn12,hq25,hp,Option.bind_some,Option.map_some,Option.bind_none,Option.map_none],(by have h:=hw; have h:=Ws.keep (L:=[_]) h; exact h)⟩
   intro ⟨s27,r27,q27⟩ ⟨hq27,hm27⟩
   have ok27:=tNam ok25 hq27
   refine V0 (Yf fo109_0 rfl) ?_
   refine Lst 1 (.inl rfl) rfl rfl rfl sz3 rfl rfl rfl ?_
   refine V0 (Yf fo109_1 rfl) ?_
   refine Lst 1 (.inl rfl) rfl rfl rfl sz9 rfl rfl rfl ?_
   refine Ln (Eb (Et (Cs (Cr ?_))))
   refine V0 (Ym rfl) ?_
   refine Lb (.inl rfl) rfl el22 rfl rfl rfl rfl fun b47=>?_
   refine Lsv (T:=9) (m:=1) 0 [[59]] rfl rfl (show 1≤1 by decide) (by decide) fun H47 hH47=>?_
   refine Lf 0 rfl ?_
   refine Lwx (ι:=(Option Addr×Nat)×Tk) (κ:=(Option Addr×Nat)×Tk) [_] _ (.inl rfl) rfl en68 rfl rfl (fun _=>.tuple #[]) (fun i=>glassL gb i.1 i.2) (fun i=>mustT [[59]] q27=some i.2∧Sl rdTok 3 HT i.1.1 i.1.2 i.2) (fun _=>brk) (fun i=>glassL gb i.1 i.2) (fun _=>mustT [[59]] q27=none) ([HT,H47]) (by simp) (fun w hw=>(must_any gb HT r27 q27 H47 _ _ [[59]] w hH47 hm27 hw).mono fun e w' h=>by
       rcases h with ⟨r2,q,h1,h2,h3,h4⟩ | ⟨r2,q,h1,h2,h3⟩
       · exact .inl ⟨(r2,q),h1,⟨h2,h3⟩,h4⟩
       · exact .inr ⟨(r2,q),h1,h2,h3⟩) ?_ ?_
   ·
    intro ⟨rp,qp⟩ hp
    rw [must1] at hp
    refine Ep ?_
    refine Epp fun w' hw=>?_
    exact .inr ⟨rp,qp,rfl,by simp only [declP,w_const,w_var,w_array,hn12,hq25,hq27,hp,Option.bind_some,Option.map_some,Option.bind_none,Option.map_none],(by have h:=hw; have h:=Ws.keep (L:=[_]) h; have h:=Ws.drops h (Vs':=[HT]) (by simp); exact h)⟩
   intro ⟨r48,q48⟩ ⟨hq48,hm48⟩
   have ok48:=tMust ok27 hq48
   rw [must1] at hq48
   refine Ln (Et (Cs (Cr ?_)))
   refine V0 (Yda 1 rfl rfl ag109 rfl) ?_
   refine Lst 2 (.inl rfl) rfl rfl rfl sz109 rfl rfl rfl ?_
   refine V0 (Ya rfl) ?_
   refine Ln (Et (Crt ?_))
   refine WE.retR (rs_2 rfl (rv_agg 2 rfl rfl ag109 rfl) (rv_tmp rfl)) fun w' hw=>?_
   exact .inl ⟨some ⟨2,s27,pub,0⟩,r48,q48,rfl,by simp only [declP,w_const,w_var,w_array,hn12,hq25,hq27,hq48,Option.bind_some,Option.map_some,Option.bind_none,Option.map_none],hm48,Ws.drops (Ws.keep (L:=[_]) hw) (fun _ hm=>List.mem_append_right [_] hm)⟩
  ·
   obtain ⟨hn25,hl25⟩:=h25f hc1
   subst hl25
   refine Cs (Cr ?_)
   refine V0 (Ym rfl) ?_
   refine Lf 0 rfl ?_
   refine Lw (ι:=Bool×(Option Addr×Nat)×Tk) [_] _ (.inl rfl) rfl en70 rfl rfl (fun i=>.bool i.1) (fun i=>glassL gb i.2.1 i.2.2) (fun i=>(i.1=true→hasT [97,114,114,97,121] l=some i.2.2)∧(i.1=false→hasT [97,114,114,97,121] l=none∧l=i.2.2)∧Sl rdTok 3 HT i.2.1.1 i.2.1.2 i.2.2) [HT] (by simp) (fun w hw=>has_any gb HT r25 l [97,114,114,97,121] w hm25 hw) ?_
   intro ⟨b32,r32,q32⟩ ⟨h32t,h32f,hm32⟩
   refine V0 (Ya rfl) ?_
   refine Ln (Et ?_)
   refine Cc rfl (fun hc2=>?_) (fun hc2=>?_)
   ·
    have hq32:=h32t hc2
    have ok32:=tHas hok hq32
    refine Cs (Cr ?_)
    refine V0 (Ym rfl) ?_
    refine Lf 0 rfl ?_
    refine Lwx (ι:=(Tx)×(Option Addr×Nat)×Tk) (κ:=(Option Addr×Nat)×Tk) [_] _ (.inl rfl) rfl en69 rfl rfl (fun i=>st i.1) (fun i=>glassL gb i.2.1 i.2.2) (fun i=>namP q32=some (i.1,i.2.2)∧Sl rdTok 3 HT i.2.1.1 i.2.1.2 i.2.2) (fun _=>brk) (fun i=>glassL gb i.1 i.2) (fun _=>namP q32=none) ([HT]) (by simp) (fun w hw=>(gname_any gb HT r32 q32 w hm32 hw).mono fun e w' h=>by
        rcases h with ⟨t,r2,q,h1,h2,h3,h4⟩ | ⟨r2,q,h1,h2,h3⟩
        · exact .inl ⟨(t,r2,q),h1,⟨h2,h3⟩,h4⟩
        · exact .inr ⟨(r2,q),h1,h2,h3⟩) ?_ ?_
    ·
     intro ⟨rp,qp⟩ hp
     refine Ep ?_
     refine WE.block_panic ?_
     refine Ep ?_
     refine Epp fun w' hw=>?_
     exact .inr ⟨rp,qp,rfl,by simp only [declP,w_const,w_var,w_array,hn12,hn25,hq32,hp,Option.bind_some,Option.map_some,Option.bind_none,Option.map_none],(by have h:=hw; have h:=Ws.keep (L:=[_]) h; exact h)⟩
    intro ⟨s34,r34,q34⟩ ⟨hq34,hm34⟩
    have ok34:=tNam ok32 hq34
    refine V0 (Yf fo109_0 rfl) ?_
    refine Lst 1 (.inl rfl) rfl rfl rfl sz3 rfl rfl rfl ?_
    refine V0 (Yf fo109_1 rfl) ?_
    refine Lst 1 (.inl rfl) rfl rfl rfl sz9 rfl rfl rfl ?_
    refine Ln (Et (Cs (Cr ?_)))
    refine V0 (Ym rfl) ?_
    refine Lb (.inl rfl) rfl el22 rfl rfl rfl rfl fun b38=>?_
    refine Lsv (T:=9) (m:=1) 0 [[91]] rfl rfl (show 1≤1 by decide) (by decide) fun H38 hH38=>?_
    refine Lf 0 rfl ?_
    refine Lwx (ι:=(Option Addr×Nat)×Tk) (κ:=(Option Addr×Nat)×Tk) [_] _ (.inl rfl) rfl en68 rfl rfl (fun _=>.tuple #[]) (fun i=>glassL gb i.1 i.2) (fun i=>mustT [[91]] q34=some i.2∧Sl rdTok 3 HT i.1.1 i.1.2 i.2) (fun _=>brk) (fun i=>glassL gb i.1 i.2) (fun _=>mustT [[91]] q34=none) ([HT,H38]) (by simp) (fun w hw=>(must_any gb HT r34 q34 H38 _ _ [[91]] w hH38 hm34 hw).mono fun e w' h=>by
        rcases h with ⟨r2,q,h1,h2,h3,h4⟩ | ⟨r2,q,h1,h2,h3⟩
        · exact .inl ⟨(r2,q),h1,⟨h2,h3⟩,h4⟩
        · exact .inr ⟨(r2,q),h1,h2,h3⟩) ?_ ?_
    ·
     intro ⟨rp,qp⟩ hp
     rw [must1] at hp
     refine Ep ?_
     refine WE.block_panic ?_
     refine Ep ?_
     refine Epp fun w' hw=>?_
     exact .inr ⟨rp,qp,rfl,by simp only [declP,w_const,w_var,w_array,hn12,hn25,hq32,hq34,hp,Option.bind_some,Option.map_some,Option.bind_none,Option.map_none],(by have h:=hw; have h:=Ws.keep (L:=[_]) h; have h:=Ws.drops h (Vs':=[HT]) (by simp); exact h)⟩
    intro ⟨r39,q39⟩ ⟨hq39,hm39⟩
    have ok39:=tMust ok34 hq39
    rw [must1] at hq39
    refine Ln (Et (Cs (Cr ?_)))
    refine V0 (Ym rfl) ?_
    refine Lf 0 rfl ?_
    refine Lwx (ι:=(Int)×(Option Addr×Nat)×Tk) (κ:=(Option Addr×Nat)×Tk) [_] _ (.inl rfl) rfl en90 rfl rfl (fun i=>.int .i64 i.1) (fun i=>glassL gb i.2.1 i.2.2) (fun i=>numP q39=some (i.1,i.2.2)∧Sl rdTok 3 HT i.2.1.1 i.2.1.2 i.2.2) (fun _=>brk) (fun i=>glassL gb i.1 i.2) (fun _=>numP q39=none) ([HT]) (by simp) (fun w hw=>(gnum_any gb HT r39 q39 w hm39 hw).mono fun e w' h=>by
        rcases h with ⟨t,r2,q,h1,h2,h3,h4⟩ | ⟨r2,q,h1,h2,h3⟩
        · exact .inl ⟨(t,r2,q),h1,⟨h2,h3⟩,h4⟩
        · exact .inr ⟨(r2,q),h1,h2,h3⟩) ?_ ?_
    ·
     intro ⟨rp,qp⟩ hp
     refine Ep ?_
     refine WE.block_panic ?_
     refine Ep ?_
     refine Epp fun w' hw=>?_
     exact .inr ⟨rp,qp,rfl,by simp only [declP,w_const,w_var,w_array,hn12,hn25,hq32,hq34,hq39,hp,Option.bind_some,Option.map_some,Option.bind_none,Option.map_none],(by have h:=hw; have h:=Ws.keep (L:=[_]) h; have h:=Ws.drops h (Vs':=[HT]) (by simp); exact h)⟩
    intro ⟨n41,r41,q41⟩ ⟨hq41,hm41⟩
    have ok41:=tNum ok39 hq41
    refine V0 (Yf fo109_3 rfl) ?_
    refine Lst 1 (.inl rfl) rfl rfl rfl sz3 rfl rfl rfl ?_
    refine Ln (Et (Cr ?_))
    refine V0 (Ym rfl) ?_
    refine Lb (.inl rfl) rfl el22 rfl rfl rfl rfl fun b44=>?_
    refine Lsv (T:=9) (m:=1) 0 [[93]] rfl rfl (show 1≤1 by decide) (by decide) fun H44 hH44=>?_
    refine Lf 0 rfl ?_
    refine Lwx (ι:=(Option Addr×Nat)×Tk) (κ:=(Option Addr×Nat)×Tk) [_] _ (.inl rfl) rfl en68 rfl rfl (fun _=>.tuple #[]) (fun i=>glassL gb i.1 i.2) (fun i=>mustT [[93]] q41=some i.2∧Sl rdTok 3 HT i.1.1 i.1.2 i.2) (fun _=>brk) (fun i=>glassL gb i.1 i.2) (fun _=>mustT [[93]] q41=none) ([HT,H44]) (by simp) (fun w hw=>(must_any gb HT r41 q41 H44 _ _ [[93]] w hH44 hm41 hw).mono fun e w' h=>by
        rcases h with ⟨r2,q,h1,h2,h3,h4⟩ | ⟨r2,q,h1,h2,h3⟩
        · exact .inl ⟨(r2,q),h1,⟨h2,h3⟩,h4⟩
        · exact .inr ⟨(r2,q),h1,h2,h3⟩) ?_ ?_
    ·
     intro ⟨rp,qp⟩ hp
     rw [must1] at hp
     refine WE.block_panic ?_
     refine Ep ?_
     refine Epp fun w' hw=>?_
     exact .inr ⟨rp,qp,rfl,by simp only [declP,w_const,w_var,w_array,hn12,hn25,hq32,hq34,hq39,hq41,hp,Option.bind_some,Option.map_some,Option.bind_none,Option.map_none],(by have h:=hw; have h:=Ws.keep (L:=[_]) h; have h:=Ws.drops h (Vs':=[HT]) (by simp); exact h)⟩
    intro ⟨r45,q45⟩ ⟨hq45,hm45⟩
    have ok45:=tMust ok41 hq45
    rw [must1] at hq45
    refine Ln (Eb (Et (Cs (Cr ?_))))
    refine V0 (Ym rfl) ?_
    refine Lb (.inl rfl) rfl el22 rfl rfl rfl rfl fun b47=>?_
    refine Lsv (T:=9) (m:=1) 0 [[59]] rfl rfl (show 1≤1 by decide) (by decide) fun H47 hH47=>?_
    refine Lf 0 rfl ?_
    refine Lwx (ι:=(Option Addr×Nat)×Tk) (κ:=(Option Addr×Nat)×Tk) [_] _ (.inl rfl) rfl en68 rfl rfl (fun _=>.tuple #[]) (fun i=>glassL gb i.1 i.2) (fun i=>mustT [[59]] q45=some i.2∧Sl rdTok 3 HT i.1.1 i.1.2 i.2) (fun _=>brk) (fun i=>glassL gb i.1 i.2) (fun _=>mustT [[59]] q45=none) ([HT,H47]) (by simp) (fun w hw=>(must_any gb HT r45 q45 H47 _ _ [[59]] w hH47 hm45 hw).mono fun e w' h=>by
        rcases h with ⟨r2,q,h1,h2,h3,h4⟩ | ⟨r2,q,h1,h2,h3⟩
        · exact .inl ⟨(r2,q),h1,⟨h2,h3⟩,h4⟩
        · exact .inr ⟨(r2,q),h1,h2,h3⟩) ?_ ?_
    ·
     intro ⟨rp,qp⟩ hp
     rw [must1] at hp
     refine Ep ?_
     refine Epp fun w' hw=>?_
     exact .inr ⟨rp,qp,rfl,by simp only [declP,w_const,w_var,w_array,hn12,hn25,hq32,hq34,hq39,hq41,hq45,hp,Option.bind_some,Option.map_some,Option.bind_none,Option.map_none],(by have h:=hw; have h:=Ws.keep (L:=[_]) h; have h:=Ws.drops h (Vs':=[HT]) (by simp); exact h)⟩
    intro ⟨r48,q48⟩ ⟨hq48,hm48⟩
    have ok48:=tMust ok45 hq48
    rw [must1] at hq48
    refine Ln (Et (Cs (Cr ?_)))
    refine V0 (Yda 1 rfl rfl ag109 rfl) ?_
    refine Lst 2 (.inl rfl) rfl rfl rfl sz109 rfl rfl rfl ?_
    refine V0 (Ya rfl) ?_
    refine Ln (Et (Crt ?_))
    refine WE.retR (rs_2 rfl (rv_agg 2 rfl rfl ag109 rfl) (rv_tmp rfl)) fun w' hw=>?_
    exact .inl ⟨some ⟨3,s34,pub,n41⟩,r48,q48,rfl,by simp only [declP,w_const,w_var,w_array,hn12,hn25,hq32,hq34,hq39,hq41,hq45,hq48,Option.bind_some,Option.map_some,Option.bind_none,Option.map_none],hm48,Ws.drops (Ws.keep (L:=[_]) hw) (fun _ hm=>List.mem_append_right [_,_,_] hm)⟩
   ·
    obtain ⟨hn32,hl32⟩:=h32f hc2
    subst hl32
    refine Cs (Cr ?_)
    refine V0 (Yda 1 rfl rfl ag109 rfl) ?_
    refine Lst 2 (.inl rfl) rfl rfl rfl sz109 rfl rfl rfl ?_
    refine V0 (Ya rfl) ?_
    refine Ln (Et (Crt (Ebr (Er ?_))))
    refine WE.retR (rs_2 rfl (rv_agg 2 rfl rfl ag109 rfl) (rv_tmp rfl)) fun w' hw=>?_
    exact .inl ⟨none,r32,l,rfl,by simp only [declP,w_const,w_var,w_array,hn12,hn25,hn32,Option.bind_some,Option.map_some,Option.bind_none,Option.map_none],hm32,Ws.keep (L:=[_]) hw⟩
end Go.Proofs.YtinnlppbkhhoiaaGreatDoor
end
section
namespace Go.Proofs.YtinnlppbkhhoiaaGreatDoor
open Go.Bw
set_option linter.unusedVariables false
set_option linter.unusedSimpArgs false
def rowP (nm:Tx) (pub:Bool) (a1:Option Addr) (n1 c1:Nat) (a2:Option Addr) (n2 c2:Nat) (a3:Option Addr) (n3 c3:Nat):List Value:=[st nm,.bool pub,.slice a1 n1 c1,.slice a2 n2 c2,.slice a3 n3 c3]
theorem pl86:placesP Tryz.prog 86=some [(0,1),(1,1),(2,1),(3,1),(4,1)]:=by kernel_rfl
theorem sz22:sizeP Tryz.prog 22=some 1:=by kernel_rfl
theorem gproc_any (gb:Nat) (HT:View) (r:Option Addr×Nat) (l:Tk) (pub:Bool) (w:World) (hok:TOk l) (hm:Sl rdTok 3 HT r.1 r.2 l) (hw:Ws w (List.flatMap Asr.ids (glassL gb r l)) (glassL gb r l) [HT] w) :
   Calls Tryz.prog 72 #[.pointer (some ⟨gb,0,none⟩),.bool pub] w fun e w'=>(∃(p:TProc) (s:PAt) (r2:Option Addr×Nat) (q:Tk),e = .returned (.agg #[st (p).nm,.bool (p).pub,.slice (s).s1.1 (p).params.length (s).s1.2,.slice (s).s2.1 (p).locs.length (s).s2.2,.slice (s).s3.1 (p).body.length (s).s3.2])∧procP pub l=some (p,q)∧SlP (nv w w') p s∧Sl rdTok 3 HT r2.1 r2.2 q∧Ws w (List.flatMap Asr.ids (glassL gb r l)) (glassL gb r2 q) [HT] w')∨(∃(r2:Option Addr×Nat) (q:Tk),e = .panicked brk∧procP pub l=none∧Ws w (List.flatMap Asr.ids (glassL gb r l)) (glassL gb r2 q) [HT] w'):=by
 refine enter Tryz.func72 rfl 46 rfl rfl ?_
 refine CWd (W':=Ws w (List.flatMap Asr.ids (glassL gb r l)) (glassL gb r l) [HT]) (fun _ e=>by subst e; exact hw) ?_
 refine Cs (Cr ?_)
 refine WL.alloc (.inl rfl) rfl zr86 fun b4=>?_
 refine Lrb 0 (.cells (rowP [] false none 0 0 none 0 0 none 0 0).toArray 86 (0,0)) rfl rfl ?_
 refine Ln (Et (Cs (Cr ?_)))
 refine V0 (Ym rfl) ?_
 refine V0 (Ym rfl) ?_
 refine Lf 1 rfl ?_
 refine Lwx (ι:=(Tx)×(Option Addr×Nat)×Tk) (κ:=(Option Addr×Nat)×Tk) [_] _ (.inl rfl) rfl en69 rfl rfl (fun i=>st i.1) (fun i=>glassL gb i.2.1 i.2.2) (fun i=>namP l=some (i.1,i.2.2)∧Sl rdTok 3 HT i.2.1.1 i.2.1.2 i.2.2) (fun _=>brk) (fun i=>glassL gb i.1 i.2) (fun _=>namP l=none) ([HT]) (by simp) (fun w hw=>(gname_any gb HT r l w hm hw).mono fun e w' h=>by
     rcases h with ⟨t,r2,q,h1,h2,h3,h4⟩ | ⟨r2,q,h1,h2,h3⟩
     · exact .inl ⟨(t,r2,q),h1,⟨h2,h3⟩,h4⟩
     · exact .inr ⟨(r2,q),h1,h2,h3⟩) ?_ ?_
 ·
  intro ⟨rp,qp⟩ hp
  refine Ep ?_
  refine Epp fun w' hw=>?_
  exact .inr ⟨rp,qp,rfl,by simp only [procP,hp,Option.bind_none],(by have h:=hw; have h:=Ws.keep (L:=[_]) h; exact h)⟩
 intro ⟨s8,r8,q8⟩ ⟨hq8,hm8⟩
 have ok8:=tNam hok hq8
 refine V0 (Yb zr86 pl86 rfl rfl) ?_
 refine WL.alloc (.inl rfl) rfl zr86 fun b5=>?_
 refine Lst 0 (.inl rfl) rfl rfl rfl sz86 rfl rfl rfl ?_
 refine LW (fun _ h=>h.osl_nil 9 1) ?_
 refine LW (fun _ h=>h.osl_nil 9 1) ?_
 refine Ln (Et (Cs (Cr ?_)))
 refine V0 (Ym rfl) ?_
 refine Lb (.inl rfl) rfl el22 rfl rfl rfl rfl fun b11=>?_
 refine Lsv (T:=9) (m:=1) 0 [[40]] rfl rfl (show 1≤1 by decide) (by decide) fun H11 hH11=>?_
 refine Lf 3 rfl ?_
 refine Lwx (ι:=(Option Addr×Nat)×Tk) (κ:=(Option Addr×Nat)×Tk) [_] _ (.inl rfl) rfl en68 rfl rfl (fun _=>.tuple #[]) (fun i=>glassL gb i.1 i.2) (fun i=>mustT [[40]] q8=some i.2∧Sl rdTok 3 HT i.1.1 i.1.2 i.2) (fun _=>brk) (fun i=>glassL gb i.1 i.2) (fun _=>mustT [[40]] q8=none) ([HT,H11]) (by simp) (fun w hw=>(must_any gb HT r8 q8 H11 _ _ [[40]] w hH11 hm8 hw).mono fun e w' h=>by
     rcases h with ⟨r2,q,h1,h2,h3,h4⟩ | ⟨r2,q,h1,h2,h3⟩
     · exact .inl ⟨(r2,q),h1,⟨h2,h3⟩,h4⟩
     · exact .inr ⟨(r2,q),h1,h2,h3⟩) ?_ ?_
 ·
  intro ⟨rp,qp⟩ hp
  rw [must1] at hp
  refine Ep ?_
  refine Epp fun w' hw=>?_
  exact .inr ⟨rp,qp,rfl,by simp only [procP,hq8,hp,Option.bind_some,Option.bind_none],(by have h:=hw; have h:=Ws.keep (L:=[_]) h; have h:=Ws.drops h (Vs':=[HT]) (by simp); exact h)⟩
 intro ⟨r12,q12⟩ ⟨hq12,hm12⟩
 have ok12:=tMust ok8 hq12
 rw [must1] at hq12
 refine Ln (Et (Cs (Cb ?_)))
 refine CK (ι:=GN) (fun g=>[]) [(0,_),(4,_),(5,_)] (fun g=>Ws w (List.flatMap Asr.ids (glassL gb r l)) (glassL gb g.r g.q++[blk b5 (.cells (rowP s8 pub g.a g.ps.length g.c none 0 0 none 0 0).toArray 86 (0,0)),osT 9 1 strC g.a g.c g.ps,(osT 9 1 strC none 0 ([]:List Tx)),blk b4 (.cells (rowP [] false none 0 0 none 0 0 none 0 0).toArray 86 (0,0))]) [HT]) (fun g=>(g.ps.length+g.q.length≤l.length∧TOk g.q)∧Sl rdTok 3 HT g.r.1 g.r.2 g.q∧∃n,g.q.length<n∧paramsL (q12.length+1) true q12=(paramsL n (isNil g.ps) g.q).map fun p=>(g.ps++p.1,p.2)) (fun g=>g.q.length) ⟨[],none,0,r12,q12⟩ ⟨⟨by have:q8.length<l.length:=nam_len hok hq8; have:q12.length+1=q8.length:=hasT_len hq12; simp; omega,ok12⟩,hm12,q12.length+1,by simp,by simp [isNil]⟩ (sc rfl (sc rfl (sc rfl sn))) (fun _ h=>by have h:=h.fronti 4 rfl; have h:=h.fronti 3 rfl; have h:=h.fronti 3 rfl; have h:=h.fronti 4 rfl; have h:=h.fronti 4 rfl; have h:=Ws.drops h (Vs':=[HT]) (by simp); exact h) ?_
 intro g ⟨⟨hlen,hokg⟩,hmg,hA⟩
 refine Cs (Cs (Cr ?_))
 refine V0 (Ym rfl) ?_
 refine Lf 0 rfl ?_
 refine Lw (ι:=Bool×(Option Addr×Nat)×Tk) [_] _ (.inl rfl) rfl en70 rfl rfl (fun i=>.bool i.1) (fun i=>glassL gb i.2.1 i.2.2) (fun i=>(i.1=true→hasT [41] g.q=some i.2.2)∧(i.1=false→hasT [41] g.q=none∧g.q=i.2.2)∧Sl rdTok 3 HT i.2.1.1 i.2.1.2 i.2.2) [HT] (by simp) (fun w hw=>has_any gb HT g.r g.q [41] w hmg hw) ?_
 intro ⟨b14,r14,q14⟩ ⟨h14t,h14f,hm14⟩
 refine V0 (yl_not rfl) ?_
 refine Ln (Et ?_)
 refine Cc rfl (fun hc0=>?_) (fun hc0=>?_)
 ·
  obtain ⟨hn14,hl14⟩:=h14f (by simpa using hc0)
  subst hl14
  obtain ⟨n,hn,hA⟩:=hA
  obtain ⟨n,rfl⟩:∃k,n=k+1:=⟨n-1,by omega⟩
  refine Ck (Et (Cb (Cs (Cs (Cr ?_)))))
  refine V0 (Yf fo86_2 rfl) ?_
  refine V0 (Yd 1 rfl rfl rfl na22) ?_
  refine V0 (Yn es22 rfl) ?_
  refine V0 (yl_gt rfl rfl) ?_
  refine Ln (Et ?_)
  refine Cc rfl (fun hc1=>?_) (fun hc1=>?_)
  ·
   have hps:0<g.ps.length:=by simpa using hc1
   rw [isNil_f hps] at hA
   refine Cr ?_
   refine V0 (Ym rfl) ?_
   refine Lb (.inl rfl) rfl el22 rfl rfl rfl rfl fun b21=>?_
   refine Lsv (T:=9) (m:=1) 0 [[44]] rfl rfl (show 1≤1 by decide) (by decide) fun H21 hH21=>?_
   refine Lf 0 rfl ?_
   refine Lwx (ι:=(Option Addr×Nat)×Tk) (κ:=(Option Addr×Nat)×Tk) [_] _ (.inl rfl) rfl en68 rfl rfl (fun _=>.tuple #[]) (fun i=>glassL gb i.1 i.2) (fun i=>mustT [[44]] g.q=some i.2∧Sl rdTok 3 HT i.1.1 i.1.2 i.2) (fun _=>brk) (fun i=>glassL gb i.1 i.2) (fun _=>mustT [[44]] g.q=none) ([HT,H21]) (by simp) (fun w hw=>(must_any gb HT r14 g.q H21 _ _ [[44]] w hH21 hm14 hw).mono fun e w' h=>by
       rcases h with ⟨r2,q,h1,h2,h3,h4⟩ | ⟨r2,q,h1,h2,h3⟩
       · exact .inl ⟨(r2,q),h1,⟨h2,h3⟩,h4⟩
       · exact .inr ⟨(r2,q),h1,h2,h3⟩) ?_ ?_
   ·
    intro ⟨rp,qp⟩ hp
    rw [must1] at hp
    refine Ep ?_
    refine WE.block_panic ?_
    refine Ep ?_
    refine WE.block_panic ?_
    refine Ep ?_
    refine Epp fun w' hw=>?_
    rw [paramsL_2n hn14 hp] at hA
    exact .inr ⟨rp,qp,rfl,by simp only [procP,hq8,hq12,hA,Option.bind_some,Option.bind_none,Option.map_none],(by have h:=hw; have h:=Ws.keep (L:=[_]) h; have h:=Ws.drops h (Vs':=[HT]) (by simp); exact h)⟩
   intro ⟨r22,q22⟩ ⟨hq22,hm22⟩
   have ok22:=tMust hokg hq22
   rw [must1] at hq22
   refine Ln (Et ?_)
   refine CU (fun _=>true) [0,1] [6,7] (.q false 0 (.q true 1 (.q false 2 (.e 3 (.e 4 (.e 5 .nil .stop) .stop) .stop)))) mixed (by kernel_rfl) (fun _ _ _ d _ _ h=>by cases d<;>exact h) ?_
   refine Uq rfl (.inl rfl) rfl (fun _ h=>by have h:=Ws.out 0 h; have h:=Ws.out 1 h; exact h) (Yf fo86_2 rfl) ?_
   refine Uq rfl (.inl rfl) rfl (fun _ h=>by have h:=Ws.out 0 h; have h:=Ws.out 1 h; exact h) (Yd 0 rfl rfl rfl na22) ?_
   refine Uq rfl (.inl rfl) rfl (fun _ h=>by have h:=Ws.out 0 h; have h:=Ws.out 1 h; exact h) (Ym rfl) ?_
   refine Ue rfl (fun _ h=>by have h:=Ws.out 0 h; have h:=Ws.out 1 h; exact h) ?_ WU.stop
   refine Lf 0 rfl ?_
   refine Lwx (ι:=(Tx)×(Option Addr×Nat)×Tk) (κ:=(Option Addr×Nat)×Tk) [_] _ (.inl rfl) rfl en69 rfl rfl (fun i=>st i.1) (fun i=>glassL gb i.2.1 i.2.2) (fun i=>namP q22=some (i.1,i.2.2)∧Sl rdTok 3 HT i.2.1.1 i.2.1.2 i.2.2) (fun _=>brk) (fun i=>glassL gb i.1 i.2) (fun _=>namP q22=none) ([HT]) (by simp) (fun w hw=>(gname_any gb HT r22 q22 w hm22 hw).mono fun e w' h=>by
       rcases h with ⟨t,r2,q,h1,h2,h3,h4⟩ | ⟨r2,q,h1,h2,h3⟩
       · exact .inl ⟨(t,r2,q),h1,⟨h2,h3⟩,h4⟩
       · exact .inr ⟨(r2,q),h1,h2,h3⟩) ?_ ?_
   ·
    intro ⟨rp,qp⟩ hp
    refine Ep ?_
    refine WE.block_panic ?_
    refine Ep ?_
    refine WE.block_panic ?_
    refine Ep ?_
    refine Epp fun w' hw=>?_
    rw [paramsL_2m hn14 hq22 hp] at hA
    exact .inr ⟨rp,qp,rfl,by simp only [procP,hq8,hq12,hA,Option.bind_some,Option.bind_none,Option.map_none],(by have h:=hw; have h:=Ws.keep (L:=[_]) h; have h:=Ws.drops h (Vs':=[HT]) (by simp); exact h)⟩
   intro ⟨s26,r26,q26⟩ ⟨hq26,hm26⟩
   have ok26:=tNam ok22 hq26
   refine Ln (Eu ?_)
   refine Ue rfl (fun _ h=>by have h:=Ws.out 0 h; have h:=Ws.out 1 h; exact h) ?_ WU.stop
   refine Lb (.inl rfl) rfl el22 rfl rfl rfl rfl fun b27=>?_
   refine Lrb 0 (.cells (strC s26).toArray 9 (0,0)) rfl rfl ?_
   refine Ln (Eu ?_)
   refine Ue rfl (fun _ h=>by have h:=Ws.drop (L:=[_]) (L':=_) h; have h:=Ws.out 0 h; have h:=Ws.out 1 h; exact h) ?_ WU.stop
   refine LA (s26:Tx) 3 0 (.inl rfl) rfl el22 rfl rfl rfl rfl rfl rfl (by have:=hok.len; omega) (by have:=hok.len; omega) fun a28 c28=>?_
   refine Ln (Eu ?_)
   refine WU.nil (fun _ h=>by have h:=Ws.drop (L:=[_]) (L':=_) h; have h:=Ws.out 0 h; have h:=Ws.out 1 h; exact h) ?_
   refine WS.e rfl ?_
   refine V0 (Yf fo86_2 rfl) ?_
   refine Ln (Es ?_)
   refine WS.e rfl ?_
   refine Lst 2 (.inl rfl) rfl rfl rfl sz22 rfl rfl rfl ?_
   refine Ln (Es ?_)
   refine WS.nil ?_
   refine Eb ?_
   exact Ea (⟨g.ps++[s26],a28,c28,r26,q26⟩:GN) (by have:q26.length<q22.length:=nam_len ok22 hq26; have:q22.length+1=g.q.length:=hasT_len hq22; show q26.length<g.q.length; omega) ⟨⟨by have:q26.length<q22.length:=nam_len ok22 hq26; have:q22.length+1=g.q.length:=hasT_len hq22; simp; omega,ok26⟩,hm26,n,(show q26.length<n by have:q26.length<q22.length:=nam_len ok22 hq26; have:q22.length+1=g.q.length:=hasT_len hq22; omega),by rw [hA,paramsL_2 hn14 hq22 hq26,isNil_snoc]; simp [Function.comp_def]⟩ (sc rfl (sc rfl (sc rfl sn))) (fun _ h=>by
       have h:=h.fronti 5 rfl
       have h:=h.fronti 5 rfl
       have h:=h.fronti 5 rfl
       have h:=h.fronti 5 rfl
       have h:=h.fronti 5 rfl
       have h:=Ws.keep (L:=[_,_,_,_,_]) h
       have h:=Ws.drops h (Vs':=[HT]) (by simp)
       exact h)
  ·
   have hps:¬0<g.ps.length:=by simpa using hc1
   rw [isNil_t hps] at hA
   refine Ck (Et ?_)
   refine CU (fun _=>true) [0,1] [6,7] (.q false 0 (.q true 1 (.q false 2 (.e 3 (.e 4 (.e 5 .nil .stop) .stop) .stop)))) mixed (by kernel_rfl) (fun _ _ _ d _ _ h=>by cases d<;>exact h) ?_
   refine Uq rfl (.inl rfl) rfl (fun _ h=>by have h:=Ws.out 0 h; have h:=Ws.out 1 h; exact h) (Yf fo86_2 rfl) ?_
   refine Uq rfl (.inl rfl) rfl (fun _ h=>by have h:=Ws.out 0 h; have h:=Ws.out 1 h; exact h) (Yd 0 rfl rfl rfl na22) ?_
   refine Uq rfl (.inl rfl) rfl (fun _ h=>by have h:=Ws.out 0 h; have h:=Ws.out 1 h; exact h) (Ym rfl) ?_
   refine Ue rfl (fun _ h=>by have h:=Ws.out 0 h; have h:=Ws.out 1 h; exact h) ?_ WU.stop
   refine Lf 0 rfl ?_
   refine Lwx (ι:=(Tx)×(Option Addr×Nat)×Tk) (κ:=(Option Addr×Nat)×Tk) [_] _ (.inl rfl) rfl en69 rfl rfl (fun i=>st i.1) (fun i=>glassL gb i.2.1 i.2.2) (fun i=>namP g.q=some (i.1,i.2.2)∧Sl rdTok 3 HT i.2.1.1 i.2.1.2 i.2.2) (fun _=>brk) (fun i=>glassL gb i.1 i.2) (fun _=>namP g.q=none) ([HT]) (by simp) (fun w hw=>(gname_any gb HT r14 g.q w hm14 hw).mono fun e w' h=>by
       rcases h with ⟨t,r2,q,h1,h2,h3,h4⟩ | ⟨r2,q,h1,h2,h3⟩
       · exact .inl ⟨(t,r2,q),h1,⟨h2,h3⟩,h4⟩
       · exact .inr ⟨(r2,q),h1,h2,h3⟩) ?_ ?_
   ·
    intro ⟨rp,qp⟩ hp
    refine Ep ?_
    refine WE.block_panic ?_
    refine Ep ?_
    refine WE.block_panic ?_
    refine Ep ?_
    refine Epp fun w' hw=>?_
    rw [paramsL_1n hn14 hp] at hA
    exact .inr ⟨rp,qp,rfl,by simp only [procP,hq8,hq12,hA,Option.bind_some,Option.bind_none,Option.map_none],(by have h:=hw; have h:=Ws.keep (L:=[_]) h; exact h)⟩
   intro ⟨s26,r26,q26⟩ ⟨hq26,hm26⟩
   have ok26:=tNam hokg hq26
   refine Ln (Eu ?_)
   refine Ue rfl (fun _ h=>by have h:=Ws.out 0 h; have h:=Ws.out 1 h; exact h) ?_ WU.stop
   refine Lb (.inl rfl) rfl el22 rfl rfl rfl rfl fun b27=>?_
   refine Lrb 0 (.cells (strC s26).toArray 9 (0,0)) rfl rfl ?_
   refine Ln (Eu ?_)
   refine Ue rfl (fun _ h=>by have h:=Ws.drop (L:=[_]) (L':=_) h; have h:=Ws.out 0 h; have h:=Ws.out 1 h; exact h) ?_ WU.stop
   refine LA (s26:Tx) 3 0 (.inl rfl) rfl el22 rfl rfl rfl rfl rfl rfl (by have:=hok.len; omega) (by have:=hok.len; omega) fun a28 c28=>?_
   refine Ln (Eu ?_)
   refine WU.nil (fun _ h=>by have h:=Ws.drop (L:=[_]) (L':=_) h; have h:=Ws.out 0 h; have h:=Ws.out 1 h; exact h) ?_
   refine WS.e rfl ?_
   refine V0 (Yf fo86_2 rfl) ?_
   refine Ln (Es ?_)
   refine WS.e rfl ?_
   refine Lst 2 (.inl rfl) rfl rfl rfl sz22 rfl rfl rfl ?_
   refine Ln (Es ?_)
   refine WS.nil ?_
   refine Eb ?_
   exact Ea (⟨g.ps++[s26],a28,c28,r26,q26⟩:GN) (by have:q26.length<g.q.length:=nam_len hokg hq26; show q26.length<g.q.length; omega) ⟨⟨by have:q26.length<g.q.length:=nam_len hokg hq26; simp; omega,ok26⟩,hm26,n,(show q26.length<n by have:q26.length<g.q.length:=nam_len hokg hq26; omega),by rw [hA,paramsL_1 hn14 hq26,isNil_snoc]; simp [Function.comp_def]⟩ (sc rfl (sc rfl (sc rfl sn))) (fun _ h=>by
       have h:=h.fronti 5 rfl
       have h:=h.fronti 5 rfl
       have h:=h.fronti 5 rfl
       have h:=h.fronti 5 rfl
       have h:=h.fronti 5 rfl
       have h:=Ws.keep (L:=[_,_,_,_,_]) h
       have h:=Ws.drops h (Vs':=[HT]) (by simp)
       exact h)
 ·
  have hq14:=h14t (by simpa using hc0)
  have ok14:=tHas hokg hq14
  obtain ⟨n,hn,hA⟩:=hA
  obtain ⟨n,rfl⟩:∃k,n=k+1:=⟨n-1,by omega⟩
  rw [paramsL_end hq14] at hA
  simp at hA
  refine Ce (Ex (Ex (Ebh (Et (Cs ?_)))))
  refine Cb ?_
  refine CK (ι:=GN) (fun v=>[]) [(0,_),(4,_),(5,_)] (fun v=>Ws w (List.flatMap Asr.ids (glassL gb r l)) (glassL gb v.r v.q++[blk b5 (.cells (rowP s8 pub g.a g.ps.length g.c v.a v.ps.length v.c none 0 0).toArray 86 (0,0)),osT 9 1 strC g.a g.c g.ps,osT 9 1 strC v.a v.c v.ps,blk b4 (.cells (rowP [] false none 0 0 none 0 0 none 0 0).toArray 86 (0,0))]) [HT]) (fun v=>(v.ps.length+v.q.length≤l.length∧TOk v.q)∧Sl rdTok 3 HT v.r.1 v.r.2 v.q∧∃n,v.q.length<n∧locsL (q14.length+1) q14=(locsL n v.q).map fun p=>(v.ps++p.1,p.2)) (fun v=>v.q.length) ⟨[],none,0,r14,q14⟩ ⟨⟨by have:q14.length+1=g.q.length:=hasT_len hq14; simp; omega,ok14⟩,hm14,q14.length+1,by simp,by simp⟩ (sc rfl (sc rfl (sc rfl sn))) (fun _ h=>h) ?_
  intro v ⟨⟨hlen2,hokv⟩,hmv,hB⟩
  refine Cs (Cs (Cr ?_))
  refine V0 (Ym rfl) ?_
  refine Lf 0 rfl ?_
  refine Lw (ι:=Bool×(Option Addr×Nat)×Tk) [_] _ (.inl rfl) rfl en70 rfl rfl (fun i=>.bool i.1) (fun i=>glassL gb i.2.1 i.2.2) (fun i=>(i.1=true→hasT [108,111,99,97,108] v.q=some i.2.2)∧(i.1=false→hasT [108,111,99,97,108] v.q=none∧v.q=i.2.2)∧Sl rdTok 3 HT i.2.1.1 i.2.1.2 i.2.2) [HT] (by simp) (fun w hw=>has_any gb HT v.r v.q [108,111,99,97,108] w hmv hw) ?_
  intro ⟨b31,r31,q31⟩ ⟨h31t,h31f,hm31⟩
  refine Ln (Et ?_)
  refine Cc rfl (fun hc2=>?_) (fun hc2=>?_)
  ·
   have hq31:=h31t hc2
   have ok31:=tHas hokv hq31
   obtain ⟨n,hn,hB⟩:=hB
   obtain ⟨n,rfl⟩:∃k,n=k+1:=⟨n-1,by omega⟩
   refine Ck (Et (Cb (Cs ?_)))
   refine CU (fun _=>true) [0,2] [6,7] (.q false 0 (.q true 1 (.q false 2 (.e 3 (.e 4 (.e 5 .nil .stop) .stop) .stop)))) mixed (by kernel_rfl) (fun _ _ _ d _ _ h=>by cases d<;>exact h) ?_
   refine Uq rfl (.inl rfl) rfl (fun _ h=>by have h:=Ws.out 0 h; have h:=Ws.out 2 h; exact h) (Yf fo86_3 rfl) ?_
   refine Uq rfl (.inl rfl) rfl (fun _ h=>by have h:=Ws.out 0 h; have h:=Ws.out 2 h; exact h) (Yd 0 rfl rfl rfl na22) ?_
   refine Uq rfl (.inl rfl) rfl (fun _ h=>by have h:=Ws.out 0 h; have h:=Ws.out 2 h; exact h) (Ym rfl) ?_
   refine Ue rfl (fun _ h=>by have h:=Ws.out 0 h; have h:=Ws.out 2 h; exact h) ?_ WU.stop
   refine Lf 0 rfl ?_
   refine Lwx (ι:=(Tx)×(Option Addr×Nat)×Tk) (κ:=(Option Addr×Nat)×Tk) [_] _ (.inl rfl) rfl en69 rfl rfl (fun i=>st i.1) (fun i=>glassL gb i.2.1 i.2.2) (fun i=>namP q31=some (i.1,i.2.2)∧Sl rdTok 3 HT i.2.1.1 i.2.1.2 i.2.2) (fun _=>brk) (fun i=>glassL gb i.1 i.2) (fun _=>namP q31=none) ([HT]) (by simp) (fun w hw=>(gname_any gb HT r31 q31 w hm31 hw).mono fun e w' h=>by
       rcases h with ⟨t,r2,q,h1,h2,h3,h4⟩ | ⟨r2,q,h1,h2,h3⟩
       · exact .inl ⟨(t,r2,q),h1,⟨h2,h3⟩,h4⟩
       · exact .inr ⟨(r2,q),h1,h2,h3⟩) ?_ ?_
   ·
    intro ⟨rp,qp⟩ hp
    refine Ep ?_
    refine Ep ?_
    refine WE.block_panic ?_
    refine Ep ?_
    refine WE.block_panic ?_
    refine Ep ?_
    refine Epp fun w' hw=>?_
    rw [locsL_b1 hq31 hp] at hB
    exact .inr ⟨rp,qp,rfl,by simp only [procP,hq8,hq12,hA,hB,Option.bind_some,Option.bind_none,Option.map_none],(by have h:=hw; have h:=Ws.keep (L:=[_]) h; exact h)⟩
   intro ⟨s35,r35,q35⟩ ⟨hq35,hm35⟩
   have ok35:=tNam ok31 hq35
   refine Ln (Eu ?_)
   refine Ue rfl (fun _ h=>by have h:=Ws.out 0 h; have h:=Ws.out 2 h; exact h) ?_ WU.stop
   refine Lb (.inl rfl) rfl el22 rfl rfl rfl rfl fun b36=>?_
   refine Lrb 0 (.cells (strC s35).toArray 9 (0,0)) rfl rfl ?_
   refine Ln (Eu ?_)
   refine Ue rfl (fun _ h=>by have h:=Ws.drop (L:=[_]) (L':=_) h; have h:=Ws.out 0 h; have h:=Ws.out 2 h; exact h) ?_ WU.stop
   refine LA (s35:Tx) 4 0 (.inl rfl) rfl el22 rfl rfl rfl rfl rfl rfl (by have:=hok.len; omega) (by have:=hok.len; omega) fun a37 c37=>?_
   refine Ln (Eu ?_)
   refine WU.nil (fun _ h=>by have h:=Ws.drop (L:=[_]) (L':=_) h; have h:=Ws.out 0 h; have h:=Ws.out 2 h; exact h) ?_
   refine WS.e rfl ?_
   refine V0 (Yf fo86_3 rfl) ?_
   refine Ln (Es ?_)
   refine WS.e rfl ?_
   refine Lst 2 (.inl rfl) rfl rfl rfl sz22 rfl rfl rfl ?_
   refine Ln (Es ?_)
   refine WS.nil ?_
   refine Et (Cr ?_)
   refine V0 (Ym rfl) ?_
   refine Lb (.inl rfl) rfl el22 rfl rfl rfl rfl fun b40=>?_
   refine Lsv (T:=9) (m:=1) 0 [[59]] rfl rfl (show 1≤1 by decide) (by decide) fun H40 hH40=>?_
   refine Lf 1 rfl ?_
   refine Lwx (ι:=(Option Addr×Nat)×Tk) (κ:=(Option Addr×Nat)×Tk) [_] _ (.inl rfl) rfl en68 rfl rfl (fun _=>.tuple #[]) (fun i=>glassL gb i.1 i.2) (fun i=>mustT [[59]] q35=some i.2∧Sl rdTok 3 HT i.1.1 i.1.2 i.2) (fun _=>brk) (fun i=>glassL gb i.1 i.2) (fun _=>mustT [[59]] q35=none) ([HT,H40]) (by simp) (fun w hw=>(must_any gb HT r35 q35 H40 _ _ [[59]] w hH40 hm35 hw).mono fun e w' h=>by
       rcases h with ⟨r2,q,h1,h2,h3,h4⟩ | ⟨r2,q,h1,h2,h3⟩
       · exact .inl ⟨(r2,q),h1,⟨h2,h3⟩,h4⟩
       · exact .inr ⟨(r2,q),h1,h2,h3⟩) ?_ ?_
   ·
    intro ⟨rp,qp⟩ hp
    rw [must1] at hp
    refine WE.block_panic ?_
    refine Ep ?_
    refine WE.block_panic ?_
    refine Ep ?_
    refine Epp fun w' hw=>?_
    rw [locsL_b2 hq31 hq35 hp] at hB
    exact .inr ⟨rp,qp,rfl,by simp only [procP,hq8,hq12,hA,hB,Option.bind_some,Option.bind_none,Option.map_none],(by have h:=hw; have h:=Ws.keep (L:=[_]) h; have h:=Ws.drops h (Vs':=[HT]) (by simp); exact h)⟩
   intro ⟨r41,q41⟩ ⟨hq41,hm41⟩
   have ok41:=tMust ok35 hq41
   rw [must1] at hq41
   refine Ln (Eb ?_)
   exact Ea (⟨v.ps++[s35],a37,c37,r41,q41⟩:GN) (by have:q31.length+1=v.q.length:=hasT_len hq31; have:q35.length<q31.length:=nam_len ok31 hq35; have:q41.length+1=q35.length:=hasT_len hq41; show q41.length<v.q.length; omega) ⟨⟨by have:q31.length+1=v.q.length:=hasT_len hq31; have:q35.length<q31.length:=nam_len ok31 hq35; have:q41.length+1=q35.length:=hasT_len hq41; simp; omega,ok41⟩,hm41,n,(show q41.length<n by have:q31.length+1=v.q.length:=hasT_len hq31; have:q35.length<q31.length:=nam_len ok31 hq35; have:q41.length+1=q35.length:=hasT_len hq41; omega),by rw [hB,locsL_more hq31 hq35 hq41]; simp [Function.comp_def]⟩ (sc rfl (sc rfl (sc rfl sn))) (fun _ h=>by
       have h:=h.fronti 5 rfl
       have h:=h.fronti 5 rfl
       have h:=h.fronti 5 rfl
       have h:=h.fronti 5 rfl
       have h:=h.fronti 4 rfl
       have h:=Ws.keep (L:=[_,_,_,_,_]) h
       have h:=Ws.drops h (Vs':=[HT]) (by simp)
       exact h)
  ·
   obtain ⟨hn31,hl31⟩:=h31f hc2
   subst hl31
   obtain ⟨n,hn,hB⟩:=hB
   obtain ⟨n,rfl⟩:∃k,n=k+1:=⟨n-1,by omega⟩
   rw [locsL_end hn31] at hB
   simp at hB
   refine Ce (Ex (Ex (Ebh (Et (Cs ?_)))))
   refine Cr ?_
   refine V0 (Ym rfl) ?_
   refine Lf 0 rfl ?_
   refine Lwy (ι:=((List TStmt)×(Option Addr×Nat))×(Option Addr×Nat)×Tk) (κ:=(Option Addr×Nat)×Tk) [_] _ (.inl rfl) rfl en73 rfl rfl (fun i=>.slice i.1.2.1 i.1.1.length i.1.2.2) (fun i=>glassL gb i.2.1 i.2.2) (fun F i=>blockP 6 v.q=some (i.1.1,i.2.2)∧Sl (RdS 7 6) 6 F i.1.2.1 i.1.2.2 i.1.1∧Sl rdTok 3 HT i.2.1.1 i.2.1.2 i.2.2) (fun _=>brk) (fun i=>glassL gb i.1 i.2) (fun _=>blockP 6 v.q=none) ([HT]) (by simp) (fun _ _ h=>h) (fun w hw=>(gblock_any HT 6 gb r31 v.q (1) w (by omega) hokv hm31 hw).mono fun e w' h=>by
       rcases h with ⟨x,s,r2,q,h1,h2,h3,h4,h5⟩ | ⟨r2,q,h1,h2,h3⟩
       · exact .inl ⟨((x,s),r2,q),h1,⟨h2,h3,h4⟩,h5⟩
       · exact .inr ⟨(r2,q),h1,h2,h3⟩) ?_ ?_
   ·
    intro ⟨rp,qp⟩ hp
    refine Ep ?_
    refine Epp fun w' hw=>?_
    exact .inr ⟨rp,qp,rfl,by simp only [procP,hq8,hq12,hA,hB,hp,Option.bind_some,Option.bind_none,Option.map_none],(by have h:=hw; have h:=Ws.keep (L:=[_]) h; exact h)⟩
   intro F43 ⟨⟨b_43,s43⟩,r43,q43⟩ hf43 ⟨hq43,hx43,hm43⟩
   have ok43:TOk q43:=tBlock hokv hq43
   refine V0 (Yf fo86_4 rfl) ?_
   refine Lst 1 (.inl rfl) rfl rfl rfl sz25 rfl rfl rfl ?_
   refine Ln (Et (Cs ?_))
   refine WC.oslN (rd:=rdStr) 2 rfl (fun k hk=>by simp [glassL,blk] at hk; subst hk; simp [outOf,glassL,blk,osl]) strC_len (fun _ _ _ _ h=>h) fun KP fKP hKP=>?_
   refine WC.oslN (rd:=rdStr) 2 rfl (fun k hk=>by simp [glassL,blk] at hk; subst hk; simp [outOf,glassL,blk,osl]) strC_len (fun _ _ _ _ h=>h) fun KL fKL hKL=>?_
   refine Cr ?_
   refine V0 (Yda 1 rfl rfl ag86 rfl) ?_
   refine Lst 2 (.inl rfl) rfl rfl rfl sz86 rfl rfl rfl ?_
   refine Ln (Et (Crt ?_))
   refine WE.retR (rs_1 rfl (rv_agg 2 rfl rfl ag86 rfl)) fun w' hw=>?_
   exact .inl ⟨⟨s8,pub,g.ps,v.ps,b_43⟩,⟨(g.a,g.c),(v.a,v.c),s43⟩,r43,q43,rfl,by simp only [procP,hq8,hq12,hA,hB,hq43,Option.bind_some,Option.map_some],⟨slStr_mv hKP (nv_vs hw (by simp) fKP),slStr_mv hKL (nv_vs hw (by simp) fKL),slS_mv hx43 (nv_vs hw (by simp) hf43)⟩,hm43,Ws.drops (Ws.keep (L:=[_]) hw) (fun _ hm=>List.mem_append_right [_,_,_] hm)⟩
end Go.Proofs.YtinnlppbkhhoiaaGreatDoor
end
section
namespace Go.Proofs.YtinnlppbkhhoiaaGreatDoor
open Go.Bw
set_option linter.unusedVariables false
set_option linter.unusedSimpArgs false
structure GU where
 us:List Tx
 a:Option Addr
 c:Nat
 r:Option Addr×Nat
 q:Tk
def rowM (nm:Tx) (a1:Option Addr) (n1 c1:Nat) (a2:Option Addr) (n2 c2:Nat) (a3:Option Addr) (n3 c3:Nat) (a4:Option Addr) (n4 c4:Nat):List Value:=[st nm,.slice a1 n1 c1,.slice a2 n2 c2,.slice a3 n3 c3,.slice a4 n4 c4]
theorem mod_use {l q1 q2 q3:Tk} {nm:Tx} (h1:hasT [109,111,100,117,108,101] l=some q1) (h2:namP q1=some (nm,q2)) (h3:hasT [123] q2=some q3):modP l=(usesL (q3.length+1) q3).bind fun u=>
   (declsL ((pubP u.2).2.length+1) (pubP u.2).1 (pubP u.2).2).bind fun d=>(procsL (d.2.length+1) d.1.2 d.2).bind fun p=>if p.1.2=true then none else
   (hasT w_main p.2).bind fun r=>(blockP 6 r).bind fun b=>(hasT [125] b.2).map fun r=>(⟨nm,u.1,d.1.1,p.1.1,b.1⟩,r):=by
 rw [modP,show w_module=[109,111,100,117,108,101] from rfl,h1]; simp only [Option.bind_some]; rw [h2]; simp only [Option.bind_some]; rw [h3]; rfl
theorem zr27:zeroOf Tryz.prog 27=some (.agg #[st [],.slice none 0 0,.slice none 0 0,.slice none 0 0,.slice none 0 0]):=by kernel_rfl
theorem pl27:placesP Tryz.prog 27=some [(0,1),(1,1),(2,1),(3,1),(4,1)]:=by kernel_rfl
theorem sz27:sizeP Tryz.prog 27=some 5:=by kernel_rfl
theorem en71:Enters Tryz.prog 71:=enters_of Tryz.func71 (by kernel_rfl) rfl
theorem en72:Enters Tryz.prog 72:=enters_of Tryz.func72 (by kernel_rfl) rfl
theorem el24:EltOk Tryz.prog 24 86 (.agg #[st [],.bool false,.slice none 0 0,.slice none 0 0,.slice none 0 0]) 5 96:=eltOk_of (by kernel_rfl)
theorem sz24:sizeP Tryz.prog 24=some 1:=by kernel_rfl
theorem ag27:aggOf Tryz.prog 27=some 5:=by kernel_rfl
theorem el23:EltOk Tryz.prog 23 109 (.agg #[.int .i64 0,st [],.bool false,.int .i64 0]) 4 40:=eltOk_of (by kernel_rfl)
theorem sz23:sizeP Tryz.prog 23=some 1:=by kernel_rfl
theorem gmodule_any (gb:Nat) (HT:View) (r:Option Addr×Nat) (l:Tk) (w:World) (hok:TOk l) (hm:Sl rdTok 3 HT r.1 r.2 l) (hw:Ws w (List.flatMap Asr.ids (glassL gb r l)) (glassL gb r l) [HT] w) :
   Calls Tryz.prog 52 #[.pointer (some ⟨gb,0,none⟩)] w fun e w'=>(∃(m:TMod) (s:MAt) (r2:Option Addr×Nat) (q:Tk),e = .returned (.agg (modV m s).toArray)∧modP l=some (m,q)∧RdM 7 6 (nv w w') s m∧Sl rdTok 3 HT r2.1 r2.2 q∧Ws w (List.flatMap Asr.ids (glassL gb r l)) (glassL gb r2 q) [HT] w')∨(∃(r2:Option Addr×Nat) (q:Tk),e = .panicked brk∧modP l=none∧Ws w (List.flatMap Asr.ids (glassL gb r l)) (glassL gb r2 q) [HT] w'):=by
 refine enter Tryz.func52 rfl 71 rfl rfl ?_
 refine CWd (W':=Ws w (List.flatMap Asr.ids (glassL gb r l)) (glassL gb r l) [HT]) (fun _ e=>by subst e; exact hw) ?_
 refine Cs (Cr ?_)
 refine WL.alloc (.inl rfl) rfl zr27 fun b2=>?_
 refine Lrb 0 (.cells (rowM [] none 0 0 none 0 0 none 0 0 none 0 0).toArray 27 (0,0)) rfl rfl ?_
 refine Ln (Et (Cs (Cr ?_)))
 refine V0 (Ym rfl) ?_
 refine Lb (.inl rfl) rfl el22 rfl rfl rfl rfl fun b8=>?_
 refine Lsv (T:=9) (m:=1) 0 [[109,111,100,117,108,101]] rfl rfl (show 1≤1 by decide) (by decide) fun H8 hH8=>?_
 refine Lf 1 rfl ?_
 refine Lwx (ι:=(Option Addr×Nat)×Tk) (κ:=(Option Addr×Nat)×Tk) [_] _ (.inl rfl) rfl en68 rfl rfl (fun _=>.tuple #[]) (fun i=>glassL gb i.1 i.2) (fun i=>mustT [[109,111,100,117,108,101]] l=some i.2∧Sl rdTok 3 HT i.1.1 i.1.2 i.2) (fun _=>brk) (fun i=>glassL gb i.1 i.2) (fun _=>mustT [[109,111,100,117,108,101]] l=none) ([HT,H8]) (by simp) (fun w hw=>(must_any gb HT r l H8 _ _ [[109,111,100,117,108,101]] w hH8 hm hw).mono fun e w' h=>by
     rcases h with ⟨r2,q,h1,h2,h3,h4⟩ | ⟨r2,q,h1,h2,h3⟩
     · exact .inl ⟨(r2,q),h1,⟨h2,h3⟩,h4⟩
     · exact .inr ⟨(r2,q),h1,h2,h3⟩) ?_ ?_
 ·
  intro ⟨rp,qp⟩ hp
  rw [must1] at hp
  refine Ep ?_
  refine Epp fun w' hw=>?_
  exact .inr ⟨rp,qp,rfl,by simp only [modP,w_module,hp,Option.bind_none],(by have h:=hw; have h:=Ws.keep (L:=[_]) h; have h:=Ws.drops h (Vs':=[HT]) (by simp); exact h)⟩
 intro ⟨r9,q9⟩ ⟨hq9,hm9⟩
 have ok9:=tMust hok hq9
 rw [must1] at hq9
 refine Ln (Et (Cs (Cr ?_)))
 refine V0 (Ym rfl) ?_
 refine Lf 0 rfl ?_
 refine Lwx (ι:=(Tx)×(Option Addr×Nat)×Tk) (κ:=(Option Addr×Nat)×Tk) [_] _ (.inl rfl) rfl en69 rfl rfl (fun i=>st i.1) (fun i=>glassL gb i.2.1 i.2.2) (fun i=>namP q9=some (i.1,i.2.2)∧Sl rdTok 3 HT i.2.1.1 i.2.1.2 i.2.2) (fun _=>brk) (fun i=>glassL gb i.1 i.2) (fun _=>namP q9=none) ([HT]) (by simp) (fun w hw=>(gname_any gb HT r9 q9 w hm9 hw).mono fun e w' h=>by
     rcases h with ⟨t,r2,q,h1,h2,h3,h4⟩ | ⟨r2,q,h1,h2,h3⟩
     · exact .inl ⟨(t,r2,q),h1,⟨h2,h3⟩,h4⟩
     · exact .inr ⟨(r2,q),h1,h2,h3⟩) ?_ ?_
 ·
  intro ⟨rp,qp⟩ hp
  refine Ep ?_
  refine Epp fun w' hw=>?_
  exact .inr ⟨rp,qp,rfl,by simp only [modP,w_module,hq9,hp,Option.bind_some,Option.bind_none],(by have h:=hw; have h:=Ws.keep (L:=[_]) h; have h:=Ws.drops h (Vs':=[HT]) (by simp); exact h)⟩
 intro ⟨s11,r11,q11⟩ ⟨hq11,hm11⟩
 have ok11:=tNam ok9 hq11
 refine V0 (Yb zr27 pl27 rfl rfl) ?_
 refine WL.alloc (.inl rfl) rfl zr27 fun b3=>?_
 refine Lst 0 (.inl rfl) rfl rfl rfl sz27 rfl rfl rfl ?_
 refine LW (fun _ h=>h.osl_nil 9 1) ?_
 refine LW (fun _ h=>h.osl_nil 109 4) ?_
 refine LW (fun _ h=>h.osl_nil 86 5) ?_
 refine WL.v0 ?_
 refine Ln (Et (Cs (Cr ?_)))
 refine V0 (Ym rfl) ?_
 refine Lb (.inl rfl) rfl el22 rfl rfl rfl rfl fun b14=>?_
 refine Lsv (T:=9) (m:=1) 0 [[123]] rfl rfl (show 1≤1 by decide) (by decide) fun H14 hH14=>?_
 refine Lf 4 rfl ?_
 refine Lwx (ι:=(Option Addr×Nat)×Tk) (κ:=(Option Addr×Nat)×Tk) [_] _ (.inl rfl) rfl en68 rfl rfl (fun _=>.tuple #[]) (fun i=>glassL gb i.1 i.2) (fun i=>mustT [[123]] q11=some i.2∧Sl rdTok 3 HT i.1.1 i.1.2 i.2) (fun _=>brk) (fun i=>glassL gb i.1 i.2) (fun _=>mustT [[123]] q11=none) ([HT,H14]) (by simp) (fun w hw=>(must_any gb HT r11 q11 H14 _ _ [[123]] w hH14 hm11 hw).mono fun e w' h=>by
     rcases h with ⟨r2,q,h1,h2,h3,h4⟩ | ⟨r2,q,h1,h2,h3⟩
     · exact .inl ⟨(r2,q),h1,⟨h2,h3⟩,h4⟩
     · exact .inr ⟨(r2,q),h1,h2,h3⟩) ?_ ?_
 ·
  intro ⟨rp,qp⟩ hp
  rw [must1] at hp
  refine Ep ?_
  refine Epp fun w' hw=>?_
  exact .inr ⟨rp,qp,rfl,by simp only [modP,w_module,hq9,hq11,hp,Option.bind_some,Option.bind_none],(by have h:=hw; have h:=Ws.keep (L:=[_]) h; have h:=Ws.drops h (Vs':=[HT]) (by simp); exact h)⟩
 intro ⟨r15,q15⟩ ⟨hq15,hm15⟩
 have ok15:=tMust ok11 hq15
 rw [must1] at hq15
 refine Ln (Et (Cs (Cb ?_)))
 refine CK (ι:=GU) (fun g=>[]) [(0,_),(2,_),(3,_)] (fun g=>Ws w (List.flatMap Asr.ids (glassL gb r l)) (glassL gb g.r g.q++[blk b3 (.cells (rowM s11 g.a g.us.length g.c none 0 0 none 0 0 none 0 0).toArray 27 (0,0)),osT 9 1 strC g.a g.c g.us,osT 109 4 TDecl.cells none 0 ([]:List TDecl),osT 86 5 PX.cells none 0 ([]:List PX),blk b2 (.cells (rowM [] none 0 0 none 0 0 none 0 0 none 0 0).toArray 27 (0,0))]) [v0,HT]) (fun g=>(g.us.length+g.q.length≤l.length∧TOk g.q)∧Sl rdTok 3 HT g.r.1 g.r.2 g.q∧∃n,g.q.length<n∧usesL (q15.length+1) q15=(usesL n g.q).map fun p=>(g.us++p.1,p.2)) (fun g=>g.q.length) ⟨[],none,0,r15,q15⟩ ⟨⟨by have:q9.length+1=l.length:=hasT_len hq9; have:q11.length<q9.length:=nam_len ok9 hq11; have:q15.length+1=q11.length:=hasT_len hq15; simp; omega,ok15⟩,hm15,q15.length+1,by simp,by simp⟩ (sc rfl (sc rfl (sc rfl sn))) (fun _ h=>by have h:=h.fronti 5 rfl; have h:=h.fronti 2 rfl; have h:=h.fronti 3 rfl; have h:=h.fronti 4 rfl; have h:=h.fronti 5 rfl; have h:=h.fronti 5 rfl; have h:=Ws.drops h (Vs':=[v0,HT]) (by simp); exact h) ?_
 intro g ⟨⟨hlen,hokg⟩,hmg,hA⟩
 refine Cs (Cs (Cr ?_))
 refine V0 (Ym rfl) ?_
 refine Lf 0 rfl ?_
 refine Lw (ι:=Bool×(Option Addr×Nat)×Tk) [_] _ (.inl rfl) rfl en70 rfl rfl (fun i=>.bool i.1) (fun i=>glassL gb i.2.1 i.2.2) (fun i=>(i.1=true→hasT [117,115,101] g.q=some i.2.2)∧(i.1=false→hasT [117,115,101] g.q=none∧g.q=i.2.2)∧Sl rdTok 3 HT i.2.1.1 i.2.1.2 i.2.2) [HT] (by simp) (fun w hw=>has_any gb HT g.r g.q [117,115,101] w hmg hw) ?_
 intro ⟨b17,r17,q17⟩ ⟨h17t,h17f,hm17⟩
 refine Ln (Et ?_)
 refine Cc rfl (fun hc0=>?_) (fun hc0=>?_)
 ·
  have hq17:=h17t hc0
  have ok17:=tHas hokg hq17
  obtain ⟨n,hn,hA⟩:=hA
  obtain ⟨n,rfl⟩:∃k,n=k+1:=⟨n-1,by omega⟩
  refine Ck (Et (Cb (Cs ?_)))
  refine CU (fun _=>true) [0,1] [6,7] (.q false 0 (.q true 1 (.q false 2 (.e 3 (.e 4 (.e 5 .nil .stop) .stop) .stop)))) mixed (by kernel_rfl) (fun _ _ _ d _ _ h=>by cases d<;>exact h) ?_
  refine Uq rfl (.inl rfl) rfl (fun _ h=>by have h:=Ws.out 0 h; have h:=Ws.out 1 h; exact h) (Yf fo27_1 rfl) ?_
  refine Uq rfl (.inl rfl) rfl (fun _ h=>by have h:=Ws.out 0 h; have h:=Ws.out 1 h; exact h) (Yd 0 rfl rfl rfl na22) ?_
  refine Uq rfl (.inl rfl) rfl (fun _ h=>by have h:=Ws.out 0 h; have h:=Ws.out 1 h; exact h) (Ym rfl) ?_
  refine Ue rfl (fun _ h=>by have h:=Ws.out 0 h; have h:=Ws.out 1 h; exact h) ?_ WU.stop
  refine Lf 0 rfl ?_
  refine Lwx (ι:=(Tx)×(Option Addr×Nat)×Tk) (κ:=(Option Addr×Nat)×Tk) [_] _ (.inl rfl) rfl en69 rfl rfl (fun i=>st i.1) (fun i=>glassL gb i.2.1 i.2.2) (fun i=>namP q17=some (i.1,i.2.2)∧Sl rdTok 3 HT i.2.1.1 i.2.1.2 i.2.2) (fun _=>brk) (fun i=>glassL gb i.1 i.2) (fun _=>namP q17=none) ([HT]) (by simp) (fun w hw=>(gname_any gb HT r17 q17 w hm17 hw).mono fun e w' h=>by
      rcases h with ⟨t,r2,q,h1,h2,h3,h4⟩ | ⟨r2,q,h1,h2,h3⟩
      · exact .inl ⟨(t,r2,q),h1,⟨h2,h3⟩,h4⟩
      · exact .inr ⟨(r2,q),h1,h2,h3⟩) ?_ ?_
  ·
   intro ⟨rp,qp⟩ hp
   refine Ep ?_
   refine Ep ?_
   refine WE.block_panic ?_
   refine Ep ?_
   refine WE.block_panic ?_
   refine Ep ?_
   refine Epp fun w' hw=>?_
   rw [usesL_b1 hq17 hp] at hA
   exact .inr ⟨rp,qp,rfl,by rw [mod_use hq9 hq11 hq15]; simp only [w_main,hA,Option.bind_some,Option.map_some,Option.bind_none,Option.map_none],(by have h:=hw; have h:=Ws.keep (L:=[_]) h; have h:=Ws.drops h (Vs':=[HT]) (by simp); exact h)⟩
  intro ⟨s21,r21,q21⟩ ⟨hq21,hm21⟩
  have ok21:=tNam ok17 hq21
  refine Ln (Eu ?_)
  refine Ue rfl (fun _ h=>by have h:=Ws.out 0 h; have h:=Ws.out 1 h; exact h) ?_ WU.stop
  refine Lb (.inl rfl) rfl el22 rfl rfl rfl rfl fun b22=>?_
  refine Lrb 0 (.cells (strC s21).toArray 9 (0,0)) rfl rfl ?_
  refine Ln (Eu ?_)
  refine Ue rfl (fun _ h=>by have h:=Ws.drop (L:=[_]) (L':=_) h; have h:=Ws.out 0 h; have h:=Ws.out 1 h; exact h) ?_ WU.stop
  refine LA (s21:Tx) 3 0 (.inl rfl) rfl el22 rfl rfl rfl rfl rfl rfl (by have:=hok.len; omega) (by have:=hok.len; omega) fun a23 c23=>?_
  refine Ln (Eu ?_)
  refine WU.nil (fun _ h=>by have h:=Ws.drop (L:=[_]) (L':=_) h; have h:=Ws.out 0 h; have h:=Ws.out 1 h; exact h) ?_
  refine WS.e rfl ?_
  refine V0 (Yf fo27_1 rfl) ?_
  refine Ln (Es ?_)
  refine WS.e rfl ?_
  refine Lst 2 (.inl rfl) rfl rfl rfl sz22 rfl rfl rfl ?_
  refine Ln (Es ?_)
  refine WS.nil ?_
  refine Et (Cr ?_)
  refine V0 (Ym rfl) ?_
  refine Lb (.inl rfl) rfl el22 rfl rfl rfl rfl fun b26=>?_
  refine Lsv (T:=9) (m:=1) 0 [[59]] rfl rfl (show 1≤1 by decide) (by decide) fun H26 hH26=>?_
  refine Lf 1 rfl ?_
  refine Lwx (ι:=(Option Addr×Nat)×Tk) (κ:=(Option Addr×Nat)×Tk) [_] _ (.inl rfl) rfl en68 rfl rfl (fun _=>.tuple #[]) (fun i=>glassL gb i.1 i.2) (fun i=>mustT [[59]] q21=some i.2∧Sl rdTok 3 HT i.1.1 i.1.2 i.2) (fun _=>brk) (fun i=>glassL gb i.1 i.2) (fun _=>mustT [[59]] q21=none) ([HT,H26]) (by simp) (fun w hw=>(must_any gb HT r21 q21 H26 _ _ [[59]] w hH26 hm21 hw).mono fun e w' h=>by
      rcases h with ⟨r2,q,h1,h2,h3,h4⟩ | ⟨r2,q,h1,h2,h3⟩
      · exact .inl ⟨(r2,q),h1,⟨h2,h3⟩,h4⟩
      · exact .inr ⟨(r2,q),h1,h2,h3⟩) ?_ ?_
  ·
   intro ⟨rp,qp⟩ hp
   rw [must1] at hp
   refine WE.block_panic ?_
   refine Ep ?_
   refine WE.block_panic ?_
   refine Ep ?_
   refine Epp fun w' hw=>?_
   rw [usesL_b2 hq17 hq21 hp] at hA
   exact .inr ⟨rp,qp,rfl,by rw [mod_use hq9 hq11 hq15]; simp only [w_main,hA,Option.bind_some,Option.map_some,Option.bind_none,Option.map_none],(by have h:=hw; have h:=Ws.keep (L:=[_]) h; have h:=Ws.drops h (Vs':=[HT]) (by simp); exact h)⟩
  intro ⟨r27,q27⟩ ⟨hq27,hm27⟩
  have ok27:=tMust ok21 hq27
  rw [must1] at hq27
  refine Ln (Eb ?_)
  exact Ea (⟨g.us++[s21],a23,c23,r27,q27⟩:GU) (by have:q17.length+1=g.q.length:=hasT_len hq17; have:q21.length<q17.length:=nam_len ok17 hq21; have:q27.length+1=q21.length:=hasT_len hq27; show q27.length<g.q.length; omega) ⟨⟨by have:q17.length+1=g.q.length:=hasT_len hq17; have:q21.length<q17.length:=nam_len ok17 hq21; have:q27.length+1=q21.length:=hasT_len hq27; simp; omega,ok27⟩,hm27,n,(show q27.length<n by have:q17.length+1=g.q.length:=hasT_len hq17; have:q21.length<q17.length:=nam_len ok17 hq21; have:q27.length+1=q21.length:=hasT_len hq27; omega),by rw [hA,usesL_more hq17 hq21 hq27]; simp [Function.comp_def]⟩ (sc rfl (sc rfl (sc rfl sn))) (fun _ h=>by
      have h:=h.fronti 6 rfl
      have h:=h.fronti 6 rfl
      have h:=h.fronti 6 rfl
      have h:=h.fronti 6 rfl
      have h:=h.fronti 6 rfl
      have h:=h.fronti 5 rfl
      have h:=Ws.keep (L:=[_,_,_,_,_,_]) h
      have h:=Ws.drops h (Vs':=[v0,HT]) (by simp)
      exact h)
 ·
  obtain ⟨hn17,hl17⟩:=h17f hc0
  subst hl17
  obtain ⟨n,hn,hA⟩:=hA
  obtain ⟨n,rfl⟩:∃k,n=k+1:=⟨n-1,by omega⟩
  rw [usesL_end hn17] at hA
  simp at hA
  refine Ce (Ex (Ex (Ebh (Et (Cs ?_)))))
  refine Cr ?_
  refine V0 (Ym rfl) ?_
  refine Lf 0 rfl ?_
  refine Lw (ι:=Bool×(Option Addr×Nat)×Tk) [_] _ (.inl rfl) rfl en70 rfl rfl (fun i=>.bool i.1) (fun i=>glassL gb i.2.1 i.2.2) (fun i=>(i.1=true→hasT [112,117,98] g.q=some i.2.2)∧(i.1=false→hasT [112,117,98] g.q=none∧g.q=i.2.2)∧Sl rdTok 3 HT i.2.1.1 i.2.1.2 i.2.2) [HT] (by simp) (fun w hw=>has_any gb HT r17 g.q [112,117,98] w hm17 hw) ?_
  intro ⟨b29,r29,q29⟩ ⟨h29t,h29f,hm29⟩
  have hp29:pubP g.q=(b29,q29):=pub_of h29t h29f
  obtain ⟨ok29,le29⟩:TOk q29∧q29.length≤List.length (g.q):=tPub hokg h29t h29f
  refine V0 (Ya rfl) ?_
  refine Ln (Et (Cs (Cb ?_)))
  refine CK (ι:=GD) (fun v=>[(4,.bool v.pub)]) [(0,_),(2,_),(3,_)] (fun v=>Ws w (List.flatMap Asr.ids (glassL gb r l)) (glassL gb v.r v.q++[blk b3 (.cells (rowM s11 g.a g.us.length g.c v.a v.ds.length v.c none 0 0 none 0 0).toArray 27 (0,0)),osT 9 1 strC g.a g.c g.us,osT 109 4 TDecl.cells v.a v.c v.ds,osT 86 5 PX.cells none 0 ([]:List PX),blk b2 (.cells (rowM [] none 0 0 none 0 0 none 0 0 none 0 0).toArray 27 (0,0))]) [v0,HT]) (fun v=>(v.ds.length+v.q.length≤l.length∧TOk v.q)∧Sl rdTok 3 HT v.r.1 v.r.2 v.q∧∃n,v.q.length<n∧declsL (q29.length+1) b29 q29=(declsL n v.pub v.q).map fun p=>((v.ds++p.1.1,p.1.2),p.2)) (fun v=>v.q.length) ⟨[],none,0,b29,r29,q29⟩ ⟨⟨by simp; omega,ok29⟩,hm29,q29.length+1,by simp,by simp⟩ (sc rfl (sc rfl (sc rfl (sc rfl sn)))) (fun _ h=>h) ?_
  intro v ⟨⟨hlen2,hokv⟩,hmv,hB⟩
  refine Cb (Cs (Cr ?_))
  refine V0 (Ym rfl) ?_
  refine V0 (Ym rfl) ?_
  refine Lf 0 rfl ?_
  refine Lwx (ι:=(Option TDecl)×(Option Addr×Nat)×Tk) (κ:=(Option Addr×Nat)×Tk) [_] _ (.inl rfl) rfl en71 rfl rfl (fun i=>.tuple #[.agg #[.int .i64 ((i.1).getD (⟨0,[],v.pub,0⟩:TDecl)).kind,st ((i.1).getD (⟨0,[],v.pub,0⟩:TDecl)).nm,.bool ((i.1).getD (⟨0,[],v.pub,0⟩:TDecl)).pub,.int .i64 ((i.1).getD (⟨0,[],v.pub,0⟩:TDecl)).n],.bool (i.1).isSome]) (fun i=>glassL gb i.2.1 i.2.2) (fun i=>declP v.pub v.q=some (i.1,i.2.2)∧Sl rdTok 3 HT i.2.1.1 i.2.1.2 i.2.2) (fun _=>brk) (fun i=>glassL gb i.1 i.2) (fun _=>declP v.pub v.q=none) ([HT]) (by simp) (fun w hw=>(gdecl_any gb HT v.r v.q v.pub w hokv hmv hw).mono fun e w' h=>by
      rcases h with ⟨t,r2,q,h1,h2,h3,h4⟩ | ⟨r2,q,h1,h2,h3⟩
      · exact .inl ⟨(t,r2,q),h1,⟨h2,h3⟩,h4⟩
      · exact .inr ⟨(r2,q),h1,h2,h3⟩) ?_ ?_
  ·
   intro ⟨rp,qp⟩ hp
   refine Ep ?_
   refine WE.block_panic ?_
   refine Ep ?_
   refine WE.block_panic ?_
   refine Ep ?_
   refine Epp fun w' hw=>?_
   obtain ⟨n,hn,hB⟩:=hB
   obtain ⟨n,rfl⟩:∃k,n=k+1:=⟨n-1,by omega⟩
   rw [declsL_bad hp] at hB
   exact .inr ⟨rp,qp,rfl,by rw [mod_use hq9 hq11 hq15]; simp only [w_main,hA,hp29,hB,Option.bind_some,Option.map_some,Option.bind_none,Option.map_none],(by have h:=hw; have h:=Ws.keep (L:=[_]) h; have h:=Ws.drops h (Vs':=[HT]) (by simp); exact h)⟩
  intro ⟨o33,r33,q33⟩ ⟨hq33,hm33⟩
  have ok33:=tDecl hokv hq33
  refine V0 (Ym rfl) ?_
  refine V0 (Yx rfl rfl) ?_
  refine V0 (Yx rfl rfl) ?_
  refine WL.alloc (.inl rfl) rfl zr109 fun b5=>?_
  refine Lst 0 (.inl rfl) rfl rfl rfl sz109 rfl rfl rfl ?_
  refine V0 (Ya rfl) ?_
  refine Ln (Et (Cs (Cs (Cr ?_))))
  refine V0 (Ym rfl) ?_
  refine V0 (yl_not rfl) ?_
  refine Ln (Et ?_)
  refine Cc rfl (fun hc1=>?_) (fun hc1=>?_)
  ·
   obtain ⟨n,hn,hB⟩:=hB
   obtain ⟨n,rfl⟩:∃k,n=k+1:=⟨n-1,by omega⟩
   cases hd33:o33 with
   | some x=>rw [hd33] at hc1; simp at hc1
   | none=>
   rw [hd33] at hq33
   have hq33b:q33=v.q:=declP_none hq33
   rw [declsL_end hq33] at hB
   simp at hB
   refine Ce (Ex (Ebm rfl (Ex (Ebh (Et ?_)))))
   refine Cs (Cb ?_)
   refine CK (ι:=GM) (fun e=>[(4,.bool e.pub)]) [(0,_),(2,_),(3,_)] (fun e=>Ws w (List.flatMap Asr.ids (glassL gb r l)) (glassL gb e.r e.q++[blk b3 (.cells (rowM s11 g.a g.us.length g.c v.a v.ds.length v.c e.a e.ps.length e.c none 0 0).toArray 27 (0,0)),osT 9 1 strC g.a g.c g.us,osT 109 4 TDecl.cells v.a v.c v.ds,osT 86 5 PX.cells e.a e.c e.ps,blk b2 (.cells (rowM [] none 0 0 none 0 0 none 0 0 none 0 0).toArray 27 (0,0))]) [e.J,HT]) (fun e=>(e.ps.length+e.q.length≤l.length∧TOk e.q)∧Sl rdTok 3 HT e.r.1 e.r.2 e.q∧(Fresh w e.J∧PXs e.J e.ps)∧∃n,e.q.length<n∧procsL (q33.length+1) v.pub q33=(procsL n e.pub e.q).map fun p=>((e.ps.map (·.1)++p.1.1,p.1.2),p.2)) (fun e=>e.q.length) ⟨[],none,0,v0,v.pub,r33,q33⟩ ⟨⟨(by have h:=congrArg List.length hq33b; simp at h ⊢; omega),ok33⟩,hm33,⟨v0_fresh w,PXs.nil _⟩,q33.length+1,by simp,by simp⟩ (sc rfl (sc rfl (sc rfl (sc rfl sn)))) (fun _ h=>by have h:=h.fronti 6 rfl; have h:=h.fronti 6 rfl; have h:=h.fronti 6 rfl; have h:=h.fronti 6 rfl; have h:=h.fronti 6 rfl; have h:=h.fronti 6 rfl; have h:=Ws.keep (L:=[_,_,_,_,_,_]) h; have h:=Ws.drops h (Vs':=[v0,HT]) (by simp); exact h) ?_
   intro e ⟨⟨hlen3,hoke⟩,hme,⟨hfJ,hPX⟩,hC⟩
   refine Cs (Cs (Cr ?_))
   refine V0 (Ym rfl) ?_
   refine Lf 0 rfl ?_
   refine Lw (ι:=Bool×(Option Addr×Nat)×Tk) [_] _ (.inl rfl) rfl en70 rfl rfl (fun i=>.bool i.1) (fun i=>glassL gb i.2.1 i.2.2) (fun i=>(i.1=true→hasT [112,114,111,99] e.q=some i.2.2)∧(i.1=false→hasT [112,114,111,99] e.q=none∧e.q=i.2.2)∧Sl rdTok 3 HT i.2.1.1 i.2.1.2 i.2.2) [HT] (by simp) (fun w hw=>has_any gb HT e.r e.q [112,114,111,99] w hme hw) ?_
   intro ⟨b47,r47,q47⟩ ⟨h47t,h47f,hm47⟩
   refine Ln (Et ?_)
   refine Cc rfl (fun hc2=>?_) (fun hc2=>?_)
   ·
    have hq47:=h47t hc2
    have ok47:=tHas hoke hq47
    obtain ⟨n,hn,hC⟩:=hC
    obtain ⟨n,rfl⟩:∃k,n=k+1:=⟨n-1,by omega⟩
    refine Ck (Et (Cb (Cs ?_)))
    refine CU (fun _=>true) [0,3] [7,8] (.q false 0 (.q true 1 (.q false 2 (.q false 3 (.e 4 (.e 5 (.e 6 .nil .stop) .stop) .stop))))) mixed (by kernel_rfl) (fun _ _ _ d _ _ h=>by cases d<;>exact h) ?_
    refine Uq rfl (.inl rfl) rfl (fun _ h=>by have h:=Ws.out 0 h; have h:=Ws.out 3 h; exact h) (Yf fo27_3 rfl) ?_
    refine Uq rfl (.inl rfl) rfl (fun _ h=>by have h:=Ws.out 0 h; have h:=Ws.out 3 h; exact h) (Yd 0 rfl rfl rfl na24) ?_
    refine Uq rfl (.inl rfl) rfl (fun _ h=>by have h:=Ws.out 0 h; have h:=Ws.out 3 h; exact h) (Ym rfl) ?_
    refine Uq rfl (.inl rfl) rfl (fun _ h=>by have h:=Ws.out 0 h; have h:=Ws.out 3 h; exact h) (Ym rfl) ?_
    refine Ue rfl (fun _ h=>by have h:=Ws.out 0 h; have h:=Ws.out 3 h; exact h) ?_ WU.stop
    refine Lf 0 rfl ?_
    refine Lwy (ι:=(TProc×PAt)×(Option Addr×Nat)×Tk) (κ:=(Option Addr×Nat)×Tk) [_] _ (.inl rfl) rfl en72 rfl rfl (fun i=>.agg #[st (i.1.1).nm,.bool (i.1.1).pub,.slice (i.1.2).s1.1 (i.1.1).params.length (i.1.2).s1.2,.slice (i.1.2).s2.1 (i.1.1).locs.length (i.1.2).s2.2,.slice (i.1.2).s3.1 (i.1.1).body.length (i.1.2).s3.2]) (fun i=>glassL gb i.2.1 i.2.2) (fun F i=>procP e.pub q47=some (i.1.1,i.2.2)∧SlP F i.1.1 i.1.2∧Sl rdTok 3 HT i.2.1.1 i.2.1.2 i.2.2) (fun _=>brk) (fun i=>glassL gb i.1 i.2) (fun _=>procP e.pub q47=none) ([HT]) (by simp) (fun _ _ h=>h) (fun w hw=>(gproc_any gb HT r47 q47 e.pub w ok47 hm47 hw).mono fun e w' h=>by
        rcases h with ⟨x,s,r2,q,h1,h2,h3,h4,h5⟩ | ⟨r2,q,h1,h2,h3⟩
        · exact .inl ⟨((x,s),r2,q),h1,⟨h2,h3,h4⟩,h5⟩
        · exact .inr ⟨(r2,q),h1,h2,h3⟩) ?_ ?_
    ·
     intro ⟨rp,qp⟩ hp
     refine Ep ?_
     refine Ep ?_
     refine WE.block_panic ?_
     refine Ep ?_
     refine WE.block_panic ?_
     refine Ep ?_
     refine Epp fun w' hw=>?_
     rw [procsL_bad hq47 hp] at hC
     exact .inr ⟨rp,qp,rfl,by rw [mod_use hq9 hq11 hq15]; simp only [w_main,hA,hp29,hB,hC,Option.bind_some,Option.map_some,Option.bind_none,Option.map_none],(by have h:=hw; have h:=Ws.keep (L:=[_]) h; have h:=Ws.drops h (Vs':=[HT]) (by simp); exact h)⟩
    intro F52 ⟨⟨p52,s52⟩,r52,q52⟩ hf52 ⟨hq52,hx52,hm52⟩
    have ok52:TOk q52:=tProc ok47 hq52
    refine Ln (Eu ?_)
    refine Ue rfl (fun _ h=>by have h:=Ws.out 0 h; have h:=Ws.out 3 h; have h:=Ws.drops h (fun _ hm=>List.mem_append_right [_] hm); exact h) ?_ WU.stop
    refine Lb (.inl rfl) rfl el24 rfl rfl rfl rfl fun b53=>?_
    refine Lrb 0 (.cells (PX.cells (p52,s52)).toArray 86 (0,0)) rfl rfl ?_
    refine Ln (Eu ?_)
    refine Ue rfl (fun _ h=>by have h:=Ws.drop (L:=[_]) (L':=_) h; have h:=Ws.out 0 h; have h:=Ws.out 3 h; have h:=Ws.drops h (fun _ hm=>List.mem_append_right [_] hm); exact h) ?_ WU.stop
    refine LA ((p52,s52):PX) 5 0 (.inl rfl) rfl el24 rfl rfl rfl rfl rfl rfl (by have:=hok.len; omega) (by have:=hok.len; omega) fun a54 c54=>?_
    refine Ln (Eu ?_)
    refine WU.nil (fun _ h=>by have h:=Ws.drop (L:=[_]) (L':=_) h; have h:=Ws.out 0 h; have h:=Ws.out 3 h; have h:=Ws.drops h (fun _ hm=>List.mem_append_right [_] hm); exact h) ?_
    refine WS.e rfl ?_
    refine V0 (Yf fo27_3 rfl) ?_
    refine Ln (Es ?_)
    refine WS.e rfl ?_
    refine Lst 2 (.inl rfl) rfl rfl rfl sz24 rfl rfl rfl ?_
    refine Ln (Es ?_)
    refine WS.nil ?_
    refine Et ?_
    refine WC.vjoin fun J52 j52a j52b j52f=>?_
    refine Cr ?_
    refine V0 (Ym rfl) ?_
    refine Lf 1 rfl ?_
    refine Lw (ι:=Bool×(Option Addr×Nat)×Tk) [_] _ (.inl rfl) rfl en70 rfl rfl (fun i=>.bool i.1) (fun i=>glassL gb i.2.1 i.2.2) (fun i=>(i.1=true→hasT [112,117,98] q52=some i.2.2)∧(i.1=false→hasT [112,117,98] q52=none∧q52=i.2.2)∧Sl rdTok 3 HT i.2.1.1 i.2.1.2 i.2.2) [HT] (by simp) (fun w hw=>has_any gb HT r52 q52 [112,117,98] w hm52 hw) ?_
    intro ⟨b57,r57,q57⟩ ⟨h57t,h57f,hm57⟩
    have hp57:pubP q52=(b57,q57):=pub_of h57t h57f
    obtain ⟨ok57,le57⟩:TOk q57∧q57.length≤List.length (q52):=tPub ok52 h57t h57f
    refine V0 (Ya rfl) ?_
    refine Ln (Eb ?_)
    exact Ea (⟨e.ps++[(p52,s52)],a54,c54,J52,b57,r57,q57⟩:GM) (by have:q47.length+1=e.q.length:=hasT_len hq47; have:q52.length<q47.length:=proc_len ok47 hq52; show q57.length<e.q.length; omega) ⟨⟨by have:q47.length+1=e.q.length:=hasT_len hq47; have:q52.length<q47.length:=proc_len ok47 hq52; simp; omega,ok57⟩,hm57,⟨j52f _ hf52 hfJ,PXs.snoc hPX j52b j52a hx52⟩,n,(show q57.length<n by have:q47.length+1=e.q.length:=hasT_len hq47; have:q52.length<q47.length:=proc_len ok47 hq52; omega),by rw [hC,procsL_more hq47 hq52 hp57]; simp [Function.comp_def]⟩ (sc rfl (sc rfl (sc rfl (sc rfl sn)))) (fun _ h=>by
        have h:=h.fronti 6 rfl
        have h:=h.fronti 6 rfl
        have h:=h.fronti 6 rfl
        have h:=h.fronti 6 rfl
        have h:=h.fronti 6 rfl
        have h:=h.fronti 5 rfl
        have h:=Ws.keep (L:=[_,_,_,_,_,_]) h
        have h:=Ws.drops h (Vs':=[J52,HT]) (by simp)
        exact h)
   ·
    obtain ⟨hn47,hl47⟩:=h47f hc2
    subst hl47
    obtain ⟨n,hn,hC⟩:=hC
    obtain ⟨n,rfl⟩:∃k,n=k+1:=⟨n-1,by omega⟩
    rw [procsL_end hn47] at hC
    simp at hC
    refine Ce (Ex (Ex (Ebh (Et (Cs ?_)))))
    refine Cs (Cr ?_)
    refine V0 (Ym rfl) ?_
    refine Ln (Et ?_)
    refine Cc rfl (fun hc3=>?_) (fun hc3=>?_)
    ·
     have hpb:e.pub=true:=hc3
     refine Cr ?_
     refine V0 (Yb zr126 pl126 rfl rfl) ?_
     refine V0 (yl_mki co126 rfl) ?_
     refine WL.panic (.inl rfl) rfl ?_
     refine Ep ?_
     refine Epp fun w' hw=>?_
     exact .inr ⟨r47,e.q,rfl,by rw [mod_use hq9 hq11 hq15]; simp only [w_main,hA,hp29,hB,hC,hpb,if_true,Option.bind_some,Option.map_some,Option.bind_none,Option.map_none],(by have h:=hw; have h:=Ws.keep (L:=[_]) h; have h:=Ws.drops h (Vs':=[HT]) (by simp); exact h)⟩
    ·
     have hpb:e.pub=false:=hc3
     refine Ck (Et (Cs (Cr ?_)))
     refine V0 (Ym rfl) ?_
     refine Lb (.inl rfl) rfl el22 rfl rfl rfl rfl fun b62=>?_
     refine Lsv (T:=9) (m:=1) 0 [[109,97,105,110]] rfl rfl (show 1≤1 by decide) (by decide) fun H62 hH62=>?_
     refine Lf 0 rfl ?_
     refine Lwx (ι:=(Option Addr×Nat)×Tk) (κ:=(Option Addr×Nat)×Tk) [_] _ (.inl rfl) rfl en68 rfl rfl (fun _=>.tuple #[]) (fun i=>glassL gb i.1 i.2) (fun i=>mustT [[109,97,105,110]] e.q=some i.2∧Sl rdTok 3 HT i.1.1 i.1.2 i.2) (fun _=>brk) (fun i=>glassL gb i.1 i.2) (fun _=>mustT [[109,97,105,110]] e.q=none) ([HT,H62]) (by simp) (fun w hw=>(must_any gb HT r47 e.q H62 _ _ [[109,97,105,110]] w hH62 hm47 hw).mono fun e w' h=>by
         rcases h with ⟨r2,q,h1,h2,h3,h4⟩ | ⟨r2,q,h1,h2,h3⟩
         · exact .inl ⟨(r2,q),h1,⟨h2,h3⟩,h4⟩
         · exact .inr ⟨(r2,q),h1,h2,h3⟩) ?_ ?_
     ·
      intro ⟨rp,qp⟩ hp
      rw [must1] at hp
      refine Ep ?_
      refine Epp fun w' hw=>?_
      exact .inr ⟨rp,qp,rfl,by rw [mod_use hq9 hq11 hq15]; simp only [w_main,hA,hp29,hB,hC,hpb,hp,Bool.false_eq_true,if_false,Option.bind_some,Option.map_some,Option.bind_none,Option.map_none],(by have h:=hw; have h:=Ws.keep (L:=[_]) h; have h:=Ws.drops h (Vs':=[HT]) (by simp); exact h)⟩
     intro ⟨r63,q63⟩ ⟨hq63,hm63⟩
     have ok63:=tMust hoke hq63
     rw [must1] at hq63
     refine Ln (Et (Cs (Cr ?_)))
     refine V0 (Ym rfl) ?_
     refine Lf 0 rfl ?_
     refine Lwy (ι:=((List TStmt)×(Option Addr×Nat))×(Option Addr×Nat)×Tk) (κ:=(Option Addr×Nat)×Tk) [_] _ (.inl rfl) rfl en73 rfl rfl (fun i=>.slice i.1.2.1 i.1.1.length i.1.2.2) (fun i=>glassL gb i.2.1 i.2.2) (fun F i=>blockP 6 q63=some (i.1.1,i.2.2)∧Sl (RdS 7 6) 6 F i.1.2.1 i.1.2.2 i.1.1∧Sl rdTok 3 HT i.2.1.1 i.2.1.2 i.2.2) (fun _=>brk) (fun i=>glassL gb i.1 i.2) (fun _=>blockP 6 q63=none) ([HT]) (by simp) (fun _ _ h=>h) (fun w hw=>(gblock_any HT 6 gb r63 q63 (1) w (by omega) ok63 hm63 hw).mono fun e w' h=>by
         rcases h with ⟨x,s,r2,q,h1,h2,h3,h4,h5⟩ | ⟨r2,q,h1,h2,h3⟩
         · exact .inl ⟨((x,s),r2,q),h1,⟨h2,h3,h4⟩,h5⟩
         · exact .inr ⟨(r2,q),h1,h2,h3⟩) ?_ ?_
     ·
      intro ⟨rp,qp⟩ hp
      refine Ep ?_
      refine Epp fun w' hw=>?_
      exact .inr ⟨rp,qp,rfl,by rw [mod_use hq9 hq11 hq15]; simp only [w_main,hA,hp29,hB,hC,hpb,hq63,hp,Bool.false_eq_true,if_false,Option.bind_some,Option.map_some,Option.bind_none,Option.map_none],(by have h:=hw; have h:=Ws.keep (L:=[_]) h; have h:=Ws.drops h (Vs':=[HT]) (by simp); exact h)⟩
     intro F65 ⟨⟨b_65,s65⟩,r65,q65⟩ hf65 ⟨hq65,hx65,hm65⟩
     have ok65:TOk q65:=tBlock ok63 hq65
     refine V0 (Yf fo27_4 rfl) ?_
     refine Lst 1 (.inl rfl) rfl rfl rfl sz25 rfl rfl rfl ?_
     refine Ln (Et (Cs (Cr ?_)))
     refine V0 (Ym rfl) ?_
     refine Lb (.inl rfl) rfl el22 rfl rfl rfl rfl fun b68=>?_
     refine Lsv (T:=9) (m:=1) 0 [[125]] rfl rfl (show 1≤1 by decide) (by decide) fun H68 hH68=>?_
     refine Lf 0 rfl ?_
     refine Lwx (ι:=(Option Addr×Nat)×Tk) (κ:=(Option Addr×Nat)×Tk) [_] _ (.inl rfl) rfl en68 rfl rfl (fun _=>.tuple #[]) (fun i=>glassL gb i.1 i.2) (fun i=>mustT [[125]] q65=some i.2∧Sl rdTok 3 HT i.1.1 i.1.2 i.2) (fun _=>brk) (fun i=>glassL gb i.1 i.2) (fun _=>mustT [[125]] q65=none) ([HT,H68]) (by simp) (fun w hw=>(must_any gb HT r65 q65 H68 _ _ [[125]] w hH68 hm65 hw).mono fun e w' h=>by
         rcases h with ⟨r2,q,h1,h2,h3,h4⟩ | ⟨r2,q,h1,h2,h3⟩
         · exact .inl ⟨(r2,q),h1,⟨h2,h3⟩,h4⟩
         · exact .inr ⟨(r2,q),h1,h2,h3⟩) ?_ ?_
     ·
      intro ⟨rp,qp⟩ hp
      rw [must1] at hp
      refine Ep ?_
      refine Epp fun w' hw=>?_
      exact .inr ⟨rp,qp,rfl,by rw [mod_use hq9 hq11 hq15]; simp only [w_main,hA,hp29,hB,hC,hpb,hq63,hq65,hp,Bool.false_eq_true,if_false,Option.bind_some,Option.map_some,Option.bind_none,Option.map_none],(by have h:=hw; have h:=Ws.keep (L:=[_]) h; have h:=Ws.drops h (Vs':=[HT]) (by simp); exact h)⟩
     intro ⟨r69,q69⟩ ⟨hq69,hm69⟩
     have ok69:=tMust ok65 hq69
     rw [must1] at hq69
     refine Ln (Et (Cs ?_))
     refine WC.oslN (rd:=rdStr) 2 rfl (fun k hk=>by simp [glassL,blk] at hk; subst hk; simp [outOf,glassL,blk,osl]) strC_len (fun _ _ _ _ h=>h) fun KU fKU hKU=>?_
     refine WC.oslN (rd:=rdDecl) 2 rfl (fun k hk=>by simp [glassL,blk] at hk; subst hk; simp [outOf,glassL,blk,osl]) TDecl.cells_len (fun _ _ _ _ h=>h) fun KD fKD hKD=>?_
     refine WC.oslN (rd:=rdPX) 2 rfl (fun k hk=>by simp [glassL,blk] at hk; subst hk; simp [outOf,glassL,blk,osl]) PX.cells_len (fun _ _ _ _ h=>h) fun KP fKP hKP=>?_
     refine Cr ?_
     refine V0 (Yda 1 rfl rfl ag27 rfl) ?_
     refine Lst 2 (.inl rfl) rfl rfl rfl sz27 rfl rfl rfl ?_
     refine Ln (Et (Crt ?_))
     refine WE.retR (rs_1 rfl (rv_agg 2 rfl rfl ag27 rfl)) fun w' hw=>?_
     exact .inl ⟨⟨s11,g.us,v.ds,e.ps.map (·.1),b_65⟩,⟨g.a,g.c,v.a,v.c,e.a,e.c,s65.1,s65.2⟩,r69,q69,by show Ending.returned (.agg #[st s11,.slice g.a g.us.length g.c,.slice v.a v.ds.length v.c,.slice e.a e.ps.length e.c,.slice s65.1 b_65.length s65.2])=_; simp [modV],by rw [mod_use hq9 hq11 hq15]; simp only [w_main,hA,hp29,hB,hC,hpb,hq63,hq65,hq69,Bool.false_eq_true,if_false,Option.bind_some,Option.map_some,Option.bind_none,Option.map_none],⟨slStr_mv hKU (nv_vs hw (by simp) fKU),slDecl_mv hKD (nv_vs hw (by simp) fKD),slP_of hKP (nv_vs hw (by simp) fKP) (nv_vs hw (by simp) hfJ) hPX,slS_mv hx65 (nv_vs hw (by simp) hf65)⟩,hm69,Ws.drops (Ws.keep (L:=[_]) hw) (fun _ hm=>List.mem_append_right [_,_,_,_,_,_,_] hm)⟩
  ·
   obtain ⟨n,hn,hB⟩:=hB
   obtain ⟨n,rfl⟩:∃k,n=k+1:=⟨n-1,by omega⟩
   obtain ⟨x33,hd33⟩:∃x,o33=some x:=by
     cases o33 with
     | none=>simp at hc1
     | some x=>exact ⟨x,rfl⟩
   subst hd33
   have hl33:q33.length<v.q.length:=decl_len hokv hq33
   refine Ck (Et (Cs (Cr ?_)))
   refine V0 (Yf fo27_2 rfl) ?_
   refine V0 (Yd 2 rfl rfl rfl na23) ?_
   refine V0 (Yda 0 rfl rfl ag109 rfl) ?_
   refine Lb (.inl rfl) rfl el23 rfl rfl rfl rfl fun b41=>?_
   refine Lrb 0 (.cells (TDecl.cells x33).toArray 109 (0,0)) rfl rfl ?_
   refine LA (x33:TDecl) 5 0 (.inl rfl) rfl el23 rfl rfl rfl rfl rfl rfl (by have:=hok.len; omega) (by have:=hok.len; omega) fun a42 c42=>?_
   refine V0 (Yf fo27_2 rfl) ?_
   refine Lst 3 (.inl rfl) rfl rfl rfl sz23 rfl rfl rfl ?_
   refine Ln (Et (Cr ?_))
   refine V0 (Ym rfl) ?_
   refine Lf 2 rfl ?_
   refine Lw (ι:=Bool×(Option Addr×Nat)×Tk) [_] _ (.inl rfl) rfl en70 rfl rfl (fun i=>.bool i.1) (fun i=>glassL gb i.2.1 i.2.2) (fun i=>(i.1=true→hasT [112,117,98] q33=some i.2.2)∧(i.1=false→hasT [112,117,98] q33=none∧q33=i.2.2)∧Sl rdTok 3 HT i.2.1.1 i.2.1.2 i.2.2) [HT] (by simp) (fun w hw=>has_any gb HT r33 q33 [112,117,98] w hm33 hw) ?_
   intro ⟨b45,r45,q45⟩ ⟨h45t,h45f,hm45⟩
   have hp45:pubP q33=(b45,q45):=pub_of h45t h45f
   obtain ⟨ok45,le45⟩:TOk q45∧q45.length≤List.length (q33):=tPub ok33 h45t h45f
   refine V0 (Ya rfl) ?_
   refine Ln (Eb ?_)
   exact Ea (⟨v.ds++[x33],a42,c42,b45,r45,q45⟩:GD) (by show q45.length<v.q.length; omega) ⟨⟨by simp; omega,ok45⟩,hm45,n,(show q45.length<n by omega),by rw [hB,declsL_more hq33 hp45]; simp [Function.comp_def]⟩ (sc rfl (sc rfl (sc rfl (sc rfl sn)))) (fun _ h=>by
       have h:=h.fronti 7 rfl
       have h:=h.fronti 7 rfl
       have h:=h.fronti 7 rfl
       have h:=h.fronti 7 rfl
       have h:=h.fronti 7 rfl
       have h:=h.fronti 5 rfl
       have h:=Ws.keep (L:=[_,_,_,_,_,_]) h
       have h:=Ws.drops h (Vs':=[v0,HT]) (by simp)
       exact h)
end Go.Proofs.YtinnlppbkhhoiaaGreatDoor
end
section
namespace Go.Proofs.YtinnlppbkhhoiaaGreatDoor
open Go.Bw
set_option linter.unusedVariables false
set_option linter.unusedSimpArgs false
theorem parse_err {s:Tx} (h:¬(lexR s).2=0):parseM s=(noMod,(lexR s).2):=by rw [parseM,if_pos h]
theorem parse_no {s:Tx} (h:(lexR s).2=0) (h1:modP (lexR s).1=none):parseM s=(noMod,1):=by rw [parseM,if_neg (by simp [h]),h1]
theorem parse_more {s:Tx} {m:TMod} {q:Tk} (h:(lexR s).2=0) (h1:modP (lexR s).1=some (m,q)) (h2:0<q.length∨¬checkM m=0):parseM s=(noMod,1):=by
 rw [parseM,if_neg (by simp [h]),h1]
 cases q with
 | cons t r=>rfl
 | nil=>
   simp only
   rw [if_neg]
   rcases h2 with h2 | h2
   · simp at h2
   · exact h2
theorem parse_yes {s:Tx} {m:TMod} {q:Tk} (h:(lexR s).2=0) (h1:modP (lexR s).1=some (m,q)) (h2:q.length=0) (h3:checkM m=0):parseM s=(m,0):=by
 rw [parseM,if_neg (by simp [h]),h1]
 obtain rfl:q=[]:=List.eq_nil_of_length_eq_zero h2
 simp only
 rw [if_pos h3]
theorem lexR_tok {s:Tx} (h:(lexR s).2=0):TOk (lexR s).1:=⟨lexR_ok h,(checkT_zero (lex_checks h)).2⟩
def noAt:MAt:=⟨none,0,none,0,none,0,none,0⟩
theorem noMod_rd (N:View):RdM 7 6 N noAt noMod:=⟨Sl.nil,Sl.nil,Sl.nil,Sl.nil⟩
theorem rdM_mv {H N:View} {ke ks:Nat} {s:MAt} {m:TMod} (h:RdM ke ks H s m) (hv:VLe H N):RdM ke ks N s m:=⟨slStr_mv h.uses hv,slDecl_mv h.decls hv,h.procs.imp fun b o x hx=>RdP_mono hv (Nat.le_refl _) (Nat.le_refl _) b o x hx,h.main.imp fun b o x hx=>RdS_mono hv (Nat.le_refl _) (Nat.le_refl _) b o x hx⟩
theorem uif20:Tryz.prog.underlying 20=some (.interface (Tryz.prog.methodsAt 20)):=by kernel_rfl
theorem sz31:sizeP Tryz.prog 31=some 1:=by kernel_rfl
theorem zr31:zeroOf Tryz.prog 31=some (.int .i64 0):=by kernel_rfl
theorem en50:Enters Tryz.prog 50:=enters_of Tryz.func50 (by kernel_rfl) rfl
theorem na31:nonAgg Tryz.prog 31=true:=by kernel_rfl
theorem pl124:placesP Tryz.prog 124=some [(0,1)]:=by kernel_rfl
theorem zr124:zeroOf Tryz.prog 124=some (.agg #[.slice none 0 0]):=by kernel_rfl
theorem en52:Enters Tryz.prog 52:=enters_of Tryz.func52 (by kernel_rfl) rfl
theorem en51:Enters Tryz.prog 51:=enters_of Tryz.func51 (by kernel_rfl) rfl
theorem en16:Enters Tryz.prog 16:=enters_of Tryz.func16 (by kernel_rfl) rfl
theorem parse1_ret (b2 b3:Nat) (m0:Array Value) (hm0:m0.size=5) (e0:Int) (w:World) (hw:Ws w (List.flatMap Asr.ids [blk b2 (.cells m0 27 (0,0)),blk b3 (.cells #[.int .i64 e0] 31 (0,0))]) [blk b2 (.cells m0 27 (0,0)),blk b3 (.cells #[.int .i64 e0] 31 (0,0))] [] w) :
   CallsD Tryz.prog 51 #[.pointer (some ⟨b2,0,none⟩),.pointer (some ⟨b3,0,none⟩)] (.returning) w fun e u2 w'=>u2 = .returning∧(e = .returned (.tuple #[])∧Ws w (List.flatMap Asr.ids [blk b2 (.cells m0 27 (0,0)),blk b3 (.cells #[.int .i64 e0] 31 (0,0))]) [blk b2 (.cells m0 27 (0,0)),blk b3 (.cells #[.int .i64 e0] 31 (0,0))] [] w'):=by
 refine closD Tryz.func51 rfl 5 rfl rfl rfl rfl rfl (fun _=>rfl) (.inl ⟨rfl,rfl,rfl⟩) ?_
 refine LW (W':=Ws w (List.flatMap Asr.ids [blk b2 (.cells m0 27 (0,0)),blk b3 (.cells #[.int .i64 e0] 31 (0,0))]) [blk b2 (.cells m0 27 (0,0)),blk b3 (.cells #[.int .i64 e0] 31 (0,0))] []) (fun _ e=>by subst e; exact hw) ?_
 refine V0 (yl_nein uif20 rfl) ?_
 refine Ln (Et ?_)
 refine WC.condf rfl ?_
 refine Ck ?_
 refine WE.end0 rfl fun w' hw=>?_
 exact ⟨rfl,hw⟩
theorem parse1_pan (b2 b3:Nat) (m0:List Value) (hm0:m0.length=5) (e0:Int) (w:World) (hw:Ws w (List.flatMap Asr.ids [blk b2 (.cells m0.toArray 27 (0,0)),blk b3 (.cells #[.int .i64 e0] 31 (0,0))]) [blk b2 (.cells m0.toArray 27 (0,0)),blk b3 (.cells #[.int .i64 e0] 31 (0,0))] [] w) :
   CallsD Tryz.prog 51 #[.pointer (some ⟨b2,0,none⟩),.pointer (some ⟨b3,0,none⟩)] (.panicking brk) w fun e u2 w'=>u2 = .panicking [⟨.iface 126 (.agg #[]),true,false⟩]∧(e = .returned (.tuple #[])∧Ws w (List.flatMap Asr.ids [blk b2 (.cells m0.toArray 27 (0,0)),blk b3 (.cells #[.int .i64 e0] 31 (0,0))]) [blk b2 (.cells (rowM [] none 0 0 none 0 0 none 0 0 none 0 0).toArray 27 (0,0)),blk b3 (.cells #[.int .i64 1] 31 (0,0))] [] w'):=by
 refine closD Tryz.func51 rfl 5 rfl rfl rfl rfl rfl (fun _=>rfl) (.inr ⟨_,rfl,rfl,rfl⟩) ?_
 refine LW (W':=Ws w (List.flatMap Asr.ids [blk b2 (.cells m0.toArray 27 (0,0)),blk b3 (.cells #[.int .i64 e0] 31 (0,0))]) [blk b2 (.cells m0.toArray 27 (0,0)),blk b3 (.cells #[.int .i64 e0] 31 (0,0))] []) (fun _ e=>by subst e; exact hw) ?_
 refine V0 (yl_neih uif20 rfl) ?_
 refine Ln (Et ?_)
 refine WC.condt rfl ?_
 refine Cr ?_
 refine V0 (Yb zr27 pl27 rfl rfl) ?_
 refine WL.storeAs 0 (.cells (rowM [] none 0 0 none 0 0 none 0 0 none 0 0).toArray 27 (0,0)) (.inl rfl) rfl rfl rfl sz27 rfl rfl (by simp [stOk,hm0]) (by simp [setIn,vcells,rowM,hm0,List.drop_eq_nil_of_le]) ?_
 refine Lst 1 (.inl rfl) rfl rfl rfl sz31 rfl rfl rfl ?_
 refine Ln ?_
 refine WE.end0 rfl fun w' hw=>?_
 exact ⟨rfl,hw⟩
theorem treeParse_any (G:View) (s:Tx) (w:World) (hG:Le G w) (hz:Laid G) :
   Calls Tryz.prog 24 #[st s] w fun e w'=>∃r:MAt,e = .returned (.tuple #[.agg (modV (parseM s).1 r).toArray,.int .i64 (parseM s).2])∧Ext w w'∧RdM 7 6 (nv w w') r (parseM s).1:=by
 refine enterD Tryz.func24 rfl 35 rfl rfl ?_
 refine CWd (W':=Ws w [] [] [G]) (fun _ e=>by subst e; exact Ws.init (by simp [hG])) ?_
 refine Cs (Cr ?_)
 refine WL.alloc (.inl rfl) rfl zr27 fun b2=>?_
 refine Lrb 0 (.cells (rowM [] none 0 0 none 0 0 none 0 0 none 0 0).toArray 27 (0,0)) rfl rfl ?_
 refine WL.alloc (.inl rfl) rfl zr31 fun b3=>?_
 refine Lrb 0 (.cells #[.int .i64 0] 31 (0,0)) rfl rfl ?_
 refine Ln (Et (Cs (Cr ?_)))
 refine V0 (Ym rfl) ?_
 refine Ld (.inl rfl) rfl en50 rfl (fun r:Option Addr×Nat=>.tuple #[.slice r.1 (lexR s).1.length r.2,.int .i64 (lexR s).2]) (fun F r=>Sl rdTok 3 F r.1 r.2 (lexR s).1) (fun w hw=>lex_any G s w (hw.vs _ (by simp)) hz) ?_
 intro F8 r8 hf8 h8
 refine V0 (Ym rfl) ?_
 refine V0 (Yx rfl rfl) ?_
 refine V0 (Yx rfl rfl) ?_
 refine V0 (Ya rfl) ?_
 refine Lst 0 (.inl rfl) rfl rfl rfl sz31 rfl rfl rfl ?_
 refine Ln (Et (Cs (Cs (Cr ?_))))
 refine V0 (Yd 0 rfl rfl rfl na31) ?_
 refine V0 (yl_ne rfl rfl) ?_
 refine Ln (Et ?_)
 refine Cc rfl (fun hc0=>?_) (fun hc0=>?_)
 ·
  have he:¬(lexR s).2=0:=by simpa using hc0
  refine Cs ?_
  refine CU (noRes [.cell 2 27,.cell 3 31]) [1] [3] (.q false 0 (.q true 1 (.e 2 .nil .stop))) mixed (by kernel_rfl) (fun _ _ _ _ _ hd h=>bodyD_put (fn:=Tryz.f24) [.cell 2 27,.cell 3 31] rfl hd h) ?_
  refine Uq rfl (.inl rfl) rfl (fun _ h=>by have h:=Ws.out 1 h; exact h) (Yb zr27 pl27 rfl rfl) ?_
  refine Uq rfl (.inl rfl) rfl (fun _ h=>by have h:=Ws.out 1 h; exact h) (Yd 0 rfl rfl rfl na31) ?_
  refine Ue rfl (fun _ h=>by have h:=Ws.out 1 h; exact h) ?_ WU.stop
  refine Lst 1 (.inl rfl) rfl rfl rfl sz27 rfl rfl rfl ?_
  refine Ln (Eu ?_)
  refine WU.nil (fun _ h=>by have h:=Ws.out 1 h; exact h) ?_
  refine WS.e rfl ?_
  refine Lst 0 (.inl rfl) rfl rfl rfl sz31 rfl rfl rfl ?_
  refine Ln (Es ?_)
  refine WS.nil ?_
  refine Et (Crt (Er ?_))
  refine WE.retD0 (rs_2 rfl (rv_agg 1 rfl rfl ag27 rfl) (rv_one 0 rfl rfl rfl na31)) fun w' hw=>?_
  rw [parse_err he]
  exact ⟨noAt,rfl,hw.fr,noMod_rd _⟩
 ·
  have he:(lexR s).2=0:=by simpa using hc0
  refine Crb 0 (.cells #[.int .i64 0] 31 (0,0)) rfl (by show Obj.cells #[.int .i64 (lexR s).2] _ _=_; rw [he]) ?_
  refine Ck (Et (Cs (Cr ?_)))
  refine V0 (yl_func rfl) ?_
  refine WL.defer (.inl rfl) rfl ?_
  refine Ln (Et (Cs (Cr ?_)))
  refine V0 (Ym rfl) ?_
  refine V0 (Yb zr124 pl124 rfl rfl) ?_
  refine WL.box (.inl rfl) rfl rfl fun b18=>?_
  refine V0 (Ya rfl) ?_
  refine Ln (Et (Cs (Cr ?_)))
  refine V0 (Ym rfl) ?_
  refine Lf 0 rfl ?_
  refine Lwy (ι:=(TMod×MAt)×(Option Addr×Nat)×Tk) (κ:=(Option Addr×Nat)×Tk) [_] _ (.inl rfl) rfl en52 rfl rfl (fun i=>.agg (modV i.1.1 i.1.2).toArray) (fun i=>glassL b18 i.2.1 i.2.2) (fun F i=>modP (lexR s).1=some (i.1.1,i.2.2)∧RdM 7 6 F i.1.2 i.1.1∧Sl rdTok 3 F8 i.2.1.1 i.2.1.2 i.2.2) (fun _=>brk) (fun i=>glassL b18 i.1 i.2) (fun _=>modP (lexR s).1=none) ([F8]) (by simp) (fun _ _ h=>h) (fun w hw=>(gmodule_any b18 F8 r8 (lexR s).1 w (lexR_tok he) h8 hw).mono fun e w' h=>by
      rcases h with ⟨x,s,r2,q,h1,h2,h3,h4,h5⟩ | ⟨r2,q,h1,h2,h3⟩
      · exact .inl ⟨((x,s),r2,q),h1,⟨h2,h3,h4⟩,h5⟩
      · exact .inr ⟨(r2,q),h1,h2,h3⟩) ?_ ?_
  ·
   intro ⟨rp,qp⟩ hp
   refine Ep ?_
   refine WE.front 1 rfl ?_
   refine WE.front 2 rfl ?_
   refine WE.panD en51 (closW [_,_] _ [blk b2 (.cells (rowM [] none 0 0 none 0 0 none 0 0 none 0 0).toArray 27 (0,0)),blk b3 (.cells #[.int .i64 1] 31 (0,0))] rfl (fun w hw=>parse1_pan b2 b3 (rowM [] none 0 0 none 0 0 none 0 0 none 0 0) rfl 0 w hw)) (rs_2 rfl (rv_agg 0 rfl rfl ag27 rfl) (rv_one 1 rfl rfl rfl na31)) fun w' hw=>?_
   rw [parse_no he hp]
   exact ⟨noAt,rfl,hw.fr,noMod_rd _⟩
  intro F20 ⟨⟨m20,s20⟩,r20,q20⟩ hf20 ⟨hq20,hx20,hm20⟩
  have hwt:wM m20≤73728:=by
    have h1:wM m20+18*q20.length≤18*(lexR s).1.length:=modP_w hq20
    have:=(lexR_tok he).len
    omega
  refine Lst 2 (.inl rfl) rfl rfl rfl sz27 rfl rfl rfl ?_
  refine Ln (Et (Cs (Cs ?_)))
  refine Crb 2 (.cells (modV m20 s20).toArray 27 (0,0)) rfl rfl ?_
  refine Cr ?_
  refine V0 (Ym rfl) ?_
  refine V0 (yl_nil rfl) ?_
  refine V0 (Yf fo124_0 rfl) ?_
  refine V0 (Yd 0 rfl rfl rfl na119) ?_
  refine V0 (Yn es119 rfl) ?_
  refine V0 (yl_gt rfl rfl) ?_
  refine V0 (Ym rfl) ?_
  apply WL.or 3 rfl rfl rfl rfl (.inl rfl) rfl rfl rfl rfl rfl
  ·
   intro hg0
   refine Lv (.g rfl rfl rfl) rfl (Yda 2 rfl rfl ag27 rfl) ?_
   refine Lp (.g rfl rfl rfl) rfl en16 rfl (fun w hw=>treeCheck_any F20 7 6 s20 m20 w (hw.vs _ (by simp)) hx20 (by omega)) ?_
   refine Lv (.g rfl rfl rfl) rfl (yl_ne rfl rfl) ?_
   exact Gt 3 rfl rfl rfl
  refine Ln (Et ?_)
  refine Cc rfl (fun hc1=>?_) (fun hc1=>?_)
  ·
   have hno:0<q20.length∨¬checkM m20=0:=by simpa using hc1
   refine Cr ?_
   refine V0 (Yb zr126 pl126 rfl rfl) ?_
   refine V0 (yl_mki co126 rfl) ?_
   refine WL.panic (.inl rfl) rfl ?_
   refine Ep ?_
   refine WE.front 1 rfl ?_
   refine WE.front 2 rfl ?_
   refine WE.panD en51 (closW [_,_] _ [blk b2 (.cells (rowM [] none 0 0 none 0 0 none 0 0 none 0 0).toArray 27 (0,0)),blk b3 (.cells #[.int .i64 1] 31 (0,0))] rfl (fun w hw=>parse1_pan b2 b3 (modV m20 s20) rfl 0 w hw)) (rs_2 rfl (rv_agg 0 rfl rfl ag27 rfl) (rv_one 1 rfl rfl rfl na31)) fun w' hw=>?_
   rw [parse_more he hq20 hno]
   exact ⟨noAt,rfl,hw.fr,noMod_rd _⟩
  ·
   have hy:¬0<q20.length∧checkM m20=0:=by simpa using hc1
   refine Ck (Et (Cs (Cr ?_)))
   refine V0 (Yda 2 rfl rfl ag27 rfl) ?_
   refine Lst 2 (.inl rfl) rfl rfl rfl sz27 rfl rfl rfl ?_
   refine Lst 1 (.inl rfl) rfl rfl rfl sz31 rfl rfl rfl ?_
   refine Ln (Et (Crt ?_))
   refine WE.front 1 rfl ?_
   refine WE.front 2 rfl ?_
   refine WE.retD en51 (closW [_,_] _ [blk b2 (.cells (modV m20 s20).toArray 27 (0,0)),blk b3 (.cells #[.int .i64 0] 31 (0,0))] rfl (fun w hw=>parse1_ret b2 b3 (modV m20 s20).toArray rfl 0 w hw)) (rs_2 rfl (rv_agg 0 rfl rfl ag27 rfl) (rv_one 1 rfl rfl rfl na31)) fun w' hw=>?_
   rw [parse_yes he hq20 (by have:=hy.1; show q20.length=0; omega) hy.2]
   exact ⟨s20,rfl,hw.fr,rdM_mv hx20 (nv_vs hw (by simp) hf20)⟩
end Go.Proofs.YtinnlppbkhhoiaaGreatDoor
end
section
namespace Go.Proofs.YtinnlppbkhhoiaaGreatDoor
open Go.Bw
set_option linter.unusedVariables false
set_option linter.unusedSimpArgs false
theorem str_one (s:Tx):(strC s).all (·.oneCell')=true:=rfl
end Go.Proofs.YtinnlppbkhhoiaaGreatDoor
end
section
namespace Go.Proofs.YtinnlppbkhhoiaaGreatDoor
open Go.Bw
set_option linter.unusedVariables false
set_option linter.unusedSimpArgs false
abbrev SP:=Option Addr×Nat
def mnamed:FItem→List UInt8:=fun x=>x.name
abbrev IEnt:=List UInt8×Int×Nat
def iv (M:List IEnt):List MEnt:=M.map fun e=>(e.1,.int .i64 e.2.1,e.2.2)
def ifind (k:List UInt8):List IEnt→Nat→Option (Nat×Int)
 | [],_=>none
 | e::r,i=>if (k==e.1)=true then some (i,e.2.1) else ifind k r (i+1)
def iget (k:List UInt8) (M:List IEnt):Int:=match ifind k M 0 with | some (_,n)=>n | none=>0
def iput (k:List UInt8) (n:Int) (M:List IEnt) (c:Nat):List IEnt:=match ifind k M 0 with
 | some (i,_)=>M.modify i fun e=>(k,n,e.2.2)
 | none=>M++[(k,n,c)]
def iclock (k:List UInt8) (M:List IEnt) (c:Nat):Nat:=match ifind k M 0 with | some _=>c | none=>c+1
theorem mfind_iv (k:List UInt8):∀(M:List IEnt) (i:Nat),mfind k (iv M) i=(ifind k M i).map fun r=>(r.1,.int .i64 r.2)
 | [],_=>rfl
 | e::r,i=>by
   simp only [iv,List.map_cons,mfind,ifind]
   cases (k==e.1)
   · simp only [Bool.false_eq_true,if_false]
     exact mfind_iv k r (i+1)
   · simp
theorem mget_iv (k:List UInt8) (M:List IEnt):mget k (iv M) (.int .i64 0) = .int .i64 (iget k M):=by
 unfold mget iget
 rw [mfind_iv]
 cases ifind k M 0<;>rfl
theorem mput_iv (k:List UInt8) (n:Int) (M:List IEnt) (c:Nat):mput k (.int .i64 n) (iv M) c=iv (iput k n M c):=by
 unfold mput iput
 rw [mfind_iv]
 cases ifind k M 0 with
 | none=>simp [iv]
 | some r=>
   simp only [Option.map_some]
   apply List.ext_getElem?
   intro i
   simp only [iv,List.getElem?_modify,List.getElem?_map]
   cases M[i]? with
   | none=>simp
   | some e=>by_cases h:r.1=i<;>simp [h]
theorem mclock_iv (k:List UInt8) (M:List IEnt) (c:Nat):mclock k (iv M) c=iclock k M c:=by
 unfold mclock iclock
 rw [mfind_iv]
 cases ifind k M 0<;>rfl
def keysOf (M:List IEnt):List (List UInt8):=M.map (·.1)
theorem ifind_none {k:List UInt8}:∀{M:List IEnt} {i:Nat},ifind k M i=none↔k ∉ keysOf M
 | [],_=>by simp [ifind,keysOf]
 | e::r,i=>by
   simp only [ifind,keysOf,List.map_cons,List.mem_cons,not_or]
   by_cases h:k=e.1
   · simp [h]
   · have:=ifind_none (k:=k) (M:=r) (i:=i+1)
     simp [h,keysOf] at this ⊢
     exact this
theorem ifind_at {k:List UInt8}:∀{M:List IEnt} {i j:Nat} {n:Int},ifind k M i=some (j,n)→i≤j∧(M[j-i]?).map (·.1)=some k
 | [],_,_,_,h=>by simp [ifind] at h
 | e::r,i,j,n,h=>by
   simp only [ifind] at h
   split at h
   · rename_i hk
     injection h with h; injection h with h1 h2
     subst h1
     simp at hk
     simp [hk]
   · obtain ⟨h1,h2⟩:=ifind_at h
     refine ⟨by omega,?_⟩
     have:j-i=(j-(i+1))+1:=by omega
     rw [this]; simpa using h2
theorem keys_put (k:List UInt8) (n:Int) (M:List IEnt) (c:Nat):keysOf (iput k n M c)=if k ∈ keysOf M then keysOf M else keysOf M++[k]:=by
 unfold iput
 cases h:ifind k M 0 with
 | none=>rw [if_neg (ifind_none.1 h)]; simp [keysOf]
 | some r=>
   obtain ⟨j,v⟩:=r
   have hk:=(ifind_at h).2
   have hm:k ∈ keysOf M:=by
     cases Classical.em (k ∈ keysOf M) with
     | inl h1=>exact h1
     | inr h1=>rw [ifind_none.2 h1] at h; cases h
   rw [if_pos hm]
   apply List.ext_getElem?
   intro i
   simp only [keysOf,List.getElem?_map,List.getElem?_modify]
   cases he:M[i]? with
   | none=>simp
   | some e=>
     by_cases hj:j=i
     · subst hj; simp only [Nat.sub_zero,he] at hk; simp at hk; simp [hk]
     · simp [hj]
def aState (l:List (List UInt8)):Nat→List IEnt×Nat
 | 0=>([],0)
 | i+1=>(iput (l[i]?.getD []) (IntKind.i64.wrap (iget (l[i]?.getD []) (aState l i).1+1)) (aState l i).1 (aState l i).2,iclock (l[i]?.getD []) (aState l i).1 (aState l i).2)
theorem aState_mem (l:List (List UInt8)) (k:List UInt8):∀i,k ∈ keysOf (aState l i).1↔∃j,j<i∧l[j]?.getD []=k
 | 0=>by simp [aState,keysOf]
 | i+1=>by
   have ih:=aState_mem l k i
   simp only [aState,keys_put]
   have step:(∃j,j<i+1∧l[j]?.getD []=k)↔(∃j,j<i∧l[j]?.getD []=k)∨l[i]?.getD []=k:=by
     constructor
     · rintro ⟨j,hj,e⟩
       rcases Nat.lt_succ_iff_lt_or_eq.1 hj with h | rfl
       · exact .inl ⟨j,h,e⟩
       · exact .inr e
     · rintro (⟨j,hj,e⟩ | e)
       · exact ⟨j,by omega,e⟩
       · exact ⟨i,by omega,e⟩
   rw [step,←ih]
   split
   · rename_i hm
     constructor
     · exact .inl
     · rintro (h | h)
       · exact h
       · rw [←h]; exact hm
   · simp [eq_comm]
theorem aState_len (l:List (List UInt8)):∀i,(keysOf (aState l i).1).length≤i∧((keysOf (aState l i).1).length<i↔∃i2,i2<i∧∃j,j<i2∧l[j]?.getD []=l[i2]?.getD [])
 | 0=>by simp [aState,keysOf]
 | i+1=>by
   obtain ⟨h1,h2⟩:=aState_len l i
   have hm:=aState_mem l (l[i]?.getD []) i
   simp only [aState,keys_put]
   split
   · rename_i hk
     obtain ⟨j,hj,e⟩:=hm.1 hk
     exact ⟨by omega,⟨fun _=>⟨i,by omega,j,hj,e⟩,fun _=>by omega⟩⟩
   · rename_i hk
     refine ⟨by simp; omega,?_⟩
     rw [List.length_append,List.length_singleton]
     constructor
     · intro h
       obtain ⟨i2,a,b⟩:=h2.1 (by omega)
       exact ⟨i2,by omega,b⟩
     · rintro ⟨i2,hi2,j,hj,e⟩
       rcases Nat.lt_succ_iff_lt_or_eq.1 hi2 with h | rfl
       · have:=h2.2 ⟨i2,h,j,hj,e⟩; omega
       · exact absurd (hm.2 ⟨j,hj,e⟩) hk
theorem alike_twice (l:List (List UInt8)):decide (((aState l l.length).1.length:Int)<(l.length:Int))=twiceB l:=by
 have h:=(aState_len l l.length).2
 simp only [keysOf,List.length_map] at h
 rw [Bool.eq_iff_iff]
 unfold twiceB
 simp only [decide_eq_true_eq,List.any_eq_true,List.mem_range,beq_iff_eq]
 constructor
 · intro hlt
   obtain ⟨i,hi,j,hj,e⟩:=h.1 (by omega)
   exact ⟨i,hi,j,hj,e.symm⟩
 · rintro ⟨i,hi,j,hj,e⟩
   have:=h.2 ⟨i,hi,j,hj,e.symm⟩
   omega
theorem um79:Tryz.prog.underlying 79=some (.map 9 3):=by kernel_rfl
theorem zr3:zeroOf Tryz.prog 3=some (.int .i64 0):=by kernel_rfl
theorem fo55_0:fieldOff Tryz.prog 55 0=some 0:=by kernel_rfl
theorem fo55_3:fieldOff Tryz.prog 55 3=some 3:=by kernel_rfl
theorem fo55_1:fieldOff Tryz.prog 55 1=some 1:=by kernel_rfl
theorem fo55_2:fieldOff Tryz.prog 55 2=some 2:=by kernel_rfl
theorem fo30_1:fieldOff Tryz.prog 30 1=some 1:=by kernel_rfl
theorem na28:nonAgg Tryz.prog 28=true:=by kernel_rfl
theorem es28:elemSz Tryz.prog 28=some 4:=by kernel_rfl
theorem ag55:aggOf Tryz.prog 55=some 4:=by kernel_rfl
theorem zr55:zeroOf Tryz.prog 55=some (.agg #[.int .i64 0,.int .i64 0,.int .i64 0,st []]):=by kernel_rfl
theorem sz55:sizeP Tryz.prog 55=some 4:=by kernel_rfl
theorem en27:Enters Tryz.prog 27:=enters_of Tryz.func27 (by kernel_rfl) rfl
theorem en19:Enters Tryz.prog 19:=enters_of Tryz.func19 (by kernel_rfl) rfl
theorem fo30_0:fieldOff Tryz.prog 30 0=some 0:=by kernel_rfl
theorem alike_any (H:View) (a:Option Addr) (c:Nat) (l:List (List UInt8)) (w:World) (hH:Le H w) (hm:Sl rdStr 1 H a c l) :
   Calls Tryz.prog 19 #[.slice a l.length c] w fun e w'=>e = .returned (.bool (twiceB l))∧Ext w w':=by
 have hcap:=hm.cap
 have hmax:=hm.max
 refine enter Tryz.func19 rfl 23 rfl rfl ?_
 refine CWd (W':=Ws w [] [] [H]) (fun _ e=>by subst e; exact Ws.init (by simp [hH])) ?_
 refine Cs (Cr ?_)
 refine V0 (Ya rfl) ?_
 refine Ln (Et (Cs (Cr ?_)))
 refine WL.mkmap (.inl rfl) rfl fun b6=>?_
 refine V0 (Ya rfl) ?_
 refine Ln (Et (Cs (Cs (Cr ?_))))
 refine V0 (Ym rfl) ?_
 refine V0 (Yn es22 rfl) ?_
 refine V0 (Ym rfl) ?_
 refine Ln (Et (Cb ?_))
 refine CK (ι:=Nat) (fun i=>[(9,.int .i64 (i:Int))]) [(0,_),(2,_),(3,_),(7,_),(8,_)] (fun i=>Ws w [] [blk b6 (mobj (iv (aState l i).1) (aState l i).2)] [H]) (fun i=>i≤l.length) (fun i=>l.length-i) 0 (Nat.zero_le _) (sc rfl (sc rfl (sc rfl (sc rfl (sc rfl (sc rfl sn)))))) (fun _ h=>h) ?_
 intro i hi
 refine Cs (Cr ?_)
 refine V0 (yl_lt rfl rfl) ?_
 refine Ln (Et (Cs ?_))
 refine Cc rfl (fun hc0=>?_) (fun hc0=>?_)
 ·
  have hlt:i<l.length:=by simpa using hc0
  obtain ⟨pb,po,ha,hrow0⟩:=hm.elt i (l[i]?.getD []) (by rw [List.getElem?_eq_getElem hlt]; rfl)
  have hrow:vc H pb (po+i*1)=some (st (l[i]?.getD [])):=hrow0 0 _ rfl
  refine Ck (Et (Cs (Cb (Cs (Cr ?_)))))
  refine V0 (Yo es22 rfl rfl ha (by omega)) ?_
  refine V0 (yl_ld 0 na9 rfl rfl (hrow)) ?_
  refine V0 (Ya rfl) ?_
  refine Ln (Et (Cr ?_))
  refine V0 (Ym rfl) ?_
  refine V0 (Ym rfl) ?_
  refine V0 (yl_mlook 0 um79 us9 zr3 rfl rfl rfl) ?_
  rw [mget_iv]
  refine V0 (yl_addw rfl rfl) ?_
  refine WL.mset 0 (.inl rfl) um79 us9 rfl rfl rfl rfl ?_
  rw [mput_iv,mclock_iv]
  refine Ln (Eb (Et (Cr ?_)))
  refine V0 (Yi rfl rfl rfl (by omega)) ?_
  refine V0 (Ym rfl) ?_
  refine Ln ?_
  exact Ea (i+1) (by omega) (by omega) (sc rfl (sc rfl (sc rfl (sc rfl (sc rfl (sc rfl sn)))))) (fun _ h=>h)
 ·
  have hie:i=l.length:=by simp at hc0; omega
  subst hie
  refine Ce (Ex (Ex (Ebh (Et (Cs ?_)))))
  refine Cr ?_
  refine V0 (Ym rfl) ?_
  refine V0 (yl_mlen 0 um79 rfl rfl) ?_
  refine V0 (Ym rfl) ?_
  refine V0 (Yn es22 rfl) ?_
  refine V0 (yl_lt rfl rfl) ?_
  refine V0 (Ya rfl) ?_
  refine Ln (Et (Crt ?_))
  refine WE.ret1 rfl rfl fun w' hw=>?_
  exact ⟨by rw [←alike_twice]; simp [iv],hw.fr⟩
theorem item_any (x:FItem) (w:World) :
   Calls Tryz.prog 27 #[.agg #[.int .i64 x.kind,.int .i64 x.n,.int .i64 x.pl,st x.name]] w fun e w'=>e = .returned (.bool (itemOk x))∧Ext w w':=by
 refine enter Tryz.func27 rfl 42 rfl rfl ?_
 refine CWd (W':=Ws w [] [] []) (fun _ e=>by subst e; exact Ws.init (by simp)) ?_
 refine Cs (Cr ?_)
 refine WL.box (.inl rfl) rfl rfl fun b1=>?_
 refine V0 (Ya rfl) ?_
 refine Ln (Et (Cs (Cr ?_)))
 refine V0 (Ya rfl) ?_
 refine V0 (Ya rfl) ?_
 refine Ln (Et (Cs (Cr ?_)))
 refine V0 (Ya rfl) ?_
 refine Ln (Et (Cs (Cs (Cr ?_))))
 refine V0 (Yf fo55_0 rfl) ?_
 refine V0 (Yd 0 rfl rfl rfl na3) ?_
 refine Ln (Et (Cb (Cs (Cr ?_))))
 refine V0 (yl_eq rfl rfl) ?_
 refine V0 (Ya rfl) ?_
 refine Ln (Et ?_)
 refine Cc rfl (fun hc0=>?_) (fun hc0=>?_)
 ·
  refine Cr ?_
  refine V0 (Ya rfl) ?_
  refine Ln (Eb (Et (Cs (Cr ?_))))
  refine V0 (Yf fo55_3 rfl) ?_
  refine V0 (Yd 0 rfl rfl rfl na9) ?_
  refine Lp (.inl rfl) rfl en28 rfl (fun w hw=>lexName_any _ w) ?_
  refine V0 (Ym rfl) ?_
  apply WL.and 4 rfl rfl rfl rfl (.inl rfl) rfl rfl rfl rfl rfl
  ·
   intro hg0
   refine Lv (.g rfl rfl rfl) rfl (Yf fo55_1 rfl) ?_
   refine Lv (.g rfl rfl rfl) rfl (Yd 0 rfl rfl rfl na3) ?_
   refine Lv (.g rfl rfl rfl) rfl (Ym rfl) ?_
   refine Lv (.g rfl rfl rfl) rfl (yl_ge rfl rfl) ?_
   exact Gt 4 rfl rfl rfl
  refine V0 (Ym rfl) ?_
  apply WL.and 4 rfl rfl rfl rfl (.inl rfl) rfl rfl rfl rfl rfl
  ·
   intro hg1
   refine Lv (.g rfl rfl rfl) rfl (Yf fo55_1 rfl) ?_
   refine Lv (.g rfl rfl rfl) rfl (Yd 0 rfl rfl rfl na3) ?_
   refine Lv (.g rfl rfl rfl) rfl (Ym rfl) ?_
   refine Lv (.g rfl rfl rfl) rfl (yl_le rfl rfl) ?_
   exact Gt 4 rfl rfl rfl
  refine V0 (Ym rfl) ?_
  apply WL.and 3 rfl rfl rfl rfl (.inl rfl) rfl rfl rfl rfl rfl
  ·
   intro hg2
   refine Lv (.g rfl rfl rfl) rfl (Yf fo55_2 rfl) ?_
   refine Lv (.g rfl rfl rfl) rfl (Yd 0 rfl rfl rfl na3) ?_
   refine Lv (.g rfl rfl rfl) rfl (yl_ge rfl rfl) ?_
   exact Gt 3 rfl rfl rfl
  refine V0 (Ym rfl) ?_
  apply WL.and 4 rfl rfl rfl rfl (.inl rfl) rfl rfl rfl rfl rfl
  ·
   intro hg3
   refine Lv (.g rfl rfl rfl) rfl (Yf fo55_2 rfl) ?_
   refine Lv (.g rfl rfl rfl) rfl (Yd 0 rfl rfl rfl na3) ?_
   refine Lv (.g rfl rfl rfl) rfl (Ym rfl) ?_
   refine Lv (.g rfl rfl rfl) rfl (yl_le rfl rfl) ?_
   exact Gt 4 rfl rfl rfl
  refine V0 (Ya rfl) ?_
  refine Ln (Et (Crt ?_))
  refine WE.ret1 rfl rfl fun w' hw=>?_
  have hk:x.kind=1:=by simpa using hc0
  exact ⟨by rw [item_kind (by simp [hk])],hw.fr⟩
 ·
  refine Cs (Cr ?_)
  refine V0 (yl_eq rfl rfl) ?_
  refine V0 (Ya rfl) ?_
  refine Ln (Et ?_)
  refine Cc rfl (fun hc1=>?_) (fun hc1=>?_)
  ·
   refine Cr ?_
   refine V0 (Ya rfl) ?_
   refine Ln (Eb (Et (Cs (Cr ?_))))
   refine V0 (Yf fo55_3 rfl) ?_
   refine V0 (Yd 0 rfl rfl rfl na9) ?_
   refine Lp (.inl rfl) rfl en28 rfl (fun w hw=>lexName_any _ w) ?_
   refine V0 (Ym rfl) ?_
   apply WL.and 4 rfl rfl rfl rfl (.inl rfl) rfl rfl rfl rfl rfl
   ·
    intro hg0
    refine Lv (.g rfl rfl rfl) rfl (Yf fo55_1 rfl) ?_
    refine Lv (.g rfl rfl rfl) rfl (Yd 0 rfl rfl rfl na3) ?_
    refine Lv (.g rfl rfl rfl) rfl (Ym rfl) ?_
    refine Lv (.g rfl rfl rfl) rfl (yl_ge rfl rfl) ?_
    exact Gt 4 rfl rfl rfl
   refine V0 (Ym rfl) ?_
   apply WL.and 4 rfl rfl rfl rfl (.inl rfl) rfl rfl rfl rfl rfl
   ·
    intro hg1
    refine Lv (.g rfl rfl rfl) rfl (Yf fo55_1 rfl) ?_
    refine Lv (.g rfl rfl rfl) rfl (Yd 0 rfl rfl rfl na3) ?_
    refine Lv (.g rfl rfl rfl) rfl (Ym rfl) ?_
    refine Lv (.g rfl rfl rfl) rfl (yl_le rfl rfl) ?_
    exact Gt 4 rfl rfl rfl
   refine V0 (Ym rfl) ?_
   apply WL.and 3 rfl rfl rfl rfl (.inl rfl) rfl rfl rfl rfl rfl
   ·
    intro hg2
    refine Lv (.g rfl rfl rfl) rfl (Yf fo55_2 rfl) ?_
    refine Lv (.g rfl rfl rfl) rfl (Yd 0 rfl rfl rfl na3) ?_
    refine Lv (.g rfl rfl rfl) rfl (yl_ge rfl rfl) ?_
    exact Gt 3 rfl rfl rfl
   refine V0 (Ym rfl) ?_
   apply WL.and 4 rfl rfl rfl rfl (.inl rfl) rfl rfl rfl rfl rfl
   ·
    intro hg3
    refine Lv (.g rfl rfl rfl) rfl (Yf fo55_2 rfl) ?_
    refine Lv (.g rfl rfl rfl) rfl (Yd 0 rfl rfl rfl na3) ?_
    refine Lv (.g rfl rfl rfl) rfl (Ym rfl) ?_
    refine Lv (.g rfl rfl rfl) rfl (yl_le rfl rfl) ?_
    exact Gt 4 rfl rfl rfl
   refine V0 (Ya rfl) ?_
   refine Ln (Et (Crt ?_))
   refine WE.ret1 rfl rfl fun w' hw=>?_
   have hk:x.kind=2:=by simpa using hc1
   exact ⟨by rw [item_kind (by simp [hk])],hw.fr⟩
  ·
   refine Cs (Cr ?_)
   refine V0 (yl_eq rfl rfl) ?_
   refine V0 (Ya rfl) ?_
   refine Ln (Et ?_)
   refine Cc rfl (fun hc2=>?_) (fun hc2=>?_)
   ·
    refine Cr ?_
    refine V0 (Ya rfl) ?_
    refine V0 (Ya rfl) ?_
    refine Ln (Eb (Et (Cs (Cr ?_))))
    refine V0 (Yf fo55_3 rfl) ?_
    refine V0 (Yd 0 rfl rfl rfl na9) ?_
    refine Lp (.inl rfl) rfl en28 rfl (fun w hw=>lexName_any _ w) ?_
    refine V0 (Ym rfl) ?_
    apply WL.and 4 rfl rfl rfl rfl (.inl rfl) rfl rfl rfl rfl rfl
    ·
     intro hg0
     refine Lv (.g rfl rfl rfl) rfl (Yf fo55_1 rfl) ?_
     refine Lv (.g rfl rfl rfl) rfl (Yd 0 rfl rfl rfl na3) ?_
     refine Lv (.g rfl rfl rfl) rfl (Ym rfl) ?_
     refine Lv (.g rfl rfl rfl) rfl (yl_ge rfl rfl) ?_
     exact Gt 4 rfl rfl rfl
    refine V0 (Ym rfl) ?_
    apply WL.and 4 rfl rfl rfl rfl (.inl rfl) rfl rfl rfl rfl rfl
    ·
     intro hg1
     refine Lv (.g rfl rfl rfl) rfl (Yf fo55_1 rfl) ?_
     refine Lv (.g rfl rfl rfl) rfl (Yd 0 rfl rfl rfl na3) ?_
     refine Lv (.g rfl rfl rfl) rfl (Ym rfl) ?_
     refine Lv (.g rfl rfl rfl) rfl (yl_le rfl rfl) ?_
     exact Gt 4 rfl rfl rfl
    refine V0 (Ym rfl) ?_
    apply WL.and 3 rfl rfl rfl rfl (.inl rfl) rfl rfl rfl rfl rfl
    ·
     intro hg2
     refine Lv (.g rfl rfl rfl) rfl (Yf fo55_2 rfl) ?_
     refine Lv (.g rfl rfl rfl) rfl (Yd 0 rfl rfl rfl na3) ?_
     refine Lv (.g rfl rfl rfl) rfl (yl_ge rfl rfl) ?_
     exact Gt 3 rfl rfl rfl
    refine V0 (Ym rfl) ?_
    apply WL.and 4 rfl rfl rfl rfl (.inl rfl) rfl rfl rfl rfl rfl
    ·
     intro hg3
     refine Lv (.g rfl rfl rfl) rfl (Yf fo55_2 rfl) ?_
     refine Lv (.g rfl rfl rfl) rfl (Yd 0 rfl rfl rfl na3) ?_
     refine Lv (.g rfl rfl rfl) rfl (Ym rfl) ?_
     refine Lv (.g rfl rfl rfl) rfl (yl_le rfl rfl) ?_
     exact Gt 4 rfl rfl rfl
    refine V0 (Ya rfl) ?_
    refine Ln (Et (Crt ?_))
    refine WE.ret1 rfl rfl fun w' hw=>?_
    have hk:x.kind=3:=by simpa using hc2
    exact ⟨by rw [item_kind (by simp [hk])],hw.fr⟩
   ·
    refine Cs (Cr ?_)
    refine V0 (yl_eq rfl rfl) ?_
    refine V0 (Ya rfl) ?_
    refine Ln (Et ?_)
    refine Cc rfl (fun hc3=>?_) (fun hc3=>?_)
    ·
     refine Cr ?_
     refine V0 (Ya rfl) ?_
     refine Ln (Eb (Et (Cs (Cr ?_))))
     refine V0 (Yf fo55_3 rfl) ?_
     refine V0 (Yd 0 rfl rfl rfl na9) ?_
     refine Lp (.inl rfl) rfl en28 rfl (fun w hw=>lexName_any _ w) ?_
     refine V0 (Ym rfl) ?_
     apply WL.and 4 rfl rfl rfl rfl (.inl rfl) rfl rfl rfl rfl rfl
     ·
      intro hg0
      refine Lv (.g rfl rfl rfl) rfl (Yf fo55_1 rfl) ?_
      refine Lv (.g rfl rfl rfl) rfl (Yd 0 rfl rfl rfl na3) ?_
      refine Lv (.g rfl rfl rfl) rfl (Ym rfl) ?_
      refine Lv (.g rfl rfl rfl) rfl (yl_ge rfl rfl) ?_
      exact Gt 4 rfl rfl rfl
     refine V0 (Ym rfl) ?_
     apply WL.and 4 rfl rfl rfl rfl (.inl rfl) rfl rfl rfl rfl rfl
     ·
      intro hg1
      refine Lv (.g rfl rfl rfl) rfl (Yf fo55_1 rfl) ?_
      refine Lv (.g rfl rfl rfl) rfl (Yd 0 rfl rfl rfl na3) ?_
      refine Lv (.g rfl rfl rfl) rfl (Ym rfl) ?_
      refine Lv (.g rfl rfl rfl) rfl (yl_le rfl rfl) ?_
      exact Gt 4 rfl rfl rfl
     refine V0 (Ym rfl) ?_
     apply WL.and 3 rfl rfl rfl rfl (.inl rfl) rfl rfl rfl rfl rfl
     ·
      intro hg2
      refine Lv (.g rfl rfl rfl) rfl (Yf fo55_2 rfl) ?_
      refine Lv (.g rfl rfl rfl) rfl (Yd 0 rfl rfl rfl na3) ?_
      refine Lv (.g rfl rfl rfl) rfl (yl_ge rfl rfl) ?_
      exact Gt 3 rfl rfl rfl
     refine V0 (Ym rfl) ?_
     apply WL.and 4 rfl rfl rfl rfl (.inl rfl) rfl rfl rfl rfl rfl
     ·
      intro hg3
      refine Lv (.g rfl rfl rfl) rfl (Yf fo55_2 rfl) ?_
      refine Lv (.g rfl rfl rfl) rfl (Yd 0 rfl rfl rfl na3) ?_
      refine Lv (.g rfl rfl rfl) rfl (Ym rfl) ?_
      refine Lv (.g rfl rfl rfl) rfl (yl_le rfl rfl) ?_
      exact Gt 4 rfl rfl rfl
     refine V0 (Ya rfl) ?_
     refine Ln (Et (Crt ?_))
     refine WE.ret1 rfl rfl fun w' hw=>?_
     have hk:x.kind=4:=by simpa using hc3
     exact ⟨by rw [item_kind (by simp [hk])],hw.fr⟩
    ·
     refine Cs (Cr ?_)
     refine V0 (Ya rfl) ?_
     refine Ln (Et (Crt (Ebr (Er ?_))))
     refine WE.ret1 rfl rfl fun w' hw=>?_
     simp at hc0 hc1 hc2 hc3
     exact ⟨by rw [item_none hc0 hc1 hc2 hc3],hw.fr⟩
theorem scopeCheck_any (H:View) (a:Option Addr) (c:Nat) (name:List UInt8) (items:List FItem) (w:World) (hH:Le H w) (hm:Sl rdItem 4 H a c items) :
   Calls Tryz.prog 10 #[.agg #[st name,.slice a items.length c]] w fun e w'=>e = .returned (.int .i64 (faceE name items))∧Ext w w':=by
 have hcap:=hm.cap
 have hmax:=hm.max
 refine enter Tryz.func10 rfl 34 rfl rfl ?_
 refine CWd (W':=Ws w [] [] [H]) (fun _ e=>by subst e; exact Ws.init (by simp [hH])) ?_
 refine Cs (Cr ?_)
 refine WL.box (.inl rfl) rfl rfl fun b1=>?_
 refine V0 (Ya rfl) ?_
 refine Ln (Et (Cs (Cs (Cr ?_))))
 refine V0 (Yf fo30_1 rfl) ?_
 refine V0 (Yd 0 rfl rfl rfl na28) ?_
 refine V0 (Yn es28 rfl) ?_
 refine V0 (yl_gt rfl rfl) ?_
 refine Ln (Et ?_)
 refine Cc rfl (fun hc0=>?_) (fun hc0=>?_)
 ·
  have h16:16<items.length:=by simp at hc0; omega
  refine Cs (Cr ?_)
  refine V0 (Ya rfl) ?_
  refine Ln (Et (Crt (Er ?_)))
  refine WE.ret1 rfl rfl fun w' hw=>?_
  exact ⟨by rw [faceE,if_pos h16],hw.fr⟩
 ·
  have h16:¬16<items.length:=by simp at hc0; omega
  refine Ck (Et (Cs (Cr ?_)))
  refine V0 (Ya rfl) ?_
  refine LW (fun _ h=>h.osl_nil 9 1) ?_
  refine Ln (Et (Cs (Cs (Cr ?_))))
  refine V0 (Yf fo30_1 rfl) ?_
  refine V0 (Yd 1 rfl rfl rfl na28) ?_
  refine V0 (Yn es28 rfl) ?_
  refine V0 (Ym rfl) ?_
  refine Ln (Et (Cb ?_))
  refine CK (ι:=Nat×Option Addr×Nat) (fun g=>[(13,.int .i64 (g.1:Int)),(3,.slice g.2.1 ((items.take g.1).map (·.name)).length g.2.2)]) [(1,_),(11,_),(12,_)] (fun g=>Ws w [] [osT 9 1 strC g.2.1 g.2.2 ((items.take g.1).map (·.name)),blk b1 (.cells (Value.agg #[st name,.slice a items.length c]).cells 30 (0,0))] [H]) (fun g=>g.1≤items.length∧∀j x,j<g.1→items[j]? = some x→itemOk x=true) (fun g=>items.length-g.1) (0,none,0) ⟨Nat.zero_le _,by simp⟩ (sc rfl (sc rfl (sc rfl (sc rfl (sc rfl sn))))) (fun _ h=>h) ?_
  intro g ⟨hi,hall⟩
  refine Cs (Cr ?_)
  refine V0 (yl_lt rfl rfl) ?_
  refine Ln (Et (Cs ?_))
  refine Cc rfl (fun hc1=>?_) (fun hc1=>?_)
  ·
   have hlt:g.1<items.length:=by simpa using hc1
   obtain ⟨x,hx⟩:∃x,items[g.1]? = some x:=⟨_,List.getElem?_eq_getElem hlt⟩
   obtain ⟨pb,po,ha,hrow⟩:=hm.elt g.1 x hx
   have hrow:RdC H pb (po+g.1*4) x.cells:=hrow
   have hT:(items.take (g.1+1)).map (·.name)=(items.take g.1).map (·.name)++[x.name]:=by rw [List.take_add_one,hx]; simp
   have hL:((items.take g.1).map (·.name)).length=g.1:=by simp; omega
   refine Ck (Et (Cs (Cb (Cs (Cr ?_)))))
   refine V0 (Yo es28 rfl rfl ha (by omega)) ?_
   refine V0 (yl_lda 0 ag55 rfl rfl rfl (hrow)) ?_
   refine WL.alloc (.inl rfl) rfl zr55 fun b5=>?_
   refine Lst 0 (.inl rfl) rfl rfl rfl sz55 rfl rfl rfl ?_
   refine Ln (Et (Cs (Cs (Cr ?_))))
   refine V0 (Yda 0 rfl rfl ag55 rfl) ?_
   refine Lp (.inl rfl) rfl en27 rfl (fun w hw=>item_any x w) ?_
   refine V0 (yl_not rfl) ?_
   refine Ln (Et ?_)
   refine Cc rfl (fun hc2=>?_) (fun hc2=>?_)
   ·
    have hno:=fall_no hx (by simpa using hc2)
    refine Cs (Cr ?_)
    refine V0 (Ya rfl) ?_
    refine Ln (Et (Crt (Er (Ebr (Er ?_)))))
    refine Er (Ebr (Er ?_))
    refine WE.ret1 rfl rfl fun w' hw=>?_
    exact ⟨by rw [faceE,if_neg h16,hno]; rfl,hw.fr⟩
   ·
    have hok:itemOk x=true:=by simpa using hc2
    refine Ck (Et (Cr ?_))
    refine V0 (Ym rfl) ?_
    refine V0 (Yf fo55_3 rfl) ?_
    refine V0 (Yd 0 rfl rfl rfl na9) ?_
    refine Lb (.inl rfl) rfl el22 rfl rfl rfl rfl fun b23=>?_
    refine Lrb 0 (.cells (strC x.name).toArray 9 (0,0)) rfl (rfl) ?_
    refine LA (x.name) 2 0 (.inl rfl) rfl el22 rfl rfl rfl rfl rfl rfl (by omega) (by omega) fun a24 c24=>?_
    refine V0 (Ya rfl) ?_
    refine Ln (Eb (Et (Cr ?_)))
    refine V0 (Yi rfl rfl rfl (by omega)) ?_
    refine V0 (Ym rfl) ?_
    refine Ln ?_
    rw [←hT]
    exact Ea ((g.1+1,a24,c24):Nat×Option Addr×Nat) (by first | omega | (dsimp only; omega)) ⟨by first | omega | (dsimp only; omega),fun j y hj hy=>by
        rcases Nat.lt_succ_iff_lt_or_eq.1 hj with h | h
        · exact hall j y h hy
        · subst h; rw [hx] at hy; injection hy with hy; subst hy; exact hok⟩ (sc rfl (sc rfl (sc rfl (sc rfl (sc rfl sn))))) (fun _ h=>Ws.drop (L:=[_,_]) h)
  ·
   have hie:g.1=items.length:=by simp at hc1; omega
   rw [hie,List.take_length]
   refine Ce (Ex (Ex (Ebh (Et (Cs ?_)))))
   refine Cs ?_
   refine WC.oslview (rd:=rdStr) 0 rfl strC_len (fun _ _ _ _ h=>h) fun HN hHN=>?_
   refine Cr ?_
   refine V0 (Ym rfl) ?_
   refine Lp (.inl rfl) rfl en19 rfl (fun w hw=>by
       have:=alike_any HN g.2.1 g.2.2 (items.map (·.name)) w (hw.vs _ (by simp)) hHN
       exact this) ?_
   refine V0 (Ym rfl) ?_
   apply WL.or 4 rfl rfl rfl rfl (.inl rfl) rfl rfl rfl rfl rfl
   ·
    intro hg0
    refine Lv (.g rfl rfl rfl) rfl (Yf fo30_0 rfl) ?_
    refine Lv (.g rfl rfl rfl) rfl (Yd 0 rfl rfl rfl na9) ?_
    refine Lp (.g rfl rfl rfl) rfl en28 rfl (fun w hw=>lexName_any _ w) ?_
    refine Lv (.g rfl rfl rfl) rfl (yl_not rfl) ?_
    exact Gt 4 rfl rfl rfl
   refine Ln (Et ?_)
   refine Cc rfl (fun hc3=>?_) (fun hc3=>?_)
   ·
    refine Cs (Cr ?_)
    refine V0 (Ya rfl) ?_
    refine Ln (Et (Crt (Er ?_)))
    refine WE.ret1 rfl rfl fun w' hw=>?_
    have hy:=fall_yes fun j y hy=>hall j y (by have:=(List.getElem?_eq_some_iff.1 hy).1; omega) hy
    exact ⟨by rw [faceE,if_neg h16,hy,hc3]; rfl,hw.fr⟩
   ·
    refine Ck (Et (Cs (Cr ?_)))
    refine V0 (Ya rfl) ?_
    refine Ln (Et (Crt ?_))
    refine WE.ret1 rfl rfl fun w' hw=>?_
    have hy:=fall_yes fun j y hy=>hall j y (by have:=(List.getElem?_eq_some_iff.1 hy).1; omega) hy
    exact ⟨by rw [faceE,if_neg h16,hy,hc3]; rfl,hw.fr⟩
end Go.Proofs.YtinnlppbkhhoiaaGreatDoor
end
section
namespace Go.Proofs.YtinnlppbkhhoiaaGreatDoor
open Go.Bw
set_option linter.unusedVariables false
set_option linter.unusedSimpArgs false
theorem mOk {m:TMod} (h:checkM m=0):OkM m:=okM (checkM_tot.1 h)
theorem dSz_bd {d:TDecl} (h:OkD d):0≤dSz d∧dSz d≤32:=by
 unfold dSz
 have h3:=h.n3
 split
 · omega
 · split
   · rename_i hk; have:=h3 hk; omega
   · omega
theorem dSum_bd:∀{l:List TDecl},(∀d ∈ l,(declC d).tot=0)→0≤dSum l∧dSum l≤32*(l.length:Int)
 | [],_=>by simp [dSum]
 | d::l,h=>by
   have h1:=dSz_bd (okD (h d (by simp)))
   have h2:=dSum_bd (l:=l) fun x hx=>h x (List.mem_cons_of_mem _ hx)
   simp only [dSum,List.length_cons]
   omega
theorem dSum_take {m:TMod} (ho:OkM m) (i:Nat):0≤dSum (m.decls.take i)∧dSum (m.decls.take i)≤320:=by
 have h:=dSum_bd (l:=m.decls.take i) fun d hd=>ho.decls d (List.mem_of_mem_take hd)
 have h1:=ho.few.2.1
 have h2:((m.decls.take i).length:Int)≤10:=by rw [List.length_take]; omega
 omega
theorem item_1 {d:TDecl} {a:Int} (h:d.kind=1):FItem.cells (declItem a d)=[.int .i64 d.kind,.int .i64 d.n,.int .i64 0,st d.nm]:=by rw [declItem,if_pos h]; rfl
theorem item_n {d:TDecl} {a:Int} (h:¬d.kind=1):FItem.cells (declItem a d)=[.int .i64 d.kind,.int .i64 d.n,.int .i64 a,st d.nm]:=by rw [declItem,if_neg h]; rfl
theorem dSz_1 {d:TDecl} (h:d.kind=1):dSz d=0:=by rw [dSz,if_neg (by omega),if_neg (by omega)]
theorem dSz_2 {d:TDecl} (h:d.kind=2):dSz d=1:=by rw [dSz,if_pos h]
theorem dSz_3 {d:TDecl} (h:d.kind=3):dSz d=d.n:=by rw [dSz,if_neg (by omega),if_pos h]
theorem pl55:placesP Tryz.prog 55=some [(0,1),(1,1),(2,1),(3,1)]:=by kernel_rfl
theorem el28:EltOk Tryz.prog 28 55 (.agg #[.int .i64 0,.int .i64 0,.int .i64 0,st []]) 4 40:=eltOk_of (by kernel_rfl)
theorem items_any (H:View) (ke ks:Nat) (r:MAt) (m:TMod) (w:World) (hH:Le H w) (hm:RdM ke ks H r m) (ho:OkM m) :
   Calls Tryz.prog 17 #[.agg (modV m r).toArray] w fun e w'=>∃r:SP,e = .returned (.tuple #[.slice r.1 (itemsM m).length r.2,.int .i64 (dataM m)])∧Ext w w'∧Sl rdItem 4 (nv w w') r.1 r.2 (itemsM m):=by
 have few:=ho.few
 have xd:=hm.decls.max
 have yd:=hm.decls.cap
 have xp:=hm.procs.max
 have yp:=hm.procs.cap
 refine enter Tryz.func17 rfl 67 rfl rfl ?_
 refine CWd (W':=Ws w [] [] [H]) (fun _ e=>by subst e; exact Ws.init (by simp [hH])) ?_
 refine Cs (Cr ?_)
 refine WL.box (.inl rfl) rfl rfl fun b1=>?_
 refine V0 (Ya rfl) ?_
 refine V0 (Ya rfl) ?_
 refine Ln (Et (Cs (Cr ?_)))
 refine V0 (Ya rfl) ?_
 refine LW (fun _ h=>h.osl_nil 55 4) ?_
 refine Ln (Et (Cs (Cr ?_)))
 refine V0 (Ya rfl) ?_
 refine Ln (Et (Cs (Cs (Cr ?_))))
 refine V0 (Yf fo27_2 rfl) ?_
 refine V0 (Yd 1 rfl rfl rfl na23) ?_
 refine V0 (Yn es23 rfl) ?_
 refine V0 (Ym rfl) ?_
 refine Ln (Et (Cb ?_))
 refine CK (ι:=Nat×Option Addr×Nat) (fun g=>[(14,.int .i64 (g.1:Int)),(4,.slice g.2.1 (declsI (m.decls.take g.1) 0).length g.2.2),(5,.int .i64 (dSum (m.decls.take g.1)))]) [(1,_),(2,_),(3,_),(12,_),(13,_)] (fun g=>Ws w [] [osT 55 4 FItem.cells g.2.1 g.2.2 (declsI (m.decls.take g.1) 0),blk b1 (.cells (modV m r).toArray 27 (0,0))] [H]) (fun g=>g.1≤m.decls.length) (fun g=>m.decls.length-g.1) (0,none,0) (Nat.zero_le _) (sc rfl (sc rfl (sc rfl (sc rfl (sc rfl (sc rfl (sc rfl (sc rfl sn)))))))) (fun _ h=>h) ?_
 intro g hi
 refine Cs (Cr ?_)
 refine V0 (yl_lt rfl rfl) ?_
 refine Ln (Et (Cs ?_))
 refine Cc rfl (fun hc0=>?_) (fun hc0=>?_)
 ·
  have hlt:g.1<m.decls.length:=by simpa using hc0
  obtain ⟨d,hdi⟩:∃q,m.decls[g.1]? = some q:=⟨_,List.getElem?_eq_getElem hlt⟩
  obtain ⟨pbd,pod,had,hrd⟩:=hm.decls.elt g.1 d hdi
  have hrd:RdC H pbd (pod+g.1*4) d.cells:=hrd
  have od:=okD (ho.decls d (List.mem_of_getElem? hdi))
  have hTk:m.decls.take (g.1+1)=m.decls.take g.1++[d]:=take_snoc hdi
  have hI:declsI (m.decls.take (g.1+1)) 0=declsI (m.decls.take g.1) 0++[declItem (dSum (m.decls.take g.1)) d]:=by rw [hTk,declsI_snoc,Int.zero_add]
  have hS:dSum (m.decls.take (g.1+1))=dSum (m.decls.take g.1)+dSz d:=by rw [hTk,dSum_snoc]
  have hbd:=dSum_take ho g.1
  have hbd2:=dSum_take ho (g.1+1)
  have hlD:(declsI (m.decls.take g.1) 0).length=g.1:=by rw [declsI_len,List.length_take]; omega
  have hn3:=od.n3
  refine Ck (Et (Cs (Cb (Cs (Cr ?_)))))
  refine V0 (Yo es23 rfl rfl had (by omega)) ?_
  refine V0 (yl_lda 0 ag109 rfl rfl rfl (hrd)) ?_
  refine WL.alloc (.inl rfl) rfl zr109 fun b7=>?_
  refine Lst 0 (.inl rfl) rfl rfl rfl sz109 rfl rfl rfl ?_
  refine Ln (Et (Cs (Cr ?_)))
  refine V0 (Yf fo109_0 rfl) ?_
  refine V0 (Yd 0 rfl rfl rfl na3) ?_
  refine V0 (Yf fo109_3 rfl) ?_
  refine V0 (Yd 0 rfl rfl rfl na3) ?_
  refine V0 (Yf fo109_1 rfl) ?_
  refine V0 (Yd 0 rfl rfl rfl na9) ?_
  refine V0 (Yb zr55 pl55 rfl rfl) ?_
  refine WL.alloc (.inl rfl) rfl zr55 fun b8=>?_
  refine Lst 0 (.inl rfl) rfl rfl rfl sz55 rfl rfl rfl ?_
  refine Ln (Et (Cs (Cs (Cr ?_))))
  refine V0 (Yf fo109_0 rfl) ?_
  refine V0 (Yd 1 rfl rfl rfl na3) ?_
  refine Ln (Et (Cb (Cs (Cr ?_))))
  refine V0 (yl_eq rfl rfl) ?_
  refine V0 (Ya rfl) ?_
  refine Ln (Et ?_)
  refine Cc rfl (fun hc1=>?_) (fun hc1=>?_)
  ·
   have hk2:d.kind=2:=by simpa using hc1
   have hz:=dSz_2 hk2
   refine Cs (Cr ?_)
   refine V0 (Ym rfl) ?_
   refine V0 (Yf fo55_2 rfl) ?_
   refine Lst 0 (.inl rfl) rfl rfl rfl sz3 rfl rfl rfl ?_
   refine Ln (Et (Cr ?_))
   refine V0 (Ym rfl) ?_
   refine V0 (yl_addv (dSum (m.decls.take (g.1+1))) rfl rfl (by rw [hS,hz]) (by omega)) ?_
   refine V0 (Ya rfl) ?_
   refine Ln (Eb (Et (Cr ?_)))
   refine V0 (Ym rfl) ?_
   refine V0 (Yda 0 rfl rfl ag55 rfl) ?_
   refine Lb (.inl rfl) rfl el28 rfl rfl rfl rfl fun b43=>?_
   refine Lrb 0 (.cells (FItem.cells (declItem (dSum (m.decls.take g.1)) d)).toArray 55 (0,0)) rfl (by rw [item_n (by omega)]; rfl) ?_
   refine LA (declItem (dSum (m.decls.take g.1)) d) 3 0 (.inl rfl) rfl el28 rfl rfl rfl rfl rfl rfl (by omega) (by omega) fun a44 c44=>?_
   refine V0 (Ya rfl) ?_
   refine Ln (Eb (Et (Cr ?_)))
   refine V0 (Yi rfl rfl rfl (by omega)) ?_
   refine V0 (Ym rfl) ?_
   refine Ln ?_
   rw [←hI]
   exact Ea ((g.1+1,a44,c44):Nat×Option Addr×Nat) (by first | omega | (dsimp only; omega)) (by first | omega | (dsimp only; omega)) (sc rfl (sc rfl (sc rfl (sc rfl (sc rfl (sc rfl (sc rfl (sc rfl sn)))))))) (fun _ h=>Ws.drop (L:=[_,_,_]) h)
  ·
   have hk2:¬d.kind=2:=by simpa using hc1
   refine Cs (Cr ?_)
   refine V0 (yl_eq rfl rfl) ?_
   refine V0 (Ya rfl) ?_
   refine Ln (Et ?_)
   refine Cc rfl (fun hc2=>?_) (fun hc2=>?_)
   ·
    have hk3:d.kind=3:=by simpa using hc2
    have hz:=dSz_3 hk3
    refine Cs (Cr ?_)
    refine V0 (Ym rfl) ?_
    refine V0 (Yf fo55_2 rfl) ?_
    refine Lst 0 (.inl rfl) rfl rfl rfl sz3 rfl rfl rfl ?_
    refine Ln (Et (Cr ?_))
    refine V0 (Ym rfl) ?_
    refine V0 (Yf fo109_3 rfl) ?_
    refine V0 (Yd 1 rfl rfl rfl na3) ?_
    refine V0 (yl_addv (dSum (m.decls.take (g.1+1))) rfl rfl (by rw [hS,hz]) (by omega)) ?_
    refine V0 (Ya rfl) ?_
    refine Ln (Eb (Et (Cr ?_)))
    refine V0 (Ym rfl) ?_
    refine V0 (Yda 0 rfl rfl ag55 rfl) ?_
    refine Lb (.inl rfl) rfl el28 rfl rfl rfl rfl fun b43=>?_
    refine Lrb 0 (.cells (FItem.cells (declItem (dSum (m.decls.take g.1)) d)).toArray 55 (0,0)) rfl (by rw [item_n (by omega)]; rfl) ?_
    refine LA (declItem (dSum (m.decls.take g.1)) d) 3 0 (.inl rfl) rfl el28 rfl rfl rfl rfl rfl rfl (by omega) (by omega) fun a44 c44=>?_
    refine V0 (Ya rfl) ?_
    refine Ln (Eb (Et (Cr ?_)))
    refine V0 (Yi rfl rfl rfl (by omega)) ?_
    refine V0 (Ym rfl) ?_
    refine Ln ?_
    rw [←hI]
    exact Ea ((g.1+1,a44,c44):Nat×Option Addr×Nat) (by first | omega | (dsimp only; omega)) (by first | omega | (dsimp only; omega)) (sc rfl (sc rfl (sc rfl (sc rfl (sc rfl (sc rfl (sc rfl (sc rfl sn)))))))) (fun _ h=>Ws.drop (L:=[_,_,_]) h)
   ·
    have hk3:¬d.kind=3:=by simpa using hc2
    have hk1:d.kind=1:=by have:=od.kind; omega
    have hz:=dSz_1 hk1
    have hS0:dSum (m.decls.take (g.1+1))=dSum (m.decls.take g.1):=by rw [hS,hz]; omega
    refine Ck (Eb (Et (Cr ?_)))
    refine V0 (Ym rfl) ?_
    refine V0 (Yda 0 rfl rfl ag55 rfl) ?_
    refine Lb (.inl rfl) rfl el28 rfl rfl rfl rfl fun b43=>?_
    refine Lrb 0 (.cells (FItem.cells (declItem (dSum (m.decls.take g.1)) d)).toArray 55 (0,0)) rfl (by rw [item_1 hk1]; rfl) ?_
    refine LA (declItem (dSum (m.decls.take g.1)) d) 3 0 (.inl rfl) rfl el28 rfl rfl rfl rfl rfl rfl (by omega) (by omega) fun a44 c44=>?_
    refine V0 (Ya rfl) ?_
    refine Ln (Eb (Et (Cr ?_)))
    refine V0 (Yi rfl rfl rfl (by omega)) ?_
    refine V0 (Ym rfl) ?_
    refine Ln ?_
    rw [←hI]
    rw [←hS0]
    exact Ea ((g.1+1,a44,c44):Nat×Option Addr×Nat) (by first | omega | (dsimp only; omega)) (by first | omega | (dsimp only; omega)) (sc rfl (sc rfl (sc rfl (sc rfl (sc rfl (sc rfl (sc rfl (sc rfl sn)))))))) (fun _ h=>Ws.drop (L:=[_,_,_]) h)
 ·
  have hge:g.1=m.decls.length:=by simp at hc0; omega
  rw [hge,List.take_length]
  clear hge hc0 hi
  refine Ce (Ex (Ex (Ebh (Et (Cs ?_)))))
  refine Cs (Cr ?_)
  refine V0 (Yf fo27_3 rfl) ?_
  refine V0 (Yd 1 rfl rfl rfl na24) ?_
  refine V0 (Yn es24 rfl) ?_
  refine V0 (Ym rfl) ?_
  refine Ln (Et (Cb ?_))
  rw [show declsI m.decls 0=declsI m.decls 0++procsI (m.procs.take 0) 0 by simp [procsI]]
  refine CK (ι:=Nat×Option Addr×Nat) (fun g=>[(49,.int .i64 (g.1:Int)),(4,.slice g.2.1 (declsI m.decls 0++procsI (m.procs.take g.1) 0).length g.2.2)]) [(2,_),(3,_),(5,_),(47,_),(48,_)] (fun g=>Ws w [] [osT 55 4 FItem.cells g.2.1 g.2.2 (declsI m.decls 0++procsI (m.procs.take g.1) 0),blk b1 (.cells (modV m r).toArray 27 (0,0))] [H]) (fun g=>g.1≤m.procs.length) (fun g=>m.procs.length-g.1) (0,g.2.1,g.2.2) (Nat.zero_le _) (sc rfl (sc rfl (sc rfl (sc rfl (sc rfl (sc rfl (sc rfl sn))))))) (fun _ h=>h) ?_
  clear g
  intro g hi
  refine Cs (Cr ?_)
  refine V0 (yl_lt rfl rfl) ?_
  refine Ln (Et (Cs ?_))
  refine Cc rfl (fun hc3=>?_) (fun hc3=>?_)
  ·
   have hlt:g.1<m.procs.length:=by simpa using hc3
   obtain ⟨p,hpi⟩:∃q,m.procs[g.1]? = some q:=⟨_,List.getElem?_eq_getElem hlt⟩
   obtain ⟨pbp,pop,hap,hrp⟩:=hm.procs.elt g.1 p hpi
   obtain ⟨pa1,pc1,pa2,pc2,pa3,pc3,hrow,hs1,hs2,hs3⟩:=hrp
   have hx1:=hs1.max
   have hy1:=hs1.cap
   have hTp:m.procs.take (g.1+1)=m.procs.take g.1++[p]:=take_snoc hpi
   have hI:declsI m.decls 0++procsI (m.procs.take (g.1+1)) 0=(declsI m.decls 0++procsI (m.procs.take g.1) 0)++[procItem g.1 p]:=by
     rw [hTp,procsI_snoc,List.append_assoc,Nat.zero_add,List.length_take,Nat.min_eq_left (by omega)]
   have hlI:(declsI m.decls 0++procsI (m.procs.take g.1) 0).length≤16:=by rw [List.length_append,declsI_len,procsI_len,List.length_take]; omega
   refine Ck (Et (Cs (Cb (Cs (Cr ?_)))))
   refine V0 (Ym rfl) ?_
   refine V0 (Yo es24 rfl rfl hap (by omega)) ?_
   refine V0 (yl_lda 0 ag86 rfl rfl rfl (hrow)) ?_
   refine WL.alloc (.inl rfl) rfl zr86 fun b10=>?_
   refine V0 (Ya rfl) ?_
   refine Lst 0 (.inl rfl) rfl rfl rfl sz86 rfl rfl rfl ?_
   refine Ln (Et (Cr ?_))
   refine V0 (Ym rfl) ?_
   refine V0 (Yf fo86_2 rfl) ?_
   refine V0 (Yd 0 rfl rfl rfl na22) ?_
   refine V0 (Yn es22 rfl) ?_
   refine V0 (Ym rfl) ?_
   refine V0 (Yf fo86_0 rfl) ?_
   refine V0 (Yd 0 rfl rfl rfl na9) ?_
   refine V0 (Yb zr55 pl55 rfl rfl) ?_
   refine Lb (.inl rfl) rfl el28 rfl rfl rfl rfl fun b62=>?_
   refine Lrb 0 (.cells (FItem.cells (procItem g.1 p)).toArray 55 (0,0)) rfl (rfl) ?_
   refine LA (procItem g.1 p) 2 0 (.inl rfl) rfl el28 rfl rfl rfl rfl rfl rfl (by omega) (by omega) fun a63 c63=>?_
   refine V0 (Ya rfl) ?_
   refine Ln (Eb (Et (Cr ?_)))
   refine V0 (Yi rfl rfl rfl (by omega)) ?_
   refine V0 (Ym rfl) ?_
   refine Ln ?_
   rw [←hI]
   exact Ea ((g.1+1,a63,c63):Nat×Option Addr×Nat) (by first | omega | (dsimp only; omega)) (by first | omega | (dsimp only; omega)) (sc rfl (sc rfl (sc rfl (sc rfl (sc rfl (sc rfl (sc rfl sn))))))) (fun _ h=>Ws.drop (L:=[_,_]) h)
  ·
   have hge:g.1=m.procs.length:=by simp at hc3; omega
   rw [hge,List.take_length]
   refine Ce (Ex (Ex (Ebh (Et (Cs ?_)))))
   refine Cr ?_
   refine V0 (Ym rfl) ?_
   refine V0 (Ym rfl) ?_
   refine V0 (Ya rfl) ?_
   refine V0 (Ya rfl) ?_
   refine Ln (Et (Crt ?_))
   refine WE.ret2 rfl rfl rfl fun w' hw=>?_
   exact ⟨(g.2.1,g.2.2),rfl,hw.fr,hw.slT 0 rfl FItem.cells_len (fun _ _ _ _ h=>h)⟩
end Go.Proofs.YtinnlppbkhhoiaaGreatDoor
end
section
namespace Go.Proofs.YtinnlppbkhhoiaaGreatDoor
open Go.Bw
set_option linter.unusedVariables false
set_option linter.unusedSimpArgs false
theorem pubs_at {m:TMod} {i:Nat} {p:TProc} (h:m.procs[i]? = some p):m.decls.map (·.pub)++(m.procs.take (i+1)).map (·.pub)=(m.decls.map (·.pub)++(m.procs.take i).map (·.pub))++[p.pub]:=by rw [take_snoc h]; simp
theorem pubsD_at {m:TMod} {i:Nat} {d:TDecl} (h:m.decls[i]? = some d):(m.decls.take (i+1)).map (·.pub)=(m.decls.take i).map (·.pub)++[d.pub]:=by rw [take_snoc h]; simp
theorem faceM_err {m:TMod} (h:¬checkM m=0):faceM m=(([],[]),checkM m):=by rw [faceM,if_pos h]
theorem faceM_twice {m:TMod} (h:checkM m=0) (h2:(twiceB ((itemsM m).map (·.name))||twiceB m.uses)=true):faceM m=(([],[]),6):=by rw [faceM,if_neg (by simp [h]),if_pos h2]
theorem faceM_ok {m:TMod} (h:checkM m=0) (h2:(twiceB ((itemsM m).map (·.name))||twiceB m.uses)=false):faceM m=((m.nm,pubI (itemsM m) (pubsM m)),0):=by rw [faceM,if_neg (by simp [h]),if_neg (by simp [h2])]
def FQ (m:TMod) (i:Nat):List FItem:=pubI ((itemsM m).take i) ((pubsM m).take i)
theorem FQ_all (m:TMod):FQ m (itemsM m).length=pubI (itemsM m) (pubsM m):=by
 unfold FQ
 rw [List.take_length,itemsM_len,←pubsM_len,List.take_length]
theorem FQ_step {m:TMod} {i:Nat} {x:FItem} {p:Bool} (h1:(itemsM m)[i]? = some x) (h2:(pubsM m)[i]? = some p):FQ m (i+1)=FQ m i++(if p=true then [x] else []):=pubI_take (by rw [itemsM_len,pubsM_len]) h1 h2
theorem FQ_le (m:TMod) (i:Nat):(FQ m i).length≤i:=by
 have:=pubI_le ((itemsM m).take i) ((pubsM m).take i)
 simp at this
 show (pubI _ _).length≤i
 omega
structure GF where
 i:Nat
 n:SP
 f:SP
theorem fo109_2:fieldOff Tryz.prog 109 2=some 2:=by kernel_rfl
theorem el52:EltOk Tryz.prog 52 4 (.bool false) 1 1:=eltOk_of (by kernel_rfl)
theorem fo86_1:fieldOff Tryz.prog 86 1=some 1:=by kernel_rfl
theorem zr30:zeroOf Tryz.prog 30=some (.agg #[st [],.slice none 0 0]):=by kernel_rfl
theorem pl30:placesP Tryz.prog 30=some [(0,1),(1,1)]:=by kernel_rfl
theorem sz30:sizeP Tryz.prog 30=some 2:=by kernel_rfl
theorem ag30:aggOf Tryz.prog 30=some 2:=by kernel_rfl
theorem en17:Enters Tryz.prog 17:=enters_of Tryz.func17 (by kernel_rfl) rfl
theorem en18:Enters Tryz.prog 18:=enters_of Tryz.func18 (by kernel_rfl) rfl
theorem es52:elemSz Tryz.prog 52=some 1:=by kernel_rfl
theorem sz28:sizeP Tryz.prog 28=some 1:=by kernel_rfl
theorem pubs_any (H:View) (ke ks:Nat) (r:MAt) (m:TMod) (w:World) (hH:Le H w) (hm:RdM ke ks H r m) (ho:OkM m) :
   Calls Tryz.prog 18 #[.agg (modV m r).toArray] w fun e w'=>∃r:SP,e = .returned (.slice r.1 (pubsM m).length r.2)∧Ext w w'∧Sl rdBool 1 (nv w w') r.1 r.2 (pubsM m):=by
 have few:=ho.few
 have xd:=hm.decls.max
 have yd:=hm.decls.cap
 have xp:=hm.procs.max
 have yp:=hm.procs.cap
 refine enter Tryz.func18 rfl 35 rfl rfl ?_
 refine CWd (W':=Ws w [] [] [H]) (fun _ e=>by subst e; exact Ws.init (by simp [hH])) ?_
 refine Cs (Cr ?_)
 refine WL.box (.inl rfl) rfl rfl fun b1=>?_
 refine V0 (Ya rfl) ?_
 refine Ln (Et (Cs (Cr ?_)))
 refine V0 (Ya rfl) ?_
 refine LW (fun _ h=>h.osl_nil 4 1) ?_
 refine Ln (Et (Cs (Cs (Cr ?_))))
 refine V0 (Yf fo27_2 rfl) ?_
 refine V0 (Yd 1 rfl rfl rfl na23) ?_
 refine V0 (Yn es23 rfl) ?_
 refine V0 (Ym rfl) ?_
 refine Ln (Et (Cb ?_))
 refine CK (ι:=Nat×Option Addr×Nat) (fun g=>[(11,.int .i64 (g.1:Int)),(3,.slice g.2.1 ((m.decls.take g.1).map (·.pub)).length g.2.2)]) [(1,_),(2,_),(9,_),(10,_)] (fun g=>Ws w [] [osT 4 1 boolC g.2.1 g.2.2 ((m.decls.take g.1).map (·.pub)),blk b1 (.cells (modV m r).toArray 27 (0,0))] [H]) (fun g=>g.1≤m.decls.length) (fun g=>m.decls.length-g.1) (0,none,0) (Nat.zero_le _) (sc rfl (sc rfl (sc rfl (sc rfl (sc rfl (sc rfl sn)))))) (fun _ h=>h) ?_
 intro g hi
 refine Cs (Cr ?_)
 refine V0 (yl_lt rfl rfl) ?_
 refine Ln (Et (Cs ?_))
 refine Cc rfl (fun hc0=>?_) (fun hc0=>?_)
 ·
  have hlt:g.1<m.decls.length:=by simpa using hc0
  obtain ⟨d,hdi⟩:∃q,m.decls[g.1]? = some q:=⟨_,List.getElem?_eq_getElem hlt⟩
  obtain ⟨pbd,pod,had,hrd⟩:=hm.decls.elt g.1 d hdi
  have hrd:RdC H pbd (pod+g.1*4) d.cells:=hrd
  have hI:=pubsD_at hdi
  have hl:((m.decls.take g.1).map (·.pub)).length=g.1:=by simp; omega
  refine Ck (Et (Cs (Cb (Cs (Cr ?_)))))
  refine V0 (Yo es23 rfl rfl had (by omega)) ?_
  refine V0 (yl_lda 0 ag109 rfl rfl rfl (hrd)) ?_
  refine WL.alloc (.inl rfl) rfl zr109 fun b5=>?_
  refine Lst 0 (.inl rfl) rfl rfl rfl sz109 rfl rfl rfl ?_
  refine Ln (Et (Cr ?_))
  refine V0 (Ym rfl) ?_
  refine V0 (Yf fo109_2 rfl) ?_
  refine V0 (Yd 0 rfl rfl rfl na4) ?_
  refine Lb (.inl rfl) rfl el52 rfl rfl rfl rfl fun b18=>?_
  refine Lrb 0 (.cells (boolC d.pub).toArray 4 (0,0)) rfl (rfl) ?_
  refine LA (d.pub) 2 0 (.inl rfl) rfl el52 rfl rfl rfl rfl rfl rfl (by omega) (by omega) fun a19 c19=>?_
  refine V0 (Ya rfl) ?_
  refine Ln (Eb (Et (Cr ?_)))
  refine V0 (Yi rfl rfl rfl (by omega)) ?_
  refine V0 (Ym rfl) ?_
  refine Ln ?_
  rw [←hI]
  exact Ea ((g.1+1,a19,c19):Nat×Option Addr×Nat) (by first | omega | (dsimp only; omega)) (by first | omega | (dsimp only; omega)) (sc rfl (sc rfl (sc rfl (sc rfl (sc rfl (sc rfl sn)))))) (fun _ h=>Ws.drop (L:=[_,_]) h)
 ·
  have hge:g.1=m.decls.length:=by simp at hc0; omega
  rw [hge,List.take_length]
  clear hge hc0 hi
  refine Ce (Ex (Ex (Ebh (Et (Cs ?_)))))
  refine Cs (Cr ?_)
  refine V0 (Yf fo27_3 rfl) ?_
  refine V0 (Yd 1 rfl rfl rfl na24) ?_
  refine V0 (Yn es24 rfl) ?_
  refine V0 (Ym rfl) ?_
  refine Ln (Et (Cb ?_))
  rw [show m.decls.map (·.pub)=m.decls.map (·.pub)++(m.procs.take 0).map (·.pub) by simp]
  refine CK (ι:=Nat×Option Addr×Nat) (fun g=>[(24,.int .i64 (g.1:Int)),(3,.slice g.2.1 (m.decls.map (·.pub)++(m.procs.take g.1).map (·.pub)).length g.2.2)]) [(2,_),(22,_),(23,_)] (fun g=>Ws w [] [osT 4 1 boolC g.2.1 g.2.2 (m.decls.map (·.pub)++(m.procs.take g.1).map (·.pub)),blk b1 (.cells (modV m r).toArray 27 (0,0))] [H]) (fun g=>g.1≤m.procs.length) (fun g=>m.procs.length-g.1) (0,g.2.1,g.2.2) (Nat.zero_le _) (sc rfl (sc rfl (sc rfl (sc rfl (sc rfl sn))))) (fun _ h=>h) ?_
  clear g
  intro g hi
  refine Cs (Cr ?_)
  refine V0 (yl_lt rfl rfl) ?_
  refine Ln (Et (Cs ?_))
  refine Cc rfl (fun hc1=>?_) (fun hc1=>?_)
  ·
   have hlt:g.1<m.procs.length:=by simpa using hc1
   obtain ⟨p,hpi⟩:∃q,m.procs[g.1]? = some q:=⟨_,List.getElem?_eq_getElem hlt⟩
   obtain ⟨pbp,pop,hap,hrp⟩:=hm.procs.elt g.1 p hpi
   obtain ⟨pa1,pc1,pa2,pc2,pa3,pc3,hrow,hs1,hs2,hs3⟩:=hrp
   have hI:=pubs_at hpi
   have hl:(m.decls.map (·.pub)++(m.procs.take g.1).map (·.pub)).length≤16:=by simp; omega
   refine Ck (Et (Cs (Cb (Cs (Cr ?_)))))
   refine V0 (Yo es24 rfl rfl hap (by omega)) ?_
   refine V0 (yl_lda 0 ag86 rfl rfl rfl (hrow)) ?_
   refine WL.alloc (.inl rfl) rfl zr86 fun b7=>?_
   refine Lst 0 (.inl rfl) rfl rfl rfl sz86 rfl rfl rfl ?_
   refine Ln (Et (Cr ?_))
   refine V0 (Ym rfl) ?_
   refine V0 (Yf fo86_1 rfl) ?_
   refine V0 (Yd 0 rfl rfl rfl na4) ?_
   refine Lb (.inl rfl) rfl el52 rfl rfl rfl rfl fun b31=>?_
   refine Lrb 0 (.cells (boolC p.pub).toArray 4 (0,0)) rfl (rfl) ?_
   refine LA (p.pub) 2 0 (.inl rfl) rfl el52 rfl rfl rfl rfl rfl rfl (by omega) (by omega) fun a32 c32=>?_
   refine V0 (Ya rfl) ?_
   refine Ln (Eb (Et (Cr ?_)))
   refine V0 (Yi rfl rfl rfl (by omega)) ?_
   refine V0 (Ym rfl) ?_
   refine Ln ?_
   rw [←hI]
   exact Ea ((g.1+1,a32,c32):Nat×Option Addr×Nat) (by first | omega | (dsimp only; omega)) (by first | omega | (dsimp only; omega)) (sc rfl (sc rfl (sc rfl (sc rfl (sc rfl sn))))) (fun _ h=>Ws.drop (L:=[_,_]) h)
  ·
   have hge:g.1=m.procs.length:=by simp at hc1; omega
   rw [hge,List.take_length]
   refine Ce (Ex (Ex (Ebh (Et (Cs ?_)))))
   refine Cr ?_
   refine V0 (Ym rfl) ?_
   refine V0 (Ya rfl) ?_
   refine Ln (Et (Crt ?_))
   refine WE.ret1 rfl rfl fun w' hw=>?_
   exact ⟨(g.2.1,g.2.2),rfl,hw.fr,hw.slT 0 rfl boolC_len (fun _ _ _ _ h=>h)⟩
theorem face_any (H:View) (ke ks:Nat) (r:MAt) (m:TMod) (w:World) (hH:Le H w) (hm:RdM ke ks H r m) (hb:wM m≤109951162777) :
   Calls Tryz.prog 6 #[.agg (modV m r).toArray] w fun e w'=>∃r:SP,e = .returned (.tuple #[.agg #[st (faceM m).1.1,.slice r.1 (faceM m).1.2.length r.2],.int .i64 (faceM m).2])∧Ext w w'∧Sl rdItem 4 (nv w w') r.1 r.2 (faceM m).1.2:=by
 refine enter Tryz.func6 rfl 60 rfl rfl ?_
 refine CWd (W':=Ws w [] [] [H]) (fun _ e=>by subst e; exact Ws.init (by simp [hH])) ?_
 refine Cs (Cr ?_)
 refine WL.box (.inl rfl) rfl rfl fun b1=>?_
 refine WL.alloc (.inl rfl) rfl zr30 fun b2=>?_
 refine V0 (Ya rfl) ?_
 refine Ln (Et (Cs (Cs (Cr ?_))))
 refine V0 (Yda 1 rfl rfl ag27 rfl) ?_
 refine Lp (.inl rfl) rfl en16 rfl (fun w hw=>treeCheck_any H ke ks r m w (hw.vs _ (by simp)) hm (by omega)) ?_
 refine V0 (Ya rfl) ?_
 refine Ln (Et (Cs (Cr ?_)))
 refine V0 (Ym rfl) ?_
 refine V0 (yl_ne rfl rfl) ?_
 refine Ln (Et ?_)
 refine Cc rfl (fun hc0=>?_) (fun hc0=>?_)
 ·
  have he:¬checkM m=0:=by simpa using hc0
  refine Cs (Cr ?_)
  refine V0 (Yb zr30 pl30 rfl rfl) ?_
  refine V0 (Ym rfl) ?_
  refine Lst 0 (.inl rfl) rfl rfl rfl sz30 rfl rfl rfl ?_
  refine V0 (Ya rfl) ?_
  refine Ln (Et (Crt (Er ?_)))
  refine WE.retc2 0 rfl rfl rfl rfl ag30 rfl fun w' hw=>?_
  rw [faceM_err he]
  exact ⟨(none,0),rfl,hw.fr,Sl.nil⟩
 ·
  have he:checkM m=0:=by simpa using hc0
  have ho:=mOk he
  have few:=ho.few
  have xd:=hm.decls.max
  have yd:=hm.decls.cap
  have xp:=hm.procs.max
  have yp:=hm.procs.cap
  have il:=itemsM_len m
  have pl:=pubsM_len m
  refine Ck (Et (Cs (Cr ?_)))
  refine V0 (Yda 1 rfl rfl ag27 rfl) ?_
  refine Ld (.inl rfl) rfl en17 rfl (fun r:SP=>.tuple #[.slice r.1 (itemsM m).length r.2,.int .i64 (dataM m)]) (fun H r=>Sl rdItem 4 H r.1 r.2 (itemsM m)) (fun w hw=>items_any H ke ks r m w (hw.vs _ (by simp)) hm ho) ?_
  intro F20 r20 hf20 h20
  refine V0 (Ym rfl) ?_
  refine V0 (Yx rfl rfl) ?_
  refine V0 (Yx rfl rfl) ?_
  refine V0 (Ya rfl) ?_
  refine V0 (Ya rfl) ?_
  refine Ln (Et (Cs (Cr ?_)))
  refine V0 (Yf fo27_0 rfl) ?_
  refine V0 (Yd 1 rfl rfl rfl na9) ?_
  refine V0 (Yb zr30 pl30 rfl rfl) ?_
  refine LW (fun _ h=>h.osl_nil 55 4) ?_
  refine WL.alloc (.inl rfl) rfl zr30 fun b7=>?_
  refine Lst 0 (.inl rfl) rfl rfl rfl sz30 rfl rfl rfl ?_
  refine Ln (Et (Cs (Cr ?_)))
  refine V0 (Ya rfl) ?_
  refine LW (fun _ h=>h.osl_nil 9 1) ?_
  refine Ln (Et (Cs (Cr ?_)))
  refine V0 (Yda 4 rfl rfl ag27 rfl) ?_
  refine Ld (.inl rfl) rfl en18 rfl (fun r:SP=>.slice r.1 (pubsM m).length r.2) (fun H r=>Sl rdBool 1 H r.1 r.2 (pubsM m)) (fun w hw=>pubs_any H ke ks r m w (hw.vs _ (by simp)) hm ho) ?_
  intro F27 r27 hf27 h27
  have x20:=h20.max
  have y20:=h20.cap
  have x27:=h27.max
  have y27:=h27.cap
  refine V0 (Ya rfl) ?_
  refine Ln (Et (Cs (Cs (Cr ?_))))
  refine V0 (Ym rfl) ?_
  refine V0 (Yn es28 rfl) ?_
  refine V0 (Ym rfl) ?_
  refine Ln (Et (Cb ?_))
  refine CK (ι:=GF) (fun g=>[(30,.int .i64 (g.i:Int)),(8,.slice g.n.1 (((itemsM m).take g.i).map mnamed).length g.n.2)]) [(1,_),(2,_),(3,_),(7,_),(9,_),(28,_),(29,_)] (fun g=>Ws w [] [blk b7 (.cells #[st m.nm,.slice g.f.1 (FQ m g.i).length g.f.2] 30 (0,0)),osT 9 1 strC g.n.1 g.n.2 (((itemsM m).take g.i).map mnamed),osT 55 4 FItem.cells g.f.1 g.f.2 (FQ m g.i),blk b2 (.cells #[st [],.slice none 0 0] 30 (0,0)),blk b1 (.cells (modV m r).toArray 27 (0,0))] [F27,F20,H]) (fun g=>g.i≤(itemsM m).length) (fun g=>(itemsM m).length-g.i) ⟨0,(none,0),(none,0)⟩ (Nat.zero_le _) (sc rfl (sc rfl (sc rfl (sc rfl (sc rfl (sc rfl (sc rfl (sc rfl (sc rfl sn))))))))) (fun _ h=>by have h:=h.fronti 4 rfl; have h:=h.fronti 4 rfl; have h:=h.fronti 4 rfl; have h:=h.fronti 3 rfl; have h:=h.fronti 4 rfl; exact h) ?_
  intro g hi
  refine Cs (Cr ?_)
  refine V0 (yl_lt rfl rfl) ?_
  refine Ln (Et (Cs ?_))
  refine Cc rfl (fun hc1=>?_) (fun hc1=>?_)
  ·
   have hlt:g.i<(itemsM m).length:=by simpa using hc1
   obtain ⟨x,hx⟩:∃x,(itemsM m)[g.i]? = some x:=⟨_,List.getElem?_eq_getElem hlt⟩
   obtain ⟨pb,po,ha,hrow⟩:=h20.elt g.i x hx
   have hrow:RdC F20 pb (po+g.i*4) x.cells:=hrow
   obtain ⟨pv,hpv⟩:∃p,(pubsM m)[g.i]? = some p:=⟨_,List.getElem?_eq_getElem (by rw [pubsM_len,←itemsM_len]; exact hlt)⟩
   obtain ⟨qb,qo,hqa,hrq⟩:=h27.elt g.i pv hpv
   have hrq:RdC F27 qb (qo+g.i*1) (boolC pv):=hrq
   have hT:((itemsM m).take (g.i+1)).map mnamed=((itemsM m).take g.i).map mnamed++[x.name]:=by rw [List.take_add_one,hx]; simp [mnamed]
   have hL:(((itemsM m).take g.i).map mnamed).length=g.i:=by simp; omega
   have hQ:=FQ_step hx hpv
   have hQl:=FQ_le m g.i
   refine Ck (Et (Cs (Cb (Cs (Cr ?_)))))
   refine V0 (Ym rfl) ?_
   refine V0 (Yo es28 rfl rfl ha (by omega)) ?_
   refine V0 (yl_lda 1 ag55 rfl rfl rfl (hrow)) ?_
   refine WL.alloc (.inl rfl) rfl zr55 fun b11=>?_
   refine V0 (Ya rfl) ?_
   refine Lst 0 (.inl rfl) rfl rfl rfl sz55 rfl rfl rfl ?_
   refine Ln (Et (Cs (Cr ?_)))
   refine V0 (Ym rfl) ?_
   refine V0 (Yf fo55_3 rfl) ?_
   refine V0 (Yd 0 rfl rfl rfl na9) ?_
   refine Lb (.inl rfl) rfl el22 rfl rfl rfl rfl fun b38=>?_
   refine Lrb 0 (.cells (strC x.name).toArray 9 (0,0)) rfl (rfl) ?_
   refine LA ((x.name:List UInt8)) 3 0 (.inl rfl) rfl el22 rfl rfl rfl rfl rfl rfl (by omega) (by omega) fun a39 c39=>?_
   refine V0 (Ya rfl) ?_
   refine Ln (Et (Cs (Cr ?_)))
   refine V0 (Ym rfl) ?_
   refine V0 (Ym rfl) ?_
   refine V0 (Yo es52 rfl rfl hqa (by omega)) ?_
   refine V0 (yl_ld 0 na4 rfl rfl (hrq 0 _ rfl)) ?_
   refine Ln (Et ?_)
   refine Cc rfl (fun hc2=>?_) (fun hc2=>?_)
   ·
    have hp1:pv=true:=by simpa using hc2
    have hQ1:FQ m (g.i+1)=FQ m g.i++[x]:=by rw [hQ,if_pos hp1]
    refine Cr ?_
    refine V0 (Yf fo30_1 rfl) ?_
    refine V0 (Yd 2 rfl rfl rfl na28) ?_
    refine V0 (Yda 1 rfl rfl ag55 rfl) ?_
    refine Lb (.inl rfl) rfl el28 rfl rfl rfl rfl fun b47=>?_
    refine Lrb 0 (.cells (FItem.cells x).toArray 55 (0,0)) rfl (rfl) ?_
    refine LA (x) 5 0 (.inl rfl) rfl el28 rfl rfl rfl rfl rfl rfl (by omega) (by omega) fun a48 c48=>?_
    refine V0 (Yf fo30_1 rfl) ?_
    refine Lst 3 (.inl rfl) rfl rfl rfl sz28 rfl rfl rfl ?_
    refine Ln (Eb (Et (Cr ?_)))
    refine V0 (Yi rfl rfl rfl (by omega)) ?_
    refine V0 (Ym rfl) ?_
    refine Ln ?_
    rw [←hT]
    rw [←hQ1]
    exact Ea (⟨g.i+1,(a39,c39),(a48,c48)⟩:GF) (by first | omega | (dsimp only; omega)) (by first | omega | (dsimp only; omega)) (sc rfl (sc rfl (sc rfl (sc rfl (sc rfl (sc rfl (sc rfl (sc rfl (sc rfl sn))))))))) (fun _ h=>Ws.drop (L:=[_,_,_]) h)
   ·
    have hp0:¬pv=true:=by simpa using hc2
    have hQ0:FQ m (g.i+1)=FQ m g.i:=by rw [hQ,if_neg hp0,List.append_nil]
    refine Ck (Eb (Et (Cr ?_)))
    refine V0 (Yi rfl rfl rfl (by omega)) ?_
    refine V0 (Ym rfl) ?_
    refine Ln ?_
    rw [←hT]
    rw [←hQ0]
    exact Ea (⟨g.i+1,(a39,c39),g.f⟩:GF) (by first | omega | (dsimp only; omega)) (by first | omega | (dsimp only; omega)) (sc rfl (sc rfl (sc rfl (sc rfl (sc rfl (sc rfl (sc rfl (sc rfl (sc rfl sn))))))))) (fun _ h=>Ws.drop (L:=[_,_]) h)
  ·
   have hge:g.i=(itemsM m).length:=by simp at hc1; omega
   have hAll:=FQ_all m
   refine Ce (Ex (Ex (Ebh (Et (Cs ?_)))))
   refine Cs ?_
   rw [hge,List.take_length]
   refine WC.oslview (rd:=rdStr) 1 rfl strC_len (fun _ _ _ _ h=>h) fun HN hHN=>?_
   refine Cr ?_
   refine V0 (Ym rfl) ?_
   refine Lp (.inl rfl) rfl en19 rfl (fun w hw=>by
       have:=alike_any HN g.n.1 g.n.2 ((itemsM m).map mnamed) w (hw.vs _ (by simp)) hHN
       exact this) ?_
   refine V0 (Ym rfl) ?_
   apply WL.or 3 rfl rfl rfl rfl (.inl rfl) rfl rfl rfl rfl rfl
   ·
    intro hg0
    refine Lv (.g rfl rfl rfl) rfl (Yf fo27_1 rfl) ?_
    refine Lv (.g rfl rfl rfl) rfl (Yd 3 rfl rfl rfl na22) ?_
    refine Lp (.g rfl rfl rfl) rfl en19 rfl (fun w hw=>alike_any H r.a1 r.c1 m.uses w (hw.vs _ (by simp)) hm.uses) ?_
    exact Gt 3 rfl rfl rfl
   refine Ln (Et ?_)
   refine Cc rfl (fun hc3=>?_) (fun hc3=>?_)
   ·
    have h6:(twiceB ((itemsM m).map (·.name))||twiceB m.uses)=true:=hc3
    refine Cs (Cr ?_)
    refine V0 (Yb zr30 pl30 rfl rfl) ?_
    refine Lst 2 (.inl rfl) rfl rfl rfl sz30 rfl rfl rfl ?_
    refine V0 (Ya rfl) ?_
    refine Ln (Et (Crt (Er ?_)))
    refine WE.retc2 2 rfl rfl rfl rfl ag30 rfl fun w' hw=>?_
    rw [faceM_twice he h6]
    exact ⟨(none,0),rfl,hw.fr,Sl.nil⟩
   ·
    have h6:(twiceB ((itemsM m).map (·.name))||twiceB m.uses)=false:=hc3
    refine Ck (Et (Cs (Cr ?_)))
    refine V0 (Yda 0 rfl rfl ag30 rfl) ?_
    refine Lst 2 (.inl rfl) rfl rfl rfl sz30 rfl rfl rfl ?_
    refine V0 (Ya rfl) ?_
    refine Ln (Et (Crt ?_))
    refine WE.retc2 2 rfl rfl rfl rfl ag30 rfl fun w' hw=>?_
    rw [faceM_ok he h6]
    rw [hAll] at hw ⊢
    exact ⟨g.f,rfl,hw.fr,hw.slT 1 rfl FItem.cells_len (fun _ _ _ _ h=>h)⟩
end Go.Proofs.YtinnlppbkhhoiaaGreatDoor
end
section
namespace Go.Proofs.YtinnlppbkhhoiaaGreatDoor
open Go.Bw
set_option linter.unusedVariables false
set_option linter.unusedSimpArgs false
structure GI where
 i:Nat
 s:SP
 p:SP
def cntN:List UInt8:=[99,110,116]
def cntI:List FItem:=[⟨1,3,0,[107]⟩,⟨2,0,0,[115,117,109]⟩,⟨3,4,1,[116]⟩,⟨4,1,0,[100,111,119,110]⟩]
theorem nodup_take {l:List FItem} {i:Nat} {x:FItem} (h:(l.map (·.name)).Nodup) (hx:l[i]? = some x):x.name ∉ (l.take i).map (·.name):=by
 intro hm
 have hlt:i<l.length:=(List.getElem?_eq_some_iff.1 hx).1
 obtain ⟨j,hj⟩:=List.getElem?_of_mem hm
 rw [List.getElem?_map] at hj
 obtain ⟨y,hy,e⟩:=Option.map_eq_some_iff.1 hj
 have hji:j<i:=by have:=(List.getElem?_eq_some_iff.1 hy).1; simp at this; omega
 rw [List.getElem?_take,if_pos hji] at hy
 have e2:(l.map (·.name))[j]? = (l.map (·.name))[i]?:=by rw [List.getElem?_map,List.getElem?_map,hy,hx]; simp [e]
 have:=(List.getElem?_inj (by simpa using (List.getElem?_eq_some_iff.1 hy).1) h).1 e2
 omega
theorem fl55:flatSt Tryz.prog 55=some [0,0,0,1]:=by kernel_rfl
theorem um77:Tryz.prog.underlying 77=some (.map 9 55):=by kernel_rfl
theorem sameFaces_eq (H1 H2:View) (a1 a2:Option Addr) (c1 c2:Nat) (n1:List UInt8) (l1:List FItem) (w:World) (hH1:Le H1 w) (hH2:Le H2 w) (hm1:Sl rdItem 4 H1 a1 c1 l1) (hm2:Sl rdItem 4 H2 a2 c2 l1) :
   Calls Tryz.prog 9 #[.agg #[st n1,.slice a1 l1.length c1],.agg #[st n1,.slice a2 l1.length c2]] w fun e w'=>e = .returned (.bool true)∧Ext w w':=by
 have hcap1:=hm1.cap
 have hmax1:=hm1.max
 have hcap2:=hm2.cap
 have hmax2:=hm2.max
 refine enter Tryz.func9 rfl 38 rfl rfl ?_
 refine CWd (W':=Ws w [] [] [H1,H2]) (fun _ e=>by subst e; exact Ws.init (by simp [hH1,hH2])) ?_
 refine Cs (Cr ?_)
 refine WL.box (.inl rfl) rfl rfl fun b2=>?_
 refine WL.box (.inl rfl) rfl rfl fun b3=>?_
 refine V0 (Ya rfl) ?_
 refine Ln (Et (Cs (Cs (Cr ?_))))
 refine V0 (Yf fo30_0 rfl) ?_
 refine V0 (Yd 1 rfl rfl rfl na9) ?_
 refine V0 (Yf fo30_0 rfl) ?_
 refine V0 (Yd 0 rfl rfl rfl na9) ?_
 refine V0 (yl_nesY rfl rfl rfl) ?_
 refine V0 (Ym rfl) ?_
 apply WL.or 7 (x:=false) rfl rfl rfl rfl (.inl rfl) rfl rfl rfl rfl rfl
 ·
  intro hg0
  refine Lv (.g rfl rfl rfl) rfl (Yf fo30_1 rfl) ?_
  refine Lv (.g rfl rfl rfl) rfl (Yd 1 rfl rfl rfl na28) ?_
  refine Lv (.g rfl rfl rfl) rfl (Yn es28 rfl) ?_
  refine Lv (.g rfl rfl rfl) rfl (Yf fo30_1 rfl) ?_
  refine Lv (.g rfl rfl rfl) rfl (Yd 0 rfl rfl rfl na28) ?_
  refine Lv (.g rfl rfl rfl) rfl (Yn es28 rfl) ?_
  refine Lv (.g rfl rfl rfl) rfl (yl_neY rfl rfl rfl) ?_
  exact Gt 7 rfl rfl rfl
 refine Ln (Et ?_)
 refine WC.condf rfl ?_
 refine Ck (Et (Cs (Cs (Cr ?_))))
 refine V0 (Ya rfl) ?_
 refine Ln (Et (Cb ?_))
 refine CW (ι:=Nat) (fun i=>[(5,.int .i64 (i:Int))]) [(2,_),(3,_)] (fun i=>i≤l1.length) (fun i=>l1.length-i) 0 (Nat.zero_le _) (sc rfl (sc rfl (sc rfl sn))) ?_
 intro i hi
 refine Cs (Cs (Cr ?_))
 refine V0 (Ym rfl) ?_
 refine V0 (Yf fo30_1 rfl) ?_
 refine V0 (Yd 1 rfl rfl rfl na28) ?_
 refine V0 (Yn es28 rfl) ?_
 refine V0 (yl_lt rfl rfl) ?_
 refine Ln (Et ?_)
 refine Cc rfl (fun hc1=>?_) (fun hc1=>?_)
 ·
  have hlt:i<l1.length:=by simpa using hc1
  obtain ⟨x,hx⟩:∃x,l1[i]? = some x:=⟨_,List.getElem?_eq_getElem hlt⟩
  obtain ⟨pb,po,ha1,hrow1⟩:=hm1.elt i x hx
  obtain ⟨qb,qo,ha2,hrow2⟩:=hm2.elt i x hx
  have hrow1:RdC H1 pb (po+i*4) x.cells:=hrow1
  have hrow2:RdC H2 qb (qo+i*4) x.cells:=hrow2
  refine Ck (Et (Cs (Cb (Cs ?_))))
  refine WC.draws0 [(0,true),(1,true),(2,true),(3,true),(4,true),(5,true),(6,true),(7,true),(8,true),(9,true),(10,true)] mixed (by kernel_rfl) (fun _ _ _ d _ h=>by cases d<;>exact h) ?_
  refine Dq rfl (.inl rfl) rfl (fun _ h=>h) (Yf fo30_1 rfl) ?_
  refine Dq rfl (.inl rfl) rfl (fun _ h=>h) (Yd 1 rfl rfl rfl na28) ?_
  refine Dq rfl (.inl rfl) rfl (fun _ h=>h) (Ym rfl) ?_
  refine Dq rfl (.inl rfl) rfl (fun _ h=>h) (Yo es28 rfl rfl ha1 (by omega)) ?_
  refine Dq rfl (.inl rfl) rfl (fun _ h=>h) (yl_lda 0 ag55 rfl rfl rfl (hrow1)) ?_
  refine Dq rfl (.inl rfl) rfl (fun _ h=>h) (Yf fo30_1 rfl) ?_
  refine Dq rfl (.inl rfl) rfl (fun _ h=>h) (Yd 0 rfl rfl rfl na28) ?_
  refine Dq rfl (.inl rfl) rfl (fun _ h=>h) (Ym rfl) ?_
  refine Dq rfl (.inl rfl) rfl (fun _ h=>h) (Yo es28 rfl rfl ha2 (by omega)) ?_
  refine Dq rfl (.inl rfl) rfl (fun _ h=>h) (yl_lda 1 ag55 rfl rfl rfl (hrow2)) ?_
  refine Dq rfl (.inl rfl) rfl (fun _ h=>h) (yl_nest fl55 rfl rfl rfl) ?_
  refine WD.nil (fun _ h=>h) ?_
  refine Et ?_
  refine Cc rfl (fun hc2=>?_) (fun hc2=>?_)
  ·
   exact (show False by simp at hc2).elim
  ·
   refine Ck (Eb (Et (Cr ?_)))
   refine V0 (Ym rfl) ?_
   refine V0 (Yi rfl rfl rfl (by omega)) ?_
   refine V0 (Ya rfl) ?_
   refine Ln ?_
   exact Ea (i+1) (by omega) (by omega) (sc rfl (sc rfl (sc rfl sn))) (fun _ h=>h)
 ·
  refine Ce (Ex (Ex (Ebh (Et (Cs ?_)))))
  refine Cr ?_
  refine V0 (Ya rfl) ?_
  refine Ln (Et (Crt ?_))
  refine WE.ret1 rfl rfl fun w' hw=>?_
  exact ⟨rfl,hw.fr⟩
theorem counted_any (w:World) :
   Calls Tryz.prog 26 #[] w fun e w'=>∃r:SP,e = .returned (.agg #[st cntN,.slice r.1 cntI.length r.2])∧Ext w w'∧Sl rdItem 4 (nv w w') r.1 r.2 cntI:=by
 refine enter Tryz.func26 rfl 7 rfl rfl ?_
 refine CWd (W':=Ws w [] [] []) (fun _ e=>by subst e; exact Ws.init (by simp)) ?_
 refine Cs (Cr ?_)
 refine WL.alloc (.inl rfl) rfl zr30 fun b0=>?_
 refine Ln (Et (Cs (Cr ?_)))
 refine V0 (Yb zr55 pl55 rfl rfl) ?_
 refine V0 (Yb zr55 pl55 rfl rfl) ?_
 refine V0 (Yb zr55 pl55 rfl rfl) ?_
 refine V0 (Yb zr55 pl55 rfl rfl) ?_
 refine Lb (.inl rfl) rfl el28 rfl rfl rfl rfl fun b5=>?_
 refine V0 (Yb zr30 pl30 rfl rfl) ?_
 refine Lst 1 (.inl rfl) rfl rfl rfl sz30 rfl rfl rfl ?_
 refine Ln (Et (Crt ?_))
 refine WE.retR (rs_1 rfl (rv_agg 1 rfl rfl ag30 rfl)) fun w' hw=>?_
 exact ⟨(some ⟨b5,0,none⟩,4),rfl,hw.fr,⟨show cntI.length≤4 by decide,show 4≤9223372036854775807 by decide,by simp,fun j x hj=>⟨b5,0,rfl,fun k v hk=>hw.nvc 0 rfl (by
     have:k<4:=(List.getElem?_eq_some_iff.1 hk).1
     show (cntI.flatMap FItem.cells)[0+j*4+k]? = some v
     rw [Nat.zero_add,flat_get FItem.cells_len hj this]; exact hk)⟩⟩⟩
theorem tableOf_any (H:View) (a:Option Addr) (c:Nat) (l:List FItem) (w:World) (hH:Le H w) (hm:Sl rdItem 4 H a c l) (hnd:(l.map (·.name)).Nodup) :
   Calls Tryz.prog 32 #[.slice a l.length c] w fun e w'=>∃b:Nat,e = .returned (.map (some b))∧Ext w w'∧(nv w w') b=some (gobj st (tabI l 0) l.length):=by
 have hcap:=hm.cap
 have hmax:=hm.max
 refine enter Tryz.func32 rfl 19 rfl rfl ?_
 refine CWd (W':=Ws w [] [] [H]) (fun _ e=>by subst e; exact Ws.init (by simp [hH])) ?_
 refine Cs (Cr ?_)
 refine V0 (Ya rfl) ?_
 refine Ln (Et (Cs (Cr ?_)))
 refine WL.gmk st (.inl rfl) rfl fun b6=>?_
 refine Lrb 0 (gobj st (tabI (l.take 0) 0) (l.take 0).length) rfl rfl ?_
 refine V0 (Ya rfl) ?_
 refine Ln (Et (Cs (Cs (Cr ?_))))
 refine V0 (Ym rfl) ?_
 refine V0 (Yn es28 rfl) ?_
 refine V0 (Ym rfl) ?_
 refine Ln (Et (Cb ?_))
 refine CK (ι:=Nat) (fun i=>[(9,.int .i64 (i:Int))]) [(2,_),(3,_),(7,_),(8,_)] (fun i=>Ws w [] [blk b6 (gobj st (tabI (l.take i) 0) (l.take i).length)] [H]) (fun i=>i≤l.length) (fun i=>l.length-i) 0 (Nat.zero_le _) (sc rfl (sc rfl (sc rfl (sc rfl (sc rfl sn))))) (fun _ h=>h) ?_
 intro i hi
 refine Cs (Cr ?_)
 refine V0 (yl_lt rfl rfl) ?_
 refine Ln (Et (Cs ?_))
 refine Cc rfl (fun hc0=>?_) (fun hc0=>?_)
 ·
  have hlt:i<l.length:=by simpa using hc0
  obtain ⟨x,hxi⟩:∃x,l[i]? = some x:=⟨_,List.getElem?_eq_getElem hlt⟩
  obtain ⟨pbx,pox,ha,hrow⟩:=hm.elt i x hxi
  have hrow:RdC H pbx (pox+i*4) x.cells:=hrow
  have hput:=tabI_put (nodup_take hnd hxi)
  refine Ck (Et (Cs (Cb (Cs (Cr ?_)))))
  refine V0 (Yo es28 rfl rfl ha (by omega)) ?_
  refine V0 (yl_lda 0 ag55 rfl rfl rfl (hrow)) ?_
  refine WL.alloc (.inl rfl) rfl zr55 fun b5=>?_
  refine Lst 0 (.inl rfl) rfl rfl rfl sz55 rfl rfl rfl ?_
  refine Ln (Et (Cr ?_))
  refine V0 (Ym rfl) ?_
  refine V0 (Yf fo55_3 rfl) ?_
  refine V0 (Yd 0 rfl rfl rfl na9) ?_
  refine V0 (Yda 0 rfl rfl ag55 rfl) ?_
  refine WL.gset 1 keyStr (.inl rfl) um77 us9 rfl rfl rfl rfl ?_
  refine Ln (Eb (Et (Cr ?_)))
  refine V0 (Yi rfl rfl rfl (by omega)) ?_
  refine V0 (Ym rfl) ?_
  refine Ln ?_
  refine WE.reblk 1 (gobj st (tabI (l.take (i+1)) 0) (l.take (i+1)).length) rfl (by rw [take_snoc hxi,←hput.1,←hput.2]; rfl) ?_
  exact Ea (i+1) (by omega) (by omega) (sc rfl (sc rfl (sc rfl (sc rfl (sc rfl sn))))) (fun _ h=>Ws.drop (L:=[_]) h)
 ·
  have hge:i=l.length:=by simp at hc0; omega
  rw [hge,List.take_length]
  refine Ce (Ex (Ex (Ebh (Et (Cs ?_)))))
  refine Cr ?_
  refine V0 (Ym rfl) ?_
  refine V0 (Ya rfl) ?_
  refine Ln (Et (Crt ?_))
  refine WE.ret1 rfl rfl fun w' hw=>?_
  exact ⟨b6,rfl,hw.fr,hw.nvb 0 rfl⟩
end Go.Proofs.YtinnlppbkhhoiaaGreatDoor
end
section
namespace Go.Proofs.YtinnlppbkhhoiaaGreatDoor
open Go.Bw
set_option linter.unusedVariables false
set_option linter.unusedSimpArgs false
def refd (e:Int):List PanicEntry:=[⟨.iface 73 (.agg #[.int .i64 e]),false,false⟩]
def rdTab (H:View) (b o:Nat) (l:List FItem):Prop:=∃tb:Nat,vc H b o=some (.map (some tb))∧H tb=some (gobj st (tabI l 0) l.length)
structure Slv (H:View) (sb:Nat) (σ:Scp):Prop where
 at_:∃(ob ub:Nat) (fa:Option Addr) (fc lb:Nat),(vc H sb 0=some (.map (some ob))∧vc H sb 1=some (.map (some ub))∧vc H sb 2=some (.slice fa σ.faces.length fc)∧vc H sb 3=some (.map (some lb)))∧H ob=some (gobj st (tabI σ.own 0) σ.own.length)∧H ub=some (gobj st (tabL σ.uses 0) σ.uses.length)∧Sl rdTab 1 H fa fc σ.faces∧H lb=some (gobj st (tabL σ.locs 0) σ.locs.length)
 nd:σ.uses.Nodup
 len:σ.uses.length=σ.faces.length
 few:σ.uses.length≤3∧σ.locs.length≤7
def noItem:FItem:=⟨0,0,0,[]⟩
def posN (nm:List UInt8) (l:List (List UInt8)):Int:=match idxOf nm l 0 with | some k=>((k+1:Nat):Int) | none=>0
theorem posN_get (nm:List UInt8) (l:List (List UInt8)):gget nm (tabL l 0) (.int .i64 0) = .int .i64 (posN nm l):=tabL_get nm l
theorem posN_pos {nm:List UInt8} {l:List (List UInt8)} (h:0<posN nm l):∃k:Nat,idxOf nm l 0=some k∧posN nm l=((k+1:Nat):Int)∧k<l.length:=by
 unfold posN at h ⊢
 cases hk:idxOf nm l 0 with
 | none=>rw [hk] at h; exact absurd h (by decide)
 | some k=>exact ⟨k,rfl,rfl,by have:=(idxOf_le hk).2; exact (List.getElem?_eq_some_iff.1 this).1⟩
theorem posN_no {nm:List UInt8} {l:List (List UInt8)} (h:¬0<posN nm l):idxOf nm l 0=none:=by
 unfold posN at h
 cases hk:idxOf nm l 0 with
 | none=>rfl
 | some k=>rw [hk] at h; exact absurd (by simp only; omega) h
def itemN (nm:List UInt8) (l:List FItem):FItem:=(findI nm l).getD noItem
theorem itemN_get (nm:List UInt8) (l:List FItem):gget nm (tabI l 0) (.agg #[.int .i64 0,.int .i64 0,.int .i64 0,st []]) = .agg (itemN nm l).cells.toArray:=by
 rw [(tabI_get nm l _).1]
 unfold itemN
 cases findI nm l<;>rfl
theorem itemN_has (nm:List UInt8) (l:List FItem):ghas nm (tabI l 0)=(findI nm l).isSome:=(tabI_get nm l (.bool false)).2
theorem itemN_some {nm:List UInt8} {l:List FItem} (h:(findI nm l).isSome=true):findI nm l=some (itemN nm l):=by
 unfold itemN
 cases hf:findI nm l with
 | none=>rw [hf] at h; cases h
 | some x=>rfl
theorem itemN_none {nm:List UInt8} {l:List FItem} (h:(findI nm l).isSome=false):findI nm l=none:=by
 cases hf:findI nm l with
 | none=>rfl
 | some x=>rw [hf] at h; cases h
theorem find_loc {σ:Scp} {nm:List UInt8} {k:Nat} (h:idxOf nm σ.locs 0=some k):findT σ [] nm=some (-1,locItem k):=by rw [findT,if_pos rfl,h]
theorem find_own {σ:Scp} {nm:List UInt8} (h:idxOf nm σ.locs 0=none):findT σ [] nm=(findI nm σ.own).map fun x=>(0,x):=by rw [findT,if_pos rfl,h]
theorem find_use {σ:Scp} {mod nm:List UInt8} (h:¬mod=[]) (hn:σ.uses.Nodup) (hl:σ.uses.length=σ.faces.length) {k:Nat} {f:List FItem} (hk:idxOf mod σ.uses 0=some k) (hf:σ.faces[k]? = some f):findT σ mod nm=(findI nm f).map fun x=>(((k+1:Nat):Int),x):=by
 rw [findT,if_neg h,findU_at hn hl,hk]
 simp [hf]
theorem find_no {σ:Scp} {mod nm:List UInt8} (h:¬mod=[]) (hk:idxOf mod σ.uses 0=none):findT σ mod nm=none:=by
 rw [findT,if_neg h,findU_none (idxOf_none.1 hk)]
theorem findU_m {mod nm:List UInt8}:∀{us:List (List UInt8)} {fs:List (List FItem)} {s:Nat} {m:Int} {x:FItem},findU mod nm us fs s=some (m,x)→0≤m
 | [],_,_,_,_,h=>by simp [findU] at h
 | u::us,[],_,_,_,h=>by simp [findU] at h
 | u::us,f::fs,s,m,x,h=>by
   rw [findU] at h
   split at h
   · split at h
     · injection h with h; injection h with h1 h2; omega
     · exact findU_m h
   · exact findU_m h
theorem findT_m {σ:Scp} {mod nm:List UInt8} {m:Int} {x:FItem} (h:findT σ mod nm=some (m,x)):m = -1∨0≤m:=by
 unfold findT at h
 split at h
 · split at h
   · injection h with h; injection h with h1 h2; exact .inl h1.symm
   · cases hf:findI nm σ.own with
     | none=>rw [hf] at h; cases h
     | some y=>rw [hf] at h; injection h with h; injection h with h1 h2; right; omega
 · exact .inr (findU_m h)
def plErr (σ:Scp) (mod nm:List UInt8) (kind args:Int):Int:=match findT σ mod nm with
 | none=>5
 | some (m,it)=>if ¬(0≤m∧it.kind=kind) then 7 else if kind=4∧¬it.n=args then 8 else 0
theorem pl_none {σ:Scp} {mod nm:List UInt8} {kind args:Int} (h:findT σ mod nm=none):plErr σ mod nm kind args=5:=by unfold plErr; rw [h]
theorem pl_some {σ:Scp} {mod nm:List UInt8} {kind args m:Int} {it:FItem} (h:findT σ mod nm=some (m,it)):plErr σ mod nm kind args=if ¬(0≤m∧it.kind=kind) then 7 else if kind=4∧¬it.n=args then 8 else 0:=by unfold plErr; rw [h]
def ScNodes (HS:View) (sb:Nat) (σ:Scp) (k:Nat):Prop:=∀(HE:View) (l:List TExpr) (a:Option Addr) (c:Nat) (w:World),Le HS w→Le HE w→Sl (RdE k) 5 HE a c l→wEs l≤109951162777→
 Calls Tryz.prog 76 #[.pointer (some ⟨sb,0,none⟩),.slice a l.length c] w fun e w'=>(∃r:SP,e = .returned (.slice r.1 (nodesT σ l).length r.2)∧Ext w w'∧errEs σ l=0∧Sl (RdN (k+1)) 5 (nv w w') r.1 r.2 (nodesT σ l))∨(∃_:Unit,e = .panicked (refd (errEs σ l))∧Ext w w'∧errEs σ l≠0)
theorem pl73:placesP Tryz.prog 73=some [(0,1)]:=by kernel_rfl
theorem zr73:zeroOf Tryz.prog 73=some (.agg #[.int .i64 0]):=by kernel_rfl
theorem co73:Tryz.prog.concrete 73=true:=by kernel_rfl
theorem fo82_3:fieldOff Tryz.prog 82 3=some 3:=by kernel_rfl
theorem na79:nonAgg Tryz.prog 79=true:=by kernel_rfl
theorem fo82_0:fieldOff Tryz.prog 82 0=some 0:=by kernel_rfl
theorem na77:nonAgg Tryz.prog 77=true:=by kernel_rfl
theorem en33:Enters Tryz.prog 33:=enters_of Tryz.func33 (by kernel_rfl) rfl
theorem fo82_1:fieldOff Tryz.prog 82 1=some 1:=by kernel_rfl
theorem fo82_2:fieldOff Tryz.prog 82 2=some 2:=by kernel_rfl
theorem na80:nonAgg Tryz.prog 80=true:=by kernel_rfl
theorem es80:elemSz Tryz.prog 80=some 1:=by kernel_rfl
theorem scMust_any (b:Bool) (n:Int) (w:World) :
   Calls Tryz.prog 33 #[.bool b,.int .i64 n] w fun e w'=>(∃_:Unit,e = .returned (.tuple #[])∧Ext w w'∧b=true)∨(∃_:Unit,e = .panicked (refd n)∧Ext w w'∧b=false):=by
 refine enter Tryz.func33 rfl 9 rfl rfl ?_
 refine CWd (W':=Ws w [] [] []) (fun _ e=>by subst e; exact Ws.init (by simp)) ?_
 refine Cs (Cr ?_)
 refine V0 (Ym rfl) ?_
 refine V0 (yl_not rfl) ?_
 refine Ln (Et ?_)
 refine Cc rfl (fun hc0=>?_) (fun hc0=>?_)
 ·
  refine Cr ?_
  refine V0 (Ym rfl) ?_
  refine V0 (Yb zr73 pl73 rfl rfl) ?_
  refine V0 (yl_mki co73 rfl) ?_
  refine WL.panic (.inl rfl) rfl ?_
  refine Epp fun w' hw=>?_
  exact .inr ⟨(),rfl,hw.fr,by simpa using hc0⟩
 ·
  refine Ck ?_
  refine WE.end0 rfl fun w' hw=>?_
  exact .inl ⟨(),rfl,hw.fr,by simpa using hc0⟩
theorem scFind_any (HS:View) (sb:Nat) (σ:Scp) (w:World) (hHS:Le HS w) (hS:Slv HS sb σ) (mod nm:List UInt8) :
   Calls Tryz.prog 74 #[.pointer (some ⟨sb,0,none⟩),st mod,st nm] w fun e w'=>(∃i:Int×FItem,e = .returned (.tuple #[.int .i64 i.1,.agg i.2.cells.toArray])∧Ext w w'∧findT σ mod nm=some i)∨(∃_:Unit,e = .panicked (refd 5)∧Ext w w'∧findT σ mod nm=none):=by
 obtain ⟨⟨ob,ub,fa,fc,lb,⟨h0,h1,h2,h3⟩,hob,hub,hfs,hlb⟩,hnd,hlen,few⟩:=hS
 refine enter Tryz.func74 rfl 65 rfl rfl ?_
 refine CWd (W':=Ws w [] [] [HS]) (fun _ e=>by subst e; exact Ws.init (by simp [hHS])) ?_
 refine Cs (Cr ?_)
 refine V0 (Ya rfl) ?_
 refine WL.alloc (.inl rfl) rfl zr55 fun b7=>?_
 refine Ln (Et (Cs (Cs (Cr ?_))))
 refine V0 (Ym rfl) ?_
 refine V0 (yl_eqs rfl rfl) ?_
 refine Ln (Et ?_)
 refine Cc rfl (fun hc0=>?_) (fun hc0=>?_)
 ·
  obtain rfl:mod=[]:=by simpa using hc0
  refine Cs (Cs (Cr ?_))
  refine V0 (Ym rfl) ?_
  refine V0 (yl_nil rfl) ?_
  refine V0 (Yf fo82_3 rfl) ?_
  refine V0 (yl_ld 0 na79 rfl rfl (h3)) ?_
  refine V0 (Ym rfl) ?_
  refine V0 (yl_glookv 0 rfl keyStr um79 us9 zr3 rfl rfl (hlb)) ?_
  rw [posN_get]
  refine V0 (Ya rfl) ?_
  refine Ln (Et (Cs (Cr ?_)))
  refine V0 (Ym rfl) ?_
  refine V0 (yl_gt rfl rfl) ?_
  refine Ln (Et ?_)
  refine Cc rfl (fun hc1=>?_) (fun hc1=>?_)
  ·
   obtain ⟨k,hk,hk2,hk3⟩:=posN_pos (nm:=nm) (l:=σ.locs) (by simpa using hc1)
   refine Cs (Cr ?_)
   refine V0 (Ym rfl) ?_
   refine V0 (yl_subv (k:Int) rfl rfl (by rw [hk2]; omega) (by omega)) ?_
   refine V0 (Yb zr55 pl55 rfl rfl) ?_
   refine V0 (Ya rfl) ?_
   refine Lst 0 (.inl rfl) rfl rfl rfl sz55 rfl rfl rfl ?_
   refine Ln (Et (Crt (Er (Er ?_))))
   refine WE.retR (rs_2 rfl (rv_tmp rfl) (rv_agg 0 rfl rfl ag55 rfl)) fun w' hw=>?_
   exact .inl ⟨(-1,locItem k),rfl,hw.fr,find_loc hk⟩
  ·
   have hk:=posN_no (nm:=nm) (l:=σ.locs) (by simpa using hc1)
   refine Ck (Et (Cs (Cr ?_)))
   refine V0 (Ym rfl) ?_
   refine V0 (yl_nil rfl) ?_
   refine V0 (Yf fo82_0 rfl) ?_
   refine V0 (yl_ld 0 na77 rfl rfl (h0)) ?_
   refine V0 (Ym rfl) ?_
   refine V0 (yl_glook2v 0 rfl keyStr um77 us9 zr55 rfl rfl (hob)) ?_
   rw [itemN_get,itemN_has]
   refine V0 (Ym rfl) ?_
   refine V0 (Yx rfl rfl) ?_
   refine V0 (Yx rfl rfl) ?_
   refine WL.alloc (.inl rfl) rfl zr55 fun b9=>?_
   refine Lst 0 (.inl rfl) rfl rfl rfl sz55 rfl rfl rfl ?_
   refine V0 (Ya rfl) ?_
   refine Ln (Et (Cs (Cr ?_)))
   refine V0 (Ym rfl) ?_
   refine WL.callpx (ι:=Unit) (κ:=Unit) (.inl rfl) rfl en33 rfl (fun _=>.tuple #[]) (fun _=>(findI nm σ.own).isSome=true) (fun _=>refd 5) (fun _=>(findI nm σ.own).isSome=false) (fun w hw=>scMust_any _ _ w) ?_ ?_
   ·
    intro _ hp
    refine Ep ?_
    refine Ep ?_
    refine Epp fun w' hw=>?_
    exact .inr ⟨(),rfl,hw.fr,by rw [find_own hk,itemN_none hp]; rfl⟩
   intro _ hm37
   refine Ln (Et (Cs ?_))
   refine WC.draws1 1 [(0,true),(1,true),(2,false)] mixed (by kernel_rfl) (fun _ _ _ d _ h=>by cases d<;>exact h) ?_
   refine Dq rfl (.inl rfl) rfl (fun _ h=>by have h:=Ws.out 1 h; exact h) (Yda 0 rfl rfl ag55 rfl) ?_
   refine Dq rfl (.inl rfl) rfl (fun _ h=>by have h:=Ws.out 1 h; exact h) (Ya rfl) ?_
   refine De rfl (fun _ h=>by have h:=Ws.out 1 h; exact h) ?_
   refine Lst 1 (.inl rfl) rfl rfl rfl sz55 rfl rfl rfl ?_
   refine Ln (Ed ?_)
   refine WD.nil (fun _ h=>by have h:=Ws.out 1 h; exact h) ?_
   refine Et (Crt (Er ?_))
   refine WE.retR (rs_2 rfl (rv_tmp rfl) (rv_agg 1 rfl rfl ag55 rfl)) fun w' hw=>?_
   exact .inl ⟨(0,itemN nm σ.own),rfl,hw.fr,by rw [find_own hk,itemN_some hm37]; rfl⟩
 ·
  have hmod:¬mod=[]:=by simpa using hc0
  refine Ck (Et (Cs (Cr ?_)))
  refine V0 (Ym rfl) ?_
  refine V0 (yl_nil rfl) ?_
  refine V0 (Yf fo82_1 rfl) ?_
  refine V0 (yl_ld 0 na79 rfl rfl (h1)) ?_
  refine V0 (Ym rfl) ?_
  refine V0 (yl_glookv 0 rfl keyStr um79 us9 zr3 rfl rfl (hub)) ?_
  rw [posN_get]
  refine V0 (Ya rfl) ?_
  refine Ln (Et (Cs (Cr ?_)))
  refine V0 (Ym rfl) ?_
  refine V0 (yl_gt rfl rfl) ?_
  refine WL.callpx (ι:=Unit) (κ:=Unit) (.inl rfl) rfl en33 rfl (fun _=>.tuple #[]) (fun _=>decide (0<posN mod σ.uses)=true) (fun _=>refd 5) (fun _=>decide (0<posN mod σ.uses)=false) (fun w hw=>scMust_any _ _ w) ?_ ?_
  ·
   intro _ hp
   refine Ep ?_
   refine Epp fun w' hw=>?_
   exact .inr ⟨(),rfl,hw.fr,find_no hmod (posN_no (by simpa using hp))⟩
  intro _ hm47
  obtain ⟨k,hk,hk2,hk3⟩:=posN_pos (nm:=mod) (l:=σ.uses) (by simpa using hm47)
  obtain ⟨f,hf⟩:∃f,σ.faces[k]? = some f:=⟨_,List.getElem?_eq_getElem (by omega)⟩
  obtain ⟨pb,po,ha,tb,htb,htm⟩:=hfs.elt k f hf
  have hfc:=hfs.cap
  have hfm:=hfs.max
  refine Ln (Et (Cs (Cr ?_)))
  refine V0 (Ym rfl) ?_
  refine V0 (yl_nil rfl) ?_
  refine V0 (Yf fo82_2 rfl) ?_
  refine V0 (yl_ld 0 na80 rfl rfl (h2)) ?_
  refine V0 (Ym rfl) ?_
  refine V0 (yl_subv (k:Int) rfl rfl (by rw [hk2]; omega) (by omega)) ?_
  refine V0 (Yo es80 rfl rfl ha (by omega)) ?_
  refine V0 (yl_ld 0 na77 rfl rfl (htb)) ?_
  refine V0 (Ym rfl) ?_
  refine V0 (yl_glook2v 0 rfl keyStr um77 us9 zr55 rfl rfl (htm)) ?_
  rw [itemN_get,itemN_has]
  refine V0 (Ym rfl) ?_
  refine V0 (Yx rfl rfl) ?_
  refine V0 (Yx rfl rfl) ?_
  refine WL.alloc (.inl rfl) rfl zr55 fun b12=>?_
  refine Lst 0 (.inl rfl) rfl rfl rfl sz55 rfl rfl rfl ?_
  refine V0 (Ya rfl) ?_
  refine Ln (Et (Cs (Cr ?_)))
  refine V0 (Ym rfl) ?_
  refine WL.callpx (ι:=Unit) (κ:=Unit) (.inl rfl) rfl en33 rfl (fun _=>.tuple #[]) (fun _=>(findI nm f).isSome=true) (fun _=>refd 5) (fun _=>(findI nm f).isSome=false) (fun w hw=>scMust_any _ _ w) ?_ ?_
  ·
   intro _ hp
   refine Ep ?_
   refine Epp fun w' hw=>?_
   exact .inr ⟨(),rfl,hw.fr,by rw [find_use hmod hnd hlen hk hf,itemN_none hp]; rfl⟩
  intro _ hm62
  refine Ln (Et (Cs ?_))
  refine WC.draws1 1 [(0,true),(1,true),(2,true),(3,false)] mixed (by kernel_rfl) (fun _ _ _ d _ h=>by cases d<;>exact h) ?_
  refine Dq rfl (.inl rfl) rfl (fun _ h=>by have h:=Ws.out 1 h; exact h) (Ym rfl) ?_
  refine Dq rfl (.inl rfl) rfl (fun _ h=>by have h:=Ws.out 1 h; exact h) (Yda 0 rfl rfl ag55 rfl) ?_
  refine Dq rfl (.inl rfl) rfl (fun _ h=>by have h:=Ws.out 1 h; exact h) (Ya rfl) ?_
  refine De rfl (fun _ h=>by have h:=Ws.out 1 h; exact h) ?_
  refine Lst 1 (.inl rfl) rfl rfl rfl sz55 rfl rfl rfl ?_
  refine Ln (Ed ?_)
  refine WD.nil (fun _ h=>by have h:=Ws.out 1 h; exact h) ?_
  refine Et (Crt ?_)
  refine WE.retR (rs_2 rfl (rv_tmp rfl) (rv_agg 1 rfl rfl ag55 rfl)) fun w' hw=>?_
  rw [hk2] at *
  exact .inl ⟨(((k+1:Nat):Int),itemN nm f),rfl,hw.fr,by rw [find_use hmod hnd hlen hk hf,itemN_some hm62]; rfl⟩
end Go.Proofs.YtinnlppbkhhoiaaGreatDoor
end
