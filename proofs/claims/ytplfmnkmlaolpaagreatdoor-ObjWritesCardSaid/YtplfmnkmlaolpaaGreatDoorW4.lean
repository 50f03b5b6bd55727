/- ObjWrites: Write and Read of objects answer just what the document says, whatever they are handed. -/
import Derived.Lib.AppendZeros
import Derived.Test.YtplfmnkmlaolpaaGreatDoorW3
set_option linter.unusedVariables false
set_option linter.unusedSimpArgs false
section
namespace Go.Proofs.YtplfmnkmlaolpaaGreatDoor
open Go.Bw
def rowP (nm:Tx) (pub:Bool) (a1:Option Addr) (n1 c1:Nat) (a2:Option Addr) (n2 c2:Nat) (a3:Option Addr) (n3 c3:Nat):List Value:=[st nm,.bool pub,.slice a1 n1 c1,.slice a2 n2 c2,.slice a3 n3 c3]
theorem pl213:placesP Tryz.prog 213=some [(0,1),(1,1),(2,1),(3,1),(4,1)]:=by kernel_rfl
theorem sz22:sizeP Tryz.prog 22=some 1:=by kernel_rfl
theorem gproc_any (gb:Nat) (HT:View) (r:Option Addr×Nat) (l:Tk) (pub:Bool) (w:World) (hok:TOk l) (hm:Sl rdTok 3 HT r.1 r.2 l) (hw:Ws w (List.flatMap Asr.ids (glassL gb r l)) (glassL gb r l) [HT] w) :
   Calls Tryz.prog 147 #[.pointer (some ⟨gb,0,none⟩),.bool pub] w fun e w'=>(∃(p:TProc) (s:PAt) (r2:Option Addr×Nat) (q:Tk),e = .returned (.agg #[st (p).nm,.bool (p).pub,.slice (s).s1.1 (p).params.length (s).s1.2,.slice (s).s2.1 (p).locs.length (s).s2.2,.slice (s).s3.1 (p).body.length (s).s3.2])∧procP pub l=some (p,q)∧SlP (nv w w') p s∧Sl rdTok 3 HT r2.1 r2.2 q∧Ws w (List.flatMap Asr.ids (glassL gb r l)) (glassL gb r2 q) [HT] w')∨(∃(r2:Option Addr×Nat) (q:Tk),e = .panicked brk∧procP pub l=none∧Ws w (List.flatMap Asr.ids (glassL gb r l)) (glassL gb r2 q) [HT] w'):=by
 refine enter Tryz.func147 O 46 O O ?_
 refine CE hw ?_
 refine Cs (Cr ?_)
 refine Al Y O zr213 fun b4=>?_
 refine Lrb 0 (.cells (rowP [] false none 0 0 none 0 0 none 0 0).toArray 213 (0,0)) O O ?_
 refine Ln (Et (Cs (Cr (V0 (Ym O) (V0 (Ym O) (Lf 1 O ?_))))))
 refine Lwx (ι:=(Tx)×(Option Addr×Nat)×Tk) (κ:=(Option Addr×Nat)×Tk) [_] _ Y O en144 O O (fun i=>st i.1) (fun i=>glassL gb i.2.1 i.2.2) (fun i=>namP l=some (i.1,i.2.2)∧Sl rdTok 3 HT i.2.1.1 i.2.1.2 i.2.2) (fun _=>brk) (fun i=>glassL gb i.1 i.2) (fun _=>namP l=none) ([HT]) (by simp) (fun w hw=>(gname_any gb HT r l w hm hw).mono fun e w' h=>by
     rcases h with ⟨t,r2,q,h1,h2,h3,h4⟩ | ⟨r2,q,h1,h2,h3⟩
     · exact .inl ⟨(t,r2,q),h1,⟨h2,h3⟩,h4⟩
     · exact .inr ⟨(r2,q),h1,h2,h3⟩) ?_ ?_
 ·
  intro ⟨rp,qp⟩ hp
  refine Ep ?_
  refine Epp fun w' hw=>?_
  exact .inr ⟨rp,qp,O,by simp only [procP,hp,Option.bind_none],(by have h:=hw; have h:=Wt 1 h; exact h)⟩
 intro ⟨s8,r8,q8⟩ ⟨hq8,hm8⟩
 have ok8:=tNam hok hq8
 refine V0 (Yb zr213 pl213 O O) ?_
 refine Al Y O zr213 fun b5=>?_
 refine Lst 0 Y O O O sz213 O O O ?_
 refine LW (fun _ h=>h.osl_nil 9 1) ?_
 refine LW (fun _ h=>h.osl_nil 9 1) ?_
 refine Ln (Et (Cs (Cr (V0 (Ym O) ?_))))
 refine Lb Y O el22 O O O O fun b11=>?_
 refine Lsv (T:=9) (m:=1) 0 [[40]] O O (show 1≤1 by decide) (by decide) fun H11 hH11=>?_
 refine Lf 3 O ?_
 refine Lwx (ι:=(Option Addr×Nat)×Tk) (κ:=(Option Addr×Nat)×Tk) [_] _ Y O en143 O O (fun _=>.tuple #[]) (fun i=>glassL gb i.1 i.2) (fun i=>mustT [[40]] q8=some i.2∧Sl rdTok 3 HT i.1.1 i.1.2 i.2) (fun _=>brk) (fun i=>glassL gb i.1 i.2) (fun _=>mustT [[40]] q8=none) ([HT,H11]) (by simp) (fun w hw=>(must_any gb HT r8 q8 H11 _ _ [[40]] w hH11 hm8 hw).mono fun e w' h=>by
     rcases h with ⟨r2,q,h1,h2,h3,h4⟩ | ⟨r2,q,h1,h2,h3⟩
     · exact .inl ⟨(r2,q),h1,⟨h2,h3⟩,h4⟩
     · exact .inr ⟨(r2,q),h1,h2,h3⟩) ?_ ?_
 ·
  intro ⟨rp,qp⟩ hp
  rw [must1] at hp
  refine Ep ?_
  refine Epp fun w' hw=>?_
  exact .inr ⟨rp,qp,O,by simp only [procP,hq8,hp,Option.bind_some,Option.bind_none],(by have h:=hw; have h:=Wt 1 h; have h:=Ws.drops h (Vs':=[HT]) (by simp); exact h)⟩
 intro ⟨r12,q12⟩ ⟨hq12,hm12⟩
 have ok12:=tMust ok8 hq12
 rw [must1] at hq12
 refine Ln (Et (Cs (Cb ?_)))
 refine CLk (ι:=GN) (fun g=>[]) [(0,_),(4,_),(5,_)] (fun g=>Ws w (List.flatMap Asr.ids (glassL gb r l)) (glassL gb g.r g.q++[blk b5 (.cells (rowP s8 pub g.a g.ps.length g.c none 0 0 none 0 0).toArray 213 (0,0)),osT 9 1 strC g.a g.c g.ps,(osT 9 1 strC none 0 ([]:List Tx)),blk b4 (.cells (rowP [] false none 0 0 none 0 0 none 0 0).toArray 213 (0,0))]) [HT]) (fun g=>(g.ps.length+g.q.length≤l.length∧TOk g.q)∧Sl rdTok 3 HT g.r.1 g.r.2 g.q∧∃n,g.q.length<n∧paramsL (q12.length+1) true q12=(paramsL n (isNil g.ps) g.q).map fun p=>(g.ps++p.1,p.2)) (fun g=>g.q.length) ⟨[],none,0,r12,q12⟩ ⟨⟨by have:q8.length<l.length:=nam_len hok hq8; have:q12.length+1=q8.length:=hasT_len hq12; simp; omega,ok12⟩,hm12,q12.length+1,by simp,by simp [isNil]⟩ (sc O (sc O (sc O sn))) (fun _ h=>by have h:=h.fronti 4 O; have h:=h.fronti 3 O; have h:=h.fronti 3 O; have h:=h.fronti 4 O; have h:=h.fronti 4 O; have h:=Ws.drops h (Vs':=[HT]) (by simp); exact h) ?_
 intro g ⟨⟨hlen,hokg⟩,hmg,hA⟩
 refine Cs (Cs (Cr (V0 (Ym O) (Lf 0 O ?_))))
 refine Lw (ι:=Bool×(Option Addr×Nat)×Tk) [_] _ Y O en145 O O (fun i=>.bool i.1) (fun i=>glassL gb i.2.1 i.2.2) (fun i=>(i.1=true→hasT [41] g.q=some i.2.2)∧(i.1=false→hasT [41] g.q=none∧g.q=i.2.2)∧Sl rdTok 3 HT i.2.1.1 i.2.1.2 i.2.2) [HT] (by simp) (fun w hw=>has_any gb HT g.r g.q [41] w hmg hw) ?_
 intro ⟨b14,r14,q14⟩ ⟨h14t,h14f,hm14⟩
 refine V0 (yl_not O) (Ln (Et ?_))
 refine Cc O (fun hc0=>?_) (fun hc0=>?_)
 ·
  obtain ⟨hn14,hl14⟩:=h14f (by simpa using hc0)
  subst hl14
  obtain ⟨n,hn,hA⟩:=hA
  obtain ⟨n,rfl⟩:∃k,n=k+1:=⟨n-1,by omega⟩
  refine Ck (Et (Cb (Cs (Cs (Cr (V0 (Yf fo213_2 O) (V0 (Yd 1 O O O na22) (V0 (Yn es22 O) (V0 (yl_gt O O) (Ln (Et ?_)))))))))))
  refine Cc O (fun hc1=>?_) (fun hc1=>?_)
  ·
   have hps:0<g.ps.length:=by simpa using hc1
   rw [isNil_f hps] at hA
   refine Cr (V0 (Ym O) ?_)
   refine Lb Y O el22 O O O O fun b21=>?_
   refine Lsv (T:=9) (m:=1) 0 [[44]] O O (show 1≤1 by decide) (by decide) fun H21 hH21=>?_
   refine Lf 0 O ?_
   refine Lwx (ι:=(Option Addr×Nat)×Tk) (κ:=(Option Addr×Nat)×Tk) [_] _ Y O en143 O O (fun _=>.tuple #[]) (fun i=>glassL gb i.1 i.2) (fun i=>mustT [[44]] g.q=some i.2∧Sl rdTok 3 HT i.1.1 i.1.2 i.2) (fun _=>brk) (fun i=>glassL gb i.1 i.2) (fun _=>mustT [[44]] g.q=none) ([HT,H21]) (by simp) (fun w hw=>(must_any gb HT r14 g.q H21 _ _ [[44]] w hH21 hm14 hw).mono fun e w' h=>by
       rcases h with ⟨r2,q,h1,h2,h3,h4⟩ | ⟨r2,q,h1,h2,h3⟩
       · exact .inl ⟨(r2,q),h1,⟨h2,h3⟩,h4⟩
       · exact .inr ⟨(r2,q),h1,h2,h3⟩) ?_ ?_
   ·
    intro ⟨rp,qp⟩ hp
    rw [must1] at hp
    refine Ep (WE.block_panic (Ep (WE.block_panic (Ep ?_))))
    refine Epp fun w' hw=>?_
    rw [paramsL_2n hn14 hp] at hA
    exact .inr ⟨rp,qp,O,by simp only [procP,hq8,hq12,hA,Option.bind_some,Option.bind_none,Option.map_none],(by have h:=hw; have h:=Wt 1 h; have h:=Ws.drops h (Vs':=[HT]) (by simp); exact h)⟩
   intro ⟨r22,q22⟩ ⟨hq22,hm22⟩
   have ok22:=tMust hokg hq22
   rw [must1] at hq22
   refine Ln (Et ?_)
   refine CU (fun _=>true) [0,1] [6,7] (.q false 0 (.q true 1 (.q false 2 (.e 3 (.e 4 (.e 5 .nil .stop) .stop) .stop)))) mixed (by kernel_rfl) (fun _ _ _ d _ _ h=>by cases d<;>exact h) ?_
   refine U0 O (Wos [0,1]) (Yf fo213_2 O) (U0 O (Wos [0,1]) (Yd 0 O O O na22) (U0 O (Wos [0,1]) (Ym O) ?_))
   refine Ue O (Wos [0,1]) ?_ WU.stop
   refine Lf 0 O ?_
   refine Lwx (ι:=(Tx)×(Option Addr×Nat)×Tk) (κ:=(Option Addr×Nat)×Tk) [_] _ Y O en144 O O (fun i=>st i.1) (fun i=>glassL gb i.2.1 i.2.2) (fun i=>namP q22=some (i.1,i.2.2)∧Sl rdTok 3 HT i.2.1.1 i.2.1.2 i.2.2) (fun _=>brk) (fun i=>glassL gb i.1 i.2) (fun _=>namP q22=none) ([HT]) (by simp) (fun w hw=>(gname_any gb HT r22 q22 w hm22 hw).mono fun e w' h=>by
       rcases h with ⟨t,r2,q,h1,h2,h3,h4⟩ | ⟨r2,q,h1,h2,h3⟩
       · exact .inl ⟨(t,r2,q),h1,⟨h2,h3⟩,h4⟩
       · exact .inr ⟨(r2,q),h1,h2,h3⟩) ?_ ?_
   ·
    intro ⟨rp,qp⟩ hp
    refine Ep (WE.block_panic (Ep (WE.block_panic (Ep ?_))))
    refine Epp fun w' hw=>?_
    rw [paramsL_2m hn14 hq22 hp] at hA
    exact .inr ⟨rp,qp,O,by simp only [procP,hq8,hq12,hA,Option.bind_some,Option.bind_none,Option.map_none],(by have h:=hw; have h:=Wt 1 h; have h:=Ws.drops h (Vs':=[HT]) (by simp); exact h)⟩
   intro ⟨s26,r26,q26⟩ ⟨hq26,hm26⟩
   have ok26:=tNam ok22 hq26
   refine Ln (Eu ?_)
   refine Ue O (Wos [0,1]) ?_ WU.stop
   refine Lb Y O el22 O O O O fun b27=>?_
   refine Lrb 0 (.cells (strC s26).toArray 9 (0,0)) O O ?_
   refine Ln (Eu ?_)
   refine Ue O (fun _ h=>(Wo 1 (Wo 0 (Wd 1 h)):)) ?_ WU.stop
   refine LA (s26:Tx) 3 0 Y O el22 O O O O O O (by have:=hok.len; omega) (by have:=hok.len; omega) fun a28 c28=>?_
   refine Ln (Eu ?_)
   refine WU.nil (fun _ h=>(Wo 1 (Wo 0 (Wd 1 h)):)) ?_
   refine WS.e O ?_
   refine V0 (Yf fo213_2 O) (Ln (Es ?_))
   refine WS.e O ?_
   refine Lst 2 Y O O O sz22 O O O (Ln (Es ?_))
   refine WS.nil ?_
   refine Eb ?_
   exact Ea (⟨g.ps++[s26],a28,c28,r26,q26⟩:GN) (by have:q26.length<q22.length:=nam_len ok22 hq26; have:q22.length+1=g.q.length:=hasT_len hq22; show q26.length<g.q.length; omega) ⟨⟨by have:q26.length<q22.length:=nam_len ok22 hq26; have:q22.length+1=g.q.length:=hasT_len hq22; simp; omega,ok26⟩,hm26,n,(show q26.length<n by have:q26.length<q22.length:=nam_len ok22 hq26; have:q22.length+1=g.q.length:=hasT_len hq22; omega),by rw [hA,paramsL_2 hn14 hq22 hq26,isNil_snoc]; simp [Function.comp_def]⟩ (sc O (sc O (sc O sn))) (fun _ h=>by
       have h:=h.fronti 5 rfl
       have h:=h.fronti 5 rfl
       have h:=h.fronti 5 rfl
       have h:=h.fronti 5 rfl
       have h:=h.fronti 5 rfl
       have h:=Wt 5 h
       have h:=Ws.drops h (Vs':=[HT]) (by simp)
       exact h)
  have hps:¬0<g.ps.length:=by simpa using hc1
  rw [isNil_t hps] at hA
  refine Ck (Et ?_)
  refine CU (fun _=>true) [0,1] [6,7] (.q false 0 (.q true 1 (.q false 2 (.e 3 (.e 4 (.e 5 .nil .stop) .stop) .stop)))) mixed (by kernel_rfl) (fun _ _ _ d _ _ h=>by cases d<;>exact h) ?_
  refine U0 O (Wos [0,1]) (Yf fo213_2 O) (U0 O (Wos [0,1]) (Yd 0 O O O na22) (U0 O (Wos [0,1]) (Ym O) ?_))
  refine Ue O (Wos [0,1]) ?_ WU.stop
  refine Lf 0 O ?_
  refine Lwx (ι:=(Tx)×(Option Addr×Nat)×Tk) (κ:=(Option Addr×Nat)×Tk) [_] _ Y O en144 O O (fun i=>st i.1) (fun i=>glassL gb i.2.1 i.2.2) (fun i=>namP g.q=some (i.1,i.2.2)∧Sl rdTok 3 HT i.2.1.1 i.2.1.2 i.2.2) (fun _=>brk) (fun i=>glassL gb i.1 i.2) (fun _=>namP g.q=none) ([HT]) (by simp) (fun w hw=>(gname_any gb HT r14 g.q w hm14 hw).mono fun e w' h=>by
      rcases h with ⟨t,r2,q,h1,h2,h3,h4⟩ | ⟨r2,q,h1,h2,h3⟩
      · exact .inl ⟨(t,r2,q),h1,⟨h2,h3⟩,h4⟩
      · exact .inr ⟨(r2,q),h1,h2,h3⟩) ?_ ?_
  ·
   intro ⟨rp,qp⟩ hp
   refine Ep (WE.block_panic (Ep (WE.block_panic (Ep ?_))))
   refine Epp fun w' hw=>?_
   rw [paramsL_1n hn14 hp] at hA
   exact .inr ⟨rp,qp,O,by simp only [procP,hq8,hq12,hA,Option.bind_some,Option.bind_none,Option.map_none],(by have h:=hw; have h:=Wt 1 h; exact h)⟩
  intro ⟨s26,r26,q26⟩ ⟨hq26,hm26⟩
  have ok26:=tNam hokg hq26
  refine Ln (Eu ?_)
  refine Ue O (Wos [0,1]) ?_ WU.stop
  refine Lb Y O el22 O O O O fun b27=>?_
  refine Lrb 0 (.cells (strC s26).toArray 9 (0,0)) O O ?_
  refine Ln (Eu ?_)
  refine Ue O (fun _ h=>(Wo 1 (Wo 0 (Wd 1 h)):)) ?_ WU.stop
  refine LA (s26:Tx) 3 0 Y O el22 O O O O O O (by have:=hok.len; omega) (by have:=hok.len; omega) fun a28 c28=>?_
  refine Ln (Eu ?_)
  refine WU.nil (fun _ h=>(Wo 1 (Wo 0 (Wd 1 h)):)) ?_
  refine WS.e O ?_
  refine V0 (Yf fo213_2 O) (Ln (Es ?_))
  refine WS.e O ?_
  refine Lst 2 Y O O O sz22 O O O (Ln (Es ?_))
  refine WS.nil ?_
  refine Eb ?_
  exact Ea (⟨g.ps++[s26],a28,c28,r26,q26⟩:GN) (by have:q26.length<g.q.length:=nam_len hokg hq26; show q26.length<g.q.length; omega) ⟨⟨by have:q26.length<g.q.length:=nam_len hokg hq26; simp; omega,ok26⟩,hm26,n,(show q26.length<n by have:q26.length<g.q.length:=nam_len hokg hq26; omega),by rw [hA,paramsL_1 hn14 hq26,isNil_snoc]; simp [Function.comp_def]⟩ (sc O (sc O (sc O sn))) (fun _ h=>by
      have h:=h.fronti 5 rfl
      have h:=h.fronti 5 rfl
      have h:=h.fronti 5 rfl
      have h:=h.fronti 5 rfl
      have h:=h.fronti 5 rfl
      have h:=Wt 5 h
      have h:=Ws.drops h (Vs':=[HT]) (by simp)
      exact h)
 have hq14:=h14t (by simpa using hc0)
 have ok14:=tHas hokg hq14
 obtain ⟨n,hn,hA⟩:=hA
 obtain ⟨n,rfl⟩:∃k,n=k+1:=⟨n-1,by omega⟩
 rw [paramsL_end hq14] at hA
 simp at hA
 refine Ce (Ex (Ex (Ebh (Et (Cs (Cb ?_))))))
 refine CLk (ι:=GN) (fun v=>[]) [(0,_),(4,_),(5,_)] (fun v=>Ws w (List.flatMap Asr.ids (glassL gb r l)) (glassL gb v.r v.q++[blk b5 (.cells (rowP s8 pub g.a g.ps.length g.c v.a v.ps.length v.c none 0 0).toArray 213 (0,0)),osT 9 1 strC g.a g.c g.ps,osT 9 1 strC v.a v.c v.ps,blk b4 (.cells (rowP [] false none 0 0 none 0 0 none 0 0).toArray 213 (0,0))]) [HT]) (fun v=>(v.ps.length+v.q.length≤l.length∧TOk v.q)∧Sl rdTok 3 HT v.r.1 v.r.2 v.q∧∃n,v.q.length<n∧locsL (q14.length+1) q14=(locsL n v.q).map fun p=>(v.ps++p.1,p.2)) (fun v=>v.q.length) ⟨[],none,0,r14,q14⟩ ⟨⟨by have:q14.length+1=g.q.length:=hasT_len hq14; simp; omega,ok14⟩,hm14,q14.length+1,by simp,by simp⟩ (sc O (sc O (sc O sn))) (fun _ h=>h) ?_
 intro v ⟨⟨hlen2,hokv⟩,hmv,hB⟩
 refine Cs (Cs (Cr (V0 (Ym O) (Lf 0 O ?_))))
 refine Lw (ι:=Bool×(Option Addr×Nat)×Tk) [_] _ Y O en145 O O (fun i=>.bool i.1) (fun i=>glassL gb i.2.1 i.2.2) (fun i=>(i.1=true→hasT [108,111,99,97,108] v.q=some i.2.2)∧(i.1=false→hasT [108,111,99,97,108] v.q=none∧v.q=i.2.2)∧Sl rdTok 3 HT i.2.1.1 i.2.1.2 i.2.2) [HT] (by simp) (fun w hw=>has_any gb HT v.r v.q [108,111,99,97,108] w hmv hw) ?_
 intro ⟨b31,r31,q31⟩ ⟨h31t,h31f,hm31⟩
 refine Ln (Et ?_)
 refine Cc O (fun hc2=>?_) (fun hc2=>?_)
 ·
  have hq31:=h31t hc2
  have ok31:=tHas hokv hq31
  obtain ⟨n,hn,hB⟩:=hB
  obtain ⟨n,rfl⟩:∃k,n=k+1:=⟨n-1,by omega⟩
  refine Ck (Et (Cb (Cs ?_)))
  refine CU (fun _=>true) [0,2] [6,7] (.q false 0 (.q true 1 (.q false 2 (.e 3 (.e 4 (.e 5 .nil .stop) .stop) .stop)))) mixed (by kernel_rfl) (fun _ _ _ d _ _ h=>by cases d<;>exact h) ?_
  refine U0 O (Wos [0,2]) (Yf fo213_3 O) (U0 O (Wos [0,2]) (Yd 0 O O O na22) (U0 O (Wos [0,2]) (Ym O) ?_))
  refine Ue O (Wos [0,2]) ?_ WU.stop
  refine Lf 0 O ?_
  refine Lwx (ι:=(Tx)×(Option Addr×Nat)×Tk) (κ:=(Option Addr×Nat)×Tk) [_] _ Y O en144 O O (fun i=>st i.1) (fun i=>glassL gb i.2.1 i.2.2) (fun i=>namP q31=some (i.1,i.2.2)∧Sl rdTok 3 HT i.2.1.1 i.2.1.2 i.2.2) (fun _=>brk) (fun i=>glassL gb i.1 i.2) (fun _=>namP q31=none) ([HT]) (by simp) (fun w hw=>(gname_any gb HT r31 q31 w hm31 hw).mono fun e w' h=>by
      rcases h with ⟨t,r2,q,h1,h2,h3,h4⟩ | ⟨r2,q,h1,h2,h3⟩
      · exact .inl ⟨(t,r2,q),h1,⟨h2,h3⟩,h4⟩
      · exact .inr ⟨(r2,q),h1,h2,h3⟩) ?_ ?_
  ·
   intro ⟨rp,qp⟩ hp
   refine Ep (Ep (WE.block_panic (Ep (WE.block_panic (Ep ?_)))))
   refine Epp fun w' hw=>?_
   rw [locsL_b1 hq31 hp] at hB
   exact .inr ⟨rp,qp,O,by simp only [procP,hq8,hq12,hA,hB,Option.bind_some,Option.bind_none,Option.map_none],(by have h:=hw; have h:=Wt 1 h; exact h)⟩
  intro ⟨s35,r35,q35⟩ ⟨hq35,hm35⟩
  have ok35:=tNam ok31 hq35
  refine Ln (Eu ?_)
  refine Ue O (Wos [0,2]) ?_ WU.stop
  refine Lb Y O el22 O O O O fun b36=>?_
  refine Lrb 0 (.cells (strC s35).toArray 9 (0,0)) O O ?_
  refine Ln (Eu ?_)
  refine Ue O (fun _ h=>(Wo 2 (Wo 0 (Wd 1 h)):)) ?_ WU.stop
  refine LA (s35:Tx) 4 0 Y O el22 O O O O O O (by have:=hok.len; omega) (by have:=hok.len; omega) fun a37 c37=>?_
  refine Ln (Eu ?_)
  refine WU.nil (fun _ h=>(Wo 2 (Wo 0 (Wd 1 h)):)) ?_
  refine WS.e O ?_
  refine V0 (Yf fo213_3 O) (Ln (Es ?_))
  refine WS.e O ?_
  refine Lst 2 Y O O O sz22 O O O (Ln (Es ?_))
  refine WS.nil ?_
  refine Et (Cr (V0 (Ym O) ?_))
  refine Lb Y O el22 O O O O fun b40=>?_
  refine Lsv (T:=9) (m:=1) 0 [[59]] O O (show 1≤1 by decide) (by decide) fun H40 hH40=>?_
  refine Lf 1 O ?_
  refine Lwx (ι:=(Option Addr×Nat)×Tk) (κ:=(Option Addr×Nat)×Tk) [_] _ Y O en143 O O (fun _=>.tuple #[]) (fun i=>glassL gb i.1 i.2) (fun i=>mustT [[59]] q35=some i.2∧Sl rdTok 3 HT i.1.1 i.1.2 i.2) (fun _=>brk) (fun i=>glassL gb i.1 i.2) (fun _=>mustT [[59]] q35=none) ([HT,H40]) (by simp) (fun w hw=>(must_any gb HT r35 q35 H40 _ _ [[59]] w hH40 hm35 hw).mono fun e w' h=>by
      rcases h with ⟨r2,q,h1,h2,h3,h4⟩ | ⟨r2,q,h1,h2,h3⟩
      · exact .inl ⟨(r2,q),h1,⟨h2,h3⟩,h4⟩
      · exact .inr ⟨(r2,q),h1,h2,h3⟩) ?_ ?_
  ·
   intro ⟨rp,qp⟩ hp
   rw [must1] at hp
   refine WE.block_panic (Ep (WE.block_panic (Ep ?_)))
   refine Epp fun w' hw=>?_
   rw [locsL_b2 hq31 hq35 hp] at hB
   exact .inr ⟨rp,qp,O,by simp only [procP,hq8,hq12,hA,hB,Option.bind_some,Option.bind_none,Option.map_none],(by have h:=hw; have h:=Wt 1 h; have h:=Ws.drops h (Vs':=[HT]) (by simp); exact h)⟩
  intro ⟨r41,q41⟩ ⟨hq41,hm41⟩
  have ok41:=tMust ok35 hq41
  rw [must1] at hq41
  refine Ln (Eb ?_)
  exact Ea (⟨v.ps++[s35],a37,c37,r41,q41⟩:GN) (by have:q31.length+1=v.q.length:=hasT_len hq31; have:q35.length<q31.length:=nam_len ok31 hq35; have:q41.length+1=q35.length:=hasT_len hq41; show q41.length<v.q.length; omega) ⟨⟨by have:q31.length+1=v.q.length:=hasT_len hq31; have:q35.length<q31.length:=nam_len ok31 hq35; have:q41.length+1=q35.length:=hasT_len hq41; simp; omega,ok41⟩,hm41,n,(show q41.length<n by have:q31.length+1=v.q.length:=hasT_len hq31; have:q35.length<q31.length:=nam_len ok31 hq35; have:q41.length+1=q35.length:=hasT_len hq41; omega),by rw [hB,locsL_more hq31 hq35 hq41]; simp [Function.comp_def]⟩ (sc O (sc O (sc O sn))) (fun _ h=>by
      have h:=h.fronti 5 rfl
      have h:=h.fronti 5 rfl
      have h:=h.fronti 5 rfl
      have h:=h.fronti 5 rfl
      have h:=h.fronti 4 rfl
      have h:=Wt 5 h
      have h:=Ws.drops h (Vs':=[HT]) (by simp)
      exact h)
 obtain ⟨hn31,hl31⟩:=h31f hc2
 subst hl31
 obtain ⟨n,hn,hB⟩:=hB
 obtain ⟨n,rfl⟩:∃k,n=k+1:=⟨n-1,by omega⟩
 rw [locsL_end hn31] at hB
 simp at hB
 refine Ce (Ex (Ex (Ebh (Et (Cs (Cr (V0 (Ym O) (Lf 0 O ?_))))))))
 refine Lwy (ι:=((List TStmt)×(Option Addr×Nat))×(Option Addr×Nat)×Tk) (κ:=(Option Addr×Nat)×Tk) [_] _ Y O en148 O O (fun i=>.slice i.1.2.1 i.1.1.length i.1.2.2) (fun i=>glassL gb i.2.1 i.2.2) (fun F i=>blockP 6 v.q=some (i.1.1,i.2.2)∧Sl (RdS 7 6) 6 F i.1.2.1 i.1.2.2 i.1.1∧Sl rdTok 3 HT i.2.1.1 i.2.1.2 i.2.2) (fun _=>brk) (fun i=>glassL gb i.1 i.2) (fun _=>blockP 6 v.q=none) ([HT]) (by simp) (fun _ _ h=>h) (fun w hw=>(gblock_any HT 6 gb r31 v.q (1) w (by omega) hokv hm31 hw).mono fun e w' h=>by
     rcases h with ⟨x,s,r2,q,h1,h2,h3,h4,h5⟩ | ⟨r2,q,h1,h2,h3⟩
     · exact .inl ⟨((x,s),r2,q),h1,⟨h2,h3,h4⟩,h5⟩
     · exact .inr ⟨(r2,q),h1,h2,h3⟩) ?_ ?_
 ·
  intro ⟨rp,qp⟩ hp
  refine Ep ?_
  refine Epp fun w' hw=>?_
  exact .inr ⟨rp,qp,O,by simp only [procP,hq8,hq12,hA,hB,hp,Option.bind_some,Option.bind_none,Option.map_none],(by have h:=hw; have h:=Wt 1 h; exact h)⟩
 intro F43 ⟨⟨b_43,s43⟩,r43,q43⟩ hf43 ⟨hq43,hx43,hm43⟩
 have ok43:TOk q43:=tBlock hokv hq43
 refine V0 (Yf fo213_4 O) (Lst 1 Y O O O sz172 O O O (Ln (Et (Cs ?_))))
 refine WC.oslN (rd:=rdStr) 2 O (fun k hk=>by simp [glassL,blk] at hk; subst hk; simp [outOf,glassL,blk,osl]) strC_len (fun _ _ _ _ h=>h) fun KP fKP hKP=>?_
 refine WC.oslN (rd:=rdStr) 2 O (fun k hk=>by simp [glassL,blk] at hk; subst hk; simp [outOf,glassL,blk,osl]) strC_len (fun _ _ _ _ h=>h) fun KL fKL hKL=>?_
 refine Cr (V0 (Yda 1 O O ag213 O) (Lst 2 Y O O O sz213 O O O (Ln (Et (Crt ?_)))))
 refine WE.retR (rs_1 O (rv_agg 2 O O ag213 O)) fun w' hw=>?_
 exact .inl ⟨⟨s8,pub,g.ps,v.ps,b_43⟩,⟨(g.a,g.c),(v.a,v.c),s43⟩,r43,q43,O,by simp only [procP,hq8,hq12,hA,hB,hq43,Option.bind_some,Option.map_some],⟨slStr_mv hKP (nv_vs hw (by simp) fKP),slStr_mv hKL (nv_vs hw (by simp) fKL),slS_mv hx43 (nv_vs hw (by simp) hf43)⟩,hm43,Wv 3 (Wt 1 hw)⟩
structure GU where
 us:List Tx
 a:Option Addr
 c:Nat
 r:Option Addr×Nat
 q:Tk
def rowM (nm:Tx) (a1:Option Addr) (n1 c1:Nat) (a2:Option Addr) (n2 c2:Nat) (a3:Option Addr) (n3 c3:Nat) (a4:Option Addr) (n4 c4:Nat):List Value:=[st nm,.slice a1 n1 c1,.slice a2 n2 c2,.slice a3 n3 c3,.slice a4 n4 c4]
theorem mod_use {l q1 q2 q3:Tk} {nm:Tx} (h1:hasT [109,111,100,117,108,101] l=some q1) (h2:namP q1=some (nm,q2)) (h3:hasT [123] q2=some q3):modP l=(usesL (q3.length+1) q3).bind fun u=>
   (declsL ((pubP u.2).2.length+1) (pubP u.2).1 (pubP u.2).2).bind fun d=>(procsL (d.2.length+1) d.1.2 d.2).bind fun p=>if p.1.2=true then none else
   (hasT w_main p.2).bind fun r=>(blockP 6 r).bind fun b=>(hasT [125] b.2).map fun r=>(⟨nm,u.1,d.1.1,p.1.1,b.1⟩,r):=by
 rw [modP,show w_module=[109,111,100,117,108,101] from rfl,h1]; simp only [Option.bind_some]; rw [h2]; simp only [Option.bind_some]; rw [h3]; rfl
theorem zr174:zeroOf Tryz.prog 174=some (.agg #[st [],.slice none 0 0,.slice none 0 0,.slice none 0 0,.slice none 0 0]):=by kernel_rfl
theorem pl174:placesP Tryz.prog 174=some [(0,1),(1,1),(2,1),(3,1),(4,1)]:=by kernel_rfl
theorem sz174:sizeP Tryz.prog 174=some 5:=by kernel_rfl
theorem en146:Enters Tryz.prog 146:=enters_of Tryz.func146 (by kernel_rfl) rfl
theorem en147:Enters Tryz.prog 147:=enters_of Tryz.func147 (by kernel_rfl) rfl
theorem el171:EltOk Tryz.prog 171 213 (.agg #[st [],.bool false,.slice none 0 0,.slice none 0 0,.slice none 0 0]) 5 96:=eltOk_of (by kernel_rfl)
theorem sz171:sizeP Tryz.prog 171=some 1:=by kernel_rfl
theorem ag174:aggOf Tryz.prog 174=some 5:=by kernel_rfl
theorem el170:EltOk Tryz.prog 170 217 (.agg #[.int .i64 0,st [],.bool false,.int .i64 0]) 4 40:=eltOk_of (by kernel_rfl)
theorem sz170:sizeP Tryz.prog 170=some 1:=by kernel_rfl
theorem gmodule_any (gb:Nat) (HT:View) (r:Option Addr×Nat) (l:Tk) (w:World) (hok:TOk l) (hm:Sl rdTok 3 HT r.1 r.2 l) (hw:Ws w (List.flatMap Asr.ids (glassL gb r l)) (glassL gb r l) [HT] w) :
   Calls Tryz.prog 121 #[.pointer (some ⟨gb,0,none⟩)] w fun e w'=>(∃(m:TMod) (s:MAt) (r2:Option Addr×Nat) (q:Tk),e = .returned (.agg (modV m s).toArray)∧modP l=some (m,q)∧RdM 7 6 (nv w w') s m∧Sl rdTok 3 HT r2.1 r2.2 q∧Ws w (List.flatMap Asr.ids (glassL gb r l)) (glassL gb r2 q) [HT] w')∨(∃(r2:Option Addr×Nat) (q:Tk),e = .panicked brk∧modP l=none∧Ws w (List.flatMap Asr.ids (glassL gb r l)) (glassL gb r2 q) [HT] w'):=by
 refine enter Tryz.func121 O 71 O O ?_
 refine CE hw ?_
 refine Cs (Cr ?_)
 refine Al Y O zr174 fun b2=>?_
 refine Lrb 0 (.cells (rowM [] none 0 0 none 0 0 none 0 0 none 0 0).toArray 174 (0,0)) O O ?_
 refine Ln (Et (Cs (Cr (V0 (Ym O) ?_))))
 refine Lb Y O el22 O O O O fun b8=>?_
 refine Lsv (T:=9) (m:=1) 0 [[109,111,100,117,108,101]] O O (show 1≤1 by decide) (by decide) fun H8 hH8=>?_
 refine Lf 1 O ?_
 refine Lwx (ι:=(Option Addr×Nat)×Tk) (κ:=(Option Addr×Nat)×Tk) [_] _ Y O en143 O O (fun _=>.tuple #[]) (fun i=>glassL gb i.1 i.2) (fun i=>mustT [[109,111,100,117,108,101]] l=some i.2∧Sl rdTok 3 HT i.1.1 i.1.2 i.2) (fun _=>brk) (fun i=>glassL gb i.1 i.2) (fun _=>mustT [[109,111,100,117,108,101]] l=none) ([HT,H8]) (by simp) (fun w hw=>(must_any gb HT r l H8 _ _ [[109,111,100,117,108,101]] w hH8 hm hw).mono fun e w' h=>by
     rcases h with ⟨r2,q,h1,h2,h3,h4⟩ | ⟨r2,q,h1,h2,h3⟩
     · exact .inl ⟨(r2,q),h1,⟨h2,h3⟩,h4⟩
     · exact .inr ⟨(r2,q),h1,h2,h3⟩) ?_ ?_
 ·
  intro ⟨rp,qp⟩ hp
  rw [must1] at hp
  refine Ep ?_
  refine Epp fun w' hw=>?_
  exact .inr ⟨rp,qp,O,by simp only [modP,w_module,hp,Option.bind_none],(by have h:=hw; have h:=Wt 1 h; have h:=Ws.drops h (Vs':=[HT]) (by simp); exact h)⟩
 intro ⟨r9,q9⟩ ⟨hq9,hm9⟩
 have ok9:=tMust hok hq9
 rw [must1] at hq9
 refine Ln (Et (Cs (Cr (V0 (Ym O) (Lf 0 O ?_)))))
 refine Lwx (ι:=(Tx)×(Option Addr×Nat)×Tk) (κ:=(Option Addr×Nat)×Tk) [_] _ Y O en144 O O (fun i=>st i.1) (fun i=>glassL gb i.2.1 i.2.2) (fun i=>namP q9=some (i.1,i.2.2)∧Sl rdTok 3 HT i.2.1.1 i.2.1.2 i.2.2) (fun _=>brk) (fun i=>glassL gb i.1 i.2) (fun _=>namP q9=none) ([HT]) (by simp) (fun w hw=>(gname_any gb HT r9 q9 w hm9 hw).mono fun e w' h=>by
     rcases h with ⟨t,r2,q,h1,h2,h3,h4⟩ | ⟨r2,q,h1,h2,h3⟩
     · exact .inl ⟨(t,r2,q),h1,⟨h2,h3⟩,h4⟩
     · exact .inr ⟨(r2,q),h1,h2,h3⟩) ?_ ?_
 ·
  intro ⟨rp,qp⟩ hp
  refine Ep ?_
  refine Epp fun w' hw=>?_
  exact .inr ⟨rp,qp,O,by simp only [modP,w_module,hq9,hp,Option.bind_some,Option.bind_none],(by have h:=hw; have h:=Wt 1 h; have h:=Ws.drops h (Vs':=[HT]) (by simp); exact h)⟩
 intro ⟨s11,r11,q11⟩ ⟨hq11,hm11⟩
 have ok11:=tNam ok9 hq11
 refine V0 (Yb zr174 pl174 O O) ?_
 refine Al Y O zr174 fun b3=>?_
 refine Lst 0 Y O O O sz174 O O O ?_
 refine LW (fun _ h=>h.osl_nil 9 1) ?_
 refine LW (fun _ h=>h.osl_nil 217 4) ?_
 refine LW (fun _ h=>h.osl_nil 213 5) ?_
 refine WL.v0 ?_
 refine Ln (Et (Cs (Cr (V0 (Ym O) ?_))))
 refine Lb Y O el22 O O O O fun b14=>?_
 refine Lsv (T:=9) (m:=1) 0 [[123]] O O (show 1≤1 by decide) (by decide) fun H14 hH14=>?_
 refine Lf 4 O ?_
 refine Lwx (ι:=(Option Addr×Nat)×Tk) (κ:=(Option Addr×Nat)×Tk) [_] _ Y O en143 O O (fun _=>.tuple #[]) (fun i=>glassL gb i.1 i.2) (fun i=>mustT [[123]] q11=some i.2∧Sl rdTok 3 HT i.1.1 i.1.2 i.2) (fun _=>brk) (fun i=>glassL gb i.1 i.2) (fun _=>mustT [[123]] q11=none) ([HT,H14]) (by simp) (fun w hw=>(must_any gb HT r11 q11 H14 _ _ [[123]] w hH14 hm11 hw).mono fun e w' h=>by
     rcases h with ⟨r2,q,h1,h2,h3,h4⟩ | ⟨r2,q,h1,h2,h3⟩
     · exact .inl ⟨(r2,q),h1,⟨h2,h3⟩,h4⟩
     · exact .inr ⟨(r2,q),h1,h2,h3⟩) ?_ ?_
 ·
  intro ⟨rp,qp⟩ hp
  rw [must1] at hp
  refine Ep ?_
  refine Epp fun w' hw=>?_
  exact .inr ⟨rp,qp,O,by simp only [modP,w_module,hq9,hq11,hp,Option.bind_some,Option.bind_none],(by have h:=hw; have h:=Wt 1 h; have h:=Ws.drops h (Vs':=[HT]) (by simp); exact h)⟩
 intro ⟨r15,q15⟩ ⟨hq15,hm15⟩
 have ok15:=tMust ok11 hq15
 rw [must1] at hq15
 refine Ln (Et (Cs (Cb ?_)))
 refine CLk (ι:=GU) (fun g=>[]) [(0,_),(2,_),(3,_)] (fun g=>Ws w (List.flatMap Asr.ids (glassL gb r l)) (glassL gb g.r g.q++[blk b3 (.cells (rowM s11 g.a g.us.length g.c none 0 0 none 0 0 none 0 0).toArray 174 (0,0)),osT 9 1 strC g.a g.c g.us,osT 217 4 TDecl.cells none 0 ([]:List TDecl),osT 213 5 PX.cells none 0 ([]:List PX),blk b2 (.cells (rowM [] none 0 0 none 0 0 none 0 0 none 0 0).toArray 174 (0,0))]) [v0,HT]) (fun g=>(g.us.length+g.q.length≤l.length∧TOk g.q)∧Sl rdTok 3 HT g.r.1 g.r.2 g.q∧∃n,g.q.length<n∧usesL (q15.length+1) q15=(usesL n g.q).map fun p=>(g.us++p.1,p.2)) (fun g=>g.q.length) ⟨[],none,0,r15,q15⟩ ⟨⟨by have:q9.length+1=l.length:=hasT_len hq9; have:q11.length<q9.length:=nam_len ok9 hq11; have:q15.length+1=q11.length:=hasT_len hq15; simp; omega,ok15⟩,hm15,q15.length+1,by simp,by simp⟩ (sc O (sc O (sc O sn))) (fun _ h=>by have h:=h.fronti 5 O; have h:=h.fronti 2 O; have h:=h.fronti 3 O; have h:=h.fronti 4 O; have h:=h.fronti 5 O; have h:=h.fronti 5 O; have h:=Ws.drops h (Vs':=[v0,HT]) (by simp); exact h) ?_
 intro g ⟨⟨hlen,hokg⟩,hmg,hA⟩
 refine Cs (Cs (Cr (V0 (Ym O) (Lf 0 O ?_))))
 refine Lw (ι:=Bool×(Option Addr×Nat)×Tk) [_] _ Y O en145 O O (fun i=>.bool i.1) (fun i=>glassL gb i.2.1 i.2.2) (fun i=>(i.1=true→hasT [117,115,101] g.q=some i.2.2)∧(i.1=false→hasT [117,115,101] g.q=none∧g.q=i.2.2)∧Sl rdTok 3 HT i.2.1.1 i.2.1.2 i.2.2) [HT] (by simp) (fun w hw=>has_any gb HT g.r g.q [117,115,101] w hmg hw) ?_
 intro ⟨b17,r17,q17⟩ ⟨h17t,h17f,hm17⟩
 refine Ln (Et ?_)
 refine Cc O (fun hc0=>?_) (fun hc0=>?_)
 ·
  have hq17:=h17t hc0
  have ok17:=tHas hokg hq17
  obtain ⟨n,hn,hA⟩:=hA
  obtain ⟨n,rfl⟩:∃k,n=k+1:=⟨n-1,by omega⟩
  refine Ck (Et (Cb (Cs ?_)))
  refine CU (fun _=>true) [0,1] [6,7] (.q false 0 (.q true 1 (.q false 2 (.e 3 (.e 4 (.e 5 .nil .stop) .stop) .stop)))) mixed (by kernel_rfl) (fun _ _ _ d _ _ h=>by cases d<;>exact h) ?_
  refine U0 O (Wos [0,1]) (Yf fo174_1 O) (U0 O (Wos [0,1]) (Yd 0 O O O na22) (U0 O (Wos [0,1]) (Ym O) ?_))
  refine Ue O (Wos [0,1]) ?_ WU.stop
  refine Lf 0 O ?_
  refine Lwx (ι:=(Tx)×(Option Addr×Nat)×Tk) (κ:=(Option Addr×Nat)×Tk) [_] _ Y O en144 O O (fun i=>st i.1) (fun i=>glassL gb i.2.1 i.2.2) (fun i=>namP q17=some (i.1,i.2.2)∧Sl rdTok 3 HT i.2.1.1 i.2.1.2 i.2.2) (fun _=>brk) (fun i=>glassL gb i.1 i.2) (fun _=>namP q17=none) ([HT]) (by simp) (fun w hw=>(gname_any gb HT r17 q17 w hm17 hw).mono fun e w' h=>by
      rcases h with ⟨t,r2,q,h1,h2,h3,h4⟩ | ⟨r2,q,h1,h2,h3⟩
      · exact .inl ⟨(t,r2,q),h1,⟨h2,h3⟩,h4⟩
      · exact .inr ⟨(r2,q),h1,h2,h3⟩) ?_ ?_
  ·
   intro ⟨rp,qp⟩ hp
   refine Ep (Ep (WE.block_panic (Ep (WE.block_panic (Ep ?_)))))
   refine Epp fun w' hw=>?_
   rw [usesL_b1 hq17 hp] at hA
   exact .inr ⟨rp,qp,O,by rw [mod_use hq9 hq11 hq15]; simp only [w_main,hA,Option.bind_some,Option.map_some,Option.bind_none,Option.map_none],(by have h:=hw; have h:=Wt 1 h; have h:=Ws.drops h (Vs':=[HT]) (by simp); exact h)⟩
  intro ⟨s21,r21,q21⟩ ⟨hq21,hm21⟩
  have ok21:=tNam ok17 hq21
  refine Ln (Eu ?_)
  refine Ue O (Wos [0,1]) ?_ WU.stop
  refine Lb Y O el22 O O O O fun b22=>?_
  refine Lrb 0 (.cells (strC s21).toArray 9 (0,0)) O O ?_
  refine Ln (Eu ?_)
  refine Ue O (fun _ h=>(Wo 1 (Wo 0 (Wd 1 h)):)) ?_ WU.stop
  refine LA (s21:Tx) 3 0 Y O el22 O O O O O O (by have:=hok.len; omega) (by have:=hok.len; omega) fun a23 c23=>?_
  refine Ln (Eu ?_)
  refine WU.nil (fun _ h=>(Wo 1 (Wo 0 (Wd 1 h)):)) ?_
  refine WS.e O ?_
  refine V0 (Yf fo174_1 O) (Ln (Es ?_))
  refine WS.e O ?_
  refine Lst 2 Y O O O sz22 O O O (Ln (Es ?_))
  refine WS.nil ?_
  refine Et (Cr (V0 (Ym O) ?_))
  refine Lb Y O el22 O O O O fun b26=>?_
  refine Lsv (T:=9) (m:=1) 0 [[59]] O O (show 1≤1 by decide) (by decide) fun H26 hH26=>?_
  refine Lf 1 O ?_
  refine Lwx (ι:=(Option Addr×Nat)×Tk) (κ:=(Option Addr×Nat)×Tk) [_] _ Y O en143 O O (fun _=>.tuple #[]) (fun i=>glassL gb i.1 i.2) (fun i=>mustT [[59]] q21=some i.2∧Sl rdTok 3 HT i.1.1 i.1.2 i.2) (fun _=>brk) (fun i=>glassL gb i.1 i.2) (fun _=>mustT [[59]] q21=none) ([HT,H26]) (by simp) (fun w hw=>(must_any gb HT r21 q21 H26 _ _ [[59]] w hH26 hm21 hw).mono fun e w' h=>by
      rcases h with ⟨r2,q,h1,h2,h3,h4⟩ | ⟨r2,q,h1,h2,h3⟩
      · exact .inl ⟨(r2,q),h1,⟨h2,h3⟩,h4⟩
      · exact .inr ⟨(r2,q),h1,h2,h3⟩) ?_ ?_
  ·
   intro ⟨rp,qp⟩ hp
   rw [must1] at hp
   refine WE.block_panic (Ep (WE.block_panic (Ep ?_)))
   refine Epp fun w' hw=>?_
   rw [usesL_b2 hq17 hq21 hp] at hA
   exact .inr ⟨rp,qp,O,by rw [mod_use hq9 hq11 hq15]; simp only [w_main,hA,Option.bind_some,Option.map_some,Option.bind_none,Option.map_none],(by have h:=hw; have h:=Wt 1 h; have h:=Ws.drops h (Vs':=[HT]) (by simp); exact h)⟩
  intro ⟨r27,q27⟩ ⟨hq27,hm27⟩
  have ok27:=tMust ok21 hq27
  rw [must1] at hq27
  refine Ln (Eb ?_)
  exact Ea (⟨g.us++[s21],a23,c23,r27,q27⟩:GU) (by have:q17.length+1=g.q.length:=hasT_len hq17; have:q21.length<q17.length:=nam_len ok17 hq21; have:q27.length+1=q21.length:=hasT_len hq27; show q27.length<g.q.length; omega) ⟨⟨by have:q17.length+1=g.q.length:=hasT_len hq17; have:q21.length<q17.length:=nam_len ok17 hq21; have:q27.length+1=q21.length:=hasT_len hq27; simp; omega,ok27⟩,hm27,n,(show q27.length<n by have:q17.length+1=g.q.length:=hasT_len hq17; have:q21.length<q17.length:=nam_len ok17 hq21; have:q27.length+1=q21.length:=hasT_len hq27; omega),by rw [hA,usesL_more hq17 hq21 hq27]; simp [Function.comp_def]⟩ (sc O (sc O (sc O sn))) (fun _ h=>by
      have h:=h.fronti 6 rfl
      have h:=h.fronti 6 rfl
      have h:=h.fronti 6 rfl
      have h:=h.fronti 6 rfl
      have h:=h.fronti 6 rfl
      have h:=h.fronti 5 rfl
      have h:=Wt 6 h
      have h:=Ws.drops h (Vs':=[v0,HT]) (by simp)
      exact h)
 obtain ⟨hn17,hl17⟩:=h17f hc0
 subst hl17
 obtain ⟨n,hn,hA⟩:=hA
 obtain ⟨n,rfl⟩:∃k,n=k+1:=⟨n-1,by omega⟩
 rw [usesL_end hn17] at hA
 simp at hA
 refine Ce (Ex (Ex (Ebh (Et (Cs (Cr (V0 (Ym O) (Lf 0 O ?_))))))))
 refine Lw (ι:=Bool×(Option Addr×Nat)×Tk) [_] _ Y O en145 O O (fun i=>.bool i.1) (fun i=>glassL gb i.2.1 i.2.2) (fun i=>(i.1=true→hasT [112,117,98] g.q=some i.2.2)∧(i.1=false→hasT [112,117,98] g.q=none∧g.q=i.2.2)∧Sl rdTok 3 HT i.2.1.1 i.2.1.2 i.2.2) [HT] (by simp) (fun w hw=>has_any gb HT r17 g.q [112,117,98] w hm17 hw) ?_
 intro ⟨b29,r29,q29⟩ ⟨h29t,h29f,hm29⟩
 have hp29:pubP g.q=(b29,q29):=pub_of h29t h29f
 obtain ⟨ok29,le29⟩:TOk q29∧q29.length≤List.length (g.q):=tPub hokg h29t h29f
 refine V0 (Ya O) (Ln (Et (Cs (Cb ?_))))
 refine CLk (ι:=GD) (fun v=>[(4,.bool v.pub)]) [(0,_),(2,_),(3,_)] (fun v=>Ws w (List.flatMap Asr.ids (glassL gb r l)) (glassL gb v.r v.q++[blk b3 (.cells (rowM s11 g.a g.us.length g.c v.a v.ds.length v.c none 0 0 none 0 0).toArray 174 (0,0)),osT 9 1 strC g.a g.c g.us,osT 217 4 TDecl.cells v.a v.c v.ds,osT 213 5 PX.cells none 0 ([]:List PX),blk b2 (.cells (rowM [] none 0 0 none 0 0 none 0 0 none 0 0).toArray 174 (0,0))]) [v0,HT]) (fun v=>(v.ds.length+v.q.length≤l.length∧TOk v.q)∧Sl rdTok 3 HT v.r.1 v.r.2 v.q∧∃n,v.q.length<n∧declsL (q29.length+1) b29 q29=(declsL n v.pub v.q).map fun p=>((v.ds++p.1.1,p.1.2),p.2)) (fun v=>v.q.length) ⟨[],none,0,b29,r29,q29⟩ ⟨⟨by simp; omega,ok29⟩,hm29,q29.length+1,by simp,by simp⟩ (sc O (sc O (sc O (sc O sn)))) (fun _ h=>h) ?_
 intro v ⟨⟨hlen2,hokv⟩,hmv,hB⟩
 refine Cb (Cs (Cr (V0 (Ym O) (V0 (Ym O) (Lf 0 O ?_)))))
 refine Lwx (ι:=(Option TDecl)×(Option Addr×Nat)×Tk) (κ:=(Option Addr×Nat)×Tk) [_] _ Y O en146 O O (fun i=>.tuple #[.agg #[.int .i64 ((i.1).getD (⟨0,[],v.pub,0⟩:TDecl)).kind,st ((i.1).getD (⟨0,[],v.pub,0⟩:TDecl)).nm,.bool ((i.1).getD (⟨0,[],v.pub,0⟩:TDecl)).pub,.int .i64 ((i.1).getD (⟨0,[],v.pub,0⟩:TDecl)).n],.bool (i.1).isSome]) (fun i=>glassL gb i.2.1 i.2.2) (fun i=>declP v.pub v.q=some (i.1,i.2.2)∧Sl rdTok 3 HT i.2.1.1 i.2.1.2 i.2.2) (fun _=>brk) (fun i=>glassL gb i.1 i.2) (fun _=>declP v.pub v.q=none) ([HT]) (by simp) (fun w hw=>(gdecl_any gb HT v.r v.q v.pub w hokv hmv hw).mono fun e w' h=>by
     rcases h with ⟨t,r2,q,h1,h2,h3,h4⟩ | ⟨r2,q,h1,h2,h3⟩
     · exact .inl ⟨(t,r2,q),h1,⟨h2,h3⟩,h4⟩
     · exact .inr ⟨(r2,q),h1,h2,h3⟩) ?_ ?_
 ·
  intro ⟨rp,qp⟩ hp
  refine Ep (WE.block_panic (Ep (WE.block_panic (Ep ?_))))
  refine Epp fun w' hw=>?_
  obtain ⟨n,hn,hB⟩:=hB
  obtain ⟨n,rfl⟩:∃k,n=k+1:=⟨n-1,by omega⟩
  rw [declsL_bad hp] at hB
  exact .inr ⟨rp,qp,O,by rw [mod_use hq9 hq11 hq15]; simp only [w_main,hA,hp29,hB,Option.bind_some,Option.map_some,Option.bind_none,Option.map_none],(by have h:=hw; have h:=Wt 1 h; have h:=Ws.drops h (Vs':=[HT]) (by simp); exact h)⟩
 intro ⟨o33,r33,q33⟩ ⟨hq33,hm33⟩
 have ok33:=tDecl hokv hq33
 refine V0 (Ym O) (V0 (Yx O O) (V0 (Yx O O) ?_))
 refine Al Y O zr217 fun b5=>?_
 refine Lst 0 Y O O O sz217 O O O (V0 (Ya O) (Ln (Et (Cs (Cs (Cr (V0 (Ym O) (V0 (yl_not O) (Ln (Et ?_))))))))))
 refine Cc O (fun hc1=>?_) (fun hc1=>?_)
 ·
  obtain ⟨n,hn,hB⟩:=hB
  obtain ⟨n,rfl⟩:∃k,n=k+1:=⟨n-1,by omega⟩
  cases hd33:o33 with
  | some x=>rw [hd33] at hc1; simp at hc1
  | none=>
  rw [hd33] at hq33
  have hq33b:q33=v.q:=declP_none hq33
  rw [declsL_end hq33] at hB
  simp at hB
  refine Ce (Ex (Ebm O (Ex (Ebh (Et (Cs (Cb ?_)))))))
  refine CLk (ι:=GM) (fun e=>[(4,.bool e.pub)]) [(0,_),(2,_),(3,_)] (fun e=>Ws w (List.flatMap Asr.ids (glassL gb r l)) (glassL gb e.r e.q++[blk b3 (.cells (rowM s11 g.a g.us.length g.c v.a v.ds.length v.c e.a e.ps.length e.c none 0 0).toArray 174 (0,0)),osT 9 1 strC g.a g.c g.us,osT 217 4 TDecl.cells v.a v.c v.ds,osT 213 5 PX.cells e.a e.c e.ps,blk b2 (.cells (rowM [] none 0 0 none 0 0 none 0 0 none 0 0).toArray 174 (0,0))]) [e.J,HT]) (fun e=>(e.ps.length+e.q.length≤l.length∧TOk e.q)∧Sl rdTok 3 HT e.r.1 e.r.2 e.q∧(Fresh w e.J∧PXs e.J e.ps)∧∃n,e.q.length<n∧procsL (q33.length+1) v.pub q33=(procsL n e.pub e.q).map fun p=>((e.ps.map (·.1)++p.1.1,p.1.2),p.2)) (fun e=>e.q.length) ⟨[],none,0,v0,v.pub,r33,q33⟩ ⟨⟨(by have h:=congrArg List.length hq33b; simp at h ⊢; omega),ok33⟩,hm33,⟨v0_fresh w,PXs.nil _⟩,q33.length+1,by simp,by simp⟩ (sc O (sc O (sc O (sc O sn)))) (fun _ h=>by have h:=h.fronti 6 O; have h:=h.fronti 6 O; have h:=h.fronti 6 O; have h:=h.fronti 6 O; have h:=h.fronti 6 O; have h:=h.fronti 6 O; have h:=Wt 6 h; have h:=Ws.drops h (Vs':=[v0,HT]) (by simp); exact h) ?_
  intro e ⟨⟨hlen3,hoke⟩,hme,⟨hfJ,hPX⟩,hC⟩
  refine Cs (Cs (Cr (V0 (Ym O) (Lf 0 O ?_))))
  refine Lw (ι:=Bool×(Option Addr×Nat)×Tk) [_] _ Y O en145 O O (fun i=>.bool i.1) (fun i=>glassL gb i.2.1 i.2.2) (fun i=>(i.1=true→hasT [112,114,111,99] e.q=some i.2.2)∧(i.1=false→hasT [112,114,111,99] e.q=none∧e.q=i.2.2)∧Sl rdTok 3 HT i.2.1.1 i.2.1.2 i.2.2) [HT] (by simp) (fun w hw=>has_any gb HT e.r e.q [112,114,111,99] w hme hw) ?_
  intro ⟨b47,r47,q47⟩ ⟨h47t,h47f,hm47⟩
  refine Ln (Et ?_)
  refine Cc O (fun hc2=>?_) (fun hc2=>?_)
  ·
   have hq47:=h47t hc2
   have ok47:=tHas hoke hq47
   obtain ⟨n,hn,hC⟩:=hC
   obtain ⟨n,rfl⟩:∃k,n=k+1:=⟨n-1,by omega⟩
   refine Ck (Et (Cb (Cs ?_)))
   refine CU (fun _=>true) [0,3] [7,8] (.q false 0 (.q true 1 (.q false 2 (.q false 3 (.e 4 (.e 5 (.e 6 .nil .stop) .stop) .stop))))) mixed (by kernel_rfl) (fun _ _ _ d _ _ h=>by cases d<;>exact h) ?_
   refine U0 O (Wos [0,3]) (Yf fo174_3 O) (U0 O (Wos [0,3]) (Yd 0 O O O na171) (U0 O (Wos [0,3]) (Ym O) (U0 O (Wos [0,3]) (Ym O) ?_)))
   refine Ue O (Wos [0,3]) ?_ WU.stop
   refine Lf 0 O ?_
   refine Lwy (ι:=(TProc×PAt)×(Option Addr×Nat)×Tk) (κ:=(Option Addr×Nat)×Tk) [_] _ Y O en147 O O (fun i=>.agg #[st (i.1.1).nm,.bool (i.1.1).pub,.slice (i.1.2).s1.1 (i.1.1).params.length (i.1.2).s1.2,.slice (i.1.2).s2.1 (i.1.1).locs.length (i.1.2).s2.2,.slice (i.1.2).s3.1 (i.1.1).body.length (i.1.2).s3.2]) (fun i=>glassL gb i.2.1 i.2.2) (fun F i=>procP e.pub q47=some (i.1.1,i.2.2)∧SlP F i.1.1 i.1.2∧Sl rdTok 3 HT i.2.1.1 i.2.1.2 i.2.2) (fun _=>brk) (fun i=>glassL gb i.1 i.2) (fun _=>procP e.pub q47=none) ([HT]) (by simp) (fun _ _ h=>h) (fun w hw=>(gproc_any gb HT r47 q47 e.pub w ok47 hm47 hw).mono fun e w' h=>by
       rcases h with ⟨x,s,r2,q,h1,h2,h3,h4,h5⟩ | ⟨r2,q,h1,h2,h3⟩
       · exact .inl ⟨((x,s),r2,q),h1,⟨h2,h3,h4⟩,h5⟩
       · exact .inr ⟨(r2,q),h1,h2,h3⟩) ?_ ?_
   ·
    intro ⟨rp,qp⟩ hp
    refine Ep (Ep (WE.block_panic (Ep (WE.block_panic (Ep ?_)))))
    refine Epp fun w' hw=>?_
    rw [procsL_bad hq47 hp] at hC
    exact .inr ⟨rp,qp,O,by rw [mod_use hq9 hq11 hq15]; simp only [w_main,hA,hp29,hB,hC,Option.bind_some,Option.map_some,Option.bind_none,Option.map_none],(by have h:=hw; have h:=Wt 1 h; have h:=Ws.drops h (Vs':=[HT]) (by simp); exact h)⟩
   intro F52 ⟨⟨p52,s52⟩,r52,q52⟩ hf52 ⟨hq52,hx52,hm52⟩
   have ok52:TOk q52:=tProc ok47 hq52
   refine Ln (Eu ?_)
   refine Ue O (fun _ h=>(Wv 1 (Wo 3 (Wo 0 h)):)) ?_ WU.stop
   refine Lb Y O el171 O O O O fun b53=>?_
   refine Lrb 0 (.cells (PX.cells (p52,s52)).toArray 213 (0,0)) O O ?_
   refine Ln (Eu ?_)
   refine Ue O (fun _ h=>(Wv 1 (Wo 3 (Wo 0 (Wd 1 h))):)) ?_ WU.stop
   refine LA ((p52,s52):PX) 5 0 Y O el171 O O O O O O (by have:=hok.len; omega) (by have:=hok.len; omega) fun a54 c54=>?_
   refine Ln (Eu ?_)
   refine WU.nil (fun _ h=>(Wv 1 (Wo 3 (Wo 0 (Wd 1 h))):)) ?_
   refine WS.e O ?_
   refine V0 (Yf fo174_3 O) (Ln (Es ?_))
   refine WS.e O ?_
   refine Lst 2 Y O O O sz171 O O O (Ln (Es ?_))
   refine WS.nil ?_
   refine Et ?_
   refine WC.vjoin fun J52 j52a j52b j52f=>?_
   refine Cr (V0 (Ym O) (Lf 1 O ?_))
   refine Lw (ι:=Bool×(Option Addr×Nat)×Tk) [_] _ Y O en145 O O (fun i=>.bool i.1) (fun i=>glassL gb i.2.1 i.2.2) (fun i=>(i.1=true→hasT [112,117,98] q52=some i.2.2)∧(i.1=false→hasT [112,117,98] q52=none∧q52=i.2.2)∧Sl rdTok 3 HT i.2.1.1 i.2.1.2 i.2.2) [HT] (by simp) (fun w hw=>has_any gb HT r52 q52 [112,117,98] w hm52 hw) ?_
   intro ⟨b57,r57,q57⟩ ⟨h57t,h57f,hm57⟩
   have hp57:pubP q52=(b57,q57):=pub_of h57t h57f
   obtain ⟨ok57,le57⟩:TOk q57∧q57.length≤List.length (q52):=tPub ok52 h57t h57f
   refine V0 (Ya O) (Ln (Eb ?_))
   exact Ea (⟨e.ps++[(p52,s52)],a54,c54,J52,b57,r57,q57⟩:GM) (by have:q47.length+1=e.q.length:=hasT_len hq47; have:q52.length<q47.length:=proc_len ok47 hq52; show q57.length<e.q.length; omega) ⟨⟨by have:q47.length+1=e.q.length:=hasT_len hq47; have:q52.length<q47.length:=proc_len ok47 hq52; simp; omega,ok57⟩,hm57,⟨j52f _ hf52 hfJ,PXs.snoc hPX j52b j52a hx52⟩,n,(show q57.length<n by have:q47.length+1=e.q.length:=hasT_len hq47; have:q52.length<q47.length:=proc_len ok47 hq52; omega),by rw [hC,procsL_more hq47 hq52 hp57]; simp [Function.comp_def]⟩ (sc O (sc O (sc O (sc O sn)))) (fun _ h=>by
       have h:=h.fronti 6 rfl
       have h:=h.fronti 6 rfl
       have h:=h.fronti 6 rfl
       have h:=h.fronti 6 rfl
       have h:=h.fronti 6 rfl
       have h:=h.fronti 5 rfl
       have h:=Wt 6 h
       have h:=Ws.drops h (Vs':=[J52,HT]) (by simp)
       exact h)
  obtain ⟨hn47,hl47⟩:=h47f hc2
  subst hl47
  obtain ⟨n,hn,hC⟩:=hC
  obtain ⟨n,rfl⟩:∃k,n=k+1:=⟨n-1,by omega⟩
  rw [procsL_end hn47] at hC
  simp at hC
  refine Ce (Ex (Ex (Ebh (Et (Cs (Cs (Cr (V0 (Ym O) (Ln (Et ?_))))))))))
  refine Cc O (fun hc3=>?_) (fun hc3=>?_)
  ·
   have hpb:e.pub=true:=hc3
   refine Cr (V0 (Yb zr230 pl230 O O) (V0 (yl_mki co230 O) ?_))
   refine WL.panic Y O ?_
   refine Ep ?_
   refine Epp fun w' hw=>?_
   exact .inr ⟨r47,e.q,O,by rw [mod_use hq9 hq11 hq15]; simp only [w_main,hA,hp29,hB,hC,hpb,if_true,Option.bind_some,Option.map_some,Option.bind_none,Option.map_none],(by have h:=hw; have h:=Wt 1 h; have h:=Ws.drops h (Vs':=[HT]) (by simp); exact h)⟩
  have hpb:e.pub=false:=hc3
  refine Ck (Et (Cs (Cr (V0 (Ym O) ?_))))
  refine Lb Y O el22 O O O O fun b62=>?_
  refine Lsv (T:=9) (m:=1) 0 [[109,97,105,110]] O O (show 1≤1 by decide) (by decide) fun H62 hH62=>?_
  refine Lf 0 O ?_
  refine Lwx (ι:=(Option Addr×Nat)×Tk) (κ:=(Option Addr×Nat)×Tk) [_] _ Y O en143 O O (fun _=>.tuple #[]) (fun i=>glassL gb i.1 i.2) (fun i=>mustT [[109,97,105,110]] e.q=some i.2∧Sl rdTok 3 HT i.1.1 i.1.2 i.2) (fun _=>brk) (fun i=>glassL gb i.1 i.2) (fun _=>mustT [[109,97,105,110]] e.q=none) ([HT,H62]) (by simp) (fun w hw=>(must_any gb HT r47 e.q H62 _ _ [[109,97,105,110]] w hH62 hm47 hw).mono fun e w' h=>by
      rcases h with ⟨r2,q,h1,h2,h3,h4⟩ | ⟨r2,q,h1,h2,h3⟩
      · exact .inl ⟨(r2,q),h1,⟨h2,h3⟩,h4⟩
      · exact .inr ⟨(r2,q),h1,h2,h3⟩) ?_ ?_
  ·
   intro ⟨rp,qp⟩ hp
   rw [must1] at hp
   refine Ep ?_
   refine Epp fun w' hw=>?_
   exact .inr ⟨rp,qp,O,by rw [mod_use hq9 hq11 hq15]; simp only [w_main,hA,hp29,hB,hC,hpb,hp,Bool.false_eq_true,if_false,Option.bind_some,Option.map_some,Option.bind_none,Option.map_none],(by have h:=hw; have h:=Wt 1 h; have h:=Ws.drops h (Vs':=[HT]) (by simp); exact h)⟩
  intro ⟨r63,q63⟩ ⟨hq63,hm63⟩
  have ok63:=tMust hoke hq63
  rw [must1] at hq63
  refine Ln (Et (Cs (Cr (V0 (Ym O) (Lf 0 O ?_)))))
  refine Lwy (ι:=((List TStmt)×(Option Addr×Nat))×(Option Addr×Nat)×Tk) (κ:=(Option Addr×Nat)×Tk) [_] _ Y O en148 O O (fun i=>.slice i.1.2.1 i.1.1.length i.1.2.2) (fun i=>glassL gb i.2.1 i.2.2) (fun F i=>blockP 6 q63=some (i.1.1,i.2.2)∧Sl (RdS 7 6) 6 F i.1.2.1 i.1.2.2 i.1.1∧Sl rdTok 3 HT i.2.1.1 i.2.1.2 i.2.2) (fun _=>brk) (fun i=>glassL gb i.1 i.2) (fun _=>blockP 6 q63=none) ([HT]) (by simp) (fun _ _ h=>h) (fun w hw=>(gblock_any HT 6 gb r63 q63 (1) w (by omega) ok63 hm63 hw).mono fun e w' h=>by
      rcases h with ⟨x,s,r2,q,h1,h2,h3,h4,h5⟩ | ⟨r2,q,h1,h2,h3⟩
      · exact .inl ⟨((x,s),r2,q),h1,⟨h2,h3,h4⟩,h5⟩
      · exact .inr ⟨(r2,q),h1,h2,h3⟩) ?_ ?_
  ·
   intro ⟨rp,qp⟩ hp
   refine Ep ?_
   refine Epp fun w' hw=>?_
   exact .inr ⟨rp,qp,O,by rw [mod_use hq9 hq11 hq15]; simp only [w_main,hA,hp29,hB,hC,hpb,hq63,hp,Bool.false_eq_true,if_false,Option.bind_some,Option.map_some,Option.bind_none,Option.map_none],(by have h:=hw; have h:=Wt 1 h; have h:=Ws.drops h (Vs':=[HT]) (by simp); exact h)⟩
  intro F65 ⟨⟨b_65,s65⟩,r65,q65⟩ hf65 ⟨hq65,hx65,hm65⟩
  have ok65:TOk q65:=tBlock ok63 hq65
  refine V0 (Yf fo174_4 O) (Lst 1 Y O O O sz172 O O O (Ln (Et (Cs (Cr (V0 (Ym O) ?_))))))
  refine Lb Y O el22 O O O O fun b68=>?_
  refine Lsv (T:=9) (m:=1) 0 [[125]] O O (show 1≤1 by decide) (by decide) fun H68 hH68=>?_
  refine Lf 0 O ?_
  refine Lwx (ι:=(Option Addr×Nat)×Tk) (κ:=(Option Addr×Nat)×Tk) [_] _ Y O en143 O O (fun _=>.tuple #[]) (fun i=>glassL gb i.1 i.2) (fun i=>mustT [[125]] q65=some i.2∧Sl rdTok 3 HT i.1.1 i.1.2 i.2) (fun _=>brk) (fun i=>glassL gb i.1 i.2) (fun _=>mustT [[125]] q65=none) ([HT,H68]) (by simp) (fun w hw=>(must_any gb HT r65 q65 H68 _ _ [[125]] w hH68 hm65 hw).mono fun e w' h=>by
      rcases h with ⟨r2,q,h1,h2,h3,h4⟩ | ⟨r2,q,h1,h2,h3⟩
      · exact .inl ⟨(r2,q),h1,⟨h2,h3⟩,h4⟩
      · exact .inr ⟨(r2,q),h1,h2,h3⟩) ?_ ?_
  ·
   intro ⟨rp,qp⟩ hp
   rw [must1] at hp
   refine Ep ?_
   refine Epp fun w' hw=>?_
   exact .inr ⟨rp,qp,O,by rw [mod_use hq9 hq11 hq15]; simp only [w_main,hA,hp29,hB,hC,hpb,hq63,hq65,hp,Bool.false_eq_true,if_false,Option.bind_some,Option.map_some,Option.bind_none,Option.map_none],(by have h:=hw; have h:=Wt 1 h; have h:=Ws.drops h (Vs':=[HT]) (by simp); exact h)⟩
  intro ⟨r69,q69⟩ ⟨hq69,hm69⟩
  have ok69:=tMust ok65 hq69
  rw [must1] at hq69
  refine Ln (Et (Cs ?_))
  refine WC.oslN (rd:=rdStr) 2 O (fun k hk=>by simp [glassL,blk] at hk; subst hk; simp [outOf,glassL,blk,osl]) strC_len (fun _ _ _ _ h=>h) fun KU fKU hKU=>?_
  refine WC.oslN (rd:=rdDecl) 2 O (fun k hk=>by simp [glassL,blk] at hk; subst hk; simp [outOf,glassL,blk,osl]) TDecl.cells_len (fun _ _ _ _ h=>h) fun KD fKD hKD=>?_
  refine WC.oslN (rd:=rdPX) 2 O (fun k hk=>by simp [glassL,blk] at hk; subst hk; simp [outOf,glassL,blk,osl]) PX.cells_len (fun _ _ _ _ h=>h) fun KP fKP hKP=>?_
  refine Cr (V0 (Yda 1 O O ag174 O) (Lst 2 Y O O O sz174 O O O (Ln (Et (Crt ?_)))))
  refine WE.retR (rs_1 O (rv_agg 2 O O ag174 O)) fun w' hw=>?_
  exact .inl ⟨⟨s11,g.us,v.ds,e.ps.map (·.1),b_65⟩,⟨g.a,g.c,v.a,v.c,e.a,e.c,s65.1,s65.2⟩,r69,q69,by show Ending.returned (.agg #[st s11,.slice g.a g.us.length g.c,.slice v.a v.ds.length v.c,.slice e.a e.ps.length e.c,.slice s65.1 b_65.length s65.2])=_; simp [modV],by rw [mod_use hq9 hq11 hq15]; simp only [w_main,hA,hp29,hB,hC,hpb,hq63,hq65,hq69,Bool.false_eq_true,if_false,Option.bind_some,Option.map_some,Option.bind_none,Option.map_none],⟨slStr_mv hKU (nv_vs hw (by simp) fKU),slDecl_mv hKD (nv_vs hw (by simp) fKD),slP_of hKP (nv_vs hw (by simp) fKP) (nv_vs hw (by simp) hfJ) hPX,slS_mv hx65 (nv_vs hw (by simp) hf65)⟩,hm69,Wv 7 (Wt 1 hw)⟩
 obtain ⟨n,hn,hB⟩:=hB
 obtain ⟨n,rfl⟩:∃k,n=k+1:=⟨n-1,by omega⟩
 obtain ⟨x33,hd33⟩:∃x,o33=some x:=by
   cases o33 with
   | none=>simp at hc1
   | some x=>exact ⟨x,rfl⟩
 subst hd33
 have hl33:q33.length<v.q.length:=decl_len hokv hq33
 refine Ck (Et (Cs (Cr (V0 (Yf fo174_2 O) (V0 (Yd 2 O O O na170) (V0 (Yda 0 O O ag217 O) ?_))))))
 refine Lb Y O el170 O O O O fun b41=>?_
 refine Lrb 0 (.cells (TDecl.cells x33).toArray 217 (0,0)) O O ?_
 refine LA (x33:TDecl) 5 0 Y O el170 O O O O O O (by have:=hok.len; omega) (by have:=hok.len; omega) fun a42 c42=>?_
 refine V0 (Yf fo174_2 O) (Lst 3 Y O O O sz170 O O O (Ln (Et (Cr (V0 (Ym O) (Lf 2 O ?_))))))
 refine Lw (ι:=Bool×(Option Addr×Nat)×Tk) [_] _ Y O en145 O O (fun i=>.bool i.1) (fun i=>glassL gb i.2.1 i.2.2) (fun i=>(i.1=true→hasT [112,117,98] q33=some i.2.2)∧(i.1=false→hasT [112,117,98] q33=none∧q33=i.2.2)∧Sl rdTok 3 HT i.2.1.1 i.2.1.2 i.2.2) [HT] (by simp) (fun w hw=>has_any gb HT r33 q33 [112,117,98] w hm33 hw) ?_
 intro ⟨b45,r45,q45⟩ ⟨h45t,h45f,hm45⟩
 have hp45:pubP q33=(b45,q45):=pub_of h45t h45f
 obtain ⟨ok45,le45⟩:TOk q45∧q45.length≤List.length (q33):=tPub ok33 h45t h45f
 refine V0 (Ya O) (Ln (Eb ?_))
 exact Ea (⟨v.ds++[x33],a42,c42,b45,r45,q45⟩:GD) (by show q45.length<v.q.length; omega) ⟨⟨by simp; omega,ok45⟩,hm45,n,(show q45.length<n by omega),by rw [hB,declsL_more hq33 hp45]; simp [Function.comp_def]⟩ (sc O (sc O (sc O (sc O sn)))) (fun _ h=>by
     have h:=h.fronti 7 rfl
     have h:=h.fronti 7 rfl
     have h:=h.fronti 7 rfl
     have h:=h.fronti 7 rfl
     have h:=h.fronti 7 rfl
     have h:=h.fronti 5 rfl
     have h:=Wt 6 h
     have h:=Ws.drops h (Vs':=[v0,HT]) (by simp)
     exact h)
theorem parse_err {s:Tx} (h:¬(lexR s).2=0):parseM s=(noMod,(lexR s).2):=by rw [parseM,if_pos h]
theorem parse_no {s:Tx} (h:(lexR s).2=0) (h1:modP (lexR s).1=none):parseM s=(noMod,1):=by rw [parseM,if_neg (by simp [h]),h1]
theorem parse_more {s:Tx} {m:TMod} {q:Tk} (h:(lexR s).2=0) (h1:modP (lexR s).1=some (m,q)) (h2:0<q.length∨¬checkM m=0):parseM s=(noMod,1):=by
 rw [parseM,if_neg (by simp [h]),h1]
 cases q with
 | cons t r=>rfl
 | nil=>
   simp only
   rw [if_neg]
   rcases h2 with h2 | h2
   · simp at h2
   · exact h2
theorem parse_yes {s:Tx} {m:TMod} {q:Tk} (h:(lexR s).2=0) (h1:modP (lexR s).1=some (m,q)) (h2:q.length=0) (h3:checkM m=0):parseM s=(m,0):=by
 rw [parseM,if_neg (by simp [h]),h1]
 obtain rfl:q=[]:=List.eq_nil_of_length_eq_zero h2
 simp only
 rw [if_pos h3]
theorem lexR_tok {s:Tx} (h:(lexR s).2=0):TOk (lexR s).1:=⟨lexR_ok h,(checkT_zero (lex_checks h)).2⟩
def noAt:MAt:=⟨none,0,none,0,none,0,none,0⟩
theorem noMod_rd (N:View):RdM 7 6 N noAt noMod:=⟨Sl.nil,Sl.nil,Sl.nil,Sl.nil⟩
theorem rdM_mv {H N:View} {ke ks:Nat} {s:MAt} {m:TMod} (h:RdM ke ks H s m) (hv:VLe H N):RdM ke ks N s m:=⟨slStr_mv h.uses hv,slDecl_mv h.decls hv,h.procs.imp fun b o x hx=>RdP_mono hv (Nat.le_refl _) (Nat.le_refl _) b o x hx,h.main.imp fun b o x hx=>RdS_mono hv (Nat.le_refl _) (Nat.le_refl _) b o x hx⟩
theorem uif20:Tryz.prog.underlying 20=some (.interface (Tryz.prog.methodsAt 20)):=by kernel_rfl
theorem sz29:sizeP Tryz.prog 29=some 1:=by kernel_rfl
theorem zr29:zeroOf Tryz.prog 29=some (.int .i64 0):=by kernel_rfl
theorem en119:Enters Tryz.prog 119:=enters_of Tryz.func119 (by kernel_rfl) rfl
theorem na29:nonAgg Tryz.prog 29=true:=by kernel_rfl
theorem pl228:placesP Tryz.prog 228=some [(0,1)]:=by kernel_rfl
theorem zr228:zeroOf Tryz.prog 228=some (.agg #[.slice none 0 0]):=by kernel_rfl
theorem en121:Enters Tryz.prog 121:=enters_of Tryz.func121 (by kernel_rfl) rfl
theorem en120:Enters Tryz.prog 120:=enters_of Tryz.func120 (by kernel_rfl) rfl
theorem en122:Enters Tryz.prog 122:=enters_of Tryz.func122 (by kernel_rfl) rfl
theorem parse1_ret (b2 b3:Nat) (m0:Array Value) (hm0:m0.size=5) (e0:Int) (w:World) (hw:Ws w (List.flatMap Asr.ids [blk b2 (.cells m0 174 (0,0)),blk b3 (.cells #[.int .i64 e0] 29 (0,0))]) [blk b2 (.cells m0 174 (0,0)),blk b3 (.cells #[.int .i64 e0] 29 (0,0))] [] w) :
   CallsD Tryz.prog 120 #[.pointer (some ⟨b2,0,none⟩),.pointer (some ⟨b3,0,none⟩)] (.returning) w fun e u2 w'=>u2 = .returning∧(e = .returned (.tuple #[])∧Ws w (List.flatMap Asr.ids [blk b2 (.cells m0 174 (0,0)),blk b3 (.cells #[.int .i64 e0] 29 (0,0))]) [blk b2 (.cells m0 174 (0,0)),blk b3 (.cells #[.int .i64 e0] 29 (0,0))] [] w'):=by
 refine closD Tryz.func120 O 5 O O O O O (fun _=>rfl) (.inl ⟨O,O,O⟩) ?_
 refine LW (W':=Ws w (List.flatMap Asr.ids [blk b2 (.cells m0 174 (0,0)),blk b3 (.cells #[.int .i64 e0] 29 (0,0))]) [blk b2 (.cells m0 174 (0,0)),blk b3 (.cells #[.int .i64 e0] 29 (0,0))] []) (fun _ e=>by subst e; exact hw) ?_
 refine V0 (yl_nein uif20 O) (Ln (Et ?_))
 refine WC.condf O ?_
 refine Ck ?_
 refine E0 O fun w' hw=>?_
 exact ⟨O,hw⟩
theorem parse1_pan (b2 b3:Nat) (m0:List Value) (hm0:m0.length=5) (e0:Int) (w:World) (hw:Ws w (List.flatMap Asr.ids [blk b2 (.cells m0.toArray 174 (0,0)),blk b3 (.cells #[.int .i64 e0] 29 (0,0))]) [blk b2 (.cells m0.toArray 174 (0,0)),blk b3 (.cells #[.int .i64 e0] 29 (0,0))] [] w) :
   CallsD Tryz.prog 120 #[.pointer (some ⟨b2,0,none⟩),.pointer (some ⟨b3,0,none⟩)] (.panicking brk) w fun e u2 w'=>u2 = .panicking [⟨.iface 230 (.agg #[]),true,false⟩]∧(e = .returned (.tuple #[])∧Ws w (List.flatMap Asr.ids [blk b2 (.cells m0.toArray 174 (0,0)),blk b3 (.cells #[.int .i64 e0] 29 (0,0))]) [blk b2 (.cells (rowM [] none 0 0 none 0 0 none 0 0 none 0 0).toArray 174 (0,0)),blk b3 (.cells #[.int .i64 1] 29 (0,0))] [] w'):=by
 refine closD Tryz.func120 O 5 O O O O O (fun _=>rfl) (.inr ⟨_,O,O,O⟩) ?_
 refine LW (W':=Ws w (List.flatMap Asr.ids [blk b2 (.cells m0.toArray 174 (0,0)),blk b3 (.cells #[.int .i64 e0] 29 (0,0))]) [blk b2 (.cells m0.toArray 174 (0,0)),blk b3 (.cells #[.int .i64 e0] 29 (0,0))] []) (fun _ e=>by subst e; exact hw) ?_
 refine V0 (yl_neih uif20 O) (Ln (Et ?_))
 refine WC.condt O ?_
 refine Cr (V0 (Yb zr174 pl174 O O) ?_)
 refine WL.storeAs 0 (.cells (rowM [] none 0 0 none 0 0 none 0 0 none 0 0).toArray 174 (0,0)) Y O O O sz174 O O (by simp [stOk,hm0]) (by simp [setIn,vcells,rowM,hm0,List.drop_eq_nil_of_le]) ?_
 refine Lst 1 Y O O O sz29 O O O (Ln ?_)
 refine E0 O fun w' hw=>?_
 exact ⟨O,hw⟩
theorem treeParse_any (G:View) (s:Tx) (w:World) (hG:Le G w) (hz:Laid G) :
   Calls Tryz.prog 102 #[st s] w fun e w'=>∃r:MAt,e = .returned (.tuple #[.agg (modV (parseM s).1 r).toArray,.int .i64 (parseM s).2])∧Ext w w'∧RdM 7 6 (nv w w') r (parseM s).1:=by
 refine enterD Tryz.func102 O 35 O O ?_
 refine CE (Vs:=[G]) (Ws.init (by simp [hG])) ?_
 refine Cs (Cr ?_)
 refine Al Y O zr174 fun b2=>?_
 refine Lrb 0 (.cells (rowM [] none 0 0 none 0 0 none 0 0 none 0 0).toArray 174 (0,0)) O O ?_
 refine Al Y O zr29 fun b3=>?_
 refine Lrb 0 (.cells #[.int .i64 0] 29 (0,0)) O O ?_
 refine Ln (Et (Cs (Cr (V0 (Ym O) ?_))))
 refine Ld Y O en119 O (fun r:Option Addr×Nat=>.tuple #[.slice r.1 (lexR s).1.length r.2,.int .i64 (lexR s).2]) (fun F r=>Sl rdTok 3 F r.1 r.2 (lexR s).1) (fun w hw=>lex_any G s w (hw.vs _ (by simp)) hz) ?_
 intro F8 r8 hf8 h8
 refine V0 (Ym O) (V0 (Yx O O) (V0 (Yx O O) (V0 (Ya O) (Lst 0 Y O O O sz29 O O O (Ln (Et (Cs (Cs (Cr ?_)))))))))
 refine V0 (Yd 0 O O O na29) (V0 (yl_ne O O) (Ln (Et ?_)))
 refine Cc O (fun hc0=>?_) (fun hc0=>?_)
 ·
  have he:¬(lexR s).2=0:=by simpa using hc0
  refine Cs ?_
  refine CU (noRes [.cell 2 174,.cell 3 29]) [1] [3] (.q false 0 (.q true 1 (.e 2 .nil .stop))) mixed (by kernel_rfl) (fun _ _ _ _ _ hd h=>bodyD_put (fn:=Tryz.f102) [.cell 2 174,.cell 3 29] O hd h) ?_
  refine U0 O (Wp 1) (Yb zr174 pl174 O O) (U0 O (Wp 1) (Yd 0 O O O na29) ?_)
  refine Ue O (Wp 1) ?_ WU.stop
  refine Lst 1 Y O O O sz174 O O O (Ln (Eu ?_))
  refine WU.nil (Wp 1) ?_
  refine WS.e O ?_
  refine Lst 0 Y O O O sz29 O O O (Ln (Es ?_))
  refine WS.nil ?_
  refine Et (Crt (Er ?_))
  refine WE.retD0 (rs_2 O (rv_agg 1 O O ag174 O) (rv_one 0 O O O na29)) fun w' hw=>?_
  rw [parse_err he]
  exact ⟨noAt,O,hw.fr,noMod_rd _⟩
 have he:(lexR s).2=0:=by simpa using hc0
 refine Crb 0 (.cells #[.int .i64 0] 29 (0,0)) O (by show Obj.cells #[.int .i64 (lexR s).2] _ _=_; rw [he]) ?_
 refine Ck (Et (Cs (Cr (V0 (yl_func O) ?_))))
 refine WL.defer Y O ?_
 refine Ln (Et (Cs (Cr (V0 (Ym O) (V0 (Yb zr228 pl228 O O) ?_)))))
 refine WL.box Y O O fun b18=>?_
 refine V0 (Ya O) (Ln (Et (Cs (Cr (V0 (Ym O) (Lf 0 O ?_))))))
 refine Lwy (ι:=(TMod×MAt)×(Option Addr×Nat)×Tk) (κ:=(Option Addr×Nat)×Tk) [_] _ Y O en121 O O (fun i=>.agg (modV i.1.1 i.1.2).toArray) (fun i=>glassL b18 i.2.1 i.2.2) (fun F i=>modP (lexR s).1=some (i.1.1,i.2.2)∧RdM 7 6 F i.1.2 i.1.1∧Sl rdTok 3 F8 i.2.1.1 i.2.1.2 i.2.2) (fun _=>brk) (fun i=>glassL b18 i.1 i.2) (fun _=>modP (lexR s).1=none) ([F8]) (by simp) (fun _ _ h=>h) (fun w hw=>(gmodule_any b18 F8 r8 (lexR s).1 w (lexR_tok he) h8 hw).mono fun e w' h=>by
     rcases h with ⟨x,s,r2,q,h1,h2,h3,h4,h5⟩ | ⟨r2,q,h1,h2,h3⟩
     · exact .inl ⟨((x,s),r2,q),h1,⟨h2,h3,h4⟩,h5⟩
     · exact .inr ⟨(r2,q),h1,h2,h3⟩) ?_ ?_
 ·
  intro ⟨rp,qp⟩ hp
  refine Ep ?_
  refine WE.front 1 O ?_
  refine WE.front 2 O ?_
  refine WE.panD en120 (closW [_,_] _ [blk b2 (.cells (rowM [] none 0 0 none 0 0 none 0 0 none 0 0).toArray 174 (0,0)),blk b3 (.cells #[.int .i64 1] 29 (0,0))] O (fun w hw=>parse1_pan b2 b3 (rowM [] none 0 0 none 0 0 none 0 0 none 0 0) O 0 w hw)) (rs_2 O (rv_agg 0 O O ag174 O) (rv_one 1 O O O na29)) fun w' hw=>?_
  rw [parse_no he hp]
  exact ⟨noAt,O,hw.fr,noMod_rd _⟩
 intro F20 ⟨⟨m20,s20⟩,r20,q20⟩ hf20 ⟨hq20,hx20,hm20⟩
 have hwt:wM m20≤73728:=by
   have h1:wM m20+18*q20.length≤18*(lexR s).1.length:=modP_w hq20
   have:=(lexR_tok he).len
   omega
 refine Lst 2 Y O O O sz174 O O O (Ln (Et (Cs (Cs ?_))))
 refine Crb 2 (.cells (modV m20 s20).toArray 174 (0,0)) O O ?_
 refine Cr (V0 (Ym O) (V0 (yl_nil O) (V0 (Yf fo228_0 O) (V0 (Yd 0 O O O na223) (V0 (Yn es223 O) ?_)))))
 refine V0 (yl_gt O O) (V0 (Ym O) ?_)
 apply Lo 3 O O O O Y O O O O O
 ·
  intro hg0
  refine Vg (Yda 2 O O ag174 O) ?_
  refine Lp (.g O O O) O en122 O (fun w hw=>treeCheck_any F20 7 6 s20 m20 w (hw.vs _ (by simp)) hx20 (by omega)) ?_
  refine Vg (yl_ne O O) ?_
  exact Gt 3 O O O
 refine Ln (Et ?_)
 refine Cc O (fun hc1=>?_) (fun hc1=>?_)
 ·
  have hno:0<q20.length∨¬checkM m20=0:=by simpa using hc1
  refine Cr (V0 (Yb zr230 pl230 O O) (V0 (yl_mki co230 O) ?_))
  refine WL.panic Y O ?_
  refine Ep ?_
  refine WE.front 1 O ?_
  refine WE.front 2 O ?_
  refine WE.panD en120 (closW [_,_] _ [blk b2 (.cells (rowM [] none 0 0 none 0 0 none 0 0 none 0 0).toArray 174 (0,0)),blk b3 (.cells #[.int .i64 1] 29 (0,0))] O (fun w hw=>parse1_pan b2 b3 (modV m20 s20) O 0 w hw)) (rs_2 O (rv_agg 0 O O ag174 O) (rv_one 1 O O O na29)) fun w' hw=>?_
  rw [parse_more he hq20 hno]
  exact ⟨noAt,O,hw.fr,noMod_rd _⟩
 have hy:¬0<q20.length∧checkM m20=0:=by simpa using hc1
 refine Ck (Et (Cs (Cr (V0 (Yda 2 O O ag174 O) (Lst 2 Y O O O sz174 O O O (Lst 1 Y O O O sz29 O O O (Ln (Et (Crt ?_)))))))))
 refine WE.front 1 O ?_
 refine WE.front 2 O ?_
 refine WE.retD en120 (closW [_,_] _ [blk b2 (.cells (modV m20 s20).toArray 174 (0,0)),blk b3 (.cells #[.int .i64 0] 29 (0,0))] O (fun w hw=>parse1_ret b2 b3 (modV m20 s20).toArray O 0 w hw)) (rs_2 O (rv_agg 0 O O ag174 O) (rv_one 1 O O O na29)) fun w' hw=>?_
 rw [parse_yes he hq20 (by have:=hy.1; show q20.length=0; omega) hy.2]
 exact ⟨s20,O,hw.fr,rdM_mv hx20 (nv_vs hw (by simp) hf20)⟩
theorem str_one (s:Tx):(strC s).all (·.oneCell')=true:=rfl
theorem sameTexts_eq (H1 H2:View) (a1 a2:Option Addr) (c1 c2:Nat) (l:List Tx) (w:World) (hH1:Le H1 w) (hH2:Le H2 w) (hm1:Sl rdStr 1 H1 a1 c1 l) (hm2:Sl rdStr 1 H2 a2 c2 l) :
   Calls Tryz.prog 51 #[.slice a1 l.length c1,.slice a2 l.length c2] w fun e w'=>e = .returned (.bool true)∧Ext w w':=by
 have hcap1:=hm1.cap
 have hmax1:=hm1.max
 have hcap2:=hm2.cap
 have hmax2:=hm2.max
 refine enter Tryz.func51 O 26 O O ?_
 refine CE (Vs:=[H1,H2]) (Ws.init (by simp [hH1,hH2])) ?_
 refine Cs (Cr (V0 (Ya O) (Ln (Et (Cs (Cs (Cr (V0 (Ym O) (V0 (Yn es22 O) (V0 (Ym O) ?_))))))))))
 refine V0 (Yn es22 O) (V0 (yl_neY O O O) (Ln (Et ?_)))
 refine WC.condf O ?_
 refine Ck (Et (Cs (Cs (Cr (V0 (Ya O) (Ln (Et (Cb ?_))))))))
 refine CW (ι:=Nat) (fun i=>[(5,.int .i64 (i:Int))]) [(0,_),(1,_)] (fun i=>i≤l.length) (fun i=>l.length-i) 0 (Nat.zero_le _) (sc O (sc O (sc O sn))) ?_
 intro i hi
 refine Cs (Cs (Cr (V0 (Ym O) (V0 (Ym O) (V0 (Yn es22 O) (V0 (yl_lt O O) (Ln (Et ?_))))))))
 refine Cc O (fun hc1=>?_) (fun hc1=>?_)
 ·
  have hlt:i<l.length:=by simpa using hc1
  obtain ⟨x,hx⟩:∃x,l[i]? = some x:=⟨_,List.getElem?_eq_getElem hlt⟩
  obtain ⟨pb,po,ha1,hr1⟩:=hm1.elt i x hx
  obtain ⟨qb,qo,ha2,hr2⟩:=hm2.elt i x hx
  have hr1:RdC H1 pb (po+i*1) (strC x):=hr1
  have hr2:RdC H2 qb (qo+i*1) (strC x):=hr2
  refine Ck (Et (Cs (Cb (Cs ?_))))
  refine WC.draws0 [(0,true),(1,true),(2,true),(3,true),(4,true),(5,true),(6,true),(7,true),(8,true)] mixed (by kernel_rfl) (fun _ _ _ d _ h=>by cases d<;>exact h) ?_
  refine D0 O (fun _ h=>h) (Ym O) (D0 O (fun _ h=>h) (Ym O) ?_)
  refine D0 O (fun _ h=>h) (Yo es22 O O ha1 (by omega)) ?_
  refine D0 O (fun _ h=>h) (yl_ld 0 na9 O O (hr1 0 _ O)) (D0 O (fun _ h=>h) (Ym O) (D0 O (fun _ h=>h) (Ym O) ?_))
  refine D0 O (fun _ h=>h) (Yo es22 O O ha2 (by omega)) ?_
  refine D0 O (fun _ h=>h) (yl_ld 1 na9 O O (hr2 0 _ O)) (D0 O (fun _ h=>h) (yl_nesY O O O) ?_)
  refine WD.nil (fun _ h=>h) ?_
  refine Et ?_
  refine WC.condf O ?_
  refine Ck (Eb (Et (Cr (V0 (Ym O) ?_))))
  refine V0 (Yi O O O (by omega)) ?_
  refine V0 (Ya O) (Ln ?_)
  exact Ea (i+1) (by omega) (by omega) (sc O (sc O (sc O sn))) (fun _ h=>h)
 refine Ce (Ex (Ex (Ebh (Et (Cs (Cr (V0 (Ya O) (Ln (Et (Crt ?_))))))))))
 refine R1 O O fun w' hw=>?_
 exact ⟨O,hw.fr⟩
abbrev SP:=Option Addr×Nat
def mnamed:FItem→List UInt8:=fun x=>x.name
abbrev IEnt:=List UInt8×Int×Nat
def iv (M:List IEnt):List MEnt:=M.map fun e=>(e.1,.int .i64 e.2.1,e.2.2)
def ifind (k:List UInt8):List IEnt→Nat→Option (Nat×Int)
 | [],_=>none
 | e::r,i=>if (k==e.1)=true then some (i,e.2.1) else ifind k r (i+1)
def iget (k:List UInt8) (M:List IEnt):Int:=match ifind k M 0 with | some (_,n)=>n | none=>0
def iput (k:List UInt8) (n:Int) (M:List IEnt) (c:Nat):List IEnt:=match ifind k M 0 with
 | some (i,_)=>M.modify i fun e=>(k,n,e.2.2)
 | none=>M++[(k,n,c)]
def iclock (k:List UInt8) (M:List IEnt) (c:Nat):Nat:=match ifind k M 0 with | some _=>c | none=>c+1
theorem mfind_iv (k:List UInt8):∀(M:List IEnt) (i:Nat),mfind k (iv M) i=(ifind k M i).map fun r=>(r.1,.int .i64 r.2)
 | [],_=>rfl
 | e::r,i=>by
   simp only [iv,List.map_cons,mfind,ifind]
   cases (k==e.1)
   · simp only [Bool.false_eq_true,if_false]
     exact mfind_iv k r (i+1)
   · simp
theorem mget_iv (k:List UInt8) (M:List IEnt):mget k (iv M) (.int .i64 0) = .int .i64 (iget k M):=by
 unfold mget iget
 rw [mfind_iv]
 cases ifind k M 0<;>rfl
theorem mput_iv (k:List UInt8) (n:Int) (M:List IEnt) (c:Nat):mput k (.int .i64 n) (iv M) c=iv (iput k n M c):=by
 unfold mput iput
 rw [mfind_iv]
 cases ifind k M 0 with
 | none=>simp [iv]
 | some r=>
   simp only [Option.map_some]
   apply List.ext_getElem?
   intro i
   simp only [iv,List.getElem?_modify,List.getElem?_map]
   cases M[i]? with
   | none=>simp
   | some e=>by_cases h:r.1=i<;>simp [h]
theorem mclock_iv (k:List UInt8) (M:List IEnt) (c:Nat):mclock k (iv M) c=iclock k M c:=by
 unfold mclock iclock
 rw [mfind_iv]
 cases ifind k M 0<;>rfl
def keysOf (M:List IEnt):List (List UInt8):=M.map (·.1)
theorem ifind_none {k:List UInt8}:∀{M:List IEnt} {i:Nat},ifind k M i=none↔k ∉ keysOf M
 | [],_=>by simp [ifind,keysOf]
 | e::r,i=>by
   simp only [ifind,keysOf,List.map_cons,List.mem_cons,not_or]
   by_cases h:k=e.1
   · simp [h]
   · have:=ifind_none (k:=k) (M:=r) (i:=i+1)
     simp [h,keysOf] at this ⊢
     exact this
theorem ifind_at {k:List UInt8}:∀{M:List IEnt} {i j:Nat} {n:Int},ifind k M i=some (j,n)→i≤j∧(M[j-i]?).map (·.1)=some k
 | [],_,_,_,h=>by simp [ifind] at h
 | e::r,i,j,n,h=>by
   simp only [ifind] at h
   split at h
   · rename_i hk
     injection h with h; injection h with h1 h2
     subst h1
     simp at hk
     simp [hk]
   · obtain ⟨h1,h2⟩:=ifind_at h
     refine ⟨by omega,?_⟩
     have:j-i=(j-(i+1))+1:=by omega
     rw [this]; simpa using h2
theorem keys_put (k:List UInt8) (n:Int) (M:List IEnt) (c:Nat):keysOf (iput k n M c)=if k ∈ keysOf M then keysOf M else keysOf M++[k]:=by
 unfold iput
 cases h:ifind k M 0 with
 | none=>rw [if_neg (ifind_none.1 h)]; simp [keysOf]
 | some r=>
   obtain ⟨j,v⟩:=r
   have hk:=(ifind_at h).2
   have hm:k ∈ keysOf M:=by
     cases Classical.em (k ∈ keysOf M) with
     | inl h1=>exact h1
     | inr h1=>rw [ifind_none.2 h1] at h; cases h
   rw [if_pos hm]
   apply List.ext_getElem?
   intro i
   simp only [keysOf,List.getElem?_map,List.getElem?_modify]
   cases he:M[i]? with
   | none=>simp
   | some e=>
     by_cases hj:j=i
     · subst hj; simp only [Nat.sub_zero,he] at hk; simp at hk; simp [hk]
     · simp [hj]
def aState (l:List (List UInt8)):Nat→List IEnt×Nat
 | 0=>([],0)
 | i+1=>(iput (l[i]?.getD []) (IntKind.i64.wrap (iget (l[i]?.getD []) (aState l i).1+1)) (aState l i).1 (aState l i).2,iclock (l[i]?.getD []) (aState l i).1 (aState l i).2)
theorem aState_mem (l:List (List UInt8)) (k:List UInt8):∀i,k ∈ keysOf (aState l i).1↔∃j,j<i∧l[j]?.getD []=k
 | 0=>by simp [aState,keysOf]
 | i+1=>by
   have ih:=aState_mem l k i
   simp only [aState,keys_put]
   have step:(∃j,j<i+1∧l[j]?.getD []=k)↔(∃j,j<i∧l[j]?.getD []=k)∨l[i]?.getD []=k:=by
     constructor
     · rintro ⟨j,hj,e⟩
       rcases Nat.lt_succ_iff_lt_or_eq.1 hj with h | rfl
       · exact .inl ⟨j,h,e⟩
       · exact .inr e
     · rintro (⟨j,hj,e⟩ | e)
       · exact ⟨j,by omega,e⟩
       · exact ⟨i,by omega,e⟩
   rw [step,←ih]
   split
   · rename_i hm
     constructor
     · exact .inl
     · rintro (h | h)
       · exact h
       · rw [←h]; exact hm
   · simp [eq_comm]
theorem aState_len (l:List (List UInt8)):∀i,(keysOf (aState l i).1).length≤i∧((keysOf (aState l i).1).length<i↔∃i2,i2<i∧∃j,j<i2∧l[j]?.getD []=l[i2]?.getD [])
 | 0=>by simp [aState,keysOf]
 | i+1=>by
   obtain ⟨h1,h2⟩:=aState_len l i
   have hm:=aState_mem l (l[i]?.getD []) i
   simp only [aState,keys_put]
   split
   · rename_i hk
     obtain ⟨j,hj,e⟩:=hm.1 hk
     exact ⟨by omega,⟨fun _=>⟨i,by omega,j,hj,e⟩,fun _=>by omega⟩⟩
   · rename_i hk
     refine ⟨by simp; omega,?_⟩
     rw [List.length_append,List.length_singleton]
     constructor
     · intro h
       obtain ⟨i2,a,b⟩:=h2.1 (by omega)
       exact ⟨i2,by omega,b⟩
     · rintro ⟨i2,hi2,j,hj,e⟩
       rcases Nat.lt_succ_iff_lt_or_eq.1 hi2 with h | rfl
       · have:=h2.2 ⟨i2,h,j,hj,e⟩; omega
       · exact absurd (hm.2 ⟨j,hj,e⟩) hk
theorem alike_twice (l:List (List UInt8)):decide (((aState l l.length).1.length:Int)<(l.length:Int))=twiceB l:=by
 have h:=(aState_len l l.length).2
 simp only [keysOf,List.length_map] at h
 rw [Bool.eq_iff_iff]
 unfold twiceB
 simp only [decide_eq_true_eq,List.any_eq_true,List.mem_range,beq_iff_eq]
 constructor
 · intro hlt
   obtain ⟨i,hi,j,hj,e⟩:=h.1 (by omega)
   exact ⟨i,hi,j,hj,e.symm⟩
 · rintro ⟨i,hi,j,hj,e⟩
   have:=h.2 ⟨i,hi,j,hj,e.symm⟩
   omega
theorem um64:Tryz.prog.underlying 64=some (.map 9 3):=by kernel_rfl
theorem zr3:zeroOf Tryz.prog 3=some (.int .i64 0):=by kernel_rfl
theorem fo232_0:fieldOff Tryz.prog 232 0=some 0:=by kernel_rfl
theorem fo232_3:fieldOff Tryz.prog 232 3=some 3:=by kernel_rfl
theorem fo232_1:fieldOff Tryz.prog 232 1=some 1:=by kernel_rfl
theorem fo232_2:fieldOff Tryz.prog 232 2=some 2:=by kernel_rfl
theorem fo180_1:fieldOff Tryz.prog 180 1=some 1:=by kernel_rfl
theorem na178:nonAgg Tryz.prog 178=true:=by kernel_rfl
theorem es178:elemSz Tryz.prog 178=some 4:=by kernel_rfl
theorem ag232:aggOf Tryz.prog 232=some 4:=by kernel_rfl
theorem zr232:zeroOf Tryz.prog 232=some (.agg #[.int .i64 0,.int .i64 0,.int .i64 0,st []]):=by kernel_rfl
theorem sz232:sizeP Tryz.prog 232=some 4:=by kernel_rfl
theorem en138:Enters Tryz.prog 138:=enters_of Tryz.func138 (by kernel_rfl) rfl
theorem en137:Enters Tryz.prog 137:=enters_of Tryz.func137 (by kernel_rfl) rfl
theorem fo180_0:fieldOff Tryz.prog 180 0=some 0:=by kernel_rfl
theorem twice_any (H:View) (a:Option Addr) (c:Nat) (l:List (List UInt8)) (w:World) (hH:Le H w) (hm:Sl rdStr 1 H a c l) :
   Calls Tryz.prog 33 #[.slice a l.length c] w fun e w'=>e = .returned (.bool (twiceB l))∧Ext w w':=by
 have hcap:=hm.cap
 have hmax:=hm.max
 refine enter Tryz.func33 O 25 O O ?_
 refine CE (Vs:=[H]) (Ws.init (by simp [hH])) ?_
 refine Cs (Cr (V0 (Ya O) (Ln (Et (Cs (Cs (Cr (V0 (Ya O) (Ln (Et (Cb ?_)))))))))))
 refine CW (ι:=Nat) (fun i=>[(3,.int .i64 (i:Int))]) [(0,_)] (fun i=>i≤l.length∧∀i2,i2<i→∀j,j<i2→(l[i2]?.getD []==l[j]?.getD [])=false) (fun i=>l.length-i) 0 ⟨Nat.zero_le _,by simp⟩ (sc O (sc O sn)) ?_
 intro i ⟨hi,hall⟩
 refine Cs (Cs (Cr (V0 (Ym O) (V0 (Ym O) (V0 (Yn es22 O) (V0 (yl_lt O O) (Ln (Et ?_))))))))
 refine Cc O (fun hc0=>?_) (fun hc0=>?_)
 ·
  have hlt:i<l.length:=by simpa using hc0
  obtain ⟨pb,po,ha,hrow0⟩:=hm.elt i (l[i]?.getD []) (by rw [List.getElem?_eq_getElem hlt]; rfl)
  have hrow:vc H pb (po+i*1)=some (st (l[i]?.getD [])):=hrow0 0 _ rfl
  refine Ck (Et (Cs (Cb (Cs (Cr (V0 (Ya O) (Ln (Et (Cb ?_)))))))))
  refine CW (ι:=Nat) (fun j=>[(4,.int .i64 (j:Int))]) [(0,_),(3,_)] (fun j=>j≤i∧∀j2,j2<j→(l[i]?.getD []==l[j2]?.getD [])=false) (fun j=>i-j) 0 ⟨Nat.zero_le _,by simp⟩ (sc O (sc O (sc O sn))) ?_
  intro j ⟨hj,hin⟩
  refine Cs (Cs (Cr (V0 (Ym O) (V0 (Ym O) (V0 (yl_lt O O) (Ln (Et ?_)))))))
  refine Cc O (fun hc1=>?_) (fun hc1=>?_)
  ·
   have hjt:j<i:=by simpa using hc1
   obtain ⟨qb,qo,ha2,hrow0⟩:=hm.elt j (l[j]?.getD []) (by rw [List.getElem?_eq_getElem (by omega)]; rfl)
   have hrow2:vc H qb (qo+j*1)=some (st (l[j]?.getD [])):=hrow0 0 _ rfl
   refine Ck (Et (Cs (Cb (Cs ?_))))
   refine WC.draws0 [(0,true),(1,true),(2,true),(3,true),(4,true),(5,true),(6,true),(7,true),(8,true)] mixed (by kernel_rfl) (fun _ _ _ d _ h=>by cases d<;>exact h) ?_
   refine D0 O (fun _ h=>h) (Ym O) (D0 O (fun _ h=>h) (Ym O) ?_)
   refine D0 O (fun _ h=>h) (Yo es22 O O ha (by omega)) ?_
   refine D0 O (fun _ h=>h) (yl_ld 0 na9 O O (hrow)) (D0 O (fun _ h=>h) (Ym O) (D0 O (fun _ h=>h) (Ym O) ?_))
   refine D0 O (fun _ h=>h) (Yo es22 O O ha2 (by omega)) ?_
   refine D0 O (fun _ h=>h) (yl_ld 0 na9 O O (hrow2)) (D0 O (fun _ h=>h) (yl_eqs O O) ?_)
   refine WD.nil (fun _ h=>h) ?_
   refine Et ?_
   refine Cc O (fun hc2=>?_) (fun hc2=>?_)
   ·
    refine Cs (Cr (V0 (Ya O) (Ln (Et (Crt (Ebr (Er (Er (Ebr (Ebr (Er (Er (Ebr (Er ?_))))))))))))))
    refine R1 O O fun w' hw=>?_
    exact ⟨by rw [twice_yes hlt hjt hc2],hw.fr⟩
   refine Ck (Eb (Et (Cr (V0 (Ym O) ?_))))
   refine V0 (Yi O O O (by omega)) ?_
   refine V0 (Ya O) (Ln ?_)
   exact Ea (j+1) (by omega) ⟨by omega,fun j2 h2=>by rcases Nat.lt_succ_iff_lt_or_eq.1 h2 with h | rfl; exact hin j2 h; exact hc2⟩ (sc rfl (sc rfl (sc rfl sn))) (fun _ h=>h)
  refine Ce (Ex (Ex (Ebh (Eb (Et (Cr (V0 (Ym O) ?_)))))))
  refine V0 (Yi O O O (by omega)) ?_
  refine V0 (Ya O) (Ln ?_)
  exact Ea (i+1) (by omega) ⟨by omega,fun i2 h2 j2 hj2=>by rcases Nat.lt_succ_iff_lt_or_eq.1 h2 with h | rfl; exact hall i2 h j2 hj2; exact hin j2 (by simp at hc1; omega)⟩ (sc rfl (sc rfl sn)) (fun _ h=>h)
 refine Ce (Ex (Ex (Ebh (Et (Cs (Cr (V0 (Ya O) (Ln (Et (Crt ?_))))))))))
 refine R1 O O fun w' hw=>?_
 exact ⟨by rw [twice_no fun i2 h2=>hall i2 (by simp at hc0; omega)],hw.fr⟩
theorem alike_any (H:View) (a:Option Addr) (c:Nat) (l:List (List UInt8)) (w:World) (hH:Le H w) (hm:Sl rdStr 1 H a c l) :
   Calls Tryz.prog 137 #[.slice a l.length c] w fun e w'=>e = .returned (.bool (twiceB l))∧Ext w w':=by
 have hcap:=hm.cap
 have hmax:=hm.max
 refine enter Tryz.func137 O 23 O O ?_
 refine CE (Vs:=[H]) (Ws.init (by simp [hH])) ?_
 refine Cs (Cr (V0 (Ya O) (Ln (Et (Cs (Cr ?_))))))
 refine WL.mkmap Y O fun b6=>?_
 refine V0 (Ya O) (Ln (Et (Cs (Cs (Cr (V0 (Ym O) (V0 (Yn es22 O) (V0 (Ym O) (Ln (Et (Cb ?_)))))))))))
 refine CLk (ι:=Nat) (fun i=>[(9,.int .i64 (i:Int))]) [(0,_),(2,_),(3,_),(7,_),(8,_)] (fun i=>Ws w [] [blk b6 (mobj (iv (aState l i).1) (aState l i).2)] [H]) (fun i=>i≤l.length) (fun i=>l.length-i) 0 (Nat.zero_le _) (sc O (sc O (sc O (sc O (sc O (sc O sn)))))) (fun _ h=>h) ?_
 intro i hi
 refine Cs (Cr (V0 (yl_lt O O) (Ln (Et (Cs ?_)))))
 refine Cc O (fun hc0=>?_) (fun hc0=>?_)
 ·
  have hlt:i<l.length:=by simpa using hc0
  obtain ⟨pb,po,ha,hrow0⟩:=hm.elt i (l[i]?.getD []) (by rw [List.getElem?_eq_getElem hlt]; rfl)
  have hrow:vc H pb (po+i*1)=some (st (l[i]?.getD [])):=hrow0 0 _ rfl
  refine Ck (Et (Cs (Cb (Cs (Cr ?_)))))
  refine V0 (Yo es22 O O ha (by omega)) ?_
  refine V0 (yl_ld 0 na9 O O (hrow)) (V0 (Ya O) (Ln (Et (Cr (V0 (Ym O) (V0 (Ym O) (V0 (yl_mlook 0 um64 us9 zr3 O O O) ?_)))))))
  rw [mget_iv]
  refine V0 (yl_addw O O) ?_
  refine WL.mset 0 Y um64 us9 O O O O ?_
  rw [mput_iv,mclock_iv]
  refine Ln (Eb (Et (Cr ?_)))
  refine V0 (Yi O O O (by omega)) ?_
  refine V0 (Ym O) (Ln ?_)
  exact Ea (i+1) (by omega) (by omega) (sc O (sc O (sc O (sc O (sc O (sc O sn)))))) (fun _ h=>h)
 have hie:i=l.length:=by simp at hc0; omega
 subst hie
 refine Ce (Ex (Ex (Ebh (Et (Cs (Cr (V0 (Ym O) (V0 (yl_mlen 0 um64 O O) (V0 (Ym O) (V0 (Yn es22 O) ?_))))))))))
 refine V0 (yl_lt O O) (V0 (Ya O) (Ln (Et (Crt ?_))))
 refine R1 O O fun w' hw=>?_
 exact ⟨by rw [←alike_twice]; simp [iv],hw.fr⟩
theorem item_any (x:FItem) (w:World) :
   Calls Tryz.prog 138 #[.agg #[.int .i64 x.kind,.int .i64 x.n,.int .i64 x.pl,st x.name]] w fun e w'=>e = .returned (.bool (itemOk x))∧Ext w w':=by
 refine enter Tryz.func138 O 42 O O ?_
 refine CE (Vs:=[]) (Ws.init (by simp)) ?_
 refine Cs (Cr ?_)
 refine WL.box Y O O fun b1=>?_
 refine V0 (Ya O) (Ln (Et (Cs (Cr (V0 (Ya O) (V0 (Ya O) (Ln (Et (Cs (Cr (V0 (Ya O) ?_)))))))))))
 refine Ln (Et (Cs (Cs (Cr (V0 (Yf fo232_0 O) (V0 (Yd 0 O O O na3) (Ln (Et (Cb (Cs (Cr (V0 (yl_eq O O) (V0 (Ya O) ?_)))))))))))))
 refine Ln (Et ?_)
 refine Cc O (fun hc0=>?_) (fun hc0=>?_)
 ·
  refine Cr (V0 (Ya O) (Ln (Eb (Et (Cs (Cr (V0 (Yf fo232_3 O) (V0 (Yd 0 O O O na9) ?_))))))))
  refine Lp Y O en29 O (fun w hw=>lexName_any _ w) ?_
  refine V0 (Ym O) ?_
  apply La 4 O O O O Y O O O O O
  ·
   intro hg0
   refine Vg (Yf fo232_1 O) (Vg (Yd 0 O O O na3) (Vg (Ym O) (Vg (yl_ge O O) ?_)))
   exact Gt 4 O O O
  refine V0 (Ym O) ?_
  apply La 4 O O O O Y O O O O O
  ·
   intro hg1
   refine Vg (Yf fo232_1 O) (Vg (Yd 0 O O O na3) (Vg (Ym O) (Vg (yl_le O O) ?_)))
   exact Gt 4 O O O
  refine V0 (Ym O) ?_
  apply La 3 O O O O Y O O O O O
  ·
   intro hg2
   refine Vg (Yf fo232_2 O) (Vg (Yd 0 O O O na3) (Vg (yl_ge O O) ?_))
   exact Gt 3 O O O
  refine V0 (Ym O) ?_
  apply La 4 O O O O Y O O O O O
  ·
   intro hg3
   refine Vg (Yf fo232_2 O) (Vg (Yd 0 O O O na3) (Vg (Ym O) (Vg (yl_le O O) ?_)))
   exact Gt 4 O O O
  refine V0 (Ya O) (Ln (Et (Crt ?_)))
  refine R1 O O fun w' hw=>?_
  have hk:x.kind=1:=by simpa using hc0
  exact ⟨by rw [item_kind (by simp [hk])],hw.fr⟩
 refine Cs (Cr (V0 (yl_eq O O) (V0 (Ya O) (Ln (Et ?_)))))
 refine Cc O (fun hc1=>?_) (fun hc1=>?_)
 ·
  refine Cr (V0 (Ya O) (Ln (Eb (Et (Cs (Cr (V0 (Yf fo232_3 O) (V0 (Yd 0 O O O na9) ?_))))))))
  refine Lp Y O en29 O (fun w hw=>lexName_any _ w) ?_
  refine V0 (Ym O) ?_
  apply La 4 O O O O Y O O O O O
  ·
   intro hg0
   refine Vg (Yf fo232_1 O) (Vg (Yd 0 O O O na3) (Vg (Ym O) (Vg (yl_ge O O) ?_)))
   exact Gt 4 O O O
  refine V0 (Ym O) ?_
  apply La 4 O O O O Y O O O O O
  ·
   intro hg1
   refine Vg (Yf fo232_1 O) (Vg (Yd 0 O O O na3) (Vg (Ym O) (Vg (yl_le O O) ?_)))
   exact Gt 4 O O O
  refine V0 (Ym O) ?_
  apply La 3 O O O O Y O O O O O
  ·
   intro hg2
   refine Vg (Yf fo232_2 O) (Vg (Yd 0 O O O na3) (Vg (yl_ge O O) ?_))
   exact Gt 3 O O O
  refine V0 (Ym O) ?_
  apply La 4 O O O O Y O O O O O
  ·
   intro hg3
   refine Vg (Yf fo232_2 O) (Vg (Yd 0 O O O na3) (Vg (Ym O) (Vg (yl_le O O) ?_)))
   exact Gt 4 O O O
  refine V0 (Ya O) (Ln (Et (Crt ?_)))
  refine R1 O O fun w' hw=>?_
  have hk:x.kind=2:=by simpa using hc1
  exact ⟨by rw [item_kind (by simp [hk])],hw.fr⟩
 refine Cs (Cr (V0 (yl_eq O O) (V0 (Ya O) (Ln (Et ?_)))))
 refine Cc O (fun hc2=>?_) (fun hc2=>?_)
 ·
  refine Cr (V0 (Ya O) (V0 (Ya O) (Ln (Eb (Et (Cs (Cr (V0 (Yf fo232_3 O) (V0 (Yd 0 O O O na9) ?_)))))))))
  refine Lp Y O en29 O (fun w hw=>lexName_any _ w) ?_
  refine V0 (Ym O) ?_
  apply La 4 O O O O Y O O O O O
  ·
   intro hg0
   refine Vg (Yf fo232_1 O) (Vg (Yd 0 O O O na3) (Vg (Ym O) (Vg (yl_ge O O) ?_)))
   exact Gt 4 O O O
  refine V0 (Ym O) ?_
  apply La 4 O O O O Y O O O O O
  ·
   intro hg1
   refine Vg (Yf fo232_1 O) (Vg (Yd 0 O O O na3) (Vg (Ym O) (Vg (yl_le O O) ?_)))
   exact Gt 4 O O O
  refine V0 (Ym O) ?_
  apply La 3 O O O O Y O O O O O
  ·
   intro hg2
   refine Vg (Yf fo232_2 O) (Vg (Yd 0 O O O na3) (Vg (yl_ge O O) ?_))
   exact Gt 3 O O O
  refine V0 (Ym O) ?_
  apply La 4 O O O O Y O O O O O
  ·
   intro hg3
   refine Vg (Yf fo232_2 O) (Vg (Yd 0 O O O na3) (Vg (Ym O) (Vg (yl_le O O) ?_)))
   exact Gt 4 O O O
  refine V0 (Ya O) (Ln (Et (Crt ?_)))
  refine R1 O O fun w' hw=>?_
  have hk:x.kind=3:=by simpa using hc2
  exact ⟨by rw [item_kind (by simp [hk])],hw.fr⟩
 refine Cs (Cr (V0 (yl_eq O O) (V0 (Ya O) (Ln (Et ?_)))))
 refine Cc O (fun hc3=>?_) (fun hc3=>?_)
 ·
  refine Cr (V0 (Ya O) (Ln (Eb (Et (Cs (Cr (V0 (Yf fo232_3 O) (V0 (Yd 0 O O O na9) ?_))))))))
  refine Lp Y O en29 O (fun w hw=>lexName_any _ w) ?_
  refine V0 (Ym O) ?_
  apply La 4 O O O O Y O O O O O
  ·
   intro hg0
   refine Vg (Yf fo232_1 O) (Vg (Yd 0 O O O na3) (Vg (Ym O) (Vg (yl_ge O O) ?_)))
   exact Gt 4 O O O
  refine V0 (Ym O) ?_
  apply La 4 O O O O Y O O O O O
  ·
   intro hg1
   refine Vg (Yf fo232_1 O) (Vg (Yd 0 O O O na3) (Vg (Ym O) (Vg (yl_le O O) ?_)))
   exact Gt 4 O O O
  refine V0 (Ym O) ?_
  apply La 3 O O O O Y O O O O O
  ·
   intro hg2
   refine Vg (Yf fo232_2 O) (Vg (Yd 0 O O O na3) (Vg (yl_ge O O) ?_))
   exact Gt 3 O O O
  refine V0 (Ym O) ?_
  apply La 4 O O O O Y O O O O O
  ·
   intro hg3
   refine Vg (Yf fo232_2 O) (Vg (Yd 0 O O O na3) (Vg (Ym O) (Vg (yl_le O O) ?_)))
   exact Gt 4 O O O
  refine V0 (Ya O) (Ln (Et (Crt ?_)))
  refine R1 O O fun w' hw=>?_
  have hk:x.kind=4:=by simpa using hc3
  exact ⟨by rw [item_kind (by simp [hk])],hw.fr⟩
 refine Cs (Cr (V0 (Ya O) (Ln (Et (Crt (Ebr (Er ?_)))))))
 refine R1 O O fun w' hw=>?_
 simp at hc0 hc1 hc2 hc3
 exact ⟨by rw [item_none hc0 hc1 hc2 hc3],hw.fr⟩
theorem scopeCheck_any (H:View) (a:Option Addr) (c:Nat) (name:List UInt8) (items:List FItem) (w:World) (hH:Le H w) (hm:Sl rdItem 4 H a c items) :
   Calls Tryz.prog 116 #[.agg #[st name,.slice a items.length c]] w fun e w'=>e = .returned (.int .i64 (faceE name items))∧Ext w w':=by
 have hcap:=hm.cap
 have hmax:=hm.max
 refine enter Tryz.func116 O 34 O O ?_
 refine CE (Vs:=[H]) (Ws.init (by simp [hH])) ?_
 refine Cs (Cr ?_)
 refine WL.box Y O O fun b1=>?_
 refine V0 (Ya O) (Ln (Et (Cs (Cs (Cr (V0 (Yf fo180_1 O) (V0 (Yd 0 O O O na178) (V0 (Yn es178 O) (V0 (yl_gt O O) ?_)))))))))
 refine Ln (Et ?_)
 refine Cc O (fun hc0=>?_) (fun hc0=>?_)
 ·
  have h16:16<items.length:=by simp at hc0; omega
  refine Cs (Cr (V0 (Ya O) (Ln (Et (Crt (Er ?_))))))
  refine R1 O O fun w' hw=>?_
  exact ⟨by rw [faceE,if_pos h16],hw.fr⟩
 have h16:¬16<items.length:=by simp at hc0; omega
 refine Ck (Et (Cs (Cr (V0 (Ya O) ?_))))
 refine LW (fun _ h=>h.osl_nil 9 1) ?_
 refine Ln (Et (Cs (Cs (Cr (V0 (Yf fo180_1 O) (V0 (Yd 1 O O O na178) (V0 (Yn es178 O) (V0 (Ym O) (Ln (Et (Cb ?_)))))))))))
 refine CLk (ι:=Nat×Option Addr×Nat) (fun g=>[(13,.int .i64 (g.1:Int)),(3,.slice g.2.1 ((items.take g.1).map (·.name)).length g.2.2)]) [(1,_),(11,_),(12,_)] (fun g=>Ws w [] [osT 9 1 strC g.2.1 g.2.2 ((items.take g.1).map (·.name)),blk b1 (.cells (Value.agg #[st name,.slice a items.length c]).cells 180 (0,0))] [H]) (fun g=>g.1≤items.length∧∀j x,j<g.1→items[j]? = some x→itemOk x=true) (fun g=>items.length-g.1) (0,none,0) ⟨Nat.zero_le _,by simp⟩ (sc O (sc O (sc O (sc O (sc O sn))))) (fun _ h=>h) ?_
 intro g ⟨hi,hall⟩
 refine Cs (Cr (V0 (yl_lt O O) (Ln (Et (Cs ?_)))))
 refine Cc O (fun hc1=>?_) (fun hc1=>?_)
 ·
  have hlt:g.1<items.length:=by simpa using hc1
  obtain ⟨x,hx⟩:∃x,items[g.1]? = some x:=⟨_,List.getElem?_eq_getElem hlt⟩
  obtain ⟨pb,po,ha,hrow⟩:=hm.elt g.1 x hx
  have hrow:RdC H pb (po+g.1*4) x.cells:=hrow
  have hT:(items.take (g.1+1)).map (·.name)=(items.take g.1).map (·.name)++[x.name]:=by rw [List.take_add_one,hx]; simp
  have hL:((items.take g.1).map (·.name)).length=g.1:=by simp; omega
  refine Ck (Et (Cs (Cb (Cs (Cr ?_)))))
  refine V0 (Yo es178 O O ha (by omega)) ?_
  refine V0 (yl_lda 0 ag232 O O O (hrow)) ?_
  refine Al Y O zr232 fun b5=>?_
  refine Lst 0 Y O O O sz232 O O O (Ln (Et (Cs (Cs (Cr (V0 (Yda 0 O O ag232 O) ?_))))))
  refine Lp Y O en138 O (fun w hw=>item_any x w) ?_
  refine V0 (yl_not O) (Ln (Et ?_))
  refine Cc O (fun hc2=>?_) (fun hc2=>?_)
  ·
   have hno:=fall_no hx (by simpa using hc2)
   refine Cs (Cr (V0 (Ya O) (Ln (Et (Crt (Er (Ebr (Er (Er (Ebr (Er ?_)))))))))))
   refine R1 O O fun w' hw=>?_
   exact ⟨by rw [faceE,if_neg h16,hno]; rfl,hw.fr⟩
  have hok:itemOk x=true:=by simpa using hc2
  refine Ck (Et (Cr (V0 (Ym O) (V0 (Yf fo232_3 O) (V0 (Yd 0 O O O na9) ?_)))))
  refine Lb Y O el22 O O O O fun b23=>?_
  refine Lrb 0 (.cells (strC x.name).toArray 9 (0,0)) O (O) ?_
  refine LA (x.name) 2 0 Y O el22 O O O O O O (by omega) (by omega) fun a24 c24=>?_
  refine V0 (Ya O) (Ln (Eb (Et (Cr ?_))))
  refine V0 (Yi O O O (by omega)) ?_
  refine V0 (Ym O) (Ln ?_)
  rw [←hT]
  exact Ea ((g.1+1,a24,c24):Nat×Option Addr×Nat) (by first | omega | (dsimp only; omega)) ⟨by first | omega | (dsimp only; omega),fun j y hj hy=>by
      rcases Nat.lt_succ_iff_lt_or_eq.1 hj with h | h
      · exact hall j y h hy
      · subst h; rw [hx] at hy; injection hy with hy; subst hy; exact hok⟩ (sc rfl (sc rfl (sc rfl (sc rfl (sc rfl sn))))) (fun _ h=>Wd 2 h)
 have hie:g.1=items.length:=by simp at hc1; omega
 rw [hie,List.take_length]
 refine Ce (Ex (Ex (Ebh (Et (Cs (Cs ?_))))))
 refine WC.oslview (rd:=rdStr) 0 O strC_len (fun _ _ _ _ h=>h) fun HN hHN=>?_
 refine Cr (V0 (Ym O) ?_)
 refine Lp Y O en137 O (fun w hw=>by
     have:=alike_any HN g.2.1 g.2.2 (items.map (·.name)) w (hw.vs _ (by simp)) hHN
     exact this) ?_
 refine V0 (Ym O) ?_
 apply Lo 4 O O O O Y O O O O O
 ·
  intro hg0
  refine Vg (Yf fo180_0 O) (Vg (Yd 0 O O O na9) ?_)
  refine Lp (.g O O O) O en29 O (fun w hw=>lexName_any _ w) ?_
  refine Vg (yl_not O) ?_
  exact Gt 4 O O O
 refine Ln (Et ?_)
 refine Cc O (fun hc3=>?_) (fun hc3=>?_)
 ·
  refine Cs (Cr (V0 (Ya O) (Ln (Et (Crt (Er ?_))))))
  refine R1 O O fun w' hw=>?_
  have hy:=fall_yes fun j y hy=>hall j y (by have:=(List.getElem?_eq_some_iff.1 hy).1; omega) hy
  exact ⟨by rw [faceE,if_neg h16,hy,hc3]; rfl,hw.fr⟩
 refine Ck (Et (Cs (Cr (V0 (Ya O) (Ln (Et (Crt ?_)))))))
 refine R1 O O fun w' hw=>?_
 have hy:=fall_yes fun j y hy=>hall j y (by have:=(List.getElem?_eq_some_iff.1 hy).1; omega) hy
 exact ⟨by rw [faceE,if_neg h16,hy,hc3]; rfl,hw.fr⟩
theorem mOk {m:TMod} (h:checkM m=0):OkM m:=okM (checkM_tot.1 h)
theorem dSz_bd {d:TDecl} (h:OkD d):0≤dSz d∧dSz d≤32:=by
 unfold dSz
 have h3:=h.n3
 split
 · omega
 · split
   · rename_i hk; have:=h3 hk; omega
   · omega
theorem dSum_bd:∀{l:List TDecl},(∀d ∈ l,(declC d).tot=0)→0≤dSum l∧dSum l≤32*(l.length:Int)
 | [],_=>by simp [dSum]
 | d::l,h=>by
   have h1:=dSz_bd (okD (h d (by simp)))
   have h2:=dSum_bd (l:=l) fun x hx=>h x (List.mem_cons_of_mem _ hx)
   simp only [dSum,List.length_cons]
   omega
theorem dSum_take {m:TMod} (ho:OkM m) (i:Nat):0≤dSum (m.decls.take i)∧dSum (m.decls.take i)≤320:=by
 have h:=dSum_bd (l:=m.decls.take i) fun d hd=>ho.decls d (List.mem_of_mem_take hd)
 have h1:=ho.few.2.1
 have h2:((m.decls.take i).length:Int)≤10:=by rw [List.length_take]; omega
 omega
theorem item_1 {d:TDecl} {a:Int} (h:d.kind=1):FItem.cells (declItem a d)=[.int .i64 d.kind,.int .i64 d.n,.int .i64 0,st d.nm]:=by rw [declItem,if_pos h]; rfl
theorem item_n {d:TDecl} {a:Int} (h:¬d.kind=1):FItem.cells (declItem a d)=[.int .i64 d.kind,.int .i64 d.n,.int .i64 a,st d.nm]:=by rw [declItem,if_neg h]; rfl
theorem dSz_1 {d:TDecl} (h:d.kind=1):dSz d=0:=by rw [dSz,if_neg (by omega),if_neg (by omega)]
theorem dSz_2 {d:TDecl} (h:d.kind=2):dSz d=1:=by rw [dSz,if_pos h]
theorem dSz_3 {d:TDecl} (h:d.kind=3):dSz d=d.n:=by rw [dSz,if_neg (by omega),if_pos h]
theorem pl232:placesP Tryz.prog 232=some [(0,1),(1,1),(2,1),(3,1)]:=by kernel_rfl
theorem el178:EltOk Tryz.prog 178 232 (.agg #[.int .i64 0,.int .i64 0,.int .i64 0,st []]) 4 40:=eltOk_of (by kernel_rfl)
theorem items_any (H:View) (ke ks:Nat) (r:MAt) (m:TMod) (w:World) (hH:Le H w) (hm:RdM ke ks H r m) (ho:OkM m) :
   Calls Tryz.prog 113 #[.agg (modV m r).toArray] w fun e w'=>∃r:SP,e = .returned (.tuple #[.slice r.1 (itemsM m).length r.2,.int .i64 (dataM m)])∧Ext w w'∧Sl rdItem 4 (nv w w') r.1 r.2 (itemsM m):=by
 have few:=ho.few
 have xd:=hm.decls.max
 have yd:=hm.decls.cap
 have xp:=hm.procs.max
 have yp:=hm.procs.cap
 refine enter Tryz.func113 O 67 O O ?_
 refine CE (Vs:=[H]) (Ws.init (by simp [hH])) ?_
 refine Cs (Cr ?_)
 refine WL.box Y O O fun b1=>?_
 refine V0 (Ya O) (V0 (Ya O) (Ln (Et (Cs (Cr (V0 (Ya O) ?_))))))
 refine LW (fun _ h=>h.osl_nil 232 4) ?_
 refine Ln (Et (Cs (Cr (V0 (Ya O) (Ln (Et (Cs (Cs (Cr (V0 (Yf fo174_2 O) (V0 (Yd 1 O O O na170) (V0 (Yn es170 O) ?_))))))))))))
 refine V0 (Ym O) (Ln (Et (Cb ?_)))
 refine CLk (ι:=Nat×Option Addr×Nat) (fun g=>[(14,.int .i64 (g.1:Int)),(4,.slice g.2.1 (declsI (m.decls.take g.1) 0).length g.2.2),(5,.int .i64 (dSum (m.decls.take g.1)))]) [(1,_),(2,_),(3,_),(12,_),(13,_)] (fun g=>Ws w [] [osT 232 4 FItem.cells g.2.1 g.2.2 (declsI (m.decls.take g.1) 0),blk b1 (.cells (modV m r).toArray 174 (0,0))] [H]) (fun g=>g.1≤m.decls.length) (fun g=>m.decls.length-g.1) (0,none,0) (Nat.zero_le _) (sc O (sc O (sc O (sc O (sc O (sc O (sc O (sc O sn)))))))) (fun _ h=>h) ?_
 intro g hi
 refine Cs (Cr (V0 (yl_lt O O) (Ln (Et (Cs ?_)))))
 refine Cc O (fun hc0=>?_) (fun hc0=>?_)
 ·
  have hlt:g.1<m.decls.length:=by simpa using hc0
  obtain ⟨d,hdi⟩:∃q,m.decls[g.1]? = some q:=⟨_,List.getElem?_eq_getElem hlt⟩
  obtain ⟨pbd,pod,had,hrd⟩:=hm.decls.elt g.1 d hdi
  have hrd:RdC H pbd (pod+g.1*4) d.cells:=hrd
  have od:=okD (ho.decls d (List.mem_of_getElem? hdi))
  have hTk:m.decls.take (g.1+1)=m.decls.take g.1++[d]:=take_snoc hdi
  have hI:declsI (m.decls.take (g.1+1)) 0=declsI (m.decls.take g.1) 0++[declItem (dSum (m.decls.take g.1)) d]:=by rw [hTk,declsI_snoc,Int.zero_add]
  have hS:dSum (m.decls.take (g.1+1))=dSum (m.decls.take g.1)+dSz d:=by rw [hTk,dSum_snoc]
  have hbd:=dSum_take ho g.1
  have hbd2:=dSum_take ho (g.1+1)
  have hlD:(declsI (m.decls.take g.1) 0).length=g.1:=by rw [declsI_len,List.length_take]; omega
  have hn3:=od.n3
  refine Ck (Et (Cs (Cb (Cs (Cr ?_)))))
  refine V0 (Yo es170 O O had (by omega)) ?_
  refine V0 (yl_lda 0 ag217 O O O (hrd)) ?_
  refine Al Y O zr217 fun b7=>?_
  refine Lst 0 Y O O O sz217 O O O (Ln (Et (Cs (Cr (V0 (Yf fo217_0 O) (V0 (Yd 0 O O O na3) (V0 (Yf fo217_3 O) (V0 (Yd 0 O O O na3) ?_))))))))
  refine V0 (Yf fo217_1 O) (V0 (Yd 0 O O O na9) (V0 (Yb zr232 pl232 O O) ?_))
  refine Al Y O zr232 fun b8=>?_
  refine Lst 0 Y O O O sz232 O O O (Ln (Et (Cs (Cs (Cr (V0 (Yf fo217_0 O) (V0 (Yd 1 O O O na3) (Ln (Et (Cb (Cs (Cr (V0 (yl_eq O O) ?_)))))))))))))
  refine V0 (Ya O) (Ln (Et ?_))
  refine Cc O (fun hc1=>?_) (fun hc1=>?_)
  ·
   have hk2:d.kind=2:=by simpa using hc1
   have hz:=dSz_2 hk2
   refine Cs (Cr (V0 (Ym O) (V0 (Yf fo232_2 O) (Lst 0 Y O O O sz3 O O O (Ln (Et (Cr (V0 (Ym O) ?_))))))))
   refine V0 (yl_addv (dSum (m.decls.take (g.1+1))) O O (by rw [hS,hz]) (by omega)) ?_
   refine V0 (Ya O) (Ln (Eb (Et (Cr (V0 (Ym O) (V0 (Yda 0 O O ag232 O) ?_))))))
   refine Lb Y O el178 O O O O fun b43=>?_
   refine Lrb 0 (.cells (FItem.cells (declItem (dSum (m.decls.take g.1)) d)).toArray 232 (0,0)) O (by rw [item_n (by omega)]; rfl) ?_
   refine LA (declItem (dSum (m.decls.take g.1)) d) 3 0 Y O el178 O O O O O O (by omega) (by omega) fun a44 c44=>?_
   refine V0 (Ya O) (Ln (Eb (Et (Cr ?_))))
   refine V0 (Yi O O O (by omega)) ?_
   refine V0 (Ym O) (Ln ?_)
   rw [←hI]
   exact Ea ((g.1+1,a44,c44):Nat×Option Addr×Nat) (by first | omega | (dsimp only; omega)) (by first | omega | (dsimp only; omega)) (sc O (sc O (sc O (sc O (sc O (sc O (sc O (sc O sn)))))))) (fun _ h=>Wd 3 h)
  have hk2:¬d.kind=2:=by simpa using hc1
  refine Cs (Cr (V0 (yl_eq O O) (V0 (Ya O) (Ln (Et ?_)))))
  refine Cc O (fun hc2=>?_) (fun hc2=>?_)
  ·
   have hk3:d.kind=3:=by simpa using hc2
   have hz:=dSz_3 hk3
   refine Cs (Cr (V0 (Ym O) (V0 (Yf fo232_2 O) (Lst 0 Y O O O sz3 O O O (Ln (Et (Cr (V0 (Ym O) ?_))))))))
   refine V0 (Yf fo217_3 O) (V0 (Yd 1 O O O na3) ?_)
   refine V0 (yl_addv (dSum (m.decls.take (g.1+1))) O O (by rw [hS,hz]) (by omega)) ?_
   refine V0 (Ya O) (Ln (Eb (Et (Cr (V0 (Ym O) (V0 (Yda 0 O O ag232 O) ?_))))))
   refine Lb Y O el178 O O O O fun b43=>?_
   refine Lrb 0 (.cells (FItem.cells (declItem (dSum (m.decls.take g.1)) d)).toArray 232 (0,0)) O (by rw [item_n (by omega)]; rfl) ?_
   refine LA (declItem (dSum (m.decls.take g.1)) d) 3 0 Y O el178 O O O O O O (by omega) (by omega) fun a44 c44=>?_
   refine V0 (Ya O) (Ln (Eb (Et (Cr ?_))))
   refine V0 (Yi O O O (by omega)) ?_
   refine V0 (Ym O) (Ln ?_)
   rw [←hI]
   exact Ea ((g.1+1,a44,c44):Nat×Option Addr×Nat) (by first | omega | (dsimp only; omega)) (by first | omega | (dsimp only; omega)) (sc O (sc O (sc O (sc O (sc O (sc O (sc O (sc O sn)))))))) (fun _ h=>Wd 3 h)
  have hk3:¬d.kind=3:=by simpa using hc2
  have hk1:d.kind=1:=by have:=od.kind; omega
  have hz:=dSz_1 hk1
  have hS0:dSum (m.decls.take (g.1+1))=dSum (m.decls.take g.1):=by rw [hS,hz]; omega
  refine Ck (Eb (Et (Cr (V0 (Ym O) (V0 (Yda 0 O O ag232 O) ?_)))))
  refine Lb Y O el178 O O O O fun b43=>?_
  refine Lrb 0 (.cells (FItem.cells (declItem (dSum (m.decls.take g.1)) d)).toArray 232 (0,0)) O (by rw [item_1 hk1]; rfl) ?_
  refine LA (declItem (dSum (m.decls.take g.1)) d) 3 0 Y O el178 O O O O O O (by omega) (by omega) fun a44 c44=>?_
  refine V0 (Ya O) (Ln (Eb (Et (Cr ?_))))
  refine V0 (Yi O O O (by omega)) ?_
  refine V0 (Ym O) (Ln ?_)
  rw [←hI]
  rw [←hS0]
  exact Ea ((g.1+1,a44,c44):Nat×Option Addr×Nat) (by first | omega | (dsimp only; omega)) (by first | omega | (dsimp only; omega)) (sc O (sc O (sc O (sc O (sc O (sc O (sc O (sc O sn)))))))) (fun _ h=>Wd 3 h)
 have hge:g.1=m.decls.length:=by simp at hc0; omega
 rw [hge,List.take_length]
 clear hge hc0 hi
 refine Ce (Ex (Ex (Ebh (Et (Cs (Cs (Cr (V0 (Yf fo174_3 O) (V0 (Yd 1 O O O na171) (V0 (Yn es171 O) (V0 (Ym O) ?_)))))))))))
 refine Ln (Et (Cb ?_))
 rw [show declsI m.decls 0=declsI m.decls 0++procsI (m.procs.take 0) 0 by simp [procsI]]
 refine CLk (ι:=Nat×Option Addr×Nat) (fun g=>[(49,.int .i64 (g.1:Int)),(4,.slice g.2.1 (declsI m.decls 0++procsI (m.procs.take g.1) 0).length g.2.2)]) [(2,_),(3,_),(5,_),(47,_),(48,_)] (fun g=>Ws w [] [osT 232 4 FItem.cells g.2.1 g.2.2 (declsI m.decls 0++procsI (m.procs.take g.1) 0),blk b1 (.cells (modV m r).toArray 174 (0,0))] [H]) (fun g=>g.1≤m.procs.length) (fun g=>m.procs.length-g.1) (0,g.2.1,g.2.2) (Nat.zero_le _) (sc O (sc O (sc O (sc O (sc O (sc O (sc O sn))))))) (fun _ h=>h) ?_
 clear g
 intro g hi
 refine Cs (Cr (V0 (yl_lt O O) (Ln (Et (Cs ?_)))))
 refine Cc O (fun hc3=>?_) (fun hc3=>?_)
 ·
  have hlt:g.1<m.procs.length:=by simpa using hc3
  obtain ⟨p,hpi⟩:∃q,m.procs[g.1]? = some q:=⟨_,List.getElem?_eq_getElem hlt⟩
  obtain ⟨pbp,pop,hap,hrp⟩:=hm.procs.elt g.1 p hpi
  obtain ⟨pa1,pc1,pa2,pc2,pa3,pc3,hrow,hs1,hs2,hs3⟩:=hrp
  have hx1:=hs1.max
  have hy1:=hs1.cap
  have hTp:m.procs.take (g.1+1)=m.procs.take g.1++[p]:=take_snoc hpi
  have hI:declsI m.decls 0++procsI (m.procs.take (g.1+1)) 0=(declsI m.decls 0++procsI (m.procs.take g.1) 0)++[procItem g.1 p]:=by
    rw [hTp,procsI_snoc,List.append_assoc,Nat.zero_add,List.length_take,Nat.min_eq_left (by omega)]
  have hlI:(declsI m.decls 0++procsI (m.procs.take g.1) 0).length≤16:=by rw [List.length_append,declsI_len,procsI_len,List.length_take]; omega
  refine Ck (Et (Cs (Cb (Cs (Cr (V0 (Ym O) ?_))))))
  refine V0 (Yo es171 O O hap (by omega)) ?_
  refine V0 (yl_lda 0 ag213 O O O (hrow)) ?_
  refine Al Y O zr213 fun b10=>?_
  refine V0 (Ya O) (Lst 0 Y O O O sz213 O O O (Ln (Et (Cr (V0 (Ym O) (V0 (Yf fo213_2 O) (V0 (Yd 0 O O O na22) ?_)))))))
  refine V0 (Yn es22 O) (V0 (Ym O) (V0 (Yf fo213_0 O) (V0 (Yd 0 O O O na9) (V0 (Yb zr232 pl232 O O) ?_))))
  refine Lb Y O el178 O O O O fun b62=>?_
  refine Lrb 0 (.cells (FItem.cells (procItem g.1 p)).toArray 232 (0,0)) O (O) ?_
  refine LA (procItem g.1 p) 2 0 Y O el178 O O O O O O (by omega) (by omega) fun a63 c63=>?_
  refine V0 (Ya O) (Ln (Eb (Et (Cr ?_))))
  refine V0 (Yi O O O (by omega)) ?_
  refine V0 (Ym O) (Ln ?_)
  rw [←hI]
  exact Ea ((g.1+1,a63,c63):Nat×Option Addr×Nat) (by first | omega | (dsimp only; omega)) (by first | omega | (dsimp only; omega)) (sc O (sc O (sc O (sc O (sc O (sc O (sc O sn))))))) (fun _ h=>Wd 2 h)
 have hge:g.1=m.procs.length:=by simp at hc3; omega
 rw [hge,List.take_length]
 refine Ce (Ex (Ex (Ebh (Et (Cs (Cr (V0 (Ym O) (V0 (Ym O) (V0 (Ya O) (V0 (Ya O) ?_))))))))))
 refine Ln (Et (Crt ?_))
 refine WE.ret2 O O O fun w' hw=>?_
 exact ⟨(g.2.1,g.2.2),O,hw.fr,hw.slT 0 O FItem.cells_len (fun _ _ _ _ h=>h)⟩
theorem pubs_at {m:TMod} {i:Nat} {p:TProc} (h:m.procs[i]? = some p):m.decls.map (·.pub)++(m.procs.take (i+1)).map (·.pub)=(m.decls.map (·.pub)++(m.procs.take i).map (·.pub))++[p.pub]:=by rw [take_snoc h]; simp
theorem pubsD_at {m:TMod} {i:Nat} {d:TDecl} (h:m.decls[i]? = some d):(m.decls.take (i+1)).map (·.pub)=(m.decls.take i).map (·.pub)++[d.pub]:=by rw [take_snoc h]; simp
theorem faceM_err {m:TMod} (h:¬checkM m=0):faceM m=(([],[]),checkM m):=by rw [faceM,if_pos h]
theorem faceM_twice {m:TMod} (h:checkM m=0) (h2:(twiceB ((itemsM m).map (·.name))||twiceB m.uses)=true):faceM m=(([],[]),6):=by rw [faceM,if_neg (by simp [h]),if_pos h2]
theorem faceM_ok {m:TMod} (h:checkM m=0) (h2:(twiceB ((itemsM m).map (·.name))||twiceB m.uses)=false):faceM m=((m.nm,pubI (itemsM m) (pubsM m)),0):=by rw [faceM,if_neg (by simp [h]),if_neg (by simp [h2])]
def FQ (m:TMod) (i:Nat):List FItem:=pubI ((itemsM m).take i) ((pubsM m).take i)
theorem FQ_all (m:TMod):FQ m (itemsM m).length=pubI (itemsM m) (pubsM m):=by
 unfold FQ
 rw [List.take_length,itemsM_len,←pubsM_len,List.take_length]
theorem FQ_step {m:TMod} {i:Nat} {x:FItem} {p:Bool} (h1:(itemsM m)[i]? = some x) (h2:(pubsM m)[i]? = some p):FQ m (i+1)=FQ m i++(if p=true then [x] else []):=pubI_take (by rw [itemsM_len,pubsM_len]) h1 h2
theorem FQ_le (m:TMod) (i:Nat):(FQ m i).length≤i:=by
 have:=pubI_le ((itemsM m).take i) ((pubsM m).take i)
 simp at this
 show (pubI _ _).length≤i
 omega
structure GF where
 i:Nat
 n:SP
 f:SP
theorem fo217_2:fieldOff Tryz.prog 217 2=some 2:=by kernel_rfl
theorem el248:EltOk Tryz.prog 248 4 (.bool false) 1 1:=eltOk_of (by kernel_rfl)
theorem fo213_1:fieldOff Tryz.prog 213 1=some 1:=by kernel_rfl
theorem zr180:zeroOf Tryz.prog 180=some (.agg #[st [],.slice none 0 0]):=by kernel_rfl
theorem pl180:placesP Tryz.prog 180=some [(0,1),(1,1)]:=by kernel_rfl
theorem sz180:sizeP Tryz.prog 180=some 2:=by kernel_rfl
theorem ag180:aggOf Tryz.prog 180=some 2:=by kernel_rfl
theorem en113:Enters Tryz.prog 113:=enters_of Tryz.func113 (by kernel_rfl) rfl
theorem en136:Enters Tryz.prog 136:=enters_of Tryz.func136 (by kernel_rfl) rfl
theorem es248:elemSz Tryz.prog 248=some 1:=by kernel_rfl
theorem sz178:sizeP Tryz.prog 178=some 1:=by kernel_rfl
theorem pubs_any (H:View) (ke ks:Nat) (r:MAt) (m:TMod) (w:World) (hH:Le H w) (hm:RdM ke ks H r m) (ho:OkM m) :
   Calls Tryz.prog 136 #[.agg (modV m r).toArray] w fun e w'=>∃r:SP,e = .returned (.slice r.1 (pubsM m).length r.2)∧Ext w w'∧Sl rdBool 1 (nv w w') r.1 r.2 (pubsM m):=by
 have few:=ho.few
 have xd:=hm.decls.max
 have yd:=hm.decls.cap
 have xp:=hm.procs.max
 have yp:=hm.procs.cap
 refine enter Tryz.func136 O 35 O O ?_
 refine CE (Vs:=[H]) (Ws.init (by simp [hH])) ?_
 refine Cs (Cr ?_)
 refine WL.box Y O O fun b1=>?_
 refine V0 (Ya O) (Ln (Et (Cs (Cr (V0 (Ya O) ?_)))))
 refine LW (fun _ h=>h.osl_nil 4 1) ?_
 refine Ln (Et (Cs (Cs (Cr (V0 (Yf fo174_2 O) (V0 (Yd 1 O O O na170) (V0 (Yn es170 O) (V0 (Ym O) (Ln (Et (Cb ?_)))))))))))
 refine CLk (ι:=Nat×Option Addr×Nat) (fun g=>[(11,.int .i64 (g.1:Int)),(3,.slice g.2.1 ((m.decls.take g.1).map (·.pub)).length g.2.2)]) [(1,_),(2,_),(9,_),(10,_)] (fun g=>Ws w [] [osT 4 1 boolC g.2.1 g.2.2 ((m.decls.take g.1).map (·.pub)),blk b1 (.cells (modV m r).toArray 174 (0,0))] [H]) (fun g=>g.1≤m.decls.length) (fun g=>m.decls.length-g.1) (0,none,0) (Nat.zero_le _) (sc O (sc O (sc O (sc O (sc O (sc O sn)))))) (fun _ h=>h) ?_
 intro g hi
 refine Cs (Cr (V0 (yl_lt O O) (Ln (Et (Cs ?_)))))
 refine Cc O (fun hc0=>?_) (fun hc0=>?_)
 ·
  have hlt:g.1<m.decls.length:=by simpa using hc0
  obtain ⟨d,hdi⟩:∃q,m.decls[g.1]? = some q:=⟨_,List.getElem?_eq_getElem hlt⟩
  obtain ⟨pbd,pod,had,hrd⟩:=hm.decls.elt g.1 d hdi
  have hrd:RdC H pbd (pod+g.1*4) d.cells:=hrd
  have hI:=pubsD_at hdi
  have hl:((m.decls.take g.1).map (·.pub)).length=g.1:=by simp; omega
  refine Ck (Et (Cs (Cb (Cs (Cr ?_)))))
  refine V0 (Yo es170 O O had (by omega)) ?_
  refine V0 (yl_lda 0 ag217 O O O (hrd)) ?_
  refine Al Y O zr217 fun b5=>?_
  refine Lst 0 Y O O O sz217 O O O (Ln (Et (Cr (V0 (Ym O) (V0 (Yf fo217_2 O) (V0 (Yd 0 O O O na4) ?_))))))
  refine Lb Y O el248 O O O O fun b18=>?_
  refine Lrb 0 (.cells (boolC d.pub).toArray 4 (0,0)) O (O) ?_
  refine LA (d.pub) 2 0 Y O el248 O O O O O O (by omega) (by omega) fun a19 c19=>?_
  refine V0 (Ya O) (Ln (Eb (Et (Cr ?_))))
  refine V0 (Yi O O O (by omega)) ?_
  refine V0 (Ym O) (Ln ?_)
  rw [←hI]
  exact Ea ((g.1+1,a19,c19):Nat×Option Addr×Nat) (by first | omega | (dsimp only; omega)) (by first | omega | (dsimp only; omega)) (sc O (sc O (sc O (sc O (sc O (sc O sn)))))) (fun _ h=>Wd 2 h)
 have hge:g.1=m.decls.length:=by simp at hc0; omega
 rw [hge,List.take_length]
 clear hge hc0 hi
 refine Ce (Ex (Ex (Ebh (Et (Cs (Cs (Cr (V0 (Yf fo174_3 O) (V0 (Yd 1 O O O na171) (V0 (Yn es171 O) (V0 (Ym O) ?_)))))))))))
 refine Ln (Et (Cb ?_))
 rw [show m.decls.map (·.pub)=m.decls.map (·.pub)++(m.procs.take 0).map (·.pub) by simp]
 refine CLk (ι:=Nat×Option Addr×Nat) (fun g=>[(24,.int .i64 (g.1:Int)),(3,.slice g.2.1 (m.decls.map (·.pub)++(m.procs.take g.1).map (·.pub)).length g.2.2)]) [(2,_),(22,_),(23,_)] (fun g=>Ws w [] [osT 4 1 boolC g.2.1 g.2.2 (m.decls.map (·.pub)++(m.procs.take g.1).map (·.pub)),blk b1 (.cells (modV m r).toArray 174 (0,0))] [H]) (fun g=>g.1≤m.procs.length) (fun g=>m.procs.length-g.1) (0,g.2.1,g.2.2) (Nat.zero_le _) (sc O (sc O (sc O (sc O (sc O sn))))) (fun _ h=>h) ?_
 clear g
 intro g hi
 refine Cs (Cr (V0 (yl_lt O O) (Ln (Et (Cs ?_)))))
 refine Cc O (fun hc1=>?_) (fun hc1=>?_)
 ·
  have hlt:g.1<m.procs.length:=by simpa using hc1
  obtain ⟨p,hpi⟩:∃q,m.procs[g.1]? = some q:=⟨_,List.getElem?_eq_getElem hlt⟩
  obtain ⟨pbp,pop,hap,hrp⟩:=hm.procs.elt g.1 p hpi
  obtain ⟨pa1,pc1,pa2,pc2,pa3,pc3,hrow,hs1,hs2,hs3⟩:=hrp
  have hI:=pubs_at hpi
  have hl:(m.decls.map (·.pub)++(m.procs.take g.1).map (·.pub)).length≤16:=by simp; omega
  refine Ck (Et (Cs (Cb (Cs (Cr ?_)))))
  refine V0 (Yo es171 O O hap (by omega)) ?_
  refine V0 (yl_lda 0 ag213 O O O (hrow)) ?_
  refine Al Y O zr213 fun b7=>?_
  refine Lst 0 Y O O O sz213 O O O (Ln (Et (Cr (V0 (Ym O) (V0 (Yf fo213_1 O) (V0 (Yd 0 O O O na4) ?_))))))
  refine Lb Y O el248 O O O O fun b31=>?_
  refine Lrb 0 (.cells (boolC p.pub).toArray 4 (0,0)) O (O) ?_
  refine LA (p.pub) 2 0 Y O el248 O O O O O O (by omega) (by omega) fun a32 c32=>?_
  refine V0 (Ya O) (Ln (Eb (Et (Cr ?_))))
  refine V0 (Yi O O O (by omega)) ?_
  refine V0 (Ym O) (Ln ?_)
  rw [←hI]
  exact Ea ((g.1+1,a32,c32):Nat×Option Addr×Nat) (by first | omega | (dsimp only; omega)) (by first | omega | (dsimp only; omega)) (sc O (sc O (sc O (sc O (sc O sn))))) (fun _ h=>Wd 2 h)
 have hge:g.1=m.procs.length:=by simp at hc1; omega
 rw [hge,List.take_length]
 refine Ce (Ex (Ex (Ebh (Et (Cs (Cr (V0 (Ym O) (V0 (Ya O) (Ln (Et (Crt ?_)))))))))))
 refine R1 O O fun w' hw=>?_
 exact ⟨(g.2.1,g.2.2),O,hw.fr,hw.slT 0 O boolC_len (fun _ _ _ _ h=>h)⟩
theorem face_any (H:View) (ke ks:Nat) (r:MAt) (m:TMod) (w:World) (hH:Le H w) (hm:RdM ke ks H r m) (hb:wM m≤109951162777) :
   Calls Tryz.prog 111 #[.agg (modV m r).toArray] w fun e w'=>∃r:SP,e = .returned (.tuple #[.agg #[st (faceM m).1.1,.slice r.1 (faceM m).1.2.length r.2],.int .i64 (faceM m).2])∧Ext w w'∧Sl rdItem 4 (nv w w') r.1 r.2 (faceM m).1.2:=by
 refine enter Tryz.func111 O 60 O O ?_
 refine CE (Vs:=[H]) (Ws.init (by simp [hH])) ?_
 refine Cs (Cr ?_)
 refine WL.box Y O O fun b1=>?_
 refine Al Y O zr180 fun b2=>?_
 refine V0 (Ya O) (Ln (Et (Cs (Cs (Cr (V0 (Yda 1 O O ag174 O) ?_))))))
 refine Lp Y O en122 O (fun w hw=>treeCheck_any H ke ks r m w (hw.vs _ (by simp)) hm (by omega)) ?_
 refine V0 (Ya O) (Ln (Et (Cs (Cr (V0 (Ym O) (V0 (yl_ne O O) (Ln (Et ?_))))))))
 refine Cc O (fun hc0=>?_) (fun hc0=>?_)
 ·
  have he:¬checkM m=0:=by simpa using hc0
  refine Cs (Cr (V0 (Yb zr180 pl180 O O) (V0 (Ym O) (Lst 0 Y O O O sz180 O O O (V0 (Ya O) (Ln (Et (Crt (Er ?_)))))))))
  refine WE.retc2 0 O O O O ag180 O fun w' hw=>?_
  rw [faceM_err he]
  exact ⟨(none,0),O,hw.fr,Sl.nil⟩
 have he:checkM m=0:=by simpa using hc0
 have ho:=mOk he
 have few:=ho.few
 have xd:=hm.decls.max
 have yd:=hm.decls.cap
 have xp:=hm.procs.max
 have yp:=hm.procs.cap
 have il:=itemsM_len m
 have pl:=pubsM_len m
 refine Ck (Et (Cs (Cr (V0 (Yda 1 O O ag174 O) ?_))))
 refine Ld Y O en113 O (fun r:SP=>.tuple #[.slice r.1 (itemsM m).length r.2,.int .i64 (dataM m)]) (fun H r=>Sl rdItem 4 H r.1 r.2 (itemsM m)) (fun w hw=>items_any H ke ks r m w (hw.vs _ (by simp)) hm ho) ?_
 intro F20 r20 hf20 h20
 refine V0 (Ym O) (V0 (Yx O O) (V0 (Yx O O) (V0 (Ya O) (V0 (Ya O) (Ln (Et (Cs (Cr ?_))))))))
 refine V0 (Yf fo174_0 O) (V0 (Yd 1 O O O na9) (V0 (Yb zr180 pl180 O O) ?_))
 refine LW (fun _ h=>h.osl_nil 232 4) ?_
 refine Al Y O zr180 fun b7=>?_
 refine Lst 0 Y O O O sz180 O O O (Ln (Et (Cs (Cr (V0 (Ya O) ?_)))))
 refine LW (fun _ h=>h.osl_nil 9 1) ?_
 refine Ln (Et (Cs (Cr (V0 (Yda 4 O O ag174 O) ?_))))
 refine Ld Y O en136 O (fun r:SP=>.slice r.1 (pubsM m).length r.2) (fun H r=>Sl rdBool 1 H r.1 r.2 (pubsM m)) (fun w hw=>pubs_any H ke ks r m w (hw.vs _ (by simp)) hm ho) ?_
 intro F27 r27 hf27 h27
 have x20:=h20.max
 have y20:=h20.cap
 have x27:=h27.max
 have y27:=h27.cap
 refine V0 (Ya O) (Ln (Et (Cs (Cs (Cr (V0 (Ym O) (V0 (Yn es178 O) (V0 (Ym O) (Ln (Et (Cb ?_)))))))))))
 refine CLk (ι:=GF) (fun g=>[(30,.int .i64 (g.i:Int)),(8,.slice g.n.1 (((itemsM m).take g.i).map mnamed).length g.n.2)]) [(1,_),(2,_),(3,_),(7,_),(9,_),(28,_),(29,_)] (fun g=>Ws w [] [blk b7 (.cells #[st m.nm,.slice g.f.1 (FQ m g.i).length g.f.2] 180 (0,0)),osT 9 1 strC g.n.1 g.n.2 (((itemsM m).take g.i).map mnamed),osT 232 4 FItem.cells g.f.1 g.f.2 (FQ m g.i),blk b2 (.cells #[st [],.slice none 0 0] 180 (0,0)),blk b1 (.cells (modV m r).toArray 174 (0,0))] [F27,F20,H]) (fun g=>g.i≤(itemsM m).length) (fun g=>(itemsM m).length-g.i) ⟨0,(none,0),(none,0)⟩ (Nat.zero_le _) (sc O (sc O (sc O (sc O (sc O (sc O (sc O (sc O (sc O sn))))))))) (fun _ h=>by exact (((((h.f 4 O).f 4 O).f 4 O).f 3 O).f 4 O:)) ?_
 intro g hi
 refine Cs (Cr (V0 (yl_lt O O) (Ln (Et (Cs ?_)))))
 refine Cc O (fun hc1=>?_) (fun hc1=>?_)
 ·
  have hlt:g.i<(itemsM m).length:=by simpa using hc1
  obtain ⟨x,hx⟩:∃x,(itemsM m)[g.i]? = some x:=⟨_,List.getElem?_eq_getElem hlt⟩
  obtain ⟨pb,po,ha,hrow⟩:=h20.elt g.i x hx
  have hrow:RdC F20 pb (po+g.i*4) x.cells:=hrow
  obtain ⟨pv,hpv⟩:∃p,(pubsM m)[g.i]? = some p:=⟨_,List.getElem?_eq_getElem (by rw [pubsM_len,←itemsM_len]; exact hlt)⟩
  obtain ⟨qb,qo,hqa,hrq⟩:=h27.elt g.i pv hpv
  have hrq:RdC F27 qb (qo+g.i*1) (boolC pv):=hrq
  have hT:((itemsM m).take (g.i+1)).map mnamed=((itemsM m).take g.i).map mnamed++[x.name]:=by rw [List.take_add_one,hx]; simp [mnamed]
  have hL:(((itemsM m).take g.i).map mnamed).length=g.i:=by simp; omega
  have hQ:=FQ_step hx hpv
  have hQl:=FQ_le m g.i
  refine Ck (Et (Cs (Cb (Cs (Cr (V0 (Ym O) ?_))))))
  refine V0 (Yo es178 O O ha (by omega)) ?_
  refine V0 (yl_lda 1 ag232 O O O (hrow)) ?_
  refine Al Y O zr232 fun b11=>?_
  refine V0 (Ya O) (Lst 0 Y O O O sz232 O O O (Ln (Et (Cs (Cr (V0 (Ym O) (V0 (Yf fo232_3 O) (V0 (Yd 0 O O O na9) ?_))))))))
  refine Lb Y O el22 O O O O fun b38=>?_
  refine Lrb 0 (.cells (strC x.name).toArray 9 (0,0)) O (O) ?_
  refine LA ((x.name:List UInt8)) 3 0 Y O el22 O O O O O O (by omega) (by omega) fun a39 c39=>?_
  refine V0 (Ya O) (Ln (Et (Cs (Cr (V0 (Ym O) (V0 (Ym O) ?_))))))
  refine V0 (Yo es248 O O hqa (by omega)) ?_
  refine V0 (yl_ld 0 na4 O O (hrq 0 _ O)) (Ln (Et ?_))
  refine Cc O (fun hc2=>?_) (fun hc2=>?_)
  ·
   have hp1:pv=true:=by simpa using hc2
   have hQ1:FQ m (g.i+1)=FQ m g.i++[x]:=by rw [hQ,if_pos hp1]
   refine Cr (V0 (Yf fo180_1 O) (V0 (Yd 2 O O O na178) (V0 (Yda 1 O O ag232 O) ?_)))
   refine Lb Y O el178 O O O O fun b47=>?_
   refine Lrb 0 (.cells (FItem.cells x).toArray 232 (0,0)) O (O) ?_
   refine LA (x) 5 0 Y O el178 O O O O O O (by omega) (by omega) fun a48 c48=>?_
   refine V0 (Yf fo180_1 O) (Lst 3 Y O O O sz178 O O O (Ln (Eb (Et (Cr ?_)))))
   refine V0 (Yi O O O (by omega)) ?_
   refine V0 (Ym O) (Ln ?_)
   rw [←hT]
   rw [←hQ1]
   exact Ea (⟨g.i+1,(a39,c39),(a48,c48)⟩:GF) (by first | omega | (dsimp only; omega)) (by first | omega | (dsimp only; omega)) (sc O (sc O (sc O (sc O (sc O (sc O (sc O (sc O (sc O sn))))))))) (fun _ h=>Wd 3 h)
  have hp0:¬pv=true:=by simpa using hc2
  have hQ0:FQ m (g.i+1)=FQ m g.i:=by rw [hQ,if_neg hp0,List.append_nil]
  refine Ck (Eb (Et (Cr ?_)))
  refine V0 (Yi O O O (by omega)) ?_
  refine V0 (Ym O) (Ln ?_)
  rw [←hT]
  rw [←hQ0]
  exact Ea (⟨g.i+1,(a39,c39),g.f⟩:GF) (by first | omega | (dsimp only; omega)) (by first | omega | (dsimp only; omega)) (sc O (sc O (sc O (sc O (sc O (sc O (sc O (sc O (sc O sn))))))))) (fun _ h=>Wd 2 h)
 have hge:g.i=(itemsM m).length:=by simp at hc1; omega
 have hAll:=FQ_all m
 refine Ce (Ex (Ex (Ebh (Et (Cs (Cs ?_))))))
 rw [hge,List.take_length]
 refine WC.oslview (rd:=rdStr) 1 O strC_len (fun _ _ _ _ h=>h) fun HN hHN=>?_
 refine Cr (V0 (Ym O) ?_)
 refine Lp Y O en137 O (fun w hw=>by
     have:=alike_any HN g.n.1 g.n.2 ((itemsM m).map mnamed) w (hw.vs _ (by simp)) hHN
     exact this) ?_
 refine V0 (Ym O) ?_
 apply Lo 3 O O O O Y O O O O O
 ·
  intro hg0
  refine Vg (Yf fo174_1 O) (Vg (Yd 3 O O O na22) ?_)
  refine Lp (.g O O O) O en137 O (fun w hw=>alike_any H r.a1 r.c1 m.uses w (hw.vs _ (by simp)) hm.uses) ?_
  exact Gt 3 O O O
 refine Ln (Et ?_)
 refine Cc O (fun hc3=>?_) (fun hc3=>?_)
 ·
  have h6:(twiceB ((itemsM m).map (·.name))||twiceB m.uses)=true:=hc3
  refine Cs (Cr (V0 (Yb zr180 pl180 O O) (Lst 2 Y O O O sz180 O O O (V0 (Ya O) (Ln (Et (Crt (Er ?_))))))))
  refine WE.retc2 2 O O O O ag180 O fun w' hw=>?_
  rw [faceM_twice he h6]
  exact ⟨(none,0),O,hw.fr,Sl.nil⟩
 have h6:(twiceB ((itemsM m).map (·.name))||twiceB m.uses)=false:=hc3
 refine Ck (Et (Cs (Cr (V0 (Yda 0 O O ag180 O) (Lst 2 Y O O O sz180 O O O (V0 (Ya O) (Ln (Et (Crt ?_)))))))))
 refine WE.retc2 2 O O O O ag180 O fun w' hw=>?_
 rw [faceM_ok he h6]
 rw [hAll] at hw ⊢
 exact ⟨g.f,O,hw.fr,hw.slT 1 O FItem.cells_len (fun _ _ _ _ h=>h)⟩
structure GI where
 i:Nat
 s:SP
 p:SP
def cntN:List UInt8:=[99,110,116]
def cntI:List FItem:=[⟨1,3,0,[107]⟩,⟨2,0,0,[115,117,109]⟩,⟨3,4,1,[116]⟩,⟨4,1,0,[100,111,119,110]⟩]
theorem nodup_take {l:List FItem} {i:Nat} {x:FItem} (h:(l.map (·.name)).Nodup) (hx:l[i]? = some x):x.name ∉ (l.take i).map (·.name):=by
 intro hm
 have hlt:i<l.length:=(List.getElem?_eq_some_iff.1 hx).1
 obtain ⟨j,hj⟩:=List.getElem?_of_mem hm
 rw [List.getElem?_map] at hj
 obtain ⟨y,hy,e⟩:=Option.map_eq_some_iff.1 hj
 have hji:j<i:=by have:=(List.getElem?_eq_some_iff.1 hy).1; simp at this; omega
 rw [List.getElem?_take,if_pos hji] at hy
 have e2:(l.map (·.name))[j]? = (l.map (·.name))[i]?:=by rw [List.getElem?_map,List.getElem?_map,hy,hx]; simp [e]
 have:=(List.getElem?_inj (by simpa using (List.getElem?_eq_some_iff.1 hy).1) h).1 e2
 omega
theorem um205:Tryz.prog.underlying 205=some (.map 9 232):=by kernel_rfl
theorem counted_any (w:World) :
   Calls Tryz.prog 104 #[] w fun e w'=>∃r:SP,e = .returned (.agg #[st cntN,.slice r.1 cntI.length r.2])∧Ext w w'∧Sl rdItem 4 (nv w w') r.1 r.2 cntI:=by
 refine enter Tryz.func104 O 7 O O ?_
 refine CE (Vs:=[]) (Ws.init (by simp)) ?_
 refine Cs (Cr ?_)
 refine Al Y O zr180 fun b0=>?_
 refine Ln (Et (Cs (Cr (V0 (Yb zr232 pl232 O O) (V0 (Yb zr232 pl232 O O) (V0 (Yb zr232 pl232 O O) (V0 (Yb zr232 pl232 O O) ?_)))))))
 refine Lb Y O el178 O O O O fun b5=>?_
 refine V0 (Yb zr180 pl180 O O) (Lst 1 Y O O O sz180 O O O (Ln (Et (Crt ?_))))
 refine WE.retR (rs_1 O (rv_agg 1 O O ag180 O)) fun w' hw=>?_
 exact ⟨(some ⟨b5,0,none⟩,4),O,hw.fr,⟨show cntI.length≤4 by decide,show 4≤9223372036854775807 by decide,by simp,fun j x hj=>⟨b5,0,O,fun k v hk=>hw.nvc 0 O (by
     have:k<4:=(List.getElem?_eq_some_iff.1 hk).1
     show (cntI.flatMap FItem.cells)[0+j*4+k]? = some v
     rw [Nat.zero_add,flat_get FItem.cells_len hj this]; exact hk)⟩⟩⟩
theorem tableOf_any (H:View) (a:Option Addr) (c:Nat) (l:List FItem) (w:World) (hH:Le H w) (hm:Sl rdItem 4 H a c l) (hnd:(l.map (·.name)).Nodup) :
   Calls Tryz.prog 114 #[.slice a l.length c] w fun e w'=>∃b:Nat,e = .returned (.map (some b))∧Ext w w'∧(nv w w') b=some (gobj st (tabI l 0) l.length):=by
 have hcap:=hm.cap
 have hmax:=hm.max
 refine enter Tryz.func114 O 19 O O ?_
 refine CE (Vs:=[H]) (Ws.init (by simp [hH])) ?_
 refine Cs (Cr (V0 (Ya O) (Ln (Et (Cs (Cr ?_))))))
 refine WL.gmk st Y O fun b6=>?_
 refine Lrb 0 (gobj st (tabI (l.take 0) 0) (l.take 0).length) O O ?_
 refine V0 (Ya O) (Ln (Et (Cs (Cs (Cr (V0 (Ym O) (V0 (Yn es178 O) (V0 (Ym O) (Ln (Et (Cb ?_)))))))))))
 refine CLk (ι:=Nat) (fun i=>[(9,.int .i64 (i:Int))]) [(2,_),(3,_),(7,_),(8,_)] (fun i=>Ws w [] [blk b6 (gobj st (tabI (l.take i) 0) (l.take i).length)] [H]) (fun i=>i≤l.length) (fun i=>l.length-i) 0 (Nat.zero_le _) (sc O (sc O (sc O (sc O (sc O sn))))) (fun _ h=>h) ?_
 intro i hi
 refine Cs (Cr (V0 (yl_lt O O) (Ln (Et (Cs ?_)))))
 refine Cc O (fun hc0=>?_) (fun hc0=>?_)
 ·
  have hlt:i<l.length:=by simpa using hc0
  obtain ⟨x,hxi⟩:∃x,l[i]? = some x:=⟨_,List.getElem?_eq_getElem hlt⟩
  obtain ⟨pbx,pox,ha,hrow⟩:=hm.elt i x hxi
  have hrow:RdC H pbx (pox+i*4) x.cells:=hrow
  have hput:=tabI_put (nodup_take hnd hxi)
  refine Ck (Et (Cs (Cb (Cs (Cr ?_)))))
  refine V0 (Yo es178 O O ha (by omega)) ?_
  refine V0 (yl_lda 0 ag232 O O O (hrow)) ?_
  refine Al Y O zr232 fun b5=>?_
  refine Lst 0 Y O O O sz232 O O O (Ln (Et (Cr (V0 (Ym O) (V0 (Yf fo232_3 O) (V0 (Yd 0 O O O na9) (V0 (Yda 0 O O ag232 O) ?_)))))))
  refine WL.gset 1 keyStr Y um205 us9 O O O O ?_
  refine Ln (Eb (Et (Cr ?_)))
  refine V0 (Yi O O O (by omega)) ?_
  refine V0 (Ym O) (Ln ?_)
  refine WE.reblk 1 (gobj st (tabI (l.take (i+1)) 0) (l.take (i+1)).length) O (by rw [take_snoc hxi,←hput.1,←hput.2]; rfl) ?_
  exact Ea (i+1) (by omega) (by omega) (sc O (sc O (sc O (sc O (sc O sn))))) (fun _ h=>Wd 1 h)
 have hge:i=l.length:=by simp at hc0; omega
 rw [hge,List.take_length]
 refine Ce (Ex (Ex (Ebh (Et (Cs (Cr (V0 (Ym O) (V0 (Ya O) (Ln (Et (Crt ?_)))))))))))
 refine R1 O O fun w' hw=>?_
 exact ⟨b6,O,hw.fr,hw.nvb 0 O⟩
def refd (e:Int):List PanicEntry:=[⟨.iface 199 (.agg #[.int .i64 e]),false,false⟩]
def rdTab (H:View) (b o:Nat) (l:List FItem):Prop:=∃tb:Nat,vc H b o=some (.map (some tb))∧H tb=some (gobj st (tabI l 0) l.length)
structure Slv (H:View) (sb:Nat) (σ:Scp):Prop where
 at_:∃(ob ub:Nat) (fa:Option Addr) (fc lb:Nat),(vc H sb 0=some (.map (some ob))∧vc H sb 1=some (.map (some ub))∧vc H sb 2=some (.slice fa σ.faces.length fc)∧vc H sb 3=some (.map (some lb)))∧H ob=some (gobj st (tabI σ.own 0) σ.own.length)∧H ub=some (gobj st (tabL σ.uses 0) σ.uses.length)∧Sl rdTab 1 H fa fc σ.faces∧H lb=some (gobj st (tabL σ.locs 0) σ.locs.length)
 nd:σ.uses.Nodup
 len:σ.uses.length=σ.faces.length
 few:σ.uses.length≤3∧σ.locs.length≤7
def noItem:FItem:=⟨0,0,0,[]⟩
def posN (nm:List UInt8) (l:List (List UInt8)):Int:=match idxOf nm l 0 with | some k=>((k+1:Nat):Int) | none=>0
theorem posN_get (nm:List UInt8) (l:List (List UInt8)):gget nm (tabL l 0) (.int .i64 0) = .int .i64 (posN nm l):=tabL_get nm l
theorem posN_pos {nm:List UInt8} {l:List (List UInt8)} (h:0<posN nm l):∃k:Nat,idxOf nm l 0=some k∧posN nm l=((k+1:Nat):Int)∧k<l.length:=by
 unfold posN at h ⊢
 cases hk:idxOf nm l 0 with
 | none=>rw [hk] at h; exact absurd h (by decide)
 | some k=>exact ⟨k,rfl,rfl,by have:=(idxOf_le hk).2; exact (List.getElem?_eq_some_iff.1 this).1⟩
theorem posN_no {nm:List UInt8} {l:List (List UInt8)} (h:¬0<posN nm l):idxOf nm l 0=none:=by
 unfold posN at h
 cases hk:idxOf nm l 0 with
 | none=>rfl
 | some k=>rw [hk] at h; exact absurd (by simp only; omega) h
def itemN (nm:List UInt8) (l:List FItem):FItem:=(findI nm l).getD noItem
theorem itemN_get (nm:List UInt8) (l:List FItem):gget nm (tabI l 0) (.agg #[.int .i64 0,.int .i64 0,.int .i64 0,st []]) = .agg (itemN nm l).cells.toArray:=by
 rw [(tabI_get nm l _).1]
 unfold itemN
 cases findI nm l<;>rfl
theorem itemN_has (nm:List UInt8) (l:List FItem):ghas nm (tabI l 0)=(findI nm l).isSome:=(tabI_get nm l (.bool false)).2
theorem itemN_some {nm:List UInt8} {l:List FItem} (h:(findI nm l).isSome=true):findI nm l=some (itemN nm l):=by
 unfold itemN
 cases hf:findI nm l with
 | none=>rw [hf] at h; cases h
 | some x=>rfl
theorem itemN_none {nm:List UInt8} {l:List FItem} (h:(findI nm l).isSome=false):findI nm l=none:=by
 cases hf:findI nm l with
 | none=>rfl
 | some x=>rw [hf] at h; cases h
theorem find_loc {σ:Scp} {nm:List UInt8} {k:Nat} (h:idxOf nm σ.locs 0=some k):findT σ [] nm=some (-1,locItem k):=by rw [findT,if_pos rfl,h]
theorem find_own {σ:Scp} {nm:List UInt8} (h:idxOf nm σ.locs 0=none):findT σ [] nm=(findI nm σ.own).map fun x=>(0,x):=by rw [findT,if_pos rfl,h]
theorem find_use {σ:Scp} {mod nm:List UInt8} (h:¬mod=[]) (hn:σ.uses.Nodup) (hl:σ.uses.length=σ.faces.length) {k:Nat} {f:List FItem} (hk:idxOf mod σ.uses 0=some k) (hf:σ.faces[k]? = some f):findT σ mod nm=(findI nm f).map fun x=>(((k+1:Nat):Int),x):=by
 rw [findT,if_neg h,findU_at hn hl,hk]
 simp [hf]
theorem find_no {σ:Scp} {mod nm:List UInt8} (h:¬mod=[]) (hk:idxOf mod σ.uses 0=none):findT σ mod nm=none:=by
 rw [findT,if_neg h,findU_none (idxOf_none.1 hk)]
theorem findU_m {mod nm:List UInt8}:∀{us:List (List UInt8)} {fs:List (List FItem)} {s:Nat} {m:Int} {x:FItem},findU mod nm us fs s=some (m,x)→0≤m
 | [],_,_,_,_,h=>by simp [findU] at h
 | u::us,[],_,_,_,h=>by simp [findU] at h
 | u::us,f::fs,s,m,x,h=>by
   rw [findU] at h
   split at h
   · split at h
     · injection h with h; injection h with h1 h2; omega
     · exact findU_m h
   · exact findU_m h
theorem findT_m {σ:Scp} {mod nm:List UInt8} {m:Int} {x:FItem} (h:findT σ mod nm=some (m,x)):m = -1∨0≤m:=by
 unfold findT at h
 split at h
 · split at h
   · injection h with h; injection h with h1 h2; exact .inl h1.symm
   · cases hf:findI nm σ.own with
     | none=>rw [hf] at h; cases h
     | some y=>rw [hf] at h; injection h with h; injection h with h1 h2; right; omega
 · exact .inr (findU_m h)
def plErr (σ:Scp) (mod nm:List UInt8) (kind args:Int):Int:=match findT σ mod nm with
 | none=>5
 | some (m,it)=>if ¬(0≤m∧it.kind=kind) then 7 else if kind=4∧¬it.n=args then 8 else 0
theorem pl_none {σ:Scp} {mod nm:List UInt8} {kind args:Int} (h:findT σ mod nm=none):plErr σ mod nm kind args=5:=by unfold plErr; rw [h]
theorem pl_some {σ:Scp} {mod nm:List UInt8} {kind args m:Int} {it:FItem} (h:findT σ mod nm=some (m,it)):plErr σ mod nm kind args=if ¬(0≤m∧it.kind=kind) then 7 else if kind=4∧¬it.n=args then 8 else 0:=by unfold plErr; rw [h]
def ScNodes (HS:View) (sb:Nat) (σ:Scp) (k:Nat):Prop:=∀(HE:View) (l:List TExpr) (a:Option Addr) (c:Nat) (w:World),Le HS w→Le HE w→Sl (RdE k) 5 HE a c l→wEs l≤109951162777→
 Calls Tryz.prog 165 #[.pointer (some ⟨sb,0,none⟩),.slice a l.length c] w fun e w'=>(∃r:SP,e = .returned (.slice r.1 (nodesT σ l).length r.2)∧Ext w w'∧errEs σ l=0∧Sl (RdN (k+1)) 5 (nv w w') r.1 r.2 (nodesT σ l))∨(∃_:Unit,e = .panicked (refd (errEs σ l))∧Ext w w'∧errEs σ l≠0)
theorem pl199:placesP Tryz.prog 199=some [(0,1)]:=by kernel_rfl
theorem zr199:zeroOf Tryz.prog 199=some (.agg #[.int .i64 0]):=by kernel_rfl
theorem co199:Tryz.prog.concrete 199=true:=by kernel_rfl
theorem fo209_3:fieldOff Tryz.prog 209 3=some 3:=by kernel_rfl
theorem na64:nonAgg Tryz.prog 64=true:=by kernel_rfl
theorem fo209_0:fieldOff Tryz.prog 209 0=some 0:=by kernel_rfl
theorem na205:nonAgg Tryz.prog 205=true:=by kernel_rfl
theorem en115:Enters Tryz.prog 115:=enters_of Tryz.func115 (by kernel_rfl) rfl
theorem fo209_1:fieldOff Tryz.prog 209 1=some 1:=by kernel_rfl
theorem fo209_2:fieldOff Tryz.prog 209 2=some 2:=by kernel_rfl
theorem na207:nonAgg Tryz.prog 207=true:=by kernel_rfl
theorem es207:elemSz Tryz.prog 207=some 1:=by kernel_rfl
theorem scMust_any (b:Bool) (n:Int) (w:World) :
   Calls Tryz.prog 115 #[.bool b,.int .i64 n] w fun e w'=>(∃_:Unit,e = .returned (.tuple #[])∧Ext w w'∧b=true)∨(∃_:Unit,e = .panicked (refd n)∧Ext w w'∧b=false):=by
 refine enter Tryz.func115 O 9 O O ?_
 refine CE (Vs:=[]) (Ws.init (by simp)) ?_
 refine Cs (Cr (V0 (Ym O) (V0 (yl_not O) (Ln (Et ?_)))))
 refine Cc O (fun hc0=>?_) (fun hc0=>?_)
 ·
  refine Cr (V0 (Ym O) (V0 (Yb zr199 pl199 O O) (V0 (yl_mki co199 O) ?_)))
  refine WL.panic Y O ?_
  refine Epp fun w' hw=>?_
  exact .inr ⟨(),O,hw.fr,by simpa using hc0⟩
 refine Ck ?_
 refine E0 O fun w' hw=>?_
 exact .inl ⟨(),O,hw.fr,by simpa using hc0⟩
theorem scFind_any (HS:View) (sb:Nat) (σ:Scp) (w:World) (hHS:Le HS w) (hS:Slv HS sb σ) (mod nm:List UInt8) :
   Calls Tryz.prog 163 #[.pointer (some ⟨sb,0,none⟩),st mod,st nm] w fun e w'=>(∃i:Int×FItem,e = .returned (.tuple #[.int .i64 i.1,.agg i.2.cells.toArray])∧Ext w w'∧findT σ mod nm=some i)∨(∃_:Unit,e = .panicked (refd 5)∧Ext w w'∧findT σ mod nm=none):=by
 obtain ⟨⟨ob,ub,fa,fc,lb,⟨h0,h1,h2,h3⟩,hob,hub,hfs,hlb⟩,hnd,hlen,few⟩:=hS
 refine enter Tryz.func163 O 65 O O ?_
 refine CE (Vs:=[HS]) (Ws.init (by simp [hHS])) ?_
 refine Cs (Cr (V0 (Ya O) ?_))
 refine Al Y O zr232 fun b7=>?_
 refine Ln (Et (Cs (Cs (Cr (V0 (Ym O) (V0 (yl_eqs O O) (Ln (Et ?_))))))))
 refine Cc O (fun hc0=>?_) (fun hc0=>?_)
 ·
  obtain rfl:mod=[]:=by simpa using hc0
  refine Cs (Cs (Cr (V0 (Ym O) (V0 (yl_nil O) (V0 (Yf fo209_3 O) (V0 (yl_ld 0 na64 O O (h3)) (V0 (Ym O) ?_)))))))
  refine V0 (yl_glookv 0 O keyStr um64 us9 zr3 O O (hlb)) ?_
  rw [posN_get]
  refine V0 (Ya O) (Ln (Et (Cs (Cr (V0 (Ym O) (V0 (yl_gt O O) (Ln (Et ?_))))))))
  refine Cc O (fun hc1=>?_) (fun hc1=>?_)
  ·
   obtain ⟨k,hk,hk2,hk3⟩:=posN_pos (nm:=nm) (l:=σ.locs) (by simpa using hc1)
   refine Cs (Cr (V0 (Ym O) ?_))
   refine V0 (yl_subv (k:Int) O O (by rw [hk2]; omega) (by omega)) ?_
   refine V0 (Yb zr232 pl232 O O) (V0 (Ya O) (Lst 0 Y O O O sz232 O O O (Ln (Et (Crt (Er (Er ?_)))))))
   refine WE.retR (rs_2 O (rv_tmp O) (rv_agg 0 O O ag232 O)) fun w' hw=>?_
   exact .inl ⟨(-1,locItem k),O,hw.fr,find_loc hk⟩
  have hk:=posN_no (nm:=nm) (l:=σ.locs) (by simpa using hc1)
  refine Ck (Et (Cs (Cr (V0 (Ym O) (V0 (yl_nil O) (V0 (Yf fo209_0 O) (V0 (yl_ld 0 na205 O O (h0)) (V0 (Ym O) ?_))))))))
  refine V0 (yl_glook2v 0 O keyStr um205 us9 zr232 O O (hob)) ?_
  rw [itemN_get,itemN_has]
  refine V0 (Ym O) (V0 (Yx O O) (V0 (Yx O O) ?_))
  refine Al Y O zr232 fun b9=>?_
  refine Lst 0 Y O O O sz232 O O O (V0 (Ya O) (Ln (Et (Cs (Cr (V0 (Ym O) ?_))))))
  refine WL.callpx (ι:=Unit) (κ:=Unit) Y O en115 O (fun _=>.tuple #[]) (fun _=>(findI nm σ.own).isSome=true) (fun _=>refd 5) (fun _=>(findI nm σ.own).isSome=false) (fun w hw=>scMust_any _ _ w) ?_ ?_
  ·
   intro _ hp
   refine Ep (Ep ?_)
   refine Epp fun w' hw=>?_
   exact .inr ⟨(),O,hw.fr,by rw [find_own hk,itemN_none hp]; rfl⟩
  intro _ hm37
  refine Ln (Et (Cs ?_))
  refine WC.draws1 1 [(0,true),(1,true),(2,false)] mixed (by kernel_rfl) (fun _ _ _ d _ h=>by cases d<;>exact h) ?_
  refine D0 O (Wp 1) (Yda 0 O O ag232 O) (D0 O (Wp 1) (Ya O) ?_)
  refine De O (Wp 1) ?_
  refine Lst 1 Y O O O sz232 O O O (Ln (Ed ?_))
  refine WD.nil (Wp 1) ?_
  refine Et (Crt (Er ?_))
  refine WE.retR (rs_2 O (rv_tmp O) (rv_agg 1 O O ag232 O)) fun w' hw=>?_
  exact .inl ⟨(0,itemN nm σ.own),O,hw.fr,by rw [find_own hk,itemN_some hm37]; rfl⟩
 have hmod:¬mod=[]:=by simpa using hc0
 refine Ck (Et (Cs (Cr (V0 (Ym O) (V0 (yl_nil O) (V0 (Yf fo209_1 O) (V0 (yl_ld 0 na64 O O (h1)) (V0 (Ym O) ?_))))))))
 refine V0 (yl_glookv 0 O keyStr um64 us9 zr3 O O (hub)) ?_
 rw [posN_get]
 refine V0 (Ya O) (Ln (Et (Cs (Cr (V0 (Ym O) (V0 (yl_gt O O) ?_))))))
 refine WL.callpx (ι:=Unit) (κ:=Unit) Y O en115 O (fun _=>.tuple #[]) (fun _=>decide (0<posN mod σ.uses)=true) (fun _=>refd 5) (fun _=>decide (0<posN mod σ.uses)=false) (fun w hw=>scMust_any _ _ w) ?_ ?_
 ·
  intro _ hp
  refine Ep ?_
  refine Epp fun w' hw=>?_
  exact .inr ⟨(),O,hw.fr,find_no hmod (posN_no (by simpa using hp))⟩
 intro _ hm47
 obtain ⟨k,hk,hk2,hk3⟩:=posN_pos (nm:=mod) (l:=σ.uses) (by simpa using hm47)
 obtain ⟨f,hf⟩:∃f,σ.faces[k]? = some f:=⟨_,List.getElem?_eq_getElem (by omega)⟩
 obtain ⟨pb,po,ha,tb,htb,htm⟩:=hfs.elt k f hf
 have hfc:=hfs.cap
 have hfm:=hfs.max
 refine Ln (Et (Cs (Cr (V0 (Ym O) (V0 (yl_nil O) (V0 (Yf fo209_2 O) (V0 (yl_ld 0 na207 O O (h2)) (V0 (Ym O) ?_))))))))
 refine V0 (yl_subv (k:Int) O O (by rw [hk2]; omega) (by omega)) ?_
 refine V0 (Yo es207 O O ha (by omega)) ?_
 refine V0 (yl_ld 0 na205 O O (htb)) (V0 (Ym O) (V0 (yl_glook2v 0 O keyStr um205 us9 zr232 O O (htm)) ?_))
 rw [itemN_get,itemN_has]
 refine V0 (Ym O) (V0 (Yx O O) (V0 (Yx O O) ?_))
 refine Al Y O zr232 fun b12=>?_
 refine Lst 0 Y O O O sz232 O O O (V0 (Ya O) (Ln (Et (Cs (Cr (V0 (Ym O) ?_))))))
 refine WL.callpx (ι:=Unit) (κ:=Unit) Y O en115 O (fun _=>.tuple #[]) (fun _=>(findI nm f).isSome=true) (fun _=>refd 5) (fun _=>(findI nm f).isSome=false) (fun w hw=>scMust_any _ _ w) ?_ ?_
 ·
  intro _ hp
  refine Ep ?_
  refine Epp fun w' hw=>?_
  exact .inr ⟨(),O,hw.fr,by rw [find_use hmod hnd hlen hk hf,itemN_none hp]; rfl⟩
 intro _ hm62
 refine Ln (Et (Cs ?_))
 refine WC.draws1 1 [(0,true),(1,true),(2,true),(3,false)] mixed (by kernel_rfl) (fun _ _ _ d _ h=>by cases d<;>exact h) ?_
 refine D0 O (Wp 1) (Ym O) (D0 O (Wp 1) (Yda 0 O O ag232 O) (D0 O (Wp 1) (Ya O) ?_))
 refine De O (Wp 1) ?_
 refine Lst 1 Y O O O sz232 O O O (Ln (Ed ?_))
 refine WD.nil (Wp 1) ?_
 refine Et (Crt ?_)
 refine WE.retR (rs_2 O (rv_tmp O) (rv_agg 1 O O ag232 O)) fun w' hw=>?_
 rw [hk2] at *
 exact .inl ⟨(((k+1:Nat):Int),itemN nm f),O,hw.fr,by rw [find_use hmod hnd hlen hk hf,itemN_some hm62]; rfl⟩
theorem resE_3 {σ:Scp} {n m:Int} {it:FItem} {mod nm:List UInt8} {len:Nat} (h:findT σ mod nm=some (m,it)):resE σ 3 n mod nm len=if m = -1 then ⟨16,n,0,it.pl,0⟩ else if it.kind=1 then ⟨1,it.n,0,0,0⟩ else if it.kind=2 then ⟨3,n,m,it.pl,0⟩ else ⟨3,n,0,0,7⟩:=by
 unfold resE
 rw [if_pos (by decide),h]
 simp
theorem resE_no {σ:Scp} {op n:Int} {mod nm:List UInt8} {len:Nat} (ho:op=3∨op=4∨op=5) (h:findT σ mod nm=none):resE σ op n mod nm len=⟨op,n,0,0,5⟩:=by
 unfold resE
 rw [if_pos (by unfold within_; simp; omega),h]
theorem resE_0 {σ:Scp} {op n:Int} {mod nm:List UInt8} {len:Nat} (h3:¬op=3) (h4:¬op=4) (h5:¬op=5):resE σ op n mod nm len=⟨op,n,0,0,0⟩:=by
 unfold resE
 rw [if_neg (by unfold within_; simp; omega)]
theorem resE_4e {σ:Scp} {n:Int} {mod nm:List UInt8} {len:Nat} (h:plErr σ mod nm 3 0≠0):(resE σ 4 n mod nm len).e=plErr σ mod nm 3 0:=by
 cases hf:findT σ mod nm with
 | none=>rw [resE_no (by simp) hf,pl_none hf]
 | some i=>
   obtain ⟨m,it⟩:=i
   have hm:=findT_m hf
   rw [pl_some hf] at h ⊢
   unfold resE
   rw [if_pos (by decide),hf]
   by_cases h1:m = -1
   · simp [h1]
   · by_cases h2:it.kind=3
     · exact absurd (by rw [if_neg (by omega),if_neg (by omega)]) h
     · simp [h1,h2]
theorem resE_4 {σ:Scp} {n m:Int} {it:FItem} {mod nm:List UInt8} {len:Nat} (hf:findT σ mod nm=some (m,it)) (h:plErr σ mod nm 3 0=0):resE σ 4 n mod nm len=⟨4,it.n,m,it.pl,0⟩:=by
 rw [pl_some hf] at h
 have hm:=findT_m hf
 have h1:0≤m∧it.kind=3:=by
   by_cases hc:0≤m∧it.kind=3
   · exact hc
   · rw [if_pos hc] at h; cases h
 unfold resE
 rw [if_pos (by decide),hf]
 simp [h1.2,show ¬m = -1 by omega]
theorem resE_5e {σ:Scp} {n:Int} {mod nm:List UInt8} {len:Nat} (h:plErr σ mod nm 4 (len:Int)≠0):(resE σ 5 n mod nm len).e=plErr σ mod nm 4 (len:Int):=by
 cases hf:findT σ mod nm with
 | none=>rw [resE_no (by simp) hf,pl_none hf]
 | some i=>
   obtain ⟨m,it⟩:=i
   have hm:=findT_m hf
   rw [pl_some hf] at h ⊢
   unfold resE
   rw [if_pos (by decide),hf]
   by_cases h1:m = -1
   · simp [h1]
   · by_cases h2:it.kind=4
     · by_cases h3:it.n=(len:Int)
       · exact absurd (by rw [if_neg (by omega),if_neg (by omega)]) h
       · simp [h1,h2,h3,show 0≤m by omega]
     · simp [h1,h2]
theorem resE_5 {σ:Scp} {n m:Int} {it:FItem} {mod nm:List UInt8} {len:Nat} (hf:findT σ mod nm=some (m,it)) (h:plErr σ mod nm 4 (len:Int)=0):resE σ 5 n mod nm len=⟨5,n,m,it.pl,0⟩:=by
 rw [pl_some hf] at h
 have hm:=findT_m hf
 have h1:0≤m∧it.kind=4:=by
   by_cases hc:0≤m∧it.kind=4
   · exact hc
   · rw [if_pos hc] at h; cases h
 have h2:it.n=(len:Int):=by
   rw [if_neg (fun hc=>hc h1)] at h
   by_cases hc:it.n=(len:Int)
   · exact hc
   · rw [if_pos ⟨rfl,hc⟩] at h; cases h
 unfold resE
 rw [if_pos (by decide),hf]
 simp [h1.2,h2,show ¬m = -1 by omega]
theorem resS_no {σ:Scp} {op:Int} {mod nm:List UInt8} {len:Nat} (ho:op=1∨op=2∨op=3) (h:findT σ mod nm=none):resS σ op mod nm len=⟨op,0,0,0,5⟩:=by
 unfold resS
 rw [if_pos (by unfold within_; simp; omega),h]
theorem resS_0 {σ:Scp} {op:Int} {mod nm:List UInt8} {len:Nat} (h1:¬op=1) (h2:¬op=2) (h3:¬op=3):resS σ op mod nm len=⟨op,0,0,0,0⟩:=by
 unfold resS
 rw [if_neg (by unfold within_; simp; omega)]
theorem resS_1 {σ:Scp} {m:Int} {it:FItem} {mod nm:List UInt8} {len:Nat} (h:findT σ mod nm=some (m,it)):resS σ 1 mod nm len=if m = -1∨it.kind=2 then ⟨1,0,m,it.pl,0⟩ else ⟨1,0,0,0,7⟩:=by
 unfold resS
 rw [if_pos (by decide),h]
 by_cases h1:m = -1∨it.kind=2
 · simp [h1]
 · simp [h1,show ¬m = -1 from fun e=>h1 (.inl e)]
theorem resS_2e {σ:Scp} {mod nm:List UInt8} {len:Nat} (h:plErr σ mod nm 3 0≠0):(resS σ 2 mod nm len).e=plErr σ mod nm 3 0:=by
 cases hf:findT σ mod nm with
 | none=>rw [resS_no (by simp) hf,pl_none hf]
 | some i=>
   obtain ⟨m,it⟩:=i
   have hm:=findT_m hf
   rw [pl_some hf] at h ⊢
   unfold resS
   rw [if_pos (by decide),hf]
   by_cases h1:m = -1
   · simp [h1]
   · by_cases h2:it.kind=3
     · exact absurd (by rw [if_neg (by omega),if_neg (by omega)]) h
     · simp [h1,h2]
theorem resS_2 {σ:Scp} {m:Int} {it:FItem} {mod nm:List UInt8} {len:Nat} (hf:findT σ mod nm=some (m,it)) (h:plErr σ mod nm 3 0=0):resS σ 2 mod nm len=⟨2,it.n,m,it.pl,0⟩:=by
 rw [pl_some hf] at h
 have hm:=findT_m hf
 have h1:0≤m∧it.kind=3:=by
   by_cases hc:0≤m∧it.kind=3
   · exact hc
   · rw [if_pos hc] at h; cases h
 unfold resS
 rw [if_pos (by decide),hf]
 simp [h1.2,show ¬m = -1 by omega]
theorem resS_3e {σ:Scp} {mod nm:List UInt8} {len:Nat} (h:plErr σ mod nm 4 (len:Int)≠0):(resS σ 3 mod nm len).e=plErr σ mod nm 4 (len:Int):=by
 cases hf:findT σ mod nm with
 | none=>rw [resS_no (by simp) hf,pl_none hf]
 | some i=>
   obtain ⟨m,it⟩:=i
   have hm:=findT_m hf
   rw [pl_some hf] at h ⊢
   unfold resS
   rw [if_pos (by decide),hf]
   by_cases h1:m = -1
   · simp [h1]
   · by_cases h2:it.kind=4
     · by_cases h3:it.n=(len:Int)
       · exact absurd (by rw [if_neg (by omega),if_neg (by omega)]) h
       · simp [h1,h2,h3,show 0≤m by omega]
     · simp [h1,h2]
theorem resS_3 {σ:Scp} {m:Int} {it:FItem} {mod nm:List UInt8} {len:Nat} (hf:findT σ mod nm=some (m,it)) (h:plErr σ mod nm 4 (len:Int)=0):resS σ 3 mod nm len=⟨3,0,m,it.pl,0⟩:=by
 rw [pl_some hf] at h
 have hm:=findT_m hf
 have h1:0≤m∧it.kind=4:=by
   by_cases hc:0≤m∧it.kind=4
   · exact hc
   · rw [if_pos hc] at h; cases h
 have h2:it.n=(len:Int):=by
   rw [if_neg (fun hc=>hc h1)] at h
   by_cases hc:it.n=(len:Int)
   · exact hc
   · rw [if_pos ⟨rfl,hc⟩] at h; cases h
 unfold resS
 rw [if_pos (by decide),hf]
 simp [h1.2,h2,show ¬m = -1 by omega]
structure GX (X:Type) where
 i:Nat
 es:List X
 a:Option Addr
 c:Nat
 J:View
theorem en163:Enters Tryz.prog 163:=enters_of Tryz.func163 (by kernel_rfl) rfl
theorem zr238:zeroOf Tryz.prog 238=some (.agg #[.int .i64 0,.int .i64 0,.int .i64 0,.int .i64 0,.slice none 0 0]):=by kernel_rfl
theorem pl238:placesP Tryz.prog 238=some [(0,1),(1,1),(2,1),(3,1),(4,1)]:=by kernel_rfl
theorem sz238:sizeP Tryz.prog 238=some 5:=by kernel_rfl
theorem fo238_0:fieldOff Tryz.prog 238 0=some 0:=by kernel_rfl
theorem fo238_3:fieldOff Tryz.prog 238 3=some 3:=by kernel_rfl
theorem fo238_1:fieldOff Tryz.prog 238 1=some 1:=by kernel_rfl
theorem fo238_2:fieldOff Tryz.prog 238 2=some 2:=by kernel_rfl
theorem en164:Enters Tryz.prog 164:=enters_of Tryz.func164 (by kernel_rfl) rfl
theorem en165:Enters Tryz.prog 165:=enters_of Tryz.func165 (by kernel_rfl) rfl
theorem fo238_4:fieldOff Tryz.prog 238 4=some 4:=by kernel_rfl
theorem sz189:sizeP Tryz.prog 189=some 1:=by kernel_rfl
theorem ag238:aggOf Tryz.prog 238=some 5:=by kernel_rfl
theorem scPlace_any (HS:View) (sb:Nat) (σ:Scp) (w:World) (hHS:Le HS w) (hS:Slv HS sb σ) (mod nm:List UInt8) (kind args:Int) :
   Calls Tryz.prog 164 #[.pointer (some ⟨sb,0,none⟩),st mod,st nm,.int .i64 kind,.int .i64 args] w fun e w'=>(∃i:Int×FItem,e = .returned (.tuple #[.int .i64 i.1,.agg i.2.cells.toArray])∧Ext w w'∧findT σ mod nm=some i∧plErr σ mod nm kind args=0)∨(∃_:Unit,e = .panicked (refd (plErr σ mod nm kind args))∧Ext w w'∧plErr σ mod nm kind args≠0):=by
 refine enter Tryz.func164 O 41 O O ?_
 refine CE (Vs:=[HS]) (Ws.init (by simp [hHS])) ?_
 refine Cs (Cr (V0 (Ya O) ?_))
 refine Al Y O zr232 fun b11=>?_
 refine Ln (Et (Cs (Cr (V0 (Ym O) (V0 (Ym O) (V0 (Ym O) ?_))))))
 refine WL.callpx (ι:=Int×FItem) (κ:=Unit) Y O en163 O (fun i=>.tuple #[.int .i64 i.1,.agg i.2.cells.toArray]) (fun i=>findT σ mod nm=some i) (fun _=>refd 5) (fun _=>findT σ mod nm=none) (fun w hw=>scFind_any HS sb σ w (hw.vs _ (by simp)) hS mod nm) ?_ ?_
 ·
  intro _ hp
  refine Ep ?_
  refine Epp fun w' hw=>?_
  rw [pl_none hp]
  exact .inr ⟨(),O,hw.fr,by decide⟩
 intro ⟨m18,it18⟩ hf18
 have hs18:=pl_some (kind:=kind) (args:=args) hf18
 refine V0 (Ym O) (V0 (Yx O O) (V0 (Yx O O) ?_))
 refine Al Y O zr232 fun b13=>?_
 refine V0 (Ya O) (Lst 0 Y O O O sz232 O O O (Ln (Et (Cs (Cr (V0 (Ym O) (V0 (yl_ge O O) (V0 (Ym O) ?_))))))))
 apply La 4 O O O O Y O O O O O
 ·
  intro hg0
  refine Vg (Yf fo232_0 O) (Vg (Yd 0 O O O na3) (Vg (Ym O) (Vg (yl_eq O O) ?_)))
  exact Gt 4 O O O
 refine WL.callpx (ι:=Unit) (κ:=Unit) Y O en115 O (fun _=>.tuple #[]) (fun _=>_=true) (fun _=>refd _) (fun _=>_=false) (fun w hw=>scMust_any _ _ w) ?_ ?_
 ·
  intro _ hp
  refine Ep ?_
  refine Epp fun w' hw=>?_
  have h7:¬(0≤m18∧it18.kind=kind):=by rintro ⟨h1,h2⟩; simp [h1,h2] at hp
  rw [if_pos h7] at hs18
  rw [hs18]
  exact .inr ⟨(),O,hw.fr,by decide⟩
 intro _ hm29
 have h7:0≤m18∧it18.kind=kind:=by simpa using hm29
 rw [if_neg (fun hc=>hc h7)] at hs18
 refine Ln (Et (Cs (Cr (V0 (Ym O) (V0 (yl_ne O O) (V0 (Ym O) ?_))))))
 apply Lo 4 O O O O Y O O O O O
 ·
  intro hg1
  refine Vg (Yf fo232_1 O) (Vg (Yd 0 O O O na3) (Vg (Ym O) (Vg (yl_eq O O) ?_)))
  exact Gt 4 O O O
 refine WL.callpx (ι:=Unit) (κ:=Unit) Y O en115 O (fun _=>.tuple #[]) (fun _=>_=true) (fun _=>refd _) (fun _=>_=false) (fun w hw=>scMust_any _ _ w) ?_ ?_
 ·
  intro _ hp
  refine Ep ?_
  refine Epp fun w' hw=>?_
  have h8:kind=4∧¬it18.n=args:=by simpa using hp
  rw [if_pos h8] at hs18
  rw [hs18]
  exact .inr ⟨(),O,hw.fr,by decide⟩
 intro _ hm38
 refine Ln (Et (Cs ?_))
 refine WC.draws1 1 [(0,true),(1,true),(2,true),(3,false)] mixed (by kernel_rfl) (fun _ _ _ d _ h=>by cases d<;>exact h) ?_
 refine D0 O (Wp 1) (Ym O) (D0 O (Wp 1) (Yda 0 O O ag232 O) (D0 O (Wp 1) (Ya O) ?_))
 refine De O (Wp 1) ?_
 refine Lst 1 Y O O O sz232 O O O (Ln (Ed ?_))
 refine WD.nil (Wp 1) ?_
 refine Et (Crt ?_)
 refine WE.retR (rs_2 O (rv_tmp O) (rv_agg 1 O O ag232 O)) fun w' hw=>?_
 have h8:¬(kind=4∧¬it18.n=args):=by rintro ⟨h1,h2⟩; simp [h1,h2] at hm38
 rw [if_neg h8] at hs18
 exact .inl ⟨(m18,it18),O,hw.fr,hf18,hs18⟩
theorem scNode_any (HS HE:View) (sb:Nat) (σ:Scp) (k:Nat) (x:TExpr) (a:Option Addr) (c:Nat) (w:World) (hHS:Le HS w) (hHE:Le HE w) (hS:Slv HS sb σ) (hN:ScNodes HS sb σ k) (hm:Sl (RdE k) 5 HE a c x.args) (hwt:wE x≤109951162777) :
   Calls Tryz.prog 175 #[.pointer (some ⟨sb,0,none⟩),.agg (exprV x a c).toArray] w fun e w'=>(∃r:SP,e = .returned (.agg (nodeV (nodeT σ x) r.1 r.2).toArray)∧Ext w w'∧errE σ x=0∧SlN (k+1) (nv w w') (nodeT σ x,r))∨(∃_:Unit,e = .panicked (refd (errE σ x))∧Ext w w'∧errE σ x≠0):=by
 have hwe:=wE_eq x
 have hcap:=hm.cap
 have hmax:=hm.max
 refine enter Tryz.func175 O 98 O O ?_
 refine CE (Vs:=[HE,HS]) (Ws.init (by simp [hHE,hHS])) ?_
 refine Cs (Cr ?_)
 refine WL.box Y O O fun b3=>?_
 refine Al Y O zr238 fun b4=>?_
 refine Ln (Et (Cs (Cr (V0 (Yf fo220_0 O) (V0 (Yd 1 O O O na3) (V0 (Yf fo220_1 O) (V0 (Yd 1 O O O na3) (V0 (Yb zr238 pl238 O O) ?_))))))))
 refine Al Y O zr238 fun b5=>?_
 refine Lst 0 Y O O O sz238 O O O (Ln (Et ?_))
 refine WC.cutE (ι:=Unit) (fun _u=>[(0,.pointer (some ⟨sb,0,none⟩)),(3,.pointer (some ⟨b3,0,none⟩)),(4,.pointer (some ⟨b4,0,none⟩)),(5,.pointer (some ⟨b5,0,none⟩))]) (fun _u=>Ws w [] [blk b5 (.cells #[.int .i64 (resE σ x.op x.n x.mod x.nm x.args.length).op,.int .i64 (resE σ x.op x.n x.mod x.nm x.args.length).n,.int .i64 (resE σ x.op x.n x.mod x.nm x.args.length).m,.int .i64 (resE σ x.op x.n x.mod x.nm x.args.length).pl,.slice none 0 0] 238 (0,0)),blk b4 (.cells #[.int .i64 0,.int .i64 0,.int .i64 0,.int .i64 0,.slice none 0 0] 238 (0,0)),blk b3 (.cells (exprV x a c).toArray 220 (0,0))] [HE,HS]) (fun _u=>(resE σ x.op x.n x.mod x.nm x.args.length).e=0) ?_ ?_
 ·
  refine Cs (Cr (V0 (Yf fo220_0 O) (V0 (Yd 2 O O O na3) (Ln (Et (Cb (Cs (Cr (V0 (yl_eq O O) (V0 (Ya O) ?_))))))))))
  refine Ln (Et ?_)
  refine Cc O (fun hc0=>?_) (fun hc0=>?_)
  ·
   have hop:x.op=3:=by simpa using hc0
   refine Cs (Cr (V0 (Ym O) (V0 (Yf fo220_2 O) (V0 (Yd 2 O O O na9) (V0 (Yf fo220_3 O) (V0 (Yd 2 O O O na9) ?_))))))
   refine WL.callpx (ι:=Int×FItem) (κ:=Unit) Y O en163 O (fun i=>.tuple #[.int .i64 i.1,.agg i.2.cells.toArray]) (fun i=>findT σ x.mod x.nm=some i) (fun _=>refd 5) (fun _=>findT σ x.mod x.nm=none) (fun w hw=>scFind_any HS sb σ w (hw.vs _ (by simp)) hS x.mod x.nm) ?_ ?_
   ·
    intro _ hp
    refine Ep (WE.block_panic (Ep ?_))
    refine Epp fun w' hw=>?_
    have he:errE σ x=5:=by rw [errE_eq,resE_no (by omega) hp]; rfl
    rw [he]
    exact .inr ⟨(),O,hw.fr,by decide⟩
   intro ⟨m27,it27⟩ hf27
   have hr3:=resE_3 (n:=x.n) (len:=x.args.length) hf27
   have hmm:=findT_m hf27
   rw [←hop] at hr3
   refine V0 (Ym O) (V0 (Yx O O) (V0 (Yx O O) ?_))
   refine Al Y O zr232 fun b7=>?_
   refine V0 (Ya O) (Lst 0 Y O O O sz232 O O O (Ln (Et (Cb (Cs (Cr (V0 (Ym O) (V0 (yl_lt O O) (V0 (Ya O) ?_)))))))))
   refine Ln (Et ?_)
   refine Cc O (fun hc1=>?_) (fun hc1=>?_)
   ·
    have hneg:m27 = -1:=by simp at hc1; omega
    have hres:(resE σ x.op x.n x.mod x.nm x.args.length)=⟨16,x.n,0,it27.pl,0⟩:=by rw [hr3,if_pos hneg]
    refine WC.draws1 1 [(0,true),(1,true),(2,true),(3,false),(4,false),(5,false)] mixed (by kernel_rfl) (fun _ _ _ d _ h=>by cases d<;>exact h) ?_
    refine D0 O (Wp 1) (Yf fo232_2 O) (D0 O (Wp 1) (Yd 0 O O O na3) (D0 O (Wp 1) (Yf fo238_0 O) ?_))
    refine De O (Wp 1) ?_
    refine Lst 1 Y O O O sz3 O O O (Ln (Ed ?_))
    refine De O (Wp 1) ?_
    refine V0 (Yf fo238_3 O) (Ln (Ed ?_))
    refine De O (Wp 1) ?_
    refine Lst 1 Y O O O sz3 O O O (Ln (Ed ?_))
    refine WD.nil (Wp 1) ?_
    refine Eb (Eb ?_)
    refine WE.reblk 1 (.cells #[.int .i64 (resE σ x.op x.n x.mod x.nm x.args.length).op,.int .i64 (resE σ x.op x.n x.mod x.nm x.args.length).n,.int .i64 (resE σ x.op x.n x.mod x.nm x.args.length).m,.int .i64 (resE σ x.op x.n x.mod x.nm x.args.length).pl,.slice none 0 0] 238 (0,0)) O (by rw [hres]; rfl) ?_
    exact Em () (by rw [hres]) (sc O (sc O (sc O (sc O sn)))) (fun _ h=>by
      have h:=h.fronti 3 rfl
      have h:=h.fronti 3 rfl
      have h:=h.fronti 3 rfl
      have h:=Wt 3 h
      exact h)
   have hneg:¬m27 = -1:=by simp at hc1; omega
   rw [if_neg hneg] at hr3
   refine Cs (Cr (V0 (Yf fo232_0 O) (V0 (Yd 0 O O O na3) (V0 (yl_eq O O) (V0 (Ya O) (Ln (Et ?_)))))))
   refine Cc O (fun hc2=>?_) (fun hc2=>?_)
   ·
    have hk1:it27.kind=1:=by simpa using hc2
    have hres:(resE σ x.op x.n x.mod x.nm x.args.length)=⟨1,it27.n,0,0,0⟩:=by rw [hr3,if_pos hk1]
    refine WC.draws1 1 [(0,true),(1,true),(2,true),(3,false),(4,false),(5,false)] mixed (by kernel_rfl) (fun _ _ _ d _ h=>by cases d<;>exact h) ?_
    refine D0 O (Wp 1) (Yf fo232_1 O) (D0 O (Wp 1) (Yd 0 O O O na3) (D0 O (Wp 1) (Yf fo238_0 O) ?_))
    refine De O (Wp 1) ?_
    refine Lst 1 Y O O O sz3 O O O (Ln (Ed ?_))
    refine De O (Wp 1) ?_
    refine V0 (Yf fo238_1 O) (Ln (Ed ?_))
    refine De O (Wp 1) ?_
    refine Lst 1 Y O O O sz3 O O O (Ln (Ed ?_))
    refine WD.nil (Wp 1) ?_
    refine Eb (Eb ?_)
    refine WE.reblk 1 (.cells #[.int .i64 (resE σ x.op x.n x.mod x.nm x.args.length).op,.int .i64 (resE σ x.op x.n x.mod x.nm x.args.length).n,.int .i64 (resE σ x.op x.n x.mod x.nm x.args.length).m,.int .i64 (resE σ x.op x.n x.mod x.nm x.args.length).pl,.slice none 0 0] 238 (0,0)) O (by rw [hres]; rfl) ?_
    exact Em () (by rw [hres]) (sc O (sc O (sc O (sc O sn)))) (fun _ h=>by
      have h:=h.fronti 3 rfl
      have h:=h.fronti 3 rfl
      have h:=h.fronti 3 rfl
      have h:=Wt 3 h
      exact h)
   have hk1:¬it27.kind=1:=by simpa using hc2
   rw [if_neg hk1] at hr3
   refine Cs (Cr (V0 (Yf fo232_0 O) (V0 (Yd 0 O O O na3) (V0 (yl_eq O O) ?_))))
   refine WL.callpx (ι:=Unit) (κ:=Unit) Y O en115 O (fun _=>.tuple #[]) (fun _=>_=true) (fun _=>refd _) (fun _=>_=false) (fun w hw=>scMust_any _ _ w) ?_ ?_
   ·
    intro _ hp
    refine Ep (WE.block_panic (WE.block_panic (Ep ?_)))
    refine Epp fun w' hw=>?_
    have hk2:¬it27.kind=2:=by simpa using hp
    rw [if_neg hk2] at hr3
    have he:errE σ x=7:=by rw [errE_eq,hr3]; rfl
    rw [he]
    exact .inr ⟨(),O,hw.fr,by decide⟩
   intro _ hm33
   have hk2:it27.kind=2:=by simpa using hm33
   have hres:(resE σ x.op x.n x.mod x.nm x.args.length)=⟨x.op,x.n,m27,it27.pl,0⟩:=by rw [hr3,if_pos hk2,hop]
   refine Ln (Et ?_)
   refine WC.draws1 1 [(0,true),(1,true),(2,true),(3,true),(4,false),(5,false),(6,false)] mixed (by kernel_rfl) (fun _ _ _ d _ h=>by cases d<;>exact h) ?_
   refine D0 O (Wp 1) (Ym O) (D0 O (Wp 1) (Yf fo232_2 O) (D0 O (Wp 1) (Yd 0 O O O na3) (D0 O (Wp 1) (Yf fo238_2 O) ?_)))
   refine De O (Wp 1) ?_
   refine Lst 1 Y O O O sz3 O O O (Ln (Ed ?_))
   refine De O (Wp 1) ?_
   refine V0 (Yf fo238_3 O) (Ln (Ed ?_))
   refine De O (Wp 1) ?_
   refine Lst 1 Y O O O sz3 O O O (Ln (Ed ?_))
   refine WD.nil (Wp 1) ?_
   refine Eb (Eb ?_)
   refine WE.reblk 1 (.cells #[.int .i64 (resE σ x.op x.n x.mod x.nm x.args.length).op,.int .i64 (resE σ x.op x.n x.mod x.nm x.args.length).n,.int .i64 (resE σ x.op x.n x.mod x.nm x.args.length).m,.int .i64 (resE σ x.op x.n x.mod x.nm x.args.length).pl,.slice none 0 0] 238 (0,0)) O (by rw [hres]; rfl) ?_
   exact Em () (by rw [hres]) (sc O (sc O (sc O (sc O sn)))) (fun _ h=>by
     have h:=h.fronti 3 rfl
     have h:=h.fronti 3 rfl
     have h:=h.fronti 3 rfl
     have h:=Wt 3 h
     exact h)
  have h3:¬x.op=3:=by simpa using hc0
  refine Cs (Cr (V0 (yl_eq O O) (V0 (Ya O) (Ln (Et ?_)))))
  refine Cc O (fun hc3=>?_) (fun hc3=>?_)
  ·
   have hop:x.op=4:=by simpa using hc3
   refine Cs (Cr (V0 (Ym O) (V0 (Yf fo220_2 O) (V0 (Yd 2 O O O na9) (V0 (Yf fo220_3 O) (V0 (Yd 2 O O O na9) ?_))))))
   refine WL.callpx (ι:=Int×FItem) (κ:=Unit) Y O en164 O (fun i=>.tuple #[.int .i64 i.1,.agg i.2.cells.toArray]) (fun i=>findT σ x.mod x.nm=some i∧plErr σ x.mod x.nm 3 0=0) (fun _=>refd (plErr σ x.mod x.nm 3 0)) (fun _=>plErr σ x.mod x.nm 3 0≠0) (fun w hw=>scPlace_any HS sb σ w (hw.vs _ (by simp)) hS x.mod x.nm 3 0) ?_ ?_
   ·
    intro _ hp
    refine Ep (WE.block_panic (Ep ?_))
    refine Epp fun w' hw=>?_
    have he:errE σ x=plErr σ x.mod x.nm 3 0:=by rw [errE_eq,hop,resE_4e hp,er_ne hp]
    rw [he]
    exact .inr ⟨(),O,hw.fr,hp⟩
   intro ⟨m62,it62⟩ ⟨hf62,hq62⟩
   have hres:(resE σ x.op x.n x.mod x.nm x.args.length)=⟨x.op,it62.n,m62,it62.pl,0⟩:=by rw [hop]; exact resE_4 hf62 hq62
   refine V0 (Ym O) (V0 (Yx O O) (V0 (Yx O O) ?_))
   refine Al Y O zr232 fun b9=>?_
   refine V0 (Ya O) (Lst 0 Y O O O sz232 O O O (Ln (Et ?_)))
   refine WC.draws1 1 [(0,true),(1,true),(2,true),(3,true),(4,true),(5,true),(6,false),(7,false),(8,false),(9,false),(10,false)] mixed (by kernel_rfl) (fun _ _ _ d _ h=>by cases d<;>exact h) ?_
   refine D0 O (Wp 1) (Ym O) (D0 O (Wp 1) (Yf fo232_2 O) (D0 O (Wp 1) (Yd 0 O O O na3) (D0 O (Wp 1) (Yf fo232_1 O) (D0 O (Wp 1) (Yd 0 O O O na3) (D0 O (Wp 1) (Yf fo238_2 O) ?_)))))
   refine De O (Wp 1) ?_
   refine Lst 1 Y O O O sz3 O O O (Ln (Ed ?_))
   refine De O (Wp 1) ?_
   refine V0 (Yf fo238_3 O) (Ln (Ed ?_))
   refine De O (Wp 1) ?_
   refine Lst 1 Y O O O sz3 O O O (Ln (Ed ?_))
   refine De O (Wp 1) ?_
   refine V0 (Yf fo238_1 O) (Ln (Ed ?_))
   refine De O (Wp 1) ?_
   refine Lst 1 Y O O O sz3 O O O (Ln (Ed ?_))
   refine WD.nil (Wp 1) ?_
   refine Eb ?_
   refine WE.reblk 1 (.cells #[.int .i64 (resE σ x.op x.n x.mod x.nm x.args.length).op,.int .i64 (resE σ x.op x.n x.mod x.nm x.args.length).n,.int .i64 (resE σ x.op x.n x.mod x.nm x.args.length).m,.int .i64 (resE σ x.op x.n x.mod x.nm x.args.length).pl,.slice none 0 0] 238 (0,0)) O (by rw [hres]; rfl) ?_
   exact Em () (by rw [hres]) (sc O (sc O (sc O (sc O sn)))) (fun _ h=>by
     have h:=h.fronti 3 rfl
     have h:=h.fronti 3 rfl
     have h:=h.fronti 3 rfl
     have h:=Wt 3 h
     exact h)
  have h4:¬x.op=4:=by simpa using hc3
  refine Cs (Cr (V0 (yl_eq O O) (V0 (Ya O) (Ln (Et ?_)))))
  refine Cc O (fun hc4=>?_) (fun hc4=>?_)
  ·
   have hop:x.op=5:=by simpa using hc4
   refine Cs (Cr (V0 (Ym O) (V0 (Yf fo220_2 O) (V0 (Yd 2 O O O na9) (V0 (Yf fo220_3 O) (V0 (Yd 2 O O O na9) ?_))))))
   refine V0 (Yf fo220_4 O) (V0 (Yd 2 O O O na218) (V0 (Yn es218 O) ?_))
   refine WL.callpx (ι:=Int×FItem) (κ:=Unit) Y O en164 O (fun i=>.tuple #[.int .i64 i.1,.agg i.2.cells.toArray]) (fun i=>findT σ x.mod x.nm=some i∧plErr σ x.mod x.nm 4 (x.args.length:Int)=0) (fun _=>refd (plErr σ x.mod x.nm 4 (x.args.length:Int))) (fun _=>plErr σ x.mod x.nm 4 (x.args.length:Int)≠0) (fun w hw=>scPlace_any HS sb σ w (hw.vs _ (by simp)) hS x.mod x.nm 4 (x.args.length:Int)) ?_ ?_
   ·
    intro _ hp
    refine Ep (WE.block_panic (Ep ?_))
    refine Epp fun w' hw=>?_
    have he:errE σ x=plErr σ x.mod x.nm 4 (x.args.length:Int):=by rw [errE_eq,hop,resE_5e hp,er_ne hp]
    rw [he]
    exact .inr ⟨(),O,hw.fr,hp⟩
   intro ⟨m84,it84⟩ ⟨hf84,hq84⟩
   have hres:(resE σ x.op x.n x.mod x.nm x.args.length)=⟨x.op,x.n,m84,it84.pl,0⟩:=by rw [hop]; exact resE_5 hf84 hq84
   refine V0 (Ym O) (V0 (Yx O O) (V0 (Yx O O) ?_))
   refine Al Y O zr232 fun b11=>?_
   refine V0 (Ya O) (Lst 0 Y O O O sz232 O O O (Ln (Et ?_)))
   refine WC.draws1 1 [(0,true),(1,true),(2,true),(3,true),(4,false),(5,false),(6,false)] mixed (by kernel_rfl) (fun _ _ _ d _ h=>by cases d<;>exact h) ?_
   refine D0 O (Wp 1) (Ym O) (D0 O (Wp 1) (Yf fo232_2 O) (D0 O (Wp 1) (Yd 0 O O O na3) (D0 O (Wp 1) (Yf fo238_2 O) ?_)))
   refine De O (Wp 1) ?_
   refine Lst 1 Y O O O sz3 O O O (Ln (Ed ?_))
   refine De O (Wp 1) ?_
   refine V0 (Yf fo238_3 O) (Ln (Ed ?_))
   refine De O (Wp 1) ?_
   refine Lst 1 Y O O O sz3 O O O (Ln (Ed ?_))
   refine WD.nil (Wp 1) ?_
   refine Eb ?_
   refine WE.reblk 1 (.cells #[.int .i64 (resE σ x.op x.n x.mod x.nm x.args.length).op,.int .i64 (resE σ x.op x.n x.mod x.nm x.args.length).n,.int .i64 (resE σ x.op x.n x.mod x.nm x.args.length).m,.int .i64 (resE σ x.op x.n x.mod x.nm x.args.length).pl,.slice none 0 0] 238 (0,0)) O (by rw [hres]; rfl) ?_
   exact Em () (by rw [hres]) (sc O (sc O (sc O (sc O sn)))) (fun _ h=>by
     have h:=h.fronti 3 rfl
     have h:=h.fronti 3 rfl
     have h:=h.fronti 3 rfl
     have h:=Wt 3 h
     exact h)
  have h5:¬x.op=5:=by simpa using hc4
  have hres:(resE σ x.op x.n x.mod x.nm x.args.length)=⟨x.op,x.n,0,0,0⟩:=resE_0 h3 h4 h5
  refine Ck (Eb ?_)
  refine WE.reblk 0 (.cells #[.int .i64 (resE σ x.op x.n x.mod x.nm x.args.length).op,.int .i64 (resE σ x.op x.n x.mod x.nm x.args.length).n,.int .i64 (resE σ x.op x.n x.mod x.nm x.args.length).m,.int .i64 (resE σ x.op x.n x.mod x.nm x.args.length).pl,.slice none 0 0] 238 (0,0)) O (by rw [hres]; rfl) ?_
  exact Em () (by rw [hres]) (sc O (sc O (sc O (sc O sn)))) (fun _ h=>by
    have h:=h.fronti 2 rfl
    have h:=h.fronti 2 rfl
    have h:=h.fronti 2 rfl
    exact h)
 intro _ hR0
 refine Cs (Cr (V0 (Ym O) (V0 (Yf fo220_4 O) (V0 (Yd 2 O O O na218) ?_))))
 refine WL.calldx (ι:=SP) (κ:=Unit) Y O en165 O (fun r=>.slice r.1 (nodesT σ x.args).length r.2) (fun F r=>errEs σ x.args=0∧Sl (RdN (k+1)) 5 F r.1 r.2 (nodesT σ x.args)) (fun _=>refd (errEs σ x.args)) (fun _=>errEs σ x.args≠0) (fun w hw=>hN HE x.args a c w (hw.vs _ (by simp)) (hw.vs _ (by simp)) hm (by omega)) ?_ ?_
 ·
  intro _ hp
  refine Ep ?_
  refine Epp fun w' hw=>?_
  have he:errE σ x=errEs σ x.args:=by rw [errE_eq,hR0,er_0]
  rw [he]
  exact .inr ⟨(),O,hw.fr,hp⟩
 intro F95 r95 hfr95 ⟨he95,h95⟩
 refine V0 (Yf fo238_4 O) (Lst 0 Y O O O sz189 O O O (Ln (Et (Cs (Cr (V0 (Yda 0 O O ag238 O) (Lst 1 Y O O O sz238 O O O (Ln (Et (Crt ?_))))))))))
 refine WE.retR (rs_1 O (rv_agg 1 O O ag238 O)) fun w' hw=>?_
 rw [nodeT_eq]
 exact .inl ⟨r95,O,hw.fr,by rw [errE_eq,hR0,er_0,he95],slN_mv h95 (nv_vs hw (by simp) hfr95)⟩
def ScActs (HS:View) (sb:Nat) (σ:Scp) (ke k:Nat):Prop:=∀(HE:View) (l:List TStmt) (a:Option Addr) (c:Nat) (w:World),Le HS w→Le HE w→Sl (RdS ke k) 6 HE a c l→wSs l≤109951162777→
 Calls Tryz.prog 118 #[.pointer (some ⟨sb,0,none⟩),.slice a l.length c] w fun e w'=>(∃r:SP,e = .returned (.slice r.1 (actsT σ l).length r.2)∧Ext w w'∧errSs σ l=0∧Sl (RdA (ke+1) (k+1)) 7 (nv w w') r.1 r.2 (actsT σ l))∨(∃_:Unit,e = .panicked (refd (errSs σ l))∧Ext w w'∧errSs σ l≠0)
theorem map_snoc {X T S:Type} {f:X→T} {g:S→T} {es:List X} {l:List S} {i:Nat} {x:S} {e:X} (h:es.map f=(l.take i).map g) (hx:l[i]? = some x) (he:f e=g x):(es++[e]).map f=(l.take (i+1)).map g:=by
 rw [take_snoc hx]; simp [h,he]
theorem map_len {X T S:Type} {f:X→T} {g:S→T} {es:List X} {l:List S} {i:Nat} (h:es.map f=(l.take i).map g) (hi:i≤l.length):es.length=i:=by
 have:=congrArg List.length h
 simpa [Nat.min_eq_left hi] using this
theorem map_all {X T S:Type} {f:X→T} {g:S→T} {es:List X} {l:List S} {i:Nat} (h:es.map f=(l.take i).map g) (hi:i=l.length):es.map f=l.map g:=by subst hi; simpa using h
theorem en175:Enters Tryz.prog 175:=enters_of Tryz.func175 (by kernel_rfl) rfl
theorem el189:EltOk Tryz.prog 189 238 (.agg #[.int .i64 0,.int .i64 0,.int .i64 0,.int .i64 0,.slice none 0 0]) 5 56:=eltOk_of (by kernel_rfl)
theorem zr191:zeroOf Tryz.prog 191=some (.agg #[.int .i64 0,.int .i64 0,.int .i64 0,.int .i64 0,.slice none 0 0,.slice none 0 0,.slice none 0 0]):=by kernel_rfl
theorem pl191:placesP Tryz.prog 191=some [(0,1),(1,1),(2,1),(3,1),(4,1),(5,1),(6,1)]:=by kernel_rfl
theorem sz191:sizeP Tryz.prog 191=some 7:=by kernel_rfl
theorem fo191_2:fieldOff Tryz.prog 191 2=some 2:=by kernel_rfl
theorem fo191_3:fieldOff Tryz.prog 191 3=some 3:=by kernel_rfl
theorem fo191_1:fieldOff Tryz.prog 191 1=some 1:=by kernel_rfl
theorem fo191_4:fieldOff Tryz.prog 191 4=some 4:=by kernel_rfl
theorem en118:Enters Tryz.prog 118:=enters_of Tryz.func118 (by kernel_rfl) rfl
theorem fo191_5:fieldOff Tryz.prog 191 5=some 5:=by kernel_rfl
theorem sz56:sizeP Tryz.prog 56=some 1:=by kernel_rfl
theorem fo191_6:fieldOff Tryz.prog 191 6=some 6:=by kernel_rfl
theorem ag191:aggOf Tryz.prog 191=some 7:=by kernel_rfl
theorem en140:Enters Tryz.prog 140:=enters_of Tryz.func140 (by kernel_rfl) rfl
theorem el56:EltOk Tryz.prog 56 191 (.agg #[.int .i64 0,.int .i64 0,.int .i64 0,.int .i64 0,.slice none 0 0,.slice none 0 0,.slice none 0 0]) 7 104:=eltOk_of (by kernel_rfl)
theorem scNodes_any (HS HE:View) (sb:Nat) (σ:Scp) (hS:Slv HS sb σ) (k:Nat) (l:List TExpr) (a:Option Addr) (c:Nat) (w:World) (hHS:Le HS w) (hHE:Le HE w) (hm:Sl (RdE k) 5 HE a c l) (hwt:wEs l≤109951162777) :
   Calls Tryz.prog 165 #[.pointer (some ⟨sb,0,none⟩),.slice a l.length c] w fun e w'=>(∃r:SP,e = .returned (.slice r.1 (nodesT σ l).length r.2)∧Ext w w'∧errEs σ l=0∧Sl (RdN (k+1)) 5 (nv w w') r.1 r.2 (nodesT σ l))∨(∃_:Unit,e = .panicked (refd (errEs σ l))∧Ext w w'∧errEs σ l≠0):=by
 induction k using Nat.strongRecOn generalizing HE l a c w
 rename_i k ih
 have hcap:=hm.cap
 have hmax:=hm.max
 have hlw:=wEs_len l
 refine enter Tryz.func165 O 22 O O ?_
 refine CE (Vs:=[HE,HS]) (Ws.init (by simp [hHE,hHS])) ?_
 refine Cs (Cr (V0 (Ya O) (Ln (Et (Cs (Cr (V0 (Ya O) ?_)))))))
 refine LW (fun _ h=>h.osl_nil 238 5) ?_
 refine WL.v0 ?_
 refine Ln (Et (Cs (Cs (Cr (V0 (Ym O) (V0 (Yn es218 O) (V0 (Ym O) (Ln (Et (Cb ?_))))))))))
 refine CLk (ι:=GX XN) (fun g=>[(10,.int .i64 (g.i:Int)),(5,.slice g.a g.es.length g.c)]) [(0,_),(4,_),(8,_),(9,_)] (fun g=>Ws w [] [osT 238 5 XN.cells g.a g.c g.es] [g.J,HE,HS]) (fun g=>g.i≤l.length∧g.es.map (·.1)=(l.take g.i).map (nodeT σ)∧ers (errE σ) (l.take g.i)=0∧(Fresh w g.J∧Xs (SlN k) g.J g.es)) (fun g=>l.length-g.i) ⟨0,[],none,0,v0⟩ ⟨Nat.zero_le _,O,O,⟨v0_fresh w,Xs.nil _⟩⟩ (sc O (sc O (sc O (sc O (sc O (sc O sn)))))) (fun _ h=>by have h:=Ws.drops h (Vs':=[v0,HE,HS]) (by simp); exact h) ?_
 intro g ⟨hi,hmap,hers,⟨hfJ,hX⟩⟩
 refine Cs (Cr (V0 (yl_lt O O) (Ln (Et (Cs ?_)))))
 refine Cc O (fun hc0=>?_) (fun hc0=>?_)
 ·
  have hlt:g.i<l.length:=by simpa using hc0
  obtain ⟨y,hyi⟩:∃q,l[g.i]? = some q:=⟨_,List.getElem?_eq_getElem hlt⟩
  obtain ⟨pby,poy,hay,hry⟩:=hm.elt g.i y hyi
  obtain ⟨k2,rfl⟩:∃k2,k=k2+1:=by
    cases k with
    | zero=>exact hry.elim
    | succ k2=>exact ⟨k2,rfl⟩
  obtain ⟨ya,yn,hrow,hsub⟩:=hry
  have hel:=map_len hmap hi
  refine Ck (Et (Cs (Cb (Cs (Cr ?_)))))
  refine V0 (Yo es218 O O hay (by omega)) ?_
  refine V0 (yl_lda 1 ag220 O O O (hrow)) ?_
  refine Al Y O zr220 fun b7=>?_
  refine Lst 0 Y O O O sz220 O O O (Ln (Et (Cr (V0 (Ym O) (V0 (Ym O) (V0 (Yda 0 O O ag220 O) ?_))))))
  refine WL.calldx (ι:=SP) (κ:=Unit) Y O en175 O (fun r=>.agg (nodeV (nodeT σ y) r.1 r.2).toArray) (fun F r=>errE σ y=0∧SlN (k2+1) F (nodeT σ y,r)) (fun _=>refd (errE σ y)) (fun _=>errE σ y≠0) (fun w hw=>scNode_any HS HE sb σ k2 y ya yn w (hw.vs _ (by simp)) (hw.vs _ (by simp)) hS (fun HE l a c w h1 h2 h3 h4=>ih k2 (by omega) HE l a c w h1 h2 h3 h4) hsub (by have:=wEs_mem hyi; omega)) ?_ ?_
  ·
   intro _ hp
   refine WE.block_panic (Ep (Ep (WE.block_panic (Ep ?_))))
   refine Epp fun w' hw=>?_
   have he:errEs σ l=errE σ y:=by rw [errEs_ers,ers_hit (errE σ) hyi hers hp]
   rw [he]
   exact .inr ⟨(),O,hw.fr,hp⟩
  intro F17 r17 hfr17 ⟨he17,h17⟩
  refine WL.vjoin fun J17 j17a j17b j17f=>?_
  refine Lb Y O el189 O O O O fun b18=>?_
  refine Lrb 0 (.cells (XN.cells (nodeT σ y,r17)).toArray 238 (0,0)) O (O) ?_
  refine LA (((nodeT σ y,r17):XN)) 2 0 Y O el189 O O O O O O (by omega) (by omega) fun a19 c19=>?_
  refine V0 (Ya O) (Ln (Eb (Et (Cr ?_))))
  refine V0 (Yi O O O (by omega)) ?_
  refine V0 (Ym O) (Ln ?_)
  exact Ea (⟨g.i+1,g.es++[(nodeT σ y,r17)],a19,c19,J17⟩:GX XN) (by show _-(g.i+1)<_; omega) ⟨(by show g.i+1≤_; omega),map_snoc hmap hyi O,by show ers (errE σ) (l.take (g.i+1))=0; rw [ers_take (errE σ) hyi,hers,er_0,he17],⟨j17f _ hfr17 hfJ,Xs.snoc (R:=SlN _) (fun hv h=>SlN.mv hv h) hX j17b j17a h17⟩⟩ (sc O (sc O (sc O (sc O (sc O (sc O sn)))))) (fun _ h=>Wd 2 h)
 have hge:g.i=l.length:=by simp at hc0; omega
 refine Ce (Ex (Ex (Ebh (Et (Cs ?_)))))
 refine WC.oslN (rd:=rdXN) 0 O (fun _ hk=>by cases hk) XN.cells_len (fun _ _ _ _ h=>h) fun K7 fK7 hK7=>?_
 refine Cr (V0 (Ym O) (V0 (Ya O) (Ln (Et (Crt ?_)))))
 refine R1 O O fun w' hw=>?_
 have hz:errEs σ l=0:=by rw [errEs_ers,←hers,hge,List.take_length]
 have hall:=map_all hmap hge
 rw [←nodesT_map] at hall
 rw [←hall]
 exact .inl ⟨(g.a,g.c),by rw [List.length_map],hw.fr,hz,slN_of hK7 (nv_vs hw (by simp) fK7) (nv_vs hw (by simp) hfJ) hX⟩
theorem scNodes_all (HS:View) (sb:Nat) (σ:Scp) (hS:Slv HS sb σ) (k:Nat):ScNodes HS sb σ k:=by
 intro HE l a c w hHS hHE hm hwt
 exact scNodes_any HS HE sb σ hS k l a c w hHS hHE hm hwt
theorem scAct_any (HS HE:View) (sb:Nat) (σ:Scp) (ke k:Nat) (x:TStmt) (a:Option Addr) (c:Nat) (a2:Option Addr) (c2:Nat) (a3:Option Addr) (c3:Nat) (w:World) (hHS:Le HS w) (hHE:Le HE w) (hS:Slv HS sb σ) (hN:ScNodes HS sb σ ke) (hA:ScActs HS sb σ ke k) (hm:Sl (RdE ke) 5 HE a c x.args) (hs2:Sl (RdS ke k) 6 HE a2 c2 x.body) (hs3:Sl (RdS ke k) 6 HE a3 c3 x.other) (hwt:wS x≤109951162777) :
   Calls Tryz.prog 140 #[.pointer (some ⟨sb,0,none⟩),.agg (stmtV x a c a2 c2 a3 c3).toArray] w fun e w'=>(∃r:AAt,e = .returned (.agg (actV (actT σ x) r).toArray)∧Ext w w'∧errS σ x=0∧SlA (ke+1) (k+1) (nv w w') (actT σ x,r))∨(∃_:Unit,e = .panicked (refd (errS σ x))∧Ext w w'∧errS σ x≠0):=by
 have hws:=wS_eq x
 have hcap:=hm.cap
 have hmax:=hm.max
 refine enter Tryz.func140 O 88 O O ?_
 refine CE (Vs:=[HE,HS]) (Ws.init (by simp [hHE,hHS])) ?_
 refine Cs (Cr ?_)
 refine WL.box Y O O fun b3=>?_
 refine Al Y O zr191 fun b4=>?_
 refine Ln (Et (Cs (Cr (V0 (Yf fo222_0 O) (V0 (Yd 1 O O O na3) (V0 (Yb zr191 pl191 O O) ?_))))))
 refine Al Y O zr191 fun b5=>?_
 refine Lst 0 Y O O O sz191 O O O (Ln (Et (Cs (Cr ?_))))
 refine Al Y O zr232 fun b6=>?_
 refine Ln (Et ?_)
 refine WC.cutE (ι:=Unit) (fun _u=>[(0,.pointer (some ⟨sb,0,none⟩)),(3,.pointer (some ⟨b3,0,none⟩)),(4,.pointer (some ⟨b4,0,none⟩)),(5,.pointer (some ⟨b5,0,none⟩))]) (fun _u=>Ws w [] [blk b5 (.cells #[.int .i64 (resS σ x.op x.mod x.nm x.args.length).op,.int .i64 (resS σ x.op x.mod x.nm x.args.length).n,.int .i64 (resS σ x.op x.mod x.nm x.args.length).m,.int .i64 (resS σ x.op x.mod x.nm x.args.length).pl,.slice none 0 0,.slice none 0 0,.slice none 0 0] 191 (0,0)),blk b4 (.cells #[.int .i64 0,.int .i64 0,.int .i64 0,.int .i64 0,.slice none 0 0,.slice none 0 0,.slice none 0 0] 191 (0,0)),blk b3 (.cells (stmtV x a c a2 c2 a3 c3).toArray 222 (0,0))] [HE,HS]) (fun _u=>(resS σ x.op x.mod x.nm x.args.length).e=0) ?_ ?_
 ·
  refine Cs (Cr (V0 (Yf fo222_0 O) (V0 (Yd 3 O O O na3) (Ln (Et (Cb (Cs (Cr (V0 (yl_eq O O) (V0 (Ya O) ?_))))))))))
  refine Ln (Et ?_)
  refine Cc O (fun hc0=>?_) (fun hc0=>?_)
  ·
   have hop:x.op=1:=by simpa using hc0
   refine Cs (Cr (V0 (Ym O) (V0 (Yf fo222_1 O) (V0 (Yd 3 O O O na9) (V0 (Yf fo222_2 O) (V0 (Yd 3 O O O na9) ?_))))))
   refine WL.callpx (ι:=Int×FItem) (κ:=Unit) Y O en163 O (fun i=>.tuple #[.int .i64 i.1,.agg i.2.cells.toArray]) (fun i=>findT σ x.mod x.nm=some i) (fun _=>refd 5) (fun _=>findT σ x.mod x.nm=none) (fun w hw=>scFind_any HS sb σ w (hw.vs _ (by simp)) hS x.mod x.nm) ?_ ?_
   ·
    intro _ hp
    refine Ep (WE.block_panic (Ep ?_))
    refine Epp fun w' hw=>?_
    have he:errS σ x=5:=by rw [errS_eq,resS_no (by omega) hp]; rfl
    rw [he]
    exact .inr ⟨(),O,hw.fr,by decide⟩
   intro ⟨m20,it20⟩ hf20
   have hr1:=resS_1 (len:=x.args.length) hf20
   have hmm:=findT_m hf20
   refine V0 (Ym O) (V0 (Yx O O) (V0 (Yx O O) (V0 (Yf fo191_2 O) (Lst 1 Y O O O sz3 O O O (Lst 0 Y O O O sz232 O O O ?_)))))
   refine Ln (Et (Cs (Cr (V0 (Yf fo191_2 O) (V0 (Yd 1 O O O na3) (V0 (yl_lt O O) (V0 (Ym O) ?_)))))))
   apply Lo 3 O O O O Y O O O O O
   ·
    intro hg0
    refine Vg (Yf fo232_0 O) (Vg (Yd 0 O O O na3) (Vg (yl_eq O O) ?_))
    exact Gt 3 O O O
   refine WL.callpx (ι:=Unit) (κ:=Unit) Y O en115 O (fun _=>.tuple #[]) (fun _=>_=true) (fun _=>refd _) (fun _=>_=false) (fun w hw=>scMust_any _ _ w) ?_ ?_
   ·
    intro _ hp
    refine Ep (WE.block_panic (Ep ?_))
    refine Epp fun w' hw=>?_
    have hk2:¬(m20 = -1∨it20.kind=2):=by simp at hp; omega
    rw [if_neg hk2] at hr1
    have he:errS σ x=7:=by rw [errS_eq,hop,hr1]; rfl
    rw [he]
    exact .inr ⟨(),O,hw.fr,by decide⟩
   intro _ hm32
   have hk2:m20 = -1∨it20.kind=2:=by
     simp at hm32
     omega
   have hres:(resS σ x.op x.mod x.nm x.args.length)=⟨x.op,0,m20,it20.pl,0⟩:=by rw [hop]; rw [hr1,if_pos hk2]
   refine Ln (Et (Cr (V0 (Yf fo232_2 O) (V0 (Yd 0 O O O na3) (V0 (Yf fo191_3 O) (Lst 1 Y O O O sz3 O O O (Ln (Eb ?_))))))))
   refine WE.reblk 1 (.cells #[.int .i64 (resS σ x.op x.mod x.nm x.args.length).op,.int .i64 (resS σ x.op x.mod x.nm x.args.length).n,.int .i64 (resS σ x.op x.mod x.nm x.args.length).m,.int .i64 (resS σ x.op x.mod x.nm x.args.length).pl,.slice none 0 0,.slice none 0 0,.slice none 0 0] 191 (0,0)) O (by rw [hres]; rfl) ?_
   exact Em () (by rw [hres]) (sc O (sc O (sc O (sc O sn)))) (fun _ h=>by
     have h:=h.fronti 3 rfl
     have h:=h.fronti 3 rfl
     have h:=h.fronti 3 rfl
     have h:=Wt 3 h
     exact h)
  have h1:¬x.op=1:=by simpa using hc0
  refine Cs (Cr (V0 (yl_eq O O) (V0 (Ya O) (Ln (Et ?_)))))
  refine Cc O (fun hc1=>?_) (fun hc1=>?_)
  ·
   have hop:x.op=2:=by simpa using hc1
   refine Cs (Cr (V0 (Ym O) (V0 (Yf fo222_1 O) (V0 (Yd 3 O O O na9) (V0 (Yf fo222_2 O) (V0 (Yd 3 O O O na9) ?_))))))
   refine WL.callpx (ι:=Int×FItem) (κ:=Unit) Y O en164 O (fun i=>.tuple #[.int .i64 i.1,.agg i.2.cells.toArray]) (fun i=>findT σ x.mod x.nm=some i∧plErr σ x.mod x.nm 3 0=0) (fun _=>refd (plErr σ x.mod x.nm 3 0)) (fun _=>plErr σ x.mod x.nm 3 0≠0) (fun w hw=>scPlace_any HS sb σ w (hw.vs _ (by simp)) hS x.mod x.nm 3 0) ?_ ?_
   ·
    intro _ hp
    refine Ep (WE.block_panic (Ep ?_))
    refine Epp fun w' hw=>?_
    have he:errS σ x=plErr σ x.mod x.nm 3 0:=by rw [errS_eq,hop,resS_2e hp,er_ne hp]
    rw [he]
    exact .inr ⟨(),O,hw.fr,hp⟩
   intro ⟨m44,it44⟩ ⟨hf44,hq44⟩
   have hres:(resS σ x.op x.mod x.nm x.args.length)=⟨x.op,it44.n,m44,it44.pl,0⟩:=by rw [hop]; exact resS_2 hf44 hq44
   refine V0 (Ym O) (V0 (Yx O O) (V0 (Yx O O) (V0 (Yf fo191_2 O) (Lst 1 Y O O O sz3 O O O (Lst 0 Y O O O sz232 O O O ?_)))))
   refine Ln (Et ?_)
   refine WC.draws1 1 [(0,true),(1,true),(2,true),(3,true),(4,true),(5,false),(6,false),(7,false)] mixed (by kernel_rfl) (fun _ _ _ d _ h=>by cases d<;>exact h) ?_
   refine D0 O (Wp 1) (Yf fo232_2 O) (D0 O (Wp 1) (Yd 0 O O O na3) (D0 O (Wp 1) (Yf fo232_1 O) (D0 O (Wp 1) (Yd 0 O O O na3) (D0 O (Wp 1) (Yf fo191_3 O) ?_))))
   refine De O (Wp 1) ?_
   refine Lst 1 Y O O O sz3 O O O (Ln (Ed ?_))
   refine De O (Wp 1) ?_
   refine V0 (Yf fo191_1 O) (Ln (Ed ?_))
   refine De O (Wp 1) ?_
   refine Lst 1 Y O O O sz3 O O O (Ln (Ed ?_))
   refine WD.nil (Wp 1) ?_
   refine Eb ?_
   refine WE.reblk 1 (.cells #[.int .i64 (resS σ x.op x.mod x.nm x.args.length).op,.int .i64 (resS σ x.op x.mod x.nm x.args.length).n,.int .i64 (resS σ x.op x.mod x.nm x.args.length).m,.int .i64 (resS σ x.op x.mod x.nm x.args.length).pl,.slice none 0 0,.slice none 0 0,.slice none 0 0] 191 (0,0)) O (by rw [hres]; rfl) ?_
   exact Em () (by rw [hres]) (sc O (sc O (sc O (sc O sn)))) (fun _ h=>by
     have h:=h.fronti 3 rfl
     have h:=h.fronti 3 rfl
     have h:=h.fronti 3 rfl
     have h:=Wt 3 h
     exact h)
  have h2:¬x.op=2:=by simpa using hc1
  refine Cs (Cr (V0 (yl_eq O O) (V0 (Ya O) (Ln (Et ?_)))))
  refine Cc O (fun hc2=>?_) (fun hc2=>?_)
  ·
   have hop:x.op=3:=by simpa using hc2
   refine Cs (Cr (V0 (Ym O) (V0 (Yf fo222_1 O) (V0 (Yd 3 O O O na9) (V0 (Yf fo222_2 O) (V0 (Yd 3 O O O na9) ?_))))))
   refine V0 (Yf fo222_3 O) (V0 (Yd 3 O O O na218) (V0 (Yn es218 O) ?_))
   refine WL.callpx (ι:=Int×FItem) (κ:=Unit) Y O en164 O (fun i=>.tuple #[.int .i64 i.1,.agg i.2.cells.toArray]) (fun i=>findT σ x.mod x.nm=some i∧plErr σ x.mod x.nm 4 (x.args.length:Int)=0) (fun _=>refd (plErr σ x.mod x.nm 4 (x.args.length:Int))) (fun _=>plErr σ x.mod x.nm 4 (x.args.length:Int)≠0) (fun w hw=>scPlace_any HS sb σ w (hw.vs _ (by simp)) hS x.mod x.nm 4 (x.args.length:Int)) ?_ ?_
   ·
    intro _ hp
    refine Ep (WE.block_panic (Ep ?_))
    refine Epp fun w' hw=>?_
    have he:errS σ x=plErr σ x.mod x.nm 4 (x.args.length:Int):=by rw [errS_eq,hop,resS_3e hp,er_ne hp]
    rw [he]
    exact .inr ⟨(),O,hw.fr,hp⟩
   intro ⟨m65,it65⟩ ⟨hf65,hq65⟩
   have hres:(resS σ x.op x.mod x.nm x.args.length)=⟨x.op,0,m65,it65.pl,0⟩:=by rw [hop]; exact resS_3 hf65 hq65
   refine V0 (Ym O) (V0 (Yx O O) (V0 (Yx O O) (V0 (Yf fo191_2 O) (Lst 1 Y O O O sz3 O O O (Lst 0 Y O O O sz232 O O O ?_)))))
   refine Ln (Et (Cr (V0 (Yf fo232_2 O) (V0 (Yd 0 O O O na3) (V0 (Yf fo191_3 O) (Lst 1 Y O O O sz3 O O O (Ln (Eb ?_))))))))
   refine WE.reblk 1 (.cells #[.int .i64 (resS σ x.op x.mod x.nm x.args.length).op,.int .i64 (resS σ x.op x.mod x.nm x.args.length).n,.int .i64 (resS σ x.op x.mod x.nm x.args.length).m,.int .i64 (resS σ x.op x.mod x.nm x.args.length).pl,.slice none 0 0,.slice none 0 0,.slice none 0 0] 191 (0,0)) O (by rw [hres]; rfl) ?_
   exact Em () (by rw [hres]) (sc O (sc O (sc O (sc O sn)))) (fun _ h=>by
     have h:=h.fronti 3 rfl
     have h:=h.fronti 3 rfl
     have h:=h.fronti 3 rfl
     have h:=Wt 3 h
     exact h)
  have h3:¬x.op=3:=by simpa using hc2
  have hres:(resS σ x.op x.mod x.nm x.args.length)=⟨x.op,0,0,0,0⟩:=resS_0 h1 h2 h3
  refine Ck (Eb ?_)
  refine WE.reblk 1 (.cells #[.int .i64 (resS σ x.op x.mod x.nm x.args.length).op,.int .i64 (resS σ x.op x.mod x.nm x.args.length).n,.int .i64 (resS σ x.op x.mod x.nm x.args.length).m,.int .i64 (resS σ x.op x.mod x.nm x.args.length).pl,.slice none 0 0,.slice none 0 0,.slice none 0 0] 191 (0,0)) O (by rw [hres]; rfl) ?_
  exact Em () (by rw [hres]) (sc O (sc O (sc O (sc O sn)))) (fun _ h=>by
    have h:=h.fronti 3 rfl
    have h:=h.fronti 3 rfl
    have h:=h.fronti 3 rfl
    have h:=Wt 3 h
    exact h)
 intro _ hR0
 refine Cs (Cr (V0 (Ym O) (V0 (Yf fo222_3 O) (V0 (Yd 2 O O O na218) ?_))))
 refine WL.calldx (ι:=SP) (κ:=Unit) Y O en165 O (fun r=>.slice r.1 (nodesT σ x.args).length r.2) (fun F r=>errEs σ x.args=0∧Sl (RdN (ke+1)) 5 F r.1 r.2 (nodesT σ x.args)) (fun _=>refd (errEs σ x.args)) (fun _=>errEs σ x.args≠0) (fun w hw=>hN HE x.args a c w (hw.vs _ (by simp)) (hw.vs _ (by simp)) hm (by omega)) ?_ ?_
 ·
  intro _ hp
  refine Ep ?_
  refine Epp fun w' hw=>?_
  have he:errS σ x=errEs σ x.args:=by rw [errS_eq,hR0,er_0,er_ne hp]
  rw [he]
  exact .inr ⟨(),O,hw.fr,hp⟩
 intro F75 r75 hfr75 ⟨he75,h75⟩
 refine V0 (Yf fo191_4 O) (Lst 0 Y O O O sz189 O O O (Ln (Et (Cs ?_))))
 refine WC.draws1 0 [(0,true),(1,true),(2,true),(4,true),(5,true),(6,true),(3,false),(8,true),(7,false),(9,false),(10,false),(11,false)] mixed (by kernel_rfl) (fun _ _ _ d _ h=>by cases d<;>exact h) ?_
 refine D0 O (Wp 0) (Ym O) (D0 O (Wp 0) (Yf fo222_4 O) (D0 O (Wp 0) (Yd 1 O O O na172) (D0 O (Wp 0) (Ym O) (D0 O (Wp 0) (Yf fo222_5 O) (D0 O (Wp 0) (Yd 1 O O O na172) ?_)))))
 refine De O (Wp 0) ?_
 refine WL.calldx (ι:=SP) (κ:=Unit) Y O en118 O (fun r=>.slice r.1 (actsT σ x.body).length r.2) (fun F r=>errSs σ x.body=0∧Sl (RdA (ke+1) (k+1)) 7 F r.1 r.2 (actsT σ x.body)) (fun _=>refd (errSs σ x.body)) (fun _=>errSs σ x.body≠0) (fun w hw=>hA HE x.body a2 c2 w (hw.vs _ (by simp)) (hw.vs _ (by simp)) hs2 (by omega)) ?_ ?_
 ·
  intro _ hp
  refine Ep (Ep ?_)
  refine Epp fun w' hw=>?_
  have he:errS σ x=errSs σ x.body:=by rw [errS_eq,hR0,er_0,he75,er_0,er_ne hp]
  rw [he]
  exact .inr ⟨(),O,hw.fr,hp⟩
 intro F80 r80 hfr80 ⟨he80,h80⟩
 refine Ln (Ed (D0 O (fun _ h=>(Wv 1 (Wo 0 h):)) (Yf fo191_5 O) ?_))
 refine De O (fun _ h=>(Wv 1 (Wo 0 h):)) ?_
 refine WL.calldx (ι:=SP) (κ:=Unit) Y O en118 O (fun r=>.slice r.1 (actsT σ x.other).length r.2) (fun F r=>errSs σ x.other=0∧Sl (RdA (ke+1) (k+1)) 7 F r.1 r.2 (actsT σ x.other)) (fun _=>refd (errSs σ x.other)) (fun _=>errSs σ x.other≠0) (fun w hw=>hA HE x.other a3 c3 w (hw.vs _ (by simp)) (hw.vs _ (by simp)) hs3 (by omega)) ?_ ?_
 ·
  intro _ hp
  refine Ep (Ep ?_)
  refine Epp fun w' hw=>?_
  have he:errS σ x=errSs σ x.other:=by rw [errS_eq,hR0,er_0,he75,er_0,he80,er_0]
  rw [he]
  exact .inr ⟨(),O,hw.fr,hp⟩
 intro F84 r84 hfr84 ⟨he84,h84⟩
 refine Ln (Ed ?_)
 refine De O (fun _ h=>(Wv 2 (Wo 0 h):)) ?_
 refine Lst 0 Y O O O sz56 O O O (Ln (Ed ?_))
 refine De O (fun _ h=>(Wv 2 (Wo 0 h):)) ?_
 refine V0 (Yf fo191_6 O) (Ln (Ed ?_))
 refine De O (fun _ h=>(Wv 2 (Wo 0 h):)) ?_
 refine Lst 0 Y O O O sz56 O O O (Ln (Ed ?_))
 refine WD.nil (fun _ h=>(Wv 2 (Wo 0 h):)) ?_
 refine Et (Cs (Cr (V0 (Yda 0 O O ag191 O) (Lst 1 Y O O O sz191 O O O (Ln (Et (Crt ?_)))))))
 refine WE.retR (rs_1 O (rv_agg 1 O O ag191 O)) fun w' hw=>?_
 rw [actT_eq]
 exact .inl ⟨⟨r75,r80,r84⟩,O,hw.fr,by rw [errS_eq,hR0,he75,he80,he84]; rfl,slN_mv h75 (nv_vs hw (by simp) hfr75),slA_mv h80 (nv_vs hw (by simp) hfr80),slA_mv h84 (nv_vs hw (by simp) hfr84)⟩
theorem scActs_any (HS HE:View) (sb:Nat) (σ:Scp) (ke:Nat) (hS:Slv HS sb σ) (k:Nat) (l:List TStmt) (a:Option Addr) (c:Nat) (w:World) (hHS:Le HS w) (hHE:Le HE w) (hm:Sl (RdS ke k) 6 HE a c l) (hwt:wSs l≤109951162777) :
   Calls Tryz.prog 118 #[.pointer (some ⟨sb,0,none⟩),.slice a l.length c] w fun e w'=>(∃r:SP,e = .returned (.slice r.1 (actsT σ l).length r.2)∧Ext w w'∧errSs σ l=0∧Sl (RdA (ke+1) (k+1)) 7 (nv w w') r.1 r.2 (actsT σ l))∨(∃_:Unit,e = .panicked (refd (errSs σ l))∧Ext w w'∧errSs σ l≠0):=by
 induction k using Nat.strongRecOn generalizing HE l a c w
 rename_i k ih
 have hcap:=hm.cap
 have hmax:=hm.max
 have hlw:=wSs_len l
 refine enter Tryz.func118 O 22 O O ?_
 refine CE (Vs:=[HE,HS]) (Ws.init (by simp [hHE,hHS])) ?_
 refine Cs (Cr (V0 (Ya O) (Ln (Et (Cs (Cr (V0 (Ya O) ?_)))))))
 refine LW (fun _ h=>h.osl_nil 191 7) ?_
 refine WL.v0 ?_
 refine Ln (Et (Cs (Cs (Cr (V0 (Ym O) (V0 (Yn es172 O) (V0 (Ym O) (Ln (Et (Cb ?_))))))))))
 refine CLk (ι:=GX XA) (fun g=>[(10,.int .i64 (g.i:Int)),(5,.slice g.a g.es.length g.c)]) [(0,_),(4,_),(8,_),(9,_)] (fun g=>Ws w [] [osT 191 7 XA.cells g.a g.c g.es] [g.J,HE,HS]) (fun g=>g.i≤l.length∧g.es.map (·.1)=(l.take g.i).map (actT σ)∧ers (errS σ) (l.take g.i)=0∧(Fresh w g.J∧Xs (SlA (ke+1) k) g.J g.es)) (fun g=>l.length-g.i) ⟨0,[],none,0,v0⟩ ⟨Nat.zero_le _,O,O,⟨v0_fresh w,Xs.nil _⟩⟩ (sc O (sc O (sc O (sc O (sc O (sc O sn)))))) (fun _ h=>by have h:=Ws.drops h (Vs':=[v0,HE,HS]) (by simp); exact h) ?_
 intro g ⟨hi,hmap,hers,⟨hfJ,hX⟩⟩
 refine Cs (Cr (V0 (yl_lt O O) (Ln (Et (Cs ?_)))))
 refine Cc O (fun hc0=>?_) (fun hc0=>?_)
 ·
  have hlt:g.i<l.length:=by simpa using hc0
  obtain ⟨y,hyi⟩:∃q,l[g.i]? = some q:=⟨_,List.getElem?_eq_getElem hlt⟩
  obtain ⟨pby,poy,hay,hry⟩:=hm.elt g.i y hyi
  obtain ⟨k2,rfl⟩:∃k2,k=k2+1:=by
    cases k with
    | zero=>exact hry.elim
    | succ k2=>exact ⟨k2,rfl⟩
  obtain ⟨ya,yn,y2,m2,y3,m3,hrow,hs1,hs2,hs3⟩:=hry
  have hel:=map_len hmap hi
  refine Ck (Et (Cs (Cb (Cs (Cr ?_)))))
  refine V0 (Yo es172 O O hay (by omega)) ?_
  refine V0 (yl_lda 1 ag222 O O O (hrow)) ?_
  refine Al Y O zr222 fun b7=>?_
  refine Lst 0 Y O O O sz222 O O O (Ln (Et (Cr (V0 (Ym O) (V0 (Ym O) (V0 (Yda 0 O O ag222 O) ?_))))))
  refine WL.calldx (ι:=AAt) (κ:=Unit) Y O en140 O (fun r=>.agg (actV (actT σ y) r).toArray) (fun F r=>errS σ y=0∧SlA (ke+1) (k2+1) F (actT σ y,r)) (fun _=>refd (errS σ y)) (fun _=>errS σ y≠0) (fun w hw=>scAct_any HS HE sb σ ke k2 y ya yn y2 m2 y3 m3 w (hw.vs _ (by simp)) (hw.vs _ (by simp)) hS (scNodes_all HS sb σ hS ke) (fun HE l a c w h1 h2 h3 h4=>ih k2 (by omega) HE l a c w h1 h2 h3 h4) hs1 hs2 hs3 (by have:=wSs_mem hyi; omega)) ?_ ?_
  ·
   intro _ hp
   refine WE.block_panic (Ep (Ep (WE.block_panic (Ep ?_))))
   refine Epp fun w' hw=>?_
   have he:errSs σ l=errS σ y:=by rw [errSs_ers,ers_hit (errS σ) hyi hers hp]
   rw [he]
   exact .inr ⟨(),O,hw.fr,hp⟩
  intro F17 r17 hfr17 ⟨he17,h17⟩
  refine WL.vjoin fun J17 j17a j17b j17f=>?_
  refine Lb Y O el56 O O O O fun b18=>?_
  refine Lrb 0 (.cells (XA.cells (actT σ y,r17)).toArray 191 (0,0)) O (O) ?_
  refine LA (((actT σ y,r17):XA)) 2 0 Y O el56 O O O O O O (by omega) (by omega) fun a19 c19=>?_
  refine V0 (Ya O) (Ln (Eb (Et (Cr ?_))))
  refine V0 (Yi O O O (by omega)) ?_
  refine V0 (Ym O) (Ln ?_)
  exact Ea (⟨g.i+1,g.es++[(actT σ y,r17)],a19,c19,J17⟩:GX XA) (by show _-(g.i+1)<_; omega) ⟨(by show g.i+1≤_; omega),map_snoc hmap hyi O,by show ers (errS σ) (l.take (g.i+1))=0; rw [ers_take (errS σ) hyi,hers,er_0,he17],⟨j17f _ hfr17 hfJ,Xs.snoc (R:=SlA _ _) (fun hv h=>SlA.mv hv h) hX j17b j17a h17⟩⟩ (sc O (sc O (sc O (sc O (sc O (sc O sn)))))) (fun _ h=>Wd 2 h)
 have hge:g.i=l.length:=by simp at hc0; omega
 refine Ce (Ex (Ex (Ebh (Et (Cs ?_)))))
 refine WC.oslN (rd:=rdXA) 0 O (fun _ hk=>by cases hk) XA.cells_len (fun _ _ _ _ h=>h) fun K7 fK7 hK7=>?_
 refine Cr (V0 (Ym O) (V0 (Ya O) (Ln (Et (Crt ?_)))))
 refine R1 O O fun w' hw=>?_
 have hz:errSs σ l=0:=by rw [errSs_ers,←hers,hge,List.take_length]
 have hall:=map_all hmap hge
 rw [←actsT_map] at hall
 rw [←hall]
 exact .inl ⟨(g.a,g.c),by rw [List.length_map],hw.fr,hz,slA_of hK7 (nv_vs hw (by simp) fK7) (nv_vs hw (by simp) hfJ) hX⟩
def rdS (H:View) (b o:Nat) (e:SP×List Tx):Prop:=vc H b o=some (.slice e.1.1 e.2.length e.1.2)∧Sl rdStr 1 H e.1.1 e.1.2 e.2
def totL (ls:List ((Option Addr×Nat)×List Tx)):Nat:=(ls.map (·.2.length)).sum
theorem totL_take {ls:List ((Option Addr×Nat)×List Tx)} {i:Nat} {x:(Option Addr×Nat)×List Tx} (h:ls[i]? = some x):totL (ls.take (i+1))=totL (ls.take i)+x.2.length:=by
 simp [totL,List.take_add_one,h]
theorem totL_le (ls:List ((Option Addr×Nat)×List Tx)) (i:Nat):totL (ls.take i)≤totL ls:=by
 have e:totL ls=totL (ls.take i)+totL (ls.drop i):=by
   unfold totL
   rw [←List.sum_append,←List.map_append,List.take_append_drop]
 omega
theorem totL_flat (ls:List ((Option Addr×Nat)×List Tx)):(ls.flatMap (·.2)).length=totL ls:=by simp [totL,List.length_flatMap]
theorem es251:elemSz Tryz.prog 251=some 1:=by kernel_rfl
theorem en139:Enters Tryz.prog 139:=enters_of Tryz.func139 (by kernel_rfl) rfl
theorem sz199:sizeP Tryz.prog 199=some 1:=by kernel_rfl
theorem pl58:placesP Tryz.prog 58=some [(0,1),(1,1),(2,1),(3,1),(4,1)]:=by kernel_rfl
theorem zr58:zeroOf Tryz.prog 58=some (.agg #[st [],.slice none 0 0,.int .i64 0,.slice none 0 0,.slice none 0 0]):=by kernel_rfl
theorem fo199_0:fieldOff Tryz.prog 199 0=some 0:=by kernel_rfl
theorem sz58:sizeP Tryz.prog 58=some 5:=by kernel_rfl
theorem cloneS_any (H:View) (a:Option Addr) (c:Nat) (l:List Tx) (w:World) (hH:Le H w) (hm:Sl rdStr 1 H a c l) (hb:l.length≤1048576) :
   Calls Tryz.prog 66 #[.slice a l.length c] w fun e w'=>∃r:SP,e = .returned (.slice r.1 l.length r.2)∧Ext w w'∧Sl rdStr 1 (nv w w') r.1 r.2 l:=by
 have hcap:=hm.cap
 have hmax:=hm.max
 refine enter Tryz.func66 O 8 O O ?_
 refine CE (Vs:=[H]) (Ws.init (by simp [hH])) ?_
 refine Cs (Cr (V0 (Ya O) (Ln (Et (Cs (Cs (Cr (V0 (Ym O) (V0 (yl_eqnil es22 O) (Ln (Et ?_)))))))))))
 refine Cc O (fun hc0=>?_) (fun hc0=>?_)
 ·
  have hnil:l=[]:=by
    cases l with
    | nil=>rfl
    | cons x r=>obtain ⟨b,o,h,_⟩:=hm.elt 0 x rfl; rw [h] at hc0; cases hc0
  refine Cs (Cr (V0 (Ya O) (Ln (Et (Crt (Er ?_))))))
  refine R1 O O fun w' hw=>?_
  subst hnil
  exact ⟨(none,0),O,hw.fr,Sl.nil⟩
 refine Ck (Et (Cs (Cr ?_)))
 refine WL.bslice Y O el22 O O O fun b5=>?_
 refine WL.asOsl (size:=1) 0 O (Nat.le_refl 0) (Nat.zero_le _) O ?_
 refine WL.reosl 0 ([]:List Tx).length (([]:List Tx).flatMap strC) O O O ?_
 refine V0 (Ym O) ?_
 refine WL.appendL (ys:=l) (xs:=[]) 0 (fun _=>H) Y O el22 O O O (fun w hw=>⟨hw.vs H (by simp),hm⟩) (fun _ _ _ _ h=>h) strC_len str_one (by simp; omega) (by simp; omega) fun a7 c7=>?_
 refine V0 (Ya O) (Ln (Et (Crt ?_)))
 refine R1 O O fun w' hw=>?_
 exact ⟨(a7,c7),O,hw.fr,hw.slT 0 O strC_len (fun _ _ _ _ h=>h)⟩
theorem growS_any (m:Nat) (w:World) (hm:m≤1048576) :
   Calls Tryz.prog 139 #[.slice none 0 0,.int .i64 (m:Int)] w fun e w'=>∃r:SP,e = .returned (.slice r.1 ([]:List Tx).length r.2)∧Ws w [] [osT 9 1 strC r.1 r.2 ([]:List Tx)] [] w':=by
 refine enter Tryz.func139 O 27 O O ?_
 refine CE (Vs:=[]) (Ws.init (by simp)) ?_
 refine Cs (Cr (V0 (Ya O) (Ln (Et (Cs (Cs (Cr (V0 (Ym O) (V0 (yl_lt O O) (Ln (Et ?_)))))))))))
 refine Cc O (fun hc0=>?_) (fun hc0=>?_)
 ·
  exfalso
  simp at hc0
  omega
 refine Ck (Et (Cs (Cs (Cr (V0 (Ym O) (V0 (Ym O) (V0 (yl_cap es22 O) (V0 (Ym O) (V0 (Yn es22 O) ?_)))))))))
 refine V0 (yl_subv 0 O O (by simp) (by omega)) ?_
 refine V0 (yl_subv (m:Int) O O (by simp) (by omega)) ?_
 refine V0 (Ya O) (Ln (Et (Cs (Cr (V0 (Ym O) (V0 (yl_gt O O) (Ln (Et ?_))))))))
 refine Cc O (fun hc1=>?_) (fun hc1=>?_)
 ·
  have h0:0<m:=by simp at hc1; omega
  refine Cr (V0 (Ym O) (V0 (Ym O) (V0 (yl_cap es22 O) ?_)))
  refine V0 (yl_slhn 0 es22 O (by simp) O O (Nat.zero_le _)) ?_
  refine V0 (Ym O) ?_
  refine WL.zeros m Y O el22 ui3 O O h0 (by unfold maxLen; omega) (by omega) fun b22 c22 cur22 hc22 hcm22 hcs22=>?_
  refine WL.asOsl (m:=0) (cap:=c22) (size:=1) 0 O (Nat.zero_le _) hcm22 (by rw [hcs22,Nat.mul_one]) ?_
  refine WL.reosl 0 ([]:List Tx).length (([]:List Tx).flatMap strC) O O (by simp) ?_
  refine V0 (Ym O) (V0 (Yn es22 O) ?_)
  refine V0 (yl_slhn ([]:List Tx).length es22 O (by simp) O O (Nat.zero_le _)) ?_
  refine V0 (Ya O) (Ln (Et (Cs (Cr (V0 (Ym O) (V0 (Ya O) (Ln (Et (Crt ?_)))))))))
  refine R1 O O fun w' hw=>?_
  exact ⟨(some ⟨b22,0,none⟩,c22),O,hw⟩
 refine Ck (Et (Cs (Cr (V0 (Ym O) (V0 (Ya O) (Ln (Et (Crt ?_))))))))
 refine R1 O O fun w' hw=>?_
 exact ⟨(none,0),O,hw.osl_nil 9 1⟩
theorem concatS_any (H:View) (a:Option Addr) (c:Nat) (ls:List (SP×List Tx)) (w:World) (hH:Le H w) (hm:Sl rdS 1 H a c ls) (hb:totL ls≤1048576) (hls:ls.length≤1048576) :
   Calls Tryz.prog 117 #[.slice a ls.length c] w fun e w'=>∃r:SP,e = .returned (.slice r.1 (ls.flatMap (·.2)).length r.2)∧Ext w w'∧Sl rdStr 1 (nv w w') r.1 r.2 (ls.flatMap (·.2)):=by
 have hcap:=hm.cap
 have hmax:=hm.max
 refine enter Tryz.func117 O 36 O O ?_
 refine CE (Vs:=[H]) (Ws.init (by simp [hH])) ?_
 refine Cs (Cr (V0 (Ya O) (Ln (Et (Cs (Cr (V0 (Ya O) (Ln (Et (Cs (Cs (Cr (V0 (Ym O) ?_)))))))))))))
 refine V0 (Yn es251 O) (V0 (Ym O) (Ln (Et (Cb ?_))))
 refine CW (ι:=Nat) (fun i=>[(11,.int .i64 (i:Int)),(3,.int .i64 (totL (ls.take i):Int))]) [(0,_),(2,_),(9,_),(10,_)] (fun i=>i≤ls.length) (fun i=>ls.length-i) 0 (Nat.zero_le _) (sc O (sc O (sc O (sc O (sc O (sc O sn)))))) ?_
 intro i hi
 refine Cs (Cr (V0 (yl_lt O O) (Ln (Et (Cs ?_)))))
 refine Cc O (fun hc0=>?_) (fun hc0=>?_)
 ·
  have hlt:i<ls.length:=by simpa using hc0
  obtain ⟨x,hx⟩:∃x,ls[i]? = some x:=⟨_,List.getElem?_eq_getElem hlt⟩
  obtain ⟨pb,po,ha,hrow,hxs⟩:=hm.elt i x hx
  have htk:=totL_take hx
  have htl:=totL_le ls (i+1)
  refine Ck (Et (Cs (Cb (Cs (Cr ?_)))))
  refine V0 (Yo es251 O O ha (by omega)) ?_
  refine V0 (yl_ld 0 na22 O O (hrow)) (V0 (Ya O) (Ln (Et (Cs (Cr (V0 (Ym O) (V0 (Ym O) (V0 (Yn es22 O) ?_))))))))
  refine V0 (yl_addn (a:=totL (ls.take i)) (b:=x.2.length) O O O O (by omega)) ?_
  refine V0 (Ya O) (Ln (Et (Cs (Cr (V0 (Ym O) (V0 (yl_lt O O) (Ln (Et ?_))))))))
  refine Cc O (fun hc1=>?_) (fun hc1=>?_)
  ·
   exfalso
   simp at hc1
   omega
  refine Ck (Eb (Et (Cr ?_)))
  refine V0 (Yi O O O (by omega)) ?_
  refine V0 (Ym O) (Ln ?_)
  rw [←htk]
  exact Ea (i+1) (by omega) (by omega) (sc O (sc O (sc O (sc O (sc O (sc O sn)))))) (fun _ h=>h)
 have hie:i=ls.length:=by simp at hc0; omega
 subst hie
 rw [List.take_length]
 refine Ce (Ex (Ex (Ebh (Et (Cs (Cr (V0 (Ym O) ?_)))))))
 refine Lw (ι:=SP) [] _ Y O en139 O O (fun r=>.slice r.1 ([]:List Tx).length r.2) (fun r=>[osT 9 1 strC r.1 r.2 ([]:List Tx)]) (fun _=>True) [] (by simp) (fun w hw=>(growS_any (totL ls) w hb).mono fun e w' ⟨r,h1,h2⟩=>⟨r,h1,trivial,h2⟩) ?_
 intro r24 _
 refine V0 (Ya O) (Ln (Et (Cs (Cs (Cr (V0 (Ym O) (V0 (Yn es251 O) (V0 (Ym O) (Ln (Et (Cb ?_)))))))))))
 refine CLk (ι:=Nat×Option Addr×Nat) (fun g=>[(27,.int .i64 (g.1:Int)),(6,.slice g.2.1 ((ls.take g.1).flatMap (·.2)).length g.2.2)]) [(2,_),(25,_),(26,_)] (fun g=>Ws w [] [osT 9 1 strC g.2.1 g.2.2 ((ls.take g.1).flatMap (·.2))] [H]) (fun g=>g.1≤ls.length) (fun g=>ls.length-g.1) (0,r24.1,r24.2) (Nat.zero_le _) (sc O (sc O (sc O (sc O (sc O sn))))) (fun _ h=>h) ?_
 intro g hi
 refine Cs (Cr (V0 (yl_lt O O) (Ln (Et (Cs ?_)))))
 refine Cc O (fun hc2=>?_) (fun hc2=>?_)
 ·
  have hlt:g.1<ls.length:=by simpa using hc2
  obtain ⟨x,hx⟩:∃x,ls[g.1]? = some x:=⟨_,List.getElem?_eq_getElem hlt⟩
  obtain ⟨pb,po,ha,hrow,hxs⟩:=hm.elt g.1 x hx
  have htk:=totL_take hx
  have htl:=totL_le ls (g.1+1)
  refine Ck (Et (Cs (Cb (Cs (Cr ?_)))))
  refine V0 (Yo es251 O O ha (by omega)) ?_
  refine V0 (yl_ld 0 na22 O O (hrow)) (V0 (Ya O) (Ln (Et (Cr (V0 (Ym O) (V0 (Ym O) ?_))))))
  refine WL.appendL (xs:=(ls.take g.1).flatMap (·.2)) (ys:=x.2) 0 (fun _=>H) Y O el22 O O O (fun w hw=>⟨hw.vs H (by simp),hxs⟩) (fun _ _ _ _ h=>h) strC_len str_one (by rw [totL_flat]; omega) (by rw [totL_flat]; omega) fun a33 c33=>?_
  rw [show ((ls.take g.1).flatMap (·.2))++x.2=(ls.take (g.1+1)).flatMap (·.2) by rw [List.take_add_one,hx]; simp]
  refine V0 (Ya O) (Ln (Eb (Et (Cr ?_))))
  refine V0 (Yi O O O (by omega)) ?_
  refine V0 (Ym O) (Ln ?_)
  exact Ea ((g.1+1,a33,c33):Nat×Option Addr×Nat) (by first | omega | (dsimp only; omega)) (by first | omega | (dsimp only; omega)) (sc O (sc O (sc O (sc O (sc O sn))))) (fun _ h=>h)
 have hie:g.1=ls.length:=by simp at hc2; omega
 refine Ce (Ex (Ex (Ebh (Et (Cs (Cr (V0 (Ym O) (V0 (Ya O) (Ln (Et (Crt ?_)))))))))))
 refine R1 O O fun w' hw=>?_
 rw [hie,List.take_length] at hw
 rw [hie,List.take_length]
 exact ⟨(g.2.1,g.2.2),O,hw.fr,hw.slT 0 O strC_len (fun _ _ _ _ h=>h)⟩
theorem resolve1_ret (b4 b5:Nat) (m0:List Value) (hm0:m0.length=5) (e0 er_:Int) (w:World) (hw:Ws w (List.flatMap Asr.ids [blk b4 (.cells m0.toArray 58 (0,0)),blk b5 (.cells #[.int .i64 e0] 29 (0,0))]) [blk b4 (.cells m0.toArray 58 (0,0)),blk b5 (.cells #[.int .i64 e0] 29 (0,0))] [] w) :
   CallsD Tryz.prog 112 #[.pointer (some ⟨b4,0,none⟩),.pointer (some ⟨b5,0,none⟩)] (.returning) w fun e u2 w'=>u2 = .returning∧(e = .returned (.tuple #[])∧Ws w (List.flatMap Asr.ids [blk b4 (.cells m0.toArray 58 (0,0)),blk b5 (.cells #[.int .i64 e0] 29 (0,0))]) [blk b4 (.cells m0.toArray 58 (0,0)),blk b5 (.cells #[.int .i64 e0] 29 (0,0))] [] w'):=by
 refine closD Tryz.func112 O 18 O O O O O (fun _=>rfl) (.inl ⟨O,O,O⟩) ?_
 refine LW (W':=Ws w (List.flatMap Asr.ids [blk b4 (.cells m0.toArray 58 (0,0)),blk b5 (.cells #[.int .i64 e0] 29 (0,0))]) [blk b4 (.cells m0.toArray 58 (0,0)),blk b5 (.cells #[.int .i64 e0] 29 (0,0))] []) (fun _ e=>by subst e; exact hw) ?_
 refine V0 (Ya O) (Ln (Et (Cs (Cr (V0 (Ym O) (V0 (yl_taN Tryz.underlying199 zr199 O) (V0 (Ym O) (V0 (Yx O O) ?_))))))))
 refine V0 (Yx O O) ?_
 refine Al Y O zr199 fun b3=>?_
 refine Lst 0 Y O O O sz199 O O O (V0 (Ya O) (Ln (Et (Cs (Cr (V0 (Ym O) (Ln (Et ?_))))))))
 refine WC.condf O ?_
 refine Cs (Cr (V0 (Ym O) (V0 (yl_nein uif20 O) (Ln (Et ?_)))))
 refine WC.condf O ?_
 refine Ck ?_
 refine E0 O fun w' hw=>?_
 exact ⟨O,Wd 1 hw⟩
theorem resolve1_pan (b4 b5:Nat) (m0:List Value) (hm0:m0.length=5) (e0 er_:Int) (w:World) (hw:Ws w (List.flatMap Asr.ids [blk b4 (.cells m0.toArray 58 (0,0)),blk b5 (.cells #[.int .i64 e0] 29 (0,0))]) [blk b4 (.cells m0.toArray 58 (0,0)),blk b5 (.cells #[.int .i64 e0] 29 (0,0))] [] w) :
   CallsD Tryz.prog 112 #[.pointer (some ⟨b4,0,none⟩),.pointer (some ⟨b5,0,none⟩)] (.panicking (refd er_)) w fun e u2 w'=>u2 = .panicking [⟨.iface 199 (.agg #[.int .i64 er_]),true,false⟩]∧(e = .returned (.tuple #[])∧Ws w (List.flatMap Asr.ids [blk b4 (.cells m0.toArray 58 (0,0)),blk b5 (.cells #[.int .i64 e0] 29 (0,0))]) [blk b4 (.cells (unitV noUnit noUAt).toArray 58 (0,0)),blk b5 (.cells #[.int .i64 er_] 29 (0,0))] [] w'):=by
 refine closD Tryz.func112 O 18 O O O O O (fun _=>rfl) (.inr ⟨_,O,O,O⟩) ?_
 refine LW (W':=Ws w (List.flatMap Asr.ids [blk b4 (.cells m0.toArray 58 (0,0)),blk b5 (.cells #[.int .i64 e0] 29 (0,0))]) [blk b4 (.cells m0.toArray 58 (0,0)),blk b5 (.cells #[.int .i64 e0] 29 (0,0))] []) (fun _ e=>by subst e; exact hw) ?_
 refine V0 (Ya O) (Ln (Et (Cs (Cr (V0 (Ym O) (V0 (yl_taY Tryz.underlying199 O) (V0 (Ym O) (V0 (Yx O O) ?_))))))))
 refine V0 (Yx O O) ?_
 refine Al Y O zr199 fun b3=>?_
 refine Lst 0 Y O O O sz199 O O O (V0 (Ya O) (Ln (Et (Cs (Cr (V0 (Ym O) (Ln (Et ?_))))))))
 refine WC.condt O ?_
 refine WC.drawsK (fun _=>true) [1,1] [(0,true),(1,true),(2,true),(3,false),(4,false)] mixed (by kernel_rfl) (by kernel_rfl) (fun _ _ _ d _ _ h=>by cases d<;>exact h) ?_
 refine D0 O (Wos [1,1]) (Yb zr58 pl58 O O) (D0 O (Wos [1,1]) (Yf fo199_0 O) (D0 O (Wos [1,1]) (Yd 0 O O O na29) ?_))
 refine De O (Wos [1,1]) ?_
 refine WL.storeAs 1 (.cells (unitV noUnit noUAt).toArray 58 (0,0)) Y O O O sz58 O O (by simp [stOk,hm0]) (by simp [setIn,vcells,unitV,noUnit,noUAt,hm0,List.drop_eq_nil_of_le]) ?_
 refine Ln (Ed ?_)
 refine De O (Wos [1,1]) ?_
 refine Lst 2 Y O O O sz29 O O O (Ln (Ed ?_))
 refine WD.nil (Wos [1,1]) ?_
 refine E0 O fun w' hw=>?_
 exact ⟨O,Wd 1 hw⟩
def faceV (f:List UInt8×List FItem) (r:SP):List Value:=[st f.1,.slice r.1 f.2.length r.2]
def rdFace (H:View) (b o:Nat) (f:List UInt8×List FItem):Prop:=∃r:SP,RdC H b o (faceV f r)∧Sl rdItem 4 H r.1 r.2 f.2
abbrev XM:=List FItem×Nat
def XM.cells (e:XM):List Value:=[.map (some e.2)]
theorem XM.cells_len (e:XM):(XM.cells e).length=1:=rfl
def rdXM (H:View) (b o:Nat) (e:XM):Prop:=RdC H b o (XM.cells e)
def IsTab (J:View) (e:XM):Prop:=J e.2=some (gobj st (tabI e.1 0) e.1.length)
theorem IsTab.mv {A B:View} {e:XM} (hv:VLe A B) (h:IsTab A e):IsTab B e:=hv _ _ h
def okFace (u:List UInt8) (f:List UInt8×List FItem):Bool:=(faceE f.1 f.2==0)&&(f.1==u)
theorem facesOk_iff:∀{us:List (List UInt8)} {fs:List (List UInt8×List FItem)},facesOk us fs=true↔∀(k:Nat) u f,us[k]? = some u→fs[k]? = some f→okFace u f=true
 | [],fs=>by simp [facesOk]
 | u::us,[]=>by simp [facesOk]
 | u::us,f::fs=>by
   have ih:=facesOk_iff (us:=us) (fs:=fs)
   simp only [facesOk,Bool.and_eq_true]
   constructor
   · rintro ⟨h1,h2⟩ k u' f' hu hf
     cases k with
     | zero=>simp at hu hf; subst hu; subst hf; simp only [okFace,Bool.and_eq_true]; exact h1
     | succ k=>exact ih.1 h2 k u' f' (by simpa using hu) (by simpa using hf)
   · intro h
     refine ⟨by have:=h 0 u f O O; simp only [okFace,Bool.and_eq_true] at this; exact this,ih.2 fun k u' f' hu hf=>h (k+1) u' f' (by simpa using hu) (by simpa using hf)⟩
theorem face_nodup {n:List UInt8} {l:List FItem} (h:faceE n l=0):(l.map (·.name)).Nodup∧l.length≤16:=by
 unfold faceE at h
 split at h
 · cases h
 · split at h
   · rename_i h1 h2
     simp only [Bool.and_eq_true,Bool.not_eq_true',Bool.or_eq_false_iff] at h2
     exact ⟨nodup_twice.2 h2.2.1,by omega⟩
   · cases h
theorem res_face {m:TMod} {fs:List (List UInt8×List FItem)} (h:¬(faceM m).2=0):resolveM m fs=(noUnit,(faceM m).2):=by rw [resolveM,if_pos h]
theorem res_cnt {m:TMod} {fs:List (List UInt8×List FItem)} (h:(faceM m).2=0) (h1:¬fs.length=m.uses.length):resolveM m fs=(noUnit,8):=by rw [resolveM,if_neg (by simp [h]),if_pos h1]
theorem res_faces {m:TMod} {fs:List (List UInt8×List FItem)} (h:(faceM m).2=0) (h1:fs.length=m.uses.length) (h2:facesOk m.uses fs=false):resolveM m fs=(noUnit,1):=by rw [resolveM,if_neg (by simp [h]),if_neg (by simp [h1]),if_pos h2]
theorem res_err {m:TMod} {fs:List (List UInt8×List FItem)} (h:(faceM m).2=0) (h1:fs.length=m.uses.length) (h2:facesOk m.uses fs=true) (h3:errU m fs≠0):resolveM m fs=(noUnit,errU m fs):=by rw [resolveM,if_neg (by simp [h]),if_neg (by simp [h1]),if_neg (by simp [h2]),if_pos h3]
theorem res_ok {m:TMod} {fs:List (List UInt8×List FItem)} (h:(faceM m).2=0) (h1:fs.length=m.uses.length) (h2:facesOk m.uses fs=true) (h3:errU m fs=0):resolveM m fs=(unitT m fs,0):=by rw [resolveM,if_neg (by simp [h]),if_neg (by simp [h1]),if_neg (by simp [h2]),if_neg (by simp [h3])]
theorem face_zero {m:TMod} (h:(faceM m).2=0):checkM m=0∧twiceB ((itemsM m).map (·.name))=false∧twiceB m.uses=false:=by
 by_cases hc:checkM m=0
 · by_cases h2:(twiceB ((itemsM m).map (·.name))||twiceB m.uses)=true
   · rw [faceM_twice hc h2] at h; cases h
   · rw [Bool.not_eq_true,Bool.or_eq_false_iff] at h2
     exact ⟨hc,h2⟩
 · rw [faceM_err hc] at h; exact absurd h hc
theorem tab_step {l:List (List UInt8)} {k:Nat} {x:List UInt8} (hx:l[k]? = some x) (hn:x ∉ l.take k):gobj st (gput x (.int .i64 ((k+1:Nat):Int)) (tabL (l.take k) 0) k) (gclock x (tabL (l.take k) 0) k)=gobj st (tabL (l.take (k+1)) 0) (k+1):=by
 have hlt:=(List.getElem?_eq_some_iff.1 hx).1
 have hl:(l.take k).length=k:=by simp; omega
 have h:=tabL_put hn
 rw [hl] at h
 rw [h.1,h.2,take_snoc hx]
 simp [hl]
theorem nodup_at {l:List (List UInt8)} (h:l.Nodup) {k:Nat} {x:List UInt8} (hx:l[k]? = some x):x ∉ l.take k:=by
 intro hm
 obtain ⟨j,hj⟩:=List.getElem?_of_mem hm
 have hjk:j<k:=by have:=(List.getElem?_eq_some_iff.1 hj).1; simp at this; omega
 rw [List.getElem?_take,if_pos hjk] at hj
 have hjl:=(List.getElem?_eq_some_iff.1 hj).1
 have:=(List.getElem?_inj hjl h).1 (hj.trans hx.symm)
 omega
theorem pos_zero {nm:List UInt8} {l:List (List UInt8)} (h:(posN nm l==0)=true):nm ∉ l:=by
 have:¬0<posN nm l:=by simp at h; omega
 exact idxOf_none.1 (posN_no this)
theorem pos_twice {l:List (List UInt8)} {k:Nat} {x:List UInt8} (hx:l[k]? = some x) (h:(posN x (l.take k)==0)=false):twiceB l=true:=by
 have hne:¬posN x (l.take k)=0:=by simpa using h
 have hp:0<posN x (l.take k):=by
   unfold posN at hne ⊢
   cases hi:idxOf x (l.take k) 0 with
   | none=>rw [hi] at hne; exact absurd rfl hne
   | some j=>simp only; omega
 obtain ⟨j,hj,_,hlt⟩:=posN_pos hp
 have h2:=(idxOf_le hj).2
 have hjk:j<k:=by simp at hlt; omega
 rw [Nat.sub_zero,List.getElem?_take,if_pos hjk] at h2
 exact twice_iff.2 ⟨k,j,(List.getElem?_eq_some_iff.1 hx).1,hjk,by rw [hx,h2]⟩
theorem nodup_grow {l:List (List UInt8)} {k:Nat} {x:List UInt8} (hx:l[k]? = some x) (hn:x ∉ l.take k) (h:(l.take k).Nodup):(l.take (k+1)).Nodup:=by
 rw [take_snoc hx,List.nodup_append]
 exact ⟨h,by simp,fun a ha b hb=>by rw [List.mem_singleton] at hb; subst hb; intro e; subst e; exact hn ha⟩
theorem errP_twice {m:TMod} {fs:List (List UInt8×List FItem)} {p:TProc} (h:twiceB (p.params++p.locs)=true):errP m fs p=6:=by rw [errP,if_pos h]; rfl
theorem errP_body {m:TMod} {fs:List (List UInt8×List FItem)} {p:TProc} (h:twiceB (p.params++p.locs)=false):errP m fs p=errSs (scpM m fs (p.params++p.locs)) p.body:=by rw [errP,if_neg (by simp [h])]; rfl
structure GP where
 i:Nat
 es:List XP
 a:Option Addr
 c:Nat
 J:View
 lb:Value
def partU (m:TMod) (c:SP) (n:Nat) (p:SP):List Value:=[st m.nm,.slice c.1 m.uses.length c.2,.int .i64 (dataM m),.slice p.1 n p.2,.slice none 0 0]
theorem en111:Enters Tryz.prog 111:=enters_of Tryz.func111 (by kernel_rfl) rfl
theorem ag58:aggOf Tryz.prog 58=some 5:=by kernel_rfl
theorem es182:elemSz Tryz.prog 182=some 2:=by kernel_rfl
theorem en114:Enters Tryz.prog 114:=enters_of Tryz.func114 (by kernel_rfl) rfl
theorem pl209:placesP Tryz.prog 209=some [(0,1),(1,1),(2,1),(3,1)]:=by kernel_rfl
theorem zr209:zeroOf Tryz.prog 209=some (.agg #[.map none,.map none,.slice none 0 0,.map none]):=by kernel_rfl
theorem en116:Enters Tryz.prog 116:=enters_of Tryz.func116 (by kernel_rfl) rfl
theorem en112:Enters Tryz.prog 112:=enters_of Tryz.func112 (by kernel_rfl) rfl
theorem el207:EltOk Tryz.prog 207 205 (.map none) 1 8:=eltOk_of (by kernel_rfl)
theorem sz207:sizeP Tryz.prog 207=some 1:=by kernel_rfl
theorem en66:Enters Tryz.prog 66:=enters_of Tryz.func66 (by kernel_rfl) rfl
theorem sz64:sizeP Tryz.prog 64=some 1:=by kernel_rfl
theorem el251:EltOk Tryz.prog 251 22 (.slice none 0 0) 1 24:=eltOk_of (by kernel_rfl)
theorem en117:Enters Tryz.prog 117:=enters_of Tryz.func117 (by kernel_rfl) rfl
theorem fo58_3:fieldOff Tryz.prog 58 3=some 3:=by kernel_rfl
theorem na55:nonAgg Tryz.prog 55=true:=by kernel_rfl
theorem pl125:placesP Tryz.prog 125=some [(0,1),(1,1),(2,1)]:=by kernel_rfl
theorem zr125:zeroOf Tryz.prog 125=some (.agg #[.int .i64 0,.int .i64 0,.slice none 0 0]):=by kernel_rfl
theorem el55:EltOk Tryz.prog 55 125 (.agg #[.int .i64 0,.int .i64 0,.slice none 0 0]) 3 40:=eltOk_of (by kernel_rfl)
theorem sz55:sizeP Tryz.prog 55=some 1:=by kernel_rfl
theorem fo58_4:fieldOff Tryz.prog 58 4=some 4:=by kernel_rfl
theorem resolve_any (H HF:View) (ke ks:Nat) (r:MAt) (m:TMod) (fa:Option Addr) (fc:Nat) (fs:List (List UInt8×List FItem)) (w:World) (hH:Le H w) (hHF:Le HF w) (hm:RdM ke ks H r m) (hmf:Sl rdFace 2 HF fa fc fs) (hb:wM m≤109951162777) :
   Calls Tryz.prog 100 #[.agg (modV m r).toArray,.slice fa fs.length fc] w fun e w'=>∃r:UAt,e = .returned (.tuple #[.agg (unitV (resolveM m fs).1 r).toArray,.int .i64 (resolveM m fs).2])∧Ext w w'∧RdU (ke+1) (ks+1) (nv w w') r (resolveM m fs).1:=by
 have hfcap:=hmf.cap
 have hfmax:=hmf.max
 refine enterD Tryz.func100 O 159 O O ?_
 refine CE (Vs:=[HF,H]) (Ws.init (by simp [hHF,hH])) ?_
 refine Cs (Cr ?_)
 refine WL.box Y O O fun b2=>?_
 refine Al Y O zr58 fun b4=>?_
 refine Lrb 0 (.cells (unitV noUnit noUAt).toArray 58 (0,0)) O O ?_
 refine Al Y O zr29 fun b5=>?_
 refine Lrb 0 (.cells #[.int .i64 0] 29 (0,0)) O O ?_
 refine Ln (Et (Cs (Cs (Cr (V0 (Yda 2 O O ag174 O) ?_)))))
 refine Ld Y O en111 O (fun r:SP=>.tuple #[.agg #[st (faceM m).1.1,.slice r.1 (faceM m).1.2.length r.2],.int .i64 (faceM m).2]) (fun H r=>Sl rdItem 4 H r.1 r.2 (faceM m).1.2) (fun w hw=>face_any H ke ks r m w (hw.vs _ (by simp)) hm hb) ?_
 intro F19 r19 hf19 h19
 refine V0 (Ym O) (V0 (Yx O O) (V0 (Yx O O) ?_))
 refine Al Y O zr180 fun b6=>?_
 refine Lst 0 Y O O O sz180 O O O (V0 (Ya O) (Ln (Et (Cs (Cr (V0 (Ym O) (V0 (yl_ne O O) (Ln (Et ?_)))))))))
 refine Cc O (fun hc0=>?_) (fun hc0=>?_)
 ·
  have he:¬(faceM m).2=0:=by simpa using hc0
  refine Cs (Cr (V0 (Yb zr58 pl58 O O) (V0 (Ym O) (Lst 2 Y O O O sz58 O O O (Lst 1 Y O O O sz29 O O O (Ln (Et (Crt (Er ?_)))))))))
  refine WE.retD0 (rs_2 O (rv_agg 2 O O ag58 O) (rv_one 1 O O O na29)) fun w' hw=>?_
  rw [res_face he]
  exact ⟨noUAt,O,hw.fr,noUnit_rd _⟩
 have he:(faceM m).2=0:=by simpa using hc0
 obtain ⟨hck,hndI,hndU⟩:=face_zero he
 have ho:=mOk hck
 have hndI:=nodup_twice.2 hndI
 have hndU:=nodup_twice.2 hndU
 have few:=ho.few
 have xu:=hm.uses.max
 have yu:=hm.uses.cap
 have xp:=hm.procs.max
 have yp:=hm.procs.cap
 have hwM:wM m=1+m.nm.length+wN m.uses+wD m.decls+wP m.procs+wSs m.main:=rfl
 refine Ck (Et (Cs (Cs (Cr (V0 (Ym O) (V0 (Yn es182 O) (V0 (Yf fo174_1 O) (V0 (Yd 3 O O O na22) (V0 (Yn es22 O) ?_)))))))))
 refine V0 (yl_ne O O) (Ln (Et ?_))
 refine Cc O (fun hc1=>?_) (fun hc1=>?_)
 ·
  have hcnt:¬fs.length=m.uses.length:=by simp at hc1; omega
  refine Cs (Cr (V0 (Yb zr58 pl58 O O) (Lst 2 Y O O O sz58 O O O (Lst 1 Y O O O sz29 O O O (Ln (Et (Crt (Er ?_))))))))
  refine WE.retD0 (rs_2 O (rv_agg 2 O O ag58 O) (rv_one 1 O O O na29)) fun w' hw=>?_
  rw [res_cnt he hcnt]
  exact ⟨noUAt,O,hw.fr,noUnit_rd _⟩
 have hcount:fs.length=m.uses.length:=by simp at hc1; omega
 refine Ck (Et (Cs (Cr (V0 (yl_func O) ?_))))
 refine WL.defer Y O ?_
 refine Ln (Et (Cs (Cr (V0 (Yda 3 O O ag174 O) ?_))))
 refine Ld Y O en113 O (fun r:SP=>.tuple #[.slice r.1 (itemsM m).length r.2,.int .i64 (dataM m)]) (fun H r=>Sl rdItem 4 H r.1 r.2 (itemsM m)) (fun w hw=>items_any H ke ks r m w (hw.vs _ (by simp)) hm ho) ?_
 intro F36 r36 hf36 h36
 refine V0 (Ym O) (V0 (Yx O O) (V0 (Yx O O) (V0 (Ya O) (V0 (Ya O) (Ln (Et (Cs (Cr ?_))))))))
 refine V0 (Ym O) ?_
 refine Ld Y O en114 O (fun b:Nat=>.map (some b)) (fun H b=>H b=some (gobj st (tabI (itemsM m) 0) (itemsM m).length)) (fun w hw=>tableOf_any F36 r36.1 r36.2 (itemsM m) w (hw.vs _ (by simp)) h36 hndI) ?_
 intro F40 b40 hf40 h40
 refine WL.gmk st Y O fun b41=>?_
 refine Lrb 0 (gobj st (tabL (m.uses.take 0) 0) 0) O O ?_
 refine V0 (Yb zr209 pl209 O O) ?_
 refine WL.box Y O O fun b43=>?_
 refine LW (fun _ h=>h.osl_nil 205 1) ?_
 refine WL.v0 ?_
 refine V0 (Ya O) (Ln (Et (Cs (Cs (Cr (V0 (Ym O) (V0 (Yn es182 O) (V0 (Ym O) (Ln (Et (Cb ?_)))))))))))
 refine CLk (ι:=GX XM) (fun g=>[(46,.int .i64 (g.i:Int))]) [(2,_),(4,_),(5,_),(9,_),(10,_),(44,_),(45,_)] (fun g=>Ws w [] [blk b43 (.cells #[.map (some b40),.map (some b41),.slice g.a g.es.length g.c,.map none] 209 (0,0)),blk b41 (gobj st (tabL (m.uses.take g.i) 0) g.i),osT 205 1 XM.cells g.a g.c g.es,blk b5 (.cells #[.int .i64 0] 29 (0,0)),blk b4 (.cells (unitV noUnit noUAt).toArray 58 (0,0)),blk b2 (.cells (modV m r).toArray 174 (0,0))] [g.J,F40,HF,H]) (fun g=>g.i≤fs.length∧g.es.map (·.1)=(fs.take g.i).map (·.2)∧(∀(k:Nat) u f,k<g.i→m.uses[k]? = some u→fs[k]? = some f→okFace u f=true)∧(Fresh w g.J∧Xs IsTab g.J g.es)) (fun g=>fs.length-g.i) ⟨0,[],none,0,v0⟩ ⟨Nat.zero_le _,O,fun k u f hk=>absurd hk (Nat.not_lt_zero k),⟨v0_fresh w,Xs.nil _⟩⟩ (sc O (sc O (sc O (sc O (sc O (sc O (sc O (sc O sn)))))))) (fun _ h=>by have h:=h.fronti 6 O; have h:=h.fronti 6 O; have h:=h.fronti 6 O; have h:=h.fronti 3 O; have h:=h.fronti 5 O; have h:=h.fronti 5 O; have h:=Wt 6 h; have h:=Ws.drops h (Vs':=[v0,F40,HF,H]) (by simp); exact h) ?_
 intro g ⟨hi,hmap,hok,⟨hfJ,hX⟩⟩
 refine Cs (Cr (V0 (yl_lt O O) (Ln (Et (Cs ?_)))))
 refine Cc O (fun hc2=>?_) (fun hc2=>?_)
 ·
  have hlt:g.i<fs.length:=by simpa using hc2
  obtain ⟨f,hfi⟩:∃f,fs[g.i]? = some f:=⟨_,List.getElem?_eq_getElem hlt⟩
  obtain ⟨pbf,pof,haf,rf,hrf,hitf⟩:=hmf.elt g.i f hfi
  obtain ⟨u,hui⟩:∃u,m.uses[g.i]? = some u:=⟨_,List.getElem?_eq_getElem (by omega)⟩
  obtain ⟨pbu,pou,hau,hru⟩:=hm.uses.elt g.i u hui
  have hru:RdC H pbu (pou+g.i*1) (strC u):=hru
  have hel:=map_len hmap hi
  refine Ck (Et (Cs (Cb (Cs (Cr (V0 (Ym O) ?_))))))
  refine V0 (Yo es182 O O haf (by omega)) ?_
  refine V0 (yl_lda 2 ag180 O O O (hrf)) ?_
  refine Al Y O zr180 fun b12=>?_
  refine V0 (Ya O) (Lst 0 Y O O O sz180 O O O (Ln (Et (Cs ?_))))
  refine WC.drawsK (noRes [.cell 4 58,.cell 5 29]) [] [(0,true),(1,false),(2,true),(3,true),(4,true),(5,true),(6,true),(7,true),(8,true),(9,true),(10,true),(11,true),(12,true),(13,false)] mixed (by kernel_rfl) (by kernel_rfl) (fun _ _ _ _ _ hd h=>bodyD_put (fn:=Tryz.f100) [.cell 4 58,.cell 5 29] O hd h) ?_
  refine D0 O (fun _ h=>h) (Yda 0 O O ag180 O) ?_
  refine De O (fun _ h=>h) ?_
  refine Lp Y O en116 O (fun w hw=>scopeCheck_any HF rf.1 rf.2 f.1 f.2 w (hw.vs _ (by simp)) hitf) ?_
  refine Ln (Ed (D0 O (fun _ h=>h) (yl_eq O O) (D0 O (fun _ h=>h) (Ym O) ?_)))
  apply WD.and 8 O O O O O Y O (fun _ h=>h) O O O O
  ·
   intro hg0
   refine Dq O (.g O O O) O (fun _ h=>h) (Yf fo180_0 O) ?_
   refine Dq O (.g O O O) O (fun _ h=>h) (Yd 0 O O O na9) ?_
   refine Dq O (.g O O O) O (fun _ h=>h) (Yf fo174_1 O) ?_
   refine Dq O (.g O O O) O (fun _ h=>h) (Yd 6 O O O na22) ?_
   refine Dq O (.g O O O) O (fun _ h=>h) (Ym O) ?_
   refine Dq O (.g O O O) O (fun _ h=>h) (Yo es22 O O hau (by omega)) ?_
   refine Dq O (.g O O O) O (fun _ h=>h) (yl_ld 3 na9 O O (hru 0 _ O)) ?_
   refine Dq O (.g O O O) O (fun _ h=>h) (yl_eqs O O) ?_
   exact Gi 8 (fun _ h=>h) O O O
  refine De O (fun _ h=>h) ?_
  refine WL.callpx (ι:=Unit) (κ:=Unit) Y O en115 O (fun _=>.tuple #[]) (fun _=>okFace u f=true) (fun _=>refd 1) (fun _=>okFace u f=false) (fun w hw=>scMust_any _ _ w) ?_ ?_
  ·
   intro _ hp
   refine Ep (Ep (WE.block_panic (Ep (Ep (WE.block_panic ?_)))))
   refine Ep ?_
   refine WE.front 4 O ?_
   refine WE.front 5 O ?_
   refine WE.panD en112 (closW [_,_] _ [blk b4 (.cells (unitV noUnit noUAt).toArray 58 (0,0)),blk b5 (.cells #[.int .i64 1] 29 (0,0))] O (fun w hw=>resolve1_pan b4 b5 (unitV noUnit noUAt) O 0 1 w hw)) (rs_2 O (rv_agg 0 O O ag58 O) (rv_one 1 O O O na29)) fun w' hw=>?_
   have hno:facesOk m.uses fs=false:=by
     rw [Bool.eq_false_iff]
     intro h
     have:=facesOk_iff.1 h g.i u f hui hfi
     rw [hp] at this; cases this
   rw [res_faces he hcount hno]
   exact ⟨noUAt,O,hw.fr,noUnit_rd _⟩
  intro _ hm64
  refine Ln (Ed ?_)
  refine WD.nil (fun _ h=>h) ?_
  refine Et (Cs ?_)
  have hof:okFace u f=true:=hm64
  have hof2:=hof
  simp only [okFace,Bool.and_eq_true,beq_iff_eq] at hof2
  obtain ⟨hfe,hfu⟩:=hof2
  obtain ⟨hfn,hfl⟩:=face_nodup hfe
  have hnot:f.1 ∉ m.uses.take g.i:=by rw [hfu]; exact nodup_at hndU hui
  refine WC.drawsK (noRes [.cell 4 58,.cell 5 29]) [2] [(0,true),(1,true),(2,true),(3,true),(4,true),(5,true),(6,true),(7,true),(8,false)] mixed (by kernel_rfl) (by kernel_rfl) (fun _ _ _ _ _ hd h=>bodyD_put (fn:=Tryz.f100) [.cell 4 58,.cell 5 29] O hd h) ?_
  refine D0 O (Wp 2) (Ym O) (D0 O (Wp 2) (yl_nil O) (D0 O (Wp 2) (Yf fo209_1 O) (D0 O (Wp 2) (Yd 1 O O O na64) (D0 O (Wp 2) (Yf fo180_0 O) (D0 O (Wp 2) (Yd 0 O O O na9) ?_)))))
  refine D0 O (Wp 2) (Ym O) ?_
  refine D0 O (Wp 2) (Yi O O O (by omega)) ?_
  refine De O (Wp 2) ?_
  refine WL.gset 2 keyStr Y um64 us9 O O O O ?_
  refine Lrb 2 (gobj st (tabL (m.uses.take (g.i+1)) 0) (g.i+1)) O (by rw [hfu]; exact tab_step hui (hfu▸hnot)) ?_
  refine Ln (Ed ?_)
  refine WD.nil (Wp 2) ?_
  refine Et ?_
  refine CU (noRes [.cell 4 58,.cell 5 29]) [3] [10,11,12] (.q false 0 (.q false 1 (.q false 2 (.q false 3 (.q true 4 (.q false 5 (.q true 6 (.e 7 (.e 8 (.e 9 .nil .stop) .stop) .stop)))))))) mixed (by kernel_rfl) (fun _ _ _ _ _ hd h=>bodyD_put (fn:=Tryz.f100) [.cell 4 58,.cell 5 29] O hd h) ?_
  refine U0 O (Wp 3) (Ym O) (U0 O (Wp 3) (Ym O) (U0 O (Wp 3) (yl_nil O) (U0 O (Wp 3) (Yf fo209_2 O) (U0 O (Wp 3) (Yd 1 O O O na207) (U0 O (Wp 3) (Yf fo180_1 O) ?_)))))
  refine U0 O (Wp 3) (Yd 0 O O O na178) ?_
  refine Ue O (Wp 3) ?_ WU.stop
  refine Ld Y O en114 O (fun b:Nat=>.map (some b)) (fun H b=>H b=some (gobj st (tabI f.2 0) f.2.length)) (fun w hw=>tableOf_any HF rf.1 rf.2 f.2 w (hw.vs _ (by simp)) hitf hfn) ?_
  intro F80 b80 hf80 h80
  refine Ln (Eu ?_)
  refine Ue O (fun _ h=>(Wv 1 (Wo 3 h):)) ?_ WU.stop
  refine Lb Y O el207 O O O O fun b81=>?_
  refine Lrb 0 (.cells (XM.cells (f.2,b80)).toArray 205 (0,0)) O (O) ?_
  refine Ln (Eu ?_)
  refine Ue O (fun _ h=>(Wv 1 (Wo 3 (Wd 1 h)):)) ?_ WU.stop
  refine LA ((f.2,b80):XM) 4 0 Y O el207 O O O O O O (by omega) (by omega) fun a82 c82=>?_
  refine Ln (Eu ?_)
  refine WU.nil (fun _ h=>(Wv 1 (Wo 3 (Wd 1 h)):)) ?_
  refine WS.e O ?_
  refine V0 (yl_nil O) (Ln (Es ?_))
  refine WS.e O ?_
  refine V0 (Yf fo209_2 O) (Ln (Es ?_))
  refine WS.e O ?_
  refine Lst 2 Y O O O sz207 O O O (Ln (Es ?_))
  refine WS.nil ?_
  refine Eb (Et ?_)
  refine WC.vjoin fun J80 j80a j80b j80f=>?_
  refine Cr ?_
  refine V0 (Yi O O O (by omega)) ?_
  refine V0 (Ym O) (Ln ?_)
  exact Ea (⟨g.i+1,g.es++[(f.2,b80)],a82,c82,J80⟩:GX XM) (by show _-(g.i+1)<_; omega) ⟨(by show g.i+1≤_; omega),map_snoc hmap hfi O,fun k u2 f2 hk hu2 hf2=>by
      rcases Nat.lt_succ_iff_lt_or_eq.1 hk with h | rfl
      · exact hok k u2 f2 h hu2 hf2
      · rw [hui] at hu2; rw [hfi] at hf2; injection hu2 with hu2; injection hf2 with hf2; subst hu2; subst hf2; exact hof,⟨j80f _ hf80 hfJ,Xs.snoc (R:=IsTab) (fun hv h=>IsTab.mv hv h) hX j80b j80a h80⟩⟩ (sc rfl (sc rfl (sc rfl (sc rfl (sc rfl (sc rfl (sc rfl (sc rfl sn)))))))) (fun _ h=>Wd 2 h)
 have hgi:g.i=fs.length:=by simp at hc2; omega
 have hfok:facesOk m.uses fs=true:=facesOk_iff.2 fun k u f hu hf=>hok k u f (by have:=(List.getElem?_eq_some_iff.1 hf).1; omega) hu hf
 have hmapF:=map_all hmap hgi
 have huall:m.uses.take g.i=m.uses:=by rw [hgi,hcount,List.take_length]
 have hglen:g.i=m.uses.length:=by rw [hgi,hcount]
 rw [huall,hglen]
 refine Ce (Ex (Ex (Ebh (Et (Cs ?_)))))
 refine WC.oslview (rd:=rdXM) 2 O XM.cells_len (fun _ _ _ _ h=>h) fun KF hKF=>?_
 refine WC.drawsK (noRes [.cell 4 58,.cell 5 29]) [3] [(0,true),(1,true),(2,true),(3,true),(5,true),(4,false),(6,true),(7,false)] mixed (by kernel_rfl) (by kernel_rfl) (fun _ _ _ _ _ hd h=>bodyD_put (fn:=Tryz.f100) [.cell 4 58,.cell 5 29] O hd h) ?_
 refine D0 O (Wp 3) (Yf fo174_0 O) (D0 O (Wp 3) (Yd 3 O O O na9) (D0 O (Wp 3) (Yf fo174_1 O) (D0 O (Wp 3) (Yd 3 O O O na22) (D0 O (Wp 3) (Ym O) ?_))))
 refine De O (Wp 3) ?_
 refine Ld Y O en66 O (fun r:SP=>.slice r.1 m.uses.length r.2) (fun F r=>Sl rdStr 1 F r.1 r.2 m.uses) (fun w hw=>cloneS_any H r.a1 r.c1 m.uses w (hw.vs _ (by simp)) hm.uses (by omega)) ?_
 intro F90 r90 hf90 h90
 refine Ln (Ed (D0 O (fun _ h=>(Wv 1 (Wo 3 h):)) (Yb zr58 pl58 O O) ?_))
 refine De O (fun _ h=>(Wv 1 (Wo 3 h):)) ?_
 refine Lst 3 Y O O O sz58 O O O (Ln (Ed ?_))
 refine WD.nil (fun _ h=>(Wv 1 (Wo 3 h):)) ?_
 refine Et (Cs (Cs ?_))
 refine Crb 3 (.cells (partU m r90 ([]:List XP).length (none,0)).toArray 58 (0,0)) O O ?_
 refine CWd (fun _ h=>h.osl_nil 125 3) ?_
 refine CWd (fun _ h=>h.v0) ?_
 refine Cr (V0 (Yf fo174_3 O) (V0 (Yd 5 O O O na171) (V0 (Yn es171 O) (V0 (Ym O) (Ln (Et (Cb ?_)))))))
 refine CLk (ι:=GP) (fun z=>[(96,.int .i64 (z.i:Int))]) [(2,_),(4,_),(5,_),(10,_),(94,_),(95,_)] (fun z=>Ws w [] [blk b43 (.cells #[.map (some b40),.map (some b41),.slice g.a g.es.length g.c,z.lb] 209 (0,0)),blk b41 (gobj st (tabL m.uses 0) m.uses.length),osT 125 3 XP.cells z.a z.c z.es,blk b5 (.cells #[.int .i64 0] 29 (0,0)),blk b4 (.cells (partU m r90 z.es.length (z.a,z.c)).toArray 58 (0,0)),blk b2 (.cells (modV m r).toArray 174 (0,0))] [z.J,F90,KF,g.J,F40,HF,H]) (fun z=>z.i≤m.procs.length∧z.es.map (·.1)=(m.procs.take z.i).map (partT m fs)∧ers (errP m fs) (m.procs.take z.i)=0∧(Fresh w z.J∧Xs (SlPt (ke+1) (ks+1)) z.J z.es)) (fun z=>m.procs.length-z.i) ⟨0,[],none,0,v0,.map none⟩ ⟨Nat.zero_le _,O,O,⟨v0_fresh w,Xs.nil _⟩⟩ (sc O (sc O (sc O (sc O (sc O (sc O (sc O sn))))))) (fun _ h=>by have h:=h.fronti 5 O; have h:=h.fronti 5 O; have h:=h.fronti 5 O; have h:=h.fronti 3 O; have h:=h.fronti 5 O; have h:=h.fronti 5 O; have h:=Ws.drops h (Vs':=[v0,F90,KF,g.J,F40,HF,H]) (by simp); exact h) ?_
 intro z ⟨hi2,hmap2,hers2,⟨hfJ2,hX2⟩⟩
 refine Cs (Cr (V0 (yl_lt O O) (Ln (Et (Cs ?_)))))
 refine Cc O (fun hc3=>?_) (fun hc3=>?_)
 ·
  have hlt:z.i<m.procs.length:=by simpa using hc3
  obtain ⟨p,hpi⟩:∃q,m.procs[z.i]? = some q:=⟨_,List.getElem?_eq_getElem hlt⟩
  obtain ⟨pbp,pop,hap,hrp⟩:=hm.procs.elt z.i p hpi
  obtain ⟨pa1,pc1,pa2,pc2,pa3,pc3,hrow,hs1,hs2,hs3⟩:=hrp
  have op:=okP (ho.procs p (List.mem_of_getElem? hpi))
  have pfew:=op.few
  have hup:=wP_upto hpi
  have hx1:=hs1.max
  have hy1:=hs1.cap
  have hx2:=hs2.max
  have hy2:=hs2.cap
  have hel2:=map_len hmap2 hi2
  refine Ck (Et (Cs (Cb (Cs (Cr ?_)))))
  refine V0 (Yo es171 O O hap (by omega)) ?_
  refine V0 (yl_lda 6 ag213 O O O (hrow)) ?_
  refine Al Y O zr213 fun b14=>?_
  refine Lst 0 Y O O O sz213 O O O (Ln (Et (Cs (Cr (V0 (Ym O) ?_)))))
  refine WL.gmk st Y O fun b101=>?_
  refine Lrb 0 (gobj st (tabL ((p.params++p.locs).take 0) 0) 0) O O ?_
  refine V0 (yl_nil O) (V0 (Yf fo209_3 O) (Lst 2 Y O O O sz64 O O O (Ln (Et (Cs (Cs (Cr (V0 (Yf fo213_2 O) (V0 (Yd 1 O O O na22) ?_)))))))))
  refine V0 (Yf fo213_3 O) (V0 (Yd 1 O O O na22) ?_)
  refine Lb Y O el251 O O O O fun b108=>?_
  refine Ld Y O en117 O (fun r:SP=>.slice r.1 (p.params++p.locs).length r.2) (fun F r=>Sl rdStr 1 F r.1 r.2 (p.params++p.locs)) (fun w hw=>by
      have hls:Sl rdS 1 (hv w) (some ⟨b108,0,none⟩) 2 [((pa1,pc1),p.params),((pa2,pc2),p.locs)]:=⟨by simp,by decide,by simp,fun j x hj=>⟨b108,0,rfl,by
        match j,hj with
        | 0,hj=>simp only [List.getElem?_cons_zero,Option.some.injEq] at hj; subst hj; exact ⟨hw.hvb 0 rfl rfl,hs1.imp fun b o x hx=>rdStr_mono (hv_of (hw.vs H (by simp))) b o x hx⟩
        | 1,hj=>simp only [List.getElem?_cons_succ,List.getElem?_cons_zero,Option.some.injEq] at hj; subst hj; exact ⟨hw.hvb 0 rfl rfl,hs2.imp fun b o x hx=>rdStr_mono (hv_of (hw.vs H (by simp))) b o x hx⟩⟩⟩
      have hc:=concatS_any (hv w) (some ⟨b108,0,none⟩) 2 _ w (hv_le w) hls (by simp [totL]; omega) (by simp)
      rw [show [((pa1,pc1),p.params),((pa2,pc2),p.locs)].flatMap (·.2)=p.params++p.locs by simp] at hc
      exact hc) ?_
  intro F109 r109 hf109 h109
  refine V0 (Yn es22 O) (V0 (Ym O) (Ln (Et (Cb ?_))))
  refine CLk (ι:=Nat) (fun j=>[(111,.int .i64 (j:Int))]) [(2,_),(4,_),(5,_),(10,_),(14,_),(94,_),(95,_),(96,_),(109,_),(110,_)] (fun j=>Ws w [] [blk b43 (.cells #[.map (some b40),.map (some b41),.slice g.a g.es.length g.c,.map (some b101)] 209 (0,0)),blk b101 (gobj st (tabL ((p.params++p.locs).take j) 0) j),blk b14 (.cells (procV p pa1 pc1 pa2 pc2 pa3 pc3).toArray 213 (0,0)),blk b41 (gobj st (tabL m.uses 0) m.uses.length),osT 125 3 XP.cells z.a z.c z.es,blk b5 (.cells #[.int .i64 0] 29 (0,0)),blk b4 (.cells (partU m r90 z.es.length (z.a,z.c)).toArray 58 (0,0)),blk b2 (.cells (modV m r).toArray 174 (0,0))] [F109,z.J,F90,KF,g.J,F40,HF,H]) (fun j=>j≤(p.params++p.locs).length∧((p.params++p.locs).take j).Nodup) (fun j=>(p.params++p.locs).length-j) 0 ⟨Nat.zero_le _,List.nodup_nil⟩ (sc O (sc O (sc O (sc O (sc O (sc O (sc O (sc O (sc O (sc O (sc O sn))))))))))) (fun _ h=>by exact (Wt 8 ((((((((h.f 8 O).f 8 O).f 8 O).f 8 O).f 8 O).f 7 O).f 7 O).f 8 O):)) ?_
  intro j ⟨hj,hnj⟩
  refine Cs (Cr (V0 (yl_lt O O) (Ln (Et (Cs ?_)))))
  refine Cc O (fun hc4=>?_) (fun hc4=>?_)
  ·
   have hlt:j<(p.params++p.locs).length:=by simp only [decide_eq_true_eq] at hc4; omega
   obtain ⟨s,hsi⟩:∃q,(p.params++p.locs)[j]? = some q:=⟨_,List.getElem?_eq_getElem hlt⟩
   obtain ⟨pbs,pos,has,hrs⟩:=h109.elt j s hsi
   have hrs:RdC F109 pbs (pos+j*1) (strC s):=hrs
   have hcn:=h109.cap
   have hmn:=h109.max
   refine Ck (Et (Cs (Cb (Cs (Cr (V0 (Ym O) ?_))))))
   refine V0 (Yo es22 O O has (by omega)) ?_
   refine V0 (yl_ld 0 na9 O O (hrs 0 _ O)) (V0 (Ya O) (V0 (Ya O) (Ln (Et (Cs (Cr (V0 (Ym O) (V0 (yl_nil O) ?_))))))))
   refine V0 (Yf fo209_3 O) (V0 (Yd 0 O O O na64) (V0 (Ym O) (V0 (yl_glook 1 keyStr um64 us9 zr3 O O O) ?_)))
   rw [posN_get]
   refine V0 (yl_eq O O) ?_
   refine WL.callpx (ι:=Unit) (κ:=Unit) Y O en115 O (fun _=>.tuple #[]) (fun _=>(posN s ((p.params++p.locs).take j)==0)=true) (fun _=>refd 6) (fun _=>(posN s ((p.params++p.locs).take j)==0)=false) (fun w hw=>scMust_any _ _ w) ?_ ?_
   ·
    intro _ hp
    refine Ep (WE.block_panic (Ep (Ep (WE.block_panic (Ep ?_)))))
    refine WE.block_panic (Ep (Ep (WE.block_panic (Ep ?_))))
    refine WE.front 5 O ?_
    refine WE.front 6 O ?_
    refine WE.panD en112 (closW [_,_] _ [blk b4 (.cells (unitV noUnit noUAt).toArray 58 (0,0)),blk b5 (.cells #[.int .i64 6] 29 (0,0))] O (fun w hw=>resolve1_pan b4 b5 (partU m r90 z.es.length (z.a,z.c)) O 0 6 w hw)) (rs_2 O (rv_agg 0 O O ag58 O) (rv_one 1 O O O na29)) fun w' hw=>?_
    have ht:=pos_twice hsi hp
    have hE:errU m fs=6:=by rw [errU,ers_hit (errP m fs) hpi hers2 (by rw [errP_twice ht]; decide),errP_twice ht]; rfl
    rw [res_err he hcount hfok (by rw [hE]; decide),hE]
    exact ⟨noUAt,O,hw.fr,noUnit_rd _⟩
   intro _ hm123
   have hnot:=pos_zero hm123
   refine Ln (Et (Cr (V0 (Ym O) (V0 (yl_nil O) (V0 (Yf fo209_3 O) (V0 (Yd 0 O O O na64) (V0 (Ym O) ?_)))))))
   refine V0 (Ym O) ?_
   refine V0 (Yi O O O (by omega)) ?_
   refine WL.gset 1 keyStr Y um64 us9 O O O O ?_
   refine Lrb 1 (gobj st (tabL ((p.params++p.locs).take (j+1)) 0) (j+1)) O (tab_step hsi hnot) ?_
   refine Ln (Eb (Et (Cr ?_)))
   refine V0 (Yi O O O (by omega)) ?_
   refine V0 (Ym O) (Ln ?_)
   exact Ea (j+1) (by omega) ⟨by omega,nodup_grow hsi hnot hnj⟩ (sc O (sc O (sc O (sc O (sc O (sc O (sc O (sc O (sc O (sc O (sc O sn))))))))))) (fun _ h=>h)
  have hjn:j=(p.params++p.locs).length:=by simp only [decide_eq_false_iff_not] at hc4; omega
  have hnd2:twiceB (p.params++p.locs)=false:=nodup_twice.1 (by rw [hjn,List.take_length] at hnj; exact hnj)
  rw [hjn,List.take_length]
  refine Ce (Ex (Ex (Ebh (Et ?_))))
  refine CU (noRes [.cell 4 58,.cell 5 29]) [4] [15,16] (.q false 0 (.q true 1 (.q false 2 (.q true 3 (.q false 4 (.q false 5 (.q true 6 (.q false 7 (.q false 8 (.q false 9 (.q true 10 (.e 11 (.q false 12 (.e 13 (.e 14 .nil .stop) .stop)) .stop)))))))))))) mixed (by kernel_rfl) (fun _ _ _ _ _ hd h=>bodyD_put (fn:=Tryz.f100) [.cell 4 58,.cell 5 29] O hd h) ?_
  refine U0 O (Wp 4) (Yf fo58_3 O) (U0 O (Wp 4) (Yd 5 O O O na55) (U0 O (Wp 4) (Yf fo213_2 O) (U0 O (Wp 4) (Yd 2 O O O na22) (U0 O (Wp 4) (Yn es22 O) (U0 O (Wp 4) (Yf fo213_3 O) ?_)))))
  refine U0 O (Wp 4) (Yd 2 O O O na22) (U0 O (Wp 4) (Yn es22 O) (U0 O (Wp 4) (Ym O) (U0 O (Wp 4) (Yf fo213_4 O) (U0 O (Wp 4) (Yd 2 O O O na172) ?_))))
  refine Ue O (Wp 4) ?_ WU.stop
  refine WL.calldx (ι:=SP) (κ:=Unit) Y O en118 O (fun r=>.slice r.1 (actsT (scpM m fs (p.params++p.locs)) p.body).length r.2) (fun F r=>errSs (scpM m fs (p.params++p.locs)) p.body=0∧Sl (RdA (ke+1) (ks+1)) 7 F r.1 r.2 (actsT (scpM m fs (p.params++p.locs)) p.body)) (fun _=>refd (errSs (scpM m fs (p.params++p.locs)) p.body)) (fun _=>errSs (scpM m fs (p.params++p.locs)) p.body≠0) (fun w hw=>by
      have hS:Slv (hv w) b43 (scpM m fs (p.params++p.locs)):=⟨⟨b40,b41,g.a,g.c,b101,⟨hw.hvb 0 rfl rfl,hw.hvb 0 rfl rfl,by show vc (hv w) b43 2=some (.slice g.a (fs.map (·.2)).length g.c); rw [←hmapF,List.length_map]; exact hv_blk (hw.hvw 0 rfl) rfl,hw.hvb 0 rfl rfl⟩,hw.vs F40 (by simp) _ _ h40,hw.hvw 3 rfl,by show Sl rdTab 1 (hv w) g.a g.c (fs.map (·.2)); rw [←hmapF]; exact slX_of hKF hX fun b o e h1 h2=>⟨e.2,(hv_of (hw.vs KF (by simp))).cell (h1 0 _ rfl),hw.vs g.J (by simp) _ _ h2⟩,hw.hvw 1 rfl⟩,hndU,by show m.uses.length=(fs.map (·.2)).length; rw [List.length_map,hcount],⟨ho.few.1,by show (p.params++p.locs).length≤7; rw [List.length_append]; omega⟩⟩
      exact scActs_any (hv w) H b43 (scpM m fs (p.params++p.locs)) ke hS ks p.body pa3 pc3 w (hv_le w) (hw.vs H (by simp)) hs3 (by omega)) ?_ ?_
  ·
   intro _ hp
   refine Ep (WE.block_panic (Ep (Ep (WE.block_panic (Ep ?_)))))
   refine WE.front 5 O ?_
   refine WE.front 6 O ?_
   refine WE.panD en112 (closW [_,_] _ [blk b4 (.cells (unitV noUnit noUAt).toArray 58 (0,0)),blk b5 (.cells #[.int .i64 (errSs (scpM m fs (p.params++p.locs)) p.body)] 29 (0,0))] O (fun w hw=>resolve1_pan b4 b5 (partU m r90 z.es.length (z.a,z.c)) O 0 (errSs (scpM m fs (p.params++p.locs)) p.body) w hw)) (rs_2 O (rv_agg 0 O O ag58 O) (rv_one 1 O O O na29)) fun w' hw=>?_
   have hE:errU m fs=errSs (scpM m fs (p.params++p.locs)) p.body:=by rw [errU,ers_hit (errP m fs) hpi hers2 (by rw [errP_body hnd2]; exact hp),errP_body hnd2,er_ne hp]
   rw [res_err he hcount hfok (by rw [hE]; exact hp),hE]
   exact ⟨noUAt,O,hw.fr,noUnit_rd _⟩
  intro F143 r143 hfr143 ⟨he143,h143⟩
  refine Ln (Eu (U0 O (fun _ h=>(Wv 1 (Wo 4 h):)) (Yb zr125 pl125 O O) ?_))
  refine Ue O (fun _ h=>(Wv 1 (Wo 4 h):)) ?_ WU.stop
  refine Lb Y O el55 O O O O fun b145=>?_
  refine Lrb 0 (.cells (XP.cells (partT m fs p,r143)).toArray 125 (0,0)) O (O) ?_
  refine Ln (Eu ?_)
  refine Ue O (fun _ h=>(Wv 1 (Wo 4 (Wd 1 h)):)) ?_ WU.stop
  refine LA (((partT m fs p,r143):XP)) 5 0 Y O el55 O O O O O O (by omega) (by omega) fun a146 c146=>?_
  refine Ln (Eu ?_)
  refine WU.nil (fun _ h=>(Wv 1 (Wo 4 (Wd 1 h)):)) ?_
  refine WS.e O ?_
  refine V0 (Yf fo58_3 O) (Ln (Es ?_))
  refine WS.e O ?_
  refine Lst 7 Y O O O sz55 O O O (Ln (Es ?_))
  refine WS.nil ?_
  refine Eb (Et ?_)
  refine WC.vjoin fun Jx jxa jxb jxf=>?_
  refine WC.vjoin fun J143 j143a j143b j143f=>?_
  refine Cr ?_
  refine V0 (Yi O O O (by omega)) ?_
  refine V0 (Ym O) (Ln ?_)
  exact Ea (⟨z.i+1,z.es++[(partT m fs p,r143)],a146,c146,J143,.map (some b101)⟩:GP) (by show _-(z.i+1)<_; omega) ⟨(by show z.i+1≤_; omega),map_snoc hmap2 hpi O,(by show ers (errP m fs) (m.procs.take (z.i+1))=0; rw [ers_take _ hpi,hers2,er_0,errP_body hnd2,he143]),⟨j143f _ (jxf _ hfr143 hf109) hfJ2,Xs.snoc (R:=SlPt _ _) (fun hv h=>SlPt.mv hv h) hX2 j143b (VLe.trans jxa j143a) h143⟩⟩ (sc O (sc O (sc O (sc O (sc O (sc O (sc O sn))))))) (fun _ h=>by exact (Wt 6 ((((((h.f 8 O).f 8 O).f 8 O).f 8 O).f 8 O).f 6 O):))
 have hqi:z.i=m.procs.length:=by simp at hc3; omega
 have hall2:=map_all hmap2 hqi
 have hers3:ers (errP m fs) m.procs=0:=by rw [←hers2,hqi,List.take_length]
 have hU:unitT m fs=⟨m.nm,m.uses,dataM m,z.es.map (·.1),actsT (scpM m fs []) m.main⟩:=by rw [hall2]; rfl
 refine Ce (Ex (Ex (Ebh (Et (Cs (Cr (V0 (Ym O) ?_)))))))
 refine WL.gmk st Y O fun b150=>?_
 refine V0 (yl_nil O) (V0 (Yf fo209_3 O) (Lst 1 Y O O O sz64 O O O (Ln (Et (Cs (Cr (V0 (Ym O) (V0 (Yf fo174_4 O) ?_))))))))
 refine V0 (Yd 6 O O O na172) ?_
 refine WL.calldx (ι:=SP) (κ:=Unit) Y O en118 O (fun r=>.slice r.1 (actsT (scpM m fs []) m.main).length r.2) (fun F r=>errSs (scpM m fs []) m.main=0∧Sl (RdA (ke+1) (ks+1)) 7 F r.1 r.2 (actsT (scpM m fs []) m.main)) (fun _=>refd (errSs (scpM m fs []) m.main)) (fun _=>errSs (scpM m fs []) m.main≠0) (fun w hw=>by
     have hS:Slv (hv w) b43 (scpM m fs []):=⟨⟨b40,b41,g.a,g.c,b150,⟨hw.hvb 1 rfl rfl,hw.hvb 1 rfl rfl,by show vc (hv w) b43 2=some (.slice g.a (fs.map (·.2)).length g.c); rw [←hmapF,List.length_map]; exact hv_blk (hw.hvw 1 rfl) rfl,hw.hvb 1 rfl rfl⟩,hw.vs F40 (by simp) _ _ h40,hw.hvw 2 rfl,by show Sl rdTab 1 (hv w) g.a g.c (fs.map (·.2)); rw [←hmapF]; exact slX_of hKF hX fun b o e h1 h2=>⟨e.2,(hv_of (hw.vs KF (by simp))).cell (h1 0 _ rfl),hw.vs g.J (by simp) _ _ h2⟩,hw.hvw 0 rfl⟩,hndU,by show m.uses.length=(fs.map (·.2)).length; rw [List.length_map,hcount],⟨ho.few.1,by show (0:Nat)≤7; omega⟩⟩
     exact scActs_any (hv w) H b43 (scpM m fs []) ke hS ks m.main r.a4 r.c4 w (hv_le w) (hw.vs H (by simp)) hm.main (by omega)) ?_ ?_
 ·
  intro _ hp
  refine Ep ?_
  refine WE.front 4 O ?_
  refine WE.front 5 O ?_
  refine WE.panD en112 (closW [_,_] _ [blk b4 (.cells (unitV noUnit noUAt).toArray 58 (0,0)),blk b5 (.cells #[.int .i64 (errSs (scpM m fs []) m.main)] 29 (0,0))] O (fun w hw=>resolve1_pan b4 b5 (partU m r90 z.es.length (z.a,z.c)) O 0 (errSs (scpM m fs []) m.main) w hw)) (rs_2 O (rv_agg 0 O O ag58 O) (rv_one 1 O O O na29)) fun w' hw=>?_
  have hE:errU m fs=errSs (scpM m fs []) m.main:=by rw [errU,hers3,er_0]
  rw [res_err he hcount hfok (by rw [hE]; exact hp),hE]
  exact ⟨noUAt,O,hw.fr,noUnit_rd _⟩
 intro F156 r156 hfr156 ⟨he156,h156⟩
 refine V0 (Yf fo58_4 O) (Lst 5 Y O O O sz56 O O O (Ln (Et (Cs ?_))))
 refine WC.oslN (rd:=rdXP) 3 O (fun _ hk=>by cases hk) XP.cells_len (fun _ _ _ _ h=>h) fun KP fKP hKP=>?_
 refine Crb 4 (.cells (unitV (unitT m fs) ⟨r90,(z.a,z.c),r156⟩).toArray 58 (0,0)) O (by rw [hU]; show Obj.cells _ _ _=Obj.cells (unitV _ _).toArray _ _; simp only [unitV,List.length_map]; rfl) ?_
 refine Cr (V0 (Yda 4 O O ag58 O) (Lst 4 Y O O O sz58 O O O (Lst 3 Y O O O sz29 O O O (Ln (Et (Crt ?_))))))
 refine WE.front 3 O ?_
 refine WE.front 4 O ?_
 refine WE.retD en112 (closW [_,_] _ [blk b4 (.cells (unitV (unitT m fs) ⟨r90,(z.a,z.c),r156⟩).toArray 58 (0,0)),blk b5 (.cells #[.int .i64 0] 29 (0,0))] O (fun w hw=>resolve1_ret b4 b5 (unitV (unitT m fs) ⟨r90,(z.a,z.c),r156⟩) O 0 0 w hw)) (rs_2 O (rv_agg 0 O O ag58 O) (rv_one 1 O O O na29)) fun w' hw=>?_
 rw [res_ok he hcount hfok (by rw [errU,hers3,er_0,he156])]
 exact ⟨⟨r90,(z.a,z.c),r156⟩,O,hw.fr,⟨slStr_mv h90 (nv_vs hw (by simp) hf90),by rw [hU]; exact slPt_of hKP (nv_vs hw (by simp) fKP) (nv_vs hw (by simp) hfJ2) hX2,slA_mv h156 (nv_vs hw (by simp) hfr156)⟩⟩
structure RAt where
 ma:MAt
 fa:SP
 oa:SP
 na:SP
structure RsIn (HS:View) (m:TMod) (fs:List (List UInt8×List FItem)) (ns:List (List UInt8)) (q:RAt):Prop where
 uses:Sl rdStr 1 HS q.ma.a1 q.ma.c1 m.uses
 faces:Sl rdFace 2 HS q.fa.1 q.fa.2 fs
 own:Sl rdItem 4 HS q.oa.1 q.oa.2 (itemsM m)
 names:Sl rdStr 1 HS q.na.1 q.na.2 ns
 len:m.uses.length=fs.length
structure GQ where
 i:Nat
 es:List XP
 a:Option Addr
 c:Nat
 J:View
 ns:List (List UInt8)
 na:SP
theorem slItem_mv {H N:View} (hv:VLe H N) {a:Option Addr} {c:Nat} {l:List FItem} (h:Sl rdItem 4 H a c l):Sl rdItem 4 N a c l:=h.imp fun b o x hx=>rdItem_mono hv b o x hx
def cntM:TMod:=(⟨[99,110,116],[],[(⟨1,[107],true,3⟩:TDecl),(⟨2,[115,117,109],true,0⟩:TDecl),(⟨3,[116],true,4⟩:TDecl)],[(⟨[100,111,119,110],true,[[110]],[[105]],[(TStmt.mk 1 [] [105] [(TExpr.mk 3 0 [] [110] [])] [] []),(TStmt.mk 5 [] [] [(TExpr.mk 3 0 [] [105] [])] [(TStmt.mk 1 [] [115,117,109] [(TExpr.mk 9 0 [] [] [(TExpr.mk 3 0 [] [115,117,109] []),(TExpr.mk 3 0 [] [105] [])])] [] []),(TStmt.mk 1 [] [105] [(TExpr.mk 10 0 [] [] [(TExpr.mk 3 0 [] [105] []),(TExpr.mk 1 1 [] [] [])])] [] [])] []),(TStmt.mk 6 [] [] [(TExpr.mk 3 0 [] [115,117,109] [])] [] [])]⟩:TProc)],[]⟩:TMod)
def topS:Tx:=[109,111,100,117,108,101,32,116,111,112,123,117,115,101,32,99,110,116,59,109,97,105,110,123,99,110,116,46,116,91,49,93,61,99,110,116,46,100,111,119,110,40,99,110,116,46,107,41,59,111,117,116,32,99,110,116,46,116,91,105,110,93,59,105,102,40,99,110,116,46,115,117,109,61,54,41,123,111,117,116,32,55,59,125,101,108,115,101,123,111,117,116,32,56,59,125,125,125]
def topM:TMod:=(parseM topS).1
def fsC:List (List UInt8×List FItem):=[(cntN,cntI)]
theorem cnt_w:wM cntM≤109951162777:=by decide +kernel
theorem parseM_w (s:Tx):wM (parseM s).1≤73728:=by
 unfold parseM
 split
 · show wM noMod≤_; decide
 · rename_i h
   have h0:(lexR s).2=0:=by simpa using h
   have hl:=(lexR_tok h0).len
   split
   · rename_i m hm
     split
     · have:=modP_w hm
       simp at this
       show wM m≤_
       omega
     · show wM noMod≤_; decide
   · show wM noMod≤_; decide
theorem pl222:placesP Tryz.prog 222=some [(0,1),(1,1),(2,1),(3,1),(4,1),(5,1)]:=by kernel_rfl
theorem counter_any (w:World) :
   Calls Tryz.prog 101 #[] w fun e w'=>∃r:MAt,e = .returned (.agg (modV cntM r).toArray)∧Ext w w'∧RdM 7 6 (nv w w') r cntM:=by
 refine enter Tryz.func101 O 33 O O ?_
 refine CE (Vs:=[]) (Ws.init (by simp)) ?_
 refine Cs (Cr ?_)
 refine Al Y O zr174 fun b0=>?_
 refine Ln (Et (Cs (Cr (V0 (Yb zr217 pl217 O O) (V0 (Yb zr217 pl217 O O) (V0 (Yb zr217 pl217 O O) ?_))))))
 refine Lb Y O el170 O O O O fun b4=>?_
 refine LN (rd:=rdDecl) (f:=TDecl.cells) (m:=3) 0 [(⟨1,[107],true,3⟩:TDecl),(⟨2,[115,117,109],true,0⟩:TDecl),(⟨3,[116],true,4⟩:TDecl)] O O (fun _ hk=>by cases hk) TDecl.cells_len (fun _ _ _ _ h=>h) (show 3≤3 by decide) (by decide) fun H4 fH4 hH4=>?_
 refine Lb Y O el22 O O O O fun b5=>?_
 refine LN (rd:=rdStr) (f:=strC) (m:=1) 0 [[110]] O O (fun _ hk=>by cases hk) strC_len (fun _ _ _ _ h=>h) (show 1≤1 by decide) (by decide) fun H5 fH5 hH5=>?_
 refine Lb Y O el22 O O O O fun b6=>?_
 refine LN (rd:=rdStr) (f:=strC) (m:=1) 0 [[105]] O O (fun _ hk=>by cases hk) strC_len (fun _ _ _ _ h=>h) (show 1≤1 by decide) (by decide) fun H6 fH6 hH6=>?_
 refine V0 (Yb zr220 pl220 O O) ?_
 refine Lb Y O el218 O O O O fun b8=>?_
 refine LN (rd:=rdXE) (f:=XE.cells) (m:=1) 0 [((TExpr.mk 3 0 [] [110] []),none,0)] O O (fun _ hk=>by cases hk) XE.cells_len (fun _ _ _ _ h=>h) (show 1≤1 by decide) (by decide) fun H8 fH8 hH8=>?_
 refine V0 (Yb zr222 pl222 O O) (V0 (Yb zr220 pl220 O O) ?_)
 refine Lb Y O el218 O O O O fun b11=>?_
 refine LN (rd:=rdXE) (f:=XE.cells) (m:=1) 0 [((TExpr.mk 3 0 [] [105] []),none,0)] O O (fun _ hk=>by cases hk) XE.cells_len (fun _ _ _ _ h=>h) (show 1≤1 by decide) (by decide) fun H11 fH11 hH11=>?_
 refine V0 (Yb zr220 pl220 O O) (V0 (Yb zr220 pl220 O O) ?_)
 refine Lb Y O el218 O O O O fun b14=>?_
 refine LN (rd:=rdXE) (f:=XE.cells) (m:=2) 0 [((TExpr.mk 3 0 [] [115,117,109] []),none,0),((TExpr.mk 3 0 [] [105] []),none,0)] O O (fun _ hk=>by cases hk) XE.cells_len (fun _ _ _ _ h=>h) (show 2≤2 by decide) (by decide) fun H14 fH14 hH14=>?_
 refine V0 (Yb zr220 pl220 O O) ?_
 refine Lb Y O el218 O O O O fun b16=>?_
 refine LN (rd:=rdXE) (f:=XE.cells) (m:=1) 0 [((TExpr.mk 9 0 [] [] [(TExpr.mk 3 0 [] [115,117,109] []),(TExpr.mk 3 0 [] [105] [])]),(some ⟨b14,0,none⟩),2)] O O (fun _ hk=>by cases hk) XE.cells_len (fun _ _ _ _ h=>h) (show 1≤1 by decide) (by decide) fun H16 fH16 hH16=>?_
 refine V0 (Yb zr222 pl222 O O) (V0 (Yb zr220 pl220 O O) (V0 (Yb zr220 pl220 O O) ?_))
 refine Lb Y O el218 O O O O fun b20=>?_
 refine LN (rd:=rdXE) (f:=XE.cells) (m:=2) 0 [((TExpr.mk 3 0 [] [105] []),none,0),((TExpr.mk 1 1 [] [] []),none,0)] O O (fun _ hk=>by cases hk) XE.cells_len (fun _ _ _ _ h=>h) (show 2≤2 by decide) (by decide) fun H20 fH20 hH20=>?_
 refine V0 (Yb zr220 pl220 O O) ?_
 refine Lb Y O el218 O O O O fun b22=>?_
 refine LN (rd:=rdXE) (f:=XE.cells) (m:=1) 0 [((TExpr.mk 10 0 [] [] [(TExpr.mk 3 0 [] [105] []),(TExpr.mk 1 1 [] [] [])]),(some ⟨b20,0,none⟩),2)] O O (fun _ hk=>by cases hk) XE.cells_len (fun _ _ _ _ h=>h) (show 1≤1 by decide) (by decide) fun H22 fH22 hH22=>?_
 refine V0 (Yb zr222 pl222 O O) ?_
 refine Lb Y O el172 O O O O fun b24=>?_
 refine LN (rd:=rdSX) (f:=SX.cells) (m:=2) 0 [((TStmt.mk 1 [] [115,117,109] [(TExpr.mk 9 0 [] [] [(TExpr.mk 3 0 [] [115,117,109] []),(TExpr.mk 3 0 [] [105] [])])] [] []),(⟨((some ⟨b16,0,none⟩),1),(none,0),(none,0)⟩:SAt)),((TStmt.mk 1 [] [105] [(TExpr.mk 10 0 [] [] [(TExpr.mk 3 0 [] [105] []),(TExpr.mk 1 1 [] [] [])])] [] []),(⟨((some ⟨b22,0,none⟩),1),(none,0),(none,0)⟩:SAt))] O O (fun _ hk=>by cases hk) SX.cells_len (fun _ _ _ _ h=>h) (show 2≤2 by decide) (by decide) fun H24 fH24 hH24=>?_
 refine V0 (Yb zr222 pl222 O O) (V0 (Yb zr220 pl220 O O) ?_)
 refine Lb Y O el218 O O O O fun b27=>?_
 refine LN (rd:=rdXE) (f:=XE.cells) (m:=1) 0 [((TExpr.mk 3 0 [] [115,117,109] []),none,0)] O O (fun _ hk=>by cases hk) XE.cells_len (fun _ _ _ _ h=>h) (show 1≤1 by decide) (by decide) fun H27 fH27 hH27=>?_
 refine V0 (Yb zr222 pl222 O O) ?_
 refine Lb Y O el172 O O O O fun b29=>?_
 refine LN (rd:=rdSX) (f:=SX.cells) (m:=3) 0 [((TStmt.mk 1 [] [105] [(TExpr.mk 3 0 [] [110] [])] [] []),(⟨((some ⟨b8,0,none⟩),1),(none,0),(none,0)⟩:SAt)),((TStmt.mk 5 [] [] [(TExpr.mk 3 0 [] [105] [])] [(TStmt.mk 1 [] [115,117,109] [(TExpr.mk 9 0 [] [] [(TExpr.mk 3 0 [] [115,117,109] []),(TExpr.mk 3 0 [] [105] [])])] [] []),(TStmt.mk 1 [] [105] [(TExpr.mk 10 0 [] [] [(TExpr.mk 3 0 [] [105] []),(TExpr.mk 1 1 [] [] [])])] [] [])] []),(⟨((some ⟨b11,0,none⟩),1),((some ⟨b24,0,none⟩),2),(none,0)⟩:SAt)),((TStmt.mk 6 [] [] [(TExpr.mk 3 0 [] [115,117,109] [])] [] []),(⟨((some ⟨b27,0,none⟩),1),(none,0),(none,0)⟩:SAt))] O O (fun _ hk=>by cases hk) SX.cells_len (fun _ _ _ _ h=>h) (show 3≤3 by decide) (by decide) fun H29 fH29 hH29=>?_
 refine V0 (Yb zr213 pl213 O O) ?_
 refine Lb Y O el171 O O O O fun b31=>?_
 refine LN (rd:=rdPX) (f:=PX.cells) (m:=1) 0 [((⟨[100,111,119,110],true,[[110]],[[105]],[(TStmt.mk 1 [] [105] [(TExpr.mk 3 0 [] [110] [])] [] []),(TStmt.mk 5 [] [] [(TExpr.mk 3 0 [] [105] [])] [(TStmt.mk 1 [] [115,117,109] [(TExpr.mk 9 0 [] [] [(TExpr.mk 3 0 [] [115,117,109] []),(TExpr.mk 3 0 [] [105] [])])] [] []),(TStmt.mk 1 [] [105] [(TExpr.mk 10 0 [] [] [(TExpr.mk 3 0 [] [105] []),(TExpr.mk 1 1 [] [] [])])] [] [])] []),(TStmt.mk 6 [] [] [(TExpr.mk 3 0 [] [115,117,109] [])] [] [])]⟩:TProc),(⟨((some ⟨b5,0,none⟩),1),((some ⟨b6,0,none⟩),1),((some ⟨b29,0,none⟩),3)⟩:PAt))] O O (fun _ hk=>by cases hk) PX.cells_len (fun _ _ _ _ h=>h) (show 1≤1 by decide) (by decide) fun H31 fH31 hH31=>?_
 refine V0 (Yb zr174 pl174 O O) (Lst 0 Y O O O sz174 O O O (Ln (Et (Crt ?_))))
 refine WE.retc1 0 O O O ag174 O fun w' hw=>?_
 exact ⟨⟨none,0,(some ⟨b4,0,none⟩),3,(some ⟨b31,0,none⟩),1,none,0⟩,O,hw.fr,⟨Sl.nil,(slDecl_mv hH4 (nv_vs hw (by simp) fH4)),(slP_of hH31 (nv_vs hw (by simp) fH31) (VLe.refl _) ((PXs.nil _).snoc (VLe.refl _) (VLe.refl _) ⟨(slStr_mv hH5 (nv_vs hw (by simp) fH5)),(slStr_mv hH6 (nv_vs hw (by simp) fH6)),(slS_of hH29 (nv_vs hw (by simp) fH29) (VLe.refl _) ((((SXs.nil _ 5).snoc (VLe.refl _) (VLe.refl _) ⟨(slE_of hH8 (nv_vs hw (by simp) fH8) (VLe.refl _) ((XEs.nil _ 6).snoc (VLe.refl _) (VLe.refl _) Sl.nil)),Sl.nil,Sl.nil⟩).snoc (VLe.refl _) (VLe.refl _) ⟨(slE_of hH11 (nv_vs hw (by simp) fH11) (VLe.refl _) ((XEs.nil _ 6).snoc (VLe.refl _) (VLe.refl _) Sl.nil)),(slS_of hH24 (nv_vs hw (by simp) fH24) (VLe.refl _) (((SXs.nil _ 4).snoc (VLe.refl _) (VLe.refl _) ⟨(slE_of hH16 (nv_vs hw (by simp) fH16) (VLe.refl _) ((XEs.nil _ 6).snoc (VLe.refl _) (VLe.refl _) (slE_of hH14 (nv_vs hw (by simp) fH14) (VLe.refl _) (((XEs.nil _ 5).snoc (VLe.refl _) (VLe.refl _) Sl.nil).snoc (VLe.refl _) (VLe.refl _) Sl.nil)))),Sl.nil,Sl.nil⟩).snoc (VLe.refl _) (VLe.refl _) ⟨(slE_of hH22 (nv_vs hw (by simp) fH22) (VLe.refl _) ((XEs.nil _ 6).snoc (VLe.refl _) (VLe.refl _) (slE_of hH20 (nv_vs hw (by simp) fH20) (VLe.refl _) (((XEs.nil _ 5).snoc (VLe.refl _) (VLe.refl _) Sl.nil).snoc (VLe.refl _) (VLe.refl _) Sl.nil)))),Sl.nil,Sl.nil⟩)),Sl.nil⟩).snoc (VLe.refl _) (VLe.refl _) ⟨(slE_of hH27 (nv_vs hw (by simp) fH27) (VLe.refl _) ((XEs.nil _ 6).snoc (VLe.refl _) (VLe.refl _) Sl.nil)),Sl.nil,Sl.nil⟩))⟩)),Sl.nil⟩⟩
theorem topText_any (w:World) :
   Calls Tryz.prog 103 #[] w fun e w'=>e = .returned (st topS)∧Ext w w':=by
 refine enter Tryz.func103 O 1 O O ?_
 refine CE (Vs:=[]) (Ws.init (by simp)) ?_
 refine Cs (Cr (V0 (Ya O) (Ln (Et (Cs (Cr (V0 (Ya O) (Ln (Et (Crt ?_))))))))))
 refine R1 O O fun w' hw=>?_
 exact ⟨O,hw.fr⟩
theorem fo187_0:fieldOff Tryz.prog 187 0=some 0:=by kernel_rfl
theorem na150:nonAgg Tryz.prog 150=true:=by kernel_rfl
theorem es150:elemSz Tryz.prog 150=some 3:=by kernel_rfl
theorem ag152:aggOf Tryz.prog 152=some 3:=by kernel_rfl
theorem zr152:zeroOf Tryz.prog 152=some (.agg #[.bool false,.int .i64 0,.slice none 0 0]):=by kernel_rfl
theorem sz152:sizeP Tryz.prog 152=some 3:=by kernel_rfl
theorem fo152_0:fieldOff Tryz.prog 152 0=some 0:=by kernel_rfl
theorem fo152_1:fieldOff Tryz.prog 152 1=some 1:=by kernel_rfl
theorem fo152_2:fieldOff Tryz.prog 152 2=some 2:=by kernel_rfl
theorem na25:nonAgg Tryz.prog 25=true:=by kernel_rfl
theorem es25:elemSz Tryz.prog 25=some 1:=by kernel_rfl
theorem fo187_1:fieldOff Tryz.prog 187 1=some 1:=by kernel_rfl
theorem na189:nonAgg Tryz.prog 189=true:=by kernel_rfl
theorem es189:elemSz Tryz.prog 189=some 5:=by kernel_rfl
theorem en156:Enters Tryz.prog 156:=enters_of Tryz.func156 (by kernel_rfl) rfl
theorem en157:Enters Tryz.prog 157:=enters_of Tryz.func157 (by kernel_rfl) rfl
theorem en158:Enters Tryz.prog 158:=enters_of Tryz.func158 (by kernel_rfl) rfl
theorem en155:Enters Tryz.prog 155:=enters_of Tryz.func155 (by kernel_rfl) rfl
theorem vdata_any (HV HK:View) (vb:Nat) (ka:Option Addr) (kc:Nat) (kn:List KnW) (locs:Int) (m pl n:Int) (w:World) (hHV:Le HV w) (hHK:Le HK w) (h0:vc HV vb 0=some (.slice ka kn.length kc)) (h1:vc HV vb 1=some (.int .i64 locs)) (hkn:Sl rdKn 3 HK ka kc kn) (hn:0≤n∧n≤32) :
   Calls Tryz.prog 156 #[.pointer (some ⟨vb,0,none⟩),.int .i64 m,.int .i64 pl,.int .i64 n] w fun e w'=>e = .returned (.bool (dataB kn m pl n))∧Ext w w':=by
 have hkcap:=hkn.cap
 have hkmax:=hkn.max
 refine enter Tryz.func156 O 52 O O ?_
 refine CE (Vs:=[HV,HK]) (Ws.init (by simp [hHV,hHK])) ?_
 refine Cs (Cr (V0 (Ya O) (Ln (Et (Cs (Cs (Cr (V0 (Ym O) (V0 (yl_lt O O) (V0 (Ym O) ?_))))))))))
 apply Lo 7 O O O O Y O O O O O
 ·
  intro hg0
  refine Vg (Ym O) (Vg (Ym O) (Vg (yl_nil O) (Vg (Yf fo187_0 O) (Vg (yl_ld 0 na150 O O (h0)) (Vg (Yn es150 O) ?_)))))
  refine Vg (yl_ge O O) ?_
  exact Gt 7 O O O
 refine V0 (Ym O) ?_
 apply Lo 2 O O O O Y O O O O O
 ·
  intro hg1
  refine Vg (Ym O) (Vg (yl_lt O O) ?_)
  exact Gt 2 O O O
 refine V0 (Ym O) ?_
 apply Lo 2 O O O O Y O O O O O
 ·
  intro hg2
  refine Vg (Ym O) (Vg (yl_gt O O) ?_)
  exact Gt 2 O O O
 refine Ln (Et ?_)
 refine Cc O (fun hc0=>?_) (fun hc0=>?_)
 ·
  refine Cs (Cr (V0 (Ya O) (Ln (Et (Crt (Er ?_))))))
  refine R1 O O fun w' hw=>?_
  exact ⟨by rw [dataB_no n hc0],hw.fr⟩
 have hdc:dataC kn m pl=false:=hc0
 obtain ⟨⟨mi,rfl,hmi⟩,hp0,hp1⟩:=dataC_in hdc
 obtain ⟨k,hki⟩:∃k,kn[mi]? = some k:=⟨_,List.getElem?_eq_getElem hmi⟩
 obtain ⟨pbk,pok,hak,rk,hrk,hpk⟩:=hkn.elt mi k hki
 have hpc:=hpk.cap
 have hpm:=hpk.max
 refine Ck (Et (Cs (Cs (Cr (V0 (Ym O) (V0 (yl_nil O) (V0 (Yf fo187_0 O) (V0 (yl_ld 0 na150 O O (h0)) (V0 (Ym O) ?_)))))))))
 refine V0 (Yo es150 O O hak hmi) (V0 (yl_lda 1 ag152 O O O (hrk)) ?_)
 refine Al Y O zr152 fun b9=>?_
 refine Lst 0 Y O O O sz152 O O O (Ln (Et (Cs (Cr (V0 (Yf fo152_0 O) (V0 (Yd 0 O O O na4) (Ln (Et ?_))))))))
 refine Cc O (fun hc1=>?_) (fun hc1=>?_)
 ·
  refine Cs (Cr (V0 (Ym O) (V0 (Ym O) ?_)))
  refine V0 (yl_add O O (by omega)) ?_
  refine V0 (Yf fo152_1 O) (V0 (Yd 0 O O O na3) (V0 (yl_le O O) (V0 (Ya O) (Ln (Et (Crt (Er ?_)))))))
  refine R1 O O fun w' hw=>?_
  exact ⟨by rw [dataB_at hdc hki,if_pos hc1],hw.fr⟩
 refine Ck (Et (Cs (Cr (V0 (Ym O) (V0 (yl_eq O O) (V0 (Ym O) ?_))))))
 apply Lo 4 O O O O Y O O O O O
 ·
  intro hg3
  refine Vg (Ym O) (Vg (Ym O) ?_)
  refine Vg (yl_add O O (by omega)) ?_
  refine Vg (yl_le O O) ?_
  exact Gt 4 O O O
 refine V0 (Ya O) (Ln (Et (Crt ?_)))
 refine R1 O O fun w' hw=>?_
 exact ⟨by rw [dataB_at hdc hki,if_neg (fun e=>by have h:=hc1.symm.trans e; cases h)],hw.fr⟩
theorem vpart_any (HV HK:View) (vb:Nat) (ka:Option Addr) (kc:Nat) (kn:List KnW) (locs:Int) (m pl n:Int) (w:World) (hHV:Le HV w) (hHK:Le HK w) (h0:vc HV vb 0=some (.slice ka kn.length kc)) (h1:vc HV vb 1=some (.int .i64 locs)) (hkn:Sl rdKn 3 HK ka kc kn)  :
   Calls Tryz.prog 158 #[.pointer (some ⟨vb,0,none⟩),.int .i64 m,.int .i64 pl,.int .i64 n] w fun e w'=>e = .returned (.bool (partB kn m pl n))∧Ext w w':=by
 have hkcap:=hkn.cap
 have hkmax:=hkn.max
 refine enter Tryz.func158 O 54 O O ?_
 refine CE (Vs:=[HV,HK]) (Ws.init (by simp [hHV,hHK])) ?_
 refine Cs (Cr (V0 (Ya O) (Ln (Et (Cs (Cs (Cr (V0 (Ym O) (V0 (yl_lt O O) (V0 (Ym O) ?_))))))))))
 apply Lo 7 O O O O Y O O O O O
 ·
  intro hg0
  refine Vg (Ym O) (Vg (Ym O) (Vg (yl_nil O) (Vg (Yf fo187_0 O) (Vg (yl_ld 0 na150 O O (h0)) (Vg (Yn es150 O) ?_)))))
  refine Vg (yl_ge O O) ?_
  exact Gt 7 O O O
 refine V0 (Ym O) ?_
 apply Lo 2 O O O O Y O O O O O
 ·
  intro hg1
  refine Vg (Ym O) (Vg (yl_lt O O) ?_)
  exact Gt 2 O O O
 refine Ln (Et ?_)
 refine Cc O (fun hc0=>?_) (fun hc0=>?_)
 ·
  refine Cs (Cr (V0 (Ya O) (Ln (Et (Crt (Er ?_))))))
  refine R1 O O fun w' hw=>?_
  exact ⟨by rw [partB_no n hc0],hw.fr⟩
 have hdc:partC kn m pl=false:=hc0
 obtain ⟨⟨mi,rfl,hmi⟩,pi,rfl⟩:=partC_in hdc
 obtain ⟨k,hki⟩:∃k,kn[mi]? = some k:=⟨_,List.getElem?_eq_getElem hmi⟩
 obtain ⟨pbk,pok,hak,rk,hrk,hpk⟩:=hkn.elt mi k hki
 have hpc:=hpk.cap
 have hpm:=hpk.max
 refine Ck (Et (Cs (Cs (Cr (V0 (Ym O) (V0 (yl_nil O) (V0 (Yf fo187_0 O) (V0 (yl_ld 0 na150 O O (h0)) (V0 (Ym O) ?_)))))))))
 refine V0 (Yo es150 O O hak hmi) (V0 (yl_lda 1 ag152 O O O (hrk)) ?_)
 refine Al Y O zr152 fun b9=>?_
 refine Lst 0 Y O O O sz152 O O O (Ln (Et (Cs (Cr (V0 (Yf fo152_0 O) (V0 (Yd 0 O O O na4) (Ln (Et ?_))))))))
 refine Cc O (fun hc1=>?_) (fun hc1=>?_)
 ·
  refine Cs (Cr (V0 (Ym O) (V0 (Yf fo152_2 O) (V0 (Yd 0 O O O na25) (V0 (Yn es25 O) (V0 (yl_lt O O) ?_))))))
  refine V0 (Ym O) ?_
  apply La 7 (x:=(k.parts[((pi:Int)).toNat]?).getD 0==n) O O O O Y O O O O O
  ·
   intro hg2
   have hpl:pi<k.parts.length:=by simpa using hg2
   obtain ⟨y,hyi⟩:∃y,k.parts[pi]? = some y:=⟨_,List.getElem?_eq_getElem hpl⟩
   obtain ⟨pby,poy,hay,hry⟩:=hpk.elt pi y hyi
   have hry:RdC HK pby (poy+pi*1) (n1C y):=hry
   have hgd:(k.parts[pi]?).getD 0=y:=by rw [hyi]; rfl
   refine Vg (Yf fo152_2 O) (Vg (Yd 0 O O O na25) (Vg (Ym O) (Vg (Yo es25 O O hay hpl) (Vg (yl_ld 1 na3 O O (hry 0 _ O)) (Vg (Ym O) ?_)))))
   refine Vg (yl_eq O O) ?_
   rw [show (y==n)=((k.parts[((pi:Int)).toNat]?).getD 0==n) from by rw [Int.toNat_natCast,hgd]]
   exact Gt 7 O O O
  refine V0 (Ya O) (Ln (Et (Crt (Er ?_))))
  refine R1 O O fun w' hw=>?_
  exact ⟨by rw [partB_at hdc hki,if_pos hc1],hw.fr⟩
 refine Ck (Et (Cs (Cr (V0 (Ym O) (V0 (yl_lt O O) (V0 (Ym O) ?_))))))
 apply La 2 O O O O Y O O O O O
 ·
  intro hg3
  refine Vg (Ym O) (Vg (yl_le O O) ?_)
  exact Gt 2 O O O
 refine V0 (Ya O) (Ln (Et (Crt ?_)))
 refine R1 O O fun w' hw=>?_
 exact ⟨by rw [partB_at hdc hki,if_neg (fun e=>by have h:=hc1.symm.trans e; cases h)],hw.fr⟩
theorem vlocal_any (HV HK:View) (vb:Nat) (ka:Option Addr) (kc:Nat) (kn:List KnW) (locs:Int) (pl:Int) (w:World) (hHV:Le HV w) (hHK:Le HK w) (h0:vc HV vb 0=some (.slice ka kn.length kc)) (h1:vc HV vb 1=some (.int .i64 locs)) (hkn:Sl rdKn 3 HK ka kc kn)  :
   Calls Tryz.prog 155 #[.pointer (some ⟨vb,0,none⟩),.int .i64 pl] w fun e w'=>e = .returned (.bool (localB locs pl))∧Ext w w':=by
 have hkcap:=hkn.cap
 have hkmax:=hkn.max
 refine enter Tryz.func155 O 15 O O ?_
 refine CE (Vs:=[HV,HK]) (Ws.init (by simp [hHV,hHK])) ?_
 refine Cs (Cr (V0 (Ya O) (Ln (Et (Cs (Cr (V0 (Ym O) (V0 (yl_ge O O) (V0 (Ym O) ?_)))))))))
 apply La 6 O O O O Y O O O O O
 ·
  intro hg0
  refine Vg (Ym O) (Vg (Ym O) (Vg (yl_nil O) (Vg (Yf fo187_1 O) (Vg (yl_ld 0 na3 O O (h1)) (Vg (yl_lt O O) ?_)))))
  exact Gt 6 O O O
 refine V0 (Ya O) (Ln (Et (Crt ?_)))
 refine R1 O O fun w' hw=>?_
 exact ⟨O,hw.fr⟩
theorem varray_any (n:Int) (w:World) :
   Calls Tryz.prog 157 #[.int .i64 n] w fun e w'=>e = .returned (.bool (arrayB n))∧Ext w w':=by
 refine enter Tryz.func157 O 9 O O ?_
 refine CE (Vs:=[]) (Ws.init (by simp)) ?_
 refine Cs (Cr (V0 (Ya O) (Ln (Et (Cs (Cr (V0 (Ym O) (V0 (yl_ge O O) (V0 (Ym O) ?_)))))))))
 apply La 2 O O O O Y O O O O O
 ·
  intro hg0
  refine Vg (Ym O) (Vg (yl_le O O) ?_)
  exact Gt 2 O O O
 refine V0 (Ya O) (Ln (Et (Crt ?_)))
 refine R1 O O fun w' hw=>?_
 exact ⟨O,hw.fr⟩
theorem vnode_any (HV HK:View) (vb:Nat) (ka:Option Addr) (kc:Nat) (kn:List KnW) (locs:Int) (x:TNode) (a:Option Addr) (c:Nat) (w:World) (hHV:Le HV w) (hHK:Le HK w) (h0:vc HV vb 0=some (.slice ka kn.length kc)) (h1:vc HV vb 1=some (.int .i64 locs)) (hkn:Sl rdKn 3 HK ka kc kn)  :
   Calls Tryz.prog 159 #[.pointer (some ⟨vb,0,none⟩),.agg (nodeV x a c).toArray] w fun e w'=>e = .returned (.bool (node1 kn locs x.op x.n x.m x.pl x.args.length))∧Ext w w':=by
 have hkcap:=hkn.cap
 have hkmax:=hkn.max
 refine enter Tryz.func159 O 170 O O ?_
 refine CE (Vs:=[HV,HK]) (Ws.init (by simp [hHV,hHK])) ?_
 refine Cs (Cr ?_)
 refine WL.box Y O O fun b3=>?_
 refine V0 (Ya O) (Ln (Et (Cs (Cs (Cr (V0 (Yf fo238_4 O) (V0 (Yd 0 O O O na189) (V0 (Yn es189 O) (V0 (Ya O) ?_)))))))))
 refine Ln (Et (Cs (Cr (V0 (Yf fo238_0 O) (V0 (Yd 0 O O O na3) (Ln (Et (Cb (Cs (Cr (V0 (yl_eq O O) (V0 (Ya O) ?_))))))))))))
 refine Ln (Et ?_)
 refine Cc O (fun hc0=>?_) (fun hc0=>?_)
 ·
  have ho:x.op=1:=by simpa using hc0
  refine Cs (Cr (V0 (Yf fo238_2 O) (V0 (Yd 0 O O O na3) (V0 (yl_eq O O) (V0 (Ym O) ?_)))))
  apply La 3 O O O O Y O O O O O
  ·
   intro hg0
   refine Vg (Yf fo238_3 O) (Vg (Yd 0 O O O na3) (Vg (yl_eq O O) ?_))
   exact Gt 3 O O O
  refine V0 (Ym O) ?_
  apply La 2 O O O O Y O O O O O
  ·
   intro hg1
   refine Vg (Ym O) (Vg (yl_eq O O) ?_)
   exact Gt 2 O O O
  refine V0 (Ym O) ?_
  apply La 3 O O O O Y O O O O O
  ·
   intro hg2
   refine Vg (Yf fo238_1 O) (Vg (Yd 0 O O O na3) (Vg (yl_ge O O) ?_))
   exact Gt 3 O O O
  refine V0 (Ym O) ?_
  apply La 3 O O O O Y O O O O O
  ·
   intro hg3
   refine Vg (Yf fo238_1 O) (Vg (Yd 0 O O O na3) (Vg (yl_le O O) ?_))
   exact Gt 3 O O O
  refine V0 (Ya O) (Ln (Et (Crt (Ebr (Er ?_)))))
  refine R1 O O fun w' hw=>?_
  exact ⟨by rw [node1,if_pos ho],hw.fr⟩
 have hn0:¬x.op=1:=by simpa using hc0
 refine Cs (Cr (V0 (yl_eq O O) (V0 (Ya O) (Ln (Et ?_)))))
 refine Cc O (fun hc1=>?_) (fun hc1=>?_)
 ·
  have ho:x.op=3:=by simpa using hc1
  refine Cs (Cr (V0 (Yf fo238_1 O) (V0 (Yd 0 O O O na3) (V0 (yl_eq O O) (V0 (Ym O) ?_)))))
  apply La 2 O O O O Y O O O O O
  ·
   intro hg4
   refine Vg (Ym O) (Vg (yl_eq O O) ?_)
   exact Gt 2 O O O
  refine V0 (Ym O) ?_
  apply La 6 O O O O Y O O O O O
  ·
   intro hg5
   refine Vg (Ym O) (Vg (Yf fo238_2 O) (Vg (Yd 0 O O O na3) (Vg (Yf fo238_3 O) (Vg (Yd 0 O O O na3) ?_))))
   refine Lp (.g O O O) O en156 O (fun w hw=>vdata_any HV HK vb ka kc kn locs x.m x.pl 1 w (hw.vs _ (by simp)) (hw.vs _ (by simp)) h0 h1 hkn (by omega)) ?_
   exact Gt 6 O O O
  refine V0 (Ya O) (Ln (Et (Crt (Ebr (Er ?_)))))
  refine R1 O O fun w' hw=>?_
  exact ⟨by rw [node1,if_neg hn0,if_pos ho],hw.fr⟩
 have hn1:¬x.op=3:=by simpa using hc1
 refine Cs (Cr (V0 (yl_eq O O) (V0 (Ya O) (Ln (Et ?_)))))
 refine Cc O (fun hc2=>?_) (fun hc2=>?_)
 ·
  have ho:x.op=4:=by simpa using hc2
  refine Cs (Cr (V0 (Yf fo238_1 O) (V0 (Yd 0 O O O na3) ?_)))
  refine Lp Y O en157 O (fun w hw=>varray_any _ w) ?_
  refine V0 (Ym O) ?_
  apply La 2 O O O O Y O O O O O
  ·
   intro hg6
   refine Vg (Ym O) (Vg (yl_eq O O) ?_)
   exact Gt 2 O O O
  refine V0 (Ym O) ?_
  apply La 8 O O O O Y O O O O O
  ·
   intro hg7
   have har:0≤x.n∧x.n≤32:=by
     unfold arrayB at hg7
     simp at hg7
     omega
   refine Vg (Ym O) (Vg (Yf fo238_2 O) (Vg (Yd 0 O O O na3) (Vg (Yf fo238_3 O) (Vg (Yd 0 O O O na3) (Vg (Yf fo238_1 O) ?_)))))
   refine Vg (Yd 0 O O O na3) ?_
   refine Lp (.g O O O) O en156 O (fun w hw=>vdata_any HV HK vb ka kc kn locs x.m x.pl x.n w (hw.vs _ (by simp)) (hw.vs _ (by simp)) h0 h1 hkn har) ?_
   exact Gt 8 O O O
  refine V0 (Ya O) (Ln (Et (Crt (Ebr (Er ?_)))))
  refine R1 O O fun w' hw=>?_
  exact ⟨by rw [node1,if_neg hn0,if_neg hn1,if_pos ho],hw.fr⟩
 have hn2:¬x.op=4:=by simpa using hc2
 refine Cs (Cr (V0 (yl_eq O O) (V0 (Ya O) (Ln (Et ?_)))))
 refine Cc O (fun hc3=>?_) (fun hc3=>?_)
 ·
  have ho:x.op=5:=by simpa using hc3
  refine Cs (Cr (V0 (Yf fo238_1 O) (V0 (Yd 0 O O O na3) (V0 (yl_eq O O) (V0 (Ym O) ?_)))))
  apply La 7 O O O O Y O O O O O
  ·
   intro hg8
   refine Vg (Ym O) (Vg (Yf fo238_2 O) (Vg (Yd 0 O O O na3) (Vg (Yf fo238_3 O) (Vg (Yd 0 O O O na3) (Vg (Ym O) ?_)))))
   refine Lp (.g O O O) O en158 O (fun w hw=>vpart_any HV HK vb ka kc kn locs x.m x.pl x.args.length w (hw.vs _ (by simp)) (hw.vs _ (by simp)) h0 h1 hkn) ?_
   exact Gt 7 O O O
  refine V0 (Ya O) (Ln (Et (Crt (Ebr (Er ?_)))))
  refine R1 O O fun w' hw=>?_
  exact ⟨by rw [node1,if_neg hn0,if_neg hn1,if_neg hn2,if_pos ho],hw.fr⟩
 have hn3:¬x.op=5:=by simpa using hc3
 refine Cs (Cr (V0 (yl_eq O O) (V0 (Ya O) (Ln (Et ?_)))))
 refine Cc O (fun hc4=>?_) (fun hc4=>?_)
 ·
  have ho:x.op=16:=by simpa using hc4
  refine Cs (Cr (V0 (Yf fo238_2 O) (V0 (Yd 0 O O O na3) (V0 (yl_eq O O) (V0 (Ym O) ?_)))))
  apply La 3 O O O O Y O O O O O
  ·
   intro hg9
   refine Vg (Yf fo238_1 O) (Vg (Yd 0 O O O na3) (Vg (yl_eq O O) ?_))
   exact Gt 3 O O O
  refine V0 (Ym O) ?_
  apply La 2 O O O O Y O O O O O
  ·
   intro hg10
   refine Vg (Ym O) (Vg (yl_eq O O) ?_)
   exact Gt 2 O O O
  refine V0 (Ym O) ?_
  apply La 4 O O O O Y O O O O O
  ·
   intro hg11
   refine Vg (Ym O) (Vg (Yf fo238_3 O) (Vg (Yd 0 O O O na3) ?_))
   refine Lp (.g O O O) O en155 O (fun w hw=>vlocal_any HV HK vb ka kc kn locs x.pl w (hw.vs _ (by simp)) (hw.vs _ (by simp)) h0 h1 hkn) ?_
   exact Gt 4 O O O
  refine V0 (Ya O) (Ln (Et (Crt (Ebr (Er ?_)))))
  refine R1 O O fun w' hw=>?_
  exact ⟨by rw [node1,if_neg hn0,if_neg hn1,if_neg hn2,if_neg hn3,if_pos ho],hw.fr⟩
 have hn4:¬x.op=16:=by simpa using hc4
 refine Cs (Cr (V0 (yl_eq O O) (V0 (Ya O) (Ln (Et ?_)))))
 refine Cc O (fun hc5=>?_) (fun hc5=>?_)
 ·
  have ho:x.op=2:=by simpa using hc5
  refine Cs (Cr (V0 (Yf fo238_2 O) (V0 (Yd 0 O O O na3) (V0 (yl_eq O O) (V0 (Ym O) ?_)))))
  apply La 3 O O O O Y O O O O O
  ·
   intro hg12
   refine Vg (Yf fo238_3 O) (Vg (Yd 0 O O O na3) (Vg (yl_eq O O) ?_))
   exact Gt 3 O O O
  refine V0 (Ym O) ?_
  apply La 3 O O O O Y O O O O O
  ·
   intro hg13
   refine Vg (Yf fo238_1 O) (Vg (Yd 0 O O O na3) (Vg (yl_eq O O) ?_))
   exact Gt 3 O O O
  refine V0 (Ym O) ?_
  apply La 2 O O O O Y O O O O O
  ·
   intro hg14
   refine Vg (Ym O) (Vg (yl_eq O O) ?_)
   exact Gt 2 O O O
  refine V0 (Ya O) (Ln (Et (Crt (Ebr (Er ?_)))))
  refine R1 O O fun w' hw=>?_
  exact ⟨by rw [node1,if_neg hn0,if_neg hn1,if_neg hn2,if_neg hn3,if_neg hn4,if_pos ho],hw.fr⟩
 have hn5:¬x.op=2:=by simpa using hc5
 refine Cs (Cr (V0 (yl_eq O O) (V0 (Ya O) (Ln (Et ?_)))))
 refine Cc O (fun hc6=>?_) (fun hc6=>?_)
 ·
  have ho:x.op=6:=by simpa using hc6
  refine Cs (Cr (V0 (Yf fo238_2 O) (V0 (Yd 0 O O O na3) (V0 (yl_eq O O) (V0 (Ym O) ?_)))))
  apply La 3 O O O O Y O O O O O
  ·
   intro hg15
   refine Vg (Yf fo238_3 O) (Vg (Yd 0 O O O na3) (Vg (yl_eq O O) ?_))
   exact Gt 3 O O O
  refine V0 (Ym O) ?_
  apply La 3 O O O O Y O O O O O
  ·
   intro hg16
   refine Vg (Yf fo238_1 O) (Vg (Yd 0 O O O na3) (Vg (yl_eq O O) ?_))
   exact Gt 3 O O O
  refine V0 (Ym O) ?_
  apply La 2 O O O O Y O O O O O
  ·
   intro hg17
   refine Vg (Ym O) (Vg (yl_eq O O) ?_)
   exact Gt 2 O O O
  refine V0 (Ya O) (Ln (Et (Crt (Ebr (Er ?_)))))
  refine R1 O O fun w' hw=>?_
  exact ⟨by rw [node1,if_neg hn0,if_neg hn1,if_neg hn2,if_neg hn3,if_neg hn4,if_neg hn5,if_pos ho],hw.fr⟩
 have hn6:¬x.op=6:=by simpa using hc6
 refine WC.cutE (ι:=Bool) (fun bb=>[(3,.pointer (some ⟨b3,0,none⟩)),(5,.int .i64 (x.args.length:Int)),(143,.bool bb)]) (fun bb=>Ws w [] [blk b3 (.cells (nodeV x a c).toArray 238 (0,0))] [HV,HK]) (fun bb=>bb=decide (7≤x.op∧x.op≤15)) ?_ ?_
 ·
  refine Cs (Cr (V0 (yl_eq O O) (V0 (Ya O) (Ln (Et ?_)))))
  refine Cc O (fun hc7=>?_) (fun hc7=>?_)
  ·
   refine Ck ?_
   exact Em (x.op==7) (by have h9:x.op=7:=(by simpa using hc7); rw [h9]; decide) (sc O (sc O (sc O sn))) (fun _ h=>by
     have h:=h.fronti 0 rfl
     exact h)
  have hn7:¬x.op=7:=by simpa using hc7
  refine Cs (Cr (V0 (yl_eq O O) (V0 (Ya O) (Ln (Et ?_)))))
  refine Cc O (fun hc8=>?_) (fun hc8=>?_)
  ·
   refine Ck ?_
   exact Em (x.op==8) (by have h9:x.op=8:=(by simpa using hc8); rw [h9]; decide) (sc O (sc O (sc O sn))) (fun _ h=>by
     have h:=h.fronti 0 rfl
     exact h)
  have hn8:¬x.op=8:=by simpa using hc8
  refine Cs (Cr (V0 (yl_eq O O) (V0 (Ya O) (Ln (Et ?_)))))
  refine Cc O (fun hc9=>?_) (fun hc9=>?_)
  ·
   refine Ck ?_
   exact Em (x.op==9) (by have h9:x.op=9:=(by simpa using hc9); rw [h9]; decide) (sc O (sc O (sc O sn))) (fun _ h=>by
     have h:=h.fronti 0 rfl
     exact h)
  have hn9:¬x.op=9:=by simpa using hc9
  refine Cs (Cr (V0 (yl_eq O O) (V0 (Ya O) (Ln (Et ?_)))))
  refine Cc O (fun hc10=>?_) (fun hc10=>?_)
  ·
   refine Ck ?_
   exact Em (x.op==10) (by have h9:x.op=10:=(by simpa using hc10); rw [h9]; decide) (sc O (sc O (sc O sn))) (fun _ h=>by
     have h:=h.fronti 0 rfl
     exact h)
  have hn10:¬x.op=10:=by simpa using hc10
  refine Cs (Cr (V0 (yl_eq O O) (V0 (Ya O) (Ln (Et ?_)))))
  refine Cc O (fun hc11=>?_) (fun hc11=>?_)
  ·
   refine Ck ?_
   exact Em (x.op==11) (by have h9:x.op=11:=(by simpa using hc11); rw [h9]; decide) (sc O (sc O (sc O sn))) (fun _ h=>by
     have h:=h.fronti 0 rfl
     exact h)
  have hn11:¬x.op=11:=by simpa using hc11
  refine Cs (Cr (V0 (yl_eq O O) (V0 (Ya O) (Ln (Et ?_)))))
  refine Cc O (fun hc12=>?_) (fun hc12=>?_)
  ·
   refine Ck ?_
   exact Em (x.op==12) (by have h9:x.op=12:=(by simpa using hc12); rw [h9]; decide) (sc O (sc O (sc O sn))) (fun _ h=>by
     have h:=h.fronti 0 rfl
     exact h)
  have hn12:¬x.op=12:=by simpa using hc12
  refine Cs (Cr (V0 (yl_eq O O) (V0 (Ya O) (Ln (Et ?_)))))
  refine Cc O (fun hc13=>?_) (fun hc13=>?_)
  ·
   refine Ck ?_
   exact Em (x.op==13) (by have h9:x.op=13:=(by simpa using hc13); rw [h9]; decide) (sc O (sc O (sc O sn))) (fun _ h=>by
     have h:=h.fronti 0 rfl
     exact h)
  have hn13:¬x.op=13:=by simpa using hc13
  refine Cs (Cr (V0 (yl_eq O O) (V0 (Ya O) (Ln (Et ?_)))))
  refine Cc O (fun hc14=>?_) (fun hc14=>?_)
  ·
   refine Ck ?_
   exact Em (x.op==14) (by have h9:x.op=14:=(by simpa using hc14); rw [h9]; decide) (sc O (sc O (sc O sn))) (fun _ h=>by
     have h:=h.fronti 0 rfl
     exact h)
  have hn14:¬x.op=14:=by simpa using hc14
  refine Cr (V0 (yl_eq O O) (V0 (Ya O) (Ln ?_)))
  exact Em (x.op==15) (by rw [Bool.eq_iff_iff]; simp; omega) (sc O (sc O (sc O sn))) (fun _ h=>by
    have h:=h.fronti 0 rfl
    exact h)
 intro bb hbb
 refine Cc O (fun hc15=>?_) (fun hc15=>?_)
 ·
  refine Cs (Cr (V0 (Yf fo238_2 O) (V0 (Yd 0 O O O na3) (V0 (yl_eq O O) (V0 (Ym O) ?_)))))
  apply La 3 O O O O Y O O O O O
  ·
   intro hg18
   refine Vg (Yf fo238_3 O) (Vg (Yd 0 O O O na3) (Vg (yl_eq O O) ?_))
   exact Gt 3 O O O
  refine V0 (Ym O) ?_
  apply La 3 O O O O Y O O O O O
  ·
   intro hg19
   refine Vg (Yf fo238_1 O) (Vg (Yd 0 O O O na3) (Vg (yl_eq O O) ?_))
   exact Gt 3 O O O
  refine V0 (Ym O) ?_
  apply La 2 O O O O Y O O O O O
  ·
   intro hg20
   refine Vg (Ym O) (Vg (yl_eq O O) ?_)
   exact Gt 2 O O O
  refine V0 (Ya O) (Ln (Et (Crt (Ebr (Er ?_)))))
  refine R1 O O fun w' hw=>?_
  exact ⟨by rw [node1,if_neg hn0,if_neg hn1,if_neg hn2,if_neg hn3,if_neg hn4,if_neg hn5,if_neg hn6,if_pos (of_decide_eq_true (hbb.symm.trans hc15))],hw.fr⟩
 refine Ck (Eb (Et (Cs (Cr (V0 (Ya O) (Ln (Et (Crt ?_))))))))
 refine R1 O O fun w' hw=>?_
 exact ⟨by rw [node1,if_neg hn0,if_neg hn1,if_neg hn2,if_neg hn3,if_neg hn4,if_neg hn5,if_neg hn6,if_neg (of_decide_eq_false (hbb.symm.trans hc15))],hw.fr⟩
theorem wrap_sum0 {a b:Nat} (ha:a≤9223372036854775807) (hb:b≤9223372036854775807):(IntKind.i64.wrap ((a:Int)+(b:Int))==0)=((a:Int)+(b:Int)==0):=by
 rw [Bool.eq_iff_iff]
 simp only [beq_iff_eq]
 rw [IntKind.wrap_i64]
 omega
theorem en159:Enters Tryz.prog 159:=enters_of Tryz.func159 (by kernel_rfl) rfl
theorem en125:Enters Tryz.prog 125:=enters_of Tryz.func125 (by kernel_rfl) rfl
theorem na56:nonAgg Tryz.prog 56=true:=by kernel_rfl
theorem es56:elemSz Tryz.prog 56=some 7:=by kernel_rfl
theorem fo191_0:fieldOff Tryz.prog 191 0=some 0:=by kernel_rfl
theorem en124:Enters Tryz.prog 124:=enters_of Tryz.func124 (by kernel_rfl) rfl
theorem en106:Enters Tryz.prog 106:=enters_of Tryz.func106 (by kernel_rfl) rfl
theorem vnodes_any (HV HK:View) (vb:Nat) (ka:Option Addr) (kc:Nat) (kn:List KnW) (locs:Int) (H:View) (k:Nat) (l:List TNode) (a:Option Addr) (c:Nat) (d:Nat) (w:World) (hHV:Le HV w) (hHK:Le HK w) (h0:vc HV vb 0=some (.slice ka kn.length kc)) (h1:vc HV vb 1=some (.int .i64 locs)) (hkn:Sl rdKn 3 HK ka kc kn) (hH:Le H w) (hl:Sl (RdN k) 5 H a c l) (hd:d≤7) :
   Calls Tryz.prog 125 #[.pointer (some ⟨vb,0,none⟩),.slice a l.length c,.int .i64 (d:Int)] w fun e w'=>e = .returned (.bool (nodesK kn locs l d))∧Ext w w':=by
 have hkcap:=hkn.cap
 have hkmax:=hkn.max
 induction k using Nat.strongRecOn generalizing l a c d w
 rename_i k ih
 have hcap:=hl.cap
 have hmax:=hl.max
 refine enter Tryz.func125 O 33 O O ?_
 refine CE (Vs:=[HV,HK,H]) (Ws.init (by simp [hHV,hHK,hH])) ?_
 refine Cs (Cr (V0 (Ya O) (Ln (Et (Cs (Cs (Cr (V0 (Ym O) (V0 (Yn es189 O) (V0 (Ym O) ?_))))))))))
 refine Ln (Et (Cb ?_))
 refine CW (ι:=Nat) (fun i=>[(11,.int .i64 (i:Int))]) [(0,_),(2,_),(9,_),(10,_)] (fun i=>i≤l.length∧(l.take i).all (nodeK kn locs · d)=true) (fun i=>l.length-i) 0 ⟨Nat.zero_le _,O⟩ (sc O (sc O (sc O (sc O (sc O sn))))) ?_
 intro i ⟨hi,hall⟩
 refine Cs (Cr (V0 (yl_lt O O) (Ln (Et (Cs ?_)))))
 refine Cc O (fun hc0=>?_) (fun hc0=>?_)
 ·
  have hlt:i<l.length:=by simpa using hc0
  obtain ⟨x,hxi⟩:∃q,l[i]? = some q:=⟨_,List.getElem?_eq_getElem hlt⟩
  obtain ⟨pbx,pox,hax,hrx⟩:=hl.elt i x hxi
  obtain ⟨k2,rfl⟩:∃k2,k=k2+1:=by
    cases k with
    | zero=>exact hrx.elim
    | succ k2=>exact ⟨k2,rfl⟩
  obtain ⟨xa,xc,hrow,hsub⟩:=hrx
  refine Ck (Et (Cs (Cb (Cs (Cr (V0 (Yo es189 O O hax hlt) (V0 (yl_lda 2 ag238 O O O (hrow)) ?_)))))))
  refine Al Y O zr238 fun b8=>?_
  refine Lst 0 Y O O O sz238 O O O (Ln (Et (Cs ?_)))
  refine Crb 0 (.cells (nodeV x xa xc).toArray 238 (0,0)) O O ?_
  refine Cr (V0 (Ym O) (V0 (yl_gt O O) (V0 (Ym O) ?_)))
  apply Lo 4 O O O O Y O O O O O
  ·
   intro hg0
   refine Vg (Ym O) (Vg (Yda 0 O O ag238 O) ?_)
   refine Lp (.g O O O) O en159 O (fun w hw=>vnode_any HV HK vb ka kc kn locs x xa xc w (hw.vs _ (by simp)) (hw.vs _ (by simp)) h0 h1 hkn) ?_
   refine Vg (yl_not O) ?_
   exact Gt 4 O O O
  refine V0 (Ym O) ?_
  apply Lo 7 O O O O Y O O O O O
  ·
   intro hg1
   have hd6:d≤6:=by
     have h9:=(Bool.or_eq_false_iff.1 hg1).1
     simp at h9; omega
   refine Vg (Ym O) (Vg (Yf fo238_4 O) (Vg (Yd 0 O O O na189) (Vg (Ym O) ?_)))
   refine Vg (Yi O O O (by omega)) ?_
   refine Lp (.g O O O) O en125 O (fun w hw=>ih k2 (by omega) x.args xa xc (d+1) w (hw.vs _ (by simp)) (hw.vs _ (by simp)) (hw.vs _ (by simp)) hsub (by omega)) ?_
   refine Vg (yl_not O) ?_
   exact Gt 7 O O O
  refine Ln (Et ?_)
  rw [nodeC]
  refine Cc O (fun hc1=>?_) (fun hc1=>?_)
  ·
   have hx:nodeK kn locs x d=false:=by simpa using hc1
   refine Cs (Cr (V0 (Ya O) (Ln (Et (Crt (Ebr (Er (Er (Ebr (Er ?_))))))))))
   refine R1 O O fun w' hw=>?_
   exact ⟨by rw [nodesK_all,all_hit hxi hx],hw.fr⟩
  have hx:nodeK kn locs x d=true:=by simpa using hc1
  refine Ck (Eb (Et (Cr ?_)))
  refine V0 (Yi O O O (by omega)) ?_
  refine V0 (Ym O) (Ln ?_)
  exact Ea (i+1) (by omega) ⟨by omega,all_take hxi hall hx⟩ (sc O (sc O (sc O (sc O (sc O sn))))) (fun _ h=>Wd 1 h)
 have hge:¬i<l.length:=by simpa using hc0
 rw [List.take_of_length_le (by omega)] at hall
 refine Ce (Ex (Ex (Ebh (Et (Cs (Cr (V0 (Ya O) (Ln (Et (Crt ?_))))))))))
 refine R1 O O fun w' hw=>?_
 exact ⟨by rw [nodesK_all,hall],hw.fr⟩
theorem vact_any (HV HK:View) (vb:Nat) (ka:Option Addr) (kc:Nat) (kn:List KnW) (locs:Int) (x:TAct) (r:AAt) (w:World) (hHV:Le HV w) (hHK:Le HK w) (h0:vc HV vb 0=some (.slice ka kn.length kc)) (h1:vc HV vb 1=some (.int .i64 locs)) (hkn:Sl rdKn 3 HK ka kc kn) (hlb:x.body.length≤9223372036854775807) (hlo:x.other.length≤9223372036854775807) :
   Calls Tryz.prog 124 #[.pointer (some ⟨vb,0,none⟩),.agg (actV x r).toArray] w fun e w'=>e = .returned (.bool (act1 kn locs x.op x.n x.m x.pl x.args.length x.body.length x.other.length))∧Ext w w':=by
 have hkcap:=hkn.cap
 have hkmax:=hkn.max
 refine enter Tryz.func124 O 135 O O ?_
 refine CE (Vs:=[HV,HK]) (Ws.init (by simp [hHV,hHK])) ?_
 refine Cs (Cr ?_)
 refine WL.box Y O O fun b3=>?_
 refine V0 (Ya O) (Ln (Et (Cs ?_)))
 refine WC.draws0 [(0,true),(1,true),(2,true),(3,true),(4,true),(5,true),(6,true),(7,true),(8,true),(9,true),(10,true),(11,true),(12,true)] mixed (by kernel_rfl) (fun _ _ _ d _ h=>by cases d<;>exact h) ?_
 refine D0 O (fun _ h=>h) (Yf fo191_4 O) (D0 O (fun _ h=>h) (Yd 0 O O O na189) (D0 O (fun _ h=>h) (Yn es189 O) (D0 O (fun _ h=>h) (Yf fo191_5 O) (D0 O (fun _ h=>h) (Yd 0 O O O na56) (D0 O (fun _ h=>h) (Yn es56 O) ?_)))))
 refine D0 O (fun _ h=>h) (Yf fo191_6 O) (D0 O (fun _ h=>h) (Yd 0 O O O na56) (D0 O (fun _ h=>h) (Yn es56 O) (D0 O (fun _ h=>h) (yl_addw O O) (D0 O (fun _ h=>h) (yl_eq O O) ?_))))
 rw [wrap_sum0 hlb hlo]
 refine D0 O (fun _ h=>h) (Ya O) (D0 O (fun _ h=>h) (Ya O) ?_)
 refine WD.nil (fun _ h=>h) ?_
 refine Et (Cs (Cr (V0 (Yf fo191_2 O) (V0 (Yd 0 O O O na3) (V0 (yl_eq O O) (V0 (Ym O) ?_))))))
 apply La 3 O O O O Y O O O O O
 ·
  intro hg0
  refine Vg (Yf fo191_3 O) (Vg (Yd 0 O O O na3) (Vg (yl_eq O O) ?_))
  exact Gt 3 O O O
 refine V0 (Ym O) ?_
 apply La 3 O O O O Y O O O O O
 ·
  intro hg1
  refine Vg (Yf fo191_1 O) (Vg (Yd 0 O O O na3) (Vg (yl_eq O O) ?_))
  exact Gt 3 O O O
 refine V0 (Ya O) (Ln (Et (Cs (Cs (Cr (V0 (Yf fo191_0 O) (V0 (Yd 0 O O O na3) (Ln (Et (Cb (Cs (Cr (V0 (yl_eq O O) ?_)))))))))))))
 refine V0 (Ya O) (Ln (Et ?_))
 refine Cc O (fun hc0=>?_) (fun hc0=>?_)
 ·
  have ho:x.op=1:=by simpa using hc0
  refine Cs (Cr (V0 (Ym O) (V0 (Ym O) ?_)))
  apply La 2 O O O O Y O O O O O
  ·
   intro hg2
   refine Vg (Ym O) (Vg (yl_eq O O) ?_)
   exact Gt 2 O O O
  refine V0 (Ym O) ?_
  apply La 3 O O O O Y O O O O O
  ·
   intro hg3
   refine Vg (Yf fo191_1 O) (Vg (Yd 0 O O O na3) (Vg (yl_eq O O) ?_))
   exact Gt 3 O O O
  refine V0 (Ym O) ?_
  apply La 17 O O O O Y O O O O O
  ·
   intro hg4
   refine Vg (Yf fo191_2 O) (Vg (Yd 0 O O O na3) (Vg (yl_eq O O) (Vg (Ym O) ?_)))
   apply La 4 O O O O (.g O O O) O O O O O
   ·
    intro hg5
    refine Vg (Ym O) (Vg (Yf fo191_3 O) (Vg (Yd 0 O O O na3) ?_))
    refine Lp (.g O O O) O en155 O (fun w hw=>vlocal_any HV HK vb ka kc kn locs x.pl w (hw.vs _ (by simp)) (hw.vs _ (by simp)) h0 h1 hkn) ?_
    exact Gt 4 O O O
   refine Vg (Ym O) ?_
   apply Lo 6 O O O O (.g O O O) O O O O O
   ·
    intro hg6
    refine Vg (Ym O) (Vg (Yf fo191_2 O) (Vg (Yd 0 O O O na3) (Vg (Yf fo191_3 O) (Vg (Yd 0 O O O na3) ?_))))
    refine Lp (.g O O O) O en156 O (fun w hw=>vdata_any HV HK vb ka kc kn locs x.m x.pl 1 w (hw.vs _ (by simp)) (hw.vs _ (by simp)) h0 h1 hkn (by omega)) ?_
    exact Gt 6 O O O
   exact Gt 7 O O O
  refine V0 (Ya O) (Ln (Et (Crt (Ebr (Er ?_)))))
  refine R1 O O fun w' hw=>?_
  exact ⟨by rw [act1,if_pos ho],hw.fr⟩
 have hn0:¬x.op=1:=by simpa using hc0
 refine Cs (Cr (V0 (yl_eq O O) (V0 (Ya O) (Ln (Et ?_)))))
 refine Cc O (fun hc1=>?_) (fun hc1=>?_)
 ·
  have ho:x.op=2:=by simpa using hc1
  refine Cs (Cr (V0 (Ym O) (V0 (Ym O) ?_)))
  apply La 2 O O O O Y O O O O O
  ·
   intro hg7
   refine Vg (Ym O) (Vg (yl_eq O O) ?_)
   exact Gt 2 O O O
  refine V0 (Ym O) ?_
  apply La 3 O O O O Y O O O O O
  ·
   intro hg8
   refine Vg (Yf fo191_1 O) (Vg (Yd 0 O O O na3) ?_)
   refine Lp (.g O O O) O en157 O (fun w hw=>varray_any _ w) ?_
   exact Gt 3 O O O
  refine V0 (Ym O) ?_
  apply La 8 O O O O Y O O O O O
  ·
   intro hg9
   have har:0≤x.n∧x.n≤32:=by
     have h9:=(Bool.and_eq_true_iff.1 hg9).2
     unfold arrayB at h9
     simp at h9
     omega
   refine Vg (Ym O) (Vg (Yf fo191_2 O) (Vg (Yd 0 O O O na3) (Vg (Yf fo191_3 O) (Vg (Yd 0 O O O na3) (Vg (Yf fo191_1 O) ?_)))))
   refine Vg (Yd 0 O O O na3) ?_
   refine Lp (.g O O O) O en156 O (fun w hw=>vdata_any HV HK vb ka kc kn locs x.m x.pl x.n w (hw.vs _ (by simp)) (hw.vs _ (by simp)) h0 h1 hkn har) ?_
   exact Gt 8 O O O
  refine V0 (Ya O) (Ln (Et (Crt (Ebr (Er ?_)))))
  refine R1 O O fun w' hw=>?_
  exact ⟨by rw [act1,if_neg hn0,if_pos ho],hw.fr⟩
 have hn1:¬x.op=2:=by simpa using hc1
 refine Cs (Cr (V0 (yl_eq O O) (V0 (Ya O) (Ln (Et ?_)))))
 refine Cc O (fun hc2=>?_) (fun hc2=>?_)
 ·
  have ho:x.op=3:=by simpa using hc2
  refine Cs (Cr (V0 (Ym O) (V0 (Ym O) ?_)))
  apply La 3 O O O O Y O O O O O
  ·
   intro hg10
   refine Vg (Yf fo191_1 O) (Vg (Yd 0 O O O na3) (Vg (yl_eq O O) ?_))
   exact Gt 3 O O O
  refine V0 (Ym O) ?_
  apply La 7 O O O O Y O O O O O
  ·
   intro hg11
   refine Vg (Ym O) (Vg (Yf fo191_2 O) (Vg (Yd 0 O O O na3) (Vg (Yf fo191_3 O) (Vg (Yd 0 O O O na3) (Vg (Ym O) ?_)))))
   refine Lp (.g O O O) O en158 O (fun w hw=>vpart_any HV HK vb ka kc kn locs x.m x.pl x.args.length w (hw.vs _ (by simp)) (hw.vs _ (by simp)) h0 h1 hkn) ?_
   exact Gt 7 O O O
  refine V0 (Ya O) (Ln (Et (Crt (Ebr (Er ?_)))))
  refine R1 O O fun w' hw=>?_
  exact ⟨by rw [act1,if_neg hn0,if_neg hn1,if_pos ho],hw.fr⟩
 have hn2:¬x.op=3:=by simpa using hc2
 refine Cs (Cr (V0 (yl_eq O O) (V0 (Ya O) (Ln (Et ?_)))))
 refine Cc O (fun hc3=>?_) (fun hc3=>?_)
 ·
  have ho:x.op=4:=by simpa using hc3
  refine Cs (Cr (V0 (Ym O) (V0 (Ym O) ?_)))
  apply La 2 O O O O Y O O O O O
  ·
   intro hg12
   refine Vg (Ym O) (Vg (yl_eq O O) ?_)
   exact Gt 2 O O O
  refine V0 (Ya O) (Ln (Et (Crt (Ebr (Er ?_)))))
  refine R1 O O fun w' hw=>?_
  exact ⟨by rw [act1,if_neg hn0,if_neg hn1,if_neg hn2,if_pos ho],hw.fr⟩
 have hn3:¬x.op=4:=by simpa using hc3
 refine Cs (Cr (V0 (yl_eq O O) (V0 (Ya O) (Ln (Et ?_)))))
 refine Cc O (fun hc4=>?_) (fun hc4=>?_)
 ·
  have ho:x.op=5:=by simpa using hc4
  refine Cs (Cr (V0 (Ym O) (V0 (Ym O) ?_)))
  apply La 2 O O O O Y O O O O O
  ·
   intro hg13
   refine Vg (Ym O) (Vg (yl_eq O O) ?_)
   exact Gt 2 O O O
  refine V0 (Ym O) ?_
  apply La 4 O O O O Y O O O O O
  ·
   intro hg14
   refine Vg (Yf fo191_6 O) (Vg (Yd 0 O O O na56) (Vg (Yn es56 O) (Vg (yl_eq O O) ?_)))
   exact Gt 4 O O O
  refine V0 (Ya O) (Ln (Et (Crt (Ebr (Er ?_)))))
  refine R1 O O fun w' hw=>?_
  exact ⟨by rw [act1,if_neg hn0,if_neg hn1,if_neg hn2,if_neg hn3,if_pos ho],hw.fr⟩
 have hn4:¬x.op=5:=by simpa using hc4
 refine WC.cutE (ι:=Bool) (fun bb=>[(5,.int .i64 (x.args.length:Int)),(6,.bool ((x.body.length:Int)+(x.other.length:Int)==0)),(7,.bool (((x.m==0)&&(x.pl==0))&&(x.n==0))),(124,.bool bb)]) (fun bb=>Ws w [] [blk b3 (.cells (actV x r).toArray 191 (0,0))] [HV,HK]) (fun bb=>bb=decide (x.op=6∨x.op=7)) ?_ ?_
 ·
  refine Cs (Cr (V0 (yl_eq O O) (V0 (Ya O) (Ln (Et ?_)))))
  refine Cc O (fun hc5=>?_) (fun hc5=>?_)
  ·
   refine Ck ?_
   exact Em (x.op==6) (by have h9:x.op=6:=(by simpa using hc5); rw [h9]; decide) (sc O (sc O (sc O (sc O sn)))) (fun _ h=>by
     have h:=h.fronti 0 rfl
     exact h)
  have hn5:¬x.op=6:=by simpa using hc5
  refine Cr (V0 (yl_eq O O) (V0 (Ya O) (Ln ?_)))
  exact Em (x.op==7) (by rw [Bool.eq_iff_iff]; simp; omega) (sc O (sc O (sc O (sc O sn)))) (fun _ h=>by
    have h:=h.fronti 0 rfl
    exact h)
 intro bb hbb
 refine Cc O (fun hc6=>?_) (fun hc6=>?_)
 ·
  refine Cs (Cr (V0 (Ym O) (V0 (Ym O) ?_)))
  apply La 1 O O O O Y O O O O O
  ·
   intro hg15
   refine Vg (Ym O) ?_
   exact Gt 1 O O O
  refine V0 (Ym O) ?_
  apply La 2 O O O O Y O O O O O
  ·
   intro hg16
   refine Vg (Ym O) (Vg (yl_eq O O) ?_)
   exact Gt 2 O O O
  refine V0 (Ya O) (Ln (Et (Crt (Ebr (Er ?_)))))
  refine R1 O O fun w' hw=>?_
  exact ⟨by rw [act1,if_neg hn0,if_neg hn1,if_neg hn2,if_neg hn3,if_neg hn4,if_pos (of_decide_eq_true (hbb.symm.trans hc6))],hw.fr⟩
 refine Ck (Eb (Et (Cs (Cr (V0 (Ya O) (Ln (Et (Crt ?_))))))))
 refine R1 O O fun w' hw=>?_
 exact ⟨by rw [act1,if_neg hn0,if_neg hn1,if_neg hn2,if_neg hn3,if_neg hn4,if_neg (of_decide_eq_false (hbb.symm.trans hc6))],hw.fr⟩
theorem vacts_any (HV HK:View) (vb:Nat) (ka:Option Addr) (kc:Nat) (kn:List KnW) (locs:Int) (H:View) (ke k:Nat) (l:List TAct) (a:Option Addr) (c:Nat) (d:Nat) (w:World) (hHV:Le HV w) (hHK:Le HK w) (h0:vc HV vb 0=some (.slice ka kn.length kc)) (h1:vc HV vb 1=some (.int .i64 locs)) (hkn:Sl rdKn 3 HK ka kc kn) (hH:Le H w) (hl:Sl (RdA ke k) 7 H a c l) (hd:d≤7) :
   Calls Tryz.prog 106 #[.pointer (some ⟨vb,0,none⟩),.slice a l.length c,.int .i64 (d:Int)] w fun e w'=>e = .returned (.bool (actsK kn locs l d))∧Ext w w':=by
 have hkcap:=hkn.cap
 have hkmax:=hkn.max
 induction k using Nat.strongRecOn generalizing l a c d w
 rename_i k ih
 have hcap:=hl.cap
 have hmax:=hl.max
 refine enter Tryz.func106 O 68 O O ?_
 refine CE (Vs:=[HV,HK,H]) (Ws.init (by simp [hHV,hHK,hH])) ?_
 refine Cs (Cr (V0 (Ya O) (Ln (Et (Cs (Cs (Cr (V0 (Ym O) (V0 (yl_gt O O) (V0 (Ym O) ?_))))))))))
 apply Lo 3 O O O O Y O O O O O
 ·
  intro hg0
  refine Vg (Ym O) (Vg (Yn es56 O) (Vg (yl_gt O O) ?_))
  exact Gt 3 O O O
 refine Ln (Et ?_)
 refine Cc O (fun hc0=>?_) (fun hc0=>?_)
 ·
  refine Cs (Cr (V0 (Ya O) (Ln (Et (Crt (Er ?_))))))
  refine R1 O O fun w' hw=>?_
  exact ⟨by rw [actsC kn locs l d hc0],hw.fr⟩
 have hin:=actsC_in hc0
 refine Ck (Et (Cs (Cs (Cr (V0 (Ym O) (V0 (Yn es56 O) (V0 (Ym O) (Ln (Et (Cb ?_))))))))))
 refine CW (ι:=Nat) (fun i=>[(18,.int .i64 (i:Int))]) [(0,_),(2,_),(16,_),(17,_)] (fun i=>i≤l.length∧(l.take i).all (actK kn locs · d)=true) (fun i=>l.length-i) 0 ⟨Nat.zero_le _,O⟩ (sc O (sc O (sc O (sc O (sc O sn))))) ?_
 intro i ⟨hi,hall⟩
 refine Cs (Cr (V0 (yl_lt O O) (Ln (Et (Cs ?_)))))
 refine Cc O (fun hc1=>?_) (fun hc1=>?_)
 ·
  have hlt:i<l.length:=by simpa using hc1
  obtain ⟨x,hxi⟩:∃q,l[i]? = some q:=⟨_,List.getElem?_eq_getElem hlt⟩
  obtain ⟨pbx,pox,hax,hrx⟩:=hl.elt i x hxi
  obtain ⟨k2,rfl⟩:∃k2,k=k2+1:=by
    cases k with
    | zero=>exact hrx.elim
    | succ k2=>exact ⟨k2,rfl⟩
  obtain ⟨r,hrow,hs1,hs2,hs3⟩:=hrx
  have cap2:=hs2.cap
  have max2:=hs2.max
  have cap3:=hs3.cap
  have max3:=hs3.max
  refine Ck (Et (Cs (Cb (Cs (Cr (V0 (Yo es56 O O hax hlt) (V0 (yl_lda 2 ag191 O O O (hrow)) ?_)))))))
  refine Al Y O zr191 fun b8=>?_
  refine Lst 0 Y O O O sz191 O O O (Ln (Et (Cs ?_)))
  refine Crb 0 (.cells (actV x r).toArray 191 (0,0)) O O ?_
  refine Cr (V0 (Ym O) (V0 (Yda 0 O O ag191 O) ?_))
  refine Lp Y O en124 O (fun w hw=>vact_any HV HK vb ka kc kn locs x r w (hw.vs _ (by simp)) (hw.vs _ (by simp)) h0 h1 hkn (by omega) (by omega)) ?_
  refine V0 (yl_not O) (V0 (Ym O) ?_)
  apply Lo 5 O O O O Y O O O O O
  ·
   intro hg1
   refine Vg (Ym O) (Vg (Yf fo191_4 O) (Vg (Yd 0 O O O na189) ?_))
   refine Lp (.g O O O) O en125 O (fun w hw=>vnodes_any HV HK vb ka kc kn locs H ke x.args r.s1.1 r.s1.2 1 w (hw.vs _ (by simp)) (hw.vs _ (by simp)) h0 h1 hkn (hw.vs _ (by simp)) hs1 (by omega)) ?_
   refine Vg (yl_not O) ?_
   exact Gt 5 O O O
  refine V0 (Ym O) ?_
  apply Lo 17 O O O O Y O O O O O
  ·
   intro hg2
   refine Vg (Yf fo191_0 O) (Vg (Yd 0 O O O na3) (Vg (yl_eq O O) (Vg (Ym O) ?_)))
   apply Lo 3 O O O O (.g O O O) O O O O O
   ·
    intro hg3
    refine Vg (Yf fo191_0 O) (Vg (Yd 0 O O O na3) (Vg (yl_eq O O) ?_))
    exact Gt 3 O O O
   refine Vg (Ym O) ?_
   apply La 7 O O O O (.g O O O) O O O O O
   ·
    intro hg4
    refine Vg (Ym O) (Vg (Yf fo191_5 O) (Vg (Yd 0 O O O na56) (Vg (Ym O) ?_)))
    refine Vg (Yi O O O (by omega)) ?_
    refine Lp (.g O O O) O en106 O (fun w hw=>ih k2 (by omega) x.body r.s2.1 r.s2.2 (d+1) w (hw.vs _ (by simp)) (hw.vs _ (by simp)) (hw.vs _ (by simp)) hs2 (by omega)) ?_
    refine Vg (yl_not O) ?_
    exact Gt 7 O O O
   exact Gt 7 O O O
  refine V0 (Ym O) ?_
  apply Lo 13 O O O O Y O O O O O
  ·
   intro hg5
   refine Vg (Yf fo191_6 O) (Vg (Yd 0 O O O na56) (Vg (Yn es56 O) (Vg (yl_gt O O) (Vg (Ym O) ?_))))
   apply La 7 O O O O (.g O O O) O O O O O
   ·
    intro hg6
    refine Vg (Ym O) (Vg (Yf fo191_6 O) (Vg (Yd 0 O O O na56) (Vg (Ym O) ?_)))
    refine Vg (Yi O O O (by omega)) ?_
    refine Lp (.g O O O) O en106 O (fun w hw=>ih k2 (by omega) x.other r.s3.1 r.s3.2 (d+1) w (hw.vs _ (by simp)) (hw.vs _ (by simp)) (hw.vs _ (by simp)) hs3 (by omega)) ?_
    refine Vg (yl_not O) ?_
    exact Gt 7 O O O
   exact Gt 6 O O O
  refine Ln (Et ?_)
  rw [actC]
  refine Cc O (fun hc2=>?_) (fun hc2=>?_)
  ·
   have hx:actK kn locs x d=false:=by simpa using hc2
   refine Cs (Cr (V0 (Ya O) (Ln (Et (Crt (Ebr (Er (Er (Ebr (Er ?_))))))))))
   refine R1 O O fun w' hw=>?_
   exact ⟨by rw [actsK_at kn locs hin,all_hit hxi hx],hw.fr⟩
  have hx:actK kn locs x d=true:=by simpa using hc2
  refine Ck (Eb (Et (Cr ?_)))
  refine V0 (Yi O O O (by omega)) ?_
  refine V0 (Ym O) (Ln ?_)
  exact Ea (i+1) (by omega) ⟨by omega,all_take hxi hall hx⟩ (sc O (sc O (sc O (sc O (sc O sn))))) (fun _ h=>Wd 1 h)
 have hge:¬i<l.length:=by simpa using hc1
 rw [List.take_of_length_le (by omega)] at hall
 refine Ce (Ex (Ex (Ebh (Et (Cs (Cr (V0 (Ya O) (Ln (Et (Crt ?_))))))))))
 refine R1 O O fun w' hw=>?_
 exact ⟨by rw [actsK_at kn locs hin,hall],hw.fr⟩
abbrev XK:=KnW×(Option Addr×Nat)
def XK.cells (e:XK):List Value:=e.1.cells e.2
theorem XK.cells_len (e:XK):(XK.cells e).length=3:=rfl
theorem XK.one (e:XK):(XK.cells e).all (·.oneCell')=true:=rfl
def rdXK (H:View) (b o:Nat) (e:XK):Prop:=RdC H b o (XK.cells e)
def SlK (J:View) (e:XK):Prop:=Sl rdN1 1 J e.2.1 e.2.2 e.1.parts
theorem SlK.mv {A B:View} {e:XK} (hv:VLe A B) (h:SlK A e):SlK B e:=h.imp fun _ _ _ r=>RdC.mono hv r
def rdXKp (H:View) (b o:Nat) (e:XK):Prop:=RdC H b o (XK.cells e)∧SlK H e
theorem kn_pairs {H:View} {a:Option Addr} {c:Nat} {l:List KnW} (h:Sl rdKn 3 H a c l):∃ys:List XK,ys.map (·.1)=l∧Sl rdXKp 3 H a c ys:=by
 obtain ⟨ys,h1,h2⟩:=choices (β:=Option Addr×Nat) (p:=fun i x r=>∃b o,a=some ⟨b,o,none⟩∧RdC H b (o+i*3) (KnW.cells x r)∧Sl rdN1 1 H r.1 r.2 x.parts) l 0 fun i x hx=>by
   obtain ⟨b,o,ha,r,hr,hm⟩:=h.elt i x hx
   exact ⟨r,b,o,ha,by rw [Nat.zero_add]; exact hr,hm⟩
 have hl:ys.length=l.length:=by rw [←h1,List.length_map]
 refine ⟨ys,h1,by rw [hl]; exact h.cap,h.max,h.spot,fun i y hy=>?_⟩
 obtain ⟨b,o,ha,hr,hm⟩:=h2 i y hy
 rw [Nat.zero_add] at hr
 exact ⟨b,o,ha,hr,hm⟩
theorem slK_of {K N:View} {a:Option Addr} {c:Nat} {es:List XK} (h:Sl rdXK 3 K a c es) (hv:VLe K N) (he:∀e ∈ es,SlK N e):Sl rdKn 3 N a c (es.map (·.1)):=by
 refine ⟨by rw [List.length_map]; exact h.cap,h.max,h.spot,fun i x hx=>?_⟩
 rw [List.getElem?_map] at hx
 obtain ⟨y,hy,rfl⟩:=Option.map_eq_some_iff.1 hx
 obtain ⟨b,o,ha,hr⟩:=h.elt i y hy
 exact ⟨b,o,ha,y.2,RdC.mono hv hr,he y (List.mem_of_getElem? hy)⟩
theorem head_parts {u:TUnit} (h:headC u=false):u.parts.length≤6∧u.uses.length≤3∧0≤u.data∧u.data≤512:=by
 unfold headC at h
 simp only [Bool.or_eq_false_iff,decide_eq_false_iff_not] at h
 omega
theorem partOk_no {kn:List KnW} {x:TPart} (h:(((decide (x.params<0)||decide (3<x.params))||decide (x.locals<0))||decide (4<x.locals))=true):partOk kn x=false:=by unfold partOk; rw [h]; rfl
theorem partOk_in {kn:List KnW} {x:TPart} (h:(((decide (x.params<0)||decide (3<x.params))||decide (x.locals<0))||decide (4<x.locals))=false):partOk kn x=actsK kn (x.params+x.locals) x.body 1:=by unfold partOk; rw [h]; rfl
theorem one_more (b:Bool):decide (1<(if b=true then (1:Int) else 0)+1)=b:=by cases b<;>decide
theorem fo58_2:fieldOff Tryz.prog 58 2=some 2:=by kernel_rfl
theorem pl152:placesP Tryz.prog 152=some [(0,1),(1,1),(2,1)]:=by kernel_rfl
theorem es55:elemSz Tryz.prog 55=some 3:=by kernel_rfl
theorem ag125:aggOf Tryz.prog 125=some 3:=by kernel_rfl
theorem sz125:sizeP Tryz.prog 125=some 3:=by kernel_rfl
theorem fo125_0:fieldOff Tryz.prog 125 0=some 0:=by kernel_rfl
theorem el25:EltOk Tryz.prog 25 3 (.int .i64 0) 1 8:=eltOk_of (by kernel_rfl)
theorem sz25:sizeP Tryz.prog 25=some 1:=by kernel_rfl
theorem fo58_0:fieldOff Tryz.prog 58 0=some 0:=by kernel_rfl
theorem fo58_1:fieldOff Tryz.prog 58 1=some 1:=by kernel_rfl
theorem en82:Enters Tryz.prog 82:=enters_of Tryz.func82 (by kernel_rfl) rfl
theorem el150:EltOk Tryz.prog 150 152 (.agg #[.bool false,.int .i64 0,.slice none 0 0]) 3 40:=eltOk_of (by kernel_rfl)
theorem pl187:placesP Tryz.prog 187=some [(0,1),(1,1)]:=by kernel_rfl
theorem zr187:zeroOf Tryz.prog 187=some (.agg #[.slice none 0 0,.int .i64 0]):=by kernel_rfl
theorem fo125_1:fieldOff Tryz.prog 125 1=some 1:=by kernel_rfl
theorem fo125_2:fieldOff Tryz.prog 125 2=some 2:=by kernel_rfl
theorem vknown_any (H:View) (ke k:Nat) (u:TUnit) (r:UAt) (w:World) (hH:Le H w) (hu:RdU ke k H r u) (hp:u.parts.length≤1048576) :
   Calls Tryz.prog 82 #[.agg (unitV u r).toArray] w fun e w'=>∃q:Option Addr×Nat,e = .returned (.agg ((knM u).cells q).toArray)∧Ext w w'∧Sl rdN1 1 (nv w w') q.1 q.2 (knM u).parts:=by
 have hcap:=hu.parts.cap
 have hmax:=hu.parts.max
 refine enter Tryz.func82 O 25 O O ?_
 refine CE (Vs:=[H]) (Ws.init (by simp [hH])) ?_
 refine Cs (Cr ?_)
 refine WL.box Y O O fun b1=>?_
 refine Al Y O zr152 fun b2=>?_
 refine Ln (Et (Cs (Cr (V0 (Yf fo58_2 O) (V0 (Yd 1 O O O na3) (V0 (Yb zr152 pl152 O O) ?_))))))
 refine Al Y O zr152 fun b3=>?_
 refine Lst 0 Y O O O sz152 O O O (Ln (Et (Cs (Cs ?_))))
 refine Crb 0 (.cells #[.bool true,.int .i64 u.data,.slice none 0 0] 152 (0,0)) O O ?_
 refine Cr (V0 (Yf fo58_3 O) (V0 (Yd 2 O O O na55) (V0 (Yn es55 O) (V0 (Ym O) ?_))))
 refine LW (fun _ h=>h.osl_nil 3 1) ?_
 refine Ln (Et (Cb ?_))
 refine CLk (ι:=Nat×(Option Addr×Nat)) (fun g=>[(12,.int .i64 (g.1:Int))]) [(2,_),(3,_),(10,_),(11,_)] (fun g=>Ws w [] [osT 3 1 n1C g.2.1 g.2.2 ((u.parts.take g.1).map (·.params)),blk b3 (.cells #[.bool true,.int .i64 u.data,.slice g.2.1 ((u.parts.take g.1).map (·.params)).length g.2.2] 152 (0,0)),blk b2 (.cells #[.bool false,.int .i64 0,.slice none 0 0] 152 (0,0)),blk b1 (.cells (unitV u r).toArray 58 (0,0))] [H]) (fun g=>g.1≤u.parts.length) (fun g=>u.parts.length-g.1) (0,(none,0)) (Nat.zero_le _) (sc O (sc O (sc O (sc O (sc O sn))))) (fun _ h=>h) ?_
 intro g hgi
 refine Cs (Cr (V0 (yl_lt O O) (Ln (Et (Cs ?_)))))
 refine Cc O (fun hc0=>?_) (fun hc0=>?_)
 ·
  have hlt:g.1<u.parts.length:=by simpa using hc0
  obtain ⟨x,hxi⟩:∃q,u.parts[g.1]? = some q:=⟨_,List.getElem?_eq_getElem hlt⟩
  obtain ⟨pbx,pox,hax,hrx⟩:=hu.parts.elt g.1 x hxi
  obtain ⟨xr,hrow,hsub⟩:=hrx
  have hT:(u.parts.take (g.1+1)).map (·.params)=(u.parts.take g.1).map (·.params)++[x.params]:=by rw [List.take_add_one,hxi]; simp
  have hL:((u.parts.take g.1).map (·.params)).length=g.1:=by simp; omega
  refine Ck (Et (Cs (Cb (Cs (Cr (V0 (Yo es55 O O hax hlt) (V0 (yl_lda 0 ag125 O O O (hrow)) ?_)))))))
  refine Al Y O zr125 fun b5=>?_
  refine Lst 0 Y O O O sz125 O O O (Ln (Et ?_))
  refine Crb 0 (.cells (partV x xr).toArray 125 (0,0)) O O ?_
  refine Cr (V0 (Yf fo152_2 O) (V0 (Yd 2 O O O na25) (V0 (Yf fo125_0 O) (V0 (Yd 0 O O O na3) ?_))))
  refine Lb Y O el25 O O O O fun b20=>?_
  refine Lrb 0 (.cells (n1C x.params).toArray 3 (0,0)) O (O) ?_
  refine LA (x.params) 2 0 Y O el25 O O O O O O (by omega) (by omega) fun a21 c21=>?_
  refine V0 (Yf fo152_2 O) (Lst 3 Y O O O sz25 O O O (Ln (Eb (Et (Cr ?_)))))
  refine V0 (Yi O O O (by omega)) ?_
  refine V0 (Ym O) ?_
  refine LW (fun _ h=>h.osl_nil 3 1) ?_
  refine Ln ?_
  rw [←hT]
  exact Ea ((g.1+1,(a21,c21)):Nat×(Option Addr×Nat)) (by show _-(g.1+1)<_; omega) (by show g.1+1≤_; omega) (sc O (sc O (sc O (sc O (sc O sn))))) (fun _ h=>Wd 3 h)
 have hge:g.1=u.parts.length:=by simp at hc0; omega
 rw [hge,List.take_length]
 refine Ce (Ex (Ex (Ebh (Et (Cs (Cr (V0 (Yda 1 O O ag152 O) (Lst 2 Y O O O sz152 O O O (Ln (Et (Crt ?_)))))))))))
 refine WE.retc1 2 O O O ag152 O fun w' hw=>?_
 exact ⟨g.2,O,hw.fr,hw.slT 0 O n1C_len (fun _ _ _ _ h=>h)⟩
theorem vfine_any (H HU:View) (ke k:Nat) (u:TUnit) (r:UAt) (us:List KnW) (ua:Option Addr) (uc:Nat) (w:World) (hH:Le H w) (hHU:Le HU w) (hu:RdU ke k H r u) (hus:Sl rdKn 3 HU ua uc us) (hul:us.length≤1048576) :
   Calls Tryz.prog 83 #[.agg (unitV u r).toArray,.slice ua us.length uc] w fun e w'=>e = .returned (.bool (fineU u us))∧Ext w w':=by
 have hcap:=hu.uses.cap
 have hmax:=hu.uses.max
 have hpcap:=hu.parts.cap
 have hpmax:=hu.parts.max
 refine enter Tryz.func83 O 115 O O ?_
 refine CE (Vs:=[H,HU]) (Ws.init (by simp [hH,hHU])) ?_
 refine Cs (Cr ?_)
 refine WL.box Y O O fun b2=>?_
 refine V0 (Ya O) (Ln (Et (Cs (Cr ?_))))
 refine WL.gmk st Y O fun b11=>?_
 refine V0 (Yf fo58_0 O) (V0 (Yd 1 O O O na9) ?_)
 refine WL.gins 0 keyStr Y um64 us9 O O O O ?_
 refine V0 (Ym O) (V0 (Ya O) (Ln (Et (Cs (Cs (Cr (V0 (Yf fo58_1 O) (V0 (Yd 1 O O O na22) (V0 (Yn es22 O) ?_)))))))))
 refine V0 (Ym O) (Ln (Et (Cb ?_)))
 refine CLk (ι:=Nat) (fun i=>[(18,.int .i64 (i:Int))]) [(1,_),(2,_),(5,_),(16,_),(17,_)] (fun i=>Ws w [] [blk b11 (gobj st (tab1 (u.nm::u.uses.take i) 0) (u.nm::u.uses.take i).length),blk b2 (.cells (unitV u r).toArray 58 (0,0))] [H,HU]) (fun i=>i≤u.uses.length∧(u.nm::u.uses.take i).Nodup∧(u.uses.take i).all nameB=true) (fun i=>u.uses.length-i) 0 ⟨Nat.zero_le _,by simp,O⟩ (sc O (sc O (sc O (sc O (sc O (sc O sn)))))) (fun _ h=>h) ?_
 intro i ⟨hi,hnd,hall⟩
 refine Cs (Cr (V0 (yl_lt O O) (Ln (Et (Cs ?_)))))
 refine Cc O (fun hc0=>?_) (fun hc0=>?_)
 ·
  have hlt:i<u.uses.length:=by simpa using hc0
  obtain ⟨s,hsi⟩:∃q,u.uses[i]? = some q:=⟨_,List.getElem?_eq_getElem hlt⟩
  obtain ⟨pbs,pos,has,hrs⟩:=hu.uses.elt i s hsi
  have hrs:RdC H pbs (pos+i*1) (strC s):=hrs
  refine Ck (Et (Cs (Cb (Cs (Cr (V0 (Yo es22 O O has hlt) (V0 (yl_ld 0 na9 O O (hrs 0 _ O)) (V0 (Ya O) (Ln (Et (Cs (Cr (V0 (Ym O) ?_)))))))))))))
  refine V0 (Ym O) (V0 (yl_glook 0 keyStr um64 us9 zr3 O O O) ?_)
  rw [tab1_get]
  refine V0 (yl_add O O (by split<;>omega)) ?_
  refine WL.gset 0 keyStr Y um64 us9 O O O O ?_
  refine Ln (Et (Cs (Cr (V0 (Ym O) (V0 (Ym O) (V0 (yl_glook 0 keyStr um64 us9 zr3 O O O) ?_))))))
  rw [gget_gput]
  refine V0 (yl_gt O O) ?_
  rw [one_more]
  refine V0 (Ym O) ?_
  apply Lo 3 (x:=!(nameB s)) O O O O Y O O O O O
  ·
   intro hg0
   refine Vg (Ym O) ?_
   refine Lp (.g O O O) O en29 O (fun w hw=>lexName_any _ w) ?_
   refine Vg (yl_not O) ?_
   exact Gt 3 O O O
  refine Ln (Et ?_)
  refine Cc O (fun hc1=>?_) (fun hc1=>?_)
  ·
   have hbad:(u.nm::u.uses.take i).contains s=true∨nameB s=false:=by
     have h9:=hc1
     cases hcs:(u.nm::u.uses.take i).contains s with
     | true=>exact .inl rfl
     | false=>rw [hcs] at h9; exact .inr (by simpa using h9)
   refine Cs (Cr (V0 (Ya O) (Ln (Et (Crt (Ebr (Er (Er (Ebr (Er ?_))))))))))
   refine R1 O O fun w' hw=>?_
   exact ⟨by rw [fineU,usesK_no hsi hbad]; rfl,hw.fr⟩
  obtain ⟨hcs,hnb⟩:(u.nm::u.uses.take i).contains s=false∧nameB s=true:=by
    have h9:=Bool.or_eq_false_iff.1 hc1
    exact ⟨h9.1,by simpa using h9.2⟩
  have hT:(u.nm::u.uses.take i)++[s]=u.nm::u.uses.take (i+1):=by rw [List.take_add_one,hsi]; simp
  rw [hcs,show ((if false=true then (1:Int) else 0)+1)=1 from rfl,(tab1_put hcs).1,(tab1_put hcs).2,hT]
  have hnd2:(u.nm::u.uses.take (i+1)).Nodup:=by
    rw [←hT,List.nodup_append]
    refine ⟨hnd,by simp,fun a ha b hb e=>?_⟩
    rw [List.mem_singleton] at hb; subst hb; subst e
    have h9:(u.nm::u.uses.take i).contains a=true:=by simpa using ha
    rw [hcs] at h9; cases h9
  refine Ck (Eb (Et (Cr ?_)))
  refine V0 (Yi O O O (by omega)) ?_
  refine V0 (Ym O) (Ln ?_)
  exact Ea (i+1) (by omega) ⟨by omega,hnd2,all_take hsi hall hnb⟩ (sc O (sc O (sc O (sc O (sc O (sc O sn)))))) (fun _ h=>h)
 have hge:i=u.uses.length:=by simp at hc0; omega
 rw [hge,List.take_length] at hnd hall
 refine Ce (Ex (Ex (Ebh (Et (Cs (Cs (Cr (V0 (Yf fo58_0 O) (V0 (Yd 1 O O O na9) ?_)))))))))
 refine Lp Y O en29 O (fun w hw=>lexName_any _ w) ?_
 refine V0 (yl_not O) (V0 (Ym O) ?_)
 apply Lo 4 O O O O Y O O O O O
 ·
  intro hg1
  refine Vg (Yf fo58_1 O) (Vg (Yd 1 O O O na22) (Vg (Yn es22 O) (Vg (yl_gt O O) ?_)))
  exact Gt 4 O O O
 refine V0 (Ym O) ?_
 apply Lo 3 O O O O Y O O O O O
 ·
  intro hg2
  refine Vg (Yf fo58_2 O) (Vg (Yd 1 O O O na3) (Vg (yl_lt O O) ?_))
  exact Gt 3 O O O
 refine V0 (Ym O) ?_
 apply Lo 3 O O O O Y O O O O O
 ·
  intro hg3
  refine Vg (Yf fo58_2 O) (Vg (Yd 1 O O O na3) (Vg (yl_gt O O) ?_))
  exact Gt 3 O O O
 refine V0 (Ym O) ?_
 apply Lo 4 O O O O Y O O O O O
 ·
  intro hg4
  refine Vg (Yf fo58_3 O) (Vg (Yd 1 O O O na55) (Vg (Yn es55 O) (Vg (yl_gt O O) ?_)))
  exact Gt 4 O O O
 refine Ln (Et ?_)
 refine Cc O (fun hc2=>?_) (fun hc2=>?_)
 ·
  refine Cs (Cr (V0 (Ya O) (Ln (Et (Crt (Er ?_))))))
  refine R1 O O fun w' hw=>?_
  exact ⟨by rw [fineU,show headC u=true from hc2]; simp,hw.fr⟩
 have hhd:headC u=false:=hc2
 obtain ⟨hp6,hu3,hd0,hd1⟩:=head_parts hhd
 refine Ck (Et (Cs ?_))
 obtain ⟨ys,hys,hsp⟩:=kn_pairs hus
 have hyl:ys.length=us.length:=by rw [←hys,List.length_map]
 have hkl:∀q,([((knM u,q):XK)]++ys).length=(knM u::us).length:=fun q=>by simp [hyl]
 refine Cr (V0 (Yda 1 O O ag58 O) ?_)
 refine Ld Y O en82 O (fun q:Option Addr×Nat=>.agg ((knM u).cells q).toArray) (fun F q=>Sl rdN1 1 F q.1 q.2 (knM u).parts) (fun w hw=>vknown_any H ke k u r w (hw.vs _ (by simp)) hu (by omega)) ?_
 intro F63 r63 hf63 h63
 refine Lb Y O el150 O O O O fun b64=>?_
 refine Lrb 0 (.cells (([(knM u,r63)]:List XK).flatMap XK.cells).toArray 152 (0,0)) O O ?_
 refine LW (fun _ h=>h.osT_blk (f:=XK.cells) (xs:=[(knM u,r63)]) (c:=1) 0 O XK.cells_len O (by decide)) ?_
 refine V0 (Ym O) ?_
 refine WL.appendL (f:=XK.cells) (rd:=rdXKp) (xs:=[((knM u,r63):XK)]) (ys:=ys) 0 (fun _=>HU) Y O el150 O (by show some (Value.slice ua us.length uc)=_; rw [←hyl]) O (fun w hw=>⟨hw.vs HU (by simp),hsp⟩) (fun _ _ _ _ h=>h.1) XK.cells_len XK.one (by simp; omega) (by simp; omega) fun a66 c66=>?_
 refine V0 (Yb zr187 pl187 O O) ?_
 refine WL.box Y O O fun b68=>?_
 refine Lrb 0 (.cells #[.slice a66 (knM u::us).length c66,.int .i64 0] 187 (0,0)) O (congrArg (fun n=>Obj.cells #[.slice a66 n c66,.int .i64 0] 187 (0,0)) (hkl r63)) ?_
 refine V0 (Ya O) (Ln (Et (Cs (Cs ?_))))
 refine WC.oslview (rd:=rdXK) 1 O XK.cells_len (fun _ _ _ _ h=>h) fun K hK=>?_
 have hkk:∀w,Le K w→Le F63 w→Le HU w→Sl rdKn 3 (hv w) a66 c66 (knM u::us):=fun w g1 g2 g3=>by
   have h9:=slK_of hK (hv_of g1) fun e he=>by
     rcases List.mem_append.1 he with he | he
     · rw [List.mem_singleton] at he; subst he; exact SlK.mv (hv_of g2) h63
     · obtain ⟨q,hq⟩:=List.getElem?_of_mem he
       obtain ⟨_,_,_,_,h⟩:=hsp.elt q e hq
       exact SlK.mv (hv_of g3) h
   rw [List.map_append,hys] at h9
   exact h9
 refine Cr (V0 (Yf fo58_3 O) (V0 (Yd 2 O O O na55) (V0 (Yn es55 O) (V0 (Ym O) (Ln (Et (Cb ?_)))))))
 refine CLk (ι:=Nat×Int) (fun g=>[(72,.int .i64 (g.1:Int))]) [(2,_),(8,_),(70,_),(71,_)] (fun g=>Ws w [] [blk b68 (.cells #[.slice a66 (knM u::us).length c66,.int .i64 g.2] 187 (0,0)),blk b2 (.cells (unitV u r).toArray 58 (0,0))] [K,F63,H,HU]) (fun g=>g.1≤u.parts.length∧(u.parts.take g.1).all (partOk (knM u::us))=true) (fun g=>u.parts.length-g.1) (0,0) ⟨Nat.zero_le _,O⟩ (sc O (sc O (sc O (sc O (sc O sn))))) (fun _ h=>(Wt 2 ((h.f 2 O).f 1 O):)) ?_
 intro g ⟨hgi,hallp⟩
 refine Cs (Cr (V0 (yl_lt O O) (Ln (Et (Cs ?_)))))
 refine Cc O (fun hc3=>?_) (fun hc3=>?_)
 ·
  have hlt:g.1<u.parts.length:=by simpa using hc3
  obtain ⟨x,hxi⟩:∃q,u.parts[g.1]? = some q:=⟨_,List.getElem?_eq_getElem hlt⟩
  obtain ⟨pbx,pox,hax,hrx⟩:=hu.parts.elt g.1 x hxi
  obtain ⟨xr,hrow,hsub⟩:=hrx
  refine Ck (Et (Cs (Cb (Cs (Cr (V0 (Yo es55 O O hax hlt) (V0 (yl_lda 2 ag125 O O O (hrow)) ?_)))))))
  refine Al Y O zr125 fun b10=>?_
  refine Lst 0 Y O O O sz125 O O O (Ln (Et (Cs (Cs ?_))))
  refine Crb 0 (.cells (partV x xr).toArray 125 (0,0)) O O ?_
  refine Cr (V0 (Yf fo125_0 O) (V0 (Yd 0 O O O na3) (V0 (yl_lt O O) (V0 (Ym O) ?_))))
  apply Lo 3 O O O O Y O O O O O
  ·
   intro hg5
   refine Vg (Yf fo125_0 O) (Vg (Yd 0 O O O na3) (Vg (yl_gt O O) ?_))
   exact Gt 3 O O O
  refine V0 (Ym O) ?_
  apply Lo 3 O O O O Y O O O O O
  ·
   intro hg6
   refine Vg (Yf fo125_1 O) (Vg (Yd 0 O O O na3) (Vg (yl_lt O O) ?_))
   exact Gt 3 O O O
  refine V0 (Ym O) ?_
  apply Lo 3 O O O O Y O O O O O
  ·
   intro hg7
   refine Vg (Yf fo125_1 O) (Vg (Yd 0 O O O na3) (Vg (yl_gt O O) ?_))
   exact Gt 3 O O O
  refine Ln (Et ?_)
  refine Cc O (fun hc4=>?_) (fun hc4=>?_)
  ·
   have hx:partOk (knM u::us) x=false:=partOk_no hc4
   refine Cs (Cr (V0 (Ya O) (Ln (Et (Crt (Er (Ebr (Er (Er (Ebr (Er ?_)))))))))))
   refine R1 O O fun w' hw=>?_
   exact ⟨by rw [fineU,all_hit hxi hx]; simp,hw.fr⟩
  have hpx:=partOk_in (kn:=(knM u::us)) hc4
  have hpb:0≤x.params∧x.params≤3∧0≤x.locals∧x.locals≤4:=by
    simp only [Bool.or_eq_false_iff,decide_eq_false_iff_not] at hc4; omega
  refine Ck (Et (Cs (Cr (V0 (Ym O) (V0 (Yf fo125_0 O) (V0 (Yd 0 O O O na3) (V0 (Yf fo125_1 O) (V0 (Yd 0 O O O na3) ?_))))))))
  refine V0 (yl_add O O (by omega)) ?_
  refine V0 (yl_nil O) (V0 (Yf fo187_1 O) (Lst 1 Y O O O sz3 O O O (Ln (Et (Cs ?_)))))
  refine Crb 1 (.cells #[.slice a66 (knM u::us).length c66,.int .i64 (x.params+x.locals)] 187 (0,0)) O O ?_
  refine Cr (V0 (Ym O) (V0 (Yf fo125_2 O) (V0 (Yd 0 O O O na56) ?_)))
  refine Lp Y O en106 O (fun w hw=>vacts_any (hv w) (hv w) b68 a66 c66 (knM u::us) (x.params+x.locals) H ke k x.body xr.1 xr.2 1 w (hv_le w) (hv_le w) (vc_blk (hw.hvw 1 O) O) (vc_blk (hw.hvw 1 O) O) (hkk w (hw.vs _ (by simp)) (hw.vs _ (by simp)) (hw.vs _ (by simp))) (hw.vs _ (by simp)) hsub (by omega)) ?_
  refine V0 (yl_not O) (Ln (Et ?_))
  refine Cc O (fun hc5=>?_) (fun hc5=>?_)
  ·
   have hx:partOk (knM u::us) x=false:=by rw [hpx]; simpa using hc5
   refine Cs (Cr (V0 (Ya O) (Ln (Et (Crt (Ebr (Er (Er (Ebr (Er ?_))))))))))
   refine R1 O O fun w' hw=>?_
   exact ⟨by rw [fineU,all_hit hxi hx]; simp,hw.fr⟩
  have hx:partOk (knM u::us) x=true:=by rw [hpx]; simpa using hc5
  refine Ck (Eb (Et (Cr ?_)))
  refine V0 (Yi O O O (by omega)) ?_
  refine V0 (Ym O) (Ln ?_)
  exact Ea ((g.1+1,x.params+x.locals):Nat×Int) (by show _-(g.1+1)<_; omega) ⟨(by show g.1+1≤_; omega),all_take hxi hallp hx⟩ (sc O (sc O (sc O (sc O (sc O sn))))) (fun _ h=>Wd 1 h)
 have hge3:¬g.1<u.parts.length:=by simpa using hc3
 rw [List.take_of_length_le (by omega)] at hallp
 refine Ce (Ex (Ex (Ebh (Et (Cs (Cr (V0 (Ym O) (V0 (yl_nil O) (V0 (Yf fo187_1 O) (Lst 0 Y O O O sz3 O O O ?_))))))))))
 refine Ln (Et (Cs ?_))
 refine Crb 0 (.cells #[.slice a66 (knM u::us).length c66,.int .i64 0] 187 (0,0)) O O ?_
 refine Cr (V0 (Ym O) (V0 (Yf fo58_4 O) (V0 (Yd 1 O O O na56) ?_)))
 refine Lp Y O en106 O (fun w hw=>vacts_any (hv w) (hv w) b68 a66 c66 (knM u::us) 0 H ke k u.main r.s3.1 r.s3.2 1 w (hv_le w) (hv_le w) (vc_blk (hw.hvw 0 O) O) (vc_blk (hw.hvw 0 O) O) (hkk w (hw.vs _ (by simp)) (hw.vs _ (by simp)) (hw.vs _ (by simp))) (hw.vs _ (by simp)) hu.main (by omega)) ?_
 refine V0 (Ya O) (Ln (Et (Crt ?_)))
 refine R1 O O fun w' hw=>?_
 exact ⟨by rw [fineU,usesK_yes hnd hall,hhd,hallp]; rfl,hw.fr⟩
theorem es49:elemSz Tryz.prog 49=some 5:=by kernel_rfl
theorem en83:Enters Tryz.prog 83:=enters_of Tryz.func83 (by kernel_rfl) rfl
end Go.Proofs.YtplfmnkmlaolpaaGreatDoor
end
