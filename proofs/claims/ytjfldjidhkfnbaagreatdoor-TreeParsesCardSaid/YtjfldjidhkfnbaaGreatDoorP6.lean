/- The law TreeParses: whatever text comes in, the call returns true and leaves it as it reads; the library's listed variables hold what the program's text lays. -/
import Derived.Test.YtjfldjidhkfnbaaGreatDoorP5
set_option linter.unusedVariables false
set_option linter.unusedSimpArgs false
section
namespace Go.Proofs.YtjfldjidhkfnbaaGreatDoor
open Go.Bw
set_option linter.unusedVariables false
set_option linter.unusedSimpArgs false
structure SlP8 (N:View) (x:TProc) (p:PAt):Prop where
 params:Sl rdStr 1 N p.s1.1 p.s1.2 x.params
 locs:Sl rdStr 1 N p.s2.1 p.s2.2 x.locs
 body:Sl (RdS 8 6) 6 N p.s3.1 p.s3.2 x.body
theorem SlP8.mv {H N:View} {x:TProc} {p:PAt} (h:SlP8 H x p) (hv:VLe H N):SlP8 N x p:=⟨slStr_mv h.params hv,slStr_mv h.locs hv,slS8_mv h.body hv⟩
def PXs8 (J:View) (es:List PX):Prop:=∀e ∈ es,SlP8 J e.1 e.2
theorem PXs8.nil (J:View):PXs8 J []:=by intro e h; simp at h
theorem PXs8.snoc {J J1 J2:View} {es:List PX} {e:PX} (h:PXs8 J es) (h1:VLe J J2) (h2:VLe J1 J2) (he:SlP8 J1 e.1 e.2):PXs8 J2 (es++[e]):=by
 intro x hx
 rcases List.mem_append.1 hx with hx | hx
 · exact (h x hx).mv h1
 · rw [List.mem_singleton] at hx
   subst hx
   exact he.mv h2
theorem slP8_of {H J N:View} {c:Nat} {a:Option Addr} {es:List PX} (h:Sl rdPX 5 H a c es) (hv:VLe H N) (hJ:VLe J N) (hes:PXs8 J es):Sl (RdP 8 6) 5 N a c (es.map (·.1)):=by
 refine ⟨by simpa using h.cap,h.max,h.spot,fun i x hx=>?_⟩
 rw [List.getElem?_map] at hx
 obtain ⟨e,he,rfl⟩:=Option.map_eq_some_iff.1 hx
 obtain ⟨b,o,h1,h2⟩:=h.elt i e he
 have h3:=(hes e (List.mem_of_getElem? he)).mv hJ
 exact ⟨b,o,h1,e.2.s1.1,e.2.s1.2,e.2.s2.1,e.2.s2.2,e.2.s3.1,e.2.s3.2,RdC.mono hv h2,h3.params,h3.locs,h3.body⟩
structure GD2 where
 ds:List TDecl
 a:Option Addr
 c:Nat
 go:Bool
 pub:Bool
 r:Option Addr×Nat
 q:Tk
structure GH where
 ps:List Tx
 a:Option Addr
 c:Nat
 more:Bool
 r:Option Addr×Nat
 q:Tk
def fromT (l:Tk):TMod×Bool:=if checkL (modE l).1=0∧modT (modE l).1=joinT l then ((modE l).1,true) else (noMod,false)
section
variable {l r q1 q2 q3 q4 q5 q6 q7 q8 q9:Tk} {a s nm:Tx} {n:Nat} {pub b b2 b3:Bool} {k:Int} {us ls xs:List Tx} {ds:List TDecl} {d:TDecl} {ps:List TProc} {p:TProc} {bl:List TStmt}
theorem usesE_end (h:takT [117,115,101] l=none):usesE n l=([],l):=by
 cases n with
 | zero=>rfl
 | succ n=>rw [usesE,show w_use=[117,115,101] from rfl,h]
theorem usesE_more (h:takT [117,115,101] l=some r) (h1:namE r=(s,q1)) (h2:q2=takE [59] q1):usesE (n+1) l=(s::(usesE n q2).1,(usesE n q2).2):=by
 rw [usesE,show w_use=[117,115,101] from rfl,h]; simp only; rw [h1,h2]
theorem locsE_end (h:takT [108,111,99,97,108] l=none):locsE n l=([],l):=by
 cases n with
 | zero=>rfl
 | succ n=>rw [locsE,show w_local=[108,111,99,97,108] from rfl,h]
theorem locsE_more (h:takT [108,111,99,97,108] l=some r) (h1:namE r=(s,q1)) (h2:q2=takE [59] q1):locsE (n+1) l=(s::(locsE n q2).1,(locsE n q2).2):=by
 rw [locsE,show w_local=[108,111,99,97,108] from rfl,h]; simp only; rw [h1,h2]
theorem declE_1 (h:takT [99,111,110,115,116] l=some r) (h1:namE r=(s,q1)) (h2:q2=takE [61] q1) (h3:numE q2=(k,q3)) (h4:q4=takE [59] q3):declE pub l=(some ⟨1,s,pub,k⟩,q4):=by
 rw [declE,show w_const=[99,111,110,115,116] from rfl,h]; simp only; rw [h1]; simp only; rw [←h2,h3]; simp only; rw [h4]
theorem declE_2 (n1:takT [99,111,110,115,116] l=none) (h:takT [118,97,114] l=some r) (h1:namE r=(s,q1)) (h4:q4=takE [59] q1):declE pub l=(some ⟨2,s,pub,0⟩,q4):=by
 rw [declE,show w_const=[99,111,110,115,116] from rfl,n1]; simp only; rw [show w_var=[118,97,114] from rfl,h]; simp only; rw [h1]; simp only; rw [h4]
theorem declE_3 (n1:takT [99,111,110,115,116] l=none) (n2:takT [118,97,114] l=none) (h:takT [97,114,114,97,121] l=some r) (h1:namE r=(s,q1)) (h2:q2=takE [91] q1) (h3:numE q2=(k,q3)) (h4:q4=takE [93] q3) (h5:q5=takE [59] q4):declE pub l=(some ⟨3,s,pub,k⟩,q5):=by
 rw [declE,show w_const=[99,111,110,115,116] from rfl,n1]; simp only; rw [show w_var=[118,97,114] from rfl,n2]; simp only; rw [show w_array=[97,114,114,97,121] from rfl,h]; simp only; rw [h1]; simp only; rw [←h2,h3]; simp only; rw [←h4,←h5]
theorem declE_4 (n1:takT [99,111,110,115,116] l=none) (n2:takT [118,97,114] l=none) (n3:takT [97,114,114,97,121] l=none):declE pub l=(none,l):=by
 rw [declE,show w_const=[99,111,110,115,116] from rfl,n1]; simp only; rw [show w_var=[118,97,114] from rfl,n2]; simp only; rw [show w_array=[97,114,114,97,121] from rfl,n3]
theorem pubE_is (h1:q1=takE [112,117,98] l) (h2:b=(takT [112,117,98] l).isSome):pubE l=(b,q1):=by rw [pubE,h1,h2]; rfl
theorem declsE_end (h:declE pub l=(none,l)):declsE n pub l=(([],pub),l):=by
 cases n with
 | zero=>rfl
 | succ n=>rw [declsE,h]
theorem declsE_more (h:declE pub l=(some d,q1)) (h2:pubE q1=(b,q2)):declsE (n+1) pub l=((d::(declsE n b q2).1.1,(declsE n b q2).1.2),(declsE n b q2).2):=by
 rw [declsE,h]; simp only; rw [h2]
theorem paramsLE_1 (h:namE l=(s,q1)) (h2:takT [44] q1=none):paramsLE (n+1) l=([s],q1):=by rw [paramsLE,h]; simp only; rw [h2]
theorem paramsLE_2 (h:namE l=(s,q1)) (h2:takT [44] q1=some q2):paramsLE (n+1) l=(s::(paramsLE n q2).1,(paramsLE n q2).2):=by rw [paramsLE,h]; simp only; rw [h2]
theorem paramsE_1 (h:takT [41] l=some q1):paramsE l=([],q1):=by rw [paramsE,h]
theorem paramsE_2 (h:takT [41] l=none) (h1:paramsLE (l.length+1) l=(xs,q1)) (h2:q2=takE [41] q1):paramsE l=(xs,q2):=by rw [paramsE,h]; simp only; rw [h1,h2]
theorem procE_is (h1:namE l=(a,q1)) (h2:q2=takE [40] q1) (h3:paramsE q2=(xs,q3)) (h4:locsE (q3.length+1) q3=(ls,q4)) (h5:blockE 6 q4=(bl,q5)):procE pub l=(⟨a,pub,xs,ls,bl⟩,q5):=by
 unfold procE; rw [h1]; simp only; rw [←h2,h3]; simp only; rw [h4]; simp only; rw [h5]
theorem procsE_end (h:takT [112,114,111,99] l=none):procsE n pub l=(([],pub),l):=by
 cases n with
 | zero=>rfl
 | succ n=>rw [procsE,show w_proc=[112,114,111,99] from rfl,h]
theorem procsE_more (h:takT [112,114,111,99] l=some r) (h1:procE pub r=(p,q1)) (h2:pubE q1=(b,q2)):procsE (n+1) pub l=((p::(procsE n b q2).1.1,(procsE n b q2).1.2),(procsE n b q2).2):=by
 rw [procsE,show w_proc=[112,114,111,99] from rfl,h]; simp only; rw [h1]; simp only; rw [h2]
theorem modE_is (h1:q1=takE [109,111,100,117,108,101] l) (h2:namE q1=(nm,q2)) (h3:q3=takE [123] q2) (h4:usesE (q3.length+1) q3=(us,q4)) (h5:pubE q4=(b,q5)) (h6:declsE (q5.length+1) b q5=((ds,b2),q6))
   (h7:procsE (q6.length+1) b2 q6=((ps,b3),q7)) (h8:q8=takE [109,97,105,110] q7) (h9:blockE 6 q8=(bl,q9)):modE l=(⟨nm,us,ds,ps,bl⟩,q9):=by
 unfold modE; rw [show w_module=[109,111,100,117,108,101] from rfl,←h1,h2]; simp only; rw [←h3,h4]; simp only; rw [h5]; simp only; rw [h6]; simp only; rw [h7]; simp only; rw [show w_main=[109,97,105,110] from rfl,←h8,h9]
end
theorem noMod_rd8 (N:View):RdM 8 6 N noAt noMod:=⟨Sl.nil,Sl.nil,Sl.nil,Sl.nil⟩
theorem modT_lim {m:TMod} (h:checkL m=0) (hb:wM m≤109951162777):(modC m).tot=0∧(modT m).length≤9223372036854775807:=by
 have h1:checkM m=0:=by rw [check_same]; exact h
 have h2:=checkM_tot.1 h1
 have h3:=J_len h1 (by have:=modW_le m; omega)
 rw [←modT_J h2] at h3
 exact ⟨h2,by omega⟩
theorem pl105:placesP Tryz.prog 105=some [(0,1)]:=by kernel_rfl
theorem zr105:zeroOf Tryz.prog 105=some (.agg #[.slice none 0 0]):=by kernel_rfl
theorem sz4:sizeP Tryz.prog 4=some 1:=by kernel_rfl
theorem en8:Enters Tryz.prog 8:=enters_of Tryz.func8 (by kernel_rfl) rfl
theorem en10:Enters Tryz.prog 10:=enters_of Tryz.func10 (by kernel_rfl) rfl
theorem en64:Enters Tryz.prog 64:=enters_of Tryz.func64 (by kernel_rfl) rfl
theorem moduleFrom_any (HT:View) (r:Option Addr×Nat) (l:Tk) (w:World) (hHT:Le HT w) (hok:AllOk l) (h4:l.length≤4096) (hm:Sl rdTok 3 HT r.1 r.2 l) :
   Calls Tryz.prog 33 #[.slice r.1 l.length r.2] w fun e w'=>∃s:MAt,e = .returned (.tuple #[.agg (modV (fromT l).1 s).toArray,.bool (fromT l).2])∧Ext w w'∧RdM 8 6 (nv w w') s (fromT l).1:=by
 have hcap:=hm.cap
 have hmax:=hm.max
 have hl8:=ok8_of hok
 refine enter Tryz.func33 rfl 139 rfl rfl ?_
 refine CWd (W':=Ws w [] [] [HT]) (fun _ e=>by subst e; exact Ws.init (by simp [hHT])) ?_
 refine Cs (Cr ?_)
 refine WL.alloc (.inl rfl) rfl zr27 fun b2=>?_
 refine Lrb 0 (.cells (rowM [] none 0 0 none 0 0 none 0 0 none 0 0).toArray 27 (0,0)) rfl rfl ?_
 refine V0 (Ya rfl) ?_
 refine Ln (Et (Cs (Cr ?_)))
 refine V0 (Ym rfl) ?_
 refine V0 (Yb zr105 pl105 rfl rfl) ?_
 refine WL.box (.inl rfl) rfl rfl fun b13=>?_
 refine V0 (Ya rfl) ?_
 refine Ln (Et (Cs (Cr ?_)))
 refine WL.alloc (.inl rfl) rfl zr27 fun b5=>?_
 refine Lrb 0 (.cells (rowM [] none 0 0 none 0 0 none 0 0 none 0 0).toArray 27 (0,0)) rfl rfl ?_
 refine LW (fun _ h=>h.osl_nil 9 1) ?_
 refine LW (fun _ h=>h.osl_nil 53 4) ?_
 refine LW (fun _ h=>h.osl_nil 56 5) ?_
 refine WL.v0 ?_
 refine Ln (Et (Cs (Cr ?_)))
 refine V0 (Ym rfl) ?_
 refine Lf 4 rfl ?_
 refine Lw (ι:=Bool×(Option Addr×Nat)×Tk) [_] _ (.inl rfl) rfl en60 rfl rfl (fun i=>.bool i.1) (fun i=>eyeL b13 i.2.1 (i.2.2)) (fun i=>(i.1=true→takT [109,111,100,117,108,101] (l)=some i.2.2)∧(i.1=false→takT [109,111,100,117,108,101] (l)=none∧l=i.2.2)∧i.2.2=takE [109,111,100,117,108,101] (l)∧i.1=(takT [109,111,100,117,108,101] (l)).isSome∧Sl rdTok 3 HT i.2.1.1 i.2.1.2 i.2.2) [HT] (by simp) (fun w hw=>take_any b13 HT r (l) [109,111,100,117,108,101] w hm hw) ?_
 intro ⟨b15,r15,q15⟩ ⟨h15t,h15f,hq15,hb15,hm15⟩
 simp only at hq15 hb15
 have go15:=takE_w [109,111,100,117,108,101] hl8
 rw [←hq15] at go15
 refine Ln (Et (Cs (Cr ?_)))
 refine V0 (Ym rfl) ?_
 refine Lf 0 rfl ?_
 refine Lw (ι:=(Tx)×(Option Addr×Nat)×Tk) [_] _ (.inl rfl) rfl en61 rfl rfl (fun i=>st i.1) (fun i=>eyeL b13 i.2.1 (i.2.2)) (fun i=>namE (q15)=(i.1,i.2.2)∧Sl rdTok 3 HT i.2.1.1 i.2.1.2 i.2.2) [HT] (by simp) (fun w hw=>(ename_any b13 HT r15 (q15) w hm15 hw).mono fun e w' ⟨t,r2,q,h1,h2,h3,h4⟩=>⟨(t,r2,q),h1,⟨h2,h3⟩,h4⟩) ?_
 intro ⟨s17,r17,q17⟩ ⟨hq17,hm17⟩
 simp only at hq17
 have go17:=(namE_w go15.ok).1
 rw [hq17] at go17
 simp only at go17
 refine V0 (Yf fo27_0 rfl) ?_
 refine Lst 4 (.inl rfl) rfl rfl rfl sz9 rfl rfl rfl ?_
 refine Lrb 4 (.cells (rowM s17 none 0 0 none 0 0 none 0 0 none 0 0).toArray 27 (0,0)) rfl rfl ?_
 refine Ln (Et (Cs (Cr ?_)))
 refine V0 (Ym rfl) ?_
 refine Lf 0 rfl ?_
 refine Lw (ι:=Bool×(Option Addr×Nat)×Tk) [_] _ (.inl rfl) rfl en60 rfl rfl (fun i=>.bool i.1) (fun i=>eyeL b13 i.2.1 (i.2.2)) (fun i=>(i.1=true→takT [123] (q17)=some i.2.2)∧(i.1=false→takT [123] (q17)=none∧q17=i.2.2)∧i.2.2=takE [123] (q17)∧i.1=(takT [123] (q17)).isSome∧Sl rdTok 3 HT i.2.1.1 i.2.1.2 i.2.2) [HT] (by simp) (fun w hw=>take_any b13 HT r17 (q17) [123] w hm17 hw) ?_
 intro ⟨b20,r20,q20⟩ ⟨h20t,h20f,hq20,hb20,hm20⟩
 simp only at hq20 hb20
 have go20:=takE_w [123] go17.ok
 rw [←hq20] at go20
 refine Ln (Et (Cs (Cb ?_)))
 refine CK (ι:=GU) (fun g=>[]) [(0,_),(2,_),(3,_),(4,_),(5,_)] (fun g=>Ws w [] (eyeL b13 g.r g.q++[blk b5 (.cells (rowM s17 g.a g.us.length g.c none 0 0 none 0 0 none 0 0).toArray 27 (0,0)),osT 9 1 strC g.a g.c g.us,osT 53 4 TDecl.cells none 0 ([]:List TDecl),osT 56 5 PX.cells none 0 ([]:List PX),blk b2 (.cells (rowM [] none 0 0 none 0 0 none 0 0 none 0 0).toArray 27 (0,0))]) [v0,HT]) (fun g=>(g.us.length+g.q.length≤l.length∧Ok8 g.q)∧Sl rdTok 3 HT g.r.1 g.r.2 g.q∧∃n,g.q.length<n∧usesE (q20.length+1) q20=(g.us++(usesE n g.q).1,(usesE n g.q).2)) (fun g=>g.q.length) ⟨[],none,0,r20,q20⟩ ⟨⟨by have:=go15.le; have:=go17.le; have:=go20.le; simp; omega,go20.ok⟩,hm20,q20.length+1,by simp,by simp⟩ (sc rfl (sc rfl (sc rfl (sc rfl (sc rfl sn))))) (fun _ h=>by have h:=h.fronti 5 rfl; have h:=h.fronti 2 rfl; have h:=h.fronti 3 rfl; have h:=h.fronti 4 rfl; have h:=h.fronti 5 rfl; have h:=h.fronti 5 rfl; exact h) ?_
 intro g ⟨⟨hlen,hokg⟩,hmg,hA⟩
 refine Cs (Cs (Cr ?_))
 refine V0 (Ym rfl) ?_
 refine Lf 0 rfl ?_
 refine Lw (ι:=Bool×(Option Addr×Nat)×Tk) [_] _ (.inl rfl) rfl en60 rfl rfl (fun i=>.bool i.1) (fun i=>eyeL b13 i.2.1 (i.2.2)) (fun i=>(i.1=true→takT [117,115,101] (g.q)=some i.2.2)∧(i.1=false→takT [117,115,101] (g.q)=none∧g.q=i.2.2)∧i.2.2=takE [117,115,101] (g.q)∧i.1=(takT [117,115,101] (g.q)).isSome∧Sl rdTok 3 HT i.2.1.1 i.2.1.2 i.2.2) [HT] (by simp) (fun w hw=>take_any b13 HT g.r (g.q) [117,115,101] w hmg hw) ?_
 intro ⟨b22,r22,q22⟩ ⟨h22t,h22f,hq22,hb22,hm22⟩
 simp only at hq22 hb22
 have go22:=takE_w [117,115,101] hokg
 rw [←hq22] at go22
 refine Ln (Et ?_)
 refine Cc rfl (fun hc0=>?_) (fun hc0=>?_)
 ·
  have ht22:takT _ _=some q22:=h22t hc0
  obtain ⟨n,hn,hA⟩:=hA
  obtain ⟨n,rfl⟩:∃k,n=k+1:=⟨n-1,by omega⟩
  refine Ck (Et (Cb (Cs ?_)))
  refine CU (fun _=>true) [0,1] [6,7] (.q false 0 (.q true 1 (.q false 2 (.e 3 (.e 4 (.e 5 .nil .stop) .stop) .stop)))) mixed (by kernel_rfl) (fun _ _ _ d _ _ h=>by cases d<;>exact h) ?_
  refine Uq rfl (.inl rfl) rfl (fun _ h=>by have h:=Ws.out 0 h; have h:=Ws.out 1 h; exact h) (Yf fo27_1 rfl) ?_
  refine Uq rfl (.inl rfl) rfl (fun _ h=>by have h:=Ws.out 0 h; have h:=Ws.out 1 h; exact h) (Yd 0 rfl rfl rfl na22) ?_
  refine Uq rfl (.inl rfl) rfl (fun _ h=>by have h:=Ws.out 0 h; have h:=Ws.out 1 h; exact h) (Ym rfl) ?_
  refine Ue rfl (fun _ h=>by have h:=Ws.out 0 h; have h:=Ws.out 1 h; exact h) ?_ WU.stop
  refine Lf 0 rfl ?_
  refine Lw (ι:=(Tx)×(Option Addr×Nat)×Tk) [_] _ (.inl rfl) rfl en61 rfl rfl (fun i=>st i.1) (fun i=>eyeL b13 i.2.1 (i.2.2)) (fun i=>namE (q22)=(i.1,i.2.2)∧Sl rdTok 3 HT i.2.1.1 i.2.1.2 i.2.2) [HT] (by simp) (fun w hw=>(ename_any b13 HT r22 (q22) w hm22 hw).mono fun e w' ⟨t,r2,q,h1,h2,h3,h4⟩=>⟨(t,r2,q),h1,⟨h2,h3⟩,h4⟩) ?_
  intro ⟨s26,r26,q26⟩ ⟨hq26,hm26⟩
  simp only at hq26
  have go26:=(namE_w go22.ok).1
  rw [hq26] at go26
  simp only at go26
  refine Ln (Eu ?_)
  refine Ue rfl (fun _ h=>by have h:=Ws.out 0 h; have h:=Ws.out 1 h; exact h) ?_ WU.stop
  refine Lb (.inl rfl) rfl el22 rfl rfl rfl rfl fun b27=>?_
  refine Lrb 0 (.cells (strC s26).toArray 9 (0,0)) rfl rfl ?_
  refine Ln (Eu ?_)
  refine Ue rfl (fun _ h=>by have h:=Ws.drop (L:=[_]) (L':=_) h; have h:=Ws.out 0 h; have h:=Ws.out 1 h; exact h) ?_ WU.stop
  refine LA (s26:Tx) 3 0 (.inl rfl) rfl el22 rfl rfl rfl rfl rfl rfl (by omega) (by omega) fun a28 c28=>?_
  refine Ln (Eu ?_)
  refine WU.nil (fun _ h=>by have h:=Ws.drop (L:=[_]) (L':=_) h; have h:=Ws.out 0 h; have h:=Ws.out 1 h; exact h) ?_
  refine WS.e rfl ?_
  refine V0 (Yf fo27_1 rfl) ?_
  refine Ln (Es ?_)
  refine WS.e rfl ?_
  refine Lst 2 (.inl rfl) rfl rfl rfl sz22 rfl rfl rfl ?_
  refine Ln (Es ?_)
  refine WS.nil ?_
  refine Et (Cr ?_)
  refine V0 (Ym rfl) ?_
  refine Lf 1 rfl ?_
  refine Lw (ι:=Bool×(Option Addr×Nat)×Tk) [_] _ (.inl rfl) rfl en60 rfl rfl (fun i=>.bool i.1) (fun i=>eyeL b13 i.2.1 (i.2.2)) (fun i=>(i.1=true→takT [59] (q26)=some i.2.2)∧(i.1=false→takT [59] (q26)=none∧q26=i.2.2)∧i.2.2=takE [59] (q26)∧i.1=(takT [59] (q26)).isSome∧Sl rdTok 3 HT i.2.1.1 i.2.1.2 i.2.2) [HT] (by simp) (fun w hw=>take_any b13 HT r26 (q26) [59] w hm26 hw) ?_
  intro ⟨b31,r31,q31⟩ ⟨h31t,h31f,hq31,hb31,hm31⟩
  simp only at hq31 hb31
  have go31:=takE_w [59] go26.ok
  rw [←hq31] at go31
  refine Ln (Eb ?_)
  exact Ea (⟨g.us++[s26],a28,c28,r31,q31⟩:GU) (by have:=takT_len ht22; have:=go26.le; have:=go31.le; show q31.length<g.q.length; omega) ⟨⟨by have:=takT_len ht22; have:=go26.le; have:=go31.le; simp; omega,go31.ok⟩,hm31,n,(show q31.length<n by have:=takT_len ht22; have:=go26.le; have:=go31.le; omega),by rw [hA,usesE_more ht22 hq26 hq31]; simp⟩ (sc rfl (sc rfl (sc rfl (sc rfl (sc rfl sn))))) (fun _ h=>by
      have h:=h.fronti 6 rfl
      have h:=h.fronti 6 rfl
      have h:=h.fronti 6 rfl
      have h:=h.fronti 6 rfl
      have h:=h.fronti 6 rfl
      have h:=h.fronti 5 rfl
      have h:=Ws.keep (L:=[_,_,_,_,_,_]) h
      have h:=Ws.drops h (Vs':=[v0,HT]) (by simp)
      exact h)
 ·
  obtain ⟨hn22,hl22⟩:=h22f hc0
  simp only at hl22
  obtain ⟨n,hn,hA⟩:=hA
  obtain ⟨n,rfl⟩:∃k,n=k+1:=⟨n-1,by omega⟩
  rw [usesE_end hn22] at hA
  simp only [List.append_nil] at hA
  rw [hl22] at hA
  refine Ce (Ex (Ex (Ebh (Et (Cs ?_)))))
  refine Cr ?_
  refine V0 (Ym rfl) ?_
  refine Lf 0 rfl ?_
  refine Lw (ι:=Bool×(Option Addr×Nat)×Tk) [_] _ (.inl rfl) rfl en60 rfl rfl (fun i=>.bool i.1) (fun i=>eyeL b13 i.2.1 (i.2.2)) (fun i=>(i.1=true→takT [112,117,98] (q22)=some i.2.2)∧(i.1=false→takT [112,117,98] (q22)=none∧q22=i.2.2)∧i.2.2=takE [112,117,98] (q22)∧i.1=(takT [112,117,98] (q22)).isSome∧Sl rdTok 3 HT i.2.1.1 i.2.1.2 i.2.2) [HT] (by simp) (fun w hw=>take_any b13 HT r22 (q22) [112,117,98] w hm22 hw) ?_
  intro ⟨b33,r33,q33⟩ ⟨h33t,h33f,hq33,hb33,hm33⟩
  simp only at hq33 hb33
  have go33:=takE_w [112,117,98] go22.ok
  rw [←hq33] at go33
  refine V0 (Ya rfl) ?_
  refine Ln (Et (Cs (Cs (Cr ?_))))
  refine V0 (Ya rfl) ?_
  refine Ln (Et (Cb ?_))
  refine CK (ι:=GD2) (fun v=>[(7,.bool v.go),(6,.bool v.pub)]) [(0,_),(2,_),(3,_),(4,_),(5,_)] (fun v=>Ws w [] (eyeL b13 v.r v.q++[blk b5 (.cells (rowM s17 g.a g.us.length g.c v.a v.ds.length v.c none 0 0 none 0 0).toArray 27 (0,0)),osT 9 1 strC g.a g.c g.us,osT 53 4 TDecl.cells v.a v.c v.ds,osT 56 5 PX.cells none 0 ([]:List PX),blk b2 (.cells (rowM [] none 0 0 none 0 0 none 0 0 none 0 0).toArray 27 (0,0))]) [v0,HT]) (fun v=>(v.ds.length+v.q.length≤l.length∧Ok8 v.q)∧Sl rdTok 3 HT v.r.1 v.r.2 v.q∧∃n,v.q.length<n∧declsE (q33.length+1) b33 q33=(if v.go=true then ((v.ds++(declsE n v.pub v.q).1.1,(declsE n v.pub v.q).1.2),(declsE n v.pub v.q).2) else ((v.ds,v.pub),v.q))) (fun v=>2*v.q.length+(if v.go=true then 1 else 0)) ⟨[],none,0,true,b33,r33,q33⟩ ⟨⟨by have:=go33.le; have:=congrArg List.length hl22; simp; omega,go33.ok⟩,hm33,q33.length+1,by simp,by simp⟩ (sc rfl (sc rfl (sc rfl (sc rfl (sc rfl (sc rfl (sc rfl sn))))))) (fun _ h=>h) ?_
  intro v ⟨⟨hlen2,hokv⟩,hmv,hB⟩
  refine Cs (Cs (Cr ?_))
  refine V0 (Ym rfl) ?_
  refine Ln (Et ?_)
  refine Cc rfl (fun hc1=>?_) (fun hc1=>?_)
  ·
   have hgo:v.go=true:=hc1
   obtain ⟨n,hn,hB⟩:=hB
   obtain ⟨n,rfl⟩:∃k,n=k+1:=⟨n-1,by omega⟩
   rw [if_pos hgo] at hB
   refine Ck (Et (Cb (Cs (Cr ?_))))
   refine WL.alloc (.inl rfl) rfl zr53 fun b8=>?_
   refine Ln (Et (Cs (Cb (Cs (Cr ?_)))))
   refine V0 (Ym rfl) ?_
   refine Lf 1 rfl ?_
   refine Lw (ι:=Bool×(Option Addr×Nat)×Tk) [_] _ (.inl rfl) rfl en60 rfl rfl (fun i=>.bool i.1) (fun i=>eyeL b13 i.2.1 (i.2.2)) (fun i=>(i.1=true→takT [99,111,110,115,116] (v.q)=some i.2.2)∧(i.1=false→takT [99,111,110,115,116] (v.q)=none∧v.q=i.2.2)∧i.2.2=takE [99,111,110,115,116] (v.q)∧i.1=(takT [99,111,110,115,116] (v.q)).isSome∧Sl rdTok 3 HT i.2.1.1 i.2.1.2 i.2.2) [HT] (by simp) (fun w hw=>take_any b13 HT v.r (v.q) [99,111,110,115,116] w hmv hw) ?_
   intro ⟨b37,r37,q37⟩ ⟨h37t,h37f,hq37,hb37,hm37⟩
   simp only at hq37 hb37
   have go37:=takE_w [99,111,110,115,116] hokv
   rw [←hq37] at go37
   refine V0 (Ya rfl) ?_
   refine Ln (Et ?_)
   refine Cc rfl (fun hc2=>?_) (fun hc2=>?_)
   ·
    have ht37:takT _ _=some q37:=h37t hc2
    refine Cs (Cr ?_)
    refine V0 (Ym rfl) ?_
    refine Lf 0 rfl ?_
    refine Lw (ι:=(Tx)×(Option Addr×Nat)×Tk) [_] _ (.inl rfl) rfl en61 rfl rfl (fun i=>st i.1) (fun i=>eyeL b13 i.2.1 (i.2.2)) (fun i=>namE (q37)=(i.1,i.2.2)∧Sl rdTok 3 HT i.2.1.1 i.2.1.2 i.2.2) [HT] (by simp) (fun w hw=>(ename_any b13 HT r37 (q37) w hm37 hw).mono fun e w' ⟨t,r2,q,h1,h2,h3,h4⟩=>⟨(t,r2,q),h1,⟨h2,h3⟩,h4⟩) ?_
    intro ⟨s39,r39,q39⟩ ⟨hq39,hm39⟩
    simp only at hq39
    have go39:=(namE_w go37.ok).1
    rw [hq39] at go39
    simp only at go39
    refine V0 (Yb zr53 pl53 rfl rfl) ?_
    refine Lst 1 (.inl rfl) rfl rfl rfl sz53 rfl rfl rfl ?_
    refine Lrb 1 (.cells (TDecl.cells ⟨1,s39,false,0⟩).toArray 53 (0,0)) rfl rfl ?_
    refine Ln (Et (Cs (Cr ?_)))
    refine V0 (Ym rfl) ?_
    refine Lf 0 rfl ?_
    refine Lw (ι:=Bool×(Option Addr×Nat)×Tk) [_] _ (.inl rfl) rfl en60 rfl rfl (fun i=>.bool i.1) (fun i=>eyeL b13 i.2.1 (i.2.2)) (fun i=>(i.1=true→takT [61] (q39)=some i.2.2)∧(i.1=false→takT [61] (q39)=none∧q39=i.2.2)∧i.2.2=takE [61] (q39)∧i.1=(takT [61] (q39)).isSome∧Sl rdTok 3 HT i.2.1.1 i.2.1.2 i.2.2) [HT] (by simp) (fun w hw=>take_any b13 HT r39 (q39) [61] w hm39 hw) ?_
    intro ⟨b42,r42,q42⟩ ⟨h42t,h42f,hq42,hb42,hm42⟩
    simp only at hq42 hb42
    have go42:=takE_w [61] go39.ok
    rw [←hq42] at go42
    refine Ln (Et (Cr ?_))
    refine V0 (Ym rfl) ?_
    refine Lf 0 rfl ?_
    refine Lw (ι:=(Int)×(Option Addr×Nat)×Tk) [_] _ (.inl rfl) rfl en62 rfl rfl (fun i=>.int .i64 i.1) (fun i=>eyeL b13 i.2.1 (i.2.2)) (fun i=>numE (q42)=(i.1,i.2.2)∧Sl rdTok 3 HT i.2.1.1 i.2.1.2 i.2.2) [HT] (by simp) (fun w hw=>(enum_any b13 HT r42 (q42) w hm42 hw).mono fun e w' ⟨t,r2,q,h1,h2,h3,h4⟩=>⟨(t,r2,q),h1,⟨h2,h3⟩,h4⟩) ?_
    intro ⟨n44,r44,q44⟩ ⟨hq44,hm44⟩
    simp only at hq44
    have go44:=numE_w go42.ok
    rw [hq44] at go44
    simp only at go44
    refine V0 (Yf fo53_3 rfl) ?_
    refine Lst 1 (.inl rfl) rfl rfl rfl sz3 rfl rfl rfl ?_
    refine Ln (Eb (Et (Cs (Cr ?_))))
    refine V0 (Ym rfl) ?_
    refine Lf 0 rfl ?_
    refine Lw (ι:=Bool×(Option Addr×Nat)×Tk) [_] _ (.inl rfl) rfl en60 rfl rfl (fun i=>.bool i.1) (fun i=>eyeL b13 i.2.1 (i.2.2)) (fun i=>(i.1=true→takT [59] (q44)=some i.2.2)∧(i.1=false→takT [59] (q44)=none∧q44=i.2.2)∧i.2.2=takE [59] (q44)∧i.1=(takT [59] (q44)).isSome∧Sl rdTok 3 HT i.2.1.1 i.2.1.2 i.2.2) [HT] (by simp) (fun w hw=>take_any b13 HT r44 (q44) [59] w hm44 hw) ?_
    intro ⟨b66,r66,q66⟩ ⟨h66t,h66f,hq66,hb66,hm66⟩
    simp only at hq66 hb66
    have go66:=takE_w [59] go44.ok
    rw [←hq66] at go66
    refine Ln (Et (Cs (Cr ?_)))
    refine V0 (Ym rfl) ?_
    refine V0 (Yf fo53_2 rfl) ?_
    refine Lst 1 (.inl rfl) rfl rfl rfl sz4 rfl rfl rfl ?_
    refine Ln (Et (Cs (Cr ?_)))
    refine V0 (Yf fo27_2 rfl) ?_
    refine V0 (Yd 2 rfl rfl rfl na23) ?_
    refine V0 (Yda 1 rfl rfl ag53 rfl) ?_
    refine Lb (.inl rfl) rfl el23 rfl rfl rfl rfl fun b72=>?_
    refine Lrb 0 (.cells (TDecl.cells ⟨1,s39,v.pub,n44⟩).toArray 53 (0,0)) rfl rfl ?_
    refine LA (⟨1,s39,v.pub,n44⟩:TDecl) 5 0 (.inl rfl) rfl el23 rfl rfl rfl rfl rfl rfl (by omega) (by omega) fun a73 c73=>?_
    refine V0 (Yf fo27_2 rfl) ?_
    refine Lst 3 (.inl rfl) rfl rfl rfl sz23 rfl rfl rfl ?_
    refine Ln (Et (Cr ?_))
    refine V0 (Ym rfl) ?_
    refine Lf 1 rfl ?_
    refine Lw (ι:=Bool×(Option Addr×Nat)×Tk) [_] _ (.inl rfl) rfl en60 rfl rfl (fun i=>.bool i.1) (fun i=>eyeL b13 i.2.1 (i.2.2)) (fun i=>(i.1=true→takT [112,117,98] (q66)=some i.2.2)∧(i.1=false→takT [112,117,98] (q66)=none∧q66=i.2.2)∧i.2.2=takE [112,117,98] (q66)∧i.1=(takT [112,117,98] (q66)).isSome∧Sl rdTok 3 HT i.2.1.1 i.2.1.2 i.2.2) [HT] (by simp) (fun w hw=>take_any b13 HT r66 (q66) [112,117,98] w hm66 hw) ?_
    intro ⟨b76,r76,q76⟩ ⟨h76t,h76f,hq76,hb76,hm76⟩
    simp only at hq76 hb76
    have go76:=takE_w [112,117,98] go66.ok
    rw [←hq76] at go76
    refine V0 (Ya rfl) ?_
    refine Ln (Eb ?_)
    have hle:q76.length+1≤v.q.length:=by
      have:=takT_len ht37
      have:=go39.le
      have:=go42.le
      have:=go44.le
      have:=go66.le
      have:=go76.le
      omega
    have hD:declE v.pub v.q=(some (⟨1,s39,v.pub,n44⟩:TDecl),q66):=declE_1 ht37 hq39 hq42 hq44 hq66
    have hP:=pubE_is hq76 hb76
    exact Ea (⟨v.ds++[⟨1,s39,v.pub,n44⟩],a73,c73,v.go,b76,r76,q76⟩:GD2) (by show 2*q76.length+(if v.go=true then 1 else 0)<2*v.q.length+(if v.go=true then 1 else 0); omega) ⟨⟨by simp; omega,go76.ok⟩,hm76,n,(show q76.length<n by omega),by show _=if v.go=true then _ else _; rw [if_pos hgo,hB,declsE_more hD hP]; simp⟩ (sc rfl (sc rfl (sc rfl (sc rfl (sc rfl (sc rfl (sc rfl sn))))))) (fun _ h=>by
        have h:=h.fronti 7 rfl
        have h:=h.fronti 7 rfl
        have h:=h.fronti 7 rfl
        have h:=h.fronti 7 rfl
        have h:=h.fronti 7 rfl
        have h:=h.fronti 5 rfl
        have h:=Ws.keep (L:=[_,_,_,_,_,_]) h
        have h:=Ws.drops h (Vs':=[v0,HT]) (by simp)
        exact h)
   ·
    obtain ⟨hn37,hl37⟩:=h37f hc2
    simp only at hl37
    have go37_:=go37
    subst hl37
    refine Cs (Cr ?_)
    refine V0 (Ym rfl) ?_
    refine Lf 0 rfl ?_
    refine Lw (ι:=Bool×(Option Addr×Nat)×Tk) [_] _ (.inl rfl) rfl en60 rfl rfl (fun i=>.bool i.1) (fun i=>eyeL b13 i.2.1 (i.2.2)) (fun i=>(i.1=true→takT [118,97,114] (v.q)=some i.2.2)∧(i.1=false→takT [118,97,114] (v.q)=none∧v.q=i.2.2)∧i.2.2=takE [118,97,114] (v.q)∧i.1=(takT [118,97,114] (v.q)).isSome∧Sl rdTok 3 HT i.2.1.1 i.2.1.2 i.2.2) [HT] (by simp) (fun w hw=>take_any b13 HT r37 (v.q) [118,97,114] w hm37 hw) ?_
    intro ⟨b48,r48,q48⟩ ⟨h48t,h48f,hq48,hb48,hm48⟩
    simp only at hq48 hb48
    have go48:=takE_w [118,97,114] go37.ok
    rw [←hq48] at go48
    refine V0 (Ya rfl) ?_
    refine Ln (Et ?_)
    refine Cc rfl (fun hc3=>?_) (fun hc3=>?_)
    ·
     have ht48:takT _ _=some q48:=h48t hc3
     refine Cr ?_
     refine V0 (Ym rfl) ?_
     refine Lf 0 rfl ?_
     refine Lw (ι:=(Tx)×(Option Addr×Nat)×Tk) [_] _ (.inl rfl) rfl en61 rfl rfl (fun i=>st i.1) (fun i=>eyeL b13 i.2.1 (i.2.2)) (fun i=>namE (q48)=(i.1,i.2.2)∧Sl rdTok 3 HT i.2.1.1 i.2.1.2 i.2.2) [HT] (by simp) (fun w hw=>(ename_any b13 HT r48 (q48) w hm48 hw).mono fun e w' ⟨t,r2,q,h1,h2,h3,h4⟩=>⟨(t,r2,q),h1,⟨h2,h3⟩,h4⟩) ?_
     intro ⟨s50,r50,q50⟩ ⟨hq50,hm50⟩
     simp only at hq50
     have go50:=(namE_w go48.ok).1
     rw [hq50] at go50
     simp only at go50
     refine V0 (Yb zr53 pl53 rfl rfl) ?_
     refine Lst 1 (.inl rfl) rfl rfl rfl sz53 rfl rfl rfl ?_
     refine Lrb 1 (.cells (TDecl.cells ⟨2,s50,false,0⟩).toArray 53 (0,0)) rfl rfl ?_
     refine Ln (Eb (Et (Cs (Cr ?_))))
     refine V0 (Ym rfl) ?_
     refine Lf 0 rfl ?_
     refine Lw (ι:=Bool×(Option Addr×Nat)×Tk) [_] _ (.inl rfl) rfl en60 rfl rfl (fun i=>.bool i.1) (fun i=>eyeL b13 i.2.1 (i.2.2)) (fun i=>(i.1=true→takT [59] (q50)=some i.2.2)∧(i.1=false→takT [59] (q50)=none∧q50=i.2.2)∧i.2.2=takE [59] (q50)∧i.1=(takT [59] (q50)).isSome∧Sl rdTok 3 HT i.2.1.1 i.2.1.2 i.2.2) [HT] (by simp) (fun w hw=>take_any b13 HT r50 (q50) [59] w hm50 hw) ?_
     intro ⟨b66,r66,q66⟩ ⟨h66t,h66f,hq66,hb66,hm66⟩
     simp only at hq66 hb66
     have go66:=takE_w [59] go50.ok
     rw [←hq66] at go66
     refine Ln (Et (Cs (Cr ?_)))
     refine V0 (Ym rfl) ?_
     refine V0 (Yf fo53_2 rfl) ?_
     refine Lst 1 (.inl rfl) rfl rfl rfl sz4 rfl rfl rfl ?_
     refine Ln (Et (Cs (Cr ?_)))
     refine V0 (Yf fo27_2 rfl) ?_
     refine V0 (Yd 2 rfl rfl rfl na23) ?_
     refine V0 (Yda 1 rfl rfl ag53 rfl) ?_
     refine Lb (.inl rfl) rfl el23 rfl rfl rfl rfl fun b72=>?_
     refine Lrb 0 (.cells (TDecl.cells ⟨2,s50,v.pub,0⟩).toArray 53 (0,0)) rfl rfl ?_
     refine LA (⟨2,s50,v.pub,0⟩:TDecl) 5 0 (.inl rfl) rfl el23 rfl rfl rfl rfl rfl rfl (by omega) (by omega) fun a73 c73=>?_
     refine V0 (Yf fo27_2 rfl) ?_
     refine Lst 3 (.inl rfl) rfl rfl rfl sz23 rfl rfl rfl ?_
     refine Ln (Et (Cr ?_))
     refine V0 (Ym rfl) ?_
     refine Lf 1 rfl ?_
     refine Lw (ι:=Bool×(Option Addr×Nat)×Tk) [_] _ (.inl rfl) rfl en60 rfl rfl (fun i=>.bool i.1) (fun i=>eyeL b13 i.2.1 (i.2.2)) (fun i=>(i.1=true→takT [112,117,98] (q66)=some i.2.2)∧(i.1=false→takT [112,117,98] (q66)=none∧q66=i.2.2)∧i.2.2=takE [112,117,98] (q66)∧i.1=(takT [112,117,98] (q66)).isSome∧Sl rdTok 3 HT i.2.1.1 i.2.1.2 i.2.2) [HT] (by simp) (fun w hw=>take_any b13 HT r66 (q66) [112,117,98] w hm66 hw) ?_
     intro ⟨b76,r76,q76⟩ ⟨h76t,h76f,hq76,hb76,hm76⟩
     simp only at hq76 hb76
     have go76:=takE_w [112,117,98] go66.ok
     rw [←hq76] at go76
     refine V0 (Ya rfl) ?_
     refine Ln (Eb ?_)
     have hle:q76.length+1≤v.q.length:=by
       have:=takT_len ht48
       have:=go50.le
       have:=go66.le
       have:=go76.le
       omega
     have hD:declE v.pub v.q=(some (⟨2,s50,v.pub,0⟩:TDecl),q66):=declE_2 hn37 ht48 hq50 hq66
     have hP:=pubE_is hq76 hb76
     exact Ea (⟨v.ds++[⟨2,s50,v.pub,0⟩],a73,c73,v.go,b76,r76,q76⟩:GD2) (by show 2*q76.length+(if v.go=true then 1 else 0)<2*v.q.length+(if v.go=true then 1 else 0); omega) ⟨⟨by simp; omega,go76.ok⟩,hm76,n,(show q76.length<n by omega),by show _=if v.go=true then _ else _; rw [if_pos hgo,hB,declsE_more hD hP]; simp⟩ (sc rfl (sc rfl (sc rfl (sc rfl (sc rfl (sc rfl (sc rfl sn))))))) (fun _ h=>by
         have h:=h.fronti 7 rfl
         have h:=h.fronti 7 rfl
         have h:=h.fronti 7 rfl
         have h:=h.fronti 7 rfl
         have h:=h.fronti 7 rfl
         have h:=h.fronti 5 rfl
         have h:=Ws.keep (L:=[_,_,_,_,_,_]) h
         have h:=Ws.drops h (Vs':=[v0,HT]) (by simp)
         exact h)
    ·
     obtain ⟨hn48,hl48⟩:=h48f hc3
     simp only at hl48
     have go48_:=go48
     subst hl48
     refine Cs (Cr ?_)
     refine V0 (Ym rfl) ?_
     refine Lf 0 rfl ?_
     refine Lw (ι:=Bool×(Option Addr×Nat)×Tk) [_] _ (.inl rfl) rfl en60 rfl rfl (fun i=>.bool i.1) (fun i=>eyeL b13 i.2.1 (i.2.2)) (fun i=>(i.1=true→takT [97,114,114,97,121] (v.q)=some i.2.2)∧(i.1=false→takT [97,114,114,97,121] (v.q)=none∧v.q=i.2.2)∧i.2.2=takE [97,114,114,97,121] (v.q)∧i.1=(takT [97,114,114,97,121] (v.q)).isSome∧Sl rdTok 3 HT i.2.1.1 i.2.1.2 i.2.2) [HT] (by simp) (fun w hw=>take_any b13 HT r48 (v.q) [97,114,114,97,121] w hm48 hw) ?_
     intro ⟨b54,r54,q54⟩ ⟨h54t,h54f,hq54,hb54,hm54⟩
     simp only at hq54 hb54
     have go54:=takE_w [97,114,114,97,121] go48.ok
     rw [←hq54] at go54
     refine V0 (Ya rfl) ?_
     refine Ln (Et ?_)
     refine Cc rfl (fun hc4=>?_) (fun hc4=>?_)
     ·
      have ht54:takT _ _=some q54:=h54t hc4
      refine Cs (Cr ?_)
      refine V0 (Ym rfl) ?_
      refine Lf 0 rfl ?_
      refine Lw (ι:=(Tx)×(Option Addr×Nat)×Tk) [_] _ (.inl rfl) rfl en61 rfl rfl (fun i=>st i.1) (fun i=>eyeL b13 i.2.1 (i.2.2)) (fun i=>namE (q54)=(i.1,i.2.2)∧Sl rdTok 3 HT i.2.1.1 i.2.1.2 i.2.2) [HT] (by simp) (fun w hw=>(ename_any b13 HT r54 (q54) w hm54 hw).mono fun e w' ⟨t,r2,q,h1,h2,h3,h4⟩=>⟨(t,r2,q),h1,⟨h2,h3⟩,h4⟩) ?_
      intro ⟨s56,r56,q56⟩ ⟨hq56,hm56⟩
      simp only at hq56
      have go56:=(namE_w go54.ok).1
      rw [hq56] at go56
      simp only at go56
      refine V0 (Yb zr53 pl53 rfl rfl) ?_
      refine Lst 1 (.inl rfl) rfl rfl rfl sz53 rfl rfl rfl ?_
      refine Lrb 1 (.cells (TDecl.cells ⟨3,s56,false,0⟩).toArray 53 (0,0)) rfl rfl ?_
      refine Ln (Et (Cs (Cr ?_)))
      refine V0 (Ym rfl) ?_
      refine Lf 0 rfl ?_
      refine Lw (ι:=Bool×(Option Addr×Nat)×Tk) [_] _ (.inl rfl) rfl en60 rfl rfl (fun i=>.bool i.1) (fun i=>eyeL b13 i.2.1 (i.2.2)) (fun i=>(i.1=true→takT [91] (q56)=some i.2.2)∧(i.1=false→takT [91] (q56)=none∧q56=i.2.2)∧i.2.2=takE [91] (q56)∧i.1=(takT [91] (q56)).isSome∧Sl rdTok 3 HT i.2.1.1 i.2.1.2 i.2.2) [HT] (by simp) (fun w hw=>take_any b13 HT r56 (q56) [91] w hm56 hw) ?_
      intro ⟨b59,r59,q59⟩ ⟨h59t,h59f,hq59,hb59,hm59⟩
      simp only at hq59 hb59
      have go59:=takE_w [91] go56.ok
      rw [←hq59] at go59
      refine Ln (Et (Cs (Cr ?_)))
      refine V0 (Ym rfl) ?_
      refine Lf 0 rfl ?_
      refine Lw (ι:=(Int)×(Option Addr×Nat)×Tk) [_] _ (.inl rfl) rfl en62 rfl rfl (fun i=>.int .i64 i.1) (fun i=>eyeL b13 i.2.1 (i.2.2)) (fun i=>numE (q59)=(i.1,i.2.2)∧Sl rdTok 3 HT i.2.1.1 i.2.1.2 i.2.2) [HT] (by simp) (fun w hw=>(enum_any b13 HT r59 (q59) w hm59 hw).mono fun e w' ⟨t,r2,q,h1,h2,h3,h4⟩=>⟨(t,r2,q),h1,⟨h2,h3⟩,h4⟩) ?_
      intro ⟨n61,r61,q61⟩ ⟨hq61,hm61⟩
      simp only at hq61
      have go61:=numE_w go59.ok
      rw [hq61] at go61
      simp only at go61
      refine V0 (Yf fo53_3 rfl) ?_
      refine Lst 1 (.inl rfl) rfl rfl rfl sz3 rfl rfl rfl ?_
      refine Ln (Et (Cr ?_))
      refine V0 (Ym rfl) ?_
      refine Lf 0 rfl ?_
      refine Lw (ι:=Bool×(Option Addr×Nat)×Tk) [_] _ (.inl rfl) rfl en60 rfl rfl (fun i=>.bool i.1) (fun i=>eyeL b13 i.2.1 (i.2.2)) (fun i=>(i.1=true→takT [93] (q61)=some i.2.2)∧(i.1=false→takT [93] (q61)=none∧q61=i.2.2)∧i.2.2=takE [93] (q61)∧i.1=(takT [93] (q61)).isSome∧Sl rdTok 3 HT i.2.1.1 i.2.1.2 i.2.2) [HT] (by simp) (fun w hw=>take_any b13 HT r61 (q61) [93] w hm61 hw) ?_
      intro ⟨b64,r64,q64⟩ ⟨h64t,h64f,hq64,hb64,hm64⟩
      simp only at hq64 hb64
      have go64:=takE_w [93] go61.ok
      rw [←hq64] at go64
      refine Ln (Eb (Et (Cs (Cr ?_))))
      refine V0 (Ym rfl) ?_
      refine Lf 0 rfl ?_
      refine Lw (ι:=Bool×(Option Addr×Nat)×Tk) [_] _ (.inl rfl) rfl en60 rfl rfl (fun i=>.bool i.1) (fun i=>eyeL b13 i.2.1 (i.2.2)) (fun i=>(i.1=true→takT [59] (q64)=some i.2.2)∧(i.1=false→takT [59] (q64)=none∧q64=i.2.2)∧i.2.2=takE [59] (q64)∧i.1=(takT [59] (q64)).isSome∧Sl rdTok 3 HT i.2.1.1 i.2.1.2 i.2.2) [HT] (by simp) (fun w hw=>take_any b13 HT r64 (q64) [59] w hm64 hw) ?_
      intro ⟨b66,r66,q66⟩ ⟨h66t,h66f,hq66,hb66,hm66⟩
      simp only at hq66 hb66
      have go66:=takE_w [59] go64.ok
      rw [←hq66] at go66
      refine Ln (Et (Cs (Cr ?_)))
      refine V0 (Ym rfl) ?_
      refine V0 (Yf fo53_2 rfl) ?_
      refine Lst 1 (.inl rfl) rfl rfl rfl sz4 rfl rfl rfl ?_
      refine Ln (Et (Cs (Cr ?_)))
      refine V0 (Yf fo27_2 rfl) ?_
      refine V0 (Yd 2 rfl rfl rfl na23) ?_
      refine V0 (Yda 1 rfl rfl ag53 rfl) ?_
      refine Lb (.inl rfl) rfl el23 rfl rfl rfl rfl fun b72=>?_
      refine Lrb 0 (.cells (TDecl.cells ⟨3,s56,v.pub,n61⟩).toArray 53 (0,0)) rfl rfl ?_
      refine LA (⟨3,s56,v.pub,n61⟩:TDecl) 5 0 (.inl rfl) rfl el23 rfl rfl rfl rfl rfl rfl (by omega) (by omega) fun a73 c73=>?_
      refine V0 (Yf fo27_2 rfl) ?_
      refine Lst 3 (.inl rfl) rfl rfl rfl sz23 rfl rfl rfl ?_
      refine Ln (Et (Cr ?_))
      refine V0 (Ym rfl) ?_
      refine Lf 1 rfl ?_
      refine Lw (ι:=Bool×(Option Addr×Nat)×Tk) [_] _ (.inl rfl) rfl en60 rfl rfl (fun i=>.bool i.1) (fun i=>eyeL b13 i.2.1 (i.2.2)) (fun i=>(i.1=true→takT [112,117,98] (q66)=some i.2.2)∧(i.1=false→takT [112,117,98] (q66)=none∧q66=i.2.2)∧i.2.2=takE [112,117,98] (q66)∧i.1=(takT [112,117,98] (q66)).isSome∧Sl rdTok 3 HT i.2.1.1 i.2.1.2 i.2.2) [HT] (by simp) (fun w hw=>take_any b13 HT r66 (q66) [112,117,98] w hm66 hw) ?_
      intro ⟨b76,r76,q76⟩ ⟨h76t,h76f,hq76,hb76,hm76⟩
      simp only at hq76 hb76
      have go76:=takE_w [112,117,98] go66.ok
      rw [←hq76] at go76
      refine V0 (Ya rfl) ?_
      refine Ln (Eb ?_)
      have hle:q76.length+1≤v.q.length:=by
        have:=takT_len ht54
        have:=go56.le
        have:=go59.le
        have:=go61.le
        have:=go64.le
        have:=go66.le
        have:=go76.le
        omega
      have hD:declE v.pub v.q=(some (⟨3,s56,v.pub,n61⟩:TDecl),q66):=declE_3 hn37 hn48 ht54 hq56 hq59 hq61 hq64 hq66
      have hP:=pubE_is hq76 hb76
      exact Ea (⟨v.ds++[⟨3,s56,v.pub,n61⟩],a73,c73,v.go,b76,r76,q76⟩:GD2) (by show 2*q76.length+(if v.go=true then 1 else 0)<2*v.q.length+(if v.go=true then 1 else 0); omega) ⟨⟨by simp; omega,go76.ok⟩,hm76,n,(show q76.length<n by omega),by show _=if v.go=true then _ else _; rw [if_pos hgo,hB,declsE_more hD hP]; simp⟩ (sc rfl (sc rfl (sc rfl (sc rfl (sc rfl (sc rfl (sc rfl sn))))))) (fun _ h=>by
          have h:=h.fronti 7 rfl
          have h:=h.fronti 7 rfl
          have h:=h.fronti 7 rfl
          have h:=h.fronti 7 rfl
          have h:=h.fronti 7 rfl
          have h:=h.fronti 5 rfl
          have h:=Ws.keep (L:=[_,_,_,_,_,_]) h
          have h:=Ws.drops h (Vs':=[v0,HT]) (by simp)
          exact h)
     ·
      obtain ⟨hn54,hl54⟩:=h54f hc4
      simp only at hl54
      have go54_:=go54
      subst hl54
      refine Cs (Cr ?_)
      refine V0 (Ya rfl) ?_
      refine Ln (Et (Ce (Ebm rfl (Ex (Ebh ?_)))))
      have hD:declE v.pub v.q=(none,v.q):=declE_4 hn37 hn48 hn54
      exact Ea (⟨v.ds,v.a,v.c,false,v.pub,r54,v.q⟩:GD2) (by show 2*v.q.length+(if false=true then 1 else 0)<2*v.q.length+(if v.go=true then 1 else 0); rw [if_pos hgo,if_neg (by decide)]; omega) ⟨⟨hlen2,hokv⟩,hm54,n+1,hn,by rw [hB,declsE_end hD]; simp⟩ (sc rfl (sc rfl (sc rfl (sc rfl (sc rfl (sc rfl (sc rfl sn))))))) (fun _ h=>by
          have h:=h.fronti 6 rfl
          have h:=h.fronti 6 rfl
          have h:=h.fronti 6 rfl
          have h:=h.fronti 6 rfl
          have h:=h.fronti 6 rfl
          have h:=h.fronti 5 rfl
          have h:=Ws.keep (L:=[_,_,_,_,_,_]) h
          have h:=Ws.drops h (Vs':=[v0,HT]) (by simp)
          exact h)
  ·
   have hgo:v.go=false:=hc1
   obtain ⟨n,hn,hB⟩:=hB
   rw [if_neg (by rw [hgo]; decide)] at hB
   refine Ce (Ex (Ex (Ebh (Et (Cs ?_)))))
   refine Cb ?_
   refine CK (ι:=GM) (fun e=>[(6,.bool e.pub)]) [(0,_),(2,_),(3,_),(4,_),(5,_)] (fun e=>Ws w [] (eyeL b13 e.r e.q++[blk b5 (.cells (rowM s17 g.a g.us.length g.c v.a v.ds.length v.c e.a e.ps.length e.c none 0 0).toArray 27 (0,0)),osT 9 1 strC g.a g.c g.us,osT 53 4 TDecl.cells v.a v.c v.ds,osT 56 5 PX.cells e.a e.c e.ps,blk b2 (.cells (rowM [] none 0 0 none 0 0 none 0 0 none 0 0).toArray 27 (0,0))]) [e.J,HT]) (fun e=>(e.ps.length+e.q.length≤l.length∧Ok8 e.q)∧Sl rdTok 3 HT e.r.1 e.r.2 e.q∧(Fresh w e.J∧PXs8 e.J e.ps)∧∃n,e.q.length<n∧procsE (v.q.length+1) v.pub v.q=((e.ps.map (·.1)++(procsE n e.pub e.q).1.1,(procsE n e.pub e.q).1.2),(procsE n e.pub e.q).2)) (fun e=>e.q.length) ⟨[],none,0,v0,v.pub,v.r,v.q⟩ ⟨⟨by simp; omega,hokv⟩,hmv,⟨v0_fresh w,PXs8.nil _⟩,v.q.length+1,by simp,by simp⟩ (sc rfl (sc rfl (sc rfl (sc rfl (sc rfl (sc rfl sn)))))) (fun _ h=>by have h:=h.fronti 5 rfl; have h:=h.fronti 5 rfl; have h:=h.fronti 5 rfl; have h:=h.fronti 5 rfl; have h:=h.fronti 5 rfl; have h:=h.fronti 5 rfl; have h:=Ws.drops h (Vs':=[v0,HT]) (by simp); exact h) ?_
   intro e ⟨⟨hlen3,hoke⟩,hme,⟨hfJ,hPX⟩,hC⟩
   refine Cs (Cs (Cr ?_))
   refine V0 (Ym rfl) ?_
   refine Lf 0 rfl ?_
   refine Lw (ι:=Bool×(Option Addr×Nat)×Tk) [_] _ (.inl rfl) rfl en60 rfl rfl (fun i=>.bool i.1) (fun i=>eyeL b13 i.2.1 (i.2.2)) (fun i=>(i.1=true→takT [112,114,111,99] (e.q)=some i.2.2)∧(i.1=false→takT [112,114,111,99] (e.q)=none∧e.q=i.2.2)∧i.2.2=takE [112,114,111,99] (e.q)∧i.1=(takT [112,114,111,99] (e.q)).isSome∧Sl rdTok 3 HT i.2.1.1 i.2.1.2 i.2.2) [HT] (by simp) (fun w hw=>take_any b13 HT e.r (e.q) [112,114,111,99] w hme hw) ?_
   intro ⟨b78,r78,q78⟩ ⟨h78t,h78f,hq78,hb78,hm78⟩
   simp only at hq78 hb78
   have go78:=takE_w [112,114,111,99] hoke
   rw [←hq78] at go78
   refine Ln (Et ?_)
   refine Cc rfl (fun hc5=>?_) (fun hc5=>?_)
   ·
    have ht78:takT _ _=some q78:=h78t hc5
    obtain ⟨n,hn,hC⟩:=hC
    obtain ⟨n,rfl⟩:∃k,n=k+1:=⟨n-1,by omega⟩
    refine Ck (Et (Cb (Cs (Cr ?_))))
    refine V0 (Ym rfl) ?_
    refine V0 (Ym rfl) ?_
    refine Lf 0 rfl ?_
    refine Lw (ι:=(Tx)×(Option Addr×Nat)×Tk) [_] _ (.inl rfl) rfl en61 rfl rfl (fun i=>st i.1) (fun i=>eyeL b13 i.2.1 (i.2.2)) (fun i=>namE (q78)=(i.1,i.2.2)∧Sl rdTok 3 HT i.2.1.1 i.2.1.2 i.2.2) [HT] (by simp) (fun w hw=>(ename_any b13 HT r78 (q78) w hm78 hw).mono fun e w' ⟨t,r2,q,h1,h2,h3,h4⟩=>⟨(t,r2,q),h1,⟨h2,h3⟩,h4⟩) ?_
    intro ⟨s81,r81,q81⟩ ⟨hq81,hm81⟩
    simp only at hq81
    have go81:=(namE_w go78.ok).1
    rw [hq81] at go81
    simp only at go81
    refine V0 (Yb zr56 pl56 rfl rfl) ?_
    refine WL.alloc (.inl rfl) rfl zr56 fun b9=>?_
    refine Lst 0 (.inl rfl) rfl rfl rfl sz56 rfl rfl rfl ?_
    refine Lrb 0 (.cells (rowP s81 e.pub none 0 0 none 0 0 none 0 0).toArray 56 (0,0)) rfl rfl ?_
    refine LW (fun _ h=>h.osl_nil 9 1) ?_
    refine LW (fun _ h=>h.osl_nil 9 1) ?_
    refine Ln (Et (Cs (Cr ?_)))
    refine V0 (Ym rfl) ?_
    refine Lf 3 rfl ?_
    refine Lw (ι:=Bool×(Option Addr×Nat)×Tk) [_] _ (.inl rfl) rfl en60 rfl rfl (fun i=>.bool i.1) (fun i=>eyeL b13 i.2.1 (i.2.2)) (fun i=>(i.1=true→takT [40] (q81)=some i.2.2)∧(i.1=false→takT [40] (q81)=none∧q81=i.2.2)∧i.2.2=takE [40] (q81)∧i.1=(takT [40] (q81)).isSome∧Sl rdTok 3 HT i.2.1.1 i.2.1.2 i.2.2) [HT] (by simp) (fun w hw=>take_any b13 HT r81 (q81) [40] w hm81 hw) ?_
    intro ⟨b84,r84,q84⟩ ⟨h84t,h84f,hq84,hb84,hm84⟩
    simp only at hq84 hb84
    have go84:=takE_w [40] go81.ok
    rw [←hq84] at go84
    have hle84:q84.length≤4096:=by have:=takT_len ht78; have:=go81.le; have:=go84.le; omega
    refine Ln (Et ?_)
    refine WC.cutE (ι:=GN) (fun gk=>[(0,.slice r.1 l.length r.2),(2,.pointer (some ⟨b2,0,none⟩)),(3,.bool false),(4,.pointer (some ⟨b13,0,none⟩)),(5,.pointer (some ⟨b5,0,none⟩)),(9,.pointer (some ⟨b9,0,none⟩))]) (fun gk=>Ws w [] (eyeL b13 gk.r gk.q++[blk b9 (.cells (rowP s81 e.pub gk.a gk.ps.length gk.c none 0 0 none 0 0).toArray 56 (0,0)),osT 9 1 strC gk.a gk.c gk.ps,(osT 9 1 strC none 0 ([]:List Tx)),blk b5 (.cells (rowM s17 g.a g.us.length g.c v.a v.ds.length v.c e.a e.ps.length e.c none 0 0).toArray 27 (0,0)),osT 9 1 strC g.a g.c g.us,osT 53 4 TDecl.cells v.a v.c v.ds,osT 56 5 PX.cells e.a e.c e.ps,blk b2 (.cells (rowM [] none 0 0 none 0 0 none 0 0 none 0 0).toArray 27 (0,0))]) [e.J,HT]) (fun gk=>paramsE q84=(gk.ps,gk.q)∧Sl rdTok 3 HT gk.r.1 gk.r.2 gk.q∧Ok8 gk.q∧gk.q.length≤q84.length∧gk.ps.length≤q84.length+1) ?_ ?_
    ·
     refine Cs (Cr ?_)
     refine V0 (Ym rfl) ?_
     refine Lf 0 rfl ?_
     refine Lw (ι:=Bool×(Option Addr×Nat)×Tk) [_] _ (.inl rfl) rfl en60 rfl rfl (fun i=>.bool i.1) (fun i=>eyeL b13 i.2.1 (i.2.2)) (fun i=>(i.1=true→takT [41] (q84)=some i.2.2)∧(i.1=false→takT [41] (q84)=none∧q84=i.2.2)∧i.2.2=takE [41] (q84)∧i.1=(takT [41] (q84)).isSome∧Sl rdTok 3 HT i.2.1.1 i.2.1.2 i.2.2) [HT] (by simp) (fun w hw=>take_any b13 HT r84 (q84) [41] w hm84 hw) ?_
     intro ⟨b86,r86,q86⟩ ⟨h86t,h86f,hq86,hb86,hm86⟩
     simp only at hq86 hb86
     have go86:=takE_w [41] go84.ok
     rw [←hq86] at go86
     have hle86:q86.length≤4096:=by have:=go86.le; omega
     refine V0 (yl_not rfl) ?_
     refine Ln (Et ?_)
     refine Cc rfl (fun hc6=>?_) (fun hc6=>?_)
     ·
      obtain ⟨hn86,hl86⟩:=h86f (by simpa using hc6)
      simp only at hl86
      refine Cs (Cs (Cr ?_))
      refine V0 (Ya rfl) ?_
      refine Ln (Et (Cb ?_))
      refine CK (ι:=GH) (fun gh=>[(10,.bool gh.more)]) [(0,_),(2,_),(3,_),(4,_),(5,_),(6,_),(9,_)] (fun gh=>Ws w [] (eyeL b13 gh.r gh.q++[blk b9 (.cells (rowP s81 e.pub gh.a gh.ps.length gh.c none 0 0 none 0 0).toArray 56 (0,0)),osT 9 1 strC gh.a gh.c gh.ps,(osT 9 1 strC none 0 ([]:List Tx)),blk b5 (.cells (rowM s17 g.a g.us.length g.c v.a v.ds.length v.c e.a e.ps.length e.c none 0 0).toArray 27 (0,0)),osT 9 1 strC g.a g.c g.us,osT 53 4 TDecl.cells v.a v.c v.ds,osT 56 5 PX.cells e.a e.c e.ps,blk b2 (.cells (rowM [] none 0 0 none 0 0 none 0 0 none 0 0).toArray 27 (0,0))]) [e.J,HT]) (fun gh=>(gh.ps.length+gh.q.length≤q86.length+1∧(gh.more=true→gh.ps.length+gh.q.length≤q86.length)∧Ok8 gh.q)∧(gh.q.length≤q86.length∧Sl rdTok 3 HT gh.r.1 gh.r.2 gh.q)∧∃n,(gh.more=true→gh.q.length<n)∧paramsLE (q86.length+1) q86=(if gh.more=true then (gh.ps++(paramsLE n gh.q).1,(paramsLE n gh.q).2) else (gh.ps,gh.q))) (fun gh=>gh.q.length+(if gh.more=true then 1 else 0)) ⟨[],none,0,true,r86,q86⟩ ⟨⟨by simp,by simp,go86.ok⟩,⟨Nat.le_refl _,hm86⟩,q86.length+1,by simp,by simp⟩ (sc rfl (sc rfl (sc rfl (sc rfl (sc rfl (sc rfl (sc rfl (sc rfl sn)))))))) (fun _ h=>by have h:=h.fronti 8 rfl; have h:=h.fronti 8 rfl; have h:=h.fronti 8 rfl; have h:=h.fronti 8 rfl; have h:=h.fronti 8 rfl; have h:=h.fronti 7 rfl; have h:=h.fronti 7 rfl; have h:=h.fronti 8 rfl; have h:=h.fronti 8 rfl; exact h) ?_
      intro gh ⟨⟨hlh,hlh2,hokh⟩,⟨hlqh,hmh⟩,hD⟩
      refine Cs (Cs (Cr ?_))
      refine V0 (Ym rfl) ?_
      refine Ln (Et ?_)
      refine Cc rfl (fun hc7=>?_) (fun hc7=>?_)
      ·
       have hmo:gh.more=true:=hc7
       obtain ⟨n3,hn3,hD⟩:=hD
       have hn3:=hn3 hmo
       obtain ⟨n3,rfl⟩:∃k,n3=k+1:=⟨n3-1,by omega⟩
       rw [if_pos hmo] at hD
       refine Ck (Et (Cs (Cb ?_)))
       refine CU (fun _=>true) [0,1] [6,7] (.q false 0 (.q true 1 (.q false 2 (.e 3 (.e 4 (.e 5 .nil .stop) .stop) .stop)))) mixed (by kernel_rfl) (fun _ _ _ d _ _ h=>by cases d<;>exact h) ?_
       refine Uq rfl (.inl rfl) rfl (fun _ h=>by have h:=Ws.out 0 h; have h:=Ws.out 1 h; exact h) (Yf fo56_2 rfl) ?_
       refine Uq rfl (.inl rfl) rfl (fun _ h=>by have h:=Ws.out 0 h; have h:=Ws.out 1 h; exact h) (Yd 0 rfl rfl rfl na22) ?_
       refine Uq rfl (.inl rfl) rfl (fun _ h=>by have h:=Ws.out 0 h; have h:=Ws.out 1 h; exact h) (Ym rfl) ?_
       refine Ue rfl (fun _ h=>by have h:=Ws.out 0 h; have h:=Ws.out 1 h; exact h) ?_ WU.stop
       refine Lf 0 rfl ?_
       refine Lw (ι:=(Tx)×(Option Addr×Nat)×Tk) [_] _ (.inl rfl) rfl en61 rfl rfl (fun i=>st i.1) (fun i=>eyeL b13 i.2.1 (i.2.2)) (fun i=>namE (gh.q)=(i.1,i.2.2)∧Sl rdTok 3 HT i.2.1.1 i.2.1.2 i.2.2) [HT] (by simp) (fun w hw=>(ename_any b13 HT gh.r (gh.q) w hmh hw).mono fun e w' ⟨t,r2,q,h1,h2,h3,h4⟩=>⟨(t,r2,q),h1,⟨h2,h3⟩,h4⟩) ?_
       intro ⟨s94,r94,q94⟩ ⟨hq94,hm94⟩
       simp only at hq94
       have go94:=(namE_w hokh).1
       rw [hq94] at go94
       simp only at go94
       refine Ln (Eu ?_)
       refine Ue rfl (fun _ h=>by have h:=Ws.out 0 h; have h:=Ws.out 1 h; exact h) ?_ WU.stop
       refine Lb (.inl rfl) rfl el22 rfl rfl rfl rfl fun b95=>?_
       refine Lrb 0 (.cells (strC s94).toArray 9 (0,0)) rfl rfl ?_
       refine Ln (Eu ?_)
       refine Ue rfl (fun _ h=>by have h:=Ws.drop (L:=[_]) (L':=_) h; have h:=Ws.out 0 h; have h:=Ws.out 1 h; exact h) ?_ WU.stop
       refine LA (s94:Tx) 3 0 (.inl rfl) rfl el22 rfl rfl rfl rfl rfl rfl (by omega) (by omega) fun a96 c96=>?_
       refine Ln (Eu ?_)
       refine WU.nil (fun _ h=>by have h:=Ws.drop (L:=[_]) (L':=_) h; have h:=Ws.out 0 h; have h:=Ws.out 1 h; exact h) ?_
       refine WS.e rfl ?_
       refine V0 (Yf fo56_2 rfl) ?_
       refine Ln (Es ?_)
       refine WS.e rfl ?_
       refine Lst 2 (.inl rfl) rfl rfl rfl sz22 rfl rfl rfl ?_
       refine Ln (Es ?_)
       refine WS.nil ?_
       refine Eb (Et (Cr ?_))
       refine V0 (Ym rfl) ?_
       refine Lf 1 rfl ?_
       refine Lw (ι:=Bool×(Option Addr×Nat)×Tk) [_] _ (.inl rfl) rfl en60 rfl rfl (fun i=>.bool i.1) (fun i=>eyeL b13 i.2.1 (i.2.2)) (fun i=>(i.1=true→takT [44] (q94)=some i.2.2)∧(i.1=false→takT [44] (q94)=none∧q94=i.2.2)∧i.2.2=takE [44] (q94)∧i.1=(takT [44] (q94)).isSome∧Sl rdTok 3 HT i.2.1.1 i.2.1.2 i.2.2) [HT] (by simp) (fun w hw=>take_any b13 HT r94 (q94) [44] w hm94 hw) ?_
       intro ⟨b90,r90,q90⟩ ⟨h90t,h90f,hq90,hb90,hm90⟩
       simp only at hq90 hb90
       have go90:=takE_w [44] go94.ok
       rw [←hq90] at go90
       refine V0 (Ya rfl) ?_
       refine Ln ?_
       have hl2:=hlh2 hmo
       have hg94:=go94.le
       have hg90:=go90.le
       exact Ea (⟨gh.ps++[s94],a96,c96,b90,r90,q90⟩:GH) (by show q90.length+(if b90=true then 1 else 0)<gh.q.length+(if gh.more=true then 1 else 0); rw [if_pos hmo]; cases hb:b90 with
           | true=>have:=takT_len (show takT _ _=some q90 from h90t hb); rw [if_pos rfl]; omega
           | false=>rw [if_neg (by decide)]; omega) ⟨⟨by simp; omega,fun hb=>by have:=takT_len (show takT _ _=some q90 from h90t hb); simp at this ⊢; omega,go90.ok⟩,⟨by show q90.length≤q86.length; omega,hm90⟩,n3,(fun hb=>by have:=takT_len (show takT _ _=some q90 from h90t hb); show q90.length<n3; omega),by
           rw [hD]
           cases hb:b90 with
           | true=>rw [paramsLE_2 hq94 (h90t hb)]; simp
           | false=>rw [paramsLE_1 hq94 (h90f hb).1]; simp; exact (h90f hb).2⟩ (sc rfl (sc rfl (sc rfl (sc rfl (sc rfl (sc rfl (sc rfl (sc rfl sn)))))))) (fun _ h=>by
           have h:=h.fronti 9 rfl
           have h:=h.fronti 9 rfl
           have h:=h.fronti 9 rfl
           have h:=h.fronti 9 rfl
           have h:=h.fronti 9 rfl
           have h:=h.fronti 9 rfl
           have h:=h.fronti 9 rfl
           have h:=h.fronti 9 rfl
           have h:=h.fronti 8 rfl
           have h:=Ws.keep (L:=[_,_,_,_,_,_,_,_,_]) h
           have h:=Ws.drops h (Vs':=[e.J,HT]) (by simp)
           exact h)
      ·
       have hmo:gh.more=false:=hc7
       obtain ⟨n3,hn3,hD⟩:=hD
       rw [if_neg (by rw [hmo]; decide)] at hD
       refine Ce (Ex (Ex (Ebh (Et (Cr ?_)))))
       refine V0 (Ym rfl) ?_
       refine Lf 0 rfl ?_
       refine Lw (ι:=Bool×(Option Addr×Nat)×Tk) [_] _ (.inl rfl) rfl en60 rfl rfl (fun i=>.bool i.1) (fun i=>eyeL b13 i.2.1 (i.2.2)) (fun i=>(i.1=true→takT [41] (gh.q)=some i.2.2)∧(i.1=false→takT [41] (gh.q)=none∧gh.q=i.2.2)∧i.2.2=takE [41] (gh.q)∧i.1=(takT [41] (gh.q)).isSome∧Sl rdTok 3 HT i.2.1.1 i.2.1.2 i.2.2) [HT] (by simp) (fun w hw=>take_any b13 HT gh.r (gh.q) [41] w hmh hw) ?_
       intro ⟨b99,r99,q99⟩ ⟨h99t,h99f,hq99,hb99,hm99⟩
       simp only at hq99 hb99
       have go99:=takE_w [41] hokh
       rw [←hq99] at go99
       refine Ln ?_
       exact WE.meetE (⟨gh.ps,gh.a,gh.c,r99,q99⟩:GN) ⟨paramsE_2 hn86 (by rw [hl86]; exact hD) hq99,hm99,go99.ok,(by have:=go99.le; have:=congrArg List.length hl86; show q99.length≤q84.length; omega),(by have:=congrArg List.length hl86; show gh.ps.length≤q84.length+1; omega)⟩ (sc rfl (sc rfl (sc rfl (sc rfl (sc rfl (sc rfl sn)))))) (fun _ h=>by
         have h:=h.fronti 8 rfl
         have h:=h.fronti 8 rfl
         have h:=h.fronti 8 rfl
         have h:=h.fronti 8 rfl
         have h:=h.fronti 8 rfl
         have h:=h.fronti 8 rfl
         have h:=h.fronti 8 rfl
         have h:=h.fronti 8 rfl
         have h:=h.fronti 8 rfl
         exact h)
     ·
      have ht86:takT _ _=some q86:=h86t (by simpa using hc6)
      refine Ck ?_
      exact WE.meetE (⟨[],none,0,r86,q86⟩:GN) ⟨paramsE_1 ht86,hm86,go86.ok,go86.le,Nat.zero_le _⟩ (sc rfl (sc rfl (sc rfl (sc rfl (sc rfl (sc rfl sn)))))) (fun _ h=>by
        have h:=h.fronti 8 rfl
        have h:=h.fronti 8 rfl
        have h:=h.fronti 8 rfl
        have h:=h.fronti 8 rfl
        have h:=h.fronti 8 rfl
        have h:=h.fronti 7 rfl
        have h:=h.fronti 7 rfl
        have h:=h.fronti 8 rfl
        have h:=h.fronti 8 rfl
        exact h)
    intro gk ⟨hpk,hmk,hokk,hlek,hlpk⟩
    refine Cs (Cb ?_)
    refine CK (ι:=GN) (fun gu=>[]) [(0,_),(2,_),(3,_),(4,_),(5,_),(9,_)] (fun gu=>Ws w [] (eyeL b13 gu.r gu.q++[blk b9 (.cells (rowP s81 e.pub gk.a gk.ps.length gk.c gu.a gu.ps.length gu.c none 0 0).toArray 56 (0,0)),osT 9 1 strC gk.a gk.c gk.ps,osT 9 1 strC gu.a gu.c gu.ps,blk b5 (.cells (rowM s17 g.a g.us.length g.c v.a v.ds.length v.c e.a e.ps.length e.c none 0 0).toArray 27 (0,0)),osT 9 1 strC g.a g.c g.us,osT 53 4 TDecl.cells v.a v.c v.ds,osT 56 5 PX.cells e.a e.c e.ps,blk b2 (.cells (rowM [] none 0 0 none 0 0 none 0 0 none 0 0).toArray 27 (0,0))]) [e.J,HT]) (fun gu=>(gu.ps.length+gu.q.length≤gk.q.length∧Ok8 gu.q)∧Sl rdTok 3 HT gu.r.1 gu.r.2 gu.q∧∃n,gu.q.length<n∧locsE (gk.q.length+1) gk.q=(gu.ps++(locsE n gu.q).1,(locsE n gu.q).2)) (fun gu=>gu.q.length) ⟨[],none,0,gk.r,gk.q⟩ ⟨⟨by simp,hokk⟩,hmk,gk.q.length+1,by simp,by simp⟩ (sc rfl (sc rfl (sc rfl (sc rfl (sc rfl (sc rfl sn)))))) (fun _ h=>h) ?_
    intro gu ⟨⟨hlu,hoku⟩,hmu,hE⟩
    refine Cs (Cs (Cr ?_))
    refine V0 (Ym rfl) ?_
    refine Lf 0 rfl ?_
    refine Lw (ι:=Bool×(Option Addr×Nat)×Tk) [_] _ (.inl rfl) rfl en60 rfl rfl (fun i=>.bool i.1) (fun i=>eyeL b13 i.2.1 (i.2.2)) (fun i=>(i.1=true→takT [108,111,99,97,108] (gu.q)=some i.2.2)∧(i.1=false→takT [108,111,99,97,108] (gu.q)=none∧gu.q=i.2.2)∧i.2.2=takE [108,111,99,97,108] (gu.q)∧i.1=(takT [108,111,99,97,108] (gu.q)).isSome∧Sl rdTok 3 HT i.2.1.1 i.2.1.2 i.2.2) [HT] (by simp) (fun w hw=>take_any b13 HT gu.r (gu.q) [108,111,99,97,108] w hmu hw) ?_
    intro ⟨b101,r101,q101⟩ ⟨h101t,h101f,hq101,hb101,hm101⟩
    simp only at hq101 hb101
    have go101:=takE_w [108,111,99,97,108] hoku
    rw [←hq101] at go101
    refine Ln (Et ?_)
    refine Cc rfl (fun hc8=>?_) (fun hc8=>?_)
    ·
     have ht101:takT _ _=some q101:=h101t hc8
     obtain ⟨n4,hn4,hE⟩:=hE
     obtain ⟨n4,rfl⟩:∃k,n4=k+1:=⟨n4-1,by omega⟩
     refine Ck (Et (Cb (Cs ?_)))
     refine CU (fun _=>true) [0,2] [6,7] (.q false 0 (.q true 1 (.q false 2 (.e 3 (.e 4 (.e 5 .nil .stop) .stop) .stop)))) mixed (by kernel_rfl) (fun _ _ _ d _ _ h=>by cases d<;>exact h) ?_
     refine Uq rfl (.inl rfl) rfl (fun _ h=>by have h:=Ws.out 0 h; have h:=Ws.out 2 h; exact h) (Yf fo56_3 rfl) ?_
     refine Uq rfl (.inl rfl) rfl (fun _ h=>by have h:=Ws.out 0 h; have h:=Ws.out 2 h; exact h) (Yd 0 rfl rfl rfl na22) ?_
     refine Uq rfl (.inl rfl) rfl (fun _ h=>by have h:=Ws.out 0 h; have h:=Ws.out 2 h; exact h) (Ym rfl) ?_
     refine Ue rfl (fun _ h=>by have h:=Ws.out 0 h; have h:=Ws.out 2 h; exact h) ?_ WU.stop
     refine Lf 0 rfl ?_
     refine Lw (ι:=(Tx)×(Option Addr×Nat)×Tk) [_] _ (.inl rfl) rfl en61 rfl rfl (fun i=>st i.1) (fun i=>eyeL b13 i.2.1 (i.2.2)) (fun i=>namE (q101)=(i.1,i.2.2)∧Sl rdTok 3 HT i.2.1.1 i.2.1.2 i.2.2) [HT] (by simp) (fun w hw=>(ename_any b13 HT r101 (q101) w hm101 hw).mono fun e w' ⟨t,r2,q,h1,h2,h3,h4⟩=>⟨(t,r2,q),h1,⟨h2,h3⟩,h4⟩) ?_
     intro ⟨s105,r105,q105⟩ ⟨hq105,hm105⟩
     simp only at hq105
     have go105:=(namE_w go101.ok).1
     rw [hq105] at go105
     simp only at go105
     refine Ln (Eu ?_)
     refine Ue rfl (fun _ h=>by have h:=Ws.out 0 h; have h:=Ws.out 2 h; exact h) ?_ WU.stop
     refine Lb (.inl rfl) rfl el22 rfl rfl rfl rfl fun b106=>?_
     refine Lrb 0 (.cells (strC s105).toArray 9 (0,0)) rfl rfl ?_
     refine Ln (Eu ?_)
     refine Ue rfl (fun _ h=>by have h:=Ws.drop (L:=[_]) (L':=_) h; have h:=Ws.out 0 h; have h:=Ws.out 2 h; exact h) ?_ WU.stop
     refine LA (s105:Tx) 4 0 (.inl rfl) rfl el22 rfl rfl rfl rfl rfl rfl (by omega) (by omega) fun a107 c107=>?_
     refine Ln (Eu ?_)
     refine WU.nil (fun _ h=>by have h:=Ws.drop (L:=[_]) (L':=_) h; have h:=Ws.out 0 h; have h:=Ws.out 2 h; exact h) ?_
     refine WS.e rfl ?_
     refine V0 (Yf fo56_3 rfl) ?_
     refine Ln (Es ?_)
     refine WS.e rfl ?_
     refine Lst 2 (.inl rfl) rfl rfl rfl sz22 rfl rfl rfl ?_
     refine Ln (Es ?_)
     refine WS.nil ?_
     refine Et (Cr ?_)
     refine V0 (Ym rfl) ?_
     refine Lf 1 rfl ?_
     refine Lw (ι:=Bool×(Option Addr×Nat)×Tk) [_] _ (.inl rfl) rfl en60 rfl rfl (fun i=>.bool i.1) (fun i=>eyeL b13 i.2.1 (i.2.2)) (fun i=>(i.1=true→takT [59] (q105)=some i.2.2)∧(i.1=false→takT [59] (q105)=none∧q105=i.2.2)∧i.2.2=takE [59] (q105)∧i.1=(takT [59] (q105)).isSome∧Sl rdTok 3 HT i.2.1.1 i.2.1.2 i.2.2) [HT] (by simp) (fun w hw=>take_any b13 HT r105 (q105) [59] w hm105 hw) ?_
     intro ⟨b110,r110,q110⟩ ⟨h110t,h110f,hq110,hb110,hm110⟩
     simp only at hq110 hb110
     have go110:=takE_w [59] go105.ok
     rw [←hq110] at go110
     refine Ln (Eb ?_)
     exact Ea (⟨gu.ps++[s105],a107,c107,r110,q110⟩:GN) (by have:=takT_len ht101; have:=go105.le; have:=go110.le; show q110.length<gu.q.length; omega) ⟨⟨by have:=takT_len ht101; have:=go105.le; have:=go110.le; simp; omega,go110.ok⟩,hm110,n4,(show q110.length<n4 by have:=takT_len ht101; have:=go105.le; have:=go110.le; omega),by rw [hE,locsE_more ht101 hq105 hq110]; simp⟩ (sc rfl (sc rfl (sc rfl (sc rfl (sc rfl (sc rfl sn)))))) (fun _ h=>by
         have h:=h.fronti 9 rfl
         have h:=h.fronti 9 rfl
         have h:=h.fronti 9 rfl
         have h:=h.fronti 9 rfl
         have h:=h.fronti 9 rfl
         have h:=h.fronti 9 rfl
         have h:=h.fronti 9 rfl
         have h:=h.fronti 9 rfl
         have h:=h.fronti 8 rfl
         have h:=Ws.keep (L:=[_,_,_,_,_,_,_,_,_]) h
         have h:=Ws.drops h (Vs':=[e.J,HT]) (by simp)
         exact h)
    ·
     obtain ⟨hn101,hl101⟩:=h101f hc8
     simp only at hl101
     obtain ⟨n4,hn4,hE⟩:=hE
     rw [locsE_end hn101] at hE
     simp only [List.append_nil] at hE
     rw [hl101] at hE
     refine Ce (Ex (Ex (Ebh (Et (Cs ?_)))))
     refine Cr ?_
     refine V0 (Ym rfl) ?_
     refine Lf 0 rfl ?_
     refine Lwd (ι:=((List TStmt)×(Option Addr×Nat))×(Option Addr×Nat)×Tk) [_] _ (.inl rfl) rfl en63 rfl rfl (fun i=>.slice i.1.2.1 i.1.1.length i.1.2.2) (fun i=>eyeL b13 i.2.1 (i.2.2)) (fun F i=>blockE 6 (q101)=(i.1.1,i.2.2)∧Sl (RdS 8 6) 6 F i.1.2.1 i.1.2.2 i.1.1∧Sl rdTok 3 HT i.2.1.1 i.2.1.2 i.2.2) ([HT]) (by simp) (fun _ _ h=>h) (fun w hw=>(eblock_any HT 6 b13 r101 (q101) (1) w (by omega) hm101 hw).mono fun e w' ⟨x,s,r2,q,h1,h2,h3,h4,h5⟩=>⟨((x,s),r2,q),h1,⟨h2,h3,h4⟩,h5⟩) ?_
     intro F112 ⟨⟨b_112,s112⟩,r112,q112⟩ hf112 ⟨hq112,hx112,hm112⟩
     simp only at hq112
     have go112:=(blockE_w 6 _ go101.ok).toGo1
     rw [hq112] at go112
     simp only at go112
     refine V0 (Yf fo56_4 rfl) ?_
     refine Lst 1 (.inl rfl) rfl rfl rfl sz25 rfl rfl rfl ?_
     refine Ln (Et (Cs ?_))
     refine WC.oslN (rd:=rdStr) 2 rfl (fun _ hk=>by cases hk) strC_len (fun _ _ _ _ h=>h) fun KP_ fKP_ hKP_=>?_
     refine WC.oslN (rd:=rdStr) 2 rfl (fun _ hk=>by cases hk) strC_len (fun _ _ _ _ h=>h) fun KL_ fKL_ hKL_=>?_
     refine WC.vjoin fun M1 M1a M1b M1f=>?_
     refine WC.vjoin fun M2 M2a M2b M2f=>?_
     refine WC.vjoin fun M3 M3a M3b M3f=>?_
     have hSP:SlP8 M3 (⟨s81,e.pub,gk.ps,gu.ps,b_112⟩:TProc) (⟨(gk.a,gk.c),(gu.a,gu.c),s112⟩:PAt):=⟨slStr_mv hKP_ (VLe.trans M1b (VLe.trans M2a M3a)),slStr_mv hKL_ (VLe.trans M1a (VLe.trans M2a M3a)),slS8_mv hx112 (VLe.trans M2b M3a)⟩
     refine Cr ?_
     refine V0 (Yf fo27_3 rfl) ?_
     refine V0 (Yd 2 rfl rfl rfl na24) ?_
     refine V0 (Yda 1 rfl rfl ag56 rfl) ?_
     refine Lb (.inl rfl) rfl el24 rfl rfl rfl rfl fun b117=>?_
     refine Lrb 0 (.cells (PX.cells ((⟨s81,e.pub,gk.ps,gu.ps,b_112⟩:TProc),(⟨(gk.a,gk.c),(gu.a,gu.c),s112⟩:PAt))).toArray 56 (0,0)) rfl rfl ?_
     refine LA ((((⟨s81,e.pub,gk.ps,gu.ps,b_112⟩:TProc),(⟨(gk.a,gk.c),(gu.a,gu.c),s112⟩:PAt)):PX)) 6 0 (.inl rfl) rfl el24 rfl rfl rfl rfl rfl rfl (by omega) (by omega) fun a118 c118=>?_
     refine V0 (Yf fo27_3 rfl) ?_
     refine Lst 3 (.inl rfl) rfl rfl rfl sz24 rfl rfl rfl ?_
     refine Ln (Et (Cr ?_))
     refine V0 (Ym rfl) ?_
     refine Lf 1 rfl ?_
     refine Lw (ι:=Bool×(Option Addr×Nat)×Tk) [_] _ (.inl rfl) rfl en60 rfl rfl (fun i=>.bool i.1) (fun i=>eyeL b13 i.2.1 (i.2.2)) (fun i=>(i.1=true→takT [112,117,98] (q112)=some i.2.2)∧(i.1=false→takT [112,117,98] (q112)=none∧q112=i.2.2)∧i.2.2=takE [112,117,98] (q112)∧i.1=(takT [112,117,98] (q112)).isSome∧Sl rdTok 3 HT i.2.1.1 i.2.1.2 i.2.2) [HT] (by simp) (fun w hw=>take_any b13 HT r112 (q112) [112,117,98] w hm112 hw) ?_
     intro ⟨b121,r121,q121⟩ ⟨h121t,h121f,hq121,hb121,hm121⟩
     simp only at hq121 hb121
     have go121:=takE_w [112,117,98] go112.ok
     rw [←hq121] at go121
     refine V0 (Ya rfl) ?_
     refine Ln (Eb ?_)
     exact Ea (⟨e.ps++[((⟨s81,e.pub,gk.ps,gu.ps,b_112⟩:TProc),(⟨(gk.a,gk.c),(gu.a,gu.c),s112⟩:PAt))],a118,c118,M3,b121,r121,q121⟩:GM) (by have:=takT_len ht78; have:=go81.le; have:=go84.le; have:=go112.le; have:=go121.le; have:=congrArg List.length hl101; show q121.length<e.q.length; omega) ⟨⟨by have:=takT_len ht78; have:=go81.le; have:=go84.le; have:=go112.le; have:=go121.le; have:=congrArg List.length hl101; simp; omega,go121.ok⟩,hm121,⟨M3f w (M2f w (M1f w fKL_ fKP_) hf112) hfJ,PXs8.snoc hPX M3b (VLe.refl _) hSP⟩,n,(show q121.length<n by have:=takT_len ht78; have:=go81.le; have:=go84.le; have:=go112.le; have:=go121.le; have:=congrArg List.length hl101; omega),by rw [hC,procsE_more ht78 (procE_is hq81 hq84 hpk hE hq112) (pubE_is hq121 hb121)]; simp⟩ (sc rfl (sc rfl (sc rfl (sc rfl (sc rfl (sc rfl sn)))))) (fun _ h=>by
         have h:=h.fronti 7 rfl
         have h:=h.fronti 7 rfl
         have h:=h.fronti 7 rfl
         have h:=h.fronti 7 rfl
         have h:=h.fronti 7 rfl
         have h:=h.fronti 5 rfl
         have h:=Ws.keep (L:=[_,_,_,_,_,_]) h
         have h:=Ws.drops h (Vs':=[M3,HT]) (by simp)
         exact h)
   ·
    obtain ⟨hn78,hl78⟩:=h78f hc5
    simp only at hl78
    obtain ⟨n,hn,hC⟩:=hC
    obtain ⟨n,rfl⟩:∃k,n=k+1:=⟨n-1,by omega⟩
    rw [procsE_end hn78] at hC
    simp only [List.append_nil] at hC
    rw [hl78] at hC
    refine Ce (Ex (Ex (Ebh (Et (Cs ?_)))))
    refine Cr ?_
    refine V0 (Ym rfl) ?_
    refine Lf 0 rfl ?_
    refine Lw (ι:=Bool×(Option Addr×Nat)×Tk) [_] _ (.inl rfl) rfl en60 rfl rfl (fun i=>.bool i.1) (fun i=>eyeL b13 i.2.1 (i.2.2)) (fun i=>(i.1=true→takT [109,97,105,110] (q78)=some i.2.2)∧(i.1=false→takT [109,97,105,110] (q78)=none∧q78=i.2.2)∧i.2.2=takE [109,97,105,110] (q78)∧i.1=(takT [109,97,105,110] (q78)).isSome∧Sl rdTok 3 HT i.2.1.1 i.2.1.2 i.2.2) [HT] (by simp) (fun w hw=>take_any b13 HT r78 (q78) [109,97,105,110] w hm78 hw) ?_
    intro ⟨b123,r123,q123⟩ ⟨h123t,h123f,hq123,hb123,hm123⟩
    simp only at hq123 hb123
    have go123:=takE_w [109,97,105,110] go78.ok
    rw [←hq123] at go123
    refine Ln (Et (Cs (Cr ?_)))
    refine V0 (Ym rfl) ?_
    refine Lf 0 rfl ?_
    refine Lwd (ι:=((List TStmt)×(Option Addr×Nat))×(Option Addr×Nat)×Tk) [_] _ (.inl rfl) rfl en63 rfl rfl (fun i=>.slice i.1.2.1 i.1.1.length i.1.2.2) (fun i=>eyeL b13 i.2.1 (i.2.2)) (fun F i=>blockE 6 (q123)=(i.1.1,i.2.2)∧Sl (RdS 8 6) 6 F i.1.2.1 i.1.2.2 i.1.1∧Sl rdTok 3 HT i.2.1.1 i.2.1.2 i.2.2) ([HT]) (by simp) (fun _ _ h=>h) (fun w hw=>(eblock_any HT 6 b13 r123 (q123) (1) w (by omega) hm123 hw).mono fun e w' ⟨x,s,r2,q,h1,h2,h3,h4,h5⟩=>⟨((x,s),r2,q),h1,⟨h2,h3,h4⟩,h5⟩) ?_
    intro F125 ⟨⟨b_125,s125⟩,r125,q125⟩ hf125 ⟨hq125,hx125,hm125⟩
    simp only at hq125
    have go125:=(blockE_w 6 _ go123.ok).toGo1
    rw [hq125] at go125
    simp only at go125
    refine V0 (Yf fo27_4 rfl) ?_
    refine Lst 1 (.inl rfl) rfl rfl rfl sz25 rfl rfl rfl ?_
    refine Ln (Et (Cs (Cs ?_)))
    refine WC.oslN (rd:=rdStr) 2 rfl (fun _ hk=>by cases hk) strC_len (fun _ _ _ _ h=>h) fun KU fKU hKU=>?_
    refine WC.oslN (rd:=rdDecl) 2 rfl (fun _ hk=>by cases hk) TDecl.cells_len (fun _ _ _ _ h=>h) fun KD fKD hKD=>?_
    refine WC.oslN (rd:=rdPX) 2 rfl (fun _ hk=>by cases hk) PX.cells_len (fun _ _ _ _ h=>h) fun KP fKP hKP=>?_
    refine WC.vjoin fun N1 N1a N1b N1f=>?_
    refine WC.vjoin fun N2 N2a N2b N2f=>?_
    refine WC.vjoin fun N3 N3a N3b N3f=>?_
    refine WC.vjoin fun N4 N4a N4b N4f=>?_
    have hM:=modE_is hq15 hq17 hq20 hA (pubE_is hq33 hb33) hB hC hq123 hq125
    have hMw:=modE_w (ok8_of hok)
    have hM1:(modE l).1=(⟨s17,g.us,v.ds,e.ps.map (·.1),b_125⟩:TMod):=by rw [hM]
    have hRM:RdM 8 6 N4 (⟨g.a,g.c,v.a,v.c,e.a,e.c,s125.1,s125.2⟩:MAt) (modE l).1:=by
      rw [hM1]
      exact ⟨slStr_mv hKU (VLe.trans N2b (VLe.trans N3a N4a)),slDecl_mv hKD (VLe.trans N1b (VLe.trans N2a (VLe.trans N3a N4a))),slP8_of hKP (VLe.trans N1a (VLe.trans N2a (VLe.trans N3a N4a))) N4b hPX,slS8_mv hx125 (VLe.trans N3b N4a)⟩
    have hfN:Fresh w N4:=N4f w (N3f w (N2f w (N1f w fKP fKD) fKU) hf125) hfJ
    have hwM:wM (modE l).1≤109951162777:=by omega
    refine Crb 1 (.cells (modV (modE l).1 (⟨g.a,g.c,v.a,v.c,e.a,e.c,s125.1,s125.2⟩:MAt)).toArray 27 (0,0)) rfl (by rw [hM1]; simp only [modV,List.length_map]; rfl) ?_
    refine Cr ?_
    refine V0 (Yda 1 rfl rfl ag27 rfl) ?_
    refine Lp (.inl rfl) rfl en8 rfl (fun w hw=>checkModule_any N4 8 6 (⟨g.a,g.c,v.a,v.c,e.a,e.c,s125.1,s125.2⟩:MAt) (modE l).1 w (hw.vs _ (by simp)) hRM hwM) ?_
    refine V0 (yl_ne rfl rfl) ?_
    refine V0 (Ym rfl) ?_
    apply WL.or 5 (x:=(modT (modE l).1 != joinT l)) rfl rfl rfl rfl (.inl rfl) rfl rfl rfl rfl rfl
    ·
     intro hg0
     have hck:checkL (modE l).1=0:=by simpa using hg0
     obtain ⟨htot,hlim⟩:=modT_lim hck hwM
     refine Lv (.g rfl rfl rfl) rfl (Yda 1 rfl rfl ag27 rfl) ?_
     refine Lp (.g rfl rfl rfl) rfl en10 rfl (fun w hw=>moduleText_any N4 8 6 (⟨g.a,g.c,v.a,v.c,e.a,e.c,s125.1,s125.2⟩:MAt) (modE l).1 w (hw.vs _ (by simp)) hRM htot hlim) ?_
     refine Lv (.g rfl rfl rfl) rfl (Ym rfl) ?_
     refine Lp (.g rfl rfl rfl) rfl en64 rfl (fun w hw=>toksText_any HT r.1 r.2 l w (hw.vs _ (by simp)) hm hok h4) ?_
     refine Lv (.g rfl rfl rfl) rfl (yl_nes rfl rfl) ?_
     exact Gt 5 rfl rfl rfl
    refine Ln (Et ?_)
    refine Cc rfl (fun hc9=>?_) (fun hc9=>?_)
    ·
     have hF:fromT l=(noMod,false):=by
       refine if_neg ?_
       rintro ⟨h1,h2⟩
       simp [h1,h2] at hc9
     refine Cs (Cr ?_)
     refine V0 (Yb zr27 pl27 rfl rfl) ?_
     refine Lst 2 (.inl rfl) rfl rfl rfl sz27 rfl rfl rfl ?_
     refine V0 (Ya rfl) ?_
     refine Ln (Et (Crt (Er ?_)))
     refine WE.retc2 2 rfl rfl rfl rfl ag27 rfl fun w' hw=>?_
     rw [hF]
     exact ⟨noAt,rfl,hw.fr,noMod_rd8 _⟩
    ·
     have hF:fromT l=((modE l).1,true):=by
       refine if_pos ?_
       simpa using hc9
     refine Ck (Et (Cs (Cr ?_)))
     refine V0 (Yda 1 rfl rfl ag27 rfl) ?_
     refine Lst 2 (.inl rfl) rfl rfl rfl sz27 rfl rfl rfl ?_
     refine V0 (Ya rfl) ?_
     refine Ln (Et (Crt ?_))
     refine WE.retc2 2 rfl rfl rfl rfl ag27 rfl fun w' hw=>?_
     rw [hF]
     exact ⟨(⟨g.a,g.c,v.a,v.c,e.a,e.c,s125.1,s125.2⟩:MAt),rfl,hw.fr,rdM_mv hRM (nv_vs hw (by simp) hfN)⟩
end Go.Proofs.YtjfldjidhkfnbaaGreatDoor
end
section
namespace Go.Proofs.YtjfldjidhkfnbaaGreatDoor
open Go.Bw
set_option linter.unusedVariables false
set_option linter.unusedSimpArgs false
theorem parseD_err {s:Tx} (h:¬(lexR s).2=0):parseD s=(noMod,(lexR s).2):=by rw [parseD,if_pos h]
theorem parseD_no {s:Tx} (h:(lexR s).2=0) (h2:(fromT (lexR s).1).2=false):parseD s=(noMod,1):=by
 rw [parseD,if_neg (by simp [h])]
 unfold fromT at h2
 split at h2
 · cases h2
 · rename_i h3; rw [if_neg h3]
theorem parseD_yes {s:Tx} (h:(lexR s).2=0) (h2:(fromT (lexR s).1).2=true):parseD s=((fromT (lexR s).1).1,0):=by
 rw [parseD,if_neg (by simp [h])]
 unfold fromT at h2 ⊢
 split at h2
 · rename_i h3; rw [if_pos h3,if_pos h3]
 · cases h2
theorem en65:Enters Tryz.prog 65:=enters_of Tryz.func65 (by kernel_rfl) rfl
theorem en35:Enters Tryz.prog 35:=enters_of Tryz.func35 (by kernel_rfl) rfl
theorem fl53:flatSt Tryz.prog 53=some [0,1,2,0]:=by kernel_rfl
theorem ub4:Tryz.prog.underlying 4=some .bool:=by kernel_rfl
theorem en34:Enters Tryz.prog 34:=enters_of Tryz.func34 (by kernel_rfl) rfl
theorem en32:Enters Tryz.prog 32:=enters_of Tryz.func32 (by kernel_rfl) rfl
theorem en33:Enters Tryz.prog 33:=enters_of Tryz.func33 (by kernel_rfl) rfl
theorem sameTexts_eq (H1 H2:View) (a1 a2:Option Addr) (c1 c2:Nat) (l:List Tx) (w:World) (hH1:Le H1 w) (hH2:Le H2 w) (hm1:Sl rdStr 1 H1 a1 c1 l) (hm2:Sl rdStr 1 H2 a2 c2 l) :
   Calls Tryz.prog 34 #[.slice a1 l.length c1,.slice a2 l.length c2] w fun e w'=>e = .returned (.bool true)∧Ext w w':=by
 have hcap1:=hm1.cap
 have hmax1:=hm1.max
 have hcap2:=hm2.cap
 have hmax2:=hm2.max
 refine enter Tryz.func34 rfl 26 rfl rfl ?_
 refine CWd (W':=Ws w [] [] [H1,H2]) (fun _ e=>by subst e; exact Ws.init (by simp [hH1,hH2])) ?_
 refine Cs (Cr ?_)
 refine V0 (Ya rfl) ?_
 refine Ln (Et (Cs (Cs (Cr ?_))))
 refine V0 (Ym rfl) ?_
 refine V0 (Yn es22 rfl) ?_
 refine V0 (Ym rfl) ?_
 refine V0 (Yn es22 rfl) ?_
 refine V0 (yl_neY rfl rfl rfl) ?_
 refine Ln (Et ?_)
 refine WC.condf rfl ?_
 refine Ck (Et (Cs (Cs (Cr ?_))))
 refine V0 (Ya rfl) ?_
 refine Ln (Et (Cb ?_))
 refine CW (ι:=Nat) (fun i=>[(5,.int .i64 (i:Int))]) [(0,_),(1,_)] (fun i=>i≤l.length) (fun i=>l.length-i) 0 (Nat.zero_le _) (sc rfl (sc rfl (sc rfl sn))) ?_
 intro i hi
 refine Cs (Cs (Cr ?_))
 refine V0 (Ym rfl) ?_
 refine V0 (Ym rfl) ?_
 refine V0 (Yn es22 rfl) ?_
 refine V0 (yl_lt rfl rfl) ?_
 refine Ln (Et ?_)
 refine Cc rfl (fun hc1=>?_) (fun hc1=>?_)
 ·
  have hlt:i<l.length:=by simpa using hc1
  obtain ⟨x,hx⟩:∃x,l[i]? = some x:=⟨_,List.getElem?_eq_getElem hlt⟩
  obtain ⟨pb,po,ha1,hr1⟩:=hm1.elt i x hx
  obtain ⟨qb,qo,ha2,hr2⟩:=hm2.elt i x hx
  have hr1:RdC H1 pb (po+i*1) (strC x):=hr1
  have hr2:RdC H2 qb (qo+i*1) (strC x):=hr2
  refine Ck (Et (Cs (Cb (Cs ?_))))
  refine WC.draws0 [(0,true),(1,true),(2,true),(3,true),(4,true),(5,true),(6,true),(7,true),(8,true)] mixed (by kernel_rfl) (fun _ _ _ d _ h=>by cases d<;>exact h) ?_
  refine Dq rfl (.inl rfl) rfl (fun _ h=>h) (Ym rfl) ?_
  refine Dq rfl (.inl rfl) rfl (fun _ h=>h) (Ym rfl) ?_
  refine Dq rfl (.inl rfl) rfl (fun _ h=>h) (Yo es22 rfl rfl ha1 (by omega)) ?_
  refine Dq rfl (.inl rfl) rfl (fun _ h=>h) (yl_ld 0 na9 rfl rfl (hr1 0 _ rfl)) ?_
  refine Dq rfl (.inl rfl) rfl (fun _ h=>h) (Ym rfl) ?_
  refine Dq rfl (.inl rfl) rfl (fun _ h=>h) (Ym rfl) ?_
  refine Dq rfl (.inl rfl) rfl (fun _ h=>h) (Yo es22 rfl rfl ha2 (by omega)) ?_
  refine Dq rfl (.inl rfl) rfl (fun _ h=>h) (yl_ld 1 na9 rfl rfl (hr2 0 _ rfl)) ?_
  refine Dq rfl (.inl rfl) rfl (fun _ h=>h) (yl_nesY rfl rfl rfl) ?_
  refine WD.nil (fun _ h=>h) ?_
  refine Et ?_
  refine WC.condf rfl ?_
  refine Ck (Eb (Et (Cr ?_)))
  refine V0 (Ym rfl) ?_
  refine V0 (Yi rfl rfl rfl (by omega)) ?_
  refine V0 (Ya rfl) ?_
  refine Ln ?_
  exact Ea (i+1) (by omega) (by omega) (sc rfl (sc rfl (sc rfl sn))) (fun _ h=>h)
 ·
  refine Ce (Ex (Ex (Ebh (Et (Cs ?_)))))
  refine Cr ?_
  refine V0 (Ya rfl) ?_
  refine Ln (Et (Crt ?_))
  refine WE.ret1 rfl rfl fun w' hw=>?_
  exact ⟨rfl,hw.fr⟩
theorem sameExprs_eq (H1 H2:View) (a1 a2:Option Addr) (c1 c2:Nat) (k j:Nat) (l:List TExpr) (w:World) (hH1:Le H1 w) (hH2:Le H2 w) (hm1:Sl (RdE k) 5 H1 a1 c1 l) (hm2:Sl (RdE j) 5 H2 a2 c2 l) :
   Calls Tryz.prog 65 #[.slice a1 l.length c1,.slice a2 l.length c2] w fun e w'=>e = .returned (.bool true)∧Ext w w':=by
 induction k using Nat.strongRecOn generalizing j a1 c1 a2 c2 l w
 rename_i k ih
 have hcap1:=hm1.cap
 have hmax1:=hm1.max
 have hcap2:=hm2.cap
 have hmax2:=hm2.max
 refine enter Tryz.func65 rfl 81 rfl rfl ?_
 refine CWd (W':=Ws w [] [] [H1,H2]) (fun _ e=>by subst e; exact Ws.init (by simp [hH1,hH2])) ?_
 refine Cs (Cr ?_)
 refine V0 (Ya rfl) ?_
 refine Ln (Et (Cs (Cs (Cr ?_))))
 refine V0 (Ym rfl) ?_
 refine V0 (Yn es41 rfl) ?_
 refine V0 (Ym rfl) ?_
 refine V0 (Yn es41 rfl) ?_
 refine V0 (yl_neY rfl rfl rfl) ?_
 refine Ln (Et ?_)
 refine WC.condf rfl ?_
 refine Ck (Et (Cs (Cs (Cr ?_))))
 refine V0 (Ya rfl) ?_
 refine Ln (Et (Cb ?_))
 refine CW (ι:=Nat) (fun i=>[(5,.int .i64 (i:Int))]) [(0,_),(1,_)] (fun i=>i≤l.length) (fun i=>l.length-i) 0 (Nat.zero_le _) (sc rfl (sc rfl (sc rfl sn))) ?_
 intro i hi
 refine Cs (Cs (Cr ?_))
 refine V0 (Ym rfl) ?_
 refine V0 (Ym rfl) ?_
 refine V0 (Yn es41 rfl) ?_
 refine V0 (yl_lt rfl rfl) ?_
 refine Ln (Et ?_)
 refine Cc rfl (fun hc1=>?_) (fun hc1=>?_)
 ·
  have hlt:i<l.length:=by simpa using hc1
  obtain ⟨x,hx⟩:∃x,l[i]? = some x:=⟨_,List.getElem?_eq_getElem hlt⟩
  obtain ⟨pb,po,ha1,hr1⟩:=hm1.elt i x hx
  obtain ⟨qb,qo,ha2,hr2⟩:=hm2.elt i x hx
  obtain ⟨k2,rfl⟩:∃k2,k=k2+1:=by
    cases k with
    | zero=>exact hr1.elim
    | succ k2=>exact ⟨k2,rfl⟩
  obtain ⟨j2,rfl⟩:∃k2,j=k2+1:=by
    cases j with
    | zero=>exact hr2.elim
    | succ k2=>exact ⟨k2,rfl⟩
  obtain ⟨u1,n1,hr1,hs1⟩:=hr1
  obtain ⟨u2,n2,hr2,hs2⟩:=hr2
  refine Ck (Et (Cs (Cb (Cs ?_))))
  refine WC.draws0 [(0,true),(1,true),(2,true),(3,true),(4,true),(5,true),(6,true),(7,true),(8,true),(9,true),(10,true),(11,true),(12,true),(13,true),(14,true),(15,true),(16,true),(17,true),(18,true),(19,true),(20,true),(21,true),(22,true),(23,true),(24,true),(25,true),(26,true),(27,true),(28,true),(29,true),(30,true),(31,true),(32,true),(33,true),(34,true),(35,true),(36,true),(37,true),(38,true),(39,true),(40,true),(41,true),(42,true),(43,true),(44,true),(45,true),(46,true),(47,true),(48,true),(49,true),(50,true),(51,true),(52,true),(53,true),(54,true),(55,true),(56,true),(57,true),(58,true),(59,true),(60,true),(61,false),(62,true),(63,true)] mixed (by kernel_rfl) (fun _ _ _ d _ h=>by cases d<;>exact h) ?_
  refine Dq rfl (.inl rfl) rfl (fun _ h=>h) (Ym rfl) ?_
  refine Dq rfl (.inl rfl) rfl (fun _ h=>h) (Ym rfl) ?_
  refine Dq rfl (.inl rfl) rfl (fun _ h=>h) (Yo es41 rfl rfl ha1 (by omega)) ?_
  refine Dq rfl (.inl rfl) rfl (fun _ h=>h) (Yf fo81_0 rfl) ?_
  refine Dq rfl (.inl rfl) rfl (fun _ h=>h) (yl_ld 0 na3 rfl rfl (hr1 0 _ rfl)) ?_
  refine Dq rfl (.inl rfl) rfl (fun _ h=>h) (Ym rfl) ?_
  refine Dq rfl (.inl rfl) rfl (fun _ h=>h) (Ym rfl) ?_
  refine Dq rfl (.inl rfl) rfl (fun _ h=>h) (Yo es41 rfl rfl ha2 (by omega)) ?_
  refine Dq rfl (.inl rfl) rfl (fun _ h=>h) (Yf fo81_0 rfl) ?_
  refine Dq rfl (.inl rfl) rfl (fun _ h=>h) (yl_ld 1 na3 rfl rfl (hr2 0 _ rfl)) ?_
  refine Dq rfl (.inl rfl) rfl (fun _ h=>h) (yl_neY rfl rfl rfl) ?_
  refine Dq rfl (.inl rfl) rfl (fun _ h=>h) (Ym rfl) ?_
  apply WD.or 11 rfl rfl rfl rfl rfl (.inl rfl) rfl (fun _ h=>h) rfl rfl rfl rfl
  ·
   intro hg0
   refine Dq rfl (.g rfl rfl rfl) rfl (fun _ h=>h) (Ym rfl) ?_
   refine Dq rfl (.g rfl rfl rfl) rfl (fun _ h=>h) (Ym rfl) ?_
   refine Dq rfl (.g rfl rfl rfl) rfl (fun _ h=>h) (Yo es41 rfl rfl ha1 (by omega)) ?_
   refine Dq rfl (.g rfl rfl rfl) rfl (fun _ h=>h) (Yf fo81_1 rfl) ?_
   refine Dq rfl (.g rfl rfl rfl) rfl (fun _ h=>h) (yl_ld 0 na3 rfl rfl (hr1 1 _ rfl)) ?_
   refine Dq rfl (.g rfl rfl rfl) rfl (fun _ h=>h) (Ym rfl) ?_
   refine Dq rfl (.g rfl rfl rfl) rfl (fun _ h=>h) (Ym rfl) ?_
   refine Dq rfl (.g rfl rfl rfl) rfl (fun _ h=>h) (Yo es41 rfl rfl ha2 (by omega)) ?_
   refine Dq rfl (.g rfl rfl rfl) rfl (fun _ h=>h) (Yf fo81_1 rfl) ?_
   refine Dq rfl (.g rfl rfl rfl) rfl (fun _ h=>h) (yl_ld 1 na3 rfl rfl (hr2 1 _ rfl)) ?_
   refine Dq rfl (.g rfl rfl rfl) rfl (fun _ h=>h) (yl_neY rfl rfl rfl) ?_
   exact Gi 11 (fun _ h=>h) rfl rfl rfl
  refine Dq rfl (.inl rfl) rfl (fun _ h=>h) (Ym rfl) ?_
  apply WD.or 11 rfl rfl rfl rfl rfl (.inl rfl) rfl (fun _ h=>h) rfl rfl rfl rfl
  ·
   intro hg1
   refine Dq rfl (.g rfl rfl rfl) rfl (fun _ h=>h) (Ym rfl) ?_
   refine Dq rfl (.g rfl rfl rfl) rfl (fun _ h=>h) (Ym rfl) ?_
   refine Dq rfl (.g rfl rfl rfl) rfl (fun _ h=>h) (Yo es41 rfl rfl ha1 (by omega)) ?_
   refine Dq rfl (.g rfl rfl rfl) rfl (fun _ h=>h) (Yf fo81_2 rfl) ?_
   refine Dq rfl (.g rfl rfl rfl) rfl (fun _ h=>h) (yl_ld 0 na9 rfl rfl (hr1 2 _ rfl)) ?_
   refine Dq rfl (.g rfl rfl rfl) rfl (fun _ h=>h) (Ym rfl) ?_
   refine Dq rfl (.g rfl rfl rfl) rfl (fun _ h=>h) (Ym rfl) ?_
   refine Dq rfl (.g rfl rfl rfl) rfl (fun _ h=>h) (Yo es41 rfl rfl ha2 (by omega)) ?_
   refine Dq rfl (.g rfl rfl rfl) rfl (fun _ h=>h) (Yf fo81_2 rfl) ?_
   refine Dq rfl (.g rfl rfl rfl) rfl (fun _ h=>h) (yl_ld 1 na9 rfl rfl (hr2 2 _ rfl)) ?_
   refine Dq rfl (.g rfl rfl rfl) rfl (fun _ h=>h) (yl_nesY rfl rfl rfl) ?_
   exact Gi 11 (fun _ h=>h) rfl rfl rfl
  refine Dq rfl (.inl rfl) rfl (fun _ h=>h) (Ym rfl) ?_
  apply WD.or 11 rfl rfl rfl rfl rfl (.inl rfl) rfl (fun _ h=>h) rfl rfl rfl rfl
  ·
   intro hg2
   refine Dq rfl (.g rfl rfl rfl) rfl (fun _ h=>h) (Ym rfl) ?_
   refine Dq rfl (.g rfl rfl rfl) rfl (fun _ h=>h) (Ym rfl) ?_
   refine Dq rfl (.g rfl rfl rfl) rfl (fun _ h=>h) (Yo es41 rfl rfl ha1 (by omega)) ?_
   refine Dq rfl (.g rfl rfl rfl) rfl (fun _ h=>h) (Yf fo81_3 rfl) ?_
   refine Dq rfl (.g rfl rfl rfl) rfl (fun _ h=>h) (yl_ld 0 na9 rfl rfl (hr1 3 _ rfl)) ?_
   refine Dq rfl (.g rfl rfl rfl) rfl (fun _ h=>h) (Ym rfl) ?_
   refine Dq rfl (.g rfl rfl rfl) rfl (fun _ h=>h) (Ym rfl) ?_
   refine Dq rfl (.g rfl rfl rfl) rfl (fun _ h=>h) (Yo es41 rfl rfl ha2 (by omega)) ?_
   refine Dq rfl (.g rfl rfl rfl) rfl (fun _ h=>h) (Yf fo81_3 rfl) ?_
   refine Dq rfl (.g rfl rfl rfl) rfl (fun _ h=>h) (yl_ld 1 na9 rfl rfl (hr2 3 _ rfl)) ?_
   refine Dq rfl (.g rfl rfl rfl) rfl (fun _ h=>h) (yl_nesY rfl rfl rfl) ?_
   exact Gi 11 (fun _ h=>h) rfl rfl rfl
  refine Dq rfl (.inl rfl) rfl (fun _ h=>h) (Ym rfl) ?_
  apply WD.or 12 (x:=false) rfl rfl rfl rfl rfl (.inl rfl) rfl (fun _ h=>h) rfl rfl rfl rfl
  ·
   intro hg3
   refine Dq rfl (.g rfl rfl rfl) rfl (fun _ h=>h) (Ym rfl) ?_
   refine Dq rfl (.g rfl rfl rfl) rfl (fun _ h=>h) (Ym rfl) ?_
   refine Dq rfl (.g rfl rfl rfl) rfl (fun _ h=>h) (Yo es41 rfl rfl ha1 (by omega)) ?_
   refine Dq rfl (.g rfl rfl rfl) rfl (fun _ h=>h) (Yf fo81_4 rfl) ?_
   refine Dq rfl (.g rfl rfl rfl) rfl (fun _ h=>h) (yl_ld 0 na41 rfl rfl (hr1 4 _ rfl)) ?_
   refine Dq rfl (.g rfl rfl rfl) rfl (fun _ h=>h) (Ym rfl) ?_
   refine Dq rfl (.g rfl rfl rfl) rfl (fun _ h=>h) (Ym rfl) ?_
   refine Dq rfl (.g rfl rfl rfl) rfl (fun _ h=>h) (Yo es41 rfl rfl ha2 (by omega)) ?_
   refine Dq rfl (.g rfl rfl rfl) rfl (fun _ h=>h) (Yf fo81_4 rfl) ?_
   refine Dq rfl (.g rfl rfl rfl) rfl (fun _ h=>h) (yl_ld 1 na41 rfl rfl (hr2 4 _ rfl)) ?_
   refine De rfl (fun _ h=>h) ?_
   refine Lp (.g rfl rfl rfl) rfl en65 rfl (fun w hw=>ih k2 (by omega) u1 u2 n1 n2 j2 x.args w (hw.vs _ (by simp)) (hw.vs _ (by simp)) hs1 hs2) ?_
   refine Ln (Ed ?_)
   refine Dq rfl (.g rfl rfl rfl) rfl (fun _ h=>h) (yl_not rfl) ?_
   exact Gi 12 (fun _ h=>h) rfl rfl rfl
  refine WD.nil (fun _ h=>h) ?_
  refine Et ?_
  refine WC.condf rfl ?_
  refine Ck (Eb (Et (Cr ?_)))
  refine V0 (Ym rfl) ?_
  refine V0 (Yi rfl rfl rfl (by omega)) ?_
  refine V0 (Ya rfl) ?_
  refine Ln ?_
  exact Ea (i+1) (by omega) (by omega) (sc rfl (sc rfl (sc rfl sn))) (fun _ h=>h)
 ·
  refine Ce (Ex (Ex (Ebh (Et (Cs ?_)))))
  refine Cr ?_
  refine V0 (Ya rfl) ?_
  refine Ln (Et (Crt ?_))
  refine WE.ret1 rfl rfl fun w' hw=>?_
  exact ⟨rfl,hw.fr⟩
theorem sameBlocks_eq (H1 H2:View) (a1 a2:Option Addr) (c1 c2:Nat) (ke1 ke2 k j:Nat) (l:List TStmt) (w:World) (hH1:Le H1 w) (hH2:Le H2 w) (hm1:Sl (RdS ke1 k) 6 H1 a1 c1 l) (hm2:Sl (RdS ke2 j) 6 H2 a2 c2 l) :
   Calls Tryz.prog 35 #[.slice a1 l.length c1,.slice a2 l.length c2] w fun e w'=>e = .returned (.bool true)∧Ext w w':=by
 induction k using Nat.strongRecOn generalizing j a1 c1 a2 c2 l w
 rename_i k ih
 have hcap1:=hm1.cap
 have hmax1:=hm1.max
 have hcap2:=hm2.cap
 have hmax2:=hm2.max
 refine enter Tryz.func35 rfl 96 rfl rfl ?_
 refine CWd (W':=Ws w [] [] [H1,H2]) (fun _ e=>by subst e; exact Ws.init (by simp [hH1,hH2])) ?_
 refine Cs (Cr ?_)
 refine V0 (Ya rfl) ?_
 refine Ln (Et (Cs (Cs (Cr ?_))))
 refine V0 (Ym rfl) ?_
 refine V0 (Yn es25 rfl) ?_
 refine V0 (Ym rfl) ?_
 refine V0 (Yn es25 rfl) ?_
 refine V0 (yl_neY rfl rfl rfl) ?_
 refine Ln (Et ?_)
 refine WC.condf rfl ?_
 refine Ck (Et (Cs (Cs (Cr ?_))))
 refine V0 (Ya rfl) ?_
 refine Ln (Et (Cb ?_))
 refine CW (ι:=Nat) (fun i=>[(5,.int .i64 (i:Int))]) [(0,_),(1,_)] (fun i=>i≤l.length) (fun i=>l.length-i) 0 (Nat.zero_le _) (sc rfl (sc rfl (sc rfl sn))) ?_
 intro i hi
 refine Cs (Cs (Cr ?_))
 refine V0 (Ym rfl) ?_
 refine V0 (Ym rfl) ?_
 refine V0 (Yn es25 rfl) ?_
 refine V0 (yl_lt rfl rfl) ?_
 refine Ln (Et ?_)
 refine Cc rfl (fun hc1=>?_) (fun hc1=>?_)
 ·
  have hlt:i<l.length:=by simpa using hc1
  obtain ⟨x,hx⟩:∃x,l[i]? = some x:=⟨_,List.getElem?_eq_getElem hlt⟩
  obtain ⟨pb,po,ha1,hr1⟩:=hm1.elt i x hx
  obtain ⟨qb,qo,ha2,hr2⟩:=hm2.elt i x hx
  obtain ⟨k2,rfl⟩:∃k2,k=k2+1:=by
    cases k with
    | zero=>exact hr1.elim
    | succ k2=>exact ⟨k2,rfl⟩
  obtain ⟨j2,rfl⟩:∃k2,j=k2+1:=by
    cases j with
    | zero=>exact hr2.elim
    | succ k2=>exact ⟨k2,rfl⟩
  obtain ⟨u1,n1,u2,n2,u3,n3,hr1,hs1,hs2,hs3⟩:=hr1
  obtain ⟨v1,m1,v2,m2,v3,m3,hr2,ht1,ht2,ht3⟩:=hr2
  refine Ck (Et (Cs (Cb (Cs ?_))))
  refine WC.draws0 [(0,true),(1,true),(2,true),(3,true),(4,true),(5,true),(6,true),(7,true),(8,true),(9,true),(10,true),(11,true),(12,true),(13,true),(14,true),(15,true),(16,true),(17,true),(18,true),(19,true),(20,true),(21,true),(22,true),(23,true),(24,true),(25,true),(26,true),(27,true),(28,true),(29,true),(30,true),(31,true),(32,true),(33,true),(34,true),(35,true),(36,true),(37,true),(38,true),(39,true),(40,true),(41,true),(42,true),(43,true),(44,true),(45,true),(46,true),(47,true),(48,false),(49,true),(50,true),(51,true),(52,true),(53,true),(54,true),(55,true),(56,true),(57,true),(58,true),(59,true),(60,true),(61,true),(62,false),(63,true),(64,true),(65,true),(66,true),(67,true),(68,true),(69,true),(70,true),(71,true),(72,true),(73,true),(74,true),(75,true),(76,false),(77,true),(78,true)] mixed (by kernel_rfl) (fun _ _ _ d _ h=>by cases d<;>exact h) ?_
  refine Dq rfl (.inl rfl) rfl (fun _ h=>h) (Ym rfl) ?_
  refine Dq rfl (.inl rfl) rfl (fun _ h=>h) (Ym rfl) ?_
  refine Dq rfl (.inl rfl) rfl (fun _ h=>h) (Yo es25 rfl rfl ha1 (by omega)) ?_
  refine Dq rfl (.inl rfl) rfl (fun _ h=>h) (Yf fo43_0 rfl) ?_
  refine Dq rfl (.inl rfl) rfl (fun _ h=>h) (yl_ld 0 na3 rfl rfl (hr1 0 _ rfl)) ?_
  refine Dq rfl (.inl rfl) rfl (fun _ h=>h) (Ym rfl) ?_
  refine Dq rfl (.inl rfl) rfl (fun _ h=>h) (Ym rfl) ?_
  refine Dq rfl (.inl rfl) rfl (fun _ h=>h) (Yo es25 rfl rfl ha2 (by omega)) ?_
  refine Dq rfl (.inl rfl) rfl (fun _ h=>h) (Yf fo43_0 rfl) ?_
  refine Dq rfl (.inl rfl) rfl (fun _ h=>h) (yl_ld 1 na3 rfl rfl (hr2 0 _ rfl)) ?_
  refine Dq rfl (.inl rfl) rfl (fun _ h=>h) (yl_neY rfl rfl rfl) ?_
  refine Dq rfl (.inl rfl) rfl (fun _ h=>h) (Ym rfl) ?_
  apply WD.or 11 rfl rfl rfl rfl rfl (.inl rfl) rfl (fun _ h=>h) rfl rfl rfl rfl
  ·
   intro hg0
   refine Dq rfl (.g rfl rfl rfl) rfl (fun _ h=>h) (Ym rfl) ?_
   refine Dq rfl (.g rfl rfl rfl) rfl (fun _ h=>h) (Ym rfl) ?_
   refine Dq rfl (.g rfl rfl rfl) rfl (fun _ h=>h) (Yo es25 rfl rfl ha1 (by omega)) ?_
   refine Dq rfl (.g rfl rfl rfl) rfl (fun _ h=>h) (Yf fo43_1 rfl) ?_
   refine Dq rfl (.g rfl rfl rfl) rfl (fun _ h=>h) (yl_ld 0 na9 rfl rfl (hr1 1 _ rfl)) ?_
   refine Dq rfl (.g rfl rfl rfl) rfl (fun _ h=>h) (Ym rfl) ?_
   refine Dq rfl (.g rfl rfl rfl) rfl (fun _ h=>h) (Ym rfl) ?_
   refine Dq rfl (.g rfl rfl rfl) rfl (fun _ h=>h) (Yo es25 rfl rfl ha2 (by omega)) ?_
   refine Dq rfl (.g rfl rfl rfl) rfl (fun _ h=>h) (Yf fo43_1 rfl) ?_
   refine Dq rfl (.g rfl rfl rfl) rfl (fun _ h=>h) (yl_ld 1 na9 rfl rfl (hr2 1 _ rfl)) ?_
   refine Dq rfl (.g rfl rfl rfl) rfl (fun _ h=>h) (yl_nesY rfl rfl rfl) ?_
   exact Gi 11 (fun _ h=>h) rfl rfl rfl
  refine Dq rfl (.inl rfl) rfl (fun _ h=>h) (Ym rfl) ?_
  apply WD.or 11 rfl rfl rfl rfl rfl (.inl rfl) rfl (fun _ h=>h) rfl rfl rfl rfl
  ·
   intro hg1
   refine Dq rfl (.g rfl rfl rfl) rfl (fun _ h=>h) (Ym rfl) ?_
   refine Dq rfl (.g rfl rfl rfl) rfl (fun _ h=>h) (Ym rfl) ?_
   refine Dq rfl (.g rfl rfl rfl) rfl (fun _ h=>h) (Yo es25 rfl rfl ha1 (by omega)) ?_
   refine Dq rfl (.g rfl rfl rfl) rfl (fun _ h=>h) (Yf fo43_2 rfl) ?_
   refine Dq rfl (.g rfl rfl rfl) rfl (fun _ h=>h) (yl_ld 0 na9 rfl rfl (hr1 2 _ rfl)) ?_
   refine Dq rfl (.g rfl rfl rfl) rfl (fun _ h=>h) (Ym rfl) ?_
   refine Dq rfl (.g rfl rfl rfl) rfl (fun _ h=>h) (Ym rfl) ?_
   refine Dq rfl (.g rfl rfl rfl) rfl (fun _ h=>h) (Yo es25 rfl rfl ha2 (by omega)) ?_
   refine Dq rfl (.g rfl rfl rfl) rfl (fun _ h=>h) (Yf fo43_2 rfl) ?_
   refine Dq rfl (.g rfl rfl rfl) rfl (fun _ h=>h) (yl_ld 1 na9 rfl rfl (hr2 2 _ rfl)) ?_
   refine Dq rfl (.g rfl rfl rfl) rfl (fun _ h=>h) (yl_nesY rfl rfl rfl) ?_
   exact Gi 11 (fun _ h=>h) rfl rfl rfl
  refine Dq rfl (.inl rfl) rfl (fun _ h=>h) (Ym rfl) ?_
  apply WD.or 12 (x:=false) rfl rfl rfl rfl rfl (.inl rfl) rfl (fun _ h=>h) rfl rfl rfl rfl
  ·
   intro hg2
   refine Dq rfl (.g rfl rfl rfl) rfl (fun _ h=>h) (Ym rfl) ?_
   refine Dq rfl (.g rfl rfl rfl) rfl (fun _ h=>h) (Ym rfl) ?_
   refine Dq rfl (.g rfl rfl rfl) rfl (fun _ h=>h) (Yo es25 rfl rfl ha1 (by omega)) ?_
   refine Dq rfl (.g rfl rfl rfl) rfl (fun _ h=>h) (Yf fo43_3 rfl) ?_
   refine Dq rfl (.g rfl rfl rfl) rfl (fun _ h=>h) (yl_ld 0 na41 rfl rfl (hr1 3 _ rfl)) ?_
   refine Dq rfl (.g rfl rfl rfl) rfl (fun _ h=>h) (Ym rfl) ?_
   refine Dq rfl (.g rfl rfl rfl) rfl (fun _ h=>h) (Ym rfl) ?_
   refine Dq rfl (.g rfl rfl rfl) rfl (fun _ h=>h) (Yo es25 rfl rfl ha2 (by omega)) ?_
   refine Dq rfl (.g rfl rfl rfl) rfl (fun _ h=>h) (Yf fo43_3 rfl) ?_
   refine Dq rfl (.g rfl rfl rfl) rfl (fun _ h=>h) (yl_ld 1 na41 rfl rfl (hr2 3 _ rfl)) ?_
   refine De rfl (fun _ h=>h) ?_
   refine Lp (.g rfl rfl rfl) rfl en65 rfl (fun w hw=>sameExprs_eq H1 H2 u1 v1 n1 m1 ke1 ke2 x.args w (hw.vs _ (by simp)) (hw.vs _ (by simp)) hs1 ht1) ?_
   refine Ln (Ed ?_)
   refine Dq rfl (.g rfl rfl rfl) rfl (fun _ h=>h) (yl_not rfl) ?_
   exact Gi 12 (fun _ h=>h) rfl rfl rfl
  refine Dq rfl (.inl rfl) rfl (fun _ h=>h) (Ym rfl) ?_
  apply WD.or 12 (x:=false) rfl rfl rfl rfl rfl (.inl rfl) rfl (fun _ h=>h) rfl rfl rfl rfl
  ·
   intro hg3
   refine Dq rfl (.g rfl rfl rfl) rfl (fun _ h=>h) (Ym rfl) ?_
   refine Dq rfl (.g rfl rfl rfl) rfl (fun _ h=>h) (Ym rfl) ?_
   refine Dq rfl (.g rfl rfl rfl) rfl (fun _ h=>h) (Yo es25 rfl rfl ha1 (by omega)) ?_
   refine Dq rfl (.g rfl rfl rfl) rfl (fun _ h=>h) (Yf fo43_4 rfl) ?_
   refine Dq rfl (.g rfl rfl rfl) rfl (fun _ h=>h) (yl_ld 0 na25 rfl rfl (hr1 4 _ rfl)) ?_
   refine Dq rfl (.g rfl rfl rfl) rfl (fun _ h=>h) (Ym rfl) ?_
   refine Dq rfl (.g rfl rfl rfl) rfl (fun _ h=>h) (Ym rfl) ?_
   refine Dq rfl (.g rfl rfl rfl) rfl (fun _ h=>h) (Yo es25 rfl rfl ha2 (by omega)) ?_
   refine Dq rfl (.g rfl rfl rfl) rfl (fun _ h=>h) (Yf fo43_4 rfl) ?_
   refine Dq rfl (.g rfl rfl rfl) rfl (fun _ h=>h) (yl_ld 1 na25 rfl rfl (hr2 4 _ rfl)) ?_
   refine De rfl (fun _ h=>h) ?_
   refine Lp (.g rfl rfl rfl) rfl en35 rfl (fun w hw=>ih k2 (by omega) u2 v2 n2 m2 j2 x.body w (hw.vs _ (by simp)) (hw.vs _ (by simp)) hs2 ht2) ?_
   refine Ln (Ed ?_)
   refine Dq rfl (.g rfl rfl rfl) rfl (fun _ h=>h) (yl_not rfl) ?_
   exact Gi 12 (fun _ h=>h) rfl rfl rfl
  refine Dq rfl (.inl rfl) rfl (fun _ h=>h) (Ym rfl) ?_
  apply WD.or 12 (x:=false) rfl rfl rfl rfl rfl (.inl rfl) rfl (fun _ h=>h) rfl rfl rfl rfl
  ·
   intro hg4
   refine Dq rfl (.g rfl rfl rfl) rfl (fun _ h=>h) (Ym rfl) ?_
   refine Dq rfl (.g rfl rfl rfl) rfl (fun _ h=>h) (Ym rfl) ?_
   refine Dq rfl (.g rfl rfl rfl) rfl (fun _ h=>h) (Yo es25 rfl rfl ha1 (by omega)) ?_
   refine Dq rfl (.g rfl rfl rfl) rfl (fun _ h=>h) (Yf fo43_5 rfl) ?_
   refine Dq rfl (.g rfl rfl rfl) rfl (fun _ h=>h) (yl_ld 0 na25 rfl rfl (hr1 5 _ rfl)) ?_
   refine Dq rfl (.g rfl rfl rfl) rfl (fun _ h=>h) (Ym rfl) ?_
   refine Dq rfl (.g rfl rfl rfl) rfl (fun _ h=>h) (Ym rfl) ?_
   refine Dq rfl (.g rfl rfl rfl) rfl (fun _ h=>h) (Yo es25 rfl rfl ha2 (by omega)) ?_
   refine Dq rfl (.g rfl rfl rfl) rfl (fun _ h=>h) (Yf fo43_5 rfl) ?_
   refine Dq rfl (.g rfl rfl rfl) rfl (fun _ h=>h) (yl_ld 1 na25 rfl rfl (hr2 5 _ rfl)) ?_
   refine De rfl (fun _ h=>h) ?_
   refine Lp (.g rfl rfl rfl) rfl en35 rfl (fun w hw=>ih k2 (by omega) u3 v3 n3 m3 j2 x.other w (hw.vs _ (by simp)) (hw.vs _ (by simp)) hs3 ht3) ?_
   refine Ln (Ed ?_)
   refine Dq rfl (.g rfl rfl rfl) rfl (fun _ h=>h) (yl_not rfl) ?_
   exact Gi 12 (fun _ h=>h) rfl rfl rfl
  refine WD.nil (fun _ h=>h) ?_
  refine Et ?_
  refine WC.condf rfl ?_
  refine Ck (Eb (Et (Cr ?_)))
  refine V0 (Ym rfl) ?_
  refine V0 (Yi rfl rfl rfl (by omega)) ?_
  refine V0 (Ya rfl) ?_
  refine Ln ?_
  exact Ea (i+1) (by omega) (by omega) (sc rfl (sc rfl (sc rfl sn))) (fun _ h=>h)
 ·
  refine Ce (Ex (Ex (Ebh (Et (Cs ?_)))))
  refine Cr ?_
  refine V0 (Ya rfl) ?_
  refine Ln (Et (Crt ?_))
  refine WE.ret1 rfl rfl fun w' hw=>?_
  exact ⟨rfl,hw.fr⟩
theorem sameModules_eq (H1 H2:View) (ke1 ke2 ks1 ks2:Nat) (r1 r2:MAt) (m:TMod) (w:World) (hH1:Le H1 w) (hH2:Le H2 w) (hm1:RdM ke1 ks1 H1 r1 m) (hm2:RdM ke2 ks2 H2 r2 m) :
   Calls Tryz.prog 13 #[.agg (modV m r1).toArray,.agg (modV m r2).toArray] w fun e w'=>e = .returned (.bool true)∧Ext w w':=by
 have cd1:=hm1.decls.cap
 have xd1:=hm1.decls.max
 have cd2:=hm2.decls.cap
 have xd2:=hm2.decls.max
 have cp1:=hm1.procs.cap
 have xp1:=hm1.procs.max
 have cp2:=hm2.procs.cap
 have xp2:=hm2.procs.max
 refine enter Tryz.func13 rfl 119 rfl rfl ?_
 refine CWd (W':=Ws w [] [] [H1,H2]) (fun _ e=>by subst e; exact Ws.init (by simp [hH1,hH2])) ?_
 refine Cs (Cr ?_)
 refine WL.box (.inl rfl) rfl rfl fun b2=>?_
 refine WL.box (.inl rfl) rfl rfl fun b3=>?_
 refine V0 (Ya rfl) ?_
 refine Ln (Et (Cs (Cs (Cr ?_))))
 refine V0 (Yf fo27_0 rfl) ?_
 refine V0 (Yd 1 rfl rfl rfl na9) ?_
 refine V0 (Yf fo27_0 rfl) ?_
 refine V0 (Yd 0 rfl rfl rfl na9) ?_
 refine V0 (yl_nesY rfl rfl rfl) ?_
 refine V0 (Ym rfl) ?_
 apply WL.or 6 (x:=false) rfl rfl rfl rfl (.inl rfl) rfl rfl rfl rfl rfl
 ·
  intro hg0
  refine Lv (.g rfl rfl rfl) rfl (Yf fo27_1 rfl) ?_
  refine Lv (.g rfl rfl rfl) rfl (Yd 1 rfl rfl rfl na22) ?_
  refine Lv (.g rfl rfl rfl) rfl (Yf fo27_1 rfl) ?_
  refine Lv (.g rfl rfl rfl) rfl (Yd 0 rfl rfl rfl na22) ?_
  refine Lp (.g rfl rfl rfl) rfl en34 rfl (fun w hw=>sameTexts_eq H1 H2 r1.a1 r2.a1 r1.c1 r2.c1 m.uses w (hw.vs _ (by simp)) (hw.vs _ (by simp)) hm1.uses hm2.uses) ?_
  refine Lv (.g rfl rfl rfl) rfl (yl_not rfl) ?_
  exact Gt 6 rfl rfl rfl
 refine V0 (Ym rfl) ?_
 apply WL.or 7 (x:=false) rfl rfl rfl rfl (.inl rfl) rfl rfl rfl rfl rfl
 ·
  intro hg1
  refine Lv (.g rfl rfl rfl) rfl (Yf fo27_2 rfl) ?_
  refine Lv (.g rfl rfl rfl) rfl (Yd 1 rfl rfl rfl na23) ?_
  refine Lv (.g rfl rfl rfl) rfl (Yn es23 rfl) ?_
  refine Lv (.g rfl rfl rfl) rfl (Yf fo27_2 rfl) ?_
  refine Lv (.g rfl rfl rfl) rfl (Yd 0 rfl rfl rfl na23) ?_
  refine Lv (.g rfl rfl rfl) rfl (Yn es23 rfl) ?_
  refine Lv (.g rfl rfl rfl) rfl (yl_neY rfl rfl rfl) ?_
  exact Gt 7 rfl rfl rfl
 refine V0 (Ym rfl) ?_
 apply WL.or 7 (x:=false) rfl rfl rfl rfl (.inl rfl) rfl rfl rfl rfl rfl
 ·
  intro hg2
  refine Lv (.g rfl rfl rfl) rfl (Yf fo27_3 rfl) ?_
  refine Lv (.g rfl rfl rfl) rfl (Yd 1 rfl rfl rfl na24) ?_
  refine Lv (.g rfl rfl rfl) rfl (Yn es24 rfl) ?_
  refine Lv (.g rfl rfl rfl) rfl (Yf fo27_3 rfl) ?_
  refine Lv (.g rfl rfl rfl) rfl (Yd 0 rfl rfl rfl na24) ?_
  refine Lv (.g rfl rfl rfl) rfl (Yn es24 rfl) ?_
  refine Lv (.g rfl rfl rfl) rfl (yl_neY rfl rfl rfl) ?_
  exact Gt 7 rfl rfl rfl
 refine V0 (Ym rfl) ?_
 apply WL.or 6 (x:=false) rfl rfl rfl rfl (.inl rfl) rfl rfl rfl rfl rfl
 ·
  intro hg3
  refine Lv (.g rfl rfl rfl) rfl (Yf fo27_4 rfl) ?_
  refine Lv (.g rfl rfl rfl) rfl (Yd 1 rfl rfl rfl na25) ?_
  refine Lv (.g rfl rfl rfl) rfl (Yf fo27_4 rfl) ?_
  refine Lv (.g rfl rfl rfl) rfl (Yd 0 rfl rfl rfl na25) ?_
  refine Lp (.g rfl rfl rfl) rfl en35 rfl (fun w hw=>sameBlocks_eq H1 H2 r1.a4 r2.a4 r1.c4 r2.c4 ke1 ke2 ks1 ks2 m.main w (hw.vs _ (by simp)) (hw.vs _ (by simp)) hm1.main hm2.main) ?_
  refine Lv (.g rfl rfl rfl) rfl (yl_not rfl) ?_
  exact Gt 6 rfl rfl rfl
 refine Ln (Et ?_)
 refine WC.condf rfl ?_
 refine Ck (Et (Cs (Cs (Cr ?_))))
 refine V0 (Ya rfl) ?_
 refine Ln (Et (Cb ?_))
 refine CK (ι:=Nat) (fun i=>[(5,.int .i64 (i:Int))]) [(2,_),(3,_)] (fun i=>Ws w [] [blk b3 (.cells (modV m r2).toArray 27 (0,0)),blk b2 (.cells (modV m r1).toArray 27 (0,0))] [H1,H2]) (fun i=>i≤m.decls.length) (fun i=>m.decls.length-i) 0 (Nat.zero_le _) (sc rfl (sc rfl (sc rfl sn))) (fun _ h=>h) ?_
 intro i hi
 refine Cs (Cs (Cr ?_))
 refine V0 (Ym rfl) ?_
 refine V0 (Yf fo27_2 rfl) ?_
 refine V0 (Yd 1 rfl rfl rfl na23) ?_
 refine V0 (Yn es23 rfl) ?_
 refine V0 (yl_lt rfl rfl) ?_
 refine Ln (Et ?_)
 refine Cc rfl (fun hc1=>?_) (fun hc1=>?_)
 ·
  have hlt:i<m.decls.length:=by simpa using hc1
  obtain ⟨x,hx⟩:∃x,m.decls[i]? = some x:=⟨_,List.getElem?_eq_getElem hlt⟩
  obtain ⟨pb,po,ha1,hr1⟩:=hm1.decls.elt i x hx
  obtain ⟨qb,qo,ha2,hr2⟩:=hm2.decls.elt i x hx
  have hr1:RdC H1 pb (po+i*4) x.cells:=hr1
  have hr2:RdC H2 qb (qo+i*4) x.cells:=hr2
  refine Ck (Et (Cs (Cb (Cs ?_))))
  refine WC.draws0 [(0,true),(1,true),(2,true),(3,true),(4,true),(5,true),(6,true),(7,true),(8,true),(9,true),(10,true)] mixed (by kernel_rfl) (fun _ _ _ d _ h=>by cases d<;>exact h) ?_
  refine Dq rfl (.inl rfl) rfl (fun _ h=>h) (Yf fo27_2 rfl) ?_
  refine Dq rfl (.inl rfl) rfl (fun _ h=>h) (Yd 1 rfl rfl rfl na23) ?_
  refine Dq rfl (.inl rfl) rfl (fun _ h=>h) (Ym rfl) ?_
  refine Dq rfl (.inl rfl) rfl (fun _ h=>h) (Yo es23 rfl rfl ha1 (by omega)) ?_
  refine Dq rfl (.inl rfl) rfl (fun _ h=>h) (yl_lda 0 ag53 rfl rfl rfl (hr1)) ?_
  refine Dq rfl (.inl rfl) rfl (fun _ h=>h) (Yf fo27_2 rfl) ?_
  refine Dq rfl (.inl rfl) rfl (fun _ h=>h) (Yd 0 rfl rfl rfl na23) ?_
  refine Dq rfl (.inl rfl) rfl (fun _ h=>h) (Ym rfl) ?_
  refine Dq rfl (.inl rfl) rfl (fun _ h=>h) (Yo es23 rfl rfl ha2 (by omega)) ?_
  refine Dq rfl (.inl rfl) rfl (fun _ h=>h) (yl_lda 1 ag53 rfl rfl rfl (hr2)) ?_
  refine Dq rfl (.inl rfl) rfl (fun _ h=>h) (yl_nestY fl53 rfl rfl rfl rfl) ?_
  refine WD.nil (fun _ h=>h) ?_
  refine Et ?_
  refine WC.condf rfl ?_
  refine Ck (Eb (Et (Cr ?_)))
  refine V0 (Ym rfl) ?_
  refine V0 (Yi rfl rfl rfl (by omega)) ?_
  refine V0 (Ya rfl) ?_
  refine Ln ?_
  exact Ea (i+1) (by omega) (by omega) (sc rfl (sc rfl (sc rfl sn))) (fun _ h=>h)
 ·
  refine Ce (Ex (Ex (Ebh (Et (Cs ?_)))))
  refine Cs (Cr ?_)
  refine V0 (Ya rfl) ?_
  refine Ln (Et (Cb ?_))
  refine CK (ι:=Nat) (fun j=>[(6,.int .i64 (j:Int))]) [(2,_),(3,_)] (fun j=>Ws w [] [blk b3 (.cells (modV m r2).toArray 27 (0,0)),blk b2 (.cells (modV m r1).toArray 27 (0,0))] [H1,H2]) (fun j=>j≤m.procs.length) (fun j=>m.procs.length-j) 0 (Nat.zero_le _) (sc rfl (sc rfl (sc rfl sn))) (fun _ h=>h) ?_
  intro j hi
  refine Cs (Cs (Cr ?_))
  refine V0 (Ym rfl) ?_
  refine V0 (Yf fo27_3 rfl) ?_
  refine V0 (Yd 1 rfl rfl rfl na24) ?_
  refine V0 (Yn es24 rfl) ?_
  refine V0 (yl_lt rfl rfl) ?_
  refine Ln (Et ?_)
  refine Cc rfl (fun hc3=>?_) (fun hc3=>?_)
  ·
   have hlt:j<m.procs.length:=by simpa using hc3
   obtain ⟨x,hx⟩:∃x,m.procs[j]? = some x:=⟨_,List.getElem?_eq_getElem hlt⟩
   obtain ⟨pb,po,ha1,hr1⟩:=hm1.procs.elt j x hx
   obtain ⟨qb,qo,ha2,hr2⟩:=hm2.procs.elt j x hx
   obtain ⟨u1,n1,u2,n2,u3,n3,hr1,hs1,hs2,hs3⟩:=hr1
   obtain ⟨v1,m1,v2,m2,v3,m3,hr2,ht1,ht2,ht3⟩:=hr2
   refine Ck (Et (Cs (Cb (Cs ?_))))
   refine WC.drawt0 (.q 0 (.q 1 (.q 2 (.q 3 (.q 4 (.q 5 (.q 6 (.q 7 (.q 8 (.q 9 (.e 10 (.e 11 (.e 12 (.e 13 .nil .stop) .stop) .stop) (.e 11 (.e 10 (.e 12 (.e 13 .nil .stop) .stop) .stop) .stop)))))))))))) mixed (by kernel_rfl) (fun _ _ _ d _ h=>by cases d<;>exact h) ?_
   refine WT.q rfl (.inl rfl) rfl (fun _ h=>h) (Yf fo27_3 rfl) ?_
   refine WT.q rfl (.inl rfl) rfl (fun _ h=>h) (Yd 1 rfl rfl rfl na24) ?_
   refine WT.q rfl (.inl rfl) rfl (fun _ h=>h) (Ym rfl) ?_
   refine WT.q rfl (.inl rfl) rfl (fun _ h=>h) (Yo es24 rfl rfl ha1 (by omega)) ?_
   refine WT.q rfl (.inl rfl) rfl (fun _ h=>h) (yl_lda 0 ag56 rfl rfl rfl (hr1)) ?_
   refine WT.q rfl (.inl rfl) rfl (fun _ h=>h) (Yf fo27_3 rfl) ?_
   refine WT.q rfl (.inl rfl) rfl (fun _ h=>h) (Yd 0 rfl rfl rfl na24) ?_
   refine WT.q rfl (.inl rfl) rfl (fun _ h=>h) (Ym rfl) ?_
   refine WT.q rfl (.inl rfl) rfl (fun _ h=>h) (Yo es24 rfl rfl ha2 (by omega)) ?_
   refine WT.q rfl (.inl rfl) rfl (fun _ h=>h) (yl_lda 1 ag56 rfl rfl rfl (hr2)) ?_
   refine WT.e rfl (fun _ h=>h) ?_ ?_
   ·
    refine WL.alloc (.inl rfl) rfl zr56 fun b7=>?_
    refine Ln (Ett ?_)
    refine WT.e rfl (fun _ h=>by have h:=Ws.drop (L:=[_]) (L':=_) h; exact h) ?_ WT.stop
    refine WL.alloc (.inl rfl) rfl zr56 fun b8=>?_
    refine Ln (Ett ?_)
    refine WT.e rfl (fun _ h=>by have h:=Ws.drop (L:=[_,_]) (L':=_) h; exact h) ?_ WT.stop
    refine Lst 1 (.inl rfl) rfl rfl rfl sz56 rfl rfl rfl ?_
    refine Ln (Ett ?_)
    refine WT.e rfl (fun _ h=>by have h:=Ws.drop (L:=[_,_]) (L':=_) h; exact h) ?_ WT.stop
    refine Lst 0 (.inl rfl) rfl rfl rfl sz56 rfl rfl rfl ?_
    refine Ln (Ett ?_)
    refine WT.nil (fun _ h=>by have h:=Ws.drop (L:=[_,_]) (L':=_) h; exact h) ?_
    refine Et (Cs ?_)
    refine Crb 1 (.cells (procV x u1 n1 u2 n2 u3 n3).toArray 56 (0,0)) rfl rfl ?_
    refine Crb 0 (.cells (procV x v1 m1 v2 m2 v3 m3).toArray 56 (0,0)) rfl rfl ?_
    refine Cr ?_
    refine V0 (Yf fo56_0 rfl) ?_
    refine V0 (Yd 1 rfl rfl rfl na9) ?_
    refine V0 (Yf fo56_0 rfl) ?_
    refine V0 (Yd 0 rfl rfl rfl na9) ?_
    refine V0 (yl_nesY rfl rfl rfl) ?_
    refine V0 (Ym rfl) ?_
    apply WL.or 5 (x:=false) rfl rfl rfl rfl (.inl rfl) rfl rfl rfl rfl rfl
    ·
     intro hg4
     refine Lv (.g rfl rfl rfl) rfl (Yf fo56_1 rfl) ?_
     refine Lv (.g rfl rfl rfl) rfl (Yd 1 rfl rfl rfl na4) ?_
     refine Lv (.g rfl rfl rfl) rfl (Yf fo56_1 rfl) ?_
     refine Lv (.g rfl rfl rfl) rfl (Yd 0 rfl rfl rfl na4) ?_
     refine Lv (.g rfl rfl rfl) rfl (yl_nebY ub4 rfl rfl rfl) ?_
     exact Gt 5 rfl rfl rfl
    refine V0 (Ym rfl) ?_
    apply WL.or 6 (x:=false) rfl rfl rfl rfl (.inl rfl) rfl rfl rfl rfl rfl
    ·
     intro hg5
     refine Lv (.g rfl rfl rfl) rfl (Yf fo56_2 rfl) ?_
     refine Lv (.g rfl rfl rfl) rfl (Yd 1 rfl rfl rfl na22) ?_
     refine Lv (.g rfl rfl rfl) rfl (Yf fo56_2 rfl) ?_
     refine Lv (.g rfl rfl rfl) rfl (Yd 0 rfl rfl rfl na22) ?_
     refine Lp (.g rfl rfl rfl) rfl en34 rfl (fun w hw=>sameTexts_eq H1 H2 u1 v1 n1 m1 x.params w (hw.vs _ (by simp)) (hw.vs _ (by simp)) hs1 ht1) ?_
     refine Lv (.g rfl rfl rfl) rfl (yl_not rfl) ?_
     exact Gt 6 rfl rfl rfl
    refine V0 (Ym rfl) ?_
    apply WL.or 6 (x:=false) rfl rfl rfl rfl (.inl rfl) rfl rfl rfl rfl rfl
    ·
     intro hg6
     refine Lv (.g rfl rfl rfl) rfl (Yf fo56_3 rfl) ?_
     refine Lv (.g rfl rfl rfl) rfl (Yd 1 rfl rfl rfl na22) ?_
     refine Lv (.g rfl rfl rfl) rfl (Yf fo56_3 rfl) ?_
     refine Lv (.g rfl rfl rfl) rfl (Yd 0 rfl rfl rfl na22) ?_
     refine Lp (.g rfl rfl rfl) rfl en34 rfl (fun w hw=>sameTexts_eq H1 H2 u2 v2 n2 m2 x.locs w (hw.vs _ (by simp)) (hw.vs _ (by simp)) hs2 ht2) ?_
     refine Lv (.g rfl rfl rfl) rfl (yl_not rfl) ?_
     exact Gt 6 rfl rfl rfl
    refine V0 (Ym rfl) ?_
    apply WL.or 6 (x:=false) rfl rfl rfl rfl (.inl rfl) rfl rfl rfl rfl rfl
    ·
     intro hg7
     refine Lv (.g rfl rfl rfl) rfl (Yf fo56_4 rfl) ?_
     refine Lv (.g rfl rfl rfl) rfl (Yd 1 rfl rfl rfl na25) ?_
     refine Lv (.g rfl rfl rfl) rfl (Yf fo56_4 rfl) ?_
     refine Lv (.g rfl rfl rfl) rfl (Yd 0 rfl rfl rfl na25) ?_
     refine Lp (.g rfl rfl rfl) rfl en35 rfl (fun w hw=>sameBlocks_eq H1 H2 u3 v3 n3 m3 ke1 ke2 ks1 ks2 x.body w (hw.vs _ (by simp)) (hw.vs _ (by simp)) hs3 ht3) ?_
     refine Lv (.g rfl rfl rfl) rfl (yl_not rfl) ?_
     exact Gt 6 rfl rfl rfl
    refine Ln (Et ?_)
    refine WC.condf rfl ?_
    refine Ck (Eb (Et (Cr ?_)))
    refine V0 (Ym rfl) ?_
    refine V0 (Yi rfl rfl rfl (by omega)) ?_
    refine V0 (Ya rfl) ?_
    refine Ln ?_
    exact Ea (j+1) (by omega) (by omega) (sc rfl (sc rfl (sc rfl sn))) (fun _ h=>by
        have h:=h.fronti 3 rfl
        have h:=h.fronti 3 rfl
        have h:=Ws.keep (L:=[_,_]) h
        have h:=Ws.drops h (Vs':=[H1,H2]) (by simp)
        exact h)
   refine WT.e rfl (fun _ h=>h) ?_ WT.stop
   refine WL.alloc (.inl rfl) rfl zr56 fun b8=>?_
   refine Ln (Ett ?_)
   refine WT.e rfl (fun _ h=>by have h:=Ws.drop (L:=[_]) (L':=_) h; exact h) ?_ WT.stop
   refine WL.alloc (.inl rfl) rfl zr56 fun b7=>?_
   refine Ln (Ett ?_)
   refine WT.e rfl (fun _ h=>by have h:=Ws.drop (L:=[_,_]) (L':=_) h; exact h) ?_ WT.stop
   refine Lst 0 (.inl rfl) rfl rfl rfl sz56 rfl rfl rfl ?_
   refine Ln (Ett ?_)
   refine WT.e rfl (fun _ h=>by have h:=Ws.drop (L:=[_,_]) (L':=_) h; exact h) ?_ WT.stop
   refine Lst 1 (.inl rfl) rfl rfl rfl sz56 rfl rfl rfl ?_
   refine Ln (Ett ?_)
   refine WT.nil (fun _ h=>by have h:=Ws.drop (L:=[_,_]) (L':=_) h; exact h) ?_
   refine Et (Cs ?_)
   refine Crb 0 (.cells (procV x u1 n1 u2 n2 u3 n3).toArray 56 (0,0)) rfl rfl ?_
   refine Crb 1 (.cells (procV x v1 m1 v2 m2 v3 m3).toArray 56 (0,0)) rfl rfl ?_
   refine Cr ?_
   refine V0 (Yf fo56_0 rfl) ?_
   refine V0 (Yd 0 rfl rfl rfl na9) ?_
   refine V0 (Yf fo56_0 rfl) ?_
   refine V0 (Yd 1 rfl rfl rfl na9) ?_
   refine V0 (yl_nesY rfl rfl rfl) ?_
   refine V0 (Ym rfl) ?_
   apply WL.or 5 (x:=false) rfl rfl rfl rfl (.inl rfl) rfl rfl rfl rfl rfl
   ·
    intro hg4
    refine Lv (.g rfl rfl rfl) rfl (Yf fo56_1 rfl) ?_
    refine Lv (.g rfl rfl rfl) rfl (Yd 0 rfl rfl rfl na4) ?_
    refine Lv (.g rfl rfl rfl) rfl (Yf fo56_1 rfl) ?_
    refine Lv (.g rfl rfl rfl) rfl (Yd 1 rfl rfl rfl na4) ?_
    refine Lv (.g rfl rfl rfl) rfl (yl_nebY ub4 rfl rfl rfl) ?_
    exact Gt 5 rfl rfl rfl
   refine V0 (Ym rfl) ?_
   apply WL.or 6 (x:=false) rfl rfl rfl rfl (.inl rfl) rfl rfl rfl rfl rfl
   ·
    intro hg5
    refine Lv (.g rfl rfl rfl) rfl (Yf fo56_2 rfl) ?_
    refine Lv (.g rfl rfl rfl) rfl (Yd 0 rfl rfl rfl na22) ?_
    refine Lv (.g rfl rfl rfl) rfl (Yf fo56_2 rfl) ?_
    refine Lv (.g rfl rfl rfl) rfl (Yd 1 rfl rfl rfl na22) ?_
    refine Lp (.g rfl rfl rfl) rfl en34 rfl (fun w hw=>sameTexts_eq H1 H2 u1 v1 n1 m1 x.params w (hw.vs _ (by simp)) (hw.vs _ (by simp)) hs1 ht1) ?_
    refine Lv (.g rfl rfl rfl) rfl (yl_not rfl) ?_
    exact Gt 6 rfl rfl rfl
   refine V0 (Ym rfl) ?_
   apply WL.or 6 (x:=false) rfl rfl rfl rfl (.inl rfl) rfl rfl rfl rfl rfl
   ·
    intro hg6
    refine Lv (.g rfl rfl rfl) rfl (Yf fo56_3 rfl) ?_
    refine Lv (.g rfl rfl rfl) rfl (Yd 0 rfl rfl rfl na22) ?_
    refine Lv (.g rfl rfl rfl) rfl (Yf fo56_3 rfl) ?_
    refine Lv (.g rfl rfl rfl) rfl (Yd 1 rfl rfl rfl na22) ?_
    refine Lp (.g rfl rfl rfl) rfl en34 rfl (fun w hw=>sameTexts_eq H1 H2 u2 v2 n2 m2 x.locs w (hw.vs _ (by simp)) (hw.vs _ (by simp)) hs2 ht2) ?_
    refine Lv (.g rfl rfl rfl) rfl (yl_not rfl) ?_
    exact Gt 6 rfl rfl rfl
   refine V0 (Ym rfl) ?_
   apply WL.or 6 (x:=false) rfl rfl rfl rfl (.inl rfl) rfl rfl rfl rfl rfl
   ·
    intro hg7
    refine Lv (.g rfl rfl rfl) rfl (Yf fo56_4 rfl) ?_
    refine Lv (.g rfl rfl rfl) rfl (Yd 0 rfl rfl rfl na25) ?_
    refine Lv (.g rfl rfl rfl) rfl (Yf fo56_4 rfl) ?_
    refine Lv (.g rfl rfl rfl) rfl (Yd 1 rfl rfl rfl na25) ?_
    refine Lp (.g rfl rfl rfl) rfl en35 rfl (fun w hw=>sameBlocks_eq H1 H2 u3 v3 n3 m3 ke1 ke2 ks1 ks2 x.body w (hw.vs _ (by simp)) (hw.vs _ (by simp)) hs3 ht3) ?_
    refine Lv (.g rfl rfl rfl) rfl (yl_not rfl) ?_
    exact Gt 6 rfl rfl rfl
   refine Ln (Et ?_)
   refine WC.condf rfl ?_
   refine Ck (Eb (Et (Cr ?_)))
   refine V0 (Ym rfl) ?_
   refine V0 (Yi rfl rfl rfl (by omega)) ?_
   refine V0 (Ya rfl) ?_
   refine Ln ?_
   exact Ea (j+1) (by omega) (by omega) (sc rfl (sc rfl (sc rfl sn))) (fun _ h=>by
       have h:=h.fronti 3 rfl
       have h:=h.fronti 3 rfl
       have h:=Ws.keep (L:=[_,_]) h
       have h:=Ws.drops h (Vs':=[H1,H2]) (by simp)
       exact h)
  ·
   refine Ce (Ex (Ex (Ebh (Et (Cs ?_)))))
   refine Cr ?_
   refine V0 (Ya rfl) ?_
   refine Ln (Et (Crt ?_))
   refine WE.ret1 rfl rfl fun w' hw=>?_
   exact ⟨rfl,hw.fr⟩
theorem parseOf_any (s:Tx) (w:World) :
   Calls Tryz.prog 12 #[st s] w fun e w'=>∃r:MAt,e = .returned (.tuple #[.agg (modV (parseD s).1 r).toArray,.int .i64 (parseD s).2])∧Ext w w'∧RdM 8 6 (nv w w') r (parseD s).1:=by
 refine enter Tryz.func12 rfl 26 rfl rfl ?_
 refine CWd (W':=Ws w [] [] []) (fun _ e=>by subst e; exact Ws.init (by simp)) ?_
 refine Cs (Cr ?_)
 refine WL.alloc (.inl rfl) rfl zr27 fun b2=>?_
 refine Lrb 0 (.cells (rowM [] none 0 0 none 0 0 none 0 0 none 0 0).toArray 27 (0,0)) rfl rfl ?_
 refine V0 (Ya rfl) ?_
 refine Ln (Et (Cs (Cr ?_)))
 refine V0 (Ym rfl) ?_
 refine Ld (.inl rfl) rfl en32 rfl (fun r:Option Addr×Nat=>.tuple #[.slice r.1 (lexR s).1.length r.2,.int .i64 (lexR s).2]) (fun H r=>Sl rdTok 3 H r.1 r.2 (lexR s).1) (fun w hw=>lexOf_any s w) ?_
 intro F10 r10 hf10 h10
 refine V0 (Ym rfl) ?_
 refine V0 (Yx rfl rfl) ?_
 refine V0 (Yx rfl rfl) ?_
 refine V0 (Ya rfl) ?_
 refine V0 (Ya rfl) ?_
 refine Ln (Et (Cs (Cs (Cr ?_))))
 refine V0 (Ym rfl) ?_
 refine V0 (yl_ne rfl rfl) ?_
 refine Ln (Et ?_)
 refine Cc rfl (fun hc0=>?_) (fun hc0=>?_)
 ·
  have he:¬(lexR s).2=0:=by simpa using hc0
  refine Cs (Cr ?_)
  refine V0 (Yb zr27 pl27 rfl rfl) ?_
  refine V0 (Ym rfl) ?_
  refine Lst 0 (.inl rfl) rfl rfl rfl sz27 rfl rfl rfl ?_
  refine V0 (Ya rfl) ?_
  refine Ln (Et (Crt (Er ?_)))
  refine WE.retc2 0 rfl rfl rfl rfl ag27 rfl fun w' hw=>?_
  rw [parseD_err he]
  exact ⟨noAt,rfl,hw.fr,noMod_rd8 _⟩
 ·
  have he:(lexR s).2=0:=by simpa using hc0
  refine Ck (Et (Cs (Cr ?_)))
  refine V0 (Ym rfl) ?_
  refine Ld (.inl rfl) rfl en33 rfl (fun r:MAt=>.tuple #[.agg (modV (fromT (lexR s).1).1 r).toArray,.bool (fromT (lexR s).1).2]) (fun H r=>RdM 8 6 H r (fromT (lexR s).1).1) (fun w hw=>moduleFrom_any F10 r10 (lexR s).1 w (hw.vs _ (by simp)) (lexR_ok he) (lexR_tok he).len h10) ?_
  intro F19 r19 hf19 h19
  refine V0 (Ym rfl) ?_
  refine V0 (Yx rfl rfl) ?_
  refine V0 (Yx rfl rfl) ?_
  refine WL.alloc (.inl rfl) rfl zr27 fun b6=>?_
  refine Lst 0 (.inl rfl) rfl rfl rfl sz27 rfl rfl rfl ?_
  refine V0 (Ya rfl) ?_
  refine Ln (Et (Cs (Cs (Cr ?_))))
  refine V0 (Ym rfl) ?_
  refine V0 (yl_not rfl) ?_
  refine Ln (Et ?_)
  refine Cc rfl (fun hc1=>?_) (fun hc1=>?_)
  ·
   have hn:(fromT (lexR s).1).2=false:=by simpa using hc1
   refine Cs (Cr ?_)
   refine V0 (Yb zr27 pl27 rfl rfl) ?_
   refine Lst 1 (.inl rfl) rfl rfl rfl sz27 rfl rfl rfl ?_
   refine V0 (Ya rfl) ?_
   refine Ln (Et (Crt (Er ?_)))
   refine WE.retc2 1 rfl rfl rfl rfl ag27 rfl fun w' hw=>?_
   rw [parseD_no he hn]
   exact ⟨noAt,rfl,hw.fr,noMod_rd8 _⟩
  ·
   have hy:(fromT (lexR s).1).2=true:=by simpa using hc1
   refine Ck (Et (Cs (Cr ?_)))
   refine V0 (Yda 0 rfl rfl ag27 rfl) ?_
   refine Lst 1 (.inl rfl) rfl rfl rfl sz27 rfl rfl rfl ?_
   refine V0 (Ya rfl) ?_
   refine Ln (Et (Crt ?_))
   refine WE.retc2 1 rfl rfl rfl rfl ag27 rfl fun w' hw=>?_
   rw [parseD_yes he hy]
   exact ⟨r19,rfl,hw.fr,rdM_mv h19 (nv_vs hw (by simp) hf19)⟩
end Go.Proofs.YtjfldjidhkfnbaaGreatDoor
end
section
namespace Go.Proofs.YtjfldjidhkfnbaaGreatDoor
open Go.Bw
set_option linter.unusedVariables false
set_option linter.unusedSimpArgs false
def cntM:TMod:=(⟨[99,110,116],[],[(⟨1,[107],true,3⟩:TDecl),(⟨2,[115,117,109],true,0⟩:TDecl),(⟨3,[116],true,4⟩:TDecl)],[(⟨[100,111,119,110],true,[[110]],[[105]],[(TStmt.mk 1 [] [105] [(TExpr.mk 3 0 [] [110] [])] [] []),(TStmt.mk 5 [] [] [(TExpr.mk 3 0 [] [105] [])] [(TStmt.mk 1 [] [115,117,109] [(TExpr.mk 9 0 [] [] [(TExpr.mk 3 0 [] [115,117,109] []),(TExpr.mk 3 0 [] [105] [])])] [] []),(TStmt.mk 1 [] [105] [(TExpr.mk 10 0 [] [] [(TExpr.mk 3 0 [] [105] []),(TExpr.mk 1 1 [] [] [])])] [] [])] []),(TStmt.mk 6 [] [] [(TExpr.mk 3 0 [] [115,117,109] [])] [] [])]⟩:TProc)],[]⟩:TMod)
def cntS:Tx:=[109,111,100,117,108,101,32,99,110,116,32,123,32,112,117,98,32,99,111,110,115,116,32,107,32,61,32,51,32,59,32,112,117,98,32,118,97,114,32,115,117,109,32,59,32,112,117,98,32,97,114,114,97,121,32,116,32,91,32,52,32,93,32,59,32,112,117,98,32,112,114,111,99,32,100,111,119,110,32,40,32,110,32,41,32,108,111,99,97,108,32,105,32,59,32,123,32,105,32,61,32,110,32,59,32,119,104,105,108,101,32,105,32,123,32,115,117,109,32,61,32,40,32,115,117,109,32,43,32,105,32,41,32,59,32,105,32,61,32,40,32,105,32,45,32,49,32,41,32,59,32,125,32,114,101,116,117,114,110,32,115,117,109,32,59,32,125,32,109,97,105,110,32,123,32,125,32,125]
def topS:Tx:=[109,111,100,117,108,101,32,116,111,112,123,117,115,101,32,99,110,116,59,109,97,105,110,123,99,110,116,46,116,91,49,93,61,99,110,116,46,100,111,119,110,40,99,110,116,46,107,41,59,111,117,116,32,99,110,116,46,116,91,105,110,93,59,105,102,40,99,110,116,46,115,117,109,61,54,41,123,111,117,116,32,55,59,125,101,108,115,101,123,111,117,116,32,56,59,125,125,125]
def badS:Tx:=[109,111,100,117,108,101,32,120,32,123,32,109,97,105,110,32,123,32,105,102,32,49,32,123,32,125,32,101,108,115,101,32,123,32,125,32,125,32,125]
theorem cnt_show:showM cntM=(cntS,0):=by decide +kernel
theorem cnt_w:wM cntM≤109951162777:=by decide +kernel
theorem cnt_check:checkM cntM=0:=by decide +kernel
theorem cnt_parse:parseM cntS=(cntM,0):=by
 have h:J (modW cntM)=cntS:=by decide +kernel
 rw [←h]
 exact parse_show cnt_check (by rw [h]; decide +kernel)
theorem bad_parse:(parseM badS).2=1:=by decide +kernel
theorem top_parse:(parseM topS).2=0:=by decide +kernel
theorem top_len:(parseM topS).1.main.length=3:=by decide +kernel
theorem top_mod:((parseM topS).1.main[0]?).map TStmt.mod=some [99,110,116]:=by decide +kernel
theorem top_first:∃x,(parseM topS).1.main[0]? = some x∧x.mod=[99,110,116]:=by
 have h:=top_mod
 cases hx:(parseM topS).1.main[0]? with
 | none=>rw [hx] at h; cases h
 | some x=>rw [hx] at h; exact ⟨x,rfl,by simpa using h⟩
theorem en14:Enters Tryz.prog 14:=enters_of Tryz.func14 (by kernel_rfl) rfl
theorem en9:Enters Tryz.prog 9:=enters_of Tryz.func9 (by kernel_rfl) rfl
theorem en11:Enters Tryz.prog 11:=enters_of Tryz.func11 (by kernel_rfl) rfl
theorem en15:Enters Tryz.prog 15:=enters_of Tryz.func15 (by kernel_rfl) rfl
theorem en16:Enters Tryz.prog 16:=enters_of Tryz.func16 (by kernel_rfl) rfl
theorem en13:Enters Tryz.prog 13:=enters_of Tryz.func13 (by kernel_rfl) rfl
theorem counter_any (w:World) :
   Calls Tryz.prog 14 #[] w fun e w'=>∃r:MAt,e = .returned (.agg (modV cntM r).toArray)∧Ext w w'∧RdM 8 6 (nv w w') r cntM:=by
 refine enter Tryz.func14 rfl 33 rfl rfl ?_
 refine CWd (W':=Ws w [] [] []) (fun _ e=>by subst e; exact Ws.init (by simp)) ?_
 refine Cs (Cr ?_)
 refine WL.alloc (.inl rfl) rfl zr27 fun b0=>?_
 refine Ln (Et (Cs (Cr ?_)))
 refine V0 (Yb zr53 pl53 rfl rfl) ?_
 refine V0 (Yb zr53 pl53 rfl rfl) ?_
 refine V0 (Yb zr53 pl53 rfl rfl) ?_
 refine Lb (.inl rfl) rfl el23 rfl rfl rfl rfl fun b4=>?_
 refine LN (rd:=rdDecl) (f:=TDecl.cells) (m:=3) 0 [(⟨1,[107],true,3⟩:TDecl),(⟨2,[115,117,109],true,0⟩:TDecl),(⟨3,[116],true,4⟩:TDecl)] rfl rfl (fun _ hk=>by cases hk) TDecl.cells_len (fun _ _ _ _ h=>h) (show 3≤3 by decide) (by decide) fun H4 fH4 hH4=>?_
 refine Lb (.inl rfl) rfl el22 rfl rfl rfl rfl fun b5=>?_
 refine LN (rd:=rdStr) (f:=strC) (m:=1) 0 [[110]] rfl rfl (fun _ hk=>by cases hk) strC_len (fun _ _ _ _ h=>h) (show 1≤1 by decide) (by decide) fun H5 fH5 hH5=>?_
 refine Lb (.inl rfl) rfl el22 rfl rfl rfl rfl fun b6=>?_
 refine LN (rd:=rdStr) (f:=strC) (m:=1) 0 [[105]] rfl rfl (fun _ hk=>by cases hk) strC_len (fun _ _ _ _ h=>h) (show 1≤1 by decide) (by decide) fun H6 fH6 hH6=>?_
 refine V0 (Yb zr81 pl81 rfl rfl) ?_
 refine Lb (.inl rfl) rfl el41 rfl rfl rfl rfl fun b8=>?_
 refine LN (rd:=rdXE) (f:=XE.cells) (m:=1) 0 [((TExpr.mk 3 0 [] [110] []),none,0)] rfl rfl (fun _ hk=>by cases hk) XE.cells_len (fun _ _ _ _ h=>h) (show 1≤1 by decide) (by decide) fun H8 fH8 hH8=>?_
 refine V0 (Yb zr43 pl43 rfl rfl) ?_
 refine V0 (Yb zr81 pl81 rfl rfl) ?_
 refine Lb (.inl rfl) rfl el41 rfl rfl rfl rfl fun b11=>?_
 refine LN (rd:=rdXE) (f:=XE.cells) (m:=1) 0 [((TExpr.mk 3 0 [] [105] []),none,0)] rfl rfl (fun _ hk=>by cases hk) XE.cells_len (fun _ _ _ _ h=>h) (show 1≤1 by decide) (by decide) fun H11 fH11 hH11=>?_
 refine V0 (Yb zr81 pl81 rfl rfl) ?_
 refine V0 (Yb zr81 pl81 rfl rfl) ?_
 refine Lb (.inl rfl) rfl el41 rfl rfl rfl rfl fun b14=>?_
 refine LN (rd:=rdXE) (f:=XE.cells) (m:=2) 0 [((TExpr.mk 3 0 [] [115,117,109] []),none,0),((TExpr.mk 3 0 [] [105] []),none,0)] rfl rfl (fun _ hk=>by cases hk) XE.cells_len (fun _ _ _ _ h=>h) (show 2≤2 by decide) (by decide) fun H14 fH14 hH14=>?_
 refine V0 (Yb zr81 pl81 rfl rfl) ?_
 refine Lb (.inl rfl) rfl el41 rfl rfl rfl rfl fun b16=>?_
 refine LN (rd:=rdXE) (f:=XE.cells) (m:=1) 0 [((TExpr.mk 9 0 [] [] [(TExpr.mk 3 0 [] [115,117,109] []),(TExpr.mk 3 0 [] [105] [])]),(some ⟨b14,0,none⟩),2)] rfl rfl (fun _ hk=>by cases hk) XE.cells_len (fun _ _ _ _ h=>h) (show 1≤1 by decide) (by decide) fun H16 fH16 hH16=>?_
 refine V0 (Yb zr43 pl43 rfl rfl) ?_
 refine V0 (Yb zr81 pl81 rfl rfl) ?_
 refine V0 (Yb zr81 pl81 rfl rfl) ?_
 refine Lb (.inl rfl) rfl el41 rfl rfl rfl rfl fun b20=>?_
 refine LN (rd:=rdXE) (f:=XE.cells) (m:=2) 0 [((TExpr.mk 3 0 [] [105] []),none,0),((TExpr.mk 1 1 [] [] []),none,0)] rfl rfl (fun _ hk=>by cases hk) XE.cells_len (fun _ _ _ _ h=>h) (show 2≤2 by decide) (by decide) fun H20 fH20 hH20=>?_
 refine V0 (Yb zr81 pl81 rfl rfl) ?_
 refine Lb (.inl rfl) rfl el41 rfl rfl rfl rfl fun b22=>?_
 refine LN (rd:=rdXE) (f:=XE.cells) (m:=1) 0 [((TExpr.mk 10 0 [] [] [(TExpr.mk 3 0 [] [105] []),(TExpr.mk 1 1 [] [] [])]),(some ⟨b20,0,none⟩),2)] rfl rfl (fun _ hk=>by cases hk) XE.cells_len (fun _ _ _ _ h=>h) (show 1≤1 by decide) (by decide) fun H22 fH22 hH22=>?_
 refine V0 (Yb zr43 pl43 rfl rfl) ?_
 refine Lb (.inl rfl) rfl el25 rfl rfl rfl rfl fun b24=>?_
 refine LN (rd:=rdSX) (f:=SX.cells) (m:=2) 0 [((TStmt.mk 1 [] [115,117,109] [(TExpr.mk 9 0 [] [] [(TExpr.mk 3 0 [] [115,117,109] []),(TExpr.mk 3 0 [] [105] [])])] [] []),(⟨((some ⟨b16,0,none⟩),1),(none,0),(none,0)⟩:SAt)),((TStmt.mk 1 [] [105] [(TExpr.mk 10 0 [] [] [(TExpr.mk 3 0 [] [105] []),(TExpr.mk 1 1 [] [] [])])] [] []),(⟨((some ⟨b22,0,none⟩),1),(none,0),(none,0)⟩:SAt))] rfl rfl (fun _ hk=>by cases hk) SX.cells_len (fun _ _ _ _ h=>h) (show 2≤2 by decide) (by decide) fun H24 fH24 hH24=>?_
 refine V0 (Yb zr43 pl43 rfl rfl) ?_
 refine V0 (Yb zr81 pl81 rfl rfl) ?_
 refine Lb (.inl rfl) rfl el41 rfl rfl rfl rfl fun b27=>?_
 refine LN (rd:=rdXE) (f:=XE.cells) (m:=1) 0 [((TExpr.mk 3 0 [] [115,117,109] []),none,0)] rfl rfl (fun _ hk=>by cases hk) XE.cells_len (fun _ _ _ _ h=>h) (show 1≤1 by decide) (by decide) fun H27 fH27 hH27=>?_
 refine V0 (Yb zr43 pl43 rfl rfl) ?_
 refine Lb (.inl rfl) rfl el25 rfl rfl rfl rfl fun b29=>?_
 refine LN (rd:=rdSX) (f:=SX.cells) (m:=3) 0 [((TStmt.mk 1 [] [105] [(TExpr.mk 3 0 [] [110] [])] [] []),(⟨((some ⟨b8,0,none⟩),1),(none,0),(none,0)⟩:SAt)),((TStmt.mk 5 [] [] [(TExpr.mk 3 0 [] [105] [])] [(TStmt.mk 1 [] [115,117,109] [(TExpr.mk 9 0 [] [] [(TExpr.mk 3 0 [] [115,117,109] []),(TExpr.mk 3 0 [] [105] [])])] [] []),(TStmt.mk 1 [] [105] [(TExpr.mk 10 0 [] [] [(TExpr.mk 3 0 [] [105] []),(TExpr.mk 1 1 [] [] [])])] [] [])] []),(⟨((some ⟨b11,0,none⟩),1),((some ⟨b24,0,none⟩),2),(none,0)⟩:SAt)),((TStmt.mk 6 [] [] [(TExpr.mk 3 0 [] [115,117,109] [])] [] []),(⟨((some ⟨b27,0,none⟩),1),(none,0),(none,0)⟩:SAt))] rfl rfl (fun _ hk=>by cases hk) SX.cells_len (fun _ _ _ _ h=>h) (show 3≤3 by decide) (by decide) fun H29 fH29 hH29=>?_
 refine V0 (Yb zr56 pl56 rfl rfl) ?_
 refine Lb (.inl rfl) rfl el24 rfl rfl rfl rfl fun b31=>?_
 refine LN (rd:=rdPX) (f:=PX.cells) (m:=1) 0 [((⟨[100,111,119,110],true,[[110]],[[105]],[(TStmt.mk 1 [] [105] [(TExpr.mk 3 0 [] [110] [])] [] []),(TStmt.mk 5 [] [] [(TExpr.mk 3 0 [] [105] [])] [(TStmt.mk 1 [] [115,117,109] [(TExpr.mk 9 0 [] [] [(TExpr.mk 3 0 [] [115,117,109] []),(TExpr.mk 3 0 [] [105] [])])] [] []),(TStmt.mk 1 [] [105] [(TExpr.mk 10 0 [] [] [(TExpr.mk 3 0 [] [105] []),(TExpr.mk 1 1 [] [] [])])] [] [])] []),(TStmt.mk 6 [] [] [(TExpr.mk 3 0 [] [115,117,109] [])] [] [])]⟩:TProc),(⟨((some ⟨b5,0,none⟩),1),((some ⟨b6,0,none⟩),1),((some ⟨b29,0,none⟩),3)⟩:PAt))] rfl rfl (fun _ hk=>by cases hk) PX.cells_len (fun _ _ _ _ h=>h) (show 1≤1 by decide) (by decide) fun H31 fH31 hH31=>?_
 refine V0 (Yb zr27 pl27 rfl rfl) ?_
 refine Lst 0 (.inl rfl) rfl rfl rfl sz27 rfl rfl rfl ?_
 refine Ln (Et (Crt ?_))
 refine WE.retc1 0 rfl rfl rfl ag27 rfl fun w' hw=>?_
 exact ⟨⟨none,0,(some ⟨b4,0,none⟩),3,(some ⟨b31,0,none⟩),1,none,0⟩,rfl,hw.fr,⟨Sl.nil,(slDecl_mv hH4 (nv_vs hw (by simp) fH4)),(slP8_of hH31 (nv_vs hw (by simp) fH31) (VLe.refl _) ((PXs8.nil _).snoc (VLe.refl _) (VLe.refl _) ⟨(slStr_mv hH5 (nv_vs hw (by simp) fH5)),(slStr_mv hH6 (nv_vs hw (by simp) fH6)),(slS8_of hH29 (nv_vs hw (by simp) fH29) (VLe.refl _) ((((SXs8.nil _ 5).snoc (VLe.refl _) (VLe.refl _) ⟨(slE_of hH8 (nv_vs hw (by simp) fH8) (VLe.refl _) ((XEs.nil _ 7).snoc (VLe.refl _) (VLe.refl _) Sl.nil)),Sl.nil,Sl.nil⟩).snoc (VLe.refl _) (VLe.refl _) ⟨(slE_of hH11 (nv_vs hw (by simp) fH11) (VLe.refl _) ((XEs.nil _ 7).snoc (VLe.refl _) (VLe.refl _) Sl.nil)),(slS8_of hH24 (nv_vs hw (by simp) fH24) (VLe.refl _) (((SXs8.nil _ 4).snoc (VLe.refl _) (VLe.refl _) ⟨(slE_of hH16 (nv_vs hw (by simp) fH16) (VLe.refl _) ((XEs.nil _ 7).snoc (VLe.refl _) (VLe.refl _) (slE_of hH14 (nv_vs hw (by simp) fH14) (VLe.refl _) (((XEs.nil _ 6).snoc (VLe.refl _) (VLe.refl _) Sl.nil).snoc (VLe.refl _) (VLe.refl _) Sl.nil)))),Sl.nil,Sl.nil⟩).snoc (VLe.refl _) (VLe.refl _) ⟨(slE_of hH22 (nv_vs hw (by simp) fH22) (VLe.refl _) ((XEs.nil _ 7).snoc (VLe.refl _) (VLe.refl _) (slE_of hH20 (nv_vs hw (by simp) fH20) (VLe.refl _) (((XEs.nil _ 6).snoc (VLe.refl _) (VLe.refl _) Sl.nil).snoc (VLe.refl _) (VLe.refl _) Sl.nil)))),Sl.nil,Sl.nil⟩)),Sl.nil⟩).snoc (VLe.refl _) (VLe.refl _) ⟨(slE_of hH27 (nv_vs hw (by simp) fH27) (VLe.refl _) ((XEs.nil _ 7).snoc (VLe.refl _) (VLe.refl _) Sl.nil)),Sl.nil,Sl.nil⟩))⟩)),Sl.nil⟩⟩
theorem countText_any (w:World) :
   Calls Tryz.prog 16 #[] w fun e w'=>e = .returned (st cntS)∧Ext w w':=by
 refine enter Tryz.func16 rfl 1 rfl rfl ?_
 refine CWd (W':=Ws w [] [] []) (fun _ e=>by subst e; exact Ws.init (by simp)) ?_
 refine Cs (Cr ?_)
 refine V0 (Ya rfl) ?_
 refine Ln (Et (Cs (Cr ?_)))
 refine V0 (Ya rfl) ?_
 refine Ln (Et (Crt ?_))
 refine WE.ret1 rfl rfl fun w' hw=>?_
 exact ⟨rfl,hw.fr⟩
theorem topText_any (w:World) :
   Calls Tryz.prog 15 #[] w fun e w'=>e = .returned (st topS)∧Ext w w':=by
 refine enter Tryz.func15 rfl 1 rfl rfl ?_
 refine CWd (W':=Ws w [] [] []) (fun _ e=>by subst e; exact Ws.init (by simp)) ?_
 refine Cs (Cr ?_)
 refine V0 (Ya rfl) ?_
 refine Ln (Et (Cs (Cr ?_)))
 refine V0 (Ya rfl) ?_
 refine Ln (Et (Crt ?_))
 refine WE.ret1 rfl rfl fun w' hw=>?_
 exact ⟨rfl,hw.fr⟩
theorem treeBegun_any (G:View) (w:World) (hG:Le G w) (hz:Laid G) :
   Calls Tryz.prog 6 #[] w fun e w'=>e = .returned (.bool true)∧Ext w w':=by
 refine enter Tryz.func6 rfl 71 rfl rfl ?_
 refine CWd (W':=Ws w [] [] [G]) (fun _ e=>by subst e; exact Ws.init (by simp [hG])) ?_
 refine Cs (Cr ?_)
 refine V0 (Ya rfl) ?_
 refine Ln (Et (Cs (Cr ?_)))
 refine Ld (.inl rfl) rfl en14 rfl (fun r:MAt=>.agg (modV cntM r).toArray) (fun H r=>RdM 8 6 H r cntM) (fun w hw=>counter_any w) ?_
 intro F10 r10 hf10 h10
 refine Lp (.inl rfl) rfl en9 rfl (fun w hw=>by
     have:=treeShow_any G F10 8 6 r10 cntM w (hw.vs _ (by simp)) hz (hw.vs _ (by simp)) h10 cnt_w
     rw [cnt_show] at this
     exact this) ?_
 refine V0 (Ym rfl) ?_
 refine V0 (Yx rfl rfl) ?_
 refine V0 (Yx rfl rfl) ?_
 refine V0 (Ya rfl) ?_
 refine V0 (Ya rfl) ?_
 refine Ln (Et (Cs (Cr ?_)))
 refine V0 (Ym rfl) ?_
 refine Ld (.inl rfl) rfl en11 rfl (fun r:MAt=>.tuple #[.agg (modV (cntM) r).toArray,.int .i64 (0)]) (fun H r=>RdM 7 6 H r (cntM)) (fun w hw=>by
     have:=treeParse_any G (cntS) w (hw.vs _ (by simp)) hz
     rw [cnt_parse] at this
     exact this) ?_
 intro F16 r16 hf16 h16
 refine V0 (Ym rfl) ?_
 refine V0 (Yx rfl rfl) ?_
 refine V0 (Yx rfl rfl) ?_
 refine WL.alloc (.inl rfl) rfl zr27 fun b3=>?_
 refine Lst 0 (.inl rfl) rfl rfl rfl sz27 rfl rfl rfl ?_
 refine V0 (Ya rfl) ?_
 refine Ln (Et (Cs (Cr ?_)))
 refine Ld (.inl rfl) rfl en11 rfl (fun r:MAt=>.tuple #[.agg (modV ((parseM badS).1) r).toArray,.int .i64 (1)]) (fun H r=>RdM 7 6 H r ((parseM badS).1)) (fun w hw=>by
     have:=treeParse_any G (badS) w (hw.vs _ (by simp)) hz
     rw [bad_parse] at this
     exact this) ?_
 intro F20 r20 hf20 h20
 refine V0 (Ym rfl) ?_
 refine V0 (Yx rfl rfl) ?_
 refine V0 (Yx rfl rfl) ?_
 refine WL.alloc (.inl rfl) rfl zr27 fun b5=>?_
 refine Lst 0 (.inl rfl) rfl rfl rfl sz27 rfl rfl rfl ?_
 refine V0 (Ya rfl) ?_
 refine Ln (Et (Cs (Cr ?_)))
 refine Lp (.inl rfl) rfl en15 rfl (fun w hw=>topText_any w) ?_
 refine Ld (.inl rfl) rfl en11 rfl (fun r:MAt=>.tuple #[.agg (modV ((parseM topS).1) r).toArray,.int .i64 (0)]) (fun H r=>RdM 7 6 H r ((parseM topS).1)) (fun w hw=>by
     have:=treeParse_any G (topS) w (hw.vs _ (by simp)) hz
     rw [top_parse] at this
     exact this) ?_
 intro F25 r25 hf25 h25
 refine V0 (Ym rfl) ?_
 refine V0 (Yx rfl rfl) ?_
 refine V0 (Yx rfl rfl) ?_
 refine WL.alloc (.inl rfl) rfl zr27 fun b7=>?_
 refine Lst 0 (.inl rfl) rfl rfl rfl sz27 rfl rfl rfl ?_
 refine V0 (Ya rfl) ?_
 refine Ln (Et (Cs ?_))
 obtain ⟨tx,htx0,htx⟩:=top_first
 obtain ⟨pb,po,ha,u1,n1,u2,n2,u3,n3,hr,hs1,hs2,hs3⟩:=h25.main.elt 0 tx htx0
 have htl:=top_len
 have htc:=h25.main.cap
 have htm:=h25.main.max
 refine WC.draws0 [(0,false),(1,false),(2,true),(3,true),(4,true),(5,true),(6,true),(7,true),(8,true),(9,true),(10,true),(11,true),(12,true),(13,true),(14,true),(15,true),(16,true),(17,true),(18,true),(19,true),(20,true),(21,false),(22,true),(23,true),(24,true),(25,true),(26,false),(27,false),(28,true),(29,true),(30,true),(31,true),(32,true),(33,true),(34,true),(35,true),(36,true),(37,true),(38,true),(39,true),(40,true),(41,true),(42,true),(43,true)] mixed (by kernel_rfl) (fun _ _ _ d _ h=>by cases d<;>exact h) ?_
 refine De rfl (fun _ h=>h) ?_
 refine Ld (.inl rfl) rfl en14 rfl (fun r:MAt=>.agg (modV cntM r).toArray) (fun H r=>RdM 8 6 H r cntM) (fun w hw=>counter_any w) ?_
 intro F28 r28 hf28 h28
 refine Ln (Ed ?_)
 refine De rfl (fun _ h=>by have h:=Ws.drops h (fun _ hm=>List.mem_append_right [_] hm); exact h) ?_
 refine Lp (.inl rfl) rfl en7 rfl (fun w hw=>by
     have:=treeCheck_any F28 8 6 r28 cntM w (hw.vs _ (by simp)) h28 (by have:=cnt_w; omega)
     rw [cnt_check] at this
     exact this) ?_
 refine Ln (Ed ?_)
 refine Dq rfl (.inl rfl) rfl (fun _ h=>by have h:=Ws.drops h (fun _ hm=>List.mem_append_right [_] hm); exact h) (yl_eqiY rfl rfl rfl) ?_
 refine Dq rfl (.inl rfl) rfl (fun _ h=>by have h:=Ws.drops h (fun _ hm=>List.mem_append_right [_] hm); exact h) (Ym rfl) ?_
 apply WD.and 2 (x:=true) rfl rfl rfl rfl rfl (.inl rfl) rfl (fun _ h=>by have h:=Ws.drops h (fun _ hm=>List.mem_append_right [_] hm); exact h) rfl rfl rfl rfl
 ·
  intro hg0
  refine Dq rfl (.g rfl rfl rfl) rfl (fun _ h=>by have h:=Ws.drops h (fun _ hm=>List.mem_append_right [_] hm); exact h) (Ym rfl) ?_
  refine Dq rfl (.g rfl rfl rfl) rfl (fun _ h=>by have h:=Ws.drops h (fun _ hm=>List.mem_append_right [_] hm); exact h) (yl_eqiY rfl rfl rfl) ?_
  exact Gi 2 (fun _ h=>by have h:=Ws.drops h (fun _ hm=>List.mem_append_right [_] hm); exact h) rfl rfl rfl
 refine Dq rfl (.inl rfl) rfl (fun _ h=>by have h:=Ws.drops h (fun _ hm=>List.mem_append_right [_] hm); exact h) (Ym rfl) ?_
 apply WD.and 2 (x:=true) rfl rfl rfl rfl rfl (.inl rfl) rfl (fun _ h=>by have h:=Ws.drops h (fun _ hm=>List.mem_append_right [_] hm); exact h) rfl rfl rfl rfl
 ·
  intro hg1
  refine Dq rfl (.g rfl rfl rfl) rfl (fun _ h=>by have h:=Ws.drops h (fun _ hm=>List.mem_append_right [_] hm); exact h) (Ym rfl) ?_
  refine Dq rfl (.g rfl rfl rfl) rfl (fun _ h=>by have h:=Ws.drops h (fun _ hm=>List.mem_append_right [_] hm); exact h) (yl_eqiY rfl rfl rfl) ?_
  exact Gi 2 (fun _ h=>by have h:=Ws.drops h (fun _ hm=>List.mem_append_right [_] hm); exact h) rfl rfl rfl
 refine Dq rfl (.inl rfl) rfl (fun _ h=>by have h:=Ws.drops h (fun _ hm=>List.mem_append_right [_] hm); exact h) (Ym rfl) ?_
 apply WD.and 2 (x:=true) rfl rfl rfl rfl rfl (.inl rfl) rfl (fun _ h=>by have h:=Ws.drops h (fun _ hm=>List.mem_append_right [_] hm); exact h) rfl rfl rfl rfl
 ·
  intro hg2
  refine Dq rfl (.g rfl rfl rfl) rfl (fun _ h=>by have h:=Ws.drops h (fun _ hm=>List.mem_append_right [_] hm); exact h) (Ym rfl) ?_
  refine Dq rfl (.g rfl rfl rfl) rfl (fun _ h=>by have h:=Ws.drops h (fun _ hm=>List.mem_append_right [_] hm); exact h) (yl_eqiY rfl rfl rfl) ?_
  exact Gi 2 (fun _ h=>by have h:=Ws.drops h (fun _ hm=>List.mem_append_right [_] hm); exact h) rfl rfl rfl
 refine Dq rfl (.inl rfl) rfl (fun _ h=>by have h:=Ws.drops h (fun _ hm=>List.mem_append_right [_] hm); exact h) (Ym rfl) ?_
 apply WD.and 2 (x:=true) rfl rfl rfl rfl rfl (.inl rfl) rfl (fun _ h=>by have h:=Ws.drops h (fun _ hm=>List.mem_append_right [_] hm); exact h) rfl rfl rfl rfl
 ·
  intro hg3
  refine Dq rfl (.g rfl rfl rfl) rfl (fun _ h=>by have h:=Ws.drops h (fun _ hm=>List.mem_append_right [_] hm); exact h) (Ym rfl) ?_
  refine Dq rfl (.g rfl rfl rfl) rfl (fun _ h=>by have h:=Ws.drops h (fun _ hm=>List.mem_append_right [_] hm); exact h) (yl_eqiY rfl rfl rfl) ?_
  exact Gi 2 (fun _ h=>by have h:=Ws.drops h (fun _ hm=>List.mem_append_right [_] hm); exact h) rfl rfl rfl
 refine Dq rfl (.inl rfl) rfl (fun _ h=>by have h:=Ws.drops h (fun _ hm=>List.mem_append_right [_] hm); exact h) (Ym rfl) ?_
 apply WD.and 3 (x:=true) rfl rfl rfl rfl rfl (.inl rfl) rfl (fun _ h=>by have h:=Ws.drops h (fun _ hm=>List.mem_append_right [_] hm); exact h) rfl rfl rfl rfl
 ·
  intro hg4
  refine Dq rfl (.g rfl rfl rfl) rfl (fun _ h=>by have h:=Ws.drops h (fun _ hm=>List.mem_append_right [_] hm); exact h) (Ym rfl) ?_
  refine De rfl (fun _ h=>by have h:=Ws.drops h (fun _ hm=>List.mem_append_right [_] hm); exact h) ?_
  refine Lp (.g rfl rfl rfl) rfl en16 rfl (fun w hw=>countText_any w) ?_
  refine Ln (Ed ?_)
  refine Dq rfl (.g rfl rfl rfl) rfl (fun _ h=>by have h:=Ws.drops h (fun _ hm=>List.mem_append_right [_] hm); exact h) (yl_eqsY rfl rfl rfl) ?_
  exact Gi 3 (fun _ h=>by have h:=Ws.drops h (fun _ hm=>List.mem_append_right [_] hm); exact h) rfl rfl rfl
 refine Dq rfl (.inl rfl) rfl (fun _ h=>by have h:=Ws.drops h (fun _ hm=>List.mem_append_right [_] hm); exact h) (Ym rfl) ?_
 apply WD.and 3 (x:=true) rfl rfl rfl rfl rfl (.inl rfl) rfl (fun _ h=>by have h:=Ws.drops h (fun _ hm=>List.mem_append_right [_] hm); exact h) rfl rfl rfl rfl
 ·
  intro hg5
  refine Dq rfl (.g rfl rfl rfl) rfl (fun _ h=>by have h:=Ws.drops h (fun _ hm=>List.mem_append_right [_] hm); exact h) (Yda 2 rfl rfl ag27 rfl) ?_
  refine De rfl (fun _ h=>by have h:=Ws.drops h (fun _ hm=>List.mem_append_right [_] hm); exact h) ?_
  refine Ld (.g rfl rfl rfl) rfl en14 rfl (fun r:MAt=>.agg (modV cntM r).toArray) (fun H r=>RdM 8 6 H r cntM) (fun w hw=>counter_any w) ?_
  intro F54 r54 hf54 h54
  refine Ln (Ed ?_)
  refine De rfl (fun _ h=>by have h:=Ws.drops h (fun _ hm=>List.mem_append_right [_,_] hm); exact h) ?_
  refine Lp (.g rfl rfl rfl) rfl en13 rfl (fun w hw=>sameModules_eq F16 F54 7 8 6 6 r16 r54 cntM w (hw.vs _ (by simp)) (hw.vs _ (by simp)) h16 h54) ?_
  refine Ln (Ed ?_)
  refine WD.wk (W':=Ws _ _ [_,_,_] [_,_,_,_,_,_]) (fun _ h=>Ws.drops (h) (fun _ hm=>List.mem_append_right [_] hm)) ?_
  exact Gi 3 (fun _ h=>by have h:=Ws.drops h (fun _ hm=>List.mem_append_right [_] hm); exact h) rfl rfl rfl
 refine Dq rfl (.inl rfl) rfl (fun _ h=>by have h:=Ws.drops h (fun _ hm=>List.mem_append_right [_] hm); exact h) (Ym rfl) ?_
 apply WD.and 4 (x:=true) rfl rfl rfl rfl rfl (.inl rfl) rfl (fun _ h=>by have h:=Ws.drops h (fun _ hm=>List.mem_append_right [_] hm); exact h) rfl rfl rfl rfl
 ·
  intro hg6
  refine Dq rfl (.g rfl rfl rfl) rfl (fun _ h=>by have h:=Ws.drops h (fun _ hm=>List.mem_append_right [_] hm); exact h) (Yf fo27_4 rfl) ?_
  refine Dq rfl (.g rfl rfl rfl) rfl (fun _ h=>by have h:=Ws.drops h (fun _ hm=>List.mem_append_right [_] hm); exact h) (Yd 0 rfl rfl rfl na25) ?_
  refine Dq rfl (.g rfl rfl rfl) rfl (fun _ h=>by have h:=Ws.drops h (fun _ hm=>List.mem_append_right [_] hm); exact h) (Yn es25 rfl) ?_
  refine Dq rfl (.g rfl rfl rfl) rfl (fun _ h=>by have h:=Ws.drops h (fun _ hm=>List.mem_append_right [_] hm); exact h) (yl_eqiY rfl rfl (by rw [top_len]; rfl)) ?_
  exact Gi 4 (fun _ h=>by have h:=Ws.drops h (fun _ hm=>List.mem_append_right [_] hm); exact h) rfl rfl rfl
 refine Dq rfl (.inl rfl) rfl (fun _ h=>by have h:=Ws.drops h (fun _ hm=>List.mem_append_right [_] hm); exact h) (Ym rfl) ?_
 apply WD.and 6 (x:=true) rfl rfl rfl rfl rfl (.inl rfl) rfl (fun _ h=>by have h:=Ws.drops h (fun _ hm=>List.mem_append_right [_] hm); exact h) rfl rfl rfl rfl
 ·
  intro hg7
  refine Dq rfl (.g rfl rfl rfl) rfl (fun _ h=>by have h:=Ws.drops h (fun _ hm=>List.mem_append_right [_] hm); exact h) (Yf fo27_4 rfl) ?_
  refine Dq rfl (.g rfl rfl rfl) rfl (fun _ h=>by have h:=Ws.drops h (fun _ hm=>List.mem_append_right [_] hm); exact h) (Yd 0 rfl rfl rfl na25) ?_
  refine Dq rfl (.g rfl rfl rfl) rfl (fun _ h=>by have h:=Ws.drops h (fun _ hm=>List.mem_append_right [_] hm); exact h) (Yo (i:=0) es25 rfl rfl ha (by rw [htl]; decide)) ?_
  refine Dq rfl (.g rfl rfl rfl) rfl (fun _ h=>by have h:=Ws.drops h (fun _ hm=>List.mem_append_right [_] hm); exact h) (Yf fo43_1 rfl) ?_
  refine Dq rfl (.g rfl rfl rfl) rfl (fun _ h=>by have h:=Ws.drops h (fun _ hm=>List.mem_append_right [_] hm); exact h) (yl_ld 0 na9 rfl rfl (hr 1 _ rfl)) ?_
  refine Dq rfl (.g rfl rfl rfl) rfl (fun _ h=>by have h:=Ws.drops h (fun _ hm=>List.mem_append_right [_] hm); exact h) (yl_eqsY rfl rfl htx) ?_
  exact Gi 6 (fun _ h=>by have h:=Ws.drops h (fun _ hm=>List.mem_append_right [_] hm); exact h) rfl rfl rfl
 refine Dq rfl (.inl rfl) rfl (fun _ h=>by have h:=Ws.drops h (fun _ hm=>List.mem_append_right [_] hm); exact h) (Ya rfl) ?_
 refine WD.nil (fun _ h=>by have h:=Ws.drops h (fun _ hm=>List.mem_append_right [_] hm); exact h) ?_
 refine Et (Crt ?_)
 refine WE.ret1 rfl rfl fun w' hw=>?_
 exact ⟨rfl,hw.fr⟩
end Go.Proofs.YtjfldjidhkfnbaaGreatDoor
end
section
namespace Go.Proofs.YtjfldjidhkfnbaaGreatDoor
open Go.Bw
set_option linter.unusedVariables false
set_option linter.unusedSimpArgs false
theorem en6:Enters Tryz.prog 6:=enters_of Tryz.func6 (by kernel_rfl) rfl
theorem en12:Enters Tryz.prog 12:=enters_of Tryz.func12 (by kernel_rfl) rfl
theorem treeParses_any (G:View) (s:Tx) (w:World) (hG:Le G w) (hz:Laid G) :
   Calls Tryz.prog 5 #[st s] w fun e w'=>e = .returned (.bool true)∧Ext w w':=by
 refine enter Tryz.func5 rfl 28 rfl rfl ?_
 refine CWd (W':=Ws w [] [] [G]) (fun _ e=>by subst e; exact Ws.init (by simp [hG])) ?_
 refine Cs (Cr ?_)
 refine V0 (Ya rfl) ?_
 refine Ln (Et (Cs (Cr ?_)))
 refine V0 (Ym rfl) ?_
 refine Ld (.inl rfl) rfl en11 rfl (fun r:MAt=>.tuple #[.agg (modV ((parseM s).1) r).toArray,.int .i64 ((parseM s).2)]) (fun H r=>RdM 7 6 H r ((parseM s).1)) (fun w hw=>by
     have:=treeParse_any G (s) w (hw.vs _ (by simp)) hz
     exact this) ?_
 intro F9 r9 hf9 h9
 refine V0 (Ym rfl) ?_
 refine V0 (Yx rfl rfl) ?_
 refine V0 (Yx rfl rfl) ?_
 refine WL.alloc (.inl rfl) rfl zr27 fun b3=>?_
 refine Lst 0 (.inl rfl) rfl rfl rfl sz27 rfl rfl rfl ?_
 refine V0 (Ya rfl) ?_
 refine Ln (Et (Cs (Cr ?_)))
 refine V0 (Ym rfl) ?_
 refine Ld (.inl rfl) rfl en12 rfl (fun r:MAt=>.tuple #[.agg (modV (parseM s).1 r).toArray,.int .i64 (parseM s).2]) (fun H r=>RdM 8 6 H r (parseM s).1) (fun w hw=>by
     have:=parseOf_any s w
     rw [←parse_same] at this
     exact this) ?_
 intro F14 r14 hf14 h14
 refine V0 (Ym rfl) ?_
 refine V0 (Yx rfl rfl) ?_
 refine V0 (Yx rfl rfl) ?_
 refine WL.alloc (.inl rfl) rfl zr27 fun b5=>?_
 refine Lst 0 (.inl rfl) rfl rfl rfl sz27 rfl rfl rfl ?_
 refine V0 (Ya rfl) ?_
 refine Ln (Et (Cs (Cr ?_)))
 refine Lp (.inl rfl) rfl en6 rfl (fun w hw=>treeBegun_any G w (hw.vs _ (by simp)) hz) ?_
 refine V0 (Ym rfl) ?_
 apply WL.and 3 (x:=true) rfl rfl rfl rfl (.inl rfl) rfl rfl rfl rfl rfl
 ·
  intro hg0
  refine Lv (.g rfl rfl rfl) rfl (Ym rfl) ?_
  refine Lv (.g rfl rfl rfl) rfl (Ym rfl) ?_
  refine Lv (.g rfl rfl rfl) rfl (yl_eqiY rfl rfl rfl) ?_
  exact Gt 3 rfl rfl rfl
 refine V0 (Ym rfl) ?_
 apply WL.and 3 (x:=true) rfl rfl rfl rfl (.inl rfl) rfl rfl rfl rfl rfl
 ·
  intro hg1
  refine Lv (.g rfl rfl rfl) rfl (Yda 1 rfl rfl ag27 rfl) ?_
  refine Lv (.g rfl rfl rfl) rfl (Yda 0 rfl rfl ag27 rfl) ?_
  refine Lp (.g rfl rfl rfl) rfl en13 rfl (fun w hw=>sameModules_eq F9 F14 7 8 6 6 r9 r14 (parseM s).1 w (hw.vs _ (by simp)) (hw.vs _ (by simp)) h9 h14) ?_
  exact Gt 3 rfl rfl rfl
 refine V0 (Ya rfl) ?_
 refine Ln (Et (Crt ?_))
 refine WE.ret1 rfl rfl fun w' hw=>?_
 exact ⟨rfl,hw.fr⟩
end Go.Proofs.YtjfldjidhkfnbaaGreatDoor
end
