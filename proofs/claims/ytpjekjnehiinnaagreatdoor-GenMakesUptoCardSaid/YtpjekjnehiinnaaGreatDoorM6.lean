/- GenMakes: Gen answers what the document says, whatever it is handed (proved in the second form, bulk at most 1048576). -/
import Derived.Test.YtpjekjnehiinnaaGreatDoorM5
set_option linter.unusedVariables false
set_option linter.unusedSimpArgs false
section
namespace Go.Proofs.YtpjekjnehiinnaaGreatDoor
open Go.Bw
set_option linter.unusedVariables false
set_option linter.unusedSimpArgs false
theorem pl_alone (u:TUnit):PlOk (u::[]) u.uses.length true (knM u::List.replicate u.uses.length noKn):=by
 refine ⟨by simp,fun _ mi h1 h2=>?_,fun mi h1 h2=>?_⟩
 · obtain ⟨j,rfl⟩:∃j,mi=j+1:=⟨mi-1,by omega⟩
   rw [List.getElem?_cons_succ,List.getElem?_replicate,if_pos (by omega)]
 · rw [h2 rfl]; exact ⟨u,rfl,rfl⟩
theorem putG_two (a b:InsG) (g:Gs):putG [b] (putG [a] g)=putG [a,b] g:=by unfold putG; simp
theorem parts_up {l:List TPart} (k:Nat) (g:Gs):(partsG (l.take k) g).2.code.length≤(partsG l g).2.code.length:=by
 have h:partsG l g=partsG (l.take k++l.drop k) g:=by rw [List.take_append_drop]
 rw [h]
 clear h
 generalize l.take k=a
 generalize l.drop k=b
 induction a generalizing g with
 | nil=>exact (partsG_len b g).1.lo
 | cons p r ih=>exact ih (g:=partG p.params p.locals p.body g)
theorem over_many {u:TUnit} {k:Nat} (h:2048<(partsG (u.parts.take k) ⟨[],[]⟩).2.code.length):2048<(unitG u).g.code.length:=by
 have h1:=parts_up (l:=u.parts) k ⟨[],[]⟩
 have h2:=(partG_len 0 0 u.main (partsG u.parts ⟨[],[]⟩).2).lo
 show 2048<(partG 0 0 u.main (partsG u.parts ⟨[],[]⟩).2).code.length
 omega
theorem en26:Enters Tryz.prog 26:=enters_of Tryz.func26 (by kernel_rfl) rfl
theorem pl68:placesP Tryz.prog 68=some [(0,7)]:=by kernel_rfl
theorem zr68:zeroOf Tryz.prog 68=some (.agg #[st [],.slice none 0 0,.int .i64 0,.slice none 0 0,.slice none 0 0,.slice none 0 0,.int .i64 0]):=by kernel_rfl
theorem genOf_any (H:View) (ke k:Nat) (u:TUnit) (r:UAt) (w:World) (hH:Le H w) (hu:RdU ke k H r u) (hub:wUn u≤1048576) :
   Calls Tryz.prog 10 #[.agg (unitV u r).toArray] w fun e w'=>∃q:OAt,e = .returned (.tuple #[.agg (objV (genM u).1 q).toArray,.int .i64 (genM u).2])∧Ext w w'∧RdOb (nv w w') q (genM u).1:=by
 have hcap:=hu.uses.cap
 have hmax:=hu.uses.max
 have hpcap:=hu.parts.cap
 have hpmax:=hu.parts.max
 have hwu:=wUn_eq u
 have hwn:=wN_len u.uses
 have hwp:=wPts_len u.parts
 refine enter Tryz.func10 rfl 111 rfl rfl ?_
 refine CWd (W':=Ws w [] [] [H]) (fun _ e=>by subst e; exact Ws.init (by simp [hH])) ?_
 refine Cs (Cr ?_)
 refine WL.box (.inl rfl) rfl rfl fun b1=>?_
 refine WL.alloc (.inl rfl) rfl zr31 fun b2=>?_
 refine V0 (Ya rfl) (Ln (Et (Cs (Cs (Cr (V0 (Yda 1 rfl rfl ag26 rfl) ?_))))))
 refine Lp (.inl rfl) rfl en26 rfl (fun w hw=>unitFine_any H H ke k u r [] none 0 true (List.replicate u.uses.length noKn) w (hw.vs H (by simp)) (hw.vs H (by simp)) hu Sl.nil (Nat.zero_le _) (pl_alone u)) ?_
 refine V0 (yl_not rfl) (Ln (Et ?_))
 refine Cc rfl (fun hc0=>?_) (fun hc0=>?_)
 ·
  have hx:aloneB u=false:=by
    show fineU u _=false
    simpa using hc0
  refine Cs (Cr (V0 (Yb zr31 pl31 rfl rfl) (Lst 0 (.inl rfl) rfl rfl rfl sz31 rfl rfl rfl (V0 (Ya rfl) (Ln (Et (Crt (Er ?_))))))))
  refine WE.retc2 0 rfl rfl rfl rfl ag31 rfl fun w' hw=>?_
  rw [show genM u=(noObj,1) from by rw [genM,if_pos hx]]
  exact ⟨noOAt,rfl,hw.fr,noObj_rd _⟩
 ·
  have hx:aloneB u=true:=by
    show fineU u _=true
    simpa using hc0
  obtain ⟨hop,hom⟩:=alone_parts hx
  refine Ck (Et (Cs ?_))
  refine CU (fun _=>true) [] [] (.q false 0 (.q true 1 (.q false 3 (.q true 4 (.q false 6 (.q true 7 (.e 2 (.e 5 (.q false 8 (.q false 9 (.e 10 (.q false 11 .nil) .stop))) .stop) .stop))))))) mixed (by kernel_rfl) (fun _ _ _ d _ _ h=>by cases d<;>exact h) ?_
  refine Uq rfl (.inl rfl) rfl (fun _ h=>h) (Yf fo26_0 rfl) ?_
  refine Uq rfl (.inl rfl) rfl (fun _ h=>h) (Yd 1 rfl rfl rfl na9) ?_
  refine Uq rfl (.inl rfl) rfl (fun _ h=>h) (Yf fo26_1 rfl) ?_
  refine Uq rfl (.inl rfl) rfl (fun _ h=>h) (Yd 1 rfl rfl rfl na22) ?_
  refine Uq rfl (.inl rfl) rfl (fun _ h=>h) (Yf fo26_2 rfl) ?_
  refine Uq rfl (.inl rfl) rfl (fun _ h=>h) (Yd 1 rfl rfl rfl na3) ?_
  refine Ue rfl (fun _ h=>h) ?_ WU.stop
  refine WL.bslice (.inl rfl) rfl el22 rfl rfl rfl fun b12=>?_
  refine WL.asOsl (size:=1) 0 rfl (Nat.le_refl 0) (Nat.zero_le _) rfl ?_
  refine WL.reosl 0 ([]:List (List UInt8)).length (([]:List (List UInt8)).flatMap strC) rfl rfl rfl ?_
  refine Ln (Eu ?_)
  refine Ue rfl (fun _ h=>by have h:=Ws.drop (L:=[_]) (L':=_) h; exact h) ?_ WU.stop
  refine WL.appendL (f:=strC) (rd:=rdStr) (xs:=[]) (ys:=u.uses) 0 (fun _=>H) (.inl rfl) rfl el22 rfl rfl rfl (fun w hw=>⟨hw.vs H (by simp),hu.uses⟩) (fun _ _ _ _ h=>h) strC_len (fun _=>rfl) (by simp; omega) (by simp; omega) fun a15 c15=>?_
  rw [List.nil_append]
  refine Ln (Eu ?_)
  refine Uq rfl (.inl rfl) rfl (fun _ h=>by have h:=Ws.drop (L:=[_]) (L':=_) h; exact h) (Yb zr31 pl31 rfl rfl) ?_
  refine Uq rfl (.inl rfl) rfl (fun _ h=>by have h:=Ws.drop (L:=[_]) (L':=_) h; exact h) (Yb zr68 pl68 rfl rfl) ?_
  refine Ue rfl (fun _ h=>by have h:=Ws.drop (L:=[_]) (L':=_) h; exact h) ?_ WU.stop
  refine WL.box (.inl rfl) rfl rfl fun b20=>?_
  refine Ln (Eu ?_)
  refine Uq rfl (.inl rfl) rfl (fun _ h=>by have h:=Ws.drop (L:=[_,_]) (L':=_) h; exact h) (Ya rfl) ?_
  refine WU.nil (fun _ h=>by have h:=Ws.drop (L:=[_,_]) (L':=_) h; exact h) ?_
  refine WS.nil ?_
  refine Et (Cs (Cs ?_))
  obtain ⟨sb,hsb⟩:∃s,s=b20:=⟨_,rfl⟩
  subst hsb
  refine Crb 0 (gob 68 (⟨u.nm,.slice a15 u.uses.length c15,u.data,.slice none 0 0,.int .i64 0⟩:ObjK) ⟨⟨[],[]⟩,(none,0),(none,0)⟩) rfl rfl ?_
  refine CWd (fun _ h=>h.osl_nil 3 1) ?_
  refine CWd (fun _ h=>h.osl_nil 54 3) ?_
  refine CWd (fun _ h=>h.osl_nil 56 3) ?_
  refine Cr (V0 (Ya rfl) (Ln (Et (Cb ?_))))
  refine CK (ι:=Nat×(SP×SP)×SP) (fun g=>[(5,.int .i64 (g.1:Int))]) [(1,_),(2,_),(4,_)] (fun g=>Ws w [] ((gown 68 56 54 sb (⟨u.nm,.slice a15 u.uses.length c15,u.data,.slice g.2.2.1 (partsG (u.parts.take g.1) ⟨[],[]⟩).1.length g.2.2.2,.int .i64 0⟩:ObjK) ⟨(partsG (u.parts.take g.1) ⟨[],[]⟩).2,g.2.1.1,g.2.1.2⟩)++[osT 3 1 ntC g.2.2.1 g.2.2.2 (partsG (u.parts.take g.1) ⟨[],[]⟩).1,osT 9 1 strC a15 c15 u.uses,blk b2 (.cells (Value.cells (.agg #[st [],.slice none 0 0,.int .i64 0,.slice none 0 0,.slice none 0 0,.slice none 0 0,.int .i64 0])) 31 (0,0)),blk b1 (.cells (unitV u r).toArray 26 (0,0))]) [H]) (fun g=>g.1≤u.parts.length) (fun g=>u.parts.length-g.1) (0,(((none,0),(none,0)),(none,0))) (Nat.zero_le _) (sc rfl (sc rfl (sc rfl (sc rfl sn)))) (fun _ h=>by have h:=h.fronti 6 rfl; have h:=h.fronti 6 rfl; have h:=h.fronti 6 rfl; have h:=h.fronti 5 rfl; have h:=h.fronti 5 rfl; have h:=h.fronti 5 rfl; have h:=h.fronti 6 rfl; exact h) ?_
  intro g hgi
  refine Cs (Cs (Cr (V0 (Ym rfl) (V0 (Yf fo26_3 rfl) (V0 (Yd 6 rfl rfl rfl na23) (V0 (Yn es23 rfl) (V0 (yl_lt rfl rfl) ?_)))))))
  refine Ln (Et ?_)
  refine Cc rfl (fun hc1=>?_) (fun hc1=>?_)
  ·
   have hlt:g.1<u.parts.length:=by simpa using hc1
   obtain ⟨x,hxi⟩:∃q,u.parts[g.1]? = some q:=⟨_,List.getElem?_eq_getElem hlt⟩
   obtain ⟨pbx,pox,hax,hrx⟩:=hu.parts.elt g.1 x hxi
   obtain ⟨xr,hrow,hsub⟩:=hrx
   have hww:=wPts_mem hxi
   have hpl:=partsG_len (u.parts.take g.1) ⟨[],[]⟩
   have hh1:(partsG (u.parts.take g.1) ⟨[],[]⟩).2.code.length≤8*wPts (u.parts.take g.1):=by have h9:=hpl.1.hi; simpa using h9
   have hh2:(partsG (u.parts.take g.1) ⟨[],[]⟩).2.fix.length≤8*wPts (u.parts.take g.1):=by have h9:=hpl.1.fhi; simpa using h9
   have hel:(partsG (u.parts.take g.1) ⟨[],[]⟩).1.length=g.1:=by rw [hpl.2,List.length_take]; omega
   have hwx:wPt x=1+wAcs x.body:=rfl
   have hok:=hop x (List.mem_of_getElem? hxi)
   have hT:=partsG_take hxi ⟨[],[]⟩
   have hT1:(partsG (u.parts.take (g.1+1)) ⟨[],[]⟩).1=(partsG (u.parts.take g.1) ⟨[],[]⟩).1++[(partsG (u.parts.take g.1) ⟨[],[]⟩).2.code.length]:=by rw [hT]
   have hT2:(partsG (u.parts.take (g.1+1)) ⟨[],[]⟩).2=(putG [⟨15,0,0⟩] (putG [⟨1,0,0⟩] (actsG x.body (putG [⟨14,x.params,x.locals⟩] (partsG (u.parts.take g.1) ⟨[],[]⟩).2)))):=by rw [hT,putG_two]; rfl
   have hgb:=actsG_len x.body (putG [⟨14,x.params,x.locals⟩] (partsG (u.parts.take g.1) ⟨[],[]⟩).2)
   have hb1:=hgb.hi
   have hb2:=hgb.fhi
   have hb3:=hgb.lo
   try simp only [gsL9] at hb1 hb2 hb3
   refine Ck (Et (Cs (Cb (Cs ?_))))
   refine CU (fun _=>true) [3] [17] (.q false 0 (.q false 1 (.q false 2 (.q false 3 (.q false 4 (.q true 5 (.q false 6 (.q false 7 (.q false 8 (.q false 9 (.q true 10 (.q false 11 (.e 12 (.e 13 (.q false 14 (.q false 15 (.q false 16 .nil))) .stop) .stop))))))))))))) mixed (by kernel_rfl) (fun _ _ _ d _ _ h=>by cases d<;>exact h) ?_
   refine Uq rfl (.inl rfl) rfl (fun _ h=>by have h:=Ws.out 3 h; exact h) (Ym rfl) ?_
   refine Uq rfl (.inl rfl) rfl (fun _ h=>by have h:=Ws.out 3 h; exact h) (Ym rfl) ?_
   refine Uq rfl (.inl rfl) rfl (fun _ h=>by have h:=Ws.out 3 h; exact h) (yl_nil rfl) ?_
   refine Uq rfl (.inl rfl) rfl (fun _ h=>by have h:=Ws.out 3 h; exact h) (Yf fo68_0 rfl) ?_
   refine Uq rfl (.inl rfl) rfl (fun _ h=>by have h:=Ws.out 3 h; exact h) (Yf fo31_5 rfl) ?_
   refine Uq rfl (.inl rfl) rfl (fun _ h=>by have h:=Ws.out 3 h; exact h) (Yd 0 rfl rfl rfl na29) ?_
   refine Uq rfl (.inl rfl) rfl (fun _ h=>by have h:=Ws.out 3 h; exact h) (Ym rfl) ?_
   refine Uq rfl (.inl rfl) rfl (fun _ h=>by have h:=Ws.out 3 h; exact h) (yl_nil rfl) ?_
   refine Uq rfl (.inl rfl) rfl (fun _ h=>by have h:=Ws.out 3 h; exact h) (Yf fo68_0 rfl) ?_
   refine Uq rfl (.inl rfl) rfl (fun _ h=>by have h:=Ws.out 3 h; exact h) (Yf fo31_3 rfl) ?_
   refine Uq rfl (.inl rfl) rfl (fun _ h=>by have h:=Ws.out 3 h; exact h) (Yd 0 rfl rfl rfl na27) ?_
   refine Uq rfl (.inl rfl) rfl (fun _ h=>by have h:=Ws.out 3 h; exact h) (Yn es27 rfl) ?_
   refine Ue rfl (fun _ h=>by have h:=Ws.out 3 h; exact h) ?_ WU.stop
   refine Lb (.inl rfl) rfl el29 rfl rfl rfl rfl fun b40=>?_
   refine Lrb 0 (.cells (ntC (partsG (u.parts.take g.1) ⟨[],[]⟩).2.code.length).toArray 3 (0,0)) rfl (rfl) ?_
   refine Ln (Eu ?_)
   refine Ue rfl (fun _ h=>by have h:=Ws.drop (L:=[_]) (L':=_) h; have h:=Ws.out 3 h; exact h) ?_ WU.stop
   refine LA ((partsG (u.parts.take g.1) ⟨[],[]⟩).2.code.length) 4 0 (.inl rfl) rfl el29 rfl rfl rfl rfl rfl rfl (by omega) (by omega) fun a41 c41=>?_
   refine Ln (Eu ?_)
   refine Uq rfl (.inl rfl) rfl (fun _ h=>by have h:=Ws.drop (L:=[_]) (L':=_) h; have h:=Ws.out 3 h; exact h) (yl_nil rfl) ?_
   refine Uq rfl (.inl rfl) rfl (fun _ h=>by have h:=Ws.drop (L:=[_]) (L':=_) h; have h:=Ws.out 3 h; exact h) (Yf fo68_0 rfl) ?_
   refine Uq rfl (.inl rfl) rfl (fun _ h=>by have h:=Ws.drop (L:=[_]) (L':=_) h; have h:=Ws.out 3 h; exact h) (Yf fo31_5 rfl) ?_
   refine WU.nil (fun _ h=>by have h:=Ws.drop (L:=[_]) (L':=_) h; have h:=Ws.out 3 h; exact h) ?_
   refine WS.e rfl ?_
   refine Lst 1 (.inl rfl) rfl rfl rfl sz29 rfl rfl rfl (Ln (Es ?_))
   refine WS.nil ?_
   refine Et (Cs ?_)
   rw [←hT1]
   refine Crb 1 (gob 68 (⟨u.nm,.slice a15 u.uses.length c15,u.data,.slice a41 (partsG (u.parts.take (g.1+1)) ⟨[],[]⟩).1.length c41,.int .i64 0⟩:ObjK) (⟨(partsG (u.parts.take g.1) ⟨[],[]⟩).2,g.2.1.1,g.2.1.2⟩:GsA)) rfl (by rw [hT1]; rfl) ?_
   refine CU (fun _=>true) [1,1,1] [] (.q false 0 (.q false 1 (.q true 2 (.q false 3 (.q false 4 (.q false 5 (.q true 6 (.q false 7 (.q true 8 (.q false 9 (.q false 10 (.q false 11 (.q true 12 (.e 13 .nil .stop)))))))))))))) mixed (by kernel_rfl) (fun _ _ _ d _ _ h=>by cases d<;>exact h) ?_
   refine Uq rfl (.inl rfl) rfl (fun _ h=>by have h:=Ws.out 1 h; have h:=Ws.out 1 h; have h:=Ws.out 1 h; exact h) (Ym rfl) ?_
   refine Uq rfl (.inl rfl) rfl (fun _ h=>by have h:=Ws.out 1 h; have h:=Ws.out 1 h; have h:=Ws.out 1 h; exact h) (Yf fo26_3 rfl) ?_
   refine Uq rfl (.inl rfl) rfl (fun _ h=>by have h:=Ws.out 1 h; have h:=Ws.out 1 h; have h:=Ws.out 1 h; exact h) (Yd 4 rfl rfl rfl na23) ?_
   refine Uq rfl (.inl rfl) rfl (fun _ h=>by have h:=Ws.out 1 h; have h:=Ws.out 1 h; have h:=Ws.out 1 h; exact h) (Ym rfl) ?_
   refine Uq rfl (.inl rfl) rfl (fun _ h=>by have h:=Ws.out 1 h; have h:=Ws.out 1 h; have h:=Ws.out 1 h; exact h) (Yo es23 rfl rfl hax hlt) ?_
   refine Uq rfl (.inl rfl) rfl (fun _ h=>by have h:=Ws.out 1 h; have h:=Ws.out 1 h; have h:=Ws.out 1 h; exact h) (Yf fo63_0 rfl) ?_
   refine Uq rfl (.inl rfl) rfl (fun _ h=>by have h:=Ws.out 1 h; have h:=Ws.out 1 h; have h:=Ws.out 1 h; exact h) (yl_ld 0 na3 rfl rfl (hrow 0 _ rfl)) ?_
   refine Uq rfl (.inl rfl) rfl (fun _ h=>by have h:=Ws.out 1 h; have h:=Ws.out 1 h; have h:=Ws.out 1 h; exact h) (Yf fo26_3 rfl) ?_
   refine Uq rfl (.inl rfl) rfl (fun _ h=>by have h:=Ws.out 1 h; have h:=Ws.out 1 h; have h:=Ws.out 1 h; exact h) (Yd 4 rfl rfl rfl na23) ?_
   refine Uq rfl (.inl rfl) rfl (fun _ h=>by have h:=Ws.out 1 h; have h:=Ws.out 1 h; have h:=Ws.out 1 h; exact h) (Ym rfl) ?_
   refine Uq rfl (.inl rfl) rfl (fun _ h=>by have h:=Ws.out 1 h; have h:=Ws.out 1 h; have h:=Ws.out 1 h; exact h) (Yo es23 rfl rfl hax hlt) ?_
   refine Uq rfl (.inl rfl) rfl (fun _ h=>by have h:=Ws.out 1 h; have h:=Ws.out 1 h; have h:=Ws.out 1 h; exact h) (Yf fo63_1 rfl) ?_
   refine Uq rfl (.inl rfl) rfl (fun _ h=>by have h:=Ws.out 1 h; have h:=Ws.out 1 h; have h:=Ws.out 1 h; exact h) (yl_ld 0 na3 rfl rfl (hrow 1 _ rfl)) ?_
   refine Ue rfl (fun _ h=>by have h:=Ws.out 1 h; have h:=Ws.out 1 h; have h:=Ws.out 1 h; exact h) ?_ WU.stop
   refine Lf 3 rfl (Lf 3 rfl (Lf 3 rfl ?_))
   refine Lw (ι:=SP×SP) [_,_,_] _ (.inl rfl) rfl en27 rfl rfl (fun _=>.int .i64 (((partsG (u.parts.take g.1) ⟨[],[]⟩).2).code.length:Int)) (fun q=>(gown 68 56 54 sb (⟨u.nm,.slice a15 u.uses.length c15,u.data,.slice a41 (partsG (u.parts.take (g.1+1)) ⟨[],[]⟩).1.length c41,.int .i64 0⟩:ObjK) ⟨putG [⟨14,x.params,x.locals⟩] ((partsG (u.parts.take g.1) ⟨[],[]⟩).2),q.1,q.2⟩)) (fun _=>True) [] (by simp) (fun w hw=>(pput_any sb (⟨u.nm,.slice a15 u.uses.length c15,u.data,.slice a41 (partsG (u.parts.take (g.1+1)) ⟨[],[]⟩).1.length c41,.int .i64 0⟩:ObjK) (⟨(partsG (u.parts.take g.1) ⟨[],[]⟩).2,g.2.1.1,g.2.1.2⟩:GsA)  (14) (x.params) (x.locals) w  (by show ((partsG (u.parts.take g.1) ⟨[],[]⟩).2).code.length+1≤_; (try simp only [gsL9]); omega) (by show ((partsG (u.parts.take g.1) ⟨[],[]⟩).2).fix.length+1≤_; (try simp only [gsL9]); omega) hw).mono fun e w' ⟨q,h1,h2⟩=>⟨q,h1,trivial,h2⟩) ?_
   intro q58 _
   refine Ln (Eu ?_)
   refine WU.nil (fun _ h=>by have h:=h.fronti 7 rfl; have h:=h.fronti 7 rfl; have h:=h.fronti 7 rfl; have h:=h.fronti 7 rfl; have h:=h.fronti 6 rfl; have h:=h.fronti 6 rfl; have h:=h.fronti 6 rfl; have h:=h.fronti 7 rfl; have h:=Ws.out 1 h; have h:=Ws.out 1 h; have h:=Ws.out 1 h; exact h) ?_
   refine WS.nil ?_
   refine Et (Cs (Cr (V0 (Ym rfl) (V0 (Yf fo26_3 rfl) (V0 (Yd 7 rfl rfl rfl na23) (V0 (Ym rfl) (V0 (Yo es23 rfl rfl hax hlt) ?_)))))))
   refine V0 (Yf fo63_2 rfl) (V0 (yl_ld 0 na24 rfl rfl (hrow 2 _ rfl)) (Lf 2 rfl (Lf 2 rfl (Lf 2 rfl ?_))))
   refine Lw (ι:=SP×SP) [_,_,_] _ (.inl rfl) rfl en28 rfl rfl (fun _=>.tuple #[]) (fun q=>(gown 68 56 54 sb (⟨u.nm,.slice a15 u.uses.length c15,u.data,.slice a41 (partsG (u.parts.take (g.1+1)) ⟨[],[]⟩).1.length c41,.int .i64 0⟩:ObjK) ⟨actsG x.body ((putG [⟨14,x.params,x.locals⟩] (partsG (u.parts.take g.1) ⟨[],[]⟩).2)),q.1,q.2⟩)) (fun _=>True) [H] (by simp) (fun w hw=>(pacts_any sb (⟨u.nm,.slice a15 u.uses.length c15,u.data,.slice a41 (partsG (u.parts.take (g.1+1)) ⟨[],[]⟩).1.length c41,.int .i64 0⟩:ObjK) (⟨(putG [⟨14,x.params,x.locals⟩] (partsG (u.parts.take g.1) ⟨[],[]⟩).2),q58.1,q58.2⟩:GsA) H ke k x.body xr.1 xr.2 w hsub hok (by show ((putG [⟨14,x.params,x.locals⟩] (partsG (u.parts.take g.1) ⟨[],[]⟩).2)).code.length+8*wAcs x.body≤_; (try simp only [gsL9]); omega) (by show ((putG [⟨14,x.params,x.locals⟩] (partsG (u.parts.take g.1) ⟨[],[]⟩).2)).fix.length+8*wAcs x.body≤_; (try simp only [gsL9]); omega) hw).mono fun e w' ⟨q,h1,h2⟩=>⟨q,h1,trivial,h2⟩) ?_
   intro q66 _
   refine Ln (Et (Cs (Cr (V0 (Ym rfl) (Lf 2 rfl (Lf 2 rfl (Lf 2 rfl ?_)))))))
   refine Lw (ι:=SP×SP) [_,_,_] _ (.inl rfl) rfl en27 rfl rfl (fun _=>.int .i64 (((actsG x.body (putG [⟨14,x.params,x.locals⟩] (partsG (u.parts.take g.1) ⟨[],[]⟩).2))).code.length:Int)) (fun q=>(gown 68 56 54 sb (⟨u.nm,.slice a15 u.uses.length c15,u.data,.slice a41 (partsG (u.parts.take (g.1+1)) ⟨[],[]⟩).1.length c41,.int .i64 0⟩:ObjK) ⟨putG [⟨1,0,0⟩] ((actsG x.body (putG [⟨14,x.params,x.locals⟩] (partsG (u.parts.take g.1) ⟨[],[]⟩).2))),q.1,q.2⟩)) (fun _=>True) [] (by simp) (fun w hw=>(pput_any sb (⟨u.nm,.slice a15 u.uses.length c15,u.data,.slice a41 (partsG (u.parts.take (g.1+1)) ⟨[],[]⟩).1.length c41,.int .i64 0⟩:ObjK) (⟨(actsG x.body (putG [⟨14,x.params,x.locals⟩] (partsG (u.parts.take g.1) ⟨[],[]⟩).2)),q66.1,q66.2⟩:GsA)  (1) (0) (0) w  (by show ((actsG x.body (putG [⟨14,x.params,x.locals⟩] (partsG (u.parts.take g.1) ⟨[],[]⟩).2))).code.length+1≤_; (try simp only [gsL9]); omega) (by show ((actsG x.body (putG [⟨14,x.params,x.locals⟩] (partsG (u.parts.take g.1) ⟨[],[]⟩).2))).fix.length+1≤_; (try simp only [gsL9]); omega) hw).mono fun e w' ⟨q,h1,h2⟩=>⟨q,h1,trivial,h2⟩) ?_
   intro q68 _
   refine Ln (Et (Cs (Cr (V0 (Ym rfl) (Lf 2 rfl (Lf 2 rfl (Lf 2 rfl ?_)))))))
   refine Lw (ι:=SP×SP) [_,_,_] _ (.inl rfl) rfl en27 rfl rfl (fun _=>.int .i64 (((putG [⟨1,0,0⟩] (actsG x.body (putG [⟨14,x.params,x.locals⟩] (partsG (u.parts.take g.1) ⟨[],[]⟩).2)))).code.length:Int)) (fun q=>(gown 68 56 54 sb (⟨u.nm,.slice a15 u.uses.length c15,u.data,.slice a41 (partsG (u.parts.take (g.1+1)) ⟨[],[]⟩).1.length c41,.int .i64 0⟩:ObjK) ⟨putG [⟨15,0,0⟩] ((putG [⟨1,0,0⟩] (actsG x.body (putG [⟨14,x.params,x.locals⟩] (partsG (u.parts.take g.1) ⟨[],[]⟩).2)))),q.1,q.2⟩)) (fun _=>True) [] (by simp) (fun w hw=>(pput_any sb (⟨u.nm,.slice a15 u.uses.length c15,u.data,.slice a41 (partsG (u.parts.take (g.1+1)) ⟨[],[]⟩).1.length c41,.int .i64 0⟩:ObjK) (⟨(putG [⟨1,0,0⟩] (actsG x.body (putG [⟨14,x.params,x.locals⟩] (partsG (u.parts.take g.1) ⟨[],[]⟩).2))),q68.1,q68.2⟩:GsA)  (15) (0) (0) w  (by show ((putG [⟨1,0,0⟩] (actsG x.body (putG [⟨14,x.params,x.locals⟩] (partsG (u.parts.take g.1) ⟨[],[]⟩).2)))).code.length+1≤_; (try simp only [gsL9]); omega) (by show ((putG [⟨1,0,0⟩] (actsG x.body (putG [⟨14,x.params,x.locals⟩] (partsG (u.parts.take g.1) ⟨[],[]⟩).2)))).fix.length+1≤_; (try simp only [gsL9]); omega) hw).mono fun e w' ⟨q,h1,h2⟩=>⟨q,h1,trivial,h2⟩) ?_
   intro q70 _
   refine Ln (Et (Cs (Cr (V0 (Ym rfl) (V0 (yl_nil rfl) (V0 (Yf fo68_0 rfl) (V0 (Yf fo31_3 rfl) (V0 (Yd 0 rfl rfl rfl na27) ?_))))))))
   refine V0 (Yn es27 rfl) (V0 (yl_gt rfl rfl) (Ln (Et ?_)))
   refine Cc rfl (fun hc2=>?_) (fun hc2=>?_)
   ·
    have hlen:2048<(unitG u).g.code.length:=by
      refine over_many (k:=g.1+1) ?_
      rw [hT2]
      have h9:=hc2
      simp at h9
      show 2048<(putG [⟨15,0,0⟩] (putG [⟨1,0,0⟩] (actsG x.body (putG [⟨14,x.params,x.locals⟩] (partsG (u.parts.take g.1) ⟨[],[]⟩).2)))).code.length
      omega
    refine Cs (Cr (V0 (Yb zr31 pl31 rfl rfl) (Lst 6 (.inl rfl) rfl rfl rfl sz31 rfl rfl rfl (V0 (Ya rfl) (Ln (Et (Crt (Ebr (Er (Er (Ebr (Er ?_))))))))))))
    refine WE.retc2 6 rfl rfl rfl rfl ag31 rfl fun w' hw=>?_
    rw [show genM u=(noObj,2) from by rw [genM,if_neg (by rw [hx]; decide),if_pos hlen]]
    exact ⟨noOAt,rfl,hw.fr,noObj_rd _⟩
   ·
    refine Ck (Eb (Et (Cr (V0 (Ym rfl) ?_))))
    refine V0 (Yi rfl rfl rfl (by omega)) ?_
    refine V0 (Ya rfl) (Ln ?_)
    rw [←hT2]
    exact Ea ((g.1+1,(q70,(a41,c41))):Nat×(SP×SP)×SP) (by show _-(g.1+1)<_; omega) (by show g.1+1≤_; omega) (sc rfl (sc rfl (sc rfl (sc rfl sn)))) (fun _ h=>by have h:=h.fronti 7 rfl; have h:=h.fronti 7 rfl; have h:=h.fronti 7 rfl; have h:=h.fronti 7 rfl; have h:=h.fronti 6 rfl; have h:=h.fronti 6 rfl; have h:=h.fronti 6 rfl; have h:=Ws.keep (L:=[_,_,_,_,_,_,_]) h; exact h)
  ·
   have hge:g.1=u.parts.length:=by simp at hc1; omega
   rw [hge,List.take_length]
   have hpl:=partsG_len u.parts ⟨[],[]⟩
   have hh1:(partsG u.parts ⟨[],[]⟩).2.code.length≤8*wPts u.parts:=by have h9:=hpl.1.hi; simpa using h9
   have hh2:(partsG u.parts ⟨[],[]⟩).2.fix.length≤8*wPts u.parts:=by have h9:=hpl.1.fhi; simpa using h9
   have hgm:=actsG_len u.main (putG [⟨14,0,0⟩] (partsG u.parts ⟨[],[]⟩).2)
   have hm1:=hgm.hi
   have hm2:=hgm.fhi
   have hm3:=hgm.lo
   try simp only [gsL9] at hm1 hm2 hm3
   refine Ce (Ex (Ex (Ebh (Et (Cs (Cr (V0 (Ym rfl) (V0 (Ym rfl) (V0 (yl_nil rfl) (V0 (Yf fo68_0 rfl) ?_))))))))))
   refine V0 (Yf fo31_3 rfl) (V0 (Yd 0 rfl rfl rfl na27) (V0 (Yn es27 rfl) (V0 (yl_nil rfl) (V0 (Yf fo68_0 rfl) (V0 (Yf fo31_6 rfl) ?_)))))
   refine Lst 0 (.inl rfl) rfl rfl rfl sz3 rfl rfl rfl (Ln (Et (Cs ?_)))
   refine Crb 0 (gob 68 (⟨u.nm,.slice a15 u.uses.length c15,u.data,.slice g.2.2.1 (partsG u.parts ⟨[],[]⟩).1.length g.2.2.2,.int .i64 ((partsG u.parts ⟨[],[]⟩).2.code.length:Int)⟩:ObjK) (⟨(partsG u.parts ⟨[],[]⟩).2,g.2.1.1,g.2.1.2⟩:GsA)) rfl rfl ?_
   refine Cr (V0 (Ym rfl) (Lf 2 rfl (Lf 2 rfl (Lf 2 rfl ?_))))
   refine Lw (ι:=SP×SP) [_,_,_] _ (.inl rfl) rfl en27 rfl rfl (fun _=>.int .i64 (((partsG u.parts ⟨[],[]⟩).2).code.length:Int)) (fun q=>(gown 68 56 54 sb (⟨u.nm,.slice a15 u.uses.length c15,u.data,.slice g.2.2.1 (partsG u.parts ⟨[],[]⟩).1.length g.2.2.2,.int .i64 ((partsG u.parts ⟨[],[]⟩).2.code.length:Int)⟩:ObjK) ⟨putG [⟨14,0,0⟩] ((partsG u.parts ⟨[],[]⟩).2),q.1,q.2⟩)) (fun _=>True) [] (by simp) (fun w hw=>(pput_any sb (⟨u.nm,.slice a15 u.uses.length c15,u.data,.slice g.2.2.1 (partsG u.parts ⟨[],[]⟩).1.length g.2.2.2,.int .i64 ((partsG u.parts ⟨[],[]⟩).2.code.length:Int)⟩:ObjK) (⟨(partsG u.parts ⟨[],[]⟩).2,g.2.1.1,g.2.1.2⟩:GsA)  (14) (0) (0) w  (by show ((partsG u.parts ⟨[],[]⟩).2).code.length+1≤_; (try simp only [gsL9]); omega) (by show ((partsG u.parts ⟨[],[]⟩).2).fix.length+1≤_; (try simp only [gsL9]); omega) hw).mono fun e w' ⟨q,h1,h2⟩=>⟨q,h1,trivial,h2⟩) ?_
   intro q90 _
   refine Ln (Et (Cs (Cr (V0 (Ym rfl) (V0 (Yf fo26_4 rfl) (V0 (Yd 6 rfl rfl rfl na24) (Lf 2 rfl (Lf 2 rfl ?_))))))))
   refine Lf 2 rfl ?_
   refine Lw (ι:=SP×SP) [_,_,_] _ (.inl rfl) rfl en28 rfl rfl (fun _=>.tuple #[]) (fun q=>(gown 68 56 54 sb (⟨u.nm,.slice a15 u.uses.length c15,u.data,.slice g.2.2.1 (partsG u.parts ⟨[],[]⟩).1.length g.2.2.2,.int .i64 ((partsG u.parts ⟨[],[]⟩).2.code.length:Int)⟩:ObjK) ⟨actsG u.main ((putG [⟨14,0,0⟩] (partsG u.parts ⟨[],[]⟩).2)),q.1,q.2⟩)) (fun _=>True) [H] (by simp) (fun w hw=>(pacts_any sb (⟨u.nm,.slice a15 u.uses.length c15,u.data,.slice g.2.2.1 (partsG u.parts ⟨[],[]⟩).1.length g.2.2.2,.int .i64 ((partsG u.parts ⟨[],[]⟩).2.code.length:Int)⟩:ObjK) (⟨(putG [⟨14,0,0⟩] (partsG u.parts ⟨[],[]⟩).2),q90.1,q90.2⟩:GsA) H ke k u.main r.s3.1 r.s3.2 w hu.main hom (by show ((putG [⟨14,0,0⟩] (partsG u.parts ⟨[],[]⟩).2)).code.length+8*wAcs u.main≤_; (try simp only [gsL9]); omega) (by show ((putG [⟨14,0,0⟩] (partsG u.parts ⟨[],[]⟩).2)).fix.length+8*wAcs u.main≤_; (try simp only [gsL9]); omega) hw).mono fun e w' ⟨q,h1,h2⟩=>⟨q,h1,trivial,h2⟩) ?_
   intro q94 _
   refine Ln (Et (Cs (Cr (V0 (Ym rfl) (Lf 2 rfl (Lf 2 rfl (Lf 2 rfl ?_)))))))
   refine Lw (ι:=SP×SP) [_,_,_] _ (.inl rfl) rfl en27 rfl rfl (fun _=>.int .i64 (((actsG u.main (putG [⟨14,0,0⟩] (partsG u.parts ⟨[],[]⟩).2))).code.length:Int)) (fun q=>(gown 68 56 54 sb (⟨u.nm,.slice a15 u.uses.length c15,u.data,.slice g.2.2.1 (partsG u.parts ⟨[],[]⟩).1.length g.2.2.2,.int .i64 ((partsG u.parts ⟨[],[]⟩).2.code.length:Int)⟩:ObjK) ⟨putG [⟨1,0,0⟩] ((actsG u.main (putG [⟨14,0,0⟩] (partsG u.parts ⟨[],[]⟩).2))),q.1,q.2⟩)) (fun _=>True) [] (by simp) (fun w hw=>(pput_any sb (⟨u.nm,.slice a15 u.uses.length c15,u.data,.slice g.2.2.1 (partsG u.parts ⟨[],[]⟩).1.length g.2.2.2,.int .i64 ((partsG u.parts ⟨[],[]⟩).2.code.length:Int)⟩:ObjK) (⟨(actsG u.main (putG [⟨14,0,0⟩] (partsG u.parts ⟨[],[]⟩).2)),q94.1,q94.2⟩:GsA)  (1) (0) (0) w  (by show ((actsG u.main (putG [⟨14,0,0⟩] (partsG u.parts ⟨[],[]⟩).2))).code.length+1≤_; (try simp only [gsL9]); omega) (by show ((actsG u.main (putG [⟨14,0,0⟩] (partsG u.parts ⟨[],[]⟩).2))).fix.length+1≤_; (try simp only [gsL9]); omega) hw).mono fun e w' ⟨q,h1,h2⟩=>⟨q,h1,trivial,h2⟩) ?_
   intro q96 _
   refine Ln (Et (Cs (Cr (V0 (Ym rfl) (Lf 2 rfl (Lf 2 rfl (Lf 2 rfl ?_)))))))
   refine Lw (ι:=SP×SP) [_,_,_] _ (.inl rfl) rfl en27 rfl rfl (fun _=>.int .i64 (((putG [⟨1,0,0⟩] (actsG u.main (putG [⟨14,0,0⟩] (partsG u.parts ⟨[],[]⟩).2)))).code.length:Int)) (fun q=>(gown 68 56 54 sb (⟨u.nm,.slice a15 u.uses.length c15,u.data,.slice g.2.2.1 (partsG u.parts ⟨[],[]⟩).1.length g.2.2.2,.int .i64 ((partsG u.parts ⟨[],[]⟩).2.code.length:Int)⟩:ObjK) ⟨putG [⟨15,0,0⟩] ((putG [⟨1,0,0⟩] (actsG u.main (putG [⟨14,0,0⟩] (partsG u.parts ⟨[],[]⟩).2)))),q.1,q.2⟩)) (fun _=>True) [] (by simp) (fun w hw=>(pput_any sb (⟨u.nm,.slice a15 u.uses.length c15,u.data,.slice g.2.2.1 (partsG u.parts ⟨[],[]⟩).1.length g.2.2.2,.int .i64 ((partsG u.parts ⟨[],[]⟩).2.code.length:Int)⟩:ObjK) (⟨(putG [⟨1,0,0⟩] (actsG u.main (putG [⟨14,0,0⟩] (partsG u.parts ⟨[],[]⟩).2))),q96.1,q96.2⟩:GsA)  (15) (0) (0) w  (by show ((putG [⟨1,0,0⟩] (actsG u.main (putG [⟨14,0,0⟩] (partsG u.parts ⟨[],[]⟩).2)))).code.length+1≤_; (try simp only [gsL9]); omega) (by show ((putG [⟨1,0,0⟩] (actsG u.main (putG [⟨14,0,0⟩] (partsG u.parts ⟨[],[]⟩).2)))).fix.length+1≤_; (try simp only [gsL9]); omega) hw).mono fun e w' ⟨q,h1,h2⟩=>⟨q,h1,trivial,h2⟩) ?_
   intro q98 _
   refine Ln (Et (Cs (Cs ?_)))
   rw [show (putG [⟨15,0,0⟩] (putG [⟨1,0,0⟩] (actsG u.main (putG [⟨14,0,0⟩] (partsG u.parts ⟨[],[]⟩).2))))=partG 0 0 u.main (partsG u.parts ⟨[],[]⟩).2 from by rw [putG_two]; rfl]
   refine Cr (V0 (Ym rfl) (V0 (yl_nil rfl) (V0 (Yf fo68_0 rfl) (V0 (Yf fo31_3 rfl) (V0 (Yd 0 rfl rfl rfl na27) ?_)))))
   refine V0 (Yn es27 rfl) (V0 (yl_gt rfl rfl) (Ln (Et ?_)))
   refine Cc rfl (fun hc3=>?_) (fun hc3=>?_)
   ·
    have hlen:2048<(unitG u).g.code.length:=by
      have h9:=hc3
      simp at h9
      show 2048<(partG 0 0 u.main (partsG u.parts ⟨[],[]⟩).2).code.length
      omega
    refine Cs (Cr (V0 (Yb zr31 pl31 rfl rfl) (Lst 5 (.inl rfl) rfl rfl rfl sz31 rfl rfl rfl (V0 (Ya rfl) (Ln (Et (Crt (Er ?_))))))))
    refine WE.retc2 5 rfl rfl rfl rfl ag31 rfl fun w' hw=>?_
    rw [show genM u=(noObj,2) from by rw [genM,if_neg (by rw [hx]; decide),if_pos hlen]]
    exact ⟨noOAt,rfl,hw.fr,noObj_rd _⟩
   ·
    have hlen:¬2048<(unitG u).g.code.length:=by
      have h9:=hc3
      simp at h9
      show ¬2048<(partG 0 0 u.main (partsG u.parts ⟨[],[]⟩).2).code.length
      omega
    refine Ck (Et (Cs (Cr (V0 (Ym rfl) (V0 (yl_nil rfl) (V0 (Yf fo68_0 rfl) (V0 (Yda 0 rfl rfl ag31 rfl) (Lst 5 (.inl rfl) rfl rfl rfl sz31 rfl rfl rfl ?_))))))))
    refine V0 (Ya rfl) (Ln (Et (Crt ?_)))
    refine WE.retc2 5 rfl rfl rfl rfl ag31 rfl fun w' hw=>?_
    rw [show genM u=(unitG u,0) from by rw [genM,if_neg (by rw [hx]; decide),if_neg hlen]]
    exact ⟨⟨(a15,c15),q98.1,q98.2,g.2.2⟩,rfl,hw.fr,hw.slT 4 rfl strC_len (fun _ _ _ _ h=>h),hw.slT 1 rfl InsG.cells_len (fun _ _ _ _ h=>h),hw.slT 2 rfl FixE.cells_len (fun _ _ _ _ h=>h),hw.slT 3 rfl ntC_len (fun _ _ _ _ h=>h)⟩
end Go.Proofs.YtpjekjnehiinnaaGreatDoor
end
section
namespace Go.Proofs.YtpjekjnehiinnaaGreatDoor
open Go.Bw
set_option linter.unusedVariables false
set_option linter.unusedSimpArgs false
abbrev progU:List TUnit:=[(resolveM cntM []).1,(resolveM topM fsC).1]
theorem fl56:flatSt Tryz.prog 56=some [0,0,0]:=by kernel_rfl
theorem fl54:flatSt Tryz.prog 54=some [0,0,0]:=by kernel_rfl
theorem fo31_0:fieldOff Tryz.prog 31 0=some 0:=by kernel_rfl
theorem fo31_1:fieldOff Tryz.prog 31 1=some 1:=by kernel_rfl
theorem en30:Enters Tryz.prog 30:=enters_of Tryz.func30 (by kernel_rfl) rfl
theorem fo31_2:fieldOff Tryz.prog 31 2=some 2:=by kernel_rfl
theorem en31:Enters Tryz.prog 31:=enters_of Tryz.func31 (by kernel_rfl) rfl
theorem es28:elemSz Tryz.prog 28=some 3:=by kernel_rfl
theorem en21:Enters Tryz.prog 21:=enters_of Tryz.func21 (by kernel_rfl) rfl
theorem ag54:aggOf Tryz.prog 54=some 3:=by kernel_rfl
theorem en49:Enters Tryz.prog 49:=enters_of Tryz.func49 (by kernel_rfl) rfl
theorem en48:Enters Tryz.prog 48:=enters_of Tryz.func48 (by kernel_rfl) rfl
theorem en51:Enters Tryz.prog 51:=enters_of Tryz.func51 (by kernel_rfl) rfl
theorem en50:Enters Tryz.prog 50:=enters_of Tryz.func50 (by kernel_rfl) rfl
theorem en52:Enters Tryz.prog 52:=enters_of Tryz.func52 (by kernel_rfl) rfl
theorem el120:EltOk Tryz.prog 120 118 (.agg #[st [],.slice none 0 0]) 2 40:=eltOk_of (by kernel_rfl)
theorem sameCode_eqG (H1 H2:View) (a1 a2:Option Addr) (c1 c2:Nat) (l:List InsG) (w:World) (hH1:Le H1 w) (hH2:Le H2 w) (hm1:Sl rdIG 3 H1 a1 c1 l) (hm2:Sl rdIG 3 H2 a2 c2 l) :
   Calls Tryz.prog 31 #[.slice a1 l.length c1,.slice a2 l.length c2] w fun e w'=>e = .returned (.bool true)∧Ext w w':=by
 have hcap1:=hm1.cap
 have hmax1:=hm1.max
 have hcap2:=hm2.cap
 have hmax2:=hm2.max
 refine enter Tryz.func31 rfl 26 rfl rfl ?_
 refine CWd (W':=Ws w [] [] [H1,H2]) (fun _ e=>by subst e; exact Ws.init (by simp [hH1,hH2])) ?_
 refine Cs (Cr (V0 (Ya rfl) (Ln (Et (Cs (Cs (Cr (V0 (Ym rfl) (V0 (Yn es27 rfl) (V0 (Ym rfl) ?_))))))))))
 refine V0 (Yn es27 rfl) (V0 (yl_neY rfl rfl rfl) (Ln (Et ?_)))
 refine WC.condf rfl ?_
 refine Ck (Et (Cs (Cs (Cr (V0 (Ya rfl) (Ln (Et (Cb ?_))))))))
 refine CW (ι:=Nat) (fun i=>[(5,.int .i64 (i:Int))]) [(0,_),(1,_)] (fun i=>i≤l.length) (fun i=>l.length-i) 0 (Nat.zero_le _) (sc rfl (sc rfl (sc rfl sn))) ?_
 intro i hi
 refine Cs (Cs (Cr (V0 (Ym rfl) (V0 (Ym rfl) (V0 (Yn es27 rfl) (V0 (yl_lt rfl rfl) (Ln (Et ?_))))))))
 refine Cc rfl (fun hc1=>?_) (fun hc1=>?_)
 ·
  have hlt:i<l.length:=by simpa using hc1
  obtain ⟨x,hx⟩:∃x,l[i]? = some x:=⟨_,List.getElem?_eq_getElem hlt⟩
  obtain ⟨pb,po,ha1,hr1⟩:=hm1.elt i x hx
  obtain ⟨qb,qo,ha2,hr2⟩:=hm2.elt i x hx
  have hr1:RdC H1 pb (po+i*3) x.cells:=hr1
  have hr2:RdC H2 qb (qo+i*3) x.cells:=hr2
  refine Ck (Et (Cs (Cb (Cs ?_))))
  refine WC.draws0 [(0,true),(1,true),(2,true),(3,true),(4,true),(5,true),(6,true),(7,true),(8,true)] mixed (by kernel_rfl) (fun _ _ _ d _ h=>by cases d<;>exact h) ?_
  refine Dq rfl (.inl rfl) rfl (fun _ h=>h) (Ym rfl) ?_
  refine Dq rfl (.inl rfl) rfl (fun _ h=>h) (Ym rfl) ?_
  refine Dq rfl (.inl rfl) rfl (fun _ h=>h) (Yo es27 rfl rfl ha1 (by omega)) ?_
  refine Dq rfl (.inl rfl) rfl (fun _ h=>h) (yl_lda 0 ag56 rfl rfl rfl (hr1)) ?_
  refine Dq rfl (.inl rfl) rfl (fun _ h=>h) (Ym rfl) ?_
  refine Dq rfl (.inl rfl) rfl (fun _ h=>h) (Ym rfl) ?_
  refine Dq rfl (.inl rfl) rfl (fun _ h=>h) (Yo es27 rfl rfl ha2 (by omega)) ?_
  refine Dq rfl (.inl rfl) rfl (fun _ h=>h) (yl_lda 1 ag56 rfl rfl rfl (hr2)) ?_
  refine Dq rfl (.inl rfl) rfl (fun _ h=>h) (yl_nestY fl56 rfl rfl rfl rfl) ?_
  refine WD.nil (fun _ h=>h) ?_
  refine Et ?_
  refine WC.condf rfl ?_
  refine Ck (Eb (Et (Cr (V0 (Ym rfl) ?_))))
  refine V0 (Yi rfl rfl rfl (by omega)) ?_
  refine V0 (Ya rfl) (Ln ?_)
  exact Ea (i+1) (by omega) (by omega) (sc rfl (sc rfl (sc rfl sn))) (fun _ h=>h)
 ·
  refine Ce (Ex (Ex (Ebh (Et (Cs (Cr (V0 (Ya rfl) (Ln (Et (Crt ?_))))))))))
  refine WE.ret1 rfl rfl fun w' hw=>?_
  exact ⟨rfl,hw.fr⟩
theorem sameInts_eqG (H1 H2:View) (a1 a2:Option Addr) (c1 c2:Nat) (l:List Nat) (w:World) (hH1:Le H1 w) (hH2:Le H2 w) (hm1:Sl rdNt 1 H1 a1 c1 l) (hm2:Sl rdNt 1 H2 a2 c2 l) :
   Calls Tryz.prog 21 #[.slice a1 l.length c1,.slice a2 l.length c2] w fun e w'=>e = .returned (.bool true)∧Ext w w':=by
 have hcap1:=hm1.cap
 have hmax1:=hm1.max
 have hcap2:=hm2.cap
 have hmax2:=hm2.max
 refine enter Tryz.func21 rfl 26 rfl rfl ?_
 refine CWd (W':=Ws w [] [] [H1,H2]) (fun _ e=>by subst e; exact Ws.init (by simp [hH1,hH2])) ?_
 refine Cs (Cr (V0 (Ya rfl) (Ln (Et (Cs (Cs (Cr (V0 (Ym rfl) (V0 (Yn es29 rfl) (V0 (Ym rfl) ?_))))))))))
 refine V0 (Yn es29 rfl) (V0 (yl_neY rfl rfl rfl) (Ln (Et ?_)))
 refine WC.condf rfl ?_
 refine Ck (Et (Cs (Cs (Cr (V0 (Ya rfl) (Ln (Et (Cb ?_))))))))
 refine CW (ι:=Nat) (fun i=>[(5,.int .i64 (i:Int))]) [(0,_),(1,_)] (fun i=>i≤l.length) (fun i=>l.length-i) 0 (Nat.zero_le _) (sc rfl (sc rfl (sc rfl sn))) ?_
 intro i hi
 refine Cs (Cs (Cr (V0 (Ym rfl) (V0 (Ym rfl) (V0 (Yn es29 rfl) (V0 (yl_lt rfl rfl) (Ln (Et ?_))))))))
 refine Cc rfl (fun hc1=>?_) (fun hc1=>?_)
 ·
  have hlt:i<l.length:=by simpa using hc1
  obtain ⟨x,hx⟩:∃x,l[i]? = some x:=⟨_,List.getElem?_eq_getElem hlt⟩
  obtain ⟨pb,po,ha1,hr1⟩:=hm1.elt i x hx
  obtain ⟨qb,qo,ha2,hr2⟩:=hm2.elt i x hx
  have hr1:RdC H1 pb (po+i*1) (ntC x):=hr1
  have hr2:RdC H2 qb (qo+i*1) (ntC x):=hr2
  refine Ck (Et (Cs (Cb (Cs ?_))))
  refine WC.draws0 [(0,true),(1,true),(2,true),(3,true),(4,true),(5,true),(6,true),(7,true),(8,true)] mixed (by kernel_rfl) (fun _ _ _ d _ h=>by cases d<;>exact h) ?_
  refine Dq rfl (.inl rfl) rfl (fun _ h=>h) (Ym rfl) ?_
  refine Dq rfl (.inl rfl) rfl (fun _ h=>h) (Ym rfl) ?_
  refine Dq rfl (.inl rfl) rfl (fun _ h=>h) (Yo es29 rfl rfl ha1 (by omega)) ?_
  refine Dq rfl (.inl rfl) rfl (fun _ h=>h) (yl_ld 0 na3 rfl rfl (hr1 0 _ rfl)) ?_
  refine Dq rfl (.inl rfl) rfl (fun _ h=>h) (Ym rfl) ?_
  refine Dq rfl (.inl rfl) rfl (fun _ h=>h) (Ym rfl) ?_
  refine Dq rfl (.inl rfl) rfl (fun _ h=>h) (Yo es29 rfl rfl ha2 (by omega)) ?_
  refine Dq rfl (.inl rfl) rfl (fun _ h=>h) (yl_ld 1 na3 rfl rfl (hr2 0 _ rfl)) ?_
  refine Dq rfl (.inl rfl) rfl (fun _ h=>h) (yl_neY rfl rfl rfl) ?_
  refine WD.nil (fun _ h=>h) ?_
  refine Et ?_
  refine WC.condf rfl ?_
  refine Ck (Eb (Et (Cr (V0 (Ym rfl) ?_))))
  refine V0 (Yi rfl rfl rfl (by omega)) ?_
  refine V0 (Ya rfl) (Ln ?_)
  exact Ea (i+1) (by omega) (by omega) (sc rfl (sc rfl (sc rfl sn))) (fun _ h=>h)
 ·
  refine Ce (Ex (Ex (Ebh (Et (Cs (Cr (V0 (Ya rfl) (Ln (Et (Crt ?_))))))))))
  refine WE.ret1 rfl rfl fun w' hw=>?_
  exact ⟨rfl,hw.fr⟩
theorem sameObjects_eq (H1 H2:View) (q1 q2:OAt) (o:GObj) (w:World) (hH1:Le H1 w) (hH2:Le H2 w) (hm1:RdOb H1 q1 o) (hm2:RdOb H2 q2 o) :
   Calls Tryz.prog 12 #[.agg (objV o q1).toArray,.agg (objV o q2).toArray] w fun e w'=>e = .returned (.bool true)∧Ext w w':=by
 have cf1:=hm1.fix.cap
 have mf1:=hm1.fix.max
 have cf2:=hm2.fix.cap
 have mf2:=hm2.fix.max
 refine enter Tryz.func12 rfl 76 rfl rfl ?_
 refine CWd (W':=Ws w [] [] [H1,H2]) (fun _ e=>by subst e; exact Ws.init (by simp [hH1,hH2])) ?_
 refine Cs (Cr ?_)
 refine WL.box (.inl rfl) rfl rfl fun b2=>?_
 refine WL.box (.inl rfl) rfl rfl fun b3=>?_
 refine V0 (Ya rfl) (Ln (Et (Cs (Cs (Cr (V0 (Yf fo31_0 rfl) (V0 (Yd 1 rfl rfl rfl na9) (V0 (Yf fo31_0 rfl) (V0 (Yd 0 rfl rfl rfl na9) ?_)))))))))
 refine V0 (yl_nesY rfl rfl rfl) (V0 (Ym rfl) ?_)
 apply WL.or 6 (x:=false) rfl rfl rfl rfl (.inl rfl) rfl rfl rfl rfl rfl
 ·
  intro hg0
  refine Lv (.g rfl rfl rfl) rfl (Yf fo31_1 rfl) (Lv (.g rfl rfl rfl) rfl (Yd 1 rfl rfl rfl na22) (Lv (.g rfl rfl rfl) rfl (Yf fo31_1 rfl) (Lv (.g rfl rfl rfl) rfl (Yd 0 rfl rfl rfl na22) ?_)))
  refine Lp (.g rfl rfl rfl) rfl en30 rfl (fun w hw=>sameTexts_eq H1 H2 q1.s1.1 q2.s1.1 q1.s1.2 q2.s1.2 o.uses w (hw.vs _ (by simp)) (hw.vs _ (by simp)) hm1.uses hm2.uses) ?_
  refine Lv (.g rfl rfl rfl) rfl (yl_not rfl) ?_
  exact Gt 6 rfl rfl rfl
 refine V0 (Ym rfl) ?_
 apply WL.or 5 (x:=false) rfl rfl rfl rfl (.inl rfl) rfl rfl rfl rfl rfl
 ·
  intro hg1
  refine Lv (.g rfl rfl rfl) rfl (Yf fo31_2 rfl) (Lv (.g rfl rfl rfl) rfl (Yd 1 rfl rfl rfl na3) (Lv (.g rfl rfl rfl) rfl (Yf fo31_2 rfl) (Lv (.g rfl rfl rfl) rfl (Yd 0 rfl rfl rfl na3) (Lv (.g rfl rfl rfl) rfl (yl_neY rfl rfl rfl) ?_))))
  exact Gt 5 rfl rfl rfl
 refine V0 (Ym rfl) ?_
 apply WL.or 6 (x:=false) rfl rfl rfl rfl (.inl rfl) rfl rfl rfl rfl rfl
 ·
  intro hg2
  refine Lv (.g rfl rfl rfl) rfl (Yf fo31_3 rfl) (Lv (.g rfl rfl rfl) rfl (Yd 1 rfl rfl rfl na27) (Lv (.g rfl rfl rfl) rfl (Yf fo31_3 rfl) (Lv (.g rfl rfl rfl) rfl (Yd 0 rfl rfl rfl na27) ?_)))
  refine Lp (.g rfl rfl rfl) rfl en31 rfl (fun w hw=>sameCode_eqG H1 H2 q1.s2.1 q2.s2.1 q1.s2.2 q2.s2.2 o.g.code w (hw.vs _ (by simp)) (hw.vs _ (by simp)) hm1.code hm2.code) ?_
  refine Lv (.g rfl rfl rfl) rfl (yl_not rfl) ?_
  exact Gt 6 rfl rfl rfl
 refine V0 (Ym rfl) ?_
 apply WL.or 7 (x:=false) rfl rfl rfl rfl (.inl rfl) rfl rfl rfl rfl rfl
 ·
  intro hg3
  refine Lv (.g rfl rfl rfl) rfl (Yf fo31_4 rfl) (Lv (.g rfl rfl rfl) rfl (Yd 1 rfl rfl rfl na28) (Lv (.g rfl rfl rfl) rfl (Yn es28 rfl) (Lv (.g rfl rfl rfl) rfl (Yf fo31_4 rfl) (Lv (.g rfl rfl rfl) rfl (Yd 0 rfl rfl rfl na28) (Lv (.g rfl rfl rfl) rfl (Yn es28 rfl) ?_)))))
  refine Lv (.g rfl rfl rfl) rfl (yl_neY rfl rfl rfl) ?_
  exact Gt 7 rfl rfl rfl
 refine V0 (Ym rfl) ?_
 apply WL.or 6 (x:=false) rfl rfl rfl rfl (.inl rfl) rfl rfl rfl rfl rfl
 ·
  intro hg4
  refine Lv (.g rfl rfl rfl) rfl (Yf fo31_5 rfl) (Lv (.g rfl rfl rfl) rfl (Yd 1 rfl rfl rfl na29) (Lv (.g rfl rfl rfl) rfl (Yf fo31_5 rfl) (Lv (.g rfl rfl rfl) rfl (Yd 0 rfl rfl rfl na29) ?_)))
  refine Lp (.g rfl rfl rfl) rfl en21 rfl (fun w hw=>sameInts_eqG H1 H2 q1.s4.1 q2.s4.1 q1.s4.2 q2.s4.2 o.ents w (hw.vs _ (by simp)) (hw.vs _ (by simp)) hm1.ents hm2.ents) ?_
  refine Lv (.g rfl rfl rfl) rfl (yl_not rfl) ?_
  exact Gt 6 rfl rfl rfl
 refine V0 (Ym rfl) ?_
 apply WL.or 5 (x:=false) rfl rfl rfl rfl (.inl rfl) rfl rfl rfl rfl rfl
 ·
  intro hg5
  refine Lv (.g rfl rfl rfl) rfl (Yf fo31_6 rfl) (Lv (.g rfl rfl rfl) rfl (Yd 1 rfl rfl rfl na3) (Lv (.g rfl rfl rfl) rfl (Yf fo31_6 rfl) (Lv (.g rfl rfl rfl) rfl (Yd 0 rfl rfl rfl na3) (Lv (.g rfl rfl rfl) rfl (yl_neY rfl rfl rfl) ?_))))
  exact Gt 5 rfl rfl rfl
 refine Ln (Et ?_)
 refine WC.condf rfl ?_
 refine Ck (Et (Cs (Cs (Cr (V0 (Ya rfl) (Ln (Et (Cb ?_))))))))
 refine CW (ι:=Nat) (fun i=>[(5,.int .i64 (i:Int))]) [(2,_),(3,_)] (fun i=>i≤o.g.fix.length) (fun i=>o.g.fix.length-i) 0 (Nat.zero_le _) (sc rfl (sc rfl (sc rfl sn))) ?_
 intro i hi
 refine Cs (Cs (Cr (V0 (Ym rfl) (V0 (Yf fo31_4 rfl) (V0 (Yd 1 rfl rfl rfl na28) (V0 (Yn es28 rfl) (V0 (yl_lt rfl rfl) ?_)))))))
 refine Ln (Et ?_)
 refine Cc rfl (fun hc1=>?_) (fun hc1=>?_)
 ·
  have hlt:i<o.g.fix.length:=by simpa using hc1
  obtain ⟨x,hx⟩:∃x,o.g.fix[i]? = some x:=⟨_,List.getElem?_eq_getElem hlt⟩
  obtain ⟨pb,po,ha1,hr1⟩:=hm1.fix.elt i x hx
  obtain ⟨qb,qo,ha2,hr2⟩:=hm2.fix.elt i x hx
  have hr1:RdC H1 pb (po+i*3) x.cells:=hr1
  have hr2:RdC H2 qb (qo+i*3) x.cells:=hr2
  refine Ck (Et (Cs (Cb (Cs ?_))))
  refine WC.draws0 [(0,true),(1,true),(2,true),(3,true),(4,true),(5,true),(6,true),(7,true),(8,true),(9,true),(10,true)] mixed (by kernel_rfl) (fun _ _ _ d _ h=>by cases d<;>exact h) ?_
  refine Dq rfl (.inl rfl) rfl (fun _ h=>h) (Yf fo31_4 rfl) ?_
  refine Dq rfl (.inl rfl) rfl (fun _ h=>h) (Yd 1 rfl rfl rfl na28) ?_
  refine Dq rfl (.inl rfl) rfl (fun _ h=>h) (Ym rfl) ?_
  refine Dq rfl (.inl rfl) rfl (fun _ h=>h) (Yo es28 rfl rfl ha1 (by omega)) ?_
  refine Dq rfl (.inl rfl) rfl (fun _ h=>h) (yl_lda 0 ag54 rfl rfl rfl (hr1)) ?_
  refine Dq rfl (.inl rfl) rfl (fun _ h=>h) (Yf fo31_4 rfl) ?_
  refine Dq rfl (.inl rfl) rfl (fun _ h=>h) (Yd 0 rfl rfl rfl na28) ?_
  refine Dq rfl (.inl rfl) rfl (fun _ h=>h) (Ym rfl) ?_
  refine Dq rfl (.inl rfl) rfl (fun _ h=>h) (Yo es28 rfl rfl ha2 (by omega)) ?_
  refine Dq rfl (.inl rfl) rfl (fun _ h=>h) (yl_lda 1 ag54 rfl rfl rfl (hr2)) ?_
  refine Dq rfl (.inl rfl) rfl (fun _ h=>h) (yl_nestY fl54 rfl rfl rfl rfl) ?_
  refine WD.nil (fun _ h=>h) ?_
  refine Et ?_
  refine WC.condf rfl ?_
  refine Ck (Eb (Et (Cr (V0 (Ym rfl) ?_))))
  refine V0 (Yi rfl rfl rfl (by omega)) ?_
  refine V0 (Ya rfl) (Ln ?_)
  exact Ea (i+1) (by omega) (by omega) (sc rfl (sc rfl (sc rfl sn))) (fun _ h=>h)
 ·
  refine Ce (Ex (Ex (Ebh (Et (Cs (Cr (V0 (Ya rfl) (Ln (Et (Crt ?_))))))))))
  refine WE.ret1 rfl rfl fun w' hw=>?_
  exact ⟨rfl,hw.fr⟩
theorem program_any (G:View) (w:World) (hG:Le G w) (hz:Laid G) :
   Calls Tryz.prog 29 #[] w fun e w'=>∃q:SP,e = .returned (.slice q.1 2 q.2)∧Ext w w'∧Sl (rdU2 8 7) 5 (nv w w') q.1 q.2 progU:=by
 refine enter Tryz.func29 rfl 27 rfl rfl ?_
 refine CWd (W':=Ws w [] [] [G]) (fun _ e=>by subst e; exact Ws.init (by simp [hG])) ?_
 refine Cs (Cr (V0 (Ya rfl) (Ln (Et (Cs (Cr ?_))))))
 refine Ld (.inl rfl) rfl en49 rfl (fun r:MAt=>.agg (modV cntM r).toArray) (fun H r=>RdM 7 6 H r cntM) (fun w hw=>counter_any w) ?_
 intro F8 r8 hf8 h8
 refine Ld (.inl rfl) rfl en48 rfl (fun r:UAt=>.tuple #[.agg (unitV (resolveM cntM []).1 r).toArray,.int .i64 (resolveM cntM []).2]) (fun F r=>RdU (7+1) (6+1) F r (resolveM cntM []).1) (fun w hw=>by
     skip
     exact resolve_any F8 F8 7 6 r8 cntM none 0 [] w (hw.vs _ (by simp)) (hw.vs _ (by simp)) h8 Sl.nil cnt_w) ?_
 intro F9 r9 hf9 h9
 refine V0 (Ym rfl) (V0 (Yx rfl rfl) (V0 (Yx rfl rfl) ?_))
 refine WL.alloc (.inl rfl) rfl zr26 fun b1=>?_
 refine Lst 0 (.inl rfl) rfl rfl rfl sz26 rfl rfl rfl (V0 (Ya rfl) (Ln (Et (Cs (Cr ?_)))))
 refine Lp (.inl rfl) rfl en51 rfl (fun w hw=>topText_any w) ?_
 refine Ld (.inl rfl) rfl en50 rfl (fun r:MAt=>.tuple #[.agg (modV (topM) r).toArray,.int .i64 ((parseM topS).2)]) (fun H r=>RdM 7 6 H r (topM)) (fun w hw=>by
     have:=treeParse_any G (topS) w (hw.vs _ (by simp)) hz
     exact this) ?_
 intro F14 r14 hf14 h14
 refine V0 (Ym rfl) (V0 (Yx rfl rfl) (V0 (Yx rfl rfl) ?_))
 refine WL.alloc (.inl rfl) rfl zr111 fun b3=>?_
 refine Lst 0 (.inl rfl) rfl rfl rfl sz111 rfl rfl rfl (V0 (Ya rfl) (Ln (Et (Cs ?_))))
 refine WC.drawt0 (.q 0 (.e 1 (.e 2 (.e 3 (.q 4 (.q 5 (.q 6 (.e 7 (.e 8 (.e 9 .nil .stop) .stop) .stop)))) (.e 7 (.e 3 (.q 4 (.q 5 (.q 6 (.e 8 (.e 9 .nil .stop) .stop)))) .stop) .stop)) (.e 7 (.e 2 (.e 3 (.q 4 (.q 5 (.q 6 (.e 8 (.e 9 .nil .stop) .stop)))) .stop) .stop) .stop)) (.e 7 (.e 1 (.e 2 (.e 3 (.q 4 (.q 5 (.q 6 (.e 8 (.e 9 .nil .stop) .stop)))) .stop) .stop) .stop) .stop))) mixed (by kernel_rfl) (fun _ _ _ d _ h=>by cases d<;>exact h) ?_
 refine WT.q rfl (.inl rfl) rfl (fun _ h=>h) (Yda 0 rfl rfl ag111 rfl) ?_
 refine WT.e rfl (fun _ h=>h) ?_ ?_
 ·
  refine Ld (.inl rfl) rfl en52 rfl (fun r:SP=>.agg #[st cntN,.slice r.1 cntI.length r.2]) (fun F r=>Sl rdItem 4 F r.1 r.2 cntI) (fun w hw=>counted_any w) ?_
  intro F19 r19 hf19 h19
  refine Ln (Ett ?_)
  refine WT.e rfl (fun _ h=>by have h:=Ws.drops h (fun _ hm=>List.mem_append_right [_] hm); exact h) ?_ ?_
  ·
   refine Lb (.inl rfl) rfl el120 rfl rfl rfl rfl fun b20=>?_
   refine Ln (Ett ?_)
   refine WT.e rfl (fun _ h=>by have h:=Ws.drop (L:=[_]) (L':=_) h; have h:=Ws.drops h (fun _ hm=>List.mem_append_right [_] hm); exact h) ?_ ?_
   ·
    refine Ld (.inl rfl) rfl en48 rfl (fun r:UAt=>.tuple #[.agg (unitV (resolveM topM fsC).1 r).toArray,.int .i64 (resolveM topM fsC).2]) (fun F r=>RdU (7+1) (6+1) F r (resolveM topM fsC).1) (fun w hw=>by
        have hfc:Sl rdFace 2 (hv w) (some ⟨b20,0,none⟩) 1 fsC:=⟨by decide,by decide,by simp,fun j x hj=>⟨b20,0,rfl,by
          match j,hj with
          | 0,hj=>simp only [fsC,List.getElem?_cons_zero,Option.some.injEq] at hj; subst hj; exact ⟨r19,fun k v hk=>by
              match k,hk with
              | 0,hk=>simp [faceV] at hk; subst hk; exact hw.hvb 0 rfl rfl
              | 1,hk=>simp [faceV] at hk; subst hk; exact hw.hvb 0 rfl rfl,slItem_mv (hv_of (hw.vs F19 (by simp))) h19⟩⟩⟩
        exact resolve_any F14 (hv w) 7 6 r14 topM (some ⟨b20,0,none⟩) 1 fsC w (hw.vs _ (by simp)) (hv_le w) h14 hfc (by have:=parseM_w topS; show wM (parseM topS).1≤_; omega)) ?_
    intro F21 r21 hf21 h21
    refine Ln (Ett ?_)
    refine WT.q rfl (.inl rfl) rfl (fun _ h=>by have h:=Ws.drop (L:=[_]) (L':=_) h; have h:=Ws.drops h (fun _ hm=>List.mem_append_right [_,_] hm); exact h) (Ym rfl) ?_
    refine WT.q rfl (.inl rfl) rfl (fun _ h=>by have h:=Ws.drop (L:=[_]) (L':=_) h; have h:=Ws.drops h (fun _ hm=>List.mem_append_right [_,_] hm); exact h) (Yx rfl rfl) ?_
    refine WT.q rfl (.inl rfl) rfl (fun _ h=>by have h:=Ws.drop (L:=[_]) (L':=_) h; have h:=Ws.drops h (fun _ hm=>List.mem_append_right [_,_] hm); exact h) (Yx rfl rfl) ?_
    refine WT.e rfl (fun _ h=>by have h:=Ws.drop (L:=[_]) (L':=_) h; have h:=Ws.drops h (fun _ hm=>List.mem_append_right [_,_] hm); exact h) ?_ WT.stop
    refine WL.alloc (.inl rfl) rfl zr26 fun b5=>?_
    refine Ln (Ett ?_)
    refine WT.e rfl (fun _ h=>by have h:=Ws.drop (L:=[_,_]) (L':=_) h; have h:=Ws.drops h (fun _ hm=>List.mem_append_right [_,_] hm); exact h) ?_ WT.stop
    refine Lst 0 (.inl rfl) rfl rfl rfl sz26 rfl rfl rfl (Ln (Ett ?_))
    refine WT.e rfl (fun _ h=>by have h:=Ws.drop (L:=[_,_]) (L':=_) h; have h:=Ws.drops h (fun _ hm=>List.mem_append_right [_,_] hm); exact h) ?_ WT.stop
    refine V0 (Ya rfl) (Ln (Ett ?_))
    refine WT.nil (fun _ h=>by have h:=Ws.drop (L:=[_,_]) (L':=_) h; have h:=Ws.drops h (fun _ hm=>List.mem_append_right [_,_] hm); exact h) ?_
    refine Et (Cs ?_)
    obtain ⟨cu,hcu⟩:∃c,c=(resolveM cntM []).1:=⟨_,rfl⟩
    obtain ⟨tu,htu⟩:∃c,c=(resolveM topM fsC).1:=⟨_,rfl⟩
    rw [←hcu,←htu]
    rw [←hcu] at h9
    rw [←htu] at h21
    refine Cr (V0 (Yda 3 rfl rfl ag26 rfl) (V0 (Yda 0 rfl rfl ag26 rfl) ?_))
    refine Lb (.inl rfl) rfl el38 rfl rfl rfl rfl fun b26=>?_
    refine Lrb 0 (.cells ((([(cu,r9),(tu,r21)]:List XU)).flatMap XU.cells).toArray 26 (0,0)) rfl rfl ?_
    refine LW (fun _ h=>h.osT_blk (f:=XU.cells) (xs:=([(cu,r9),(tu,r21)]:List XU)) (c:=2) 0 rfl XU.cells_len rfl (by decide)) ?_
    refine V0 (Ya rfl) (Ln (Et (Crt ?_)))
    refine WE.ret1 rfl rfl fun w' hw=>?_
    have h9u:=h9
    refine ⟨(some ⟨b26,0,none⟩,2),rfl,hw.fr,?_⟩
    show Sl _ _ _ _ _ [(resolveM cntM []).1,(resolveM topM fsC).1]
    rw [←hcu,←htu]
    have h9:=hw.slT (rd:=rdXU) 0 rfl XU.cells_len (fun _ _ _ _ h=>h)
    exact slU_of (es:=[(cu,r9),(tu,r21)]) h9 (fun _ _ h=>h) fun e he=>by
      simp only [List.mem_cons,List.not_mem_nil,or_false] at he
      rcases he with rfl | rfl
      · exact h9u.mv (nv_vs hw (by simp) hf9)
      · exact h21.mv (nv_vs hw (by simp) hf21)
   refine WT.e rfl (fun _ h=>by have h:=Ws.drop (L:=[_]) (L':=_) h; have h:=Ws.drops h (fun _ hm=>List.mem_append_right [_] hm); exact h) ?_ WT.stop
   refine WL.alloc (.inl rfl) rfl zr26 fun b5=>?_
   refine Ln (Ett ?_)
   refine WT.e rfl (fun _ h=>by have h:=Ws.drop (L:=[_,_]) (L':=_) h; have h:=Ws.drops h (fun _ hm=>List.mem_append_right [_] hm); exact h) ?_ WT.stop
   refine Ld (.inl rfl) rfl en48 rfl (fun r:UAt=>.tuple #[.agg (unitV (resolveM topM fsC).1 r).toArray,.int .i64 (resolveM topM fsC).2]) (fun F r=>RdU (7+1) (6+1) F r (resolveM topM fsC).1) (fun w hw=>by
       have hfc:Sl rdFace 2 (hv w) (some ⟨b20,0,none⟩) 1 fsC:=⟨by decide,by decide,by simp,fun j x hj=>⟨b20,0,rfl,by
         match j,hj with
         | 0,hj=>simp only [fsC,List.getElem?_cons_zero,Option.some.injEq] at hj; subst hj; exact ⟨r19,fun k v hk=>by
             match k,hk with
             | 0,hk=>simp [faceV] at hk; subst hk; exact hw.hvb 1 rfl rfl
             | 1,hk=>simp [faceV] at hk; subst hk; exact hw.hvb 1 rfl rfl,slItem_mv (hv_of (hw.vs F19 (by simp))) h19⟩⟩⟩
       exact resolve_any F14 (hv w) 7 6 r14 topM (some ⟨b20,0,none⟩) 1 fsC w (hw.vs _ (by simp)) (hv_le w) h14 hfc (by have:=parseM_w topS; show wM (parseM topS).1≤_; omega)) ?_
   intro F21 r21 hf21 h21
   refine Ln (Ett ?_)
   refine WT.q rfl (.inl rfl) rfl (fun _ h=>by have h:=Ws.drop (L:=[_,_]) (L':=_) h; have h:=Ws.drops h (fun _ hm=>List.mem_append_right [_,_] hm); exact h) (Ym rfl) ?_
   refine WT.q rfl (.inl rfl) rfl (fun _ h=>by have h:=Ws.drop (L:=[_,_]) (L':=_) h; have h:=Ws.drops h (fun _ hm=>List.mem_append_right [_,_] hm); exact h) (Yx rfl rfl) ?_
   refine WT.q rfl (.inl rfl) rfl (fun _ h=>by have h:=Ws.drop (L:=[_,_]) (L':=_) h; have h:=Ws.drops h (fun _ hm=>List.mem_append_right [_,_] hm); exact h) (Yx rfl rfl) ?_
   refine WT.e rfl (fun _ h=>by have h:=Ws.drop (L:=[_,_]) (L':=_) h; have h:=Ws.drops h (fun _ hm=>List.mem_append_right [_,_] hm); exact h) ?_ WT.stop
   refine Lst 0 (.inl rfl) rfl rfl rfl sz26 rfl rfl rfl (Ln (Ett ?_))
   refine WT.e rfl (fun _ h=>by have h:=Ws.drop (L:=[_,_]) (L':=_) h; have h:=Ws.drops h (fun _ hm=>List.mem_append_right [_,_] hm); exact h) ?_ WT.stop
   refine V0 (Ya rfl) (Ln (Ett ?_))
   refine WT.nil (fun _ h=>by have h:=Ws.drop (L:=[_,_]) (L':=_) h; have h:=Ws.drops h (fun _ hm=>List.mem_append_right [_,_] hm); exact h) ?_
   refine Et (Cs ?_)
   obtain ⟨cu,hcu⟩:∃c,c=(resolveM cntM []).1:=⟨_,rfl⟩
   obtain ⟨tu,htu⟩:∃c,c=(resolveM topM fsC).1:=⟨_,rfl⟩
   rw [←hcu,←htu]
   rw [←hcu] at h9
   rw [←htu] at h21
   refine Cr (V0 (Yda 3 rfl rfl ag26 rfl) (V0 (Yda 0 rfl rfl ag26 rfl) ?_))
   refine Lb (.inl rfl) rfl el38 rfl rfl rfl rfl fun b26=>?_
   refine Lrb 0 (.cells ((([(cu,r9),(tu,r21)]:List XU)).flatMap XU.cells).toArray 26 (0,0)) rfl rfl ?_
   refine LW (fun _ h=>h.osT_blk (f:=XU.cells) (xs:=([(cu,r9),(tu,r21)]:List XU)) (c:=2) 0 rfl XU.cells_len rfl (by decide)) ?_
   refine V0 (Ya rfl) (Ln (Et (Crt ?_)))
   refine WE.ret1 rfl rfl fun w' hw=>?_
   have h9u:=h9
   refine ⟨(some ⟨b26,0,none⟩,2),rfl,hw.fr,?_⟩
   show Sl _ _ _ _ _ [(resolveM cntM []).1,(resolveM topM fsC).1]
   rw [←hcu,←htu]
   have h9:=hw.slT (rd:=rdXU) 0 rfl XU.cells_len (fun _ _ _ _ h=>h)
   exact slU_of (es:=[(cu,r9),(tu,r21)]) h9 (fun _ _ h=>h) fun e he=>by
     simp only [List.mem_cons,List.not_mem_nil,or_false] at he
     rcases he with rfl | rfl
     · exact h9u.mv (nv_vs hw (by simp) hf9)
     · exact h21.mv (nv_vs hw (by simp) hf21)
  refine WT.e rfl (fun _ h=>by have h:=Ws.drops h (fun _ hm=>List.mem_append_right [_] hm); exact h) ?_ WT.stop
  refine WL.alloc (.inl rfl) rfl zr26 fun b5=>?_
  refine Ln (Ett ?_)
  refine WT.e rfl (fun _ h=>by have h:=Ws.drop (L:=[_]) (L':=_) h; have h:=Ws.drops h (fun _ hm=>List.mem_append_right [_] hm); exact h) ?_ WT.stop
  refine Lb (.inl rfl) rfl el120 rfl rfl rfl rfl fun b20=>?_
  refine Ln (Ett ?_)
  refine WT.e rfl (fun _ h=>by have h:=Ws.drop (L:=[_,_]) (L':=_) h; have h:=Ws.drops h (fun _ hm=>List.mem_append_right [_] hm); exact h) ?_ WT.stop
  refine Ld (.inl rfl) rfl en48 rfl (fun r:UAt=>.tuple #[.agg (unitV (resolveM topM fsC).1 r).toArray,.int .i64 (resolveM topM fsC).2]) (fun F r=>RdU (7+1) (6+1) F r (resolveM topM fsC).1) (fun w hw=>by
      have hfc:Sl rdFace 2 (hv w) (some ⟨b20,0,none⟩) 1 fsC:=⟨by decide,by decide,by simp,fun j x hj=>⟨b20,0,rfl,by
        match j,hj with
        | 0,hj=>simp only [fsC,List.getElem?_cons_zero,Option.some.injEq] at hj; subst hj; exact ⟨r19,fun k v hk=>by
            match k,hk with
            | 0,hk=>simp [faceV] at hk; subst hk; exact hw.hvb 0 rfl rfl
            | 1,hk=>simp [faceV] at hk; subst hk; exact hw.hvb 0 rfl rfl,slItem_mv (hv_of (hw.vs F19 (by simp))) h19⟩⟩⟩
      exact resolve_any F14 (hv w) 7 6 r14 topM (some ⟨b20,0,none⟩) 1 fsC w (hw.vs _ (by simp)) (hv_le w) h14 hfc (by have:=parseM_w topS; show wM (parseM topS).1≤_; omega)) ?_
  intro F21 r21 hf21 h21
  refine Ln (Ett ?_)
  refine WT.q rfl (.inl rfl) rfl (fun _ h=>by have h:=Ws.drop (L:=[_,_]) (L':=_) h; have h:=Ws.drops h (fun _ hm=>List.mem_append_right [_,_] hm); exact h) (Ym rfl) ?_
  refine WT.q rfl (.inl rfl) rfl (fun _ h=>by have h:=Ws.drop (L:=[_,_]) (L':=_) h; have h:=Ws.drops h (fun _ hm=>List.mem_append_right [_,_] hm); exact h) (Yx rfl rfl) ?_
  refine WT.q rfl (.inl rfl) rfl (fun _ h=>by have h:=Ws.drop (L:=[_,_]) (L':=_) h; have h:=Ws.drops h (fun _ hm=>List.mem_append_right [_,_] hm); exact h) (Yx rfl rfl) ?_
  refine WT.e rfl (fun _ h=>by have h:=Ws.drop (L:=[_,_]) (L':=_) h; have h:=Ws.drops h (fun _ hm=>List.mem_append_right [_,_] hm); exact h) ?_ WT.stop
  refine Lst 1 (.inl rfl) rfl rfl rfl sz26 rfl rfl rfl (Ln (Ett ?_))
  refine WT.e rfl (fun _ h=>by have h:=Ws.drop (L:=[_,_]) (L':=_) h; have h:=Ws.drops h (fun _ hm=>List.mem_append_right [_,_] hm); exact h) ?_ WT.stop
  refine V0 (Ya rfl) (Ln (Ett ?_))
  refine WT.nil (fun _ h=>by have h:=Ws.drop (L:=[_,_]) (L':=_) h; have h:=Ws.drops h (fun _ hm=>List.mem_append_right [_,_] hm); exact h) ?_
  refine Et (Cs ?_)
  obtain ⟨cu,hcu⟩:∃c,c=(resolveM cntM []).1:=⟨_,rfl⟩
  obtain ⟨tu,htu⟩:∃c,c=(resolveM topM fsC).1:=⟨_,rfl⟩
  rw [←hcu,←htu]
  rw [←hcu] at h9
  rw [←htu] at h21
  refine Cr (V0 (Yda 3 rfl rfl ag26 rfl) (V0 (Yda 1 rfl rfl ag26 rfl) ?_))
  refine Lb (.inl rfl) rfl el38 rfl rfl rfl rfl fun b26=>?_
  refine Lrb 0 (.cells ((([(cu,r9),(tu,r21)]:List XU)).flatMap XU.cells).toArray 26 (0,0)) rfl rfl ?_
  refine LW (fun _ h=>h.osT_blk (f:=XU.cells) (xs:=([(cu,r9),(tu,r21)]:List XU)) (c:=2) 0 rfl XU.cells_len rfl (by decide)) ?_
  refine V0 (Ya rfl) (Ln (Et (Crt ?_)))
  refine WE.ret1 rfl rfl fun w' hw=>?_
  have h9u:=h9
  refine ⟨(some ⟨b26,0,none⟩,2),rfl,hw.fr,?_⟩
  show Sl _ _ _ _ _ [(resolveM cntM []).1,(resolveM topM fsC).1]
  rw [←hcu,←htu]
  have h9:=hw.slT (rd:=rdXU) 0 rfl XU.cells_len (fun _ _ _ _ h=>h)
  exact slU_of (es:=[(cu,r9),(tu,r21)]) h9 (fun _ _ h=>h) fun e he=>by
    simp only [List.mem_cons,List.not_mem_nil,or_false] at he
    rcases he with rfl | rfl
    · exact h9u.mv (nv_vs hw (by simp) hf9)
    · exact h21.mv (nv_vs hw (by simp) hf21)
 refine WT.e rfl (fun _ h=>h) ?_ WT.stop
 refine WL.alloc (.inl rfl) rfl zr26 fun b5=>?_
 refine Ln (Ett ?_)
 refine WT.e rfl (fun _ h=>by have h:=Ws.drop (L:=[_]) (L':=_) h; exact h) ?_ WT.stop
 refine Ld (.inl rfl) rfl en52 rfl (fun r:SP=>.agg #[st cntN,.slice r.1 cntI.length r.2]) (fun F r=>Sl rdItem 4 F r.1 r.2 cntI) (fun w hw=>counted_any w) ?_
 intro F19 r19 hf19 h19
 refine Ln (Ett ?_)
 refine WT.e rfl (fun _ h=>by have h:=Ws.drop (L:=[_]) (L':=_) h; have h:=Ws.drops h (fun _ hm=>List.mem_append_right [_] hm); exact h) ?_ WT.stop
 refine Lb (.inl rfl) rfl el120 rfl rfl rfl rfl fun b20=>?_
 refine Ln (Ett ?_)
 refine WT.e rfl (fun _ h=>by have h:=Ws.drop (L:=[_,_]) (L':=_) h; have h:=Ws.drops h (fun _ hm=>List.mem_append_right [_] hm); exact h) ?_ WT.stop
 refine Ld (.inl rfl) rfl en48 rfl (fun r:UAt=>.tuple #[.agg (unitV (resolveM topM fsC).1 r).toArray,.int .i64 (resolveM topM fsC).2]) (fun F r=>RdU (7+1) (6+1) F r (resolveM topM fsC).1) (fun w hw=>by
     have hfc:Sl rdFace 2 (hv w) (some ⟨b20,0,none⟩) 1 fsC:=⟨by decide,by decide,by simp,fun j x hj=>⟨b20,0,rfl,by
       match j,hj with
       | 0,hj=>simp only [fsC,List.getElem?_cons_zero,Option.some.injEq] at hj; subst hj; exact ⟨r19,fun k v hk=>by
           match k,hk with
           | 0,hk=>simp [faceV] at hk; subst hk; exact hw.hvb 0 rfl rfl
           | 1,hk=>simp [faceV] at hk; subst hk; exact hw.hvb 0 rfl rfl,slItem_mv (hv_of (hw.vs F19 (by simp))) h19⟩⟩⟩
     exact resolve_any F14 (hv w) 7 6 r14 topM (some ⟨b20,0,none⟩) 1 fsC w (hw.vs _ (by simp)) (hv_le w) h14 hfc (by have:=parseM_w topS; show wM (parseM topS).1≤_; omega)) ?_
 intro F21 r21 hf21 h21
 refine Ln (Ett ?_)
 refine WT.q rfl (.inl rfl) rfl (fun _ h=>by have h:=Ws.drop (L:=[_,_]) (L':=_) h; have h:=Ws.drops h (fun _ hm=>List.mem_append_right [_,_] hm); exact h) (Ym rfl) ?_
 refine WT.q rfl (.inl rfl) rfl (fun _ h=>by have h:=Ws.drop (L:=[_,_]) (L':=_) h; have h:=Ws.drops h (fun _ hm=>List.mem_append_right [_,_] hm); exact h) (Yx rfl rfl) ?_
 refine WT.q rfl (.inl rfl) rfl (fun _ h=>by have h:=Ws.drop (L:=[_,_]) (L':=_) h; have h:=Ws.drops h (fun _ hm=>List.mem_append_right [_,_] hm); exact h) (Yx rfl rfl) ?_
 refine WT.e rfl (fun _ h=>by have h:=Ws.drop (L:=[_,_]) (L':=_) h; have h:=Ws.drops h (fun _ hm=>List.mem_append_right [_,_] hm); exact h) ?_ WT.stop
 refine Lst 1 (.inl rfl) rfl rfl rfl sz26 rfl rfl rfl (Ln (Ett ?_))
 refine WT.e rfl (fun _ h=>by have h:=Ws.drop (L:=[_,_]) (L':=_) h; have h:=Ws.drops h (fun _ hm=>List.mem_append_right [_,_] hm); exact h) ?_ WT.stop
 refine V0 (Ya rfl) (Ln (Ett ?_))
 refine WT.nil (fun _ h=>by have h:=Ws.drop (L:=[_,_]) (L':=_) h; have h:=Ws.drops h (fun _ hm=>List.mem_append_right [_,_] hm); exact h) ?_
 refine Et (Cs ?_)
 obtain ⟨cu,hcu⟩:∃c,c=(resolveM cntM []).1:=⟨_,rfl⟩
 obtain ⟨tu,htu⟩:∃c,c=(resolveM topM fsC).1:=⟨_,rfl⟩
 rw [←hcu,←htu]
 rw [←hcu] at h9
 rw [←htu] at h21
 refine Cr (V0 (Yda 3 rfl rfl ag26 rfl) (V0 (Yda 1 rfl rfl ag26 rfl) ?_))
 refine Lb (.inl rfl) rfl el38 rfl rfl rfl rfl fun b26=>?_
 refine Lrb 0 (.cells ((([(cu,r9),(tu,r21)]:List XU)).flatMap XU.cells).toArray 26 (0,0)) rfl rfl ?_
 refine LW (fun _ h=>h.osT_blk (f:=XU.cells) (xs:=([(cu,r9),(tu,r21)]:List XU)) (c:=2) 0 rfl XU.cells_len rfl (by decide)) ?_
 refine V0 (Ya rfl) (Ln (Et (Crt ?_)))
 refine WE.ret1 rfl rfl fun w' hw=>?_
 have h9u:=h9
 refine ⟨(some ⟨b26,0,none⟩,2),rfl,hw.fr,?_⟩
 show Sl _ _ _ _ _ [(resolveM cntM []).1,(resolveM topM fsC).1]
 rw [←hcu,←htu]
 have h9:=hw.slT (rd:=rdXU) 0 rfl XU.cells_len (fun _ _ _ _ h=>h)
 exact slU_of (es:=[(cu,r9),(tu,r21)]) h9 (fun _ _ h=>h) fun e he=>by
   simp only [List.mem_cons,List.not_mem_nil,or_false] at he
   rcases he with rfl | rfl
   · exact h9u.mv (nv_vs hw (by simp) hf9)
   · exact h21.mv (nv_vs hw (by simp) hf21)
end Go.Proofs.YtpjekjnehiinnaaGreatDoor
end
section
namespace Go.Proofs.YtpjekjnehiinnaaGreatDoor
open Go.Bw
set_option linter.unusedVariables false
set_option linter.unusedSimpArgs false
theorem gen_split {o:GObj} {e:Int} (he:e=0) (h1:o.g.code.length=22) (h2:o.ents=[0]) (h3:o.main=19) (h4:o.g.fix.length=5):∃nm us da code fix,(o,e)=((⟨nm,us,da,⟨code,fix⟩,[0],19⟩:GObj),0)∧code.length=22∧fix.length=5∧o.g=⟨code,fix⟩:=by
 obtain ⟨nm,us,da,⟨code,fix⟩,ents,main⟩:=o
 subst he h2 h3
 exact ⟨nm,us,da,code,fix,rfl,h1,h4,rfl⟩
def tI3 (x:InsG):Int×Int×Int:=(x.op,x.a,x.b)
def tF3 (x:FixE):Int×Int×Int:=(x.at_,x.kind,x.m)
theorem tI3_ex {o:Option InsG} {a:Int×Int×Int} (h:o.map tI3=some a):o=some ⟨a.1,a.2.1,a.2.2⟩:=by
 cases o with
 | none=>cases h
 | some x=>simp only [Option.map_some,Option.some.injEq] at h; subst h; rfl
theorem tF3_ex {o:Option FixE} {a:Int×Int×Int} (h:o.map tF3=some a):o=some ⟨a.1,a.2.1,a.2.2⟩:=by
 cases o with
 | none=>cases h
 | some x=>simp only [Option.map_some,Option.some.injEq] at h; subst h; rfl
theorem cnt_g4:((genM (resolveM cntM []).1).1.g.code[4]?).map tI3=some (12,15,0):=by decide +kernel
theorem cnt_g5:((genM (resolveM cntM []).1).1.g.code[5]?).map (·.op)=some 16:=by decide +kernel
theorem cnt_f0:((genM (resolveM cntM []).1).1.g.fix[0]?).map tF3=some (4,1,0):=by decide +kernel
theorem cnt_f1:((genM (resolveM cntM []).1).1.g.fix[1]?).map tF3=some (6,3,0):=by decide +kernel
theorem cnt_wu:wUn (resolveM cntM []).1≤1048576:=by decide +kernel
theorem no_gen:genM noUnit=(noObj,1):=by rw [genM,if_pos (by decide)]
theorem cnt_gen:∃nm us da code fix,genM (resolveM cntM []).1=((⟨nm,us,da,⟨code,fix⟩,[0],19⟩:GObj),0)∧code.length=22∧fix.length=5∧code[4]? = some ⟨12,15,0⟩∧(∃y,code[5]? = some y∧y.op=16)∧fix[0]? = some ⟨4,1,0⟩∧fix[1]? = some ⟨6,3,0⟩:=by
 obtain ⟨nm,us,da,code,fix,h,h1,h2,h3⟩:=gen_split (o:=(genM (resolveM cntM []).1).1) (e:=(genM (resolveM cntM []).1).2) (by decide +kernel) (by decide +kernel) (by decide +kernel) (by decide +kernel) (by decide +kernel)
 have g4:=tI3_ex cnt_g4
 have g5:=cnt_g5
 have f0:=tF3_ex cnt_f0
 have f1:=tF3_ex cnt_f1
 rw [h3] at g4 g5 f0 f1
 refine ⟨nm,us,da,code,fix,h,h1,h2,g4,?_,f0,f1⟩
 cases hx:code[5]? with
 | none=>rw [hx] at g5; cases g5
 | some y=>rw [hx] at g5; exact ⟨y,rfl,by simpa using g5⟩
theorem en29:Enters Tryz.prog 29:=enters_of Tryz.func29 (by kernel_rfl) rfl
theorem en9:Enters Tryz.prog 9:=enters_of Tryz.func9 (by kernel_rfl) rfl
theorem fo56_0:fieldOff Tryz.prog 56 0=some 0:=by kernel_rfl
theorem en10:Enters Tryz.prog 10:=enters_of Tryz.func10 (by kernel_rfl) rfl
theorem en11:Enters Tryz.prog 11:=enters_of Tryz.func11 (by kernel_rfl) rfl
theorem en12:Enters Tryz.prog 12:=enters_of Tryz.func12 (by kernel_rfl) rfl
theorem genBegun_any (G:View) (w:World) (hG:Le G w) (hz:Laid G) :
   Calls Tryz.prog 11 #[] w fun e w'=>e = .returned (.bool true)∧Ext w w':=by
 refine enter Tryz.func11 rfl 78 rfl rfl ?_
 refine CWd (W':=Ws w [] [] [G]) (fun _ e=>by subst e; exact Ws.init (by simp [hG])) ?_
 refine Cs (Cr (V0 (Ya rfl) (Ln (Et (Cs ?_)))))
 obtain ⟨nm,us,da,code,fix,hgen,hcl,hfl,hc4,⟨y5,hc5,hy5⟩,hx0,hx1⟩:=cnt_gen
 refine Cr ?_
 refine Ld (.inl rfl) rfl en29 rfl (fun q:SP=>.slice q.1 2 q.2) (fun F q=>Sl (rdU2 8 7) 5 F q.1 q.2 progU) (fun w hw=>program_any G w (hw.vs _ (by simp)) hz) ?_
 intro F6 r6 hf6 h6
 obtain ⟨pbu,pou,hau,ur,hrow,hru⟩:=h6.elt 0 _ rfl
 have hucap:=h6.cap
 have humax:=h6.max
 refine V0 (Yo (i:=0) es38 rfl rfl hau (by decide)) ?_
 refine V0 (yl_lda 0 ag26 rfl rfl rfl (hrow)) ?_
 refine Ld (.inl rfl) rfl en9 rfl (fun r:OAt=>.tuple #[.agg (objV ((⟨nm,us,da,⟨code,fix⟩,[0],19⟩:GObj)) r).toArray,.int .i64 (0)]) (fun F r=>RdOb F r (⟨nm,us,da,⟨code,fix⟩,[0],19⟩:GObj)) (fun w hw=>by
     have:=gen_any F6 8 7 (resolveM cntM []).1 ur w (hw.vs _ (by simp)) hru cnt_wu
     rw [hgen] at this
     exact this) ?_
 intro F9 r9 hf9 h9
 refine V0 (Ym rfl) (V0 (Yx rfl rfl) (V0 (Yx rfl rfl) ?_))
 refine WL.alloc (.inl rfl) rfl zr31 fun b1=>?_
 refine Lst 0 (.inl rfl) rfl rfl rfl sz31 rfl rfl rfl (V0 (Ya rfl) (Ln (Et (Cs (Cr (V0 (Yb zr26 pl26 rfl rfl) ?_))))))
 refine Ld (.inl rfl) rfl en9 rfl (fun r:OAt=>.tuple #[.agg (objV (noObj) r).toArray,.int .i64 (1)]) (fun F r=>RdOb F r noObj) (fun w hw=>by
     have:=gen_any G 8 7 noUnit noUAt w (hw.vs _ (by simp)) (noUnit_rd _) (by decide)
     rw [no_gen] at this
     exact this) ?_
 intro F14 r14 hf14 h14
 refine V0 (Ym rfl) (V0 (Yx rfl rfl) (V0 (Yx rfl rfl) ?_))
 refine WL.alloc (.inl rfl) rfl zr31 fun b3=>?_
 refine Lst 0 (.inl rfl) rfl rfl rfl sz31 rfl rfl rfl (V0 (Ya rfl) (Ln (Et (Cs ?_))))
 obtain ⟨pb4,po4,ha4,hr4⟩:=h9.code.elt 4 _ hc4
 obtain ⟨pb5,po5,ha5,hr5⟩:=h9.code.elt 5 _ hc5
 obtain ⟨pbx,pox,hax,hrx⟩:=h9.fix.elt 0 _ hx0
 obtain ⟨pbz,poz,haz,hrz⟩:=h9.fix.elt 1 _ hx1
 have ccap:=h9.code.cap
 have cmax:=h9.code.max
 have fcap:=h9.fix.cap
 have fmax:=h9.fix.max
 simp only at ccap fcap
 have hr5:RdC F9 pb5 (po5+5*3) y5.cells:=hr5
 refine Cr (V0 (Ym rfl) (V0 (yl_eqiY rfl rfl rfl) (V0 (Ym rfl) ?_)))
 apply WL.and 2 (x:=true) rfl rfl rfl rfl (.inl rfl) rfl rfl rfl rfl rfl
 ·
  intro hg0
  refine Lv (.g rfl rfl rfl) rfl (Ym rfl) (Lv (.g rfl rfl rfl) rfl (yl_eqiY rfl rfl rfl) ?_)
  exact Gt 2 rfl rfl rfl
 refine V0 (Ym rfl) ?_
 apply WL.and 4 (x:=true) rfl rfl rfl rfl (.inl rfl) rfl rfl rfl rfl rfl
 ·
  intro hg1
  refine Lv (.g rfl rfl rfl) rfl (Yf fo31_3 rfl) (Lv (.g rfl rfl rfl) rfl (Yd 1 rfl rfl rfl na27) (Lv (.g rfl rfl rfl) rfl (Yn es27 rfl) ?_))
  refine Lv (.g rfl rfl rfl) rfl (yl_eqiY rfl rfl (by rw [hcl]; rfl)) ?_
  exact Gt 4 rfl rfl rfl
 refine V0 (Ym rfl) ?_
 apply WL.and 4 (x:=true) rfl rfl rfl rfl (.inl rfl) rfl rfl rfl rfl rfl
 ·
  intro hg2
  refine Lv (.g rfl rfl rfl) rfl (Yf fo31_5 rfl) (Lv (.g rfl rfl rfl) rfl (Yd 1 rfl rfl rfl na29) ?_)
  refine Lb (.g rfl rfl rfl) rfl el29 rfl rfl rfl rfl fun b32=>?_
  refine Lrb 0 (.cells ((([0]:List Nat)).flatMap ntC).toArray 3 (0,0)) rfl rfl ?_
  refine LW (fun _ h=>h.osT_blk (f:=ntC) (xs:=([0]:List Nat)) (c:=1) 0 rfl ntC_len rfl (by decide)) ?_
  refine WL.oslview (rd:=rdNt) 0 rfl ntC_len (fun _ _ _ _ h=>h) fun H32 hH32=>?_
  refine Lp (.g rfl rfl rfl) rfl en21 rfl (fun w hw=>sameInts_eqG F9 H32 r9.s4.1 (some ⟨b32,0,none⟩) r9.s4.2 1 [0] w (hw.vs _ (by simp)) (hw.vs _ (by simp)) h9.ents hH32) ?_
  refine WL.wk ?_ (Gt 4 rfl rfl rfl)
  exact fun _ h=>Ws.drops (h) (fun _ hm=>List.mem_append_right [_] hm)
 refine V0 (Ym rfl) ?_
 apply WL.and 3 (x:=true) rfl rfl rfl rfl (.inl rfl) rfl rfl rfl rfl rfl
 ·
  intro hg3
  refine Lv (.g rfl rfl rfl) rfl (Yf fo31_6 rfl) (Lv (.g rfl rfl rfl) rfl (Yd 1 rfl rfl rfl na3) (Lv (.g rfl rfl rfl) rfl (yl_eqiY rfl rfl rfl) ?_))
  exact Gt 3 rfl rfl rfl
 refine V0 (Ym rfl) ?_
 apply WL.and 4 (x:=true) rfl rfl rfl rfl (.inl rfl) rfl rfl rfl rfl rfl
 ·
  intro hg4
  refine Lv (.g rfl rfl rfl) rfl (Yf fo31_4 rfl) (Lv (.g rfl rfl rfl) rfl (Yd 1 rfl rfl rfl na28) (Lv (.g rfl rfl rfl) rfl (Yn es28 rfl) ?_))
  refine Lv (.g rfl rfl rfl) rfl (yl_eqiY rfl rfl (by rw [hfl]; rfl)) ?_
  exact Gt 4 rfl rfl rfl
 refine V0 (Ym rfl) ?_
 apply WL.and 6 (x:=true) rfl rfl rfl rfl (.inl rfl) rfl rfl rfl rfl rfl
 ·
  intro hg5
  refine Lv (.g rfl rfl rfl) rfl (Yf fo31_3 rfl) (Lv (.g rfl rfl rfl) rfl (Yd 1 rfl rfl rfl na27) ?_)
  refine Lv (.g rfl rfl rfl) rfl (Yo (i:=4) es27 rfl rfl ha4 (by show 4<code.length; omega)) ?_
  refine Lv (.g rfl rfl rfl) rfl (yl_lda 1 ag56 rfl rfl rfl (hr4)) (Lv (.g rfl rfl rfl) rfl (Yb zr56 pl56 rfl rfl) (Lv (.g rfl rfl rfl) rfl (yl_eqst (r:=true) fl56 rfl rfl rfl) ?_))
  exact Gt 6 rfl rfl rfl
 refine V0 (Ym rfl) ?_
 apply WL.and 6 (x:=true) rfl rfl rfl rfl (.inl rfl) rfl rfl rfl rfl rfl
 ·
  intro hg6
  refine Lv (.g rfl rfl rfl) rfl (Yf fo31_3 rfl) (Lv (.g rfl rfl rfl) rfl (Yd 1 rfl rfl rfl na27) ?_)
  refine Lv (.g rfl rfl rfl) rfl (Yo (i:=5) es27 rfl rfl ha5 (by show 5<code.length; omega)) ?_
  refine Lv (.g rfl rfl rfl) rfl (Yf fo56_0 rfl) (Lv (.g rfl rfl rfl) rfl (yl_ld 1 na3 rfl rfl (hr5 0 _ rfl)) (Lv (.g rfl rfl rfl) rfl (yl_eqiY rfl rfl hy5) ?_))
  exact Gt 6 rfl rfl rfl
 refine V0 (Ym rfl) ?_
 apply WL.and 6 (x:=true) rfl rfl rfl rfl (.inl rfl) rfl rfl rfl rfl rfl
 ·
  intro hg7
  refine Lv (.g rfl rfl rfl) rfl (Yf fo31_4 rfl) (Lv (.g rfl rfl rfl) rfl (Yd 1 rfl rfl rfl na28) ?_)
  refine Lv (.g rfl rfl rfl) rfl (Yo (i:=0) es28 rfl rfl hax (by show 0<fix.length; omega)) ?_
  refine Lv (.g rfl rfl rfl) rfl (yl_lda 1 ag54 rfl rfl rfl (hrx)) (Lv (.g rfl rfl rfl) rfl (Yb zr54 pl54 rfl rfl) (Lv (.g rfl rfl rfl) rfl (yl_eqst (r:=true) fl54 rfl rfl rfl) ?_))
  exact Gt 6 rfl rfl rfl
 refine V0 (Ym rfl) ?_
 apply WL.and 6 (x:=true) rfl rfl rfl rfl (.inl rfl) rfl rfl rfl rfl rfl
 ·
  intro hg8
  refine Lv (.g rfl rfl rfl) rfl (Yf fo31_4 rfl) (Lv (.g rfl rfl rfl) rfl (Yd 1 rfl rfl rfl na28) ?_)
  refine Lv (.g rfl rfl rfl) rfl (Yo (i:=1) es28 rfl rfl haz (by show 1<fix.length; omega)) ?_
  refine Lv (.g rfl rfl rfl) rfl (yl_lda 1 ag54 rfl rfl rfl (hrz)) (Lv (.g rfl rfl rfl) rfl (Yb zr54 pl54 rfl rfl) (Lv (.g rfl rfl rfl) rfl (yl_eqst (r:=true) fl54 rfl rfl rfl) ?_))
  exact Gt 6 rfl rfl rfl
 refine V0 (Ya rfl) (Ln (Et (Crt ?_)))
 refine WE.ret1 rfl rfl fun w' hw=>?_
 exact ⟨rfl,hw.fr⟩
theorem genMakes_any (G H:View) (ke k:Nat) (u:TUnit) (r:UAt) (w:World) (hG:Le G w) (hz:Laid G) (hH:Le H w) (hu:RdU ke k H r u) (hub:wUn u≤1048576) :
   Calls Tryz.prog 3 #[.agg (unitV u r).toArray] w fun e w'=>e = .returned (.bool true)∧Ext w w':=by
 refine enter Tryz.func3 rfl 28 rfl rfl ?_
 refine CWd (W':=Ws w [] [] [G,H]) (fun _ e=>by subst e; exact Ws.init (by simp [hG,hH])) ?_
 refine Cs (Cr ?_)
 refine WL.box (.inl rfl) rfl rfl fun b1=>?_
 refine V0 (Ya rfl) (Ln (Et (Cs (Cr (V0 (Yda 0 rfl rfl ag26 rfl) ?_)))))
 refine Ld (.inl rfl) rfl en9 rfl (fun r:OAt=>.tuple #[.agg (objV ((genM u).1) r).toArray,.int .i64 ((genM u).2)]) (fun F r=>RdOb F r (genM u).1) (fun w hw=>gen_any H ke k u r w (hw.vs _ (by simp)) hu hub) ?_
 intro F9 r9 hf9 h9
 refine V0 (Ym rfl) (V0 (Yx rfl rfl) (V0 (Yx rfl rfl) ?_))
 refine WL.alloc (.inl rfl) rfl zr31 fun b3=>?_
 refine Lst 0 (.inl rfl) rfl rfl rfl sz31 rfl rfl rfl (V0 (Ya rfl) (Ln (Et (Cs (Cr (V0 (Yda 1 rfl rfl ag26 rfl) ?_))))))
 refine Ld (.inl rfl) rfl en10 rfl (fun r:OAt=>.tuple #[.agg (objV ((genM u).1) r).toArray,.int .i64 ((genM u).2)]) (fun F r=>RdOb F r (genM u).1) (fun w hw=>genOf_any H ke k u r w (hw.vs _ (by simp)) hu hub) ?_
 intro F14 r14 hf14 h14
 refine V0 (Ym rfl) (V0 (Yx rfl rfl) (V0 (Yx rfl rfl) ?_))
 refine WL.alloc (.inl rfl) rfl zr31 fun b5=>?_
 refine Lst 0 (.inl rfl) rfl rfl rfl sz31 rfl rfl rfl (V0 (Ya rfl) (Ln (Et (Cs (Cr ?_)))))
 refine Lp (.inl rfl) rfl en11 rfl (fun w hw=>genBegun_any G w (hw.vs _ (by simp)) hz) ?_
 refine V0 (Ym rfl) ?_
 apply WL.and 3 (x:=true) rfl rfl rfl rfl (.inl rfl) rfl rfl rfl rfl rfl
 ·
  intro hg0
  refine Lv (.g rfl rfl rfl) rfl (Ym rfl) (Lv (.g rfl rfl rfl) rfl (Ym rfl) (Lv (.g rfl rfl rfl) rfl (yl_eqiY rfl rfl rfl) ?_))
  exact Gt 3 rfl rfl rfl
 refine V0 (Ym rfl) ?_
 apply WL.and 3 (x:=true) rfl rfl rfl rfl (.inl rfl) rfl rfl rfl rfl rfl
 ·
  intro hg1
  refine Lv (.g rfl rfl rfl) rfl (Yda 1 rfl rfl ag31 rfl) (Lv (.g rfl rfl rfl) rfl (Yda 0 rfl rfl ag31 rfl) ?_)
  refine Lp (.g rfl rfl rfl) rfl en12 rfl (fun w hw=>sameObjects_eq F9 F14 r9 r14 (genM u).1 w (hw.vs _ (by simp)) (hw.vs _ (by simp)) h9 h14) ?_
  exact Gt 3 rfl rfl rfl
 refine V0 (Ya rfl) (Ln (Et (Crt ?_)))
 refine WE.ret1 rfl rfl fun w' hw=>?_
 exact ⟨rfl,hw.fr⟩
end Go.Proofs.YtpjekjnehiinnaaGreatDoor
end
