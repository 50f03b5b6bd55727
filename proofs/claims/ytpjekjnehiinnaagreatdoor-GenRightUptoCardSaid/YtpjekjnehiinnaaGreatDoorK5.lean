/- GenRight: what is generated is a right object, all jumps of a part stay in it (proved in the second form, bulk at most 1048576). -/
import Derived.Test.YtpjekjnehiinnaaGreatDoorK4
set_option linter.unusedVariables false
set_option linter.unusedSimpArgs false
section
namespace Go.Proofs.YtpjekjnehiinnaaGreatDoor
open Go.Bw
def noXK:XK:=(noKn,(none,0))
theorem noKn_rows {H:View} {b n:Nat} (h:Sl rdXK 3 H (some ⟨b,0,none⟩) n (List.replicate n noXK)) {N:View} (hv:VLe H N):Sl rdKn 3 N (some ⟨b,0,none⟩) n (List.replicate n noKn):=by
 have h9:=slK_of h hv fun e he=>by
   have e1:e=noXK:=List.eq_of_mem_replicate he
   subst e1; exact Sl.nil
 rw [List.map_replicate] at h9
 exact h9
theorem valone_any (H:View) (ke k:Nat) (u:TUnit) (r:UAt) (w:World) (hH:Le H w) (hu:RdU ke k H r u) (hul:u.uses.length≤1048576) :
   Calls Tryz.prog 23 #[.agg (unitV u r).toArray] w fun e w'=>e = .returned (.bool (aloneB u))∧Ext w w':=by
 have hcap:=hu.uses.cap
 have hmax:=hu.uses.max
 refine enter Tryz.func23 O 9 O O ?_
 refine CWd (W':=Ws w [] [] [H]) (fun _ e=>by subst e; exact Ws.init (by simp [hH])) ?_
 refine Cs (Cr ?_)
 refine WL.box Y O O fun b1=>?_
 refine V0 (Ya O) (Ln (Et (Cs ?_)))
 refine CU (fun _=>true) [] [] (.q true 0 (.q false 1 (.q true 2 (.q false 3 (.e 4 (.e 5 (.q false 6 .nil) .stop) .stop))))) mixed (by kernel_rfl) (fun _ _ _ d _ _ h=>by cases d<;>exact h) ?_
 refine U0 O (fun _ h=>h) (Yda 0 O O ag26 O) (U0 O (fun _ h=>h) (Yf fo26_1 O) (U0 O (fun _ h=>h) (Yd 0 O O O na22) (U0 O (fun _ h=>h) (Yn es22 O) ?_)))
 refine Ue O (fun _ h=>h) ?_ WU.stop
 refine WL.make Y O el75 O O (by omega) (by omega) (by omega) (by omega) fun b7=>?_
 refine Lrb 0 (.cells ((List.replicate u.uses.length noXK).flatMap XK.cells).toArray 77 (0,0)) O (by rw [←madeCells_flat (f:=XK.cells) (x:=noXK) (zs:=(Value.agg #[.bool false,.int .i64 0,.slice none 0 0]).cells) O (by decide)]; rfl) ?_
 refine WL.blksl (rd:=rdXK) (f:=XK.cells) (k:=3) (m:=u.uses.length) 0 (List.replicate u.uses.length noXK) O O XK.cells_len (fun _ _ _ _ h=>h) (by simp) (by omega) fun H7 hH7=>?_
 refine Ln (Eu ?_)
 refine Ue O (fun _ h=>(Wv 1 h:)) ?_ WU.stop
 refine Lp Y O en33 O (fun w hw=>by
   have hcc:=vfine_any H (hv w) ke k u r (List.replicate u.uses.length noKn) (some ⟨b7,0,none⟩) u.uses.length w (hw.vs H (by simp)) (hv_le w) hu (noKn_rows hH7 (hv_of (hw.vs H7 (by simp)))) (by simp; omega)
   rw [List.length_replicate] at hcc
   exact hcc) ?_
 refine Ln (Eu (U0 O (fun _ h=>(Wv 1 h:)) (Ya O) ?_))
 refine WU.nil (fun _ h=>(Wv 1 h:)) ?_
 refine WS.nil ?_
 refine Et (Crt ?_)
 refine R1 O O fun w' hw=>?_
 exact ⟨O,hw.fr⟩
end Go.Proofs.YtpjekjnehiinnaaGreatDoor
end
section
namespace Go.Proofs.YtpjekjnehiinnaaGreatDoor
open Go.Bw
theorem zr31:zeroOf Tryz.prog 31=some (.agg #[st [],.slice none 0 0,.int .i64 0,.slice none 0 0,.slice none 0 0,.slice none 0 0,.int .i64 0]):=by kernel_rfl
theorem en23:Enters Tryz.prog 23:=enters_of Tryz.func23 (by kernel_rfl) rfl
theorem pl31:placesP Tryz.prog 31=some [(0,1),(1,1),(2,1),(3,1),(4,1),(5,1),(6,1)]:=by kernel_rfl
theorem sz31:sizeP Tryz.prog 31=some 7:=by kernel_rfl
theorem ag31:aggOf Tryz.prog 31=some 7:=by kernel_rfl
theorem pl61:placesP Tryz.prog 61=some [(0,7)]:=by kernel_rfl
theorem zr61:zeroOf Tryz.prog 61=some (.agg #[st [],.slice none 0 0,.int .i64 0,.slice none 0 0,.slice none 0 0,.slice none 0 0,.int .i64 0]):=by kernel_rfl
theorem fo31_5:fieldOff Tryz.prog 31 5=some 5:=by kernel_rfl
theorem en25:Enters Tryz.prog 25:=enters_of Tryz.func25 (by kernel_rfl) rfl
theorem fo31_6:fieldOff Tryz.prog 31 6=some 6:=by kernel_rfl
theorem gen_any (H:View) (ke k:Nat) (u:TUnit) (r:UAt) (w:World) (hH:Le H w) (hu:RdU ke k H r u) (hub:wUn u≤1048576) :
   Calls Tryz.prog 9 #[.agg (unitV u r).toArray] w fun e w'=>∃q:OAt,e = .returned (.tuple #[.agg (objV (genM u).1 q).toArray,.int .i64 (genM u).2])∧Ext w w'∧RdOb (nv w w') q (genM u).1:=by
 have hcap:=hu.uses.cap
 have hmax:=hu.uses.max
 have hpcap:=hu.parts.cap
 have hpmax:=hu.parts.max
 have hwu:=wUn_eq u
 have hwn:=wN_len u.uses
 have hwp:=wPts_len u.parts
 refine enter Tryz.func9 O 64 O O ?_
 refine CWd (W':=Ws w [] [] [H]) (fun _ e=>by subst e; exact Ws.init (by simp [hH])) ?_
 refine Cs (Cr ?_)
 refine WL.box Y O O fun b1=>?_
 refine Al Y O zr31 fun b2=>?_
 refine V0 (Ya O) (Ln (Et (Cs (Cs (Cr (V0 (Yda 1 O O ag26 O) ?_))))))
 refine Lp Y O en23 O (fun w hw=>valone_any H ke k u r w (hw.vs H (by simp)) hu (by omega)) ?_
 refine V0 (yl_not O) (Ln (Et ?_))
 refine Cc O (fun hc0=>?_) (fun hc0=>?_)
 ·
  have hx:aloneB u=false:=by simpa using hc0
  refine Cs (Cr (V0 (Yb zr31 pl31 O O) (Lst 0 Y O O O sz31 O O O (V0 (Ya O) (Ln (Et (Crt (Er ?_))))))))
  refine WE.retc2 0 O O O O ag31 O fun w' hw=>?_
  rw [show genM u=(noObj,1) from by rw [genM,if_pos hx]]
  exact ⟨noOAt,O,hw.fr,noObj_rd _⟩
 have hx:aloneB u=true:=by simpa using hc0
 obtain ⟨hop,hom⟩:=alone_parts hx
 refine Ck (Et (Cs ?_))
 refine CU (fun _=>true) [] [] (.q false 0 (.q true 1 (.q false 2 (.q true 3 (.q false 5 (.q true 6 (.e 4 (.q false 7 (.q false 8 (.e 9 (.q false 10 .nil) .stop))) .stop))))))) mixed (by kernel_rfl) (fun _ _ _ d _ _ h=>by cases d<;>exact h) ?_
 refine U0 O (fun _ h=>h) (Yf fo26_0 O) (U0 O (fun _ h=>h) (Yd 1 O O O na9) (U0 O (fun _ h=>h) (Yf fo26_1 O) (U0 O (fun _ h=>h) (Yd 1 O O O na22) (U0 O (fun _ h=>h) (Yf fo26_2 O) (U0 O (fun _ h=>h) (Yd 1 O O O na3) ?_)))))
 refine Ue O (fun _ h=>h) ?_ WU.stop
 refine Ld Y O en24 O (fun r:SP=>.slice r.1 u.uses.length r.2) (fun F r=>Sl rdStr 1 F r.1 r.2 u.uses) (fun w hw=>cloneS_any H r.s1.1 r.s1.2 u.uses w (hw.vs H (by simp)) hu.uses (by omega)) ?_
 intro F15 r15 hf15 h15
 refine Ln (Eu (U0 O (fun _ h=>(Wv 1 h:)) (Yb zr31 pl31 O O) (U0 O (fun _ h=>(Wv 1 h:)) (Yb zr61 pl61 O O) ?_)))
 refine Ue O (fun _ h=>(Wv 1 h:)) ?_ WU.stop
 refine WL.box Y O O fun b20=>?_
 obtain ⟨sb,hsb⟩:∃s,s=b20:=⟨_,rfl⟩
 subst hsb
 refine Lrb 0 (gob 61 (⟨u.nm,.slice r15.1 u.uses.length r15.2,u.data,.slice none 0 0,.int .i64 0⟩:ObjK) ⟨⟨[],[]⟩,(none,0),(none,0)⟩) O O ?_
 refine LW (fun _ h=>h.osl_nil 3 1) ?_
 refine LW (fun _ h=>h.osl_nil 54 3) ?_
 refine LW (fun _ h=>h.osl_nil 56 3) ?_
 refine Ln (Eu (U0 O (fun _ h=>(Wv 1 (Wd 4 h):)) (Ya O) ?_))
 refine WU.nil (fun _ h=>(Wv 1 (Wd 4 h):)) ?_
 refine WS.nil ?_
 refine Et (Cs (Cs (Cr (V0 (Yf fo26_3 O) (V0 (Yd 5 O O O na23) (V0 (Yn es23 O) (V0 (Ym O) (Ln (Et (Cb ?_))))))))))
 refine CLk (ι:=Nat×(SP×SP)×SP) (fun g=>[(24,.int .i64 (g.1:Int))]) [(1,_),(2,_),(3,_),(4,_),(22,_),(23,_)] (fun g=>Ws w [] ((gown 61 56 54 sb (⟨u.nm,.slice r15.1 u.uses.length r15.2,u.data,.slice g.2.2.1 (partsG (u.parts.take g.1) ⟨[],[]⟩).1.length g.2.2.2,.int .i64 0⟩:ObjK) ⟨(partsG (u.parts.take g.1) ⟨[],[]⟩).2,g.2.1.1,g.2.1.2⟩)++[osT 3 1 ntC g.2.2.1 g.2.2.2 (partsG (u.parts.take g.1) ⟨[],[]⟩).1,blk b2 (.cells (Value.cells (.agg #[st [],.slice none 0 0,.int .i64 0,.slice none 0 0,.slice none 0 0,.slice none 0 0,.int .i64 0])) 31 (0,0)),blk b1 (.cells (unitV u r).toArray 26 (0,0))]) [F15,H]) (fun g=>g.1≤u.parts.length) (fun g=>u.parts.length-g.1) (0,(((none,0),(none,0)),(none,0))) (Nat.zero_le _) (sc O (sc O (sc O (sc O (sc O (sc O (sc O sn))))))) (fun _ h=>by exact ((((((h.f 5 O).f 5 O).f 4 O).f 4 O).f 4 O).f 5 O:)) ?_
 intro g hgi
 refine Cs (Cr (V0 (yl_lt O O) (Ln (Et (Cs ?_)))))
 refine Cc O (fun hc1=>?_) (fun hc1=>?_)
 ·
  have hlt:g.1<u.parts.length:=by simpa using hc1
  obtain ⟨x,hxi⟩:∃q,u.parts[g.1]? = some q:=⟨_,List.getElem?_eq_getElem hlt⟩
  obtain ⟨pbx,pox,hax,hrx⟩:=hu.parts.elt g.1 x hxi
  obtain ⟨xr,hrow,hsub⟩:=hrx
  have hww:=wPts_mem hxi
  have hpl:=partsG_len (u.parts.take g.1) ⟨[],[]⟩
  have hh1:(partsG (u.parts.take g.1) ⟨[],[]⟩).2.code.length≤8*wPts (u.parts.take g.1):=by have h9:=hpl.1.hi; simpa using h9
  have hh2:(partsG (u.parts.take g.1) ⟨[],[]⟩).2.fix.length≤8*wPts (u.parts.take g.1):=by have h9:=hpl.1.fhi; simpa using h9
  have hel:(partsG (u.parts.take g.1) ⟨[],[]⟩).1.length=g.1:=by rw [hpl.2,List.length_take]; omega
  have hwx:wPt x=1+wAcs x.body:=rfl
  have hok:=hop x (List.mem_of_getElem? hxi)
  have hT:=partsG_take hxi ⟨[],[]⟩
  have hT1:(partsG (u.parts.take (g.1+1)) ⟨[],[]⟩).1=(partsG (u.parts.take g.1) ⟨[],[]⟩).1++[(partsG (u.parts.take g.1) ⟨[],[]⟩).2.code.length]:=by rw [hT]
  have hT2:(partsG (u.parts.take (g.1+1)) ⟨[],[]⟩).2=(partG x.params x.locals x.body (partsG (u.parts.take g.1) ⟨[],[]⟩).2):=by rw [hT]
  refine Ck (Et (Cs (Cb (Cs (Cr (V0 (Yo es23 O O hax hlt) (V0 (yl_lda 1 ag63 O O O (hrow)) ?_)))))))
  refine Al Y O zr63 fun b6=>?_
  refine Lst 0 Y O O O sz63 O O O (Ln (Et ?_))
  refine Crb 0 (.cells (partV x xr).toArray 63 (0,0)) O O ?_
  refine CU (fun _=>true) [1,1,1,1] [14] (.q false 0 (.q false 1 (.q false 2 (.q false 3 (.q false 4 (.q false 6 (.q true 7 (.e 5 (.e 8 (.e 9 (.e 10 (.q false 11 (.q false 12 (.q false 13 .nil))) .stop) .stop) .stop) (.e 8 (.e 5 (.e 9 (.e 10 (.q false 11 (.q false 12 (.q false 13 .nil))) .stop) .stop) (.e 9 (.e 5 (.e 10 (.q false 11 (.q false 12 (.q false 13 .nil))) .stop) .stop) .stop)) .stop))))))))) mixed (by kernel_rfl) (fun _ _ _ d _ _ h=>by cases d<;>exact h) ?_
  refine U0 O (Wos [1,1,1,1]) (Ym O) (U0 O (Wos [1,1,1,1]) (Ym O) (U0 O (Wos [1,1,1,1]) (yl_nil O) (U0 O (Wos [1,1,1,1]) (Yf fo61_0 O) (U0 O (Wos [1,1,1,1]) (Yf fo31_5 O) (U0 O (Wos [1,1,1,1]) (Ym O) ?_)))))
  refine U0 O (Wos [1,1,1,1]) (Yda 0 O O ag63 O) ?_
  refine Ue O (Wos [1,1,1,1]) ?_ ?_
  ·
   refine V0 (Yd 1 O O O na29) (Ln (Eu ?_))
   refine Ue O (Wos [1,1,1,1]) ?_ WU.stop
   refine Lf 3 O (Lf 3 O (Lf 3 O ?_))
   refine Lw (ι:=SP×SP) [_,_,_] _ Y O en25 O O (fun _=>.int .i64 (((partsG (u.parts.take g.1) ⟨[],[]⟩).2).code.length:Int)) (fun q=>(gown 61 56 54 sb (⟨u.nm,.slice r15.1 u.uses.length r15.2,u.data,.slice g.2.2.1 (partsG (u.parts.take g.1) ⟨[],[]⟩).1.length g.2.2.2,.int .i64 0⟩:ObjK) ⟨(partG x.params x.locals x.body (partsG (u.parts.take g.1) ⟨[],[]⟩).2),q.1,q.2⟩)) (fun _=>True) [H] (by simp) (fun w hw=>(spart_any sb (⟨u.nm,.slice r15.1 u.uses.length r15.2,u.data,.slice g.2.2.1 (partsG (u.parts.take g.1) ⟨[],[]⟩).1.length g.2.2.2,.int .i64 0⟩:ObjK) (⟨(partsG (u.parts.take g.1) ⟨[],[]⟩).2,g.2.1.1,g.2.1.2⟩:GsA) H ke k x.params x.locals x.body xr.1 xr.2 w hsub hok (by show ((partsG (u.parts.take g.1) ⟨[],[]⟩).2).code.length+8*(1+wAcs x.body)≤_; omega) (by show ((partsG (u.parts.take g.1) ⟨[],[]⟩).2).fix.length+8*(1+wAcs x.body)≤_; omega) hw).mono fun e w' ⟨q,h1,h2⟩=>⟨q,h1,trivial,h2⟩) ?_
   intro q36 _
   refine Ln (Eu ?_)
   refine Ue O (fun _ h=>by exact (Wo 1 (Wo 1 (Wo 1 (Wo 1 (((((((h.f 6 O).f 6 O).f 6 O).f 5 O).f 5 O).f 5 O).f 6 O)))):)) ?_ WU.stop
   refine Lb Y O el29 O O O O fun b37=>?_
   refine Lrb 0 (.cells (ntC (partsG (u.parts.take g.1) ⟨[],[]⟩).2.code.length).toArray 3 (0,0)) O (O) ?_
   refine Ln (Eu ?_)
   refine Ue O (fun _ h=>by exact (Wo 1 (Wo 1 (Wo 1 (Wo 1 (Wt 7 (((((((h.f 7 O).f 7 O).f 7 O).f 6 O).f 6 O).f 6 O).f 7 O))))):)) ?_ WU.stop
   refine LA ((partsG (u.parts.take g.1) ⟨[],[]⟩).2.code.length) 5 0 Y O el29 O O O O O O (by omega) (by omega) fun a38 c38=>?_
   refine Ln (Eu ?_)
   refine U0 O (fun _ h=>by exact (Wo 1 (Wo 1 (Wo 1 (Wo 1 (Wt 7 (((((((h.f 7 O).f 7 O).f 7 O).f 6 O).f 6 O).f 6 O).f 7 O))))):)) (yl_nil O) ?_
   refine U0 O (fun _ h=>by exact (Wo 1 (Wo 1 (Wo 1 (Wo 1 (Wt 7 (((((((h.f 7 O).f 7 O).f 7 O).f 6 O).f 6 O).f 6 O).f 7 O))))):)) (Yf fo61_0 O) ?_
   refine U0 O (fun _ h=>by exact (Wo 1 (Wo 1 (Wo 1 (Wo 1 (Wt 7 (((((((h.f 7 O).f 7 O).f 7 O).f 6 O).f 6 O).f 6 O).f 7 O))))):)) (Yf fo31_5 O) ?_
   refine WU.nil (fun _ h=>by exact (Wo 1 (Wo 1 (Wo 1 (Wo 1 (Wt 7 (((((((h.f 7 O).f 7 O).f 7 O).f 6 O).f 6 O).f 6 O).f 7 O))))):)) ?_
   refine WS.e O ?_
   refine Lst 1 Y O O O sz29 O O O (Ln (Es ?_))
   refine WS.nil ?_
   refine Eb (Et (Cr ?_))
   refine V0 (Yi O O O (by omega)) ?_
   refine V0 (Ym O) (Ln ?_)
   rw [←hT1,←hT2]
   refine WE.reblk 1 (gob 61 (⟨u.nm,.slice r15.1 u.uses.length r15.2,u.data,.slice a38 (partsG (u.parts.take (g.1+1)) ⟨[],[]⟩).1.length c38,.int .i64 0⟩:ObjK) ⟨(partsG (u.parts.take (g.1+1)) ⟨[],[]⟩).2,q36.1,q36.2⟩) O O ?_
   exact Ea ((g.1+1,(q36,(a38,c38))):Nat×(SP×SP)×SP) (by show _-(g.1+1)<_; omega) (by show g.1+1≤_; omega) (sc O (sc O (sc O (sc O (sc O (sc O (sc O sn))))))) (fun _ h=>by exact (Wt 6 ((((((h.f 7 O).f 7 O).f 7 O).f 6 O).f 6 O).f 6 O):))
  refine Ue O (Wos [1,1,1,1]) ?_ WU.stop
  refine Lf 3 O (Lf 3 O (Lf 3 O ?_))
  refine Lw (ι:=SP×SP) [_,_,_] _ Y O en25 O O (fun _=>.int .i64 (((partsG (u.parts.take g.1) ⟨[],[]⟩).2).code.length:Int)) (fun q=>(gown 61 56 54 sb (⟨u.nm,.slice r15.1 u.uses.length r15.2,u.data,.slice g.2.2.1 (partsG (u.parts.take g.1) ⟨[],[]⟩).1.length g.2.2.2,.int .i64 0⟩:ObjK) ⟨(partG x.params x.locals x.body (partsG (u.parts.take g.1) ⟨[],[]⟩).2),q.1,q.2⟩)) (fun _=>True) [H] (by simp) (fun w hw=>(spart_any sb (⟨u.nm,.slice r15.1 u.uses.length r15.2,u.data,.slice g.2.2.1 (partsG (u.parts.take g.1) ⟨[],[]⟩).1.length g.2.2.2,.int .i64 0⟩:ObjK) (⟨(partsG (u.parts.take g.1) ⟨[],[]⟩).2,g.2.1.1,g.2.1.2⟩:GsA) H ke k x.params x.locals x.body xr.1 xr.2 w hsub hok (by show ((partsG (u.parts.take g.1) ⟨[],[]⟩).2).code.length+8*(1+wAcs x.body)≤_; omega) (by show ((partsG (u.parts.take g.1) ⟨[],[]⟩).2).fix.length+8*(1+wAcs x.body)≤_; omega) hw).mono fun e w' ⟨q,h1,h2⟩=>⟨q,h1,trivial,h2⟩) ?_
  intro q36 _
  refine Ln (Eu ?_)
  refine Ue O (fun _ h=>by exact (Wo 1 (Wo 1 (Wo 1 (Wo 1 (((((((h.f 6 O).f 6 O).f 6 O).f 5 O).f 5 O).f 5 O).f 6 O)))):)) ?_ ?_
  ·
   refine V0 (Yd 0 O O O na29) (Ln (Eu ?_))
   refine Ue O (fun _ h=>by exact (Wo 1 (Wo 1 (Wo 1 (Wo 1 (((((((h.f 6 O).f 6 O).f 6 O).f 5 O).f 5 O).f 5 O).f 6 O)))):)) ?_ WU.stop
   refine Lb Y O el29 O O O O fun b37=>?_
   refine Lrb 0 (.cells (ntC (partsG (u.parts.take g.1) ⟨[],[]⟩).2.code.length).toArray 3 (0,0)) O (O) ?_
   refine Ln (Eu ?_)
   refine Ue O (fun _ h=>by exact (Wo 1 (Wo 1 (Wo 1 (Wo 1 (Wt 7 (((((((h.f 7 O).f 7 O).f 7 O).f 6 O).f 6 O).f 6 O).f 7 O))))):)) ?_ WU.stop
   refine LA ((partsG (u.parts.take g.1) ⟨[],[]⟩).2.code.length) 5 0 Y O el29 O O O O O O (by omega) (by omega) fun a38 c38=>?_
   refine Ln (Eu ?_)
   refine U0 O (fun _ h=>by exact (Wo 1 (Wo 1 (Wo 1 (Wo 1 (Wt 7 (((((((h.f 7 O).f 7 O).f 7 O).f 6 O).f 6 O).f 6 O).f 7 O))))):)) (yl_nil O) ?_
   refine U0 O (fun _ h=>by exact (Wo 1 (Wo 1 (Wo 1 (Wo 1 (Wt 7 (((((((h.f 7 O).f 7 O).f 7 O).f 6 O).f 6 O).f 6 O).f 7 O))))):)) (Yf fo61_0 O) ?_
   refine U0 O (fun _ h=>by exact (Wo 1 (Wo 1 (Wo 1 (Wo 1 (Wt 7 (((((((h.f 7 O).f 7 O).f 7 O).f 6 O).f 6 O).f 6 O).f 7 O))))):)) (Yf fo31_5 O) ?_
   refine WU.nil (fun _ h=>by exact (Wo 1 (Wo 1 (Wo 1 (Wo 1 (Wt 7 (((((((h.f 7 O).f 7 O).f 7 O).f 6 O).f 6 O).f 6 O).f 7 O))))):)) ?_
   refine WS.e O ?_
   refine Lst 1 Y O O O sz29 O O O (Ln (Es ?_))
   refine WS.nil ?_
   refine Eb (Et (Cr ?_))
   refine V0 (Yi O O O (by omega)) ?_
   refine V0 (Ym O) (Ln ?_)
   rw [←hT1,←hT2]
   refine WE.reblk 1 (gob 61 (⟨u.nm,.slice r15.1 u.uses.length r15.2,u.data,.slice a38 (partsG (u.parts.take (g.1+1)) ⟨[],[]⟩).1.length c38,.int .i64 0⟩:ObjK) ⟨(partsG (u.parts.take (g.1+1)) ⟨[],[]⟩).2,q36.1,q36.2⟩) O O ?_
   exact Ea ((g.1+1,(q36,(a38,c38))):Nat×(SP×SP)×SP) (by show _-(g.1+1)<_; omega) (by show g.1+1≤_; omega) (sc O (sc O (sc O (sc O (sc O (sc O (sc O sn))))))) (fun _ h=>by exact (Wt 6 ((((((h.f 7 O).f 7 O).f 7 O).f 6 O).f 6 O).f 6 O):))
  refine Ue O (fun _ h=>by exact (Wo 1 (Wo 1 (Wo 1 (Wo 1 (((((((h.f 6 O).f 6 O).f 6 O).f 5 O).f 5 O).f 5 O).f 6 O)))):)) ?_ WU.stop
  refine Lb Y O el29 O O O O fun b37=>?_
  refine Lrb 0 (.cells (ntC (partsG (u.parts.take g.1) ⟨[],[]⟩).2.code.length).toArray 3 (0,0)) O (O) ?_
  refine Ln (Eu ?_)
  refine Ue O (fun _ h=>by exact (Wo 1 (Wo 1 (Wo 1 (Wo 1 (Wt 7 (((((((h.f 7 O).f 7 O).f 7 O).f 6 O).f 6 O).f 6 O).f 7 O))))):)) ?_ WU.stop
  refine V0 (Yd 1 O O O na29) (Ln (Eu ?_))
  refine Ue O (fun _ h=>by exact (Wo 1 (Wo 1 (Wo 1 (Wo 1 (Wt 7 (((((((h.f 7 O).f 7 O).f 7 O).f 6 O).f 6 O).f 6 O).f 7 O))))):)) ?_ WU.stop
  refine LA ((partsG (u.parts.take g.1) ⟨[],[]⟩).2.code.length) 5 0 Y O el29 O O O O O O (by omega) (by omega) fun a38 c38=>?_
  refine Ln (Eu ?_)
  refine U0 O (fun _ h=>by exact (Wo 1 (Wo 1 (Wo 1 (Wo 1 (Wt 7 (((((((h.f 7 O).f 7 O).f 7 O).f 6 O).f 6 O).f 6 O).f 7 O))))):)) (yl_nil O) ?_
  refine U0 O (fun _ h=>by exact (Wo 1 (Wo 1 (Wo 1 (Wo 1 (Wt 7 (((((((h.f 7 O).f 7 O).f 7 O).f 6 O).f 6 O).f 6 O).f 7 O))))):)) (Yf fo61_0 O) ?_
  refine U0 O (fun _ h=>by exact (Wo 1 (Wo 1 (Wo 1 (Wo 1 (Wt 7 (((((((h.f 7 O).f 7 O).f 7 O).f 6 O).f 6 O).f 6 O).f 7 O))))):)) (Yf fo31_5 O) ?_
  refine WU.nil (fun _ h=>by exact (Wo 1 (Wo 1 (Wo 1 (Wo 1 (Wt 7 (((((((h.f 7 O).f 7 O).f 7 O).f 6 O).f 6 O).f 6 O).f 7 O))))):)) ?_
  refine WS.e O ?_
  refine Lst 1 Y O O O sz29 O O O (Ln (Es ?_))
  refine WS.nil ?_
  refine Eb (Et (Cr ?_))
  refine V0 (Yi O O O (by omega)) ?_
  refine V0 (Ym O) (Ln ?_)
  rw [←hT1,←hT2]
  refine WE.reblk 1 (gob 61 (⟨u.nm,.slice r15.1 u.uses.length r15.2,u.data,.slice a38 (partsG (u.parts.take (g.1+1)) ⟨[],[]⟩).1.length c38,.int .i64 0⟩:ObjK) ⟨(partsG (u.parts.take (g.1+1)) ⟨[],[]⟩).2,q36.1,q36.2⟩) O O ?_
  exact Ea ((g.1+1,(q36,(a38,c38))):Nat×(SP×SP)×SP) (by show _-(g.1+1)<_; omega) (by show g.1+1≤_; omega) (sc O (sc O (sc O (sc O (sc O (sc O (sc O sn))))))) (fun _ h=>by exact (Wt 6 ((((((h.f 7 O).f 7 O).f 7 O).f 6 O).f 6 O).f 6 O):))
 have hge:g.1=u.parts.length:=by simp at hc1; omega
 rw [hge,List.take_length]
 have hpl:=partsG_len u.parts ⟨[],[]⟩
 have hh1:(partsG u.parts ⟨[],[]⟩).2.code.length≤8*wPts u.parts:=by have h9:=hpl.1.hi; simpa using h9
 have hh2:(partsG u.parts ⟨[],[]⟩).2.fix.length≤8*wPts u.parts:=by have h9:=hpl.1.fhi; simpa using h9
 refine Ce (Ex (Ex (Ebh (Et (Cs (Cr (V0 (Ym O) (V0 (Ym O) (V0 (Yf fo26_4 O) (V0 (Yd 5 O O O na24) ?_))))))))))
 refine V0 (Yb zr63 pl63 O O) (Lf 2 O (Lf 2 O (Lf 2 O ?_)))
 refine Lw (ι:=SP×SP) [_,_,_] _ Y O en25 O O (fun _=>.int .i64 (((partsG u.parts ⟨[],[]⟩).2).code.length:Int)) (fun q=>(gown 61 56 54 sb (⟨u.nm,.slice r15.1 u.uses.length r15.2,u.data,.slice g.2.2.1 (partsG u.parts ⟨[],[]⟩).1.length g.2.2.2,.int .i64 0⟩:ObjK) ⟨(partG 0 0 u.main (partsG u.parts ⟨[],[]⟩).2),q.1,q.2⟩)) (fun _=>True) [H] (by simp) (fun w hw=>(spart_any sb (⟨u.nm,.slice r15.1 u.uses.length r15.2,u.data,.slice g.2.2.1 (partsG u.parts ⟨[],[]⟩).1.length g.2.2.2,.int .i64 0⟩:ObjK) (⟨(partsG u.parts ⟨[],[]⟩).2,g.2.1.1,g.2.1.2⟩:GsA) H ke k 0 0 u.main r.s3.1 r.s3.2 w hu.main hom (by show ((partsG u.parts ⟨[],[]⟩).2).code.length+8*(1+wAcs u.main)≤_; omega) (by show ((partsG u.parts ⟨[],[]⟩).2).fix.length+8*(1+wAcs u.main)≤_; omega) hw).mono fun e w' ⟨q,h1,h2⟩=>⟨q,h1,trivial,h2⟩) ?_
 intro q48 _
 refine V0 (yl_nil O) (V0 (Yf fo61_0 O) (V0 (Yf fo31_6 O) (Lst 0 Y O O O sz3 O O O (Ln (Et (Cs (Cs ?_)))))))
 refine Crb 0 (gob 61 (⟨u.nm,.slice r15.1 u.uses.length r15.2,u.data,.slice g.2.2.1 (partsG u.parts ⟨[],[]⟩).1.length g.2.2.2,.int .i64 ((partsG u.parts ⟨[],[]⟩).2.code.length:Int)⟩:ObjK) ⟨(partG 0 0 u.main (partsG u.parts ⟨[],[]⟩).2),q48.1,q48.2⟩) O O ?_
 refine Cr (V0 (Ym O) (V0 (yl_nil O) (V0 (Yf fo61_0 O) (V0 (Yf fo31_3 O) (V0 (Yd 0 O O O na27) ?_)))))
 refine V0 (Yn es27 O) (V0 (yl_gt O O) (Ln (Et ?_)))
 refine Cc O (fun hc2=>?_) (fun hc2=>?_)
 ·
  have hlen:2048<(unitG u).g.code.length:=by
    have h9:=hc2
    simp at h9
    show 2048<((partG 0 0 u.main (partsG u.parts ⟨[],[]⟩).2)).code.length
    omega
  refine Cs (Cr (V0 (Yb zr31 pl31 O O) (Lst 4 Y O O O sz31 O O O (V0 (Ya O) (Ln (Et (Crt (Er ?_))))))))
  refine WE.retc2 4 O O O O ag31 O fun w' hw=>?_
  rw [show genM u=(noObj,2) from by rw [genM,if_neg (by rw [hx]; decide),if_pos hlen]]
  exact ⟨noOAt,O,hw.fr,noObj_rd _⟩
 have hlen:¬2048<(unitG u).g.code.length:=by
   have h9:=hc2
   simp at h9
   show ¬2048<((partG 0 0 u.main (partsG u.parts ⟨[],[]⟩).2)).code.length
   omega
 refine Ck (Et (Cs (Cr (V0 (Ym O) (V0 (yl_nil O) (V0 (Yf fo61_0 O) (V0 (Yda 0 O O ag31 O) (Lst 4 Y O O O sz31 O O O ?_))))))))
 refine V0 (Ya O) (Ln (Et (Crt ?_)))
 refine WE.retc2 4 O O O O ag31 O fun w' hw=>?_
 rw [show genM u=(unitG u,0) from by rw [genM,if_neg (by rw [hx]; decide),if_neg hlen]]
 exact ⟨⟨r15,q48.1,q48.2,g.2.2⟩,O,hw.fr,h15.imp (fun _ _ _ h=>RdC.mono (nv_vs hw (by simp) hf15) h),hw.slT 1 O InsG.cells_len (fun _ _ _ _ h=>h),hw.slT 2 O FixE.cells_len (fun _ _ _ _ h=>h),hw.slT 3 O ntC_len (fun _ _ _ _ h=>h)⟩
end Go.Proofs.YtpjekjnehiinnaaGreatDoor
end
section
namespace Go.Proofs.YtpjekjnehiinnaaGreatDoor
open Go.Bw
def rdU2 (ke k:Nat) (H:View) (b o:Nat) (u:TUnit):Prop:=∃r:UAt,RdC H b o (unitV u r)∧RdU ke k H r u
structure PlOk (us:List TUnit) (nu:Nat) (al:Bool) (kn:List KnW):Prop where
 len:kn.length=nu+1
 far:al=true→∀mi,0<mi→mi≤nu→kn[mi]? = some noKn
 near:∀mi,mi≤nu→(al=true→mi=0)→∃u,us[mi]? = some u∧kn[mi]? = some (knM u)
end Go.Proofs.YtpjekjnehiinnaaGreatDoor
end
section
namespace Go.Proofs.YtpjekjnehiinnaaGreatDoor
open Go.Bw
abbrev XU:=TUnit×UAt
def XU.cells (e:XU):List Value:=unitV e.1 e.2
theorem XU.cells_len (e:XU):(XU.cells e).length=5:=rfl
theorem XU.one (e:XU):(XU.cells e).all (·.oneCell')=true:=rfl
def rdXU (H:View) (b o:Nat) (e:XU):Prop:=RdC H b o (XU.cells e)
theorem slU_of {ke k:Nat} {K N:View} {a:Option Addr} {c:Nat} {es:List XU} (h:Sl rdXU 5 K a c es) (hv:VLe K N) (he:∀e ∈ es,RdU ke k N e.2 e.1):Sl (rdU2 ke k) 5 N a c (es.map (·.1)):=by
 refine ⟨by rw [List.length_map]; exact h.cap,h.max,h.spot,fun i x hx=>?_⟩
 rw [List.getElem?_map] at hx
 obtain ⟨y,hy,rfl⟩:=Option.map_eq_some_iff.1 hx
 obtain ⟨b,o,ha,hr⟩:=h.elt i y hy
 exact ⟨b,o,ha,y.2,RdC.mono hv hr,he y (List.mem_of_getElem? hy)⟩
theorem el38:EltOk Tryz.prog 38 26 (.agg #[st [],.slice none 0 0,.int .i64 0,.slice none 0 0,.slice none 0 0]) 5 96:=eltOk_of (by kernel_rfl)
end Go.Proofs.YtpjekjnehiinnaaGreatDoor
end
section
namespace Go.Proofs.YtpjekjnehiinnaaGreatDoor
open Go.Bw
abbrev progU:List TUnit:=[(resolveM cntM []).1,(resolveM topM fsC).1]
theorem fl56:flatSt Tryz.prog 56=some [0,0,0]:=by kernel_rfl
theorem fl54:flatSt Tryz.prog 54=some [0,0,0]:=by kernel_rfl
theorem fo31_0:fieldOff Tryz.prog 31 0=some 0:=by kernel_rfl
theorem fo31_1:fieldOff Tryz.prog 31 1=some 1:=by kernel_rfl
theorem fo31_2:fieldOff Tryz.prog 31 2=some 2:=by kernel_rfl
theorem es28:elemSz Tryz.prog 28=some 3:=by kernel_rfl
theorem en21:Enters Tryz.prog 21:=enters_of Tryz.func21 (by kernel_rfl) rfl
theorem ag54:aggOf Tryz.prog 54=some 3:=by kernel_rfl
theorem en49:Enters Tryz.prog 49:=enters_of Tryz.func49 (by kernel_rfl) rfl
theorem en48:Enters Tryz.prog 48:=enters_of Tryz.func48 (by kernel_rfl) rfl
theorem en51:Enters Tryz.prog 51:=enters_of Tryz.func51 (by kernel_rfl) rfl
theorem en50:Enters Tryz.prog 50:=enters_of Tryz.func50 (by kernel_rfl) rfl
theorem en52:Enters Tryz.prog 52:=enters_of Tryz.func52 (by kernel_rfl) rfl
theorem el120:EltOk Tryz.prog 120 118 (.agg #[st [],.slice none 0 0]) 2 40:=eltOk_of (by kernel_rfl)
theorem sameInts_eqG (H1 H2:View) (a1 a2:Option Addr) (c1 c2:Nat) (l:List Nat) (w:World) (hH1:Le H1 w) (hH2:Le H2 w) (hm1:Sl rdNt 1 H1 a1 c1 l) (hm2:Sl rdNt 1 H2 a2 c2 l) :
   Calls Tryz.prog 21 #[.slice a1 l.length c1,.slice a2 l.length c2] w fun e w'=>e = .returned (.bool true)∧Ext w w':=by
 have hcap1:=hm1.cap
 have hmax1:=hm1.max
 have hcap2:=hm2.cap
 have hmax2:=hm2.max
 refine enter Tryz.func21 O 26 O O ?_
 refine CWd (W':=Ws w [] [] [H1,H2]) (fun _ e=>by subst e; exact Ws.init (by simp [hH1,hH2])) ?_
 refine Cs (Cr (V0 (Ya O) (Ln (Et (Cs (Cs (Cr (V0 (Ym O) (V0 (Yn es29 O) (V0 (Ym O) ?_))))))))))
 refine V0 (Yn es29 O) (V0 (yl_neY O O O) (Ln (Et ?_)))
 refine WC.condf O ?_
 refine Ck (Et (Cs (Cs (Cr (V0 (Ya O) (Ln (Et (Cb ?_))))))))
 refine CW (ι:=Nat) (fun i=>[(5,.int .i64 (i:Int))]) [(0,_),(1,_)] (fun i=>i≤l.length) (fun i=>l.length-i) 0 (Nat.zero_le _) (sc O (sc O (sc O sn))) ?_
 intro i hi
 refine Cs (Cs (Cr (V0 (Ym O) (V0 (Ym O) (V0 (Yn es29 O) (V0 (yl_lt O O) (Ln (Et ?_))))))))
 refine Cc O (fun hc1=>?_) (fun hc1=>?_)
 ·
  have hlt:i<l.length:=by simpa using hc1
  obtain ⟨x,hx⟩:∃x,l[i]? = some x:=⟨_,List.getElem?_eq_getElem hlt⟩
  obtain ⟨pb,po,ha1,hr1⟩:=hm1.elt i x hx
  obtain ⟨qb,qo,ha2,hr2⟩:=hm2.elt i x hx
  have hr1:RdC H1 pb (po+i*1) (ntC x):=hr1
  have hr2:RdC H2 qb (qo+i*1) (ntC x):=hr2
  refine Ck (Et (Cs (Cb (Cs ?_))))
  refine WC.draws0 [(0,true),(1,true),(2,true),(3,true),(4,true),(5,true),(6,true),(7,true),(8,true)] mixed (by kernel_rfl) (fun _ _ _ d _ h=>by cases d<;>exact h) ?_
  refine D0 O (fun _ h=>h) (Ym O) (D0 O (fun _ h=>h) (Ym O) ?_)
  refine D0 O (fun _ h=>h) (Yo es29 O O ha1 (by omega)) ?_
  refine D0 O (fun _ h=>h) (yl_ld 0 na3 O O (hr1 0 _ O)) (D0 O (fun _ h=>h) (Ym O) (D0 O (fun _ h=>h) (Ym O) ?_))
  refine D0 O (fun _ h=>h) (Yo es29 O O ha2 (by omega)) ?_
  refine D0 O (fun _ h=>h) (yl_ld 1 na3 O O (hr2 0 _ O)) (D0 O (fun _ h=>h) (yl_neY O O O) ?_)
  refine WD.nil (fun _ h=>h) ?_
  refine Et ?_
  refine WC.condf O ?_
  refine Ck (Eb (Et (Cr (V0 (Ym O) ?_))))
  refine V0 (Yi O O O (by omega)) ?_
  refine V0 (Ya O) (Ln ?_)
  exact Ea (i+1) (by omega) (by omega) (sc O (sc O (sc O sn))) (fun _ h=>h)
 refine Ce (Ex (Ex (Ebh (Et (Cs (Cr (V0 (Ya O) (Ln (Et (Crt ?_))))))))))
 refine R1 O O fun w' hw=>?_
 exact ⟨O,hw.fr⟩
theorem program_any (G:View) (w:World) (hG:Le G w) (hz:Laid G) :
   Calls Tryz.prog 29 #[] w fun e w'=>∃q:SP,e = .returned (.slice q.1 2 q.2)∧Ext w w'∧Sl (rdU2 8 7) 5 (nv w w') q.1 q.2 progU:=by
 refine enter Tryz.func29 O 27 O O ?_
 refine CWd (W':=Ws w [] [] [G]) (fun _ e=>by subst e; exact Ws.init (by simp [hG])) ?_
 refine Cs (Cr (V0 (Ya O) (Ln (Et (Cs (Cr ?_))))))
 refine Ld Y O en49 O (fun r:MAt=>.agg (modV cntM r).toArray) (fun H r=>RdM 7 6 H r cntM) (fun w hw=>counter_any w) ?_
 intro F8 r8 hf8 h8
 refine Ld Y O en48 O (fun r:UAt=>.tuple #[.agg (unitV (resolveM cntM []).1 r).toArray,.int .i64 (resolveM cntM []).2]) (fun F r=>RdU (7+1) (6+1) F r (resolveM cntM []).1) (fun w hw=>by
     skip
     exact resolve_any F8 F8 7 6 r8 cntM none 0 [] w (hw.vs _ (by simp)) (hw.vs _ (by simp)) h8 Sl.nil cnt_w) ?_
 intro F9 r9 hf9 h9
 refine V0 (Ym O) (V0 (Yx O O) (V0 (Yx O O) ?_))
 refine Al Y O zr26 fun b1=>?_
 refine Lst 0 Y O O O sz26 O O O (V0 (Ya O) (Ln (Et (Cs (Cr ?_)))))
 refine Lp Y O en51 O (fun w hw=>topText_any w) ?_
 refine Ld Y O en50 O (fun r:MAt=>.tuple #[.agg (modV (topM) r).toArray,.int .i64 ((parseM topS).2)]) (fun H r=>RdM 7 6 H r (topM)) (fun w hw=>by
     have:=treeParse_any G (topS) w (hw.vs _ (by simp)) hz
     exact this) ?_
 intro F14 r14 hf14 h14
 refine V0 (Ym O) (V0 (Yx O O) (V0 (Yx O O) ?_))
 refine Al Y O zr111 fun b3=>?_
 refine Lst 0 Y O O O sz111 O O O (V0 (Ya O) (Ln (Et (Cs ?_))))
 refine WC.drawt0 (.q 0 (.e 1 (.e 2 (.e 3 (.q 4 (.q 5 (.q 6 (.e 7 (.e 8 (.e 9 .nil .stop) .stop) .stop)))) (.e 7 (.e 3 (.q 4 (.q 5 (.q 6 (.e 8 (.e 9 .nil .stop) .stop)))) .stop) .stop)) (.e 7 (.e 2 (.e 3 (.q 4 (.q 5 (.q 6 (.e 8 (.e 9 .nil .stop) .stop)))) .stop) .stop) .stop)) (.e 7 (.e 1 (.e 2 (.e 3 (.q 4 (.q 5 (.q 6 (.e 8 (.e 9 .nil .stop) .stop)))) .stop) .stop) .stop) .stop))) mixed (by kernel_rfl) (fun _ _ _ d _ h=>by cases d<;>exact h) ?_
 refine WT.q O Y O (fun _ h=>h) (Yda 0 O O ag111 O) ?_
 refine WT.e O (fun _ h=>h) ?_ ?_
 ·
  refine Ld Y O en52 O (fun r:SP=>.agg #[st cntN,.slice r.1 cntI.length r.2]) (fun F r=>Sl rdItem 4 F r.1 r.2 cntI) (fun w hw=>counted_any w) ?_
  intro F19 r19 hf19 h19
  refine Ln (Ett ?_)
  refine WT.e O (fun _ h=>(Wv 1 h:)) ?_ ?_
  ·
   refine Lb Y O el120 O O O O fun b20=>?_
   refine Ln (Ett ?_)
   refine WT.e O (fun _ h=>(Wv 1 (Wd 1 h):)) ?_ ?_
   ·
    refine Ld Y O en48 O (fun r:UAt=>.tuple #[.agg (unitV (resolveM topM fsC).1 r).toArray,.int .i64 (resolveM topM fsC).2]) (fun F r=>RdU (7+1) (6+1) F r (resolveM topM fsC).1) (fun w hw=>by
        have hfc:Sl rdFace 2 (hv w) (some ⟨b20,0,none⟩) 1 fsC:=⟨by decide,by decide,by simp,fun j x hj=>⟨b20,0,rfl,by
          match j,hj with
          | 0,hj=>simp only [fsC,List.getElem?_cons_zero,Option.some.injEq] at hj; subst hj; exact ⟨r19,fun k v hk=>by
              match k,hk with
              | 0,hk=>simp [faceV] at hk; subst hk; exact hw.hvb 0 rfl rfl
              | 1,hk=>simp [faceV] at hk; subst hk; exact hw.hvb 0 rfl rfl,slItem_mv (hv_of (hw.vs F19 (by simp))) h19⟩⟩⟩
        exact resolve_any F14 (hv w) 7 6 r14 topM (some ⟨b20,0,none⟩) 1 fsC w (hw.vs _ (by simp)) (hv_le w) h14 hfc (by have:=parseM_w topS; show wM (parseM topS).1≤_; omega)) ?_
    intro F21 r21 hf21 h21
    refine Ln (Ett ?_)
    refine WT.q O Y O (fun _ h=>(Wv 2 (Wd 1 h):)) (Ym O) ?_
    refine WT.q O Y O (fun _ h=>(Wv 2 (Wd 1 h):)) (Yx O O) ?_
    refine WT.q O Y O (fun _ h=>(Wv 2 (Wd 1 h):)) (Yx O O) ?_
    refine WT.e O (fun _ h=>(Wv 2 (Wd 1 h):)) ?_ WT.stop
    refine Al Y O zr26 fun b5=>?_
    refine Ln (Ett ?_)
    refine WT.e O (fun _ h=>(Wv 2 (Wd 2 h):)) ?_ WT.stop
    refine Lst 0 Y O O O sz26 O O O (Ln (Ett ?_))
    refine WT.e O (fun _ h=>(Wv 2 (Wd 2 h):)) ?_ WT.stop
    refine V0 (Ya O) (Ln (Ett ?_))
    refine WT.nil (fun _ h=>(Wv 2 (Wd 2 h):)) ?_
    refine Et (Cs ?_)
    obtain ⟨cu,hcu⟩:∃c,c=(resolveM cntM []).1:=⟨_,rfl⟩
    obtain ⟨tu,htu⟩:∃c,c=(resolveM topM fsC).1:=⟨_,rfl⟩
    rw [←hcu,←htu]
    rw [←hcu] at h9
    rw [←htu] at h21
    refine Cr (V0 (Yda 3 O O ag26 O) (V0 (Yda 0 O O ag26 O) ?_))
    refine Lb Y O el38 O O O O fun b26=>?_
    refine Lrb 0 (.cells ((([(cu,r9),(tu,r21)]:List XU)).flatMap XU.cells).toArray 26 (0,0)) O O ?_
    refine LW (fun _ h=>h.osT_blk (f:=XU.cells) (xs:=([(cu,r9),(tu,r21)]:List XU)) (c:=2) 0 O XU.cells_len O (by decide)) ?_
    refine V0 (Ya O) (Ln (Et (Crt ?_)))
    refine R1 O O fun w' hw=>?_
    have h9u:=h9
    refine ⟨(some ⟨b26,0,none⟩,2),O,hw.fr,?_⟩
    show Sl _ _ _ _ _ [(resolveM cntM []).1,(resolveM topM fsC).1]
    rw [←hcu,←htu]
    have h9:=hw.slT (rd:=rdXU) 0 rfl XU.cells_len (fun _ _ _ _ h=>h)
    exact slU_of (es:=[(cu,r9),(tu,r21)]) h9 (fun _ _ h=>h) fun e he=>by
      simp only [List.mem_cons,List.not_mem_nil,or_false] at he
      rcases he with rfl | rfl
      · exact h9u.mv (nv_vs hw (by simp) hf9)
      · exact h21.mv (nv_vs hw (by simp) hf21)
   refine WT.e O (fun _ h=>(Wv 1 (Wd 1 h):)) ?_ WT.stop
   refine Al Y O zr26 fun b5=>?_
   refine Ln (Ett ?_)
   refine WT.e O (fun _ h=>(Wv 1 (Wd 2 h):)) ?_ WT.stop
   refine Ld Y O en48 O (fun r:UAt=>.tuple #[.agg (unitV (resolveM topM fsC).1 r).toArray,.int .i64 (resolveM topM fsC).2]) (fun F r=>RdU (7+1) (6+1) F r (resolveM topM fsC).1) (fun w hw=>by
       have hfc:Sl rdFace 2 (hv w) (some ⟨b20,0,none⟩) 1 fsC:=⟨by decide,by decide,by simp,fun j x hj=>⟨b20,0,rfl,by
         match j,hj with
         | 0,hj=>simp only [fsC,List.getElem?_cons_zero,Option.some.injEq] at hj; subst hj; exact ⟨r19,fun k v hk=>by
             match k,hk with
             | 0,hk=>simp [faceV] at hk; subst hk; exact hw.hvb 1 rfl rfl
             | 1,hk=>simp [faceV] at hk; subst hk; exact hw.hvb 1 rfl rfl,slItem_mv (hv_of (hw.vs F19 (by simp))) h19⟩⟩⟩
       exact resolve_any F14 (hv w) 7 6 r14 topM (some ⟨b20,0,none⟩) 1 fsC w (hw.vs _ (by simp)) (hv_le w) h14 hfc (by have:=parseM_w topS; show wM (parseM topS).1≤_; omega)) ?_
   intro F21 r21 hf21 h21
   refine Ln (Ett ?_)
   refine WT.q O Y O (fun _ h=>(Wv 2 (Wd 2 h):)) (Ym O) ?_
   refine WT.q O Y O (fun _ h=>(Wv 2 (Wd 2 h):)) (Yx O O) ?_
   refine WT.q O Y O (fun _ h=>(Wv 2 (Wd 2 h):)) (Yx O O) ?_
   refine WT.e O (fun _ h=>(Wv 2 (Wd 2 h):)) ?_ WT.stop
   refine Lst 0 Y O O O sz26 O O O (Ln (Ett ?_))
   refine WT.e O (fun _ h=>(Wv 2 (Wd 2 h):)) ?_ WT.stop
   refine V0 (Ya O) (Ln (Ett ?_))
   refine WT.nil (fun _ h=>(Wv 2 (Wd 2 h):)) ?_
   refine Et (Cs ?_)
   obtain ⟨cu,hcu⟩:∃c,c=(resolveM cntM []).1:=⟨_,rfl⟩
   obtain ⟨tu,htu⟩:∃c,c=(resolveM topM fsC).1:=⟨_,rfl⟩
   rw [←hcu,←htu]
   rw [←hcu] at h9
   rw [←htu] at h21
   refine Cr (V0 (Yda 3 O O ag26 O) (V0 (Yda 0 O O ag26 O) ?_))
   refine Lb Y O el38 O O O O fun b26=>?_
   refine Lrb 0 (.cells ((([(cu,r9),(tu,r21)]:List XU)).flatMap XU.cells).toArray 26 (0,0)) O O ?_
   refine LW (fun _ h=>h.osT_blk (f:=XU.cells) (xs:=([(cu,r9),(tu,r21)]:List XU)) (c:=2) 0 O XU.cells_len O (by decide)) ?_
   refine V0 (Ya O) (Ln (Et (Crt ?_)))
   refine R1 O O fun w' hw=>?_
   have h9u:=h9
   refine ⟨(some ⟨b26,0,none⟩,2),O,hw.fr,?_⟩
   show Sl _ _ _ _ _ [(resolveM cntM []).1,(resolveM topM fsC).1]
   rw [←hcu,←htu]
   have h9:=hw.slT (rd:=rdXU) 0 rfl XU.cells_len (fun _ _ _ _ h=>h)
   exact slU_of (es:=[(cu,r9),(tu,r21)]) h9 (fun _ _ h=>h) fun e he=>by
     simp only [List.mem_cons,List.not_mem_nil,or_false] at he
     rcases he with rfl | rfl
     · exact h9u.mv (nv_vs hw (by simp) hf9)
     · exact h21.mv (nv_vs hw (by simp) hf21)
  refine WT.e O (fun _ h=>(Wv 1 h:)) ?_ WT.stop
  refine Al Y O zr26 fun b5=>?_
  refine Ln (Ett ?_)
  refine WT.e O (fun _ h=>(Wv 1 (Wd 1 h):)) ?_ WT.stop
  refine Lb Y O el120 O O O O fun b20=>?_
  refine Ln (Ett ?_)
  refine WT.e O (fun _ h=>(Wv 1 (Wd 2 h):)) ?_ WT.stop
  refine Ld Y O en48 O (fun r:UAt=>.tuple #[.agg (unitV (resolveM topM fsC).1 r).toArray,.int .i64 (resolveM topM fsC).2]) (fun F r=>RdU (7+1) (6+1) F r (resolveM topM fsC).1) (fun w hw=>by
      have hfc:Sl rdFace 2 (hv w) (some ⟨b20,0,none⟩) 1 fsC:=⟨by decide,by decide,by simp,fun j x hj=>⟨b20,0,rfl,by
        match j,hj with
        | 0,hj=>simp only [fsC,List.getElem?_cons_zero,Option.some.injEq] at hj; subst hj; exact ⟨r19,fun k v hk=>by
            match k,hk with
            | 0,hk=>simp [faceV] at hk; subst hk; exact hw.hvb 0 rfl rfl
            | 1,hk=>simp [faceV] at hk; subst hk; exact hw.hvb 0 rfl rfl,slItem_mv (hv_of (hw.vs F19 (by simp))) h19⟩⟩⟩
      exact resolve_any F14 (hv w) 7 6 r14 topM (some ⟨b20,0,none⟩) 1 fsC w (hw.vs _ (by simp)) (hv_le w) h14 hfc (by have:=parseM_w topS; show wM (parseM topS).1≤_; omega)) ?_
  intro F21 r21 hf21 h21
  refine Ln (Ett ?_)
  refine WT.q O Y O (fun _ h=>(Wv 2 (Wd 2 h):)) (Ym O) ?_
  refine WT.q O Y O (fun _ h=>(Wv 2 (Wd 2 h):)) (Yx O O) ?_
  refine WT.q O Y O (fun _ h=>(Wv 2 (Wd 2 h):)) (Yx O O) ?_
  refine WT.e O (fun _ h=>(Wv 2 (Wd 2 h):)) ?_ WT.stop
  refine Lst 1 Y O O O sz26 O O O (Ln (Ett ?_))
  refine WT.e O (fun _ h=>(Wv 2 (Wd 2 h):)) ?_ WT.stop
  refine V0 (Ya O) (Ln (Ett ?_))
  refine WT.nil (fun _ h=>(Wv 2 (Wd 2 h):)) ?_
  refine Et (Cs ?_)
  obtain ⟨cu,hcu⟩:∃c,c=(resolveM cntM []).1:=⟨_,rfl⟩
  obtain ⟨tu,htu⟩:∃c,c=(resolveM topM fsC).1:=⟨_,rfl⟩
  rw [←hcu,←htu]
  rw [←hcu] at h9
  rw [←htu] at h21
  refine Cr (V0 (Yda 3 O O ag26 O) (V0 (Yda 1 O O ag26 O) ?_))
  refine Lb Y O el38 O O O O fun b26=>?_
  refine Lrb 0 (.cells ((([(cu,r9),(tu,r21)]:List XU)).flatMap XU.cells).toArray 26 (0,0)) O O ?_
  refine LW (fun _ h=>h.osT_blk (f:=XU.cells) (xs:=([(cu,r9),(tu,r21)]:List XU)) (c:=2) 0 O XU.cells_len O (by decide)) ?_
  refine V0 (Ya O) (Ln (Et (Crt ?_)))
  refine R1 O O fun w' hw=>?_
  have h9u:=h9
  refine ⟨(some ⟨b26,0,none⟩,2),O,hw.fr,?_⟩
  show Sl _ _ _ _ _ [(resolveM cntM []).1,(resolveM topM fsC).1]
  rw [←hcu,←htu]
  have h9:=hw.slT (rd:=rdXU) 0 rfl XU.cells_len (fun _ _ _ _ h=>h)
  exact slU_of (es:=[(cu,r9),(tu,r21)]) h9 (fun _ _ h=>h) fun e he=>by
    simp only [List.mem_cons,List.not_mem_nil,or_false] at he
    rcases he with rfl | rfl
    · exact h9u.mv (nv_vs hw (by simp) hf9)
    · exact h21.mv (nv_vs hw (by simp) hf21)
 refine WT.e O (fun _ h=>h) ?_ WT.stop
 refine Al Y O zr26 fun b5=>?_
 refine Ln (Ett ?_)
 refine WT.e O (fun _ h=>(Wd 1 h:)) ?_ WT.stop
 refine Ld Y O en52 O (fun r:SP=>.agg #[st cntN,.slice r.1 cntI.length r.2]) (fun F r=>Sl rdItem 4 F r.1 r.2 cntI) (fun w hw=>counted_any w) ?_
 intro F19 r19 hf19 h19
 refine Ln (Ett ?_)
 refine WT.e O (fun _ h=>(Wv 1 (Wd 1 h):)) ?_ WT.stop
 refine Lb Y O el120 O O O O fun b20=>?_
 refine Ln (Ett ?_)
 refine WT.e O (fun _ h=>(Wv 1 (Wd 2 h):)) ?_ WT.stop
 refine Ld Y O en48 O (fun r:UAt=>.tuple #[.agg (unitV (resolveM topM fsC).1 r).toArray,.int .i64 (resolveM topM fsC).2]) (fun F r=>RdU (7+1) (6+1) F r (resolveM topM fsC).1) (fun w hw=>by
     have hfc:Sl rdFace 2 (hv w) (some ⟨b20,0,none⟩) 1 fsC:=⟨by decide,by decide,by simp,fun j x hj=>⟨b20,0,rfl,by
       match j,hj with
       | 0,hj=>simp only [fsC,List.getElem?_cons_zero,Option.some.injEq] at hj; subst hj; exact ⟨r19,fun k v hk=>by
           match k,hk with
           | 0,hk=>simp [faceV] at hk; subst hk; exact hw.hvb 0 rfl rfl
           | 1,hk=>simp [faceV] at hk; subst hk; exact hw.hvb 0 rfl rfl,slItem_mv (hv_of (hw.vs F19 (by simp))) h19⟩⟩⟩
     exact resolve_any F14 (hv w) 7 6 r14 topM (some ⟨b20,0,none⟩) 1 fsC w (hw.vs _ (by simp)) (hv_le w) h14 hfc (by have:=parseM_w topS; show wM (parseM topS).1≤_; omega)) ?_
 intro F21 r21 hf21 h21
 refine Ln (Ett ?_)
 refine WT.q O Y O (fun _ h=>(Wv 2 (Wd 2 h):)) (Ym O) ?_
 refine WT.q O Y O (fun _ h=>(Wv 2 (Wd 2 h):)) (Yx O O) ?_
 refine WT.q O Y O (fun _ h=>(Wv 2 (Wd 2 h):)) (Yx O O) ?_
 refine WT.e O (fun _ h=>(Wv 2 (Wd 2 h):)) ?_ WT.stop
 refine Lst 1 Y O O O sz26 O O O (Ln (Ett ?_))
 refine WT.e O (fun _ h=>(Wv 2 (Wd 2 h):)) ?_ WT.stop
 refine V0 (Ya O) (Ln (Ett ?_))
 refine WT.nil (fun _ h=>(Wv 2 (Wd 2 h):)) ?_
 refine Et (Cs ?_)
 obtain ⟨cu,hcu⟩:∃c,c=(resolveM cntM []).1:=⟨_,rfl⟩
 obtain ⟨tu,htu⟩:∃c,c=(resolveM topM fsC).1:=⟨_,rfl⟩
 rw [←hcu,←htu]
 rw [←hcu] at h9
 rw [←htu] at h21
 refine Cr (V0 (Yda 3 O O ag26 O) (V0 (Yda 1 O O ag26 O) ?_))
 refine Lb Y O el38 O O O O fun b26=>?_
 refine Lrb 0 (.cells ((([(cu,r9),(tu,r21)]:List XU)).flatMap XU.cells).toArray 26 (0,0)) O O ?_
 refine LW (fun _ h=>h.osT_blk (f:=XU.cells) (xs:=([(cu,r9),(tu,r21)]:List XU)) (c:=2) 0 O XU.cells_len O (by decide)) ?_
 refine V0 (Ya O) (Ln (Et (Crt ?_)))
 refine R1 O O fun w' hw=>?_
 have h9u:=h9
 refine ⟨(some ⟨b26,0,none⟩,2),O,hw.fr,?_⟩
 show Sl _ _ _ _ _ [(resolveM cntM []).1,(resolveM topM fsC).1]
 rw [←hcu,←htu]
 have h9:=hw.slT (rd:=rdXU) 0 rfl XU.cells_len (fun _ _ _ _ h=>h)
 exact slU_of (es:=[(cu,r9),(tu,r21)]) h9 (fun _ _ h=>h) fun e he=>by
   simp only [List.mem_cons,List.not_mem_nil,or_false] at he
   rcases he with rfl | rfl
   · exact h9u.mv (nv_vs hw (by simp) hf9)
   · exact h21.mv (nv_vs hw (by simp) hf21)
end Go.Proofs.YtpjekjnehiinnaaGreatDoor
end
section
namespace Go.Proofs.YtpjekjnehiinnaaGreatDoor
open Go.Bw
theorem gen_split {o:GObj} {e:Int} (he:e=0) (h1:o.g.code.length=22) (h2:o.ents=[0]) (h3:o.main=19) (h4:o.g.fix.length=5):∃nm us da code fix,(o,e)=((⟨nm,us,da,⟨code,fix⟩,[0],19⟩:GObj),0)∧code.length=22∧fix.length=5∧o.g=⟨code,fix⟩:=by
 obtain ⟨nm,us,da,⟨code,fix⟩,ents,main⟩:=o
 subst he h2 h3
 exact ⟨nm,us,da,code,fix,O,h1,h4,O⟩
def tI3 (x:InsG):Int×Int×Int:=(x.op,x.a,x.b)
def tF3 (x:FixE):Int×Int×Int:=(x.at_,x.kind,x.m)
theorem tI3_ex {o:Option InsG} {a:Int×Int×Int} (h:o.map tI3=some a):o=some ⟨a.1,a.2.1,a.2.2⟩:=by
 cases o with
 | none=>cases h
 | some x=>simp only [Option.map_some,Option.some.injEq] at h; subst h; rfl
theorem tF3_ex {o:Option FixE} {a:Int×Int×Int} (h:o.map tF3=some a):o=some ⟨a.1,a.2.1,a.2.2⟩:=by
 cases o with
 | none=>cases h
 | some x=>simp only [Option.map_some,Option.some.injEq] at h; subst h; rfl
theorem cnt_g4:((genM (resolveM cntM []).1).1.g.code[4]?).map tI3=some (12,15,0):=by decide +kernel
theorem cnt_g5:((genM (resolveM cntM []).1).1.g.code[5]?).map (·.op)=some 16:=by decide +kernel
theorem cnt_f0:((genM (resolveM cntM []).1).1.g.fix[0]?).map tF3=some (4,1,0):=by decide +kernel
theorem cnt_f1:((genM (resolveM cntM []).1).1.g.fix[1]?).map tF3=some (6,3,0):=by decide +kernel
theorem cnt_wu:wUn (resolveM cntM []).1≤1048576:=by decide +kernel
theorem no_gen:genM noUnit=(noObj,1):=by rw [genM,if_pos (by decide)]
theorem cnt_gen:∃nm us da code fix,genM (resolveM cntM []).1=((⟨nm,us,da,⟨code,fix⟩,[0],19⟩:GObj),0)∧code.length=22∧fix.length=5∧code[4]? = some ⟨12,15,0⟩∧(∃y,code[5]? = some y∧y.op=16)∧fix[0]? = some ⟨4,1,0⟩∧fix[1]? = some ⟨6,3,0⟩:=by
 obtain ⟨nm,us,da,code,fix,h,h1,h2,h3⟩:=gen_split (o:=(genM (resolveM cntM []).1).1) (e:=(genM (resolveM cntM []).1).2) (by decide +kernel) (by decide +kernel) (by decide +kernel) (by decide +kernel) (by decide +kernel)
 have g4:=tI3_ex cnt_g4
 have g5:=cnt_g5
 have f0:=tF3_ex cnt_f0
 have f1:=tF3_ex cnt_f1
 rw [h3] at g4 g5 f0 f1
 refine ⟨nm,us,da,code,fix,h,h1,h2,g4,?_,f0,f1⟩
 cases hx:code[5]? with
 | none=>rw [hx] at g5; cases g5
 | some y=>rw [hx] at g5; exact ⟨y,rfl,by simpa using g5⟩
theorem en29:Enters Tryz.prog 29:=enters_of Tryz.func29 (by kernel_rfl) rfl
theorem en9:Enters Tryz.prog 9:=enters_of Tryz.func9 (by kernel_rfl) rfl
theorem fo56_0:fieldOff Tryz.prog 56 0=some 0:=by kernel_rfl
theorem en11:Enters Tryz.prog 11:=enters_of Tryz.func11 (by kernel_rfl) rfl
theorem genBegun_any (G:View) (w:World) (hG:Le G w) (hz:Laid G) :
   Calls Tryz.prog 11 #[] w fun e w'=>e = .returned (.bool true)∧Ext w w':=by
 refine enter Tryz.func11 O 78 O O ?_
 refine CWd (W':=Ws w [] [] [G]) (fun _ e=>by subst e; exact Ws.init (by simp [hG])) ?_
 refine Cs (Cr (V0 (Ya O) (Ln (Et (Cs ?_)))))
 obtain ⟨nm,us,da,code,fix,hgen,hcl,hfl,hc4,⟨y5,hc5,hy5⟩,hx0,hx1⟩:=cnt_gen
 refine Cr ?_
 refine Ld Y O en29 O (fun q:SP=>.slice q.1 2 q.2) (fun F q=>Sl (rdU2 8 7) 5 F q.1 q.2 progU) (fun w hw=>program_any G w (hw.vs _ (by simp)) hz) ?_
 intro F6 r6 hf6 h6
 obtain ⟨pbu,pou,hau,ur,hrow,hru⟩:=h6.elt 0 _ rfl
 have hucap:=h6.cap
 have humax:=h6.max
 refine V0 (Yo (i:=0) es38 O O hau (by decide)) ?_
 refine V0 (yl_lda 0 ag26 O O O (hrow)) ?_
 refine Ld Y O en9 O (fun r:OAt=>.tuple #[.agg (objV ((⟨nm,us,da,⟨code,fix⟩,[0],19⟩:GObj)) r).toArray,.int .i64 (0)]) (fun F r=>RdOb F r (⟨nm,us,da,⟨code,fix⟩,[0],19⟩:GObj)) (fun w hw=>by
     have:=gen_any F6 8 7 (resolveM cntM []).1 ur w (hw.vs _ (by simp)) hru cnt_wu
     rw [hgen] at this
     exact this) ?_
 intro F9 r9 hf9 h9
 refine V0 (Ym O) (V0 (Yx O O) (V0 (Yx O O) ?_))
 refine Al Y O zr31 fun b1=>?_
 refine Lst 0 Y O O O sz31 O O O (V0 (Ya O) (Ln (Et (Cs (Cr (V0 (Yb zr26 pl26 O O) ?_))))))
 refine Ld Y O en9 O (fun r:OAt=>.tuple #[.agg (objV (noObj) r).toArray,.int .i64 (1)]) (fun F r=>RdOb F r noObj) (fun w hw=>by
     have:=gen_any G 8 7 noUnit noUAt w (hw.vs _ (by simp)) (noUnit_rd _) (by decide)
     rw [no_gen] at this
     exact this) ?_
 intro F14 r14 hf14 h14
 refine V0 (Ym O) (V0 (Yx O O) (V0 (Yx O O) ?_))
 refine Al Y O zr31 fun b3=>?_
 refine Lst 0 Y O O O sz31 O O O (V0 (Ya O) (Ln (Et (Cs ?_))))
 obtain ⟨pb4,po4,ha4,hr4⟩:=h9.code.elt 4 _ hc4
 obtain ⟨pb5,po5,ha5,hr5⟩:=h9.code.elt 5 _ hc5
 obtain ⟨pbx,pox,hax,hrx⟩:=h9.fix.elt 0 _ hx0
 obtain ⟨pbz,poz,haz,hrz⟩:=h9.fix.elt 1 _ hx1
 have ccap:=h9.code.cap
 have cmax:=h9.code.max
 have fcap:=h9.fix.cap
 have fmax:=h9.fix.max
 simp only at ccap fcap
 have hr5:RdC F9 pb5 (po5+5*3) y5.cells:=hr5
 refine Cr (V0 (Ym O) (V0 (yl_eqiY O O O) (V0 (Ym O) ?_)))
 apply La 2 (x:=true) O O O O Y O O O O O
 ·
  intro hg0
  refine Vg (Ym O) (Vg (yl_eqiY O O O) ?_)
  exact Gt 2 O O O
 refine V0 (Ym O) ?_
 apply La 4 (x:=true) O O O O Y O O O O O
 ·
  intro hg1
  refine Vg (Yf fo31_3 O) (Vg (Yd 1 O O O na27) (Vg (Yn es27 O) ?_))
  refine Vg (yl_eqiY O O (by rw [hcl]; rfl)) ?_
  exact Gt 4 O O O
 refine V0 (Ym O) ?_
 apply La 4 (x:=true) O O O O Y O O O O O
 ·
  intro hg2
  refine Vg (Yf fo31_5 O) (Vg (Yd 1 O O O na29) ?_)
  refine Lb (.g O O O) O el29 O O O O fun b32=>?_
  refine Lrb 0 (.cells ((([0]:List Nat)).flatMap ntC).toArray 3 (0,0)) O O ?_
  refine LW (fun _ h=>h.osT_blk (f:=ntC) (xs:=([0]:List Nat)) (c:=1) 0 O ntC_len O (by decide)) ?_
  refine WL.oslview (rd:=rdNt) 0 O ntC_len (fun _ _ _ _ h=>h) fun H32 hH32=>?_
  refine Lp (.g O O O) O en21 O (fun w hw=>sameInts_eqG F9 H32 r9.s4.1 (some ⟨b32,0,none⟩) r9.s4.2 1 [0] w (hw.vs _ (by simp)) (hw.vs _ (by simp)) h9.ents hH32) ?_
  refine WL.wk ?_ (Gt 4 O O O)
  exact fun _ h=>Ws.drops (h) (fun _ hm=>List.mem_append_right [_] hm)
 refine V0 (Ym O) ?_
 apply La 3 (x:=true) O O O O Y O O O O O
 ·
  intro hg3
  refine Vg (Yf fo31_6 O) (Vg (Yd 1 O O O na3) (Vg (yl_eqiY O O O) ?_))
  exact Gt 3 O O O
 refine V0 (Ym O) ?_
 apply La 4 (x:=true) O O O O Y O O O O O
 ·
  intro hg4
  refine Vg (Yf fo31_4 O) (Vg (Yd 1 O O O na28) (Vg (Yn es28 O) ?_))
  refine Vg (yl_eqiY O O (by rw [hfl]; rfl)) ?_
  exact Gt 4 O O O
 refine V0 (Ym O) ?_
 apply La 6 (x:=true) O O O O Y O O O O O
 ·
  intro hg5
  refine Vg (Yf fo31_3 O) (Vg (Yd 1 O O O na27) ?_)
  refine Vg (Yo (i:=4) es27 O O ha4 (by show 4<code.length; omega)) ?_
  refine Vg (yl_lda 1 ag56 O O O (hr4)) (Vg (Yb zr56 pl56 O O) (Vg (yl_eqst (r:=true) fl56 O O O) ?_))
  exact Gt 6 O O O
 refine V0 (Ym O) ?_
 apply La 6 (x:=true) O O O O Y O O O O O
 ·
  intro hg6
  refine Vg (Yf fo31_3 O) (Vg (Yd 1 O O O na27) ?_)
  refine Vg (Yo (i:=5) es27 O O ha5 (by show 5<code.length; omega)) ?_
  refine Vg (Yf fo56_0 O) (Vg (yl_ld 1 na3 O O (hr5 0 _ O)) (Vg (yl_eqiY O O hy5) ?_))
  exact Gt 6 O O O
 refine V0 (Ym O) ?_
 apply La 6 (x:=true) O O O O Y O O O O O
 ·
  intro hg7
  refine Vg (Yf fo31_4 O) (Vg (Yd 1 O O O na28) ?_)
  refine Vg (Yo (i:=0) es28 O O hax (by show 0<fix.length; omega)) ?_
  refine Vg (yl_lda 1 ag54 O O O (hrx)) (Vg (Yb zr54 pl54 O O) (Vg (yl_eqst (r:=true) fl54 O O O) ?_))
  exact Gt 6 O O O
 refine V0 (Ym O) ?_
 apply La 6 (x:=true) O O O O Y O O O O O
 ·
  intro hg8
  refine Vg (Yf fo31_4 O) (Vg (Yd 1 O O O na28) ?_)
  refine Vg (Yo (i:=1) es28 O O haz (by show 1<fix.length; omega)) ?_
  refine Vg (yl_lda 1 ag54 O O O (hrz)) (Vg (Yb zr54 pl54 O O) (Vg (yl_eqst (r:=true) fl54 O O O) ?_))
  exact Gt 6 O O O
 refine V0 (Ya O) (Ln (Et (Crt ?_)))
 refine R1 O O fun w' hw=>?_
 exact ⟨O,hw.fr⟩
end Go.Proofs.YtpjekjnehiinnaaGreatDoor
end
section
namespace Go.Bw
open Go
def Rz.all {σ α:Type} (r:Rz σ α) (p:α→σ→Prop) (q:Wm→Prop):Prop:=match r with
 | .ok a s=>p a s
 | .ov _ w=>q w
theorem Rz.all_bind {σ α β:Type} {r:Rz σ α} {f:α→σ→Rz σ β} {p:β→σ→Prop} {q:Wm→Prop} (h:r.all (fun a s=>(f a s).all p q) q):(r.bind f).all p q:=by
 cases r with
 | ok a s=>exact h
 | ov e w=>exact h
theorem Rz.all_mono {σ α:Type} {r:Rz σ α} {p p':α→σ→Prop} {q q':Wm→Prop} (h:r.all p q) (hp:∀a s,p a s→p' a s) (hq:∀w,q w→q' w):r.all p' q':=by
 cases r with
 | ok a s=>exact hp _ _ h
 | ov e w=>exact hq _ h
theorem Rz.all_fr {α:Type} {r:Rz Wm α} {f:Fm} {p:α→Fm→Prop} {q:Wm→Prop} (h:r.all (fun a w=>p a { f with w:=w }) q):(Rz.fr f r).all p q:=by
 cases r with
 | ok a s=>exact h
 | ov e w=>exact h
structure Kw (P:Env) (w w':Wm):Prop where
 ticks:w.ticks≤w'.ticks
 lim:w.ticks≤P.lim→w'.ticks≤P.lim
 len:w'.data.length=w.data.length
 out:w.out.length≤200→w'.out.length≤200
 pre:w.out <+: w'.out
structure Kp (P:Env) (w w':Wm):Prop extends Kw P w w' where
 calls:w'.calls=w.calls
section
variable {P:Env} {a b c:Wm}
theorem Kw.refl (P:Env) (a:Wm):Kw P a a:=⟨Nat.le_refl _,id,rfl,id,List.prefix_rfl⟩
theorem Kw.trans (h:Kw P a b) (k:Kw P b c):Kw P a c:=⟨Nat.le_trans h.ticks k.ticks,fun x=>k.lim (h.lim x),k.len.trans h.len,fun x=>k.out (h.out x),h.pre.trans k.pre⟩
theorem Kp.refl (P:Env) (a:Wm):Kp P a a:=⟨Kw.refl P a,rfl⟩
theorem Kp.trans (h:Kp P a b) (k:Kp P b c):Kp P a c:=⟨h.toKw.trans k.toKw,k.calls.trans h.calls⟩
abbrev RK {α:Type} (P:Env) (w:Wm) (r:Rz Wm α):Prop:=r.all (fun _ w'=>Kp P w w') (Kw P w)
theorem RK.ok {α:Type} (v:α) (w:Wm):RK P w (.ok v w):=Kp.refl P w
theorem RK.ov {α:Type} (e:Int) (w:Wm):RK (α:=α) P w (.ov e w):=Kw.refl P w
theorem RK.bind {α β:Type} {w:Wm} {r:Rz Wm α} {f:α→Wm→Rz Wm β} (h:RK P w r) (k:∀v w',RK P w' (f v w')):RK P w (r.bind f):=
 Rz.all_bind (Rz.all_mono h (fun v w' hw=>Rz.all_mono (k v w') (fun _ _ h2=>hw.trans h2) fun _ h2=>hw.toKw.trans h2) fun _ h=>h)
abbrev EK (P:Env) (k:Ev):Prop:=∀loc w,RK P w (k loc w)
abbrev CK (P:Env) (call:Cl):Prop:=∀u loc body w,RK P w (call u loc body w)
abbrev FK {α:Type} (P:Env) (f:Fm) (r:Rz Fm α):Prop:=r.all (fun _ f'=>Kp P f.w f'.w∧f'.loc.length=f.loc.length) (Kw P f.w)
theorem FK.ok {α:Type} (v:α) (f:Fm):FK P f (.ok v f):=⟨Kp.refl P f.w,rfl⟩
theorem FK.bind {α β:Type} {f:Fm} {r:Rz Fm α} {g:α→Fm→Rz Fm β} (h:FK P f r) (k:∀v f',FK P f' (g v f')):FK P f (r.bind g):=
 Rz.all_bind (Rz.all_mono h (fun v f' hw=>Rz.all_mono (k v f') (fun _ _ h2=>⟨hw.1.trans h2.1,h2.2.trans hw.2⟩) fun _ h2=>hw.1.toKw.trans h2) fun _ h=>h)
theorem FK.fr {α:Type} {f:Fm} {r:Rz Wm α} (h:RK P f.w r):FK P f (Rz.fr f r):=Rz.all_fr (Rz.all_mono h (fun _ _ h=>⟨h,rfl⟩) fun _ h=>h)
end
end Go.Bw
end
section
namespace Go.Bw
open Go
theorem node1_facts {kn:List KnW} {locs op n m pl:Int} {len:Nat} (h:node1 kn locs op n m pl len=true):(op=3→dataB kn m pl 1=true)∧(op=4→(1≤n∧n≤32)∧dataB kn m pl n=true)∧(op=5→partB kn m pl len=true)∧(op=16→0≤pl∧pl<locs):=by
 refine ⟨fun e=>?_,fun e=>?_,fun e=>?_,fun e=>?_⟩
 · subst e; rw [node1,if_neg (by decide),if_pos rfl] at h; exact (Bool.and_eq_true_iff.1 h).2
 · subst e; rw [node1,if_neg (by decide),if_neg (by decide),if_pos rfl] at h
   obtain ⟨h1,h2⟩:=Bool.and_eq_true_iff.1 h
   exact ⟨by simpa [arrayB] using (Bool.and_eq_true_iff.1 h1).1,h2⟩
 · subst e; rw [node1,if_neg (by decide),if_neg (by decide),if_neg (by decide),if_pos rfl] at h; exact (Bool.and_eq_true_iff.1 h).2
 · subst e; rw [node1,if_neg (by decide),if_neg (by decide),if_neg (by decide),if_neg (by decide),if_pos rfl] at h
   simpa [localB] using (Bool.and_eq_true_iff.1 h).2
theorem dataB_nn {kn:List KnW} {m pl n:Int} (h:dataB kn m pl n=true):0≤m:=by
 cases hc:dataC kn m pl with
 | true=>rw [dataB_no n hc] at h; cases h
 | false=>obtain ⟨⟨mi,e,_⟩,_⟩:=dataC_in hc; omega
theorem act1_facts {kn:List KnW} {locs op n m pl:Int} {na nb no:Nat} (h:act1 kn locs op n m pl na nb no=true):(op=1→(m<0→0≤pl∧pl<locs)∧(¬m<0→dataB kn m pl 1=true))∧(op=2→(1≤n∧n≤32)∧dataB kn m pl n=true)∧(op=3→partB kn m pl na=true):=by
 refine ⟨fun e=>?_,fun e=>?_,fun e=>?_⟩
 · subst e; rw [act1,if_pos rfl] at h
   have h2:=(Bool.and_eq_true_iff.1 h).2
   rcases Bool.or_eq_true_iff.1 h2 with h3 | h3
   · obtain ⟨h4,h5⟩:=Bool.and_eq_true_iff.1 h3
     have h4:m = -1:=by simpa using h4
     exact ⟨fun _=>by simpa [localB] using h5,fun hn=>absurd (by omega) hn⟩
   · have:=dataB_nn h3
     exact ⟨fun hn=>absurd this (by omega),fun _=>h3⟩
 · subst e; rw [act1,if_neg (by decide),if_pos rfl] at h
   obtain ⟨h1,h2⟩:=Bool.and_eq_true_iff.1 h
   exact ⟨by simpa [arrayB] using (Bool.and_eq_true_iff.1 h1).2,h2⟩
 · subst e; rw [act1,if_neg (by decide),if_neg (by decide),if_pos rfl] at h; exact (Bool.and_eq_true_iff.1 h).2
theorem bind_ok {σ α β:Type} {r:Rz σ α} {f:α→σ→Rz σ β} {a:α} {s:σ} (h:r = .ok a s):r.bind f=f a s:=by rw [h]; rfl
theorem bind_ov {σ α β:Type} {r:Rz σ α} {f:α→σ→Rz σ β} {e:Int} {w:Wm} (h:r = .ov e w):r.bind f = .ov e w:=by rw [h]; rfl
theorem fr_ov {α:Type} {r:Rz Wm α} {f:Fm} {e:Int} {w:Wm} (h:r = .ov e w):Rz.fr f r = .ov e w:=by rw [h]; rfl
theorem nodeK_parts {kn:List KnW} {locs:Int} {x:TNode} {d:Nat} (h:nodeK kn locs x d=true):node1 kn locs x.op x.n x.m x.pl x.args.length=true∧nodesK kn locs x.args (d+1)=true:=by
 rw [nodeK_eq] at h
 exact Bool.and_eq_true_iff.1 (Bool.and_eq_true_iff.1 h).2
theorem actsK_A {kn:List KnW} {locs:Int} {l:List TAct} {d:Nat} (h:actsK kn locs l d=true):actsA kn locs l d=true:=by
 unfold actsK at h; exact (Bool.and_eq_true_iff.1 (Bool.and_eq_true_iff.1 h).2).2
theorem actK_parts {kn:List KnW} {locs:Int} {x:TAct} {d:Nat} (h:actK kn locs x d=true):act1 kn locs x.op x.n x.m x.pl x.args.length x.body.length x.other.length=true∧nodesK kn locs x.args 1=true∧(x.op=4∨x.op=5→actsA kn locs x.body (d+1)=true)∧actsA kn locs x.other (d+1)=true:=by
 rw [actK_eq] at h
 obtain ⟨h1,h2⟩:=Bool.and_eq_true_iff.1 h
 obtain ⟨h2,h3⟩:=Bool.and_eq_true_iff.1 h2
 obtain ⟨h3,h4⟩:=Bool.and_eq_true_iff.1 h3
 refine ⟨h1,h2,fun e=>?_,?_⟩
 · rw [show ifWh x.op=true from by unfold ifWh; rcases e with e | e<;>rw [e]<;>decide] at h3
   exact actsK_A (by simpa using h3)
 · cases ho:x.other with
   | nil=>rw [actsA]
   | cons y r=>rw [ho] at h4; exact actsK_A (by simpa using h4)
end Go.Bw
end
section
namespace Go.Bw
open Go
abbrev XI:=List Nat×(Option Addr×Nat)
def XI.cells (e:XI):List Value:=[.slice e.2.1 e.1.length e.2.2]
theorem XI.cells_len (e:XI):(XI.cells e).length=1:=rfl
end Go.Bw
end
section
namespace Go.Bw
open Go
def Sm {σ α:Type} (E:σ→σ→Prop) (G:Wm→Wm→Prop) (X:Prop) (o:σ→List Int) (r1 r2:Rz σ α):Prop:=match r1 with
 | .ok a s1=>∃s2,r2 = .ok a s2∧E s1 s2
 | .ov e w1=>(∃w2,r2 = .ov e w2∧G w1 w2)∨(X∧e=3∧r2.all (fun _ s=>w1.out <+: o s) (fun w=>w1.out <+: w.out))
def readR (w:Wm):Rz Wm Int:=match w.inp with | []=>.ok 0 w | x::r=>.ok x { w with inp:=r }
structure Sim (P1 P2:Env) (E G:Wm→Wm→Prop) (X:Prop):Prop where
 l:P1.l=P2.l
 uses:P1.uses=P2.uses
 bases:P1.bases=P2.bases
 eg:∀{a b},E a b→G a b
 data:∀{a b},E a b→a.data=b.data
 out:∀{a b},E a b→a.out=b.out
 calls:∀{a b},E a b→a.calls=b.calls
 tk:∀{a b},E a b→a.ticks=b.ticks∧a.ticks≤P1.lim∧P1.lim≤P2.lim
 tick:∀{a b},E a b→Sm E G X (·.out) (tickW P1 a) (tickW P2 b)
 read:∀{a b},E a b→Sm E G X (·.out) (readR a) (readR b)
 setd:∀{a b} d,E a b→E { a with data:=d } { b with data:=d }
 seto:∀{a b} d,E a b→E { a with out:=d } { b with out:=d }
 setc:∀{a b} d,E a b→E { a with calls:=d } { b with calls:=d }
section
variable {P1 P2:Env} {E G:Wm→Wm→Prop} {X:Prop}
abbrev SW {α:Type} (E G:Wm→Wm→Prop) (X:Prop) (r1 r2:Rz Wm α):Prop:=Sm E G X (·.out) r1 r2
structure EF (E:Wm→Wm→Prop) (f g:Fm):Prop where
 loc:f.loc=g.loc
 val:f.val=g.val
 w:E f.w g.w
abbrev SF {α:Type} (E G:Wm→Wm→Prop) (X:Prop) (r1 r2:Rz Fm α):Prop:=Sm (EF E) G X (·.w.out) r1 r2
theorem SW.bind (P2:Env) {α β:Type} {r1 r2:Rz Wm α} {f1 f2:α→Wm→Rz Wm β} (h:SW E G X r1 r2) (k:∀a s1 s2,E s1 s2→SW E G X (f1 a s1) (f2 a s2)) (m:∀a s,RK P2 s (f2 a s)):SW E G X (r1.bind f1) (r2.bind f2):=by
 cases r1 with
 | ok a s1=>obtain ⟨s2,rfl,he⟩:=h; exact k a s1 s2 he
 | ov e w1=>
   rcases h with ⟨w2,rfl,hg⟩ | ⟨hx,h3,ha⟩
   · exact .inl ⟨w2,O,hg⟩
   · refine .inr ⟨hx,h3,Rz.all_bind (Rz.all_mono ha (fun a s hs=>?_) fun _ h=>h)⟩
     exact Rz.all_mono (m a s) (fun _ _ h=>hs.trans h.pre) fun _ h=>hs.trans h.pre
theorem SF.bind (P2:Env) {α β:Type} {r1 r2:Rz Fm α} {f1 f2:α→Fm→Rz Fm β} (h:SF E G X r1 r2) (k:∀a s1 s2,r2 = .ok a s2→EF E s1 s2→SF E G X (f1 a s1) (f2 a s2)) (m:∀a s,FK P2 s (f2 a s)):SF E G X (r1.bind f1) (r2.bind f2):=by
 cases r1 with
 | ok a s1=>obtain ⟨s2,rfl,he⟩:=h; exact k a s1 s2 rfl he
 | ov e w1=>
   rcases h with ⟨w2,rfl,hg⟩ | ⟨hx,h3,ha⟩
   · exact .inl ⟨w2,O,hg⟩
   · refine .inr ⟨hx,h3,Rz.all_bind (Rz.all_mono ha (fun a s hs=>?_) fun _ h=>h)⟩
     exact Rz.all_mono (m a s) (fun _ _ h=>hs.trans h.1.pre) fun _ h=>hs.trans h.pre
theorem SF.fr {α:Type} {r1 r2:Rz Wm α} {f g:Fm} (h:SW E G X r1 r2) (he:EF E f g):SF E G X (Rz.fr f r1) (Rz.fr g r2):=by
 cases r1 with
 | ok a s1=>obtain ⟨s2,rfl,h2⟩:=h; exact ⟨_,rfl,he.loc,he.val,h2⟩
 | ov e w1=>
   rcases h with ⟨w2,rfl,hg⟩ | ⟨hx,h3,ha⟩
   · exact .inl ⟨w2,O,hg⟩
   · exact .inr ⟨hx,h3,Rz.all_fr (Rz.all_mono ha (fun _ _ h=>h) fun _ h=>h)⟩
theorem SW.ok {α:Type} (a:α) {s1 s2:Wm} (h:E s1 s2):SW E G X (.ok a s1) (.ok a s2):=⟨s2,rfl,h⟩
theorem SF.ok {α:Type} (a:α) {s1 s2:Fm} (h:EF E s1 s2):SF E G X (.ok a s1) (.ok a s2):=⟨s2,rfl,h⟩
theorem SW.ov {α:Type} (S:Sim P1 P2 E G X) (e:Int) {s1 s2:Wm} (h:E s1 s2):SW (α:=α) E G X (.ov e s1) (.ov e s2):=.inl ⟨s2,rfl,S.eg h⟩
structure EE (P2:Env) (E G:Wm→Wm→Prop) (X:Prop) (k1 k2:Ev):Prop where
 go:∀loc {a b},E a b→SW E G X (k1 loc a) (k2 loc b)
 kp:EK P2 k2
structure CC (P2:Env) (E G:Wm→Wm→Prop) (X:Prop) (c1 c2:Cl):Prop where
 go:∀u loc body {a b},E a b→SW E G X (c1 u loc body a) (c2 u loc body b)
 kp:CK P2 c2
inductive KE (P2:Env) (E G:Wm→Wm→Prop) (X:Prop):List Ev→List Ev→Prop where
 | nil:KE P2 E G X [] []
 | cons {x y:Ev} {r q:List Ev} (h:EE P2 E G X x y) (t:KE P2 E G X r q):KE P2 E G X (x::r) (y::q)
theorem KE.kp:∀{k1 k2:List Ev},KE P2 E G X k1 k2→∀k ∈ k2,EK P2 k
 | _,_,.nil,k,h=>by simp at h
 | _,_,.cons h1 h2,k,h=>by
   rcases List.mem_cons.1 h with rfl | h
   · exact h1.kp
   · exact KE.kp h2 k h
structure AA (P2:Env) (E G:Wm→Wm→Prop) (X:Prop) (b1 b2:Fm→Rz Fm Bool):Prop where
 go:∀{f g},EF E f g→SF E G X (b1 f) (b2 g)
 kp:∀f,FK P2 f (b2 f)
end
end Go.Bw
end
section
namespace Go.Bw
open Go
structure LeftE (lim:Nat) (a b:Wm):Prop where
 data:a.data=b.data
 out:a.out=b.out
 ticks:a.ticks=b.ticks
 calls:a.calls=b.calls
 tl:a.ticks≤lim
 inp:b.inp=a.inp++[0]∨(a.inp=[]∧b.inp=[])
end Go.Bw
end
section
namespace Go.Bw
open Go
structure MdSt where
 w:Wm
 fin:Int
 i:Option Addr×Nat
 o:Option Addr×Nat
def Stk {α:Type} (r:Rz Wm α) (v:α) (t:MdSt):Prop:=(t.fin=0∧r = .ok v t.w)∨(t.fin≠0∧∃c,r = .ov t.fin { t.w with calls:=c })
def Stq {α:Type} (s:MdSt) (r:Rz Wm α) (v:α) (t:MdSt):Prop:=(s.fin≠0∧t=s)∨(s.fin=0∧Stk r v t)
theorem Stk.ok {α:Type} {r:Rz Wm α} {v:α} {t:MdSt} (h0:t.fin=0) (h:r = .ok v t.w):Stk r v t:=.inl ⟨h0,h⟩
theorem Stk.ov {α:Type} {r:Rz Wm α} {v:α} {t:MdSt} {c:Nat} (h0:t.fin≠0) (h:r = .ov t.fin { t.w with calls:=c }):Stk r v t:=.inr ⟨h0,c,h⟩
theorem Stk.get {α:Type} {r:Rz Wm α} {v:α} {t:MdSt} (h:Stk r v t) (h0:t.fin=0):r = .ok v t.w:=by
 rcases h with ⟨_,h⟩ | ⟨h,_⟩
 · exact h
 · exact absurd h0 h
theorem Stk.out {α β:Type} {r:Rz Wm α} {v:α} {t:MdSt} (h:Stk r v t) (h0:t.fin≠0) (f:α→Wm→Rz Wm β) (b:β):Stk (r.bind f) b t:=by
 rcases h with ⟨h,_⟩ | ⟨_,c,h⟩
 · exact absurd h h0
 · exact .inr ⟨h0,c,bind_ov h⟩
theorem Stk.same {α:Type} {r:Rz Wm α} {v b:α} {t:MdSt} (h:Stk r v t) (h0:t.fin≠0):Stk r b t:=by
 rcases h with ⟨h,_⟩ | ⟨_,h⟩
 · exact absurd h h0
 · exact .inr ⟨h0,h⟩
theorem Stk.then {α β:Type} {r:Rz Wm α} {v:α} {t t2:MdSt} {f:α→Wm→Rz Wm β} {b:β} (h:Stk r v t) (k:Stq t (f v t.w) b t2):Stk (r.bind f) b t2:=by
 rcases k with ⟨h0,rfl⟩ | ⟨h0,h2⟩
 · exact h.out h0 f b
 · rw [bind_ok (h.get h0)]; exact h2
theorem Stk.map {α β:Type} {r:Rz Wm α} {v:α} {t:MdSt} (f:α→β) (h:Stk r v t):Stk (r.bind fun v w=>.ok (f v) w) (f v) t:=by
 rcases h with ⟨h0,h⟩ | ⟨h0,c,h⟩
 · exact .inl ⟨h0,bind_ok h⟩
 · exact .inr ⟨h0,c,bind_ov h⟩
def Stf (r:Rz Fm Bool) (d:Bool) (loc:List Int) (v:Int) (t:MdSt):Prop:=(t.fin=0∧r = .ok d ⟨loc,v,t.w⟩)∨(t.fin≠0∧∃c,r = .ov t.fin { t.w with calls:=c })
theorem Stk.fr {α:Type} {r:Rz Wm α} {x:α} {t:MdSt} {loc:List Int} {v:Int} {w:Wm} {f:α→Fm→Rz Fm Bool} {d:Bool} {loc2:List Int} {v2:Int} (h:Stk r x t) (h0:t.fin≠0):Stf ((Rz.fr ⟨loc,v,w⟩ r).bind f) d loc2 v2 t:=by
 rcases h with ⟨h,_⟩ | ⟨_,c,h⟩
 · exact absurd h h0
 · exact .inr ⟨h0,c,bind_ov (fr_ov h)⟩
end Go.Bw
end
section
namespace Go.Bw
open Go
structure KnLe (ks ks':List KnW):Prop where
 d:∀m pl n,dataB ks m pl n=true→dataB ks' m pl n=true
 p:∀m pl n,partB ks m pl n=true→partB ks' m pl n=true
theorem node1_le {ks ks':List KnW} (h:KnLe ks ks') {locs op n m pl:Int} {len:Nat} (hk:node1 ks locs op n m pl len=true):node1 ks' locs op n m pl len=true:=by
 unfold node1 at hk ⊢
 by_cases q0:op=1
 · rw [if_pos q0] at hk ⊢; exact hk
 rw [if_neg q0] at hk ⊢
 by_cases q1:op=3
 · rw [if_pos q1] at hk ⊢; obtain ⟨a,b⟩:=Bool.and_eq_true_iff.1 hk; exact Bool.and_eq_true_iff.2 ⟨a,h.d _ _ _ b⟩
 rw [if_neg q1] at hk ⊢
 by_cases q2:op=4
 · rw [if_pos q2] at hk ⊢; obtain ⟨a,b⟩:=Bool.and_eq_true_iff.1 hk; exact Bool.and_eq_true_iff.2 ⟨a,h.d _ _ _ b⟩
 rw [if_neg q2] at hk ⊢
 by_cases q3:op=5
 · rw [if_pos q3] at hk ⊢; obtain ⟨a,b⟩:=Bool.and_eq_true_iff.1 hk; exact Bool.and_eq_true_iff.2 ⟨a,h.p _ _ _ b⟩
 rw [if_neg q3] at hk ⊢
 exact hk
theorem act1_le {ks ks':List KnW} (h:KnLe ks ks') {locs op n m pl:Int} {na nb no:Nat} (hk:act1 ks locs op n m pl na nb no=true):act1 ks' locs op n m pl na nb no=true:=by
 unfold act1 at hk ⊢
 by_cases q0:op=1
 · rw [if_pos q0] at hk ⊢; obtain ⟨a,b⟩:=Bool.and_eq_true_iff.1 hk; exact Bool.and_eq_true_iff.2 ⟨a,Bool.or_eq_true_iff.2 ((Bool.or_eq_true_iff.1 b).imp id (h.d _ _ _))⟩
 rw [if_neg q0] at hk ⊢
 by_cases q1:op=2
 · rw [if_pos q1] at hk ⊢; obtain ⟨a,b⟩:=Bool.and_eq_true_iff.1 hk; exact Bool.and_eq_true_iff.2 ⟨a,h.d _ _ _ b⟩
 rw [if_neg q1] at hk ⊢
 by_cases q2:op=3
 · rw [if_pos q2] at hk ⊢; obtain ⟨a,b⟩:=Bool.and_eq_true_iff.1 hk; exact Bool.and_eq_true_iff.2 ⟨a,h.p _ _ _ b⟩
 rw [if_neg q2] at hk ⊢
 exact hk
mutual
theorem nodeK_le {ks ks':List KnW} (h:KnLe ks ks') (locs:Int):∀(x:TNode) (d:Nat),nodeK ks locs x d=true→nodeK ks' locs x d=true
 | .mk op n m pl args,d,hk=>by
   rw [nodeK] at hk ⊢
   simp only [Bool.and_eq_true] at hk ⊢
   exact ⟨hk.1,node1_le h hk.2.1,nodesK_le h locs args (d+1) hk.2.2⟩
theorem nodesK_le {ks ks':List KnW} (h:KnLe ks ks') (locs:Int):∀(l:List TNode) (d:Nat),nodesK ks locs l d=true→nodesK ks' locs l d=true
 | [],d,_=>by rw [nodesK]
 | x::r,d,hk=>by
   rw [nodesK] at hk ⊢
   simp only [Bool.and_eq_true] at hk ⊢
   exact ⟨nodeK_le h locs x d hk.1,nodesK_le h locs r d hk.2⟩
end
mutual
theorem actK_le {ks ks':List KnW} (h:KnLe ks ks') (locs:Int):∀(x:TAct) (d:Nat),actK ks locs x d=true→actK ks' locs x d=true
 | .mk op n m pl args body other,d,hk=>by
   rw [actK] at hk ⊢
   simp only [Bool.and_eq_true,Bool.or_eq_true] at hk ⊢
   exact ⟨act1_le h hk.1,nodesK_le h locs args 1 hk.2.1,hk.2.2.1.imp id fun a=>⟨a.1,a.2.1,actsA_le h locs body (d+1) a.2.2⟩,hk.2.2.2.imp id fun a=>⟨a.1,a.2.1,actsA_le h locs other (d+1) a.2.2⟩⟩
theorem actsA_le {ks ks':List KnW} (h:KnLe ks ks') (locs:Int):∀(l:List TAct) (d:Nat),actsA ks locs l d=true→actsA ks' locs l d=true
 | [],d,_=>by rw [actsA]
 | x::r,d,hk=>by
   rw [actsA] at hk ⊢
   simp only [Bool.and_eq_true] at hk ⊢
   exact ⟨actK_le h locs x d hk.1,actsA_le h locs r d hk.2⟩
end
theorem actsK_le {ks ks':List KnW} (h:KnLe ks ks') {locs:Int} {l:List TAct} {d:Nat} (hk:actsK ks locs l d=true):actsK ks' locs l d=true:=by
 unfold actsK at hk ⊢
 simp only [Bool.and_eq_true] at hk ⊢
 exact ⟨hk.1,hk.2.1,actsA_le h locs l d hk.2.2⟩
theorem partOk_le {ks ks':List KnW} (h:KnLe ks ks') {p:TPart} (hk:partOk ks p=true):partOk ks' p=true:=by
 unfold partOk at hk ⊢
 simp only [Bool.and_eq_true] at hk ⊢
 exact ⟨hk.1,actsK_le h hk.2⟩
theorem fineU_le {u:TUnit} {kn kn':List KnW} (h:KnLe (knM u::kn) (knM u::kn')) (hk:fineU u kn=true):fineU u kn'=true:=by
 unfold fineU at hk ⊢
 simp only [Bool.and_eq_true,List.all_eq_true] at hk ⊢
 exact ⟨hk.1,hk.2.1,fun p hp=>partOk_le h (hk.2.2.1 p hp),actsK_le h hk.2.2.2⟩
def KnS (k:KnW):Prop:=k.is_=true→k.data≤512∧k.parts.length≤6∧∀x ∈ k.parts,x≤3
theorem kn_le {k0:KnW} {kn:List KnW} (h:∀k ∈ kn,KnS k):KnLe (k0::kn) (k0::List.replicate kn.length noKn):=by
 have hl:(k0::List.replicate kn.length noKn).length=(k0::kn).length:=by simp
 constructor
 · intro m pl n hd
   have hC:dataC (k0::kn) m pl=false:=by
     cases hc:dataC (k0::kn) m pl with
     | false=>rfl
     | true=>rw [dataB_no n hc] at hd; cases hd
   have hC2:dataC (k0::List.replicate kn.length noKn) m pl=false:=by unfold dataC at hC ⊢; rw [hl]; exact hC
   obtain ⟨⟨mi,rfl,hmi⟩,_,_⟩:=dataC_in hC
   obtain ⟨k,hk⟩:∃k,(k0::kn)[mi]? = some k:=⟨_,List.getElem?_eq_getElem hmi⟩
   rw [dataB_at hC hk] at hd
   cases mi with
   | zero=>
     have e:k0=k:=by simpa using hk
     subst e
     rw [dataB_at hC2 (k:=k0) rfl]; exact hd
   | succ j=>
     rw [List.getElem?_cons_succ] at hk
     have hj:j<kn.length:=(List.getElem?_eq_some_iff.1 hk).1
     rw [dataB_at hC2 (k:=noKn) (by rw [List.getElem?_cons_succ,List.getElem?_replicate,if_pos hj]),if_neg (by decide)]
     have hs:=h k (List.mem_of_getElem? hk)
     split at hd
     · rename_i hi
       have:=(hs hi).1
       have hd:=of_decide_eq_true hd
       rw [decide_eq_true (show pl+n≤512 by omega)]; simp
     · exact hd
 · intro m pl n hd
   have hC:partC (k0::kn) m pl=false:=by
     cases hc:partC (k0::kn) m pl with
     | false=>rfl
     | true=>rw [partB_no n hc] at hd; cases hd
   have hC2:partC (k0::List.replicate kn.length noKn) m pl=false:=by unfold partC at hC ⊢; rw [hl]; exact hC
   obtain ⟨⟨mi,rfl,hmi⟩,p,rfl⟩:=partC_in hC
   obtain ⟨k,hk⟩:∃k,(k0::kn)[mi]? = some k:=⟨_,List.getElem?_eq_getElem hmi⟩
   rw [partB_at hC hk] at hd
   cases mi with
   | zero=>
     have e:k0=k:=by simpa using hk
     subst e
     rw [partB_at hC2 (k:=k0) rfl]; exact hd
   | succ j=>
     rw [List.getElem?_cons_succ] at hk
     have hj:j<kn.length:=(List.getElem?_eq_some_iff.1 hk).1
     rw [partB_at hC2 (k:=noKn) (by rw [List.getElem?_cons_succ,List.getElem?_replicate,if_pos hj]),if_neg (by decide)]
     have hs:=h k (List.mem_of_getElem? hk)
     split at hd
     · rename_i hi
       obtain ⟨_,h6,h3⟩:=hs hi
       simp only [Bool.and_eq_true,decide_eq_true_eq,beq_iff_eq,Int.toNat_natCast] at hd
       have hp:p<k.parts.length:=by omega
       have h3:=h3 _ (List.getElem_mem hp)
       rw [List.getElem?_eq_getElem hp] at hd
       have e:=hd.2
       simp at e
       simp only [Bool.and_eq_true,decide_eq_true_eq]
       omega
     · exact hd
theorem knM_s {u:TUnit} {kn:List KnW} (h:fineU u kn=true):KnS (knM u):=by
 intro _
 obtain ⟨h1,h2,h3,h4⟩:=fine_parts h
 unfold headC at h3
 simp only [Bool.or_eq_false_iff,decide_eq_false_iff_not] at h3
 refine ⟨by show u.data≤512; omega,by show (u.parts.map (·.params)).length≤6; rw [List.length_map]; omega,fun x hx=>?_⟩
 obtain ⟨p,hp,rfl⟩:=List.mem_map.1 hx
 exact (part_fine (h1 p hp)).2.1
theorem usesKn_s {l:List TUnit} (ho:ProgOk l) (u:TUnit):∀k ∈ usesKn l u,KnS k:=by
 intro k hk
 unfold usesKn at hk
 obtain ⟨s,_,rfl⟩:=List.mem_map.1 hk
 split
 · rename_i i hi
   cases hl:l[i]? with
   | none=>intro h; cases h
   | some z=>exact knM_s (ho.fine z (List.mem_of_getElem? hl))
 · intro h; cases h
theorem alone_of {l:List TUnit} (h:checkUs l=0) {u:TUnit} (hu:u ∈ l):aloneB u=true:=by
 have ho:=checkUs_zero.1 h
 have h1:=ho.fine u hu
 have e:(usesKn l u).length=u.uses.length:=by simp [usesKn]
 unfold aloneB
 rw [←e]
 exact fineU_le (kn_le (usesKn_s ho u)) h1
end Go.Bw
end
section
namespace Go.Bw
open Go
def OpOk (i:InsG):Prop:=1≤i.op∧i.op≤22
def Jok (U:Nat) (pd:List Nat) (lo:Nat) (c:List InsG) (f:FixE):Prop:=
 ∃(p:Nat) (i:InsG),f.at_=(p:Int)∧c[p]? = some i∧lo≤p∧
   ((f.kind=1∧f.m=0∧(p ∈ pd∨((lo:Int)≤i.a∧i.a≤(c.length:Int))))∨((f.kind=2∨f.kind=3)∧p ∉ pd∧0≤f.m∧f.m≤(U:Int)∧0≤i.a∧i.a≤2048))
structure Ap (U:Nat) (pd:List Nat) (g g':Gs):Prop where
 pin:∀p ∈ pd,g.code.length≤p∧p<g'.code.length
 more:∃c fx,g'.code=g.code++c∧g'.fix=g.fix++fx∧(∀i ∈ c,OpOk i)∧(∀f ∈ fx,Jok U pd g.code.length g'.code f)∧fx.Pairwise fun a b=>a.at_<b.at_
theorem Ap.refl (U:Nat) (g:Gs):Ap U [] g g:=⟨by simp,[],[],by simp,by simp,by simp,by simp,.nil⟩
theorem Ap.lo {U:Nat} {pd:List Nat} {g g':Gs} (h:Ap U pd g g'):g.code.length≤g'.code.length:=by
 obtain ⟨c,fx,h1,_⟩:=h.more
 rw [h1]; simp
theorem Ap.trans {U:Nat} {pa pb:List Nat} {g g' g'':Gs} (h:Ap U pa g g') (k:Ap U pb g' g''):Ap U (pa++pb) g g'':=by
 have hlo:=h.lo
 have klo:=k.lo
 have hpin:=h.pin
 have kpin:=k.pin
 obtain ⟨c,fx,h1,h2,h3,h4,h5⟩:=h.more
 obtain ⟨c',fx',k1,k2,k3,k4,k5⟩:=k.more
 refine ⟨fun p hp=>?_,c++c',fx++fx',by rw [k1,h1,List.append_assoc],by rw [k2,h2,List.append_assoc],?_,?_,?_⟩
 · rcases List.mem_append.1 hp with hp | hp
   · have:=hpin p hp; omega
   · have:=kpin p hp; omega
 · intro i hi
   rcases List.mem_append.1 hi with hi | hi
   · exact h3 i hi
   · exact k3 i hi
 · intro f hf
   rcases List.mem_append.1 hf with hf | hf
   · obtain ⟨p,i,a1,a2,a3,a4⟩:=h4 f hf
     have hp:p<g'.code.length:=(List.getElem?_eq_some_iff.1 a2).1
     refine ⟨p,i,a1,by rw [k1,List.getElem?_append_left hp]; exact a2,a3,?_⟩
     rcases a4 with ⟨b1,b2,b3⟩ | ⟨b1,b2,b3⟩
     · exact .inl ⟨b1,b2,b3.imp (fun x=>List.mem_append_left _ x) fun x=>⟨x.1,by omega⟩⟩
     · refine .inr ⟨b1,fun hm=>?_,b3⟩
       rcases List.mem_append.1 hm with hm | hm
       · exact b2 hm
       · have:=(kpin p hm).1; omega
   · obtain ⟨p,i,a1,a2,a3,a4⟩:=k4 f hf
     refine ⟨p,i,a1,a2,by omega,?_⟩
     rcases a4 with ⟨b1,b2,b3⟩ | ⟨b1,b2,b3⟩
     · exact .inl ⟨b1,b2,b3.imp (fun x=>List.mem_append_right _ x) fun x=>⟨by omega,x.2⟩⟩
     · refine .inr ⟨b1,fun hm=>?_,b3⟩
       rcases List.mem_append.1 hm with hm | hm
       · have:=(hpin p hm).2; omega
       · exact b2 hm
 · refine List.pairwise_append.2 ⟨h5,k5,fun a ha b hb=>?_⟩
   obtain ⟨p,i,a1,a2,a3,_⟩:=h4 a ha
   obtain ⟨q,j,b1,b2,b3,_⟩:=k4 b hb
   have hp:p<g'.code.length:=(List.getElem?_eq_some_iff.1 a2).1
   rw [a1,b1]; omega
theorem put_ap (U:Nat) (l:List InsG) (g:Gs) (hl:∀i ∈ l,OpOk i):Ap U [] g (putG l g):=⟨by simp,l,[],rfl,by simp [putG],hl,by simp,.nil⟩
theorem put1_ap (U:Nat) (i:InsG) (g:Gs) (hl:OpOk i):Ap U [] g (putG [i] g):=put_ap U [i] g (by simpa using hl)
theorem fixG_len (i:InsG) (k m:Int) (g:Gs):(fixG i k m g).code.length=g.code.length+1:=by simp [fixG]
theorem jump_ap (U:Nat) (i:InsG) (g:Gs) (hi:OpOk i):Ap U [g.code.length] g (fixG i 1 0 g):=by
 refine ⟨fun p hp=>?_,[i],[⟨(g.code.length:Int),1,0⟩],O,O,by simpa using hi,fun f hf=>?_,List.pairwise_singleton _ _⟩
 · have:=List.mem_singleton.1 hp; subst this; rw [fixG_len]; omega
 · have:=List.mem_singleton.1 hf; subst this
   exact ⟨g.code.length,i,O,by simp [fixG],Nat.le_refl _,.inl ⟨O,O,.inl (by simp)⟩⟩
theorem back_ap (U:Nat) {i:InsG} {g0 g:Gs} {pd:List Nat} (h:Ap U pd g0 g) (hi:OpOk i) (ha:i.a=(g0.code.length:Int)):Ap U pd g0 (fixG i 1 0 g):=by
 have hlo:=h.lo
 have hpin:=h.pin
 obtain ⟨c,fx,h1,h2,h3,h4,h5⟩:=h.more
 refine ⟨fun p hp=>?_,c++[i],fx++[⟨(g.code.length:Int),1,0⟩],by show g.code++[i]=_; rw [h1,List.append_assoc],by show g.fix++_=_; rw [h2,List.append_assoc],?_,fun f hf=>?_,?_⟩
 · rw [fixG_len]; have:=hpin p hp; omega
 · intro j hj
   rcases List.mem_append.1 hj with hj | hj
   · exact h3 j hj
   · have:=List.mem_singleton.1 hj; subst this; exact hi
 · rcases List.mem_append.1 hf with hf | hf
   · obtain ⟨p,j,a1,a2,a3,a4⟩:=h4 f hf
     have hp:p<g.code.length:=(List.getElem?_eq_some_iff.1 a2).1
     refine ⟨p,j,a1,by show (g.code++[i])[p]? = _; rw [List.getElem?_append_left hp]; exact a2,a3,?_⟩
     rcases a4 with ⟨b1,b2,b3⟩ | ⟨b1,b2,b3⟩
     · exact .inl ⟨b1,b2,b3.imp id fun x=>⟨x.1,by rw [fixG_len]; omega⟩⟩
     · exact .inr ⟨b1,b2,b3⟩
   · have:=List.mem_singleton.1 hf; subst this
     exact ⟨g.code.length,i,O,by simp [fixG],hlo,.inl ⟨O,O,.inr ⟨by omega,by rw [fixG_len]; omega⟩⟩⟩
 · refine List.pairwise_append.2 ⟨h5,List.pairwise_singleton _ _,fun a ha' b hb=>?_⟩
   obtain ⟨p,j,a1,a2,a3,_⟩:=h4 a ha'
   have hp:p<g.code.length:=(List.getElem?_eq_some_iff.1 a2).1
   have:=List.mem_singleton.1 hb; subst this
   rw [a1]; show (p:Int)<(g.code.length:Int); omega
theorem fix_ap {U:Nat} {i:InsG} {k m:Int} (g:Gs) (hi:OpOk i) (hk:k=2∨k=3) (hm:0≤m∧m≤(U:Int)) (ha:0≤i.a∧i.a≤2048):Ap U [] g (fixG i k m g):=by
 refine ⟨by simp,[i],[⟨(g.code.length:Int),k,m⟩],O,O,by simpa using hi,fun f hf=>?_,List.pairwise_singleton _ _⟩
 have:=List.mem_singleton.1 hf; subst this
 exact ⟨g.code.length,i,O,by simp [fixG],Nat.le_refl _,.inr ⟨hk,by simp,hm.1,hm.2,ha.1,ha.2⟩⟩
theorem landG_len (n:Nat) (g:Gs):(landG n g).code.length=g.code.length:=by simp [landG]
theorem land_ap {U:Nat} {pa pb:List Nat} {n:Nat} {g g':Gs} (h:Ap U (pa++n::pb) g g'):Ap U (pa++pb) g (landG n g'):=by
 have hlo:=h.lo
 have hpin:=h.pin
 obtain ⟨c,fx,h1,h2,h3,h4,h5⟩:=h.more
 obtain ⟨hn1,hn2⟩:=hpin n (by simp)
 have hg (p:Nat):(landG n g').code[p]? = if n=p then (g'.code[p]?).map (fun i=>{ i with a:=(g'.code.length:Int) }) else g'.code[p]?:=by
   show (g'.code.modify n _)[p]? = _
   rw [List.getElem?_modify]
   by_cases e:n=p
   · subst e; simp
   · rw [if_neg e]; simp [e]
 have hl:(landG n g').code.length=g'.code.length:=landG_len n g'
 have hgl:g'.code.length=g.code.length+c.length:=by rw [h1]; simp
 refine ⟨fun p hp=>?_,(landG n g').code.drop g.code.length,fx,?_,h2,?_,fun f hf=>?_,h5⟩
 · have:p ∈ pa++n::pb:=by
     rcases List.mem_append.1 hp with hp | hp
     · exact List.mem_append_left _ hp
     · exact List.mem_append_right _ (List.mem_cons_of_mem _ hp)
   rw [hl]; exact hpin p this
 · have ht:(landG n g').code.take g.code.length=g.code:=by
     refine List.ext_getElem? fun p=>?_
     rw [List.getElem?_take]
     split
     · rename_i hp
       rw [hg p,if_neg (by omega),h1,List.getElem?_append_left hp]
     · rename_i hp
       rw [List.getElem?_eq_none (by omega)]
   rw [←List.take_append_drop g.code.length (landG n g').code,ht]
   rw [List.drop_append_of_le_length (Nat.le_refl _),List.drop_length,List.nil_append]
 · intro i hi
   obtain ⟨j,hj⟩:=List.getElem?_of_mem hi
   rw [List.getElem?_drop,hg] at hj
   have hin:∀x,g'.code[g.code.length+j]? = some x→OpOk x:=fun x hx=>by
     rw [h1,List.getElem?_append_right (by omega)] at hx
     exact h3 x (List.mem_of_getElem? hx)
   split at hj
   · cases hx:g'.code[g.code.length+j]? with
     | none=>rw [hx] at hj; cases hj
     | some x=>rw [hx] at hj; simp at hj; subst hj; exact hin x hx
   · exact hin i hj
 · obtain ⟨p,i,a1,a2,a3,a4⟩:=h4 f hf
   by_cases e:n=p
   · subst e
     refine ⟨n,{ i with a:=(g'.code.length:Int) },a1,by rw [hg,if_pos O,a2]; rfl,a3,?_⟩
     rcases a4 with ⟨b1,b2,_⟩ | ⟨_,b2,_⟩
     · exact .inl ⟨b1,b2,.inr ⟨by show (g.code.length:Int)≤(g'.code.length:Int); omega,by rw [hl]; exact Int.le_refl _⟩⟩
     · exact absurd (by simp) b2
   · refine ⟨p,i,a1,by rw [hg,if_neg e]; exact a2,a3,?_⟩
     rw [hl]
     rcases a4 with ⟨b1,b2,b3⟩ | ⟨b1,b2,b3⟩
     · refine .inl ⟨b1,b2,b3.imp (fun x=>?_) id⟩
       rcases List.mem_append.1 x with x | x
       · exact List.mem_append_left _ x
       · rcases List.mem_cons.1 x with x | x
         · exact absurd x.symm e
         · exact List.mem_append_right _ x
     · refine .inr ⟨b1,fun x=>b2 ?_,b3⟩
       rcases List.mem_append.1 x with x | x
       · exact List.mem_append_left _ x
       · exact List.mem_append_right _ (List.mem_cons_of_mem _ x)
end Go.Bw
end
section
namespace Go.Bw
open Go
theorem opk {k a b:Int} (h1:1≤k) (h2:k≤22):OpOk ⟨k,a,b⟩:=⟨h1,h2⟩
structure KsOk (U:Nat) (ks:List KnW):Prop where
 len:ks.length=U+1
 small:∀k ∈ ks,k.is_=true→k.parts.length≤2048
theorem data_in {U:Nat} {ks:List KnW} (hk:KsOk U ks) {m pl n:Int} (h:dataB ks m pl n=true):(0≤m∧m≤(U:Int))∧0≤pl∧pl≤2048:=by
 cases hc:dataC ks m pl with
 | true=>rw [dataB_no n hc] at h; cases h
 | false=>
   obtain ⟨⟨mi,rfl,h1⟩,h2,h3⟩:=dataC_in hc
   have:=hk.len
   exact ⟨⟨by omega,by omega⟩,h2,by omega⟩
theorem part_in {U:Nat} {ks:List KnW} (hk:KsOk U ks) {m pl n:Int} (h:partB ks m pl n=true):(0≤m∧m≤(U:Int))∧0≤pl∧pl≤2048:=by
 cases hc:partC ks m pl with
 | true=>rw [partB_no n hc] at h; cases h
 | false=>
   obtain ⟨⟨mi,rfl,h1⟩,p,rfl⟩:=partC_in hc
   have hl:=hk.len
   obtain ⟨k,hm⟩:∃k,ks[mi]? = some k:=⟨_,List.getElem?_eq_getElem h1⟩
   rw [partB_at hc hm] at h
   refine ⟨⟨by omega,by omega⟩,by omega,?_⟩
   split at h
   · rename_i hi
     have:=hk.small k (List.mem_of_getElem? hm) hi
     simp only [Bool.and_eq_true,decide_eq_true_eq] at h
     omega
   · simp only [Bool.and_eq_true,decide_eq_true_eq] at h
     omega
theorem all_ap {U:Nat}:∀{ks:List Gk} (h:∀(i:Nat) k,ks[i]? = some k→∀g,Ap U [] g (k g)) (g:Gs),Ap U [] g (allG ks g)
 | [],h,g=>.refl U g
 | k::r,h,g=>(h 0 k rfl g).trans (all_ap (ks:=r) (fun i k' hk=>h (i+1) k' (by simpa using hk)) (k g))
theorem kid_ap {U:Nat} {ks:List Gk} (h:∀(i:Nat) k,ks[i]? = some k→∀g,Ap U [] g (k g)) (i:Nat) (g:Gs):Ap U [] g (kidG ks i g):=by
 unfold kidG
 cases hi:ks[i]? with
 | none=>exact .refl U g
 | some k=>exact h i k hi g
theorem and_ap {U:Nat} {k0 k1:Gk} (h0:∀g,Ap U [] g (k0 g)) (h1:∀g,Ap U [] g (k1 g)) (g:Gs):Ap U [] g (andG k0 k1 g):=by
 unfold andG
 dsimp only
 generalize hg1:k0 g=g1
 generalize hg3:putG [⟨22,0,0⟩] (k1 (fixG ⟨12,0,0⟩ 1 0 g1))=g3
 have a1:Ap U [] g g1:=hg1▸h0 g
 have a2:Ap U [g1.code.length] g1 g3:=hg3▸((jump_ap U ⟨12,0,0⟩ g1 (opk (by decide) (by decide))).trans (h1 _)).trans (put1_ap U ⟨22,0,0⟩ _ (opk (by decide) (by decide)))
 have a3:Ap U [g1.code.length,g3.code.length] g (fixG ⟨11,0,0⟩ 1 0 g3):=(a1.trans a2).trans (jump_ap U ⟨11,0,0⟩ g3 (opk (by decide) (by decide)))
 have a4:Ap U [g3.code.length] g _:=land_ap (pa:=[]) a3
 have a5:Ap U [g3.code.length] g _:=a4.trans (put1_ap U ⟨1,0,0⟩ _ (opk (by decide) (by decide)))
 exact land_ap (pa:=[]) (pb:=[]) a5
theorem or_ap {U:Nat} {k0 k1:Gk} (h0:∀g,Ap U [] g (k0 g)) (h1:∀g,Ap U [] g (k1 g)) (g:Gs):Ap U [] g (orG k0 k1 g):=by
 unfold orG
 dsimp only
 generalize hg1:k0 g=g1
 generalize hg3:putG [⟨1,1,0⟩] (fixG ⟨12,0,0⟩ 1 0 g1)=g3
 have a1:Ap U [] g g1:=hg1▸h0 g
 have a2:Ap U [g1.code.length] g1 g3:=hg3▸(jump_ap U ⟨12,0,0⟩ g1 (opk (by decide) (by decide))).trans (put1_ap U ⟨1,1,0⟩ _ (opk (by decide) (by decide)))
 have a3:Ap U [g1.code.length,g3.code.length] g (fixG ⟨11,0,0⟩ 1 0 g3):=(a1.trans a2).trans (jump_ap U ⟨11,0,0⟩ g3 (opk (by decide) (by decide)))
 have a4:Ap U [g3.code.length] g _:=land_ap (pa:=[]) a3
 have a5:Ap U [g3.code.length] g _:=(a4.trans (h1 _)).trans (put1_ap U ⟨22,0,0⟩ _ (opk (by decide) (by decide)))
 exact land_ap (pa:=[]) (pb:=[]) a5
mutual
theorem nodeG_ap {U:Nat} {ks:List KnW} (hK:KsOk U ks) (locs:Int):∀(x:TNode) (d:Nat),nodeK ks locs x d=true→∀g,Ap U [] g (nodeG x g)
 | .mk op n m pl args,d,h,g=>by
   obtain ⟨h1,h2⟩:=nodeK_parts h
   have hk:=kidsG_ap hK locs args (d+1) h2
   have f:=node1_facts h1
   rw [nodeG]
   unfold nodeGo
   split
   · exact put1_ap U _ g (opk (by decide) (by decide))
   · split
     · exact put1_ap U _ g (opk (by decide) (by decide))
     · split
       · exact put1_ap U _ g (opk (by decide) (by decide))
       · split
         · rename_i e
           obtain ⟨hm,hp⟩:=data_in hK (f.1 e)
           exact fix_ap g (opk (by decide) (by decide)) (.inr O) hm hp
         · split
           · rename_i e
             obtain ⟨hm,hp⟩:=data_in hK (f.2.1 e).2
             exact ((kid_ap hk 0 g).trans (fix_ap _ (opk (by decide) (by decide)) (.inr O) hm hp)).trans (put1_ap U _ _ (opk (by decide) (by decide)))
           · split
             · rename_i e
               obtain ⟨hm,hp⟩:=part_in hK (f.2.2.1 e)
               exact (all_ap hk g).trans (fix_ap _ (opk (by decide) (by decide)) Y hm hp)
             · split
               · exact and_ap (kid_ap hk 0) (kid_ap hk 1) g
               · split
                 · exact or_ap (kid_ap hk 0) (kid_ap hk 1) g
                 · split
                   · exact (all_ap hk g).trans (put1_ap U _ _ (opk (by decide) (by decide)))
                   · exact (all_ap hk g).trans (put1_ap U _ _ (opk (by decide) (by decide)))
theorem kidsG_ap {U:Nat} {ks:List KnW} (hK:KsOk U ks) (locs:Int):∀(l:List TNode) (d:Nat),nodesK ks locs l d=true→∀(i:Nat) k,(kidsG l)[i]? = some k→∀g,Ap U [] g (k g)
 | [],d,_,i,k,h,g=>by rw [kidsG] at h; simp at h
 | x::r,d,hd,0,k,h,g=>by
   rw [nodesK] at hd
   rw [kidsG] at h
   simp at h
   subst h
   exact nodeG_ap hK locs x d (Bool.and_eq_true_iff.1 hd).1 g
 | x::r,d,hd,i+1,k,h,g=>by
   rw [nodesK] at hd
   rw [kidsG] at h
   exact kidsG_ap hK locs r d (Bool.and_eq_true_iff.1 hd).2 i k (by simpa using h) g
end
theorem if_ap {U:Nat} {k0 body other:Gk} {ol:Nat} (h0:∀g,Ap U [] g (k0 g)) (h1:∀g,Ap U [] g (body g)) (h2:∀g,Ap U [] g (other g)) (g:Gs):Ap U [] g (ifG k0 body other ol g):=by
 unfold ifG
 dsimp only
 generalize hg1:k0 g=g1
 generalize hg3:body (fixG ⟨12,0,0⟩ 1 0 g1)=g3
 have a1:Ap U [] g g1:=hg1▸h0 g
 have a2:Ap U [g1.code.length] g1 g3:=hg3▸(jump_ap U ⟨12,0,0⟩ g1 (opk (by decide) (by decide))).trans (h1 _)
 split
 · have a3:Ap U [g1.code.length,g3.code.length] g (fixG ⟨11,0,0⟩ 1 0 g3):=(a1.trans a2).trans (jump_ap U ⟨11,0,0⟩ g3 (opk (by decide) (by decide)))
   have a4:Ap U [g3.code.length] g _:=land_ap (pa:=[]) a3
   have a5:Ap U [g3.code.length] g _:=a4.trans (h2 _)
   exact land_ap (pa:=[]) (pb:=[]) a5
 · exact land_ap (pa:=[]) (pb:=[]) (a1.trans a2)
theorem while_ap {U:Nat} {k0 body:Gk} (h0:∀g,Ap U [] g (k0 g)) (h1:∀g,Ap U [] g (body g)) (g:Gs):Ap U [] g (whileG k0 body g):=by
 unfold whileG
 dsimp only
 generalize hg1:k0 g=g1
 have a1:Ap U [] g g1:=hg1▸h0 g
 have a2:Ap U [g1.code.length] g _:=((a1.trans (jump_ap U ⟨12,0,0⟩ g1 (opk (by decide) (by decide)))).trans (put1_ap U ⟨16,0,0⟩ _ (opk (by decide) (by decide)))).trans (h1 _)
 exact land_ap (pa:=[]) (pb:=[]) (back_ap U a2 (i:=⟨11,(g.code.length:Int),0⟩) (opk (by decide) (by decide)) O)
mutual
theorem actG_ap {U:Nat} {ks:List KnW} (hK:KsOk U ks) (locs:Int):∀(x:TAct) (d:Nat),actK ks locs x d=true→∀g,Ap U [] g (actG x g)
 | .mk op n m pl args body other,d,h,g=>by
   obtain ⟨h1,h2,h3,h4⟩:=actK_parts h
   have hk:=kidsG_ap hK locs args 1 h2
   have f:=act1_facts h1
   have ho:=actsG_ap hK locs other (d+1) h4
   rw [actG]
   unfold actGo
   split
   · rename_i e
     split
     · exact (kid_ap hk 0 g).trans (put1_ap U _ _ (opk (by decide) (by decide)))
     · rename_i hm
       obtain ⟨hm,hp⟩:=data_in hK ((f.1 e).2 hm)
       exact (kid_ap hk 0 g).trans (fix_ap _ (opk (by decide) (by decide)) (.inr O) hm hp)
   · split
     · rename_i e
       obtain ⟨hm,hp⟩:=data_in hK (f.2.1 e).2
       exact (((kid_ap hk 0 g).trans (fix_ap _ (opk (by decide) (by decide)) (.inr O) hm hp)).trans (kid_ap hk 1 _)).trans (put1_ap U _ _ (opk (by decide) (by decide)))
     · split
       · rename_i e
         obtain ⟨hm,hp⟩:=part_in hK (f.2.2 e)
         exact ((all_ap hk g).trans (fix_ap _ (opk (by decide) (by decide)) Y hm hp)).trans (put1_ap U _ _ (opk (by decide) (by decide)))
       · split
         · rename_i e
           exact if_ap (kid_ap hk 0) (actsG_ap hK locs body (d+1) (h3 (.inl e))) ho g
         · split
           · rename_i e
             exact while_ap (kid_ap hk 0) (actsG_ap hK locs body (d+1) (h3 (.inr e))) g
           · split
             · exact (kid_ap hk 0 g).trans (put1_ap U _ _ (opk (by decide) (by decide)))
             · split
               · exact (kid_ap hk 0 g).trans (put1_ap U _ _ (opk (by decide) (by decide)))
               · exact .refl U g
theorem actsG_ap {U:Nat} {ks:List KnW} (hK:KsOk U ks) (locs:Int):∀(l:List TAct) (d:Nat),actsA ks locs l d=true→∀g,Ap U [] g (actsG l g)
 | [],d,_,g=>by rw [actsG]; exact .refl U g
 | x::r,d,h,g=>by
   rw [actsA] at h
   rw [actsG]
   exact (actG_ap hK locs x d (Bool.and_eq_true_iff.1 h).1 g).trans (actsG_ap hK locs r d (Bool.and_eq_true_iff.1 h).2 _)
end
def Jst (lo hi:Nat) (c:List InsG) (f:FixE):Prop:=∀(p:Nat) i,f.kind=1→f.at_=(p:Int)→c[p]? = some i→lo≤p∧p<hi∧(lo:Int)≤i.a∧i.a<(hi:Int)
theorem partG_ap {U:Nat} {ks:List KnW} (hK:KsOk U ks) {locs:Int} {b:List TAct} {d:Nat} (h:actsA ks locs b d=true) (pa lo:Int) (g:Gs) :
   Ap U [] g (partG pa lo b g)∧g.code.length+3≤(partG pa lo b g).code.length∧∃fx,(partG pa lo b g).fix=g.fix++fx∧∀f ∈ fx,Jst g.code.length (partG pa lo b g).code.length (partG pa lo b g).code f:=by
 have a1:Ap U [] g (actsG b (putG [⟨14,pa,lo⟩] g)):=(put1_ap U ⟨14,pa,lo⟩ g (opk (by decide) (by decide))).trans (actsG_ap hK locs b d h _)
 have a0:=(actsG_ap hK locs b d h (putG [⟨14,pa,lo⟩] g)).lo
 unfold partG
 generalize actsG b (putG [⟨14,pa,lo⟩] g)=g1 at a1 a0
 have e0:(putG [⟨14,pa,lo⟩] g).code.length=g.code.length+1:=by simp [putG]
 have e2:(putG [⟨1,0,0⟩,⟨15,0,0⟩] g1).code.length=g1.code.length+2:=by simp [putG]
 refine ⟨a1.trans (put_ap U _ g1 (by intro i hi; simp at hi; rcases hi with rfl | rfl<;>exact opk (by decide) (by decide))),by omega,?_⟩
 obtain ⟨c,fx,b1,b2,b3,b4,b5⟩:=a1.more
 refine ⟨fx,b2,fun f hf p i k1 k2 k3=>?_⟩
 obtain ⟨p',j,c1,c2,c3,c4⟩:=b4 f hf
 have hp:p'=p:=by omega
 subst hp
 have hlt:p'<g1.code.length:=(List.getElem?_eq_some_iff.1 c2).1
 have k4:g1.code[p']? = some i:=by
   have:(g1.code++[⟨1,0,0⟩,⟨15,0,0⟩])[p']? = some i:=k3
   rwa [List.getElem?_append_left hlt] at this
 rw [c2] at k4
 injection k4 with k4
 subst k4
 rw [e2]
 rcases c4 with ⟨_,_,x | x⟩ | ⟨x,_⟩
 · cases x
 · exact ⟨c3,by omega,x.1,by omega⟩
 · omega
structure PtsOk (g g':Gs) (S:List Nat):Prop where
 at_:∀s ∈ S,g.code.length≤s∧s<g'.code.length
 stay:∃fx,g'.fix=g.fix++fx∧∀f ∈ fx,∀(p:Nat) i,f.kind=1→f.at_=(p:Int)→g'.code[p]? = some i→g.code.length≤p∧(g.code.length:Int)≤i.a∧∀s ∈ S,(p<s→i.a<(s:Int))∧(s≤p→(s:Int)≤i.a)
theorem partsG_ap {U:Nat} {ks:List KnW} (hK:KsOk U ks):∀{l:List TPart} (hl:∀p ∈ l,∃locs d,actsA ks locs p.body d=true) (g:Gs),Ap U [] g (partsG l g).2∧PtsOk g (partsG l g).2 (partsG l g).1
 | [],hl,g=>⟨.refl U g,⟨(by intro s hs; cases hs),[],(by show g.fix=_; simp),(by intro f hf; cases hf)⟩⟩
 | q::r,hl,g=>by
   obtain ⟨locs,d,h⟩:=hl q (by simp)
   obtain ⟨a1,a2,fx,a3,a4⟩:=partG_ap hK h q.params q.locals g
   obtain ⟨b1,b2⟩:=partsG_ap hK (l:=r) (fun p hp=>hl p (by simp [hp])) (partG q.params q.locals q.body g)
   obtain ⟨fx',b3,b4⟩:=b2.stay
   have b5:=b2.at_
   rw [partsG]
   dsimp only
   generalize partG q.params q.locals q.body g=g1 at *
   generalize partsG r g1=z at *
   have hlo:=b1.lo
   obtain ⟨c,_,hc,_⟩:=b1.more
   refine ⟨a1.trans b1,fun s hs=>?_,fx++fx',by rw [b3,a3,List.append_assoc],fun f hf p i k1 k2 k3=>?_⟩
   · rcases List.mem_cons.1 hs with rfl | hs
     · omega
     · have:=b5 s hs; omega
   · rcases List.mem_append.1 hf with hf | hf
     · obtain ⟨_,fx2,d1,d2,d3,d4,d5⟩:=a1.more
       have e:fx2=fx:=List.append_cancel_left (d2.symm.trans a3)
       subst e
       obtain ⟨p',j,e1,e2,_⟩:=d4 f hf
       have hp:p'=p:=by omega
       subst hp
       have hlt:p'<g1.code.length:=(List.getElem?_eq_some_iff.1 e2).1
       have k4:g1.code[p']? = some i:=by rw [hc,List.getElem?_append_left hlt] at k3; exact k3
       obtain ⟨j1,j2,j3,j4⟩:=a4 f hf p' i k1 k2 k4
       refine ⟨j1,j3,fun s hs=>?_⟩
       rcases List.mem_cons.1 hs with rfl | hs
       · exact ⟨fun _=>by omega,fun _=>j3⟩
       · have:=b5 s hs
         exact ⟨fun _=>by omega,fun _=>by omega⟩
     · obtain ⟨j1,j2,j3⟩:=b4 f hf p i k1 k2 k3
       refine ⟨by omega,by omega,fun s hs=>?_⟩
       rcases List.mem_cons.1 hs with rfl | hs
       · exact ⟨fun _=>by omega,fun _=>by omega⟩
       · exact j3 s hs
structure UnitR (u:TUnit) (o:GObj):Prop where
 ap:Ap u.uses.length [] ⟨[],[]⟩ o.g
 pts:PtsOk ⟨[],[]⟩ o.g (o.ents++[o.main])
 few:o.ents.length=u.parts.length
theorem ks_alone {u:TUnit} (h:aloneB u=true):KsOk u.uses.length (knM u::List.replicate u.uses.length noKn):=by
 refine ⟨by simp,fun k hk hi=>?_⟩
 rcases List.mem_cons.1 hk with rfl | hk
 · have:=(knM_s h hi).2.1
   omega
 · rw [(List.mem_replicate.1 hk).2] at hi; cases hi
theorem unitG_right {u:TUnit} (h:aloneB u=true):UnitR u (unitG u):=by
 have hK:=ks_alone h
 obtain ⟨h1,h2,h3,h4⟩:=fine_parts h
 have hl:∀p ∈ u.parts++[(⟨0,0,u.main⟩:TPart)],∃locs d,actsA (knM u::List.replicate u.uses.length noKn) locs p.body d=true:=by
   intro p hp
   rcases List.mem_append.1 hp with hp | hp
   · exact ⟨_,1,actsK_A (part_fine (h1 p hp)).2.2.2.2⟩
   · have:=List.mem_singleton.1 hp; subst this
     exact ⟨_,1,actsK_A h2⟩
 obtain ⟨a,b⟩:=partsG_ap hK hl ⟨[],[]⟩
 rw [partsG_snoc] at a b
 exact ⟨a,b,(partsG_len u.parts ⟨[],[]⟩).2⟩
end Go.Bw
end
section
namespace Go.Bw
open Go
structure TOb where
 nm:List UInt8
 uses:List (List UInt8)
 data:Int
 code:List InsG
 fix:List FixE
 ents:List Int
 main:Int
def obV (o:TOb) (q:OAt):List Value:=[st o.nm,.slice q.s1.1 o.uses.length q.s1.2,.int .i64 o.data,.slice q.s2.1 o.code.length q.s2.2,.slice q.s3.1 o.fix.length q.s3.2,.slice q.s4.1 o.ents.length q.s4.2,.int .i64 o.main]
structure RdTo (H:View) (q:OAt) (o:TOb):Prop where
 uses:Sl rdStr 1 H q.s1.1 q.s1.2 o.uses
 code:Sl rdIG 3 H q.s2.1 q.s2.2 o.code
 fix:Sl rdFE 3 H q.s3.1 q.s3.2 o.fix
 ents:Sl rdN1 1 H q.s4.1 q.s4.2 o.ents
def GObj.to (o:GObj):TOb:=⟨o.nm,o.uses,o.data,o.g.code,o.g.fix,o.ents.map fun n:Nat=>(n:Int),o.main⟩
theorem to_V (o:GObj) (q:OAt):obV o.to q=objV o q:=by simp [obV,objV,GObj.to]
theorem to_rd {H:View} {q:OAt} {o:GObj} (h:RdOb H q o):RdTo H q o.to:=by
 refine ⟨h.uses,h.code,h.fix,⟨?_,h.ents.max,h.ents.spot,fun i x hx=>?_⟩⟩
 · show (o.ents.map fun n:Nat=>(n:Int)).length≤_
   rw [List.length_map]; exact h.ents.cap
 · have hx:(o.ents.map fun n:Nat=>(n:Int))[i]? = some x:=hx
   rw [List.getElem?_map] at hx
   cases he:o.ents[i]? with
   | none=>rw [he] at hx; cases hx
   | some n=>
     rw [he] at hx
     injection hx with hx
     subst hx
     exact h.ents.elt i n he
def placeB (n:Nat) (at_:Int):Bool:=decide (0≤at_)&&decide (at_<(n:Int))
def usesO (seen:List (List UInt8)):List (List UInt8)→Bool→Bool
 | [],f=>f
 | s::r,f=>usesO (seen++[s]) r ((f&&nameB s)&&(((seen.count s:Nat):Int)+1==1))
def codeO:List InsG→Bool→Bool
 | [],f=>f
 | x::r,f=>codeO r ((f&&decide (1≤x.op))&&decide (x.op≤22))
def entsO (n:Nat):List Int→Bool→Bool
 | [],f=>f
 | x::r,f=>entsO n r (f&&placeB n x)
def fixA (c:List InsG) (p:Int):Int:=((c[p.toNat]?).map (·.a)).getD 0
def fix1 (U n:Nat) (kind m a:Int):Bool:=
 if kind=1 then ((decide (0≤a)&&decide (a≤2048))&&(m==0))&&decide (a≤(n:Int))
 else if kind=2∨kind=3 then ((decide (0≤a)&&decide (a≤2048))&&decide (0≤m))&&decide (m≤(U:Int)) else false
def fixO (U:Nat) (c:List InsG):List FixE→Int→Bool→Bool
 | [],_,f=>f
 | x::r,last,f=>if ((f&&decide (last<x.at_))&&placeB c.length x.at_)=false then false else fixO U c r x.at_ (fix1 U c.length x.kind x.m (fixA c x.at_))
def headO (o:TOb):Bool:=(nameB o.nm&&decide (0≤o.data))&&decide (o.data≤512)
def fineO (o:TOb):Bool:=fixO o.uses.length o.code o.fix (-1) (entsO o.code.length o.ents (codeO o.code (usesO [o.nm] o.uses (headO o))))
def manyO (o:TOb):Bool:=((decide (3<(o.uses.length:Int))||decide (6<(o.ents.length:Int)))||decide ((o.code.length:Int)<1))||decide (2048<(o.code.length:Int))
def checkO (o:TOb):Int:=if manyO o=true then 2 else if (!(fineO o)||!(placeB o.code.length o.main))=true then 1 else 0
theorem placeB_in {n:Nat} {x:Int} (h:placeB n x=true):∃p:Nat,x=(p:Int)∧p<n:=by
 unfold placeB at h
 simp only [Bool.and_eq_true,decide_eq_true_eq] at h
 exact ⟨x.toNat,by omega,by omega⟩
theorem placeB_of {n p:Nat} (h:p<n):placeB n (p:Int)=true:=by
 unfold placeB
 simp only [Bool.and_eq_true,decide_eq_true_eq]
 omega
theorem usesO_step {seen us:List (List UInt8)} {i:Nat} {s:List UInt8} (h:us[i]? = some s) (f:Bool):usesO (seen++us.take i) (us.drop i) f=usesO (seen++us.take (i+1)) (us.drop (i+1)) ((f&&nameB s)&&((((seen++us.take i).count s:Nat):Int)+1==1)):=by
 obtain ⟨h1,h2⟩:=List.getElem?_eq_some_iff.1 h
 rw [List.drop_eq_getElem_cons h1,h2,usesO,List.take_add_one,h,List.append_assoc]
 rfl
theorem codeO_step {l:List InsG} {i:Nat} {x:InsG} (h:l[i]? = some x) (f:Bool):codeO (l.drop i) f=codeO (l.drop (i+1)) ((f&&decide (1≤x.op))&&decide (x.op≤22)):=by
 obtain ⟨h1,h2⟩:=List.getElem?_eq_some_iff.1 h
 rw [List.drop_eq_getElem_cons h1,h2,codeO]
theorem entsO_step {n:Nat} {l:List Int} {i:Nat} {x:Int} (h:l[i]? = some x) (f:Bool):entsO n (l.drop i) f=entsO n (l.drop (i+1)) (f&&placeB n x):=by
 obtain ⟨h1,h2⟩:=List.getElem?_eq_some_iff.1 h
 rw [List.drop_eq_getElem_cons h1,h2,entsO]
theorem fixO_step {U:Nat} {c:List InsG} {l:List FixE} {i:Nat} {x:FixE} (h:l[i]? = some x) (last:Int) (f:Bool):fixO U c (l.drop i) last f=if ((f&&decide (last<x.at_))&&placeB c.length x.at_)=false then false else fixO U c (l.drop (i+1)) x.at_ (fix1 U c.length x.kind x.m (fixA c x.at_)):=by
 obtain ⟨h1,h2⟩:=List.getElem?_eq_some_iff.1 h
 rw [List.drop_eq_getElem_cons h1,h2,fixO]
theorem usesO_true:∀{us seen:List (List UInt8)} (hn:(seen++us).Nodup) (ha:us.all nameB=true),usesO seen us true=true
 | [],_,_,_=>rfl
 | s::r,seen,hn,ha=>by
   rw [usesO]
   rw [List.all_cons] at ha
   obtain ⟨h1,h2⟩:=Bool.and_eq_true_iff.1 ha
   have hc:seen.count s=0:=by
     rw [List.count_eq_zero]
     intro hm
     exact (List.nodup_append.1 hn).2.2 s hm s (by simp) O
   rw [h1,hc]
   exact usesO_true (us:=r) (by rw [List.append_assoc]; exact hn) h2
theorem codeO_true:∀{l:List InsG} (h:∀i ∈ l,OpOk i),codeO l true=true
 | [],_=>rfl
 | x::r,h=>by
   have:=h x (by simp)
   rw [codeO,decide_eq_true this.1,decide_eq_true this.2]
   exact codeO_true fun i hi=>h i (by simp [hi])
theorem entsO_true {n:Nat}:∀{l:List Nat} (h:∀s ∈ l,s<n),entsO n (l.map fun n:Nat=>(n:Int)) true=true
 | [],_=>rfl
 | x::r,h=>by
   rw [List.map_cons,entsO,placeB_of (h x (by simp))]
   exact entsO_true fun s hs=>h s (by simp [hs])
theorem fixO_true {U:Nat} {c:List InsG} (hc:c.length≤2048):∀{l:List FixE} {last:Int} (h:∀f ∈ l,last<f.at_∧Jok U [] 0 c f) (hp:l.Pairwise fun a b=>a.at_<b.at_),fixO U c l last true=true
 | [],_,_,_=>rfl
 | x::r,last,h,hp=>by
   obtain ⟨h1,p,i,a1,a2,a3,a4⟩:=h x (by simp)
   have hlt:p<c.length:=(List.getElem?_eq_some_iff.1 a2).1
   rw [fixO,a1,placeB_of hlt,decide_eq_true (by omega)]
   rw [if_neg (by decide)]
   have hA:fixA c (p:Int)=i.a:=by unfold fixA; rw [Int.toNat_natCast,a2]; rfl
   have hf:fix1 U c.length x.kind x.m (fixA c (p:Int))=true:=by
     rw [hA]
     unfold fix1
     rcases a4 with ⟨b1,b2,b3 | b3⟩ | ⟨b1,_,b2,b3,b4,b5⟩
     · cases b3
     · rw [if_pos b1,b2,decide_eq_true (show 0≤i.a by omega),decide_eq_true (show i.a≤2048 by omega),decide_eq_true (show i.a≤(c.length:Int) by omega)]
       rfl
     · rw [if_neg (by omega),if_pos b1]
       simp only [Bool.and_eq_true,decide_eq_true_eq]
       omega
   rw [hf]
   rw [List.pairwise_cons] at hp
   exact fixO_true hc (fun f hf=>⟨by have:=hp.1 f hf; omega,(h f (by simp [hf])).2⟩) hp.2
theorem unit_check {u:TUnit} (h:aloneB u=true) (hc:(unitG u).g.code.length≤2048):checkO (unitG u).to=0:=by
 have hr:=unitG_right h
 obtain ⟨h1,h2,h3,h4⟩:=fine_parts h
 unfold headC at h3
 simp only [Bool.or_eq_false_iff,decide_eq_false_iff_not] at h3
 have hn:nameB u.nm=true:=by simpa using h3.1.1.1.1
 unfold usesK at h4
 obtain ⟨u1,u2⟩:=Bool.and_eq_true_iff.1 h4
 have hnd:(u.nm::u.uses).Nodup:=nodup_twice.2 (by simpa using u1)
 have hm:(unitG u).main<(unitG u).g.code.length:=(hr.pts.at_ _ (by simp)).2
 obtain ⟨c,fx,a1,a2,a3,a4,a5⟩:=hr.ap.more
 have a1:(unitG u).g.code=c:=by simpa using a1
 have a2:(unitG u).g.fix=fx:=by simpa using a2
 unfold checkO
 have hmany:manyO (unitG u).to=false:=by
   unfold manyO
   simp only [Bool.or_eq_false_iff,decide_eq_false_iff_not]
   refine ⟨⟨⟨?_,?_⟩,?_⟩,?_⟩
   · show ¬3<(u.uses.length:Int); omega
   · show ¬6<((((unitG u).ents.map fun n:Nat=>(n:Int)).length:Nat):Int)
     rw [List.length_map,hr.few]; omega
   · show ¬(((unitG u).g.code.length:Nat):Int)<1; omega
   · show ¬2048<(((unitG u).g.code.length:Nat):Int); omega
 rw [hmany,if_neg (by decide)]
 have hhead:headO (unitG u).to=true:=by
   unfold headO
   simp only [Bool.and_eq_true,decide_eq_true_eq]
   exact ⟨⟨hn,by show 0≤u.data; omega⟩,by show u.data≤512; omega⟩
 have hfine:fineO (unitG u).to=true:=by
   unfold fineO
   rw [hhead]
   have e1:usesO [(unitG u).to.nm] (unitG u).to.uses true=true:=usesO_true hnd u2
   have e2:codeO (unitG u).to.code true=true:=codeO_true (by show ∀i ∈ (unitG u).g.code,OpOk i; rw [a1]; exact a3)
   have e3:entsO (unitG u).to.code.length (unitG u).to.ents true=true:=entsO_true fun s hs=>(hr.pts.at_ s (by simp [hs])).2
   rw [e1,e2,e3]
   show fixO u.uses.length (unitG u).g.code (unitG u).g.fix (-1) true=true
   refine fixO_true hc (fun f hf=>?_) (by rw [a2]; exact a5)
   rw [a2] at hf
   have hj:=a4 f hf
   obtain ⟨p,i,k1,_⟩:=hj
   exact ⟨by omega,a4 f hf⟩
 rw [hfine]
 have e4:placeB (unitG u).to.code.length (unitG u).to.main=true:=placeB_of hm
 rw [e4]
 rfl
end Go.Bw
end
section
namespace Go.Proofs.YtpjekjnehiinnaaGreatDoor
open Go.Bw
theorem cnt_one (nm s:List UInt8):gget s [((nm,.int .i64 1,0):GEnt (List UInt8))] (.int .i64 0) = .int .i64 ((([nm]:List (List UInt8)).count s:Nat):Int):=by
 by_cases h:nm=s
 · subst h; simp [gget,gfind]
 · have h2:¬s=nm:=fun e=>h e.symm
   simp [gget,gfind,h,h2,List.count_cons]
theorem cnt_step {seen:List (List UInt8)} {M:List (GEnt (List UInt8))} (h:∀s,gget s M (.int .i64 0) = .int .i64 ((seen.count s:Nat):Int)) (x:List UInt8) (c:Nat):∀s,gget s (gput x (.int .i64 (((seen.count x:Nat):Int)+1)) M c) (.int .i64 0) = .int .i64 (((seen++[x]).count s:Nat):Int):=by
 intro s
 by_cases e:s=x
 · subst e
   rw [gget_gput,List.count_append]
   simp
 · rw [gget_other _ M c _ e,h s,List.count_append]
   have e2:¬x=s:=fun k=>e k.symm
   simp [List.count_cons,e2]
theorem sz56:sizeP Tryz.prog 56=some 3:=by kernel_rfl
theorem en42:Enters Tryz.prog 42:=enters_of Tryz.func42 (by kernel_rfl) rfl
theorem sz54:sizeP Tryz.prog 54=some 3:=by kernel_rfl
theorem fo54_0:fieldOff Tryz.prog 54 0=some 0:=by kernel_rfl
theorem fo54_1:fieldOff Tryz.prog 54 1=some 1:=by kernel_rfl
theorem fo54_2:fieldOff Tryz.prog 54 2=some 2:=by kernel_rfl
theorem place_any (H:View) (b n:Nat) (x:Int) (w:World) (hH:Le H w) (h0:vc H b 0=some (.int .i64 (n:Int))) :
   Calls Tryz.prog 42 #[.int .i64 x,.pointer (some ⟨b,0,none⟩)] w fun e w'=>e = .returned (.bool (placeB n x))∧Ext w w':=by
 refine enter Tryz.func42 O 11 O O ?_
 refine CWd (W':=Ws w [] [] [H]) (fun _ e=>by subst e; exact Ws.init (by simp [hH])) ?_
 refine Cs (Cr (V0 (Ya O) (Ln (Et (Cs (Cr (V0 (Ym O) (V0 (yl_ge O O) (V0 (Ym O) ?_)))))))))
 apply La 3 O O O O Y O O O O O
 ·
  intro hg0
  refine Vg (Ym O) (Vg (yl_ld 0 na3 O O (h0)) (Vg (yl_lt O O) ?_))
  exact Gt 3 O O O
 refine V0 (Ya O) (Ln (Et (Crt ?_)))
 refine R1 O O fun w' hw=>?_
 exact ⟨O,hw.fr⟩
theorem ocheck_any (H:View) (o:TOb) (q:OAt) (w:World) (hH:Le H w) (hm:RdTo H q o) :
   Calls Tryz.prog 22 #[.agg (obV o q).toArray] w fun e w'=>e = .returned (.int .i64 (checkO o))∧Ext w w':=by
 have husescap:=hm.uses.cap
 have husesmax:=hm.uses.max
 have hcodecap:=hm.code.cap
 have hcodemax:=hm.code.max
 have hfixcap:=hm.fix.cap
 have hfixmax:=hm.fix.max
 have hentscap:=hm.ents.cap
 have hentsmax:=hm.ents.max
 refine enter Tryz.func22 O 191 O O ?_
 refine CWd (W':=Ws w [] [] [H]) (fun _ e=>by subst e; exact Ws.init (by simp [hH])) ?_
 refine Cs (Cr ?_)
 refine WL.box Y O O fun b1=>?_
 refine V0 (Ya O) (Ln (Et (Cs (Cr (V0 (Yf fo31_3 O) (V0 (Yd 0 O O O na27) (V0 (Yn es27 O) ?_)))))))
 refine Al Y O zr3 fun b3=>?_
 refine Lst 0 Y O O O sz3 O O O (Ln (Et (Cs (Cs ?_))))
 refine Crb 0 (.cells ([.int .i64 (o.code.length:Int)]).toArray 3 (0,0)) O O ?_
 refine Cr (V0 (Yf fo31_1 O) (V0 (Yd 1 O O O na22) (V0 (Yn es22 O) (V0 (yl_gt O O) (V0 (Ym O) ?_)))))
 apply Lo 4 O O O O Y O O O O O
 ·
  intro hg0
  refine Vg (Yf fo31_5 O) (Vg (Yd 1 O O O na29) (Vg (Yn es29 O) (Vg (yl_gt O O) ?_)))
  exact Gt 4 O O O
 refine V0 (Ym O) ?_
 apply Lo 2 O O O O Y O O O O O
 ·
  intro hg1
  refine Vg (Yd 0 O O O na3) (Vg (yl_lt O O) ?_)
  exact Gt 2 O O O
 refine V0 (Ym O) ?_
 apply Lo 2 O O O O Y O O O O O
 ·
  intro hg2
  refine Vg (Yd 0 O O O na3) (Vg (yl_gt O O) ?_)
  exact Gt 2 O O O
 refine Ln (Et ?_)
 refine Cc O (fun hc0=>?_) (fun hc0=>?_)
 ·
  refine Cs (Cr (V0 (Ya O) (Ln (Et (Crt (Er ?_))))))
  refine R1 O O fun w' hw=>?_
  exact ⟨by rw [checkO,if_pos (show manyO o=true from hc0)],hw.fr⟩
 have hmany:manyO o=false:=hc0
 have hU3:o.uses.length≤3:=by
   unfold manyO at hmany
   simp only [Bool.or_eq_false_iff,decide_eq_false_iff_not] at hmany
   omega
 refine Ck (Et (Cs (Cr ?_)))
 refine WL.gmk st Y O fun b38=>?_
 refine V0 (Yf fo31_0 O) (V0 (Yd 2 O O O na9) ?_)
 refine WL.gins 0 keyStr Y um74 us9 O O O O ?_
 refine V0 (Ym O) (V0 (Ya O) (Ln (Et (Cs (Cr (V0 (Yf fo31_0 O) (V0 (Yd 2 O O O na9) ?_)))))))
 refine Lp Y O en41 O (fun w hw=>lexName_any _ w) ?_
 refine V0 (Ym O) ?_
 apply La 3 O O O O Y O O O O O
 ·
  intro hg3
  refine Vg (Yf fo31_2 O) (Vg (Yd 2 O O O na3) (Vg (yl_ge O O) ?_))
  exact Gt 3 O O O
 refine V0 (Ym O) ?_
 apply La 3 O O O O Y O O O O O
 ·
  intro hg4
  refine Vg (Yf fo31_2 O) (Vg (Yd 2 O O O na3) (Vg (yl_le O O) ?_))
  exact Gt 3 O O O
 refine V0 (Ya O) (Ln (Et (Cs (Cs (Cr (V0 (Yf fo31_1 O) (V0 (Yd 2 O O O na22) (V0 (Yn es22 O) (V0 (Ym O) ?_)))))))))
 refine Ln (Et (Cb ?_))
 refine CLk (ι:=Nat×List (GEnt (List UInt8))×Nat×Bool) (fun g=>[(58,.int .i64 (g.1:Int)),(5,.bool g.2.2.2)]) [(1,_),(2,_),(3,_),(4,_),(56,_),(57,_)] (fun g=>Ws w [] [blk b38 (gobj st g.2.1 g.2.2.1),blk b3 (.cells #[.int .i64 (o.code.length:Int)] 3 (0,0)),blk b1 (.cells (obV o q).toArray 31 (0,0))] [H]) (fun g=>g.1≤o.uses.length∧(∀s,gget s g.2.1 (.int .i64 0) = .int .i64 (((o.nm::o.uses.take g.1).count s:Nat):Int))∧usesO (o.nm::o.uses.take g.1) (o.uses.drop g.1) g.2.2.2=usesO [o.nm] o.uses (headO o)) (fun g=>o.uses.length-g.1) (0,[((o.nm,.int .i64 1,0):GEnt (List UInt8))],1,headO o) ⟨Nat.zero_le _,cnt_one o.nm,O⟩ (sc O (sc O (sc O (sc O (sc O (sc O (sc O (sc O sn)))))))) (fun _ h=>h) ?_
 intro g ⟨hgi,hM,htot⟩
 refine Cs (Cr (V0 (yl_lt O O) (Ln (Et (Cs ?_)))))
 refine Cc O (fun hc1=>?_) (fun hc1=>?_)
 ·
  have hlt:g.1<o.uses.length:=by simpa using hc1
  obtain ⟨s,hsi⟩:∃q,o.uses[g.1]? = some q:=⟨_,List.getElem?_eq_getElem hlt⟩
  obtain ⟨pbs,pos,has,hrs⟩:=hm.uses.elt g.1 s hsi
  have hrs:RdC H pbs (pos+g.1*1) (strC s):=hrs
  have hT:(o.nm::o.uses.take g.1)++[s]=o.nm::o.uses.take (g.1+1):=by rw [List.take_add_one,hsi]; simp
  have hcl:((o.nm::o.uses.take g.1).count s:Nat)≤4:=by
    have h9:(o.nm::o.uses.take g.1).count s≤(o.nm::o.uses.take g.1).length:=List.count_le_length
    simp at h9; omega
  refine Ck (Et (Cs (Cb (Cs (Cr (V0 (Yo es22 O O has hlt) (V0 (yl_ld 0 na9 O O (hrs 0 _ O)) (V0 (Ya O) (Ln (Et (Cs (Cr (V0 (Ym O) ?_)))))))))))))
  refine V0 (Ym O) (V0 (yl_glook 0 keyStr um74 us9 zr3 O O O) ?_)
  rw [hM s]
  refine V0 (yl_add O O (by omega)) ?_
  refine WL.gset 0 keyStr Y um74 us9 O O O O ?_
  refine Ln (Et (Cr (V0 (Ym O) (V0 (Ym O) ?_))))
  apply La 2 (x:=nameB s) O O O O Y O O O O O
  ·
   intro hg5
   refine Vg (Ym O) ?_
   refine Lp (.g O O O) O en41 O (fun w hw=>lexName_any _ w) ?_
   exact Gt 2 O O O
  refine V0 (Ym O) ?_
  apply La 4 (x:=((((o.nm::o.uses.take g.1).count s:Nat):Int)+1==1)) O O O O Y O O O O O
  ·
   intro hg6
   refine Vg (Ym O) (Vg (Ym O) (Vg (yl_glook 0 keyStr um74 us9 zr3 O O O) ?_))
   rw [gget_gput]
   refine Vg (yl_eq O O) ?_
   exact Gt 4 O O O
  refine V0 (Ya O) (Ln (Eb (Et (Cr ?_))))
  refine V0 (Yi O O O (by omega)) ?_
  refine V0 (Ym O) (Ln ?_)
  exact Ea ((g.1+1,_,_,((g.2.2.2&&nameB s)&&((((o.nm::o.uses.take g.1).count s:Nat):Int)+1==1))):Nat×List (GEnt (List UInt8))×Nat×Bool) (by show _-(g.1+1)<_; omega) ⟨(by show g.1+1≤_; omega),(by rw [←hT]; exact cnt_step hM s _),(usesO_step (seen:=[o.nm]) hsi _).symm.trans htot⟩ (sc O (sc O (sc O (sc O (sc O (sc O (sc O (sc O sn)))))))) (fun _ h=>h)
 have hge:g.1=o.uses.length:=by simp at hc1; omega
 rw [hge,List.drop_length] at htot
 have htot:g.2.2.2=usesO [o.nm] o.uses (headO o):=htot
 refine Ce (Ex (Ex (Ebh (Et (Cs (Cs (Cr (V0 (Yf fo31_3 O) (V0 (Yd 2 O O O na27) (V0 (Yn es27 O) (V0 (Ym O) ?_)))))))))))
 refine Ln (Et (Cb ?_))
 refine CLk (ι:=Nat×Bool) (fun e1=>[(81,.int .i64 (e1.1:Int)),(5,.bool e1.2)]) [(1,_),(2,_),(3,_),(79,_),(80,_)] (fun e1=>Ws w [] [blk b38 (gobj st g.2.1 g.2.2.1),blk b3 (.cells #[.int .i64 (o.code.length:Int)] 3 (0,0)),blk b1 (.cells (obV o q).toArray 31 (0,0))] [H]) (fun e1=>e1.1≤o.code.length∧codeO (o.code.drop e1.1) e1.2=codeO o.code (usesO [o.nm] o.uses (headO o))) (fun e1=>o.code.length-e1.1) (0,g.2.2.2) ⟨Nat.zero_le _,(by rw [htot]; rfl)⟩ (sc O (sc O (sc O (sc O (sc O (sc O (sc O sn))))))) (fun _ h=>h) ?_
 intro e1 ⟨he1,htot1⟩
 refine Cs (Cr (V0 (yl_lt O O) (Ln (Et (Cs ?_)))))
 refine Cc O (fun hc2=>?_) (fun hc2=>?_)
 ·
  have hlt:e1.1<o.code.length:=by simpa using hc2
  obtain ⟨x,hxi⟩:∃q,o.code[e1.1]? = some q:=⟨_,List.getElem?_eq_getElem hlt⟩
  obtain ⟨pbx,pox,hax,hrx⟩:=hm.code.elt e1.1 x hxi
  have hrx:RdC H pbx (pox+e1.1*3) x.cells:=hrx
  refine Ck (Et (Cs (Cb (Cs (Cr (V0 (Yo es27 O O hax hlt) (V0 (yl_lda 0 ag56 O O O (hrx)) ?_)))))))
  refine Al Y O zr56 fun b9=>?_
  refine Lst 0 Y O O O sz56 O O O (Ln (Et ?_))
  refine Crb 0 (.cells (x.cells).toArray 56 (0,0)) O O ?_
  refine Cr (V0 (Ym O) (V0 (Ym O) ?_))
  apply La 3 O O O O Y O O O O O
  ·
   intro hg7
   refine Vg (Yf fo56_0 O) (Vg (Yd 0 O O O na3) (Vg (yl_ge O O) ?_))
   exact Gt 3 O O O
  refine V0 (Ym O) ?_
  apply La 3 O O O O Y O O O O O
  ·
   intro hg8
   refine Vg (Yf fo56_0 O) (Vg (Yd 0 O O O na3) (Vg (yl_le O O) ?_))
   exact Gt 3 O O O
  refine V0 (Ya O) (Ln (Eb (Et (Cr ?_))))
  refine V0 (Yi O O O (by omega)) ?_
  refine V0 (Ym O) (Ln ?_)
  exact Ea ((e1.1+1,_):Nat×Bool) (by show _-(e1.1+1)<_; omega) ⟨(by show e1.1+1≤_; omega),(codeO_step hxi _).symm.trans htot1⟩ (sc O (sc O (sc O (sc O (sc O (sc O (sc O sn))))))) (fun _ h=>Wd 1 h)
 have hge1:e1.1=o.code.length:=by simp at hc2; omega
 rw [hge1,List.drop_length] at htot1
 have htot1:e1.2=codeO o.code (usesO [o.nm] o.uses (headO o)):=htot1
 refine Ce (Ex (Ex (Ebh (Et (Cs (Cr (V0 (yl_func O) (V0 (Ya O) (Ln (Et (Cs (Cs (Cr (V0 (Yf fo31_5 O) ?_))))))))))))))
 refine V0 (Yd 2 O O O na29) (V0 (Yn es29 O) (V0 (Ym O) (Ln (Et (Cb ?_)))))
 refine CLk (ι:=Nat×Bool) (fun e2=>[(101,.int .i64 (e2.1:Int)),(5,.bool e2.2)]) [(1,_),(2,_),(3,_),(10,_),(99,_),(100,_)] (fun e2=>Ws w [] [blk b38 (gobj st g.2.1 g.2.2.1),blk b3 (.cells #[.int .i64 (o.code.length:Int)] 3 (0,0)),blk b1 (.cells (obV o q).toArray 31 (0,0))] [H]) (fun e2=>e2.1≤o.ents.length∧entsO o.code.length (o.ents.drop e2.1) e2.2=entsO o.code.length o.ents (codeO o.code (usesO [o.nm] o.uses (headO o)))) (fun e2=>o.ents.length-e2.1) (0,e1.2) ⟨Nat.zero_le _,(by rw [htot1]; rfl)⟩ (sc O (sc O (sc O (sc O (sc O (sc O (sc O (sc O sn)))))))) (fun _ h=>h) ?_
 intro e2 ⟨he2,htot2⟩
 refine Cs (Cr (V0 (yl_lt O O) (Ln (Et (Cs ?_)))))
 refine Cc O (fun hc3=>?_) (fun hc3=>?_)
 ·
  have hlt:e2.1<o.ents.length:=by simpa using hc3
  obtain ⟨x,hxi⟩:∃q,o.ents[e2.1]? = some q:=⟨_,List.getElem?_eq_getElem hlt⟩
  obtain ⟨pbx,pox,hax,hrx⟩:=hm.ents.elt e2.1 x hxi
  have hrx:RdC H pbx (pox+e2.1*1) (n1C x):=hrx
  refine Ck (Et (Cs (Cb (Cs (Cr (V0 (Yo es29 O O hax hlt) (V0 (yl_ld 0 na3 O O (hrx 0 _ O)) (V0 (Ya O) (Ln (Et (Cr (V0 (Ym O) ?_))))))))))))
  refine V0 (Ym O) ?_
  apply La 3 (x:=placeB o.code.length x) O O O O Y O O O O O
  ·
   intro hg9
   refine Vg (Ym O) (Vg (Ym O) ?_)
   refine WL.callvp (.g O O O) O en42 O O (fun w hw=>place_any (hv w) b3 o.code.length (x) w (hv_le w) (vc_blk (hw.hvw 1 O) O)) ?_
   exact Gt 3 O O O
  refine V0 (Ya O) (Ln (Eb (Et (Cr ?_))))
  refine V0 (Yi O O O (by omega)) ?_
  refine V0 (Ym O) (Ln ?_)
  exact Ea ((e2.1+1,(e2.2&&placeB o.code.length x)):Nat×Bool) (by show _-(e2.1+1)<_; omega) ⟨(by show e2.1+1≤_; omega),(entsO_step hxi _).symm.trans htot2⟩ (sc O (sc O (sc O (sc O (sc O (sc O (sc O (sc O sn)))))))) (fun _ h=>h)
 have hge2:e2.1=o.ents.length:=by simp at hc3; omega
 rw [hge2,List.drop_length] at htot2
 have htot2:e2.2=entsO o.code.length o.ents (codeO o.code (usesO [o.nm] o.uses (headO o))):=htot2
 refine Ce (Ex (Ex (Ebh (Et (Cs (Cr (V0 (Ya O) (Ln (Et (Cs (Cs (Cr (V0 (Yf fo31_4 O) (V0 (Yd 2 O O O na28) ?_))))))))))))))
 refine V0 (Yn es28 O) (V0 (Ym O) (Ln (Et (Cb ?_))))
 refine CLk (ι:=Nat×Int×Bool) (fun e3=>[(115,.int .i64 (e3.1:Int)),(13,.int .i64 e3.2.1),(5,.bool e3.2.2)]) [(1,_),(2,_),(3,_),(10,_),(113,_),(114,_)] (fun e3=>Ws w [] [blk b38 (gobj st g.2.1 g.2.2.1),blk b3 (.cells #[.int .i64 (o.code.length:Int)] 3 (0,0)),blk b1 (.cells (obV o q).toArray 31 (0,0))] [H]) (fun e3=>e3.1≤o.fix.length∧fixO o.uses.length o.code (o.fix.drop e3.1) e3.2.1 e3.2.2=fineO o) (fun e3=>o.fix.length-e3.1) (0,-1,e2.2) ⟨Nat.zero_le _,(by rw [htot2]; rfl)⟩ (sc O (sc O (sc O (sc O (sc O (sc O (sc O (sc O (sc O sn))))))))) (fun _ h=>h) ?_
 intro e3 ⟨he3,htot3⟩
 refine Cs (Cr (V0 (yl_lt O O) (Ln (Et (Cs ?_)))))
 refine Cc O (fun hc4=>?_) (fun hc4=>?_)
 ·
  have hlt:e3.1<o.fix.length:=by simpa using hc4
  obtain ⟨x,hxi⟩:∃q,o.fix[e3.1]? = some q:=⟨_,List.getElem?_eq_getElem hlt⟩
  obtain ⟨pbx,pox,hax,hrx⟩:=hm.fix.elt e3.1 x hxi
  have hrx:RdC H pbx (pox+e3.1*3) x.cells:=hrx
  have hst:=fixO_step (U:=o.uses.length) (c:=o.code) hxi e3.2.1 e3.2.2
  rw [htot3] at hst
  refine Ck (Et (Cs (Cb (Cs (Cr (V0 (Yo es28 O O hax hlt) (V0 (yl_lda 0 ag54 O O O (hrx)) ?_)))))))
  refine Al Y O zr54 fun b15=>?_
  refine Lst 0 Y O O O sz54 O O O (Ln (Et (Cs ?_)))
  refine Crb 0 (.cells (x.cells).toArray 54 (0,0)) O O ?_
  refine Cr (V0 (Ym O) (V0 (Ym O) ?_))
  apply La 4 O O O O Y O O O O O
  ·
   intro hg10
   refine Vg (Yf fo54_0 O) (Vg (Yd 0 O O O na3) (Vg (Ym O) (Vg (yl_gt O O) ?_)))
   exact Gt 4 O O O
  refine V0 (Ym O) ?_
  apply La 4 (x:=placeB o.code.length x.at_) O O O O Y O O O O O
  ·
   intro hg11
   refine Vg (Ym O) (Vg (Yf fo54_0 O) (Vg (Yd 0 O O O na3) ?_))
   refine WL.callvp (.g O O O) O en42 O O (fun w hw=>place_any (hv w) b3 o.code.length (x.at_) w (hv_le w) (vc_blk (hw.hvw 2 O) O)) ?_
   exact Gt 4 O O O
  refine V0 (Ya O) (Ln (Et (Cs (Cs (Cr (V0 (Ym O) (V0 (yl_not O) (Ln (Et ?_)))))))))
  refine Cc O (fun hc5=>?_) (fun hc5=>?_)
  ·
   have hbad:((e3.2.2&&decide (e3.2.1<x.at_))&&placeB o.code.length x.at_)=false:=by
     have h9:=hc5
     cases hX:((e3.2.2&&decide (e3.2.1<x.at_))&&placeB o.code.length x.at_) with
     | false=>rfl
     | true=>rw [hX] at h9; cases h9
   rw [if_pos hbad] at hst
   refine Ce (Ex (Ebm O (Ex (Ex (Ebh (Et (Cs (Cs (Cr (V0 (Ym O) (V0 (yl_not O) (V0 (Ym O) ?_))))))))))))
   apply Lo 5 (x:=!(placeB o.code.length o.main)) O O O O Y O O O O O
   ·
    intro hg12
    refine Vg (Ym O) (Vg (Yf fo31_6 O) (Vg (Yd 3 O O O na3) ?_))
    refine WL.callvp (.g O O O) O en42 O O (fun w hw=>place_any (hv w) b3 o.code.length (o.main) w (hv_le w) (vc_blk (hw.hvw 2 O) O)) ?_
    refine Vg (yl_not O) ?_
    exact Gt 5 O O O
   refine Ln (Et ?_)
   refine Cc O (fun hc9=>?_) (fun hc9=>?_)
   ·
    refine Cs (Cr (V0 (Ya O) (Ln (Et (Crt (Er ?_))))))
    refine R1 O O fun w' hw=>?_
    exact ⟨by rw [checkO,hmany,if_neg (by decide),if_pos (by rw [hst]; rfl)],hw.fr⟩
   refine Ck (Et (Cs (Cr (V0 (Ya O) (Ln (Et (Crt ?_)))))))
   refine R1 O O fun w' hw=>?_
   rw [hbad] at hc9
   exact absurd hc9 (by simp)
  have hgood:((e3.2.2&&decide (e3.2.1<x.at_))&&placeB o.code.length x.at_)=true:=by simpa using hc5
  rw [if_neg (by rw [hgood]; decide)] at hst
  obtain ⟨p,hpa,hpl⟩:=placeB_in (Bool.and_eq_true_iff.1 hgood).2
  have hpt:x.at_.toNat=p:=by omega
  obtain ⟨y,hyi⟩:∃y,o.code[p]? = some y:=⟨_,List.getElem?_eq_getElem hpl⟩
  obtain ⟨pby,poy,hay,hry⟩:=hm.code.elt p y hyi
  have hry:RdC H pby (poy+p*3) y.cells:=hry
  rw [←hpt] at hry
  have hfA:fixA o.code x.at_=y.a:=by unfold fixA; rw [hpt,hyi]; rfl
  rw [hfA] at hst
  refine Ck (Et (Cs (Cr (V0 (Yf fo54_0 O) (V0 (Yd 0 O O O na3) (V0 (Ya O) (Ln (Et (Cs (Cr (V0 (Yf fo31_3 O) ?_)))))))))))
  refine V0 (Yd 3 O O O na27) (V0 (Yf fo54_0 O) (V0 (Yd 0 O O O na3) ?_))
  refine V0 (yl_iai es27 O O hay (by omega) (by omega)) ?_
  refine V0 (Yf fo56_1 O) (V0 (yl_ld 0 na3 O O (hry 1 _ O)) (V0 (Ya O) (Ln (Et (Cs (Cr (V0 (Ym O) (V0 (yl_ge O O) ?_))))))))
  refine V0 (Ym O) ?_
  apply La 2 O O O O Y O O O O O
  ·
   intro hg13
   refine Vg (Ym O) (Vg (yl_le O O) ?_)
   exact Gt 2 O O O
  refine V0 (Ya O) (Ln (Et (Cs (Cr (V0 (Yf fo54_1 O) (V0 (Yd 0 O O O na3) (Ln (Et (Cb (Cs (Cr (V0 (yl_eq O O) ?_))))))))))))
  refine V0 (Ya O) (Ln (Et ?_))
  refine Cc O (fun hc6=>?_) (fun hc6=>?_)
  ·
   have hk1:x.kind=1:=by simpa using hc6
   refine Cr (V0 (Ym O) (V0 (Ym O) ?_))
   apply La 3 O O O O Y O O O O O
   ·
    intro hg14
    refine Vg (Yf fo54_2 O) (Vg (Yd 0 O O O na3) (Vg (yl_eq O O) ?_))
    exact Gt 3 O O O
   refine V0 (Ym O) ?_
   apply La 3 O O O O Y O O O O O
   ·
    intro hg15
    refine Vg (Ym O) (Vg (Yd 2 O O O na3) (Vg (yl_le O O) ?_))
    exact Gt 3 O O O
   refine V0 (Ya O) (Ln (Eb (Eb (Et (Cr ?_)))))
   refine V0 (Yi O O O (by omega)) ?_
   refine V0 (Ym O) (Ln ?_)
   exact Ea ((e3.1+1,x.at_,(((decide (0≤y.a)&&decide (y.a≤2048))&&(x.m==0))&&decide (y.a≤(o.code.length:Int)))):Nat×Int×Bool) (by show _-(e3.1+1)<_; omega) ⟨(by show e3.1+1≤_; omega),(congrArg (fixO o.uses.length o.code (o.fix.drop (e3.1+1)) x.at_) (show (((decide (0≤y.a)&&decide (y.a≤2048))&&(x.m==0))&&decide (y.a≤(o.code.length:Int)))=fix1 o.uses.length o.code.length x.kind x.m y.a from ((by unfold fix1; rw [if_pos hk1])))).trans hst.symm⟩ (sc O (sc O (sc O (sc O (sc O (sc O (sc O (sc O (sc O sn))))))))) (fun _ h=>Wd 1 h)
  have hk1:¬x.kind=1:=by simpa using hc6
  refine Cs (Cs (Cr (V0 (yl_eq O O) (V0 (Ya O) (Ln (Et ?_))))))
  refine Cc O (fun hc7=>?_) (fun hc7=>?_)
  ·
   have hk2:x.kind=2:=by simpa using hc7
   refine Ck (Et ?_)
   refine Cc O (fun hc8=>?_) (fun hc8=>?_)
   ·
    refine Cr (V0 (Ym O) (V0 (Ym O) ?_))
    apply La 3 O O O O Y O O O O O
    ·
     intro hg16
     refine Vg (Yf fo54_2 O) (Vg (Yd 0 O O O na3) (Vg (yl_ge O O) ?_))
     exact Gt 3 O O O
    refine V0 (Ym O) ?_
    apply La 6 O O O O Y O O O O O
    ·
     intro hg17
     refine Vg (Yf fo54_2 O) (Vg (Yd 0 O O O na3) (Vg (Yf fo31_1 O) (Vg (Yd 3 O O O na22) (Vg (Yn es22 O) (Vg (yl_le O O) ?_)))))
     exact Gt 6 O O O
    refine V0 (Ya O) (Ln (Eb (Eb (Et (Cr ?_)))))
    refine V0 (Yi O O O (by omega)) ?_
    refine V0 (Ym O) (Ln ?_)
    exact Ea ((e3.1+1,x.at_,(((decide (0≤y.a)&&decide (y.a≤2048))&&decide (0≤x.m))&&decide (x.m≤(o.uses.length:Int)))):Nat×Int×Bool) (by show _-(e3.1+1)<_; omega) ⟨(by show e3.1+1≤_; omega),(congrArg (fixO o.uses.length o.code (o.fix.drop (e3.1+1)) x.at_) (show (((decide (0≤y.a)&&decide (y.a≤2048))&&decide (0≤x.m))&&decide (x.m≤(o.uses.length:Int)))=fix1 o.uses.length o.code.length x.kind x.m y.a from ((by unfold fix1; rw [if_neg hk1,if_pos (.inl hk2)])))).trans hst.symm⟩ (sc O (sc O (sc O (sc O (sc O (sc O (sc O (sc O (sc O sn))))))))) (fun _ h=>Wd 1 h)
   refine Cr (V0 (Ya O) (Ln (Eb (Eb (Et (Cr ?_))))))
   refine V0 (Yi O O O (by omega)) ?_
   refine V0 (Ym O) (Ln ?_)
   exact Ea ((e3.1+1,x.at_,false):Nat×Int×Bool) (by show _-(e3.1+1)<_; omega) ⟨(by show e3.1+1≤_; omega),(congrArg (fixO o.uses.length o.code (o.fix.drop (e3.1+1)) x.at_) (show false=fix1 o.uses.length o.code.length x.kind x.m y.a from ((by exact absurd (hc7.symm.trans hc8) (by decide))))).trans hst.symm⟩ (sc O (sc O (sc O (sc O (sc O (sc O (sc O (sc O (sc O sn))))))))) (fun _ h=>Wd 1 h)
  have hk2:¬x.kind=2:=by simpa using hc7
  refine Cr (V0 (yl_eq O O) (V0 (Ya O) (Ln (Et ?_))))
  refine Cc O (fun hc8=>?_) (fun hc8=>?_)
  ·
   refine Cr (V0 (Ym O) (V0 (Ym O) ?_))
   apply La 3 O O O O Y O O O O O
   ·
    intro hg16
    refine Vg (Yf fo54_2 O) (Vg (Yd 0 O O O na3) (Vg (yl_ge O O) ?_))
    exact Gt 3 O O O
   refine V0 (Ym O) ?_
   apply La 6 O O O O Y O O O O O
   ·
    intro hg17
    refine Vg (Yf fo54_2 O) (Vg (Yd 0 O O O na3) (Vg (Yf fo31_1 O) (Vg (Yd 3 O O O na22) (Vg (Yn es22 O) (Vg (yl_le O O) ?_)))))
    exact Gt 6 O O O
   refine V0 (Ya O) (Ln (Eb (Eb (Et (Cr ?_)))))
   refine V0 (Yi O O O (by omega)) ?_
   refine V0 (Ym O) (Ln ?_)
   exact Ea ((e3.1+1,x.at_,(((decide (0≤y.a)&&decide (y.a≤2048))&&decide (0≤x.m))&&decide (x.m≤(o.uses.length:Int)))):Nat×Int×Bool) (by show _-(e3.1+1)<_; omega) ⟨(by show e3.1+1≤_; omega),(congrArg (fixO o.uses.length o.code (o.fix.drop (e3.1+1)) x.at_) (show (((decide (0≤y.a)&&decide (y.a≤2048))&&decide (0≤x.m))&&decide (x.m≤(o.uses.length:Int)))=fix1 o.uses.length o.code.length x.kind x.m y.a from ((by unfold fix1; rw [if_neg hk1,if_pos (.inr (by simpa using hc8))])))).trans hst.symm⟩ (sc O (sc O (sc O (sc O (sc O (sc O (sc O (sc O (sc O sn))))))))) (fun _ h=>Wd 1 h)
  refine Cr (V0 (Ya O) (Ln (Eb (Eb (Et (Cr ?_))))))
  refine V0 (Yi O O O (by omega)) ?_
  refine V0 (Ym O) (Ln ?_)
  exact Ea ((e3.1+1,x.at_,false):Nat×Int×Bool) (by show _-(e3.1+1)<_; omega) ⟨(by show e3.1+1≤_; omega),(congrArg (fixO o.uses.length o.code (o.fix.drop (e3.1+1)) x.at_) (show false=fix1 o.uses.length o.code.length x.kind x.m y.a from ((by unfold fix1; rw [if_neg hk1,if_neg (fun h=>h.elim hk2 (by simpa using hc8))])))).trans hst.symm⟩ (sc O (sc O (sc O (sc O (sc O (sc O (sc O (sc O (sc O sn))))))))) (fun _ h=>Wd 1 h)
 have hge3:e3.1=o.fix.length:=by simp at hc4; omega
 rw [hge3,List.drop_length] at htot3
 have htot3:e3.2.2=fineO o:=htot3
 refine Ce (Ex (Ex (Ebh (Et (Cs (Cs (Cr (V0 (Ym O) (V0 (yl_not O) (V0 (Ym O) ?_))))))))))
 apply Lo 5 (x:=!(placeB o.code.length o.main)) O O O O Y O O O O O
 ·
  intro hg12
  refine Vg (Ym O) (Vg (Yf fo31_6 O) (Vg (Yd 2 O O O na3) ?_))
  refine WL.callvp (.g O O O) O en42 O O (fun w hw=>place_any (hv w) b3 o.code.length (o.main) w (hv_le w) (vc_blk (hw.hvw 1 O) O)) ?_
  refine Vg (yl_not O) ?_
  exact Gt 5 O O O
 refine Ln (Et ?_)
 refine Cc O (fun hc9=>?_) (fun hc9=>?_)
 ·
  refine Cs (Cr (V0 (Ya O) (Ln (Et (Crt (Er ?_))))))
  refine R1 O O fun w' hw=>?_
  exact ⟨by rw [checkO,hmany,if_neg (by decide),←htot3,if_pos hc9],hw.fr⟩
 refine Ck (Et (Cs (Cr (V0 (Ya O) (Ln (Et (Crt ?_)))))))
 refine R1 O O fun w' hw=>?_
 exact ⟨by rw [checkO,hmany,if_neg (by decide),←htot3,if_neg (by rw [hc9]; decide)],hw.fr⟩
end Go.Proofs.YtpjekjnehiinnaaGreatDoor
end
section
namespace Go.Bw
open Go Go.RowKit
structure KW where
 l:Option Addr×Nat
 u:Option Addr×Nat
 b:Option Addr×Nat
structure WSt where
 w:Wm
 i:Option Addr×Nat
 o:Option Addr×Nat
 d:Option Addr×Nat
def rdUs (H:View) (b o:Nat) (x:List Nat):Prop:=∃r:Option Addr×Nat,RdC H b o [.slice r.1 x.length r.2]∧Sl rdNt 1 H r.1 r.2 x
structure WGood (H:View) (P:Env) (D C:Nat) (s:WSt):Prop where
 inp:Sl rdN1 1 H s.i.1 s.i.2 s.w.inp
 out:s.w.out.length≤200
 tk:s.w.ticks≤P.lim
 dat:s.w.data.length=D
 cl:s.w.calls=C
structure RunAt (H:View) (n:Nat) (K:KW) (l:List TUnit) (lim:Nat):Prop where
 ok:ProgOk l
 lim:lim≤2000
 units:Sl (rdUn n) 5 H K.l.1 K.l.2 l
 uses:Sl rdUs 1 H K.u.1 K.u.2 (usesU l)
 bases:Sl rdNt 1 H K.b.1 K.b.2 (basesU l 0)
theorem XI.one (e:XI):(XI.cells e).all (·.oneCell')=true:=rfl
def SlI (J:View) (e:XI):Prop:=Sl rdNt 1 J e.2.1 e.2.2 e.1
theorem rdNt_mono {H N:View} (hv:VLe H N) (b o:Nat) (x:Nat) (h:rdNt H b o x):rdNt N b o x:=RdC.mono hv h
theorem SlI.mv {A B:View} {e:XI} (hv:VLe A B) (h:SlI A e):SlI B e:=Sl.imp (fun b o x h=>rdNt_mono hv b o x h) h
structure RGh where
 i:Nat
 es:List XI
 ua:Option Addr×Nat
 ba:Option Addr×Nat
 J:View
end Go.Bw
end
section
namespace Go.Proofs.YtpjekjnehiinnaaGreatDoor
open Go.Bw
theorem en14:Enters Tryz.prog 14:=enters_of Tryz.func14 (by kernel_rfl) rfl
end Go.Proofs.YtpjekjnehiinnaaGreatDoor
end
section
namespace Go.Proofs.YtpjekjnehiinnaaGreatDoor
open Go.Bw
theorem choose_any (n m:Int) (hm:m≠0) (w:World) :
   Calls Tryz.prog 20 #[.int .i64 n,.int .i64 m] w fun e w'=>e = .returned (.int .i64 (chooseN n m))∧Ext w w':=by
 refine enter Tryz.func20 O 13 O O ?_
 refine CWd (W':=Ws w [] [] []) (fun _ e=>by subst e; exact Ws.init (by simp)) ?_
 refine Cs (Cr (V0 (Ya O) (Ln (Et (Cs (Cs (Cr (V0 (Ym O) (V0 (yl_lt O O) (Ln (Et ?_)))))))))))
 refine Cc O (fun hc0=>?_) (fun hc0=>?_)
 ·
  refine Cr (V0 (Ym O) (V0 (yl_addw O O) (V0 (yl_neg O) (V0 (Ya O) (Ln (Et (Cs (Cr ?_))))))))
  refine V0 (Ym O) (V0 (Ym O) (V0 (yl_rem O O hm) (V0 (Ya O) (Ln (Et (Crt ?_))))))
  refine R1 O O fun w' hw=>?_
  exact ⟨by rw [chooseN,if_pos (by simpa using hc0)],hw.fr⟩
 refine Ck (Et (Cs (Cr (V0 (Ym O) (V0 (Ym O) (V0 (yl_rem O O hm) (V0 (Ya O) (Ln (Et (Crt ?_))))))))))
 refine R1 O O fun w' hw=>?_
 exact ⟨by rw [chooseN,if_neg (by simpa using hc0)],hw.fr⟩
end Go.Proofs.YtpjekjnehiinnaaGreatDoor
end
section
namespace Go.Proofs.YtpjekjnehiinnaaGreatDoor
open Go.Bw
theorem ntC_one (x:Nat):(ntC x).all (·.oneCell')=true:=rfl
theorem gen_zero {u:TUnit} (h:(genM u).2=0):aloneB u=true∧(genM u).1=unitG u∧(unitG u).g.code.length≤2048:=by
 unfold genM at h ⊢
 split at h
 · cases h
 · rename_i h1
   split at h
   · cases h
   · rename_i h2
     rw [if_neg h1,if_neg h2]
     exact ⟨by simpa using h1,O,by omega⟩
theorem gen_not {l:List TUnit} {u:TUnit} (hu:u ∈ l) (h:(genM u).2≠0):((genM u).2==2||!(checkUs l==0))=true:=by
 unfold genM at h ⊢
 split
 · rename_i h1
   cases hc:checkUs l==0 with
   | false=>simp
   | true=>
     have:=alone_of (by simpa using hc) hu
     rw [this] at h1; cases h1
 · split
   · rfl
   · rename_i h1 h2
     rw [if_neg h1,if_neg h2] at h
     exact absurd O h
theorem jump_stays {u:TUnit} (h:aloneB u=true) {i:Nat} {f:FixE} (hf:(unitG u).g.fix[i]? = some f) (hk:f.kind=1):∃(p:Nat) (y:InsG),f.at_=(p:Int)∧(unitG u).g.code[p]? = some y∧∀s ∈ (unitG u).ents++[(unitG u).main],(p<s→y.a<(s:Int))∧(s≤p→(s:Int)≤y.a):=by
 have hr:=unitG_right h
 obtain ⟨fx,h1,h2⟩:=hr.pts.stay
 obtain ⟨c,fx2,a1,a2,_,a4,_⟩:=hr.ap.more
 have h1:(unitG u).g.fix=fx:=by simpa using h1
 have a2:(unitG u).g.fix=fx2:=by simpa using a2
 have hm:=List.mem_of_getElem? hf
 obtain ⟨p,y,k1,k2,_⟩:=a4 f (by rw [←a2]; exact hm)
 exact ⟨p,y,k1,k2,(h2 f (by rw [←h1]; exact hm) p y hk k1 k2).2.2⟩
theorem en20:Enters Tryz.prog 20:=enters_of Tryz.func20 (by kernel_rfl) rfl
theorem en22:Enters Tryz.prog 22:=enters_of Tryz.func22 (by kernel_rfl) rfl
theorem genRight_any (G H:View) (n:Nat) (a:Option Addr) (c:Nat) (l:List TUnit) (z:Int) (w:World) (hG:Le G w) (hz:Laid G) (hH:Le H w) (hl:Sl (rdUn n) 5 H a c l) (hb:∀u ∈ l,wUn u≤1048576) (hzi : -9223372036854775808≤z∧z≤9223372036854775807) :
   Calls Tryz.prog 8 #[.slice a l.length c,.int .i64 z] w fun e w'=>e = .returned (.bool true)∧Ext w w':=by
 have hcap:=hl.cap
 have hmax:=hl.max
 have hbu:∀u ∈ l,u.uses.length≤1048576:=fun u hu=>by
   have h1:=hb u hu
   have h2:=wUn_eq u
   have h3:=wN_len u.uses
   omega
 refine enter Tryz.func8 O 122 O O ?_
 refine CWd (W':=Ws w [] [] [G,H]) (fun _ e=>by subst e; exact Ws.init (by simp [hG,hH])) ?_
 refine Cs (Cr (V0 (Ya O) (Ln (Et (Cs (Cs (Cr (V0 (Ym O) (V0 (Yn es38 O) (V0 (yl_eq O O) ?_))))))))))
 refine Ln (Et ?_)
 refine Cc O (fun hc0=>?_) (fun hc0=>?_)
 ·
  refine Cs (Cr ?_)
  refine Lp Y O en11 O (fun w hw=>genBegun_any G w (hw.vs _ (by simp)) hz) ?_
  refine V0 (Ya O) (Ln (Et (Crt (Er ?_))))
  refine R1 O O fun w' hw=>?_
  exact ⟨O,hw.fr⟩
 have hl0:0<l.length:=by
   have h9:¬((l.length:Int)=0):=by simpa using hc0
   omega
 obtain ⟨j,hj,hcj⟩:=chooseN_nat hzi hl0
 obtain ⟨u,hui⟩:∃u,l[j]? = some u:=⟨_,List.getElem?_eq_getElem hj⟩
 have hum:=List.mem_of_getElem? hui
 obtain ⟨pbu,pou,hau,r,hrow,hu⟩:=hl.elt j u hui
 have hub:=hb u hum
 refine Ck (Et (Cs (Cr (V0 (Ym O) (V0 (Ym O) (V0 (Ym O) (V0 (Yn es38 O) ?_)))))))
 refine Lp Y O en20 O (fun w hw=>choose_any z l.length (by omega) w) ?_
 rw [hcj]
 refine V0 (Yo es38 O O hau hj) (V0 (yl_lda 1 ag26 O O O (hrow)) ?_)
 refine Al Y O zr26 fun b5=>?_
 refine Lst 0 Y O O O sz26 O O O (Ln (Et (Cs ?_)))
 refine Crb 0 (.cells (unitV u r).toArray 26 (0,0)) O O ?_
 refine Cr (V0 (Yda 0 O O ag26 O) ?_)
 refine Ld Y O en9 O (fun r:OAt=>.tuple #[.agg (objV ((genM u).1) r).toArray,.int .i64 ((genM u).2)]) (fun F r=>RdOb F r (genM u).1) (fun w hw=>gen_any H n n u r w (hw.vs _ (by simp)) hu hub) ?_
 intro F26 r26 hf26 h26
 refine V0 (Ym O) (V0 (Yx O O) (V0 (Yx O O) ?_))
 refine Al Y O zr31 fun b6=>?_
 refine Lst 0 Y O O O sz31 O O O (V0 (Ya O) (Ln (Et (Cs (Cs ?_)))))
 refine Crb 0 (.cells (objV (genM u).1 r26).toArray 31 (0,0)) O O ?_
 refine Cr (V0 (Ym O) (V0 (yl_ne O O) (Ln (Et ?_))))
 refine Cc O (fun hc1=>?_) (fun hc1=>?_)
 ·
  have hne:(genM u).2≠0:=by simpa using hc1
  have hgt:=gen_not hum hne
  refine Cs (Cr ?_)
  refine Lp Y O en11 O (fun w hw=>genBegun_any G w (hw.vs _ (by simp)) hz) ?_
  refine V0 (Ym O) ?_
  apply La 7 (x:=((genM u).2==2||!(checkUs l==0))) O O O O Y O O O O O
  ·
   intro hg0
   refine Vg (Ym O) (Vg (yl_eq O O) (Vg (Ym O) ?_))
   apply Lo 3 (x:=!(checkUs l==0)) O O O O (.g O O O) O O O O O
   ·
    intro hg1
    refine Vg (Ym O) ?_
    refine Lp (.g O O O) O en14 O (fun w hw=>vcheck_any H n n a c l w (hw.vs _ (by simp)) (hl.imp fun _ _ _ h=>h) hbu) ?_
    refine Vg (yl_ne O O) ?_
    exact Gt 3 O O O
   exact Gt 4 O O O
  refine V0 (Ya O) (Ln (Et (Crt (Er ?_))))
  refine R1 O O fun w' hw=>?_
  exact ⟨by rw [hgt]; rfl,hw.fr⟩
 have hfc:=h26.fix.cap
 have hfm:=h26.fix.max
 have he0:(genM u).2=0:=by simpa using hc1
 obtain ⟨hal,hgo,hle⟩:=gen_zero he0
 have hchk:checkO (genM u).1.to=0:=by rw [hgo]; exact unit_check hal hle
 have hel:(genM u).1.ents.length=u.parts.length:=by rw [hgo,(unitG_right hal).few]
 have hwu:=wUn_eq u
 have hwp:=wPts_len u.parts
 have hlen:(((genM u).1.ents.length:Nat):Int)=(u.parts.length:Int):=by rw [hel]
 refine Ck (Et (Cs (Cs (Cr (V0 (Yda 0 O O ag31 O) ?_)))))
 refine Lp Y O en22 O (fun w hw=>by
     have h9:=ocheck_any F26 (genM u).1.to r26 w (hw.vs _ (by simp)) (to_rd h26)
     rw [to_V,hchk] at h9
     exact h9) ?_
 refine V0 (yl_neY O O O) (V0 (Ym O) ?_)
 apply Lo 7 (x:=false) O O O O Y O O O O O
 ·
  intro hg2
  refine Vg (Yf fo31_5 O) (Vg (Yd 0 O O O na29) (Vg (Yn es29 O) (Vg (Yf fo26_3 O) (Vg (Yd 1 O O O na23) (Vg (Yn es23 O) ?_)))))
  refine Vg (yl_neY O O hlen) ?_
  exact Gt 7 O O O
 refine Ln (Et ?_)
 refine WC.condf O ?_
 refine Ck (Et (Cs ?_))
 refine CU (fun _=>true) [] [] (.q false 1 (.q true 2 (.q false 4 (.q true 5 (.e 0 (.e 3 (.e 6 (.e 7 (.q false 8 .nil) .stop) .stop) (.e 6 (.e 3 (.e 7 (.q false 8 .nil) .stop) .stop) .stop)) (.e 6 (.e 0 (.e 3 (.e 7 (.q false 8 .nil) .stop) .stop) .stop) .stop)))))) mixed (by kernel_rfl) (fun _ _ _ d _ _ h=>by cases d<;>exact h) ?_
 refine U0 O (fun _ h=>h) (Yf fo31_5 O) (U0 O (fun _ h=>h) (Yd 0 O O O na29) (U0 O (fun _ h=>h) (Yf fo31_6 O) (U0 O (fun _ h=>h) (Yd 0 O O O na3) ?_)))
 refine Ue O (fun _ h=>h) ?_ ?_
 ·
  refine WL.bslice Y O el29 O O O fun b53=>?_
  refine WL.asOsl (size:=1) 0 O (Nat.le_refl 0) (Nat.zero_le _) O ?_
  refine WL.reosl 0 ([]:List Nat).length (([]:List Nat).flatMap ntC) O O O ?_
  refine Ln (Eu ?_)
  refine Ue O (fun _ h=>(Wd 1 h:)) ?_ ?_
  ·
   refine WL.appendL (f:=ntC) (rd:=rdNt) (ys:=(genM u).1.ents) (xs:=[]) 0 (fun _=>F26) Y O el29 O O O (fun w hw=>⟨hw.vs F26 (by simp),h26.ents⟩) (fun _ _ _ _ h=>h) ntC_len ntC_one (by simp; omega) (by simp; omega) fun a56 c56=>?_
   refine Ln (Eu ?_)
   refine Ue O (fun _ h=>(Wd 1 h:)) ?_ WU.stop
   refine Lb Y O el29 O O O O fun b59=>?_
   refine Lrb 0 (.cells (ntC (genM u).1.main).toArray 3 (0,0)) O (O) ?_
   refine Ln (Eu ?_)
   refine Ue O (fun _ h=>(Wd 2 h:)) ?_ WU.stop
   refine LA ((genM u).1.main) 1 0 Y O el29 O O O O O O (by simp; omega) (by simp; omega) fun a60 c60=>?_
   refine Ln (Eu (U0 O (fun _ h=>(Wd 2 h:)) (Ya O) ?_))
   refine WU.nil (fun _ h=>(Wd 2 h:)) ?_
   refine WS.nil ?_
   refine Et (Cs (Cs ?_))
   refine WC.oslview (rd:=rdNt) 1 O ntC_len (fun _ _ _ _ h=>h) fun K hK=>?_
   refine Cr (V0 (Ya O) (Ln (Et (Cb ?_))))
   refine CLk (ι:=Nat) (fun k=>[(9,.int .i64 (k:Int))]) [(6,_),(8,_)] (fun k=>Ws w [] [blk b6 (.cells (objV (genM u).1 r26).toArray 31 (0,0)),blk b5 (.cells (unitV u r).toArray 26 (0,0))] [K,F26,G,H]) (fun k=>k≤(genM u).1.g.fix.length) (fun k=>(genM u).1.g.fix.length-k) 0 (Nat.zero_le _) (sc O (sc O (sc O sn))) (fun _ h=>(Wt 2 ((h.f 2 O).f 2 O):)) ?_
   intro k hk
   refine Cs (Cs (Cr (V0 (Ym O) (V0 (Yf fo31_4 O) (V0 (Yd 0 O O O na28) (V0 (Yn es28 O) (V0 (yl_lt O O) ?_)))))))
   refine Ln (Et ?_)
   refine Cc O (fun hc3=>?_) (fun hc3=>?_)
   ·
    have hKc:((genM u).1.ents++[(genM u).1.main]).length≤c60:=hK.cap
    have hKm:=hK.max
    have hlt:k<(genM u).1.g.fix.length:=by simpa using hc3
    obtain ⟨f,hfi⟩:∃q,(genM u).1.g.fix[k]? = some q:=⟨_,List.getElem?_eq_getElem hlt⟩
    obtain ⟨pbf,pof,haf,hrf⟩:=h26.fix.elt k f hfi
    have hrf:RdC F26 pbf (pof+k*3) f.cells:=hrf
    refine Ck (Et (Cs (Cb (Cs (Cr (V0 (Yf fo31_4 O) (V0 (Yd 0 O O O na28) (V0 (Ym O) (V0 (Yo es28 O O haf hlt) (V0 (yl_lda 1 ag54 O O O (hrf)) ?_))))))))))
    refine Al Y O zr54 fun b10=>?_
    refine Lst 0 Y O O O sz54 O O O (Ln (Et (Cs (Cs ?_))))
    refine Crb 0 (.cells (f.cells).toArray 54 (0,0)) O O ?_
    refine Cr (V0 (Yf fo54_1 O) (V0 (Yd 0 O O O na3) (V0 (yl_ne O O) (Ln (Et ?_)))))
    refine Cc O (fun hc4=>?_) (fun hc4=>?_)
    ·
     refine Ce (Ex (Ebh (Et (Cr (V0 (Ym O) ?_)))))
     refine V0 (Yi O O O (by omega)) ?_
     refine V0 (Ya O) (Ln ?_)
     exact Ea (k+1) (by omega) (by omega) (sc O (sc O (sc O sn))) (fun _ h=>Wd 1 h)
    have hk1:f.kind=1:=by simpa using hc4
    obtain ⟨p,y,hpa,hyi,hst⟩:=jump_stays hal (by rw [←hgo]; exact hfi) hk1
    rw [←hgo] at hyi
    have hpl:=(List.getElem?_eq_some_iff.1 hyi).1
    obtain ⟨pby,poy,hay,hry⟩:=h26.code.elt p y hyi
    have hry:RdC F26 pby (poy+p*3) y.cells:=hry
    have hpt:f.at_.toNat=p:=by omega
    rw [←hpt] at hry
    refine Ck (Et (Cs (Cr (V0 (Yf fo31_3 O) (V0 (Yd 1 O O O na27) (V0 (Yf fo54_0 O) (V0 (Yd 0 O O O na3) ?_)))))))
    refine V0 (yl_iai es27 O O hay (by omega) (by omega)) ?_
    refine V0 (Yf fo56_1 O) (V0 (yl_ld 1 na3 O O (hry 1 _ O)) (V0 (Ya O) (Ln (Et (Cs (Cr (V0 (Ya O) (Ln (Et (Cb ?_))))))))))
    refine CLk (ι:=Nat) (fun i=>[(12,.int .i64 (i:Int))]) [(6,_),(8,_),(9,_),(10,_),(11,_)] (fun i=>Ws w [] [blk b10 (.cells f.cells.toArray 54 (0,0)),blk b6 (.cells (objV (genM u).1 r26).toArray 31 (0,0)),blk b5 (.cells (unitV u r).toArray 26 (0,0))] [K,F26,G,H]) (fun i=>i≤((genM u).1.ents++[(genM u).1.main]).length) (fun i=>((genM u).1.ents++[(genM u).1.main]).length-i) 0 (Nat.zero_le _) (sc O (sc O (sc O (sc O (sc O (sc O sn)))))) (fun _ h=>h) ?_
    intro i hi
    refine Cs (Cs (Cr (V0 (Ym O) (V0 (Ym O) (V0 (Yn es29 O) (V0 (yl_lt O O) (Ln (Et ?_))))))))
    refine Cc O (fun hc5=>?_) (fun hc5=>?_)
    ·
     have hlt:i<((genM u).1.ents++[(genM u).1.main]).length:=by have h9:=hc5; simp at h9 ⊢; omega
     obtain ⟨s,hsi⟩:∃q,((genM u).1.ents++[(genM u).1.main])[i]? = some q:=⟨_,List.getElem?_eq_getElem hlt⟩
     obtain ⟨pbs,pos,has,hrs⟩:=hK.elt i s hsi
     have hrs:RdC K pbs (pos+i*1) (ntC s):=hrs
     obtain ⟨q1,q2⟩:=hst s (by rw [←hgo]; exact List.mem_of_getElem? hsi)
     refine Ck (Et (Cs (Cb (Cs ?_))))
     refine WC.draws0 [(0,true),(1,true),(2,true),(3,true),(4,true),(5,true),(6,true),(7,true),(8,true),(9,true),(10,true),(11,true),(12,true),(13,true),(14,true),(15,true),(16,true),(17,true),(18,true),(19,true),(20,true),(21,true),(22,true),(23,true),(24,true),(25,true),(26,true),(27,true),(28,true),(29,true),(30,true),(31,true)] mixed (by kernel_rfl) (fun _ _ _ d _ h=>by cases d<;>exact h) ?_
     refine D0 O (fun _ h=>h) (Ym O) (D0 O (fun _ h=>h) (Ym O) (D0 O (fun _ h=>h) (Yo es29 O O has hlt) (D0 O (fun _ h=>h) (yl_ld 0 na3 O O (hrs 0 _ O)) (D0 O (fun _ h=>h) (Yf fo54_0 O) (D0 O (fun _ h=>h) (Yd 0 O O O na3) ?_)))))
     refine D0 O (fun _ h=>h) (yl_gt O O) (D0 O (fun _ h=>h) (Ym O) ?_)
     apply WD.and 6 O O O O O Y O (fun _ h=>h) O O O O
     ·
      intro hg3
      refine Dq O (.g O O O) O (fun _ h=>h) (Ym O) ?_
      refine Dq O (.g O O O) O (fun _ h=>h) (Ym O) ?_
      refine Dq O (.g O O O) O (fun _ h=>h) (Ym O) ?_
      refine Dq O (.g O O O) O (fun _ h=>h) (Yo es29 O O has hlt) ?_
      refine Dq O (.g O O O) O (fun _ h=>h) (yl_ld 0 na3 O O (hrs 0 _ O)) ?_
      refine Dq O (.g O O O) O (fun _ h=>h) (yl_ge O O) ?_
      exact Gi 6 (fun _ h=>h) O O O
     refine D0 O (fun _ h=>h) (Ym O) ?_
     apply WD.or 15 O O O O O Y O (fun _ h=>h) O O O O
     ·
      intro hg4
      refine Dq O (.g O O O) O (fun _ h=>h) (Ym O) ?_
      refine Dq O (.g O O O) O (fun _ h=>h) (Ym O) ?_
      refine Dq O (.g O O O) O (fun _ h=>h) (Yo es29 O O has hlt) ?_
      refine Dq O (.g O O O) O (fun _ h=>h) (yl_ld 0 na3 O O (hrs 0 _ O)) ?_
      refine Dq O (.g O O O) O (fun _ h=>h) (Yf fo54_0 O) ?_
      refine Dq O (.g O O O) O (fun _ h=>h) (Yd 0 O O O na3) ?_
      refine Dq O (.g O O O) O (fun _ h=>h) (yl_le O O) ?_
      refine Dq O (.g O O O) O (fun _ h=>h) (Ym O) ?_
      apply WD.and 6 O O O O O (.g O O O) O (fun _ h=>h) O O O O
      ·
       intro hg5
       refine Dq O (.g O O O) O (fun _ h=>h) (Ym O) ?_
       refine Dq O (.g O O O) O (fun _ h=>h) (Ym O) ?_
       refine Dq O (.g O O O) O (fun _ h=>h) (Ym O) ?_
       refine Dq O (.g O O O) O (fun _ h=>h) (Yo es29 O O has hlt) ?_
       refine Dq O (.g O O O) O (fun _ h=>h) (yl_ld 0 na3 O O (hrs 0 _ O)) ?_
       refine Dq O (.g O O O) O (fun _ h=>h) (yl_lt O O) ?_
       exact Gi 6 (fun _ h=>h) O O O
      exact Gi 9 (fun _ h=>h) O O O
     refine WD.nil (fun _ h=>h) ?_
     refine Et ?_
     refine Cc O (fun hc6=>?_) (fun hc6=>?_)
     ·
      have h9:=hc6
      simp only [Bool.or_eq_true,Bool.and_eq_true,decide_eq_true_eq] at h9
      omega
     refine Ck (Eb (Et (Cr (V0 (Ym O) ?_))))
     refine V0 (Yi O O O (by omega)) ?_
     refine V0 (Ya O) (Ln ?_)
     exact Ea (i+1) (by omega) (by omega) (sc O (sc O (sc O (sc O (sc O (sc O sn)))))) (fun _ h=>h)
    refine Ce (Ex (Ex (Ebh (Eb (Et (Cr (V0 (Ym O) ?_)))))))
    refine V0 (Yi O O O (by omega)) ?_
    refine V0 (Ya O) (Ln ?_)
    exact Ea (k+1) (by omega) (by omega) (sc O (sc O (sc O sn))) (fun _ h=>Wd 1 h)
   refine Ce (Ex (Ex (Ebh (Et (Cs (Cr ?_))))))
   refine Lp Y O en11 O (fun w hw=>genBegun_any G w (hw.vs _ (by simp)) hz) ?_
   refine V0 (Ya O) (Ln (Et (Crt ?_)))
   refine R1 O O fun w' hw=>?_
   exact ⟨O,hw.fr⟩
  refine Ue O (fun _ h=>(Wd 1 h:)) ?_ WU.stop
  refine Lb Y O el29 O O O O fun b59=>?_
  refine Lrb 0 (.cells (ntC (genM u).1.main).toArray 3 (0,0)) O (O) ?_
  refine Ln (Eu ?_)
  refine Ue O (fun _ h=>(Wd 2 h:)) ?_ WU.stop
  refine WL.appendL (f:=ntC) (rd:=rdNt) (ys:=(genM u).1.ents) (xs:=[]) 1 (fun _=>F26) Y O el29 O O O (fun w hw=>⟨hw.vs F26 (by simp),h26.ents⟩) (fun _ _ _ _ h=>h) ntC_len ntC_one (by simp; omega) (by simp; omega) fun a56 c56=>?_
  refine Ln (Eu ?_)
  refine Ue O (fun _ h=>(Wd 2 h:)) ?_ WU.stop
  refine LA ((genM u).1.main) 1 0 Y O el29 O O O O O O (by simp; omega) (by simp; omega) fun a60 c60=>?_
  refine Ln (Eu (U0 O (fun _ h=>(Wd 2 h:)) (Ya O) ?_))
  refine WU.nil (fun _ h=>(Wd 2 h:)) ?_
  refine WS.nil ?_
  refine Et (Cs (Cs ?_))
  refine WC.oslview (rd:=rdNt) 1 O ntC_len (fun _ _ _ _ h=>h) fun K hK=>?_
  refine Cr (V0 (Ya O) (Ln (Et (Cb ?_))))
  refine CLk (ι:=Nat) (fun k=>[(9,.int .i64 (k:Int))]) [(6,_),(8,_)] (fun k=>Ws w [] [blk b6 (.cells (objV (genM u).1 r26).toArray 31 (0,0)),blk b5 (.cells (unitV u r).toArray 26 (0,0))] [K,F26,G,H]) (fun k=>k≤(genM u).1.g.fix.length) (fun k=>(genM u).1.g.fix.length-k) 0 (Nat.zero_le _) (sc O (sc O (sc O sn))) (fun _ h=>(Wt 2 ((h.f 2 O).f 2 O):)) ?_
  intro k hk
  refine Cs (Cs (Cr (V0 (Ym O) (V0 (Yf fo31_4 O) (V0 (Yd 0 O O O na28) (V0 (Yn es28 O) (V0 (yl_lt O O) ?_)))))))
  refine Ln (Et ?_)
  refine Cc O (fun hc3=>?_) (fun hc3=>?_)
  ·
   have hKc:((genM u).1.ents++[(genM u).1.main]).length≤c60:=hK.cap
   have hKm:=hK.max
   have hlt:k<(genM u).1.g.fix.length:=by simpa using hc3
   obtain ⟨f,hfi⟩:∃q,(genM u).1.g.fix[k]? = some q:=⟨_,List.getElem?_eq_getElem hlt⟩
   obtain ⟨pbf,pof,haf,hrf⟩:=h26.fix.elt k f hfi
   have hrf:RdC F26 pbf (pof+k*3) f.cells:=hrf
   refine Ck (Et (Cs (Cb (Cs (Cr (V0 (Yf fo31_4 O) (V0 (Yd 0 O O O na28) (V0 (Ym O) (V0 (Yo es28 O O haf hlt) (V0 (yl_lda 1 ag54 O O O (hrf)) ?_))))))))))
   refine Al Y O zr54 fun b10=>?_
   refine Lst 0 Y O O O sz54 O O O (Ln (Et (Cs (Cs ?_))))
   refine Crb 0 (.cells (f.cells).toArray 54 (0,0)) O O ?_
   refine Cr (V0 (Yf fo54_1 O) (V0 (Yd 0 O O O na3) (V0 (yl_ne O O) (Ln (Et ?_)))))
   refine Cc O (fun hc4=>?_) (fun hc4=>?_)
   ·
    refine Ce (Ex (Ebh (Et (Cr (V0 (Ym O) ?_)))))
    refine V0 (Yi O O O (by omega)) ?_
    refine V0 (Ya O) (Ln ?_)
    exact Ea (k+1) (by omega) (by omega) (sc O (sc O (sc O sn))) (fun _ h=>Wd 1 h)
   have hk1:f.kind=1:=by simpa using hc4
   obtain ⟨p,y,hpa,hyi,hst⟩:=jump_stays hal (by rw [←hgo]; exact hfi) hk1
   rw [←hgo] at hyi
   have hpl:=(List.getElem?_eq_some_iff.1 hyi).1
   obtain ⟨pby,poy,hay,hry⟩:=h26.code.elt p y hyi
   have hry:RdC F26 pby (poy+p*3) y.cells:=hry
   have hpt:f.at_.toNat=p:=by omega
   rw [←hpt] at hry
   refine Ck (Et (Cs (Cr (V0 (Yf fo31_3 O) (V0 (Yd 1 O O O na27) (V0 (Yf fo54_0 O) (V0 (Yd 0 O O O na3) ?_)))))))
   refine V0 (yl_iai es27 O O hay (by omega) (by omega)) ?_
   refine V0 (Yf fo56_1 O) (V0 (yl_ld 1 na3 O O (hry 1 _ O)) (V0 (Ya O) (Ln (Et (Cs (Cr (V0 (Ya O) (Ln (Et (Cb ?_))))))))))
   refine CLk (ι:=Nat) (fun i=>[(12,.int .i64 (i:Int))]) [(6,_),(8,_),(9,_),(10,_),(11,_)] (fun i=>Ws w [] [blk b10 (.cells f.cells.toArray 54 (0,0)),blk b6 (.cells (objV (genM u).1 r26).toArray 31 (0,0)),blk b5 (.cells (unitV u r).toArray 26 (0,0))] [K,F26,G,H]) (fun i=>i≤((genM u).1.ents++[(genM u).1.main]).length) (fun i=>((genM u).1.ents++[(genM u).1.main]).length-i) 0 (Nat.zero_le _) (sc O (sc O (sc O (sc O (sc O (sc O sn)))))) (fun _ h=>h) ?_
   intro i hi
   refine Cs (Cs (Cr (V0 (Ym O) (V0 (Ym O) (V0 (Yn es29 O) (V0 (yl_lt O O) (Ln (Et ?_))))))))
   refine Cc O (fun hc5=>?_) (fun hc5=>?_)
   ·
    have hlt:i<((genM u).1.ents++[(genM u).1.main]).length:=by have h9:=hc5; simp at h9 ⊢; omega
    obtain ⟨s,hsi⟩:∃q,((genM u).1.ents++[(genM u).1.main])[i]? = some q:=⟨_,List.getElem?_eq_getElem hlt⟩
    obtain ⟨pbs,pos,has,hrs⟩:=hK.elt i s hsi
    have hrs:RdC K pbs (pos+i*1) (ntC s):=hrs
    obtain ⟨q1,q2⟩:=hst s (by rw [←hgo]; exact List.mem_of_getElem? hsi)
    refine Ck (Et (Cs (Cb (Cs ?_))))
    refine WC.draws0 [(0,true),(1,true),(2,true),(3,true),(4,true),(5,true),(6,true),(7,true),(8,true),(9,true),(10,true),(11,true),(12,true),(13,true),(14,true),(15,true),(16,true),(17,true),(18,true),(19,true),(20,true),(21,true),(22,true),(23,true),(24,true),(25,true),(26,true),(27,true),(28,true),(29,true),(30,true),(31,true)] mixed (by kernel_rfl) (fun _ _ _ d _ h=>by cases d<;>exact h) ?_
    refine D0 O (fun _ h=>h) (Ym O) (D0 O (fun _ h=>h) (Ym O) (D0 O (fun _ h=>h) (Yo es29 O O has hlt) (D0 O (fun _ h=>h) (yl_ld 0 na3 O O (hrs 0 _ O)) (D0 O (fun _ h=>h) (Yf fo54_0 O) (D0 O (fun _ h=>h) (Yd 0 O O O na3) ?_)))))
    refine D0 O (fun _ h=>h) (yl_gt O O) (D0 O (fun _ h=>h) (Ym O) ?_)
    apply WD.and 6 O O O O O Y O (fun _ h=>h) O O O O
    ·
     intro hg3
     refine Dq O (.g O O O) O (fun _ h=>h) (Ym O) ?_
     refine Dq O (.g O O O) O (fun _ h=>h) (Ym O) ?_
     refine Dq O (.g O O O) O (fun _ h=>h) (Ym O) ?_
     refine Dq O (.g O O O) O (fun _ h=>h) (Yo es29 O O has hlt) ?_
     refine Dq O (.g O O O) O (fun _ h=>h) (yl_ld 0 na3 O O (hrs 0 _ O)) ?_
     refine Dq O (.g O O O) O (fun _ h=>h) (yl_ge O O) ?_
     exact Gi 6 (fun _ h=>h) O O O
    refine D0 O (fun _ h=>h) (Ym O) ?_
    apply WD.or 15 O O O O O Y O (fun _ h=>h) O O O O
    ·
     intro hg4
     refine Dq O (.g O O O) O (fun _ h=>h) (Ym O) ?_
     refine Dq O (.g O O O) O (fun _ h=>h) (Ym O) ?_
     refine Dq O (.g O O O) O (fun _ h=>h) (Yo es29 O O has hlt) ?_
     refine Dq O (.g O O O) O (fun _ h=>h) (yl_ld 0 na3 O O (hrs 0 _ O)) ?_
     refine Dq O (.g O O O) O (fun _ h=>h) (Yf fo54_0 O) ?_
     refine Dq O (.g O O O) O (fun _ h=>h) (Yd 0 O O O na3) ?_
     refine Dq O (.g O O O) O (fun _ h=>h) (yl_le O O) ?_
     refine Dq O (.g O O O) O (fun _ h=>h) (Ym O) ?_
     apply WD.and 6 O O O O O (.g O O O) O (fun _ h=>h) O O O O
     ·
      intro hg5
      refine Dq O (.g O O O) O (fun _ h=>h) (Ym O) ?_
      refine Dq O (.g O O O) O (fun _ h=>h) (Ym O) ?_
      refine Dq O (.g O O O) O (fun _ h=>h) (Ym O) ?_
      refine Dq O (.g O O O) O (fun _ h=>h) (Yo es29 O O has hlt) ?_
      refine Dq O (.g O O O) O (fun _ h=>h) (yl_ld 0 na3 O O (hrs 0 _ O)) ?_
      refine Dq O (.g O O O) O (fun _ h=>h) (yl_lt O O) ?_
      exact Gi 6 (fun _ h=>h) O O O
     exact Gi 9 (fun _ h=>h) O O O
    refine WD.nil (fun _ h=>h) ?_
    refine Et ?_
    refine Cc O (fun hc6=>?_) (fun hc6=>?_)
    ·
     have h9:=hc6
     simp only [Bool.or_eq_true,Bool.and_eq_true,decide_eq_true_eq] at h9
     omega
    refine Ck (Eb (Et (Cr (V0 (Ym O) ?_))))
    refine V0 (Yi O O O (by omega)) ?_
    refine V0 (Ya O) (Ln ?_)
    exact Ea (i+1) (by omega) (by omega) (sc O (sc O (sc O (sc O (sc O (sc O sn)))))) (fun _ h=>h)
   refine Ce (Ex (Ex (Ebh (Eb (Et (Cr (V0 (Ym O) ?_)))))))
   refine V0 (Yi O O O (by omega)) ?_
   refine V0 (Ya O) (Ln ?_)
   exact Ea (k+1) (by omega) (by omega) (sc O (sc O (sc O sn))) (fun _ h=>Wd 1 h)
  refine Ce (Ex (Ex (Ebh (Et (Cs (Cr ?_))))))
  refine Lp Y O en11 O (fun w hw=>genBegun_any G w (hw.vs _ (by simp)) hz) ?_
  refine V0 (Ya O) (Ln (Et (Crt ?_)))
  refine R1 O O fun w' hw=>?_
  exact ⟨O,hw.fr⟩
 refine Ue O (fun _ h=>h) ?_ WU.stop
 refine Lb Y O el29 O O O O fun b59=>?_
 refine Lrb 0 (.cells (ntC (genM u).1.main).toArray 3 (0,0)) O (O) ?_
 refine Ln (Eu ?_)
 refine Ue O (fun _ h=>(Wd 1 h:)) ?_ WU.stop
 refine WL.bslice Y O el29 O O O fun b53=>?_
 refine WL.asOsl (size:=1) 0 O (Nat.le_refl 0) (Nat.zero_le _) O ?_
 refine WL.reosl 0 ([]:List Nat).length (([]:List Nat).flatMap ntC) O O O ?_
 refine Ln (Eu ?_)
 refine Ue O (fun _ h=>(Wd 2 h:)) ?_ WU.stop
 refine WL.appendL (f:=ntC) (rd:=rdNt) (ys:=(genM u).1.ents) (xs:=[]) 0 (fun _=>F26) Y O el29 O O O (fun w hw=>⟨hw.vs F26 (by simp),h26.ents⟩) (fun _ _ _ _ h=>h) ntC_len ntC_one (by simp; omega) (by simp; omega) fun a56 c56=>?_
 refine Ln (Eu ?_)
 refine Ue O (fun _ h=>(Wd 2 h:)) ?_ WU.stop
 refine LA ((genM u).1.main) 0 1 Y O el29 O O O O O O (by simp; omega) (by simp; omega) fun a60 c60=>?_
 refine Ln (Eu (U0 O (fun _ h=>(Wd 2 h:)) (Ya O) ?_))
 refine WU.nil (fun _ h=>(Wd 2 h:)) ?_
 refine WS.nil ?_
 refine Et (Cs (Cs ?_))
 refine WC.oslview (rd:=rdNt) 0 O ntC_len (fun _ _ _ _ h=>h) fun K hK=>?_
 refine Cr (V0 (Ya O) (Ln (Et (Cb ?_))))
 refine CLk (ι:=Nat) (fun k=>[(9,.int .i64 (k:Int))]) [(6,_),(8,_)] (fun k=>Ws w [] [blk b6 (.cells (objV (genM u).1 r26).toArray 31 (0,0)),blk b5 (.cells (unitV u r).toArray 26 (0,0))] [K,F26,G,H]) (fun k=>k≤(genM u).1.g.fix.length) (fun k=>(genM u).1.g.fix.length-k) 0 (Nat.zero_le _) (sc O (sc O (sc O sn))) (fun _ h=>(Wt 2 ((h.f 2 O).f 2 O):)) ?_
 intro k hk
 refine Cs (Cs (Cr (V0 (Ym O) (V0 (Yf fo31_4 O) (V0 (Yd 0 O O O na28) (V0 (Yn es28 O) (V0 (yl_lt O O) ?_)))))))
 refine Ln (Et ?_)
 refine Cc O (fun hc3=>?_) (fun hc3=>?_)
 ·
  have hKc:((genM u).1.ents++[(genM u).1.main]).length≤c60:=hK.cap
  have hKm:=hK.max
  have hlt:k<(genM u).1.g.fix.length:=by simpa using hc3
  obtain ⟨f,hfi⟩:∃q,(genM u).1.g.fix[k]? = some q:=⟨_,List.getElem?_eq_getElem hlt⟩
  obtain ⟨pbf,pof,haf,hrf⟩:=h26.fix.elt k f hfi
  have hrf:RdC F26 pbf (pof+k*3) f.cells:=hrf
  refine Ck (Et (Cs (Cb (Cs (Cr (V0 (Yf fo31_4 O) (V0 (Yd 0 O O O na28) (V0 (Ym O) (V0 (Yo es28 O O haf hlt) (V0 (yl_lda 1 ag54 O O O (hrf)) ?_))))))))))
  refine Al Y O zr54 fun b10=>?_
  refine Lst 0 Y O O O sz54 O O O (Ln (Et (Cs (Cs ?_))))
  refine Crb 0 (.cells (f.cells).toArray 54 (0,0)) O O ?_
  refine Cr (V0 (Yf fo54_1 O) (V0 (Yd 0 O O O na3) (V0 (yl_ne O O) (Ln (Et ?_)))))
  refine Cc O (fun hc4=>?_) (fun hc4=>?_)
  ·
   refine Ce (Ex (Ebh (Et (Cr (V0 (Ym O) ?_)))))
   refine V0 (Yi O O O (by omega)) ?_
   refine V0 (Ya O) (Ln ?_)
   exact Ea (k+1) (by omega) (by omega) (sc O (sc O (sc O sn))) (fun _ h=>Wd 1 h)
  have hk1:f.kind=1:=by simpa using hc4
  obtain ⟨p,y,hpa,hyi,hst⟩:=jump_stays hal (by rw [←hgo]; exact hfi) hk1
  rw [←hgo] at hyi
  have hpl:=(List.getElem?_eq_some_iff.1 hyi).1
  obtain ⟨pby,poy,hay,hry⟩:=h26.code.elt p y hyi
  have hry:RdC F26 pby (poy+p*3) y.cells:=hry
  have hpt:f.at_.toNat=p:=by omega
  rw [←hpt] at hry
  refine Ck (Et (Cs (Cr (V0 (Yf fo31_3 O) (V0 (Yd 1 O O O na27) (V0 (Yf fo54_0 O) (V0 (Yd 0 O O O na3) ?_)))))))
  refine V0 (yl_iai es27 O O hay (by omega) (by omega)) ?_
  refine V0 (Yf fo56_1 O) (V0 (yl_ld 1 na3 O O (hry 1 _ O)) (V0 (Ya O) (Ln (Et (Cs (Cr (V0 (Ya O) (Ln (Et (Cb ?_))))))))))
  refine CLk (ι:=Nat) (fun i=>[(12,.int .i64 (i:Int))]) [(6,_),(8,_),(9,_),(10,_),(11,_)] (fun i=>Ws w [] [blk b10 (.cells f.cells.toArray 54 (0,0)),blk b6 (.cells (objV (genM u).1 r26).toArray 31 (0,0)),blk b5 (.cells (unitV u r).toArray 26 (0,0))] [K,F26,G,H]) (fun i=>i≤((genM u).1.ents++[(genM u).1.main]).length) (fun i=>((genM u).1.ents++[(genM u).1.main]).length-i) 0 (Nat.zero_le _) (sc O (sc O (sc O (sc O (sc O (sc O sn)))))) (fun _ h=>h) ?_
  intro i hi
  refine Cs (Cs (Cr (V0 (Ym O) (V0 (Ym O) (V0 (Yn es29 O) (V0 (yl_lt O O) (Ln (Et ?_))))))))
  refine Cc O (fun hc5=>?_) (fun hc5=>?_)
  ·
   have hlt:i<((genM u).1.ents++[(genM u).1.main]).length:=by have h9:=hc5; simp at h9 ⊢; omega
   obtain ⟨s,hsi⟩:∃q,((genM u).1.ents++[(genM u).1.main])[i]? = some q:=⟨_,List.getElem?_eq_getElem hlt⟩
   obtain ⟨pbs,pos,has,hrs⟩:=hK.elt i s hsi
   have hrs:RdC K pbs (pos+i*1) (ntC s):=hrs
   obtain ⟨q1,q2⟩:=hst s (by rw [←hgo]; exact List.mem_of_getElem? hsi)
   refine Ck (Et (Cs (Cb (Cs ?_))))
   refine WC.draws0 [(0,true),(1,true),(2,true),(3,true),(4,true),(5,true),(6,true),(7,true),(8,true),(9,true),(10,true),(11,true),(12,true),(13,true),(14,true),(15,true),(16,true),(17,true),(18,true),(19,true),(20,true),(21,true),(22,true),(23,true),(24,true),(25,true),(26,true),(27,true),(28,true),(29,true),(30,true),(31,true)] mixed (by kernel_rfl) (fun _ _ _ d _ h=>by cases d<;>exact h) ?_
   refine D0 O (fun _ h=>h) (Ym O) (D0 O (fun _ h=>h) (Ym O) (D0 O (fun _ h=>h) (Yo es29 O O has hlt) (D0 O (fun _ h=>h) (yl_ld 0 na3 O O (hrs 0 _ O)) (D0 O (fun _ h=>h) (Yf fo54_0 O) (D0 O (fun _ h=>h) (Yd 0 O O O na3) ?_)))))
   refine D0 O (fun _ h=>h) (yl_gt O O) (D0 O (fun _ h=>h) (Ym O) ?_)
   apply WD.and 6 O O O O O Y O (fun _ h=>h) O O O O
   ·
    intro hg3
    refine Dq O (.g O O O) O (fun _ h=>h) (Ym O) ?_
    refine Dq O (.g O O O) O (fun _ h=>h) (Ym O) ?_
    refine Dq O (.g O O O) O (fun _ h=>h) (Ym O) ?_
    refine Dq O (.g O O O) O (fun _ h=>h) (Yo es29 O O has hlt) ?_
    refine Dq O (.g O O O) O (fun _ h=>h) (yl_ld 0 na3 O O (hrs 0 _ O)) ?_
    refine Dq O (.g O O O) O (fun _ h=>h) (yl_ge O O) ?_
    exact Gi 6 (fun _ h=>h) O O O
   refine D0 O (fun _ h=>h) (Ym O) ?_
   apply WD.or 15 O O O O O Y O (fun _ h=>h) O O O O
   ·
    intro hg4
    refine Dq O (.g O O O) O (fun _ h=>h) (Ym O) ?_
    refine Dq O (.g O O O) O (fun _ h=>h) (Ym O) ?_
    refine Dq O (.g O O O) O (fun _ h=>h) (Yo es29 O O has hlt) ?_
    refine Dq O (.g O O O) O (fun _ h=>h) (yl_ld 0 na3 O O (hrs 0 _ O)) ?_
    refine Dq O (.g O O O) O (fun _ h=>h) (Yf fo54_0 O) ?_
    refine Dq O (.g O O O) O (fun _ h=>h) (Yd 0 O O O na3) ?_
    refine Dq O (.g O O O) O (fun _ h=>h) (yl_le O O) ?_
    refine Dq O (.g O O O) O (fun _ h=>h) (Ym O) ?_
    apply WD.and 6 O O O O O (.g O O O) O (fun _ h=>h) O O O O
    ·
     intro hg5
     refine Dq O (.g O O O) O (fun _ h=>h) (Ym O) ?_
     refine Dq O (.g O O O) O (fun _ h=>h) (Ym O) ?_
     refine Dq O (.g O O O) O (fun _ h=>h) (Ym O) ?_
     refine Dq O (.g O O O) O (fun _ h=>h) (Yo es29 O O has hlt) ?_
     refine Dq O (.g O O O) O (fun _ h=>h) (yl_ld 0 na3 O O (hrs 0 _ O)) ?_
     refine Dq O (.g O O O) O (fun _ h=>h) (yl_lt O O) ?_
     exact Gi 6 (fun _ h=>h) O O O
    exact Gi 9 (fun _ h=>h) O O O
   refine WD.nil (fun _ h=>h) ?_
   refine Et ?_
   refine Cc O (fun hc6=>?_) (fun hc6=>?_)
   ·
    have h9:=hc6
    simp only [Bool.or_eq_true,Bool.and_eq_true,decide_eq_true_eq] at h9
    omega
   refine Ck (Eb (Et (Cr (V0 (Ym O) ?_))))
   refine V0 (Yi O O O (by omega)) ?_
   refine V0 (Ya O) (Ln ?_)
   exact Ea (i+1) (by omega) (by omega) (sc O (sc O (sc O (sc O (sc O (sc O sn)))))) (fun _ h=>h)
  refine Ce (Ex (Ex (Ebh (Eb (Et (Cr (V0 (Ym O) ?_)))))))
  refine V0 (Yi O O O (by omega)) ?_
  refine V0 (Ya O) (Ln ?_)
  exact Ea (k+1) (by omega) (by omega) (sc O (sc O (sc O sn))) (fun _ h=>Wd 1 h)
 refine Ce (Ex (Ex (Ebh (Et (Cs (Cr ?_))))))
 refine Lp Y O en11 O (fun w hw=>genBegun_any G w (hw.vs _ (by simp)) hz) ?_
 refine V0 (Ya O) (Ln (Et (Crt ?_)))
 refine R1 O O fun w' hw=>?_
 exact ⟨O,hw.fr⟩
end Go.Proofs.YtpjekjnehiinnaaGreatDoor
end
