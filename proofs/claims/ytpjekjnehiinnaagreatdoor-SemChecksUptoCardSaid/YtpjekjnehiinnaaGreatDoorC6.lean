/- SemChecks: Check answers what the document says, whatever it is handed (proved in the second form, bulk at most 1048576). -/
import Derived.Test.YtpjekjnehiinnaaGreatDoorC5
set_option linter.unusedVariables false
set_option linter.unusedSimpArgs false
section
namespace Go.Proofs.YtpjekjnehiinnaaGreatDoor
open Go.Bw
set_option linter.unusedVariables false
set_option linter.unusedSimpArgs false
theorem v0_lew (w:World):Le v0 w:=fun b o h=>by simp [v0] at h
def resT (R:Res):Int×List Int×List Int×Int:=(R.fin,R.out,R.data,R.ticks)
theorem res_of {R:Res} {a:Int} {b c:List Int} {t:Int} (h:resT R=(a,b,c,t)):R=⟨a,b,c,t⟩:=by
 obtain ⟨_,_,_,_⟩:=R
 simp only [resT,Prod.mk.injEq] at h
 obtain ⟨rfl,rfl,rfl,rfl⟩:=h
 rfl
theorem sem_prog:∃(pu:List TUnit) (R2 R3:Res),pu=progU∧pu.length=2∧(∀u ∈ pu,u.uses.length≤1048576)∧checkUs pu=0∧runE pu [1] 9=0∧runR pu [1] 9=⟨0,[6,7],[6,0,6,0,0],6⟩∧runE pu [4] 9=0∧runR pu [4] 9=R2∧R2.fin=2∧R2.out=[]∧runE pu [] 4=0∧runR pu [] 4=R3∧R3.fin=3∧R3.ticks=4:=
 ⟨progU,_,_,rfl,by decide +kernel,by decide +kernel,by decide +kernel,by decide +kernel,res_of (by decide +kernel),by decide +kernel,rfl,by decide +kernel,by decide +kernel,by decide +kernel,rfl,by decide +kernel,by decide +kernel⟩
theorem en29:Enters Tryz.prog 29:=enters_of Tryz.func29 (by kernel_rfl) rfl
theorem en16:Enters Tryz.prog 16:=enters_of Tryz.func16 (by kernel_rfl) rfl
theorem en19:Enters Tryz.prog 19:=enters_of Tryz.func19 (by kernel_rfl) rfl
theorem sameInts_n1 (H1 H2:View) (a1 a2:Option Addr) (c1 c2:Nat) (l:List Int) (w:World) (hH1:Le H1 w) (hH2:Le H2 w) (hm1:Sl rdN1 1 H1 a1 c1 l) (hm2:Sl rdN1 1 H2 a2 c2 l) :
   Calls Tryz.prog 21 #[.slice a1 l.length c1,.slice a2 l.length c2] w fun e w'=>e = .returned (.bool true)∧Ext w w':=by
 have hcap1:=hm1.cap
 have hmax1:=hm1.max
 have hcap2:=hm2.cap
 have hmax2:=hm2.max
 refine enter Tryz.func21 rfl 26 rfl rfl ?_
 refine CWd (W':=Ws w [] [] [H1,H2]) (fun _ e=>by subst e; exact Ws.init (by simp [hH1,hH2])) ?_
 refine Cs (Cr (V0 (Ya rfl) (Ln (Et (Cs (Cs (Cr (V0 (Ym rfl) (V0 (Yn es29 rfl) (V0 (Ym rfl) ?_))))))))))
 refine V0 (Yn es29 rfl) (V0 (yl_neY rfl rfl rfl) (Ln (Et ?_)))
 refine WC.condf rfl ?_
 refine Ck (Et (Cs (Cs (Cr (V0 (Ya rfl) (Ln (Et (Cb ?_))))))))
 refine CW (ι:=Nat) (fun i=>[(5,.int .i64 (i:Int))]) [(0,_),(1,_)] (fun i=>i≤l.length) (fun i=>l.length-i) 0 (Nat.zero_le _) (sc rfl (sc rfl (sc rfl sn))) ?_
 intro i hi
 refine Cs (Cs (Cr (V0 (Ym rfl) (V0 (Ym rfl) (V0 (Yn es29 rfl) (V0 (yl_lt rfl rfl) (Ln (Et ?_))))))))
 refine Cc rfl (fun hc1=>?_) (fun hc1=>?_)
 ·
  have hlt:i<l.length:=by simpa using hc1
  obtain ⟨x,hx⟩:∃x,l[i]? = some x:=⟨_,List.getElem?_eq_getElem hlt⟩
  obtain ⟨pb,po,ha1,hr1⟩:=hm1.elt i x hx
  obtain ⟨qb,qo,ha2,hr2⟩:=hm2.elt i x hx
  have hr1:RdC H1 pb (po+i*1) (n1C x):=hr1
  have hr2:RdC H2 qb (qo+i*1) (n1C x):=hr2
  refine Ck (Et (Cs (Cb (Cs ?_))))
  refine WC.draws0 [(0,true),(1,true),(2,true),(3,true),(4,true),(5,true),(6,true),(7,true),(8,true)] mixed (by kernel_rfl) (fun _ _ _ d _ h=>by cases d<;>exact h) ?_
  refine Dq rfl (.inl rfl) rfl (fun _ h=>h) (Ym rfl) ?_
  refine Dq rfl (.inl rfl) rfl (fun _ h=>h) (Ym rfl) ?_
  refine Dq rfl (.inl rfl) rfl (fun _ h=>h) (Yo es29 rfl rfl ha1 (by omega)) ?_
  refine Dq rfl (.inl rfl) rfl (fun _ h=>h) (yl_ld 0 na3 rfl rfl (hr1 0 _ rfl)) ?_
  refine Dq rfl (.inl rfl) rfl (fun _ h=>h) (Ym rfl) ?_
  refine Dq rfl (.inl rfl) rfl (fun _ h=>h) (Ym rfl) ?_
  refine Dq rfl (.inl rfl) rfl (fun _ h=>h) (Yo es29 rfl rfl ha2 (by omega)) ?_
  refine Dq rfl (.inl rfl) rfl (fun _ h=>h) (yl_ld 1 na3 rfl rfl (hr2 0 _ rfl)) ?_
  refine Dq rfl (.inl rfl) rfl (fun _ h=>h) (yl_neY rfl rfl rfl) ?_
  refine WD.nil (fun _ h=>h) ?_
  refine Et ?_
  refine WC.condf rfl ?_
  refine Ck (Eb (Et (Cr (V0 (Ym rfl) ?_))))
  refine V0 (Yi rfl rfl rfl (by omega)) ?_
  refine V0 (Ya rfl) (Ln ?_)
  exact Ea (i+1) (by omega) (by omega) (sc rfl (sc rfl (sc rfl sn))) (fun _ h=>h)
 ·
  refine Ce (Ex (Ex (Ebh (Et (Cs (Cr (V0 (Ya rfl) (Ln (Et (Crt ?_))))))))))
  refine WE.ret1 rfl rfl fun w' hw=>?_
  exact ⟨rfl,hw.fr⟩
theorem sameRes_eq (H1 H2:View) (R R2:Res) (hRR:R=R2) (r1 r2:SP×SP) (w:World) (hH1:Le H1 w) (hH2:Le H2 w) (h1:Sl rdN1 1 H1 r1.1.1 r1.1.2 R.out∧Sl rdN1 1 H1 r1.2.1 r1.2.2 R.data) (h2:Sl rdN1 1 H2 r2.1.1 r2.1.2 R2.out∧Sl rdN1 1 H2 r2.2.1 r2.2.2 R2.data) :
   Calls Tryz.prog 19 #[.agg #[.int .i64 R.fin,.slice r1.1.1 R.out.length r1.1.2,.slice r1.2.1 R.data.length r1.2.2,.int .i64 R.ticks],.agg #[.int .i64 R2.fin,.slice r2.1.1 R2.out.length r2.1.2,.slice r2.2.1 R2.data.length r2.2.2,.int .i64 R2.ticks]] w fun e w'=>e = .returned (.bool true)∧Ext w w':=by
 subst hRR
 refine enter Tryz.func19 rfl 31 rfl rfl ?_
 refine CWd (W':=Ws w [] [] [H1,H2]) (fun _ e=>by subst e; exact Ws.init (by simp [hH1,hH2])) ?_
 refine Cs (Cr ?_)
 refine WL.box (.inl rfl) rfl rfl fun b2=>?_
 refine WL.box (.inl rfl) rfl rfl fun b3=>?_
 refine V0 (Ya rfl) (Ln (Et (Cs (Cr (V0 (Yf fo42_0 rfl) (V0 (Yd 1 rfl rfl rfl na3) (V0 (Yf fo42_0 rfl) (V0 (Yd 0 rfl rfl rfl na3) ?_))))))))
 refine V0 (yl_eqiY rfl rfl rfl) (V0 (Ym rfl) ?_)
 apply WL.and 5 (x:=true) rfl rfl rfl rfl (.inl rfl) rfl rfl rfl rfl rfl
 ·
  intro hg0
  refine Lv (.g rfl rfl rfl) rfl (Yf fo42_3 rfl) (Lv (.g rfl rfl rfl) rfl (Yd 1 rfl rfl rfl na3) (Lv (.g rfl rfl rfl) rfl (Yf fo42_3 rfl) (Lv (.g rfl rfl rfl) rfl (Yd 0 rfl rfl rfl na3) (Lv (.g rfl rfl rfl) rfl (yl_eqiY rfl rfl rfl) ?_))))
  exact Gt 5 rfl rfl rfl
 refine V0 (Ym rfl) ?_
 apply WL.and 5 (x:=true) rfl rfl rfl rfl (.inl rfl) rfl rfl rfl rfl rfl
 ·
  intro hg1
  refine Lv (.g rfl rfl rfl) rfl (Yf fo42_1 rfl) (Lv (.g rfl rfl rfl) rfl (Yd 1 rfl rfl rfl na29) (Lv (.g rfl rfl rfl) rfl (Yf fo42_1 rfl) (Lv (.g rfl rfl rfl) rfl (Yd 0 rfl rfl rfl na29) ?_)))
  refine Lp (.g rfl rfl rfl) rfl en21 rfl (fun w hw=>sameInts_n1 H1 H2 r1.1.1 r2.1.1 r1.1.2 r2.1.2 R.out w (hw.vs _ (by simp)) (hw.vs _ (by simp)) h1.1 h2.1) ?_
  exact Gt 5 rfl rfl rfl
 refine V0 (Ym rfl) ?_
 apply WL.and 5 (x:=true) rfl rfl rfl rfl (.inl rfl) rfl rfl rfl rfl rfl
 ·
  intro hg2
  refine Lv (.g rfl rfl rfl) rfl (Yf fo42_2 rfl) (Lv (.g rfl rfl rfl) rfl (Yd 1 rfl rfl rfl na29) (Lv (.g rfl rfl rfl) rfl (Yf fo42_2 rfl) (Lv (.g rfl rfl rfl) rfl (Yd 0 rfl rfl rfl na29) ?_)))
  refine Lp (.g rfl rfl rfl) rfl en21 rfl (fun w hw=>sameInts_n1 H1 H2 r1.2.1 r2.2.1 r1.2.2 r2.2.2 R.data w (hw.vs _ (by simp)) (hw.vs _ (by simp)) h1.2 h2.2) ?_
  exact Gt 5 rfl rfl rfl
 refine V0 (Ya rfl) (Ln (Et (Crt ?_)))
 refine WE.ret1 rfl rfl fun w' hw=>?_
 exact ⟨rfl,hw.fr⟩
theorem semBegun_any (G:View) (w:World) (hG:Le G w) (hz:Laid G) :
   Calls Tryz.prog 13 #[] w fun e w'=>e = .returned (.bool true)∧Ext w w':=by
 refine enter Tryz.func13 rfl 71 rfl rfl ?_
 refine CWd (W':=Ws w [] [] [G]) (fun _ e=>by subst e; exact Ws.init (by simp [hG])) ?_
 refine Cs (Cr (V0 (Ya rfl) (Ln (Et (Cs ?_)))))
 obtain ⟨pu,R2,R3,hpu,hpl,hpb,hck,hE1,hR1,hE2,hR2,hf2,ho2,hE3,hR3,hf3,ht3⟩:=sem_prog
 refine Cr ?_
 refine Ld (.inl rfl) rfl en29 rfl (fun q:SP=>.slice q.1 2 q.2) (fun F q=>Sl (rdUn 8) 5 F q.1 q.2 pu) (fun w hw=>(program_any G w (hw.vs _ (by simp)) hz).mono fun e w' ⟨q,h1,h2,h3⟩=>⟨q,h1,h2,by rw [hpu]; exact h3.imp fun b o u ⟨r,h4,h5⟩=>⟨r,h4,h5.uses,h5.parts.imp fun b o x h=>RdPt_mono (VLe.refl _) (Nat.le_refl _) (by decide) b o x h,h5.main.imp fun b o x h=>RdA_mono (VLe.refl _) (Nat.le_refl _) (by decide) b o x h⟩⟩) ?_
 intro F8 r8 hf8 h8
 refine Lb (.inl rfl) rfl el29 rfl rfl rfl rfl fun b9=>?_
 refine Lrb 0 (.cells ((([1]:List Int)).flatMap n1C).toArray 3 (0,0)) rfl rfl ?_
 refine LW (fun _ h=>h.osT_blk (f:=n1C) (xs:=([1]:List Int)) (c:=1) 0 rfl n1C_len rfl (by decide)) ?_
 refine WL.oslview (rd:=rdN1) 0 rfl n1C_len (fun _ _ _ _ h=>h) fun H9 hH9=>?_
 refine Ld (.inl rfl) rfl en16 rfl (fun r:SP×SP=>.tuple #[.agg #[.int .i64 (⟨0,[6,7],[6,0,6,0,0],6⟩:Res).fin,.slice r.1.1 (⟨0,[6,7],[6,0,6,0,0],6⟩:Res).out.length r.1.2,.slice r.2.1 (⟨0,[6,7],[6,0,6,0,0],6⟩:Res).data.length r.2.2,.int .i64 (⟨0,[6,7],[6,0,6,0,0],6⟩:Res).ticks],.int .i64 0]) (fun F r=>Sl rdN1 1 F r.1.1 r.1.2 (⟨0,[6,7],[6,0,6,0,0],6⟩:Res).out∧Sl rdN1 1 F r.2.1 r.2.2 (⟨0,[6,7],[6,0,6,0,0],6⟩:Res).data) (fun w hw=>by
     have h9:=semRun_any F8 8 r8.1 r8.2 pu H9 (some ⟨b9,0,none⟩) 1 [1] 9 w (hw.vs _ (by simp)) h8 hpb (hw.vs _ (by simp)) hH9
     rw [hpl,hE1,hR1] at h9
     exact h9) ?_
 intro F10 r10 hf10 h10
 refine V0 (Ym rfl) (V0 (Yx rfl rfl) (V0 (Yx rfl rfl) ?_))
 refine WL.alloc (.inl rfl) rfl zr42 fun b1=>?_
 refine Lst 0 (.inl rfl) rfl rfl rfl sz42 rfl rfl rfl (V0 (Ya rfl) (Ln (Et (Cs (Cr ?_)))))
 refine Ld (.inl rfl) rfl en29 rfl (fun q:SP=>.slice q.1 2 q.2) (fun F q=>Sl (rdUn 8) 5 F q.1 q.2 pu) (fun w hw=>(program_any G w (hw.vs _ (by simp)) hz).mono fun e w' ⟨q,h1,h2,h3⟩=>⟨q,h1,h2,by rw [hpu]; exact h3.imp fun b o u ⟨r,h4,h5⟩=>⟨r,h4,h5.uses,h5.parts.imp fun b o x h=>RdPt_mono (VLe.refl _) (Nat.le_refl _) (by decide) b o x h,h5.main.imp fun b o x h=>RdA_mono (VLe.refl _) (Nat.le_refl _) (by decide) b o x h⟩⟩) ?_
 intro F14 r14 hf14 h14
 refine Lb (.inl rfl) rfl el29 rfl rfl rfl rfl fun b15=>?_
 refine Lrb 0 (.cells ((([4]:List Int)).flatMap n1C).toArray 3 (0,0)) rfl rfl ?_
 refine LW (fun _ h=>h.osT_blk (f:=n1C) (xs:=([4]:List Int)) (c:=1) 0 rfl n1C_len rfl (by decide)) ?_
 refine WL.oslview (rd:=rdN1) 0 rfl n1C_len (fun _ _ _ _ h=>h) fun H15 hH15=>?_
 refine Ld (.inl rfl) rfl en16 rfl (fun r:SP×SP=>.tuple #[.agg #[.int .i64 R2.fin,.slice r.1.1 R2.out.length r.1.2,.slice r.2.1 R2.data.length r.2.2,.int .i64 R2.ticks],.int .i64 0]) (fun F r=>Sl rdN1 1 F r.1.1 r.1.2 R2.out∧Sl rdN1 1 F r.2.1 r.2.2 R2.data) (fun w hw=>by
     have h9:=semRun_any F14 8 r14.1 r14.2 pu H15 (some ⟨b15,0,none⟩) 1 [4] 9 w (hw.vs _ (by simp)) h14 hpb (hw.vs _ (by simp)) hH15
     rw [hpl,hE2,hR2] at h9
     exact h9) ?_
 intro F16 r16 hf16 h16
 refine V0 (Ym rfl) (V0 (Yx rfl rfl) (V0 (Yx rfl rfl) ?_))
 refine WL.alloc (.inl rfl) rfl zr42 fun b3=>?_
 refine Lst 0 (.inl rfl) rfl rfl rfl sz42 rfl rfl rfl (V0 (Ya rfl) (Ln (Et (Cs (Cr ?_)))))
 refine Ld (.inl rfl) rfl en29 rfl (fun q:SP=>.slice q.1 2 q.2) (fun F q=>Sl (rdUn 8) 5 F q.1 q.2 pu) (fun w hw=>(program_any G w (hw.vs _ (by simp)) hz).mono fun e w' ⟨q,h1,h2,h3⟩=>⟨q,h1,h2,by rw [hpu]; exact h3.imp fun b o u ⟨r,h4,h5⟩=>⟨r,h4,h5.uses,h5.parts.imp fun b o x h=>RdPt_mono (VLe.refl _) (Nat.le_refl _) (by decide) b o x h,h5.main.imp fun b o x h=>RdA_mono (VLe.refl _) (Nat.le_refl _) (by decide) b o x h⟩⟩) ?_
 intro F20 r20 hf20 h20
 refine Ld (.inl rfl) rfl en16 rfl (fun r:SP×SP=>.tuple #[.agg #[.int .i64 R3.fin,.slice r.1.1 R3.out.length r.1.2,.slice r.2.1 R3.data.length r.2.2,.int .i64 R3.ticks],.int .i64 0]) (fun F r=>Sl rdN1 1 F r.1.1 r.1.2 R3.out∧Sl rdN1 1 F r.2.1 r.2.2 R3.data) (fun w hw=>by
     have h9:=semRun_any F20 8 r20.1 r20.2 pu v0 none 0 [] 4 w (hw.vs _ (by simp)) h20 hpb (v0_lew w) Sl.nil
     rw [hpl,hE3,hR3] at h9
     exact h9) ?_
 intro F21 r21 hf21 h21
 refine V0 (Ym rfl) (V0 (Yx rfl rfl) (V0 (Yx rfl rfl) ?_))
 refine WL.alloc (.inl rfl) rfl zr42 fun b5=>?_
 refine Lst 0 (.inl rfl) rfl rfl rfl sz42 rfl rfl rfl (V0 (Ya rfl) (Ln (Et (Cs (Cr ?_)))))
 refine Ld (.inl rfl) rfl en29 rfl (fun q:SP=>.slice q.1 2 q.2) (fun F q=>Sl (rdUn 8) 5 F q.1 q.2 pu) (fun w hw=>(program_any G w (hw.vs _ (by simp)) hz).mono fun e w' ⟨q,h1,h2,h3⟩=>⟨q,h1,h2,by rw [hpu]; exact h3.imp fun b o u ⟨r,h4,h5⟩=>⟨r,h4,h5.uses,h5.parts.imp fun b o x h=>RdPt_mono (VLe.refl _) (Nat.le_refl _) (by decide) b o x h,h5.main.imp fun b o x h=>RdA_mono (VLe.refl _) (Nat.le_refl _) (by decide) b o x h⟩⟩) ?_
 intro F24 r24 hf24 h24
 refine Lp (.inl rfl) rfl en14 rfl (fun w hw=>by
     have h9:=vcheck_any F24 8 8 r24.1 r24.2 pu w (hw.vs _ (by simp)) (h24.imp fun _ _ _ h=>h) hpb
     rw [hpl,hck] at h9
     exact h9) ?_
 refine V0 (yl_eqiY rfl rfl rfl) (V0 (Ym rfl) ?_)
 apply WL.and 2 (x:=true) rfl rfl rfl rfl (.inl rfl) rfl rfl rfl rfl rfl
 ·
  intro hg0
  refine Lp (.g rfl rfl rfl) rfl en14 rfl (fun w hw=>vcheck_any v0 8 8 none 0 [] w (v0_lew w) Sl.nil (by simp)) ?_
  refine Lv (.g rfl rfl rfl) rfl (yl_eqiY rfl rfl (by decide +kernel)) ?_
  exact Gt 2 rfl rfl rfl
 refine V0 (Ym rfl) ?_
 apply WL.and 2 (x:=true) rfl rfl rfl rfl (.inl rfl) rfl rfl rfl rfl rfl
 ·
  intro hg1
  refine Lv (.g rfl rfl rfl) rfl (Ym rfl) (Lv (.g rfl rfl rfl) rfl (yl_eqiY rfl rfl rfl) ?_)
  exact Gt 2 rfl rfl rfl
 refine V0 (Ym rfl) ?_
 apply WL.and 2 (x:=true) rfl rfl rfl rfl (.inl rfl) rfl rfl rfl rfl rfl
 ·
  intro hg2
  refine Lv (.g rfl rfl rfl) rfl (Ym rfl) (Lv (.g rfl rfl rfl) rfl (yl_eqiY rfl rfl rfl) ?_)
  exact Gt 2 rfl rfl rfl
 refine V0 (Ym rfl) ?_
 apply WL.and 2 (x:=true) rfl rfl rfl rfl (.inl rfl) rfl rfl rfl rfl rfl
 ·
  intro hg3
  refine Lv (.g rfl rfl rfl) rfl (Ym rfl) (Lv (.g rfl rfl rfl) rfl (yl_eqiY rfl rfl rfl) ?_)
  exact Gt 2 rfl rfl rfl
 refine V0 (Ym rfl) ?_
 apply WL.and 5 (x:=true) rfl rfl rfl rfl (.inl rfl) rfl rfl rfl rfl rfl
 ·
  intro hg4
  refine Lv (.g rfl rfl rfl) rfl (Yda 2 rfl rfl ag42 rfl) ?_
  refine Lb (.g rfl rfl rfl) rfl el29 rfl rfl rfl rfl fun b45=>?_
  refine Lrb 0 (.cells ((([6,7]:List Int)).flatMap n1C).toArray 3 (0,0)) rfl rfl ?_
  refine LW (fun _ h=>h.osT_blk (f:=n1C) (xs:=([6,7]:List Int)) (c:=2) 0 rfl n1C_len rfl (by decide)) ?_
  refine WL.oslview (rd:=rdN1) 0 rfl n1C_len (fun _ _ _ _ h=>h) fun H45 hH45=>?_
  refine Lb (.g rfl rfl rfl) rfl el29 rfl rfl rfl rfl fun b46=>?_
  refine Lrb 0 (.cells ((([6,0,6,0,0]:List Int)).flatMap n1C).toArray 3 (0,0)) rfl rfl ?_
  refine LW (fun _ h=>h.osT_blk (f:=n1C) (xs:=([6,0,6,0,0]:List Int)) (c:=5) 0 rfl n1C_len rfl (by decide)) ?_
  refine WL.oslview (rd:=rdN1) 0 rfl n1C_len (fun _ _ _ _ h=>h) fun H46 hH46=>?_
  refine WL.vjoin fun J47 J47a J47b J47f=>?_
  refine Lv (.g rfl rfl rfl) rfl (Yb zr42 pl42 rfl rfl) ?_
  refine Lp (.g rfl rfl rfl) rfl en19 rfl (fun w hw=>sameRes_eq F10 J47 (⟨0,[6,7],[6,0,6,0,0],6⟩:Res) (⟨0,[6,7],[6,0,6,0,0],6⟩:Res) rfl r10 ((some ⟨b45,0,none⟩,2),(some ⟨b46,0,none⟩,5)) w (hw.vs _ (by simp)) (hw.vs _ (by simp)) h10 ⟨hH45.imp fun b o x h=>RdC.mono J47b h,hH46.imp fun b o x h=>RdC.mono J47a h⟩) ?_
  refine WL.wk ?_ (Gt 5 rfl rfl rfl)
  exact fun _ h=>Ws.drops (h) (fun _ hm=>List.mem_append_right [_] hm)
 refine V0 (Ym rfl) ?_
 apply WL.and 3 (x:=true) rfl rfl rfl rfl (.inl rfl) rfl rfl rfl rfl rfl
 ·
  intro hg5
  refine Lv (.g rfl rfl rfl) rfl (Yf fo42_0 rfl) (Lv (.g rfl rfl rfl) rfl (Yd 1 rfl rfl rfl na3) (Lv (.g rfl rfl rfl) rfl (yl_eqiY rfl rfl hf2) ?_))
  exact Gt 3 rfl rfl rfl
 refine V0 (Ym rfl) ?_
 apply WL.and 4 (x:=true) rfl rfl rfl rfl (.inl rfl) rfl rfl rfl rfl rfl
 ·
  intro hg6
  refine Lv (.g rfl rfl rfl) rfl (Yf fo42_1 rfl) (Lv (.g rfl rfl rfl) rfl (Yd 1 rfl rfl rfl na29) (Lv (.g rfl rfl rfl) rfl (Yn es29 rfl) ?_))
  refine Lv (.g rfl rfl rfl) rfl (yl_eqiY rfl rfl (by rw [ho2]; rfl)) ?_
  exact Gt 4 rfl rfl rfl
 refine V0 (Ym rfl) ?_
 apply WL.and 3 (x:=true) rfl rfl rfl rfl (.inl rfl) rfl rfl rfl rfl rfl
 ·
  intro hg7
  refine Lv (.g rfl rfl rfl) rfl (Yf fo42_0 rfl) (Lv (.g rfl rfl rfl) rfl (Yd 0 rfl rfl rfl na3) (Lv (.g rfl rfl rfl) rfl (yl_eqiY rfl rfl hf3) ?_))
  exact Gt 3 rfl rfl rfl
 refine V0 (Ym rfl) ?_
 apply WL.and 3 (x:=true) rfl rfl rfl rfl (.inl rfl) rfl rfl rfl rfl rfl
 ·
  intro hg8
  refine Lv (.g rfl rfl rfl) rfl (Yf fo42_3 rfl) (Lv (.g rfl rfl rfl) rfl (Yd 0 rfl rfl rfl na3) (Lv (.g rfl rfl rfl) rfl (yl_eqiY rfl rfl ht3) ?_))
  exact Gt 3 rfl rfl rfl
 refine V0 (Ya rfl) (Ln (Et (Crt ?_)))
 refine WE.ret1 rfl rfl fun w' hw=>?_
 exact ⟨rfl,hw.fr⟩
end Go.Proofs.YtpjekjnehiinnaaGreatDoor
end
section
namespace Go.Proofs.YtpjekjnehiinnaaGreatDoor
open Go.Bw
set_option linter.unusedVariables false
set_option linter.unusedSimpArgs false
theorem en54:Enters Tryz.prog 54:=enters_of Tryz.func54 (by kernel_rfl) rfl
theorem unitNamed_any (H:View) (n:Nat) (a:Option Addr) (c:Nat) (l:List TUnit) (s:Tx) (w:World) (hH:Le H w) (hl:Sl (rdUn n) 5 H a c l) :
   Calls Tryz.prog 54 #[.slice a l.length c,st s] w fun e w'=>e = .returned (.int .i64 (posU l s))∧Ext w w':=by
 have hcap:=hl.cap
 have hmax:=hl.max
 refine enter Tryz.func54 rfl 20 rfl rfl ?_
 refine CWd (W':=Ws w [] [] [H]) (fun _ e=>by subst e; exact Ws.init (by simp [hH])) ?_
 refine Cs (Cr (V0 (Ya rfl) (Ln (Et (Cs (Cs (Cr (V0 (Ya rfl) (Ln (Et (Cb ?_)))))))))))
 refine CW (ι:=Nat) (fun i=>[(5,.int .i64 (i:Int))]) [(0,_),(1,_)] (fun i=>i≤l.length∧s ∉ (namesU l).take i) (fun i=>l.length-i) 0 ⟨Nat.zero_le _,by simp⟩ (sc rfl (sc rfl (sc rfl sn))) ?_
 intro i ⟨hi,hno⟩
 refine Cs (Cs (Cr (V0 (Ym rfl) (V0 (Ym rfl) (V0 (Yn es38 rfl) (V0 (yl_lt rfl rfl) (Ln (Et ?_))))))))
 refine Cc rfl (fun hc0=>?_) (fun hc0=>?_)
 ·
  have hlt:i<l.length:=by simpa using hc0
  obtain ⟨u,hui⟩:∃q,l[i]? = some q:=⟨_,List.getElem?_eq_getElem hlt⟩
  obtain ⟨pbu,pou,hau,hru⟩:=hl.elt i u hui
  obtain ⟨ru_,hrowu,hruu⟩:=hru
  have hnx:=namesU_get hui
  refine Ck (Et (Cs (Cb (Cs (Cr (V0 (Ym rfl) (V0 (Ym rfl) (V0 (Yo es38 rfl rfl hau hlt) (V0 (Yf fo26_0 rfl) (V0 (yl_ld 0 na9 rfl rfl (hrowu 0 _ rfl)) ?_))))))))))
  refine V0 (Ym rfl) (V0 (yl_eqs rfl rfl) (Ln (Et ?_)))
  refine Cc rfl (fun hc1=>?_) (fun hc1=>?_)
  ·
   have he:u.nm=s:=by simpa using hc1
   subst he
   refine Cs (Cr (V0 (Ym rfl) (V0 (Ya rfl) (Ln (Et (Crt (Ebr (Er (Er (Ebr (Er ?_)))))))))))
   refine WE.ret1 rfl rfl fun w' hw=>?_
   exact ⟨by rw [posU_at hnx hno],hw.fr⟩
  ·
   have hne:¬u.nm=s:=by simpa using hc1
   refine Ck (Eb (Et (Cr (V0 (Ym rfl) ?_))))
   refine V0 (Yi rfl rfl rfl (by omega)) ?_
   refine V0 (Ya rfl) (Ln ?_)
   exact Ea (i+1) (by omega) ⟨by omega,by rw [List.take_add_one,hnx]; simp; exact ⟨hno,fun e=>hne e.symm⟩⟩ (sc rfl (sc rfl (sc rfl sn))) (fun _ h=>h)
 ·
  have hge:l.length≤i:=by simp at hc0; omega
  rw [List.take_of_length_le (by rw [namesU_len]; exact hge)] at hno
  refine Ce (Ex (Ex (Ebh (Et (Cs (Cr (V0 (Ya rfl) (Ln (Et (Crt ?_))))))))))
  refine WE.ret1 rfl rfl fun w' hw=>?_
  exact ⟨by rw [posU_none hno],hw.fr⟩
theorem usesOf_any (H:View) (n:Nat) (a:Option Addr) (c:Nat) (l:List TUnit) (ni:Nat) (u:TUnit) (w:World) (hH:Le H w) (hl:Sl (rdUn n) 5 H a c l) (hui:l[ni]? = some u) (hub:u.uses.length≤1048576) :
   Calls Tryz.prog 35 #[.slice a l.length c,.int .i64 (ni:Int)] w fun e w'=>∃r:SP,e = .returned (.slice r.1 u.uses.length r.2)∧Ext w w'∧Sl rdN1 1 (nv w w') r.1 r.2 (u.uses.map (posU (l.take ni))):=by
 have hcap:=hl.cap
 have hmax:=hl.max
 have hlt:=(List.getElem?_eq_some_iff.1 hui).1
 obtain ⟨pbu,pou,hau,ru_,hrowu,hruu⟩:=hl.elt ni u hui
 have hcu:=hruu.uses.cap
 have hmu:=hruu.uses.max
 have htl:(l.take ni).length=ni:=by rw [List.length_take]; omega
 refine enter Tryz.func35 rfl 33 rfl rfl ?_
 refine CWd (W':=Ws w [] [] [H]) (fun _ e=>by subst e; exact Ws.init (by simp [hH])) ?_
 refine Cs (Cr (V0 (Ya rfl) (Ln (Et (Cs (Cr (V0 (Ya rfl) (Ln (Et (Cs (Cs ?_)))))))))))
 refine CWd (fun _ h=>h.osl_nil 3 1) ?_
 refine Cr (V0 (Ya rfl) (Ln (Et (Cb ?_))))
 refine CLk (ι:=Nat×SP) (fun qq=>[(6,.int .i64 (qq.1:Int)),(5,.slice qq.2.1 ((u.uses.take qq.1).map (posU (l.take ni))).length qq.2.2)]) [(0,_),(1,_),(4,_)] (fun qq=>Ws w [] [osT 3 1 n1C qq.2.1 qq.2.2 ((u.uses.take qq.1).map (posU (l.take ni)))] [H]) (fun qq=>qq.1≤u.uses.length) (fun qq=>u.uses.length-qq.1) (0,(none,0)) (Nat.zero_le _) (sc rfl (sc rfl (sc rfl (sc rfl (sc rfl sn))))) (fun _ h=>h) ?_
 intro qq hq
 refine Cs (Cs (Cr (V0 (Ym rfl) (V0 (Ym rfl) (V0 (Ym rfl) (V0 (Yo es38 rfl rfl hau hlt) (V0 (Yf fo26_1 rfl) ?_)))))))
 refine V0 (yl_ld 0 na22 rfl rfl (hrowu 1 _ rfl)) (V0 (Yn es22 rfl) (V0 (yl_lt rfl rfl) (Ln (Et ?_))))
 refine Cc rfl (fun hc0=>?_) (fun hc0=>?_)
 ·
  have hlts:qq.1<u.uses.length:=by simpa using hc0
  obtain ⟨s,hsi⟩:∃q,u.uses[qq.1]? = some q:=⟨_,List.getElem?_eq_getElem hlts⟩
  obtain ⟨pbs,pos,has,hrs⟩:=hruu.uses.elt qq.1 s hsi
  have hrs:RdC H pbs (pos+qq.1*1) (strC s):=hrs
  have hml:((u.uses.take qq.1).map (posU (l.take ni))).length=qq.1:=by rw [List.length_map,List.length_take]; omega
  refine Ck (Et (Cs (Cb ?_)))
  refine WC.draws1 0 [(0,true),(1,true),(2,true),(3,true),(4,true),(5,true),(6,true),(7,true),(8,true),(9,true),(10,true),(11,true),(12,false),(13,false),(14,false),(15,true)] mixed (by kernel_rfl) (fun _ _ _ d _ h=>by cases d<;>exact h) ?_
  refine Dq rfl (.inl rfl) rfl (fun _ h=>by have h:=Ws.out 0 h; exact h) (Ym rfl) ?_
  refine Dq rfl (.inl rfl) rfl (fun _ h=>by have h:=Ws.out 0 h; exact h) (Ym rfl) ?_
  refine Dq rfl (.inl rfl) rfl (fun _ h=>by have h:=Ws.out 0 h; exact h) (Ym rfl) ?_
  refine Dq rfl (.inl rfl) rfl (fun _ h=>by have h:=Ws.out 0 h; exact h) (yl_slhz ni es38 rfl rfl rfl (by omega)) ?_
  refine Dq rfl (.inl rfl) rfl (fun _ h=>by have h:=Ws.out 0 h; exact h) (Ym rfl) ?_
  refine Dq rfl (.inl rfl) rfl (fun _ h=>by have h:=Ws.out 0 h; exact h) (Ym rfl) ?_
  refine Dq rfl (.inl rfl) rfl (fun _ h=>by have h:=Ws.out 0 h; exact h) (Yo es38 rfl rfl hau hlt) ?_
  refine Dq rfl (.inl rfl) rfl (fun _ h=>by have h:=Ws.out 0 h; exact h) (Yf fo26_1 rfl) ?_
  refine Dq rfl (.inl rfl) rfl (fun _ h=>by have h:=Ws.out 0 h; exact h) (yl_ld 0 na22 rfl rfl (hrowu 1 _ rfl)) ?_
  refine Dq rfl (.inl rfl) rfl (fun _ h=>by have h:=Ws.out 0 h; exact h) (Ym rfl) ?_
  refine Dq rfl (.inl rfl) rfl (fun _ h=>by have h:=Ws.out 0 h; exact h) (Yo es22 rfl rfl has hlts) ?_
  refine Dq rfl (.inl rfl) rfl (fun _ h=>by have h:=Ws.out 0 h; exact h) (yl_ld 0 na9 rfl rfl (hrs 0 _ rfl)) ?_
  refine De rfl (fun _ h=>by have h:=Ws.out 0 h; exact h) ?_
  refine Lp (.inl rfl) rfl en54 rfl (fun w hw=>by
        have h9:=unitNamed_any H n a c (l.take ni) s w (hw.vs _ (by simp)) (hl.take ni)
        rw [htl] at h9
        exact h9) ?_
  refine Ln (Ed ?_)
  refine De rfl (fun _ h=>by have h:=Ws.out 0 h; exact h) ?_
  refine Lb (.inl rfl) rfl el29 rfl rfl rfl rfl fun b30=>?_
  refine Lrb 0 (.cells (n1C (posU (l.take ni) s)).toArray 3 (0,0)) rfl (rfl) ?_
  refine Ln (Ed ?_)
  refine De rfl (fun _ h=>by have h:=Ws.drop (L:=[_]) (L':=_) h; have h:=Ws.out 0 h; exact h) ?_
  refine LA (posU (l.take ni) s) 1 0 (.inl rfl) rfl el29 rfl rfl rfl rfl rfl rfl (by omega) (by omega) fun a31 c31=>?_
  rw [show (u.uses.take qq.1).map (posU (l.take ni))++[posU (l.take ni) s]=(u.uses.take (qq.1+1)).map (posU (l.take ni)) by rw [List.take_add_one,hsi]; simp]
  refine Ln (Ed ?_)
  refine Dq rfl (.inl rfl) rfl (fun _ h=>by have h:=Ws.drop (L:=[_]) (L':=_) h; have h:=Ws.out 0 h; exact h) (Ya rfl) ?_
  refine WD.nil (fun _ h=>by have h:=Ws.drop (L:=[_]) (L':=_) h; have h:=Ws.out 0 h; exact h) ?_
  refine Eb (Et (Cr (V0 (Ym rfl) ?_)))
  refine V0 (Yi rfl rfl rfl (by omega)) ?_
  refine V0 (Ya rfl) (Ln ?_)
  exact Ea ((qq.1+1,(a31,c31)):Nat×SP) (by show _-(qq.1+1)<_; omega) (by show qq.1+1≤_; omega) (sc rfl (sc rfl (sc rfl (sc rfl (sc rfl sn))))) (fun _ h=>Ws.drop (L:=[_]) h)
 ·
  have hge:qq.1=u.uses.length:=by simp at hc0; omega
  refine Ce (Ex (Ex (Ebh (Et (Cs (Cr (V0 (Ym rfl) (V0 (Ya rfl) (Ln (Et (Crt ?_)))))))))))
  refine WE.ret1 rfl rfl fun w' hw=>?_
  rw [hge,List.take_length] at hw
  rw [hge,List.take_length,List.length_map]
  exact ⟨qq.2,rfl,hw.fr,hw.slT 0 rfl n1C_len (fun _ _ _ _ h=>h)⟩
end Go.Proofs.YtpjekjnehiinnaaGreatDoor
end
section
namespace Go.Proofs.YtpjekjnehiinnaaGreatDoor
open Go.Bw
set_option linter.unusedVariables false
set_option linter.unusedSimpArgs false
def unitAt (l:List TUnit) (s:Tx):TUnit:=(l[(idxOf s (namesU l) 0).getD 0]?).getD noUnit
theorem unitAt_at {l:List TUnit} {s:Tx} {p:Nat} {z:TUnit} (hp:idxOf s (namesU l) 0=some p) (hz:l[p]? = some z):unitAt l s=z:=by unfold unitAt; rw [hp]; show (l[p]?).getD noUnit=z; rw [hz]; rfl
theorem pl_prog {l:List TUnit} {u:TUnit} (h:∀s ∈ u.uses,∃p z,idxOf s (namesU l) 0=some p∧l[p]? = some z):PlOk (u::u.uses.map (unitAt l)) u.uses.length false (knM u::usesKn l u):=by
 refine ⟨by rw [usesKn_map]; simp,(fun e=>by cases e),fun mi h1 _=>?_⟩
 cases mi with
 | zero=>exact ⟨u,rfl,rfl⟩
 | succ j=>
   obtain ⟨s,hs⟩:∃s,u.uses[j]? = some s:=⟨_,List.getElem?_eq_getElem (by omega)⟩
   obtain ⟨p,z,hp,hz⟩:=h s (List.mem_of_getElem? hs)
   refine ⟨z,?_,?_⟩
   · rw [List.getElem?_cons_succ,List.getElem?_map,hs]; exact congrArg some (unitAt_at hp hz)
   · rw [List.getElem?_cons_succ,usesKn_map,List.getElem?_map,hs]; exact congrArg some (useK_at hp hz)
theorem en35:Enters Tryz.prog 35:=enters_of Tryz.func35 (by kernel_rfl) rfl
theorem checkUnits_any (H:View) (n:Nat) (a:Option Addr) (c:Nat) (l:List TUnit) (w:World) (hH:Le H w) (hl:Sl (rdUn n) 5 H a c l) (hb:∀u ∈ l,u.uses.length≤1048576) :
   Calls Tryz.prog 15 #[.slice a l.length c] w fun e w'=>e = .returned (.int .i64 (checkUs l))∧Ext w w':=by
 have hcap:=hl.cap
 have hmax:=hl.max
 refine enter Tryz.func15 rfl 101 rfl rfl ?_
 refine CWd (W':=Ws w [] [] [H]) (fun _ e=>by subst e; exact Ws.init (by simp [hH])) ?_
 refine Cs (Cr (V0 (Ya rfl) (Ln (Et (Cs (Cs (Cr (V0 (Ym rfl) (V0 (Yn es38 rfl) ?_)))))))))
 refine Lp (.inl rfl) rfl en34 rfl (fun w hw=>within_any _ _ _ w) ?_
 refine V0 (yl_not rfl) (Ln (Et ?_))
 refine Cc rfl (fun hc0=>?_) (fun hc0=>?_)
 ·
  refine Cs (Cr (V0 (Ya rfl) (Ln (Et (Crt (Er ?_))))))
  refine WE.ret1 rfl rfl fun w' hw=>?_
  have hx:(decide ((l.length:Int)<1)||decide (4<(l.length:Int)))=true:=by unfold within at hc0; simp at hc0 ⊢; omega
  exact ⟨by rw [checkUs,if_pos hx],hw.fr⟩
 ·
  have hl4:¬(decide ((l.length:Int)<1)||decide (4<(l.length:Int)))=true:=by unfold within at hc0; simp at hc0 ⊢; omega
  have hl5:l.length≤4:=by simp at hl4; omega
  refine Ck (Et (Cs (Cr (V0 (Ya rfl) (Ln (Et (Cs (Cs ?_))))))))
  refine CWd (fun _ h=>h.osl_nil 9 1) ?_
  refine Cr (V0 (Ya rfl) (Ln (Et (Cb ?_))))
  refine CLk (ι:=Nat×SP) (fun gq=>[(4,.int .i64 (gq.1:Int)),(3,.slice gq.2.1 ((namesU l).take gq.1).length gq.2.2)]) [(0,_)] (fun gq=>Ws w [] [osT 9 1 strC gq.2.1 gq.2.2 ((namesU l).take gq.1)] [H]) (fun gq=>gq.1≤l.length∧∀(n:Nat) v,n<gq.1→l[n]? = some v→∀s ∈ v.uses,s ∈ (namesU l).take n) (fun gq=>l.length-gq.1) (0,(none,0)) ⟨Nat.zero_le _,fun n v h=>absurd h (Nat.not_lt_zero _)⟩ (sc rfl (sc rfl (sc rfl sn))) (fun _ h=>h) ?_
  intro gq ⟨hgi,hA⟩
  refine Cs (Cs (Cr (V0 (Ym rfl) (V0 (Ym rfl) (V0 (Yn es38 rfl) (V0 (yl_lt rfl rfl) (Ln (Et ?_))))))))
  refine Cc rfl (fun hc1=>?_) (fun hc1=>?_)
  ·
   have hlt:gq.1<l.length:=by simpa using hc1
   obtain ⟨u,hui⟩:∃q,l[gq.1]? = some q:=⟨_,List.getElem?_eq_getElem hlt⟩
   obtain ⟨pbu,pou,hau,hru⟩:=hl.elt gq.1 u hui
   obtain ⟨ru_,hrowu,hruu⟩:=hru
   have hcu:=hruu.uses.cap
   have hmu:=hruu.uses.max
   have hnx:=namesU_get hui
   have hnl:((namesU l).take gq.1).length=gq.1:=by rw [List.length_take,namesU_len]; omega
   refine Ck (Et (Cs (Cb (Cs (Cr (V0 (Ym rfl) (V0 (Ym rfl) (V0 (Ym rfl) (V0 (Yo es38 rfl rfl hau hlt) (V0 (Yf fo26_0 rfl) ?_))))))))))
   refine V0 (yl_ld 0 na9 rfl rfl (hrowu 0 _ rfl)) ?_
   refine Lb (.inl rfl) rfl el22 rfl rfl rfl rfl fun b29=>?_
   refine Lrb 0 (.cells (strC u.nm).toArray 9 (0,0)) rfl (rfl) ?_
   refine LA (u.nm) 1 0 (.inl rfl) rfl el22 rfl rfl rfl rfl rfl rfl (by omega) (by omega) fun a30 c30=>?_
   rw [show (namesU l).take gq.1++[u.nm]=(namesU l).take (gq.1+1) by rw [List.take_add_one,hnx]; rfl]
   refine V0 (Ya rfl) (Ln (Et (Cs (Cr (V0 (Ym rfl) (V0 (Ym rfl) ?_))))))
   refine Ld (.inl rfl) rfl en35 rfl (fun r:SP=>.slice r.1 u.uses.length r.2) (fun F r=>Sl rdN1 1 F r.1 r.2 (u.uses.map (posU (l.take gq.1)))) (fun w hw=>usesOf_any H n a c l gq.1 u w (hw.vs _ (by simp)) hl hui (hb u (List.mem_of_getElem? hui))) ?_
   intro F33 r33 hf33 h33
   refine V0 (Ya rfl) (Ln (Et (Cs (Cr (V0 (Ya rfl) (Ln (Et (Cb ?_))))))))
   refine CW (ι:=Nat) (fun j=>[(6,.int .i64 (j:Int))]) [(0,_),(3,_),(4,_),(5,_)] (fun j=>j≤u.uses.length∧∀s ∈ u.uses.take j,s ∈ (namesU l).take gq.1) (fun j=>u.uses.length-j) 0 ⟨Nat.zero_le _,by simp⟩ (sc rfl (sc rfl (sc rfl (sc rfl (sc rfl sn))))) ?_
   intro j ⟨hj,hin⟩
   refine Cs (Cs (Cr (V0 (Ym rfl) (V0 (Ym rfl) (V0 (Yn es29 rfl) (V0 (yl_lt rfl rfl) (Ln (Et ?_))))))))
   refine Cc rfl (fun hc2=>?_) (fun hc2=>?_)
   ·
    have hlj:j<u.uses.length:=by simpa using hc2
    obtain ⟨s,hsi⟩:∃s,u.uses[j]? = some s:=⟨_,List.getElem?_eq_getElem hlj⟩
    obtain ⟨pbs,pos,has,hrs⟩:=h33.elt j (posU (l.take gq.1) s) (by rw [List.getElem?_map,hsi]; rfl)
    refine Ck (Et (Cs (Cb (Cs (Cr (V0 (Ym rfl) (V0 (Ym rfl) (V0 (Yo es29 rfl rfl has hlj) (V0 (yl_ld 0 na3 rfl rfl (hrs 0 _ rfl)) (V0 (yl_lt rfl rfl) ?_))))))))))
    refine Ln (Et ?_)
    refine Cc rfl (fun hc3=>?_) (fun hc3=>?_)
    ·
     have hno:s ∉ (namesU l).take gq.1:=by rw [←namesU_take]; exact posU_neg.1 (by simpa using hc3)
     refine Cs (Cr (V0 (Ya rfl) (Ln (Et (Crt (Ebr (Er (Er (Ebr (Ebr (Er (Er (Ebr (Er ?_))))))))))))))
     refine WE.ret1 rfl rfl fun w' hw=>?_
     exact ⟨by rw [checkUs,if_neg hl4,if_pos (ahead_no hui (List.mem_of_getElem? hsi) hno)],hw.fr⟩
    ·
     have hyes:s ∈ (namesU l).take gq.1:=by
       rw [←namesU_take]
       exact Classical.byContradiction fun h=>absurd (posU_neg.2 h) (by simpa using hc3)
     refine Ck (Eb (Et (Cr (V0 (Ym rfl) ?_))))
     refine V0 (Yi rfl rfl rfl (by omega)) ?_
     refine V0 (Ya rfl) (Ln ?_)
     exact Ea (j+1) (by omega) ⟨by omega,mem_take_snoc hsi hin hyes⟩ (sc rfl (sc rfl (sc rfl (sc rfl (sc rfl sn))))) (fun _ h=>h)
   ·
    have hge2:u.uses.length≤j:=by simp at hc2; omega
    rw [List.take_of_length_le hge2] at hin
    refine Ce (Ex (Ex (Ebh (Eb (Et (Cr (V0 (Ym rfl) ?_)))))))
    refine V0 (Yi rfl rfl rfl (by omega)) ?_
    refine V0 (Ya rfl) (Ln ?_)
    exact Ea ((gq.1+1,(a30,c30)):Nat×SP) (by show _-(gq.1+1)<_; omega) ⟨(by show gq.1+1≤_; omega),fun n v hn hv s hs=>by
        rcases Nat.lt_succ_iff_lt_or_eq.1 hn with h | h
        · exact hA n v h hv s hs
        · subst h; rw [hui] at hv; injection hv with hv; subst hv; exact hin s hs⟩ (sc rfl (sc rfl (sc rfl sn))) (fun _ h=>Ws.drops (Ws.drop (L:=[_]) h) (fun _ hm=>List.mem_append_right [_] hm))
  ·
   have hge:gq.1=l.length:=by simp at hc1; omega
   rw [hge,List.take_of_length_le (show (namesU l).length≤l.length by rw [namesU_len]; exact Nat.le_refl _)]
   have hA:∀(n:Nat) v,l[n]? = some v→∀s ∈ v.uses,s ∈ (namesU l).take n:=fun n v hv=>hA n v (by have:=(List.getElem?_eq_some_iff.1 hv).1; omega) hv
   have hah:aheadB l=true:=ahead_yes hA
   refine Ce (Ex (Ex (Ebh (Et (Cs (Cs ?_))))))
   refine WC.oslview (rd:=rdStr) 0 rfl strC_len (fun _ _ _ _ h=>h) fun HN hHN=>?_
   refine Cr (V0 (Ym rfl) ?_)
   refine Lp (.inl rfl) rfl en36 rfl (fun w hw=>twice_any HN gq.2.1 gq.2.2 (namesU l) w (hw.vs _ (by simp)) hHN) ?_
   refine Ln (Et ?_)
   refine Cc rfl (fun hc4=>?_) (fun hc4=>?_)
   ·
    have htw:twiceB (namesU l)=true:=hc4
    refine Cs (Cr (V0 (Ya rfl) (Ln (Et (Crt (Er ?_))))))
    refine WE.ret1 rfl rfl fun w' hw=>?_
    exact ⟨by rw [checkUs,if_neg hl4,if_neg (by rw [hah]; decide),if_pos htw],hw.fr⟩
   ·
    have htw:twiceB (namesU l)=false:=hc4
    have hnd:=nodup_twice.2 htw
    refine Ck (Et (Cs (Cr (V0 (Ya rfl) (Ln (Et (Cs (Cs (Cr (V0 (Ya rfl) (Ln (Et (Cb ?_)))))))))))))
    refine CW (ι:=Nat×Int) (fun g=>[(8,.int .i64 (g.1:Int)),(7,.int .i64 g.2)]) [(0,_)] (fun g=>g.1≤l.length∧(0≤g.2∧g.2≤512)∧dataOk (l.drop g.1) (512-g.2)=dataOk l 512) (fun g=>l.length-g.1) (0,0) ⟨Nat.zero_le _,by omega,rfl⟩ (sc rfl (sc rfl (sc rfl sn))) ?_
    intro g ⟨hgi,hg2,hdk⟩
    refine Cs (Cs (Cr (V0 (Ym rfl) (V0 (Ym rfl) (V0 (Yn es38 rfl) (V0 (yl_lt rfl rfl) (Ln (Et ?_))))))))
    refine Cc rfl (fun hc5=>?_) (fun hc5=>?_)
    ·
     have hlt:g.1<l.length:=by simpa using hc5
     obtain ⟨u,hui⟩:∃q,l[g.1]? = some q:=⟨_,List.getElem?_eq_getElem hlt⟩
     obtain ⟨pbu,pou,hau,hru⟩:=hl.elt g.1 u hui
     obtain ⟨ru_,hrowu,hruu⟩:=hru
     refine Ck (Et (Cs (Cb (Cs (Cs (Cr (V0 (Ym rfl) (V0 (Ym rfl) (V0 (Yo es38 rfl rfl hau hlt) (V0 (Yf fo26_2 rfl) ?_))))))))))
     refine V0 (yl_ld 1 na3 rfl rfl (hrowu 2 _ rfl)) (V0 (Ym rfl) ?_)
     refine V0 (yl_sub rfl rfl (by omega)) ?_
     refine Lp (.inl rfl) rfl en34 rfl (fun w hw=>within_any _ _ _ w) ?_
     refine V0 (yl_not rfl) (Ln (Et ?_))
     refine Cc rfl (fun hc6=>?_) (fun hc6=>?_)
     ·
      have hx6:(decide (u.data<0)||decide (512-g.2<u.data))=true:=by unfold within at hc6; simp at hc6 ⊢; omega
      have hdo:dataOk l 512=false:=by rw [←hdk,dataOk_at _ hui,hx6]; rfl
      refine Cs (Cr (V0 (Ya rfl) (Ln (Et (Crt (Er (Ebr (Er (Er (Ebr (Er ?_)))))))))))
      refine WE.ret1 rfl rfl fun w' hw=>?_
      exact ⟨by rw [checkUs,if_neg hl4,if_neg (by rw [hah]; decide),if_neg (by rw [htw]; decide),if_pos hdo],hw.fr⟩
     ·
      have hdb:0≤u.data∧u.data≤512-g.2:=by unfold within at hc6; simp at hc6; omega
      have hdk2:dataOk (l.drop (g.1+1)) (512-(g.2+u.data))=dataOk l 512:=by
        rw [←hdk,dataOk_at _ hui,show (decide (u.data<0)||decide (512-g.2<u.data))=false by simp; omega,show 512-(g.2+u.data)=512-g.2-u.data by omega]
        rfl
      refine Ck (Et (Cr (V0 (Ym rfl) (V0 (Ym rfl) (V0 (Ym rfl) (V0 (Yo es38 rfl rfl hau hlt) (V0 (Yf fo26_2 rfl) ?_)))))))
      refine V0 (yl_ld 1 na3 rfl rfl (hrowu 2 _ rfl)) ?_
      refine V0 (yl_add rfl rfl (by omega)) ?_
      refine V0 (Ya rfl) (Ln (Eb (Et (Cr (V0 (Ym rfl) ?_)))))
      refine V0 (Yi rfl rfl rfl (by omega)) ?_
      refine V0 (Ya rfl) (Ln ?_)
      exact Ea ((g.1+1,g.2+u.data):Nat×Int) (by show _-(g.1+1)<_; omega) ⟨(by show g.1+1≤_; omega),(by show 0≤g.2+u.data∧g.2+u.data≤512; omega),hdk2⟩ (sc rfl (sc rfl (sc rfl sn))) (fun _ h=>h)
    ·
     have hge6:l.length≤g.1:=by simp at hc5; omega
     have hdo:dataOk l 512=true:=by rw [←hdk,List.drop_eq_nil_of_le hge6]; rfl
     refine Ce (Ex (Ex (Ebh (Et (Cs (Cs (Cr (V0 (Ya rfl) (Ln (Et (Cb ?_)))))))))))
     refine CW (ι:=Nat×Unit) (fun g=>[(9,.int .i64 (g.1:Int))]) [(0,_)] (fun g=>g.1≤l.length∧(l.take g.1).all (fun u=>fineU u (usesKn l u))=true) (fun g=>l.length-g.1) (0,()) ⟨Nat.zero_le _,rfl⟩ (sc rfl (sc rfl sn)) ?_
     intro g ⟨hgi,hall⟩
     refine Cs (Cs (Cr (V0 (Ym rfl) (V0 (Ym rfl) (V0 (Yn es38 rfl) (V0 (yl_lt rfl rfl) (Ln (Et ?_))))))))
     refine Cc rfl (fun hc7=>?_) (fun hc7=>?_)
     ·
      have hlt:g.1<l.length:=by simpa using hc7
      obtain ⟨u,hui⟩:∃q,l[g.1]? = some q:=⟨_,List.getElem?_eq_getElem hlt⟩
      obtain ⟨pbu,pou,hau,hru⟩:=hl.elt g.1 u hui
      obtain ⟨ru_,hrowu,hruu⟩:=hru
      have hcu:=hruu.uses.cap
      have hmu:=hruu.uses.max
      have hub:=hb u (List.mem_of_getElem? hui)
      have hpu:∀s ∈ u.uses,∃p z,idxOf s (namesU l) 0=some p∧l[p]? = some z:=fun s hs=>by
        obtain ⟨p,z,_,_,h1,h2⟩:=posU_take (hA g.1 u hui s hs)
        exact ⟨p,z,h1,h2⟩
      refine Ck (Et (Cs (Cb (Cs (Cr (V0 (Ya rfl) (Ln (Et (Cs (Cr (V0 (Ym rfl) (V0 (Ym rfl) ?_))))))))))))
      refine Ld (.inl rfl) rfl en35 rfl (fun r:SP=>.slice r.1 u.uses.length r.2) (fun F r=>Sl rdN1 1 F r.1 r.2 (u.uses.map (posU (l.take g.1)))) (fun w hw=>usesOf_any H n a c l g.1 u w (hw.vs _ (by simp)) hl hui (hb u (List.mem_of_getElem? hui))) ?_
      intro F77 r77 hf77 h77
      refine V0 (Ya rfl) (Ln (Et (Cs (Cs ?_))))
      refine CWd (fun _ h=>h.osl_nil 26 5) ?_
      refine Cr (V0 (Ya rfl) (Ln (Et (Cb ?_))))
      refine CLk (ι:=Nat×List XU×SP) (fun q=>[(12,.int .i64 (q.1:Int)),(10,.slice q.2.2.1 q.2.1.length q.2.2.2)]) [(0,_),(9,_),(11,_)] (fun q=>Ws w [] [osT 26 5 XU.cells q.2.2.1 q.2.2.2 q.2.1] [F77,HN,H]) (fun q=>q.1≤u.uses.length∧q.2.1.map (·.1)=(u.uses.take q.1).map (unitAt l)∧∀e ∈ q.2.1,RdU n n H e.2 e.1) (fun q=>u.uses.length-q.1) (0,[],(none,0)) ⟨Nat.zero_le _,rfl,by simp⟩ (sc rfl (sc rfl (sc rfl (sc rfl (sc rfl sn))))) (fun _ h=>h) ?_
      intro q ⟨hqi,hmq,hX⟩
      refine Cs (Cs (Cr (V0 (Ym rfl) (V0 (Ym rfl) (V0 (Yn es29 rfl) (V0 (yl_lt rfl rfl) (Ln (Et ?_))))))))
      refine Cc rfl (fun hc8=>?_) (fun hc8=>?_)
      ·
       have hlj:q.1<u.uses.length:=by simpa using hc8
       obtain ⟨s,hsi⟩:∃s,u.uses[q.1]? = some s:=⟨_,List.getElem?_eq_getElem hlj⟩
       obtain ⟨pbs,pos,has,hrs⟩:=h77.elt q.1 (posU (l.take g.1) s) (by rw [List.getElem?_map,hsi]; rfl)
       obtain ⟨sp,sz,hsp,hspn,hspi,hszi⟩:=posU_take (hA g.1 u hui s (List.mem_of_getElem? hsi))
       obtain ⟨pbz,poz,haz,rz,hrowz,hruz⟩:=hl.elt sp sz hszi
       have hpl:=(List.getElem?_eq_some_iff.1 hszi).1
       rw [hsp] at hrs
       have hrs:RdC F77 pbs (pos+q.1*1) (n1C (sp:Int)):=hrs
       have hqe:q.2.1.length=q.1:=by rw [←List.length_map,hmq,List.length_map,List.length_take]; omega
       refine Ck (Et (Cs (Cb (Cr (V0 (Ym rfl) (V0 (Ym rfl) (V0 (Ym rfl) (V0 (Ym rfl) (V0 (Yo es29 rfl rfl has hlj) ?_)))))))))
       refine V0 (yl_ld 0 na3 rfl rfl (hrs 0 _ rfl)) (V0 (Yo es38 rfl rfl haz hpl) (V0 (yl_lda 2 ag26 rfl rfl rfl (hrowz)) ?_))
       refine Lb (.inl rfl) rfl el38 rfl rfl rfl rfl fun b92=>?_
       refine Lrb 0 (.cells (XU.cells (sz,rz)).toArray 26 (0,0)) rfl (rfl) ?_
       refine LA (((sz,rz):XU)) 1 0 (.inl rfl) rfl el38 rfl rfl rfl rfl rfl rfl (by omega) (by omega) fun a93 c93=>?_
       refine V0 (Ya rfl) (Ln (Eb (Et (Cr (V0 (Ym rfl) ?_)))))
       refine V0 (Yi rfl rfl rfl (by omega)) ?_
       refine V0 (Ya rfl) (Ln ?_)
       exact Ea ((q.1+1,q.2.1++[(sz,rz)],(a93,c93)):Nat×List XU×SP) (by show _-(q.1+1)<_; omega) ⟨(by show q.1+1≤_; omega),by show (q.2.1++[(sz,rz)]).map (·.1)=_; rw [List.map_append,hmq,List.take_add_one,hsi]; simp [unitAt_at hspi hszi],fun e he=>by
           rcases List.mem_append.1 he with he | he
           · exact hX e he
           · rw [List.mem_singleton] at he; subst he; exact hruz⟩ (sc rfl (sc rfl (sc rfl (sc rfl (sc rfl sn))))) (fun _ h=>Ws.drop (L:=[_]) h)
      ·
       have hge8:u.uses.length≤q.1:=by simp at hc8; omega
       have hmapU:q.2.1.map (·.1)=u.uses.map (unitAt l):=by rw [hmq,List.take_of_length_le hge8]
       have hql:q.2.1.length=u.uses.length:=by rw [←List.length_map,hmapU,List.length_map]
       refine Ce (Ex (Ex (Ebh (Et (Cs ?_)))))
       refine WC.oslview (rd:=rdXU) 0 rfl XU.cells_len (fun _ _ _ _ h=>h) fun K hK=>?_
       refine Cr (V0 (Ym rfl) (V0 (Ym rfl) (V0 (Yo es38 rfl rfl hau hlt) (V0 (yl_lda 3 ag26 rfl rfl rfl (hrowu)) (V0 (Ym rfl) ?_)))))
       refine Lp (.inl rfl) rfl en26 rfl (fun w hw=>by
             have h8:=slU_of (ke:=n) (k:=n) hK (hv_of (hw.vs _ (by simp))) fun e he=>(hX e he).mv (hv_of (hw.vs H (by simp)))
             have h9:=unitFine_any H (hv w) n n u ru_ (q.2.1.map (·.1)) q.2.2.1 q.2.2.2 false (usesKn l u) w (hw.vs _ (by simp)) (hv_le w) hruu h8 (by rw [List.length_map,hql]; exact hb u (List.mem_of_getElem? hui)) (by rw [hmapU]; exact pl_prog hpu)
             rw [List.length_map] at h9
             exact h9) ?_
       refine V0 (yl_not rfl) (Ln (Et ?_))
       refine Cc rfl (fun hc9=>?_) (fun hc9=>?_)
       ·
        have hx:fineU u (usesKn l u)=false:=by simpa using hc9
        refine Cs (Cr (V0 (Ya rfl) (Ln (Et (Crt (Ebr (Er (Er (Ebr (Er ?_))))))))))
        refine WE.ret1 rfl rfl fun w' hw=>?_
        exact ⟨by rw [checkUs,if_neg hl4,if_neg (by rw [hah]; decide),if_neg (by rw [htw]; decide),if_neg (by rw [hdo]; decide),if_neg (by rw [all_hit (f:=fun u=>fineU u (usesKn l u)) hui hx]; decide)],hw.fr⟩
       ·
        have hx:fineU u (usesKn l u)=true:=by simpa using hc9
        refine Ck (Eb (Et (Cr (V0 (Ym rfl) ?_))))
        refine V0 (Yi rfl rfl rfl (by omega)) ?_
        refine V0 (Ya rfl) (Ln ?_)
        exact Ea ((g.1+1,()):Nat×Unit) (by show _-(g.1+1)<_; omega) ⟨by show g.1+1≤_; omega,all_take (f:=fun u=>fineU u (usesKn l u)) hui hall hx⟩ (sc rfl (sc rfl sn)) (fun _ h=>Ws.drops (h) (fun _ hm=>List.mem_append_right [_,_] hm))
     ·
      have hge7:l.length≤g.1:=by simp at hc7; omega
      rw [List.take_of_length_le hge7] at hall
      refine Ce (Ex (Ex (Ebh (Et (Cs (Cr (V0 (Ya rfl) (Ln (Et (Crt ?_))))))))))
      refine WE.ret1 rfl rfl fun w' hw=>?_
      exact ⟨by rw [checkUs,if_neg hl4,if_neg (by rw [hah]; decide),if_neg (by rw [htw]; decide),if_neg (by rw [hdo]; decide),if_pos hall],hw.fr⟩
end Go.Proofs.YtpjekjnehiinnaaGreatDoor
end
section
namespace Go.Proofs.YtpjekjnehiinnaaGreatDoor
open Go.Bw
set_option linter.unusedVariables false
set_option linter.unusedSimpArgs false
theorem en13:Enters Tryz.prog 13:=enters_of Tryz.func13 (by kernel_rfl) rfl
theorem en15:Enters Tryz.prog 15:=enters_of Tryz.func15 (by kernel_rfl) rfl
theorem semChecks_any (G H:View) (n:Nat) (a:Option Addr) (c:Nat) (l:List TUnit) (w:World) (hG:Le G w) (hz:Laid G) (hH:Le H w) (hl:Sl (rdUn n) 5 H a c l) (hb:∀u ∈ l,u.uses.length≤1048576) :
   Calls Tryz.prog 4 #[.slice a l.length c] w fun e w'=>e = .returned (.bool true)∧Ext w w':=by
 refine enter Tryz.func4 rfl 11 rfl rfl ?_
 refine CWd (W':=Ws w [] [] [G,H]) (fun _ e=>by subst e; exact Ws.init (by simp [hG,hH])) ?_
 refine Cs (Cr (V0 (Ya rfl) (Ln (Et (Cs (Cr ?_))))))
 refine Lp (.inl rfl) rfl en13 rfl (fun w hw=>semBegun_any G w (hw.vs _ (by simp)) hz) ?_
 refine V0 (Ym rfl) ?_
 apply WL.and 5 (x:=true) rfl rfl rfl rfl (.inl rfl) rfl rfl rfl rfl rfl
 ·
  intro hg0
  refine Lv (.g rfl rfl rfl) rfl (Ym rfl) ?_
  refine Lp (.g rfl rfl rfl) rfl en14 rfl (fun w hw=>vcheck_any H n n a c l w (hw.vs _ (by simp)) (hl.imp fun _ _ _ h=>h) hb) ?_
  refine Lv (.g rfl rfl rfl) rfl (Ym rfl) ?_
  refine Lp (.g rfl rfl rfl) rfl en15 rfl (fun w hw=>checkUnits_any H n a c l w (hw.vs _ (by simp)) hl hb) ?_
  refine Lv (.g rfl rfl rfl) rfl (yl_eqiY rfl rfl rfl) ?_
  exact Gt 5 rfl rfl rfl
 refine V0 (Ya rfl) (Ln (Et (Crt ?_)))
 refine WE.ret1 rfl rfl fun w' hw=>?_
 exact ⟨rfl,hw.fr⟩
end Go.Proofs.YtpjekjnehiinnaaGreatDoor
end
