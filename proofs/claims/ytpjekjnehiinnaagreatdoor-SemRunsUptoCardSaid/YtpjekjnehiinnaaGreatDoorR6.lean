/- SemRuns: Run answers what the document says, errors too, whatever it is handed (proved in the second form, bulk at most 1048576). -/
import Derived.Test.YtpjekjnehiinnaaGreatDoorR5
set_option linter.unusedVariables false
set_option linter.unusedSimpArgs false
section
namespace Go.Proofs.YtpjekjnehiinnaaGreatDoor
open Go.Bw
def Sac (s:MdSt) (A:Rz Fm Bool) (d:Bool) (loc:List Int) (v:Int) (t:MdSt):Prop:=(s.fin≠0∧t=s)∨(s.fin=0∧Stf A d loc v t)
def VAc (H:View) (n:Nat) (K:KW) (da:List SP) (l:List TUnit) (lim bm C d:Nat) (k1 k:Nat):Prop:=∀(bs u:Nat) (z:TUnit) (x:SP) (loc:List Int) (v:Int) (body:List TAct) (a:Option Addr) (c dd:Nat) (s:MdSt) (w:World),MGood H (envU l lim) (sumU l) C s→l[u]? = some z→Sl (RdA k1 k) 7 H a c body→actsA (knM z::usesKn l z) loc.length body dd=true→Ws w (List.flatMap Asr.ids ((mown 94 3 bm K da l lim s)++(rown 132 3 bs u x loc false v))) ((mown 94 3 bm K da l lim s)++(rown 132 3 bs u x loc false v)) [H] w→
 Calls Tryz.prog 59 #[.pointer (some ⟨bm,0,none⟩),.pointer (some ⟨bs,0,none⟩),.slice a body.length c] w fun e w'=>∃r:Bool×MdSt×List Int×Int,e = .returned (.tuple #[])∧(Sac s (actsE (envU l lim) (callR (envU l lim) d) u body (⟨loc,v,s.w⟩:Fm)) r.1 r.2.2.1 r.2.2.2 r.2.1∧MGood H (envU l lim) (sumU l) C r.2.1∧r.2.2.1.length=loc.length)∧Ws w (List.flatMap Asr.ids ((mown 94 3 bm K da l lim s)++(rown 132 3 bs u x loc false v))) ((mown 94 3 bm K da l lim r.2.1)++(rown 132 3 bs u x r.2.2.1 r.1 r.2.2.2)) [H] w'
theorem vev_all (H:View) (n:Nat) (K:KW) (da:List SP) (l:List TUnit) (lim bm C d:Nat) (hM:MindAt H n K da l lim) (hC:VCall H n K da l lim bm C d) (k:Nat):VEv H n K da l lim bm C d k:=fun bs u z x loc dn v y a c dd s w h1 h2 h3 h4 h5=>rvalue_run H n K da l lim bm C d bs u z x loc dn v y a c k dd s w h1 hM h2 hC h3 h4 h5
theorem act1_m {kn:List KnW} {locs op n m pl:Int} {na nb no:Nat} (h:act1 kn locs op n m pl na nb no=true) (e:op=1):m = -1∨0≤m:=by
 subst e
 rw [act1,if_pos rfl] at h
 have h2:=(Bool.and_eq_true_iff.1 h).2
 rcases Bool.or_eq_true_iff.1 h2 with h3 | h3
 · exact .inl (by simpa using (Bool.and_eq_true_iff.1 h3).1)
 · exact .inr (dataB_nn h3)
theorem stk_acts {r:Rz Wm Int} {x:Int} {t t2:MdSt} {loc loc2:List Int} {v v2:Int} {w:Wm} {f:Int→Fm→Rz Fm Bool} {A:Rz Fm Bool} {d:Bool} (h:Stk r x t) (hf:f x ⟨loc,v,t.w⟩=A) (ha:Sac t A d loc2 v2 t2):Stf ((Rz.fr ⟨loc,v,w⟩ r).bind f) d loc2 v2 t2:=by
 rcases ha with ⟨h0,rfl⟩ | ⟨h0,ha⟩
 · exact h.fr h0
 · rw [bind_ok (fr_ok (h.get h0))]
   show Stf (f x ⟨loc,v,t.w⟩) d loc2 v2 t2
   rw [hf]; exact ha
theorem while_mu {t t2:MdSt} {d d2:Bool} {k n:Nat} (h1:t.fin=0) (h2:d=false) (h3:k=n+1):(if t2.fin=0∧d2=false then n+1 else 0)<(if t.fin=0∧d=false then k+1 else 0):=by
 have e:(if t.fin=0∧d=false then k+1 else 0)=k+1:=if_pos ⟨h1,h2⟩
 rw [e]; split<;>omega
def Wst (P:Env) (c:Fm→Rz Fm Int) (b:Fm→Rz Fm Bool) (A:Rz Fm Bool) (t:MdSt) (d:Bool) (loc:List Int) (v:Int) (k:Nat):Prop:=
 (t.fin=0∧d=false∧A=loopR P c b k ⟨loc,v,t.w⟩∧P.lim+1≤k+t.w.ticks)∨(t.fin=0∧d=true∧A = .ok true ⟨loc,v,t.w⟩)∨(t.fin≠0∧∃c,A = .ov t.fin { t.w with calls:=c })
theorem while_go {P:Env} {d u:Nat} {y:TNode} {body:List TAct} {A:Rz Fm Bool} {t t1 t2 t3:MdSt} {loc loc3:List Int} {v v1 v3:Int} {d3:Bool} {k:Nat} (hA:A=loopR P (fun q=>Rz.fr q (nodeE P (callR P d) u y q.loc q.w)) (fun q=>actsE P (callR P d) u body q) (k+1) ⟨loc,v,t.w⟩) (hk:P.lim+1≤k+1+t.w.ticks)
   (hv:Stk (nodeE P (callR P d) u y loc t.w) v1 t1) (hne:¬v1=0) (ht:Stq t1 (tickW P t1.w) () t2) (ha:Sac t2 (actsE P (callR P d) u body ⟨loc,v,t2.w⟩) d3 loc3 v3 t3) :
   Wst P (fun q=>Rz.fr q (nodeE P (callR P d) u y q.loc q.w)) (fun q=>actsE P (callR P d) u body q) A t3 d3 loc3 v3 k:=by
 by_cases h1:t1.fin=0
 · have e1:=hv.get h1
   have hA:=hA.trans (loop_go (v:=v1) (f1:=⟨loc,v,t1.w⟩) (fr_ok e1) hne)
   have ht:=ht.of h1
   by_cases h2:t2.fin=0
   · have e2:=ht.get h2
     have hA:=hA.trans (bind_ok (fr_ok e2))
     rcases ha with ⟨h,_⟩ | ⟨_,ha⟩
     · exact absurd h2 h
     · rcases ha with ⟨h3,e3⟩ | ⟨h3,c,e3⟩
       · have hA:=hA.trans (bind_ok e3)
         cases d3 with
         | true=>exact .inr (.inl ⟨h3,rfl,hA⟩)
         | false=>
           refine .inl ⟨h3,O,hA,?_⟩
           have q1:=node_tk e1
           have q2:=tick_inc e2
           have q3:t2.w.ticks≤t3.w.ticks:=acts_tk e3
           omega
       · exact .inr (.inr ⟨h3,c,hA.trans (bind_ov e3)⟩)
   · rcases ha with ⟨_,rfl⟩ | ⟨h,_⟩
     · rcases ht with ⟨h,_⟩ | ⟨_,c,e2⟩
       · exact absurd h h2
       · exact .inr (.inr ⟨h2,c,hA.trans (bind_ov (fr_ov e2))⟩)
     · exact absurd h h2
 · rcases ht with ⟨_,rfl⟩ | ⟨h,_⟩
   · rcases ha with ⟨_,rfl⟩ | ⟨h,_⟩
     · rcases hv with ⟨h,_⟩ | ⟨_,c,e1⟩
       · exact absurd h h1
       · exact .inr (.inr ⟨h1,c,hA.trans (loop_pan (fr_ov e1))⟩)
     · exact absurd h h1
   · exact absurd h h1
theorem en59:Enters Tryz.prog 59:=enters_of Tryz.func59 (by kernel_rfl) rfl
theorem fo132_2:fieldOff Tryz.prog 132 2=some 2:=by kernel_rfl
theorem en58:Enters Tryz.prog 58:=enters_of Tryz.func58 (by kernel_rfl) rfl
theorem fo132_3:fieldOff Tryz.prog 132 3=some 3:=by kernel_rfl
theorem sz4:sizeP Tryz.prog 4=some 1:=by kernel_rfl
theorem fo94_3:fieldOff Tryz.prog 94 3=some 3:=by kernel_rfl
theorem ract_run (H:View) (n:Nat) (K:KW) (da:List SP) (l:List TUnit) (lim bm C d:Nat) (bs u:Nat) (z:TUnit) (x:SP) (loc:List Int) (v:Int) (y:TAct) (r:AAt) (k1 k dd:Nat) (s:MdSt) (w:World) (hg:MGood H (envU l lim) (sumU l) C s) (hM:MindAt H n K da l lim) (hx:l[u]? = some z) (hf0:s.fin=0) (hC:VCall H n K da l lim bm C d) (hA:VAc H n K da l lim bm C d k1 k) (hl:Sl (RdN k1) 5 H r.s1.1 r.s1.2 y.args) (h2:Sl (RdA k1 k) 7 H r.s2.1 r.s2.2 y.body) (h3:Sl (RdA k1 k) 7 H r.s3.1 r.s3.2 y.other) (hok:actK (knM z::usesKn l z) loc.length y dd=true) (hw:Ws w (List.flatMap Asr.ids ((mown 94 3 bm K da l lim s)++(rown 132 3 bs u x loc false v))) ((mown 94 3 bm K da l lim s)++(rown 132 3 bs u x loc false v)) [H] w) :
   Calls Tryz.prog 84 #[.pointer (some ⟨bm,0,none⟩),.pointer (some ⟨bs,0,none⟩),.agg (actV y r).toArray] w fun e w'=>∃r:Bool×MdSt×List Int×Int,e = .returned (.tuple #[])∧(Stf (actE (envU l lim) (callR (envU l lim) d) u y (⟨loc,v,s.w⟩:Fm)) r.1 r.2.2.1 r.2.2.2 r.2.1∧MGood H (envU l lim) (sumU l) C r.2.1∧r.2.2.1.length=loc.length)∧Ws w (List.flatMap Asr.ids ((mown 94 3 bm K da l lim s)++(rown 132 3 bs u x loc false v))) ((mown 94 3 bm K da l lim r.2.1)++(rown 132 3 bs u x r.2.2.1 r.1 r.2.2.2)) [H] w':=by
 have hD:=sum_le hM.ok
 have hN:=vev_all H n K da l lim bm C d hM hC
 have hcap:=hl.cap
 have hmax:=hl.max
 obtain ⟨hn1,hargs,hbok,hook⟩:=actK_parts hok
 have hlen:=act1_len hn1
 have hfacts:=act1_facts hn1
 have hop:=hlen.2.2
 refine enter Tryz.func84 O 204 O O ?_
 refine CWd (W':=Ws w (List.flatMap Asr.ids ((mown 94 3 bm K da l lim s)++(rown 132 3 bs u x loc false v))) ((mown 94 3 bm K da l lim s)++(rown 132 3 bs u x loc false v)) [H]) (fun _ e=>by subst e; exact hw) ?_
 refine Cs (Cr ?_)
 refine WL.box Y O O fun b5=>?_
 refine Ln (Et (Cs ?_))
 refine Crb 0 (.cells (actV y r).toArray 104 (0,0)) O O ?_
 refine Cr (V0 (Yf fo104_0 O) (V0 (Yd 0 O O O na3) (Ln (Et (Cb (Cs (Cr (V0 (yl_eq O O) (V0 (Ya O) ?_)))))))))
 refine Ln (Et ?_)
 refine Cc O (fun hc0=>?_) (fun hc0=>?_)
 ·
  have ho:y.op=1:=by simpa using hc0
  refine Cs ?_
  have hl1:=hlen.1 (by omega)
  obtain ⟨f,hfi⟩:∃v,y.args[0]? = some v:=⟨_,List.getElem?_eq_getElem (by omega)⟩
  obtain ⟨pf,qf,haf,hrf⟩:=hl.elt 0 f hfi
  obtain ⟨k2,rfl⟩:∃k2,k1=k2+1:=by
    cases k1 with
    | zero=>exact hrf.elim
    | succ k2=>exact ⟨k2,rfl⟩
  obtain ⟨fa,fc,hrowf,hsubf⟩:=hrf
  have hN2:=hN k2
  have hof:=nodesK_at hargs hfi
  have hE:actE (envU l lim) (callR (envU l lim) d) u y (⟨loc,v,s.w⟩:Fm)=(Rz.fr (⟨loc,v,s.w⟩:Fm) (nodeE (envU l lim) (callR (envU l lim) d) u f loc s.w)).bind fun v q=>if y.m<0 then .ok false { q with loc:=q.loc.set y.pl.toNat v } else .ok false { q with w:={ q.w with data:=q.w.data.set ((envU l lim).at_ u y.m y.pl) v } }:=by
    rw [actE_eq,actR,if_pos ho,kidE_at hfi]
  refine Cr (V0 (Ym O) (V0 (Ym O) (V0 (Yf fo104_4 O) (V0 (Yd 0 O O O na102) ?_))))
  refine V0 (Yo (i:=0) es102 O O haf (by omega)) ?_
  refine V0 (yl_lda 0 ag138 O O O (hrowf)) (Lf 5 O (Lf 5 O (Lf 5 O (Lf 5 O (Lf 5 O ?_)))))
  refine Lw (ι:=_) [_,_,_,_,_] _ Y O en121 O O (_) (_) (_) [H] (by simp) (fun w hw=>hN2 bs u z x loc false v f fa fc _ s w hg hx hsubf hof hw) ?_
  intro r21 ⟨hr21,hg21⟩
  refine V0 (Ya O) (Ln (Et (Cs (Cs ?_))))
  have hk21:=hr21.of hf0
  refine Cr (V0 (Ym O) (V0 (yl_nil O) (V0 (Yf fo94_7 O) (V0 (Yd 0 O O O na3) (V0 (yl_ne O O) ?_)))))
  refine Ln (Et ?_)
  refine Cc O (fun hc1=>?_) (fun hc1=>?_)
  ·
   have hfz:¬r21.2.fin=0:=by simpa using hc1
   refine Crt (Er (Ebr ?_))
   refine WE.ret0 O fun w' hw=>?_
   exact ⟨(false,r21.2,loc,v),O,⟨by rw [hE]; exact hk21.fr hfz,hg21,O⟩,Wt 5 hw⟩
  have hfz:r21.2.fin=0:=by simpa using hc1
  have hE2:=hE.trans (bind_ok (fr_ok (hk21.get hfz)))
  refine Ck (Et (Cs (Cr (V0 (Yf fo104_2 O) (V0 (Yd 5 O O O na3) (V0 (yl_eq O O) (Ln (Et ?_))))))))
  refine Cc O (fun hc2=>?_) (fun hc2=>?_)
  ·
   have hm0:y.m = -1:=by simpa using hc2
   obtain ⟨h0l,h1l⟩:=(hfacts.1 ho).1 (by omega)
   obtain ⟨pi,hpi⟩:∃pi:Nat,y.pl=pi:=⟨y.pl.toNat,by omega⟩
   obtain ⟨lv,hlv⟩:∃v,loc[pi]? = some v:=⟨_,List.getElem?_eq_getElem (by omega)⟩
   refine WC.shapeT 4 O (by omega) fun lb hlb hlc hlm=>?_
   refine CU (fun _=>true) [] [8] (.q false 0 (.q false 1 (.q false 2 (.q true 3 (.q false 4 (.q true 5 (.q false 6 (.q false 7 .nil)))))))) mixed (by kernel_rfl) (fun _ _ _ d _ _ h=>by cases d<;>exact h) ?_
   refine U0 O (fun _ h=>h) (Ym O) (U0 O (fun _ h=>h) (yl_nil O) (U0 O (fun _ h=>h) (Yf fo132_1 O) (U0 O (fun _ h=>h) (Yd 3 O O O na29) (U0 O (fun _ h=>h) (Yf fo104_3 O) (U0 O (fun _ h=>h) (Yd 5 O O O na3) ?_)))))
   rw [hpi]
   refine U0 O (fun _ h=>h) (Ym O) ?_
   refine U0 O (fun _ h=>h) (Yo (i:=pi) es29 O O hlb (by omega)) ?_
   refine WU.nil (fun _ h=>h) ?_
   refine WS.e O ?_
   refine WL.storeT (y:=lv) 4 pi 0 r21.1 Y O O O hlb O n1C_len hlv sz3 O O (by decide) O ?_
   refine Ln (Es ?_)
   refine WS.nil ?_
   refine Eb ?_
   refine E0 O fun w' hw=>?_
   have h9:=(by have h:=hw; have h:=h.fronti 4 rfl; have h:=h.fronti 4 rfl; have h:=h.fronti 4 rfl; have h:=h.fronti 4 rfl; have h:=h.fronti 4 rfl; have h:=Wt 5 h; exact h)
   have h9:=h9.reL 3 rfl (show blk bs (rcb 132 u x loc.length false v)=blk bs (rcb 132 u x (loc.set pi r21.1).length false v) by simp)
   exact ⟨(false,r21.2,loc.set pi r21.1,v),O,⟨.inl ⟨hfz,hE2.trans ((if_pos (by omega)).trans (by rw [hpi,Int.toNat_natCast]))⟩,hg21,by simp⟩,h9⟩
  have hm0:¬y.m<0:=by
    have h9:¬y.m = -1:=by simpa using hc2
    rcases act1_m hn1 ho with h | h
    · exact absurd h h9
    · omega
  obtain ⟨mi,j,p,zd,hmm,hpl,hj,hzd,hroom,hat⟩:=data_row hM.ok lim hx ((hfacts.1 ho).2 hm0) (by decide)
  obtain ⟨rr,pK,qK,hrr,haK,hrK⟩:=hM.row hzd
  have hjl:=(List.getElem?_eq_some_iff.1 hzd).1
  have hsr:=sumU_room hzd
  have hpz:p<zd.data.toNat:=by omega
  have hdl:=hg21.dat
  obtain ⟨dv,hdv⟩:∃v,(rowU r21.2.w.data l j zd.data.toNat)[p]? = some v:=⟨_,List.getElem?_eq_getElem (by rw [rowU_len hzd hdl]; omega)⟩
  have hdvd:r21.2.w.data[sumU (l.take j)+p]? = some dv:=by rw [←rowU_get (show p<zd.data.toNat by omega)]; exact hdv
  have hrl:=rowU_len hzd hg21.dat
  have hmem:osT 3 1 n1C rr.1 rr.2 (rowU r21.2.w.data l j zd.data.toNat) ∈ rowsA 3 da (splitU l r21.2.w.data):=List.mem_of_getElem? (rowsA_get hrr (split_get _ hzd))
  refine WC.fact (p:=∃b o,rr.1=some ⟨b,o,none⟩) (fun w hw=>fam_shape (As:=rowsA 3 da (splitU l r21.2.w.data)) hw 2 O hmem (by omega)) fun ⟨rb,ro_,hrb⟩=>?_
  refine CU (fun _=>true) [] [15] (.q false 0 (.q false 1 (.q false 2 (.q true 3 (.q false 4 (.q false 5 (.q false 6 (.q true 7 (.q false 11 (.q true 12 (.q false 13 (.e 8 (.q false 9 (.q true 10 (.q false 14 .nil))) .stop)))))))))))) mixed (by kernel_rfl) (fun _ _ _ d _ _ h=>by cases d<;>exact h) ?_
  refine U0 O (fun _ h=>h) (Ym O) (U0 O (fun _ h=>h) (yl_nil O) (U0 O (fun _ h=>h) (Yf fo94_1 O) (U0 O (fun _ h=>h) (Yd 0 O O O na85) (U0 O (fun _ h=>h) (Ym O) (U0 O (fun _ h=>h) (Ym O) ?_)))))
  refine U0 O (fun _ h=>h) (Yf fo104_2 O) (U0 O (fun _ h=>h) (Yd 5 O O O na3) (U0 O (fun _ h=>h) (Yf fo104_3 O) (U0 O (fun _ h=>h) (Yd 5 O O O na3) ?_)))
  rw [hpl]
  refine U0 O (fun _ h=>h) (Ym O) ?_
  refine Ue O (fun _ h=>h) ?_ WU.stop
  refine Lf 3 O (Lf 1 O ?_)
  refine Lw (ι:=_) [_,_] _ Y O en122 O O (_) (_) (_) [H] (by simp) (fun w hw=>rmod_any bm K da l lim C H r21.2 n bs u x loc.length false v z mi j y.m w hM hx hj hmm hw) ?_
  intro _ _
  refine Ln (Eu ?_)
  refine U0 O (fun _ h=>by exact ((((((h.f 5 O).f 5 O).f 3 O).f 5 O).f 5 O).f 5 O:)) (Yo es85 O O haK hjl) ?_
  refine U0 O (fun _ h=>by exact ((((((h.f 5 O).f 5 O).f 3 O).f 5 O).f 5 O).f 5 O:)) (yl_ld 0 na29 O O (hrK 0 _ O)) ?_
  refine U0 O (fun _ h=>by exact ((((((h.f 5 O).f 5 O).f 3 O).f 5 O).f 5 O).f 5 O:)) (Yo (i:=p) es29 O O hrb hpz) ?_
  refine WU.nil (fun _ h=>by exact ((((((h.f 5 O).f 5 O).f 3 O).f 5 O).f 5 O).f 5 O:)) ?_
  refine WS.e O ?_
  refine LW (fun _ h=>h.fam_pick 3 j O (rowsA_get hrr (split_get r21.2.w.data hzd))) ?_
  refine WL.storeT (y:=dv) 0 (p) 0 r21.1 Y O O O hrb O n1C_len hdv sz3 O O (by decide) O ?_
  refine LW (fun _ h=>Ws.fam_put h (List.getElem?_eq_some_iff.1 (rowsA_get (tI:=3) hrr (split_get r21.2.w.data hzd))).1) ?_
  refine Ln (Es ?_)
  refine WS.nil ?_
  refine Eb ?_
  refine E0 O fun w' hw=>?_
  rw [rowsA_set _ hrr,←split_set _ _ hzd (by omega)] at hw
  refine ⟨(false,(⟨{ r21.2.w with data:=r21.2.w.data.set (sumU (l.take j)+p) r21.1 },r21.2.fin,r21.2.i,r21.2.o⟩:MdSt),loc,v),O,⟨.inl ⟨hfz,?_⟩,⟨hg21.inp,hg21.out,hg21.tk,by show (List.set _ _ _).length=_; rw [List.length_set]; exact hg21.dat,hg21.cl⟩,O⟩,(by have h:=hw; have h:=h.fronti 4 O; have h:=h.fronti 3 O; have h:=h.fronti 2 O; have h:=h.fronti 4 O; have h:=h.fronti 4 O; have h:=Wt 5 h; exact h)⟩
  have hat0:(envU l lim).at_ u y.m y.pl=sumU (l.take j)+p:=by rw [hpl]; exact hat 0
  exact hE2.trans ((if_neg hm0).trans (by rw [hat0]))
 have hn1:¬y.op=1:=by simpa using hc0
 refine Cs (Cr (V0 (yl_eq O O) (V0 (Ya O) (Ln (Et ?_)))))
 refine Cc O (fun hc3=>?_) (fun hc3=>?_)
 ·
  have ho:y.op=2:=by simpa using hc3
  refine Cs ?_
  have hl2:=hlen.2.1 ho
  obtain ⟨f,hfi⟩:∃v,y.args[0]? = some v:=⟨_,List.getElem?_eq_getElem (by omega)⟩
  obtain ⟨pf,qf,haf,hrf⟩:=hl.elt 0 f hfi
  obtain ⟨g,hgi⟩:∃v,y.args[1]? = some v:=⟨_,List.getElem?_eq_getElem (by omega)⟩
  obtain ⟨pg,qg,hag,hrg⟩:=hl.elt 1 g hgi
  obtain ⟨k2,rfl⟩:∃k2,k1=k2+1:=by
    cases k1 with
    | zero=>exact hrf.elim
    | succ k2=>exact ⟨k2,rfl⟩
  obtain ⟨fa,fc,hrowf,hsubf⟩:=hrf
  have hN2:=hN k2
  have hof:=nodesK_at hargs hfi
  obtain ⟨ga,gc,hrowg,hsubg⟩:=hrg
  have hog:=nodesK_at hargs hgi
  obtain ⟨⟨hq0,hq32⟩,hdat⟩:=hfacts.2.1 ho
  obtain ⟨mi,j,p,zd,hmm,hpl,hj,hzd,hroom,hat⟩:=data_row hM.ok lim hx hdat (by omega)
  obtain ⟨rr,pK,qK,hrr,haK,hrK⟩:=hM.row hzd
  have hjl:=(List.getElem?_eq_some_iff.1 hzd).1
  have hsr:=sumU_room hzd
  have hE:actE (envU l lim) (callR (envU l lim) d) u y (⟨loc,v,s.w⟩:Fm)=(Rz.fr (⟨loc,v,s.w⟩:Fm) (indexR y.n (nodeE (envU l lim) (callR (envU l lim) d) u f) loc s.w)).bind fun i q=>(Rz.fr q (nodeE (envU l lim) (callR (envU l lim) d) u g q.loc q.w)).bind fun v q=>.ok false { q with w:={ q.w with data:=q.w.data.set ((envU l lim).at_ u y.m (y.pl+i)) v } }:=by
    rw [actE_eq,actR,if_neg hn1,if_pos ho,kidE_at hfi,kidE_at hgi]
  refine CU (fun _=>true) [1,1,1,1,1] [] (.q false 0 (.q false 1 (.q false 2 (.q true 3 (.q false 4 (.q true 5 (.q false 6 (.q true 7 (.e 8 (.q false 9 .nil) .stop))))))))) mixed (by kernel_rfl) (fun _ _ _ d _ _ h=>by cases d<;>exact h) ?_
  refine U0 O (fun _ h=>by exact (Wo 1 (Wo 1 (Wo 1 (Wo 1 (Wo 1 h)))):)) (Ym O) ?_
  refine U0 O (fun _ h=>by exact (Wo 1 (Wo 1 (Wo 1 (Wo 1 (Wo 1 h)))):)) (Ym O) ?_
  refine U0 O (fun _ h=>by exact (Wo 1 (Wo 1 (Wo 1 (Wo 1 (Wo 1 h)))):)) (Yf fo104_4 O) ?_
  refine U0 O (fun _ h=>by exact (Wo 1 (Wo 1 (Wo 1 (Wo 1 (Wo 1 h)))):)) (Yd 0 O O O na102) ?_
  refine U0 O (fun _ h=>by exact (Wo 1 (Wo 1 (Wo 1 (Wo 1 (Wo 1 h)))):)) (Yo (i:=0) es102 O O haf (by omega)) ?_
  refine U0 O (fun _ h=>by exact (Wo 1 (Wo 1 (Wo 1 (Wo 1 (Wo 1 h)))):)) (yl_lda 0 ag138 O O O (hrowf)) ?_
  refine U0 O (fun _ h=>by exact (Wo 1 (Wo 1 (Wo 1 (Wo 1 (Wo 1 h)))):)) (Yf fo104_1 O) ?_
  refine U0 O (fun _ h=>by exact (Wo 1 (Wo 1 (Wo 1 (Wo 1 (Wo 1 h)))):)) (Yd 0 O O O na3) ?_
  refine Ue O (fun _ h=>by exact (Wo 1 (Wo 1 (Wo 1 (Wo 1 (Wo 1 h)))):)) ?_ WU.stop
  refine Lf 5 O (Lf 5 O (Lf 5 O (Lf 5 O (Lf 5 O ?_))))
  refine Lw (ι:=_) [_,_,_,_,_] _ Y O en123 O O (_) (_) (_) [H] (by simp) (fun w hw=>rindex_run H n K da l lim bm C d bs u z x loc false v f y.n fa fc k2 _ s w hg hM hx hf0 ⟨hq0,hq32⟩ hN2 hsubf hof hw) ?_
  intro r63 ⟨hr63,hg63,hz63⟩
  refine Ln (Eu ?_)
  refine U0 O (fun _ h=>by exact (Wo 1 (Wo 1 (Wo 1 (Wo 1 (Wo 1 ((((((h.f 4 O).f 4 O).f 4 O).f 4 O).f 4 O).f 5 O))))):)) (Ya O) ?_
  refine WU.nil (fun _ h=>by exact (Wo 1 (Wo 1 (Wo 1 (Wo 1 (Wo 1 ((((((h.f 4 O).f 4 O).f 4 O).f 4 O).f 4 O).f 5 O))))):)) ?_
  refine WS.nil ?_
  refine Et (Cs (Cr (V0 (Ym O) (V0 (Ym O) (V0 (Yf fo104_4 O) (V0 (Yd 5 O O O na102) ?_))))))
  refine V0 (Yo (i:=1) es102 O O hag (by omega)) ?_
  refine V0 (yl_lda 0 ag138 O O O (hrowg)) (Lf 4 O (Lf 4 O (Lf 4 O (Lf 4 O (Lf 4 O ?_)))))
  refine Lw (ι:=_) [_,_,_,_,_] _ Y O en121 O O (_) (_) (_) [H] (by simp) (fun w hw=>hN2 bs u z x loc false v g ga gc _ r63.2 w hg63 hx hsubg hog hw) ?_
  intro r70 ⟨hr70,hg70⟩
  refine V0 (Ya O) (Ln (Et (Cs (Cr (V0 (Ym O) (V0 (yl_nil O) (V0 (Yf fo94_7 O) (V0 (Yd 0 O O O na3) ?_))))))))
  refine V0 (yl_eq O O) (Ln (Et ?_))
  refine Cc O (fun hc4=>?_) (fun hc4=>?_)
  ·
   have hfz:r70.2.fin=0:=by simpa using hc4
   have hf63:r63.2.fin=0:=by
     rcases hr70 with ⟨h0,h1⟩ | ⟨h0,_⟩
     · rw [←h1]; exact hfz
     · exact h0
   have e63:=hr63.get hf63
   have e70:=(hr70.of hf63).get hfz
   have hix:0≤r63.1∧r63.1<y.n:=index_in e63
   obtain ⟨ni,hni⟩:∃ni:Nat,r63.1=ni:=⟨r63.1.toNat,by omega⟩
   have hpz:p+ni<zd.data.toNat:=by omega
   have hE2:=hE.trans ((bind_ok (fr_ok e63)).trans (bind_ok (fr_ok e70)))
   have hdl:=hg70.dat
   obtain ⟨dv,hdv⟩:∃v,(rowU r70.2.w.data l j zd.data.toNat)[(p+ni)]? = some v:=⟨_,List.getElem?_eq_getElem (by rw [rowU_len hzd hdl]; omega)⟩
   have hdvd:r70.2.w.data[sumU (l.take j)+(p+ni)]? = some dv:=by rw [←rowU_get (show (p+ni)<zd.data.toNat by omega)]; exact hdv
   have hrl:=rowU_len hzd hg70.dat
   have hmem:osT 3 1 n1C rr.1 rr.2 (rowU r70.2.w.data l j zd.data.toNat) ∈ rowsA 3 da (splitU l r70.2.w.data):=List.mem_of_getElem? (rowsA_get hrr (split_get _ hzd))
   refine WC.fact (p:=∃b o,rr.1=some ⟨b,o,none⟩) (fun w hw=>fam_shape (As:=rowsA 3 da (splitU l r70.2.w.data)) hw 2 O hmem (by omega)) fun ⟨rb,ro_,hrb⟩=>?_
   refine CU (fun _=>true) [] [17] (.q false 0 (.q false 1 (.q false 2 (.q true 3 (.q false 4 (.q false 5 (.q false 6 (.q true 7 (.q false 11 (.q true 12 (.q false 13 (.q false 14 (.q false 15 (.e 8 (.q false 9 (.q true 10 (.q false 16 .nil))) .stop)))))))))))))) mixed (by kernel_rfl) (fun _ _ _ d _ _ h=>by cases d<;>exact h) ?_
   refine U0 O (fun _ h=>h) (Ym O) (U0 O (fun _ h=>h) (yl_nil O) (U0 O (fun _ h=>h) (Yf fo94_1 O) (U0 O (fun _ h=>h) (Yd 0 O O O na85) (U0 O (fun _ h=>h) (Ym O) (U0 O (fun _ h=>h) (Ym O) ?_)))))
   refine U0 O (fun _ h=>h) (Yf fo104_2 O) (U0 O (fun _ h=>h) (Yd 5 O O O na3) (U0 O (fun _ h=>h) (Yf fo104_3 O) (U0 O (fun _ h=>h) (Yd 5 O O O na3) (U0 O (fun _ h=>h) (Ym O) ?_))))
   refine U0 O (fun _ h=>h) (yl_addn (a:=p) (b:=ni) O O hpl hni (by omega)) ?_
   refine U0 O (fun _ h=>h) (Ym O) ?_
   refine Ue O (fun _ h=>h) ?_ WU.stop
   refine Lf 3 O (Lf 1 O ?_)
   refine Lw (ι:=_) [_,_] _ Y O en122 O O (_) (_) (_) [H] (by simp) (fun w hw=>rmod_any bm K da l lim C H r70.2 n bs u x loc.length false v z mi j y.m w hM hx hj hmm hw) ?_
   intro _ _
   refine Ln (Eu ?_)
   refine U0 O (fun _ h=>by exact ((((((h.f 5 O).f 5 O).f 3 O).f 5 O).f 5 O).f 5 O:)) (Yo es85 O O haK hjl) ?_
   refine U0 O (fun _ h=>by exact ((((((h.f 5 O).f 5 O).f 3 O).f 5 O).f 5 O).f 5 O:)) (yl_ld 0 na29 O O (hrK 0 _ O)) ?_
   refine U0 O (fun _ h=>by exact ((((((h.f 5 O).f 5 O).f 3 O).f 5 O).f 5 O).f 5 O:)) (Yo (i:=p+ni) es29 O O hrb hpz) ?_
   refine WU.nil (fun _ h=>by exact ((((((h.f 5 O).f 5 O).f 3 O).f 5 O).f 5 O).f 5 O:)) ?_
   refine WS.e O ?_
   refine LW (fun _ h=>h.fam_pick 3 j O (rowsA_get hrr (split_get r70.2.w.data hzd))) ?_
   refine WL.storeT (y:=dv) 0 ((p+ni)) 0 r70.1 Y O O O hrb O n1C_len hdv sz3 O O (by decide) O ?_
   refine LW (fun _ h=>Ws.fam_put h (List.getElem?_eq_some_iff.1 (rowsA_get (tI:=3) hrr (split_get r70.2.w.data hzd))).1) ?_
   refine Ln (Es ?_)
   refine WS.nil ?_
   refine Eb ?_
   refine E0 O fun w' hw=>?_
   rw [rowsA_set _ hrr,←split_set _ _ hzd (by omega)] at hw
   refine ⟨(false,(⟨{ r70.2.w with data:=r70.2.w.data.set (sumU (l.take j)+(p+ni)) r70.1 },r70.2.fin,r70.2.i,r70.2.o⟩:MdSt),loc,v),O,⟨.inl ⟨hfz,?_⟩,⟨hg70.inp,hg70.out,hg70.tk,by show (List.set _ _ _).length=_; rw [List.length_set]; exact hg70.dat,hg70.cl⟩,O⟩,(by have h:=hw; have h:=h.fronti 4 O; have h:=h.fronti 3 O; have h:=h.fronti 2 O; have h:=h.fronti 4 O; have h:=h.fronti 4 O; have h:=Wt 5 h; exact h)⟩
   have hat0:(envU l lim).at_ u y.m (y.pl+r63.1)=sumU (l.take j)+(p+ni):=by rw [hpl,hni]; exact hat ni
   exact hE2.trans (by rw [hat0])
  have hfz:¬r70.2.fin=0:=by simpa using hc4
  refine Ck (Eb ?_)
  refine E0 O fun w' hw=>?_
  refine ⟨(false,r70.2,loc,v),O,⟨?_,hg70,O⟩,Wt 5 hw⟩
  rw [hE]
  rcases hr70 with ⟨h0,h1⟩ | ⟨h0,h1⟩
  · rw [h1]; exact hr63.fr h0
  · rw [bind_ok (fr_ok (hr63.get h0))]; exact h1.fr hfz
 have hn2:¬y.op=2:=by simpa using hc3
 refine Cs (Cr (V0 (yl_eq O O) (V0 (Ya O) (Ln (Et ?_)))))
 refine Cc O (fun hc5=>?_) (fun hc5=>?_)
 ·
  have ho:y.op=3:=by simpa using hc5
  have hE:actE (envU l lim) (callR (envU l lim) d) u y (⟨loc,v,s.w⟩:Fm)=(Rz.fr (⟨loc,v,s.w⟩:Fm) (partR (envU l lim) (callR (envU l lim) d) u y.m y.pl (kidsE (envU l lim) (callR (envU l lim) d) u y.args) loc s.w)).bind fun _ q=>.ok false q:=by
    rw [actE_eq,actR,if_neg hn1,if_neg hn2,if_pos ho]
  refine Cr (V0 (Ym O) (V0 (Ym O) (V0 (Yf fo104_2 O) (V0 (Yd 0 O O O na3) (V0 (Yf fo104_3 O) ?_)))))
  refine V0 (Yd 0 O O O na3) (V0 (Yf fo104_4 O) (V0 (Yd 0 O O O na102) (Lf 5 O (Lf 5 O (Lf 5 O ?_)))))
  refine Lf 5 O (Lf 5 O ?_)
  refine Lw (ι:=_) [_,_,_,_,_] _ Y O en124 O O (_) (_) (_) [H] (by simp) (fun w hw=>rpart_run H n K da l lim bm C d bs u z x loc false v y.m y.pl y.args r.s1.1 r.s1.2 k1 _ s w hg hM hx hf0 (fun k2 _=>hN k2) hC (hfacts.2.2 ho) hl hargs hw) ?_
  intro r103 ⟨hr103,hg103⟩
  refine Ln (Eb ?_)
  refine E0 O fun w' hw=>?_
  refine ⟨(false,r103.2,loc,v),O,⟨?_,hg103,O⟩,Wt 5 hw⟩
  rw [hE]
  by_cases h0:r103.2.fin=0
  · exact .inl ⟨h0,bind_ok (fr_ok (hr103.get h0))⟩
  · exact hr103.fr h0
 have hn3:¬y.op=3:=by simpa using hc5
 refine Cs (Cr (V0 (yl_eq O O) (V0 (Ya O) (Ln (Et ?_)))))
 refine Cc O (fun hc6=>?_) (fun hc6=>?_)
 ·
  have ho:y.op=4:=by simpa using hc6
  refine Cs ?_
  have hl1:=hlen.1 (by omega)
  obtain ⟨f,hfi⟩:∃v,y.args[0]? = some v:=⟨_,List.getElem?_eq_getElem (by omega)⟩
  obtain ⟨pf,qf,haf,hrf⟩:=hl.elt 0 f hfi
  obtain ⟨k2,rfl⟩:∃k2,k1=k2+1:=by
    cases k1 with
    | zero=>exact hrf.elim
    | succ k2=>exact ⟨k2,rfl⟩
  obtain ⟨fa,fc,hrowf,hsubf⟩:=hrf
  have hN2:=hN k2
  have hof:=nodesK_at hargs hfi
  have hE:actE (envU l lim) (callR (envU l lim) d) u y (⟨loc,v,s.w⟩:Fm)=(Rz.fr (⟨loc,v,s.w⟩:Fm) (nodeE (envU l lim) (callR (envU l lim) d) u f loc s.w)).bind fun v q=>if v=0 then actsE (envU l lim) (callR (envU l lim) d) u y.other q else actsE (envU l lim) (callR (envU l lim) d) u y.body q:=by
    rw [actE_eq,actR,if_neg hn1,if_neg hn2,if_neg hn3,if_pos ho,kidE_at hfi]
  refine Cr (V0 (Ym O) (V0 (Ym O) (V0 (Yf fo104_4 O) (V0 (Yd 0 O O O na102) ?_))))
  refine V0 (Yo (i:=0) es102 O O haf (by omega)) ?_
  refine V0 (yl_lda 0 ag138 O O O (hrowf)) (Lf 5 O (Lf 5 O (Lf 5 O (Lf 5 O (Lf 5 O ?_)))))
  refine Lw (ι:=_) [_,_,_,_,_] _ Y O en121 O O (_) (_) (_) [H] (by simp) (fun w hw=>hN2 bs u z x loc false v f fa fc _ s w hg hx hsubf hof hw) ?_
  intro r112 ⟨hr112,hg112⟩
  refine V0 (yl_ne O O) (Ln (Et ?_))
  refine Cc O (fun hc7=>?_) (fun hc7=>?_)
  ·
   have hv7:¬r112.1=0:=by simpa using hc7
   refine Cr (V0 (Ym O) (V0 (Ym O) (V0 (Yf fo104_5 O) (V0 (Yd 5 O O O na24) (Lf 4 O ?_)))))
   refine Lf 4 O (Lf 4 O (Lf 4 O (Lf 4 O ?_)))
   refine Lw (ι:=_) [_,_,_,_,_] _ Y O en59 O O (_) (_) (_) [H] (by simp) (fun w hw=>hA bs u z x loc v y.body r.s2.1 r.s2.2 _ r112.2 w hg112 hx h2 (hbok (by omega)) hw) ?_
   intro r118 ⟨hr118,hg118,hln118⟩
   refine Ln (Eb ?_)
   refine E0 O fun w' hw=>?_
   exact ⟨r118,O,⟨by rw [hE]; exact stk_acts (hr112.of hf0) (if_neg hv7) hr118,hg118,hln118⟩,Wt 5 hw⟩
  have hv7:r112.1=0:=by simpa using hc7
  refine Cr (V0 (Ym O) (V0 (Ym O) (V0 (Yf fo104_6 O) (V0 (Yd 5 O O O na24) (Lf 4 O ?_)))))
  refine Lf 4 O (Lf 4 O (Lf 4 O (Lf 4 O ?_)))
  refine Lw (ι:=_) [_,_,_,_,_] _ Y O en59 O O (_) (_) (_) [H] (by simp) (fun w hw=>hA bs u z x loc v y.other r.s3.1 r.s3.2 _ r112.2 w hg112 hx h3 hook hw) ?_
  intro r123 ⟨hr123,hg123,hln123⟩
  refine Ln (Eb ?_)
  refine E0 O fun w' hw=>?_
  exact ⟨r123,O,⟨by rw [hE]; exact stk_acts (hr112.of hf0) (if_pos hv7) hr123,hg123,hln123⟩,Wt 5 hw⟩
 have hn4:¬y.op=4:=by simpa using hc6
 refine Cs (Cr (V0 (yl_eq O O) (V0 (Ya O) (Ln (Et ?_)))))
 refine Cc O (fun hc8=>?_) (fun hc8=>?_)
 ·
  have ho:y.op=5:=by simpa using hc8
  have hl1:=hlen.1 (by omega)
  obtain ⟨f,hfi⟩:∃v,y.args[0]? = some v:=⟨_,List.getElem?_eq_getElem (by omega)⟩
  obtain ⟨pf,qf,haf,hrf⟩:=hl.elt 0 f hfi
  obtain ⟨k2,rfl⟩:∃k2,k1=k2+1:=by
    cases k1 with
    | zero=>exact hrf.elim
    | succ k2=>exact ⟨k2,rfl⟩
  obtain ⟨fa,fc,hrowf,hsubf⟩:=hrf
  have hN2:=hN k2
  have hof:=nodesK_at hargs hfi
  have hE:actE (envU l lim) (callR (envU l lim) d) u y (⟨loc,v,s.w⟩:Fm)=loopR (envU l lim) (fun q=>Rz.fr q (nodeE (envU l lim) (callR (envU l lim) d) u f q.loc q.w)) (fun q=>actsE (envU l lim) (callR (envU l lim) d) u y.body q) ((envU l lim).lim+1) (⟨loc,v,s.w⟩:Fm):=by
    rw [actE_eq,actR,if_neg hn1,if_neg hn2,if_neg hn3,if_neg hn4,if_pos ho,kidE_at hfi]
  refine Cb ?_
  refine CLk (ι:=MdSt×(List Int×Bool×Int)×Nat) (fun t=>[]) [(0,_),(1,_),(5,_)] (fun t=>Ws w (List.flatMap Asr.ids ((mown 94 3 bm K da l lim s)++(rown 132 3 bs u x loc false v))) ((mown 94 3 bm K da l lim t.1)++(rown 132 3 bs u x t.2.1.1 t.2.1.2.1 t.2.1.2.2)++[blk b5 (.cells (actV y r).toArray 104 (0,0))]) [H]) (fun t=>MGood H (envU l lim) (sumU l) C t.1∧t.2.1.1.length=loc.length∧Wst (envU l lim) (fun q=>Rz.fr q (nodeE (envU l lim) (callR (envU l lim) d) u f q.loc q.w)) (fun q=>actsE (envU l lim) (callR (envU l lim) d) u y.body q) (loopR (envU l lim) (fun q=>Rz.fr q (nodeE (envU l lim) (callR (envU l lim) d) u f q.loc q.w)) (fun q=>actsE (envU l lim) (callR (envU l lim) d) u y.body q) ((envU l lim).lim+1) (⟨loc,v,s.w⟩:Fm)) t.1 t.2.1.2.1 t.2.1.1 t.2.1.2.2 t.2.2) (fun t=>(if t.1.fin=0∧t.2.1.2.1=false then t.2.2+1 else 0)) (s,(loc,false,v),lim+1) ⟨hg,O,.inl ⟨hf0,O,O,Nat.le_add_right _ _⟩⟩ (sc O (sc O (sc O sn))) (fun _ h=>by exact (((((h.f 5 O).f 5 O).f 5 O).f 5 O).f 5 O:)) ?_
  intro t ⟨hgt,htl,htw⟩
  refine Cs (Cs (Cr (V0 (Ym O) (V0 (yl_nil O) (V0 (Yf fo94_7 O) (V0 (Yd 0 O O O na3) (V0 (yl_eq O O) ?_)))))))
  refine V0 (Ym O) ?_
  apply La 5 (x:=(!t.2.1.2.1)) O O O O Y O O O O O
  ·
   intro hg0
   refine Vg (Ym O) (Vg (yl_nil O) (Vg (Yf fo132_2 O) (Vg (Yd 3 O O O na4) (Vg (yl_not O) ?_))))
   exact Gt 5 O O O
  refine V0 (Ym O) ?_
  rcases Bool.eq_false_or_eq_true ((t.1.fin==0&&!t.2.1.2.1)) with hsp138 | hsp138
  ·
   obtain ⟨hft,hdt⟩:t.1.fin=0∧t.2.1.2.1=false:=by simpa using hsp138
   obtain ⟨hlp,hfl⟩:loopR (envU l lim) (fun q=>Rz.fr q (nodeE (envU l lim) (callR (envU l lim) d) u f q.loc q.w)) (fun q=>actsE (envU l lim) (callR (envU l lim) d) u y.body q) ((envU l lim).lim+1) (⟨loc,v,s.w⟩:Fm)=loopR (envU l lim) (fun q=>Rz.fr q (nodeE (envU l lim) (callR (envU l lim) d) u f q.loc q.w)) (fun q=>actsE (envU l lim) (callR (envU l lim) d) u y.body q) t.2.2 ⟨t.2.1.1,t.2.1.2.2,t.1.w⟩∧(envU l lim).lim+1≤t.2.2+t.1.w.ticks:=by
     rcases htw with ⟨_,_,h8,h9⟩ | ⟨_,h9,_⟩ | ⟨h9,_⟩
     · exact ⟨h8,h9⟩
     · rw [hdt] at h9; cases h9
     · exact absurd hft h9
   obtain ⟨nf,hnf⟩:∃nf,t.2.2=nf+1:=⟨t.2.2-1,by have h9:t.1.w.ticks≤lim:=hgt.tk; have h8:lim+1≤t.2.2+t.1.w.ticks:=hfl; omega⟩
   rw [hnf] at hlp hfl
   rw [hsp138]
   refine Vg (Ym O) (Vg (Ym O) (Vg (Yf fo104_4 O) (Vg (Yd 5 O O O na102) ?_)))
   refine Vg (Yo (i:=0) es102 O O haf (by omega)) ?_
   refine Vg (yl_lda 0 ag138 O O O (hrowf)) (Lf 4 O (Lf 4 O (Lf 4 O (Lf 4 O (Lf 4 O ?_)))))
   refine Lw (ι:=_) [_,_,_,_,_] _ (.g O O O) O en121 O O (_) (_) (_) [H] (by simp) (fun w hw=>hN2 bs u z x t.2.1.1 t.2.1.2.1 t.2.1.2.2 f fa fc _ t.1 w hgt hx hsubf (by rw [htl]; exact hof) hw) ?_
   intro r145 ⟨hr145,hg145⟩
   refine Vg (yl_ne O O) (V0 (yl_pickt O O) (Ln (Et ?_)))
   refine Cc O (fun hc9=>?_) (fun hc9=>?_)
   ·
    have hv9:¬r145.1=0:=by simpa using hc9
    have hk145:=hr145.of hft
    refine CWd (W':=Ws w (List.flatMap Asr.ids ((mown 94 3 bm K da l lim s)++(rown 132 3 bs u x loc false v))) ((mown 94 3 bm K da l lim r145.2)++(rown 132 3 bs u x t.2.1.1 false t.2.1.2.2)++[blk b5 (.cells (actV y r).toArray 104 (0,0))]) [H]) (fun _ h=>by rw [hdt] at h; exact h) ?_
    refine Ck (Et (Cb (Cs (Cr (V0 (Ym O) (Lf 2 O (Lf 2 O (Lf 2 O ?_))))))))
    refine Lw (ι:=_) [_,_,_] _ Y O en58 O O (_) (_) (_) [H] (by simp) (fun w hw=>rtick_any bm K da l lim C H r145.2 w hg145 hM.lim hw) ?_
    intro r149 ⟨hr149,hg149⟩
    refine Ln (Et (Cr (V0 (Ym O) (V0 (Ym O) (V0 (Yf fo104_5 O) (V0 (Yd 5 O O O na24) (Lf 4 O ?_)))))))
    refine Lf 4 O (Lf 4 O (Lf 4 O (Lf 4 O ?_)))
    refine Lw (ι:=_) [_,_,_,_,_] _ Y O en59 O O (_) (_) (_) [H] (by simp) (fun w hw=>hA bs u z x t.2.1.1 t.2.1.2.2 y.body r.s2.1 r.s2.2 _ r149 w hg149 hx h2 (by rw [htl]; exact hbok (by omega)) hw) ?_
    intro r154 ⟨hr154,hg154,hln154⟩
    refine Ln (Eb ?_)
    exact Ea ((r154.2.1,(r154.2.2.1,r154.1,r154.2.2.2),nf):MdSt×(List Int×Bool×Int)×Nat) (while_mu hft hdt hnf) ⟨hg154,hln154.trans htl,while_go hlp hfl hk145 hv9 hr149 hr154⟩ (sc O (sc O (sc O sn))) (fun _ h=>h)
   have hv9:r145.1=0:=by simpa using hc9
   have hk145:=hr145.of hft
   refine Ce (Ex (Ex (Ebh (Eb ?_))))
   refine E0 O fun w' hw=>?_
   rw [hdt] at hw
   refine ⟨(false,r145.2,t.2.1.1,t.2.1.2.2),O,⟨?_,hg145,htl⟩,Wt 5 hw⟩
   rw [hE]
   rcases hk145 with ⟨h0,h1⟩ | ⟨h0,c,h1⟩
   · exact .inl ⟨h0,hlp.trans (loop_zero (fr_ok h1) hv9)⟩
   · exact .inr ⟨h0,c,hlp.trans (loop_pan (fr_ov h1))⟩
  rw [hsp138]
  refine WL.skip O O O O O ?_
  refine WL.skip O O O O O ?_
  refine WL.skip O O O O O ?_
  refine WL.skip O O O O O ?_
  refine WL.skip O O O O O ?_
  refine WL.skip O O O O O ?_
  refine WL.skip O O O O O ?_
  refine WL.skip O O O O O ?_
  refine V0 (yl_pickf O O) (Ln (Et ?_))
  refine Cc O (fun hc9=>?_) (fun hc9=>?_)
  ·
   cases hc9
  refine Ce (Ex (Ex (Ebh (Eb ?_))))
  refine E0 O fun w' hw=>?_
  refine ⟨(t.2.1.2.1,t.1,t.2.1.1,t.2.1.2.2),O,⟨?_,hgt,htl⟩,Wt 5 hw⟩
  rw [hE]
  rcases htw with ⟨h1,h2,_⟩ | ⟨h1,h2,h3⟩ | h3
  · rw [h1,h2] at hsp138; cases hsp138
  · rw [show t.2.1.2.1=true from h2]; exact .inl ⟨h1,h3⟩
  · exact .inr h3
 have hn5:¬y.op=5:=by simpa using hc8
 refine Cs (Cr (V0 (yl_eq O O) (V0 (Ya O) (Ln (Et ?_)))))
 refine Cc O (fun hc10=>?_) (fun hc10=>?_)
 ·
  have ho:y.op=6:=by simpa using hc10
  refine Cs ?_
  have hl1:=hlen.1 (by omega)
  obtain ⟨f,hfi⟩:∃v,y.args[0]? = some v:=⟨_,List.getElem?_eq_getElem (by omega)⟩
  obtain ⟨pf,qf,haf,hrf⟩:=hl.elt 0 f hfi
  obtain ⟨k2,rfl⟩:∃k2,k1=k2+1:=by
    cases k1 with
    | zero=>exact hrf.elim
    | succ k2=>exact ⟨k2,rfl⟩
  obtain ⟨fa,fc,hrowf,hsubf⟩:=hrf
  have hN2:=hN k2
  have hof:=nodesK_at hargs hfi
  have hE:actE (envU l lim) (callR (envU l lim) d) u y (⟨loc,v,s.w⟩:Fm)=(Rz.fr (⟨loc,v,s.w⟩:Fm) (nodeE (envU l lim) (callR (envU l lim) d) u f loc s.w)).bind fun v q=>.ok true { q with val:=v }:=by
    rw [actE_eq,actR,if_neg hn1,if_neg hn2,if_neg hn3,if_neg hn4,if_neg hn5,if_pos ho,kidE_at hfi]
  refine Cr (V0 (Ym O) (V0 (Ym O) (V0 (Yf fo104_4 O) (V0 (Yd 0 O O O na102) ?_))))
  refine V0 (Yo (i:=0) es102 O O haf (by omega)) ?_
  refine V0 (yl_lda 0 ag138 O O O (hrowf)) (Lf 5 O (Lf 5 O (Lf 5 O (Lf 5 O (Lf 5 O ?_)))))
  refine Lw (ι:=_) [_,_,_,_,_] _ Y O en121 O O (_) (_) (_) [H] (by simp) (fun w hw=>hN2 bs u z x loc false v f fa fc _ s w hg hx hsubf hof hw) ?_
  intro r163 ⟨hr163,hg163⟩
  refine V0 (Ya O) (Ln (Et (Cr (V0 (Ym O) (V0 (Ym O) (V0 (Ym O) (V0 (yl_nil O) ?_)))))))
  refine V0 (Yf fo132_3 O) (Lst 3 Y O O O sz3 O O O (V0 (yl_nil O) (V0 (Yf fo132_2 O) (Lst 3 Y O O O sz4 O O O (Ln (Eb ?_))))))
  refine E0 O fun w' hw=>?_
  refine ⟨(true,r163.2,loc,r163.1),O,⟨?_,hg163,O⟩,Wt 5 hw⟩
  rw [hE]
  by_cases h0:r163.2.fin=0
  · exact .inl ⟨h0,bind_ok (fr_ok ((hr163.of hf0).get h0))⟩
  · exact (hr163.of hf0).fr h0
 have hn6:¬y.op=6:=by simpa using hc10
 refine Cs (Cr (V0 (yl_eq O O) (V0 (Ya O) (Ln (Et ?_)))))
 refine Cc O (fun hc11=>?_) (fun hc11=>?_)
 ·
  have ho:y.op=7:=by simpa using hc11
  refine Cs ?_
  have hl1:=hlen.1 (by omega)
  obtain ⟨f,hfi⟩:∃v,y.args[0]? = some v:=⟨_,List.getElem?_eq_getElem (by omega)⟩
  obtain ⟨pf,qf,haf,hrf⟩:=hl.elt 0 f hfi
  obtain ⟨k2,rfl⟩:∃k2,k1=k2+1:=by
    cases k1 with
    | zero=>exact hrf.elim
    | succ k2=>exact ⟨k2,rfl⟩
  obtain ⟨fa,fc,hrowf,hsubf⟩:=hrf
  have hN2:=hN k2
  have hof:=nodesK_at hargs hfi
  have hE:actE (envU l lim) (callR (envU l lim) d) u y (⟨loc,v,s.w⟩:Fm)=(Rz.fr (⟨loc,v,s.w⟩:Fm) (nodeE (envU l lim) (callR (envU l lim) d) u f loc s.w)).bind fun v q=>(Rz.fr q (outR v q.w)).bind fun _ q=>.ok false q:=by
    rw [actE_eq,actR,if_neg hn1,if_neg hn2,if_neg hn3,if_neg hn4,if_neg hn5,if_neg hn6,if_pos ho,kidE_at hfi]
  refine Cr (V0 (Ym O) (V0 (Ym O) (V0 (Yf fo104_4 O) (V0 (Yd 0 O O O na102) ?_))))
  refine V0 (Yo (i:=0) es102 O O haf (by omega)) ?_
  refine V0 (yl_lda 0 ag138 O O O (hrowf)) (Lf 5 O (Lf 5 O (Lf 5 O (Lf 5 O (Lf 5 O ?_)))))
  refine Lw (ι:=_) [_,_,_,_,_] _ Y O en121 O O (_) (_) (_) [H] (by simp) (fun w hw=>hN2 bs u z x loc false v f fa fc _ s w hg hx hsubf hof hw) ?_
  intro r179 ⟨hr179,hg179⟩
  refine V0 (Ya O) (Ln (Et (Cs (Cs ?_))))
  have hk179:=hr179.of hf0
  refine Cr (V0 (Ym O) (V0 (yl_nil O) (V0 (Yf fo94_7 O) (V0 (Yd 0 O O O na3) (V0 (yl_ne O O) ?_)))))
  refine Ln (Et ?_)
  refine Cc O (fun hc12=>?_) (fun hc12=>?_)
  ·
   have hfz:¬r179.2.fin=0:=by simpa using hc12
   refine Crt (Er (Ebr ?_))
   refine WE.ret0 O fun w' hw=>?_
   exact ⟨(false,r179.2,loc,v),O,⟨by rw [hE]; exact hk179.fr hfz,hg179,O⟩,Wt 5 hw⟩
  have hfz:r179.2.fin=0:=by simpa using hc12
  have hE2:=hE.trans (bind_ok (fr_ok (hk179.get hfz)))
  have hgo:=hg179.out
  refine Ck (Et (Cs (Cs (Cr (V0 (Ym O) (V0 (yl_nil O) (V0 (Yf fo94_3 O) (V0 (Yd 0 O O O na29) (V0 (Yn es29 O) ?_)))))))))
  refine V0 (yl_eq O O) (Ln (Et ?_))
  refine Cc O (fun hc13=>?_) (fun hc13=>?_)
  ·
   have hno:r179.2.w.out.length=200:=by simp at hc13; omega
   refine Cs (Cr (V0 (Ym O) (V0 (yl_nil O) (V0 (Yf fo94_7 O) (Lst 0 Y O O O sz3 O O O (Ln (Et (Crt (Er (Ebr ?_))))))))))
   refine WE.ret0 O fun w' hw=>?_
   exact ⟨(false,⟨r179.2.w,5,r179.2.i,r179.2.o⟩,loc,v),O,⟨.inr ⟨(show (5:Int)≠0 by decide),r179.2.w.calls,hE2.trans (bind_ov (fr_ov (if_pos hno)))⟩,⟨hg179.inp,hg179.out,hg179.tk,hg179.dat,hg179.cl⟩,O⟩,Wt 5 hw⟩
  have hno:¬r179.2.w.out.length=200:=by simp at hc13; omega
  refine Ck (Et (Cr (V0 (Ym O) (V0 (Ym O) (V0 (yl_nil O) (V0 (Yf fo94_3 O) (V0 (Yd 0 O O O na29) ?_)))))))
  refine V0 (Ym O) ?_
  refine Lb Y O el29 O O O O fun b200=>?_
  refine LA (r179.1) 2 0 Y O el29 O O O O O O (by omega) (by omega) fun a201 c201=>?_
  refine V0 (yl_nil O) (V0 (Yf fo94_3 O) (Lst 1 Y O O O sz29 O O O (Ln (Eb ?_))))
  refine E0 O fun w' hw=>?_
  exact ⟨(false,⟨{ r179.2.w with out:=r179.2.w.out++[r179.1] },r179.2.fin,r179.2.i,(a201,c201)⟩,loc,v),O,⟨.inl ⟨hfz,hE2.trans (bind_ok (fr_ok (if_neg hno)))⟩,⟨hg179.inp,by show (_++[_]).length≤200; rw [List.length_append,List.length_singleton]; omega,hg179.tk,hg179.dat,hg179.cl⟩,O⟩,(by have h:=hw; have h:=h.fronti 5 O; have h:=h.fronti 5 O; have h:=h.fronti 5 O; have h:=h.fronti 5 O; have h:=h.fronti 5 O; exact Wt 5 h)⟩
 exfalso
 have hn7:¬y.op=7:=by simpa using hc11
 omega
end Go.Proofs.YtpjekjnehiinnaaGreatDoor
end
section
namespace Go.Proofs.YtpjekjnehiinnaaGreatDoor
open Go.Bw
def Acj (s:MdSt) (A B:Rz Fm Bool) (d:Bool) (loc:List Int) (v:Int) (t:MdSt):Prop:=(s.fin≠0∧t=s)∨(s.fin=0∧((t.fin=0∧d=false∧A=B)∨(t.fin=0∧d=true∧A = .ok true ⟨loc,v,t.w⟩)∨(t.fin≠0∧∃c,A = .ov t.fin { t.w with calls:=c })))
theorem acj_begin {s:MdSt} {A B:Rz Fm Bool} {loc:List Int} {v:Int} (h:A=B):Acj s A B false loc v s:=by
 by_cases h0:s.fin=0
 · exact .inr ⟨h0,.inl ⟨h0,O,h⟩⟩
 · exact .inl ⟨h0,O⟩
theorem acj_go {P:Env} {call:Cl} {u i:Nat} {l:List TAct} {y:TAct} {s t t2:MdSt} {A:Rz Fm Bool} {d d2:Bool} {loc loc2:List Int} {v v2:Int} (h:Acj s A (actsE P call u (l.drop i) ⟨loc,v,t.w⟩) d loc v t) (h0:t.fin=0) (hd:d=false) (hy:l[i]? = some y) (hr:Stf (actE P call u y ⟨loc,v,t.w⟩) d2 loc2 v2 t2) :
   Acj s A (actsE P call u (l.drop (i+1)) ⟨loc2,v2,t2.w⟩) d2 loc2 v2 t2:=by
 rcases h with ⟨h1,rfl⟩ | ⟨h1,h⟩
 · exact absurd h0 h1
 · refine .inr ⟨h1,?_⟩
   rcases h with ⟨_,_,h⟩ | ⟨_,h2,_⟩ | ⟨h2,_⟩
   · have h:=h.trans (actsE_at _ hy)
     rcases hr with ⟨h3,hr⟩ | ⟨h3,c,hr⟩
     · have h:=h.trans (bind_ok hr)
       cases d2 with
       | true=>exact .inr (.inl ⟨h3,rfl,h⟩)
       | false=>exact .inl ⟨h3,rfl,h⟩
     · exact .inr (.inr ⟨h3,c,h.trans (bind_ov hr)⟩)
   · rw [hd] at h2; cases h2
   · exact absurd h0 h2
theorem acj_end {P:Env} {call:Cl} {u i:Nat} {l:List TAct} {s t:MdSt} {A:Rz Fm Bool} {d:Bool} {loc:List Int} {v:Int} (h:Acj s A (actsE P call u (l.drop i) ⟨loc,v,t.w⟩) d loc v t) (he:((decide ((i:Int)<(l.length:Int))&&(t.fin==0))&&!d)=false):Sac s A d loc v t:=by
 rcases h with ⟨h1,h2⟩ | ⟨h1,h⟩
 · exact .inl ⟨h1,h2⟩
 · refine .inr ⟨h1,?_⟩
   rcases h with ⟨h2,h3,h⟩ | ⟨h2,h3,h⟩ | h
   · subst h3
     have hi:l.length≤i:=by rw [h2] at he; simp at he; exact he
     exact .inl ⟨h2,h.trans (actsE_end _ hi)⟩
   · subst h3; exact .inl ⟨h2,h⟩
   · exact .inr h
section
variable {P:Env} {d u:Nat} {loc:List Int} {body:List TAct} {s t:MdSt}
theorem call_tick (h:Stq s (tickW P s.w) () t) (h0:¬t.fin=0):Stq s (callR P (d+1) u loc body s.w) 0 t:=by
 rcases h with ⟨h1,h2⟩ | ⟨h1,h⟩
 · exact .inl ⟨h1,h2⟩
 · rcases h with ⟨h2,_⟩ | ⟨_,c,h⟩
   · exact absurd h2 h0
   · exact .inr ⟨h1,.inr ⟨h0,c,callR_ov1 h⟩⟩
theorem call_over (h:Stq s (tickW P s.w) () t) (h0:t.fin=0) (hc:t.w.calls=24):Stq s (callR P (d+1) u loc body s.w) 0 ⟨t.w,4,t.i,t.o⟩:=by
 rcases h with ⟨h1,rfl⟩ | ⟨h1,h⟩
 · exact absurd h0 h1
 · exact .inr ⟨h1,.inr ⟨(show (4:Int)≠0 by decide),t.w.calls,callR_ov2 (h.get h0) hc⟩⟩
theorem call_done {d3:Bool} {loc3:List Int} {v3:Int} {t3:MdSt} (h:Stq s (tickW P s.w) () t) (h0:t.fin=0) (hc:¬t.w.calls=24) (ha:Sac ⟨{ t.w with calls:=t.w.calls+1 },t.fin,t.i,t.o⟩ (actsE P (callR P d) u body ⟨loc,0,{ t.w with calls:=t.w.calls+1 }⟩) d3 loc3 v3 t3) :
   Stq s (callR P (d+1) u loc body s.w) v3 ⟨{ t3.w with calls:=t3.w.calls-1 },t3.fin,t3.i,t3.o⟩:=by
 rcases h with ⟨h1,rfl⟩ | ⟨h1,h⟩
 · exact absurd h0 h1
 · refine .inr ⟨h1,?_⟩
   rcases ha with ⟨h2,_⟩ | ⟨_,ha⟩
   · exact absurd h0 h2
   · rcases ha with ⟨h3,ha⟩ | ⟨h3,c,ha⟩
     · exact .inl ⟨h3,callR_ok (h.get h0) hc ha⟩
     · exact .inr ⟨h3,c,callR_ov3 (h.get h0) hc ha⟩
end
theorem en84:Enters Tryz.prog 84:=enters_of Tryz.func84 (by kernel_rfl) rfl
theorem fo94_6:fieldOff Tryz.prog 94 6=some 6:=by kernel_rfl
theorem pl132:placesP Tryz.prog 132=some [(0,1),(1,1),(2,1),(3,1)]:=by kernel_rfl
theorem zr132:zeroOf Tryz.prog 132=some (.agg #[.int .i64 0,.slice none 0 0,.bool false,.int .i64 0]):=by kernel_rfl
theorem racts_run (H:View) (n:Nat) (K:KW) (da:List SP) (l:List TUnit) (lim bm C d:Nat) (bs u:Nat) (z:TUnit) (x:SP) (loc:List Int) (v:Int) (body:List TAct) (a:Option Addr) (c k1 k dd:Nat) (s:MdSt) (w:World) (hg:MGood H (envU l lim) (sumU l) C s) (hM:MindAt H n K da l lim) (hx:l[u]? = some z) (hC:VCall H n K da l lim bm C d) (hl:Sl (RdA k1 k) 7 H a c body) (hok:actsA (knM z::usesKn l z) loc.length body dd=true) (hw:Ws w (List.flatMap Asr.ids ((mown 94 3 bm K da l lim s)++(rown 132 3 bs u x loc false v))) ((mown 94 3 bm K da l lim s)++(rown 132 3 bs u x loc false v)) [H] w) :
   Calls Tryz.prog 59 #[.pointer (some ⟨bm,0,none⟩),.pointer (some ⟨bs,0,none⟩),.slice a body.length c] w fun e w'=>∃r:Bool×MdSt×List Int×Int,e = .returned (.tuple #[])∧(Sac s (actsE (envU l lim) (callR (envU l lim) d) u body (⟨loc,v,s.w⟩:Fm)) r.1 r.2.2.1 r.2.2.2 r.2.1∧MGood H (envU l lim) (sumU l) C r.2.1∧r.2.2.1.length=loc.length)∧Ws w (List.flatMap Asr.ids ((mown 94 3 bm K da l lim s)++(rown 132 3 bs u x loc false v))) ((mown 94 3 bm K da l lim r.2.1)++(rown 132 3 bs u x r.2.2.1 r.1 r.2.2.2)) [H] w':=by
 have hD:=sum_le hM.ok
 induction k using Nat.strongRecOn generalizing bs u z x loc v body a c dd s w
 rename_i k ih
 have hA:∀k2,k2<k→VAc H n K da l lim bm C d k1 k2:=fun k2 h bs u z x loc v y a c dd s w h1 h2 h3 h4 h5=>ih k2 h bs u z x loc v y a c dd s w h1 h2 h3 h4 h5
 have hcap:=hl.cap
 have hmax:=hl.max
 refine enter Tryz.func59 O 34 O O ?_
 refine CWd (W':=Ws w (List.flatMap Asr.ids ((mown 94 3 bm K da l lim s)++(rown 132 3 bs u x loc false v))) ((mown 94 3 bm K da l lim s)++(rown 132 3 bs u x loc false v)) [H]) (fun _ e=>by subst e; exact hw) ?_
 refine Cs (Cr (V0 (Ya O) (Ln (Et (Cb ?_)))))
 refine CLk (ι:=Nat×MdSt×List Int×Bool×Int) (fun t=>[(6,.int .i64 (t.1:Int))]) [(0,_),(1,_),(2,_)] (fun t=>Ws w (List.flatMap Asr.ids ((mown 94 3 bm K da l lim s)++(rown 132 3 bs u x loc false v))) ((mown 94 3 bm K da l lim t.2.1)++(rown 132 3 bs u x t.2.2.1 t.2.2.2.1 t.2.2.2.2)) [H]) (fun t=>t.1≤body.length∧(MGood H (envU l lim) (sumU l) C t.2.1)∧t.2.2.1.length=loc.length∧Acj s (actsE (envU l lim) (callR (envU l lim) d) u body (⟨loc,v,s.w⟩:Fm)) (actsE (envU l lim) (callR (envU l lim) d) u (body.drop t.1) ⟨t.2.2.1,t.2.2.2.2,t.2.1.w⟩) t.2.2.2.1 t.2.2.1 t.2.2.2.2 t.2.1) (fun t=>body.length-t.1) (0,s,loc,false,v) ⟨Nat.zero_le _,hg,O,acj_begin O⟩ (sc O (sc O (sc O (sc O sn)))) (fun _ h=>h) ?_
 intro t ⟨hti,hgt,htl,hte⟩
 refine Cs (Cs (Cr (V0 (Ym O) (V0 (Ym O) (V0 (Yn es24 O) (V0 (yl_lt O O) (V0 (Ym O) ?_)))))))
 apply La 5 (x:=(t.2.1.fin==0)) O O O O Y O O O O O
 ·
  intro hg0
  refine Vg (Ym O) (Vg (yl_nil O) (Vg (Yf fo94_7 O) (Vg (Yd 0 O O O na3) (Vg (yl_eq O O) ?_))))
  exact Gt 5 O O O
 refine V0 (Ym O) ?_
 apply La 5 (x:=(!t.2.2.2.1)) O O O O Y O O O O O
 ·
  intro hg1
  refine Vg (Ym O) (Vg (yl_nil O) (Vg (Yf fo132_2 O) (Vg (Yd 3 O O O na4) (Vg (yl_not O) ?_))))
  exact Gt 5 O O O
 refine Ln (Et ?_)
 refine Cc O (fun hc0=>?_) (fun hc0=>?_)
 ·
  have hcc:((decide ((t.1:Int)<(body.length:Int))&&(t.2.1.fin==0))&&!t.2.2.2.1)=true:=hc0
  obtain ⟨⟨hlt0,hft⟩,hdt⟩:(t.1<body.length∧t.2.1.fin=0)∧t.2.2.2.1=false:=by simpa using hcc
  have hlt:=hlt0
  obtain ⟨y,hyi⟩:∃y,body[t.1]? = some y:=⟨_,List.getElem?_eq_getElem hlt⟩
  obtain ⟨py,qy,hay,hry⟩:=hl.elt t.1 y hyi
  obtain ⟨k2,rfl⟩:∃k2,k=k2+1:=by
    cases k with
    | zero=>exact hry.elim
    | succ k2=>exact ⟨k2,rfl⟩
  obtain ⟨ry,hrow,h1,h2,h3⟩:=hry
  have hoy:=actsA_at hok hyi
  refine CWd (W':=Ws w (List.flatMap Asr.ids ((mown 94 3 bm K da l lim s)++(rown 132 3 bs u x loc false v))) ((mown 94 3 bm K da l lim t.2.1)++(rown 132 3 bs u x t.2.2.1 false t.2.2.2.2)) [H]) (fun _ h=>by rw [hdt] at h; exact h) ?_
  refine Ck (Et (Cs (Cb (Cr (V0 (Ym O) (V0 (Ym O) (V0 (Ym O) (V0 (Ym O) (V0 (Yo es24 O O hay hlt) ?_)))))))))
  refine V0 (yl_lda 0 ag104 O O O (hrow)) (Lf 4 O (Lf 4 O (Lf 4 O (Lf 4 O (Lf 4 O ?_)))))
  refine Lw (ι:=_) [_,_,_,_,_] _ Y O en84 O O (_) (_) (_) [H] (by simp) (fun w hw=>ract_run H n K da l lim bm C d bs u z x t.2.2.1 t.2.2.2.2 y ry k1 k2 _ t.2.1 w hgt hM hx hft hC (hA k2 (by omega)) h1 h2 h3 (by rw [htl]; exact hoy) hw) ?_
  intro r33 ⟨hr33,hg33,hln33⟩
  refine Ln (Eb (Et (Cr (V0 (Ym O) ?_))))
  refine V0 (Yi O O O (by omega)) ?_
  refine V0 (Ya O) (Ln ?_)
  exact Ea ((t.1+1,r33.2.1,r33.2.2.1,r33.1,r33.2.2.2):Nat×MdSt×List Int×Bool×Int) (by show _-(t.1+1)<_; omega) ⟨by show t.1+1≤_; omega,hg33,hln33.trans htl,acj_go hte hft hdt hyi hr33⟩ (sc O (sc O (sc O (sc O sn)))) (fun _ h=>h)
 have hcc:((decide ((t.1:Int)<(body.length:Int))&&(t.2.1.fin==0))&&!t.2.2.2.1)=false:=hc0
 refine Ce (Ex (Ex (Ebh ?_)))
 refine E0 O fun w' hw=>?_
 exact ⟨(t.2.2.2.1,t.2.1,t.2.2.1,t.2.2.2.2),O,⟨acj_end hte hcc,hgt,htl⟩,hw⟩
theorem rcall_run (H:View) (n:Nat) (K:KW) (da:List SP) (l:List TUnit) (lim bm C d:Nat) (u:Nat) (z:TUnit) (x:SP) (loc:List Int) (body:List TAct) (a:Option Addr) (c k1 k2:Nat) (s:MdSt) (w:World) (hM:MindAt H n K da l lim) (hcd:C≤24) (hC:C+1≤24→VCall H n K da l lim bm (C+1) d) (hg:MGood H (envU l lim) (sumU l) C s) (hx:l[u]? = some z) (hl:Sl (RdA k1 k2) 7 H a c body) (hok:actsK (knM z::usesKn l z) loc.length body 1=true) (hw:Ws w (List.flatMap Asr.ids ((mown 94 3 bm K da l lim s)++[osT 3 1 n1C x.1 x.2 loc])) ((mown 94 3 bm K da l lim s)++[osT 3 1 n1C x.1 x.2 loc]) [H] w) :
   Calls Tryz.prog 40 #[.pointer (some ⟨bm,0,none⟩),.int .i64 (u:Int),.slice x.1 loc.length x.2,.slice a body.length c] w fun e w'=>∃r:Int×MdSt,e = .returned (.int .i64 r.1)∧(Stq s (callR (envU l lim) (d+1) u loc body s.w) r.1 r.2∧MGood H (envU l lim) (sumU l) C r.2)∧Ws w (List.flatMap Asr.ids ((mown 94 3 bm K da l lim s)++[osT 3 1 n1C x.1 x.2 loc])) (mown 94 3 bm K da l lim r.2) [H] w':=by
 refine enter Tryz.func40 O 58 O O ?_
 refine CWd (W':=Ws w (List.flatMap Asr.ids ((mown 94 3 bm K da l lim s)++[osT 3 1 n1C x.1 x.2 loc])) ((mown 94 3 bm K da l lim s)++[osT 3 1 n1C x.1 x.2 loc]) [H]) (fun _ e=>by subst e; exact hw) ?_
 refine Cs (Cr (V0 (Ya O) (Ln (Et (Cs (Cr (V0 (Ym O) (Lf 2 O (Lf 2 O ?_)))))))))
 refine Lf 2 O ?_
 refine Lw (ι:=_) [_,_,_] _ Y O en58 O O (_) (_) (_) [H] (by simp) (fun w hw=>rtick_any bm K da l lim C H s w hg hM.lim hw) ?_
 intro r11 ⟨hr11,hg11⟩
 refine Ln (Et (Cs (Cs ?_)))
 have hcl:=hg11.cl
 refine Cr (V0 (Ym O) (V0 (yl_nil O) (V0 (Yf fo94_7 O) (V0 (Yd 0 O O O na3) (V0 (yl_eq O O) ?_)))))
 refine V0 (Ym O) ?_
 apply La 5 (x:=((r11.w.calls:Int)==24)) O O O O Y O O O O O
 ·
  intro hg0
  refine Vg (Ym O) (Vg (yl_nil O) (Vg (Yf fo94_6 O) (Vg (Yd 0 O O O na3) (Vg (yl_eq O O) ?_))))
  exact Gt 5 O O O
 refine Ln (Et ?_)
 refine Cc O (fun hc0=>?_) (fun hc0=>?_)
 ·
  have hf:r11.fin=0∧r11.w.calls=24:=by simp at hc0; omega
  refine Cr (V0 (Ym O) (V0 (yl_nil O) (V0 (Yf fo94_7 O) (Lst 0 Y O O O sz3 O O O (Ln (Et (Cs (Cs (Cr ?_)))))))))
  refine V0 (Ym O) (V0 (yl_nil O) (V0 (Yf fo94_7 O) (V0 (Yd 0 O O O na3) (V0 (yl_ne O O) (Ln (Et ?_))))))
  refine Cc O (fun hc1=>?_) (fun hc1=>?_)
  ·
   refine Cs (Cr (V0 (Ya O) (Ln (Et (Crt (Er ?_))))))
   refine R1 O O fun w' hw=>?_
   refine ⟨(0,⟨r11.w,4,r11.i,r11.o⟩),O,⟨call_over hr11 hf.1 hf.2,⟨hg11.inp,hg11.out,hg11.tk,hg11.dat,hg11.cl⟩⟩,Wt 3 hw⟩
  cases hc1
 have hf:¬(r11.fin=0∧r11.w.calls=24):=by intro h; rw [h.1,h.2] at hc0; simp at hc0
 refine Ck (Et (Cs (Cs (Cr (V0 (Ym O) (V0 (yl_nil O) (V0 (Yf fo94_7 O) (V0 (Yd 0 O O O na3) (V0 (yl_ne O O) ?_)))))))))
 refine Ln (Et ?_)
 refine Cc O (fun hc1=>?_) (fun hc1=>?_)
 ·
  have hf1:¬r11.fin=0:=by simpa using hc1
  refine Cs (Cr (V0 (Ya O) (Ln (Et (Crt (Er ?_))))))
  refine R1 O O fun w' hw=>?_
  exact ⟨(0,r11),O,⟨call_tick hr11 hf1,hg11⟩,Wt 3 hw⟩
 have hf1:r11.fin=0:=by simpa using hc1
 have hne:¬r11.w.calls=24:=fun h=>hf ⟨hf1,h⟩
 have hg1:MGood H (envU l lim) (sumU l) (C+1) (⟨{ r11.w with calls:=r11.w.calls+1 },r11.fin,r11.i,r11.o⟩:MdSt):=⟨hg11.inp,hg11.out,hg11.tk,hg11.dat,by show r11.w.calls+1=C+1; rw [hcl]⟩
 refine Ck (Et (Cs (Cr (V0 (Ym O) (V0 (yl_nil O) (V0 (Yf fo94_6 O) (V0 (Yd 0 O O O na3) ?_)))))))
 refine V0 (Yi O O O (by omega)) ?_
 refine V0 (yl_nil O) (V0 (Yf fo94_6 O) (Lst 0 Y O O O sz3 O O O (Ln (Et (Cs ?_)))))
 refine Crb 0 (mob 94 K l lim (⟨{ r11.w with calls:=r11.w.calls+1 },r11.fin,r11.i,r11.o⟩:MdSt)) O O ?_
 refine Cr (V0 (Ym O) (V0 (Ym O) (V0 (Yb zr132 pl132 O O) ?_)))
 refine WL.box Y O O fun b42=>?_
 obtain ⟨bs,hbs⟩:∃q,q=b42:=⟨_,rfl⟩
 subst hbs
 refine Lrb 0 (rcb 132 u x loc.length false 0) O O ?_
 refine V0 (Ya O) (Ln (Et (Cs (Cr (V0 (Ym O) (V0 (Ym O) (V0 (Ym O) (Lf 4 O ?_))))))))
 refine Lf 1 O (Lf 4 O (Lf 4 O (Lf 4 O ?_)))
 refine Lw (ι:=_) [_,_,_,_,_] _ Y O en59 O O (_) (_) (_) [H] (by simp) (fun w hw=>racts_run H n K da l lim bm (C+1) d bs u z x loc 0 body a c k1 k2 1 (⟨{ r11.w with calls:=r11.w.calls+1 },r11.fin,r11.i,r11.o⟩:MdSt) w hg1 hM hx (hC (by omega)) hl (actsK_A hok) hw) ?_
 intro r46 ⟨hr46,hg46,hln46⟩
 refine Ln (Et (Cs ?_))
 have hcl2:=hg46.cl
 refine Cr (V0 (Ym O) (V0 (yl_nil O) (V0 (Yf fo94_6 O) (V0 (Yd 0 O O O na3) ?_))))
 refine V0 (yl_subv (((r46.2.1.w.calls-1:Nat)):Int) O O (by omega) (by omega)) ?_
 refine V0 (yl_nil O) (V0 (Yf fo94_6 O) (Lst 0 Y O O O sz3 O O O (Ln (Et (Cs ?_)))))
 refine Crb 0 (mob 94 K l lim (⟨{ r46.2.1.w with calls:=r46.2.1.w.calls-1 },r46.2.1.fin,r46.2.1.i,r46.2.1.o⟩:MdSt)) O O ?_
 refine Cr (V0 (Ym O) (V0 (yl_nil O) (V0 (Yf fo132_3 O) (V0 (Yd 3 O O O na3) (V0 (Ya O) ?_)))))
 refine Ln (Et (Crt ?_))
 refine R1 O O fun w' hw=>?_
 exact ⟨(r46.2.2.2,(⟨{ r46.2.1.w with calls:=r46.2.1.w.calls-1 },r46.2.1.fin,r46.2.1.i,r46.2.1.o⟩:MdSt)),O,⟨call_done hr11 hf1 hne hr46,⟨hg46.inp,hg46.out,hg46.tk,hg46.dat,by show r46.2.1.w.calls-1=C; omega⟩⟩,Wt 3 hw⟩
theorem vcall_all (H:View) (n:Nat) (K:KW) (da:List SP) (l:List TUnit) (lim bm:Nat) (hM:MindAt H n K da l lim):∀d C,C+d=25→C≤24→VCall H n K da l lim bm C d
 | 0,C,h1,h2=>absurd h1 (by omega)
 | d+1,C,h1,h2=>fun u z x loc body a c k1 k2 s w hg hx hl hok hw=>rcall_run H n K da l lim bm C d u z x loc body a c k1 k2 s w hM h2 (fun h=>vcall_all H n K da l lim bm hM d (C+1) (by omega) h) hg hx hl hok hw
end Go.Proofs.YtpjekjnehiinnaaGreatDoor
end
section
namespace Go.Proofs.YtpjekjnehiinnaaGreatDoor
open Go.Bw
def mob0 (T:TypeId) (ls dat ins:Value) (lim:Int):Obj:=.cells #[ls,dat,ins,.slice none 0 0,.int .i64 0,.int .i64 lim,.int .i64 0,.int .i64 0] T (0,0)
theorem rows_snoc {tI:TypeId} {w0 w:World} {F:List Nat} {L:List Asr} {Vs:List View} {da:List SP} {rs:List (List Int)} (r:SP) {xs:List Int} (hl:da.length=rs.length) (h:Ws w0 F (osT tI 1 n1C r.1 r.2 xs::fam (rowsA tI da rs)::L) Vs w):Ws w0 F (fam (rowsA tI (da++[r]) (rs++[xs]))::L) Vs w:=by
 have h2:=h.fam_snoc
 unfold rowsA at h2 ⊢
 rw [List.zipWith_append hl]
 exact h2
def zrU (u:TUnit):List Int:=List.replicate u.data.toNat 0
theorem zip_snoc {l:List TUnit} {da:List SP} {u:TUnit} (r:SP) (h:l.length=da.length):zipDX (l++[u]) (da++[r])=zipDX l da++[(u.data.toNat,r)]:=by unfold zipDX; rw [List.zipWith_append h]; rfl
def Mnj (A B:Rz Wm Unit) (t:MdSt):Prop:=(t.fin=0∧A=B)∨(t.fin≠0∧∃c,A = .ov t.fin { t.w with calls:=c })
theorem mnj_go {P:Env} {l:List TUnit} {i:Nat} {x:TUnit} {A:Rz Wm Unit} {t t2:MdSt} {v:Int} (h:Mnj A (mainsR P (l.drop i) i t.w) t) (h0:t.fin=0) (hx:l[i]? = some x) (hr:Stq t (callR P 25 i [] x.main t.w) v t2):Mnj A (mainsR P (l.drop (i+1)) (i+1) t2.w) t2:=by
 rcases h with ⟨_,h⟩ | ⟨h,_⟩
 · have h:=h.trans (mains_at _ hx)
   rcases hr with ⟨h1,_⟩ | ⟨_,hr⟩
   · exact absurd h0 h1
   · rcases hr with ⟨h2,hr⟩ | ⟨h2,c,hr⟩
     · exact .inl ⟨h2,h.trans (bind_ok hr)⟩
     · exact .inr ⟨h2,c,h.trans (bind_ov hr)⟩
 · exact absurd h0 h
theorem runU_of {l:List TUnit} {inp:List Int} {lim i:Nat} {t:MdSt} (h:Mnj (mainsR (envU l lim) l 0 (w0R l inp)) (mainsR (envU l lim) (l.drop i) i t.w) t) (he:(decide ((i:Int)<(l.length:Int))&&(t.fin==0))=false):runU l inp lim=endW t.w t.fin:=by
 unfold runU
 rw [show (⟨List.replicate (sumU l) 0,inp,[],0,0⟩:Wm)=w0R l inp from rfl]
 rcases h with ⟨h0,h⟩ | ⟨h0,c,h⟩
 · have hi:l.length≤i:=by rw [h0] at he; simp at he; exact he
   rw [h,mains_end _ hi,h0]
 · rw [h]; rfl
theorem flatq_snoc {rs:List (List Int)} {i:Nat} {x:List Int} (h:rs[i]? = some x):(rs.take (i+1)).flatten=(rs.take i).flatten++x:=by rw [List.take_add_one,h]; simp
theorem flat_le {l:List TUnit} {d:List Int} (hd:d.length=sumU l) (i:Nat):((splitU l d).take i).flatten.length≤sumU l:=by
 have h:=split_flat hd
 rw [←hd,←h]
 conv=>rhs; rw [←List.take_append_drop i (splitU l d),List.flatten_append,List.length_append]
 rw [h]
 exact Nat.le_add_right _ _
theorem pl94:placesP Tryz.prog 94=some [(0,1),(1,1),(2,1),(3,1),(4,1),(5,1),(6,1),(7,1)]:=by kernel_rfl
theorem zr94:zeroOf Tryz.prog 94=some (.agg #[.slice none 0 0,.slice none 0 0,.slice none 0 0,.slice none 0 0,.int .i64 0,.int .i64 0,.int .i64 0,.int .i64 0]):=by kernel_rfl
set_option maxHeartbeats 4000000 in
theorem runUnits_any (H:View) (n:Nat) (a:Option Addr) (c:Nat) (l:List TUnit) (Hi:View) (ai:Option Addr) (ci:Nat) (inp:List Int) (ticks:Int) (w:World) (hH:Le H w) (hl:Sl (rdUn n) 5 H a c l) (hb:∀u ∈ l,u.uses.length≤1048576) (hHi:Le Hi w) (hmi:Sl rdN1 1 Hi ai ci inp) (hE:runE l inp ticks=0) :
   Calls Tryz.prog 18 #[.slice a l.length c,.slice ai inp.length ci,.int .i64 ticks] w fun e w'=>∃r:SP×SP,e = .returned (.agg #[.int .i64 (runU l inp ticks.toNat).fin,.slice r.1.1 (runU l inp ticks.toNat).out.length r.1.2,.slice r.2.1 (runU l inp ticks.toNat).data.length r.2.2,.int .i64 (runU l inp ticks.toNat).ticks])∧Ext w w'∧Sl rdN1 1 (nv w w') r.1.1 r.1.2 (runU l inp ticks.toNat).out∧Sl rdN1 1 (nv w w') r.2.1 r.2.2 (runU l inp ticks.toNat).data:=by
 have hcap:=hl.cap
 have hmax:=hl.max
 have hz0:=runE_zero.1 hE
 have hok:=checkUs_zero.1 hz0.1
 have hsum:=sum_le hok
 have hfew:=hok.few
 have hts:0≤ticks∧ticks≤2000:=hz0.2.2
 refine enter Tryz.func18 O 90 O O ?_
 refine CWd (W':=Ws w [] [] [Hi,H]) (fun _ e=>by subst e; exact Ws.init (by simp [hHi,hH])) ?_
 refine Cs (Cr ?_)
 refine Al Y O zr42 fun b6=>?_
 refine Ln (Et (Cs (Cr (V0 (Ym O) (V0 (Ym O) (V0 (Ym O) (V0 (Yb zr94 pl94 O O) ?_)))))))
 refine WL.box Y O O fun b16=>?_
 obtain ⟨bm,hbm⟩:∃q,q=b16:=⟨_,rfl⟩
 subst hbm
 refine Lrb 0 (mob0 94 (.slice a l.length c) (.slice none 0 0) (.slice ai inp.length ci) ticks) O O ?_
 refine V0 (Ya O) (Ln (Et (Cs (Cs ?_))))
 refine CWd (fun _ h=>h.fam_nil) ?_
 refine CWd (fun _ h=>h.osl_nil 29 1) ?_
 refine Cr (V0 (Ya O) (Ln (Et (Cb ?_))))
 refine CLk (ι:=Nat×List SP×SP) (fun g=>[(8,.int .i64 (g.1:Int))]) [(0,_),(6,_),(7,_)] (fun g=>Ws w [] [osT 29 1 DX.cells g.2.2.1 g.2.2.2 (zipDX (l.take g.1) g.2.1),fam (rowsA 3 g.2.1 ((l.take g.1).map zrU)),blk bm (mob0 94 (.slice a l.length c) (.slice g.2.2.1 (zipDX (l.take g.1) g.2.1).length g.2.2.2) (.slice ai inp.length ci) ticks),blk b6 (.cells (Value.cells (.agg #[.int .i64 0,.slice none 0 0,.slice none 0 0,.int .i64 0])) 42 (0,0))] [Hi,H]) (fun g=>g.1≤l.length∧g.2.1.length=g.1) (fun g=>l.length-g.1) (0,[],(none,0)) ⟨Nat.zero_le _,O⟩ (sc O (sc O (sc O (sc O sn)))) (fun _ h=>h) ?_
 intro g ⟨hgi,hgl⟩
 refine Cs (Cs (Cr (V0 (Ym O) (V0 (Ym O) (V0 (Yn es38 O) (V0 (yl_lt O O) (Ln (Et ?_))))))))
 refine Cc O (fun hc0=>?_) (fun hc0=>?_)
 ·
  have hlt:g.1<l.length:=by simpa using hc0
  obtain ⟨u,hui⟩:∃q,l[g.1]? = some q:=⟨_,List.getElem?_eq_getElem hlt⟩
  obtain ⟨pbu,pou,hau,hru⟩:=hl.elt g.1 u hui
  obtain ⟨ru_,hrowu,hruu⟩:=hru
  have hdat:0≤u.data∧u.data≤512:=by
    have h9:=fine_head (hok.fine u (List.mem_of_getElem? hui))
    unfold headC at h9
    simp only [Bool.or_eq_false_iff,decide_eq_false_iff_not] at h9
    omega
  have htl:(l.take g.1).length=g.1:=by rw [List.length_take]; omega
  have hzl:(zipDX (l.take g.1) g.2.1).length=g.1:=by rw [zipDX_len (by omega)]; exact htl
  have hdl1:g.2.1.length=((l.take g.1).map zrU).length:=by rw [List.length_map]; omega
  refine Ck (Et (Cs (Cb ?_)))
  refine CU (fun _=>true) [0] [15] (.q false 0 (.q false 1 (.q false 2 (.q false 3 (.q true 4 (.q false 5 (.q false 6 (.q false 7 (.q false 8 (.q true 9 (.e 10 (.e 11 (.e 12 (.q false 13 (.q false 14 .nil)) .stop) .stop) .stop))))))))))) mixed (by kernel_rfl) (fun _ _ _ d _ _ h=>by cases d<;>exact h) ?_
  refine U0 O (Wp 0) (Ym O) (U0 O (Wp 0) (Ym O) (U0 O (Wp 0) (yl_nil O) (U0 O (Wp 0) (Yf fo94_1 O) (U0 O (Wp 0) (Yd 1 O O O na85) (U0 O (Wp 0) (Ym O) ?_)))))
  refine U0 O (Wp 0) (Ym O) (U0 O (Wp 0) (Yo es38 O O hau hlt) (U0 O (Wp 0) (Yf fo26_2 O) (U0 O (Wp 0) (yl_ld 1 na3 O O (hrowu 2 _ O)) ?_)))
  refine Ue O (Wp 0) ?_ WU.stop
  refine WL.make Y O el29 O O (by omega) (by omega) (by omega) (by omega) fun b33=>?_
  refine Lrb 0 (.cells ((List.replicate u.data.toNat (0:Int)).flatMap n1C).toArray 3 (0,0)) O (by rw [n1_made]) ?_
  refine LW (fun _ h=>h.osT_blk (f:=n1C) (xs:=List.replicate u.data.toNat 0) (c:=u.data.toNat) 0 O n1C_len (by simp) (by unfold maxLen; omega)) ?_
  refine Ln (Eu ?_)
  refine Ue O (fun _ h=>(Wo 0 (Wd 1 h):)) ?_ WU.stop
  refine Lb Y O el85 O O O O fun b34=>?_
  refine Lrb 0 (.cells (DX.cells (u.data.toNat,((some ⟨b33,0,none⟩,u.data.toNat):SP))).toArray 29 (0,0)) O (O) ?_
  refine Ln (Eu ?_)
  refine Ue O (fun _ h=>(Wo 0 (Wd 2 h):)) ?_ WU.stop
  refine LA (((u.data.toNat,((some ⟨b33,0,none⟩,u.data.toNat):SP)):DX)) 2 0 Y O el85 O O O O O O (by omega) (by omega) fun a35 c35=>?_
  refine Ln (Eu (U0 O (fun _ h=>(Wo 0 (Wd 2 h):)) (yl_nil O) (U0 O (fun _ h=>(Wo 0 (Wd 2 h):)) (Yf fo94_1 O) ?_)))
  refine WU.nil (fun _ h=>(Wo 0 (Wd 2 h):)) ?_
  refine WS.e O ?_
  refine Lst 4 Y O O O sz85 O O O (Ln (Es ?_))
  refine WS.nil ?_
  refine Eb (Et ?_)
  refine CWd (fun _ h=>rows_snoc ((some ⟨b33,0,none⟩,u.data.toNat):SP) hdl1 ((h.fronti 3 O).fronti 2 O)) ?_
  refine Cr (V0 (Ym O) ?_)
  refine V0 (Yi O O O (by omega)) ?_
  refine V0 (Ya O) (Ln ?_)
  rw [←zip_snoc (u:=u) ((some ⟨b33,0,none⟩,u.data.toNat):SP) (by omega),show l.take g.1++[u]=l.take (g.1+1) by rw [List.take_add_one,hui]; rfl,show (l.take g.1).map zrU++[List.replicate u.data.toNat 0]=(l.take (g.1+1)).map zrU by rw [List.take_add_one,hui]; simp [zrU]]
  exact Ea ((g.1+1,g.2.1++[((some ⟨b33,0,none⟩,u.data.toNat):SP)],(a35,c35)):Nat×List SP×SP) (by show _-(g.1+1)<_; omega) ⟨by show g.1+1≤_; omega,by show (g.2.1++[_]).length=g.1+1; rw [List.length_append,List.length_singleton]; omega⟩ (sc O (sc O (sc O (sc O sn)))) (fun _ h=>by exact (Wt 4 ((((h.f 4 O).f 4 O).f 2 O).f 4 O):))
 have hge:g.1=l.length:=by simp at hc0; omega
 rw [hge,List.take_length]
 refine Ce (Ex (Ex (Ebh (Et (Cs (Cs ?_))))))
 rw [show l.map zrU=splitU l (w0R l inp).data from (split_zero l).symm]
 refine WC.oslview (rd:=rdDX) 0 O DX.cells_len (fun _ _ _ _ h=>h) fun HD hHD=>?_
 refine WC.vjoin fun j1 j1a j1b j1f=>?_
 refine WC.vjoin fun N Na Nb Nf=>?_
 have hdl9:g.2.1.length=l.length:=by omega
 have hM:MindAt N n (⟨(a,c),g.2.2,(none,0)⟩:KW) g.2.1 l ticks.toNat:=⟨hok,by omega,hl.imp (rdUn_mono Nb n),hdl9,hHD.imp (fun b o x h=>RdC.mono (VLe.trans j1a Na) h),hb⟩
 have hgd:MGood N (envU l ticks.toNat) (sumU l) 0 (⟨w0R l inp,0,(ai,ci),(none,0)⟩:MdSt):=⟨hmi.imp fun b o x h=>RdC.mono (VLe.trans j1b Na) h,by show 0≤200; decide,Nat.zero_le _,by show (List.replicate (sumU l) 0).length=_; simp,rfl⟩
 obtain ⟨K,hK⟩:∃K:KW,K=⟨(a,c),g.2.2,(none,0)⟩:=⟨_,rfl⟩
 rw [←hK] at hM
 have hKl:K.l=(a,c):=by rw [hK]
 have hKu:K.u=g.2.2:=by rw [hK]
 refine CWd (fun _ h=>h.osl_nil 3 1) ?_
 refine Crb 2 (mob 94 K l ticks.toNat (⟨w0R l inp,0,(ai,ci),(none,0)⟩:MdSt)) O (by unfold mob mob0; rw [hKl,hKu,zipDX_len hdl9,Int.toNat_of_nonneg hts.1]; rfl) ?_
 refine Cr (V0 (Ya O) (Ln (Et (Cb ?_))))
 refine CLk (ι:=Nat×MdSt) (fun t=>[(9,.int .i64 (t.1:Int))]) [(0,_),(6,_),(7,_)] (fun t=>Ws w [] ((mown 94 3 bm K g.2.1 l ticks.toNat t.2)++[blk b6 (.cells (Value.cells (.agg #[.int .i64 0,.slice none 0 0,.slice none 0 0,.int .i64 0])) 42 (0,0))]) [N]) (fun t=>MGood N (envU l ticks.toNat) (sumU l) 0 t.2∧Mnj (mainsR (envU l ticks.toNat) l 0 (w0R l inp)) (mainsR (envU l ticks.toNat) (l.drop t.1) t.1 t.2.w) t.2) (fun t=>l.length-t.1) (0,(⟨w0R l inp,0,(ai,ci),(none,0)⟩:MdSt)) ⟨hgd,.inl ⟨O,O⟩⟩ (sc O (sc O (sc O (sc O sn)))) (fun _ h=>((((h.f 3 O).f 2 O).f 2 O).f 3 O:)) ?_
 intro t ⟨hgt,hmt2⟩
 refine Cs (Cs (Cr (V0 (Ym O) (V0 (Ym O) (V0 (Yn es38 O) (V0 (yl_lt O O) (V0 (Ym O) ?_)))))))
 apply La 5 (x:=(t.2.fin==0)) O O O O Y O O O O O
 ·
  intro hg0
  refine Vg (Ym O) (Vg (yl_nil O) (Vg (Yf fo94_7 O) (Vg (Yd 0 O O O na3) (Vg (yl_eq O O) ?_))))
  exact Gt 5 O O O
 refine Ln (Et ?_)
 refine Cc O (fun hc1=>?_) (fun hc1=>?_)
 ·
  have hcc:(decide ((t.1:Int)<(l.length:Int))&&(t.2.fin==0))=true:=hc1
  obtain ⟨hlt,hft⟩:t.1<l.length∧t.2.fin=0:=by simpa using hcc
  obtain ⟨u,hui⟩:∃q,l[t.1]? = some q:=⟨_,List.getElem?_eq_getElem hlt⟩
  obtain ⟨pbu,pou,hau,ru_,hrowu,hruu⟩:=hl.elt t.1 u hui
  have hmok:actsK (knM u::usesKn l u) ((([]:List Int).length:Nat):Int) u.main 1=true:=(fine_parts (hok.fine u (List.mem_of_getElem? hui))).2.1
  refine Ck (Et (Cs (Cb ?_)))
  refine CWd (fun _ h=>h.osl_nil 3 1) ?_
  refine Cr (V0 (Ym O) (V0 (Ym O) (V0 (Ym O) (V0 (Ym O) (V0 (Yo es38 O O hau hlt) ?_)))))
  refine V0 (Yf fo26_4 O) (V0 (yl_ld 0 na24 O O (RdC.mono Nb hrowu 4 _ O)) (Lf 0 O (Lf 3 O (Lf 3 O (Lf 3 O ?_)))))
  refine Lw (ι:=_) [_,_,_,_] _ Y O en40 O O (_) (_) (_) [N] (by simp) (fun w hw=>vcall_all N n K g.2.1 l ticks.toNat bm hM 25 0 O (by omega) t.1 u (none,0) [] u.main ru_.s3.1 ru_.s3.2 n n t.2 w hgt hui (slA_mv hruu.main Nb) hmok hw) ?_
  intro r58 ⟨hr58,hg58⟩
  refine Ln (Eb (Et (Cr (V0 (Ym O) ?_))))
  refine V0 (Yi O O O (by omega)) ?_
  refine V0 (Ya O) (Ln ?_)
  exact Ea ((t.1+1,r58.2):Nat×MdSt) (by show _-(t.1+1)<_; omega) ⟨hg58,mnj_go hmt2 hft hui hr58⟩ (sc O (sc O (sc O (sc O sn)))) (fun _ h=>h)
 have hcc:(decide ((t.1:Int)<(l.length:Int))&&(t.2.fin==0))=false:=hc1
 have hRU:=runU_of hmt2 hcc
 refine Ce (Ex (Ex (Ebh (Et (Cs ?_)))))
 refine CU (fun _=>true) [] [14] (.q false 0 (.q false 1 (.q false 2 (.q true 3 (.q false 4 (.q false 5 (.q false 6 (.q true 7 (.q false 8 (.q false 9 (.q false 10 (.q true 11 (.q false 12 (.e 13 .nil .stop)))))))))))))) mixed (by kernel_rfl) (fun _ _ _ d _ _ h=>by cases d<;>exact h) ?_
 refine U0 O (fun _ h=>h) (Ym O) (U0 O (fun _ h=>h) (yl_nil O) (U0 O (fun _ h=>h) (Yf fo94_7 O) (U0 O (fun _ h=>h) (Yd 0 O O O na3) (U0 O (fun _ h=>h) (Ym O) (U0 O (fun _ h=>h) (yl_nil O) ?_)))))
 refine U0 O (fun _ h=>h) (Yf fo94_3 O) (U0 O (fun _ h=>h) (Yd 0 O O O na29) (U0 O (fun _ h=>h) (Ym O) (U0 O (fun _ h=>h) (yl_nil O) (U0 O (fun _ h=>h) (Yf fo94_4 O) (U0 O (fun _ h=>h) (Yd 0 O O O na3) ?_)))))
 refine U0 O (fun _ h=>h) (Yb zr42 pl42 O O) ?_
 refine Ue O (fun _ h=>h) ?_ WU.stop
 refine Al Y O zr42 fun b10=>?_
 refine Ln (Eu ?_)
 refine WU.nil (fun _ h=>(Wd 1 h:)) ?_
 refine WS.e O ?_
 refine Lst 0 Y O O O sz42 O O O (Ln (Es ?_))
 refine WS.nil ?_
 refine Et (Cs (Cs ?_))
 refine Crb 0 (.cells #[.int .i64 t.2.fin,.slice t.2.o.1 t.2.w.out.length t.2.o.2,.slice none 0 0,.int .i64 (t.2.w.ticks:Int)] 42 (0,0)) O O ?_
 refine CWd (fun _ h=>h.osl_nil 3 1) ?_
 refine Cr (V0 (Ya O) (Ln (Et (Cb ?_))))
 refine CLk (ι:=Nat×SP) (fun qq=>[(11,.int .i64 (qq.1:Int))]) [(0,_),(6,_),(7,_),(10,_)] (fun qq=>Ws w [] ([osT 3 1 n1C qq.2.1 qq.2.2 (((splitU l t.2.w.data).take qq.1).flatten)]++(mown 94 3 bm K g.2.1 l ticks.toNat t.2)++[blk b6 (.cells (Value.cells (.agg #[.int .i64 0,.slice none 0 0,.slice none 0 0,.int .i64 0])) 42 (0,0)),blk b10 (.cells #[.int .i64 t.2.fin,.slice t.2.o.1 t.2.w.out.length t.2.o.2,.slice qq.2.1 (((splitU l t.2.w.data).take qq.1).flatten).length qq.2.2,.int .i64 (t.2.w.ticks:Int)] 42 (0,0))]) [N]) (fun qq=>qq.1≤l.length) (fun qq=>l.length-qq.1) (0,(none,0)) (Nat.zero_le _) (sc O (sc O (sc O (sc O (sc O sn))))) (fun _ h=>by exact ((((((h.f 1 O).f 5 O).f 5 O).f 5 O).f 5 O).f 5 O:)) ?_
 intro qq hq
 refine Cs (Cs (Cr (V0 (Ym O) (V0 (Ym O) (V0 (Yn es38 O) (V0 (yl_lt O O) (Ln (Et ?_))))))))
 refine Cc O (fun hc2=>?_) (fun hc2=>?_)
 ·
  have hlt:qq.1<l.length:=by simpa using hc2
  obtain ⟨u,hui⟩:∃q,l[qq.1]? = some q:=⟨_,List.getElem?_eq_getElem hlt⟩
  obtain ⟨pbu,pou,hau,hru⟩:=hl.elt qq.1 u hui
  obtain ⟨ru_,hrowu,hruu⟩:=hru
  obtain ⟨rr,pK,qK,hrr,haK,hrK⟩:=hM.row hui
  have hrl:=rowU_len hui hgt.dat
  have hfl:=flat_le hgt.dat qq.1
  have hdat:0≤u.data∧u.data≤512:=by
    have h9:=fine_head (hok.fine u (List.mem_of_getElem? hui))
    unfold headC at h9
    simp only [Bool.or_eq_false_iff,decide_eq_false_iff_not] at h9
    omega
  refine Ck (Et (Cs (Cb ?_)))
  refine CU (fun _=>true) [0] [11] (.q false 0 (.q true 1 (.q false 2 (.q false 3 (.q false 4 (.q true 5 (.q false 6 (.q false 7 (.q true 8 (.e 9 (.q false 10 .nil) .stop)))))))))) mixed (by kernel_rfl) (fun _ _ _ d _ _ h=>by cases d<;>exact h) ?_
  refine U0 O (Wp 0) (Yf fo42_2 O) (U0 O (Wp 0) (Yd 4 O O O na29) (U0 O (Wp 0) (Ym O) (U0 O (Wp 0) (yl_nil O) (U0 O (Wp 0) (Yf fo94_1 O) (U0 O (Wp 0) (Yd 0 O O O na85) ?_)))))
  refine U0 O (Wp 0) (Ym O) (U0 O (Wp 0) (Yo es85 O O haK hlt) ?_)
  refine U0 O (Wp 0) (yl_ld 0 na29 O O ((show vc N _ _=some (.slice rr.1 (rowU t.2.w.data l qq.1 u.data.toNat).length rr.2) from by rw [hrl]; exact hrK 0 _ O))) ?_
  refine Ue O (Wp 0) ?_ WU.stop
  refine WL.appendL (f:=n1C) (rd:=rdN1) (xs:=((splitU l t.2.w.data).take qq.1).flatten) (ys:=(rowU t.2.w.data l qq.1 u.data.toNat)) 0 (fun w=>hv w) Y O el29 O O O (fun w hw=>⟨hv_le w,(hw.fam_pick 3 qq.1 O (rowsA_get hrr (split_get _ hui))).slTh 0 O n1C_len (fun _ _ _ _ h=>h)⟩) (fun _ _ _ _ h=>h) n1C_len n1C_one (by omega) (by omega) fun a87 c87=>?_
  refine Ln (Eu (U0 O (Wp 0) (Yf fo42_2 O) ?_))
  refine WU.nil (Wp 0) ?_
  refine WS.e O ?_
  refine Lst 5 Y O O O sz29 O O O (Ln (Es ?_))
  refine WS.nil ?_
  refine Eb (Et (Cr (V0 (Ym O) ?_)))
  refine V0 (Yi O O O (by omega)) ?_
  refine V0 (Ya O) (Ln ?_)
  rw [←flatq_snoc (split_get t.2.w.data hui)]
  exact Ea ((qq.1+1,(a87,c87)):Nat×SP) (by show _-(qq.1+1)<_; omega) (by show qq.1+1≤_; omega) (sc O (sc O (sc O (sc O (sc O sn))))) (fun _ h=>h)
 have hge2:l.length≤qq.1:=by simp at hc2; omega
 rw [List.take_of_length_le (show (splitU l t.2.w.data).length≤qq.1 by rw [splitU_len]; exact hge2),split_flat hgt.dat]
 refine Ce (Ex (Ex (Ebh (Et (Cs (Cr (V0 (Yda 5 O O ag42 O) (Lst 4 Y O O O sz42 O O O (Ln (Et (Crt ?_)))))))))))
 refine WE.retc1 4 O O O ag42 O fun w' hw=>?_
 rw [hRU]
 exact ⟨((t.2.o.1,t.2.o.2),(qq.2.1,qq.2.2)),O,hw.fr,hw.slT 2 O n1C_len (fun _ _ _ _ h=>h),hw.slT 0 O n1C_len (fun _ _ _ _ h=>h)⟩
end Go.Proofs.YtpjekjnehiinnaaGreatDoor
end
section
namespace Go.Proofs.YtpjekjnehiinnaaGreatDoor
open Go.Bw
def rerrE (inp:List Int) (t:Int):Int:=if 64<inp.length then 2 else if (decide (t<0)||decide (2000<t))=true then 3 else 0
theorem en13:Enters Tryz.prog 13:=enters_of Tryz.func13 (by kernel_rfl) rfl
theorem en15:Enters Tryz.prog 15:=enters_of Tryz.func15 (by kernel_rfl) rfl
theorem en17:Enters Tryz.prog 17:=enters_of Tryz.func17 (by kernel_rfl) rfl
theorem en18:Enters Tryz.prog 18:=enters_of Tryz.func18 (by kernel_rfl) rfl
theorem rerr_any (inp:List Int) (ai:Option Addr) (ci:Nat) (t:Int) (w:World) :
   Calls Tryz.prog 17 #[.slice ai inp.length ci,.int .i64 t] w fun e w'=>e = .returned (.int .i64 (rerrE inp t))∧Ext w w':=by
 refine enter Tryz.func17 O 11 O O ?_
 refine CWd (W':=Ws w [] [] []) (fun _ e=>by subst e; exact Ws.init (by simp)) ?_
 refine Cs (Cr (V0 (Ya O) (Ln (Et (Cs (Cs (Cr (V0 (Ym O) (V0 (Yn es29 O) (V0 (yl_gt O O) ?_))))))))))
 refine Ln (Et ?_)
 refine Cc O (fun hc0=>?_) (fun hc0=>?_)
 ·
  have h0:64<inp.length:=by simp at hc0; omega
  refine Cs (Cr (V0 (Ya O) (Ln (Et (Crt (Er ?_))))))
  refine R1 O O fun w' hw=>?_
  exact ⟨by rw [rerrE,if_pos h0],hw.fr⟩
 have h0:¬64<inp.length:=by simp at hc0; omega
 refine Ck (Et (Cs (Cs (Cr (V0 (Ym O) ?_)))))
 refine Lp Y O en34 O (fun w hw=>within_any _ _ _ w) ?_
 refine V0 (yl_not O) (Ln (Et ?_))
 refine Cc O (fun hc1=>?_) (fun hc1=>?_)
 ·
  have h1:(decide (t<0)||decide (2000<t))=true:=by unfold within at hc1; simp at hc1 ⊢; omega
  refine Cs (Cr (V0 (Ya O) (Ln (Et (Crt (Er ?_))))))
  refine R1 O O fun w' hw=>?_
  exact ⟨by rw [rerrE,if_neg h0,if_pos h1],hw.fr⟩
 have h1:¬(decide (t<0)||decide (2000<t))=true:=by unfold within at hc1; simp at hc1 ⊢; omega
 refine Ck (Et (Cs (Cr (V0 (Ya O) (Ln (Et (Crt ?_)))))))
 refine R1 O O fun w' hw=>?_
 exact ⟨by rw [rerrE,if_neg h0,if_neg h1],hw.fr⟩
theorem semRuns_any (G H:View) (n:Nat) (a:Option Addr) (c:Nat) (l:List TUnit) (Hi:View) (ai:Option Addr) (ci:Nat) (inp:List Int) (t:Int) (w:World) (hG:Le G w) (hz:Laid G) (hH:Le H w) (hl:Sl (rdUn n) 5 H a c l) (hb:∀u ∈ l,u.uses.length≤1048576) (hHi:Le Hi w) (hmi:Sl rdN1 1 Hi ai ci inp) :
   Calls Tryz.prog 5 #[.slice a l.length c,.slice ai inp.length ci,.int .i64 t] w fun e w'=>e = .returned (.bool true)∧Ext w w':=by
 refine enter Tryz.func5 O 42 O O ?_
 refine CWd (W':=Ws w [] [] [G,H,Hi]) (fun _ e=>by subst e; exact Ws.init (by simp [hG,hH,hHi])) ?_
 refine Cs (Cr (V0 (Ya O) (Ln (Et (Cs (Cr (V0 (Ym O) (V0 (Ym O) (V0 (Ym O) ?_)))))))))
 refine Ld Y O en16 O (fun r:SP×SP=>.tuple #[.agg #[.int .i64 (runR l inp t).fin,.slice r.1.1 (runR l inp t).out.length r.1.2,.slice r.2.1 (runR l inp t).data.length r.2.2,.int .i64 (runR l inp t).ticks],.int .i64 (runE l inp t)]) (fun F r=>Sl rdN1 1 F r.1.1 r.1.2 (runR l inp t).out∧Sl rdN1 1 F r.2.1 r.2.2 (runR l inp t).data) (fun w hw=>semRun_any H n a c l Hi ai ci inp t w (hw.vs _ (by simp)) hl hb (hw.vs _ (by simp)) hmi) ?_
 intro F15 r15 hf15 h15
 refine V0 (Ym O) (V0 (Yx O O) (V0 (Yx O O) ?_))
 refine Al Y O zr42 fun b7=>?_
 refine Lst 0 Y O O O sz42 O O O (V0 (Ya O) (Ln (Et (Cs (Cr (V0 (Ym O) ?_))))))
 refine Lp Y O en15 O (fun w hw=>checkUnits_any H n a c l w (hw.vs _ (by simp)) hl hb) ?_
 refine V0 (Ya O) (Ln (Et (Cs (Cs (Cr (V0 (Ym O) (V0 (yl_eq O O) (Ln (Et ?_)))))))))
 refine Cc O (fun hc0=>?_) (fun hc0=>?_)
 ·
  have hk0:checkUs l=0:=by simpa using hc0
  have hW:runE l inp t=rerrE inp t:=by rw [runE_at,if_pos hk0]; rfl
  refine Cr (V0 (Ym O) (V0 (Ym O) ?_))
  refine Lp Y O en17 O (fun w hw=>rerr_any inp ai ci t w) ?_
  refine V0 (Ya O) (Ln (Et (Cs (Cr ?_))))
  refine Al Y O zr42 fun b10=>?_
  refine Ln (Et (Cs (Cs (Cr (V0 (Ym O) (V0 (yl_eq O O) (Ln (Et ?_))))))))
  refine Cc O (fun hc1=>?_) (fun hc1=>?_)
  ·
   have he0:runE l inp t=0:=by rw [hW]; simpa using hc1
   refine Cr (V0 (Ym O) (V0 (Ym O) (V0 (Ym O) ?_)))
   refine Ld Y O en18 O (fun r:SP×SP=>.agg #[.int .i64 (runU l inp t.toNat).fin,.slice r.1.1 (runU l inp t.toNat).out.length r.1.2,.slice r.2.1 (runU l inp t.toNat).data.length r.2.2,.int .i64 (runU l inp t.toNat).ticks]) (fun F r=>Sl rdN1 1 F r.1.1 r.1.2 (runU l inp t.toNat).out∧Sl rdN1 1 F r.2.1 r.2.2 (runU l inp t.toNat).data) (fun w hw=>runUnits_any H n a c l Hi ai ci inp t w (hw.vs _ (by simp)) hl hb (hw.vs _ (by simp)) hmi he0) ?_
   intro F30 r30 hf30 h30
   refine Lst 0 Y O O O sz42 O O O (Ln (Et (Cs (Cr ?_))))
   refine Lp Y O en13 O (fun w hw=>semBegun_any G w (hw.vs _ (by simp)) hz) ?_
   refine V0 (Ym O) ?_
   apply La 3 (x:=true) O O O O Y O O O O O
   ·
    intro hg0
    refine Vg (Ym O) (Vg (Ym O) (Vg (yl_eqiY O O hW) ?_))
    exact Gt 3 O O O
   refine V0 (Ym O) ?_
   apply La 3 (x:=true) O O O O Y O O O O O
   ·
    intro hg1
    refine Vg (Yda 1 O O ag42 O) (Vg (Yda 0 O O ag42 O) ?_)
    refine Lp (.g O O O) O en19 O (fun w hw=>sameRes_eq F15 F30 (runR l inp t) (runU l inp t.toNat) (if_pos he0) r15 r30 w (hw.vs _ (by simp)) (hw.vs _ (by simp)) h15 h30) ?_
    exact Gt 3 O O O
   refine V0 (Ya O) (Ln (Et (Crt ?_)))
   refine R1 O O fun w' hw=>?_
   exact ⟨O,hw.fr⟩
  have he0:runE l inp t≠0:=by rw [hW]; simpa using hc1
  refine Ck (Et (Cs (Cr ?_)))
  refine Lp Y O en13 O (fun w hw=>semBegun_any G w (hw.vs _ (by simp)) hz) ?_
  refine V0 (Ym O) ?_
  apply La 3 (x:=true) O O O O Y O O O O O
  ·
   intro hg0
   refine Vg (Ym O) (Vg (Ym O) (Vg (yl_eqiY O O hW) ?_))
   exact Gt 3 O O O
  refine V0 (Ym O) ?_
  apply La 3 (x:=true) O O O O Y O O O O O
  ·
   intro hg1
   refine Vg (Yda 1 O O ag42 O) (Vg (Yda 0 O O ag42 O) ?_)
   refine Lp (.g O O O) O en19 O (fun w hw=>sameRes_eq F15 v0 (runR l inp t) noRes' (runR_no he0) r15 ((none,0),(none,0)) w (hw.vs _ (by simp)) (v0_lew w) h15 ⟨Sl.nil,Sl.nil⟩) ?_
   exact Gt 3 O O O
  refine V0 (Ya O) (Ln (Et (Crt ?_)))
  refine R1 O O fun w' hw=>?_
  exact ⟨O,hw.fr⟩
 have hk0:¬checkUs l=0:=by simpa using hc0
 have hW:runE l inp t=checkUs l:=by rw [runE_at,if_neg hk0]
 refine Ck (Et (Cs (Cr ?_)))
 refine Al Y O zr42 fun b10=>?_
 refine Ln (Et (Cs (Cs (Cr (V0 (Ym O) (V0 (yl_eq O O) (Ln (Et ?_))))))))
 refine Cc O (fun hc1=>?_) (fun hc1=>?_)
 ·
  exact absurd (by simpa using hc1) hk0
 have he0:runE l inp t≠0:=by rw [hW]; simpa using hc1
 refine Ck (Et (Cs (Cr ?_)))
 refine Lp Y O en13 O (fun w hw=>semBegun_any G w (hw.vs _ (by simp)) hz) ?_
 refine V0 (Ym O) ?_
 apply La 3 (x:=true) O O O O Y O O O O O
 ·
  intro hg0
  refine Vg (Ym O) (Vg (Ym O) (Vg (yl_eqiY O O hW) ?_))
  exact Gt 3 O O O
 refine V0 (Ym O) ?_
 apply La 3 (x:=true) O O O O Y O O O O O
 ·
  intro hg1
  refine Vg (Yda 1 O O ag42 O) (Vg (Yda 0 O O ag42 O) ?_)
  refine Lp (.g O O O) O en19 O (fun w hw=>sameRes_eq F15 v0 (runR l inp t) noRes' (runR_no he0) r15 ((none,0),(none,0)) w (hw.vs _ (by simp)) (v0_lew w) h15 ⟨Sl.nil,Sl.nil⟩) ?_
  exact Gt 3 O O O
 refine V0 (Ya O) (Ln (Et (Crt ?_)))
 refine R1 O O fun w' hw=>?_
 exact ⟨O,hw.fr⟩
end Go.Proofs.YtpjekjnehiinnaaGreatDoor
end
