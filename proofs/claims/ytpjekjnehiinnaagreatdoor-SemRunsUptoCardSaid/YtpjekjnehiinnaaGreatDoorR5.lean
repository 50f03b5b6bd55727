/- SemRuns: Run answers what the document says, errors too, whatever it is handed (proved in the second form, bulk at most 1048576). -/
import Derived.Test.YtpjekjnehiinnaaGreatDoorR4
set_option linter.unusedVariables false
set_option linter.unusedSimpArgs false
section
namespace Go.Proofs.YtpjekjnehiinnaaGreatDoor
open Go.Bw
theorem index_in {n:Int} {k:Ev} {loc:List Int} {w w':Wm} {i:Int} (h:indexR n k loc w = .ok i w'):0≤i∧i<n:=by
 unfold indexR at h
 cases hk:k loc w with
 | ok j s=>
   rw [hk] at h
   change (if _ then _ else _)=_ at h
   split at h
   · cases h
   · rename_i hc
     simp only [Rz.ok.injEq] at h
     obtain ⟨rfl,_⟩:=h
     simp at hc
     omega
 | ov e s=>rw [hk] at h; cases h
theorem rdL_at {l:List Int} {i:Nat} {v:Int} (h:l[i]? = some v):rdL l i=v:=by unfold rdL; rw [h]; rfl
theorem fo87_3:fieldOff Tryz.prog 87 3=some 3:=by kernel_rfl
theorem fo128_2:fieldOff Tryz.prog 128 2=some 2:=by kernel_rfl
theorem en118:Enters Tryz.prog 118:=enters_of Tryz.func118 (by kernel_rfl) rfl
theorem en119:Enters Tryz.prog 119:=enters_of Tryz.func119 (by kernel_rfl) rfl
theorem en120:Enters Tryz.prog 120:=enters_of Tryz.func120 (by kernel_rfl) rfl
theorem en140:Enters Tryz.prog 140:=enters_of Tryz.func140 (by kernel_rfl) rfl
theorem seval_run (H:View) (n:Nat) (K:KW) (l:List TUnit) (lim bw C d:Nat) (bs u:Nat) (z:TUnit) (x:SP) (loc:List Int) (v:Int) (y:TNode) (a:Option Addr) (c k dd:Nat) (s:WSt) (w:World) (hg:WGood H (envU l lim) (sumU l) C s) (hR:RunAt H n K l lim) (hx:l[u]? = some z) (hC:SCall H n K l lim bw C d) (hl:Sl (RdN k) 5 H a c y.args) (hok:nodeK (knM z::usesKn l z) loc.length y dd=true) (hw:Ws w (List.flatMap Asr.ids ((wown 87 3 bw K (envU l lim) s)++(sown 128 3 bs bw u x loc v))) ((wown 87 3 bw K (envU l lim) s)++(sown 128 3 bs bw u x loc v)) [H] w) :
   Calls Tryz.prog 117 #[.pointer (some ⟨bs,0,none⟩),.agg (nodeV y a c).toArray] w fun e w'=>(∃r:Int×WSt,e = .returned (.int .i64 r.1)∧(nodeE (envU l lim) (callR (envU l lim) d) u y loc s.w = .ok r.1 r.2.w∧WGood H (envU l lim) (sumU l) C r.2)∧Ws w (List.flatMap Asr.ids ((wown 87 3 bw K (envU l lim) s)++(sown 128 3 bs bw u x loc v))) ((wown 87 3 bw K (envU l lim) r.2)++(sown 128 3 bs bw u x loc v)) [H] w')∨(∃r:Int×WSt,e = .panicked (ovS 89 r.1)∧nodeE (envU l lim) (callR (envU l lim) d) u y loc s.w = .ov r.1 r.2.w∧Ws w (List.flatMap Asr.ids ((wown 87 3 bw K (envU l lim) s)++(sown 128 3 bs bw u x loc v))) (wown 87 3 bw K (envU l lim) r.2) [H] w'):=by
 have hgd:=hg.dat
 have hD:=sum_le hR.ok
 induction k using Nat.strongRecOn generalizing bs u z x loc v y a c dd s w
 rename_i k ih
 have hN:∀k2,k2<k→SEv H n K l lim bw C d k2:=fun k2 h bs u z x loc v y a c dd s w h1 h2 h3 h4 h5=>ih k2 h bs u z x loc v y a c dd s w h1 h2 h3 h4 h5 h1.dat
 have hcap:=hl.cap
 have hmax:=hl.max
 obtain ⟨hn1,hargs⟩:=nodeK_parts hok
 have hlen:=node1_len hn1
 have hfacts:=node1_facts hn1
 refine enter Tryz.func117 O 199 O O ?_
 refine CWd (W':=Ws w (List.flatMap Asr.ids ((wown 87 3 bw K (envU l lim) s)++(sown 128 3 bs bw u x loc v))) ((wown 87 3 bw K (envU l lim) s)++(sown 128 3 bs bw u x loc v)) [H]) (fun _ e=>by subst e; exact hw) ?_
 refine Cs (Cr ?_)
 refine WL.box Y O O fun b3=>?_
 refine V0 (Ya O) (Ln (Et (Cs (Cs (Cr (V0 (Yf fo138_0 O) (V0 (Yd 0 O O O na3) (Ln (Et (Cb (Cs (Cr (V0 (yl_eq O O) ?_)))))))))))))
 refine V0 (Ya O) (Ln (Et ?_))
 refine Cc O (fun hc0=>?_) (fun hc0=>?_)
 ·
  have ho:y.op=1:=by simpa using hc0
  refine Cs (Cr (V0 (Yf fo138_1 O) (V0 (Yd 0 O O O na3) (V0 (Ya O) (Ln (Et (Crt (Ebr (Er ?_)))))))))
  refine R1 O O fun w' hw=>?_
  have hE:nodeE (envU l lim) (callR (envU l lim) d) u y loc s.w = .ok y.n s.w:=by
    rw [nodeE_eq,nodeR,if_pos ho]
  exact .inl ⟨(y.n,s),O,⟨hE,hg⟩,Wd 1 hw⟩
 have hn1:¬y.op=1:=by simpa using hc0
 refine Cs (Cr (V0 (yl_eq O O) (V0 (Ya O) (Ln (Et ?_)))))
 refine Cc O (fun hc1=>?_) (fun hc1=>?_)
 ·
  have ho:y.op=2:=by simpa using hc1
  refine Cs (Cs (Cr (V0 (Ym O) (V0 (yl_nil O) (V0 (Yf fo128_0 O) (V0 (Yd 4 O O O na83) (V0 (yl_nil O) ?_)))))))
  refine V0 (Yf fo87_3 O) (V0 (Yd 1 O O O na29) (V0 (Yn es29 O) (V0 (yl_eq O O) (Ln (Et ?_)))))
  refine Cc O (fun hc2=>?_) (fun hc2=>?_)
  ·
   have hin:s.w.inp=[]:=by simpa using hc2
   refine Cs (Cr (V0 (Ya O) (Ln (Et (Crt (Er (Ebr (Er ?_))))))))
   refine R1 O O fun w' hw=>?_
   have hE:nodeE (envU l lim) (callR (envU l lim) d) u y loc s.w = .ok 0 s.w:=by
     rw [nodeE_eq,nodeR,if_neg hn1,if_pos ho,hin]
   exact .inl ⟨(0,s),O,⟨hE,hg⟩,Wd 1 hw⟩
  obtain ⟨xi,r,hin⟩:∃x r,s.w.inp=x::r:=by
    cases h:s.w.inp with
    | nil=>rw [h] at hc2; cases hc2
    | cons x r=>exact ⟨x,r,rfl⟩
  obtain ⟨ib,io,hia,hrow⟩:=hg.inp.elt 0 xi (by rw [hin]; rfl)
  have hil:s.w.inp.length=r.length+1:=by rw [hin]; rfl
  have hic:=hg.inp.cap
  refine Ck (Et (Cs (Cr (V0 (Ym O) (V0 (yl_nil O) (V0 (Yf fo128_0 O) (V0 (Yd 4 O O O na83) (V0 (yl_nil O) ?_))))))))
  refine V0 (Yf fo87_3 O) (V0 (Yd 1 O O O na29) ?_)
  refine V0 (Yo (i:=0) es29 O O hia (by omega)) ?_
  refine V0 (yl_ld 0 na3 O O (hrow 0 _ O)) (V0 (Ya O) (Ln (Et (Cs ?_))))
  refine CU (fun _=>true) [] [14] (.q false 0 (.q false 1 (.q false 2 (.q true 3 (.q false 4 (.q false 5 (.q false 6 (.q true 7 (.q false 8 (.q false 9 (.q true 10 (.q false 11 (.q false 12 (.q false 13 .nil)))))))))))))) mixed (by kernel_rfl) (fun _ _ _ d _ _ h=>by cases d<;>exact h) ?_
  refine U0 O (fun _ h=>h) (Ym O) (U0 O (fun _ h=>h) (yl_nil O) (U0 O (fun _ h=>h) (Yf fo128_0 O) (U0 O (fun _ h=>h) (Yd 4 O O O na83) (U0 O (fun _ h=>h) (Ym O) (U0 O (fun _ h=>h) (yl_nil O) ?_)))))
  refine U0 O (fun _ h=>h) (Yf fo128_0 O) (U0 O (fun _ h=>h) (Yd 4 O O O na83) (U0 O (fun _ h=>h) (yl_nil O) (U0 O (fun _ h=>h) (Yf fo87_3 O) (U0 O (fun _ h=>h) (Yd 1 O O O na29) ?_))))
  refine U0 O (fun _ h=>h) (yl_slln 1 es29 O O O (by omega) hic) ?_
  refine U0 O (fun _ h=>h) (yl_nil O) (U0 O (fun _ h=>h) (Yf fo87_3 O) ?_)
  refine WU.nil (fun _ h=>h) ?_
  refine WS.e O ?_
  refine Lst 1 Y O O O sz29 O O O (Ln (Es ?_))
  refine WS.nil ?_
  refine Et (Cs (Cr (V0 (Ym O) (V0 (Ya O) (Ln (Et (Crt (Ebr (Er ?_)))))))))
  refine R1 O O fun w' hw=>?_
  have hE:nodeE (envU l lim) (callR (envU l lim) d) u y loc s.w = .ok xi { s.w with inp:=r }:=by
    rw [nodeE_eq,nodeR,if_neg hn1,if_pos ho,hin]
  have hd:=hg.inp.drop 1 (by omega)
  rw [show s.w.inp.drop 1=r by rw [hin]; rfl] at hd
  rw [show s.w.inp.length-1=r.length by omega] at hw
  exact .inl ⟨(xi,⟨{ s.w with inp:=r },(_,s.i.2-1),s.o,s.d⟩),O,⟨hE,⟨hd,hg.out,hg.tk,hg.dat,hg.cl⟩⟩,(by have h:=hw; have h:=h.fronti 5 O; have h:=h.fronti 5 O; have h:=h.fronti 5 O; have h:=h.fronti 5 O; have h:=h.fronti 5 O; have h:=Wt 5 h; exact h)⟩
 have hn2:¬y.op=2:=by simpa using hc1
 refine Cs (Cr (V0 (yl_eq O O) (V0 (Ya O) (Ln (Et ?_)))))
 refine Cc O (fun hc3=>?_) (fun hc3=>?_)
 ·
  have ho:y.op=16:=by simpa using hc3
  refine Cs ?_
  obtain ⟨h0l,h1l⟩:=hfacts.2.2.2 ho
  obtain ⟨pi,hpi⟩:∃pi:Nat,y.pl=pi:=⟨y.pl.toNat,by omega⟩
  obtain ⟨lv,hlv⟩:∃v,loc[pi]? = some v:=⟨_,List.getElem?_eq_getElem (by omega)⟩
  refine WC.shapeT 5 O (by omega) fun lb hlb hlc hlm=>?_
  refine WC.draws0 [(0,true),(1,true),(2,true),(3,true),(4,true),(5,true),(6,true),(7,true),(8,true)] mixed (by kernel_rfl) (fun _ _ _ d _ h=>by cases d<;>exact h) ?_
  refine D0 O (fun _ h=>h) (Ym O) (D0 O (fun _ h=>h) (yl_nil O) (D0 O (fun _ h=>h) (Yf fo128_2 O) (D0 O (fun _ h=>h) (Yd 4 O O O na29) (D0 O (fun _ h=>h) (Yf fo138_3 O) (D0 O (fun _ h=>h) (Yd 0 O O O na3) ?_)))))
  rw [hpi]
  refine D0 O (fun _ h=>h) (Yo (i:=pi) es29 O O hlb (by omega)) ?_
  refine D0 O (fun _ h=>h) (yl_ldT (y:=lv) 5 pi 0 O O hlb O n1C_len hlv O na3) (D0 O (fun _ h=>h) (Ya O) ?_)
  refine WD.nil (fun _ h=>h) ?_
  refine Et (Crt (Ebr (Er ?_)))
  refine R1 O O fun w' hw=>?_
  have hE:nodeE (envU l lim) (callR (envU l lim) d) u y loc s.w = .ok lv s.w:=by
    rw [nodeE_eq,nodeR,if_neg hn1,if_neg hn2,if_pos ho,hpi,Int.toNat_natCast,rdL_at hlv]
  exact .inl ⟨(lv,s),O,⟨hE,hg⟩,Wd 1 hw⟩
 have hn16:¬y.op=16:=by simpa using hc3
 refine Cs (Cr (V0 (yl_eq O O) (V0 (Ya O) (Ln (Et ?_)))))
 refine Cc O (fun hc4=>?_) (fun hc4=>?_)
 ·
  have ho:y.op=3:=by simpa using hc4
  refine Cs ?_
  obtain ⟨mi,j,b,p,hm,hpl,hj,hb,hbp,hmod,hat⟩:=data_at hR.ok lim hx (hfacts.1 ho) (by decide)
  have hdl:=hg.dat
  obtain ⟨dv,hdv⟩:∃v,s.w.data[b+p]? = some v:=⟨_,List.getElem?_eq_getElem (by omega)⟩
  refine Cr (V0 (Ym O) (V0 (Yf fo138_2 O) (V0 (Yd 0 O O O na3) (V0 (Yf fo138_3 O) (V0 (Yd 0 O O O na3) ?_)))))
  refine Lf 4 O (Lf 4 O (Lf 4 O (Lf 4 O ?_)))
  refine Lw (ι:=_) [_,_,_,_] _ Y O en118 O O (_) (_) (_) [H] (by simp) (fun w hw=>sdatum_any bw K l lim C H s n bs u x loc.length v z mi j b p y.m y.pl w hg hR hx hj hb (by omega) hm hpl hw) ?_
  intro db66 hdb66
  refine V0 (yl_nil O) (V0 (yl_ldT (y:=dv) 2 (b+p) 0 O O hdb66 O n1C_len hdv O na3) (V0 (Ya O) (Ln (Et (Crt (Ebr (Er ?_)))))))
  refine R1 O O fun w' hw=>?_
  have hat0:(envU l lim).at_ u y.m y.pl=b+p:=by rw [hpl]; exact hat 0
  have hE:nodeE (envU l lim) (callR (envU l lim) d) u y loc s.w = .ok dv s.w:=by
    rw [nodeE_eq,nodeR,if_neg hn1,if_neg hn2,if_neg hn16,if_pos ho,hat0,rdL_at hdv]
  exact .inl ⟨(dv,s),O,⟨hE,hg⟩,(by have h:=hw; have h:=h.fronti 5 O; have h:=h.fronti 4 O; have h:=h.fronti 4 O; have h:=h.fronti 4 O; have h:=h.fronti 4 O; exact Wt 5 h)⟩
 have hn3:¬y.op=3:=by simpa using hc4
 refine Cs (Cr (V0 (yl_eq O O) (V0 (Ya O) (Ln (Et ?_)))))
 refine Cc O (fun hc5=>?_) (fun hc5=>?_)
 ·
  have ho:y.op=4:=by simpa using hc5
  refine Cs ?_
  have hl1:=hlen.1 (.inl ho)
  obtain ⟨f,hfi⟩:∃v,y.args[0]? = some v:=⟨_,List.getElem?_eq_getElem (by omega)⟩
  obtain ⟨pf,qf,haf,hrf⟩:=hl.elt 0 f hfi
  obtain ⟨k2,rfl⟩:∃k2,k=k2+1:=by
    cases k with
    | zero=>exact hrf.elim
    | succ k2=>exact ⟨k2,rfl⟩
  obtain ⟨fa,fc,hrowf,hsubf⟩:=hrf
  have hN2:=hN k2 (by omega)
  have hof:=nodesK_at hargs hfi
  obtain ⟨⟨hn0,hn32⟩,hdat⟩:=hfacts.2.1 ho
  obtain ⟨mi,j,b,p,hm,hpl,hj,hb,hbp,hmod,hat⟩:=data_at hR.ok lim hx hdat (by omega)
  refine CU (fun _=>true) [1,1,1,1,1] [] (.q false 0 (.q false 1 (.q true 2 (.q false 3 (.q true 4 (.q false 5 (.q false 6 (.q true 7 (.q false 8 (.q true 9 (.q false 10 (.q true 11 (.e 12 (.q false 13 (.e 14 (.q false 15 (.e 16 (.q false 17 .nil) .stop)) .stop)) .stop))))))))))))) mixed (by kernel_rfl) (fun _ _ _ d _ _ h=>by cases d<;>exact h) ?_
  refine U0 O (fun _ h=>by exact (Wo 1 (Wo 1 (Wo 1 (Wo 1 (Wo 1 h)))):)) (Ym O) ?_
  refine U0 O (fun _ h=>by exact (Wo 1 (Wo 1 (Wo 1 (Wo 1 (Wo 1 h)))):)) (Yf fo138_2 O) ?_
  refine U0 O (fun _ h=>by exact (Wo 1 (Wo 1 (Wo 1 (Wo 1 (Wo 1 h)))):)) (Yd 0 O O O na3) ?_
  refine U0 O (fun _ h=>by exact (Wo 1 (Wo 1 (Wo 1 (Wo 1 (Wo 1 h)))):)) (Yf fo138_3 O) ?_
  refine U0 O (fun _ h=>by exact (Wo 1 (Wo 1 (Wo 1 (Wo 1 (Wo 1 h)))):)) (Yd 0 O O O na3) ?_
  refine U0 O (fun _ h=>by exact (Wo 1 (Wo 1 (Wo 1 (Wo 1 (Wo 1 h)))):)) (Ym O) ?_
  refine U0 O (fun _ h=>by exact (Wo 1 (Wo 1 (Wo 1 (Wo 1 (Wo 1 h)))):)) (Yf fo138_4 O) ?_
  refine U0 O (fun _ h=>by exact (Wo 1 (Wo 1 (Wo 1 (Wo 1 (Wo 1 h)))):)) (Yd 0 O O O na102) ?_
  refine U0 O (fun _ h=>by exact (Wo 1 (Wo 1 (Wo 1 (Wo 1 (Wo 1 h)))):)) (Yo (i:=0) es102 O O haf (by omega)) ?_
  refine U0 O (fun _ h=>by exact (Wo 1 (Wo 1 (Wo 1 (Wo 1 (Wo 1 h)))):)) (yl_lda 0 ag138 O O O (hrowf)) ?_
  refine U0 O (fun _ h=>by exact (Wo 1 (Wo 1 (Wo 1 (Wo 1 (Wo 1 h)))):)) (Yf fo138_1 O) ?_
  refine U0 O (fun _ h=>by exact (Wo 1 (Wo 1 (Wo 1 (Wo 1 (Wo 1 h)))):)) (Yd 0 O O O na3) ?_
  refine Ue O (fun _ h=>by exact (Wo 1 (Wo 1 (Wo 1 (Wo 1 (Wo 1 h)))):)) ?_ WU.stop
  refine Lf 5 O (Lf 5 O (Lf 5 O (Lf 5 O (Lf 5 O ?_))))
  refine Lwx (ι:=_) (κ:=_) [_,_,_,_,_] _ Y O en119 O O (_) (_) (_) (_) (_) (_) ([H]) (by simp) (fun w hw=>sindex_run H n K l lim bw C d bs u z x loc v f y.n fa fc k2 _ s w hg hR hx hN2 hsubf hof hw) ?_ ?_
  ·
   intro r83 hr83
   refine Ep (Ep (WE.block_panic (Ep ?_)))
   refine Epp fun w' hw=>?_
   have hE:nodeE (envU l lim) (callR (envU l lim) d) u y loc s.w=(indexR y.n (nodeE (envU l lim) (callR (envU l lim) d) u f) loc s.w).bind fun i w=>.ok (rdL w.data ((envU l lim).at_ u y.m (y.pl+i))) w:=by
     rw [nodeE_eq,nodeR,if_neg hn1,if_neg hn2,if_neg hn16,if_neg hn3,if_pos ho,kidE_at hfi]
   exact .inr ⟨r83,O,hE.trans (bind_ov hr83),(by have h:=hw; have h:=h.fronti 2 O; have h:=h.fronti 2 O; have h:=h.fronti 2 O; have h:=Wt 3 h; exact h)⟩
  intro r83 ⟨hr83,hg83⟩
  have hix:0≤r83.1∧r83.1<y.n:=index_in hr83
  obtain ⟨ni,hni⟩:∃ni:Nat,r83.1=ni:=⟨r83.1.toNat,by omega⟩
  have hdl:=hg83.dat
  obtain ⟨dw,hdw⟩:∃v,r83.2.w.data[b+(p+ni)]? = some v:=⟨_,List.getElem?_eq_getElem (by omega)⟩
  refine Ln (Eu ?_)
  refine U0 O (fun _ h=>by exact (Wo 1 (Wo 1 (Wo 1 (Wo 1 (Wo 1 ((((((h.f 4 O).f 4 O).f 4 O).f 4 O).f 4 O).f 5 O))))):)) (yl_addn (a:=p) (b:=ni) O O hpl hni (by omega)) ?_
  refine Ue O (fun _ h=>by exact (Wo 1 (Wo 1 (Wo 1 (Wo 1 (Wo 1 ((((((h.f 4 O).f 4 O).f 4 O).f 4 O).f 4 O).f 5 O))))):)) ?_ WU.stop
  refine Lf 3 O (Lf 3 O (Lf 3 O (Lf 3 O ?_)))
  refine Lw (ι:=_) [_,_,_,_] _ Y O en118 O O (_) (_) (_) [H] (by simp) (fun w hw=>sdatum_any bw K l lim C H r83.2 n bs u x loc.length v z mi j b (p+ni) y.m _ w hg83 hR hx hj hb (by omega) hm O hw) ?_
  intro db85 hdb85
  refine Ln (Eu ?_)
  refine U0 O (fun _ h=>by exact (Wo 1 (Wo 1 (Wo 1 (Wo 1 (Wo 1 ((((((h.f 4 O).f 4 O).f 4 O).f 4 O).f 4 O).f 5 O))))):)) (yl_nil O) ?_
  refine Ue O (fun _ h=>by exact (Wo 1 (Wo 1 (Wo 1 (Wo 1 (Wo 1 ((((((h.f 4 O).f 4 O).f 4 O).f 4 O).f 4 O).f 5 O))))):)) ?_ WU.stop
  refine V0 (yl_ldT (y:=dw) 2 (b+(p+ni)) 0 O O hdb85 O n1C_len hdw O na3) (Ln (Eu ?_))
  refine U0 O (fun _ h=>by exact (Wo 1 (Wo 1 (Wo 1 (Wo 1 (Wo 1 ((((((h.f 4 O).f 4 O).f 4 O).f 4 O).f 4 O).f 5 O))))):)) (Ya O) ?_
  refine WU.nil (fun _ h=>by exact (Wo 1 (Wo 1 (Wo 1 (Wo 1 (Wo 1 ((((((h.f 4 O).f 4 O).f 4 O).f 4 O).f 4 O).f 5 O))))):)) ?_
  refine WS.nil ?_
  refine Et (Crt (Ebr (Er ?_)))
  refine R1 O O fun w' hw=>?_
  have hat0:(envU l lim).at_ u y.m (y.pl+r83.1)=b+(p+ni):=by rw [hpl,hni]; exact hat ni
  have hE:nodeE (envU l lim) (callR (envU l lim) d) u y loc s.w=(indexR y.n (nodeE (envU l lim) (callR (envU l lim) d) u f) loc s.w).bind fun i w=>.ok (rdL w.data ((envU l lim).at_ u y.m (y.pl+i))) w:=by
    rw [nodeE_eq,nodeR,if_neg hn1,if_neg hn2,if_neg hn16,if_neg hn3,if_pos ho,kidE_at hfi]
  exact .inl ⟨(dw,r83.2),O,⟨(hE.trans (bind_ok hr83)).trans (by rw [hat0,rdL_at hdw]),hg83⟩,Wt 5 hw⟩
 have hn4:¬y.op=4:=by simpa using hc5
 refine Cs (Cr (V0 (yl_eq O O) (V0 (Ya O) (Ln (Et ?_)))))
 refine Cc O (fun hc6=>?_) (fun hc6=>?_)
 ·
  have ho:y.op=5:=by simpa using hc6
  refine Cs (Cr (V0 (Ym O) (V0 (Yf fo138_2 O) (V0 (Yd 0 O O O na3) (V0 (Yf fo138_3 O) (V0 (Yd 0 O O O na3) ?_))))))
  refine V0 (Yf fo138_4 O) (V0 (Yd 0 O O O na102) (Lf 5 O (Lf 5 O (Lf 5 O (Lf 5 O ?_)))))
  refine Lf 5 O ?_
  refine Lwx (ι:=_) (κ:=_) [_,_,_,_,_] _ Y O en120 O O (_) (_) (_) (_) (_) (_) ([H]) (by simp) (fun w hw=>spart_run H n K l lim bw C d bs u z x loc v y.m y.pl y.args a c k _ s w hg hR hx hN hC (hfacts.2.2.1 ho) hl hargs hw) ?_ ?_
  ·
   intro r97 hr97
   refine Ep (WE.block_panic (Ep ?_))
   refine Epp fun w' hw=>?_
   have hE:nodeE (envU l lim) (callR (envU l lim) d) u y loc s.w=partR (envU l lim) (callR (envU l lim) d) u y.m y.pl (kidsE (envU l lim) (callR (envU l lim) d) u y.args) loc s.w:=by
     rw [nodeE_eq,nodeR,if_neg hn1,if_neg hn2,if_neg hn16,if_neg hn3,if_neg hn4,if_pos ho]
   exact .inr ⟨r97,O,hE.trans hr97,(by have h:=hw; have h:=h.fronti 2 O; have h:=h.fronti 2 O; have h:=h.fronti 2 O; have h:=Wt 3 h; exact h)⟩
  intro r97 ⟨hr97,hg97⟩
  refine V0 (Ya O) (Ln (Et (Crt (Ebr (Er ?_)))))
  refine R1 O O fun w' hw=>?_
  have hE:nodeE (envU l lim) (callR (envU l lim) d) u y loc s.w=partR (envU l lim) (callR (envU l lim) d) u y.m y.pl (kidsE (envU l lim) (callR (envU l lim) d) u y.args) loc s.w:=by
    rw [nodeE_eq,nodeR,if_neg hn1,if_neg hn2,if_neg hn16,if_neg hn3,if_neg hn4,if_pos ho]
  exact .inl ⟨r97,O,⟨hE.trans hr97,hg97⟩,Wt 5 hw⟩
 have hn5:¬y.op=5:=by simpa using hc6
 refine Cs (Cr (V0 (yl_eq O O) (V0 (Ya O) (Ln (Et ?_)))))
 refine Cc O (fun hc7=>?_) (fun hc7=>?_)
 ·
  have ho:y.op=6:=by simpa using hc7
  refine Cs ?_
  have hl1:=hlen.1 (.inr ho)
  obtain ⟨f,hfi⟩:∃v,y.args[0]? = some v:=⟨_,List.getElem?_eq_getElem (by omega)⟩
  obtain ⟨pf,qf,haf,hrf⟩:=hl.elt 0 f hfi
  obtain ⟨k2,rfl⟩:∃k2,k=k2+1:=by
    cases k with
    | zero=>exact hrf.elim
    | succ k2=>exact ⟨k2,rfl⟩
  obtain ⟨fa,fc,hrowf,hsubf⟩:=hrf
  have hN2:=hN k2 (by omega)
  have hof:=nodesK_at hargs hfi
  refine Cr (V0 (Ym O) (V0 (Yf fo138_4 O) (V0 (Yd 0 O O O na102) ?_)))
  refine V0 (Yo (i:=0) es102 O O haf (by omega)) ?_
  refine V0 (yl_lda 0 ag138 O O O (hrowf)) (Lf 5 O (Lf 5 O (Lf 5 O (Lf 5 O (Lf 5 O ?_)))))
  refine Lwx (ι:=_) (κ:=_) [_,_,_,_,_] _ Y O en117 O O (_) (_) (_) (_) (_) (_) ([H]) (by simp) (fun w hw=>hN2 bs u z x loc v f fa fc _ s w hg hx hsubf hof hw) ?_ ?_
  ·
   intro r105 hr105
   refine Ep (WE.block_panic (Ep ?_))
   refine Epp fun w' hw=>?_
   have hE:nodeE (envU l lim) (callR (envU l lim) d) u y loc s.w=(nodeE (envU l lim) (callR (envU l lim) d) u f loc s.w).bind fun v w=>.ok (bitB (v==0)) w:=by
     rw [nodeE_eq,nodeR,if_neg hn1,if_neg hn2,if_neg hn16,if_neg hn3,if_neg hn4,if_neg hn5,if_pos ho,kidE_at hfi]
   exact .inr ⟨r105,O,hE.trans (bind_ov hr105),(by have h:=hw; have h:=h.fronti 2 O; have h:=h.fronti 2 O; have h:=h.fronti 2 O; have h:=Wt 3 h; exact h)⟩
  intro r105 ⟨hr105,hg105⟩
  refine V0 (yl_eq O O) ?_
  refine Lp Y O en140 O (fun w hw=>sbit_any _ w) ?_
  refine V0 (Ya O) (Ln (Et (Crt (Ebr (Er ?_)))))
  refine R1 O O fun w' hw=>?_
  have hE:nodeE (envU l lim) (callR (envU l lim) d) u y loc s.w=(nodeE (envU l lim) (callR (envU l lim) d) u f loc s.w).bind fun v w=>.ok (bitB (v==0)) w:=by
    rw [nodeE_eq,nodeR,if_neg hn1,if_neg hn2,if_neg hn16,if_neg hn3,if_neg hn4,if_neg hn5,if_pos ho,kidE_at hfi]
  exact .inl ⟨(bitB (r105.1==0),r105.2),O,⟨hE.trans (bind_ok hr105),hg105⟩,Wt 5 hw⟩
 have hn6:¬y.op=6:=by simpa using hc7
 refine Cs (Cr (V0 (yl_eq O O) (V0 (Ya O) (Ln (Et ?_)))))
 refine Cc O (fun hc8=>?_) (fun hc8=>?_)
 ·
  have ho:y.op=7:=by simpa using hc8
  refine Cs ?_
  have hl2:=hlen.2.1 (by omega)
  obtain ⟨f,hfi⟩:∃v,y.args[0]? = some v:=⟨_,List.getElem?_eq_getElem (by omega)⟩
  obtain ⟨pf,qf,haf,hrf⟩:=hl.elt 0 f hfi
  obtain ⟨g,hgi⟩:∃v,y.args[1]? = some v:=⟨_,List.getElem?_eq_getElem (by omega)⟩
  obtain ⟨pg,qg,hag,hrg⟩:=hl.elt 1 g hgi
  obtain ⟨k2,rfl⟩:∃k2,k=k2+1:=by
    cases k with
    | zero=>exact hrf.elim
    | succ k2=>exact ⟨k2,rfl⟩
  obtain ⟨fa,fc,hrowf,hsubf⟩:=hrf
  have hN2:=hN k2 (by omega)
  have hof:=nodesK_at hargs hfi
  obtain ⟨ga,gc,hrowg,hsubg⟩:=hrg
  have hog:=nodesK_at hargs hgi
  have hE:nodeE (envU l lim) (callR (envU l lim) d) u y loc s.w=(nodeE (envU l lim) (callR (envU l lim) d) u f loc s.w).bind fun v w=>if v=0 then .ok 0 w else (nodeE (envU l lim) (callR (envU l lim) d) u g loc w).bind fun v w=>.ok (bitB (!(v==0))) w:=by
    rw [nodeE_eq,nodeR,if_neg hn1,if_neg hn2,if_neg hn16,if_neg hn3,if_neg hn4,if_neg hn5,if_neg hn6,if_pos ho,kidE_at hfi,kidE_at hgi]
  refine Cr (V0 (Ym O) (V0 (Yf fo138_4 O) (V0 (Yd 0 O O O na102) ?_)))
  refine V0 (Yo (i:=0) es102 O O haf (by omega)) ?_
  refine V0 (yl_lda 0 ag138 O O O (hrowf)) (Lf 5 O (Lf 5 O (Lf 5 O (Lf 5 O (Lf 5 O ?_)))))
  refine Lwx (ι:=_) (κ:=_) [_,_,_,_,_] _ Y O en117 O O (_) (_) (_) (_) (_) (_) ([H]) (by simp) (fun w hw=>hN2 bs u z x loc v f fa fc _ s w hg hx hsubf hof hw) ?_ ?_
  ·
   intro r115 hr115
   refine Ep (WE.block_panic (Ep ?_))
   refine Epp fun w' hw=>?_
   exact .inr ⟨r115,O,hE.trans (bind_ov hr115),(by have h:=hw; have h:=h.fronti 2 O; have h:=h.fronti 2 O; have h:=h.fronti 2 O; have h:=Wt 3 h; exact h)⟩
  intro r115 ⟨hr115,hg115⟩
  refine V0 (yl_ne O O) (V0 (Ym O) ?_)
  rcases Bool.eq_false_or_eq_true (r115.1 != 0) with hsp117 | hsp117
  ·
   rw [hsp117]
   refine Vg (Ym O) (Vg (Yf fo138_4 O) (Vg (Yd 5 O O O na102) ?_))
   refine Vg (Yo (i:=1) es102 O O hag (by omega)) ?_
   refine Vg (yl_lda 0 ag138 O O O (hrowg)) (Lf 4 O (Lf 4 O (Lf 4 O (Lf 4 O (Lf 4 O ?_)))))
   refine Lwx (ι:=_) (κ:=_) [_,_,_,_,_] _ (.g O O O) O en117 O O (_) (_) (_) (_) (_) (_) ([H]) (by simp) (fun w hw=>hN2 bs u z x loc v g ga gc _ r115.2 w hg115 hx hsubg hog hw) ?_ ?_
   ·
    intro r123 hr123
    refine Ep (WE.block_panic (Ep ?_))
    refine Epp fun w' hw=>?_
    exact .inr ⟨r123,O,(hE.trans (bind_ok hr115)).trans ((if_neg (by simpa using hsp117)).trans (bind_ov hr123)),(by have h:=hw; have h:=h.fronti 2 O; have h:=h.fronti 2 O; have h:=h.fronti 2 O; have h:=Wt 3 h; exact h)⟩
   intro r123 ⟨hr123,hg123⟩
   refine Vg (yl_ne O O) (V0 (yl_pickt O O) ?_)
   refine Lp Y O en140 O (fun w hw=>sbit_any _ w) ?_
   refine V0 (Ya O) (Ln (Et (Crt (Ebr (Er ?_)))))
   refine R1 O O fun w' hw=>?_
   exact .inl ⟨(bitB (r123.1 != 0),r123.2),O,⟨(hE.trans (bind_ok hr115)).trans ((if_neg (by simpa using hsp117)).trans (bind_ok hr123)),hg123⟩,Wt 5 hw⟩
  rw [hsp117]
  refine WL.skip O O O O O ?_
  refine WL.skip O O O O O ?_
  refine WL.skip O O O O O ?_
  refine WL.skip O O O O O ?_
  refine WL.skip O O O O O ?_
  refine WL.skip O O O O O ?_
  refine WL.skip O O O O O ?_
  refine V0 (yl_pickf O O) ?_
  refine Lp Y O en140 O (fun w hw=>sbit_any _ w) ?_
  refine V0 (Ya O) (Ln (Et (Crt (Ebr (Er ?_)))))
  refine R1 O O fun w' hw=>?_
  exact .inl ⟨(0,r115.2),O,⟨(hE.trans (bind_ok hr115)).trans (if_pos (by simpa using hsp117)),hg115⟩,Wt 5 hw⟩
 have hn7:¬y.op=7:=by simpa using hc8
 refine Cs (Cr (V0 (yl_eq O O) (V0 (Ya O) (Ln (Et ?_)))))
 refine Cc O (fun hc9=>?_) (fun hc9=>?_)
 ·
  have ho:y.op=8:=by simpa using hc9
  refine Cs ?_
  have hl2:=hlen.2.1 (by omega)
  obtain ⟨f,hfi⟩:∃v,y.args[0]? = some v:=⟨_,List.getElem?_eq_getElem (by omega)⟩
  obtain ⟨pf,qf,haf,hrf⟩:=hl.elt 0 f hfi
  obtain ⟨g,hgi⟩:∃v,y.args[1]? = some v:=⟨_,List.getElem?_eq_getElem (by omega)⟩
  obtain ⟨pg,qg,hag,hrg⟩:=hl.elt 1 g hgi
  obtain ⟨k2,rfl⟩:∃k2,k=k2+1:=by
    cases k with
    | zero=>exact hrf.elim
    | succ k2=>exact ⟨k2,rfl⟩
  obtain ⟨fa,fc,hrowf,hsubf⟩:=hrf
  have hN2:=hN k2 (by omega)
  have hof:=nodesK_at hargs hfi
  obtain ⟨ga,gc,hrowg,hsubg⟩:=hrg
  have hog:=nodesK_at hargs hgi
  have hE:nodeE (envU l lim) (callR (envU l lim) d) u y loc s.w=(nodeE (envU l lim) (callR (envU l lim) d) u f loc s.w).bind fun v w=>if v=0 then (nodeE (envU l lim) (callR (envU l lim) d) u g loc w).bind fun v w=>.ok (bitB (!(v==0))) w else .ok 1 w:=by
    rw [nodeE_eq,nodeR,if_neg hn1,if_neg hn2,if_neg hn16,if_neg hn3,if_neg hn4,if_neg hn5,if_neg hn6,if_neg hn7,if_pos ho,kidE_at hfi,kidE_at hgi]
  refine Cr (V0 (Ym O) (V0 (Yf fo138_4 O) (V0 (Yd 0 O O O na102) ?_)))
  refine V0 (Yo (i:=0) es102 O O haf (by omega)) ?_
  refine V0 (yl_lda 0 ag138 O O O (hrowf)) (Lf 5 O (Lf 5 O (Lf 5 O (Lf 5 O (Lf 5 O ?_)))))
  refine Lwx (ι:=_) (κ:=_) [_,_,_,_,_] _ Y O en117 O O (_) (_) (_) (_) (_) (_) ([H]) (by simp) (fun w hw=>hN2 bs u z x loc v f fa fc _ s w hg hx hsubf hof hw) ?_ ?_
  ·
   intro r134 hr134
   refine Ep (WE.block_panic (Ep ?_))
   refine Epp fun w' hw=>?_
   exact .inr ⟨r134,O,hE.trans (bind_ov hr134),(by have h:=hw; have h:=h.fronti 2 O; have h:=h.fronti 2 O; have h:=h.fronti 2 O; have h:=Wt 3 h; exact h)⟩
  intro r134 ⟨hr134,hg134⟩
  refine V0 (yl_ne O O) (V0 (Ym O) ?_)
  rcases Bool.eq_false_or_eq_true (r134.1 != 0) with hsp136 | hsp136
  ·
   rw [hsp136]
   refine WL.skip O O O O O ?_
   refine WL.skip O O O O O ?_
   refine WL.skip O O O O O ?_
   refine WL.skip O O O O O ?_
   refine WL.skip O O O O O ?_
   refine WL.skip O O O O O ?_
   refine WL.skip O O O O O ?_
   refine V0 (yl_pickt O O) ?_
   refine Lp Y O en140 O (fun w hw=>sbit_any _ w) ?_
   refine V0 (Ya O) (Ln (Et (Crt (Ebr (Er ?_)))))
   refine R1 O O fun w' hw=>?_
   exact .inl ⟨(1,r134.2),O,⟨(hE.trans (bind_ok hr134)).trans (if_neg (by simpa using hsp136)),hg134⟩,Wt 5 hw⟩
  rw [hsp136]
  refine Vg (Ym O) (Vg (Yf fo138_4 O) (Vg (Yd 5 O O O na102) ?_))
  refine Vg (Yo (i:=1) es102 O O hag (by omega)) ?_
  refine Vg (yl_lda 0 ag138 O O O (hrowg)) (Lf 4 O (Lf 4 O (Lf 4 O (Lf 4 O (Lf 4 O ?_)))))
  refine Lwx (ι:=_) (κ:=_) [_,_,_,_,_] _ (.g O O O) O en117 O O (_) (_) (_) (_) (_) (_) ([H]) (by simp) (fun w hw=>hN2 bs u z x loc v g ga gc _ r134.2 w hg134 hx hsubg hog hw) ?_ ?_
  ·
   intro r142 hr142
   refine Ep (WE.block_panic (Ep ?_))
   refine Epp fun w' hw=>?_
   exact .inr ⟨r142,O,(hE.trans (bind_ok hr134)).trans ((if_pos (by simpa using hsp136)).trans (bind_ov hr142)),(by have h:=hw; have h:=h.fronti 2 O; have h:=h.fronti 2 O; have h:=h.fronti 2 O; have h:=Wt 3 h; exact h)⟩
  intro r142 ⟨hr142,hg142⟩
  refine Vg (yl_ne O O) (V0 (yl_pickf O O) ?_)
  refine Lp Y O en140 O (fun w hw=>sbit_any _ w) ?_
  refine V0 (Ya O) (Ln (Et (Crt (Ebr (Er ?_)))))
  refine R1 O O fun w' hw=>?_
  exact .inl ⟨(bitB (r142.1 != 0),r142.2),O,⟨(hE.trans (bind_ok hr134)).trans ((if_pos (by simpa using hsp136)).trans (bind_ok hr142)),hg142⟩,Wt 5 hw⟩
 have hn8:¬y.op=8:=by simpa using hc9
 refine Ck (Eb (Et (Cs ?_)))
 have hop9:9≤y.op:=by omega
 have hl2:=hlen.2.1 (by omega)
 obtain ⟨f,hfi⟩:∃v,y.args[0]? = some v:=⟨_,List.getElem?_eq_getElem (by omega)⟩
 obtain ⟨pf,qf,haf,hrf⟩:=hl.elt 0 f hfi
 obtain ⟨g,hgi⟩:∃v,y.args[1]? = some v:=⟨_,List.getElem?_eq_getElem (by omega)⟩
 obtain ⟨pg,qg,hag,hrg⟩:=hl.elt 1 g hgi
 obtain ⟨k2,rfl⟩:∃k2,k=k2+1:=by
   cases k with
   | zero=>exact hrf.elim
   | succ k2=>exact ⟨k2,rfl⟩
 obtain ⟨fa,fc,hrowf,hsubf⟩:=hrf
 have hN2:=hN k2 (by omega)
 have hof:=nodesK_at hargs hfi
 obtain ⟨ga,gc,hrowg,hsubg⟩:=hrg
 have hog:=nodesK_at hargs hgi
 have hE:nodeE (envU l lim) (callR (envU l lim) d) u y loc s.w=(nodeE (envU l lim) (callR (envU l lim) d) u f loc s.w).bind fun a w=>(nodeE (envU l lim) (callR (envU l lim) d) u g loc w).bind fun b w=>mathR y.op a b w:=by
   rw [nodeE_eq,nodeR,if_neg hn1,if_neg hn2,if_neg hn16,if_neg hn3,if_neg hn4,if_neg hn5,if_neg hn6,if_neg hn7,if_neg hn8,kidE_at hfi,kidE_at hgi]
 refine Cr (V0 (Ym O) (V0 (Yf fo138_4 O) (V0 (Yd 0 O O O na102) ?_)))
 refine V0 (Yo (i:=0) es102 O O haf (by omega)) ?_
 refine V0 (yl_lda 0 ag138 O O O (hrowf)) (Lf 5 O (Lf 5 O (Lf 5 O (Lf 5 O (Lf 5 O ?_)))))
 refine Lwx (ι:=_) (κ:=_) [_,_,_,_,_] _ Y O en117 O O (_) (_) (_) (_) (_) (_) ([H]) (by simp) (fun w hw=>hN2 bs u z x loc v f fa fc _ s w hg hx hsubf hof hw) ?_ ?_
 ·
  intro r151 hr151
  refine Ep ?_
  refine Epp fun w' hw=>?_
  exact .inr ⟨r151,O,hE.trans (bind_ov hr151),(by have h:=hw; have h:=h.fronti 2 O; have h:=h.fronti 2 O; have h:=h.fronti 2 O; have h:=Wt 3 h; exact h)⟩
 intro r151 ⟨hr151,hg151⟩
 refine V0 (Ya O) (Ln (Et (Cs (Cr (V0 (Ym O) (V0 (Yf fo138_4 O) (V0 (Yd 5 O O O na102) ?_)))))))
 refine V0 (Yo (i:=1) es102 O O hag (by omega)) ?_
 refine V0 (yl_lda 0 ag138 O O O (hrowg)) (Lf 4 O (Lf 4 O (Lf 4 O (Lf 4 O (Lf 4 O ?_)))))
 refine Lwx (ι:=_) (κ:=_) [_,_,_,_,_] _ Y O en117 O O (_) (_) (_) (_) (_) (_) ([H]) (by simp) (fun w hw=>hN2 bs u z x loc v g ga gc _ r151.2 w hg151 hx hsubg hog hw) ?_ ?_
 ·
  intro r157 hr157
  refine Ep ?_
  refine Epp fun w' hw=>?_
  exact .inr ⟨r157,O,hE.trans ((bind_ok hr151).trans (bind_ov hr157)),(by have h:=hw; have h:=h.fronti 2 O; have h:=h.fronti 2 O; have h:=h.fronti 2 O; have h:=Wt 3 h; exact h)⟩
 intro r157 ⟨hr157,hg157⟩
 refine V0 (Ya O) (Ln (Et (Cs (Cs ?_))))
 have hM:nodeE (envU l lim) (callR (envU l lim) d) u y loc s.w=mathR y.op r151.1 r157.1 r157.2.w:=hE.trans ((bind_ok hr151).trans (bind_ok hr157))
 refine Cr (V0 (Yf fo138_0 O) (V0 (Yd 5 O O O na3) (Ln (Et (Cb (Cs (Cr (V0 (yl_eq O O) (V0 (Ya O) ?_)))))))))
 refine Ln (Et ?_)
 refine Cc O (fun hc10=>?_) (fun hc10=>?_)
 ·
  have ho:y.op=9:=by simpa using hc10
  refine Cs (Cr (V0 (Ym O) (V0 (Ym O) (V0 (yl_addw O O) (V0 (Ya O) (Ln (Et (Crt (Ebr (Er ?_))))))))))
  refine R1 O O fun w' hw=>?_
  exact .inl ⟨(IntKind.i64.wrap (r151.1+r157.1),r157.2),O,⟨hM.trans (by rw [mathR,if_pos ho]),hg157⟩,Wt 5 hw⟩
 have hn9:¬y.op=9:=by simpa using hc10
 refine Cs (Cr (V0 (yl_eq O O) (V0 (Ya O) (Ln (Et ?_)))))
 refine Cc O (fun hc11=>?_) (fun hc11=>?_)
 ·
  have ho:y.op=10:=by simpa using hc11
  refine Cs (Cr (V0 (Ym O) (V0 (Ym O) (V0 (yl_subw O O) (V0 (Ya O) (Ln (Et (Crt (Ebr (Er ?_))))))))))
  refine R1 O O fun w' hw=>?_
  exact .inl ⟨(IntKind.i64.wrap (r151.1-r157.1),r157.2),O,⟨hM.trans (by rw [mathR,if_neg hn9,if_pos ho]),hg157⟩,Wt 5 hw⟩
 have hn10:¬y.op=10:=by simpa using hc11
 refine Cs (Cr (V0 (yl_eq O O) (V0 (Ya O) (Ln (Et ?_)))))
 refine Cc O (fun hc12=>?_) (fun hc12=>?_)
 ·
  have ho:y.op=11:=by simpa using hc12
  refine Cs (Cr (V0 (Ym O) (V0 (Ym O) (V0 (yl_mulw O O) (V0 (Ya O) (Ln (Et (Crt (Ebr (Er ?_))))))))))
  refine R1 O O fun w' hw=>?_
  exact .inl ⟨(IntKind.i64.wrap (r151.1*r157.1),r157.2),O,⟨hM.trans (by rw [mathR,if_neg hn9,if_neg hn10,if_pos ho]),hg157⟩,Wt 5 hw⟩
 have hn11:¬y.op=11:=by simpa using hc12
 refine Cs (Cr (V0 (yl_eq O O) (V0 (Ya O) (Ln (Et ?_)))))
 refine Cc O (fun hc13=>?_) (fun hc13=>?_)
 ·
  have ho:y.op=14:=by simpa using hc13
  refine Cs (Cr (V0 (Ym O) (V0 (Ym O) (V0 (yl_eq O O) ?_))))
  refine Lp Y O en140 O (fun w hw=>sbit_any _ w) ?_
  refine V0 (Ya O) (Ln (Et (Crt (Ebr (Er ?_)))))
  refine R1 O O fun w' hw=>?_
  exact .inl ⟨(bitB (r151.1==r157.1),r157.2),O,⟨hM.trans (by rw [mathR,if_neg hn9,if_neg hn10,if_neg hn11,if_pos ho]),hg157⟩,Wt 5 hw⟩
 have hn14:¬y.op=14:=by simpa using hc13
 refine Cs (Cr (V0 (yl_eq O O) (V0 (Ya O) (Ln (Et ?_)))))
 refine Cc O (fun hc14=>?_) (fun hc14=>?_)
 ·
  have ho:y.op=15:=by simpa using hc14
  refine Cs (Cr (V0 (Ym O) (V0 (Ym O) (V0 (yl_lt O O) ?_))))
  refine Lp Y O en140 O (fun w hw=>sbit_any _ w) ?_
  refine V0 (Ya O) (Ln (Et (Crt (Ebr (Er ?_)))))
  refine R1 O O fun w' hw=>?_
  exact .inl ⟨(bitB (decide (r151.1<r157.1)),r157.2),O,⟨hM.trans (by rw [mathR,if_neg hn9,if_neg hn10,if_neg hn11,if_neg hn14,if_pos ho]),hg157⟩,Wt 5 hw⟩
 have hn15:¬y.op=15:=by simpa using hc14
 refine Ck (Eb (Et (Cs (Cr (V0 (Ym O) (V0 (yl_eq O O) ?_))))))
 refine Lwx (ι:=Unit) (κ:=Unit) [] _ Y O en56 O O (fun _=>.tuple #[]) (fun _=>[]) (fun _=>(r157.1==0)=false) (fun _=>ovS 89 1) (fun _=>[]) (fun _=>(r157.1==0)=true) ([]) (by simp) (fun w hw=>(sstop_any _ 1 w).mono fun e w' h=>by
     rcases h with ⟨_,h1,h2,h3⟩ | ⟨_,h1,h2,h3⟩
     · exact .inl ⟨(),h1,h2,hw.ext h3⟩
     · exact .inr ⟨(),h1,h2,hw.ext h3⟩) ?_ ?_
 ·
  intro _ hn189
  refine Ep ?_
  refine Epp fun w' hw=>?_
  exact .inr ⟨(1,r157.2),O,hM.trans (by rw [mathR,if_neg hn9,if_neg hn10,if_neg hn11,if_neg hn14,if_neg hn15,if_pos (by simpa using hn189)]),(by have h:=hw; have h:=h.fronti 2 O; have h:=h.fronti 2 O; have h:=h.fronti 2 O; have h:=Wt 3 h; exact h)⟩
 intro _ hn189
 refine Ln (Et (Cs (Cs ?_)))
 have hb0:¬r157.1=0:=by simpa using hn189
 refine Cr (V0 (Yf fo138_0 O) (V0 (Yd 5 O O O na3) (V0 (yl_eq O O) (Ln (Et ?_)))))
 refine Cc O (fun hc15=>?_) (fun hc15=>?_)
 ·
  have ho:y.op=12:=by simpa using hc15
  refine Cs (Cr (V0 (Ym O) (V0 (Ym O) (V0 (yl_quo O O hb0) (V0 (Ya O) (Ln (Et (Crt (Er ?_)))))))))
  refine R1 O O fun w' hw=>?_
  exact .inl ⟨(IntKind.i64.wrap (r151.1.tdiv r157.1),r157.2),O,⟨hM.trans (by rw [mathR,if_neg hn9,if_neg hn10,if_neg hn11,if_neg hn14,if_neg hn15,if_neg hb0,if_pos ho]),hg157⟩,Wt 5 hw⟩
 have hn12:¬y.op=12:=by simpa using hc15
 refine Ck (Et (Cs (Cr (V0 (Ym O) (V0 (Ym O) (V0 (yl_rem O O hb0) (V0 (Ya O) (Ln (Et (Crt ?_))))))))))
 refine R1 O O fun w' hw=>?_
 exact .inl ⟨(r151.1.tmod r157.1,r157.2),O,⟨hM.trans (by rw [mathR,if_neg hn9,if_neg hn10,if_neg hn11,if_neg hn14,if_neg hn15,if_neg hb0,if_neg hn12]),hg157⟩,Wt 5 hw⟩
end Go.Proofs.YtpjekjnehiinnaaGreatDoor
end
section
namespace Go.Proofs.YtpjekjnehiinnaaGreatDoor
open Go.Bw
def SAc (H:View) (n:Nat) (K:KW) (l:List TUnit) (lim bw C d:Nat) (k1 k:Nat):Prop:=∀(bs u:Nat) (z:TUnit) (x:SP) (loc:List Int) (v:Int) (body:List TAct) (a:Option Addr) (c dd:Nat) (s:WSt) (w:World),WGood H (envU l lim) (sumU l) C s→l[u]? = some z→Sl (RdA k1 k) 7 H a c body→actsA (knM z::usesKn l z) loc.length body dd=true→Ws w (List.flatMap Asr.ids ((wown 87 3 bw K (envU l lim) s)++(sown 128 3 bs bw u x loc v))) ((wown 87 3 bw K (envU l lim) s)++(sown 128 3 bs bw u x loc v)) [H] w→
 Calls Tryz.prog 57 #[.pointer (some ⟨bs,0,none⟩),.slice a body.length c] w fun e w'=>(∃r:Bool×WSt×List Int×Int,e = .returned (.bool r.1)∧(actsE (envU l lim) (callR (envU l lim) d) u body (⟨loc,v,s.w⟩:Fm) = .ok r.1 ⟨r.2.2.1,r.2.2.2,r.2.1.w⟩∧WGood H (envU l lim) (sumU l) C r.2.1∧r.2.2.1.length=loc.length)∧Ws w (List.flatMap Asr.ids ((wown 87 3 bw K (envU l lim) s)++(sown 128 3 bs bw u x loc v))) ((wown 87 3 bw K (envU l lim) r.2.1)++(sown 128 3 bs bw u x r.2.2.1 r.2.2.2)) [H] w')∨(∃r:Int×WSt,e = .panicked (ovS 89 r.1)∧actsE (envU l lim) (callR (envU l lim) d) u body (⟨loc,v,s.w⟩:Fm) = .ov r.1 r.2.w∧Ws w (List.flatMap Asr.ids ((wown 87 3 bw K (envU l lim) s)++(sown 128 3 bs bw u x loc v))) (wown 87 3 bw K (envU l lim) r.2) [H] w')
theorem sev_all (H:View) (n:Nat) (K:KW) (l:List TUnit) (lim bw C d:Nat) (hR:RunAt H n K l lim) (hC:SCall H n K l lim bw C d) (k:Nat):SEv H n K l lim bw C d k:=fun bs u z x loc v y a c dd s w h1 h2 h3 h4 h5=>seval_run H n K l lim bw C d bs u z x loc v y a c k dd s w h1 hR h2 hC h3 h4 h5
theorem loop_zero {P:Env} {c:Fm→Rz Fm Int} {b:Fm→Rz Fm Bool} {k:Nat} {f f1:Fm} {v:Int} (hc:c f = .ok v f1) (hv:v=0):loopR P c b (k+1) f = .ok false f1:=by unfold loopR; rw [bind_ok hc]; exact if_pos hv
theorem loop_pan {P:Env} {c:Fm→Rz Fm Int} {b:Fm→Rz Fm Bool} {k:Nat} {f:Fm} {e:Int} {w:Wm} (hc:c f = .ov e w):loopR P c b (k+1) f = .ov e w:=by unfold loopR; rw [bind_ov hc]
theorem loop_go {P:Env} {c:Fm→Rz Fm Int} {b:Fm→Rz Fm Bool} {k:Nat} {f f1:Fm} {v:Int} (hc:c f = .ok v f1) (hv:¬v=0):loopR P c b (k+1) f=(Rz.fr f1 (tickW P f1.w)).bind fun _ f=>(b f).bind fun t f=>if t=true then .ok true f else loopR P c b k f:=by
 rw [loopR,bind_ok hc]; exact if_neg hv
theorem tick_inc {P:Env} {w w':Wm} {x:Unit} (h:tickW P w = .ok x w'):w'.ticks=w.ticks+1:=by
 unfold tickW at h
 split at h
 · cases h
 · simp only [Rz.ok.injEq] at h; rw [←h.2]
theorem acts_tk {P:Env} {d u:Nat} {b:List TAct} {f f':Fm} {t:Bool} (h:actsE P (callR P d) u b f = .ok t f'):f.w.ticks≤f'.w.ticks:=by have h9:=actsE_kp (P:=P) (callR_kp d) u b f; rw [h] at h9; exact h9.1.ticks
theorem node_tk {P:Env} {d u:Nat} {x:TNode} {loc:List Int} {w w':Wm} {v:Int} (h:nodeE P (callR P d) u x loc w = .ok v w'):w.ticks≤w'.ticks:=by have h9:=nodeE_kp (P:=P) (callR_kp d) u x loc w; rw [h] at h9; exact h9.ticks
theorem actsE_at {P:Env} {call:Cl} {u:Nat} {l:List TAct} {i:Nat} {y:TAct} (f:Fm) (h:l[i]? = some y):actsE P call u (l.drop i) f=(actE P call u y f).bind fun t f=>if t=true then .ok true f else actsE P call u (l.drop (i+1)) f:=by
 obtain ⟨h1,h2⟩:=List.getElem?_eq_some_iff.1 h
 rw [List.drop_eq_getElem_cons h1,h2,actsE]
theorem actsE_end {P:Env} {call:Cl} {u:Nat} {l:List TAct} {i:Nat} (f:Fm) (h:l.length≤i):actsE P call u (l.drop i) f = .ok false f:=by rw [List.drop_eq_nil_of_le h,actsE]
theorem en57:Enters Tryz.prog 57:=enters_of Tryz.func57 (by kernel_rfl) rfl
theorem en55:Enters Tryz.prog 55:=enters_of Tryz.func55 (by kernel_rfl) rfl
theorem fo128_3:fieldOff Tryz.prog 128 3=some 3:=by kernel_rfl
theorem fo42_1:fieldOff Tryz.prog 42 1=some 1:=by kernel_rfl
theorem sact_run (H:View) (n:Nat) (K:KW) (l:List TUnit) (lim bw C d:Nat) (bs u:Nat) (z:TUnit) (x:SP) (loc:List Int) (v:Int) (y:TAct) (r:AAt) (k1 k dd:Nat) (s:WSt) (w:World) (hg:WGood H (envU l lim) (sumU l) C s) (hR:RunAt H n K l lim) (hx:l[u]? = some z) (hC:SCall H n K l lim bw C d) (hA:SAc H n K l lim bw C d k1 k) (hl:Sl (RdN k1) 5 H r.s1.1 r.s1.2 y.args) (h2:Sl (RdA k1 k) 7 H r.s2.1 r.s2.2 y.body) (h3:Sl (RdA k1 k) 7 H r.s3.1 r.s3.2 y.other) (hok:actK (knM z::usesKn l z) loc.length y dd=true) (hw:Ws w (List.flatMap Asr.ids ((wown 87 3 bw K (envU l lim) s)++(sown 128 3 bs bw u x loc v))) ((wown 87 3 bw K (envU l lim) s)++(sown 128 3 bs bw u x loc v)) [H] w) :
   Calls Tryz.prog 83 #[.pointer (some ⟨bs,0,none⟩),.agg (actV y r).toArray] w fun e w'=>(∃r:Bool×WSt×List Int×Int,e = .returned (.bool r.1)∧(actE (envU l lim) (callR (envU l lim) d) u y (⟨loc,v,s.w⟩:Fm) = .ok r.1 ⟨r.2.2.1,r.2.2.2,r.2.1.w⟩∧WGood H (envU l lim) (sumU l) C r.2.1∧r.2.2.1.length=loc.length)∧Ws w (List.flatMap Asr.ids ((wown 87 3 bw K (envU l lim) s)++(sown 128 3 bs bw u x loc v))) ((wown 87 3 bw K (envU l lim) r.2.1)++(sown 128 3 bs bw u x r.2.2.1 r.2.2.2)) [H] w')∨(∃r:Int×WSt,e = .panicked (ovS 89 r.1)∧actE (envU l lim) (callR (envU l lim) d) u y (⟨loc,v,s.w⟩:Fm) = .ov r.1 r.2.w∧Ws w (List.flatMap Asr.ids ((wown 87 3 bw K (envU l lim) s)++(sown 128 3 bs bw u x loc v))) (wown 87 3 bw K (envU l lim) r.2) [H] w'):=by
 have hD:=sum_le hR.ok
 have hgd:=hg.dat
 have hN:=sev_all H n K l lim bw C d hR hC
 have hcap:=hl.cap
 have hmax:=hl.max
 obtain ⟨hn1,hargs,hbok,hook⟩:=actK_parts hok
 have hlen:=act1_len hn1
 have hfacts:=act1_facts hn1
 have hop:=hlen.2.2
 refine enter Tryz.func83 O 157 O O ?_
 refine CWd (W':=Ws w (List.flatMap Asr.ids ((wown 87 3 bw K (envU l lim) s)++(sown 128 3 bs bw u x loc v))) ((wown 87 3 bw K (envU l lim) s)++(sown 128 3 bs bw u x loc v)) [H]) (fun _ e=>by subst e; exact hw) ?_
 refine Cs (Cr ?_)
 refine WL.box Y O O fun b3=>?_
 refine V0 (Ya O) (Ln (Et (Cs (Cs ?_))))
 refine Crb 0 (.cells (actV y r).toArray 104 (0,0)) O O ?_
 refine Cr (V0 (Yf fo104_0 O) (V0 (Yd 0 O O O na3) (Ln (Et (Cb (Cs (Cr (V0 (yl_eq O O) (V0 (Ya O) ?_)))))))))
 refine Ln (Et ?_)
 refine Cc O (fun hc0=>?_) (fun hc0=>?_)
 ·
  have ho:y.op=1:=by simpa using hc0
  refine Cs ?_
  have hl1:=hlen.1 (by omega)
  obtain ⟨f,hfi⟩:∃v,y.args[0]? = some v:=⟨_,List.getElem?_eq_getElem (by omega)⟩
  obtain ⟨pf,qf,haf,hrf⟩:=hl.elt 0 f hfi
  obtain ⟨k2,rfl⟩:∃k2,k1=k2+1:=by
    cases k1 with
    | zero=>exact hrf.elim
    | succ k2=>exact ⟨k2,rfl⟩
  obtain ⟨fa,fc,hrowf,hsubf⟩:=hrf
  have hN2:=hN k2
  have hof:=nodesK_at hargs hfi
  have hE:actE (envU l lim) (callR (envU l lim) d) u y (⟨loc,v,s.w⟩:Fm)=(Rz.fr (⟨loc,v,s.w⟩:Fm) (nodeE (envU l lim) (callR (envU l lim) d) u f loc s.w)).bind fun v q=>if y.m<0 then .ok false { q with loc:=q.loc.set y.pl.toNat v } else .ok false { q with w:={ q.w with data:=q.w.data.set ((envU l lim).at_ u y.m y.pl) v } }:=by
    rw [actE_eq,actR,if_pos ho,kidE_at hfi]
  refine Cr (V0 (Ym O) (V0 (Yf fo104_4 O) (V0 (Yd 0 O O O na102) ?_)))
  refine V0 (Yo (i:=0) es102 O O haf (by omega)) ?_
  refine V0 (yl_lda 0 ag138 O O O (hrowf)) (Lf 5 O (Lf 5 O (Lf 5 O (Lf 5 O (Lf 5 O ?_)))))
  refine Lwx (ι:=_) (κ:=_) [_,_,_,_,_] _ Y O en117 O O (_) (_) (_) (_) (_) (_) ([H]) (by simp) (fun w hw=>hN2 bs u z x loc v f fa fc _ s w hg hx hsubf hof hw) ?_ ?_
  ·
   intro r18 hr18
   refine Ep (WE.block_panic (Ep ?_))
   refine Epp fun w' hw=>?_
   exact .inr ⟨r18,O,hE.trans (bind_ov (fr_ov hr18)),(by have h:=hw; have h:=h.fronti 2 O; have h:=h.fronti 2 O; have h:=h.fronti 2 O; have h:=Wt 3 h; exact h)⟩
  intro r18 ⟨hr18,hg18⟩
  refine V0 (Ya O) (Ln (Et (Cs (Cr (V0 (Yf fo104_2 O) (V0 (Yd 5 O O O na3) (V0 (yl_lt O O) (Ln (Et ?_)))))))))
  refine Cc O (fun hc1=>?_) (fun hc1=>?_)
  ·
   have hm0:y.m<0:=by simpa using hc1
   obtain ⟨h0l,h1l⟩:=(hfacts.1 ho).1 hm0
   obtain ⟨pi,hpi⟩:∃pi:Nat,y.pl=pi:=⟨y.pl.toNat,by omega⟩
   obtain ⟨lv,hlv⟩:∃v,loc[pi]? = some v:=⟨_,List.getElem?_eq_getElem (by omega)⟩
   refine WC.shapeT 4 O (by omega) fun lb hlb hlc hlm=>?_
   refine CU (fun _=>true) [] [8] (.q false 0 (.q false 1 (.q false 2 (.q true 3 (.q false 4 (.q true 5 (.q false 6 (.q false 7 .nil)))))))) mixed (by kernel_rfl) (fun _ _ _ d _ _ h=>by cases d<;>exact h) ?_
   refine U0 O (fun _ h=>h) (Ym O) (U0 O (fun _ h=>h) (yl_nil O) (U0 O (fun _ h=>h) (Yf fo128_2 O) (U0 O (fun _ h=>h) (Yd 3 O O O na29) (U0 O (fun _ h=>h) (Yf fo104_3 O) (U0 O (fun _ h=>h) (Yd 5 O O O na3) ?_)))))
   rw [hpi]
   refine U0 O (fun _ h=>h) (Ym O) ?_
   refine U0 O (fun _ h=>h) (Yo (i:=pi) es29 O O hlb (by omega)) ?_
   refine WU.nil (fun _ h=>h) ?_
   refine WS.e O ?_
   refine WL.storeT (y:=lv) 4 pi 0 r18.1 Y O O O hlb O n1C_len hlv sz3 O O (by decide) O ?_
   refine Ln (Es ?_)
   refine WS.nil ?_
   refine Eb (Et (Cs (Cr (V0 (Ya O) (Ln (Et (Crt ?_)))))))
   refine R1 O O fun w' hw=>?_
   have h9:=(by have h:=hw; have h:=h.fronti 4 rfl; have h:=h.fronti 4 rfl; have h:=h.fronti 4 rfl; have h:=h.fronti 4 rfl; have h:=h.fronti 4 rfl; have h:=Wt 5 h; exact h)
   have h9:=h9.reL 3 rfl (show blk bs (scb 128 bw u x loc.length v)=blk bs (scb 128 bw u x (loc.set pi r18.1).length v) by simp)
   exact .inl ⟨(false,r18.2,loc.set pi r18.1,v),O,⟨hE.trans ((bind_ok (fr_ok hr18)).trans ((if_pos hm0).trans (by rw [hpi,Int.toNat_natCast]))),hg18,by simp⟩,h9⟩
  have hm0:¬y.m<0:=by simpa using hc1
  obtain ⟨mi,j,b,p,hm,hpl,hj,hb,hbp,hmod,hat⟩:=data_at hR.ok lim hx ((hfacts.1 ho).2 hm0) (by decide)
  have hdl:=hg18.dat
  obtain ⟨dv,hdv⟩:∃v,r18.2.w.data[b+p]? = some v:=⟨_,List.getElem?_eq_getElem (by omega)⟩
  refine Cr (V0 (Ym O) (V0 (Yf fo104_2 O) (V0 (Yd 5 O O O na3) (V0 (Yf fo104_3 O) (V0 (Yd 5 O O O na3) ?_)))))
  refine Lf 3 O (Lf 3 O (Lf 3 O (Lf 3 O ?_)))
  refine Lw (ι:=_) [_,_,_,_] _ Y O en118 O O (_) (_) (_) [H] (by simp) (fun w hw=>sdatum_any bw K l lim C H r18.2 n bs u x loc.length v z mi j b p y.m y.pl w hg18 hR hx hj hb (by omega) hm hpl hw) ?_
  intro db35 hdb35
  refine V0 (Ym O) (V0 (yl_nil O) ?_)
  refine WL.storeT (y:=dv) 2 (b+p) 0 r18.1 Y O O O hdb35 O n1C_len hdv sz3 O O (by decide) O ?_
  refine Ln (Eb (Et (Cs (Cr (V0 (Ya O) (Ln (Et (Crt ?_))))))))
  refine R1 O O fun w' hw=>?_
  have hw:Ws w (List.flatMap Asr.ids ((wown 87 3 bw K (envU l lim) s)++(sown 128 3 bs bw u x loc v))) ((wown 87 3 bw K (envU l lim) (⟨{ r18.2.w with data:=r18.2.w.data.set (b+p) r18.1 },r18.2.i,r18.2.o,r18.2.d⟩:WSt))++(sown 128 3 bs bw u x loc v)) [H] w':=by
    have h:=(by have h:=hw; have h:=h.fronti 4 rfl; have h:=h.fronti 4 rfl; have h:=h.fronti 4 rfl; have h:=h.fronti 4 rfl; have h:=h.fronti 4 rfl; have h:=Wt 5 h; exact h)
    exact h.reL 0 O (show blk bw (wob 87 K (envU l lim) r18.2)=blk bw (wob 87 K (envU l lim) (⟨{ r18.2.w with data:=r18.2.w.data.set (b+p) r18.1 },r18.2.i,r18.2.o,r18.2.d⟩:WSt)) by simp [wob])
  have hat0:(envU l lim).at_ u y.m y.pl=b+p:=by rw [hpl]; exact hat 0
  exact .inl ⟨(false,⟨{ r18.2.w with data:=r18.2.w.data.set (b+p) r18.1 },r18.2.i,r18.2.o,r18.2.d⟩,loc,v),O,⟨hE.trans ((bind_ok (fr_ok hr18)).trans ((if_neg hm0).trans (by rw [hat0]))),⟨hg18.inp,hg18.out,hg18.tk,by show (List.set _ _ _).length=_; rw [List.length_set]; exact hg18.dat,hg18.cl⟩,O⟩,hw⟩
 have hn1:¬y.op=1:=by simpa using hc0
 refine Cs (Cr (V0 (yl_eq O O) (V0 (Ya O) (Ln (Et ?_)))))
 refine Cc O (fun hc2=>?_) (fun hc2=>?_)
 ·
  have ho:y.op=2:=by simpa using hc2
  refine Cs ?_
  have hl2:=hlen.2.1 ho
  obtain ⟨f,hfi⟩:∃v,y.args[0]? = some v:=⟨_,List.getElem?_eq_getElem (by omega)⟩
  obtain ⟨pf,qf,haf,hrf⟩:=hl.elt 0 f hfi
  obtain ⟨g,hgi⟩:∃v,y.args[1]? = some v:=⟨_,List.getElem?_eq_getElem (by omega)⟩
  obtain ⟨pg,qg,hag,hrg⟩:=hl.elt 1 g hgi
  obtain ⟨k2,rfl⟩:∃k2,k1=k2+1:=by
    cases k1 with
    | zero=>exact hrf.elim
    | succ k2=>exact ⟨k2,rfl⟩
  obtain ⟨fa,fc,hrowf,hsubf⟩:=hrf
  have hN2:=hN k2
  have hof:=nodesK_at hargs hfi
  obtain ⟨ga,gc,hrowg,hsubg⟩:=hrg
  have hog:=nodesK_at hargs hgi
  obtain ⟨⟨hn0,hn32⟩,hdat⟩:=hfacts.2.1 ho
  obtain ⟨mi,j,b,p,hm,hpl,hj,hb,hbp,hmod,hat⟩:=data_at hR.ok lim hx hdat (by omega)
  have hE:actE (envU l lim) (callR (envU l lim) d) u y (⟨loc,v,s.w⟩:Fm)=(Rz.fr (⟨loc,v,s.w⟩:Fm) (indexR y.n (nodeE (envU l lim) (callR (envU l lim) d) u f) loc s.w)).bind fun i q=>(Rz.fr q (nodeE (envU l lim) (callR (envU l lim) d) u g q.loc q.w)).bind fun v q=>.ok false { q with w:={ q.w with data:=q.w.data.set ((envU l lim).at_ u y.m (y.pl+i)) v } }:=by
    rw [actE_eq,actR,if_neg hn1,if_pos ho,kidE_at hfi,kidE_at hgi]
  refine CU (fun _=>true) [1,1,1,1,1] [] (.q false 0 (.q false 1 (.q true 2 (.q false 3 (.q true 4 (.q false 5 (.q true 6 (.e 7 (.q false 8 .nil) .stop)))))))) mixed (by kernel_rfl) (fun _ _ _ d _ _ h=>by cases d<;>exact h) ?_
  refine U0 O (fun _ h=>by exact (Wo 1 (Wo 1 (Wo 1 (Wo 1 (Wo 1 h)))):)) (Ym O) ?_
  refine U0 O (fun _ h=>by exact (Wo 1 (Wo 1 (Wo 1 (Wo 1 (Wo 1 h)))):)) (Yf fo104_4 O) ?_
  refine U0 O (fun _ h=>by exact (Wo 1 (Wo 1 (Wo 1 (Wo 1 (Wo 1 h)))):)) (Yd 0 O O O na102) ?_
  refine U0 O (fun _ h=>by exact (Wo 1 (Wo 1 (Wo 1 (Wo 1 (Wo 1 h)))):)) (Yo (i:=0) es102 O O haf (by omega)) ?_
  refine U0 O (fun _ h=>by exact (Wo 1 (Wo 1 (Wo 1 (Wo 1 (Wo 1 h)))):)) (yl_lda 0 ag138 O O O (hrowf)) ?_
  refine U0 O (fun _ h=>by exact (Wo 1 (Wo 1 (Wo 1 (Wo 1 (Wo 1 h)))):)) (Yf fo104_1 O) ?_
  refine U0 O (fun _ h=>by exact (Wo 1 (Wo 1 (Wo 1 (Wo 1 (Wo 1 h)))):)) (Yd 0 O O O na3) ?_
  refine Ue O (fun _ h=>by exact (Wo 1 (Wo 1 (Wo 1 (Wo 1 (Wo 1 h)))):)) ?_ WU.stop
  refine Lf 5 O (Lf 5 O (Lf 5 O (Lf 5 O (Lf 5 O ?_))))
  refine Lwx (ι:=_) (κ:=_) [_,_,_,_,_] _ Y O en119 O O (_) (_) (_) (_) (_) (_) ([H]) (by simp) (fun w hw=>sindex_run H n K l lim bw C d bs u z x loc v f y.n fa fc k2 _ s w hg hR hx hN2 hsubf hof hw) ?_ ?_
  ·
   intro r47 hr47
   refine Ep (Ep (WE.block_panic (Ep ?_)))
   refine Epp fun w' hw=>?_
   exact .inr ⟨r47,O,hE.trans (bind_ov (fr_ov hr47)),(by have h:=hw; have h:=h.fronti 2 O; have h:=h.fronti 2 O; have h:=h.fronti 2 O; have h:=Wt 3 h; exact h)⟩
  intro r47 ⟨hr47,hg47⟩
  refine Ln (Eu ?_)
  refine U0 O (fun _ h=>by exact (Wo 1 (Wo 1 (Wo 1 (Wo 1 (Wo 1 ((((((h.f 4 O).f 4 O).f 4 O).f 4 O).f 4 O).f 5 O))))):)) (Ya O) ?_
  refine WU.nil (fun _ h=>by exact (Wo 1 (Wo 1 (Wo 1 (Wo 1 (Wo 1 ((((((h.f 4 O).f 4 O).f 4 O).f 4 O).f 4 O).f 5 O))))):)) ?_
  refine WS.nil ?_
  refine Et (Cs (Cr (V0 (Ym O) (V0 (Yf fo104_4 O) (V0 (Yd 5 O O O na102) ?_)))))
  refine V0 (Yo (i:=1) es102 O O hag (by omega)) ?_
  refine V0 (yl_lda 0 ag138 O O O (hrowg)) (Lf 4 O (Lf 4 O (Lf 4 O (Lf 4 O (Lf 4 O ?_)))))
  refine Lwx (ι:=_) (κ:=_) [_,_,_,_,_] _ Y O en117 O O (_) (_) (_) (_) (_) (_) ([H]) (by simp) (fun w hw=>hN2 bs u z x loc v g ga gc _ r47.2 w hg47 hx hsubg hog hw) ?_ ?_
  ·
   intro r53 hr53
   refine Ep (WE.block_panic (Ep ?_))
   refine Epp fun w' hw=>?_
   exact .inr ⟨r53,O,hE.trans ((bind_ok (fr_ok hr47)).trans (bind_ov (fr_ov hr53))),(by have h:=hw; have h:=h.fronti 2 O; have h:=h.fronti 2 O; have h:=h.fronti 2 O; have h:=Wt 3 h; exact h)⟩
  intro r53 ⟨hr53,hg53⟩
  refine V0 (Ya O) (Ln (Et ?_))
  have hix:0≤r47.1∧r47.1<y.n:=index_in hr47
  obtain ⟨ni,hni⟩:∃ni:Nat,r47.1=ni:=⟨r47.1.toNat,by omega⟩
  have hdl:=hg53.dat
  obtain ⟨dw,hdw⟩:∃v,r53.2.w.data[b+(p+ni)]? = some v:=⟨_,List.getElem?_eq_getElem (by omega)⟩
  refine Cr (V0 (Ym O) (V0 (Yf fo104_2 O) (V0 (Yd 5 O O O na3) (V0 (Yf fo104_3 O) (V0 (Yd 5 O O O na3) ?_)))))
  refine V0 (Ym O) ?_
  refine V0 (yl_addn (a:=p) (b:=ni) O O hpl hni (by omega)) ?_
  refine Lf 3 O (Lf 3 O (Lf 3 O (Lf 3 O ?_)))
  refine Lw (ι:=_) [_,_,_,_] _ Y O en118 O O (_) (_) (_) [H] (by simp) (fun w hw=>sdatum_any bw K l lim C H r53.2 n bs u x loc.length v z mi j b (p+ni) y.m _ w hg53 hR hx hj hb (by omega) hm O hw) ?_
  intro db61 hdb61
  refine V0 (Ym O) (V0 (yl_nil O) ?_)
  refine WL.storeT (y:=dw) 2 (b+(p+ni)) 0 r53.1 Y O O O hdb61 O n1C_len hdw sz3 O O (by decide) O ?_
  refine Ln (Eb (Et (Cs (Cr (V0 (Ya O) (Ln (Et (Crt ?_))))))))
  refine R1 O O fun w' hw=>?_
  have hw:Ws w (List.flatMap Asr.ids ((wown 87 3 bw K (envU l lim) s)++(sown 128 3 bs bw u x loc v))) ((wown 87 3 bw K (envU l lim) (⟨{ r53.2.w with data:=r53.2.w.data.set (b+(p+ni)) r53.1 },r53.2.i,r53.2.o,r53.2.d⟩:WSt))++(sown 128 3 bs bw u x loc v)) [H] w':=by
    have h:=(by have h:=hw; have h:=h.fronti 4 rfl; have h:=h.fronti 4 rfl; have h:=h.fronti 4 rfl; have h:=h.fronti 4 rfl; have h:=h.fronti 4 rfl; have h:=Wt 5 h; exact h)
    exact h.reL 0 O (show blk bw (wob 87 K (envU l lim) r53.2)=blk bw (wob 87 K (envU l lim) (⟨{ r53.2.w with data:=r53.2.w.data.set (b+(p+ni)) r53.1 },r53.2.i,r53.2.o,r53.2.d⟩:WSt)) by simp [wob])
  have hat0:(envU l lim).at_ u y.m (y.pl+r47.1)=b+(p+ni):=by rw [hpl,hni]; exact hat ni
  exact .inl ⟨(false,⟨{ r53.2.w with data:=r53.2.w.data.set (b+(p+ni)) r53.1 },r53.2.i,r53.2.o,r53.2.d⟩,loc,v),O,⟨hE.trans ((bind_ok (fr_ok hr47)).trans ((bind_ok (fr_ok hr53)).trans (by rw [hat0]))),⟨hg53.inp,hg53.out,hg53.tk,by show (List.set _ _ _).length=_; rw [List.length_set]; exact hg53.dat,hg53.cl⟩,O⟩,hw⟩
 have hn2:¬y.op=2:=by simpa using hc2
 refine Cs (Cr (V0 (yl_eq O O) (V0 (Ya O) (Ln (Et ?_)))))
 refine Cc O (fun hc3=>?_) (fun hc3=>?_)
 ·
  have ho:y.op=3:=by simpa using hc3
  have hE:actE (envU l lim) (callR (envU l lim) d) u y (⟨loc,v,s.w⟩:Fm)=(Rz.fr (⟨loc,v,s.w⟩:Fm) (partR (envU l lim) (callR (envU l lim) d) u y.m y.pl (kidsE (envU l lim) (callR (envU l lim) d) u y.args) loc s.w)).bind fun _ q=>.ok false q:=by
    rw [actE_eq,actR,if_neg hn1,if_neg hn2,if_pos ho]
  refine Cr (V0 (Ym O) (V0 (Yf fo104_2 O) (V0 (Yd 0 O O O na3) (V0 (Yf fo104_3 O) (V0 (Yd 0 O O O na3) ?_)))))
  refine V0 (Yf fo104_4 O) (V0 (Yd 0 O O O na102) (Lf 5 O (Lf 5 O (Lf 5 O (Lf 5 O ?_)))))
  refine Lf 5 O ?_
  refine Lwx (ι:=_) (κ:=_) [_,_,_,_,_] _ Y O en120 O O (_) (_) (_) (_) (_) (_) ([H]) (by simp) (fun w hw=>spart_run H n K l lim bw C d bs u z x loc v y.m y.pl y.args r.s1.1 r.s1.2 k1 _ s w hg hR hx (fun k2 _=>hN k2) hC (hfacts.2.2 ho) hl hargs hw) ?_ ?_
  ·
   intro r73 hr73
   refine WE.block_panic (Ep ?_)
   refine Epp fun w' hw=>?_
   exact .inr ⟨r73,O,hE.trans (bind_ov (fr_ov hr73)),(by have h:=hw; have h:=h.fronti 2 O; have h:=h.fronti 2 O; have h:=h.fronti 2 O; have h:=Wt 3 h; exact h)⟩
  intro r73 ⟨hr73,hg73⟩
  refine Ln (Eb (Et (Cs (Cr (V0 (Ya O) (Ln (Et (Crt ?_))))))))
  refine R1 O O fun w' hw=>?_
  exact .inl ⟨(false,r73.2,loc,v),O,⟨hE.trans (bind_ok (fr_ok hr73)),hg73,O⟩,Wt 5 hw⟩
 have hn3:¬y.op=3:=by simpa using hc3
 refine Cs (Cr (V0 (yl_eq O O) (V0 (Ya O) (Ln (Et ?_)))))
 refine Cc O (fun hc4=>?_) (fun hc4=>?_)
 ·
  have ho:y.op=4:=by simpa using hc4
  refine Cs (Cs ?_)
  have hl1:=hlen.1 (by omega)
  obtain ⟨f,hfi⟩:∃v,y.args[0]? = some v:=⟨_,List.getElem?_eq_getElem (by omega)⟩
  obtain ⟨pf,qf,haf,hrf⟩:=hl.elt 0 f hfi
  obtain ⟨k2,rfl⟩:∃k2,k1=k2+1:=by
    cases k1 with
    | zero=>exact hrf.elim
    | succ k2=>exact ⟨k2,rfl⟩
  obtain ⟨fa,fc,hrowf,hsubf⟩:=hrf
  have hN2:=hN k2
  have hof:=nodesK_at hargs hfi
  have hE:actE (envU l lim) (callR (envU l lim) d) u y (⟨loc,v,s.w⟩:Fm)=(Rz.fr (⟨loc,v,s.w⟩:Fm) (nodeE (envU l lim) (callR (envU l lim) d) u f loc s.w)).bind fun v q=>if v=0 then actsE (envU l lim) (callR (envU l lim) d) u y.other q else actsE (envU l lim) (callR (envU l lim) d) u y.body q:=by
    rw [actE_eq,actR,if_neg hn1,if_neg hn2,if_neg hn3,if_pos ho,kidE_at hfi]
  refine Cr (V0 (Ym O) (V0 (Yf fo104_4 O) (V0 (Yd 0 O O O na102) ?_)))
  refine V0 (Yo (i:=0) es102 O O haf (by omega)) ?_
  refine V0 (yl_lda 0 ag138 O O O (hrowf)) (Lf 5 O (Lf 5 O (Lf 5 O (Lf 5 O (Lf 5 O ?_)))))
  refine Lwx (ι:=_) (κ:=_) [_,_,_,_,_] _ Y O en117 O O (_) (_) (_) (_) (_) (_) ([H]) (by simp) (fun w hw=>hN2 bs u z x loc v f fa fc _ s w hg hx hsubf hof hw) ?_ ?_
  ·
   intro r81 hr81
   refine Ep (Ep (WE.block_panic (Ep ?_)))
   refine Epp fun w' hw=>?_
   exact .inr ⟨r81,O,hE.trans (bind_ov (fr_ov hr81)),(by have h:=hw; have h:=h.fronti 2 O; have h:=h.fronti 2 O; have h:=h.fronti 2 O; have h:=Wt 3 h; exact h)⟩
  intro r81 ⟨hr81,hg81⟩
  refine V0 (yl_ne O O) (Ln (Et ?_))
  refine Cc O (fun hc5=>?_) (fun hc5=>?_)
  ·
   have hv5:¬r81.1=0:=by simpa using hc5
   refine Cs (Cr (V0 (Ym O) (V0 (Yf fo104_5 O) (V0 (Yd 5 O O O na24) (Lf 4 O (Lf 4 O ?_))))))
   refine Lf 4 O (Lf 4 O (Lf 4 O ?_))
   refine Lwx (ι:=_) (κ:=_) [_,_,_,_,_] _ Y O en57 O O (_) (_) (_) (_) (_) (_) ([H]) (by simp) (fun w hw=>hA bs u z x loc v y.body r.s2.1 r.s2.2 _ r81.2 w hg81 hx h2 (hbok (by omega)) hw) ?_ ?_
   ·
    intro r86 hr86
    refine Ep (Ep (WE.block_panic (Ep ?_)))
    refine Epp fun w' hw=>?_
    exact .inr ⟨r86,O,hE.trans ((bind_ok (fr_ok hr81)).trans ((if_neg hv5).trans hr86)),(by have h:=hw; have h:=h.fronti 2 O; have h:=h.fronti 2 O; have h:=h.fronti 2 O; have h:=Wt 3 h; exact h)⟩
   intro r86 ⟨hr86,hg86,hln86⟩
   refine V0 (Ya O) (Ln (Et (Crt (Er (Ebr (Er ?_))))))
   refine R1 O O fun w' hw=>?_
   exact .inl ⟨r86,O,⟨hE.trans ((bind_ok (fr_ok hr81)).trans ((if_neg hv5).trans hr86)),hg86,hln86⟩,Wt 5 hw⟩
  have hv5:r81.1=0:=by simpa using hc5
  refine Ck (Et (Cs (Cr (V0 (Ym O) (V0 (Yf fo104_6 O) (V0 (Yd 5 O O O na24) (Lf 4 O (Lf 4 O ?_))))))))
  refine Lf 4 O (Lf 4 O (Lf 4 O ?_))
  refine Lwx (ι:=_) (κ:=_) [_,_,_,_,_] _ Y O en57 O O (_) (_) (_) (_) (_) (_) ([H]) (by simp) (fun w hw=>hA bs u z x loc v y.other r.s3.1 r.s3.2 _ r81.2 w hg81 hx h3 hook hw) ?_ ?_
  ·
   intro r90 hr90
   refine Ep (WE.block_panic (Ep ?_))
   refine Epp fun w' hw=>?_
   exact .inr ⟨r90,O,hE.trans ((bind_ok (fr_ok hr81)).trans ((if_pos hv5).trans hr90)),(by have h:=hw; have h:=h.fronti 2 O; have h:=h.fronti 2 O; have h:=h.fronti 2 O; have h:=Wt 3 h; exact h)⟩
  intro r90 ⟨hr90,hg90,hln90⟩
  refine V0 (Ya O) (Ln (Et (Crt (Ebr (Er ?_)))))
  refine R1 O O fun w' hw=>?_
  exact .inl ⟨r90,O,⟨hE.trans ((bind_ok (fr_ok hr81)).trans ((if_pos hv5).trans hr90)),hg90,hln90⟩,Wt 5 hw⟩
 have hn4:¬y.op=4:=by simpa using hc4
 refine Cs (Cr (V0 (yl_eq O O) (V0 (Ya O) (Ln (Et ?_)))))
 refine Cc O (fun hc6=>?_) (fun hc6=>?_)
 ·
  have ho:y.op=5:=by simpa using hc6
  have hl1:=hlen.1 (by omega)
  obtain ⟨f,hfi⟩:∃v,y.args[0]? = some v:=⟨_,List.getElem?_eq_getElem (by omega)⟩
  obtain ⟨pf,qf,haf,hrf⟩:=hl.elt 0 f hfi
  obtain ⟨k2,rfl⟩:∃k2,k1=k2+1:=by
    cases k1 with
    | zero=>exact hrf.elim
    | succ k2=>exact ⟨k2,rfl⟩
  obtain ⟨fa,fc,hrowf,hsubf⟩:=hrf
  have hN2:=hN k2
  have hof:=nodesK_at hargs hfi
  have hE:actE (envU l lim) (callR (envU l lim) d) u y (⟨loc,v,s.w⟩:Fm)=loopR (envU l lim) (fun q=>Rz.fr q (nodeE (envU l lim) (callR (envU l lim) d) u f q.loc q.w)) (fun q=>actsE (envU l lim) (callR (envU l lim) d) u y.body q) ((envU l lim).lim+1) (⟨loc,v,s.w⟩:Fm):=by
    rw [actE_eq,actR,if_neg hn1,if_neg hn2,if_neg hn3,if_neg hn4,if_pos ho,kidE_at hfi]
  refine Cb ?_
  refine CLk (ι:=WSt×(List Int×Int)×Nat) (fun t=>[]) [(0,_),(3,_)] (fun t=>Ws w (List.flatMap Asr.ids ((wown 87 3 bw K (envU l lim) s)++(sown 128 3 bs bw u x loc v))) ((wown 87 3 bw K (envU l lim) t.1)++(sown 128 3 bs bw u x t.2.1.1 t.2.1.2)++[blk b3 (.cells (actV y r).toArray 104 (0,0))]) [H]) (fun t=>WGood H (envU l lim) (sumU l) C t.1∧t.2.1.1.length=loc.length∧lim+1≤t.2.2+t.1.w.ticks∧loopR (envU l lim) (fun q=>Rz.fr q (nodeE (envU l lim) (callR (envU l lim) d) u f q.loc q.w)) (fun q=>actsE (envU l lim) (callR (envU l lim) d) u y.body q) (lim+1) (⟨loc,v,s.w⟩:Fm)=loopR (envU l lim) (fun q=>Rz.fr q (nodeE (envU l lim) (callR (envU l lim) d) u f q.loc q.w)) (fun q=>actsE (envU l lim) (callR (envU l lim) d) u y.body q) t.2.2 (⟨t.2.1.1,t.2.1.2,t.1.w⟩:Fm)) (fun t=>t.2.2) (s,(loc,v),lim+1) ⟨hg,O,Nat.le_add_right _ _,O⟩ (sc O (sc O sn)) (fun _ h=>by exact (((((h.f 5 O).f 5 O).f 5 O).f 5 O).f 5 O:)) ?_
  intro t ⟨hgt,htl,hfl,hlp⟩
  refine Cs (Cs ?_)
  obtain ⟨nf,hnf⟩:∃nf,t.2.2=nf+1:=⟨t.2.2-1,by have h9:t.1.w.ticks≤lim:=hgt.tk; omega⟩
  rw [hnf] at hlp
  refine Cr (V0 (Ym O) (V0 (Yf fo104_4 O) (V0 (Yd 5 O O O na102) ?_)))
  refine V0 (Yo (i:=0) es102 O O haf (by omega)) ?_
  refine V0 (yl_lda 0 ag138 O O O (hrowf)) (Lf 4 O (Lf 4 O (Lf 4 O (Lf 4 O (Lf 4 O ?_)))))
  refine Lwx (ι:=_) (κ:=_) [_,_,_,_,_] _ Y O en117 O O (_) (_) (_) (_) (_) (_) ([H]) (by simp) (fun w hw=>hN2 bs u z x t.2.1.1 t.2.1.2 f fa fc _ t.1 w hgt hx hsubf (by rw [htl]; exact hof) hw) ?_ ?_
  ·
   intro r98 hr98
   refine Ep (Ep (Ep (WE.block_panic (WE.block_panic (Ep ?_)))))
   refine Epp fun w' hw=>?_
   exact .inr ⟨r98,O,hE.trans (hlp.trans (loop_pan (fr_ov hr98))),(by have h:=hw; have h:=h.fronti 2 O; have h:=h.fronti 2 O; have h:=h.fronti 2 O; have h:=Wt 3 h; exact h)⟩
  intro r98 ⟨hr98,hg98⟩
  refine V0 (yl_ne O O) (Ln (Et ?_))
  refine Cc O (fun hc7=>?_) (fun hc7=>?_)
  ·
   have hv7:¬r98.1=0:=by simpa using hc7
   have hl2:=hlp.trans (loop_go (fr_ok hr98) hv7)
   refine Ck (Et (Cb (Cs (Cr (V0 (Ym O) (V0 (yl_nil O) (V0 (Yf fo128_0 O) (V0 (Yd 3 O O O na83) (Lf 2 O ?_)))))))))
   refine Lf 2 O (Lf 2 O ?_)
   refine Lwx (ι:=_) (κ:=_) [_,_,_] _ Y O en55 O O (_) (_) (_) (_) (_) (_) ([H]) (by simp) (fun w hw=>wtick_any bw K l lim C H r98.2 w hg98 hR.lim hw) ?_ ?_
   ·
    intro r104 hr104
    refine Ep (WE.block_panic (Ep (WE.block_panic (WE.block_panic (Ep ?_)))))
    refine Epp fun w' hw=>?_
    exact .inr ⟨r104,O,hE.trans (hl2.trans (bind_ov (fr_ov hr104))),(by have h:=hw; have h:=h.fronti 2 O; have h:=h.fronti 2 O; have h:=h.fronti 2 O; have h:=Wt 3 h; exact h)⟩
   intro r104 ⟨hr104,hg104⟩
   refine Ln (Et (Cs (Cr (V0 (Ym O) (V0 (Yf fo104_5 O) (V0 (Yd 5 O O O na24) (Lf 4 O (Lf 4 O ?_))))))))
   refine Lf 4 O (Lf 4 O (Lf 4 O ?_))
   refine Lwx (ι:=_) (κ:=_) [_,_,_,_,_] _ Y O en57 O O (_) (_) (_) (_) (_) (_) ([H]) (by simp) (fun w hw=>hA bs u z x t.2.1.1 t.2.1.2 y.body r.s2.1 r.s2.2 _ r104.2 w hg104 hx h2 (by rw [htl]; exact hbok (by omega)) hw) ?_ ?_
   ·
    intro r108 hr108
    refine Ep (WE.block_panic (Ep (WE.block_panic (WE.block_panic (Ep ?_)))))
    refine Epp fun w' hw=>?_
    exact .inr ⟨r108,O,hE.trans (hl2.trans ((bind_ok (fr_ok hr104)).trans (bind_ov hr108))),(by have h:=hw; have h:=h.fronti 2 O; have h:=h.fronti 2 O; have h:=h.fronti 2 O; have h:=Wt 3 h; exact h)⟩
   intro r108 ⟨hr108,hg108,hln108⟩
   refine Ln (Et ?_)
   refine Cc O (fun hc8=>?_) (fun hc8=>?_)
   ·
    refine Cs (Cr (V0 (Ya O) (Ln (Et (Crt (Ebr (Er (Ebr (Ebr (Er ?_))))))))))
    refine R1 O O fun w' hw=>?_
    have ht8:r108.1=true:=hc8
    exact .inl ⟨(true,r108.2),O,⟨hE.trans (hl2.trans ((bind_ok (fr_ok hr104)).trans ((bind_ok hr108).trans (if_pos ht8)))),hg108,hln108.trans htl⟩,Wt 5 hw⟩
   refine Ck (Eb ?_)
   exact Ea ((r108.2.1,r108.2.2,nf):WSt×(List Int×Int)×Nat) (by show nf<_; omega) ⟨hg108,hln108.trans htl,by have h9:=tick_inc hr104; have h8:t.1.w.ticks≤r98.2.w.ticks:=node_tk hr98; have h7:r104.2.w.ticks≤r108.2.1.w.ticks:=acts_tk hr108; show lim+1≤nf+r108.2.1.w.ticks; omega,hlp.trans ((loop_go (fr_ok hr98) hv7).trans ((bind_ok (fr_ok hr104)).trans ((bind_ok hr108).trans (if_neg (by rw [hc8]; simp)))))⟩ (sc O (sc O sn)) (fun _ h=>h)
  have hv7:r98.1=0:=by simpa using hc7
  refine Ce (Ex (Ex (Ebh (Eb (Et (Cs (Cr (V0 (Ya O) (Ln (Et (Crt ?_)))))))))))
  refine R1 O O fun w' hw=>?_
  exact .inl ⟨(false,r98.2,t.2.1.1,t.2.1.2),O,⟨hE.trans (hlp.trans (loop_zero (fr_ok hr98) hv7)),hg98,htl⟩,Wt 5 hw⟩
 have hn5:¬y.op=5:=by simpa using hc6
 refine Cs (Cr (V0 (yl_eq O O) (V0 (Ya O) (Ln (Et ?_)))))
 refine Cc O (fun hc9=>?_) (fun hc9=>?_)
 ·
  have ho:y.op=6:=by simpa using hc9
  refine Cs ?_
  have hl1:=hlen.1 (by omega)
  obtain ⟨f,hfi⟩:∃v,y.args[0]? = some v:=⟨_,List.getElem?_eq_getElem (by omega)⟩
  obtain ⟨pf,qf,haf,hrf⟩:=hl.elt 0 f hfi
  obtain ⟨k2,rfl⟩:∃k2,k1=k2+1:=by
    cases k1 with
    | zero=>exact hrf.elim
    | succ k2=>exact ⟨k2,rfl⟩
  obtain ⟨fa,fc,hrowf,hsubf⟩:=hrf
  have hN2:=hN k2
  have hof:=nodesK_at hargs hfi
  have hE:actE (envU l lim) (callR (envU l lim) d) u y (⟨loc,v,s.w⟩:Fm)=(Rz.fr (⟨loc,v,s.w⟩:Fm) (nodeE (envU l lim) (callR (envU l lim) d) u f loc s.w)).bind fun v q=>.ok true { q with val:=v }:=by
    rw [actE_eq,actR,if_neg hn1,if_neg hn2,if_neg hn3,if_neg hn4,if_neg hn5,if_pos ho,kidE_at hfi]
  refine Cr (V0 (Ym O) (V0 (Ym O) (V0 (Yf fo104_4 O) (V0 (Yd 0 O O O na102) ?_))))
  refine V0 (Yo (i:=0) es102 O O haf (by omega)) ?_
  refine V0 (yl_lda 0 ag138 O O O (hrowf)) (Lf 5 O (Lf 5 O (Lf 5 O (Lf 5 O (Lf 5 O ?_)))))
  refine Lwx (ι:=_) (κ:=_) [_,_,_,_,_] _ Y O en117 O O (_) (_) (_) (_) (_) (_) ([H]) (by simp) (fun w hw=>hN2 bs u z x loc v f fa fc _ s w hg hx hsubf hof hw) ?_ ?_
  ·
   intro r117 hr117
   refine Ep (WE.block_panic (Ep ?_))
   refine Epp fun w' hw=>?_
   exact .inr ⟨r117,O,hE.trans (bind_ov (fr_ov hr117)),(by have h:=hw; have h:=h.fronti 2 O; have h:=h.fronti 2 O; have h:=h.fronti 2 O; have h:=Wt 3 h; exact h)⟩
  intro r117 ⟨hr117,hg117⟩
  refine V0 (yl_nil O) (V0 (Yf fo128_3 O) (Lst 3 Y O O O sz3 O O O (Ln (Et (Cs (Cr (V0 (Ya O) (Ln (Et (Crt (Ebr (Er ?_))))))))))))
  refine R1 O O fun w' hw=>?_
  exact .inl ⟨(true,r117.2,loc,r117.1),O,⟨hE.trans (bind_ok (fr_ok hr117)),hg117,O⟩,Wt 5 hw⟩
 have hn6:¬y.op=6:=by simpa using hc9
 refine Cs (Cr (V0 (yl_eq O O) (V0 (Ya O) (Ln (Et ?_)))))
 refine Cc O (fun hc10=>?_) (fun hc10=>?_)
 ·
  have ho:y.op=7:=by simpa using hc10
  refine Cs ?_
  have hl1:=hlen.1 (by omega)
  obtain ⟨f,hfi⟩:∃v,y.args[0]? = some v:=⟨_,List.getElem?_eq_getElem (by omega)⟩
  obtain ⟨pf,qf,haf,hrf⟩:=hl.elt 0 f hfi
  obtain ⟨k2,rfl⟩:∃k2,k1=k2+1:=by
    cases k1 with
    | zero=>exact hrf.elim
    | succ k2=>exact ⟨k2,rfl⟩
  obtain ⟨fa,fc,hrowf,hsubf⟩:=hrf
  have hN2:=hN k2
  have hof:=nodesK_at hargs hfi
  have hE:actE (envU l lim) (callR (envU l lim) d) u y (⟨loc,v,s.w⟩:Fm)=(Rz.fr (⟨loc,v,s.w⟩:Fm) (nodeE (envU l lim) (callR (envU l lim) d) u f loc s.w)).bind fun v q=>(Rz.fr q (outR v q.w)).bind fun _ q=>.ok false q:=by
    rw [actE_eq,actR,if_neg hn1,if_neg hn2,if_neg hn3,if_neg hn4,if_neg hn5,if_neg hn6,if_pos ho,kidE_at hfi]
  refine Cr (V0 (Ym O) (V0 (Yf fo104_4 O) (V0 (Yd 0 O O O na102) ?_)))
  refine V0 (Yo (i:=0) es102 O O haf (by omega)) ?_
  refine V0 (yl_lda 0 ag138 O O O (hrowf)) (Lf 5 O (Lf 5 O (Lf 5 O (Lf 5 O (Lf 5 O ?_)))))
  refine Lwx (ι:=_) (κ:=_) [_,_,_,_,_] _ Y O en117 O O (_) (_) (_) (_) (_) (_) ([H]) (by simp) (fun w hw=>hN2 bs u z x loc v f fa fc _ s w hg hx hsubf hof hw) ?_ ?_
  ·
   intro r127 hr127
   refine Ep (WE.block_panic (Ep ?_))
   refine Epp fun w' hw=>?_
   exact .inr ⟨r127,O,hE.trans (bind_ov (fr_ov hr127)),(by have h:=hw; have h:=h.fronti 2 O; have h:=h.fronti 2 O; have h:=h.fronti 2 O; have h:=Wt 3 h; exact h)⟩
  intro r127 ⟨hr127,hg127⟩
  refine V0 (Ya O) (Ln (Et (Cs (Cr (V0 (Ym O) (V0 (yl_nil O) (V0 (Yf fo128_0 O) (V0 (Yd 3 O O O na83) ?_))))))))
  refine V0 (yl_nil O) (V0 (Yf fo87_6 O) (V0 (Yf fo42_1 O) (V0 (Yd 0 O O O na29) (V0 (Yn es29 O) (V0 (yl_eq O O) ?_)))))
  refine Lwx (ι:=Unit) (κ:=Unit) [] _ Y O en56 O O (fun _=>.tuple #[]) (fun _=>[]) (fun _=>(((r127.2.w.out.length:Nat):Int)==200)=false) (fun _=>ovS 89 5) (fun _=>[]) (fun _=>(((r127.2.w.out.length:Nat):Int)==200)=true) ([]) (by simp) (fun w hw=>(sstop_any _ 5 w).mono fun e w' h=>by
      rcases h with ⟨_,h1,h2,h3⟩ | ⟨_,h1,h2,h3⟩
      · exact .inl ⟨(),h1,h2,hw.ext h3⟩
      · exact .inr ⟨(),h1,h2,hw.ext h3⟩) ?_ ?_
  ·
   intro _ hn138
   refine Ep (WE.block_panic (Ep ?_))
   refine Epp fun w' hw=>?_
   exact .inr ⟨(5,r127.2),O,hE.trans ((bind_ok (fr_ok hr127)).trans (bind_ov (fr_ov (if_pos (show r127.2.w.out.length=200 from by have h:=hn138; simp at h; omega))))),(by have h:=hw; have h:=h.fronti 2 O; have h:=h.fronti 2 O; have h:=h.fronti 2 O; have h:=Wt 3 h; exact h)⟩
  intro _ hn138
  refine Ln (Et ?_)
  have hno:¬r127.2.w.out.length=200:=by intro h; rw [h] at hn138; simp at hn138
  have hgo:=hg127.out
  refine CU (fun _=>true) [1] [18] (.q false 0 (.q false 1 (.q false 2 (.q true 3 (.q false 4 (.q false 5 (.q false 6 (.q true 7 (.q false 8 (.q false 9 (.q false 10 (.q true 11 (.q false 12 (.e 13 (.e 14 (.q false 15 (.q false 16 (.q false 17 .nil))) .stop) .stop)))))))))))))) mixed (by kernel_rfl) (fun _ _ _ d _ _ h=>by cases d<;>exact h) ?_
  refine U0 O (Wp 1) (Ym O) (U0 O (Wp 1) (yl_nil O) (U0 O (Wp 1) (Yf fo128_0 O) (U0 O (Wp 1) (Yd 2 O O O na83) (U0 O (Wp 1) (Ym O) (U0 O (Wp 1) (yl_nil O) ?_)))))
  refine U0 O (Wp 1) (Yf fo128_0 O) (U0 O (Wp 1) (Yd 2 O O O na83) (U0 O (Wp 1) (yl_nil O) (U0 O (Wp 1) (Yf fo87_6 O) (U0 O (Wp 1) (Yf fo42_1 O) (U0 O (Wp 1) (Yd 0 O O O na29) ?_)))))
  refine U0 O (Wp 1) (Ym O) ?_
  refine Ue O (Wp 1) ?_ WU.stop
  refine Lb Y O el29 O O O O fun b152=>?_
  refine Ln (Eu ?_)
  refine Ue O (fun _ h=>(Wo 1 (Wd 1 h):)) ?_ WU.stop
  refine LA (r127.1) 2 0 Y O el29 O O O O O O (by omega) (by omega) fun a153 c153=>?_
  refine Ln (Eu (U0 O (fun _ h=>(Wo 1 (Wd 1 h):)) (yl_nil O) (U0 O (fun _ h=>(Wo 1 (Wd 1 h):)) (Yf fo87_6 O) (U0 O (fun _ h=>(Wo 1 (Wd 1 h):)) (Yf fo42_1 O) ?_))))
  refine WU.nil (fun _ h=>(Wo 1 (Wd 1 h):)) ?_
  refine WS.e O ?_
  refine Lst 1 Y O O O sz29 O O O (Ln (Es ?_))
  refine WS.nil ?_
  refine Eb (Et (Cs (Cr (V0 (Ya O) (Ln (Et (Crt ?_)))))))
  refine R1 O O fun w' hw=>?_
  exact .inl ⟨(false,⟨{ r127.2.w with out:=r127.2.w.out++[r127.1] },r127.2.i,(a153,c153),r127.2.d⟩,loc,v),O,⟨hE.trans ((bind_ok (fr_ok hr127)).trans (bind_ok (fr_ok (if_neg hno)))),⟨hg127.inp,by show (_++[_]).length≤200; rw [List.length_append,List.length_singleton]; omega,hg127.tk,hg127.dat,hg127.cl⟩,O⟩,(by have h:=hw; have h:=h.fronti 5 O; have h:=h.fronti 5 O; have h:=h.fronti 5 O; have h:=h.fronti 5 O; have h:=h.fronti 5 O; exact Wt 5 h)⟩
 exfalso
 have hn7:¬y.op=7:=by simpa using hc10
 omega
end Go.Proofs.YtpjekjnehiinnaaGreatDoor
end
section
namespace Go.Proofs.YtpjekjnehiinnaaGreatDoor
open Go.Bw
section
variable {P:Env} {d u:Nat} {loc:List Int} {body:List TAct} {w w1:Wm} {x:Unit}
theorem callR_ov1 {e:Int} (h:tickW P w = .ov e w1):callR P (d+1) u loc body w = .ov e w1:=by unfold callR; rw [bind_ov h]
theorem callR_ov2 (h:tickW P w = .ok x w1) (hc:w1.calls=24):callR P (d+1) u loc body w = .ov 4 w1:=by unfold callR; rw [bind_ok h]; exact if_pos hc
theorem callR_ov3 {e:Int} {w2:Wm} (h:tickW P w = .ok x w1) (hc:¬w1.calls=24) (ha:actsE P (callR P d) u body ⟨loc,0,{ w1 with calls:=w1.calls+1 }⟩ = .ov e w2):callR P (d+1) u loc body w = .ov e w2:=by
 unfold callR; rw [bind_ok h]; refine (if_neg hc).trans ?_; rw [ha]
theorem callR_ok {f:Fm} {t:Bool} (h:tickW P w = .ok x w1) (hc:¬w1.calls=24) (ha:actsE P (callR P d) u body ⟨loc,0,{ w1 with calls:=w1.calls+1 }⟩ = .ok t f):callR P (d+1) u loc body w = .ok f.val { f.w with calls:=f.w.calls-1 }:=by
 unfold callR; rw [bind_ok h]; refine (if_neg hc).trans ?_; rw [ha]
end
theorem en83:Enters Tryz.prog 83:=enters_of Tryz.func83 (by kernel_rfl) rfl
theorem fo87_5:fieldOff Tryz.prog 87 5=some 5:=by kernel_rfl
theorem pl128:placesP Tryz.prog 128=some [(0,1),(1,1),(2,1),(3,1)]:=by kernel_rfl
theorem zr128:zeroOf Tryz.prog 128=some (.agg #[.pointer none,.int .i64 0,.slice none 0 0,.int .i64 0]):=by kernel_rfl
theorem sacts_run (H:View) (n:Nat) (K:KW) (l:List TUnit) (lim bw C d:Nat) (bs u:Nat) (z:TUnit) (x:SP) (loc:List Int) (v:Int) (body:List TAct) (a:Option Addr) (c k1 k dd:Nat) (s:WSt) (w:World) (hg:WGood H (envU l lim) (sumU l) C s) (hR:RunAt H n K l lim) (hx:l[u]? = some z) (hC:SCall H n K l lim bw C d) (hl:Sl (RdA k1 k) 7 H a c body) (hok:actsA (knM z::usesKn l z) loc.length body dd=true) (hw:Ws w (List.flatMap Asr.ids ((wown 87 3 bw K (envU l lim) s)++(sown 128 3 bs bw u x loc v))) ((wown 87 3 bw K (envU l lim) s)++(sown 128 3 bs bw u x loc v)) [H] w) :
   Calls Tryz.prog 57 #[.pointer (some ⟨bs,0,none⟩),.slice a body.length c] w fun e w'=>(∃r:Bool×WSt×List Int×Int,e = .returned (.bool r.1)∧(actsE (envU l lim) (callR (envU l lim) d) u body (⟨loc,v,s.w⟩:Fm) = .ok r.1 ⟨r.2.2.1,r.2.2.2,r.2.1.w⟩∧WGood H (envU l lim) (sumU l) C r.2.1∧r.2.2.1.length=loc.length)∧Ws w (List.flatMap Asr.ids ((wown 87 3 bw K (envU l lim) s)++(sown 128 3 bs bw u x loc v))) ((wown 87 3 bw K (envU l lim) r.2.1)++(sown 128 3 bs bw u x r.2.2.1 r.2.2.2)) [H] w')∨(∃r:Int×WSt,e = .panicked (ovS 89 r.1)∧actsE (envU l lim) (callR (envU l lim) d) u body (⟨loc,v,s.w⟩:Fm) = .ov r.1 r.2.w∧Ws w (List.flatMap Asr.ids ((wown 87 3 bw K (envU l lim) s)++(sown 128 3 bs bw u x loc v))) (wown 87 3 bw K (envU l lim) r.2) [H] w'):=by
 induction k using Nat.strongRecOn generalizing bs u z x loc v body a c dd s w
 rename_i k ih
 have hA:∀k2,k2<k→SAc H n K l lim bw C d k1 k2:=fun k2 h bs u z x loc v y a c dd s w h1 h2 h3 h4 h5=>ih k2 h bs u z x loc v y a c dd s w h1 h2 h3 h4 h5
 have hcap:=hl.cap
 have hmax:=hl.max
 refine enter Tryz.func57 O 17 O O ?_
 refine CWd (W':=Ws w (List.flatMap Asr.ids ((wown 87 3 bw K (envU l lim) s)++(sown 128 3 bs bw u x loc v))) ((wown 87 3 bw K (envU l lim) s)++(sown 128 3 bs bw u x loc v)) [H]) (fun _ e=>by subst e; exact hw) ?_
 refine Cs (Cr (V0 (Ya O) (Ln (Et (Cs (Cs (Cr (V0 (Ym O) (V0 (Yn es24 O) (V0 (Ym O) ?_))))))))))
 refine Ln (Et (Cb ?_))
 refine CLk (ι:=Nat×WSt×List Int×Int) (fun t=>[(9,.int .i64 (t.1:Int))]) [(0,_),(7,_),(8,_)] (fun t=>Ws w (List.flatMap Asr.ids ((wown 87 3 bw K (envU l lim) s)++(sown 128 3 bs bw u x loc v))) ((wown 87 3 bw K (envU l lim) t.2.1)++(sown 128 3 bs bw u x t.2.2.1 t.2.2.2)) [H]) (fun t=>t.1≤body.length∧(WGood H (envU l lim) (sumU l) C t.2.1)∧t.2.2.1.length=loc.length∧actsE (envU l lim) (callR (envU l lim) d) u body (⟨loc,v,s.w⟩:Fm)=actsE (envU l lim) (callR (envU l lim) d) u (body.drop t.1) (⟨t.2.2.1,t.2.2.2,t.2.1.w⟩:Fm)) (fun t=>body.length-t.1) (0,s,loc,v) ⟨Nat.zero_le _,hg,O,O⟩ (sc O (sc O (sc O (sc O sn)))) (fun _ h=>h) ?_
 intro t ⟨hti,hgt,htl,hte⟩
 refine Cs (Cr (V0 (yl_lt O O) (Ln (Et (Cs ?_)))))
 refine Cc O (fun hc0=>?_) (fun hc0=>?_)
 ·
  have hlt:t.1<body.length:=by simpa using hc0
  obtain ⟨y,hyi⟩:∃y,body[t.1]? = some y:=⟨_,List.getElem?_eq_getElem hlt⟩
  obtain ⟨py,qy,hay,hry⟩:=hl.elt t.1 y hyi
  obtain ⟨k2,rfl⟩:∃k2,k=k2+1:=by
    cases k with
    | zero=>exact hry.elim
    | succ k2=>exact ⟨k2,rfl⟩
  obtain ⟨ry,hrow,h1,h2,h3⟩:=hry
  have hoy:=actsA_at hok hyi
  refine Ck (Et (Cs (Cb (Cs (Cr (V0 (Yo es24 O O hay hlt) (V0 (yl_lda 0 ag104 O O O (hrow)) ?_)))))))
  refine Al Y O zr104 fun b6=>?_
  refine Lst 0 Y O O O sz104 O O O (Ln (Et (Cs ?_)))
  refine Crb 0 (.cells (actV y ry).toArray 104 (0,0)) O O ?_
  refine Cr (V0 (Ym O) (V0 (Yda 0 O O ag104 O) (Lf 5 O (Lf 5 O (Lf 5 O ?_)))))
  refine Lf 5 O (Lf 5 O ?_)
  refine Lwx (ι:=_) (κ:=_) [_,_,_,_,_] _ Y O en83 O O (_) (_) (_) (_) (_) (_) ([H]) (by simp) (fun w hw=>sact_run H n K l lim bw C d bs u z x t.2.2.1 t.2.2.2 y ry k1 k2 _ t.2.1 w hgt hR hx hC (hA k2 (by omega)) h1 h2 h3 (by rw [htl]; exact hoy) hw) ?_ ?_
  ·
   intro r15 hr15
   refine Ep (WE.block_panic (Ep (Ep (WE.block_panic (Ep ?_)))))
   refine Epp fun w' hw=>?_
   exact .inr ⟨r15,O,hte.trans ((actsE_at _ hyi).trans (bind_ov hr15)),(by have h:=hw; have h:=h.fronti 2 O; have h:=h.fronti 2 O; have h:=h.fronti 2 O; have h:=Wt 3 h; exact h)⟩
  intro r15 ⟨hr15,hg15,hln15⟩
  refine Ln (Et ?_)
  refine Cc O (fun hc1=>?_) (fun hc1=>?_)
  ·
   refine Cs (Cr (V0 (Ya O) (Ln (Et (Crt (Ebr (Er (Er (Ebr (Er ?_))))))))))
   refine R1 O O fun w' hw=>?_
   have ht1:r15.1=true:=hc1
   exact .inl ⟨(true,r15.2),O,⟨hte.trans ((actsE_at _ hyi).trans ((bind_ok hr15).trans (if_pos ht1))),hg15,hln15.trans htl⟩,Wt 5 hw⟩
  refine Ck (Eb (Et (Cr ?_)))
  refine V0 (Yi O O O (by omega)) ?_
  refine V0 (Ym O) (Ln ?_)
  exact Ea ((t.1+1,r15.2):Nat×WSt×List Int×Int) (by show _-(t.1+1)<_; omega) ⟨by show t.1+1≤_; omega,hg15,hln15.trans htl,hte.trans ((actsE_at _ hyi).trans ((bind_ok hr15).trans (if_neg (by rw [hc1]; simp))))⟩ (sc O (sc O (sc O (sc O sn)))) (fun _ h=>by exact (Wt 5 (((((h.f 4 O).f 4 O).f 4 O).f 4 O).f 4 O):))
 have hge:body.length≤t.1:=by simp at hc0; omega
 refine Ce (Ex (Ex (Ebh (Et (Cs (Cr (V0 (Ya O) (Ln (Et (Crt ?_))))))))))
 refine R1 O O fun w' hw=>?_
 exact .inl ⟨(false,t.2),O,⟨hte.trans (actsE_end _ hge),hgt,htl⟩,hw⟩
theorem scall_run (H:View) (n:Nat) (K:KW) (l:List TUnit) (lim bw C d:Nat) (u:Nat) (z:TUnit) (x:SP) (loc:List Int) (body:List TAct) (a:Option Addr) (c k1 k2:Nat) (s:WSt) (w:World) (hR:RunAt H n K l lim) (hcd:C≤24) (hC:C+1≤24→SCall H n K l lim bw (C+1) d) (hg:WGood H (envU l lim) (sumU l) C s) (hx:l[u]? = some z) (hl:Sl (RdA k1 k2) 7 H a c body) (hok:actsK (knM z::usesKn l z) loc.length body 1=true) (hw:Ws w (List.flatMap Asr.ids ((wown 87 3 bw K (envU l lim) s)++[osT 3 1 n1C x.1 x.2 loc])) ((wown 87 3 bw K (envU l lim) s)++[osT 3 1 n1C x.1 x.2 loc]) [H] w) :
   Calls Tryz.prog 39 #[.pointer (some ⟨bw,0,none⟩),.int .i64 (u:Int),.slice x.1 loc.length x.2,.slice a body.length c] w fun e w'=>(∃r:Int×WSt,e = .returned (.int .i64 r.1)∧(callR (envU l lim) (d+1) u loc body s.w = .ok r.1 r.2.w∧WGood H (envU l lim) (sumU l) C r.2)∧Ws w (List.flatMap Asr.ids ((wown 87 3 bw K (envU l lim) s)++[osT 3 1 n1C x.1 x.2 loc])) (wown 87 3 bw K (envU l lim) r.2) [H] w')∨(∃r:Int×WSt,e = .panicked (ovS 89 r.1)∧callR (envU l lim) (d+1) u loc body s.w = .ov r.1 r.2.w∧Ws w (List.flatMap Asr.ids ((wown 87 3 bw K (envU l lim) s)++[osT 3 1 n1C x.1 x.2 loc])) (wown 87 3 bw K (envU l lim) r.2) [H] w'):=by
 refine enter Tryz.func39 O 44 O O ?_
 refine CWd (W':=Ws w (List.flatMap Asr.ids ((wown 87 3 bw K (envU l lim) s)++[osT 3 1 n1C x.1 x.2 loc])) ((wown 87 3 bw K (envU l lim) s)++[osT 3 1 n1C x.1 x.2 loc]) [H]) (fun _ e=>by subst e; exact hw) ?_
 refine Cs (Cr (V0 (Ya O) (Ln (Et (Cs (Cr (V0 (Ym O) (Lf 2 O (Lf 2 O ?_)))))))))
 refine Lf 2 O ?_
 refine Lwx (ι:=_) (κ:=_) [_,_,_] _ Y O en55 O O (_) (_) (_) (_) (_) (_) ([H]) (by simp) (fun w hw=>wtick_any bw K l lim C H s w hg hR.lim hw) ?_ ?_
 ·
  intro r11 hr11
  refine Ep ?_
  refine Epp fun w' hw=>?_
  exact .inr ⟨r11,O,callR_ov1 hr11,(by have h:=hw; have h:=h.fronti 2 O; have h:=h.fronti 2 O; have h:=h.fronti 2 O; have h:=Wt 3 h; exact h)⟩
 intro r11 ⟨hr11,hg11⟩
 refine Ln (Et (Cs ?_))
 have hcl:=hg11.cl
 have hwk:tickW (envU l lim) s.w = .ok r11.1 r11.2.w:=hr11
 refine Cr (V0 (Ym O) (V0 (yl_nil O) (V0 (Yf fo87_5 O) (V0 (Yd 0 O O O na3) (V0 (yl_eq O O) ?_)))))
 refine Lwx (ι:=Unit) (κ:=Unit) [] _ Y O en56 O O (fun _=>.tuple #[]) (fun _=>[]) (fun _=>(((r11.2.w.calls:Nat):Int)==24)=false) (fun _=>ovS 89 4) (fun _=>[]) (fun _=>(((r11.2.w.calls:Nat):Int)==24)=true) ([]) (by simp) (fun w hw=>(sstop_any _ 4 w).mono fun e w' h=>by
     rcases h with ⟨_,h1,h2,h3⟩ | ⟨_,h1,h2,h3⟩
     · exact .inl ⟨(),h1,h2,hw.ext h3⟩
     · exact .inr ⟨(),h1,h2,hw.ext h3⟩) ?_ ?_
 ·
  intro _ hn17
  refine Ep ?_
  refine Epp fun w' hw=>?_
  exact .inr ⟨(4,r11.2),O,callR_ov2 hr11 (show r11.2.w.calls=24 from by have h:=hn17; simp at h; omega),(by have h:=hw; have h:=h.fronti 2 O; have h:=h.fronti 2 O; have h:=h.fronti 2 O; have h:=Wt 3 h; exact h)⟩
 intro _ hn17
 refine Ln (Et (Cs ?_))
 have hne:¬r11.2.w.calls=24:=by intro h; rw [h] at hn17; simp at hn17
 have hg1:WGood H (envU l lim) (sumU l) (C+1) (⟨{ r11.2.w with calls:=r11.2.w.calls+1 },r11.2.i,r11.2.o,r11.2.d⟩:WSt):=⟨hg11.inp,hg11.out,hg11.tk,hg11.dat,by show r11.2.w.calls+1=C+1; rw [hcl]⟩
 refine Cr (V0 (Ym O) (V0 (yl_nil O) (V0 (Yf fo87_5 O) (V0 (Yd 0 O O O na3) ?_))))
 refine V0 (Yi O O O (by omega)) ?_
 refine V0 (yl_nil O) (V0 (Yf fo87_5 O) (Lst 0 Y O O O sz3 O O O (Ln (Et (Cs ?_)))))
 refine Crb 0 (wob 87 K (envU l lim) (⟨{ r11.2.w with calls:=r11.2.w.calls+1 },r11.2.i,r11.2.o,r11.2.d⟩:WSt)) O O ?_
 refine Cr (V0 (Ym O) (V0 (Ym O) (V0 (Ym O) (V0 (Yb zr128 pl128 O O) ?_))))
 refine WL.box Y O O fun b29=>?_
 obtain ⟨bs,hbs⟩:∃q,q=b29:=⟨_,rfl⟩
 subst hbs
 refine Lrb 0 (scb 128 bw u x loc.length 0) O O ?_
 refine V0 (Ya O) (Ln (Et (Cs (Cr (V0 (Ym O) (V0 (Ym O) (Lf 4 O (Lf 1 O ?_))))))))
 refine Lf 4 O (Lf 4 O (Lf 4 O ?_))
 refine Lwx (ι:=_) (κ:=_) [_,_,_,_,_] _ Y O en57 O O (_) (_) (_) (_) (_) (_) ([H]) (by simp) (fun w hw=>sacts_run H n K l lim bw (C+1) d bs u z x loc 0 body a c k1 k2 1 (⟨{ r11.2.w with calls:=r11.2.w.calls+1 },r11.2.i,r11.2.o,r11.2.d⟩:WSt) w hg1 hR hx (hC (by omega)) hl (actsK_A hok) hw) ?_ ?_
 ·
  intro r32 hr32
  refine Ep ?_
  refine Epp fun w' hw=>?_
  exact .inr ⟨r32,O,callR_ov3 hr11 hne hr32,(by have h:=hw; have h:=h.fronti 2 O; have h:=h.fronti 2 O; have h:=h.fronti 2 O; exact h)⟩
 intro r32 ⟨hr32,hg32,hln32⟩
 refine Ln (Et (Cs ?_))
 have hcl2:=hg32.cl
 refine Cr (V0 (Ym O) (V0 (yl_nil O) (V0 (Yf fo87_5 O) (V0 (Yd 0 O O O na3) ?_))))
 refine V0 (yl_subv (((r32.2.1.w.calls-1:Nat)):Int) O O (by omega) (by omega)) ?_
 refine V0 (yl_nil O) (V0 (Yf fo87_5 O) (Lst 0 Y O O O sz3 O O O (Ln (Et (Cs ?_)))))
 refine Crb 0 (wob 87 K (envU l lim) (⟨{ r32.2.1.w with calls:=r32.2.1.w.calls-1 },r32.2.1.i,r32.2.1.o,r32.2.1.d⟩:WSt)) O O ?_
 refine Cr (V0 (Ym O) (V0 (yl_nil O) (V0 (Yf fo128_3 O) (V0 (Yd 3 O O O na3) (V0 (Ya O) ?_)))))
 refine Ln (Et (Crt ?_))
 refine R1 O O fun w' hw=>?_
 exact .inl ⟨(r32.2.2.2,(⟨{ r32.2.1.w with calls:=r32.2.1.w.calls-1 },r32.2.1.i,r32.2.1.o,r32.2.1.d⟩:WSt)),O,⟨callR_ok hr11 hne hr32,⟨hg32.inp,hg32.out,hg32.tk,hg32.dat,by show r32.2.1.w.calls-1=C; omega⟩⟩,Wt 3 hw⟩
theorem scall_all (H:View) (n:Nat) (K:KW) (l:List TUnit) (lim bw:Nat) (hR:RunAt H n K l lim):∀d C,C+d=25→C≤24→SCall H n K l lim bw C d
 | 0,C,h1,h2=>absurd h1 (by omega)
 | d+1,C,h1,h2=>fun u z x loc body a c k1 k2 s w hg hx hl hok hw=>scall_run H n K l lim bw C d u z x loc body a c k1 k2 s w hR h2 (fun h=>scall_all H n K l lim bw hR d (C+1) (by omega) h) hg hx hl hok hw
end Go.Proofs.YtpjekjnehiinnaaGreatDoor
end
section
namespace Go.Proofs.YtpjekjnehiinnaaGreatDoor
open Go.Bw
def rdU2 (ke k:Nat) (H:View) (b o:Nat) (u:TUnit):Prop:=∃r:UAt,RdC H b o (unitV u r)∧RdU ke k H r u
structure PlOk (us:List TUnit) (nu:Nat) (al:Bool) (kn:List KnW):Prop where
 len:kn.length=nu+1
 far:al=true→∀mi,0<mi→mi≤nu→kn[mi]? = some noKn
 near:∀mi,mi≤nu→(al=true→mi=0)→∃u,us[mi]? = some u∧kn[mi]? = some (knM u)
theorem pl_dataC {us:List TUnit} {nu:Nat} {al:Bool} {kn:List KnW} (h:PlOk us nu al kn) (m pl:Int):((!(within m 0 (nu:Int))||decide (pl<0))||decide (512<pl))=dataC kn m pl:=by
 unfold dataC within
 rw [h.len,Bool.eq_iff_iff]
 simp
 omega
theorem pl_partC {us:List TUnit} {nu:Nat} {al:Bool} {kn:List KnW} (h:PlOk us nu al kn) (m pl:Int):(!(within m 0 (nu:Int))||decide (pl<0))=partC kn m pl:=by
 unfold partC within
 rw [h.len,Bool.eq_iff_iff]
 simp
 omega
theorem fo99_1:fieldOff Tryz.prog 99 1=some 1:=by kernel_rfl
theorem fo99_3:fieldOff Tryz.prog 99 3=some 3:=by kernel_rfl
theorem fo99_0:fieldOff Tryz.prog 99 0=some 0:=by kernel_rfl
theorem pdata_any (HU:View) (ke k:Nat) (us:List TUnit) (ka:Option Addr) (kc nu:Nat) (al:Bool) (kn:List KnW) (locs:Int) (m pl n:Int) (w:World) (hHU:Le HU w) (hus:Sl (rdU2 ke k) 5 HU ka kc us) (hpl:PlOk us nu al kn) (hnu:nu≤1000) (hlo:0≤locs∧locs≤1000) (hn:0≤n∧n≤32) :
   Calls Tryz.prog 90 #[.agg #[.slice ka us.length kc,.int .i64 (nu:Int),.int .i64 locs,.bool al],.int .i64 m,.int .i64 pl,.int .i64 n] w fun e w'=>e = .returned (.bool (dataB kn m pl n))∧Ext w w':=by
 have hucap:=hus.cap
 have humax:=hus.max
 refine enter Tryz.func90 O 46 O O ?_
 refine CWd (W':=Ws w [] [] [HU]) (fun _ e=>by subst e; exact Ws.init (by simp [hHU])) ?_
 refine Cs (Cr ?_)
 refine WL.box Y O O fun b4=>?_
 refine V0 (Ya O) (Ln (Et (Cs (Cs (Cr (V0 (Ym O) (V0 (Yf fo99_1 O) (V0 (Yd 0 O O O na3) ?_))))))))
 refine Lp Y O en34 O (fun w hw=>within_any _ _ _ w) ?_
 refine V0 (yl_not O) (V0 (Ym O) ?_)
 apply Lo 2 O O O O Y O O O O O
 ·
  intro hg0
  refine Vg (Ym O) (Vg (yl_lt O O) ?_)
  exact Gt 2 O O O
 refine V0 (Ym O) ?_
 apply Lo 2 O O O O Y O O O O O
 ·
  intro hg1
  refine Vg (Ym O) (Vg (yl_gt O O) ?_)
  exact Gt 2 O O O
 refine Ln (Et ?_)
 rw [pl_dataC hpl]
 refine Cc O (fun hc0=>?_) (fun hc0=>?_)
 ·
  refine Cs (Cr (V0 (Ya O) (Ln (Et (Crt (Er ?_))))))
  refine R1 O O fun w' hw=>?_
  exact ⟨by rw [dataB_no n hc0],hw.fr⟩
 obtain ⟨⟨mi,rfl,hmi⟩,hp0,hp1⟩:=dataC_in hc0
 rw [hpl.len] at hmi
 refine Ck (Et (Cs (Cs (Cr (V0 (Ym O) (V0 (yl_gt O O) (V0 (Ym O) ?_)))))))
 apply La 2 O O O O Y O O O O O
 ·
  intro hg2
  refine Vg (Yf fo99_3 O) (Vg (Yd 0 O O O na4) ?_)
  exact Gt 2 O O O
 refine Ln (Et ?_)
 refine Cc O (fun hc1=>?_) (fun hc1=>?_)
 ·
  obtain ⟨hm0,hal⟩:0<mi∧al=true:=by simpa using hc1
  have hki:=hpl.far hal mi hm0 (by omega)
  refine Cs (Cr (V0 (Ym O) (V0 (Ym O) ?_)))
  refine V0 (yl_add O O (by omega)) ?_
  refine V0 (yl_le O O) (V0 (Ym O) ?_)
  apply Lo 2 O O O O Y O O O O O
  ·
   intro hg3
   refine Vg (Ym O) (Vg (yl_eq O O) ?_)
   exact Gt 2 O O O
  refine V0 (Ya O) (Ln (Et (Crt (Er ?_))))
  refine R1 O O fun w' hw=>?_
  exact ⟨by rw [dataB_at hc0 hki,if_neg (by decide),Bool.or_comm],hw.fr⟩
 obtain ⟨u,hui,hki⟩:=hpl.near mi (by omega) (fun e=>by rw [e] at hc1; simp at hc1; omega)
 have hul:mi<us.length:=(List.getElem?_eq_some_iff.1 hui).1
 obtain ⟨pbu,pou,hau,ur,hrow,hru⟩:=hus.elt mi u hui
 refine Ck (Et (Cs (Cr (V0 (Ym O) (V0 (Ym O) ?_)))))
 refine V0 (yl_add O O (by omega)) ?_
 refine V0 (Yf fo99_0 O) (V0 (Yd 0 O O O na38) (V0 (Ym O) (V0 (Yo es38 O O hau hul) (V0 (Yf fo26_2 O) (V0 (yl_ld 0 na3 O O (hrow 2 _ O)) ?_)))))
 refine V0 (yl_le O O) (V0 (Ya O) (Ln (Et (Crt ?_))))
 refine R1 O O fun w' hw=>?_
 exact ⟨by rw [dataB_at hc0 hki,if_pos (show (knM u).is_=true from O)]; rfl,hw.fr⟩
theorem ppart_any (HU:View) (ke k:Nat) (us:List TUnit) (ka:Option Addr) (kc nu:Nat) (al:Bool) (kn:List KnW) (locs:Int) (m pl n:Int) (w:World) (hHU:Le HU w) (hus:Sl (rdU2 ke k) 5 HU ka kc us) (hpl:PlOk us nu al kn) (hnu:nu≤1000) (hlo:0≤locs∧locs≤1000)  :
   Calls Tryz.prog 91 #[.agg #[.slice ka us.length kc,.int .i64 (nu:Int),.int .i64 locs,.bool al],.int .i64 m,.int .i64 pl,.int .i64 n] w fun e w'=>e = .returned (.bool (partB kn m pl n))∧Ext w w':=by
 have hucap:=hus.cap
 have humax:=hus.max
 refine enter Tryz.func91 O 53 O O ?_
 refine CWd (W':=Ws w [] [] [HU]) (fun _ e=>by subst e; exact Ws.init (by simp [hHU])) ?_
 refine Cs (Cr ?_)
 refine WL.box Y O O fun b4=>?_
 refine V0 (Ya O) (Ln (Et (Cs (Cs (Cr (V0 (Ym O) (V0 (Yf fo99_1 O) (V0 (Yd 0 O O O na3) ?_))))))))
 refine Lp Y O en34 O (fun w hw=>within_any _ _ _ w) ?_
 refine V0 (yl_not O) (V0 (Ym O) ?_)
 apply Lo 2 O O O O Y O O O O O
 ·
  intro hg0
  refine Vg (Ym O) (Vg (yl_lt O O) ?_)
  exact Gt 2 O O O
 refine Ln (Et ?_)
 rw [pl_partC hpl]
 refine Cc O (fun hc0=>?_) (fun hc0=>?_)
 ·
  refine Cs (Cr (V0 (Ya O) (Ln (Et (Crt (Er ?_))))))
  refine R1 O O fun w' hw=>?_
  exact ⟨by rw [partB_no n hc0],hw.fr⟩
 obtain ⟨⟨mi,rfl,hmi⟩,pi,rfl⟩:=partC_in hc0
 rw [hpl.len] at hmi
 refine Ck (Et (Cs (Cs (Cr (V0 (Ym O) (V0 (yl_gt O O) (V0 (Ym O) ?_)))))))
 apply La 2 O O O O Y O O O O O
 ·
  intro hg1
  refine Vg (Yf fo99_3 O) (Vg (Yd 0 O O O na4) ?_)
  exact Gt 2 O O O
 refine Ln (Et ?_)
 refine Cc O (fun hc1=>?_) (fun hc1=>?_)
 ·
  obtain ⟨hm0,hal⟩:0<mi∧al=true:=by simpa using hc1
  have hki:=hpl.far hal mi hm0 (by omega)
  refine Cs (Cr (V0 (Ym O) (V0 (yl_lt O O) (V0 (Ym O) ?_))))
  apply La 2 O O O O Y O O O O O
  ·
   intro hg2
   refine Vg (Ym O) (Vg (yl_le O O) ?_)
   exact Gt 2 O O O
  refine V0 (Ya O) (Ln (Et (Crt (Er ?_))))
  refine R1 O O fun w' hw=>?_
  exact ⟨by rw [partB_at hc0 hki,if_neg (by decide)],hw.fr⟩
 obtain ⟨u,hui,hki⟩:=hpl.near mi (by omega) (fun e=>by rw [e] at hc1; simp at hc1; omega)
 have hul:mi<us.length:=(List.getElem?_eq_some_iff.1 hui).1
 obtain ⟨pbu,pou,hau,ur,hrow,hru⟩:=hus.elt mi u hui
 have hpcap:=hru.parts.cap
 have hpmax:=hru.parts.max
 refine Ck (Et (Cs (Cr (V0 (Ym O) (V0 (Yf fo99_0 O) (V0 (Yd 0 O O O na38) (V0 (Ym O) (V0 (Yo es38 O O hau hul) ?_))))))))
 refine V0 (Yf fo26_3 O) (V0 (yl_ld 0 na23 O O (hrow 3 _ O)) (V0 (Yn es23 O) (V0 (yl_lt O O) (V0 (Ym O) ?_))))
 apply La 12 (x:=((knM u).parts[((pi:Int)).toNat]?).getD 0==n) O O O O Y O O O O O
 ·
  intro hg3
  have hpn:pi<u.parts.length:=by simpa using hg3
  obtain ⟨y,hyi⟩:∃y,u.parts[pi]? = some y:=⟨_,List.getElem?_eq_getElem hpn⟩
  obtain ⟨pby,poy,hay,yr,hrowy,hsuby⟩:=hru.parts.elt pi y hyi
  have hgd:((knM u).parts[((pi:Int)).toNat]?).getD 0=y.params:=by rw [Int.toNat_natCast]; show ((u.parts.map (·.params))[pi]?).getD 0=_; rw [List.getElem?_map,hyi]; rfl
  refine Vg (Yf fo99_0 O) (Vg (Yd 0 O O O na38) (Vg (Ym O) (Vg (Yo es38 O O hau hul) (Vg (Yf fo26_3 O) (Vg (yl_ld 0 na23 O O (hrow 3 _ O)) ?_)))))
  refine Vg (Ym O) (Vg (Yo es23 O O hay hpn) (Vg (Yf fo63_0 O) (Vg (yl_ld 0 na3 O O (hrowy 0 _ O)) (Vg (Ym O) (Vg (yl_eq O O) ?_)))))
  rw [←hgd]
  exact Gt 12 O O O
 refine V0 (Ya O) (Ln (Et (Crt ?_)))
 refine R1 O O fun w' hw=>?_
 exact ⟨by rw [partB_at hc0 hki,if_pos (show (knM u).is_=true from O),show (knM u).parts.length=u.parts.length from List.length_map _],hw.fr⟩
end Go.Proofs.YtpjekjnehiinnaaGreatDoor
end
section
namespace Go.Proofs.YtpjekjnehiinnaaGreatDoor
open Go.Bw
def QNode (HU H:View) (us:List TUnit) (ka:Option Addr) (kc nu:Nat) (al:Bool) (kn:List KnW) (locs:Int) (k:Nat):Prop:=∀(x:TNode) (a:Option Addr) (c:Nat) (d:Nat) (w:World),Le HU w→Le H w→Sl (RdN k) 5 H a c x.args→d≤7→
 Calls Tryz.prog 127 #[.agg #[.slice ka us.length kc,.int .i64 (nu:Int),.int .i64 locs,.bool al],.agg (nodeV x a c).toArray,.int .i64 (d:Int)] w fun e w'=>e = .returned (.bool (nodeK kn locs x d))∧Ext w w'
theorem within_local (locs pl:Int):within pl 0 (locs-1)=localB locs pl:=by
 unfold within localB
 rw [Bool.eq_iff_iff]
 simp
 omega
theorem nodeK_no {kn:List KnW} {locs:Int} {x:TNode} {d:Nat} (h:6<d):nodeK kn locs x d=false:=by
 rw [nodeK_eq,decide_eq_false (by omega)]; rfl
theorem ag99:aggOf Tryz.prog 99=some 4:=by kernel_rfl
theorem en127:Enters Tryz.prog 127:=enters_of Tryz.func127 (by kernel_rfl) rfl
theorem en90:Enters Tryz.prog 90:=enters_of Tryz.func90 (by kernel_rfl) rfl
theorem en91:Enters Tryz.prog 91:=enters_of Tryz.func91 (by kernel_rfl) rfl
theorem fo99_2:fieldOff Tryz.prog 99 2=some 2:=by kernel_rfl
theorem en92:Enters Tryz.prog 92:=enters_of Tryz.func92 (by kernel_rfl) rfl
theorem pnodesF_any (HU H:View) (ke0 ku:Nat) (us:List TUnit) (ka:Option Addr) (kc nu:Nat) (al:Bool) (kn:List KnW) (locs:Int) (k:Nat) (l:List TNode) (a:Option Addr) (c:Nat) (d:Nat) (w:World) (hHU:Le HU w) (hH:Le H w) (hus:Sl (rdU2 ke0 ku) 5 HU ka kc us) (hpl:PlOk us nu al kn) (hnu:nu≤1000) (hlo:0≤locs∧locs≤1000) (hN:∀k2,k2<k→QNode HU H us ka kc nu al kn locs k2) (hl:Sl (RdN k) 5 H a c l) (hd:d≤7) :
   Calls Tryz.prog 92 #[.agg #[.slice ka us.length kc,.int .i64 (nu:Int),.int .i64 locs,.bool al],.slice a l.length c,.int .i64 (d:Int)] w fun e w'=>e = .returned (.bool (nodesK kn locs l d))∧Ext w w':=by
 have hucap:=hus.cap
 have humax:=hus.max
 have hcap:=hl.cap
 have hmax:=hl.max
 refine enter Tryz.func92 O 22 O O ?_
 refine CWd (W':=Ws w [] [] [HU,H]) (fun _ e=>by subst e; exact Ws.init (by simp [hHU,hH])) ?_
 refine Cs (Cr ?_)
 refine WL.box Y O O fun b3=>?_
 refine V0 (Ya O) (Ln (Et (Cs (Cs (Cr (V0 (Ya O) (Ln (Et (Cb ?_)))))))))
 refine CW (ι:=Nat) (fun i=>[(7,.int .i64 (i:Int))]) [(1,_),(2,_),(3,_)] (fun i=>i≤l.length∧(l.take i).all (nodeK kn locs · d)=true) (fun i=>l.length-i) 0 ⟨Nat.zero_le _,O⟩ (sc O (sc O (sc O (sc O sn)))) ?_
 intro i ⟨hi,hall⟩
 refine Cs (Cs (Cr (V0 (Ym O) (V0 (Ym O) (V0 (Yn es102 O) (V0 (yl_lt O O) (Ln (Et ?_))))))))
 refine Cc O (fun hc0=>?_) (fun hc0=>?_)
 ·
  have hlt:i<l.length:=by simpa using hc0
  obtain ⟨x,hxi⟩:∃q,l[i]? = some q:=⟨_,List.getElem?_eq_getElem hlt⟩
  obtain ⟨pbx,pox,hax,hrx⟩:=hl.elt i x hxi
  obtain ⟨k2,rfl⟩:∃k2,k=k2+1:=by
    cases k with
    | zero=>exact hrx.elim
    | succ k2=>exact ⟨k2,rfl⟩
  obtain ⟨xa,xc,hrow,hsub⟩:=hrx
  refine Ck (Et (Cs (Cb (Cs ?_))))
  refine WC.draws0 [(0,true),(1,true),(2,true),(3,true),(4,true),(5,true),(6,false),(7,true)] mixed (by kernel_rfl) (fun _ _ _ d _ h=>by cases d<;>exact h) ?_
  refine D0 O (fun _ h=>h) (Yda 0 O O ag99 O) (D0 O (fun _ h=>h) (Ym O) (D0 O (fun _ h=>h) (Ym O) (D0 O (fun _ h=>h) (Yo es102 O O hax hlt) (D0 O (fun _ h=>h) (yl_lda 1 ag138 O O O (hrow)) (D0 O (fun _ h=>h) (Ym O) ?_)))))
  refine De O (fun _ h=>h) ?_
  refine Lp Y O en127 O (fun w hw=>hN k2 (by omega) x xa xc d w (hw.vs _ (by simp)) (hw.vs _ (by simp)) hsub hd) ?_
  refine Ln (Ed (D0 O (fun _ h=>h) (yl_not O) ?_))
  refine WD.nil (fun _ h=>h) ?_
  refine Et ?_
  refine Cc O (fun hc1=>?_) (fun hc1=>?_)
  ·
   have hx:nodeK kn locs x d=false:=by simpa using hc1
   refine Cs (Cr (V0 (Ya O) (Ln (Et (Crt (Ebr (Er (Er (Ebr (Er ?_))))))))))
   refine R1 O O fun w' hw=>?_
   exact ⟨by rw [nodesK_all,all_hit hxi hx],hw.fr⟩
  have hx:nodeK kn locs x d=true:=by simpa using hc1
  refine Ck (Eb (Et (Cr (V0 (Ym O) ?_))))
  refine V0 (Yi O O O (by omega)) ?_
  refine V0 (Ya O) (Ln ?_)
  exact Ea (i+1) (by omega) ⟨by omega,all_take hxi hall hx⟩ (sc O (sc O (sc O (sc O sn)))) (fun _ h=>h)
 have hge:¬i<l.length:=by simpa using hc0
 rw [List.take_of_length_le (by omega)] at hall
 refine Ce (Ex (Ex (Ebh (Et (Cs (Cr (V0 (Ya O) (Ln (Et (Crt ?_))))))))))
 refine R1 O O fun w' hw=>?_
 exact ⟨by rw [nodesK_all,hall],hw.fr⟩
theorem pnodeF_any (HU H:View) (ke0 ku:Nat) (us:List TUnit) (ka:Option Addr) (kc nu:Nat) (al:Bool) (kn:List KnW) (locs:Int) (k:Nat) (x:TNode) (a:Option Addr) (c:Nat) (d:Nat) (w:World) (hHU:Le HU w) (hH:Le H w) (hus:Sl (rdU2 ke0 ku) 5 HU ka kc us) (hpl:PlOk us nu al kn) (hnu:nu≤1000) (hlo:0≤locs∧locs≤1000) (hl:Sl (RdN k) 5 H a c x.args) (hd:d≤7) :
   Calls Tryz.prog 127 #[.agg #[.slice ka us.length kc,.int .i64 (nu:Int),.int .i64 locs,.bool al],.agg (nodeV x a c).toArray,.int .i64 (d:Int)] w fun e w'=>e = .returned (.bool (nodeK kn locs x d))∧Ext w w':=by
 have hucap:=hus.cap
 have humax:=hus.max
 induction k using Nat.strongRecOn generalizing x a c d w
 rename_i k ih
 have hN:∀k2,k2<k→QNode HU H us ka kc nu al kn locs k2:=fun k2 h x a c d w h1 h2 h3 h4=>ih k2 h x a c d w h1 h2 h3 h4
 have hcap:=hl.cap
 have hmax:=hl.max
 refine enter Tryz.func127 O 180 O O ?_
 refine CWd (W':=Ws w [] [] [HU,H]) (fun _ e=>by subst e; exact Ws.init (by simp [hHU,hH])) ?_
 refine Cs (Cr ?_)
 refine WL.box Y O O fun b3=>?_
 refine WL.box Y O O fun b4=>?_
 refine V0 (Ya O) (Ln (Et (Cs (Cs (Cr (V0 (Ym O) (V0 (yl_gt O O) (Ln (Et ?_)))))))))
 refine Cc O (fun hc0=>?_) (fun hc0=>?_)
 ·
  have hd6:6<d:=by simp at hc0; omega
  refine Cs (Cr (V0 (Ya O) (Ln (Et (Crt (Er ?_))))))
  refine R1 O O fun w' hw=>?_
  exact ⟨by rw [nodeK_no hd6],hw.fr⟩
 have hd6:d≤6:=by simp at hc0; omega
 refine Ck (Et (Cs (Cr (V0 (Yf fo138_2 O) (V0 (Yd 0 O O O na3) (V0 (yl_eq O O) (V0 (Ym O) ?_)))))))
 apply La 3 O O O O Y O O O O O
 ·
  intro hg0
  refine Vg (Yf fo138_3 O) (Vg (Yd 0 O O O na3) (Vg (yl_eq O O) ?_))
  exact Gt 3 O O O
 refine V0 (Ya O) (Ln (Et (Cs (Cr (V0 (Ya O) (Ln (Et ?_)))))))
 refine WC.cutE (ι:=Bool) (fun bb=>[(2,.int .i64 (d:Int)),(3,.pointer (some ⟨b3,0,none⟩)),(4,.pointer (some ⟨b4,0,none⟩)),(8,.bool bb)]) (fun bb=>Ws w [] [blk b3 (.cells #[.slice ka us.length kc,.int .i64 (nu:Int),.int .i64 locs,.bool al] 99 (0,0)),blk b4 (.cells (nodeV x a c).toArray 138 (0,0))] [HU,H]) (fun bb=>bb=node1 kn locs x.op x.n x.m x.pl x.args.length) ?_ ?_
 ·
  refine Cb (Cs (Cr (V0 (Yf fo138_0 O) (V0 (Yd 0 O O O na3) (V0 (yl_eq O O) (V0 (Ya O) (Ln (Et ?_))))))))
  refine Cc O (fun hc1=>?_) (fun hc1=>?_)
  ·
   have ho:x.op=1:=by simpa using hc1
   refine Cr (V0 (Ym O) (V0 (Ym O) ?_))
   apply La 3 O O O O Y O O O O O
   ·
    intro hg1
    refine Vg (Yf fo138_1 O) (Vg (Yd 0 O O O na3) ?_)
    refine Lp (.g O O O) O en34 O (fun w hw=>within_any _ _ _ w) ?_
    exact Gt 3 O O O
   refine V0 (Ym O) ?_
   apply La 4 O O O O Y O O O O O
   ·
    intro hg2
    refine Vg (Yf fo138_4 O) (Vg (Yd 0 O O O na102) (Vg (Yn es102 O) (Vg (yl_eq O O) ?_)))
    exact Gt 4 O O O
   refine V0 (Ya O) (Ln (Eb ?_))
   exact Em _ (by (rw [node1,if_pos ho])<;>(try rw [within_local])<;>simp only [within,arrayB,Bool.and_assoc,Bool.and_comm,Bool.and_left_comm]) (sc O (sc O (sc O (sc O sn)))) (fun _ h=>by
     have h:=h.fronti 0 rfl
     have h:=h.fronti 1 rfl
     exact h)
  have hn1:¬x.op=1:=by simpa using hc1
  refine Cs (Cr (V0 (Yf fo138_0 O) (V0 (Yd 0 O O O na3) (V0 (yl_eq O O) (V0 (Ya O) (Ln (Et ?_)))))))
  refine Cc O (fun hc2=>?_) (fun hc2=>?_)
  ·
   have ho:x.op=2:=by simpa using hc2
   refine Cr (V0 (Ym O) (V0 (Ym O) ?_))
   apply La 3 O O O O Y O O O O O
   ·
    intro hg3
    refine Vg (Yf fo138_1 O) (Vg (Yd 0 O O O na3) (Vg (yl_eq O O) ?_))
    exact Gt 3 O O O
   refine V0 (Ym O) ?_
   apply La 4 O O O O Y O O O O O
   ·
    intro hg4
    refine Vg (Yf fo138_4 O) (Vg (Yd 0 O O O na102) (Vg (Yn es102 O) (Vg (yl_eq O O) ?_)))
    exact Gt 4 O O O
   refine V0 (Ya O) (Ln (Eb ?_))
   exact Em _ (by (rw [node1,if_neg (show ¬x.op=1 by omega),if_neg (show ¬x.op=3 by omega),if_neg (show ¬x.op=4 by omega),if_neg (show ¬x.op=5 by omega),if_neg (show ¬x.op=16 by omega),if_pos ho])<;>(try rw [within_local])<;>simp only [within,arrayB,Bool.and_assoc,Bool.and_comm,Bool.and_left_comm]) (sc O (sc O (sc O (sc O sn)))) (fun _ h=>by
     have h:=h.fronti 0 rfl
     have h:=h.fronti 1 rfl
     exact h)
  have hn2:¬x.op=2:=by simpa using hc2
  refine Cs (Cr (V0 (Yf fo138_0 O) (V0 (Yd 0 O O O na3) (V0 (yl_eq O O) (V0 (Ya O) (Ln (Et ?_)))))))
  refine Cc O (fun hc3=>?_) (fun hc3=>?_)
  ·
   have ho:x.op=3:=by simpa using hc3
   refine Cr (V0 (Yf fo138_1 O) (V0 (Yd 0 O O O na3) (V0 (yl_eq O O) (V0 (Ym O) ?_))))
   apply La 4 O O O O Y O O O O O
   ·
    intro hg5
    refine Vg (Yf fo138_4 O) (Vg (Yd 0 O O O na102) (Vg (Yn es102 O) (Vg (yl_eq O O) ?_)))
    exact Gt 4 O O O
   refine V0 (Ym O) ?_
   apply La 6 O O O O Y O O O O O
   ·
    intro hg6
    refine Vg (Yda 1 O O ag99 O) (Vg (Yf fo138_2 O) (Vg (Yd 0 O O O na3) (Vg (Yf fo138_3 O) (Vg (Yd 0 O O O na3) ?_))))
    refine Lp (.g O O O) O en90 O (fun w hw=>pdata_any HU ke0 ku us ka kc nu al kn locs x.m x.pl 1 w (hw.vs _ (by simp)) hus hpl hnu hlo (by omega)) ?_
    exact Gt 6 O O O
   refine V0 (Ya O) (Ln (Eb ?_))
   exact Em _ (by (rw [node1,if_neg (show ¬x.op=1 by omega),if_pos ho])<;>(try rw [within_local])<;>simp only [within,arrayB,Bool.and_assoc,Bool.and_comm,Bool.and_left_comm]) (sc O (sc O (sc O (sc O sn)))) (fun _ h=>by
     have h:=h.fronti 0 rfl
     have h:=h.fronti 1 rfl
     exact h)
  have hn3:¬x.op=3:=by simpa using hc3
  refine Cs (Cr (V0 (Yf fo138_0 O) (V0 (Yd 0 O O O na3) (V0 (yl_eq O O) (V0 (Ya O) (Ln (Et ?_)))))))
  refine Cc O (fun hc4=>?_) (fun hc4=>?_)
  ·
   have ho:x.op=4:=by simpa using hc4
   refine Cr (V0 (Yf fo138_1 O) (V0 (Yd 0 O O O na3) ?_))
   refine Lp Y O en34 O (fun w hw=>within_any _ _ _ w) ?_
   refine V0 (Ym O) ?_
   apply La 4 O O O O Y O O O O O
   ·
    intro hg7
    refine Vg (Yf fo138_4 O) (Vg (Yd 0 O O O na102) (Vg (Yn es102 O) (Vg (yl_eq O O) ?_)))
    exact Gt 4 O O O
   refine V0 (Ym O) ?_
   apply La 8 O O O O Y O O O O O
   ·
    intro hg8
    have har:0≤x.n∧x.n≤32:=by
      have h9:=(Bool.and_eq_true_iff.1 hg8).1
      simp [within] at h9
      omega
    refine Vg (Yda 1 O O ag99 O) (Vg (Yf fo138_2 O) (Vg (Yd 0 O O O na3) (Vg (Yf fo138_3 O) (Vg (Yd 0 O O O na3) (Vg (Yf fo138_1 O) ?_)))))
    refine Vg (Yd 0 O O O na3) ?_
    refine Lp (.g O O O) O en90 O (fun w hw=>pdata_any HU ke0 ku us ka kc nu al kn locs x.m x.pl x.n w (hw.vs _ (by simp)) hus hpl hnu hlo har) ?_
    exact Gt 8 O O O
   refine V0 (Ya O) (Ln (Eb ?_))
   exact Em _ (by (rw [node1,if_neg (show ¬x.op=1 by omega),if_neg (show ¬x.op=3 by omega),if_pos ho])<;>(try rw [within_local])<;>simp only [within,arrayB,Bool.and_assoc,Bool.and_comm,Bool.and_left_comm]) (sc O (sc O (sc O (sc O sn)))) (fun _ h=>by
     have h:=h.fronti 0 rfl
     have h:=h.fronti 1 rfl
     exact h)
  have hn4:¬x.op=4:=by simpa using hc4
  refine Cs (Cr (V0 (Yf fo138_0 O) (V0 (Yd 0 O O O na3) (V0 (yl_eq O O) (V0 (Ya O) (Ln (Et ?_)))))))
  refine Cc O (fun hc5=>?_) (fun hc5=>?_)
  ·
   have ho:x.op=5:=by simpa using hc5
   refine Cr (V0 (Yf fo138_1 O) (V0 (Yd 0 O O O na3) (V0 (yl_eq O O) (V0 (Ym O) ?_))))
   apply La 9 O O O O Y O O O O O
   ·
    intro hg9
    refine Vg (Yda 1 O O ag99 O) (Vg (Yf fo138_2 O) (Vg (Yd 0 O O O na3) (Vg (Yf fo138_3 O) (Vg (Yd 0 O O O na3) (Vg (Yf fo138_4 O) ?_)))))
    refine Vg (Yd 0 O O O na102) (Vg (Yn es102 O) ?_)
    refine Lp (.g O O O) O en91 O (fun w hw=>ppart_any HU ke0 ku us ka kc nu al kn locs x.m x.pl x.args.length w (hw.vs _ (by simp)) hus hpl hnu hlo) ?_
    exact Gt 9 O O O
   refine V0 (Ya O) (Ln (Eb ?_))
   exact Em _ (by (rw [node1,if_neg (show ¬x.op=1 by omega),if_neg (show ¬x.op=3 by omega),if_neg (show ¬x.op=4 by omega),if_pos ho])<;>(try rw [within_local])<;>simp only [within,arrayB,Bool.and_assoc,Bool.and_comm,Bool.and_left_comm]) (sc O (sc O (sc O (sc O sn)))) (fun _ h=>by
     have h:=h.fronti 0 rfl
     have h:=h.fronti 1 rfl
     exact h)
  have hn5:¬x.op=5:=by simpa using hc5
  refine Cs (Cr (V0 (Yf fo138_0 O) (V0 (Yd 0 O O O na3) (V0 (yl_eq O O) (V0 (Ya O) (Ln (Et ?_)))))))
  refine Cc O (fun hc6=>?_) (fun hc6=>?_)
  ·
   have ho:x.op=6:=by simpa using hc6
   refine Cr (V0 (Ym O) (V0 (Ym O) ?_))
   apply La 3 O O O O Y O O O O O
   ·
    intro hg10
    refine Vg (Yf fo138_1 O) (Vg (Yd 0 O O O na3) (Vg (yl_eq O O) ?_))
    exact Gt 3 O O O
   refine V0 (Ym O) ?_
   apply La 4 O O O O Y O O O O O
   ·
    intro hg11
    refine Vg (Yf fo138_4 O) (Vg (Yd 0 O O O na102) (Vg (Yn es102 O) (Vg (yl_eq O O) ?_)))
    exact Gt 4 O O O
   refine V0 (Ya O) (Ln (Eb ?_))
   exact Em _ (by (rw [node1,if_neg (show ¬x.op=1 by omega),if_neg (show ¬x.op=3 by omega),if_neg (show ¬x.op=4 by omega),if_neg (show ¬x.op=5 by omega),if_neg (show ¬x.op=16 by omega),if_neg (show ¬x.op=2 by omega),if_pos ho])<;>(try rw [within_local])<;>simp only [within,arrayB,Bool.and_assoc,Bool.and_comm,Bool.and_left_comm]) (sc O (sc O (sc O (sc O sn)))) (fun _ h=>by
     have h:=h.fronti 0 rfl
     have h:=h.fronti 1 rfl
     exact h)
  have hn6:¬x.op=6:=by simpa using hc6
  refine Cs (Cr (V0 (Yf fo138_0 O) (V0 (Yd 0 O O O na3) ?_)))
  refine Lp Y O en34 O (fun w hw=>within_any _ _ _ w) ?_
  refine V0 (Ya O) (Ln (Et ?_))
  refine Cc O (fun hc7=>?_) (fun hc7=>?_)
  ·
   have ho:7≤x.op∧x.op≤15:=by simpa [within] using hc7
   refine Cr (V0 (Ym O) (V0 (Ym O) ?_))
   apply La 3 O O O O Y O O O O O
   ·
    intro hg12
    refine Vg (Yf fo138_1 O) (Vg (Yd 0 O O O na3) (Vg (yl_eq O O) ?_))
    exact Gt 3 O O O
   refine V0 (Ym O) ?_
   apply La 4 O O O O Y O O O O O
   ·
    intro hg13
    refine Vg (Yf fo138_4 O) (Vg (Yd 0 O O O na102) (Vg (Yn es102 O) (Vg (yl_eq O O) ?_)))
    exact Gt 4 O O O
   refine V0 (Ya O) (Ln (Eb ?_))
   exact Em _ (by (rw [node1,if_neg (show ¬x.op=1 by omega),if_neg (show ¬x.op=3 by omega),if_neg (show ¬x.op=4 by omega),if_neg (show ¬x.op=5 by omega),if_neg (show ¬x.op=16 by omega),if_neg (show ¬x.op=2 by omega),if_neg (show ¬x.op=6 by omega),if_pos ho])<;>(try rw [within_local])<;>simp only [within,arrayB,Bool.and_assoc,Bool.and_comm,Bool.and_left_comm]) (sc O (sc O (sc O (sc O sn)))) (fun _ h=>by
     have h:=h.fronti 0 rfl
     have h:=h.fronti 1 rfl
     exact h)
  have hn7:¬(7≤x.op∧x.op≤15):=by
    intro h
    have h9:within x.op 7 15=true:=by simpa [within] using h
    rw [h9] at hc7; cases hc7
  refine Cs (Cr (V0 (Yf fo138_0 O) (V0 (Yd 0 O O O na3) (V0 (yl_eq O O) (V0 (Ya O) (Ln (Et ?_)))))))
  refine Cc O (fun hc8=>?_) (fun hc8=>?_)
  ·
   have ho:x.op=16:=by simpa using hc8
   refine Cr (V0 (Yf fo138_2 O) (V0 (Yd 0 O O O na3) (V0 (yl_eq O O) (V0 (Ym O) ?_))))
   apply La 3 O O O O Y O O O O O
   ·
    intro hg14
    refine Vg (Yf fo138_1 O) (Vg (Yd 0 O O O na3) (Vg (yl_eq O O) ?_))
    exact Gt 3 O O O
   refine V0 (Ym O) ?_
   apply La 4 O O O O Y O O O O O
   ·
    intro hg15
    refine Vg (Yf fo138_4 O) (Vg (Yd 0 O O O na102) (Vg (Yn es102 O) (Vg (yl_eq O O) ?_)))
    exact Gt 4 O O O
   refine V0 (Ym O) ?_
   apply La 6 O O O O Y O O O O O
   ·
    intro hg16
    refine Vg (Yf fo138_3 O) (Vg (Yd 0 O O O na3) (Vg (Yf fo99_2 O) (Vg (Yd 1 O O O na3) ?_)))
    refine Vg (yl_subv (locs-1) O O O (by omega)) ?_
    refine Lp (.g O O O) O en34 O (fun w hw=>within_any _ _ _ w) ?_
    exact Gt 6 O O O
   refine V0 (Ya O) (Ln (Eb ?_))
   exact Em _ (by (rw [node1,if_neg (show ¬x.op=1 by omega),if_neg (show ¬x.op=3 by omega),if_neg (show ¬x.op=4 by omega),if_neg (show ¬x.op=5 by omega),if_pos ho])<;>(try rw [within_local])<;>simp only [within,arrayB,Bool.and_assoc,Bool.and_comm,Bool.and_left_comm]) (sc O (sc O (sc O (sc O sn)))) (fun _ h=>by
     have h:=h.fronti 0 rfl
     have h:=h.fronti 1 rfl
     exact h)
  have hn16:¬x.op=16:=by simpa using hc8
  refine Ck (Eb ?_)
  exact Em _ (by rw [node1,if_neg (show ¬x.op=1 by omega),if_neg (show ¬x.op=3 by omega),if_neg (show ¬x.op=4 by omega),if_neg (show ¬x.op=5 by omega),if_neg (show ¬x.op=16 by omega),if_neg (show ¬x.op=2 by omega),if_neg (show ¬x.op=6 by omega),if_neg hn7]) (sc O (sc O (sc O (sc O sn)))) (fun _ h=>by
    have h:=h.fronti 0 rfl
    have h:=h.fronti 1 rfl
    exact h)
 intro bb hbb
 refine Cs (Cr (V0 (Ym O) (V0 (Ym O) ?_)))
 apply La 6 O O O O Y O O O O O
 ·
  intro hg17
  refine Vg (Yda 0 O O ag99 O) (Vg (Yf fo138_4 O) (Vg (Yd 1 O O O na102) (Vg (Ym O) ?_)))
  refine Vg (Yi O O O (by omega)) ?_
  refine Lp (.g O O O) O en92 O (fun w hw=>pnodesF_any HU H ke0 ku us ka kc nu al kn locs k x.args a c (d+1) w (hw.vs _ (by simp)) (hw.vs _ (by simp)) hus hpl hnu hlo hN hl (by omega)) ?_
  exact Gt 6 O O O
 refine V0 (Ya O) (Ln (Et (Crt ?_)))
 refine R1 O O fun w' hw=>?_
 exact ⟨by rw [nodeK_eq,decide_eq_true hd6,Bool.true_and,hbb],hw.fr⟩
end Go.Proofs.YtpjekjnehiinnaaGreatDoor
end
section
namespace Go.Proofs.YtpjekjnehiinnaaGreatDoor
open Go.Bw
def QActs (HU H:View) (us:List TUnit) (ka:Option Addr) (kc nu:Nat) (al:Bool) (kn:List KnW) (locs:Int) (ke k:Nat):Prop:=∀(l:List TAct) (a:Option Addr) (c:Nat) (d:Nat) (w:World),Le HU w→Le H w→Sl (RdA ke k) 7 H a c l→d≤7→
 Calls Tryz.prog 46 #[.agg #[.slice ka us.length kc,.int .i64 (nu:Int),.int .i64 locs,.bool al],.slice a l.length c,.int .i64 (d:Int)] w fun e w'=>e = .returned (.bool (actsK kn locs l d))∧Ext w w'
theorem bare_sum (a b:Nat):(((a:Int)==0)&&((b:Int)==0))=((a:Int)+(b:Int)==0):=by
 rw [Bool.eq_iff_iff]
 simp
 omega
theorem data_neg (kn:List KnW) (m pl:Int):((m != -1)&&dataB kn m pl 1)=dataB kn m pl 1:=by
 cases h:dataB kn m pl 1 with
 | false=>simp
 | true=>
   cases hd:dataC kn m pl with
   | true=>rw [dataB_no 1 hd] at h; cases h
   | false=>obtain ⟨⟨mi,e,_⟩,_⟩:=dataC_in hd; rw [Bool.and_true,bne_iff_ne]; omega
theorem actK_no {kn:List KnW} {locs:Int} {x:TAct} {d:Nat} (h:(!(act1 kn locs x.op x.n x.m x.pl x.args.length x.body.length x.other.length)||!(nodesK kn locs x.args 1))=true):actK kn locs x d=false:=by
 rw [actK_eq]
 revert h
 cases act1 kn locs x.op x.n x.m x.pl x.args.length x.body.length x.other.length<;>cases nodesK kn locs x.args 1<;>simp
theorem actK_yes {kn:List KnW} {locs:Int} {x:TAct} {d:Nat} (h:(!(act1 kn locs x.op x.n x.m x.pl x.args.length x.body.length x.other.length)||!(nodesK kn locs x.args 1))=false):((((x.op != 4)&&(x.op != 5))||actsK kn locs x.body (d+1))&&(((x.other.length:Int)==0)||actsK kn locs x.other (d+1)))=actK kn locs x d:=by
 obtain ⟨h1,h2⟩:=Bool.or_eq_false_iff.1 h
 rw [actK_eq,show act1 kn locs x.op x.n x.m x.pl x.args.length x.body.length x.other.length=true by simpa using h1,show nodesK kn locs x.args 1=true by simpa using h2]
 unfold ifWh
 rw [show ((x.other.length:Int)==0) = !(decide (0<x.other.length)) by rw [Bool.eq_iff_iff]; simp]
 show (((!(x.op==4)&&!(x.op==5))||_)&&_)=_
 cases (x.op==4)<;>cases (x.op==5)<;>rfl
theorem en46:Enters Tryz.prog 46:=enters_of Tryz.func46 (by kernel_rfl) rfl
theorem pactF_any (HU H:View) (ke0 ku:Nat) (us:List TUnit) (ka:Option Addr) (kc nu:Nat) (al:Bool) (kn:List KnW) (locs:Int) (k:Nat) (x:TAct) (r:AAt) (d:Nat) (w:World) (hHU:Le HU w) (hH:Le H w) (hus:Sl (rdU2 ke0 ku) 5 HU ka kc us) (hpl:PlOk us nu al kn) (hnu:nu≤1000) (hlo:0≤locs∧locs≤1000) (ke:Nat) (hA:QActs HU H us ka kc nu al kn locs ke k) (h1:Sl (RdN ke) 5 H r.s1.1 r.s1.2 x.args) (h2:Sl (RdA ke k) 7 H r.s2.1 r.s2.2 x.body) (h3:Sl (RdA ke k) 7 H r.s3.1 r.s3.2 x.other) (hd:d≤6) :
   Calls Tryz.prog 64 #[.agg #[.slice ka us.length kc,.int .i64 (nu:Int),.int .i64 locs,.bool al],.agg (actV x r).toArray,.int .i64 (d:Int)] w fun e w'=>e = .returned (.bool (actK kn locs x d))∧Ext w w':=by
 have hucap:=hus.cap
 have humax:=hus.max
 have hN:∀k2,QNode HU H us ka kc nu al kn locs k2:=fun k2 x a c d w g1 g2 g3 g4=>pnodeF_any HU H ke0 ku us ka kc nu al kn locs k2 x a c d w g1 g2 hus hpl hnu hlo g3 g4
 have hcap:=h1.cap
 have hmax:=h1.max
 have hcap2:=h2.cap
 have hmax2:=h2.max
 have hcap3:=h3.cap
 have hmax3:=h3.max
 refine enter Tryz.func64 O 194 O O ?_
 refine CWd (W':=Ws w [] [] [HU,H]) (fun _ e=>by subst e; exact Ws.init (by simp [hHU,hH])) ?_
 refine Cs (Cr ?_)
 refine WL.box Y O O fun b3=>?_
 refine WL.box Y O O fun b4=>?_
 refine V0 (Ya O) (Ln (Et (Cs (Cr (V0 (Yf fo104_2 O) (V0 (Yd 0 O O O na3) (V0 (yl_eq O O) (V0 (Ym O) ?_))))))))
 apply La 3 O O O O Y O O O O O
 ·
  intro hg0
  refine Vg (Yf fo104_3 O) (Vg (Yd 0 O O O na3) (Vg (yl_eq O O) ?_))
  exact Gt 3 O O O
 refine V0 (Ym O) ?_
 apply La 3 O O O O Y O O O O O
 ·
  intro hg1
  refine Vg (Yf fo104_1 O) (Vg (Yd 0 O O O na3) (Vg (yl_eq O O) ?_))
  exact Gt 3 O O O
 refine V0 (Ya O) (Ln (Et (Cs (Cr (V0 (Yf fo104_5 O) (V0 (Yd 0 O O O na24) (V0 (Yn es24 O) (V0 (yl_eq O O) ?_))))))))
 refine V0 (Ym O) ?_
 apply La 4 O O O O Y O O O O O
 ·
  intro hg2
  refine Vg (Yf fo104_6 O) (Vg (Yd 0 O O O na24) (Vg (Yn es24 O) (Vg (yl_eq O O) ?_)))
  exact Gt 4 O O O
 refine V0 (Ya O) (Ln (Et (Cs (Cr (V0 (Ya O) (Ln (Et ?_)))))))
 refine WC.cutE (ι:=Bool) (fun bb=>[(2,.int .i64 (d:Int)),(3,.pointer (some ⟨b3,0,none⟩)),(4,.pointer (some ⟨b4,0,none⟩)),(9,.bool bb)]) (fun bb=>Ws w [] [blk b3 (.cells #[.slice ka us.length kc,.int .i64 (nu:Int),.int .i64 locs,.bool al] 99 (0,0)),blk b4 (.cells (actV x r).toArray 104 (0,0))] [HU,H]) (fun bb=>bb=act1 kn locs x.op x.n x.m x.pl x.args.length x.body.length x.other.length) ?_ ?_
 ·
  refine Cs (Cr (V0 (Yf fo104_0 O) (V0 (Yd 0 O O O na3) (Ln (Et (Cb (Cs (Cr (V0 (yl_eq O O) (V0 (Ya O) ?_))))))))))
  refine Ln (Et ?_)
  refine Cc O (fun hc0=>?_) (fun hc0=>?_)
  ·
   have ho:x.op=1:=by simpa using hc0
   refine Cr (V0 (Yf fo104_1 O) (V0 (Yd 0 O O O na3) (V0 (yl_eq O O) (V0 (Ym O) ?_))))
   apply La 1 O O O O Y O O O O O
   ·
    intro hg3
    refine Vg (Ym O) ?_
    exact Gt 1 O O O
   refine V0 (Ym O) ?_
   apply La 4 O O O O Y O O O O O
   ·
    intro hg4
    refine Vg (Yf fo104_4 O) (Vg (Yd 0 O O O na102) (Vg (Yn es102 O) (Vg (yl_eq O O) ?_)))
    exact Gt 4 O O O
   refine V0 (Ym O) ?_
   apply La 24 (x:=((x.m==-1)&&within x.pl 0 (locs-1))||((x.m != -1)&&dataB kn x.m x.pl 1)) O O O O Y O O O O O
   ·
    intro hg5
    refine Vg (Yf fo104_2 O) (Vg (Yd 0 O O O na3) (Vg (yl_eq O O) (Vg (Ym O) ?_)))
    apply La 6 O O O O (.g O O O) O O O O O
    ·
     intro hg6
     refine Vg (Yf fo104_3 O) (Vg (Yd 0 O O O na3) (Vg (Yf fo99_2 O) (Vg (Yd 1 O O O na3) ?_)))
     refine Vg (yl_subv (locs-1) O O O (by omega)) ?_
     refine Lp (.g O O O) O en34 O (fun w hw=>within_any _ _ _ w) ?_
     exact Gt 6 O O O
    refine Vg (Ym O) ?_
    apply Lo 11 (x:=(x.m != -1)&&dataB kn x.m x.pl 1) O O O O (.g O O O) O O O O O
    ·
     intro hg7
     refine Vg (Yf fo104_2 O) (Vg (Yd 0 O O O na3) (Vg (yl_ne O O) (Vg (Ym O) ?_)))
     apply La 6 O O O O (.g O O O) O O O O O
     ·
      intro hg8
      refine Vg (Yda 1 O O ag99 O) (Vg (Yf fo104_2 O) (Vg (Yd 0 O O O na3) (Vg (Yf fo104_3 O) (Vg (Yd 0 O O O na3) ?_))))
      refine Lp (.g O O O) O en90 O (fun w hw=>pdata_any HU ke0 ku us ka kc nu al kn locs x.m x.pl 1 w (hw.vs _ (by simp)) hus hpl hnu hlo (by omega)) ?_
      exact Gt 6 O O O
     exact Gt 5 O O O
    exact Gt 7 O O O
   refine V0 (Ya O) (Ln (Eb ?_))
   exact Em _ (by (rw [act1,if_pos ho])<;>(try rw [←bare_sum])<;>(try rw [within_local])<;>(try rw [data_neg])<;>simp only [within,arrayB,Bool.and_assoc,Bool.and_comm,Bool.and_left_comm]) (sc O (sc O (sc O (sc O sn)))) (fun _ h=>by
     have h:=h.fronti 0 rfl
     have h:=h.fronti 1 rfl
     exact h)
  have hn1:¬x.op=1:=by simpa using hc0
  refine Cs (Cr (V0 (yl_eq O O) (V0 (Ya O) (Ln (Et ?_)))))
  refine Cc O (fun hc1=>?_) (fun hc1=>?_)
  ·
   have ho:x.op=2:=by simpa using hc1
   refine Cr (V0 (Ym O) (V0 (Ym O) ?_))
   apply La 3 O O O O Y O O O O O
   ·
    intro hg9
    refine Vg (Yf fo104_1 O) (Vg (Yd 0 O O O na3) ?_)
    refine Lp (.g O O O) O en34 O (fun w hw=>within_any _ _ _ w) ?_
    exact Gt 3 O O O
   refine V0 (Ym O) ?_
   apply La 4 O O O O Y O O O O O
   ·
    intro hg10
    refine Vg (Yf fo104_4 O) (Vg (Yd 0 O O O na102) (Vg (Yn es102 O) (Vg (yl_eq O O) ?_)))
    exact Gt 4 O O O
   refine V0 (Ym O) ?_
   apply La 8 O O O O Y O O O O O
   ·
    intro hg11
    have har:0≤x.n∧x.n≤32:=by
      have h9:=(Bool.and_eq_true_iff.1 (Bool.and_eq_true_iff.1 hg11).1).2
      simp [within] at h9
      omega
    refine Vg (Yda 1 O O ag99 O) (Vg (Yf fo104_2 O) (Vg (Yd 0 O O O na3) (Vg (Yf fo104_3 O) (Vg (Yd 0 O O O na3) (Vg (Yf fo104_1 O) ?_)))))
    refine Vg (Yd 0 O O O na3) ?_
    refine Lp (.g O O O) O en90 O (fun w hw=>pdata_any HU ke0 ku us ka kc nu al kn locs x.m x.pl x.n w (hw.vs _ (by simp)) hus hpl hnu hlo har) ?_
    exact Gt 8 O O O
   refine V0 (Ya O) (Ln (Eb ?_))
   exact Em _ (by (rw [act1,if_neg (show ¬x.op=1 by omega),if_pos ho])<;>(try rw [←bare_sum])<;>(try rw [within_local])<;>(try rw [data_neg])<;>simp only [within,arrayB,Bool.and_assoc,Bool.and_comm,Bool.and_left_comm]) (sc O (sc O (sc O (sc O sn)))) (fun _ h=>by
     have h:=h.fronti 0 rfl
     have h:=h.fronti 1 rfl
     exact h)
  have hn2:¬x.op=2:=by simpa using hc1
  refine Cs (Cr (V0 (yl_eq O O) (V0 (Ya O) (Ln (Et ?_)))))
  refine Cc O (fun hc2=>?_) (fun hc2=>?_)
  ·
   have ho:x.op=3:=by simpa using hc2
   refine Cr (V0 (Ym O) (V0 (Ym O) ?_))
   apply La 3 O O O O Y O O O O O
   ·
    intro hg12
    refine Vg (Yf fo104_1 O) (Vg (Yd 0 O O O na3) (Vg (yl_eq O O) ?_))
    exact Gt 3 O O O
   refine V0 (Ym O) ?_
   apply La 9 O O O O Y O O O O O
   ·
    intro hg13
    refine Vg (Yda 1 O O ag99 O) (Vg (Yf fo104_2 O) (Vg (Yd 0 O O O na3) (Vg (Yf fo104_3 O) (Vg (Yd 0 O O O na3) (Vg (Yf fo104_4 O) ?_)))))
    refine Vg (Yd 0 O O O na102) (Vg (Yn es102 O) ?_)
    refine Lp (.g O O O) O en91 O (fun w hw=>ppart_any HU ke0 ku us ka kc nu al kn locs x.m x.pl x.args.length w (hw.vs _ (by simp)) hus hpl hnu hlo) ?_
    exact Gt 9 O O O
   refine V0 (Ya O) (Ln (Eb ?_))
   exact Em _ (by (rw [act1,if_neg (show ¬x.op=1 by omega),if_neg (show ¬x.op=2 by omega),if_pos ho])<;>(try rw [←bare_sum])<;>(try rw [within_local])<;>(try rw [data_neg])<;>simp only [within,arrayB,Bool.and_assoc,Bool.and_comm,Bool.and_left_comm]) (sc O (sc O (sc O (sc O sn)))) (fun _ h=>by
     have h:=h.fronti 0 rfl
     have h:=h.fronti 1 rfl
     exact h)
  have hn3:¬x.op=3:=by simpa using hc2
  refine Cs (Cr (V0 (yl_eq O O) (V0 (Ya O) (Ln (Et ?_)))))
  refine Cc O (fun hc3=>?_) (fun hc3=>?_)
  ·
   have ho:x.op=4:=by simpa using hc3
   refine Cr (V0 (Ym O) (V0 (Ym O) ?_))
   apply La 4 O O O O Y O O O O O
   ·
    intro hg14
    refine Vg (Yf fo104_4 O) (Vg (Yd 0 O O O na102) (Vg (Yn es102 O) (Vg (yl_eq O O) ?_)))
    exact Gt 4 O O O
   refine V0 (Ya O) (Ln (Eb ?_))
   exact Em _ (by (rw [act1,if_neg (show ¬x.op=1 by omega),if_neg (show ¬x.op=2 by omega),if_neg (show ¬x.op=3 by omega),if_pos ho])<;>(try rw [←bare_sum])<;>(try rw [within_local])<;>(try rw [data_neg])<;>simp only [within,arrayB,Bool.and_assoc,Bool.and_comm,Bool.and_left_comm]) (sc O (sc O (sc O (sc O sn)))) (fun _ h=>by
     have h:=h.fronti 0 rfl
     have h:=h.fronti 1 rfl
     exact h)
  have hn4:¬x.op=4:=by simpa using hc3
  refine Cs (Cr (V0 (yl_eq O O) (V0 (Ya O) (Ln (Et ?_)))))
  refine Cc O (fun hc4=>?_) (fun hc4=>?_)
  ·
   have ho:x.op=5:=by simpa using hc4
   refine Cr (V0 (Ym O) (V0 (Ym O) ?_))
   apply La 4 O O O O Y O O O O O
   ·
    intro hg15
    refine Vg (Yf fo104_4 O) (Vg (Yd 0 O O O na102) (Vg (Yn es102 O) (Vg (yl_eq O O) ?_)))
    exact Gt 4 O O O
   refine V0 (Ym O) ?_
   apply La 4 O O O O Y O O O O O
   ·
    intro hg16
    refine Vg (Yf fo104_6 O) (Vg (Yd 0 O O O na24) (Vg (Yn es24 O) (Vg (yl_eq O O) ?_)))
    exact Gt 4 O O O
   refine V0 (Ya O) (Ln (Eb ?_))
   exact Em _ (by (rw [act1,if_neg (show ¬x.op=1 by omega),if_neg (show ¬x.op=2 by omega),if_neg (show ¬x.op=3 by omega),if_neg (show ¬x.op=4 by omega),if_pos ho])<;>(try rw [←bare_sum])<;>(try rw [within_local])<;>(try rw [data_neg])<;>simp only [within,arrayB,Bool.and_assoc,Bool.and_comm,Bool.and_left_comm]) (sc O (sc O (sc O (sc O sn)))) (fun _ h=>by
     have h:=h.fronti 0 rfl
     have h:=h.fronti 1 rfl
     exact h)
  have hn5:¬x.op=5:=by simpa using hc4
  refine Cs (Cs (Cr (V0 (yl_eq O O) (V0 (Ya O) (Ln (Et ?_))))))
  refine Cc O (fun hc5=>?_) (fun hc5=>?_)
  ·
   have ho:x.op=6:=by simpa using hc5
   refine Ck (Et ?_)
   refine Cc O (fun hc6=>?_) (fun hc6=>?_)
   ·
    refine Cr (V0 (Ym O) (V0 (Ym O) ?_))
    apply La 1 O O O O Y O O O O O
    ·
     intro hg17
     refine Vg (Ym O) ?_
     exact Gt 1 O O O
    refine V0 (Ym O) ?_
    apply La 4 O O O O Y O O O O O
    ·
     intro hg18
     refine Vg (Yf fo104_4 O) (Vg (Yd 0 O O O na102) (Vg (Yn es102 O) (Vg (yl_eq O O) ?_)))
     exact Gt 4 O O O
    refine V0 (Ya O) (Ln (Eb ?_))
    exact Em _ (by (rw [act1,if_neg (show ¬x.op=1 by omega),if_neg (show ¬x.op=2 by omega),if_neg (show ¬x.op=3 by omega),if_neg (show ¬x.op=4 by omega),if_neg (show ¬x.op=5 by omega),if_pos (show x.op=6∨x.op=7 by omega)])<;>(try rw [←bare_sum])<;>(try rw [within_local])<;>(try rw [data_neg])<;>simp only [within,arrayB,Bool.and_assoc,Bool.and_comm,Bool.and_left_comm]) (sc O (sc O (sc O (sc O sn)))) (fun _ h=>by
      have h:=h.fronti 0 rfl
      have h:=h.fronti 1 rfl
      exact h)
   rw [show (x.op==6)=true by rw [ho]; rfl] at hc6; cases hc6
  have hn6:¬x.op=6:=by simpa using hc5
  refine Cr (V0 (yl_eq O O) (V0 (Ya O) (Ln (Et ?_))))
  refine Cc O (fun hc6=>?_) (fun hc6=>?_)
  ·
   have ho:x.op=7:=by simpa using hc6
   refine Cr (V0 (Ym O) (V0 (Ym O) ?_))
   apply La 1 O O O O Y O O O O O
   ·
    intro hg17
    refine Vg (Ym O) ?_
    exact Gt 1 O O O
   refine V0 (Ym O) ?_
   apply La 4 O O O O Y O O O O O
   ·
    intro hg18
    refine Vg (Yf fo104_4 O) (Vg (Yd 0 O O O na102) (Vg (Yn es102 O) (Vg (yl_eq O O) ?_)))
    exact Gt 4 O O O
   refine V0 (Ya O) (Ln (Eb ?_))
   exact Em _ (by (rw [act1,if_neg (show ¬x.op=1 by omega),if_neg (show ¬x.op=2 by omega),if_neg (show ¬x.op=3 by omega),if_neg (show ¬x.op=4 by omega),if_neg (show ¬x.op=5 by omega),if_pos (show x.op=6∨x.op=7 by omega)])<;>(try rw [←bare_sum])<;>(try rw [within_local])<;>(try rw [data_neg])<;>simp only [within,arrayB,Bool.and_assoc,Bool.and_comm,Bool.and_left_comm]) (sc O (sc O (sc O (sc O sn)))) (fun _ h=>by
     have h:=h.fronti 0 rfl
     have h:=h.fronti 1 rfl
     exact h)
  have hn7:¬x.op=7:=by simpa using hc6
  refine Ck (Eb ?_)
  exact Em _ (by rw [act1,if_neg (show ¬x.op=1 by omega),if_neg (show ¬x.op=2 by omega),if_neg (show ¬x.op=3 by omega),if_neg (show ¬x.op=4 by omega),if_neg (show ¬x.op=5 by omega),if_neg (show ¬(x.op=6∨x.op=7) by omega)]) (sc O (sc O (sc O (sc O sn)))) (fun _ h=>by
    have h:=h.fronti 0 rfl
    have h:=h.fronti 1 rfl
    exact h)
 intro bb hbb
 refine Cs (Cs (Cr (V0 (Ym O) (V0 (yl_not O) (V0 (Ym O) ?_)))))
 apply Lo 5 O O O O Y O O O O O
 ·
  intro hg19
  refine Vg (Yda 0 O O ag99 O) (Vg (Yf fo104_4 O) (Vg (Yd 1 O O O na102) ?_))
  refine Lp (.g O O O) O en92 O (fun w hw=>pnodesF_any HU H ke0 ku us ka kc nu al kn locs ke x.args r.s1.1 r.s1.2 1 w (hw.vs _ (by simp)) (hw.vs _ (by simp)) hus hpl hnu hlo (fun k2 _=>hN k2) h1 (by omega)) ?_
  refine Vg (yl_not O) ?_
  exact Gt 5 O O O
 refine Ln (Et ?_)
 refine Cc O (fun hc7=>?_) (fun hc7=>?_)
 ·
  rw [hbb] at hc7
  refine Cs (Cr (V0 (Ya O) (Ln (Et (Crt (Er ?_))))))
  refine R1 O O fun w' hw=>?_
  exact ⟨by rw [actK_no hc7],hw.fr⟩
 rw [hbb] at hc7
 refine Ck (Et (Cs (Cr (V0 (Yf fo104_0 O) (V0 (Yd 1 O O O na3) (V0 (yl_ne O O) (V0 (Ym O) ?_)))))))
 apply La 3 O O O O Y O O O O O
 ·
  intro hg20
  refine Vg (Yf fo104_0 O) (Vg (Yd 1 O O O na3) (Vg (yl_ne O O) ?_))
  exact Gt 3 O O O
 refine V0 (Ym O) ?_
 apply Lo 6 O O O O Y O O O O O
 ·
  intro hg21
  refine Vg (Yda 0 O O ag99 O) (Vg (Yf fo104_5 O) (Vg (Yd 1 O O O na24) (Vg (Ym O) ?_)))
  refine Vg (Yi O O O (by omega)) ?_
  refine Lp (.g O O O) O en46 O (fun w hw=>hA x.body r.s2.1 r.s2.2 (d+1) w (hw.vs _ (by simp)) (hw.vs _ (by simp)) h2 (by omega)) ?_
  exact Gt 6 O O O
 refine V0 (Ym O) ?_
 apply La 12 (x:=((x.other.length:Int)==0)||actsK kn locs x.other (d+1)) O O O O Y O O O O O
 ·
  intro hg22
  refine Vg (Yf fo104_6 O) (Vg (Yd 1 O O O na24) (Vg (Yn es24 O) (Vg (yl_eq O O) (Vg (Ym O) ?_))))
  apply Lo 6 O O O O (.g O O O) O O O O O
  ·
   intro hg23
   refine Vg (Yda 0 O O ag99 O) (Vg (Yf fo104_6 O) (Vg (Yd 1 O O O na24) (Vg (Ym O) ?_)))
   refine Vg (Yi O O O (by omega)) ?_
   refine Lp (.g O O O) O en46 O (fun w hw=>hA x.other r.s3.1 r.s3.2 (d+1) w (hw.vs _ (by simp)) (hw.vs _ (by simp)) h3 (by omega)) ?_
   exact Gt 6 O O O
  exact Gt 6 O O O
 refine V0 (Ya O) (Ln (Et (Crt ?_)))
 refine R1 O O fun w' hw=>?_
 exact ⟨by rw [←actK_yes hc7],hw.fr⟩
end Go.Proofs.YtpjekjnehiinnaaGreatDoor
end
section
namespace Go.Proofs.YtpjekjnehiinnaaGreatDoor
open Go.Bw
theorem en64:Enters Tryz.prog 64:=enters_of Tryz.func64 (by kernel_rfl) rfl
theorem pactsF_any (HU H:View) (ke0 ku:Nat) (us:List TUnit) (ka:Option Addr) (kc nu:Nat) (al:Bool) (kn:List KnW) (locs:Int) (ke k:Nat) (l:List TAct) (a:Option Addr) (c:Nat) (d:Nat) (w:World) (hHU:Le HU w) (hH:Le H w) (hus:Sl (rdU2 ke0 ku) 5 HU ka kc us) (hpl:PlOk us nu al kn) (hnu:nu≤1000) (hlo:0≤locs∧locs≤1000) (hl:Sl (RdA ke k) 7 H a c l) (hd:d≤7) :
   Calls Tryz.prog 46 #[.agg #[.slice ka us.length kc,.int .i64 (nu:Int),.int .i64 locs,.bool al],.slice a l.length c,.int .i64 (d:Int)] w fun e w'=>e = .returned (.bool (actsK kn locs l d))∧Ext w w':=by
 have hucap:=hus.cap
 have humax:=hus.max
 induction k using Nat.strongRecOn generalizing l a c d w
 rename_i k ih
 have hcap:=hl.cap
 have hmax:=hl.max
 refine enter Tryz.func46 O 29 O O ?_
 refine CWd (W':=Ws w [] [] [HU,H]) (fun _ e=>by subst e; exact Ws.init (by simp [hHU,hH])) ?_
 refine Cs (Cr ?_)
 refine WL.box Y O O fun b3=>?_
 refine V0 (Ya O) (Ln (Et (Cs (Cs (Cr (V0 (Ym O) (V0 (yl_gt O O) (V0 (Ym O) ?_))))))))
 apply Lo 3 O O O O Y O O O O O
 ·
  intro hg0
  refine Vg (Ym O) (Vg (Yn es24 O) (Vg (yl_gt O O) ?_))
  exact Gt 3 O O O
 refine Ln (Et ?_)
 refine Cc O (fun hc0=>?_) (fun hc0=>?_)
 ·
  refine Cs (Cr (V0 (Ya O) (Ln (Et (Crt (Er ?_))))))
  refine R1 O O fun w' hw=>?_
  exact ⟨by rw [actsC kn locs l d hc0],hw.fr⟩
 have hin:=actsC_in hc0
 refine Ck (Et (Cs (Cs (Cr (V0 (Ya O) (Ln (Et (Cb ?_))))))))
 refine CW (ι:=Nat) (fun i=>[(7,.int .i64 (i:Int))]) [(1,_),(2,_),(3,_)] (fun i=>i≤l.length∧(l.take i).all (actK kn locs · d)=true) (fun i=>l.length-i) 0 ⟨Nat.zero_le _,O⟩ (sc O (sc O (sc O (sc O sn)))) ?_
 intro i ⟨hi,hall⟩
 refine Cs (Cs (Cr (V0 (Ym O) (V0 (Ym O) (V0 (Yn es24 O) (V0 (yl_lt O O) (Ln (Et ?_))))))))
 refine Cc O (fun hc1=>?_) (fun hc1=>?_)
 ·
  have hlt:i<l.length:=by simpa using hc1
  obtain ⟨x,hxi⟩:∃q,l[i]? = some q:=⟨_,List.getElem?_eq_getElem hlt⟩
  obtain ⟨pbx,pox,hax,hrx⟩:=hl.elt i x hxi
  obtain ⟨k2,rfl⟩:∃k2,k=k2+1:=by
    cases k with
    | zero=>exact hrx.elim
    | succ k2=>exact ⟨k2,rfl⟩
  obtain ⟨r,hrow,hs1,hs2,hs3⟩:=hrx
  have hA:QActs HU H us ka kc nu al kn locs ke k2:=fun l a c d w g1 g2 g3 g4=>ih k2 (by omega) l a c d w g1 g2 g3 g4
  refine Ck (Et (Cs (Cb (Cs ?_))))
  refine WC.draws0 [(0,true),(1,true),(2,true),(3,true),(4,true),(5,true),(6,false),(7,true)] mixed (by kernel_rfl) (fun _ _ _ d _ h=>by cases d<;>exact h) ?_
  refine D0 O (fun _ h=>h) (Yda 0 O O ag99 O) (D0 O (fun _ h=>h) (Ym O) (D0 O (fun _ h=>h) (Ym O) (D0 O (fun _ h=>h) (Yo es24 O O hax hlt) (D0 O (fun _ h=>h) (yl_lda 1 ag104 O O O (hrow)) (D0 O (fun _ h=>h) (Ym O) ?_)))))
  refine De O (fun _ h=>h) ?_
  refine Lp Y O en64 O (fun w hw=>pactF_any HU H ke0 ku us ka kc nu al kn locs k2 x r d w (hw.vs _ (by simp)) (hw.vs _ (by simp)) hus hpl hnu hlo ke hA hs1 hs2 hs3 (by omega)) ?_
  refine Ln (Ed (D0 O (fun _ h=>h) (yl_not O) ?_))
  refine WD.nil (fun _ h=>h) ?_
  refine Et ?_
  refine Cc O (fun hc2=>?_) (fun hc2=>?_)
  ·
   have hx:actK kn locs x d=false:=by simpa using hc2
   refine Cs (Cr (V0 (Ya O) (Ln (Et (Crt (Ebr (Er (Er (Ebr (Er ?_))))))))))
   refine R1 O O fun w' hw=>?_
   exact ⟨by rw [actsK_at kn locs hin,all_hit hxi hx],hw.fr⟩
  have hx:actK kn locs x d=true:=by simpa using hc2
  refine Ck (Eb (Et (Cr (V0 (Ym O) ?_))))
  refine V0 (Yi O O O (by omega)) ?_
  refine V0 (Ya O) (Ln ?_)
  exact Ea (i+1) (by omega) ⟨by omega,all_take hxi hall hx⟩ (sc O (sc O (sc O (sc O sn)))) (fun _ h=>h)
 have hge:¬i<l.length:=by simpa using hc1
 rw [List.take_of_length_le (by omega)] at hall
 refine Ce (Ex (Ex (Ebh (Et (Cs (Cr (V0 (Ya O) (Ln (Et (Crt ?_))))))))))
 refine R1 O O fun w' hw=>?_
 exact ⟨by rw [actsK_at kn locs hin,hall],hw.fr⟩
end Go.Proofs.YtpjekjnehiinnaaGreatDoor
end
section
namespace Go.Proofs.YtpjekjnehiinnaaGreatDoor
open Go.Bw
abbrev XU:=TUnit×UAt
def XU.cells (e:XU):List Value:=unitV e.1 e.2
theorem XU.cells_len (e:XU):(XU.cells e).length=5:=rfl
theorem XU.one (e:XU):(XU.cells e).all (·.oneCell')=true:=rfl
def rdXU (H:View) (b o:Nat) (e:XU):Prop:=RdC H b o (XU.cells e)
def rdXUp (ke k:Nat) (H:View) (b o:Nat) (e:XU):Prop:=RdC H b o (XU.cells e)∧RdU ke k H e.2 e.1
theorem un_pairs {ke k:Nat} {H:View} {a:Option Addr} {c:Nat} {l:List TUnit} (h:Sl (rdU2 ke k) 5 H a c l):∃ys:List XU,ys.map (·.1)=l∧Sl (rdXUp ke k) 5 H a c ys:=by
 obtain ⟨ys,h1,h2⟩:=choices (β:=UAt) (p:=fun i x r=>∃b o,a=some ⟨b,o,none⟩∧RdC H b (o+i*5) (unitV x r)∧RdU ke k H r x) l 0 fun i x hx=>by
   obtain ⟨b,o,ha,r,hr,hm⟩:=h.elt i x hx
   exact ⟨r,b,o,ha,by rw [Nat.zero_add]; exact hr,hm⟩
 have hl:ys.length=l.length:=by rw [←h1,List.length_map]
 refine ⟨ys,h1,by rw [hl]; exact h.cap,h.max,h.spot,fun i y hy=>?_⟩
 obtain ⟨b,o,ha,hr,hm⟩:=h2 i y hy
 rw [Nat.zero_add] at hr
 exact ⟨b,o,ha,hr,hm⟩
theorem slU_of {ke k:Nat} {K N:View} {a:Option Addr} {c:Nat} {es:List XU} (h:Sl rdXU 5 K a c es) (hv:VLe K N) (he:∀e ∈ es,RdU ke k N e.2 e.1):Sl (rdU2 ke k) 5 N a c (es.map (·.1)):=by
 refine ⟨by rw [List.length_map]; exact h.cap,h.max,h.spot,fun i x hx=>?_⟩
 rw [List.getElem?_map] at hx
 obtain ⟨y,hy,rfl⟩:=Option.map_eq_some_iff.1 hx
 obtain ⟨b,o,ha,hr⟩:=h.elt i y hy
 exact ⟨b,o,ha,y.2,RdC.mono hv hr,he y (List.mem_of_getElem? hy)⟩
theorem head_two (u:TUnit):((((!(nameB u.nm)||decide (3<(u.uses.length:Int)))||twiceB ([u.nm]++u.uses))||!(within u.data 0 512))||decide (6<(u.parts.length:Int)))=(headC u||twiceB (u.nm::u.uses)):=by
 unfold headC within
 rw [show [u.nm]++u.uses=u.nm::u.uses from rfl,show (!(decide (0≤u.data)&&decide (u.data≤512)))=(decide (u.data<0)||decide (512<u.data)) by rw [Bool.eq_iff_iff]; simp<;>omega]
 generalize twiceB (u.nm::u.uses)=a
 generalize decide (3<(u.uses.length:Int))=b
 generalize decide (u.data<0)=c
 generalize decide (512<u.data)=d
 generalize decide (6<(u.parts.length:Int))=e
 cases nameB u.nm<;>cases a<;>cases b<;>cases c<;>cases d<;>cases e<;>rfl
theorem part_within (p q:Int):(!(within p 0 3)||!(within q 0 4))=(((decide (p<0)||decide (3<p))||decide (q<0))||decide (4<q)):=by
 unfold within
 rw [Bool.eq_iff_iff]
 simp
 omega
theorem fineU_no {u:TUnit} {kn:List KnW} (h:(headC u||twiceB (u.nm::u.uses))=true):fineU u kn=false:=by
 unfold fineU usesK
 rcases Bool.or_eq_true_iff.1 h with h | h<;>rw [h]<;>simp
theorem en45:Enters Tryz.prog 45:=enters_of Tryz.func45 (by kernel_rfl) rfl
theorem en36:Enters Tryz.prog 36:=enters_of Tryz.func36 (by kernel_rfl) rfl
theorem el38:EltOk Tryz.prog 38 26 (.agg #[st [],.slice none 0 0,.int .i64 0,.slice none 0 0,.slice none 0 0]) 5 96:=eltOk_of (by kernel_rfl)
theorem pl99:placesP Tryz.prog 99=some [(0,1),(1,1),(2,1),(3,1)]:=by kernel_rfl
theorem zr99:zeroOf Tryz.prog 99=some (.agg #[.slice none 0 0,.int .i64 0,.int .i64 0,.bool false]):=by kernel_rfl
theorem sz99:sizeP Tryz.prog 99=some 4:=by kernel_rfl
theorem unitFine_any (H HU:View) (ke k:Nat) (u:TUnit) (r:UAt) (us:List TUnit) (ua:Option Addr) (uc:Nat) (al:Bool) (kn:List KnW) (w:World) (hH:Le H w) (hHU:Le HU w) (hu:RdU ke k H r u) (hus:Sl (rdU2 ke k) 5 HU ua uc us) (hul:us.length≤1048576) (hpl:PlOk (u::us) u.uses.length al (knM u::kn)) :
   Calls Tryz.prog 26 #[.agg (unitV u r).toArray,.slice ua us.length uc,.bool al] w fun e w'=>e = .returned (.bool (fineU u kn))∧Ext w w':=by
 have hcap:=hu.uses.cap
 have hmax:=hu.uses.max
 have hpcap:=hu.parts.cap
 have hpmax:=hu.parts.max
 obtain ⟨ys,hys,hsp⟩:=un_pairs hus
 have hyl:ys.length=us.length:=by rw [←hys,List.length_map]
 have hkl:([((u,r):XU)]++ys).length=(u::us).length:=by simp [hyl]
 refine enter Tryz.func26 O 103 O O ?_
 refine CWd (W':=Ws w [] [] [H,HU]) (fun _ e=>by subst e; exact Ws.init (by simp [hH,hHU])) ?_
 refine Cs (Cr ?_)
 refine WL.box Y O O fun b3=>?_
 refine V0 (Ya O) (Ln (Et (Cs (Cs (Cr (V0 (Yf fo26_0 O) (V0 (Yd 0 O O O na9) ?_)))))))
 refine Lp Y O en45 O (fun w hw=>isName_any _ w) ?_
 refine V0 (yl_not O) (V0 (Ym O) ?_)
 apply Lo 4 O O O O Y O O O O O
 ·
  intro hg0
  refine Vg (Yf fo26_1 O) (Vg (Yd 0 O O O na22) (Vg (Yn es22 O) (Vg (yl_gt O O) ?_)))
  exact Gt 4 O O O
 refine V0 (Ym O) ?_
 apply Lo 7 O O O O Y O O O O O
 ·
  intro hg1
  have hu3:u.uses.length≤3:=by
    have h9:=(Bool.or_eq_false_iff.1 hg1).2
    simp at h9; omega
  refine Vg (Yf fo26_0 O) (Vg (Yd 0 O O O na9) ?_)
  refine Lb (.g O O O) O el22 O O O O fun b24=>?_
  refine Lrb 0 (.cells (([u.nm]).flatMap strC).toArray 9 (0,0)) O O ?_
  refine LW (fun _ h=>h.osT_blk (f:=strC) (xs:=[u.nm]) (c:=1) 0 O strC_len O (by decide)) ?_
  refine Vg (Yf fo26_1 O) (Vg (Yd 1 O O O na22) ?_)
  refine WL.appendL (f:=strC) (rd:=rdStr) (xs:=[u.nm]) (ys:=u.uses) 0 (fun _=>H) (.g O O O) O el22 O O O (fun w hw=>⟨hw.vs H (by simp),hu.uses⟩) (fun _ _ _ _ h=>h) strC_len (fun _=>rfl) (by simp; omega) (by simp; omega) fun a27 c27=>?_
  refine WL.oslview (rd:=rdStr) 0 O strC_len (fun _ _ _ _ h=>h) fun HT hHT=>?_
  refine Lp (.g O O O) O en36 O (fun w hw=>by
      have:=twice_any HT a27 c27 ([u.nm]++u.uses) w (hw.vs _ (by simp)) hHT
      exact this) ?_
  refine WL.wk ?_ (Gt 7 O O O)
  exact fun _ h=>Ws.drops (h) (fun _ hm=>List.mem_append_right [_] hm)
 refine V0 (Ym O) ?_
 apply Lo 4 O O O O Y O O O O O
 ·
  intro hg2
  refine Vg (Yf fo26_2 O) (Vg (Yd 0 O O O na3) ?_)
  refine Lp (.g O O O) O en34 O (fun w hw=>within_any _ _ _ w) ?_
  refine Vg (yl_not O) ?_
  exact Gt 4 O O O
 refine V0 (Ym O) ?_
 apply Lo 4 O O O O Y O O O O O
 ·
  intro hg3
  refine Vg (Yf fo26_3 O) (Vg (Yd 0 O O O na23) (Vg (Yn es23 O) (Vg (yl_gt O O) ?_)))
  exact Gt 4 O O O
 refine Ln (Et ?_)
 rw [head_two]
 refine Cc O (fun hc0=>?_) (fun hc0=>?_)
 ·
  refine Cs (Cr (V0 (Ya O) (Ln (Et (Crt (Er ?_))))))
  refine R1 O O fun w' hw=>?_
  exact ⟨by rw [fineU_no hc0],hw.fr⟩
 obtain ⟨hhd,h2⟩:=Bool.or_eq_false_iff.1 hc0
 obtain ⟨hp6,hu3,hd0,hd1⟩:=head_parts hhd
 refine Ck (Et (Cs (Cs (Cr (V0 (Ya O) (Ln (Et (Cb ?_))))))))
 refine CLk (ι:=Nat) (fun i=>[(7,.int .i64 (i:Int))]) [(1,_),(2,_),(3,_)] (fun i=>Ws w [] [blk b3 (.cells (unitV u r).toArray 26 (0,0))] [H,HU]) (fun i=>i≤u.uses.length∧(u.uses.take i).all nameB=true) (fun i=>u.uses.length-i) 0 ⟨Nat.zero_le _,O⟩ (sc O (sc O (sc O (sc O sn)))) (fun _ h=>h) ?_
 intro i ⟨hi,hall⟩
 refine Cs (Cs (Cr (V0 (Ym O) (V0 (Yf fo26_1 O) (V0 (Yd 0 O O O na22) (V0 (Yn es22 O) (V0 (yl_lt O O) ?_)))))))
 refine Ln (Et ?_)
 refine Cc O (fun hc1=>?_) (fun hc1=>?_)
 ·
  have hlt:i<u.uses.length:=by simpa using hc1
  obtain ⟨s,hsi⟩:∃q,u.uses[i]? = some q:=⟨_,List.getElem?_eq_getElem hlt⟩
  obtain ⟨pbs,pos,has,hrs⟩:=hu.uses.elt i s hsi
  have hrs:RdC H pbs (pos+i*1) (strC s):=hrs
  refine Ck (Et (Cs (Cb (Cs (Cr (V0 (Yf fo26_1 O) (V0 (Yd 0 O O O na22) (V0 (Ym O) (V0 (Yo es22 O O has hlt) (V0 (yl_ld 0 na9 O O (hrs 0 _ O)) ?_))))))))))
  refine Lp Y O en45 O (fun w hw=>isName_any _ w) ?_
  refine V0 (yl_not O) (Ln (Et ?_))
  refine Cc O (fun hc2=>?_) (fun hc2=>?_)
  ·
   have hn:nameB s=false:=by simpa using hc2
   refine Cs (Cr (V0 (Ya O) (Ln (Et (Crt (Ebr (Er (Er (Ebr (Er ?_))))))))))
   refine R1 O O fun w' hw=>?_
   exact ⟨by rw [fineU,usesK,all_hit hsi hn]; simp,hw.fr⟩
  have hn:nameB s=true:=by simpa using hc2
  refine Ck (Eb (Et (Cr (V0 (Ym O) ?_))))
  refine V0 (Yi O O O (by omega)) ?_
  refine V0 (Ya O) (Ln ?_)
  exact Ea (i+1) (by omega) ⟨by omega,all_take hsi hall hn⟩ (sc O (sc O (sc O (sc O sn)))) (fun _ h=>h)
 have hge:i=u.uses.length:=by simp at hc1; omega
 rw [hge,List.take_length] at hall
 have hUK:usesK u.nm u.uses=true:=by unfold usesK; rw [h2,hall]; rfl
 refine Ce (Ex (Ex (Ebh (Et ?_))))
 refine WC.cutE (ι:=SP×Nat) (fun q0=>[(3,.pointer (some ⟨b3,0,none⟩)),(8,.pointer (some ⟨q0.2,0,none⟩))]) (fun q0=>Ws w [] [blk q0.2 (.cells #[.slice q0.1.1 (u::us).length q0.1.2,.int .i64 (u.uses.length:Int),.int .i64 0,.bool al] 99 (0,0)),osT 26 5 XU.cells q0.1.1 q0.1.2 ([((u,r):XU)]++ys),blk b3 (.cells (unitV u r).toArray 26 (0,0))] [H,HU]) (fun q0=>True) ?_ ?_
 ·
  refine CU (fun _=>true) [] [10] (.q true 0 (.q false 2 (.q false 4 (.q true 5 (.q false 6 (.q false 7 (.e 1 (.e 3 (.q false 8 (.e 9 .nil .stop)) (.e 9 (.e 3 (.q false 8 .nil) .stop) .stop)) (.e 9 (.e 1 (.e 3 (.q false 8 .nil) .stop) .stop) .stop)))))))) mixed (by kernel_rfl) (fun _ _ _ d _ _ h=>by cases d<;>exact h) ?_
  refine U0 O (fun _ h=>h) (Yda 0 O O ag26 O) (U0 O (fun _ h=>h) (Ym O) (U0 O (fun _ h=>h) (Yf fo26_1 O) (U0 O (fun _ h=>h) (Yd 0 O O O na22) (U0 O (fun _ h=>h) (Yn es22 O) (U0 O (fun _ h=>h) (Ym O) ?_)))))
  refine Ue O (fun _ h=>h) ?_ ?_
  ·
   refine Lb Y O el38 O O O O fun b57=>?_
   refine Lrb 0 (.cells (([((u,r):XU)]).flatMap XU.cells).toArray 26 (0,0)) O O ?_
   refine LW (fun _ h=>h.osT_blk (f:=XU.cells) (xs:=[((u,r):XU)]) (c:=1) 0 O XU.cells_len O (by decide)) ?_
   refine Ln (Eu ?_)
   refine Ue O (fun _ h=>(Wd 1 h:)) ?_ ?_
   ·
    refine WL.appendL (f:=XU.cells) (rd:=rdXUp ke k) (xs:=[((u,r):XU)]) (ys:=ys) 0 (fun _=>HU) Y O el38 O (by show some (Value.slice ua us.length uc)=_; rw [←hyl]) O (fun w hw=>⟨hw.vs HU (by simp),hsp⟩) (fun _ _ _ _ h=>h.1) XU.cells_len XU.one (by simp; omega) (by simp; omega) fun a59 c59=>?_
    refine Ln (Eu (U0 O (fun _ h=>(Wd 1 h:)) (Yb zr99 pl99 O O) ?_))
    refine Ue O (fun _ h=>(Wd 1 h:)) ?_ WU.stop
    refine Al Y O zr99 fun b8=>?_
    refine Ln (Eu ?_)
    refine WU.nil (fun _ h=>(Wd 2 h:)) ?_
    refine WS.e O ?_
    refine Lst 0 Y O O O sz99 O O O (Ln (Es ?_))
    refine WS.nil ?_
    refine WE.reblk 0 (.cells #[.slice a59 (u::us).length c59,.int .i64 (u.uses.length:Int),.int .i64 0,.bool al] 99 (0,0)) O (congrArg (fun n=>Obj.cells #[.slice a59 n c59,.int .i64 (u.uses.length:Int),.int .i64 0,.bool al] 99 (0,0)) hkl) ?_
    exact Em ((a59,c59),b8) trivial (sc O (sc O sn)) (fun _ h=>by
      have h:=h.fronti 2 rfl
      have h:=h.fronti 2 rfl
      have h:=h.fronti 2 rfl
      exact h)
   refine Ue O (fun _ h=>(Wd 1 h:)) ?_ WU.stop
   refine Al Y O zr99 fun b8=>?_
   refine Ln (Eu ?_)
   refine Ue O (fun _ h=>(Wd 2 h:)) ?_ WU.stop
   refine WL.appendL (f:=XU.cells) (rd:=rdXUp ke k) (xs:=[((u,r):XU)]) (ys:=ys) 1 (fun _=>HU) Y O el38 O (by show some (Value.slice ua us.length uc)=_; rw [←hyl]) O (fun w hw=>⟨hw.vs HU (by simp),hsp⟩) (fun _ _ _ _ h=>h.1) XU.cells_len XU.one (by simp; omega) (by simp; omega) fun a59 c59=>?_
   refine Ln (Eu (U0 O (fun _ h=>(Wd 2 h:)) (Yb zr99 pl99 O O) ?_))
   refine WU.nil (fun _ h=>(Wd 2 h:)) ?_
   refine WS.e O ?_
   refine Lst 0 Y O O O sz99 O O O (Ln (Es ?_))
   refine WS.nil ?_
   refine WE.reblk 0 (.cells #[.slice a59 (u::us).length c59,.int .i64 (u.uses.length:Int),.int .i64 0,.bool al] 99 (0,0)) O (congrArg (fun n=>Obj.cells #[.slice a59 n c59,.int .i64 (u.uses.length:Int),.int .i64 0,.bool al] 99 (0,0)) hkl) ?_
   exact Em ((a59,c59),b8) trivial (sc O (sc O sn)) (fun _ h=>by
     have h:=h.fronti 2 rfl
     have h:=h.fronti 2 rfl
     have h:=h.fronti 2 rfl
     exact h)
  refine Ue O (fun _ h=>h) ?_ WU.stop
  refine Al Y O zr99 fun b8=>?_
  refine Ln (Eu ?_)
  refine Ue O (fun _ h=>(Wd 1 h:)) ?_ WU.stop
  refine Lb Y O el38 O O O O fun b57=>?_
  refine Lrb 0 (.cells (([((u,r):XU)]).flatMap XU.cells).toArray 26 (0,0)) O O ?_
  refine LW (fun _ h=>h.osT_blk (f:=XU.cells) (xs:=[((u,r):XU)]) (c:=1) 0 O XU.cells_len O (by decide)) ?_
  refine Ln (Eu ?_)
  refine Ue O (fun _ h=>(Wd 2 h:)) ?_ WU.stop
  refine WL.appendL (f:=XU.cells) (rd:=rdXUp ke k) (xs:=[((u,r):XU)]) (ys:=ys) 0 (fun _=>HU) Y O el38 O (by show some (Value.slice ua us.length uc)=_; rw [←hyl]) O (fun w hw=>⟨hw.vs HU (by simp),hsp⟩) (fun _ _ _ _ h=>h.1) XU.cells_len XU.one (by simp; omega) (by simp; omega) fun a59 c59=>?_
  refine Ln (Eu (U0 O (fun _ h=>(Wd 2 h:)) (Yb zr99 pl99 O O) ?_))
  refine WU.nil (fun _ h=>(Wd 2 h:)) ?_
  refine WS.e O ?_
  refine Lst 1 Y O O O sz99 O O O (Ln (Es ?_))
  refine WS.nil ?_
  refine WE.reblk 1 (.cells #[.slice a59 (u::us).length c59,.int .i64 (u.uses.length:Int),.int .i64 0,.bool al] 99 (0,0)) O (congrArg (fun n=>Obj.cells #[.slice a59 n c59,.int .i64 (u.uses.length:Int),.int .i64 0,.bool al] 99 (0,0)) hkl) ?_
  exact Em ((a59,c59),b8) trivial (sc O (sc O sn)) (fun _ h=>by
    have h:=h.fronti 2 rfl
    have h:=h.fronti 1 rfl
    have h:=h.fronti 2 rfl
    exact h)
 intro ⟨⟨a59,c59⟩,b8⟩ _
 refine Cs (Cs ?_)
 refine WC.oslview (rd:=rdXU) 1 O XU.cells_len (fun _ _ _ _ h=>h) fun K hK=>?_
 have hkk:∀w,Le K w→Le H w→Le HU w→Sl (rdU2 ke k) 5 (hv w) a59 c59 (u::us):=fun w g1 g2 g3=>by
     have h9:=slU_of (ke:=ke) (k:=k) hK (hv_of g1) fun e he=>by
       rcases List.mem_append.1 he with he | he
       · rw [List.mem_singleton] at he; subst he; exact hu.mv (hv_of g2)
       · obtain ⟨q,hq⟩:=List.getElem?_of_mem he
         obtain ⟨_,_,_,_,h⟩:=hsp.elt q e hq
         exact h.mv (hv_of g3)
     rw [List.map_append,hys] at h9
     exact h9
 refine Cr (V0 (Ya O) (Ln (Et (Cb ?_))))
 refine CLk (ι:=Nat×Int) (fun g=>[(9,.int .i64 (g.1:Int))]) [(3,_),(8,_)] (fun g=>Ws w [] [blk b8 (.cells #[.slice a59 (u::us).length c59,.int .i64 (u.uses.length:Int),.int .i64 g.2,.bool al] 99 (0,0)),blk b3 (.cells (unitV u r).toArray 26 (0,0))] [K,H,HU]) (fun g=>g.1≤u.parts.length∧(u.parts.take g.1).all (partOk (knM u::kn))=true) (fun g=>u.parts.length-g.1) (0,0) ⟨Nat.zero_le _,O⟩ (sc O (sc O (sc O sn))) (fun _ h=>h) ?_
 intro g ⟨hgi,hallp⟩
 refine Cs (Cs (Cr (V0 (Ym O) (V0 (Yf fo26_3 O) (V0 (Yd 1 O O O na23) (V0 (Yn es23 O) (V0 (yl_lt O O) ?_)))))))
 refine Ln (Et ?_)
 refine Cc O (fun hc3=>?_) (fun hc3=>?_)
 ·
  have hlt:g.1<u.parts.length:=by simpa using hc3
  obtain ⟨x,hxi⟩:∃q,u.parts[g.1]? = some q:=⟨_,List.getElem?_eq_getElem hlt⟩
  obtain ⟨pbx,pox,hax,hrx⟩:=hu.parts.elt g.1 x hxi
  obtain ⟨xr,hrow,hsub⟩:=hrx
  refine Ck (Et (Cs (Cb (Cs (Cr (V0 (Yf fo26_3 O) (V0 (Yd 1 O O O na23) (V0 (Ym O) (V0 (Yo es23 O O hax hlt) (V0 (yl_lda 1 ag63 O O O (hrow)) ?_))))))))))
  refine Al Y O zr63 fun b10=>?_
  refine Lst 0 Y O O O sz63 O O O (Ln (Et (Cs (Cs ?_))))
  refine Crb 0 (.cells (partV x xr).toArray 63 (0,0)) O O ?_
  refine Cr (V0 (Yf fo63_0 O) (V0 (Yd 0 O O O na3) ?_))
  refine Lp Y O en34 O (fun w hw=>within_any _ _ _ w) ?_
  refine V0 (yl_not O) (V0 (Ym O) ?_)
  apply Lo 4 O O O O Y O O O O O
  ·
   intro hg4
   refine Vg (Yf fo63_1 O) (Vg (Yd 0 O O O na3) ?_)
   refine Lp (.g O O O) O en34 O (fun w hw=>within_any _ _ _ w) ?_
   refine Vg (yl_not O) ?_
   exact Gt 4 O O O
  refine Ln (Et ?_)
  rw [part_within]
  refine Cc O (fun hc4=>?_) (fun hc4=>?_)
  ·
   have hx:partOk (knM u::kn) x=false:=partOk_no hc4
   refine Cs (Cr (V0 (Ya O) (Ln (Et (Crt (Er (Ebr (Er (Er (Ebr (Er ?_)))))))))))
   refine R1 O O fun w' hw=>?_
   exact ⟨by rw [fineU,all_hit hxi hx]; simp,hw.fr⟩
  have hpx:=partOk_in (kn:=(knM u::kn)) hc4
  have hpb:0≤x.params∧x.params≤3∧0≤x.locals∧x.locals≤4:=by
    simp only [Bool.or_eq_false_iff,decide_eq_false_iff_not] at hc4; omega
  refine Ck (Et (Cs (Cr (V0 (Yf fo63_0 O) (V0 (Yd 0 O O O na3) (V0 (Yf fo63_1 O) (V0 (Yd 0 O O O na3) ?_)))))))
  refine V0 (yl_add O O (by omega)) ?_
  refine V0 (Yf fo99_2 O) (Lst 1 Y O O O sz3 O O O (Ln (Et (Cs ?_))))
  refine Crb 1 (.cells #[.slice a59 (u::us).length c59,.int .i64 (u.uses.length:Int),.int .i64 (x.params+x.locals),.bool al] 99 (0,0)) O O ?_
  refine Cr (V0 (Yda 1 O O ag99 O) (V0 (Yf fo63_2 O) (V0 (Yd 0 O O O na24) ?_)))
  refine Lp Y O en46 O (fun w hw=>pactsF_any (hv w) H ke k (u::us) a59 c59 u.uses.length al (knM u::kn) (x.params+x.locals) ke k x.body xr.1 xr.2 1 w (hv_le w) (hw.vs _ (by simp)) (hkk w (hw.vs _ (by simp)) (hw.vs _ (by simp)) (hw.vs _ (by simp))) hpl (by omega) (by omega) hsub (by omega)) ?_
  refine V0 (yl_not O) (Ln (Et ?_))
  refine Cc O (fun hc5=>?_) (fun hc5=>?_)
  ·
   have hx:partOk (knM u::kn) x=false:=by rw [hpx]; simpa using hc5
   refine Cs (Cr (V0 (Ya O) (Ln (Et (Crt (Ebr (Er (Er (Ebr (Er ?_))))))))))
   refine R1 O O fun w' hw=>?_
   exact ⟨by rw [fineU,all_hit hxi hx]; simp,hw.fr⟩
  have hx:partOk (knM u::kn) x=true:=by rw [hpx]; simpa using hc5
  refine Ck (Eb (Et (Cr (V0 (Ym O) ?_))))
  refine V0 (Yi O O O (by omega)) ?_
  refine V0 (Ya O) (Ln ?_)
  exact Ea ((g.1+1,x.params+x.locals):Nat×Int) (by show _-(g.1+1)<_; omega) ⟨(by show g.1+1≤_; omega),all_take hxi hallp hx⟩ (sc O (sc O (sc O sn))) (fun _ h=>Wd 1 h)
 have hge3:¬g.1<u.parts.length:=by simpa using hc3
 rw [List.take_of_length_le (by omega)] at hallp
 refine Ce (Ex (Ex (Ebh (Et (Cs (Cr (V0 (Yf fo99_2 O) (Lst 0 Y O O O sz3 O O O (Ln (Et (Cs ?_)))))))))))
 refine Crb 0 (.cells #[.slice a59 (u::us).length c59,.int .i64 (u.uses.length:Int),.int .i64 0,.bool al] 99 (0,0)) O O ?_
 refine Cr (V0 (Yda 0 O O ag99 O) (V0 (Yf fo26_4 O) (V0 (Yd 1 O O O na24) ?_)))
 refine Lp Y O en46 O (fun w hw=>pactsF_any (hv w) H ke k (u::us) a59 c59 u.uses.length al (knM u::kn) 0 ke k u.main r.s3.1 r.s3.2 1 w (hv_le w) (hw.vs _ (by simp)) (hkk w (hw.vs _ (by simp)) (hw.vs _ (by simp)) (hw.vs _ (by simp))) hpl (by omega) (by omega) hu.main (by omega)) ?_
 refine V0 (Ya O) (Ln (Et (Crt ?_)))
 refine R1 O O fun w' hw=>?_
 exact ⟨by rw [fineU,hUK,hhd,hallp]; rfl,hw.fr⟩
end Go.Proofs.YtpjekjnehiinnaaGreatDoor
end
section
namespace Go.Proofs.YtpjekjnehiinnaaGreatDoor
open Go.Bw
theorem en26:Enters Tryz.prog 26:=enters_of Tryz.func26 (by kernel_rfl) rfl
end Go.Proofs.YtpjekjnehiinnaaGreatDoor
end
section
namespace Go.Proofs.YtpjekjnehiinnaaGreatDoor
open Go.Bw
abbrev progU:List TUnit:=[(resolveM cntM []).1,(resolveM topM fsC).1]
theorem en21:Enters Tryz.prog 21:=enters_of Tryz.func21 (by kernel_rfl) rfl
theorem en49:Enters Tryz.prog 49:=enters_of Tryz.func49 (by kernel_rfl) rfl
theorem en48:Enters Tryz.prog 48:=enters_of Tryz.func48 (by kernel_rfl) rfl
theorem en51:Enters Tryz.prog 51:=enters_of Tryz.func51 (by kernel_rfl) rfl
theorem en50:Enters Tryz.prog 50:=enters_of Tryz.func50 (by kernel_rfl) rfl
theorem en52:Enters Tryz.prog 52:=enters_of Tryz.func52 (by kernel_rfl) rfl
theorem el120:EltOk Tryz.prog 120 118 (.agg #[st [],.slice none 0 0]) 2 40:=eltOk_of (by kernel_rfl)
theorem program_any (G:View) (w:World) (hG:Le G w) (hz:Laid G) :
   Calls Tryz.prog 29 #[] w fun e w'=>∃q:SP,e = .returned (.slice q.1 2 q.2)∧Ext w w'∧Sl (rdU2 8 7) 5 (nv w w') q.1 q.2 progU:=by
 refine enter Tryz.func29 O 27 O O ?_
 refine CWd (W':=Ws w [] [] [G]) (fun _ e=>by subst e; exact Ws.init (by simp [hG])) ?_
 refine Cs (Cr (V0 (Ya O) (Ln (Et (Cs (Cr ?_))))))
 refine Ld Y O en49 O (fun r:MAt=>.agg (modV cntM r).toArray) (fun H r=>RdM 7 6 H r cntM) (fun w hw=>counter_any w) ?_
 intro F8 r8 hf8 h8
 refine Ld Y O en48 O (fun r:UAt=>.tuple #[.agg (unitV (resolveM cntM []).1 r).toArray,.int .i64 (resolveM cntM []).2]) (fun F r=>RdU (7+1) (6+1) F r (resolveM cntM []).1) (fun w hw=>by
     skip
     exact resolve_any F8 F8 7 6 r8 cntM none 0 [] w (hw.vs _ (by simp)) (hw.vs _ (by simp)) h8 Sl.nil cnt_w) ?_
 intro F9 r9 hf9 h9
 refine V0 (Ym O) (V0 (Yx O O) (V0 (Yx O O) ?_))
 refine Al Y O zr26 fun b1=>?_
 refine Lst 0 Y O O O sz26 O O O (V0 (Ya O) (Ln (Et (Cs (Cr ?_)))))
 refine Lp Y O en51 O (fun w hw=>topText_any w) ?_
 refine Ld Y O en50 O (fun r:MAt=>.tuple #[.agg (modV (topM) r).toArray,.int .i64 ((parseM topS).2)]) (fun H r=>RdM 7 6 H r (topM)) (fun w hw=>by
     have:=treeParse_any G (topS) w (hw.vs _ (by simp)) hz
     exact this) ?_
 intro F14 r14 hf14 h14
 refine V0 (Ym O) (V0 (Yx O O) (V0 (Yx O O) ?_))
 refine Al Y O zr111 fun b3=>?_
 refine Lst 0 Y O O O sz111 O O O (V0 (Ya O) (Ln (Et (Cs ?_))))
 refine WC.drawt0 (.q 0 (.e 1 (.e 2 (.e 3 (.q 4 (.q 5 (.q 6 (.e 7 (.e 8 (.e 9 .nil .stop) .stop) .stop)))) (.e 7 (.e 3 (.q 4 (.q 5 (.q 6 (.e 8 (.e 9 .nil .stop) .stop)))) .stop) .stop)) (.e 7 (.e 2 (.e 3 (.q 4 (.q 5 (.q 6 (.e 8 (.e 9 .nil .stop) .stop)))) .stop) .stop) .stop)) (.e 7 (.e 1 (.e 2 (.e 3 (.q 4 (.q 5 (.q 6 (.e 8 (.e 9 .nil .stop) .stop)))) .stop) .stop) .stop) .stop))) mixed (by kernel_rfl) (fun _ _ _ d _ h=>by cases d<;>exact h) ?_
 refine WT.q O Y O (fun _ h=>h) (Yda 0 O O ag111 O) ?_
 refine WT.e O (fun _ h=>h) ?_ ?_
 ·
  refine Ld Y O en52 O (fun r:SP=>.agg #[st cntN,.slice r.1 cntI.length r.2]) (fun F r=>Sl rdItem 4 F r.1 r.2 cntI) (fun w hw=>counted_any w) ?_
  intro F19 r19 hf19 h19
  refine Ln (Ett ?_)
  refine WT.e O (fun _ h=>(Wv 1 h:)) ?_ ?_
  ·
   refine Lb Y O el120 O O O O fun b20=>?_
   refine Ln (Ett ?_)
   refine WT.e O (fun _ h=>(Wv 1 (Wd 1 h):)) ?_ ?_
   ·
    refine Ld Y O en48 O (fun r:UAt=>.tuple #[.agg (unitV (resolveM topM fsC).1 r).toArray,.int .i64 (resolveM topM fsC).2]) (fun F r=>RdU (7+1) (6+1) F r (resolveM topM fsC).1) (fun w hw=>by
        have hfc:Sl rdFace 2 (hv w) (some ⟨b20,0,none⟩) 1 fsC:=⟨by decide,by decide,by simp,fun j x hj=>⟨b20,0,rfl,by
          match j,hj with
          | 0,hj=>simp only [fsC,List.getElem?_cons_zero,Option.some.injEq] at hj; subst hj; exact ⟨r19,fun k v hk=>by
              match k,hk with
              | 0,hk=>simp [faceV] at hk; subst hk; exact hw.hvb 0 rfl rfl
              | 1,hk=>simp [faceV] at hk; subst hk; exact hw.hvb 0 rfl rfl,slItem_mv (hv_of (hw.vs F19 (by simp))) h19⟩⟩⟩
        exact resolve_any F14 (hv w) 7 6 r14 topM (some ⟨b20,0,none⟩) 1 fsC w (hw.vs _ (by simp)) (hv_le w) h14 hfc (by have:=parseM_w topS; show wM (parseM topS).1≤_; omega)) ?_
    intro F21 r21 hf21 h21
    refine Ln (Ett ?_)
    refine WT.q O Y O (fun _ h=>(Wv 2 (Wd 1 h):)) (Ym O) ?_
    refine WT.q O Y O (fun _ h=>(Wv 2 (Wd 1 h):)) (Yx O O) ?_
    refine WT.q O Y O (fun _ h=>(Wv 2 (Wd 1 h):)) (Yx O O) ?_
    refine WT.e O (fun _ h=>(Wv 2 (Wd 1 h):)) ?_ WT.stop
    refine Al Y O zr26 fun b5=>?_
    refine Ln (Ett ?_)
    refine WT.e O (fun _ h=>(Wv 2 (Wd 2 h):)) ?_ WT.stop
    refine Lst 0 Y O O O sz26 O O O (Ln (Ett ?_))
    refine WT.e O (fun _ h=>(Wv 2 (Wd 2 h):)) ?_ WT.stop
    refine V0 (Ya O) (Ln (Ett ?_))
    refine WT.nil (fun _ h=>(Wv 2 (Wd 2 h):)) ?_
    refine Et (Cs ?_)
    obtain ⟨cu,hcu⟩:∃c,c=(resolveM cntM []).1:=⟨_,rfl⟩
    obtain ⟨tu,htu⟩:∃c,c=(resolveM topM fsC).1:=⟨_,rfl⟩
    rw [←hcu,←htu]
    rw [←hcu] at h9
    rw [←htu] at h21
    refine Cr (V0 (Yda 3 O O ag26 O) (V0 (Yda 0 O O ag26 O) ?_))
    refine Lb Y O el38 O O O O fun b26=>?_
    refine Lrb 0 (.cells ((([(cu,r9),(tu,r21)]:List XU)).flatMap XU.cells).toArray 26 (0,0)) O O ?_
    refine LW (fun _ h=>h.osT_blk (f:=XU.cells) (xs:=([(cu,r9),(tu,r21)]:List XU)) (c:=2) 0 O XU.cells_len O (by decide)) ?_
    refine V0 (Ya O) (Ln (Et (Crt ?_)))
    refine R1 O O fun w' hw=>?_
    have h9u:=h9
    refine ⟨(some ⟨b26,0,none⟩,2),O,hw.fr,?_⟩
    show Sl _ _ _ _ _ [(resolveM cntM []).1,(resolveM topM fsC).1]
    rw [←hcu,←htu]
    have h9:=hw.slT (rd:=rdXU) 0 rfl XU.cells_len (fun _ _ _ _ h=>h)
    exact slU_of (es:=[(cu,r9),(tu,r21)]) h9 (fun _ _ h=>h) fun e he=>by
      simp only [List.mem_cons,List.not_mem_nil,or_false] at he
      rcases he with rfl | rfl
      · exact h9u.mv (nv_vs hw (by simp) hf9)
      · exact h21.mv (nv_vs hw (by simp) hf21)
   refine WT.e O (fun _ h=>(Wv 1 (Wd 1 h):)) ?_ WT.stop
   refine Al Y O zr26 fun b5=>?_
   refine Ln (Ett ?_)
   refine WT.e O (fun _ h=>(Wv 1 (Wd 2 h):)) ?_ WT.stop
   refine Ld Y O en48 O (fun r:UAt=>.tuple #[.agg (unitV (resolveM topM fsC).1 r).toArray,.int .i64 (resolveM topM fsC).2]) (fun F r=>RdU (7+1) (6+1) F r (resolveM topM fsC).1) (fun w hw=>by
       have hfc:Sl rdFace 2 (hv w) (some ⟨b20,0,none⟩) 1 fsC:=⟨by decide,by decide,by simp,fun j x hj=>⟨b20,0,rfl,by
         match j,hj with
         | 0,hj=>simp only [fsC,List.getElem?_cons_zero,Option.some.injEq] at hj; subst hj; exact ⟨r19,fun k v hk=>by
             match k,hk with
             | 0,hk=>simp [faceV] at hk; subst hk; exact hw.hvb 1 rfl rfl
             | 1,hk=>simp [faceV] at hk; subst hk; exact hw.hvb 1 rfl rfl,slItem_mv (hv_of (hw.vs F19 (by simp))) h19⟩⟩⟩
       exact resolve_any F14 (hv w) 7 6 r14 topM (some ⟨b20,0,none⟩) 1 fsC w (hw.vs _ (by simp)) (hv_le w) h14 hfc (by have:=parseM_w topS; show wM (parseM topS).1≤_; omega)) ?_
   intro F21 r21 hf21 h21
   refine Ln (Ett ?_)
   refine WT.q O Y O (fun _ h=>(Wv 2 (Wd 2 h):)) (Ym O) ?_
   refine WT.q O Y O (fun _ h=>(Wv 2 (Wd 2 h):)) (Yx O O) ?_
   refine WT.q O Y O (fun _ h=>(Wv 2 (Wd 2 h):)) (Yx O O) ?_
   refine WT.e O (fun _ h=>(Wv 2 (Wd 2 h):)) ?_ WT.stop
   refine Lst 0 Y O O O sz26 O O O (Ln (Ett ?_))
   refine WT.e O (fun _ h=>(Wv 2 (Wd 2 h):)) ?_ WT.stop
   refine V0 (Ya O) (Ln (Ett ?_))
   refine WT.nil (fun _ h=>(Wv 2 (Wd 2 h):)) ?_
   refine Et (Cs ?_)
   obtain ⟨cu,hcu⟩:∃c,c=(resolveM cntM []).1:=⟨_,rfl⟩
   obtain ⟨tu,htu⟩:∃c,c=(resolveM topM fsC).1:=⟨_,rfl⟩
   rw [←hcu,←htu]
   rw [←hcu] at h9
   rw [←htu] at h21
   refine Cr (V0 (Yda 3 O O ag26 O) (V0 (Yda 0 O O ag26 O) ?_))
   refine Lb Y O el38 O O O O fun b26=>?_
   refine Lrb 0 (.cells ((([(cu,r9),(tu,r21)]:List XU)).flatMap XU.cells).toArray 26 (0,0)) O O ?_
   refine LW (fun _ h=>h.osT_blk (f:=XU.cells) (xs:=([(cu,r9),(tu,r21)]:List XU)) (c:=2) 0 O XU.cells_len O (by decide)) ?_
   refine V0 (Ya O) (Ln (Et (Crt ?_)))
   refine R1 O O fun w' hw=>?_
   have h9u:=h9
   refine ⟨(some ⟨b26,0,none⟩,2),O,hw.fr,?_⟩
   show Sl _ _ _ _ _ [(resolveM cntM []).1,(resolveM topM fsC).1]
   rw [←hcu,←htu]
   have h9:=hw.slT (rd:=rdXU) 0 rfl XU.cells_len (fun _ _ _ _ h=>h)
   exact slU_of (es:=[(cu,r9),(tu,r21)]) h9 (fun _ _ h=>h) fun e he=>by
     simp only [List.mem_cons,List.not_mem_nil,or_false] at he
     rcases he with rfl | rfl
     · exact h9u.mv (nv_vs hw (by simp) hf9)
     · exact h21.mv (nv_vs hw (by simp) hf21)
  refine WT.e O (fun _ h=>(Wv 1 h:)) ?_ WT.stop
  refine Al Y O zr26 fun b5=>?_
  refine Ln (Ett ?_)
  refine WT.e O (fun _ h=>(Wv 1 (Wd 1 h):)) ?_ WT.stop
  refine Lb Y O el120 O O O O fun b20=>?_
  refine Ln (Ett ?_)
  refine WT.e O (fun _ h=>(Wv 1 (Wd 2 h):)) ?_ WT.stop
  refine Ld Y O en48 O (fun r:UAt=>.tuple #[.agg (unitV (resolveM topM fsC).1 r).toArray,.int .i64 (resolveM topM fsC).2]) (fun F r=>RdU (7+1) (6+1) F r (resolveM topM fsC).1) (fun w hw=>by
      have hfc:Sl rdFace 2 (hv w) (some ⟨b20,0,none⟩) 1 fsC:=⟨by decide,by decide,by simp,fun j x hj=>⟨b20,0,rfl,by
        match j,hj with
        | 0,hj=>simp only [fsC,List.getElem?_cons_zero,Option.some.injEq] at hj; subst hj; exact ⟨r19,fun k v hk=>by
            match k,hk with
            | 0,hk=>simp [faceV] at hk; subst hk; exact hw.hvb 0 rfl rfl
            | 1,hk=>simp [faceV] at hk; subst hk; exact hw.hvb 0 rfl rfl,slItem_mv (hv_of (hw.vs F19 (by simp))) h19⟩⟩⟩
      exact resolve_any F14 (hv w) 7 6 r14 topM (some ⟨b20,0,none⟩) 1 fsC w (hw.vs _ (by simp)) (hv_le w) h14 hfc (by have:=parseM_w topS; show wM (parseM topS).1≤_; omega)) ?_
  intro F21 r21 hf21 h21
  refine Ln (Ett ?_)
  refine WT.q O Y O (fun _ h=>(Wv 2 (Wd 2 h):)) (Ym O) ?_
  refine WT.q O Y O (fun _ h=>(Wv 2 (Wd 2 h):)) (Yx O O) ?_
  refine WT.q O Y O (fun _ h=>(Wv 2 (Wd 2 h):)) (Yx O O) ?_
  refine WT.e O (fun _ h=>(Wv 2 (Wd 2 h):)) ?_ WT.stop
  refine Lst 1 Y O O O sz26 O O O (Ln (Ett ?_))
  refine WT.e O (fun _ h=>(Wv 2 (Wd 2 h):)) ?_ WT.stop
  refine V0 (Ya O) (Ln (Ett ?_))
  refine WT.nil (fun _ h=>(Wv 2 (Wd 2 h):)) ?_
  refine Et (Cs ?_)
  obtain ⟨cu,hcu⟩:∃c,c=(resolveM cntM []).1:=⟨_,rfl⟩
  obtain ⟨tu,htu⟩:∃c,c=(resolveM topM fsC).1:=⟨_,rfl⟩
  rw [←hcu,←htu]
  rw [←hcu] at h9
  rw [←htu] at h21
  refine Cr (V0 (Yda 3 O O ag26 O) (V0 (Yda 1 O O ag26 O) ?_))
  refine Lb Y O el38 O O O O fun b26=>?_
  refine Lrb 0 (.cells ((([(cu,r9),(tu,r21)]:List XU)).flatMap XU.cells).toArray 26 (0,0)) O O ?_
  refine LW (fun _ h=>h.osT_blk (f:=XU.cells) (xs:=([(cu,r9),(tu,r21)]:List XU)) (c:=2) 0 O XU.cells_len O (by decide)) ?_
  refine V0 (Ya O) (Ln (Et (Crt ?_)))
  refine R1 O O fun w' hw=>?_
  have h9u:=h9
  refine ⟨(some ⟨b26,0,none⟩,2),O,hw.fr,?_⟩
  show Sl _ _ _ _ _ [(resolveM cntM []).1,(resolveM topM fsC).1]
  rw [←hcu,←htu]
  have h9:=hw.slT (rd:=rdXU) 0 rfl XU.cells_len (fun _ _ _ _ h=>h)
  exact slU_of (es:=[(cu,r9),(tu,r21)]) h9 (fun _ _ h=>h) fun e he=>by
    simp only [List.mem_cons,List.not_mem_nil,or_false] at he
    rcases he with rfl | rfl
    · exact h9u.mv (nv_vs hw (by simp) hf9)
    · exact h21.mv (nv_vs hw (by simp) hf21)
 refine WT.e O (fun _ h=>h) ?_ WT.stop
 refine Al Y O zr26 fun b5=>?_
 refine Ln (Ett ?_)
 refine WT.e O (fun _ h=>(Wd 1 h:)) ?_ WT.stop
 refine Ld Y O en52 O (fun r:SP=>.agg #[st cntN,.slice r.1 cntI.length r.2]) (fun F r=>Sl rdItem 4 F r.1 r.2 cntI) (fun w hw=>counted_any w) ?_
 intro F19 r19 hf19 h19
 refine Ln (Ett ?_)
 refine WT.e O (fun _ h=>(Wv 1 (Wd 1 h):)) ?_ WT.stop
 refine Lb Y O el120 O O O O fun b20=>?_
 refine Ln (Ett ?_)
 refine WT.e O (fun _ h=>(Wv 1 (Wd 2 h):)) ?_ WT.stop
 refine Ld Y O en48 O (fun r:UAt=>.tuple #[.agg (unitV (resolveM topM fsC).1 r).toArray,.int .i64 (resolveM topM fsC).2]) (fun F r=>RdU (7+1) (6+1) F r (resolveM topM fsC).1) (fun w hw=>by
     have hfc:Sl rdFace 2 (hv w) (some ⟨b20,0,none⟩) 1 fsC:=⟨by decide,by decide,by simp,fun j x hj=>⟨b20,0,rfl,by
       match j,hj with
       | 0,hj=>simp only [fsC,List.getElem?_cons_zero,Option.some.injEq] at hj; subst hj; exact ⟨r19,fun k v hk=>by
           match k,hk with
           | 0,hk=>simp [faceV] at hk; subst hk; exact hw.hvb 0 rfl rfl
           | 1,hk=>simp [faceV] at hk; subst hk; exact hw.hvb 0 rfl rfl,slItem_mv (hv_of (hw.vs F19 (by simp))) h19⟩⟩⟩
     exact resolve_any F14 (hv w) 7 6 r14 topM (some ⟨b20,0,none⟩) 1 fsC w (hw.vs _ (by simp)) (hv_le w) h14 hfc (by have:=parseM_w topS; show wM (parseM topS).1≤_; omega)) ?_
 intro F21 r21 hf21 h21
 refine Ln (Ett ?_)
 refine WT.q O Y O (fun _ h=>(Wv 2 (Wd 2 h):)) (Ym O) ?_
 refine WT.q O Y O (fun _ h=>(Wv 2 (Wd 2 h):)) (Yx O O) ?_
 refine WT.q O Y O (fun _ h=>(Wv 2 (Wd 2 h):)) (Yx O O) ?_
 refine WT.e O (fun _ h=>(Wv 2 (Wd 2 h):)) ?_ WT.stop
 refine Lst 1 Y O O O sz26 O O O (Ln (Ett ?_))
 refine WT.e O (fun _ h=>(Wv 2 (Wd 2 h):)) ?_ WT.stop
 refine V0 (Ya O) (Ln (Ett ?_))
 refine WT.nil (fun _ h=>(Wv 2 (Wd 2 h):)) ?_
 refine Et (Cs ?_)
 obtain ⟨cu,hcu⟩:∃c,c=(resolveM cntM []).1:=⟨_,rfl⟩
 obtain ⟨tu,htu⟩:∃c,c=(resolveM topM fsC).1:=⟨_,rfl⟩
 rw [←hcu,←htu]
 rw [←hcu] at h9
 rw [←htu] at h21
 refine Cr (V0 (Yda 3 O O ag26 O) (V0 (Yda 1 O O ag26 O) ?_))
 refine Lb Y O el38 O O O O fun b26=>?_
 refine Lrb 0 (.cells ((([(cu,r9),(tu,r21)]:List XU)).flatMap XU.cells).toArray 26 (0,0)) O O ?_
 refine LW (fun _ h=>h.osT_blk (f:=XU.cells) (xs:=([(cu,r9),(tu,r21)]:List XU)) (c:=2) 0 O XU.cells_len O (by decide)) ?_
 refine V0 (Ya O) (Ln (Et (Crt ?_)))
 refine R1 O O fun w' hw=>?_
 have h9u:=h9
 refine ⟨(some ⟨b26,0,none⟩,2),O,hw.fr,?_⟩
 show Sl _ _ _ _ _ [(resolveM cntM []).1,(resolveM topM fsC).1]
 rw [←hcu,←htu]
 have h9:=hw.slT (rd:=rdXU) 0 rfl XU.cells_len (fun _ _ _ _ h=>h)
 exact slU_of (es:=[(cu,r9),(tu,r21)]) h9 (fun _ _ h=>h) fun e he=>by
   simp only [List.mem_cons,List.not_mem_nil,or_false] at he
   rcases he with rfl | rfl
   · exact h9u.mv (nv_vs hw (by simp) hf9)
   · exact h21.mv (nv_vs hw (by simp) hf21)
end Go.Proofs.YtpjekjnehiinnaaGreatDoor
end
section
namespace Go.Proofs.YtpjekjnehiinnaaGreatDoor
open Go.Bw
theorem sz89:sizeP Tryz.prog 89=some 1:=by kernel_rfl
theorem ag42:aggOf Tryz.prog 42=some 4:=by kernel_rfl
theorem fo89_0:fieldOff Tryz.prog 89 0=some 0:=by kernel_rfl
theorem fo42_0:fieldOff Tryz.prog 42 0=some 0:=by kernel_rfl
theorem sz42:sizeP Tryz.prog 42=some 4:=by kernel_rfl
theorem cloneI_any (H:View) (a:Option Addr) (c:Nat) (l:List Int) (w:World) (hH:Le H w) (hm:Sl rdN1 1 H a c l) (hb:l.length≤1048576) :
   Calls Tryz.prog 37 #[.slice a l.length c] w fun e w'=>∃r:SP,e = .returned (.slice r.1 l.length r.2)∧Ext w w'∧Sl rdN1 1 (nv w w') r.1 r.2 l:=by
 have hcap:=hm.cap
 have hmax:=hm.max
 refine enter Tryz.func37 O 8 O O ?_
 refine CWd (W':=Ws w [] [] [H]) (fun _ e=>by subst e; exact Ws.init (by simp [hH])) ?_
 refine Cs (Cr (V0 (Ya O) (Ln (Et (Cs (Cs (Cr (V0 (Ym O) (V0 (yl_eqnil es29 O) (Ln (Et ?_)))))))))))
 refine Cc O (fun hc0=>?_) (fun hc0=>?_)
 ·
  have hnil:l=[]:=by
    cases l with
    | nil=>rfl
    | cons x r=>obtain ⟨b,o,h,_⟩:=hm.elt 0 x rfl; rw [h] at hc0; cases hc0
  refine Cs (Cr (V0 (Ya O) (Ln (Et (Crt (Er ?_))))))
  refine R1 O O fun w' hw=>?_
  subst hnil
  exact ⟨(none,0),O,hw.fr,Sl.nil⟩
 refine Ck (Et (Cs (Cr ?_)))
 refine WL.bslice Y O el29 O O O fun b5=>?_
 refine WL.asOsl (size:=1) 0 O (Nat.le_refl 0) (Nat.zero_le _) O ?_
 refine WL.reosl 0 ([]:List Int).length (([]:List Int).flatMap n1C) O O O ?_
 refine V0 (Ym O) ?_
 refine WL.appendL (ys:=l) (xs:=[]) 0 (fun _=>H) Y O el29 O O O (fun w hw=>⟨hw.vs H (by simp),hm⟩) (fun _ _ _ _ h=>h) n1C_len n1C_one (by simp; omega) (by simp; omega) fun a7 c7=>?_
 refine V0 (Ya O) (Ln (Et (Crt ?_)))
 refine R1 O O fun w' hw=>?_
 exact ⟨(a7,c7),O,hw.fr,hw.slT 0 O n1C_len (fun _ _ _ _ h=>h)⟩
theorem srun1_ret (bp b6 b7:Nat) (v4:Value) (w:World) (hw:Ws w (List.flatMap Asr.ids [blk b7 (.cells #[v4] 32 (0,0))]) [blk b7 (.cells #[v4] 32 (0,0))] [] w) :
   CallsD Tryz.prog 38 #[.pointer (some ⟨bp,0,none⟩),.pointer (some ⟨b6,0,none⟩),.pointer (some ⟨b7,0,none⟩)] (.returning) w fun e u2 w'=>u2 = .returning∧(e = .returned (.tuple #[])∧Ws w (List.flatMap Asr.ids [blk b7 (.cells #[v4] 32 (0,0))]) [blk b7 (.cells #[v4] 32 (0,0))] [] w'):=by
 refine closD Tryz.func38 O 26 O O O O O (fun _=>rfl) (.inl ⟨O,O,O⟩) ?_
 refine LW (W':=Ws w (List.flatMap Asr.ids [blk b7 (.cells #[v4] 32 (0,0))]) [blk b7 (.cells #[v4] 32 (0,0))] []) (fun _ e=>by subst e; exact hw) ?_
 refine V0 (Ya O) (Ln (Et (Cs (Cr (V0 (Ym O) (V0 (yl_taN Tryz.underlying89 zr89 O) (V0 (Ym O) (V0 (Yx O O) ?_))))))))
 refine V0 (Yx O O) ?_
 refine Al Y O zr89 fun b4=>?_
 refine Lst 0 Y O O O sz89 O O O (V0 (Ya O) (Ln (Et (Cs (Cr (V0 (Ym O) (Ln (Et ?_))))))))
 refine WC.condf O ?_
 refine Cs (Cr (V0 (Ym O) (V0 (yl_nein uif20 O) (Ln (Et ?_)))))
 refine WC.condf O ?_
 refine Ck ?_
 refine E0 O fun w' hw=>?_
 exact ⟨O,Wd 1 hw⟩
theorem srun1_pan (bp b6 b7 bw:Nat) (K:KW) (P:Env) (s:WSt) (x:Int) (v0 v1 v2 v3 v4:Value) (w:World) (hw:Ws w (List.flatMap Asr.ids [blk bp (.cells #[.pointer (some ⟨bw,0,none⟩)] 83 (0,0)),blk b6 (.cells #[v0,v1,v2,v3] 42 (0,0)),blk b7 (.cells #[v4] 32 (0,0)),blk bw (wob 87 K P s)]) [blk bp (.cells #[.pointer (some ⟨bw,0,none⟩)] 83 (0,0)),blk b6 (.cells #[v0,v1,v2,v3] 42 (0,0)),blk b7 (.cells #[v4] 32 (0,0)),blk bw (wob 87 K P s)] [] w) :
   CallsD Tryz.prog 38 #[.pointer (some ⟨bp,0,none⟩),.pointer (some ⟨b6,0,none⟩),.pointer (some ⟨b7,0,none⟩)] (.panicking (ovS 89 x)) w fun e u2 w'=>u2 = .panicking [⟨.iface 89 (.agg #[.int .i64 x]),true,false⟩]∧(e = .returned (.tuple #[])∧Ws w (List.flatMap Asr.ids [blk bp (.cells #[.pointer (some ⟨bw,0,none⟩)] 83 (0,0)),blk b6 (.cells #[v0,v1,v2,v3] 42 (0,0)),blk b7 (.cells #[v4] 32 (0,0)),blk bw (wob 87 K P s)]) [blk bp (.cells #[.pointer (some ⟨bw,0,none⟩)] 83 (0,0)),blk b6 (resOb 42 x s),blk b7 (.cells #[.int .i64 0] 32 (0,0)),blk bw (setIn (wob 87 K P s) 6 [.int .i64 x])] [] w'):=by
 refine closD Tryz.func38 O 26 O O O O O (fun _=>rfl) (.inr ⟨_,O,O,O⟩) ?_
 refine LW (W':=Ws w (List.flatMap Asr.ids [blk bp (.cells #[.pointer (some ⟨bw,0,none⟩)] 83 (0,0)),blk b6 (.cells #[v0,v1,v2,v3] 42 (0,0)),blk b7 (.cells #[v4] 32 (0,0)),blk bw (wob 87 K P s)]) [blk bp (.cells #[.pointer (some ⟨bw,0,none⟩)] 83 (0,0)),blk b6 (.cells #[v0,v1,v2,v3] 42 (0,0)),blk b7 (.cells #[v4] 32 (0,0)),blk bw (wob 87 K P s)] []) (fun _ e=>by subst e; exact hw) ?_
 refine V0 (Ya O) (Ln (Et (Cs (Cr (V0 (Ym O) (V0 (yl_taY Tryz.underlying89 O) (V0 (Ym O) (V0 (Yx O O) ?_))))))))
 refine V0 (Yx O O) ?_
 refine Al Y O zr89 fun b4=>?_
 refine Lst 0 Y O O O sz89 O O O (V0 (Ya O) (Ln (Et (Cs (Cr (V0 (Ym O) (Ln (Et ?_))))))))
 refine WC.condt O ?_
 refine Cs (Cr (V0 (Yd 1 O O O na83) (V0 (Yf fo89_0 O) (V0 (Yd 0 O O (v:=.int .i64 x) O na3) (V0 (yl_nil O) (V0 (Yf fo87_6 O) ?_))))))
 refine V0 (Yf fo42_0 O) (Lst 4 Y O O O sz3 O O O ?_)
 refine Lrb 4 (setIn (wob 87 K P s) 6 [.int .i64 x]) O O ?_
 refine Ln (Et (Cr (V0 (Yd 1 O O O na83) (V0 (yl_nil O) (V0 (Yf fo87_6 O) ?_)))))
 refine V0 (yl_ldac ag42 O (cs:=[.int .i64 x,.slice s.o.1 s.w.out.length s.o.2,.slice s.d.1 s.w.data.length s.d.2,.int .i64 (s.w.ticks:Int)]) O (fun w hw j v hv=>by
   refine cell_of_heap (hw.kn _ (mem_of_idx (i:=4) O)) ?_
   match j,hv with
   | 0,hv=>exact hv
   | 1,hv=>exact hv
   | 2,hv=>exact hv
   | 3,hv=>exact hv)) ?_
 refine Lst 2 Y O O O sz42 O O O (Lst 3 Y O O O sz32 O O O (Ln ?_))
 refine E0 O fun w' hw=>?_
 exact ⟨O,Wd 1 hw⟩
end Go.Proofs.YtpjekjnehiinnaaGreatDoor
end
section
namespace Go.Proofs.YtpjekjnehiinnaaGreatDoor
open Go.Bw
theorem runE_at (l:List TUnit) (inp:List Int) (ticks:Int):runE l inp ticks=if checkUs l=0 then (if 64<inp.length then 2 else if (decide (ticks<0)||decide (2000<ticks))=true then 3 else 0) else checkUs l:=rfl
theorem zr42:zeroOf Tryz.prog 42=some (.agg #[.int .i64 0,.slice none 0 0,.slice none 0 0,.int .i64 0]):=by kernel_rfl
theorem en14:Enters Tryz.prog 14:=enters_of Tryz.func14 (by kernel_rfl) rfl
theorem pl42:placesP Tryz.prog 42=some [(0,1),(1,1),(2,1),(3,1)]:=by kernel_rfl
theorem en37:Enters Tryz.prog 37:=enters_of Tryz.func37 (by kernel_rfl) rfl
theorem pl87:placesP Tryz.prog 87=some [(0,1),(1,1),(2,1),(3,1),(4,1),(5,1),(6,4)]:=by kernel_rfl
theorem zr87:zeroOf Tryz.prog 87=some (.agg #[.slice none 0 0,.slice none 0 0,.slice none 0 0,.slice none 0 0,.int .i64 0,.int .i64 0,.int .i64 0,.slice none 0 0,.slice none 0 0,.int .i64 0]):=by kernel_rfl
theorem zr83:zeroOf Tryz.prog 83=some (.pointer none):=by kernel_rfl
theorem sz83:sizeP Tryz.prog 83=some 1:=by kernel_rfl
theorem el85:EltOk Tryz.prog 85 29 (.slice none 0 0) 1 24:=eltOk_of (by kernel_rfl)
theorem sz85:sizeP Tryz.prog 85=some 1:=by kernel_rfl
theorem en38:Enters Tryz.prog 38:=enters_of Tryz.func38 (by kernel_rfl) rfl
set_option maxHeartbeats 4000000 in
theorem semRun_any (H:View) (n:Nat) (a:Option Addr) (c:Nat) (l:List TUnit) (Hi:View) (ai:Option Addr) (ci:Nat) (inp:List Int) (ticks:Int) (w:World) (hH:Le H w) (hl:Sl (rdUn n) 5 H a c l) (hb:∀u ∈ l,u.uses.length≤1048576) (hHi:Le Hi w) (hmi:Sl rdN1 1 Hi ai ci inp) :
   Calls Tryz.prog 16 #[.slice a l.length c,.slice ai inp.length ci,.int .i64 ticks] w fun e w'=>∃r:SP×SP,e = .returned (.tuple #[resV (runR l inp ticks) r,.int .i64 (runE l inp ticks)])∧Ext w w'∧Sl rdN1 1 (nv w w') r.1.1 r.1.2 (runR l inp ticks).out∧Sl rdN1 1 (nv w w') r.2.1 r.2.2 (runR l inp ticks).data:=by
 have hcap:=hl.cap
 have hmax:=hl.max
 have hcapi:=hmi.cap
 have hmaxi:=hmi.max
 refine enterD Tryz.func16 O 119 O O ?_
 refine CWd (W':=Ws w [] [] [Hi,H]) (fun _ e=>by subst e; exact Ws.init (by simp [hHi,hH])) ?_
 refine Cs (Cr ?_)
 refine Al Y O zr42 fun b6=>?_
 refine Al Y O zr32 fun b7=>?_
 refine Ln (Et (Cs (Cs (Cr (V0 (Ym O) ?_)))))
 refine Lp Y O en14 O (fun w hw=>vcheck_any H n n a c l w (hw.vs _ (by simp)) (hl.imp fun _ _ _ h=>h) hb) ?_
 refine V0 (Ya O) (Ln (Et (Cs (Cr (V0 (Ym O) (V0 (yl_ne O O) (Ln (Et ?_))))))))
 refine Cc O (fun hc0=>?_) (fun hc0=>?_)
 ·
  have hz:¬checkUs l=0:=by simpa using hc0
  refine Cs (Cr (V0 (Yb zr42 pl42 O O) (V0 (Ym O) (Lst 1 Y O O O sz42 O O O (Lst 0 Y O O O sz32 O O O (Ln (Et (Crt (Er ?_)))))))))
  refine WE.retD0 (rs_2 O (rv_agg 1 O O ag42 O) (rv_one 0 O O O na32)) fun w' hw=>?_
  have hE:(runE l inp ticks)=checkUs l:=by rw [runE_at,if_neg hz]
  rw [runR_no (by rw [hE]; exact hz),hE]
  exact ⟨((none,0),(none,0)),O,hw.fr,Sl.nil,Sl.nil⟩
 have hz:checkUs l=0:=by simpa using hc0
 have hok:=checkUs_zero.1 hz
 have hfew:=hok.few
 have hsum:=sum_le hok
 refine Ck (Et (Cs (Cs (Cr (V0 (Ym O) (V0 (Yn es29 O) (V0 (yl_gt O O) (Ln (Et ?_)))))))))
 refine Cc O (fun hc1=>?_) (fun hc1=>?_)
 ·
  have hin:64<inp.length:=by simp at hc1; omega
  refine Cs (Cr (V0 (Yb zr42 pl42 O O) (Lst 1 Y O O O sz42 O O O (Lst 0 Y O O O sz32 O O O (Ln (Et (Crt (Er ?_))))))))
  refine WE.retD0 (rs_2 O (rv_agg 1 O O ag42 O) (rv_one 0 O O O na32)) fun w' hw=>?_
  have hE:(runE l inp ticks)=2:=by rw [runE_at,if_pos hz,if_pos hin]
  rw [runR_no (by rw [hE]; decide),hE]
  exact ⟨((none,0),(none,0)),O,hw.fr,Sl.nil,Sl.nil⟩
 have hin:¬64<inp.length:=by simp at hc1; omega
 refine Ck (Et (Cs (Cs (Cr (V0 (Ym O) (V0 (yl_lt O O) (V0 (Ym O) ?_)))))))
 apply Lo 2 O O O O Y O O O O O
 ·
  intro hg0
  refine Vg (Ym O) (Vg (yl_gt O O) ?_)
  exact Gt 2 O O O
 refine Ln (Et ?_)
 refine Cc O (fun hc2=>?_) (fun hc2=>?_)
 ·
  refine Cs (Cr (V0 (Yb zr42 pl42 O O) (Lst 1 Y O O O sz42 O O O (Lst 0 Y O O O sz32 O O O (Ln (Et (Crt (Er ?_))))))))
  refine WE.retD0 (rs_2 O (rv_agg 1 O O ag42 O) (rv_one 0 O O O na32)) fun w' hw=>?_
  have hE:(runE l inp ticks)=3:=by rw [runE_at,if_pos hz,if_neg hin,if_pos hc2]
  rw [runR_no (by rw [hE]; decide),hE]
  exact ⟨((none,0),(none,0)),O,hw.fr,Sl.nil,Sl.nil⟩
 have hE:(runE l inp ticks)=0:=by rw [runE_at,if_pos hz,if_neg hin,hc2]; rfl
 have hts:0≤ticks∧ticks≤2000:=by simp at hc2; omega
 refine Ck (Et (Cs (Cr (V0 (Ym O) (V0 (Ym O) ?_)))))
 refine Ld Y O en37 O (fun r:SP=>.slice r.1 inp.length r.2) (fun F r=>Sl rdN1 1 F r.1 r.2 inp) (fun w hw=>cloneI_any Hi ai ci inp w (hw.vs _ (by simp)) hmi (by omega)) ?_
 intro F38 r38 hf38 h38
 refine V0 (Ym O) (V0 (Yb zr87 pl87 O O) ?_)
 refine WL.box Y O O fun b41=>?_
 obtain ⟨bw,hbw⟩:∃q,q=b41:=⟨_,rfl⟩
 subst hbw
 refine Lrb 0 (wob0 87 (.slice a l.length c) (.slice none 0 0) (.slice none 0 0) (.slice r38.1 inp.length r38.2) ticks (.slice none 0 0)) O O ?_
 refine Al Y O zr83 fun b9=>?_
 refine Lst 0 Y O O O sz83 O O O (Ln (Et (Cs (Cr ?_))))
 refine WL.gmk st Y O fun b42=>?_
 refine V0 (Ya O) (Ln (Et (Cs (Cr (V0 (Ya O) (Ln (Et (Cs (Cs ?_)))))))))
 refine CWd (fun _ h=>h.osl_nil 3 1) ?_
 refine CWd (fun _ h=>h.osl_nil 29 1) ?_
 refine CWd (fun _ h=>h.v0) ?_
 refine Cr (V0 (Ym O) (V0 (Yn es38 O) (V0 (Ym O) (Ln (Et (Cb ?_))))))
 refine CLk (ι:=RGh) (fun g=>[(45,.int .i64 (g.i:Int)),(11,.int .i64 (sumU (l.take g.i):Int))]) [(0,_),(6,_),(7,_),(9,_),(10,_),(43,_),(44,_)] (fun g=>Ws w [] [osT 29 1 XI.cells g.ua.1 g.ua.2 (g.es),osT 3 1 ntC g.ba.1 g.ba.2 ((basesU l 0).take g.i),blk b42 (gobj st (tabZ ((namesU l).take g.i) 0) g.i),blk bw (wob0 87 (.slice a l.length c) (.slice g.ua.1 g.es.length g.ua.2) (.slice g.ba.1 ((basesU l 0).take g.i).length g.ba.2) (.slice r38.1 inp.length r38.2) ticks (.slice none 0 0)),blk b9 (.cells #[.pointer (some ⟨bw,0,none⟩)] 83 (0,0)),blk b7 (.cells (Value.cells (.int .i64 0)) 32 (0,0)),blk b6 (.cells (Value.cells (.agg #[.int .i64 0,.slice none 0 0,.slice none 0 0,.int .i64 0])) 42 (0,0))] [g.J,F38,H]) (fun g=>g.i≤l.length∧g.es.map (·.1)=(usesU l).take g.i∧Xs SlI g.J g.es) (fun g=>l.length-g.i) ⟨0,[],(none,0),(none,0),v0⟩ ⟨Nat.zero_le _,O,Xs.nil _⟩ (sc O (sc O (sc O (sc O (sc O (sc O (sc O (sc O (sc O sn))))))))) (fun _ h=>by have h:=h.fronti 6 O; have h:=h.fronti 6 O; have h:=h.fronti 5 O; have h:=h.fronti 6 O; have h:=h.fronti 6 O; have h:=h.fronti 6 O; have h:=h.fronti 6 O; have h:=Ws.drops h (Vs':=[v0,F38,H]) (by simp); exact h) ?_
 intro g ⟨hgi,hmap,hX⟩
 refine Cs (Cr (V0 (yl_lt O O) (Ln (Et (Cs ?_)))))
 refine Cc O (fun hc3=>?_) (fun hc3=>?_)
 ·
  have hlt:g.i<l.length:=by simpa using hc3
  obtain ⟨u,hui⟩:∃q,l[g.i]? = some q:=⟨_,List.getElem?_eq_getElem hlt⟩
  obtain ⟨pbu,pou,hau,hru⟩:=hl.elt g.i u hui
  obtain ⟨ru_,hrowu,hruu⟩:=hru
  have hcu:=hruu.uses.cap
  have hmu:=hruu.uses.max
  have hnx:=namesU_get hui
  have hnt:=not_take hok.nd hnx
  have hnl:((namesU l).take g.i).length=g.i:=by rw [List.length_take,namesU_len]; omega
  have hNS:(namesU l).take (g.i+1)=(namesU l).take g.i++[u.nm]:=by rw [List.take_add_one,hnx]; rfl
  have hub:=hb u (List.mem_of_getElem? hui)
  have hbl:((basesU l 0).take g.i).length=g.i:=by rw [List.length_take,basesU_len]; omega
  have hel:g.es.length=g.i:=by rw [←List.length_map,hmap,List.length_take,usesU_len]; omega
  have hB1:=basesU_snoc hui
  have hS1:=sumU_snoc hui
  have hsl:=sumU_take_le l (g.i+1)
  have hdat:0≤u.data∧u.data≤512:=by
    have h9:=fine_head (hok.fine u (List.mem_of_getElem? hui))
    unfold headC at h9
    simp only [Bool.or_eq_false_iff,decide_eq_false_iff_not] at h9
    omega
  refine Ck (Et (Cs (Cb (Cs (Cr (V0 (Ym O) (V0 (Yo es38 O O hau hlt) (V0 (yl_lda 2 ag26 O O O (hrowu)) ?_))))))))
  refine Al Y O zr26 fun b13=>?_
  refine V0 (Ya O) (Lst 0 Y O O O sz26 O O O (Ln (Et (Cs ?_))))
  refine Crb 0 (.cells (unitV u ru_).toArray 26 (0,0)) O O ?_
  refine Cr (V0 (Ym O) (V0 (Yf fo26_0 O) (V0 (Yd 0 O O O na9) (V0 (Ym O) ?_))))
  refine WL.gset 3 keyStr Y um74 us9 O O O O ?_
  refine Ln (Et (Cs ?_))
  rw [(tabZ_put hnt hnl).1,(tabZ_put hnt hnl).2,←hNS]
  refine Cr (V0 (Ym O) ?_)
  refine Lb Y O el29 O O O O fun b55=>?_
  refine Lrb 0 (.cells ((([g.i]:List Nat)).flatMap ntC).toArray 3 (0,0)) O O ?_
  refine LW (fun _ h=>h.osT_blk (f:=ntC) (xs:=([g.i]:List Nat)) (c:=1) 0 O ntC_len O (by decide)) ?_
  refine V0 (Ya O) (Ln (Et (Cs (Cs (Cr (V0 (Yf fo26_1 O) (V0 (Yd 1 O O O na22) (V0 (Yn es22 O) (V0 (Ym O) ?_)))))))))
  refine Ln (Et (Cb ?_))
  refine CLk (ι:=Nat×SP) (fun qq=>[(59,.int .i64 (qq.1:Int)),(14,.slice qq.2.1 (g.i::(u.uses.take qq.1).map (ixU l)).length qq.2.2)]) [(0,_),(6,_),(7,_),(9,_),(10,_),(11,_),(13,_),(43,_),(44,_),(45,_),(57,_),(58,_)] (fun qq=>Ws w [] [osT 3 1 ntC qq.2.1 qq.2.2 (g.i::(u.uses.take qq.1).map (ixU l)),blk b13 (.cells (unitV u ru_).toArray 26 (0,0)),osT 29 1 XI.cells g.ua.1 g.ua.2 (g.es),osT 3 1 ntC g.ba.1 g.ba.2 ((basesU l 0).take g.i),blk b42 (gobj st (tabZ ((namesU l).take (g.i+1)) 0) (g.i+1)),blk bw (wob0 87 (.slice a l.length c) (.slice g.ua.1 g.es.length g.ua.2) (.slice g.ba.1 ((basesU l 0).take g.i).length g.ba.2) (.slice r38.1 inp.length r38.2) ticks (.slice none 0 0)),blk b9 (.cells #[.pointer (some ⟨bw,0,none⟩)] 83 (0,0)),blk b7 (.cells (Value.cells (.int .i64 0)) 32 (0,0)),blk b6 (.cells (Value.cells (.agg #[.int .i64 0,.slice none 0 0,.slice none 0 0,.int .i64 0])) 42 (0,0))] [g.J,F38,H]) (fun qq=>qq.1≤u.uses.length) (fun qq=>u.uses.length-qq.1) (0,(some ⟨b55,0,none⟩,1)) (Nat.zero_le _) (sc O (sc O (sc O (sc O (sc O (sc O (sc O (sc O (sc O (sc O (sc O (sc O (sc O (sc O sn)))))))))))))) (fun _ h=>h) ?_
  intro qq hq
  refine Cs (Cr (V0 (yl_lt O O) (Ln (Et (Cs ?_)))))
  refine Cc O (fun hc4=>?_) (fun hc4=>?_)
  ·
   have hlt:qq.1<u.uses.length:=by simpa using hc4
   obtain ⟨s,hsi⟩:∃q,u.uses[qq.1]? = some q:=⟨_,List.getElem?_eq_getElem hlt⟩
   obtain ⟨pbs,pos,has,hrs⟩:=hruu.uses.elt qq.1 s hsi
   have hrs:RdC H pbs (pos+qq.1*1) (strC s):=hrs
   obtain ⟨sp,sz,hsp,hspl,_⟩:=use_at hok hui (List.mem_of_getElem? hsi)
   have hmt:s ∈ (namesU l).take (g.i+1):=by
     have h8:=(idxOf_le hsp).2
     rw [Nat.sub_zero] at h8
     exact List.mem_of_getElem? (show ((namesU l).take (g.i+1))[sp]? = some s by rw [List.getElem?_take,if_pos (by omega)]; exact h8)
   refine Ck (Et (Cs (Cb (Cs (Cr (V0 (Yo es22 O O has hlt) (V0 (yl_ld 2 na9 O O (hrs 0 _ O)) (V0 (Ya O) (Ln (Et (Cr (V0 (Ym O) ?_))))))))))))
   refine V0 (Ym O) (V0 (Ym O) (V0 (yl_glook 4 keyStr um74 us9 zr3 O O O) ?_))
   rw [(tabZ_get s _).1,idxOf_take hmt]
   refine Lb Y O el29 O O O O fun b67=>?_
   refine Lrb 0 (.cells (ntC (ixU l s)).toArray 3 (0,0)) O (O) ?_
   refine LA (ixU l s) 1 0 Y O el29 O O O O O O (by simp; omega) (by simp; omega) fun a68 c68=>?_
   rw [show (g.i::(u.uses.take qq.1).map (ixU l))++[ixU l s]=g.i::(u.uses.take (qq.1+1)).map (ixU l) by rw [List.take_add_one,hsi]; simp]
   refine V0 (Ya O) (Ln (Eb (Et (Cr ?_))))
   refine V0 (Yi O O O (by omega)) ?_
   refine V0 (Ym O) (Ln ?_)
   exact Ea ((qq.1+1,(a68,c68)):Nat×SP) (by show _-(qq.1+1)<_; omega) (by show qq.1+1≤_; omega) (sc O (sc O (sc O (sc O (sc O (sc O (sc O (sc O (sc O (sc O (sc O (sc O (sc O (sc O sn)))))))))))))) (fun _ h=>Wd 1 h)
  have hq1:qq.1=u.uses.length:=by simp at hc4; omega
  refine Ce (Ex (Ex (Ebh (Et (Cs ?_)))))
  have hge2:qq.1=u.uses.length:=hq1
  rw [hge2,List.take_length]
  refine WC.oslview (rd:=rdNt) 0 O ntC_len (fun _ _ _ _ h=>h) fun H14 hH14=>?_
  refine WC.vjoin fun J1 J1a J1b J1f=>?_
  refine WC.drawV (noRes [.cell 6 42,.cell 7 32]) [1,1] [1,1,2] [18,19,20,21] (.q true 0 (.q false 1 (.q true 2 (.q false 3 (.q false 4 (.q true 5 (.q false 6 (.q true 9 (.q false 10 (.q false 11 (.q true 12 (.q false 13 (.e 7 (.e 8 (.e 14 (.e 15 (.q false 16 (.q false 17 .nil)) .stop) .stop) (.e 14 (.e 8 (.e 15 (.q false 16 (.q false 17 .nil)) .stop) .stop) .stop)) (.e 14 (.e 7 (.e 8 (.e 15 (.q false 16 (.q false 17 .nil)) .stop) .stop) .stop) .stop)))))))))))))) mixed (by kernel_rfl) (fun _ _ _ _ _ hd h=>bodyD_put (fn:=Tryz.f16) [.cell 6 42,.cell 7 32] O hd h) ?_
  refine WV.q O Y O (Wos [1,1]) (fun _ h=>by exact (Wt 5 (((((h.f 7 O).f 7 O).f 7 O).f 6 O).f 4 O):)) (Yd 3 O O O na83) ?_
  refine WV.q O Y O (Wos [1,1]) (fun _ h=>by exact (Wt 5 (((((h.f 7 O).f 7 O).f 7 O).f 6 O).f 4 O):)) (Yd 2 O O O na83) ?_
  refine WV.q O Y O (Wos [1,1]) (fun _ h=>by exact (Wt 5 (((((h.f 7 O).f 7 O).f 7 O).f 6 O).f 4 O):)) (Yd 3 O O O na83) ?_
  refine WV.q O Y O (Wos [1,1]) (fun _ h=>by exact (Wt 5 (((((h.f 7 O).f 7 O).f 7 O).f 6 O).f 4 O):)) (yl_nil O) ?_
  refine WV.q O Y O (Wos [1,1]) (fun _ h=>by exact (Wt 5 (((((h.f 7 O).f 7 O).f 7 O).f 6 O).f 4 O):)) (Yf fo87_1 O) ?_
  refine WV.q O Y O (Wos [1,1]) (fun _ h=>by exact (Wt 5 (((((h.f 7 O).f 7 O).f 7 O).f 6 O).f 4 O):)) (Yd 2 O O O na85) ?_
  refine WV.q O Y O (Wos [1,1]) (fun _ h=>by exact (Wt 5 (((((h.f 7 O).f 7 O).f 7 O).f 6 O).f 4 O):)) (Ym O) ?_
  refine WV.q O Y O (Wos [1,1]) (fun _ h=>by exact (Wt 5 (((((h.f 7 O).f 7 O).f 7 O).f 6 O).f 4 O):)) (Yd 3 O O O na83) ?_
  refine WV.q O Y O (Wos [1,1]) (fun _ h=>by exact (Wt 5 (((((h.f 7 O).f 7 O).f 7 O).f 6 O).f 4 O):)) (yl_nil O) ?_
  refine WV.q O Y O (Wos [1,1]) (fun _ h=>by exact (Wt 5 (((((h.f 7 O).f 7 O).f 7 O).f 6 O).f 4 O):)) (Yf fo87_2 O) ?_
  refine WV.q O Y O (Wos [1,1]) (fun _ h=>by exact (Wt 5 (((((h.f 7 O).f 7 O).f 7 O).f 6 O).f 4 O):)) (Yd 2 O O O na29) ?_
  refine WV.q O Y O (Wos [1,1]) (fun _ h=>by exact (Wt 5 (((((h.f 7 O).f 7 O).f 7 O).f 6 O).f 4 O):)) (Ym O) ?_
  refine WV.e O (Wos [1,1]) (fun _ h=>by exact (Wt 5 (((((h.f 7 O).f 7 O).f 7 O).f 6 O).f 4 O):)) ?_ ?_
  ·
   refine Lb Y O el85 O O O O fun b77=>?_
   refine Lrb 0 (.cells (XI.cells ((g.i::u.uses.map (ixU l)),qq.2)).toArray 29 (0,0)) O (O) ?_
   refine Ln (Eu ?_)
   refine WV.e O (fun _ h=>(Wo 1 (Wo 1 (Wd 1 h)):)) (fun _ h=>by exact (Wt 5 (((((h.f 8 O).f 8 O).f 8 O).f 7 O).f 5 O):)) ?_ ?_
   ·
    refine LA ((((g.i::u.uses.map (ixU l)),qq.2):XI)) 2 0 Y O el85 O O O O O O (by omega) (by omega) fun a78 c78=>?_
    refine Ln (Eu ?_)
    refine WV.e O (fun _ h=>(Wo 1 (Wo 1 (Wd 1 h)):)) (fun _ h=>by exact (Wt 5 (((((h.f 8 O).f 8 O).f 8 O).f 7 O).f 5 O):)) ?_ WU.stop
    refine Lb Y O el29 O O O O fun b84=>?_
    refine Lrb 0 (.cells (ntC (sumU (l.take g.i))).toArray 3 (0,0)) O (O) ?_
    refine Ln (Eu ?_)
    refine WV.e O (fun _ h=>(Wo 1 (Wo 1 (Wd 2 h)):)) (fun _ h=>by exact (Wt 5 (((((h.f 9 O).f 9 O).f 9 O).f 8 O).f 6 O):)) ?_ WU.stop
    refine LA (sumU (l.take g.i)) 4 0 Y O el29 O O O O O O (by omega) (by omega) fun a85 c85=>?_
    refine Ln (Eu ?_)
    refine WV.q O Y O (fun _ h=>(Wo 1 (Wo 1 (Wd 2 h)):)) (fun _ h=>by exact (Wt 5 (((((h.f 9 O).f 9 O).f 9 O).f 8 O).f 6 O):)) (yl_nil O) ?_
    refine WV.q O Y O (fun _ h=>(Wo 1 (Wo 1 (Wd 2 h)):)) (fun _ h=>by exact (Wt 5 (((((h.f 9 O).f 9 O).f 9 O).f 8 O).f 6 O):)) (Yf fo87_1 O) ?_
    refine WU.nil (fun _ h=>(Wo 1 (Wo 1 (Wd 2 h)):)) ?_
    refine WSV.e O (fun _ h=>by exact (Wt 5 (((((h.f 9 O).f 9 O).f 9 O).f 8 O).f 6 O):)) ?_
    refine Lst 6 Y O O O sz85 O O O (Ln (Es ?_))
    refine WSV.e O (fun _ h=>by exact (Wt 5 (((((h.f 9 O).f 9 O).f 9 O).f 8 O).f 6 O):)) ?_
    refine V0 (yl_nil O) (Ln (Es ?_))
    refine WSV.e O (fun _ h=>by exact (Wt 5 (((((h.f 9 O).f 9 O).f 9 O).f 8 O).f 6 O):)) ?_
    refine V0 (Yf fo87_2 O) (Ln (Es ?_))
    refine WSV.e O (fun _ h=>by exact (Wt 5 (((((h.f 9 O).f 9 O).f 9 O).f 8 O).f 6 O):)) ?_
    refine Lst 6 Y O O O sz29 O O O (Ln (Es ?_))
    refine WSV.nil (fun _ h=>by exact (Wt 5 (((((h.f 9 O).f 9 O).f 9 O).f 8 O).f 6 O):)) ?_
    refine Et (Cr (V0 (Ym O) (V0 (Yf fo26_2 O) (V0 (Yd 2 O O O na3) ?_))))
    refine V0 (yl_addn (a:=sumU (l.take g.i)) (b:=u.data.toNat) O O O (by omega) (by omega)) ?_
    refine V0 (Ya O) (Ln (Eb (Et (Cr ?_))))
    refine V0 (Yi O O O (by omega)) ?_
    refine V0 (Ym O) (Ln ?_)
    rw [←hB1,←hS1]
    exact Ea (⟨g.i+1,g.es++[((g.i::u.uses.map (ixU l)),qq.2)],(a78,c78),(a85,c85),J1⟩:RGh) (by show _-(g.i+1)<_; omega) ⟨by show g.i+1≤_; omega,by show (g.es++[((g.i::u.uses.map (ixU l)),qq.2)]).map (·.1)=_; rw [List.map_append,hmap,usesU_snoc hui]; rfl,Xs.snoc (R:=SlI) (fun hv h=>SlI.mv hv h) hX J1b J1a hH14⟩ (sc O (sc O (sc O (sc O (sc O (sc O (sc O (sc O (sc O sn))))))))) (fun _ h=>Wd 3 h)
   refine WV.e O (fun _ h=>(Wo 1 (Wo 1 (Wd 1 h)):)) (fun _ h=>by exact (Wt 5 (((((h.f 8 O).f 8 O).f 8 O).f 7 O).f 5 O):)) ?_ WU.stop
   refine Lb Y O el29 O O O O fun b84=>?_
   refine Lrb 0 (.cells (ntC (sumU (l.take g.i))).toArray 3 (0,0)) O (O) ?_
   refine Ln (Eu ?_)
   refine WV.e O (fun _ h=>(Wo 1 (Wo 1 (Wd 2 h)):)) (fun _ h=>by exact (Wt 5 (((((h.f 9 O).f 9 O).f 9 O).f 8 O).f 6 O):)) ?_ WU.stop
   refine LA ((((g.i::u.uses.map (ixU l)),qq.2):XI)) 3 1 Y O el85 O O O O O O (by omega) (by omega) fun a78 c78=>?_
   refine Ln (Eu ?_)
   refine WV.e O (fun _ h=>(Wo 1 (Wo 1 (Wd 2 h)):)) (fun _ h=>by exact (Wt 5 (((((h.f 9 O).f 9 O).f 9 O).f 8 O).f 6 O):)) ?_ WU.stop
   refine LA (sumU (l.take g.i)) 4 0 Y O el29 O O O O O O (by omega) (by omega) fun a85 c85=>?_
   refine Ln (Eu ?_)
   refine WV.q O Y O (fun _ h=>(Wo 1 (Wo 1 (Wd 2 h)):)) (fun _ h=>by exact (Wt 5 (((((h.f 9 O).f 9 O).f 9 O).f 8 O).f 6 O):)) (yl_nil O) ?_
   refine WV.q O Y O (fun _ h=>(Wo 1 (Wo 1 (Wd 2 h)):)) (fun _ h=>by exact (Wt 5 (((((h.f 9 O).f 9 O).f 9 O).f 8 O).f 6 O):)) (Yf fo87_1 O) ?_
   refine WU.nil (fun _ h=>(Wo 1 (Wo 1 (Wd 2 h)):)) ?_
   refine WSV.e O (fun _ h=>by exact (Wt 5 (((((h.f 9 O).f 9 O).f 9 O).f 8 O).f 6 O):)) ?_
   refine Lst 6 Y O O O sz85 O O O (Ln (Es ?_))
   refine WSV.e O (fun _ h=>by exact (Wt 5 (((((h.f 9 O).f 9 O).f 9 O).f 8 O).f 6 O):)) ?_
   refine V0 (yl_nil O) (Ln (Es ?_))
   refine WSV.e O (fun _ h=>by exact (Wt 5 (((((h.f 9 O).f 9 O).f 9 O).f 8 O).f 6 O):)) ?_
   refine V0 (Yf fo87_2 O) (Ln (Es ?_))
   refine WSV.e O (fun _ h=>by exact (Wt 5 (((((h.f 9 O).f 9 O).f 9 O).f 8 O).f 6 O):)) ?_
   refine Lst 6 Y O O O sz29 O O O (Ln (Es ?_))
   refine WSV.nil (fun _ h=>by exact (Wt 5 (((((h.f 9 O).f 9 O).f 9 O).f 8 O).f 6 O):)) ?_
   refine Et (Cr (V0 (Ym O) (V0 (Yf fo26_2 O) (V0 (Yd 2 O O O na3) ?_))))
   refine V0 (yl_addn (a:=sumU (l.take g.i)) (b:=u.data.toNat) O O O (by omega) (by omega)) ?_
   refine V0 (Ya O) (Ln (Eb (Et (Cr ?_))))
   refine V0 (Yi O O O (by omega)) ?_
   refine V0 (Ym O) (Ln ?_)
   rw [←hB1,←hS1]
   exact Ea (⟨g.i+1,g.es++[((g.i::u.uses.map (ixU l)),qq.2)],(a78,c78),(a85,c85),J1⟩:RGh) (by show _-(g.i+1)<_; omega) ⟨by show g.i+1≤_; omega,by show (g.es++[((g.i::u.uses.map (ixU l)),qq.2)]).map (·.1)=_; rw [List.map_append,hmap,usesU_snoc hui]; rfl,Xs.snoc (R:=SlI) (fun hv h=>SlI.mv hv h) hX J1b J1a hH14⟩ (sc O (sc O (sc O (sc O (sc O (sc O (sc O (sc O (sc O sn))))))))) (fun _ h=>Wd 3 h)
  refine WV.e O (Wos [1,1]) (fun _ h=>by exact (Wt 5 (((((h.f 7 O).f 7 O).f 7 O).f 6 O).f 4 O):)) ?_ WU.stop
  refine Lb Y O el29 O O O O fun b84=>?_
  refine Lrb 0 (.cells (ntC (sumU (l.take g.i))).toArray 3 (0,0)) O (O) ?_
  refine Ln (Eu ?_)
  refine WV.e O (fun _ h=>(Wo 1 (Wo 1 (Wd 1 h)):)) (fun _ h=>by exact (Wt 5 (((((h.f 8 O).f 8 O).f 8 O).f 7 O).f 5 O):)) ?_ WU.stop
  refine Lb Y O el85 O O O O fun b77=>?_
  refine Lrb 0 (.cells (XI.cells ((g.i::u.uses.map (ixU l)),qq.2)).toArray 29 (0,0)) O (O) ?_
  refine Ln (Eu ?_)
  refine WV.e O (fun _ h=>(Wo 1 (Wo 1 (Wd 2 h)):)) (fun _ h=>by exact (Wt 5 (((((h.f 9 O).f 9 O).f 9 O).f 8 O).f 6 O):)) ?_ WU.stop
  refine LA ((((g.i::u.uses.map (ixU l)),qq.2):XI)) 3 0 Y O el85 O O O O O O (by omega) (by omega) fun a78 c78=>?_
  refine Ln (Eu ?_)
  refine WV.e O (fun _ h=>(Wo 1 (Wo 1 (Wd 2 h)):)) (fun _ h=>by exact (Wt 5 (((((h.f 9 O).f 9 O).f 9 O).f 8 O).f 6 O):)) ?_ WU.stop
  refine LA (sumU (l.take g.i)) 4 1 Y O el29 O O O O O O (by omega) (by omega) fun a85 c85=>?_
  refine Ln (Eu ?_)
  refine WV.q O Y O (fun _ h=>(Wo 1 (Wo 1 (Wd 2 h)):)) (fun _ h=>by exact (Wt 5 (((((h.f 9 O).f 9 O).f 9 O).f 8 O).f 6 O):)) (yl_nil O) ?_
  refine WV.q O Y O (fun _ h=>(Wo 1 (Wo 1 (Wd 2 h)):)) (fun _ h=>by exact (Wt 5 (((((h.f 9 O).f 9 O).f 9 O).f 8 O).f 6 O):)) (Yf fo87_1 O) ?_
  refine WU.nil (fun _ h=>(Wo 1 (Wo 1 (Wd 2 h)):)) ?_
  refine WSV.e O (fun _ h=>by exact (Wt 5 (((((h.f 9 O).f 9 O).f 9 O).f 8 O).f 6 O):)) ?_
  refine Lst 6 Y O O O sz85 O O O (Ln (Es ?_))
  refine WSV.e O (fun _ h=>by exact (Wt 5 (((((h.f 9 O).f 9 O).f 9 O).f 8 O).f 6 O):)) ?_
  refine V0 (yl_nil O) (Ln (Es ?_))
  refine WSV.e O (fun _ h=>by exact (Wt 5 (((((h.f 9 O).f 9 O).f 9 O).f 8 O).f 6 O):)) ?_
  refine V0 (Yf fo87_2 O) (Ln (Es ?_))
  refine WSV.e O (fun _ h=>by exact (Wt 5 (((((h.f 9 O).f 9 O).f 9 O).f 8 O).f 6 O):)) ?_
  refine Lst 6 Y O O O sz29 O O O (Ln (Es ?_))
  refine WSV.nil (fun _ h=>by exact (Wt 5 (((((h.f 9 O).f 9 O).f 9 O).f 8 O).f 6 O):)) ?_
  refine Et (Cr (V0 (Ym O) (V0 (Yf fo26_2 O) (V0 (Yd 2 O O O na3) ?_))))
  refine V0 (yl_addn (a:=sumU (l.take g.i)) (b:=u.data.toNat) O O O (by omega) (by omega)) ?_
  refine V0 (Ya O) (Ln (Eb (Et (Cr ?_))))
  refine V0 (Yi O O O (by omega)) ?_
  refine V0 (Ym O) (Ln ?_)
  rw [←hB1,←hS1]
  exact Ea (⟨g.i+1,g.es++[((g.i::u.uses.map (ixU l)),qq.2)],(a78,c78),(a85,c85),J1⟩:RGh) (by show _-(g.i+1)<_; omega) ⟨by show g.i+1≤_; omega,by show (g.es++[((g.i::u.uses.map (ixU l)),qq.2)]).map (·.1)=_; rw [List.map_append,hmap,usesU_snoc hui]; rfl,Xs.snoc (R:=SlI) (fun hv h=>SlI.mv hv h) hX J1b J1a hH14⟩ (sc O (sc O (sc O (sc O (sc O (sc O (sc O (sc O (sc O sn))))))))) (fun _ h=>Wd 3 h)
 have hge:g.i=l.length:=by simp at hc3; omega
 rw [hge,show (basesU l 0).take l.length=basesU l 0 from List.take_of_length_le (by rw [basesU_len]; omega),List.take_length]
 have hmap:=hmap.trans (by rw [hge,List.take_of_length_le (by rw [usesU_len]; omega)])
 refine Ce (Ex (Ex (Ebh (Et (Cs ?_)))))
 refine CU (noRes [.cell 6 42,.cell 7 32]) [] [6] (.q true 0 (.q false 1 (.e 2 (.q false 3 (.q false 4 (.q false 5 .nil))) .stop))) mixed (by kernel_rfl) (fun _ _ _ _ _ hd h=>bodyD_put (fn:=Tryz.f16) [.cell 6 42,.cell 7 32] O hd h) ?_
 refine U0 O (fun _ h=>h) (Yd 4 O O O na83) (U0 O (fun _ h=>h) (Ym O) ?_)
 refine Ue O (fun _ h=>h) ?_ WU.stop
 refine WL.make Y O el29 O O (by omega) (by omega) (by omega) (by omega) fun b97=>?_
 refine Lrb 0 (.cells ((List.replicate (sumU l) (0:Int)).flatMap n1C).toArray 3 (0,0)) O (by rw [Int.toNat_natCast,n1_made]) ?_
 refine LW (fun _ h=>h.osT_blk (f:=n1C) (xs:=List.replicate (sumU l) 0) (c:=sumU l) 0 O n1C_len (by simp) (by unfold maxLen; omega)) ?_
 refine Ln (Eu (U0 O (fun _ h=>(Wd 1 h:)) (yl_nil O) (U0 O (fun _ h=>(Wd 1 h:)) (Yf fo87_6 O) (U0 O (fun _ h=>(Wd 1 h:)) (Yf fo42_2 O) ?_))))
 refine WU.nil (fun _ h=>(Wd 1 h:)) ?_
 refine WS.e O ?_
 refine Lst 4 Y O O O sz29 O O O (Ln (Es ?_))
 refine WS.nil ?_
 refine Et (Cs (Cr (V0 (yl_func O) ?_)))
 refine WL.defer Y O ?_
 refine Ln (Et (Cs (Cs ?_)))
 refine WC.oslview (rd:=rdXI) 1 O XI.cells_len (fun _ _ _ _ h=>h) fun HU hHU=>?_
 refine WC.oslview (rd:=rdNt) 1 O ntC_len (fun _ _ _ _ h=>h) fun HB hHB=>?_
 refine WC.vjoin fun j1 j1a j1b j1f=>?_
 refine WC.vjoin fun j2 j2a j2b j2f=>?_
 refine WC.vjoin fun j3 j3a j3b j3f=>?_
 refine WC.vjoin fun N Na Nb Nf=>?_
 have hesl:g.es.length=(usesU l).length:=by rw [←hmap,List.length_map]
 have vB:VLe HB N:=VLe.trans j1a (VLe.trans j2a (VLe.trans j3a Na))
 have vU:VLe HU N:=VLe.trans j1b (VLe.trans j2a (VLe.trans j3a Na))
 have vJ:VLe g.J N:=VLe.trans j2b (VLe.trans j3a Na)
 have vF:VLe F38 N:=VLe.trans j3b Na
 have hR:RunAt N n (⟨(a,c),g.ua,g.ba⟩:KW) l ticks.toNat:=⟨hok,by omega,hl.imp (rdUn_mono Nb n),by rw [←hmap]; exact slI_of hHU vU vJ hX,hHB.imp (rdNt_mono vB)⟩
 have hgd:WGood N (envU l ticks.toNat) (sumU l) 0 (⟨w0R l inp,r38,(none,0),(some ⟨b97,0,none⟩,sumU l)⟩:WSt):=⟨h38.imp fun b o x h=>RdC.mono vF h,by show 0≤200; decide,Nat.zero_le _,by show (List.replicate (sumU l) 0).length=_; simp,rfl⟩
 obtain ⟨K,hK⟩:∃K,K=(⟨(a,c),g.ua,g.ba⟩:KW):=⟨_,rfl⟩
 rw [←hK] at hR
 have hKl:K.l=(a,c):=by rw [hK]
 have hKu:K.u=g.ua:=by rw [hK]
 have hKb:K.b=g.ba:=by rw [hK]
 refine CWd (fun _ h=>h.osl_nil 3 1) ?_
 refine Crb 3 (wob 87 K (envU l ticks.toNat) (⟨w0R l inp,r38,(none,0),(some ⟨b97,0,none⟩,sumU l)⟩:WSt)) rfl (by unfold wob; rw [hKl,hKu,hKb,show (envU l ticks.toNat).uses=usesU l from rfl,←hesl,show ((envU l ticks.toNat).lim:Int)=ticks from Int.toNat_of_nonneg hts.1,show (⟨w0R l inp,r38,(none,0),(some ⟨b97,0,none⟩,sumU l)⟩:WSt).w.data.length=sumU l from List.length_replicate,show (envU l ticks.toNat).bases=basesU l 0 from rfl]; rfl) ?_
 refine Cr (V0 (Ym O) (V0 (Yn es38 O) (V0 (Ym O) (Ln (Et (Cb ?_))))))
 refine CLk (ι:=Nat×WSt) (fun t=>[(104,.int .i64 (t.1:Int))]) [(6,_),(7,_),(9,_),(102,_),(103,_)] (fun t=>Ws w [] ((wown 87 3 bw K (envU l ticks.toNat) t.2)++[blk b9 (.cells #[.pointer (some ⟨bw,0,none⟩)] 83 (0,0)),blk b7 (.cells (Value.cells (.int .i64 0)) 32 (0,0)),blk b6 (.cells (Value.cells (.agg #[.int .i64 0,.slice none 0 0,.slice none 0 0,.int .i64 0])) 42 (0,0))]) [N]) (fun t=>t.1≤l.length∧WGood N (envU l ticks.toNat) (sumU l) 0 t.2∧mainsR (envU l ticks.toNat) l 0 (w0R l inp)=mainsR (envU l ticks.toNat) (l.drop t.1) t.1 t.2.w) (fun t=>l.length-t.1) (0,(⟨w0R l inp,r38,(none,0),(some ⟨b97,0,none⟩,sumU l)⟩:WSt)) ⟨Nat.zero_le _,hgd,O⟩ (sc O (sc O (sc O (sc O (sc O (sc O sn)))))) (fun _ h=>by exact (Wt 6 ((((((h.f 6 O).f 6 O).f 6 O).f 4 O).f 4 O).f 6 O):)) ?_
 intro t ⟨hti,hgt,hmt2⟩
 refine Cs (Cr (V0 (yl_lt O O) (Ln (Et (Cs ?_)))))
 refine Cc O (fun hc5=>?_) (fun hc5=>?_)
 ·
  have hlt:t.1<l.length:=by simpa using hc5
  obtain ⟨u,hui⟩:∃q,l[t.1]? = some q:=⟨_,List.getElem?_eq_getElem hlt⟩
  obtain ⟨pbu,pou,hau,hru⟩:=hl.elt t.1 u hui
  obtain ⟨ru_,hrowu,hruu⟩:=hru
  have hmok:actsK (knM u::usesKn l u) ((([]:List Int).length:Nat):Int) u.main 1=true:=(fine_parts (hok.fine u (List.mem_of_getElem? hui))).2.1
  refine Ck (Et (Cs (Cb (Cs (Cr (V0 (Ym O) (V0 (Yo es38 O O hau hlt) (V0 (yl_lda 0 ag26 O O O (RdC.mono Nb hrowu)) ?_))))))))
  refine Al Y O zr26 fun b18=>?_
  refine V0 (Ya O) (Lst 0 Y O O O sz26 O O O (Ln (Et ?_)))
  refine Crb 0 (.cells (unitV u ru_).toArray 26 (0,0)) O O ?_
  refine CWd (fun _ h=>h.osl_nil 3 1) ?_
  refine Cr (V0 (Yd 5 O O O na83) (V0 (Ym O) (V0 (Yf fo26_4 O) (V0 (Yd 1 O O O na24) (Lf 0 O ?_)))))
  refine Lf 4 O (Lf 4 O (Lf 4 O ?_))
  refine Lwx (ι:=_) (κ:=_) [_,_,_,_] _ Y O en39 O O (_) (_) (_) (_) (_) (_) ([N]) (by simp) (fun w hw=>scall_all N n K l ticks.toNat bw hR 25 0 O (by omega) t.1 u (none,0) [] u.main ru_.s3.1 ru_.s3.2 n n t.2 w hgt hui (slA_mv hruu.main Nb) hmok hw) ?_ ?_
  ·
   intro r113 hr113
   refine WE.block_panic (Ep (Ep (WE.block_panic (Ep ?_))))
   refine WE.front 0 O ?_
   refine WE.front 5 O ?_
   refine WE.front 6 O ?_
   refine WE.front 6 O ?_
   refine WE.panD en38 (closW [_,_,_,_] _ _ O (fun w hw=>srun1_pan b9 b6 b7 bw K (envU l ticks.toNat) r113.2 r113.1 _ _ _ _ _ w hw)) (rs_2 O (rv_agg 1 O O ag42 O) (rv_one 2 O O O na32)) fun w' hw=>?_
   have hM:(runR l inp ticks)=endW r113.2.w r113.1:=runR_ov hE (hmt2.trans ((mains_at _ hui).trans (bind_ov hr113)))
   rw [hM,hE]
   exact ⟨((r113.2.o.1,r113.2.o.2),(r113.2.d.1,r113.2.d.2)),O,hw.fr,hw.slT 4 O n1C_len (fun _ _ _ _ h=>h),hw.slT 5 O n1C_len (fun _ _ _ _ h=>h)⟩
  intro r113 ⟨hr113,hg113⟩
  refine Ln (Eb (Et (Cr ?_)))
  refine V0 (Yi O O O (by omega)) ?_
  refine V0 (Ym O) (Ln ?_)
  exact Ea ((t.1+1,r113.2):Nat×WSt) (by show _-(t.1+1)<_; omega) ⟨by show t.1+1≤_; omega,hg113,hmt2.trans ((mains_at _ hui).trans (bind_ok hr113))⟩ (sc O (sc O (sc O (sc O (sc O (sc O sn)))))) (fun _ h=>by exact (Wt 6 ((((((h.f 6 O).f 6 O).f 6 O).f 5 O).f 5 O).f 5 O):))
 have hge5:l.length≤t.1:=by simp at hc5; omega
 refine Ce (Ex (Ex (Ebh (Et (Cs (Cr (V0 (Yd 3 O O O na83) (V0 (yl_nil O) (V0 (Yf fo87_6 O) (V0 (Yda 0 O O ag42 O) ?_))))))))))
 refine Lst 5 Y O O O sz42 O O O (Lst 4 Y O O O sz32 O O O (Ln (Et (Crt ?_))))
 refine WE.front 4 O ?_
 refine WE.retD en38 (closW [_] _ [blk b7 (.cells #[.int .i64 0] 32 (0,0))] O (fun w hw=>srun1_ret b9 b6 b7 _ w hw)) (rs_2 O (rv_agg 5 O O ag42 O) (rv_one 0 O O O na32)) fun w' hw=>?_
 have hM:(runR l inp ticks)=endW t.2.w 0:=runR_ok hE (hmt2.trans (mains_end _ hge5))
 rw [hM,hE]
 exact ⟨((t.2.o.1,t.2.o.2),(t.2.d.1,t.2.d.2)),O,hw.fr,hw.slT 2 O n1C_len (fun _ _ _ _ h=>h),hw.slT 3 O n1C_len (fun _ _ _ _ h=>h)⟩
end Go.Proofs.YtpjekjnehiinnaaGreatDoor
end
section
namespace Go.Proofs.YtpjekjnehiinnaaGreatDoor
open Go.Bw
theorem v0_lew (w:World):Le v0 w:=fun b o h=>by simp [v0] at h
def resT (R:Res):Int×List Int×List Int×Int:=(R.fin,R.out,R.data,R.ticks)
theorem res_of {R:Res} {a:Int} {b c:List Int} {t:Int} (h:resT R=(a,b,c,t)):R=⟨a,b,c,t⟩:=by
 obtain ⟨_,_,_,_⟩:=R
 simp only [resT,Prod.mk.injEq] at h
 obtain ⟨rfl,rfl,rfl,rfl⟩:=h
 rfl
theorem sem_prog:∃(pu:List TUnit) (R2 R3:Res),pu=progU∧pu.length=2∧(∀u ∈ pu,u.uses.length≤1048576)∧checkUs pu=0∧runE pu [1] 9=0∧runR pu [1] 9=⟨0,[6,7],[6,0,6,0,0],6⟩∧runE pu [4] 9=0∧runR pu [4] 9=R2∧R2.fin=2∧R2.out=[]∧runE pu [] 4=0∧runR pu [] 4=R3∧R3.fin=3∧R3.ticks=4:=
 ⟨progU,_,_,rfl,by decide +kernel,by decide +kernel,by decide +kernel,by decide +kernel,res_of (by decide +kernel),by decide +kernel,rfl,by decide +kernel,by decide +kernel,by decide +kernel,rfl,by decide +kernel,by decide +kernel⟩
theorem en29:Enters Tryz.prog 29:=enters_of Tryz.func29 (by kernel_rfl) rfl
theorem en16:Enters Tryz.prog 16:=enters_of Tryz.func16 (by kernel_rfl) rfl
theorem en19:Enters Tryz.prog 19:=enters_of Tryz.func19 (by kernel_rfl) rfl
theorem sameInts_n1 (H1 H2:View) (a1 a2:Option Addr) (c1 c2:Nat) (l:List Int) (w:World) (hH1:Le H1 w) (hH2:Le H2 w) (hm1:Sl rdN1 1 H1 a1 c1 l) (hm2:Sl rdN1 1 H2 a2 c2 l) :
   Calls Tryz.prog 21 #[.slice a1 l.length c1,.slice a2 l.length c2] w fun e w'=>e = .returned (.bool true)∧Ext w w':=by
 have hcap1:=hm1.cap
 have hmax1:=hm1.max
 have hcap2:=hm2.cap
 have hmax2:=hm2.max
 refine enter Tryz.func21 O 26 O O ?_
 refine CWd (W':=Ws w [] [] [H1,H2]) (fun _ e=>by subst e; exact Ws.init (by simp [hH1,hH2])) ?_
 refine Cs (Cr (V0 (Ya O) (Ln (Et (Cs (Cs (Cr (V0 (Ym O) (V0 (Yn es29 O) (V0 (Ym O) ?_))))))))))
 refine V0 (Yn es29 O) (V0 (yl_neY O O O) (Ln (Et ?_)))
 refine WC.condf O ?_
 refine Ck (Et (Cs (Cs (Cr (V0 (Ya O) (Ln (Et (Cb ?_))))))))
 refine CW (ι:=Nat) (fun i=>[(5,.int .i64 (i:Int))]) [(0,_),(1,_)] (fun i=>i≤l.length) (fun i=>l.length-i) 0 (Nat.zero_le _) (sc O (sc O (sc O sn))) ?_
 intro i hi
 refine Cs (Cs (Cr (V0 (Ym O) (V0 (Ym O) (V0 (Yn es29 O) (V0 (yl_lt O O) (Ln (Et ?_))))))))
 refine Cc O (fun hc1=>?_) (fun hc1=>?_)
 ·
  have hlt:i<l.length:=by simpa using hc1
  obtain ⟨x,hx⟩:∃x,l[i]? = some x:=⟨_,List.getElem?_eq_getElem hlt⟩
  obtain ⟨pb,po,ha1,hr1⟩:=hm1.elt i x hx
  obtain ⟨qb,qo,ha2,hr2⟩:=hm2.elt i x hx
  have hr1:RdC H1 pb (po+i*1) (n1C x):=hr1
  have hr2:RdC H2 qb (qo+i*1) (n1C x):=hr2
  refine Ck (Et (Cs (Cb (Cs ?_))))
  refine WC.draws0 [(0,true),(1,true),(2,true),(3,true),(4,true),(5,true),(6,true),(7,true),(8,true)] mixed (by kernel_rfl) (fun _ _ _ d _ h=>by cases d<;>exact h) ?_
  refine D0 O (fun _ h=>h) (Ym O) (D0 O (fun _ h=>h) (Ym O) ?_)
  refine D0 O (fun _ h=>h) (Yo es29 O O ha1 (by omega)) ?_
  refine D0 O (fun _ h=>h) (yl_ld 0 na3 O O (hr1 0 _ O)) (D0 O (fun _ h=>h) (Ym O) (D0 O (fun _ h=>h) (Ym O) ?_))
  refine D0 O (fun _ h=>h) (Yo es29 O O ha2 (by omega)) ?_
  refine D0 O (fun _ h=>h) (yl_ld 1 na3 O O (hr2 0 _ O)) (D0 O (fun _ h=>h) (yl_neY O O O) ?_)
  refine WD.nil (fun _ h=>h) ?_
  refine Et ?_
  refine WC.condf O ?_
  refine Ck (Eb (Et (Cr (V0 (Ym O) ?_))))
  refine V0 (Yi O O O (by omega)) ?_
  refine V0 (Ya O) (Ln ?_)
  exact Ea (i+1) (by omega) (by omega) (sc O (sc O (sc O sn))) (fun _ h=>h)
 refine Ce (Ex (Ex (Ebh (Et (Cs (Cr (V0 (Ya O) (Ln (Et (Crt ?_))))))))))
 refine R1 O O fun w' hw=>?_
 exact ⟨O,hw.fr⟩
theorem sameRes_eq (H1 H2:View) (R R2:Res) (hRR:R=R2) (r1 r2:SP×SP) (w:World) (hH1:Le H1 w) (hH2:Le H2 w) (h1:Sl rdN1 1 H1 r1.1.1 r1.1.2 R.out∧Sl rdN1 1 H1 r1.2.1 r1.2.2 R.data) (h2:Sl rdN1 1 H2 r2.1.1 r2.1.2 R2.out∧Sl rdN1 1 H2 r2.2.1 r2.2.2 R2.data) :
   Calls Tryz.prog 19 #[.agg #[.int .i64 R.fin,.slice r1.1.1 R.out.length r1.1.2,.slice r1.2.1 R.data.length r1.2.2,.int .i64 R.ticks],.agg #[.int .i64 R2.fin,.slice r2.1.1 R2.out.length r2.1.2,.slice r2.2.1 R2.data.length r2.2.2,.int .i64 R2.ticks]] w fun e w'=>e = .returned (.bool true)∧Ext w w':=by
 subst hRR
 refine enter Tryz.func19 O 31 O O ?_
 refine CWd (W':=Ws w [] [] [H1,H2]) (fun _ e=>by subst e; exact Ws.init (by simp [hH1,hH2])) ?_
 refine Cs (Cr ?_)
 refine WL.box Y O O fun b2=>?_
 refine WL.box Y O O fun b3=>?_
 refine V0 (Ya O) (Ln (Et (Cs (Cr (V0 (Yf fo42_0 O) (V0 (Yd 1 O O O na3) (V0 (Yf fo42_0 O) (V0 (Yd 0 O O O na3) ?_))))))))
 refine V0 (yl_eqiY O O O) (V0 (Ym O) ?_)
 apply La 5 (x:=true) O O O O Y O O O O O
 ·
  intro hg0
  refine Vg (Yf fo42_3 O) (Vg (Yd 1 O O O na3) (Vg (Yf fo42_3 O) (Vg (Yd 0 O O O na3) (Vg (yl_eqiY O O O) ?_))))
  exact Gt 5 O O O
 refine V0 (Ym O) ?_
 apply La 5 (x:=true) O O O O Y O O O O O
 ·
  intro hg1
  refine Vg (Yf fo42_1 O) (Vg (Yd 1 O O O na29) (Vg (Yf fo42_1 O) (Vg (Yd 0 O O O na29) ?_)))
  refine Lp (.g O O O) O en21 O (fun w hw=>sameInts_n1 H1 H2 r1.1.1 r2.1.1 r1.1.2 r2.1.2 R.out w (hw.vs _ (by simp)) (hw.vs _ (by simp)) h1.1 h2.1) ?_
  exact Gt 5 O O O
 refine V0 (Ym O) ?_
 apply La 5 (x:=true) O O O O Y O O O O O
 ·
  intro hg2
  refine Vg (Yf fo42_2 O) (Vg (Yd 1 O O O na29) (Vg (Yf fo42_2 O) (Vg (Yd 0 O O O na29) ?_)))
  refine Lp (.g O O O) O en21 O (fun w hw=>sameInts_n1 H1 H2 r1.2.1 r2.2.1 r1.2.2 r2.2.2 R.data w (hw.vs _ (by simp)) (hw.vs _ (by simp)) h1.2 h2.2) ?_
  exact Gt 5 O O O
 refine V0 (Ya O) (Ln (Et (Crt ?_)))
 refine R1 O O fun w' hw=>?_
 exact ⟨O,hw.fr⟩
theorem semBegun_any (G:View) (w:World) (hG:Le G w) (hz:Laid G) :
   Calls Tryz.prog 13 #[] w fun e w'=>e = .returned (.bool true)∧Ext w w':=by
 refine enter Tryz.func13 O 71 O O ?_
 refine CWd (W':=Ws w [] [] [G]) (fun _ e=>by subst e; exact Ws.init (by simp [hG])) ?_
 refine Cs (Cr (V0 (Ya O) (Ln (Et (Cs ?_)))))
 obtain ⟨pu,R2,R3,hpu,hpl,hpb,hck,hE1,hR1,hE2,hR2,hf2,ho2,hE3,hR3,hf3,ht3⟩:=sem_prog
 refine Cr ?_
 refine Ld Y O en29 O (fun q:SP=>.slice q.1 2 q.2) (fun F q=>Sl (rdUn 8) 5 F q.1 q.2 pu) (fun w hw=>(program_any G w (hw.vs _ (by simp)) hz).mono fun e w' ⟨q,h1,h2,h3⟩=>⟨q,h1,h2,by rw [hpu]; exact h3.imp fun b o u ⟨r,h4,h5⟩=>⟨r,h4,h5.uses,h5.parts.imp fun b o x h=>RdPt_mono (VLe.refl _) (Nat.le_refl _) (by decide) b o x h,h5.main.imp fun b o x h=>RdA_mono (VLe.refl _) (Nat.le_refl _) (by decide) b o x h⟩⟩) ?_
 intro F8 r8 hf8 h8
 refine Lb Y O el29 O O O O fun b9=>?_
 refine Lrb 0 (.cells ((([1]:List Int)).flatMap n1C).toArray 3 (0,0)) O O ?_
 refine LW (fun _ h=>h.osT_blk (f:=n1C) (xs:=([1]:List Int)) (c:=1) 0 O n1C_len O (by decide)) ?_
 refine WL.oslview (rd:=rdN1) 0 O n1C_len (fun _ _ _ _ h=>h) fun H9 hH9=>?_
 refine Ld Y O en16 O (fun r:SP×SP=>.tuple #[.agg #[.int .i64 (⟨0,[6,7],[6,0,6,0,0],6⟩:Res).fin,.slice r.1.1 (⟨0,[6,7],[6,0,6,0,0],6⟩:Res).out.length r.1.2,.slice r.2.1 (⟨0,[6,7],[6,0,6,0,0],6⟩:Res).data.length r.2.2,.int .i64 (⟨0,[6,7],[6,0,6,0,0],6⟩:Res).ticks],.int .i64 0]) (fun F r=>Sl rdN1 1 F r.1.1 r.1.2 (⟨0,[6,7],[6,0,6,0,0],6⟩:Res).out∧Sl rdN1 1 F r.2.1 r.2.2 (⟨0,[6,7],[6,0,6,0,0],6⟩:Res).data) (fun w hw=>by
     have h9:=semRun_any F8 8 r8.1 r8.2 pu H9 (some ⟨b9,0,none⟩) 1 [1] 9 w (hw.vs _ (by simp)) h8 hpb (hw.vs _ (by simp)) hH9
     rw [hpl,hE1,hR1] at h9
     exact h9) ?_
 intro F10 r10 hf10 h10
 refine V0 (Ym O) (V0 (Yx O O) (V0 (Yx O O) ?_))
 refine Al Y O zr42 fun b1=>?_
 refine Lst 0 Y O O O sz42 O O O (V0 (Ya O) (Ln (Et (Cs (Cr ?_)))))
 refine Ld Y O en29 O (fun q:SP=>.slice q.1 2 q.2) (fun F q=>Sl (rdUn 8) 5 F q.1 q.2 pu) (fun w hw=>(program_any G w (hw.vs _ (by simp)) hz).mono fun e w' ⟨q,h1,h2,h3⟩=>⟨q,h1,h2,by rw [hpu]; exact h3.imp fun b o u ⟨r,h4,h5⟩=>⟨r,h4,h5.uses,h5.parts.imp fun b o x h=>RdPt_mono (VLe.refl _) (Nat.le_refl _) (by decide) b o x h,h5.main.imp fun b o x h=>RdA_mono (VLe.refl _) (Nat.le_refl _) (by decide) b o x h⟩⟩) ?_
 intro F14 r14 hf14 h14
 refine Lb Y O el29 O O O O fun b15=>?_
 refine Lrb 0 (.cells ((([4]:List Int)).flatMap n1C).toArray 3 (0,0)) O O ?_
 refine LW (fun _ h=>h.osT_blk (f:=n1C) (xs:=([4]:List Int)) (c:=1) 0 O n1C_len O (by decide)) ?_
 refine WL.oslview (rd:=rdN1) 0 O n1C_len (fun _ _ _ _ h=>h) fun H15 hH15=>?_
 refine Ld Y O en16 O (fun r:SP×SP=>.tuple #[.agg #[.int .i64 R2.fin,.slice r.1.1 R2.out.length r.1.2,.slice r.2.1 R2.data.length r.2.2,.int .i64 R2.ticks],.int .i64 0]) (fun F r=>Sl rdN1 1 F r.1.1 r.1.2 R2.out∧Sl rdN1 1 F r.2.1 r.2.2 R2.data) (fun w hw=>by
     have h9:=semRun_any F14 8 r14.1 r14.2 pu H15 (some ⟨b15,0,none⟩) 1 [4] 9 w (hw.vs _ (by simp)) h14 hpb (hw.vs _ (by simp)) hH15
     rw [hpl,hE2,hR2] at h9
     exact h9) ?_
 intro F16 r16 hf16 h16
 refine V0 (Ym O) (V0 (Yx O O) (V0 (Yx O O) ?_))
 refine Al Y O zr42 fun b3=>?_
 refine Lst 0 Y O O O sz42 O O O (V0 (Ya O) (Ln (Et (Cs (Cr ?_)))))
 refine Ld Y O en29 O (fun q:SP=>.slice q.1 2 q.2) (fun F q=>Sl (rdUn 8) 5 F q.1 q.2 pu) (fun w hw=>(program_any G w (hw.vs _ (by simp)) hz).mono fun e w' ⟨q,h1,h2,h3⟩=>⟨q,h1,h2,by rw [hpu]; exact h3.imp fun b o u ⟨r,h4,h5⟩=>⟨r,h4,h5.uses,h5.parts.imp fun b o x h=>RdPt_mono (VLe.refl _) (Nat.le_refl _) (by decide) b o x h,h5.main.imp fun b o x h=>RdA_mono (VLe.refl _) (Nat.le_refl _) (by decide) b o x h⟩⟩) ?_
 intro F20 r20 hf20 h20
 refine Ld Y O en16 O (fun r:SP×SP=>.tuple #[.agg #[.int .i64 R3.fin,.slice r.1.1 R3.out.length r.1.2,.slice r.2.1 R3.data.length r.2.2,.int .i64 R3.ticks],.int .i64 0]) (fun F r=>Sl rdN1 1 F r.1.1 r.1.2 R3.out∧Sl rdN1 1 F r.2.1 r.2.2 R3.data) (fun w hw=>by
     have h9:=semRun_any F20 8 r20.1 r20.2 pu v0 none 0 [] 4 w (hw.vs _ (by simp)) h20 hpb (v0_lew w) Sl.nil
     rw [hpl,hE3,hR3] at h9
     exact h9) ?_
 intro F21 r21 hf21 h21
 refine V0 (Ym O) (V0 (Yx O O) (V0 (Yx O O) ?_))
 refine Al Y O zr42 fun b5=>?_
 refine Lst 0 Y O O O sz42 O O O (V0 (Ya O) (Ln (Et (Cs (Cr ?_)))))
 refine Ld Y O en29 O (fun q:SP=>.slice q.1 2 q.2) (fun F q=>Sl (rdUn 8) 5 F q.1 q.2 pu) (fun w hw=>(program_any G w (hw.vs _ (by simp)) hz).mono fun e w' ⟨q,h1,h2,h3⟩=>⟨q,h1,h2,by rw [hpu]; exact h3.imp fun b o u ⟨r,h4,h5⟩=>⟨r,h4,h5.uses,h5.parts.imp fun b o x h=>RdPt_mono (VLe.refl _) (Nat.le_refl _) (by decide) b o x h,h5.main.imp fun b o x h=>RdA_mono (VLe.refl _) (Nat.le_refl _) (by decide) b o x h⟩⟩) ?_
 intro F24 r24 hf24 h24
 refine Lp Y O en14 O (fun w hw=>by
     have h9:=vcheck_any F24 8 8 r24.1 r24.2 pu w (hw.vs _ (by simp)) (h24.imp fun _ _ _ h=>h) hpb
     rw [hpl,hck] at h9
     exact h9) ?_
 refine V0 (yl_eqiY O O O) (V0 (Ym O) ?_)
 apply La 2 (x:=true) O O O O Y O O O O O
 ·
  intro hg0
  refine Lp (.g O O O) O en14 O (fun w hw=>vcheck_any v0 8 8 none 0 [] w (v0_lew w) Sl.nil (by simp)) ?_
  refine Vg (yl_eqiY O O (by decide +kernel)) ?_
  exact Gt 2 O O O
 refine V0 (Ym O) ?_
 apply La 2 (x:=true) O O O O Y O O O O O
 ·
  intro hg1
  refine Vg (Ym O) (Vg (yl_eqiY O O O) ?_)
  exact Gt 2 O O O
 refine V0 (Ym O) ?_
 apply La 2 (x:=true) O O O O Y O O O O O
 ·
  intro hg2
  refine Vg (Ym O) (Vg (yl_eqiY O O O) ?_)
  exact Gt 2 O O O
 refine V0 (Ym O) ?_
 apply La 2 (x:=true) O O O O Y O O O O O
 ·
  intro hg3
  refine Vg (Ym O) (Vg (yl_eqiY O O O) ?_)
  exact Gt 2 O O O
 refine V0 (Ym O) ?_
 apply La 5 (x:=true) O O O O Y O O O O O
 ·
  intro hg4
  refine Vg (Yda 2 O O ag42 O) ?_
  refine Lb (.g O O O) O el29 O O O O fun b45=>?_
  refine Lrb 0 (.cells ((([6,7]:List Int)).flatMap n1C).toArray 3 (0,0)) O O ?_
  refine LW (fun _ h=>h.osT_blk (f:=n1C) (xs:=([6,7]:List Int)) (c:=2) 0 O n1C_len O (by decide)) ?_
  refine WL.oslview (rd:=rdN1) 0 O n1C_len (fun _ _ _ _ h=>h) fun H45 hH45=>?_
  refine Lb (.g O O O) O el29 O O O O fun b46=>?_
  refine Lrb 0 (.cells ((([6,0,6,0,0]:List Int)).flatMap n1C).toArray 3 (0,0)) O O ?_
  refine LW (fun _ h=>h.osT_blk (f:=n1C) (xs:=([6,0,6,0,0]:List Int)) (c:=5) 0 O n1C_len O (by decide)) ?_
  refine WL.oslview (rd:=rdN1) 0 O n1C_len (fun _ _ _ _ h=>h) fun H46 hH46=>?_
  refine WL.vjoin fun J47 J47a J47b J47f=>?_
  refine Vg (Yb zr42 pl42 O O) ?_
  refine Lp (.g O O O) O en19 O (fun w hw=>sameRes_eq F10 J47 (⟨0,[6,7],[6,0,6,0,0],6⟩:Res) (⟨0,[6,7],[6,0,6,0,0],6⟩:Res) O r10 ((some ⟨b45,0,none⟩,2),(some ⟨b46,0,none⟩,5)) w (hw.vs _ (by simp)) (hw.vs _ (by simp)) h10 ⟨hH45.imp fun b o x h=>RdC.mono J47b h,hH46.imp fun b o x h=>RdC.mono J47a h⟩) ?_
  refine WL.wk ?_ (Gt 5 O O O)
  exact fun _ h=>Ws.drops (h) (fun _ hm=>List.mem_append_right [_] hm)
 refine V0 (Ym O) ?_
 apply La 3 (x:=true) O O O O Y O O O O O
 ·
  intro hg5
  refine Vg (Yf fo42_0 O) (Vg (Yd 1 O O O na3) (Vg (yl_eqiY O O hf2) ?_))
  exact Gt 3 O O O
 refine V0 (Ym O) ?_
 apply La 4 (x:=true) O O O O Y O O O O O
 ·
  intro hg6
  refine Vg (Yf fo42_1 O) (Vg (Yd 1 O O O na29) (Vg (Yn es29 O) ?_))
  refine Vg (yl_eqiY O O (by rw [ho2]; rfl)) ?_
  exact Gt 4 O O O
 refine V0 (Ym O) ?_
 apply La 3 (x:=true) O O O O Y O O O O O
 ·
  intro hg7
  refine Vg (Yf fo42_0 O) (Vg (Yd 0 O O O na3) (Vg (yl_eqiY O O hf3) ?_))
  exact Gt 3 O O O
 refine V0 (Ym O) ?_
 apply La 3 (x:=true) O O O O Y O O O O O
 ·
  intro hg8
  refine Vg (Yf fo42_3 O) (Vg (Yd 0 O O O na3) (Vg (yl_eqiY O O ht3) ?_))
  exact Gt 3 O O O
 refine V0 (Ya O) (Ln (Et (Crt ?_)))
 refine R1 O O fun w' hw=>?_
 exact ⟨O,hw.fr⟩
end Go.Proofs.YtpjekjnehiinnaaGreatDoor
end
section
namespace Go.Proofs.YtpjekjnehiinnaaGreatDoor
open Go.Bw
theorem en54:Enters Tryz.prog 54:=enters_of Tryz.func54 (by kernel_rfl) rfl
theorem unitNamed_any (H:View) (n:Nat) (a:Option Addr) (c:Nat) (l:List TUnit) (s:Tx) (w:World) (hH:Le H w) (hl:Sl (rdUn n) 5 H a c l) :
   Calls Tryz.prog 54 #[.slice a l.length c,st s] w fun e w'=>e = .returned (.int .i64 (posU l s))∧Ext w w':=by
 have hcap:=hl.cap
 have hmax:=hl.max
 refine enter Tryz.func54 O 20 O O ?_
 refine CWd (W':=Ws w [] [] [H]) (fun _ e=>by subst e; exact Ws.init (by simp [hH])) ?_
 refine Cs (Cr (V0 (Ya O) (Ln (Et (Cs (Cs (Cr (V0 (Ya O) (Ln (Et (Cb ?_)))))))))))
 refine CW (ι:=Nat) (fun i=>[(5,.int .i64 (i:Int))]) [(0,_),(1,_)] (fun i=>i≤l.length∧s ∉ (namesU l).take i) (fun i=>l.length-i) 0 ⟨Nat.zero_le _,by simp⟩ (sc O (sc O (sc O sn))) ?_
 intro i ⟨hi,hno⟩
 refine Cs (Cs (Cr (V0 (Ym O) (V0 (Ym O) (V0 (Yn es38 O) (V0 (yl_lt O O) (Ln (Et ?_))))))))
 refine Cc O (fun hc0=>?_) (fun hc0=>?_)
 ·
  have hlt:i<l.length:=by simpa using hc0
  obtain ⟨u,hui⟩:∃q,l[i]? = some q:=⟨_,List.getElem?_eq_getElem hlt⟩
  obtain ⟨pbu,pou,hau,hru⟩:=hl.elt i u hui
  obtain ⟨ru_,hrowu,hruu⟩:=hru
  have hnx:=namesU_get hui
  refine Ck (Et (Cs (Cb (Cs (Cr (V0 (Ym O) (V0 (Ym O) (V0 (Yo es38 O O hau hlt) (V0 (Yf fo26_0 O) (V0 (yl_ld 0 na9 O O (hrowu 0 _ O)) ?_))))))))))
  refine V0 (Ym O) (V0 (yl_eqs O O) (Ln (Et ?_)))
  refine Cc O (fun hc1=>?_) (fun hc1=>?_)
  ·
   have he:u.nm=s:=by simpa using hc1
   subst he
   refine Cs (Cr (V0 (Ym O) (V0 (Ya O) (Ln (Et (Crt (Ebr (Er (Er (Ebr (Er ?_)))))))))))
   refine R1 O O fun w' hw=>?_
   exact ⟨by rw [posU_at hnx hno],hw.fr⟩
  have hne:¬u.nm=s:=by simpa using hc1
  refine Ck (Eb (Et (Cr (V0 (Ym O) ?_))))
  refine V0 (Yi O O O (by omega)) ?_
  refine V0 (Ya O) (Ln ?_)
  exact Ea (i+1) (by omega) ⟨by omega,by rw [List.take_add_one,hnx]; simp; exact ⟨hno,fun e=>hne e.symm⟩⟩ (sc O (sc O (sc O sn))) (fun _ h=>h)
 have hge:l.length≤i:=by simp at hc0; omega
 rw [List.take_of_length_le (by rw [namesU_len]; exact hge)] at hno
 refine Ce (Ex (Ex (Ebh (Et (Cs (Cr (V0 (Ya O) (Ln (Et (Crt ?_))))))))))
 refine R1 O O fun w' hw=>?_
 exact ⟨by rw [posU_none hno],hw.fr⟩
theorem usesOf_any (H:View) (n:Nat) (a:Option Addr) (c:Nat) (l:List TUnit) (ni:Nat) (u:TUnit) (w:World) (hH:Le H w) (hl:Sl (rdUn n) 5 H a c l) (hui:l[ni]? = some u) (hub:u.uses.length≤1048576) :
   Calls Tryz.prog 35 #[.slice a l.length c,.int .i64 (ni:Int)] w fun e w'=>∃r:SP,e = .returned (.slice r.1 u.uses.length r.2)∧Ext w w'∧Sl rdN1 1 (nv w w') r.1 r.2 (u.uses.map (posU (l.take ni))):=by
 have hcap:=hl.cap
 have hmax:=hl.max
 have hlt:=(List.getElem?_eq_some_iff.1 hui).1
 obtain ⟨pbu,pou,hau,ru_,hrowu,hruu⟩:=hl.elt ni u hui
 have hcu:=hruu.uses.cap
 have hmu:=hruu.uses.max
 have htl:(l.take ni).length=ni:=by rw [List.length_take]; omega
 refine enter Tryz.func35 O 33 O O ?_
 refine CWd (W':=Ws w [] [] [H]) (fun _ e=>by subst e; exact Ws.init (by simp [hH])) ?_
 refine Cs (Cr (V0 (Ya O) (Ln (Et (Cs (Cr (V0 (Ya O) (Ln (Et (Cs (Cs ?_)))))))))))
 refine CWd (fun _ h=>h.osl_nil 3 1) ?_
 refine Cr (V0 (Ya O) (Ln (Et (Cb ?_))))
 refine CLk (ι:=Nat×SP) (fun qq=>[(6,.int .i64 (qq.1:Int)),(5,.slice qq.2.1 ((u.uses.take qq.1).map (posU (l.take ni))).length qq.2.2)]) [(0,_),(1,_),(4,_)] (fun qq=>Ws w [] [osT 3 1 n1C qq.2.1 qq.2.2 ((u.uses.take qq.1).map (posU (l.take ni)))] [H]) (fun qq=>qq.1≤u.uses.length) (fun qq=>u.uses.length-qq.1) (0,(none,0)) (Nat.zero_le _) (sc O (sc O (sc O (sc O (sc O sn))))) (fun _ h=>h) ?_
 intro qq hq
 refine Cs (Cs (Cr (V0 (Ym O) (V0 (Ym O) (V0 (Ym O) (V0 (Yo es38 O O hau hlt) (V0 (Yf fo26_1 O) ?_)))))))
 refine V0 (yl_ld 0 na22 O O (hrowu 1 _ O)) (V0 (Yn es22 O) (V0 (yl_lt O O) (Ln (Et ?_))))
 refine Cc O (fun hc0=>?_) (fun hc0=>?_)
 ·
  have hlts:qq.1<u.uses.length:=by simpa using hc0
  obtain ⟨s,hsi⟩:∃q,u.uses[qq.1]? = some q:=⟨_,List.getElem?_eq_getElem hlts⟩
  obtain ⟨pbs,pos,has,hrs⟩:=hruu.uses.elt qq.1 s hsi
  have hrs:RdC H pbs (pos+qq.1*1) (strC s):=hrs
  have hml:((u.uses.take qq.1).map (posU (l.take ni))).length=qq.1:=by rw [List.length_map,List.length_take]; omega
  refine Ck (Et (Cs (Cb ?_)))
  refine WC.draws1 0 [(0,true),(1,true),(2,true),(3,true),(4,true),(5,true),(6,true),(7,true),(8,true),(9,true),(10,true),(11,true),(12,false),(13,false),(14,false),(15,true)] mixed (by kernel_rfl) (fun _ _ _ d _ h=>by cases d<;>exact h) ?_
  refine D0 O (Wp 0) (Ym O) (D0 O (Wp 0) (Ym O) (D0 O (Wp 0) (Ym O) ?_))
  refine D0 O (Wp 0) (yl_slhz ni es38 O O O (by omega)) ?_
  refine D0 O (Wp 0) (Ym O) (D0 O (Wp 0) (Ym O) (D0 O (Wp 0) (Yo es38 O O hau hlt) (D0 O (Wp 0) (Yf fo26_1 O) (D0 O (Wp 0) (yl_ld 0 na22 O O (hrowu 1 _ O)) (D0 O (Wp 0) (Ym O) ?_)))))
  refine D0 O (Wp 0) (Yo es22 O O has hlts) (D0 O (Wp 0) (yl_ld 0 na9 O O (hrs 0 _ O)) ?_)
  refine De O (Wp 0) ?_
  refine Lp Y O en54 O (fun w hw=>by
        have h9:=unitNamed_any H n a c (l.take ni) s w (hw.vs _ (by simp)) (hl.take ni)
        rw [htl] at h9
        exact h9) ?_
  refine Ln (Ed ?_)
  refine De O (Wp 0) ?_
  refine Lb Y O el29 O O O O fun b30=>?_
  refine Lrb 0 (.cells (n1C (posU (l.take ni) s)).toArray 3 (0,0)) O (O) ?_
  refine Ln (Ed ?_)
  refine De O (fun _ h=>(Wo 0 (Wd 1 h):)) ?_
  refine LA (posU (l.take ni) s) 1 0 Y O el29 O O O O O O (by omega) (by omega) fun a31 c31=>?_
  rw [show (u.uses.take qq.1).map (posU (l.take ni))++[posU (l.take ni) s]=(u.uses.take (qq.1+1)).map (posU (l.take ni)) by rw [List.take_add_one,hsi]; simp]
  refine Ln (Ed (D0 O (fun _ h=>(Wo 0 (Wd 1 h):)) (Ya O) ?_))
  refine WD.nil (fun _ h=>(Wo 0 (Wd 1 h):)) ?_
  refine Eb (Et (Cr (V0 (Ym O) ?_)))
  refine V0 (Yi O O O (by omega)) ?_
  refine V0 (Ya O) (Ln ?_)
  exact Ea ((qq.1+1,(a31,c31)):Nat×SP) (by show _-(qq.1+1)<_; omega) (by show qq.1+1≤_; omega) (sc O (sc O (sc O (sc O (sc O sn))))) (fun _ h=>Wd 1 h)
 have hge:qq.1=u.uses.length:=by simp at hc0; omega
 refine Ce (Ex (Ex (Ebh (Et (Cs (Cr (V0 (Ym O) (V0 (Ya O) (Ln (Et (Crt ?_)))))))))))
 refine R1 O O fun w' hw=>?_
 rw [hge,List.take_length] at hw
 rw [hge,List.take_length,List.length_map]
 exact ⟨qq.2,O,hw.fr,hw.slT 0 O n1C_len (fun _ _ _ _ h=>h)⟩
end Go.Proofs.YtpjekjnehiinnaaGreatDoor
end
section
namespace Go.Proofs.YtpjekjnehiinnaaGreatDoor
open Go.Bw
def unitAt (l:List TUnit) (s:Tx):TUnit:=(l[(idxOf s (namesU l) 0).getD 0]?).getD noUnit
theorem unitAt_at {l:List TUnit} {s:Tx} {p:Nat} {z:TUnit} (hp:idxOf s (namesU l) 0=some p) (hz:l[p]? = some z):unitAt l s=z:=by unfold unitAt; rw [hp]; show (l[p]?).getD noUnit=z; rw [hz]; rfl
theorem pl_prog {l:List TUnit} {u:TUnit} (h:∀s ∈ u.uses,∃p z,idxOf s (namesU l) 0=some p∧l[p]? = some z):PlOk (u::u.uses.map (unitAt l)) u.uses.length false (knM u::usesKn l u):=by
 refine ⟨by rw [usesKn_map]; simp,(fun e=>by cases e),fun mi h1 _=>?_⟩
 cases mi with
 | zero=>exact ⟨u,rfl,rfl⟩
 | succ j=>
   obtain ⟨s,hs⟩:∃s,u.uses[j]? = some s:=⟨_,List.getElem?_eq_getElem (by omega)⟩
   obtain ⟨p,z,hp,hz⟩:=h s (List.mem_of_getElem? hs)
   refine ⟨z,?_,?_⟩
   · rw [List.getElem?_cons_succ,List.getElem?_map,hs]; exact congrArg some (unitAt_at hp hz)
   · rw [List.getElem?_cons_succ,usesKn_map,List.getElem?_map,hs]; exact congrArg some (useK_at hp hz)
theorem en35:Enters Tryz.prog 35:=enters_of Tryz.func35 (by kernel_rfl) rfl
theorem checkUnits_any (H:View) (n:Nat) (a:Option Addr) (c:Nat) (l:List TUnit) (w:World) (hH:Le H w) (hl:Sl (rdUn n) 5 H a c l) (hb:∀u ∈ l,u.uses.length≤1048576) :
   Calls Tryz.prog 15 #[.slice a l.length c] w fun e w'=>e = .returned (.int .i64 (checkUs l))∧Ext w w':=by
 have hcap:=hl.cap
 have hmax:=hl.max
 refine enter Tryz.func15 O 101 O O ?_
 refine CWd (W':=Ws w [] [] [H]) (fun _ e=>by subst e; exact Ws.init (by simp [hH])) ?_
 refine Cs (Cr (V0 (Ya O) (Ln (Et (Cs (Cs (Cr (V0 (Ym O) (V0 (Yn es38 O) ?_)))))))))
 refine Lp Y O en34 O (fun w hw=>within_any _ _ _ w) ?_
 refine V0 (yl_not O) (Ln (Et ?_))
 refine Cc O (fun hc0=>?_) (fun hc0=>?_)
 ·
  refine Cs (Cr (V0 (Ya O) (Ln (Et (Crt (Er ?_))))))
  refine R1 O O fun w' hw=>?_
  have hx:(decide ((l.length:Int)<1)||decide (4<(l.length:Int)))=true:=by unfold within at hc0; simp at hc0 ⊢; omega
  exact ⟨by rw [checkUs,if_pos hx],hw.fr⟩
 have hl4:¬(decide ((l.length:Int)<1)||decide (4<(l.length:Int)))=true:=by unfold within at hc0; simp at hc0 ⊢; omega
 have hl5:l.length≤4:=by simp at hl4; omega
 refine Ck (Et (Cs (Cr (V0 (Ya O) (Ln (Et (Cs (Cs ?_))))))))
 refine CWd (fun _ h=>h.osl_nil 9 1) ?_
 refine Cr (V0 (Ya O) (Ln (Et (Cb ?_))))
 refine CLk (ι:=Nat×SP) (fun gq=>[(4,.int .i64 (gq.1:Int)),(3,.slice gq.2.1 ((namesU l).take gq.1).length gq.2.2)]) [(0,_)] (fun gq=>Ws w [] [osT 9 1 strC gq.2.1 gq.2.2 ((namesU l).take gq.1)] [H]) (fun gq=>gq.1≤l.length∧∀(n:Nat) v,n<gq.1→l[n]? = some v→∀s ∈ v.uses,s ∈ (namesU l).take n) (fun gq=>l.length-gq.1) (0,(none,0)) ⟨Nat.zero_le _,fun n v h=>absurd h (Nat.not_lt_zero _)⟩ (sc O (sc O (sc O sn))) (fun _ h=>h) ?_
 intro gq ⟨hgi,hA⟩
 refine Cs (Cs (Cr (V0 (Ym O) (V0 (Ym O) (V0 (Yn es38 O) (V0 (yl_lt O O) (Ln (Et ?_))))))))
 refine Cc O (fun hc1=>?_) (fun hc1=>?_)
 ·
  have hlt:gq.1<l.length:=by simpa using hc1
  obtain ⟨u,hui⟩:∃q,l[gq.1]? = some q:=⟨_,List.getElem?_eq_getElem hlt⟩
  obtain ⟨pbu,pou,hau,hru⟩:=hl.elt gq.1 u hui
  obtain ⟨ru_,hrowu,hruu⟩:=hru
  have hcu:=hruu.uses.cap
  have hmu:=hruu.uses.max
  have hnx:=namesU_get hui
  have hnl:((namesU l).take gq.1).length=gq.1:=by rw [List.length_take,namesU_len]; omega
  refine Ck (Et (Cs (Cb (Cs (Cr (V0 (Ym O) (V0 (Ym O) (V0 (Ym O) (V0 (Yo es38 O O hau hlt) (V0 (Yf fo26_0 O) ?_))))))))))
  refine V0 (yl_ld 0 na9 O O (hrowu 0 _ O)) ?_
  refine Lb Y O el22 O O O O fun b29=>?_
  refine Lrb 0 (.cells (strC u.nm).toArray 9 (0,0)) O (O) ?_
  refine LA (u.nm) 1 0 Y O el22 O O O O O O (by omega) (by omega) fun a30 c30=>?_
  rw [show (namesU l).take gq.1++[u.nm]=(namesU l).take (gq.1+1) by rw [List.take_add_one,hnx]; rfl]
  refine V0 (Ya O) (Ln (Et (Cs (Cr (V0 (Ym O) (V0 (Ym O) ?_))))))
  refine Ld Y O en35 O (fun r:SP=>.slice r.1 u.uses.length r.2) (fun F r=>Sl rdN1 1 F r.1 r.2 (u.uses.map (posU (l.take gq.1)))) (fun w hw=>usesOf_any H n a c l gq.1 u w (hw.vs _ (by simp)) hl hui (hb u (List.mem_of_getElem? hui))) ?_
  intro F33 r33 hf33 h33
  refine V0 (Ya O) (Ln (Et (Cs (Cr (V0 (Ya O) (Ln (Et (Cb ?_))))))))
  refine CW (ι:=Nat) (fun j=>[(6,.int .i64 (j:Int))]) [(0,_),(3,_),(4,_),(5,_)] (fun j=>j≤u.uses.length∧∀s ∈ u.uses.take j,s ∈ (namesU l).take gq.1) (fun j=>u.uses.length-j) 0 ⟨Nat.zero_le _,by simp⟩ (sc O (sc O (sc O (sc O (sc O sn))))) ?_
  intro j ⟨hj,hin⟩
  refine Cs (Cs (Cr (V0 (Ym O) (V0 (Ym O) (V0 (Yn es29 O) (V0 (yl_lt O O) (Ln (Et ?_))))))))
  refine Cc O (fun hc2=>?_) (fun hc2=>?_)
  ·
   have hlj:j<u.uses.length:=by simpa using hc2
   obtain ⟨s,hsi⟩:∃s,u.uses[j]? = some s:=⟨_,List.getElem?_eq_getElem hlj⟩
   obtain ⟨pbs,pos,has,hrs⟩:=h33.elt j (posU (l.take gq.1) s) (by rw [List.getElem?_map,hsi]; rfl)
   refine Ck (Et (Cs (Cb (Cs (Cr (V0 (Ym O) (V0 (Ym O) (V0 (Yo es29 O O has hlj) (V0 (yl_ld 0 na3 O O (hrs 0 _ O)) (V0 (yl_lt O O) ?_))))))))))
   refine Ln (Et ?_)
   refine Cc O (fun hc3=>?_) (fun hc3=>?_)
   ·
    have hno:s ∉ (namesU l).take gq.1:=by rw [←namesU_take]; exact posU_neg.1 (by simpa using hc3)
    refine Cs (Cr (V0 (Ya O) (Ln (Et (Crt (Ebr (Er (Er (Ebr (Ebr (Er (Er (Ebr (Er ?_))))))))))))))
    refine R1 O O fun w' hw=>?_
    exact ⟨by rw [checkUs,if_neg hl4,if_pos (ahead_no hui (List.mem_of_getElem? hsi) hno)],hw.fr⟩
   have hyes:s ∈ (namesU l).take gq.1:=by
     rw [←namesU_take]
     exact Classical.byContradiction fun h=>absurd (posU_neg.2 h) (by simpa using hc3)
   refine Ck (Eb (Et (Cr (V0 (Ym O) ?_))))
   refine V0 (Yi O O O (by omega)) ?_
   refine V0 (Ya O) (Ln ?_)
   exact Ea (j+1) (by omega) ⟨by omega,mem_take_snoc hsi hin hyes⟩ (sc O (sc O (sc O (sc O (sc O sn))))) (fun _ h=>h)
  have hge2:u.uses.length≤j:=by simp at hc2; omega
  rw [List.take_of_length_le hge2] at hin
  refine Ce (Ex (Ex (Ebh (Eb (Et (Cr (V0 (Ym O) ?_)))))))
  refine V0 (Yi O O O (by omega)) ?_
  refine V0 (Ya O) (Ln ?_)
  exact Ea ((gq.1+1,(a30,c30)):Nat×SP) (by show _-(gq.1+1)<_; omega) ⟨(by show gq.1+1≤_; omega),fun n v hn hv s hs=>by
      rcases Nat.lt_succ_iff_lt_or_eq.1 hn with h | h
      · exact hA n v h hv s hs
      · subst h; rw [hui] at hv; injection hv with hv; subst hv; exact hin s hs⟩ (sc rfl (sc rfl (sc rfl sn))) (fun _ h=>Ws.drops (Wd 1 h) (fun _ hm=>List.mem_append_right [_] hm))
 have hge:gq.1=l.length:=by simp at hc1; omega
 rw [hge,List.take_of_length_le (show (namesU l).length≤l.length by rw [namesU_len]; exact Nat.le_refl _)]
 have hA:∀(n:Nat) v,l[n]? = some v→∀s ∈ v.uses,s ∈ (namesU l).take n:=fun n v hv=>hA n v (by have:=(List.getElem?_eq_some_iff.1 hv).1; omega) hv
 have hah:aheadB l=true:=ahead_yes hA
 refine Ce (Ex (Ex (Ebh (Et (Cs (Cs ?_))))))
 refine WC.oslview (rd:=rdStr) 0 O strC_len (fun _ _ _ _ h=>h) fun HN hHN=>?_
 refine Cr (V0 (Ym O) ?_)
 refine Lp Y O en36 O (fun w hw=>twice_any HN gq.2.1 gq.2.2 (namesU l) w (hw.vs _ (by simp)) hHN) ?_
 refine Ln (Et ?_)
 refine Cc O (fun hc4=>?_) (fun hc4=>?_)
 ·
  have htw:twiceB (namesU l)=true:=hc4
  refine Cs (Cr (V0 (Ya O) (Ln (Et (Crt (Er ?_))))))
  refine R1 O O fun w' hw=>?_
  exact ⟨by rw [checkUs,if_neg hl4,if_neg (by rw [hah]; decide),if_pos htw],hw.fr⟩
 have htw:twiceB (namesU l)=false:=hc4
 have hnd:=nodup_twice.2 htw
 refine Ck (Et (Cs (Cr (V0 (Ya O) (Ln (Et (Cs (Cs (Cr (V0 (Ya O) (Ln (Et (Cb ?_)))))))))))))
 refine CW (ι:=Nat×Int) (fun g=>[(8,.int .i64 (g.1:Int)),(7,.int .i64 g.2)]) [(0,_)] (fun g=>g.1≤l.length∧(0≤g.2∧g.2≤512)∧dataOk (l.drop g.1) (512-g.2)=dataOk l 512) (fun g=>l.length-g.1) (0,0) ⟨Nat.zero_le _,by omega,O⟩ (sc O (sc O (sc O sn))) ?_
 intro g ⟨hgi,hg2,hdk⟩
 refine Cs (Cs (Cr (V0 (Ym O) (V0 (Ym O) (V0 (Yn es38 O) (V0 (yl_lt O O) (Ln (Et ?_))))))))
 refine Cc O (fun hc5=>?_) (fun hc5=>?_)
 ·
  have hlt:g.1<l.length:=by simpa using hc5
  obtain ⟨u,hui⟩:∃q,l[g.1]? = some q:=⟨_,List.getElem?_eq_getElem hlt⟩
  obtain ⟨pbu,pou,hau,hru⟩:=hl.elt g.1 u hui
  obtain ⟨ru_,hrowu,hruu⟩:=hru
  refine Ck (Et (Cs (Cb (Cs (Cs (Cr (V0 (Ym O) (V0 (Ym O) (V0 (Yo es38 O O hau hlt) (V0 (Yf fo26_2 O) ?_))))))))))
  refine V0 (yl_ld 1 na3 O O (hrowu 2 _ O)) (V0 (Ym O) ?_)
  refine V0 (yl_sub O O (by omega)) ?_
  refine Lp Y O en34 O (fun w hw=>within_any _ _ _ w) ?_
  refine V0 (yl_not O) (Ln (Et ?_))
  refine Cc O (fun hc6=>?_) (fun hc6=>?_)
  ·
   have hx6:(decide (u.data<0)||decide (512-g.2<u.data))=true:=by unfold within at hc6; simp at hc6 ⊢; omega
   have hdo:dataOk l 512=false:=by rw [←hdk,dataOk_at _ hui,hx6]; rfl
   refine Cs (Cr (V0 (Ya O) (Ln (Et (Crt (Er (Ebr (Er (Er (Ebr (Er ?_)))))))))))
   refine R1 O O fun w' hw=>?_
   exact ⟨by rw [checkUs,if_neg hl4,if_neg (by rw [hah]; decide),if_neg (by rw [htw]; decide),if_pos hdo],hw.fr⟩
  have hdb:0≤u.data∧u.data≤512-g.2:=by unfold within at hc6; simp at hc6; omega
  have hdk2:dataOk (l.drop (g.1+1)) (512-(g.2+u.data))=dataOk l 512:=by
    rw [←hdk,dataOk_at _ hui,show (decide (u.data<0)||decide (512-g.2<u.data))=false by simp; omega,show 512-(g.2+u.data)=512-g.2-u.data by omega]
    rfl
  refine Ck (Et (Cr (V0 (Ym O) (V0 (Ym O) (V0 (Ym O) (V0 (Yo es38 O O hau hlt) (V0 (Yf fo26_2 O) ?_)))))))
  refine V0 (yl_ld 1 na3 O O (hrowu 2 _ O)) ?_
  refine V0 (yl_add O O (by omega)) ?_
  refine V0 (Ya O) (Ln (Eb (Et (Cr (V0 (Ym O) ?_)))))
  refine V0 (Yi O O O (by omega)) ?_
  refine V0 (Ya O) (Ln ?_)
  exact Ea ((g.1+1,g.2+u.data):Nat×Int) (by show _-(g.1+1)<_; omega) ⟨(by show g.1+1≤_; omega),(by show 0≤g.2+u.data∧g.2+u.data≤512; omega),hdk2⟩ (sc O (sc O (sc O sn))) (fun _ h=>h)
 have hge6:l.length≤g.1:=by simp at hc5; omega
 have hdo:dataOk l 512=true:=by rw [←hdk,List.drop_eq_nil_of_le hge6]; rfl
 refine Ce (Ex (Ex (Ebh (Et (Cs (Cs (Cr (V0 (Ya O) (Ln (Et (Cb ?_)))))))))))
 refine CW (ι:=Nat×Unit) (fun g=>[(9,.int .i64 (g.1:Int))]) [(0,_)] (fun g=>g.1≤l.length∧(l.take g.1).all (fun u=>fineU u (usesKn l u))=true) (fun g=>l.length-g.1) (0,()) ⟨Nat.zero_le _,O⟩ (sc O (sc O sn)) ?_
 intro g ⟨hgi,hall⟩
 refine Cs (Cs (Cr (V0 (Ym O) (V0 (Ym O) (V0 (Yn es38 O) (V0 (yl_lt O O) (Ln (Et ?_))))))))
 refine Cc O (fun hc7=>?_) (fun hc7=>?_)
 ·
  have hlt:g.1<l.length:=by simpa using hc7
  obtain ⟨u,hui⟩:∃q,l[g.1]? = some q:=⟨_,List.getElem?_eq_getElem hlt⟩
  obtain ⟨pbu,pou,hau,hru⟩:=hl.elt g.1 u hui
  obtain ⟨ru_,hrowu,hruu⟩:=hru
  have hcu:=hruu.uses.cap
  have hmu:=hruu.uses.max
  have hub:=hb u (List.mem_of_getElem? hui)
  have hpu:∀s ∈ u.uses,∃p z,idxOf s (namesU l) 0=some p∧l[p]? = some z:=fun s hs=>by
    obtain ⟨p,z,_,_,h1,h2⟩:=posU_take (hA g.1 u hui s hs)
    exact ⟨p,z,h1,h2⟩
  refine Ck (Et (Cs (Cb (Cs (Cr (V0 (Ya O) (Ln (Et (Cs (Cr (V0 (Ym O) (V0 (Ym O) ?_))))))))))))
  refine Ld Y O en35 O (fun r:SP=>.slice r.1 u.uses.length r.2) (fun F r=>Sl rdN1 1 F r.1 r.2 (u.uses.map (posU (l.take g.1)))) (fun w hw=>usesOf_any H n a c l g.1 u w (hw.vs _ (by simp)) hl hui (hb u (List.mem_of_getElem? hui))) ?_
  intro F77 r77 hf77 h77
  refine V0 (Ya O) (Ln (Et (Cs (Cs ?_))))
  refine CWd (fun _ h=>h.osl_nil 26 5) ?_
  refine Cr (V0 (Ya O) (Ln (Et (Cb ?_))))
  refine CLk (ι:=Nat×List XU×SP) (fun q=>[(12,.int .i64 (q.1:Int)),(10,.slice q.2.2.1 q.2.1.length q.2.2.2)]) [(0,_),(9,_),(11,_)] (fun q=>Ws w [] [osT 26 5 XU.cells q.2.2.1 q.2.2.2 q.2.1] [F77,HN,H]) (fun q=>q.1≤u.uses.length∧q.2.1.map (·.1)=(u.uses.take q.1).map (unitAt l)∧∀e ∈ q.2.1,RdU n n H e.2 e.1) (fun q=>u.uses.length-q.1) (0,[],(none,0)) ⟨Nat.zero_le _,O,by simp⟩ (sc O (sc O (sc O (sc O (sc O sn))))) (fun _ h=>h) ?_
  intro q ⟨hqi,hmq,hX⟩
  refine Cs (Cs (Cr (V0 (Ym O) (V0 (Ym O) (V0 (Yn es29 O) (V0 (yl_lt O O) (Ln (Et ?_))))))))
  refine Cc O (fun hc8=>?_) (fun hc8=>?_)
  ·
   have hlj:q.1<u.uses.length:=by simpa using hc8
   obtain ⟨s,hsi⟩:∃s,u.uses[q.1]? = some s:=⟨_,List.getElem?_eq_getElem hlj⟩
   obtain ⟨pbs,pos,has,hrs⟩:=h77.elt q.1 (posU (l.take g.1) s) (by rw [List.getElem?_map,hsi]; rfl)
   obtain ⟨sp,sz,hsp,hspn,hspi,hszi⟩:=posU_take (hA g.1 u hui s (List.mem_of_getElem? hsi))
   obtain ⟨pbz,poz,haz,rz,hrowz,hruz⟩:=hl.elt sp sz hszi
   have hpl:=(List.getElem?_eq_some_iff.1 hszi).1
   rw [hsp] at hrs
   have hrs:RdC F77 pbs (pos+q.1*1) (n1C (sp:Int)):=hrs
   have hqe:q.2.1.length=q.1:=by rw [←List.length_map,hmq,List.length_map,List.length_take]; omega
   refine Ck (Et (Cs (Cb (Cr (V0 (Ym O) (V0 (Ym O) (V0 (Ym O) (V0 (Ym O) (V0 (Yo es29 O O has hlj) ?_)))))))))
   refine V0 (yl_ld 0 na3 O O (hrs 0 _ O)) (V0 (Yo es38 O O haz hpl) (V0 (yl_lda 2 ag26 O O O (hrowz)) ?_))
   refine Lb Y O el38 O O O O fun b92=>?_
   refine Lrb 0 (.cells (XU.cells (sz,rz)).toArray 26 (0,0)) O (O) ?_
   refine LA (((sz,rz):XU)) 1 0 Y O el38 O O O O O O (by omega) (by omega) fun a93 c93=>?_
   refine V0 (Ya O) (Ln (Eb (Et (Cr (V0 (Ym O) ?_)))))
   refine V0 (Yi O O O (by omega)) ?_
   refine V0 (Ya O) (Ln ?_)
   exact Ea ((q.1+1,q.2.1++[(sz,rz)],(a93,c93)):Nat×List XU×SP) (by show _-(q.1+1)<_; omega) ⟨(by show q.1+1≤_; omega),by show (q.2.1++[(sz,rz)]).map (·.1)=_; rw [List.map_append,hmq,List.take_add_one,hsi]; simp [unitAt_at hspi hszi],fun e he=>by
       rcases List.mem_append.1 he with he | he
       · exact hX e he
       · rw [List.mem_singleton] at he; subst he; exact hruz⟩ (sc rfl (sc rfl (sc rfl (sc rfl (sc rfl sn))))) (fun _ h=>Wd 1 h)
  have hge8:u.uses.length≤q.1:=by simp at hc8; omega
  have hmapU:q.2.1.map (·.1)=u.uses.map (unitAt l):=by rw [hmq,List.take_of_length_le hge8]
  have hql:q.2.1.length=u.uses.length:=by rw [←List.length_map,hmapU,List.length_map]
  refine Ce (Ex (Ex (Ebh (Et (Cs ?_)))))
  refine WC.oslview (rd:=rdXU) 0 O XU.cells_len (fun _ _ _ _ h=>h) fun K hK=>?_
  refine Cr (V0 (Ym O) (V0 (Ym O) (V0 (Yo es38 O O hau hlt) (V0 (yl_lda 3 ag26 O O O (hrowu)) (V0 (Ym O) ?_)))))
  refine Lp Y O en26 O (fun w hw=>by
        have h8:=slU_of (ke:=n) (k:=n) hK (hv_of (hw.vs _ (by simp))) fun e he=>(hX e he).mv (hv_of (hw.vs H (by simp)))
        have h9:=unitFine_any H (hv w) n n u ru_ (q.2.1.map (·.1)) q.2.2.1 q.2.2.2 false (usesKn l u) w (hw.vs _ (by simp)) (hv_le w) hruu h8 (by rw [List.length_map,hql]; exact hb u (List.mem_of_getElem? hui)) (by rw [hmapU]; exact pl_prog hpu)
        rw [List.length_map] at h9
        exact h9) ?_
  refine V0 (yl_not O) (Ln (Et ?_))
  refine Cc O (fun hc9=>?_) (fun hc9=>?_)
  ·
   have hx:fineU u (usesKn l u)=false:=by simpa using hc9
   refine Cs (Cr (V0 (Ya O) (Ln (Et (Crt (Ebr (Er (Er (Ebr (Er ?_))))))))))
   refine R1 O O fun w' hw=>?_
   exact ⟨by rw [checkUs,if_neg hl4,if_neg (by rw [hah]; decide),if_neg (by rw [htw]; decide),if_neg (by rw [hdo]; decide),if_neg (by rw [all_hit (f:=fun u=>fineU u (usesKn l u)) hui hx]; decide)],hw.fr⟩
  have hx:fineU u (usesKn l u)=true:=by simpa using hc9
  refine Ck (Eb (Et (Cr (V0 (Ym O) ?_))))
  refine V0 (Yi O O O (by omega)) ?_
  refine V0 (Ya O) (Ln ?_)
  exact Ea ((g.1+1,()):Nat×Unit) (by show _-(g.1+1)<_; omega) ⟨by show g.1+1≤_; omega,all_take (f:=fun u=>fineU u (usesKn l u)) hui hall hx⟩ (sc O (sc O sn)) (fun _ h=>Ws.drops (h) (fun _ hm=>List.mem_append_right [_,_] hm))
 have hge7:l.length≤g.1:=by simp at hc7; omega
 rw [List.take_of_length_le hge7] at hall
 refine Ce (Ex (Ex (Ebh (Et (Cs (Cr (V0 (Ya O) (Ln (Et (Crt ?_))))))))))
 refine R1 O O fun w' hw=>?_
 exact ⟨by rw [checkUs,if_neg hl4,if_neg (by rw [hah]; decide),if_neg (by rw [htw]; decide),if_neg (by rw [hdo]; decide),if_pos hall],hw.fr⟩
end Go.Proofs.YtpjekjnehiinnaaGreatDoor
end
section
namespace Go.Proofs.YtpjekjnehiinnaaGreatDoor
open Go.Bw
def mathN (op a b:Int):Int×Bool:=if op=9 then (IntKind.i64.wrap (a+b),true) else if op=10 then (IntKind.i64.wrap (a-b),true) else if op=11 then (IntKind.i64.wrap (a*b),true)
 else if op=12 then (if b=0 then (0,false) else (IntKind.i64.wrap (a.tdiv b),true)) else if op=13 then (if b=0 then (0,false) else (a.tmod b,true)) else if op=14 then (bitB (a==b),true) else (bitB (decide (a<b)),true)
theorem math_N {op:Int} (h:9≤op∧op≤15) (a b:Int) (w:Wm):mathR op a b w=if (mathN op a b).2=true then .ok (mathN op a b).1 w else .ov 1 w:=by
 unfold mathR mathN
 by_cases h1:op=9
 · rw [if_pos h1,if_pos h1]; rfl
 rw [if_neg h1,if_neg h1]
 by_cases h2:op=10
 · rw [if_pos h2,if_pos h2]; rfl
 rw [if_neg h2,if_neg h2]
 by_cases h3:op=11
 · rw [if_pos h3,if_pos h3]; rfl
 rw [if_neg h3,if_neg h3]
 by_cases h4:op=12
 · rw [if_pos h4,if_neg (by omega),if_neg (by omega),if_pos h4]
   by_cases hb:b=0
   · rw [if_pos hb,if_pos hb]; rfl
   · rw [if_neg hb,if_neg hb]; rfl
 rw [if_neg h4,if_neg h4]
 by_cases h5:op=13
 · rw [if_pos h5,if_neg (by omega),if_neg (by omega)]
   by_cases hb:b=0
   · rw [if_pos hb,if_pos hb]; rfl
   · rw [if_neg hb,if_neg hb]; rfl
 rw [if_neg h5]
 by_cases h6:op=14
 · rw [if_pos h6,if_pos h6]; rfl
 rw [if_neg h6,if_neg h6,if_pos (by omega)]; rfl
theorem use_in {l:List TUnit} (ho:ProgOk l) {u:Nat} {x:TUnit} (hx:l[u]? = some x) {s:Tx} (hs:s ∈ x.uses):s ∈ (namesU l).take u:=by
 have h1:=List.all_eq_true.1 ho.ahead u (List.mem_range.2 (List.getElem?_eq_some_iff.1 hx).1)
 rw [hx] at h1
 simpa using List.all_eq_true.1 h1 s hs
theorem en141:Enters Tryz.prog 141:=enters_of Tryz.func141 (by kernel_rfl) rfl
theorem fo94_7:fieldOff Tryz.prog 94 7=some 7:=by kernel_rfl
theorem fo94_4:fieldOff Tryz.prog 94 4=some 4:=by kernel_rfl
theorem fo94_5:fieldOff Tryz.prog 94 5=some 5:=by kernel_rfl
theorem fo132_0:fieldOff Tryz.prog 132 0=some 0:=by kernel_rfl
theorem fo94_0:fieldOff Tryz.prog 94 0=some 0:=by kernel_rfl
theorem rtruth_any (b:Bool) (w:World) :
   Calls Tryz.prog 141 #[.bool b] w fun e w'=>e = .returned (.int .i64 (bitB b))∧Ext w w':=by
 refine enter Tryz.func141 O 4 O O ?_
 refine CWd (W':=Ws w [] [] []) (fun _ e=>by subst e; exact Ws.init (by simp)) ?_
 refine Cs (Cr (V0 (Ya O) (Ln (Et (Cs (Cs (Cr (V0 (Ym O) (Ln (Et ?_))))))))))
 refine Cc O (fun hc0=>?_) (fun hc0=>?_)
 ·
  refine Cs (Cr (V0 (Ya O) (Ln (Et (Crt (Er ?_))))))
  refine R1 O O fun w' hw=>?_
  exact ⟨by rw [hc0]; rfl,hw.fr⟩
 refine Ck (Et (Cs (Cr (V0 (Ya O) (Ln (Et (Crt ?_)))))))
 refine R1 O O fun w' hw=>?_
 exact ⟨by rw [hc0]; rfl,hw.fr⟩
theorem rmath_any (op a b:Int) (w:World) :
   Calls Tryz.prog 142 #[.int .i64 op,.int .i64 a,.int .i64 b] w fun e w'=>e = .returned (.tuple #[.int .i64 (mathN op a b).1,.bool (mathN op a b).2])∧Ext w w':=by
 refine enter Tryz.func142 O 48 O O ?_
 refine CWd (W':=Ws w [] [] []) (fun _ e=>by subst e; exact Ws.init (by simp)) ?_
 refine Cs (Cr (V0 (Ya O) (V0 (Ya O) (Ln (Et (Cs (Cs (Cr (V0 (Ym O) (Ln (Et (Cb (Cs (Cr ?_))))))))))))))
 refine V0 (yl_eq O O) (V0 (Ya O) (Ln (Et ?_)))
 refine Cc O (fun hc0=>?_) (fun hc0=>?_)
 ·
  have ho:op=9:=by simpa using hc0
  refine Cs (Cr (V0 (Ym O) (V0 (Ym O) (V0 (yl_addw O O) (V0 (Ya O) (V0 (Ya O) ?_))))))
  refine Ln (Et (Crt (Ebr (Er ?_))))
  refine WE.ret2 O O O fun w' hw=>?_
  have hM:mathN op a b=(IntKind.i64.wrap (a+b),true):=by rw [mathN,if_pos ho]
  rw [hM]
  exact ⟨O,hw.fr⟩
 have hn9:¬op=9:=by simpa using hc0
 refine Cs (Cr (V0 (yl_eq O O) (V0 (Ya O) (Ln (Et ?_)))))
 refine Cc O (fun hc1=>?_) (fun hc1=>?_)
 ·
  have ho:op=10:=by simpa using hc1
  refine Cs (Cr (V0 (Ym O) (V0 (Ym O) (V0 (yl_subw O O) (V0 (Ya O) (V0 (Ya O) ?_))))))
  refine Ln (Et (Crt (Ebr (Er ?_))))
  refine WE.ret2 O O O fun w' hw=>?_
  have hM:mathN op a b=(IntKind.i64.wrap (a-b),true):=by rw [mathN,if_neg hn9,if_pos ho]
  rw [hM]
  exact ⟨O,hw.fr⟩
 have hn10:¬op=10:=by simpa using hc1
 refine Cs (Cr (V0 (yl_eq O O) (V0 (Ya O) (Ln (Et ?_)))))
 refine Cc O (fun hc2=>?_) (fun hc2=>?_)
 ·
  have ho:op=11:=by simpa using hc2
  refine Cs (Cr (V0 (Ym O) (V0 (Ym O) (V0 (yl_mulw O O) (V0 (Ya O) (V0 (Ya O) ?_))))))
  refine Ln (Et (Crt (Ebr (Er ?_))))
  refine WE.ret2 O O O fun w' hw=>?_
  have hM:mathN op a b=(IntKind.i64.wrap (a*b),true):=by rw [mathN,if_neg hn9,if_neg hn10,if_pos ho]
  rw [hM]
  exact ⟨O,hw.fr⟩
 have hn11:¬op=11:=by simpa using hc2
 refine Cs (Cr (V0 (yl_eq O O) (V0 (Ya O) (Ln (Et ?_)))))
 refine Cc O (fun hc3=>?_) (fun hc3=>?_)
 ·
  have ho:op=12:=by simpa using hc3
  refine Cs (Cs (Cr (V0 (Ym O) (V0 (yl_eq O O) (Ln (Et ?_))))))
  refine Cc O (fun hc4=>?_) (fun hc4=>?_)
  ·
   have hb0:b=0:=by simpa using hc4
   refine Cs (Cr (V0 (Ya O) (V0 (Ya O) (Ln (Et (Crt (Er (Ebr (Er ?_)))))))))
   refine WE.ret2 O O O fun w' hw=>?_
   have hM:mathN op a b=(0,false):=by rw [mathN,if_neg hn9,if_neg hn10,if_neg hn11,if_pos ho,if_pos hb0]
   rw [hM]
   exact ⟨O,hw.fr⟩
  have hb0:¬b=0:=by simpa using hc4
  refine Ck (Et (Cs (Cr (V0 (Ym O) (V0 (Ym O) (V0 (yl_quo O O hb0) (V0 (Ya O) (V0 (Ya O) ?_))))))))
  refine Ln (Et (Crt (Ebr (Er ?_))))
  refine WE.ret2 O O O fun w' hw=>?_
  have hM:mathN op a b=(IntKind.i64.wrap (a.tdiv b),true):=by rw [mathN,if_neg hn9,if_neg hn10,if_neg hn11,if_pos ho,if_neg hb0]
  rw [hM]
  exact ⟨O,hw.fr⟩
 have hn12:¬op=12:=by simpa using hc3
 refine Cs (Cr (V0 (yl_eq O O) (V0 (Ya O) (Ln (Et ?_)))))
 refine Cc O (fun hc5=>?_) (fun hc5=>?_)
 ·
  have ho:op=13:=by simpa using hc5
  refine Cs (Cs (Cr (V0 (Ym O) (V0 (yl_eq O O) (Ln (Et ?_))))))
  refine Cc O (fun hc6=>?_) (fun hc6=>?_)
  ·
   have hb0:b=0:=by simpa using hc6
   refine Cs (Cr (V0 (Ya O) (V0 (Ya O) (Ln (Et (Crt (Er (Ebr (Er ?_)))))))))
   refine WE.ret2 O O O fun w' hw=>?_
   have hM:mathN op a b=(0,false):=by rw [mathN,if_neg hn9,if_neg hn10,if_neg hn11,if_neg hn12,if_pos ho,if_pos hb0]
   rw [hM]
   exact ⟨O,hw.fr⟩
  have hb0:¬b=0:=by simpa using hc6
  refine Ck (Et (Cs (Cr (V0 (Ym O) (V0 (Ym O) (V0 (yl_rem O O hb0) (V0 (Ya O) (V0 (Ya O) ?_))))))))
  refine Ln (Et (Crt (Ebr (Er ?_))))
  refine WE.ret2 O O O fun w' hw=>?_
  have hM:mathN op a b=(a.tmod b,true):=by rw [mathN,if_neg hn9,if_neg hn10,if_neg hn11,if_neg hn12,if_pos ho,if_neg hb0]
  rw [hM]
  exact ⟨O,hw.fr⟩
 have hn13:¬op=13:=by simpa using hc5
 refine Cs (Cr (V0 (yl_eq O O) (V0 (Ya O) (Ln (Et ?_)))))
 refine Cc O (fun hc7=>?_) (fun hc7=>?_)
 ·
  have ho:op=14:=by simpa using hc7
  refine Cs (Cr (V0 (Ym O) (V0 (Ym O) (V0 (yl_eq O O) ?_))))
  refine Lp Y O en141 O (fun w hw=>rtruth_any _ w) ?_
  refine V0 (Ya O) (V0 (Ya O) (Ln (Et (Crt (Ebr (Er ?_))))))
  refine WE.ret2 O O O fun w' hw=>?_
  have hM:mathN op a b=(bitB (a==b),true):=by rw [mathN,if_neg hn9,if_neg hn10,if_neg hn11,if_neg hn12,if_neg hn13,if_pos ho]
  rw [hM]
  exact ⟨O,hw.fr⟩
 have hn14:¬op=14:=by simpa using hc7
 refine Ck (Eb (Et (Cs (Cr (V0 (Ym O) (V0 (Ym O) (V0 (yl_lt O O) ?_)))))))
 refine Lp Y O en141 O (fun w hw=>rtruth_any _ w) ?_
 refine V0 (Ya O) (V0 (Ya O) (Ln (Et (Crt ?_))))
 refine WE.ret2 O O O fun w' hw=>?_
 have hM:mathN op a b=(bitB (decide (a<b)),true):=by rw [mathN,if_neg hn9,if_neg hn10,if_neg hn11,if_neg hn12,if_neg hn13,if_neg hn14]
 rw [hM]
 exact ⟨O,hw.fr⟩
theorem rtick_any (bm:Nat) (K:KW) (da:List SP) (l:List TUnit) (lim C:Nat) (H:View) (s:MdSt) (w:World) (hg:MGood H (envU l lim) (sumU l) C s) (hlim:lim≤2000) (hw:Ws w (List.flatMap Asr.ids (mown 94 3 bm K da l lim s)) (mown 94 3 bm K da l lim s) [H] w) :
   Calls Tryz.prog 58 #[.pointer (some ⟨bm,0,none⟩)] w fun e w'=>∃t:MdSt,e = .returned (.tuple #[])∧(Stq s (tickW (envU l lim) s.w) () t∧MGood H (envU l lim) (sumU l) C t)∧Ws w (List.flatMap Asr.ids (mown 94 3 bm K da l lim s)) (mown 94 3 bm K da l lim t) [H] w':=by
 have hgt:=hg.tk
 refine enter Tryz.func58 O 33 O O ?_
 refine CWd (W':=Ws w (List.flatMap Asr.ids (mown 94 3 bm K da l lim s)) (mown 94 3 bm K da l lim s) [H]) (fun _ e=>by subst e; exact hw) ?_
 refine Cs (Cs ?_)
 refine WC.draws0 [(0,true),(1,true),(2,true),(3,true),(4,true),(5,true),(6,true),(7,true),(8,true),(9,true),(10,true),(11,true),(12,true),(13,true),(14,true),(15,true)] mixed (by kernel_rfl) (fun _ _ _ d _ h=>by cases d<;>exact h) ?_
 refine D0 O (fun _ h=>h) (Ym O) (D0 O (fun _ h=>h) (yl_nil O) (D0 O (fun _ h=>h) (Yf fo94_7 O) (D0 O (fun _ h=>h) (Yd 0 O O O na3) (D0 O (fun _ h=>h) (yl_eq O O) (D0 O (fun _ h=>h) (Ym O) ?_)))))
 apply WD.and 9 (x:=((s.w.ticks:Int)==(lim:Int))) O O O O O Y O (fun _ h=>h) O O O O
 ·
  intro hg0
  refine Dq O (.g O O O) O (fun _ h=>h) (Ym O) ?_
  refine Dq O (.g O O O) O (fun _ h=>h) (yl_nil O) ?_
  refine Dq O (.g O O O) O (fun _ h=>h) (Yf fo94_4 O) ?_
  refine Dq O (.g O O O) O (fun _ h=>h) (Yd 0 O O O na3) ?_
  refine Dq O (.g O O O) O (fun _ h=>h) (Ym O) ?_
  refine Dq O (.g O O O) O (fun _ h=>h) (yl_nil O) ?_
  refine Dq O (.g O O O) O (fun _ h=>h) (Yf fo94_5 O) ?_
  refine Dq O (.g O O O) O (fun _ h=>h) (Yd 0 O O O na3) ?_
  refine Dq O (.g O O O) O (fun _ h=>h) (yl_eq O O) ?_
  exact Gi 9 (fun _ h=>h) O O O
 refine WD.nil (fun _ h=>h) ?_
 refine Et ?_
 refine Cc O (fun hc0=>?_) (fun hc0=>?_)
 ·
  have hf:s.fin=0∧s.w.ticks=lim:=by simp at hc0; omega
  refine Cr (V0 (Ym O) (V0 (yl_nil O) (V0 (Yf fo94_7 O) (Lst 0 Y O O O sz3 O O O (Ln (Et (Cs (Cr ?_))))))))
  refine V0 (Ym O) (V0 (yl_nil O) (V0 (Yf fo94_7 O) (V0 (Yd 0 O O O na3) (V0 (yl_eq O O) (Ln (Et ?_))))))
  refine Cc O (fun hc1=>?_) (fun hc1=>?_)
  ·
   cases hc1
  refine Ck ?_
  refine E0 O fun w' hw=>?_
  exact ⟨⟨s.w,3,s.i,s.o⟩,O,⟨.inr ⟨hf.1,Stk.ov (c:=s.w.calls) (show (3:Int)≠0 by decide) (if_pos (show s.w.ticks=(envU l lim).lim from hf.2))⟩,⟨hg.inp,hg.out,hg.tk,hg.dat,hg.cl⟩⟩,hw⟩
 have hf:¬(s.fin=0∧s.w.ticks=lim):=by intro h; rw [h.1,h.2] at hc0; simp at hc0
 refine Ck (Et (Cs (Cr (V0 (Ym O) (V0 (yl_nil O) (V0 (Yf fo94_7 O) (V0 (Yd 0 O O O na3) (V0 (yl_eq O O) ?_))))))))
 refine Ln (Et ?_)
 refine Cc O (fun hc1=>?_) (fun hc1=>?_)
 ·
  have hf0:s.fin=0:=by simpa using hc1
  have hne:¬s.w.ticks=lim:=fun h=>hf ⟨hf0,h⟩
  have hlt:s.w.ticks<lim:=by have:s.w.ticks≤lim:=hgt; omega
  refine Cr (V0 (Ym O) (V0 (yl_nil O) (V0 (Yf fo94_4 O) (V0 (Yd 0 O O O na3) ?_))))
  refine V0 (Yi O O O (by omega)) ?_
  refine V0 (yl_nil O) (V0 (Yf fo94_4 O) (Lst 0 Y O O O sz3 O O O (Ln ?_)))
  refine E0 O fun w' hw=>?_
  exact ⟨⟨{ s.w with ticks:=s.w.ticks+1 },s.fin,s.i,s.o⟩,O,⟨.inr ⟨hf0,Stk.ok hf0 (if_neg (show ¬s.w.ticks=(envU l lim).lim from hne))⟩,⟨hg.inp,hg.out,hlt,hg.dat,hg.cl⟩⟩,hw⟩
 have hf0:¬s.fin=0:=by simpa using hc1
 refine Ck ?_
 refine E0 O fun w' hw=>?_
 exact ⟨s,O,⟨.inl ⟨hf0,O⟩,hg⟩,hw⟩
theorem rmod_any (bm:Nat) (K:KW) (da:List SP) (l:List TUnit) (lim C:Nat) (H:View) (s:MdSt) (n bs u:Nat) (x:SP) (xn:Nat) (dn:Bool) (v:Int) (z:TUnit) (mi j:Nat) (m:Int) (w:World) (hM:MindAt H n K da l lim) (hx:l[u]? = some z) (hj:(u::z.uses.map (ixU l))[mi]? = some j) (hm:m=(mi:Int)) (hw:Ws w (List.flatMap Asr.ids ([blk bm (mob 94 K l lim s),blk bs (rcb 132 u x xn dn v)])) ([blk bm (mob 94 K l lim s),blk bs (rcb 132 u x xn dn v)]) [H] w) :
   Calls Tryz.prog 122 #[.pointer (some ⟨bm,0,none⟩),.pointer (some ⟨bs,0,none⟩),.int .i64 m] w fun e w'=>∃_:Unit,e = .returned (.int .i64 (j:Int))∧True∧Ws w (List.flatMap Asr.ids ([blk bm (mob 94 K l lim s),blk bs (rcb 132 u x xn dn v)])) ([blk bm (mob 94 K l lim s),blk bs (rcb 132 u x xn dn v)]) [H] w':=by
 subst hm
 have hcu:=hM.units.cap
 have hub:=hM.ub z (List.mem_of_getElem? hx)
 refine enter Tryz.func122 O 26 O O ?_
 refine CWd (W':=Ws w (List.flatMap Asr.ids ([blk bm (mob 94 K l lim s),blk bs (rcb 132 u x xn dn v)])) ([blk bm (mob 94 K l lim s),blk bs (rcb 132 u x xn dn v)]) [H]) (fun _ e=>by subst e; exact hw) ?_
 refine Cs (Cr (V0 (Ya O) (Ln (Et (Cs (Cs (Cr (V0 (Ym O) (V0 (yl_eq O O) (Ln (Et ?_)))))))))))
 refine Cc O (fun hc0=>?_) (fun hc0=>?_)
 ·
  have hmi:mi=0:=by simp at hc0; omega
  subst hmi
  have hju:u=j:=by simpa using hj
  subst hju
  refine Cs (Cr (V0 (Ym O) (V0 (yl_nil O) (V0 (Yf fo132_0 O) (V0 (Yd 1 O O O na3) (V0 (Ya O) ?_))))))
  refine Ln (Et (Crt (Er ?_)))
  refine R1 O O fun w' hw=>?_
  exact ⟨(),O,trivial,hw⟩
 obtain ⟨q,rfl⟩:∃q,mi=q+1:=⟨mi-1,by simp at hc0; omega⟩
 rw [List.getElem?_cons_succ,List.getElem?_map] at hj
 obtain ⟨s2,hs2,hsj⟩:=Option.map_eq_some_iff.1 hj
 have hql:=(List.getElem?_eq_some_iff.1 hs2).1
 obtain ⟨p,z2,hp1,_,hp2,_⟩:=posU_take (use_in hM.ok hx (List.mem_of_getElem? hs2))
 have hpj:p=j:=by rw [←hsj]; unfold ixU; rw [hp2]; rfl
 subst hpj
 refine Ck (Et (Cs ?_))
 refine CU (fun _=>true) [] [] (.q false 0 (.q false 1 (.q false 2 (.q true 3 (.q false 4 (.q false 5 (.q false 6 (.q true 7 (.q false 9 (.q false 10 (.e 8 (.q false 11 (.e 12 (.q false 13 .nil) .stop)) .stop))))))))))) mixed (by kernel_rfl) (fun _ _ _ d _ _ h=>by cases d<;>exact h) ?_
 refine U0 O (fun _ h=>h) (Ym O) (U0 O (fun _ h=>h) (yl_nil O) (U0 O (fun _ h=>h) (Yf fo94_0 O) (U0 O (fun _ h=>h) (Yd 0 O O O na38) (U0 O (fun _ h=>h) (Ym O) (U0 O (fun _ h=>h) (yl_nil O) ?_)))))
 refine U0 O (fun _ h=>h) (Yf fo132_0 O) (U0 O (fun _ h=>h) (Yd 1 O O O na3) (U0 O (fun _ h=>h) (Ym O) ?_))
 refine U0 O (fun _ h=>h) (yl_subv (q:Int) O O (by omega) (by omega)) ?_
 refine Ue O (fun _ h=>h) ?_ WU.stop
 refine Ld Y O en35 O (fun r:SP=>.slice r.1 z.uses.length r.2) (fun F r=>Sl rdN1 1 F r.1 r.2 (z.uses.map (posU (l.take u)))) (fun w hw=>usesOf_any H n K.l.1 K.l.2 l u z w (hw.vs _ (by simp)) hM.units hx (hM.ub z (List.mem_of_getElem? hx))) ?_
 intro F21 r21 hf21 h21
 obtain ⟨pb,po,ha,hr⟩:=h21.elt q (p:Int) (by rw [List.getElem?_map,hs2,←hp1]; rfl)
 have hcp:=h21.cap
 have hmx:=h21.max
 refine Ln (Eu ?_)
 refine U0 O (fun _ h=>(Wv 1 h:)) (Yo es29 O O ha (by omega)) ?_
 refine Ue O (fun _ h=>(Wv 1 h:)) ?_ WU.stop
 refine V0 (yl_ld 0 na3 O O (hr 0 _ O)) (Ln (Eu (U0 O (fun _ h=>(Wv 1 h:)) (Ya O) ?_)))
 refine WU.nil (fun _ h=>(Wv 1 h:)) ?_
 refine WS.nil ?_
 refine Et (Crt ?_)
 refine R1 O O fun w' hw=>?_
 exact ⟨(),O,trivial,(Wv 1 hw)⟩
end Go.Proofs.YtpjekjnehiinnaaGreatDoor
end
section
namespace Go.Proofs.YtpjekjnehiinnaaGreatDoor
open Go.Bw
def VEv (H:View) (n:Nat) (K:KW) (da:List SP) (l:List TUnit) (lim bm C d:Nat) (k:Nat):Prop:=∀(bs u:Nat) (z:TUnit) (x:SP) (loc:List Int) (dn:Bool) (v:Int) (y:TNode) (a:Option Addr) (c dd:Nat) (s:MdSt) (w:World),MGood H (envU l lim) (sumU l) C s→l[u]? = some z→Sl (RdN k) 5 H a c y.args→nodeK (knM z::usesKn l z) loc.length y dd=true→Ws w (List.flatMap Asr.ids ((mown 94 3 bm K da l lim s)++(rown 132 3 bs u x loc dn v))) ((mown 94 3 bm K da l lim s)++(rown 132 3 bs u x loc dn v)) [H] w→
 Calls Tryz.prog 121 #[.pointer (some ⟨bm,0,none⟩),.pointer (some ⟨bs,0,none⟩),.agg (nodeV y a c).toArray] w fun e w'=>∃r:Int×MdSt,e = .returned (.int .i64 r.1)∧(Stq s (nodeE (envU l lim) (callR (envU l lim) d) u y loc s.w) r.1 r.2∧MGood H (envU l lim) (sumU l) C r.2)∧Ws w (List.flatMap Asr.ids ((mown 94 3 bm K da l lim s)++(rown 132 3 bs u x loc dn v))) ((mown 94 3 bm K da l lim r.2)++(rown 132 3 bs u x loc dn v)) [H] w'
def VCall (H:View) (n:Nat) (K:KW) (da:List SP) (l:List TUnit) (lim bm C d:Nat):Prop:=∀(u:Nat) (z:TUnit) (x:SP) (loc:List Int) (body:List TAct) (a:Option Addr) (c k1 k2:Nat) (s:MdSt) (w:World),MGood H (envU l lim) (sumU l) C s→l[u]? = some z→Sl (RdA k1 k2) 7 H a c body→actsK (knM z::usesKn l z) loc.length body 1=true→Ws w (List.flatMap Asr.ids ((mown 94 3 bm K da l lim s)++[osT 3 1 n1C x.1 x.2 loc])) ((mown 94 3 bm K da l lim s)++[osT 3 1 n1C x.1 x.2 loc]) [H] w→
 Calls Tryz.prog 40 #[.pointer (some ⟨bm,0,none⟩),.int .i64 (u:Int),.slice x.1 loc.length x.2,.slice a body.length c] w fun e w'=>∃r:Int×MdSt,e = .returned (.int .i64 r.1)∧(Stq s (callR (envU l lim) d u loc body s.w) r.1 r.2∧MGood H (envU l lim) (sumU l) C r.2)∧Ws w (List.flatMap Asr.ids ((mown 94 3 bm K da l lim s)++[osT 3 1 n1C x.1 x.2 loc])) (mown 94 3 bm K da l lim r.2) [H] w'
def Stj (A B:Rz Wm (List Int)) (t:MdSt):Prop:=(t.fin=0∧A=B)∨(t.fin≠0∧∃c,A = .ov t.fin { t.w with calls:=c })
theorem args_stp {P:Env} {call:Cl} {u:Nat} {l:List TNode} {i:Nat} {y:TNode} {loc pre:List Int} {A:Rz Wm (List Int)} {t t2:MdSt} {v:Int} (h:Stj A ((argsR loc (kidsE P call u (l.drop i)) t.w).bind fun vs w=>.ok (pre++vs) w) t) (hy:l[i]? = some y) (hr:Stq t (nodeE P call u y loc t.w) v t2) :
   Stj A ((argsR loc (kidsE P call u (l.drop (i+1))) t2.w).bind fun vs w=>.ok ((pre++[v])++vs) w) t2:=by
 rcases hr with ⟨h0,rfl⟩ | ⟨h0,hr⟩
 · rcases h with ⟨h1,_⟩ | h
   · exact absurd h1 h0
   · exact .inr h
 · rcases h with ⟨_,h⟩ | ⟨h1,_⟩
   · rcases hr with ⟨h2,hr⟩ | ⟨h2,c,hr⟩
     · exact .inl ⟨h2,args_step h hy hr⟩
     · exact .inr ⟨h2,c,args_pan h hy hr⟩
   · exact absurd h0 h1
theorem args_fin {P:Env} {call:Cl} {u:Nat} {l:List TNode} {i:Nat} {loc pre:List Int} {A:Rz Wm (List Int)} {t:MdSt} (h:Stj A ((argsR loc (kidsE P call u (l.drop i)) t.w).bind fun vs w=>.ok (pre++vs) w) t) (hi:l.length≤i):Stk A pre t:=by
 rcases h with ⟨h0,h⟩ | h
 · exact .inl ⟨h0,args_end h hi⟩
 · exact .inr h
theorem en121:Enters Tryz.prog 121:=enters_of Tryz.func121 (by kernel_rfl) rfl
theorem en122:Enters Tryz.prog 122:=enters_of Tryz.func122 (by kernel_rfl) rfl
theorem en40:Enters Tryz.prog 40:=enters_of Tryz.func40 (by kernel_rfl) rfl
theorem rpart_run (H:View) (n:Nat) (K:KW) (da:List SP) (l:List TUnit) (lim bm C d:Nat) (bs u:Nat) (z:TUnit) (x:SP) (loc:List Int) (dn:Bool) (v:Int) (m pl:Int) (args:List TNode) (a:Option Addr) (c k dd:Nat) (s:MdSt) (w:World) (hg:MGood H (envU l lim) (sumU l) C s) (hM:MindAt H n K da l lim) (hx:l[u]? = some z) (hf0:s.fin=0) (hN:∀k2,k2<k→VEv H n K da l lim bm C d k2) (hC:VCall H n K da l lim bm C d) (hpart:partB (knM z::usesKn l z) m pl args.length=true) (hl:Sl (RdN k) 5 H a c args) (hok:nodesK (knM z::usesKn l z) loc.length args dd=true) (hw:Ws w (List.flatMap Asr.ids ((mown 94 3 bm K da l lim s)++(rown 132 3 bs u x loc dn v))) ((mown 94 3 bm K da l lim s)++(rown 132 3 bs u x loc dn v)) [H] w) :
   Calls Tryz.prog 124 #[.pointer (some ⟨bm,0,none⟩),.pointer (some ⟨bs,0,none⟩),.int .i64 m,.int .i64 pl,.slice a args.length c] w fun e w'=>∃r:Int×MdSt,e = .returned (.int .i64 r.1)∧(Stk (partR (envU l lim) (callR (envU l lim) d) u m pl (kidsE (envU l lim) (callR (envU l lim) d) u args) loc s.w) r.1 r.2∧MGood H (envU l lim) (sumU l) C r.2)∧Ws w (List.flatMap Asr.ids ((mown 94 3 bm K da l lim s)++(rown 132 3 bs u x loc dn v))) ((mown 94 3 bm K da l lim r.2)++(rown 132 3 bs u x loc dn v)) [H] w':=by
 have hD:=sum_le hM.ok
 obtain ⟨mi,j,q,zj,p,hmm,rfl,hj,hzj,hp,hpar,hmod⟩:=part_at hM.ok lim hx hpart
 obtain ⟨pz,qz,haz,rz,hrz,huz⟩:=hM.units.elt j zj hzj
 obtain ⟨pp,qp,hap,rp,hrp,hbd⟩:=huz.parts.elt q p hp
 have hjl:=(List.getElem?_eq_some_iff.1 hzj).1
 have hql:=(List.getElem?_eq_some_iff.1 hp).1
 have hfz:=hM.ok.fine zj (List.mem_of_getElem? hzj)
 obtain ⟨h0p,h3p,h0l,h4l,hbok⟩:=part_fine ((fine_parts hfz).1 p (List.mem_of_getElem? hp))
 obtain ⟨nlc,enl⟩:∃nlc:Nat,p.locals=nlc:=⟨p.locals.toNat,by omega⟩
 have hcap:=hl.cap
 have hmax:=hl.max
 have hj:(u::z.uses.map (ixU l))[mi]? = some j:=hj
 refine enter Tryz.func124 O 62 O O ?_
 refine CWd (W':=Ws w (List.flatMap Asr.ids ((mown 94 3 bm K da l lim s)++(rown 132 3 bs u x loc dn v))) ((mown 94 3 bm K da l lim s)++(rown 132 3 bs u x loc dn v)) [H]) (fun _ e=>by subst e; exact hw) ?_
 refine Cs (Cr (V0 (Ya O) (Ln (Et (Cs (Cr (V0 (Ya O) (Ln (Et (Cs (Cs ?_)))))))))))
 refine CWd (fun _ h=>h.osl_nil 3 1) ?_
 refine Cr (V0 (Ya O) (Ln (Et (Cb ?_))))
 refine CLk (ι:=Nat×List Int×SP×MdSt) (fun g=>[(12,.int .i64 (g.1:Int)),(11,.slice g.2.2.1.1 g.2.1.length g.2.2.1.2)]) [(0,_),(1,_),(2,_),(3,_),(4,_),(10,_)] (fun g=>Ws w (List.flatMap Asr.ids ((mown 94 3 bm K da l lim s)++(rown 132 3 bs u x loc dn v))) ((mown 94 3 bm K da l lim g.2.2.2)++(rown 132 3 bs u x loc dn v)++[osT 3 1 n1C g.2.2.1.1 g.2.2.1.2 (g.2.1)]) [H]) (fun g=>g.1≤args.length∧g.2.1.length=g.1∧(MGood H (envU l lim) (sumU l) C g.2.2.2)∧Stj (argsR loc (kidsE (envU l lim) (callR (envU l lim) d) u args) s.w) ((argsR loc (kidsE (envU l lim) (callR (envU l lim) d) u (args.drop g.1)) g.2.2.2.w).bind fun vs w=>.ok (g.2.1++vs) w) g.2.2.2) (fun g=>args.length-g.1) (0,[],(none,0),s) ⟨Nat.zero_le _,O,hg,.inl ⟨hf0,args_begin⟩⟩ (sc O (sc O (sc O (sc O (sc O (sc O (sc O (sc O sn)))))))) (fun _ h=>by exact (((((h.f 5 O).f 5 O).f 5 O).f 5 O).f 5 O:)) ?_
 intro g ⟨hgi,hgv,hgg,hga⟩
 refine Cs (Cs (Cr (V0 (Ym O) (V0 (Ym O) (V0 (Yn es102 O) (V0 (yl_lt O O) (Ln (Et ?_))))))))
 refine Cc O (fun hc0=>?_) (fun hc0=>?_)
 ·
  have hlt:g.1<args.length:=by simpa using hc0
  obtain ⟨y,hyi⟩:∃y,args[g.1]? = some y:=⟨_,List.getElem?_eq_getElem hlt⟩
  obtain ⟨py,qy,hay,hry⟩:=hl.elt g.1 y hyi
  obtain ⟨k2,rfl⟩:∃k2,k=k2+1:=by
    cases k with
    | zero=>exact hry.elim
    | succ k2=>exact ⟨k2,rfl⟩
  obtain ⟨ya,yc,hrow,hsub⟩:=hry
  have hN2:=hN k2 (by omega)
  have hoy:=nodesK_at hok hyi
  refine Ck (Et (Cs (Cb (Cr (V0 (Ym O) (V0 (Ym O) (V0 (Ym O) (V0 (Ym O) (V0 (Ym O) ?_)))))))))
  refine V0 (Yo es102 O O hay hlt) (V0 (yl_lda 0 ag138 O O O (hrow)) (Lf 4 O (Lf 4 O (Lf 4 O (Lf 4 O ?_)))))
  refine Lf 4 O ?_
  refine Lw (ι:=_) [_,_,_,_,_] _ Y O en121 O O (_) (_) (_) [H] (by simp) (fun w hw=>hN2 bs u z x loc dn v y ya yc _ g.2.2.2 w hgg hx hsub hoy hw) ?_
  intro r29 ⟨hr29,hg29⟩
  refine Lb Y O el29 O O O O fun b30=>?_
  refine Lrb 0 (.cells (n1C r29.1).toArray 3 (0,0)) O (O) ?_
  refine LA (r29.1) 6 0 Y O el29 O O O O O O (by omega) (by omega) fun a31 c31=>?_
  refine V0 (Ya O) (Ln (Eb (Et (Cr (V0 (Ym O) ?_)))))
  refine V0 (Yi O O O (by omega)) ?_
  refine V0 (Ya O) (Ln ?_)
  exact Ea ((g.1+1,g.2.1++[r29.1],(a31,c31),r29.2):Nat×List Int×SP×MdSt) (by show _-(g.1+1)<_; omega) ⟨by show g.1+1≤_; omega,by show (g.2.1++[r29.1]).length=g.1+1; simp [hgv],hg29,args_stp hga hyi hr29⟩ (sc O (sc O (sc O (sc O (sc O (sc O (sc O (sc O sn)))))))) (fun _ h=>Wd 1 h)
 have hge:args.length≤g.1:=by simp at hc0; omega
 have hA:=args_fin (pre:=g.2.1) hga hge
 have hgl:g.2.1.length=args.length:=by omega
 refine Ce (Ex (Ex (Ebh (Et (Cs (Cr (V0 (Ym O) (V0 (Ym O) (V0 (Ym O) (Lf 3 O ?_))))))))))
 refine Lf 1 O ?_
 refine Lw (ι:=_) [_,_] _ Y O en122 O O (_) (_) (_) [H] (by simp) (fun w hw=>rmod_any bm K da l lim C H g.2.2.2 n bs u x loc.length dn v z mi j m w hM hx hj hmm hw) ?_
 intro _ _
 refine V0 (Ya O) (Ln (Et (Cs (Cr (V0 (Ym O) (V0 (yl_nil O) (V0 (Yf fo94_0 O) (V0 (Yd 0 O O O na38) ?_))))))))
 refine V0 (Ym O) (V0 (Yo es38 O O haz hjl) (V0 (Yf fo26_3 O) (V0 (yl_ld 0 na23 O O (hrz 3 _ O)) (V0 (Ym O) (V0 (Yo es23 O O hap hql) ?_)))))
 refine V0 (yl_lda 0 ag63 O O O (hrp)) ?_
 refine Al Y O zr63 fun b14=>?_
 refine Lst 0 Y O O O sz63 O O O (Ln (Et (Cs (Cs ?_))))
 rw [show g.2.1=g.2.1++List.replicate 0 (0:Int) by simp]
 refine Cr (V0 (Ya O) (Ln (Et (Cb ?_))))
 refine CLk (ι:=Nat×SP) (fun kz=>[(15,.int .i64 (kz.1:Int)),(11,.slice kz.2.1 (g.2.1++List.replicate kz.1 0).length kz.2.2)]) [(0,_),(10,_),(13,_),(14,_)] (fun kz=>Ws w (List.flatMap Asr.ids ((mown 94 3 bm K da l lim s)++(rown 132 3 bs u x loc dn v))) ((mown 94 3 bm K da l lim g.2.2.2)++(rown 132 3 bs u x loc dn v)++[osT 3 1 n1C kz.2.1 kz.2.2 (g.2.1++List.replicate kz.1 0),blk b14 (.cells (partV p rp).toArray 63 (0,0))]) [H]) (fun kz=>kz.1≤nlc) (fun kz=>nlc-kz.1) (0,g.2.2.1) (Nat.zero_le _) (sc O (sc O (sc O (sc O (sc O (sc O sn)))))) (fun _ h=>by exact ((((((h.f 6 O).f 6 O).f 4 O).f 6 O).f 6 O).f 6 O:)) ?_
 intro kz hkz
 refine Cs (Cs (Cr (V0 (Ym O) (V0 (Yf fo63_1 O) (V0 (Yd 6 O O O na3) (V0 (yl_lt O O) (Ln (Et ?_))))))))
 refine Cc O (fun hc1=>?_) (fun hc1=>?_)
 ·
  have hk:kz.1<nlc:=by simp at hc1; omega
  refine Ck (Et (Cs (Cb (Cr (V0 (Ym O) ?_)))))
  refine Lb Y O el29 O O O O fun b54=>?_
  refine Lrb 0 (.cells (n1C 0).toArray 3 (0,0)) O (O) ?_
  refine LA ((0:Int)) 6 0 Y O el29 O O O O O O (by simp; omega) (by simp; omega) fun a55 c55=>?_
  rw [show g.2.1++List.replicate kz.1 0++[(0:Int)]=g.2.1++List.replicate (kz.1+1) 0 by rw [List.append_assoc,←List.replicate_succ']]
  refine V0 (Ya O) (Ln (Eb (Et (Cr (V0 (Ym O) ?_)))))
  refine V0 (Yi O O O (by omega)) ?_
  refine V0 (Ya O) (Ln ?_)
  exact Ea ((kz.1+1,(a55,c55)):Nat×SP) (by show _-(kz.1+1)<_; omega) (by show kz.1+1≤_; omega) (sc O (sc O (sc O (sc O (sc O (sc O sn)))))) (fun _ h=>Wd 1 h)
 have hkl:kz.1=nlc:=by simp at hc1; omega
 refine Ce (Ex (Ex (Ebh (Et (Cs ?_)))))
 have hlz:(g.2.1++List.replicate kz.1 0).length=args.length+nlc:=by rw [List.length_append,List.length_replicate]; omega
 refine Cr (V0 (Ym O) (V0 (Ym O) (V0 (Ym O) (V0 (Yf fo63_2 O) (V0 (Yd 6 O O O na24) ?_)))))
 refine Lf 5 O (Lf 3 O (Lf 3 O (Lf 3 O ?_)))
 refine Lw (ι:=_) [_,_,_,_] _ Y O en40 O O (_) (_) (_) [H] (by simp) (fun w hw=>hC j zj kz.2 (g.2.1++List.replicate kz.1 0) p.body rp.1 rp.2 n n g.2.2.2 w hgg hzj hbd (by rw [hlz,show ((args.length+nlc:Nat):Int)=p.params+p.locals by omega]; exact hbok) hw) ?_
 intro r61 ⟨hr61,hg61⟩
 refine V0 (Ya O) (Ln (Et (Crt ?_)))
 refine R1 O O fun w' hw=>?_
 refine ⟨r61,O,⟨?_,hg61⟩,Wt 5 hw⟩
 rw [partR_at hmod rfl hzj hp,show p.locals.toNat=kz.1 by omega]
 exact hA.then hr61
theorem rindex_run (H:View) (n:Nat) (K:KW) (da:List SP) (l:List TUnit) (lim bm C d:Nat) (bs u:Nat) (z:TUnit) (x:SP) (loc:List Int) (dn:Bool) (v:Int) (y:TNode) (i0:Int) (a:Option Addr) (c k dd:Nat) (s:MdSt) (w:World) (hg:MGood H (envU l lim) (sumU l) C s) (hM:MindAt H n K da l lim) (hx:l[u]? = some z) (hf0:s.fin=0) (hi0:1≤i0∧i0≤32) (hN2:VEv H n K da l lim bm C d k) (hl:Sl (RdN k) 5 H a c y.args) (hok:nodeK (knM z::usesKn l z) loc.length y dd=true) (hw:Ws w (List.flatMap Asr.ids ((mown 94 3 bm K da l lim s)++(rown 132 3 bs u x loc dn v))) ((mown 94 3 bm K da l lim s)++(rown 132 3 bs u x loc dn v)) [H] w) :
   Calls Tryz.prog 123 #[.pointer (some ⟨bm,0,none⟩),.pointer (some ⟨bs,0,none⟩),.agg (nodeV y a c).toArray,.int .i64 i0] w fun e w'=>∃r:Int×MdSt,e = .returned (.int .i64 r.1)∧(Stk (indexR i0 (nodeE (envU l lim) (callR (envU l lim) d) u y) loc s.w) r.1 r.2∧MGood H (envU l lim) (sumU l) C r.2∧(r.2.fin≠0→r.1=0))∧Ws w (List.flatMap Asr.ids ((mown 94 3 bm K da l lim s)++(rown 132 3 bs u x loc dn v))) ((mown 94 3 bm K da l lim r.2)++(rown 132 3 bs u x loc dn v)) [H] w':=by
 have hD:=sum_le hM.ok
 refine enter Tryz.func123 O 35 O O ?_
 refine CWd (W':=Ws w (List.flatMap Asr.ids ((mown 94 3 bm K da l lim s)++(rown 132 3 bs u x loc dn v))) ((mown 94 3 bm K da l lim s)++(rown 132 3 bs u x loc dn v)) [H]) (fun _ e=>by subst e; exact hw) ?_
 refine Cs (Cr ?_)
 refine WL.box Y O O fun b6=>?_
 refine V0 (Ya O) (Ln (Et (Cs ?_)))
 refine Crb 0 (.cells (nodeV y a c).toArray 138 (0,0)) O O ?_
 refine Cr (V0 (Ym O) (V0 (Ym O) (V0 (Yda 0 O O ag138 O) (Lf 5 O (Lf 5 O ?_)))))
 refine Lf 5 O (Lf 5 O (Lf 5 O ?_))
 refine Lw (ι:=_) [_,_,_,_,_] _ Y O en121 O O (_) (_) (_) [H] (by simp) (fun w hw=>hN2 bs u z x loc dn v y a c _ s w hg hx hl hok hw) ?_
 intro r13 ⟨hr13,hg13⟩
 refine V0 (Ya O) (Ln (Et (Cs (Cs ?_))))
 have hk13:=hr13.of hf0
 refine Cr (V0 (Ym O) (V0 (yl_nil O) (V0 (Yf fo94_7 O) (V0 (Yd 0 O O O na3) (V0 (yl_eq O O) ?_)))))
 refine V0 (Ym O) ?_
 apply La 5 (x:=(!(within r13.1 0 (i0-1)))) O O O O Y O O O O O
 ·
  intro hg0
  refine Vg (Ym O) (Vg (Ym O) ?_)
  refine Vg (yl_sub O O (by omega)) ?_
  refine Lp (.g O O O) O en34 O (fun w hw=>within_any _ _ _ w) ?_
  refine Vg (yl_not O) ?_
  exact Gt 5 O O O
 refine Ln (Et ?_)
 refine Cc O (fun hc0=>?_) (fun hc0=>?_)
 ·
  have hf:r13.2.fin=0:=by simp at hc0; exact hc0.1
  have ho:(decide (r13.1<0)||decide (i0≤r13.1))=true:=by unfold within at hc0; simp at hc0 ⊢; omega
  refine Cr (V0 (Ym O) (V0 (yl_nil O) (V0 (Yf fo94_7 O) (Lst 0 Y O O O sz3 O O O (Ln (Et (Cs (Cs (Cr ?_)))))))))
  refine V0 (Ym O) (V0 (yl_nil O) (V0 (Yf fo94_7 O) (V0 (Yd 0 O O O na3) (V0 (yl_ne O O) (Ln (Et ?_))))))
  refine Cc O (fun hc1=>?_) (fun hc1=>?_)
  ·
   refine Cs (Cr (V0 (Ya O) (Ln (Et (Crt (Er ?_))))))
   refine R1 O O fun w' hw=>?_
   exact ⟨(0,⟨r13.2.w,2,r13.2.i,r13.2.o⟩),O,⟨Stk.ov (c:=r13.2.w.calls) (show (2:Int)≠0 by decide) ((bind_ok (hk13.get hf)).trans (if_pos ho)),⟨hg13.inp,hg13.out,hg13.tk,hg13.dat,hg13.cl⟩,fun _=>rfl⟩,Wt 5 hw⟩
  cases hc1
 refine Ck (Et (Cs (Cs (Cr (V0 (Ym O) (V0 (yl_nil O) (V0 (Yf fo94_7 O) (V0 (Yd 0 O O O na3) (V0 (yl_ne O O) ?_)))))))))
 refine Ln (Et ?_)
 refine Cc O (fun hc1=>?_) (fun hc1=>?_)
 ·
  have hf:¬r13.2.fin=0:=by simpa using hc1
  refine Cs (Cr (V0 (Ya O) (Ln (Et (Crt (Er ?_))))))
  refine R1 O O fun w' hw=>?_
  exact ⟨(0,r13.2),O,⟨hk13.out hf _ _,hg13,fun _=>rfl⟩,Wt 5 hw⟩
 have hf:r13.2.fin=0:=by simpa using hc1
 have ho:(decide (r13.1<0)||decide (i0≤r13.1))=false:=by rw [hf] at hc0; unfold within at hc0; simp at hc0 ⊢; omega
 refine Ck (Et (Cs (Cr (V0 (Ym O) (V0 (Ya O) (Ln (Et (Crt ?_))))))))
 refine R1 O O fun w' hw=>?_
 exact ⟨r13,O,⟨Stk.ok hf ((bind_ok (hk13.get hf)).trans (if_neg (by rw [ho]; simp))),hg13,fun h=>absurd hf h⟩,Wt 5 hw⟩
end Go.Proofs.YtpjekjnehiinnaaGreatDoor
end
section
namespace Go.Proofs.YtpjekjnehiinnaaGreatDoor
open Go.Bw
theorem fo94_2:fieldOff Tryz.prog 94 2=some 2:=by kernel_rfl
theorem fo132_1:fieldOff Tryz.prog 132 1=some 1:=by kernel_rfl
theorem fo94_1:fieldOff Tryz.prog 94 1=some 1:=by kernel_rfl
theorem en123:Enters Tryz.prog 123:=enters_of Tryz.func123 (by kernel_rfl) rfl
theorem en124:Enters Tryz.prog 124:=enters_of Tryz.func124 (by kernel_rfl) rfl
theorem en142:Enters Tryz.prog 142:=enters_of Tryz.func142 (by kernel_rfl) rfl
theorem rvalue_run (H:View) (n:Nat) (K:KW) (da:List SP) (l:List TUnit) (lim bm C d:Nat) (bs u:Nat) (z:TUnit) (x:SP) (loc:List Int) (dn:Bool) (v:Int) (y:TNode) (a:Option Addr) (c k dd:Nat) (s:MdSt) (w:World) (hg:MGood H (envU l lim) (sumU l) C s) (hM:MindAt H n K da l lim) (hx:l[u]? = some z) (hC:VCall H n K da l lim bm C d) (hl:Sl (RdN k) 5 H a c y.args) (hok:nodeK (knM z::usesKn l z) loc.length y dd=true) (hw:Ws w (List.flatMap Asr.ids ((mown 94 3 bm K da l lim s)++(rown 132 3 bs u x loc dn v))) ((mown 94 3 bm K da l lim s)++(rown 132 3 bs u x loc dn v)) [H] w) :
   Calls Tryz.prog 121 #[.pointer (some ⟨bm,0,none⟩),.pointer (some ⟨bs,0,none⟩),.agg (nodeV y a c).toArray] w fun e w'=>∃r:Int×MdSt,e = .returned (.int .i64 r.1)∧(Stq s (nodeE (envU l lim) (callR (envU l lim) d) u y loc s.w) r.1 r.2∧MGood H (envU l lim) (sumU l) C r.2)∧Ws w (List.flatMap Asr.ids ((mown 94 3 bm K da l lim s)++(rown 132 3 bs u x loc dn v))) ((mown 94 3 bm K da l lim r.2)++(rown 132 3 bs u x loc dn v)) [H] w':=by
 have hD:=sum_le hM.ok
 induction k using Nat.strongRecOn generalizing bs u z x loc dn v y a c dd s w
 rename_i k ih
 have hN:∀k2,k2<k→VEv H n K da l lim bm C d k2:=fun k2 h bs u z x loc dn v y a c dd s w h1 h2 h3 h4 h5=>ih k2 h bs u z x loc dn v y a c dd s w h1 h2 h3 h4 h5
 have hcap:=hl.cap
 have hmax:=hl.max
 obtain ⟨hn1,hargs⟩:=nodeK_parts hok
 have hlen:=node1_len hn1
 have hfacts:=node1_facts hn1
 refine enter Tryz.func121 O 199 O O ?_
 refine CWd (W':=Ws w (List.flatMap Asr.ids ((mown 94 3 bm K da l lim s)++(rown 132 3 bs u x loc dn v))) ((mown 94 3 bm K da l lim s)++(rown 132 3 bs u x loc dn v)) [H]) (fun _ e=>by subst e; exact hw) ?_
 refine Cs (Cr ?_)
 refine WL.box Y O O fun b5=>?_
 refine V0 (Ya O) (Ln (Et (Cs (Cs (Cr (V0 (Ym O) (V0 (yl_nil O) (V0 (Yf fo94_7 O) (V0 (Yd 1 O O O na3) ?_)))))))))
 refine V0 (yl_ne O O) (Ln (Et ?_))
 refine Cc O (fun hc0=>?_) (fun hc0=>?_)
 ·
  have hf0:¬s.fin=0:=by simpa using hc0
  refine Cs (Cr (V0 (Ya O) (Ln (Et (Crt (Er ?_))))))
  refine R1 O O fun w' hw=>?_
  exact ⟨(0,s),O,⟨.inl ⟨hf0,O⟩,hg⟩,Wd 1 hw⟩
 have hf0:s.fin=0:=by simpa using hc0
 refine Ck (Et (Cs (Cs (Cr (V0 (Yf fo138_0 O) (V0 (Yd 0 O O O na3) (Ln (Et (Cb (Cs (Cr (V0 (yl_eq O O) (V0 (Ya O) ?_)))))))))))))
 refine Ln (Et ?_)
 refine Cc O (fun hc1=>?_) (fun hc1=>?_)
 ·
  have ho:y.op=1:=by simpa using hc1
  refine Cs (Cr (V0 (Yf fo138_1 O) (V0 (Yd 0 O O O na3) (V0 (Ya O) (Ln (Et (Crt (Ebr (Er ?_)))))))))
  refine R1 O O fun w' hw=>?_
  have hE:nodeE (envU l lim) (callR (envU l lim) d) u y loc s.w = .ok y.n s.w:=by
    rw [nodeE_eq,nodeR,if_pos ho]
  exact ⟨(y.n,s),O,⟨.inr ⟨hf0,Stk.ok hf0 hE⟩,hg⟩,Wd 1 hw⟩
 have hn1:¬y.op=1:=by simpa using hc1
 refine Cs (Cr (V0 (yl_eq O O) (V0 (Ya O) (Ln (Et ?_)))))
 refine Cc O (fun hc2=>?_) (fun hc2=>?_)
 ·
  have ho:y.op=2:=by simpa using hc2
  refine Cs (Cs (Cr (V0 (Ym O) (V0 (yl_nil O) (V0 (Yf fo94_2 O) (V0 (Yd 1 O O O na29) (V0 (Yn es29 O) ?_)))))))
  refine V0 (yl_eq O O) (Ln (Et ?_))
  refine Cc O (fun hc3=>?_) (fun hc3=>?_)
  ·
   have hin:s.w.inp=[]:=by simpa using hc3
   refine Cs (Cr (V0 (Ya O) (Ln (Et (Crt (Er (Ebr (Er ?_))))))))
   refine R1 O O fun w' hw=>?_
   have hE:nodeE (envU l lim) (callR (envU l lim) d) u y loc s.w = .ok 0 s.w:=by
     rw [nodeE_eq,nodeR,if_neg hn1,if_pos ho,hin]
   exact ⟨(0,s),O,⟨.inr ⟨hf0,Stk.ok hf0 hE⟩,hg⟩,Wd 1 hw⟩
  obtain ⟨xi,r,hin⟩:∃x r,s.w.inp=x::r:=by
    cases h:s.w.inp with
    | nil=>rw [h] at hc3; cases hc3
    | cons x r=>exact ⟨x,r,rfl⟩
  obtain ⟨ib,io,hia,hrow⟩:=hg.inp.elt 0 xi (by rw [hin]; rfl)
  have hil:s.w.inp.length=r.length+1:=by rw [hin]; rfl
  have hic:=hg.inp.cap
  refine Ck (Et (Cs (Cr (V0 (Ym O) (V0 (yl_nil O) (V0 (Yf fo94_2 O) (V0 (Yd 1 O O O na29) ?_)))))))
  refine V0 (Yo (i:=0) es29 O O hia (by omega)) ?_
  refine V0 (yl_ld 0 na3 O O (hrow 0 _ O)) (V0 (Ya O) (Ln (Et (Cs (Cr (V0 (Ym O) (V0 (Ym O) (V0 (yl_nil O) ?_))))))))
  refine V0 (Yf fo94_2 O) (V0 (Yd 1 O O O na29) ?_)
  refine V0 (yl_slln 1 es29 O O O (by omega) hic) ?_
  refine V0 (yl_nil O) (V0 (Yf fo94_2 O) (Lst 1 Y O O O sz29 O O O (Ln (Et (Cs (Cr (V0 (Ym O) (V0 (Ya O) ?_))))))))
  refine Ln (Et (Crt (Ebr (Er ?_))))
  refine R1 O O fun w' hw=>?_
  have hE:nodeE (envU l lim) (callR (envU l lim) d) u y loc s.w = .ok xi { s.w with inp:=r }:=by
    rw [nodeE_eq,nodeR,if_neg hn1,if_pos ho,hin]
  have hd:=hg.inp.drop 1 (by omega)
  rw [show s.w.inp.drop 1=r by rw [hin]; rfl] at hd
  rw [show s.w.inp.length-1=r.length by omega] at hw
  exact ⟨(xi,⟨{ s.w with inp:=r },s.fin,(_,s.i.2-1),s.o⟩),O,⟨.inr ⟨hf0,Stk.ok hf0 hE⟩,⟨hd,hg.out,hg.tk,hg.dat,hg.cl⟩⟩,(by have h:=hw; have h:=h.fronti 5 O; have h:=h.fronti 5 O; have h:=h.fronti 5 O; have h:=h.fronti 5 O; have h:=h.fronti 5 O; have h:=Wt 5 h; exact h)⟩
 have hn2:¬y.op=2:=by simpa using hc2
 refine Cs (Cr (V0 (yl_eq O O) (V0 (Ya O) (Ln (Et ?_)))))
 refine Cc O (fun hc4=>?_) (fun hc4=>?_)
 ·
  have ho:y.op=16:=by simpa using hc4
  refine Cs ?_
  obtain ⟨h0l,h1l⟩:=hfacts.2.2.2 ho
  obtain ⟨pi,hpi⟩:∃pi:Nat,y.pl=pi:=⟨y.pl.toNat,by omega⟩
  obtain ⟨lv,hlv⟩:∃v,loc[pi]? = some v:=⟨_,List.getElem?_eq_getElem (by omega)⟩
  refine WC.shapeT 5 O (by omega) fun lb hlb hlc hlm=>?_
  refine WC.draws0 [(0,true),(1,true),(2,true),(3,true),(4,true),(5,true),(6,true),(7,true),(8,true)] mixed (by kernel_rfl) (fun _ _ _ d _ h=>by cases d<;>exact h) ?_
  refine D0 O (fun _ h=>h) (Ym O) (D0 O (fun _ h=>h) (yl_nil O) (D0 O (fun _ h=>h) (Yf fo132_1 O) (D0 O (fun _ h=>h) (Yd 4 O O O na29) (D0 O (fun _ h=>h) (Yf fo138_3 O) (D0 O (fun _ h=>h) (Yd 0 O O O na3) ?_)))))
  rw [hpi]
  refine D0 O (fun _ h=>h) (Yo (i:=pi) es29 O O hlb (by omega)) ?_
  refine D0 O (fun _ h=>h) (yl_ldT (y:=lv) 5 pi 0 O O hlb O n1C_len hlv O na3) (D0 O (fun _ h=>h) (Ya O) ?_)
  refine WD.nil (fun _ h=>h) ?_
  refine Et (Crt (Ebr (Er ?_)))
  refine R1 O O fun w' hw=>?_
  have hE:nodeE (envU l lim) (callR (envU l lim) d) u y loc s.w = .ok lv s.w:=by
    rw [nodeE_eq,nodeR,if_neg hn1,if_neg hn2,if_pos ho,hpi,Int.toNat_natCast,rdL_at hlv]
  exact ⟨(lv,s),O,⟨.inr ⟨hf0,Stk.ok hf0 hE⟩,hg⟩,Wd 1 hw⟩
 have hn16:¬y.op=16:=by simpa using hc4
 refine Cs (Cr (V0 (yl_eq O O) (V0 (Ya O) (Ln (Et ?_)))))
 refine Cc O (fun hc5=>?_) (fun hc5=>?_)
 ·
  have ho:y.op=3:=by simpa using hc5
  refine Cs ?_
  obtain ⟨mi,j,p,zd,hmm,hpl,hj,hzd,hroom,hat⟩:=data_row hM.ok lim hx (hfacts.1 ho) (by decide)
  obtain ⟨rr,pK,qK,hrr,haK,hrK⟩:=hM.row hzd
  have hjl:=(List.getElem?_eq_some_iff.1 hzd).1
  have hsr:=sumU_room hzd
  have hpz:p<zd.data.toNat:=by omega
  have hdl:=hg.dat
  obtain ⟨dv,hdv⟩:∃v,(rowU s.w.data l j zd.data.toNat)[p]? = some v:=⟨_,List.getElem?_eq_getElem (by rw [rowU_len hzd hdl]; omega)⟩
  have hdvd:s.w.data[sumU (l.take j)+p]? = some dv:=by rw [←rowU_get (show p<zd.data.toNat by omega)]; exact hdv
  have hrl:=rowU_len hzd hg.dat
  have hmem:osT 3 1 n1C rr.1 rr.2 (rowU s.w.data l j zd.data.toNat) ∈ rowsA 3 da (splitU l s.w.data):=List.mem_of_getElem? (rowsA_get hrr (split_get _ hzd))
  refine WC.fact (p:=∃b o,rr.1=some ⟨b,o,none⟩) (fun w hw=>fam_shape (As:=rowsA 3 da (splitU l s.w.data)) hw 3 O hmem (by omega)) fun ⟨rb,ro_,hrb⟩=>?_
  refine CU (fun _=>true) [] [] (.q false 0 (.q false 1 (.q false 2 (.q true 3 (.q false 4 (.q false 5 (.q false 6 (.q true 7 (.q false 11 (.q true 12 (.e 8 (.q false 9 (.q true 10 (.q false 13 (.q true 14 (.q false 15 .nil))))) .stop))))))))))) mixed (by kernel_rfl) (fun _ _ _ d _ _ h=>by cases d<;>exact h) ?_
  refine U0 O (fun _ h=>h) (Ym O) (U0 O (fun _ h=>h) (yl_nil O) (U0 O (fun _ h=>h) (Yf fo94_1 O) (U0 O (fun _ h=>h) (Yd 1 O O O na85) (U0 O (fun _ h=>h) (Ym O) (U0 O (fun _ h=>h) (Ym O) ?_)))))
  refine U0 O (fun _ h=>h) (Yf fo138_2 O) (U0 O (fun _ h=>h) (Yd 0 O O O na3) (U0 O (fun _ h=>h) (Yf fo138_3 O) (U0 O (fun _ h=>h) (Yd 0 O O O na3) ?_)))
  rw [hpl]
  refine Ue O (fun _ h=>h) ?_ WU.stop
  refine Lf 4 O (Lf 2 O ?_)
  refine Lw (ι:=_) [_,_] _ Y O en122 O O (_) (_) (_) [H] (by simp) (fun w hw=>rmod_any bm K da l lim C H s n bs u x loc.length dn v z mi j y.m w hM hx hj hmm hw) ?_
  intro _ _
  refine Ln (Eu ?_)
  refine U0 O (fun _ h=>by exact ((((((h.f 5 O).f 2 O).f 5 O).f 5 O).f 4 O).f 5 O:)) (Yo es85 O O haK hjl) ?_
  refine U0 O (fun _ h=>by exact ((((((h.f 5 O).f 2 O).f 5 O).f 5 O).f 4 O).f 5 O:)) (yl_ld 0 na29 O O (hrK 0 _ O)) ?_
  refine U0 O (fun _ h=>by exact ((((((h.f 5 O).f 2 O).f 5 O).f 5 O).f 4 O).f 5 O:)) (Yo (i:=p) es29 O O hrb hpz) ?_
  refine U0 O (fun _ h=>by exact ((((((h.f 5 O).f 2 O).f 5 O).f 5 O).f 4 O).f 5 O:)) (yl_ldTF (y:=dv) (xs:=rowU s.w.data l j zd.data.toNat) 3 (p) 0 O O hmem hrb O n1C_len hdv O na3) ?_
  refine U0 O (fun _ h=>by exact ((((((h.f 5 O).f 2 O).f 5 O).f 5 O).f 4 O).f 5 O:)) (Ya O) ?_
  refine WU.nil (fun _ h=>by exact ((((((h.f 5 O).f 2 O).f 5 O).f 5 O).f 4 O).f 5 O:)) ?_
  refine WS.nil ?_
  refine Et (Crt (Ebr (Er ?_)))
  refine R1 O O fun w' hw=>?_
  have hat0:(envU l lim).at_ u y.m y.pl=sumU (l.take j)+p:=by rw [hpl]; exact hat 0
  have hE:nodeE (envU l lim) (callR (envU l lim) d) u y loc s.w = .ok dv s.w:=by
    rw [nodeE_eq,nodeR,if_neg hn1,if_neg hn2,if_neg hn16,if_pos ho,hat0,rdL_at hdvd]
  exact ⟨(dv,s),O,⟨.inr ⟨hf0,Stk.ok hf0 hE⟩,hg⟩,(by have h:=hw; have h:=h.fronti 5 O; have h:=h.fronti 2 O; have h:=h.fronti 5 O; have h:=h.fronti 5 O; have h:=h.fronti 4 O; exact Wt 5 h)⟩
 have hn3:¬y.op=3:=by simpa using hc5
 refine Cs (Cr (V0 (yl_eq O O) (V0 (Ya O) (Ln (Et ?_)))))
 refine Cc O (fun hc6=>?_) (fun hc6=>?_)
 ·
  have ho:y.op=4:=by simpa using hc6
  refine Cs ?_
  have hl1:=hlen.1 (.inl ho)
  obtain ⟨f,hfi⟩:∃v,y.args[0]? = some v:=⟨_,List.getElem?_eq_getElem (by omega)⟩
  obtain ⟨pf,qf,haf,hrf⟩:=hl.elt 0 f hfi
  obtain ⟨k2,rfl⟩:∃k2,k=k2+1:=by
    cases k with
    | zero=>exact hrf.elim
    | succ k2=>exact ⟨k2,rfl⟩
  obtain ⟨fa,fc,hrowf,hsubf⟩:=hrf
  have hN2:=hN k2 (by omega)
  have hof:=nodesK_at hargs hfi
  obtain ⟨⟨hq0,hq32⟩,hdat⟩:=hfacts.2.1 ho
  obtain ⟨mi,j,p,zd,hmm,hpl,hj,hzd,hroom,hat⟩:=data_row hM.ok lim hx hdat (by omega)
  obtain ⟨rr,pK,qK,hrr,haK,hrK⟩:=hM.row hzd
  have hjl:=(List.getElem?_eq_some_iff.1 hzd).1
  have hsr:=sumU_room hzd
  refine CU (fun _=>true) [1,1,1,1,1] [] (.q false 0 (.q false 1 (.q false 2 (.q true 3 (.q false 4 (.q true 5 (.q false 6 (.q true 7 (.e 8 (.q false 9 .nil) .stop))))))))) mixed (by kernel_rfl) (fun _ _ _ d _ _ h=>by cases d<;>exact h) ?_
  refine U0 O (fun _ h=>by exact (Wo 1 (Wo 1 (Wo 1 (Wo 1 (Wo 1 h)))):)) (Ym O) ?_
  refine U0 O (fun _ h=>by exact (Wo 1 (Wo 1 (Wo 1 (Wo 1 (Wo 1 h)))):)) (Ym O) ?_
  refine U0 O (fun _ h=>by exact (Wo 1 (Wo 1 (Wo 1 (Wo 1 (Wo 1 h)))):)) (Yf fo138_4 O) ?_
  refine U0 O (fun _ h=>by exact (Wo 1 (Wo 1 (Wo 1 (Wo 1 (Wo 1 h)))):)) (Yd 0 O O O na102) ?_
  refine U0 O (fun _ h=>by exact (Wo 1 (Wo 1 (Wo 1 (Wo 1 (Wo 1 h)))):)) (Yo (i:=0) es102 O O haf (by omega)) ?_
  refine U0 O (fun _ h=>by exact (Wo 1 (Wo 1 (Wo 1 (Wo 1 (Wo 1 h)))):)) (yl_lda 0 ag138 O O O (hrowf)) ?_
  refine U0 O (fun _ h=>by exact (Wo 1 (Wo 1 (Wo 1 (Wo 1 (Wo 1 h)))):)) (Yf fo138_1 O) ?_
  refine U0 O (fun _ h=>by exact (Wo 1 (Wo 1 (Wo 1 (Wo 1 (Wo 1 h)))):)) (Yd 0 O O O na3) ?_
  refine Ue O (fun _ h=>by exact (Wo 1 (Wo 1 (Wo 1 (Wo 1 (Wo 1 h)))):)) ?_ WU.stop
  refine Lf 5 O (Lf 5 O (Lf 5 O (Lf 5 O (Lf 5 O ?_))))
  refine Lw (ι:=_) [_,_,_,_,_] _ Y O en123 O O (_) (_) (_) [H] (by simp) (fun w hw=>rindex_run H n K da l lim bm C d bs u z x loc dn v f y.n fa fc k2 _ s w hg hM hx hf0 ⟨hq0,hq32⟩ hN2 hsubf hof hw) ?_
  intro r84 ⟨hr84,hg84,hz84⟩
  refine Ln (Eu ?_)
  refine U0 O (fun _ h=>by exact (Wo 1 (Wo 1 (Wo 1 (Wo 1 (Wo 1 ((((((h.f 4 O).f 4 O).f 4 O).f 4 O).f 4 O).f 5 O))))):)) (Ya O) ?_
  refine WU.nil (fun _ h=>by exact (Wo 1 (Wo 1 (Wo 1 (Wo 1 (Wo 1 ((((((h.f 4 O).f 4 O).f 4 O).f 4 O).f 4 O).f 5 O))))):)) ?_
  refine WS.nil ?_
  refine Et (Cs ?_)
  have hk84:=hr84
  obtain ⟨ni,hni,hpz⟩:∃ni:Nat,r84.1=ni∧p+ni<zd.data.toNat:=by
    by_cases h0:r84.2.fin=0
    · have h9:0≤r84.1∧r84.1<y.n:=index_in (hk84.get h0)
      exact ⟨r84.1.toNat,by omega,by omega⟩
    · exact ⟨0,by rw [hz84 h0]; rfl,by omega⟩
  have hdl:=hg84.dat
  obtain ⟨dv,hdv⟩:∃v,(rowU r84.2.w.data l j zd.data.toNat)[(p+ni)]? = some v:=⟨_,List.getElem?_eq_getElem (by rw [rowU_len hzd hdl]; omega)⟩
  have hdvd:r84.2.w.data[sumU (l.take j)+(p+ni)]? = some dv:=by rw [←rowU_get (show (p+ni)<zd.data.toNat by omega)]; exact hdv
  have hrl:=rowU_len hzd hg84.dat
  have hmem:osT 3 1 n1C rr.1 rr.2 (rowU r84.2.w.data l j zd.data.toNat) ∈ rowsA 3 da (splitU l r84.2.w.data):=List.mem_of_getElem? (rowsA_get hrr (split_get _ hzd))
  refine WC.fact (p:=∃b o,rr.1=some ⟨b,o,none⟩) (fun w hw=>fam_shape (As:=rowsA 3 da (splitU l r84.2.w.data)) hw 2 O hmem (by omega)) fun ⟨rb,ro_,hrb⟩=>?_
  refine CU (fun _=>true) [] [] (.q false 0 (.q false 1 (.q false 2 (.q true 3 (.q false 4 (.q false 5 (.q false 6 (.q true 7 (.q false 11 (.q true 12 (.q false 13 (.q false 14 (.e 8 (.q false 9 (.q true 10 (.q false 15 (.q true 16 (.q false 17 .nil))))) .stop))))))))))))) mixed (by kernel_rfl) (fun _ _ _ d _ _ h=>by cases d<;>exact h) ?_
  refine U0 O (fun _ h=>h) (Ym O) (U0 O (fun _ h=>h) (yl_nil O) (U0 O (fun _ h=>h) (Yf fo94_1 O) (U0 O (fun _ h=>h) (Yd 0 O O O na85) (U0 O (fun _ h=>h) (Ym O) (U0 O (fun _ h=>h) (Ym O) ?_)))))
  refine U0 O (fun _ h=>h) (Yf fo138_2 O) (U0 O (fun _ h=>h) (Yd 5 O O O na3) (U0 O (fun _ h=>h) (Yf fo138_3 O) (U0 O (fun _ h=>h) (Yd 5 O O O na3) (U0 O (fun _ h=>h) (Ym O) ?_))))
  refine U0 O (fun _ h=>h) (yl_addn (a:=p) (b:=ni) O O hpl hni (by omega)) ?_
  refine Ue O (fun _ h=>h) ?_ WU.stop
  refine Lf 3 O (Lf 1 O ?_)
  refine Lw (ι:=_) [_,_] _ Y O en122 O O (_) (_) (_) [H] (by simp) (fun w hw=>rmod_any bm K da l lim C H r84.2 n bs u x loc.length dn v z mi j y.m w hM hx hj hmm hw) ?_
  intro _ _
  refine Ln (Eu ?_)
  refine U0 O (fun _ h=>by exact ((((((h.f 5 O).f 5 O).f 3 O).f 5 O).f 5 O).f 5 O:)) (Yo es85 O O haK hjl) ?_
  refine U0 O (fun _ h=>by exact ((((((h.f 5 O).f 5 O).f 3 O).f 5 O).f 5 O).f 5 O:)) (yl_ld 0 na29 O O (hrK 0 _ O)) ?_
  refine U0 O (fun _ h=>by exact ((((((h.f 5 O).f 5 O).f 3 O).f 5 O).f 5 O).f 5 O:)) (Yo (i:=p+ni) es29 O O hrb hpz) ?_
  refine U0 O (fun _ h=>by exact ((((((h.f 5 O).f 5 O).f 3 O).f 5 O).f 5 O).f 5 O:)) (yl_ldTF (y:=dv) (xs:=rowU r84.2.w.data l j zd.data.toNat) 2 ((p+ni)) 0 O O hmem hrb O n1C_len hdv O na3) ?_
  refine U0 O (fun _ h=>by exact ((((((h.f 5 O).f 5 O).f 3 O).f 5 O).f 5 O).f 5 O:)) (Ya O) ?_
  refine WU.nil (fun _ h=>by exact ((((((h.f 5 O).f 5 O).f 3 O).f 5 O).f 5 O).f 5 O:)) ?_
  refine WS.nil ?_
  refine Et (Crt (Ebr (Er ?_)))
  refine R1 O O fun w' hw=>?_
  have hE:nodeE (envU l lim) (callR (envU l lim) d) u y loc s.w=(indexR y.n (nodeE (envU l lim) (callR (envU l lim) d) u f) loc s.w).bind fun i w=>.ok (rdL w.data ((envU l lim).at_ u y.m (y.pl+i))) w:=by
    rw [nodeE_eq,nodeR,if_neg hn1,if_neg hn2,if_neg hn16,if_neg hn3,if_pos ho,kidE_at hfi]
  refine ⟨(dv,r84.2),O,⟨.inr ⟨hf0,?_⟩,hg84⟩,(by have h:=hw; have h:=h.fronti 4 O; have h:=h.fronti 2 O; have h:=h.fronti 4 O; have h:=h.fronti 4 O; have h:=h.fronti 4 O; exact Wt 5 h)⟩
  rw [hE]
  refine hk84.then ?_
  by_cases h0:r84.2.fin=0
  · have hat0:(envU l lim).at_ u y.m (y.pl+r84.1)=sumU (l.take j)+(p+ni):=by rw [hpl,hni]; exact hat ni
    exact .inr ⟨h0,Stk.ok h0 (by rw [hat0,rdL_at hdvd])⟩
  · exact .inl ⟨h0,O⟩
 have hn4:¬y.op=4:=by simpa using hc6
 refine Cs (Cr (V0 (yl_eq O O) (V0 (Ya O) (Ln (Et ?_)))))
 refine Cc O (fun hc7=>?_) (fun hc7=>?_)
 ·
  have ho:y.op=5:=by simpa using hc7
  refine Cs (Cr (V0 (Ym O) (V0 (Ym O) (V0 (Yf fo138_2 O) (V0 (Yd 0 O O O na3) (V0 (Yf fo138_3 O) ?_))))))
  refine V0 (Yd 0 O O O na3) (V0 (Yf fo138_4 O) (V0 (Yd 0 O O O na102) (Lf 5 O (Lf 5 O (Lf 5 O ?_)))))
  refine Lf 5 O (Lf 5 O ?_)
  refine Lw (ι:=_) [_,_,_,_,_] _ Y O en124 O O (_) (_) (_) [H] (by simp) (fun w hw=>rpart_run H n K da l lim bm C d bs u z x loc dn v y.m y.pl y.args a c k _ s w hg hM hx hf0 hN hC (hfacts.2.2.1 ho) hl hargs hw) ?_
  intro r112 ⟨hr112,hg112⟩
  refine V0 (Ya O) (Ln (Et (Crt (Ebr (Er ?_)))))
  refine R1 O O fun w' hw=>?_
  have hE:nodeE (envU l lim) (callR (envU l lim) d) u y loc s.w=partR (envU l lim) (callR (envU l lim) d) u y.m y.pl (kidsE (envU l lim) (callR (envU l lim) d) u y.args) loc s.w:=by
    rw [nodeE_eq,nodeR,if_neg hn1,if_neg hn2,if_neg hn16,if_neg hn3,if_neg hn4,if_pos ho]
  exact ⟨r112,O,⟨.inr ⟨hf0,by rw [hE]; exact hr112⟩,hg112⟩,Wt 5 hw⟩
 have hn5:¬y.op=5:=by simpa using hc7
 refine Cs (Cr (V0 (yl_eq O O) (V0 (Ya O) (Ln (Et ?_)))))
 refine Cc O (fun hc8=>?_) (fun hc8=>?_)
 ·
  have ho:y.op=6:=by simpa using hc8
  refine Cs ?_
  have hl1:=hlen.1 (.inr ho)
  obtain ⟨f,hfi⟩:∃v,y.args[0]? = some v:=⟨_,List.getElem?_eq_getElem (by omega)⟩
  obtain ⟨pf,qf,haf,hrf⟩:=hl.elt 0 f hfi
  obtain ⟨k2,rfl⟩:∃k2,k=k2+1:=by
    cases k with
    | zero=>exact hrf.elim
    | succ k2=>exact ⟨k2,rfl⟩
  obtain ⟨fa,fc,hrowf,hsubf⟩:=hrf
  have hN2:=hN k2 (by omega)
  have hof:=nodesK_at hargs hfi
  refine Cr (V0 (Ym O) (V0 (Ym O) (V0 (Yf fo138_4 O) (V0 (Yd 0 O O O na102) ?_))))
  refine V0 (Yo (i:=0) es102 O O haf (by omega)) ?_
  refine V0 (yl_lda 0 ag138 O O O (hrowf)) (Lf 5 O (Lf 5 O (Lf 5 O (Lf 5 O (Lf 5 O ?_)))))
  refine Lw (ι:=_) [_,_,_,_,_] _ Y O en121 O O (_) (_) (_) [H] (by simp) (fun w hw=>hN2 bs u z x loc dn v f fa fc _ s w hg hx hsubf hof hw) ?_
  intro r121 ⟨hr121,hg121⟩
  refine V0 (yl_eq O O) ?_
  refine Lp Y O en141 O (fun w hw=>rtruth_any _ w) ?_
  refine V0 (Ya O) (Ln (Et (Crt (Ebr (Er ?_)))))
  refine R1 O O fun w' hw=>?_
  have hE:nodeE (envU l lim) (callR (envU l lim) d) u y loc s.w=(nodeE (envU l lim) (callR (envU l lim) d) u f loc s.w).bind fun v w=>.ok (bitB (v==0)) w:=by
    rw [nodeE_eq,nodeR,if_neg hn1,if_neg hn2,if_neg hn16,if_neg hn3,if_neg hn4,if_neg hn5,if_pos ho,kidE_at hfi]
  exact ⟨(bitB (r121.1==0),r121.2),O,⟨.inr ⟨hf0,by rw [hE]; exact (hr121.of hf0).map fun v=>bitB (v==0)⟩,hg121⟩,Wt 5 hw⟩
 have hn6:¬y.op=6:=by simpa using hc8
 refine Cs (Cr (V0 (yl_eq O O) (V0 (Ya O) (Ln (Et ?_)))))
 refine Cc O (fun hc9=>?_) (fun hc9=>?_)
 ·
  have ho:y.op=7:=by simpa using hc9
  refine Cs ?_
  have hl2:=hlen.2.1 (by omega)
  obtain ⟨f,hfi⟩:∃v,y.args[0]? = some v:=⟨_,List.getElem?_eq_getElem (by omega)⟩
  obtain ⟨pf,qf,haf,hrf⟩:=hl.elt 0 f hfi
  obtain ⟨g,hgi⟩:∃v,y.args[1]? = some v:=⟨_,List.getElem?_eq_getElem (by omega)⟩
  obtain ⟨pg,qg,hag,hrg⟩:=hl.elt 1 g hgi
  obtain ⟨k2,rfl⟩:∃k2,k=k2+1:=by
    cases k with
    | zero=>exact hrf.elim
    | succ k2=>exact ⟨k2,rfl⟩
  obtain ⟨fa,fc,hrowf,hsubf⟩:=hrf
  have hN2:=hN k2 (by omega)
  have hof:=nodesK_at hargs hfi
  obtain ⟨ga,gc,hrowg,hsubg⟩:=hrg
  have hog:=nodesK_at hargs hgi
  have hE:nodeE (envU l lim) (callR (envU l lim) d) u y loc s.w=(nodeE (envU l lim) (callR (envU l lim) d) u f loc s.w).bind fun v w=>if v=0 then .ok 0 w else (nodeE (envU l lim) (callR (envU l lim) d) u g loc w).bind fun v w=>.ok (bitB (!(v==0))) w:=by
    rw [nodeE_eq,nodeR,if_neg hn1,if_neg hn2,if_neg hn16,if_neg hn3,if_neg hn4,if_neg hn5,if_neg hn6,if_pos ho,kidE_at hfi,kidE_at hgi]
  refine Cr (V0 (Ym O) (V0 (Ym O) (V0 (Yf fo138_4 O) (V0 (Yd 0 O O O na102) ?_))))
  refine V0 (Yo (i:=0) es102 O O haf (by omega)) ?_
  refine V0 (yl_lda 0 ag138 O O O (hrowf)) (Lf 5 O (Lf 5 O (Lf 5 O (Lf 5 O (Lf 5 O ?_)))))
  refine Lw (ι:=_) [_,_,_,_,_] _ Y O en121 O O (_) (_) (_) [H] (by simp) (fun w hw=>hN2 bs u z x loc dn v f fa fc _ s w hg hx hsubf hof hw) ?_
  intro r132 ⟨hr132,hg132⟩
  refine V0 (yl_ne O O) (V0 (Ym O) ?_)
  rcases Bool.eq_false_or_eq_true (r132.1 != 0) with hsp134 | hsp134
  ·
   rw [hsp134]
   refine Vg (Ym O) (Vg (Ym O) (Vg (Yf fo138_4 O) (Vg (Yd 5 O O O na102) ?_)))
   refine Vg (Yo (i:=1) es102 O O hag (by omega)) ?_
   refine Vg (yl_lda 0 ag138 O O O (hrowg)) (Lf 4 O (Lf 4 O (Lf 4 O (Lf 4 O (Lf 4 O ?_)))))
   refine Lw (ι:=_) [_,_,_,_,_] _ (.g O O O) O en121 O O (_) (_) (_) [H] (by simp) (fun w hw=>hN2 bs u z x loc dn v g ga gc _ r132.2 w hg132 hx hsubg hog hw) ?_
   intro r141 ⟨hr141,hg141⟩
   refine Vg (yl_ne O O) (V0 (yl_pickt O O) ?_)
   refine Lp Y O en141 O (fun w hw=>rtruth_any _ w) ?_
   refine V0 (Ya O) (Ln (Et (Crt (Ebr (Er ?_)))))
   refine R1 O O fun w' hw=>?_
   exact ⟨(bitB (r141.1 != 0),r141.2),O,⟨.inr ⟨hf0,by
     rw [hE]
     refine (hr132.of hf0).then ?_
     rcases hr141 with ⟨h0,h1⟩ | ⟨h0,h1⟩
     · exact .inl ⟨h0,h1⟩
     · exact .inr ⟨h0,by rw [if_neg (by simpa using hsp134)]; exact h1.map fun v=>bitB (!(v==0))⟩⟩,hg141⟩,Wt 5 hw⟩
  rw [hsp134]
  refine WL.skip O O O O O ?_
  refine WL.skip O O O O O ?_
  refine WL.skip O O O O O ?_
  refine WL.skip O O O O O ?_
  refine WL.skip O O O O O ?_
  refine WL.skip O O O O O ?_
  refine WL.skip O O O O O ?_
  refine WL.skip O O O O O ?_
  refine V0 (yl_pickf O O) ?_
  refine Lp Y O en141 O (fun w hw=>rtruth_any _ w) ?_
  refine V0 (Ya O) (Ln (Et (Crt (Ebr (Er ?_)))))
  refine R1 O O fun w' hw=>?_
  refine ⟨(0,r132.2),O,⟨.inr ⟨hf0,?_⟩,hg132⟩,Wt 5 hw⟩
  rw [hE]
  refine (hr132.of hf0).then ?_
  by_cases h0:r132.2.fin=0
  · exact .inr ⟨h0,Stk.ok h0 (if_pos (by simpa using hsp134))⟩
  · exact .inl ⟨h0,O⟩
 have hn7:¬y.op=7:=by simpa using hc9
 refine Cs (Cr (V0 (yl_eq O O) (V0 (Ya O) (Ln (Et ?_)))))
 refine Cc O (fun hc10=>?_) (fun hc10=>?_)
 ·
  have ho:y.op=8:=by simpa using hc10
  refine Cs ?_
  have hl2:=hlen.2.1 (by omega)
  obtain ⟨f,hfi⟩:∃v,y.args[0]? = some v:=⟨_,List.getElem?_eq_getElem (by omega)⟩
  obtain ⟨pf,qf,haf,hrf⟩:=hl.elt 0 f hfi
  obtain ⟨g,hgi⟩:∃v,y.args[1]? = some v:=⟨_,List.getElem?_eq_getElem (by omega)⟩
  obtain ⟨pg,qg,hag,hrg⟩:=hl.elt 1 g hgi
  obtain ⟨k2,rfl⟩:∃k2,k=k2+1:=by
    cases k with
    | zero=>exact hrf.elim
    | succ k2=>exact ⟨k2,rfl⟩
  obtain ⟨fa,fc,hrowf,hsubf⟩:=hrf
  have hN2:=hN k2 (by omega)
  have hof:=nodesK_at hargs hfi
  obtain ⟨ga,gc,hrowg,hsubg⟩:=hrg
  have hog:=nodesK_at hargs hgi
  have hE:nodeE (envU l lim) (callR (envU l lim) d) u y loc s.w=(nodeE (envU l lim) (callR (envU l lim) d) u f loc s.w).bind fun v w=>if v=0 then (nodeE (envU l lim) (callR (envU l lim) d) u g loc w).bind fun v w=>.ok (bitB (!(v==0))) w else .ok 1 w:=by
    rw [nodeE_eq,nodeR,if_neg hn1,if_neg hn2,if_neg hn16,if_neg hn3,if_neg hn4,if_neg hn5,if_neg hn6,if_neg hn7,if_pos ho,kidE_at hfi,kidE_at hgi]
  refine Cr (V0 (Ym O) (V0 (Ym O) (V0 (Yf fo138_4 O) (V0 (Yd 0 O O O na102) ?_))))
  refine V0 (Yo (i:=0) es102 O O haf (by omega)) ?_
  refine V0 (yl_lda 0 ag138 O O O (hrowf)) (Lf 5 O (Lf 5 O (Lf 5 O (Lf 5 O (Lf 5 O ?_)))))
  refine Lw (ι:=_) [_,_,_,_,_] _ Y O en121 O O (_) (_) (_) [H] (by simp) (fun w hw=>hN2 bs u z x loc dn v f fa fc _ s w hg hx hsubf hof hw) ?_
  intro r153 ⟨hr153,hg153⟩
  refine V0 (yl_ne O O) (V0 (Ym O) ?_)
  rcases Bool.eq_false_or_eq_true (r153.1 != 0) with hsp155 | hsp155
  ·
   rw [hsp155]
   refine WL.skip O O O O O ?_
   refine WL.skip O O O O O ?_
   refine WL.skip O O O O O ?_
   refine WL.skip O O O O O ?_
   refine WL.skip O O O O O ?_
   refine WL.skip O O O O O ?_
   refine WL.skip O O O O O ?_
   refine WL.skip O O O O O ?_
   refine V0 (yl_pickt O O) ?_
   refine Lp Y O en141 O (fun w hw=>rtruth_any _ w) ?_
   refine V0 (Ya O) (Ln (Et (Crt (Ebr (Er ?_)))))
   refine R1 O O fun w' hw=>?_
   refine ⟨(1,r153.2),O,⟨.inr ⟨hf0,?_⟩,hg153⟩,Wt 5 hw⟩
   rw [hE]
   refine (hr153.of hf0).then ?_
   by_cases h0:r153.2.fin=0
   · exact .inr ⟨h0,Stk.ok h0 (if_neg (by simpa using hsp155))⟩
   · exact .inl ⟨h0,O⟩
  rw [hsp155]
  refine Vg (Ym O) (Vg (Ym O) (Vg (Yf fo138_4 O) (Vg (Yd 5 O O O na102) ?_)))
  refine Vg (Yo (i:=1) es102 O O hag (by omega)) ?_
  refine Vg (yl_lda 0 ag138 O O O (hrowg)) (Lf 4 O (Lf 4 O (Lf 4 O (Lf 4 O (Lf 4 O ?_)))))
  refine Lw (ι:=_) [_,_,_,_,_] _ (.g O O O) O en121 O O (_) (_) (_) [H] (by simp) (fun w hw=>hN2 bs u z x loc dn v g ga gc _ r153.2 w hg153 hx hsubg hog hw) ?_
  intro r162 ⟨hr162,hg162⟩
  refine Vg (yl_ne O O) (V0 (yl_pickf O O) ?_)
  refine Lp Y O en141 O (fun w hw=>rtruth_any _ w) ?_
  refine V0 (Ya O) (Ln (Et (Crt (Ebr (Er ?_)))))
  refine R1 O O fun w' hw=>?_
  exact ⟨(bitB (r162.1 != 0),r162.2),O,⟨.inr ⟨hf0,by
    rw [hE]
    refine (hr153.of hf0).then ?_
    rcases hr162 with ⟨h0,h1⟩ | ⟨h0,h1⟩
    · exact .inl ⟨h0,h1⟩
    · exact .inr ⟨h0,by rw [if_pos (by simpa using hsp155)]; exact h1.map fun v=>bitB (!(v==0))⟩⟩,hg162⟩,Wt 5 hw⟩
 have hn8:¬y.op=8:=by simpa using hc10
 refine Ck (Eb (Et (Cs ?_)))
 have hop9:9≤y.op∧y.op≤15:=by have:=hlen.2.2; omega
 have hl2:=hlen.2.1 (by omega)
 obtain ⟨f,hfi⟩:∃v,y.args[0]? = some v:=⟨_,List.getElem?_eq_getElem (by omega)⟩
 obtain ⟨pf,qf,haf,hrf⟩:=hl.elt 0 f hfi
 obtain ⟨g,hgi⟩:∃v,y.args[1]? = some v:=⟨_,List.getElem?_eq_getElem (by omega)⟩
 obtain ⟨pg,qg,hag,hrg⟩:=hl.elt 1 g hgi
 obtain ⟨k2,rfl⟩:∃k2,k=k2+1:=by
   cases k with
   | zero=>exact hrf.elim
   | succ k2=>exact ⟨k2,rfl⟩
 obtain ⟨fa,fc,hrowf,hsubf⟩:=hrf
 have hN2:=hN k2 (by omega)
 have hof:=nodesK_at hargs hfi
 obtain ⟨ga,gc,hrowg,hsubg⟩:=hrg
 have hog:=nodesK_at hargs hgi
 have hE:nodeE (envU l lim) (callR (envU l lim) d) u y loc s.w=(nodeE (envU l lim) (callR (envU l lim) d) u f loc s.w).bind fun a w=>(nodeE (envU l lim) (callR (envU l lim) d) u g loc w).bind fun b w=>mathR y.op a b w:=by
   rw [nodeE_eq,nodeR,if_neg hn1,if_neg hn2,if_neg hn16,if_neg hn3,if_neg hn4,if_neg hn5,if_neg hn6,if_neg hn7,if_neg hn8,kidE_at hfi,kidE_at hgi]
 refine Cr (V0 (Ym O) (V0 (Ym O) (V0 (Yf fo138_4 O) (V0 (Yd 0 O O O na102) ?_))))
 refine V0 (Yo (i:=0) es102 O O haf (by omega)) ?_
 refine V0 (yl_lda 0 ag138 O O O (hrowf)) (Lf 5 O (Lf 5 O (Lf 5 O (Lf 5 O (Lf 5 O ?_)))))
 refine Lw (ι:=_) [_,_,_,_,_] _ Y O en121 O O (_) (_) (_) [H] (by simp) (fun w hw=>hN2 bs u z x loc dn v f fa fc _ s w hg hx hsubf hof hw) ?_
 intro r172 ⟨hr172,hg172⟩
 refine V0 (Ya O) (Ln (Et (Cs (Cr (V0 (Ym O) (V0 (Ym O) (V0 (Yf fo138_4 O) (V0 (Yd 5 O O O na102) ?_))))))))
 refine V0 (Yo (i:=1) es102 O O hag (by omega)) ?_
 refine V0 (yl_lda 0 ag138 O O O (hrowg)) (Lf 4 O (Lf 4 O (Lf 4 O (Lf 4 O (Lf 4 O ?_)))))
 refine Lw (ι:=_) [_,_,_,_,_] _ Y O en121 O O (_) (_) (_) [H] (by simp) (fun w hw=>hN2 bs u z x loc dn v g ga gc _ r172.2 w hg172 hx hsubg hog hw) ?_
 intro r179 ⟨hr179,hg179⟩
 refine V0 (Ya O) (Ln (Et (Cs (Cs ?_))))
 have hk172:=hr172.of hf0
 refine Cr (V0 (Ym O) (V0 (yl_nil O) (V0 (Yf fo94_7 O) (V0 (Yd 0 O O O na3) (V0 (yl_ne O O) ?_)))))
 refine Ln (Et ?_)
 refine Cc O (fun hc11=>?_) (fun hc11=>?_)
 ·
  have hf11:¬r179.2.fin=0:=by simpa using hc11
  refine Cs (Cr (V0 (Ya O) (Ln (Et (Crt (Er ?_))))))
  refine R1 O O fun w' hw=>?_
  exact ⟨(0,r179.2),O,⟨.inr ⟨hf0,by
    rw [hE]
    refine hk172.then ?_
    rcases hr179 with ⟨h0,h1⟩ | ⟨h0,h1⟩
    · exact .inl ⟨h0,h1⟩
    · exact .inr ⟨h0,h1.out hf11 _ _⟩⟩,hg179⟩,Wt 5 hw⟩
 have hf11:r179.2.fin=0:=by simpa using hc11
 have hf17:r172.2.fin=0:=by
   rcases hr179 with ⟨h0,h1⟩ | ⟨h0,_⟩
   · rw [←h1]; exact hf11
   · exact h0
 have hM2:nodeE (envU l lim) (callR (envU l lim) d) u y loc s.w=mathR y.op r172.1 r179.1 r179.2.w:=hE.trans ((bind_ok (hk172.get hf17)).trans (bind_ok ((hr179.of hf17).get hf11)))
 refine Ck (Et (Cs (Cr (V0 (Yf fo138_0 O) (V0 (Yd 5 O O O na3) (V0 (Ym O) (V0 (Ym O) ?_)))))))
 refine Lp Y O en142 O (fun w hw=>rmath_any _ _ _ w) ?_
 refine V0 (Ym O) (V0 (Yx O O) (V0 (Yx O O) (V0 (Ya O) (V0 (Ya O) (Ln (Et (Cs (Cs (Cr ?_)))))))))
 refine V0 (Ym O) (V0 (yl_not O) (Ln (Et ?_)))
 refine Cc O (fun hc12=>?_) (fun hc12=>?_)
 ·
  have hm2:(mathN y.op r172.1 r179.1).2=false:=by simpa using hc12
  refine Cr (V0 (Ym O) (V0 (yl_nil O) (V0 (Yf fo94_7 O) (Lst 0 Y O O O sz3 O O O (Ln (Et (Cs (Cr ?_))))))))
  refine V0 (Ym O) (V0 (Ya O) (Ln (Et (Crt ?_))))
  refine R1 O O fun w' hw=>?_
  exact ⟨((mathN y.op r172.1 r179.1).1,⟨r179.2.w,1,r179.2.i,r179.2.o⟩),O,⟨.inr ⟨hf0,Stk.ov (c:=r179.2.w.calls) (show (1:Int)≠0 by decide) (hM2.trans (by rw [math_N hop9,if_neg (by rw [hm2]; simp)]))⟩,⟨hg179.inp,hg179.out,hg179.tk,hg179.dat,hg179.cl⟩⟩,Wt 5 hw⟩
 have hm2:(mathN y.op r172.1 r179.1).2=true:=by simpa using hc12
 refine Ck (Et (Cs (Cr (V0 (Ym O) (V0 (Ya O) (Ln (Et (Crt ?_))))))))
 refine R1 O O fun w' hw=>?_
 exact ⟨((mathN y.op r172.1 r179.1).1,r179.2),O,⟨.inr ⟨hf0,Stk.ok hf11 (hM2.trans (by rw [math_N hop9,if_pos hm2]))⟩,hg179⟩,Wt 5 hw⟩
end Go.Proofs.YtpjekjnehiinnaaGreatDoor
end
