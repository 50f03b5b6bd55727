/- ObjWrites: Write and Read of objects answer just what the document says, whatever they are handed. -/
import Derived.Test.YtplfmnkmlaolpaaGreatDoorW4
set_option linter.unusedVariables false
set_option linter.unusedSimpArgs false
section
namespace Go.Proofs.YtplfmnkmlaolpaaGreatDoor
open Go.Bw
theorem fo123_0:fieldOff Tryz.prog 123 0=some 0:=by kernel_rfl
theorem fo27_3:fieldOff Tryz.prog 27 3=some 3:=by kernel_rfl
theorem na23:nonAgg Tryz.prog 23=true:=by kernel_rfl
theorem el23:EltOk Tryz.prog 23 67 (.agg #[.int .i64 0,.int .i64 0,.int .i64 0]) 3 24:=eltOk_of (by kernel_rfl)
theorem sz23:sizeP Tryz.prog 23=some 1:=by kernel_rfl
theorem es23:elemSz Tryz.prog 23=some 3:=by kernel_rfl
theorem fo27_4:fieldOff Tryz.prog 27 4=some 4:=by kernel_rfl
theorem na24:nonAgg Tryz.prog 24=true:=by kernel_rfl
theorem pl70:placesP Tryz.prog 70=some [(0,1),(1,1),(2,1)]:=by kernel_rfl
theorem zr70:zeroOf Tryz.prog 70=some (.agg #[.int .i64 0,.int .i64 0,.int .i64 0]):=by kernel_rfl
theorem el24:EltOk Tryz.prog 24 70 (.agg #[.int .i64 0,.int .i64 0,.int .i64 0]) 3 24:=eltOk_of (by kernel_rfl)
theorem sz24:sizeP Tryz.prog 24=some 1:=by kernel_rfl
theorem ag67:aggOf Tryz.prog 67=some 3:=by kernel_rfl
theorem en87:Enters Tryz.prog 87:=enters_of Tryz.func87 (by kernel_rfl) rfl
theorem na120:nonAgg Tryz.prog 120=true:=by kernel_rfl
theorem pl67:placesP Tryz.prog 67=some [(0,1),(1,1),(2,1)]:=by kernel_rfl
theorem zr67:zeroOf Tryz.prog 67=some (.agg #[.int .i64 0,.int .i64 0,.int .i64 0]):=by kernel_rfl
theorem en131:Enters Tryz.prog 131:=enters_of Tryz.func131 (by kernel_rfl) rfl
theorem fo67_1:fieldOff Tryz.prog 67 1=some 1:=by kernel_rfl
theorem sput_any (sb:Nat) (K:ObjK) (t:GsA) (H:View) (a:Option Addr) (c:Nat) (l:List InsG) (w:World) (hl:Sl rdIG 3 H a c l) (hb:t.g.code.length+l.length≤1000000000010) (hw:Ws w (List.flatMap Asr.ids (gown 123 67 70 sb K t)) (gown 123 67 70 sb K t) [H] w) :
   Calls Tryz.prog 87 #[.pointer (some ⟨sb,0,none⟩),.slice a l.length c] w fun e w'=>∃q:SP,e = .returned (.tuple #[])∧Ws w (List.flatMap Asr.ids (gown 123 67 70 sb K t)) (gown 123 67 70 sb K ⟨putG l t.g,q,t.fa⟩) [H] w':=by
 have hcap:=hl.cap
 have hmax:=hl.max
 refine enter Tryz.func87 O 15 O O ?_
 refine CE hw ?_
 refine Cr (V0 (Ym O) (V0 (Ym O) (V0 (yl_nil O) (V0 (Yf fo123_0 O) (V0 (Yf fo27_3 O) ?_)))))
 refine V0 (Yd 0 O O O na23) (V0 (Ym O) ?_)
 refine WL.appendL (xs:=t.g.code) (ys:=l) 1 (fun _=>H) Y O el23 O O O (fun w hw=>⟨hw.vs H (by simp),hl⟩) (fun _ _ _ _ h=>h) InsG.cells_len InsG.one (by omega) (by omega) fun a11 c11=>?_
 refine V0 (yl_nil O) (V0 (Yf fo123_0 O) (V0 (Yf fo27_3 O) (Lst 0 Y O O O sz23 O O O (Ln ?_))))
 refine E0 O fun w' hw=>?_
 exact ⟨(a11,c11),O,hw⟩
theorem sfix_any (sb:Nat) (K:ObjK) (t:GsA)  (i:InsG) (kind m:Int) (w:World)  (hb:t.g.code.length+1≤1000000000000) (hfb:t.g.fix.length+1≤1000000000000) (hw:Ws w (List.flatMap Asr.ids (gown 123 67 70 sb K t)) (gown 123 67 70 sb K t) [] w) :
   Calls Tryz.prog 131 #[.pointer (some ⟨sb,0,none⟩),.agg i.cells.toArray,.int .i64 kind,.int .i64 m] w fun e w'=>∃q:SP×SP,e = .returned (.int .i64 (t.g.code.length:Int))∧Ws w (List.flatMap Asr.ids (gown 123 67 70 sb K t)) (gown 123 67 70 sb K ⟨fixG i kind m t.g,q.1,q.2⟩) [] w':=by
 refine enter Tryz.func131 O 36 O O ?_
 refine CE hw ?_
 refine Cs (Cr ?_)
 refine WL.box Y O O fun b5=>?_
 refine V0 (Ya O) (Ln (Et (Cs (Cr (V0 (Ym O) (V0 (yl_nil O) (V0 (Yf fo123_0 O) (V0 (Yf fo27_3 O) ?_))))))))
 refine V0 (Yd 1 O O O na23) (V0 (Yn es23 O) (V0 (Ya O) (Ln (Et (Cs (Cr (V0 (Ym O) (V0 (Ym O) ?_))))))))
 refine V0 (yl_nil O) (V0 (Yf fo123_0 O) (V0 (Yf fo27_4 O) (V0 (Yd 1 O O O na24) (V0 (Ym O) (V0 (Ym O) ?_)))))
 refine V0 (Ym O) (V0 (Yb zr70 pl70 O O) ?_)
 refine Lb Y O el24 O O O O fun b26=>?_
 refine Lrb 0 (.cells (FixE.cells ⟨(t.g.code.length:Int),kind,m⟩).toArray 70 (0,0)) O (O) ?_
 refine LA ((⟨(t.g.code.length:Int),kind,m⟩:FixE)) 4 0 Y O el24 O O O O O O (by omega) (by omega) fun a27 c27=>?_
 refine V0 (yl_nil O) (V0 (Yf fo123_0 O) (V0 (Yf fo27_4 O) (Lst 2 Y O O O sz24 O O O (Ln (Et (Cs ?_))))))
 refine Crb 2 (gob 123 K (⟨⟨t.g.code,t.g.fix++[(⟨(t.g.code.length:Int),kind,m⟩:FixE)]⟩,t.ca,(a27,c27)⟩:GsA)) O O ?_
 refine CWd (W':=Ws w (List.flatMap Asr.ids (gown 123 67 70 sb K t)) ((gown 123 67 70 sb K (⟨⟨t.g.code,t.g.fix++[(⟨(t.g.code.length:Int),kind,m⟩:FixE)]⟩,t.ca,(a27,c27)⟩:GsA))++[blk b5 (.cells i.cells.toArray 67 (0,0))]) []) (fun _ h=>by exact (Wt 4 ((((h.f 1 O).f 4 O).f 4 O).f 4 O):)) ?_
 refine Cr (V0 (Ym O) (V0 (Yda 3 O O ag67 O) ?_))
 refine Lb Y O el23 O O O O fun b33=>?_
 refine WL.blksl (rd:=rdIG) (f:=InsG.cells) (k:=3) (m:=1) 0 [i] O O InsG.cells_len (fun _ _ _ _ h=>h) (by simp) (by decide) fun H33 hH33=>?_
 refine Lf 2 O (Lf 2 O (Lf 2 O ?_))
 refine Lw (ι:=SP) [_,_,_] _ Y O en87 O O (fun _=>.tuple #[]) (fun q=>(gown 123 67 70 sb K ⟨putG [i] (⟨⟨t.g.code,t.g.fix++[(⟨(t.g.code.length:Int),kind,m⟩:FixE)]⟩,t.ca,(a27,c27)⟩:GsA).g,q,(⟨⟨t.g.code,t.g.fix++[(⟨(t.g.code.length:Int),kind,m⟩:FixE)]⟩,t.ca,(a27,c27)⟩:GsA).fa⟩)) (fun _=>True) [H33] (by simp) (fun w hw=>(sput_any sb K (⟨⟨t.g.code,t.g.fix++[(⟨(t.g.code.length:Int),kind,m⟩:FixE)]⟩,t.ca,(a27,c27)⟩:GsA) H33 (some ⟨b33,0,none⟩) 1 [i] w hH33 (by simp; omega) hw).mono fun e w' ⟨q,h1,h2⟩=>⟨q,h1,trivial,h2⟩) ?_
 intro q34 _
 refine Ln (Et (Cs (Cr (V0 (Ym O) (V0 (Ya O) (Ln (Et (Crt ?_))))))))
 refine R1 O O fun w' hw=>?_
 exact ⟨(q34,(a27,c27)),O,Wv 1 (Wt 3 hw)⟩
theorem sjump_any (sb:Nat) (K:ObjK) (t:GsA) (op:Int) (w:World) (hb:t.g.code.length+1≤1000000000000) (hfb:t.g.fix.length+1≤1000000000000) (hw:Ws w (List.flatMap Asr.ids (gown 123 67 70 sb K t)) (gown 123 67 70 sb K t) [] w) :
   Calls Tryz.prog 134 #[.pointer (some ⟨sb,0,none⟩),.int .i64 op] w fun e w'=>∃q:(SP×SP)×Nat×Nat,e = .returned (.func (.func 162) #[] #[.pointer (some ⟨q.2.1,0,none⟩),.pointer (some ⟨q.2.2,0,none⟩)])∧Ws w (List.flatMap Asr.ids (gown 123 67 70 sb K t)) ((gown 123 67 70 sb K ⟨fixG ⟨op,0,0⟩ 1 0 t.g,q.1.1,q.1.2⟩)++[blk q.2.1 (.cells #[.pointer (some ⟨sb,0,none⟩)] 120 (0,0)),blk q.2.2 (.cells #[.int .i64 (t.g.code.length:Int)] 3 (0,0))]) [] w':=by
 refine enter Tryz.func134 O 11 O O ?_
 refine CE hw ?_
 refine Cs (Cr ?_)
 refine WL.box Y O O fun b2=>?_
 refine V0 (Ya O) (Ln (Et (Cs (Cr (V0 (Yd 0 O O O na120) (V0 (Ym O) (V0 (Yb zr67 pl67 O O) (Lf 3 O ?_))))))))
 refine Lf 3 O (Lf 3 O ?_)
 refine Lw (ι:=SP×SP) [_,_,_] _ Y O en131 O O (fun _=>.int .i64 (t.g.code.length:Int)) (fun q=>(gown 123 67 70 sb K ⟨fixG ⟨op,0,0⟩ 1 0 t.g,q.1,q.2⟩)) (fun _=>True) [] (by simp) (fun w hw=>(sfix_any sb K t  ⟨op,0,0⟩ 1 0 w  hb hfb hw).mono fun e w' ⟨q,h1,h2⟩=>⟨q,h1,trivial,h2⟩) ?_
 intro q9 _
 refine Al Y O zr3 fun b5=>?_
 refine Lst 0 Y O O O sz3 O O O (Ln (Et (Cs (Cr (V0 (yl_func O) (V0 (Ya O) (Ln (Et (Crt ?_)))))))))
 refine R1 O O fun w' hw=>?_
 exact ⟨(q9,b2,b5),O,(by have h:=hw; have h:=h.fronti 0 O; have h:=h.fronti 4 O; have h:=h.fronti 4 O; have h:=h.fronti 4 O; have h:=h.fronti 4 O; exact h)⟩
theorem sland_any (sb:Nat) (K:ObjK) (t:GsA) (p q_ n:Nat) (x:InsG) (w:World) (hx:t.g.code[n]? = some x) (hw:Ws w (List.flatMap Asr.ids ((gown 123 67 70 sb K t)++[blk p (.cells #[.pointer (some ⟨sb,0,none⟩)] 120 (0,0)),blk q_ (.cells #[.int .i64 (n:Int)] 3 (0,0))])) ((gown 123 67 70 sb K t)++[blk p (.cells #[.pointer (some ⟨sb,0,none⟩)] 120 (0,0)),blk q_ (.cells #[.int .i64 (n:Int)] 3 (0,0))]) [] w) :
   Calls Tryz.prog 162 #[.pointer (some ⟨p,0,none⟩),.pointer (some ⟨q_,0,none⟩)] w fun e w'=>e = .returned (.tuple #[])∧Ws w (List.flatMap Asr.ids ((gown 123 67 70 sb K t)++[blk p (.cells #[.pointer (some ⟨sb,0,none⟩)] 120 (0,0)),blk q_ (.cells #[.int .i64 (n:Int)] 3 (0,0))])) ((gown 123 67 70 sb K ⟨landG n t.g,t.ca,t.fa⟩)++[blk p (.cells #[.pointer (some ⟨sb,0,none⟩)] 120 (0,0)),blk q_ (.cells #[.int .i64 (n:Int)] 3 (0,0))]) [] w':=by
 have hlt:=(List.getElem?_eq_some_iff.1 hx).1
 refine enter Tryz.func162 O 16 O O ?_
 refine CE hw ?_
 refine WC.shapeT 1 O (by omega) fun cb hcb hcc hcm=>?_
 refine WC.draws1 1 [(0,true),(1,true),(2,true),(3,true),(4,true),(5,true),(6,true),(7,true),(8,true),(9,true),(10,true),(11,true),(12,true),(13,true),(14,false)] mixed (by kernel_rfl) (fun _ _ _ d _ h=>by cases d<;>exact h) ?_
 refine D0 O (Wp 1) (Yd 2 O O O na120) (D0 O (Wp 1) (yl_nil O) (D0 O (Wp 1) (Yf fo123_0 O) (D0 O (Wp 1) (Yf fo27_3 O) (D0 O (Wp 1) (Yd 0 O O O na23) (D0 O (Wp 1) (Yd 3 O O O na3) ?_)))))
 refine D0 O (Wp 1) (Yd 2 O O O na120) (D0 O (Wp 1) (yl_nil O) (D0 O (Wp 1) (Yf fo123_0 O) (D0 O (Wp 1) (Yf fo27_3 O) (D0 O (Wp 1) (Yd 0 O O O na23) (D0 O (Wp 1) (Yn es23 O) ?_)))))
 refine D0 O (Wp 1) (Yo es23 O O hcb hlt) (D0 O (Wp 1) (Yf fo67_1 O) ?_)
 refine De O (Wp 1) ?_
 refine WL.storeT (y:=x) 1 n 1 (⟨x.op,(t.g.code.length:Int),x.b⟩:InsG) Y O O O hcb O InsG.cells_len hx sz3 O O (by decide) O ?_
 refine Ln (Ed ?_)
 refine WD.nil (Wp 1) ?_
 refine E0 O fun w' hw=>?_
 rw [landG_at hx]
 exact ⟨O,hw.reL 0 O (show blk sb (gob 123 K t)=blk sb (gob 123 K ⟨{ t.g with code:=t.g.code.set n ⟨x.op,(t.g.code.length:Int),x.b⟩ },t.ca,t.fa⟩) by simp [gob])⟩
def GNode (H:View) (sb:Nat) (K:ObjK) (k:Nat):Prop:=∀(x:TNode) (a:Option Addr) (c:Nat) (t:GsA) (w:World),Sl (RdN k) 5 H a c x.args→NodeOk x→t.g.code.length+8*wNd x≤1000000000000→t.g.fix.length+8*wNd x≤1000000000000→
 Ws w (List.flatMap Asr.ids (gown 123 67 70 sb K t)) (gown 123 67 70 sb K t) [H] w→Calls Tryz.prog 130 #[.pointer (some ⟨sb,0,none⟩),.agg (nodeV x a c).toArray] w fun e w'=>∃q:SP×SP,e = .returned (.tuple #[])∧Ws w (List.flatMap Asr.ids (gown 123 67 70 sb K t)) (gown 123 67 70 sb K ⟨nodeG x t.g,q.1,q.2⟩) [H] w'
theorem wNd_one {l:List TNode} {i:Nat} {x:TNode} (h:l[i]? = some x):wNd x≤wNds l:=by
 have:=wNd_mem h; omega
theorem wNd_two {l:List TNode} {x y:TNode} (h:l[0]? = some x) (h2:l[1]? = some y):wNd x+wNd y≤wNds l:=by
 have h3:wNds (l.take 1)=wNds (l.take 0)+wNd x:=(wNd_mem h).1
 have h4:wNds (l.take 2)=wNds (l.take 1)+wNd y:=(wNd_mem h2).1
 have h5:wNds (l.take 2)≤wNds l:=(wNd_mem h2).2
 omega
theorem en130:Enters Tryz.prog 130:=enters_of Tryz.func130 (by kernel_rfl) rfl
theorem en161:Enters Tryz.prog 161:=enters_of Tryz.func161 (by kernel_rfl) rfl
theorem snodes_any (sb:Nat) (K:ObjK) (t:GsA) (H:View) (k:Nat) (l:List TNode) (a:Option Addr) (c:Nat) (w:World) (hN:∀k2,k2<k→GNode H sb K k2) (hl:Sl (RdN k) 5 H a c l) (hok:NodesOk l) (hb:t.g.code.length+8*wNds l≤1000000000000) (hfb:t.g.fix.length+8*wNds l≤1000000000000) (hw:Ws w (List.flatMap Asr.ids (gown 123 67 70 sb K t)) (gown 123 67 70 sb K t) [H] w) :
   Calls Tryz.prog 161 #[.pointer (some ⟨sb,0,none⟩),.slice a l.length c] w fun e w'=>∃q:SP×SP,e = .returned (.tuple #[])∧Ws w (List.flatMap Asr.ids (gown 123 67 70 sb K t)) (gown 123 67 70 sb K ⟨nodesG l t.g,q.1,q.2⟩) [H] w':=by
 have hcap:=hl.cap
 have hmax:=hl.max
 refine enter Tryz.func161 O 16 O O ?_
 refine CE hw ?_
 refine Cs (Cr (V0 (Ym O) (V0 (Yn es189 O) (V0 (Ym O) (Ln (Et (Cb ?_)))))))
 refine CLk (ι:=Nat×SP×SP) (fun g=>[(8,.int .i64 (g.1:Int))]) [(0,_),(6,_),(7,_)] (fun g=>Ws w (List.flatMap Asr.ids (gown 123 67 70 sb K t)) (gown 123 67 70 sb K ⟨nodesG (l.take g.1) t.g,g.2.1,g.2.2⟩) [H]) (fun g=>g.1≤l.length) (fun g=>l.length-g.1) (0,t.ca,t.fa) (Nat.zero_le _) (sc O (sc O (sc O (sc O sn)))) (fun _ h=>h) ?_
 intro g hgi
 refine Cs (Cr (V0 (yl_lt O O) (Ln (Et (Cs ?_)))))
 refine Cc O (fun hc0=>?_) (fun hc0=>?_)
 ·
  have hlt:g.1<l.length:=by simpa using hc0
  obtain ⟨x,hxi⟩:∃q,l[g.1]? = some q:=⟨_,List.getElem?_eq_getElem hlt⟩
  obtain ⟨pbx,pox,hax,hrx⟩:=hl.elt g.1 x hxi
  obtain ⟨k2,rfl⟩:∃k2,k=k2+1:=by
    cases k with
    | zero=>exact hrx.elim
    | succ k2=>exact ⟨k2,rfl⟩
  obtain ⟨xa,xc,hrow,hsub⟩:=hrx
  have hww:=wNd_mem hxi
  have hgl:=nodesG_len (l.take g.1) t.g
  have hh1:=hgl.hi
  have hh2:=hgl.fhi
  refine Ck (Et (Cs (Cb (Cs (Cr (V0 (Yo es189 O O hax hlt) (V0 (yl_lda 0 ag238 O O O (hrow)) ?_)))))))
  refine Al Y O zr238 fun b5=>?_
  refine Lst 0 Y O O O sz238 O O O (Ln (Et ?_))
  refine Crb 0 (.cells (nodeV x xa xc).toArray 238 (0,0)) O O ?_
  refine Cr (V0 (Ym O) (V0 (Yda 0 O O ag238 O) (Lf 3 O (Lf 3 O (Lf 3 O ?_)))))
  refine Lw (ι:=SP×SP) [_,_,_] _ Y O en130 O O (fun _=>.tuple #[]) (fun q=>(gown 123 67 70 sb K ⟨nodeG x (⟨nodesG (l.take g.1) t.g,g.2.1,g.2.2⟩:GsA).g,q.1,q.2⟩)) (fun _=>True) [H] (by simp) (fun w hw=>(hN k2 (by omega) x xa xc (⟨nodesG (l.take g.1) t.g,g.2.1,g.2.2⟩:GsA) w hsub (hok.at_ hxi) (by show (nodesG (l.take g.1) t.g).code.length+(8*wNd x)≤_; omega) (by show (nodesG (l.take g.1) t.g).fix.length+(8*wNd x)≤_; omega) hw).mono fun e w' ⟨q,h1,h2⟩=>⟨q,h1,trivial,h2⟩) ?_
  intro q14 _
  refine Ln (Eb (Et (Cr ?_)))
  refine V0 (Yi O O O (by omega)) ?_
  refine V0 (Ym O) (Ln ?_)
  rw [←nodesG_take hxi]
  exact Ea ((g.1+1,q14):Nat×SP×SP) (by show _-(g.1+1)<_; omega) (by show g.1+1≤_; omega) (sc O (sc O (sc O (sc O sn)))) (fun _ h=>(Wt 3 (((h.f 2 O).f 2 O).f 2 O):))
 have hge:g.1=l.length:=by simp at hc0; omega
 rw [hge,List.take_length]
 refine Ce (Ex (Ex (Ebh ?_)))
 refine E0 O fun w' hw=>?_
 exact ⟨g.2,O,hw⟩
theorem scall_any (sb:Nat) (K:ObjK) (t:GsA) (H:View) (k:Nat) (m pl:Int) (l:List TNode) (a:Option Addr) (c:Nat) (w:World) (hN:∀k2,k2<k→GNode H sb K k2) (hl:Sl (RdN k) 5 H a c l) (hok:NodesOk l) (hb:t.g.code.length+8*(1+wNds l)≤1000000000000) (hfb:t.g.fix.length+8*(1+wNds l)≤1000000000000) (hw:Ws w (List.flatMap Asr.ids (gown 123 67 70 sb K t)) (gown 123 67 70 sb K t) [H] w) :
   Calls Tryz.prog 133 #[.pointer (some ⟨sb,0,none⟩),.int .i64 m,.int .i64 pl,.slice a l.length c] w fun e w'=>∃q:SP×SP,e = .returned (.tuple #[])∧Ws w (List.flatMap Asr.ids (gown 123 67 70 sb K t)) (gown 123 67 70 sb K ⟨fixG ⟨13,pl,0⟩ 2 m (nodesG l t.g),q.1,q.2⟩) [H] w':=by
 have hgl:=nodesG_len l t.g
 have hh1:=hgl.hi
 have hh2:=hgl.fhi
 refine enter Tryz.func133 O 16 O O ?_
 refine CE hw ?_
 refine Cs (Cr (V0 (Ym O) (V0 (Ym O) (Lf 2 O (Lf 2 O (Lf 2 O ?_))))))
 refine Lw (ι:=SP×SP) [_,_,_] _ Y O en161 O O (fun _=>.tuple #[]) (fun q=>(gown 123 67 70 sb K ⟨nodesG l t.g,q.1,q.2⟩)) (fun _=>True) [H] (by simp) (fun w hw=>(snodes_any sb K t H k l a c w hN hl hok (by omega) (by omega) hw).mono fun e w' ⟨q,h1,h2⟩=>⟨q,h1,trivial,h2⟩) ?_
 intro q10 _
 refine Ln (Et (Cr (V0 (Ym O) (V0 (Ym O) (V0 (Yb zr67 pl67 O O) (V0 (Ym O) (Lf 2 O ?_)))))))
 refine Lf 2 O (Lf 2 O ?_)
 refine Lw (ι:=SP×SP) [_,_,_] _ Y O en131 O O (fun _=>.int .i64 ((nodesG l t.g).code.length:Int)) (fun q=>(gown 123 67 70 sb K ⟨fixG ⟨13,pl,0⟩ 2 m (nodesG l t.g),q.1,q.2⟩)) (fun _=>True) [] (by simp) (fun w hw=>(sfix_any sb K (⟨nodesG l t.g,q10.1,q10.2⟩:GsA)  ⟨13,pl,0⟩ 2 m w  (by show (nodesG l t.g).code.length+1≤_; omega) (by show (nodesG l t.g).fix.length+1≤_; omega) hw).mono fun e w' ⟨q,h1,h2⟩=>⟨q,h1,trivial,h2⟩) ?_
 intro q15 _
 refine Ln ?_
 refine E0 O fun w' hw=>?_
 exact ⟨q15,O,hw⟩
theorem sindex_any (sb:Nat) (K:ObjK) (t:GsA) (H:View) (k:Nat) (m pl n:Int) (x:TNode) (a:Option Addr) (c:Nat) (w:World) (hN:GNode H sb K k) (hl:Sl (RdN k) 5 H a c x.args) (hok:NodeOk x) (hb:t.g.code.length+(8*wNd x+1)≤1000000000000) (hfb:t.g.fix.length+(8*wNd x+1)≤1000000000000) (hw:Ws w (List.flatMap Asr.ids (gown 123 67 70 sb K t)) (gown 123 67 70 sb K t) [H] w) :
   Calls Tryz.prog 132 #[.pointer (some ⟨sb,0,none⟩),.int .i64 m,.int .i64 pl,.int .i64 n,.agg (nodeV x a c).toArray] w fun e w'=>∃q:SP×SP,e = .returned (.tuple #[])∧Ws w (List.flatMap Asr.ids (gown 123 67 70 sb K t)) (gown 123 67 70 sb K ⟨fixG ⟨6,pl,n⟩ 3 m (nodeG x t.g),q.1,q.2⟩) [H] w':=by
 have hgl:=nodeG_len x t.g
 have hh1:=hgl.hi
 have hh2:=hgl.fhi
 refine enter Tryz.func132 O 19 O O ?_
 refine CE hw ?_
 refine Cs (Cr ?_)
 refine WL.box Y O O fun b9=>?_
 refine Ln (Et (Cs (Cr (V0 (Ym O) (V0 (Yda 0 O O ag238 O) (Lf 3 O (Lf 3 O (Lf 3 O ?_))))))))
 refine Lw (ι:=SP×SP) [_,_,_] _ Y O en130 O O (fun _=>.tuple #[]) (fun q=>(gown 123 67 70 sb K ⟨nodeG x t.g,q.1,q.2⟩)) (fun _=>True) [H] (by simp) (fun w hw=>(hN x a c t w hl hok (by show (t.g).code.length+(8*wNd x)≤_; omega) (by show (t.g).fix.length+(8*wNd x)≤_; omega) hw).mono fun e w' ⟨q,h1,h2⟩=>⟨q,h1,trivial,h2⟩) ?_
 intro q12 _
 refine Ln (Et (Cr (V0 (Ym O) (V0 (Ym O) (V0 (Ym O) (V0 (Yb zr67 pl67 O O) (V0 (Ym O) ?_)))))))
 refine Lf 2 O (Lf 2 O (Lf 2 O ?_))
 refine Lw (ι:=SP×SP) [_,_,_] _ Y O en131 O O (fun _=>.int .i64 ((nodeG x t.g).code.length:Int)) (fun q=>(gown 123 67 70 sb K ⟨fixG ⟨6,pl,n⟩ 3 m (nodeG x t.g),q.1,q.2⟩)) (fun _=>True) [] (by simp) (fun w hw=>(sfix_any sb K (⟨nodeG x t.g,q12.1,q12.2⟩:GsA)  ⟨6,pl,n⟩ 3 m w  (by show (nodeG x t.g).code.length+1≤_; omega) (by show (nodeG x t.g).fix.length+1≤_; omega) hw).mono fun e w' ⟨q,h1,h2⟩=>⟨q,h1,trivial,h2⟩) ?_
 intro q18 _
 refine Ln ?_
 refine E0 O fun w' hw=>?_
 exact ⟨q18,O,Wt 3 hw⟩
theorem en132:Enters Tryz.prog 132:=enters_of Tryz.func132 (by kernel_rfl) rfl
theorem en133:Enters Tryz.prog 133:=enters_of Tryz.func133 (by kernel_rfl) rfl
theorem en134:Enters Tryz.prog 134:=enters_of Tryz.func134 (by kernel_rfl) rfl
theorem en162:Enters Tryz.prog 162:=enters_of Tryz.func162 (by kernel_rfl) rfl
theorem snode_any (sb:Nat) (K:ObjK) (t:GsA) (H:View) (k:Nat) (x:TNode) (a:Option Addr) (c:Nat) (w:World) (hl:Sl (RdN k) 5 H a c x.args) (hok:NodeOk x) (hb:t.g.code.length+8*wNd x≤1000000000000) (hfb:t.g.fix.length+8*wNd x≤1000000000000) (hw:Ws w (List.flatMap Asr.ids (gown 123 67 70 sb K t)) (gown 123 67 70 sb K t) [H] w) :
   Calls Tryz.prog 130 #[.pointer (some ⟨sb,0,none⟩),.agg (nodeV x a c).toArray] w fun e w'=>∃q:SP×SP,e = .returned (.tuple #[])∧Ws w (List.flatMap Asr.ids (gown 123 67 70 sb K t)) (gown 123 67 70 sb K ⟨nodeG x t.g,q.1,q.2⟩) [H] w':=by
 induction k using Nat.strongRecOn generalizing x a c t w
 rename_i k ih
 have hN:∀k2,k2<k→GNode H sb K k2:=fun k2 h x a c t w h1 h2 h3 h4 h5=>ih k2 h t x a c w h1 h2 h3 h4 h5
 have hcap:=hl.cap
 have hmax:=hl.max
 have hwe:=wNd_eq x
 refine enter Tryz.func130 O 143 O O ?_
 refine CE hw ?_
 refine Cs (Cr ?_)
 refine WL.box Y O O fun b3=>?_
 refine Ln (Et (Cs (Cr (V0 (Yf fo238_0 O) (V0 (Yd 0 O O O na3) (Ln (Et (Cb (Cs (Cr (V0 (yl_eq O O) (V0 (Ya O) ?_))))))))))))
 refine Ln (Et ?_)
 refine Cc O (fun hc0=>?_) (fun hc0=>?_)
 ·
  have ho:x.op=1:=by simpa using hc0
  refine Cr (V0 (Ym O) (V0 (Yf fo238_1 O) (V0 (Yd 0 O O O na3) (V0 (Yb zr67 pl67 O O) ?_))))
  refine Lb Y O el23 O O O O fun b32=>?_
  refine WL.blksl (rd:=rdIG) (f:=InsG.cells) (k:=3) (m:=1) 0 [⟨1,x.n,0⟩] O O InsG.cells_len (fun _ _ _ _ h=>h) (by simp) (by decide) fun H32 hH32=>?_
  refine Lf 3 O (Lf 3 O (Lf 3 O ?_))
  refine Lw (ι:=SP) [_,_,_] _ Y O en87 O O (fun _=>.tuple #[]) (fun q=>(gown 123 67 70 sb K ⟨putG [⟨1,x.n,0⟩] t.g,q,t.fa⟩)) (fun _=>True) [H32] (by simp) (fun w hw=>(sput_any sb K t H32 (some ⟨b32,0,none⟩) 1 [⟨1,x.n,0⟩] w hH32 (by show (t.g).code.length+[⟨1,x.n,0⟩].length≤_; (try simp only [gsL9]); omega) hw).mono fun e w' ⟨q,h1,h2⟩=>⟨q,h1,trivial,h2⟩) ?_
  intro q33 _
  refine Ln (Eb ?_)
  refine E0 O fun w' hw=>?_
  have hr:nodeG x t.g=putG [⟨1,x.n,0⟩] t.g:=by
    rw [nodeG_eq,nodeGo,if_pos ho]
  rw [hr]
  exact ⟨(q33,t.fa),O,Wv 1 (Wt 3 hw)⟩
 have hn0:¬x.op=1:=by simpa using hc0
 refine Cs (Cr (V0 (yl_eq O O) (V0 (Ya O) (Ln (Et ?_)))))
 refine Cc O (fun hc1=>?_) (fun hc1=>?_)
 ·
  have ho:x.op=2:=by simpa using hc1
  refine Cr (V0 (Ym O) (V0 (Yb zr67 pl67 O O) ?_))
  refine Lb Y O el23 O O O O fun b38=>?_
  refine WL.blksl (rd:=rdIG) (f:=InsG.cells) (k:=3) (m:=1) 0 [⟨18,0,0⟩] O O InsG.cells_len (fun _ _ _ _ h=>h) (by simp) (by decide) fun H38 hH38=>?_
  refine Lf 3 O (Lf 3 O (Lf 3 O ?_))
  refine Lw (ι:=SP) [_,_,_] _ Y O en87 O O (fun _=>.tuple #[]) (fun q=>(gown 123 67 70 sb K ⟨putG [⟨18,0,0⟩] t.g,q,t.fa⟩)) (fun _=>True) [H38] (by simp) (fun w hw=>(sput_any sb K t H38 (some ⟨b38,0,none⟩) 1 [⟨18,0,0⟩] w hH38 (by show (t.g).code.length+[⟨18,0,0⟩].length≤_; (try simp only [gsL9]); omega) hw).mono fun e w' ⟨q,h1,h2⟩=>⟨q,h1,trivial,h2⟩) ?_
  intro q39 _
  refine Ln (Eb ?_)
  refine E0 O fun w' hw=>?_
  have hr:nodeG x t.g=putG [⟨18,0,0⟩] t.g:=by
    rw [nodeG_eq,nodeGo,if_neg hn0,if_pos ho]
  rw [hr]
  exact ⟨(q39,t.fa),O,Wv 1 (Wt 3 hw)⟩
 have hn1:¬x.op=2:=by simpa using hc1
 refine Cs (Cr (V0 (yl_eq O O) (V0 (Ya O) (Ln (Et ?_)))))
 refine Cc O (fun hc2=>?_) (fun hc2=>?_)
 ·
  have ho:x.op=16:=by simpa using hc2
  refine Cr (V0 (Ym O) (V0 (Yf fo238_3 O) (V0 (Yd 0 O O O na3) (V0 (Yb zr67 pl67 O O) ?_))))
  refine Lb Y O el23 O O O O fun b46=>?_
  refine WL.blksl (rd:=rdIG) (f:=InsG.cells) (k:=3) (m:=1) 0 [⟨2,x.pl,0⟩] O O InsG.cells_len (fun _ _ _ _ h=>h) (by simp) (by decide) fun H46 hH46=>?_
  refine Lf 3 O (Lf 3 O (Lf 3 O ?_))
  refine Lw (ι:=SP) [_,_,_] _ Y O en87 O O (fun _=>.tuple #[]) (fun q=>(gown 123 67 70 sb K ⟨putG [⟨2,x.pl,0⟩] t.g,q,t.fa⟩)) (fun _=>True) [H46] (by simp) (fun w hw=>(sput_any sb K t H46 (some ⟨b46,0,none⟩) 1 [⟨2,x.pl,0⟩] w hH46 (by show (t.g).code.length+[⟨2,x.pl,0⟩].length≤_; (try simp only [gsL9]); omega) hw).mono fun e w' ⟨q,h1,h2⟩=>⟨q,h1,trivial,h2⟩) ?_
  intro q47 _
  refine Ln (Eb ?_)
  refine E0 O fun w' hw=>?_
  have hr:nodeG x t.g=putG [⟨2,x.pl,0⟩] t.g:=by
    rw [nodeG_eq,nodeGo,if_neg hn0,if_neg hn1,if_pos ho]
  rw [hr]
  exact ⟨(q47,t.fa),O,Wv 1 (Wt 3 hw)⟩
 have hn2:¬x.op=16:=by simpa using hc2
 refine Cs (Cr (V0 (yl_eq O O) (V0 (Ya O) (Ln (Et ?_)))))
 refine Cc O (fun hc3=>?_) (fun hc3=>?_)
 ·
  have ho:x.op=3:=by simpa using hc3
  refine Cr (V0 (Ym O) (V0 (Yf fo238_3 O) (V0 (Yd 0 O O O na3) (V0 (Yb zr67 pl67 O O) (V0 (Yf fo238_2 O) ?_)))))
  refine V0 (Yd 0 O O O na3) (Lf 3 O (Lf 3 O (Lf 3 O ?_)))
  refine Lw (ι:=SP×SP) [_,_,_] _ Y O en131 O O (fun _=>.int .i64 (t.g.code.length:Int)) (fun q=>(gown 123 67 70 sb K ⟨fixG ⟨4,x.pl,0⟩ 3 x.m t.g,q.1,q.2⟩)) (fun _=>True) [] (by simp) (fun w hw=>(sfix_any sb K t  ⟨4,x.pl,0⟩ 3 x.m w  (by omega) (by omega) hw).mono fun e w' ⟨q,h1,h2⟩=>⟨q,h1,trivial,h2⟩) ?_
  intro q56 _
  refine Ln (Eb ?_)
  refine E0 O fun w' hw=>?_
  have hr:nodeG x t.g=fixG ⟨4,x.pl,0⟩ 3 x.m t.g:=by
    rw [nodeG_eq,nodeGo,if_neg hn0,if_neg hn1,if_neg hn2,if_pos ho]
  rw [hr]
  exact ⟨(q56.1,q56.2),O,Wt 3 hw⟩
 have hn3:¬x.op=3:=by simpa using hc3
 refine Cs (Cr (V0 (yl_eq O O) (V0 (Ya O) (Ln (Et ?_)))))
 refine Cc O (fun hc4=>?_) (fun hc4=>?_)
 ·
  have ho:x.op=4:=by simpa using hc4
  refine Cs ?_
  have hl1:=hok.args.2.1 (by omega)
  obtain ⟨y,hyi⟩:∃y,x.args[0]? = some y:=⟨_,List.getElem?_eq_getElem (by omega)⟩
  obtain ⟨pby,poy,hay,hry⟩:=hl.elt 0 y hyi
  obtain ⟨k2,rfl⟩:∃k2,k=k2+1:=by
    cases k with
    | zero=>exact hry.elim
    | succ k2=>exact ⟨k2,rfl⟩
  obtain ⟨ya,yc,hrowy,hsuby⟩:=hry
  have hN2:=hN k2 (by omega)
  have hoy:=hok.args.1.at_ hyi
  have hgl:=nodeG_len y t.g
  have hh1:=hgl.hi
  have hh2:=hgl.fhi
  have hh3:=hgl.lo
  have hw1:=wNd_one hyi
  refine CU (fun _=>true) [1,1,1] [] (.q false 0 (.q false 1 (.q true 2 (.q false 3 (.q true 4 (.q false 5 (.q true 6 (.q false 7 (.q true 8 (.q false 9 (.q true 10 (.e 11 .nil .stop)))))))))))) mixed (by kernel_rfl) (fun _ _ _ d _ _ h=>by cases d<;>exact h) ?_
  refine U0 O (Wos [1,1,1]) (Ym O) (U0 O (Wos [1,1,1]) (Yf fo238_2 O) (U0 O (Wos [1,1,1]) (Yd 0 O O O na3) (U0 O (Wos [1,1,1]) (Yf fo238_3 O) (U0 O (Wos [1,1,1]) (Yd 0 O O O na3) (U0 O (Wos [1,1,1]) (Yf fo238_1 O) ?_)))))
  refine U0 O (Wos [1,1,1]) (Yd 0 O O O na3) (U0 O (Wos [1,1,1]) (Yf fo238_4 O) (U0 O (Wos [1,1,1]) (Yd 0 O O O na189) ?_))
  refine U0 O (Wos [1,1,1]) (Yo (i:=0) es189 O O hay (by omega)) ?_
  refine U0 O (Wos [1,1,1]) (yl_lda 0 ag238 O O O (hrowy)) ?_
  refine Ue O (Wos [1,1,1]) ?_ WU.stop
  refine Lf 3 O (Lf 3 O (Lf 3 O ?_))
  refine Lw (ι:=SP×SP) [_,_,_] _ Y O en132 O O (fun _=>.tuple #[]) (fun q=>(gown 123 67 70 sb K ⟨fixG ⟨6,x.pl,x.n⟩ 3 x.m (nodeG y t.g),q.1,q.2⟩)) (fun _=>True) [H] (by simp) (fun w hw=>(sindex_any sb K t H k2 x.m x.pl x.n y ya yc w hN2 hsuby hoy (by omega) (by omega) hw).mono fun e w' ⟨q,h1,h2⟩=>⟨q,h1,trivial,h2⟩) ?_
  intro q70 _
  refine Ln (Eu ?_)
  refine WU.nil (fun _ h=>by exact (Wo 1 (Wo 1 (Wo 1 ((((h.f 2 O).f 2 O).f 2 O).f 3 O))):)) ?_
  refine WS.nil ?_
  refine Et (Cr (V0 (Ym O) (V0 (Yb zr67 pl67 O O) ?_)))
  refine Lb Y O el23 O O O O fun b73=>?_
  refine WL.blksl (rd:=rdIG) (f:=InsG.cells) (k:=3) (m:=1) 0 [⟨7,0,0⟩] O O InsG.cells_len (fun _ _ _ _ h=>h) (by simp) (by decide) fun H73 hH73=>?_
  refine Lf 2 O (Lf 2 O (Lf 2 O ?_))
  refine Lw (ι:=SP) [_,_,_] _ Y O en87 O O (fun _=>.tuple #[]) (fun q=>(gown 123 67 70 sb K ⟨putG [⟨7,0,0⟩] (⟨(fixG ⟨6,x.pl,x.n⟩ 3 x.m (nodeG y t.g)),q70.1,q70.2⟩:GsA).g,q,(⟨(fixG ⟨6,x.pl,x.n⟩ 3 x.m (nodeG y t.g)),q70.1,q70.2⟩:GsA).fa⟩)) (fun _=>True) [H73] (by simp) (fun w hw=>(sput_any sb K (⟨(fixG ⟨6,x.pl,x.n⟩ 3 x.m (nodeG y t.g)),q70.1,q70.2⟩:GsA) H73 (some ⟨b73,0,none⟩) 1 [⟨7,0,0⟩] w hH73 (by show ((fixG ⟨6,x.pl,x.n⟩ 3 x.m (nodeG y t.g))).code.length+[⟨7,0,0⟩].length≤_; (try simp only [gsL9]); omega) hw).mono fun e w' ⟨q,h1,h2⟩=>⟨q,h1,trivial,h2⟩) ?_
  intro q74 _
  refine Ln (Eb ?_)
  refine E0 O fun w' hw=>?_
  have hr:nodeG x t.g=putG [⟨7,0,0⟩] (fixG ⟨6,x.pl,x.n⟩ 3 x.m (nodeG y t.g)):=by
    rw [nodeG_eq,nodeGo,if_neg hn0,if_neg hn1,if_neg hn2,if_neg hn3,if_pos ho]
    rw [kidG_at hyi]
  rw [hr]
  exact ⟨(q74,q70.2),O,Wv 1 (Wt 3 hw)⟩
 have hn4:¬x.op=4:=by simpa using hc4
 refine Cs (Cr (V0 (yl_eq O O) (V0 (Ya O) (Ln (Et ?_)))))
 refine Cc O (fun hc5=>?_) (fun hc5=>?_)
 ·
  have ho:x.op=5:=by simpa using hc5
  refine Cr (V0 (Ym O) (V0 (Yf fo238_2 O) (V0 (Yd 0 O O O na3) (V0 (Yf fo238_3 O) (V0 (Yd 0 O O O na3) ?_)))))
  refine V0 (Yf fo238_4 O) (V0 (Yd 0 O O O na189) (Lf 3 O (Lf 3 O (Lf 3 O ?_))))
  refine Lw (ι:=SP×SP) [_,_,_] _ Y O en133 O O (fun _=>.tuple #[]) (fun q=>(gown 123 67 70 sb K ⟨fixG ⟨13,x.pl,0⟩ 2 x.m (nodesG x.args t.g),q.1,q.2⟩)) (fun _=>True) [H] (by simp) (fun w hw=>(scall_any sb K t H k x.m x.pl x.args a c w hN hl hok.args.1 (by omega) (by omega) hw).mono fun e w' ⟨q,h1,h2⟩=>⟨q,h1,trivial,h2⟩) ?_
  intro q84 _
  refine Ln (Eb ?_)
  refine E0 O fun w' hw=>?_
  have hr:nodeG x t.g=fixG ⟨13,x.pl,0⟩ 2 x.m (nodesG x.args t.g):=by
    rw [nodeG_eq,nodeGo,if_neg hn0,if_neg hn1,if_neg hn2,if_neg hn3,if_neg hn4,if_pos ho]
    rw [allG_nodes]
  rw [hr]
  exact ⟨(q84.1,q84.2),O,Wt 3 hw⟩
 have hn5:¬x.op=5:=by simpa using hc5
 refine Cs (Cs (Cr (V0 (yl_eq O O) (V0 (Ya O) (Ln (Et ?_))))))
 refine Cc O (fun hc6=>?_) (fun hc6=>?_)
 ·
  have ho:x.op=7:=by simpa using hc6
  refine Ck (Et ?_)
  refine Cc O (fun hc7=>?_) (fun hc7=>?_)
  ·
   refine Cs ?_
   have hl2:=hok.args.2.2.1 (by omega)
   obtain ⟨y,hyi⟩:∃y,x.args[0]? = some y:=⟨_,List.getElem?_eq_getElem (by omega)⟩
   obtain ⟨pby,poy,hay,hry⟩:=hl.elt 0 y hyi
   obtain ⟨z,hzi⟩:∃y,x.args[1]? = some y:=⟨_,List.getElem?_eq_getElem (by omega)⟩
   obtain ⟨pbz,poz,haz,hrz⟩:=hl.elt 1 z hzi
   obtain ⟨k2,rfl⟩:∃k2,k=k2+1:=by
     cases k with
     | zero=>exact hry.elim
     | succ k2=>exact ⟨k2,rfl⟩
   obtain ⟨ya,yc,hrowy,hsuby⟩:=hry
   have hN2:=hN k2 (by omega)
   have hoy:=hok.args.1.at_ hyi
   have hgl:=nodeG_len y t.g
   have hh1:=hgl.hi
   have hh2:=hgl.fhi
   have hh3:=hgl.lo
   obtain ⟨za,zc,hrowz,hsubz⟩:=hrz
   have hoz:=hok.args.1.at_ hzi
   have hw2:=wNd_two hyi hzi
   have hgz:=nodeG_len z (fixG ⟨12,0,0⟩ 1 0 (nodeG y t.g))
   have hz1:=hgz.hi
   have hz2:=hgz.fhi
   have hz3:=hgz.lo
   have hgz2:=nodeG_len z (landG ((nodeG y t.g).code.length) (fixG ⟨11,0,0⟩ 1 0 (putG [⟨1,1,0⟩] (fixG ⟨12,0,0⟩ 1 0 (nodeG y t.g)))))
   have hz4:=hgz2.hi
   have hz5:=hgz2.fhi
   have hz6:=hgz2.lo
   simp only [gsL9] at hz1 hz2 hz3 hz4 hz5 hz6
   refine Cr (V0 (Ym O) (V0 (Yf fo238_4 O) (V0 (Yd 0 O O O na189) ?_)))
   refine V0 (Yo (i:=0) es189 O O hay (by omega)) ?_
   refine V0 (yl_lda 0 ag238 O O O (hrowy)) (Lf 3 O (Lf 3 O (Lf 3 O ?_)))
   refine Lw (ι:=SP×SP) [_,_,_] _ Y O en130 O O (fun _=>.tuple #[]) (fun q=>(gown 123 67 70 sb K ⟨nodeG y t.g,q.1,q.2⟩)) (fun _=>True) [H] (by simp) (fun w hw=>(hN2 y ya yc t w hsuby hoy (by show (t.g).code.length+8*wNd y≤_; (try simp only [gsL9]); omega) (by show (t.g).fix.length+8*wNd y≤_; (try simp only [gsL9]); omega) hw).mono fun e w' ⟨q,h1,h2⟩=>⟨q,h1,trivial,h2⟩) ?_
   intro q93 _
   refine Ln (Et (Cs (Cr (V0 (Ym O) (Lf 2 O (Lf 2 O (Lf 2 O ?_)))))))
   refine Lw (ι:=(SP×SP)×Nat×Nat) [_,_,_] _ Y O en134 O O (fun q=>.func (.func 162) #[] #[.pointer (some ⟨q.2.1,0,none⟩),.pointer (some ⟨q.2.2,0,none⟩)]) (fun q=>(gown 123 67 70 sb K ⟨fixG ⟨12,0,0⟩ 1 0 (nodeG y t.g),q.1.1,q.1.2⟩)++[blk q.2.1 (.cells #[.pointer (some ⟨sb,0,none⟩)] 120 (0,0)),blk q.2.2 (.cells #[.int .i64 ((nodeG y t.g).code.length:Int)] 3 (0,0))]) (fun _=>True) [] (by simp) (fun w hw=>(sjump_any sb K (⟨(nodeG y t.g),q93.1,q93.2⟩:GsA) 12 w (by show ((nodeG y t.g)).code.length+1≤_; (try simp only [gsL9]); omega) (by show ((nodeG y t.g)).fix.length+1≤_; (try simp only [gsL9]); omega) hw).mono fun e w' ⟨q,h1,h2⟩=>⟨q,h1,trivial,h2⟩) ?_
   intro q95 _
   refine V0 (Ya O) (Ln (Et (Cs (Cs (Cr (V0 (Yf fo238_0 O) (V0 (Yd 5 O O O na3) (V0 (yl_eq O O) (Ln (Et ?_))))))))))
   refine Cc O (fun hc8=>?_) (fun hc8=>?_)
   ·
    exact absurd hc8 (by rw [ho]; decide)
   refine Ck (Et (Cs (Cs (Cr (V0 (Yf fo238_0 O) (V0 (Yd 5 O O O na3) (V0 (yl_eq O O) (Ln (Et ?_)))))))))
   refine Cc O (fun hc9=>?_) (fun hc9=>?_)
   ·
    exact absurd hc9 (by rw [ho]; decide)
   refine Ck (Et (Cs (Cr (V0 (Ym O) (V0 (Yf fo238_4 O) (V0 (Yd 5 O O O na189) ?_))))))
   refine V0 (Yo (i:=1) es189 O O haz (by omega)) ?_
   refine V0 (yl_lda 0 ag238 O O O (hrowz)) (Lf 2 O (Lf 2 O (Lf 2 O ?_)))
   refine Lw (ι:=SP×SP) [_,_,_] _ Y O en130 O O (fun _=>.tuple #[]) (fun q=>(gown 123 67 70 sb K ⟨nodeG z (fixG ⟨12,0,0⟩ 1 0 (nodeG y t.g)),q.1,q.2⟩)) (fun _=>True) [H] (by simp) (fun w hw=>(hN2 z za zc (⟨(fixG ⟨12,0,0⟩ 1 0 (nodeG y t.g)),q95.1.1,q95.1.2⟩:GsA) w hsubz hoz (by show ((fixG ⟨12,0,0⟩ 1 0 (nodeG y t.g))).code.length+8*wNd z≤_; (try simp only [gsL9]); omega) (by show ((fixG ⟨12,0,0⟩ 1 0 (nodeG y t.g))).fix.length+8*wNd z≤_; (try simp only [gsL9]); omega) hw).mono fun e w' ⟨q,h1,h2⟩=>⟨q,h1,trivial,h2⟩) ?_
   intro q128 _
   refine Ln (Et (Cs (Cr (V0 (Ym O) (V0 (Yb zr67 pl67 O O) ?_)))))
   refine Lb Y O el23 O O O O fun b131=>?_
   refine WL.blksl (rd:=rdIG) (f:=InsG.cells) (k:=3) (m:=1) 0 [⟨22,0,0⟩] O O InsG.cells_len (fun _ _ _ _ h=>h) (by simp) (by decide) fun H131 hH131=>?_
   refine Lf 2 O (Lf 2 O (Lf 2 O ?_))
   refine Lw (ι:=SP) [_,_,_] _ Y O en87 O O (fun _=>.tuple #[]) (fun q=>(gown 123 67 70 sb K ⟨putG [⟨22,0,0⟩] (⟨(nodeG z (fixG ⟨12,0,0⟩ 1 0 (nodeG y t.g))),q128.1,q128.2⟩:GsA).g,q,(⟨(nodeG z (fixG ⟨12,0,0⟩ 1 0 (nodeG y t.g))),q128.1,q128.2⟩:GsA).fa⟩)) (fun _=>True) [H131] (by simp) (fun w hw=>(sput_any sb K (⟨(nodeG z (fixG ⟨12,0,0⟩ 1 0 (nodeG y t.g))),q128.1,q128.2⟩:GsA) H131 (some ⟨b131,0,none⟩) 1 [⟨22,0,0⟩] w hH131 (by show ((nodeG z (fixG ⟨12,0,0⟩ 1 0 (nodeG y t.g)))).code.length+[⟨22,0,0⟩].length≤_; (try simp only [gsL9]); omega) hw).mono fun e w' ⟨q,h1,h2⟩=>⟨q,h1,trivial,h2⟩) ?_
   intro q132 _
   refine Ln (Et (Cs (Cr (V0 (Ym O) (Lf 2 O (Lf 2 O (Lf 2 O ?_)))))))
   refine Lw (ι:=(SP×SP)×Nat×Nat) [_,_,_] _ Y O en134 O O (fun q=>.func (.func 162) #[] #[.pointer (some ⟨q.2.1,0,none⟩),.pointer (some ⟨q.2.2,0,none⟩)]) (fun q=>(gown 123 67 70 sb K ⟨fixG ⟨11,0,0⟩ 1 0 (putG [⟨22,0,0⟩] (nodeG z (fixG ⟨12,0,0⟩ 1 0 (nodeG y t.g)))),q.1.1,q.1.2⟩)++[blk q.2.1 (.cells #[.pointer (some ⟨sb,0,none⟩)] 120 (0,0)),blk q.2.2 (.cells #[.int .i64 ((putG [⟨22,0,0⟩] (nodeG z (fixG ⟨12,0,0⟩ 1 0 (nodeG y t.g)))).code.length:Int)] 3 (0,0))]) (fun _=>True) [] (by simp) (fun w hw=>(sjump_any sb K (⟨(putG [⟨22,0,0⟩] (nodeG z (fixG ⟨12,0,0⟩ 1 0 (nodeG y t.g)))),q132,q128.2⟩:GsA) 11 w (by show ((putG [⟨22,0,0⟩] (nodeG z (fixG ⟨12,0,0⟩ 1 0 (nodeG y t.g))))).code.length+1≤_; (try simp only [gsL9]); omega) (by show ((putG [⟨22,0,0⟩] (nodeG z (fixG ⟨12,0,0⟩ 1 0 (nodeG y t.g))))).fix.length+1≤_; (try simp only [gsL9]); omega) hw).mono fun e w' ⟨q,h1,h2⟩=>⟨q,h1,trivial,h2⟩) ?_
   intro q134 _
   refine V0 (Ya O) (Ln (Et (Cs (Cr (V0 (Ym O) (Lf 6 O (Lf 6 O (Lf 4 O ?_))))))))
   refine Lf 4 O (Lf 4 O ?_)
   refine WL.callvw (ι:=Unit) [_,_,_,_,_] _ Y O en162 O O O (fun _=>.tuple #[]) (fun _=>(gown 123 67 70 sb K ⟨landG ((nodeG y t.g).code.length) (fixG ⟨11,0,0⟩ 1 0 (putG [⟨22,0,0⟩] (nodeG z (fixG ⟨12,0,0⟩ 1 0 (nodeG y t.g))))),(⟨(fixG ⟨11,0,0⟩ 1 0 (putG [⟨22,0,0⟩] (nodeG z (fixG ⟨12,0,0⟩ 1 0 (nodeG y t.g))))),q134.1.1,q134.1.2⟩:GsA).ca,(⟨(fixG ⟨11,0,0⟩ 1 0 (putG [⟨22,0,0⟩] (nodeG z (fixG ⟨12,0,0⟩ 1 0 (nodeG y t.g))))),q134.1.1,q134.1.2⟩:GsA).fa⟩)++[blk q95.2.1 (.cells #[.pointer (some ⟨sb,0,none⟩)] 120 (0,0)),blk q95.2.2 (.cells #[.int .i64 ((nodeG y t.g).code.length:Int)] 3 (0,0))]) (fun _=>True) [] (by simp) (fun w hw=>(sland_any sb K (⟨(fixG ⟨11,0,0⟩ 1 0 (putG [⟨22,0,0⟩] (nodeG z (fixG ⟨12,0,0⟩ 1 0 (nodeG y t.g))))),q134.1.1,q134.1.2⟩:GsA) q95.2.1 q95.2.2 ((nodeG y t.g).code.length) _ w (List.getElem?_eq_getElem (by show (nodeG y t.g).code.length<((fixG ⟨11,0,0⟩ 1 0 (putG [⟨22,0,0⟩] (nodeG z (fixG ⟨12,0,0⟩ 1 0 (nodeG y t.g)))))).code.length; (try simp only [gsL9]); omega)) hw).mono fun e w' h=>⟨(),h.1,trivial,h.2⟩) ?_
   intro _ _
   refine Ln (Et (Cs (Cr (V0 (Ym O) (V0 (Yb zr67 pl67 O O) ?_)))))
   refine Lb Y O el23 O O O O fun b139=>?_
   refine WL.blksl (rd:=rdIG) (f:=InsG.cells) (k:=3) (m:=1) 0 [⟨1,0,0⟩] O O InsG.cells_len (fun _ _ _ _ h=>h) (by simp) (by decide) fun H139 hH139=>?_
   refine Lf 2 O (Lf 2 O (Lf 2 O ?_))
   refine Lw (ι:=SP) [_,_,_] _ Y O en87 O O (fun _=>.tuple #[]) (fun q=>(gown 123 67 70 sb K ⟨putG [⟨1,0,0⟩] (⟨(landG ((nodeG y t.g).code.length) (fixG ⟨11,0,0⟩ 1 0 (putG [⟨22,0,0⟩] (nodeG z (fixG ⟨12,0,0⟩ 1 0 (nodeG y t.g)))))),q134.1.1,q134.1.2⟩:GsA).g,q,(⟨(landG ((nodeG y t.g).code.length) (fixG ⟨11,0,0⟩ 1 0 (putG [⟨22,0,0⟩] (nodeG z (fixG ⟨12,0,0⟩ 1 0 (nodeG y t.g)))))),q134.1.1,q134.1.2⟩:GsA).fa⟩)) (fun _=>True) [H139] (by simp) (fun w hw=>(sput_any sb K (⟨(landG ((nodeG y t.g).code.length) (fixG ⟨11,0,0⟩ 1 0 (putG [⟨22,0,0⟩] (nodeG z (fixG ⟨12,0,0⟩ 1 0 (nodeG y t.g)))))),q134.1.1,q134.1.2⟩:GsA) H139 (some ⟨b139,0,none⟩) 1 [⟨1,0,0⟩] w hH139 (by show ((landG ((nodeG y t.g).code.length) (fixG ⟨11,0,0⟩ 1 0 (putG [⟨22,0,0⟩] (nodeG z (fixG ⟨12,0,0⟩ 1 0 (nodeG y t.g))))))).code.length+[⟨1,0,0⟩].length≤_; (try simp only [gsL9]); omega) hw).mono fun e w' ⟨q,h1,h2⟩=>⟨q,h1,trivial,h2⟩) ?_
   intro q140 _
   refine Ln (Et (Cr (V0 (Ym O) (Lf 6 O (Lf 6 O (Lf 4 O (Lf 4 O ?_)))))))
   refine Lf 4 O ?_
   refine WL.callvw (ι:=Unit) [_,_,_,_,_] _ Y O en162 O O O (fun _=>.tuple #[]) (fun _=>(gown 123 67 70 sb K ⟨landG ((putG [⟨22,0,0⟩] (nodeG z (fixG ⟨12,0,0⟩ 1 0 (nodeG y t.g)))).code.length) (putG [⟨1,0,0⟩] (landG ((nodeG y t.g).code.length) (fixG ⟨11,0,0⟩ 1 0 (putG [⟨22,0,0⟩] (nodeG z (fixG ⟨12,0,0⟩ 1 0 (nodeG y t.g))))))),(⟨(putG [⟨1,0,0⟩] (landG ((nodeG y t.g).code.length) (fixG ⟨11,0,0⟩ 1 0 (putG [⟨22,0,0⟩] (nodeG z (fixG ⟨12,0,0⟩ 1 0 (nodeG y t.g))))))),q140,q134.1.2⟩:GsA).ca,(⟨(putG [⟨1,0,0⟩] (landG ((nodeG y t.g).code.length) (fixG ⟨11,0,0⟩ 1 0 (putG [⟨22,0,0⟩] (nodeG z (fixG ⟨12,0,0⟩ 1 0 (nodeG y t.g))))))),q140,q134.1.2⟩:GsA).fa⟩)++[blk q134.2.1 (.cells #[.pointer (some ⟨sb,0,none⟩)] 120 (0,0)),blk q134.2.2 (.cells #[.int .i64 ((putG [⟨22,0,0⟩] (nodeG z (fixG ⟨12,0,0⟩ 1 0 (nodeG y t.g)))).code.length:Int)] 3 (0,0))]) (fun _=>True) [] (by simp) (fun w hw=>(sland_any sb K (⟨(putG [⟨1,0,0⟩] (landG ((nodeG y t.g).code.length) (fixG ⟨11,0,0⟩ 1 0 (putG [⟨22,0,0⟩] (nodeG z (fixG ⟨12,0,0⟩ 1 0 (nodeG y t.g))))))),q140,q134.1.2⟩:GsA) q134.2.1 q134.2.2 ((putG [⟨22,0,0⟩] (nodeG z (fixG ⟨12,0,0⟩ 1 0 (nodeG y t.g)))).code.length) _ w (List.getElem?_eq_getElem (by show (putG [⟨22,0,0⟩] (nodeG z (fixG ⟨12,0,0⟩ 1 0 (nodeG y t.g)))).code.length<((putG [⟨1,0,0⟩] (landG ((nodeG y t.g).code.length) (fixG ⟨11,0,0⟩ 1 0 (putG [⟨22,0,0⟩] (nodeG z (fixG ⟨12,0,0⟩ 1 0 (nodeG y t.g)))))))).code.length; (try simp only [gsL9]); omega)) hw).mono fun e w' h=>⟨(),h.1,trivial,h.2⟩) ?_
   intro _ _
   refine Ln (Eb ?_)
   refine E0 O fun w' hw=>?_
   have hr:nodeG x t.g=(landG ((putG [⟨22,0,0⟩] (nodeG z (fixG ⟨12,0,0⟩ 1 0 (nodeG y t.g)))).code.length) (putG [⟨1,0,0⟩] (landG ((nodeG y t.g).code.length) (fixG ⟨11,0,0⟩ 1 0 (putG [⟨22,0,0⟩] (nodeG z (fixG ⟨12,0,0⟩ 1 0 (nodeG y t.g)))))))):=by
     rw [nodeG_eq,nodeGo,if_neg hn0,if_neg hn1,if_neg hn2,if_neg hn3,if_neg hn4,if_neg hn5,if_pos ho]
     unfold andG
     rw [kidG_at hyi,kidG_at hzi]
   rw [hr]
   exact ⟨(q140,q134.1.2),O,Wv 2 (Wt 3 hw)⟩
  rw [hc6] at hc7; cases hc7
 have hn6:¬x.op=7:=by simpa using hc6
 refine Cr (V0 (yl_eq O O) (V0 (Ya O) (Ln (Et ?_))))
 refine Cc O (fun hc7=>?_) (fun hc7=>?_)
 ·
  have ho:x.op=8:=by simpa using hc7
  refine Cs ?_
  have hl2:=hok.args.2.2.1 (by omega)
  obtain ⟨y,hyi⟩:∃y,x.args[0]? = some y:=⟨_,List.getElem?_eq_getElem (by omega)⟩
  obtain ⟨pby,poy,hay,hry⟩:=hl.elt 0 y hyi
  obtain ⟨z,hzi⟩:∃y,x.args[1]? = some y:=⟨_,List.getElem?_eq_getElem (by omega)⟩
  obtain ⟨pbz,poz,haz,hrz⟩:=hl.elt 1 z hzi
  obtain ⟨k2,rfl⟩:∃k2,k=k2+1:=by
    cases k with
    | zero=>exact hry.elim
    | succ k2=>exact ⟨k2,rfl⟩
  obtain ⟨ya,yc,hrowy,hsuby⟩:=hry
  have hN2:=hN k2 (by omega)
  have hoy:=hok.args.1.at_ hyi
  have hgl:=nodeG_len y t.g
  have hh1:=hgl.hi
  have hh2:=hgl.fhi
  have hh3:=hgl.lo
  obtain ⟨za,zc,hrowz,hsubz⟩:=hrz
  have hoz:=hok.args.1.at_ hzi
  have hw2:=wNd_two hyi hzi
  have hgz:=nodeG_len z (fixG ⟨12,0,0⟩ 1 0 (nodeG y t.g))
  have hz1:=hgz.hi
  have hz2:=hgz.fhi
  have hz3:=hgz.lo
  have hgz2:=nodeG_len z (landG ((nodeG y t.g).code.length) (fixG ⟨11,0,0⟩ 1 0 (putG [⟨1,1,0⟩] (fixG ⟨12,0,0⟩ 1 0 (nodeG y t.g)))))
  have hz4:=hgz2.hi
  have hz5:=hgz2.fhi
  have hz6:=hgz2.lo
  simp only [gsL9] at hz1 hz2 hz3 hz4 hz5 hz6
  refine Cr (V0 (Ym O) (V0 (Yf fo238_4 O) (V0 (Yd 0 O O O na189) ?_)))
  refine V0 (Yo (i:=0) es189 O O hay (by omega)) ?_
  refine V0 (yl_lda 0 ag238 O O O (hrowy)) (Lf 3 O (Lf 3 O (Lf 3 O ?_)))
  refine Lw (ι:=SP×SP) [_,_,_] _ Y O en130 O O (fun _=>.tuple #[]) (fun q=>(gown 123 67 70 sb K ⟨nodeG y t.g,q.1,q.2⟩)) (fun _=>True) [H] (by simp) (fun w hw=>(hN2 y ya yc t w hsuby hoy (by show (t.g).code.length+8*wNd y≤_; (try simp only [gsL9]); omega) (by show (t.g).fix.length+8*wNd y≤_; (try simp only [gsL9]); omega) hw).mono fun e w' ⟨q,h1,h2⟩=>⟨q,h1,trivial,h2⟩) ?_
  intro q93 _
  refine Ln (Et (Cs (Cr (V0 (Ym O) (Lf 2 O (Lf 2 O (Lf 2 O ?_)))))))
  refine Lw (ι:=(SP×SP)×Nat×Nat) [_,_,_] _ Y O en134 O O (fun q=>.func (.func 162) #[] #[.pointer (some ⟨q.2.1,0,none⟩),.pointer (some ⟨q.2.2,0,none⟩)]) (fun q=>(gown 123 67 70 sb K ⟨fixG ⟨12,0,0⟩ 1 0 (nodeG y t.g),q.1.1,q.1.2⟩)++[blk q.2.1 (.cells #[.pointer (some ⟨sb,0,none⟩)] 120 (0,0)),blk q.2.2 (.cells #[.int .i64 ((nodeG y t.g).code.length:Int)] 3 (0,0))]) (fun _=>True) [] (by simp) (fun w hw=>(sjump_any sb K (⟨(nodeG y t.g),q93.1,q93.2⟩:GsA) 12 w (by show ((nodeG y t.g)).code.length+1≤_; (try simp only [gsL9]); omega) (by show ((nodeG y t.g)).fix.length+1≤_; (try simp only [gsL9]); omega) hw).mono fun e w' ⟨q,h1,h2⟩=>⟨q,h1,trivial,h2⟩) ?_
  intro q95 _
  refine V0 (Ya O) (Ln (Et (Cs (Cs (Cr (V0 (Yf fo238_0 O) (V0 (Yd 5 O O O na3) (V0 (yl_eq O O) (Ln (Et ?_))))))))))
  refine Cc O (fun hc8=>?_) (fun hc8=>?_)
  ·
   refine Cs (Cr (V0 (Ym O) (V0 (Yb zr67 pl67 O O) ?_)))
   refine Lb Y O el23 O O O O fun b101=>?_
   refine WL.blksl (rd:=rdIG) (f:=InsG.cells) (k:=3) (m:=1) 0 [⟨1,1,0⟩] O O InsG.cells_len (fun _ _ _ _ h=>h) (by simp) (by decide) fun H101 hH101=>?_
   refine Lf 2 O (Lf 2 O (Lf 2 O ?_))
   refine Lw (ι:=SP) [_,_,_] _ Y O en87 O O (fun _=>.tuple #[]) (fun q=>(gown 123 67 70 sb K ⟨putG [⟨1,1,0⟩] (⟨(fixG ⟨12,0,0⟩ 1 0 (nodeG y t.g)),q95.1.1,q95.1.2⟩:GsA).g,q,(⟨(fixG ⟨12,0,0⟩ 1 0 (nodeG y t.g)),q95.1.1,q95.1.2⟩:GsA).fa⟩)) (fun _=>True) [H101] (by simp) (fun w hw=>(sput_any sb K (⟨(fixG ⟨12,0,0⟩ 1 0 (nodeG y t.g)),q95.1.1,q95.1.2⟩:GsA) H101 (some ⟨b101,0,none⟩) 1 [⟨1,1,0⟩] w hH101 (by show ((fixG ⟨12,0,0⟩ 1 0 (nodeG y t.g))).code.length+[⟨1,1,0⟩].length≤_; (try simp only [gsL9]); omega) hw).mono fun e w' ⟨q,h1,h2⟩=>⟨q,h1,trivial,h2⟩) ?_
   intro q102 _
   refine Ln (Et (Cs (Cr (V0 (Ym O) (Lf 2 O (Lf 2 O (Lf 2 O ?_)))))))
   refine Lw (ι:=(SP×SP)×Nat×Nat) [_,_,_] _ Y O en134 O O (fun q=>.func (.func 162) #[] #[.pointer (some ⟨q.2.1,0,none⟩),.pointer (some ⟨q.2.2,0,none⟩)]) (fun q=>(gown 123 67 70 sb K ⟨fixG ⟨11,0,0⟩ 1 0 (putG [⟨1,1,0⟩] (fixG ⟨12,0,0⟩ 1 0 (nodeG y t.g))),q.1.1,q.1.2⟩)++[blk q.2.1 (.cells #[.pointer (some ⟨sb,0,none⟩)] 120 (0,0)),blk q.2.2 (.cells #[.int .i64 ((putG [⟨1,1,0⟩] (fixG ⟨12,0,0⟩ 1 0 (nodeG y t.g))).code.length:Int)] 3 (0,0))]) (fun _=>True) [] (by simp) (fun w hw=>(sjump_any sb K (⟨(putG [⟨1,1,0⟩] (fixG ⟨12,0,0⟩ 1 0 (nodeG y t.g))),q102,q95.1.2⟩:GsA) 11 w (by show ((putG [⟨1,1,0⟩] (fixG ⟨12,0,0⟩ 1 0 (nodeG y t.g)))).code.length+1≤_; (try simp only [gsL9]); omega) (by show ((putG [⟨1,1,0⟩] (fixG ⟨12,0,0⟩ 1 0 (nodeG y t.g)))).fix.length+1≤_; (try simp only [gsL9]); omega) hw).mono fun e w' ⟨q,h1,h2⟩=>⟨q,h1,trivial,h2⟩) ?_
   intro q104 _
   refine V0 (Ya O) (Ln (Et (Cs (Cr (V0 (Ym O) (Lf 6 O (Lf 6 O (Lf 4 O ?_))))))))
   refine Lf 4 O (Lf 4 O ?_)
   refine WL.callvw (ι:=Unit) [_,_,_,_,_] _ Y O en162 O O O (fun _=>.tuple #[]) (fun _=>(gown 123 67 70 sb K ⟨landG ((nodeG y t.g).code.length) (fixG ⟨11,0,0⟩ 1 0 (putG [⟨1,1,0⟩] (fixG ⟨12,0,0⟩ 1 0 (nodeG y t.g)))),(⟨(fixG ⟨11,0,0⟩ 1 0 (putG [⟨1,1,0⟩] (fixG ⟨12,0,0⟩ 1 0 (nodeG y t.g)))),q104.1.1,q104.1.2⟩:GsA).ca,(⟨(fixG ⟨11,0,0⟩ 1 0 (putG [⟨1,1,0⟩] (fixG ⟨12,0,0⟩ 1 0 (nodeG y t.g)))),q104.1.1,q104.1.2⟩:GsA).fa⟩)++[blk q95.2.1 (.cells #[.pointer (some ⟨sb,0,none⟩)] 120 (0,0)),blk q95.2.2 (.cells #[.int .i64 ((nodeG y t.g).code.length:Int)] 3 (0,0))]) (fun _=>True) [] (by simp) (fun w hw=>(sland_any sb K (⟨(fixG ⟨11,0,0⟩ 1 0 (putG [⟨1,1,0⟩] (fixG ⟨12,0,0⟩ 1 0 (nodeG y t.g)))),q104.1.1,q104.1.2⟩:GsA) q95.2.1 q95.2.2 ((nodeG y t.g).code.length) _ w (List.getElem?_eq_getElem (by show (nodeG y t.g).code.length<((fixG ⟨11,0,0⟩ 1 0 (putG [⟨1,1,0⟩] (fixG ⟨12,0,0⟩ 1 0 (nodeG y t.g))))).code.length; (try simp only [gsL9]); omega)) hw).mono fun e w' h=>⟨(),h.1,trivial,h.2⟩) ?_
   intro _ _
   refine Ln (Et (Cr (V0 (Ym O) (V0 (Ya O) (Ln (Et (Cs (Cs (Cr (V0 (Yf fo238_0 O) (V0 (Yd 7 O O O na3) ?_)))))))))))
   refine V0 (yl_eq O O) (Ln (Et ?_))
   refine Cc O (fun hc9=>?_) (fun hc9=>?_)
   ·
    refine Cs (Cr (V0 (Ym O) (V0 (Yf fo238_4 O) (V0 (Yd 7 O O O na189) ?_))))
    refine V0 (Yo (i:=1) es189 O O haz (by omega)) ?_
    refine V0 (yl_lda 1 ag238 O O O (hrowz)) (Lf 2 O (Lf 2 O (Lf 2 O ?_)))
    refine Lw (ι:=SP×SP) [_,_,_] _ Y O en130 O O (fun _=>.tuple #[]) (fun q=>(gown 123 67 70 sb K ⟨nodeG z (landG ((nodeG y t.g).code.length) (fixG ⟨11,0,0⟩ 1 0 (putG [⟨1,1,0⟩] (fixG ⟨12,0,0⟩ 1 0 (nodeG y t.g))))),q.1,q.2⟩)) (fun _=>True) [H] (by simp) (fun w hw=>(hN2 z za zc (⟨(landG ((nodeG y t.g).code.length) (fixG ⟨11,0,0⟩ 1 0 (putG [⟨1,1,0⟩] (fixG ⟨12,0,0⟩ 1 0 (nodeG y t.g))))),q104.1.1,q104.1.2⟩:GsA) w hsubz hoz (by show ((landG ((nodeG y t.g).code.length) (fixG ⟨11,0,0⟩ 1 0 (putG [⟨1,1,0⟩] (fixG ⟨12,0,0⟩ 1 0 (nodeG y t.g)))))).code.length+8*wNd z≤_; (try simp only [gsL9]); omega) (by show ((landG ((nodeG y t.g).code.length) (fixG ⟨11,0,0⟩ 1 0 (putG [⟨1,1,0⟩] (fixG ⟨12,0,0⟩ 1 0 (nodeG y t.g)))))).fix.length+8*wNd z≤_; (try simp only [gsL9]); omega) hw).mono fun e w' ⟨q,h1,h2⟩=>⟨q,h1,trivial,h2⟩) ?_
    intro q116 _
    refine Ln (Et (Cs (Cr (V0 (Ym O) (V0 (Yb zr67 pl67 O O) ?_)))))
    refine Lb Y O el23 O O O O fun b119=>?_
    refine WL.blksl (rd:=rdIG) (f:=InsG.cells) (k:=3) (m:=1) 0 [⟨22,0,0⟩] O O InsG.cells_len (fun _ _ _ _ h=>h) (by simp) (by decide) fun H119 hH119=>?_
    refine Lf 2 O (Lf 2 O (Lf 2 O ?_))
    refine Lw (ι:=SP) [_,_,_] _ Y O en87 O O (fun _=>.tuple #[]) (fun q=>(gown 123 67 70 sb K ⟨putG [⟨22,0,0⟩] (⟨(nodeG z (landG ((nodeG y t.g).code.length) (fixG ⟨11,0,0⟩ 1 0 (putG [⟨1,1,0⟩] (fixG ⟨12,0,0⟩ 1 0 (nodeG y t.g)))))),q116.1,q116.2⟩:GsA).g,q,(⟨(nodeG z (landG ((nodeG y t.g).code.length) (fixG ⟨11,0,0⟩ 1 0 (putG [⟨1,1,0⟩] (fixG ⟨12,0,0⟩ 1 0 (nodeG y t.g)))))),q116.1,q116.2⟩:GsA).fa⟩)) (fun _=>True) [H119] (by simp) (fun w hw=>(sput_any sb K (⟨(nodeG z (landG ((nodeG y t.g).code.length) (fixG ⟨11,0,0⟩ 1 0 (putG [⟨1,1,0⟩] (fixG ⟨12,0,0⟩ 1 0 (nodeG y t.g)))))),q116.1,q116.2⟩:GsA) H119 (some ⟨b119,0,none⟩) 1 [⟨22,0,0⟩] w hH119 (by show ((nodeG z (landG ((nodeG y t.g).code.length) (fixG ⟨11,0,0⟩ 1 0 (putG [⟨1,1,0⟩] (fixG ⟨12,0,0⟩ 1 0 (nodeG y t.g))))))).code.length+[⟨22,0,0⟩].length≤_; (try simp only [gsL9]); omega) hw).mono fun e w' ⟨q,h1,h2⟩=>⟨q,h1,trivial,h2⟩) ?_
    intro q120 _
    refine Ln (Et (Cs (Cr (V0 (Ym O) (Lf 6 O (Lf 6 O (Lf 4 O (Lf 4 O ?_))))))))
    refine Lf 4 O ?_
    refine WL.callvw (ι:=Unit) [_,_,_,_,_] _ Y O en162 O O O (fun _=>.tuple #[]) (fun _=>(gown 123 67 70 sb K ⟨landG ((putG [⟨1,1,0⟩] (fixG ⟨12,0,0⟩ 1 0 (nodeG y t.g))).code.length) (putG [⟨22,0,0⟩] (nodeG z (landG ((nodeG y t.g).code.length) (fixG ⟨11,0,0⟩ 1 0 (putG [⟨1,1,0⟩] (fixG ⟨12,0,0⟩ 1 0 (nodeG y t.g))))))),(⟨(putG [⟨22,0,0⟩] (nodeG z (landG ((nodeG y t.g).code.length) (fixG ⟨11,0,0⟩ 1 0 (putG [⟨1,1,0⟩] (fixG ⟨12,0,0⟩ 1 0 (nodeG y t.g))))))),q120,q116.2⟩:GsA).ca,(⟨(putG [⟨22,0,0⟩] (nodeG z (landG ((nodeG y t.g).code.length) (fixG ⟨11,0,0⟩ 1 0 (putG [⟨1,1,0⟩] (fixG ⟨12,0,0⟩ 1 0 (nodeG y t.g))))))),q120,q116.2⟩:GsA).fa⟩)++[blk q104.2.1 (.cells #[.pointer (some ⟨sb,0,none⟩)] 120 (0,0)),blk q104.2.2 (.cells #[.int .i64 ((putG [⟨1,1,0⟩] (fixG ⟨12,0,0⟩ 1 0 (nodeG y t.g))).code.length:Int)] 3 (0,0))]) (fun _=>True) [] (by simp) (fun w hw=>(sland_any sb K (⟨(putG [⟨22,0,0⟩] (nodeG z (landG ((nodeG y t.g).code.length) (fixG ⟨11,0,0⟩ 1 0 (putG [⟨1,1,0⟩] (fixG ⟨12,0,0⟩ 1 0 (nodeG y t.g))))))),q120,q116.2⟩:GsA) q104.2.1 q104.2.2 ((putG [⟨1,1,0⟩] (fixG ⟨12,0,0⟩ 1 0 (nodeG y t.g))).code.length) _ w (List.getElem?_eq_getElem (by show (putG [⟨1,1,0⟩] (fixG ⟨12,0,0⟩ 1 0 (nodeG y t.g))).code.length<((putG [⟨22,0,0⟩] (nodeG z (landG ((nodeG y t.g).code.length) (fixG ⟨11,0,0⟩ 1 0 (putG [⟨1,1,0⟩] (fixG ⟨12,0,0⟩ 1 0 (nodeG y t.g)))))))).code.length; (try simp only [gsL9]); omega)) hw).mono fun e w' h=>⟨(),h.1,trivial,h.2⟩) ?_
    intro _ _
    refine Ln (Et (Crt (Er (Ebr ?_))))
    refine WE.ret0 O fun w' hw=>?_
    have hr:nodeG x t.g=(landG ((putG [⟨1,1,0⟩] (fixG ⟨12,0,0⟩ 1 0 (nodeG y t.g))).code.length) (putG [⟨22,0,0⟩] (nodeG z (landG ((nodeG y t.g).code.length) (fixG ⟨11,0,0⟩ 1 0 (putG [⟨1,1,0⟩] (fixG ⟨12,0,0⟩ 1 0 (nodeG y t.g)))))))):=by
      rw [nodeG_eq,nodeGo,if_neg hn0,if_neg hn1,if_neg hn2,if_neg hn3,if_neg hn4,if_neg hn5,if_neg hn6,if_pos ho]
      unfold orG
      rw [kidG_at hyi,kidG_at hzi]
    rw [hr]
    exact ⟨(q120,q116.2),O,Wv 2 (Wt 3 hw)⟩
   exact absurd hc9 (by rw [ho]; decide)
  exact absurd hc8 (by rw [ho]; decide)
 have hn7:¬x.op=8:=by simpa using hc7
 refine Cs ?_
 have hgl:=nodesG_len x.args t.g
 have hh1:=hgl.hi
 have hh2:=hgl.fhi
 refine Cr (V0 (Ym O) (V0 (Yf fo238_4 O) (V0 (Yd 0 O O O na189) (Lf 3 O (Lf 3 O ?_)))))
 refine Lf 3 O ?_
 refine Lw (ι:=SP×SP) [_,_,_] _ Y O en161 O O (fun _=>.tuple #[]) (fun q=>(gown 123 67 70 sb K ⟨nodesG x.args t.g,q.1,q.2⟩)) (fun _=>True) [H] (by simp) (fun w hw=>(snodes_any sb K t H k x.args a c w hN hl hok.args.1 (by omega) (by omega) hw).mono fun e w' ⟨q,h1,h2⟩=>⟨q,h1,trivial,h2⟩) ?_
 intro q12 _
 refine Ln (Et (Cs (Cr (V0 (Yf fo238_0 O) (V0 (Yd 3 O O O na3) (V0 (yl_eq O O) (Ln (Et ?_))))))))
 refine Cc O (fun hc10=>?_) (fun hc10=>?_)
 ·
  have ho:x.op=6:=by simpa using hc10
  refine Cr (V0 (Ym O) (V0 (Yb zr67 pl67 O O) ?_))
  refine Lb Y O el23 O O O O fun b18=>?_
  refine WL.blksl (rd:=rdIG) (f:=InsG.cells) (k:=3) (m:=1) 0 [⟨9,0,0⟩] O O InsG.cells_len (fun _ _ _ _ h=>h) (by simp) (by decide) fun H18 hH18=>?_
  refine Lf 2 O (Lf 2 O (Lf 2 O ?_))
  refine Lw (ι:=SP) [_,_,_] _ Y O en87 O O (fun _=>.tuple #[]) (fun q=>(gown 123 67 70 sb K ⟨putG [⟨9,0,0⟩] (⟨(nodesG x.args t.g),q12.1,q12.2⟩:GsA).g,q,(⟨(nodesG x.args t.g),q12.1,q12.2⟩:GsA).fa⟩)) (fun _=>True) [H18] (by simp) (fun w hw=>(sput_any sb K (⟨(nodesG x.args t.g),q12.1,q12.2⟩:GsA) H18 (some ⟨b18,0,none⟩) 1 [⟨9,0,0⟩] w hH18 (by show ((nodesG x.args t.g)).code.length+[⟨9,0,0⟩].length≤_; (try simp only [gsL9]); omega) hw).mono fun e w' ⟨q,h1,h2⟩=>⟨q,h1,trivial,h2⟩) ?_
  intro q19 _
  refine Ln (Eb ?_)
  refine E0 O fun w' hw=>?_
  have hr:nodeG x t.g=putG [⟨9,0,0⟩] (nodesG x.args t.g):=by
    rw [nodeG_eq,nodeGo,if_neg hn0,if_neg hn1,if_neg hn2,if_neg hn3,if_neg hn4,if_neg hn5,if_neg hn6,if_neg hn7,if_pos ho]
    rw [allG_nodes]
  rw [hr]
  exact ⟨(q19,q12.2),O,Wv 1 (Wt 3 hw)⟩
 have hn10:¬x.op=6:=by simpa using hc10
 refine Cr (V0 (Ym O) (V0 (Yf fo238_0 O) (V0 (Yd 3 O O O na3) (V0 (Yb zr67 pl67 O O) ?_))))
 refine Lb Y O el23 O O O O fun b24=>?_
 refine WL.blksl (rd:=rdIG) (f:=InsG.cells) (k:=3) (m:=1) 0 [⟨10,x.op,0⟩] O O InsG.cells_len (fun _ _ _ _ h=>h) (by simp) (by decide) fun H24 hH24=>?_
 refine Lf 2 O (Lf 2 O (Lf 2 O ?_))
 refine Lw (ι:=SP) [_,_,_] _ Y O en87 O O (fun _=>.tuple #[]) (fun q=>(gown 123 67 70 sb K ⟨putG [⟨10,x.op,0⟩] (⟨(nodesG x.args t.g),q12.1,q12.2⟩:GsA).g,q,(⟨(nodesG x.args t.g),q12.1,q12.2⟩:GsA).fa⟩)) (fun _=>True) [H24] (by simp) (fun w hw=>(sput_any sb K (⟨(nodesG x.args t.g),q12.1,q12.2⟩:GsA) H24 (some ⟨b24,0,none⟩) 1 [⟨10,x.op,0⟩] w hH24 (by show ((nodesG x.args t.g)).code.length+[⟨10,x.op,0⟩].length≤_; (try simp only [gsL9]); omega) hw).mono fun e w' ⟨q,h1,h2⟩=>⟨q,h1,trivial,h2⟩) ?_
 intro q25 _
 refine Ln (Eb ?_)
 refine E0 O fun w' hw=>?_
 have hr:nodeG x t.g=putG [⟨10,x.op,0⟩] (nodesG x.args t.g):=by
   rw [nodeG_eq,nodeGo,if_neg hn0,if_neg hn1,if_neg hn2,if_neg hn3,if_neg hn4,if_neg hn5,if_neg hn6,if_neg hn7,if_neg hn10,allG_nodes]
 rw [hr]
 exact ⟨(q25,q12.2),O,Wv 1 (Wt 3 hw)⟩
def GActs (H:View) (sb:Nat) (K:ObjK) (ke k:Nat):Prop:=∀(l:List TAct) (a:Option Addr) (c:Nat) (t:GsA) (w:World),Sl (RdA ke k) 7 H a c l→ActsOk l→t.g.code.length+8*wAcs l≤1000000000000→t.g.fix.length+8*wAcs l≤1000000000000→
 Ws w (List.flatMap Asr.ids (gown 123 67 70 sb K t)) (gown 123 67 70 sb K t) [H] w→Calls Tryz.prog 88 #[.pointer (some ⟨sb,0,none⟩),.slice a l.length c] w fun e w'=>∃q:SP×SP,e = .returned (.tuple #[])∧Ws w (List.flatMap Asr.ids (gown 123 67 70 sb K t)) (gown 123 67 70 sb K ⟨actsG l t.g,q.1,q.2⟩) [H] w'
theorem en88:Enters Tryz.prog 88:=enters_of Tryz.func88 (by kernel_rfl) rfl
theorem en108:Enters Tryz.prog 108:=enters_of Tryz.func108 (by kernel_rfl) rfl
theorem sact_any (sb:Nat) (K:ObjK) (t:GsA) (H:View) (ke k:Nat) (x:TAct) (r:AAt) (w:World) (hA:GActs H sb K ke k) (h1:Sl (RdN ke) 5 H r.s1.1 r.s1.2 x.args) (h2:Sl (RdA ke k) 7 H r.s2.1 r.s2.2 x.body) (h3:Sl (RdA ke k) 7 H r.s3.1 r.s3.2 x.other) (hok:ActOk x) (hb:t.g.code.length+8*wAc x≤1000000000000) (hfb:t.g.fix.length+8*wAc x≤1000000000000) (hw:Ws w (List.flatMap Asr.ids (gown 123 67 70 sb K t)) (gown 123 67 70 sb K t) [H] w) :
   Calls Tryz.prog 108 #[.pointer (some ⟨sb,0,none⟩),.agg (actV x r).toArray] w fun e w'=>∃q:SP×SP,e = .returned (.tuple #[])∧Ws w (List.flatMap Asr.ids (gown 123 67 70 sb K t)) (gown 123 67 70 sb K ⟨actG x t.g,q.1,q.2⟩) [H] w':=by
 have hN:∀k2,GNode H sb K k2:=fun k2 x a c t w h1 h2 h3 h4 h5=>snode_any sb K t H k2 x a c w h1 h2 h3 h4 h5
 have hcap:=h1.cap
 have hmax:=h1.max
 have hcap3:=h3.cap
 have hmax3:=h3.max
 have hwe:=wAc_eq x
 refine enter Tryz.func108 O 155 O O ?_
 refine CE hw ?_
 refine Cs (Cr ?_)
 refine WL.box Y O O fun b3=>?_
 refine Ln (Et (Cs (Cr (V0 (Yf fo191_0 O) (V0 (Yd 0 O O O na3) (Ln (Et (Cb (Cs (Cr (V0 (yl_eq O O) (V0 (Ya O) ?_))))))))))))
 refine Ln (Et ?_)
 refine Cc O (fun hc0=>?_) (fun hc0=>?_)
 ·
  have ho:x.op=1:=by simpa using hc0
  refine Cs ?_
  have hl1:=hok.parts.2.2.2.1 (by omega)
  obtain ⟨y,hyi⟩:∃y,x.args[0]? = some y:=⟨_,List.getElem?_eq_getElem (by omega)⟩
  obtain ⟨pby,poy,hay,hry⟩:=h1.elt 0 y hyi
  obtain ⟨k2,rfl⟩:∃k2,ke=k2+1:=by
    cases ke with
    | zero=>exact hry.elim
    | succ k2=>exact ⟨k2,rfl⟩
  obtain ⟨ya,yc,hrowy,hsuby⟩:=hry
  have hN2:=hN k2
  have hoy:=hok.parts.1.at_ hyi
  have hw1:=wNd_one hyi
  have hgl:=nodeG_len y t.g
  have hh1:=hgl.hi
  have hh2:=hgl.fhi
  have hh3:=hgl.lo
  refine Cr (V0 (Ym O) (V0 (Yf fo191_4 O) (V0 (Yd 0 O O O na189) ?_)))
  refine V0 (Yo (i:=0) es189 O O hay (by omega)) ?_
  refine V0 (yl_lda 0 ag238 O O O (hrowy)) (Lf 3 O (Lf 3 O (Lf 3 O ?_)))
  refine Lw (ι:=SP×SP) [_,_,_] _ Y O en130 O O (fun _=>.tuple #[]) (fun q=>(gown 123 67 70 sb K ⟨nodeG y t.g,q.1,q.2⟩)) (fun _=>True) [H] (by simp) (fun w hw=>(hN2 y ya yc t w hsuby hoy (by show (t.g).code.length+8*wNd y≤_; (try simp only [gsL9]); omega) (by show (t.g).fix.length+8*wNd y≤_; (try simp only [gsL9]); omega) hw).mono fun e w' ⟨q,h1,h2⟩=>⟨q,h1,trivial,h2⟩) ?_
  intro q17 _
  refine Ln (Et (Cs (Cr (V0 (Yf fo191_2 O) (V0 (Yd 3 O O O na3) (V0 (yl_lt O O) (Ln (Et ?_))))))))
  refine Cc O (fun hc1=>?_) (fun hc1=>?_)
  ·
   have hm:x.m<0:=by simpa using hc1
   refine Cr (V0 (Ym O) (V0 (Yf fo191_3 O) (V0 (Yd 3 O O O na3) (V0 (Yb zr67 pl67 O O) ?_))))
   refine Lb Y O el23 O O O O fun b25=>?_
   refine WL.blksl (rd:=rdIG) (f:=InsG.cells) (k:=3) (m:=1) 0 [⟨3,x.pl,0⟩] O O InsG.cells_len (fun _ _ _ _ h=>h) (by simp) (by decide) fun H25 hH25=>?_
   refine Lf 2 O (Lf 2 O (Lf 2 O ?_))
   refine Lw (ι:=SP) [_,_,_] _ Y O en87 O O (fun _=>.tuple #[]) (fun q=>(gown 123 67 70 sb K ⟨putG [⟨3,x.pl,0⟩] (⟨(nodeG y t.g),q17.1,q17.2⟩:GsA).g,q,(⟨(nodeG y t.g),q17.1,q17.2⟩:GsA).fa⟩)) (fun _=>True) [H25] (by simp) (fun w hw=>(sput_any sb K (⟨(nodeG y t.g),q17.1,q17.2⟩:GsA) H25 (some ⟨b25,0,none⟩) 1 [⟨3,x.pl,0⟩] w hH25 (by show ((nodeG y t.g)).code.length+[⟨3,x.pl,0⟩].length≤_; (try simp only [gsL9]); omega) hw).mono fun e w' ⟨q,h1,h2⟩=>⟨q,h1,trivial,h2⟩) ?_
   intro q26 _
   refine Ln (Eb ?_)
   refine E0 O fun w' hw=>?_
   have hr:actG x t.g=putG [⟨3,x.pl,0⟩] (nodeG y t.g):=by
     rw [actG_eq,actGo,if_pos ho,if_pos hm,kidG_at hyi]
   rw [hr]
   exact ⟨(q26,q17.2),O,Wv 1 (Wt 3 hw)⟩
  have hm:¬x.m<0:=by simpa using hc1
  refine Cr (V0 (Ym O) (V0 (Yf fo191_3 O) (V0 (Yd 3 O O O na3) (V0 (Yb zr67 pl67 O O) (V0 (Yf fo191_2 O) ?_)))))
  refine V0 (Yd 3 O O O na3) (Lf 2 O (Lf 2 O (Lf 2 O ?_)))
  refine Lw (ι:=SP×SP) [_,_,_] _ Y O en131 O O (fun _=>.int .i64 ((nodeG y t.g).code.length:Int)) (fun q=>(gown 123 67 70 sb K ⟨fixG ⟨5,x.pl,0⟩ 3 x.m (nodeG y t.g),q.1,q.2⟩)) (fun _=>True) [] (by simp) (fun w hw=>(sfix_any sb K (⟨(nodeG y t.g),q17.1,q17.2⟩:GsA)  ⟨5,x.pl,0⟩ 3 x.m w  (by show ((nodeG y t.g)).code.length+1≤_; (try simp only [gsL9]); omega) (by show ((nodeG y t.g)).fix.length+1≤_; (try simp only [gsL9]); omega) hw).mono fun e w' ⟨q,h1,h2⟩=>⟨q,h1,trivial,h2⟩) ?_
  intro q33 _
  refine Ln (Eb ?_)
  refine E0 O fun w' hw=>?_
  have hr:actG x t.g=fixG ⟨5,x.pl,0⟩ 3 x.m (nodeG y t.g):=by
    rw [actG_eq,actGo,if_pos ho,if_neg hm,kidG_at hyi]
  rw [hr]
  exact ⟨(q33.1,q33.2),O,Wt 3 hw⟩
 have hn1:¬x.op=1:=by simpa using hc0
 refine Cs (Cr (V0 (yl_eq O O) (V0 (Ya O) (Ln (Et ?_)))))
 refine Cc O (fun hc2=>?_) (fun hc2=>?_)
 ·
  have ho:x.op=2:=by simpa using hc2
  refine Cs ?_
  have hl2:=hok.parts.2.2.2.2.1 (by omega)
  obtain ⟨y,hyi⟩:∃y,x.args[0]? = some y:=⟨_,List.getElem?_eq_getElem (by omega)⟩
  obtain ⟨pby,poy,hay,hry⟩:=h1.elt 0 y hyi
  obtain ⟨z,hzi⟩:∃y,x.args[1]? = some y:=⟨_,List.getElem?_eq_getElem (by omega)⟩
  obtain ⟨pbz,poz,haz,hrz⟩:=h1.elt 1 z hzi
  obtain ⟨k2,rfl⟩:∃k2,ke=k2+1:=by
    cases ke with
    | zero=>exact hry.elim
    | succ k2=>exact ⟨k2,rfl⟩
  obtain ⟨ya,yc,hrowy,hsuby⟩:=hry
  have hN2:=hN k2
  have hoy:=hok.parts.1.at_ hyi
  have hw1:=wNd_one hyi
  have hgl:=nodeG_len y t.g
  have hh1:=hgl.hi
  have hh2:=hgl.fhi
  have hh3:=hgl.lo
  obtain ⟨za,zc,hrowz,hsubz⟩:=hrz
  have hoz:=hok.parts.1.at_ hzi
  have hw2:=wNd_two hyi hzi
  have hgz:=nodeG_len z (fixG ⟨6,x.pl,x.n⟩ 3 x.m (nodeG y t.g))
  have hz1:=hgz.hi
  have hz2:=hgz.fhi
  have hz3:=hgz.lo
  try simp only [gsL9] at hz1 hz2 hz3
  refine CU (fun _=>true) [1,1,1] [] (.q false 0 (.q false 1 (.q true 2 (.q false 3 (.q true 4 (.q false 5 (.q true 6 (.q false 7 (.q true 8 (.q false 9 (.q true 10 (.e 11 .nil .stop)))))))))))) mixed (by kernel_rfl) (fun _ _ _ d _ _ h=>by cases d<;>exact h) ?_
  refine U0 O (Wos [1,1,1]) (Ym O) (U0 O (Wos [1,1,1]) (Yf fo191_2 O) (U0 O (Wos [1,1,1]) (Yd 0 O O O na3) (U0 O (Wos [1,1,1]) (Yf fo191_3 O) (U0 O (Wos [1,1,1]) (Yd 0 O O O na3) (U0 O (Wos [1,1,1]) (Yf fo191_1 O) ?_)))))
  refine U0 O (Wos [1,1,1]) (Yd 0 O O O na3) (U0 O (Wos [1,1,1]) (Yf fo191_4 O) (U0 O (Wos [1,1,1]) (Yd 0 O O O na189) ?_))
  refine U0 O (Wos [1,1,1]) (Yo (i:=0) es189 O O hay (by omega)) ?_
  refine U0 O (Wos [1,1,1]) (yl_lda 0 ag238 O O O (hrowy)) ?_
  refine Ue O (Wos [1,1,1]) ?_ WU.stop
  refine Lf 3 O (Lf 3 O (Lf 3 O ?_))
  refine Lw (ι:=SP×SP) [_,_,_] _ Y O en132 O O (fun _=>.tuple #[]) (fun q=>(gown 123 67 70 sb K ⟨fixG ⟨6,x.pl,x.n⟩ 3 x.m (nodeG y t.g),q.1,q.2⟩)) (fun _=>True) [H] (by simp) (fun w hw=>(sindex_any sb K t H k2 x.m x.pl x.n y ya yc w hN2 hsuby hoy (by omega) (by omega) hw).mono fun e w' ⟨q,h1,h2⟩=>⟨q,h1,trivial,h2⟩) ?_
  intro q47 _
  refine Ln (Eu ?_)
  refine WU.nil (fun _ h=>by exact (Wo 1 (Wo 1 (Wo 1 ((((h.f 2 O).f 2 O).f 2 O).f 3 O))):)) ?_
  refine WS.nil ?_
  refine Et (Cs (Cr (V0 (Ym O) (V0 (Yf fo191_4 O) (V0 (Yd 3 O O O na189) ?_)))))
  refine V0 (Yo (i:=1) es189 O O haz (by omega)) ?_
  refine V0 (yl_lda 0 ag238 O O O (hrowz)) (Lf 2 O (Lf 2 O (Lf 2 O ?_)))
  refine Lw (ι:=SP×SP) [_,_,_] _ Y O en130 O O (fun _=>.tuple #[]) (fun q=>(gown 123 67 70 sb K ⟨nodeG z (fixG ⟨6,x.pl,x.n⟩ 3 x.m (nodeG y t.g)),q.1,q.2⟩)) (fun _=>True) [H] (by simp) (fun w hw=>(hN2 z za zc (⟨(fixG ⟨6,x.pl,x.n⟩ 3 x.m (nodeG y t.g)),q47.1,q47.2⟩:GsA) w hsubz hoz (by show ((fixG ⟨6,x.pl,x.n⟩ 3 x.m (nodeG y t.g))).code.length+8*wNd z≤_; (try simp only [gsL9]); omega) (by show ((fixG ⟨6,x.pl,x.n⟩ 3 x.m (nodeG y t.g))).fix.length+8*wNd z≤_; (try simp only [gsL9]); omega) hw).mono fun e w' ⟨q,h1,h2⟩=>⟨q,h1,trivial,h2⟩) ?_
  intro q53 _
  refine Ln (Et (Cr (V0 (Ym O) (V0 (Yb zr67 pl67 O O) ?_))))
  refine Lb Y O el23 O O O O fun b56=>?_
  refine WL.blksl (rd:=rdIG) (f:=InsG.cells) (k:=3) (m:=1) 0 [⟨8,0,0⟩] O O InsG.cells_len (fun _ _ _ _ h=>h) (by simp) (by decide) fun H56 hH56=>?_
  refine Lf 2 O (Lf 2 O (Lf 2 O ?_))
  refine Lw (ι:=SP) [_,_,_] _ Y O en87 O O (fun _=>.tuple #[]) (fun q=>(gown 123 67 70 sb K ⟨putG [⟨8,0,0⟩] (⟨(nodeG z (fixG ⟨6,x.pl,x.n⟩ 3 x.m (nodeG y t.g))),q53.1,q53.2⟩:GsA).g,q,(⟨(nodeG z (fixG ⟨6,x.pl,x.n⟩ 3 x.m (nodeG y t.g))),q53.1,q53.2⟩:GsA).fa⟩)) (fun _=>True) [H56] (by simp) (fun w hw=>(sput_any sb K (⟨(nodeG z (fixG ⟨6,x.pl,x.n⟩ 3 x.m (nodeG y t.g))),q53.1,q53.2⟩:GsA) H56 (some ⟨b56,0,none⟩) 1 [⟨8,0,0⟩] w hH56 (by show ((nodeG z (fixG ⟨6,x.pl,x.n⟩ 3 x.m (nodeG y t.g)))).code.length+[⟨8,0,0⟩].length≤_; (try simp only [gsL9]); omega) hw).mono fun e w' ⟨q,h1,h2⟩=>⟨q,h1,trivial,h2⟩) ?_
  intro q57 _
  refine Ln (Eb ?_)
  refine E0 O fun w' hw=>?_
  have hr:actG x t.g=putG [⟨8,0,0⟩] (nodeG z (fixG ⟨6,x.pl,x.n⟩ 3 x.m (nodeG y t.g))):=by
    rw [actG_eq,actGo,if_neg hn1,if_pos ho,kidG_at hyi,kidG_at hzi]
  rw [hr]
  exact ⟨(q57,q53.2),O,Wv 1 (Wt 3 hw)⟩
 have hn2:¬x.op=2:=by simpa using hc2
 refine Cs (Cr (V0 (yl_eq O O) (V0 (Ya O) (Ln (Et ?_)))))
 refine Cc O (fun hc3=>?_) (fun hc3=>?_)
 ·
  have ho:x.op=3:=by simpa using hc3
  refine Cs ?_
  have hgn:=nodesG_len x.args t.g
  have hh1:=hgn.hi
  have hh2:=hgn.fhi
  refine Cr (V0 (Ym O) (V0 (Yf fo191_2 O) (V0 (Yd 0 O O O na3) (V0 (Yf fo191_3 O) (V0 (Yd 0 O O O na3) ?_)))))
  refine V0 (Yf fo191_4 O) (V0 (Yd 0 O O O na189) (Lf 3 O (Lf 3 O (Lf 3 O ?_))))
  refine Lw (ι:=SP×SP) [_,_,_] _ Y O en133 O O (fun _=>.tuple #[]) (fun q=>(gown 123 67 70 sb K ⟨fixG ⟨13,x.pl,0⟩ 2 x.m (nodesG x.args t.g),q.1,q.2⟩)) (fun _=>True) [H] (by simp) (fun w hw=>(scall_any sb K t H ke x.m x.pl x.args r.s1.1 r.s1.2 w (fun k2 _=>hN k2) h1 hok.parts.1 (by omega) (by omega) hw).mono fun e w' ⟨q,h1,h2⟩=>⟨q,h1,trivial,h2⟩) ?_
  intro q67 _
  refine Ln (Et (Cr (V0 (Ym O) (V0 (Yb zr67 pl67 O O) ?_))))
  refine Lb Y O el23 O O O O fun b70=>?_
  refine WL.blksl (rd:=rdIG) (f:=InsG.cells) (k:=3) (m:=1) 0 [⟨17,0,0⟩] O O InsG.cells_len (fun _ _ _ _ h=>h) (by simp) (by decide) fun H70 hH70=>?_
  refine Lf 2 O (Lf 2 O (Lf 2 O ?_))
  refine Lw (ι:=SP) [_,_,_] _ Y O en87 O O (fun _=>.tuple #[]) (fun q=>(gown 123 67 70 sb K ⟨putG [⟨17,0,0⟩] (⟨(fixG ⟨13,x.pl,0⟩ 2 x.m (nodesG x.args t.g)),q67.1,q67.2⟩:GsA).g,q,(⟨(fixG ⟨13,x.pl,0⟩ 2 x.m (nodesG x.args t.g)),q67.1,q67.2⟩:GsA).fa⟩)) (fun _=>True) [H70] (by simp) (fun w hw=>(sput_any sb K (⟨(fixG ⟨13,x.pl,0⟩ 2 x.m (nodesG x.args t.g)),q67.1,q67.2⟩:GsA) H70 (some ⟨b70,0,none⟩) 1 [⟨17,0,0⟩] w hH70 (by show ((fixG ⟨13,x.pl,0⟩ 2 x.m (nodesG x.args t.g))).code.length+[⟨17,0,0⟩].length≤_; (try simp only [gsL9]); omega) hw).mono fun e w' ⟨q,h1,h2⟩=>⟨q,h1,trivial,h2⟩) ?_
  intro q71 _
  refine Ln (Eb ?_)
  refine E0 O fun w' hw=>?_
  have hr:actG x t.g=putG [⟨17,0,0⟩] (fixG ⟨13,x.pl,0⟩ 2 x.m (nodesG x.args t.g)):=by
    rw [actG_eq,actGo,if_neg hn1,if_neg hn2,if_pos ho,allG_nodes]
  rw [hr]
  exact ⟨(q71,q67.2),O,Wv 1 (Wt 3 hw)⟩
 have hn3:¬x.op=3:=by simpa using hc3
 refine Cs (Cr (V0 (yl_eq O O) (V0 (Ya O) (Ln (Et ?_)))))
 refine Cc O (fun hc4=>?_) (fun hc4=>?_)
 ·
  have ho:x.op=4:=by simpa using hc4
  refine Cs ?_
  have hl1:=hok.parts.2.2.2.1 (by omega)
  obtain ⟨y,hyi⟩:∃y,x.args[0]? = some y:=⟨_,List.getElem?_eq_getElem (by omega)⟩
  obtain ⟨pby,poy,hay,hry⟩:=h1.elt 0 y hyi
  obtain ⟨k2,rfl⟩:∃k2,ke=k2+1:=by
    cases ke with
    | zero=>exact hry.elim
    | succ k2=>exact ⟨k2,rfl⟩
  obtain ⟨ya,yc,hrowy,hsuby⟩:=hry
  have hN2:=hN k2
  have hoy:=hok.parts.1.at_ hyi
  have hw1:=wNd_one hyi
  have hgl:=nodeG_len y t.g
  have hh1:=hgl.hi
  have hh2:=hgl.fhi
  have hh3:=hgl.lo
  have hgb:=actsG_len x.body (fixG ⟨12,0,0⟩ 1 0 (nodeG y t.g))
  have hb1:=hgb.hi
  have hb2:=hgb.fhi
  have hb3:=hgb.lo
  try simp only [gsL9] at hb1 hb2 hb3
  have hgo:=actsG_len x.other (landG ((nodeG y t.g).code.length) (fixG ⟨11,0,0⟩ 1 0 (actsG x.body (fixG ⟨12,0,0⟩ 1 0 (nodeG y t.g)))))
  have ho1:=hgo.hi
  have ho2:=hgo.fhi
  have ho3:=hgo.lo
  try simp only [gsL9] at ho1 ho2 ho3
  refine Cr (V0 (Ym O) (V0 (Yf fo191_4 O) (V0 (Yd 0 O O O na189) ?_)))
  refine V0 (Yo (i:=0) es189 O O hay (by omega)) ?_
  refine V0 (yl_lda 0 ag238 O O O (hrowy)) (Lf 3 O (Lf 3 O (Lf 3 O ?_)))
  refine Lw (ι:=SP×SP) [_,_,_] _ Y O en130 O O (fun _=>.tuple #[]) (fun q=>(gown 123 67 70 sb K ⟨nodeG y t.g,q.1,q.2⟩)) (fun _=>True) [H] (by simp) (fun w hw=>(hN2 y ya yc t w hsuby hoy (by show (t.g).code.length+8*wNd y≤_; (try simp only [gsL9]); omega) (by show (t.g).fix.length+8*wNd y≤_; (try simp only [gsL9]); omega) hw).mono fun e w' ⟨q,h1,h2⟩=>⟨q,h1,trivial,h2⟩) ?_
  intro q79 _
  refine Ln (Et (Cs (Cr (V0 (Ym O) (Lf 2 O (Lf 2 O (Lf 2 O ?_)))))))
  refine Lw (ι:=(SP×SP)×Nat×Nat) [_,_,_] _ Y O en134 O O (fun q=>.func (.func 162) #[] #[.pointer (some ⟨q.2.1,0,none⟩),.pointer (some ⟨q.2.2,0,none⟩)]) (fun q=>(gown 123 67 70 sb K ⟨fixG ⟨12,0,0⟩ 1 0 (nodeG y t.g),q.1.1,q.1.2⟩)++[blk q.2.1 (.cells #[.pointer (some ⟨sb,0,none⟩)] 120 (0,0)),blk q.2.2 (.cells #[.int .i64 ((nodeG y t.g).code.length:Int)] 3 (0,0))]) (fun _=>True) [] (by simp) (fun w hw=>(sjump_any sb K (⟨(nodeG y t.g),q79.1,q79.2⟩:GsA) 12 w (by show ((nodeG y t.g)).code.length+1≤_; (try simp only [gsL9]); omega) (by show ((nodeG y t.g)).fix.length+1≤_; (try simp only [gsL9]); omega) hw).mono fun e w' ⟨q,h1,h2⟩=>⟨q,h1,trivial,h2⟩) ?_
  intro q81 _
  refine V0 (Ya O) (Ln (Et (Cs (Cr (V0 (Ym O) (V0 (Yf fo191_5 O) (V0 (Yd 5 O O O na56) (Lf 2 O ?_))))))))
  refine Lf 2 O (Lf 2 O ?_)
  refine Lw (ι:=SP×SP) [_,_,_] _ Y O en88 O O (fun _=>.tuple #[]) (fun q=>(gown 123 67 70 sb K ⟨actsG x.body (fixG ⟨12,0,0⟩ 1 0 (nodeG y t.g)),q.1,q.2⟩)) (fun _=>True) [H] (by simp) (fun w hw=>(hA x.body r.s2.1 r.s2.2 (⟨(fixG ⟨12,0,0⟩ 1 0 (nodeG y t.g)),q81.1.1,q81.1.2⟩:GsA) w h2 (hok.parts.2.1 (by omega)) (by show ((fixG ⟨12,0,0⟩ 1 0 (nodeG y t.g))).code.length+8*wAcs x.body≤_; (try simp only [gsL9]); omega) (by show ((fixG ⟨12,0,0⟩ 1 0 (nodeG y t.g))).fix.length+8*wAcs x.body≤_; (try simp only [gsL9]); omega) hw).mono fun e w' ⟨q,h1,h2⟩=>⟨q,h1,trivial,h2⟩) ?_
  intro q85 _
  refine Ln (Et (Cs (Cs (Cr (V0 (Yf fo191_6 O) (V0 (Yd 5 O O O na56) (V0 (Yn es56 O) (V0 (yl_gt O O) (Ln (Et ?_))))))))))
  refine Cc O (fun hc5=>?_) (fun hc5=>?_)
  ·
   have hol:0<x.other.length:=by simpa using hc5
   refine Cs (Cr (V0 (Ym O) (Lf 2 O (Lf 2 O (Lf 2 O ?_)))))
   refine Lw (ι:=(SP×SP)×Nat×Nat) [_,_,_] _ Y O en134 O O (fun q=>.func (.func 162) #[] #[.pointer (some ⟨q.2.1,0,none⟩),.pointer (some ⟨q.2.2,0,none⟩)]) (fun q=>(gown 123 67 70 sb K ⟨fixG ⟨11,0,0⟩ 1 0 (actsG x.body (fixG ⟨12,0,0⟩ 1 0 (nodeG y t.g))),q.1.1,q.1.2⟩)++[blk q.2.1 (.cells #[.pointer (some ⟨sb,0,none⟩)] 120 (0,0)),blk q.2.2 (.cells #[.int .i64 ((actsG x.body (fixG ⟨12,0,0⟩ 1 0 (nodeG y t.g))).code.length:Int)] 3 (0,0))]) (fun _=>True) [] (by simp) (fun w hw=>(sjump_any sb K (⟨(actsG x.body (fixG ⟨12,0,0⟩ 1 0 (nodeG y t.g))),q85.1,q85.2⟩:GsA) 11 w (by show ((actsG x.body (fixG ⟨12,0,0⟩ 1 0 (nodeG y t.g)))).code.length+1≤_; (try simp only [gsL9]); omega) (by show ((actsG x.body (fixG ⟨12,0,0⟩ 1 0 (nodeG y t.g)))).fix.length+1≤_; (try simp only [gsL9]); omega) hw).mono fun e w' ⟨q,h1,h2⟩=>⟨q,h1,trivial,h2⟩) ?_
   intro q91 _
   refine V0 (Ya O) (Ln (Et (Cs (Cr (V0 (Ym O) (Lf 6 O (Lf 6 O (Lf 4 O ?_))))))))
   refine Lf 4 O (Lf 4 O ?_)
   refine WL.callvw (ι:=Unit) [_,_,_,_,_] _ Y O en162 O O O (fun _=>.tuple #[]) (fun _=>(gown 123 67 70 sb K ⟨landG ((nodeG y t.g).code.length) (fixG ⟨11,0,0⟩ 1 0 (actsG x.body (fixG ⟨12,0,0⟩ 1 0 (nodeG y t.g)))),(⟨(fixG ⟨11,0,0⟩ 1 0 (actsG x.body (fixG ⟨12,0,0⟩ 1 0 (nodeG y t.g)))),q91.1.1,q91.1.2⟩:GsA).ca,(⟨(fixG ⟨11,0,0⟩ 1 0 (actsG x.body (fixG ⟨12,0,0⟩ 1 0 (nodeG y t.g)))),q91.1.1,q91.1.2⟩:GsA).fa⟩)++[blk q81.2.1 (.cells #[.pointer (some ⟨sb,0,none⟩)] 120 (0,0)),blk q81.2.2 (.cells #[.int .i64 ((nodeG y t.g).code.length:Int)] 3 (0,0))]) (fun _=>True) [] (by simp) (fun w hw=>(sland_any sb K (⟨(fixG ⟨11,0,0⟩ 1 0 (actsG x.body (fixG ⟨12,0,0⟩ 1 0 (nodeG y t.g)))),q91.1.1,q91.1.2⟩:GsA) q81.2.1 q81.2.2 ((nodeG y t.g).code.length) _ w (List.getElem?_eq_getElem (by show (nodeG y t.g).code.length<((fixG ⟨11,0,0⟩ 1 0 (actsG x.body (fixG ⟨12,0,0⟩ 1 0 (nodeG y t.g))))).code.length; (try simp only [gsL9]); omega)) hw).mono fun e w' h=>⟨(),h.1,trivial,h.2⟩) ?_
   intro _ _
   refine Ln (Et (Cs (Cr (V0 (Ym O) (V0 (Yf fo191_6 O) (V0 (Yd 7 O O O na56) (Lf 2 O (Lf 2 O ?_))))))))
   refine Lf 2 O ?_
   refine Lw (ι:=SP×SP) [_,_,_] _ Y O en88 O O (fun _=>.tuple #[]) (fun q=>(gown 123 67 70 sb K ⟨actsG x.other (landG ((nodeG y t.g).code.length) (fixG ⟨11,0,0⟩ 1 0 (actsG x.body (fixG ⟨12,0,0⟩ 1 0 (nodeG y t.g))))),q.1,q.2⟩)) (fun _=>True) [H] (by simp) (fun w hw=>(hA x.other r.s3.1 r.s3.2 (⟨(landG ((nodeG y t.g).code.length) (fixG ⟨11,0,0⟩ 1 0 (actsG x.body (fixG ⟨12,0,0⟩ 1 0 (nodeG y t.g))))),q91.1.1,q91.1.2⟩:GsA) w h3 hok.parts.2.2.1 (by show ((landG ((nodeG y t.g).code.length) (fixG ⟨11,0,0⟩ 1 0 (actsG x.body (fixG ⟨12,0,0⟩ 1 0 (nodeG y t.g)))))).code.length+8*wAcs x.other≤_; (try simp only [gsL9]); omega) (by show ((landG ((nodeG y t.g).code.length) (fixG ⟨11,0,0⟩ 1 0 (actsG x.body (fixG ⟨12,0,0⟩ 1 0 (nodeG y t.g)))))).fix.length+8*wAcs x.other≤_; (try simp only [gsL9]); omega) hw).mono fun e w' ⟨q,h1,h2⟩=>⟨q,h1,trivial,h2⟩) ?_
   intro q97 _
   refine Ln (Et (Cr (V0 (Ym O) (V0 (Ya O) (Ln (Et (Cr (V0 (Ym O) (Lf 6 O ?_)))))))))
   refine Lf 6 O (Lf 4 O (Lf 4 O (Lf 4 O ?_)))
   refine WL.callvw (ι:=Unit) [_,_,_,_,_] _ Y O en162 O O O (fun _=>.tuple #[]) (fun _=>(gown 123 67 70 sb K ⟨landG ((actsG x.body (fixG ⟨12,0,0⟩ 1 0 (nodeG y t.g))).code.length) (actsG x.other (landG ((nodeG y t.g).code.length) (fixG ⟨11,0,0⟩ 1 0 (actsG x.body (fixG ⟨12,0,0⟩ 1 0 (nodeG y t.g)))))),(⟨(actsG x.other (landG ((nodeG y t.g).code.length) (fixG ⟨11,0,0⟩ 1 0 (actsG x.body (fixG ⟨12,0,0⟩ 1 0 (nodeG y t.g)))))),q97.1,q97.2⟩:GsA).ca,(⟨(actsG x.other (landG ((nodeG y t.g).code.length) (fixG ⟨11,0,0⟩ 1 0 (actsG x.body (fixG ⟨12,0,0⟩ 1 0 (nodeG y t.g)))))),q97.1,q97.2⟩:GsA).fa⟩)++[blk q91.2.1 (.cells #[.pointer (some ⟨sb,0,none⟩)] 120 (0,0)),blk q91.2.2 (.cells #[.int .i64 ((actsG x.body (fixG ⟨12,0,0⟩ 1 0 (nodeG y t.g))).code.length:Int)] 3 (0,0))]) (fun _=>True) [] (by simp) (fun w hw=>(sland_any sb K (⟨(actsG x.other (landG ((nodeG y t.g).code.length) (fixG ⟨11,0,0⟩ 1 0 (actsG x.body (fixG ⟨12,0,0⟩ 1 0 (nodeG y t.g)))))),q97.1,q97.2⟩:GsA) q91.2.1 q91.2.2 ((actsG x.body (fixG ⟨12,0,0⟩ 1 0 (nodeG y t.g))).code.length) _ w (List.getElem?_eq_getElem (by show (actsG x.body (fixG ⟨12,0,0⟩ 1 0 (nodeG y t.g))).code.length<((actsG x.other (landG ((nodeG y t.g).code.length) (fixG ⟨11,0,0⟩ 1 0 (actsG x.body (fixG ⟨12,0,0⟩ 1 0 (nodeG y t.g))))))).code.length; (try simp only [gsL9]); omega)) hw).mono fun e w' h=>⟨(),h.1,trivial,h.2⟩) ?_
   intro _ _
   refine Ln (Eb ?_)
   refine E0 O fun w' hw=>?_
   have hr:actG x t.g=landG ((actsG x.body (fixG ⟨12,0,0⟩ 1 0 (nodeG y t.g))).code.length) (actsG x.other (landG ((nodeG y t.g).code.length) (fixG ⟨11,0,0⟩ 1 0 (actsG x.body (fixG ⟨12,0,0⟩ 1 0 (nodeG y t.g)))))):=by
     rw [actG_eq,actGo,if_neg hn1,if_neg hn2,if_neg hn3,if_pos ho,kidG_at hyi]
     unfold ifG
     rw [if_pos hol]
   rw [hr]
   exact ⟨(q97.1,q97.2),O,Wt 3 hw⟩
  have hol:¬0<x.other.length:=by simpa using hc5
  refine Ck (Et (Cr (V0 (Ym O) (Lf 4 O (Lf 4 O (Lf 4 O (Lf 4 O ?_)))))))
  refine Lf 4 O ?_
  refine WL.callvw (ι:=Unit) [_,_,_,_,_] _ Y O en162 O O O (fun _=>.tuple #[]) (fun _=>(gown 123 67 70 sb K ⟨landG ((nodeG y t.g).code.length) (actsG x.body (fixG ⟨12,0,0⟩ 1 0 (nodeG y t.g))),(⟨(actsG x.body (fixG ⟨12,0,0⟩ 1 0 (nodeG y t.g))),q85.1,q85.2⟩:GsA).ca,(⟨(actsG x.body (fixG ⟨12,0,0⟩ 1 0 (nodeG y t.g))),q85.1,q85.2⟩:GsA).fa⟩)++[blk q81.2.1 (.cells #[.pointer (some ⟨sb,0,none⟩)] 120 (0,0)),blk q81.2.2 (.cells #[.int .i64 ((nodeG y t.g).code.length:Int)] 3 (0,0))]) (fun _=>True) [] (by simp) (fun w hw=>(sland_any sb K (⟨(actsG x.body (fixG ⟨12,0,0⟩ 1 0 (nodeG y t.g))),q85.1,q85.2⟩:GsA) q81.2.1 q81.2.2 ((nodeG y t.g).code.length) _ w (List.getElem?_eq_getElem (by show (nodeG y t.g).code.length<((actsG x.body (fixG ⟨12,0,0⟩ 1 0 (nodeG y t.g)))).code.length; (try simp only [gsL9]); omega)) hw).mono fun e w' h=>⟨(),h.1,trivial,h.2⟩) ?_
  intro _ _
  refine Ln (Eb ?_)
  refine E0 O fun w' hw=>?_
  have hr:actG x t.g=landG ((nodeG y t.g).code.length) (actsG x.body (fixG ⟨12,0,0⟩ 1 0 (nodeG y t.g))):=by
    rw [actG_eq,actGo,if_neg hn1,if_neg hn2,if_neg hn3,if_pos ho,kidG_at hyi]
    unfold ifG
    rw [if_neg hol]
  rw [hr]
  exact ⟨(q85.1,q85.2),O,Wt 3 hw⟩
 have hn4:¬x.op=4:=by simpa using hc4
 refine Cs (Cr (V0 (yl_eq O O) (V0 (Ya O) (Ln (Et ?_)))))
 refine Cc O (fun hc6=>?_) (fun hc6=>?_)
 ·
  have ho:x.op=5:=by simpa using hc6
  refine Cs (Cr (V0 (Ym O) (V0 (yl_nil O) (V0 (Yf fo123_0 O) (V0 (Yf fo27_3 O) (V0 (Yd 1 O O O na23) ?_))))))
  refine V0 (Yn es23 O) (V0 (Ya O) (Ln (Et (Cs ?_))))
  have hl1:=hok.parts.2.2.2.1 (by omega)
  obtain ⟨y,hyi⟩:∃y,x.args[0]? = some y:=⟨_,List.getElem?_eq_getElem (by omega)⟩
  obtain ⟨pby,poy,hay,hry⟩:=h1.elt 0 y hyi
  obtain ⟨k2,rfl⟩:∃k2,ke=k2+1:=by
    cases ke with
    | zero=>exact hry.elim
    | succ k2=>exact ⟨k2,rfl⟩
  obtain ⟨ya,yc,hrowy,hsuby⟩:=hry
  have hN2:=hN k2
  have hoy:=hok.parts.1.at_ hyi
  have hw1:=wNd_one hyi
  have hgl:=nodeG_len y t.g
  have hh1:=hgl.hi
  have hh2:=hgl.fhi
  have hh3:=hgl.lo
  have hgb:=actsG_len x.body (putG [⟨16,0,0⟩] (fixG ⟨12,0,0⟩ 1 0 (nodeG y t.g)))
  have hb1:=hgb.hi
  have hb2:=hgb.fhi
  have hb3:=hgb.lo
  try simp only [gsL9] at hb1 hb2 hb3
  refine Cr (V0 (Ym O) (V0 (Yf fo191_4 O) (V0 (Yd 0 O O O na189) ?_)))
  refine V0 (Yo (i:=0) es189 O O hay (by omega)) ?_
  refine V0 (yl_lda 0 ag238 O O O (hrowy)) (Lf 3 O (Lf 3 O (Lf 3 O ?_)))
  refine Lw (ι:=SP×SP) [_,_,_] _ Y O en130 O O (fun _=>.tuple #[]) (fun q=>(gown 123 67 70 sb K ⟨nodeG y t.g,q.1,q.2⟩)) (fun _=>True) [H] (by simp) (fun w hw=>(hN2 y ya yc t w hsuby hoy (by show (t.g).code.length+8*wNd y≤_; (try simp only [gsL9]); omega) (by show (t.g).fix.length+8*wNd y≤_; (try simp only [gsL9]); omega) hw).mono fun e w' ⟨q,h1,h2⟩=>⟨q,h1,trivial,h2⟩) ?_
  intro q114 _
  refine Ln (Et (Cs (Cr (V0 (Ym O) (Lf 2 O (Lf 2 O (Lf 2 O ?_)))))))
  refine Lw (ι:=(SP×SP)×Nat×Nat) [_,_,_] _ Y O en134 O O (fun q=>.func (.func 162) #[] #[.pointer (some ⟨q.2.1,0,none⟩),.pointer (some ⟨q.2.2,0,none⟩)]) (fun q=>(gown 123 67 70 sb K ⟨fixG ⟨12,0,0⟩ 1 0 (nodeG y t.g),q.1.1,q.1.2⟩)++[blk q.2.1 (.cells #[.pointer (some ⟨sb,0,none⟩)] 120 (0,0)),blk q.2.2 (.cells #[.int .i64 ((nodeG y t.g).code.length:Int)] 3 (0,0))]) (fun _=>True) [] (by simp) (fun w hw=>(sjump_any sb K (⟨(nodeG y t.g),q114.1,q114.2⟩:GsA) 12 w (by show ((nodeG y t.g)).code.length+1≤_; (try simp only [gsL9]); omega) (by show ((nodeG y t.g)).fix.length+1≤_; (try simp only [gsL9]); omega) hw).mono fun e w' ⟨q,h1,h2⟩=>⟨q,h1,trivial,h2⟩) ?_
  intro q116 _
  refine V0 (Ya O) (Ln (Et (Cs (Cr (V0 (Ym O) (V0 (Yb zr67 pl67 O O) ?_))))))
  refine Lb Y O el23 O O O O fun b119=>?_
  refine WL.blksl (rd:=rdIG) (f:=InsG.cells) (k:=3) (m:=1) 0 [⟨16,0,0⟩] O O InsG.cells_len (fun _ _ _ _ h=>h) (by simp) (by decide) fun H119 hH119=>?_
  refine Lf 2 O (Lf 2 O (Lf 2 O ?_))
  refine Lw (ι:=SP) [_,_,_] _ Y O en87 O O (fun _=>.tuple #[]) (fun q=>(gown 123 67 70 sb K ⟨putG [⟨16,0,0⟩] (⟨(fixG ⟨12,0,0⟩ 1 0 (nodeG y t.g)),q116.1.1,q116.1.2⟩:GsA).g,q,(⟨(fixG ⟨12,0,0⟩ 1 0 (nodeG y t.g)),q116.1.1,q116.1.2⟩:GsA).fa⟩)) (fun _=>True) [H119] (by simp) (fun w hw=>(sput_any sb K (⟨(fixG ⟨12,0,0⟩ 1 0 (nodeG y t.g)),q116.1.1,q116.1.2⟩:GsA) H119 (some ⟨b119,0,none⟩) 1 [⟨16,0,0⟩] w hH119 (by show ((fixG ⟨12,0,0⟩ 1 0 (nodeG y t.g))).code.length+[⟨16,0,0⟩].length≤_; (try simp only [gsL9]); omega) hw).mono fun e w' ⟨q,h1,h2⟩=>⟨q,h1,trivial,h2⟩) ?_
  intro q120 _
  refine Ln (Et (Cs (Cr (V0 (Ym O) (V0 (Yf fo191_5 O) (V0 (Yd 5 O O O na56) (Lf 2 O (Lf 2 O ?_))))))))
  refine Lf 2 O ?_
  refine Lw (ι:=SP×SP) [_,_,_] _ Y O en88 O O (fun _=>.tuple #[]) (fun q=>(gown 123 67 70 sb K ⟨actsG x.body (putG [⟨16,0,0⟩] (fixG ⟨12,0,0⟩ 1 0 (nodeG y t.g))),q.1,q.2⟩)) (fun _=>True) [H] (by simp) (fun w hw=>(hA x.body r.s2.1 r.s2.2 (⟨(putG [⟨16,0,0⟩] (fixG ⟨12,0,0⟩ 1 0 (nodeG y t.g))),q120,q116.1.2⟩:GsA) w h2 (hok.parts.2.1 (by omega)) (by show ((putG [⟨16,0,0⟩] (fixG ⟨12,0,0⟩ 1 0 (nodeG y t.g)))).code.length+8*wAcs x.body≤_; (try simp only [gsL9]); omega) (by show ((putG [⟨16,0,0⟩] (fixG ⟨12,0,0⟩ 1 0 (nodeG y t.g)))).fix.length+8*wAcs x.body≤_; (try simp only [gsL9]); omega) hw).mono fun e w' ⟨q,h1,h2⟩=>⟨q,h1,trivial,h2⟩) ?_
  intro q124 _
  refine Ln (Et (Cs (Cr (V0 (Ym O) (V0 (Ym O) (V0 (Yb zr67 pl67 O O) (Lf 2 O (Lf 2 O ?_))))))))
  refine Lf 2 O ?_
  refine Lw (ι:=SP×SP) [_,_,_] _ Y O en131 O O (fun _=>.int .i64 ((actsG x.body (putG [⟨16,0,0⟩] (fixG ⟨12,0,0⟩ 1 0 (nodeG y t.g)))).code.length:Int)) (fun q=>(gown 123 67 70 sb K ⟨fixG ⟨11,(t.g.code.length:Int),0⟩ 1 0 (actsG x.body (putG [⟨16,0,0⟩] (fixG ⟨12,0,0⟩ 1 0 (nodeG y t.g)))),q.1,q.2⟩)) (fun _=>True) [] (by simp) (fun w hw=>(sfix_any sb K (⟨(actsG x.body (putG [⟨16,0,0⟩] (fixG ⟨12,0,0⟩ 1 0 (nodeG y t.g)))),q124.1,q124.2⟩:GsA)  ⟨11,(t.g.code.length:Int),0⟩ 1 0 w  (by show ((actsG x.body (putG [⟨16,0,0⟩] (fixG ⟨12,0,0⟩ 1 0 (nodeG y t.g))))).code.length+1≤_; (try simp only [gsL9]); omega) (by show ((actsG x.body (putG [⟨16,0,0⟩] (fixG ⟨12,0,0⟩ 1 0 (nodeG y t.g))))).fix.length+1≤_; (try simp only [gsL9]); omega) hw).mono fun e w' ⟨q,h1,h2⟩=>⟨q,h1,trivial,h2⟩) ?_
  intro q128 _
  refine Ln (Et (Cr (V0 (Ym O) (Lf 4 O (Lf 4 O (Lf 4 O (Lf 4 O ?_)))))))
  refine Lf 4 O ?_
  refine WL.callvw (ι:=Unit) [_,_,_,_,_] _ Y O en162 O O O (fun _=>.tuple #[]) (fun _=>(gown 123 67 70 sb K ⟨landG ((nodeG y t.g).code.length) (fixG ⟨11,(t.g.code.length:Int),0⟩ 1 0 (actsG x.body (putG [⟨16,0,0⟩] (fixG ⟨12,0,0⟩ 1 0 (nodeG y t.g))))),(⟨(fixG ⟨11,(t.g.code.length:Int),0⟩ 1 0 (actsG x.body (putG [⟨16,0,0⟩] (fixG ⟨12,0,0⟩ 1 0 (nodeG y t.g))))),q128.1,q128.2⟩:GsA).ca,(⟨(fixG ⟨11,(t.g.code.length:Int),0⟩ 1 0 (actsG x.body (putG [⟨16,0,0⟩] (fixG ⟨12,0,0⟩ 1 0 (nodeG y t.g))))),q128.1,q128.2⟩:GsA).fa⟩)++[blk q116.2.1 (.cells #[.pointer (some ⟨sb,0,none⟩)] 120 (0,0)),blk q116.2.2 (.cells #[.int .i64 ((nodeG y t.g).code.length:Int)] 3 (0,0))]) (fun _=>True) [] (by simp) (fun w hw=>(sland_any sb K (⟨(fixG ⟨11,(t.g.code.length:Int),0⟩ 1 0 (actsG x.body (putG [⟨16,0,0⟩] (fixG ⟨12,0,0⟩ 1 0 (nodeG y t.g))))),q128.1,q128.2⟩:GsA) q116.2.1 q116.2.2 ((nodeG y t.g).code.length) _ w (List.getElem?_eq_getElem (by show (nodeG y t.g).code.length<((fixG ⟨11,(t.g.code.length:Int),0⟩ 1 0 (actsG x.body (putG [⟨16,0,0⟩] (fixG ⟨12,0,0⟩ 1 0 (nodeG y t.g)))))).code.length; (try simp only [gsL9]); omega)) hw).mono fun e w' h=>⟨(),h.1,trivial,h.2⟩) ?_
  intro _ _
  refine Ln (Eb ?_)
  refine E0 O fun w' hw=>?_
  have hr:actG x t.g=landG ((nodeG y t.g).code.length) (fixG ⟨11,(t.g.code.length:Int),0⟩ 1 0 (actsG x.body (putG [⟨16,0,0⟩] (fixG ⟨12,0,0⟩ 1 0 (nodeG y t.g))))):=by
    rw [actG_eq,actGo,if_neg hn1,if_neg hn2,if_neg hn3,if_neg hn4,if_pos ho,kidG_at hyi]
    rfl
  rw [hr]
  exact ⟨(q128.1,q128.2),O,Wv 1 (Wt 3 hw)⟩
 have hn5:¬x.op=5:=by simpa using hc6
 refine Cs (Cr (V0 (yl_eq O O) (V0 (Ya O) (Ln (Et ?_)))))
 refine Cc O (fun hc7=>?_) (fun hc7=>?_)
 ·
  have ho:x.op=6:=by simpa using hc7
  refine Cs ?_
  have hl1:=hok.parts.2.2.2.1 (by omega)
  obtain ⟨y,hyi⟩:∃y,x.args[0]? = some y:=⟨_,List.getElem?_eq_getElem (by omega)⟩
  obtain ⟨pby,poy,hay,hry⟩:=h1.elt 0 y hyi
  obtain ⟨k2,rfl⟩:∃k2,ke=k2+1:=by
    cases ke with
    | zero=>exact hry.elim
    | succ k2=>exact ⟨k2,rfl⟩
  obtain ⟨ya,yc,hrowy,hsuby⟩:=hry
  have hN2:=hN k2
  have hoy:=hok.parts.1.at_ hyi
  have hw1:=wNd_one hyi
  have hgl:=nodeG_len y t.g
  have hh1:=hgl.hi
  have hh2:=hgl.fhi
  have hh3:=hgl.lo
  refine Cr (V0 (Ym O) (V0 (Yf fo191_4 O) (V0 (Yd 0 O O O na189) ?_)))
  refine V0 (Yo (i:=0) es189 O O hay (by omega)) ?_
  refine V0 (yl_lda 0 ag238 O O O (hrowy)) (Lf 3 O (Lf 3 O (Lf 3 O ?_)))
  refine Lw (ι:=SP×SP) [_,_,_] _ Y O en130 O O (fun _=>.tuple #[]) (fun q=>(gown 123 67 70 sb K ⟨nodeG y t.g,q.1,q.2⟩)) (fun _=>True) [H] (by simp) (fun w hw=>(hN2 y ya yc t w hsuby hoy (by show (t.g).code.length+8*wNd y≤_; (try simp only [gsL9]); omega) (by show (t.g).fix.length+8*wNd y≤_; (try simp only [gsL9]); omega) hw).mono fun e w' ⟨q,h1,h2⟩=>⟨q,h1,trivial,h2⟩) ?_
  intro q138 _
  refine Ln (Et (Cr (V0 (Ym O) (V0 (Yb zr67 pl67 O O) ?_))))
  refine Lb Y O el23 O O O O fun b141=>?_
  refine WL.blksl (rd:=rdIG) (f:=InsG.cells) (k:=3) (m:=1) 0 [⟨15,0,0⟩] O O InsG.cells_len (fun _ _ _ _ h=>h) (by simp) (by decide) fun H141 hH141=>?_
  refine Lf 2 O (Lf 2 O (Lf 2 O ?_))
  refine Lw (ι:=SP) [_,_,_] _ Y O en87 O O (fun _=>.tuple #[]) (fun q=>(gown 123 67 70 sb K ⟨putG [⟨15,0,0⟩] (⟨(nodeG y t.g),q138.1,q138.2⟩:GsA).g,q,(⟨(nodeG y t.g),q138.1,q138.2⟩:GsA).fa⟩)) (fun _=>True) [H141] (by simp) (fun w hw=>(sput_any sb K (⟨(nodeG y t.g),q138.1,q138.2⟩:GsA) H141 (some ⟨b141,0,none⟩) 1 [⟨15,0,0⟩] w hH141 (by show ((nodeG y t.g)).code.length+[⟨15,0,0⟩].length≤_; (try simp only [gsL9]); omega) hw).mono fun e w' ⟨q,h1,h2⟩=>⟨q,h1,trivial,h2⟩) ?_
  intro q142 _
  refine Ln (Eb ?_)
  refine E0 O fun w' hw=>?_
  have hr:actG x t.g=putG [⟨15,0,0⟩] (nodeG y t.g):=by
    rw [actG_eq,actGo,if_neg hn1,if_neg hn2,if_neg hn3,if_neg hn4,if_neg hn5,if_pos ho,kidG_at hyi]
  rw [hr]
  exact ⟨(q142,q138.2),O,Wv 1 (Wt 3 hw)⟩
 have hn6:¬x.op=6:=by simpa using hc7
 refine Cs (Cr (V0 (yl_eq O O) (V0 (Ya O) (Ln (Et ?_)))))
 refine Cc O (fun hc8=>?_) (fun hc8=>?_)
 ·
  have ho:x.op=7:=by simpa using hc8
  refine Cs ?_
  have hl1:=hok.parts.2.2.2.1 (by omega)
  obtain ⟨y,hyi⟩:∃y,x.args[0]? = some y:=⟨_,List.getElem?_eq_getElem (by omega)⟩
  obtain ⟨pby,poy,hay,hry⟩:=h1.elt 0 y hyi
  obtain ⟨k2,rfl⟩:∃k2,ke=k2+1:=by
    cases ke with
    | zero=>exact hry.elim
    | succ k2=>exact ⟨k2,rfl⟩
  obtain ⟨ya,yc,hrowy,hsuby⟩:=hry
  have hN2:=hN k2
  have hoy:=hok.parts.1.at_ hyi
  have hw1:=wNd_one hyi
  have hgl:=nodeG_len y t.g
  have hh1:=hgl.hi
  have hh2:=hgl.fhi
  have hh3:=hgl.lo
  refine Cr (V0 (Ym O) (V0 (Yf fo191_4 O) (V0 (Yd 0 O O O na189) ?_)))
  refine V0 (Yo (i:=0) es189 O O hay (by omega)) ?_
  refine V0 (yl_lda 0 ag238 O O O (hrowy)) (Lf 3 O (Lf 3 O (Lf 3 O ?_)))
  refine Lw (ι:=SP×SP) [_,_,_] _ Y O en130 O O (fun _=>.tuple #[]) (fun q=>(gown 123 67 70 sb K ⟨nodeG y t.g,q.1,q.2⟩)) (fun _=>True) [H] (by simp) (fun w hw=>(hN2 y ya yc t w hsuby hoy (by show (t.g).code.length+8*wNd y≤_; (try simp only [gsL9]); omega) (by show (t.g).fix.length+8*wNd y≤_; (try simp only [gsL9]); omega) hw).mono fun e w' ⟨q,h1,h2⟩=>⟨q,h1,trivial,h2⟩) ?_
  intro q150 _
  refine Ln (Et (Cr (V0 (Ym O) (V0 (Yb zr67 pl67 O O) ?_))))
  refine Lb Y O el23 O O O O fun b153=>?_
  refine WL.blksl (rd:=rdIG) (f:=InsG.cells) (k:=3) (m:=1) 0 [⟨19,0,0⟩] O O InsG.cells_len (fun _ _ _ _ h=>h) (by simp) (by decide) fun H153 hH153=>?_
  refine Lf 2 O (Lf 2 O (Lf 2 O ?_))
  refine Lw (ι:=SP) [_,_,_] _ Y O en87 O O (fun _=>.tuple #[]) (fun q=>(gown 123 67 70 sb K ⟨putG [⟨19,0,0⟩] (⟨(nodeG y t.g),q150.1,q150.2⟩:GsA).g,q,(⟨(nodeG y t.g),q150.1,q150.2⟩:GsA).fa⟩)) (fun _=>True) [H153] (by simp) (fun w hw=>(sput_any sb K (⟨(nodeG y t.g),q150.1,q150.2⟩:GsA) H153 (some ⟨b153,0,none⟩) 1 [⟨19,0,0⟩] w hH153 (by show ((nodeG y t.g)).code.length+[⟨19,0,0⟩].length≤_; (try simp only [gsL9]); omega) hw).mono fun e w' ⟨q,h1,h2⟩=>⟨q,h1,trivial,h2⟩) ?_
  intro q154 _
  refine Ln (Eb ?_)
  refine E0 O fun w' hw=>?_
  have hr:actG x t.g=putG [⟨19,0,0⟩] (nodeG y t.g):=by
    rw [actG_eq,actGo,if_neg hn1,if_neg hn2,if_neg hn3,if_neg hn4,if_neg hn5,if_neg hn6,if_pos ho,kidG_at hyi]
  rw [hr]
  exact ⟨(q154,q150.2),O,Wv 1 (Wt 3 hw)⟩
 exfalso
 have hn7:¬x.op=7:=by simpa using hc8
 have hop:=hok.parts.2.2.2.2.2
 omega
theorem sacts_any (sb:Nat) (K:ObjK) (t:GsA) (H:View) (ke k:Nat) (l:List TAct) (a:Option Addr) (c:Nat) (w:World) (hl:Sl (RdA ke k) 7 H a c l) (hok:ActsOk l) (hb:t.g.code.length+8*wAcs l≤1000000000000) (hfb:t.g.fix.length+8*wAcs l≤1000000000000) (hw:Ws w (List.flatMap Asr.ids (gown 123 67 70 sb K t)) (gown 123 67 70 sb K t) [H] w) :
   Calls Tryz.prog 88 #[.pointer (some ⟨sb,0,none⟩),.slice a l.length c] w fun e w'=>∃q:SP×SP,e = .returned (.tuple #[])∧Ws w (List.flatMap Asr.ids (gown 123 67 70 sb K t)) (gown 123 67 70 sb K ⟨actsG l t.g,q.1,q.2⟩) [H] w':=by
 induction k using Nat.strongRecOn generalizing l a c t w
 rename_i k ih
 have hcap:=hl.cap
 have hmax:=hl.max
 refine enter Tryz.func88 O 16 O O ?_
 refine CE hw ?_
 refine Cs (Cr (V0 (Ym O) (V0 (Yn es56 O) (V0 (Ym O) (Ln (Et (Cb ?_)))))))
 refine CLk (ι:=Nat×SP×SP) (fun g=>[(8,.int .i64 (g.1:Int))]) [(0,_),(6,_),(7,_)] (fun g=>Ws w (List.flatMap Asr.ids (gown 123 67 70 sb K t)) (gown 123 67 70 sb K ⟨actsG (l.take g.1) t.g,g.2.1,g.2.2⟩) [H]) (fun g=>g.1≤l.length) (fun g=>l.length-g.1) (0,t.ca,t.fa) (Nat.zero_le _) (sc O (sc O (sc O (sc O sn)))) (fun _ h=>h) ?_
 intro g hgi
 refine Cs (Cr (V0 (yl_lt O O) (Ln (Et (Cs ?_)))))
 refine Cc O (fun hc0=>?_) (fun hc0=>?_)
 ·
  have hlt:g.1<l.length:=by simpa using hc0
  obtain ⟨x,hxi⟩:∃q,l[g.1]? = some q:=⟨_,List.getElem?_eq_getElem hlt⟩
  obtain ⟨pbx,pox,hax,hrx⟩:=hl.elt g.1 x hxi
  obtain ⟨k2,rfl⟩:∃k2,k=k2+1:=by
    cases k with
    | zero=>exact hrx.elim
    | succ k2=>exact ⟨k2,rfl⟩
  obtain ⟨r,hrow,h1,h2,h3⟩:=hrx
  have hww:=wAc_mem hxi
  have hgl:=actsG_len (l.take g.1) t.g
  have hh1:=hgl.hi
  have hh2:=hgl.fhi
  have hA:GActs H sb K ke k2:=fun l a c t w h1 h2 h3 h4 h5=>ih k2 (by omega) t l a c w h1 h2 h3 h4 h5
  refine Ck (Et (Cs (Cb (Cs (Cr (V0 (Yo es56 O O hax hlt) (V0 (yl_lda 0 ag191 O O O (hrow)) ?_)))))))
  refine Al Y O zr191 fun b5=>?_
  refine Lst 0 Y O O O sz191 O O O (Ln (Et ?_))
  refine Crb 0 (.cells (actV x r).toArray 191 (0,0)) O O ?_
  refine Cr (V0 (Ym O) (V0 (Yda 0 O O ag191 O) (Lf 3 O (Lf 3 O (Lf 3 O ?_)))))
  refine Lw (ι:=SP×SP) [_,_,_] _ Y O en108 O O (fun _=>.tuple #[]) (fun q=>(gown 123 67 70 sb K ⟨actG x (actsG (l.take g.1) t.g),q.1,q.2⟩)) (fun _=>True) [H] (by simp) (fun w hw=>(sact_any sb K (⟨actsG (l.take g.1) t.g,g.2.1,g.2.2⟩:GsA) H ke k2 x r w hA h1 h2 h3 (hok.at_ hxi) (by show (actsG (l.take g.1) t.g).code.length+8*wAc x≤_; omega) (by show (actsG (l.take g.1) t.g).fix.length+8*wAc x≤_; omega) hw).mono fun e w' ⟨q,h1,h2⟩=>⟨q,h1,trivial,h2⟩) ?_
  intro q14 _
  refine Ln (Eb (Et (Cr ?_)))
  refine V0 (Yi O O O (by omega)) ?_
  refine V0 (Ym O) (Ln ?_)
  rw [←actsG_take hxi]
  exact Ea ((g.1+1,q14):Nat×SP×SP) (by show _-(g.1+1)<_; omega) (by show g.1+1≤_; omega) (sc O (sc O (sc O (sc O sn)))) (fun _ h=>(Wt 3 (((h.f 2 O).f 2 O).f 2 O):))
 have hge:g.1=l.length:=by simp at hc0; omega
 rw [hge,List.take_length]
 refine Ce (Ex (Ex (Ebh ?_)))
 refine E0 O fun w' hw=>?_
 exact ⟨g.2,O,hw⟩
theorem spart_any (sb:Nat) (K:ObjK) (t:GsA) (H:View) (ke k:Nat) (params locals:Int) (l:List TAct) (a:Option Addr) (c:Nat) (w:World) (hl:Sl (RdA ke k) 7 H a c l) (hok:ActsOk l) (hb:t.g.code.length+8*(1+wAcs l)≤1000000000000) (hfb:t.g.fix.length+8*(1+wAcs l)≤1000000000000) (hw:Ws w (List.flatMap Asr.ids (gown 123 67 70 sb K t)) (gown 123 67 70 sb K t) [H] w) :
   Calls Tryz.prog 67 #[.pointer (some ⟨sb,0,none⟩),.agg (partV ⟨params,locals,l⟩ (a,c)).toArray] w fun e w'=>∃q:SP×SP,e = .returned (.int .i64 (t.g.code.length:Int))∧Ws w (List.flatMap Asr.ids (gown 123 67 70 sb K t)) (gown 123 67 70 sb K ⟨partG params locals l t.g,q.1,q.2⟩) [H] w':=by
 have hgl:=actsG_len l (putG [⟨14,params,locals⟩] t.g)
 have hh1:=hgl.hi
 have hh2:=hgl.fhi
 simp only [gsL9] at hh1 hh2
 refine enter Tryz.func67 O 30 O O ?_
 refine CE hw ?_
 refine Cs (Cr ?_)
 refine WL.box Y O O fun b3=>?_
 refine V0 (Ya O) (Ln (Et (Cs (Cr (V0 (Ym O) (V0 (yl_nil O) (V0 (Yf fo123_0 O) (V0 (Yf fo27_3 O) ?_))))))))
 refine V0 (Yd 1 O O O na23) (V0 (Yn es23 O) (V0 (Ya O) (Ln (Et (Cs (Cr (V0 (Ym O) (V0 (Yf fo125_0 O) ?_))))))))
 refine V0 (Yd 0 O O O na3) (V0 (Yf fo125_1 O) (V0 (Yd 0 O O O na3) (V0 (Yb zr67 pl67 O O) ?_)))
 refine Lb Y O el23 O O O O fun b18=>?_
 refine WL.blksl (rd:=rdIG) (f:=InsG.cells) (k:=3) (m:=1) 0 [⟨14,params,locals⟩] O O InsG.cells_len (fun _ _ _ _ h=>h) (by simp) (by decide) fun H18 hH18=>?_
 refine Lf 3 O (Lf 3 O (Lf 3 O ?_))
 refine Lw (ι:=SP) [_,_,_] _ Y O en87 O O (fun _=>.tuple #[]) (fun q=>(gown 123 67 70 sb K ⟨putG [⟨14,params,locals⟩] t.g,q,t.fa⟩)) (fun _=>True) [H18] (by simp) (fun w hw=>(sput_any sb K t H18 (some ⟨b18,0,none⟩) 1 [⟨14,params,locals⟩] w hH18 (by show (t.g).code.length+[⟨14,params,locals⟩].length≤_; (try simp only [gsL9]); omega) hw).mono fun e w' ⟨q,h1,h2⟩=>⟨q,h1,trivial,h2⟩) ?_
 intro q19 _
 refine Ln (Et (Cs (Cr (V0 (Ym O) (V0 (Yf fo125_2 O) (V0 (Yd 3 O O O na56) (Lf 2 O (Lf 2 O ?_))))))))
 refine Lf 2 O ?_
 refine Lw (ι:=SP×SP) [_,_,_] _ Y O en88 O O (fun _=>.tuple #[]) (fun q=>(gown 123 67 70 sb K ⟨actsG l (putG [⟨14,params,locals⟩] t.g),q.1,q.2⟩)) (fun _=>True) [H] (by simp) (fun w hw=>((fun l a c t w h1 h2 h3 h4 h5=>sacts_any sb K t H ke k l a c w h1 h2 h3 h4 h5) l a c (⟨(putG [⟨14,params,locals⟩] t.g),q19,t.fa⟩:GsA) w hl hok (by show ((putG [⟨14,params,locals⟩] t.g)).code.length+8*wAcs l≤_; (try simp only [gsL9]); omega) (by show ((putG [⟨14,params,locals⟩] t.g)).fix.length+8*wAcs l≤_; (try simp only [gsL9]); omega) hw).mono fun e w' ⟨q,h1,h2⟩=>⟨q,h1,trivial,h2⟩) ?_
 intro q23 _
 refine Ln (Et (Cs (Cr (V0 (Ym O) (V0 (Yb zr67 pl67 O O) (V0 (Yb zr67 pl67 O O) ?_))))))
 refine Lb Y O el23 O O O O fun b27=>?_
 refine WL.blksl (rd:=rdIG) (f:=InsG.cells) (k:=3) (m:=2) 0 [⟨1,0,0⟩,⟨15,0,0⟩] O O InsG.cells_len (fun _ _ _ _ h=>h) (by simp) (by decide) fun H27 hH27=>?_
 refine Lf 2 O (Lf 2 O (Lf 2 O ?_))
 refine Lw (ι:=SP) [_,_,_] _ Y O en87 O O (fun _=>.tuple #[]) (fun q=>(gown 123 67 70 sb K ⟨putG [⟨1,0,0⟩,⟨15,0,0⟩] (⟨(actsG l (putG [⟨14,params,locals⟩] t.g)),q23.1,q23.2⟩:GsA).g,q,(⟨(actsG l (putG [⟨14,params,locals⟩] t.g)),q23.1,q23.2⟩:GsA).fa⟩)) (fun _=>True) [H27] (by simp) (fun w hw=>(sput_any sb K (⟨(actsG l (putG [⟨14,params,locals⟩] t.g)),q23.1,q23.2⟩:GsA) H27 (some ⟨b27,0,none⟩) 2 [⟨1,0,0⟩,⟨15,0,0⟩] w hH27 (by show ((actsG l (putG [⟨14,params,locals⟩] t.g))).code.length+[⟨1,0,0⟩,⟨15,0,0⟩].length≤_; (try simp only [gsL9]); omega) hw).mono fun e w' ⟨q,h1,h2⟩=>⟨q,h1,trivial,h2⟩) ?_
 intro q28 _
 refine Ln (Et (Cs (Cr (V0 (Ym O) (V0 (Ya O) (Ln (Et (Crt ?_))))))))
 refine R1 O O fun w' hw=>?_
 exact ⟨(q28,q23.2),O,Wv 2 (Wt 3 hw)⟩
def noXK:XK:=(noKn,(none,0))
theorem noKn_rows {H:View} {b n:Nat} (h:Sl rdXK 3 H (some ⟨b,0,none⟩) n (List.replicate n noXK)) {N:View} (hv:VLe H N):Sl rdKn 3 N (some ⟨b,0,none⟩) n (List.replicate n noKn):=by
 have h9:=slK_of h hv fun e he=>by
   have e1:e=noXK:=List.eq_of_mem_replicate he
   subst e1; exact Sl.nil
 rw [List.map_replicate] at h9
 exact h9
theorem valone_any (H:View) (ke k:Nat) (u:TUnit) (r:UAt) (w:World) (hH:Le H w) (hu:RdU ke k H r u) (hul:u.uses.length≤1048576) :
   Calls Tryz.prog 65 #[.agg (unitV u r).toArray] w fun e w'=>e = .returned (.bool (aloneB u))∧Ext w w':=by
 have hcap:=hu.uses.cap
 have hmax:=hu.uses.max
 refine enter Tryz.func65 O 9 O O ?_
 refine CE (Vs:=[H]) (Ws.init (by simp [hH])) ?_
 refine Cs (Cr ?_)
 refine WL.box Y O O fun b1=>?_
 refine V0 (Ya O) (Ln (Et (Cs ?_)))
 refine CU (fun _=>true) [] [] (.q true 0 (.q false 1 (.q true 2 (.q false 3 (.e 4 (.e 5 (.q false 6 .nil) .stop) .stop))))) mixed (by kernel_rfl) (fun _ _ _ d _ _ h=>by cases d<;>exact h) ?_
 refine U0 O (fun _ h=>h) (Yda 0 O O ag58 O) (U0 O (fun _ h=>h) (Yf fo58_1 O) (U0 O (fun _ h=>h) (Yd 0 O O O na22) (U0 O (fun _ h=>h) (Yn es22 O) ?_)))
 refine Ue O (fun _ h=>h) ?_ WU.stop
 refine WL.make Y O el150 O O (by omega) (by omega) (by omega) (by omega) fun b7=>?_
 refine Lrb 0 (.cells ((List.replicate u.uses.length noXK).flatMap XK.cells).toArray 152 (0,0)) O (by rw [←madeCells_flat (f:=XK.cells) (x:=noXK) (zs:=(Value.agg #[.bool false,.int .i64 0,.slice none 0 0]).cells) O (by decide)]; rfl) ?_
 refine WL.blksl (rd:=rdXK) (f:=XK.cells) (k:=3) (m:=u.uses.length) 0 (List.replicate u.uses.length noXK) O O XK.cells_len (fun _ _ _ _ h=>h) (by simp) (by omega) fun H7 hH7=>?_
 refine Ln (Eu ?_)
 refine Ue O (fun _ h=>(Wv 1 h:)) ?_ WU.stop
 refine Lp Y O en83 O (fun w hw=>by
   have hcc:=vfine_any H (hv w) ke k u r (List.replicate u.uses.length noKn) (some ⟨b7,0,none⟩) u.uses.length w (hw.vs H (by simp)) (hv_le w) hu (noKn_rows hH7 (hv_of (hw.vs H7 (by simp)))) (by simp; omega)
   rw [List.length_replicate] at hcc
   exact hcc) ?_
 refine Ln (Eu (U0 O (fun _ h=>(Wv 1 h:)) (Ya O) ?_))
 refine WU.nil (fun _ h=>(Wv 1 h:)) ?_
 refine WS.nil ?_
 refine Et (Crt ?_)
 refine R1 O O fun w' hw=>?_
 exact ⟨O,hw.fr⟩
theorem zr27:zeroOf Tryz.prog 27=some (.agg #[st [],.slice none 0 0,.int .i64 0,.slice none 0 0,.slice none 0 0,.slice none 0 0,.int .i64 0]):=by kernel_rfl
theorem en65:Enters Tryz.prog 65:=enters_of Tryz.func65 (by kernel_rfl) rfl
theorem pl27:placesP Tryz.prog 27=some [(0,1),(1,1),(2,1),(3,1),(4,1),(5,1),(6,1)]:=by kernel_rfl
theorem sz27:sizeP Tryz.prog 27=some 7:=by kernel_rfl
theorem ag27:aggOf Tryz.prog 27=some 7:=by kernel_rfl
theorem pl123:placesP Tryz.prog 123=some [(0,7)]:=by kernel_rfl
theorem zr123:zeroOf Tryz.prog 123=some (.agg #[st [],.slice none 0 0,.int .i64 0,.slice none 0 0,.slice none 0 0,.slice none 0 0,.int .i64 0]):=by kernel_rfl
theorem fo27_5:fieldOff Tryz.prog 27 5=some 5:=by kernel_rfl
theorem en67:Enters Tryz.prog 67:=enters_of Tryz.func67 (by kernel_rfl) rfl
theorem fo27_6:fieldOff Tryz.prog 27 6=some 6:=by kernel_rfl
theorem gen_any (H:View) (ke k:Nat) (u:TUnit) (r:UAt) (w:World) (hH:Le H w) (hu:RdU ke k H r u) (hub:wUn u≤1048576) :
   Calls Tryz.prog 25 #[.agg (unitV u r).toArray] w fun e w'=>∃q:OAt,e = .returned (.tuple #[.agg (objV (genM u).1 q).toArray,.int .i64 (genM u).2])∧Ext w w'∧RdOb (nv w w') q (genM u).1:=by
 have hcap:=hu.uses.cap
 have hmax:=hu.uses.max
 have hpcap:=hu.parts.cap
 have hpmax:=hu.parts.max
 have hwu:=wUn_eq u
 have hwn:=wN_len u.uses
 have hwp:=wPts_len u.parts
 refine enter Tryz.func25 O 64 O O ?_
 refine CE (Vs:=[H]) (Ws.init (by simp [hH])) ?_
 refine Cs (Cr ?_)
 refine WL.box Y O O fun b1=>?_
 refine Al Y O zr27 fun b2=>?_
 refine V0 (Ya O) (Ln (Et (Cs (Cs (Cr (V0 (Yda 1 O O ag58 O) ?_))))))
 refine Lp Y O en65 O (fun w hw=>valone_any H ke k u r w (hw.vs H (by simp)) hu (by omega)) ?_
 refine V0 (yl_not O) (Ln (Et ?_))
 refine Cc O (fun hc0=>?_) (fun hc0=>?_)
 ·
  have hx:aloneB u=false:=by simpa using hc0
  refine Cs (Cr (V0 (Yb zr27 pl27 O O) (Lst 0 Y O O O sz27 O O O (V0 (Ya O) (Ln (Et (Crt (Er ?_))))))))
  refine WE.retc2 0 O O O O ag27 O fun w' hw=>?_
  rw [show genM u=(noObj,1) from by rw [genM,if_pos hx]]
  exact ⟨noOAt,O,hw.fr,noObj_rd _⟩
 have hx:aloneB u=true:=by simpa using hc0
 obtain ⟨hop,hom⟩:=alone_parts hx
 refine Ck (Et (Cs ?_))
 refine CU (fun _=>true) [] [] (.q false 0 (.q true 1 (.q false 2 (.q true 3 (.q false 5 (.q true 6 (.e 4 (.q false 7 (.q false 8 (.e 9 (.q false 10 .nil) .stop))) .stop))))))) mixed (by kernel_rfl) (fun _ _ _ d _ _ h=>by cases d<;>exact h) ?_
 refine U0 O (fun _ h=>h) (Yf fo58_0 O) (U0 O (fun _ h=>h) (Yd 1 O O O na9) (U0 O (fun _ h=>h) (Yf fo58_1 O) (U0 O (fun _ h=>h) (Yd 1 O O O na22) (U0 O (fun _ h=>h) (Yf fo58_2 O) (U0 O (fun _ h=>h) (Yd 1 O O O na3) ?_)))))
 refine Ue O (fun _ h=>h) ?_ WU.stop
 refine Ld Y O en66 O (fun r:SP=>.slice r.1 u.uses.length r.2) (fun F r=>Sl rdStr 1 F r.1 r.2 u.uses) (fun w hw=>cloneS_any H r.s1.1 r.s1.2 u.uses w (hw.vs H (by simp)) hu.uses (by omega)) ?_
 intro F15 r15 hf15 h15
 refine Ln (Eu (U0 O (fun _ h=>(Wv 1 h:)) (Yb zr27 pl27 O O) (U0 O (fun _ h=>(Wv 1 h:)) (Yb zr123 pl123 O O) ?_)))
 refine Ue O (fun _ h=>(Wv 1 h:)) ?_ WU.stop
 refine WL.box Y O O fun b20=>?_
 obtain ⟨sb,hsb⟩:∃s,s=b20:=⟨_,rfl⟩
 subst hsb
 refine Lrb 0 (gob 123 (⟨u.nm,.slice r15.1 u.uses.length r15.2,u.data,.slice none 0 0,.int .i64 0⟩:ObjK) ⟨⟨[],[]⟩,(none,0),(none,0)⟩) O O ?_
 refine LW (fun _ h=>h.osl_nil 3 1) ?_
 refine LW (fun _ h=>h.osl_nil 70 3) ?_
 refine LW (fun _ h=>h.osl_nil 67 3) ?_
 refine Ln (Eu (U0 O (fun _ h=>(Wv 1 (Wd 4 h):)) (Ya O) ?_))
 refine WU.nil (fun _ h=>(Wv 1 (Wd 4 h):)) ?_
 refine WS.nil ?_
 refine Et (Cs (Cs (Cr (V0 (Yf fo58_3 O) (V0 (Yd 5 O O O na55) (V0 (Yn es55 O) (V0 (Ym O) (Ln (Et (Cb ?_))))))))))
 refine CLk (ι:=Nat×(SP×SP)×SP) (fun g=>[(24,.int .i64 (g.1:Int))]) [(1,_),(2,_),(3,_),(4,_),(22,_),(23,_)] (fun g=>Ws w [] ((gown 123 67 70 sb (⟨u.nm,.slice r15.1 u.uses.length r15.2,u.data,.slice g.2.2.1 (partsG (u.parts.take g.1) ⟨[],[]⟩).1.length g.2.2.2,.int .i64 0⟩:ObjK) ⟨(partsG (u.parts.take g.1) ⟨[],[]⟩).2,g.2.1.1,g.2.1.2⟩)++[osT 3 1 ntC g.2.2.1 g.2.2.2 (partsG (u.parts.take g.1) ⟨[],[]⟩).1,blk b2 (.cells (Value.cells (.agg #[st [],.slice none 0 0,.int .i64 0,.slice none 0 0,.slice none 0 0,.slice none 0 0,.int .i64 0])) 27 (0,0)),blk b1 (.cells (unitV u r).toArray 58 (0,0))]) [F15,H]) (fun g=>g.1≤u.parts.length) (fun g=>u.parts.length-g.1) (0,(((none,0),(none,0)),(none,0))) (Nat.zero_le _) (sc O (sc O (sc O (sc O (sc O (sc O (sc O sn))))))) (fun _ h=>by exact ((((((h.f 5 O).f 5 O).f 4 O).f 4 O).f 4 O).f 5 O:)) ?_
 intro g hgi
 refine Cs (Cr (V0 (yl_lt O O) (Ln (Et (Cs ?_)))))
 refine Cc O (fun hc1=>?_) (fun hc1=>?_)
 ·
  have hlt:g.1<u.parts.length:=by simpa using hc1
  obtain ⟨x,hxi⟩:∃q,u.parts[g.1]? = some q:=⟨_,List.getElem?_eq_getElem hlt⟩
  obtain ⟨pbx,pox,hax,hrx⟩:=hu.parts.elt g.1 x hxi
  obtain ⟨xr,hrow,hsub⟩:=hrx
  have hww:=wPts_mem hxi
  have hpl:=partsG_len (u.parts.take g.1) ⟨[],[]⟩
  have hh1:(partsG (u.parts.take g.1) ⟨[],[]⟩).2.code.length≤8*wPts (u.parts.take g.1):=by have h9:=hpl.1.hi; simpa using h9
  have hh2:(partsG (u.parts.take g.1) ⟨[],[]⟩).2.fix.length≤8*wPts (u.parts.take g.1):=by have h9:=hpl.1.fhi; simpa using h9
  have hel:(partsG (u.parts.take g.1) ⟨[],[]⟩).1.length=g.1:=by rw [hpl.2,List.length_take]; omega
  have hwx:wPt x=1+wAcs x.body:=rfl
  have hok:=hop x (List.mem_of_getElem? hxi)
  have hT:=partsG_take hxi ⟨[],[]⟩
  have hT1:(partsG (u.parts.take (g.1+1)) ⟨[],[]⟩).1=(partsG (u.parts.take g.1) ⟨[],[]⟩).1++[(partsG (u.parts.take g.1) ⟨[],[]⟩).2.code.length]:=by rw [hT]
  have hT2:(partsG (u.parts.take (g.1+1)) ⟨[],[]⟩).2=(partG x.params x.locals x.body (partsG (u.parts.take g.1) ⟨[],[]⟩).2):=by rw [hT]
  refine Ck (Et (Cs (Cb (Cs (Cr (V0 (Yo es55 O O hax hlt) (V0 (yl_lda 1 ag125 O O O (hrow)) ?_)))))))
  refine Al Y O zr125 fun b6=>?_
  refine Lst 0 Y O O O sz125 O O O (Ln (Et ?_))
  refine Crb 0 (.cells (partV x xr).toArray 125 (0,0)) O O ?_
  refine CU (fun _=>true) [1,1,1,1] [14] (.q false 0 (.q false 1 (.q false 2 (.q false 3 (.q false 4 (.q false 6 (.q true 7 (.e 5 (.e 8 (.e 9 (.e 10 (.q false 11 (.q false 12 (.q false 13 .nil))) .stop) .stop) .stop) (.e 8 (.e 5 (.e 9 (.e 10 (.q false 11 (.q false 12 (.q false 13 .nil))) .stop) .stop) (.e 9 (.e 5 (.e 10 (.q false 11 (.q false 12 (.q false 13 .nil))) .stop) .stop) .stop)) .stop))))))))) mixed (by kernel_rfl) (fun _ _ _ d _ _ h=>by cases d<;>exact h) ?_
  refine U0 O (Wos [1,1,1,1]) (Ym O) (U0 O (Wos [1,1,1,1]) (Ym O) (U0 O (Wos [1,1,1,1]) (yl_nil O) (U0 O (Wos [1,1,1,1]) (Yf fo123_0 O) (U0 O (Wos [1,1,1,1]) (Yf fo27_5 O) (U0 O (Wos [1,1,1,1]) (Ym O) ?_)))))
  refine U0 O (Wos [1,1,1,1]) (Yda 0 O O ag125 O) ?_
  refine Ue O (Wos [1,1,1,1]) ?_ ?_
  ·
   refine V0 (Yd 1 O O O na25) (Ln (Eu ?_))
   refine Ue O (Wos [1,1,1,1]) ?_ WU.stop
   refine Lf 3 O (Lf 3 O (Lf 3 O ?_))
   refine Lw (ι:=SP×SP) [_,_,_] _ Y O en67 O O (fun _=>.int .i64 (((partsG (u.parts.take g.1) ⟨[],[]⟩).2).code.length:Int)) (fun q=>(gown 123 67 70 sb (⟨u.nm,.slice r15.1 u.uses.length r15.2,u.data,.slice g.2.2.1 (partsG (u.parts.take g.1) ⟨[],[]⟩).1.length g.2.2.2,.int .i64 0⟩:ObjK) ⟨(partG x.params x.locals x.body (partsG (u.parts.take g.1) ⟨[],[]⟩).2),q.1,q.2⟩)) (fun _=>True) [H] (by simp) (fun w hw=>(spart_any sb (⟨u.nm,.slice r15.1 u.uses.length r15.2,u.data,.slice g.2.2.1 (partsG (u.parts.take g.1) ⟨[],[]⟩).1.length g.2.2.2,.int .i64 0⟩:ObjK) (⟨(partsG (u.parts.take g.1) ⟨[],[]⟩).2,g.2.1.1,g.2.1.2⟩:GsA) H ke k x.params x.locals x.body xr.1 xr.2 w hsub hok (by show ((partsG (u.parts.take g.1) ⟨[],[]⟩).2).code.length+8*(1+wAcs x.body)≤_; omega) (by show ((partsG (u.parts.take g.1) ⟨[],[]⟩).2).fix.length+8*(1+wAcs x.body)≤_; omega) hw).mono fun e w' ⟨q,h1,h2⟩=>⟨q,h1,trivial,h2⟩) ?_
   intro q36 _
   refine Ln (Eu ?_)
   refine Ue O (fun _ h=>by exact (Wo 1 (Wo 1 (Wo 1 (Wo 1 (((((((h.f 6 O).f 6 O).f 6 O).f 5 O).f 5 O).f 5 O).f 6 O)))):)) ?_ WU.stop
   refine Lb Y O el25 O O O O fun b37=>?_
   refine Lrb 0 (.cells (ntC (partsG (u.parts.take g.1) ⟨[],[]⟩).2.code.length).toArray 3 (0,0)) O (O) ?_
   refine Ln (Eu ?_)
   refine Ue O (fun _ h=>by exact (Wo 1 (Wo 1 (Wo 1 (Wo 1 (Wt 7 (((((((h.f 7 O).f 7 O).f 7 O).f 6 O).f 6 O).f 6 O).f 7 O))))):)) ?_ WU.stop
   refine LA ((partsG (u.parts.take g.1) ⟨[],[]⟩).2.code.length) 5 0 Y O el25 O O O O O O (by omega) (by omega) fun a38 c38=>?_
   refine Ln (Eu ?_)
   refine U0 O (fun _ h=>by exact (Wo 1 (Wo 1 (Wo 1 (Wo 1 (Wt 7 (((((((h.f 7 O).f 7 O).f 7 O).f 6 O).f 6 O).f 6 O).f 7 O))))):)) (yl_nil O) ?_
   refine U0 O (fun _ h=>by exact (Wo 1 (Wo 1 (Wo 1 (Wo 1 (Wt 7 (((((((h.f 7 O).f 7 O).f 7 O).f 6 O).f 6 O).f 6 O).f 7 O))))):)) (Yf fo123_0 O) ?_
   refine U0 O (fun _ h=>by exact (Wo 1 (Wo 1 (Wo 1 (Wo 1 (Wt 7 (((((((h.f 7 O).f 7 O).f 7 O).f 6 O).f 6 O).f 6 O).f 7 O))))):)) (Yf fo27_5 O) ?_
   refine WU.nil (fun _ h=>by exact (Wo 1 (Wo 1 (Wo 1 (Wo 1 (Wt 7 (((((((h.f 7 O).f 7 O).f 7 O).f 6 O).f 6 O).f 6 O).f 7 O))))):)) ?_
   refine WS.e O ?_
   refine Lst 1 Y O O O sz25 O O O (Ln (Es ?_))
   refine WS.nil ?_
   refine Eb (Et (Cr ?_))
   refine V0 (Yi O O O (by omega)) ?_
   refine V0 (Ym O) (Ln ?_)
   rw [←hT1,←hT2]
   refine WE.reblk 1 (gob 123 (⟨u.nm,.slice r15.1 u.uses.length r15.2,u.data,.slice a38 (partsG (u.parts.take (g.1+1)) ⟨[],[]⟩).1.length c38,.int .i64 0⟩:ObjK) ⟨(partsG (u.parts.take (g.1+1)) ⟨[],[]⟩).2,q36.1,q36.2⟩) O O ?_
   exact Ea ((g.1+1,(q36,(a38,c38))):Nat×(SP×SP)×SP) (by show _-(g.1+1)<_; omega) (by show g.1+1≤_; omega) (sc O (sc O (sc O (sc O (sc O (sc O (sc O sn))))))) (fun _ h=>by exact (Wt 6 ((((((h.f 7 O).f 7 O).f 7 O).f 6 O).f 6 O).f 6 O):))
  refine Ue O (Wos [1,1,1,1]) ?_ WU.stop
  refine Lf 3 O (Lf 3 O (Lf 3 O ?_))
  refine Lw (ι:=SP×SP) [_,_,_] _ Y O en67 O O (fun _=>.int .i64 (((partsG (u.parts.take g.1) ⟨[],[]⟩).2).code.length:Int)) (fun q=>(gown 123 67 70 sb (⟨u.nm,.slice r15.1 u.uses.length r15.2,u.data,.slice g.2.2.1 (partsG (u.parts.take g.1) ⟨[],[]⟩).1.length g.2.2.2,.int .i64 0⟩:ObjK) ⟨(partG x.params x.locals x.body (partsG (u.parts.take g.1) ⟨[],[]⟩).2),q.1,q.2⟩)) (fun _=>True) [H] (by simp) (fun w hw=>(spart_any sb (⟨u.nm,.slice r15.1 u.uses.length r15.2,u.data,.slice g.2.2.1 (partsG (u.parts.take g.1) ⟨[],[]⟩).1.length g.2.2.2,.int .i64 0⟩:ObjK) (⟨(partsG (u.parts.take g.1) ⟨[],[]⟩).2,g.2.1.1,g.2.1.2⟩:GsA) H ke k x.params x.locals x.body xr.1 xr.2 w hsub hok (by show ((partsG (u.parts.take g.1) ⟨[],[]⟩).2).code.length+8*(1+wAcs x.body)≤_; omega) (by show ((partsG (u.parts.take g.1) ⟨[],[]⟩).2).fix.length+8*(1+wAcs x.body)≤_; omega) hw).mono fun e w' ⟨q,h1,h2⟩=>⟨q,h1,trivial,h2⟩) ?_
  intro q36 _
  refine Ln (Eu ?_)
  refine Ue O (fun _ h=>by exact (Wo 1 (Wo 1 (Wo 1 (Wo 1 (((((((h.f 6 O).f 6 O).f 6 O).f 5 O).f 5 O).f 5 O).f 6 O)))):)) ?_ ?_
  ·
   refine V0 (Yd 0 O O O na25) (Ln (Eu ?_))
   refine Ue O (fun _ h=>by exact (Wo 1 (Wo 1 (Wo 1 (Wo 1 (((((((h.f 6 O).f 6 O).f 6 O).f 5 O).f 5 O).f 5 O).f 6 O)))):)) ?_ WU.stop
   refine Lb Y O el25 O O O O fun b37=>?_
   refine Lrb 0 (.cells (ntC (partsG (u.parts.take g.1) ⟨[],[]⟩).2.code.length).toArray 3 (0,0)) O (O) ?_
   refine Ln (Eu ?_)
   refine Ue O (fun _ h=>by exact (Wo 1 (Wo 1 (Wo 1 (Wo 1 (Wt 7 (((((((h.f 7 O).f 7 O).f 7 O).f 6 O).f 6 O).f 6 O).f 7 O))))):)) ?_ WU.stop
   refine LA ((partsG (u.parts.take g.1) ⟨[],[]⟩).2.code.length) 5 0 Y O el25 O O O O O O (by omega) (by omega) fun a38 c38=>?_
   refine Ln (Eu ?_)
   refine U0 O (fun _ h=>by exact (Wo 1 (Wo 1 (Wo 1 (Wo 1 (Wt 7 (((((((h.f 7 O).f 7 O).f 7 O).f 6 O).f 6 O).f 6 O).f 7 O))))):)) (yl_nil O) ?_
   refine U0 O (fun _ h=>by exact (Wo 1 (Wo 1 (Wo 1 (Wo 1 (Wt 7 (((((((h.f 7 O).f 7 O).f 7 O).f 6 O).f 6 O).f 6 O).f 7 O))))):)) (Yf fo123_0 O) ?_
   refine U0 O (fun _ h=>by exact (Wo 1 (Wo 1 (Wo 1 (Wo 1 (Wt 7 (((((((h.f 7 O).f 7 O).f 7 O).f 6 O).f 6 O).f 6 O).f 7 O))))):)) (Yf fo27_5 O) ?_
   refine WU.nil (fun _ h=>by exact (Wo 1 (Wo 1 (Wo 1 (Wo 1 (Wt 7 (((((((h.f 7 O).f 7 O).f 7 O).f 6 O).f 6 O).f 6 O).f 7 O))))):)) ?_
   refine WS.e O ?_
   refine Lst 1 Y O O O sz25 O O O (Ln (Es ?_))
   refine WS.nil ?_
   refine Eb (Et (Cr ?_))
   refine V0 (Yi O O O (by omega)) ?_
   refine V0 (Ym O) (Ln ?_)
   rw [←hT1,←hT2]
   refine WE.reblk 1 (gob 123 (⟨u.nm,.slice r15.1 u.uses.length r15.2,u.data,.slice a38 (partsG (u.parts.take (g.1+1)) ⟨[],[]⟩).1.length c38,.int .i64 0⟩:ObjK) ⟨(partsG (u.parts.take (g.1+1)) ⟨[],[]⟩).2,q36.1,q36.2⟩) O O ?_
   exact Ea ((g.1+1,(q36,(a38,c38))):Nat×(SP×SP)×SP) (by show _-(g.1+1)<_; omega) (by show g.1+1≤_; omega) (sc O (sc O (sc O (sc O (sc O (sc O (sc O sn))))))) (fun _ h=>by exact (Wt 6 ((((((h.f 7 O).f 7 O).f 7 O).f 6 O).f 6 O).f 6 O):))
  refine Ue O (fun _ h=>by exact (Wo 1 (Wo 1 (Wo 1 (Wo 1 (((((((h.f 6 O).f 6 O).f 6 O).f 5 O).f 5 O).f 5 O).f 6 O)))):)) ?_ WU.stop
  refine Lb Y O el25 O O O O fun b37=>?_
  refine Lrb 0 (.cells (ntC (partsG (u.parts.take g.1) ⟨[],[]⟩).2.code.length).toArray 3 (0,0)) O (O) ?_
  refine Ln (Eu ?_)
  refine Ue O (fun _ h=>by exact (Wo 1 (Wo 1 (Wo 1 (Wo 1 (Wt 7 (((((((h.f 7 O).f 7 O).f 7 O).f 6 O).f 6 O).f 6 O).f 7 O))))):)) ?_ WU.stop
  refine V0 (Yd 1 O O O na25) (Ln (Eu ?_))
  refine Ue O (fun _ h=>by exact (Wo 1 (Wo 1 (Wo 1 (Wo 1 (Wt 7 (((((((h.f 7 O).f 7 O).f 7 O).f 6 O).f 6 O).f 6 O).f 7 O))))):)) ?_ WU.stop
  refine LA ((partsG (u.parts.take g.1) ⟨[],[]⟩).2.code.length) 5 0 Y O el25 O O O O O O (by omega) (by omega) fun a38 c38=>?_
  refine Ln (Eu ?_)
  refine U0 O (fun _ h=>by exact (Wo 1 (Wo 1 (Wo 1 (Wo 1 (Wt 7 (((((((h.f 7 O).f 7 O).f 7 O).f 6 O).f 6 O).f 6 O).f 7 O))))):)) (yl_nil O) ?_
  refine U0 O (fun _ h=>by exact (Wo 1 (Wo 1 (Wo 1 (Wo 1 (Wt 7 (((((((h.f 7 O).f 7 O).f 7 O).f 6 O).f 6 O).f 6 O).f 7 O))))):)) (Yf fo123_0 O) ?_
  refine U0 O (fun _ h=>by exact (Wo 1 (Wo 1 (Wo 1 (Wo 1 (Wt 7 (((((((h.f 7 O).f 7 O).f 7 O).f 6 O).f 6 O).f 6 O).f 7 O))))):)) (Yf fo27_5 O) ?_
  refine WU.nil (fun _ h=>by exact (Wo 1 (Wo 1 (Wo 1 (Wo 1 (Wt 7 (((((((h.f 7 O).f 7 O).f 7 O).f 6 O).f 6 O).f 6 O).f 7 O))))):)) ?_
  refine WS.e O ?_
  refine Lst 1 Y O O O sz25 O O O (Ln (Es ?_))
  refine WS.nil ?_
  refine Eb (Et (Cr ?_))
  refine V0 (Yi O O O (by omega)) ?_
  refine V0 (Ym O) (Ln ?_)
  rw [←hT1,←hT2]
  refine WE.reblk 1 (gob 123 (⟨u.nm,.slice r15.1 u.uses.length r15.2,u.data,.slice a38 (partsG (u.parts.take (g.1+1)) ⟨[],[]⟩).1.length c38,.int .i64 0⟩:ObjK) ⟨(partsG (u.parts.take (g.1+1)) ⟨[],[]⟩).2,q36.1,q36.2⟩) O O ?_
  exact Ea ((g.1+1,(q36,(a38,c38))):Nat×(SP×SP)×SP) (by show _-(g.1+1)<_; omega) (by show g.1+1≤_; omega) (sc O (sc O (sc O (sc O (sc O (sc O (sc O sn))))))) (fun _ h=>by exact (Wt 6 ((((((h.f 7 O).f 7 O).f 7 O).f 6 O).f 6 O).f 6 O):))
 have hge:g.1=u.parts.length:=by simp at hc1; omega
 rw [hge,List.take_length]
 have hpl:=partsG_len u.parts ⟨[],[]⟩
 have hh1:(partsG u.parts ⟨[],[]⟩).2.code.length≤8*wPts u.parts:=by have h9:=hpl.1.hi; simpa using h9
 have hh2:(partsG u.parts ⟨[],[]⟩).2.fix.length≤8*wPts u.parts:=by have h9:=hpl.1.fhi; simpa using h9
 refine Ce (Ex (Ex (Ebh (Et (Cs (Cr (V0 (Ym O) (V0 (Ym O) (V0 (Yf fo58_4 O) (V0 (Yd 5 O O O na56) ?_))))))))))
 refine V0 (Yb zr125 pl125 O O) (Lf 2 O (Lf 2 O (Lf 2 O ?_)))
 refine Lw (ι:=SP×SP) [_,_,_] _ Y O en67 O O (fun _=>.int .i64 (((partsG u.parts ⟨[],[]⟩).2).code.length:Int)) (fun q=>(gown 123 67 70 sb (⟨u.nm,.slice r15.1 u.uses.length r15.2,u.data,.slice g.2.2.1 (partsG u.parts ⟨[],[]⟩).1.length g.2.2.2,.int .i64 0⟩:ObjK) ⟨(partG 0 0 u.main (partsG u.parts ⟨[],[]⟩).2),q.1,q.2⟩)) (fun _=>True) [H] (by simp) (fun w hw=>(spart_any sb (⟨u.nm,.slice r15.1 u.uses.length r15.2,u.data,.slice g.2.2.1 (partsG u.parts ⟨[],[]⟩).1.length g.2.2.2,.int .i64 0⟩:ObjK) (⟨(partsG u.parts ⟨[],[]⟩).2,g.2.1.1,g.2.1.2⟩:GsA) H ke k 0 0 u.main r.s3.1 r.s3.2 w hu.main hom (by show ((partsG u.parts ⟨[],[]⟩).2).code.length+8*(1+wAcs u.main)≤_; omega) (by show ((partsG u.parts ⟨[],[]⟩).2).fix.length+8*(1+wAcs u.main)≤_; omega) hw).mono fun e w' ⟨q,h1,h2⟩=>⟨q,h1,trivial,h2⟩) ?_
 intro q48 _
 refine V0 (yl_nil O) (V0 (Yf fo123_0 O) (V0 (Yf fo27_6 O) (Lst 0 Y O O O sz3 O O O (Ln (Et (Cs (Cs ?_)))))))
 refine Crb 0 (gob 123 (⟨u.nm,.slice r15.1 u.uses.length r15.2,u.data,.slice g.2.2.1 (partsG u.parts ⟨[],[]⟩).1.length g.2.2.2,.int .i64 ((partsG u.parts ⟨[],[]⟩).2.code.length:Int)⟩:ObjK) ⟨(partG 0 0 u.main (partsG u.parts ⟨[],[]⟩).2),q48.1,q48.2⟩) O O ?_
 refine Cr (V0 (Ym O) (V0 (yl_nil O) (V0 (Yf fo123_0 O) (V0 (Yf fo27_3 O) (V0 (Yd 0 O O O na23) ?_)))))
 refine V0 (Yn es23 O) (V0 (yl_gt O O) (Ln (Et ?_)))
 refine Cc O (fun hc2=>?_) (fun hc2=>?_)
 ·
  have hlen:2048<(unitG u).g.code.length:=by
    have h9:=hc2
    simp at h9
    show 2048<((partG 0 0 u.main (partsG u.parts ⟨[],[]⟩).2)).code.length
    omega
  refine Cs (Cr (V0 (Yb zr27 pl27 O O) (Lst 4 Y O O O sz27 O O O (V0 (Ya O) (Ln (Et (Crt (Er ?_))))))))
  refine WE.retc2 4 O O O O ag27 O fun w' hw=>?_
  rw [show genM u=(noObj,2) from by rw [genM,if_neg (by rw [hx]; decide),if_pos hlen]]
  exact ⟨noOAt,O,hw.fr,noObj_rd _⟩
 have hlen:¬2048<(unitG u).g.code.length:=by
   have h9:=hc2
   simp at h9
   show ¬2048<((partG 0 0 u.main (partsG u.parts ⟨[],[]⟩).2)).code.length
   omega
 refine Ck (Et (Cs (Cr (V0 (Ym O) (V0 (yl_nil O) (V0 (Yf fo123_0 O) (V0 (Yda 0 O O ag27 O) (Lst 4 Y O O O sz27 O O O ?_))))))))
 refine V0 (Ya O) (Ln (Et (Crt ?_)))
 refine WE.retc2 4 O O O O ag27 O fun w' hw=>?_
 rw [show genM u=(unitG u,0) from by rw [genM,if_neg (by rw [hx]; decide),if_neg hlen]]
 exact ⟨⟨r15,q48.1,q48.2,g.2.2⟩,O,hw.fr,h15.imp (fun _ _ _ h=>RdC.mono (nv_vs hw (by simp) hf15) h),hw.slT 1 O InsG.cells_len (fun _ _ _ _ h=>h),hw.slT 2 O FixE.cells_len (fun _ _ _ _ h=>h),hw.slT 3 O ntC_len (fun _ _ _ _ h=>h)⟩
def rdU2 (ke k:Nat) (H:View) (b o:Nat) (u:TUnit):Prop:=∃r:UAt,RdC H b o (unitV u r)∧RdU ke k H r u
structure PlOk (us:List TUnit) (nu:Nat) (al:Bool) (kn:List KnW):Prop where
 len:kn.length=nu+1
 far:al=true→∀mi,0<mi→mi≤nu→kn[mi]? = some noKn
 near:∀mi,mi≤nu→(al=true→mi=0)→∃u,us[mi]? = some u∧kn[mi]? = some (knM u)
abbrev XU:=TUnit×UAt
def XU.cells (e:XU):List Value:=unitV e.1 e.2
theorem XU.cells_len (e:XU):(XU.cells e).length=5:=rfl
theorem XU.one (e:XU):(XU.cells e).all (·.oneCell')=true:=rfl
def rdXU (H:View) (b o:Nat) (e:XU):Prop:=RdC H b o (XU.cells e)
theorem slU_of {ke k:Nat} {K N:View} {a:Option Addr} {c:Nat} {es:List XU} (h:Sl rdXU 5 K a c es) (hv:VLe K N) (he:∀e ∈ es,RdU ke k N e.2 e.1):Sl (rdU2 ke k) 5 N a c (es.map (·.1)):=by
 refine ⟨by rw [List.length_map]; exact h.cap,h.max,h.spot,fun i x hx=>?_⟩
 rw [List.getElem?_map] at hx
 obtain ⟨y,hy,rfl⟩:=Option.map_eq_some_iff.1 hx
 obtain ⟨b,o,ha,hr⟩:=h.elt i y hy
 exact ⟨b,o,ha,y.2,RdC.mono hv hr,he y (List.mem_of_getElem? hy)⟩
abbrev progU:List TUnit:=[(resolveM cntM []).1,(resolveM topM fsC).1]
theorem fl67:flatSt Tryz.prog 67=some [0,0,0]:=by kernel_rfl
theorem fl70:flatSt Tryz.prog 70=some [0,0,0]:=by kernel_rfl
theorem fo27_0:fieldOff Tryz.prog 27 0=some 0:=by kernel_rfl
theorem fo27_1:fieldOff Tryz.prog 27 1=some 1:=by kernel_rfl
theorem en51:Enters Tryz.prog 51:=enters_of Tryz.func51 (by kernel_rfl) rfl
theorem fo27_2:fieldOff Tryz.prog 27 2=some 2:=by kernel_rfl
theorem en52:Enters Tryz.prog 52:=enters_of Tryz.func52 (by kernel_rfl) rfl
theorem es24:elemSz Tryz.prog 24=some 3:=by kernel_rfl
theorem en53:Enters Tryz.prog 53:=enters_of Tryz.func53 (by kernel_rfl) rfl
theorem ag70:aggOf Tryz.prog 70=some 3:=by kernel_rfl
theorem en101:Enters Tryz.prog 101:=enters_of Tryz.func101 (by kernel_rfl) rfl
theorem en100:Enters Tryz.prog 100:=enters_of Tryz.func100 (by kernel_rfl) rfl
theorem en103:Enters Tryz.prog 103:=enters_of Tryz.func103 (by kernel_rfl) rfl
theorem en102:Enters Tryz.prog 102:=enters_of Tryz.func102 (by kernel_rfl) rfl
theorem en104:Enters Tryz.prog 104:=enters_of Tryz.func104 (by kernel_rfl) rfl
theorem el182:EltOk Tryz.prog 182 180 (.agg #[st [],.slice none 0 0]) 2 40:=eltOk_of (by kernel_rfl)
theorem el49:EltOk Tryz.prog 49 58 (.agg #[st [],.slice none 0 0,.int .i64 0,.slice none 0 0,.slice none 0 0]) 5 96:=eltOk_of (by kernel_rfl)
theorem sameCode_eqG (H1 H2:View) (a1 a2:Option Addr) (c1 c2:Nat) (l:List InsG) (w:World) (hH1:Le H1 w) (hH2:Le H2 w) (hm1:Sl rdIG 3 H1 a1 c1 l) (hm2:Sl rdIG 3 H2 a2 c2 l) :
   Calls Tryz.prog 52 #[.slice a1 l.length c1,.slice a2 l.length c2] w fun e w'=>e = .returned (.bool true)∧Ext w w':=by
 have hcap1:=hm1.cap
 have hmax1:=hm1.max
 have hcap2:=hm2.cap
 have hmax2:=hm2.max
 refine enter Tryz.func52 O 26 O O ?_
 refine CE (Vs:=[H1,H2]) (Ws.init (by simp [hH1,hH2])) ?_
 refine Cs (Cr (V0 (Ya O) (Ln (Et (Cs (Cs (Cr (V0 (Ym O) (V0 (Yn es23 O) (V0 (Ym O) ?_))))))))))
 refine V0 (Yn es23 O) (V0 (yl_neY O O O) (Ln (Et ?_)))
 refine WC.condf O ?_
 refine Ck (Et (Cs (Cs (Cr (V0 (Ya O) (Ln (Et (Cb ?_))))))))
 refine CW (ι:=Nat) (fun i=>[(5,.int .i64 (i:Int))]) [(0,_),(1,_)] (fun i=>i≤l.length) (fun i=>l.length-i) 0 (Nat.zero_le _) (sc O (sc O (sc O sn))) ?_
 intro i hi
 refine Cs (Cs (Cr (V0 (Ym O) (V0 (Ym O) (V0 (Yn es23 O) (V0 (yl_lt O O) (Ln (Et ?_))))))))
 refine Cc O (fun hc1=>?_) (fun hc1=>?_)
 ·
  have hlt:i<l.length:=by simpa using hc1
  obtain ⟨x,hx⟩:∃x,l[i]? = some x:=⟨_,List.getElem?_eq_getElem hlt⟩
  obtain ⟨pb,po,ha1,hr1⟩:=hm1.elt i x hx
  obtain ⟨qb,qo,ha2,hr2⟩:=hm2.elt i x hx
  have hr1:RdC H1 pb (po+i*3) x.cells:=hr1
  have hr2:RdC H2 qb (qo+i*3) x.cells:=hr2
  refine Ck (Et (Cs (Cb (Cs ?_))))
  refine WC.draws0 [(0,true),(1,true),(2,true),(3,true),(4,true),(5,true),(6,true),(7,true),(8,true)] mixed (by kernel_rfl) (fun _ _ _ d _ h=>by cases d<;>exact h) ?_
  refine D0 O (fun _ h=>h) (Ym O) (D0 O (fun _ h=>h) (Ym O) ?_)
  refine D0 O (fun _ h=>h) (Yo es23 O O ha1 (by omega)) ?_
  refine D0 O (fun _ h=>h) (yl_lda 0 ag67 O O O (hr1)) (D0 O (fun _ h=>h) (Ym O) (D0 O (fun _ h=>h) (Ym O) ?_))
  refine D0 O (fun _ h=>h) (Yo es23 O O ha2 (by omega)) ?_
  refine D0 O (fun _ h=>h) (yl_lda 1 ag67 O O O (hr2)) (D0 O (fun _ h=>h) (yl_nestY fl67 O O O O) ?_)
  refine WD.nil (fun _ h=>h) ?_
  refine Et ?_
  refine WC.condf O ?_
  refine Ck (Eb (Et (Cr (V0 (Ym O) ?_))))
  refine V0 (Yi O O O (by omega)) ?_
  refine V0 (Ya O) (Ln ?_)
  exact Ea (i+1) (by omega) (by omega) (sc O (sc O (sc O sn))) (fun _ h=>h)
 refine Ce (Ex (Ex (Ebh (Et (Cs (Cr (V0 (Ya O) (Ln (Et (Crt ?_))))))))))
 refine R1 O O fun w' hw=>?_
 exact ⟨O,hw.fr⟩
theorem program_any (G:View) (w:World) (hG:Le G w) (hz:Laid G) :
   Calls Tryz.prog 71 #[] w fun e w'=>∃q:SP,e = .returned (.slice q.1 2 q.2)∧Ext w w'∧Sl (rdU2 8 7) 5 (nv w w') q.1 q.2 progU:=by
 refine enter Tryz.func71 O 27 O O ?_
 refine CE (Vs:=[G]) (Ws.init (by simp [hG])) ?_
 refine Cs (Cr (V0 (Ya O) (Ln (Et (Cs (Cr ?_))))))
 refine Ld Y O en101 O (fun r:MAt=>.agg (modV cntM r).toArray) (fun H r=>RdM 7 6 H r cntM) (fun w hw=>counter_any w) ?_
 intro F8 r8 hf8 h8
 refine Ld Y O en100 O (fun r:UAt=>.tuple #[.agg (unitV (resolveM cntM []).1 r).toArray,.int .i64 (resolveM cntM []).2]) (fun F r=>RdU (7+1) (6+1) F r (resolveM cntM []).1) (fun w hw=>by
     skip
     exact resolve_any F8 F8 7 6 r8 cntM none 0 [] w (hw.vs _ (by simp)) (hw.vs _ (by simp)) h8 Sl.nil cnt_w) ?_
 intro F9 r9 hf9 h9
 refine V0 (Ym O) (V0 (Yx O O) (V0 (Yx O O) ?_))
 refine Al Y O zr58 fun b1=>?_
 refine Lst 0 Y O O O sz58 O O O (V0 (Ya O) (Ln (Et (Cs (Cr ?_)))))
 refine Lp Y O en103 O (fun w hw=>topText_any w) ?_
 refine Ld Y O en102 O (fun r:MAt=>.tuple #[.agg (modV (topM) r).toArray,.int .i64 ((parseM topS).2)]) (fun H r=>RdM 7 6 H r (topM)) (fun w hw=>by
     have:=treeParse_any G (topS) w (hw.vs _ (by simp)) hz
     exact this) ?_
 intro F14 r14 hf14 h14
 refine V0 (Ym O) (V0 (Yx O O) (V0 (Yx O O) ?_))
 refine Al Y O zr174 fun b3=>?_
 refine Lst 0 Y O O O sz174 O O O (V0 (Ya O) (Ln (Et (Cs ?_))))
 refine WC.drawt0 (.q 0 (.e 1 (.e 2 (.e 3 (.q 4 (.q 5 (.q 6 (.e 7 (.e 8 (.e 9 .nil .stop) .stop) .stop)))) (.e 7 (.e 3 (.q 4 (.q 5 (.q 6 (.e 8 (.e 9 .nil .stop) .stop)))) .stop) .stop)) (.e 7 (.e 2 (.e 3 (.q 4 (.q 5 (.q 6 (.e 8 (.e 9 .nil .stop) .stop)))) .stop) .stop) .stop)) (.e 7 (.e 1 (.e 2 (.e 3 (.q 4 (.q 5 (.q 6 (.e 8 (.e 9 .nil .stop) .stop)))) .stop) .stop) .stop) .stop))) mixed (by kernel_rfl) (fun _ _ _ d _ h=>by cases d<;>exact h) ?_
 refine WT.q O Y O (fun _ h=>h) (Yda 0 O O ag174 O) ?_
 refine WT.e O (fun _ h=>h) ?_ ?_
 ·
  refine Ld Y O en104 O (fun r:SP=>.agg #[st cntN,.slice r.1 cntI.length r.2]) (fun F r=>Sl rdItem 4 F r.1 r.2 cntI) (fun w hw=>counted_any w) ?_
  intro F19 r19 hf19 h19
  refine Ln (Ett ?_)
  refine WT.e O (fun _ h=>(Wv 1 h:)) ?_ ?_
  ·
   refine Lb Y O el182 O O O O fun b20=>?_
   refine Ln (Ett ?_)
   refine WT.e O (fun _ h=>(Wv 1 (Wd 1 h):)) ?_ ?_
   ·
    refine Ld Y O en100 O (fun r:UAt=>.tuple #[.agg (unitV (resolveM topM fsC).1 r).toArray,.int .i64 (resolveM topM fsC).2]) (fun F r=>RdU (7+1) (6+1) F r (resolveM topM fsC).1) (fun w hw=>by
        have hfc:Sl rdFace 2 (hv w) (some ⟨b20,0,none⟩) 1 fsC:=⟨by decide,by decide,by simp,fun j x hj=>⟨b20,0,rfl,by
          match j,hj with
          | 0,hj=>simp only [fsC,List.getElem?_cons_zero,Option.some.injEq] at hj; subst hj; exact ⟨r19,fun k v hk=>by
              match k,hk with
              | 0,hk=>simp [faceV] at hk; subst hk; exact hw.hvb 0 rfl rfl
              | 1,hk=>simp [faceV] at hk; subst hk; exact hw.hvb 0 rfl rfl,slItem_mv (hv_of (hw.vs F19 (by simp))) h19⟩⟩⟩
        exact resolve_any F14 (hv w) 7 6 r14 topM (some ⟨b20,0,none⟩) 1 fsC w (hw.vs _ (by simp)) (hv_le w) h14 hfc (by have:=parseM_w topS; show wM (parseM topS).1≤_; omega)) ?_
    intro F21 r21 hf21 h21
    refine Ln (Ett ?_)
    refine WT.q O Y O (fun _ h=>(Wv 2 (Wd 1 h):)) (Ym O) ?_
    refine WT.q O Y O (fun _ h=>(Wv 2 (Wd 1 h):)) (Yx O O) ?_
    refine WT.q O Y O (fun _ h=>(Wv 2 (Wd 1 h):)) (Yx O O) ?_
    refine WT.e O (fun _ h=>(Wv 2 (Wd 1 h):)) ?_ WT.stop
    refine Al Y O zr58 fun b5=>?_
    refine Ln (Ett ?_)
    refine WT.e O (fun _ h=>(Wv 2 (Wd 2 h):)) ?_ WT.stop
    refine Lst 0 Y O O O sz58 O O O (Ln (Ett ?_))
    refine WT.e O (fun _ h=>(Wv 2 (Wd 2 h):)) ?_ WT.stop
    refine V0 (Ya O) (Ln (Ett ?_))
    refine WT.nil (fun _ h=>(Wv 2 (Wd 2 h):)) ?_
    refine Et (Cs ?_)
    obtain ⟨cu,hcu⟩:∃c,c=(resolveM cntM []).1:=⟨_,rfl⟩
    obtain ⟨tu,htu⟩:∃c,c=(resolveM topM fsC).1:=⟨_,rfl⟩
    rw [←hcu,←htu]
    rw [←hcu] at h9
    rw [←htu] at h21
    refine Cr (V0 (Yda 3 O O ag58 O) (V0 (Yda 0 O O ag58 O) ?_))
    refine Lb Y O el49 O O O O fun b26=>?_
    refine Lrb 0 (.cells ((([(cu,r9),(tu,r21)]:List XU)).flatMap XU.cells).toArray 58 (0,0)) O O ?_
    refine LW (fun _ h=>h.osT_blk (f:=XU.cells) (xs:=([(cu,r9),(tu,r21)]:List XU)) (c:=2) 0 O XU.cells_len O (by decide)) ?_
    refine V0 (Ya O) (Ln (Et (Crt ?_)))
    refine R1 O O fun w' hw=>?_
    have h9u:=h9
    refine ⟨(some ⟨b26,0,none⟩,2),O,hw.fr,?_⟩
    show Sl _ _ _ _ _ [(resolveM cntM []).1,(resolveM topM fsC).1]
    rw [←hcu,←htu]
    have h9:=hw.slT (rd:=rdXU) 0 rfl XU.cells_len (fun _ _ _ _ h=>h)
    exact slU_of (es:=[(cu,r9),(tu,r21)]) h9 (fun _ _ h=>h) fun e he=>by
      simp only [List.mem_cons,List.not_mem_nil,or_false] at he
      rcases he with rfl | rfl
      · exact h9u.mv (nv_vs hw (by simp) hf9)
      · exact h21.mv (nv_vs hw (by simp) hf21)
   refine WT.e O (fun _ h=>(Wv 1 (Wd 1 h):)) ?_ WT.stop
   refine Al Y O zr58 fun b5=>?_
   refine Ln (Ett ?_)
   refine WT.e O (fun _ h=>(Wv 1 (Wd 2 h):)) ?_ WT.stop
   refine Ld Y O en100 O (fun r:UAt=>.tuple #[.agg (unitV (resolveM topM fsC).1 r).toArray,.int .i64 (resolveM topM fsC).2]) (fun F r=>RdU (7+1) (6+1) F r (resolveM topM fsC).1) (fun w hw=>by
       have hfc:Sl rdFace 2 (hv w) (some ⟨b20,0,none⟩) 1 fsC:=⟨by decide,by decide,by simp,fun j x hj=>⟨b20,0,rfl,by
         match j,hj with
         | 0,hj=>simp only [fsC,List.getElem?_cons_zero,Option.some.injEq] at hj; subst hj; exact ⟨r19,fun k v hk=>by
             match k,hk with
             | 0,hk=>simp [faceV] at hk; subst hk; exact hw.hvb 1 rfl rfl
             | 1,hk=>simp [faceV] at hk; subst hk; exact hw.hvb 1 rfl rfl,slItem_mv (hv_of (hw.vs F19 (by simp))) h19⟩⟩⟩
       exact resolve_any F14 (hv w) 7 6 r14 topM (some ⟨b20,0,none⟩) 1 fsC w (hw.vs _ (by simp)) (hv_le w) h14 hfc (by have:=parseM_w topS; show wM (parseM topS).1≤_; omega)) ?_
   intro F21 r21 hf21 h21
   refine Ln (Ett ?_)
   refine WT.q O Y O (fun _ h=>(Wv 2 (Wd 2 h):)) (Ym O) ?_
   refine WT.q O Y O (fun _ h=>(Wv 2 (Wd 2 h):)) (Yx O O) ?_
   refine WT.q O Y O (fun _ h=>(Wv 2 (Wd 2 h):)) (Yx O O) ?_
   refine WT.e O (fun _ h=>(Wv 2 (Wd 2 h):)) ?_ WT.stop
   refine Lst 0 Y O O O sz58 O O O (Ln (Ett ?_))
   refine WT.e O (fun _ h=>(Wv 2 (Wd 2 h):)) ?_ WT.stop
   refine V0 (Ya O) (Ln (Ett ?_))
   refine WT.nil (fun _ h=>(Wv 2 (Wd 2 h):)) ?_
   refine Et (Cs ?_)
   obtain ⟨cu,hcu⟩:∃c,c=(resolveM cntM []).1:=⟨_,rfl⟩
   obtain ⟨tu,htu⟩:∃c,c=(resolveM topM fsC).1:=⟨_,rfl⟩
   rw [←hcu,←htu]
   rw [←hcu] at h9
   rw [←htu] at h21
   refine Cr (V0 (Yda 3 O O ag58 O) (V0 (Yda 0 O O ag58 O) ?_))
   refine Lb Y O el49 O O O O fun b26=>?_
   refine Lrb 0 (.cells ((([(cu,r9),(tu,r21)]:List XU)).flatMap XU.cells).toArray 58 (0,0)) O O ?_
   refine LW (fun _ h=>h.osT_blk (f:=XU.cells) (xs:=([(cu,r9),(tu,r21)]:List XU)) (c:=2) 0 O XU.cells_len O (by decide)) ?_
   refine V0 (Ya O) (Ln (Et (Crt ?_)))
   refine R1 O O fun w' hw=>?_
   have h9u:=h9
   refine ⟨(some ⟨b26,0,none⟩,2),O,hw.fr,?_⟩
   show Sl _ _ _ _ _ [(resolveM cntM []).1,(resolveM topM fsC).1]
   rw [←hcu,←htu]
   have h9:=hw.slT (rd:=rdXU) 0 rfl XU.cells_len (fun _ _ _ _ h=>h)
   exact slU_of (es:=[(cu,r9),(tu,r21)]) h9 (fun _ _ h=>h) fun e he=>by
     simp only [List.mem_cons,List.not_mem_nil,or_false] at he
     rcases he with rfl | rfl
     · exact h9u.mv (nv_vs hw (by simp) hf9)
     · exact h21.mv (nv_vs hw (by simp) hf21)
  refine WT.e O (fun _ h=>(Wv 1 h:)) ?_ WT.stop
  refine Al Y O zr58 fun b5=>?_
  refine Ln (Ett ?_)
  refine WT.e O (fun _ h=>(Wv 1 (Wd 1 h):)) ?_ WT.stop
  refine Lb Y O el182 O O O O fun b20=>?_
  refine Ln (Ett ?_)
  refine WT.e O (fun _ h=>(Wv 1 (Wd 2 h):)) ?_ WT.stop
  refine Ld Y O en100 O (fun r:UAt=>.tuple #[.agg (unitV (resolveM topM fsC).1 r).toArray,.int .i64 (resolveM topM fsC).2]) (fun F r=>RdU (7+1) (6+1) F r (resolveM topM fsC).1) (fun w hw=>by
      have hfc:Sl rdFace 2 (hv w) (some ⟨b20,0,none⟩) 1 fsC:=⟨by decide,by decide,by simp,fun j x hj=>⟨b20,0,rfl,by
        match j,hj with
        | 0,hj=>simp only [fsC,List.getElem?_cons_zero,Option.some.injEq] at hj; subst hj; exact ⟨r19,fun k v hk=>by
            match k,hk with
            | 0,hk=>simp [faceV] at hk; subst hk; exact hw.hvb 0 rfl rfl
            | 1,hk=>simp [faceV] at hk; subst hk; exact hw.hvb 0 rfl rfl,slItem_mv (hv_of (hw.vs F19 (by simp))) h19⟩⟩⟩
      exact resolve_any F14 (hv w) 7 6 r14 topM (some ⟨b20,0,none⟩) 1 fsC w (hw.vs _ (by simp)) (hv_le w) h14 hfc (by have:=parseM_w topS; show wM (parseM topS).1≤_; omega)) ?_
  intro F21 r21 hf21 h21
  refine Ln (Ett ?_)
  refine WT.q O Y O (fun _ h=>(Wv 2 (Wd 2 h):)) (Ym O) ?_
  refine WT.q O Y O (fun _ h=>(Wv 2 (Wd 2 h):)) (Yx O O) ?_
  refine WT.q O Y O (fun _ h=>(Wv 2 (Wd 2 h):)) (Yx O O) ?_
  refine WT.e O (fun _ h=>(Wv 2 (Wd 2 h):)) ?_ WT.stop
  refine Lst 1 Y O O O sz58 O O O (Ln (Ett ?_))
  refine WT.e O (fun _ h=>(Wv 2 (Wd 2 h):)) ?_ WT.stop
  refine V0 (Ya O) (Ln (Ett ?_))
  refine WT.nil (fun _ h=>(Wv 2 (Wd 2 h):)) ?_
  refine Et (Cs ?_)
  obtain ⟨cu,hcu⟩:∃c,c=(resolveM cntM []).1:=⟨_,rfl⟩
  obtain ⟨tu,htu⟩:∃c,c=(resolveM topM fsC).1:=⟨_,rfl⟩
  rw [←hcu,←htu]
  rw [←hcu] at h9
  rw [←htu] at h21
  refine Cr (V0 (Yda 3 O O ag58 O) (V0 (Yda 1 O O ag58 O) ?_))
  refine Lb Y O el49 O O O O fun b26=>?_
  refine Lrb 0 (.cells ((([(cu,r9),(tu,r21)]:List XU)).flatMap XU.cells).toArray 58 (0,0)) O O ?_
  refine LW (fun _ h=>h.osT_blk (f:=XU.cells) (xs:=([(cu,r9),(tu,r21)]:List XU)) (c:=2) 0 O XU.cells_len O (by decide)) ?_
  refine V0 (Ya O) (Ln (Et (Crt ?_)))
  refine R1 O O fun w' hw=>?_
  have h9u:=h9
  refine ⟨(some ⟨b26,0,none⟩,2),O,hw.fr,?_⟩
  show Sl _ _ _ _ _ [(resolveM cntM []).1,(resolveM topM fsC).1]
  rw [←hcu,←htu]
  have h9:=hw.slT (rd:=rdXU) 0 rfl XU.cells_len (fun _ _ _ _ h=>h)
  exact slU_of (es:=[(cu,r9),(tu,r21)]) h9 (fun _ _ h=>h) fun e he=>by
    simp only [List.mem_cons,List.not_mem_nil,or_false] at he
    rcases he with rfl | rfl
    · exact h9u.mv (nv_vs hw (by simp) hf9)
    · exact h21.mv (nv_vs hw (by simp) hf21)
 refine WT.e O (fun _ h=>h) ?_ WT.stop
 refine Al Y O zr58 fun b5=>?_
 refine Ln (Ett ?_)
 refine WT.e O (fun _ h=>(Wd 1 h:)) ?_ WT.stop
 refine Ld Y O en104 O (fun r:SP=>.agg #[st cntN,.slice r.1 cntI.length r.2]) (fun F r=>Sl rdItem 4 F r.1 r.2 cntI) (fun w hw=>counted_any w) ?_
 intro F19 r19 hf19 h19
 refine Ln (Ett ?_)
 refine WT.e O (fun _ h=>(Wv 1 (Wd 1 h):)) ?_ WT.stop
 refine Lb Y O el182 O O O O fun b20=>?_
 refine Ln (Ett ?_)
 refine WT.e O (fun _ h=>(Wv 1 (Wd 2 h):)) ?_ WT.stop
 refine Ld Y O en100 O (fun r:UAt=>.tuple #[.agg (unitV (resolveM topM fsC).1 r).toArray,.int .i64 (resolveM topM fsC).2]) (fun F r=>RdU (7+1) (6+1) F r (resolveM topM fsC).1) (fun w hw=>by
     have hfc:Sl rdFace 2 (hv w) (some ⟨b20,0,none⟩) 1 fsC:=⟨by decide,by decide,by simp,fun j x hj=>⟨b20,0,rfl,by
       match j,hj with
       | 0,hj=>simp only [fsC,List.getElem?_cons_zero,Option.some.injEq] at hj; subst hj; exact ⟨r19,fun k v hk=>by
           match k,hk with
           | 0,hk=>simp [faceV] at hk; subst hk; exact hw.hvb 0 rfl rfl
           | 1,hk=>simp [faceV] at hk; subst hk; exact hw.hvb 0 rfl rfl,slItem_mv (hv_of (hw.vs F19 (by simp))) h19⟩⟩⟩
     exact resolve_any F14 (hv w) 7 6 r14 topM (some ⟨b20,0,none⟩) 1 fsC w (hw.vs _ (by simp)) (hv_le w) h14 hfc (by have:=parseM_w topS; show wM (parseM topS).1≤_; omega)) ?_
 intro F21 r21 hf21 h21
 refine Ln (Ett ?_)
 refine WT.q O Y O (fun _ h=>(Wv 2 (Wd 2 h):)) (Ym O) ?_
 refine WT.q O Y O (fun _ h=>(Wv 2 (Wd 2 h):)) (Yx O O) ?_
 refine WT.q O Y O (fun _ h=>(Wv 2 (Wd 2 h):)) (Yx O O) ?_
 refine WT.e O (fun _ h=>(Wv 2 (Wd 2 h):)) ?_ WT.stop
 refine Lst 1 Y O O O sz58 O O O (Ln (Ett ?_))
 refine WT.e O (fun _ h=>(Wv 2 (Wd 2 h):)) ?_ WT.stop
 refine V0 (Ya O) (Ln (Ett ?_))
 refine WT.nil (fun _ h=>(Wv 2 (Wd 2 h):)) ?_
 refine Et (Cs ?_)
 obtain ⟨cu,hcu⟩:∃c,c=(resolveM cntM []).1:=⟨_,rfl⟩
 obtain ⟨tu,htu⟩:∃c,c=(resolveM topM fsC).1:=⟨_,rfl⟩
 rw [←hcu,←htu]
 rw [←hcu] at h9
 rw [←htu] at h21
 refine Cr (V0 (Yda 3 O O ag58 O) (V0 (Yda 1 O O ag58 O) ?_))
 refine Lb Y O el49 O O O O fun b26=>?_
 refine Lrb 0 (.cells ((([(cu,r9),(tu,r21)]:List XU)).flatMap XU.cells).toArray 58 (0,0)) O O ?_
 refine LW (fun _ h=>h.osT_blk (f:=XU.cells) (xs:=([(cu,r9),(tu,r21)]:List XU)) (c:=2) 0 O XU.cells_len O (by decide)) ?_
 refine V0 (Ya O) (Ln (Et (Crt ?_)))
 refine R1 O O fun w' hw=>?_
 have h9u:=h9
 refine ⟨(some ⟨b26,0,none⟩,2),O,hw.fr,?_⟩
 show Sl _ _ _ _ _ [(resolveM cntM []).1,(resolveM topM fsC).1]
 rw [←hcu,←htu]
 have h9:=hw.slT (rd:=rdXU) 0 rfl XU.cells_len (fun _ _ _ _ h=>h)
 exact slU_of (es:=[(cu,r9),(tu,r21)]) h9 (fun _ _ h=>h) fun e he=>by
   simp only [List.mem_cons,List.not_mem_nil,or_false] at he
   rcases he with rfl | rfl
   · exact h9u.mv (nv_vs hw (by simp) hf9)
   · exact h21.mv (nv_vs hw (by simp) hf21)
theorem cnt_one (nm s:List UInt8):gget s [((nm,.int .i64 1,0):GEnt (List UInt8))] (.int .i64 0) = .int .i64 ((([nm]:List (List UInt8)).count s:Nat):Int):=by
 by_cases h:nm=s
 · subst h; simp [gget,gfind]
 · have h2:¬s=nm:=fun e=>h e.symm
   simp [gget,gfind,h,h2,List.count_cons]
theorem cnt_step {seen:List (List UInt8)} {M:List (GEnt (List UInt8))} (h:∀s,gget s M (.int .i64 0) = .int .i64 ((seen.count s:Nat):Int)) (x:List UInt8) (c:Nat):∀s,gget s (gput x (.int .i64 (((seen.count x:Nat):Int)+1)) M c) (.int .i64 0) = .int .i64 (((seen++[x]).count s:Nat):Int):=by
 intro s
 by_cases e:s=x
 · subst e
   rw [gget_gput,List.count_append]
   simp
 · rw [gget_other _ M c _ e,h s,List.count_append]
   have e2:¬x=s:=fun k=>e k.symm
   simp [List.count_cons,e2]
theorem sz67:sizeP Tryz.prog 67=some 3:=by kernel_rfl
theorem fo67_0:fieldOff Tryz.prog 67 0=some 0:=by kernel_rfl
theorem en30:Enters Tryz.prog 30:=enters_of Tryz.func30 (by kernel_rfl) rfl
theorem sz70:sizeP Tryz.prog 70=some 3:=by kernel_rfl
theorem fo70_0:fieldOff Tryz.prog 70 0=some 0:=by kernel_rfl
theorem fo70_1:fieldOff Tryz.prog 70 1=some 1:=by kernel_rfl
theorem fo70_2:fieldOff Tryz.prog 70 2=some 2:=by kernel_rfl
theorem place_any (H:View) (b n:Nat) (x:Int) (w:World) (hH:Le H w) (h0:vc H b 0=some (.int .i64 (n:Int))) :
   Calls Tryz.prog 30 #[.int .i64 x,.pointer (some ⟨b,0,none⟩)] w fun e w'=>e = .returned (.bool (placeB n x))∧Ext w w':=by
 refine enter Tryz.func30 O 11 O O ?_
 refine CE (Vs:=[H]) (Ws.init (by simp [hH])) ?_
 refine Cs (Cr (V0 (Ya O) (Ln (Et (Cs (Cr (V0 (Ym O) (V0 (yl_ge O O) (V0 (Ym O) ?_)))))))))
 apply La 3 O O O O Y O O O O O
 ·
  intro hg0
  refine Vg (Ym O) (Vg (yl_ld 0 na3 O O (h0)) (Vg (yl_lt O O) ?_))
  exact Gt 3 O O O
 refine V0 (Ya O) (Ln (Et (Crt ?_)))
 refine R1 O O fun w' hw=>?_
 exact ⟨O,hw.fr⟩
theorem ocheck_any (H:View) (o:TOb) (q:OAt) (w:World) (hH:Le H w) (hm:RdTo H q o) :
   Calls Tryz.prog 10 #[.agg (obV o q).toArray] w fun e w'=>e = .returned (.int .i64 (checkO o))∧Ext w w':=by
 have husescap:=hm.uses.cap
 have husesmax:=hm.uses.max
 have hcodecap:=hm.code.cap
 have hcodemax:=hm.code.max
 have hfixcap:=hm.fix.cap
 have hfixmax:=hm.fix.max
 have hentscap:=hm.ents.cap
 have hentsmax:=hm.ents.max
 refine enter Tryz.func10 O 191 O O ?_
 refine CE (Vs:=[H]) (Ws.init (by simp [hH])) ?_
 refine Cs (Cr ?_)
 refine WL.box Y O O fun b1=>?_
 refine V0 (Ya O) (Ln (Et (Cs (Cr (V0 (Yf fo27_3 O) (V0 (Yd 0 O O O na23) (V0 (Yn es23 O) ?_)))))))
 refine Al Y O zr3 fun b3=>?_
 refine Lst 0 Y O O O sz3 O O O (Ln (Et (Cs (Cs ?_))))
 refine Crb 0 (.cells ([.int .i64 (o.code.length:Int)]).toArray 3 (0,0)) O O ?_
 refine Cr (V0 (Yf fo27_1 O) (V0 (Yd 1 O O O na22) (V0 (Yn es22 O) (V0 (yl_gt O O) (V0 (Ym O) ?_)))))
 apply Lo 4 O O O O Y O O O O O
 ·
  intro hg0
  refine Vg (Yf fo27_5 O) (Vg (Yd 1 O O O na25) (Vg (Yn es25 O) (Vg (yl_gt O O) ?_)))
  exact Gt 4 O O O
 refine V0 (Ym O) ?_
 apply Lo 2 O O O O Y O O O O O
 ·
  intro hg1
  refine Vg (Yd 0 O O O na3) (Vg (yl_lt O O) ?_)
  exact Gt 2 O O O
 refine V0 (Ym O) ?_
 apply Lo 2 O O O O Y O O O O O
 ·
  intro hg2
  refine Vg (Yd 0 O O O na3) (Vg (yl_gt O O) ?_)
  exact Gt 2 O O O
 refine Ln (Et ?_)
 refine Cc O (fun hc0=>?_) (fun hc0=>?_)
 ·
  refine Cs (Cr (V0 (Ya O) (Ln (Et (Crt (Er ?_))))))
  refine R1 O O fun w' hw=>?_
  exact ⟨by rw [checkO,if_pos (show manyO o=true from hc0)],hw.fr⟩
 have hmany:manyO o=false:=hc0
 have hU3:o.uses.length≤3:=by
   unfold manyO at hmany
   simp only [Bool.or_eq_false_iff,decide_eq_false_iff_not] at hmany
   omega
 refine Ck (Et (Cs (Cr ?_)))
 refine WL.gmk st Y O fun b38=>?_
 refine V0 (Yf fo27_0 O) (V0 (Yd 2 O O O na9) ?_)
 refine WL.gins 0 keyStr Y um64 us9 O O O O ?_
 refine V0 (Ym O) (V0 (Ya O) (Ln (Et (Cs (Cr (V0 (Yf fo27_0 O) (V0 (Yd 2 O O O na9) ?_)))))))
 refine Lp Y O en29 O (fun w hw=>lexName_any _ w) ?_
 refine V0 (Ym O) ?_
 apply La 3 O O O O Y O O O O O
 ·
  intro hg3
  refine Vg (Yf fo27_2 O) (Vg (Yd 2 O O O na3) (Vg (yl_ge O O) ?_))
  exact Gt 3 O O O
 refine V0 (Ym O) ?_
 apply La 3 O O O O Y O O O O O
 ·
  intro hg4
  refine Vg (Yf fo27_2 O) (Vg (Yd 2 O O O na3) (Vg (yl_le O O) ?_))
  exact Gt 3 O O O
 refine V0 (Ya O) (Ln (Et (Cs (Cs (Cr (V0 (Yf fo27_1 O) (V0 (Yd 2 O O O na22) (V0 (Yn es22 O) (V0 (Ym O) ?_)))))))))
 refine Ln (Et (Cb ?_))
 refine CLk (ι:=Nat×List (GEnt (List UInt8))×Nat×Bool) (fun g=>[(58,.int .i64 (g.1:Int)),(5,.bool g.2.2.2)]) [(1,_),(2,_),(3,_),(4,_),(56,_),(57,_)] (fun g=>Ws w [] [blk b38 (gobj st g.2.1 g.2.2.1),blk b3 (.cells #[.int .i64 (o.code.length:Int)] 3 (0,0)),blk b1 (.cells (obV o q).toArray 27 (0,0))] [H]) (fun g=>g.1≤o.uses.length∧(∀s,gget s g.2.1 (.int .i64 0) = .int .i64 (((o.nm::o.uses.take g.1).count s:Nat):Int))∧usesO (o.nm::o.uses.take g.1) (o.uses.drop g.1) g.2.2.2=usesO [o.nm] o.uses (headO o)) (fun g=>o.uses.length-g.1) (0,[((o.nm,.int .i64 1,0):GEnt (List UInt8))],1,headO o) ⟨Nat.zero_le _,cnt_one o.nm,O⟩ (sc O (sc O (sc O (sc O (sc O (sc O (sc O (sc O sn)))))))) (fun _ h=>h) ?_
 intro g ⟨hgi,hM,htot⟩
 refine Cs (Cr (V0 (yl_lt O O) (Ln (Et (Cs ?_)))))
 refine Cc O (fun hc1=>?_) (fun hc1=>?_)
 ·
  have hlt:g.1<o.uses.length:=by simpa using hc1
  obtain ⟨s,hsi⟩:∃q,o.uses[g.1]? = some q:=⟨_,List.getElem?_eq_getElem hlt⟩
  obtain ⟨pbs,pos,has,hrs⟩:=hm.uses.elt g.1 s hsi
  have hrs:RdC H pbs (pos+g.1*1) (strC s):=hrs
  have hT:(o.nm::o.uses.take g.1)++[s]=o.nm::o.uses.take (g.1+1):=by rw [List.take_add_one,hsi]; simp
  have hcl:((o.nm::o.uses.take g.1).count s:Nat)≤4:=by
    have h9:(o.nm::o.uses.take g.1).count s≤(o.nm::o.uses.take g.1).length:=List.count_le_length
    simp at h9; omega
  refine Ck (Et (Cs (Cb (Cs (Cr (V0 (Yo es22 O O has hlt) (V0 (yl_ld 0 na9 O O (hrs 0 _ O)) (V0 (Ya O) (Ln (Et (Cs (Cr (V0 (Ym O) ?_)))))))))))))
  refine V0 (Ym O) (V0 (yl_glook 0 keyStr um64 us9 zr3 O O O) ?_)
  rw [hM s]
  refine V0 (yl_add O O (by omega)) ?_
  refine WL.gset 0 keyStr Y um64 us9 O O O O ?_
  refine Ln (Et (Cr (V0 (Ym O) (V0 (Ym O) ?_))))
  apply La 2 (x:=nameB s) O O O O Y O O O O O
  ·
   intro hg5
   refine Vg (Ym O) ?_
   refine Lp (.g O O O) O en29 O (fun w hw=>lexName_any _ w) ?_
   exact Gt 2 O O O
  refine V0 (Ym O) ?_
  apply La 4 (x:=((((o.nm::o.uses.take g.1).count s:Nat):Int)+1==1)) O O O O Y O O O O O
  ·
   intro hg6
   refine Vg (Ym O) (Vg (Ym O) (Vg (yl_glook 0 keyStr um64 us9 zr3 O O O) ?_))
   rw [gget_gput]
   refine Vg (yl_eq O O) ?_
   exact Gt 4 O O O
  refine V0 (Ya O) (Ln (Eb (Et (Cr ?_))))
  refine V0 (Yi O O O (by omega)) ?_
  refine V0 (Ym O) (Ln ?_)
  exact Ea ((g.1+1,_,_,((g.2.2.2&&nameB s)&&((((o.nm::o.uses.take g.1).count s:Nat):Int)+1==1))):Nat×List (GEnt (List UInt8))×Nat×Bool) (by show _-(g.1+1)<_; omega) ⟨(by show g.1+1≤_; omega),(by rw [←hT]; exact cnt_step hM s _),(usesO_step (seen:=[o.nm]) hsi _).symm.trans htot⟩ (sc O (sc O (sc O (sc O (sc O (sc O (sc O (sc O sn)))))))) (fun _ h=>h)
 have hge:g.1=o.uses.length:=by simp at hc1; omega
 rw [hge,List.drop_length] at htot
 have htot:g.2.2.2=usesO [o.nm] o.uses (headO o):=htot
 refine Ce (Ex (Ex (Ebh (Et (Cs (Cs (Cr (V0 (Yf fo27_3 O) (V0 (Yd 2 O O O na23) (V0 (Yn es23 O) (V0 (Ym O) ?_)))))))))))
 refine Ln (Et (Cb ?_))
 refine CLk (ι:=Nat×Bool) (fun e1=>[(81,.int .i64 (e1.1:Int)),(5,.bool e1.2)]) [(1,_),(2,_),(3,_),(79,_),(80,_)] (fun e1=>Ws w [] [blk b38 (gobj st g.2.1 g.2.2.1),blk b3 (.cells #[.int .i64 (o.code.length:Int)] 3 (0,0)),blk b1 (.cells (obV o q).toArray 27 (0,0))] [H]) (fun e1=>e1.1≤o.code.length∧codeO (o.code.drop e1.1) e1.2=codeO o.code (usesO [o.nm] o.uses (headO o))) (fun e1=>o.code.length-e1.1) (0,g.2.2.2) ⟨Nat.zero_le _,(by rw [htot]; rfl)⟩ (sc O (sc O (sc O (sc O (sc O (sc O (sc O sn))))))) (fun _ h=>h) ?_
 intro e1 ⟨he1,htot1⟩
 refine Cs (Cr (V0 (yl_lt O O) (Ln (Et (Cs ?_)))))
 refine Cc O (fun hc2=>?_) (fun hc2=>?_)
 ·
  have hlt:e1.1<o.code.length:=by simpa using hc2
  obtain ⟨x,hxi⟩:∃q,o.code[e1.1]? = some q:=⟨_,List.getElem?_eq_getElem hlt⟩
  obtain ⟨pbx,pox,hax,hrx⟩:=hm.code.elt e1.1 x hxi
  have hrx:RdC H pbx (pox+e1.1*3) x.cells:=hrx
  refine Ck (Et (Cs (Cb (Cs (Cr (V0 (Yo es23 O O hax hlt) (V0 (yl_lda 0 ag67 O O O (hrx)) ?_)))))))
  refine Al Y O zr67 fun b9=>?_
  refine Lst 0 Y O O O sz67 O O O (Ln (Et ?_))
  refine Crb 0 (.cells (x.cells).toArray 67 (0,0)) O O ?_
  refine Cr (V0 (Ym O) (V0 (Ym O) ?_))
  apply La 3 O O O O Y O O O O O
  ·
   intro hg7
   refine Vg (Yf fo67_0 O) (Vg (Yd 0 O O O na3) (Vg (yl_ge O O) ?_))
   exact Gt 3 O O O
  refine V0 (Ym O) ?_
  apply La 3 O O O O Y O O O O O
  ·
   intro hg8
   refine Vg (Yf fo67_0 O) (Vg (Yd 0 O O O na3) (Vg (yl_le O O) ?_))
   exact Gt 3 O O O
  refine V0 (Ya O) (Ln (Eb (Et (Cr ?_))))
  refine V0 (Yi O O O (by omega)) ?_
  refine V0 (Ym O) (Ln ?_)
  exact Ea ((e1.1+1,_):Nat×Bool) (by show _-(e1.1+1)<_; omega) ⟨(by show e1.1+1≤_; omega),(codeO_step hxi _).symm.trans htot1⟩ (sc O (sc O (sc O (sc O (sc O (sc O (sc O sn))))))) (fun _ h=>Wd 1 h)
 have hge1:e1.1=o.code.length:=by simp at hc2; omega
 rw [hge1,List.drop_length] at htot1
 have htot1:e1.2=codeO o.code (usesO [o.nm] o.uses (headO o)):=htot1
 refine Ce (Ex (Ex (Ebh (Et (Cs (Cr (V0 (yl_func O) (V0 (Ya O) (Ln (Et (Cs (Cs (Cr (V0 (Yf fo27_5 O) ?_))))))))))))))
 refine V0 (Yd 2 O O O na25) (V0 (Yn es25 O) (V0 (Ym O) (Ln (Et (Cb ?_)))))
 refine CLk (ι:=Nat×Bool) (fun e2=>[(101,.int .i64 (e2.1:Int)),(5,.bool e2.2)]) [(1,_),(2,_),(3,_),(10,_),(99,_),(100,_)] (fun e2=>Ws w [] [blk b38 (gobj st g.2.1 g.2.2.1),blk b3 (.cells #[.int .i64 (o.code.length:Int)] 3 (0,0)),blk b1 (.cells (obV o q).toArray 27 (0,0))] [H]) (fun e2=>e2.1≤o.ents.length∧entsO o.code.length (o.ents.drop e2.1) e2.2=entsO o.code.length o.ents (codeO o.code (usesO [o.nm] o.uses (headO o)))) (fun e2=>o.ents.length-e2.1) (0,e1.2) ⟨Nat.zero_le _,(by rw [htot1]; rfl)⟩ (sc O (sc O (sc O (sc O (sc O (sc O (sc O (sc O sn)))))))) (fun _ h=>h) ?_
 intro e2 ⟨he2,htot2⟩
 refine Cs (Cr (V0 (yl_lt O O) (Ln (Et (Cs ?_)))))
 refine Cc O (fun hc3=>?_) (fun hc3=>?_)
 ·
  have hlt:e2.1<o.ents.length:=by simpa using hc3
  obtain ⟨x,hxi⟩:∃q,o.ents[e2.1]? = some q:=⟨_,List.getElem?_eq_getElem hlt⟩
  obtain ⟨pbx,pox,hax,hrx⟩:=hm.ents.elt e2.1 x hxi
  have hrx:RdC H pbx (pox+e2.1*1) (n1C x):=hrx
  refine Ck (Et (Cs (Cb (Cs (Cr (V0 (Yo es25 O O hax hlt) (V0 (yl_ld 0 na3 O O (hrx 0 _ O)) (V0 (Ya O) (Ln (Et (Cr (V0 (Ym O) ?_))))))))))))
  refine V0 (Ym O) ?_
  apply La 3 (x:=placeB o.code.length x) O O O O Y O O O O O
  ·
   intro hg9
   refine Vg (Ym O) (Vg (Ym O) ?_)
   refine WL.callvp (.g O O O) O en30 O O (fun w hw=>place_any (hv w) b3 o.code.length (x) w (hv_le w) (vc_blk (hw.hvw 1 O) O)) ?_
   exact Gt 3 O O O
  refine V0 (Ya O) (Ln (Eb (Et (Cr ?_))))
  refine V0 (Yi O O O (by omega)) ?_
  refine V0 (Ym O) (Ln ?_)
  exact Ea ((e2.1+1,(e2.2&&placeB o.code.length x)):Nat×Bool) (by show _-(e2.1+1)<_; omega) ⟨(by show e2.1+1≤_; omega),(entsO_step hxi _).symm.trans htot2⟩ (sc O (sc O (sc O (sc O (sc O (sc O (sc O (sc O sn)))))))) (fun _ h=>h)
 have hge2:e2.1=o.ents.length:=by simp at hc3; omega
 rw [hge2,List.drop_length] at htot2
 have htot2:e2.2=entsO o.code.length o.ents (codeO o.code (usesO [o.nm] o.uses (headO o))):=htot2
 refine Ce (Ex (Ex (Ebh (Et (Cs (Cr (V0 (Ya O) (Ln (Et (Cs (Cs (Cr (V0 (Yf fo27_4 O) (V0 (Yd 2 O O O na24) ?_))))))))))))))
 refine V0 (Yn es24 O) (V0 (Ym O) (Ln (Et (Cb ?_))))
 refine CLk (ι:=Nat×Int×Bool) (fun e3=>[(115,.int .i64 (e3.1:Int)),(13,.int .i64 e3.2.1),(5,.bool e3.2.2)]) [(1,_),(2,_),(3,_),(10,_),(113,_),(114,_)] (fun e3=>Ws w [] [blk b38 (gobj st g.2.1 g.2.2.1),blk b3 (.cells #[.int .i64 (o.code.length:Int)] 3 (0,0)),blk b1 (.cells (obV o q).toArray 27 (0,0))] [H]) (fun e3=>e3.1≤o.fix.length∧fixO o.uses.length o.code (o.fix.drop e3.1) e3.2.1 e3.2.2=fineO o) (fun e3=>o.fix.length-e3.1) (0,-1,e2.2) ⟨Nat.zero_le _,(by rw [htot2]; rfl)⟩ (sc O (sc O (sc O (sc O (sc O (sc O (sc O (sc O (sc O sn))))))))) (fun _ h=>h) ?_
 intro e3 ⟨he3,htot3⟩
 refine Cs (Cr (V0 (yl_lt O O) (Ln (Et (Cs ?_)))))
 refine Cc O (fun hc4=>?_) (fun hc4=>?_)
 ·
  have hlt:e3.1<o.fix.length:=by simpa using hc4
  obtain ⟨x,hxi⟩:∃q,o.fix[e3.1]? = some q:=⟨_,List.getElem?_eq_getElem hlt⟩
  obtain ⟨pbx,pox,hax,hrx⟩:=hm.fix.elt e3.1 x hxi
  have hrx:RdC H pbx (pox+e3.1*3) x.cells:=hrx
  have hst:=fixO_step (U:=o.uses.length) (c:=o.code) hxi e3.2.1 e3.2.2
  rw [htot3] at hst
  refine Ck (Et (Cs (Cb (Cs (Cr (V0 (Yo es24 O O hax hlt) (V0 (yl_lda 0 ag70 O O O (hrx)) ?_)))))))
  refine Al Y O zr70 fun b15=>?_
  refine Lst 0 Y O O O sz70 O O O (Ln (Et (Cs ?_)))
  refine Crb 0 (.cells (x.cells).toArray 70 (0,0)) O O ?_
  refine Cr (V0 (Ym O) (V0 (Ym O) ?_))
  apply La 4 O O O O Y O O O O O
  ·
   intro hg10
   refine Vg (Yf fo70_0 O) (Vg (Yd 0 O O O na3) (Vg (Ym O) (Vg (yl_gt O O) ?_)))
   exact Gt 4 O O O
  refine V0 (Ym O) ?_
  apply La 4 (x:=placeB o.code.length x.at_) O O O O Y O O O O O
  ·
   intro hg11
   refine Vg (Ym O) (Vg (Yf fo70_0 O) (Vg (Yd 0 O O O na3) ?_))
   refine WL.callvp (.g O O O) O en30 O O (fun w hw=>place_any (hv w) b3 o.code.length (x.at_) w (hv_le w) (vc_blk (hw.hvw 2 O) O)) ?_
   exact Gt 4 O O O
  refine V0 (Ya O) (Ln (Et (Cs (Cs (Cr (V0 (Ym O) (V0 (yl_not O) (Ln (Et ?_)))))))))
  refine Cc O (fun hc5=>?_) (fun hc5=>?_)
  ·
   have hbad:((e3.2.2&&decide (e3.2.1<x.at_))&&placeB o.code.length x.at_)=false:=by
     have h9:=hc5
     cases hX:((e3.2.2&&decide (e3.2.1<x.at_))&&placeB o.code.length x.at_) with
     | false=>rfl
     | true=>rw [hX] at h9; cases h9
   rw [if_pos hbad] at hst
   refine Ce (Ex (Ebm O (Ex (Ex (Ebh (Et (Cs (Cs (Cr (V0 (Ym O) (V0 (yl_not O) (V0 (Ym O) ?_))))))))))))
   apply Lo 5 (x:=!(placeB o.code.length o.main)) O O O O Y O O O O O
   ·
    intro hg12
    refine Vg (Ym O) (Vg (Yf fo27_6 O) (Vg (Yd 3 O O O na3) ?_))
    refine WL.callvp (.g O O O) O en30 O O (fun w hw=>place_any (hv w) b3 o.code.length (o.main) w (hv_le w) (vc_blk (hw.hvw 2 O) O)) ?_
    refine Vg (yl_not O) ?_
    exact Gt 5 O O O
   refine Ln (Et ?_)
   refine Cc O (fun hc9=>?_) (fun hc9=>?_)
   ·
    refine Cs (Cr (V0 (Ya O) (Ln (Et (Crt (Er ?_))))))
    refine R1 O O fun w' hw=>?_
    exact ⟨by rw [checkO,hmany,if_neg (by decide),if_pos (by rw [hst]; rfl)],hw.fr⟩
   refine Ck (Et (Cs (Cr (V0 (Ya O) (Ln (Et (Crt ?_)))))))
   refine R1 O O fun w' hw=>?_
   rw [hbad] at hc9
   exact absurd hc9 (by simp)
  have hgood:((e3.2.2&&decide (e3.2.1<x.at_))&&placeB o.code.length x.at_)=true:=by simpa using hc5
  rw [if_neg (by rw [hgood]; decide)] at hst
  obtain ⟨p,hpa,hpl⟩:=placeB_in (Bool.and_eq_true_iff.1 hgood).2
  have hpt:x.at_.toNat=p:=by omega
  obtain ⟨y,hyi⟩:∃y,o.code[p]? = some y:=⟨_,List.getElem?_eq_getElem hpl⟩
  obtain ⟨pby,poy,hay,hry⟩:=hm.code.elt p y hyi
  have hry:RdC H pby (poy+p*3) y.cells:=hry
  rw [←hpt] at hry
  have hfA:fixA o.code x.at_=y.a:=by unfold fixA; rw [hpt,hyi]; rfl
  rw [hfA] at hst
  refine Ck (Et (Cs (Cr (V0 (Yf fo70_0 O) (V0 (Yd 0 O O O na3) (V0 (Ya O) (Ln (Et (Cs (Cr (V0 (Yf fo27_3 O) ?_)))))))))))
  refine V0 (Yd 3 O O O na23) (V0 (Yf fo70_0 O) (V0 (Yd 0 O O O na3) ?_))
  refine V0 (yl_iai es23 O O hay (by omega) (by omega)) ?_
  refine V0 (Yf fo67_1 O) (V0 (yl_ld 0 na3 O O (hry 1 _ O)) (V0 (Ya O) (Ln (Et (Cs (Cr (V0 (Ym O) (V0 (yl_ge O O) ?_))))))))
  refine V0 (Ym O) ?_
  apply La 2 O O O O Y O O O O O
  ·
   intro hg13
   refine Vg (Ym O) (Vg (yl_le O O) ?_)
   exact Gt 2 O O O
  refine V0 (Ya O) (Ln (Et (Cs (Cr (V0 (Yf fo70_1 O) (V0 (Yd 0 O O O na3) (Ln (Et (Cb (Cs (Cr (V0 (yl_eq O O) ?_))))))))))))
  refine V0 (Ya O) (Ln (Et ?_))
  refine Cc O (fun hc6=>?_) (fun hc6=>?_)
  ·
   have hk1:x.kind=1:=by simpa using hc6
   refine Cr (V0 (Ym O) (V0 (Ym O) ?_))
   apply La 3 O O O O Y O O O O O
   ·
    intro hg14
    refine Vg (Yf fo70_2 O) (Vg (Yd 0 O O O na3) (Vg (yl_eq O O) ?_))
    exact Gt 3 O O O
   refine V0 (Ym O) ?_
   apply La 3 O O O O Y O O O O O
   ·
    intro hg15
    refine Vg (Ym O) (Vg (Yd 2 O O O na3) (Vg (yl_le O O) ?_))
    exact Gt 3 O O O
   refine V0 (Ya O) (Ln (Eb (Eb (Et (Cr ?_)))))
   refine V0 (Yi O O O (by omega)) ?_
   refine V0 (Ym O) (Ln ?_)
   exact Ea ((e3.1+1,x.at_,(((decide (0≤y.a)&&decide (y.a≤2048))&&(x.m==0))&&decide (y.a≤(o.code.length:Int)))):Nat×Int×Bool) (by show _-(e3.1+1)<_; omega) ⟨(by show e3.1+1≤_; omega),(congrArg (fixO o.uses.length o.code (o.fix.drop (e3.1+1)) x.at_) (show (((decide (0≤y.a)&&decide (y.a≤2048))&&(x.m==0))&&decide (y.a≤(o.code.length:Int)))=fix1 o.uses.length o.code.length x.kind x.m y.a from ((by unfold fix1; rw [if_pos hk1])))).trans hst.symm⟩ (sc O (sc O (sc O (sc O (sc O (sc O (sc O (sc O (sc O sn))))))))) (fun _ h=>Wd 1 h)
  have hk1:¬x.kind=1:=by simpa using hc6
  refine Cs (Cs (Cr (V0 (yl_eq O O) (V0 (Ya O) (Ln (Et ?_))))))
  refine Cc O (fun hc7=>?_) (fun hc7=>?_)
  ·
   have hk2:x.kind=2:=by simpa using hc7
   refine Ck (Et ?_)
   refine Cc O (fun hc8=>?_) (fun hc8=>?_)
   ·
    refine Cr (V0 (Ym O) (V0 (Ym O) ?_))
    apply La 3 O O O O Y O O O O O
    ·
     intro hg16
     refine Vg (Yf fo70_2 O) (Vg (Yd 0 O O O na3) (Vg (yl_ge O O) ?_))
     exact Gt 3 O O O
    refine V0 (Ym O) ?_
    apply La 6 O O O O Y O O O O O
    ·
     intro hg17
     refine Vg (Yf fo70_2 O) (Vg (Yd 0 O O O na3) (Vg (Yf fo27_1 O) (Vg (Yd 3 O O O na22) (Vg (Yn es22 O) (Vg (yl_le O O) ?_)))))
     exact Gt 6 O O O
    refine V0 (Ya O) (Ln (Eb (Eb (Et (Cr ?_)))))
    refine V0 (Yi O O O (by omega)) ?_
    refine V0 (Ym O) (Ln ?_)
    exact Ea ((e3.1+1,x.at_,(((decide (0≤y.a)&&decide (y.a≤2048))&&decide (0≤x.m))&&decide (x.m≤(o.uses.length:Int)))):Nat×Int×Bool) (by show _-(e3.1+1)<_; omega) ⟨(by show e3.1+1≤_; omega),(congrArg (fixO o.uses.length o.code (o.fix.drop (e3.1+1)) x.at_) (show (((decide (0≤y.a)&&decide (y.a≤2048))&&decide (0≤x.m))&&decide (x.m≤(o.uses.length:Int)))=fix1 o.uses.length o.code.length x.kind x.m y.a from ((by unfold fix1; rw [if_neg hk1,if_pos (.inl hk2)])))).trans hst.symm⟩ (sc O (sc O (sc O (sc O (sc O (sc O (sc O (sc O (sc O sn))))))))) (fun _ h=>Wd 1 h)
   refine Cr (V0 (Ya O) (Ln (Eb (Eb (Et (Cr ?_))))))
   refine V0 (Yi O O O (by omega)) ?_
   refine V0 (Ym O) (Ln ?_)
   exact Ea ((e3.1+1,x.at_,false):Nat×Int×Bool) (by show _-(e3.1+1)<_; omega) ⟨(by show e3.1+1≤_; omega),(congrArg (fixO o.uses.length o.code (o.fix.drop (e3.1+1)) x.at_) (show false=fix1 o.uses.length o.code.length x.kind x.m y.a from ((by exact absurd (hc7.symm.trans hc8) (by decide))))).trans hst.symm⟩ (sc O (sc O (sc O (sc O (sc O (sc O (sc O (sc O (sc O sn))))))))) (fun _ h=>Wd 1 h)
  have hk2:¬x.kind=2:=by simpa using hc7
  refine Cr (V0 (yl_eq O O) (V0 (Ya O) (Ln (Et ?_))))
  refine Cc O (fun hc8=>?_) (fun hc8=>?_)
  ·
   refine Cr (V0 (Ym O) (V0 (Ym O) ?_))
   apply La 3 O O O O Y O O O O O
   ·
    intro hg16
    refine Vg (Yf fo70_2 O) (Vg (Yd 0 O O O na3) (Vg (yl_ge O O) ?_))
    exact Gt 3 O O O
   refine V0 (Ym O) ?_
   apply La 6 O O O O Y O O O O O
   ·
    intro hg17
    refine Vg (Yf fo70_2 O) (Vg (Yd 0 O O O na3) (Vg (Yf fo27_1 O) (Vg (Yd 3 O O O na22) (Vg (Yn es22 O) (Vg (yl_le O O) ?_)))))
    exact Gt 6 O O O
   refine V0 (Ya O) (Ln (Eb (Eb (Et (Cr ?_)))))
   refine V0 (Yi O O O (by omega)) ?_
   refine V0 (Ym O) (Ln ?_)
   exact Ea ((e3.1+1,x.at_,(((decide (0≤y.a)&&decide (y.a≤2048))&&decide (0≤x.m))&&decide (x.m≤(o.uses.length:Int)))):Nat×Int×Bool) (by show _-(e3.1+1)<_; omega) ⟨(by show e3.1+1≤_; omega),(congrArg (fixO o.uses.length o.code (o.fix.drop (e3.1+1)) x.at_) (show (((decide (0≤y.a)&&decide (y.a≤2048))&&decide (0≤x.m))&&decide (x.m≤(o.uses.length:Int)))=fix1 o.uses.length o.code.length x.kind x.m y.a from ((by unfold fix1; rw [if_neg hk1,if_pos (.inr (by simpa using hc8))])))).trans hst.symm⟩ (sc O (sc O (sc O (sc O (sc O (sc O (sc O (sc O (sc O sn))))))))) (fun _ h=>Wd 1 h)
  refine Cr (V0 (Ya O) (Ln (Eb (Eb (Et (Cr ?_))))))
  refine V0 (Yi O O O (by omega)) ?_
  refine V0 (Ym O) (Ln ?_)
  exact Ea ((e3.1+1,x.at_,false):Nat×Int×Bool) (by show _-(e3.1+1)<_; omega) ⟨(by show e3.1+1≤_; omega),(congrArg (fixO o.uses.length o.code (o.fix.drop (e3.1+1)) x.at_) (show false=fix1 o.uses.length o.code.length x.kind x.m y.a from ((by unfold fix1; rw [if_neg hk1,if_neg (fun h=>h.elim hk2 (by simpa using hc8))])))).trans hst.symm⟩ (sc O (sc O (sc O (sc O (sc O (sc O (sc O (sc O (sc O sn))))))))) (fun _ h=>Wd 1 h)
 have hge3:e3.1=o.fix.length:=by simp at hc4; omega
 rw [hge3,List.drop_length] at htot3
 have htot3:e3.2.2=fineO o:=htot3
 refine Ce (Ex (Ex (Ebh (Et (Cs (Cs (Cr (V0 (Ym O) (V0 (yl_not O) (V0 (Ym O) ?_))))))))))
 apply Lo 5 (x:=!(placeB o.code.length o.main)) O O O O Y O O O O O
 ·
  intro hg12
  refine Vg (Ym O) (Vg (Yf fo27_6 O) (Vg (Yd 2 O O O na3) ?_))
  refine WL.callvp (.g O O O) O en30 O O (fun w hw=>place_any (hv w) b3 o.code.length (o.main) w (hv_le w) (vc_blk (hw.hvw 1 O) O)) ?_
  refine Vg (yl_not O) ?_
  exact Gt 5 O O O
 refine Ln (Et ?_)
 refine Cc O (fun hc9=>?_) (fun hc9=>?_)
 ·
  refine Cs (Cr (V0 (Ya O) (Ln (Et (Crt (Er ?_))))))
  refine R1 O O fun w' hw=>?_
  exact ⟨by rw [checkO,hmany,if_neg (by decide),←htot3,if_pos hc9],hw.fr⟩
 refine Ck (Et (Cs (Cr (V0 (Ya O) (Ln (Et (Crt ?_)))))))
 refine R1 O O fun w' hw=>?_
 exact ⟨by rw [checkO,hmany,if_neg (by decide),←htot3,if_neg (by rw [hc9]; decide)],hw.fr⟩
theorem wrap_u8 (n:Int):IntKind.u8.wrap n=((byO n).toNat:Int):=by
 unfold byO IntKind.wrap
 simp [IntKind.signed,IntKind.bits]
 omega
theorem noEsc:∀(u:Value) (w:World),(callFunc 123 #[u]).run Tryz.prog w = .ok (.value u) w:=same_of Tryz.func123 (by kernel_rfl) (by kernel_rfl) (by kernel_rfl) (by kernel_rfl)
def bitsB (n:Int) (k:Nat):List UInt8:=(List.range k).map fun j=>byO (n.fdiv (2 ^ (56-8*j)))
theorem bits8 (n:Int):bitsB n 8=num8 n:=by
 simp [bitsB,num8,List.range_succ,Int.fdiv_one]
theorem bits_succ (n:Int) (k:Nat):bitsB n (k+1)=bitsB n k++[byO (n.fdiv (2 ^ (56-8*k)))]:=by simp [bitsB,List.range_succ]
theorem bits_len (n:Int) (k:Nat):(bitsB n k).length=k:=by simp [bitsB]
theorem nums_len (l:List Int):(l.flatMap num8).length=l.length*8:=by
 induction l with
 | nil=>rfl
 | cons x r ih=>simp only [List.flatMap_cons,List.length_append,ih,num8_len,List.length_cons]; omega
theorem num8_cells (n:Int) (T:TypeId):(Obj.cells #[.int .u8 (IntKind.u8.wrap (n.fdiv (2 ^ 56))),.int .u8 (IntKind.u8.wrap (n.fdiv (2 ^ 48))),.int .u8 (IntKind.u8.wrap (n.fdiv (2 ^ 40))),.int .u8 (IntKind.u8.wrap (n.fdiv (2 ^ 32))),.int .u8 (IntKind.u8.wrap (n.fdiv (2 ^ 24))),.int .u8 (IntKind.u8.wrap (n.fdiv (2 ^ 16))),.int .u8 (IntKind.u8.wrap (n.fdiv (2 ^ 8))),.int .u8 (IntKind.u8.wrap n)] T (0,0)) = .cells ((num8 n).map byv).toArray T (0,0):=by
 simp only [wrap_u8]; rfl
theorem one_cell (n:Int) (T:TypeId):(Obj.cells #[.int .u8 (IntKind.u8.wrap n)] T (0,0)) = .cells ([byO n].map byv).toArray T (0,0):=by
 simp only [wrap_u8]; rfl
theorem up74:Tryz.prog.underlying 74=some (.pointer 77):=by kernel_rfl
theorem sz77:sizeP Tryz.prog 77=some 2:=by kernel_rfl
theorem uunsafe:Tryz.prog.underlying 233=some .unsafePointer:=by kernel_rfl
theorem liesPen:liesAt Tryz.prog Tryz.prog.depth 79 (2 / Tryz.prog.cellsOf 79) 0 77 1=true:=by kernel_rfl
theorem fo77_0:fieldOff Tryz.prog 77 0=some 0:=by kernel_rfl
theorem na74:nonAgg Tryz.prog 74=true:=by kernel_rfl
theorem sz74:sizeP Tryz.prog 74=some 1:=by kernel_rfl
theorem en105:Enters Tryz.prog 105:=enters_of Tryz.func105 (by kernel_rfl) rfl
theorem fo77_1:fieldOff Tryz.prog 77 1=some 1:=by kernel_rfl
theorem na75:nonAgg Tryz.prog 75=true:=by kernel_rfl
theorem el75:EltOk Tryz.prog 75 5 (.int .u8 0) 1 1:=eltOk_of (by kernel_rfl)
theorem sz75:sizeP Tryz.prog 75=some 1:=by kernel_rfl
theorem fo79_0:fieldOff Tryz.prog 79 0=some 0:=by kernel_rfl
theorem ui5:Tryz.prog.underlying 5=some (.int .u8):=by kernel_rfl
theorem en76:Enters Tryz.prog 76:=enters_of Tryz.func76 (by kernel_rfl) rfl
theorem en36:Enters Tryz.prog 36:=enters_of Tryz.func36 (by kernel_rfl) rfl
theorem en75:Enters Tryz.prog 75:=enters_of Tryz.func75 (by kernel_rfl) rfl
theorem es75:elemSz Tryz.prog 75=some 1:=by kernel_rfl
theorem up143:Tryz.prog.underlying 143=some (.pointer 5):=by kernel_rfl
theorem c1_5:Tryz.prog.cellsOf 5=1:=by kernel_rfl
theorem usl75:Tryz.prog.underlying 75=some (.slice 5):=by kernel_rfl
theorem copyCheck_any (bp:Nat) (q:Option Addr) (v:Value) (w:World) (hq:q=none∨q=some ⟨bp,0,none⟩) (hw:Ws w [bp] [blk bp (.cells #[.pointer (q),v] 79 (0,0))] [] w) :
   Calls Tryz.prog 105 #[.pointer (some ⟨bp,0,none⟩)] w fun e w'=>e = .returned (.tuple #[])∧Ws w [bp] [blk bp (.cells #[.pointer (some ⟨bp,0,none⟩),v] 79 (0,0))] [] w':=by
 refine enter Tryz.func105 O 20 O O ?_
 refine CE hw ?_
 refine Cs (Cr (V0 (Ym O) (V0 (yl_nil O) (V0 (Yf fo77_0 O) (V0 (Yd 0 O O O na74) (V0 (yl_eqpn up74 O) ?_))))))
 refine Ln (Et ?_)
 refine Cc O (fun hc0=>?_) (fun hc0=>?_)
 ·
  obtain rfl:q=none:=by cases q with | none=>rfl | some _=>simp at hc0
  refine Cr (V0 (Ym O) (V0 (Ym O) (V0 (yl_cvp 0 up74 uunsafe sz77 O O O) (V0 (yl_same noEsc O) (V0 (yl_cvq 0 uunsafe up74 sz77 O (n:=2) O liesPen O) ?_)))))
  refine V0 (yl_nil O) (V0 (Yf fo77_0 O) (Lst 0 Y O O O sz74 O O O (Ln ?_)))
  refine E0 O fun w' hw=>?_
  exact ⟨O,hw⟩
 obtain rfl:q=some ⟨bp,0,none⟩:=by
   rcases hq with rfl | h
   · simp at hc0
   · exact h
 refine Cs (Cr (V0 (Ym O) (V0 (yl_nil O) (V0 (Yf fo77_0 O) (V0 (Yd 0 O O O na74) (V0 (Ym O) ?_))))))
 refine V0 (yl_neps up74 sz77 O O) (Ln (Et ?_))
 refine WC.condf O ?_
 refine Ck ?_
 refine E0 O fun w' hw=>?_
 exact ⟨O,hw⟩
theorem writeByte_any (bp:Nat) (q:Option Addr) (v:Value) (bs:List UInt8) (b:UInt8) (w:World) (hq:q=none∨q=some ⟨bp,0,none⟩) (hb:bs.length+1≤1099511627776) (hw:Ws w ([blk bp (.cells #[.pointer (q),v] 79 (0,0)),osl 5 1 v (bs).length ((bs).map byv)].flatMap Asr.ids) [blk bp (.cells #[.pointer (q),v] 79 (0,0)),osl 5 1 v (bs).length ((bs).map byv)] [] w) :
   Calls Tryz.prog 76 #[.pointer (some ⟨bp,0,none⟩),.int .u8 (b.toNat:Int)] w fun e w'=>∃v':Value,e = .returned (.nilIface)∧True∧Ws w ([blk bp (.cells #[.pointer (q),v] 79 (0,0)),osl 5 1 v (bs).length ((bs).map byv)].flatMap Asr.ids) [blk bp (.cells #[.pointer (some ⟨bp,0,none⟩),v'] 79 (0,0)),osl 5 1 v' (bs++[b]).length ((bs++[b]).map byv)] [] w':=by
 refine enter Tryz.func76 O 17 O O ?_
 refine CE hw ?_
 refine Cs (Cr (V0 (Ya O) (Ln (Et (Cs (Cr (V0 (Ym O) (Lf 0 O ?_))))))))
 refine Lw0 [_] _ [blk bp (.cells #[.pointer (some ⟨bp,0,none⟩),v] 79 (0,0))] Y O en105 O O [] (by simp) (fun w hw=>copyCheck_any bp q v w hq hw) ?_
 refine Ln (Et (Cs (Cr (V0 (Ym O) (V0 (Ym O) (V0 (yl_nil O) (V0 (Yf fo77_1 O) (V0 (Yd 0 O O O na75) ?_))))))))
 refine V0 (Ym O) ?_
 refine Lb Y O el75 O O O O fun b13=>?_
 refine WL.append 2 Y O el75 O O O (news:=[byv b]) O (fun w hw j u hu=>blk_cells hw 0 O (k:=j) hu) (fun u hu=>by simp at hu; subst hu; rfl) (by unfold maxLen; omega) (by omega) (fun v14 hnil14=>?_)
 refine WL.reosl 2 (bs++[b]).length ((bs++[b]).map byv) O (by simp) (by simp) ?_
 refine WL.slc 2 O fun a14 m14 c14 hv14=>?_
 subst hv14
 refine V0 (yl_nil O) (V0 (Yf fo77_1 O) (Lst 1 Y O O O sz75 O O O (Ln (Et (Cs (Cr (V0 (Ya O) (Ln (Et (Crt ?_))))))))))
 refine R1 O O fun w' hw=>?_
 exact ⟨_,O,trivial,Wd 1 hw⟩
theorem writeString_any (bp:Nat) (q:Option Addr) (v:Value) (bs:List UInt8) (s:List UInt8) (w:World) (hq:q=none∨q=some ⟨bp,0,none⟩) (hb:bs.length+s.length≤1099511627776) (hw:Ws w ([blk bp (.cells #[.pointer (q),v] 79 (0,0)),osl 5 1 v (bs).length ((bs).map byv)].flatMap Asr.ids) [blk bp (.cells #[.pointer (q),v] 79 (0,0)),osl 5 1 v (bs).length ((bs).map byv)] [] w) :
   Calls Tryz.prog 75 #[.pointer (some ⟨bp,0,none⟩),st s] w fun e w'=>∃v':Value,e = .returned (.tuple #[.int .i64 s.length,.nilIface])∧True∧Ws w ([blk bp (.cells #[.pointer (q),v] 79 (0,0)),osl 5 1 v (bs).length ((bs).map byv)].flatMap Asr.ids) [blk bp (.cells #[.pointer (some ⟨bp,0,none⟩),v'] 79 (0,0)),osl 5 1 v' (bs++s).length ((bs++s).map byv)] [] w':=by
 refine enter Tryz.func75 O 19 O O ?_
 refine CE hw ?_
 refine Cs (Cr (V0 (Ya O) (V0 (Ya O) (Ln (Et (Cs (Cr (V0 (Ym O) (Lf 0 O ?_)))))))))
 refine Lw0 [_] _ [blk bp (.cells #[.pointer (some ⟨bp,0,none⟩),v] 79 (0,0))] Y O en105 O O [] (by simp) (fun w hw=>copyCheck_any bp q v w hq hw) ?_
 refine Ln (Et (Cs (Cr (V0 (Ym O) (V0 (Ym O) (V0 (yl_nil O) (V0 (Yf fo77_1 O) (V0 (Yd 0 O O O na75) ?_))))))))
 refine V0 (Ym O) ?_
 refine WL.appends 1 Y O el75 us9 O O O (by omega) (fun v14 hnil14=>?_)
 refine WL.reosl 1 (bs++s).length ((bs++s).map byv) O (by simp) (by simp) ?_
 refine WL.slc 1 O fun a14 m14 c14 hv14=>?_
 subst hv14
 refine V0 (yl_nil O) (V0 (Yf fo77_1 O) (Lst 0 Y O O O sz75 O O O (Ln (Et (Cs (Cr (V0 (Ym O) (V0 (yl_lens us9 O) ?_))))))))
 refine V0 (Ya O) (V0 (Ya O) (Ln (Et (Crt ?_))))
 refine WE.ret2 O O O fun w' hw=>?_
 exact ⟨_,O,trivial,hw⟩
theorem penByte_any (bp:Nat) (q:Option Addr) (v:Value) (bs:List UInt8) (n:Int) (w:World) (hq:q=none∨q=some ⟨bp,0,none⟩) (hb:bs.length+1≤1099511627776) (hw:Ws w ([blk bp (.cells #[.pointer (q),v] 79 (0,0)),osl 5 1 v (bs).length ((bs).map byv)].flatMap Asr.ids) [blk bp (.cells #[.pointer (q),v] 79 (0,0)),osl 5 1 v (bs).length ((bs).map byv)] [] w) :
   Calls Tryz.prog 36 #[.pointer (some ⟨bp,0,none⟩),.int .i64 n] w fun e w'=>∃v':Value,e = .returned (.tuple #[])∧True∧Ws w ([blk bp (.cells #[.pointer (q),v] 79 (0,0)),osl 5 1 v (bs).length ((bs).map byv)].flatMap Asr.ids) [blk bp (.cells #[.pointer (some ⟨bp,0,none⟩),v'] 79 (0,0)),osl 5 1 v' (bs++[byO n]).length ((bs++[byO n]).map byv)] [] w':=by
 refine enter Tryz.func36 O 10 O O ?_
 refine CE hw ?_
 refine Cr (V0 (Ym O) (V0 (yl_nil O) (V0 (Yf fo79_0 O) (V0 (Ym O) (V0 (yl_cvi ui3 ui5 O) ?_)))))
 refine Lf 1 O (Lf 1 O ?_)
 refine Lw (ι:=Value) [_,_] _ Y O en76 O O (fun _=>.nilIface) (fun v'=>[blk bp (.cells #[.pointer (some ⟨bp,0,none⟩),v'] 79 (0,0)),osl 5 1 v' (bs++[byO n]).length ((bs++[byO n]).map byv)]) (fun _=>True) [] (by simp) (fun w hw=>by
     have:=writeByte_any bp q v bs (byO n) w hq hb hw
     rw [←wrap_u8] at this
     exact this) ?_
 intro v9 _
 refine Ln ?_
 refine E0 O fun w' hw=>?_
 exact ⟨_,O,trivial,hw⟩
theorem penText_any (bp:Nat) (q:Option Addr) (v:Value) (bs:List UInt8) (s:List UInt8) (w:World) (hq:q=none∨q=some ⟨bp,0,none⟩) (hb:bs.length+s.length+1≤1099511627776) (hw:Ws w ([blk bp (.cells #[.pointer (q),v] 79 (0,0)),osl 5 1 v (bs).length ((bs).map byv)].flatMap Asr.ids) [blk bp (.cells #[.pointer (q),v] 79 (0,0)),osl 5 1 v (bs).length ((bs).map byv)] [] w) :
   Calls Tryz.prog 34 #[.pointer (some ⟨bp,0,none⟩),st s] w fun e w'=>∃v':Value,e = .returned (.tuple #[])∧True∧Ws w ([blk bp (.cells #[.pointer (q),v] 79 (0,0)),osl 5 1 v (bs).length ((bs).map byv)].flatMap Asr.ids) [blk bp (.cells #[.pointer (some ⟨bp,0,none⟩),v'] 79 (0,0)),osl 5 1 v' (bs++textB s).length ((bs++textB s).map byv)] [] w':=by
 refine enter Tryz.func34 O 13 O O ?_
 refine CE hw ?_
 refine Cs (Cr (V0 (Ym O) (V0 (Ym O) (V0 (yl_lens us9 O) (Lf 1 O (Lf 1 O ?_))))))
 refine Lw (ι:=Value) [_,_] _ Y O en36 O O (fun _=>.tuple #[]) (fun v'=>[blk bp (.cells #[.pointer (some ⟨bp,0,none⟩),v'] 79 (0,0)),osl 5 1 v' (bs++[byO s.length]).length ((bs++[byO s.length]).map byv)]) (fun _=>True) [] (by simp) (fun w hw=>penByte_any bp q v bs s.length w hq (by omega) hw) ?_
 intro v7 _
 refine Ln (Et (Cr (V0 (Ym O) (V0 (yl_nil O) (V0 (Yf fo79_0 O) (V0 (Ym O) (Lf 1 O ?_)))))))
 refine Lf 1 O ?_
 refine Lw (ι:=Value) [_,_] _ Y O en75 O O (fun _=>.tuple #[.int .i64 s.length,.nilIface]) (fun v'=>[blk bp (.cells #[.pointer (some ⟨bp,0,none⟩),v'] 79 (0,0)),osl 5 1 v' (bs++[byO s.length]++s).length ((bs++[byO s.length]++s).map byv)]) (fun _=>True) [] (by simp) (fun w hw=>writeString_any bp (some ⟨bp,0,none⟩) v7 (bs++[byO s.length]) s w (.inr O) (by simp; omega) hw) ?_
 intro v12 _
 refine Ln ?_
 refine E0 O fun w' hw=>?_
 refine ⟨v12,O,trivial,?_⟩
 have e:bs++textB s=bs++[byO s.length]++s:=by simp [textB]
 rw [e]
 exact hw
theorem builderString_any (bp:Nat) (q:Option Addr) (v:Value) (bs:List UInt8) (h0:bs≠[]) (w:World) (hq:q=none∨q=some ⟨bp,0,none⟩) (hb:bs.length+1≤1099511627776) (hw:Ws w ([blk bp (.cells #[.pointer (q),v] 79 (0,0)),osl 5 1 v (bs).length ((bs).map byv)].flatMap Asr.ids) [blk bp (.cells #[.pointer (q),v] 79 (0,0)),osl 5 1 v (bs).length ((bs).map byv)] [] w) :
   Calls Tryz.prog 38 #[.pointer (some ⟨bp,0,none⟩)] w fun e w'=>e = .returned (st bs)∧Ws w ([blk bp (.cells #[.pointer (q),v] 79 (0,0)),osl 5 1 v (bs).length ((bs).map byv)].flatMap Asr.ids) [] [] w':=by
 have hlen:0<bs.length:=List.length_pos_iff.2 h0
 refine enter Tryz.func38 O 14 O O ?_
 refine CE hw ?_
 refine Cs (Cr (V0 (Ya O) (Ln (Et (Cs ?_)))))
 refine WC.shape 1 O hlen fun bf cf hvf hcf hmf=>?_
 subst hvf
 refine WC.draws1 1 [(0,true),(1,true),(2,true),(3,true),(5,true),(6,true),(7,true),(8,true),(9,true),(4,false),(10,false),(11,true)] mixed (by kernel_rfl) (fun _ _ _ d _ h=>by cases d<;>exact h) ?_
 refine D0 O (Wp 1) (Ym O) (D0 O (Wp 1) (yl_nil O) (D0 O (Wp 1) (Yf fo77_1 O) (D0 O (Wp 1) (Yd 0 O O O na75) (D0 O (Wp 1) (Ym O) (D0 O (Wp 1) (yl_nil O) ?_)))))
 refine D0 O (Wp 1) (Yf fo77_1 O) (D0 O (Wp 1) (Yd 0 O O O na75) (D0 O (Wp 1) (Yn es75 O) ?_))
 refine De O (Wp 1) ?_
 refine V0 (yl_sld (by omega) O) ?_
 refine Ln (Ed ?_)
 refine De O (Wp 1) ?_
 refine WL.ustr 1 Y O up143 c1_5 O O O O h0 (by omega) ?_
 refine Ln (Ed (D0 O (Wp 1) (Ya O) ?_))
 refine WD.nil (Wp 1) ?_
 refine Et (Crt ?_)
 refine R1 O O fun w' hw=>?_
 exact ⟨O,Wd 1 hw⟩
theorem builderLen_any (bp:Nat) (q:Option Addr) (v:Value) (bs:List UInt8)  (w:World) (hq:q=none∨q=some ⟨bp,0,none⟩) (hb:bs.length+0≤1099511627776) (hw:Ws w ([blk bp (.cells #[.pointer (q),v] 79 (0,0)),osl 5 1 v (bs).length ((bs).map byv)].flatMap Asr.ids) [blk bp (.cells #[.pointer (q),v] 79 (0,0)),osl 5 1 v (bs).length ((bs).map byv)] [] w) :
   Calls Tryz.prog 37 #[.pointer (some ⟨bp,0,none⟩)] w fun e w'=>e = .returned (.int .i64 (bs.length:Int))∧Ws w ([blk bp (.cells #[.pointer (q),v] 79 (0,0)),osl 5 1 v (bs).length ((bs).map byv)].flatMap Asr.ids) [blk bp (.cells #[.pointer (q),v] 79 (0,0)),osl 5 1 v (bs).length ((bs).map byv)] [] w':=by
 refine enter Tryz.func37 O 8 O O ?_
 refine CE hw ?_
 refine Cs (Cr (V0 (Ya O) (Ln (Et (Cs (Cr (V0 (Ym O) (V0 (yl_nil O) (V0 (Yf fo77_1 O) ?_)))))))))
 refine V0 (Yd 0 O O O na75) ?_
 refine WL.slcm 1 O fun a6 c6 hv6=>?_
 subst hv6
 refine V0 (Yn es75 O) (V0 (Ya O) (Ln (Et (Crt ?_))))
 refine R1 O O fun w' hw=>?_
 exact ⟨O,hw⟩
theorem penNums_any (H:View) (a:Option Addr) (c:Nat) (l:List Int) (bp:Nat) (q:Option Addr) (v:Value) (bs:List UInt8) (w:World) (hm:Sl rdN1 1 H a c l) (hq:q=none∨q=some ⟨bp,0,none⟩) (hb:bs.length+l.length*8≤1099511627776) (hw:Ws w ([blk bp (.cells #[.pointer (q),v] 79 (0,0)),osl 5 1 v (bs).length ((bs).map byv)].flatMap Asr.ids) [blk bp (.cells #[.pointer (q),v] 79 (0,0)),osl 5 1 v (bs).length ((bs).map byv)] [H] w) :
   Calls Tryz.prog 35 #[.pointer (some ⟨bp,0,none⟩),.slice a l.length c] w fun e w'=>∃r:Option Addr×Value,e = .returned (.tuple #[])∧(r.1=none∨r.1=some ⟨bp,0,none⟩)∧Ws w ([blk bp (.cells #[.pointer (q),v] 79 (0,0)),osl 5 1 v (bs).length ((bs).map byv)].flatMap Asr.ids) [blk bp (.cells #[.pointer (r.1),r.2] 79 (0,0)),osl 5 1 r.2 (bs++l.flatMap num8).length ((bs++l.flatMap num8).map byv)] [H] w':=by
 have hcap:=hm.cap
 have hmax:=hm.max
 refine enter Tryz.func35 O 23 O O ?_
 refine CE hw ?_
 refine Cs (Cr (V0 (Ym O) (V0 (Yn es25 O) (V0 (Ym O) (Ln (Et (Cb ?_)))))))
 refine CLk (ι:=Nat×Option Addr×Value) (fun g=>[(9,.int .i64 (g.1:Int))]) [(0,_),(7,_),(8,_)] (fun g=>Ws w ([blk bp (.cells #[.pointer (q),v] 79 (0,0)),osl 5 1 v (bs).length ((bs).map byv)].flatMap Asr.ids) [blk bp (.cells #[.pointer (g.2.1),g.2.2] 79 (0,0)),osl 5 1 g.2.2 (bs++(l.take g.1).flatMap num8).length ((bs++(l.take g.1).flatMap num8).map byv)] [H]) (fun g=>g.1≤l.length∧(g.2.1=none∨g.2.1=some ⟨bp,0,none⟩)) (fun g=>l.length-g.1) (0,q,v) ⟨Nat.zero_le _,hq⟩ (sc O (sc O (sc O (sc O sn)))) (fun _ h=>by simpa using h) ?_
 intro g ⟨hi,hp⟩
 refine Cs (Cr (V0 (yl_lt O O) (Ln (Et (Cs ?_)))))
 refine Cc O (fun hc0=>?_) (fun hc0=>?_)
 ·
  have hlt:g.1<l.length:=by simpa using hc0
  obtain ⟨x,hx⟩:∃x,l[g.1]? = some x:=⟨_,List.getElem?_eq_getElem hlt⟩
  obtain ⟨pb,po,ha,hrow⟩:=hm.elt g.1 x hx
  have hrow:RdC H pb (po+g.1*1) (n1C x):=hrow
  refine Ck (Et (Cs (Cb (Cs (Cr ?_)))))
  refine V0 (Yo es25 O O ha (by omega)) ?_
  refine V0 (yl_ld 0 na3 O O (hrow 0 _ O)) (V0 (Ya O) (Ln (Et (Cs (Cr (V0 (Ya O) (Ln (Et (Cb ?_)))))))))
  refine CLk (ι:=Nat×Option Addr×Value) (fun k=>[(6,.int .i64 (56-8*(k.1:Int)))]) [(0,_),(5,_),(7,_),(8,_),(9,_)] (fun k=>Ws w ([blk bp (.cells #[.pointer (q),v] 79 (0,0)),osl 5 1 v (bs).length ((bs).map byv)].flatMap Asr.ids) [blk bp (.cells #[.pointer (k.2.1),k.2.2] 79 (0,0)),osl 5 1 k.2.2 (bs++(l.take g.1).flatMap num8++bitsB x k.1).length ((bs++(l.take g.1).flatMap num8++bitsB x k.1).map byv)] [H]) (fun k=>k.1≤8∧(k.2.1=none∨k.2.1=some ⟨bp,0,none⟩)) (fun k=>8-k.1) (0,g.2.1,g.2.2) ⟨Nat.zero_le _,hp⟩ (sc O (sc O (sc O (sc O (sc O (sc O sn)))))) (fun _ h=>by simpa [bitsB] using h) ?_
  intro k ⟨hk,hp2⟩
  refine Cs (Cs (Cr (V0 (Ym O) (V0 (yl_ge O O) (Ln (Et ?_))))))
  refine Cc O (fun hc1=>?_) (fun hc1=>?_)
  ·
   have hk8:k.1<8:=by simp at hc1; omega
   refine Ck (Et (Cs (Cb (Cr (V0 (Ym O) (V0 (Ym O) (V0 (Ym O) ?_)))))))
   refine V0 (yl_shr O O (by omega)) ?_
   refine Lf 1 O (Lf 1 O ?_)
   refine Lw (ι:=Value) [_,_] _ Y O en36 O O (fun _=>.tuple #[]) (fun v'=>[blk bp (.cells #[.pointer (some ⟨bp,0,none⟩),v'] 79 (0,0)),osl 5 1 v' (bs++(l.take g.1).flatMap num8++bitsB x k.1++[byO (x.fdiv (2 ^ (56-8*k.1)))]).length ((bs++(l.take g.1).flatMap num8++bitsB x k.1++[byO (x.fdiv (2 ^ (56-8*k.1)))]).map byv)]) (fun _=>True) [] (by simp) (fun w hw=>by
       have:=penByte_any bp k.2.1 k.2.2 (bs++(l.take g.1).flatMap num8++bitsB x k.1) (x.fdiv (2 ^ (56-8*k.1))) w hp2 (by simp only [List.length_append,nums_len,bits_len,List.length_take,List.length_singleton]; omega) hw
       have e:min (56-8*(k.1:Int)).toNat IntKind.i64.bits=56-8*k.1:=by simp [IntKind.bits]; omega
       rw [e]
       exact this) ?_
   intro v21 _
   refine Ln (Eb (Et (Cr (V0 (Ym O) ?_))))
   refine V0 (yl_subv (56-8*((k.1+1:Nat):Int)) O O (by omega) (by omega)) ?_
   refine V0 (Ya O) (Ln ?_)
   exact Ea ((k.1+1,some ⟨bp,0,none⟩,v21):Nat×Option Addr×Value) (by first | omega | (dsimp only; omega)) ⟨by first | omega | (dsimp only; omega),.inr O⟩ (sc O (sc O (sc O (sc O (sc O (sc O sn)))))) (fun _ h=>by
     have e:=bits_succ x k.1
     show Ws _ _ [blk bp (.cells #[.pointer (some ⟨bp,0,none⟩),v21] 79 (0,0)),osl 5 1 v21 (bs++(l.take g.1).flatMap num8++bitsB x (k.1+1)).length ((bs++(l.take g.1).flatMap num8++bitsB x (k.1+1)).map byv)] _ _
     rw [e,←List.append_assoc]
     exact h)
  have hk8:k.1=8:=by simp at hc1; omega
  refine Ce (Ex (Ex (Ebh (Eb (Et (Cr ?_))))))
  refine V0 (Yi O O O (by omega)) ?_
  refine V0 (Ym O) (Ln ?_)
  exact Ea ((g.1+1,k.2.1,k.2.2):Nat×Option Addr×Value) (by first | omega | (dsimp only; omega)) ⟨by first | omega | (dsimp only; omega),hp2⟩ (sc O (sc O (sc O (sc O sn)))) (fun _ h=>by
    have e:bs++(l.take g.1).flatMap num8++bitsB x k.1=bs++(l.take (g.1+1)).flatMap num8:=by
      rw [hk8,bits8,List.take_add_one,hx]; simp
    rw [e] at h
    exact h)
 have hie:g.1=l.length:=by simp at hc0; omega
 refine Ce (Ex (Ex (Ebh ?_)))
 refine E0 O fun w' hw=>?_
 rw [hie,List.take_length] at hw
 exact ⟨(g.2.1,g.2.2),O,hp,hw⟩
theorem numBytes_any (n:Int) (w:World) :
   Calls Tryz.prog 78 #[.int .i64 n] w fun e w'=>e = .returned (st (num8 n))∧Ext w w':=by
 refine enter Tryz.func78 O 28 O O ?_
 refine CE (Vs:=[]) (Ws.init (by simp)) ?_
 refine Cs (Cr (V0 (Ya O) (Ln (Et (Cs (Cr (V0 (Ym O) ?_)))))))
 refine V0 (yl_shrk 56 O O (by decide)) ?_
 refine V0 (yl_cvi ui3 ui5 O) (V0 (Ym O) ?_)
 refine V0 (yl_shrk 48 O O (by decide)) ?_
 refine V0 (yl_cvi ui3 ui5 O) (V0 (Ym O) ?_)
 refine V0 (yl_shrk 40 O O (by decide)) ?_
 refine V0 (yl_cvi ui3 ui5 O) (V0 (Ym O) ?_)
 refine V0 (yl_shrk 32 O O (by decide)) ?_
 refine V0 (yl_cvi ui3 ui5 O) (V0 (Ym O) ?_)
 refine V0 (yl_shrk 24 O O (by decide)) ?_
 refine V0 (yl_cvi ui3 ui5 O) (V0 (Ym O) ?_)
 refine V0 (yl_shrk 16 O O (by decide)) ?_
 refine V0 (yl_cvi ui3 ui5 O) (V0 (Ym O) ?_)
 refine V0 (yl_shrk 8 O O (by decide)) ?_
 refine V0 (yl_cvi ui3 ui5 O) (V0 (Ym O) (V0 (yl_cvi ui3 ui5 O) ?_))
 refine Lb Y O el75 O O O O fun b26=>?_
 refine Lrb 0 (.cells ((num8 n).map byv).toArray 5 (0,0)) O (num8_cells n 5) ?_
 refine V0 (yl_b2s 0 usl75 ui5 us9 O O O) (V0 (Ya O) (Ln (Et (Crt ?_))))
 refine R1 O O fun w' hw=>?_
 exact ⟨O,hw.fr⟩
theorem textBytes_any (s:List UInt8) (w:World) (hs:s.length≤1099511627776) :
   Calls Tryz.prog 77 #[st s] w fun e w'=>e = .returned (st (textB s))∧Ext w w':=by
 refine enter Tryz.func77 O 10 O O ?_
 refine CE (Vs:=[]) (Ws.init (by simp)) ?_
 refine Cs (Cr (V0 (Ya O) (Ln (Et (Cs (Cr (V0 (Ym O) (V0 (yl_lens us9 O) (V0 (yl_cvi ui3 ui5 O) ?_)))))))))
 refine Lb Y O el75 O O O O fun b6=>?_
 refine Lrb 0 (.cells ([byO s.length].map byv).toArray 5 (0,0)) O (one_cell _ 5) ?_
 refine V0 (yl_b2s 0 usl75 ui5 us9 O O O) (V0 (Ym O) ?_)
 refine V0 (yl_cats O O (by simp; omega)) ?_
 refine V0 (Ya O) (Ln (Et (Crt ?_)))
 refine R1 O O fun w' hw=>?_
 exact ⟨O,hw.fr⟩
theorem noByte_nat (p:List UInt8×Bool):∃m:Nat,m<256∧(noByte p).1=(m:Int):=by
 unfold noByte
 cases p.1 with
 | nil=>exact ⟨0,by decide,rfl⟩
 | cons x r=>exact ⟨x.toNat,x.toNat_lt,rfl⟩
theorem noByte_le (p:List UInt8×Bool):(noByte p).2.1.length≤p.1.length:=by
 unfold noByte
 cases hp:p.1 with
 | nil=>simp
 | cons x r=>simp
theorem noText_le (p:List UInt8×Bool):(noText p).2.1.length≤p.1.length:=by
 have:=noByte_le p
 unfold noText
 split<;>simp<;>omega
theorem noNumK_le:∀(k:Nat) (n:Int) (p:List UInt8×Bool),(noNumK k n p).2.1.length≤p.1.length
 | 0,_,_=>Nat.le_refl _
 | k+1,n,p=>Nat.le_trans (noNumK_le k _ _) (noByte_le p)
theorem noNum_le (p:List UInt8×Bool):(noNum p).2.1.length≤p.1.length:=noNumK_le 8 0 p
theorem noCount_le (p:List UInt8×Bool):(noCount p).2.1.length≤p.1.length:=by
 have:=noNum_le p
 unfold noCount
 split<;>simpa using this
theorem noIns_le (p:List UInt8×Bool):(noIns p).2.1.length≤p.1.length:=Nat.le_trans (noNum_le _) (Nat.le_trans (noNum_le _) (noByte_le _))
theorem noFix_le (p:List UInt8×Bool):(noFix p).2.1.length≤p.1.length:=Nat.le_trans (noNum_le _) (Nat.le_trans (noByte_le _) (noNum_le _))
theorem noCount_max (p:List UInt8×Bool):(noCount p).1≤32768:=by
 unfold noCount
 split
 · simp
 · show (noNum p).1.toNat≤_; omega
theorem fo100_0:fieldOff Tryz.prog 100 0=some 0:=by kernel_rfl
theorem fo100_1:fieldOff Tryz.prog 100 1=some 1:=by kernel_rfl
theorem sz4:sizeP Tryz.prog 4=some 1:=by kernel_rfl
theorem en57:Enters Tryz.prog 57:=enters_of Tryz.func57 (by kernel_rfl) rfl
theorem en56:Enters Tryz.prog 56:=enters_of Tryz.func56 (by kernel_rfl) rfl
theorem noByte_any (bn:Nat) (p:List UInt8×Bool) (w:World) (hs:p.1.length≤9223372036854775807) (hw:Ws w [bn] [blk bn (.cells #[st (p).1,.bool (p).2] 100 (0,0))] [] w) :
   Calls Tryz.prog 57 #[.pointer (some ⟨bn,0,none⟩)] w fun e w'=>e = .returned (.int .i64 (noByte p).1)∧Ws w [bn] [blk bn (.cells #[st ((noByte p).2).1,.bool ((noByte p).2).2] 100 (0,0))] [] w':=by
 refine enter Tryz.func57 O 27 O O ?_
 refine CE hw ?_
 refine Cs (Cr (V0 (Ya O) (Ln (Et (Cs (Cs (Cr (V0 (Ym O) (V0 (yl_nil O) (V0 (Yf fo100_0 O) ?_))))))))))
 refine V0 (Yd 0 O O O na9) (V0 (yl_eqs O O) (Ln (Et ?_)))
 refine Cc O (fun hc0=>?_) (fun hc0=>?_)
 ·
  obtain ⟨s,b⟩:=p
  obtain rfl:s=[]:=by simpa using hc0
  refine Cs (Cr (V0 (Ym O) (V0 (yl_nil O) (V0 (Yf fo100_1 O) (Lst 0 Y O O O sz4 O O O (Ln (Et (Cs (Cr ?_)))))))))
  refine V0 (Ya O) (Ln (Et (Crt (Er ?_))))
  refine R1 O O fun w' hw=>?_
  exact ⟨O,hw⟩
 obtain ⟨s,b⟩:=p
 obtain ⟨x,q,rfl⟩:∃x q,s=x::q:=by
   cases s with
   | nil=>simp at hc0
   | cons x q=>exact ⟨x,q,rfl⟩
 refine Ck (Et (Cs (Cr (V0 (Ym O) (V0 (yl_nil O) (V0 (Yf fo100_0 O) (V0 (Yd 0 O O O na9) (V0 (yl_idxk us9 O O (u:=x) O) ?_))))))))
 refine V0 (yl_cvi ui5 ui3 O) (V0 (Ya O) (Ln (Et (Cs (Cr (V0 (Ym O) (V0 (Ym O) (V0 (yl_nil O) ?_))))))))
 refine V0 (Yf fo100_0 O) (V0 (Yd 0 O O O na9) ?_)
 refine V0 (yl_sst us9 O O (by decide) (by simp; omega)) ?_
 refine V0 (yl_nil O) (V0 (Yf fo100_0 O) (Lst 0 Y O O O sz9 O O O (Ln (Et (Cs (Cr (V0 (Ym O) (V0 (Ya O) ?_))))))))
 refine Ln (Et (Crt ?_))
 refine R1 O O fun w' hw=>?_
 refine ⟨?_,hw⟩
 rw [show IntKind.i64.wrap (x.toNat:Int)=(x.toNat:Int) from wrap_in (by have:=x.toNat_lt; omega)]
 rfl
theorem noText_any (bn:Nat) (p:List UInt8×Bool) (w:World) (hs:p.1.length≤9223372036854775807) (hw:Ws w [bn] [blk bn (.cells #[st (p).1,.bool (p).2] 100 (0,0))] [] w) :
   Calls Tryz.prog 54 #[.pointer (some ⟨bn,0,none⟩)] w fun e w'=>e = .returned (st (noText p).1)∧Ws w [bn] [blk bn (.cells #[st ((noText p).2).1,.bool ((noText p).2).2] 100 (0,0))] [] w':=by
 refine enter Tryz.func54 O 33 O O ?_
 refine CE hw ?_
 refine Cs (Cr (V0 (Ya O) (Ln (Et (Cs (Cr (V0 (Ym O) (Lf 0 O ?_))))))))
 refine Lw (ι:=Unit) [_] _ Y O en57 O O (fun _=>.int .i64 (noByte p).1) (fun _=>[blk bn (.cells #[st ((noByte p).2).1,.bool ((noByte p).2).2] 100 (0,0))]) (fun _=>True) [] (by simp) (fun w hw=>(noByte_any bn p w hs hw).mono fun e w' h=>⟨(),h.1,trivial,h.2⟩) ?_
 intro _ _
 have hb:=noByte_le p
 obtain ⟨m,hm,hm1⟩:=noByte_nat p
 refine V0 (Ya O) (Ln (Et (Cs (Cs (Cr (V0 (Ym O) (V0 (Ym O) (V0 (yl_nil O) (V0 (Yf fo100_0 O) ?_)))))))))
 refine V0 (Yd 0 O O O na9) (V0 (yl_lens us9 O) (V0 (yl_gt O O) (Ln (Et ?_))))
 refine Cc O (fun hc0=>?_) (fun hc0=>?_)
 ·
  have hlt:((noByte p).2.1.length:Int)<(noByte p).1:=by simpa using hc0
  refine Cs (Cr (V0 (Ym O) (V0 (yl_nil O) (V0 (Yf fo100_1 O) (Lst 0 Y O O O sz4 O O O (Ln (Et (Cs (Cr ?_)))))))))
  refine V0 (Ya O) (Ln (Et (Crt (Er ?_))))
  refine R1 O O fun w' hw=>?_
  have e:noText p=([],((noByte p).2.1,true)):=by rw [noText,if_pos hlt]
  rw [e]
  exact ⟨O,hw⟩
 have hlt:¬((noByte p).2.1.length:Int)<(noByte p).1:=by simpa using hc0
 refine Ck (Et (Cs (Cr (V0 (Ym O) (V0 (yl_nil O) (V0 (Yf fo100_0 O) (V0 (Yd 0 O O O na9) (V0 (Ym O) ?_))))))))
 refine V0 (yl_ssh us9 O O (by omega) (by omega)) ?_
 refine V0 (Ya O) (Ln (Et (Cs (Cr (V0 (Ym O) (V0 (Ym O) (V0 (yl_nil O) (V0 (Yf fo100_0 O) ?_))))))))
 refine V0 (Yd 0 O O O na9) (V0 (Ym O) ?_)
 refine V0 (yl_sst us9 O O (by omega) (by omega)) ?_
 refine V0 (yl_nil O) (V0 (Yf fo100_0 O) (Lst 0 Y O O O sz9 O O O (Ln (Et (Cs (Cr (V0 (Ym O) (V0 (Ya O) ?_))))))))
 refine Ln (Et (Crt ?_))
 refine R1 O O fun w' hw=>?_
 have e:noText p=((noByte p).2.1.take (noByte p).1.toNat,((noByte p).2.1.drop (noByte p).1.toNat,(noByte p).2.2)):=by rw [noText,if_neg hlt]
 rw [e]
 exact ⟨O,hw⟩
theorem noNum_any (bn:Nat) (p:List UInt8×Bool) (w:World) (hs:p.1.length≤9223372036854775807) (hw:Ws w [bn] [blk bn (.cells #[st (p).1,.bool (p).2] 100 (0,0))] [] w) :
   Calls Tryz.prog 56 #[.pointer (some ⟨bn,0,none⟩)] w fun e w'=>e = .returned (.int .i64 (noNum p).1)∧Ws w [bn] [blk bn (.cells #[st ((noNum p).2).1,.bool ((noNum p).2).2] 100 (0,0))] [] w':=by
 refine enter Tryz.func56 O 15 O O ?_
 refine CE hw ?_
 refine Cs (Cr (V0 (Ya O) (Ln (Et (Cs (Cr (V0 (Ya O) (Ln (Et (Cs (Cs (Cr (V0 (Ya O) ?_)))))))))))))
 refine Ln (Et (Cb ?_))
 refine CLk (ι:=Nat×Int×(List UInt8×Bool)) (fun g=>[(4,.int .i64 (g.1:Int)),(3,.int .i64 g.2.1)]) [(0,_),(2,_)] (fun g=>Ws w [bn] [blk bn (.cells #[st (g.2.2).1,.bool (g.2.2).2] 100 (0,0))] []) (fun g=>g.1≤8∧g.2.2.1.length≤9223372036854775807∧noNum p=noNumK (8-g.1) g.2.1 g.2.2) (fun g=>8-g.1) (0,0,p) ⟨Nat.zero_le _,hs,O⟩ (sc O (sc O (sc O (sc O sn)))) (fun _ h=>h) ?_
 intro g ⟨hi,hgs,hG⟩
 refine Cs (Cs (Cr (V0 (Ym O) (V0 (yl_lt O O) (Ln (Et ?_))))))
 refine Cc O (fun hc0=>?_) (fun hc0=>?_)
 ·
  have hlt:g.1<8:=by simp at hc0; omega
  obtain ⟨m,hm,hm1⟩:=noByte_nat g.2.2
  refine Ck (Et (Cs (Cb (Cr (V0 (Ym O) ?_)))))
  refine V0 (yl_shlk 8 O O (by decide)) ?_
  refine V0 (Ym O) (Lf 0 O ?_)
  refine Lw (ι:=Unit) [_] _ Y O en57 O O (fun _=>.int .i64 (noByte g.2.2).1) (fun _=>[blk bn (.cells #[st ((noByte g.2.2).2).1,.bool ((noByte g.2.2).2).2] 100 (0,0))]) (fun _=>True) [] (by simp) (fun w hw=>(noByte_any bn g.2.2 w hgs hw).mono fun e w' h=>⟨(),h.1,trivial,h.2⟩) ?_
  intro _ _
  refine V0 (yl_or8 (n:=g.2.1) (b:=m) O (by rw [←hm1]; rfl) hm) ?_
  refine V0 (Ya O) (Ln (Eb (Et (Cr (V0 (Ym O) ?_)))))
  refine V0 (Yi O O O (by omega)) ?_
  refine V0 (Ya O) (Ln ?_)
  exact Ea ((g.1+1,IntKind.i64.wrap (g.2.1*256+m),(noByte g.2.2).2):Nat×Int×(List UInt8×Bool)) (by first | omega | (dsimp only; omega)) ⟨by first | omega | (dsimp only; omega),by have:=noByte_le g.2.2; dsimp only; omega,by
      obtain ⟨k,hk⟩:∃k,8-g.1=k+1:=⟨8-g.1-1,by omega⟩
      rw [hG,hk,show 8-(g.1+1)=k by omega,←hm1]; rfl⟩ (sc rfl (sc rfl (sc rfl (sc rfl sn)))) (fun _ h=>h)
 have hie:g.1=8:=by simp at hc0; omega
 refine Ce (Ex (Ex (Ebh (Et (Cs (Cr (V0 (Ym O) (V0 (Ya O) (Ln (Et (Crt ?_)))))))))))
 refine R1 O O fun w' hw=>?_
 rw [hie] at hG
 rw [hG]
 exact ⟨O,hw⟩
theorem noCount_any (bn:Nat) (p:List UInt8×Bool) (w:World) (hs:p.1.length≤9223372036854775807) (hw:Ws w [bn] [blk bn (.cells #[st (p).1,.bool (p).2] 100 (0,0))] [] w) :
   Calls Tryz.prog 55 #[.pointer (some ⟨bn,0,none⟩)] w fun e w'=>e = .returned (.int .i64 (((noCount p).1:Nat):Int))∧Ws w [bn] [blk bn (.cells #[st ((noCount p).2).1,.bool ((noCount p).2).2] 100 (0,0))] [] w':=by
 refine enter Tryz.func55 O 13 O O ?_
 refine CE hw ?_
 refine Cs (Cr (V0 (Ya O) (Ln (Et (Cs (Cr (V0 (Ym O) (Lf 0 O ?_))))))))
 refine Lw (ι:=Unit) [_] _ Y O en56 O O (fun _=>.int .i64 (noNum p).1) (fun _=>[blk bn (.cells #[st ((noNum p).2).1,.bool ((noNum p).2).2] 100 (0,0))]) (fun _=>True) [] (by simp) (fun w hw=>(noNum_any bn p w hs hw).mono fun e w' h=>⟨(),h.1,trivial,h.2⟩) ?_
 intro _ _
 refine V0 (Ya O) (Ln (Et (Cs (Cs (Cr (V0 (Ym O) ?_))))))
 refine Lp Y O en31 O (fun w hw=>within_any _ _ _ w) ?_
 refine V0 (yl_not O) (Ln (Et ?_))
 refine Cc O (fun hc0=>?_) (fun hc0=>?_)
 ·
  have hlt:(noNum p).1<0∨32768<(noNum p).1:=by
    have h9:=hc0
    simp [within] at h9
    omega
  have e:noCount p=(0,((noNum p).2.1,true)):=by rw [noCount,if_pos hlt]
  refine Cs (Cr (V0 (Ym O) (V0 (yl_nil O) (V0 (Yf fo100_1 O) (Lst 0 Y O O O sz4 O O O (Ln (Et (Cs (Cr ?_)))))))))
  refine V0 (Ya O) (Ln (Et (Crt (Er ?_))))
  refine R1 O O fun w' hw=>?_
  rw [e]
  exact ⟨O,hw⟩
 have hlt:¬((noNum p).1<0∨32768<(noNum p).1):=by
   have h9:=hc0
   simp [within] at h9
   omega
 have e:noCount p=((noNum p).1.toNat,(noNum p).2):=by rw [noCount,if_neg hlt]
 refine Ck (Et (Cs (Cr (V0 (Ym O) (V0 (Ya O) (Ln (Et (Crt ?_))))))))
 refine R1 O O fun w' hw=>?_
 rw [e]
 refine ⟨?_,hw⟩
 dsimp only
 rw [Int.toNat_of_nonneg (by omega)]
def brkG:List PanicEntry:=[⟨.iface 184 (.agg #[]),false,false⟩]
theorem fo147_0:fieldOff Tryz.prog 147 0=some 0:=by kernel_rfl
theorem pl184:placesP Tryz.prog 184=some []:=by kernel_rfl
theorem zr184:zeroOf Tryz.prog 184=some (.agg #[]):=by kernel_rfl
theorem co184:Tryz.prog.concrete 184=true:=by kernel_rfl
theorem en80:Enters Tryz.prog 80:=enters_of Tryz.func80 (by kernel_rfl) rfl
theorem en47:Enters Tryz.prog 47:=enters_of Tryz.func47 (by kernel_rfl) rfl
theorem na5:nonAgg Tryz.prog 5=true:=by kernel_rfl
theorem take_any (bg:Nat) (s:List UInt8) (n:Nat) (w:World) (hs:s.length≤9223372036854775807) (hw:Ws w [bg] [blk bg (.cells #[st (s)] 147 (0,0))] [] w)  :
   Calls Tryz.prog 80 #[.pointer (some ⟨bg,0,none⟩),.int .i64 (n:Int)] w fun e w'=>(∃r:List UInt8×List UInt8,e = .returned (st r.1)∧(if s.length<n then none else some (s.take n,s.drop n))=some r∧Ws w [bg] [blk bg (.cells #[st (r.2)] 147 (0,0))] [] w')∨(∃t:List UInt8,e = .panicked brkG∧(if s.length<n then none else some (s.take n,s.drop n))=none∧Ws w [bg] [blk bg (.cells #[st (t)] 147 (0,0))] [] w'):=by
 refine enter Tryz.func80 O 31 O O ?_
 refine CE hw ?_
 refine Cs (Cr (V0 (Ya O) (Ln (Et (Cs (Cs (Cr (V0 (Ym O) (V0 (Ym O) (V0 (yl_nil O) ?_))))))))))
 refine V0 (Yf fo147_0 O) (V0 (Yd 0 O O O na9) (V0 (yl_lens us9 O) (V0 (yl_gt O O) (Ln (Et ?_)))))
 refine Cc O (fun hc0=>?_) (fun hc0=>?_)
 ·
  have hlt:s.length<n:=by simpa using hc0
  refine Cr (V0 (Yb zr184 pl184 O O) (V0 (yl_mki co184 O) ?_))
  refine WL.panic Y O ?_
  refine Ep ?_
  refine Epp fun w' hw=>?_
  exact .inr ⟨s,O,by rw [if_pos hlt],hw⟩
 have hlt:¬s.length<n:=by simpa using hc0
 refine Ck (Et (Cs (Cr (V0 (Ym O) (V0 (yl_nil O) (V0 (Yf fo147_0 O) (V0 (Yd 0 O O O na9) (V0 (Ym O) ?_))))))))
 refine V0 (yl_ssh us9 O O (by omega) (by omega)) ?_
 refine V0 (Ya O) (Ln (Et (Cs (Cr (V0 (Ym O) (V0 (Ym O) (V0 (yl_nil O) (V0 (Yf fo147_0 O) ?_))))))))
 refine V0 (Yd 0 O O O na9) (V0 (Ym O) ?_)
 refine V0 (yl_sst us9 O O (by omega) (by omega)) ?_
 refine V0 (yl_nil O) (V0 (Yf fo147_0 O) (Lst 0 Y O O O sz9 O O O (Ln (Et (Cs (Cr (V0 (Ym O) (V0 (Ya O) ?_))))))))
 refine Ln (Et (Crt ?_))
 refine R1 O O fun w' hw=>?_
 exact .inl ⟨(s.take n,s.drop n),O,by rw [if_neg hlt],hw⟩
theorem glByte_any (bg:Nat) (s:List UInt8)  (w:World) (hs:s.length≤9223372036854775807) (hw:Ws w [bg] [blk bg (.cells #[st (s)] 147 (0,0))] [] w) :
   Calls Tryz.prog 47 #[.pointer (some ⟨bg,0,none⟩)] w fun e w'=>(∃r:Int×List UInt8,e = .returned (.int .i64 r.1)∧glByte s=some r∧Ws w [bg] [blk bg (.cells #[st (r.2)] 147 (0,0))] [] w')∨(∃t:List UInt8,e = .panicked brkG∧glByte s=none∧Ws w [bg] [blk bg (.cells #[st (t)] 147 (0,0))] [] w'):=by
 refine enter Tryz.func47 O 7 O O ?_
 refine CE hw ?_
 refine Cs (Cr (V0 (Ya O) (Ln (Et (Cs (Cr (V0 (Ym O) (Lf 0 O ?_))))))))
 refine Lwx (ι:=List UInt8×List UInt8) (κ:=List UInt8) [_] _ Y O en80 O O (fun r=>st r.1) (fun r=>[blk bg (.cells #[st (r.2)] 147 (0,0))]) (fun r=>(if s.length<1 then none else some (s.take 1,s.drop 1))=some r) (fun _=>brkG) (fun t=>[blk bg (.cells #[st (t)] 147 (0,0))]) (fun _=>(if s.length<1 then none else some (s.take 1,s.drop 1))=none) ([]) (by simp) (fun w hw=>take_any bg (s) 1 w hs hw) ?_ ?_
 ·
  intro t ht
  refine Ep ?_
  refine Epp fun w' hw=>?_
  exact .inr ⟨t,O,(by cases s with | nil=>rfl | cons x q=>simp at ht),hw⟩
 intro r hr
 obtain ⟨x,q,rfl⟩:∃x q,s=x::q:=by
   cases s with
   | nil=>simp at hr
   | cons x q=>exact ⟨x,q,rfl⟩
 obtain rfl:r=([x],q):=by simp at hr; exact hr.symm
 refine V0 (yl_idxk us9 O O (u:=x) O) (V0 (yl_cvi ui5 ui3 O) (V0 (Ya O) (Ln (Et (Crt ?_)))))
 refine R1 O O fun w' hw=>?_
 refine .inl ⟨((x.toNat:Int),q),?_,O,hw⟩
 rw [show IntKind.i64.wrap (x.toNat:Int)=(x.toNat:Int) from wrap_in (by have:=x.toNat_lt; omega)]
theorem glText_any (bg:Nat) (s:List UInt8)  (w:World) (hs:s.length≤9223372036854775807) (hw:Ws w [bg] [blk bg (.cells #[st (s)] 147 (0,0))] [] w) :
   Calls Tryz.prog 42 #[.pointer (some ⟨bg,0,none⟩)] w fun e w'=>(∃r:List UInt8×List UInt8,e = .returned (st r.1)∧glText s=some r∧Ws w [bg] [blk bg (.cells #[st (r.2)] 147 (0,0))] [] w')∨(∃t:List UInt8,e = .panicked brkG∧glText s=none∧Ws w [bg] [blk bg (.cells #[st (t)] 147 (0,0))] [] w'):=by
 refine enter Tryz.func42 O 7 O O ?_
 refine CE hw ?_
 refine Cs (Cr (V0 (Ya O) (Ln (Et (Cs (Cr (V0 (Ym O) (V0 (Ym O) (Lf 0 O ?_)))))))))
 refine Lwx (ι:=Int×List UInt8) (κ:=List UInt8) [_] _ Y O en47 O O (fun r=>.int .i64 r.1) (fun r=>[blk bg (.cells #[st (r.2)] 147 (0,0))]) (fun r=>glByte s=some r) (fun _=>brkG) (fun t=>[blk bg (.cells #[st (t)] 147 (0,0))]) (fun _=>glByte s=none) ([]) (by simp) (fun w hw=>glByte_any bg (s)  w hs hw) ?_ ?_
 ·
  intro t ht
  refine Ep ?_
  refine Epp fun w' hw=>?_
  exact .inr ⟨t,O,(by cases s with | nil=>rfl | cons x q=>cases ht),hw⟩
 intro r hr
 obtain ⟨x,q,rfl⟩:∃x q,s=x::q:=by
   cases s with
   | nil=>cases hr
   | cons x q=>exact ⟨x,q,rfl⟩
 obtain rfl:r=((x.toNat:Int),q):=by simp only [glByte] at hr; injection hr with hr; exact hr.symm
 refine Lf 0 O ?_
 refine Lwx (ι:=List UInt8×List UInt8) (κ:=List UInt8) [_] _ Y O en80 O O (fun r=>st r.1) (fun r=>[blk bg (.cells #[st (r.2)] 147 (0,0))]) (fun r=>(if q.length<x.toNat then none else some (q.take x.toNat,q.drop x.toNat))=some r) (fun _=>brkG) (fun t=>[blk bg (.cells #[st (t)] 147 (0,0))]) (fun _=>(if q.length<x.toNat then none else some (q.take x.toNat,q.drop x.toNat))=none) ([]) (by simp) (fun w hw=>take_any bg (q) x.toNat w (by simp at hs; omega) hw) ?_ ?_
 ·
  intro t ht
  refine Ep ?_
  refine Epp fun w' hw=>?_
  exact .inr ⟨t,O,ht,hw⟩
 intro r hr
 refine V0 (Ya O) (Ln (Et (Crt ?_)))
 refine R1 O O fun w' hw=>?_
 exact .inl ⟨r,O,hr,hw⟩
theorem glNum_any (bg:Nat) (s:List UInt8)  (w:World) (hs:s.length≤9223372036854775807) (hw:Ws w [bg] [blk bg (.cells #[st (s)] 147 (0,0))] [] w) :
   Calls Tryz.prog 44 #[.pointer (some ⟨bg,0,none⟩)] w fun e w'=>(∃r:Int×List UInt8,e = .returned (.int .i64 r.1)∧glNum s=some r∧Ws w [bg] [blk bg (.cells #[st (r.2)] 147 (0,0))] [] w')∨(∃t:List UInt8,e = .panicked brkG∧glNum s=none∧Ws w [bg] [blk bg (.cells #[st (t)] 147 (0,0))] [] w'):=by
 refine enter Tryz.func44 O 21 O O ?_
 refine CE hw ?_
 refine Cs (Cr (V0 (Ya O) (Ln (Et (Cs (Cr (V0 (Ya O) (Ln (Et (Cs (Cs (Cr (V0 (Ym O) ?_)))))))))))))
 refine Lf 0 O ?_
 refine Lwx (ι:=List UInt8×List UInt8) (κ:=List UInt8) [_] _ Y O en80 O O (fun r=>st r.1) (fun r=>[blk bg (.cells #[st (r.2)] 147 (0,0))]) (fun r=>(if s.length<8 then none else some (s.take 8,s.drop 8))=some r) (fun _=>brkG) (fun t=>[blk bg (.cells #[st (t)] 147 (0,0))]) (fun _=>(if s.length<8 then none else some (s.take 8,s.drop 8))=none) ([]) (by simp) (fun w hw=>take_any bg (s) 8 w hs hw) ?_ ?_
 ·
  intro t ht
  refine Ep (Ep ?_)
  refine Epp fun w' hw=>?_
  exact .inr ⟨t,O,(by unfold glNum; split; rfl; rename_i h; rw [if_neg h] at ht; cases ht),hw⟩
 intro r hr
 have h8:¬s.length<8:=by intro h; rw [if_pos h] at hr; cases hr
 rw [if_neg h8] at hr
 obtain ⟨q,u⟩:=r
 injection hr with hr
 injection hr with hq hu
 have hl8:q.length=8:=by rw [←hq]; simp; omega
 dsimp only
 refine WL.s2b Y O us9 usl75 ui5 O fun b8 c8 k8=>?_
 refine V0 (Yn es75 O) (V0 (Ym O) (Ln (Et (Cb ?_))))
 refine CW (ι:=Nat) (fun i=>[(10,.int .i64 (i:Int)),(3,.int .i64 (numOf (q.take i)))]) [(2,_),(8,_),(9,_)] (fun i=>i≤8) (fun i=>8-i) 0 (Nat.zero_le _) (sc O (sc O (sc O (sc O (sc O sn))))) ?_
 intro i hi
 refine Cs (Cr (V0 (yl_lt O O) (Ln (Et (Cs ?_)))))
 refine Cc O (fun hc0=>?_) (fun hc0=>?_)
 ·
  have hlt:i<8:=by simp at hc0; omega
  obtain ⟨x,hx⟩:∃x,q[i]? = some x:=⟨_,List.getElem?_eq_getElem (by omega)⟩
  refine Ck (Et (Cs (Cb (Cs (Cr ?_)))))
  refine V0 (yl_iak es75 O O (by omega)) ?_
  refine V0 (Yd 0 O O (v:=byv x) (by simp only [cellIn,Nat.zero_add,Nat.mul_one]; rw [List.getElem?_append_left (by simp; omega)]; simp [hx]) na5) ?_
  refine V0 (Ya O) (Ln (Et (Cr (V0 (Ym O) ?_))))
  refine V0 (yl_shlk 8 O O (by decide)) ?_
  refine V0 (Ym O) (V0 (yl_cvi ui5 ui3 O) ?_)
  refine V0 (yl_or8 (n:=numOf (q.take i)) (b:=x.toNat) O (by rw [show IntKind.i64.wrap (x.toNat:Int)=(x.toNat:Int) from wrap_in (by have:=x.toNat_lt; omega)]; rfl) (x.toNat_lt)) ?_
  refine V0 (Ya O) (Ln (Eb (Et (Cr ?_))))
  refine V0 (Yi O O O (by omega)) ?_
  refine V0 (Ym O) (Ln ?_)
  rw [show IntKind.i64.wrap (numOf (q.take i)*256+(x.toNat:Nat))=numOf (q.take (i+1)) by rw [List.take_add_one,hx]; simp [numOf]]
  exact Ea (i+1) (by omega) (by omega) (sc O (sc O (sc O (sc O (sc O sn))))) (fun _ h=>h)
 have hie:i=8:=by simp at hc0; omega
 refine Ce (Ex (Ex (Ebh (Et (Cs (Cr (V0 (Ym O) (V0 (Ya O) (Ln (Et (Crt ?_)))))))))))
 refine R1 O O fun w' hw=>?_
 subst hie
 exact .inl ⟨(numOf q,u),by rw [List.take_of_length_le (by omega)],by rw [glNum,if_neg h8,hq,hu],Wd 1 hw⟩
theorem fixA_at {c:List InsG} {x:Int} {p:Nat} {y:InsG} (h:x.toNat=p) (hy:c[p]? = some y):fixA c x=y.a:=by unfold fixA; rw [h,hy]; rfl
theorem en32:Enters Tryz.prog 32:=enters_of Tryz.func32 (by kernel_rfl) rfl
theorem en33:Enters Tryz.prog 33:=enters_of Tryz.func33 (by kernel_rfl) rfl
theorem rcheckO_any (H:View) (o:TOb) (q:OAt) (w:World) (hH:Le H w) (hm:RdTo H q o) :
   Calls Tryz.prog 11 #[.agg (obV o q).toArray] w fun e w'=>e = .returned (.int .i64 (checkO o))∧Ext w w':=by
 have husescap:=hm.uses.cap
 have husesmax:=hm.uses.max
 have hcodecap:=hm.code.cap
 have hcodemax:=hm.code.max
 have hfixcap:=hm.fix.cap
 have hfixmax:=hm.fix.max
 have hentscap:=hm.ents.cap
 have hentsmax:=hm.ents.max
 refine enter Tryz.func11 O 176 O O ?_
 refine CE (Vs:=[H]) (Ws.init (by simp [hH])) ?_
 refine Cs (Cr ?_)
 refine WL.box Y O O fun b1=>?_
 refine V0 (Ya O) (Ln (Et (Cs (Cs (Cr (V0 (Yf fo27_1 O) (V0 (Yd 0 O O O na22) (V0 (Yn es22 O) (V0 (yl_gt O O) ?_)))))))))
 refine V0 (Ym O) ?_
 apply Lo 4 O O O O Y O O O O O
 ·
  intro hg0
  refine Vg (Yf fo27_5 O) (Vg (Yd 0 O O O na25) (Vg (Yn es25 O) (Vg (yl_gt O O) ?_)))
  exact Gt 4 O O O
 refine V0 (Ym O) ?_
 apply Lo 5 O O O O Y O O O O O
 ·
  intro hg1
  refine Vg (Yf fo27_3 O) (Vg (Yd 0 O O O na23) (Vg (Yn es23 O) ?_))
  refine Lp (.g O O O) O en31 O (fun w hw=>within_any _ _ _ w) ?_
  refine Vg (yl_not O) ?_
  exact Gt 5 O O O
 refine Ln (Et ?_)
 refine Cc O (fun hc0=>?_) (fun hc0=>?_)
 ·
  have hmany:manyO o=true:=(many_within o).symm.trans hc0
  refine Cs (Cr (V0 (Ya O) (Ln (Et (Crt (Er ?_))))))
  refine R1 O O fun w' hw=>?_
  exact ⟨by rw [check_many hmany],hw.fr⟩
 have hmany:manyO o=false:=(many_within o).symm.trans hc0
 have hU3:o.uses.length≤3:=by
   unfold manyO at hmany
   simp only [Bool.or_eq_false_iff,decide_eq_false_iff_not] at hmany
   omega
 have hNE:([o.nm]++o.uses).length=o.uses.length+1:=by simp
 refine Ck (Et (Cs (Cr (V0 (Yf fo27_3 O) (V0 (Yd 0 O O O na23) (V0 (Yn es23 O) ?_))))))
 refine V0 (yl_subv ((o.code.length:Int)-1) O O O (by omega)) ?_
 refine V0 (Ya O) (Ln (Et (Cs (Cr (V0 (Yf fo27_0 O) (V0 (Yd 0 O O O na9) ?_))))))
 refine Lb Y O el22 O O O O fun b33=>?_
 refine Lrb 0 (.cells (([o.nm]).flatMap strC).toArray 9 (0,0)) O O ?_
 refine LW (fun _ h=>h.osT_blk (f:=strC) (xs:=[o.nm]) (c:=1) 0 O strC_len O (by decide)) ?_
 refine V0 (Yf fo27_1 O) (V0 (Yd 1 O O O na22) ?_)
 refine WL.appendL (f:=strC) (rd:=rdStr) (xs:=[o.nm]) (ys:=o.uses) 0 (fun _=>H) Y O el22 O O O (fun w hw=>⟨hw.vs H (by simp),hm.uses⟩) (fun _ _ _ _ h=>h) strC_len (fun _=>rfl) (by simp; omega) (by simp; omega) fun a36 c36=>?_
 refine WL.oslview (rd:=rdStr) 0 O strC_len (fun _ _ _ _ h=>h) fun HT hHT=>?_
 refine V0 (Ya O) (Ln (Et (Cs (Cs (Cr (V0 (Ya O) (Ln (Et (Cb ?_)))))))))
 refine CLk (ι:=Nat) (fun i=>[(5,.int .i64 (i:Int))]) [(1,_),(3,_),(4,_)] (fun i=>Ws w [] [blk b1 (.cells (obV o q).toArray 27 (0,0))] [HT,H]) (fun i=>i≤([o.nm]++o.uses).length∧(([o.nm]++o.uses).take i).all nameB=true) (fun i=>([o.nm]++o.uses).length-i) 0 ⟨Nat.zero_le _,O⟩ (sc O (sc O (sc O (sc O sn)))) (fun _ h=>h) ?_
 intro i ⟨hi,hall⟩
 refine Cs (Cs (Cr (V0 (Ym O) (V0 (Ym O) (V0 (Yn es22 O) (V0 (yl_lt O O) (Ln (Et ?_))))))))
 refine Cc O (fun hc1=>?_) (fun hc1=>?_)
 ·
  have hlt:i<([o.nm]++o.uses).length:=by simp at hc1 ⊢; omega
  obtain ⟨s,hsi⟩:∃q,([o.nm]++o.uses)[i]? = some q:=⟨_,List.getElem?_eq_getElem hlt⟩
  obtain ⟨pbs,pos,has,hrs⟩:=hHT.elt i s hsi
  have hrs:RdC HT pbs (pos+i*1) (strC s):=hrs
  refine Ck (Et (Cs (Cb (Cs (Cr (V0 (Ym O) (V0 (Ym O) (V0 (Yo es22 O O has hlt) (V0 (yl_ld 0 na9 O O (hrs 0 _ O)) ?_)))))))))
  refine Lp Y O en32 O (fun w hw=>isName_any _ w) ?_
  refine V0 (yl_not O) (Ln (Et ?_))
  refine Cc O (fun hc2=>?_) (fun hc2=>?_)
  ·
   have hn:nameB s=false:=by simpa using hc2
   have hno:¬OkOb o:=fun k=>by
     have:=k.names s (List.mem_of_getElem? hsi)
     rw [this] at hn
     cases hn
   refine Cs (Cr (V0 (Ya O) (Ln (Et (Crt (Ebr (Er (Er (Ebr (Er ?_))))))))))
   refine R1 O O fun w' hw=>?_
   exact ⟨by rw [check_no hmany hno],hw.fr⟩
  have hn:nameB s=true:=by simpa using hc2
  refine Ck (Eb (Et (Cr (V0 (Ym O) ?_))))
  refine V0 (Yi O O O (by omega)) ?_
  refine V0 (Ya O) (Ln ?_)
  exact Ea (i+1) (by omega) ⟨by omega,all_take hsi hall hn⟩ (sc O (sc O (sc O (sc O sn)))) (fun _ h=>h)
 have hge:i=([o.nm]++o.uses).length:=by rw [hNE]; simp at hc1; omega
 rw [hge,List.take_length] at hall
 refine Ce (Ex (Ex (Ebh (Et (Cs (Cs (Cr (V0 (Ym O) ?_))))))))
 refine Lp Y O en33 O (fun w hw=>by
     have:=twice_any HT a36 c36 ([o.nm]++o.uses) w (hw.vs _ (by simp)) hHT
     exact this) ?_
 refine V0 (Ym O) ?_
 apply Lo 4 O O O O Y O O O O O
 ·
  intro hg2
  refine Vg (Yf fo27_2 O) (Vg (Yd 0 O O O na3) ?_)
  refine Lp (.g O O O) O en31 O (fun w hw=>within_any _ _ _ w) ?_
  refine Vg (yl_not O) ?_
  exact Gt 4 O O O
 refine V0 (Ym O) ?_
 apply Lo 5 O O O O Y O O O O O
 ·
  intro hg3
  refine Vg (Yf fo27_6 O) (Vg (Yd 0 O O O na3) (Vg (Ym O) ?_))
  refine Lp (.g O O O) O en31 O (fun w hw=>within_any _ _ _ w) ?_
  refine Vg (yl_not O) ?_
  exact Gt 5 O O O
 refine Ln (Et ?_)
 refine Cc O (fun hc3=>?_) (fun hc3=>?_)
 ·
  have hno:¬OkOb o:=fun k=>by
    have h1:twiceB ([o.nm]++o.uses)=false:=nodup_twice.1 k.nd
    have h9:=hc3
    simp only [h1,(show within o.data 0 512=true by have:=k.data; simp [within]; omega),(show within o.main 0 ((o.code.length:Int)-1)=true from (within_place _ _).trans k.main)] at h9
    cases h9
  refine Cs (Cr (V0 (Ya O) (Ln (Et (Crt (Er ?_))))))
  refine R1 O O fun w' hw=>?_
  exact ⟨by rw [check_no hmany hno],hw.fr⟩
 obtain ⟨h34,h3m⟩:=Bool.or_eq_false_iff.1 hc3
 obtain ⟨h3n,h3d⟩:=Bool.or_eq_false_iff.1 h34
 have hmn:placeB o.code.length o.main=true:=(within_place _ _).symm.trans (show within o.main 0 ((o.code.length:Int)-1)=true by simpa using h3m)
 have hda:0≤o.data∧o.data≤512:=by simp [within] at h3d; omega
 have hnd:(o.nm::o.uses).Nodup:=nodup_twice.2 h3n
 refine Ck (Et (Cs (Cs (Cr (V0 (Ya O) (Ln (Et (Cb ?_))))))))
 refine CLk (ι:=Nat) (fun i=>[(6,.int .i64 (i:Int))]) [(1,_),(3,_)] (fun i=>Ws w [] [blk b1 (.cells (obV o q).toArray 27 (0,0))] [HT,H]) (fun i=>i≤o.code.length∧∀y ∈ o.code.take i,OpOk y) (fun i=>o.code.length-i) 0 ⟨Nat.zero_le _,by simp⟩ (sc O (sc O (sc O sn))) (fun _ h=>h) ?_
 intro i ⟨hi,hco⟩
 refine Cs (Cs (Cr (V0 (Ym O) (V0 (Yf fo27_3 O) (V0 (Yd 0 O O O na23) (V0 (Yn es23 O) (V0 (yl_lt O O) ?_)))))))
 refine Ln (Et ?_)
 refine Cc O (fun hc4=>?_) (fun hc4=>?_)
 ·
  have hlt:i<o.code.length:=by simpa using hc4
  obtain ⟨x,hxi⟩:∃q,o.code[i]? = some q:=⟨_,List.getElem?_eq_getElem hlt⟩
  obtain ⟨pbx,pox,hax,hrx⟩:=hm.code.elt i x hxi
  have hrx:RdC H pbx (pox+i*3) x.cells:=hrx
  refine Ck (Et (Cs (Cb (Cs (Cr (V0 (Yf fo27_3 O) (V0 (Yd 0 O O O na23) (V0 (Ym O) (V0 (Yo es23 O O hax hlt) (V0 (Yf fo67_0 O) ?_))))))))))
  refine V0 (yl_ld 1 na3 O O (hrx 0 _ O)) ?_
  refine Lp Y O en31 O (fun w hw=>within_any _ _ _ w) ?_
  refine V0 (yl_not O) (Ln (Et ?_))
  refine Cc O (fun hc5=>?_) (fun hc5=>?_)
  ·
   have hno:¬OkOb o:=fun k=>by
     have h1:=k.code x (List.mem_of_getElem? hxi)
     unfold OpOk at h1
     have h9:=hc5
     simp [within] at h9
     omega
   refine Cs (Cr (V0 (Ya O) (Ln (Et (Crt (Ebr (Er (Er (Ebr (Er ?_))))))))))
   refine R1 O O fun w' hw=>?_
   exact ⟨by rw [check_no hmany hno],hw.fr⟩
  have hn:OpOk x:=by
    unfold OpOk
    have h9:=hc5
    simp [within] at h9
    omega
  refine Ck (Eb (Et (Cr (V0 (Ym O) ?_))))
  refine V0 (Yi O O O (by omega)) ?_
  refine V0 (Ya O) (Ln ?_)
  exact Ea (i+1) (by omega) ⟨by omega,all_snoc hxi hco hn⟩ (sc O (sc O (sc O sn))) (fun _ h=>h)
 have hge4:i=o.code.length:=by simp at hc4; omega
 rw [hge4,List.take_length] at hco
 refine Ce (Ex (Ex (Ebh (Et (Cs (Cs (Cr (V0 (Ya O) (Ln (Et (Cb ?_)))))))))))
 refine CLk (ι:=Nat) (fun i=>[(7,.int .i64 (i:Int))]) [(1,_),(3,_)] (fun i=>Ws w [] [blk b1 (.cells (obV o q).toArray 27 (0,0))] [HT,H]) (fun i=>i≤o.ents.length∧∀y ∈ o.ents.take i,placeB o.code.length y=true) (fun i=>o.ents.length-i) 0 ⟨Nat.zero_le _,by simp⟩ (sc O (sc O (sc O sn))) (fun _ h=>h) ?_
 intro i ⟨hi,hen⟩
 refine Cs (Cs (Cr (V0 (Ym O) (V0 (Yf fo27_5 O) (V0 (Yd 0 O O O na25) (V0 (Yn es25 O) (V0 (yl_lt O O) ?_)))))))
 refine Ln (Et ?_)
 refine Cc O (fun hc6=>?_) (fun hc6=>?_)
 ·
  have hlt:i<o.ents.length:=by simpa using hc6
  obtain ⟨x,hxi⟩:∃q,o.ents[i]? = some q:=⟨_,List.getElem?_eq_getElem hlt⟩
  obtain ⟨pbx,pox,hax,hrx⟩:=hm.ents.elt i x hxi
  have hrx:RdC H pbx (pox+i*1) (n1C x):=hrx
  refine Ck (Et (Cs (Cb (Cs (Cr (V0 (Yf fo27_5 O) (V0 (Yd 0 O O O na25) (V0 (Ym O) (V0 (Yo es25 O O hax hlt) (V0 (yl_ld 1 na3 O O (hrx 0 _ O)) ?_))))))))))
  refine V0 (Ym O) ?_
  refine Lp Y O en31 O (fun w hw=>within_any _ _ _ w) ?_
  refine V0 (yl_not O) (Ln (Et ?_))
  refine Cc O (fun hc7=>?_) (fun hc7=>?_)
  ·
   have hno:¬OkOb o:=fun k=>by
     have h1:within x 0 ((o.code.length:Int)-1)=true:=(within_place o.code.length x).trans (k.ents x (List.mem_of_getElem? hxi))
     have h9:=hc7
     rw [h1] at h9
     cases h9
   refine Cs (Cr (V0 (Ya O) (Ln (Et (Crt (Ebr (Er (Er (Ebr (Er ?_))))))))))
   refine R1 O O fun w' hw=>?_
   exact ⟨by rw [check_no hmany hno],hw.fr⟩
  have hn:placeB o.code.length x=true:=(within_place _ _).symm.trans (show within x 0 ((o.code.length:Int)-1)=true by simpa using hc7)
  refine Ck (Eb (Et (Cr (V0 (Ym O) ?_))))
  refine V0 (Yi O O O (by omega)) ?_
  refine V0 (Ya O) (Ln ?_)
  exact Ea (i+1) (by omega) ⟨by omega,all_snoc hxi hen hn⟩ (sc O (sc O (sc O sn))) (fun _ h=>h)
 have hge6:i=o.ents.length:=by simp at hc6; omega
 rw [hge6,List.take_length] at hen
 refine Ce (Ex (Ex (Ebh (Et (Cs (Cs (Cr (V0 (Ya O) (Ln (Et (Cb ?_)))))))))))
 refine CLk (ι:=Nat) (fun i=>[(8,.int .i64 (i:Int))]) [(1,_),(3,_)] (fun i=>Ws w [] [blk b1 (.cells (obV o q).toArray 27 (0,0))] [HT,H]) (fun i=>i≤o.fix.length∧FixW o i) (fun i=>o.fix.length-i) 0 ⟨Nat.zero_le _,FixW.zero o⟩ (sc O (sc O (sc O sn))) (fun _ h=>h) ?_
 intro i ⟨hi,hfx⟩
 refine Cs (Cs (Cr (V0 (Ym O) (V0 (Yf fo27_4 O) (V0 (Yd 0 O O O na24) (V0 (Yn es24 O) (V0 (yl_lt O O) ?_)))))))
 refine Ln (Et ?_)
 refine Cc O (fun hc8=>?_) (fun hc8=>?_)
 ·
  have hlt:i<o.fix.length:=by simpa using hc8
  obtain ⟨x,hxi⟩:∃q,o.fix[i]? = some q:=⟨_,List.getElem?_eq_getElem hlt⟩
  obtain ⟨pbx,pox,hax,hrx⟩:=hm.fix.elt i x hxi
  have hrx:RdC H pbx (pox+i*3) x.cells:=hrx
  refine Ck (Et (Cs (Cb (Cs (Cr (V0 (Yf fo27_4 O) (V0 (Yd 0 O O O na24) (V0 (Ym O) (V0 (Yo es24 O O hax hlt) (V0 (yl_lda 1 ag70 O O O (hrx)) ?_))))))))))
  refine Al Y O zr70 fun b9=>?_
  refine Lst 0 Y O O O sz70 O O O (Ln (Et (Cs ?_)))
  refine Crb 0 (.cells (x.cells).toArray 70 (0,0)) O O ?_
  refine WC.draws0 [(0,true),(1,true),(2,true),(3,false),(4,true),(5,true),(6,true),(7,true),(8,true),(9,true),(10,true),(11,true),(12,true),(13,true),(14,true),(15,true),(16,true),(17,true),(18,true),(19,true),(20,true),(21,true),(22,true),(23,true),(24,false),(25,true),(26,true),(27,true),(28,true),(29,true),(30,true),(31,true),(32,true),(33,false),(34,true),(35,true),(36,true),(37,true),(38,true),(39,true),(40,true),(41,true),(42,true),(43,true),(44,false),(45,true),(46,true),(47,true),(48,true),(49,true),(50,true),(51,true),(52,true),(53,true),(54,true),(55,true),(56,true),(57,true),(58,true),(59,true),(60,true),(61,true),(62,true),(63,true),(64,true),(65,true),(66,true),(67,true),(68,true),(69,true)] mixed (by kernel_rfl) (fun _ _ _ d _ h=>by cases d<;>exact h) ?_
  refine D0 O (fun _ h=>h) (Yf fo70_0 O) (D0 O (fun _ h=>h) (Yd 0 O O O na3) (D0 O (fun _ h=>h) (Ym O) ?_))
  refine De O (fun _ h=>h) ?_
  refine Lp Y O en31 O (fun w hw=>within_any _ _ _ w) ?_
  refine Ln (Ed (D0 O (fun _ h=>h) (yl_not O) (D0 O (fun _ h=>h) (Ym O) ?_)))
  apply WD.or 14 (x:=decide (0<(i:Int))&&decide (((o.fix[i-1]?).map (·.at_)).getD 0≥x.at_)) O O O O O Y O (fun _ h=>h) O O O O
  ·
   intro hg4
   refine Dq O (.g O O O) O (fun _ h=>h) (Ym O) ?_
   refine Dq O (.g O O O) O (fun _ h=>h) (yl_gt O O) ?_
   refine Dq O (.g O O O) O (fun _ h=>h) (Ym O) ?_
   apply WD.and 10 (x:=decide (((o.fix[i-1]?).map (·.at_)).getD 0≥x.at_)) O O O O O (.g O O O) O (fun _ h=>h) O O O O
   ·
    intro hg5
    have h0:0<i:=by simpa using hg5
    obtain ⟨u,hu⟩:∃u,o.fix[i-1]? = some u:=⟨_,List.getElem?_eq_getElem (by omega)⟩
    obtain ⟨pbu,pou,hau,hru⟩:=hm.fix.elt (i-1) u hu
    have hru:RdC H pbu (pou+(i-1)*3) u.cells:=hru
    have hpv:vc H pbu (pou+(i-1)*3+0)=some (.int .i64 (((o.fix[i-1]?).map (·.at_)).getD 0)):=by
      rw [hu]
      exact hru 0 _ O
    refine Dq O (.g O O O) O (fun _ h=>h) (Yf fo27_4 O) ?_
    refine Dq O (.g O O O) O (fun _ h=>h) (Yd 1 O O O na24) ?_
    refine Dq O (.g O O O) O (fun _ h=>h) (Ym O) ?_
    refine Dq O (.g O O O) O (fun _ h=>h) (yl_subv ((i-1:Nat):Int) O O (by omega) (by omega)) ?_
    refine Dq O (.g O O O) O (fun _ h=>h) (Yo es24 O O hau (by omega)) ?_
    refine Dq O (.g O O O) O (fun _ h=>h) (Yf fo70_0 O) ?_
    refine Dq O (.g O O O) O (fun _ h=>h) (yl_ld 1 na3 O O (hpv)) ?_
    refine Dq O (.g O O O) O (fun _ h=>h) (Yf fo70_0 O) ?_
    refine Dq O (.g O O O) O (fun _ h=>h) (Yd 0 O O O na3) ?_
    refine Dq O (.g O O O) O (fun _ h=>h) (yl_ge O O) ?_
    exact Gi 10 (fun _ h=>h) O O O
   exact Gi 4 (fun _ h=>h) O O O
  refine D0 O (fun _ h=>h) (Ym O) ?_
  apply WD.or 4 O O O O O Y O (fun _ h=>h) O O O O
  ·
   intro hg6
   refine Dq O (.g O O O) O (fun _ h=>h) (Yf fo70_1 O) ?_
   refine Dq O (.g O O O) O (fun _ h=>h) (Yd 0 O O O na3) ?_
   refine De O (fun _ h=>h) ?_
   refine Lp (.g O O O) O en31 O (fun w hw=>within_any _ _ _ w) ?_
   refine Ln (Ed ?_)
   refine Dq O (.g O O O) O (fun _ h=>h) (yl_not O) ?_
   exact Gi 4 (fun _ h=>h) O O O
  refine D0 O (fun _ h=>h) (Ym O) ?_
  apply WD.or 7 O O O O O Y O (fun _ h=>h) O O O O
  ·
   intro hg7
   refine Dq O (.g O O O) O (fun _ h=>h) (Yf fo70_2 O) ?_
   refine Dq O (.g O O O) O (fun _ h=>h) (Yd 0 O O O na3) ?_
   refine Dq O (.g O O O) O (fun _ h=>h) (Yf fo27_1 O) ?_
   refine Dq O (.g O O O) O (fun _ h=>h) (Yd 1 O O O na22) ?_
   refine Dq O (.g O O O) O (fun _ h=>h) (Yn es22 O) ?_
   refine De O (fun _ h=>h) ?_
   refine Lp (.g O O O) O en31 O (fun w hw=>within_any _ _ _ w) ?_
   refine Ln (Ed ?_)
   refine Dq O (.g O O O) O (fun _ h=>h) (yl_not O) ?_
   exact Gi 7 (fun _ h=>h) O O O
  refine D0 O (fun _ h=>h) (Ym O) ?_
  apply WD.or 9 O O O O O Y O (fun _ h=>h) O O O O
  ·
   intro hg8
   have hpb:within x.at_ 0 ((o.code.length:Int)-1)=true:=by simpa using (Bool.or_eq_false_iff.1 (Bool.or_eq_false_iff.1 (Bool.or_eq_false_iff.1 hg8).1).1).1
   obtain ⟨p,hpa,hpl⟩:=placeB_in ((within_place o.code.length x.at_).symm.trans hpb)
   have hpt:x.at_.toNat=p:=by omega
   obtain ⟨y,hyi⟩:∃y,o.code[p]? = some y:=⟨_,List.getElem?_eq_getElem hpl⟩
   obtain ⟨pby,poy,hay,hry⟩:=hm.code.elt p y hyi
   have hry:RdC H pby (poy+p*3) y.cells:=hry
   rw [←hpt] at hry
   have hrA:vc H pby (poy+x.at_.toNat*3+1)=some (.int .i64 (fixA o.code x.at_)):=by
     rw [fixA_at hpt hyi]
     exact hry 1 _ O
   refine Dq O (.g O O O) O (fun _ h=>h) (Yf fo27_3 O) ?_
   refine Dq O (.g O O O) O (fun _ h=>h) (Yd 1 O O O na23) ?_
   refine Dq O (.g O O O) O (fun _ h=>h) (Yf fo70_0 O) ?_
   refine Dq O (.g O O O) O (fun _ h=>h) (Yd 0 O O O na3) ?_
   refine Dq O (.g O O O) O (fun _ h=>h) (yl_iai es23 O O hay (by omega) (by omega)) ?_
   refine Dq O (.g O O O) O (fun _ h=>h) (Yf fo67_1 O) ?_
   refine Dq O (.g O O O) O (fun _ h=>h) (yl_ld 1 na3 O O (hrA)) ?_
   refine De O (fun _ h=>h) ?_
   refine Lp (.g O O O) O en31 O (fun w hw=>within_any _ _ _ w) ?_
   refine Ln (Ed ?_)
   refine Dq O (.g O O O) O (fun _ h=>h) (yl_not O) ?_
   exact Gi 9 (fun _ h=>h) O O O
  refine D0 O (fun _ h=>h) (Ym O) ?_
  apply WD.or 21 (x:=x.kind==1&&(x.m != 0||decide ((o.code.length:Int)<fixA o.code x.at_))) O O O O O Y O (fun _ h=>h) O O O O
  ·
   intro hg9
   refine Dq O (.g O O O) O (fun _ h=>h) (Yf fo70_1 O) ?_
   refine Dq O (.g O O O) O (fun _ h=>h) (Yd 0 O O O na3) ?_
   refine Dq O (.g O O O) O (fun _ h=>h) (yl_eq O O) ?_
   refine Dq O (.g O O O) O (fun _ h=>h) (Ym O) ?_
   apply WD.and 16 (x:=x.m != 0||decide ((o.code.length:Int)<fixA o.code x.at_)) O O O O O (.g O O O) O (fun _ h=>h) O O O O
   ·
    intro hg10
    refine Dq O (.g O O O) O (fun _ h=>h) (Yf fo70_2 O) ?_
    refine Dq O (.g O O O) O (fun _ h=>h) (Yd 0 O O O na3) ?_
    refine Dq O (.g O O O) O (fun _ h=>h) (yl_ne O O) ?_
    refine Dq O (.g O O O) O (fun _ h=>h) (Ym O) ?_
    apply WD.or 11 (x:=decide ((o.code.length:Int)<fixA o.code x.at_)) O O O O O (.g O O O) O (fun _ h=>h) O O O O
    ·
     intro hg11
     have hpb:within x.at_ 0 ((o.code.length:Int)-1)=true:=by simpa using (Bool.or_eq_false_iff.1 (Bool.or_eq_false_iff.1 (Bool.or_eq_false_iff.1 (Bool.or_eq_false_iff.1 hg9).1).1).1).1
     obtain ⟨p,hpa,hpl⟩:=placeB_in ((within_place o.code.length x.at_).symm.trans hpb)
     have hpt:x.at_.toNat=p:=by omega
     obtain ⟨y,hyi⟩:∃y,o.code[p]? = some y:=⟨_,List.getElem?_eq_getElem hpl⟩
     obtain ⟨pby,poy,hay,hry⟩:=hm.code.elt p y hyi
     have hry:RdC H pby (poy+p*3) y.cells:=hry
     rw [←hpt] at hry
     have hrA:vc H pby (poy+x.at_.toNat*3+1)=some (.int .i64 (fixA o.code x.at_)):=by
       rw [fixA_at hpt hyi]
       exact hry 1 _ O
     refine Dq O (.g O O O) O (fun _ h=>h) (Yf fo27_3 O) ?_
     refine Dq O (.g O O O) O (fun _ h=>h) (Yd 1 O O O na23) ?_
     refine Dq O (.g O O O) O (fun _ h=>h) (Yf fo70_0 O) ?_
     refine Dq O (.g O O O) O (fun _ h=>h) (Yd 0 O O O na3) ?_
     refine Dq O (.g O O O) O (fun _ h=>h) (yl_iai es23 O O hay (by omega) (by omega)) ?_
     refine Dq O (.g O O O) O (fun _ h=>h) (Yf fo67_1 O) ?_
     refine Dq O (.g O O O) O (fun _ h=>h) (yl_ld 1 na3 O O (hrA)) ?_
     refine Dq O (.g O O O) O (fun _ h=>h) (Yf fo27_3 O) ?_
     refine Dq O (.g O O O) O (fun _ h=>h) (Yd 1 O O O na23) ?_
     refine Dq O (.g O O O) O (fun _ h=>h) (Yn es23 O) ?_
     refine Dq O (.g O O O) O (fun _ h=>h) (yl_gt O O) ?_
     exact Gi 11 (fun _ h=>h) O O O
    exact Gi 5 (fun _ h=>h) O O O
   exact Gi 5 (fun _ h=>h) O O O
  refine WD.nil (fun _ h=>h) ?_
  refine Et ?_
  refine Cc O (fun hc9=>?_) (fun hc9=>?_)
  ·
   have hno:¬OkOb o:=fixW_no hxi hc9
   refine Cs (Cr (V0 (Ya O) (Ln (Et (Crt (Ebr (Er (Er (Ebr (Er ?_))))))))))
   refine R1 O O fun w' hw=>?_
   exact ⟨by rw [check_no hmany hno],hw.fr⟩
  have hn:fixW o i x=false:=hc9
  refine Ck (Eb (Et (Cr (V0 (Ym O) ?_))))
  refine V0 (Yi O O O (by omega)) ?_
  refine V0 (Ya O) (Ln ?_)
  exact Ea (i+1) (by omega) ⟨by omega,hfx.next hxi hn⟩ (sc O (sc O (sc O sn))) (fun _ h=>Wd 1 h)
 have hge8:i=o.fix.length:=by simp at hc8; omega
 rw [hge8] at hfx
 unfold FixW at hfx
 rw [List.take_length] at hfx
 refine Ce (Ex (Ex (Ebh (Et (Cs (Cr (V0 (Ya O) (Ln (Et (Crt ?_))))))))))
 refine R1 O O fun w' hw=>?_
 exact ⟨by rw [check_ok hmany ⟨fun s hs=>List.all_eq_true.1 hall s (by simpa using hs),hnd,hda,hmn,hco,hen,hfx.1,hfx.2⟩],hw.fr⟩
theorem take_flat {α β:Type} {f:α→List β} {l:List α} {i:Nat} {x:α} (h:l[i]? = some x):(l.take (i+1)).flatMap f=(l.take i).flatMap f++f x:=by
 rw [List.take_add_one,h]; simp
theorem en77:Enters Tryz.prog 77:=enters_of Tryz.func77 (by kernel_rfl) rfl
theorem en78:Enters Tryz.prog 78:=enters_of Tryz.func78 (by kernel_rfl) rfl
theorem fo67_2:fieldOff Tryz.prog 67 2=some 2:=by kernel_rfl
theorem en11:Enters Tryz.prog 11:=enters_of Tryz.func11 (by kernel_rfl) rfl
theorem en39:Enters Tryz.prog 39:=enters_of Tryz.func39 (by kernel_rfl) rfl
theorem objectBytes_any (H:View) (o:TOb) (q:OAt) (w:World) (hH:Le H w) (hm:RdTo H q o) (hl:ObL o) :
   Calls Tryz.prog 39 #[.agg (obV o q).toArray] w fun e w'=>e = .returned (st (obB o))∧Ext w w':=by
 have husescap:=hm.uses.cap
 have husesmax:=hm.uses.max
 have hcodecap:=hm.code.cap
 have hcodemax:=hm.code.max
 have hfixcap:=hm.fix.cap
 have hfixmax:=hm.fix.max
 have hentscap:=hm.ents.cap
 have hentsmax:=hm.ents.max
 have hnm:=hl.nm
 have hus9:=hl.us o.uses.length
 rw [List.take_length] at hus9
 have hco9:=hl.co o.code.length
 rw [List.take_length] at hco9
 have hfx9:=hl.fx o.fix.length
 rw [List.take_length] at hfx9
 have hen9:=hl.en o.ents.length
 rw [List.take_length] at hen9
 refine enter Tryz.func39 O 147 O O ?_
 refine CE (Vs:=[H]) (Ws.init (by simp [hH])) ?_
 refine Cs (Cr ?_)
 refine WL.box Y O O fun b1=>?_
 refine V0 (Ya O) (Ln (Et (Cs ?_)))
 refine WC.draws0 [(0,true),(1,true),(3,true),(4,true),(5,true),(2,false),(6,false),(7,true),(8,false),(9,true)] mixed (by kernel_rfl) (fun _ _ _ d _ h=>by cases d<;>exact h) ?_
 refine D0 O (fun _ h=>h) (Yf fo27_0 O) (D0 O (fun _ h=>h) (Yd 0 O O O na9) (D0 O (fun _ h=>h) (Yf fo27_1 O) (D0 O (fun _ h=>h) (Yd 0 O O O na22) (D0 O (fun _ h=>h) (Yn es22 O) ?_))))
 refine De O (fun _ h=>h) ?_
 refine Lp Y O en77 O (fun w hw=>textBytes_any _ w (by omega)) ?_
 refine Ln (Ed ?_)
 refine De O (fun _ h=>h) ?_
 refine Lp Y O en78 O (fun w hw=>numBytes_any _ w) ?_
 refine Ln (Ed ?_)
 refine D0 O (fun _ h=>h) (yl_cats O O (by simp only [textB_len,num8_len]; omega)) ?_
 refine De O (fun _ h=>h) ?_
 refine WL.s2bz Y O us9 usl75 ui5 O (by simp only [List.length_append,textB_len,num8_len,List.length_singleton]; omega) fun v16=>?_
 refine Ln (Ed (D0 O (fun _ h=>(Wd 1 h:)) (Ya O) ?_))
 refine WD.nil (fun _ h=>(Wd 1 h:)) ?_
 refine Et (Cs (Cs (Cr (V0 (Ya O) (Ln (Et (Cb ?_)))))))
 refine CLk (ι:=Nat×Value) (fun g=>[(4,.int .i64 (g.1:Int)),(3,g.2)]) [(1,_),(2,_)] (fun g=>Ws w [] [osz 5 g.2 (textB o.nm++num8 o.uses.length++(o.uses.take g.1).flatMap textB),blk b1 (.cells (obV o q).toArray 27 (0,0))] [H]) (fun g=>g.1≤o.uses.length) (fun g=>o.uses.length-g.1) ((0,v16):Nat×Value) (Nat.zero_le _) (sc O (sc O (sc O (sc O sn)))) (fun _ h=>by simp only [List.take_zero,List.flatMap_nil,List.append_nil]; exact h) ?_
 intro g hgi
 refine Cs (Cs (Cr (V0 (Ym O) (V0 (Yf fo27_1 O) (V0 (Yd 1 O O O na22) (V0 (Yn es22 O) (V0 (yl_lt O O) ?_)))))))
 refine Ln (Et ?_)
 refine Cc O (fun hc0=>?_) (fun hc0=>?_)
 ·
  have hlt:g.1<o.uses.length:=by simpa using hc0
  obtain ⟨x,hxi⟩:∃q,o.uses[g.1]? = some q:=⟨_,List.getElem?_eq_getElem hlt⟩
  obtain ⟨pbx,pox,hax,hrx⟩:=hm.uses.elt g.1 x hxi
  have hrx:RdC H pbx (pox+g.1*1) (strC x):=hrx
  have hbg:=hl.us g.1
  have hxn:=hl.un x (List.mem_of_getElem? hxi)
  refine Ck (Et (Cs (Cb (Cr (V0 (Ym O) (V0 (Yf fo27_1 O) (V0 (Yd 1 O O O na22) (V0 (Ym O) (V0 (Yo es22 O O hax hlt) ?_)))))))))
  refine V0 (yl_ld 0 na9 O O (hrx 0 _ O)) ?_
  refine Lp Y O en77 O (fun w hw=>textBytes_any _ w (by have:=hl.un x (List.mem_of_getElem? hxi); omega)) ?_
  refine WL.appendsZ 0 Y O el75 us9 O O O (by simp only [List.length_append,textB_len,num8_len,List.length_singleton]; omega) fun v31=>?_
  refine V0 (Ya O) (Ln (Eb (Et (Cr (V0 (Ym O) ?_)))))
  refine V0 (Yi O O O (by omega)) ?_
  refine V0 (Ya O) (Ln ?_)
  exact Ea ((g.1+1,v31):Nat×Value) (by show _-(g.1+1)<_; omega) (by show g.1+1≤_; omega) (sc O (sc O (sc O (sc O sn)))) (fun _ h=>by
    have e:textB o.nm++num8 o.uses.length++(o.uses.take g.1).flatMap textB++textB x=textB o.nm++num8 o.uses.length++(o.uses.take (g.1+1)).flatMap textB:=by rw [take_flat hxi]; simp [insB,fixB]
    rw [e] at h
    exact h)
 have hge:g.1=o.uses.length:=by simp at hc0; omega
 rw [hge,List.take_length]
 refine Ce (Ex (Ex (Ebh (Et (Cs (Cr (V0 (Ym O) (V0 (Yf fo27_2 O) (V0 (Yd 1 O O O na3) ?_)))))))))
 refine Lp Y O en78 O (fun w hw=>numBytes_any _ w) ?_
 refine WL.appendsZ 0 Y O el75 us9 O O O (by simp only [List.length_append,textB_len,num8_len,List.length_singleton]; omega) fun v36=>?_
 refine V0 (Ya O) (Ln (Et (Cs (Cr (V0 (Ym O) (V0 (Yf fo27_3 O) (V0 (Yd 1 O O O na23) (V0 (Yn es23 O) ?_))))))))
 refine Lp Y O en78 O (fun w hw=>numBytes_any _ w) ?_
 refine WL.appendsZ 0 Y O el75 us9 O O O (by simp only [List.length_append,textB_len,num8_len,List.length_singleton]; omega) fun v42=>?_
 refine V0 (Ya O) (Ln (Et (Cs (Cs (Cr (V0 (Ya O) (Ln (Et (Cb ?_)))))))))
 refine CLk (ι:=Nat×Value) (fun g=>[(5,.int .i64 (g.1:Int)),(3,g.2)]) [(1,_),(2,_)] (fun g=>Ws w [] [osz 5 g.2 (textB o.nm++num8 o.uses.length++o.uses.flatMap textB++num8 o.data++num8 o.code.length++(o.code.take g.1).flatMap insB),blk b1 (.cells (obV o q).toArray 27 (0,0))] [H]) (fun g=>g.1≤o.code.length) (fun g=>o.code.length-g.1) ((0,v42):Nat×Value) (Nat.zero_le _) (sc O (sc O (sc O (sc O sn)))) (fun _ h=>by simp only [List.take_zero,List.flatMap_nil,List.append_nil]; exact h) ?_
 intro g hgi
 refine Cs (Cs (Cr (V0 (Ym O) (V0 (Yf fo27_3 O) (V0 (Yd 1 O O O na23) (V0 (Yn es23 O) (V0 (yl_lt O O) ?_)))))))
 refine Ln (Et ?_)
 refine Cc O (fun hc1=>?_) (fun hc1=>?_)
 ·
  have hlt:g.1<o.code.length:=by simpa using hc1
  obtain ⟨x,hxi⟩:∃q,o.code[g.1]? = some q:=⟨_,List.getElem?_eq_getElem hlt⟩
  obtain ⟨pbx,pox,hax,hrx⟩:=hm.code.elt g.1 x hxi
  have hrx:RdC H pbx (pox+g.1*3) x.cells:=hrx
  have hbg:=hl.co g.1
  refine Ck (Et (Cs (Cb (Cs (Cr (V0 (Ym O) (V0 (Yf fo27_3 O) (V0 (Yd 1 O O O na23) (V0 (Ym O) (V0 (Yo es23 O O hax hlt) ?_))))))))))
  refine V0 (Yf fo67_0 O) (V0 (yl_ld 0 na3 O O (hrx 0 _ O)) (V0 (yl_cvi ui3 ui5 O) ?_))
  refine Lb Y O el75 O O O O fun b58=>?_
  refine Lrb 0 (.cells ([byO x.op].map byv).toArray 5 (0,0)) O (one_cell _ 5) ?_
  refine WL.appendbZ 1 0 Y O el75 O O O O (by simp only [List.length_append,textB_len,num8_len,List.length_singleton]; omega) fun v59=>?_
  refine V0 (Ya O) (Ln (Et (Cs (Cr (V0 (Ym O) (V0 (Yf fo27_3 O) (V0 (Yd 2 O O O na23) (V0 (Ym O) ?_))))))))
  refine V0 (Yo es23 O O hax hlt) (V0 (Yf fo67_1 O) (V0 (yl_ld 0 na3 O O (hrx 1 _ O)) ?_))
  refine Lp Y O en78 O (fun w hw=>numBytes_any _ w) ?_
  refine WL.appendsZ 1 Y O el75 us9 O O O (by simp only [List.length_append,textB_len,num8_len,List.length_singleton]; omega) fun v68=>?_
  refine V0 (Ya O) (Ln (Et (Cr (V0 (Ym O) (V0 (Yf fo27_3 O) (V0 (Yd 2 O O O na23) (V0 (Ym O) ?_)))))))
  refine V0 (Yo es23 O O hax hlt) (V0 (Yf fo67_2 O) (V0 (yl_ld 0 na3 O O (hrx 2 _ O)) ?_))
  refine Lp Y O en78 O (fun w hw=>numBytes_any _ w) ?_
  refine WL.appendsZ 1 Y O el75 us9 O O O (by simp only [List.length_append,textB_len,num8_len,List.length_singleton]; omega) fun v77=>?_
  refine V0 (Ya O) (Ln (Eb (Et (Cr (V0 (Ym O) ?_)))))
  refine V0 (Yi O O O (by omega)) ?_
  refine V0 (Ya O) (Ln ?_)
  exact Ea ((g.1+1,v77):Nat×Value) (by show _-(g.1+1)<_; omega) (by show g.1+1≤_; omega) (sc O (sc O (sc O (sc O sn)))) (fun _ h=>by
    have h:=Ws.out 0 h
    have e:textB o.nm++num8 o.uses.length++o.uses.flatMap textB++num8 o.data++num8 o.code.length++(o.code.take g.1).flatMap insB++[byO x.op]++num8 x.a++num8 x.b=textB o.nm++num8 o.uses.length++o.uses.flatMap textB++num8 o.data++num8 o.code.length++(o.code.take (g.1+1)).flatMap insB:=by rw [take_flat hxi]; simp [insB,fixB]
    rw [e] at h
    exact h)
 have hge:g.1=o.code.length:=by simp at hc1; omega
 rw [hge,List.take_length]
 refine Ce (Ex (Ex (Ebh (Et (Cs (Cr (V0 (Ym O) (V0 (Yf fo27_4 O) (V0 (Yd 1 O O O na24) (V0 (Yn es24 O) ?_))))))))))
 refine Lp Y O en78 O (fun w hw=>numBytes_any _ w) ?_
 refine WL.appendsZ 0 Y O el75 us9 O O O (by simp only [List.length_append,textB_len,num8_len,List.length_singleton]; omega) fun v83=>?_
 refine V0 (Ya O) (Ln (Et (Cs (Cs (Cr (V0 (Ya O) (Ln (Et (Cb ?_)))))))))
 refine CLk (ι:=Nat×Value) (fun g=>[(6,.int .i64 (g.1:Int)),(3,g.2)]) [(1,_),(2,_)] (fun g=>Ws w [] [osz 5 g.2 (textB o.nm++num8 o.uses.length++o.uses.flatMap textB++num8 o.data++num8 o.code.length++o.code.flatMap insB++num8 o.fix.length++(o.fix.take g.1).flatMap fixB),blk b1 (.cells (obV o q).toArray 27 (0,0))] [H]) (fun g=>g.1≤o.fix.length) (fun g=>o.fix.length-g.1) ((0,v83):Nat×Value) (Nat.zero_le _) (sc O (sc O (sc O (sc O sn)))) (fun _ h=>by simp only [List.take_zero,List.flatMap_nil,List.append_nil]; exact h) ?_
 intro g hgi
 refine Cs (Cs (Cr (V0 (Ym O) (V0 (Yf fo27_4 O) (V0 (Yd 1 O O O na24) (V0 (Yn es24 O) (V0 (yl_lt O O) ?_)))))))
 refine Ln (Et ?_)
 refine Cc O (fun hc2=>?_) (fun hc2=>?_)
 ·
  have hlt:g.1<o.fix.length:=by simpa using hc2
  obtain ⟨x,hxi⟩:∃q,o.fix[g.1]? = some q:=⟨_,List.getElem?_eq_getElem hlt⟩
  obtain ⟨pbx,pox,hax,hrx⟩:=hm.fix.elt g.1 x hxi
  have hrx:RdC H pbx (pox+g.1*3) x.cells:=hrx
  have hbg:=hl.fx g.1
  refine Ck (Et (Cs (Cb (Cs (Cr (V0 (Ym O) (V0 (Yf fo27_4 O) (V0 (Yd 1 O O O na24) (V0 (Ym O) (V0 (Yo es24 O O hax hlt) ?_))))))))))
  refine V0 (Yf fo70_0 O) (V0 (yl_ld 0 na3 O O (hrx 0 _ O)) ?_)
  refine Lp Y O en78 O (fun w hw=>numBytes_any _ w) ?_
  refine WL.appendsZ 0 Y O el75 us9 O O O (by simp only [List.length_append,textB_len,num8_len,List.length_singleton]; omega) fun v99=>?_
  refine V0 (Ya O) (Ln (Et (Cs (Cr (V0 (Ym O) (V0 (Yf fo27_4 O) (V0 (Yd 1 O O O na24) (V0 (Ym O) ?_))))))))
  refine V0 (Yo es24 O O hax hlt) (V0 (Yf fo70_1 O) (V0 (yl_ld 0 na3 O O (hrx 1 _ O)) (V0 (yl_cvi ui3 ui5 O) ?_)))
  refine Lb Y O el75 O O O O fun b108=>?_
  refine Lrb 0 (.cells ([byO x.kind].map byv).toArray 5 (0,0)) O (one_cell _ 5) ?_
  refine WL.appendbZ 1 0 Y O el75 O O O O (by simp only [List.length_append,textB_len,num8_len,List.length_singleton]; omega) fun v109=>?_
  refine V0 (Ya O) (Ln (Et (Cr (V0 (Ym O) (V0 (Yf fo27_4 O) (V0 (Yd 2 O O O na24) (V0 (Ym O) ?_)))))))
  refine V0 (Yo es24 O O (by assumption) (by omega)) ?_
  refine V0 (Yf fo70_2 O) (V0 (yl_ld 0 na3 O O (hrx 2 _ O)) ?_)
  refine Lp Y O en78 O (fun w hw=>numBytes_any _ w) ?_
  refine WL.appendsZ 1 Y O el75 us9 O O O (by simp only [List.length_append,textB_len,num8_len,List.length_singleton]; omega) fun v118=>?_
  refine V0 (Ya O) (Ln (Eb (Et (Cr (V0 (Ym O) ?_)))))
  refine V0 (Yi O O O (by omega)) ?_
  refine V0 (Ya O) (Ln ?_)
  exact Ea ((g.1+1,v118):Nat×Value) (by show _-(g.1+1)<_; omega) (by show g.1+1≤_; omega) (sc O (sc O (sc O (sc O sn)))) (fun _ h=>by
    have h:=Ws.out 0 h
    have e:textB o.nm++num8 o.uses.length++o.uses.flatMap textB++num8 o.data++num8 o.code.length++o.code.flatMap insB++num8 o.fix.length++(o.fix.take g.1).flatMap fixB++num8 x.at_++[byO x.kind]++num8 x.m=textB o.nm++num8 o.uses.length++o.uses.flatMap textB++num8 o.data++num8 o.code.length++o.code.flatMap insB++num8 o.fix.length++(o.fix.take (g.1+1)).flatMap fixB:=by rw [take_flat hxi]; simp [insB,fixB]
    rw [e] at h
    exact h)
 have hge:g.1=o.fix.length:=by simp at hc2; omega
 rw [hge,List.take_length]
 refine Ce (Ex (Ex (Ebh (Et (Cs (Cr (V0 (Ym O) (V0 (Yf fo27_5 O) (V0 (Yd 1 O O O na25) (V0 (Yn es25 O) ?_))))))))))
 refine Lp Y O en78 O (fun w hw=>numBytes_any _ w) ?_
 refine WL.appendsZ 0 Y O el75 us9 O O O (by simp only [List.length_append,textB_len,num8_len,List.length_singleton]; omega) fun v124=>?_
 refine V0 (Ya O) (Ln (Et (Cs (Cs (Cr (V0 (Ya O) (Ln (Et (Cb ?_)))))))))
 refine CLk (ι:=Nat×Value) (fun g=>[(7,.int .i64 (g.1:Int)),(3,g.2)]) [(1,_),(2,_)] (fun g=>Ws w [] [osz 5 g.2 (textB o.nm++num8 o.uses.length++o.uses.flatMap textB++num8 o.data++num8 o.code.length++o.code.flatMap insB++num8 o.fix.length++o.fix.flatMap fixB++num8 o.ents.length++(o.ents.take g.1).flatMap num8),blk b1 (.cells (obV o q).toArray 27 (0,0))] [H]) (fun g=>g.1≤o.ents.length) (fun g=>o.ents.length-g.1) ((0,v124):Nat×Value) (Nat.zero_le _) (sc O (sc O (sc O (sc O sn)))) (fun _ h=>by simp only [List.take_zero,List.flatMap_nil,List.append_nil]; exact h) ?_
 intro g hgi
 refine Cs (Cs (Cr (V0 (Ym O) (V0 (Yf fo27_5 O) (V0 (Yd 1 O O O na25) (V0 (Yn es25 O) (V0 (yl_lt O O) ?_)))))))
 refine Ln (Et ?_)
 refine Cc O (fun hc3=>?_) (fun hc3=>?_)
 ·
  have hlt:g.1<o.ents.length:=by simpa using hc3
  obtain ⟨x,hxi⟩:∃q,o.ents[g.1]? = some q:=⟨_,List.getElem?_eq_getElem hlt⟩
  obtain ⟨pbx,pox,hax,hrx⟩:=hm.ents.elt g.1 x hxi
  have hrx:RdC H pbx (pox+g.1*1) (n1C x):=hrx
  have hbg:=hl.en g.1
  refine Ck (Et (Cs (Cb (Cr (V0 (Ym O) (V0 (Yf fo27_5 O) (V0 (Yd 1 O O O na25) (V0 (Ym O) (V0 (Yo es25 O O hax hlt) ?_)))))))))
  refine V0 (yl_ld 0 na3 O O (hrx 0 _ O)) ?_
  refine Lp Y O en78 O (fun w hw=>numBytes_any _ w) ?_
  refine WL.appendsZ 0 Y O el75 us9 O O O (by simp only [List.length_append,textB_len,num8_len,List.length_singleton]; omega) fun v139=>?_
  refine V0 (Ya O) (Ln (Eb (Et (Cr (V0 (Ym O) ?_)))))
  refine V0 (Yi O O O (by omega)) ?_
  refine V0 (Ya O) (Ln ?_)
  exact Ea ((g.1+1,v139):Nat×Value) (by show _-(g.1+1)<_; omega) (by show g.1+1≤_; omega) (sc O (sc O (sc O (sc O sn)))) (fun _ h=>by
    have e:textB o.nm++num8 o.uses.length++o.uses.flatMap textB++num8 o.data++num8 o.code.length++o.code.flatMap insB++num8 o.fix.length++o.fix.flatMap fixB++num8 o.ents.length++(o.ents.take g.1).flatMap num8++num8 x=textB o.nm++num8 o.uses.length++o.uses.flatMap textB++num8 o.data++num8 o.code.length++o.code.flatMap insB++num8 o.fix.length++o.fix.flatMap fixB++num8 o.ents.length++(o.ents.take (g.1+1)).flatMap num8:=by rw [take_flat hxi]; simp [insB,fixB]
    rw [e] at h
    exact h)
 have hge:g.1=o.ents.length:=by simp at hc3; omega
 rw [hge,List.take_length]
 refine Ce (Ex (Ex (Ebh (Et (Cs (Cr (V0 (Ym O) (V0 (Yf fo27_6 O) (V0 (Yd 1 O O O na3) ?_)))))))))
 refine Lp Y O en78 O (fun w hw=>numBytes_any _ w) ?_
 refine WL.appendsZ 0 Y O el75 us9 O O O (by simp only [List.length_append,textB_len,num8_len,List.length_singleton]; omega) fun v144=>?_
 refine V0 (Ya O) (Ln (Et (Cs (Cr (V0 (Ym O) (V0 (yl_b2sz 0 usl75 ui5 us9 O O) (V0 (Ya O) (Ln (Et (Crt ?_))))))))))
 refine R1 O O fun w' hw=>?_
 exact ⟨by rw [show obB o=textB o.nm++num8 o.uses.length++o.uses.flatMap textB++num8 o.data++num8 o.code.length++o.code.flatMap insB++num8 o.fix.length++o.fix.flatMap fixB++num8 o.ents.length++o.ents.flatMap num8++num8 o.main by simp [obB,listB]],hw.fr⟩
theorem rwriteO_any (H:View) (o:TOb) (q:OAt) (w:World) (hH:Le H w) (hm:RdTo H q o) :
   Calls Tryz.prog 13 #[.agg (obV o q).toArray] w fun e w'=>e = .returned (.tuple #[st (writeOb o).1,.int .i64 (writeOb o).2])∧Ext w w':=by
 have husescap:=hm.uses.cap
 have husesmax:=hm.uses.max
 have hcodecap:=hm.code.cap
 have hcodemax:=hm.code.max
 have hfixcap:=hm.fix.cap
 have hfixmax:=hm.fix.max
 have hentscap:=hm.ents.cap
 have hentsmax:=hm.ents.max
 refine enter Tryz.func13 O 17 O O ?_
 refine CE (Vs:=[H]) (Ws.init (by simp [hH])) ?_
 refine Cs (Cr ?_)
 refine WL.box Y O O fun b1=>?_
 refine V0 (Ya O) (V0 (Ya O) (Ln (Et (Cs (Cs (Cr (V0 (Yda 0 O O ag27 O) ?_)))))))
 refine Lp Y O en11 O (fun w hw=>rcheckO_any H o q w (hw.vs _ (by simp)) hm) ?_
 refine V0 (Ya O) (Ln (Et (Cs (Cr (V0 (Ym O) (V0 (yl_ne O O) (Ln (Et ?_))))))))
 refine Cc O (fun hc0=>?_) (fun hc0=>?_)
 ·
  have hz:¬checkO o=0:=by simpa using hc0
  refine Cs (Cr (V0 (Ym O) (V0 (Ya O) (V0 (Ya O) (Ln (Et (Crt (Er ?_))))))))
  refine WE.ret2 O O O fun w' hw=>?_
  exact ⟨by rw [writeOb,if_neg hz]; rfl,hw.fr⟩
 have hz:checkO o=0:=by simpa using hc0
 refine Ck (Et (Cs (Cr (V0 (Yda 0 O O ag27 O) ?_))))
 refine Lp Y O en39 O (fun w hw=>objectBytes_any H o q w (hw.vs _ (by simp)) hm (obL hz)) ?_
 refine V0 (Ya O) (Ln (Et (Cs (Cs (Cr (V0 (Ym O) (V0 (yl_lens us9 O) (V0 (yl_gt O O) (Ln (Et ?_))))))))))
 refine Cc O (fun hc1=>?_) (fun hc1=>?_)
 ·
  have hlt:32768<(obB o).length:=by simp at hc1; omega
  refine Cs (Cr (V0 (Ya O) (V0 (Ya O) (Ln (Et (Crt (Er ?_)))))))
  refine WE.ret2 O O O fun w' hw=>?_
  exact ⟨by rw [writeOb,if_pos hz,if_pos hlt]; rfl,hw.fr⟩
 have hlt:¬32768<(obB o).length:=by simp at hc1; omega
 refine Ck (Et (Cs (Cr (V0 (Ym O) (V0 (Ya O) (V0 (Ya O) (Ln (Et (Crt ?_)))))))))
 refine WE.ret2 O O O fun w' hw=>?_
 exact ⟨by rw [writeOb,if_pos hz,if_neg hlt],hw.fr⟩
theorem sl_nums {b:Nat} {T:TypeId} {fz:Nat×Nat} (l:List Int) (hl:l.length≤2):Sl rdN1 1 (bv b (.cells (l.flatMap n1C).toArray T fz)) (some ⟨b,0,none⟩) l.length l:=
 ⟨Nat.le_refl _,by omega,by simp,fun i y hy=>⟨b,0,rfl,fun k u hk=>bv_vc (by
   have hk1:k<1:=(List.getElem?_eq_some_iff.1 hk).1
   show cellIn (.cells (l.flatMap n1C).toArray T fz) (0+i*1+k)=some u
   simp only [cellIn,List.getElem?_toArray,Nat.zero_add]
   rw [flat_get n1C_len hy hk1]
   exact hk)⟩⟩
theorem en10:Enters Tryz.prog 10:=enters_of Tryz.func10 (by kernel_rfl) rfl
theorem pl79:placesP Tryz.prog 79=some [(0,2)]:=by kernel_rfl
theorem zr79:zeroOf Tryz.prog 79=some (.agg #[.pointer none,.slice none 0 0]):=by kernel_rfl
theorem en34:Enters Tryz.prog 34:=enters_of Tryz.func34 (by kernel_rfl) rfl
theorem en35:Enters Tryz.prog 35:=enters_of Tryz.func35 (by kernel_rfl) rfl
theorem en37:Enters Tryz.prog 37:=enters_of Tryz.func37 (by kernel_rfl) rfl
theorem en38:Enters Tryz.prog 38:=enters_of Tryz.func38 (by kernel_rfl) rfl
theorem objWrite_any (H:View) (o:TOb) (q:OAt) (w:World) (hH:Le H w) (hm:RdTo H q o) :
   Calls Tryz.prog 12 #[.agg (obV o q).toArray] w fun e w'=>e = .returned (.tuple #[st (writeOb o).1,.int .i64 (writeOb o).2])∧Ext w w':=by
 have husescap:=hm.uses.cap
 have husesmax:=hm.uses.max
 have hcodecap:=hm.code.cap
 have hcodemax:=hm.code.max
 have hfixcap:=hm.fix.cap
 have hfixmax:=hm.fix.max
 have hentscap:=hm.ents.cap
 have hentsmax:=hm.ents.max
 have hentsS:=hm.ents
 refine enter Tryz.func12 O 119 O O ?_
 refine CE (Vs:=[H]) (Ws.init (by simp [hH])) ?_
 refine Cs (Cr ?_)
 refine WL.box Y O O fun b1=>?_
 refine V0 (Ya O) (V0 (Ya O) (Ln (Et (Cs (Cs (Cr (V0 (Yda 0 O O ag27 O) ?_)))))))
 refine Lp Y O en10 O (fun w hw=>ocheck_any H o q w (hw.vs _ (by simp)) hm) ?_
 refine V0 (Ya O) (Ln (Et (Cs (Cr (V0 (Ym O) (V0 (yl_ne O O) (Ln (Et ?_))))))))
 refine Cc O (fun hc0=>?_) (fun hc0=>?_)
 ·
  have hz:¬checkO o=0:=by simpa using hc0
  refine Cs (Cr (V0 (Ym O) (V0 (Ya O) (V0 (Ya O) (Ln (Et (Crt (Er ?_))))))))
  refine WE.ret2 O O O fun w' hw=>?_
  exact ⟨by rw [writeOb,if_neg hz]; rfl,hw.fr⟩
 have hz:checkO o=0:=by simpa using hc0
 have hl:=obL hz
 have hu3:=hl.uses
 have hf2:=hl.fix
 have he6:=hl.ents
 have hnm:=hl.nm
 have hus9:=hl.us o.uses.length
 rw [List.take_length] at hus9
 have hco9:=hl.co o.code.length
 rw [List.take_length] at hco9
 have hfx9:=hl.fx o.fix.length
 rw [List.take_length] at hfx9
 have hen9:=hl.en o.ents.length
 rw [List.take_length] at hen9
 refine Ck (Et (Cs (Cr (V0 (Yb zr79 pl79 O O) ?_))))
 refine WL.box Y O O fun b18=>?_
 refine LW (fun _ h=>h.osl_nil 5 1) ?_
 refine V0 (Ya O) (Ln (Et (Cs (Cr (V0 (Ym O) (V0 (Yf fo27_0 O) (V0 (Yd 2 O O O na9) (Lf 0 O ?_))))))))
 refine Lf 1 O ?_
 refine Lw (ι:=Value) [_,_] _ Y O en34 O O (fun _=>.tuple #[]) (fun v'=>[blk b18 (.cells #[.pointer (some ⟨b18,0,none⟩),v'] 79 (0,0)),osl 5 1 v' (textB o.nm).length ((textB o.nm).map byv)]) (fun _=>True) [] (by simp) (fun w hw=>penText_any b18 none (.slice none 0 0) [] o.nm w Y (by simp; omega) hw) ?_
 intro v22 _
 refine Ln (Et (Cs (Cr (V0 (Ym O) (V0 (Yf fo27_1 O) (V0 (Yd 2 O O O na22) (V0 (Yn es22 O) ?_)))))))
 refine Lb Y O el25 O O O O fun b27=>?_
 refine Lrb 0 (.cells (([(o.uses.length:Int)]:List Int).flatMap n1C).toArray 3 (0,0)) O O ?_
 refine WL.blkview 0 O ?_
 refine Lf 1 O (Lf 1 O ?_)
 refine Lw (ι:=Option Addr×Value) [_,_] _ Y O en35 O O (fun _=>.tuple #[]) (fun r=>[blk b18 (.cells #[.pointer (r.1),r.2] 79 (0,0)),osl 5 1 r.2 (textB o.nm++[(o.uses.length:Int)].flatMap num8).length ((textB o.nm++[(o.uses.length:Int)].flatMap num8).map byv)]) (fun r=>r.1=none∨r.1=some ⟨b18,0,none⟩) [bv b27 (.cells (([(o.uses.length:Int)]:List Int).flatMap n1C).toArray 3 (0,0))] (by simp) (fun w hw=>penNums_any (bv b27 (.cells (([(o.uses.length:Int)]:List Int).flatMap n1C).toArray 3 (0,0))) (some ⟨b27,0,none⟩) 1 [(o.uses.length:Int)] b18 (some ⟨b18,0,none⟩) v22 (textB o.nm) w (sl_nums _ (by simp)) (.inr O) (by simp only [List.length_append,textB_len,num8_len,List.length_singleton,List.flatMap_cons,List.flatMap_nil,List.length_cons,List.length_nil,List.append_nil]; omega) hw) ?_
 intro r28 hr28
 refine Ln (Et (Cs (Cs (Cr (V0 (Yf fo27_1 O) (V0 (Yd 2 O O O na22) (V0 (Yn es22 O) (V0 (Ym O) (Ln (Et (Cb ?_)))))))))))
 refine CLk (ι:=Nat×Option Addr×Value) (fun g=>[(32,.int .i64 (g.1:Int))]) [(1,_),(2,_),(3,_),(5,_),(30,_),(31,_)] (fun g=>Ws w [] ([blk b18 (.cells #[.pointer (g.2.1),g.2.2] 79 (0,0)),osl 5 1 g.2.2 (textB o.nm++[(o.uses.length:Int)].flatMap num8++(o.uses.take g.1).flatMap textB).length ((textB o.nm++[(o.uses.length:Int)].flatMap num8++(o.uses.take g.1).flatMap textB).map byv)]++[blk b1 (.cells (obV o q).toArray 27 (0,0))]) [H]) (fun g=>g.1≤o.uses.length∧(g.2.1=none∨g.2.1=some ⟨b18,0,none⟩)) (fun g=>o.uses.length-g.1) ((0,r28.1,r28.2):Nat×Option Addr×Value) ⟨Nat.zero_le _,hr28⟩ (sc O (sc O (sc O (sc O (sc O (sc O (sc O sn))))))) (fun _ h=>by
   have h:=Ws.drops h (Vs':=[H]) (by simp)
   simp only [List.take_zero,List.flatMap_nil,List.append_nil]
   exact h) ?_
 intro g ⟨hgi,hp⟩
 refine Cs (Cr (V0 (yl_lt O O) (Ln (Et (Cs ?_)))))
 refine Cc O (fun hc1=>?_) (fun hc1=>?_)
 ·
  have hlt:g.1<o.uses.length:=by simpa using hc1
  obtain ⟨x,hxi⟩:∃q,o.uses[g.1]? = some q:=⟨_,List.getElem?_eq_getElem hlt⟩
  obtain ⟨pbx,pox,hax,hrx⟩:=hm.uses.elt g.1 x hxi
  have hrx:RdC H pbx (pox+g.1*1) (strC x):=hrx
  have hbg:=hl.us g.1
  have hxn:=hl.un x (List.mem_of_getElem? hxi)
  refine Ck (Et (Cs (Cb (Cs (Cr (V0 (Yo es22 O O hax hlt) (V0 (yl_ld 0 na9 O O (hrx 0 _ O)) (V0 (Ya O) (Ln (Et (Cr (V0 (Ym O) ?_))))))))))))
  refine V0 (Ym O) (Lf 1 O (Lf 1 O ?_))
  refine Lw (ι:=Value) [_,_] _ Y O en34 O O (fun _=>.tuple #[]) (fun v'=>[blk b18 (.cells #[.pointer (some ⟨b18,0,none⟩),v'] 79 (0,0)),osl 5 1 v' (textB o.nm++[(o.uses.length:Int)].flatMap num8++(o.uses.take g.1).flatMap textB++textB x).length ((textB o.nm++[(o.uses.length:Int)].flatMap num8++(o.uses.take g.1).flatMap textB++textB x).map byv)]) (fun _=>True) [] (by simp) (fun w hw=>penText_any b18 (g.2.1) g.2.2 (textB o.nm++[(o.uses.length:Int)].flatMap num8++(o.uses.take g.1).flatMap textB) x w hp (by simp only [List.length_append,textB_len,num8_len,List.length_singleton,List.flatMap_cons,List.flatMap_nil,List.length_cons,List.length_nil,List.append_nil]; omega) hw) ?_
  intro v38 _
  refine Ln (Eb (Et (Cr ?_)))
  refine V0 (Yi O O O (by omega)) ?_
  refine V0 (Ym O) (Ln ?_)
  exact Ea ((g.1+1,some ⟨b18,0,none⟩,v38):Nat×Option Addr×Value) (by show _-(g.1+1)<_; omega) ⟨(by show g.1+1≤_; omega),.inr O⟩ (sc O (sc O (sc O (sc O (sc O (sc O (sc O sn))))))) (fun _ h=>by
    have h:=Ws.drops h (Vs':=[H]) (by simp)
    have e:textB o.nm++[(o.uses.length:Int)].flatMap num8++(o.uses.take g.1).flatMap textB++textB x=textB o.nm++[(o.uses.length:Int)].flatMap num8++(o.uses.take (g.1+1)).flatMap textB:=by rw [take_flat hxi]; simp [insB,fixB]
    rw [e] at h
    exact h)
 have hge:g.1=o.uses.length:=by simp at hc1; omega
 rw [hge,List.take_length]
 refine Ce (Ex (Ex (Ebh (Et (Cs (Cr (V0 (Ym O) (V0 (Yf fo27_2 O) (V0 (Yd 2 O O O na3) (V0 (Yf fo27_3 O) ?_))))))))))
 refine V0 (Yd 2 O O O na23) (V0 (Yn es23 O) ?_)
 refine Lb Y O el25 O O O O fun b46=>?_
 refine Lrb 0 (.cells (([o.data,(o.code.length:Int)]:List Int).flatMap n1C).toArray 3 (0,0)) O O ?_
 refine WL.blkview 0 O ?_
 refine Lf 1 O (Lf 1 O ?_)
 refine Lw (ι:=Option Addr×Value) [_,_] _ Y O en35 O O (fun _=>.tuple #[]) (fun r=>[blk b18 (.cells #[.pointer (r.1),r.2] 79 (0,0)),osl 5 1 r.2 (textB o.nm++[(o.uses.length:Int)].flatMap num8++o.uses.flatMap textB++[o.data,(o.code.length:Int)].flatMap num8).length ((textB o.nm++[(o.uses.length:Int)].flatMap num8++o.uses.flatMap textB++[o.data,(o.code.length:Int)].flatMap num8).map byv)]) (fun r=>r.1=none∨r.1=some ⟨b18,0,none⟩) [bv b46 (.cells (([o.data,(o.code.length:Int)]:List Int).flatMap n1C).toArray 3 (0,0))] (by simp) (fun w hw=>penNums_any (bv b46 (.cells (([o.data,(o.code.length:Int)]:List Int).flatMap n1C).toArray 3 (0,0))) (some ⟨b46,0,none⟩) 2 [o.data,(o.code.length:Int)] b18 (g.2.1) g.2.2 (textB o.nm++[(o.uses.length:Int)].flatMap num8++o.uses.flatMap textB) w (sl_nums _ (by simp)) hp (by simp only [List.length_append,textB_len,num8_len,List.length_singleton,List.flatMap_cons,List.flatMap_nil,List.length_cons,List.length_nil,List.append_nil]; omega) hw) ?_
 intro r47 hr47
 refine Ln (Et (Cs (Cs (Cr (V0 (Yf fo27_3 O) (V0 (Yd 2 O O O na23) (V0 (Yn es23 O) (V0 (Ym O) (Ln (Et (Cb ?_)))))))))))
 refine CLk (ι:=Nat×Option Addr×Value) (fun g=>[(51,.int .i64 (g.1:Int))]) [(1,_),(2,_),(3,_),(5,_),(49,_),(50,_)] (fun g=>Ws w [] ([blk b18 (.cells #[.pointer (g.2.1),g.2.2] 79 (0,0)),osl 5 1 g.2.2 (textB o.nm++[(o.uses.length:Int)].flatMap num8++o.uses.flatMap textB++[o.data,(o.code.length:Int)].flatMap num8++(o.code.take g.1).flatMap insB).length ((textB o.nm++[(o.uses.length:Int)].flatMap num8++o.uses.flatMap textB++[o.data,(o.code.length:Int)].flatMap num8++(o.code.take g.1).flatMap insB).map byv)]++[blk b1 (.cells (obV o q).toArray 27 (0,0))]) [H]) (fun g=>g.1≤o.code.length∧(g.2.1=none∨g.2.1=some ⟨b18,0,none⟩)) (fun g=>o.code.length-g.1) ((0,r47.1,r47.2):Nat×Option Addr×Value) ⟨Nat.zero_le _,hr47⟩ (sc O (sc O (sc O (sc O (sc O (sc O (sc O sn))))))) (fun _ h=>by
   have h:=Ws.drops h (Vs':=[H]) (by simp)
   simp only [List.take_zero,List.flatMap_nil,List.append_nil]
   exact h) ?_
 intro g ⟨hgi,hp⟩
 refine Cs (Cr (V0 (yl_lt O O) (Ln (Et (Cs ?_)))))
 refine Cc O (fun hc2=>?_) (fun hc2=>?_)
 ·
  have hlt:g.1<o.code.length:=by simpa using hc2
  obtain ⟨x,hxi⟩:∃q,o.code[g.1]? = some q:=⟨_,List.getElem?_eq_getElem hlt⟩
  obtain ⟨pbx,pox,hax,hrx⟩:=hm.code.elt g.1 x hxi
  have hrx:RdC H pbx (pox+g.1*3) x.cells:=hrx
  have hbg:=hl.co g.1
  refine Ck (Et (Cs (Cb (Cs (Cr (V0 (Yo es23 O O hax hlt) (V0 (yl_lda 0 ag67 O O O (hrx)) ?_)))))))
  refine Al Y O zr67 fun b9=>?_
  refine Lst 0 Y O O O sz67 O O O (Ln (Et (Cs ?_)))
  refine Crb 0 (.cells (x.cells).toArray 67 (0,0)) O O ?_
  refine Cr (V0 (Ym O) (V0 (Yf fo67_0 O) (V0 (Yd 0 O O O na3) (Lf 2 O (Lf 2 O ?_)))))
  refine Lw (ι:=Value) [_,_] _ Y O en36 O O (fun _=>.tuple #[]) (fun v'=>[blk b18 (.cells #[.pointer (some ⟨b18,0,none⟩),v'] 79 (0,0)),osl 5 1 v' (textB o.nm++[(o.uses.length:Int)].flatMap num8++o.uses.flatMap textB++[o.data,(o.code.length:Int)].flatMap num8++(o.code.take g.1).flatMap insB++[byO x.op]).length ((textB o.nm++[(o.uses.length:Int)].flatMap num8++o.uses.flatMap textB++[o.data,(o.code.length:Int)].flatMap num8++(o.code.take g.1).flatMap insB++[byO x.op]).map byv)]) (fun _=>True) [] (by simp) (fun w hw=>penByte_any b18 (g.2.1) g.2.2 (textB o.nm++[(o.uses.length:Int)].flatMap num8++o.uses.flatMap textB++[o.data,(o.code.length:Int)].flatMap num8++(o.code.take g.1).flatMap insB) x.op w hp (by simp only [List.length_append,textB_len,num8_len,List.length_singleton,List.flatMap_cons,List.flatMap_nil,List.length_cons,List.length_nil,List.append_nil]; omega) hw) ?_
  intro v58 _
  refine Ln (Et (Cr (V0 (Ym O) (V0 (Yf fo67_1 O) (V0 (Yd 2 O O O na3) (V0 (Yf fo67_2 O) (V0 (Yd 2 O O O na3) ?_)))))))
  refine Lb Y O el25 O O O O fun b64=>?_
  refine Lrb 0 (.cells (([x.a,x.b]:List Int).flatMap n1C).toArray 3 (0,0)) O O ?_
  refine WL.blkview 0 O ?_
  refine Lf 1 O (Lf 1 O ?_)
  refine Lw (ι:=Option Addr×Value) [_,_] _ Y O en35 O O (fun _=>.tuple #[]) (fun r=>[blk b18 (.cells #[.pointer (r.1),r.2] 79 (0,0)),osl 5 1 r.2 (textB o.nm++[(o.uses.length:Int)].flatMap num8++o.uses.flatMap textB++[o.data,(o.code.length:Int)].flatMap num8++(o.code.take g.1).flatMap insB++[byO x.op]++[x.a,x.b].flatMap num8).length ((textB o.nm++[(o.uses.length:Int)].flatMap num8++o.uses.flatMap textB++[o.data,(o.code.length:Int)].flatMap num8++(o.code.take g.1).flatMap insB++[byO x.op]++[x.a,x.b].flatMap num8).map byv)]) (fun r=>r.1=none∨r.1=some ⟨b18,0,none⟩) [bv b64 (.cells (([x.a,x.b]:List Int).flatMap n1C).toArray 3 (0,0))] (by simp) (fun w hw=>penNums_any (bv b64 (.cells (([x.a,x.b]:List Int).flatMap n1C).toArray 3 (0,0))) (some ⟨b64,0,none⟩) 2 [x.a,x.b] b18 (some ⟨b18,0,none⟩) v58 (textB o.nm++[(o.uses.length:Int)].flatMap num8++o.uses.flatMap textB++[o.data,(o.code.length:Int)].flatMap num8++(o.code.take g.1).flatMap insB++[byO x.op]) w (sl_nums _ (by simp)) (.inr O) (by simp only [List.length_append,textB_len,num8_len,List.length_singleton,List.flatMap_cons,List.flatMap_nil,List.length_cons,List.length_nil,List.append_nil]; omega) hw) ?_
  intro r65 hr65
  refine Ln (Eb (Et (Cr ?_)))
  refine V0 (Yi O O O (by omega)) ?_
  refine V0 (Ym O) (Ln ?_)
  exact Ea ((g.1+1,r65.1,r65.2):Nat×Option Addr×Value) (by show _-(g.1+1)<_; omega) ⟨(by show g.1+1≤_; omega),hr65⟩ (sc O (sc O (sc O (sc O (sc O (sc O (sc O sn))))))) (fun _ h=>by
    have h:=Ws.out 2 h
    have h:=Ws.drops h (Vs':=[H]) (by simp)
    have e:textB o.nm++[(o.uses.length:Int)].flatMap num8++o.uses.flatMap textB++[o.data,(o.code.length:Int)].flatMap num8++(o.code.take g.1).flatMap insB++[byO x.op]++[x.a,x.b].flatMap num8=textB o.nm++[(o.uses.length:Int)].flatMap num8++o.uses.flatMap textB++[o.data,(o.code.length:Int)].flatMap num8++(o.code.take (g.1+1)).flatMap insB:=by rw [take_flat hxi]; simp [insB,fixB]
    rw [e] at h
    exact h)
 have hge:g.1=o.code.length:=by simp at hc2; omega
 rw [hge,List.take_length]
 refine Ce (Ex (Ex (Ebh (Et (Cs (Cr (V0 (Ym O) (V0 (Yf fo27_4 O) (V0 (Yd 2 O O O na24) (V0 (Yn es24 O) ?_))))))))))
 refine Lb Y O el25 O O O O fun b71=>?_
 refine Lrb 0 (.cells (([(o.fix.length:Int)]:List Int).flatMap n1C).toArray 3 (0,0)) O O ?_
 refine WL.blkview 0 O ?_
 refine Lf 1 O (Lf 1 O ?_)
 refine Lw (ι:=Option Addr×Value) [_,_] _ Y O en35 O O (fun _=>.tuple #[]) (fun r=>[blk b18 (.cells #[.pointer (r.1),r.2] 79 (0,0)),osl 5 1 r.2 (textB o.nm++[(o.uses.length:Int)].flatMap num8++o.uses.flatMap textB++[o.data,(o.code.length:Int)].flatMap num8++o.code.flatMap insB++[(o.fix.length:Int)].flatMap num8).length ((textB o.nm++[(o.uses.length:Int)].flatMap num8++o.uses.flatMap textB++[o.data,(o.code.length:Int)].flatMap num8++o.code.flatMap insB++[(o.fix.length:Int)].flatMap num8).map byv)]) (fun r=>r.1=none∨r.1=some ⟨b18,0,none⟩) [bv b71 (.cells (([(o.fix.length:Int)]:List Int).flatMap n1C).toArray 3 (0,0))] (by simp) (fun w hw=>penNums_any (bv b71 (.cells (([(o.fix.length:Int)]:List Int).flatMap n1C).toArray 3 (0,0))) (some ⟨b71,0,none⟩) 1 [(o.fix.length:Int)] b18 (g.2.1) g.2.2 (textB o.nm++[(o.uses.length:Int)].flatMap num8++o.uses.flatMap textB++[o.data,(o.code.length:Int)].flatMap num8++o.code.flatMap insB) w (sl_nums _ (by simp)) hp (by simp only [List.length_append,textB_len,num8_len,List.length_singleton,List.flatMap_cons,List.flatMap_nil,List.length_cons,List.length_nil,List.append_nil]; omega) hw) ?_
 intro r72 hr72
 refine Ln (Et (Cs (Cs (Cr (V0 (Yf fo27_4 O) (V0 (Yd 2 O O O na24) (V0 (Yn es24 O) (V0 (Ym O) (Ln (Et (Cb ?_)))))))))))
 refine CLk (ι:=Nat×Option Addr×Value) (fun g=>[(76,.int .i64 (g.1:Int))]) [(1,_),(2,_),(3,_),(5,_),(74,_),(75,_)] (fun g=>Ws w [] ([blk b18 (.cells #[.pointer (g.2.1),g.2.2] 79 (0,0)),osl 5 1 g.2.2 (textB o.nm++[(o.uses.length:Int)].flatMap num8++o.uses.flatMap textB++[o.data,(o.code.length:Int)].flatMap num8++o.code.flatMap insB++[(o.fix.length:Int)].flatMap num8++(o.fix.take g.1).flatMap fixB).length ((textB o.nm++[(o.uses.length:Int)].flatMap num8++o.uses.flatMap textB++[o.data,(o.code.length:Int)].flatMap num8++o.code.flatMap insB++[(o.fix.length:Int)].flatMap num8++(o.fix.take g.1).flatMap fixB).map byv)]++[blk b1 (.cells (obV o q).toArray 27 (0,0))]) [H]) (fun g=>g.1≤o.fix.length∧(g.2.1=none∨g.2.1=some ⟨b18,0,none⟩)) (fun g=>o.fix.length-g.1) ((0,r72.1,r72.2):Nat×Option Addr×Value) ⟨Nat.zero_le _,hr72⟩ (sc O (sc O (sc O (sc O (sc O (sc O (sc O sn))))))) (fun _ h=>by
   have h:=Ws.drops h (Vs':=[H]) (by simp)
   simp only [List.take_zero,List.flatMap_nil,List.append_nil]
   exact h) ?_
 intro g ⟨hgi,hp⟩
 refine Cs (Cr (V0 (yl_lt O O) (Ln (Et (Cs ?_)))))
 refine Cc O (fun hc3=>?_) (fun hc3=>?_)
 ·
  have hlt:g.1<o.fix.length:=by simpa using hc3
  obtain ⟨x,hxi⟩:∃q,o.fix[g.1]? = some q:=⟨_,List.getElem?_eq_getElem hlt⟩
  obtain ⟨pbx,pox,hax,hrx⟩:=hm.fix.elt g.1 x hxi
  have hrx:RdC H pbx (pox+g.1*3) x.cells:=hrx
  have hbg:=hl.fx g.1
  refine Ck (Et (Cs (Cb (Cs (Cr (V0 (Yo es24 O O hax hlt) (V0 (yl_lda 0 ag70 O O O (hrx)) ?_)))))))
  refine Al Y O zr70 fun b11=>?_
  refine Lst 0 Y O O O sz70 O O O (Ln (Et (Cs ?_)))
  refine Crb 0 (.cells (x.cells).toArray 70 (0,0)) O O ?_
  refine Cr (V0 (Ym O) (V0 (Yf fo70_0 O) (V0 (Yd 0 O O O na3) ?_)))
  refine Lb Y O el25 O O O O fun b83=>?_
  refine Lrb 0 (.cells (([x.at_]:List Int).flatMap n1C).toArray 3 (0,0)) O O ?_
  refine WL.blkview 0 O ?_
  refine Lf 2 O (Lf 2 O ?_)
  refine Lw (ι:=Option Addr×Value) [_,_] _ Y O en35 O O (fun _=>.tuple #[]) (fun r=>[blk b18 (.cells #[.pointer (r.1),r.2] 79 (0,0)),osl 5 1 r.2 (textB o.nm++[(o.uses.length:Int)].flatMap num8++o.uses.flatMap textB++[o.data,(o.code.length:Int)].flatMap num8++o.code.flatMap insB++[(o.fix.length:Int)].flatMap num8++(o.fix.take g.1).flatMap fixB++[x.at_].flatMap num8).length ((textB o.nm++[(o.uses.length:Int)].flatMap num8++o.uses.flatMap textB++[o.data,(o.code.length:Int)].flatMap num8++o.code.flatMap insB++[(o.fix.length:Int)].flatMap num8++(o.fix.take g.1).flatMap fixB++[x.at_].flatMap num8).map byv)]) (fun r=>r.1=none∨r.1=some ⟨b18,0,none⟩) [bv b83 (.cells (([x.at_]:List Int).flatMap n1C).toArray 3 (0,0))] (by simp) (fun w hw=>penNums_any (bv b83 (.cells (([x.at_]:List Int).flatMap n1C).toArray 3 (0,0))) (some ⟨b83,0,none⟩) 1 [x.at_] b18 (g.2.1) g.2.2 (textB o.nm++[(o.uses.length:Int)].flatMap num8++o.uses.flatMap textB++[o.data,(o.code.length:Int)].flatMap num8++o.code.flatMap insB++[(o.fix.length:Int)].flatMap num8++(o.fix.take g.1).flatMap fixB) w (sl_nums _ (by simp)) hp (by simp only [List.length_append,textB_len,num8_len,List.length_singleton,List.flatMap_cons,List.flatMap_nil,List.length_cons,List.length_nil,List.append_nil]; omega) hw) ?_
  intro r84 hr84
  refine Ln (Et (Cs (Cr (V0 (Ym O) (V0 (Yf fo70_1 O) (V0 (Yd 2 O O O na3) (Lf 1 O (Lf 1 O ?_))))))))
  refine Lw (ι:=Value) [_,_] _ Y O en36 O O (fun _=>.tuple #[]) (fun v'=>[blk b18 (.cells #[.pointer (some ⟨b18,0,none⟩),v'] 79 (0,0)),osl 5 1 v' (textB o.nm++[(o.uses.length:Int)].flatMap num8++o.uses.flatMap textB++[o.data,(o.code.length:Int)].flatMap num8++o.code.flatMap insB++[(o.fix.length:Int)].flatMap num8++(o.fix.take g.1).flatMap fixB++[x.at_].flatMap num8++[byO x.kind]).length ((textB o.nm++[(o.uses.length:Int)].flatMap num8++o.uses.flatMap textB++[o.data,(o.code.length:Int)].flatMap num8++o.code.flatMap insB++[(o.fix.length:Int)].flatMap num8++(o.fix.take g.1).flatMap fixB++[x.at_].flatMap num8++[byO x.kind]).map byv)]) (fun _=>True) [] (by simp) (fun w hw=>penByte_any b18 (r84.1) r84.2 (textB o.nm++[(o.uses.length:Int)].flatMap num8++o.uses.flatMap textB++[o.data,(o.code.length:Int)].flatMap num8++o.code.flatMap insB++[(o.fix.length:Int)].flatMap num8++(o.fix.take g.1).flatMap fixB++[x.at_].flatMap num8) x.kind w hr84 (by simp only [List.length_append,textB_len,num8_len,List.length_singleton,List.flatMap_cons,List.flatMap_nil,List.length_cons,List.length_nil,List.append_nil]; omega) hw) ?_
  intro v88 _
  refine Ln (Et (Cr (V0 (Ym O) (V0 (Yf fo70_2 O) (V0 (Yd 2 O O O na3) ?_)))))
  refine Lb Y O el25 O O O O fun b92=>?_
  refine Lrb 0 (.cells (([x.m]:List Int).flatMap n1C).toArray 3 (0,0)) O O ?_
  refine WL.blkview 0 O ?_
  refine Lf 1 O (Lf 1 O ?_)
  refine Lw (ι:=Option Addr×Value) [_,_] _ Y O en35 O O (fun _=>.tuple #[]) (fun r=>[blk b18 (.cells #[.pointer (r.1),r.2] 79 (0,0)),osl 5 1 r.2 (textB o.nm++[(o.uses.length:Int)].flatMap num8++o.uses.flatMap textB++[o.data,(o.code.length:Int)].flatMap num8++o.code.flatMap insB++[(o.fix.length:Int)].flatMap num8++(o.fix.take g.1).flatMap fixB++[x.at_].flatMap num8++[byO x.kind]++[x.m].flatMap num8).length ((textB o.nm++[(o.uses.length:Int)].flatMap num8++o.uses.flatMap textB++[o.data,(o.code.length:Int)].flatMap num8++o.code.flatMap insB++[(o.fix.length:Int)].flatMap num8++(o.fix.take g.1).flatMap fixB++[x.at_].flatMap num8++[byO x.kind]++[x.m].flatMap num8).map byv)]) (fun r=>r.1=none∨r.1=some ⟨b18,0,none⟩) [bv b92 (.cells (([x.m]:List Int).flatMap n1C).toArray 3 (0,0))] (by simp) (fun w hw=>penNums_any (bv b92 (.cells (([x.m]:List Int).flatMap n1C).toArray 3 (0,0))) (some ⟨b92,0,none⟩) 1 [x.m] b18 (some ⟨b18,0,none⟩) v88 (textB o.nm++[(o.uses.length:Int)].flatMap num8++o.uses.flatMap textB++[o.data,(o.code.length:Int)].flatMap num8++o.code.flatMap insB++[(o.fix.length:Int)].flatMap num8++(o.fix.take g.1).flatMap fixB++[x.at_].flatMap num8++[byO x.kind]) w (sl_nums _ (by simp)) (.inr O) (by simp only [List.length_append,textB_len,num8_len,List.length_singleton,List.flatMap_cons,List.flatMap_nil,List.length_cons,List.length_nil,List.append_nil]; omega) hw) ?_
  intro r93 hr93
  refine Ln (Eb (Et (Cr ?_)))
  refine V0 (Yi O O O (by omega)) ?_
  refine V0 (Ym O) (Ln ?_)
  exact Ea ((g.1+1,r93.1,r93.2):Nat×Option Addr×Value) (by show _-(g.1+1)<_; omega) ⟨(by show g.1+1≤_; omega),hr93⟩ (sc O (sc O (sc O (sc O (sc O (sc O (sc O sn))))))) (fun _ h=>by
    have h:=Ws.out 2 h
    have h:=Ws.drops h (Vs':=[H]) (by simp)
    have e:textB o.nm++[(o.uses.length:Int)].flatMap num8++o.uses.flatMap textB++[o.data,(o.code.length:Int)].flatMap num8++o.code.flatMap insB++[(o.fix.length:Int)].flatMap num8++(o.fix.take g.1).flatMap fixB++[x.at_].flatMap num8++[byO x.kind]++[x.m].flatMap num8=textB o.nm++[(o.uses.length:Int)].flatMap num8++o.uses.flatMap textB++[o.data,(o.code.length:Int)].flatMap num8++o.code.flatMap insB++[(o.fix.length:Int)].flatMap num8++(o.fix.take (g.1+1)).flatMap fixB:=by rw [take_flat hxi]; simp [insB,fixB]
    rw [e] at h
    exact h)
 have hge:g.1=o.fix.length:=by simp at hc3; omega
 rw [hge,List.take_length]
 refine Ce (Ex (Ex (Ebh (Et (Cs (Cr (V0 (Ym O) (V0 (Yf fo27_5 O) (V0 (Yd 2 O O O na25) (V0 (Yn es25 O) ?_))))))))))
 refine Lb Y O el25 O O O O fun b99=>?_
 refine Lrb 0 (.cells (([(o.ents.length:Int)]:List Int).flatMap n1C).toArray 3 (0,0)) O O ?_
 refine WL.blkview 0 O ?_
 refine Lf 1 O (Lf 1 O ?_)
 refine Lw (ι:=Option Addr×Value) [_,_] _ Y O en35 O O (fun _=>.tuple #[]) (fun r=>[blk b18 (.cells #[.pointer (r.1),r.2] 79 (0,0)),osl 5 1 r.2 (textB o.nm++[(o.uses.length:Int)].flatMap num8++o.uses.flatMap textB++[o.data,(o.code.length:Int)].flatMap num8++o.code.flatMap insB++[(o.fix.length:Int)].flatMap num8++o.fix.flatMap fixB++[(o.ents.length:Int)].flatMap num8).length ((textB o.nm++[(o.uses.length:Int)].flatMap num8++o.uses.flatMap textB++[o.data,(o.code.length:Int)].flatMap num8++o.code.flatMap insB++[(o.fix.length:Int)].flatMap num8++o.fix.flatMap fixB++[(o.ents.length:Int)].flatMap num8).map byv)]) (fun r=>r.1=none∨r.1=some ⟨b18,0,none⟩) [bv b99 (.cells (([(o.ents.length:Int)]:List Int).flatMap n1C).toArray 3 (0,0))] (by simp) (fun w hw=>penNums_any (bv b99 (.cells (([(o.ents.length:Int)]:List Int).flatMap n1C).toArray 3 (0,0))) (some ⟨b99,0,none⟩) 1 [(o.ents.length:Int)] b18 (g.2.1) g.2.2 (textB o.nm++[(o.uses.length:Int)].flatMap num8++o.uses.flatMap textB++[o.data,(o.code.length:Int)].flatMap num8++o.code.flatMap insB++[(o.fix.length:Int)].flatMap num8++o.fix.flatMap fixB) w (sl_nums _ (by simp)) hp (by simp only [List.length_append,textB_len,num8_len,List.length_singleton,List.flatMap_cons,List.flatMap_nil,List.length_cons,List.length_nil,List.append_nil]; omega) hw) ?_
 intro r100 hr100
 refine Ln (Et (Cs (Cr (V0 (Ym O) (V0 (Yf fo27_5 O) (V0 (Yd 2 O O O na25) (Lf 1 O (Lf 1 O ?_))))))))
 refine Lw (ι:=Option Addr×Value) [_,_] _ Y O en35 O O (fun _=>.tuple #[]) (fun r=>[blk b18 (.cells #[.pointer (r.1),r.2] 79 (0,0)),osl 5 1 r.2 (textB o.nm++[(o.uses.length:Int)].flatMap num8++o.uses.flatMap textB++[o.data,(o.code.length:Int)].flatMap num8++o.code.flatMap insB++[(o.fix.length:Int)].flatMap num8++o.fix.flatMap fixB++[(o.ents.length:Int)].flatMap num8++o.ents.flatMap num8).length ((textB o.nm++[(o.uses.length:Int)].flatMap num8++o.uses.flatMap textB++[o.data,(o.code.length:Int)].flatMap num8++o.code.flatMap insB++[(o.fix.length:Int)].flatMap num8++o.fix.flatMap fixB++[(o.ents.length:Int)].flatMap num8++o.ents.flatMap num8).map byv)]) (fun r=>r.1=none∨r.1=some ⟨b18,0,none⟩) [H] (by simp) (fun w hw=>penNums_any H q.s4.1 q.s4.2 o.ents b18 r100.1 r100.2 (textB o.nm++[(o.uses.length:Int)].flatMap num8++o.uses.flatMap textB++[o.data,(o.code.length:Int)].flatMap num8++o.code.flatMap insB++[(o.fix.length:Int)].flatMap num8++o.fix.flatMap fixB++[(o.ents.length:Int)].flatMap num8) w hm.ents hr100 (by simp only [List.length_append,textB_len,num8_len,List.length_singleton,List.flatMap_cons,List.flatMap_nil,List.length_cons,List.length_nil,List.append_nil]; omega) hw) ?_
 intro r104 hr104
 refine Ln (Et (Cs (Cr (V0 (Ym O) (V0 (Yf fo27_6 O) (V0 (Yd 2 O O O na3) ?_))))))
 refine Lb Y O el25 O O O O fun b108=>?_
 refine Lrb 0 (.cells (([o.main]:List Int).flatMap n1C).toArray 3 (0,0)) O O ?_
 refine WL.blkview 0 O ?_
 refine Lf 1 O (Lf 1 O ?_)
 refine Lw (ι:=Option Addr×Value) [_,_] _ Y O en35 O O (fun _=>.tuple #[]) (fun r=>[blk b18 (.cells #[.pointer (r.1),r.2] 79 (0,0)),osl 5 1 r.2 (textB o.nm++[(o.uses.length:Int)].flatMap num8++o.uses.flatMap textB++[o.data,(o.code.length:Int)].flatMap num8++o.code.flatMap insB++[(o.fix.length:Int)].flatMap num8++o.fix.flatMap fixB++[(o.ents.length:Int)].flatMap num8++o.ents.flatMap num8++[o.main].flatMap num8).length ((textB o.nm++[(o.uses.length:Int)].flatMap num8++o.uses.flatMap textB++[o.data,(o.code.length:Int)].flatMap num8++o.code.flatMap insB++[(o.fix.length:Int)].flatMap num8++o.fix.flatMap fixB++[(o.ents.length:Int)].flatMap num8++o.ents.flatMap num8++[o.main].flatMap num8).map byv)]) (fun r=>r.1=none∨r.1=some ⟨b18,0,none⟩) [bv b108 (.cells (([o.main]:List Int).flatMap n1C).toArray 3 (0,0))] (by simp) (fun w hw=>penNums_any (bv b108 (.cells (([o.main]:List Int).flatMap n1C).toArray 3 (0,0))) (some ⟨b108,0,none⟩) 1 [o.main] b18 (r104.1) r104.2 (textB o.nm++[(o.uses.length:Int)].flatMap num8++o.uses.flatMap textB++[o.data,(o.code.length:Int)].flatMap num8++o.code.flatMap insB++[(o.fix.length:Int)].flatMap num8++o.fix.flatMap fixB++[(o.ents.length:Int)].flatMap num8++o.ents.flatMap num8) w (sl_nums _ (by simp)) hr104 (by simp only [List.length_append,textB_len,num8_len,List.length_singleton,List.flatMap_cons,List.flatMap_nil,List.length_cons,List.length_nil,List.append_nil]; omega) hw) ?_
 intro r109 hr109
 refine Ln (Et (Cs (Cs ?_)))
 have hA:textB o.nm++[(o.uses.length:Int)].flatMap num8++o.uses.flatMap textB++[o.data,(o.code.length:Int)].flatMap num8++o.code.flatMap insB++[(o.fix.length:Int)].flatMap num8++o.fix.flatMap fixB++[(o.ents.length:Int)].flatMap num8++o.ents.flatMap num8++[o.main].flatMap num8=obB o:=by simp [obB,listB]
 have hBl:(obB o).length+1≤1099511627776:=by rw [←hA]; exact (by simp only [List.length_append,textB_len,num8_len,List.length_singleton,List.flatMap_cons,List.flatMap_nil,List.length_cons,List.length_nil,List.append_nil]; omega)
 rw [hA]
 refine Cr (V0 (Ym O) (V0 (yl_nil O) (V0 (Yf fo79_0 O) (Lf 1 O (Lf 1 O ?_)))))
 refine Lw (ι:=Unit) [_,_] _ Y O en37 O O (fun _=>.int .i64 ((obB o).length:Int)) (fun _=>[blk b18 (.cells #[.pointer (r109.1),r109.2] 79 (0,0)),osl 5 1 r109.2 (obB o).length ((obB o).map byv)]) (fun _=>True) [] (by simp) (fun w hw=>(builderLen_any b18 r109.1 r109.2 (obB o) w hr109 (by omega) hw).mono fun e w' h=>⟨(),h.1,trivial,h.2⟩) ?_
 intro _ _
 refine V0 (yl_gt O O) (Ln (Et ?_))
 refine Cc O (fun hc4=>?_) (fun hc4=>?_)
 ·
  have hlt:32768<(obB o).length:=by simp at hc4; omega
  refine Cs (Cr (V0 (Ya O) (V0 (Ya O) (Ln (Et (Crt (Er ?_)))))))
  refine WE.ret2 O O O fun w' hw=>?_
  exact ⟨by rw [writeOb,if_pos hz,if_pos hlt]; rfl,hw.fr⟩
 have hlt:¬32768<(obB o).length:=by simp at hc4; omega
 refine Ck (Et (Cs (Cr (V0 (Ym O) (V0 (yl_nil O) (V0 (Yf fo79_0 O) (Lf 1 O (Lf 1 O ?_))))))))
 refine Lw (ι:=Unit) [_,_] _ Y O en38 O O (fun _=>st (obB o)) (fun _=>[]) (fun _=>True) [] (by simp) (fun w hw=>(builderString_any b18 r109.1 r109.2 (obB o) (by rw [←hA]; simp [textB]) w hr109 (by omega) hw).mono fun e w' h=>⟨(),h.1,trivial,h.2⟩) ?_
 intro _ _
 refine V0 (Ya O) (V0 (Ya O) (Ln (Et (Crt ?_))))
 refine WE.ret2 O O O fun w' hw=>?_
 exact ⟨by rw [writeOb,if_pos hz,if_neg hlt],hw.fr⟩
theorem en44:Enters Tryz.prog 44:=enters_of Tryz.func44 (by kernel_rfl) rfl
theorem na87:nonAgg Tryz.prog 87=true:=by kernel_rfl
theorem en81:Enters Tryz.prog 81:=enters_of Tryz.func81 (by kernel_rfl) rfl
theorem en42:Enters Tryz.prog 42:=enters_of Tryz.func42 (by kernel_rfl) rfl
theorem en46:Enters Tryz.prog 46:=enters_of Tryz.func46 (by kernel_rfl) rfl
theorem en49:Enters Tryz.prog 49:=enters_of Tryz.func49 (by kernel_rfl) rfl
theorem glCount_any (bg:Nat) (s:List UInt8)  (w:World) (hs:s.length≤9223372036854775807) (hw:Ws w [bg] [blk bg (.cells #[st (s)] 147 (0,0))] [] w) :
   Calls Tryz.prog 81 #[.pointer (some ⟨bg,0,none⟩)] w fun e w'=>(∃r:Nat×List UInt8,e = .returned (.int .i64 ((r.1:Nat):Int))∧glCount s=some r∧Ws w [bg] [blk bg (.cells #[st (r.2)] 147 (0,0))] [] w')∨(∃t:List UInt8,e = .panicked brkG∧glCount s=none∧Ws w [bg] [blk bg (.cells #[st (t)] 147 (0,0))] [] w'):=by
 refine enter Tryz.func81 O 15 O O ?_
 refine CE hw ?_
 refine Cs (Cr (V0 (Ya O) (Ln (Et (Cs (Cr (V0 (Ym O) (Lf 0 O ?_))))))))
 refine Lwx (ι:=Int×List UInt8) (κ:=List UInt8) [_] _ Y O en44 O O (fun r=>.int .i64 r.1) (fun r=>[blk bg (.cells #[st (r.2)] 147 (0,0))]) (fun r=>glNum s=some r) (fun _=>brkG) (fun t=>[blk bg (.cells #[st (t)] 147 (0,0))]) (fun _=>glNum s=none) ([]) (by simp) (fun w hw=>glNum_any bg (s)  w hs hw) ?_ ?_
 ·
  intro t ht
  refine Ep ?_
  refine Epp fun w' hw=>?_
  exact .inr ⟨t,O,(by rw [glCount,ht]; rfl),hw⟩
 intro r hr
 refine V0 (Ya O) (Ln (Et (Cs (Cs (Cr (V0 (Ym O) (V0 (yl_lt O O) (V0 (Ym O) ?_))))))))
 apply Lo 2 O O O O Y O O O O O
 ·
  intro hg0
  refine Vg (Ym O) (Vg (yl_gt O O) ?_)
  exact Gt 2 O O O
 refine Ln (Et ?_)
 refine Cc O (fun hc0=>?_) (fun hc0=>?_)
 ·
  have hlt:r.1<0∨32768<r.1:=by simpa using hc0
  refine Cr (V0 (Yb zr184 pl184 O O) (V0 (yl_mki co184 O) ?_))
  refine WL.panic Y O ?_
  refine Ep ?_
  refine Epp fun w' hw=>?_
  exact .inr ⟨r.2,O,(by rw [glCount,hr,Option.bind_some,if_pos hlt]),hw⟩
 have hlt:¬(r.1<0∨32768<r.1):=by simpa using hc0
 obtain ⟨m,hm⟩:∃m:Nat,r.1=(m:Int):=⟨r.1.toNat,by omega⟩
 rw [hm]
 refine Ck (Et (Cs (Cr (V0 (Ym O) (V0 (Ya O) (Ln (Et (Crt ?_))))))))
 refine R1 O O fun w' hw=>?_
 exact .inl ⟨(m,r.2),O,(by rw [glCount,hr,Option.bind_some,if_neg hlt,hm,Int.toNat_natCast]),hw⟩
theorem glIns_any (bg bc:Nat) (s:List UInt8) (w:World) (hs:s.length≤9223372036854775807) (hw:Ws w [bg,bc] [blk bg (.cells #[st (s)] 147 (0,0)),blk bc (.cells #[.pointer (some ⟨bg,0,none⟩)] 87 (0,0))] [] w) :
   Calls Tryz.prog 46 #[.pointer (some ⟨bc,0,none⟩)] w fun e w'=>(∃r:InsG×List UInt8,e = .returned (.agg r.1.cells.toArray)∧glIns s=some r∧Ws w [bg,bc] [blk bg (.cells #[st (r.2)] 147 (0,0)),blk bc (.cells #[.pointer (some ⟨bg,0,none⟩)] 87 (0,0))] [] w')∨(∃t:List UInt8,e = .panicked brkG∧glIns s=none∧Ws w [bg,bc] [blk bg (.cells #[st (t)] 147 (0,0)),blk bc (.cells #[.pointer (some ⟨bg,0,none⟩)] 87 (0,0))] [] w'):=by
 refine enter Tryz.func46 O 13 O O ?_
 refine CE hw ?_
 refine Cs (Cr ?_)
 refine Al Y O zr67 fun b1=>?_
 refine Ln (Et (Cs (Cr (V0 (Yd 2 O O O na87) (Lf 1 O ?_)))))
 refine Lwx (ι:=Int×List UInt8) (κ:=List UInt8) [_] _ Y O en47 O O (fun r=>.int .i64 r.1) (fun r=>[blk bg (.cells #[st (r.2)] 147 (0,0))]) (fun r=>glByte s=some r) (fun _=>brkG) (fun t=>[blk bg (.cells #[st (t)] 147 (0,0))]) (fun _=>glByte s=none) ([]) (by simp) (fun w hw=>glByte_any bg (s) w hs hw) ?_ ?_
 ·
  intro t ht
  refine Ep ?_
  refine Epp fun w' hw=>?_
  exact .inr ⟨t,O,(by unfold glIns; simp only [ht,Option.bind_some,Option.bind_none]),Ws.keep (L:=[_,_]) (Ws.fronti (Ws.fronti hw 2 O) 1 O)⟩
 intro r4 h4
 refine V0 (Yb zr67 pl67 O O) ?_
 refine Al Y O zr67 fun b2=>?_
 refine Lst 0 Y O O O sz67 O O O (Ln (Et (Cs (Cr (V0 (Yd 3 O O O na87) (Lf 1 O ?_))))))
 refine Lwx (ι:=Int×List UInt8) (κ:=List UInt8) [_] _ Y O en44 O O (fun r=>.int .i64 r.1) (fun r=>[blk bg (.cells #[st (r.2)] 147 (0,0))]) (fun r=>glNum r4.2=some r) (fun _=>brkG) (fun t=>[blk bg (.cells #[st (t)] 147 (0,0))]) (fun _=>glNum r4.2=none) ([]) (by simp) (fun w hw=>glNum_any bg (r4.2) w (by have:=glByte_le h4; omega) hw) ?_ ?_
 ·
  intro t ht
  refine Ep ?_
  refine Epp fun w' hw=>?_
  exact .inr ⟨t,O,(by unfold glIns; simp only [h4,ht,Option.bind_some,Option.bind_none]),Ws.keep (L:=[_,_]) (Ws.fronti (Ws.fronti hw 3 O) 1 O)⟩
 intro r7 h7
 refine V0 (Yf fo67_1 O) (Lst 1 Y O O O sz3 O O O (Ln (Et (Cs (Cr (V0 (Yd 3 O O O na87) (Lf 0 O ?_)))))))
 refine Lwx (ι:=Int×List UInt8) (κ:=List UInt8) [_] _ Y O en44 O O (fun r=>.int .i64 r.1) (fun r=>[blk bg (.cells #[st (r.2)] 147 (0,0))]) (fun r=>glNum r7.2=some r) (fun _=>brkG) (fun t=>[blk bg (.cells #[st (t)] 147 (0,0))]) (fun _=>glNum r7.2=none) ([]) (by simp) (fun w hw=>glNum_any bg (r7.2) w (by have:=glByte_le h4; have:=glNum_le h7; omega) hw) ?_ ?_
 ·
  intro t ht
  refine Ep ?_
  refine Epp fun w' hw=>?_
  exact .inr ⟨t,O,(by unfold glIns; simp only [h4,h7,ht,Option.bind_some,Option.bind_none]),Ws.keep (L:=[_,_]) (Ws.fronti (Ws.fronti hw 3 O) 1 O)⟩
 intro r10 h10
 refine V0 (Yf fo67_2 O) (Lst 1 Y O O O sz3 O O O (Ln (Et (Cs (Cr (V0 (Yda 1 O O ag67 O) (Lst 2 Y O O O sz67 O O O (Ln (Et (Crt ?_))))))))))
 refine WE.retc1 2 O O O ag67 O fun w' hw=>?_
 exact .inl ⟨(⟨r4.1,r7.1,r10.1⟩,r10.2),O,(by unfold glIns; simp only [h4,h7,h10,Option.bind_some]),Ws.keep (L:=[_,_]) (Ws.fronti (Ws.fronti hw 3 O) 1 O)⟩
theorem glFix_any (bg bc:Nat) (s:List UInt8) (w:World) (hs:s.length≤9223372036854775807) (hw:Ws w [bg,bc] [blk bg (.cells #[st (s)] 147 (0,0)),blk bc (.cells #[.pointer (some ⟨bg,0,none⟩)] 87 (0,0))] [] w) :
   Calls Tryz.prog 49 #[.pointer (some ⟨bc,0,none⟩)] w fun e w'=>(∃r:FixE×List UInt8,e = .returned (.agg r.1.cells.toArray)∧glFix s=some r∧Ws w [bg,bc] [blk bg (.cells #[st (r.2)] 147 (0,0)),blk bc (.cells #[.pointer (some ⟨bg,0,none⟩)] 87 (0,0))] [] w')∨(∃t:List UInt8,e = .panicked brkG∧glFix s=none∧Ws w [bg,bc] [blk bg (.cells #[st (t)] 147 (0,0)),blk bc (.cells #[.pointer (some ⟨bg,0,none⟩)] 87 (0,0))] [] w'):=by
 refine enter Tryz.func49 O 13 O O ?_
 refine CE hw ?_
 refine Cs (Cr ?_)
 refine Al Y O zr70 fun b1=>?_
 refine Ln (Et (Cs (Cr (V0 (Yd 2 O O O na87) (Lf 1 O ?_)))))
 refine Lwx (ι:=Int×List UInt8) (κ:=List UInt8) [_] _ Y O en44 O O (fun r=>.int .i64 r.1) (fun r=>[blk bg (.cells #[st (r.2)] 147 (0,0))]) (fun r=>glNum s=some r) (fun _=>brkG) (fun t=>[blk bg (.cells #[st (t)] 147 (0,0))]) (fun _=>glNum s=none) ([]) (by simp) (fun w hw=>glNum_any bg (s) w hs hw) ?_ ?_
 ·
  intro t ht
  refine Ep ?_
  refine Epp fun w' hw=>?_
  exact .inr ⟨t,O,(by unfold glFix; simp only [ht,Option.bind_some,Option.bind_none]),Ws.keep (L:=[_,_]) (Ws.fronti (Ws.fronti hw 2 O) 1 O)⟩
 intro r4 h4
 refine V0 (Yb zr70 pl70 O O) ?_
 refine Al Y O zr70 fun b2=>?_
 refine Lst 0 Y O O O sz70 O O O (Ln (Et (Cs (Cr (V0 (Yd 3 O O O na87) (Lf 1 O ?_))))))
 refine Lwx (ι:=Int×List UInt8) (κ:=List UInt8) [_] _ Y O en47 O O (fun r=>.int .i64 r.1) (fun r=>[blk bg (.cells #[st (r.2)] 147 (0,0))]) (fun r=>glByte r4.2=some r) (fun _=>brkG) (fun t=>[blk bg (.cells #[st (t)] 147 (0,0))]) (fun _=>glByte r4.2=none) ([]) (by simp) (fun w hw=>glByte_any bg (r4.2) w (by have:=glNum_le h4; omega) hw) ?_ ?_
 ·
  intro t ht
  refine Ep ?_
  refine Epp fun w' hw=>?_
  exact .inr ⟨t,O,(by unfold glFix; simp only [h4,ht,Option.bind_some,Option.bind_none]),Ws.keep (L:=[_,_]) (Ws.fronti (Ws.fronti hw 3 O) 1 O)⟩
 intro r7 h7
 refine V0 (Yf fo70_1 O) (Lst 1 Y O O O sz3 O O O (Ln (Et (Cs (Cr (V0 (Yd 3 O O O na87) (Lf 0 O ?_)))))))
 refine Lwx (ι:=Int×List UInt8) (κ:=List UInt8) [_] _ Y O en44 O O (fun r=>.int .i64 r.1) (fun r=>[blk bg (.cells #[st (r.2)] 147 (0,0))]) (fun r=>glNum r7.2=some r) (fun _=>brkG) (fun t=>[blk bg (.cells #[st (t)] 147 (0,0))]) (fun _=>glNum r7.2=none) ([]) (by simp) (fun w hw=>glNum_any bg (r7.2) w (by have:=glNum_le h4; have:=glByte_le h7; omega) hw) ?_ ?_
 ·
  intro t ht
  refine Ep ?_
  refine Epp fun w' hw=>?_
  exact .inr ⟨t,O,(by unfold glFix; simp only [h4,h7,ht,Option.bind_some,Option.bind_none]),Ws.keep (L:=[_,_]) (Ws.fronti (Ws.fronti hw 3 O) 1 O)⟩
 intro r10 h10
 refine V0 (Yf fo70_2 O) (Lst 1 Y O O O sz3 O O O (Ln (Et (Cs (Cr (V0 (Yda 1 O O ag70 O) (Lst 2 Y O O O sz70 O O O (Ln (Et (Crt ?_))))))))))
 refine WE.retc1 2 O O O ag70 O fun w' hw=>?_
 exact .inl ⟨(⟨r4.1,r7.1,r10.1⟩,r10.2),O,(by unfold glFix; simp only [h4,h7,h10,Option.bind_some]),Ws.keep (L:=[_,_]) (Ws.fronti (Ws.fronti hw 3 O) 1 O)⟩
theorem listS_any (bg:Nat) (s:List UInt8) (w:World) (hs:s.length≤9223372036854775807) (hw:Ws w [bg] [blk bg (.cells #[st (s)] 147 (0,0))] [] w) :
   Calls Tryz.prog 43 #[.pointer (some ⟨bg,0,none⟩),.func (.func 42) #[.pointer (some ⟨bg,0,none⟩)] #[]] w fun e w'=>(∃r:(List (List UInt8)×List UInt8)×Option Addr×Nat,e = .returned (.slice r.2.1 r.1.1.length r.2.2)∧glList glText s=some r.1∧Ws w [bg] [blk bg (.cells #[st (r.1.2)] 147 (0,0)),osT 9 1 strC r.2.1 r.2.2 (r.1.1)] [] w')∨(∃t:List UInt8,e = .panicked brkG∧glList glText s=none∧Ws w [bg] [blk bg (.cells #[st (t)] 147 (0,0))] [] w'):=by
 refine enter Tryz.func43 O 17 O O ?_
 refine CE hw ?_
 refine Cs (Cr (V0 (Ya O) (Ln (Et (Cs (Cr (V0 (Ya O) ?_)))))))
 refine LW (fun _ h=>h.osl_nil 9 1) ?_
 refine Ln (Et (Cs (Cs (Cr (V0 (Ym O) (Lf 1 O ?_))))))
 refine Lwx (ι:=Nat×List UInt8) (κ:=List UInt8) [_] _ Y O en81 O O (fun r=>.int .i64 ((r.1:Nat):Int)) (fun r=>[blk bg (.cells #[st (r.2)] 147 (0,0))]) (fun r=>glCount s=some r) (fun _=>brkG) (fun t=>[blk bg (.cells #[st (t)] 147 (0,0))]) (fun _=>glCount s=none) ([]) (by simp) (fun w hw=>glCount_any bg s w hs hw) ?_ ?_
 ·
  intro t ht
  refine Ep (Ep ?_)
  refine Epp fun w' hw=>?_
  exact .inr ⟨t,O,(by unfold glList; rw [ht]; rfl),Wt 1 hw⟩
 intro r7 h7
 have hcm:=glCount_max h7
 have hcl:=glCount_le h7
 have hGl:glList glText s=glL glText r7.1 r7.2:=by unfold glList; rw [h7]; rfl
 refine V0 (Ym O) (Ln (Et (Cb ?_)))
 refine CLk (ι:=List (List UInt8)×List UInt8×Option Addr×Nat) (fun g=>[(8,.int .i64 (g.1.length:Int)),(5,.slice g.2.2.1 g.1.length g.2.2.2)]) [(1,_),(4,_),(7,_)] (fun g=>Ws w [bg] [blk bg (.cells #[st (g.2.1)] 147 (0,0)),osT 9 1 strC g.2.2.1 g.2.2.2 (g.1)] []) (fun g=>g.1.length≤r7.1∧g.2.1.length≤9223372036854775807∧glL glText r7.1 r7.2=(glL glText (r7.1-g.1.length) g.2.1).map fun q=>(g.1++q.1,q.2)) (fun g=>r7.1-g.1.length) ([],r7.2,none,0) ⟨Nat.zero_le _,by dsimp only; omega,by simp⟩ (sc O (sc O (sc O (sc O (sc O sn))))) (fun _ h=>h) ?_
 intro g ⟨hi,hgs,hG⟩
 refine Cs (Cr (V0 (yl_lt O O) (Ln (Et (Cs ?_)))))
 refine Cc O (fun hc0=>?_) (fun hc0=>?_)
 ·
  have hlt:g.1.length<r7.1:=by simpa using hc0
  obtain ⟨m,hm⟩:∃m,r7.1-g.1.length=m+1:=⟨r7.1-g.1.length-1,by omega⟩
  rw [hm] at hG
  refine Ck (Et (Cs (Cb (Cr (V0 (Ym O) (V0 (Ym O) (Lf 0 O ?_)))))))
  refine WL.call0wx (ι:=List UInt8×List UInt8) (κ:=List UInt8) [_] _ Y O en42 O O (fun r=>st r.1) (fun r=>[blk bg (.cells #[st (r.2)] 147 (0,0))]) (fun r=>glText g.2.1=some r) (fun _=>brkG) (fun t=>[blk bg (.cells #[st (t)] 147 (0,0))]) (fun _=>glText g.2.1=none) ([]) (by simp) (fun w hw=>glText_any bg g.2.1 w hgs hw) ?_ ?_
  ·
   intro t ht
   refine WE.block_panic (Ep (Ep (WE.block_panic (Ep ?_))))
   refine Epp fun w' hw=>?_
   exact .inr ⟨t,O,(by rw [hGl]; exact glL_bad hG ht),Wt 1 hw⟩
  intro r12 h12
  refine Lb Y O el22 O O O O fun b13=>?_
  refine Lrb 0 (.cells (strC r12.1).toArray 9 (0,0)) O O ?_
  refine LA r12.1 2 0 Y O el22 O O O O O O (by omega) (by omega) fun a14 c14=>?_
  refine V0 (Ya O) (Ln (Eb (Et (Cr ?_))))
  refine V0 (Yi O O O (by omega)) ?_
  refine V0 (Ym O) (Ln ?_)
  rw [show ((g.1.length+1:Nat):Int)=(((g.1++[r12.1]).length:Nat):Int) by simp]
  exact Ea ((g.1++[r12.1],r12.2,a14,c14):List (List UInt8)×List UInt8×Option Addr×Nat) (by simp; omega) ⟨by simp; omega,by have:=glText_le h12; dsimp only; omega,by
      dsimp only
      rw [List.length_append,List.length_singleton,show r7.1-(g.1.length+1)=m by omega]
      exact glL_more hG h12⟩ (sc O (sc O (sc O (sc O (sc O sn))))) (fun _ h=>Ws.out 0 h)
 have hie:r7.1-g.1.length=0:=by simp at hc0; omega
 rw [hie] at hG
 refine Ce (Ex (Ex (Ebh (Et (Cs (Cr (V0 (Ym O) (V0 (Ya O) (Ln (Et (Crt ?_)))))))))))
 refine R1 O O fun w' hw=>?_
 exact .inl ⟨((g.1,g.2.1),g.2.2),O,(by rw [hGl]; exact glL_end hG),(Ws.fronti (Ws.fronti hw 1 O) 1 O)⟩
theorem listI_any (bg:Nat) (s:List UInt8) (w:World) (hs:s.length≤9223372036854775807) (hw:Ws w [bg] [blk bg (.cells #[st (s)] 147 (0,0))] [] w) :
   Calls Tryz.prog 50 #[.pointer (some ⟨bg,0,none⟩),.func (.func 44) #[.pointer (some ⟨bg,0,none⟩)] #[]] w fun e w'=>(∃r:(List Int×List UInt8)×Option Addr×Nat,e = .returned (.slice r.2.1 r.1.1.length r.2.2)∧glList glNum s=some r.1∧Ws w [bg] [blk bg (.cells #[st (r.1.2)] 147 (0,0)),osT 3 1 n1C r.2.1 r.2.2 (r.1.1)] [] w')∨(∃t:List UInt8,e = .panicked brkG∧glList glNum s=none∧Ws w [bg] [blk bg (.cells #[st (t)] 147 (0,0))] [] w'):=by
 refine enter Tryz.func50 O 17 O O ?_
 refine CE hw ?_
 refine Cs (Cr (V0 (Ya O) (Ln (Et (Cs (Cr (V0 (Ya O) ?_)))))))
 refine LW (fun _ h=>h.osl_nil 3 1) ?_
 refine Ln (Et (Cs (Cs (Cr (V0 (Ym O) (Lf 1 O ?_))))))
 refine Lwx (ι:=Nat×List UInt8) (κ:=List UInt8) [_] _ Y O en81 O O (fun r=>.int .i64 ((r.1:Nat):Int)) (fun r=>[blk bg (.cells #[st (r.2)] 147 (0,0))]) (fun r=>glCount s=some r) (fun _=>brkG) (fun t=>[blk bg (.cells #[st (t)] 147 (0,0))]) (fun _=>glCount s=none) ([]) (by simp) (fun w hw=>glCount_any bg s w hs hw) ?_ ?_
 ·
  intro t ht
  refine Ep (Ep ?_)
  refine Epp fun w' hw=>?_
  exact .inr ⟨t,O,(by unfold glList; rw [ht]; rfl),Wt 1 hw⟩
 intro r7 h7
 have hcm:=glCount_max h7
 have hcl:=glCount_le h7
 have hGl:glList glNum s=glL glNum r7.1 r7.2:=by unfold glList; rw [h7]; rfl
 refine V0 (Ym O) (Ln (Et (Cb ?_)))
 refine CLk (ι:=List Int×List UInt8×Option Addr×Nat) (fun g=>[(8,.int .i64 (g.1.length:Int)),(5,.slice g.2.2.1 g.1.length g.2.2.2)]) [(1,_),(4,_),(7,_)] (fun g=>Ws w [bg] [blk bg (.cells #[st (g.2.1)] 147 (0,0)),osT 3 1 n1C g.2.2.1 g.2.2.2 (g.1)] []) (fun g=>g.1.length≤r7.1∧g.2.1.length≤9223372036854775807∧glL glNum r7.1 r7.2=(glL glNum (r7.1-g.1.length) g.2.1).map fun q=>(g.1++q.1,q.2)) (fun g=>r7.1-g.1.length) ([],r7.2,none,0) ⟨Nat.zero_le _,by dsimp only; omega,by simp⟩ (sc O (sc O (sc O (sc O (sc O sn))))) (fun _ h=>h) ?_
 intro g ⟨hi,hgs,hG⟩
 refine Cs (Cr (V0 (yl_lt O O) (Ln (Et (Cs ?_)))))
 refine Cc O (fun hc0=>?_) (fun hc0=>?_)
 ·
  have hlt:g.1.length<r7.1:=by simpa using hc0
  obtain ⟨m,hm⟩:∃m,r7.1-g.1.length=m+1:=⟨r7.1-g.1.length-1,by omega⟩
  rw [hm] at hG
  refine Ck (Et (Cs (Cb (Cr (V0 (Ym O) (V0 (Ym O) (Lf 0 O ?_)))))))
  refine WL.call0wx (ι:=Int×List UInt8) (κ:=List UInt8) [_] _ Y O en44 O O (fun r=>.int .i64 r.1) (fun r=>[blk bg (.cells #[st (r.2)] 147 (0,0))]) (fun r=>glNum g.2.1=some r) (fun _=>brkG) (fun t=>[blk bg (.cells #[st (t)] 147 (0,0))]) (fun _=>glNum g.2.1=none) ([]) (by simp) (fun w hw=>glNum_any bg g.2.1 w hgs hw) ?_ ?_
  ·
   intro t ht
   refine WE.block_panic (Ep (Ep (WE.block_panic (Ep ?_))))
   refine Epp fun w' hw=>?_
   exact .inr ⟨t,O,(by rw [hGl]; exact glL_bad hG ht),Wt 1 hw⟩
  intro r12 h12
  refine Lb Y O el25 O O O O fun b13=>?_
  refine Lrb 0 (.cells (n1C r12.1).toArray 3 (0,0)) O O ?_
  refine LA r12.1 2 0 Y O el25 O O O O O O (by omega) (by omega) fun a14 c14=>?_
  refine V0 (Ya O) (Ln (Eb (Et (Cr ?_))))
  refine V0 (Yi O O O (by omega)) ?_
  refine V0 (Ym O) (Ln ?_)
  rw [show ((g.1.length+1:Nat):Int)=(((g.1++[r12.1]).length:Nat):Int) by simp]
  exact Ea ((g.1++[r12.1],r12.2,a14,c14):List Int×List UInt8×Option Addr×Nat) (by simp; omega) ⟨by simp; omega,by have:=glNum_le h12; dsimp only; omega,by
      dsimp only
      rw [List.length_append,List.length_singleton,show r7.1-(g.1.length+1)=m by omega]
      exact glL_more hG h12⟩ (sc O (sc O (sc O (sc O (sc O sn))))) (fun _ h=>Ws.out 0 h)
 have hie:r7.1-g.1.length=0:=by simp at hc0; omega
 rw [hie] at hG
 refine Ce (Ex (Ex (Ebh (Et (Cs (Cr (V0 (Ym O) (V0 (Ya O) (Ln (Et (Crt ?_)))))))))))
 refine R1 O O fun w' hw=>?_
 exact .inl ⟨((g.1,g.2.1),g.2.2),O,(by rw [hGl]; exact glL_end hG),(Ws.fronti (Ws.fronti hw 1 O) 1 O)⟩
theorem listC_any (bg bc:Nat) (s:List UInt8) (w:World) (hs:s.length≤9223372036854775807) (hw:Ws w [bg,bc] [blk bg (.cells #[st (s)] 147 (0,0)),blk bc (.cells #[.pointer (some ⟨bg,0,none⟩)] 87 (0,0))] [] w) :
   Calls Tryz.prog 45 #[.pointer (some ⟨bg,0,none⟩),.func (.func 46) #[] #[.pointer (some ⟨bc,0,none⟩)]] w fun e w'=>(∃r:(List InsG×List UInt8)×Option Addr×Nat,e = .returned (.slice r.2.1 r.1.1.length r.2.2)∧glList glIns s=some r.1∧Ws w [bg,bc] [blk bg (.cells #[st (r.1.2)] 147 (0,0)),blk bc (.cells #[.pointer (some ⟨bg,0,none⟩)] 87 (0,0)),osT 67 3 InsG.cells r.2.1 r.2.2 (r.1.1)] [] w')∨(∃t:List UInt8,e = .panicked brkG∧glList glIns s=none∧Ws w [bg,bc] [blk bg (.cells #[st (t)] 147 (0,0)),blk bc (.cells #[.pointer (some ⟨bg,0,none⟩)] 87 (0,0))] [] w'):=by
 refine enter Tryz.func45 O 17 O O ?_
 refine CE hw ?_
 refine Cs (Cr (V0 (Ya O) (Ln (Et (Cs (Cr (V0 (Ya O) ?_)))))))
 refine LW (fun _ h=>h.osl_nil 67 3) ?_
 refine Ln (Et (Cs (Cs (Cr (V0 (Ym O) (Lf 1 O ?_))))))
 refine Lwx (ι:=Nat×List UInt8) (κ:=List UInt8) [_] _ Y O en81 O O (fun r=>.int .i64 ((r.1:Nat):Int)) (fun r=>[blk bg (.cells #[st (r.2)] 147 (0,0))]) (fun r=>glCount s=some r) (fun _=>brkG) (fun t=>[blk bg (.cells #[st (t)] 147 (0,0))]) (fun _=>glCount s=none) ([]) (by simp) (fun w hw=>glCount_any bg s w hs hw) ?_ ?_
 ·
  intro t ht
  refine Ep (Ep ?_)
  refine Epp fun w' hw=>?_
  exact .inr ⟨t,O,(by unfold glList; rw [ht]; rfl),Ws.keep (L:=[_,_]) (Ws.fronti (Ws.fronti hw 2 O) 1 O)⟩
 intro r7 h7
 have hcm:=glCount_max h7
 have hcl:=glCount_le h7
 have hGl:glList glIns s=glL glIns r7.1 r7.2:=by unfold glList; rw [h7]; rfl
 refine V0 (Ym O) (Ln (Et (Cb ?_)))
 refine CLk (ι:=List InsG×List UInt8×Option Addr×Nat) (fun g=>[(8,.int .i64 (g.1.length:Int)),(5,.slice g.2.2.1 g.1.length g.2.2.2)]) [(1,_),(4,_),(7,_)] (fun g=>Ws w [bg,bc] [blk bg (.cells #[st (g.2.1)] 147 (0,0)),blk bc (.cells #[.pointer (some ⟨bg,0,none⟩)] 87 (0,0)),osT 67 3 InsG.cells g.2.2.1 g.2.2.2 (g.1)] []) (fun g=>g.1.length≤r7.1∧g.2.1.length≤9223372036854775807∧glL glIns r7.1 r7.2=(glL glIns (r7.1-g.1.length) g.2.1).map fun q=>(g.1++q.1,q.2)) (fun g=>r7.1-g.1.length) ([],r7.2,none,0) ⟨Nat.zero_le _,by dsimp only; omega,by simp⟩ (sc O (sc O (sc O (sc O (sc O sn))))) (fun _ h=>(((h.f 1 O).f 2 O).f 2 O:)) ?_
 intro g ⟨hi,hgs,hG⟩
 refine Cs (Cr (V0 (yl_lt O O) (Ln (Et (Cs ?_)))))
 refine Cc O (fun hc0=>?_) (fun hc0=>?_)
 ·
  have hlt:g.1.length<r7.1:=by simpa using hc0
  obtain ⟨m,hm⟩:∃m,r7.1-g.1.length=m+1:=⟨r7.1-g.1.length-1,by omega⟩
  rw [hm] at hG
  refine Ck (Et (Cs (Cb (Cr (V0 (Ym O) (V0 (Ym O) (Lf 1 O (Lf 1 O ?_))))))))
  refine WL.call0wx (ι:=InsG×List UInt8) (κ:=List UInt8) [_,_] _ Y O en46 O O (fun r=>.agg r.1.cells.toArray) (fun r=>[blk bg (.cells #[st (r.2)] 147 (0,0)),blk bc (.cells #[.pointer (some ⟨bg,0,none⟩)] 87 (0,0))]) (fun r=>glIns g.2.1=some r) (fun _=>brkG) (fun t=>[blk bg (.cells #[st (t)] 147 (0,0)),blk bc (.cells #[.pointer (some ⟨bg,0,none⟩)] 87 (0,0))]) (fun _=>glIns g.2.1=none) ([]) (by simp) (fun w hw=>glIns_any bg bc g.2.1 w hgs hw) ?_ ?_
  ·
   intro t ht
   refine WE.block_panic (Ep (Ep (WE.block_panic (Ep ?_))))
   refine Epp fun w' hw=>?_
   exact .inr ⟨t,O,(by rw [hGl]; exact glL_bad hG ht),Ws.keep (L:=[_,_]) (Ws.fronti (Ws.fronti hw 1 O) 1 O)⟩
  intro r12 h12
  refine Lb Y O el23 O O O O fun b13=>?_
  refine Lrb 0 (.cells (InsG.cells r12.1).toArray 67 (0,0)) O O ?_
  refine LA r12.1 3 0 Y O el23 O O O O O O (by omega) (by omega) fun a14 c14=>?_
  refine V0 (Ya O) (Ln (Eb (Et (Cr ?_))))
  refine V0 (Yi O O O (by omega)) ?_
  refine V0 (Ym O) (Ln ?_)
  rw [show ((g.1.length+1:Nat):Int)=(((g.1++[r12.1]).length:Nat):Int) by simp]
  exact Ea ((g.1++[r12.1],r12.2,a14,c14):List InsG×List UInt8×Option Addr×Nat) (by simp; omega) ⟨by simp; omega,by have:=glIns_le h12; dsimp only; omega,by
      dsimp only
      rw [List.length_append,List.length_singleton,show r7.1-(g.1.length+1)=m by omega]
      exact glL_more hG h12⟩ (sc O (sc O (sc O (sc O (sc O sn))))) (fun _ h=>Ws.out 0 h)
 have hie:r7.1-g.1.length=0:=by simp at hc0; omega
 rw [hie] at hG
 refine Ce (Ex (Ex (Ebh (Et (Cs (Cr (V0 (Ym O) (V0 (Ya O) (Ln (Et (Crt ?_)))))))))))
 refine R1 O O fun w' hw=>?_
 exact .inl ⟨((g.1,g.2.1),g.2.2),O,(by rw [hGl]; exact glL_end hG),(Ws.fronti (Ws.fronti (Ws.fronti hw 2 O) 2 O) 2 O)⟩
theorem listF_any (bg bc:Nat) (s:List UInt8) (w:World) (hs:s.length≤9223372036854775807) (hw:Ws w [bg,bc] [blk bg (.cells #[st (s)] 147 (0,0)),blk bc (.cells #[.pointer (some ⟨bg,0,none⟩)] 87 (0,0))] [] w) :
   Calls Tryz.prog 48 #[.pointer (some ⟨bg,0,none⟩),.func (.func 49) #[] #[.pointer (some ⟨bc,0,none⟩)]] w fun e w'=>(∃r:(List FixE×List UInt8)×Option Addr×Nat,e = .returned (.slice r.2.1 r.1.1.length r.2.2)∧glList glFix s=some r.1∧Ws w [bg,bc] [blk bg (.cells #[st (r.1.2)] 147 (0,0)),blk bc (.cells #[.pointer (some ⟨bg,0,none⟩)] 87 (0,0)),osT 70 3 FixE.cells r.2.1 r.2.2 (r.1.1)] [] w')∨(∃t:List UInt8,e = .panicked brkG∧glList glFix s=none∧Ws w [bg,bc] [blk bg (.cells #[st (t)] 147 (0,0)),blk bc (.cells #[.pointer (some ⟨bg,0,none⟩)] 87 (0,0))] [] w'):=by
 refine enter Tryz.func48 O 17 O O ?_
 refine CE hw ?_
 refine Cs (Cr (V0 (Ya O) (Ln (Et (Cs (Cr (V0 (Ya O) ?_)))))))
 refine LW (fun _ h=>h.osl_nil 70 3) ?_
 refine Ln (Et (Cs (Cs (Cr (V0 (Ym O) (Lf 1 O ?_))))))
 refine Lwx (ι:=Nat×List UInt8) (κ:=List UInt8) [_] _ Y O en81 O O (fun r=>.int .i64 ((r.1:Nat):Int)) (fun r=>[blk bg (.cells #[st (r.2)] 147 (0,0))]) (fun r=>glCount s=some r) (fun _=>brkG) (fun t=>[blk bg (.cells #[st (t)] 147 (0,0))]) (fun _=>glCount s=none) ([]) (by simp) (fun w hw=>glCount_any bg s w hs hw) ?_ ?_
 ·
  intro t ht
  refine Ep (Ep ?_)
  refine Epp fun w' hw=>?_
  exact .inr ⟨t,O,(by unfold glList; rw [ht]; rfl),Ws.keep (L:=[_,_]) (Ws.fronti (Ws.fronti hw 2 O) 1 O)⟩
 intro r7 h7
 have hcm:=glCount_max h7
 have hcl:=glCount_le h7
 have hGl:glList glFix s=glL glFix r7.1 r7.2:=by unfold glList; rw [h7]; rfl
 refine V0 (Ym O) (Ln (Et (Cb ?_)))
 refine CLk (ι:=List FixE×List UInt8×Option Addr×Nat) (fun g=>[(8,.int .i64 (g.1.length:Int)),(5,.slice g.2.2.1 g.1.length g.2.2.2)]) [(1,_),(4,_),(7,_)] (fun g=>Ws w [bg,bc] [blk bg (.cells #[st (g.2.1)] 147 (0,0)),blk bc (.cells #[.pointer (some ⟨bg,0,none⟩)] 87 (0,0)),osT 70 3 FixE.cells g.2.2.1 g.2.2.2 (g.1)] []) (fun g=>g.1.length≤r7.1∧g.2.1.length≤9223372036854775807∧glL glFix r7.1 r7.2=(glL glFix (r7.1-g.1.length) g.2.1).map fun q=>(g.1++q.1,q.2)) (fun g=>r7.1-g.1.length) ([],r7.2,none,0) ⟨Nat.zero_le _,by dsimp only; omega,by simp⟩ (sc O (sc O (sc O (sc O (sc O sn))))) (fun _ h=>(((h.f 1 O).f 2 O).f 2 O:)) ?_
 intro g ⟨hi,hgs,hG⟩
 refine Cs (Cr (V0 (yl_lt O O) (Ln (Et (Cs ?_)))))
 refine Cc O (fun hc0=>?_) (fun hc0=>?_)
 ·
  have hlt:g.1.length<r7.1:=by simpa using hc0
  obtain ⟨m,hm⟩:∃m,r7.1-g.1.length=m+1:=⟨r7.1-g.1.length-1,by omega⟩
  rw [hm] at hG
  refine Ck (Et (Cs (Cb (Cr (V0 (Ym O) (V0 (Ym O) (Lf 1 O (Lf 1 O ?_))))))))
  refine WL.call0wx (ι:=FixE×List UInt8) (κ:=List UInt8) [_,_] _ Y O en49 O O (fun r=>.agg r.1.cells.toArray) (fun r=>[blk bg (.cells #[st (r.2)] 147 (0,0)),blk bc (.cells #[.pointer (some ⟨bg,0,none⟩)] 87 (0,0))]) (fun r=>glFix g.2.1=some r) (fun _=>brkG) (fun t=>[blk bg (.cells #[st (t)] 147 (0,0)),blk bc (.cells #[.pointer (some ⟨bg,0,none⟩)] 87 (0,0))]) (fun _=>glFix g.2.1=none) ([]) (by simp) (fun w hw=>glFix_any bg bc g.2.1 w hgs hw) ?_ ?_
  ·
   intro t ht
   refine WE.block_panic (Ep (Ep (WE.block_panic (Ep ?_))))
   refine Epp fun w' hw=>?_
   exact .inr ⟨t,O,(by rw [hGl]; exact glL_bad hG ht),Ws.keep (L:=[_,_]) (Ws.fronti (Ws.fronti hw 1 O) 1 O)⟩
  intro r12 h12
  refine Lb Y O el24 O O O O fun b13=>?_
  refine Lrb 0 (.cells (FixE.cells r12.1).toArray 70 (0,0)) O O ?_
  refine LA r12.1 3 0 Y O el24 O O O O O O (by omega) (by omega) fun a14 c14=>?_
  refine V0 (Ya O) (Ln (Eb (Et (Cr ?_))))
  refine V0 (Yi O O O (by omega)) ?_
  refine V0 (Ym O) (Ln ?_)
  rw [show ((g.1.length+1:Nat):Int)=(((g.1++[r12.1]).length:Nat):Int) by simp]
  exact Ea ((g.1++[r12.1],r12.2,a14,c14):List FixE×List UInt8×Option Addr×Nat) (by simp; omega) ⟨by simp; omega,by have:=glFix_le h12; dsimp only; omega,by
      dsimp only
      rw [List.length_append,List.length_singleton,show r7.1-(g.1.length+1)=m by omega]
      exact glL_more hG h12⟩ (sc O (sc O (sc O (sc O (sc O sn))))) (fun _ h=>Ws.out 0 h)
 have hie:r7.1-g.1.length=0:=by simp at hc0; omega
 rw [hie] at hG
 refine Ce (Ex (Ex (Ebh (Et (Cs (Cr (V0 (Ym O) (V0 (Ya O) (Ln (Et (Crt ?_)))))))))))
 refine R1 O O fun w' hw=>?_
 exact .inl ⟨((g.1,g.2.1),g.2.2),O,(by rw [hGl]; exact glL_end hG),(Ws.fronti (Ws.fronti (Ws.fronti hw 2 O) 2 O) 2 O)⟩
end Go.Proofs.YtplfmnkmlaolpaaGreatDoor
end
