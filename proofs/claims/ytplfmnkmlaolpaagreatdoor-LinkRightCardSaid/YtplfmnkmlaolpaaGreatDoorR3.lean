/- LinkRight: what is linked is a right image, as long as all its objects and one more for each, and one. -/
import Derived.Test.YtplfmnkmlaolpaaGreatDoorR2
set_option linter.unusedVariables false
set_option linter.unusedSimpArgs false
section
namespace Go.Proofs.YtplfmnkmlaolpaaGreatDoor
open Go.Bw
theorem agU:aX Tryz.prog 268 1=some 10:=by kernel_rfl
theorem WO:dI Tryz.prog 264=true:=by kernel_rfl
theorem yH:aX Tryz.prog 220 0=some 0:=by kernel_rfl
theorem WQ:cq Tryz.prog 282=some 2:=by kernel_rfl
theorem WR:eQ Tryz.prog 282=some 2:=by kernel_rfl
theorem IS:aX Tryz.prog 220 2=some 2:=by kernel_rfl
theorem IT:aX Tryz.prog 220 3=some 3:=by kernel_rfl
theorem Bq:aX Tryz.prog 220 4=some 4:=by kernel_rfl
theorem wF:dI Tryz.prog 218=true:=by kernel_rfl
theorem sR:dL Tryz.prog 218=some 5:=by kernel_rfl
theorem WW:Enters Tryz.prog 173:=enters_of Tryz.func173 (by kernel_rfl) rfl
theorem IU:aX Tryz.prog 220 1=some 1:=by kernel_rfl
theorem jD:eQ Tryz.prog 220=some 5:=by kernel_rfl
theorem iy:zeroOf Tryz.prog 220=some (.agg #[.int .i64 0,.int .i64 0,st [],st [],.slice none 0 0]):=by kernel_rfl
theorem mN:cq Tryz.prog 220=some 5:=by kernel_rfl
theorem WX:Enters Tryz.prog 174:=enters_of Tryz.func174 (by kernel_rfl) rfl
theorem agV (vb be bs:Nat) (H:View) (k:Nat) (x:ax) (a:Option Addr) (n:Nat) (d:Nat) (c:aA) (w:World) (hm:Sl (eG k) 5 H a n x.args) (hb:c.bf+8*wE x<=1152921504606846976) (hw:Ws w [vb,be,bs] [ab vb (.cells #[.int .i64 0,.int .i64 ((c).f:Int),.int .i64 ((c).m:Int),.int .i64 0,.int .i64 ((c).k:Int),.int .i64 0,.int .i64 0,.int .i64 0,.int .i64 0,.int .i64 0,.map (some be),.map (some bs)] 268 (0,0)),ab be (bn kI (gy 9) 15),ab bs (bn kI iQ 7)] [H] w) :
   Calls Tryz.prog 174 #[.pointer (some ⟨vb,0,none⟩),.agg #[.int .i64 x.op,.int .i64 x.n,st x.mod,st x.nm,.slice a x.args.length n],.int .i64 (d:Int)] w λe w'=>e = .returned (.tuple #[])/\Ws w [vb,be,bs] [ab vb (.cells #[.int .i64 0,.int .i64 ((c+iI x d).f:Int),.int .i64 ((c+iI x d).m:Int),.int .i64 0,.int .i64 ((c+iI x d).k:Int),.int .i64 0,.int .i64 0,.int .i64 0,.int .i64 0,.int .i64 0,.map (some be),.map (some bs)] 268 (0,0)),ab be (bn kI (gy 9) 15),ab bs (bn kI iQ 7)] [H] w':=by
 induction k using Nat.strongRecOn generalizing x a n d c w
 rename_i k ih;have dQ:=hm.cap;have eB:=hm.max;have hw8:=T2 x;have cz:dU x.op (gy 9) (.agg #[.bool false,.int .i64 0]) = .agg #[.bool ((dy x.op).getD (false,0)).1,.int .i64 ((dy x.op).getD (false,0)).2]:=(Wu x.op).1;have Oh:=(Wu x.op).2;have t1:=Dk (dy x.op).isNone;have t2:=HX ((dy x.op).getD (false,0)) x.mod x.nm x.args.length;have t3:=lM (k7 x.op x.n);refine enter Tryz.func174 O 76 O O ?_;refine CE hw (Cs (Cr ?_));refine WL.box Y O O λb4=>?_;refine Ln (Et (Cs (Cs (Cr (V0 (Ym O) (V0 (bZ O O) (Ln (Et ?_))))))));refine Cc O (λad=>?_) (λad=>?_)
 ·have hd:6<d:=by simp at ad; omega
  refine Cs (Cr (V0 (Ym O) (Lf 1 O (eT [_] _ _ Y O lq O O [] (by simp) (λw hw=>Bm vb be bs (c) (true) w (by omega) hw) (Ln (Et (az (Er ?_))))))));refine WE.L8 O λw' hw=>?_;rw [show c+iI x d=c+bg true by rw [Wy,if_pos hd]; rfl];exact ⟨O,(by have h:=hw; have h:=h.ao 3 O; have h:=h.ao 3 O; have h:=h.ao 2 O; exact Wt 3 h)⟩
 have hd:¬6<d:=by simp at ad; omega
 have hE:c+iI x d=c+cA (dy x.op).isNone+cK ((dy x.op).getD (false,0)) x.mod x.nm x.args.length+cj (k7 x.op x.n)+bW x.args (d+1):=by rw [Wy,if_neg hd,aA.gf,aA.gf,aA.gf,aA.gf,aA.gf]
 have IV:(c+cA (dy x.op).isNone).bf<=1152921504606846980:=by rw [aA.cJ]; omega
 have IW:(c+cA (dy x.op).isNone+cK ((dy x.op).getD (false,0)) x.mod x.nm x.args.length).bf<=1152921504606846990:=by rw [aA.cJ,aA.cJ]; omega
 refine Ck (Et (Cs ?_));refine WC.xX [(0,true),(1,true),(2,true),(3,true),(4,true),(5,true),(6,true),(7,true),(8,true),(9,true),(10,false),(11,false),(12,false)] mixed (by kernel_rfl) (λ_ _ _ d _ h=>by cases d<;>exact h) ?_;refine D0 O (λ_ h=>h) (Ym O) (D0 O (λ_ h=>h) (aO O) (D0 O (λ_ h=>h) (Yf agU O) (D0 O (λ_ h=>h) (Yd 1 O O O WO) (D0 O (λ_ h=>h) (Yf yH O) (D0 O (λ_ h=>h) (Yd 0 O O O aq) (D0 O (λ_ h=>h) (ML 2 lJ lX jX kM O O O) ?_))))));rw [cz,Oh];refine D0 O (λ_ h=>h) (Ym O) (D0 O (λ_ h=>h) (Yx O O) (D0 O (λ_ h=>h) (Yx O O) ?_));refine De O (λ_ h=>h) ?_;refine Al Y O kM λb6=>?_;refine Ln (Ed ?_);refine De O (λ_ h=>(Wd 1 h:)) ?_;refine an 0 Y O O O WQ O O O (Ln (Ed ?_));refine De O (λ_ h=>(Wd 1 h:)) ?_;refine V0 (Ya O) (Ln (Ed ?_));refine WD.nil (λ_ h=>(Wd 1 h:)) ?_;refine Et (Cs (Cr (V0 (Ym O) (V0 (Ym O) (V0 (eu O) ?_)))));rw [Bool.not_not];refine Lf 2 O (eT [_] _ _ Y O lq O O [] (by simp) (λw hw=>Od vb be bs (c) ((dy x.op).isNone) w (by omega) hw) (Ln (Et (Cs (Cr (V0 (Ym O) (V0 (bA 1 O O WR O) (V0 (Yf IS O) (V0 (Yd 2 O O O df) (V0 (Yf IT O) ?_))))))))));refine V0 (Yd 2 O O O df) (V0 (Yf Bq O) (V0 (Yd 2 O O O wF) (V0 (Yn sR O) (eT [_] _ _ Y O WW O O [] (by simp) (λw hw=>WN vb be bs ((dy x.op).getD (false,0)).1 ((dy x.op).getD (false,0)).2 x.mod x.nm x.args.length (c+cA (dy x.op).isNone) w (by omega) (by omega) hw) (Ln (Et (Cs (Cr (V0 (Ym O) (V0 (Yf yH O) ?_))))))))));refine V0 (Yd 2 O O O aq) (V0 (aG O O) (V0 (Ym O) ?_));apply La 8 O O O O Y O O O O O
 ·intro de;refine Vg (Yf IU O) (Vg (Yd 2 O O O aq) (Vg (bq O O) (Vg (Ym O) ?_)));apply Lo 3 O O O O (.g O O O) O O O O O
  ·intro bK;refine Vg (Yf IU O) (Vg (Yd 2 O O O aq) (Vg (bZ O O) ?_));exact Gt 3 O O O
  exact Gt 5 O O O
 refine V0 (Ym O) ?_;apply Lo 8 O O O O Y O O O O O
 ·intro hY;refine Vg (Yf yH O) (Vg (Yd 2 O O O aq) (Vg (jq O O) (Vg (Ym O) ?_)));apply La 3 O O O O (.g O O O) O O O O O
  ·intro mM;refine Vg (Yf IU O) (Vg (Yd 2 O O O aq) (Vg (jq O O) ?_));exact Gt 3 O O O
  exact Gt 5 O O O
 refine eT [_] _ _ Y O lq O O [] (by simp) (λw hw=>wC vb be bs (c+cA (dy x.op).isNone+cK ((dy x.op).getD (false,0)) x.mod x.nm x.args.length) (k7 x.op x.n) w (by omega) hw) (Ln (Et (Cs (Cr (V0 (Yf Bq O) (V0 (Yd 2 O O O wF) (V0 (Yn sR O) (V0 (Ym O) (Ln (Et (Cb ?_)))))))))));refine cU (ι:=Nat) (λi=>[(66,.int .i64 (i:Int))]) [(0,_),(2,_),(64,_),(65,_)] (λi=>Ws w [vb,be,bs] [ab vb (.cells #[.int .i64 0,.int .i64 ((c+cA (dy x.op).isNone+cK ((dy x.op).getD (false,0)) x.mod x.nm x.args.length+cj (k7 x.op x.n)+bW (x.args.take i) (d+1)).f:Int),.int .i64 ((c+cA (dy x.op).isNone+cK ((dy x.op).getD (false,0)) x.mod x.nm x.args.length+cj (k7 x.op x.n)+bW (x.args.take i) (d+1)).m:Int),.int .i64 0,.int .i64 ((c+cA (dy x.op).isNone+cK ((dy x.op).getD (false,0)) x.mod x.nm x.args.length+cj (k7 x.op x.n)+bW (x.args.take i) (d+1)).k:Int),.int .i64 0,.int .i64 0,.int .i64 0,.int .i64 0,.int .i64 0,.map (some be),.map (some bs)] 268 (0,0)),ab be (bn kI (gy 9) 15),ab bs (bn kI iQ 7)] [H]) (λi=>i<=x.args.length) (λi=>x.args.length-i) 0 (Nat.zero_le _) (sc O (sc O (sc O (sc O (sc O sn))))) (λ_ h=>(Wt 3 (((h.f 4 O).f 4 O).f 2 O):)) ?_;intro i hi;refine Cs (Cr (V0 (bq O O) (Ln (Et (Cs ?_)))));refine Cc O (λar=>?_) (λar=>?_)
 ·have aw:i<x.args.length:=by simpa using ar
  obtain ⟨y,bC⟩:∃q,x.args[i]? = some q:=⟨_,List.getElem?_eq_getElem aw⟩;obtain ⟨jY,jZ,fg,cY⟩:=hm.aZ i y bC
  obtain ⟨k',rfl⟩:∃k',k=k'+1:=by
    cases k with
    | zero=>exact cY.elim
    | succ k'=>exact ⟨k',rfl⟩
  obtain ⟨ya,yn,bJ,gq⟩:=cY;have Oi:=WH bC;have hle:=AM (x.args.take i) (d+1)
  have WY:(c+cA (dy x.op).isNone+cK ((dy x.op).getD (false,0)) x.mod x.nm x.args.length+cj (k7 x.op x.n)+bW (x.args.take i) (d+1)).bf+8*wE y<=1152921504606846976:=by rw [aA.cJ,aA.cJ,aA.cJ,aA.cJ]; omega
  have e2:c+cA (dy x.op).isNone+cK ((dy x.op).getD (false,0)) x.mod x.nm x.args.length+cj (k7 x.op x.n)+bW (x.args.take i) (d+1)+iI y (d+1)=c+cA (dy x.op).isNone+cK ((dy x.op).getD (false,0)) x.mod x.nm x.args.length+cj (k7 x.op x.n)+bW (x.args.take (i+1)) (d+1):=by rw [WA (d+1) bC,<-aA.gf]
  refine Ck (Et (Cs (Cb (Cs (Cr (V0 (Yo sR O O fg (by omega)) (V0 (cM 0 jD O O O (bJ)) ?_)))))));refine Al Y O iy λb9=>?_;refine an 0 Y O O O mN O O O (Ln (Et (Cr (V0 (Ym O) (V0 (bA 0 O O jD O) (V0 (Ym O) (V0 (Yi O O O (by omega)) (Lf 3 O (Lf 3 O ?_)))))))));refine Lf 3 O ?_
  refine eT [_,_,_] _ [ab vb (.cells #[.int .i64 0,.int .i64 ((c+cA (dy x.op).isNone+cK ((dy x.op).getD (false,0)) x.mod x.nm x.args.length+cj (k7 x.op x.n)+bW (x.args.take i) (d+1)+iI y (d+1)).f:Int),.int .i64 ((c+cA (dy x.op).isNone+cK ((dy x.op).getD (false,0)) x.mod x.nm x.args.length+cj (k7 x.op x.n)+bW (x.args.take i) (d+1)+iI y (d+1)).m:Int),.int .i64 0,.int .i64 ((c+cA (dy x.op).isNone+cK ((dy x.op).getD (false,0)) x.mod x.nm x.args.length+cj (k7 x.op x.n)+bW (x.args.take i) (d+1)+iI y (d+1)).k:Int),.int .i64 0,.int .i64 0,.int .i64 0,.int .i64 0,.int .i64 0,.map (some be),.map (some bs)] 268 (0,0)),ab be (bn kI (gy 9) 15),ab bs (bn kI iQ 7)] Y O WX O O [H] (by simp) (λw hw=>by
      have:=ih k' (by omega) y ya yn (d+1) (c+cA (dy x.op).isNone+cK ((dy x.op).getD (false,0)) x.mod x.nm x.args.length+cj (k7 x.op x.n)+bW (x.args.take i) (d+1)) w gq WY hw
      exact this) ?_
  refine Ln (Eb (Et (Cr (V0 (Yi O O O (by omega)) (V0 (Ym O) (Ln ?_))))));rw [e2];exact Ea (i+1) (by omega) (by omega) (sc O (sc O (sc O (sc O (sc O sn))))) (λ_ h=>(Wt 3 h:))
 have wG:¬i<x.args.length:=by simpa using ar
 rw [List.take_of_length_le (by omega),<-hE];refine Ce (Ex (Ex (cf ?_)));refine E0 O λw' hw=>?_;exact ⟨O,hw⟩
theorem Br (c:aA):c0+c=c:=by apply aA.ext'<;>simp [aA.x7,aA.x8,aA.x9,c0]
theorem D6 (n:Nat):decide ((0:Int)<(n:Int))=decide (0<n):=by rw [Bool.eq_iff_iff]; simp
theorem WZ (n:Nat):decide ((10:Int)<(n:Int))=decide (10<n):=by rw [Bool.eq_iff_iff]; simp; omega
theorem agW {l:List aP} {d:Nat} (h:¬6<d):cZ l d=bg (decide (10<l.length))+bM l d:=by rw [cZ,qJ,if_neg h]
theorem rh:dL Tryz.prog 172=some 6:=by kernel_rfl
theorem jg:eQ Tryz.prog 222=some 6:=by kernel_rfl
theorem u0:zeroOf Tryz.prog 222=some (.agg #[.int .i64 0,st [],st [],.slice none 0 0,.slice none 0 0,.slice none 0 0]):=by kernel_rfl
theorem ri:cq Tryz.prog 222=some 6:=by kernel_rfl
theorem agX:aX Tryz.prog 268 2=some 11:=by kernel_rfl
theorem oM:aX Tryz.prog 222 0=some 0:=by kernel_rfl
theorem D7:aX Tryz.prog 222 1=some 1:=by kernel_rfl
theorem D8:aX Tryz.prog 222 2=some 2:=by kernel_rfl
theorem pP:aX Tryz.prog 222 3=some 3:=by kernel_rfl
theorem Bs:aX Tryz.prog 222 4=some 4:=by kernel_rfl
theorem mO:dI Tryz.prog 172=true:=by kernel_rfl
theorem wH:aX Tryz.prog 222 5=some 5:=by kernel_rfl
theorem D9:Enters Tryz.prog 154:=enters_of Tryz.func154 (by kernel_rfl) rfl
theorem W0 (vb be bs:Nat) (H:View) (ke k:Nat) (l:List aP) (a:Option Addr) (n:Nat) (d:Nat) (c:aA) (w:World) (hm:Sl (gY ke k) 6 H a n l) (hb:c.bf+2+8*cP l<=1152921504606846976) (hw:Ws w [vb,be,bs] [ab vb (.cells #[.int .i64 0,.int .i64 ((c).f:Int),.int .i64 ((c).m:Int),.int .i64 0,.int .i64 ((c).k:Int),.int .i64 0,.int .i64 0,.int .i64 0,.int .i64 0,.int .i64 0,.map (some be),.map (some bs)] 268 (0,0)),ab be (bn kI (gy 9) 15),ab bs (bn kI iQ 7)] [H] w) :
   Calls Tryz.prog 154 #[.pointer (some ⟨vb,0,none⟩),.slice a l.length n,.int .i64 (d:Int)] w λe w'=>e = .returned (.tuple #[])/\Ws w [vb,be,bs] [ab vb (.cells #[.int .i64 0,.int .i64 ((c+cZ l d).f:Int),.int .i64 ((c+cZ l d).m:Int),.int .i64 0,.int .i64 ((c+cZ l d).k:Int),.int .i64 0,.int .i64 0,.int .i64 0,.int .i64 0,.int .i64 0,.map (some be),.map (some bs)] 268 (0,0)),ab be (bn kI (gy 9) 15),ab bs (bn kI iQ 7)] [H] w':=by
 induction k using Nat.strongRecOn generalizing l a n d c w
 rename_i k ih;have dQ:=hm.cap;have eB:=hm.max;have tM:=AL (decide (10<l.length));refine enter Tryz.func154 O 116 O O ?_;refine CE hw (Cs (Cs (Cr (V0 (Ym O) (V0 (bZ O O) (Ln (Et ?_)))))));refine Cc O (λad=>?_) (λad=>?_)
 ·have hd:6<d:=by simp at ad; omega
  refine Cs (Cr (V0 (Ym O) (eT [_] _ _ Y O lq O O [] (by simp) (λw hw=>Bm vb be bs (c) (true) w (by omega) hw) (Ln (Et (az (Er ?_)))))));refine WE.L8 O λw' hw=>?_;rw [show c+cZ l d=c+bg true by rw [cZ,qJ,if_pos hd]; rfl];exact ⟨O,hw⟩
 have hd:¬6<d:=by simp at ad; omega
 refine Ck (Et (Cs (Cr (V0 (Ym O) (V0 (Ym O) (V0 (Yn rh O) (V0 (bZ O O) ?_)))))));rw [WZ];refine eT [_] _ _ Y O lq O O [] (by simp) (λw hw=>Bm vb be bs (c) (decide (10<l.length)) w (by omega) hw) (Ln (Et (Cs (Cr (V0 (Ym O) (V0 (Yn rh O) (V0 (Ym O) (Ln (Et (Cb ?_))))))))));refine cU (ι:=Nat) (λi=>[(24,.int .i64 (i:Int))]) [(0,_),(2,_),(22,_),(23,_)] (λi=>Ws w [vb,be,bs] [ab vb (.cells #[.int .i64 0,.int .i64 ((c+bg (decide (10<l.length))+bM (l.take i) d).f:Int),.int .i64 ((c+bg (decide (10<l.length))+bM (l.take i) d).m:Int),.int .i64 0,.int .i64 ((c+bg (decide (10<l.length))+bM (l.take i) d).k:Int),.int .i64 0,.int .i64 0,.int .i64 0,.int .i64 0,.int .i64 0,.map (some be),.map (some bs)] 268 (0,0)),ab be (bn kI (gy 9) 15),ab bs (bn kI iQ 7)] [H]) (λi=>i<=l.length) (λi=>l.length-i) 0 (Nat.zero_le _) (sc O (sc O (sc O (sc O (sc O sn))))) (λ_ h=>h) ?_;intro i hi;refine Cs (Cr (V0 (bq O O) (Ln (Et (Cs ?_)))));refine Cc O (λar=>?_) (λar=>?_)
 ·have aw:i<l.length:=by simpa using ar
  obtain ⟨y,bC⟩:∃q,l[i]? = some q:=⟨_,List.getElem?_eq_getElem aw⟩;obtain ⟨jY,jZ,fg,cY⟩:=hm.aZ i y bC
  obtain ⟨k',rfl⟩:∃k',k=k'+1:=by
    cases k with
    | zero=>exact cY.elim
    | succ k'=>exact ⟨k',rfl⟩
  obtain ⟨ya,yn,y2,m2,y3,m3,bJ,j7,jh,kN⟩:=cY;have Oi:=agS bC;have hwy:=T3 y;have hle:=Dl (l.take i) d;have t1:=Dk (bB y.op).isNone;have t2:=HX ((bB y.op).getD (false,0)) y.mod y.nm y.args.length;have t3:=lM (gN y.op y.body.length y.other.length);have t4:=AM y.args 1;have t5:=MW y.body (d+1);have cz:dU y.op iQ (.agg #[.bool false,.int .i64 0]) = .agg #[.bool ((bB y.op).getD (false,0)).1,.int .i64 ((bB y.op).getD (false,0)).2]:=(Ww y.op).1;have Oh:=(Ww y.op).2;have aty:=j7.cap;have atz:=j7.max;have agY:=jh.cap;have max2:=jh.max;have agZ:=kN.cap;have ag0:=kN.max
  have D_:(c+bg (decide (10<l.length))+bM (l.take i) d).bf<=1152921504606846976:=by simp only [aA.cJ]; omega
  have Ec:(c+bg (decide (10<l.length))+bM (l.take i) d+cA (bB y.op).isNone).bf+4<=1152921504606846976:=by simp only [aA.cJ]; omega
  have hb4:(c+bg (decide (10<l.length))+bM (l.take i) d+cA (bB y.op).isNone+cK ((bB y.op).getD (false,0)) y.mod y.nm y.args.length+bW y.args 1).bf<=1152921504606846976:=by simp only [aA.cJ]; omega
  have W1:(c+bg (decide (10<l.length))+bM (l.take i) d+cA (bB y.op).isNone+cK ((bB y.op).getD (false,0)) y.mod y.nm y.args.length+bW y.args 1+cj (gN y.op y.body.length y.other.length)).bf+2+8*cP y.body<=1152921504606846976:=by simp only [aA.cJ]; omega
  have W2:(c+bg (decide (10<l.length))+bM (l.take i) d+cA (bB y.op).isNone+cK ((bB y.op).getD (false,0)) y.mod y.nm y.args.length+bW y.args 1+cj (gN y.op y.body.length y.other.length)+cZ y.body (d+1)).bf+2+8*cP y.other<=1152921504606846976:=by simp only [aA.cJ]; omega
  have hb7:(c+bg (decide (10<l.length))+bM (l.take i) d+cA (bB y.op).isNone+cK ((bB y.op).getD (false,0)) y.mod y.nm y.args.length+bW y.args 1+cj (gN y.op y.body.length y.other.length)).bf+2+8*cP y.other<=1152921504606846976:=by simp only [aA.cJ]; omega
  refine Ck (Et (Cs (Cb (Cs (Cr (V0 (Yo rh O O fg (by omega)) (V0 (cM 0 jg O O O (bJ)) ?_)))))));refine Al Y O u0 λb7=>?_;refine an 0 Y O O O ri O O O (Ln (Et (Cs ?_)));refine WC.xX [(0,true),(1,true),(2,true),(3,true),(4,true),(5,true),(6,true),(7,true),(8,true),(9,true),(10,false),(11,false),(12,false)] mixed (by kernel_rfl) (λ_ _ _ d _ h=>by cases d<;>exact h) ?_;refine D0 O (λ_ h=>h) (Ym O) (D0 O (λ_ h=>h) (aO O) (D0 O (λ_ h=>h) (Yf agX O) (D0 O (λ_ h=>h) (Yd 1 O O O WO) (D0 O (λ_ h=>h) (Yf oM O) (D0 O (λ_ h=>h) (Yd 0 O O O aq) (D0 O (λ_ h=>h) (ML 3 lJ lX jX kM O O O) ?_))))));rw [cz,Oh];refine D0 O (λ_ h=>h) (Ym O) (D0 O (λ_ h=>h) (Yx O O) (D0 O (λ_ h=>h) (Yx O O) ?_));refine De O (λ_ h=>h) ?_;refine Al Y O kM λb8=>?_;refine Ln (Ed ?_);refine De O (λ_ h=>(Wd 1 h:)) ?_;refine an 0 Y O O O WQ O O O (Ln (Ed ?_));refine De O (λ_ h=>(Wd 1 h:)) ?_;refine V0 (Ya O) (Ln (Ed ?_));refine WD.nil (λ_ h=>(Wd 1 h:)) ?_;refine Et (Cs (Cr (V0 (Ym O) (V0 (Ym O) (V0 (eu O) ?_)))));rw [Bool.not_not];refine Lf 2 O (eT [_] _ _ Y O lq O O [] (by simp) (λw hw=>Od vb be bs (c+bg (decide (10<l.length))+bM (l.take i) d) ((bB y.op).isNone) w (by omega) hw) (Ln (Et (Cs (Cr (V0 (Ym O) (V0 (bA 1 O O WR O) (V0 (Yf D7 O) (V0 (Yd 2 O O O df) (V0 (Yf D8 O) ?_))))))))));refine V0 (Yd 2 O O O df) (V0 (Yf pP O) (V0 (Yd 2 O O O wF) (V0 (Yn sR O) (eT [_] _ _ Y O WW O O [] (by simp) (λw hw=>WN vb be bs ((bB y.op).getD (false,0)).1 ((bB y.op).getD (false,0)).2 y.mod y.nm y.args.length (c+bg (decide (10<l.length))+bM (l.take i) d+cA (bB y.op).isNone) w (by omega) (by omega) hw) (Ln (Et (Cs (Cs (Cr (V0 (Yf pP O) (V0 (Yd 2 O O O wF) ?_)))))))))));refine V0 (Yn sR O) (V0 (Ym O) (Ln (Et (Cb ?_))));refine cU (ι:=Nat) (λj=>[(55,.int .i64 (j:Int))]) [(0,_),(2,_),(7,_),(22,_),(23,_),(24,_),(53,_),(54,_)] (λj=>Ws w [vb,be,bs] ([ab vb (.cells #[.int .i64 0,.int .i64 ((c+bg (decide (10<l.length))+bM (l.take i) d+cA (bB y.op).isNone+cK ((bB y.op).getD (false,0)) y.mod y.nm y.args.length+bW (y.args.take j) 1).f:Int),.int .i64 ((c+bg (decide (10<l.length))+bM (l.take i) d+cA (bB y.op).isNone+cK ((bB y.op).getD (false,0)) y.mod y.nm y.args.length+bW (y.args.take j) 1).m:Int),.int .i64 0,.int .i64 ((c+bg (decide (10<l.length))+bM (l.take i) d+cA (bB y.op).isNone+cK ((bB y.op).getD (false,0)) y.mod y.nm y.args.length+bW (y.args.take j) 1).k:Int),.int .i64 0,.int .i64 0,.int .i64 0,.int .i64 0,.int .i64 0,.map (some be),.map (some bs)] 268 (0,0)),ab be (bn kI (gy 9) 15),ab bs (bn kI iQ 7)]++[ab b7 (.cells (yb y ya yn y2 m2 y3 m3).toArray 222 (0,0))]) [H]) (λj=>j<=y.args.length) (λj=>y.args.length-j) 0 (Nat.zero_le _) (sc O (sc O (sc O (sc O (sc O (sc O (sc O (sc O (sc O sn))))))))) (λ_ h=>by exact (Wt 4 ((((h.f 2 O).f 4 O).f 4 O).f 3 O):)) ?_
  intro j hj;refine Cs (Cr (V0 (bq O O) (Ln (Et (Cs ?_)))));refine Cc O (λay=>?_) (λay=>?_)
  ·have aw:j<y.args.length:=by simpa using ay
   obtain ⟨z,kO⟩:∃q,y.args[j]? = some q:=⟨_,List.getElem?_eq_getElem aw⟩;obtain ⟨Oj,Ok,yI,wI⟩:=j7.aZ j z kO
   obtain ⟨my,rfl⟩:∃my,ke=my+1:=by
     cases ke with
     | zero=>exact wI.elim
     | succ k'=>exact ⟨k',rfl⟩
   obtain ⟨za,zn,Ee,gq⟩:=wI;have atA:=WH kO;have atB:=AM (y.args.take j) 1
   have W3:(c+bg (decide (10<l.length))+bM (l.take i) d+cA (bB y.op).isNone+cK ((bB y.op).getD (false,0)) y.mod y.nm y.args.length+bW (y.args.take j) 1).bf+8*wE z<=1152921504606846976:=by simp only [aA.cJ]; omega
   have e2:c+bg (decide (10<l.length))+bM (l.take i) d+cA (bB y.op).isNone+cK ((bB y.op).getD (false,0)) y.mod y.nm y.args.length+bW (y.args.take j) 1+iI z 1=c+bg (decide (10<l.length))+bM (l.take i) d+cA (bB y.op).isNone+cK ((bB y.op).getD (false,0)) y.mod y.nm y.args.length+bW (y.args.take (j+1)) 1:=by rw [WA 1 kO,<-aA.gf]
   refine Ck (Et (Cs (Cb (Cs (Cr (V0 (Yo sR O O yI (by omega)) (V0 (cM 0 jD O O O (Ee)) ?_)))))));refine Al Y O iy λrj=>?_;refine an 0 Y O O O mN O O O (Ln (Et (Cr (V0 (Ym O) (V0 (bA 0 O O jD O) (Lf 3 O (Lf 3 O (Lf 3 O ?_))))))))
   refine eT [_,_,_] _ [ab vb (.cells #[.int .i64 0,.int .i64 ((c+bg (decide (10<l.length))+bM (l.take i) d+cA (bB y.op).isNone+cK ((bB y.op).getD (false,0)) y.mod y.nm y.args.length+bW (y.args.take j) 1+iI z 1).f:Int),.int .i64 ((c+bg (decide (10<l.length))+bM (l.take i) d+cA (bB y.op).isNone+cK ((bB y.op).getD (false,0)) y.mod y.nm y.args.length+bW (y.args.take j) 1+iI z 1).m:Int),.int .i64 0,.int .i64 ((c+bg (decide (10<l.length))+bM (l.take i) d+cA (bB y.op).isNone+cK ((bB y.op).getD (false,0)) y.mod y.nm y.args.length+bW (y.args.take j) 1+iI z 1).k:Int),.int .i64 0,.int .i64 0,.int .i64 0,.int .i64 0,.int .i64 0,.map (some be),.map (some bs)] 268 (0,0)),ab be (bn kI (gy 9) 15),ab bs (bn kI iQ 7)] Y O WX O O [H] (by simp) (λw hw=>by
       have:=agV vb be bs H my z za zn 1 (c+bg (decide (10<l.length))+bM (l.take i) d+cA (bB y.op).isNone+cK ((bB y.op).getD (false,0)) y.mod y.nm y.args.length+bW (y.args.take j) 1) w gq W3 hw
       exact this) ?_
   refine Ln (Eb (Et (Cr (V0 (Yi O O O (by omega)) (V0 (Ym O) (Ln ?_))))));rw [e2];exact Ea (j+1) (by omega) (by omega) (sc O (sc O (sc O (sc O (sc O (sc O (sc O (sc O (sc O sn))))))))) (λ_ h=>by exact (Wt 4 ((((h.f 4 O).f 3 O).f 3 O).f 3 O):))
  have Bt:¬j<y.args.length:=by simpa using ay
  rw [List.take_of_length_le (by omega:y.args.length<=j)];refine Ce (Ex (Ex (cf (Et (Cs (Cr (V0 (Yf oM O) (V0 (Yd 3 O O O aq) (V0 (aG O O) (V0 (Ym O) ?_))))))))));apply Lo 3 O O O O Y O O O O O
  ·intro de;refine Vg (Yf oM O) (Vg (Yd 3 O O O aq) (Vg (aG O O) ?_));exact Gt 3 O O O
  refine V0 (Ya O) (Ln (Et (Cs (Cr (V0 (Ym O) (V0 (Ym O) (V0 (eu O) (V0 (Ym O) ?_))))))));apply La 4 O O O O Y O O O O O
  ·intro bK;refine Vg (Yf Bs O) (Vg (Yd 3 O O O mO) (Vg (Yn rh O) (Vg (bZ O O) ?_)));rw [D6];exact Gt 4 O O O
  refine V0 (Ym O) ?_;apply Lo 9 O O O O Y O O O O O
  ·intro hY;refine Vg (Yf oM O) (Vg (Yd 3 O O O aq) (Vg (jq O O) (Vg (Ym O) ?_)));apply La 4 O O O O (.g O O O) O O O O O
   ·intro mM;refine Vg (Yf wH O) (Vg (Yd 3 O O O mO) (Vg (Yn rh O) (Vg (bZ O O) ?_)));rw [D6];exact Gt 4 O O O
   exact Gt 5 O O O
  refine eT [_] _ _ Y O lq O O [] (by simp) (λw hw=>wC vb be bs (c+bg (decide (10<l.length))+bM (l.take i) d+cA (bB y.op).isNone+cK ((bB y.op).getD (false,0)) y.mod y.nm y.args.length+bW y.args 1) (gN y.op y.body.length y.other.length) w (by omega) hw) (Ln (Et (Cs (Cs (Cr (V0 (Ym O) (V0 (Ym O) ?_)))))));apply Lo 4 O O O O Y O O O O O
  ·intro yG;refine Vg (Yf Bs O) (Vg (Yd 3 O O O mO) (Vg (Yn rh O) (Vg (bZ O O) ?_)));rw [D6];exact Gt 4 O O O
  refine Ln (Et ?_);refine Cc O (λaM=>?_) (λaM=>?_)
  ·have e3:(if (inner y.op||decide (0<y.body.length))=true then cZ y.body (d+1) else c0)=cZ y.body (d+1):=if_pos aM;refine Cr (V0 (Ym O) (V0 (Yf Bs O) (V0 (Yd 3 O O O mO) (V0 (Ym O) (V0 (Yi O O O (by omega)) ?_)))))
   refine eT [_,_,_] _ [ab vb (.cells #[.int .i64 0,.int .i64 ((c+bg (decide (10<l.length))+bM (l.take i) d+cA (bB y.op).isNone+cK ((bB y.op).getD (false,0)) y.mod y.nm y.args.length+bW y.args 1+cj (gN y.op y.body.length y.other.length)+cZ y.body (d+1)).f:Int),.int .i64 ((c+bg (decide (10<l.length))+bM (l.take i) d+cA (bB y.op).isNone+cK ((bB y.op).getD (false,0)) y.mod y.nm y.args.length+bW y.args 1+cj (gN y.op y.body.length y.other.length)+cZ y.body (d+1)).m:Int),.int .i64 0,.int .i64 ((c+bg (decide (10<l.length))+bM (l.take i) d+cA (bB y.op).isNone+cK ((bB y.op).getD (false,0)) y.mod y.nm y.args.length+bW y.args 1+cj (gN y.op y.body.length y.other.length)+cZ y.body (d+1)).k:Int),.int .i64 0,.int .i64 0,.int .i64 0,.int .i64 0,.int .i64 0,.map (some be),.map (some bs)] 268 (0,0)),ab be (bn kI (gy 9) 15),ab bs (bn kI iQ 7)] Y O D9 O O [H] (by simp) (λw hw=>by
       have:=ih k' (by omega) y.body y2 m2 (d+1) (c+bg (decide (10<l.length))+bM (l.take i) d+cA (bB y.op).isNone+cK ((bB y.op).getD (false,0)) y.mod y.nm y.args.length+bW y.args 1+cj (gN y.op y.body.length y.other.length)) w jh W1 hw
       exact this) ?_
   refine Ln (Et (Cs (Cr (V0 (Yf wH O) (V0 (Yd 3 O O O mO) (V0 (Yn rh O) (V0 (bZ O O) ?_)))))));rw [D6];refine Ln (Et ?_);refine Cc O (λaW=>?_) (λaW=>?_)
   ·have e4:(if 0<y.other.length then cZ y.other (d+1) else c0)=cZ y.other (d+1):=if_pos (by simpa using aW);refine Cr (V0 (Ym O) (V0 (Yf wH O) (V0 (Yd 3 O O O mO) (V0 (Ym O) (V0 (Yi O O O (by omega)) ?_)))))
    refine eT [_,_,_] _ [ab vb (.cells #[.int .i64 0,.int .i64 ((c+bg (decide (10<l.length))+bM (l.take i) d+cA (bB y.op).isNone+cK ((bB y.op).getD (false,0)) y.mod y.nm y.args.length+bW y.args 1+cj (gN y.op y.body.length y.other.length)+cZ y.body (d+1)+cZ y.other (d+1)).f:Int),.int .i64 ((c+bg (decide (10<l.length))+bM (l.take i) d+cA (bB y.op).isNone+cK ((bB y.op).getD (false,0)) y.mod y.nm y.args.length+bW y.args 1+cj (gN y.op y.body.length y.other.length)+cZ y.body (d+1)+cZ y.other (d+1)).m:Int),.int .i64 0,.int .i64 ((c+bg (decide (10<l.length))+bM (l.take i) d+cA (bB y.op).isNone+cK ((bB y.op).getD (false,0)) y.mod y.nm y.args.length+bW y.args 1+cj (gN y.op y.body.length y.other.length)+cZ y.body (d+1)+cZ y.other (d+1)).k:Int),.int .i64 0,.int .i64 0,.int .i64 0,.int .i64 0,.int .i64 0,.map (some be),.map (some bs)] 268 (0,0)),ab be (bn kI (gy 9) 15),ab bs (bn kI iQ 7)] Y O D9 O O [H] (by simp) (λw hw=>by
        have:=ih k' (by omega) y.other y3 m3 (d+1) (c+bg (decide (10<l.length))+bM (l.take i) d+cA (bB y.op).isNone+cK ((bB y.op).getD (false,0)) y.mod y.nm y.args.length+bW y.args 1+cj (gN y.op y.body.length y.other.length)+cZ y.body (d+1)) w kN W2 hw
        exact this) ?_
    refine Ln (Eb (Et (Cr (V0 (Yi O O O (by omega)) (V0 (Ym O) (Ln ?_))))));rw [show c+bg (decide (10<l.length))+bM (l.take i) d+cA (bB y.op).isNone+cK ((bB y.op).getD (false,0)) y.mod y.nm y.args.length+bW y.args 1+cj (gN y.op y.body.length y.other.length)+cZ y.body (d+1)+cZ y.other (d+1)=c+bg (decide (10<l.length))+bM (l.take (i+1)) d by rw [IP d bC,IN,e3,e4]; simp only [aA.gf,Bl,Br]];exact Ea (i+1) (by omega) (by omega) (sc O (sc O (sc O (sc O (sc O sn))))) (λ_ h=>(Wt 3 h:))
   have e4:(if 0<y.other.length then cZ y.other (d+1) else c0)=c0:=if_neg (by simpa using aW);refine Ck (Eb (Et (Cr (V0 (Yi O O O (by omega)) (V0 (Ym O) (Ln ?_))))));rw [show c+bg (decide (10<l.length))+bM (l.take i) d+cA (bB y.op).isNone+cK ((bB y.op).getD (false,0)) y.mod y.nm y.args.length+bW y.args 1+cj (gN y.op y.body.length y.other.length)+cZ y.body (d+1)=c+bg (decide (10<l.length))+bM (l.take (i+1)) d by rw [IP d bC,IN,e3,e4]; simp only [aA.gf,Bl,Br]];exact Ea (i+1) (by omega) (by omega) (sc O (sc O (sc O (sc O (sc O sn))))) (λ_ h=>(Wt 3 h:))
  have e3:(if (inner y.op||decide (0<y.body.length))=true then cZ y.body (d+1) else c0)=c0:=if_neg (λe=>by rw [show (inner y.op||decide (0<y.body.length))=false from aM] at e; cases e);refine Ck (Et (Cs (Cr (V0 (Yf wH O) (V0 (Yd 3 O O O mO) (V0 (Yn rh O) (V0 (bZ O O) ?_)))))));rw [D6];refine Ln (Et ?_);refine Cc O (λaW=>?_) (λaW=>?_)
  ·have e4:(if 0<y.other.length then cZ y.other (d+1) else c0)=cZ y.other (d+1):=if_pos (by simpa using aW);refine Cr (V0 (Ym O) (V0 (Yf wH O) (V0 (Yd 3 O O O mO) (V0 (Ym O) (V0 (Yi O O O (by omega)) ?_)))))
   refine eT [_,_,_] _ [ab vb (.cells #[.int .i64 0,.int .i64 ((c+bg (decide (10<l.length))+bM (l.take i) d+cA (bB y.op).isNone+cK ((bB y.op).getD (false,0)) y.mod y.nm y.args.length+bW y.args 1+cj (gN y.op y.body.length y.other.length)+cZ y.other (d+1)).f:Int),.int .i64 ((c+bg (decide (10<l.length))+bM (l.take i) d+cA (bB y.op).isNone+cK ((bB y.op).getD (false,0)) y.mod y.nm y.args.length+bW y.args 1+cj (gN y.op y.body.length y.other.length)+cZ y.other (d+1)).m:Int),.int .i64 0,.int .i64 ((c+bg (decide (10<l.length))+bM (l.take i) d+cA (bB y.op).isNone+cK ((bB y.op).getD (false,0)) y.mod y.nm y.args.length+bW y.args 1+cj (gN y.op y.body.length y.other.length)+cZ y.other (d+1)).k:Int),.int .i64 0,.int .i64 0,.int .i64 0,.int .i64 0,.int .i64 0,.map (some be),.map (some bs)] 268 (0,0)),ab be (bn kI (gy 9) 15),ab bs (bn kI iQ 7)] Y O D9 O O [H] (by simp) (λw hw=>by
       have:=ih k' (by omega) y.other y3 m3 (d+1) (c+bg (decide (10<l.length))+bM (l.take i) d+cA (bB y.op).isNone+cK ((bB y.op).getD (false,0)) y.mod y.nm y.args.length+bW y.args 1+cj (gN y.op y.body.length y.other.length)) w kN hb7 hw
       exact this) ?_
   refine Ln (Eb (Et (Cr (V0 (Yi O O O (by omega)) (V0 (Ym O) (Ln ?_))))));rw [show c+bg (decide (10<l.length))+bM (l.take i) d+cA (bB y.op).isNone+cK ((bB y.op).getD (false,0)) y.mod y.nm y.args.length+bW y.args 1+cj (gN y.op y.body.length y.other.length)+cZ y.other (d+1)=c+bg (decide (10<l.length))+bM (l.take (i+1)) d by rw [IP d bC,IN,e3,e4]; simp only [aA.gf,Bl,Br]];exact Ea (i+1) (by omega) (by omega) (sc O (sc O (sc O (sc O (sc O sn))))) (λ_ h=>(Wt 3 h:))
  have e4:(if 0<y.other.length then cZ y.other (d+1) else c0)=c0:=if_neg (by simpa using aW);refine Ck (Eb (Et (Cr (V0 (Yi O O O (by omega)) (V0 (Ym O) (Ln ?_))))));rw [show c+bg (decide (10<l.length))+bM (l.take i) d+cA (bB y.op).isNone+cK ((bB y.op).getD (false,0)) y.mod y.nm y.args.length+bW y.args 1+cj (gN y.op y.body.length y.other.length)=c+bg (decide (10<l.length))+bM (l.take (i+1)) d by rw [IP d bC,IN,e3,e4]; simp only [aA.gf,Bl,Br]];exact Ea (i+1) (by omega) (by omega) (sc O (sc O (sc O (sc O (sc O sn))))) (λ_ h=>(Wt 3 h:))
 have wG:¬i<l.length:=by simpa using ar
 rw [List.take_of_length_le (by omega),aA.gf,<-agW hd];refine Ce (Ex (Ex (cf ?_)));refine E0 O λw' hw=>?_;exact ⟨O,hw⟩
theorem W4:∀(l:List bI) (i:Nat),wD (l.take i)<=wD l
 | [],i=>by simp
 | x::r,0=>by simp [wD]
 | x::r,i+1=>by have:=W4 r i; simp only [List.take_succ_cons,wD]; omega
theorem Ol:∀(l:List dC) (i:Nat),wP (l.take i)<=wP l
 | [],i=>by simp
 | x::r,0=>by simp [wP]
 | x::r,i+1=>by have:=Ol r i; simp only [List.take_succ_cons,wP]; omega
theorem W5 {l:List dC} {i:Nat} {p:dC} (h:l[i]? = some p):wP (l.take i)+(1+p.nm.length+wN p.params+wN p.av+cP p.body)<=wP l:=by
 have h2:=Ol l (i+1);rw [lW h] at h2
 have:∀a b:List dC,wP (a++b)=wP a+wP b:=by
   intro a b
   induction a with
   | nil=>simp [wP]
   | cons y a ih=>simp only [List.cons_append,wP,ih]; omega
 rw [this] at h2;simp only [wP] at h2;omega
theorem W6:∀a b:List bI,cO (a++b)=cO a+cO b
 | [],b=>by apply aA.ext'<;>simp [aA.x7,aA.x8,aA.x9,cO,c0]
 | x::a,b=>by
   rw [List.cons_append,show ∀q,cO (x::q)=gO x+cO q from λ_=>rfl,W6 a b,show ∀q,cO (x::q)=gO x+cO q from λ_=>rfl,aA.gf]
theorem ag3 {l:List bI} {i:Nat} {s:bI} (h:l[i]? = some s):cO (l.take (i+1))=cO (l.take i)+gO s:=by rw [lW h,W6]; rfl
theorem W7:∀a b:List dC,dz (a++b)=dz a+dz b
 | [],b=>by apply aA.ext'<;>simp [aA.x7,aA.x8,aA.x9,dz,c0]
 | x::a,b=>by
   rw [List.cons_append,show ∀q,dz (x::q)=qK x+dz q from λ_=>rfl,W7 a b,show ∀q,dz (x::q)=qK x+dz q from λ_=>rfl,aA.gf]
theorem ag4 {l:List dC} {i:Nat} {s:dC} (h:l[i]? = some s):dz (l.take (i+1))=dz (l.take i)+qK s:=by rw [lW h,W7]; rfl
theorem ag5 (n:Nat):decide ((4:Int)<(n:Int))=decide (4<n):=by rw [Bool.eq_iff_iff]; simp; omega
theorem ag6 (n:Nat):decide ((6:Int)<(n:Int))=decide (6<n):=by rw [Bool.eq_iff_iff]; simp; omega
def eN (i:Nat):Nat:=if i=0 then 4 else if i=1 then 2 else 1
def cE (c:aA) (i:Nat):Nat:=if i=0 then c.k else if i=1 then c.m else c.f
theorem ag7 {i:Nat} (h:i<3):(#[.int .i64 4,.int .i64 2,.int .i64 1]:Array Value)[i]? = some (.int .i64 (eN i:Int)):=by
 match i,h with
 | 0,_=>rfl
 | 1,_=>rfl
 | 2,_=>rfl
theorem ag8 (i:Nat):eN i<10:=by unfold eN; split; omega; split<;>omega
theorem ag9 {c:aA} {be bs i:Nat} (h:i<3) {T:TypeId} {fz:Nat×Nat}:gJ (.cells #[.int .i64 0,.int .i64 (c.f:Int),.int .i64 (c.m:Int),.int .i64 0,.int .i64 (c.k:Int),.int .i64 0,.int .i64 0,.int .i64 0,.int .i64 0,.int .i64 0,.map (some be),.map (some bs)] T fz) (0+0+eN i*1)=some (.int .i64 (cE c i:Int)):=by
 match i,h with
 | 0,_=>rfl
 | 1,_=>rfl
 | 2,_=>rfl
theorem ag' {c:aA} {i:Nat} (h:i<3) (h0:∀j,j<i->cE c j=0) (h1:0<cE c i):(eN i:Int)=uj c:=by
 match i,h,h0,h1 with
 | 0,_,_,h1=>unfold uj; rw [if_pos (show 0<c.k from h1)]; rfl
 | 1,_,h0,h1=>have:=h0 0 (by omega); unfold uj; rw [if_neg (by simp [cE] at this; omega),if_pos (show 0<c.m from h1)]; rfl
 | 2,_,h0,h1=>have a:=h0 0 (by omega); have b:=h0 1 (by omega); unfold uj; rw [if_neg (by simp [cE] at a; omega),if_neg (by simp [cE] at b; omega),if_pos (show 0<c.f from h1)]; rfl
theorem ag_ {c:aA} (h:∀j,j<3->cE c j=0):uj c=0:=by
 have a:=h 0 (by omega); have b:=h 1 (by omega); have d:=h 2 (by omega);simp [cE] at a b d;unfold uj;rw [if_neg (by omega),if_neg (by omega),if_neg (by omega)]
theorem aha:Enters Tryz.prog 149:=enters_of Tryz.func149 (by kernel_rfl) rfl
theorem ahb:Enters Tryz.prog 150:=enters_of Tryz.func150 (by kernel_rfl) rfl
theorem ahc:eR Tryz.prog 268=some [(0,10),(10,1),(11,1)]:=by kernel_rfl
theorem ahd:zeroOf Tryz.prog 268=some (.agg #[.int .i64 0,.int .i64 0,.int .i64 0,.int .i64 0,.int .i64 0,.int .i64 0,.int .i64 0,.int .i64 0,.int .i64 0,.int .i64 0,.map none,.map none]):=by kernel_rfl
theorem Om:aX Tryz.prog 174 0=some 0:=by kernel_rfl
theorem wJ:aX Tryz.prog 174 1=some 1:=by kernel_rfl
theorem fh:dI Tryz.prog 22=true:=by kernel_rfl
theorem Bu:aX Tryz.prog 174 2=some 2:=by kernel_rfl
theorem Ef:dI Tryz.prog 170=true:=by kernel_rfl
theorem yJ:dL Tryz.prog 170=some 4:=by kernel_rfl
theorem yK:aX Tryz.prog 174 3=some 3:=by kernel_rfl
theorem Bv:dI Tryz.prog 171=true:=by kernel_rfl
theorem u1:dL Tryz.prog 171=some 5:=by kernel_rfl
theorem oN:eQ Tryz.prog 217=some 4:=by kernel_rfl
theorem sS:zeroOf Tryz.prog 217=some (.agg #[.int .i64 0,st [],.bool false,.int .i64 0]):=by kernel_rfl
theorem u3:cq Tryz.prog 217=some 4:=by kernel_rfl
theorem ahe:Enters Tryz.prog 153:=enters_of Tryz.func153 (by kernel_rfl) rfl
theorem Bx:eQ Tryz.prog 213=some 5:=by kernel_rfl
theorem wK:zeroOf Tryz.prog 213=some (.agg #[st [],.bool false,.slice none 0 0,.slice none 0 0,.slice none 0 0]):=by kernel_rfl
theorem By:cq Tryz.prog 213=some 5:=by kernel_rfl
theorem W8:aX Tryz.prog 213 0=some 0:=by kernel_rfl
theorem sT:aX Tryz.prog 213 2=some 2:=by kernel_rfl
theorem Bz:aX Tryz.prog 213 3=some 3:=by kernel_rfl
theorem On:aX Tryz.prog 213 4=some 4:=by kernel_rfl
theorem Oo:aX Tryz.prog 174 4=some 4:=by kernel_rfl
theorem ahf:x2 Tryz.prog 271=some (3,1):=by kernel_rfl
theorem ahg:zeroOf Tryz.prog 271=some (.agg #[.int .i64 0,.int .i64 0,.int .i64 0]):=by kernel_rfl
theorem ahh:HM Tryz.prog 271=some 3:=by kernel_rfl
theorem W9 (H:View) (ke ks:Nat) (r:lL) (m:bc) (w:World) (hH:Le H w) (hm:nz ke ks H r m) (hb:wM m<=9007199254740992) :
   Calls Tryz.prog 122 #[.agg (gg m r).toArray] w λe w'=>e = .returned (.int .i64 (jw m))/\Ext w w':=by
 have D_:=MX m.nm;have Ec:=AN m.ae;have IX:=AL ((decide (3<m.ae.length)||decide (10<m.decls.length))||decide (6<m.procs.length));have hb4:=MV m.decls;have W1:=HY m.procs;have W2:=MW m.main 1;have hwM:wM m=1+m.nm.length+wN m.ae+wD m.decls+wP m.procs+cP m.main:=rfl;have hz:c0.bf=0:=rfl;have wL:=Dj m.ae;have cu:=hm.ae.cap;have xu:=hm.ae.max;have cd:=hm.decls.cap;have xd:=hm.decls.max;have cp:=hm.procs.cap;have xp:=hm.procs.max
 have BB:∀i,(cO (m.decls.take i)).bf<=8*wD m.decls:=λi=>by have:=MV (m.decls.take i); have:=W4 m.decls i; omega
 have hbp:∀i,(dz (m.procs.take i)).bf<=8*wP m.procs:=λi=>by have:=HY (m.procs.take i); have:=Ol m.procs i; omega
 have jx:(c0+aC [m.nm]).bf+16+m.ae.length<=1152921504606846976:=by simp only [aA.cJ]; omega
 have eI:(c0+aC [m.nm]+aC m.ae).bf+16+m.ae.length<=1152921504606846976:=by simp only [aA.cJ]; omega
 have re:(c0+aC [m.nm]+aC m.ae+bg ((decide (3<m.ae.length)||decide (10<m.decls.length))||decide (6<m.procs.length))).bf+16+m.ae.length<=1152921504606846976:=by simp only [aA.cJ]; omega
 have hk4:(c0+aC [m.nm]+aC m.ae+bg ((decide (3<m.ae.length)||decide (10<m.decls.length))||decide (6<m.procs.length))+cO m.decls).bf+16+m.ae.length<=1152921504606846976:=by simp only [aA.cJ]; omega
 have hk5:(c0+aC [m.nm]+aC m.ae+bg ((decide (3<m.ae.length)||decide (10<m.decls.length))||decide (6<m.procs.length))+cO m.decls+dz m.procs).bf+16+8*cP m.main<=1152921504606846976:=by simp only [aA.cJ]; omega
 refine enter Tryz.func122 O 106 O O ?_;refine CE (Vs:=[H]) (Ws.init (by simp [hH])) (Cs (Cr ?_));refine WL.box Y O O λb1=>?_;refine V0 (Ya O) (Ln (Et (Cs (Cr ?_))))
 refine WL.Df (ι:=Nat) Y O aha O (λb=>.map (some b)) (λb=>[ab b (bn kI (gy 9) 15)]) (λ_=>True) (λw hw=>(agQ w).mono λe w' h=>by
     obtain ⟨b,h1,h2⟩:=h
     exact ⟨b,h1,trivial,h2⟩) ?_
 intro be _
 refine WL.Df (ι:=Nat) Y O ahb O (λb=>.map (some b)) (λb=>[ab b (bn kI iQ 7)]) (λ_=>True) (λw hw=>(agR w).mono λe w' h=>by
     obtain ⟨b,h1,h2⟩:=h
     exact ⟨b,h1,trivial,h2⟩) ?_
 intro bs _;refine V0 (Yb ahd ahc O O) ?_;refine WL.box Y O O λjE=>?_;refine bH 0 (.cells #[.int .i64 0,.int .i64 ((c0).f:Int),.int .i64 ((c0).m:Int),.int .i64 0,.int .i64 ((c0).k:Int),.int .i64 0,.int .i64 0,.int .i64 0,.int .i64 0,.int .i64 0,.map (some be),.map (some bs)] 268 (0,0)) O O (V0 (Ya O) (Ln (Et (Cs (Cr (V0 (Ym O) (V0 (Yf Om O) (V0 (Yd 3 O O O df) ?_))))))));refine Lb Y O dn O O O O λIY=>?_;refine fC (T:=9) (m:=1) 0 [m.nm] O O (show 1<=1 by decide) (by decide) λW_ ahk=>?_;refine eT [_] _ [ab jE (.cells #[.int .i64 0,.int .i64 ((c0+aC [m.nm]).f:Int),.int .i64 ((c0+aC [m.nm]).m:Int),.int .i64 0,.int .i64 ((c0+aC [m.nm]).k:Int),.int .i64 0,.int .i64 0,.int .i64 0,.int .i64 0,.int .i64 0,.map (some be),.map (some bs)] 268 (0,0))] Y O Bn O O [W_] (by simp) (λw hw=>Bp jE be bs W_ _ _ [m.nm] (c0) w ahk (by show c0.bf+1<=_; omega) hw) (Ln (Et (Cs (Cr (V0 (Ym O) (V0 (Yf wJ O) (V0 (Yd 3 O O O fh) (eT [_] _ _ Y O Bn O O [H] (by simp) (λw hw=>Bp jE be bs H r.a1 r.c1 m.ae (c0+aC [m.nm]) w hm.ae (by omega) hw) (Ln (Et (Cs (Cr (V0 (Ym O) ?_)))))))))))));refine V0 (Yf wJ O) (V0 (Yd 3 O O O fh) (V0 (Yn dY O) (V0 (bZ O O) ?_)));rw [Of];refine V0 (Ym O) ?_;apply Lo 4 O O O O Y O O O O O
 ·intro de;refine Vg (Yf Bu O) (Vg (Yd 3 O O O Ef) (Vg (Yn yJ O) (Vg (bZ O O) ?_)));rw [WZ];exact Gt 4 O O O
 refine V0 (Ym O) ?_;apply Lo 4 O O O O Y O O O O O
 ·intro bK;refine Vg (Yf yK O) (Vg (Yd 3 O O O Bv) (Vg (Yn u1 O) (Vg (bZ O O) ?_)));rw [ag6];exact Gt 4 O O O
 refine eT [_] _ _ Y O lq O O [] (by simp) (λw hw=>Bm jE be bs (c0+aC [m.nm]+aC m.ae) ((decide (3<m.ae.length)||decide (10<m.decls.length))||decide (6<m.procs.length)) w (by omega) hw) (Ln (Et (Cs (Cs (Cr (V0 (Yf Bu O) (V0 (Yd 3 O O O Ef) (V0 (Yn yJ O) (V0 (Ym O) (Ln (Et (Cb ?_))))))))))));refine cU (ι:=Nat) (λi=>[(44,.int .i64 (i:Int))]) [(1,_),(2,_),(3,_),(42,_),(43,_)] (λi=>Ws w [] [ab jE (.cells #[.int .i64 0,.int .i64 ((c0+aC [m.nm]+aC m.ae+bg ((decide (3<m.ae.length)||decide (10<m.decls.length))||decide (6<m.procs.length))+cO (m.decls.take i)).f:Int),.int .i64 ((c0+aC [m.nm]+aC m.ae+bg ((decide (3<m.ae.length)||decide (10<m.decls.length))||decide (6<m.procs.length))+cO (m.decls.take i)).m:Int),.int .i64 0,.int .i64 ((c0+aC [m.nm]+aC m.ae+bg ((decide (3<m.ae.length)||decide (10<m.decls.length))||decide (6<m.procs.length))+cO (m.decls.take i)).k:Int),.int .i64 0,.int .i64 0,.int .i64 0,.int .i64 0,.int .i64 0,.map (some be),.map (some bs)] 268 (0,0)),ab be (bn kI (gy 9) 15),ab bs (bn kI iQ 7),ab b1 (.cells (gg m r).toArray 174 (0,0))] [H]) (λi=>i<=m.decls.length) (λi=>m.decls.length-i) 0 (Nat.zero_le _) (sc O (sc O (sc O (sc O (sc O (sc O sn)))))) (λ_ h=>by have h:=h.ao 3 O; have h:=h.ao 2 O; have h:=h.ao 3 O; have h:=h.ao 3 O; have h:=Ws.bw h (a_:=[H]) (by simp); exact h) ?_;intro i hi;refine Cs (Cr (V0 (bq O O) (Ln (Et (Cs ?_)))));refine Cc O (λad=>?_) (λad=>?_)
 ·have aw:i<m.decls.length:=by simpa using ad
  obtain ⟨d,u4⟩:∃q,m.decls[i]? = some q:=⟨_,List.getElem?_eq_getElem aw⟩;obtain ⟨Eg,Eh,Ei,dP⟩:=hm.decls.aZ i d u4;have dP:aT H Eg (Eh+i*4) d.cells:=dP
  have e2:c0+aC [m.nm]+aC m.ae+bg ((decide (3<m.ae.length)||decide (10<m.decls.length))||decide (6<m.procs.length))+cO (m.decls.take i)+gO d=c0+aC [m.nm]+aC m.ae+bg ((decide (3<m.ae.length)||decide (10<m.decls.length))||decide (6<m.procs.length))+cO (m.decls.take (i+1)):=by rw [ag3 u4,<-aA.gf]
  have WY:=BB i
  have pj:(c0+aC [m.nm]+aC m.ae+bg ((decide (3<m.ae.length)||decide (10<m.decls.length))||decide (6<m.procs.length))+cO (m.decls.take i)).bf+4<=4611686018427387904:=by simp only [aA.cJ]; omega
  refine Ck (Et (Cs (Cb (Cs (Cr (V0 (Yo yJ O O Ei (by omega)) (V0 (cM 0 oN O O O (dP)) ?_)))))));refine Al Y O sS λb5=>?_;refine an 0 Y O O O u3 O O O (Ln (Et (Cr (V0 (Ym O) (V0 (bA 0 O O oN O) (Lf 1 O (eT [_] _ _ Y O ahe O O [] (by simp) (λw hw=>agT jE be bs d (c0+aC [m.nm]+aC m.ae+bg ((decide (3<m.ae.length)||decide (10<m.decls.length))||decide (6<m.procs.length))+cO (m.decls.take i)) w (by omega) hw) (Ln (Eb (Et (Cr (V0 (Yi O O O (by omega)) ?_))))))))))));refine V0 (Ym O) (Ln ?_);rw [e2];exact Ea (i+1) (by omega) (by omega) (sc O (sc O (sc O (sc O (sc O (sc O sn)))))) (λ_ h=>by exact (Wt 4 ((((h.f 4 O).f 4 O).f 4 O).f 3 O):))
 have cz:¬i<m.decls.length:=by simpa using ad
 rw [List.take_of_length_le (by omega)];refine Ce (Ex (Ex (cf (Et (Cs (Cs (Cr (V0 (Yf yK O) (V0 (Yd 3 O O O Bv) (V0 (Yn u1 O) (V0 (Ym O) (Ln (Et (Cb ?_))))))))))))));refine cU (ι:=Nat) (λj=>[(55,.int .i64 (j:Int))]) [(1,_),(2,_),(3,_),(53,_),(54,_)] (λj=>Ws w [] [ab jE (.cells #[.int .i64 0,.int .i64 ((c0+aC [m.nm]+aC m.ae+bg ((decide (3<m.ae.length)||decide (10<m.decls.length))||decide (6<m.procs.length))+cO m.decls+dz (m.procs.take j)).f:Int),.int .i64 ((c0+aC [m.nm]+aC m.ae+bg ((decide (3<m.ae.length)||decide (10<m.decls.length))||decide (6<m.procs.length))+cO m.decls+dz (m.procs.take j)).m:Int),.int .i64 0,.int .i64 ((c0+aC [m.nm]+aC m.ae+bg ((decide (3<m.ae.length)||decide (10<m.decls.length))||decide (6<m.procs.length))+cO m.decls+dz (m.procs.take j)).k:Int),.int .i64 0,.int .i64 0,.int .i64 0,.int .i64 0,.int .i64 0,.map (some be),.map (some bs)] 268 (0,0)),ab be (bn kI (gy 9) 15),ab bs (bn kI iQ 7),ab b1 (.cells (gg m r).toArray 174 (0,0))] [H]) (λj=>j<=m.procs.length) (λj=>m.procs.length-j) 0 (Nat.zero_le _) (sc O (sc O (sc O (sc O (sc O (sc O sn)))))) (λ_ h=>h) ?_;intro j hj;refine Cs (Cr (V0 (bq O O) (Ln (Et (Cs ?_)))));refine Cc O (λar=>?_) (λar=>?_)
 ·have aw:j<m.procs.length:=by simpa using ar
  obtain ⟨p,lr⟩:∃q,m.procs[j]? = some q:=⟨_,List.getElem?_eq_getElem aw⟩;obtain ⟨yL,pop,ml,yM⟩:=hm.procs.aZ j p lr;obtain ⟨yN,yO,yP,yQ,BC,BD,bJ,j7,jh,kN⟩:=yM;have Oi:=W5 lr;have W3:=hbp j;have hle:=HY (m.procs.take j);have q1:=MX p.nm;have q2:=AN p.params;have q3:=AN p.av;have q4:=AL (decide (3<p.params.length)||decide (4<p.av.length));have q5:=Dj p.params;have q6:=Dj p.av;have c1_:=j7.cap;have x1_:=j7.max;have c2_:=jh.cap;have x2_:=jh.max
  have e3:c0+aC [m.nm]+aC m.ae+bg ((decide (3<m.ae.length)||decide (10<m.decls.length))||decide (6<m.procs.length))+cO m.decls+dz (m.procs.take j)+aC [p.nm]+aC p.params+aC p.av+bg (decide (3<p.params.length)||decide (4<p.av.length))+cZ p.body 1=c0+aC [m.nm]+aC m.ae+bg ((decide (3<m.ae.length)||decide (10<m.decls.length))||decide (6<m.procs.length))+cO m.decls+dz (m.procs.take (j+1)):=by rw [ag4 lr,qK]; simp only [aA.gf]
  have hq0:(c0+aC [m.nm]+aC m.ae+bg ((decide (3<m.ae.length)||decide (10<m.decls.length))||decide (6<m.procs.length))+cO m.decls+dz (m.procs.take j)).bf+16+p.params.length+p.av.length+8*cP p.body<=1152921504606846976:=by simp only [aA.cJ]; omega
  have Xa:(c0+aC [m.nm]+aC m.ae+bg ((decide (3<m.ae.length)||decide (10<m.decls.length))||decide (6<m.procs.length))+cO m.decls+dz (m.procs.take j)+aC [p.nm]).bf+16+p.params.length+p.av.length+8*cP p.body<=1152921504606846976:=by simp only [aA.cJ]; omega
  have hq2:(c0+aC [m.nm]+aC m.ae+bg ((decide (3<m.ae.length)||decide (10<m.decls.length))||decide (6<m.procs.length))+cO m.decls+dz (m.procs.take j)+aC [p.nm]+aC p.params).bf+16+p.params.length+p.av.length+8*cP p.body<=1152921504606846976:=by simp only [aA.cJ]; omega
  have hq3:(c0+aC [m.nm]+aC m.ae+bg ((decide (3<m.ae.length)||decide (10<m.decls.length))||decide (6<m.procs.length))+cO m.decls+dz (m.procs.take j)+aC [p.nm]+aC p.params+aC p.av).bf+16+p.params.length+p.av.length+8*cP p.body<=1152921504606846976:=by simp only [aA.cJ]; omega
  have Xb:(c0+aC [m.nm]+aC m.ae+bg ((decide (3<m.ae.length)||decide (10<m.decls.length))||decide (6<m.procs.length))+cO m.decls+dz (m.procs.take j)+aC [p.nm]+aC p.params+aC p.av+bg (decide (3<p.params.length)||decide (4<p.av.length))).bf+16+p.params.length+p.av.length+8*cP p.body<=1152921504606846976:=by simp only [aA.cJ]; omega
  refine Ck (Et (Cs (Cb (Cs (Cr (V0 (Yo u1 O O ml (by omega)) (V0 (cM 0 Bx O O O (bJ)) ?_)))))));refine Al Y O wK λb7=>?_;refine an 0 Y O O O By O O O (Ln (Et (Cs (Cr (V0 (Ym O) (V0 (Yf W8 O) (V0 (Yd 0 O O O df) ?_)))))));refine Lb Y O dn O O O O λOq=>?_;refine fC (T:=9) (m:=1) 0 [p.nm] O O (show 1<=1 by decide) (by decide) λEj Ot=>?_;refine Lf 1 O ?_;refine eT [_] _ [ab jE (.cells #[.int .i64 0,.int .i64 ((c0+aC [m.nm]+aC m.ae+bg ((decide (3<m.ae.length)||decide (10<m.decls.length))||decide (6<m.procs.length))+cO m.decls+dz (m.procs.take j)+aC [p.nm]).f:Int),.int .i64 ((c0+aC [m.nm]+aC m.ae+bg ((decide (3<m.ae.length)||decide (10<m.decls.length))||decide (6<m.procs.length))+cO m.decls+dz (m.procs.take j)+aC [p.nm]).m:Int),.int .i64 0,.int .i64 ((c0+aC [m.nm]+aC m.ae+bg ((decide (3<m.ae.length)||decide (10<m.decls.length))||decide (6<m.procs.length))+cO m.decls+dz (m.procs.take j)+aC [p.nm]).k:Int),.int .i64 0,.int .i64 0,.int .i64 0,.int .i64 0,.int .i64 0,.map (some be),.map (some bs)] 268 (0,0))] Y O Bn O O [Ej] (by simp) (λw hw=>Bp jE be bs Ej _ _ [p.nm] (c0+aC [m.nm]+aC m.ae+bg ((decide (3<m.ae.length)||decide (10<m.decls.length))||decide (6<m.procs.length))+cO m.decls+dz (m.procs.take j)) w Ot (by show (c0+aC [m.nm]+aC m.ae+bg ((decide (3<m.ae.length)||decide (10<m.decls.length))||decide (6<m.procs.length))+cO m.decls+dz (m.procs.take j)).bf+1<=_; omega) hw) ?_;refine Ln (Et (Cs (Cr (V0 (Ym O) (V0 (Yf sT O) (V0 (Yd 1 O O O fh) (eT [_] _ _ Y O Bn O O [H] (by simp) (λw hw=>Bp jE be bs H yN yO p.params (c0+aC [m.nm]+aC m.ae+bg ((decide (3<m.ae.length)||decide (10<m.decls.length))||decide (6<m.procs.length))+cO m.decls+dz (m.procs.take j)+aC [p.nm]) w j7 (by omega) hw) (Ln (Et (Cs (Cr (V0 (Ym O) (V0 (Yf Bz O) ?_)))))))))))));refine V0 (Yd 1 O O O fh) (eT [_] _ _ Y O Bn O O [H] (by simp) (λw hw=>Bp jE be bs H yP yQ p.av (c0+aC [m.nm]+aC m.ae+bg ((decide (3<m.ae.length)||decide (10<m.decls.length))||decide (6<m.procs.length))+cO m.decls+dz (m.procs.take j)+aC [p.nm]+aC p.params) w jh (by omega) hw) (Ln (Et (Cs (Cr (V0 (Ym O) (V0 (Yf sT O) (V0 (Yd 1 O O O fh) (V0 (Yn dY O) (V0 (bZ O O) ?_))))))))));rw [Of];refine V0 (Ym O) ?_;apply Lo 4 O O O O Y O O O O O
  ·intro hY;refine Vg (Yf Bz O) (Vg (Yd 1 O O O fh) (Vg (Yn dY O) (Vg (bZ O O) ?_)));rw [ag5];exact Gt 4 O O O
  refine eT [_] _ _ Y O lq O O [] (by simp) (λw hw=>Bm jE be bs (c0+aC [m.nm]+aC m.ae+bg ((decide (3<m.ae.length)||decide (10<m.decls.length))||decide (6<m.procs.length))+cO m.decls+dz (m.procs.take j)+aC [p.nm]+aC p.params+aC p.av) (decide (3<p.params.length)||decide (4<p.av.length)) w (by omega) hw) (Ln (Et (Cr (V0 (Ym O) (V0 (Yf On O) (V0 (Yd 1 O O O mO) (Lf 3 O (Lf 3 O (Lf 2 O ?_)))))))));refine eT [_,_,_] _ _ Y O D9 O O [H] (by simp) (λw hw=>W0 jE be bs H ke ks (p.body) BC BD 1 (c0+aC [m.nm]+aC m.ae+bg ((decide (3<m.ae.length)||decide (10<m.decls.length))||decide (6<m.procs.length))+cO m.decls+dz (m.procs.take j)+aC [p.nm]+aC p.params+aC p.av+bg (decide (3<p.params.length)||decide (4<p.av.length))) w kN (by omega) hw) (Ln (Eb (Et (Cr (V0 (Yi O O O (by omega)) (V0 (Ym O) (Ln ?_)))))));rw [e3];exact Ea (j+1) (by omega) (by omega) (sc O (sc O (sc O (sc O (sc O (sc O sn)))))) (λ_ h=>by exact (Wv 1 (Wt 4 ((((h.f 4 O).f 3 O).f 3 O).f 3 O)):))
 have wG:¬j<m.procs.length:=by simpa using ar
 rw [List.take_of_length_le (by omega)];refine Ce (Ex (Ex (cf (Et (Cs (Cr (V0 (Ym O) (V0 (Yf Oo O) (V0 (Yd 3 O O O mO) (eT [_,_,_] _ _ Y O D9 O O [H] (by simp) (λw hw=>W0 jE be bs H ke ks (m.main) r.a4 r.c4 1 (c0+aC [m.nm]+aC m.ae+bg ((decide (3<m.ae.length)||decide (10<m.decls.length))||decide (6<m.procs.length))+cO m.decls+dz m.procs) w hm.main (by omega) hw) (Ln (Et (Cs (Cs (Cr (V0 (T' ahg ahf O O) ?_))))))))))))))));refine V0 (Ym O) (Ln (Et (Cb ?_)));refine cU (ι:=Nat) (λi=>[(94,.int .i64 (i:Int))]) [(3,_),(93,_)] (λi=>Ws w [] [ab jE (.cells #[.int .i64 0,.int .i64 ((c0+aC [m.nm]+aC m.ae+bg ((decide (3<m.ae.length)||decide (10<m.decls.length))||decide (6<m.procs.length))+cO m.decls+dz m.procs+cZ m.main 1).f:Int),.int .i64 ((c0+aC [m.nm]+aC m.ae+bg ((decide (3<m.ae.length)||decide (10<m.decls.length))||decide (6<m.procs.length))+cO m.decls+dz m.procs+cZ m.main 1).m:Int),.int .i64 0,.int .i64 ((c0+aC [m.nm]+aC m.ae+bg ((decide (3<m.ae.length)||decide (10<m.decls.length))||decide (6<m.procs.length))+cO m.decls+dz m.procs+cZ m.main 1).k:Int),.int .i64 0,.int .i64 0,.int .i64 0,.int .i64 0,.int .i64 0,.map (some be),.map (some bs)] 268 (0,0)),ab be (bn kI (gy 9) 15),ab bs (bn kI iQ 7),ab b1 (.cells (gg m r).toArray 174 (0,0))] [H]) (λi=>i<=3/\∀j,j<i->cE (c0+aC [m.nm]+aC m.ae+bg ((decide (3<m.ae.length)||decide (10<m.decls.length))||decide (6<m.procs.length))+cO m.decls+dz m.procs+cZ m.main 1) j=0) (λi=>3-i) 0 ⟨Nat.zero_le _,by simp⟩ (sc O (sc O (sc O sn))) (λ_ h=>h) ?_;intro i ⟨hi,cg⟩;refine Cs (Cr (V0 (bq O O) (Ln (Et (Cs ?_)))));refine Cc O (λay=>?_) (λay=>?_)
 ·have aw:i<3:=by simp at ay; omega
  refine Ck (Et (Cs (Cb (Cs (Cr (V0 (TL (i:=i) ahh O O aw (ag7 aw)) (V0 (Ya O) (Ln (Et (Cs (Cr (V0 (Ym O) (V0 (Ym O) (V0 (aO O) (V0 (Yf yD O) ?_)))))))))))))));refine V0 (x3 (i:=eN i) yE O O (ag8 i)) (V0 (Yd 0 O O (ag9 aw) aq) (V0 (bZ O O) (Ln (Et ?_))));refine Cc O (λaM=>?_) (λaM=>?_)
  ·have Dd:0<cE (c0+aC [m.nm]+aC m.ae+bg ((decide (3<m.ae.length)||decide (10<m.decls.length))||decide (6<m.procs.length))+cO m.decls+dz m.procs+cZ m.main 1) i:=by simpa using aM
   refine Cs (Cr (V0 (Ym O) (V0 (Ya O) (Ln (Et (az (bR (Er (Er (bR (Er ?_)))))))))));refine R1 O O λw' hw=>?_;refine ⟨?_,hw.fr⟩;rw [ag' aw cg Dd,show c0+aC [m.nm]+aC m.ae+bg ((decide (3<m.ae.length)||decide (10<m.decls.length))||decide (6<m.procs.length))+cO m.decls+dz m.procs+cZ m.main 1=v7 m by rw [v7,Br]]
   rfl
  have hzero:cE (c0+aC [m.nm]+aC m.ae+bg ((decide (3<m.ae.length)||decide (10<m.decls.length))||decide (6<m.procs.length))+cO m.decls+dz m.procs+cZ m.main 1) i=0:=by simp at aM; omega
  refine Ck (Eb (Et (Cr (V0 (Yi O O O (by omega)) (V0 (Ym O) (Ln ?_))))));exact Ea (i+1) (by omega) ⟨by omega,λj hj=>by rcases Nat.lt_succ_iff_lt_or_eq.1 hj with h | rfl; exact cg j h; exact hzero⟩ (sc rfl (sc rfl (sc rfl sn))) (λ_ h=>h)
 have Bt:¬i<3:=by simp at ay; omega
 refine Ce (Ex (Ex (cf (Et (Cs (Cr (V0 (Ya O) (Ln (Et (az ?_))))))))));refine R1 O O λw' hw=>?_;refine ⟨?_,hw.fr⟩;rw [jw,show v7 m=c0+aC [m.nm]+aC m.ae+bg ((decide (3<m.ae.length)||decide (10<m.decls.length))||decide (6<m.procs.length))+cO m.decls+dz m.procs+cZ m.main 1 by rw [v7,Br],ag_ λj hj=>cg j (by omega)]
theorem Xc:zeroOf Tryz.prog 314=some (.agg #[st [],st [],st [],st [],st [],st [],st [],st [],st []]):=by kernel_rfl
theorem ahl:x2 Tryz.prog 314=some (9,1):=by kernel_rfl
theorem ahm:cq Tryz.prog 314=some 9:=by kernel_rfl
theorem ahn:eQ Tryz.prog 314=some 9:=by kernel_rfl
theorem aho (w:World) :
   Calls Tryz.prog 201 #[] w λe w'=>e = .returned (.agg (opsL.map st).toArray)/\Ext w w':=by
 refine enter Tryz.func201 O 2 O O ?_;refine CE (Vs:=[]) (Ws.init (by simp)) (Cs (Cr ?_));refine Al Y O Xc λb0=>?_;refine Ln (Et (Cs (Cr (V0 (T' Xc ahl O O) (an 0 Y O O O ahm O O O (Ln (Et (az ?_))))))));refine WE.dJ (gd O (cS 0 O O ahn O)) λw' hw=>?_;exact ⟨O,hw.fr⟩
abbrev aj (gb:Nat) (r:Option Addr×Nat) (l:Tk):List ak:=[ab gb (.cells #[.slice r.1 l.length r.2] 228 (0,0))]
def bz:List PanicEntry:=[⟨.iface 230 (.agg #[]),false,false⟩]
def bN:List Tx->Tk->Option Tk
 | [],l=>some l
 | w::ws,l=>(aD w l).bind (bN ws)
theorem c8 (w:Tx) (l:Tk):bN [w] l=aD w l:=by unfold bN; cases aD w l<;>rfl
theorem Xd (v w:Tx) (l:Tk):bN [v,w] l=(aD v l).bind (aD w):=by
 unfold bN
 cases aD v l with
 | none=>rfl
 | some q=>exact c8 w q
theorem Xe:∀{ws:List Tx} {l r:Tk},fT l->bN ws l=some r->fT r
 | [],l,r,hl,h=>by injection h with h; subst h; exact hl
 | w::ws,l,r,hl,h=>by
   obtain ⟨q,h1,h2⟩:=Option.bind_eq_some_iff.1 h;exact Xe (V3 hl h1) h2
theorem Ou (s:Tx) (t:Tok) (r:Tk):aD s (t::r)=if (t.text==s)=true then some r else none:=rfl
theorem gz {s:Tx} {l q:Tk} (h:aD s l=some q):q.length+1=l.length:=by
 cases l with
 | nil=>cases h
 | cons t r=>
   rw [Ou] at h
   split at h
   · injection h with h; subst h; rfl
   · cases h
theorem ahp {w:Tx} {ws:List Tx} {l q:Tk} (h:aD w l=some q):bN (w::ws) l=bN ws q:=by show (aD w l).bind (bN ws)=_; rw [h]; rfl
theorem ahq {w:Tx} {ws:List Tx} {l:Tk} (h:aD w l=none):bN (w::ws) l=none:=by show (aD w l).bind (bN ws)=_; rw [h]; rfl
structure bL (l:Tk):Prop where
 all:fT l
 len:l.length<=4096
theorem u5 {l r:Tk} {ws:List Tx} (h:bL l) (e:eA l ws r):bL r:=⟨e.ok,by have:=h.len; rw [e.2,List.length_append] at this; omega⟩
theorem gA {s:Tx} {l r:Tk} (h:bL l) (e:aD s l=some r):bL r:=⟨V3 h.all e,by have:=gz e; have:=h.len; omega⟩
theorem Ek:∀{ws:List Tx} {l q:Tk},bN ws l=some q->q.length+ws.length=l.length
 | [],l,q,h=>by injection h with h; subst h; rfl
 | w::ws,l,q,h=>by
   obtain ⟨q1,h1,h2⟩:=Option.bind_eq_some_iff.1 h;have:=gz h1; have:=Ek h2;simp only [List.length_cons];omega
theorem gB {ws:List Tx} {l r:Tk} (h:bL l) (e:bN ws l=some r):bL r:=⟨Xe h.all e,by have:=Ek e; have:=h.len; omega⟩
theorem rm {l r:Tk} {a:Tx} (h:bL l) (e:cG l=some (a,r)):bL r:=u5 h (sO h.all e).1
theorem Ov {l r:Tk} {a:Int} (h:bL l) (e:jU l=some (a,r)):bL r:=u5 h (NZ h.all e)
theorem Xf {l r:Tk} {p:Tx×Tx} (h:bL l) (e:kK l=some (p,r)):bL r:=u5 h (N0 (mod:=p.1) (nm:=p.2) h.all e)
theorem pQ {l r:Tk} {f:Nat} {x:ax} (h:bL l) (e:b_ f l=some (x,r)):bL r:=u5 h (Bj f l x r h.all e)
theorem pR {l r:Tk} {f:Nat} {x:ax} (h:bL l) (e:b_ f l=some (x,r)):r.length+1<=l.length:=by
 have h1:=(Bj f l x r h.all e).2;have h2:=afL x;rw [h1]
 cases hw:jf x with
 | nil=>exact absurd hw h2
 | cons y t=>simp
theorem ahr {ws:List Tx} {i:Nat} {x:Tx} (h:ws[i]? = some x):ws.drop i=x::ws.drop (i+1):=by
 obtain ⟨hi,e⟩:=List.getElem?_eq_some_iff.1 h;rw [<-e];exact List.drop_eq_getElem_cons hi
theorem sU:dL Tryz.prog 223=some 3:=by kernel_rfl
theorem pS:aX Tryz.prog 228 0=some 0:=by kernel_rfl
theorem sV:dI Tryz.prog 223=true:=by kernel_rfl
theorem ahs:aX Tryz.prog 255 2=some 2:=by kernel_rfl
theorem Xg:cq Tryz.prog 223=some 1:=by kernel_rfl
theorem fV:Enters Tryz.prog 145:=enters_of Tryz.func145 (by kernel_rfl) rfl
theorem u6:eR Tryz.prog 230=some []:=by kernel_rfl
theorem u7:zeroOf Tryz.prog 230=some (.agg #[]):=by kernel_rfl
theorem u9:Tryz.prog.concrete 230=true:=by kernel_rfl
theorem Xh:aX Tryz.prog 255 0=some 0:=by kernel_rfl
theorem Xi:Enters Tryz.prog 169:=enters_of Tryz.func169 (by kernel_rfl) rfl
theorem aht:H0 Tryz.prog 255 2=some 2:=by kernel_rfl
theorem ahu:H0 Tryz.prog 255 1=some 1:=by kernel_rfl
theorem rn:Enters Tryz.prog 144:=enters_of Tryz.func144 (by kernel_rfl) rfl
theorem fW (gb:Nat) (HT:View) (r:Option Addr×Nat) (l:Tk) (s:Tx) (w:World) (hm:Sl aY 3 HT r.1 r.2 l) (hw:Ws w (List.flatMap ak.ids (aj gb r l)) (aj gb r l) [HT] w) :
   Calls Tryz.prog 145 #[.pointer (some ⟨gb,0,none⟩),st s] w λe w'=>∃i:Bool×(Option Addr×Nat)×Tk,e = .returned (.bool i.1)/\((i.1=true->aD s l=some i.2.2)/\(i.1=false->aD s l=none/\l=i.2.2)/\Sl aY 3 HT i.2.1.1 i.2.1.2 i.2.2)/\Ws w (List.flatMap ak.ids (aj gb r l)) (aj gb i.2.1 i.2.2) [HT] w':=by
 have dQ:=hm.cap;have eB:=hm.max;have wO:=hm.drop 1;refine enter Tryz.func145 O 33 O O ?_;refine CE hw (Cs (Cr (V0 (Ya O) (Ln (Et (Cs (Cr (V0 (Ym O) (V0 (aO O) (V0 (Yf pS O) (V0 (Yd 0 O O O sV) ?_)))))))))));refine V0 (Yn sU O) (V0 (bZ O O) (V0 (Ym O) ?_));apply La 9 (x:=((l.head?.map λt=>t.text==s).getD false)) O O O O Y O O O O O
 ·intro de
  obtain ⟨t,r0,rfl⟩:∃t r0,l=t::r0:=by
    cases l with
    | nil=>simp at de
    | cons t r0=>exact ⟨t,r0,rfl⟩
  obtain ⟨yR,yS,oA,mP⟩:=hm.aZ 0 t rfl;have mP:aT HT yR (yS+0*3) t.cells:=mP;refine Vg (Ym O) (Vg (aO O) (Vg (Yf pS O) (Vg (Yd 0 O O O sV) (Vg (Yo (i:=0) sU O O oA (by simp)) (Vg (Yf ahs O) (Vg (dm 0 df O O (mP 2 _ O)) (Vg (Ym O) ?_)))))));refine Vg (CT O O) ?_;exact Gt 9 O O O
 refine V0 (Ya O) (Ln (Et (Cs (Cs (Cr (V0 (Ym O) (Ln (Et ?_))))))));refine Cc O (λad=>?_) (λad=>?_)
 ·obtain ⟨t,r0,rfl⟩:∃t r0,l=t::r0:=by
    cases l with
    | nil=>simp at ad
    | cons t r0=>exact ⟨t,r0,rfl⟩
  have heq:(t.text==s)=true:=by simpa using ad
  have wO:=wO (by simp);refine Cr (V0 (Ym O) (V0 (Ym O) (V0 (aO O) (V0 (Yf pS O) (V0 (Yd 0 O O O sV) (V0 (Hy 1 sU O O O (by simp) dQ) (V0 (aO O) ?_)))))));refine V0 (Yf pS O) (an 0 Y O O O Xg O O O (Ln (Et (Cs (Cr (V0 (Ym O) (V0 (Ya O) (Ln (Et (az ?_))))))))));refine R1 O O λw' hw=>?_;exact ⟨(true,(if r.2-1=0 then r.1 else r.1.map (·.add (1*3)),r.2-1),r0),by rw [ad],⟨λ_=>by rw [Ou,if_pos heq],λh=>(by cases h),wO⟩,hw⟩
 have gK:aD s l=none:=by
   cases l with
   | nil=>rfl
   | cons t r0=>rw [Ou,if_neg]; intro h; simp [h] at ad
 refine Ck (Et (Cs (Cr (V0 (Ym O) (V0 (Ya O) (Ln (Et (az ?_))))))));refine R1 O O λw' hw=>?_;exact ⟨(false,r,l),by rw [ad],⟨λh=>(by cases h),λ_=>⟨gK,O⟩,hm⟩,hw⟩
theorem gC (gb:Nat) (HT:View) (r:Option Addr×Nat) (l:Tk) (H:View) (a:Option Addr) (n:Nat) (ws:List Tx) (w:World) (hs:Sl rdStr 1 H a n ws) (hm:Sl aY 3 HT r.1 r.2 l) (hw:Ws w (List.flatMap ak.ids (aj gb r l)) (aj gb r l) [HT,H] w) :
   Calls Tryz.prog 143 #[.pointer (some ⟨gb,0,none⟩),.slice a ws.length n] w λe w'=>(∃(r2:Option Addr×Nat) (q:Tk),e = .returned (.tuple #[])/\bN ws l=some q/\Sl aY 3 HT r2.1 r2.2 q/\Ws w (List.flatMap ak.ids (aj gb r l)) (aj gb r2 q) [HT,H] w')\/(∃(r2:Option Addr×Nat) (q:Tk),e = .panicked bz/\bN ws l=none/\Ws w (List.flatMap ak.ids (aj gb r l)) (aj gb r2 q) [HT,H] w'):=by
 have dQ:=hs.cap;have eB:=hs.max;refine enter Tryz.func143 O 19 O O ?_;refine CE hw (Cs (Cr (V0 (Ym O) (V0 (Yn dY O) (V0 (Ym O) (Ln (Et (Cb ?_))))))));refine cU (ι:=Nat×(Option Addr×Nat)×Tk) (λg=>[(8,.int .i64 (g.1:Int))]) [(0,_),(6,_),(7,_)] (λg=>Ws w (List.flatMap ak.ids (aj gb r l)) (aj gb g.2.1 g.2.2) [HT,H]) (λg=>g.1<=ws.length/\bN ws l=bN (ws.drop g.1) g.2.2/\Sl aY 3 HT g.2.1.1 g.2.1.2 g.2.2) (λg=>ws.length-g.1) (0,r,l) ⟨Nat.zero_le _,O,hm⟩ (sc O (sc O (sc O (sc O sn)))) (λ_ h=>h) ?_;intro g ⟨hi,hR,pT⟩;refine Cs (Cr (V0 (bq O O) (Ln (Et (Cs ?_)))));refine Cc O (λad=>?_) (λad=>?_)
 ·have aw:g.1<ws.length:=by simpa using ad
  obtain ⟨x,bP⟩:∃x,ws[g.1]? = some x:=⟨_,List.getElem?_eq_getElem aw⟩;obtain ⟨hZ,h_,ha,bJ⟩:=hs.aZ g.1 x bP;have bJ:aT H hZ (h_+g.1*1) (d_ x):=bJ;have Xj:=ahr bP;refine Ck (Et (Cs (Cb (Cs (Cr (V0 (Yo dY O O (by assumption) (by omega)) (V0 (dm 1 df O O (bJ 0 _ O)) (V0 (Ya O) (Ln (Et (Cs (Cr (V0 (Ym O) (V0 (Ym O) ?_))))))))))))));refine Lw [_] _ Y O fV O O _ _ _ [HT] (by simp) (λw hw=>fW gb HT g.2.1 g.2.2 x w pT hw) ?_;intro ⟨yT,lu,iR⟩ ⟨El,En,pU⟩;refine V0 (eu O) (Ln (Et ?_));refine Cc O (λar=>?_) (λar=>?_)
  ·obtain ⟨iz,IZ⟩:=En (by simpa using ar);refine Cr (V0 (Yb u7 u6 O O) (V0 (qE u9 O) ?_));refine WL.panic Y O ?_;refine WE.aQ (Ep (Ep (WE.aQ ?_)));refine aJ λw' hw=>?_;exact .inr ⟨lu,iR,O,by rw [hR,Xj,ahq iz],(by have h:=hw; exact h)⟩
  have nR:=El (by simpa using ar);refine Ck (Eb (Et (Cr (V0 (Yi O O O (by omega)) (V0 (Ym O) (Ln ?_))))));exact Ea ((g.1+1,lu,iR):Nat×(Option Addr×Nat)×Tk) (by show ws.length-(g.1+1)<ws.length-g.1; omega) ⟨by show g.1+1<=ws.length; omega,by rw [hR,Xj,ahp nR],pU⟩ (sc O (sc O (sc O (sc O sn)))) (λ_ h=>h)
 have cz:¬g.1<ws.length:=by simpa using ad
 rw [List.drop_eq_nil_of_le (by omega)] at hR;refine Ce (Ex (Ex (cf ?_)));refine E0 O λw' hw=>?_;exact .inl ⟨g.2.1,g.2.2,O,by rw [hR]; rfl,pT,hw⟩
theorem Xk (gb:Nat) (HT:View) (r:Option Addr×Nat) (l:Tk) (k:Int) (w:World) (hm:Sl aY 3 HT r.1 r.2 l) (hw:Ws w (List.flatMap ak.ids (aj gb r l)) (aj gb r l) [HT] w) :
   Calls Tryz.prog 169 #[.pointer (some ⟨gb,0,none⟩),.int .i64 k] w λe w'=>(∃(t:Tok) (r2:Option Addr×Nat) (q:Tk),e = .returned (.agg #[.int .i64 t.kind,.int .i64 t.n,st t.text])/\lh k l=some (t,q)/\Sl aY 3 HT r2.1 r2.2 q/\Ws w (List.flatMap ak.ids (aj gb r l)) (aj gb r2 q) [HT] w')\/(∃(r2:Option Addr×Nat) (q:Tk),e = .panicked bz/\lh k l=none/\Ws w (List.flatMap ak.ids (aj gb r l)) (aj gb r2 q) [HT] w'):=by
 have dQ:=hm.cap;have eB:=hm.max;have wO:=hm.drop 1;refine enter Tryz.func169 O 40 O O ?_;refine CE hw (Cs (Cr ?_));refine Al Y O yC λb4=>?_;refine Ln (Et (Cs (Cs (Cr (V0 (Ym O) (V0 (aO O) (V0 (Yf pS O) (V0 (Yd 1 O O O sV) (V0 (Yn sU O) (V0 (aG O O) (V0 (Ym O) ?_)))))))))));apply Lo 9 (x:=(!((l.head?.map λt=>t.kind==k).getD false))) O O O O Y O O O O O
 ·intro de
  obtain ⟨t,r0,rfl⟩:∃t r0,l=t::r0:=by
    cases l with
    | nil=>simp at de
    | cons t r0=>exact ⟨t,r0,rfl⟩
  obtain ⟨yR,yS,oA,mP⟩:=hm.aZ 0 t rfl;have mP:aT HT yR (yS+0*3) t.cells:=mP;refine Vg (Ym O) (Vg (aO O) (Vg (Yf pS O) (Vg (Yd 1 O O O sV) (Vg (Yo (i:=0) sU O O oA (by simp)) (Vg (Yf Xh O) (Vg (dm 0 aq O O (mP 0 _ O)) (Vg (Ym O) ?_)))))));refine Vg (jq O O) ?_;exact Gt 9 O O O
 refine Ln (Et ?_);refine Cc O (λad=>?_) (λad=>?_)
 ·have gK:lh k l=none:=by
    cases l with
    | nil=>rfl
    | cons t r0=>
      simp only [lh];rw [if_neg];intro h;simp [h] at ad;omega
  refine Cr (V0 (Yb u7 u6 O O) (V0 (qE u9 O) ?_));refine WL.panic Y O ?_;refine Ep ?_;refine aJ λw' hw=>?_;exact .inr ⟨r,l,O,gK,(by have h:=hw; have h:=h.ao 1 O; have h:=Wt 1 h; exact h)⟩
 obtain ⟨t,r0,rfl⟩:∃t r0,l=t::r0:=by
   cases l with
   | nil=>simp at ad
   | cons t r0=>exact ⟨t,r0,rfl⟩
 have hk:t.kind=k:=by simp at ad; exact ad.2
 have Eo:lh k (t::r0)=some (t,r0):=by simp only [lh]; rw [if_pos hk]
 have wO:=wO (by simp);obtain ⟨yR,yS,oA,mP⟩:=hm.aZ 0 t rfl;have mP:aT HT yR (yS+0*3) t.cells:=mP;refine Ck (Et (Cs (Cr (V0 (Ym O) (V0 (aO O) (V0 (Yf pS O) (V0 (Yd 1 O O O sV) (V0 (Yo (i:=0) sU O O oA (by simp)) (V0 (cM 0 Bk O O O (mP)) ?_)))))))));refine Al Y O yC λb5=>?_;refine an 0 Y O O O D3 O O O (Ln (Et (Cs (Cr (V0 (Ym O) (V0 (Ym O) (V0 (aO O) (V0 (Yf pS O) (V0 (Yd 2 O O O sV) (V0 (Hy 1 sU O O O (by simp) dQ) ?_))))))))));refine V0 (aO O) (V0 (Yf pS O) (an 2 Y O O O Xg O O O (Ln (Et (Cs (Cr (V0 (bA 0 O O Bk O) (an 1 Y O O O D3 O O O (Ln (Et (az ?_)))))))))));refine WE.dJ (gd O (cS 1 O O Bk O)) λw' hw=>?_;exact .inl ⟨t,(if r.2-1=0 then r.1 else r.1.map (·.add (1*3)),r.2-1),r0,O,Eo,wO,Wd 2 hw⟩
theorem rq (gb:Nat) (HT:View) (r:Option Addr×Nat) (l:Tk) (w:World) (hm:Sl aY 3 HT r.1 r.2 l) (hw:Ws w (List.flatMap ak.ids (aj gb r l)) (aj gb r l) [HT] w) :
   Calls Tryz.prog 144 #[.pointer (some ⟨gb,0,none⟩)] w λe w'=>(∃(s:Tx) (r2:Option Addr×Nat) (q:Tk),e = .returned (st s)/\cG l=some (s,q)/\Sl aY 3 HT r2.1 r2.2 q/\Ws w (List.flatMap ak.ids (aj gb r l)) (aj gb r2 q) [HT] w')\/(∃(r2:Option Addr×Nat) (q:Tk),e = .panicked bz/\cG l=none/\Ws w (List.flatMap ak.ids (aj gb r l)) (aj gb r2 q) [HT] w'):=by
 refine enter Tryz.func144 O 13 O O ?_;refine CE hw (Cs (Cr (V0 (Ya O) (Ln (Et (Cs (Cr (V0 (Ym O) ?_))))))))
 refine bd (ι:=Tok×(Option Addr×Nat)×Tk) (κ:=(Option Addr×Nat)×Tk) [_] _ Y O Xi O O (λi=>.agg #[.int .i64 i.1.kind,.int .i64 i.1.n,st i.1.text]) (λi=>aj gb i.2.1 i.2.2) (λi=>lh 1 l=some (i.1,i.2.2)/\Sl aY 3 HT i.2.1.1 i.2.1.2 i.2.2) (λ_=>bz) (λi=>aj gb i.1 i.2) (λ_=>lh 1 l=none) ([HT]) (by simp) (λw hw=>(Xk gb HT r l 1 w hm hw).mono λe w' h=>by
     rcases h with ⟨t,r2,q,h1,h2,h3,h4⟩ | ⟨r2,q,h1,h2,h3⟩
     · exact .inl ⟨(t,r2,q),h1,⟨h2,h3⟩,h4⟩
     · exact .inr ⟨(r2,q),h1,h2,h3⟩) ?_ ?_
 ·intro ⟨rp,qp⟩ hp;refine Ep ?_;refine aJ λw' hw=>?_;exact .inr ⟨rp,qp,O,by unfold cG; rw [hp]; rfl,(by have h:=hw; exact h)⟩
 intro ⟨t5,r5,q5⟩ ⟨Xl,hm5⟩;refine V0 (T_ aht O O) (V0 (Ya O) (Ln (Et (Cs (Cs (Cr (V0 (Ym O) (Lp Y O IQ O (λw hw=>IM _ w) (V0 (eu O) (Ln (Et ?_)))))))))));refine Cc O (λad=>?_) (λad=>?_)
 ·have gK:cG l=none:=by unfold cG; rw [Xl]; simp only [Option.bind_some]; rw [if_neg (by simpa using ad)]
  refine Cr (V0 (Yb u7 u6 O O) (V0 (qE u9 O) ?_));refine WL.panic Y O ?_;refine Ep ?_;refine aJ λw' hw=>?_;exact .inr ⟨r5,q5,O,gK,(by have h:=hw; exact h)⟩
 have Eo:cG l=some (t5.text,q5):=by unfold cG; rw [Xl]; simp only [Option.bind_some]; rw [if_pos (by simpa using ad)]
 refine Ck (Et (Cs (Cr (V0 (Ym O) (V0 (Ya O) (Ln (Et (az ?_))))))));refine R1 O O λw' hw=>?_;exact .inl ⟨t5.text,r5,q5,O,Eo,hm5,hw⟩
theorem Ow (gb:Nat) (HT:View) (r:Option Addr×Nat) (l:Tk) (w:World) (hm:Sl aY 3 HT r.1 r.2 l) (hw:Ws w (List.flatMap ak.ids (aj gb r l)) (aj gb r l) [HT] w) :
   Calls Tryz.prog 171 #[.pointer (some ⟨gb,0,none⟩)] w λe w'=>(∃(n:Int) (r2:Option Addr×Nat) (q:Tk),e = .returned (.int .i64 n)/\jU l=some (n,q)/\Sl aY 3 HT r2.1 r2.2 q/\Ws w (List.flatMap ak.ids (aj gb r l)) (aj gb r2 q) [HT] w')\/(∃(r2:Option Addr×Nat) (q:Tk),e = .panicked bz/\jU l=none/\Ws w (List.flatMap ak.ids (aj gb r l)) (aj gb r2 q) [HT] w'):=by
 refine enter Tryz.func171 O 6 O O ?_;refine CE hw (Cs (Cr (V0 (Ya O) (Ln (Et (Cs (Cr (V0 (Ym O) ?_))))))))
 refine bd (ι:=Tok×(Option Addr×Nat)×Tk) (κ:=(Option Addr×Nat)×Tk) [_] _ Y O Xi O O (λi=>.agg #[.int .i64 i.1.kind,.int .i64 i.1.n,st i.1.text]) (λi=>aj gb i.2.1 i.2.2) (λi=>lh 2 l=some (i.1,i.2.2)/\Sl aY 3 HT i.2.1.1 i.2.1.2 i.2.2) (λ_=>bz) (λi=>aj gb i.1 i.2) (λ_=>lh 2 l=none) ([HT]) (by simp) (λw hw=>(Xk gb HT r l 2 w hm hw).mono λe w' h=>by
     rcases h with ⟨t,r2,q,h1,h2,h3,h4⟩ | ⟨r2,q,h1,h2,h3⟩
     · exact .inl ⟨(t,r2,q),h1,⟨h2,h3⟩,h4⟩
     · exact .inr ⟨(r2,q),h1,h2,h3⟩) ?_ ?_
 ·intro ⟨rp,qp⟩ hp;refine Ep ?_;refine aJ λw' hw=>?_;exact .inr ⟨rp,qp,O,by unfold jU; rw [hp]; rfl,(by have h:=hw; exact h)⟩
 intro ⟨t4,r4,q4⟩ ⟨Xb,hm4⟩;refine V0 (T_ ahu O O) (V0 (Ya O) (Ln (Et (az ?_))));refine R1 O O λw' hw=>?_;exact .inl ⟨t4.n,r4,q4,O,by unfold jU; rw [Xb]; rfl,hm4,hw⟩
theorem Xm (gb:Nat) (HT:View) (r:Option Addr×Nat) (l:Tk) (w:World) (aE:bL l) (hm:Sl aY 3 HT r.1 r.2 l) (hw:Ws w (List.flatMap ak.ids (aj gb r l)) (aj gb r l) [HT] w) :
   Calls Tryz.prog 183 #[.pointer (some ⟨gb,0,none⟩)] w λe w'=>(∃(p:Tx×Tx) (r2:Option Addr×Nat) (q:Tk),e = .returned (.tuple #[st p.1,st p.2])/\kK l=some (p,q)/\Sl aY 3 HT r2.1 r2.2 q/\Ws w (List.flatMap ak.ids (aj gb r l)) (aj gb r2 q) [HT] w')\/(∃(r2:Option Addr×Nat) (q:Tk),e = .panicked bz/\kK l=none/\Ws w (List.flatMap ak.ids (aj gb r l)) (aj gb r2 q) [HT] w'):=by
 refine enter Tryz.func183 O 13 O O ?_;refine CE hw (Cs (Cr (V0 (Ya O) (V0 (Ya O) (Ln (Et (Cs (Cr (V0 (Ym O) ?_)))))))))
 refine bd (ι:=(Tx)×(Option Addr×Nat)×Tk) (κ:=(Option Addr×Nat)×Tk) [_] _ Y O rn O O (λi=>st i.1) (λi=>aj gb i.2.1 i.2.2) (λi=>cG l=some (i.1,i.2.2)/\Sl aY 3 HT i.2.1.1 i.2.1.2 i.2.2) (λ_=>bz) (λi=>aj gb i.1 i.2) (λ_=>cG l=none) ([HT]) (by simp) (λw hw=>(rq gb HT r l w hm hw).mono λe w' h=>by
     rcases h with ⟨t,r2,q,h1,h2,h3,h4⟩ | ⟨r2,q,h1,h2,h3⟩
     · exact .inl ⟨(t,r2,q),h1,⟨h2,h3⟩,h4⟩
     · exact .inr ⟨(r2,q),h1,h2,h3⟩) ?_ ?_
 ·intro ⟨rp,qp⟩ hp;refine Ep ?_;refine aJ λw' hw=>?_;exact .inr ⟨rp,qp,O,by unfold kK; rw [hp]; rfl,(by have h:=hw; exact h)⟩
 intro ⟨s6,r6,q6⟩ ⟨I0,hm6⟩;have ok6:=rm aE I0;refine V0 (Ya O) (Ln (Et (Cs (Cs (Cr (V0 (Ym O) ?_))))));refine Lw [_] _ Y O fV O O _ _ _ [HT] (by simp) (λw hw=>fW gb HT r6 q6 [46] w hm6 hw) ?_;intro ⟨b8,r8,q8⟩ ⟨h8t,h8f,I1⟩;refine Ln (Et ?_);refine Cc O (λad=>?_) (λad=>?_)
 ·have nS:=h8t ad;have Ox:=gA ok6 nS;refine Cs (Cr (V0 (Ym O) (V0 (Ym O) ?_)))
  refine bd (ι:=(Tx)×(Option Addr×Nat)×Tk) (κ:=(Option Addr×Nat)×Tk) [_] _ Y O rn O O (λi=>st i.1) (λi=>aj gb i.2.1 i.2.2) (λi=>cG q8=some (i.1,i.2.2)/\Sl aY 3 HT i.2.1.1 i.2.1.2 i.2.2) (λ_=>bz) (λi=>aj gb i.1 i.2) (λ_=>cG q8=none) ([HT]) (by simp) (λw hw=>(rq gb HT r8 q8 w I1 hw).mono λe w' h=>by
      rcases h with ⟨t,r2,q,h1,h2,h3,h4⟩ | ⟨r2,q,h1,h2,h3⟩
      · exact .inl ⟨(t,r2,q),h1,⟨h2,h3⟩,h4⟩
      · exact .inr ⟨(r2,q),h1,h2,h3⟩) ?_ ?_
  ·intro ⟨rp,qp⟩ hp;refine Ep (Ep ?_);refine aJ λw' hw=>?_;exact .inr ⟨rp,qp,O,by unfold kK; rw [I0]; simp only [Option.bind_some]; rw [nS]; simp only; rw [hp]; rfl,(by have h:=hw; exact h)⟩
  intro ⟨pV,Ew,kP⟩ ⟨iS,Ey⟩;have I2:=rm Ox iS;refine V0 (Ya O) (V0 (Ya O) (Ln (Et (az (Er ?_)))));refine WE.me O O O λw' hw=>?_;exact .inl ⟨(s6,pV),Ew,kP,O,by unfold kK; rw [I0]; simp only [Option.bind_some]; rw [nS]; simp only; rw [iS]; rfl,Ey,hw⟩
 obtain ⟨wQ,hl8⟩:=h8f ad;subst hl8;refine Ck (Et (Cs (Cr (V0 (Ym O) (V0 (Ya O) (V0 (Ya O) (Ln (Et (az ?_)))))))));refine WE.me O O O λw' hw=>?_;exact .inl ⟨([],s6),r8,q6,O,by unfold kK; rw [I0]; simp only [Option.bind_some]; rw [wQ],I1,hw⟩
abbrev XE:=ax×Option Addr×Nat
def XE.cells (e:XE):List Value:=x_ e.1 e.2.1 e.2.2
theorem XE.a8 (e:XE):(XE.cells e).length=5:=rfl
theorem XE.one (e:XE):(XE.cells e).all (·.oneCell')=true:=rfl
def j8 (H:View) (b o:Nat) (e:XE):Prop:=aT H b o (XE.cells e)
def fY (J:View) (f:Nat) (es:List XE):Prop:=∀e ∈ es,Sl (eG f) 5 J e.2.1 e.2.2 e.1.args
theorem fY.nil (J:View) (f:Nat):fY J f []:=by intro e h; simp at h
theorem fY.snoc {J J1 J2:View} {f:Nat} {es:List XE} {e:XE} (h:fY J f es) (h1:aL J J2) (h2:aL J1 J2) (he:Sl (eG f) 5 J1 e.2.1 e.2.2 e.1.args):fY J2 f (es++[e]):=by
 intro x hx
 rcases List.mem_append.1 hx with hx | hx
 · exact (h x hx).imp λb o y hy=>AK h1 (Nat.le_refl _) b o y hy
 · rw [List.mem_singleton] at hx
   subst hx;exact he.imp λb o y hy=>AK h2 (Nat.le_refl _) b o y hy
theorem j9 {H J N:View} {f c:Nat} {a:Option Addr} {es:List XE} (h:Sl j8 5 H a c es) (hv:aL H N) (hJ:aL J N) (mB:fY J f es):Sl (eG (f+1)) 5 N a c (es.map (·.1)):=by
 refine ⟨by simpa using h.cap,h.max,h.spot,λi x hx=>?_⟩;rw [List.getElem?_map] at hx;obtain ⟨e,he,rfl⟩:=Option.map_eq_some_iff.1 hx;obtain ⟨b,o,h1,h2⟩:=h.aZ i e he;exact ⟨b,o,h1,e.2.1,e.2.2,aT.mono hv h2,(mB e (List.mem_of_getElem? he)).imp λb o y hy=>AK hJ (Nat.le_refl _) b o y hy⟩
theorem I3 {H N:View} {f c:Nat} {a:Option Addr} {l:List ax} (h:Sl (eG f) 5 H a c l) (hv:aL H N):Sl (eG f) 5 N a c l:=h.imp λb o y hy=>AK hv (Nat.le_refl _) b o y hy
structure GA where
 es:List XE
 a:Option Addr
 c:Nat
 J:View
 r:Option Addr×Nat
 q:Tk
def Oy (HT:View) (f:Nat):Prop:=∀(gb:Nat) (r:Option Addr×Nat) (l:Tk) (d:Nat) (w:World),f+d=7->bL l->Sl aY 3 HT r.1 r.2 l->Ws w (List.flatMap ak.ids (aj gb r l)) (aj gb r l) [HT] w->
 Calls Tryz.prog 182 #[.pointer (some ⟨gb,0,none⟩),.int .i64 (d:Int)] w λe w'=>(∃(x:ax) (s:Option Addr×Nat) (r2:Option Addr×Nat) (q:Tk),e = .returned (.agg #[.int .i64 (x).op,.int .i64 (x).n,st (x).mod,st (x).nm,.slice s.1 (x).args.length s.2])/\b_ f l=some (x,q)/\Sl (eG f) 5 (nv w w') s.1 s.2 x.args/\Sl aY 3 HT r2.1 r2.2 q/\Ws w (List.flatMap ak.ids (aj gb r l)) (aj gb r2 q) [HT] w')\/(∃(r2:Option Addr×Nat) (q:Tk),e = .panicked bz/\b_ f l=none/\Ws w (List.flatMap ak.ids (aj gb r l)) (aj gb r2 q) [HT] w')
theorem ahC {pe:Tk->Option (ax×Tk)} {n:Nat} {l q q2:Tk} {x:ax} (h1:pe l=some (x,q)) (h2:aD [41] q=some q2):lj pe (n+1) l=some ([x],q2):=by rw [lj,h1]; simp only [Option.bind_some]; rw [h2]
theorem ahD {pe:Tk->Option (ax×Tk)} {n:Nat} {l q q2:Tk} {x:ax} (h1:pe l=some (x,q)) (h2:aD [41] q=none) (h3:aD [44] q=some q2):lj pe (n+1) l=(lj pe n q2).map λp=>(x::p.1,p.2):=by rw [lj,h1]; simp only [Option.bind_some]; rw [h2]; simp only; rw [h3]
theorem ahE {pe:Tk->Option (ax×Tk)} {n:Nat} {l q:Tk} {x:ax} (h1:pe l=some (x,q)) (h2:aD [41] q=none) (h3:aD [44] q=none):lj pe (n+1) l=none:=by rw [lj,h1]; simp only [Option.bind_some]; rw [h2]; simp only; rw [h3]
theorem ahF {pe:Tk->Option (ax×Tk)} {n:Nat} {l:Tk} (h1:pe l=none):lj pe (n+1) l=none:=by rw [lj,h1]; rfl
theorem Xn:∀(ws:List Tx) (i k:Nat) (w:Tx) (l q:Tk),ws[i]? = some w->(∀j v,j<i->ws[j]? = some v->aD v l=none)->aD w l=some q->oK ws k l=some (k+i,q)
 | [],i,k,w,l,q,h,_,_=>by simp at h
 | v::ws,0,k,w,l,q,h,_,hq=>by
   simp at h; subst h;rw [oK,hq]; rfl
 | v::ws,i+1,k,w,l,q,h,hn,hq=>by
   rw [oK,hn 0 v (by omega) rfl];simp only;rw [Xn ws i (k+1) w l q (by simpa using h) (λj u hj hu=>hn (j+1) u (by omega) (by simpa using hu)) hq]
   congr 2
   omega
theorem Xo:∀(ws:List Tx) (k:Nat) (l:Tk),(∀w ∈ ws,aD w l=none)->oK ws k l=none
 | [],_,_,_=>rfl
 | w::ws,k,l,h=>by
   rw [oK,h w (by simp)];exact Xo ws (k+1) l λv hv=>h v (List.mem_cons_of_mem _ hv)
theorem ahG {i:Nat} {w:Tx} (h:opsL[i]? = some w):((opsL.map st).toArray)[i]? = some (st w):=by
 rw [List.getElem?_toArray,List.getElem?_map,h]; rfl
theorem pW:Enters Tryz.prog 182:=enters_of Tryz.func182 (by kernel_rfl) rfl
theorem j_:eS Tryz.prog 218 220 (.agg #[.int .i64 0,.int .i64 0,st [],st [],.slice none 0 0]) 5 72:=gW (by kernel_rfl)
theorem gD:Enters Tryz.prog 143:=enters_of Tryz.func143 (by kernel_rfl) rfl
theorem Xp (gb:Nat) (HT:View) (r:Option Addr×Nat) (l:Tk) (f d:Nat) (w:World) (hE:Oy HT f) (wR:f+d=7) (aE:bL l) (hm:Sl aY 3 HT r.1 r.2 l) (hw:Ws w (List.flatMap ak.ids (aj gb r l)) (aj gb r l) [HT] w) :
   Calls Tryz.prog 184 #[.pointer (some ⟨gb,0,none⟩),.int .i64 (d:Int)] w λe w'=>(∃(xs:List ax) (s:Option Addr×Nat) (r2:Option Addr×Nat) (q:Tk),e = .returned (.slice s.1 xs.length s.2)/\kL (b_ f) l=some (xs,q)/\Sl (eG (f+1)) 5 (nv w w') s.1 s.2 xs/\Sl aY 3 HT r2.1 r2.2 q/\Ws w (List.flatMap ak.ids (aj gb r l)) (aj gb r2 q) [HT] w')\/(∃(r2:Option Addr×Nat) (q:Tk),e = .panicked bz/\kL (b_ f) l=none/\Ws w (List.flatMap ak.ids (aj gb r l)) (aj gb r2 q) [HT] w'):=by
 refine enter Tryz.func184 O 21 O O ?_;refine CE hw (Cs (Cr (V0 (Ya O) (Ln (Et (Cs (Cr (V0 (Ya O) (LW (λ_ h=>h.fB 220 5) ?_)))))))));refine WL.v0 ?_;refine Ln (Et (Cs (Cs (Cr (V0 (Ym O) (Lf 1 O ?_))))));refine Lw [_] _ Y O fV O O _ _ _ [HT] (by simp) (λw hw=>fW gb HT r l [41] w hm hw) ?_;intro ⟨b7,r7,q7⟩ ⟨h7t,h7f,Xq⟩;refine Ln (Et ?_);refine Cc O (λad=>?_) (λad=>?_)
 ·have Xr:=h7t ad;have ok7:=gA aE Xr;refine Cs (Cr (V0 (Ym O) (V0 (Ya O) (Ln (Et (az (Er ?_)))))));refine R1 O O λw' hw=>?_;exact .inl ⟨[],(none,0),r7,q7,O,by rw [kL,Xr],Sl.nil,Xq,Wv 1 (Wt 1 hw)⟩
 obtain ⟨BE,hl7⟩:=h7f ad;subst hl7;refine Ck (Et (Cb ?_));refine cU (ι:=GA) (λg=>[(5,.slice g.a g.es.length g.c)]) [(0,_),(1,_)] (λg=>Ws w (List.flatMap ak.ids (aj gb r l)) (aj gb g.r g.q++[bo 220 5 XE.cells g.a g.c g.es]) [g.J,HT]) (λg=>(g.es.length+g.q.length<=l.length/\bL g.q)/\Sl aY 3 HT g.r.1 g.r.2 g.q/\(eE w g.J/\fY g.J f g.es)/\∃n,g.q.length<n/\kL (b_ f) l=(lj (b_ f) n g.q).map λp=>(g.es.map (·.1)++p.1,p.2)) (λg=>g.q.length) ⟨[],none,0,v0,r7,l⟩ ⟨⟨by simp,aE⟩,Xq,⟨wa w,fY.nil _ _⟩,l.length+1,by simp,by rw [kL,BE]; simp⟩ (sc O (sc O (sc O sn))) (λ_ h=>by have h:=Ws.bw h (a_:=[v0,HT]) (by simp); exact h) ?_;intro g ⟨⟨hlen,kQ⟩,pT,⟨lY,Ez⟩,hA⟩;refine Cb (Cs (Cr (V0 (Ym O) (V0 (Ym O) (V0 (Ym O) ?_)))))
 refine iu (ι:=(ax×(Option Addr×Nat))×(Option Addr×Nat)×Tk) (κ:=(Option Addr×Nat)×Tk) [_] _ Y O pW O O (λi=>.agg #[.int .i64 (i.1.1).op,.int .i64 (i.1.1).n,st (i.1.1).mod,st (i.1.1).nm,.slice i.1.2.1 (i.1.1).args.length i.1.2.2]) (λi=>aj gb i.2.1 i.2.2) (λF i=>b_ f g.q=some (i.1.1,i.2.2)/\Sl (eG f) 5 F i.1.2.1 i.1.2.2 i.1.1.args/\Sl aY 3 HT i.2.1.1 i.2.1.2 i.2.2) (λ_=>bz) (λi=>aj gb i.1 i.2) (λ_=>b_ f g.q=none) ([HT]) (by simp) (λ_ _ h=>h) (λw hw=>(hE gb g.r g.q d w wR kQ pT hw).mono λe w' h=>by
     rcases h with ⟨x,s,r2,q,h1,h2,h3,h4,h5⟩ | ⟨r2,q,h1,h2,h3⟩
     · exact .inl ⟨((x,s),r2,q),h1,⟨h2,h3,h4⟩,h5⟩
     · exact .inr ⟨(r2,q),h1,h2,h3⟩) ?_ ?_
 ·intro ⟨rp,qp⟩ hp;refine Ep (WE.aQ (Ep (WE.aQ ?_)));refine aJ λw' hw=>?_;obtain ⟨n,hn,hA⟩:=hA;obtain ⟨n,rfl⟩:∃k,n=k+1:=⟨n-1,by omega⟩;exact .inr ⟨rp,qp,O,by rw [hA,ahF hp]; rfl,(by have h:=hw; have h:=Wt 1 h; have h:=Ws.bw h (a_:=[HT]) (by simp); exact h)⟩
 intro F12 ⟨⟨I4,wT⟩,uW,eh⟩ Oa ⟨fZ,Xt,wU⟩;have wV:bL eh:=pQ kQ fZ;have atM:eh.length+1<=List.length (g.q):=pR kQ fZ;refine WL.nA λXu Xv Xw Xx=>?_;refine Lb Y O j_ O O O O λjE=>?_;refine bH 0 (.cells (XE.cells (I4,wT.1,wT.2)).toArray 220 (0,0)) O O ?_;refine LA ((I4,wT.1,wT.2):XE) 2 0 Y O j_ O O O O O O (by have:=aE.len; omega) (by have:=aE.len; omega) λXy Xz=>?_;refine V0 (Ya O) (Ln (Et (Cs (Cs (Cr (V0 (Ym O) (Lf 1 O ?_)))))));refine Lw [_] _ Y O fV O O _ _ _ [HT] (by simp) (λw hw=>fW gb HT uW eh [41] w wU hw) ?_;intro ⟨XB,cH,BF⟩ ⟨ahK,ahL,I5⟩;refine Ln (Et ?_);refine Cc O (λar=>?_) (λar=>?_)
 ·have wW:=ahK ar;have I6:=gA wV wW;obtain ⟨n,hn,hA⟩:=hA;obtain ⟨n,rfl⟩:∃k,n=k+1:=⟨n-1,by omega⟩;refine Cs ?_;refine WC.pz (rd:=j8) 2 O (λk hk=>by simp [aj,ab] at hk; subst hk; simp [c_,aj,ab,dw]) XE.a8 (λ_ _ _ _ h=>h) λK6 fK6 hK6=>?_;refine Cr (V0 (Ym O) (V0 (Ya O) (Ln (Et (az (Er (bR (Er (bR ?_)))))))));refine R1 O O λw' hw=>?_;exact .inl ⟨(g.es++[(I4,wT.1,wT.2)]).map (·.1),(Xy,Xz),cH,BF,by rw [List.length_map],by rw [hA,ahC fZ wW]; simp,j9 hK6 (bD hw (by simp) fK6) (bD hw (by simp) (Xx _ Oa lY)) (fY.snoc Ez Xw Xv Xt),I5,Wv 2 (Wt 1 hw)⟩
 obtain ⟨XC,ahO⟩:=ahL ar;subst ahO;obtain ⟨n,hn,hA⟩:=hA;obtain ⟨n,rfl⟩:∃k,n=k+1:=⟨n-1,by omega⟩;refine Ck (Et (Cr (V0 (Ym O) ?_)));refine Lb Y O dn O O O O λEA=>?_;refine fC (T:=9) (m:=1) 0 [[44]] O O (show 1<=1 by decide) (by decide) λOz OA=>?_
 refine bd (ι:=(Option Addr×Nat)×Tk) (κ:=(Option Addr×Nat)×Tk) [_] _ Y O gD O O (λ_=>.tuple #[]) (λi=>aj gb i.1 i.2) (λi=>bN [[44]] eh=some i.2/\Sl aY 3 HT i.1.1 i.1.2 i.2) (λ_=>bz) (λi=>aj gb i.1 i.2) (λ_=>bN [[44]] eh=none) ([HT,Oz]) (by simp) (λw hw=>(gC gb HT cH eh Oz _ _ [[44]] w OA I5 hw).mono λe w' h=>by
     rcases h with ⟨r2,q,h1,h2,h3,h4⟩ | ⟨r2,q,h1,h2,h3⟩
     · exact .inl ⟨(r2,q),h1,⟨h2,h3⟩,h4⟩
     · exact .inr ⟨(r2,q),h1,h2,h3⟩) ?_ ?_
 ·intro ⟨rp,qp⟩ hp;refine WE.aQ (Ep (WE.aQ ?_));refine aJ λw' hw=>?_;exact .inr ⟨rp,qp,O,by rw [hA,ahE fZ XC ((c8 _ _).symm.trans hp)]; rfl,(by have h:=hw; have h:=Wt 1 h; have h:=Ws.bw h (a_:=[HT]) (by simp); exact h)⟩
 intro ⟨OB,wX⟩ ⟨u_,XD⟩;have ahP:=gB wV u_;refine Ln (Eb ?_)
 exact Ea (⟨g.es++[(I4,wT.1,wT.2)],Xy,Xz,Xu,OB,wX⟩:GA) (by have:=Ek u_; simp at this; show wX.length<g.q.length; omega) ⟨⟨by have:=Ek u_; simp at this ⊢; omega,ahP⟩,XD,⟨Xx _ Oa lY,fY.snoc Ez Xw Xv Xt⟩,n,(show wX.length<n by have:=Ek u_; simp at this; omega),by rw [hA,ahD fZ XC ((c8 _ _).symm.trans u_)]; simp [Function.comp_def]⟩ (sc O (sc O (sc O sn))) (λ_ h=>by
     have h:=h.ao 2 rfl;have h:=h.ao 1 rfl;have h:=Wt 2 h;have h:=Ws.bw h (a_:=[Xu,HT]) (by simp)
     exact h)
theorem ahQ {pe:Tk->Option (ax×Tk)} {l q:Tk} (h:aD [105,110] l=some q):nM pe l=some (ax.mk 2 0 [] [] [],q):=by unfold nM; rw [show yy=[105,110] from rfl,h]
theorem XF {pe:Tk->Option (ax×Tk)} {l q:Tk} (h1:aD [105,110] l=none) (h:aD [33] l=some q):nM pe l=(pe q).map λx=>(ax.mk 6 0 [] [] [x.1],x.2):=by unfold nM; rw [show yy=[105,110] from rfl,h1]; simp only; rw [h]
theorem XG {pe:Tk->Option (ax×Tk)} {l q:Tk} (h1:aD [105,110] l=none) (h2:aD [33] l=none) (h:aD [40] l=some q):nM pe l=mJ pe q:=by unfold nM; rw [show yy=[105,110] from rfl,h1]; simp only; rw [h2]; simp only; rw [h]
theorem yU {pe:Tk->Option (ax×Tk)} {l:Tk} (h1:aD [105,110] l=none) (h2:aD [33] l=none) (h:aD [40] l=none):nM pe l=(kK l).bind λp=>pM pe p.1.1 p.1.2 p.2:=by unfold nM; rw [show yy=[105,110] from rfl,h1]; simp only; rw [h2]; simp only; rw [h]
theorem OC {pe:Tk->Option (ax×Tk)} {mod nm:Tx} {l q:Tk} (h:aD [91] l=some q):pM pe mod nm l=(pe q).bind λx=>(aD [93] x.2).map λr=>(ax.mk 4 0 mod nm [x.1],r):=by unfold pM; rw [h]
theorem XH {pe:Tk->Option (ax×Tk)} {mod nm:Tx} {l q:Tk} (h1:aD [91] l=none) (h:aD [40] l=some q):pM pe mod nm l=(kL pe q).map λq=>(ax.mk 5 0 mod nm q.1,q.2):=by unfold pM; rw [h1]; simp only; rw [h]
theorem ahR {pe:Tk->Option (ax×Tk)} {mod nm:Tx} {l:Tk} (h1:aD [91] l=none) (h:aD [40] l=none):pM pe mod nm l=some (ax.mk 3 0 mod nm [],l):=by unfold pM; rw [h1]; simp only; rw [h]
theorem ahS {f d:Nat} {l:Tk} (hf:f+d=7) (h:6<d\/l=[]):b_ f l=none:=by
 rcases h with h | rfl
 · obtain rfl:f=0:=by omega
   rfl
 · cases f<;>rfl
theorem ahT {f:Nat} {t:Tok} {r:Tk} (h:t.kind=2):b_ (f+1) (t::r)=some (ax.mk 1 t.n [] [] [],r):=by rw [b_,if_pos h]
theorem ahU {f:Nat} {t:Tok} {r:Tk} (h:¬t.kind=2):b_ (f+1) (t::r)=nM (b_ f) (t::r):=by rw [b_,if_neg h]
theorem XJ {t:Tok} {r:Tk} (h:t.kind=2):jU (t::r)=some (t.n,r):=by simp [jU,lh,h]
theorem ahV:Enters Tryz.prog 201:=enters_of Tryz.func201 (by kernel_rfl) rfl
theorem ahW:HM Tryz.prog 314=some 9:=by kernel_rfl
theorem nT:eR Tryz.prog 220=some [(0,1),(1,1),(2,1),(3,1),(4,1)]:=by kernel_rfl
theorem OD:Enters Tryz.prog 171:=enters_of Tryz.func171 (by kernel_rfl) rfl
theorem ahX:Enters Tryz.prog 193:=enters_of Tryz.func193 (by kernel_rfl) rfl
theorem XL:Enters Tryz.prog 183:=enters_of Tryz.func183 (by kernel_rfl) rfl
theorem sW:cq Tryz.prog 218=some 1:=by kernel_rfl
theorem XQ:Enters Tryz.prog 184:=enters_of Tryz.func184 (by kernel_rfl) rfl
theorem ahY (gb:Nat) (HT:View) (r:Option Addr×Nat) (l:Tk) (f d:Nat) (w:World) (hE:Oy HT f) (wR:f+d=7) (aE:bL l) (hm:Sl aY 3 HT r.1 r.2 l) (hw:Ws w (List.flatMap ak.ids (aj gb r l)) (aj gb r l) [HT] w) :
   Calls Tryz.prog 193 #[.pointer (some ⟨gb,0,none⟩),.int .i64 (d:Int)] w λe w'=>(∃(x:ax) (s:Option Addr×Nat) (r2:Option Addr×Nat) (q:Tk),e = .returned (.agg #[.int .i64 (x).op,.int .i64 (x).n,st (x).mod,st (x).nm,.slice s.1 (x).args.length s.2])/\mJ (b_ f) l=some (x,q)/\Sl (eG (f+1)) 5 (nv w w') s.1 s.2 x.args/\Sl aY 3 HT r2.1 r2.2 q/\Ws w (List.flatMap ak.ids (aj gb r l)) (aj gb r2 q) [HT] w')\/(∃(r2:Option Addr×Nat) (q:Tk),e = .panicked bz/\mJ (b_ f) l=none/\Ws w (List.flatMap ak.ids (aj gb r l)) (aj gb r2 q) [HT] w'):=by
 refine enter Tryz.func193 O 35 O O ?_;refine CE hw (Cs (Cr ?_));refine Al Y O iy λb4=>?_;refine bH 0 (.cells (x_ (ax.mk 0 0 [] [] []) none 0).toArray 220 (0,0)) O O (Ln (Et (Cs (Cr (V0 (Ym O) (V0 (Ym O) (Lf 1 O ?_)))))))
 refine iu (ι:=(ax×(Option Addr×Nat))×(Option Addr×Nat)×Tk) (κ:=(Option Addr×Nat)×Tk) [_] _ Y O pW O O (λi=>.agg #[.int .i64 (i.1.1).op,.int .i64 (i.1.1).n,st (i.1.1).mod,st (i.1.1).nm,.slice i.1.2.1 (i.1.1).args.length i.1.2.2]) (λi=>aj gb i.2.1 i.2.2) (λF i=>b_ f l=some (i.1.1,i.2.2)/\Sl (eG f) 5 F i.1.2.1 i.1.2.2 i.1.1.args/\Sl aY 3 HT i.2.1.1 i.2.1.2 i.2.2) (λ_=>bz) (λi=>aj gb i.1 i.2) (λ_=>b_ f l=none) ([HT]) (by simp) (λ_ _ h=>h) (λw hw=>(hE gb r l d w wR aE hm hw).mono λe w' h=>by
     rcases h with ⟨x,s,r2,q,h1,h2,h3,h4,h5⟩ | ⟨r2,q,h1,h2,h3⟩
     · exact .inl ⟨((x,s),r2,q),h1,⟨h2,h3,h4⟩,h5⟩
     · exact .inr ⟨(r2,q),h1,h2,h3⟩) ?_ ?_
 ·intro ⟨rp,qp⟩ hp;refine Ep ?_;refine aJ λw' hw=>?_;exact .inr ⟨rp,qp,O,by rw [mJ,hp]; rfl,(by have h:=hw; have h:=Wt 1 h; exact h)⟩
 intro F11 ⟨⟨OE,pV⟩,Ew,kP⟩ ah0 ⟨iS,ah1,Ey⟩;have I2:bL kP:=pQ aE iS;have atN:kP.length+1<=List.length (l):=pR aE iS;refine Al Y O iy λb5=>?_;refine an 0 Y O O O mN O O O (Ln (Et (Cs (Cs (Cr (Lp Y O ahV O (λw hw=>aho w) (V0 (Ym O) (Ln (Et (Cb ?_))))))))));refine cU (ι:=Nat×(Option Addr×Nat)) (λg=>[(13,.int .i64 (g.1:Int))]) [(0,_),(1,_),(4,_),(5,_),(12,_)] (λg=>Ws w (List.flatMap ak.ids (aj gb r l)) (aj gb g.2 kP++[ab b5 (.cells (XE.cells (OE,pV.1,pV.2)).toArray 220 (0,0)),ab b4 (.cells (x_ (ax.mk 0 0 [] [] []) none 0).toArray 220 (0,0))]) [F11,HT]) (λg=>g.1<=9/\(∀j v,j<g.1->opsL[j]? = some v->aD v kP=none)/\Sl aY 3 HT g.2.1 g.2.2 kP) (λg=>9-g.1) (0,Ew) ⟨Nat.zero_le _,by simp,Ey⟩ (sc O (sc O (sc O (sc O (sc O (sc O sn)))))) (λ_ h=>(((h.f 2 O).f 1 O).f 2 O:)) ?_;intro g ⟨hi,cg,pT⟩;refine Cs (Cr (V0 (bq O O) (Ln (Et (Cs ?_)))));refine Cc O (λad=>?_) (λad=>?_)
 ·have aw:g.1<9:=by simp at ad; omega
  obtain ⟨o,dD⟩:∃o,opsL[g.1]? = some o:=⟨_,List.getElem?_eq_getElem (by show g.1<9; exact aw)⟩;refine Ck (Et (Cs (Cb (Cs (Cr (V0 (Ym O) (V0 (TL (i:=g.1) ahW O O aw (ahG dD)) (V0 (Ya O) (V0 (Ya O) (Ln (Et (Cs (Cr (V0 (Ym O) (V0 (Ym O) ?_)))))))))))))));refine Lw [_] _ Y O fV O O _ _ _ [HT] (by simp) (λw hw=>fW gb HT g.2 kP o w pT hw) ?_;intro ⟨EA,oO,jF⟩ ⟨ah2,ah3,BG⟩;refine Ln (Et ?_);refine Cc O (λar=>?_) (λar=>?_)
  ·have pX:=ah2 ar;have yV:=gA I2 pX
   have fL:oK opsL 0 kP=some (g.1,jF):=by rw [Xn opsL g.1 0 o kP jF dD cg pX,Nat.zero_add]
   refine Cs (Cr (V0 (Ym O) (V0 (Ym O) ?_)))
   refine iu (ι:=(ax×(Option Addr×Nat))×(Option Addr×Nat)×Tk) (κ:=(Option Addr×Nat)×Tk) [_] _ Y O pW O O (λi=>.agg #[.int .i64 (i.1.1).op,.int .i64 (i.1.1).n,st (i.1.1).mod,st (i.1.1).nm,.slice i.1.2.1 (i.1.1).args.length i.1.2.2]) (λi=>aj gb i.2.1 i.2.2) (λF i=>b_ f jF=some (i.1.1,i.2.2)/\Sl (eG f) 5 F i.1.2.1 i.1.2.2 i.1.1.args/\Sl aY 3 HT i.2.1.1 i.2.1.2 i.2.2) (λ_=>bz) (λi=>aj gb i.1 i.2) (λ_=>b_ f jF=none) ([HT]) (by simp) (λ_ _ h=>h) (λw hw=>(hE gb oO jF d w wR yV BG hw).mono λe w' h=>by
       rcases h with ⟨x,s,r2,q,h1,h2,h3,h4,h5⟩ | ⟨r2,q,h1,h2,h3⟩
       · exact .inl ⟨((x,s),r2,q),h1,⟨h2,h3,h4⟩,h5⟩
       · exact .inr ⟨(r2,q),h1,h2,h3⟩) ?_ ?_
   ·intro ⟨rp,qp⟩ hp;refine Ep (WE.aQ (Ep (Ep (WE.aQ (Ep ?_)))));refine aJ λw' hw=>?_;exact .inr ⟨rp,qp,O,by rw [mJ,iS]; simp only [Option.bind_some]; rw [fL]; simp only [Option.bind_some]; rw [hp]; rfl,(by have h:=hw; have h:=Wt 1 h; have h:=Ws.bw h (a_:=[HT]) (by simp); exact h)⟩
   intro F22 ⟨⟨XR,XS⟩,OF,mQ⟩ ah4 ⟨pY,ah5,OG⟩;have BH:bL mQ:=pQ yV pY;have atP:mQ.length+1<=List.length (jF):=pR yV pY;refine WL.nA λJ22 ah7 ah8 ah9=>?_;refine Al Y O iy λb8=>?_;refine an 0 Y O O O mN O O O (Ln (Et (Cs (Cr (V0 (Ym O) ?_)))));refine Lb Y O dn O O O O λEB=>?_;refine fC (T:=9) (m:=1) 0 [[41]] O O (show 1<=1 by decide) (by decide) λBI EC=>?_;refine Lf 1 O ?_
   refine bd (ι:=(Option Addr×Nat)×Tk) (κ:=(Option Addr×Nat)×Tk) [_] _ Y O gD O O (λ_=>.tuple #[]) (λi=>aj gb i.1 i.2) (λi=>bN [[41]] mQ=some i.2/\Sl aY 3 HT i.1.1 i.1.2 i.2) (λ_=>bz) (λi=>aj gb i.1 i.2) (λ_=>bN [[41]] mQ=none) ([HT,BI]) (by simp) (λw hw=>(gC gb HT OF mQ BI _ _ [[41]] w EC OG hw).mono λe w' h=>by
       rcases h with ⟨r2,q,h1,h2,h3,h4⟩ | ⟨r2,q,h1,h2,h3⟩
       · exact .inl ⟨(r2,q),h1,⟨h2,h3⟩,h4⟩
       · exact .inr ⟨(r2,q),h1,h2,h3⟩) ?_ ?_
   ·intro ⟨rp,qp⟩ hp;refine Ep (WE.aQ (Ep (Ep (WE.aQ (Ep ?_)))));refine aJ λw' hw=>?_;exact .inr ⟨rp,qp,O,by rw [mJ,iS]; simp only [Option.bind_some]; rw [fL]; simp only [Option.bind_some]; rw [pY]; simp only [Option.bind_some]; rw [<-c8,hp]; rfl,(by have h:=hw; have h:=Wt 1 h; have h:=Ws.bw h (a_:=[HT]) (by simp); exact h)⟩
   intro ⟨I7,yW⟩ ⟨yX,I8⟩;have XT:=gB BH yX;refine Ln (Et (Cs (Cr (V0 (Ym O) (V0 (Ht ((7:Int)+(g.1:Int)) O O O (by omega)) (V0 (bA 2 O O jD O) (V0 (bA 1 O O jD O) ?_)))))));refine Lb Y O j_ O O O O λOH=>?_;refine LN (rd:=j8) (f:=XE.cells) (m:=2) 0 [(OE,pV.1,pV.2),(XR,XS.1,XS.2)] O O (λk hk=>by simp [aj,ab] at hk; subst hk; simp [c_,aj,ab,dw]) XE.a8 (λ_ _ _ _ h=>h) (show 2<=2 by decide) (by decide) λH30 ah' ah_=>?_;refine V0 (Yb iy nT O O) (an 3 Y O O O mN O O O (Ln (Et (az (bR (Er (Er (bR (Er ?_)))))))));refine WE.dJ (gd O (cS 3 O O jD O)) λw' hw=>?_;exact .inl ⟨ax.mk (7+(g.1:Int)) 0 [] [] [OE,XR],(some ⟨OH,0,none⟩,2),I7,yW,O,by rw [mJ,iS]; simp only [Option.bind_some]; rw [fL]; simp only [Option.bind_some]; rw [pY]; simp only [Option.bind_some]; rw [<-c8,yX]; rfl,j9 ah_ (bD hw (by simp) ah') (bD hw (by simp) (ah9 _ ah4 ah0)) (((fY.nil J22 f).snoc (aL.refl _) ah8 ah1).snoc (aL.refl _) ah7 ah5),I8,Wv 3 (Wt 1 hw)⟩
  obtain ⟨aia,aib⟩:=ah3 ar;subst aib;refine Ck (Eb (Et (Cr (V0 (Yi O O O (by omega)) (V0 (Ym O) (Ln ?_))))))
  exact Ea ((g.1+1,oO):Nat×(Option Addr×Nat)) (by show 9-(g.1+1)<9-g.1; omega) ⟨by show g.1+1<=9; omega,λj v hj hv=>by
      rcases Nat.lt_succ_iff_lt_or_eq.1 hj with h | rfl
      · exact cg j v h hv
      · rw [dD] at hv; injection hv with hv; subst hv; exact aia,BG⟩ (sc rfl (sc rfl (sc rfl (sc rfl (sc rfl (sc rfl sn)))))) (λ_ h=>h)
 have cz:¬g.1<9:=by simp at ad; omega
 have aic:oK opsL 0 kP=none:=Xo _ _ _ λv hv=>by
   obtain ⟨j,hj⟩:=List.getElem?_of_mem hv;exact cg j v (by have:=(List.getElem?_eq_some_iff.1 hj).1; have:opsL.length=9:=rfl; omega) hj
 refine Ce (Ex (Ex (cf (Et (Cr (V0 (Yb u7 u6 O O) (V0 (qE u9 O) ?_)))))));refine WL.panic Y O ?_;refine aJ λw' hw=>?_;exact .inr ⟨g.2,kP,O,by rw [mJ,iS]; simp only [Option.bind_some]; rw [aic]; rfl,(by have h:=hw; have h:=Wt 1 h; have h:=Ws.bw h (a_:=[HT]) (by simp); exact h)⟩
theorem wY (HT:View) (f:Nat) (gb:Nat) (r:Option Addr×Nat) (l:Tk) (d:Nat) (w:World) (wR:f+d=7) (aE:bL l) (hm:Sl aY 3 HT r.1 r.2 l) (hw:Ws w (List.flatMap ak.ids (aj gb r l)) (aj gb r l) [HT] w) :
   Calls Tryz.prog 182 #[.pointer (some ⟨gb,0,none⟩),.int .i64 (d:Int)] w λe w'=>(∃(x:ax) (s:Option Addr×Nat) (r2:Option Addr×Nat) (q:Tk),e = .returned (.agg #[.int .i64 (x).op,.int .i64 (x).n,st (x).mod,st (x).nm,.slice s.1 (x).args.length s.2])/\b_ f l=some (x,q)/\Sl (eG f) 5 (nv w w') s.1 s.2 x.args/\Sl aY 3 HT r2.1 r2.2 q/\Ws w (List.flatMap ak.ids (aj gb r l)) (aj gb r2 q) [HT] w')\/(∃(r2:Option Addr×Nat) (q:Tk),e = .panicked bz/\b_ f l=none/\Ws w (List.flatMap ak.ids (aj gb r l)) (aj gb r2 q) [HT] w'):=by
 induction f using Nat.strongRecOn generalizing gb r l d w
 rename_i f ih;have dQ:=hm.cap;have eB:=hm.max;refine enter Tryz.func182 O 83 O O ?_;refine CE hw (Cs (Cr ?_));refine Al Y O iy λb4=>?_;refine bH 0 (.cells (x_ (ax.mk 0 0 [] [] []) none 0).toArray 220 (0,0)) O O (Ln (Et (Cs (Cs (Cr (V0 (Ym O) (V0 (bZ O O) (V0 (Ym O) ?_))))))));apply Lo 6 O O O O Y O O O O O
 ·intro de;refine Vg (Ym O) (Vg (aO O) (Vg (Yf pS O) (Vg (Yd 1 O O O sV) (Vg (Yn sU O) (Vg (aG O O) ?_)))));exact Gt 6 O O O
 refine Ln (Et ?_);refine Cc O (λad=>?_) (λad=>?_)
 ·have gK:b_ f l=none:=ahS wR (by
    simp at ad
    rcases ad with h | h
    · left; omega
    · right; exact h)
  refine Cr (V0 (Yb u7 u6 O O) (V0 (qE u9 O) ?_));refine WL.panic Y O ?_;refine Ep ?_;refine aJ λw' hw=>?_;exact .inr ⟨r,l,O,gK,(by have h:=hw; have h:=h.ao 1 O; have h:=Wt 1 h; exact h)⟩
 have XV:¬6<d:=by
   intro h
   have h2:(6:Int)<(d:Int):=by omega
   simp [h2] at ad
 obtain ⟨f,rfl⟩:∃k,f=k+1:=⟨f-1,by omega⟩
 obtain ⟨t0,r0,rfl⟩:∃t r,l=t::r:=by
   cases l with
   | nil=>simp at ad
   | cons t r=>exact ⟨t,r,rfl⟩
 obtain ⟨yR,yS,oA,mP⟩:=hm.aZ 0 t0 rfl;have mP:aT HT yR (yS+0*3) t0.cells:=mP;have hE:Oy HT f:=λgb r l d w h1 h2 h3 h4=>ih f (by omega) gb r l d w h1 h2 h3 h4;refine Ck (Et (Cs (Cb (Cs (Cr (V0 (Ym O) (V0 (aO O) (V0 (Yf pS O) (V0 (Yd 1 O O O sV) (V0 (Yo (i:=0) sU O O oA (by simp)) (V0 (Yf Xh O) (V0 (dm 0 aq O O (mP 0 _ O)) ?_))))))))))));refine V0 (aG O O) (V0 (Ya O) (Ln (Et ?_)));refine Cc O (λar=>?_) (λar=>?_)
 ·have hk:t0.kind=2:=by simpa using ar
  refine Cs (Cr (V0 (Ym O) (Lf 1 O ?_)))
  refine bd (ι:=(Int)×(Option Addr×Nat)×Tk) (κ:=(Option Addr×Nat)×Tk) [_] _ Y O OD O O (λi=>.int .i64 i.1) (λi=>aj gb i.2.1 i.2.2) (λi=>jU (t0::r0)=some (i.1,i.2.2)/\Sl aY 3 HT i.2.1.1 i.2.1.2 i.2.2) (λ_=>bz) (λi=>aj gb i.1 i.2) (λ_=>jU (t0::r0)=none) ([HT]) (by simp) (λw hw=>(Ow gb HT r (t0::r0) w hm hw).mono λe w' h=>by
      rcases h with ⟨t,r2,q,h1,h2,h3,h4⟩ | ⟨r2,q,h1,h2,h3⟩
      · exact .inl ⟨(t,r2,q),h1,⟨h2,h3⟩,h4⟩
      · exact .inr ⟨(r2,q),h1,h2,h3⟩) ?_ ?_
  ·intro ⟨rp,qp⟩ hp;refine Ep (WE.aQ (Ep ?_));refine aJ λw' hw=>?_;rw [XJ hk] at hp;cases hp
  intro ⟨n30,r30,q30⟩ ⟨yY,aie⟩;have atT:=Ov aE yY;refine V0 (Yb iy nT O O) ?_;rw [XJ hk] at yY
  injection yY with yY
  injection yY with ED yY
  subst ED;subst yY;refine an 1 Y O O O mN O O O (Ln (Et (az (bR (Er ?_)))));refine WE.dJ (gd O (cS 1 O O jD O)) λw' hw=>?_;exact .inl ⟨ax.mk 1 t0.n [] [] [],(none,0),r30,r0,O,ahT hk,Sl.nil,aie,Wt 1 hw⟩
 have hk:¬t0.kind=2:=by simpa using ar
 have hR:=ahU (f:=f) (r:=r0) hk;refine Cs (Cr (V0 (Ym O) (Lf 1 O ?_)));refine Lw [_] _ Y O fV O O _ _ _ [HT] (by simp) (λw hw=>fW gb HT r (t0::r0) [105,110] w hm hw) ?_;intro ⟨b34,EG,yZ⟩ ⟨aif,aih,I9⟩;refine V0 (Ya O) (Ln (Et ?_));refine Cc O (λay=>?_) (λay=>?_)
 ·have va:=aif ay;have XW:=gA aE va;refine Cs (Cr (V0 (Yb iy nT O O) (an 1 Y O O O mN O O O (Ln (Et (az (bR (Er ?_))))))));refine WE.dJ (gd O (cS 1 O O jD O)) λw' hw=>?_;exact .inl ⟨ax.mk 2 0 [] [] [],(none,0),EG,yZ,O,by rw [hR,ahQ va],Sl.nil,I9,Wt 1 hw⟩
 obtain ⟨rr,aii⟩:=aih ay;subst aii;refine Cs (Cr (V0 (Ym O) ?_));refine Lw [_] _ Y O fV O O _ _ _ [HT] (by simp) (λw hw=>fW gb HT EG (t0::r0) [33] w I9 hw) ?_;intro ⟨vd,XX,I'⟩ ⟨aij,aik,I_⟩;refine V0 (Ya O) (Ln (Et ?_));refine Cc O (λaM=>?_) (λaM=>?_)
 ·have OI:=aij aM;have OJ:=gA aE OI;refine Cs (Cr (V0 (Ym O) (V0 (Ym O) (V0 (Yi O O O (by omega)) ?_))))
  refine iu (ι:=(ax×(Option Addr×Nat))×(Option Addr×Nat)×Tk) (κ:=(Option Addr×Nat)×Tk) [_] _ Y O pW O O (λi=>.agg #[.int .i64 (i.1.1).op,.int .i64 (i.1.1).n,st (i.1.1).mod,st (i.1.1).nm,.slice i.1.2.1 (i.1.1).args.length i.1.2.2]) (λi=>aj gb i.2.1 i.2.2) (λF i=>b_ f I'=some (i.1.1,i.2.2)/\Sl (eG f) 5 F i.1.2.1 i.1.2.2 i.1.1.args/\Sl aY 3 HT i.2.1.1 i.2.1.2 i.2.2) (λ_=>bz) (λi=>aj gb i.1 i.2) (λ_=>b_ f I'=none) ([HT]) (by simp) (λ_ _ h=>h) (λw hw=>(hE gb XX I' (d+1) w (by omega) OJ I_ hw).mono λe w' h=>by
      rcases h with ⟨x,s,r2,q,h1,h2,h3,h4,h5⟩ | ⟨r2,q,h1,h2,h3⟩
      · exact .inl ⟨((x,s),r2,q),h1,⟨h2,h3,h4⟩,h5⟩
      · exact .inr ⟨(r2,q),h1,h2,h3⟩) ?_ ?_
  ·intro ⟨rp,qp⟩ hp;refine Ep (WE.aQ (Ep ?_));refine aJ λw' hw=>?_;exact .inr ⟨rp,qp,O,by rw [hR,XF rr OI,hp]; rfl,(by have h:=hw; have h:=Wt 1 h; exact h)⟩
  intro F42 ⟨⟨XY,XZ⟩,r42,OK⟩ ain ⟨OL,aio,aip⟩;have atV:bL OK:=pQ OJ OL;have atW:OK.length+1<=List.length (I'):=pR OJ OL;refine Lb Y O j_ O O O O λfu=>?_;refine LN (rd:=j8) (f:=XE.cells) (m:=1) 0 [(XY,XZ.1,XZ.2)] O O (λk hk=>by simp [aj,ab] at hk; subst hk; simp [c_,aj,ab,dw]) XE.a8 (λ_ _ _ _ h=>h) (show 1<=1 by decide) (by decide) λH43 aiq air=>?_;refine V0 (Yb iy nT O O) (an 1 Y O O O mN O O O (Ln (Et (az (bR (Er ?_))))));refine WE.dJ (gd O (cS 1 O O jD O)) λw' hw=>?_;exact .inl ⟨ax.mk 6 0 [] [] [XY],(some ⟨fu,0,none⟩,1),r42,OK,O,by rw [hR,XF rr OI,OL]; rfl,j9 air (bD hw (by simp) aiq) (bD hw (by simp) ain) ((fY.nil F42 f).snoc (aL.refl _) (aL.refl _) aio),aip,Wv 2 (Wt 1 hw)⟩
 obtain ⟨ve,ais⟩:=aik aM;subst ais;refine Cs (Cr (V0 (Ym O) ?_));refine Lw [_] _ Y O fV O O _ _ _ [HT] (by simp) (λw hw=>fW gb HT XX (t0::r0) [40] w I_ hw) ?_;intro ⟨wZ,w_,ie⟩ ⟨OM,ON,vf⟩;refine V0 (Ya O) (Ln (Et ?_));refine Cc O (λaW=>?_) (λaW=>?_)
 ·have kR:=OM aW;have sX:=gA aE kR;refine Cs (Cr (V0 (Ym O) (V0 (Ym O) (V0 (Yi O O O (by omega)) ?_))))
  refine iu (ι:=((ax)×(Option Addr×Nat))×(Option Addr×Nat)×Tk) (κ:=(Option Addr×Nat)×Tk) [_] _ Y O ahX O O (λi=>.agg #[.int .i64 (i.1.1).op,.int .i64 (i.1.1).n,st (i.1.1).mod,st (i.1.1).nm,.slice i.1.2.1 (i.1.1).args.length i.1.2.2]) (λi=>aj gb i.2.1 i.2.2) (λF i=>mJ (b_ f) ie=some (i.1.1,i.2.2)/\Sl (eG (f+1)) 5 F i.1.2.1 i.1.2.2 i.1.1.args/\Sl aY 3 HT i.2.1.1 i.2.1.2 i.2.2) (λ_=>bz) (λi=>aj gb i.1 i.2) (λ_=>mJ (b_ f) ie=none) ([HT]) (by simp) (λ_ _ h=>h) (λw hw=>(ahY gb HT w_ ie f (d+1) w hE (by omega) sX vf hw).mono λe w' h=>by
      rcases h with ⟨x,s,r2,q,h1,h2,h3,h4,h5⟩ | ⟨r2,q,h1,h2,h3⟩
      · exact .inl ⟨((x,s),r2,q),h1,⟨h2,h3,h4⟩,h5⟩
      · exact .inr ⟨(r2,q),h1,h2,h3⟩) ?_ ?_
  ·intro ⟨rp,qp⟩ hp;refine Ep (WE.aQ (Ep ?_));refine aJ λw' hw=>?_;exact .inr ⟨rp,qp,O,by rw [hR,XG rr ve kR,hp],(by have h:=hw; have h:=Wt 1 h; exact h)⟩
  intro F51 ⟨⟨x51,s51⟩,dT,q51⟩ aiw ⟨aix,aiy,aiz⟩;refine an 1 Y O O O mN O O O (Ln (Et (az (bR (Er ?_)))));refine WE.dJ (gd O (cS 1 O O jD O)) λw' hw=>?_;exact .inl ⟨x51,s51,dT,q51,O,by rw [hR,XG rr ve kR,aix],I3 aiy (bD hw (by simp) aiw),aiz,Wv 1 (Wt 1 hw)⟩
 obtain ⟨vg,OO⟩:=ON aW;subst OO;refine Ck (Eb (Et (Cs (Cr (V0 (Ym O) ?_)))))
 refine bd (ι:=(Tx×Tx)×(Option Addr×Nat)×Tk) (κ:=(Option Addr×Nat)×Tk) [_] _ Y O XL O O (λi=>.tuple #[st i.1.1,st i.1.2]) (λi=>aj gb i.2.1 i.2.2) (λi=>kK (t0::r0)=some (i.1,i.2.2)/\Sl aY 3 HT i.2.1.1 i.2.1.2 i.2.2) (λ_=>bz) (λi=>aj gb i.1 i.2) (λ_=>kK (t0::r0)=none) ([HT]) (by simp) (λw hw=>(Xm gb HT w_ (t0::r0) w aE vf hw).mono λe w' h=>by
     rcases h with ⟨t,r2,q,h1,h2,h3,h4⟩ | ⟨r2,q,h1,h2,h3⟩
     · exact .inl ⟨(t,r2,q),h1,⟨h2,h3⟩,h4⟩
     · exact .inr ⟨(r2,q),h1,h2,h3⟩) ?_ ?_
 ·intro ⟨rp,qp⟩ hp;refine Ep ?_;refine aJ λw' hw=>?_;exact .inr ⟨rp,qp,O,by rw [hR,yU rr ve vg,hp]; rfl,(by have h:=hw; have h:=Wt 1 h; exact h)⟩
 intro ⟨BJ,OP,y7⟩ ⟨oP,OQ⟩;have Ja:=Xf aE oP;refine V0 (Ym O) (V0 (Yx O O) (V0 (Yx O O) (V0 (Ya O) (V0 (Ya O) (Ln (Et (Cs (Cr (V0 (Ym O) (V0 (Ym O) ?_))))))))));refine V0 (Yb iy nT O O) ?_;refine Al Y O iy λb7=>?_;refine an 0 Y O O O mN O O O (Ln (Et (Cs (Cb (Cs (Cr (V0 (Ym O) (Lf 1 O ?_))))))));refine Lw [_] _ Y O fV O O _ _ _ [HT] (by simp) (λw hw=>fW gb HT OP y7 [91] w OQ hw) ?_;intro ⟨Oq,OR,Jb⟩ ⟨aiA,aiB,Jc⟩;refine V0 (Ya O) (Ln (Et ?_));refine Cc O (λbl=>?_) (λbl=>?_)
 ·have BK:=aiA bl;have OS:=gA Ja BK;refine Cs (Cr (V0 (Ym O) (V0 (Ym O) (V0 (Yi O O O (by omega)) ?_))))
  refine iu (ι:=(ax×(Option Addr×Nat))×(Option Addr×Nat)×Tk) (κ:=(Option Addr×Nat)×Tk) [_] _ Y O pW O O (λi=>.agg #[.int .i64 (i.1.1).op,.int .i64 (i.1.1).n,st (i.1.1).mod,st (i.1.1).nm,.slice i.1.2.1 (i.1.1).args.length i.1.2.2]) (λi=>aj gb i.2.1 i.2.2) (λF i=>b_ f Jb=some (i.1.1,i.2.2)/\Sl (eG f) 5 F i.1.2.1 i.1.2.2 i.1.1.args/\Sl aY 3 HT i.2.1.1 i.2.1.2 i.2.2) (λ_=>bz) (λi=>aj gb i.1 i.2) (λ_=>b_ f Jb=none) ([HT]) (by simp) (λ_ _ h=>h) (λw hw=>(hE gb OR Jb (d+1) w (by omega) OS Jc hw).mono λe w' h=>by
      rcases h with ⟨x,s,r2,q,h1,h2,h3,h4,h5⟩ | ⟨r2,q,h1,h2,h3⟩
      · exact .inl ⟨((x,s),r2,q),h1,⟨h2,h3,h4⟩,h5⟩
      · exact .inr ⟨(r2,q),h1,h2,h3⟩) ?_ ?_
  ·intro ⟨rp,qp⟩ hp;refine Ep (WE.aQ (Ep ?_));refine aJ λw' hw=>?_;exact .inr ⟨rp,qp,O,by rw [hR,yU rr ve vg,oP]; simp only [Option.bind_some]; rw [OC BK,hp]; rfl,(by have h:=hw; have h:=Wt 1 h; exact h)⟩
  intro F66 ⟨⟨X0,X1⟩,r66,EH⟩ aiE ⟨Jd,aiF,aiG⟩;have aiH:bL EH:=pQ OS Jd;have atZ:EH.length+1<=List.length (Jb):=pR OS Jd;refine Lb Y O j_ O O O O λJe=>?_;refine LN (rd:=j8) (f:=XE.cells) (m:=1) 0 [(X0,X1.1,X1.2)] O O (λk hk=>by simp [aj,ab] at hk; subst hk; simp [c_,aj,ab,dw]) XE.a8 (λ_ _ _ _ h=>h) (show 1<=1 by decide) (by decide) λX2 aiI OT=>?_;refine V0 (Yf yH O) (an 1 Y O O O bX O O O (V0 (Yf Bq O) (an 1 Y O O O sW O O O (Ln (Et (Cr (V0 (Ym O) ?_)))))));refine Lb Y O dn O O O O λb71=>?_;refine fC (T:=9) (m:=1) 0 [[93]] O O (show 1<=1 by decide) (by decide) λX3 aiJ=>?_
  refine bd (ι:=(Option Addr×Nat)×Tk) (κ:=(Option Addr×Nat)×Tk) [_] _ Y O gD O O (λ_=>.tuple #[]) (λi=>aj gb i.1 i.2) (λi=>bN [[93]] EH=some i.2/\Sl aY 3 HT i.1.1 i.1.2 i.2) (λ_=>bz) (λi=>aj gb i.1 i.2) (λ_=>bN [[93]] EH=none) ([HT,X3]) (by simp) (λw hw=>(gC gb HT r66 EH X3 _ _ [[93]] w aiJ aiG hw).mono λe w' h=>by
      rcases h with ⟨r2,q,h1,h2,h3,h4⟩ | ⟨r2,q,h1,h2,h3⟩
      · exact .inl ⟨(r2,q),h1,⟨h2,h3⟩,h4⟩
      · exact .inr ⟨(r2,q),h1,h2,h3⟩) ?_ ?_
  ·intro ⟨rp,qp⟩ hp;refine WE.aQ (Ep ?_);refine aJ λw' hw=>?_;exact .inr ⟨rp,qp,O,by rw [hR,yU rr ve vg,oP]; simp only [Option.bind_some]; rw [OC BK,Jd]; simp only [Option.bind_some]; rw [<-c8,hp]; rfl,(by have h:=hw; have h:=Wt 1 h; have h:=Ws.bw h (a_:=[HT]) (by simp); exact h)⟩
  intro ⟨Jf,BL⟩ ⟨y8,Jg⟩;have Jh:=gB aiH y8;refine Ln (Eb (Et (Cs (Cr (V0 (bA 1 O O jD O) (an 2 Y O O O mN O O O (Ln (Et (az ?_)))))))));refine WE.dJ (gd O (cS 2 O O jD O)) λw' hw=>?_;exact .inl ⟨ax.mk 4 0 BJ.1 BJ.2 [X0],(some ⟨Je,0,none⟩,1),Jf,BL,O,by rw [hR,yU rr ve vg,oP]; simp only [Option.bind_some]; rw [OC BK,Jd]; simp only [Option.bind_some]; rw [<-c8,y8]; rfl,j9 OT (bD hw (by simp) aiI) (bD hw (by simp) aiE) ((fY.nil F66 f).snoc (aL.refl _) (aL.refl _) aiF),Jg,Wv 3 (Wt 1 hw)⟩
 obtain ⟨OU,aiK⟩:=aiB bl;subst aiK;refine Cs (Cr (V0 (Ym O) ?_));refine Lw [_] _ Y O fV O O _ _ _ [HT] (by simp) (λw hw=>fW gb HT OR y7 [40] w Jc hw) ?_;intro ⟨X4,Ji,OV⟩ ⟨aiL,aiM,X5⟩;refine V0 (Ya O) (Ln (Et ?_));refine Cc O (λbt=>?_) (λbt=>?_)
 ·have OW:=aiL bt;have aiN:=gA Ja OW;refine Cr (V0 (Ym O) (V0 (Ym O) (V0 (Yi O O O (by omega)) ?_)))
  refine iu (ι:=((List ax)×(Option Addr×Nat))×(Option Addr×Nat)×Tk) (κ:=(Option Addr×Nat)×Tk) [_] _ Y O XQ O O (λi=>.slice i.1.2.1 i.1.1.length i.1.2.2) (λi=>aj gb i.2.1 i.2.2) (λF i=>kL (b_ f) OV=some (i.1.1,i.2.2)/\Sl (eG (f+1)) 5 F i.1.2.1 i.1.2.2 i.1.1/\Sl aY 3 HT i.2.1.1 i.2.1.2 i.2.2) (λ_=>bz) (λi=>aj gb i.1 i.2) (λ_=>kL (b_ f) OV=none) ([HT]) (by simp) (λ_ _ h=>h) (λw hw=>(Xp gb HT Ji OV f (d+1) w hE (by omega) aiN X5 hw).mono λe w' h=>by
      rcases h with ⟨x,s,r2,q,h1,h2,h3,h4,h5⟩ | ⟨r2,q,h1,h2,h3⟩
      · exact .inl ⟨((x,s),r2,q),h1,⟨h2,h3,h4⟩,h5⟩
      · exact .inr ⟨(r2,q),h1,h2,h3⟩) ?_ ?_
  ·intro ⟨rp,qp⟩ hp;refine WE.aQ (Ep ?_);refine aJ λw' hw=>?_;exact .inr ⟨rp,qp,O,by rw [hR,yU rr ve vg,oP]; simp only [Option.bind_some]; rw [XH OU OW,hp]; rfl,(by have h:=hw; have h:=Wt 1 h; exact h)⟩
  intro F79 ⟨⟨aiO,s79⟩,r79,Jj⟩ aiR ⟨aiS,aiT,aiU⟩;refine V0 (Yf yH O) (an 1 Y O O O bX O O O (V0 (Yf Bq O) (an 1 Y O O O sW O O O (Ln (Eb (Et (Cs (Cr (V0 (bA 1 O O jD O) (an 2 Y O O O mN O O O (Ln (Et (az ?_)))))))))))));refine WE.dJ (gd O (cS 2 O O jD O)) λw' hw=>?_;exact .inl ⟨ax.mk 5 0 BJ.1 BJ.2 aiO,s79,r79,Jj,O,by rw [hR,yU rr ve vg,oP]; simp only [Option.bind_some]; rw [XH OU OW,aiS]; rfl,I3 aiT (bD hw (by simp) aiR),aiU,Wv 1 (Wt 1 hw)⟩
 obtain ⟨aiV,aiW⟩:=aiM bt;subst aiW;refine Ck (Eb (Et (Cs (Cr (V0 (bA 1 O O jD O) (an 2 Y O O O mN O O O (Ln (Et (az ?_)))))))));refine WE.dJ (gd O (cS 2 O O jD O)) λw' hw=>?_;exact .inl ⟨ax.mk 3 0 BJ.1 BJ.2 [],(none,0),Ji,y7,O,by rw [hR,yU rr ve vg,oP]; simp only [Option.bind_some]; rw [ahR OU aiV],Sl.nil,X5,Wt 1 hw⟩
structure sY where
 s1:Option Addr×Nat
 s2:Option Addr×Nat
 s3:Option Addr×Nat
abbrev SX:=aP×sY
def SX.cells (e:SX):List Value:=yb e.1 e.2.s1.1 e.2.s1.2 e.2.s2.1 e.2.s2.2 e.2.s3.1 e.2.s3.2
theorem SX.a8 (e:SX):(SX.cells e).length=6:=rfl
def Jk (H:View) (b o:Nat) (e:SX):Prop:=aT H b o (SX.cells e)
structure y9 (f:Nat) (N:View) (x:aP) (p:sY):Prop where
 args:Sl (eG 7) 5 N p.s1.1 p.s1.2 x.args
 body:Sl (gY 7 f) 6 N p.s2.1 p.s2.2 x.body
 other:Sl (gY 7 f) 6 N p.s3.1 p.s3.2 x.other
theorem vh {H N:View} {f c:Nat} {a:Option Addr} {l:List aP} (h:Sl (gY 7 f) 6 H a c l) (hv:aL H N):Sl (gY 7 f) 6 N a c l:=h.imp λb o y hy=>Di hv (Nat.le_refl _) (Nat.le_refl _) b o y hy
theorem y9.mv {f:Nat} {H N:View} {x:aP} {p:sY} (h:y9 f H x p) (hv:aL H N):y9 f N x p:=⟨I3 h.args hv,vh h.body hv,vh h.other hv⟩
def ru (J:View) (f:Nat) (es:List SX):Prop:=∀e ∈ es,y9 f J e.1 e.2
theorem ru.nil (J:View) (f:Nat):ru J f []:=by intro e h; simp at h
theorem ru.snoc {J J1 J2:View} {f:Nat} {es:List SX} {e:SX} (h:ru J f es) (h1:aL J J2) (h2:aL J1 J2) (he:y9 f J1 e.1 e.2):ru J2 f (es++[e]):=by
 intro x hx
 rcases List.mem_append.1 hx with hx | hx
 · exact (h x hx).mv h1
 · rw [List.mem_singleton] at hx
   subst hx;exact he.mv h2
theorem OX {H J N:View} {f c:Nat} {a:Option Addr} {es:List SX} (h:Sl Jk 6 H a c es) (hv:aL H N) (hJ:aL J N) (mB:ru J f es):Sl (gY 7 (f+1)) 6 N a c (es.map (·.1)):=by
 refine ⟨by simpa using h.cap,h.max,h.spot,λi x hx=>?_⟩;rw [List.getElem?_map] at hx;obtain ⟨e,he,rfl⟩:=Option.map_eq_some_iff.1 hx;obtain ⟨b,o,h1,h2⟩:=h.aZ i e he;have h3:=(mB e (List.mem_of_getElem? he)).mv hJ;exact ⟨b,o,h1,e.2.s1.1,e.2.s1.2,e.2.s2.1,e.2.s2.2,e.2.s3.1,e.2.s3.2,aT.mono hv h2,h3.args,h3.body,h3.other⟩
structure GS where
 es:List SX
 a:Option Addr
 c:Nat
 J:View
 r:Option Addr×Nat
 q:Tk
def X6 (HT:View) (f:Nat):Prop:=∀(gb:Nat) (r:Option Addr×Nat) (l:Tk) (d:Nat) (w:World),f+d=7->bL l->Sl aY 3 HT r.1 r.2 l->Ws w (List.flatMap ak.ids (aj gb r l)) (aj gb r l) [HT] w->
 Calls Tryz.prog 148 #[.pointer (some ⟨gb,0,none⟩),.int .i64 (d:Int)] w λe w'=>(∃(x:List aP) (s:Option Addr×Nat) (r2:Option Addr×Nat) (q:Tk),e = .returned (.slice s.1 x.length s.2)/\eX f l=some (x,q)/\Sl (gY 7 f) 6 (nv w w') s.1 s.2 x/\Sl aY 3 HT r2.1 r2.2 q/\Ws w (List.flatMap ak.ids (aj gb r l)) (aj gb r2 q) [HT] w')\/(∃(r2:Option Addr×Nat) (q:Tk),e = .panicked bz/\eX f l=none/\Ws w (List.flatMap ak.ids (aj gb r l)) (aj gb r2 q) [HT] w')
theorem EI {l r:Tk} {f:Nat} {x:List aP} (h:bL l) (e:eX f l=some (x,r)):bL r:=u5 h (DW f l x r h.all e)
theorem aiX {l r:Tk} {f:Nat} {x:aP} (h:bL l) (e:dH (eX f) l=some (x,r)):bL r:=u5 h (N3 (DW f) h.all e)
theorem aiY {l r:Tk} {xs:List ax} (h:bL l) (e:kL (b_ 6) l=some (xs,r)):bL r:=by
 unfold kL at e
 cases hd:aD [41] l with
 | some q=>
   rw [hd] at e;simp only [Option.some.injEq,Prod.mk.injEq] at e;obtain ⟨_,rfl⟩:=e;exact gA h hd
 | none=>
   rw [hd] at e;exact u5 h (N1 (Bj 6) _ _ _ _ h.all e)
theorem EJ {v w:Tx} {l q:Tk} (h:bN [v,w] l=some q):∃q1,aD v l=some q1/\aD w q1=some q:=by rw [Xd] at h; exact Option.bind_eq_some_iff.1 h
theorem aiZ {v w:Tx} {l:Tk} (h:bN [v,w] l=none):aD v l=none\/∃q1,aD v l=some q1/\aD w q1=none:=by
 rw [Xd] at h
 cases hv:aD v l with
 | none=>exact .inl rfl
 | some q1=>rw [hv] at h; exact .inr ⟨q1,rfl,h⟩
theorem ai0 {ps:Tk->Option (aP×Tk)} {n:Nat} {l q:Tk} (h:aD [125] l=some q):nN ps (n+1) l=some ([],q):=by rw [nN,h]
theorem ai1 {ps:Tk->Option (aP×Tk)} {n:Nat} {l q:Tk} {x:aP} (h:aD [125] l=none) (h1:ps l=some (x,q)):nN ps (n+1) l=(nN ps n q).map λp=>(x::p.1,p.2):=by rw [nN,h]; simp only; rw [h1]; rfl
theorem ai2 {ps:Tk->Option (aP×Tk)} {n:Nat} {l:Tk} (h:aD [125] l=none) (h1:ps l=none):nN ps (n+1) l=none:=by rw [nN,h]; simp only; rw [h1]; rfl
theorem EL:Enters Tryz.prog 148:=enters_of Tryz.func148 (by kernel_rfl) rfl
theorem EM:cq Tryz.prog 172=some 1:=by kernel_rfl
theorem EN:cq Tryz.prog 9=some 1:=by kernel_rfl
theorem ai3:Enters Tryz.prog 172:=enters_of Tryz.func172 (by kernel_rfl) rfl
theorem Jl:eS Tryz.prog 172 222 (.agg #[.int .i64 0,st [],st [],.slice none 0 0,.slice none 0 0,.slice none 0 0]) 6 112:=gW (by kernel_rfl)
theorem ai4 (gb:Nat) (HT:View) (r:Option Addr×Nat) (l:Tk) (f d:Nat) (w:World) (hB:X6 HT f) (wR:f+(d+1)=7) (aE:bL l) (hm:Sl aY 3 HT r.1 r.2 l) (hw:Ws w (List.flatMap ak.ids (aj gb r l)) (aj gb r l) [HT] w) :
   Calls Tryz.prog 172 #[.pointer (some ⟨gb,0,none⟩),.int .i64 (d:Int)] w λe w'=>(∃(x:aP) (p:sY) (r2:Option Addr×Nat) (q:Tk),e = .returned (.agg #[.int .i64 (x).op,st (x).mod,st (x).nm,.slice (p).s1.1 (x).args.length (p).s1.2,.slice (p).s2.1 (x).body.length (p).s2.2,.slice (p).s3.1 (x).other.length (p).s3.2])/\dH (eX f) l=some (x,q)/\y9 f (nv w w') x p/\Sl aY 3 HT r2.1 r2.2 q/\Ws w (List.flatMap ak.ids (aj gb r l)) (aj gb r2 q) [HT] w')\/(∃(r2:Option Addr×Nat) (q:Tk),e = .panicked bz/\dH (eX f) l=none/\Ws w (List.flatMap ak.ids (aj gb r l)) (aj gb r2 q) [HT] w'):=by
 refine enter Tryz.func172 O 104 O O ?_;refine CE hw (Cs (Cr ?_));refine Al Y O u0 λb4=>?_;refine bH 0 (.cells (yb (aP.mk 0 [] [] [] [] []) none 0 none 0 none 0).toArray 222 (0,0)) O O (Ln (Et (Cs (Cr ?_))));refine Al Y O u0 λb5=>?_;refine bH 0 (.cells (yb (aP.mk 0 [] [] [] [] []) none 0 none 0 none 0).toArray 222 (0,0)) O O (Ln (Et (Cs (Cb (Cs (Cr (V0 (Ym O) (Lf 2 O ?_))))))));refine Lw [_] _ Y O fV O O _ _ _ [HT] (by simp) (λw hw=>fW gb HT r l [105,102] w hm hw) ?_;intro ⟨OY,BM,mR⟩ ⟨Jm,Jn,BN⟩;refine V0 (Ya O) (Ln (Et ?_));refine Cc O (λad=>?_) (λad=>?_)
 ·have pZ:=Jm ad;have y_:=gA aE pZ;refine Cs (Cr (V0 (Ym O) ?_))
  refine iu (ι:=(ax×(Option Addr×Nat))×(Option Addr×Nat)×Tk) (κ:=(Option Addr×Nat)×Tk) [_] _ Y O pW O O (λi=>.agg #[.int .i64 (i.1.1).op,.int .i64 (i.1.1).n,st (i.1.1).mod,st (i.1.1).nm,.slice i.1.2.1 (i.1.1).args.length i.1.2.2]) (λi=>aj gb i.2.1 i.2.2) (λF i=>b_ 6 mR=some (i.1.1,i.2.2)/\Sl (eG 6) 5 F i.1.2.1 i.1.2.2 i.1.1.args/\Sl aY 3 HT i.2.1.1 i.2.1.2 i.2.2) (λ_=>bz) (λi=>aj gb i.1 i.2) (λ_=>b_ 6 mR=none) ([HT]) (by simp) (λ_ _ h=>h) (λw hw=>((λgb r l d w h1 h2 h3 h4=>wY HT 6 gb r l d w h1 h2 h3 h4) gb BM mR 1 w O y_ BN hw).mono λe w' h=>by
      rcases h with ⟨x,s,r2,q,h1,h2,h3,h4,h5⟩ | ⟨r2,q,h1,h2,h3⟩
      · exact .inl ⟨((x,s),r2,q),h1,⟨h2,h3,h4⟩,h5⟩
      · exact .inr ⟨(r2,q),h1,h2,h3⟩) ?_ ?_
  ·intro ⟨rp,qp⟩ hp;refine Ep (WE.aQ (Ep ?_));refine aJ λw' hw=>?_;exact .inr ⟨rp,qp,O,by simp only [dH,et,eK,eL,eM,ey,ez,pZ,hp,Option.bind_some,Option.map_some,Option.bind_none,Option.map_none],(by have h:=hw; have h:=Wt 1 h; exact h)⟩
  intro X7 ⟨⟨OZ,X8⟩,w_,ie⟩ X9 ⟨kR,X',vf⟩;have sX:bL ie:=pQ y_ kR;have at4:ie.length+1<=List.length (mR):=pR y_ kR;refine Lb Y O j_ O O O O λX_=>?_;refine LN (rd:=j8) (f:=XE.cells) (m:=1) 0 [(OZ,X8.1,X8.2)] O O (λk hk=>by simp [aj,ab] at hk; subst hk; simp [c_,aj,ab,dw]) XE.a8 (λ_ _ _ _ h=>h) (show 1<=1 by decide) (by decide) λH48 Yc Ye=>?_;refine V0 (Yf oM O) (an 1 Y O O O bX O O O (V0 (Yf pP O) (an 1 Y O O O sW O O O (Ln (Et (Cs (Cr (V0 (Ym O) (V0 (Ym O) (V0 (Yi O O O (by omega)) ?_))))))))))
  refine iu (ι:=((List aP)×(Option Addr×Nat))×(Option Addr×Nat)×Tk) (κ:=(Option Addr×Nat)×Tk) [_] _ Y O EL O O (λi=>.slice i.1.2.1 i.1.1.length i.1.2.2) (λi=>aj gb i.2.1 i.2.2) (λF i=>eX f ie=some (i.1.1,i.2.2)/\Sl (gY 7 f) 6 F i.1.2.1 i.1.2.2 i.1.1/\Sl aY 3 HT i.2.1.1 i.2.1.2 i.2.2) (λ_=>bz) (λi=>aj gb i.1 i.2) (λ_=>eX f ie=none) ([HT]) (by simp) (λ_ _ h=>h) (λw hw=>(hB gb w_ ie (d+1) w (by omega) sX vf hw).mono λe w' h=>by
      rcases h with ⟨x,s,r2,q,h1,h2,h3,h4,h5⟩ | ⟨r2,q,h1,h2,h3⟩
      · exact .inl ⟨((x,s),r2,q),h1,⟨h2,h3,h4⟩,h5⟩
      · exact .inr ⟨(r2,q),h1,h2,h3⟩) ?_ ?_
  ·intro ⟨rp,qp⟩ hp;refine Ep (WE.aQ (Ep ?_));refine aJ λw' hw=>?_;exact .inr ⟨rp,qp,O,by simp only [dH,et,eK,eL,eM,ey,ez,pZ,kR,hp,Option.bind_some,Option.map_some,Option.bind_none,Option.map_none],(by have h:=hw; have h:=Wt 1 h; have h:=Ws.bw h (a_:=[HT]) (by simp); exact h)⟩
  intro F54 ⟨⟨Yg,Yh⟩,OP,y7⟩ Yj ⟨oP,Yk,OQ⟩;have Ja:bL y7:=EI sX oP;refine V0 (Yf Bs O) (an 1 Y O O O EM O O O (Ln (Et (Cs (Cs (Cr (V0 (Ym O) ?_)))))));refine Lw [_] _ Y O fV O O _ _ _ [HT] (by simp) (λw hw=>fW gb HT OP y7 [101,108,115,101] w OQ hw) ?_;intro ⟨O0,Jo,p1⟩ ⟨Jp,Jq,Jr⟩;refine Ln (Et ?_);refine Cc O (λar=>?_) (λar=>?_)
  ·have Js:=Jp ar;have Jt:=gA Ja Js;refine Cs (Cr (V0 (Ym O) (V0 (Ym O) (V0 (Yi O O O (by omega)) ?_))))
   refine iu (ι:=((List aP)×(Option Addr×Nat))×(Option Addr×Nat)×Tk) (κ:=(Option Addr×Nat)×Tk) [_] _ Y O EL O O (λi=>.slice i.1.2.1 i.1.1.length i.1.2.2) (λi=>aj gb i.2.1 i.2.2) (λF i=>eX f p1=some (i.1.1,i.2.2)/\Sl (gY 7 f) 6 F i.1.2.1 i.1.2.2 i.1.1/\Sl aY 3 HT i.2.1.1 i.2.1.2 i.2.2) (λ_=>bz) (λi=>aj gb i.1 i.2) (λ_=>eX f p1=none) ([HT]) (by simp) (λ_ _ h=>h) (λw hw=>(hB gb Jo p1 (d+1) w (by omega) Jt Jr hw).mono λe w' h=>by
       rcases h with ⟨x,s,r2,q,h1,h2,h3,h4,h5⟩ | ⟨r2,q,h1,h2,h3⟩
       · exact .inl ⟨((x,s),r2,q),h1,⟨h2,h3,h4⟩,h5⟩
       · exact .inr ⟨(r2,q),h1,h2,h3⟩) ?_ ?_
   ·intro ⟨rp,qp⟩ hp;refine Ep (Ep (WE.aQ (Ep ?_)));refine aJ λw' hw=>?_;exact .inr ⟨rp,qp,O,by simp only [dH,et,eK,eL,eM,ey,ez,pZ,kR,oP,Js,hp,Option.bind_some,Option.map_some,Option.bind_none,Option.map_none],(by have h:=hw; have h:=Wt 1 h; have h:=Ws.bw h (a_:=[HT]) (by simp); exact h)⟩
   intro F61 ⟨⟨O1,s61⟩,Yp,O2⟩ ai6 ⟨O3,ai7,ai8⟩;have aua:bL O2:=EI Jt O3;refine V0 (Yf wH O) (an 1 Y O O O EM O O O (Ln (Et (Cs (Cr (V0 (Yf wH O) (V0 (Yd 1 O O O mO) (V0 (Yn rh O) (V0 (aG O O) (Ln (Et ?_)))))))))));refine Cc O (λay=>?_) (λay=>?_)
   ·have hz:O1.length=0:=by simpa using ay
    refine Cr (V0 (Yb u7 u6 O O) (V0 (qE u9 O) ?_));refine WL.panic Y O ?_;refine Ep (WE.aQ (Ep ?_));refine aJ λw' hw=>?_;exact .inr ⟨Yp,O2,O,by simp only [dH,et,eK,eL,eM,ey,ez,pZ,kR,oP,Js,O3,Option.bind_some,Option.map_some,Option.bind_none,Option.map_none,if_pos hz],(by have h:=hw; have h:=Wt 1 h; have h:=Ws.bw h (a_:=[HT]) (by simp); exact h)⟩
   have hz:¬O1.length=0:=by simpa using ay
   refine Ck (Et (Cs (Cr (V0 (bA 1 O O jg O) (an 2 Y O O O ri O O O (Ln (Et (az (bR (Er ?_))))))))));refine WE.dJ (gd O (cS 2 O O jg O)) λw' hw=>?_;exact .inl ⟨aP.mk 4 [] [] [OZ] Yg O1,⟨(some ⟨X_,0,none⟩,1),Yh,s61⟩,Yp,O2,O,by simp only [dH,et,eK,eL,eM,ey,ez,pZ,kR,oP,Js,O3,Option.bind_some,Option.map_some,Option.bind_none,Option.map_none,if_neg hz],⟨(j9 Ye (bD hw (by simp) Yc) (bD hw (by simp) X9) ((fY.nil X7 6).snoc (aL.refl _) (aL.refl _) X')),(vh Yk (bD hw (by simp) Yj)),(vh ai7 (bD hw (by simp) ai6))⟩,ai8,Wv 4 (Wt 1 hw)⟩
  obtain ⟨ai9,ai'⟩:=Jq ar;subst ai';refine Ck (Et (Cs (Cr (V0 (bA 1 O O jg O) (an 2 Y O O O ri O O O (Ln (Et (az (bR (Er ?_))))))))));refine WE.dJ (gd O (cS 2 O O jg O)) λw' hw=>?_;exact .inl ⟨aP.mk 4 [] [] [OZ] Yg [],⟨(some ⟨X_,0,none⟩,1),Yh,((none,0):Option Addr×Nat)⟩,Jo,y7,O,by simp only [dH,et,eK,eL,eM,ey,ez,pZ,kR,oP,ai9,Option.bind_some,Option.map_some,Option.bind_none,Option.map_none],⟨(j9 Ye (bD hw (by simp) Yc) (bD hw (by simp) X9) ((fY.nil X7 6).snoc (aL.refl _) (aL.refl _) X')),(vh Yk (bD hw (by simp) Yj)),Sl.nil⟩,Jr,Wv 3 (Wt 1 hw)⟩
 obtain ⟨gS,ai_⟩:=Jn ad;subst ai_;refine Cs (Cr (V0 (Ym O) ?_));refine Lw [_] _ Y O fV O O _ _ _ [HT] (by simp) (λw hw=>fW gb HT BM l [119,104,105,108,101] w BN hw) ?_;intro ⟨b72,Jf,BL⟩ ⟨aja,ajb,Jg⟩;refine V0 (Ya O) (Ln (Et ?_));refine Cc O (λaM=>?_) (λaM=>?_)
 ·have y8:=aja aM;have Jh:=gA aE y8;refine Cs (Cr (V0 (Ym O) ?_))
  refine iu (ι:=(ax×(Option Addr×Nat))×(Option Addr×Nat)×Tk) (κ:=(Option Addr×Nat)×Tk) [_] _ Y O pW O O (λi=>.agg #[.int .i64 (i.1.1).op,.int .i64 (i.1.1).n,st (i.1.1).mod,st (i.1.1).nm,.slice i.1.2.1 (i.1.1).args.length i.1.2.2]) (λi=>aj gb i.2.1 i.2.2) (λF i=>b_ 6 BL=some (i.1.1,i.2.2)/\Sl (eG 6) 5 F i.1.2.1 i.1.2.2 i.1.1.args/\Sl aY 3 HT i.2.1.1 i.2.1.2 i.2.2) (λ_=>bz) (λi=>aj gb i.1 i.2) (λ_=>b_ 6 BL=none) ([HT]) (by simp) (λ_ _ h=>h) (λw hw=>((λgb r l d w h1 h2 h3 h4=>wY HT 6 gb r l d w h1 h2 h3 h4) gb Jf BL 1 w O Jh Jg hw).mono λe w' h=>by
      rcases h with ⟨x,s,r2,q,h1,h2,h3,h4,h5⟩ | ⟨r2,q,h1,h2,h3⟩
      · exact .inl ⟨((x,s),r2,q),h1,⟨h2,h3,h4⟩,h5⟩
      · exact .inr ⟨(r2,q),h1,h2,h3⟩) ?_ ?_
  ·intro ⟨rp,qp⟩ hp;refine Ep (WE.aQ (Ep ?_));refine aJ λw' hw=>?_;exact .inr ⟨rp,qp,O,by simp only [dH,et,eK,eL,eM,ey,ez,gS,y8,hp,Option.bind_some,Option.map_some,Option.bind_none,Option.map_none],(by have h:=hw; have h:=Wt 1 h; exact h)⟩
  intro F74 ⟨⟨Yq,Yr⟩,r74,zb⟩ aje ⟨Ju,ajf,ajg⟩;have Ys:bL zb:=pQ Jh Ju;have auc:zb.length+1<=List.length (BL):=pR Jh Ju;refine Lb Y O j_ O O O O λX4=>?_;refine LN (rd:=j8) (f:=XE.cells) (m:=1) 0 [(Yq,Yr.1,Yr.2)] O O (λk hk=>by simp [aj,ab] at hk; subst hk; simp [c_,aj,ab,dw]) XE.a8 (λ_ _ _ _ h=>h) (show 1<=1 by decide) (by decide) λH75 ajh aji=>?_;refine V0 (Yf oM O) (an 1 Y O O O bX O O O (V0 (Yf pP O) (an 1 Y O O O sW O O O (Ln (Et (Cs (Cr (V0 (Ym O) (V0 (Ym O) (V0 (Yi O O O (by omega)) ?_))))))))))
  refine iu (ι:=((List aP)×(Option Addr×Nat))×(Option Addr×Nat)×Tk) (κ:=(Option Addr×Nat)×Tk) [_] _ Y O EL O O (λi=>.slice i.1.2.1 i.1.1.length i.1.2.2) (λi=>aj gb i.2.1 i.2.2) (λF i=>eX f zb=some (i.1.1,i.2.2)/\Sl (gY 7 f) 6 F i.1.2.1 i.1.2.2 i.1.1/\Sl aY 3 HT i.2.1.1 i.2.1.2 i.2.2) (λ_=>bz) (λi=>aj gb i.1 i.2) (λ_=>eX f zb=none) ([HT]) (by simp) (λ_ _ h=>h) (λw hw=>(hB gb r74 zb (d+1) w (by omega) Ys ajg hw).mono λe w' h=>by
      rcases h with ⟨x,s,r2,q,h1,h2,h3,h4,h5⟩ | ⟨r2,q,h1,h2,h3⟩
      · exact .inl ⟨((x,s),r2,q),h1,⟨h2,h3,h4⟩,h5⟩
      · exact .inr ⟨(r2,q),h1,h2,h3⟩) ?_ ?_
  ·intro ⟨rp,qp⟩ hp;refine Ep (WE.aQ (Ep ?_));refine aJ λw' hw=>?_;exact .inr ⟨rp,qp,O,by simp only [dH,et,eK,eL,eM,ey,ez,gS,y8,Ju,hp,Option.bind_some,Option.map_some,Option.bind_none,Option.map_none],(by have h:=hw; have h:=Wt 1 h; have h:=Ws.bw h (a_:=[HT]) (by simp); exact h)⟩
  intro F81 ⟨⟨ajj,s81⟩,r81,oQ⟩ ajm ⟨Yt,ajn,ajo⟩;have auf:bL oQ:=EI Ys Yt;refine V0 (Yf Bs O) (an 1 Y O O O EM O O O (Ln (Et (Cs (Cr (V0 (bA 1 O O jg O) (an 2 Y O O O ri O O O (Ln (Et (az (bR (Er ?_))))))))))));refine WE.dJ (gd O (cS 2 O O jg O)) λw' hw=>?_;exact .inl ⟨aP.mk 5 [] [] [Yq] ajj [],⟨(some ⟨X4,0,none⟩,1),s81,((none,0):Option Addr×Nat)⟩,r81,oQ,O,by simp only [dH,et,eK,eL,eM,ey,ez,gS,y8,Ju,Yt,Option.bind_some,Option.map_some,Option.bind_none,Option.map_none],⟨(j9 aji (bD hw (by simp) ajh) (bD hw (by simp) aje) ((fY.nil F74 6).snoc (aL.refl _) (aL.refl _) ajf)),(vh ajn (bD hw (by simp) ajm)),Sl.nil⟩,ajo,Wv 3 (Wt 1 hw)⟩
 obtain ⟨iT,ajp⟩:=ajb aM;subst ajp;refine Cs (Cr (V0 (Ym O) ?_));refine Lw [_] _ Y O fV O O _ _ _ [HT] (by simp) (λw hw=>fW gb HT Jf l [114,101,116,117,114,110] w Jg hw) ?_;intro ⟨b86,Yu,Jv⟩ ⟨ajq,ajr,Yv⟩;refine V0 (Ya O) (Ln (Et ?_));refine Cc O (λaW=>?_) (λaW=>?_)
 ·have Jw:=ajq aW;have O4:=gA aE Jw;refine Cr (V0 (Ym O) ?_)
  refine iu (ι:=(ax×(Option Addr×Nat))×(Option Addr×Nat)×Tk) (κ:=(Option Addr×Nat)×Tk) [_] _ Y O pW O O (λi=>.agg #[.int .i64 (i.1.1).op,.int .i64 (i.1.1).n,st (i.1.1).mod,st (i.1.1).nm,.slice i.1.2.1 (i.1.1).args.length i.1.2.2]) (λi=>aj gb i.2.1 i.2.2) (λF i=>b_ 6 Jv=some (i.1.1,i.2.2)/\Sl (eG 6) 5 F i.1.2.1 i.1.2.2 i.1.1.args/\Sl aY 3 HT i.2.1.1 i.2.1.2 i.2.2) (λ_=>bz) (λi=>aj gb i.1 i.2) (λ_=>b_ 6 Jv=none) ([HT]) (by simp) (λ_ _ h=>h) (λw hw=>((λgb r l d w h1 h2 h3 h4=>wY HT 6 gb r l d w h1 h2 h3 h4) gb Yu Jv 1 w O O4 Yv hw).mono λe w' h=>by
      rcases h with ⟨x,s,r2,q,h1,h2,h3,h4,h5⟩ | ⟨r2,q,h1,h2,h3⟩
      · exact .inl ⟨((x,s),r2,q),h1,⟨h2,h3,h4⟩,h5⟩
      · exact .inr ⟨(r2,q),h1,h2,h3⟩) ?_ ?_
  ·intro ⟨rp,qp⟩ hp;refine WE.aQ (Ep ?_);refine aJ λw' hw=>?_;exact .inr ⟨rp,qp,O,by simp only [dH,et,eK,eL,eM,ey,ez,gS,iT,Jw,hp,Option.bind_some,Option.map_some,Option.bind_none,Option.map_none],(by have h:=hw; have h:=Wt 1 h; exact h)⟩
  intro F88 ⟨⟨Yw,Yy⟩,r88,EO⟩ aju ⟨Jy,ajv,ajw⟩;have ajx:bL EO:=pQ O4 Jy;have auh:EO.length+1<=List.length (Jv):=pR O4 Jy;refine Lb Y O j_ O O O O λb89=>?_;refine LN (rd:=j8) (f:=XE.cells) (m:=1) 0 [(Yw,Yy.1,Yy.2)] O O (λk hk=>by simp [aj,ab] at hk; subst hk; simp [c_,aj,ab,dw]) XE.a8 (λ_ _ _ _ h=>h) (show 1<=1 by decide) (by decide) λH89 ajz ajA=>?_;refine V0 (Yf oM O) (an 1 Y O O O bX O O O (V0 (Yf pP O) (an 1 Y O O O sW O O O (Ln (Eb (Et (Cs (Cr (V0 (Ym O) ?_)))))))));refine Lb Y O dn O O O O λp3=>?_;refine fC (T:=9) (m:=1) 0 [[59]] O O (show 1<=1 by decide) (by decide) λjG oR=>?_
  refine bd (ι:=(Option Addr×Nat)×Tk) (κ:=(Option Addr×Nat)×Tk) [_] _ Y O gD O O (λ_=>.tuple #[]) (λi=>aj gb i.1 i.2) (λi=>bN [[59]] EO=some i.2/\Sl aY 3 HT i.1.1 i.1.2 i.2) (λ_=>bz) (λi=>aj gb i.1 i.2) (λ_=>bN [[59]] EO=none) ([HT,jG]) (by simp) (λw hw=>(gC gb HT r88 EO jG _ _ [[59]] w oR ajw hw).mono λe w' h=>by
      rcases h with ⟨r2,q,h1,h2,h3,h4⟩ | ⟨r2,q,h1,h2,h3⟩
      · exact .inl ⟨(r2,q),h1,⟨h2,h3⟩,h4⟩
      · exact .inr ⟨(r2,q),h1,h2,h3⟩) ?_ ?_
  ·intro ⟨rp,qp⟩ hp;rw [c8] at hp;refine Ep ?_;refine aJ λw' hw=>?_;exact .inr ⟨rp,qp,O,by simp only [dH,et,eK,eL,eM,ey,ez,gS,iT,Jw,Jy,hp,Option.bind_some,Option.map_some,Option.bind_none,Option.map_none],(by have h:=hw; have h:=Wt 1 h; have h:=Ws.bw h (a_:=[HT]) (by simp); exact h)⟩
  intro ⟨ry,oS⟩ ⟨iA,rz⟩;have EP:=gB ajx iA;rw [c8] at iA;refine Ln (Et (Cs (Cr (V0 (bA 1 O O jg O) (an 2 Y O O O ri O O O (Ln (Et (az ?_))))))));refine WE.dJ (gd O (cS 2 O O jg O)) λw' hw=>?_;exact .inl ⟨aP.mk 6 [] [] [Yw] [] [],⟨(some ⟨b89,0,none⟩,1),((none,0):Option Addr×Nat),((none,0):Option Addr×Nat)⟩,ry,oS,O,by simp only [dH,et,eK,eL,eM,ey,ez,gS,iT,Jw,Jy,iA,Option.bind_some,Option.map_some,Option.bind_none,Option.map_none],⟨(j9 ajA (bD hw (by simp) ajz) (bD hw (by simp) aju) ((fY.nil F88 6).snoc (aL.refl _) (aL.refl _) ajv)),Sl.nil,Sl.nil⟩,rz,Wv 3 (Wt 1 hw)⟩
 obtain ⟨kb,ajB⟩:=ajr aW;subst ajB;refine Cs (Cr (V0 (Ym O) ?_));refine Lw [_] _ Y O fV O O _ _ _ [HT] (by simp) (λw hw=>fW gb HT Yu l [111,117,116] w Yv hw) ?_;intro ⟨b94,Yz,Jz⟩ ⟨ajC,ajD,YA⟩;refine V0 (Ya O) (Ln (Et ?_));refine Cc O (λbl=>?_) (λbl=>?_)
 ·have JA:=ajC bl;have O5:=gA aE JA;refine Cr (V0 (Ym O) ?_)
  refine iu (ι:=(ax×(Option Addr×Nat))×(Option Addr×Nat)×Tk) (κ:=(Option Addr×Nat)×Tk) [_] _ Y O pW O O (λi=>.agg #[.int .i64 (i.1.1).op,.int .i64 (i.1.1).n,st (i.1.1).mod,st (i.1.1).nm,.slice i.1.2.1 (i.1.1).args.length i.1.2.2]) (λi=>aj gb i.2.1 i.2.2) (λF i=>b_ 6 Jz=some (i.1.1,i.2.2)/\Sl (eG 6) 5 F i.1.2.1 i.1.2.2 i.1.1.args/\Sl aY 3 HT i.2.1.1 i.2.1.2 i.2.2) (λ_=>bz) (λi=>aj gb i.1 i.2) (λ_=>b_ 6 Jz=none) ([HT]) (by simp) (λ_ _ h=>h) (λw hw=>((λgb r l d w h1 h2 h3 h4=>wY HT 6 gb r l d w h1 h2 h3 h4) gb Yz Jz 1 w O O5 YA hw).mono λe w' h=>by
      rcases h with ⟨x,s,r2,q,h1,h2,h3,h4,h5⟩ | ⟨r2,q,h1,h2,h3⟩
      · exact .inl ⟨((x,s),r2,q),h1,⟨h2,h3,h4⟩,h5⟩
      · exact .inr ⟨(r2,q),h1,h2,h3⟩) ?_ ?_
  ·intro ⟨rp,qp⟩ hp;refine WE.aQ (Ep ?_);refine aJ λw' hw=>?_;exact .inr ⟨rp,qp,O,by simp only [dH,et,eK,eL,eM,ey,ez,gS,iT,kb,JA,hp,Option.bind_some,Option.map_some,Option.bind_none,Option.map_none],(by have h:=hw; have h:=Wt 1 h; exact h)⟩
  intro F96 ⟨⟨YB,YC⟩,r96,ER⟩ ajG ⟨JB,ajH,ajI⟩;have ajJ:bL ER:=pQ O5 JB;have auk:ER.length+1<=List.length (Jz):=pR O5 JB;refine Lb Y O j_ O O O O λb97=>?_;refine LN (rd:=j8) (f:=XE.cells) (m:=1) 0 [(YB,YC.1,YC.2)] O O (λk hk=>by simp [aj,ab] at hk; subst hk; simp [c_,aj,ab,dw]) XE.a8 (λ_ _ _ _ h=>h) (show 1<=1 by decide) (by decide) λH97 ajL ajM=>?_;refine V0 (Yf oM O) (an 1 Y O O O bX O O O (V0 (Yf pP O) (an 1 Y O O O sW O O O (Ln (Eb (Et (Cs (Cr (V0 (Ym O) ?_)))))))));refine Lb Y O dn O O O O λp3=>?_;refine fC (T:=9) (m:=1) 0 [[59]] O O (show 1<=1 by decide) (by decide) λjG oR=>?_
  refine bd (ι:=(Option Addr×Nat)×Tk) (κ:=(Option Addr×Nat)×Tk) [_] _ Y O gD O O (λ_=>.tuple #[]) (λi=>aj gb i.1 i.2) (λi=>bN [[59]] ER=some i.2/\Sl aY 3 HT i.1.1 i.1.2 i.2) (λ_=>bz) (λi=>aj gb i.1 i.2) (λ_=>bN [[59]] ER=none) ([HT,jG]) (by simp) (λw hw=>(gC gb HT r96 ER jG _ _ [[59]] w oR ajI hw).mono λe w' h=>by
      rcases h with ⟨r2,q,h1,h2,h3,h4⟩ | ⟨r2,q,h1,h2,h3⟩
      · exact .inl ⟨(r2,q),h1,⟨h2,h3⟩,h4⟩
      · exact .inr ⟨(r2,q),h1,h2,h3⟩) ?_ ?_
  ·intro ⟨rp,qp⟩ hp;rw [c8] at hp;refine Ep ?_;refine aJ λw' hw=>?_;exact .inr ⟨rp,qp,O,by simp only [dH,et,eK,eL,eM,ey,ez,gS,iT,kb,JA,JB,hp,Option.bind_some,Option.map_some,Option.bind_none,Option.map_none],(by have h:=hw; have h:=Wt 1 h; have h:=Ws.bw h (a_:=[HT]) (by simp); exact h)⟩
  intro ⟨ry,oS⟩ ⟨iA,rz⟩;have EP:=gB ajJ iA;rw [c8] at iA;refine Ln (Et (Cs (Cr (V0 (bA 1 O O jg O) (an 2 Y O O O ri O O O (Ln (Et (az ?_))))))));refine WE.dJ (gd O (cS 2 O O jg O)) λw' hw=>?_;exact .inl ⟨aP.mk 7 [] [] [YB] [] [],⟨(some ⟨b97,0,none⟩,1),((none,0):Option Addr×Nat),((none,0):Option Addr×Nat)⟩,ry,oS,O,by simp only [dH,et,eK,eL,eM,ey,ez,gS,iT,kb,JA,JB,iA,Option.bind_some,Option.map_some,Option.bind_none,Option.map_none],⟨(j9 ajM (bD hw (by simp) ajL) (bD hw (by simp) ajG) ((fY.nil F96 6).snoc (aL.refl _) (aL.refl _) ajH)),Sl.nil,Sl.nil⟩,rz,Wv 3 (Wt 1 hw)⟩
 obtain ⟨lZ,ajN⟩:=ajD bl;subst ajN;refine Cs (Cr (V0 (Ym O) ?_))
 refine bd (ι:=(Tx×Tx)×(Option Addr×Nat)×Tk) (κ:=(Option Addr×Nat)×Tk) [_] _ Y O XL O O (λi=>.tuple #[st i.1.1,st i.1.2]) (λi=>aj gb i.2.1 i.2.2) (λi=>kK l=some (i.1,i.2.2)/\Sl aY 3 HT i.2.1.1 i.2.1.2 i.2.2) (λ_=>bz) (λi=>aj gb i.1 i.2) (λ_=>kK l=none) ([HT]) (by simp) (λw hw=>(Xm gb HT Yz l w aE YA hw).mono λe w' h=>by
     rcases h with ⟨t,r2,q,h1,h2,h3,h4⟩ | ⟨r2,q,h1,h2,h3⟩
     · exact .inl ⟨(t,r2,q),h1,⟨h2,h3⟩,h4⟩
     · exact .inr ⟨(r2,q),h1,h2,h3⟩) ?_ ?_
 ·intro ⟨rp,qp⟩ hp;refine Ep (WE.aQ (Ep ?_));refine aJ λw' hw=>?_;exact .inr ⟨rp,qp,O,by simp only [dH,et,eK,eL,eM,ey,ez,gS,iT,kb,lZ,hp,Option.bind_some,Option.map_some,Option.bind_none,Option.map_none],(by have h:=hw; have h:=Wt 1 h; exact h)⟩
 intro ⟨p9,r9,q9⟩ ⟨fj,O6⟩;have BO:=Xf aE fj;refine V0 (Ym O) (V0 (Yx O O) (V0 (Yx O O) (V0 (Yf D7 O) (an 1 Y O O O EN O O O (V0 (Yf D8 O) (an 1 Y O O O EN O O O (Ln (Et (Cb (Cs (Cr ?_)))))))))));refine V0 (Ym O) ?_;refine Lw [_] _ Y O fV O O _ _ _ [HT] (by simp) (λw hw=>fW gb HT r9 q9 [40] w O6 hw) ?_;intro ⟨EB,sZ,O7⟩ ⟨ajO,ajP,YD⟩;refine V0 (Ya O) (Ln (Et ?_));refine Cc O (λbt=>?_) (λbt=>?_)
 ·have JC:=ajO bt;have YE:=gA BO JC;refine Cr (V0 (Ym O) ?_)
  refine iu (ι:=((List ax)×(Option Addr×Nat))×(Option Addr×Nat)×Tk) (κ:=(Option Addr×Nat)×Tk) [_] _ Y O XQ O O (λi=>.slice i.1.2.1 i.1.1.length i.1.2.2) (λi=>aj gb i.2.1 i.2.2) (λF i=>kL (b_ 6) O7=some (i.1.1,i.2.2)/\Sl (eG (6+1)) 5 F i.1.2.1 i.1.2.2 i.1.1/\Sl aY 3 HT i.2.1.1 i.2.1.2 i.2.2) (λ_=>bz) (λi=>aj gb i.1 i.2) (λ_=>kL (b_ 6) O7=none) ([HT]) (by simp) (λ_ _ h=>h) (λw hw=>(Xp gb HT sZ O7 6 (1) w (λgb r l d w h1 h2 h3 h4=>wY HT 6 gb r l d w h1 h2 h3 h4) (by omega) YE YD hw).mono λe w' h=>by
      rcases h with ⟨x,s,r2,q,h1,h2,h3,h4,h5⟩ | ⟨r2,q,h1,h2,h3⟩
      · exact .inl ⟨((x,s),r2,q),h1,⟨h2,h3,h4⟩,h5⟩
      · exact .inr ⟨(r2,q),h1,h2,h3⟩) ?_ ?_
  ·intro ⟨rp,qp⟩ hp;refine WE.aQ (WE.aQ (Ep ?_));refine aJ λw' hw=>?_;exact .inr ⟨rp,qp,O,by simp only [dH,et,eK,eL,eM,ey,ez,gS,iT,kb,lZ,fj,JC,hp,Option.bind_some,Option.map_some,Option.bind_none,Option.map_none],(by have h:=hw; have h:=Wt 1 h; exact h)⟩
  intro F26 ⟨⟨ajQ,vi⟩,ES,jH⟩ ajR ⟨mS,ajS,ET⟩;have EU:bL jH:=aiY YE mS;refine V0 (Yf oM O) (an 1 Y O O O bX O O O (V0 (Yf pP O) (an 1 Y O O O sW O O O (Ln (Eb (Eb (Et (Cs (Cr (V0 (Ym O) ?_))))))))));refine Lb Y O dn O O O O λp3=>?_;refine fC (T:=9) (m:=1) 0 [[59]] O O (show 1<=1 by decide) (by decide) λjG oR=>?_
  refine bd (ι:=(Option Addr×Nat)×Tk) (κ:=(Option Addr×Nat)×Tk) [_] _ Y O gD O O (λ_=>.tuple #[]) (λi=>aj gb i.1 i.2) (λi=>bN [[59]] jH=some i.2/\Sl aY 3 HT i.1.1 i.1.2 i.2) (λ_=>bz) (λi=>aj gb i.1 i.2) (λ_=>bN [[59]] jH=none) ([HT,jG]) (by simp) (λw hw=>(gC gb HT ES jH jG _ _ [[59]] w oR ET hw).mono λe w' h=>by
      rcases h with ⟨r2,q,h1,h2,h3,h4⟩ | ⟨r2,q,h1,h2,h3⟩
      · exact .inl ⟨(r2,q),h1,⟨h2,h3⟩,h4⟩
      · exact .inr ⟨(r2,q),h1,h2,h3⟩) ?_ ?_
  ·intro ⟨rp,qp⟩ hp;rw [c8] at hp;refine Ep ?_;refine aJ λw' hw=>?_;exact .inr ⟨rp,qp,O,by simp only [dH,et,eK,eL,eM,ey,ez,gS,iT,kb,lZ,fj,JC,mS,hp,Option.bind_some,Option.map_some,Option.bind_none,Option.map_none],(by have h:=hw; have h:=Wt 1 h; have h:=Ws.bw h (a_:=[HT]) (by simp); exact h)⟩
  intro ⟨ry,oS⟩ ⟨iA,rz⟩;have EP:=gB EU iA;rw [c8] at iA;refine Ln (Et (Cs (Cr (V0 (bA 1 O O jg O) (an 2 Y O O O ri O O O (Ln (Et (az ?_))))))));refine WE.dJ (gd O (cS 2 O O jg O)) λw' hw=>?_;exact .inl ⟨aP.mk 3 p9.1 p9.2 ajQ [] [],⟨vi,((none,0):Option Addr×Nat),((none,0):Option Addr×Nat)⟩,ry,oS,O,by simp only [dH,et,eK,eL,eM,ey,ez,gS,iT,kb,lZ,fj,JC,mS,iA,Option.bind_some,Option.map_some,Option.bind_none,Option.map_none],⟨(I3 ajS (bD hw (by simp) ajR)),Sl.nil,Sl.nil⟩,rz,Wv 2 (Wt 1 hw)⟩
 obtain ⟨p4,ajT⟩:=ajP bt;subst ajT;refine Cs (Cr (V0 (Ym O) ?_));refine Lw [_] _ Y O fV O O _ _ _ [HT] (by simp) (λw hw=>fW gb HT sZ q9 [91] w YD hw) ?_;intro ⟨JD,EV,nU⟩ ⟨O8,O9,EW⟩;refine V0 (Ya O) (Ln (Et ?_));refine Cc O (λbQ=>?_) (λbQ=>?_)
 ·have lv:=O8 bQ;have xb:=gA BO lv;refine Cs (Cr (V0 (Ym O) ?_))
  refine iu (ι:=(ax×(Option Addr×Nat))×(Option Addr×Nat)×Tk) (κ:=(Option Addr×Nat)×Tk) [_] _ Y O pW O O (λi=>.agg #[.int .i64 (i.1.1).op,.int .i64 (i.1.1).n,st (i.1.1).mod,st (i.1.1).nm,.slice i.1.2.1 (i.1.1).args.length i.1.2.2]) (λi=>aj gb i.2.1 i.2.2) (λF i=>b_ 6 nU=some (i.1.1,i.2.2)/\Sl (eG 6) 5 F i.1.2.1 i.1.2.2 i.1.1.args/\Sl aY 3 HT i.2.1.1 i.2.1.2 i.2.2) (λ_=>bz) (λi=>aj gb i.1 i.2) (λ_=>b_ 6 nU=none) ([HT]) (by simp) (λ_ _ h=>h) (λw hw=>((λgb r l d w h1 h2 h3 h4=>wY HT 6 gb r l d w h1 h2 h3 h4) gb EV nU 1 w O xb EW hw).mono λe w' h=>by
      rcases h with ⟨x,s,r2,q,h1,h2,h3,h4,h5⟩ | ⟨r2,q,h1,h2,h3⟩
      · exact .inl ⟨((x,s),r2,q),h1,⟨h2,h3,h4⟩,h5⟩
      · exact .inr ⟨(r2,q),h1,h2,h3⟩) ?_ ?_
  ·intro ⟨rp,qp⟩ hp;refine Ep (WE.aQ (WE.aQ (Ep ?_)));refine aJ λw' hw=>?_;exact .inr ⟨rp,qp,O,by simp only [dH,et,eK,eL,eM,ey,ez,gS,iT,kb,lZ,fj,p4,lv,hp,Option.bind_some,Option.map_some,Option.bind_none,Option.map_none],(by have h:=hw; have h:=Wt 1 h; exact h)⟩
  intro F33 ⟨⟨xe,JE⟩,JF,jI⟩ YF ⟨l3,YG,BP⟩;have JG:bL jI:=pQ xb l3;have auo:jI.length+1<=List.length (nU):=pR xb l3;refine Al Y O iy λb6=>?_;refine an 0 Y O O O mN O O O (Ln (Et (Cs (Cr (V0 (Ym O) ?_)))));refine Lb Y O dn O O O O λb35=>?_;refine fC (T:=9) (m:=2) 0 [[93],[61]] O O (show 2<=2 by decide) (by decide) λYH ajU=>?_;refine Lf 1 O ?_
  refine bd (ι:=(Option Addr×Nat)×Tk) (κ:=(Option Addr×Nat)×Tk) [_] _ Y O gD O O (λ_=>.tuple #[]) (λi=>aj gb i.1 i.2) (λi=>bN [[93],[61]] jI=some i.2/\Sl aY 3 HT i.1.1 i.1.2 i.2) (λ_=>bz) (λi=>aj gb i.1 i.2) (λ_=>bN [[93],[61]] jI=none) ([HT,YH]) (by simp) (λw hw=>(gC gb HT JF jI YH _ _ [[93],[61]] w ajU BP hw).mono λe w' h=>by
      rcases h with ⟨r2,q,h1,h2,h3,h4⟩ | ⟨r2,q,h1,h2,h3⟩
      · exact .inl ⟨(r2,q),h1,⟨h2,h3⟩,h4⟩
      · exact .inr ⟨(r2,q),h1,h2,h3⟩) ?_ ?_
  ·intro ⟨rp,qp⟩ hp;refine Ep (WE.aQ (WE.aQ (Ep ?_)));refine aJ λw' hw=>?_
   rcases aiZ hp with hp | ⟨EX,JH,hp⟩
   · exact .inr ⟨rp,qp,O,by simp only [dH,et,eK,eL,eM,ey,ez,gS,iT,kb,lZ,fj,p4,lv,l3,hp,Option.bind_some,Option.map_some,Option.bind_none,Option.map_none],(by have h:=hw; have h:=Wt 1 h; have h:=Ws.bw h (a_:=[HT]) (by simp); exact h)⟩
   · exact .inr ⟨rp,qp,O,by simp only [dH,et,eK,eL,eM,ey,ez,gS,iT,kb,lZ,fj,p4,lv,l3,JH,hp,Option.bind_some,Option.map_some,Option.bind_none,Option.map_none],(by have h:=hw; have h:=Wt 1 h; have h:=Ws.bw h (a_:=[HT]) (by simp); exact h)⟩
  intro ⟨JI,mT⟩ ⟨BQ,ajV⟩;have O':=gB JG BQ;refine Ln (Et ?_);refine CU (λ_=>true) [2,0] [7] (.q true 0 (.q false 1 (.q false 4 (.e 2 (.e 3 (.e 5 (.q false 6 .nil) .stop) (.e 5 (.e 3 (.q false 6 .nil) .stop) .stop)) .stop)))) mixed (by kernel_rfl) (λ_ _ _ d _ _ h=>by cases d<;>exact h) ?_;refine U0 O (bk [2,0]) (bA 0 O O jD O) (U0 O (bk [2,0]) (Ym O) (U0 O (bk [2,0]) (Yf oM O) ?_));refine Ue O (bk [2,0]) ?_ WU.stop
  refine iu (ι:=(ax×(Option Addr×Nat))×(Option Addr×Nat)×Tk) (κ:=(Option Addr×Nat)×Tk) [_] _ Y O pW O O (λi=>.agg #[.int .i64 (i.1.1).op,.int .i64 (i.1.1).n,st (i.1.1).mod,st (i.1.1).nm,.slice i.1.2.1 (i.1.1).args.length i.1.2.2]) (λi=>aj gb i.2.1 i.2.2) (λF i=>b_ 6 mT=some (i.1.1,i.2.2)/\Sl (eG 6) 5 F i.1.2.1 i.1.2.2 i.1.1.args/\Sl aY 3 HT i.2.1.1 i.2.1.2 i.2.2) (λ_=>bz) (λi=>aj gb i.1 i.2) (λ_=>b_ 6 mT=none) ([HT]) (by simp) (λ_ _ h=>h) (λw hw=>((λgb r l d w h1 h2 h3 h4=>wY HT 6 gb r l d w h1 h2 h3 h4) gb JI mT 1 w O O' ajV hw).mono λe w' h=>by
      rcases h with ⟨x,s,r2,q,h1,h2,h3,h4,h5⟩ | ⟨r2,q,h1,h2,h3⟩
      · exact .inl ⟨((x,s),r2,q),h1,⟨h2,h3,h4⟩,h5⟩
      · exact .inr ⟨(r2,q),h1,h2,h3⟩) ?_ ?_
  ·intro ⟨rp,qp⟩ hp;refine Ep (WE.aQ (WE.aQ (Ep ?_)));refine aJ λw' hw=>?_;obtain ⟨EX,vk,vl⟩:=EJ BQ;exact .inr ⟨rp,qp,O,by simp only [dH,et,eK,eL,eM,ey,ez,gS,iT,kb,lZ,fj,p4,lv,l3,vk,vl,hp,Option.bind_some,Option.map_some,Option.bind_none,Option.map_none],(by have h:=hw; have h:=Wt 1 h; have h:=Ws.bw h (a_:=[HT]) (by simp); exact h)⟩
  intro F39 ⟨⟨JJ,JK⟩,JL,nV⟩ YI ⟨oT,YJ,JM⟩;have JN:bL nV:=pQ O' oT;have aur:nV.length+1<=List.length (mT):=pR O' oT;refine Ln (Eu ?_);refine Ue O (λ_ h=>(Wv 1 (Wo 0 (Wo 2 h)):)) ?_ ?_
  ·refine Lb Y O j_ O O O O λs0=>?_;refine LN (rd:=j8) (f:=XE.cells) (m:=2) 0 [(xe,JE.1,JE.2),(JJ,JK.1,JK.2)] O O (λk hk=>by simp [aj,ab] at hk; subst hk; simp [c_,aj,ab,dw]) XE.a8 (λ_ _ _ _ h=>h) (show 2<=2 by decide) (by decide) λJO O_ EY=>?_;refine Ln (Eu ?_);refine Ue O (λ_ h=>(Wv 2 (Wo 0 (Wo 2 h)):)) ?_ WU.stop;refine an 2 Y O O O bX O O O (Ln (Eu (U0 O (λ_ h=>(Wv 2 (Wo 0 (Wo 2 h)):)) (Yf pP O) ?_)));refine WU.nil (λ_ h=>(Wv 2 (Wo 0 (Wo 2 h)):)) ?_;refine WS.e O ?_;refine an 2 Y O O O sW O O O (Ln (Es ?_));refine WS.nil ?_;refine Eb (Eb (Et (Cs (Cr (V0 (Ym O) ?_)))));refine Lb Y O dn O O O O λp3=>?_;refine fC (T:=9) (m:=1) 0 [[59]] O O (show 1<=1 by decide) (by decide) λjG oR=>?_
   refine bd (ι:=(Option Addr×Nat)×Tk) (κ:=(Option Addr×Nat)×Tk) [_] _ Y O gD O O (λ_=>.tuple #[]) (λi=>aj gb i.1 i.2) (λi=>bN [[59]] nV=some i.2/\Sl aY 3 HT i.1.1 i.1.2 i.2) (λ_=>bz) (λi=>aj gb i.1 i.2) (λ_=>bN [[59]] nV=none) ([HT,jG]) (by simp) (λw hw=>(gC gb HT JL nV jG _ _ [[59]] w oR JM hw).mono λe w' h=>by
       rcases h with ⟨r2,q,h1,h2,h3,h4⟩ | ⟨r2,q,h1,h2,h3⟩
       · exact .inl ⟨(r2,q),h1,⟨h2,h3⟩,h4⟩
       · exact .inr ⟨(r2,q),h1,h2,h3⟩) ?_ ?_
   ·intro ⟨rp,qp⟩ hp;rw [c8] at hp;refine Ep ?_;refine aJ λw' hw=>?_;obtain ⟨EX,vk,vl⟩:=EJ BQ;exact .inr ⟨rp,qp,O,by simp only [dH,et,eK,eL,eM,ey,ez,gS,iT,kb,lZ,fj,p4,lv,l3,vk,vl,oT,hp,Option.bind_some,Option.map_some,Option.bind_none,Option.map_none],(by have h:=hw; have h:=Wt 1 h; have h:=Ws.bw h (a_:=[HT]) (by simp); exact h)⟩
   intro ⟨ry,oS⟩ ⟨iA,rz⟩;have EP:=gB JN iA;rw [c8] at iA;refine Ln (Et (Cs (Cr (V0 (bA 2 O O jg O) (an 3 Y O O O ri O O O (Ln (Et (az ?_))))))));refine WE.dJ (gd O (cS 3 O O jg O)) λw' hw=>?_;obtain ⟨EX,vk,vl⟩:=EJ BQ;exact .inl ⟨aP.mk 2 p9.1 p9.2 [xe,JJ] [] [],⟨(some ⟨s0,0,none⟩,2),((none,0):Option Addr×Nat),((none,0):Option Addr×Nat)⟩,ry,oS,O,by simp only [dH,et,eK,eL,eM,ey,ez,gS,iT,kb,lZ,fj,p4,lv,l3,vk,vl,oT,iA,Option.bind_some,Option.map_some,Option.bind_none,Option.map_none],⟨(j9 EY (bD hw (by simp) O_) (aL.refl _) (((fY.nil (nv w w') 6).snoc (aL.refl _) (bD hw (by simp) YF) YG).snoc (aL.refl _) (bD hw (by simp) YI) YJ)),Sl.nil,Sl.nil⟩,rz,Wv 5 (Wt 1 hw)⟩
  refine Ue O (λ_ h=>(Wv 1 (Wo 0 (Wo 2 h)):)) ?_ WU.stop;refine an 2 Y O O O bX O O O (Ln (Eu ?_));refine Ue O (λ_ h=>(Wv 1 (Wo 0 (Wo 2 h)):)) ?_ WU.stop;refine Lb Y O j_ O O O O λs0=>?_;refine LN (rd:=j8) (f:=XE.cells) (m:=2) 0 [(xe,JE.1,JE.2),(JJ,JK.1,JK.2)] O O (λk hk=>by simp [aj,ab] at hk; subst hk; simp [c_,aj,ab,dw]) XE.a8 (λ_ _ _ _ h=>h) (show 2<=2 by decide) (by decide) λJO O_ EY=>?_;refine Ln (Eu (U0 O (λ_ h=>(Wv 2 (Wo 0 (Wo 2 h)):)) (Yf pP O) ?_));refine WU.nil (λ_ h=>(Wv 2 (Wo 0 (Wo 2 h)):)) ?_;refine WS.e O ?_;refine an 2 Y O O O sW O O O (Ln (Es ?_));refine WS.nil ?_;refine Eb (Eb (Et (Cs (Cr (V0 (Ym O) ?_)))));refine Lb Y O dn O O O O λp3=>?_;refine fC (T:=9) (m:=1) 0 [[59]] O O (show 1<=1 by decide) (by decide) λjG oR=>?_
  refine bd (ι:=(Option Addr×Nat)×Tk) (κ:=(Option Addr×Nat)×Tk) [_] _ Y O gD O O (λ_=>.tuple #[]) (λi=>aj gb i.1 i.2) (λi=>bN [[59]] nV=some i.2/\Sl aY 3 HT i.1.1 i.1.2 i.2) (λ_=>bz) (λi=>aj gb i.1 i.2) (λ_=>bN [[59]] nV=none) ([HT,jG]) (by simp) (λw hw=>(gC gb HT JL nV jG _ _ [[59]] w oR JM hw).mono λe w' h=>by
      rcases h with ⟨r2,q,h1,h2,h3,h4⟩ | ⟨r2,q,h1,h2,h3⟩
      · exact .inl ⟨(r2,q),h1,⟨h2,h3⟩,h4⟩
      · exact .inr ⟨(r2,q),h1,h2,h3⟩) ?_ ?_
  ·intro ⟨rp,qp⟩ hp;rw [c8] at hp;refine Ep ?_;refine aJ λw' hw=>?_;obtain ⟨EX,vk,vl⟩:=EJ BQ;exact .inr ⟨rp,qp,O,by simp only [dH,et,eK,eL,eM,ey,ez,gS,iT,kb,lZ,fj,p4,lv,l3,vk,vl,oT,hp,Option.bind_some,Option.map_some,Option.bind_none,Option.map_none],(by have h:=hw; have h:=Wt 1 h; have h:=Ws.bw h (a_:=[HT]) (by simp); exact h)⟩
  intro ⟨ry,oS⟩ ⟨iA,rz⟩;have EP:=gB JN iA;rw [c8] at iA;refine Ln (Et (Cs (Cr (V0 (bA 2 O O jg O) (an 3 Y O O O ri O O O (Ln (Et (az ?_))))))));refine WE.dJ (gd O (cS 3 O O jg O)) λw' hw=>?_;obtain ⟨EX,vk,vl⟩:=EJ BQ;exact .inl ⟨aP.mk 2 p9.1 p9.2 [xe,JJ] [] [],⟨(some ⟨s0,0,none⟩,2),((none,0):Option Addr×Nat),((none,0):Option Addr×Nat)⟩,ry,oS,O,by simp only [dH,et,eK,eL,eM,ey,ez,gS,iT,kb,lZ,fj,p4,lv,l3,vk,vl,oT,iA,Option.bind_some,Option.map_some,Option.bind_none,Option.map_none],⟨(j9 EY (bD hw (by simp) O_) (aL.refl _) (((fY.nil (nv w w') 6).snoc (aL.refl _) (bD hw (by simp) YF) YG).snoc (aL.refl _) (bD hw (by simp) YI) YJ)),Sl.nil,Sl.nil⟩,rz,Wv 5 (Wt 1 hw)⟩
 obtain ⟨BR,Pa⟩:=O9 bQ;subst Pa;refine Cs (Cr (V0 (Ym O) ?_));refine Lb Y O dn O O O O λb15=>?_;refine fC (T:=9) (m:=1) 0 [[61]] O O (show 1<=1 by decide) (by decide) λYK ajX=>?_
 refine bd (ι:=(Option Addr×Nat)×Tk) (κ:=(Option Addr×Nat)×Tk) [_] _ Y O gD O O (λ_=>.tuple #[]) (λi=>aj gb i.1 i.2) (λi=>bN [[61]] q9=some i.2/\Sl aY 3 HT i.1.1 i.1.2 i.2) (λ_=>bz) (λi=>aj gb i.1 i.2) (λ_=>bN [[61]] q9=none) ([HT,YK]) (by simp) (λw hw=>(gC gb HT EV q9 YK _ _ [[61]] w ajX EW hw).mono λe w' h=>by
     rcases h with ⟨r2,q,h1,h2,h3,h4⟩ | ⟨r2,q,h1,h2,h3⟩
     · exact .inl ⟨(r2,q),h1,⟨h2,h3⟩,h4⟩
     · exact .inr ⟨(r2,q),h1,h2,h3⟩) ?_ ?_
 ·intro ⟨rp,qp⟩ hp;rw [c8] at hp;refine Ep (WE.aQ (WE.aQ (Ep ?_)));refine aJ λw' hw=>?_;exact .inr ⟨rp,qp,O,by simp only [dH,et,eK,eL,eM,ey,ez,gS,iT,kb,lZ,fj,p4,BR,hp,Option.bind_some,Option.map_some,Option.bind_none,Option.map_none],(by have h:=hw; have h:=Wt 1 h; have h:=Ws.bw h (a_:=[HT]) (by simp); exact h)⟩
 intro ⟨cH,BF⟩ ⟨wW,I5⟩;have I6:=gB BO wW;rw [c8] at wW;refine Ln (Et (Cr (V0 (Ym O) ?_)))
 refine iu (ι:=(ax×(Option Addr×Nat))×(Option Addr×Nat)×Tk) (κ:=(Option Addr×Nat)×Tk) [_] _ Y O pW O O (λi=>.agg #[.int .i64 (i.1.1).op,.int .i64 (i.1.1).n,st (i.1.1).mod,st (i.1.1).nm,.slice i.1.2.1 (i.1.1).args.length i.1.2.2]) (λi=>aj gb i.2.1 i.2.2) (λF i=>b_ 6 BF=some (i.1.1,i.2.2)/\Sl (eG 6) 5 F i.1.2.1 i.1.2.2 i.1.1.args/\Sl aY 3 HT i.2.1.1 i.2.1.2 i.2.2) (λ_=>bz) (λi=>aj gb i.1 i.2) (λ_=>b_ 6 BF=none) ([HT]) (by simp) (λ_ _ h=>h) (λw hw=>((λgb r l d w h1 h2 h3 h4=>wY HT 6 gb r l d w h1 h2 h3 h4) gb cH BF 1 w O I6 I5 hw).mono λe w' h=>by
     rcases h with ⟨x,s,r2,q,h1,h2,h3,h4,h5⟩ | ⟨r2,q,h1,h2,h3⟩
     · exact .inl ⟨((x,s),r2,q),h1,⟨h2,h3,h4⟩,h5⟩
     · exact .inr ⟨(r2,q),h1,h2,h3⟩) ?_ ?_
 ·intro ⟨rp,qp⟩ hp;refine WE.aQ (WE.aQ (Ep ?_));refine aJ λw' hw=>?_;exact .inr ⟨rp,qp,O,by simp only [dH,et,eK,eL,eM,ey,ez,gS,iT,kb,lZ,fj,p4,BR,wW,hp,Option.bind_some,Option.map_some,Option.bind_none,Option.map_none],(by have h:=hw; have h:=Wt 1 h; have h:=Ws.bw h (a_:=[HT]) (by simp); exact h)⟩
 intro rB ⟨⟨YL,YM⟩,eO,zd⟩ BS ⟨JP,ajY,YN⟩;have ajZ:bL zd:=pQ I6 JP;have aus:zd.length+1<=List.length (BF):=pR I6 JP;refine Lb Y O j_ O O O O λEA=>?_;refine LN (rd:=j8) (f:=XE.cells) (m:=1) 0 [(YL,YM.1,YM.2)] O O (λk hk=>by simp [aj,ab] at hk; subst hk; simp [c_,aj,ab,dw]) XE.a8 (λ_ _ _ _ h=>h) (show 1<=1 by decide) (by decide) λOz aj0 OA=>?_;refine V0 (Yf oM O) (an 1 Y O O O bX O O O (V0 (Yf pP O) (an 1 Y O O O sW O O O (Ln (Eb (Eb (Et (Cs (Cr (V0 (Ym O) ?_))))))))));refine Lb Y O dn O O O O λp3=>?_;refine fC (T:=9) (m:=1) 0 [[59]] O O (show 1<=1 by decide) (by decide) λjG oR=>?_
 refine bd (ι:=(Option Addr×Nat)×Tk) (κ:=(Option Addr×Nat)×Tk) [_] _ Y O gD O O (λ_=>.tuple #[]) (λi=>aj gb i.1 i.2) (λi=>bN [[59]] zd=some i.2/\Sl aY 3 HT i.1.1 i.1.2 i.2) (λ_=>bz) (λi=>aj gb i.1 i.2) (λ_=>bN [[59]] zd=none) ([HT,jG]) (by simp) (λw hw=>(gC gb HT eO zd jG _ _ [[59]] w oR YN hw).mono λe w' h=>by
     rcases h with ⟨r2,q,h1,h2,h3,h4⟩ | ⟨r2,q,h1,h2,h3⟩
     · exact .inl ⟨(r2,q),h1,⟨h2,h3⟩,h4⟩
     · exact .inr ⟨(r2,q),h1,h2,h3⟩) ?_ ?_
 ·intro ⟨rp,qp⟩ hp;rw [c8] at hp;refine Ep ?_;refine aJ λw' hw=>?_;exact .inr ⟨rp,qp,O,by simp only [dH,et,eK,eL,eM,ey,ez,gS,iT,kb,lZ,fj,p4,BR,wW,JP,hp,Option.bind_some,Option.map_some,Option.bind_none,Option.map_none],(by have h:=hw; have h:=Wt 1 h; have h:=Ws.bw h (a_:=[HT]) (by simp); exact h)⟩
 intro ⟨ry,oS⟩ ⟨iA,rz⟩;have EP:=gB ajZ iA;rw [c8] at iA;refine Ln (Et (Cs (Cr (V0 (bA 1 O O jg O) (an 2 Y O O O ri O O O (Ln (Et (az ?_))))))));refine WE.dJ (gd O (cS 2 O O jg O)) λw' hw=>?_;exact .inl ⟨aP.mk 1 p9.1 p9.2 [YL] [] [],⟨(some ⟨EA,0,none⟩,1),((none,0):Option Addr×Nat),((none,0):Option Addr×Nat)⟩,ry,oS,O,by simp only [dH,et,eK,eL,eM,ey,ez,gS,iT,kb,lZ,fj,p4,BR,wW,JP,iA,Option.bind_some,Option.map_some,Option.bind_none,Option.map_none],⟨(j9 OA (bD hw (by simp) aj0) (bD hw (by simp) BS) ((fY.nil rB 6).snoc (aL.refl _) (aL.refl _) ajY)),Sl.nil,Sl.nil⟩,rz,Wv 4 (Wt 1 hw)⟩
theorem YO (HT:View) (f:Nat) (gb:Nat) (r:Option Addr×Nat) (l:Tk) (d:Nat) (w:World) (wR:f+d=7) (aE:bL l) (hm:Sl aY 3 HT r.1 r.2 l) (hw:Ws w (List.flatMap ak.ids (aj gb r l)) (aj gb r l) [HT] w) :
   Calls Tryz.prog 148 #[.pointer (some ⟨gb,0,none⟩),.int .i64 (d:Int)] w λe w'=>(∃(x:List aP) (s:Option Addr×Nat) (r2:Option Addr×Nat) (q:Tk),e = .returned (.slice s.1 x.length s.2)/\eX f l=some (x,q)/\Sl (gY 7 f) 6 (nv w w') s.1 s.2 x/\Sl aY 3 HT r2.1 r2.2 q/\Ws w (List.flatMap ak.ids (aj gb r l)) (aj gb r2 q) [HT] w')\/(∃(r2:Option Addr×Nat) (q:Tk),e = .panicked bz/\eX f l=none/\Ws w (List.flatMap ak.ids (aj gb r l)) (aj gb r2 q) [HT] w'):=by
 induction f using Nat.strongRecOn generalizing gb r l d w
 rename_i f ih;refine enter Tryz.func148 O 23 O O ?_;refine CE hw (Cs (Cr (V0 (Ya O) (Ln (Et (Cs (Cs (Cr (V0 (Ym O) (V0 (bZ O O) (Ln (Et ?_))))))))))));refine Cc O (λad=>?_) (λad=>?_)
 ·have gK:eX f l=none:=by
    obtain rfl:f=0:=by simp at ad; omega
    rfl
  refine Cr (V0 (Yb u7 u6 O O) (V0 (qE u9 O) ?_));refine WL.panic Y O ?_;refine Ep ?_;refine aJ λw' hw=>?_;exact .inr ⟨r,l,O,gK,(by have h:=hw; exact h)⟩
 have XV:¬6<d:=by simp at ad; omega
 obtain ⟨f,rfl⟩:∃k,f=k+1:=⟨f-1,by omega⟩;have hB:X6 HT f:=λgb r l d w h1 h2 h3 h4=>ih f (by omega) gb r l d w h1 h2 h3 h4;refine Ck (Et (Cs (Cr (V0 (Ym O) ?_))));refine Lb Y O dn O O O O λrj=>?_;refine fC (T:=9) (m:=1) 0 [[123]] O O (show 1<=1 by decide) (by decide) λBU EZ=>?_
 refine bd (ι:=(Option Addr×Nat)×Tk) (κ:=(Option Addr×Nat)×Tk) [_] _ Y O gD O O (λ_=>.tuple #[]) (λi=>aj gb i.1 i.2) (λi=>bN [[123]] l=some i.2/\Sl aY 3 HT i.1.1 i.1.2 i.2) (λ_=>bz) (λi=>aj gb i.1 i.2) (λ_=>bN [[123]] l=none) ([HT,BU]) (by simp) (λw hw=>(gC gb HT r l BU _ _ [[123]] w EZ hm hw).mono λe w' h=>by
     rcases h with ⟨r2,q,h1,h2,h3,h4⟩ | ⟨r2,q,h1,h2,h3⟩
     · exact .inl ⟨(r2,q),h1,⟨h2,h3⟩,h4⟩
     · exact .inr ⟨(r2,q),h1,h2,h3⟩) ?_ ?_
 ·intro ⟨rp,qp⟩ hp;rw [c8] at hp;refine Ep ?_;refine aJ λw' hw=>?_;exact .inr ⟨rp,qp,O,by rw [eX,hp]; rfl,(by have h:=hw; have h:=Ws.bw h (a_:=[HT]) (by simp); exact h)⟩
 intro ⟨uW,eh⟩ ⟨fZ,wU⟩;have wV:=gB aE fZ;rw [c8] at fZ;refine Ln (Et (Cs (Cr (V0 (Ya O) (LW (λ_ h=>h.fB 222 6) ?_)))));refine WL.v0 ?_;refine Ln (Et (Cs (Cb ?_)));refine cU (ι:=GS) (λg=>[(5,.slice g.a g.es.length g.c)]) [(0,_),(1,_),(4,_)] (λg=>Ws w (List.flatMap ak.ids (aj gb r l)) (aj gb g.r g.q++[bo 222 6 SX.cells g.a g.c g.es]) [g.J,HT]) (λg=>(g.es.length+g.q.length<=l.length/\bL g.q)/\Sl aY 3 HT g.r.1 g.r.2 g.q/\(eE w g.J/\ru g.J f g.es)/\∃n,g.q.length<n/\eX (f+1) l=(nN (dH (eX f)) n g.q).map λp=>(g.es.map (·.1)++p.1,p.2)) (λg=>g.q.length) ⟨[],none,0,v0,uW,eh⟩ ⟨⟨by have:eh.length+1=l.length:=gz fZ; simp; omega,wV⟩,wU,⟨wa w,ru.nil _ _⟩,eh.length+1,by simp,by rw [eX,fZ]; simp⟩ (sc O (sc O (sc O (sc O sn)))) (λ_ h=>by have h:=h.ao 1 O; have h:=Ws.bw h (a_:=[v0,HT]) (by simp); exact h) ?_;intro g ⟨⟨hlen,kQ⟩,pT,⟨lY,Ez⟩,hA⟩;refine Cs (Cs (Cr (V0 (Ym O) ?_)));refine Lw [_] _ Y O fV O O _ _ _ [HT] (by simp) (λw hw=>fW gb HT g.r g.q [125] w pT hw) ?_;intro ⟨yT,lu,iR⟩ ⟨El,En,pU⟩;refine V0 (eu O) (Ln (Et ?_));refine Cc O (λar=>?_) (λar=>?_)
 ·obtain ⟨iz,IZ⟩:=En (by simpa using ar);subst IZ;obtain ⟨n,hn,hA⟩:=hA;obtain ⟨n,rfl⟩:∃k,n=k+1:=⟨n-1,by omega⟩;refine Ck (Et (Cb (Cr (V0 (Ym O) (V0 (Ym O) (V0 (Ym O) ?_))))))
  refine iu (ι:=(aP×sY)×(Option Addr×Nat)×Tk) (κ:=(Option Addr×Nat)×Tk) [_] _ Y O ai3 O O (λi=>.agg #[.int .i64 (i.1.1).op,st (i.1.1).mod,st (i.1.1).nm,.slice (i.1.2).s1.1 (i.1.1).args.length (i.1.2).s1.2,.slice (i.1.2).s2.1 (i.1.1).body.length (i.1.2).s2.2,.slice (i.1.2).s3.1 (i.1.1).other.length (i.1.2).s3.2]) (λi=>aj gb i.2.1 i.2.2) (λF i=>dH (eX f) g.q=some (i.1.1,i.2.2)/\y9 f F i.1.1 i.1.2/\Sl aY 3 HT i.2.1.1 i.2.1.2 i.2.2) (λ_=>bz) (λi=>aj gb i.1 i.2) (λ_=>dH (eX f) g.q=none) ([HT]) (by simp) (λ_ _ h=>h) (λw hw=>(ai4 gb HT lu g.q f d w hB (by omega) kQ pU hw).mono λe w' h=>by
      rcases h with ⟨x,s,r2,q,h1,h2,h3,h4,h5⟩ | ⟨r2,q,h1,h2,h3⟩
      · exact .inl ⟨((x,s),r2,q),h1,⟨h2,h3,h4⟩,h5⟩
      · exact .inr ⟨(r2,q),h1,h2,h3⟩) ?_ ?_
  ·intro ⟨rp,qp⟩ hp;refine WE.aQ (Ep (WE.aQ (Ep ?_)));refine aJ λw' hw=>?_;exact .inr ⟨rp,qp,O,by rw [hA,ai2 iz hp]; rfl,(by have h:=hw; have h:=Wt 1 h; have h:=Ws.bw h (a_:=[HT]) (by simp); exact h)⟩
  intro ze ⟨⟨Pb,Pc⟩,oO,jF⟩ JQ ⟨pX,aj1,BG⟩;have yV:bL jF:=aiX kQ pX;have aut:jF.length<List.length (g.q):=af0 (DW f) (kQ).all pX;refine WL.nA λYP aj2 aj3 aj4=>?_;refine Lb Y O Jl O O O O λjJ=>?_;refine bH 0 (.cells (SX.cells (Pb,Pc)).toArray 222 (0,0)) O O ?_;refine LA ((Pb,Pc):SX) 2 0 Y O Jl O O O O O O (by have:=aE.len; omega) (by have:=aE.len; omega) λa21 c21=>?_;refine V0 (Ya O) (Ln (Eb ?_))
  exact Ea (⟨g.es++[(Pb,Pc)],a21,c21,YP,oO,jF⟩:GS) (by show jF.length<g.q.length; omega) ⟨⟨by simp; omega,yV⟩,BG,⟨aj4 _ JQ lY,ru.snoc Ez aj3 aj2 aj1⟩,n,(show jF.length<n by omega),by rw [hA,ai1 iz pX]; simp [Function.comp_def]⟩ (sc O (sc O (sc O (sc O sn)))) (λ_ h=>by
      have h:=h.ao 2 rfl;have h:=h.ao 2 rfl;have h:=Wt 2 h;have h:=Ws.bw h (a_:=[YP,HT]) (by simp)
      exact h)
 have nR:=El (by simpa using ar);have JR:=gA kQ nR;obtain ⟨n,hn,hA⟩:=hA;obtain ⟨n,rfl⟩:∃k,n=k+1:=⟨n-1,by omega⟩;refine Ce (Ex (Ex (cf (Et (Cs ?_)))));refine WC.pz (rd:=Jk) 1 O (λk hk=>by simp [aj,ab] at hk; subst hk; simp [c_,aj,ab,dw]) SX.a8 (λ_ _ _ _ h=>h) λK7 E1 E2=>?_;refine Cr (V0 (Ym O) (V0 (Ya O) (Ln (Et (az ?_)))));refine R1 O O λw' hw=>?_;exact .inl ⟨g.es.map (·.1),(g.a,g.c),lu,iR,by rw [List.length_map],by rw [hA,ai0 nR]; simp,OX E2 (bD hw (by simp) E1) (bD hw (by simp) lY) Ez,pU,(Wv 2 hw)⟩
theorem aj5 {l r:Tk} {aR:Bool} {o:Option bI} (h:bL l) (e:ff aR l=some (o,r)):bL r:=by
 cases o with
 | none=>obtain rfl:=N4 e; exact h
 | some d=>exact u5 h (VY h.all e).1
theorem aj6 {l r:Tk} {aR:Bool} {d:bI} (h:bL l) (e:ff aR l=some (some d,r)):r.length<l.length:=by
 have h1:=(VY h.all e).1.2;rw [h1];simp [DX];omega
theorem aj7 {l r:Tk} {aR:Bool} {p:dC} (h:bL l) (e:iO aR l=some (p,r)):bL r:=u5 h (V2 h.all e).1
theorem Pd {l r:Tk} {aR:Bool} {p:dC} (h:bL l) (e:iO aR l=some (p,r)):r.length<l.length:=by
 have h1:=(V2 h.all e).1.2;rw [h1];simp [N5];omega
theorem nW {l r:Tk} {a:Tx} (h:bL l) (e:cG l=some (a,r)):r.length<l.length:=by
 have h1:=(sO h.all e).1.2;rw [h1];simp
theorem Pe {l q:Tk} {b:Bool} (ht:b=true->aD [112,117,98] l=some q) (hf:b=false->aD [112,117,98] l=none/\l=q):jV l=(b,q):=by
 unfold jV;rw [show ID=[112,117,98] from rfl]
 cases b with
 | true=>rw [ht rfl]; rfl
 | false=>obtain ⟨h1,h2⟩:=hf rfl; rw [h1,h2]; rfl
theorem Pf {l q:Tk} {b:Bool} (h:bL l) (ht:b=true->aD [112,117,98] l=some q) (hf:b=false->aD [112,117,98] l=none/\l=q):bL q/\q.length<=l.length:=by
 cases b with
 | true=>exact ⟨gA h (ht rfl),by have:=gz (ht rfl); omega⟩
 | false=>obtain ⟨_,h2⟩:=hf rfl; subst h2; exact ⟨h,Nat.le_refl _⟩
theorem aj8 {n:Nat} {first:Bool} {l q:Tk} (h:aD [41] l=some q):iN (n+1) first l=some ([],q):=by rw [iN,h]
theorem aj9 {n:Nat} {l q:Tk} {a:Tx} (h:aD [41] l=none) (h1:cG l=some (a,q)):iN (n+1) true l=(iN n false q).map λp=>(a::p.1,p.2):=by rw [iN,h]; simp [h1]
theorem aj' {n:Nat} {l:Tk} (h:aD [41] l=none) (h1:cG l=none):iN (n+1) true l=none:=by rw [iN,h]; simp [h1]
theorem aj_ {n:Nat} {l l1 q:Tk} {a:Tx} (h:aD [41] l=none) (h2:aD [44] l=some l1) (h1:cG l1=some (a,q)):iN (n+1) false l=(iN n false q).map λp=>(a::p.1,p.2):=by rw [iN,h]; simp [h1,h2]
theorem aka {n:Nat} {l:Tk} (h:aD [41] l=none) (h2:aD [44] l=none):iN (n+1) false l=none:=by rw [iN,h]; simp [h2]
theorem akb {n:Nat} {l l1:Tk} (h:aD [41] l=none) (h2:aD [44] l=some l1) (h1:cG l1=none):iN (n+1) false l=none:=by rw [iN,h]; simp [h1,h2]
def isNil (l:List Tx):Bool:=match l with | []=>true | _=>false
theorem YQ (l:List Tx) (x:Tx):isNil (l++[x])=false:=by cases l<;>rfl
theorem akc {l:List Tx} (h:¬0<l.length):isNil l=true:=by cases l with | nil=>rfl | cons _ _=>exact absurd (by simp) h
theorem akd {l:List Tx} (h:0<l.length):isNil l=false:=by cases l with | nil=>simp at h | cons _ _=>rfl
structure BV where
 s1:Option Addr×Nat
 s2:Option Addr×Nat
 s3:Option Addr×Nat
abbrev PX:=dC×BV
def PX.cells (e:PX):List Value:=MS e.1 e.2.s1.1 e.2.s1.2 e.2.s2.1 e.2.s2.2 e.2.s3.1 e.2.s3.2
theorem PX.a8 (e:PX):(PX.cells e).length=5:=rfl
def Pg (H:View) (b o:Nat) (e:PX):Prop:=aT H b o (PX.cells e)
structure zf (N:View) (x:dC) (p:BV):Prop where
 params:Sl rdStr 1 N p.s1.1 p.s1.2 x.params
 av:Sl rdStr 1 N p.s2.1 p.s2.2 x.av
 body:Sl (gY 7 6) 6 N p.s3.1 p.s3.2 x.body
theorem vm {H N:View} {c:Nat} {a:Option Addr} {l:List Tx} (h:Sl rdStr 1 H a c l) (hv:aL H N):Sl rdStr 1 N a c l:=h.imp λb o y hy=>AJ hv b o y hy
theorem Ph {H N:View} {c:Nat} {a:Option Addr} {l:List bI} (h:Sl x' 4 H a c l) (hv:aL H N):Sl x' 4 N a c l:=h.imp λb o y hy=>adE hv b o y hy
theorem zf.mv {H N:View} {x:dC} {p:BV} (h:zf H x p) (hv:aL H N):zf N x p:=⟨vm h.params hv,vm h.av hv,vh h.body hv⟩
def s5 (J:View) (es:List PX):Prop:=∀e ∈ es,zf J e.1 e.2
theorem s5.nil (J:View):s5 J []:=by intro e h; simp at h
theorem s5.snoc {J J1 J2:View} {es:List PX} {e:PX} (h:s5 J es) (h1:aL J J2) (h2:aL J1 J2) (he:zf J1 e.1 e.2):s5 J2 (es++[e]):=by
 intro x hx
 rcases List.mem_append.1 hx with hx | hx
 · exact (h x hx).mv h1
 · rw [List.mem_singleton] at hx
   subst hx;exact he.mv h2
theorem YR {H J N:View} {c:Nat} {a:Option Addr} {es:List PX} (h:Sl Pg 5 H a c es) (hv:aL H N) (hJ:aL J N) (mB:s5 J es):Sl (HW 7 6) 5 N a c (es.map (·.1)):=by
 refine ⟨by simpa using h.cap,h.max,h.spot,λi x hx=>?_⟩;rw [List.getElem?_map] at hx;obtain ⟨e,he,rfl⟩:=Option.map_eq_some_iff.1 hx;obtain ⟨b,o,h1,h2⟩:=h.aZ i e he;have h3:=(mB e (List.mem_of_getElem? he)).mv hJ;exact ⟨b,o,h1,e.2.s1.1,e.2.s1.2,e.2.s2.1,e.2.s2.2,e.2.s3.1,e.2.s3.2,aT.mono hv h2,h3.params,h3.av,h3.body⟩
structure GN where
 ps:List Tx
 a:Option Addr
 c:Nat
 r:Option Addr×Nat
 q:Tk
structure GD where
 ds:List bI
 a:Option Addr
 c:Nat
 aR:Bool
 r:Option Addr×Nat
 q:Tk
structure GM where
 ps:List PX
 a:Option Addr
 c:Nat
 J:View
 aR:Bool
 r:Option Addr×Nat
 q:Tk
theorem ake {n:Nat} {l:Tk} (h:aD [108,111,99,97,108] l=none):ll (n+1) l=some ([],l):=by rw [ll,show yx=[108,111,99,97,108] from rfl,h]
theorem akf {n:Nat} {l l1 q q2:Tk} {a:Tx} (h:aD [108,111,99,97,108] l=some l1) (h1:cG l1=some (a,q)) (h2:aD [59] q=some q2):ll (n+1) l=(ll n q2).map λp=>(a::p.1,p.2):=by rw [ll,show yx=[108,111,99,97,108] from rfl,h]; simp [h1,h2]
theorem akg {n:Nat} {l l1:Tk} (h:aD [108,111,99,97,108] l=some l1) (h1:cG l1=none):ll (n+1) l=none:=by rw [ll,show yx=[108,111,99,97,108] from rfl,h]; simp [h1]
theorem akh {n:Nat} {l l1 q:Tk} {a:Tx} (h:aD [108,111,99,97,108] l=some l1) (h1:cG l1=some (a,q)) (h2:aD [59] q=none):ll (n+1) l=none:=by rw [ll,show yx=[108,111,99,97,108] from rfl,h]; simp [h1,h2]
theorem aki {n:Nat} {l:Tk} (h:aD [117,115,101] l=none):lV (n+1) l=some ([],l):=by rw [lV,show DU=[117,115,101] from rfl,h]
theorem akj {n:Nat} {l l1 q q2:Tk} {a:Tx} (h:aD [117,115,101] l=some l1) (h1:cG l1=some (a,q)) (h2:aD [59] q=some q2):lV (n+1) l=(lV n q2).map λp=>(a::p.1,p.2):=by rw [lV,show DU=[117,115,101] from rfl,h]; simp [h1,h2]
theorem akk {n:Nat} {l l1:Tk} (h:aD [117,115,101] l=some l1) (h1:cG l1=none):lV (n+1) l=none:=by rw [lV,show DU=[117,115,101] from rfl,h]; simp [h1]
theorem akl {n:Nat} {l l1 q:Tk} {a:Tx} (h:aD [117,115,101] l=some l1) (h1:cG l1=some (a,q)) (h2:aD [59] q=none):lV (n+1) l=none:=by rw [lV,show DU=[117,115,101] from rfl,h]; simp [h1,h2]
theorem akm {n:Nat} {aR:Bool} {l q:Tk} (h:ff aR l=some (none,q)):nO (n+1) aR l=some (([],aR),q):=by rw [nO,h]; rfl
theorem akn {n:Nat} {aR b:Bool} {l q q2:Tk} {d:bI} (h:ff aR l=some (some d,q)) (h2:jV q=(b,q2)):nO (n+1) aR l=(nO n b q2).map λp=>((d::p.1.1,p.1.2),p.2):=by rw [nO,h]; simp only [Option.bind_some]; rw [h2]
theorem ako {n:Nat} {aR:Bool} {l:Tk} (h:ff aR l=none):nO (n+1) aR l=none:=by rw [nO,h]; rfl
theorem akp {n:Nat} {aR:Bool} {l:Tk} (h:aD [112,114,111,99] l=none):nP (n+1) aR l=some (([],aR),l):=by rw [nP,show IE=[112,114,111,99] from rfl,h]
theorem akq {n:Nat} {aR b:Bool} {l l1 q q2:Tk} {d:dC} (h0:aD [112,114,111,99] l=some l1) (h:iO aR l1=some (d,q)) (h2:jV q=(b,q2)):nP (n+1) aR l=(nP n b q2).map λp=>((d::p.1.1,p.1.2),p.2):=by rw [nP,show IE=[112,114,111,99] from rfl,h0]; simp only; rw [h]; simp only [Option.bind_some]; rw [h2]
theorem akr {n:Nat} {aR:Bool} {l l1:Tk} (h0:aD [112,114,111,99] l=some l1) (h:iO aR l1=none):nP (n+1) aR l=none:=by rw [nP,show IE=[112,114,111,99] from rfl,h0]; simp only; rw [h]; rfl
theorem JS:eR Tryz.prog 217=some [(0,1),(1,1),(2,1),(3,1)]:=by kernel_rfl
theorem aks (gb:Nat) (HT:View) (r:Option Addr×Nat) (l:Tk) (aR:Bool) (w:World) (aE:bL l) (hm:Sl aY 3 HT r.1 r.2 l) (hw:Ws w (List.flatMap ak.ids (aj gb r l)) (aj gb r l) [HT] w) :
   Calls Tryz.prog 146 #[.pointer (some ⟨gb,0,none⟩),.bool aR] w λe w'=>(∃(o:Option bI) (r2:Option Addr×Nat) (q:Tk),e = .returned (.tuple #[.agg #[.int .i64 ((o).getD (⟨0,[],aR,0⟩:bI)).kind,st ((o).getD (⟨0,[],aR,0⟩:bI)).nm,.bool ((o).getD (⟨0,[],aR,0⟩:bI)).aR,.int .i64 ((o).getD (⟨0,[],aR,0⟩:bI)).n],.bool (o).isSome])/\ff aR l=some (o,q)/\Sl aY 3 HT r2.1 r2.2 q/\Ws w (List.flatMap ak.ids (aj gb r l)) (aj gb r2 q) [HT] w')\/(∃(r2:Option Addr×Nat) (q:Tk),e = .panicked bz/\ff aR l=none/\Ws w (List.flatMap ak.ids (aj gb r l)) (aj gb r2 q) [HT] w'):=by
 refine enter Tryz.func146 O 50 O O ?_;refine CE hw (Cs (Cr ?_));refine Al Y O sS λb4=>?_;refine V0 (Ya O) (Ln (Et (Cs (Cr (V0 (Ym O) (V0 (Yb sS JS O O) ?_))))));refine Al Y O sS λb6=>?_;refine an 0 Y O O O u3 O O O (Ln (Et (Cs (Cb (Cs (Cr (V0 (Ym O) (Lf 2 O ?_))))))));refine Lw [_] _ Y O fV O O _ _ _ [HT] (by simp) (λw hw=>fW gb HT r l [99,111,110,115,116] w hm hw) ?_;intro ⟨kf,uW,eh⟩ ⟨akt,aku,wU⟩;refine V0 (Ya O) (Ln (Et ?_));refine Cc O (λad=>?_) (λad=>?_)
 ·have fZ:=akt ad;have wV:=gA aE fZ;refine Cs (Cr (V0 (Ym O) ?_))
  refine bd (ι:=(Tx)×(Option Addr×Nat)×Tk) (κ:=(Option Addr×Nat)×Tk) [_] _ Y O rn O O (λi=>st i.1) (λi=>aj gb i.2.1 i.2.2) (λi=>cG eh=some (i.1,i.2.2)/\Sl aY 3 HT i.2.1.1 i.2.1.2 i.2.2) (λ_=>bz) (λi=>aj gb i.1 i.2) (λ_=>cG eh=none) ([HT]) (by simp) (λw hw=>(rq gb HT uW eh w wU hw).mono λe w' h=>by
      rcases h with ⟨t,r2,q,h1,h2,h3,h4⟩ | ⟨r2,q,h1,h2,h3⟩
      · exact .inl ⟨(t,r2,q),h1,⟨h2,h3⟩,h4⟩
      · exact .inr ⟨(r2,q),h1,h2,h3⟩) ?_ ?_
  ·intro ⟨rp,qp⟩ hp;refine Ep (WE.aQ (Ep ?_));refine aJ λw' hw=>?_;exact .inr ⟨rp,qp,O,by simp only [ff,kG,kH,kJ,fZ,hp,Option.bind_some,Option.map_some,Option.bind_none,Option.map_none],(by have h:=hw; have h:=Wt 1 h; exact h)⟩
  intro ⟨s14,lu,iR⟩ ⟨nR,pU⟩;have JR:=rm wV nR;refine V0 (Yf Bo O) (an 1 Y O O O bX O O O (V0 (Yf D5 O) (an 1 Y O O O EN O O O (Ln (Et (Cs (Cr (V0 (Ym O) ?_))))))));refine Lb Y O dn O O O O λrC=>?_;refine fC (T:=9) (m:=1) 0 [[61]] O O (show 1<=1 by decide) (by decide) λxf E3=>?_
  refine bd (ι:=(Option Addr×Nat)×Tk) (κ:=(Option Addr×Nat)×Tk) [_] _ Y O gD O O (λ_=>.tuple #[]) (λi=>aj gb i.1 i.2) (λi=>bN [[61]] iR=some i.2/\Sl aY 3 HT i.1.1 i.1.2 i.2) (λ_=>bz) (λi=>aj gb i.1 i.2) (λ_=>bN [[61]] iR=none) ([HT,xf]) (by simp) (λw hw=>(gC gb HT lu iR xf _ _ [[61]] w E3 pU hw).mono λe w' h=>by
      rcases h with ⟨r2,q,h1,h2,h3,h4⟩ | ⟨r2,q,h1,h2,h3⟩
      · exact .inl ⟨(r2,q),h1,⟨h2,h3⟩,h4⟩
      · exact .inr ⟨(r2,q),h1,h2,h3⟩) ?_ ?_
  ·intro ⟨rp,qp⟩ hp;rw [c8] at hp;refine Ep (WE.aQ (Ep ?_));refine aJ λw' hw=>?_;exact .inr ⟨rp,qp,O,by simp only [ff,kG,kH,kJ,fZ,nR,hp,Option.bind_some,Option.map_some,Option.bind_none,Option.map_none],(by have h:=hw; have h:=Wt 1 h; have h:=Ws.bw h (a_:=[HT]) (by simp); exact h)⟩
  intro ⟨oO,jF⟩ ⟨pX,BG⟩;have yV:=gB JR pX;rw [c8] at pX;refine Ln (Et (Cr (V0 (Ym O) ?_)))
  refine bd (ι:=(Int)×(Option Addr×Nat)×Tk) (κ:=(Option Addr×Nat)×Tk) [_] _ Y O OD O O (λi=>.int .i64 i.1) (λi=>aj gb i.2.1 i.2.2) (λi=>jU jF=some (i.1,i.2.2)/\Sl aY 3 HT i.2.1.1 i.2.1.2 i.2.2) (λ_=>bz) (λi=>aj gb i.1 i.2) (λ_=>jU jF=none) ([HT]) (by simp) (λw hw=>(Ow gb HT oO jF w BG hw).mono λe w' h=>by
      rcases h with ⟨t,r2,q,h1,h2,h3,h4⟩ | ⟨r2,q,h1,h2,h3⟩
      · exact .inl ⟨(t,r2,q),h1,⟨h2,h3⟩,h4⟩
      · exact .inr ⟨(r2,q),h1,h2,h3⟩) ?_ ?_
  ·intro ⟨rp,qp⟩ hp;refine WE.aQ (Ep ?_);refine aJ λw' hw=>?_;exact .inr ⟨rp,qp,O,by simp only [ff,kG,kH,kJ,fZ,nR,pX,hp,Option.bind_some,Option.map_some,Option.bind_none,Option.map_none],(by have h:=hw; have h:=Wt 1 h; have h:=Ws.bw h (a_:=[HT]) (by simp); exact h)⟩
  intro ⟨n21,kg,oU⟩ ⟨s7,Pj⟩;have Pk:=Ov yV s7;refine V0 (Yf uZ O) (an 1 Y O O O bX O O O (Ln (Eb (Et (Cs (Cr (V0 (Ym O) ?_)))))));refine Lb Y O dn O O O O λwZ=>?_;refine fC (T:=9) (m:=1) 0 [[59]] O O (show 1<=1 by decide) (by decide) λxg E4=>?_
  refine bd (ι:=(Option Addr×Nat)×Tk) (κ:=(Option Addr×Nat)×Tk) [_] _ Y O gD O O (λ_=>.tuple #[]) (λi=>aj gb i.1 i.2) (λi=>bN [[59]] oU=some i.2/\Sl aY 3 HT i.1.1 i.1.2 i.2) (λ_=>bz) (λi=>aj gb i.1 i.2) (λ_=>bN [[59]] oU=none) ([HT,xg]) (by simp) (λw hw=>(gC gb HT kg oU xg _ _ [[59]] w E4 Pj hw).mono λe w' h=>by
      rcases h with ⟨r2,q,h1,h2,h3,h4⟩ | ⟨r2,q,h1,h2,h3⟩
      · exact .inl ⟨(r2,q),h1,⟨h2,h3⟩,h4⟩
      · exact .inr ⟨(r2,q),h1,h2,h3⟩) ?_ ?_
  ·intro ⟨rp,qp⟩ hp;rw [c8] at hp;refine Ep ?_;refine aJ λw' hw=>?_;exact .inr ⟨rp,qp,O,by simp only [ff,kG,kH,kJ,fZ,nR,pX,s7,hp,Option.bind_some,Option.map_some,Option.bind_none,Option.map_none],(by have h:=hw; have h:=Wt 1 h; have h:=Ws.bw h (a_:=[HT]) (by simp); exact h)⟩
  intro ⟨E5,s9⟩ ⟨rG,E6⟩;have YS:=gB Pk rG;rw [c8] at rG;refine Ln (Et (Cs (Cr (V0 (bA 1 O O oN O) (an 2 Y O O O u3 O O O (V0 (Ya O) (Ln (Et (az ?_)))))))));refine WE.dJ (gu O (cS 2 O O oN O) (iH O)) λw' hw=>?_;exact .inl ⟨some ⟨1,s14,aR,n21⟩,E5,s9,O,by simp only [ff,kG,kH,kJ,fZ,nR,pX,s7,rG,Option.bind_some,Option.map_some,Option.bind_none,Option.map_none],E6,Wv 2 (Wt 1 hw)⟩
 obtain ⟨jj,akw⟩:=aku ad;subst akw;refine Cs (Cr (V0 (Ym O) ?_));refine Lw [_] _ Y O fV O O _ _ _ [HT] (by simp) (λw hw=>fW gb HT uW l [118,97,114] w wU hw) ?_;intro ⟨YT,I7,yW⟩ ⟨akx,aky,I8⟩;refine V0 (Ya O) (Ln (Et ?_));refine Cc O (λar=>?_) (λar=>?_)
 ·have yX:=akx ar;have XT:=gA aE yX;refine Cr (V0 (Ym O) ?_)
  refine bd (ι:=(Tx)×(Option Addr×Nat)×Tk) (κ:=(Option Addr×Nat)×Tk) [_] _ Y O rn O O (λi=>st i.1) (λi=>aj gb i.2.1 i.2.2) (λi=>cG yW=some (i.1,i.2.2)/\Sl aY 3 HT i.2.1.1 i.2.1.2 i.2.2) (λ_=>bz) (λi=>aj gb i.1 i.2) (λ_=>cG yW=none) ([HT]) (by simp) (λw hw=>(rq gb HT I7 yW w I8 hw).mono λe w' h=>by
      rcases h with ⟨t,r2,q,h1,h2,h3,h4⟩ | ⟨r2,q,h1,h2,h3⟩
      · exact .inl ⟨(t,r2,q),h1,⟨h2,h3⟩,h4⟩
      · exact .inr ⟨(r2,q),h1,h2,h3⟩) ?_ ?_
  ·intro ⟨rp,qp⟩ hp;refine WE.aQ (Ep ?_);refine aJ λw' hw=>?_;exact .inr ⟨rp,qp,O,by simp only [ff,kG,kH,kJ,jj,yX,hp,Option.bind_some,Option.map_some,Option.bind_none,Option.map_none],(by have h:=hw; have h:=Wt 1 h; exact h)⟩
  intro ⟨s27,JT,s_⟩ ⟨ta,Po⟩;have Pp:=rm XT ta;refine V0 (Yf Bo O) (an 1 Y O O O bX O O O (V0 (Yf D5 O) (an 1 Y O O O EN O O O (Ln (Eb (Et (Cs (Cr (V0 (Ym O) ?_)))))))));refine Lb Y O dn O O O O λwZ=>?_;refine fC (T:=9) (m:=1) 0 [[59]] O O (show 1<=1 by decide) (by decide) λxg E4=>?_
  refine bd (ι:=(Option Addr×Nat)×Tk) (κ:=(Option Addr×Nat)×Tk) [_] _ Y O gD O O (λ_=>.tuple #[]) (λi=>aj gb i.1 i.2) (λi=>bN [[59]] s_=some i.2/\Sl aY 3 HT i.1.1 i.1.2 i.2) (λ_=>bz) (λi=>aj gb i.1 i.2) (λ_=>bN [[59]] s_=none) ([HT,xg]) (by simp) (λw hw=>(gC gb HT JT s_ xg _ _ [[59]] w E4 Po hw).mono λe w' h=>by
      rcases h with ⟨r2,q,h1,h2,h3,h4⟩ | ⟨r2,q,h1,h2,h3⟩
      · exact .inl ⟨(r2,q),h1,⟨h2,h3⟩,h4⟩
      · exact .inr ⟨(r2,q),h1,h2,h3⟩) ?_ ?_
  ·intro ⟨rp,qp⟩ hp;rw [c8] at hp;refine Ep ?_;refine aJ λw' hw=>?_;exact .inr ⟨rp,qp,O,by simp only [ff,kG,kH,kJ,jj,yX,ta,hp,Option.bind_some,Option.map_some,Option.bind_none,Option.map_none],(by have h:=hw; have h:=Wt 1 h; have h:=Ws.bw h (a_:=[HT]) (by simp); exact h)⟩
  intro ⟨E5,s9⟩ ⟨rG,E6⟩;have YS:=gB Pp rG;rw [c8] at rG;refine Ln (Et (Cs (Cr (V0 (bA 1 O O oN O) (an 2 Y O O O u3 O O O (V0 (Ya O) (Ln (Et (az ?_)))))))));refine WE.dJ (gu O (cS 2 O O oN O) (iH O)) λw' hw=>?_;exact .inl ⟨some ⟨2,s27,aR,0⟩,E5,s9,O,by simp only [ff,kG,kH,kJ,jj,yX,ta,rG,Option.bind_some,Option.map_some,Option.bind_none,Option.map_none],E6,Wv 1 (Wt 1 hw)⟩
 obtain ⟨zg,akA⟩:=aky ar;subst akA;refine Cs (Cr (V0 (Ym O) ?_));refine Lw [_] _ Y O fV O O _ _ _ [HT] (by simp) (λw hw=>fW gb HT I7 l [97,114,114,97,121] w I8 hw) ?_;intro ⟨YU,YW,Pq⟩ ⟨akB,akC,JU⟩;refine V0 (Ya O) (Ln (Et ?_));refine Cc O (λay=>?_) (λay=>?_)
 ·have zh:=akB ay;have akD:=gA aE zh;refine Cs (Cr (V0 (Ym O) ?_))
  refine bd (ι:=(Tx)×(Option Addr×Nat)×Tk) (κ:=(Option Addr×Nat)×Tk) [_] _ Y O rn O O (λi=>st i.1) (λi=>aj gb i.2.1 i.2.2) (λi=>cG Pq=some (i.1,i.2.2)/\Sl aY 3 HT i.2.1.1 i.2.1.2 i.2.2) (λ_=>bz) (λi=>aj gb i.1 i.2) (λ_=>cG Pq=none) ([HT]) (by simp) (λw hw=>(rq gb HT YW Pq w JU hw).mono λe w' h=>by
      rcases h with ⟨t,r2,q,h1,h2,h3,h4⟩ | ⟨r2,q,h1,h2,h3⟩
      · exact .inl ⟨(t,r2,q),h1,⟨h2,h3⟩,h4⟩
      · exact .inr ⟨(r2,q),h1,h2,h3⟩) ?_ ?_
  ·intro ⟨rp,qp⟩ hp;refine Ep (WE.aQ (Ep ?_));refine aJ λw' hw=>?_;exact .inr ⟨rp,qp,O,by simp only [ff,kG,kH,kJ,jj,zg,zh,hp,Option.bind_some,Option.map_some,Option.bind_none,Option.map_none],(by have h:=hw; have h:=Wt 1 h; exact h)⟩
  intro ⟨s34,EG,yZ⟩ ⟨va,I9⟩;have XW:=rm akD va;refine V0 (Yf Bo O) (an 1 Y O O O bX O O O (V0 (Yf D5 O) (an 1 Y O O O EN O O O (Ln (Et (Cs (Cr (V0 (Ym O) ?_))))))));refine Lb Y O dn O O O O λvd=>?_;refine fC (T:=9) (m:=1) 0 [[91]] O O (show 1<=1 by decide) (by decide) λE7 Pr=>?_
  refine bd (ι:=(Option Addr×Nat)×Tk) (κ:=(Option Addr×Nat)×Tk) [_] _ Y O gD O O (λ_=>.tuple #[]) (λi=>aj gb i.1 i.2) (λi=>bN [[91]] yZ=some i.2/\Sl aY 3 HT i.1.1 i.1.2 i.2) (λ_=>bz) (λi=>aj gb i.1 i.2) (λ_=>bN [[91]] yZ=none) ([HT,E7]) (by simp) (λw hw=>(gC gb HT EG yZ E7 _ _ [[91]] w Pr I9 hw).mono λe w' h=>by
      rcases h with ⟨r2,q,h1,h2,h3,h4⟩ | ⟨r2,q,h1,h2,h3⟩
      · exact .inl ⟨(r2,q),h1,⟨h2,h3⟩,h4⟩
      · exact .inr ⟨(r2,q),h1,h2,h3⟩) ?_ ?_
  ·intro ⟨rp,qp⟩ hp;rw [c8] at hp;refine Ep (WE.aQ (Ep ?_));refine aJ λw' hw=>?_;exact .inr ⟨rp,qp,O,by simp only [ff,kG,kH,kJ,jj,zg,zh,va,hp,Option.bind_some,Option.map_some,Option.bind_none,Option.map_none],(by have h:=hw; have h:=Wt 1 h; have h:=Ws.bw h (a_:=[HT]) (by simp); exact h)⟩
  intro ⟨JL,nV⟩ ⟨oT,JM⟩;have JN:=gB XW oT;rw [c8] at oT;refine Ln (Et (Cs (Cr (V0 (Ym O) ?_))))
  refine bd (ι:=(Int)×(Option Addr×Nat)×Tk) (κ:=(Option Addr×Nat)×Tk) [_] _ Y O OD O O (λi=>.int .i64 i.1) (λi=>aj gb i.2.1 i.2.2) (λi=>jU nV=some (i.1,i.2.2)/\Sl aY 3 HT i.2.1.1 i.2.1.2 i.2.2) (λ_=>bz) (λi=>aj gb i.1 i.2) (λ_=>jU nV=none) ([HT]) (by simp) (λw hw=>(Ow gb HT JL nV w JM hw).mono λe w' h=>by
      rcases h with ⟨t,r2,q,h1,h2,h3,h4⟩ | ⟨r2,q,h1,h2,h3⟩
      · exact .inl ⟨(t,r2,q),h1,⟨h2,h3⟩,h4⟩
      · exact .inr ⟨(r2,q),h1,h2,h3⟩) ?_ ?_
  ·intro ⟨rp,qp⟩ hp;refine Ep (WE.aQ (Ep ?_));refine aJ λw' hw=>?_;exact .inr ⟨rp,qp,O,by simp only [ff,kG,kH,kJ,jj,zg,zh,va,oT,hp,Option.bind_some,Option.map_some,Option.bind_none,Option.map_none],(by have h:=hw; have h:=Wt 1 h; have h:=Ws.bw h (a_:=[HT]) (by simp); exact h)⟩
  intro ⟨n41,cC,tc⟩ ⟨rH,Ps⟩;have Pt:=Ov JN rH;refine V0 (Yf uZ O) (an 1 Y O O O bX O O O (Ln (Et (Cr (V0 (Ym O) ?_)))));refine Lb Y O dn O O O O λb44=>?_;refine fC (T:=9) (m:=1) 0 [[93]] O O (show 1<=1 by decide) (by decide) λYX akF=>?_
  refine bd (ι:=(Option Addr×Nat)×Tk) (κ:=(Option Addr×Nat)×Tk) [_] _ Y O gD O O (λ_=>.tuple #[]) (λi=>aj gb i.1 i.2) (λi=>bN [[93]] tc=some i.2/\Sl aY 3 HT i.1.1 i.1.2 i.2) (λ_=>bz) (λi=>aj gb i.1 i.2) (λ_=>bN [[93]] tc=none) ([HT,YX]) (by simp) (λw hw=>(gC gb HT cC tc YX _ _ [[93]] w akF Ps hw).mono λe w' h=>by
      rcases h with ⟨r2,q,h1,h2,h3,h4⟩ | ⟨r2,q,h1,h2,h3⟩
      · exact .inl ⟨(r2,q),h1,⟨h2,h3⟩,h4⟩
      · exact .inr ⟨(r2,q),h1,h2,h3⟩) ?_ ?_
  ·intro ⟨rp,qp⟩ hp;rw [c8] at hp;refine WE.aQ (Ep ?_);refine aJ λw' hw=>?_;exact .inr ⟨rp,qp,O,by simp only [ff,kG,kH,kJ,jj,zg,zh,va,oT,rH,hp,Option.bind_some,Option.map_some,Option.bind_none,Option.map_none],(by have h:=hw; have h:=Wt 1 h; have h:=Ws.bw h (a_:=[HT]) (by simp); exact h)⟩
  intro ⟨BM,mR⟩ ⟨pZ,BN⟩;have y_:=gB Pt pZ;rw [c8] at pZ;refine Ln (Eb (Et (Cs (Cr (V0 (Ym O) ?_)))));refine Lb Y O dn O O O O λwZ=>?_;refine fC (T:=9) (m:=1) 0 [[59]] O O (show 1<=1 by decide) (by decide) λxg E4=>?_
  refine bd (ι:=(Option Addr×Nat)×Tk) (κ:=(Option Addr×Nat)×Tk) [_] _ Y O gD O O (λ_=>.tuple #[]) (λi=>aj gb i.1 i.2) (λi=>bN [[59]] mR=some i.2/\Sl aY 3 HT i.1.1 i.1.2 i.2) (λ_=>bz) (λi=>aj gb i.1 i.2) (λ_=>bN [[59]] mR=none) ([HT,xg]) (by simp) (λw hw=>(gC gb HT BM mR xg _ _ [[59]] w E4 BN hw).mono λe w' h=>by
      rcases h with ⟨r2,q,h1,h2,h3,h4⟩ | ⟨r2,q,h1,h2,h3⟩
      · exact .inl ⟨(r2,q),h1,⟨h2,h3⟩,h4⟩
      · exact .inr ⟨(r2,q),h1,h2,h3⟩) ?_ ?_
  ·intro ⟨rp,qp⟩ hp;rw [c8] at hp;refine Ep ?_;refine aJ λw' hw=>?_;exact .inr ⟨rp,qp,O,by simp only [ff,kG,kH,kJ,jj,zg,zh,va,oT,rH,pZ,hp,Option.bind_some,Option.map_some,Option.bind_none,Option.map_none],(by have h:=hw; have h:=Wt 1 h; have h:=Ws.bw h (a_:=[HT]) (by simp); exact h)⟩
  intro ⟨E5,s9⟩ ⟨rG,E6⟩;have YS:=gB y_ rG;rw [c8] at rG;refine Ln (Et (Cs (Cr (V0 (bA 1 O O oN O) (an 2 Y O O O u3 O O O (V0 (Ya O) (Ln (Et (az ?_)))))))));refine WE.dJ (gu O (cS 2 O O oN O) (iH O)) λw' hw=>?_;exact .inl ⟨some ⟨3,s34,aR,n41⟩,E5,s9,O,by simp only [ff,kG,kH,kJ,jj,zg,zh,va,oT,rH,pZ,rG,Option.bind_some,Option.map_some,Option.bind_none,Option.map_none],E6,Wv 3 (Wt 1 hw)⟩
 obtain ⟨nX,akG⟩:=akC ay;subst akG;refine Cs (Cr (V0 (bA 1 O O oN O) (an 2 Y O O O u3 O O O (V0 (Ya O) (Ln (Et (az (bR (Er ?_)))))))));refine WE.dJ (gu O (cS 2 O O oN O) (iH O)) λw' hw=>?_;exact .inl ⟨none,YW,l,O,by simp only [ff,kG,kH,kJ,jj,zg,nX,Option.bind_some,Option.map_some,Option.bind_none,Option.map_none],JU,Wt 1 hw⟩
def E8 (nm:Tx) (aR:Bool) (a1:Option Addr) (n1 c1:Nat) (a2:Option Addr) (n2 c2:Nat) (a3:Option Addr) (n3 c3:Nat):List Value:=[st nm,.bool aR,.slice a1 n1 c1,.slice a2 n2 c2,.slice a3 n3 c3]
theorem YY:eR Tryz.prog 213=some [(0,1),(1,1),(2,1),(3,1),(4,1)]:=by kernel_rfl
theorem JV:cq Tryz.prog 22=some 1:=by kernel_rfl
theorem akH (gb:Nat) (HT:View) (r:Option Addr×Nat) (l:Tk) (aR:Bool) (w:World) (aE:bL l) (hm:Sl aY 3 HT r.1 r.2 l) (hw:Ws w (List.flatMap ak.ids (aj gb r l)) (aj gb r l) [HT] w) :
   Calls Tryz.prog 147 #[.pointer (some ⟨gb,0,none⟩),.bool aR] w λe w'=>(∃(p:dC) (s:BV) (r2:Option Addr×Nat) (q:Tk),e = .returned (.agg #[st (p).nm,.bool (p).aR,.slice (s).s1.1 (p).params.length (s).s1.2,.slice (s).s2.1 (p).av.length (s).s2.2,.slice (s).s3.1 (p).body.length (s).s3.2])/\iO aR l=some (p,q)/\zf (nv w w') p s/\Sl aY 3 HT r2.1 r2.2 q/\Ws w (List.flatMap ak.ids (aj gb r l)) (aj gb r2 q) [HT] w')\/(∃(r2:Option Addr×Nat) (q:Tk),e = .panicked bz/\iO aR l=none/\Ws w (List.flatMap ak.ids (aj gb r l)) (aj gb r2 q) [HT] w'):=by
 refine enter Tryz.func147 O 46 O O ?_;refine CE hw (Cs (Cr ?_));refine Al Y O wK λb4=>?_;refine bH 0 (.cells (E8 [] false none 0 0 none 0 0 none 0 0).toArray 213 (0,0)) O O (Ln (Et (Cs (Cr (V0 (Ym O) (V0 (Ym O) (Lf 1 O ?_)))))))
 refine bd (ι:=(Tx)×(Option Addr×Nat)×Tk) (κ:=(Option Addr×Nat)×Tk) [_] _ Y O rn O O (λi=>st i.1) (λi=>aj gb i.2.1 i.2.2) (λi=>cG l=some (i.1,i.2.2)/\Sl aY 3 HT i.2.1.1 i.2.1.2 i.2.2) (λ_=>bz) (λi=>aj gb i.1 i.2) (λ_=>cG l=none) ([HT]) (by simp) (λw hw=>(rq gb HT r l w hm hw).mono λe w' h=>by
     rcases h with ⟨t,r2,q,h1,h2,h3,h4⟩ | ⟨r2,q,h1,h2,h3⟩
     · exact .inl ⟨(t,r2,q),h1,⟨h2,h3⟩,h4⟩
     · exact .inr ⟨(r2,q),h1,h2,h3⟩) ?_ ?_
 ·intro ⟨rp,qp⟩ hp;refine Ep ?_;refine aJ λw' hw=>?_;exact .inr ⟨rp,qp,O,by simp only [iO,hp,Option.bind_none],(by have h:=hw; have h:=Wt 1 h; exact h)⟩
 intro ⟨s8,r8,q8⟩ ⟨nS,I1⟩;have Ox:=rm aE nS;refine V0 (Yb wK YY O O) ?_;refine Al Y O wK λb5=>?_;refine an 0 Y O O O By O O O (LW (λ_ h=>h.fB 9 1) (LW (λ_ h=>h.fB 9 1) (Ln (Et (Cs (Cr (V0 (Ym O) ?_)))))));refine Lb Y O dn O O O O λrj=>?_;refine fC (T:=9) (m:=1) 0 [[40]] O O (show 1<=1 by decide) (by decide) λBU EZ=>?_;refine Lf 3 O ?_
 refine bd (ι:=(Option Addr×Nat)×Tk) (κ:=(Option Addr×Nat)×Tk) [_] _ Y O gD O O (λ_=>.tuple #[]) (λi=>aj gb i.1 i.2) (λi=>bN [[40]] q8=some i.2/\Sl aY 3 HT i.1.1 i.1.2 i.2) (λ_=>bz) (λi=>aj gb i.1 i.2) (λ_=>bN [[40]] q8=none) ([HT,BU]) (by simp) (λw hw=>(gC gb HT r8 q8 BU _ _ [[40]] w EZ I1 hw).mono λe w' h=>by
     rcases h with ⟨r2,q,h1,h2,h3,h4⟩ | ⟨r2,q,h1,h2,h3⟩
     · exact .inl ⟨(r2,q),h1,⟨h2,h3⟩,h4⟩
     · exact .inr ⟨(r2,q),h1,h2,h3⟩) ?_ ?_
 ·intro ⟨rp,qp⟩ hp;rw [c8] at hp;refine Ep ?_;refine aJ λw' hw=>?_;exact .inr ⟨rp,qp,O,by simp only [iO,nS,hp,Option.bind_some,Option.bind_none],(by have h:=hw; have h:=Wt 1 h; have h:=Ws.bw h (a_:=[HT]) (by simp); exact h)⟩
 intro ⟨uW,eh⟩ ⟨fZ,wU⟩;have wV:=gB Ox fZ;rw [c8] at fZ;refine Ln (Et (Cs (Cb ?_)));refine cU (ι:=GN) (λg=>[]) [(0,_),(4,_),(5,_)] (λg=>Ws w (List.flatMap ak.ids (aj gb r l)) (aj gb g.r g.q++[ab b5 (.cells (E8 s8 aR g.a g.ps.length g.c none 0 0 none 0 0).toArray 213 (0,0)),bo 9 1 d_ g.a g.c g.ps,(bo 9 1 d_ none 0 ([]:List Tx)),ab b4 (.cells (E8 [] false none 0 0 none 0 0 none 0 0).toArray 213 (0,0))]) [HT]) (λg=>(g.ps.length+g.q.length<=l.length/\bL g.q)/\Sl aY 3 HT g.r.1 g.r.2 g.q/\∃n,g.q.length<n/\iN (eh.length+1) true eh=(iN n (isNil g.ps) g.q).map λp=>(g.ps++p.1,p.2)) (λg=>g.q.length) ⟨[],none,0,uW,eh⟩ ⟨⟨by have:q8.length<l.length:=nW aE nS; have:eh.length+1=q8.length:=gz fZ; simp; omega,wV⟩,wU,eh.length+1,by simp,by simp [isNil]⟩ (sc O (sc O (sc O sn))) (λ_ h=>by have h:=h.ao 4 O; have h:=h.ao 3 O; have h:=h.ao 3 O; have h:=h.ao 4 O; have h:=h.ao 4 O; have h:=Ws.bw h (a_:=[HT]) (by simp); exact h) ?_;intro g ⟨⟨hlen,kQ⟩,pT,hA⟩;refine Cs (Cs (Cr (V0 (Ym O) ?_)));refine Lw [_] _ Y O fV O O _ _ _ [HT] (by simp) (λw hw=>fW gb HT g.r g.q [41] w pT hw) ?_;intro ⟨yT,lu,iR⟩ ⟨El,En,pU⟩;refine V0 (eu O) (Ln (Et ?_));refine Cc O (λad=>?_) (λad=>?_)
 ·obtain ⟨iz,IZ⟩:=En (by simpa using ad);subst IZ;obtain ⟨n,hn,hA⟩:=hA;obtain ⟨n,rfl⟩:∃k,n=k+1:=⟨n-1,by omega⟩;refine Ck (Et (Cb (Cs (Cs (Cr (V0 (Yf sT O) (V0 (Yd 1 O O O fh) (V0 (Yn dY O) (V0 (bZ O O) (Ln (Et ?_)))))))))));refine Cc O (λar=>?_) (λar=>?_)
  ·have Pu:0<g.ps.length:=by simpa using ar
   rw [akd Pu] at hA;refine Cr (V0 (Ym O) ?_);refine Lb Y O dn O O O O λPv=>?_;refine fC (T:=9) (m:=1) 0 [[44]] O O (show 1<=1 by decide) (by decide) λYZ akI=>?_
   refine bd (ι:=(Option Addr×Nat)×Tk) (κ:=(Option Addr×Nat)×Tk) [_] _ Y O gD O O (λ_=>.tuple #[]) (λi=>aj gb i.1 i.2) (λi=>bN [[44]] g.q=some i.2/\Sl aY 3 HT i.1.1 i.1.2 i.2) (λ_=>bz) (λi=>aj gb i.1 i.2) (λ_=>bN [[44]] g.q=none) ([HT,YZ]) (by simp) (λw hw=>(gC gb HT lu g.q YZ _ _ [[44]] w akI pU hw).mono λe w' h=>by
       rcases h with ⟨r2,q,h1,h2,h3,h4⟩ | ⟨r2,q,h1,h2,h3⟩
       · exact .inl ⟨(r2,q),h1,⟨h2,h3⟩,h4⟩
       · exact .inr ⟨(r2,q),h1,h2,h3⟩) ?_ ?_
   ·intro ⟨rp,qp⟩ hp;rw [c8] at hp;refine Ep (WE.aQ (Ep (WE.aQ (Ep ?_))));refine aJ λw' hw=>?_;rw [aka iz hp] at hA;exact .inr ⟨rp,qp,O,by simp only [iO,nS,fZ,hA,Option.bind_some,Option.bind_none,Option.map_none],(by have h:=hw; have h:=Wt 1 h; have h:=Ws.bw h (a_:=[HT]) (by simp); exact h)⟩
   intro ⟨OF,mQ⟩ ⟨pY,OG⟩;have BH:=gB kQ pY;rw [c8] at pY;refine Ln (Et ?_);refine CU (λ_=>true) [0,1] [6,7] (.q false 0 (.q true 1 (.q false 2 (.e 3 (.e 4 (.e 5 .nil .stop) .stop) .stop)))) mixed (by kernel_rfl) (λ_ _ _ d _ _ h=>by cases d<;>exact h) ?_;refine U0 O (bk [0,1]) (Yf sT O) (U0 O (bk [0,1]) (Yd 0 O O O fh) (U0 O (bk [0,1]) (Ym O) ?_));refine Ue O (bk [0,1]) ?_ WU.stop
   refine bd (ι:=(Tx)×(Option Addr×Nat)×Tk) (κ:=(Option Addr×Nat)×Tk) [_] _ Y O rn O O (λi=>st i.1) (λi=>aj gb i.2.1 i.2.2) (λi=>cG mQ=some (i.1,i.2.2)/\Sl aY 3 HT i.2.1.1 i.2.1.2 i.2.2) (λ_=>bz) (λi=>aj gb i.1 i.2) (λ_=>cG mQ=none) ([HT]) (by simp) (λw hw=>(rq gb HT OF mQ w OG hw).mono λe w' h=>by
       rcases h with ⟨t,r2,q,h1,h2,h3,h4⟩ | ⟨r2,q,h1,h2,h3⟩
       · exact .inl ⟨(t,r2,q),h1,⟨h2,h3⟩,h4⟩
       · exact .inr ⟨(r2,q),h1,h2,h3⟩) ?_ ?_
   ·intro ⟨rp,qp⟩ hp;refine Ep (WE.aQ (Ep (WE.aQ (Ep ?_))));refine aJ λw' hw=>?_;rw [akb iz pY hp] at hA;exact .inr ⟨rp,qp,O,by simp only [iO,nS,fZ,hA,Option.bind_some,Option.bind_none,Option.map_none],(by have h:=hw; have h:=Wt 1 h; have h:=Ws.bw h (a_:=[HT]) (by simp); exact h)⟩
   intro ⟨vi,ES,jH⟩ ⟨mS,ET⟩;have EU:=rm BH mS;refine Ln (Eu ?_);refine Ue O (bk [0,1]) ?_ WU.stop;refine Lb Y O dn O O O O λE9=>?_;refine bH 0 (.cells (d_ vi).toArray 9 (0,0)) O O (Ln (Eu ?_));refine Ue O (λ_ h=>(Wo 1 (Wo 0 (Wd 1 h)):)) ?_ WU.stop;refine LA (vi:Tx) 3 0 Y O dn O O O O O O (by have:=aE.len; omega) (by have:=aE.len; omega) λa28 c28=>?_;refine Ln (Eu ?_);refine WU.nil (λ_ h=>(Wo 1 (Wo 0 (Wd 1 h)):)) ?_;refine WS.e O ?_;refine V0 (Yf sT O) (Ln (Es ?_));refine WS.e O ?_;refine an 2 Y O O O JV O O O (Ln (Es ?_));refine WS.nil ?_;refine Eb ?_
   exact Ea (⟨g.ps++[vi],a28,c28,ES,jH⟩:GN) (by have:jH.length<mQ.length:=nW BH mS; have:mQ.length+1=g.q.length:=gz pY; show jH.length<g.q.length; omega) ⟨⟨by have:jH.length<mQ.length:=nW BH mS; have:mQ.length+1=g.q.length:=gz pY; simp; omega,EU⟩,ET,n,(show jH.length<n by have:jH.length<mQ.length:=nW BH mS; have:mQ.length+1=g.q.length:=gz pY; omega),by rw [hA,aj_ iz pY mS,YQ]; simp [Function.comp_def]⟩ (sc O (sc O (sc O sn))) (λ_ h=>by
       have h:=h.ao 5 rfl;have h:=h.ao 5 rfl;have h:=h.ao 5 rfl;have h:=h.ao 5 rfl;have h:=h.ao 5 rfl;have h:=Wt 5 h;have h:=Ws.bw h (a_:=[HT]) (by simp)
       exact h)
  have Pu:¬0<g.ps.length:=by simpa using ar
  rw [akc Pu] at hA;refine Ck (Et ?_);refine CU (λ_=>true) [0,1] [6,7] (.q false 0 (.q true 1 (.q false 2 (.e 3 (.e 4 (.e 5 .nil .stop) .stop) .stop)))) mixed (by kernel_rfl) (λ_ _ _ d _ _ h=>by cases d<;>exact h) ?_;refine U0 O (bk [0,1]) (Yf sT O) (U0 O (bk [0,1]) (Yd 0 O O O fh) (U0 O (bk [0,1]) (Ym O) ?_));refine Ue O (bk [0,1]) ?_ WU.stop
  refine bd (ι:=(Tx)×(Option Addr×Nat)×Tk) (κ:=(Option Addr×Nat)×Tk) [_] _ Y O rn O O (λi=>st i.1) (λi=>aj gb i.2.1 i.2.2) (λi=>cG g.q=some (i.1,i.2.2)/\Sl aY 3 HT i.2.1.1 i.2.1.2 i.2.2) (λ_=>bz) (λi=>aj gb i.1 i.2) (λ_=>cG g.q=none) ([HT]) (by simp) (λw hw=>(rq gb HT lu g.q w pU hw).mono λe w' h=>by
      rcases h with ⟨t,r2,q,h1,h2,h3,h4⟩ | ⟨r2,q,h1,h2,h3⟩
      · exact .inl ⟨(t,r2,q),h1,⟨h2,h3⟩,h4⟩
      · exact .inr ⟨(r2,q),h1,h2,h3⟩) ?_ ?_
  ·intro ⟨rp,qp⟩ hp;refine Ep (WE.aQ (Ep (WE.aQ (Ep ?_))));refine aJ λw' hw=>?_;rw [aj' iz hp] at hA;exact .inr ⟨rp,qp,O,by simp only [iO,nS,fZ,hA,Option.bind_some,Option.bind_none,Option.map_none],(by have h:=hw; have h:=Wt 1 h; exact h)⟩
  intro ⟨vi,ES,jH⟩ ⟨mS,ET⟩;have EU:=rm kQ mS;refine Ln (Eu ?_);refine Ue O (bk [0,1]) ?_ WU.stop;refine Lb Y O dn O O O O λE9=>?_;refine bH 0 (.cells (d_ vi).toArray 9 (0,0)) O O (Ln (Eu ?_));refine Ue O (λ_ h=>(Wo 1 (Wo 0 (Wd 1 h)):)) ?_ WU.stop;refine LA (vi:Tx) 3 0 Y O dn O O O O O O (by have:=aE.len; omega) (by have:=aE.len; omega) λa28 c28=>?_;refine Ln (Eu ?_);refine WU.nil (λ_ h=>(Wo 1 (Wo 0 (Wd 1 h)):)) ?_;refine WS.e O ?_;refine V0 (Yf sT O) (Ln (Es ?_));refine WS.e O ?_;refine an 2 Y O O O JV O O O (Ln (Es ?_));refine WS.nil ?_;refine Eb ?_
  exact Ea (⟨g.ps++[vi],a28,c28,ES,jH⟩:GN) (by have:jH.length<g.q.length:=nW kQ mS; show jH.length<g.q.length; omega) ⟨⟨by have:jH.length<g.q.length:=nW kQ mS; simp; omega,EU⟩,ET,n,(show jH.length<n by have:jH.length<g.q.length:=nW kQ mS; omega),by rw [hA,aj9 iz mS,YQ]; simp [Function.comp_def]⟩ (sc O (sc O (sc O sn))) (λ_ h=>by
      have h:=h.ao 5 rfl;have h:=h.ao 5 rfl;have h:=h.ao 5 rfl;have h:=h.ao 5 rfl;have h:=h.ao 5 rfl;have h:=Wt 5 h;have h:=Ws.bw h (a_:=[HT]) (by simp)
      exact h)
 have nR:=El (by simpa using ad);have JR:=gA kQ nR;obtain ⟨n,hn,hA⟩:=hA;obtain ⟨n,rfl⟩:∃k,n=k+1:=⟨n-1,by omega⟩;rw [aj8 nR] at hA;simp at hA;refine Ce (Ex (Ex (cf (Et (Cs (Cb ?_))))));refine cU (ι:=GN) (λv=>[]) [(0,_),(4,_),(5,_)] (λv=>Ws w (List.flatMap ak.ids (aj gb r l)) (aj gb v.r v.q++[ab b5 (.cells (E8 s8 aR g.a g.ps.length g.c v.a v.ps.length v.c none 0 0).toArray 213 (0,0)),bo 9 1 d_ g.a g.c g.ps,bo 9 1 d_ v.a v.c v.ps,ab b4 (.cells (E8 [] false none 0 0 none 0 0 none 0 0).toArray 213 (0,0))]) [HT]) (λv=>(v.ps.length+v.q.length<=l.length/\bL v.q)/\Sl aY 3 HT v.r.1 v.r.2 v.q/\∃n,v.q.length<n/\ll (iR.length+1) iR=(ll n v.q).map λp=>(v.ps++p.1,p.2)) (λv=>v.q.length) ⟨[],none,0,lu,iR⟩ ⟨⟨by have:iR.length+1=g.q.length:=gz nR; simp; omega,JR⟩,pU,iR.length+1,by simp,by simp⟩ (sc O (sc O (sc O sn))) (λ_ h=>h) ?_;intro v ⟨⟨akJ,zi⟩,Pw,hB⟩;refine Cs (Cs (Cr (V0 (Ym O) ?_)));refine Lw [_] _ Y O fV O O _ _ _ [HT] (by simp) (λw hw=>fW gb HT v.r v.q [108,111,99,97,108] w Pw hw) ?_;intro ⟨JD,EV,nU⟩ ⟨O8,O9,EW⟩;refine Ln (Et ?_);refine Cc O (λay=>?_) (λay=>?_)
 ·have lv:=O8 ay;have xb:=gA zi lv;obtain ⟨n,hn,hB⟩:=hB;obtain ⟨n,rfl⟩:∃k,n=k+1:=⟨n-1,by omega⟩;refine Ck (Et (Cb (Cs ?_)));refine CU (λ_=>true) [0,2] [6,7] (.q false 0 (.q true 1 (.q false 2 (.e 3 (.e 4 (.e 5 .nil .stop) .stop) .stop)))) mixed (by kernel_rfl) (λ_ _ _ d _ _ h=>by cases d<;>exact h) ?_;refine U0 O (bk [0,2]) (Yf Bz O) (U0 O (bk [0,2]) (Yd 0 O O O fh) (U0 O (bk [0,2]) (Ym O) ?_));refine Ue O (bk [0,2]) ?_ WU.stop
  refine bd (ι:=(Tx)×(Option Addr×Nat)×Tk) (κ:=(Option Addr×Nat)×Tk) [_] _ Y O rn O O (λi=>st i.1) (λi=>aj gb i.2.1 i.2.2) (λi=>cG nU=some (i.1,i.2.2)/\Sl aY 3 HT i.2.1.1 i.2.1.2 i.2.2) (λ_=>bz) (λi=>aj gb i.1 i.2) (λ_=>cG nU=none) ([HT]) (by simp) (λw hw=>(rq gb HT EV nU w EW hw).mono λe w' h=>by
      rcases h with ⟨t,r2,q,h1,h2,h3,h4⟩ | ⟨r2,q,h1,h2,h3⟩
      · exact .inl ⟨(t,r2,q),h1,⟨h2,h3⟩,h4⟩
      · exact .inr ⟨(r2,q),h1,h2,h3⟩) ?_ ?_
  ·intro ⟨rp,qp⟩ hp;refine Ep (Ep (WE.aQ (Ep (WE.aQ (Ep ?_)))));refine aJ λw' hw=>?_;rw [akg lv hp] at hB;exact .inr ⟨rp,qp,O,by simp only [iO,nS,fZ,hA,hB,Option.bind_some,Option.bind_none,Option.map_none],(by have h:=hw; have h:=Wt 1 h; exact h)⟩
  intro ⟨Px,r35,vn⟩ ⟨BW,akL⟩;have akM:=rm xb BW;refine Ln (Eu ?_);refine Ue O (bk [0,2]) ?_ WU.stop;refine Lb Y O dn O O O O λb36=>?_;refine bH 0 (.cells (d_ Px).toArray 9 (0,0)) O O (Ln (Eu ?_));refine Ue O (λ_ h=>(Wo 2 (Wo 0 (Wd 1 h)):)) ?_ WU.stop;refine LA (Px:Tx) 4 0 Y O dn O O O O O O (by have:=aE.len; omega) (by have:=aE.len; omega) λa37 c37=>?_;refine Ln (Eu ?_);refine WU.nil (λ_ h=>(Wo 2 (Wo 0 (Wd 1 h)):)) ?_;refine WS.e O ?_;refine V0 (Yf Bz O) (Ln (Es ?_));refine WS.e O ?_;refine an 2 Y O O O JV O O O (Ln (Es ?_));refine WS.nil ?_;refine Et (Cr (V0 (Ym O) ?_));refine Lb Y O dn O O O O λs0=>?_;refine fC (T:=9) (m:=1) 0 [[59]] O O (show 1<=1 by decide) (by decide) λJO EY=>?_;refine Lf 1 O ?_
  refine bd (ι:=(Option Addr×Nat)×Tk) (κ:=(Option Addr×Nat)×Tk) [_] _ Y O gD O O (λ_=>.tuple #[]) (λi=>aj gb i.1 i.2) (λi=>bN [[59]] vn=some i.2/\Sl aY 3 HT i.1.1 i.1.2 i.2) (λ_=>bz) (λi=>aj gb i.1 i.2) (λ_=>bN [[59]] vn=none) ([HT,JO]) (by simp) (λw hw=>(gC gb HT r35 vn JO _ _ [[59]] w EY akL hw).mono λe w' h=>by
      rcases h with ⟨r2,q,h1,h2,h3,h4⟩ | ⟨r2,q,h1,h2,h3⟩
      · exact .inl ⟨(r2,q),h1,⟨h2,h3⟩,h4⟩
      · exact .inr ⟨(r2,q),h1,h2,h3⟩) ?_ ?_
  ·intro ⟨rp,qp⟩ hp;rw [c8] at hp;refine WE.aQ (Ep (WE.aQ (Ep ?_)));refine aJ λw' hw=>?_;rw [akh lv BW hp] at hB;exact .inr ⟨rp,qp,O,by simp only [iO,nS,fZ,hA,hB,Option.bind_some,Option.bind_none,Option.map_none],(by have h:=hw; have h:=Wt 1 h; have h:=Ws.bw h (a_:=[HT]) (by simp); exact h)⟩
  intro ⟨cC,tc⟩ ⟨rH,Ps⟩;have Pt:=gB akM rH;rw [c8] at rH;refine Ln (Eb ?_)
  exact Ea (⟨v.ps++[Px],a37,c37,cC,tc⟩:GN) (by have:nU.length+1=v.q.length:=gz lv; have:vn.length<nU.length:=nW xb BW; have:tc.length+1=vn.length:=gz rH; show tc.length<v.q.length; omega) ⟨⟨by have:nU.length+1=v.q.length:=gz lv; have:vn.length<nU.length:=nW xb BW; have:tc.length+1=vn.length:=gz rH; simp; omega,Pt⟩,Ps,n,(show tc.length<n by have:nU.length+1=v.q.length:=gz lv; have:vn.length<nU.length:=nW xb BW; have:tc.length+1=vn.length:=gz rH; omega),by rw [hB,akf lv BW rH]; simp [Function.comp_def]⟩ (sc O (sc O (sc O sn))) (λ_ h=>by
      have h:=h.ao 5 rfl;have h:=h.ao 5 rfl;have h:=h.ao 5 rfl;have h:=h.ao 5 rfl;have h:=h.ao 4 rfl;have h:=Wt 5 h;have h:=Ws.bw h (a_:=[HT]) (by simp)
      exact h)
 obtain ⟨BR,Pa⟩:=O9 ay;subst Pa;obtain ⟨n,hn,hB⟩:=hB;obtain ⟨n,rfl⟩:∃k,n=k+1:=⟨n-1,by omega⟩;rw [ake BR] at hB;simp at hB;refine Ce (Ex (Ex (cf (Et (Cs (Cr (V0 (Ym O) ?_)))))))
 refine iu (ι:=((List aP)×(Option Addr×Nat))×(Option Addr×Nat)×Tk) (κ:=(Option Addr×Nat)×Tk) [_] _ Y O EL O O (λi=>.slice i.1.2.1 i.1.1.length i.1.2.2) (λi=>aj gb i.2.1 i.2.2) (λF i=>eX 6 v.q=some (i.1.1,i.2.2)/\Sl (gY 7 6) 6 F i.1.2.1 i.1.2.2 i.1.1/\Sl aY 3 HT i.2.1.1 i.2.1.2 i.2.2) (λ_=>bz) (λi=>aj gb i.1 i.2) (λ_=>eX 6 v.q=none) ([HT]) (by simp) (λ_ _ h=>h) (λw hw=>(YO HT 6 gb EV v.q (1) w (by omega) zi EW hw).mono λe w' h=>by
     rcases h with ⟨x,s,r2,q,h1,h2,h3,h4,h5⟩ | ⟨r2,q,h1,h2,h3⟩
     · exact .inl ⟨((x,s),r2,q),h1,⟨h2,h3,h4⟩,h5⟩
     · exact .inr ⟨(r2,q),h1,h2,h3⟩) ?_ ?_
 ·intro ⟨rp,qp⟩ hp;refine Ep ?_;refine aJ λw' hw=>?_;exact .inr ⟨rp,qp,O,by simp only [iO,nS,fZ,hA,hB,hp,Option.bind_some,Option.bind_none,Option.map_none],(by have h:=hw; have h:=Wt 1 h; exact h)⟩
 intro F43 ⟨⟨akN,s43⟩,r43,Y0⟩ akQ ⟨Y1,akR,akS⟩;have auy:bL Y0:=EI zi Y1;refine V0 (Yf On O) (an 1 Y O O O EM O O O (Ln (Et (Cs ?_))));refine WC.pz (rd:=rdStr) 2 O (λk hk=>by simp [aj,ab] at hk; subst hk; simp [c_,aj,ab,dw]) oz (λ_ _ _ _ h=>h) λKP E' E_=>?_;refine WC.pz (rd:=rdStr) 2 O (λk hk=>by simp [aj,ab] at hk; subst hk; simp [c_,aj,ab,dw]) oz (λ_ _ _ _ h=>h) λKL fKL hKL=>?_;refine Cr (V0 (bA 1 O O Bx O) (an 2 Y O O O By O O O (Ln (Et (az ?_)))));refine WE.dJ (gd O (cS 2 O O Bx O)) λw' hw=>?_;exact .inl ⟨⟨s8,aR,g.ps,v.ps,akN⟩,⟨(g.a,g.c),(v.a,v.c),s43⟩,r43,Y0,O,by simp only [iO,nS,fZ,hA,hB,Y1,Option.bind_some,Option.map_some],⟨vm E_ (bD hw (by simp) E'),vm hKL (bD hw (by simp) fKL),vh akR (bD hw (by simp) akQ)⟩,akS,Wv 3 (Wt 1 hw)⟩
structure GU where
 us:List Tx
 a:Option Addr
 c:Nat
 r:Option Addr×Nat
 q:Tk
def nY (nm:Tx) (a1:Option Addr) (n1 c1:Nat) (a2:Option Addr) (n2 c2:Nat) (a3:Option Addr) (n3 c3:Nat) (a4:Option Addr) (n4 c4:Nat):List Value:=[st nm,.slice a1 n1 c1,.slice a2 n2 c2,.slice a3 n3 c3,.slice a4 n4 c4]
theorem vo {l q1 q2 q3:Tk} {nm:Tx} (h1:aD [109,111,100,117,108,101] l=some q1) (h2:cG q1=some (nm,q2)) (h3:aD [123] q2=some q3):mK l=(lV (q3.length+1) q3).bind λu=>
   (nO ((jV u.2).2.length+1) (jV u.2).1 (jV u.2).2).bind λd=>(nP (d.2.length+1) d.1.2 d.2).bind λp=>if p.1.2=true then none else
   (aD qY p.2).bind λr=>(eX 6 r).bind λb=>(aD [125] b.2).map λr=>(⟨nm,u.1,d.1.1,p.1.1,b.1⟩,r):=by
 rw [mK,show DT=[109,111,100,117,108,101] from rfl,h1]; simp only [Option.bind_some]; rw [h2]; simp only [Option.bind_some]; rw [h3]; rfl
theorem vp:zeroOf Tryz.prog 174=some (.agg #[st [],.slice none 0 0,.slice none 0 0,.slice none 0 0,.slice none 0 0]):=by kernel_rfl
theorem JW:eR Tryz.prog 174=some [(0,1),(1,1),(2,1),(3,1),(4,1)]:=by kernel_rfl
theorem xh:cq Tryz.prog 174=some 5:=by kernel_rfl
theorem akV:Enters Tryz.prog 146:=enters_of Tryz.func146 (by kernel_rfl) rfl
theorem akW:Enters Tryz.prog 147:=enters_of Tryz.func147 (by kernel_rfl) rfl
theorem Py:eS Tryz.prog 171 213 (.agg #[st [],.bool false,.slice none 0 0,.slice none 0 0,.slice none 0 0]) 5 96:=gW (by kernel_rfl)
theorem akX:cq Tryz.prog 171=some 1:=by kernel_rfl
theorem mU:eQ Tryz.prog 174=some 5:=by kernel_rfl
theorem Pz:eS Tryz.prog 170 217 (.agg #[.int .i64 0,st [],.bool false,.int .i64 0]) 4 40:=gW (by kernel_rfl)
theorem akY:cq Tryz.prog 170=some 1:=by kernel_rfl
theorem akZ (gb:Nat) (HT:View) (r:Option Addr×Nat) (l:Tk) (w:World) (aE:bL l) (hm:Sl aY 3 HT r.1 r.2 l) (hw:Ws w (List.flatMap ak.ids (aj gb r l)) (aj gb r l) [HT] w) :
   Calls Tryz.prog 121 #[.pointer (some ⟨gb,0,none⟩)] w λe w'=>(∃(m:bc) (s:lL) (r2:Option Addr×Nat) (q:Tk),e = .returned (.agg (gg m s).toArray)/\mK l=some (m,q)/\nz 7 6 (nv w w') s m/\Sl aY 3 HT r2.1 r2.2 q/\Ws w (List.flatMap ak.ids (aj gb r l)) (aj gb r2 q) [HT] w')\/(∃(r2:Option Addr×Nat) (q:Tk),e = .panicked bz/\mK l=none/\Ws w (List.flatMap ak.ids (aj gb r l)) (aj gb r2 q) [HT] w'):=by
 refine enter Tryz.func121 O 71 O O ?_;refine CE hw (Cs (Cr ?_));refine Al Y O vp λb2=>?_;refine bH 0 (.cells (nY [] none 0 0 none 0 0 none 0 0 none 0 0).toArray 174 (0,0)) O O (Ln (Et (Cs (Cr (V0 (Ym O) ?_)))));refine Lb Y O dn O O O O λb8=>?_;refine fC (T:=9) (m:=1) 0 [[109,111,100,117,108,101]] O O (show 1<=1 by decide) (by decide) λH8 PA=>?_;refine Lf 1 O ?_
 refine bd (ι:=(Option Addr×Nat)×Tk) (κ:=(Option Addr×Nat)×Tk) [_] _ Y O gD O O (λ_=>.tuple #[]) (λi=>aj gb i.1 i.2) (λi=>bN [[109,111,100,117,108,101]] l=some i.2/\Sl aY 3 HT i.1.1 i.1.2 i.2) (λ_=>bz) (λi=>aj gb i.1 i.2) (λ_=>bN [[109,111,100,117,108,101]] l=none) ([HT,H8]) (by simp) (λw hw=>(gC gb HT r l H8 _ _ [[109,111,100,117,108,101]] w PA hm hw).mono λe w' h=>by
     rcases h with ⟨r2,q,h1,h2,h3,h4⟩ | ⟨r2,q,h1,h2,h3⟩
     · exact .inl ⟨(r2,q),h1,⟨h2,h3⟩,h4⟩
     · exact .inr ⟨(r2,q),h1,h2,h3⟩) ?_ ?_
 ·intro ⟨rp,qp⟩ hp;rw [c8] at hp;refine Ep ?_;refine aJ λw' hw=>?_;exact .inr ⟨rp,qp,O,by simp only [mK,DT,hp,Option.bind_none],(by have h:=hw; have h:=Wt 1 h; have h:=Ws.bw h (a_:=[HT]) (by simp); exact h)⟩
 intro ⟨r9,q9⟩ ⟨fj,O6⟩;have BO:=gB aE fj;rw [c8] at fj;refine Ln (Et (Cs (Cr (V0 (Ym O) ?_))))
 refine bd (ι:=(Tx)×(Option Addr×Nat)×Tk) (κ:=(Option Addr×Nat)×Tk) [_] _ Y O rn O O (λi=>st i.1) (λi=>aj gb i.2.1 i.2.2) (λi=>cG q9=some (i.1,i.2.2)/\Sl aY 3 HT i.2.1.1 i.2.1.2 i.2.2) (λ_=>bz) (λi=>aj gb i.1 i.2) (λ_=>cG q9=none) ([HT]) (by simp) (λw hw=>(rq gb HT r9 q9 w O6 hw).mono λe w' h=>by
     rcases h with ⟨t,r2,q,h1,h2,h3,h4⟩ | ⟨r2,q,h1,h2,h3⟩
     · exact .inl ⟨(t,r2,q),h1,⟨h2,h3⟩,h4⟩
     · exact .inr ⟨(r2,q),h1,h2,h3⟩) ?_ ?_
 ·intro ⟨rp,qp⟩ hp;refine Ep ?_;refine aJ λw' hw=>?_;exact .inr ⟨rp,qp,O,by simp only [mK,DT,fj,hp,Option.bind_some,Option.bind_none],(by have h:=hw; have h:=Wt 1 h; have h:=Ws.bw h (a_:=[HT]) (by simp); exact h)⟩
 intro ⟨pV,Ew,kP⟩ ⟨iS,Ey⟩;have I2:=rm BO iS;refine V0 (Yb vp JW O O) ?_;refine Al Y O vp λb3=>?_;refine an 0 Y O O O xh O O O (LW (λ_ h=>h.fB 9 1) (LW (λ_ h=>h.fB 217 4) (LW (λ_ h=>h.fB 213 5) ?_)));refine WL.v0 ?_;refine Ln (Et (Cs (Cr (V0 (Ym O) ?_))));refine Lb Y O dn O O O O λyT=>?_;refine fC (T:=9) (m:=1) 0 [[123]] O O (show 1<=1 by decide) (by decide) λJX Fa=>?_;refine Lf 4 O ?_
 refine bd (ι:=(Option Addr×Nat)×Tk) (κ:=(Option Addr×Nat)×Tk) [_] _ Y O gD O O (λ_=>.tuple #[]) (λi=>aj gb i.1 i.2) (λi=>bN [[123]] kP=some i.2/\Sl aY 3 HT i.1.1 i.1.2 i.2) (λ_=>bz) (λi=>aj gb i.1 i.2) (λ_=>bN [[123]] kP=none) ([HT,JX]) (by simp) (λw hw=>(gC gb HT Ew kP JX _ _ [[123]] w Fa Ey hw).mono λe w' h=>by
     rcases h with ⟨r2,q,h1,h2,h3,h4⟩ | ⟨r2,q,h1,h2,h3⟩
     · exact .inl ⟨(r2,q),h1,⟨h2,h3⟩,h4⟩
     · exact .inr ⟨(r2,q),h1,h2,h3⟩) ?_ ?_
 ·intro ⟨rp,qp⟩ hp;rw [c8] at hp;refine Ep ?_;refine aJ λw' hw=>?_;exact .inr ⟨rp,qp,O,by simp only [mK,DT,fj,iS,hp,Option.bind_some,Option.bind_none],(by have h:=hw; have h:=Wt 1 h; have h:=Ws.bw h (a_:=[HT]) (by simp); exact h)⟩
 intro ⟨gk,zj⟩ ⟨p5,ak0⟩;have ak1:=gB I2 p5;rw [c8] at p5;refine Ln (Et (Cs (Cb ?_)));refine cU (ι:=GU) (λg=>[]) [(0,_),(2,_),(3,_)] (λg=>Ws w (List.flatMap ak.ids (aj gb r l)) (aj gb g.r g.q++[ab b3 (.cells (nY pV g.a g.us.length g.c none 0 0 none 0 0 none 0 0).toArray 174 (0,0)),bo 9 1 d_ g.a g.c g.us,bo 217 4 bI.cells none 0 ([]:List bI),bo 213 5 PX.cells none 0 ([]:List PX),ab b2 (.cells (nY [] none 0 0 none 0 0 none 0 0 none 0 0).toArray 174 (0,0))]) [v0,HT]) (λg=>(g.us.length+g.q.length<=l.length/\bL g.q)/\Sl aY 3 HT g.r.1 g.r.2 g.q/\∃n,g.q.length<n/\lV (zj.length+1) zj=(lV n g.q).map λp=>(g.us++p.1,p.2)) (λg=>g.q.length) ⟨[],none,0,gk,zj⟩ ⟨⟨by have:q9.length+1=l.length:=gz fj; have:kP.length<q9.length:=nW BO iS; have:zj.length+1=kP.length:=gz p5; simp; omega,ak1⟩,ak0,zj.length+1,by simp,by simp⟩ (sc O (sc O (sc O sn))) (λ_ h=>by have h:=h.ao 5 O; have h:=h.ao 2 O; have h:=h.ao 3 O; have h:=h.ao 4 O; have h:=h.ao 5 O; have h:=h.ao 5 O; have h:=Ws.bw h (a_:=[v0,HT]) (by simp); exact h) ?_;intro g ⟨⟨hlen,kQ⟩,pT,hA⟩;refine Cs (Cs (Cr (V0 (Ym O) ?_)));refine Lw [_] _ Y O fV O O _ _ _ [HT] (by simp) (λw hw=>fW gb HT g.r g.q [117,115,101] w pT hw) ?_;intro ⟨IY,tf,kh⟩ ⟨ak2,ak3,Y2⟩;refine Ln (Et ?_);refine Cc O (λad=>?_) (λad=>?_)
 ·have zk:=ak2 ad;have JY:=gA kQ zk;obtain ⟨n,hn,hA⟩:=hA;obtain ⟨n,rfl⟩:∃k,n=k+1:=⟨n-1,by omega⟩;refine Ck (Et (Cb (Cs ?_)));refine CU (λ_=>true) [0,1] [6,7] (.q false 0 (.q true 1 (.q false 2 (.e 3 (.e 4 (.e 5 .nil .stop) .stop) .stop)))) mixed (by kernel_rfl) (λ_ _ _ d _ _ h=>by cases d<;>exact h) ?_;refine U0 O (bk [0,1]) (Yf wJ O) (U0 O (bk [0,1]) (Yd 0 O O O fh) (U0 O (bk [0,1]) (Ym O) ?_));refine Ue O (bk [0,1]) ?_ WU.stop
  refine bd (ι:=(Tx)×(Option Addr×Nat)×Tk) (κ:=(Option Addr×Nat)×Tk) [_] _ Y O rn O O (λi=>st i.1) (λi=>aj gb i.2.1 i.2.2) (λi=>cG kh=some (i.1,i.2.2)/\Sl aY 3 HT i.2.1.1 i.2.1.2 i.2.2) (λ_=>bz) (λi=>aj gb i.1 i.2) (λ_=>cG kh=none) ([HT]) (by simp) (λw hw=>(rq gb HT tf kh w Y2 hw).mono λe w' h=>by
      rcases h with ⟨t,r2,q,h1,h2,h3,h4⟩ | ⟨r2,q,h1,h2,h3⟩
      · exact .inl ⟨(t,r2,q),h1,⟨h2,h3⟩,h4⟩
      · exact .inr ⟨(r2,q),h1,h2,h3⟩) ?_ ?_
  ·intro ⟨rp,qp⟩ hp;refine Ep (Ep (WE.aQ (Ep (WE.aQ (Ep ?_)))));refine aJ λw' hw=>?_;rw [akk zk hp] at hA;exact .inr ⟨rp,qp,O,by rw [vo fj iS p5]; simp only [qY,hA,Option.bind_some,Option.map_some,Option.bind_none,Option.map_none],(by have h:=hw; have h:=Wt 1 h; have h:=Ws.bw h (a_:=[HT]) (by simp); exact h)⟩
  intro ⟨PB,kg,oU⟩ ⟨s7,Pj⟩;have Pk:=rm JY s7;refine Ln (Eu ?_);refine Ue O (bk [0,1]) ?_ WU.stop;refine Lb Y O dn O O O O λBX=>?_;refine bH 0 (.cells (d_ PB).toArray 9 (0,0)) O O (Ln (Eu ?_));refine Ue O (λ_ h=>(Wo 1 (Wo 0 (Wd 1 h)):)) ?_ WU.stop;refine LA (PB:Tx) 3 0 Y O dn O O O O O O (by have:=aE.len; omega) (by have:=aE.len; omega) λa23 c23=>?_;refine Ln (Eu ?_);refine WU.nil (λ_ h=>(Wo 1 (Wo 0 (Wd 1 h)):)) ?_;refine WS.e O ?_;refine V0 (Yf wJ O) (Ln (Es ?_));refine WS.e O ?_;refine an 2 Y O O O JV O O O (Ln (Es ?_));refine WS.nil ?_;refine Et (Cr (V0 (Ym O) ?_));refine Lb Y O dn O O O O λvq=>?_;refine fC (T:=9) (m:=1) 0 [[59]] O O (show 1<=1 by decide) (by decide) λY3 ak5=>?_;refine Lf 1 O ?_
  refine bd (ι:=(Option Addr×Nat)×Tk) (κ:=(Option Addr×Nat)×Tk) [_] _ Y O gD O O (λ_=>.tuple #[]) (λi=>aj gb i.1 i.2) (λi=>bN [[59]] oU=some i.2/\Sl aY 3 HT i.1.1 i.1.2 i.2) (λ_=>bz) (λi=>aj gb i.1 i.2) (λ_=>bN [[59]] oU=none) ([HT,Y3]) (by simp) (λw hw=>(gC gb HT kg oU Y3 _ _ [[59]] w ak5 Pj hw).mono λe w' h=>by
      rcases h with ⟨r2,q,h1,h2,h3,h4⟩ | ⟨r2,q,h1,h2,h3⟩
      · exact .inl ⟨(r2,q),h1,⟨h2,h3⟩,h4⟩
      · exact .inr ⟨(r2,q),h1,h2,h3⟩) ?_ ?_
  ·intro ⟨rp,qp⟩ hp;rw [c8] at hp;refine WE.aQ (Ep (WE.aQ (Ep ?_)));refine aJ λw' hw=>?_;rw [akl zk s7 hp] at hA;exact .inr ⟨rp,qp,O,by rw [vo fj iS p5]; simp only [qY,hA,Option.bind_some,Option.map_some,Option.bind_none,Option.map_none],(by have h:=hw; have h:=Wt 1 h; have h:=Ws.bw h (a_:=[HT]) (by simp); exact h)⟩
  intro ⟨JT,s_⟩ ⟨ta,Po⟩;have Pp:=gB Pk ta;rw [c8] at ta;refine Ln (Eb ?_)
  exact Ea (⟨g.us++[PB],a23,c23,JT,s_⟩:GU) (by have:kh.length+1=g.q.length:=gz zk; have:oU.length<kh.length:=nW JY s7; have:s_.length+1=oU.length:=gz ta; show s_.length<g.q.length; omega) ⟨⟨by have:kh.length+1=g.q.length:=gz zk; have:oU.length<kh.length:=nW JY s7; have:s_.length+1=oU.length:=gz ta; simp; omega,Pp⟩,Po,n,(show s_.length<n by have:kh.length+1=g.q.length:=gz zk; have:oU.length<kh.length:=nW JY s7; have:s_.length+1=oU.length:=gz ta; omega),by rw [hA,akj zk s7 ta]; simp [Function.comp_def]⟩ (sc O (sc O (sc O sn))) (λ_ h=>by
      have h:=h.ao 6 rfl;have h:=h.ao 6 rfl;have h:=h.ao 6 rfl;have h:=h.ao 6 rfl;have h:=h.ao 6 rfl;have h:=h.ao 5 rfl;have h:=Wt 6 h;have h:=Ws.bw h (a_:=[v0,HT]) (by simp)
      exact h)
 obtain ⟨ak6,ak7⟩:=ak3 ad;subst ak7;obtain ⟨n,hn,hA⟩:=hA;obtain ⟨n,rfl⟩:∃k,n=k+1:=⟨n-1,by omega⟩;rw [aki ak6] at hA;simp at hA;refine Ce (Ex (Ex (cf (Et (Cs (Cr (V0 (Ym O) ?_)))))));refine Lw [_] _ Y O fV O O _ _ _ [HT] (by simp) (λw hw=>fW gb HT tf g.q [112,117,98] w Y2 hw) ?_;intro ⟨Fb,r29,zl⟩ ⟨Y4,Y5,PC⟩;have zm:jV g.q=(Fb,zl):=Pe Y4 Y5;obtain ⟨ak9,auz⟩:bL zl/\zl.length<=List.length (g.q):=Pf kQ Y4 Y5;refine V0 (Ya O) (Ln (Et (Cs (Cb ?_))));refine cU (ι:=GD) (λv=>[(4,.bool v.aR)]) [(0,_),(2,_),(3,_)] (λv=>Ws w (List.flatMap ak.ids (aj gb r l)) (aj gb v.r v.q++[ab b3 (.cells (nY pV g.a g.us.length g.c v.a v.ds.length v.c none 0 0 none 0 0).toArray 174 (0,0)),bo 9 1 d_ g.a g.c g.us,bo 217 4 bI.cells v.a v.c v.ds,bo 213 5 PX.cells none 0 ([]:List PX),ab b2 (.cells (nY [] none 0 0 none 0 0 none 0 0 none 0 0).toArray 174 (0,0))]) [v0,HT]) (λv=>(v.ds.length+v.q.length<=l.length/\bL v.q)/\Sl aY 3 HT v.r.1 v.r.2 v.q/\∃n,v.q.length<n/\nO (zl.length+1) Fb zl=(nO n v.aR v.q).map λp=>((v.ds++p.1.1,p.1.2),p.2)) (λv=>v.q.length) ⟨[],none,0,Fb,r29,zl⟩ ⟨⟨by simp; omega,ak9⟩,PC,zl.length+1,by simp,by simp⟩ (sc O (sc O (sc O (sc O sn)))) (λ_ h=>h) ?_;intro v ⟨⟨akJ,zi⟩,Pw,hB⟩;refine Cb (Cs (Cr (V0 (Ym O) (V0 (Ym O) ?_))))
 refine bd (ι:=(Option bI)×(Option Addr×Nat)×Tk) (κ:=(Option Addr×Nat)×Tk) [_] _ Y O akV O O (λi=>.tuple #[.agg #[.int .i64 ((i.1).getD (⟨0,[],v.aR,0⟩:bI)).kind,st ((i.1).getD (⟨0,[],v.aR,0⟩:bI)).nm,.bool ((i.1).getD (⟨0,[],v.aR,0⟩:bI)).aR,.int .i64 ((i.1).getD (⟨0,[],v.aR,0⟩:bI)).n],.bool (i.1).isSome]) (λi=>aj gb i.2.1 i.2.2) (λi=>ff v.aR v.q=some (i.1,i.2.2)/\Sl aY 3 HT i.2.1.1 i.2.1.2 i.2.2) (λ_=>bz) (λi=>aj gb i.1 i.2) (λ_=>ff v.aR v.q=none) ([HT]) (by simp) (λw hw=>(aks gb HT v.r v.q v.aR w zi Pw hw).mono λe w' h=>by
     rcases h with ⟨t,r2,q,h1,h2,h3,h4⟩ | ⟨r2,q,h1,h2,h3⟩
     · exact .inl ⟨(t,r2,q),h1,⟨h2,h3⟩,h4⟩
     · exact .inr ⟨(r2,q),h1,h2,h3⟩) ?_ ?_
 ·intro ⟨rp,qp⟩ hp;refine Ep (WE.aQ (Ep (WE.aQ (Ep ?_))));refine aJ λw' hw=>?_;obtain ⟨n,hn,hB⟩:=hB;obtain ⟨n,rfl⟩:∃k,n=k+1:=⟨n-1,by omega⟩;rw [ako hp] at hB;exact .inr ⟨rp,qp,O,by rw [vo fj iS p5]; simp only [qY,hA,zm,hB,Option.bind_some,Option.map_some,Option.bind_none,Option.map_none],(by have h:=hw; have h:=Wt 1 h; have h:=Ws.bw h (a_:=[HT]) (by simp); exact h)⟩
 intro ⟨PD,JF,jI⟩ ⟨l3,BP⟩;have JG:=aj5 zi l3;refine V0 (Ym O) (V0 (Yx O O) (V0 (Yx O O) ?_));refine Al Y O sS λb5=>?_;refine an 0 Y O O O u3 O O O (V0 (Ya O) (Ln (Et (Cs (Cs (Cr (V0 (Ym O) (V0 (eu O) (Ln (Et ?_))))))))));refine Cc O (λar=>?_) (λar=>?_)
 ·obtain ⟨n,hn,hB⟩:=hB;obtain ⟨n,rfl⟩:∃k,n=k+1:=⟨n-1,by omega⟩
  cases JZ:PD with
  | some x=>rw [JZ] at ar; simp at ar
  | none=>
  rw [JZ] at l3;have ak':jI=v.q:=N4 l3;rw [akm l3] at hB;simp at hB;refine Ce (Ex (L6 O (Ex (cf (Et (Cs (Cb ?_)))))));refine cU (ι:=GM) (λe=>[(4,.bool e.aR)]) [(0,_),(2,_),(3,_)] (λe=>Ws w (List.flatMap ak.ids (aj gb r l)) (aj gb e.r e.q++[ab b3 (.cells (nY pV g.a g.us.length g.c v.a v.ds.length v.c e.a e.ps.length e.c none 0 0).toArray 174 (0,0)),bo 9 1 d_ g.a g.c g.us,bo 217 4 bI.cells v.a v.c v.ds,bo 213 5 PX.cells e.a e.c e.ps,ab b2 (.cells (nY [] none 0 0 none 0 0 none 0 0 none 0 0).toArray 174 (0,0))]) [e.J,HT]) (λe=>(e.ps.length+e.q.length<=l.length/\bL e.q)/\Sl aY 3 HT e.r.1 e.r.2 e.q/\(eE w e.J/\s5 e.J e.ps)/\∃n,e.q.length<n/\nP (jI.length+1) v.aR jI=(nP n e.aR e.q).map λp=>((e.ps.map (·.1)++p.1.1,p.1.2),p.2)) (λe=>e.q.length) ⟨[],none,0,v0,v.aR,JF,jI⟩ ⟨⟨(by have h:=congrArg List.length ak'; simp at h ⊢; omega),JG⟩,BP,⟨wa w,s5.nil _⟩,jI.length+1,by simp,by simp⟩ (sc O (sc O (sc O (sc O sn)))) (λ_ h=>by have h:=h.ao 6 O; have h:=h.ao 6 O; have h:=h.ao 6 O; have h:=h.ao 6 O; have h:=h.ao 6 O; have h:=h.ao 6 O; have h:=Wt 6 h; have h:=Ws.bw h (a_:=[v0,HT]) (by simp); exact h) ?_;intro e ⟨⟨auA,Y6⟩,PE,⟨lY,Y7⟩,hC⟩;refine Cs (Cs (Cr (V0 (Ym O) ?_)));refine Lw [_] _ Y O fV O O _ _ _ [HT] (by simp) (λw hw=>fW gb HT e.r e.q [112,114,111,99] w PE hw) ?_;intro ⟨wZ,w_,ie⟩ ⟨OM,ON,vf⟩;refine Ln (Et ?_);refine Cc O (λay=>?_) (λay=>?_)
  ·have kR:=OM ay;have sX:=gA Y6 kR;obtain ⟨n,hn,hC⟩:=hC;obtain ⟨n,rfl⟩:∃k,n=k+1:=⟨n-1,by omega⟩;refine Ck (Et (Cb (Cs ?_)));refine CU (λ_=>true) [0,3] [7,8] (.q false 0 (.q true 1 (.q false 2 (.q false 3 (.e 4 (.e 5 (.e 6 .nil .stop) .stop) .stop))))) mixed (by kernel_rfl) (λ_ _ _ d _ _ h=>by cases d<;>exact h) ?_;refine U0 O (bk [0,3]) (Yf yK O) (U0 O (bk [0,3]) (Yd 0 O O O Bv) (U0 O (bk [0,3]) (Ym O) (U0 O (bk [0,3]) (Ym O) ?_)));refine Ue O (bk [0,3]) ?_ WU.stop
   refine iu (ι:=(dC×BV)×(Option Addr×Nat)×Tk) (κ:=(Option Addr×Nat)×Tk) [_] _ Y O akW O O (λi=>.agg #[st (i.1.1).nm,.bool (i.1.1).aR,.slice (i.1.2).s1.1 (i.1.1).params.length (i.1.2).s1.2,.slice (i.1.2).s2.1 (i.1.1).av.length (i.1.2).s2.2,.slice (i.1.2).s3.1 (i.1.1).body.length (i.1.2).s3.2]) (λi=>aj gb i.2.1 i.2.2) (λF i=>iO e.aR ie=some (i.1.1,i.2.2)/\zf F i.1.1 i.1.2/\Sl aY 3 HT i.2.1.1 i.2.1.2 i.2.2) (λ_=>bz) (λi=>aj gb i.1 i.2) (λ_=>iO e.aR ie=none) ([HT]) (by simp) (λ_ _ h=>h) (λw hw=>(akH gb HT w_ ie e.aR w sX vf hw).mono λe w' h=>by
       rcases h with ⟨x,s,r2,q,h1,h2,h3,h4,h5⟩ | ⟨r2,q,h1,h2,h3⟩
       · exact .inl ⟨((x,s),r2,q),h1,⟨h2,h3,h4⟩,h5⟩
       · exact .inr ⟨(r2,q),h1,h2,h3⟩) ?_ ?_
   ·intro ⟨rp,qp⟩ hp;refine Ep (Ep (WE.aQ (Ep (WE.aQ (Ep ?_)))));refine aJ λw' hw=>?_;rw [akr kR hp] at hC;exact .inr ⟨rp,qp,O,by rw [vo fj iS p5]; simp only [qY,hA,zm,hB,hC,Option.bind_some,Option.map_some,Option.bind_none,Option.map_none],(by have h:=hw; have h:=Wt 1 h; have h:=Ws.bw h (a_:=[HT]) (by simp); exact h)⟩
   intro F52 ⟨⟨PF,PG⟩,r52,zo⟩ ala ⟨Fc,alb,alc⟩;have ald:bL zo:=aj7 sX Fc;refine Ln (Eu ?_);refine Ue O (λ_ h=>(Wv 1 (Wo 3 (Wo 0 h)):)) ?_ WU.stop;refine Lb Y O Py O O O O λFe=>?_;refine bH 0 (.cells (PX.cells (PF,PG)).toArray 213 (0,0)) O O (Ln (Eu ?_));refine Ue O (λ_ h=>(Wv 1 (Wo 3 (Wo 0 (Wd 1 h))):)) ?_ WU.stop;refine LA ((PF,PG):PX) 5 0 Y O Py O O O O O O (by have:=aE.len; omega) (by have:=aE.len; omega) λa54 c54=>?_;refine Ln (Eu ?_);refine WU.nil (λ_ h=>(Wv 1 (Wo 3 (Wo 0 (Wd 1 h))):)) ?_;refine WS.e O ?_;refine V0 (Yf yK O) (Ln (Es ?_));refine WS.e O ?_;refine an 2 Y O O O akX O O O (Ln (Es ?_));refine WS.nil ?_;refine Et ?_;refine WC.nA λY8 alg alh ali=>?_;refine Cr (V0 (Ym O) (Lf 1 O ?_));refine Lw [_] _ Y O fV O O _ _ _ [HT] (by simp) (λw hw=>fW gb HT r52 zo [112,117,98] w alc hw) ?_;intro ⟨O0,Jo,p1⟩ ⟨Jp,Jq,Jr⟩;have alj:jV zo=(O0,p1):=Pe Jp Jq;obtain ⟨Jt,auC⟩:bL p1/\p1.length<=List.length (zo):=Pf ald Jp Jq;refine V0 (Ya O) (Ln (Eb ?_))
   exact Ea (⟨e.ps++[(PF,PG)],a54,c54,Y8,O0,Jo,p1⟩:GM) (by have:ie.length+1=e.q.length:=gz kR; have:zo.length<ie.length:=Pd sX Fc; show p1.length<e.q.length; omega) ⟨⟨by have:ie.length+1=e.q.length:=gz kR; have:zo.length<ie.length:=Pd sX Fc; simp; omega,Jt⟩,Jr,⟨ali _ ala lY,s5.snoc Y7 alh alg alb⟩,n,(show p1.length<n by have:ie.length+1=e.q.length:=gz kR; have:zo.length<ie.length:=Pd sX Fc; omega),by rw [hC,akq kR Fc alj]; simp [Function.comp_def]⟩ (sc O (sc O (sc O (sc O sn)))) (λ_ h=>by
       have h:=h.ao 6 rfl;have h:=h.ao 6 rfl;have h:=h.ao 6 rfl;have h:=h.ao 6 rfl;have h:=h.ao 6 rfl;have h:=h.ao 5 rfl;have h:=Wt 6 h;have h:=Ws.bw h (a_:=[Y8,HT]) (by simp)
       exact h)
  obtain ⟨vg,OO⟩:=ON ay;subst OO;obtain ⟨n,hn,hC⟩:=hC;obtain ⟨n,rfl⟩:∃k,n=k+1:=⟨n-1,by omega⟩;rw [akp vg] at hC;simp at hC;refine Ce (Ex (Ex (cf (Et (Cs (Cs (Cr (V0 (Ym O) (Ln (Et ?_))))))))));refine Cc O (λaM=>?_) (λaM=>?_)
  ·have zp:e.aR=true:=aM;refine Cr (V0 (Yb u7 u6 O O) (V0 (qE u9 O) ?_));refine WL.panic Y O ?_;refine Ep ?_;refine aJ λw' hw=>?_;exact .inr ⟨w_,e.q,O,by rw [vo fj iS p5]; simp only [qY,hA,zm,hB,hC,zp,if_true,Option.bind_some,Option.map_some,Option.bind_none,Option.map_none],(by have h:=hw; have h:=Wt 1 h; have h:=Ws.bw h (a_:=[HT]) (by simp); exact h)⟩
  have zp:e.aR=false:=aM;refine Ck (Et (Cs (Cr (V0 (Ym O) ?_))));refine Lb Y O dn O O O O λOq=>?_;refine fC (T:=9) (m:=1) 0 [[109,97,105,110]] O O (show 1<=1 by decide) (by decide) λEj Ot=>?_
  refine bd (ι:=(Option Addr×Nat)×Tk) (κ:=(Option Addr×Nat)×Tk) [_] _ Y O gD O O (λ_=>.tuple #[]) (λi=>aj gb i.1 i.2) (λi=>bN [[109,97,105,110]] e.q=some i.2/\Sl aY 3 HT i.1.1 i.1.2 i.2) (λ_=>bz) (λi=>aj gb i.1 i.2) (λ_=>bN [[109,97,105,110]] e.q=none) ([HT,Ej]) (by simp) (λw hw=>(gC gb HT w_ e.q Ej _ _ [[109,97,105,110]] w Ot vf hw).mono λe w' h=>by
      rcases h with ⟨r2,q,h1,h2,h3,h4⟩ | ⟨r2,q,h1,h2,h3⟩
      · exact .inl ⟨(r2,q),h1,⟨h2,h3⟩,h4⟩
      · exact .inr ⟨(r2,q),h1,h2,h3⟩) ?_ ?_
  ·intro ⟨rp,qp⟩ hp;rw [c8] at hp;refine Ep ?_;refine aJ λw' hw=>?_;exact .inr ⟨rp,qp,O,by rw [vo fj iS p5]; simp only [qY,hA,zm,hB,hC,zp,hp,Bool.false_eq_true,if_false,Option.bind_some,Option.map_some,Option.bind_none,Option.map_none],(by have h:=hw; have h:=Wt 1 h; have h:=Ws.bw h (a_:=[HT]) (by simp); exact h)⟩
  intro ⟨BY,PH⟩ ⟨Ff,alk⟩;have Y9:=gB Y6 Ff;rw [c8] at Ff;refine Ln (Et (Cs (Cr (V0 (Ym O) ?_))))
  refine iu (ι:=((List aP)×(Option Addr×Nat))×(Option Addr×Nat)×Tk) (κ:=(Option Addr×Nat)×Tk) [_] _ Y O EL O O (λi=>.slice i.1.2.1 i.1.1.length i.1.2.2) (λi=>aj gb i.2.1 i.2.2) (λF i=>eX 6 PH=some (i.1.1,i.2.2)/\Sl (gY 7 6) 6 F i.1.2.1 i.1.2.2 i.1.1/\Sl aY 3 HT i.2.1.1 i.2.1.2 i.2.2) (λ_=>bz) (λi=>aj gb i.1 i.2) (λ_=>eX 6 PH=none) ([HT]) (by simp) (λ_ _ h=>h) (λw hw=>(YO HT 6 gb BY PH (1) w (by omega) Y9 alk hw).mono λe w' h=>by
      rcases h with ⟨x,s,r2,q,h1,h2,h3,h4,h5⟩ | ⟨r2,q,h1,h2,h3⟩
      · exact .inl ⟨((x,s),r2,q),h1,⟨h2,h3,h4⟩,h5⟩
      · exact .inr ⟨(r2,q),h1,h2,h3⟩) ?_ ?_
  ·intro ⟨rp,qp⟩ hp;refine Ep ?_;refine aJ λw' hw=>?_;exact .inr ⟨rp,qp,O,by rw [vo fj iS p5]; simp only [qY,hA,zm,hB,hC,zp,Ff,hp,Bool.false_eq_true,if_false,Option.bind_some,Option.map_some,Option.bind_none,Option.map_none],(by have h:=hw; have h:=Wt 1 h; have h:=Ws.bw h (a_:=[HT]) (by simp); exact h)⟩
  intro F65 ⟨⟨Y',J0⟩,Fg,J3⟩ PI ⟨Fh,alm,aln⟩;have alo:bL J3:=EI Y9 Fh;refine V0 (Yf Oo O) (an 1 Y O O O EM O O O (Ln (Et (Cs (Cr (V0 (Ym O) ?_))))));refine Lb Y O dn O O O O λJ4=>?_;refine fC (T:=9) (m:=1) 0 [[125]] O O (show 1<=1 by decide) (by decide) λY_ alp=>?_
  refine bd (ι:=(Option Addr×Nat)×Tk) (κ:=(Option Addr×Nat)×Tk) [_] _ Y O gD O O (λ_=>.tuple #[]) (λi=>aj gb i.1 i.2) (λi=>bN [[125]] J3=some i.2/\Sl aY 3 HT i.1.1 i.1.2 i.2) (λ_=>bz) (λi=>aj gb i.1 i.2) (λ_=>bN [[125]] J3=none) ([HT,Y_]) (by simp) (λw hw=>(gC gb HT Fg J3 Y_ _ _ [[125]] w alp aln hw).mono λe w' h=>by
      rcases h with ⟨r2,q,h1,h2,h3,h4⟩ | ⟨r2,q,h1,h2,h3⟩
      · exact .inl ⟨(r2,q),h1,⟨h2,h3⟩,h4⟩
      · exact .inr ⟨(r2,q),h1,h2,h3⟩) ?_ ?_
  ·intro ⟨rp,qp⟩ hp;rw [c8] at hp;refine Ep ?_;refine aJ λw' hw=>?_;exact .inr ⟨rp,qp,O,by rw [vo fj iS p5]; simp only [qY,hA,zm,hB,hC,zp,Ff,Fh,hp,Bool.false_eq_true,if_false,Option.bind_some,Option.map_some,Option.bind_none,Option.map_none],(by have h:=hw; have h:=Wt 1 h; have h:=Ws.bw h (a_:=[HT]) (by simp); exact h)⟩
  intro ⟨rI,q69⟩ ⟨PJ,alr⟩;have auE:=gB alo PJ;rw [c8] at PJ;refine Ln (Et (Cs ?_));refine WC.pz (rd:=rdStr) 2 O (λk hk=>by simp [aj,ab] at hk; subst hk; simp [c_,aj,ab,dw]) oz (λ_ _ _ _ h=>h) λKU fKU hKU=>?_;refine WC.pz (rd:=x') 2 O (λk hk=>by simp [aj,ab] at hk; subst hk; simp [c_,aj,ab,dw]) bI.a8 (λ_ _ _ _ h=>h) λKD fKD hKD=>?_;refine WC.pz (rd:=Pg) 2 O (λk hk=>by simp [aj,ab] at hk; subst hk; simp [c_,aj,ab,dw]) PX.a8 (λ_ _ _ _ h=>h) λKP E' E_=>?_;refine Cr (V0 (bA 1 O O mU O) (an 2 Y O O O xh O O O (Ln (Et (az ?_)))));refine WE.dJ (gd O (cS 2 O O mU O)) λw' hw=>?_;exact .inl ⟨⟨pV,g.us,v.ds,e.ps.map (·.1),Y'⟩,⟨g.a,g.c,v.a,v.c,e.a,e.c,J0.1,J0.2⟩,rI,q69,by show Ending.returned (.agg #[st pV,.slice g.a g.us.length g.c,.slice v.a v.ds.length v.c,.slice e.a e.ps.length e.c,.slice J0.1 Y'.length J0.2])=_; simp [gg],by rw [vo fj iS p5]; simp only [qY,hA,zm,hB,hC,zp,Ff,Fh,PJ,Bool.false_eq_true,if_false,Option.bind_some,Option.map_some,Option.bind_none,Option.map_none],⟨vm hKU (bD hw (by simp) fKU),Ph hKD (bD hw (by simp) fKD),YR E_ (bD hw (by simp) E') (bD hw (by simp) lY) Y7,vh alm (bD hw (by simp) PI)⟩,alr,Wv 7 (Wt 1 hw)⟩
 obtain ⟨n,hn,hB⟩:=hB;obtain ⟨n,rfl⟩:∃k,n=k+1:=⟨n-1,by omega⟩
 obtain ⟨xe,JZ⟩:∃x,PD=some x:=by
   cases PD with
   | none=>simp at ar
   | some x=>exact ⟨x,rfl⟩
 subst JZ;have auF:jI.length<v.q.length:=aj6 zi l3;refine Ck (Et (Cs (Cr (V0 (Yf Bu O) (V0 (Yd 2 O O O Ef) (V0 (bA 0 O O oN O) ?_))))));refine Lb Y O Pz O O O O λvr=>?_;refine bH 0 (.cells (bI.cells xe).toArray 217 (0,0)) O O ?_;refine LA (xe:bI) 5 0 Y O Pz O O O O O O (by have:=aE.len; omega) (by have:=aE.len; omega) λa42 c42=>?_;refine V0 (Yf Bu O) (an 3 Y O O O akY O O O (Ln (Et (Cr (V0 (Ym O) (Lf 2 O ?_))))));refine Lw [_] _ Y O fV O O _ _ _ [HT] (by simp) (λw hw=>fW gb HT JF jI [112,117,98] w BP hw) ?_;intro ⟨OY,BM,mR⟩ ⟨Jm,Jn,BN⟩;have alz:jV jI=(OY,mR):=Pe Jm Jn;obtain ⟨y_,auG⟩:bL mR/\mR.length<=List.length (jI):=Pf JG Jm Jn;refine V0 (Ya O) (Ln (Eb ?_))
 exact Ea (⟨v.ds++[xe],a42,c42,OY,BM,mR⟩:GD) (by show mR.length<v.q.length; omega) ⟨⟨by simp; omega,y_⟩,BN,n,(show mR.length<n by omega),by rw [hB,akn l3 alz]; simp [Function.comp_def]⟩ (sc O (sc O (sc O (sc O sn)))) (λ_ h=>by
     have h:=h.ao 7 rfl;have h:=h.ao 7 rfl;have h:=h.ao 7 rfl;have h:=h.ao 7 rfl;have h:=h.ao 7 rfl;have h:=h.ao 5 rfl;have h:=Wt 6 h;have h:=Ws.bw h (a_:=[v0,HT]) (by simp)
     exact h)
theorem alA {s:Tx} (h:¬(dO s).2=0):jW s=(sP,(dO s).2):=by rw [jW,if_pos h]
theorem alB {s:Tx} (h:(dO s).2=0) (h1:mK (dO s).1=none):jW s=(sP,1):=by rw [jW,if_neg (by simp [h]),h1]
theorem alC {s:Tx} {m:bc} {q:Tk} (h:(dO s).2=0) (h1:mK (dO s).1=some (m,q)) (h2:0<q.length\/¬jw m=0):jW s=(sP,1):=by
 rw [jW,if_neg (by simp [h]),h1]
 cases q with
 | cons t r=>rfl
 | nil=>
   simp only;rw [if_neg]
   rcases h2 with h2 | h2
   · simp at h2
   · exact h2
theorem alD {s:Tx} {m:bc} {q:Tk} (h:(dO s).2=0) (h1:mK (dO s).1=some (m,q)) (h2:q.length=0) (h3:jw m=0):jW s=(m,0):=by
 rw [jW,if_neg (by simp [h]),h1];obtain rfl:q=[]:=List.eq_nil_of_length_eq_zero h2;simp only;rw [if_pos h3]
theorem PK {s:Tx} (h:(dO s).2=0):bL (dO s).1:=⟨af1 h,(TY (TZ h)).2⟩
def J5:lL:=⟨none,0,none,0,none,0,none,0⟩
theorem PL (N:View):nz 7 6 N J5 sP:=⟨Sl.nil,Sl.nil,Sl.nil,Sl.nil⟩
theorem alE {H N:View} {ke ks:Nat} {s:lL} {m:bc} (h:nz ke ks H s m) (hv:aL H N):nz ke ks N s m:=⟨vm h.ae hv,Ph h.decls hv,h.procs.imp λb o x hx=>adF hv (Nat.le_refl _) (Nat.le_refl _) b o x hx,h.main.imp λb o x hx=>Di hv (Nat.le_refl _) (Nat.le_refl _) b o x hx⟩
theorem PM:Tryz.prog.underlying 20=some (.interface (Tryz.prog.methodsAt 20)):=by kernel_rfl
theorem oV:cq Tryz.prog 29=some 1:=by kernel_rfl
theorem J6:zeroOf Tryz.prog 29=some (.int .i64 0):=by kernel_rfl
theorem alF:Enters Tryz.prog 119:=enters_of Tryz.func119 (by kernel_rfl) rfl
theorem iU:dI Tryz.prog 29=true:=by kernel_rfl
theorem alG:eR Tryz.prog 228=some [(0,1)]:=by kernel_rfl
theorem alH:zeroOf Tryz.prog 228=some (.agg #[.slice none 0 0]):=by kernel_rfl
theorem alI:Enters Tryz.prog 121:=enters_of Tryz.func121 (by kernel_rfl) rfl
theorem PN:Enters Tryz.prog 120:=enters_of Tryz.func120 (by kernel_rfl) rfl
theorem Za:Enters Tryz.prog 122:=enters_of Tryz.func122 (by kernel_rfl) rfl
theorem alJ (b2 b3:Nat) (m0:Array Value) (zq:m0.size=5) (e0:Int) (w:World) (hw:Ws w (List.flatMap ak.ids [ab b2 (.cells m0 174 (0,0)),ab b3 (.cells #[.int .i64 e0] 29 (0,0))]) [ab b2 (.cells m0 174 (0,0)),ab b3 (.cells #[.int .i64 e0] 29 (0,0))] [] w) :
   CallsD Tryz.prog 120 #[.pointer (some ⟨b2,0,none⟩),.pointer (some ⟨b3,0,none⟩)] (.returning) w λe u2 w'=>u2 = .returning/\(e = .returned (.tuple #[])/\Ws w (List.flatMap ak.ids [ab b2 (.cells m0 174 (0,0)),ab b3 (.cells #[.int .i64 e0] 29 (0,0))]) [ab b2 (.cells m0 174 (0,0)),ab b3 (.cells #[.int .i64 e0] 29 (0,0))] [] w'):=by
 refine Da Tryz.func120 O 5 O O O O O (λ_=>rfl) (.inl ⟨O,O,O⟩) ?_;refine LW (W':=Ws w (List.flatMap ak.ids [ab b2 (.cells m0 174 (0,0)),ab b3 (.cells #[.int .i64 e0] 29 (0,0))]) [ab b2 (.cells m0 174 (0,0)),ab b3 (.cells #[.int .i64 e0] 29 (0,0))] []) (λ_ e=>by subst e; exact hw) (V0 (Tn PM O) (Ln (Et ?_)));refine WC.CP O ?_;refine Ck ?_;refine E0 O λw' hw=>?_;exact ⟨O,hw⟩
theorem Zb (b2 b3:Nat) (m0:List Value) (zq:m0.length=5) (e0:Int) (w:World) (hw:Ws w (List.flatMap ak.ids [ab b2 (.cells m0.toArray 174 (0,0)),ab b3 (.cells #[.int .i64 e0] 29 (0,0))]) [ab b2 (.cells m0.toArray 174 (0,0)),ab b3 (.cells #[.int .i64 e0] 29 (0,0))] [] w) :
   CallsD Tryz.prog 120 #[.pointer (some ⟨b2,0,none⟩),.pointer (some ⟨b3,0,none⟩)] (.panicking bz) w λe u2 w'=>u2 = .panicking [⟨.iface 230 (.agg #[]),true,false⟩]/\(e = .returned (.tuple #[])/\Ws w (List.flatMap ak.ids [ab b2 (.cells m0.toArray 174 (0,0)),ab b3 (.cells #[.int .i64 e0] 29 (0,0))]) [ab b2 (.cells (nY [] none 0 0 none 0 0 none 0 0 none 0 0).toArray 174 (0,0)),ab b3 (.cells #[.int .i64 1] 29 (0,0))] [] w'):=by
 refine Da Tryz.func120 O 5 O O O O O (λ_=>rfl) (.inr ⟨_,O,O,O⟩) ?_;refine LW (W':=Ws w (List.flatMap ak.ids [ab b2 (.cells m0.toArray 174 (0,0)),ab b3 (.cells #[.int .i64 e0] 29 (0,0))]) [ab b2 (.cells m0.toArray 174 (0,0)),ab b3 (.cells #[.int .i64 e0] 29 (0,0))] []) (λ_ e=>by subst e; exact hw) (V0 (acX PM O) (Ln (Et ?_)));refine WC.L5 O ?_;refine Cr (V0 (Yb vp JW O O) ?_);refine WL.S4 0 (.cells (nY [] none 0 0 none 0 0 none 0 0 none 0 0).toArray 174 (0,0)) Y O O O xh O O (by simp [tY,zq]) (by simp [mg,dv,nY,zq,List.drop_eq_nil_of_le]) ?_;refine an 1 Y O O O oV O O O (Ln ?_);refine E0 O λw' hw=>?_;exact ⟨O,hw⟩
theorem alK (G:View) (s:Tx) (w:World) (hG:Le G w) (hz:Laid G) :
   Calls Tryz.prog 102 #[st s] w λe w'=>∃r:lL,e = .returned (.tuple #[.agg (gg (jW s).1 r).toArray,.int .i64 (jW s).2])/\Ext w w'/\nz 7 6 (nv w w') r (jW s).1:=by
 refine Mr Tryz.func102 O 35 O O ?_;refine CE (Vs:=[G]) (Ws.init (by simp [hG])) (Cs (Cr ?_));refine Al Y O vp λb2=>?_;refine bH 0 (.cells (nY [] none 0 0 none 0 0 none 0 0 none 0 0).toArray 174 (0,0)) O O ?_;refine Al Y O J6 λb3=>?_;refine bH 0 (.cells #[.int .i64 0] 29 (0,0)) O O (Ln (Et (Cs (Cr (V0 (Ym O) ?_)))));refine Ld Y O alF O (λr:Option Addr×Nat=>.tuple #[.slice r.1 (dO s).1.length r.2,.int .i64 (dO s).2]) (λF r=>Sl aY 3 F r.1 r.2 (dO s).1) (λw hw=>agw G s w (hw.vs _ (by simp)) hz) ?_;intro F8 r8 hf8 h8;refine V0 (Ym O) (V0 (Yx O O) (V0 (Yx O O) (V0 (Ya O) (an 0 Y O O O oV O O O (Ln (Et (Cs (Cs (Cr (V0 (Yd 0 O O O iU) (V0 (jq O O) ?_)))))))))));refine Ln (Et ?_);refine Cc O (λad=>?_) (λad=>?_)
 ·have he:¬(dO s).2=0:=by simpa using ad
  refine Cs ?_;refine CU (mq [.cell 2 174,.cell 3 29]) [1] [3] (.q false 0 (.q true 1 (.e 2 .nil .stop))) mixed (by kernel_rfl) (λ_ _ _ _ _ hd h=>qF (fn:=Tryz.f102) [.cell 2 174,.cell 3 29] O hd h) ?_;refine U0 O (Wp 1) (Yb vp JW O O) (U0 O (Wp 1) (Yd 0 O O O iU) ?_);refine Ue O (Wp 1) ?_ WU.stop;refine an 1 Y O O O xh O O O (Ln (Eu ?_));refine WU.nil (Wp 1) ?_;refine WS.e O ?_;refine an 0 Y O O O oV O O O (Ln (Es ?_));refine WS.nil ?_;refine Et (az (Er ?_));refine WE.Ay (gu O (cS 1 O O mU O) (gM 0 O O O iU)) λw' hw=>?_;rw [alA he];exact ⟨J5,O,hw.fr,PL _⟩
 have he:(dO s).2=0:=by simpa using ad
 refine fo 0 (.cells #[.int .i64 0] 29 (0,0)) O (by show Obj.cells #[.int .i64 (dO s).2] _ _=_; rw [he]) (Ck (Et (Cs (Cr (V0 (C7 O) ?_)))));refine WL.defer Y O ?_;refine Ln (Et (Cs (Cr (V0 (Ym O) (V0 (Yb alH alG O O) ?_)))));refine WL.box Y O O λrC=>?_;refine V0 (Ya O) (Ln (Et (Cs (Cr (V0 (Ym O) ?_)))))
 refine iu (ι:=(bc×lL)×(Option Addr×Nat)×Tk) (κ:=(Option Addr×Nat)×Tk) [_] _ Y O alI O O (λi=>.agg (gg i.1.1 i.1.2).toArray) (λi=>aj rC i.2.1 i.2.2) (λF i=>mK (dO s).1=some (i.1.1,i.2.2)/\nz 7 6 F i.1.2 i.1.1/\Sl aY 3 F8 i.2.1.1 i.2.1.2 i.2.2) (λ_=>bz) (λi=>aj rC i.1 i.2) (λ_=>mK (dO s).1=none) ([F8]) (by simp) (λ_ _ h=>h) (λw hw=>(akZ rC F8 r8 (dO s).1 w (PK he) h8 hw).mono λe w' h=>by
     rcases h with ⟨x,s,r2,q,h1,h2,h3,h4,h5⟩ | ⟨r2,q,h1,h2,h3⟩
     · exact .inl ⟨((x,s),r2,q),h1,⟨h2,h3,h4⟩,h5⟩
     · exact .inr ⟨(r2,q),h1,h2,h3⟩) ?_ ?_
 ·intro ⟨rp,qp⟩ hp;refine Ep ?_;refine WE.front 1 O ?_;refine WE.front 2 O ?_;refine WE.sq PN (pw [_,_] _ [ab b2 (.cells (nY [] none 0 0 none 0 0 none 0 0 none 0 0).toArray 174 (0,0)),ab b3 (.cells #[.int .i64 1] 29 (0,0))] O (λw hw=>Zb b2 b3 (nY [] none 0 0 none 0 0 none 0 0 none 0 0) O 0 w hw)) (gu O (cS 0 O O mU O) (gM 1 O O O iU)) λw' hw=>?_;rw [alB he hp];exact ⟨J5,O,hw.fr,PL _⟩
 intro J7 ⟨⟨m20,BZ⟩,OB,wX⟩ Fi ⟨u_,Zc,XD⟩
 have wB:wM m20<=73728:=by
   have h1:wM m20+18*wX.length<=18*(dO s).1.length:=Wg u_;have:=(PK he).len;omega
 refine an 2 Y O O O xh O O O (Ln (Et (Cs (Cs (fo 2 (.cells (gg m20 BZ).toArray 174 (0,0)) O O (Cr (V0 (Ym O) (V0 (aO O) (V0 (Yf pS O) (V0 (Yd 0 O O O sV) ?_))))))))));refine V0 (Yn sU O) (V0 (bZ O O) (V0 (Ym O) ?_));apply Lo 3 O O O O Y O O O O O
 ·intro de;refine Vg (bA 2 O O mU O) (Lp (.g O O O) O Za O (λw hw=>W9 J7 7 6 BZ m20 w (hw.vs _ (by simp)) Zc (by omega)) (Vg (jq O O) ?_));exact Gt 3 O O O
 refine Ln (Et ?_);refine Cc O (λar=>?_) (λar=>?_)
 ·have gK:0<wX.length\/¬jw m20=0:=by simpa using ar
  refine Cr (V0 (Yb u7 u6 O O) (V0 (qE u9 O) ?_));refine WL.panic Y O ?_;refine Ep ?_;refine WE.front 1 O ?_;refine WE.front 2 O ?_;refine WE.sq PN (pw [_,_] _ [ab b2 (.cells (nY [] none 0 0 none 0 0 none 0 0 none 0 0).toArray 174 (0,0)),ab b3 (.cells #[.int .i64 1] 29 (0,0))] O (λw hw=>Zb b2 b3 (gg m20 BZ) O 0 w hw)) (gu O (cS 0 O O mU O) (gM 1 O O O iU)) λw' hw=>?_;rw [alC he u_ gK];exact ⟨J5,O,hw.fr,PL _⟩
 have hy:¬0<wX.length/\jw m20=0:=by simpa using ar
 refine Ck (Et (Cs (Cr (V0 (bA 2 O O mU O) (an 2 Y O O O xh O O O (an 1 Y O O O oV O O O (Ln (Et (az ?_)))))))));refine WE.front 1 O ?_;refine WE.front 2 O ?_;refine WE.Tj PN (pw [_,_] _ [ab b2 (.cells (gg m20 BZ).toArray 174 (0,0)),ab b3 (.cells #[.int .i64 0] 29 (0,0))] O (λw hw=>alJ b2 b3 (gg m20 BZ).toArray O 0 w hw)) (gu O (cS 0 O O mU O) (gM 1 O O O iU)) λw' hw=>?_;rw [alD he u_ (by have:=hy.1; show wX.length=0; omega) hy.2];exact ⟨BZ,O,hw.fr,alE Zc (bD hw (by simp) Fi)⟩
theorem Zd (s:Tx):(d_ s).all (·.oneCell')=true:=rfl
abbrev SP:=Option Addr×Nat
def zr:aV->List UInt8:=λx=>x.name
abbrev mV:=List UInt8×Int×Nat
def iv (M:List mV):List nr:=M.map λe=>(e.1,.int .i64 e.2.1,e.2.2)
def l4 (k:List UInt8):List mV->Nat->Option (Nat×Int)
 | [],_=>none
 | e::r,i=>if (k==e.1)=true then some (i,e.2.1) else l4 k r (i+1)
def PO (k:List UInt8) (M:List mV):Int:=match l4 k M 0 with | some (_,n)=>n | none=>0
def Fj (k:List UInt8) (n:Int) (M:List mV) (c:Nat):List mV:=match l4 k M 0 with
 | some (i,_)=>M.modify i λe=>(k,n,e.2.2)
 | none=>M++[(k,n,c)]
def PQ (k:List UInt8) (M:List mV) (c:Nat):Nat:=match l4 k M 0 with | some _=>c | none=>c+1
theorem J8 (k:List UInt8):∀(M:List mV) (i:Nat),oo k (iv M) i=(l4 k M i).map λr=>(r.1,.int .i64 r.2)
 | [],_=>rfl
 | e::r,i=>by
   simp only [iv,List.map_cons,oo,l4];cases (k==e.1)
   · simp only [Bool.false_eq_true,if_false]
     exact J8 k r (i+1)
   · simp
theorem alM (k:List UInt8) (M:List mV):C8 k (iv M) (.int .i64 0) = .int .i64 (PO k M):=by
 unfold C8 PO;rw [J8]
 cases l4 k M 0<;>rfl
theorem alN (k:List UInt8) (n:Int) (M:List mV) (c:Nat):Aw k (.int .i64 n) (iv M) c=iv (Fj k n M c):=by
 unfold Aw Fj;rw [J8]
 cases l4 k M 0 with
 | none=>simp [iv]
 | some r=>
   simp only [Option.map_some];apply List.ext_getElem?;intro i;simp only [iv,List.getElem?_modify,List.getElem?_map]
   cases M[i]? with
   | none=>simp
   | some e=>by_cases h:r.1=i<;>simp [h]
theorem alO (k:List UInt8) (M:List mV) (c:Nat):Ax k (iv M) c=PQ k M c:=by
 unfold Ax PQ;rw [J8]
 cases l4 k M 0<;>rfl
def keysOf (M:List mV):List (List UInt8):=M.map (·.1)
theorem PR {k:List UInt8}:∀{M:List mV} {i:Nat},l4 k M i=none↔k ∉ keysOf M
 | [],_=>by simp [l4,keysOf]
 | e::r,i=>by
   simp only [l4,keysOf,List.map_cons,List.mem_cons,not_or]
   by_cases h:k=e.1
   · simp [h]
   · have:=PR (k:=k) (M:=r) (i:=i+1)
     simp [h,keysOf] at this ⊢;exact this
theorem Ze {k:List UInt8}:∀{M:List mV} {i j:Nat} {n:Int},l4 k M i=some (j,n)->i<=j/\(M[j-i]?).map (·.1)=some k
 | [],_,_,_,h=>by simp [l4] at h
 | e::r,i,j,n,h=>by
   simp only [l4] at h
   split at h
   · rename_i hk
     injection h with h; injection h with h1 h2
     subst h1;simp at hk;simp [hk]
   · obtain ⟨h1,h2⟩:=Ze h
     refine ⟨by omega,?_⟩
     have:j-i=(j-(i+1))+1:=by omega
     rw [this]; simpa using h2
theorem Zf (k:List UInt8) (n:Int) (M:List mV) (c:Nat):keysOf (Fj k n M c)=if k ∈ keysOf M then keysOf M else keysOf M++[k]:=by
 unfold Fj
 cases h:l4 k M 0 with
 | none=>rw [if_neg (PR.1 h)]; simp [keysOf]
 | some r=>
   obtain ⟨j,v⟩:=r;have hk:=(Ze h).2
   have hm:k ∈ keysOf M:=by
     cases Classical.em (k ∈ keysOf M) with
     | inl h1=>exact h1
     | inr h1=>rw [PR.2 h1] at h; cases h
   rw [if_pos hm];apply List.ext_getElem?;intro i;simp only [keysOf,List.getElem?_map,List.getElem?_modify]
   cases he:M[i]? with
   | none=>simp
   | some e=>
     by_cases hj:j=i
     · subst hj; simp only [Nat.sub_zero,he] at hk; simp at hk; simp [hk]
     · simp [hj]
def mW (l:List (List UInt8)):Nat->List mV×Nat
 | 0=>([],0)
 | i+1=>(Fj (l[i]?.getD []) (IntKind.i64.wrap (PO (l[i]?.getD []) (mW l i).1+1)) (mW l i).1 (mW l i).2,PQ (l[i]?.getD []) (mW l i).1 (mW l i).2)
theorem Zg (l:List (List UInt8)) (k:List UInt8):∀i,k ∈ keysOf (mW l i).1↔∃j,j<i/\l[j]?.getD []=k
 | 0=>by simp [mW,keysOf]
 | i+1=>by
   have ih:=Zg l k i;simp only [mW,Zf]
   have step:(∃j,j<i+1/\l[j]?.getD []=k)↔(∃j,j<i/\l[j]?.getD []=k)\/l[i]?.getD []=k:=by
     constructor
     · rintro ⟨j,hj,e⟩
       rcases Nat.lt_succ_iff_lt_or_eq.1 hj with h | rfl
       · exact .inl ⟨j,h,e⟩
       · exact .inr e
     · rintro (⟨j,hj,e⟩ | e)
       · exact ⟨j,by omega,e⟩
       · exact ⟨i,by omega,e⟩
   rw [step,<-ih]
   split
   · rename_i hm
     constructor
     · exact .inl
     · rintro (h | h)
       · exact h
       · rw [<-h]; exact hm
   · simp [eq_comm]
theorem Zh (l:List (List UInt8)):∀i,(keysOf (mW l i).1).length<=i/\((keysOf (mW l i).1).length<i↔∃i2,i2<i/\∃j,j<i2/\l[j]?.getD []=l[i2]?.getD [])
 | 0=>by simp [mW,keysOf]
 | i+1=>by
   obtain ⟨h1,h2⟩:=Zh l i;have hm:=Zg l (l[i]?.getD []) i;simp only [mW,Zf]
   split
   · rename_i hk
     obtain ⟨j,hj,e⟩:=hm.1 hk;exact ⟨by omega,⟨λ_=>⟨i,by omega,j,hj,e⟩,λ_=>by omega⟩⟩
   · rename_i hk
     refine ⟨by simp; omega,?_⟩;rw [List.length_append,List.length_singleton]
     constructor
     · intro h
       obtain ⟨i2,a,b⟩:=h2.1 (by omega);exact ⟨i2,by omega,b⟩
     · rintro ⟨i2,PS,j,hj,e⟩
       rcases Nat.lt_succ_iff_lt_or_eq.1 PS with h | rfl
       · have:=h2.2 ⟨i2,h,j,hj,e⟩; omega
       · exact absurd (hm.2 ⟨j,hj,e⟩) hk
theorem alP (l:List (List UInt8)):decide (((mW l l.length).1.length:Int)<(l.length:Int))=eo l:=by
 have h:=(Zh l l.length).2;simp only [keysOf,List.length_map] at h;rw [Bool.eq_iff_iff];unfold eo;simp only [decide_eq_true_eq,List.any_eq_true,List.mem_range,beq_iff_eq]
 constructor
 · intro aw
   obtain ⟨i,hi,j,hj,e⟩:=h.1 (by omega);exact ⟨i,hi,j,hj,e.symm⟩
 · rintro ⟨i,hi,j,hj,e⟩
   have:=h.2 ⟨i,hi,j,hj,e.symm⟩;omega
theorem jk:Tryz.prog.underlying 64=some (.map 9 3):=by kernel_rfl
theorem nZ:zeroOf Tryz.prog 3=some (.int .i64 0):=by kernel_rfl
theorem Fk:aX Tryz.prog 232 0=some 0:=by kernel_rfl
theorem zt:aX Tryz.prog 232 3=some 3:=by kernel_rfl
theorem p6:aX Tryz.prog 232 1=some 1:=by kernel_rfl
theorem lx:aX Tryz.prog 232 2=some 2:=by kernel_rfl
theorem Fl:aX Tryz.prog 180 1=some 1:=by kernel_rfl
theorem J9:dI Tryz.prog 178=true:=by kernel_rfl
theorem zu:dL Tryz.prog 178=some 4:=by kernel_rfl
theorem l5:eQ Tryz.prog 232=some 4:=by kernel_rfl
theorem iV:zeroOf Tryz.prog 232=some (.agg #[.int .i64 0,.int .i64 0,.int .i64 0,st []]):=by kernel_rfl
theorem ly:cq Tryz.prog 232=some 4:=by kernel_rfl
theorem alQ:Enters Tryz.prog 138:=enters_of Tryz.func138 (by kernel_rfl) rfl
theorem PT:Enters Tryz.prog 137:=enters_of Tryz.func137 (by kernel_rfl) rfl
theorem PU:aX Tryz.prog 180 0=some 0:=by kernel_rfl
theorem PV (H:View) (a:Option Addr) (c:Nat) (l:List (List UInt8)) (w:World) (hH:Le H w) (hm:Sl rdStr 1 H a c l) :
   Calls Tryz.prog 137 #[.slice a l.length c] w λe w'=>e = .returned (.bool (eo l))/\Ext w w':=by
 have dQ:=hm.cap;have eB:=hm.max;refine enter Tryz.func137 O 23 O O ?_;refine CE (Vs:=[H]) (Ws.init (by simp [hH])) (Cs (Cr (V0 (Ya O) (Ln (Et (Cs (Cr ?_)))))));refine WL.acK Y O λb6=>?_;refine V0 (Ya O) (Ln (Et (Cs (Cs (Cr (V0 (Ym O) (V0 (Yn dY O) (V0 (Ym O) (Ln (Et (Cb ?_)))))))))));refine cU (ι:=Nat) (λi=>[(9,.int .i64 (i:Int))]) [(0,_),(2,_),(3,_),(7,_),(8,_)] (λi=>Ws w [] [ab b6 (pn (iv (mW l i).1) (mW l i).2)] [H]) (λi=>i<=l.length) (λi=>l.length-i) 0 (Nat.zero_le _) (sc O (sc O (sc O (sc O (sc O (sc O sn)))))) (λ_ h=>h) ?_;intro i hi;refine Cs (Cr (V0 (bq O O) (Ln (Et (Cs ?_)))));refine Cc O (λad=>?_) (λad=>?_)
 ·have aw:i<l.length:=by simpa using ad
  obtain ⟨pb,po,ha,alR⟩:=hm.aZ i (l[i]?.getD []) (by rw [List.getElem?_eq_getElem aw]; rfl);have bJ:vc H pb (po+i*1)=some (st (l[i]?.getD [])):=alR 0 _ rfl;refine Ck (Et (Cs (Cb (Cs (Cr (V0 (Yo dY O O ha (by omega)) (V0 (dm 0 df O O (bJ)) (V0 (Ya O) (Ln (Et (Cr (V0 (Ym O) (V0 (Ym O) (V0 (acL 0 jk e7 nZ O O O) ?_))))))))))))));rw [alM];refine V0 (vO O O) ?_;refine WL.acM 0 Y jk e7 O O O O ?_;rw [alN,alO];refine Ln (Eb (Et (Cr (V0 (Yi O O O (by omega)) (V0 (Ym O) (Ln ?_))))));exact Ea (i+1) (by omega) (by omega) (sc O (sc O (sc O (sc O (sc O (sc O sn)))))) (λ_ h=>h)
 have mL:i=l.length:=by simp at ad; omega
 subst mL;refine Ce (Ex (Ex (cf (Et (Cs (Cr (V0 (Ym O) (V0 (Th 0 jk O O) (V0 (Ym O) (V0 (Yn dY O) (V0 (bq O O) (V0 (Ya O) ?_))))))))))));refine Ln (Et (az ?_));refine R1 O O λw' hw=>?_;exact ⟨by rw [<-alP]; simp [iv],hw.fr⟩
theorem alS (x:aV) (w:World) :
   Calls Tryz.prog 138 #[.agg #[.int .i64 x.kind,.int .i64 x.n,.int .i64 x.pl,st x.name]] w λe w'=>e = .returned (.bool (pA x))/\Ext w w':=by
 refine enter Tryz.func138 O 42 O O ?_;refine CE (Vs:=[]) (Ws.init (by simp)) (Cs (Cr ?_));refine WL.box Y O O λb1=>?_;refine V0 (Ya O) (Ln (Et (Cs (Cr (V0 (Ya O) (V0 (Ya O) (Ln (Et (Cs (Cr (V0 (Ya O) (Ln (Et (Cs (Cs (Cr (V0 (Yf Fk O) ?_)))))))))))))))));refine V0 (Yd 0 O O O aq) (Ln (Et (Cb (Cs (Cr (V0 (aG O O) (V0 (Ya O) (Ln (Et ?_)))))))));refine Cc O (λad=>?_) (λad=>?_)
 ·refine Cr (V0 (Ya O) (Ln (Eb (Et (Cs (Cr (V0 (Yf zt O) (V0 (Yd 0 O O O df) (Lp Y O rb O (λw hw=>ra _ w) (V0 (Ym O) ?_))))))))));apply La 4 O O O O Y O O O O O
  ·intro de;refine Vg (Yf p6 O) (Vg (Yd 0 O O O aq) (Vg (Ym O) (Vg (fm O O) ?_)));exact Gt 4 O O O
  refine V0 (Ym O) ?_;apply La 4 O O O O Y O O O O O
  ·intro bK;refine Vg (Yf p6 O) (Vg (Yd 0 O O O aq) (Vg (Ym O) (Vg (ij O O) ?_)));exact Gt 4 O O O
  refine V0 (Ym O) ?_;apply La 3 O O O O Y O O O O O
  ·intro hY;refine Vg (Yf lx O) (Vg (Yd 0 O O O aq) (Vg (fm O O) ?_));exact Gt 3 O O O
  refine V0 (Ym O) ?_;apply La 4 O O O O Y O O O O O
  ·intro mM;refine Vg (Yf lx O) (Vg (Yd 0 O O O aq) (Vg (Ym O) (Vg (ij O O) ?_)));exact Gt 4 O O O
  refine V0 (Ya O) (Ln (Et (az ?_)));refine R1 O O λw' hw=>?_
  have hk:x.kind=1:=by simpa using ad
  exact ⟨by rw [H9 (by simp [hk])],hw.fr⟩
 refine Cs (Cr (V0 (aG O O) (V0 (Ya O) (Ln (Et ?_)))));refine Cc O (λar=>?_) (λar=>?_)
 ·refine Cr (V0 (Ya O) (Ln (Eb (Et (Cs (Cr (V0 (Yf zt O) (V0 (Yd 0 O O O df) (Lp Y O rb O (λw hw=>ra _ w) (V0 (Ym O) ?_))))))))));apply La 4 O O O O Y O O O O O
  ·intro de;refine Vg (Yf p6 O) (Vg (Yd 0 O O O aq) (Vg (Ym O) (Vg (fm O O) ?_)));exact Gt 4 O O O
  refine V0 (Ym O) ?_;apply La 4 O O O O Y O O O O O
  ·intro bK;refine Vg (Yf p6 O) (Vg (Yd 0 O O O aq) (Vg (Ym O) (Vg (ij O O) ?_)));exact Gt 4 O O O
  refine V0 (Ym O) ?_;apply La 3 O O O O Y O O O O O
  ·intro hY;refine Vg (Yf lx O) (Vg (Yd 0 O O O aq) (Vg (fm O O) ?_));exact Gt 3 O O O
  refine V0 (Ym O) ?_;apply La 4 O O O O Y O O O O O
  ·intro mM;refine Vg (Yf lx O) (Vg (Yd 0 O O O aq) (Vg (Ym O) (Vg (ij O O) ?_)));exact Gt 4 O O O
  refine V0 (Ya O) (Ln (Et (az ?_)));refine R1 O O λw' hw=>?_
  have hk:x.kind=2:=by simpa using ar
  exact ⟨by rw [H9 (by simp [hk])],hw.fr⟩
 refine Cs (Cr (V0 (aG O O) (V0 (Ya O) (Ln (Et ?_)))));refine Cc O (λay=>?_) (λay=>?_)
 ·refine Cr (V0 (Ya O) (V0 (Ya O) (Ln (Eb (Et (Cs (Cr (V0 (Yf zt O) (V0 (Yd 0 O O O df) (Lp Y O rb O (λw hw=>ra _ w) (V0 (Ym O) ?_)))))))))));apply La 4 O O O O Y O O O O O
  ·intro de;refine Vg (Yf p6 O) (Vg (Yd 0 O O O aq) (Vg (Ym O) (Vg (fm O O) ?_)));exact Gt 4 O O O
  refine V0 (Ym O) ?_;apply La 4 O O O O Y O O O O O
  ·intro bK;refine Vg (Yf p6 O) (Vg (Yd 0 O O O aq) (Vg (Ym O) (Vg (ij O O) ?_)));exact Gt 4 O O O
  refine V0 (Ym O) ?_;apply La 3 O O O O Y O O O O O
  ·intro hY;refine Vg (Yf lx O) (Vg (Yd 0 O O O aq) (Vg (fm O O) ?_));exact Gt 3 O O O
  refine V0 (Ym O) ?_;apply La 4 O O O O Y O O O O O
  ·intro mM;refine Vg (Yf lx O) (Vg (Yd 0 O O O aq) (Vg (Ym O) (Vg (ij O O) ?_)));exact Gt 4 O O O
  refine V0 (Ya O) (Ln (Et (az ?_)));refine R1 O O λw' hw=>?_
  have hk:x.kind=3:=by simpa using ay
  exact ⟨by rw [H9 (by simp [hk])],hw.fr⟩
 refine Cs (Cr (V0 (aG O O) (V0 (Ya O) (Ln (Et ?_)))));refine Cc O (λaM=>?_) (λaM=>?_)
 ·refine Cr (V0 (Ya O) (Ln (Eb (Et (Cs (Cr (V0 (Yf zt O) (V0 (Yd 0 O O O df) (Lp Y O rb O (λw hw=>ra _ w) (V0 (Ym O) ?_))))))))));apply La 4 O O O O Y O O O O O
  ·intro de;refine Vg (Yf p6 O) (Vg (Yd 0 O O O aq) (Vg (Ym O) (Vg (fm O O) ?_)));exact Gt 4 O O O
  refine V0 (Ym O) ?_;apply La 4 O O O O Y O O O O O
  ·intro bK;refine Vg (Yf p6 O) (Vg (Yd 0 O O O aq) (Vg (Ym O) (Vg (ij O O) ?_)));exact Gt 4 O O O
  refine V0 (Ym O) ?_;apply La 3 O O O O Y O O O O O
  ·intro hY;refine Vg (Yf lx O) (Vg (Yd 0 O O O aq) (Vg (fm O O) ?_));exact Gt 3 O O O
  refine V0 (Ym O) ?_;apply La 4 O O O O Y O O O O O
  ·intro mM;refine Vg (Yf lx O) (Vg (Yd 0 O O O aq) (Vg (Ym O) (Vg (ij O O) ?_)));exact Gt 4 O O O
  refine V0 (Ya O) (Ln (Et (az ?_)));refine R1 O O λw' hw=>?_
  have hk:x.kind=4:=by simpa using aM
  exact ⟨by rw [H9 (by simp [hk])],hw.fr⟩
 refine Cs (Cr (V0 (Ya O) (Ln (Et (az (bR (Er ?_)))))));refine R1 O O λw' hw=>?_;simp at ad ar ay aM;exact ⟨by rw [ad5 ad ar ay aM],hw.fr⟩
theorem alT (H:View) (a:Option Addr) (c:Nat) (name:List UInt8) (items:List aV) (w:World) (hH:Le H w) (hm:Sl lQ 4 H a c items) :
   Calls Tryz.prog 116 #[.agg #[st name,.slice a items.length c]] w λe w'=>e = .returned (.int .i64 (uk name items))/\Ext w w':=by
 have dQ:=hm.cap;have eB:=hm.max;refine enter Tryz.func116 O 34 O O ?_;refine CE (Vs:=[H]) (Ws.init (by simp [hH])) (Cs (Cr ?_));refine WL.box Y O O λb1=>?_;refine V0 (Ya O) (Ln (Et (Cs (Cs (Cr (V0 (Yf Fl O) (V0 (Yd 0 O O O J9) (V0 (Yn zu O) (V0 (bZ O O) (Ln (Et ?_)))))))))));refine Cc O (λad=>?_) (λad=>?_)
 ·have zv:16<items.length:=by simp at ad; omega
  refine Cs (Cr (V0 (Ya O) (Ln (Et (az (Er ?_))))));refine R1 O O λw' hw=>?_;exact ⟨by rw [uk,if_pos zv],hw.fr⟩
 have zv:¬16<items.length:=by simp at ad; omega
 refine Ck (Et (Cs (Cr (V0 (Ya O) (LW (λ_ h=>h.fB 9 1) (Ln (Et (Cs (Cs (Cr (V0 (Yf Fl O) (V0 (Yd 1 O O O J9) (V0 (Yn zu O) (V0 (Ym O) ?_))))))))))))));refine Ln (Et (Cb ?_));refine cU (ι:=Nat×Option Addr×Nat) (λg=>[(13,.int .i64 (g.1:Int)),(3,.slice g.2.1 ((items.take g.1).map (·.name)).length g.2.2)]) [(1,_),(11,_),(12,_)] (λg=>Ws w [] [bo 9 1 d_ g.2.1 g.2.2 ((items.take g.1).map (·.name)),ab b1 (.cells (Value.agg #[st name,.slice a items.length c]).cells 180 (0,0))] [H]) (λg=>g.1<=items.length/\∀j x,j<g.1->items[j]? = some x->pA x=true) (λg=>items.length-g.1) (0,none,0) ⟨Nat.zero_le _,by simp⟩ (sc O (sc O (sc O (sc O (sc O sn))))) (λ_ h=>h) ?_;intro g ⟨hi,cg⟩;refine Cs (Cr (V0 (bq O O) (Ln (Et (Cs ?_)))));refine Cc O (λar=>?_) (λar=>?_)
 ·have aw:g.1<items.length:=by simpa using ar
  obtain ⟨x,hx⟩:∃x,items[g.1]? = some x:=⟨_,List.getElem?_eq_getElem aw⟩;obtain ⟨pb,po,ha,bJ⟩:=hm.aZ g.1 x hx;have bJ:aT H pb (po+g.1*4) x.cells:=bJ
  have hT:(items.take (g.1+1)).map (·.name)=(items.take g.1).map (·.name)++[x.name]:=by rw [List.take_add_one,hx]; simp
  have hL:((items.take g.1).map (·.name)).length=g.1:=by simp; omega
  refine Ck (Et (Cs (Cb (Cs (Cr (V0 (Yo zu O O ha (by omega)) (V0 (cM 0 l5 O O O (bJ)) ?_)))))));refine Al Y O iV λb5=>?_;refine an 0 Y O O O ly O O O (Ln (Et (Cs (Cs (Cr (V0 (bA 0 O O l5 O) (Lp Y O alQ O (λw hw=>alS x w) (V0 (eu O) (Ln (Et ?_))))))))));refine Cc O (λay=>?_) (λay=>?_)
  ·have gK:=ad7 hx (by simpa using ay);refine Cs (Cr (V0 (Ya O) (Ln (Et (az (Er (bR (Er (Er (bR (Er ?_)))))))))));refine R1 O O λw' hw=>?_;exact ⟨by rw [uk,if_neg zv,gK]; rfl,hw.fr⟩
  have aE:pA x=true:=by simpa using ay
  refine Ck (Et (Cr (V0 (Ym O) (V0 (Yf zt O) (V0 (Yd 0 O O O df) ?_)))));refine Lb Y O dn O O O O λPW=>?_;refine bH 0 (.cells (d_ x.name).toArray 9 (0,0)) O (O) ?_;refine LA (x.name) 2 0 Y O dn O O O O O O (by omega) (by omega) λa24 c24=>?_;refine V0 (Ya O) (Ln (Eb (Et (Cr (V0 (Yi O O O (by omega)) (V0 (Ym O) (Ln ?_)))))));rw [<-hT]
  exact Ea ((g.1+1,a24,c24):Nat×Option Addr×Nat) (by first | omega | (dsimp only; omega)) ⟨by first | omega | (dsimp only; omega),λj y hj hy=>by
      rcases Nat.lt_succ_iff_lt_or_eq.1 hj with h | h
      · exact cg j y h hy
      · subst h; rw [hx] at hy; injection hy with hy; subst hy; exact aE⟩ (sc rfl (sc rfl (sc rfl (sc rfl (sc rfl sn))))) (λ_ h=>Wd 2 h)
 have mL:g.1=items.length:=by simp at ar; omega
 rw [mL,List.take_length];refine Ce (Ex (Ex (cf (Et (Cs (Cs ?_))))));refine WC.v_ (rd:=rdStr) 0 O oz (λ_ _ _ _ h=>h) λHN PY=>?_;refine Cr (V0 (Ym O) ?_)
 refine Lp Y O PT O (λw hw=>by
     have:=PV HN g.2.1 g.2.2 (items.map (·.name)) w (hw.vs _ (by simp)) PY
     exact this) ?_
 refine V0 (Ym O) ?_;apply Lo 4 O O O O Y O O O O O
 ·intro de;refine Vg (Yf PU O) (Vg (Yd 0 O O O df) (Lp (.g O O O) O rb O (λw hw=>ra _ w) (Vg (eu O) ?_)));exact Gt 4 O O O
 refine Ln (Et ?_);refine Cc O (λaM=>?_) (λaM=>?_)
 ·refine Cs (Cr (V0 (Ya O) (Ln (Et (az (Er ?_))))));refine R1 O O λw' hw=>?_;have hy:=Uk λj y hy=>cg j y (by have:=(List.getElem?_eq_some_iff.1 hy).1; omega) hy;exact ⟨by rw [uk,if_neg zv,hy,aM]; rfl,hw.fr⟩
 refine Ck (Et (Cs (Cr (V0 (Ya O) (Ln (Et (az ?_)))))));refine R1 O O λw' hw=>?_;have hy:=Uk λj y hy=>cg j y (by have:=(List.getElem?_eq_some_iff.1 hy).1; omega) hy;exact ⟨by rw [uk,if_neg zv,hy,aM]; rfl,hw.fr⟩
theorem Zi {m:bc} (h:jw m=0):DV m:=okM (af2.1 h)
theorem alU {d:bI} (h:VT d):0<=mz d/\mz d<=32:=by
 unfold mz;have h3:=h.n3
 split
 · omega
 · split
   · rename_i hk; have:=h3 hk; omega
   · omega
theorem Zj:∀{l:List bI},(∀d ∈ l,(gO d).bf=0)->0<=e9 l/\e9 l<=32*(l.length:Int)
 | [],_=>by simp [e9]
 | d::l,h=>by
   have h1:=alU (VU (h d (by simp)));have h2:=Zj (l:=l) λx hx=>h x (List.mem_cons_of_mem _ hx);simp only [e9,List.length_cons];omega
theorem Zk {m:bc} (ho:DV m) (i:Nat):0<=e9 (m.decls.take i)/\e9 (m.decls.take i)<=320:=by
 have h:=Zj (l:=m.decls.take i) λd hd=>ho.decls d (List.mem_of_mem_take hd);have h1:=ho.ep.2.1
 have h2:((m.decls.take i).length:Int)<=10:=by rw [List.length_take]; omega
 omega
theorem alV {d:bI} {a:Int} (h:d.kind=1):aV.cells (oC a d)=[.int .i64 d.kind,.int .i64 d.n,.int .i64 0,st d.nm]:=by rw [oC,if_pos h]; rfl
theorem Zl {d:bI} {a:Int} (h:¬d.kind=1):aV.cells (oC a d)=[.int .i64 d.kind,.int .i64 d.n,.int .i64 a,st d.nm]:=by rw [oC,if_neg h]; rfl
theorem alW {d:bI} (h:d.kind=1):mz d=0:=by rw [mz,if_neg (by omega),if_neg (by omega)]
theorem alX {d:bI} (h:d.kind=2):mz d=1:=by rw [mz,if_pos h]
theorem alY {d:bI} (h:d.kind=3):mz d=d.n:=by rw [mz,if_neg (by omega),if_pos h]
theorem zw:eR Tryz.prog 232=some [(0,1),(1,1),(2,1),(3,1)]:=by kernel_rfl
theorem rJ:eS Tryz.prog 178 232 (.agg #[.int .i64 0,.int .i64 0,.int .i64 0,st []]) 4 40:=gW (by kernel_rfl)
theorem Zm (H:View) (ke ks:Nat) (r:lL) (m:bc) (w:World) (hH:Le H w) (hm:nz ke ks H r m) (ho:DV m) :
   Calls Tryz.prog 113 #[.agg (gg m r).toArray] w λe w'=>∃r:SP,e = .returned (.tuple #[.slice r.1 (ec m).length r.2,.int .i64 (AS m)])/\Ext w w'/\Sl lQ 4 (nv w w') r.1 r.2 (ec m):=by
 have ep:=ho.ep;have xd:=hm.decls.max;have yd:=hm.decls.cap;have xp:=hm.procs.max;have yp:=hm.procs.cap;refine enter Tryz.func113 O 67 O O ?_;refine CE (Vs:=[H]) (Ws.init (by simp [hH])) (Cs (Cr ?_));refine WL.box Y O O λb1=>?_;refine V0 (Ya O) (V0 (Ya O) (Ln (Et (Cs (Cr (V0 (Ya O) (LW (λ_ h=>h.fB 232 4) (Ln (Et (Cs (Cr (V0 (Ya O) (Ln (Et (Cs (Cs (Cr ?_)))))))))))))))));refine V0 (Yf Bu O) (V0 (Yd 1 O O O Ef) (V0 (Yn yJ O) (V0 (Ym O) (Ln (Et (Cb ?_))))));refine cU (ι:=Nat×Option Addr×Nat) (λg=>[(14,.int .i64 (g.1:Int)),(4,.slice g.2.1 (jz (m.decls.take g.1) 0).length g.2.2),(5,.int .i64 (e9 (m.decls.take g.1)))]) [(1,_),(2,_),(3,_),(12,_),(13,_)] (λg=>Ws w [] [bo 232 4 aV.cells g.2.1 g.2.2 (jz (m.decls.take g.1) 0),ab b1 (.cells (gg m r).toArray 174 (0,0))] [H]) (λg=>g.1<=m.decls.length) (λg=>m.decls.length-g.1) (0,none,0) (Nat.zero_le _) (sc O (sc O (sc O (sc O (sc O (sc O (sc O (sc O sn)))))))) (λ_ h=>h) ?_;intro g hi;refine Cs (Cr (V0 (bq O O) (Ln (Et (Cs ?_)))));refine Cc O (λad=>?_) (λad=>?_)
 ·have aw:g.1<m.decls.length:=by simpa using ad
  obtain ⟨d,u4⟩:∃q,m.decls[g.1]? = some q:=⟨_,List.getElem?_eq_getElem aw⟩;obtain ⟨Eg,Eh,Ei,dP⟩:=hm.decls.aZ g.1 d u4;have dP:aT H Eg (Eh+g.1*4) d.cells:=dP;have od:=VU (ho.decls d (List.mem_of_getElem? u4));have Zn:m.decls.take (g.1+1)=m.decls.take g.1++[d]:=lW u4
  have hI:jz (m.decls.take (g.1+1)) 0=jz (m.decls.take g.1) 0++[oC (e9 (m.decls.take g.1)) d]:=by rw [Zn,Um,Int.zero_add]
  have hS:e9 (m.decls.take (g.1+1))=e9 (m.decls.take g.1)+mz d:=by rw [Zn,Ul]
  have BB:=Zk ho g.1;have auH:=Zk ho (g.1+1)
  have hlD:(jz (m.decls.take g.1) 0).length=g.1:=by rw [H_,List.length_take]; omega
  have iB:=od.n3;refine Ck (Et (Cs (Cb (Cs (Cr (V0 (Yo yJ O O Ei (by omega)) (V0 (cM 0 oN O O O (dP)) ?_)))))));refine Al Y O sS λb7=>?_;refine an 0 Y O O O u3 O O O (Ln (Et (Cs (Cr (V0 (Yf Bo O) (V0 (Yd 0 O O O aq) (V0 (Yf uZ O) (V0 (Yd 0 O O O aq) (V0 (Yf D5 O) (V0 (Yd 0 O O O df) ?_))))))))));refine V0 (Yb iV zw O O) ?_;refine Al Y O iV λb8=>?_;refine an 0 Y O O O ly O O O (Ln (Et (Cs (Cs (Cr (V0 (Yf Bo O) (V0 (Yd 1 O O O aq) (Ln (Et (Cb (Cs (Cr (V0 (aG O O) (V0 (Ya O) (Ln (Et ?_))))))))))))))));refine Cc O (λar=>?_) (λar=>?_)
  ·have eI:d.kind=2:=by simpa using ar
   have hz:=alX eI;refine Cs (Cr (V0 (Ym O) (V0 (Yf lx O) (an 0 Y O O O bX O O O (Ln (Et (Cr (V0 (Ym O) (V0 (Ht (e9 (m.decls.take (g.1+1))) O O (by rw [hS,hz]) (by omega)) (V0 (Ya O) ?_))))))))));refine Ln (Eb (Et (Cr (V0 (Ym O) (V0 (bA 0 O O l5 O) ?_)))));refine Lb Y O rJ O O O O λfu=>?_;refine bH 0 (.cells (aV.cells (oC (e9 (m.decls.take g.1)) d)).toArray 232 (0,0)) O (by rw [Zl (by omega)]; rfl) ?_;refine LA (oC (e9 (m.decls.take g.1)) d) 3 0 Y O rJ O O O O O O (by omega) (by omega) λFo Fp=>?_;refine V0 (Ya O) (Ln (Eb (Et (Cr (V0 (Yi O O O (by omega)) (V0 (Ym O) (Ln ?_)))))));rw [<-hI];exact Ea ((g.1+1,Fo,Fp):Nat×Option Addr×Nat) (by first | omega | (dsimp only; omega)) (by first | omega | (dsimp only; omega)) (sc O (sc O (sc O (sc O (sc O (sc O (sc O (sc O sn)))))))) (λ_ h=>Wd 3 h)
  have eI:¬d.kind=2:=by simpa using ar
  refine Cs (Cr (V0 (aG O O) (V0 (Ya O) (Ln (Et ?_)))));refine Cc O (λay=>?_) (λay=>?_)
  ·have re:d.kind=3:=by simpa using ay
   have hz:=alY re;refine Cs (Cr (V0 (Ym O) (V0 (Yf lx O) (an 0 Y O O O bX O O O (Ln (Et (Cr (V0 (Ym O) (V0 (Yf uZ O) (V0 (Yd 1 O O O aq) ?_))))))))));refine V0 (Ht (e9 (m.decls.take (g.1+1))) O O (by rw [hS,hz]) (by omega)) (V0 (Ya O) (Ln (Eb (Et (Cr (V0 (Ym O) (V0 (bA 0 O O l5 O) ?_)))))));refine Lb Y O rJ O O O O λfu=>?_;refine bH 0 (.cells (aV.cells (oC (e9 (m.decls.take g.1)) d)).toArray 232 (0,0)) O (by rw [Zl (by omega)]; rfl) ?_;refine LA (oC (e9 (m.decls.take g.1)) d) 3 0 Y O rJ O O O O O O (by omega) (by omega) λFo Fp=>?_;refine V0 (Ya O) (Ln (Eb (Et (Cr (V0 (Yi O O O (by omega)) (V0 (Ym O) (Ln ?_)))))));rw [<-hI];exact Ea ((g.1+1,Fo,Fp):Nat×Option Addr×Nat) (by first | omega | (dsimp only; omega)) (by first | omega | (dsimp only; omega)) (sc O (sc O (sc O (sc O (sc O (sc O (sc O (sc O sn)))))))) (λ_ h=>Wd 3 h)
  have re:¬d.kind=3:=by simpa using ay
  have jx:d.kind=1:=by have:=od.kind; omega
  have hz:=alW jx
  have hS0:e9 (m.decls.take (g.1+1))=e9 (m.decls.take g.1):=by rw [hS,hz]; omega
  refine Ck (Eb (Et (Cr (V0 (Ym O) (V0 (bA 0 O O l5 O) ?_)))));refine Lb Y O rJ O O O O λfu=>?_;refine bH 0 (.cells (aV.cells (oC (e9 (m.decls.take g.1)) d)).toArray 232 (0,0)) O (by rw [alV jx]; rfl) ?_;refine LA (oC (e9 (m.decls.take g.1)) d) 3 0 Y O rJ O O O O O O (by omega) (by omega) λFo Fp=>?_;refine V0 (Ya O) (Ln (Eb (Et (Cr (V0 (Yi O O O (by omega)) (V0 (Ym O) (Ln ?_)))))));rw [<-hI];rw [<-hS0];exact Ea ((g.1+1,Fo,Fp):Nat×Option Addr×Nat) (by first | omega | (dsimp only; omega)) (by first | omega | (dsimp only; omega)) (sc O (sc O (sc O (sc O (sc O (sc O (sc O (sc O sn)))))))) (λ_ h=>Wd 3 h)
 have cz:g.1=m.decls.length:=by simp at ad; omega
 rw [cz,List.take_length]
 clear cz ad hi
 refine Ce (Ex (Ex (cf (Et (Cs (Cs (Cr (V0 (Yf yK O) (V0 (Yd 1 O O O Bv) (V0 (Yn u1 O) (V0 (Ym O) (Ln (Et (Cb ?_))))))))))))));rw [show jz m.decls 0=jz m.decls 0++mA (m.procs.take 0) 0 by simp [mA]];refine cU (ι:=Nat×Option Addr×Nat) (λg=>[(49,.int .i64 (g.1:Int)),(4,.slice g.2.1 (jz m.decls 0++mA (m.procs.take g.1) 0).length g.2.2)]) [(2,_),(3,_),(5,_),(47,_),(48,_)] (λg=>Ws w [] [bo 232 4 aV.cells g.2.1 g.2.2 (jz m.decls 0++mA (m.procs.take g.1) 0),ab b1 (.cells (gg m r).toArray 174 (0,0))] [H]) (λg=>g.1<=m.procs.length) (λg=>m.procs.length-g.1) (0,g.2.1,g.2.2) (Nat.zero_le _) (sc O (sc O (sc O (sc O (sc O (sc O (sc O sn))))))) (λ_ h=>h) ?_
 clear g
 intro g hi;refine Cs (Cr (V0 (bq O O) (Ln (Et (Cs ?_)))));refine Cc O (λaM=>?_) (λaM=>?_)
 ·have aw:g.1<m.procs.length:=by simpa using aM
  obtain ⟨p,lr⟩:∃q,m.procs[g.1]? = some q:=⟨_,List.getElem?_eq_getElem aw⟩;obtain ⟨yL,pop,ml,yM⟩:=hm.procs.aZ g.1 p lr;obtain ⟨yN,yO,yP,yQ,BC,BD,bJ,j7,jh,kN⟩:=yM;have hx1:=j7.max;have hy1:=j7.cap;have hTp:m.procs.take (g.1+1)=m.procs.take g.1++[p]:=lW lr
  have hI:jz m.decls 0++mA (m.procs.take (g.1+1)) 0=(jz m.decls 0++mA (m.procs.take g.1) 0)++[Dr g.1 p]:=by
    rw [hTp,Un,List.append_assoc,Nat.zero_add,List.length_take,Nat.min_eq_left (by omega)]
  have hlI:(jz m.decls 0++mA (m.procs.take g.1) 0).length<=16:=by rw [List.length_append,H_,M8,List.length_take]; omega
  refine Ck (Et (Cs (Cb (Cs (Cr (V0 (Ym O) (V0 (Yo u1 O O ml (by omega)) (V0 (cM 0 Bx O O O (bJ)) ?_))))))));refine Al Y O wK λlz=>?_;refine V0 (Ya O) (an 0 Y O O O By O O O (Ln (Et (Cr (V0 (Ym O) (V0 (Yf sT O) (V0 (Yd 0 O O O fh) (V0 (Yn dY O) (V0 (Ym O) ?_)))))))));refine V0 (Yf W8 O) (V0 (Yd 0 O O O df) (V0 (Yb iV zw O O) ?_));refine Lb Y O rJ O O O O λOq=>?_;refine bH 0 (.cells (aV.cells (Dr g.1 p)).toArray 232 (0,0)) O (O) ?_;refine LA (Dr g.1 p) 2 0 Y O rJ O O O O O O (by omega) (by omega) λa63 c63=>?_;refine V0 (Ya O) (Ln (Eb (Et (Cr (V0 (Yi O O O (by omega)) (V0 (Ym O) (Ln ?_)))))));rw [<-hI];exact Ea ((g.1+1,a63,c63):Nat×Option Addr×Nat) (by first | omega | (dsimp only; omega)) (by first | omega | (dsimp only; omega)) (sc O (sc O (sc O (sc O (sc O (sc O (sc O sn))))))) (λ_ h=>Wd 2 h)
 have cz:g.1=m.procs.length:=by simp at aM; omega
 rw [cz,List.take_length];refine Ce (Ex (Ex (cf (Et (Cs (Cr (V0 (Ym O) (V0 (Ym O) (V0 (Ya O) (V0 (Ya O) (Ln (Et (az ?_)))))))))))));refine WE.me O O O λw' hw=>?_;exact ⟨(g.2.1,g.2.2),O,hw.fr,hw.gv 0 O aV.a8 (λ_ _ _ _ h=>h)⟩
theorem al5 {m:bc} {i:Nat} {p:dC} (h:m.procs[i]? = some p):m.decls.map (·.aR)++(m.procs.take (i+1)).map (·.aR)=(m.decls.map (·.aR)++(m.procs.take i).map (·.aR))++[p.aR]:=by rw [lW h]; simp
theorem al6 {m:bc} {i:Nat} {d:bI} (h:m.decls[i]? = some d):(m.decls.take (i+1)).map (·.aR)=(m.decls.take i).map (·.aR)++[d.aR]:=by rw [lW h]; simp
theorem Zo {m:bc} (h:¬jw m=0):gQ m=(([],[]),jw m):=by rw [gQ,if_pos h]
theorem Zp {m:bc} (h:jw m=0) (h2:(eo ((ec m).map (·.name))||eo m.ae)=true):gQ m=(([],[]),6):=by rw [gQ,if_neg (by simp [h]),if_pos h2]
theorem al7 {m:bc} (h:jw m=0) (h2:(eo ((ec m).map (·.name))||eo m.ae)=false):gQ m=((m.nm,lR (ec m) (oD m)),0):=by rw [gQ,if_neg (by simp [h]),if_neg (by simp [h2])]
def FQ (m:bc) (i:Nat):List aV:=lR ((ec m).take i) ((oD m).take i)
theorem al8 (m:bc):FQ m (ec m).length=lR (ec m) (oD m):=by
 unfold FQ;rw [List.take_length,Ia,<-Ib,List.take_length]
theorem al9 {m:bc} {i:Nat} {x:aV} {p:Bool} (h1:(ec m)[i]? = some x) (h2:(oD m)[i]? = some p):FQ m (i+1)=FQ m i++(if p=true then [x] else []):=ad8 (by rw [Ia,Ib]) h1 h2
theorem al' (m:bc) (i:Nat):(FQ m i).length<=i:=by
 have:=Up ((ec m).take i) ((oD m).take i);simp at this
 show (lR _ _).length<=i
 omega
structure GF where
 i:Nat
 n:SP
 f:SP
theorem al_:aX Tryz.prog 217 2=some 2:=by kernel_rfl
theorem J_:eS Tryz.prog 248 4 (.bool false) 1 1:=gW (by kernel_rfl)
theorem ama:aX Tryz.prog 213 1=some 1:=by kernel_rfl
theorem vt:zeroOf Tryz.prog 180=some (.agg #[st [],.slice none 0 0]):=by kernel_rfl
theorem Ka:eR Tryz.prog 180=some [(0,1),(1,1)]:=by kernel_rfl
theorem zx:cq Tryz.prog 180=some 2:=by kernel_rfl
theorem zy:eQ Tryz.prog 180=some 2:=by kernel_rfl
theorem Zq:Enters Tryz.prog 113:=enters_of Tryz.func113 (by kernel_rfl) rfl
theorem amb:Enters Tryz.prog 136:=enters_of Tryz.func136 (by kernel_rfl) rfl
theorem amc:dL Tryz.prog 248=some 1:=by kernel_rfl
theorem amd:cq Tryz.prog 178=some 1:=by kernel_rfl
theorem ame (H:View) (ke ks:Nat) (r:lL) (m:bc) (w:World) (hH:Le H w) (hm:nz ke ks H r m) (ho:DV m) :
   Calls Tryz.prog 136 #[.agg (gg m r).toArray] w λe w'=>∃r:SP,e = .returned (.slice r.1 (oD m).length r.2)/\Ext w w'/\Sl rdBool 1 (nv w w') r.1 r.2 (oD m):=by
 have ep:=ho.ep;have xd:=hm.decls.max;have yd:=hm.decls.cap;have xp:=hm.procs.max;have yp:=hm.procs.cap;refine enter Tryz.func136 O 35 O O ?_;refine CE (Vs:=[H]) (Ws.init (by simp [hH])) (Cs (Cr ?_));refine WL.box Y O O λb1=>?_;refine V0 (Ya O) (Ln (Et (Cs (Cr (V0 (Ya O) (LW (λ_ h=>h.fB 4 1) (Ln (Et (Cs (Cs (Cr (V0 (Yf Bu O) (V0 (Yd 1 O O O Ef) (V0 (Yn yJ O) ?_))))))))))))));refine V0 (Ym O) (Ln (Et (Cb ?_)));refine cU (ι:=Nat×Option Addr×Nat) (λg=>[(11,.int .i64 (g.1:Int)),(3,.slice g.2.1 ((m.decls.take g.1).map (·.aR)).length g.2.2)]) [(1,_),(2,_),(9,_),(10,_)] (λg=>Ws w [] [bo 4 1 ye g.2.1 g.2.2 ((m.decls.take g.1).map (·.aR)),ab b1 (.cells (gg m r).toArray 174 (0,0))] [H]) (λg=>g.1<=m.decls.length) (λg=>m.decls.length-g.1) (0,none,0) (Nat.zero_le _) (sc O (sc O (sc O (sc O (sc O (sc O sn)))))) (λ_ h=>h) ?_;intro g hi;refine Cs (Cr (V0 (bq O O) (Ln (Et (Cs ?_)))));refine Cc O (λad=>?_) (λad=>?_)
 ·have aw:g.1<m.decls.length:=by simpa using ad
  obtain ⟨d,u4⟩:∃q,m.decls[g.1]? = some q:=⟨_,List.getElem?_eq_getElem aw⟩;obtain ⟨Eg,Eh,Ei,dP⟩:=hm.decls.aZ g.1 d u4;have dP:aT H Eg (Eh+g.1*4) d.cells:=dP;have hI:=al6 u4
  have hl:((m.decls.take g.1).map (·.aR)).length=g.1:=by simp; omega
  refine Ck (Et (Cs (Cb (Cs (Cr (V0 (Yo yJ O O Ei (by omega)) (V0 (cM 0 oN O O O (dP)) ?_)))))));refine Al Y O sS λb5=>?_;refine an 0 Y O O O u3 O O O (Ln (Et (Cr (V0 (Ym O) (V0 (Yf al_ O) (V0 (Yd 0 O O O yF) ?_))))));refine Lb Y O J_ O O O O λrC=>?_;refine bH 0 (.cells (ye d.aR).toArray 4 (0,0)) O (O) ?_;refine LA (d.aR) 2 0 Y O J_ O O O O O O (by omega) (by omega) λFq Fs=>?_;refine V0 (Ya O) (Ln (Eb (Et (Cr (V0 (Yi O O O (by omega)) (V0 (Ym O) (Ln ?_)))))));rw [<-hI];exact Ea ((g.1+1,Fq,Fs):Nat×Option Addr×Nat) (by first | omega | (dsimp only; omega)) (by first | omega | (dsimp only; omega)) (sc O (sc O (sc O (sc O (sc O (sc O sn)))))) (λ_ h=>Wd 2 h)
 have cz:g.1=m.decls.length:=by simp at ad; omega
 rw [cz,List.take_length]
 clear cz ad hi
 refine Ce (Ex (Ex (cf (Et (Cs (Cs (Cr (V0 (Yf yK O) (V0 (Yd 1 O O O Bv) (V0 (Yn u1 O) (V0 (Ym O) (Ln (Et (Cb ?_))))))))))))));rw [show m.decls.map (·.aR)=m.decls.map (·.aR)++(m.procs.take 0).map (·.aR) by simp];refine cU (ι:=Nat×Option Addr×Nat) (λg=>[(24,.int .i64 (g.1:Int)),(3,.slice g.2.1 (m.decls.map (·.aR)++(m.procs.take g.1).map (·.aR)).length g.2.2)]) [(2,_),(22,_),(23,_)] (λg=>Ws w [] [bo 4 1 ye g.2.1 g.2.2 (m.decls.map (·.aR)++(m.procs.take g.1).map (·.aR)),ab b1 (.cells (gg m r).toArray 174 (0,0))] [H]) (λg=>g.1<=m.procs.length) (λg=>m.procs.length-g.1) (0,g.2.1,g.2.2) (Nat.zero_le _) (sc O (sc O (sc O (sc O (sc O sn))))) (λ_ h=>h) ?_
 clear g
 intro g hi;refine Cs (Cr (V0 (bq O O) (Ln (Et (Cs ?_)))));refine Cc O (λar=>?_) (λar=>?_)
 ·have aw:g.1<m.procs.length:=by simpa using ar
  obtain ⟨p,lr⟩:∃q,m.procs[g.1]? = some q:=⟨_,List.getElem?_eq_getElem aw⟩;obtain ⟨yL,pop,ml,yM⟩:=hm.procs.aZ g.1 p lr;obtain ⟨yN,yO,yP,yQ,BC,BD,bJ,j7,jh,kN⟩:=yM;have hI:=al5 lr
  have hl:(m.decls.map (·.aR)++(m.procs.take g.1).map (·.aR)).length<=16:=by simp; omega
  refine Ck (Et (Cs (Cb (Cs (Cr (V0 (Yo u1 O O ml (by omega)) (V0 (cM 0 Bx O O O (bJ)) ?_)))))));refine Al Y O wK λb7=>?_;refine an 0 Y O O O By O O O (Ln (Et (Cr (V0 (Ym O) (V0 (Yf ama O) (V0 (Yd 0 O O O yF) ?_))))));refine Lb Y O J_ O O O O λJD=>?_;refine bH 0 (.cells (ye p.aR).toArray 4 (0,0)) O (O) ?_;refine LA (p.aR) 2 0 Y O J_ O O O O O O (by omega) (by omega) λa32 c32=>?_;refine V0 (Ya O) (Ln (Eb (Et (Cr (V0 (Yi O O O (by omega)) (V0 (Ym O) (Ln ?_)))))));rw [<-hI];exact Ea ((g.1+1,a32,c32):Nat×Option Addr×Nat) (by first | omega | (dsimp only; omega)) (by first | omega | (dsimp only; omega)) (sc O (sc O (sc O (sc O (sc O sn))))) (λ_ h=>Wd 2 h)
 have cz:g.1=m.procs.length:=by simp at ar; omega
 rw [cz,List.take_length];refine Ce (Ex (Ex (cf (Et (Cs (Cr (V0 (Ym O) (V0 (Ya O) (Ln (Et (az ?_)))))))))));refine R1 O O λw' hw=>?_;exact ⟨(g.2.1,g.2.2),O,hw.fr,hw.gv 0 O adT (λ_ _ _ _ h=>h)⟩
theorem amh (H:View) (ke ks:Nat) (r:lL) (m:bc) (w:World) (hH:Le H w) (hm:nz ke ks H r m) (hb:wM m<=109951162777) :
   Calls Tryz.prog 111 #[.agg (gg m r).toArray] w λe w'=>∃r:SP,e = .returned (.tuple #[.agg #[st (gQ m).1.1,.slice r.1 (gQ m).1.2.length r.2],.int .i64 (gQ m).2])/\Ext w w'/\Sl lQ 4 (nv w w') r.1 r.2 (gQ m).1.2:=by
 refine enter Tryz.func111 O 60 O O ?_;refine CE (Vs:=[H]) (Ws.init (by simp [hH])) (Cs (Cr ?_));refine WL.box Y O O λb1=>?_;refine Al Y O vt λb2=>?_;refine V0 (Ya O) (Ln (Et (Cs (Cs (Cr (V0 (bA 1 O O mU O) (Lp Y O Za O (λw hw=>W9 H ke ks r m w (hw.vs _ (by simp)) hm (by omega)) (V0 (Ya O) (Ln (Et (Cs (Cr (V0 (Ym O) (V0 (jq O O) ?_))))))))))))));refine Ln (Et ?_);refine Cc O (λad=>?_) (λad=>?_)
 ·have he:¬jw m=0:=by simpa using ad
  refine Cs (Cr (V0 (Yb vt Ka O O) (V0 (Ym O) (an 0 Y O O O zx O O O (V0 (Ya O) (Ln (Et (az (Er ?_)))))))));refine WE.vT 0 O O O O zy O λw' hw=>?_;rw [Zo he];exact ⟨(none,0),O,hw.fr,Sl.nil⟩
 have he:jw m=0:=by simpa using ad
 have ho:=Zi he;have ep:=ho.ep;have xd:=hm.decls.max;have yd:=hm.decls.cap;have xp:=hm.procs.max;have yp:=hm.procs.cap;have il:=Ia m;have pl:=Ib m;refine Ck (Et (Cs (Cr (V0 (bA 1 O O mU O) ?_))));refine Ld Y O Zq O (λr:SP=>.tuple #[.slice r.1 (ec m).length r.2,.int .i64 (AS m)]) (λH r=>Sl lQ 4 H r.1 r.2 (ec m)) (λw hw=>Zm H ke ks r m w (hw.vs _ (by simp)) hm ho) ?_;intro J7 OB Fi PZ;refine V0 (Ym O) (V0 (Yx O O) (V0 (Yx O O) (V0 (Ya O) (V0 (Ya O) (Ln (Et (Cs (Cr (V0 (Yf Om O) (V0 (Yd 1 O O O df) ?_))))))))));refine V0 (Yb vt Ka O O) (LW (λ_ h=>h.fB 232 4) ?_);refine Al Y O vt λb7=>?_;refine an 0 Y O O O zx O O O (Ln (Et (Cs (Cr (V0 (Ya O) (LW (λ_ h=>h.fB 9 1) (Ln (Et (Cs (Cr (V0 (bA 4 O O mU O) ?_)))))))))));refine Ld Y O amb O (λr:SP=>.slice r.1 (oD m).length r.2) (λH r=>Sl rdBool 1 H r.1 r.2 (oD m)) (λw hw=>ame H ke ks r m w (hw.vs _ (by simp)) hm ho) ?_;intro Zr JT P0 P3;have x20:=PZ.max;have y20:=PZ.cap;have x27:=P3.max;have y27:=P3.cap;refine V0 (Ya O) (Ln (Et (Cs (Cs (Cr (V0 (Ym O) (V0 (Yn zu O) (V0 (Ym O) (Ln (Et (Cb ?_)))))))))));refine cU (ι:=GF) (λg=>[(30,.int .i64 (g.i:Int)),(8,.slice g.n.1 (((ec m).take g.i).map zr).length g.n.2)]) [(1,_),(2,_),(3,_),(7,_),(9,_),(28,_),(29,_)] (λg=>Ws w [] [ab b7 (.cells #[st m.nm,.slice g.f.1 (FQ m g.i).length g.f.2] 180 (0,0)),bo 9 1 d_ g.n.1 g.n.2 (((ec m).take g.i).map zr),bo 232 4 aV.cells g.f.1 g.f.2 (FQ m g.i),ab b2 (.cells #[st [],.slice none 0 0] 180 (0,0)),ab b1 (.cells (gg m r).toArray 174 (0,0))] [Zr,J7,H]) (λg=>g.i<=(ec m).length) (λg=>(ec m).length-g.i) ⟨0,(none,0),(none,0)⟩ (Nat.zero_le _) (sc O (sc O (sc O (sc O (sc O (sc O (sc O (sc O (sc O sn))))))))) (λ_ h=>by exact (((((h.f 4 O).f 4 O).f 4 O).f 3 O).f 4 O:)) ?_;intro g hi;refine Cs (Cr (V0 (bq O O) (Ln (Et (Cs ?_)))));refine Cc O (λar=>?_) (λar=>?_)
 ·have aw:g.i<(ec m).length:=by simpa using ar
  obtain ⟨x,hx⟩:∃x,(ec m)[g.i]? = some x:=⟨_,List.getElem?_eq_getElem aw⟩;obtain ⟨pb,po,ha,bJ⟩:=PZ.aZ g.i x hx;have bJ:aT J7 pb (po+g.i*4) x.cells:=bJ;obtain ⟨pv,Zs⟩:∃p,(oD m)[g.i]? = some p:=⟨_,List.getElem?_eq_getElem (by rw [Ib,<-Ia]; exact aw)⟩;obtain ⟨qb,qo,hqa,P4⟩:=P3.aZ g.i pv Zs;have P4:aT Zr qb (qo+g.i*1) (ye pv):=P4
  have hT:((ec m).take (g.i+1)).map zr=((ec m).take g.i).map zr++[x.name]:=by rw [List.take_add_one,hx]; simp [zr]
  have hL:(((ec m).take g.i).map zr).length=g.i:=by simp; omega
  have hQ:=al9 hx Zs;have hQl:=al' m g.i;refine Ck (Et (Cs (Cb (Cs (Cr (V0 (Ym O) (V0 (Yo zu O O ha (by omega)) (V0 (cM 1 l5 O O O (bJ)) ?_))))))));refine Al Y O iV λrj=>?_;refine V0 (Ya O) (an 0 Y O O O ly O O O (Ln (Et (Cs (Cr (V0 (Ym O) (V0 (Yf zt O) (V0 (Yd 0 O O O df) ?_))))))));refine Lb Y O dn O O O O λvd=>?_;refine bH 0 (.cells (d_ x.name).toArray 9 (0,0)) O (O) ?_;refine LA ((x.name:List UInt8)) 3 0 Y O dn O O O O O O (by omega) (by omega) λZt Zu=>?_;refine V0 (Ya O) (Ln (Et (Cs (Cr (V0 (Ym O) (V0 (Ym O) (V0 (Yo amc O O hqa (by omega)) (V0 (dm 0 yF O O (P4 0 _ O)) (Ln (Et ?_))))))))));refine Cc O (λay=>?_) (λay=>?_)
  ·have JH:pv=true:=by simpa using ay
   have hQ1:FQ m (g.i+1)=FQ m g.i++[x]:=by rw [hQ,if_pos JH]
   refine Cr (V0 (Yf Fl O) (V0 (Yd 2 O O O J9) (V0 (bA 1 O O l5 O) ?_)));refine Lb Y O rJ O O O O λwZ=>?_;refine bH 0 (.cells (aV.cells x).toArray 232 (0,0)) O (O) ?_;refine LA (x) 5 0 Y O rJ O O O O O O (by omega) (by omega) λa48 c48=>?_;refine V0 (Yf Fl O) (an 3 Y O O O amd O O O (Ln (Eb (Et (Cr (V0 (Yi O O O (by omega)) (V0 (Ym O) (Ln ?_))))))));rw [<-hT];rw [<-hQ1];exact Ea (⟨g.i+1,(Zt,Zu),(a48,c48)⟩:GF) (by first | omega | (dsimp only; omega)) (by first | omega | (dsimp only; omega)) (sc O (sc O (sc O (sc O (sc O (sc O (sc O (sc O (sc O sn))))))))) (λ_ h=>Wd 3 h)
  have Zv:¬pv=true:=by simpa using ay
  have hQ0:FQ m (g.i+1)=FQ m g.i:=by rw [hQ,if_neg Zv,List.append_nil]
  refine Ck (Eb (Et (Cr (V0 (Yi O O O (by omega)) (V0 (Ym O) (Ln ?_))))));rw [<-hT];rw [<-hQ0];exact Ea (⟨g.i+1,(Zt,Zu),g.f⟩:GF) (by first | omega | (dsimp only; omega)) (by first | omega | (dsimp only; omega)) (sc O (sc O (sc O (sc O (sc O (sc O (sc O (sc O (sc O sn))))))))) (λ_ h=>Wd 2 h)
 have cz:g.i=(ec m).length:=by simp at ar; omega
 have amn:=al8 m;refine Ce (Ex (Ex (cf (Et (Cs (Cs ?_))))));rw [cz,List.take_length];refine WC.v_ (rd:=rdStr) 1 O oz (λ_ _ _ _ h=>h) λHN PY=>?_;refine Cr (V0 (Ym O) ?_)
 refine Lp Y O PT O (λw hw=>by
     have:=PV HN g.n.1 g.n.2 ((ec m).map zr) w (hw.vs _ (by simp)) PY
     exact this) ?_
 refine V0 (Ym O) ?_;apply Lo 3 O O O O Y O O O O O
 ·intro de;refine Vg (Yf wJ O) (Vg (Yd 3 O O O fh) (Lp (.g O O O) O PT O (λw hw=>PV H r.a1 r.c1 m.ae w (hw.vs _ (by simp)) hm.ae) ?_));exact Gt 3 O O O
 refine Ln (Et ?_);refine Cc O (λaM=>?_) (λaM=>?_)
 ·have h6:(eo ((ec m).map (·.name))||eo m.ae)=true:=aM;refine Cs (Cr (V0 (Yb vt Ka O O) (an 2 Y O O O zx O O O (V0 (Ya O) (Ln (Et (az (Er ?_))))))));refine WE.vT 2 O O O O zy O λw' hw=>?_;rw [Zp he h6];exact ⟨(none,0),O,hw.fr,Sl.nil⟩
 have h6:(eo ((ec m).map (·.name))||eo m.ae)=false:=aM;refine Ck (Et (Cs (Cr (V0 (bA 0 O O zy O) (an 2 Y O O O zx O O O (V0 (Ya O) (Ln (Et (az ?_)))))))));refine WE.vT 2 O O O O zy O λw' hw=>?_;rw [al7 he h6];rw [amn] at hw ⊢;exact ⟨g.f,O,hw.fr,hw.gv 1 O aV.a8 (λ_ _ _ _ h=>h)⟩
end Go.Proofs.YtplfmnkmlaolpaaGreatDoor
end
