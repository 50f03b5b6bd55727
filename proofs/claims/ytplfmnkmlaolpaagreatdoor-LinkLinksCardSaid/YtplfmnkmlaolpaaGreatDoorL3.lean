/- LinkLinks: Check and Link answer just what the document says, errors too, whatever they are handed. -/
import Derived.Test.YtplfmnkmlaolpaaGreatDoorL2
set_option linter.unusedVariables false
set_option linter.unusedSimpArgs false
section
namespace Go.Proofs.YtplfmnkmlaolpaaGreatDoor
open Go.Bw
theorem Pj:∀l:List Tx,(aE l).bl<=l.length
 | []=>Nat.le_refl _
 | s::r=>by
   have:=Pj r; have:=me (!gN s);rw [show aE (s::r)=cA (!gN s)+aE r from rfl,aC.cZ,List.length_cons];omega
theorem Pk (n:Nat):decide ((3:Int)<(n:Int))=decide (3<n):=by rw [Bool.eq_iff_iff]; simp; omega
theorem X8 (x:az) (d:Nat):ja x d=if 6<d then ⟨0,1,0⟩ else cN (dH x.op).isNone+c8 ((dH x.op).getD (false,0)) x.mod x.nm x.args.length+cA (lJ x.op x.n)+cq x.args (d+1):=by
 cases x; rw [ja]; rfl
theorem X9 (d:Nat):∀a b:List az,cq (a++b) d=cq a d+cq b d
 | [],b=>by apply aC.ext'<;>simp [aC.zl,aC.zm,aC.zo,cq,c0]
 | x::a,b=>by
   rw [List.cons_append,show ∀q,cq (x::q) d=ja x d+cq q d from λq=>by rw [cq],X9 d a b,show ∀q,cq (x::q) d=ja x d+cq q d from λq=>by rw [cq],aC.gC]
theorem X' {l:List az} {i:Nat} {x:az} (d:Nat) (h:l[i]? = some x):cq (l.take (i+1)) d=cq (l.take i) d+ja x d:=by
 rw [mA h,X9,show cq [x] d=ja x d+c0 by rw [cq,cq],CO]
theorem X_:∀(l:List az) (i:Nat),dT (l.take i)<=dT l
 | [],i=>by simp
 | x::r,0=>by simp [dT]
 | x::r,i+1=>by have:=X_ r i; simp only [List.take_succ_cons,dT]; omega
theorem Yc {l:List az} {i:Nat} {x:az} (h:l[i]? = some x):dT (l.take i)+wE x<=dT l:=by
 have h2:=X_ l (i+1);rw [mA h] at h2
 have:∀a b:List az,dT (a++b)=dT a+dT b:=by
   intro a b
   induction a with
   | nil=>simp [dT]
   | cons y a ih=>simp only [List.cons_append,dT,ih]; omega
 rw [this] at h2;simp only [dT] at h2;omega
theorem JT (x:aR) (d:Nat):vt x d=cN (bG x.op).isNone+c8 ((bG x.op).getD (false,0)) x.mod x.nm x.args.length+cq x.args 1+cA (h_ x.op x.body.length x.other.length)
     + (if (inner x.op||decide (0<x.body.length))=true then dn x.body (d+1) else c0)+(if 0<x.other.length then dn x.other (d+1) else c0):=by
 cases x; rw [vt]; rfl
theorem Ye (d:Nat):∀a b:List aR,bU (a++b) d=bU a d+bU b d
 | [],b=>by apply aC.ext'<;>simp [aC.zl,aC.zm,aC.zo,bU,c0]
 | x::a,b=>by
   rw [List.cons_append,show ∀q,bU (x::q) d=vt x d+bU q d from λq=>by rw [bU],Ye d a b,show ∀q,bU (x::q) d=vt x d+bU q d from λq=>by rw [bU],aC.gC]
theorem JU {l:List aR} {i:Nat} {x:aR} (d:Nat) (h:l[i]? = some x):bU (l.take (i+1)) d=bU (l.take i) d+vt x d:=by
 rw [mA h,Ye,show bU [x] d=vt x d+c0 by rw [bU,bU],CO]
theorem Yg:∀(l:List aR) (i:Nat),de (l.take i)<=de l
 | [],i=>by simp
 | x::r,0=>by simp [de]
 | x::r,i+1=>by have:=Yg r i; simp only [List.take_succ_cons,de]; omega
theorem ah2 {l:List aR} {i:Nat} {x:aR} (h:l[i]? = some x):de (l.take i)+wS x<=de l:=by
 have h2:=Yg l (i+1);rw [mA h] at h2
 have:∀a b:List aR,de (a++b)=de a+de b:=by
   intro a b
   induction a with
   | nil=>simp [de]
   | cons y a ih=>simp only [List.cons_append,de,ih]; omega
 rw [this] at h2;simp only [de] at h2;omega
theorem JV:Enters Tryz.prog 170:=enters_of Tryz.func170 (by kernel_rfl) rfl
theorem lT:Enters Tryz.prog 152:=enters_of Tryz.func152 (by kernel_rfl) rfl
theorem FD:aZ Tryz.prog 217 1=some 1:=by kernel_rfl
theorem CQ:Enters Tryz.prog 151:=enters_of Tryz.func151 (by kernel_rfl) rfl
theorem CR:aZ Tryz.prog 217 0=some 0:=by kernel_rfl
theorem vU:aZ Tryz.prog 217 3=some 3:=by kernel_rfl
theorem Yh:aZ Tryz.prog 282 0=some 0:=by kernel_rfl
theorem zR:dV Tryz.prog 4=true:=by kernel_rfl
theorem Yj:aZ Tryz.prog 282 1=some 1:=by kernel_rfl
theorem CS (vb be bs:Nat) (H:View) (a:Option Addr) (n:Nat) (l:List Tx) (c:aC) (w:World) (hm:Sl rdStr 1 H a n l) (hb:c.bl+l.length<=4611686018427387904) (hw:Ws w [vb] [ab vb (.cells #[.int .i64 0,.int .i64 ((c).f:Int),.int .i64 ((c).m:Int),.int .i64 0,.int .i64 ((c).k:Int),.int .i64 0,.int .i64 0,.int .i64 0,.int .i64 0,.int .i64 0,.map (some be),.map (some bs)] 268 (0,0))] [H] w) :
   Calls Tryz.prog 151 #[.pointer (some ⟨vb,0,none⟩),.slice a l.length n] w λe w'=>e = .returned (.tuple #[])/\Ws w [vb] [ab vb (.cells #[.int .i64 0,.int .i64 ((c+aE l).f:Int),.int .i64 ((c+aE l).m:Int),.int .i64 0,.int .i64 ((c+aE l).k:Int),.int .i64 0,.int .i64 0,.int .i64 0,.int .i64 0,.int .i64 0,.map (some be),.map (some bs)] 268 (0,0))] [H] w':=by
 have dN:=hm.cap;have ek:=hm.max;refine enter Tryz.func151 O 18 O O ?_;refine CE hw (Cs (Cr (V0 (Ym O) (V0 (Yn dA O) (V0 (Ym O) (Ln (Et (Cb ?_))))))));refine ct (ι:=Nat) (λi=>[(8,.int .i64 (i:Int))]) [(0,_),(6,_),(7,_)] (λi=>Ws w [vb] [ab vb (.cells #[.int .i64 0,.int .i64 ((c+aE (l.take i)).f:Int),.int .i64 ((c+aE (l.take i)).m:Int),.int .i64 0,.int .i64 ((c+aE (l.take i)).k:Int),.int .i64 0,.int .i64 0,.int .i64 0,.int .i64 0,.int .i64 0,.map (some be),.map (some bs)] 268 (0,0))] [H]) (λi=>i<=l.length) (λi=>l.length-i) 0 (Nat.zero_le _) (sc O (sc O (sc O (sc O sn)))) (λ_ h=>h) ?_;intro i hi;refine Cs (Cr (V0 (a_ O O) (Ln (Et (Cs ?_)))));refine Cc O (λad=>?_) (λad=>?_)
 ·have av:i<l.length:=by simpa using ad
  obtain ⟨x,bu⟩:∃x,l[i]? = some x:=⟨_,List.getElem?_eq_getElem av⟩;obtain ⟨e9,e_,ha,bQ⟩:=hm.aO i x bu;have bQ:aP H e9 (e_+i*1) (dJ x):=bQ
  have e2:c+aE (l.take i)+cA (!gN x)=c+aE (l.take (i+1)):=by rw [ahO bu,aC.gC]
  have l8:(c+aE (l.take i)).bl<=4611686018427387904:=by
    rw [aC.cZ];have:=Pj (l.take i);simp at this;omega
  refine Ck (Et (Cs (Cb (Cs (Cr (V0 (Yo dA O O (by assumption) (by omega)) (V0 (bL 0 cO O O (bQ 0 _ O)) (V0 (Ya O) (Ln (Et (Cr (V0 (Ym O) (V0 (Ym O) (Lp Y O JV O (λw hw=>JS _ w) ?_))))))))))))));refine V0 (dw O) (fl [_] _ _ Y O lT O O [] (by simp) (λw hw=>xZ vb be bs (c+aE (l.take i)) (!gN x) w (l8) hw) (Ln (Eb (Et (Cr (V0 (Yi O O O (by omega)) (V0 (Ym O) (Ln ?_))))))));rw [e2];exact Ea (i+1) (by omega) (by omega) (sc O (sc O (sc O (sc O sn)))) (λ_ h=>h)
 have cC:¬i<l.length:=by simpa using ad
 have hT:l.take i=l:=List.take_of_length_le (by omega);rw [hT];refine Ce (Ex (Ex (bK ?_)));refine E0 O λw' hw=>?_;exact ⟨O,hw⟩
theorem ah3 (vb be bs:Nat) (d:bS) (c:aC) (w:World) (hb:c.bl+4<=4611686018427387904) (hw:Ws w [vb] [ab vb (.cells #[.int .i64 0,.int .i64 ((c).f:Int),.int .i64 ((c).m:Int),.int .i64 0,.int .i64 ((c).k:Int),.int .i64 0,.int .i64 0,.int .i64 0,.int .i64 0,.int .i64 0,.map (some be),.map (some bs)] 268 (0,0))] [] w) :
   Calls Tryz.prog 153 #[.pointer (some ⟨vb,0,none⟩),.agg #[.int .i64 d.kind,st d.nm,.bool d.aT,.int .i64 d.n]] w λe w'=>e = .returned (.tuple #[])/\Ws w [vb] [ab vb (.cells #[.int .i64 0,.int .i64 ((c+ie d).f:Int),.int .i64 ((c+ie d).m:Int),.int .i64 0,.int .i64 ((c+ie d).k:Int),.int .i64 0,.int .i64 0,.int .i64 0,.int .i64 0,.int .i64 0,.map (some be),.map (some bs)] 268 (0,0))] [] w':=by
 have l8:(c+aE [d.nm]).bl<=4611686018427387904:=by
   rw [aC.cZ];have:=Pj [d.nm];simp at this;omega
 refine enter Tryz.func153 O 44 O O ?_;refine CE hw (Cs (Cr ?_));refine WL.box Y O O λb3=>?_;refine Ln (Et (Cs (Cr (V0 (Ym O) (V0 (Yf FD O) (V0 (Yd 0 O O O cO) ?_))))));refine Lb Y O dm O O O O λb7=>?_;refine gg (T:=9) (m:=1) 0 [d.nm] O O (show 1<=1 by decide) (by decide) λH7 Po=>?_;refine Lf 1 O (fl [_] _ [ab vb (.cells #[.int .i64 0,.int .i64 ((c+aE [d.nm]).f:Int),.int .i64 ((c+aE [d.nm]).m:Int),.int .i64 0,.int .i64 ((c+aE [d.nm]).k:Int),.int .i64 0,.int .i64 0,.int .i64 0,.int .i64 0,.int .i64 0,.map (some be),.map (some bs)] 268 (0,0))] Y O CQ O O [H7] (by simp) (λw hw=>CS vb be bs H7 _ _ [d.nm] (c) w Po (by show c.bl+1<=_; omega) hw) (Ln (Et (Cs (Cr (V0 (Yf CR O) (V0 (Yd 1 O O O aj) (Ln (Et (Cb (Cs (Cr (V0 (aF O O) (V0 (Ya O) ?_))))))))))))));refine Ln (Et ?_);refine Cc O (λad=>?_) (λad=>?_)
 ·have hk:d.kind=1:=by simpa using ad
  have e2:∀b,(b=(decide (d.n<0)||decide (1099511627775<d.n)))->c+aE [d.nm]+cA b=c+ie d:=λb hb=>by rw [hb,ie,if_pos hk,aC.gC]
  refine Cr (V0 (Ym O) (V0 (Yf vU O) (V0 (Yd 1 O O O aj) (V0 (a_ O O) (V0 (Ym O) ?_)))));apply Lo 3 O O O O Y O O O O O
  ·intro cD;refine Vg (Yf vU O) (Vg (Yd 1 O O O aj) (Vg (bX O O) ?_));exact Gt 3 O O O
  refine fl [_] _ _ Y O lT O O [] (by simp) (λw hw=>xZ vb be bs (c+aE [d.nm]) (decide (d.n<0)||decide (1099511627775<d.n)) w (l8) hw) (Ln (Eb ?_));refine E0 O λw' hw=>?_;rw [e2 _ rfl] at hw;exact ⟨O,Wv 1 (Wt 1 hw)⟩
 have hk:¬d.kind=1:=by simpa using ad
 refine Cs (Cr (V0 (aF O O) (V0 (Ya O) (Ln (Et ?_)))));refine Cc O (λaq=>?_) (λaq=>?_)
 ·have d_:d.kind=2:=by simpa using aq
  have e2:∀b,(b=(!(d.n==0)))->c+aE [d.nm]+cA b=c+ie d:=λb hb=>by rw [hb,ie,if_neg hk,if_pos d_,aC.gC]
  refine Cr (V0 (Ym O) (V0 (Yf vU O) (V0 (Yd 1 O O O aj) (V0 (i' O O) (fl [_] _ _ Y O lT O O [] (by simp) (λw hw=>xZ vb be bs (c+aE [d.nm]) (!(d.n==0)) w (l8) hw) (Ln (Eb ?_)))))));refine E0 O λw' hw=>?_;rw [e2 _ rfl] at hw;exact ⟨O,Wv 1 (Wt 1 hw)⟩
 have d_:¬d.kind=2:=by simpa using aq
 refine Cs (Cr (V0 (aF O O) (V0 (Ya O) (Ln (Et ?_)))));refine Cc O (λay=>?_) (λay=>?_)
 ·have sw:d.kind=3:=by simpa using ay
  have e2:∀b,(b=(decide (d.n<1)||decide (32<d.n)))->c+aE [d.nm]+cA b=c+ie d:=λb hb=>by rw [hb,ie,if_neg hk,if_neg d_,if_pos sw,aC.gC]
  refine Cr (V0 (Ym O) (V0 (Yf vU O) (V0 (Yd 1 O O O aj) (V0 (a_ O O) (V0 (Ym O) ?_)))));apply Lo 3 O O O O Y O O O O O
  ·intro bR;refine Vg (Yf vU O) (Vg (Yd 1 O O O aj) (Vg (bX O O) ?_));exact Gt 3 O O O
  refine fl [_] _ _ Y O lT O O [] (by simp) (λw hw=>xZ vb be bs (c+aE [d.nm]) (decide (d.n<1)||decide (32<d.n)) w (l8) hw) (Ln (Eb ?_));refine E0 O λw' hw=>?_;rw [e2 _ rfl] at hw;exact ⟨O,Wv 1 (Wt 1 hw)⟩
 have sw:¬d.kind=3:=by simpa using ay
 have e2:∀b,(b=true)->c+aE [d.nm]+cN b=c+ie d:=λb hb=>by rw [hb,ie,if_neg hk,if_neg d_,if_neg sw,aC.gC]
 refine Cr (V0 (Ym O) (fl [_] _ _ Y O lT O O [] (by simp) (λw hw=>Ph vb be bs (c+aE [d.nm]) (true) w (l8) hw) (Ln (Eb ?_))));refine E0 O λw' hw=>?_;rw [e2 _ rfl] at hw;exact ⟨O,Wv 1 (Wt 1 hw)⟩
theorem Yk (vb be bs:Nat) (r:Bool) (a:Int) (mod nm:Tx) (len:Nat) (c:aC) (w:World) (hb:c.bl+4<=4611686018427387904) (hl:mod.length+nm.length<=9223372036854775807) (hw:Ws w [vb] [ab vb (.cells #[.int .i64 0,.int .i64 ((c).f:Int),.int .i64 ((c).m:Int),.int .i64 0,.int .i64 ((c).k:Int),.int .i64 0,.int .i64 0,.int .i64 0,.int .i64 0,.int .i64 0,.map (some be),.map (some bs)] 268 (0,0))] [] w) :
   Calls Tryz.prog 173 #[.pointer (some ⟨vb,0,none⟩),.agg #[.bool r,.int .i64 a],st mod,st nm,.int .i64 (len:Int)] w λe w'=>e = .returned (.tuple #[])/\Ws w [vb] [ab vb (.cells #[.int .i64 0,.int .i64 ((c+c8 (r,a) mod nm len).f:Int),.int .i64 ((c+c8 (r,a) mod nm len).m:Int),.int .i64 0,.int .i64 ((c+c8 (r,a) mod nm len).k:Int),.int .i64 0,.int .i64 0,.int .i64 0,.int .i64 0,.int .i64 0,.map (some be),.map (some bs)] 268 (0,0))] [] w':=by
 have h1:(c+cA (p7 r mod nm)).bl<=4611686018427387904:=by rw [aC.cZ]; have:=me (p7 r mod nm); omega
 have h2:(c+cA (p7 r mod nm)+cA (tC a len)).bl<=4611686018427387904:=by rw [aC.cZ,aC.cZ]; have:=me (p7 r mod nm); have:=me (tC a len); omega
 have e3:c+cA (p7 r mod nm)+cA (tC a len)+bn (decide (3<len))=c+c8 (r,a) mod nm len:=by rw [c8,aC.gC,aC.gC,aC.gC]
 refine enter Tryz.func173 O 54 O O ?_;refine CE hw (Cs (Cr ?_));refine WL.box Y O O λb6=>?_;refine Ln (Et (Cs (Cr (V0 (Ym O) (V0 (Yf Yh O) (V0 (Yd 0 O O O zR) (V0 (Ym O) ?_)))))));apply La 12 O O O O Y O O O O O
 ·intro cD;refine Vg (Ym O) (Vg (Ni O O) (Vg (Ym O) ?_));apply La 3 O O O O (.g O O O) O O O O O
  ·intro bR;refine Vg (Ym O) (Lp (.g O O O) O JV O (λw hw=>JS _ w) (Vg (dw O) ?_));exact Gt 3 O O O
  refine Vg (Ym O) ?_;apply Lo 3 O O O O (.g O O O) O O O O O
  ·intro gP;refine Vg (Ym O) (Lp (.g O O O) O JV O (λw hw=>JS _ w) (Vg (dw O) ?_));exact Gt 3 O O O
  exact Gt 6 O O O
 refine V0 (Ym O) ?_;apply Lo 9 O O O O Y O O O O O
 ·intro mC;refine Vg (Yf Yh O) (Vg (Yd 0 O O O zR) (Vg (dw O) (Vg (Ym O) ?_)));apply La 4 O O O O (.g O O O) O O O O O
  ·intro x0;refine Vg (Ym O) (Vg (Ym O) (Vg (adv O O hl) (Vg (Ni O O) ?_)));exact Gt 4 O O O
  exact Gt 5 O O O
 refine Lf 1 O (fl [_] _ _ Y O lT O O [] (by simp) (λw hw=>xZ vb be bs (c) (p7 r mod nm) w (by omega) hw) (Ln (Et (Cs (Cr (V0 (Ym O) (V0 (Yf Yj O) (V0 (Yd 1 O O O aj) (V0 (eK O O) (V0 (Ym O) ?_))))))))));apply La 4 O O O O Y O O O O O
 ·intro oD;refine Vg (Ym O) (Vg (Yf Yj O) (Vg (Yd 1 O O O aj) (Vg (i' O O) ?_)));exact Gt 4 O O O
 refine fl [_] _ _ Y O lT O O [] (by simp) (λw hw=>xZ vb be bs (c+cA (p7 r mod nm)) (tC a len) w (h1) hw) (Ln (Et (Cr (V0 (Ym O) (V0 (Ym O) (V0 (bX O O) ?_))))));rw [Pk];refine fl [_] _ _ Y O lT O O [] (by simp) (λw hw=>CP vb be bs (c+cA (p7 r mod nm)+cA (tC a len)) (decide (3<len)) w (h2) hw) (Ln ?_);refine E0 O λw' hw=>?_;rw [e3] at hw;exact ⟨O,Wt 1 hw⟩
theorem ah4:aZ Tryz.prog 268 1=some 10:=by kernel_rfl
theorem Yp:dV Tryz.prog 264=true:=by kernel_rfl
theorem zS:aZ Tryz.prog 220 0=some 0:=by kernel_rfl
theorem Yq:cG Tryz.prog 282=some 2:=by kernel_rfl
theorem Yr:fg Tryz.prog 282=some 2:=by kernel_rfl
theorem JW:aZ Tryz.prog 220 2=some 2:=by kernel_rfl
theorem JX:aZ Tryz.prog 220 3=some 3:=by kernel_rfl
theorem CT:aZ Tryz.prog 220 4=some 4:=by kernel_rfl
theorem x1:dV Tryz.prog 218=true:=by kernel_rfl
theorem uj:dQ Tryz.prog 218=some 5:=by kernel_rfl
theorem Ys:Enters Tryz.prog 173:=enters_of Tryz.func173 (by kernel_rfl) rfl
theorem JY:aZ Tryz.prog 220 1=some 1:=by kernel_rfl
theorem jY:fg Tryz.prog 220=some 5:=by kernel_rfl
theorem iP:zeroOf Tryz.prog 220=some (.agg #[.int .i64 0,.int .i64 0,st [],st [],.slice none 0 0]):=by kernel_rfl
theorem nA:cG Tryz.prog 220=some 5:=by kernel_rfl
theorem Yt:Enters Tryz.prog 174:=enters_of Tryz.func174 (by kernel_rfl) rfl
theorem ah5 (vb be bs:Nat) (H:View) (k:Nat) (x:az) (a:Option Addr) (n:Nat) (d:Nat) (c:aC) (w:World) (hm:Sl (eW k) 5 H a n x.args) (hb:c.bl+8*wE x<=1152921504606846976) (hw:Ws w [vb,be,bs] [ab vb (.cells #[.int .i64 0,.int .i64 ((c).f:Int),.int .i64 ((c).m:Int),.int .i64 0,.int .i64 ((c).k:Int),.int .i64 0,.int .i64 0,.int .i64 0,.int .i64 0,.int .i64 0,.map (some be),.map (some bs)] 268 (0,0)),ab be (bz kI (gQ 9) 15),ab bs (bz kI jj 7)] [H] w) :
   Calls Tryz.prog 174 #[.pointer (some ⟨vb,0,none⟩),.agg #[.int .i64 x.op,.int .i64 x.n,st x.mod,st x.nm,.slice a x.args.length n],.int .i64 (d:Int)] w λe w'=>e = .returned (.tuple #[])/\Ws w [vb,be,bs] [ab vb (.cells #[.int .i64 0,.int .i64 ((c+ja x d).f:Int),.int .i64 ((c+ja x d).m:Int),.int .i64 0,.int .i64 ((c+ja x d).k:Int),.int .i64 0,.int .i64 0,.int .i64 0,.int .i64 0,.int .i64 0,.map (some be),.map (some bs)] 268 (0,0)),ab be (bz kI (gQ 9) 15),ab bs (bz kI jj 7)] [H] w':=by
 induction k using Nat.strongRecOn generalizing x a n d c w
 rename_i k ih;have dN:=hm.cap;have ek:=hm.max;have hw8:=U_ x;have cC:eu x.op (gQ 9) (.agg #[.bool false,.int .i64 0]) = .agg #[.bool ((dH x.op).getD (false,0)).1,.int .i64 ((dH x.op).getD (false,0)).2]:=(X5 x.op).1;have Pp:=(X5 x.op).2;have t1:=EW (dH x.op).isNone;have t2:=Jd ((dH x.op).getD (false,0)) x.mod x.nm x.args.length;have t3:=me (lJ x.op x.n);refine enter Tryz.func174 O 76 O O ?_;refine CE hw (Cs (Cr ?_));refine WL.box Y O O λb4=>?_;refine Ln (Et (Cs (Cs (Cr (V0 (Ym O) (V0 (bX O O) (Ln (Et ?_))))))));refine Cc O (λad=>?_) (λad=>?_)
 ·have hd:6<d:=by simp at ad; omega
  refine Cs (Cr (V0 (Ym O) (Lf 1 O (fl [_] _ _ Y O lT O O [] (by simp) (λw hw=>CP vb be bs (c) (true) w (by omega) hw) (Ln (Et (aw (Er ?_))))))));refine WE.Nc O λw' hw=>?_;rw [show c+ja x d=c+bn true by rw [X8,if_pos hd]; rfl];exact ⟨O,(by have h:=hw; have h:=h.ar 3 O; have h:=h.ar 3 O; have h:=h.ar 2 O; exact Wt 3 h)⟩
 have hd:¬6<d:=by simp at ad; omega
 have hE:c+ja x d=c+cN (dH x.op).isNone+c8 ((dH x.op).getD (false,0)) x.mod x.nm x.args.length+cA (lJ x.op x.n)+cq x.args (d+1):=by rw [X8,if_neg hd,aC.gC,aC.gC,aC.gC,aC.gC,aC.gC]
 have JZ:(c+cN (dH x.op).isNone).bl<=1152921504606846980:=by rw [aC.cZ]; omega
 have J0:(c+cN (dH x.op).isNone+c8 ((dH x.op).getD (false,0)) x.mod x.nm x.args.length).bl<=1152921504606846990:=by rw [aC.cZ,aC.cZ]; omega
 refine Ck (Et (Cs ?_));refine WC.nU [(0,true),(1,true),(2,true),(3,true),(4,true),(5,true),(6,true),(7,true),(8,true),(9,true),(10,false),(11,false),(12,false)] mixed (by kernel_rfl) (λ_ _ _ d _ h=>by cases d<;>exact h) ?_;refine D0 O (λ_ h=>h) (Ym O) (D0 O (λ_ h=>h) (aQ O) (D0 O (λ_ h=>h) (Yf ah4 O) (D0 O (λ_ h=>h) (Yd 1 O O O Yp) (D0 O (λ_ h=>h) (Yf zS O) (D0 O (λ_ h=>h) (Yd 0 O O O aj) (D0 O (λ_ h=>h) (NS 2 l9 mB kF ll O O O) ?_))))));rw [cC,Pp];refine D0 O (λ_ h=>h) (Ym O) (D0 O (λ_ h=>h) (Yx O O) (D0 O (λ_ h=>h) (Yx O O) ?_));refine De O (λ_ h=>h) ?_;refine Al Y O ll λb6=>?_;refine Ln (Ed ?_);refine De O (λ_ h=>(Wd 1 h:)) ?_;refine ak 0 Y O O O Yq O O O (Ln (Ed ?_));refine De O (λ_ h=>(Wd 1 h:)) ?_;refine V0 (Ya O) (Ln (Ed ?_));refine WD.nil (λ_ h=>(Wd 1 h:)) ?_;refine Et (Cs (Cr (V0 (Ym O) (V0 (Ym O) (V0 (dw O) ?_)))));rw [Bool.not_not];refine Lf 2 O (fl [_] _ _ Y O lT O O [] (by simp) (λw hw=>Ph vb be bs (c) ((dH x.op).isNone) w (by omega) hw) (Ln (Et (Cs (Cr (V0 (Ym O) (V0 (bC 1 O O Yr O) (V0 (Yf JW O) (V0 (Yd 2 O O O cO) (V0 (Yf JX O) ?_))))))))));refine V0 (Yd 2 O O O cO) (V0 (Yf CT O) (V0 (Yd 2 O O O x1) (V0 (Yn uj O) (fl [_] _ _ Y O Ys O O [] (by simp) (λw hw=>Yk vb be bs ((dH x.op).getD (false,0)).1 ((dH x.op).getD (false,0)).2 x.mod x.nm x.args.length (c+cN (dH x.op).isNone) w (by omega) (by omega) hw) (Ln (Et (Cs (Cr (V0 (Ym O) (V0 (Yf zS O) ?_))))))))));refine V0 (Yd 2 O O O aj) (V0 (aF O O) (V0 (Ym O) ?_));apply La 8 O O O O Y O O O O O
 ·intro cD;refine Vg (Yf JY O) (Vg (Yd 2 O O O aj) (Vg (a_ O O) (Vg (Ym O) ?_)));apply Lo 3 O O O O (.g O O O) O O O O O
  ·intro bR;refine Vg (Yf JY O) (Vg (Yd 2 O O O aj) (Vg (bX O O) ?_));exact Gt 3 O O O
  exact Gt 5 O O O
 refine V0 (Ym O) ?_;apply Lo 8 O O O O Y O O O O O
 ·intro gP;refine Vg (Yf zS O) (Vg (Yd 2 O O O aj) (Vg (i' O O) (Vg (Ym O) ?_)));apply La 3 O O O O (.g O O O) O O O O O
  ·intro mC;refine Vg (Yf JY O) (Vg (Yd 2 O O O aj) (Vg (i' O O) ?_));exact Gt 3 O O O
  exact Gt 5 O O O
 refine fl [_] _ _ Y O lT O O [] (by simp) (λw hw=>xZ vb be bs (c+cN (dH x.op).isNone+c8 ((dH x.op).getD (false,0)) x.mod x.nm x.args.length) (lJ x.op x.n) w (by omega) hw) (Ln (Et (Cs (Cr (V0 (Yf CT O) (V0 (Yd 2 O O O x1) (V0 (Yn uj O) (V0 (Ym O) (Ln (Et (Cb ?_)))))))))));refine ct (ι:=Nat) (λi=>[(66,.int .i64 (i:Int))]) [(0,_),(2,_),(64,_),(65,_)] (λi=>Ws w [vb,be,bs] [ab vb (.cells #[.int .i64 0,.int .i64 ((c+cN (dH x.op).isNone+c8 ((dH x.op).getD (false,0)) x.mod x.nm x.args.length+cA (lJ x.op x.n)+cq (x.args.take i) (d+1)).f:Int),.int .i64 ((c+cN (dH x.op).isNone+c8 ((dH x.op).getD (false,0)) x.mod x.nm x.args.length+cA (lJ x.op x.n)+cq (x.args.take i) (d+1)).m:Int),.int .i64 0,.int .i64 ((c+cN (dH x.op).isNone+c8 ((dH x.op).getD (false,0)) x.mod x.nm x.args.length+cA (lJ x.op x.n)+cq (x.args.take i) (d+1)).k:Int),.int .i64 0,.int .i64 0,.int .i64 0,.int .i64 0,.int .i64 0,.map (some be),.map (some bs)] 268 (0,0)),ab be (bz kI (gQ 9) 15),ab bs (bz kI jj 7)] [H]) (λi=>i<=x.args.length) (λi=>x.args.length-i) 0 (Nat.zero_le _) (sc O (sc O (sc O (sc O (sc O sn))))) (λ_ h=>(Wt 3 (((h.f 4 O).f 4 O).f 2 O):)) ?_;intro i hi;refine Cs (Cr (V0 (a_ O O) (Ln (Et (Cs ?_)))));refine Cc O (λaq=>?_) (λaq=>?_)
 ·have av:i<x.args.length:=by simpa using aq
  obtain ⟨y,bx⟩:∃q,x.args[i]? = some q:=⟨_,List.getElem?_eq_getElem av⟩;obtain ⟨gq,gu,eG,ck⟩:=hm.aO i y bx
  obtain ⟨k',rfl⟩:∃k',k=k'+1:=by
    cases k with
    | zero=>exact ck.elim
    | succ k'=>exact ⟨k',rfl⟩
  obtain ⟨ya,yn,bQ,gM⟩:=ck;have Pq:=Yc bx;have hle:=B0 (x.args.take i) (d+1)
  have Yu:(c+cN (dH x.op).isNone+c8 ((dH x.op).getD (false,0)) x.mod x.nm x.args.length+cA (lJ x.op x.n)+cq (x.args.take i) (d+1)).bl+8*wE y<=1152921504606846976:=by rw [aC.cZ,aC.cZ,aC.cZ,aC.cZ]; omega
  have e2:c+cN (dH x.op).isNone+c8 ((dH x.op).getD (false,0)) x.mod x.nm x.args.length+cA (lJ x.op x.n)+cq (x.args.take i) (d+1)+ja y (d+1)=c+cN (dH x.op).isNone+c8 ((dH x.op).getD (false,0)) x.mod x.nm x.args.length+cA (lJ x.op x.n)+cq (x.args.take (i+1)) (d+1):=by rw [X' (d+1) bx,<-aC.gC]
  refine Ck (Et (Cs (Cb (Cs (Cr (V0 (Yo uj O O eG (by omega)) (V0 (cF 0 jY O O O (bQ)) ?_)))))));refine Al Y O iP λb9=>?_;refine ak 0 Y O O O nA O O O (Ln (Et (Cr (V0 (Ym O) (V0 (bC 0 O O jY O) (V0 (Ym O) (V0 (Yi O O O (by omega)) (Lf 3 O (Lf 3 O ?_)))))))));refine Lf 3 O ?_
  refine fl [_,_,_] _ [ab vb (.cells #[.int .i64 0,.int .i64 ((c+cN (dH x.op).isNone+c8 ((dH x.op).getD (false,0)) x.mod x.nm x.args.length+cA (lJ x.op x.n)+cq (x.args.take i) (d+1)+ja y (d+1)).f:Int),.int .i64 ((c+cN (dH x.op).isNone+c8 ((dH x.op).getD (false,0)) x.mod x.nm x.args.length+cA (lJ x.op x.n)+cq (x.args.take i) (d+1)+ja y (d+1)).m:Int),.int .i64 0,.int .i64 ((c+cN (dH x.op).isNone+c8 ((dH x.op).getD (false,0)) x.mod x.nm x.args.length+cA (lJ x.op x.n)+cq (x.args.take i) (d+1)+ja y (d+1)).k:Int),.int .i64 0,.int .i64 0,.int .i64 0,.int .i64 0,.int .i64 0,.map (some be),.map (some bs)] 268 (0,0)),ab be (bz kI (gQ 9) 15),ab bs (bz kI jj 7)] Y O Yt O O [H] (by simp) (λw hw=>by
      have:=ih k' (by omega) y ya yn (d+1) (c+cN (dH x.op).isNone+c8 ((dH x.op).getD (false,0)) x.mod x.nm x.args.length+cA (lJ x.op x.n)+cq (x.args.take i) (d+1)) w gM Yu hw
      exact this) ?_
  refine Ln (Eb (Et (Cr (V0 (Yi O O O (by omega)) (V0 (Ym O) (Ln ?_))))));rw [e2];exact Ea (i+1) (by omega) (by omega) (sc O (sc O (sc O (sc O (sc O sn))))) (λ_ h=>(Wt 3 h:))
 have uk:¬i<x.args.length:=by simpa using aq
 rw [List.take_of_length_le (by omega),<-hE];refine Ce (Ex (Ex (bK ?_)));refine E0 O λw' hw=>?_;exact ⟨O,hw⟩
theorem CV (c:aC):c0+c=c:=by apply aC.ext'<;>simp [aC.zl,aC.zm,aC.zo,c0]
theorem FE (n:Nat):decide ((0:Int)<(n:Int))=decide (0<n):=by rw [Bool.eq_iff_iff]; simp
theorem Yv (n:Nat):decide ((10:Int)<(n:Int))=decide (10<n):=by rw [Bool.eq_iff_iff]; simp; omega
theorem ah6 {l:List aR} {d:Nat} (h:¬6<d):dn l d=bn (decide (10<l.length))+bU l d:=by rw [dn,rR,if_neg h]
theorem sx:dQ Tryz.prog 172=some 6:=by kernel_rfl
theorem jF:fg Tryz.prog 222=some 6:=by kernel_rfl
theorem vV:zeroOf Tryz.prog 222=some (.agg #[.int .i64 0,st [],st [],.slice none 0 0,.slice none 0 0,.slice none 0 0]):=by kernel_rfl
theorem sy:cG Tryz.prog 222=some 6:=by kernel_rfl
theorem ah7:aZ Tryz.prog 268 2=some 11:=by kernel_rfl
theorem pr:aZ Tryz.prog 222 0=some 0:=by kernel_rfl
theorem FF:aZ Tryz.prog 222 1=some 1:=by kernel_rfl
theorem FG:aZ Tryz.prog 222 2=some 2:=by kernel_rfl
theorem qz:aZ Tryz.prog 222 3=some 3:=by kernel_rfl
theorem CX:aZ Tryz.prog 222 4=some 4:=by kernel_rfl
theorem nB:dV Tryz.prog 172=true:=by kernel_rfl
theorem x2:aZ Tryz.prog 222 5=some 5:=by kernel_rfl
theorem FH:Enters Tryz.prog 154:=enters_of Tryz.func154 (by kernel_rfl) rfl
theorem Yw (vb be bs:Nat) (H:View) (ke k:Nat) (l:List aR) (a:Option Addr) (n:Nat) (d:Nat) (c:aC) (w:World) (hm:Sl (iz ke k) 6 H a n l) (hb:c.bl+2+8*de l<=1152921504606846976) (hw:Ws w [vb,be,bs] [ab vb (.cells #[.int .i64 0,.int .i64 ((c).f:Int),.int .i64 ((c).m:Int),.int .i64 0,.int .i64 ((c).k:Int),.int .i64 0,.int .i64 0,.int .i64 0,.int .i64 0,.int .i64 0,.map (some be),.map (some bs)] 268 (0,0)),ab be (bz kI (gQ 9) 15),ab bs (bz kI jj 7)] [H] w) :
   Calls Tryz.prog 154 #[.pointer (some ⟨vb,0,none⟩),.slice a l.length n,.int .i64 (d:Int)] w λe w'=>e = .returned (.tuple #[])/\Ws w [vb,be,bs] [ab vb (.cells #[.int .i64 0,.int .i64 ((c+dn l d).f:Int),.int .i64 ((c+dn l d).m:Int),.int .i64 0,.int .i64 ((c+dn l d).k:Int),.int .i64 0,.int .i64 0,.int .i64 0,.int .i64 0,.int .i64 0,.map (some be),.map (some bs)] 268 (0,0)),ab be (bz kI (gQ 9) 15),ab bs (bz kI jj 7)] [H] w':=by
 induction k using Nat.strongRecOn generalizing l a n d c w
 rename_i k ih;have dN:=hm.cap;have ek:=hm.max;have tM:=BZ (decide (10<l.length));refine enter Tryz.func154 O 116 O O ?_;refine CE hw (Cs (Cs (Cr (V0 (Ym O) (V0 (bX O O) (Ln (Et ?_)))))));refine Cc O (λad=>?_) (λad=>?_)
 ·have hd:6<d:=by simp at ad; omega
  refine Cs (Cr (V0 (Ym O) (fl [_] _ _ Y O lT O O [] (by simp) (λw hw=>CP vb be bs (c) (true) w (by omega) hw) (Ln (Et (aw (Er ?_)))))));refine WE.Nc O λw' hw=>?_;rw [show c+dn l d=c+bn true by rw [dn,rR,if_pos hd]; rfl];exact ⟨O,hw⟩
 have hd:¬6<d:=by simp at ad; omega
 refine Ck (Et (Cs (Cr (V0 (Ym O) (V0 (Ym O) (V0 (Yn sx O) (V0 (bX O O) ?_)))))));rw [Yv];refine fl [_] _ _ Y O lT O O [] (by simp) (λw hw=>CP vb be bs (c) (decide (10<l.length)) w (by omega) hw) (Ln (Et (Cs (Cr (V0 (Ym O) (V0 (Yn sx O) (V0 (Ym O) (Ln (Et (Cb ?_))))))))));refine ct (ι:=Nat) (λi=>[(24,.int .i64 (i:Int))]) [(0,_),(2,_),(22,_),(23,_)] (λi=>Ws w [vb,be,bs] [ab vb (.cells #[.int .i64 0,.int .i64 ((c+bn (decide (10<l.length))+bU (l.take i) d).f:Int),.int .i64 ((c+bn (decide (10<l.length))+bU (l.take i) d).m:Int),.int .i64 0,.int .i64 ((c+bn (decide (10<l.length))+bU (l.take i) d).k:Int),.int .i64 0,.int .i64 0,.int .i64 0,.int .i64 0,.int .i64 0,.map (some be),.map (some bs)] 268 (0,0)),ab be (bz kI (gQ 9) 15),ab bs (bz kI jj 7)] [H]) (λi=>i<=l.length) (λi=>l.length-i) 0 (Nat.zero_le _) (sc O (sc O (sc O (sc O (sc O sn))))) (λ_ h=>h) ?_;intro i hi;refine Cs (Cr (V0 (a_ O O) (Ln (Et (Cs ?_)))));refine Cc O (λaq=>?_) (λaq=>?_)
 ·have av:i<l.length:=by simpa using aq
  obtain ⟨y,bx⟩:∃q,l[i]? = some q:=⟨_,List.getElem?_eq_getElem av⟩;obtain ⟨gq,gu,eG,ck⟩:=hm.aO i y bx
  obtain ⟨k',rfl⟩:∃k',k=k'+1:=by
    cases k with
    | zero=>exact ck.elim
    | succ k'=>exact ⟨k',rfl⟩
  obtain ⟨ya,yn,y2,m2,y3,m3,bQ,kG,jG,lp⟩:=ck;have Pq:=ah2 bx;have hwy:=Va y;have hle:=EX (l.take i) d;have t1:=EW (bG y.op).isNone;have t2:=Jd ((bG y.op).getD (false,0)) y.mod y.nm y.args.length;have t3:=me (h_ y.op y.body.length y.other.length);have t4:=B0 y.args 1;have t5:=N3 y.body (d+1);have cC:eu y.op jj (.agg #[.bool false,.int .i64 0]) = .agg #[.bool ((bG y.op).getD (false,0)).1,.int .i64 ((bG y.op).getD (false,0)).2]:=(X6 y.op).1;have Pp:=(X6 y.op).2;have avj:=kG.cap;have avk:=kG.max;have ah8:=jG.cap;have max2:=jG.max;have ah9:=lp.cap;have ah':=lp.max
  have FI:(c+bn (decide (10<l.length))+bU (l.take i) d).bl<=1152921504606846976:=by simp only [aC.cZ]; omega
  have FJ:(c+bn (decide (10<l.length))+bU (l.take i) d+cN (bG y.op).isNone).bl+4<=1152921504606846976:=by simp only [aC.cZ]; omega
  have hb4:(c+bn (decide (10<l.length))+bU (l.take i) d+cN (bG y.op).isNone+c8 ((bG y.op).getD (false,0)) y.mod y.nm y.args.length+cq y.args 1).bl<=1152921504606846976:=by simp only [aC.cZ]; omega
  have Yy:(c+bn (decide (10<l.length))+bU (l.take i) d+cN (bG y.op).isNone+c8 ((bG y.op).getD (false,0)) y.mod y.nm y.args.length+cq y.args 1+cA (h_ y.op y.body.length y.other.length)).bl+2+8*de y.body<=1152921504606846976:=by simp only [aC.cZ]; omega
  have Yz:(c+bn (decide (10<l.length))+bU (l.take i) d+cN (bG y.op).isNone+c8 ((bG y.op).getD (false,0)) y.mod y.nm y.args.length+cq y.args 1+cA (h_ y.op y.body.length y.other.length)+dn y.body (d+1)).bl+2+8*de y.other<=1152921504606846976:=by simp only [aC.cZ]; omega
  have hb7:(c+bn (decide (10<l.length))+bU (l.take i) d+cN (bG y.op).isNone+c8 ((bG y.op).getD (false,0)) y.mod y.nm y.args.length+cq y.args 1+cA (h_ y.op y.body.length y.other.length)).bl+2+8*de y.other<=1152921504606846976:=by simp only [aC.cZ]; omega
  refine Ck (Et (Cs (Cb (Cs (Cr (V0 (Yo sx O O eG (by omega)) (V0 (cF 0 jF O O O (bQ)) ?_)))))));refine Al Y O vV λb7=>?_;refine ak 0 Y O O O sy O O O (Ln (Et (Cs ?_)));refine WC.nU [(0,true),(1,true),(2,true),(3,true),(4,true),(5,true),(6,true),(7,true),(8,true),(9,true),(10,false),(11,false),(12,false)] mixed (by kernel_rfl) (λ_ _ _ d _ h=>by cases d<;>exact h) ?_;refine D0 O (λ_ h=>h) (Ym O) (D0 O (λ_ h=>h) (aQ O) (D0 O (λ_ h=>h) (Yf ah7 O) (D0 O (λ_ h=>h) (Yd 1 O O O Yp) (D0 O (λ_ h=>h) (Yf pr O) (D0 O (λ_ h=>h) (Yd 0 O O O aj) (D0 O (λ_ h=>h) (NS 3 l9 mB kF ll O O O) ?_))))));rw [cC,Pp];refine D0 O (λ_ h=>h) (Ym O) (D0 O (λ_ h=>h) (Yx O O) (D0 O (λ_ h=>h) (Yx O O) ?_));refine De O (λ_ h=>h) ?_;refine Al Y O ll λb8=>?_;refine Ln (Ed ?_);refine De O (λ_ h=>(Wd 1 h:)) ?_;refine ak 0 Y O O O Yq O O O (Ln (Ed ?_));refine De O (λ_ h=>(Wd 1 h:)) ?_;refine V0 (Ya O) (Ln (Ed ?_));refine WD.nil (λ_ h=>(Wd 1 h:)) ?_;refine Et (Cs (Cr (V0 (Ym O) (V0 (Ym O) (V0 (dw O) ?_)))));rw [Bool.not_not];refine Lf 2 O (fl [_] _ _ Y O lT O O [] (by simp) (λw hw=>Ph vb be bs (c+bn (decide (10<l.length))+bU (l.take i) d) ((bG y.op).isNone) w (by omega) hw) (Ln (Et (Cs (Cr (V0 (Ym O) (V0 (bC 1 O O Yr O) (V0 (Yf FF O) (V0 (Yd 2 O O O cO) (V0 (Yf FG O) ?_))))))))));refine V0 (Yd 2 O O O cO) (V0 (Yf qz O) (V0 (Yd 2 O O O x1) (V0 (Yn uj O) (fl [_] _ _ Y O Ys O O [] (by simp) (λw hw=>Yk vb be bs ((bG y.op).getD (false,0)).1 ((bG y.op).getD (false,0)).2 y.mod y.nm y.args.length (c+bn (decide (10<l.length))+bU (l.take i) d+cN (bG y.op).isNone) w (by omega) (by omega) hw) (Ln (Et (Cs (Cs (Cr (V0 (Yf qz O) (V0 (Yd 2 O O O x1) ?_)))))))))));refine V0 (Yn uj O) (V0 (Ym O) (Ln (Et (Cb ?_))));refine ct (ι:=Nat) (λj=>[(55,.int .i64 (j:Int))]) [(0,_),(2,_),(7,_),(22,_),(23,_),(24,_),(53,_),(54,_)] (λj=>Ws w [vb,be,bs] ([ab vb (.cells #[.int .i64 0,.int .i64 ((c+bn (decide (10<l.length))+bU (l.take i) d+cN (bG y.op).isNone+c8 ((bG y.op).getD (false,0)) y.mod y.nm y.args.length+cq (y.args.take j) 1).f:Int),.int .i64 ((c+bn (decide (10<l.length))+bU (l.take i) d+cN (bG y.op).isNone+c8 ((bG y.op).getD (false,0)) y.mod y.nm y.args.length+cq (y.args.take j) 1).m:Int),.int .i64 0,.int .i64 ((c+bn (decide (10<l.length))+bU (l.take i) d+cN (bG y.op).isNone+c8 ((bG y.op).getD (false,0)) y.mod y.nm y.args.length+cq (y.args.take j) 1).k:Int),.int .i64 0,.int .i64 0,.int .i64 0,.int .i64 0,.int .i64 0,.map (some be),.map (some bs)] 268 (0,0)),ab be (bz kI (gQ 9) 15),ab bs (bz kI jj 7)]++[ab b7 (.cells (zr y ya yn y2 m2 y3 m3).toArray 222 (0,0))]) [H]) (λj=>j<=y.args.length) (λj=>y.args.length-j) 0 (Nat.zero_le _) (sc O (sc O (sc O (sc O (sc O (sc O (sc O (sc O (sc O sn))))))))) (λ_ h=>by exact (Wt 4 ((((h.f 2 O).f 4 O).f 4 O).f 3 O):)) ?_
  intro j hj;refine Cs (Cr (V0 (a_ O O) (Ln (Et (Cs ?_)))));refine Cc O (λay=>?_) (λay=>?_)
  ·have av:j<y.args.length:=by simpa using ay
   obtain ⟨z,lq⟩:∃q,y.args[j]? = some q:=⟨_,List.getElem?_eq_getElem av⟩;obtain ⟨Pr,Ps,zT,x3⟩:=kG.aO j z lq
   obtain ⟨nf,rfl⟩:∃nf,ke=nf+1:=by
     cases ke with
     | zero=>exact x3.elim
     | succ k'=>exact ⟨k',rfl⟩
   obtain ⟨za,zn,sz,gM⟩:=x3;have avl:=Yc lq;have avm:=B0 (y.args.take j) 1
   have YA:(c+bn (decide (10<l.length))+bU (l.take i) d+cN (bG y.op).isNone+c8 ((bG y.op).getD (false,0)) y.mod y.nm y.args.length+cq (y.args.take j) 1).bl+8*wE z<=1152921504606846976:=by simp only [aC.cZ]; omega
   have e2:c+bn (decide (10<l.length))+bU (l.take i) d+cN (bG y.op).isNone+c8 ((bG y.op).getD (false,0)) y.mod y.nm y.args.length+cq (y.args.take j) 1+ja z 1=c+bn (decide (10<l.length))+bU (l.take i) d+cN (bG y.op).isNone+c8 ((bG y.op).getD (false,0)) y.mod y.nm y.args.length+cq (y.args.take (j+1)) 1:=by rw [X' 1 lq,<-aC.gC]
   refine Ck (Et (Cs (Cb (Cs (Cr (V0 (Yo uj O O zT (by omega)) (V0 (cF 0 jY O O O (sz)) ?_)))))));refine Al Y O iP λsA=>?_;refine ak 0 Y O O O nA O O O (Ln (Et (Cr (V0 (Ym O) (V0 (bC 0 O O jY O) (Lf 3 O (Lf 3 O (Lf 3 O ?_))))))))
   refine fl [_,_,_] _ [ab vb (.cells #[.int .i64 0,.int .i64 ((c+bn (decide (10<l.length))+bU (l.take i) d+cN (bG y.op).isNone+c8 ((bG y.op).getD (false,0)) y.mod y.nm y.args.length+cq (y.args.take j) 1+ja z 1).f:Int),.int .i64 ((c+bn (decide (10<l.length))+bU (l.take i) d+cN (bG y.op).isNone+c8 ((bG y.op).getD (false,0)) y.mod y.nm y.args.length+cq (y.args.take j) 1+ja z 1).m:Int),.int .i64 0,.int .i64 ((c+bn (decide (10<l.length))+bU (l.take i) d+cN (bG y.op).isNone+c8 ((bG y.op).getD (false,0)) y.mod y.nm y.args.length+cq (y.args.take j) 1+ja z 1).k:Int),.int .i64 0,.int .i64 0,.int .i64 0,.int .i64 0,.int .i64 0,.map (some be),.map (some bs)] 268 (0,0)),ab be (bz kI (gQ 9) 15),ab bs (bz kI jj 7)] Y O Yt O O [H] (by simp) (λw hw=>by
       have:=ah5 vb be bs H nf z za zn 1 (c+bn (decide (10<l.length))+bU (l.take i) d+cN (bG y.op).isNone+c8 ((bG y.op).getD (false,0)) y.mod y.nm y.args.length+cq (y.args.take j) 1) w gM YA hw
       exact this) ?_
   refine Ln (Eb (Et (Cr (V0 (Yi O O O (by omega)) (V0 (Ym O) (Ln ?_))))));rw [e2];exact Ea (j+1) (by omega) (by omega) (sc O (sc O (sc O (sc O (sc O (sc O (sc O (sc O (sc O sn))))))))) (λ_ h=>by exact (Wt 4 ((((h.f 4 O).f 3 O).f 3 O).f 3 O):))
  have x4:¬j<y.args.length:=by simpa using ay
  rw [List.take_of_length_le (by omega:y.args.length<=j)];refine Ce (Ex (Ex (bK (Et (Cs (Cr (V0 (Yf pr O) (V0 (Yd 3 O O O aj) (V0 (aF O O) (V0 (Ym O) ?_))))))))));apply Lo 3 O O O O Y O O O O O
  ·intro cD;refine Vg (Yf pr O) (Vg (Yd 3 O O O aj) (Vg (aF O O) ?_));exact Gt 3 O O O
  refine V0 (Ya O) (Ln (Et (Cs (Cr (V0 (Ym O) (V0 (Ym O) (V0 (dw O) (V0 (Ym O) ?_))))))));apply La 4 O O O O Y O O O O O
  ·intro bR;refine Vg (Yf CX O) (Vg (Yd 3 O O O nB) (Vg (Yn sx O) (Vg (bX O O) ?_)));rw [FE];exact Gt 4 O O O
  refine V0 (Ym O) ?_;apply Lo 9 O O O O Y O O O O O
  ·intro gP;refine Vg (Yf pr O) (Vg (Yd 3 O O O aj) (Vg (i' O O) (Vg (Ym O) ?_)));apply La 4 O O O O (.g O O O) O O O O O
   ·intro mC;refine Vg (Yf x2 O) (Vg (Yd 3 O O O nB) (Vg (Yn sx O) (Vg (bX O O) ?_)));rw [FE];exact Gt 4 O O O
   exact Gt 5 O O O
  refine fl [_] _ _ Y O lT O O [] (by simp) (λw hw=>xZ vb be bs (c+bn (decide (10<l.length))+bU (l.take i) d+cN (bG y.op).isNone+c8 ((bG y.op).getD (false,0)) y.mod y.nm y.args.length+cq y.args 1) (h_ y.op y.body.length y.other.length) w (by omega) hw) (Ln (Et (Cs (Cs (Cr (V0 (Ym O) (V0 (Ym O) ?_)))))));apply Lo 4 O O O O Y O O O O O
  ·intro x0;refine Vg (Yf CX O) (Vg (Yd 3 O O O nB) (Vg (Yn sx O) (Vg (bX O O) ?_)));rw [FE];exact Gt 4 O O O
  refine Ln (Et ?_);refine Cc O (λaJ=>?_) (λaJ=>?_)
  ·have e3:(if (inner y.op||decide (0<y.body.length))=true then dn y.body (d+1) else c0)=dn y.body (d+1):=if_pos aJ;refine Cr (V0 (Ym O) (V0 (Yf CX O) (V0 (Yd 3 O O O nB) (V0 (Ym O) (V0 (Yi O O O (by omega)) ?_)))))
   refine fl [_,_,_] _ [ab vb (.cells #[.int .i64 0,.int .i64 ((c+bn (decide (10<l.length))+bU (l.take i) d+cN (bG y.op).isNone+c8 ((bG y.op).getD (false,0)) y.mod y.nm y.args.length+cq y.args 1+cA (h_ y.op y.body.length y.other.length)+dn y.body (d+1)).f:Int),.int .i64 ((c+bn (decide (10<l.length))+bU (l.take i) d+cN (bG y.op).isNone+c8 ((bG y.op).getD (false,0)) y.mod y.nm y.args.length+cq y.args 1+cA (h_ y.op y.body.length y.other.length)+dn y.body (d+1)).m:Int),.int .i64 0,.int .i64 ((c+bn (decide (10<l.length))+bU (l.take i) d+cN (bG y.op).isNone+c8 ((bG y.op).getD (false,0)) y.mod y.nm y.args.length+cq y.args 1+cA (h_ y.op y.body.length y.other.length)+dn y.body (d+1)).k:Int),.int .i64 0,.int .i64 0,.int .i64 0,.int .i64 0,.int .i64 0,.map (some be),.map (some bs)] 268 (0,0)),ab be (bz kI (gQ 9) 15),ab bs (bz kI jj 7)] Y O FH O O [H] (by simp) (λw hw=>by
       have:=ih k' (by omega) y.body y2 m2 (d+1) (c+bn (decide (10<l.length))+bU (l.take i) d+cN (bG y.op).isNone+c8 ((bG y.op).getD (false,0)) y.mod y.nm y.args.length+cq y.args 1+cA (h_ y.op y.body.length y.other.length)) w jG Yy hw
       exact this) ?_
   refine Ln (Et (Cs (Cr (V0 (Yf x2 O) (V0 (Yd 3 O O O nB) (V0 (Yn sx O) (V0 (bX O O) ?_)))))));rw [FE];refine Ln (Et ?_);refine Cc O (λaU=>?_) (λaU=>?_)
   ·have e4:(if 0<y.other.length then dn y.other (d+1) else c0)=dn y.other (d+1):=if_pos (by simpa using aU);refine Cr (V0 (Ym O) (V0 (Yf x2 O) (V0 (Yd 3 O O O nB) (V0 (Ym O) (V0 (Yi O O O (by omega)) ?_)))))
    refine fl [_,_,_] _ [ab vb (.cells #[.int .i64 0,.int .i64 ((c+bn (decide (10<l.length))+bU (l.take i) d+cN (bG y.op).isNone+c8 ((bG y.op).getD (false,0)) y.mod y.nm y.args.length+cq y.args 1+cA (h_ y.op y.body.length y.other.length)+dn y.body (d+1)+dn y.other (d+1)).f:Int),.int .i64 ((c+bn (decide (10<l.length))+bU (l.take i) d+cN (bG y.op).isNone+c8 ((bG y.op).getD (false,0)) y.mod y.nm y.args.length+cq y.args 1+cA (h_ y.op y.body.length y.other.length)+dn y.body (d+1)+dn y.other (d+1)).m:Int),.int .i64 0,.int .i64 ((c+bn (decide (10<l.length))+bU (l.take i) d+cN (bG y.op).isNone+c8 ((bG y.op).getD (false,0)) y.mod y.nm y.args.length+cq y.args 1+cA (h_ y.op y.body.length y.other.length)+dn y.body (d+1)+dn y.other (d+1)).k:Int),.int .i64 0,.int .i64 0,.int .i64 0,.int .i64 0,.int .i64 0,.map (some be),.map (some bs)] 268 (0,0)),ab be (bz kI (gQ 9) 15),ab bs (bz kI jj 7)] Y O FH O O [H] (by simp) (λw hw=>by
        have:=ih k' (by omega) y.other y3 m3 (d+1) (c+bn (decide (10<l.length))+bU (l.take i) d+cN (bG y.op).isNone+c8 ((bG y.op).getD (false,0)) y.mod y.nm y.args.length+cq y.args 1+cA (h_ y.op y.body.length y.other.length)+dn y.body (d+1)) w lp Yz hw
        exact this) ?_
    refine Ln (Eb (Et (Cr (V0 (Yi O O O (by omega)) (V0 (Ym O) (Ln ?_))))));rw [show c+bn (decide (10<l.length))+bU (l.take i) d+cN (bG y.op).isNone+c8 ((bG y.op).getD (false,0)) y.mod y.nm y.args.length+cq y.args 1+cA (h_ y.op y.body.length y.other.length)+dn y.body (d+1)+dn y.other (d+1)=c+bn (decide (10<l.length))+bU (l.take (i+1)) d by rw [JU d bx,JT,e3,e4]; simp only [aC.gC,CO,CV]];exact Ea (i+1) (by omega) (by omega) (sc O (sc O (sc O (sc O (sc O sn))))) (λ_ h=>(Wt 3 h:))
   have e4:(if 0<y.other.length then dn y.other (d+1) else c0)=c0:=if_neg (by simpa using aU);refine Ck (Eb (Et (Cr (V0 (Yi O O O (by omega)) (V0 (Ym O) (Ln ?_))))));rw [show c+bn (decide (10<l.length))+bU (l.take i) d+cN (bG y.op).isNone+c8 ((bG y.op).getD (false,0)) y.mod y.nm y.args.length+cq y.args 1+cA (h_ y.op y.body.length y.other.length)+dn y.body (d+1)=c+bn (decide (10<l.length))+bU (l.take (i+1)) d by rw [JU d bx,JT,e3,e4]; simp only [aC.gC,CO,CV]];exact Ea (i+1) (by omega) (by omega) (sc O (sc O (sc O (sc O (sc O sn))))) (λ_ h=>(Wt 3 h:))
  have e3:(if (inner y.op||decide (0<y.body.length))=true then dn y.body (d+1) else c0)=c0:=if_neg (λe=>by rw [show (inner y.op||decide (0<y.body.length))=false from aJ] at e; cases e);refine Ck (Et (Cs (Cr (V0 (Yf x2 O) (V0 (Yd 3 O O O nB) (V0 (Yn sx O) (V0 (bX O O) ?_)))))));rw [FE];refine Ln (Et ?_);refine Cc O (λaU=>?_) (λaU=>?_)
  ·have e4:(if 0<y.other.length then dn y.other (d+1) else c0)=dn y.other (d+1):=if_pos (by simpa using aU);refine Cr (V0 (Ym O) (V0 (Yf x2 O) (V0 (Yd 3 O O O nB) (V0 (Ym O) (V0 (Yi O O O (by omega)) ?_)))))
   refine fl [_,_,_] _ [ab vb (.cells #[.int .i64 0,.int .i64 ((c+bn (decide (10<l.length))+bU (l.take i) d+cN (bG y.op).isNone+c8 ((bG y.op).getD (false,0)) y.mod y.nm y.args.length+cq y.args 1+cA (h_ y.op y.body.length y.other.length)+dn y.other (d+1)).f:Int),.int .i64 ((c+bn (decide (10<l.length))+bU (l.take i) d+cN (bG y.op).isNone+c8 ((bG y.op).getD (false,0)) y.mod y.nm y.args.length+cq y.args 1+cA (h_ y.op y.body.length y.other.length)+dn y.other (d+1)).m:Int),.int .i64 0,.int .i64 ((c+bn (decide (10<l.length))+bU (l.take i) d+cN (bG y.op).isNone+c8 ((bG y.op).getD (false,0)) y.mod y.nm y.args.length+cq y.args 1+cA (h_ y.op y.body.length y.other.length)+dn y.other (d+1)).k:Int),.int .i64 0,.int .i64 0,.int .i64 0,.int .i64 0,.int .i64 0,.map (some be),.map (some bs)] 268 (0,0)),ab be (bz kI (gQ 9) 15),ab bs (bz kI jj 7)] Y O FH O O [H] (by simp) (λw hw=>by
       have:=ih k' (by omega) y.other y3 m3 (d+1) (c+bn (decide (10<l.length))+bU (l.take i) d+cN (bG y.op).isNone+c8 ((bG y.op).getD (false,0)) y.mod y.nm y.args.length+cq y.args 1+cA (h_ y.op y.body.length y.other.length)) w lp hb7 hw
       exact this) ?_
   refine Ln (Eb (Et (Cr (V0 (Yi O O O (by omega)) (V0 (Ym O) (Ln ?_))))));rw [show c+bn (decide (10<l.length))+bU (l.take i) d+cN (bG y.op).isNone+c8 ((bG y.op).getD (false,0)) y.mod y.nm y.args.length+cq y.args 1+cA (h_ y.op y.body.length y.other.length)+dn y.other (d+1)=c+bn (decide (10<l.length))+bU (l.take (i+1)) d by rw [JU d bx,JT,e3,e4]; simp only [aC.gC,CO,CV]];exact Ea (i+1) (by omega) (by omega) (sc O (sc O (sc O (sc O (sc O sn))))) (λ_ h=>(Wt 3 h:))
  have e4:(if 0<y.other.length then dn y.other (d+1) else c0)=c0:=if_neg (by simpa using aU);refine Ck (Eb (Et (Cr (V0 (Yi O O O (by omega)) (V0 (Ym O) (Ln ?_))))));rw [show c+bn (decide (10<l.length))+bU (l.take i) d+cN (bG y.op).isNone+c8 ((bG y.op).getD (false,0)) y.mod y.nm y.args.length+cq y.args 1+cA (h_ y.op y.body.length y.other.length)=c+bn (decide (10<l.length))+bU (l.take (i+1)) d by rw [JU d bx,JT,e3,e4]; simp only [aC.gC,CO,CV]];exact Ea (i+1) (by omega) (by omega) (sc O (sc O (sc O (sc O (sc O sn))))) (λ_ h=>(Wt 3 h:))
 have uk:¬i<l.length:=by simpa using aq
 rw [List.take_of_length_le (by omega),aC.gC,<-ah6 hd];refine Ce (Ex (Ex (bK ?_)));refine E0 O λw' hw=>?_;exact ⟨O,hw⟩
theorem YB:∀(l:List bS) (i:Nat),wD (l.take i)<=wD l
 | [],i=>by simp
 | x::r,0=>by simp [wD]
 | x::r,i+1=>by have:=YB r i; simp only [List.take_succ_cons,wD]; omega
theorem Pt:∀(l:List dO) (i:Nat),wP (l.take i)<=wP l
 | [],i=>by simp
 | x::r,0=>by simp [wP]
 | x::r,i+1=>by have:=Pt r i; simp only [List.take_succ_cons,wP]; omega
theorem YC {l:List dO} {i:Nat} {p:dO} (h:l[i]? = some p):wP (l.take i)+(1+p.nm.length+wN p.params+wN p.ax+de p.body)<=wP l:=by
 have h2:=Pt l (i+1);rw [mA h] at h2
 have:∀a b:List dO,wP (a++b)=wP a+wP b:=by
   intro a b
   induction a with
   | nil=>simp [wP]
   | cons y a ih=>simp only [List.cons_append,wP,ih]; omega
 rw [this] at h2;simp only [wP] at h2;omega
theorem YD:∀a b:List bS,db (a++b)=db a+db b
 | [],b=>by apply aC.ext'<;>simp [aC.zl,aC.zm,aC.zo,db,c0]
 | x::a,b=>by
   rw [List.cons_append,show ∀q,db (x::q)=ie x+db q from λ_=>rfl,YD a b,show ∀q,db (x::q)=ie x+db q from λ_=>rfl,aC.gC]
theorem aib {l:List bS} {i:Nat} {s:bS} (h:l[i]? = some s):db (l.take (i+1))=db (l.take i)+ie s:=by rw [mA h,YD]; rfl
theorem YE:∀a b:List dO,dI (a++b)=dI a+dI b
 | [],b=>by apply aC.ext'<;>simp [aC.zl,aC.zm,aC.zo,dI,c0]
 | x::a,b=>by
   rw [List.cons_append,show ∀q,dI (x::q)=rT x+dI q from λ_=>rfl,YE a b,show ∀q,dI (x::q)=rT x+dI q from λ_=>rfl,aC.gC]
theorem aic {l:List dO} {i:Nat} {s:dO} (h:l[i]? = some s):dI (l.take (i+1))=dI (l.take i)+rT s:=by rw [mA h,YE]; rfl
theorem aid (n:Nat):decide ((4:Int)<(n:Int))=decide (4<n):=by rw [Bool.eq_iff_iff]; simp; omega
theorem aie (n:Nat):decide ((6:Int)<(n:Int))=decide (6<n):=by rw [Bool.eq_iff_iff]; simp; omega
def eN (i:Nat):Nat:=if i=0 then 4 else if i=1 then 2 else 1
def cE (c:aC) (i:Nat):Nat:=if i=0 then c.k else if i=1 then c.m else c.f
theorem aif {i:Nat} (h:i<3):(#[.int .i64 4,.int .i64 2,.int .i64 1]:Array Value)[i]? = some (.int .i64 (eN i:Int)):=by
 match i,h with
 | 0,_=>rfl
 | 1,_=>rfl
 | 2,_=>rfl
theorem aih (i:Nat):eN i<10:=by unfold eN; split; omega; split<;>omega
theorem aii {c:aC} {be bs i:Nat} (h:i<3) {T:TypeId} {fz:Nat×Nat}:g_ (.cells #[.int .i64 0,.int .i64 (c.f:Int),.int .i64 (c.m:Int),.int .i64 0,.int .i64 (c.k:Int),.int .i64 0,.int .i64 0,.int .i64 0,.int .i64 0,.int .i64 0,.map (some be),.map (some bs)] T fz) (0+0+eN i*1)=some (.int .i64 (cE c i:Int)):=by
 match i,h with
 | 0,_=>rfl
 | 1,_=>rfl
 | 2,_=>rfl
theorem aij {c:aC} {i:Nat} (h:i<3) (h0:∀j,j<i->cE c j=0) (h1:0<cE c i):(eN i:Int)=vu c:=by
 match i,h,h0,h1 with
 | 0,_,_,h1=>unfold vu; rw [if_pos (show 0<c.k from h1)]; rfl
 | 1,_,h0,h1=>have:=h0 0 (by omega); unfold vu; rw [if_neg (by simp [cE] at this; omega),if_pos (show 0<c.m from h1)]; rfl
 | 2,_,h0,h1=>have a:=h0 0 (by omega); have b:=h0 1 (by omega); unfold vu; rw [if_neg (by simp [cE] at a; omega),if_neg (by simp [cE] at b; omega),if_pos (show 0<c.f from h1)]; rfl
theorem aik {c:aC} (h:∀j,j<3->cE c j=0):vu c=0:=by
 have a:=h 0 (by omega); have b:=h 1 (by omega); have d:=h 2 (by omega);simp [cE] at a b d;unfold vu;rw [if_neg (by omega),if_neg (by omega),if_neg (by omega)]
theorem ail:Enters Tryz.prog 149:=enters_of Tryz.func149 (by kernel_rfl) rfl
theorem aim:Enters Tryz.prog 150:=enters_of Tryz.func150 (by kernel_rfl) rfl
theorem ain:fh Tryz.prog 268=some [(0,10),(10,1),(11,1)]:=by kernel_rfl
theorem aio:zeroOf Tryz.prog 268=some (.agg #[.int .i64 0,.int .i64 0,.int .i64 0,.int .i64 0,.int .i64 0,.int .i64 0,.int .i64 0,.int .i64 0,.int .i64 0,.int .i64 0,.map none,.map none]):=by kernel_rfl
theorem Pu:aZ Tryz.prog 174 0=some 0:=by kernel_rfl
theorem x5:aZ Tryz.prog 174 1=some 1:=by kernel_rfl
theorem eH:dV Tryz.prog 22=true:=by kernel_rfl
theorem CY:aZ Tryz.prog 174 2=some 2:=by kernel_rfl
theorem FL:dV Tryz.prog 170=true:=by kernel_rfl
theorem zU:dQ Tryz.prog 170=some 4:=by kernel_rfl
theorem zV:aZ Tryz.prog 174 3=some 3:=by kernel_rfl
theorem CZ:dV Tryz.prog 171=true:=by kernel_rfl
theorem vW:dQ Tryz.prog 171=some 5:=by kernel_rfl
theorem pt:fg Tryz.prog 217=some 4:=by kernel_rfl
theorem um:zeroOf Tryz.prog 217=some (.agg #[.int .i64 0,st [],.bool false,.int .i64 0]):=by kernel_rfl
theorem vX:cG Tryz.prog 217=some 4:=by kernel_rfl
theorem aip:Enters Tryz.prog 153:=enters_of Tryz.func153 (by kernel_rfl) rfl
theorem C0:fg Tryz.prog 213=some 5:=by kernel_rfl
theorem x6:zeroOf Tryz.prog 213=some (.agg #[st [],.bool false,.slice none 0 0,.slice none 0 0,.slice none 0 0]):=by kernel_rfl
theorem C1:cG Tryz.prog 213=some 5:=by kernel_rfl
theorem YF:aZ Tryz.prog 213 0=some 0:=by kernel_rfl
theorem uo:aZ Tryz.prog 213 2=some 2:=by kernel_rfl
theorem C2:aZ Tryz.prog 213 3=some 3:=by kernel_rfl
theorem Pv:aZ Tryz.prog 213 4=some 4:=by kernel_rfl
theorem Pw:aZ Tryz.prog 174 4=some 4:=by kernel_rfl
theorem aiq:zf Tryz.prog 271=some (3,1):=by kernel_rfl
theorem air:zeroOf Tryz.prog 271=some (.agg #[.int .i64 0,.int .i64 0,.int .i64 0]):=by kernel_rfl
theorem ais:I' Tryz.prog 271=some 3:=by kernel_rfl
theorem YG (H:View) (ke ks:Nat) (r:mc) (m:bf) (w:World) (hH:Le H w) (hm:n6 ke ks H r m) (hb:wM m<=9007199254740992) :
   Calls Tryz.prog 122 #[.agg (gE m r).toArray] w λe w'=>e = .returned (.int .i64 (jS m))/\Ext w w':=by
 have FI:=N4 m.nm;have FJ:=B1 m.ae;have J3:=BZ ((decide (3<m.ae.length)||decide (10<m.decls.length))||decide (6<m.procs.length));have hb4:=N2 m.decls;have Yy:=Je m.procs;have Yz:=N3 m.main 1;have hwM:wM m=1+m.nm.length+wN m.ae+wD m.decls+wP m.procs+de m.main:=rfl;have hz:c0.bl=0:=rfl;have x7:=EV m.ae;have cu:=hm.ae.cap;have xu:=hm.ae.max;have cd:=hm.decls.cap;have xd:=hm.decls.max;have cp:=hm.procs.cap;have xp:=hm.procs.max
 have uq:∀i,(db (m.decls.take i)).bl<=8*wD m.decls:=λi=>by have:=N2 (m.decls.take i); have:=YB m.decls i; omega
 have hbp:∀i,(dI (m.procs.take i)).bl<=8*wP m.procs:=λi=>by have:=Je (m.procs.take i); have:=Pt m.procs i; omega
 have ig:(c0+aE [m.nm]).bl+16+m.ae.length<=1152921504606846976:=by simp only [aC.cZ]; omega
 have d_:(c0+aE [m.nm]+aE m.ae).bl+16+m.ae.length<=1152921504606846976:=by simp only [aC.cZ]; omega
 have sw:(c0+aE [m.nm]+aE m.ae+bn ((decide (3<m.ae.length)||decide (10<m.decls.length))||decide (6<m.procs.length))).bl+16+m.ae.length<=1152921504606846976:=by simp only [aC.cZ]; omega
 have hk4:(c0+aE [m.nm]+aE m.ae+bn ((decide (3<m.ae.length)||decide (10<m.decls.length))||decide (6<m.procs.length))+db m.decls).bl+16+m.ae.length<=1152921504606846976:=by simp only [aC.cZ]; omega
 have hk5:(c0+aE [m.nm]+aE m.ae+bn ((decide (3<m.ae.length)||decide (10<m.decls.length))||decide (6<m.procs.length))+db m.decls+dI m.procs).bl+16+8*de m.main<=1152921504606846976:=by simp only [aC.cZ]; omega
 refine enter Tryz.func122 O 106 O O ?_;refine CE (Vs:=[H]) (Ws.init (by simp [hH])) (Cs (Cr ?_));refine WL.box Y O O λb1=>?_;refine V0 (Ya O) (Ln (Et (Cs (Cr ?_))))
 refine WL.ER (ι:=Nat) Y O ail O (λb=>.map (some b)) (λb=>[ab b (bz kI (gQ 9) 15)]) (λ_=>True) (λw hw=>(ah0 w).mono λe w' h=>by
     obtain ⟨b,h1,h2⟩:=h
     exact ⟨b,h1,trivial,h2⟩) ?_
 intro be _
 refine WL.ER (ι:=Nat) Y O aim O (λb=>.map (some b)) (λb=>[ab b (bz kI jj 7)]) (λ_=>True) (λw hw=>(ah1 w).mono λe w' h=>by
     obtain ⟨b,h1,h2⟩:=h
     exact ⟨b,h1,trivial,h2⟩) ?_
 intro bs _;refine V0 (Yb aio ain O O) ?_;refine WL.box Y O O λjZ=>?_;refine bI 0 (.cells #[.int .i64 0,.int .i64 ((c0).f:Int),.int .i64 ((c0).m:Int),.int .i64 0,.int .i64 ((c0).k:Int),.int .i64 0,.int .i64 0,.int .i64 0,.int .i64 0,.int .i64 0,.map (some be),.map (some bs)] 268 (0,0)) O O (V0 (Ya O) (Ln (Et (Cs (Cr (V0 (Ym O) (V0 (Yf Pu O) (V0 (Yd 3 O O O cO) ?_))))))));refine Lb Y O dm O O O O λJ4=>?_;refine gg (T:=9) (m:=1) 0 [m.nm] O O (show 1<=1 by decide) (by decide) λYH aiv=>?_;refine fl [_] _ [ab jZ (.cells #[.int .i64 0,.int .i64 ((c0+aE [m.nm]).f:Int),.int .i64 ((c0+aE [m.nm]).m:Int),.int .i64 0,.int .i64 ((c0+aE [m.nm]).k:Int),.int .i64 0,.int .i64 0,.int .i64 0,.int .i64 0,.int .i64 0,.map (some be),.map (some bs)] 268 (0,0))] Y O CQ O O [YH] (by simp) (λw hw=>CS jZ be bs YH _ _ [m.nm] (c0) w aiv (by show c0.bl+1<=_; omega) hw) (Ln (Et (Cs (Cr (V0 (Ym O) (V0 (Yf x5 O) (V0 (Yd 3 O O O eH) (fl [_] _ _ Y O CQ O O [H] (by simp) (λw hw=>CS jZ be bs H r.a1 r.c1 m.ae (c0+aE [m.nm]) w hm.ae (by omega) hw) (Ln (Et (Cs (Cr (V0 (Ym O) ?_)))))))))))));refine V0 (Yf x5 O) (V0 (Yd 3 O O O eH) (V0 (Yn dA O) (V0 (bX O O) ?_)));rw [Pk];refine V0 (Ym O) ?_;apply Lo 4 O O O O Y O O O O O
 ·intro cD;refine Vg (Yf CY O) (Vg (Yd 3 O O O FL) (Vg (Yn zU O) (Vg (bX O O) ?_)));rw [Yv];exact Gt 4 O O O
 refine V0 (Ym O) ?_;apply Lo 4 O O O O Y O O O O O
 ·intro bR;refine Vg (Yf zV O) (Vg (Yd 3 O O O CZ) (Vg (Yn vW O) (Vg (bX O O) ?_)));rw [aie];exact Gt 4 O O O
 refine fl [_] _ _ Y O lT O O [] (by simp) (λw hw=>CP jZ be bs (c0+aE [m.nm]+aE m.ae) ((decide (3<m.ae.length)||decide (10<m.decls.length))||decide (6<m.procs.length)) w (by omega) hw) (Ln (Et (Cs (Cs (Cr (V0 (Yf CY O) (V0 (Yd 3 O O O FL) (V0 (Yn zU O) (V0 (Ym O) (Ln (Et (Cb ?_))))))))))));refine ct (ι:=Nat) (λi=>[(44,.int .i64 (i:Int))]) [(1,_),(2,_),(3,_),(42,_),(43,_)] (λi=>Ws w [] [ab jZ (.cells #[.int .i64 0,.int .i64 ((c0+aE [m.nm]+aE m.ae+bn ((decide (3<m.ae.length)||decide (10<m.decls.length))||decide (6<m.procs.length))+db (m.decls.take i)).f:Int),.int .i64 ((c0+aE [m.nm]+aE m.ae+bn ((decide (3<m.ae.length)||decide (10<m.decls.length))||decide (6<m.procs.length))+db (m.decls.take i)).m:Int),.int .i64 0,.int .i64 ((c0+aE [m.nm]+aE m.ae+bn ((decide (3<m.ae.length)||decide (10<m.decls.length))||decide (6<m.procs.length))+db (m.decls.take i)).k:Int),.int .i64 0,.int .i64 0,.int .i64 0,.int .i64 0,.int .i64 0,.map (some be),.map (some bs)] 268 (0,0)),ab be (bz kI (gQ 9) 15),ab bs (bz kI jj 7),ab b1 (.cells (gE m r).toArray 174 (0,0))] [H]) (λi=>i<=m.decls.length) (λi=>m.decls.length-i) 0 (Nat.zero_le _) (sc O (sc O (sc O (sc O (sc O (sc O sn)))))) (λ_ h=>by have h:=h.ar 3 O; have h:=h.ar 2 O; have h:=h.ar 3 O; have h:=h.ar 3 O; have h:=Ws.bB h (bc:=[H]) (by simp); exact h) ?_;intro i hi;refine Cs (Cr (V0 (a_ O O) (Ln (Et (Cs ?_)))));refine Cc O (λad=>?_) (λad=>?_)
 ·have av:i<m.decls.length:=by simpa using ad
  obtain ⟨d,vY⟩:∃q,m.decls[i]? = some q:=⟨_,List.getElem?_eq_getElem av⟩;obtain ⟨FM,FN,FO,ed⟩:=hm.decls.aO i d vY;have ed:aP H FM (FN+i*4) d.cells:=ed
  have e2:c0+aE [m.nm]+aE m.ae+bn ((decide (3<m.ae.length)||decide (10<m.decls.length))||decide (6<m.procs.length))+db (m.decls.take i)+ie d=c0+aE [m.nm]+aE m.ae+bn ((decide (3<m.ae.length)||decide (10<m.decls.length))||decide (6<m.procs.length))+db (m.decls.take (i+1)):=by rw [aib vY,<-aC.gC]
  have Yu:=uq i
  have pX:(c0+aE [m.nm]+aE m.ae+bn ((decide (3<m.ae.length)||decide (10<m.decls.length))||decide (6<m.procs.length))+db (m.decls.take i)).bl+4<=4611686018427387904:=by simp only [aC.cZ]; omega
  refine Ck (Et (Cs (Cb (Cs (Cr (V0 (Yo zU O O FO (by omega)) (V0 (cF 0 pt O O O (ed)) ?_)))))));refine Al Y O um λb5=>?_;refine ak 0 Y O O O vX O O O (Ln (Et (Cr (V0 (Ym O) (V0 (bC 0 O O pt O) (Lf 1 O (fl [_] _ _ Y O aip O O [] (by simp) (λw hw=>ah3 jZ be bs d (c0+aE [m.nm]+aE m.ae+bn ((decide (3<m.ae.length)||decide (10<m.decls.length))||decide (6<m.procs.length))+db (m.decls.take i)) w (by omega) hw) (Ln (Eb (Et (Cr (V0 (Yi O O O (by omega)) ?_))))))))))));refine V0 (Ym O) (Ln ?_);rw [e2];exact Ea (i+1) (by omega) (by omega) (sc O (sc O (sc O (sc O (sc O (sc O sn)))))) (λ_ h=>by exact (Wt 4 ((((h.f 4 O).f 4 O).f 4 O).f 3 O):))
 have cC:¬i<m.decls.length:=by simpa using ad
 rw [List.take_of_length_le (by omega)];refine Ce (Ex (Ex (bK (Et (Cs (Cs (Cr (V0 (Yf zV O) (V0 (Yd 3 O O O CZ) (V0 (Yn vW O) (V0 (Ym O) (Ln (Et (Cb ?_))))))))))))));refine ct (ι:=Nat) (λj=>[(55,.int .i64 (j:Int))]) [(1,_),(2,_),(3,_),(53,_),(54,_)] (λj=>Ws w [] [ab jZ (.cells #[.int .i64 0,.int .i64 ((c0+aE [m.nm]+aE m.ae+bn ((decide (3<m.ae.length)||decide (10<m.decls.length))||decide (6<m.procs.length))+db m.decls+dI (m.procs.take j)).f:Int),.int .i64 ((c0+aE [m.nm]+aE m.ae+bn ((decide (3<m.ae.length)||decide (10<m.decls.length))||decide (6<m.procs.length))+db m.decls+dI (m.procs.take j)).m:Int),.int .i64 0,.int .i64 ((c0+aE [m.nm]+aE m.ae+bn ((decide (3<m.ae.length)||decide (10<m.decls.length))||decide (6<m.procs.length))+db m.decls+dI (m.procs.take j)).k:Int),.int .i64 0,.int .i64 0,.int .i64 0,.int .i64 0,.int .i64 0,.map (some be),.map (some bs)] 268 (0,0)),ab be (bz kI (gQ 9) 15),ab bs (bz kI jj 7),ab b1 (.cells (gE m r).toArray 174 (0,0))] [H]) (λj=>j<=m.procs.length) (λj=>m.procs.length-j) 0 (Nat.zero_le _) (sc O (sc O (sc O (sc O (sc O (sc O sn)))))) (λ_ h=>h) ?_;intro j hj;refine Cs (Cr (V0 (a_ O O) (Ln (Et (Cs ?_)))));refine Cc O (λaq=>?_) (λaq=>?_)
 ·have av:j<m.procs.length:=by simpa using aq
  obtain ⟨p,lU⟩:∃q,m.procs[j]? = some q:=⟨_,List.getElem?_eq_getElem av⟩;obtain ⟨zW,pop,mV,zX⟩:=hm.procs.aO j p lU;obtain ⟨zY,zZ,z1,z6,C3,C4,bQ,kG,jG,lp⟩:=zX;have Pq:=YC lU;have YA:=hbp j;have hle:=Je (m.procs.take j);have q1:=N4 p.nm;have q2:=B1 p.params;have q3:=B1 p.ax;have q4:=BZ (decide (3<p.params.length)||decide (4<p.ax.length));have q5:=EV p.params;have q6:=EV p.ax;have c1_:=kG.cap;have x1_:=kG.max;have c2_:=jG.cap;have x2_:=jG.max
  have e3:c0+aE [m.nm]+aE m.ae+bn ((decide (3<m.ae.length)||decide (10<m.decls.length))||decide (6<m.procs.length))+db m.decls+dI (m.procs.take j)+aE [p.nm]+aE p.params+aE p.ax+bn (decide (3<p.params.length)||decide (4<p.ax.length))+dn p.body 1=c0+aE [m.nm]+aE m.ae+bn ((decide (3<m.ae.length)||decide (10<m.decls.length))||decide (6<m.procs.length))+db m.decls+dI (m.procs.take (j+1)):=by rw [aic lU,rT]; simp only [aC.gC]
  have hq0:(c0+aE [m.nm]+aE m.ae+bn ((decide (3<m.ae.length)||decide (10<m.decls.length))||decide (6<m.procs.length))+db m.decls+dI (m.procs.take j)).bl+16+p.params.length+p.ax.length+8*de p.body<=1152921504606846976:=by simp only [aC.cZ]; omega
  have J5:(c0+aE [m.nm]+aE m.ae+bn ((decide (3<m.ae.length)||decide (10<m.decls.length))||decide (6<m.procs.length))+db m.decls+dI (m.procs.take j)+aE [p.nm]).bl+16+p.params.length+p.ax.length+8*de p.body<=1152921504606846976:=by simp only [aC.cZ]; omega
  have hq2:(c0+aE [m.nm]+aE m.ae+bn ((decide (3<m.ae.length)||decide (10<m.decls.length))||decide (6<m.procs.length))+db m.decls+dI (m.procs.take j)+aE [p.nm]+aE p.params).bl+16+p.params.length+p.ax.length+8*de p.body<=1152921504606846976:=by simp only [aC.cZ]; omega
  have hq3:(c0+aE [m.nm]+aE m.ae+bn ((decide (3<m.ae.length)||decide (10<m.decls.length))||decide (6<m.procs.length))+db m.decls+dI (m.procs.take j)+aE [p.nm]+aE p.params+aE p.ax).bl+16+p.params.length+p.ax.length+8*de p.body<=1152921504606846976:=by simp only [aC.cZ]; omega
  have YI:(c0+aE [m.nm]+aE m.ae+bn ((decide (3<m.ae.length)||decide (10<m.decls.length))||decide (6<m.procs.length))+db m.decls+dI (m.procs.take j)+aE [p.nm]+aE p.params+aE p.ax+bn (decide (3<p.params.length)||decide (4<p.ax.length))).bl+16+p.params.length+p.ax.length+8*de p.body<=1152921504606846976:=by simp only [aC.cZ]; omega
  refine Ck (Et (Cs (Cb (Cs (Cr (V0 (Yo vW O O mV (by omega)) (V0 (cF 0 C0 O O O (bQ)) ?_)))))));refine Al Y O x6 λb7=>?_;refine ak 0 Y O O O C1 O O O (Ln (Et (Cs (Cr (V0 (Ym O) (V0 (Yf YF O) (V0 (Yd 0 O O O cO) ?_)))))));refine Lb Y O dm O O O O λPx=>?_;refine gg (T:=9) (m:=1) 0 [p.nm] O O (show 1<=1 by decide) (by decide) λFP Py=>?_;refine Lf 1 O ?_;refine fl [_] _ [ab jZ (.cells #[.int .i64 0,.int .i64 ((c0+aE [m.nm]+aE m.ae+bn ((decide (3<m.ae.length)||decide (10<m.decls.length))||decide (6<m.procs.length))+db m.decls+dI (m.procs.take j)+aE [p.nm]).f:Int),.int .i64 ((c0+aE [m.nm]+aE m.ae+bn ((decide (3<m.ae.length)||decide (10<m.decls.length))||decide (6<m.procs.length))+db m.decls+dI (m.procs.take j)+aE [p.nm]).m:Int),.int .i64 0,.int .i64 ((c0+aE [m.nm]+aE m.ae+bn ((decide (3<m.ae.length)||decide (10<m.decls.length))||decide (6<m.procs.length))+db m.decls+dI (m.procs.take j)+aE [p.nm]).k:Int),.int .i64 0,.int .i64 0,.int .i64 0,.int .i64 0,.int .i64 0,.map (some be),.map (some bs)] 268 (0,0))] Y O CQ O O [FP] (by simp) (λw hw=>CS jZ be bs FP _ _ [p.nm] (c0+aE [m.nm]+aE m.ae+bn ((decide (3<m.ae.length)||decide (10<m.decls.length))||decide (6<m.procs.length))+db m.decls+dI (m.procs.take j)) w Py (by show (c0+aE [m.nm]+aE m.ae+bn ((decide (3<m.ae.length)||decide (10<m.decls.length))||decide (6<m.procs.length))+db m.decls+dI (m.procs.take j)).bl+1<=_; omega) hw) ?_;refine Ln (Et (Cs (Cr (V0 (Ym O) (V0 (Yf uo O) (V0 (Yd 1 O O O eH) (fl [_] _ _ Y O CQ O O [H] (by simp) (λw hw=>CS jZ be bs H zY zZ p.params (c0+aE [m.nm]+aE m.ae+bn ((decide (3<m.ae.length)||decide (10<m.decls.length))||decide (6<m.procs.length))+db m.decls+dI (m.procs.take j)+aE [p.nm]) w kG (by omega) hw) (Ln (Et (Cs (Cr (V0 (Ym O) (V0 (Yf C2 O) ?_)))))))))))));refine V0 (Yd 1 O O O eH) (fl [_] _ _ Y O CQ O O [H] (by simp) (λw hw=>CS jZ be bs H z1 z6 p.ax (c0+aE [m.nm]+aE m.ae+bn ((decide (3<m.ae.length)||decide (10<m.decls.length))||decide (6<m.procs.length))+db m.decls+dI (m.procs.take j)+aE [p.nm]+aE p.params) w jG (by omega) hw) (Ln (Et (Cs (Cr (V0 (Ym O) (V0 (Yf uo O) (V0 (Yd 1 O O O eH) (V0 (Yn dA O) (V0 (bX O O) ?_))))))))));rw [Pk];refine V0 (Ym O) ?_;apply Lo 4 O O O O Y O O O O O
  ·intro gP;refine Vg (Yf C2 O) (Vg (Yd 1 O O O eH) (Vg (Yn dA O) (Vg (bX O O) ?_)));rw [aid];exact Gt 4 O O O
  refine fl [_] _ _ Y O lT O O [] (by simp) (λw hw=>CP jZ be bs (c0+aE [m.nm]+aE m.ae+bn ((decide (3<m.ae.length)||decide (10<m.decls.length))||decide (6<m.procs.length))+db m.decls+dI (m.procs.take j)+aE [p.nm]+aE p.params+aE p.ax) (decide (3<p.params.length)||decide (4<p.ax.length)) w (by omega) hw) (Ln (Et (Cr (V0 (Ym O) (V0 (Yf Pv O) (V0 (Yd 1 O O O nB) (Lf 3 O (Lf 3 O (Lf 2 O ?_)))))))));refine fl [_,_,_] _ _ Y O FH O O [H] (by simp) (λw hw=>Yw jZ be bs H ke ks (p.body) C3 C4 1 (c0+aE [m.nm]+aE m.ae+bn ((decide (3<m.ae.length)||decide (10<m.decls.length))||decide (6<m.procs.length))+db m.decls+dI (m.procs.take j)+aE [p.nm]+aE p.params+aE p.ax+bn (decide (3<p.params.length)||decide (4<p.ax.length))) w lp (by omega) hw) (Ln (Eb (Et (Cr (V0 (Yi O O O (by omega)) (V0 (Ym O) (Ln ?_)))))));rw [e3];exact Ea (j+1) (by omega) (by omega) (sc O (sc O (sc O (sc O (sc O (sc O sn)))))) (λ_ h=>by exact (Wv 1 (Wt 4 ((((h.f 4 O).f 3 O).f 3 O).f 3 O)):))
 have uk:¬j<m.procs.length:=by simpa using aq
 rw [List.take_of_length_le (by omega)];refine Ce (Ex (Ex (bK (Et (Cs (Cr (V0 (Ym O) (V0 (Yf Pw O) (V0 (Yd 3 O O O nB) (fl [_,_,_] _ _ Y O FH O O [H] (by simp) (λw hw=>Yw jZ be bs H ke ks (m.main) r.a4 r.c4 1 (c0+aE [m.nm]+aE m.ae+bn ((decide (3<m.ae.length)||decide (10<m.decls.length))||decide (6<m.procs.length))+db m.decls+dI m.procs) w hm.main (by omega) hw) (Ln (Et (Cs (Cs (Cr (V0 (Vi air aiq O O) ?_))))))))))))))));refine V0 (Ym O) (Ln (Et (Cb ?_)));refine ct (ι:=Nat) (λi=>[(94,.int .i64 (i:Int))]) [(3,_),(93,_)] (λi=>Ws w [] [ab jZ (.cells #[.int .i64 0,.int .i64 ((c0+aE [m.nm]+aE m.ae+bn ((decide (3<m.ae.length)||decide (10<m.decls.length))||decide (6<m.procs.length))+db m.decls+dI m.procs+dn m.main 1).f:Int),.int .i64 ((c0+aE [m.nm]+aE m.ae+bn ((decide (3<m.ae.length)||decide (10<m.decls.length))||decide (6<m.procs.length))+db m.decls+dI m.procs+dn m.main 1).m:Int),.int .i64 0,.int .i64 ((c0+aE [m.nm]+aE m.ae+bn ((decide (3<m.ae.length)||decide (10<m.decls.length))||decide (6<m.procs.length))+db m.decls+dI m.procs+dn m.main 1).k:Int),.int .i64 0,.int .i64 0,.int .i64 0,.int .i64 0,.int .i64 0,.map (some be),.map (some bs)] 268 (0,0)),ab be (bz kI (gQ 9) 15),ab bs (bz kI jj 7),ab b1 (.cells (gE m r).toArray 174 (0,0))] [H]) (λi=>i<=3/\∀j,j<i->cE (c0+aE [m.nm]+aE m.ae+bn ((decide (3<m.ae.length)||decide (10<m.decls.length))||decide (6<m.procs.length))+db m.decls+dI m.procs+dn m.main 1) j=0) (λi=>3-i) 0 ⟨Nat.zero_le _,by simp⟩ (sc O (sc O (sc O sn))) (λ_ h=>h) ?_;intro i ⟨hi,bN⟩;refine Cs (Cr (V0 (a_ O O) (Ln (Et (Cs ?_)))));refine Cc O (λay=>?_) (λay=>?_)
 ·have av:i<3:=by simp at ay; omega
  refine Ck (Et (Cs (Cb (Cs (Cr (V0 (US (i:=i) ais O O av (aif av)) (V0 (Ya O) (Ln (Et (Cs (Cr (V0 (Ym O) (V0 (Ym O) (V0 (aQ O) (V0 (Yf zP O) ?_)))))))))))))));refine V0 (zg (i:=eN i) zQ O O (aih i)) (V0 (Yd 0 O O (aii av) aj) (V0 (bX O O) (Ln (Et ?_))));refine Cc O (λaJ=>?_) (λaJ=>?_)
  ·have EP:0<cE (c0+aE [m.nm]+aE m.ae+bn ((decide (3<m.ae.length)||decide (10<m.decls.length))||decide (6<m.procs.length))+db m.decls+dI m.procs+dn m.main 1) i:=by simpa using aJ
   refine Cs (Cr (V0 (Ym O) (V0 (Ya O) (Ln (Et (aw (bt (Er (Er (bt (Er ?_)))))))))));refine R1 O O λw' hw=>?_;refine ⟨?_,hw.fr⟩;rw [aij av bN EP,show c0+aE [m.nm]+aE m.ae+bn ((decide (3<m.ae.length)||decide (10<m.decls.length))||decide (6<m.procs.length))+db m.decls+dI m.procs+dn m.main 1=xB m by rw [xB,CV]]
   rfl
  have hzero:cE (c0+aE [m.nm]+aE m.ae+bn ((decide (3<m.ae.length)||decide (10<m.decls.length))||decide (6<m.procs.length))+db m.decls+dI m.procs+dn m.main 1) i=0:=by simp at aJ; omega
  refine Ck (Eb (Et (Cr (V0 (Yi O O O (by omega)) (V0 (Ym O) (Ln ?_))))));exact Ea (i+1) (by omega) ⟨by omega,λj hj=>by rcases Nat.lt_succ_iff_lt_or_eq.1 hj with h | rfl; exact bN j h; exact hzero⟩ (sc rfl (sc rfl (sc rfl sn))) (λ_ h=>h)
 have x4:¬i<3:=by simp at ay; omega
 refine Ce (Ex (Ex (bK (Et (Cs (Cr (V0 (Ya O) (Ln (Et (aw ?_))))))))));refine R1 O O λw' hw=>?_;refine ⟨?_,hw.fr⟩;rw [jS,show xB m=c0+aE [m.nm]+aE m.ae+bn ((decide (3<m.ae.length)||decide (10<m.decls.length))||decide (6<m.procs.length))+db m.decls+dI m.procs+dn m.main 1 by rw [xB,CV],aik λj hj=>bN j (by omega)]
theorem YJ:zeroOf Tryz.prog 314=some (.agg #[st [],st [],st [],st [],st [],st [],st [],st [],st []]):=by kernel_rfl
theorem aiw:zf Tryz.prog 314=some (9,1):=by kernel_rfl
theorem aix:cG Tryz.prog 314=some 9:=by kernel_rfl
theorem aiy:fg Tryz.prog 314=some 9:=by kernel_rfl
theorem aiz (w:World) :
   Calls Tryz.prog 201 #[] w λe w'=>e = .returned (.agg (opsL.map st).toArray)/\Ext w w':=by
 refine enter Tryz.func201 O 2 O O ?_;refine CE (Vs:=[]) (Ws.init (by simp)) (Cs (Cr ?_));refine Al Y O YJ λb0=>?_;refine Ln (Et (Cs (Cr (V0 (Vi YJ aiw O O) (ak 0 Y O O O aix O O O (Ln (Et (aw ?_))))))));refine WE.dM (gA O (cU 0 O O aiy O)) λw' hw=>?_;exact ⟨O,hw.fr⟩
abbrev an (gb:Nat) (r:Option Addr×Nat) (l:Tk):List ao:=[ab gb (.cells #[.slice r.1 l.length r.2] 228 (0,0))]
def bF:List PanicEntry:=[⟨.iface 230 (.agg #[]),false,false⟩]
def bW:List Tx->Tk->Option Tk
 | [],l=>some l
 | w::ws,l=>(aH w l).bind (bW ws)
theorem dr (w:Tx) (l:Tk):bW [w] l=aH w l:=by unfold bW; cases aH w l<;>rfl
theorem YK (v w:Tx) (l:Tk):bW [v,w] l=(aH v l).bind (aH w):=by
 unfold bW
 cases aH v l with
 | none=>rfl
 | some q=>exact dr w q
theorem YL:∀{ws:List Tx} {l r:Tk},gn l->bW ws l=some r->gn r
 | [],l,r,hl,h=>by injection h with h; subst h; exact hl
 | w::ws,l,r,hl,h=>by
   obtain ⟨q,h1,h2⟩:=Option.bind_eq_some_iff.1 h;exact YL (Xv hl h1) h2
theorem Pz (s:Tx) (t:Tok) (r:Tk):aH s (t::r)=if (t.text==s)=true then some r else none:=rfl
theorem gR {s:Tx} {l q:Tk} (h:aH s l=some q):q.length+1=l.length:=by
 cases l with
 | nil=>cases h
 | cons t r=>
   rw [Pz] at h
   split at h
   · injection h with h; subst h; rfl
   · cases h
theorem aiA {w:Tx} {ws:List Tx} {l q:Tk} (h:aH w l=some q):bW (w::ws) l=bW ws q:=by show (aH w l).bind (bW ws)=_; rw [h]; rfl
theorem aiB {w:Tx} {ws:List Tx} {l:Tk} (h:aH w l=none):bW (w::ws) l=none:=by show (aH w l).bind (bW ws)=_; rw [h]; rfl
structure bT (l:Tk):Prop where
 all:gn l
 len:l.length<=4096
theorem vZ {l r:Tk} {ws:List Tx} (h:bT l) (e:eR l ws r):bT r:=⟨e.ok,by have:=h.len; rw [e.2,List.length_append] at this; omega⟩
theorem gS {s:Tx} {l r:Tk} (h:bT l) (e:aH s l=some r):bT r:=⟨Xv h.all e,by have:=gR e; have:=h.len; omega⟩
theorem FR:∀{ws:List Tx} {l q:Tk},bW ws l=some q->q.length+ws.length=l.length
 | [],l,q,h=>by injection h with h; subst h; rfl
 | w::ws,l,q,h=>by
   obtain ⟨q1,h1,h2⟩:=Option.bind_eq_some_iff.1 h;have:=gR h1; have:=FR h2;simp only [List.length_cons];omega
theorem gT {ws:List Tx} {l r:Tk} (h:bT l) (e:bW ws l=some r):bT r:=⟨YL h.all e,by have:=FR e; have:=h.len; omega⟩
theorem sB {l r:Tk} {a:Tx} (h:bT l) (e:cX l=some (a,r)):bT r:=vZ h (uf h.all e).1
theorem PA {l r:Tk} {a:Int} (h:bT l) (e:kB l=some (a,r)):bT r:=vZ h (O3 h.all e)
theorem YM {l r:Tk} {p:Tx×Tx} (h:bT l) (e:lh l=some (p,r)):bT r:=vZ h (O4 (mod:=p.1) (nm:=p.2) h.all e)
theorem qA {l r:Tk} {f:Nat} {x:az} (h:bT l) (e:cy f l=some (x,r)):bT r:=vZ h (CL f l x r h.all e)
theorem qB {l r:Tk} {f:Nat} {x:az} (h:bT l) (e:cy f l=some (x,r)):r.length+1<=l.length:=by
 have h1:=(CL f l x r h.all e).2;have h2:=agV x;rw [h1]
 cases hw:jE x with
 | nil=>exact absurd hw h2
 | cons y t=>simp
theorem aiC {ws:List Tx} {i:Nat} {x:Tx} (h:ws[i]? = some x):ws.drop i=x::ws.drop (i+1):=by
 obtain ⟨hi,e⟩:=List.getElem?_eq_some_iff.1 h;rw [<-e];exact List.drop_eq_getElem_cons hi
theorem ur:dQ Tryz.prog 223=some 3:=by kernel_rfl
theorem qC:aZ Tryz.prog 228 0=some 0:=by kernel_rfl
theorem uu:dV Tryz.prog 223=true:=by kernel_rfl
theorem aiD:aZ Tryz.prog 255 2=some 2:=by kernel_rfl
theorem YN:cG Tryz.prog 223=some 1:=by kernel_rfl
theorem gv:Enters Tryz.prog 145:=enters_of Tryz.func145 (by kernel_rfl) rfl
theorem v7:fh Tryz.prog 230=some []:=by kernel_rfl
theorem v8:zeroOf Tryz.prog 230=some (.agg #[]):=by kernel_rfl
theorem v_:Tryz.prog.concrete 230=true:=by kernel_rfl
theorem YO:aZ Tryz.prog 255 0=some 0:=by kernel_rfl
theorem YP:Enters Tryz.prog 169:=enters_of Tryz.func169 (by kernel_rfl) rfl
theorem aiE:Jg Tryz.prog 255 2=some 2:=by kernel_rfl
theorem aiF:Jg Tryz.prog 255 1=some 1:=by kernel_rfl
theorem sC:Enters Tryz.prog 144:=enters_of Tryz.func144 (by kernel_rfl) rfl
theorem gw (gb:Nat) (HT:View) (r:Option Addr×Nat) (l:Tk) (s:Tx) (w:World) (hm:Sl a6 3 HT r.1 r.2 l) (hw:Ws w (List.flatMap ao.ids (an gb r l)) (an gb r l) [HT] w) :
   Calls Tryz.prog 145 #[.pointer (some ⟨gb,0,none⟩),st s] w λe w'=>∃i:Bool×(Option Addr×Nat)×Tk,e = .returned (.bool i.1)/\((i.1=true->aH s l=some i.2.2)/\(i.1=false->aH s l=none/\l=i.2.2)/\Sl a6 3 HT i.2.1.1 i.2.1.2 i.2.2)/\Ws w (List.flatMap ao.ids (an gb r l)) (an gb i.2.1 i.2.2) [HT] w':=by
 have dN:=hm.cap;have ek:=hm.max;have x8:=hm.drop 1;refine enter Tryz.func145 O 33 O O ?_;refine CE hw (Cs (Cr (V0 (Ya O) (Ln (Et (Cs (Cr (V0 (Ym O) (V0 (aQ O) (V0 (Yf qC O) (V0 (Yd 0 O O O uu) ?_)))))))))));refine V0 (Yn ur O) (V0 (bX O O) (V0 (Ym O) ?_));apply La 9 (x:=((l.head?.map λt=>t.text==s).getD false)) O O O O Y O O O O O
 ·intro cD
  obtain ⟨t,r0,rfl⟩:∃t r0,l=t::r0:=by
    cases l with
    | nil=>simp at cD
    | cons t r0=>exact ⟨t,r0,rfl⟩
  obtain ⟨z7,z8,o6,nC⟩:=hm.aO 0 t rfl;have nC:aP HT z7 (z8+0*3) t.cells:=nC;refine Vg (Ym O) (Vg (aQ O) (Vg (Yf qC O) (Vg (Yd 0 O O O uu) (Vg (Yo (i:=0) ur O O o6 (by simp)) (Vg (Yf aiD O) (Vg (bL 0 cO O O (nC 2 _ O)) (Vg (Ym O) ?_)))))));refine Vg (yW O O) ?_;exact Gt 9 O O O
 refine V0 (Ya O) (Ln (Et (Cs (Cs (Cr (V0 (Ym O) (Ln (Et ?_))))))));refine Cc O (λad=>?_) (λad=>?_)
 ·obtain ⟨t,r0,rfl⟩:∃t r0,l=t::r0:=by
    cases l with
    | nil=>simp at ad
    | cons t r0=>exact ⟨t,r0,rfl⟩
  have heq:(t.text==s)=true:=by simpa using ad
  have x8:=x8 (by simp);refine Cr (V0 (Ym O) (V0 (Ym O) (V0 (aQ O) (V0 (Yf qC O) (V0 (Yd 0 O O O uu) (V0 (IZ 1 ur O O O (by simp) dN) (V0 (aQ O) ?_)))))));refine V0 (Yf qC O) (ak 0 Y O O O YN O O O (Ln (Et (Cs (Cr (V0 (Ym O) (V0 (Ya O) (Ln (Et (aw ?_))))))))));refine R1 O O λw' hw=>?_;exact ⟨(true,(if r.2-1=0 then r.1 else r.1.map (·.add (1*3)),r.2-1),r0),by rw [ad],⟨λ_=>by rw [Pz,if_pos heq],λh=>(by cases h),x8⟩,hw⟩
 have dW:aH s l=none:=by
   cases l with
   | nil=>rfl
   | cons t r0=>rw [Pz,if_neg]; intro h; simp [h] at ad
 refine Ck (Et (Cs (Cr (V0 (Ym O) (V0 (Ya O) (Ln (Et (aw ?_))))))));refine R1 O O λw' hw=>?_;exact ⟨(false,r,l),by rw [ad],⟨λh=>(by cases h),λ_=>⟨dW,O⟩,hm⟩,hw⟩
theorem gU (gb:Nat) (HT:View) (r:Option Addr×Nat) (l:Tk) (H:View) (a:Option Addr) (n:Nat) (ws:List Tx) (w:World) (hs:Sl rdStr 1 H a n ws) (hm:Sl a6 3 HT r.1 r.2 l) (hw:Ws w (List.flatMap ao.ids (an gb r l)) (an gb r l) [HT,H] w) :
   Calls Tryz.prog 143 #[.pointer (some ⟨gb,0,none⟩),.slice a ws.length n] w λe w'=>(∃(r2:Option Addr×Nat) (q:Tk),e = .returned (.tuple #[])/\bW ws l=some q/\Sl a6 3 HT r2.1 r2.2 q/\Ws w (List.flatMap ao.ids (an gb r l)) (an gb r2 q) [HT,H] w')\/(∃(r2:Option Addr×Nat) (q:Tk),e = .panicked bF/\bW ws l=none/\Ws w (List.flatMap ao.ids (an gb r l)) (an gb r2 q) [HT,H] w'):=by
 have dN:=hs.cap;have ek:=hs.max;refine enter Tryz.func143 O 19 O O ?_;refine CE hw (Cs (Cr (V0 (Ym O) (V0 (Yn dA O) (V0 (Ym O) (Ln (Et (Cb ?_))))))));refine ct (ι:=Nat×(Option Addr×Nat)×Tk) (λg=>[(8,.int .i64 (g.1:Int))]) [(0,_),(6,_),(7,_)] (λg=>Ws w (List.flatMap ao.ids (an gb r l)) (an gb g.2.1 g.2.2) [HT,H]) (λg=>g.1<=ws.length/\bW ws l=bW (ws.drop g.1) g.2.2/\Sl a6 3 HT g.2.1.1 g.2.1.2 g.2.2) (λg=>ws.length-g.1) (0,r,l) ⟨Nat.zero_le _,O,hm⟩ (sc O (sc O (sc O (sc O sn)))) (λ_ h=>h) ?_;intro g ⟨hi,hR,qD⟩;refine Cs (Cr (V0 (a_ O O) (Ln (Et (Cs ?_)))));refine Cc O (λad=>?_) (λad=>?_)
 ·have av:g.1<ws.length:=by simpa using ad
  obtain ⟨x,bu⟩:∃x,ws[g.1]? = some x:=⟨_,List.getElem?_eq_getElem av⟩;obtain ⟨e9,e_,ha,bQ⟩:=hs.aO g.1 x bu;have bQ:aP H e9 (e_+g.1*1) (dJ x):=bQ;have YQ:=aiC bu;refine Ck (Et (Cs (Cb (Cs (Cr (V0 (Yo dA O O (by assumption) (by omega)) (V0 (bL 1 cO O O (bQ 0 _ O)) (V0 (Ya O) (Ln (Et (Cs (Cr (V0 (Ym O) (V0 (Ym O) ?_))))))))))))));refine Lw [_] _ Y O gv O O _ _ _ [HT] (by simp) (λw hw=>gw gb HT g.2.1 g.2.2 x w qD hw) ?_;intro ⟨z_,kH,jk⟩ ⟨FT,FU,qE⟩;refine V0 (dw O) (Ln (Et ?_));refine Cc O (λaq=>?_) (λaq=>?_)
  ·obtain ⟨iQ,J6⟩:=FU (by simpa using aq);refine Cr (V0 (Yb v8 v7 O O) (V0 (rJ v_ O) ?_));refine WL.panic Y O ?_;refine WE.aS (Ep (Ep (WE.aS ?_)));refine aL λw' hw=>?_;exact .inr ⟨kH,jk,O,by rw [hR,YQ,aiB iQ],(by have h:=hw; exact h)⟩
  have oE:=FT (by simpa using aq);refine Ck (Eb (Et (Cr (V0 (Yi O O O (by omega)) (V0 (Ym O) (Ln ?_))))));exact Ea ((g.1+1,kH,jk):Nat×(Option Addr×Nat)×Tk) (by show ws.length-(g.1+1)<ws.length-g.1; omega) ⟨by show g.1+1<=ws.length; omega,by rw [hR,YQ,aiA oE],qE⟩ (sc O (sc O (sc O (sc O sn)))) (λ_ h=>h)
 have cC:¬g.1<ws.length:=by simpa using ad
 rw [List.drop_eq_nil_of_le (by omega)] at hR;refine Ce (Ex (Ex (bK ?_)));refine E0 O λw' hw=>?_;exact .inl ⟨g.2.1,g.2.2,O,by rw [hR]; rfl,qD,hw⟩
theorem YR (gb:Nat) (HT:View) (r:Option Addr×Nat) (l:Tk) (k:Int) (w:World) (hm:Sl a6 3 HT r.1 r.2 l) (hw:Ws w (List.flatMap ao.ids (an gb r l)) (an gb r l) [HT] w) :
   Calls Tryz.prog 169 #[.pointer (some ⟨gb,0,none⟩),.int .i64 k] w λe w'=>(∃(t:Tok) (r2:Option Addr×Nat) (q:Tk),e = .returned (.agg #[.int .i64 t.kind,.int .i64 t.n,st t.text])/\lQ k l=some (t,q)/\Sl a6 3 HT r2.1 r2.2 q/\Ws w (List.flatMap ao.ids (an gb r l)) (an gb r2 q) [HT] w')\/(∃(r2:Option Addr×Nat) (q:Tk),e = .panicked bF/\lQ k l=none/\Ws w (List.flatMap ao.ids (an gb r l)) (an gb r2 q) [HT] w'):=by
 have dN:=hm.cap;have ek:=hm.max;have x8:=hm.drop 1;refine enter Tryz.func169 O 40 O O ?_;refine CE hw (Cs (Cr ?_));refine Al Y O zO λb4=>?_;refine Ln (Et (Cs (Cs (Cr (V0 (Ym O) (V0 (aQ O) (V0 (Yf qC O) (V0 (Yd 1 O O O uu) (V0 (Yn ur O) (V0 (aF O O) (V0 (Ym O) ?_)))))))))));apply Lo 9 (x:=(!((l.head?.map λt=>t.kind==k).getD false))) O O O O Y O O O O O
 ·intro cD
  obtain ⟨t,r0,rfl⟩:∃t r0,l=t::r0:=by
    cases l with
    | nil=>simp at cD
    | cons t r0=>exact ⟨t,r0,rfl⟩
  obtain ⟨z7,z8,o6,nC⟩:=hm.aO 0 t rfl;have nC:aP HT z7 (z8+0*3) t.cells:=nC;refine Vg (Ym O) (Vg (aQ O) (Vg (Yf qC O) (Vg (Yd 1 O O O uu) (Vg (Yo (i:=0) ur O O o6 (by simp)) (Vg (Yf YO O) (Vg (bL 0 aj O O (nC 0 _ O)) (Vg (Ym O) ?_)))))));refine Vg (i' O O) ?_;exact Gt 9 O O O
 refine Ln (Et ?_);refine Cc O (λad=>?_) (λad=>?_)
 ·have dW:lQ k l=none:=by
    cases l with
    | nil=>rfl
    | cons t r0=>
      simp only [lQ];rw [if_neg];intro h;simp [h] at ad;omega
  refine Cr (V0 (Yb v8 v7 O O) (V0 (rJ v_ O) ?_));refine WL.panic Y O ?_;refine Ep ?_;refine aL λw' hw=>?_;exact .inr ⟨r,l,O,dW,(by have h:=hw; have h:=h.ar 1 O; have h:=Wt 1 h; exact h)⟩
 obtain ⟨t,r0,rfl⟩:∃t r0,l=t::r0:=by
   cases l with
   | nil=>simp at ad
   | cons t r0=>exact ⟨t,r0,rfl⟩
 have hk:t.kind=k:=by simp at ad; exact ad.2
 have Aa:lQ k (t::r0)=some (t,r0):=by simp only [lQ]; rw [if_pos hk]
 have x8:=x8 (by simp);obtain ⟨z7,z8,o6,nC⟩:=hm.aO 0 t rfl;have nC:aP HT z7 (z8+0*3) t.cells:=nC;refine Ck (Et (Cs (Cr (V0 (Ym O) (V0 (aQ O) (V0 (Yf qC O) (V0 (Yd 1 O O O uu) (V0 (Yo (i:=0) ur O O o6 (by simp)) (V0 (cF 0 CN O O O (nC)) ?_)))))))));refine Al Y O zO λb5=>?_;refine ak 0 Y O O O FB O O O (Ln (Et (Cs (Cr (V0 (Ym O) (V0 (Ym O) (V0 (aQ O) (V0 (Yf qC O) (V0 (Yd 2 O O O uu) (V0 (IZ 1 ur O O O (by simp) dN) ?_))))))))));refine V0 (aQ O) (V0 (Yf qC O) (ak 2 Y O O O YN O O O (Ln (Et (Cs (Cr (V0 (bC 0 O O CN O) (ak 1 Y O O O FB O O O (Ln (Et (aw ?_)))))))))));refine WE.dM (gA O (cU 1 O O CN O)) λw' hw=>?_;exact .inl ⟨t,(if r.2-1=0 then r.1 else r.1.map (·.add (1*3)),r.2-1),r0,O,Aa,x8,Wd 2 hw⟩
theorem sD (gb:Nat) (HT:View) (r:Option Addr×Nat) (l:Tk) (w:World) (hm:Sl a6 3 HT r.1 r.2 l) (hw:Ws w (List.flatMap ao.ids (an gb r l)) (an gb r l) [HT] w) :
   Calls Tryz.prog 144 #[.pointer (some ⟨gb,0,none⟩)] w λe w'=>(∃(s:Tx) (r2:Option Addr×Nat) (q:Tk),e = .returned (st s)/\cX l=some (s,q)/\Sl a6 3 HT r2.1 r2.2 q/\Ws w (List.flatMap ao.ids (an gb r l)) (an gb r2 q) [HT] w')\/(∃(r2:Option Addr×Nat) (q:Tk),e = .panicked bF/\cX l=none/\Ws w (List.flatMap ao.ids (an gb r l)) (an gb r2 q) [HT] w'):=by
 refine enter Tryz.func144 O 13 O O ?_;refine CE hw (Cs (Cr (V0 (Ya O) (Ln (Et (Cs (Cr (V0 (Ym O) ?_))))))))
 refine bg (ι:=Tok×(Option Addr×Nat)×Tk) (κ:=(Option Addr×Nat)×Tk) [_] _ Y O YP O O (λi=>.agg #[.int .i64 i.1.kind,.int .i64 i.1.n,st i.1.text]) (λi=>an gb i.2.1 i.2.2) (λi=>lQ 1 l=some (i.1,i.2.2)/\Sl a6 3 HT i.2.1.1 i.2.1.2 i.2.2) (λ_=>bF) (λi=>an gb i.1 i.2) (λ_=>lQ 1 l=none) ([HT]) (by simp) (λw hw=>(YR gb HT r l 1 w hm hw).mono λe w' h=>by
     rcases h with ⟨t,r2,q,h1,h2,h3,h4⟩ | ⟨r2,q,h1,h2,h3⟩
     · exact .inl ⟨(t,r2,q),h1,⟨h2,h3⟩,h4⟩
     · exact .inr ⟨(r2,q),h1,h2,h3⟩) ?_ ?_
 ·intro ⟨rp,qp⟩ hp;refine Ep ?_;refine aL λw' hw=>?_;exact .inr ⟨rp,qp,O,by unfold cX; rw [hp]; rfl,(by have h:=hw; exact h)⟩
 intro ⟨t5,r5,q5⟩ ⟨YS,hm5⟩;refine V0 (Vj aiE O O) (V0 (Ya O) (Ln (Et (Cs (Cs (Cr (V0 (Ym O) (Lp Y O JV O (λw hw=>JS _ w) (V0 (dw O) (Ln (Et ?_)))))))))));refine Cc O (λad=>?_) (λad=>?_)
 ·have dW:cX l=none:=by unfold cX; rw [YS]; simp only [Option.bind_some]; rw [if_neg (by simpa using ad)]
  refine Cr (V0 (Yb v8 v7 O O) (V0 (rJ v_ O) ?_));refine WL.panic Y O ?_;refine Ep ?_;refine aL λw' hw=>?_;exact .inr ⟨r5,q5,O,dW,(by have h:=hw; exact h)⟩
 have Aa:cX l=some (t5.text,q5):=by unfold cX; rw [YS]; simp only [Option.bind_some]; rw [if_pos (by simpa using ad)]
 refine Ck (Et (Cs (Cr (V0 (Ym O) (V0 (Ya O) (Ln (Et (aw ?_))))))));refine R1 O O λw' hw=>?_;exact .inl ⟨t5.text,r5,q5,O,Aa,hm5,hw⟩
theorem PB (gb:Nat) (HT:View) (r:Option Addr×Nat) (l:Tk) (w:World) (hm:Sl a6 3 HT r.1 r.2 l) (hw:Ws w (List.flatMap ao.ids (an gb r l)) (an gb r l) [HT] w) :
   Calls Tryz.prog 171 #[.pointer (some ⟨gb,0,none⟩)] w λe w'=>(∃(n:Int) (r2:Option Addr×Nat) (q:Tk),e = .returned (.int .i64 n)/\kB l=some (n,q)/\Sl a6 3 HT r2.1 r2.2 q/\Ws w (List.flatMap ao.ids (an gb r l)) (an gb r2 q) [HT] w')\/(∃(r2:Option Addr×Nat) (q:Tk),e = .panicked bF/\kB l=none/\Ws w (List.flatMap ao.ids (an gb r l)) (an gb r2 q) [HT] w'):=by
 refine enter Tryz.func171 O 6 O O ?_;refine CE hw (Cs (Cr (V0 (Ya O) (Ln (Et (Cs (Cr (V0 (Ym O) ?_))))))))
 refine bg (ι:=Tok×(Option Addr×Nat)×Tk) (κ:=(Option Addr×Nat)×Tk) [_] _ Y O YP O O (λi=>.agg #[.int .i64 i.1.kind,.int .i64 i.1.n,st i.1.text]) (λi=>an gb i.2.1 i.2.2) (λi=>lQ 2 l=some (i.1,i.2.2)/\Sl a6 3 HT i.2.1.1 i.2.1.2 i.2.2) (λ_=>bF) (λi=>an gb i.1 i.2) (λ_=>lQ 2 l=none) ([HT]) (by simp) (λw hw=>(YR gb HT r l 2 w hm hw).mono λe w' h=>by
     rcases h with ⟨t,r2,q,h1,h2,h3,h4⟩ | ⟨r2,q,h1,h2,h3⟩
     · exact .inl ⟨(t,r2,q),h1,⟨h2,h3⟩,h4⟩
     · exact .inr ⟨(r2,q),h1,h2,h3⟩) ?_ ?_
 ·intro ⟨rp,qp⟩ hp;refine Ep ?_;refine aL λw' hw=>?_;exact .inr ⟨rp,qp,O,by unfold kB; rw [hp]; rfl,(by have h:=hw; exact h)⟩
 intro ⟨t4,r4,q4⟩ ⟨YI,hm4⟩;refine V0 (Vj aiF O O) (V0 (Ya O) (Ln (Et (aw ?_))));refine R1 O O λw' hw=>?_;exact .inl ⟨t4.n,r4,q4,O,by unfold kB; rw [YI]; rfl,hm4,hw⟩
theorem YT (gb:Nat) (HT:View) (r:Option Addr×Nat) (l:Tk) (w:World) (aA:bT l) (hm:Sl a6 3 HT r.1 r.2 l) (hw:Ws w (List.flatMap ao.ids (an gb r l)) (an gb r l) [HT] w) :
   Calls Tryz.prog 183 #[.pointer (some ⟨gb,0,none⟩)] w λe w'=>(∃(p:Tx×Tx) (r2:Option Addr×Nat) (q:Tk),e = .returned (.tuple #[st p.1,st p.2])/\lh l=some (p,q)/\Sl a6 3 HT r2.1 r2.2 q/\Ws w (List.flatMap ao.ids (an gb r l)) (an gb r2 q) [HT] w')\/(∃(r2:Option Addr×Nat) (q:Tk),e = .panicked bF/\lh l=none/\Ws w (List.flatMap ao.ids (an gb r l)) (an gb r2 q) [HT] w'):=by
 refine enter Tryz.func183 O 13 O O ?_;refine CE hw (Cs (Cr (V0 (Ya O) (V0 (Ya O) (Ln (Et (Cs (Cr (V0 (Ym O) ?_)))))))))
 refine bg (ι:=(Tx)×(Option Addr×Nat)×Tk) (κ:=(Option Addr×Nat)×Tk) [_] _ Y O sC O O (λi=>st i.1) (λi=>an gb i.2.1 i.2.2) (λi=>cX l=some (i.1,i.2.2)/\Sl a6 3 HT i.2.1.1 i.2.1.2 i.2.2) (λ_=>bF) (λi=>an gb i.1 i.2) (λ_=>cX l=none) ([HT]) (by simp) (λw hw=>(sD gb HT r l w hm hw).mono λe w' h=>by
     rcases h with ⟨t,r2,q,h1,h2,h3,h4⟩ | ⟨r2,q,h1,h2,h3⟩
     · exact .inl ⟨(t,r2,q),h1,⟨h2,h3⟩,h4⟩
     · exact .inr ⟨(r2,q),h1,h2,h3⟩) ?_ ?_
 ·intro ⟨rp,qp⟩ hp;refine Ep ?_;refine aL λw' hw=>?_;exact .inr ⟨rp,qp,O,by unfold lh; rw [hp]; rfl,(by have h:=hw; exact h)⟩
 intro ⟨s6,r6,q6⟩ ⟨J7,hm6⟩;have ok6:=sB aA J7;refine V0 (Ya O) (Ln (Et (Cs (Cs (Cr (V0 (Ym O) ?_))))));refine Lw [_] _ Y O gv O O _ _ _ [HT] (by simp) (λw hw=>gw gb HT r6 q6 [46] w hm6 hw) ?_;intro ⟨b8,r8,q8⟩ ⟨h8t,h8f,J8⟩;refine Ln (Et ?_);refine Cc O (λad=>?_) (λad=>?_)
 ·have oF:=h8t ad;have PC:=gS ok6 oF;refine Cs (Cr (V0 (Ym O) (V0 (Ym O) ?_)))
  refine bg (ι:=(Tx)×(Option Addr×Nat)×Tk) (κ:=(Option Addr×Nat)×Tk) [_] _ Y O sC O O (λi=>st i.1) (λi=>an gb i.2.1 i.2.2) (λi=>cX q8=some (i.1,i.2.2)/\Sl a6 3 HT i.2.1.1 i.2.1.2 i.2.2) (λ_=>bF) (λi=>an gb i.1 i.2) (λ_=>cX q8=none) ([HT]) (by simp) (λw hw=>(sD gb HT r8 q8 w J8 hw).mono λe w' h=>by
      rcases h with ⟨t,r2,q,h1,h2,h3,h4⟩ | ⟨r2,q,h1,h2,h3⟩
      · exact .inl ⟨(t,r2,q),h1,⟨h2,h3⟩,h4⟩
      · exact .inr ⟨(r2,q),h1,h2,h3⟩) ?_ ?_
  ·intro ⟨rp,qp⟩ hp;refine Ep (Ep ?_);refine aL λw' hw=>?_;exact .inr ⟨rp,qp,O,by unfold lh; rw [J7]; simp only [Option.bind_some]; rw [oF]; simp only; rw [hp]; rfl,(by have h:=hw; exact h)⟩
  intro ⟨qF,FV,lr⟩ ⟨jl,FW⟩;have J9:=sB PC jl;refine V0 (Ya O) (V0 (Ya O) (Ln (Et (aw (Er ?_)))));refine WE.mQ O O O λw' hw=>?_;exact .inl ⟨(s6,qF),FV,lr,O,by unfold lh; rw [J7]; simp only [Option.bind_some]; rw [oF]; simp only; rw [jl]; rfl,FW,hw⟩
 obtain ⟨x9,hl8⟩:=h8f ad;subst hl8;refine Ck (Et (Cs (Cr (V0 (Ym O) (V0 (Ya O) (V0 (Ya O) (Ln (Et (aw ?_)))))))));refine WE.mQ O O O λw' hw=>?_;exact .inl ⟨([],s6),r8,q6,O,by unfold lh; rw [J7]; simp only [Option.bind_some]; rw [x9],J8,hw⟩
abbrev XE:=az×Option Addr×Nat
def XE.cells (e:XE):List Value:=zq e.1 e.2.1 e.2.2
theorem XE.aX (e:XE):(XE.cells e).length=5:=rfl
theorem XE.one (e:XE):(XE.cells e).all (·.oneCell')=true:=rfl
def kJ (H:View) (b o:Nat) (e:XE):Prop:=aP H b o (XE.cells e)
def gx (J:View) (f:Nat) (es:List XE):Prop:=∀e ∈ es,Sl (eW f) 5 J e.2.1 e.2.2 e.1.args
theorem gx.nil (J:View) (f:Nat):gx J f []:=by intro e h; simp at h
theorem gx.snoc {J J1 J2:View} {f:Nat} {es:List XE} {e:XE} (h:gx J f es) (h1:aN J J2) (h2:aN J1 J2) (he:Sl (eW f) 5 J1 e.2.1 e.2.2 e.1.args):gx J2 f (es++[e]):=by
 intro x hx
 rcases List.mem_append.1 hx with hx | hx
 · exact (h x hx).imp λb o y hy=>BY h1 (Nat.le_refl _) b o y hy
 · rw [List.mem_singleton] at hx
   subst hx;exact he.imp λb o y hy=>BY h2 (Nat.le_refl _) b o y hy
theorem kK {H J N:View} {f c:Nat} {a:Option Addr} {es:List XE} (h:Sl kJ 5 H a c es) (hv:aN H N) (hJ:aN J N) (nj:gx J f es):Sl (eW (f+1)) 5 N a c (es.map (·.1)):=by
 refine ⟨by simpa using h.cap,h.max,h.spot,λi x hx=>?_⟩;rw [List.getElem?_map] at hx;obtain ⟨e,he,rfl⟩:=Option.map_eq_some_iff.1 hx;obtain ⟨b,o,h1,h2⟩:=h.aO i e he;exact ⟨b,o,h1,e.2.1,e.2.2,aP.mono hv h2,(nj e (List.mem_of_getElem? he)).imp λb o y hy=>BY hJ (Nat.le_refl _) b o y hy⟩
theorem J_ {H N:View} {f c:Nat} {a:Option Addr} {l:List az} (h:Sl (eW f) 5 H a c l) (hv:aN H N):Sl (eW f) 5 N a c l:=h.imp λb o y hy=>BY hv (Nat.le_refl _) b o y hy
structure GA where
 es:List XE
 a:Option Addr
 c:Nat
 J:View
 r:Option Addr×Nat
 q:Tk
def PD (HT:View) (f:Nat):Prop:=∀(gb:Nat) (r:Option Addr×Nat) (l:Tk) (d:Nat) (w:World),f+d=7->bT l->Sl a6 3 HT r.1 r.2 l->Ws w (List.flatMap ao.ids (an gb r l)) (an gb r l) [HT] w->
 Calls Tryz.prog 182 #[.pointer (some ⟨gb,0,none⟩),.int .i64 (d:Int)] w λe w'=>(∃(x:az) (s:Option Addr×Nat) (r2:Option Addr×Nat) (q:Tk),e = .returned (.agg #[.int .i64 (x).op,.int .i64 (x).n,st (x).mod,st (x).nm,.slice s.1 (x).args.length s.2])/\cy f l=some (x,q)/\Sl (eW f) 5 (nv w w') s.1 s.2 x.args/\Sl a6 3 HT r2.1 r2.2 q/\Ws w (List.flatMap ao.ids (an gb r l)) (an gb r2 q) [HT] w')\/(∃(r2:Option Addr×Nat) (q:Tk),e = .panicked bF/\cy f l=none/\Ws w (List.flatMap ao.ids (an gb r l)) (an gb r2 q) [HT] w')
theorem aiN {pe:Tk->Option (az×Tk)} {n:Nat} {l q q2:Tk} {x:az} (h1:pe l=some (x,q)) (h2:aH [41] q=some q2):lR pe (n+1) l=some ([x],q2):=by rw [lR,h1]; simp only [Option.bind_some]; rw [h2]
theorem aiO {pe:Tk->Option (az×Tk)} {n:Nat} {l q q2:Tk} {x:az} (h1:pe l=some (x,q)) (h2:aH [41] q=none) (h3:aH [44] q=some q2):lR pe (n+1) l=(lR pe n q2).map λp=>(x::p.1,p.2):=by rw [lR,h1]; simp only [Option.bind_some]; rw [h2]; simp only; rw [h3]
theorem aiP {pe:Tk->Option (az×Tk)} {n:Nat} {l q:Tk} {x:az} (h1:pe l=some (x,q)) (h2:aH [41] q=none) (h3:aH [44] q=none):lR pe (n+1) l=none:=by rw [lR,h1]; simp only [Option.bind_some]; rw [h2]; simp only; rw [h3]
theorem aiQ {pe:Tk->Option (az×Tk)} {n:Nat} {l:Tk} (h1:pe l=none):lR pe (n+1) l=none:=by rw [lR,h1]; rfl
theorem YU:∀(ws:List Tx) (i k:Nat) (w:Tx) (l q:Tk),ws[i]? = some w->(∀j v,j<i->ws[j]? = some v->aH v l=none)->aH w l=some q->pn ws k l=some (k+i,q)
 | [],i,k,w,l,q,h,_,_=>by simp at h
 | v::ws,0,k,w,l,q,h,_,hq=>by
   simp at h; subst h;rw [pn,hq]; rfl
 | v::ws,i+1,k,w,l,q,h,hn,hq=>by
   rw [pn,hn 0 v (by omega) rfl];simp only;rw [YU ws i (k+1) w l q (by simpa using h) (λj u hj hu=>hn (j+1) u (by omega) (by simpa using hu)) hq]
   congr 2
   omega
theorem YW:∀(ws:List Tx) (k:Nat) (l:Tk),(∀w ∈ ws,aH w l=none)->pn ws k l=none
 | [],_,_,_=>rfl
 | w::ws,k,l,h=>by
   rw [pn,h w (by simp)];exact YW ws (k+1) l λv hv=>h v (List.mem_cons_of_mem _ hv)
theorem aiR {i:Nat} {w:Tx} (h:opsL[i]? = some w):((opsL.map st).toArray)[i]? = some (st w):=by
 rw [List.getElem?_toArray,List.getElem?_map,h]; rfl
theorem qG:Enters Tryz.prog 182:=enters_of Tryz.func182 (by kernel_rfl) rfl
theorem kL:fk Tryz.prog 218 220 (.agg #[.int .i64 0,.int .i64 0,st [],st [],.slice none 0 0]) 5 72:=iw (by kernel_rfl)
theorem gV:Enters Tryz.prog 143:=enters_of Tryz.func143 (by kernel_rfl) rfl
theorem YX (gb:Nat) (HT:View) (r:Option Addr×Nat) (l:Tk) (f d:Nat) (w:World) (hE:PD HT f) (x':f+d=7) (aA:bT l) (hm:Sl a6 3 HT r.1 r.2 l) (hw:Ws w (List.flatMap ao.ids (an gb r l)) (an gb r l) [HT] w) :
   Calls Tryz.prog 184 #[.pointer (some ⟨gb,0,none⟩),.int .i64 (d:Int)] w λe w'=>(∃(xs:List az) (s:Option Addr×Nat) (r2:Option Addr×Nat) (q:Tk),e = .returned (.slice s.1 xs.length s.2)/\lj (cy f) l=some (xs,q)/\Sl (eW (f+1)) 5 (nv w w') s.1 s.2 xs/\Sl a6 3 HT r2.1 r2.2 q/\Ws w (List.flatMap ao.ids (an gb r l)) (an gb r2 q) [HT] w')\/(∃(r2:Option Addr×Nat) (q:Tk),e = .panicked bF/\lj (cy f) l=none/\Ws w (List.flatMap ao.ids (an gb r l)) (an gb r2 q) [HT] w'):=by
 refine enter Tryz.func184 O 21 O O ?_;refine CE hw (Cs (Cr (V0 (Ya O) (Ln (Et (Cs (Cr (V0 (Ya O) (LW (λ_ h=>h.fj 220 5) ?_)))))))));refine WL.v0 ?_;refine Ln (Et (Cs (Cs (Cr (V0 (Ym O) (Lf 1 O ?_))))));refine Lw [_] _ Y O gv O O _ _ _ [HT] (by simp) (λw hw=>gw gb HT r l [41] w hm hw) ?_;intro ⟨b7,r7,q7⟩ ⟨h7t,h7f,YY⟩;refine Ln (Et ?_);refine Cc O (λad=>?_) (λad=>?_)
 ·have YZ:=h7t ad;have ok7:=gS aA YZ;refine Cs (Cr (V0 (Ym O) (V0 (Ya O) (Ln (Et (aw (Er ?_)))))));refine R1 O O λw' hw=>?_;exact .inl ⟨[],(none,0),r7,q7,O,by rw [lj,YZ],Sl.nil,YY,Wv 1 (Wt 1 hw)⟩
 obtain ⟨C5,hl7⟩:=h7f ad;subst hl7;refine Ck (Et (Cb ?_));refine ct (ι:=GA) (λg=>[(5,.slice g.a g.es.length g.c)]) [(0,_),(1,_)] (λg=>Ws w (List.flatMap ao.ids (an gb r l)) (an gb g.r g.q++[bj 220 5 XE.cells g.a g.c g.es]) [g.J,HT]) (λg=>(g.es.length+g.q.length<=l.length/\bT g.q)/\Sl a6 3 HT g.r.1 g.r.2 g.q/\(eU w g.J/\gx g.J f g.es)/\∃n,g.q.length<n/\lj (cy f) l=(lR (cy f) n g.q).map λp=>(g.es.map (·.1)++p.1,p.2)) (λg=>g.q.length) ⟨[],none,0,v0,r7,l⟩ ⟨⟨by simp,aA⟩,YY,⟨xD w,gx.nil _ _⟩,l.length+1,by simp,by rw [lj,C5]; simp⟩ (sc O (sc O (sc O sn))) (λ_ h=>by have h:=Ws.bB h (bc:=[v0,HT]) (by simp); exact h) ?_;intro g ⟨⟨hlen,lu⟩,qD,⟨mD,FX⟩,hA⟩;refine Cb (Cs (Cr (V0 (Ym O) (V0 (Ym O) (V0 (Ym O) ?_)))))
 refine iL (ι:=(az×(Option Addr×Nat))×(Option Addr×Nat)×Tk) (κ:=(Option Addr×Nat)×Tk) [_] _ Y O qG O O (λi=>.agg #[.int .i64 (i.1.1).op,.int .i64 (i.1.1).n,st (i.1.1).mod,st (i.1.1).nm,.slice i.1.2.1 (i.1.1).args.length i.1.2.2]) (λi=>an gb i.2.1 i.2.2) (λF i=>cy f g.q=some (i.1.1,i.2.2)/\Sl (eW f) 5 F i.1.2.1 i.1.2.2 i.1.1.args/\Sl a6 3 HT i.2.1.1 i.2.1.2 i.2.2) (λ_=>bF) (λi=>an gb i.1 i.2) (λ_=>cy f g.q=none) ([HT]) (by simp) (λ_ _ h=>h) (λw hw=>(hE gb g.r g.q d w x' lu qD hw).mono λe w' h=>by
     rcases h with ⟨x,s,r2,q,h1,h2,h3,h4,h5⟩ | ⟨r2,q,h1,h2,h3⟩
     · exact .inl ⟨((x,s),r2,q),h1,⟨h2,h3,h4⟩,h5⟩
     · exact .inr ⟨(r2,q),h1,h2,h3⟩) ?_ ?_
 ·intro ⟨rp,qp⟩ hp;refine Ep (WE.aS (Ep (WE.aS ?_)));refine aL λw' hw=>?_;obtain ⟨n,hn,hA⟩:=hA;obtain ⟨n,rfl⟩:∃k,n=k+1:=⟨n-1,by omega⟩;exact .inr ⟨rp,qp,O,by rw [hA,aiQ hp]; rfl,(by have h:=hw; have h:=Wt 1 h; have h:=Ws.bB h (bc:=[HT]) (by simp); exact h)⟩
 intro F12 ⟨⟨Ka,x_⟩,vR,eD⟩ Pe ⟨gy,Y0,yb⟩;have ye:bT eD:=qA lu gy;have avx:eD.length+1<=List.length (g.q):=qB lu gy;refine WL.n8 λY1 Y2 Y3 Y4=>?_;refine Lb Y O kL O O O O λjZ=>?_;refine bI 0 (.cells (XE.cells (Ka,x_.1,x_.2)).toArray 220 (0,0)) O O ?_;refine LA ((Ka,x_.1,x_.2):XE) 2 0 Y O kL O O O O O O (by have:=aA.len; omega) (by have:=aA.len; omega) λY5 Y6=>?_;refine V0 (Ya O) (Ln (Et (Cs (Cs (Cr (V0 (Ym O) (Lf 1 O ?_)))))));refine Lw [_] _ Y O gv O O _ _ _ [HT] (by simp) (λw hw=>gw gb HT vR eD [41] w yb hw) ?_;intro ⟨Y7,cY,C6⟩ ⟨aiV,aiW,Kb⟩;refine Ln (Et ?_);refine Cc O (λaq=>?_) (λaq=>?_)
 ·have yf:=aiV aq;have Kc:=gS ye yf;obtain ⟨n,hn,hA⟩:=hA;obtain ⟨n,rfl⟩:∃k,n=k+1:=⟨n-1,by omega⟩;refine Cs ?_;refine WC.p_ (rd:=kJ) 2 O (λk hk=>by simp [an,ab] at hk; subst hk; simp [dv,an,ab,dF]) XE.aX (λ_ _ _ _ h=>h) λK6 fK6 hK6=>?_;refine Cr (V0 (Ym O) (V0 (Ya O) (Ln (Et (aw (Er (bt (Er (bt ?_)))))))));refine R1 O O λw' hw=>?_;exact .inl ⟨(g.es++[(Ka,x_.1,x_.2)]).map (·.1),(Y5,Y6),cY,C6,by rw [List.length_map],by rw [hA,aiN gy yf]; simp,kK hK6 (bJ hw (by simp) fK6) (bJ hw (by simp) (Y4 _ Pe mD)) (gx.snoc FX Y3 Y2 Y0),Kb,Wv 2 (Wt 1 hw)⟩
 obtain ⟨Y8,aiZ⟩:=aiW aq;subst aiZ;obtain ⟨n,hn,hA⟩:=hA;obtain ⟨n,rfl⟩:∃k,n=k+1:=⟨n-1,by omega⟩;refine Ck (Et (Cr (V0 (Ym O) ?_)));refine Lb Y O dm O O O O λFY=>?_;refine gg (T:=9) (m:=1) 0 [[44]] O O (show 1<=1 by decide) (by decide) λPE PF=>?_
 refine bg (ι:=(Option Addr×Nat)×Tk) (κ:=(Option Addr×Nat)×Tk) [_] _ Y O gV O O (λ_=>.tuple #[]) (λi=>an gb i.1 i.2) (λi=>bW [[44]] eD=some i.2/\Sl a6 3 HT i.1.1 i.1.2 i.2) (λ_=>bF) (λi=>an gb i.1 i.2) (λ_=>bW [[44]] eD=none) ([HT,PE]) (by simp) (λw hw=>(gU gb HT cY eD PE _ _ [[44]] w PF Kb hw).mono λe w' h=>by
     rcases h with ⟨r2,q,h1,h2,h3,h4⟩ | ⟨r2,q,h1,h2,h3⟩
     · exact .inl ⟨(r2,q),h1,⟨h2,h3⟩,h4⟩
     · exact .inr ⟨(r2,q),h1,h2,h3⟩) ?_ ?_
 ·intro ⟨rp,qp⟩ hp;refine WE.aS (Ep (WE.aS ?_));refine aL λw' hw=>?_;exact .inr ⟨rp,qp,O,by rw [hA,aiP gy Y8 ((dr _ _).symm.trans hp)]; rfl,(by have h:=hw; have h:=Wt 1 h; have h:=Ws.bB h (bc:=[HT]) (by simp); exact h)⟩
 intro ⟨PG,yg⟩ ⟨wa,Y9⟩;have ai0:=gT ye wa;refine Ln (Eb ?_)
 exact Ea (⟨g.es++[(Ka,x_.1,x_.2)],Y5,Y6,Y1,PG,yg⟩:GA) (by have:=FR wa; simp at this; show yg.length<g.q.length; omega) ⟨⟨by have:=FR wa; simp at this ⊢; omega,ai0⟩,Y9,⟨Y4 _ Pe mD,gx.snoc FX Y3 Y2 Y0⟩,n,(show yg.length<n by have:=FR wa; simp at this; omega),by rw [hA,aiO gy Y8 ((dr _ _).symm.trans wa)]; simp [Function.comp_def]⟩ (sc O (sc O (sc O sn))) (λ_ h=>by
     have h:=h.ar 2 rfl;have h:=h.ar 1 rfl;have h:=Wt 2 h;have h:=Ws.bB h (bc:=[Y1,HT]) (by simp)
     exact h)
theorem ai1 {pe:Tk->Option (az×Tk)} {l q:Tk} (h:aH [105,110] l=some q):oy pe l=some (az.mk 2 0 [] [] [],q):=by unfold oy; rw [show zJ=[105,110] from rfl,h]
theorem Y' {pe:Tk->Option (az×Tk)} {l q:Tk} (h1:aH [105,110] l=none) (h:aH [33] l=some q):oy pe l=(pe q).map λx=>(az.mk 6 0 [] [] [x.1],x.2):=by unfold oy; rw [show zJ=[105,110] from rfl,h1]; simp only; rw [h]
theorem Y_ {pe:Tk->Option (az×Tk)} {l q:Tk} (h1:aH [105,110] l=none) (h2:aH [33] l=none) (h:aH [40] l=some q):oy pe l=nw pe q:=by unfold oy; rw [show zJ=[105,110] from rfl,h1]; simp only; rw [h2]; simp only; rw [h]
theorem Ab {pe:Tk->Option (az×Tk)} {l:Tk} (h1:aH [105,110] l=none) (h2:aH [33] l=none) (h:aH [40] l=none):oy pe l=(lh l).bind λp=>qx pe p.1.1 p.1.2 p.2:=by unfold oy; rw [show zJ=[105,110] from rfl,h1]; simp only; rw [h2]; simp only; rw [h]
theorem PH {pe:Tk->Option (az×Tk)} {mod nm:Tx} {l q:Tk} (h:aH [91] l=some q):qx pe mod nm l=(pe q).bind λx=>(aH [93] x.2).map λr=>(az.mk 4 0 mod nm [x.1],r):=by unfold qx; rw [h]
theorem Za {pe:Tk->Option (az×Tk)} {mod nm:Tx} {l q:Tk} (h1:aH [91] l=none) (h:aH [40] l=some q):qx pe mod nm l=(lj pe q).map λq=>(az.mk 5 0 mod nm q.1,q.2):=by unfold qx; rw [h1]; simp only; rw [h]
theorem ai2 {pe:Tk->Option (az×Tk)} {mod nm:Tx} {l:Tk} (h1:aH [91] l=none) (h:aH [40] l=none):qx pe mod nm l=some (az.mk 3 0 mod nm [],l):=by unfold qx; rw [h1]; simp only; rw [h]
theorem ai3 {f d:Nat} {l:Tk} (hf:f+d=7) (h:6<d\/l=[]):cy f l=none:=by
 rcases h with h | rfl
 · obtain rfl:f=0:=by omega
   rfl
 · cases f<;>rfl
theorem ai4 {f:Nat} {t:Tok} {r:Tk} (h:t.kind=2):cy (f+1) (t::r)=some (az.mk 1 t.n [] [] [],r):=by rw [cy,if_pos h]
theorem ai5 {f:Nat} {t:Tok} {r:Tk} (h:¬t.kind=2):cy (f+1) (t::r)=oy (cy f) (t::r):=by rw [cy,if_neg h]
theorem Zb {t:Tok} {r:Tk} (h:t.kind=2):kB (t::r)=some (t.n,r):=by simp [kB,lQ,h]
theorem ai6:Enters Tryz.prog 201:=enters_of Tryz.func201 (by kernel_rfl) rfl
theorem ai7:I' Tryz.prog 314=some 9:=by kernel_rfl
theorem oG:fh Tryz.prog 220=some [(0,1),(1,1),(2,1),(3,1),(4,1)]:=by kernel_rfl
theorem PI:Enters Tryz.prog 171:=enters_of Tryz.func171 (by kernel_rfl) rfl
theorem ai8:Enters Tryz.prog 193:=enters_of Tryz.func193 (by kernel_rfl) rfl
theorem Zc:Enters Tryz.prog 183:=enters_of Tryz.func183 (by kernel_rfl) rfl
theorem uv:cG Tryz.prog 218=some 1:=by kernel_rfl
theorem Zd:Enters Tryz.prog 184:=enters_of Tryz.func184 (by kernel_rfl) rfl
theorem ai9 (gb:Nat) (HT:View) (r:Option Addr×Nat) (l:Tk) (f d:Nat) (w:World) (hE:PD HT f) (x':f+d=7) (aA:bT l) (hm:Sl a6 3 HT r.1 r.2 l) (hw:Ws w (List.flatMap ao.ids (an gb r l)) (an gb r l) [HT] w) :
   Calls Tryz.prog 193 #[.pointer (some ⟨gb,0,none⟩),.int .i64 (d:Int)] w λe w'=>(∃(x:az) (s:Option Addr×Nat) (r2:Option Addr×Nat) (q:Tk),e = .returned (.agg #[.int .i64 (x).op,.int .i64 (x).n,st (x).mod,st (x).nm,.slice s.1 (x).args.length s.2])/\nw (cy f) l=some (x,q)/\Sl (eW (f+1)) 5 (nv w w') s.1 s.2 x.args/\Sl a6 3 HT r2.1 r2.2 q/\Ws w (List.flatMap ao.ids (an gb r l)) (an gb r2 q) [HT] w')\/(∃(r2:Option Addr×Nat) (q:Tk),e = .panicked bF/\nw (cy f) l=none/\Ws w (List.flatMap ao.ids (an gb r l)) (an gb r2 q) [HT] w'):=by
 refine enter Tryz.func193 O 35 O O ?_;refine CE hw (Cs (Cr ?_));refine Al Y O iP λb4=>?_;refine bI 0 (.cells (zq (az.mk 0 0 [] [] []) none 0).toArray 220 (0,0)) O O (Ln (Et (Cs (Cr (V0 (Ym O) (V0 (Ym O) (Lf 1 O ?_)))))))
 refine iL (ι:=(az×(Option Addr×Nat))×(Option Addr×Nat)×Tk) (κ:=(Option Addr×Nat)×Tk) [_] _ Y O qG O O (λi=>.agg #[.int .i64 (i.1.1).op,.int .i64 (i.1.1).n,st (i.1.1).mod,st (i.1.1).nm,.slice i.1.2.1 (i.1.1).args.length i.1.2.2]) (λi=>an gb i.2.1 i.2.2) (λF i=>cy f l=some (i.1.1,i.2.2)/\Sl (eW f) 5 F i.1.2.1 i.1.2.2 i.1.1.args/\Sl a6 3 HT i.2.1.1 i.2.1.2 i.2.2) (λ_=>bF) (λi=>an gb i.1 i.2) (λ_=>cy f l=none) ([HT]) (by simp) (λ_ _ h=>h) (λw hw=>(hE gb r l d w x' aA hm hw).mono λe w' h=>by
     rcases h with ⟨x,s,r2,q,h1,h2,h3,h4,h5⟩ | ⟨r2,q,h1,h2,h3⟩
     · exact .inl ⟨((x,s),r2,q),h1,⟨h2,h3,h4⟩,h5⟩
     · exact .inr ⟨(r2,q),h1,h2,h3⟩) ?_ ?_
 ·intro ⟨rp,qp⟩ hp;refine Ep ?_;refine aL λw' hw=>?_;exact .inr ⟨rp,qp,O,by rw [nw,hp]; rfl,(by have h:=hw; have h:=Wt 1 h; exact h)⟩
 intro F11 ⟨⟨PJ,qF⟩,FV,lr⟩ ai_ ⟨jl,aja,FW⟩;have J9:bT lr:=qA aA jl;have avy:lr.length+1<=List.length (l):=qB aA jl;refine Al Y O iP λb5=>?_;refine ak 0 Y O O O nA O O O (Ln (Et (Cs (Cs (Cr (Lp Y O ai6 O (λw hw=>aiz w) (V0 (Ym O) (Ln (Et (Cb ?_))))))))));refine ct (ι:=Nat×(Option Addr×Nat)) (λg=>[(13,.int .i64 (g.1:Int))]) [(0,_),(1,_),(4,_),(5,_),(12,_)] (λg=>Ws w (List.flatMap ao.ids (an gb r l)) (an gb g.2 lr++[ab b5 (.cells (XE.cells (PJ,qF.1,qF.2)).toArray 220 (0,0)),ab b4 (.cells (zq (az.mk 0 0 [] [] []) none 0).toArray 220 (0,0))]) [F11,HT]) (λg=>g.1<=9/\(∀j v,j<g.1->opsL[j]? = some v->aH v lr=none)/\Sl a6 3 HT g.2.1 g.2.2 lr) (λg=>9-g.1) (0,FV) ⟨Nat.zero_le _,by simp,FW⟩ (sc O (sc O (sc O (sc O (sc O (sc O sn)))))) (λ_ h=>(((h.f 2 O).f 1 O).f 2 O:)) ?_;intro g ⟨hi,bN,qD⟩;refine Cs (Cr (V0 (a_ O O) (Ln (Et (Cs ?_)))));refine Cc O (λad=>?_) (λad=>?_)
 ·have av:g.1<9:=by simp at ad; omega
  obtain ⟨o,bA⟩:∃o,opsL[g.1]? = some o:=⟨_,List.getElem?_eq_getElem (by show g.1<9; exact av)⟩;refine Ck (Et (Cs (Cb (Cs (Cr (V0 (Ym O) (V0 (US (i:=g.1) ai7 O O av (aiR bA)) (V0 (Ya O) (V0 (Ya O) (Ln (Et (Cs (Cr (V0 (Ym O) (V0 (Ym O) ?_)))))))))))))));refine Lw [_] _ Y O gv O O _ _ _ [HT] (by simp) (λw hw=>gw gb HT g.2 lr o w qD hw) ?_;intro ⟨FY,pw,j7⟩ ⟨ajb,ajc,C7⟩;refine Ln (Et ?_);refine Cc O (λaq=>?_) (λaq=>?_)
  ·have qH:=ajb aq;have Ac:=gS J9 qH
   have gk:pn opsL 0 lr=some (g.1,j7):=by rw [YU opsL g.1 0 o lr j7 bA bN qH,Nat.zero_add]
   refine Cs (Cr (V0 (Ym O) (V0 (Ym O) ?_)))
   refine iL (ι:=(az×(Option Addr×Nat))×(Option Addr×Nat)×Tk) (κ:=(Option Addr×Nat)×Tk) [_] _ Y O qG O O (λi=>.agg #[.int .i64 (i.1.1).op,.int .i64 (i.1.1).n,st (i.1.1).mod,st (i.1.1).nm,.slice i.1.2.1 (i.1.1).args.length i.1.2.2]) (λi=>an gb i.2.1 i.2.2) (λF i=>cy f j7=some (i.1.1,i.2.2)/\Sl (eW f) 5 F i.1.2.1 i.1.2.2 i.1.1.args/\Sl a6 3 HT i.2.1.1 i.2.1.2 i.2.2) (λ_=>bF) (λi=>an gb i.1 i.2) (λ_=>cy f j7=none) ([HT]) (by simp) (λ_ _ h=>h) (λw hw=>(hE gb pw j7 d w x' Ac C7 hw).mono λe w' h=>by
       rcases h with ⟨x,s,r2,q,h1,h2,h3,h4,h5⟩ | ⟨r2,q,h1,h2,h3⟩
       · exact .inl ⟨((x,s),r2,q),h1,⟨h2,h3,h4⟩,h5⟩
       · exact .inr ⟨(r2,q),h1,h2,h3⟩) ?_ ?_
   ·intro ⟨rp,qp⟩ hp;refine Ep (WE.aS (Ep (Ep (WE.aS (Ep ?_)))));refine aL λw' hw=>?_;exact .inr ⟨rp,qp,O,by rw [nw,jl]; simp only [Option.bind_some]; rw [gk]; simp only [Option.bind_some]; rw [hp]; rfl,(by have h:=hw; have h:=Wt 1 h; have h:=Ws.bB h (bc:=[HT]) (by simp); exact h)⟩
   intro F22 ⟨⟨Ze,Zf⟩,PK,nD⟩ ajd ⟨qI,aje,PL⟩;have C8:bT nD:=qA Ac qI;have avA:nD.length+1<=List.length (j7):=qB Ac qI;refine WL.n8 λJ22 ajg ajh aji=>?_;refine Al Y O iP λb8=>?_;refine ak 0 Y O O O nA O O O (Ln (Et (Cs (Cr (V0 (Ym O) ?_)))));refine Lb Y O dm O O O O λFZ=>?_;refine gg (T:=9) (m:=1) 0 [[41]] O O (show 1<=1 by decide) (by decide) λC9 F0=>?_;refine Lf 1 O ?_
   refine bg (ι:=(Option Addr×Nat)×Tk) (κ:=(Option Addr×Nat)×Tk) [_] _ Y O gV O O (λ_=>.tuple #[]) (λi=>an gb i.1 i.2) (λi=>bW [[41]] nD=some i.2/\Sl a6 3 HT i.1.1 i.1.2 i.2) (λ_=>bF) (λi=>an gb i.1 i.2) (λ_=>bW [[41]] nD=none) ([HT,C9]) (by simp) (λw hw=>(gU gb HT PK nD C9 _ _ [[41]] w F0 PL hw).mono λe w' h=>by
       rcases h with ⟨r2,q,h1,h2,h3,h4⟩ | ⟨r2,q,h1,h2,h3⟩
       · exact .inl ⟨(r2,q),h1,⟨h2,h3⟩,h4⟩
       · exact .inr ⟨(r2,q),h1,h2,h3⟩) ?_ ?_
   ·intro ⟨rp,qp⟩ hp;refine Ep (WE.aS (Ep (Ep (WE.aS (Ep ?_)))));refine aL λw' hw=>?_;exact .inr ⟨rp,qp,O,by rw [nw,jl]; simp only [Option.bind_some]; rw [gk]; simp only [Option.bind_some]; rw [qI]; simp only [Option.bind_some]; rw [<-dr,hp]; rfl,(by have h:=hw; have h:=Wt 1 h; have h:=Ws.bB h (bc:=[HT]) (by simp); exact h)⟩
   intro ⟨Kd,Ad⟩ ⟨Ae,Ke⟩;have Zg:=gT C8 Ae;refine Ln (Et (Cs (Cr (V0 (Ym O) (V0 (IV ((7:Int)+(g.1:Int)) O O O (by omega)) (V0 (bC 2 O O jY O) (V0 (bC 1 O O jY O) ?_)))))));refine Lb Y O kL O O O O λPM=>?_;refine LN (rd:=kJ) (f:=XE.cells) (m:=2) 0 [(PJ,qF.1,qF.2),(Ze,Zf.1,Zf.2)] O O (λk hk=>by simp [an,ab] at hk; subst hk; simp [dv,an,ab,dF]) XE.aX (λ_ _ _ _ h=>h) (show 2<=2 by decide) (by decide) λH30 ajj ajk=>?_;refine V0 (Yb iP oG O O) (ak 3 Y O O O nA O O O (Ln (Et (aw (bt (Er (Er (bt (Er ?_)))))))));refine WE.dM (gA O (cU 3 O O jY O)) λw' hw=>?_;exact .inl ⟨az.mk (7+(g.1:Int)) 0 [] [] [PJ,Ze],(some ⟨PM,0,none⟩,2),Kd,Ad,O,by rw [nw,jl]; simp only [Option.bind_some]; rw [gk]; simp only [Option.bind_some]; rw [qI]; simp only [Option.bind_some]; rw [<-dr,Ae]; rfl,kK ajk (bJ hw (by simp) ajj) (bJ hw (by simp) (aji _ ajd ai_)) (((gx.nil J22 f).snoc (aN.refl _) ajh aja).snoc (aN.refl _) ajg aje),Ke,Wv 3 (Wt 1 hw)⟩
  obtain ⟨ajl,ajm⟩:=ajc aq;subst ajm;refine Ck (Eb (Et (Cr (V0 (Yi O O O (by omega)) (V0 (Ym O) (Ln ?_))))))
  exact Ea ((g.1+1,pw):Nat×(Option Addr×Nat)) (by show 9-(g.1+1)<9-g.1; omega) ⟨by show g.1+1<=9; omega,λj v hj hv=>by
      rcases Nat.lt_succ_iff_lt_or_eq.1 hj with h | rfl
      · exact bN j v h hv
      · rw [bA] at hv; injection hv with hv; subst hv; exact ajl,C7⟩ (sc rfl (sc rfl (sc rfl (sc rfl (sc rfl (sc rfl sn)))))) (λ_ h=>h)
 have cC:¬g.1<9:=by simp at ad; omega
 have ajn:pn opsL 0 lr=none:=YW _ _ _ λv hv=>by
   obtain ⟨j,hj⟩:=List.getElem?_of_mem hv;exact bN j v (by have:=(List.getElem?_eq_some_iff.1 hj).1; have:opsL.length=9:=rfl; omega) hj
 refine Ce (Ex (Ex (bK (Et (Cr (V0 (Yb v8 v7 O O) (V0 (rJ v_ O) ?_)))))));refine WL.panic Y O ?_;refine aL λw' hw=>?_;exact .inr ⟨g.2,lr,O,by rw [nw,jl]; simp only [Option.bind_some]; rw [ajn]; rfl,(by have h:=hw; have h:=Wt 1 h; have h:=Ws.bB h (bc:=[HT]) (by simp); exact h)⟩
theorem yh (HT:View) (f:Nat) (gb:Nat) (r:Option Addr×Nat) (l:Tk) (d:Nat) (w:World) (x':f+d=7) (aA:bT l) (hm:Sl a6 3 HT r.1 r.2 l) (hw:Ws w (List.flatMap ao.ids (an gb r l)) (an gb r l) [HT] w) :
   Calls Tryz.prog 182 #[.pointer (some ⟨gb,0,none⟩),.int .i64 (d:Int)] w λe w'=>(∃(x:az) (s:Option Addr×Nat) (r2:Option Addr×Nat) (q:Tk),e = .returned (.agg #[.int .i64 (x).op,.int .i64 (x).n,st (x).mod,st (x).nm,.slice s.1 (x).args.length s.2])/\cy f l=some (x,q)/\Sl (eW f) 5 (nv w w') s.1 s.2 x.args/\Sl a6 3 HT r2.1 r2.2 q/\Ws w (List.flatMap ao.ids (an gb r l)) (an gb r2 q) [HT] w')\/(∃(r2:Option Addr×Nat) (q:Tk),e = .panicked bF/\cy f l=none/\Ws w (List.flatMap ao.ids (an gb r l)) (an gb r2 q) [HT] w'):=by
 induction f using Nat.strongRecOn generalizing gb r l d w
 rename_i f ih;have dN:=hm.cap;have ek:=hm.max;refine enter Tryz.func182 O 83 O O ?_;refine CE hw (Cs (Cr ?_));refine Al Y O iP λb4=>?_;refine bI 0 (.cells (zq (az.mk 0 0 [] [] []) none 0).toArray 220 (0,0)) O O (Ln (Et (Cs (Cs (Cr (V0 (Ym O) (V0 (bX O O) (V0 (Ym O) ?_))))))));apply Lo 6 O O O O Y O O O O O
 ·intro cD;refine Vg (Ym O) (Vg (aQ O) (Vg (Yf qC O) (Vg (Yd 1 O O O uu) (Vg (Yn ur O) (Vg (aF O O) ?_)))));exact Gt 6 O O O
 refine Ln (Et ?_);refine Cc O (λad=>?_) (λad=>?_)
 ·have dW:cy f l=none:=ai3 x' (by
    simp at ad
    rcases ad with h | h
    · left; omega
    · right; exact h)
  refine Cr (V0 (Yb v8 v7 O O) (V0 (rJ v_ O) ?_));refine WL.panic Y O ?_;refine Ep ?_;refine aL λw' hw=>?_;exact .inr ⟨r,l,O,dW,(by have h:=hw; have h:=h.ar 1 O; have h:=Wt 1 h; exact h)⟩
 have Zh:¬6<d:=by
   intro h
   have h2:(6:Int)<(d:Int):=by omega
   simp [h2] at ad
 obtain ⟨f,rfl⟩:∃k,f=k+1:=⟨f-1,by omega⟩
 obtain ⟨t0,r0,rfl⟩:∃t r,l=t::r:=by
   cases l with
   | nil=>simp at ad
   | cons t r=>exact ⟨t,r,rfl⟩
 obtain ⟨z7,z8,o6,nC⟩:=hm.aO 0 t0 rfl;have nC:aP HT z7 (z8+0*3) t0.cells:=nC;have hE:PD HT f:=λgb r l d w h1 h2 h3 h4=>ih f (by omega) gb r l d w h1 h2 h3 h4;refine Ck (Et (Cs (Cb (Cs (Cr (V0 (Ym O) (V0 (aQ O) (V0 (Yf qC O) (V0 (Yd 1 O O O uu) (V0 (Yo (i:=0) ur O O o6 (by simp)) (V0 (Yf YO O) (V0 (bL 0 aj O O (nC 0 _ O)) ?_))))))))))));refine V0 (aF O O) (V0 (Ya O) (Ln (Et ?_)));refine Cc O (λaq=>?_) (λaq=>?_)
 ·have hk:t0.kind=2:=by simpa using aq
  refine Cs (Cr (V0 (Ym O) (Lf 1 O ?_)))
  refine bg (ι:=(Int)×(Option Addr×Nat)×Tk) (κ:=(Option Addr×Nat)×Tk) [_] _ Y O PI O O (λi=>.int .i64 i.1) (λi=>an gb i.2.1 i.2.2) (λi=>kB (t0::r0)=some (i.1,i.2.2)/\Sl a6 3 HT i.2.1.1 i.2.1.2 i.2.2) (λ_=>bF) (λi=>an gb i.1 i.2) (λ_=>kB (t0::r0)=none) ([HT]) (by simp) (λw hw=>(PB gb HT r (t0::r0) w hm hw).mono λe w' h=>by
      rcases h with ⟨t,r2,q,h1,h2,h3,h4⟩ | ⟨r2,q,h1,h2,h3⟩
      · exact .inl ⟨(t,r2,q),h1,⟨h2,h3⟩,h4⟩
      · exact .inr ⟨(r2,q),h1,h2,h3⟩) ?_ ?_
  ·intro ⟨rp,qp⟩ hp;refine Ep (WE.aS (Ep ?_));refine aL λw' hw=>?_;rw [Zb hk] at hp;cases hp
  intro ⟨n30,r30,q30⟩ ⟨Af,ajp⟩;have avD:=PA aA Af;refine V0 (Yb iP oG O O) ?_;rw [Zb hk] at Af
  injection Af with Af
  injection Af with F1 Af
  subst F1;subst Af;refine ak 1 Y O O O nA O O O (Ln (Et (aw (bt (Er ?_)))));refine WE.dM (gA O (cU 1 O O jY O)) λw' hw=>?_;exact .inl ⟨az.mk 1 t0.n [] [] [],(none,0),r30,r0,O,ai4 hk,Sl.nil,ajp,Wt 1 hw⟩
 have hk:¬t0.kind=2:=by simpa using aq
 have hR:=ai5 (f:=f) (r:=r0) hk;refine Cs (Cr (V0 (Ym O) (Lf 1 O ?_)));refine Lw [_] _ Y O gv O O _ _ _ [HT] (by simp) (λw hw=>gw gb HT r (t0::r0) [105,110] w hm hw) ?_;intro ⟨b34,F2,Ah⟩ ⟨ajq,ajr,Kf⟩;refine V0 (Ya O) (Ln (Et ?_));refine Cc O (λay=>?_) (λay=>?_)
 ·have wb:=ajq ay;have Zi:=gS aA wb;refine Cs (Cr (V0 (Yb iP oG O O) (ak 1 Y O O O nA O O O (Ln (Et (aw (bt (Er ?_))))))));refine WE.dM (gA O (cU 1 O O jY O)) λw' hw=>?_;exact .inl ⟨az.mk 2 0 [] [] [],(none,0),F2,Ah,O,by rw [hR,ai1 wb],Sl.nil,Kf,Wt 1 hw⟩
 obtain ⟨sE,ajs⟩:=ajr ay;subst ajs;refine Cs (Cr (V0 (Ym O) ?_));refine Lw [_] _ Y O gv O O _ _ _ [HT] (by simp) (λw hw=>gw gb HT F2 (t0::r0) [33] w Kf hw) ?_;intro ⟨wc,Zj,Kg⟩ ⟨ajt,aju,Kh⟩;refine V0 (Ya O) (Ln (Et ?_));refine Cc O (λaJ=>?_) (λaJ=>?_)
 ·have PN:=ajt aJ;have PO:=gS aA PN;refine Cs (Cr (V0 (Ym O) (V0 (Ym O) (V0 (Yi O O O (by omega)) ?_))))
  refine iL (ι:=(az×(Option Addr×Nat))×(Option Addr×Nat)×Tk) (κ:=(Option Addr×Nat)×Tk) [_] _ Y O qG O O (λi=>.agg #[.int .i64 (i.1.1).op,.int .i64 (i.1.1).n,st (i.1.1).mod,st (i.1.1).nm,.slice i.1.2.1 (i.1.1).args.length i.1.2.2]) (λi=>an gb i.2.1 i.2.2) (λF i=>cy f Kg=some (i.1.1,i.2.2)/\Sl (eW f) 5 F i.1.2.1 i.1.2.2 i.1.1.args/\Sl a6 3 HT i.2.1.1 i.2.1.2 i.2.2) (λ_=>bF) (λi=>an gb i.1 i.2) (λ_=>cy f Kg=none) ([HT]) (by simp) (λ_ _ h=>h) (λw hw=>(hE gb Zj Kg (d+1) w (by omega) PO Kh hw).mono λe w' h=>by
      rcases h with ⟨x,s,r2,q,h1,h2,h3,h4,h5⟩ | ⟨r2,q,h1,h2,h3⟩
      · exact .inl ⟨((x,s),r2,q),h1,⟨h2,h3,h4⟩,h5⟩
      · exact .inr ⟨(r2,q),h1,h2,h3⟩) ?_ ?_
  ·intro ⟨rp,qp⟩ hp;refine Ep (WE.aS (Ep ?_));refine aL λw' hw=>?_;exact .inr ⟨rp,qp,O,by rw [hR,Y' sE PN,hp]; rfl,(by have h:=hw; have h:=Wt 1 h; exact h)⟩
  intro F42 ⟨⟨Zk,Zl⟩,r42,PQ⟩ ajx ⟨PR,ajy,ajz⟩;have avF:bT PQ:=qA PO PR;have avG:PQ.length+1<=List.length (Kg):=qB PO PR;refine Lb Y O kL O O O O λfY=>?_;refine LN (rd:=kJ) (f:=XE.cells) (m:=1) 0 [(Zk,Zl.1,Zl.2)] O O (λk hk=>by simp [an,ab] at hk; subst hk; simp [dv,an,ab,dF]) XE.aX (λ_ _ _ _ h=>h) (show 1<=1 by decide) (by decide) λH43 ajA ajB=>?_;refine V0 (Yb iP oG O O) (ak 1 Y O O O nA O O O (Ln (Et (aw (bt (Er ?_))))));refine WE.dM (gA O (cU 1 O O jY O)) λw' hw=>?_;exact .inl ⟨az.mk 6 0 [] [] [Zk],(some ⟨fY,0,none⟩,1),r42,PQ,O,by rw [hR,Y' sE PN,PR]; rfl,kK ajB (bJ hw (by simp) ajA) (bJ hw (by simp) ajx) ((gx.nil F42 f).snoc (aN.refl _) (aN.refl _) ajy),ajz,Wv 2 (Wt 1 hw)⟩
 obtain ⟨we,ajC⟩:=aju aJ;subst ajC;refine Cs (Cr (V0 (Ym O) ?_));refine Lw [_] _ Y O gv O O _ _ _ [HT] (by simp) (λw hw=>gw gb HT Zj (t0::r0) [40] w Kh hw) ?_;intro ⟨yi,yj,iF⟩ ⟨PS,PT,wg⟩;refine V0 (Ya O) (Ln (Et ?_));refine Cc O (λaU=>?_) (λaU=>?_)
 ·have lv:=PS aU;have uw:=gS aA lv;refine Cs (Cr (V0 (Ym O) (V0 (Ym O) (V0 (Yi O O O (by omega)) ?_))))
  refine iL (ι:=((az)×(Option Addr×Nat))×(Option Addr×Nat)×Tk) (κ:=(Option Addr×Nat)×Tk) [_] _ Y O ai8 O O (λi=>.agg #[.int .i64 (i.1.1).op,.int .i64 (i.1.1).n,st (i.1.1).mod,st (i.1.1).nm,.slice i.1.2.1 (i.1.1).args.length i.1.2.2]) (λi=>an gb i.2.1 i.2.2) (λF i=>nw (cy f) iF=some (i.1.1,i.2.2)/\Sl (eW (f+1)) 5 F i.1.2.1 i.1.2.2 i.1.1.args/\Sl a6 3 HT i.2.1.1 i.2.1.2 i.2.2) (λ_=>bF) (λi=>an gb i.1 i.2) (λ_=>nw (cy f) iF=none) ([HT]) (by simp) (λ_ _ h=>h) (λw hw=>(ai9 gb HT yj iF f (d+1) w hE (by omega) uw wg hw).mono λe w' h=>by
      rcases h with ⟨x,s,r2,q,h1,h2,h3,h4,h5⟩ | ⟨r2,q,h1,h2,h3⟩
      · exact .inl ⟨((x,s),r2,q),h1,⟨h2,h3,h4⟩,h5⟩
      · exact .inr ⟨(r2,q),h1,h2,h3⟩) ?_ ?_
  ·intro ⟨rp,qp⟩ hp;refine Ep (WE.aS (Ep ?_));refine aL λw' hw=>?_;exact .inr ⟨rp,qp,O,by rw [hR,Y_ sE we lv,hp],(by have h:=hw; have h:=Wt 1 h; exact h)⟩
  intro F51 ⟨⟨x51,s51⟩,eo,q51⟩ ajG ⟨ajH,ajI,ajJ⟩;refine ak 1 Y O O O nA O O O (Ln (Et (aw (bt (Er ?_)))));refine WE.dM (gA O (cU 1 O O jY O)) λw' hw=>?_;exact .inl ⟨x51,s51,eo,q51,O,by rw [hR,Y_ sE we lv,ajH],J_ ajI (bJ hw (by simp) ajG),ajJ,Wv 1 (Wt 1 hw)⟩
 obtain ⟨wh,PU⟩:=PT aU;subst PU;refine Ck (Eb (Et (Cs (Cr (V0 (Ym O) ?_)))))
 refine bg (ι:=(Tx×Tx)×(Option Addr×Nat)×Tk) (κ:=(Option Addr×Nat)×Tk) [_] _ Y O Zc O O (λi=>.tuple #[st i.1.1,st i.1.2]) (λi=>an gb i.2.1 i.2.2) (λi=>lh (t0::r0)=some (i.1,i.2.2)/\Sl a6 3 HT i.2.1.1 i.2.1.2 i.2.2) (λ_=>bF) (λi=>an gb i.1 i.2) (λ_=>lh (t0::r0)=none) ([HT]) (by simp) (λw hw=>(YT gb HT yj (t0::r0) w aA wg hw).mono λe w' h=>by
     rcases h with ⟨t,r2,q,h1,h2,h3,h4⟩ | ⟨r2,q,h1,h2,h3⟩
     · exact .inl ⟨(t,r2,q),h1,⟨h2,h3⟩,h4⟩
     · exact .inr ⟨(r2,q),h1,h2,h3⟩) ?_ ?_
 ·intro ⟨rp,qp⟩ hp;refine Ep ?_;refine aL λw' hw=>?_;exact .inr ⟨rp,qp,O,by rw [hR,Ab sE we wh,hp]; rfl,(by have h:=hw; have h:=Wt 1 h; exact h)⟩
 intro ⟨C_,PV,Ai⟩ ⟨px,PW⟩;have Ki:=YM aA px;refine V0 (Ym O) (V0 (Yx O O) (V0 (Yx O O) (V0 (Ya O) (V0 (Ya O) (Ln (Et (Cs (Cr (V0 (Ym O) (V0 (Ym O) ?_))))))))));refine V0 (Yb iP oG O O) ?_;refine Al Y O iP λb7=>?_;refine ak 0 Y O O O nA O O O (Ln (Et (Cs (Cb (Cs (Cr (V0 (Ym O) (Lf 1 O ?_))))))));refine Lw [_] _ Y O gv O O _ _ _ [HT] (by simp) (λw hw=>gw gb HT PV Ai [91] w PW hw) ?_;intro ⟨Px,PY,Kj⟩ ⟨ajK,ajL,Kk⟩;refine V0 (Ya O) (Ln (Et ?_));refine Cc O (λbd=>?_) (λbd=>?_)
 ·have Da:=ajK bd;have PZ:=gS Ki Da;refine Cs (Cr (V0 (Ym O) (V0 (Ym O) (V0 (Yi O O O (by omega)) ?_))))
  refine iL (ι:=(az×(Option Addr×Nat))×(Option Addr×Nat)×Tk) (κ:=(Option Addr×Nat)×Tk) [_] _ Y O qG O O (λi=>.agg #[.int .i64 (i.1.1).op,.int .i64 (i.1.1).n,st (i.1.1).mod,st (i.1.1).nm,.slice i.1.2.1 (i.1.1).args.length i.1.2.2]) (λi=>an gb i.2.1 i.2.2) (λF i=>cy f Kj=some (i.1.1,i.2.2)/\Sl (eW f) 5 F i.1.2.1 i.1.2.2 i.1.1.args/\Sl a6 3 HT i.2.1.1 i.2.1.2 i.2.2) (λ_=>bF) (λi=>an gb i.1 i.2) (λ_=>cy f Kj=none) ([HT]) (by simp) (λ_ _ h=>h) (λw hw=>(hE gb PY Kj (d+1) w (by omega) PZ Kk hw).mono λe w' h=>by
      rcases h with ⟨x,s,r2,q,h1,h2,h3,h4,h5⟩ | ⟨r2,q,h1,h2,h3⟩
      · exact .inl ⟨((x,s),r2,q),h1,⟨h2,h3,h4⟩,h5⟩
      · exact .inr ⟨(r2,q),h1,h2,h3⟩) ?_ ?_
  ·intro ⟨rp,qp⟩ hp;refine Ep (WE.aS (Ep ?_));refine aL λw' hw=>?_;exact .inr ⟨rp,qp,O,by rw [hR,Ab sE we wh,px]; simp only [Option.bind_some]; rw [PH Da,hp]; rfl,(by have h:=hw; have h:=Wt 1 h; exact h)⟩
  intro F66 ⟨⟨Zm,Zn⟩,r66,F3⟩ ajO ⟨Kl,ajP,ajQ⟩;have ajR:bT F3:=qA PZ Kl;have avJ:F3.length+1<=List.length (Kj):=qB PZ Kl;refine Lb Y O kL O O O O λKm=>?_;refine LN (rd:=kJ) (f:=XE.cells) (m:=1) 0 [(Zm,Zn.1,Zn.2)] O O (λk hk=>by simp [an,ab] at hk; subst hk; simp [dv,an,ab,dF]) XE.aX (λ_ _ _ _ h=>h) (show 1<=1 by decide) (by decide) λZo ajS P0=>?_;refine V0 (Yf zS O) (ak 1 Y O O O bZ O O O (V0 (Yf CT O) (ak 1 Y O O O uv O O O (Ln (Et (Cr (V0 (Ym O) ?_)))))));refine Lb Y O dm O O O O λb71=>?_;refine gg (T:=9) (m:=1) 0 [[93]] O O (show 1<=1 by decide) (by decide) λZp ajT=>?_
  refine bg (ι:=(Option Addr×Nat)×Tk) (κ:=(Option Addr×Nat)×Tk) [_] _ Y O gV O O (λ_=>.tuple #[]) (λi=>an gb i.1 i.2) (λi=>bW [[93]] F3=some i.2/\Sl a6 3 HT i.1.1 i.1.2 i.2) (λ_=>bF) (λi=>an gb i.1 i.2) (λ_=>bW [[93]] F3=none) ([HT,Zp]) (by simp) (λw hw=>(gU gb HT r66 F3 Zp _ _ [[93]] w ajT ajQ hw).mono λe w' h=>by
      rcases h with ⟨r2,q,h1,h2,h3,h4⟩ | ⟨r2,q,h1,h2,h3⟩
      · exact .inl ⟨(r2,q),h1,⟨h2,h3⟩,h4⟩
      · exact .inr ⟨(r2,q),h1,h2,h3⟩) ?_ ?_
  ·intro ⟨rp,qp⟩ hp;refine WE.aS (Ep ?_);refine aL λw' hw=>?_;exact .inr ⟨rp,qp,O,by rw [hR,Ab sE we wh,px]; simp only [Option.bind_some]; rw [PH Da,Kl]; simp only [Option.bind_some]; rw [<-dr,hp]; rfl,(by have h:=hw; have h:=Wt 1 h; have h:=Ws.bB h (bc:=[HT]) (by simp); exact h)⟩
  intro ⟨Kn,Db⟩ ⟨Aj,Ko⟩;have Kq:=gT ajR Aj;refine Ln (Eb (Et (Cs (Cr (V0 (bC 1 O O jY O) (ak 2 Y O O O nA O O O (Ln (Et (aw ?_)))))))));refine WE.dM (gA O (cU 2 O O jY O)) λw' hw=>?_;exact .inl ⟨az.mk 4 0 C_.1 C_.2 [Zm],(some ⟨Km,0,none⟩,1),Kn,Db,O,by rw [hR,Ab sE we wh,px]; simp only [Option.bind_some]; rw [PH Da,Kl]; simp only [Option.bind_some]; rw [<-dr,Aj]; rfl,kK P0 (bJ hw (by simp) ajS) (bJ hw (by simp) ajO) ((gx.nil F66 f).snoc (aN.refl _) (aN.refl _) ajP),Ko,Wv 3 (Wt 1 hw)⟩
 obtain ⟨P3,ajU⟩:=ajL bd;subst ajU;refine Cs (Cr (V0 (Ym O) ?_));refine Lw [_] _ Y O gv O O _ _ _ [HT] (by simp) (λw hw=>gw gb HT PY Ai [40] w Kk hw) ?_;intro ⟨Zq,Kr,P4⟩ ⟨ajV,ajW,Zr⟩;refine V0 (Ya O) (Ln (Et ?_));refine Cc O (λbh=>?_) (λbh=>?_)
 ·have P5:=ajV bh;have ajX:=gS Ki P5;refine Cr (V0 (Ym O) (V0 (Ym O) (V0 (Yi O O O (by omega)) ?_)))
  refine iL (ι:=((List az)×(Option Addr×Nat))×(Option Addr×Nat)×Tk) (κ:=(Option Addr×Nat)×Tk) [_] _ Y O Zd O O (λi=>.slice i.1.2.1 i.1.1.length i.1.2.2) (λi=>an gb i.2.1 i.2.2) (λF i=>lj (cy f) P4=some (i.1.1,i.2.2)/\Sl (eW (f+1)) 5 F i.1.2.1 i.1.2.2 i.1.1/\Sl a6 3 HT i.2.1.1 i.2.1.2 i.2.2) (λ_=>bF) (λi=>an gb i.1 i.2) (λ_=>lj (cy f) P4=none) ([HT]) (by simp) (λ_ _ h=>h) (λw hw=>(YX gb HT Kr P4 f (d+1) w hE (by omega) ajX Zr hw).mono λe w' h=>by
      rcases h with ⟨x,s,r2,q,h1,h2,h3,h4,h5⟩ | ⟨r2,q,h1,h2,h3⟩
      · exact .inl ⟨((x,s),r2,q),h1,⟨h2,h3,h4⟩,h5⟩
      · exact .inr ⟨(r2,q),h1,h2,h3⟩) ?_ ?_
  ·intro ⟨rp,qp⟩ hp;refine WE.aS (Ep ?_);refine aL λw' hw=>?_;exact .inr ⟨rp,qp,O,by rw [hR,Ab sE we wh,px]; simp only [Option.bind_some]; rw [Za P3 P5,hp]; rfl,(by have h:=hw; have h:=Wt 1 h; exact h)⟩
  intro F79 ⟨⟨ajY,s79⟩,r79,Ks⟩ aj1 ⟨aj2,aj3,aj4⟩;refine V0 (Yf zS O) (ak 1 Y O O O bZ O O O (V0 (Yf CT O) (ak 1 Y O O O uv O O O (Ln (Eb (Et (Cs (Cr (V0 (bC 1 O O jY O) (ak 2 Y O O O nA O O O (Ln (Et (aw ?_)))))))))))));refine WE.dM (gA O (cU 2 O O jY O)) λw' hw=>?_;exact .inl ⟨az.mk 5 0 C_.1 C_.2 ajY,s79,r79,Ks,O,by rw [hR,Ab sE we wh,px]; simp only [Option.bind_some]; rw [Za P3 P5,aj2]; rfl,J_ aj3 (bJ hw (by simp) aj1),aj4,Wv 1 (Wt 1 hw)⟩
 obtain ⟨aj5,aj6⟩:=ajW bh;subst aj6;refine Ck (Eb (Et (Cs (Cr (V0 (bC 1 O O jY O) (ak 2 Y O O O nA O O O (Ln (Et (aw ?_)))))))));refine WE.dM (gA O (cU 2 O O jY O)) λw' hw=>?_;exact .inl ⟨az.mk 3 0 C_.1 C_.2 [],(none,0),Kr,Ai,O,by rw [hR,Ab sE we wh,px]; simp only [Option.bind_some]; rw [ai2 P3 aj5],Sl.nil,Zr,Wt 1 hw⟩
structure ux where
 s1:Option Addr×Nat
 s2:Option Addr×Nat
 s3:Option Addr×Nat
abbrev SX:=aR×ux
def SX.cells (e:SX):List Value:=zr e.1 e.2.s1.1 e.2.s1.2 e.2.s2.1 e.2.s2.2 e.2.s3.1 e.2.s3.2
theorem SX.aX (e:SX):(SX.cells e).length=6:=rfl
def Kt (H:View) (b o:Nat) (e:SX):Prop:=aP H b o (SX.cells e)
structure Ak (f:Nat) (N:View) (x:aR) (p:ux):Prop where
 args:Sl (eW 7) 5 N p.s1.1 p.s1.2 x.args
 body:Sl (iz 7 f) 6 N p.s2.1 p.s2.2 x.body
 other:Sl (iz 7 f) 6 N p.s3.1 p.s3.2 x.other
theorem wi {H N:View} {f c:Nat} {a:Option Addr} {l:List aR} (h:Sl (iz 7 f) 6 H a c l) (hv:aN H N):Sl (iz 7 f) 6 N a c l:=h.imp λb o y hy=>EU hv (Nat.le_refl _) (Nat.le_refl _) b o y hy
theorem Ak.mv {f:Nat} {H N:View} {x:aR} {p:ux} (h:Ak f H x p) (hv:aN H N):Ak f N x p:=⟨J_ h.args hv,wi h.body hv,wi h.other hv⟩
def sF (J:View) (f:Nat) (es:List SX):Prop:=∀e ∈ es,Ak f J e.1 e.2
theorem sF.nil (J:View) (f:Nat):sF J f []:=by intro e h; simp at h
theorem sF.snoc {J J1 J2:View} {f:Nat} {es:List SX} {e:SX} (h:sF J f es) (h1:aN J J2) (h2:aN J1 J2) (he:Ak f J1 e.1 e.2):sF J2 f (es++[e]):=by
 intro x hx
 rcases List.mem_append.1 hx with hx | hx
 · exact (h x hx).mv h1
 · rw [List.mem_singleton] at hx
   subst hx;exact he.mv h2
theorem P6 {H J N:View} {f c:Nat} {a:Option Addr} {es:List SX} (h:Sl Kt 6 H a c es) (hv:aN H N) (hJ:aN J N) (nj:sF J f es):Sl (iz 7 (f+1)) 6 N a c (es.map (·.1)):=by
 refine ⟨by simpa using h.cap,h.max,h.spot,λi x hx=>?_⟩;rw [List.getElem?_map] at hx;obtain ⟨e,he,rfl⟩:=Option.map_eq_some_iff.1 hx;obtain ⟨b,o,h1,h2⟩:=h.aO i e he;have h3:=(nj e (List.mem_of_getElem? he)).mv hJ;exact ⟨b,o,h1,e.2.s1.1,e.2.s1.2,e.2.s2.1,e.2.s2.2,e.2.s3.1,e.2.s3.2,aP.mono hv h2,h3.args,h3.body,h3.other⟩
structure GS where
 es:List SX
 a:Option Addr
 c:Nat
 J:View
 r:Option Addr×Nat
 q:Tk
def Zs (HT:View) (f:Nat):Prop:=∀(gb:Nat) (r:Option Addr×Nat) (l:Tk) (d:Nat) (w:World),f+d=7->bT l->Sl a6 3 HT r.1 r.2 l->Ws w (List.flatMap ao.ids (an gb r l)) (an gb r l) [HT] w->
 Calls Tryz.prog 148 #[.pointer (some ⟨gb,0,none⟩),.int .i64 (d:Int)] w λe w'=>(∃(x:List aR) (s:Option Addr×Nat) (r2:Option Addr×Nat) (q:Tk),e = .returned (.slice s.1 x.length s.2)/\fq f l=some (x,q)/\Sl (iz 7 f) 6 (nv w w') s.1 s.2 x/\Sl a6 3 HT r2.1 r2.2 q/\Ws w (List.flatMap ao.ids (an gb r l)) (an gb r2 q) [HT] w')\/(∃(r2:Option Addr×Nat) (q:Tk),e = .panicked bF/\fq f l=none/\Ws w (List.flatMap ao.ids (an gb r l)) (an gb r2 q) [HT] w')
theorem F4 {l r:Tk} {f:Nat} {x:List aR} (h:bT l) (e:fq f l=some (x,r)):bT r:=vZ h (Fy f l x r h.all e)
theorem aj7 {l r:Tk} {f:Nat} {x:aR} (h:bT l) (e:dU (fq f) l=some (x,r)):bT r:=vZ h (O7 (Fy f) h.all e)
theorem aj8 {l r:Tk} {xs:List az} (h:bT l) (e:lj (cy 6) l=some (xs,r)):bT r:=by
 unfold lj at e
 cases hd:aH [41] l with
 | some q=>
   rw [hd] at e;simp only [Option.some.injEq,Prod.mk.injEq] at e;obtain ⟨_,rfl⟩:=e;exact gS h hd
 | none=>
   rw [hd] at e;exact vZ h (O5 (CL 6) _ _ _ _ h.all e)
theorem F5 {v w:Tx} {l q:Tk} (h:bW [v,w] l=some q):∃q1,aH v l=some q1/\aH w q1=some q:=by rw [YK] at h; exact Option.bind_eq_some_iff.1 h
theorem aj9 {v w:Tx} {l:Tk} (h:bW [v,w] l=none):aH v l=none\/∃q1,aH v l=some q1/\aH w q1=none:=by
 rw [YK] at h
 cases hv:aH v l with
 | none=>exact .inl rfl
 | some q1=>rw [hv] at h; exact .inr ⟨q1,rfl,h⟩
theorem aj' {ps:Tk->Option (aR×Tk)} {n:Nat} {l q:Tk} (h:aH [125] l=some q):oz ps (n+1) l=some ([],q):=by rw [oz,h]
theorem aj_ {ps:Tk->Option (aR×Tk)} {n:Nat} {l q:Tk} {x:aR} (h:aH [125] l=none) (h1:ps l=some (x,q)):oz ps (n+1) l=(oz ps n q).map λp=>(x::p.1,p.2):=by rw [oz,h]; simp only; rw [h1]; rfl
theorem aka {ps:Tk->Option (aR×Tk)} {n:Nat} {l:Tk} (h:aH [125] l=none) (h1:ps l=none):oz ps (n+1) l=none:=by rw [oz,h]; simp only; rw [h1]; rfl
theorem F':Enters Tryz.prog 148:=enters_of Tryz.func148 (by kernel_rfl) rfl
theorem F_:cG Tryz.prog 172=some 1:=by kernel_rfl
theorem Ga:cG Tryz.prog 9=some 1:=by kernel_rfl
theorem akb:Enters Tryz.prog 172:=enters_of Tryz.func172 (by kernel_rfl) rfl
theorem Ku:fk Tryz.prog 172 222 (.agg #[.int .i64 0,st [],st [],.slice none 0 0,.slice none 0 0,.slice none 0 0]) 6 112:=iw (by kernel_rfl)
theorem akc (gb:Nat) (HT:View) (r:Option Addr×Nat) (l:Tk) (f d:Nat) (w:World) (hB:Zs HT f) (x':f+(d+1)=7) (aA:bT l) (hm:Sl a6 3 HT r.1 r.2 l) (hw:Ws w (List.flatMap ao.ids (an gb r l)) (an gb r l) [HT] w) :
   Calls Tryz.prog 172 #[.pointer (some ⟨gb,0,none⟩),.int .i64 (d:Int)] w λe w'=>(∃(x:aR) (p:ux) (r2:Option Addr×Nat) (q:Tk),e = .returned (.agg #[.int .i64 (x).op,st (x).mod,st (x).nm,.slice (p).s1.1 (x).args.length (p).s1.2,.slice (p).s2.1 (x).body.length (p).s2.2,.slice (p).s3.1 (x).other.length (p).s3.2])/\dU (fq f) l=some (x,q)/\Ak f (nv w w') x p/\Sl a6 3 HT r2.1 r2.2 q/\Ws w (List.flatMap ao.ids (an gb r l)) (an gb r2 q) [HT] w')\/(∃(r2:Option Addr×Nat) (q:Tk),e = .panicked bF/\dU (fq f) l=none/\Ws w (List.flatMap ao.ids (an gb r l)) (an gb r2 q) [HT] w'):=by
 refine enter Tryz.func172 O 104 O O ?_;refine CE hw (Cs (Cr ?_));refine Al Y O vV λb4=>?_;refine bI 0 (.cells (zr (aR.mk 0 [] [] [] [] []) none 0 none 0 none 0).toArray 222 (0,0)) O O (Ln (Et (Cs (Cr ?_))));refine Al Y O vV λb5=>?_;refine bI 0 (.cells (zr (aR.mk 0 [] [] [] [] []) none 0 none 0 none 0).toArray 222 (0,0)) O O (Ln (Et (Cs (Cb (Cs (Cr (V0 (Ym O) (Lf 2 O ?_))))))));refine Lw [_] _ Y O gv O O _ _ _ [HT] (by simp) (λw hw=>gw gb HT r l [105,102] w hm hw) ?_;intro ⟨P7,Dc,nE⟩ ⟨Kv,Ky,Dd⟩;refine V0 (Ya O) (Ln (Et ?_));refine Cc O (λad=>?_) (λad=>?_)
 ·have qJ:=Kv ad;have Am:=gS aA qJ;refine Cs (Cr (V0 (Ym O) ?_))
  refine iL (ι:=(az×(Option Addr×Nat))×(Option Addr×Nat)×Tk) (κ:=(Option Addr×Nat)×Tk) [_] _ Y O qG O O (λi=>.agg #[.int .i64 (i.1.1).op,.int .i64 (i.1.1).n,st (i.1.1).mod,st (i.1.1).nm,.slice i.1.2.1 (i.1.1).args.length i.1.2.2]) (λi=>an gb i.2.1 i.2.2) (λF i=>cy 6 nE=some (i.1.1,i.2.2)/\Sl (eW 6) 5 F i.1.2.1 i.1.2.2 i.1.1.args/\Sl a6 3 HT i.2.1.1 i.2.1.2 i.2.2) (λ_=>bF) (λi=>an gb i.1 i.2) (λ_=>cy 6 nE=none) ([HT]) (by simp) (λ_ _ h=>h) (λw hw=>((λgb r l d w h1 h2 h3 h4=>yh HT 6 gb r l d w h1 h2 h3 h4) gb Dc nE 1 w O Am Dd hw).mono λe w' h=>by
      rcases h with ⟨x,s,r2,q,h1,h2,h3,h4,h5⟩ | ⟨r2,q,h1,h2,h3⟩
      · exact .inl ⟨((x,s),r2,q),h1,⟨h2,h3,h4⟩,h5⟩
      · exact .inr ⟨(r2,q),h1,h2,h3⟩) ?_ ?_
  ·intro ⟨rp,qp⟩ hp;refine Ep (WE.aS (Ep ?_));refine aL λw' hw=>?_;exact .inr ⟨rp,qp,O,by simp only [dU,eJ,eZ,e7,e8,eP,eQ,qJ,hp,Option.bind_some,Option.map_some,Option.bind_none,Option.map_none],(by have h:=hw; have h:=Wt 1 h; exact h)⟩
  intro Zt ⟨⟨P8,Zu⟩,yj,iF⟩ Zv ⟨lv,Zw,wg⟩;have uw:bT iF:=qA Am lv;have avM:iF.length+1<=List.length (nE):=qB Am lv;refine Lb Y O kL O O O O λZx=>?_;refine LN (rd:=kJ) (f:=XE.cells) (m:=1) 0 [(P8,Zu.1,Zu.2)] O O (λk hk=>by simp [an,ab] at hk; subst hk; simp [dv,an,ab,dF]) XE.aX (λ_ _ _ _ h=>h) (show 1<=1 by decide) (by decide) λH48 Zy Zz=>?_;refine V0 (Yf pr O) (ak 1 Y O O O bZ O O O (V0 (Yf qz O) (ak 1 Y O O O uv O O O (Ln (Et (Cs (Cr (V0 (Ym O) (V0 (Ym O) (V0 (Yi O O O (by omega)) ?_))))))))))
  refine iL (ι:=((List aR)×(Option Addr×Nat))×(Option Addr×Nat)×Tk) (κ:=(Option Addr×Nat)×Tk) [_] _ Y O F' O O (λi=>.slice i.1.2.1 i.1.1.length i.1.2.2) (λi=>an gb i.2.1 i.2.2) (λF i=>fq f iF=some (i.1.1,i.2.2)/\Sl (iz 7 f) 6 F i.1.2.1 i.1.2.2 i.1.1/\Sl a6 3 HT i.2.1.1 i.2.1.2 i.2.2) (λ_=>bF) (λi=>an gb i.1 i.2) (λ_=>fq f iF=none) ([HT]) (by simp) (λ_ _ h=>h) (λw hw=>(hB gb yj iF (d+1) w (by omega) uw wg hw).mono λe w' h=>by
      rcases h with ⟨x,s,r2,q,h1,h2,h3,h4,h5⟩ | ⟨r2,q,h1,h2,h3⟩
      · exact .inl ⟨((x,s),r2,q),h1,⟨h2,h3,h4⟩,h5⟩
      · exact .inr ⟨(r2,q),h1,h2,h3⟩) ?_ ?_
  ·intro ⟨rp,qp⟩ hp;refine Ep (WE.aS (Ep ?_));refine aL λw' hw=>?_;exact .inr ⟨rp,qp,O,by simp only [dU,eJ,eZ,e7,e8,eP,eQ,qJ,lv,hp,Option.bind_some,Option.map_some,Option.bind_none,Option.map_none],(by have h:=hw; have h:=Wt 1 h; have h:=Ws.bB h (bc:=[HT]) (by simp); exact h)⟩
  intro F54 ⟨⟨ZA,ZB⟩,PV,Ai⟩ ZC ⟨px,ZD,PW⟩;have Ki:bT Ai:=F4 uw px;refine V0 (Yf CX O) (ak 1 Y O O O F_ O O O (Ln (Et (Cs (Cs (Cr (V0 (Ym O) ?_)))))));refine Lw [_] _ Y O gv O O _ _ _ [HT] (by simp) (λw hw=>gw gb HT PV Ai [101,108,115,101] w PW hw) ?_;intro ⟨P9,Kz,qK⟩ ⟨KA,KB,KC⟩;refine Ln (Et ?_);refine Cc O (λaq=>?_) (λaq=>?_)
  ·have KG:=KA aq;have KH:=gS Ki KG;refine Cs (Cr (V0 (Ym O) (V0 (Ym O) (V0 (Yi O O O (by omega)) ?_))))
   refine iL (ι:=((List aR)×(Option Addr×Nat))×(Option Addr×Nat)×Tk) (κ:=(Option Addr×Nat)×Tk) [_] _ Y O F' O O (λi=>.slice i.1.2.1 i.1.1.length i.1.2.2) (λi=>an gb i.2.1 i.2.2) (λF i=>fq f qK=some (i.1.1,i.2.2)/\Sl (iz 7 f) 6 F i.1.2.1 i.1.2.2 i.1.1/\Sl a6 3 HT i.2.1.1 i.2.1.2 i.2.2) (λ_=>bF) (λi=>an gb i.1 i.2) (λ_=>fq f qK=none) ([HT]) (by simp) (λ_ _ h=>h) (λw hw=>(hB gb Kz qK (d+1) w (by omega) KH KC hw).mono λe w' h=>by
       rcases h with ⟨x,s,r2,q,h1,h2,h3,h4,h5⟩ | ⟨r2,q,h1,h2,h3⟩
       · exact .inl ⟨((x,s),r2,q),h1,⟨h2,h3,h4⟩,h5⟩
       · exact .inr ⟨(r2,q),h1,h2,h3⟩) ?_ ?_
   ·intro ⟨rp,qp⟩ hp;refine Ep (Ep (WE.aS (Ep ?_)));refine aL λw' hw=>?_;exact .inr ⟨rp,qp,O,by simp only [dU,eJ,eZ,e7,e8,eP,eQ,qJ,lv,px,KG,hp,Option.bind_some,Option.map_some,Option.bind_none,Option.map_none],(by have h:=hw; have h:=Wt 1 h; have h:=Ws.bB h (bc:=[HT]) (by simp); exact h)⟩
   intro F61 ⟨⟨P',s61⟩,ZE,P_⟩ ake ⟨Qa,akf,akg⟩;have avQ:bT P_:=F4 KH Qa;refine V0 (Yf x2 O) (ak 1 Y O O O F_ O O O (Ln (Et (Cs (Cr (V0 (Yf x2 O) (V0 (Yd 1 O O O nB) (V0 (Yn sx O) (V0 (aF O O) (Ln (Et ?_)))))))))));refine Cc O (λay=>?_) (λay=>?_)
   ·have hz:P'.length=0:=by simpa using ay
    refine Cr (V0 (Yb v8 v7 O O) (V0 (rJ v_ O) ?_));refine WL.panic Y O ?_;refine Ep (WE.aS (Ep ?_));refine aL λw' hw=>?_;exact .inr ⟨ZE,P_,O,by simp only [dU,eJ,eZ,e7,e8,eP,eQ,qJ,lv,px,KG,Qa,Option.bind_some,Option.map_some,Option.bind_none,Option.map_none,if_pos hz],(by have h:=hw; have h:=Wt 1 h; have h:=Ws.bB h (bc:=[HT]) (by simp); exact h)⟩
   have hz:¬P'.length=0:=by simpa using ay
   refine Ck (Et (Cs (Cr (V0 (bC 1 O O jF O) (ak 2 Y O O O sy O O O (Ln (Et (aw (bt (Er ?_))))))))));refine WE.dM (gA O (cU 2 O O jF O)) λw' hw=>?_;exact .inl ⟨aR.mk 4 [] [] [P8] ZA P',⟨(some ⟨Zx,0,none⟩,1),ZB,s61⟩,ZE,P_,O,by simp only [dU,eJ,eZ,e7,e8,eP,eQ,qJ,lv,px,KG,Qa,Option.bind_some,Option.map_some,Option.bind_none,Option.map_none,if_neg hz],⟨(kK Zz (bJ hw (by simp) Zy) (bJ hw (by simp) Zv) ((gx.nil Zt 6).snoc (aN.refl _) (aN.refl _) Zw)),(wi ZD (bJ hw (by simp) ZC)),(wi akf (bJ hw (by simp) ake))⟩,akg,Wv 4 (Wt 1 hw)⟩
  obtain ⟨akh,aki⟩:=KB aq;subst aki;refine Ck (Et (Cs (Cr (V0 (bC 1 O O jF O) (ak 2 Y O O O sy O O O (Ln (Et (aw (bt (Er ?_))))))))));refine WE.dM (gA O (cU 2 O O jF O)) λw' hw=>?_;exact .inl ⟨aR.mk 4 [] [] [P8] ZA [],⟨(some ⟨Zx,0,none⟩,1),ZB,((none,0):Option Addr×Nat)⟩,Kz,Ai,O,by simp only [dU,eJ,eZ,e7,e8,eP,eQ,qJ,lv,px,akh,Option.bind_some,Option.map_some,Option.bind_none,Option.map_none],⟨(kK Zz (bJ hw (by simp) Zy) (bJ hw (by simp) Zv) ((gx.nil Zt 6).snoc (aN.refl _) (aN.refl _) Zw)),(wi ZD (bJ hw (by simp) ZC)),Sl.nil⟩,KC,Wv 3 (Wt 1 hw)⟩
 obtain ⟨iq,akj⟩:=Ky ad;subst akj;refine Cs (Cr (V0 (Ym O) ?_));refine Lw [_] _ Y O gv O O _ _ _ [HT] (by simp) (λw hw=>gw gb HT Dc l [119,104,105,108,101] w Dd hw) ?_;intro ⟨b72,Kn,Db⟩ ⟨akk,akl,Ko⟩;refine V0 (Ya O) (Ln (Et ?_));refine Cc O (λaJ=>?_) (λaJ=>?_)
 ·have Aj:=akk aJ;have Kq:=gS aA Aj;refine Cs (Cr (V0 (Ym O) ?_))
  refine iL (ι:=(az×(Option Addr×Nat))×(Option Addr×Nat)×Tk) (κ:=(Option Addr×Nat)×Tk) [_] _ Y O qG O O (λi=>.agg #[.int .i64 (i.1.1).op,.int .i64 (i.1.1).n,st (i.1.1).mod,st (i.1.1).nm,.slice i.1.2.1 (i.1.1).args.length i.1.2.2]) (λi=>an gb i.2.1 i.2.2) (λF i=>cy 6 Db=some (i.1.1,i.2.2)/\Sl (eW 6) 5 F i.1.2.1 i.1.2.2 i.1.1.args/\Sl a6 3 HT i.2.1.1 i.2.1.2 i.2.2) (λ_=>bF) (λi=>an gb i.1 i.2) (λ_=>cy 6 Db=none) ([HT]) (by simp) (λ_ _ h=>h) (λw hw=>((λgb r l d w h1 h2 h3 h4=>yh HT 6 gb r l d w h1 h2 h3 h4) gb Kn Db 1 w O Kq Ko hw).mono λe w' h=>by
      rcases h with ⟨x,s,r2,q,h1,h2,h3,h4,h5⟩ | ⟨r2,q,h1,h2,h3⟩
      · exact .inl ⟨((x,s),r2,q),h1,⟨h2,h3,h4⟩,h5⟩
      · exact .inr ⟨(r2,q),h1,h2,h3⟩) ?_ ?_
  ·intro ⟨rp,qp⟩ hp;refine Ep (WE.aS (Ep ?_));refine aL λw' hw=>?_;exact .inr ⟨rp,qp,O,by simp only [dU,eJ,eZ,e7,e8,eP,eQ,iq,Aj,hp,Option.bind_some,Option.map_some,Option.bind_none,Option.map_none],(by have h:=hw; have h:=Wt 1 h; exact h)⟩
  intro F74 ⟨⟨ZF,ZG⟩,r74,An⟩ ako ⟨KI,akp,akq⟩;have ZH:bT An:=qA Kq KI;have avS:An.length+1<=List.length (Db):=qB Kq KI;refine Lb Y O kL O O O O λZq=>?_;refine LN (rd:=kJ) (f:=XE.cells) (m:=1) 0 [(ZF,ZG.1,ZG.2)] O O (λk hk=>by simp [an,ab] at hk; subst hk; simp [dv,an,ab,dF]) XE.aX (λ_ _ _ _ h=>h) (show 1<=1 by decide) (by decide) λH75 akr aks=>?_;refine V0 (Yf pr O) (ak 1 Y O O O bZ O O O (V0 (Yf qz O) (ak 1 Y O O O uv O O O (Ln (Et (Cs (Cr (V0 (Ym O) (V0 (Ym O) (V0 (Yi O O O (by omega)) ?_))))))))))
  refine iL (ι:=((List aR)×(Option Addr×Nat))×(Option Addr×Nat)×Tk) (κ:=(Option Addr×Nat)×Tk) [_] _ Y O F' O O (λi=>.slice i.1.2.1 i.1.1.length i.1.2.2) (λi=>an gb i.2.1 i.2.2) (λF i=>fq f An=some (i.1.1,i.2.2)/\Sl (iz 7 f) 6 F i.1.2.1 i.1.2.2 i.1.1/\Sl a6 3 HT i.2.1.1 i.2.1.2 i.2.2) (λ_=>bF) (λi=>an gb i.1 i.2) (λ_=>fq f An=none) ([HT]) (by simp) (λ_ _ h=>h) (λw hw=>(hB gb r74 An (d+1) w (by omega) ZH akq hw).mono λe w' h=>by
      rcases h with ⟨x,s,r2,q,h1,h2,h3,h4,h5⟩ | ⟨r2,q,h1,h2,h3⟩
      · exact .inl ⟨((x,s),r2,q),h1,⟨h2,h3,h4⟩,h5⟩
      · exact .inr ⟨(r2,q),h1,h2,h3⟩) ?_ ?_
  ·intro ⟨rp,qp⟩ hp;refine Ep (WE.aS (Ep ?_));refine aL λw' hw=>?_;exact .inr ⟨rp,qp,O,by simp only [dU,eJ,eZ,e7,e8,eP,eQ,iq,Aj,KI,hp,Option.bind_some,Option.map_some,Option.bind_none,Option.map_none],(by have h:=hw; have h:=Wt 1 h; have h:=Ws.bB h (bc:=[HT]) (by simp); exact h)⟩
  intro F81 ⟨⟨akt,s81⟩,r81,py⟩ akw ⟨ZI,akx,aky⟩;have avV:bT py:=F4 ZH ZI;refine V0 (Yf CX O) (ak 1 Y O O O F_ O O O (Ln (Et (Cs (Cr (V0 (bC 1 O O jF O) (ak 2 Y O O O sy O O O (Ln (Et (aw (bt (Er ?_))))))))))));refine WE.dM (gA O (cU 2 O O jF O)) λw' hw=>?_;exact .inl ⟨aR.mk 5 [] [] [ZF] akt [],⟨(some ⟨Zq,0,none⟩,1),s81,((none,0):Option Addr×Nat)⟩,r81,py,O,by simp only [dU,eJ,eZ,e7,e8,eP,eQ,iq,Aj,KI,ZI,Option.bind_some,Option.map_some,Option.bind_none,Option.map_none],⟨(kK aks (bJ hw (by simp) akr) (bJ hw (by simp) ako) ((gx.nil F74 6).snoc (aN.refl _) (aN.refl _) akp)),(wi akx (bJ hw (by simp) akw)),Sl.nil⟩,aky,Wv 3 (Wt 1 hw)⟩
 obtain ⟨jm,akz⟩:=akl aJ;subst akz;refine Cs (Cr (V0 (Ym O) ?_));refine Lw [_] _ Y O gv O O _ _ _ [HT] (by simp) (λw hw=>gw gb HT Kn l [114,101,116,117,114,110] w Ko hw) ?_;intro ⟨b86,ZJ,KJ⟩ ⟨akA,akB,ZK⟩;refine V0 (Ya O) (Ln (Et ?_));refine Cc O (λaU=>?_) (λaU=>?_)
 ·have KK:=akA aU;have Qb:=gS aA KK;refine Cr (V0 (Ym O) ?_)
  refine iL (ι:=(az×(Option Addr×Nat))×(Option Addr×Nat)×Tk) (κ:=(Option Addr×Nat)×Tk) [_] _ Y O qG O O (λi=>.agg #[.int .i64 (i.1.1).op,.int .i64 (i.1.1).n,st (i.1.1).mod,st (i.1.1).nm,.slice i.1.2.1 (i.1.1).args.length i.1.2.2]) (λi=>an gb i.2.1 i.2.2) (λF i=>cy 6 KJ=some (i.1.1,i.2.2)/\Sl (eW 6) 5 F i.1.2.1 i.1.2.2 i.1.1.args/\Sl a6 3 HT i.2.1.1 i.2.1.2 i.2.2) (λ_=>bF) (λi=>an gb i.1 i.2) (λ_=>cy 6 KJ=none) ([HT]) (by simp) (λ_ _ h=>h) (λw hw=>((λgb r l d w h1 h2 h3 h4=>yh HT 6 gb r l d w h1 h2 h3 h4) gb ZJ KJ 1 w O Qb ZK hw).mono λe w' h=>by
      rcases h with ⟨x,s,r2,q,h1,h2,h3,h4,h5⟩ | ⟨r2,q,h1,h2,h3⟩
      · exact .inl ⟨((x,s),r2,q),h1,⟨h2,h3,h4⟩,h5⟩
      · exact .inr ⟨(r2,q),h1,h2,h3⟩) ?_ ?_
  ·intro ⟨rp,qp⟩ hp;refine WE.aS (Ep ?_);refine aL λw' hw=>?_;exact .inr ⟨rp,qp,O,by simp only [dU,eJ,eZ,e7,e8,eP,eQ,iq,jm,KK,hp,Option.bind_some,Option.map_some,Option.bind_none,Option.map_none],(by have h:=hw; have h:=Wt 1 h; exact h)⟩
  intro F88 ⟨⟨ZL,ZM⟩,r88,Gb⟩ akE ⟨KM,akF,akG⟩;have akH:bT Gb:=qA Qb KM;have avX:Gb.length+1<=List.length (KJ):=qB Qb KM;refine Lb Y O kL O O O O λb89=>?_;refine LN (rd:=kJ) (f:=XE.cells) (m:=1) 0 [(ZL,ZM.1,ZM.2)] O O (λk hk=>by simp [an,ab] at hk; subst hk; simp [dv,an,ab,dF]) XE.aX (λ_ _ _ _ h=>h) (show 1<=1 by decide) (by decide) λH89 akJ akK=>?_;refine V0 (Yf pr O) (ak 1 Y O O O bZ O O O (V0 (Yf qz O) (ak 1 Y O O O uv O O O (Ln (Eb (Et (Cs (Cr (V0 (Ym O) ?_)))))))));refine Lb Y O dm O O O O λqL=>?_;refine gg (T:=9) (m:=1) 0 [[59]] O O (show 1<=1 by decide) (by decide) λj8 pz=>?_
  refine bg (ι:=(Option Addr×Nat)×Tk) (κ:=(Option Addr×Nat)×Tk) [_] _ Y O gV O O (λ_=>.tuple #[]) (λi=>an gb i.1 i.2) (λi=>bW [[59]] Gb=some i.2/\Sl a6 3 HT i.1.1 i.1.2 i.2) (λ_=>bF) (λi=>an gb i.1 i.2) (λ_=>bW [[59]] Gb=none) ([HT,j8]) (by simp) (λw hw=>(gU gb HT r88 Gb j8 _ _ [[59]] w pz akG hw).mono λe w' h=>by
      rcases h with ⟨r2,q,h1,h2,h3,h4⟩ | ⟨r2,q,h1,h2,h3⟩
      · exact .inl ⟨(r2,q),h1,⟨h2,h3⟩,h4⟩
      · exact .inr ⟨(r2,q),h1,h2,h3⟩) ?_ ?_
  ·intro ⟨rp,qp⟩ hp;rw [dr] at hp;refine Ep ?_;refine aL λw' hw=>?_;exact .inr ⟨rp,qp,O,by simp only [dU,eJ,eZ,e7,e8,eP,eQ,iq,jm,KK,KM,hp,Option.bind_some,Option.map_some,Option.bind_none,Option.map_none],(by have h:=hw; have h:=Wt 1 h; have h:=Ws.bB h (bc:=[HT]) (by simp); exact h)⟩
  intro ⟨sG,pA⟩ ⟨iR,sH⟩;have Gc:=gT akH iR;rw [dr] at iR;refine Ln (Et (Cs (Cr (V0 (bC 1 O O jF O) (ak 2 Y O O O sy O O O (Ln (Et (aw ?_))))))));refine WE.dM (gA O (cU 2 O O jF O)) λw' hw=>?_;exact .inl ⟨aR.mk 6 [] [] [ZL] [] [],⟨(some ⟨b89,0,none⟩,1),((none,0):Option Addr×Nat),((none,0):Option Addr×Nat)⟩,sG,pA,O,by simp only [dU,eJ,eZ,e7,e8,eP,eQ,iq,jm,KK,KM,iR,Option.bind_some,Option.map_some,Option.bind_none,Option.map_none],⟨(kK akK (bJ hw (by simp) akJ) (bJ hw (by simp) akE) ((gx.nil F88 6).snoc (aN.refl _) (aN.refl _) akF)),Sl.nil,Sl.nil⟩,sH,Wv 3 (Wt 1 hw)⟩
 obtain ⟨kM,akL⟩:=akB aU;subst akL;refine Cs (Cr (V0 (Ym O) ?_));refine Lw [_] _ Y O gv O O _ _ _ [HT] (by simp) (λw hw=>gw gb HT ZJ l [111,117,116] w ZK hw) ?_;intro ⟨b94,ZN,KN⟩ ⟨akM,akN,ZO⟩;refine V0 (Ya O) (Ln (Et ?_));refine Cc O (λbd=>?_) (λbd=>?_)
 ·have KO:=akM bd;have Qc:=gS aA KO;refine Cr (V0 (Ym O) ?_)
  refine iL (ι:=(az×(Option Addr×Nat))×(Option Addr×Nat)×Tk) (κ:=(Option Addr×Nat)×Tk) [_] _ Y O qG O O (λi=>.agg #[.int .i64 (i.1.1).op,.int .i64 (i.1.1).n,st (i.1.1).mod,st (i.1.1).nm,.slice i.1.2.1 (i.1.1).args.length i.1.2.2]) (λi=>an gb i.2.1 i.2.2) (λF i=>cy 6 KN=some (i.1.1,i.2.2)/\Sl (eW 6) 5 F i.1.2.1 i.1.2.2 i.1.1.args/\Sl a6 3 HT i.2.1.1 i.2.1.2 i.2.2) (λ_=>bF) (λi=>an gb i.1 i.2) (λ_=>cy 6 KN=none) ([HT]) (by simp) (λ_ _ h=>h) (λw hw=>((λgb r l d w h1 h2 h3 h4=>yh HT 6 gb r l d w h1 h2 h3 h4) gb ZN KN 1 w O Qc ZO hw).mono λe w' h=>by
      rcases h with ⟨x,s,r2,q,h1,h2,h3,h4,h5⟩ | ⟨r2,q,h1,h2,h3⟩
      · exact .inl ⟨((x,s),r2,q),h1,⟨h2,h3,h4⟩,h5⟩
      · exact .inr ⟨(r2,q),h1,h2,h3⟩) ?_ ?_
  ·intro ⟨rp,qp⟩ hp;refine WE.aS (Ep ?_);refine aL λw' hw=>?_;exact .inr ⟨rp,qp,O,by simp only [dU,eJ,eZ,e7,e8,eP,eQ,iq,jm,kM,KO,hp,Option.bind_some,Option.map_some,Option.bind_none,Option.map_none],(by have h:=hw; have h:=Wt 1 h; exact h)⟩
  intro F96 ⟨⟨ZP,ZQ⟩,r96,Gd⟩ akQ ⟨KQ,akR,akS⟩;have akT:bT Gd:=qA Qc KQ;have av0:Gd.length+1<=List.length (KN):=qB Qc KQ;refine Lb Y O kL O O O O λb97=>?_;refine LN (rd:=kJ) (f:=XE.cells) (m:=1) 0 [(ZP,ZQ.1,ZQ.2)] O O (λk hk=>by simp [an,ab] at hk; subst hk; simp [dv,an,ab,dF]) XE.aX (λ_ _ _ _ h=>h) (show 1<=1 by decide) (by decide) λH97 akV akW=>?_;refine V0 (Yf pr O) (ak 1 Y O O O bZ O O O (V0 (Yf qz O) (ak 1 Y O O O uv O O O (Ln (Eb (Et (Cs (Cr (V0 (Ym O) ?_)))))))));refine Lb Y O dm O O O O λqL=>?_;refine gg (T:=9) (m:=1) 0 [[59]] O O (show 1<=1 by decide) (by decide) λj8 pz=>?_
  refine bg (ι:=(Option Addr×Nat)×Tk) (κ:=(Option Addr×Nat)×Tk) [_] _ Y O gV O O (λ_=>.tuple #[]) (λi=>an gb i.1 i.2) (λi=>bW [[59]] Gd=some i.2/\Sl a6 3 HT i.1.1 i.1.2 i.2) (λ_=>bF) (λi=>an gb i.1 i.2) (λ_=>bW [[59]] Gd=none) ([HT,j8]) (by simp) (λw hw=>(gU gb HT r96 Gd j8 _ _ [[59]] w pz akS hw).mono λe w' h=>by
      rcases h with ⟨r2,q,h1,h2,h3,h4⟩ | ⟨r2,q,h1,h2,h3⟩
      · exact .inl ⟨(r2,q),h1,⟨h2,h3⟩,h4⟩
      · exact .inr ⟨(r2,q),h1,h2,h3⟩) ?_ ?_
  ·intro ⟨rp,qp⟩ hp;rw [dr] at hp;refine Ep ?_;refine aL λw' hw=>?_;exact .inr ⟨rp,qp,O,by simp only [dU,eJ,eZ,e7,e8,eP,eQ,iq,jm,kM,KO,KQ,hp,Option.bind_some,Option.map_some,Option.bind_none,Option.map_none],(by have h:=hw; have h:=Wt 1 h; have h:=Ws.bB h (bc:=[HT]) (by simp); exact h)⟩
  intro ⟨sG,pA⟩ ⟨iR,sH⟩;have Gc:=gT akT iR;rw [dr] at iR;refine Ln (Et (Cs (Cr (V0 (bC 1 O O jF O) (ak 2 Y O O O sy O O O (Ln (Et (aw ?_))))))));refine WE.dM (gA O (cU 2 O O jF O)) λw' hw=>?_;exact .inl ⟨aR.mk 7 [] [] [ZP] [] [],⟨(some ⟨b97,0,none⟩,1),((none,0):Option Addr×Nat),((none,0):Option Addr×Nat)⟩,sG,pA,O,by simp only [dU,eJ,eZ,e7,e8,eP,eQ,iq,jm,kM,KO,KQ,iR,Option.bind_some,Option.map_some,Option.bind_none,Option.map_none],⟨(kK akW (bJ hw (by simp) akV) (bJ hw (by simp) akQ) ((gx.nil F96 6).snoc (aN.refl _) (aN.refl _) akR)),Sl.nil,Sl.nil⟩,sH,Wv 3 (Wt 1 hw)⟩
 obtain ⟨mE,akX⟩:=akN bd;subst akX;refine Cs (Cr (V0 (Ym O) ?_))
 refine bg (ι:=(Tx×Tx)×(Option Addr×Nat)×Tk) (κ:=(Option Addr×Nat)×Tk) [_] _ Y O Zc O O (λi=>.tuple #[st i.1.1,st i.1.2]) (λi=>an gb i.2.1 i.2.2) (λi=>lh l=some (i.1,i.2.2)/\Sl a6 3 HT i.2.1.1 i.2.1.2 i.2.2) (λ_=>bF) (λi=>an gb i.1 i.2) (λ_=>lh l=none) ([HT]) (by simp) (λw hw=>(YT gb HT ZN l w aA ZO hw).mono λe w' h=>by
     rcases h with ⟨t,r2,q,h1,h2,h3,h4⟩ | ⟨r2,q,h1,h2,h3⟩
     · exact .inl ⟨(t,r2,q),h1,⟨h2,h3⟩,h4⟩
     · exact .inr ⟨(r2,q),h1,h2,h3⟩) ?_ ?_
 ·intro ⟨rp,qp⟩ hp;refine Ep (WE.aS (Ep ?_));refine aL λw' hw=>?_;exact .inr ⟨rp,qp,O,by simp only [dU,eJ,eZ,e7,e8,eP,eQ,iq,jm,kM,mE,hp,Option.bind_some,Option.map_some,Option.bind_none,Option.map_none],(by have h:=hw; have h:=Wt 1 h; exact h)⟩
 intro ⟨p9,r9,q9⟩ ⟨fQ,Qd⟩;have Df:=YM aA fQ;refine V0 (Ym O) (V0 (Yx O O) (V0 (Yx O O) (V0 (Yf FF O) (ak 1 Y O O O Ga O O O (V0 (Yf FG O) (ak 1 Y O O O Ga O O O (Ln (Et (Cb (Cs (Cr ?_)))))))))));refine V0 (Ym O) ?_;refine Lw [_] _ Y O gv O O _ _ _ [HT] (by simp) (λw hw=>gw gb HT r9 q9 [40] w Qd hw) ?_;intro ⟨FZ,uy,Qe⟩ ⟨akY,akZ,ZR⟩;refine V0 (Ya O) (Ln (Et ?_));refine Cc O (λbh=>?_) (λbh=>?_)
 ·have KR:=akY bh;have ZS:=gS Df KR;refine Cr (V0 (Ym O) ?_)
  refine iL (ι:=((List az)×(Option Addr×Nat))×(Option Addr×Nat)×Tk) (κ:=(Option Addr×Nat)×Tk) [_] _ Y O Zd O O (λi=>.slice i.1.2.1 i.1.1.length i.1.2.2) (λi=>an gb i.2.1 i.2.2) (λF i=>lj (cy 6) Qe=some (i.1.1,i.2.2)/\Sl (eW (6+1)) 5 F i.1.2.1 i.1.2.2 i.1.1/\Sl a6 3 HT i.2.1.1 i.2.1.2 i.2.2) (λ_=>bF) (λi=>an gb i.1 i.2) (λ_=>lj (cy 6) Qe=none) ([HT]) (by simp) (λ_ _ h=>h) (λw hw=>(YX gb HT uy Qe 6 (1) w (λgb r l d w h1 h2 h3 h4=>yh HT 6 gb r l d w h1 h2 h3 h4) (by omega) ZS ZR hw).mono λe w' h=>by
      rcases h with ⟨x,s,r2,q,h1,h2,h3,h4,h5⟩ | ⟨r2,q,h1,h2,h3⟩
      · exact .inl ⟨((x,s),r2,q),h1,⟨h2,h3,h4⟩,h5⟩
      · exact .inr ⟨(r2,q),h1,h2,h3⟩) ?_ ?_
  ·intro ⟨rp,qp⟩ hp;refine WE.aS (WE.aS (Ep ?_));refine aL λw' hw=>?_;exact .inr ⟨rp,qp,O,by simp only [dU,eJ,eZ,e7,e8,eP,eQ,iq,jm,kM,mE,fQ,KR,hp,Option.bind_some,Option.map_some,Option.bind_none,Option.map_none],(by have h:=hw; have h:=Wt 1 h; exact h)⟩
  intro F26 ⟨⟨ak0,wj⟩,Ge,j9⟩ ak1 ⟨nF,ak2,Gf⟩;have Gg:bT j9:=aj8 ZS nF;refine V0 (Yf pr O) (ak 1 Y O O O bZ O O O (V0 (Yf qz O) (ak 1 Y O O O uv O O O (Ln (Eb (Eb (Et (Cs (Cr (V0 (Ym O) ?_))))))))));refine Lb Y O dm O O O O λqL=>?_;refine gg (T:=9) (m:=1) 0 [[59]] O O (show 1<=1 by decide) (by decide) λj8 pz=>?_
  refine bg (ι:=(Option Addr×Nat)×Tk) (κ:=(Option Addr×Nat)×Tk) [_] _ Y O gV O O (λ_=>.tuple #[]) (λi=>an gb i.1 i.2) (λi=>bW [[59]] j9=some i.2/\Sl a6 3 HT i.1.1 i.1.2 i.2) (λ_=>bF) (λi=>an gb i.1 i.2) (λ_=>bW [[59]] j9=none) ([HT,j8]) (by simp) (λw hw=>(gU gb HT Ge j9 j8 _ _ [[59]] w pz Gf hw).mono λe w' h=>by
      rcases h with ⟨r2,q,h1,h2,h3,h4⟩ | ⟨r2,q,h1,h2,h3⟩
      · exact .inl ⟨(r2,q),h1,⟨h2,h3⟩,h4⟩
      · exact .inr ⟨(r2,q),h1,h2,h3⟩) ?_ ?_
  ·intro ⟨rp,qp⟩ hp;rw [dr] at hp;refine Ep ?_;refine aL λw' hw=>?_;exact .inr ⟨rp,qp,O,by simp only [dU,eJ,eZ,e7,e8,eP,eQ,iq,jm,kM,mE,fQ,KR,nF,hp,Option.bind_some,Option.map_some,Option.bind_none,Option.map_none],(by have h:=hw; have h:=Wt 1 h; have h:=Ws.bB h (bc:=[HT]) (by simp); exact h)⟩
  intro ⟨sG,pA⟩ ⟨iR,sH⟩;have Gc:=gT Gg iR;rw [dr] at iR;refine Ln (Et (Cs (Cr (V0 (bC 1 O O jF O) (ak 2 Y O O O sy O O O (Ln (Et (aw ?_))))))));refine WE.dM (gA O (cU 2 O O jF O)) λw' hw=>?_;exact .inl ⟨aR.mk 3 p9.1 p9.2 ak0 [] [],⟨wj,((none,0):Option Addr×Nat),((none,0):Option Addr×Nat)⟩,sG,pA,O,by simp only [dU,eJ,eZ,e7,e8,eP,eQ,iq,jm,kM,mE,fQ,KR,nF,iR,Option.bind_some,Option.map_some,Option.bind_none,Option.map_none],⟨(J_ ak2 (bJ hw (by simp) ak1)),Sl.nil,Sl.nil⟩,sH,Wv 2 (Wt 1 hw)⟩
 obtain ⟨qM,ak3⟩:=akZ bh;subst ak3;refine Cs (Cr (V0 (Ym O) ?_));refine Lw [_] _ Y O gv O O _ _ _ [HT] (by simp) (λw hw=>gw gb HT uy q9 [91] w ZR hw) ?_;intro ⟨KS,Gh,oH⟩ ⟨Qf,Qg,Gj⟩;refine V0 (Ya O) (Ln (Et ?_));refine Cc O (λbH=>?_) (λbH=>?_)
 ·have lV:=Qf bH;have yk:=gS Df lV;refine Cs (Cr (V0 (Ym O) ?_))
  refine iL (ι:=(az×(Option Addr×Nat))×(Option Addr×Nat)×Tk) (κ:=(Option Addr×Nat)×Tk) [_] _ Y O qG O O (λi=>.agg #[.int .i64 (i.1.1).op,.int .i64 (i.1.1).n,st (i.1.1).mod,st (i.1.1).nm,.slice i.1.2.1 (i.1.1).args.length i.1.2.2]) (λi=>an gb i.2.1 i.2.2) (λF i=>cy 6 oH=some (i.1.1,i.2.2)/\Sl (eW 6) 5 F i.1.2.1 i.1.2.2 i.1.1.args/\Sl a6 3 HT i.2.1.1 i.2.1.2 i.2.2) (λ_=>bF) (λi=>an gb i.1 i.2) (λ_=>cy 6 oH=none) ([HT]) (by simp) (λ_ _ h=>h) (λw hw=>((λgb r l d w h1 h2 h3 h4=>yh HT 6 gb r l d w h1 h2 h3 h4) gb Gh oH 1 w O yk Gj hw).mono λe w' h=>by
      rcases h with ⟨x,s,r2,q,h1,h2,h3,h4,h5⟩ | ⟨r2,q,h1,h2,h3⟩
      · exact .inl ⟨((x,s),r2,q),h1,⟨h2,h3,h4⟩,h5⟩
      · exact .inr ⟨(r2,q),h1,h2,h3⟩) ?_ ?_
  ·intro ⟨rp,qp⟩ hp;refine Ep (WE.aS (WE.aS (Ep ?_)));refine aL λw' hw=>?_;exact .inr ⟨rp,qp,O,by simp only [dU,eJ,eZ,e7,e8,eP,eQ,iq,jm,kM,mE,fQ,qM,lV,hp,Option.bind_some,Option.map_some,Option.bind_none,Option.map_none],(by have h:=hw; have h:=Wt 1 h; exact h)⟩
  intro F33 ⟨⟨yl,KT⟩,KV,j_⟩ ZT ⟨mF,ZU,Dg⟩;have KX:bT j_:=qA yk mF;have av4:j_.length+1<=List.length (oH):=qB yk mF;refine Al Y O iP λb6=>?_;refine ak 0 Y O O O nA O O O (Ln (Et (Cs (Cr (V0 (Ym O) ?_)))));refine Lb Y O dm O O O O λZV=>?_;refine gg (T:=9) (m:=2) 0 [[93],[61]] O O (show 2<=2 by decide) (by decide) λZW ak4=>?_;refine Lf 1 O ?_
  refine bg (ι:=(Option Addr×Nat)×Tk) (κ:=(Option Addr×Nat)×Tk) [_] _ Y O gV O O (λ_=>.tuple #[]) (λi=>an gb i.1 i.2) (λi=>bW [[93],[61]] j_=some i.2/\Sl a6 3 HT i.1.1 i.1.2 i.2) (λ_=>bF) (λi=>an gb i.1 i.2) (λ_=>bW [[93],[61]] j_=none) ([HT,ZW]) (by simp) (λw hw=>(gU gb HT KV j_ ZW _ _ [[93],[61]] w ak4 Dg hw).mono λe w' h=>by
      rcases h with ⟨r2,q,h1,h2,h3,h4⟩ | ⟨r2,q,h1,h2,h3⟩
      · exact .inl ⟨(r2,q),h1,⟨h2,h3⟩,h4⟩
      · exact .inr ⟨(r2,q),h1,h2,h3⟩) ?_ ?_
  ·intro ⟨rp,qp⟩ hp;refine Ep (WE.aS (WE.aS (Ep ?_)));refine aL λw' hw=>?_
   rcases aj9 hp with hp | ⟨Gl,KY,hp⟩
   · exact .inr ⟨rp,qp,O,by simp only [dU,eJ,eZ,e7,e8,eP,eQ,iq,jm,kM,mE,fQ,qM,lV,mF,hp,Option.bind_some,Option.map_some,Option.bind_none,Option.map_none],(by have h:=hw; have h:=Wt 1 h; have h:=Ws.bB h (bc:=[HT]) (by simp); exact h)⟩
   · exact .inr ⟨rp,qp,O,by simp only [dU,eJ,eZ,e7,e8,eP,eQ,iq,jm,kM,mE,fQ,qM,lV,mF,KY,hp,Option.bind_some,Option.map_some,Option.bind_none,Option.map_none],(by have h:=hw; have h:=Wt 1 h; have h:=Ws.bB h (bc:=[HT]) (by simp); exact h)⟩
  intro ⟨KZ,nG⟩ ⟨Dh,ak5⟩;have Qh:=gT KX Dh;refine Ln (Et ?_);refine CU (λ_=>true) [2,0] [7] (.q true 0 (.q false 1 (.q false 4 (.e 2 (.e 3 (.e 5 (.q false 6 .nil) .stop) (.e 5 (.e 3 (.q false 6 .nil) .stop) .stop)) .stop)))) mixed (by kernel_rfl) (λ_ _ _ d _ _ h=>by cases d<;>exact h) ?_;refine U0 O (bw [2,0]) (bC 0 O O jY O) (U0 O (bw [2,0]) (Ym O) (U0 O (bw [2,0]) (Yf pr O) ?_));refine Ue O (bw [2,0]) ?_ WU.stop
  refine iL (ι:=(az×(Option Addr×Nat))×(Option Addr×Nat)×Tk) (κ:=(Option Addr×Nat)×Tk) [_] _ Y O qG O O (λi=>.agg #[.int .i64 (i.1.1).op,.int .i64 (i.1.1).n,st (i.1.1).mod,st (i.1.1).nm,.slice i.1.2.1 (i.1.1).args.length i.1.2.2]) (λi=>an gb i.2.1 i.2.2) (λF i=>cy 6 nG=some (i.1.1,i.2.2)/\Sl (eW 6) 5 F i.1.2.1 i.1.2.2 i.1.1.args/\Sl a6 3 HT i.2.1.1 i.2.1.2 i.2.2) (λ_=>bF) (λi=>an gb i.1 i.2) (λ_=>cy 6 nG=none) ([HT]) (by simp) (λ_ _ h=>h) (λw hw=>((λgb r l d w h1 h2 h3 h4=>yh HT 6 gb r l d w h1 h2 h3 h4) gb KZ nG 1 w O Qh ak5 hw).mono λe w' h=>by
      rcases h with ⟨x,s,r2,q,h1,h2,h3,h4,h5⟩ | ⟨r2,q,h1,h2,h3⟩
      · exact .inl ⟨((x,s),r2,q),h1,⟨h2,h3,h4⟩,h5⟩
      · exact .inr ⟨(r2,q),h1,h2,h3⟩) ?_ ?_
  ·intro ⟨rp,qp⟩ hp;refine Ep (WE.aS (WE.aS (Ep ?_)));refine aL λw' hw=>?_;obtain ⟨Gl,wm,wo⟩:=F5 Dh;exact .inr ⟨rp,qp,O,by simp only [dU,eJ,eZ,e7,e8,eP,eQ,iq,jm,kM,mE,fQ,qM,lV,mF,wm,wo,hp,Option.bind_some,Option.map_some,Option.bind_none,Option.map_none],(by have h:=hw; have h:=Wt 1 h; have h:=Ws.bB h (bc:=[HT]) (by simp); exact h)⟩
  intro F39 ⟨⟨K0,K1⟩,K2,oI⟩ ZX ⟨pB,ZY,K3⟩;have K4:bT oI:=qA Qh pB;have av6:oI.length+1<=List.length (nG):=qB Qh pB;refine Ln (Eu ?_);refine Ue O (λ_ h=>(Wv 1 (Wo 0 (Wo 2 h)):)) ?_ ?_
  ·refine Lb Y O kL O O O O λuz=>?_;refine LN (rd:=kJ) (f:=XE.cells) (m:=2) 0 [(yl,KT.1,KT.2),(K0,K1.1,K1.2)] O O (λk hk=>by simp [an,ab] at hk; subst hk; simp [dv,an,ab,dF]) XE.aX (λ_ _ _ _ h=>h) (show 2<=2 by decide) (by decide) λK5 Qi Gm=>?_;refine Ln (Eu ?_);refine Ue O (λ_ h=>(Wv 2 (Wo 0 (Wo 2 h)):)) ?_ WU.stop;refine ak 2 Y O O O bZ O O O (Ln (Eu (U0 O (λ_ h=>(Wv 2 (Wo 0 (Wo 2 h)):)) (Yf qz O) ?_)));refine WU.nil (λ_ h=>(Wv 2 (Wo 0 (Wo 2 h)):)) ?_;refine WS.e O ?_;refine ak 2 Y O O O uv O O O (Ln (Es ?_));refine WS.nil ?_;refine Eb (Eb (Et (Cs (Cr (V0 (Ym O) ?_)))));refine Lb Y O dm O O O O λqL=>?_;refine gg (T:=9) (m:=1) 0 [[59]] O O (show 1<=1 by decide) (by decide) λj8 pz=>?_
   refine bg (ι:=(Option Addr×Nat)×Tk) (κ:=(Option Addr×Nat)×Tk) [_] _ Y O gV O O (λ_=>.tuple #[]) (λi=>an gb i.1 i.2) (λi=>bW [[59]] oI=some i.2/\Sl a6 3 HT i.1.1 i.1.2 i.2) (λ_=>bF) (λi=>an gb i.1 i.2) (λ_=>bW [[59]] oI=none) ([HT,j8]) (by simp) (λw hw=>(gU gb HT K2 oI j8 _ _ [[59]] w pz K3 hw).mono λe w' h=>by
       rcases h with ⟨r2,q,h1,h2,h3,h4⟩ | ⟨r2,q,h1,h2,h3⟩
       · exact .inl ⟨(r2,q),h1,⟨h2,h3⟩,h4⟩
       · exact .inr ⟨(r2,q),h1,h2,h3⟩) ?_ ?_
   ·intro ⟨rp,qp⟩ hp;rw [dr] at hp;refine Ep ?_;refine aL λw' hw=>?_;obtain ⟨Gl,wm,wo⟩:=F5 Dh;exact .inr ⟨rp,qp,O,by simp only [dU,eJ,eZ,e7,e8,eP,eQ,iq,jm,kM,mE,fQ,qM,lV,mF,wm,wo,pB,hp,Option.bind_some,Option.map_some,Option.bind_none,Option.map_none],(by have h:=hw; have h:=Wt 1 h; have h:=Ws.bB h (bc:=[HT]) (by simp); exact h)⟩
   intro ⟨sG,pA⟩ ⟨iR,sH⟩;have Gc:=gT K4 iR;rw [dr] at iR;refine Ln (Et (Cs (Cr (V0 (bC 2 O O jF O) (ak 3 Y O O O sy O O O (Ln (Et (aw ?_))))))));refine WE.dM (gA O (cU 3 O O jF O)) λw' hw=>?_;obtain ⟨Gl,wm,wo⟩:=F5 Dh;exact .inl ⟨aR.mk 2 p9.1 p9.2 [yl,K0] [] [],⟨(some ⟨uz,0,none⟩,2),((none,0):Option Addr×Nat),((none,0):Option Addr×Nat)⟩,sG,pA,O,by simp only [dU,eJ,eZ,e7,e8,eP,eQ,iq,jm,kM,mE,fQ,qM,lV,mF,wm,wo,pB,iR,Option.bind_some,Option.map_some,Option.bind_none,Option.map_none],⟨(kK Gm (bJ hw (by simp) Qi) (aN.refl _) (((gx.nil (nv w w') 6).snoc (aN.refl _) (bJ hw (by simp) ZT) ZU).snoc (aN.refl _) (bJ hw (by simp) ZX) ZY)),Sl.nil,Sl.nil⟩,sH,Wv 5 (Wt 1 hw)⟩
  refine Ue O (λ_ h=>(Wv 1 (Wo 0 (Wo 2 h)):)) ?_ WU.stop;refine ak 2 Y O O O bZ O O O (Ln (Eu ?_));refine Ue O (λ_ h=>(Wv 1 (Wo 0 (Wo 2 h)):)) ?_ WU.stop;refine Lb Y O kL O O O O λuz=>?_;refine LN (rd:=kJ) (f:=XE.cells) (m:=2) 0 [(yl,KT.1,KT.2),(K0,K1.1,K1.2)] O O (λk hk=>by simp [an,ab] at hk; subst hk; simp [dv,an,ab,dF]) XE.aX (λ_ _ _ _ h=>h) (show 2<=2 by decide) (by decide) λK5 Qi Gm=>?_;refine Ln (Eu (U0 O (λ_ h=>(Wv 2 (Wo 0 (Wo 2 h)):)) (Yf qz O) ?_));refine WU.nil (λ_ h=>(Wv 2 (Wo 0 (Wo 2 h)):)) ?_;refine WS.e O ?_;refine ak 2 Y O O O uv O O O (Ln (Es ?_));refine WS.nil ?_;refine Eb (Eb (Et (Cs (Cr (V0 (Ym O) ?_)))));refine Lb Y O dm O O O O λqL=>?_;refine gg (T:=9) (m:=1) 0 [[59]] O O (show 1<=1 by decide) (by decide) λj8 pz=>?_
  refine bg (ι:=(Option Addr×Nat)×Tk) (κ:=(Option Addr×Nat)×Tk) [_] _ Y O gV O O (λ_=>.tuple #[]) (λi=>an gb i.1 i.2) (λi=>bW [[59]] oI=some i.2/\Sl a6 3 HT i.1.1 i.1.2 i.2) (λ_=>bF) (λi=>an gb i.1 i.2) (λ_=>bW [[59]] oI=none) ([HT,j8]) (by simp) (λw hw=>(gU gb HT K2 oI j8 _ _ [[59]] w pz K3 hw).mono λe w' h=>by
      rcases h with ⟨r2,q,h1,h2,h3,h4⟩ | ⟨r2,q,h1,h2,h3⟩
      · exact .inl ⟨(r2,q),h1,⟨h2,h3⟩,h4⟩
      · exact .inr ⟨(r2,q),h1,h2,h3⟩) ?_ ?_
  ·intro ⟨rp,qp⟩ hp;rw [dr] at hp;refine Ep ?_;refine aL λw' hw=>?_;obtain ⟨Gl,wm,wo⟩:=F5 Dh;exact .inr ⟨rp,qp,O,by simp only [dU,eJ,eZ,e7,e8,eP,eQ,iq,jm,kM,mE,fQ,qM,lV,mF,wm,wo,pB,hp,Option.bind_some,Option.map_some,Option.bind_none,Option.map_none],(by have h:=hw; have h:=Wt 1 h; have h:=Ws.bB h (bc:=[HT]) (by simp); exact h)⟩
  intro ⟨sG,pA⟩ ⟨iR,sH⟩;have Gc:=gT K4 iR;rw [dr] at iR;refine Ln (Et (Cs (Cr (V0 (bC 2 O O jF O) (ak 3 Y O O O sy O O O (Ln (Et (aw ?_))))))));refine WE.dM (gA O (cU 3 O O jF O)) λw' hw=>?_;obtain ⟨Gl,wm,wo⟩:=F5 Dh;exact .inl ⟨aR.mk 2 p9.1 p9.2 [yl,K0] [] [],⟨(some ⟨uz,0,none⟩,2),((none,0):Option Addr×Nat),((none,0):Option Addr×Nat)⟩,sG,pA,O,by simp only [dU,eJ,eZ,e7,e8,eP,eQ,iq,jm,kM,mE,fQ,qM,lV,mF,wm,wo,pB,iR,Option.bind_some,Option.map_some,Option.bind_none,Option.map_none],⟨(kK Gm (bJ hw (by simp) Qi) (aN.refl _) (((gx.nil (nv w w') 6).snoc (aN.refl _) (bJ hw (by simp) ZT) ZU).snoc (aN.refl _) (bJ hw (by simp) ZX) ZY)),Sl.nil,Sl.nil⟩,sH,Wv 5 (Wt 1 hw)⟩
 obtain ⟨Di,Qj⟩:=Qg bH;subst Qj;refine Cs (Cr (V0 (Ym O) ?_));refine Lb Y O dm O O O O λZZ=>?_;refine gg (T:=9) (m:=1) 0 [[61]] O O (show 1<=1 by decide) (by decide) λZ0 ak6=>?_
 refine bg (ι:=(Option Addr×Nat)×Tk) (κ:=(Option Addr×Nat)×Tk) [_] _ Y O gV O O (λ_=>.tuple #[]) (λi=>an gb i.1 i.2) (λi=>bW [[61]] q9=some i.2/\Sl a6 3 HT i.1.1 i.1.2 i.2) (λ_=>bF) (λi=>an gb i.1 i.2) (λ_=>bW [[61]] q9=none) ([HT,Z0]) (by simp) (λw hw=>(gU gb HT Gh q9 Z0 _ _ [[61]] w ak6 Gj hw).mono λe w' h=>by
     rcases h with ⟨r2,q,h1,h2,h3,h4⟩ | ⟨r2,q,h1,h2,h3⟩
     · exact .inl ⟨(r2,q),h1,⟨h2,h3⟩,h4⟩
     · exact .inr ⟨(r2,q),h1,h2,h3⟩) ?_ ?_
 ·intro ⟨rp,qp⟩ hp;rw [dr] at hp;refine Ep (WE.aS (WE.aS (Ep ?_)));refine aL λw' hw=>?_;exact .inr ⟨rp,qp,O,by simp only [dU,eJ,eZ,e7,e8,eP,eQ,iq,jm,kM,mE,fQ,qM,Di,hp,Option.bind_some,Option.map_some,Option.bind_none,Option.map_none],(by have h:=hw; have h:=Wt 1 h; have h:=Ws.bB h (bc:=[HT]) (by simp); exact h)⟩
 intro ⟨cY,C6⟩ ⟨yf,Kb⟩;have Kc:=gT Df yf;rw [dr] at yf;refine Ln (Et (Cr (V0 (Ym O) ?_)))
 refine iL (ι:=(az×(Option Addr×Nat))×(Option Addr×Nat)×Tk) (κ:=(Option Addr×Nat)×Tk) [_] _ Y O qG O O (λi=>.agg #[.int .i64 (i.1.1).op,.int .i64 (i.1.1).n,st (i.1.1).mod,st (i.1.1).nm,.slice i.1.2.1 (i.1.1).args.length i.1.2.2]) (λi=>an gb i.2.1 i.2.2) (λF i=>cy 6 C6=some (i.1.1,i.2.2)/\Sl (eW 6) 5 F i.1.2.1 i.1.2.2 i.1.1.args/\Sl a6 3 HT i.2.1.1 i.2.1.2 i.2.2) (λ_=>bF) (λi=>an gb i.1 i.2) (λ_=>cy 6 C6=none) ([HT]) (by simp) (λ_ _ h=>h) (λw hw=>((λgb r l d w h1 h2 h3 h4=>yh HT 6 gb r l d w h1 h2 h3 h4) gb cY C6 1 w O Kc Kb hw).mono λe w' h=>by
     rcases h with ⟨x,s,r2,q,h1,h2,h3,h4,h5⟩ | ⟨r2,q,h1,h2,h3⟩
     · exact .inl ⟨((x,s),r2,q),h1,⟨h2,h3,h4⟩,h5⟩
     · exact .inr ⟨(r2,q),h1,h2,h3⟩) ?_ ?_
 ·intro ⟨rp,qp⟩ hp;refine WE.aS (WE.aS (Ep ?_));refine aL λw' hw=>?_;exact .inr ⟨rp,qp,O,by simp only [dU,eJ,eZ,e7,e8,eP,eQ,iq,jm,kM,mE,fQ,qM,Di,yf,hp,Option.bind_some,Option.map_some,Option.bind_none,Option.map_none],(by have h:=hw; have h:=Wt 1 h; have h:=Ws.bB h (bc:=[HT]) (by simp); exact h)⟩
 intro sI ⟨⟨Z1,Z2⟩,fe,Ao⟩ Dj ⟨K8,ak7,Z3⟩;have ak8:bT Ao:=qA Kc K8;have av7:Ao.length+1<=List.length (C6):=qB Kc K8;refine Lb Y O kL O O O O λFY=>?_;refine LN (rd:=kJ) (f:=XE.cells) (m:=1) 0 [(Z1,Z2.1,Z2.2)] O O (λk hk=>by simp [an,ab] at hk; subst hk; simp [dv,an,ab,dF]) XE.aX (λ_ _ _ _ h=>h) (show 1<=1 by decide) (by decide) λPE ak9 PF=>?_;refine V0 (Yf pr O) (ak 1 Y O O O bZ O O O (V0 (Yf qz O) (ak 1 Y O O O uv O O O (Ln (Eb (Eb (Et (Cs (Cr (V0 (Ym O) ?_))))))))));refine Lb Y O dm O O O O λqL=>?_;refine gg (T:=9) (m:=1) 0 [[59]] O O (show 1<=1 by decide) (by decide) λj8 pz=>?_
 refine bg (ι:=(Option Addr×Nat)×Tk) (κ:=(Option Addr×Nat)×Tk) [_] _ Y O gV O O (λ_=>.tuple #[]) (λi=>an gb i.1 i.2) (λi=>bW [[59]] Ao=some i.2/\Sl a6 3 HT i.1.1 i.1.2 i.2) (λ_=>bF) (λi=>an gb i.1 i.2) (λ_=>bW [[59]] Ao=none) ([HT,j8]) (by simp) (λw hw=>(gU gb HT fe Ao j8 _ _ [[59]] w pz Z3 hw).mono λe w' h=>by
     rcases h with ⟨r2,q,h1,h2,h3,h4⟩ | ⟨r2,q,h1,h2,h3⟩
     · exact .inl ⟨(r2,q),h1,⟨h2,h3⟩,h4⟩
     · exact .inr ⟨(r2,q),h1,h2,h3⟩) ?_ ?_
 ·intro ⟨rp,qp⟩ hp;rw [dr] at hp;refine Ep ?_;refine aL λw' hw=>?_;exact .inr ⟨rp,qp,O,by simp only [dU,eJ,eZ,e7,e8,eP,eQ,iq,jm,kM,mE,fQ,qM,Di,yf,K8,hp,Option.bind_some,Option.map_some,Option.bind_none,Option.map_none],(by have h:=hw; have h:=Wt 1 h; have h:=Ws.bB h (bc:=[HT]) (by simp); exact h)⟩
 intro ⟨sG,pA⟩ ⟨iR,sH⟩;have Gc:=gT ak8 iR;rw [dr] at iR;refine Ln (Et (Cs (Cr (V0 (bC 1 O O jF O) (ak 2 Y O O O sy O O O (Ln (Et (aw ?_))))))));refine WE.dM (gA O (cU 2 O O jF O)) λw' hw=>?_;exact .inl ⟨aR.mk 1 p9.1 p9.2 [Z1] [] [],⟨(some ⟨FY,0,none⟩,1),((none,0):Option Addr×Nat),((none,0):Option Addr×Nat)⟩,sG,pA,O,by simp only [dU,eJ,eZ,e7,e8,eP,eQ,iq,jm,kM,mE,fQ,qM,Di,yf,K8,iR,Option.bind_some,Option.map_some,Option.bind_none,Option.map_none],⟨(kK PF (bJ hw (by simp) ak9) (bJ hw (by simp) Dj) ((gx.nil sI 6).snoc (aN.refl _) (aN.refl _) ak7)),Sl.nil,Sl.nil⟩,sH,Wv 4 (Wt 1 hw)⟩
theorem Z4 (HT:View) (f:Nat) (gb:Nat) (r:Option Addr×Nat) (l:Tk) (d:Nat) (w:World) (x':f+d=7) (aA:bT l) (hm:Sl a6 3 HT r.1 r.2 l) (hw:Ws w (List.flatMap ao.ids (an gb r l)) (an gb r l) [HT] w) :
   Calls Tryz.prog 148 #[.pointer (some ⟨gb,0,none⟩),.int .i64 (d:Int)] w λe w'=>(∃(x:List aR) (s:Option Addr×Nat) (r2:Option Addr×Nat) (q:Tk),e = .returned (.slice s.1 x.length s.2)/\fq f l=some (x,q)/\Sl (iz 7 f) 6 (nv w w') s.1 s.2 x/\Sl a6 3 HT r2.1 r2.2 q/\Ws w (List.flatMap ao.ids (an gb r l)) (an gb r2 q) [HT] w')\/(∃(r2:Option Addr×Nat) (q:Tk),e = .panicked bF/\fq f l=none/\Ws w (List.flatMap ao.ids (an gb r l)) (an gb r2 q) [HT] w'):=by
 induction f using Nat.strongRecOn generalizing gb r l d w
 rename_i f ih;refine enter Tryz.func148 O 23 O O ?_;refine CE hw (Cs (Cr (V0 (Ya O) (Ln (Et (Cs (Cs (Cr (V0 (Ym O) (V0 (bX O O) (Ln (Et ?_))))))))))));refine Cc O (λad=>?_) (λad=>?_)
 ·have dW:fq f l=none:=by
    obtain rfl:f=0:=by simp at ad; omega
    rfl
  refine Cr (V0 (Yb v8 v7 O O) (V0 (rJ v_ O) ?_));refine WL.panic Y O ?_;refine Ep ?_;refine aL λw' hw=>?_;exact .inr ⟨r,l,O,dW,(by have h:=hw; exact h)⟩
 have Zh:¬6<d:=by simp at ad; omega
 obtain ⟨f,rfl⟩:∃k,f=k+1:=⟨f-1,by omega⟩;have hB:Zs HT f:=λgb r l d w h1 h2 h3 h4=>ih f (by omega) gb r l d w h1 h2 h3 h4;refine Ck (Et (Cs (Cr (V0 (Ym O) ?_))));refine Lb Y O dm O O O O λsA=>?_;refine gg (T:=9) (m:=1) 0 [[123]] O O (show 1<=1 by decide) (by decide) λDk Gn=>?_
 refine bg (ι:=(Option Addr×Nat)×Tk) (κ:=(Option Addr×Nat)×Tk) [_] _ Y O gV O O (λ_=>.tuple #[]) (λi=>an gb i.1 i.2) (λi=>bW [[123]] l=some i.2/\Sl a6 3 HT i.1.1 i.1.2 i.2) (λ_=>bF) (λi=>an gb i.1 i.2) (λ_=>bW [[123]] l=none) ([HT,Dk]) (by simp) (λw hw=>(gU gb HT r l Dk _ _ [[123]] w Gn hm hw).mono λe w' h=>by
     rcases h with ⟨r2,q,h1,h2,h3,h4⟩ | ⟨r2,q,h1,h2,h3⟩
     · exact .inl ⟨(r2,q),h1,⟨h2,h3⟩,h4⟩
     · exact .inr ⟨(r2,q),h1,h2,h3⟩) ?_ ?_
 ·intro ⟨rp,qp⟩ hp;rw [dr] at hp;refine Ep ?_;refine aL λw' hw=>?_;exact .inr ⟨rp,qp,O,by rw [fq,hp]; rfl,(by have h:=hw; have h:=Ws.bB h (bc:=[HT]) (by simp); exact h)⟩
 intro ⟨vR,eD⟩ ⟨gy,yb⟩;have ye:=gT aA gy;rw [dr] at gy;refine Ln (Et (Cs (Cr (V0 (Ya O) (LW (λ_ h=>h.fj 222 6) ?_)))));refine WL.v0 ?_;refine Ln (Et (Cs (Cb ?_)));refine ct (ι:=GS) (λg=>[(5,.slice g.a g.es.length g.c)]) [(0,_),(1,_),(4,_)] (λg=>Ws w (List.flatMap ao.ids (an gb r l)) (an gb g.r g.q++[bj 222 6 SX.cells g.a g.c g.es]) [g.J,HT]) (λg=>(g.es.length+g.q.length<=l.length/\bT g.q)/\Sl a6 3 HT g.r.1 g.r.2 g.q/\(eU w g.J/\sF g.J f g.es)/\∃n,g.q.length<n/\fq (f+1) l=(oz (dU (fq f)) n g.q).map λp=>(g.es.map (·.1)++p.1,p.2)) (λg=>g.q.length) ⟨[],none,0,v0,vR,eD⟩ ⟨⟨by have:eD.length+1=l.length:=gR gy; simp; omega,ye⟩,yb,⟨xD w,sF.nil _ _⟩,eD.length+1,by simp,by rw [fq,gy]; simp⟩ (sc O (sc O (sc O (sc O sn)))) (λ_ h=>by have h:=h.ar 1 O; have h:=Ws.bB h (bc:=[v0,HT]) (by simp); exact h) ?_;intro g ⟨⟨hlen,lu⟩,qD,⟨mD,FX⟩,hA⟩;refine Cs (Cs (Cr (V0 (Ym O) ?_)));refine Lw [_] _ Y O gv O O _ _ _ [HT] (by simp) (λw hw=>gw gb HT g.r g.q [125] w qD hw) ?_;intro ⟨z_,kH,jk⟩ ⟨FT,FU,qE⟩;refine V0 (dw O) (Ln (Et ?_));refine Cc O (λaq=>?_) (λaq=>?_)
 ·obtain ⟨iQ,J6⟩:=FU (by simpa using aq);subst J6;obtain ⟨n,hn,hA⟩:=hA;obtain ⟨n,rfl⟩:∃k,n=k+1:=⟨n-1,by omega⟩;refine Ck (Et (Cb (Cr (V0 (Ym O) (V0 (Ym O) (V0 (Ym O) ?_))))))
  refine iL (ι:=(aR×ux)×(Option Addr×Nat)×Tk) (κ:=(Option Addr×Nat)×Tk) [_] _ Y O akb O O (λi=>.agg #[.int .i64 (i.1.1).op,st (i.1.1).mod,st (i.1.1).nm,.slice (i.1.2).s1.1 (i.1.1).args.length (i.1.2).s1.2,.slice (i.1.2).s2.1 (i.1.1).body.length (i.1.2).s2.2,.slice (i.1.2).s3.1 (i.1.1).other.length (i.1.2).s3.2]) (λi=>an gb i.2.1 i.2.2) (λF i=>dU (fq f) g.q=some (i.1.1,i.2.2)/\Ak f F i.1.1 i.1.2/\Sl a6 3 HT i.2.1.1 i.2.1.2 i.2.2) (λ_=>bF) (λi=>an gb i.1 i.2) (λ_=>dU (fq f) g.q=none) ([HT]) (by simp) (λ_ _ h=>h) (λw hw=>(akc gb HT kH g.q f d w hB (by omega) lu qE hw).mono λe w' h=>by
      rcases h with ⟨x,s,r2,q,h1,h2,h3,h4,h5⟩ | ⟨r2,q,h1,h2,h3⟩
      · exact .inl ⟨((x,s),r2,q),h1,⟨h2,h3,h4⟩,h5⟩
      · exact .inr ⟨(r2,q),h1,h2,h3⟩) ?_ ?_
  ·intro ⟨rp,qp⟩ hp;refine WE.aS (Ep (WE.aS (Ep ?_)));refine aL λw' hw=>?_;exact .inr ⟨rp,qp,O,by rw [hA,aka iQ hp]; rfl,(by have h:=hw; have h:=Wt 1 h; have h:=Ws.bB h (bc:=[HT]) (by simp); exact h)⟩
  intro Aq ⟨⟨Qk,Ql⟩,pw,j7⟩ K9 ⟨qH,ak',C7⟩;have Ac:bT j7:=aj7 lu qH;have av8:j7.length<List.length (g.q):=ag' (Fy f) (lu).all qH;refine WL.n8 λZ5 ak_ ala alb=>?_;refine Lb Y O Ku O O O O λkb=>?_;refine bI 0 (.cells (SX.cells (Qk,Ql)).toArray 222 (0,0)) O O ?_;refine LA ((Qk,Ql):SX) 2 0 Y O Ku O O O O O O (by have:=aA.len; omega) (by have:=aA.len; omega) λa21 c21=>?_;refine V0 (Ya O) (Ln (Eb ?_))
  exact Ea (⟨g.es++[(Qk,Ql)],a21,c21,Z5,pw,j7⟩:GS) (by show j7.length<g.q.length; omega) ⟨⟨by simp; omega,Ac⟩,C7,⟨alb _ K9 mD,sF.snoc FX ala ak_ ak'⟩,n,(show j7.length<n by omega),by rw [hA,aj_ iQ qH]; simp [Function.comp_def]⟩ (sc O (sc O (sc O (sc O sn)))) (λ_ h=>by
      have h:=h.ar 2 rfl;have h:=h.ar 2 rfl;have h:=Wt 2 h;have h:=Ws.bB h (bc:=[Z5,HT]) (by simp)
      exact h)
 have oE:=FT (by simpa using aq);have K_:=gS lu oE;obtain ⟨n,hn,hA⟩:=hA;obtain ⟨n,rfl⟩:∃k,n=k+1:=⟨n-1,by omega⟩;refine Ce (Ex (Ex (bK (Et (Cs ?_)))));refine WC.p_ (rd:=Kt) 1 O (λk hk=>by simp [an,ab] at hk; subst hk; simp [dv,an,ab,dF]) SX.aX (λ_ _ _ _ h=>h) λK7 Gp Gq=>?_;refine Cr (V0 (Ym O) (V0 (Ya O) (Ln (Et (aw ?_)))));refine R1 O O λw' hw=>?_;exact .inl ⟨g.es.map (·.1),(g.a,g.c),kH,jk,by rw [List.length_map],by rw [hA,aj' oE]; simp,P6 Gq (bJ hw (by simp) Gp) (bJ hw (by simp) mD) FX,qE,(Wv 2 hw)⟩
theorem alc {l r:Tk} {aT:Bool} {o:Option bS} (h:bT l) (e:fL aT l=some (o,r)):bT r:=by
 cases o with
 | none=>obtain rfl:=O8 e; exact h
 | some d=>exact vZ h (Xq h.all e).1
theorem ald {l r:Tk} {aT:Bool} {d:bS} (h:bT l) (e:fL aT l=some (some d,r)):r.length<l.length:=by
 have h1:=(Xq h.all e).1.2;rw [h1];simp [Fz];omega
theorem ale {l r:Tk} {aT:Bool} {p:dO} (h:bT l) (e:jg aT l=some (p,r)):bT r:=vZ h (Xu h.all e).1
theorem Qm {l r:Tk} {aT:Bool} {p:dO} (h:bT l) (e:jg aT l=some (p,r)):r.length<l.length:=by
 have h1:=(Xu h.all e).1.2;rw [h1];simp [O9];omega
theorem oJ {l r:Tk} {a:Tx} (h:bT l) (e:cX l=some (a,r)):r.length<l.length:=by
 have h1:=(uf h.all e).1.2;rw [h1];simp
theorem Qn {l q:Tk} {b:Bool} (ht:b=true->aH [112,117,98] l=some q) (hf:b=false->aH [112,117,98] l=none/\l=q):kC l=(b,q):=by
 unfold kC;rw [show JK=[112,117,98] from rfl]
 cases b with
 | true=>rw [ht rfl]; rfl
 | false=>obtain ⟨h1,h2⟩:=hf rfl; rw [h1,h2]; rfl
theorem Qo {l q:Tk} {b:Bool} (h:bT l) (ht:b=true->aH [112,117,98] l=some q) (hf:b=false->aH [112,117,98] l=none/\l=q):bT q/\q.length<=l.length:=by
 cases b with
 | true=>exact ⟨gS h (ht rfl),by have:=gR (ht rfl); omega⟩
 | false=>obtain ⟨_,h2⟩:=hf rfl; subst h2; exact ⟨h,Nat.le_refl _⟩
theorem alf {n:Nat} {first:Bool} {l q:Tk} (h:aH [41] l=some q):jf (n+1) first l=some ([],q):=by rw [jf,h]
theorem alg {n:Nat} {l q:Tk} {a:Tx} (h:aH [41] l=none) (h1:cX l=some (a,q)):jf (n+1) true l=(jf n false q).map λp=>(a::p.1,p.2):=by rw [jf,h]; simp [h1]
theorem alh {n:Nat} {l:Tk} (h:aH [41] l=none) (h1:cX l=none):jf (n+1) true l=none:=by rw [jf,h]; simp [h1]
theorem ali {n:Nat} {l l1 q:Tk} {a:Tx} (h:aH [41] l=none) (h2:aH [44] l=some l1) (h1:cX l1=some (a,q)):jf (n+1) false l=(jf n false q).map λp=>(a::p.1,p.2):=by rw [jf,h]; simp [h1,h2]
theorem alj {n:Nat} {l:Tk} (h:aH [41] l=none) (h2:aH [44] l=none):jf (n+1) false l=none:=by rw [jf,h]; simp [h2]
theorem alk {n:Nat} {l l1:Tk} (h:aH [41] l=none) (h2:aH [44] l=some l1) (h1:cX l1=none):jf (n+1) false l=none:=by rw [jf,h]; simp [h1,h2]
def isNil (l:List Tx):Bool:=match l with | []=>true | _=>false
theorem Z6 (l:List Tx) (x:Tx):isNil (l++[x])=false:=by cases l<;>rfl
theorem alm {l:List Tx} (h:¬0<l.length):isNil l=true:=by cases l with | nil=>rfl | cons _ _=>exact absurd (by simp) h
theorem aln {l:List Tx} (h:0<l.length):isNil l=false:=by cases l with | nil=>simp at h | cons _ _=>rfl
structure Dl where
 s1:Option Addr×Nat
 s2:Option Addr×Nat
 s3:Option Addr×Nat
abbrev PX:=dO×Dl
def PX.cells (e:PX):List Value:=NZ e.1 e.2.s1.1 e.2.s1.2 e.2.s2.1 e.2.s2.2 e.2.s3.1 e.2.s3.2
theorem PX.aX (e:PX):(PX.cells e).length=5:=rfl
def Qp (H:View) (b o:Nat) (e:PX):Prop:=aP H b o (PX.cells e)
structure Ar (N:View) (x:dO) (p:Dl):Prop where
 params:Sl rdStr 1 N p.s1.1 p.s1.2 x.params
 ax:Sl rdStr 1 N p.s2.1 p.s2.2 x.ax
 body:Sl (iz 7 6) 6 N p.s3.1 p.s3.2 x.body
theorem wq {H N:View} {c:Nat} {a:Option Addr} {l:List Tx} (h:Sl rdStr 1 H a c l) (hv:aN H N):Sl rdStr 1 N a c l:=h.imp λb o y hy=>BX hv b o y hy
theorem Qq {H N:View} {c:Nat} {a:Option Addr} {l:List bS} (h:Sl zp 4 H a c l) (hv:aN H N):Sl zp 4 N a c l:=h.imp λb o y hy=>aeV hv b o y hy
theorem Ar.mv {H N:View} {x:dO} {p:Dl} (h:Ar H x p) (hv:aN H N):Ar N x p:=⟨wq h.params hv,wq h.ax hv,wi h.body hv⟩
def uC (J:View) (es:List PX):Prop:=∀e ∈ es,Ar J e.1 e.2
theorem uC.nil (J:View):uC J []:=by intro e h; simp at h
theorem uC.snoc {J J1 J2:View} {es:List PX} {e:PX} (h:uC J es) (h1:aN J J2) (h2:aN J1 J2) (he:Ar J1 e.1 e.2):uC J2 (es++[e]):=by
 intro x hx
 rcases List.mem_append.1 hx with hx | hx
 · exact (h x hx).mv h1
 · rw [List.mem_singleton] at hx
   subst hx;exact he.mv h2
theorem Z7 {H J N:View} {c:Nat} {a:Option Addr} {es:List PX} (h:Sl Qp 5 H a c es) (hv:aN H N) (hJ:aN J N) (nj:uC J es):Sl (Jc 7 6) 5 N a c (es.map (·.1)):=by
 refine ⟨by simpa using h.cap,h.max,h.spot,λi x hx=>?_⟩;rw [List.getElem?_map] at hx;obtain ⟨e,he,rfl⟩:=Option.map_eq_some_iff.1 hx;obtain ⟨b,o,h1,h2⟩:=h.aO i e he;have h3:=(nj e (List.mem_of_getElem? he)).mv hJ;exact ⟨b,o,h1,e.2.s1.1,e.2.s1.2,e.2.s2.1,e.2.s2.2,e.2.s3.1,e.2.s3.2,aP.mono hv h2,h3.params,h3.ax,h3.body⟩
structure GN where
 ps:List Tx
 a:Option Addr
 c:Nat
 r:Option Addr×Nat
 q:Tk
structure GD where
 ds:List bS
 a:Option Addr
 c:Nat
 aT:Bool
 r:Option Addr×Nat
 q:Tk
structure GM where
 ps:List PX
 a:Option Addr
 c:Nat
 J:View
 aT:Bool
 r:Option Addr×Nat
 q:Tk
theorem alo {n:Nat} {l:Tk} (h:aH [108,111,99,97,108] l=none):lS (n+1) l=some ([],l):=by rw [lS,show zI=[108,111,99,97,108] from rfl,h]
theorem alp {n:Nat} {l l1 q q2:Tk} {a:Tx} (h:aH [108,111,99,97,108] l=some l1) (h1:cX l1=some (a,q)) (h2:aH [59] q=some q2):lS (n+1) l=(lS n q2).map λp=>(a::p.1,p.2):=by rw [lS,show zI=[108,111,99,97,108] from rfl,h]; simp [h1,h2]
theorem alq {n:Nat} {l l1:Tk} (h:aH [108,111,99,97,108] l=some l1) (h1:cX l1=none):lS (n+1) l=none:=by rw [lS,show zI=[108,111,99,97,108] from rfl,h]; simp [h1]
theorem alr {n:Nat} {l l1 q:Tk} {a:Tx} (h:aH [108,111,99,97,108] l=some l1) (h1:cX l1=some (a,q)) (h2:aH [59] q=none):lS (n+1) l=none:=by rw [lS,show zI=[108,111,99,97,108] from rfl,h]; simp [h1,h2]
theorem als {n:Nat} {l:Tk} (h:aH [117,115,101] l=none):mz (n+1) l=some ([],l):=by rw [mz,show Fw=[117,115,101] from rfl,h]
theorem alu {n:Nat} {l l1 q q2:Tk} {a:Tx} (h:aH [117,115,101] l=some l1) (h1:cX l1=some (a,q)) (h2:aH [59] q=some q2):mz (n+1) l=(mz n q2).map λp=>(a::p.1,p.2):=by rw [mz,show Fw=[117,115,101] from rfl,h]; simp [h1,h2]
theorem alv {n:Nat} {l l1:Tk} (h:aH [117,115,101] l=some l1) (h1:cX l1=none):mz (n+1) l=none:=by rw [mz,show Fw=[117,115,101] from rfl,h]; simp [h1]
theorem alw {n:Nat} {l l1 q:Tk} {a:Tx} (h:aH [117,115,101] l=some l1) (h1:cX l1=some (a,q)) (h2:aH [59] q=none):mz (n+1) l=none:=by rw [mz,show Fw=[117,115,101] from rfl,h]; simp [h1,h2]
theorem alx {n:Nat} {aT:Bool} {l q:Tk} (h:fL aT l=some (none,q)):oA (n+1) aT l=some (([],aT),q):=by rw [oA,h]; rfl
theorem aly {n:Nat} {aT b:Bool} {l q q2:Tk} {d:bS} (h:fL aT l=some (some d,q)) (h2:kC q=(b,q2)):oA (n+1) aT l=(oA n b q2).map λp=>((d::p.1.1,p.1.2),p.2):=by rw [oA,h]; simp only [Option.bind_some]; rw [h2]
theorem alz {n:Nat} {aT:Bool} {l:Tk} (h:fL aT l=none):oA (n+1) aT l=none:=by rw [oA,h]; rfl
theorem alA {n:Nat} {aT:Bool} {l:Tk} (h:aH [112,114,111,99] l=none):oB (n+1) aT l=some (([],aT),l):=by rw [oB,show JL=[112,114,111,99] from rfl,h]
theorem alB {n:Nat} {aT b:Bool} {l l1 q q2:Tk} {d:dO} (h0:aH [112,114,111,99] l=some l1) (h:jg aT l1=some (d,q)) (h2:kC q=(b,q2)):oB (n+1) aT l=(oB n b q2).map λp=>((d::p.1.1,p.1.2),p.2):=by rw [oB,show JL=[112,114,111,99] from rfl,h0]; simp only; rw [h]; simp only [Option.bind_some]; rw [h2]
theorem alC {n:Nat} {aT:Bool} {l l1:Tk} (h0:aH [112,114,111,99] l=some l1) (h:jg aT l1=none):oB (n+1) aT l=none:=by rw [oB,show JL=[112,114,111,99] from rfl,h0]; simp only; rw [h]; rfl
theorem Lc:fh Tryz.prog 217=some [(0,1),(1,1),(2,1),(3,1)]:=by kernel_rfl
theorem alD (gb:Nat) (HT:View) (r:Option Addr×Nat) (l:Tk) (aT:Bool) (w:World) (aA:bT l) (hm:Sl a6 3 HT r.1 r.2 l) (hw:Ws w (List.flatMap ao.ids (an gb r l)) (an gb r l) [HT] w) :
   Calls Tryz.prog 146 #[.pointer (some ⟨gb,0,none⟩),.bool aT] w λe w'=>(∃(o:Option bS) (r2:Option Addr×Nat) (q:Tk),e = .returned (.tuple #[.agg #[.int .i64 ((o).getD (⟨0,[],aT,0⟩:bS)).kind,st ((o).getD (⟨0,[],aT,0⟩:bS)).nm,.bool ((o).getD (⟨0,[],aT,0⟩:bS)).aT,.int .i64 ((o).getD (⟨0,[],aT,0⟩:bS)).n],.bool (o).isSome])/\fL aT l=some (o,q)/\Sl a6 3 HT r2.1 r2.2 q/\Ws w (List.flatMap ao.ids (an gb r l)) (an gb r2 q) [HT] w')\/(∃(r2:Option Addr×Nat) (q:Tk),e = .panicked bF/\fL aT l=none/\Ws w (List.flatMap ao.ids (an gb r l)) (an gb r2 q) [HT] w'):=by
 refine enter Tryz.func146 O 50 O O ?_;refine CE hw (Cs (Cr ?_));refine Al Y O um λb4=>?_;refine V0 (Ya O) (Ln (Et (Cs (Cr (V0 (Ym O) (V0 (Yb um Lc O O) ?_))))));refine Al Y O um λb6=>?_;refine ak 0 Y O O O vX O O O (Ln (Et (Cs (Cb (Cs (Cr (V0 (Ym O) (Lf 2 O ?_))))))));refine Lw [_] _ Y O gv O O _ _ _ [HT] (by simp) (λw hw=>gw gb HT r l [99,111,110,115,116] w hm hw) ?_;intro ⟨kN,vR,eD⟩ ⟨alE,alF,yb⟩;refine V0 (Ya O) (Ln (Et ?_));refine Cc O (λad=>?_) (λad=>?_)
 ·have gy:=alE ad;have ye:=gS aA gy;refine Cs (Cr (V0 (Ym O) ?_))
  refine bg (ι:=(Tx)×(Option Addr×Nat)×Tk) (κ:=(Option Addr×Nat)×Tk) [_] _ Y O sC O O (λi=>st i.1) (λi=>an gb i.2.1 i.2.2) (λi=>cX eD=some (i.1,i.2.2)/\Sl a6 3 HT i.2.1.1 i.2.1.2 i.2.2) (λ_=>bF) (λi=>an gb i.1 i.2) (λ_=>cX eD=none) ([HT]) (by simp) (λw hw=>(sD gb HT vR eD w yb hw).mono λe w' h=>by
      rcases h with ⟨t,r2,q,h1,h2,h3,h4⟩ | ⟨r2,q,h1,h2,h3⟩
      · exact .inl ⟨(t,r2,q),h1,⟨h2,h3⟩,h4⟩
      · exact .inr ⟨(r2,q),h1,h2,h3⟩) ?_ ?_
  ·intro ⟨rp,qp⟩ hp;refine Ep (WE.aS (Ep ?_));refine aL λw' hw=>?_;exact .inr ⟨rp,qp,O,by simp only [fL,ld,lf,lg,gy,hp,Option.bind_some,Option.map_some,Option.bind_none,Option.map_none],(by have h:=hw; have h:=Wt 1 h; exact h)⟩
  intro ⟨s14,kH,jk⟩ ⟨oE,qE⟩;have K_:=sB ye oE;refine V0 (Yf CR O) (ak 1 Y O O O bZ O O O (V0 (Yf FD O) (ak 1 Y O O O Ga O O O (Ln (Et (Cs (Cr (V0 (Ym O) ?_))))))));refine Lb Y O dm O O O O λsJ=>?_;refine gg (T:=9) (m:=1) 0 [[61]] O O (show 1<=1 by decide) (by decide) λym Gr=>?_
  refine bg (ι:=(Option Addr×Nat)×Tk) (κ:=(Option Addr×Nat)×Tk) [_] _ Y O gV O O (λ_=>.tuple #[]) (λi=>an gb i.1 i.2) (λi=>bW [[61]] jk=some i.2/\Sl a6 3 HT i.1.1 i.1.2 i.2) (λ_=>bF) (λi=>an gb i.1 i.2) (λ_=>bW [[61]] jk=none) ([HT,ym]) (by simp) (λw hw=>(gU gb HT kH jk ym _ _ [[61]] w Gr qE hw).mono λe w' h=>by
      rcases h with ⟨r2,q,h1,h2,h3,h4⟩ | ⟨r2,q,h1,h2,h3⟩
      · exact .inl ⟨(r2,q),h1,⟨h2,h3⟩,h4⟩
      · exact .inr ⟨(r2,q),h1,h2,h3⟩) ?_ ?_
  ·intro ⟨rp,qp⟩ hp;rw [dr] at hp;refine Ep (WE.aS (Ep ?_));refine aL λw' hw=>?_;exact .inr ⟨rp,qp,O,by simp only [fL,ld,lf,lg,gy,oE,hp,Option.bind_some,Option.map_some,Option.bind_none,Option.map_none],(by have h:=hw; have h:=Wt 1 h; have h:=Ws.bB h (bc:=[HT]) (by simp); exact h)⟩
  intro ⟨pw,j7⟩ ⟨qH,C7⟩;have Ac:=gT K_ qH;rw [dr] at qH;refine Ln (Et (Cr (V0 (Ym O) ?_)))
  refine bg (ι:=(Int)×(Option Addr×Nat)×Tk) (κ:=(Option Addr×Nat)×Tk) [_] _ Y O PI O O (λi=>.int .i64 i.1) (λi=>an gb i.2.1 i.2.2) (λi=>kB j7=some (i.1,i.2.2)/\Sl a6 3 HT i.2.1.1 i.2.1.2 i.2.2) (λ_=>bF) (λi=>an gb i.1 i.2) (λ_=>kB j7=none) ([HT]) (by simp) (λw hw=>(PB gb HT pw j7 w C7 hw).mono λe w' h=>by
      rcases h with ⟨t,r2,q,h1,h2,h3,h4⟩ | ⟨r2,q,h1,h2,h3⟩
      · exact .inl ⟨(t,r2,q),h1,⟨h2,h3⟩,h4⟩
      · exact .inr ⟨(r2,q),h1,h2,h3⟩) ?_ ?_
  ·intro ⟨rp,qp⟩ hp;refine WE.aS (Ep ?_);refine aL λw' hw=>?_;exact .inr ⟨rp,qp,O,by simp only [fL,ld,lf,lg,gy,oE,qH,hp,Option.bind_some,Option.map_some,Option.bind_none,Option.map_none],(by have h:=hw; have h:=Wt 1 h; have h:=Ws.bB h (bc:=[HT]) (by simp); exact h)⟩
  intro ⟨n21,kO,pC⟩ ⟨uG,Qr⟩;have Qt:=PA Ac uG;refine V0 (Yf vU O) (ak 1 Y O O O bZ O O O (Ln (Eb (Et (Cs (Cr (V0 (Ym O) ?_)))))));refine Lb Y O dm O O O O λyi=>?_;refine gg (T:=9) (m:=1) 0 [[59]] O O (show 1<=1 by decide) (by decide) λyo Gu=>?_
  refine bg (ι:=(Option Addr×Nat)×Tk) (κ:=(Option Addr×Nat)×Tk) [_] _ Y O gV O O (λ_=>.tuple #[]) (λi=>an gb i.1 i.2) (λi=>bW [[59]] pC=some i.2/\Sl a6 3 HT i.1.1 i.1.2 i.2) (λ_=>bF) (λi=>an gb i.1 i.2) (λ_=>bW [[59]] pC=none) ([HT,yo]) (by simp) (λw hw=>(gU gb HT kO pC yo _ _ [[59]] w Gu Qr hw).mono λe w' h=>by
      rcases h with ⟨r2,q,h1,h2,h3,h4⟩ | ⟨r2,q,h1,h2,h3⟩
      · exact .inl ⟨(r2,q),h1,⟨h2,h3⟩,h4⟩
      · exact .inr ⟨(r2,q),h1,h2,h3⟩) ?_ ?_
  ·intro ⟨rp,qp⟩ hp;rw [dr] at hp;refine Ep ?_;refine aL λw' hw=>?_;exact .inr ⟨rp,qp,O,by simp only [fL,ld,lf,lg,gy,oE,qH,uG,hp,Option.bind_some,Option.map_some,Option.bind_none,Option.map_none],(by have h:=hw; have h:=Wt 1 h; have h:=Ws.bB h (bc:=[HT]) (by simp); exact h)⟩
  intro ⟨Gv,uH⟩ ⟨sK,Gw⟩;have Z8:=gT Qt sK;rw [dr] at sK;refine Ln (Et (Cs (Cr (V0 (bC 1 O O pt O) (ak 2 Y O O O vX O O O (V0 (Ya O) (Ln (Et (aw ?_)))))))));refine WE.dM (gf O (cU 2 O O pt O) (hY O)) λw' hw=>?_;exact .inl ⟨some ⟨1,s14,aT,n21⟩,Gv,uH,O,by simp only [fL,ld,lf,lg,gy,oE,qH,uG,sK,Option.bind_some,Option.map_some,Option.bind_none,Option.map_none],Gw,Wv 2 (Wt 1 hw)⟩
 obtain ⟨jH,alH⟩:=alF ad;subst alH;refine Cs (Cr (V0 (Ym O) ?_));refine Lw [_] _ Y O gv O O _ _ _ [HT] (by simp) (λw hw=>gw gb HT vR l [118,97,114] w yb hw) ?_;intro ⟨Z9,Kd,Ad⟩ ⟨alI,alJ,Ke⟩;refine V0 (Ya O) (Ln (Et ?_));refine Cc O (λaq=>?_) (λaq=>?_)
 ·have Ae:=alI aq;have Zg:=gS aA Ae;refine Cr (V0 (Ym O) ?_)
  refine bg (ι:=(Tx)×(Option Addr×Nat)×Tk) (κ:=(Option Addr×Nat)×Tk) [_] _ Y O sC O O (λi=>st i.1) (λi=>an gb i.2.1 i.2.2) (λi=>cX Ad=some (i.1,i.2.2)/\Sl a6 3 HT i.2.1.1 i.2.1.2 i.2.2) (λ_=>bF) (λi=>an gb i.1 i.2) (λ_=>cX Ad=none) ([HT]) (by simp) (λw hw=>(sD gb HT Kd Ad w Ke hw).mono λe w' h=>by
      rcases h with ⟨t,r2,q,h1,h2,h3,h4⟩ | ⟨r2,q,h1,h2,h3⟩
      · exact .inl ⟨(t,r2,q),h1,⟨h2,h3⟩,h4⟩
      · exact .inr ⟨(r2,q),h1,h2,h3⟩) ?_ ?_
  ·intro ⟨rp,qp⟩ hp;refine WE.aS (Ep ?_);refine aL λw' hw=>?_;exact .inr ⟨rp,qp,O,by simp only [fL,ld,lf,lg,jH,Ae,hp,Option.bind_some,Option.map_some,Option.bind_none,Option.map_none],(by have h:=hw; have h:=Wt 1 h; exact h)⟩
  intro ⟨s27,Lg,uJ⟩ ⟨uK,Qu⟩;have Qv:=sB Zg uK;refine V0 (Yf CR O) (ak 1 Y O O O bZ O O O (V0 (Yf FD O) (ak 1 Y O O O Ga O O O (Ln (Eb (Et (Cs (Cr (V0 (Ym O) ?_)))))))));refine Lb Y O dm O O O O λyi=>?_;refine gg (T:=9) (m:=1) 0 [[59]] O O (show 1<=1 by decide) (by decide) λyo Gu=>?_
  refine bg (ι:=(Option Addr×Nat)×Tk) (κ:=(Option Addr×Nat)×Tk) [_] _ Y O gV O O (λ_=>.tuple #[]) (λi=>an gb i.1 i.2) (λi=>bW [[59]] uJ=some i.2/\Sl a6 3 HT i.1.1 i.1.2 i.2) (λ_=>bF) (λi=>an gb i.1 i.2) (λ_=>bW [[59]] uJ=none) ([HT,yo]) (by simp) (λw hw=>(gU gb HT Lg uJ yo _ _ [[59]] w Gu Qu hw).mono λe w' h=>by
      rcases h with ⟨r2,q,h1,h2,h3,h4⟩ | ⟨r2,q,h1,h2,h3⟩
      · exact .inl ⟨(r2,q),h1,⟨h2,h3⟩,h4⟩
      · exact .inr ⟨(r2,q),h1,h2,h3⟩) ?_ ?_
  ·intro ⟨rp,qp⟩ hp;rw [dr] at hp;refine Ep ?_;refine aL λw' hw=>?_;exact .inr ⟨rp,qp,O,by simp only [fL,ld,lf,lg,jH,Ae,uK,hp,Option.bind_some,Option.map_some,Option.bind_none,Option.map_none],(by have h:=hw; have h:=Wt 1 h; have h:=Ws.bB h (bc:=[HT]) (by simp); exact h)⟩
  intro ⟨Gv,uH⟩ ⟨sK,Gw⟩;have Z8:=gT Qv sK;rw [dr] at sK;refine Ln (Et (Cs (Cr (V0 (bC 1 O O pt O) (ak 2 Y O O O vX O O O (V0 (Ya O) (Ln (Et (aw ?_)))))))));refine WE.dM (gf O (cU 2 O O pt O) (hY O)) λw' hw=>?_;exact .inl ⟨some ⟨2,s27,aT,0⟩,Gv,uH,O,by simp only [fL,ld,lf,lg,jH,Ae,uK,sK,Option.bind_some,Option.map_some,Option.bind_none,Option.map_none],Gw,Wv 1 (Wt 1 hw)⟩
 obtain ⟨At,alL⟩:=alJ aq;subst alL;refine Cs (Cr (V0 (Ym O) ?_));refine Lw [_] _ Y O gv O O _ _ _ [HT] (by simp) (λw hw=>gw gb HT Kd l [97,114,114,97,121] w Ke hw) ?_;intro ⟨Z',Z_,Qw⟩ ⟨alM,alN,Lh⟩;refine V0 (Ya O) (Ln (Et ?_));refine Cc O (λay=>?_) (λay=>?_)
 ·have Au:=alM ay;have alO:=gS aA Au;refine Cs (Cr (V0 (Ym O) ?_))
  refine bg (ι:=(Tx)×(Option Addr×Nat)×Tk) (κ:=(Option Addr×Nat)×Tk) [_] _ Y O sC O O (λi=>st i.1) (λi=>an gb i.2.1 i.2.2) (λi=>cX Qw=some (i.1,i.2.2)/\Sl a6 3 HT i.2.1.1 i.2.1.2 i.2.2) (λ_=>bF) (λi=>an gb i.1 i.2) (λ_=>cX Qw=none) ([HT]) (by simp) (λw hw=>(sD gb HT Z_ Qw w Lh hw).mono λe w' h=>by
      rcases h with ⟨t,r2,q,h1,h2,h3,h4⟩ | ⟨r2,q,h1,h2,h3⟩
      · exact .inl ⟨(t,r2,q),h1,⟨h2,h3⟩,h4⟩
      · exact .inr ⟨(r2,q),h1,h2,h3⟩) ?_ ?_
  ·intro ⟨rp,qp⟩ hp;refine Ep (WE.aS (Ep ?_));refine aL λw' hw=>?_;exact .inr ⟨rp,qp,O,by simp only [fL,ld,lf,lg,jH,At,Au,hp,Option.bind_some,Option.map_some,Option.bind_none,Option.map_none],(by have h:=hw; have h:=Wt 1 h; exact h)⟩
  intro ⟨s34,F2,Ah⟩ ⟨wb,Kf⟩;have Zi:=sB alO wb;refine V0 (Yf CR O) (ak 1 Y O O O bZ O O O (V0 (Yf FD O) (ak 1 Y O O O Ga O O O (Ln (Et (Cs (Cr (V0 (Ym O) ?_))))))));refine Lb Y O dm O O O O λwc=>?_;refine gg (T:=9) (m:=1) 0 [[91]] O O (show 1<=1 by decide) (by decide) λGx Qx=>?_
  refine bg (ι:=(Option Addr×Nat)×Tk) (κ:=(Option Addr×Nat)×Tk) [_] _ Y O gV O O (λ_=>.tuple #[]) (λi=>an gb i.1 i.2) (λi=>bW [[91]] Ah=some i.2/\Sl a6 3 HT i.1.1 i.1.2 i.2) (λ_=>bF) (λi=>an gb i.1 i.2) (λ_=>bW [[91]] Ah=none) ([HT,Gx]) (by simp) (λw hw=>(gU gb HT F2 Ah Gx _ _ [[91]] w Qx Kf hw).mono λe w' h=>by
      rcases h with ⟨r2,q,h1,h2,h3,h4⟩ | ⟨r2,q,h1,h2,h3⟩
      · exact .inl ⟨(r2,q),h1,⟨h2,h3⟩,h4⟩
      · exact .inr ⟨(r2,q),h1,h2,h3⟩) ?_ ?_
  ·intro ⟨rp,qp⟩ hp;rw [dr] at hp;refine Ep (WE.aS (Ep ?_));refine aL λw' hw=>?_;exact .inr ⟨rp,qp,O,by simp only [fL,ld,lf,lg,jH,At,Au,wb,hp,Option.bind_some,Option.map_some,Option.bind_none,Option.map_none],(by have h:=hw; have h:=Wt 1 h; have h:=Ws.bB h (bc:=[HT]) (by simp); exact h)⟩
  intro ⟨K2,oI⟩ ⟨pB,K3⟩;have K4:=gT Zi pB;rw [dr] at pB;refine Ln (Et (Cs (Cr (V0 (Ym O) ?_))))
  refine bg (ι:=(Int)×(Option Addr×Nat)×Tk) (κ:=(Option Addr×Nat)×Tk) [_] _ Y O PI O O (λi=>.int .i64 i.1) (λi=>an gb i.2.1 i.2.2) (λi=>kB oI=some (i.1,i.2.2)/\Sl a6 3 HT i.2.1.1 i.2.1.2 i.2.2) (λ_=>bF) (λi=>an gb i.1 i.2) (λ_=>kB oI=none) ([HT]) (by simp) (λw hw=>(PB gb HT K2 oI w K3 hw).mono λe w' h=>by
      rcases h with ⟨t,r2,q,h1,h2,h3,h4⟩ | ⟨r2,q,h1,h2,h3⟩
      · exact .inl ⟨(t,r2,q),h1,⟨h2,h3⟩,h4⟩
      · exact .inr ⟨(r2,q),h1,h2,h3⟩) ?_ ?_
  ·intro ⟨rp,qp⟩ hp;refine Ep (WE.aS (Ep ?_));refine aL λw' hw=>?_;exact .inr ⟨rp,qp,O,by simp only [fL,ld,lf,lg,jH,At,Au,wb,pB,hp,Option.bind_some,Option.map_some,Option.bind_none,Option.map_none],(by have h:=hw; have h:=Wt 1 h; have h:=Ws.bB h (bc:=[HT]) (by simp); exact h)⟩
  intro ⟨n41,cQ,uL⟩ ⟨sL,Qy⟩;have Qz:=PA K4 sL;refine V0 (Yf vU O) (ak 1 Y O O O bZ O O O (Ln (Et (Cr (V0 (Ym O) ?_)))));refine Lb Y O dm O O O O λb44=>?_;refine gg (T:=9) (m:=1) 0 [[93]] O O (show 1<=1 by decide) (by decide) λH44 alQ=>?_
  refine bg (ι:=(Option Addr×Nat)×Tk) (κ:=(Option Addr×Nat)×Tk) [_] _ Y O gV O O (λ_=>.tuple #[]) (λi=>an gb i.1 i.2) (λi=>bW [[93]] uL=some i.2/\Sl a6 3 HT i.1.1 i.1.2 i.2) (λ_=>bF) (λi=>an gb i.1 i.2) (λ_=>bW [[93]] uL=none) ([HT,H44]) (by simp) (λw hw=>(gU gb HT cQ uL H44 _ _ [[93]] w alQ Qy hw).mono λe w' h=>by
      rcases h with ⟨r2,q,h1,h2,h3,h4⟩ | ⟨r2,q,h1,h2,h3⟩
      · exact .inl ⟨(r2,q),h1,⟨h2,h3⟩,h4⟩
      · exact .inr ⟨(r2,q),h1,h2,h3⟩) ?_ ?_
  ·intro ⟨rp,qp⟩ hp;rw [dr] at hp;refine WE.aS (Ep ?_);refine aL λw' hw=>?_;exact .inr ⟨rp,qp,O,by simp only [fL,ld,lf,lg,jH,At,Au,wb,pB,sL,hp,Option.bind_some,Option.map_some,Option.bind_none,Option.map_none],(by have h:=hw; have h:=Wt 1 h; have h:=Ws.bB h (bc:=[HT]) (by simp); exact h)⟩
  intro ⟨Dc,nE⟩ ⟨qJ,Dd⟩;have Am:=gT Qz qJ;rw [dr] at qJ;refine Ln (Eb (Et (Cs (Cr (V0 (Ym O) ?_)))));refine Lb Y O dm O O O O λyi=>?_;refine gg (T:=9) (m:=1) 0 [[59]] O O (show 1<=1 by decide) (by decide) λyo Gu=>?_
  refine bg (ι:=(Option Addr×Nat)×Tk) (κ:=(Option Addr×Nat)×Tk) [_] _ Y O gV O O (λ_=>.tuple #[]) (λi=>an gb i.1 i.2) (λi=>bW [[59]] nE=some i.2/\Sl a6 3 HT i.1.1 i.1.2 i.2) (λ_=>bF) (λi=>an gb i.1 i.2) (λ_=>bW [[59]] nE=none) ([HT,yo]) (by simp) (λw hw=>(gU gb HT Dc nE yo _ _ [[59]] w Gu Dd hw).mono λe w' h=>by
      rcases h with ⟨r2,q,h1,h2,h3,h4⟩ | ⟨r2,q,h1,h2,h3⟩
      · exact .inl ⟨(r2,q),h1,⟨h2,h3⟩,h4⟩
      · exact .inr ⟨(r2,q),h1,h2,h3⟩) ?_ ?_
  ·intro ⟨rp,qp⟩ hp;rw [dr] at hp;refine Ep ?_;refine aL λw' hw=>?_;exact .inr ⟨rp,qp,O,by simp only [fL,ld,lf,lg,jH,At,Au,wb,pB,sL,qJ,hp,Option.bind_some,Option.map_some,Option.bind_none,Option.map_none],(by have h:=hw; have h:=Wt 1 h; have h:=Ws.bB h (bc:=[HT]) (by simp); exact h)⟩
  intro ⟨Gv,uH⟩ ⟨sK,Gw⟩;have Z8:=gT Am sK;rw [dr] at sK;refine Ln (Et (Cs (Cr (V0 (bC 1 O O pt O) (ak 2 Y O O O vX O O O (V0 (Ya O) (Ln (Et (aw ?_)))))))));refine WE.dM (gf O (cU 2 O O pt O) (hY O)) λw' hw=>?_;exact .inl ⟨some ⟨3,s34,aT,n41⟩,Gv,uH,O,by simp only [fL,ld,lf,lg,jH,At,Au,wb,pB,sL,qJ,sK,Option.bind_some,Option.map_some,Option.bind_none,Option.map_none],Gw,Wv 3 (Wt 1 hw)⟩
 obtain ⟨oK,alR⟩:=alN ay;subst alR;refine Cs (Cr (V0 (bC 1 O O pt O) (ak 2 Y O O O vX O O O (V0 (Ya O) (Ln (Et (aw (bt (Er ?_)))))))));refine WE.dM (gf O (cU 2 O O pt O) (hY O)) λw' hw=>?_;exact .inl ⟨none,Z_,l,O,by simp only [fL,ld,lf,lg,jH,At,oK,Option.bind_some,Option.map_some,Option.bind_none,Option.map_none],Lh,Wt 1 hw⟩
def Gy (nm:Tx) (aT:Bool) (a1:Option Addr) (n1 c1:Nat) (a2:Option Addr) (n2 c2:Nat) (a3:Option Addr) (n3 c3:Nat):List Value:=[st nm,.bool aT,.slice a1 n1 c1,.slice a2 n2 c2,.slice a3 n3 c3]
theorem aab:fh Tryz.prog 213=some [(0,1),(1,1),(2,1),(3,1),(4,1)]:=by kernel_rfl
theorem Li:cG Tryz.prog 22=some 1:=by kernel_rfl
theorem alS (gb:Nat) (HT:View) (r:Option Addr×Nat) (l:Tk) (aT:Bool) (w:World) (aA:bT l) (hm:Sl a6 3 HT r.1 r.2 l) (hw:Ws w (List.flatMap ao.ids (an gb r l)) (an gb r l) [HT] w) :
   Calls Tryz.prog 147 #[.pointer (some ⟨gb,0,none⟩),.bool aT] w λe w'=>(∃(p:dO) (s:Dl) (r2:Option Addr×Nat) (q:Tk),e = .returned (.agg #[st (p).nm,.bool (p).aT,.slice (s).s1.1 (p).params.length (s).s1.2,.slice (s).s2.1 (p).ax.length (s).s2.2,.slice (s).s3.1 (p).body.length (s).s3.2])/\jg aT l=some (p,q)/\Ar (nv w w') p s/\Sl a6 3 HT r2.1 r2.2 q/\Ws w (List.flatMap ao.ids (an gb r l)) (an gb r2 q) [HT] w')\/(∃(r2:Option Addr×Nat) (q:Tk),e = .panicked bF/\jg aT l=none/\Ws w (List.flatMap ao.ids (an gb r l)) (an gb r2 q) [HT] w'):=by
 refine enter Tryz.func147 O 46 O O ?_;refine CE hw (Cs (Cr ?_));refine Al Y O x6 λb4=>?_;refine bI 0 (.cells (Gy [] false none 0 0 none 0 0 none 0 0).toArray 213 (0,0)) O O (Ln (Et (Cs (Cr (V0 (Ym O) (V0 (Ym O) (Lf 1 O ?_)))))))
 refine bg (ι:=(Tx)×(Option Addr×Nat)×Tk) (κ:=(Option Addr×Nat)×Tk) [_] _ Y O sC O O (λi=>st i.1) (λi=>an gb i.2.1 i.2.2) (λi=>cX l=some (i.1,i.2.2)/\Sl a6 3 HT i.2.1.1 i.2.1.2 i.2.2) (λ_=>bF) (λi=>an gb i.1 i.2) (λ_=>cX l=none) ([HT]) (by simp) (λw hw=>(sD gb HT r l w hm hw).mono λe w' h=>by
     rcases h with ⟨t,r2,q,h1,h2,h3,h4⟩ | ⟨r2,q,h1,h2,h3⟩
     · exact .inl ⟨(t,r2,q),h1,⟨h2,h3⟩,h4⟩
     · exact .inr ⟨(r2,q),h1,h2,h3⟩) ?_ ?_
 ·intro ⟨rp,qp⟩ hp;refine Ep ?_;refine aL λw' hw=>?_;exact .inr ⟨rp,qp,O,by simp only [jg,hp,Option.bind_none],(by have h:=hw; have h:=Wt 1 h; exact h)⟩
 intro ⟨s8,r8,q8⟩ ⟨oF,J8⟩;have PC:=sB aA oF;refine V0 (Yb x6 aab O O) ?_;refine Al Y O x6 λb5=>?_;refine ak 0 Y O O O C1 O O O (LW (λ_ h=>h.fj 9 1) (LW (λ_ h=>h.fj 9 1) (Ln (Et (Cs (Cr (V0 (Ym O) ?_)))))));refine Lb Y O dm O O O O λsA=>?_;refine gg (T:=9) (m:=1) 0 [[40]] O O (show 1<=1 by decide) (by decide) λDk Gn=>?_;refine Lf 3 O ?_
 refine bg (ι:=(Option Addr×Nat)×Tk) (κ:=(Option Addr×Nat)×Tk) [_] _ Y O gV O O (λ_=>.tuple #[]) (λi=>an gb i.1 i.2) (λi=>bW [[40]] q8=some i.2/\Sl a6 3 HT i.1.1 i.1.2 i.2) (λ_=>bF) (λi=>an gb i.1 i.2) (λ_=>bW [[40]] q8=none) ([HT,Dk]) (by simp) (λw hw=>(gU gb HT r8 q8 Dk _ _ [[40]] w Gn J8 hw).mono λe w' h=>by
     rcases h with ⟨r2,q,h1,h2,h3,h4⟩ | ⟨r2,q,h1,h2,h3⟩
     · exact .inl ⟨(r2,q),h1,⟨h2,h3⟩,h4⟩
     · exact .inr ⟨(r2,q),h1,h2,h3⟩) ?_ ?_
 ·intro ⟨rp,qp⟩ hp;rw [dr] at hp;refine Ep ?_;refine aL λw' hw=>?_;exact .inr ⟨rp,qp,O,by simp only [jg,oF,hp,Option.bind_some,Option.bind_none],(by have h:=hw; have h:=Wt 1 h; have h:=Ws.bB h (bc:=[HT]) (by simp); exact h)⟩
 intro ⟨vR,eD⟩ ⟨gy,yb⟩;have ye:=gT PC gy;rw [dr] at gy;refine Ln (Et (Cs (Cb ?_)));refine ct (ι:=GN) (λg=>[]) [(0,_),(4,_),(5,_)] (λg=>Ws w (List.flatMap ao.ids (an gb r l)) (an gb g.r g.q++[ab b5 (.cells (Gy s8 aT g.a g.ps.length g.c none 0 0 none 0 0).toArray 213 (0,0)),bj 9 1 dJ g.a g.c g.ps,(bj 9 1 dJ none 0 ([]:List Tx)),ab b4 (.cells (Gy [] false none 0 0 none 0 0 none 0 0).toArray 213 (0,0))]) [HT]) (λg=>(g.ps.length+g.q.length<=l.length/\bT g.q)/\Sl a6 3 HT g.r.1 g.r.2 g.q/\∃n,g.q.length<n/\jf (eD.length+1) true eD=(jf n (isNil g.ps) g.q).map λp=>(g.ps++p.1,p.2)) (λg=>g.q.length) ⟨[],none,0,vR,eD⟩ ⟨⟨by have:q8.length<l.length:=oJ aA oF; have:eD.length+1=q8.length:=gR gy; simp; omega,ye⟩,yb,eD.length+1,by simp,by simp [isNil]⟩ (sc O (sc O (sc O sn))) (λ_ h=>by have h:=h.ar 4 O; have h:=h.ar 3 O; have h:=h.ar 3 O; have h:=h.ar 4 O; have h:=h.ar 4 O; have h:=Ws.bB h (bc:=[HT]) (by simp); exact h) ?_;intro g ⟨⟨hlen,lu⟩,qD,hA⟩;refine Cs (Cs (Cr (V0 (Ym O) ?_)));refine Lw [_] _ Y O gv O O _ _ _ [HT] (by simp) (λw hw=>gw gb HT g.r g.q [41] w qD hw) ?_;intro ⟨z_,kH,jk⟩ ⟨FT,FU,qE⟩;refine V0 (dw O) (Ln (Et ?_));refine Cc O (λad=>?_) (λad=>?_)
 ·obtain ⟨iQ,J6⟩:=FU (by simpa using ad);subst J6;obtain ⟨n,hn,hA⟩:=hA;obtain ⟨n,rfl⟩:∃k,n=k+1:=⟨n-1,by omega⟩;refine Ck (Et (Cb (Cs (Cs (Cr (V0 (Yf uo O) (V0 (Yd 1 O O O eH) (V0 (Yn dA O) (V0 (bX O O) (Ln (Et ?_)))))))))));refine Cc O (λaq=>?_) (λaq=>?_)
  ·have QA:0<g.ps.length:=by simpa using aq
   rw [aln QA] at hA;refine Cr (V0 (Ym O) ?_);refine Lb Y O dm O O O O λQB=>?_;refine gg (T:=9) (m:=1) 0 [[44]] O O (show 1<=1 by decide) (by decide) λH21 alT=>?_
   refine bg (ι:=(Option Addr×Nat)×Tk) (κ:=(Option Addr×Nat)×Tk) [_] _ Y O gV O O (λ_=>.tuple #[]) (λi=>an gb i.1 i.2) (λi=>bW [[44]] g.q=some i.2/\Sl a6 3 HT i.1.1 i.1.2 i.2) (λ_=>bF) (λi=>an gb i.1 i.2) (λ_=>bW [[44]] g.q=none) ([HT,H21]) (by simp) (λw hw=>(gU gb HT kH g.q H21 _ _ [[44]] w alT qE hw).mono λe w' h=>by
       rcases h with ⟨r2,q,h1,h2,h3,h4⟩ | ⟨r2,q,h1,h2,h3⟩
       · exact .inl ⟨(r2,q),h1,⟨h2,h3⟩,h4⟩
       · exact .inr ⟨(r2,q),h1,h2,h3⟩) ?_ ?_
   ·intro ⟨rp,qp⟩ hp;rw [dr] at hp;refine Ep (WE.aS (Ep (WE.aS (Ep ?_))));refine aL λw' hw=>?_;rw [alj iQ hp] at hA;exact .inr ⟨rp,qp,O,by simp only [jg,oF,gy,hA,Option.bind_some,Option.bind_none,Option.map_none],(by have h:=hw; have h:=Wt 1 h; have h:=Ws.bB h (bc:=[HT]) (by simp); exact h)⟩
   intro ⟨PK,nD⟩ ⟨qI,PL⟩;have C8:=gT lu qI;rw [dr] at qI;refine Ln (Et ?_);refine CU (λ_=>true) [0,1] [6,7] (.q false 0 (.q true 1 (.q false 2 (.e 3 (.e 4 (.e 5 .nil .stop) .stop) .stop)))) mixed (by kernel_rfl) (λ_ _ _ d _ _ h=>by cases d<;>exact h) ?_;refine U0 O (bw [0,1]) (Yf uo O) (U0 O (bw [0,1]) (Yd 0 O O O eH) (U0 O (bw [0,1]) (Ym O) ?_));refine Ue O (bw [0,1]) ?_ WU.stop
   refine bg (ι:=(Tx)×(Option Addr×Nat)×Tk) (κ:=(Option Addr×Nat)×Tk) [_] _ Y O sC O O (λi=>st i.1) (λi=>an gb i.2.1 i.2.2) (λi=>cX nD=some (i.1,i.2.2)/\Sl a6 3 HT i.2.1.1 i.2.1.2 i.2.2) (λ_=>bF) (λi=>an gb i.1 i.2) (λ_=>cX nD=none) ([HT]) (by simp) (λw hw=>(sD gb HT PK nD w PL hw).mono λe w' h=>by
       rcases h with ⟨t,r2,q,h1,h2,h3,h4⟩ | ⟨r2,q,h1,h2,h3⟩
       · exact .inl ⟨(t,r2,q),h1,⟨h2,h3⟩,h4⟩
       · exact .inr ⟨(r2,q),h1,h2,h3⟩) ?_ ?_
   ·intro ⟨rp,qp⟩ hp;refine Ep (WE.aS (Ep (WE.aS (Ep ?_))));refine aL λw' hw=>?_;rw [alk iQ qI hp] at hA;exact .inr ⟨rp,qp,O,by simp only [jg,oF,gy,hA,Option.bind_some,Option.bind_none,Option.map_none],(by have h:=hw; have h:=Wt 1 h; have h:=Ws.bB h (bc:=[HT]) (by simp); exact h)⟩
   intro ⟨wj,Ge,j9⟩ ⟨nF,Gf⟩;have Gg:=sB C8 nF;refine Ln (Eu ?_);refine Ue O (bw [0,1]) ?_ WU.stop;refine Lb Y O dm O O O O λGz=>?_;refine bI 0 (.cells (dJ wj).toArray 9 (0,0)) O O (Ln (Eu ?_));refine Ue O (λ_ h=>(Wo 1 (Wo 0 (Wd 1 h)):)) ?_ WU.stop;refine LA (wj:Tx) 3 0 Y O dm O O O O O O (by have:=aA.len; omega) (by have:=aA.len; omega) λa28 c28=>?_;refine Ln (Eu ?_);refine WU.nil (λ_ h=>(Wo 1 (Wo 0 (Wd 1 h)):)) ?_;refine WS.e O ?_;refine V0 (Yf uo O) (Ln (Es ?_));refine WS.e O ?_;refine ak 2 Y O O O Li O O O (Ln (Es ?_));refine WS.nil ?_;refine Eb ?_
   exact Ea (⟨g.ps++[wj],a28,c28,Ge,j9⟩:GN) (by have:j9.length<nD.length:=oJ C8 nF; have:nD.length+1=g.q.length:=gR qI; show j9.length<g.q.length; omega) ⟨⟨by have:j9.length<nD.length:=oJ C8 nF; have:nD.length+1=g.q.length:=gR qI; simp; omega,Gg⟩,Gf,n,(show j9.length<n by have:j9.length<nD.length:=oJ C8 nF; have:nD.length+1=g.q.length:=gR qI; omega),by rw [hA,ali iQ qI nF,Z6]; simp [Function.comp_def]⟩ (sc O (sc O (sc O sn))) (λ_ h=>by
       have h:=h.ar 5 rfl;have h:=h.ar 5 rfl;have h:=h.ar 5 rfl;have h:=h.ar 5 rfl;have h:=h.ar 5 rfl;have h:=Wt 5 h;have h:=Ws.bB h (bc:=[HT]) (by simp)
       exact h)
  have QA:¬0<g.ps.length:=by simpa using aq
  rw [alm QA] at hA;refine Ck (Et ?_);refine CU (λ_=>true) [0,1] [6,7] (.q false 0 (.q true 1 (.q false 2 (.e 3 (.e 4 (.e 5 .nil .stop) .stop) .stop)))) mixed (by kernel_rfl) (λ_ _ _ d _ _ h=>by cases d<;>exact h) ?_;refine U0 O (bw [0,1]) (Yf uo O) (U0 O (bw [0,1]) (Yd 0 O O O eH) (U0 O (bw [0,1]) (Ym O) ?_));refine Ue O (bw [0,1]) ?_ WU.stop
  refine bg (ι:=(Tx)×(Option Addr×Nat)×Tk) (κ:=(Option Addr×Nat)×Tk) [_] _ Y O sC O O (λi=>st i.1) (λi=>an gb i.2.1 i.2.2) (λi=>cX g.q=some (i.1,i.2.2)/\Sl a6 3 HT i.2.1.1 i.2.1.2 i.2.2) (λ_=>bF) (λi=>an gb i.1 i.2) (λ_=>cX g.q=none) ([HT]) (by simp) (λw hw=>(sD gb HT kH g.q w qE hw).mono λe w' h=>by
      rcases h with ⟨t,r2,q,h1,h2,h3,h4⟩ | ⟨r2,q,h1,h2,h3⟩
      · exact .inl ⟨(t,r2,q),h1,⟨h2,h3⟩,h4⟩
      · exact .inr ⟨(r2,q),h1,h2,h3⟩) ?_ ?_
  ·intro ⟨rp,qp⟩ hp;refine Ep (WE.aS (Ep (WE.aS (Ep ?_))));refine aL λw' hw=>?_;rw [alh iQ hp] at hA;exact .inr ⟨rp,qp,O,by simp only [jg,oF,gy,hA,Option.bind_some,Option.bind_none,Option.map_none],(by have h:=hw; have h:=Wt 1 h; exact h)⟩
  intro ⟨wj,Ge,j9⟩ ⟨nF,Gf⟩;have Gg:=sB lu nF;refine Ln (Eu ?_);refine Ue O (bw [0,1]) ?_ WU.stop;refine Lb Y O dm O O O O λGz=>?_;refine bI 0 (.cells (dJ wj).toArray 9 (0,0)) O O (Ln (Eu ?_));refine Ue O (λ_ h=>(Wo 1 (Wo 0 (Wd 1 h)):)) ?_ WU.stop;refine LA (wj:Tx) 3 0 Y O dm O O O O O O (by have:=aA.len; omega) (by have:=aA.len; omega) λa28 c28=>?_;refine Ln (Eu ?_);refine WU.nil (λ_ h=>(Wo 1 (Wo 0 (Wd 1 h)):)) ?_;refine WS.e O ?_;refine V0 (Yf uo O) (Ln (Es ?_));refine WS.e O ?_;refine ak 2 Y O O O Li O O O (Ln (Es ?_));refine WS.nil ?_;refine Eb ?_
  exact Ea (⟨g.ps++[wj],a28,c28,Ge,j9⟩:GN) (by have:j9.length<g.q.length:=oJ lu nF; show j9.length<g.q.length; omega) ⟨⟨by have:j9.length<g.q.length:=oJ lu nF; simp; omega,Gg⟩,Gf,n,(show j9.length<n by have:j9.length<g.q.length:=oJ lu nF; omega),by rw [hA,alg iQ nF,Z6]; simp [Function.comp_def]⟩ (sc O (sc O (sc O sn))) (λ_ h=>by
      have h:=h.ar 5 rfl;have h:=h.ar 5 rfl;have h:=h.ar 5 rfl;have h:=h.ar 5 rfl;have h:=h.ar 5 rfl;have h:=Wt 5 h;have h:=Ws.bB h (bc:=[HT]) (by simp)
      exact h)
 have oE:=FT (by simpa using ad);have K_:=gS lu oE;obtain ⟨n,hn,hA⟩:=hA;obtain ⟨n,rfl⟩:∃k,n=k+1:=⟨n-1,by omega⟩;rw [alf oE] at hA;simp at hA;refine Ce (Ex (Ex (bK (Et (Cs (Cb ?_))))));refine ct (ι:=GN) (λv=>[]) [(0,_),(4,_),(5,_)] (λv=>Ws w (List.flatMap ao.ids (an gb r l)) (an gb v.r v.q++[ab b5 (.cells (Gy s8 aT g.a g.ps.length g.c v.a v.ps.length v.c none 0 0).toArray 213 (0,0)),bj 9 1 dJ g.a g.c g.ps,bj 9 1 dJ v.a v.c v.ps,ab b4 (.cells (Gy [] false none 0 0 none 0 0 none 0 0).toArray 213 (0,0))]) [HT]) (λv=>(v.ps.length+v.q.length<=l.length/\bT v.q)/\Sl a6 3 HT v.r.1 v.r.2 v.q/\∃n,v.q.length<n/\lS (jk.length+1) jk=(lS n v.q).map λp=>(v.ps++p.1,p.2)) (λv=>v.q.length) ⟨[],none,0,kH,jk⟩ ⟨⟨by have:jk.length+1=g.q.length:=gR oE; simp; omega,K_⟩,qE,jk.length+1,by simp,by simp⟩ (sc O (sc O (sc O sn))) (λ_ h=>h) ?_;intro v ⟨⟨alU,Av⟩,QC,hB⟩;refine Cs (Cs (Cr (V0 (Ym O) ?_)));refine Lw [_] _ Y O gv O O _ _ _ [HT] (by simp) (λw hw=>gw gb HT v.r v.q [108,111,99,97,108] w QC hw) ?_;intro ⟨KS,Gh,oH⟩ ⟨Qf,Qg,Gj⟩;refine Ln (Et ?_);refine Cc O (λay=>?_) (λay=>?_)
 ·have lV:=Qf ay;have yk:=gS Av lV;obtain ⟨n,hn,hB⟩:=hB;obtain ⟨n,rfl⟩:∃k,n=k+1:=⟨n-1,by omega⟩;refine Ck (Et (Cb (Cs ?_)));refine CU (λ_=>true) [0,2] [6,7] (.q false 0 (.q true 1 (.q false 2 (.e 3 (.e 4 (.e 5 .nil .stop) .stop) .stop)))) mixed (by kernel_rfl) (λ_ _ _ d _ _ h=>by cases d<;>exact h) ?_;refine U0 O (bw [0,2]) (Yf C2 O) (U0 O (bw [0,2]) (Yd 0 O O O eH) (U0 O (bw [0,2]) (Ym O) ?_));refine Ue O (bw [0,2]) ?_ WU.stop
  refine bg (ι:=(Tx)×(Option Addr×Nat)×Tk) (κ:=(Option Addr×Nat)×Tk) [_] _ Y O sC O O (λi=>st i.1) (λi=>an gb i.2.1 i.2.2) (λi=>cX oH=some (i.1,i.2.2)/\Sl a6 3 HT i.2.1.1 i.2.1.2 i.2.2) (λ_=>bF) (λi=>an gb i.1 i.2) (λ_=>cX oH=none) ([HT]) (by simp) (λw hw=>(sD gb HT Gh oH w Gj hw).mono λe w' h=>by
      rcases h with ⟨t,r2,q,h1,h2,h3,h4⟩ | ⟨r2,q,h1,h2,h3⟩
      · exact .inl ⟨(t,r2,q),h1,⟨h2,h3⟩,h4⟩
      · exact .inr ⟨(r2,q),h1,h2,h3⟩) ?_ ?_
  ·intro ⟨rp,qp⟩ hp;refine Ep (Ep (WE.aS (Ep (WE.aS (Ep ?_)))));refine aL λw' hw=>?_;rw [alq lV hp] at hB;exact .inr ⟨rp,qp,O,by simp only [jg,oF,gy,hA,hB,Option.bind_some,Option.bind_none,Option.map_none],(by have h:=hw; have h:=Wt 1 h; exact h)⟩
  intro ⟨QD,r35,wu⟩ ⟨Dm,alW⟩;have alX:=sB yk Dm;refine Ln (Eu ?_);refine Ue O (bw [0,2]) ?_ WU.stop;refine Lb Y O dm O O O O λb36=>?_;refine bI 0 (.cells (dJ QD).toArray 9 (0,0)) O O (Ln (Eu ?_));refine Ue O (λ_ h=>(Wo 2 (Wo 0 (Wd 1 h)):)) ?_ WU.stop;refine LA (QD:Tx) 4 0 Y O dm O O O O O O (by have:=aA.len; omega) (by have:=aA.len; omega) λa37 c37=>?_;refine Ln (Eu ?_);refine WU.nil (λ_ h=>(Wo 2 (Wo 0 (Wd 1 h)):)) ?_;refine WS.e O ?_;refine V0 (Yf C2 O) (Ln (Es ?_));refine WS.e O ?_;refine ak 2 Y O O O Li O O O (Ln (Es ?_));refine WS.nil ?_;refine Et (Cr (V0 (Ym O) ?_));refine Lb Y O dm O O O O λuz=>?_;refine gg (T:=9) (m:=1) 0 [[59]] O O (show 1<=1 by decide) (by decide) λK5 Gm=>?_;refine Lf 1 O ?_
  refine bg (ι:=(Option Addr×Nat)×Tk) (κ:=(Option Addr×Nat)×Tk) [_] _ Y O gV O O (λ_=>.tuple #[]) (λi=>an gb i.1 i.2) (λi=>bW [[59]] wu=some i.2/\Sl a6 3 HT i.1.1 i.1.2 i.2) (λ_=>bF) (λi=>an gb i.1 i.2) (λ_=>bW [[59]] wu=none) ([HT,K5]) (by simp) (λw hw=>(gU gb HT r35 wu K5 _ _ [[59]] w Gm alW hw).mono λe w' h=>by
      rcases h with ⟨r2,q,h1,h2,h3,h4⟩ | ⟨r2,q,h1,h2,h3⟩
      · exact .inl ⟨(r2,q),h1,⟨h2,h3⟩,h4⟩
      · exact .inr ⟨(r2,q),h1,h2,h3⟩) ?_ ?_
  ·intro ⟨rp,qp⟩ hp;rw [dr] at hp;refine WE.aS (Ep (WE.aS (Ep ?_)));refine aL λw' hw=>?_;rw [alr lV Dm hp] at hB;exact .inr ⟨rp,qp,O,by simp only [jg,oF,gy,hA,hB,Option.bind_some,Option.bind_none,Option.map_none],(by have h:=hw; have h:=Wt 1 h; have h:=Ws.bB h (bc:=[HT]) (by simp); exact h)⟩
  intro ⟨cQ,uL⟩ ⟨sL,Qy⟩;have Qz:=gT alX sL;rw [dr] at sL;refine Ln (Eb ?_)
  exact Ea (⟨v.ps++[QD],a37,c37,cQ,uL⟩:GN) (by have:oH.length+1=v.q.length:=gR lV; have:wu.length<oH.length:=oJ yk Dm; have:uL.length+1=wu.length:=gR sL; show uL.length<v.q.length; omega) ⟨⟨by have:oH.length+1=v.q.length:=gR lV; have:wu.length<oH.length:=oJ yk Dm; have:uL.length+1=wu.length:=gR sL; simp; omega,Qz⟩,Qy,n,(show uL.length<n by have:oH.length+1=v.q.length:=gR lV; have:wu.length<oH.length:=oJ yk Dm; have:uL.length+1=wu.length:=gR sL; omega),by rw [hB,alp lV Dm sL]; simp [Function.comp_def]⟩ (sc O (sc O (sc O sn))) (λ_ h=>by
      have h:=h.ar 5 rfl;have h:=h.ar 5 rfl;have h:=h.ar 5 rfl;have h:=h.ar 5 rfl;have h:=h.ar 4 rfl;have h:=Wt 5 h;have h:=Ws.bB h (bc:=[HT]) (by simp)
      exact h)
 obtain ⟨Di,Qj⟩:=Qg ay;subst Qj;obtain ⟨n,hn,hB⟩:=hB;obtain ⟨n,rfl⟩:∃k,n=k+1:=⟨n-1,by omega⟩;rw [alo Di] at hB;simp at hB;refine Ce (Ex (Ex (bK (Et (Cs (Cr (V0 (Ym O) ?_)))))))
 refine iL (ι:=((List aR)×(Option Addr×Nat))×(Option Addr×Nat)×Tk) (κ:=(Option Addr×Nat)×Tk) [_] _ Y O F' O O (λi=>.slice i.1.2.1 i.1.1.length i.1.2.2) (λi=>an gb i.2.1 i.2.2) (λF i=>fq 6 v.q=some (i.1.1,i.2.2)/\Sl (iz 7 6) 6 F i.1.2.1 i.1.2.2 i.1.1/\Sl a6 3 HT i.2.1.1 i.2.1.2 i.2.2) (λ_=>bF) (λi=>an gb i.1 i.2) (λ_=>fq 6 v.q=none) ([HT]) (by simp) (λ_ _ h=>h) (λw hw=>(Z4 HT 6 gb Gh v.q (1) w (by omega) Av Gj hw).mono λe w' h=>by
     rcases h with ⟨x,s,r2,q,h1,h2,h3,h4,h5⟩ | ⟨r2,q,h1,h2,h3⟩
     · exact .inl ⟨((x,s),r2,q),h1,⟨h2,h3,h4⟩,h5⟩
     · exact .inr ⟨(r2,q),h1,h2,h3⟩) ?_ ?_
 ·intro ⟨rp,qp⟩ hp;refine Ep ?_;refine aL λw' hw=>?_;exact .inr ⟨rp,qp,O,by simp only [jg,oF,gy,hA,hB,hp,Option.bind_some,Option.bind_none,Option.map_none],(by have h:=hw; have h:=Wt 1 h; exact h)⟩
 intro F43 ⟨⟨alY,s43⟩,r43,q43⟩ al1 ⟨aae,al2,al3⟩;have awa:bT q43:=F4 Av aae;refine V0 (Yf Pv O) (ak 1 Y O O O F_ O O O (Ln (Et (Cs ?_))));refine WC.p_ (rd:=rdStr) 2 O (λk hk=>by simp [an,ab] at hk; subst hk; simp [dv,an,ab,dF]) lK (λ_ _ _ _ h=>h) λKP GB GC=>?_;refine WC.p_ (rd:=rdStr) 2 O (λk hk=>by simp [an,ab] at hk; subst hk; simp [dv,an,ab,dF]) lK (λ_ _ _ _ h=>h) λKL fKL hKL=>?_;refine Cr (V0 (bC 1 O O C0 O) (ak 2 Y O O O C1 O O O (Ln (Et (aw ?_)))));refine WE.dM (gA O (cU 2 O O C0 O)) λw' hw=>?_;exact .inl ⟨⟨s8,aT,g.ps,v.ps,alY⟩,⟨(g.a,g.c),(v.a,v.c),s43⟩,r43,q43,O,by simp only [jg,oF,gy,hA,hB,aae,Option.bind_some,Option.map_some],⟨wq GC (bJ hw (by simp) GB),wq hKL (bJ hw (by simp) fKL),wi al2 (bJ hw (by simp) al1)⟩,al3,Wv 3 (Wt 1 hw)⟩
structure GU where
 us:List Tx
 a:Option Addr
 c:Nat
 r:Option Addr×Nat
 q:Tk
def oL (nm:Tx) (a1:Option Addr) (n1 c1:Nat) (a2:Option Addr) (n2 c2:Nat) (a3:Option Addr) (n3 c3:Nat) (a4:Option Addr) (n4 c4:Nat):List Value:=[st nm,.slice a1 n1 c1,.slice a2 n2 c2,.slice a3 n3 c3,.slice a4 n4 c4]
theorem wv {l q1 q2 q3:Tk} {nm:Tx} (h1:aH [109,111,100,117,108,101] l=some q1) (h2:cX q1=some (nm,q2)) (h3:aH [123] q2=some q3):ny l=(mz (q3.length+1) q3).bind λu=>
   (oA ((kC u.2).2.length+1) (kC u.2).1 (kC u.2).2).bind λd=>(oB (d.2.length+1) d.1.2 d.2).bind λp=>if p.1.2=true then none else
   (aH so p.2).bind λr=>(fq 6 r).bind λb=>(aH [125] b.2).map λr=>(⟨nm,u.1,d.1.1,p.1.1,b.1⟩,r):=by
 rw [ny,show Fv=[109,111,100,117,108,101] from rfl,h1]; simp only [Option.bind_some]; rw [h2]; simp only [Option.bind_some]; rw [h3]; rfl
theorem wx:zeroOf Tryz.prog 174=some (.agg #[st [],.slice none 0 0,.slice none 0 0,.slice none 0 0,.slice none 0 0]):=by kernel_rfl
theorem Lj:fh Tryz.prog 174=some [(0,1),(1,1),(2,1),(3,1),(4,1)]:=by kernel_rfl
theorem yq:cG Tryz.prog 174=some 5:=by kernel_rfl
theorem al6:Enters Tryz.prog 146:=enters_of Tryz.func146 (by kernel_rfl) rfl
theorem al7:Enters Tryz.prog 147:=enters_of Tryz.func147 (by kernel_rfl) rfl
theorem QE:fk Tryz.prog 171 213 (.agg #[st [],.bool false,.slice none 0 0,.slice none 0 0,.slice none 0 0]) 5 96:=iw (by kernel_rfl)
theorem al8:cG Tryz.prog 171=some 1:=by kernel_rfl
theorem nH:fg Tryz.prog 174=some 5:=by kernel_rfl
theorem QF:fk Tryz.prog 170 217 (.agg #[.int .i64 0,st [],.bool false,.int .i64 0]) 4 40:=iw (by kernel_rfl)
theorem al9:cG Tryz.prog 170=some 1:=by kernel_rfl
theorem al' (gb:Nat) (HT:View) (r:Option Addr×Nat) (l:Tk) (w:World) (aA:bT l) (hm:Sl a6 3 HT r.1 r.2 l) (hw:Ws w (List.flatMap ao.ids (an gb r l)) (an gb r l) [HT] w) :
   Calls Tryz.prog 121 #[.pointer (some ⟨gb,0,none⟩)] w λe w'=>(∃(m:bf) (s:mc) (r2:Option Addr×Nat) (q:Tk),e = .returned (.agg (gE m s).toArray)/\ny l=some (m,q)/\n6 7 6 (nv w w') s m/\Sl a6 3 HT r2.1 r2.2 q/\Ws w (List.flatMap ao.ids (an gb r l)) (an gb r2 q) [HT] w')\/(∃(r2:Option Addr×Nat) (q:Tk),e = .panicked bF/\ny l=none/\Ws w (List.flatMap ao.ids (an gb r l)) (an gb r2 q) [HT] w'):=by
 refine enter Tryz.func121 O 71 O O ?_;refine CE hw (Cs (Cr ?_));refine Al Y O wx λb2=>?_;refine bI 0 (.cells (oL [] none 0 0 none 0 0 none 0 0 none 0 0).toArray 174 (0,0)) O O (Ln (Et (Cs (Cr (V0 (Ym O) ?_)))));refine Lb Y O dm O O O O λb8=>?_;refine gg (T:=9) (m:=1) 0 [[109,111,100,117,108,101]] O O (show 1<=1 by decide) (by decide) λH8 QG=>?_;refine Lf 1 O ?_
 refine bg (ι:=(Option Addr×Nat)×Tk) (κ:=(Option Addr×Nat)×Tk) [_] _ Y O gV O O (λ_=>.tuple #[]) (λi=>an gb i.1 i.2) (λi=>bW [[109,111,100,117,108,101]] l=some i.2/\Sl a6 3 HT i.1.1 i.1.2 i.2) (λ_=>bF) (λi=>an gb i.1 i.2) (λ_=>bW [[109,111,100,117,108,101]] l=none) ([HT,H8]) (by simp) (λw hw=>(gU gb HT r l H8 _ _ [[109,111,100,117,108,101]] w QG hm hw).mono λe w' h=>by
     rcases h with ⟨r2,q,h1,h2,h3,h4⟩ | ⟨r2,q,h1,h2,h3⟩
     · exact .inl ⟨(r2,q),h1,⟨h2,h3⟩,h4⟩
     · exact .inr ⟨(r2,q),h1,h2,h3⟩) ?_ ?_
 ·intro ⟨rp,qp⟩ hp;rw [dr] at hp;refine Ep ?_;refine aL λw' hw=>?_;exact .inr ⟨rp,qp,O,by simp only [ny,Fv,hp,Option.bind_none],(by have h:=hw; have h:=Wt 1 h; have h:=Ws.bB h (bc:=[HT]) (by simp); exact h)⟩
 intro ⟨r9,q9⟩ ⟨fQ,Qd⟩;have Df:=gT aA fQ;rw [dr] at fQ;refine Ln (Et (Cs (Cr (V0 (Ym O) ?_))))
 refine bg (ι:=(Tx)×(Option Addr×Nat)×Tk) (κ:=(Option Addr×Nat)×Tk) [_] _ Y O sC O O (λi=>st i.1) (λi=>an gb i.2.1 i.2.2) (λi=>cX q9=some (i.1,i.2.2)/\Sl a6 3 HT i.2.1.1 i.2.1.2 i.2.2) (λ_=>bF) (λi=>an gb i.1 i.2) (λ_=>cX q9=none) ([HT]) (by simp) (λw hw=>(sD gb HT r9 q9 w Qd hw).mono λe w' h=>by
     rcases h with ⟨t,r2,q,h1,h2,h3,h4⟩ | ⟨r2,q,h1,h2,h3⟩
     · exact .inl ⟨(t,r2,q),h1,⟨h2,h3⟩,h4⟩
     · exact .inr ⟨(r2,q),h1,h2,h3⟩) ?_ ?_
 ·intro ⟨rp,qp⟩ hp;refine Ep ?_;refine aL λw' hw=>?_;exact .inr ⟨rp,qp,O,by simp only [ny,Fv,fQ,hp,Option.bind_some,Option.bind_none],(by have h:=hw; have h:=Wt 1 h; have h:=Ws.bB h (bc:=[HT]) (by simp); exact h)⟩
 intro ⟨qF,FV,lr⟩ ⟨jl,FW⟩;have J9:=sB Df jl;refine V0 (Yb wx Lj O O) ?_;refine Al Y O wx λb3=>?_;refine ak 0 Y O O O yq O O O (LW (λ_ h=>h.fj 9 1) (LW (λ_ h=>h.fj 217 4) (LW (λ_ h=>h.fj 213 5) ?_)));refine WL.v0 ?_;refine Ln (Et (Cs (Cr (V0 (Ym O) ?_))));refine Lb Y O dm O O O O λz_=>?_;refine gg (T:=9) (m:=1) 0 [[123]] O O (show 1<=1 by decide) (by decide) λLk GG=>?_;refine Lf 4 O ?_
 refine bg (ι:=(Option Addr×Nat)×Tk) (κ:=(Option Addr×Nat)×Tk) [_] _ Y O gV O O (λ_=>.tuple #[]) (λi=>an gb i.1 i.2) (λi=>bW [[123]] lr=some i.2/\Sl a6 3 HT i.1.1 i.1.2 i.2) (λ_=>bF) (λi=>an gb i.1 i.2) (λ_=>bW [[123]] lr=none) ([HT,Lk]) (by simp) (λw hw=>(gU gb HT FV lr Lk _ _ [[123]] w GG FW hw).mono λe w' h=>by
     rcases h with ⟨r2,q,h1,h2,h3,h4⟩ | ⟨r2,q,h1,h2,h3⟩
     · exact .inl ⟨(r2,q),h1,⟨h2,h3⟩,h4⟩
     · exact .inr ⟨(r2,q),h1,h2,h3⟩) ?_ ?_
 ·intro ⟨rp,qp⟩ hp;rw [dr] at hp;refine Ep ?_;refine aL λw' hw=>?_;exact .inr ⟨rp,qp,O,by simp only [ny,Fv,fQ,jl,hp,Option.bind_some,Option.bind_none],(by have h:=hw; have h:=Wt 1 h; have h:=Ws.bB h (bc:=[HT]) (by simp); exact h)⟩
 intro ⟨gI,Aw⟩ ⟨qN,al_⟩;have ama:=gT J9 qN;rw [dr] at qN;refine Ln (Et (Cs (Cb ?_)));refine ct (ι:=GU) (λg=>[]) [(0,_),(2,_),(3,_)] (λg=>Ws w (List.flatMap ao.ids (an gb r l)) (an gb g.r g.q++[ab b3 (.cells (oL qF g.a g.us.length g.c none 0 0 none 0 0 none 0 0).toArray 174 (0,0)),bj 9 1 dJ g.a g.c g.us,bj 217 4 bS.cells none 0 ([]:List bS),bj 213 5 PX.cells none 0 ([]:List PX),ab b2 (.cells (oL [] none 0 0 none 0 0 none 0 0 none 0 0).toArray 174 (0,0))]) [v0,HT]) (λg=>(g.us.length+g.q.length<=l.length/\bT g.q)/\Sl a6 3 HT g.r.1 g.r.2 g.q/\∃n,g.q.length<n/\mz (Aw.length+1) Aw=(mz n g.q).map λp=>(g.us++p.1,p.2)) (λg=>g.q.length) ⟨[],none,0,gI,Aw⟩ ⟨⟨by have:q9.length+1=l.length:=gR fQ; have:lr.length<q9.length:=oJ Df jl; have:Aw.length+1=lr.length:=gR qN; simp; omega,ama⟩,al_,Aw.length+1,by simp,by simp⟩ (sc O (sc O (sc O sn))) (λ_ h=>by have h:=h.ar 5 O; have h:=h.ar 2 O; have h:=h.ar 3 O; have h:=h.ar 4 O; have h:=h.ar 5 O; have h:=h.ar 5 O; have h:=Ws.bB h (bc:=[v0,HT]) (by simp); exact h) ?_;intro g ⟨⟨hlen,lu⟩,qD,hA⟩;refine Cs (Cs (Cr (V0 (Ym O) ?_)));refine Lw [_] _ Y O gv O O _ _ _ [HT] (by simp) (λw hw=>gw gb HT g.r g.q [117,115,101] w qD hw) ?_;intro ⟨J4,uQ,kP⟩ ⟨amb,amc,aaf⟩;refine Ln (Et ?_);refine Cc O (λad=>?_) (λad=>?_)
 ·have Ax:=amb ad;have Ll:=gS lu Ax;obtain ⟨n,hn,hA⟩:=hA;obtain ⟨n,rfl⟩:∃k,n=k+1:=⟨n-1,by omega⟩;refine Ck (Et (Cb (Cs ?_)));refine CU (λ_=>true) [0,1] [6,7] (.q false 0 (.q true 1 (.q false 2 (.e 3 (.e 4 (.e 5 .nil .stop) .stop) .stop)))) mixed (by kernel_rfl) (λ_ _ _ d _ _ h=>by cases d<;>exact h) ?_;refine U0 O (bw [0,1]) (Yf x5 O) (U0 O (bw [0,1]) (Yd 0 O O O eH) (U0 O (bw [0,1]) (Ym O) ?_));refine Ue O (bw [0,1]) ?_ WU.stop
  refine bg (ι:=(Tx)×(Option Addr×Nat)×Tk) (κ:=(Option Addr×Nat)×Tk) [_] _ Y O sC O O (λi=>st i.1) (λi=>an gb i.2.1 i.2.2) (λi=>cX kP=some (i.1,i.2.2)/\Sl a6 3 HT i.2.1.1 i.2.1.2 i.2.2) (λ_=>bF) (λi=>an gb i.1 i.2) (λ_=>cX kP=none) ([HT]) (by simp) (λw hw=>(sD gb HT uQ kP w aaf hw).mono λe w' h=>by
      rcases h with ⟨t,r2,q,h1,h2,h3,h4⟩ | ⟨r2,q,h1,h2,h3⟩
      · exact .inl ⟨(t,r2,q),h1,⟨h2,h3⟩,h4⟩
      · exact .inr ⟨(r2,q),h1,h2,h3⟩) ?_ ?_
  ·intro ⟨rp,qp⟩ hp;refine Ep (Ep (WE.aS (Ep (WE.aS (Ep ?_)))));refine aL λw' hw=>?_;rw [alv Ax hp] at hA;exact .inr ⟨rp,qp,O,by rw [wv fQ jl qN]; simp only [so,hA,Option.bind_some,Option.map_some,Option.bind_none,Option.map_none],(by have h:=hw; have h:=Wt 1 h; have h:=Ws.bB h (bc:=[HT]) (by simp); exact h)⟩
  intro ⟨QH,kO,pC⟩ ⟨uG,Qr⟩;have Qt:=sB Ll uG;refine Ln (Eu ?_);refine Ue O (bw [0,1]) ?_ WU.stop;refine Lb Y O dm O O O O λDn=>?_;refine bI 0 (.cells (dJ QH).toArray 9 (0,0)) O O (Ln (Eu ?_));refine Ue O (λ_ h=>(Wo 1 (Wo 0 (Wd 1 h)):)) ?_ WU.stop;refine LA (QH:Tx) 3 0 Y O dm O O O O O O (by have:=aA.len; omega) (by have:=aA.len; omega) λa23 c23=>?_;refine Ln (Eu ?_);refine WU.nil (λ_ h=>(Wo 1 (Wo 0 (Wd 1 h)):)) ?_;refine WS.e O ?_;refine V0 (Yf x5 O) (Ln (Es ?_));refine WS.e O ?_;refine ak 2 Y O O O Li O O O (Ln (Es ?_));refine WS.nil ?_;refine Et (Cr (V0 (Ym O) ?_));refine Lb Y O dm O O O O λwy=>?_;refine gg (T:=9) (m:=1) 0 [[59]] O O (show 1<=1 by decide) (by decide) λH26 ame=>?_;refine Lf 1 O ?_
  refine bg (ι:=(Option Addr×Nat)×Tk) (κ:=(Option Addr×Nat)×Tk) [_] _ Y O gV O O (λ_=>.tuple #[]) (λi=>an gb i.1 i.2) (λi=>bW [[59]] pC=some i.2/\Sl a6 3 HT i.1.1 i.1.2 i.2) (λ_=>bF) (λi=>an gb i.1 i.2) (λ_=>bW [[59]] pC=none) ([HT,H26]) (by simp) (λw hw=>(gU gb HT kO pC H26 _ _ [[59]] w ame Qr hw).mono λe w' h=>by
      rcases h with ⟨r2,q,h1,h2,h3,h4⟩ | ⟨r2,q,h1,h2,h3⟩
      · exact .inl ⟨(r2,q),h1,⟨h2,h3⟩,h4⟩
      · exact .inr ⟨(r2,q),h1,h2,h3⟩) ?_ ?_
  ·intro ⟨rp,qp⟩ hp;rw [dr] at hp;refine WE.aS (Ep (WE.aS (Ep ?_)));refine aL λw' hw=>?_;rw [alw Ax uG hp] at hA;exact .inr ⟨rp,qp,O,by rw [wv fQ jl qN]; simp only [so,hA,Option.bind_some,Option.map_some,Option.bind_none,Option.map_none],(by have h:=hw; have h:=Wt 1 h; have h:=Ws.bB h (bc:=[HT]) (by simp); exact h)⟩
  intro ⟨Lg,uJ⟩ ⟨uK,Qu⟩;have Qv:=gT Qt uK;rw [dr] at uK;refine Ln (Eb ?_)
  exact Ea (⟨g.us++[QH],a23,c23,Lg,uJ⟩:GU) (by have:kP.length+1=g.q.length:=gR Ax; have:pC.length<kP.length:=oJ Ll uG; have:uJ.length+1=pC.length:=gR uK; show uJ.length<g.q.length; omega) ⟨⟨by have:kP.length+1=g.q.length:=gR Ax; have:pC.length<kP.length:=oJ Ll uG; have:uJ.length+1=pC.length:=gR uK; simp; omega,Qv⟩,Qu,n,(show uJ.length<n by have:kP.length+1=g.q.length:=gR Ax; have:pC.length<kP.length:=oJ Ll uG; have:uJ.length+1=pC.length:=gR uK; omega),by rw [hA,alu Ax uG uK]; simp [Function.comp_def]⟩ (sc O (sc O (sc O sn))) (λ_ h=>by
      have h:=h.ar 6 rfl;have h:=h.ar 6 rfl;have h:=h.ar 6 rfl;have h:=h.ar 6 rfl;have h:=h.ar 6 rfl;have h:=h.ar 5 rfl;have h:=Wt 6 h;have h:=Ws.bB h (bc:=[v0,HT]) (by simp)
      exact h)
 obtain ⟨amf,amg⟩:=amc ad;subst amg;obtain ⟨n,hn,hA⟩:=hA;obtain ⟨n,rfl⟩:∃k,n=k+1:=⟨n-1,by omega⟩;rw [als amf] at hA;simp at hA;refine Ce (Ex (Ex (bK (Et (Cs (Cr (V0 (Ym O) ?_)))))));refine Lw [_] _ Y O gv O O _ _ _ [HT] (by simp) (λw hw=>gw gb HT uQ g.q [112,117,98] w aaf hw) ?_;intro ⟨GH,r29,Ay⟩ ⟨aah,aai,QI⟩;have Az:kC g.q=(GH,Ay):=Qn aah aai;obtain ⟨ami,awb⟩:bT Ay/\Ay.length<=List.length (g.q):=Qo lu aah aai;refine V0 (Ya O) (Ln (Et (Cs (Cb ?_))));refine ct (ι:=GD) (λv=>[(4,.bool v.aT)]) [(0,_),(2,_),(3,_)] (λv=>Ws w (List.flatMap ao.ids (an gb r l)) (an gb v.r v.q++[ab b3 (.cells (oL qF g.a g.us.length g.c v.a v.ds.length v.c none 0 0 none 0 0).toArray 174 (0,0)),bj 9 1 dJ g.a g.c g.us,bj 217 4 bS.cells v.a v.c v.ds,bj 213 5 PX.cells none 0 ([]:List PX),ab b2 (.cells (oL [] none 0 0 none 0 0 none 0 0 none 0 0).toArray 174 (0,0))]) [v0,HT]) (λv=>(v.ds.length+v.q.length<=l.length/\bT v.q)/\Sl a6 3 HT v.r.1 v.r.2 v.q/\∃n,v.q.length<n/\oA (Ay.length+1) GH Ay=(oA n v.aT v.q).map λp=>((v.ds++p.1.1,p.1.2),p.2)) (λv=>v.q.length) ⟨[],none,0,GH,r29,Ay⟩ ⟨⟨by simp; omega,ami⟩,QI,Ay.length+1,by simp,by simp⟩ (sc O (sc O (sc O (sc O sn)))) (λ_ h=>h) ?_;intro v ⟨⟨alU,Av⟩,QC,hB⟩;refine Cb (Cs (Cr (V0 (Ym O) (V0 (Ym O) ?_))))
 refine bg (ι:=(Option bS)×(Option Addr×Nat)×Tk) (κ:=(Option Addr×Nat)×Tk) [_] _ Y O al6 O O (λi=>.tuple #[.agg #[.int .i64 ((i.1).getD (⟨0,[],v.aT,0⟩:bS)).kind,st ((i.1).getD (⟨0,[],v.aT,0⟩:bS)).nm,.bool ((i.1).getD (⟨0,[],v.aT,0⟩:bS)).aT,.int .i64 ((i.1).getD (⟨0,[],v.aT,0⟩:bS)).n],.bool (i.1).isSome]) (λi=>an gb i.2.1 i.2.2) (λi=>fL v.aT v.q=some (i.1,i.2.2)/\Sl a6 3 HT i.2.1.1 i.2.1.2 i.2.2) (λ_=>bF) (λi=>an gb i.1 i.2) (λ_=>fL v.aT v.q=none) ([HT]) (by simp) (λw hw=>(alD gb HT v.r v.q v.aT w Av QC hw).mono λe w' h=>by
     rcases h with ⟨t,r2,q,h1,h2,h3,h4⟩ | ⟨r2,q,h1,h2,h3⟩
     · exact .inl ⟨(t,r2,q),h1,⟨h2,h3⟩,h4⟩
     · exact .inr ⟨(r2,q),h1,h2,h3⟩) ?_ ?_
 ·intro ⟨rp,qp⟩ hp;refine Ep (WE.aS (Ep (WE.aS (Ep ?_))));refine aL λw' hw=>?_;obtain ⟨n,hn,hB⟩:=hB;obtain ⟨n,rfl⟩:∃k,n=k+1:=⟨n-1,by omega⟩;rw [alz hp] at hB;exact .inr ⟨rp,qp,O,by rw [wv fQ jl qN]; simp only [so,hA,Az,hB,Option.bind_some,Option.map_some,Option.bind_none,Option.map_none],(by have h:=hw; have h:=Wt 1 h; have h:=Ws.bB h (bc:=[HT]) (by simp); exact h)⟩
 intro ⟨QJ,KV,j_⟩ ⟨mF,Dg⟩;have KX:=alc Av mF;refine V0 (Ym O) (V0 (Yx O O) (V0 (Yx O O) ?_));refine Al Y O um λb5=>?_;refine ak 0 Y O O O vX O O O (V0 (Ya O) (Ln (Et (Cs (Cs (Cr (V0 (Ym O) (V0 (dw O) (Ln (Et ?_))))))))));refine Cc O (λaq=>?_) (λaq=>?_)
 ·obtain ⟨n,hn,hB⟩:=hB;obtain ⟨n,rfl⟩:∃k,n=k+1:=⟨n-1,by omega⟩
  cases Lm:QJ with
  | some x=>rw [Lm] at aq; simp at aq
  | none=>
  rw [Lm] at mF;have amj:j_=v.q:=O8 mF;rw [alx mF] at hB;simp at hB;refine Ce (Ex (Na O (Ex (bK (Et (Cs (Cb ?_)))))));refine ct (ι:=GM) (λe=>[(4,.bool e.aT)]) [(0,_),(2,_),(3,_)] (λe=>Ws w (List.flatMap ao.ids (an gb r l)) (an gb e.r e.q++[ab b3 (.cells (oL qF g.a g.us.length g.c v.a v.ds.length v.c e.a e.ps.length e.c none 0 0).toArray 174 (0,0)),bj 9 1 dJ g.a g.c g.us,bj 217 4 bS.cells v.a v.c v.ds,bj 213 5 PX.cells e.a e.c e.ps,ab b2 (.cells (oL [] none 0 0 none 0 0 none 0 0 none 0 0).toArray 174 (0,0))]) [e.J,HT]) (λe=>(e.ps.length+e.q.length<=l.length/\bT e.q)/\Sl a6 3 HT e.r.1 e.r.2 e.q/\(eU w e.J/\uC e.J e.ps)/\∃n,e.q.length<n/\oB (j_.length+1) v.aT j_=(oB n e.aT e.q).map λp=>((e.ps.map (·.1)++p.1.1,p.1.2),p.2)) (λe=>e.q.length) ⟨[],none,0,v0,v.aT,KV,j_⟩ ⟨⟨(by have h:=congrArg List.length amj; simp at h ⊢; omega),KX⟩,Dg,⟨xD w,uC.nil _⟩,j_.length+1,by simp,by simp⟩ (sc O (sc O (sc O (sc O sn)))) (λ_ h=>by have h:=h.ar 6 O; have h:=h.ar 6 O; have h:=h.ar 6 O; have h:=h.ar 6 O; have h:=h.ar 6 O; have h:=h.ar 6 O; have h:=Wt 6 h; have h:=Ws.bB h (bc:=[v0,HT]) (by simp); exact h) ?_;intro e ⟨⟨awc,aaj⟩,QK,⟨mD,hPX⟩,hC⟩;refine Cs (Cs (Cr (V0 (Ym O) ?_)));refine Lw [_] _ Y O gv O O _ _ _ [HT] (by simp) (λw hw=>gw gb HT e.r e.q [112,114,111,99] w QK hw) ?_;intro ⟨yi,yj,iF⟩ ⟨PS,PT,wg⟩;refine Ln (Et ?_);refine Cc O (λay=>?_) (λay=>?_)
  ·have lv:=PS ay;have uw:=gS aaj lv;obtain ⟨n,hn,hC⟩:=hC;obtain ⟨n,rfl⟩:∃k,n=k+1:=⟨n-1,by omega⟩;refine Ck (Et (Cb (Cs ?_)));refine CU (λ_=>true) [0,3] [7,8] (.q false 0 (.q true 1 (.q false 2 (.q false 3 (.e 4 (.e 5 (.e 6 .nil .stop) .stop) .stop))))) mixed (by kernel_rfl) (λ_ _ _ d _ _ h=>by cases d<;>exact h) ?_;refine U0 O (bw [0,3]) (Yf zV O) (U0 O (bw [0,3]) (Yd 0 O O O CZ) (U0 O (bw [0,3]) (Ym O) (U0 O (bw [0,3]) (Ym O) ?_)));refine Ue O (bw [0,3]) ?_ WU.stop
   refine iL (ι:=(dO×Dl)×(Option Addr×Nat)×Tk) (κ:=(Option Addr×Nat)×Tk) [_] _ Y O al7 O O (λi=>.agg #[st (i.1.1).nm,.bool (i.1.1).aT,.slice (i.1.2).s1.1 (i.1.1).params.length (i.1.2).s1.2,.slice (i.1.2).s2.1 (i.1.1).ax.length (i.1.2).s2.2,.slice (i.1.2).s3.1 (i.1.1).body.length (i.1.2).s3.2]) (λi=>an gb i.2.1 i.2.2) (λF i=>jg e.aT iF=some (i.1.1,i.2.2)/\Ar F i.1.1 i.1.2/\Sl a6 3 HT i.2.1.1 i.2.1.2 i.2.2) (λ_=>bF) (λi=>an gb i.1 i.2) (λ_=>jg e.aT iF=none) ([HT]) (by simp) (λ_ _ h=>h) (λw hw=>(alS gb HT yj iF e.aT w uw wg hw).mono λe w' h=>by
       rcases h with ⟨x,s,r2,q,h1,h2,h3,h4,h5⟩ | ⟨r2,q,h1,h2,h3⟩
       · exact .inl ⟨((x,s),r2,q),h1,⟨h2,h3,h4⟩,h5⟩
       · exact .inr ⟨(r2,q),h1,h2,h3⟩) ?_ ?_
   ·intro ⟨rp,qp⟩ hp;refine Ep (Ep (WE.aS (Ep (WE.aS (Ep ?_)))));refine aL λw' hw=>?_;rw [alC lv hp] at hC;exact .inr ⟨rp,qp,O,by rw [wv fQ jl qN]; simp only [so,hA,Az,hB,hC,Option.bind_some,Option.map_some,Option.bind_none,Option.map_none],(by have h:=hw; have h:=Wt 1 h; have h:=Ws.bB h (bc:=[HT]) (by simp); exact h)⟩
   intro F52 ⟨⟨QL,QM⟩,r52,AB⟩ aml ⟨GJ,amm,amn⟩;have amo:bT AB:=ale uw GJ;refine Ln (Eu ?_);refine Ue O (λ_ h=>(Wv 1 (Wo 3 (Wo 0 h)):)) ?_ WU.stop;refine Lb Y O QE O O O O λGK=>?_;refine bI 0 (.cells (PX.cells (QL,QM)).toArray 213 (0,0)) O O (Ln (Eu ?_));refine Ue O (λ_ h=>(Wv 1 (Wo 3 (Wo 0 (Wd 1 h))):)) ?_ WU.stop;refine LA ((QL,QM):PX) 5 0 Y O QE O O O O O O (by have:=aA.len; omega) (by have:=aA.len; omega) λa54 c54=>?_;refine Ln (Eu ?_);refine WU.nil (λ_ h=>(Wv 1 (Wo 3 (Wo 0 (Wd 1 h))):)) ?_;refine WS.e O ?_;refine V0 (Yf zV O) (Ln (Es ?_));refine WS.e O ?_;refine ak 2 Y O O O al8 O O O (Ln (Es ?_));refine WS.nil ?_;refine Et ?_;refine WC.n8 λJ52 amr ams amt=>?_;refine Cr (V0 (Ym O) (Lf 1 O ?_));refine Lw [_] _ Y O gv O O _ _ _ [HT] (by simp) (λw hw=>gw gb HT r52 AB [112,117,98] w amn hw) ?_;intro ⟨P9,Kz,qK⟩ ⟨KA,KB,KC⟩;have amu:kC AB=(P9,qK):=Qn KA KB;obtain ⟨KH,awe⟩:bT qK/\qK.length<=List.length (AB):=Qo amo KA KB;refine V0 (Ya O) (Ln (Eb ?_))
   exact Ea (⟨e.ps++[(QL,QM)],a54,c54,J52,P9,Kz,qK⟩:GM) (by have:iF.length+1=e.q.length:=gR lv; have:AB.length<iF.length:=Qm uw GJ; show qK.length<e.q.length; omega) ⟨⟨by have:iF.length+1=e.q.length:=gR lv; have:AB.length<iF.length:=Qm uw GJ; simp; omega,KH⟩,KC,⟨amt _ aml mD,uC.snoc hPX ams amr amm⟩,n,(show qK.length<n by have:iF.length+1=e.q.length:=gR lv; have:AB.length<iF.length:=Qm uw GJ; omega),by rw [hC,alB lv GJ amu]; simp [Function.comp_def]⟩ (sc O (sc O (sc O (sc O sn)))) (λ_ h=>by
       have h:=h.ar 6 rfl;have h:=h.ar 6 rfl;have h:=h.ar 6 rfl;have h:=h.ar 6 rfl;have h:=h.ar 6 rfl;have h:=h.ar 5 rfl;have h:=Wt 6 h;have h:=Ws.bB h (bc:=[J52,HT]) (by simp)
       exact h)
  obtain ⟨wh,PU⟩:=PT ay;subst PU;obtain ⟨n,hn,hC⟩:=hC;obtain ⟨n,rfl⟩:∃k,n=k+1:=⟨n-1,by omega⟩;rw [alA wh] at hC;simp at hC;refine Ce (Ex (Ex (bK (Et (Cs (Cs (Cr (V0 (Ym O) (Ln (Et ?_))))))))));refine Cc O (λaJ=>?_) (λaJ=>?_)
  ·have sM:e.aT=true:=aJ;refine Cr (V0 (Yb v8 v7 O O) (V0 (rJ v_ O) ?_));refine WL.panic Y O ?_;refine Ep ?_;refine aL λw' hw=>?_;exact .inr ⟨yj,e.q,O,by rw [wv fQ jl qN]; simp only [so,hA,Az,hB,hC,sM,if_true,Option.bind_some,Option.map_some,Option.bind_none,Option.map_none],(by have h:=hw; have h:=Wt 1 h; have h:=Ws.bB h (bc:=[HT]) (by simp); exact h)⟩
  have sM:e.aT=false:=aJ;refine Ck (Et (Cs (Cr (V0 (Ym O) ?_))));refine Lb Y O dm O O O O λPx=>?_;refine gg (T:=9) (m:=1) 0 [[109,97,105,110]] O O (show 1<=1 by decide) (by decide) λFP Py=>?_
  refine bg (ι:=(Option Addr×Nat)×Tk) (κ:=(Option Addr×Nat)×Tk) [_] _ Y O gV O O (λ_=>.tuple #[]) (λi=>an gb i.1 i.2) (λi=>bW [[109,97,105,110]] e.q=some i.2/\Sl a6 3 HT i.1.1 i.1.2 i.2) (λ_=>bF) (λi=>an gb i.1 i.2) (λ_=>bW [[109,97,105,110]] e.q=none) ([HT,FP]) (by simp) (λw hw=>(gU gb HT yj e.q FP _ _ [[109,97,105,110]] w Py wg hw).mono λe w' h=>by
      rcases h with ⟨r2,q,h1,h2,h3,h4⟩ | ⟨r2,q,h1,h2,h3⟩
      · exact .inl ⟨(r2,q),h1,⟨h2,h3⟩,h4⟩
      · exact .inr ⟨(r2,q),h1,h2,h3⟩) ?_ ?_
  ·intro ⟨rp,qp⟩ hp;rw [dr] at hp;refine Ep ?_;refine aL λw' hw=>?_;exact .inr ⟨rp,qp,O,by rw [wv fQ jl qN]; simp only [so,hA,Az,hB,hC,sM,hp,Bool.false_eq_true,if_false,Option.bind_some,Option.map_some,Option.bind_none,Option.map_none],(by have h:=hw; have h:=Wt 1 h; have h:=Ws.bB h (bc:=[HT]) (by simp); exact h)⟩
  intro ⟨Dp,QN⟩ ⟨GO,amv⟩;have aam:=gT aaj GO;rw [dr] at GO;refine Ln (Et (Cs (Cr (V0 (Ym O) ?_))))
  refine iL (ι:=((List aR)×(Option Addr×Nat))×(Option Addr×Nat)×Tk) (κ:=(Option Addr×Nat)×Tk) [_] _ Y O F' O O (λi=>.slice i.1.2.1 i.1.1.length i.1.2.2) (λi=>an gb i.2.1 i.2.2) (λF i=>fq 6 QN=some (i.1.1,i.2.2)/\Sl (iz 7 6) 6 F i.1.2.1 i.1.2.2 i.1.1/\Sl a6 3 HT i.2.1.1 i.2.1.2 i.2.2) (λ_=>bF) (λi=>an gb i.1 i.2) (λ_=>fq 6 QN=none) ([HT]) (by simp) (λ_ _ h=>h) (λw hw=>(Z4 HT 6 gb Dp QN (1) w (by omega) aam amv hw).mono λe w' h=>by
      rcases h with ⟨x,s,r2,q,h1,h2,h3,h4,h5⟩ | ⟨r2,q,h1,h2,h3⟩
      · exact .inl ⟨((x,s),r2,q),h1,⟨h2,h3,h4⟩,h5⟩
      · exact .inr ⟨(r2,q),h1,h2,h3⟩) ?_ ?_
  ·intro ⟨rp,qp⟩ hp;refine Ep ?_;refine aL λw' hw=>?_;exact .inr ⟨rp,qp,O,by rw [wv fQ jl qN]; simp only [so,hA,Az,hB,hC,sM,GO,hp,Bool.false_eq_true,if_false,Option.bind_some,Option.map_some,Option.bind_none,Option.map_none],(by have h:=hw; have h:=Wt 1 h; have h:=Ws.bB h (bc:=[HT]) (by simp); exact h)⟩
  intro F65 ⟨⟨aan,Lq⟩,GR,Lr⟩ QO ⟨GV,amw,amx⟩;have amy:bT Lr:=F4 aam GV;refine V0 (Yf Pw O) (ak 1 Y O O O F_ O O O (Ln (Et (Cs (Cr (V0 (Ym O) ?_))))));refine Lb Y O dm O O O O λLs=>?_;refine gg (T:=9) (m:=1) 0 [[125]] O O (show 1<=1 by decide) (by decide) λH68 amz=>?_
  refine bg (ι:=(Option Addr×Nat)×Tk) (κ:=(Option Addr×Nat)×Tk) [_] _ Y O gV O O (λ_=>.tuple #[]) (λi=>an gb i.1 i.2) (λi=>bW [[125]] Lr=some i.2/\Sl a6 3 HT i.1.1 i.1.2 i.2) (λ_=>bF) (λi=>an gb i.1 i.2) (λ_=>bW [[125]] Lr=none) ([HT,H68]) (by simp) (λw hw=>(gU gb HT GR Lr H68 _ _ [[125]] w amz amx hw).mono λe w' h=>by
      rcases h with ⟨r2,q,h1,h2,h3,h4⟩ | ⟨r2,q,h1,h2,h3⟩
      · exact .inl ⟨(r2,q),h1,⟨h2,h3⟩,h4⟩
      · exact .inr ⟨(r2,q),h1,h2,h3⟩) ?_ ?_
  ·intro ⟨rp,qp⟩ hp;rw [dr] at hp;refine Ep ?_;refine aL λw' hw=>?_;exact .inr ⟨rp,qp,O,by rw [wv fQ jl qN]; simp only [so,hA,Az,hB,hC,sM,GO,GV,hp,Bool.false_eq_true,if_false,Option.bind_some,Option.map_some,Option.bind_none,Option.map_none],(by have h:=hw; have h:=Wt 1 h; have h:=Ws.bB h (bc:=[HT]) (by simp); exact h)⟩
  intro ⟨sN,q69⟩ ⟨QP,amB⟩;have awg:=gT amy QP;rw [dr] at QP;refine Ln (Et (Cs ?_));refine WC.p_ (rd:=rdStr) 2 O (λk hk=>by simp [an,ab] at hk; subst hk; simp [dv,an,ab,dF]) lK (λ_ _ _ _ h=>h) λKU fKU hKU=>?_;refine WC.p_ (rd:=zp) 2 O (λk hk=>by simp [an,ab] at hk; subst hk; simp [dv,an,ab,dF]) bS.aX (λ_ _ _ _ h=>h) λKD fKD hKD=>?_;refine WC.p_ (rd:=Qp) 2 O (λk hk=>by simp [an,ab] at hk; subst hk; simp [dv,an,ab,dF]) PX.aX (λ_ _ _ _ h=>h) λKP GB GC=>?_;refine Cr (V0 (bC 1 O O nH O) (ak 2 Y O O O yq O O O (Ln (Et (aw ?_)))));refine WE.dM (gA O (cU 2 O O nH O)) λw' hw=>?_;exact .inl ⟨⟨qF,g.us,v.ds,e.ps.map (·.1),aan⟩,⟨g.a,g.c,v.a,v.c,e.a,e.c,Lq.1,Lq.2⟩,sN,q69,by show Ending.returned (.agg #[st qF,.slice g.a g.us.length g.c,.slice v.a v.ds.length v.c,.slice e.a e.ps.length e.c,.slice Lq.1 aan.length Lq.2])=_; simp [gE],by rw [wv fQ jl qN]; simp only [so,hA,Az,hB,hC,sM,GO,GV,QP,Bool.false_eq_true,if_false,Option.bind_some,Option.map_some,Option.bind_none,Option.map_none],⟨wq hKU (bJ hw (by simp) fKU),Qq hKD (bJ hw (by simp) fKD),Z7 GC (bJ hw (by simp) GB) (bJ hw (by simp) mD) hPX,wi amw (bJ hw (by simp) QO)⟩,amB,Wv 7 (Wt 1 hw)⟩
 obtain ⟨n,hn,hB⟩:=hB;obtain ⟨n,rfl⟩:∃k,n=k+1:=⟨n-1,by omega⟩
 obtain ⟨yl,Lm⟩:∃x,QJ=some x:=by
   cases QJ with
   | none=>simp at aq
   | some x=>exact ⟨x,rfl⟩
 subst Lm;have awh:j_.length<v.q.length:=ald Av mF;refine Ck (Et (Cs (Cr (V0 (Yf CY O) (V0 (Yd 2 O O O FL) (V0 (bC 0 O O pt O) ?_))))));refine Lb Y O QF O O O O λwz=>?_;refine bI 0 (.cells (bS.cells yl).toArray 217 (0,0)) O O ?_;refine LA (yl:bS) 5 0 Y O QF O O O O O O (by have:=aA.len; omega) (by have:=aA.len; omega) λa42 c42=>?_;refine V0 (Yf CY O) (ak 3 Y O O O al9 O O O (Ln (Et (Cr (V0 (Ym O) (Lf 2 O ?_))))));refine Lw [_] _ Y O gv O O _ _ _ [HT] (by simp) (λw hw=>gw gb HT KV j_ [112,117,98] w Dg hw) ?_;intro ⟨P7,Dc,nE⟩ ⟨Kv,Ky,Dd⟩;have amI:kC j_=(P7,nE):=Qn Kv Ky;obtain ⟨Am,awi⟩:bT nE/\nE.length<=List.length (j_):=Qo KX Kv Ky;refine V0 (Ya O) (Ln (Eb ?_))
 exact Ea (⟨v.ds++[yl],a42,c42,P7,Dc,nE⟩:GD) (by show nE.length<v.q.length; omega) ⟨⟨by simp; omega,Am⟩,Dd,n,(show nE.length<n by omega),by rw [hB,aly mF amI]; simp [Function.comp_def]⟩ (sc O (sc O (sc O (sc O sn)))) (λ_ h=>by
     have h:=h.ar 7 rfl;have h:=h.ar 7 rfl;have h:=h.ar 7 rfl;have h:=h.ar 7 rfl;have h:=h.ar 7 rfl;have h:=h.ar 5 rfl;have h:=Wt 6 h;have h:=Ws.bB h (bc:=[v0,HT]) (by simp)
     exact h)
theorem amJ {s:Tx} (h:¬(dZ s).2=0):kE s=(ug,(dZ s).2):=by rw [kE,if_pos h]
theorem amK {s:Tx} (h:(dZ s).2=0) (h1:ny (dZ s).1=none):kE s=(ug,1):=by rw [kE,if_neg (by simp [h]),h1]
theorem amL {s:Tx} {m:bf} {q:Tk} (h:(dZ s).2=0) (h1:ny (dZ s).1=some (m,q)) (h2:0<q.length\/¬jS m=0):kE s=(ug,1):=by
 rw [kE,if_neg (by simp [h]),h1]
 cases q with
 | cons t r=>rfl
 | nil=>
   simp only;rw [if_neg]
   rcases h2 with h2 | h2
   · simp at h2
   · exact h2
theorem amM {s:Tx} {m:bf} {q:Tk} (h:(dZ s).2=0) (h1:ny (dZ s).1=some (m,q)) (h2:q.length=0) (h3:jS m=0):kE s=(m,0):=by
 rw [kE,if_neg (by simp [h]),h1];obtain rfl:q=[]:=List.eq_nil_of_length_eq_zero h2;simp only;rw [if_pos h3]
theorem QQ {s:Tx} (h:(dZ s).2=0):bT (dZ s).1:=⟨ag_ h,(U7 (U8 h)).2⟩
def Lt:mc:=⟨none,0,none,0,none,0,none,0⟩
theorem QR (N:View):n6 7 6 N Lt ug:=⟨Sl.nil,Sl.nil,Sl.nil,Sl.nil⟩
theorem amN {H N:View} {ke ks:Nat} {s:mc} {m:bf} (h:n6 ke ks H s m) (hv:aN H N):n6 ke ks N s m:=⟨wq h.ae hv,Qq h.decls hv,h.procs.imp λb o x hx=>aeW hv (Nat.le_refl _) (Nat.le_refl _) b o x hx,h.main.imp λb o x hx=>EU hv (Nat.le_refl _) (Nat.le_refl _) b o x hx⟩
theorem QS:Tryz.prog.underlying 20=some (.interface (Tryz.prog.methodsAt 20)):=by kernel_rfl
theorem pD:cG Tryz.prog 29=some 1:=by kernel_rfl
theorem Lu:zeroOf Tryz.prog 29=some (.int .i64 0):=by kernel_rfl
theorem amO:Enters Tryz.prog 119:=enters_of Tryz.func119 (by kernel_rfl) rfl
theorem jn:dV Tryz.prog 29=true:=by kernel_rfl
theorem amP:fh Tryz.prog 228=some [(0,1)]:=by kernel_rfl
theorem amQ:zeroOf Tryz.prog 228=some (.agg #[.slice none 0 0]):=by kernel_rfl
theorem amR:Enters Tryz.prog 121:=enters_of Tryz.func121 (by kernel_rfl) rfl
theorem QT:Enters Tryz.prog 120:=enters_of Tryz.func120 (by kernel_rfl) rfl
theorem aap:Enters Tryz.prog 122:=enters_of Tryz.func122 (by kernel_rfl) rfl
theorem amS (b2 b3:Nat) (m0:Array Value) (AD:m0.size=5) (e0:Int) (w:World) (hw:Ws w (List.flatMap ao.ids [ab b2 (.cells m0 174 (0,0)),ab b3 (.cells #[.int .i64 e0] 29 (0,0))]) [ab b2 (.cells m0 174 (0,0)),ab b3 (.cells #[.int .i64 e0] 29 (0,0))] [] w) :
   CallsD Tryz.prog 120 #[.pointer (some ⟨b2,0,none⟩),.pointer (some ⟨b3,0,none⟩)] (.returning) w λe u2 w'=>u2 = .returning/\(e = .returned (.tuple #[])/\Ws w (List.flatMap ao.ids [ab b2 (.cells m0 174 (0,0)),ab b3 (.cells #[.int .i64 e0] 29 (0,0))]) [ab b2 (.cells m0 174 (0,0)),ab b3 (.cells #[.int .i64 e0] 29 (0,0))] [] w'):=by
 refine EL Tryz.func120 O 5 O O O O O (λ_=>rfl) (.inl ⟨O,O,O⟩) ?_;refine LW (W':=Ws w (List.flatMap ao.ids [ab b2 (.cells m0 174 (0,0)),ab b3 (.cells #[.int .i64 e0] 29 (0,0))]) [ab b2 (.cells m0 174 (0,0)),ab b3 (.cells #[.int .i64 e0] 29 (0,0))] []) (λ_ e=>by subst e; exact hw) (V0 (Uv QS O) (Ln (Et ?_)));refine WC.yU O ?_;refine Ck ?_;refine E0 O λw' hw=>?_;exact ⟨O,hw⟩
theorem aaq (b2 b3:Nat) (m0:List Value) (AD:m0.length=5) (e0:Int) (w:World) (hw:Ws w (List.flatMap ao.ids [ab b2 (.cells m0.toArray 174 (0,0)),ab b3 (.cells #[.int .i64 e0] 29 (0,0))]) [ab b2 (.cells m0.toArray 174 (0,0)),ab b3 (.cells #[.int .i64 e0] 29 (0,0))] [] w) :
   CallsD Tryz.prog 120 #[.pointer (some ⟨b2,0,none⟩),.pointer (some ⟨b3,0,none⟩)] (.panicking bF) w λe u2 w'=>u2 = .panicking [⟨.iface 230 (.agg #[]),true,false⟩]/\(e = .returned (.tuple #[])/\Ws w (List.flatMap ao.ids [ab b2 (.cells m0.toArray 174 (0,0)),ab b3 (.cells #[.int .i64 e0] 29 (0,0))]) [ab b2 (.cells (oL [] none 0 0 none 0 0 none 0 0 none 0 0).toArray 174 (0,0)),ab b3 (.cells #[.int .i64 1] 29 (0,0))] [] w'):=by
 refine EL Tryz.func120 O 5 O O O O O (λ_=>rfl) (.inr ⟨_,O,O,O⟩) ?_;refine LW (W':=Ws w (List.flatMap ao.ids [ab b2 (.cells m0.toArray 174 (0,0)),ab b3 (.cells #[.int .i64 e0] 29 (0,0))]) [ab b2 (.cells m0.toArray 174 (0,0)),ab b3 (.cells #[.int .i64 e0] 29 (0,0))] []) (λ_ e=>by subst e; exact hw) (V0 (aee QS O) (Ln (Et ?_)));refine WC.M_ O ?_;refine Cr (V0 (Yb wx Lj O O) ?_);refine WL.T' 0 (.cells (oL [] none 0 0 none 0 0 none 0 0 none 0 0).toArray 174 (0,0)) Y O O O yq O O (by simp [vi,AD]) (by simp [mS,dE,oL,AD,List.drop_eq_nil_of_le]) ?_;refine ak 1 Y O O O pD O O O (Ln ?_);refine E0 O λw' hw=>?_;exact ⟨O,hw⟩
theorem amT (G:View) (s:Tx) (w:World) (hG:Le G w) (hz:Laid G) :
   Calls Tryz.prog 102 #[st s] w λe w'=>∃r:mc,e = .returned (.tuple #[.agg (gE (kE s).1 r).toArray,.int .i64 (kE s).2])/\Ext w w'/\n6 7 6 (nv w w') r (kE s).1:=by
 refine Ny Tryz.func102 O 35 O O ?_;refine CE (Vs:=[G]) (Ws.init (by simp [hG])) (Cs (Cr ?_));refine Al Y O wx λb2=>?_;refine bI 0 (.cells (oL [] none 0 0 none 0 0 none 0 0 none 0 0).toArray 174 (0,0)) O O ?_;refine Al Y O Lu λb3=>?_;refine bI 0 (.cells #[.int .i64 0] 29 (0,0)) O O (Ln (Et (Cs (Cr (V0 (Ym O) ?_)))));refine Ld Y O amO O (λr:Option Addr×Nat=>.tuple #[.slice r.1 (dZ s).1.length r.2,.int .i64 (dZ s).2]) (λF r=>Sl a6 3 F r.1 r.2 (dZ s).1) (λw hw=>ahG G s w (hw.vs _ (by simp)) hz) ?_;intro F8 r8 hf8 h8;refine V0 (Ym O) (V0 (Yx O O) (V0 (Yx O O) (V0 (Ya O) (ak 0 Y O O O pD O O O (Ln (Et (Cs (Cs (Cr (V0 (Yd 0 O O O jn) (V0 (i' O O) ?_)))))))))));refine Ln (Et ?_);refine Cc O (λad=>?_) (λad=>?_)
 ·have he:¬(dZ s).2=0:=by simpa using ad
  refine Cs ?_;refine CU (mY [.cell 2 174,.cell 3 29]) [1] [3] (.q false 0 (.q true 1 (.e 2 .nil .stop))) mixed (by kernel_rfl) (λ_ _ _ _ _ hd h=>rK (fn:=Tryz.f102) [.cell 2 174,.cell 3 29] O hd h) ?_;refine U0 O (Wp 1) (Yb wx Lj O O) (U0 O (Wp 1) (Yd 0 O O O jn) ?_);refine Ue O (Wp 1) ?_ WU.stop;refine ak 1 Y O O O yq O O O (Ln (Eu ?_));refine WU.nil (Wp 1) ?_;refine WS.e O ?_;refine ak 0 Y O O O pD O O O (Ln (Es ?_));refine WS.nil ?_;refine Et (aw (Er ?_));refine WE.BN (gf O (cU 1 O O nH O) (hZ 0 O O O jn)) λw' hw=>?_;rw [amJ he];exact ⟨Lt,O,hw.fr,QR _⟩
 have he:(dZ s).2=0:=by simpa using ad
 refine eY 0 (.cells #[.int .i64 0] 29 (0,0)) O (by show Obj.cells #[.int .i64 (dZ s).2] _ _=_; rw [he]) (Ck (Et (Cs (Cr (V0 (ED O) ?_)))));refine WL.defer Y O ?_;refine Ln (Et (Cs (Cr (V0 (Ym O) (V0 (Yb amQ amP O O) ?_)))));refine WL.box Y O O λsJ=>?_;refine V0 (Ya O) (Ln (Et (Cs (Cr (V0 (Ym O) ?_)))))
 refine iL (ι:=(bf×mc)×(Option Addr×Nat)×Tk) (κ:=(Option Addr×Nat)×Tk) [_] _ Y O amR O O (λi=>.agg (gE i.1.1 i.1.2).toArray) (λi=>an sJ i.2.1 i.2.2) (λF i=>ny (dZ s).1=some (i.1.1,i.2.2)/\n6 7 6 F i.1.2 i.1.1/\Sl a6 3 F8 i.2.1.1 i.2.1.2 i.2.2) (λ_=>bF) (λi=>an sJ i.1 i.2) (λ_=>ny (dZ s).1=none) ([F8]) (by simp) (λ_ _ h=>h) (λw hw=>(al' sJ F8 r8 (dZ s).1 w (QQ he) h8 hw).mono λe w' h=>by
     rcases h with ⟨x,s,r2,q,h1,h2,h3,h4,h5⟩ | ⟨r2,q,h1,h2,h3⟩
     · exact .inl ⟨((x,s),r2,q),h1,⟨h2,h3,h4⟩,h5⟩
     · exact .inr ⟨(r2,q),h1,h2,h3⟩) ?_ ?_
 ·intro ⟨rp,qp⟩ hp;refine Ep ?_;refine WE.front 1 O ?_;refine WE.front 2 O ?_;refine WE.tv QT (p4 [_,_] _ [ab b2 (.cells (oL [] none 0 0 none 0 0 none 0 0 none 0 0).toArray 174 (0,0)),ab b3 (.cells #[.int .i64 1] 29 (0,0))] O (λw hw=>aaq b2 b3 (oL [] none 0 0 none 0 0 none 0 0 none 0 0) O 0 w hw)) (gf O (cU 0 O O nH O) (hZ 1 O O O jn)) λw' hw=>?_;rw [amK he hp];exact ⟨Lt,O,hw.fr,QR _⟩
 intro Lx ⟨⟨m20,Dr⟩,PG,yg⟩ GW ⟨wa,aar,Y9⟩
 have xY:wM m20<=73728:=by
   have h1:wM m20+18*yg.length<=18*(dZ s).1.length:=XR wa;have:=(QQ he).len;omega
 refine ak 2 Y O O O yq O O O (Ln (Et (Cs (Cs (eY 2 (.cells (gE m20 Dr).toArray 174 (0,0)) O O (Cr (V0 (Ym O) (V0 (aQ O) (V0 (Yf qC O) (V0 (Yd 0 O O O uu) ?_))))))))));refine V0 (Yn ur O) (V0 (bX O O) (V0 (Ym O) ?_));apply Lo 3 O O O O Y O O O O O
 ·intro cD;refine Vg (bC 2 O O nH O) (Lp (.g O O O) O aap O (λw hw=>YG Lx 7 6 Dr m20 w (hw.vs _ (by simp)) aar (by omega)) (Vg (i' O O) ?_));exact Gt 3 O O O
 refine Ln (Et ?_);refine Cc O (λaq=>?_) (λaq=>?_)
 ·have dW:0<yg.length\/¬jS m20=0:=by simpa using aq
  refine Cr (V0 (Yb v8 v7 O O) (V0 (rJ v_ O) ?_));refine WL.panic Y O ?_;refine Ep ?_;refine WE.front 1 O ?_;refine WE.front 2 O ?_;refine WE.tv QT (p4 [_,_] _ [ab b2 (.cells (oL [] none 0 0 none 0 0 none 0 0 none 0 0).toArray 174 (0,0)),ab b3 (.cells #[.int .i64 1] 29 (0,0))] O (λw hw=>aaq b2 b3 (gE m20 Dr) O 0 w hw)) (gf O (cU 0 O O nH O) (hZ 1 O O O jn)) λw' hw=>?_;rw [amL he wa dW];exact ⟨Lt,O,hw.fr,QR _⟩
 have hy:¬0<yg.length/\jS m20=0:=by simpa using aq
 refine Ck (Et (Cs (Cr (V0 (bC 2 O O nH O) (ak 2 Y O O O yq O O O (ak 1 Y O O O pD O O O (Ln (Et (aw ?_)))))))));refine WE.front 1 O ?_;refine WE.front 2 O ?_;refine WE.Us QT (p4 [_,_] _ [ab b2 (.cells (gE m20 Dr).toArray 174 (0,0)),ab b3 (.cells #[.int .i64 0] 29 (0,0))] O (λw hw=>amS b2 b3 (gE m20 Dr).toArray O 0 w hw)) (gf O (cU 0 O O nH O) (hZ 1 O O O jn)) λw' hw=>?_;rw [amM he wa (by have:=hy.1; show yg.length=0; omega) hy.2];exact ⟨Dr,O,hw.fr,amN aar (bJ hw (by simp) GW)⟩
theorem aas (s:Tx):(dJ s).all (·.oneCell')=true:=rfl
abbrev SP:=Option Addr×Nat
def AE:aY->List UInt8:=λx=>x.name
abbrev nI:=List UInt8×Int×Nat
def iv (M:List nI):List nX:=M.map λe=>(e.1,.int .i64 e.2.1,e.2.2)
def mG (k:List UInt8):List nI->Nat->Option (Nat×Int)
 | [],_=>none
 | e::r,i=>if (k==e.1)=true then some (i,e.2.1) else mG k r (i+1)
def QU (k:List UInt8) (M:List nI):Int:=match mG k M 0 with | some (_,n)=>n | none=>0
def GY (k:List UInt8) (n:Int) (M:List nI) (c:Nat):List nI:=match mG k M 0 with
 | some (i,_)=>M.modify i λe=>(k,n,e.2.2)
 | none=>M++[(k,n,c)]
def QV (k:List UInt8) (M:List nI) (c:Nat):Nat:=match mG k M 0 with | some _=>c | none=>c+1
theorem Ly (k:List UInt8):∀(M:List nI) (i:Nat),oZ k (iv M) i=(mG k M i).map λr=>(r.1,.int .i64 r.2)
 | [],_=>rfl
 | e::r,i=>by
   simp only [iv,List.map_cons,oZ,mG];cases (k==e.1)
   · simp only [Bool.false_eq_true,if_false]
     exact Ly k r (i+1)
   · simp
theorem amV (k:List UInt8) (M:List nI):EH k (iv M) (.int .i64 0) = .int .i64 (QU k M):=by
 unfold EH QU;rw [Ly]
 cases mG k M 0<;>rfl
theorem amW (k:List UInt8) (n:Int) (M:List nI) (c:Nat):BL k (.int .i64 n) (iv M) c=iv (GY k n M c):=by
 unfold BL GY;rw [Ly]
 cases mG k M 0 with
 | none=>simp [iv]
 | some r=>
   simp only [Option.map_some];apply List.ext_getElem?;intro i;simp only [iv,List.getElem?_modify,List.getElem?_map]
   cases M[i]? with
   | none=>simp
   | some e=>by_cases h:r.1=i<;>simp [h]
theorem amX (k:List UInt8) (M:List nI) (c:Nat):BM k (iv M) c=QV k M c:=by
 unfold BM QV;rw [Ly]
 cases mG k M 0<;>rfl
def keysOf (M:List nI):List (List UInt8):=M.map (·.1)
theorem QW {k:List UInt8}:∀{M:List nI} {i:Nat},mG k M i=none↔k ∉ keysOf M
 | [],_=>by simp [mG,keysOf]
 | e::r,i=>by
   simp only [mG,keysOf,List.map_cons,List.mem_cons,not_or]
   by_cases h:k=e.1
   · simp [h]
   · have:=QW (k:=k) (M:=r) (i:=i+1)
     simp [h,keysOf] at this ⊢;exact this
theorem aat {k:List UInt8}:∀{M:List nI} {i j:Nat} {n:Int},mG k M i=some (j,n)->i<=j/\(M[j-i]?).map (·.1)=some k
 | [],_,_,_,h=>by simp [mG] at h
 | e::r,i,j,n,h=>by
   simp only [mG] at h
   split at h
   · rename_i hk
     injection h with h; injection h with h1 h2
     subst h1;simp at hk;simp [hk]
   · obtain ⟨h1,h2⟩:=aat h
     refine ⟨by omega,?_⟩
     have:j-i=(j-(i+1))+1:=by omega
     rw [this]; simpa using h2
theorem aau (k:List UInt8) (n:Int) (M:List nI) (c:Nat):keysOf (GY k n M c)=if k ∈ keysOf M then keysOf M else keysOf M++[k]:=by
 unfold GY
 cases h:mG k M 0 with
 | none=>rw [if_neg (QW.1 h)]; simp [keysOf]
 | some r=>
   obtain ⟨j,v⟩:=r;have hk:=(aat h).2
   have hm:k ∈ keysOf M:=by
     cases Classical.em (k ∈ keysOf M) with
     | inl h1=>exact h1
     | inr h1=>rw [QW.2 h1] at h; cases h
   rw [if_pos hm];apply List.ext_getElem?;intro i;simp only [keysOf,List.getElem?_map,List.getElem?_modify]
   cases he:M[i]? with
   | none=>simp
   | some e=>
     by_cases hj:j=i
     · subst hj; simp only [Nat.sub_zero,he] at hk; simp at hk; simp [hk]
     · simp [hj]
def nJ (l:List (List UInt8)):Nat->List nI×Nat
 | 0=>([],0)
 | i+1=>(GY (l[i]?.getD []) (IntKind.i64.wrap (QU (l[i]?.getD []) (nJ l i).1+1)) (nJ l i).1 (nJ l i).2,QV (l[i]?.getD []) (nJ l i).1 (nJ l i).2)
theorem aav (l:List (List UInt8)) (k:List UInt8):∀i,k ∈ keysOf (nJ l i).1↔∃j,j<i/\l[j]?.getD []=k
 | 0=>by simp [nJ,keysOf]
 | i+1=>by
   have ih:=aav l k i;simp only [nJ,aau]
   have step:(∃j,j<i+1/\l[j]?.getD []=k)↔(∃j,j<i/\l[j]?.getD []=k)\/l[i]?.getD []=k:=by
     constructor
     · rintro ⟨j,hj,e⟩
       rcases Nat.lt_succ_iff_lt_or_eq.1 hj with h | rfl
       · exact .inl ⟨j,h,e⟩
       · exact .inr e
     · rintro (⟨j,hj,e⟩ | e)
       · exact ⟨j,by omega,e⟩
       · exact ⟨i,by omega,e⟩
   rw [step,<-ih]
   split
   · rename_i hm
     constructor
     · exact .inl
     · rintro (h | h)
       · exact h
       · rw [<-h]; exact hm
   · simp [eq_comm]
theorem aaw (l:List (List UInt8)):∀i,(keysOf (nJ l i).1).length<=i/\((keysOf (nJ l i).1).length<i↔∃i2,i2<i/\∃j,j<i2/\l[j]?.getD []=l[i2]?.getD [])
 | 0=>by simp [nJ,keysOf]
 | i+1=>by
   obtain ⟨h1,h2⟩:=aaw l i;have hm:=aav l (l[i]?.getD []) i;simp only [nJ,aau]
   split
   · rename_i hk
     obtain ⟨j,hj,e⟩:=hm.1 hk;exact ⟨by omega,⟨λ_=>⟨i,by omega,j,hj,e⟩,λ_=>by omega⟩⟩
   · rename_i hk
     refine ⟨by simp; omega,?_⟩;rw [List.length_append,List.length_singleton]
     constructor
     · intro h
       obtain ⟨i2,a,b⟩:=h2.1 (by omega);exact ⟨i2,by omega,b⟩
     · rintro ⟨i2,QX,j,hj,e⟩
       rcases Nat.lt_succ_iff_lt_or_eq.1 QX with h | rfl
       · have:=h2.2 ⟨i2,h,j,hj,e⟩; omega
       · exact absurd (hm.2 ⟨j,hj,e⟩) hk
theorem amY (l:List (List UInt8)):decide (((nJ l l.length).1.length:Int)<(l.length:Int))=ee l:=by
 have h:=(aaw l l.length).2;simp only [keysOf,List.length_map] at h;rw [Bool.eq_iff_iff];unfold ee;simp only [decide_eq_true_eq,List.any_eq_true,List.mem_range,beq_iff_eq]
 constructor
 · intro av
   obtain ⟨i,hi,j,hj,e⟩:=h.1 (by omega);exact ⟨i,hi,j,hj,e.symm⟩
 · rintro ⟨i,hi,j,hj,e⟩
   have:=h.2 ⟨i,hi,j,hj,e.symm⟩;omega
theorem jI:Tryz.prog.underlying 64=some (.map 9 3):=by kernel_rfl
theorem oM:zeroOf Tryz.prog 3=some (.int .i64 0):=by kernel_rfl
theorem GZ:aZ Tryz.prog 232 0=some 0:=by kernel_rfl
theorem AF:aZ Tryz.prog 232 3=some 3:=by kernel_rfl
theorem qO:aZ Tryz.prog 232 1=some 1:=by kernel_rfl
theorem lW:aZ Tryz.prog 232 2=some 2:=by kernel_rfl
theorem G0:aZ Tryz.prog 180 1=some 1:=by kernel_rfl
theorem Lz:dV Tryz.prog 178=true:=by kernel_rfl
theorem AG:dQ Tryz.prog 178=some 4:=by kernel_rfl
theorem mH:fg Tryz.prog 232=some 4:=by kernel_rfl
theorem jo:zeroOf Tryz.prog 232=some (.agg #[.int .i64 0,.int .i64 0,.int .i64 0,st []]):=by kernel_rfl
theorem lX:cG Tryz.prog 232=some 4:=by kernel_rfl
theorem amZ:Enters Tryz.prog 138:=enters_of Tryz.func138 (by kernel_rfl) rfl
theorem QY:Enters Tryz.prog 137:=enters_of Tryz.func137 (by kernel_rfl) rfl
theorem QZ:aZ Tryz.prog 180 0=some 0:=by kernel_rfl
theorem aax (H:View) (a:Option Addr) (c:Nat) (l:List (List UInt8)) (w:World) (hH:Le H w) (hm:Sl rdStr 1 H a c l) :
   Calls Tryz.prog 33 #[.slice a l.length c] w λe w'=>e = .returned (.bool (ee l))/\Ext w w':=by
 have dN:=hm.cap;have ek:=hm.max;refine enter Tryz.func33 O 25 O O ?_;refine CE (Vs:=[H]) (Ws.init (by simp [hH])) (Cs (Cr (V0 (Ya O) (Ln (Et (Cs (Cs (Cr (V0 (Ya O) (Ln (Et (Cb ?_))))))))))));refine CW (ι:=Nat) (λi=>[(3,.int .i64 (i:Int))]) [(0,_)] (λi=>i<=l.length/\∀i2,i2<i->∀j,j<i2->(l[i2]?.getD []==l[j]?.getD [])=false) (λi=>l.length-i) 0 ⟨Nat.zero_le _,by simp⟩ (sc O (sc O sn)) ?_;intro i ⟨hi,bN⟩;refine Cs (Cs (Cr (V0 (Ym O) (V0 (Ym O) (V0 (Yn dA O) (V0 (a_ O O) (Ln (Et ?_))))))));refine Cc O (λad=>?_) (λad=>?_)
 ·have av:i<l.length:=by simpa using ad
  obtain ⟨pb,po,ha,G1⟩:=hm.aO i (l[i]?.getD []) (by rw [List.getElem?_eq_getElem av]; rfl);have bQ:vc H pb (po+i*1)=some (st (l[i]?.getD [])):=G1 0 _ rfl;refine Ck (Et (Cs (Cb (Cs (Cr (V0 (Ya O) (Ln (Et (Cb ?_)))))))));refine CW (ι:=Nat) (λj=>[(4,.int .i64 (j:Int))]) [(0,_),(3,_)] (λj=>j<=i/\∀j2,j2<j->(l[i]?.getD []==l[j2]?.getD [])=false) (λj=>i-j) 0 ⟨Nat.zero_le _,by simp⟩ (sc O (sc O (sc O sn))) ?_;intro j ⟨hj,eL⟩;refine Cs (Cs (Cr (V0 (Ym O) (V0 (Ym O) (V0 (a_ O O) (Ln (Et ?_)))))));refine Cc O (λaq=>?_) (λaq=>?_)
  ·have hjt:j<i:=by simpa using aq
   obtain ⟨qb,qo,lI,G1⟩:=hm.aO j (l[j]?.getD []) (by rw [List.getElem?_eq_getElem (by omega)]; rfl);have sz:vc H qb (qo+j*1)=some (st (l[j]?.getD [])):=G1 0 _ rfl;refine Ck (Et (Cs (Cb (Cs ?_))));refine WC.nU [(0,true),(1,true),(2,true),(3,true),(4,true),(5,true),(6,true),(7,true),(8,true)] mixed (by kernel_rfl) (λ_ _ _ d _ h=>by cases d<;>exact h) ?_;refine D0 O (λ_ h=>h) (Ym O) (D0 O (λ_ h=>h) (Ym O) (D0 O (λ_ h=>h) (Yo dA O O ha (by omega)) (D0 O (λ_ h=>h) (bL 0 cO O O (bQ)) (D0 O (λ_ h=>h) (Ym O) (D0 O (λ_ h=>h) (Ym O) (D0 O (λ_ h=>h) (Yo dA O O lI (by omega)) (D0 O (λ_ h=>h) (bL 0 cO O O (sz)) ?_)))))));refine D0 O (λ_ h=>h) (yW O O) ?_;refine WD.nil (λ_ h=>h) ?_;refine Et ?_;refine Cc O (λay=>?_) (λay=>?_)
   ·refine Cs (Cr (V0 (Ya O) (Ln (Et (aw (bt (Er (Er (bt (bt (Er (Er (bt (Er ?_))))))))))))));refine R1 O O λw' hw=>?_;exact ⟨by rw [Vt av hjt ay],hw.fr⟩
   refine Ck (Eb (Et (Cr (V0 (Ym O) (V0 (Yi O O O (by omega)) (V0 (Ya O) (Ln ?_)))))));exact Ea (j+1) (by omega) ⟨by omega,λj2 h2=>by rcases Nat.lt_succ_iff_lt_or_eq.1 h2 with h | rfl; exact eL j2 h; exact ay⟩ (sc rfl (sc rfl (sc rfl sn))) (λ_ h=>h)
  refine Ce (Ex (Ex (bK (Eb (Et (Cr (V0 (Ym O) (V0 (Yi O O O (by omega)) (V0 (Ya O) (Ln ?_))))))))));exact Ea (i+1) (by omega) ⟨by omega,λi2 h2 j2 Ox=>by rcases Nat.lt_succ_iff_lt_or_eq.1 h2 with h | rfl; exact bN i2 h j2 Ox; exact eL j2 (by simp at aq; omega)⟩ (sc rfl (sc rfl sn)) (λ_ h=>h)
 refine Ce (Ex (Ex (bK (Et (Cs (Cr (V0 (Ya O) (Ln (Et (aw ?_))))))))));refine R1 O O λw' hw=>?_;exact ⟨by rw [afn λi2 h2=>bN i2 (by simp at ad; omega)],hw.fr⟩
theorem Q0 (H:View) (a:Option Addr) (c:Nat) (l:List (List UInt8)) (w:World) (hH:Le H w) (hm:Sl rdStr 1 H a c l) :
   Calls Tryz.prog 137 #[.slice a l.length c] w λe w'=>e = .returned (.bool (ee l))/\Ext w w':=by
 have dN:=hm.cap;have ek:=hm.max;refine enter Tryz.func137 O 23 O O ?_;refine CE (Vs:=[H]) (Ws.init (by simp [hH])) (Cs (Cr (V0 (Ya O) (Ln (Et (Cs (Cr ?_)))))));refine WL.ad3 Y O λb6=>?_;refine V0 (Ya O) (Ln (Et (Cs (Cs (Cr (V0 (Ym O) (V0 (Yn dA O) (V0 (Ym O) (Ln (Et (Cb ?_)))))))))));refine ct (ι:=Nat) (λi=>[(9,.int .i64 (i:Int))]) [(0,_),(2,_),(3,_),(7,_),(8,_)] (λi=>Ws w [] [ab b6 (pZ (iv (nJ l i).1) (nJ l i).2)] [H]) (λi=>i<=l.length) (λi=>l.length-i) 0 (Nat.zero_le _) (sc O (sc O (sc O (sc O (sc O (sc O sn)))))) (λ_ h=>h) ?_;intro i hi;refine Cs (Cr (V0 (a_ O O) (Ln (Et (Cs ?_)))));refine Cc O (λad=>?_) (λad=>?_)
 ·have av:i<l.length:=by simpa using ad
  obtain ⟨pb,po,ha,G1⟩:=hm.aO i (l[i]?.getD []) (by rw [List.getElem?_eq_getElem av]; rfl);have bQ:vc H pb (po+i*1)=some (st (l[i]?.getD [])):=G1 0 _ rfl;refine Ck (Et (Cs (Cb (Cs (Cr (V0 (Yo dA O O ha (by omega)) (V0 (bL 0 cO O O (bQ)) (V0 (Ya O) (Ln (Et (Cr (V0 (Ym O) (V0 (Ym O) (V0 (ad4 0 jI eF oM O O O) ?_))))))))))))));rw [amV];refine V0 (xj O O) ?_;refine WL.ad5 0 Y jI eF O O O O ?_;rw [amW,amX];refine Ln (Eb (Et (Cr (V0 (Yi O O O (by omega)) (V0 (Ym O) (Ln ?_))))));exact Ea (i+1) (by omega) (by omega) (sc O (sc O (sc O (sc O (sc O (sc O sn)))))) (λ_ h=>h)
 have nz:i=l.length:=by simp at ad; omega
 subst nz;refine Ce (Ex (Ex (bK (Et (Cs (Cr (V0 (Ym O) (V0 (Up 0 jI O O) (V0 (Ym O) (V0 (Yn dA O) (V0 (a_ O O) (V0 (Ya O) ?_))))))))))));refine Ln (Et (aw ?_));refine R1 O O λw' hw=>?_;exact ⟨by rw [<-amY]; simp [iv],hw.fr⟩
theorem am1 (x:aY) (w:World) :
   Calls Tryz.prog 138 #[.agg #[.int .i64 x.kind,.int .i64 x.n,.int .i64 x.pl,st x.name]] w λe w'=>e = .returned (.bool (qc x))/\Ext w w':=by
 refine enter Tryz.func138 O 42 O O ?_;refine CE (Vs:=[]) (Ws.init (by simp)) (Cs (Cr ?_));refine WL.box Y O O λb1=>?_;refine V0 (Ya O) (Ln (Et (Cs (Cr (V0 (Ya O) (V0 (Ya O) (Ln (Et (Cs (Cr (V0 (Ya O) (Ln (Et (Cs (Cs (Cr (V0 (Yf GZ O) ?_)))))))))))))))));refine V0 (Yd 0 O O O aj) (Ln (Et (Cb (Cs (Cr (V0 (aF O O) (V0 (Ya O) (Ln (Et ?_)))))))));refine Cc O (λad=>?_) (λad=>?_)
 ·refine Cr (V0 (Ya O) (Ln (Eb (Et (Cs (Cr (V0 (Yf AF O) (V0 (Yd 0 O O O cO) (Lp Y O sv O (λw hw=>su _ w) (V0 (Ym O) ?_))))))))));apply La 4 O O O O Y O O O O O
  ·intro cD;refine Vg (Yf qO O) (Vg (Yd 0 O O O aj) (Vg (Ym O) (Vg (eK O O) ?_)));exact Gt 4 O O O
  refine V0 (Ym O) ?_;apply La 4 O O O O Y O O O O O
  ·intro bR;refine Vg (Yf qO O) (Vg (Yd 0 O O O aj) (Vg (Ym O) (Vg (gL O O) ?_)));exact Gt 4 O O O
  refine V0 (Ym O) ?_;apply La 3 O O O O Y O O O O O
  ·intro gP;refine Vg (Yf lW O) (Vg (Yd 0 O O O aj) (Vg (eK O O) ?_));exact Gt 3 O O O
  refine V0 (Ym O) ?_;apply La 4 O O O O Y O O O O O
  ·intro mC;refine Vg (Yf lW O) (Vg (Yd 0 O O O aj) (Vg (Ym O) (Vg (gL O O) ?_)));exact Gt 4 O O O
  refine V0 (Ya O) (Ln (Et (aw ?_)));refine R1 O O λw' hw=>?_
  have hk:x.kind=1:=by simpa using ad
  exact ⟨by rw [Ji (by simp [hk])],hw.fr⟩
 refine Cs (Cr (V0 (aF O O) (V0 (Ya O) (Ln (Et ?_)))));refine Cc O (λaq=>?_) (λaq=>?_)
 ·refine Cr (V0 (Ya O) (Ln (Eb (Et (Cs (Cr (V0 (Yf AF O) (V0 (Yd 0 O O O cO) (Lp Y O sv O (λw hw=>su _ w) (V0 (Ym O) ?_))))))))));apply La 4 O O O O Y O O O O O
  ·intro cD;refine Vg (Yf qO O) (Vg (Yd 0 O O O aj) (Vg (Ym O) (Vg (eK O O) ?_)));exact Gt 4 O O O
  refine V0 (Ym O) ?_;apply La 4 O O O O Y O O O O O
  ·intro bR;refine Vg (Yf qO O) (Vg (Yd 0 O O O aj) (Vg (Ym O) (Vg (gL O O) ?_)));exact Gt 4 O O O
  refine V0 (Ym O) ?_;apply La 3 O O O O Y O O O O O
  ·intro gP;refine Vg (Yf lW O) (Vg (Yd 0 O O O aj) (Vg (eK O O) ?_));exact Gt 3 O O O
  refine V0 (Ym O) ?_;apply La 4 O O O O Y O O O O O
  ·intro mC;refine Vg (Yf lW O) (Vg (Yd 0 O O O aj) (Vg (Ym O) (Vg (gL O O) ?_)));exact Gt 4 O O O
  refine V0 (Ya O) (Ln (Et (aw ?_)));refine R1 O O λw' hw=>?_
  have hk:x.kind=2:=by simpa using aq
  exact ⟨by rw [Ji (by simp [hk])],hw.fr⟩
 refine Cs (Cr (V0 (aF O O) (V0 (Ya O) (Ln (Et ?_)))));refine Cc O (λay=>?_) (λay=>?_)
 ·refine Cr (V0 (Ya O) (V0 (Ya O) (Ln (Eb (Et (Cs (Cr (V0 (Yf AF O) (V0 (Yd 0 O O O cO) (Lp Y O sv O (λw hw=>su _ w) (V0 (Ym O) ?_)))))))))));apply La 4 O O O O Y O O O O O
  ·intro cD;refine Vg (Yf qO O) (Vg (Yd 0 O O O aj) (Vg (Ym O) (Vg (eK O O) ?_)));exact Gt 4 O O O
  refine V0 (Ym O) ?_;apply La 4 O O O O Y O O O O O
  ·intro bR;refine Vg (Yf qO O) (Vg (Yd 0 O O O aj) (Vg (Ym O) (Vg (gL O O) ?_)));exact Gt 4 O O O
  refine V0 (Ym O) ?_;apply La 3 O O O O Y O O O O O
  ·intro gP;refine Vg (Yf lW O) (Vg (Yd 0 O O O aj) (Vg (eK O O) ?_));exact Gt 3 O O O
  refine V0 (Ym O) ?_;apply La 4 O O O O Y O O O O O
  ·intro mC;refine Vg (Yf lW O) (Vg (Yd 0 O O O aj) (Vg (Ym O) (Vg (gL O O) ?_)));exact Gt 4 O O O
  refine V0 (Ya O) (Ln (Et (aw ?_)));refine R1 O O λw' hw=>?_
  have hk:x.kind=3:=by simpa using ay
  exact ⟨by rw [Ji (by simp [hk])],hw.fr⟩
 refine Cs (Cr (V0 (aF O O) (V0 (Ya O) (Ln (Et ?_)))));refine Cc O (λaJ=>?_) (λaJ=>?_)
 ·refine Cr (V0 (Ya O) (Ln (Eb (Et (Cs (Cr (V0 (Yf AF O) (V0 (Yd 0 O O O cO) (Lp Y O sv O (λw hw=>su _ w) (V0 (Ym O) ?_))))))))));apply La 4 O O O O Y O O O O O
  ·intro cD;refine Vg (Yf qO O) (Vg (Yd 0 O O O aj) (Vg (Ym O) (Vg (eK O O) ?_)));exact Gt 4 O O O
  refine V0 (Ym O) ?_;apply La 4 O O O O Y O O O O O
  ·intro bR;refine Vg (Yf qO O) (Vg (Yd 0 O O O aj) (Vg (Ym O) (Vg (gL O O) ?_)));exact Gt 4 O O O
  refine V0 (Ym O) ?_;apply La 3 O O O O Y O O O O O
  ·intro gP;refine Vg (Yf lW O) (Vg (Yd 0 O O O aj) (Vg (eK O O) ?_));exact Gt 3 O O O
  refine V0 (Ym O) ?_;apply La 4 O O O O Y O O O O O
  ·intro mC;refine Vg (Yf lW O) (Vg (Yd 0 O O O aj) (Vg (Ym O) (Vg (gL O O) ?_)));exact Gt 4 O O O
  refine V0 (Ya O) (Ln (Et (aw ?_)));refine R1 O O λw' hw=>?_
  have hk:x.kind=4:=by simpa using aJ
  exact ⟨by rw [Ji (by simp [hk])],hw.fr⟩
 refine Cs (Cr (V0 (Ya O) (Ln (Et (aw (bt (Er ?_)))))));refine R1 O O λw' hw=>?_;simp at ad aq ay aJ;exact ⟨by rw [afm ad aq ay aJ],hw.fr⟩
theorem am2 (H:View) (a:Option Addr) (c:Nat) (name:List UInt8) (items:List aY) (w:World) (hH:Le H w) (hm:Sl mj 4 H a c items) :
   Calls Tryz.prog 116 #[.agg #[st name,.slice a items.length c]] w λe w'=>e = .returned (.int .i64 (vw name items))/\Ext w w':=by
 have dN:=hm.cap;have ek:=hm.max;refine enter Tryz.func116 O 34 O O ?_;refine CE (Vs:=[H]) (Ws.init (by simp [hH])) (Cs (Cr ?_));refine WL.box Y O O λb1=>?_;refine V0 (Ya O) (Ln (Et (Cs (Cs (Cr (V0 (Yf G0 O) (V0 (Yd 0 O O O Lz) (V0 (Yn AG O) (V0 (bX O O) (Ln (Et ?_)))))))))));refine Cc O (λad=>?_) (λad=>?_)
 ·have AH:16<items.length:=by simp at ad; omega
  refine Cs (Cr (V0 (Ya O) (Ln (Et (aw (Er ?_))))));refine R1 O O λw' hw=>?_;exact ⟨by rw [vw,if_pos AH],hw.fr⟩
 have AH:¬16<items.length:=by simp at ad; omega
 refine Ck (Et (Cs (Cr (V0 (Ya O) (LW (λ_ h=>h.fj 9 1) (Ln (Et (Cs (Cs (Cr (V0 (Yf G0 O) (V0 (Yd 1 O O O Lz) (V0 (Yn AG O) (V0 (Ym O) ?_))))))))))))));refine Ln (Et (Cb ?_));refine ct (ι:=Nat×Option Addr×Nat) (λg=>[(13,.int .i64 (g.1:Int)),(3,.slice g.2.1 ((items.take g.1).map (·.name)).length g.2.2)]) [(1,_),(11,_),(12,_)] (λg=>Ws w [] [bj 9 1 dJ g.2.1 g.2.2 ((items.take g.1).map (·.name)),ab b1 (.cells (Value.agg #[st name,.slice a items.length c]).cells 180 (0,0))] [H]) (λg=>g.1<=items.length/\∀j x,j<g.1->items[j]? = some x->qc x=true) (λg=>items.length-g.1) (0,none,0) ⟨Nat.zero_le _,by simp⟩ (sc O (sc O (sc O (sc O (sc O sn))))) (λ_ h=>h) ?_;intro g ⟨hi,bN⟩;refine Cs (Cr (V0 (a_ O O) (Ln (Et (Cs ?_)))));refine Cc O (λaq=>?_) (λaq=>?_)
 ·have av:g.1<items.length:=by simpa using aq
  obtain ⟨x,hx⟩:∃x,items[g.1]? = some x:=⟨_,List.getElem?_eq_getElem av⟩;obtain ⟨pb,po,ha,bQ⟩:=hm.aO g.1 x hx;have bQ:aP H pb (po+g.1*4) x.cells:=bQ
  have hT:(items.take (g.1+1)).map (·.name)=(items.take g.1).map (·.name)++[x.name]:=by rw [List.take_add_one,hx]; simp
  have hL:((items.take g.1).map (·.name)).length=g.1:=by simp; omega
  refine Ck (Et (Cs (Cb (Cs (Cr (V0 (Yo AG O O ha (by omega)) (V0 (cF 0 mH O O O (bQ)) ?_)))))));refine Al Y O jo λb5=>?_;refine ak 0 Y O O O lX O O O (Ln (Et (Cs (Cs (Cr (V0 (bC 0 O O mH O) (Lp Y O amZ O (λw hw=>am1 x w) (V0 (dw O) (Ln (Et ?_))))))))));refine Cc O (λay=>?_) (λay=>?_)
  ·have dW:=afo hx (by simpa using ay);refine Cs (Cr (V0 (Ya O) (Ln (Et (aw (Er (bt (Er (Er (bt (Er ?_)))))))))));refine R1 O O λw' hw=>?_;exact ⟨by rw [vw,if_neg AH,dW]; rfl,hw.fr⟩
  have aA:qc x=true:=by simpa using ay
  refine Ck (Et (Cr (V0 (Ym O) (V0 (Yf AF O) (V0 (Yd 0 O O O cO) ?_)))));refine Lb Y O dm O O O O λQ1=>?_;refine bI 0 (.cells (dJ x.name).toArray 9 (0,0)) O (O) ?_;refine LA (x.name) 2 0 Y O dm O O O O O O (by omega) (by omega) λa24 c24=>?_;refine V0 (Ya O) (Ln (Eb (Et (Cr (V0 (Yi O O O (by omega)) (V0 (Ym O) (Ln ?_)))))));rw [<-hT]
  exact Ea ((g.1+1,a24,c24):Nat×Option Addr×Nat) (by first | omega | (dsimp only; omega)) ⟨by first | omega | (dsimp only; omega),λj y hj hy=>by
      rcases Nat.lt_succ_iff_lt_or_eq.1 hj with h | h
      · exact bN j y h hy
      · subst h; rw [hx] at hy; injection hy with hy; subst hy; exact aA⟩ (sc rfl (sc rfl (sc rfl (sc rfl (sc rfl sn))))) (λ_ h=>Wd 2 h)
 have nz:g.1=items.length:=by simp at aq; omega
 rw [nz,List.take_length];refine Ce (Ex (Ex (bK (Et (Cs (Cs ?_))))));refine WC.p8 (rd:=rdStr) 0 O lK (λ_ _ _ _ h=>h) λHN Q2=>?_;refine Cr (V0 (Ym O) ?_)
 refine Lp Y O QY O (λw hw=>by
     have:=Q0 HN g.2.1 g.2.2 (items.map (·.name)) w (hw.vs _ (by simp)) Q2
     exact this) ?_
 refine V0 (Ym O) ?_;apply Lo 4 O O O O Y O O O O O
 ·intro cD;refine Vg (Yf QZ O) (Vg (Yd 0 O O O cO) (Lp (.g O O O) O sv O (λw hw=>su _ w) (Vg (dw O) ?_)));exact Gt 4 O O O
 refine Ln (Et ?_);refine Cc O (λaJ=>?_) (λaJ=>?_)
 ·refine Cs (Cr (V0 (Ya O) (Ln (Et (aw (Er ?_))))));refine R1 O O λw' hw=>?_;have hy:=Vu λj y hy=>bN j y (by have:=(List.getElem?_eq_some_iff.1 hy).1; omega) hy;exact ⟨by rw [vw,if_neg AH,hy,aJ]; rfl,hw.fr⟩
 refine Ck (Et (Cs (Cr (V0 (Ya O) (Ln (Et (aw ?_)))))));refine R1 O O λw' hw=>?_;have hy:=Vu λj y hy=>bN j y (by have:=(List.getElem?_eq_some_iff.1 hy).1; omega) hy;exact ⟨by rw [vw,if_neg AH,hy,aJ]; rfl,hw.fr⟩
end Go.Proofs.YtplfmnkmlaolpaaGreatDoor
end
