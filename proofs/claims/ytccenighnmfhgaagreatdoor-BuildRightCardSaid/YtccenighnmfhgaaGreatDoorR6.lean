/- BuildRight: what Units tells is a right program, or needs too many numbers; what Build tells is a right image. -/
import Derived.Test.YtccenighnmfhgaaGreatDoorR5
set_option linter.unusedVariables false
set_option linter.unusedSimpArgs false
section
namespace Go.Proofs.YtccenighnmfhgaaGreatDoor
open Go.Bw
theorem pR {b:Nat} {T:TypeId} {a:Nat×Nat} (l:List Int) (f:l.length<=2):Sl o8 1 (bv b (.cells (l.flatMap e5).toArray T a)) (some ⟨b,0,none⟩) l.length l:=
 ⟨Nat.le_refl _,by omega,by simp,λi y d=>⟨b,0,rfl,λk u c=>KK (by
   have e:k<1:=(List.getElem?_eq_some_iff.1 c).1
   show f_ (.cells (l.flatMap e5).toArray T a) (0+i*1+k)=some u
   simp only [f_,List.getElem?_toArray,Nat.zero_add];rw [o2 D6 d e]
   exact c)⟩⟩
theorem I0:Enters Tryz.prog 62:=enters_of Tryz.func62 (by kernel_rfl) rfl
theorem I1:aK Tryz.prog 165=some [(0,2)]:=by kernel_rfl
theorem I2:zeroOf Tryz.prog 165=some (.agg #[.pointer none,.slice none 0 0]):=by kernel_rfl
theorem ye:Enters Tryz.prog 80:=enters_of Tryz.func80 (by kernel_rfl) rfl
theorem oU:Enters Tryz.prog 81:=enters_of Tryz.func81 (by kernel_rfl) rfl
theorem S8:Enters Tryz.prog 83:=enters_of Tryz.func83 (by kernel_rfl) rfl
theorem I3:Enters Tryz.prog 84:=enters_of Tryz.func84 (by kernel_rfl) rfl
theorem S9 (f:View) (o:bA) (q:kZ) (w:World) (aj:Le f w) (i:mC f q o) :
   Calls Tryz.prog 27 #[.agg (hL o q).toArray] w λe w'=>e = .returned (.tuple #[st (oi o).1,.int .i64 (oi o).2])/\Ext w w':=by
 have aG:=i.ak.cap;have aH:=i.ak.max;have aI:=i.code.cap;have aJ:=i.code.max;have aK:=i.fix.cap;have aL:=i.fix.max;have aM:=i.cI.cap;have aN:=i.cI.max;have aP:=i.cI;refine enter Tryz.func27 O 119 O O ?_;refine CE (Vs:=[f]) (Ws.init (by simp [aj])) (aa ?_);refine WL.box Y O O λB=>?_;refine ai O (ai O (ae (Cs (aa (I (b8 0 O O mj O) (Lp Y O I0 O (λw d=>IP f o q w (d.vs _ (by simp)) i) (ai O (ae (aa (ad O ?_))))))))));refine I (e8 O O) (ae ?_);refine Cc O (λC=>?_) (λC=>?_)
 ·have u:¬fz o=0:=by simpa using C
  refine aa (ad O (ai O (ai O (ae (aX (Er ?_))))));refine WE.gi O O O λw' d=>?_;exact ⟨by rw [oi,if_neg u]; rfl,d.fr⟩
 have u:fz o=0:=by simpa using C
 have j:=sT u;have aQ:=j.ak;have aR:=j.fix;have aS:=j.cI;have aU:=j.nm;have al:=j.us o.ak.length;rw [List.take_length] at al;have am:=j.co o.code.length;rw [List.take_length] at am;have an:=j.fx o.fix.length;rw [List.take_length] at an;have ao:=j.en o.cI.length;rw [List.take_length] at ao;refine bf (aa (I (Yb I2 I1 O O) ?_));refine WL.box Y O O λc=>?_;refine LW (λ_ h=>h.e4 5 1) (ai O (ae (aa (ad O (I (Yf vx O) (I (Yd 2 O O O cN) (Lf 1 O ?_)))))));refine Lw (ι:=Value) [_,_] _ Y O ye O O (λ_=>.tuple #[]) (λl=>[aq c (.cells #[.pointer (some ⟨c,0,none⟩),l] 165 (0,0)),bY 5 1 l (bH o.nm).length ((bH o.nm).map au)]) (λ_=>True) [] (by simp) (λw d=>yc c none (.slice none 0 0) [] o.nm w Y (by simp; omega) d) ?_;intro ap _;refine ae (aa (ad O (I (Yf r4 O) (I (Yd 2 O O O eU) (I (Yn di O) ?_)))));refine Lb Y O hS O O O O λD=>?_;refine cD 0 (.cells (([(o.ak.length:Int)]:List Int).flatMap e5).toArray 3 (0,0)) O O ?_;refine WL.kh 0 O ?_;refine Lw (ι:=Option Addr×Value) [_,_] _ Y O oU O O (λ_=>.tuple #[]) (λr=>[aq c (.cells #[.pointer (r.1),r.2] 165 (0,0)),bY 5 1 r.2 (bH o.nm++[(o.ak.length:Int)].flatMap bm).length ((bH o.nm++[(o.ak.length:Int)].flatMap bm).map au)]) (λr=>r.1=none\/r.1=some ⟨c,0,none⟩) [bv D (.cells (([(o.ak.length:Int)]:List Int).flatMap e5).toArray 3 (0,0))] (by simp) (λw d=>oS (bv D (.cells (([(o.ak.length:Int)]:List Int).flatMap e5).toArray 3 (0,0))) (some ⟨D,0,none⟩) 1 [(o.ak.length:Int)] c (some ⟨c,0,none⟩) ap (bH o.nm) w (pR _ (by simp)) (.inr O) (by simp only [List.length_append,bb,ku,List.length_singleton,List.flatMap_cons,List.flatMap_nil,List.length_cons,List.length_nil,List.append_nil]; omega) d) ?_;intro S ar;refine ae (Cs (aa (I (Yf r4 O) (I (Yd 2 O O O eU) (I (Yn di O) (ad O (ae (Cb ?_))))))))
 refine av (ι:=Nat×Option Addr×Value) (λg=>[(32,.int .i64 (g.1:Int))]) [(1,_),(2,_),(3,_),(5,_),(30,_),(31,_)] (λg=>Ws w [] ([aq c (.cells #[.pointer (g.2.1),g.2.2] 165 (0,0)),bY 5 1 g.2.2 (bH o.nm++[(o.ak.length:Int)].flatMap bm++(o.ak.take g.1).flatMap bH).length ((bH o.nm++[(o.ak.length:Int)].flatMap bm++(o.ak.take g.1).flatMap bH).map au)]++[aq B (.cells (hL o q).toArray 56 (0,0))]) [f]) (λg=>g.1<=o.ak.length/\(g.2.1=none\/g.2.1=some ⟨c,0,none⟩)) (λg=>o.ak.length-g.1) ((0,S.1,S.2):Nat×Option Addr×Value) ⟨Nat.zero_le _,ar⟩ (sc O (sc O (sc O (sc O (sc O (sc O (sc O sn))))))) (λ_ h=>by
   have h:=Ws.cv h (ah:=[f]) (by simp);simp only [List.take_zero,List.flatMap_nil,List.append_nil]
   exact h) ?_
 intro g ⟨T,s⟩;refine aa (I (b0 O O) (ae (Cs ?_)));refine Cc O (λE=>?_) (λE=>?_)
 ·have k:g.1<o.ak.length:=by simpa using E
  obtain ⟨x,p⟩:∃q,o.ak[g.1]? = some q:=⟨_,List.getElem?_eq_getElem k⟩;obtain ⟨v,y,z,n⟩:=i.ak.bJ g.1 x p;have n:bI f v (y+g.1*1) (dD x):=n;have U:=j.us g.1;have aV:=j.un x (List.mem_of_getElem? p);refine bf (Cs (Cb (aa (I (Yo di O O z k) (I (b9 0 cN O O (n 0 _ O)) (ai O (ae (Cr (ad O (ad O ?_))))))))));refine Lw (ι:=Value) [_,_] _ Y O ye O O (λ_=>.tuple #[]) (λl=>[aq c (.cells #[.pointer (some ⟨c,0,none⟩),l] 165 (0,0)),bY 5 1 l (bH o.nm++[(o.ak.length:Int)].flatMap bm++(o.ak.take g.1).flatMap bH++bH x).length ((bH o.nm++[(o.ak.length:Int)].flatMap bm++(o.ak.take g.1).flatMap bH++bH x).map au)]) (λ_=>True) [] (by simp) (λw d=>yc c (g.2.1) g.2.2 (bH o.nm++[(o.ak.length:Int)].flatMap bm++(o.ak.take g.1).flatMap bH) x w s (by simp only [List.length_append,bb,ku,List.length_singleton,List.flatMap_cons,List.flatMap_nil,List.length_cons,List.length_nil,List.append_nil]; omega) d) ?_;intro aw _;refine Ln (Eb (Et (Cr (I (Yi O O O (by omega)) (ad O (Ln ?_))))))
  exact Ea ((g.1+1,some ⟨c,0,none⟩,aw):Nat×Option Addr×Value) (by show _-(g.1+1)<_; omega) ⟨(by show g.1+1<=_; omega),.inr O⟩ (sc O (sc O (sc O (sc O (sc O (sc O (sc O sn))))))) (λ_ h=>by
    have h:=Ws.cv h (ah:=[f]) (by simp)
    have e:bH o.nm++[(o.ak.length:Int)].flatMap bm++(o.ak.take g.1).flatMap bH++bH x=bH o.nm++[(o.ak.length:Int)].flatMap bm++(o.ak.take (g.1+1)).flatMap bH:=by rw [yd p]; simp [ez,gb]
    rw [e] at h
    exact h)
 have A:g.1=o.ak.length:=by simp at E; omega
 rw [A,List.take_length];refine Ce (Ex (Ex (cp (Et (aa (ad O (I (Yf x5 O) (I (Yd 2 O O O aT) (I (Yf kJ O) (I (Yd 2 O O O h_) (I (Yn iN O) ?_)))))))))));refine Lb Y O hS O O O O λF=>?_;refine cD 0 (.cells (([o.data,(o.code.length:Int)]:List Int).flatMap e5).toArray 3 (0,0)) O O ?_;refine WL.kh 0 O ?_;refine Lw (ι:=Option Addr×Value) [_,_] _ Y O oU O O (λ_=>.tuple #[]) (λr=>[aq c (.cells #[.pointer (r.1),r.2] 165 (0,0)),bY 5 1 r.2 (bH o.nm++[(o.ak.length:Int)].flatMap bm++o.ak.flatMap bH++[o.data,(o.code.length:Int)].flatMap bm).length ((bH o.nm++[(o.ak.length:Int)].flatMap bm++o.ak.flatMap bH++[o.data,(o.code.length:Int)].flatMap bm).map au)]) (λr=>r.1=none\/r.1=some ⟨c,0,none⟩) [bv F (.cells (([o.data,(o.code.length:Int)]:List Int).flatMap e5).toArray 3 (0,0))] (by simp) (λw d=>oS (bv F (.cells (([o.data,(o.code.length:Int)]:List Int).flatMap e5).toArray 3 (0,0))) (some ⟨F,0,none⟩) 2 [o.data,(o.code.length:Int)] c (g.2.1) g.2.2 (bH o.nm++[(o.ak.length:Int)].flatMap bm++o.ak.flatMap bH) w (pR _ (by simp)) s (by simp only [List.length_append,bb,ku,List.length_singleton,List.flatMap_cons,List.flatMap_nil,List.length_cons,List.length_nil,List.append_nil]; omega) d) ?_;intro V ax;refine ae (Cs (aa (I (Yf kJ O) (I (Yd 2 O O O h_) (I (Yn iN O) (ad O (ae (Cb ?_))))))))
 refine av (ι:=Nat×Option Addr×Value) (λg=>[(51,.int .i64 (g.1:Int))]) [(1,_),(2,_),(3,_),(5,_),(49,_),(50,_)] (λg=>Ws w [] ([aq c (.cells #[.pointer (g.2.1),g.2.2] 165 (0,0)),bY 5 1 g.2.2 (bH o.nm++[(o.ak.length:Int)].flatMap bm++o.ak.flatMap bH++[o.data,(o.code.length:Int)].flatMap bm++(o.code.take g.1).flatMap ez).length ((bH o.nm++[(o.ak.length:Int)].flatMap bm++o.ak.flatMap bH++[o.data,(o.code.length:Int)].flatMap bm++(o.code.take g.1).flatMap ez).map au)]++[aq B (.cells (hL o q).toArray 56 (0,0))]) [f]) (λg=>g.1<=o.code.length/\(g.2.1=none\/g.2.1=some ⟨c,0,none⟩)) (λg=>o.code.length-g.1) ((0,V.1,V.2):Nat×Option Addr×Value) ⟨Nat.zero_le _,ax⟩ (sc O (sc O (sc O (sc O (sc O (sc O (sc O sn))))))) (λ_ h=>by
   have h:=Ws.cv h (ah:=[f]) (by simp);simp only [List.take_zero,List.flatMap_nil,List.append_nil]
   exact h) ?_
 intro g ⟨T,s⟩;refine aa (I (b0 O O) (ae (Cs ?_)));refine Cc O (λG=>?_) (λG=>?_)
 ·have k:g.1<o.code.length:=by simpa using G
  obtain ⟨x,p⟩:∃q,o.code[g.1]? = some q:=⟨_,List.getElem?_eq_getElem k⟩;obtain ⟨v,y,z,n⟩:=i.code.bJ g.1 x p;have n:bI f v (y+g.1*3) x.cells:=n;have U:=j.co g.1;refine bf (Cs (Cb (aa (I (Yo iN O O z k) (I (dj 0 vq O O O (n)) ?_)))));refine Al Y O fY λaW=>?_;refine aO 0 Y O O O x6 O O O (ae (Cs (e9 0 (.cells (x.cells).toArray 108 (0,0)) O O (Cr (ad O (I (Yf tu O) (I (Yd 0 O O O aT) (Lf 2 O ?_))))))));refine Lf 2 O ?_;refine Lw (ι:=Value) [_,_] _ Y O tv O O (λ_=>.tuple #[]) (λl=>[aq c (.cells #[.pointer (some ⟨c,0,none⟩),l] 165 (0,0)),bY 5 1 l (bH o.nm++[(o.ak.length:Int)].flatMap bm++o.ak.flatMap bH++[o.data,(o.code.length:Int)].flatMap bm++(o.code.take g.1).flatMap ez++[c_ x.op]).length ((bH o.nm++[(o.ak.length:Int)].flatMap bm++o.ak.flatMap bH++[o.data,(o.code.length:Int)].flatMap bm++(o.code.take g.1).flatMap ez++[c_ x.op]).map au)]) (λ_=>True) [] (by simp) (λw d=>tw c (g.2.1) g.2.2 (bH o.nm++[(o.ak.length:Int)].flatMap bm++o.ak.flatMap bH++[o.data,(o.code.length:Int)].flatMap bm++(o.code.take g.1).flatMap ez) x.op w s (by simp only [List.length_append,bb,ku,List.length_singleton,List.flatMap_cons,List.flatMap_nil,List.length_cons,List.length_nil,List.append_nil]; omega) d) ?_;intro ay _;refine ae (Cr (ad O (I (Yf vr O) (I (Yd 2 O O O aT) (I (Yf S7 O) (I (Yd 2 O O O aT) ?_))))));refine Lb Y O hS O O O O λH=>?_;refine cD 0 (.cells (([x.a,x.b]:List Int).flatMap e5).toArray 3 (0,0)) O O ?_;refine WL.kh 0 O ?_;refine Lw (ι:=Option Addr×Value) [_,_] _ Y O oU O O (λ_=>.tuple #[]) (λr=>[aq c (.cells #[.pointer (r.1),r.2] 165 (0,0)),bY 5 1 r.2 (bH o.nm++[(o.ak.length:Int)].flatMap bm++o.ak.flatMap bH++[o.data,(o.code.length:Int)].flatMap bm++(o.code.take g.1).flatMap ez++[c_ x.op]++[x.a,x.b].flatMap bm).length ((bH o.nm++[(o.ak.length:Int)].flatMap bm++o.ak.flatMap bH++[o.data,(o.code.length:Int)].flatMap bm++(o.code.take g.1).flatMap ez++[c_ x.op]++[x.a,x.b].flatMap bm).map au)]) (λr=>r.1=none\/r.1=some ⟨c,0,none⟩) [bv H (.cells (([x.a,x.b]:List Int).flatMap e5).toArray 3 (0,0))] (by simp) (λw d=>oS (bv H (.cells (([x.a,x.b]:List Int).flatMap e5).toArray 3 (0,0))) (some ⟨H,0,none⟩) 2 [x.a,x.b] c (some ⟨c,0,none⟩) ay (bH o.nm++[(o.ak.length:Int)].flatMap bm++o.ak.flatMap bH++[o.data,(o.code.length:Int)].flatMap bm++(o.code.take g.1).flatMap ez++[c_ x.op]) w (pR _ (by simp)) (.inr O) (by simp only [List.length_append,bb,ku,List.length_singleton,List.flatMap_cons,List.flatMap_nil,List.length_cons,List.length_nil,List.append_nil]; omega) d) ?_;intro W az;refine Ln (Eb (Et (Cr (I (Yi O O O (by omega)) (ad O (Ln ?_))))))
  exact Ea ((g.1+1,W.1,W.2):Nat×Option Addr×Value) (by show _-(g.1+1)<_; omega) ⟨(by show g.1+1<=_; omega),az⟩ (sc O (sc O (sc O (sc O (sc O (sc O (sc O sn))))))) (λ_ h=>by
    have h:=Ws.out 2 h;have h:=Ws.cv h (ah:=[f]) (by simp)
    have e:bH o.nm++[(o.ak.length:Int)].flatMap bm++o.ak.flatMap bH++[o.data,(o.code.length:Int)].flatMap bm++(o.code.take g.1).flatMap ez++[c_ x.op]++[x.a,x.b].flatMap bm=bH o.nm++[(o.ak.length:Int)].flatMap bm++o.ak.flatMap bH++[o.data,(o.code.length:Int)].flatMap bm++(o.code.take (g.1+1)).flatMap ez:=by rw [yd p]; simp [ez,gb]
    rw [e] at h
    exact h)
 have A:g.1=o.code.length:=by simp at G; omega
 rw [A,List.take_length];refine Ce (Ex (Ex (cp (Et (aa (ad O (I (Yf rY O) (I (Yd 2 O O O tp) (I (Yn pQ O) ?_)))))))));refine Lb Y O hS O O O O λJ=>?_;refine cD 0 (.cells (([(o.fix.length:Int)]:List Int).flatMap e5).toArray 3 (0,0)) O O ?_;refine WL.kh 0 O ?_;refine Lw (ι:=Option Addr×Value) [_,_] _ Y O oU O O (λ_=>.tuple #[]) (λr=>[aq c (.cells #[.pointer (r.1),r.2] 165 (0,0)),bY 5 1 r.2 (bH o.nm++[(o.ak.length:Int)].flatMap bm++o.ak.flatMap bH++[o.data,(o.code.length:Int)].flatMap bm++o.code.flatMap ez++[(o.fix.length:Int)].flatMap bm).length ((bH o.nm++[(o.ak.length:Int)].flatMap bm++o.ak.flatMap bH++[o.data,(o.code.length:Int)].flatMap bm++o.code.flatMap ez++[(o.fix.length:Int)].flatMap bm).map au)]) (λr=>r.1=none\/r.1=some ⟨c,0,none⟩) [bv J (.cells (([(o.fix.length:Int)]:List Int).flatMap e5).toArray 3 (0,0))] (by simp) (λw d=>oS (bv J (.cells (([(o.fix.length:Int)]:List Int).flatMap e5).toArray 3 (0,0))) (some ⟨J,0,none⟩) 1 [(o.fix.length:Int)] c (g.2.1) g.2.2 (bH o.nm++[(o.ak.length:Int)].flatMap bm++o.ak.flatMap bH++[o.data,(o.code.length:Int)].flatMap bm++o.code.flatMap ez) w (pR _ (by simp)) s (by simp only [List.length_append,bb,ku,List.length_singleton,List.flatMap_cons,List.flatMap_nil,List.length_cons,List.length_nil,List.append_nil]; omega) d) ?_;intro X aA;refine ae (Cs (aa (I (Yf rY O) (I (Yd 2 O O O tp) (I (Yn pQ O) (ad O (ae (Cb ?_))))))))
 refine av (ι:=Nat×Option Addr×Value) (λg=>[(76,.int .i64 (g.1:Int))]) [(1,_),(2,_),(3,_),(5,_),(74,_),(75,_)] (λg=>Ws w [] ([aq c (.cells #[.pointer (g.2.1),g.2.2] 165 (0,0)),bY 5 1 g.2.2 (bH o.nm++[(o.ak.length:Int)].flatMap bm++o.ak.flatMap bH++[o.data,(o.code.length:Int)].flatMap bm++o.code.flatMap ez++[(o.fix.length:Int)].flatMap bm++(o.fix.take g.1).flatMap gb).length ((bH o.nm++[(o.ak.length:Int)].flatMap bm++o.ak.flatMap bH++[o.data,(o.code.length:Int)].flatMap bm++o.code.flatMap ez++[(o.fix.length:Int)].flatMap bm++(o.fix.take g.1).flatMap gb).map au)]++[aq B (.cells (hL o q).toArray 56 (0,0))]) [f]) (λg=>g.1<=o.fix.length/\(g.2.1=none\/g.2.1=some ⟨c,0,none⟩)) (λg=>o.fix.length-g.1) ((0,X.1,X.2):Nat×Option Addr×Value) ⟨Nat.zero_le _,aA⟩ (sc O (sc O (sc O (sc O (sc O (sc O (sc O sn))))))) (λ_ h=>by
   have h:=Ws.cv h (ah:=[f]) (by simp);simp only [List.take_zero,List.flatMap_nil,List.append_nil]
   exact h) ?_
 intro g ⟨T,s⟩;refine aa (I (b0 O O) (ae (Cs ?_)));refine Cc O (λK=>?_) (λK=>?_)
 ·have k:g.1<o.fix.length:=by simpa using K
  obtain ⟨x,p⟩:∃q,o.fix[g.1]? = some q:=⟨_,List.getElem?_eq_getElem k⟩;obtain ⟨v,y,z,n⟩:=i.fix.bJ g.1 x p;have n:bI f v (y+g.1*3) x.cells:=n;have U:=j.fx g.1;refine bf (Cs (Cb (aa (I (Yo pQ O O z k) (I (dj 0 x8 O O O (n)) ?_)))));refine Al Y O vp λaY=>?_;refine aO 0 Y O O O x9 O O O (ae (Cs (e9 0 (.cells (x.cells).toArray 112 (0,0)) O O (Cr (ad O (I (Yf r5 O) (I (Yd 0 O O O aT) ?_)))))));refine Lb Y O hS O O O O λL=>?_;refine cD 0 (.cells (([x.at_]:List Int).flatMap e5).toArray 3 (0,0)) O O ?_;refine WL.kh 0 O ?_;refine Lf 2 O (Lf 2 O ?_);refine Lw (ι:=Option Addr×Value) [_,_] _ Y O oU O O (λ_=>.tuple #[]) (λr=>[aq c (.cells #[.pointer (r.1),r.2] 165 (0,0)),bY 5 1 r.2 (bH o.nm++[(o.ak.length:Int)].flatMap bm++o.ak.flatMap bH++[o.data,(o.code.length:Int)].flatMap bm++o.code.flatMap ez++[(o.fix.length:Int)].flatMap bm++(o.fix.take g.1).flatMap gb++[x.at_].flatMap bm).length ((bH o.nm++[(o.ak.length:Int)].flatMap bm++o.ak.flatMap bH++[o.data,(o.code.length:Int)].flatMap bm++o.code.flatMap ez++[(o.fix.length:Int)].flatMap bm++(o.fix.take g.1).flatMap gb++[x.at_].flatMap bm).map au)]) (λr=>r.1=none\/r.1=some ⟨c,0,none⟩) [bv L (.cells (([x.at_]:List Int).flatMap e5).toArray 3 (0,0))] (by simp) (λw d=>oS (bv L (.cells (([x.at_]:List Int).flatMap e5).toArray 3 (0,0))) (some ⟨L,0,none⟩) 1 [x.at_] c (g.2.1) g.2.2 (bH o.nm++[(o.ak.length:Int)].flatMap bm++o.ak.flatMap bH++[o.data,(o.code.length:Int)].flatMap bm++o.code.flatMap ez++[(o.fix.length:Int)].flatMap bm++(o.fix.take g.1).flatMap gb) w (pR _ (by simp)) s (by simp only [List.length_append,bb,ku,List.length_singleton,List.flatMap_cons,List.flatMap_nil,List.length_cons,List.length_nil,List.append_nil]; omega) d) ?_;intro Z aB;refine ae (aa (ad O (I (Yf x' O) (I (Yd 2 O O O aT) ?_))));refine Lw (ι:=Value) [_,_] _ Y O tv O O (λ_=>.tuple #[]) (λl=>[aq c (.cells #[.pointer (some ⟨c,0,none⟩),l] 165 (0,0)),bY 5 1 l (bH o.nm++[(o.ak.length:Int)].flatMap bm++o.ak.flatMap bH++[o.data,(o.code.length:Int)].flatMap bm++o.code.flatMap ez++[(o.fix.length:Int)].flatMap bm++(o.fix.take g.1).flatMap gb++[x.at_].flatMap bm++[c_ x.kind]).length ((bH o.nm++[(o.ak.length:Int)].flatMap bm++o.ak.flatMap bH++[o.data,(o.code.length:Int)].flatMap bm++o.code.flatMap ez++[(o.fix.length:Int)].flatMap bm++(o.fix.take g.1).flatMap gb++[x.at_].flatMap bm++[c_ x.kind]).map au)]) (λ_=>True) [] (by simp) (λw d=>tw c (Z.1) Z.2 (bH o.nm++[(o.ak.length:Int)].flatMap bm++o.ak.flatMap bH++[o.data,(o.code.length:Int)].flatMap bm++o.code.flatMap ez++[(o.fix.length:Int)].flatMap bm++(o.fix.take g.1).flatMap gb++[x.at_].flatMap bm) x.kind w aB (by simp only [List.length_append,bb,ku,List.length_singleton,List.flatMap_cons,List.flatMap_nil,List.length_cons,List.length_nil,List.append_nil]; omega) d) ?_
  intro aC _;refine ae (Cr (ad O (I (Yf qN O) (I (Yd 2 O O O aT) ?_))));refine Lb Y O hS O O O O λM=>?_;refine cD 0 (.cells (([x.m]:List Int).flatMap e5).toArray 3 (0,0)) O O ?_;refine WL.kh 0 O ?_;refine Lw (ι:=Option Addr×Value) [_,_] _ Y O oU O O (λ_=>.tuple #[]) (λr=>[aq c (.cells #[.pointer (r.1),r.2] 165 (0,0)),bY 5 1 r.2 (bH o.nm++[(o.ak.length:Int)].flatMap bm++o.ak.flatMap bH++[o.data,(o.code.length:Int)].flatMap bm++o.code.flatMap ez++[(o.fix.length:Int)].flatMap bm++(o.fix.take g.1).flatMap gb++[x.at_].flatMap bm++[c_ x.kind]++[x.m].flatMap bm).length ((bH o.nm++[(o.ak.length:Int)].flatMap bm++o.ak.flatMap bH++[o.data,(o.code.length:Int)].flatMap bm++o.code.flatMap ez++[(o.fix.length:Int)].flatMap bm++(o.fix.take g.1).flatMap gb++[x.at_].flatMap bm++[c_ x.kind]++[x.m].flatMap bm).map au)]) (λr=>r.1=none\/r.1=some ⟨c,0,none⟩) [bv M (.cells (([x.m]:List Int).flatMap e5).toArray 3 (0,0))] (by simp) (λw d=>oS (bv M (.cells (([x.m]:List Int).flatMap e5).toArray 3 (0,0))) (some ⟨M,0,none⟩) 1 [x.m] c (some ⟨c,0,none⟩) aC (bH o.nm++[(o.ak.length:Int)].flatMap bm++o.ak.flatMap bH++[o.data,(o.code.length:Int)].flatMap bm++o.code.flatMap ez++[(o.fix.length:Int)].flatMap bm++(o.fix.take g.1).flatMap gb++[x.at_].flatMap bm++[c_ x.kind]) w (pR _ (by simp)) (.inr O) (by simp only [List.length_append,bb,ku,List.length_singleton,List.flatMap_cons,List.flatMap_nil,List.length_cons,List.length_nil,List.append_nil]; omega) d) ?_;intro ab aD;refine Ln (Eb (Et (Cr (I (Yi O O O (by omega)) (ad O (Ln ?_))))))
  exact Ea ((g.1+1,ab.1,ab.2):Nat×Option Addr×Value) (by show _-(g.1+1)<_; omega) ⟨(by show g.1+1<=_; omega),aD⟩ (sc O (sc O (sc O (sc O (sc O (sc O (sc O sn))))))) (λ_ h=>by
    have h:=Ws.out 2 h;have h:=Ws.cv h (ah:=[f]) (by simp)
    have e:bH o.nm++[(o.ak.length:Int)].flatMap bm++o.ak.flatMap bH++[o.data,(o.code.length:Int)].flatMap bm++o.code.flatMap ez++[(o.fix.length:Int)].flatMap bm++(o.fix.take g.1).flatMap gb++[x.at_].flatMap bm++[c_ x.kind]++[x.m].flatMap bm=bH o.nm++[(o.ak.length:Int)].flatMap bm++o.ak.flatMap bH++[o.data,(o.code.length:Int)].flatMap bm++o.code.flatMap ez++[(o.fix.length:Int)].flatMap bm++(o.fix.take (g.1+1)).flatMap gb:=by rw [yd p]; simp [ez,gb]
    rw [e] at h
    exact h)
 have A:g.1=o.fix.length:=by simp at K; omega
 rw [A,List.take_length];refine Ce (Ex (Ex (cp (Et (aa (ad O (I (Yf oR O) (I (Yd 2 O O O k9) (I (Yn hR O) ?_)))))))));refine Lb Y O hS O O O O λN=>?_;refine cD 0 (.cells (([(o.cI.length:Int)]:List Int).flatMap e5).toArray 3 (0,0)) O O ?_;refine WL.kh 0 O ?_;refine Lw (ι:=Option Addr×Value) [_,_] _ Y O oU O O (λ_=>.tuple #[]) (λr=>[aq c (.cells #[.pointer (r.1),r.2] 165 (0,0)),bY 5 1 r.2 (bH o.nm++[(o.ak.length:Int)].flatMap bm++o.ak.flatMap bH++[o.data,(o.code.length:Int)].flatMap bm++o.code.flatMap ez++[(o.fix.length:Int)].flatMap bm++o.fix.flatMap gb++[(o.cI.length:Int)].flatMap bm).length ((bH o.nm++[(o.ak.length:Int)].flatMap bm++o.ak.flatMap bH++[o.data,(o.code.length:Int)].flatMap bm++o.code.flatMap ez++[(o.fix.length:Int)].flatMap bm++o.fix.flatMap gb++[(o.cI.length:Int)].flatMap bm).map au)]) (λr=>r.1=none\/r.1=some ⟨c,0,none⟩) [bv N (.cells (([(o.cI.length:Int)]:List Int).flatMap e5).toArray 3 (0,0))] (by simp) (λw d=>oS (bv N (.cells (([(o.cI.length:Int)]:List Int).flatMap e5).toArray 3 (0,0))) (some ⟨N,0,none⟩) 1 [(o.cI.length:Int)] c (g.2.1) g.2.2 (bH o.nm++[(o.ak.length:Int)].flatMap bm++o.ak.flatMap bH++[o.data,(o.code.length:Int)].flatMap bm++o.code.flatMap ez++[(o.fix.length:Int)].flatMap bm++o.fix.flatMap gb) w (pR _ (by simp)) s (by simp only [List.length_append,bb,ku,List.length_singleton,List.flatMap_cons,List.flatMap_nil,List.length_cons,List.length_nil,List.append_nil]; omega) d) ?_;intro ac aE;refine ae (aa (ad O (I (Yf oR O) (I (Yd 2 O O O k9) ?_))));refine Lw (ι:=Option Addr×Value) [_,_] _ Y O oU O O (λ_=>.tuple #[]) (λr=>[aq c (.cells #[.pointer (r.1),r.2] 165 (0,0)),bY 5 1 r.2 (bH o.nm++[(o.ak.length:Int)].flatMap bm++o.ak.flatMap bH++[o.data,(o.code.length:Int)].flatMap bm++o.code.flatMap ez++[(o.fix.length:Int)].flatMap bm++o.fix.flatMap gb++[(o.cI.length:Int)].flatMap bm++o.cI.flatMap bm).length ((bH o.nm++[(o.ak.length:Int)].flatMap bm++o.ak.flatMap bH++[o.data,(o.code.length:Int)].flatMap bm++o.code.flatMap ez++[(o.fix.length:Int)].flatMap bm++o.fix.flatMap gb++[(o.cI.length:Int)].flatMap bm++o.cI.flatMap bm).map au)]) (λr=>r.1=none\/r.1=some ⟨c,0,none⟩) [f] (by simp) (λw d=>oS f q.s4.1 q.s4.2 o.cI c ac.1 ac.2 (bH o.nm++[(o.ak.length:Int)].flatMap bm++o.ak.flatMap bH++[o.data,(o.code.length:Int)].flatMap bm++o.code.flatMap ez++[(o.fix.length:Int)].flatMap bm++o.fix.flatMap gb++[(o.cI.length:Int)].flatMap bm) w i.cI aE (by simp only [List.length_append,bb,ku,List.length_singleton,List.flatMap_cons,List.flatMap_nil,List.length_cons,List.length_nil,List.append_nil]; omega) d) ?_;intro af aF;refine ae (aa (ad O (I (Yf vu O) (I (Yd 2 O O O aT) ?_))));refine Lb Y O hS O O O O λP=>?_
 refine cD 0 (.cells (([o.main]:List Int).flatMap e5).toArray 3 (0,0)) O O ?_;refine WL.kh 0 O ?_;refine Lw (ι:=Option Addr×Value) [_,_] _ Y O oU O O (λ_=>.tuple #[]) (λr=>[aq c (.cells #[.pointer (r.1),r.2] 165 (0,0)),bY 5 1 r.2 (bH o.nm++[(o.ak.length:Int)].flatMap bm++o.ak.flatMap bH++[o.data,(o.code.length:Int)].flatMap bm++o.code.flatMap ez++[(o.fix.length:Int)].flatMap bm++o.fix.flatMap gb++[(o.cI.length:Int)].flatMap bm++o.cI.flatMap bm++[o.main].flatMap bm).length ((bH o.nm++[(o.ak.length:Int)].flatMap bm++o.ak.flatMap bH++[o.data,(o.code.length:Int)].flatMap bm++o.code.flatMap ez++[(o.fix.length:Int)].flatMap bm++o.fix.flatMap gb++[(o.cI.length:Int)].flatMap bm++o.cI.flatMap bm++[o.main].flatMap bm).map au)]) (λr=>r.1=none\/r.1=some ⟨c,0,none⟩) [bv P (.cells (([o.main]:List Int).flatMap e5).toArray 3 (0,0))] (by simp) (λw d=>oS (bv P (.cells (([o.main]:List Int).flatMap e5).toArray 3 (0,0))) (some ⟨P,0,none⟩) 1 [o.main] c (af.1) af.2 (bH o.nm++[(o.ak.length:Int)].flatMap bm++o.ak.flatMap bH++[o.data,(o.code.length:Int)].flatMap bm++o.code.flatMap ez++[(o.fix.length:Int)].flatMap bm++o.fix.flatMap gb++[(o.cI.length:Int)].flatMap bm++o.cI.flatMap bm) w (pR _ (by simp)) aF (by simp only [List.length_append,bb,ku,List.length_singleton,List.flatMap_cons,List.flatMap_nil,List.length_cons,List.length_nil,List.append_nil]; omega) d) ?_;intro t ag;refine ae (Cs (Cs ?_))
 have Q:bH o.nm++[(o.ak.length:Int)].flatMap bm++o.ak.flatMap bH++[o.data,(o.code.length:Int)].flatMap bm++o.code.flatMap ez++[(o.fix.length:Int)].flatMap bm++o.fix.flatMap gb++[(o.cI.length:Int)].flatMap bm++o.cI.flatMap bm++[o.main].flatMap bm=l8 o:=by simp [l8,uw]
 have aZ:(l8 o).length+1<=1099511627776:=by rw [<-Q]; exact (by simp only [List.length_append,bb,ku,List.length_singleton,List.flatMap_cons,List.flatMap_nil,List.length_cons,List.length_nil,List.append_nil]; omega)
 rw [Q];refine Cr (ad O (I (cy O) (I (Yf vz O) ?_)));refine Lw (ι:=Unit) [_,_] _ Y O S8 O O (λ_=>.int .i64 ((l8 o).length:Int)) (λ_=>[aq c (.cells #[.pointer (t.1),t.2] 165 (0,0)),bY 5 1 t.2 (l8 o).length ((l8 o).map au)]) (λ_=>True) [] (by simp) (λw d=>(S1 c t.1 t.2 (l8 o) w ag (by omega) d).mono λe w' h=>⟨(),h.1,trivial,h.2⟩) ?_;intro _ _;refine I (dc O O) (ae ?_);refine Cc O (λR=>?_) (λR=>?_)
 ·have k:32768<(l8 o).length:=by simp at R; omega
  refine aa (ai O (ai O (ae (aX (Er ?_)))));refine WE.gi O O O λw' d=>?_;exact ⟨by rw [oi,if_pos u,if_pos k]; rfl,d.fr⟩
 have k:¬32768<(l8 o).length:=by simp at R; omega
 refine bf (aa (ad O (I (cy O) (I (Yf vz O) ?_))));refine Lw (ι:=Unit) [_,_] _ Y O I3 O O (λ_=>st (l8 o)) (λ_=>[]) (λ_=>True) [] (by simp) (λw d=>(IW c t.1 t.2 (l8 o) (by rw [<-Q]; simp [bH]) w ag (by omega) d).mono λe w' h=>⟨(),h.1,trivial,h.2⟩) ?_;intro _ _;refine ai O (ai O (ae (aX ?_)));refine WE.gi O O O λw' d=>?_;exact ⟨by rw [oi,if_pos u,if_neg k],d.fr⟩
theorem I4:Enters Tryz.prog 55:=enters_of Tryz.func55 (by kernel_rfl) rfl
theorem I5:Enters Tryz.prog 53:=enters_of Tryz.func53 (by kernel_rfl) rfl
theorem S':zeroOf Tryz.prog 4=some (.bool false):=by kernel_rfl
theorem S_:aK Tryz.prog 229=some [(0,1)]:=by kernel_rfl
theorem Ta:zeroOf Tryz.prog 229=some (.agg #[st []]):=by kernel_rfl
abbrev XO:=bA×kZ
def XO.cells (e:XO):List Value:=hL e.1 e.2
theorem XO.aj (e:XO):(XO.cells e).length=7:=rfl
def Cg (a:View) (b o:Nat) (e:XO):Prop:=bI a b o (XO.cells e)
def vB (a:View) (b o:Nat) (x:bA):Prop:=∃q,bI a b o (hL x q)/\mC a q x
theorem Ch {a b:View} {q:kZ} {o:bA} (h:mC a q o) (hv:bw a b):mC b q o:=⟨h.ak.imp λ_ _ _ r=>bI.mono hv r,h.code.imp λ_ _ _ r=>bI.mono hv r,h.fix.imp λ_ _ _ r=>bI.mono hv r,h.cI.imp λ_ _ _ r=>bI.mono hv r⟩
theorem Tb {f d:View} {a:Option Addr} {c:Nat} {es:List XO} (h:Sl Cg 7 f a c es) (hv:bw f d) (k:∀e ∈ es,mC d e.2 e.1):Sl vB 7 d a c (es.map (·.1)):=by
 refine ⟨by rw [List.length_map]; exact h.cap,h.max,h.spot,λi x g=>?_⟩;rw [List.getElem?_map] at g;obtain ⟨y,j,rfl⟩:=Option.map_eq_some_iff.1 g;obtain ⟨b,o,l,m⟩:=h.bJ i y j;exact ⟨b,o,l,y.2,bI.mono hv m,k y (List.mem_of_getElem? j)⟩
theorem I6 (a:View) (ke k:Nat) (u:bK) (r:ih) (w:World) (b:Le a w) (c:hI ke k a r u) (d:n8 u<=1048576):Calls Tryz.prog 26 #[.agg (eE u r).toArray] w λe w'=>∃r:kZ,e = .returned (.tuple #[.agg (hL (eb u).1.to r).toArray,.int .i64 (eb u).2])/\Ext w w'/\mC (nv w w') r (eb u).1.to:=
 (SH a ke k u r w b c d).mono λe w' ⟨r,f,g,h⟩=>⟨r,by rw [f,Nk],g,Nl h⟩
def yf (p:Pl) (q:SP):List Value:=[.int .i64 p.code,.int .i64 p.data,.slice q.1 p.o_.length q.2]
abbrev iu:=Pl×SP
def iu.cells (e:iu):List Value:=yf e.1 e.2
theorem iu.aj (e:iu):(iu.cells e).length=3:=rfl
def I7 (a:View) (b o:Nat) (e:iu):Prop:=bI a b o (iu.cells e)
def r7 (J:View) (e:iu):Prop:=Sl bZ 1 J e.2.1 e.2.2 e.1.o_
theorem Ci {a B:View} {e:iu} (hv:bw a B) (h:r7 a e):r7 B e:=Sl.imp (λb o x h=>bI.mono hv h) h
def Cj (a:View) (b o:Nat) (p:Pl):Prop:=∃q:SP,bI a b o (yf p q)/\Sl bZ 1 a q.1 q.2 p.o_
theorem Tc {f J d:View} {c:Nat} {a:Option Addr} {es:List iu} (h:Sl I7 3 f a c es) (hv:bw f d) (g:bw J d) (i:Xs r7 J es):Sl Cj 3 d a c (es.map (·.1)):=
 sz h i λb o e j k=>⟨e.2,bI.mono hv j,Ci g k⟩
def oV (l:List bA):List Pl:=if gX l=0 then lB l++[om l] else []
theorem vC {l:List bA} (h:¬gX l=0):oV l=[]:=by rw [oV,if_neg h]
structure I8 where
 i:Nat
 es:List iu
 oa:SP
 J:View
theorem Td (l:List bA):(lB l).take l.length=lB l:=List.take_of_length_le (by rw [qp]; exact Nat.le_refl _)
theorem Te {U n:Nat} {k m a:Int} (h:ik U n k m a=true) (b:k=2):0<=a/\a<=2048/\0<=m/\m<=(U:Int):=by
 subst b;unfold ik at h;rw [if_neg (by decide),if_pos (.inl rfl)] at h;simp only [Bool.and_eq_true,decide_eq_true_eq] at h;omega
theorem kb:eO Tryz.prog 45=some 7:=by kernel_rfl
theorem I9:aK Tryz.prog 121=some [(0,1),(1,1),(2,1)]:=by kernel_rfl
theorem vD:zeroOf Tryz.prog 121=some (.agg #[.int .i64 0,.int .i64 0,.slice none 0 0]):=by kernel_rfl
theorem kX:dk Tryz.prog 121=some 3:=by kernel_rfl
theorem qO:an Tryz.prog 121 0=some 0:=by kernel_rfl
theorem tx:an Tryz.prog 121 1=some 1:=by kernel_rfl
theorem yg:an Tryz.prog 121 2=some 2:=by kernel_rfl
theorem k7:f' Tryz.prog 121=some 3:=by kernel_rfl
theorem yh:aE Tryz.prog 117 121 (.agg #[.int .i64 0,.int .i64 0,.slice none 0 0]) 3 40:=hV (by kernel_rfl)
theorem qP:eO Tryz.prog 117=some 3:=by kernel_rfl
theorem Tf (A:View) (a:Option Addr) (c:Nat) (l:List bA) (w:World) (bi:Le A w) (L:Sl vB 7 A a c l) :
   Calls Tryz.prog 63 #[.slice a l.length c] w λe w'=>∃q:SP,e = .returned (.tuple #[.slice q.1 (oV l).length q.2,.int .i64 (gX l)])/\Ext w w'/\Sl Cj 3 (nv w w') q.1 q.2 (oV l):=by
 have cn:=L.cap;have co:=L.max;refine enter Tryz.func63 O 163 O O ?_;refine CE (Vs:=[A]) (Ws.init (by simp [bi])) (aa (ai O (ai O (ae (Cs (aa (ad O (I (Yn kb O) (I (b0 O O) ?_)))))))));refine ad O ?_;apply Lo 3 O O O O Y O O O O O
 ·intro bj;refine Vg (Ym O) (Vg (Yn kb O) (Vg (dc O O) ?_));exact Gt 3 O O O
 refine ae ?_;refine Cc O (λal=>?_) (λal=>?_)
 ·have K:l.length<1\/4<l.length:=by simp at al; omega
  have v:=E7 K;refine aa (ai O (ai O (ae (aX (Er ?_)))));refine WE.gi O O O λw' z=>?_;rw [vC (by rw [v]; decide),v];exact ⟨(none,0),O,z.fr,Sl.nil⟩
 have K:¬(l.length<1\/4<l.length):=by simp at al; omega
 refine bf (aa ?_);refine WL.lh st Y O λbk=>?_;refine ai O (ae (Cs (aa (ad O (I (Yn kb O) (ad O (ae (Cb ?_))))))));refine av (ι:=Nat×List (c8 (List UInt8))×Nat) (λt=>[(33,.int .i64 (t.1:Int))]) [(0,_),(4,_),(31,_),(32,_)] (λt=>Ws w [] [aq bk (b4 st t.2.1 t.2.2)] [A]) (λt=>t.1<=l.length/\(∀o ∈ l.take t.1,fz o=0)/\pq (eA l) t.1 t.2.1) (λt=>l.length-t.1) (0,[],0) ⟨Nat.zero_le _,by simp,pq.zero _⟩ (sc O (sc O (sc O (sc O (sc O sn))))) (λ_ h=>h) ?_;intro t ⟨bj,F,T⟩;refine aa (I (b0 O O) (ae (Cs ?_)));refine Cc O (λam=>?_) (λam=>?_)
 ·have C:t.1<l.length:=by simpa using am
  obtain ⟨o,u⟩:∃q,l[t.1]? = some q:=⟨_,List.getElem?_eq_getElem C⟩;obtain ⟨aN,aP,N,P⟩:=L.bJ t.1 o u;obtain ⟨G,Q,r⟩:=P;have U:=List.mem_of_getElem? u;have aQ:=r.ak.cap;have aS:=r.ak.max;have aU:=r.fix.cap;have aV:=r.fix.max;have aW:=r.code.cap;have aY:=r.code.max;refine bf (Cs (Cb (aa (I (Yo kb O O N C) (I (dj 0 mj O O O (Q)) ?_)))));refine Al Y O nO λcq=>?_;refine aO 0 Y O O O oQ O O O (ae (Cs (Cs (e9 0 (.cells (hL o G).toArray 56 (0,0)) O O (Cr (I (b8 0 O O mj O) (Lp Y O I0 O (λw z=>IP A o G w (z.vs _ (by simp)) r) (ai O (ae (aa ?_))))))))));refine ad O (I (e8 O O) (ae ?_));refine Cc O (λan=>?_) (λan=>?_)
  ·have E:¬fz o=0:=by simpa using an
   have v:=NC K u F E;refine aa (ad O (ai O (ai O (ae (aX (Er (cj (Er (Er (cj (Er ?_)))))))))));refine WE.gi O O O λw' z=>?_;rw [vC (by rw [v]; exact E),v];exact ⟨(none,0),O,z.fr,Sl.nil⟩
  have E:fz o=0:=by simpa using an
  refine bf (Cr (ad O (I (Yf vx O) (I (Yd 0 O O O cN) (I (mr 1 gj gg dO je O O O) ?_)))));rw [T.1 o.nm];refine I (bd O O (by have B:((eA l).take t.1).count o.nm<=((eA l).take t.1).length:=List.count_le_length; rw [List.length_take,sW] at B; omega)) ?_;refine WL.mu 1 gj Y gg dO O O O O ?_;refine Ln (Eb (Et (Cr (I (Yi O O O (by omega)) (ad O (Ln ?_))))));exact Ea ((t.1+1,_,_):Nat×List (c8 (List UInt8))×Nat) (by show _-(t.1+1)<_; omega) ⟨(by show t.1+1<=_; omega),E3 u F E,T.step (E6 u) _⟩ (sc O (sc O (sc O (sc O (sc O sn))))) (λ_ h=>Wd 1 h)
 have aZ:t.1=l.length:=by simp at am; omega
 rw [aZ,List.take_length] at F;rw [aZ,<-sW l] at T;have a0:=T.d';refine Ce (Ex (Ex (cp (Et (Cs (aa (ad O (I (v_ 0 gg O O) (ad O (I (Yn kb O) (I (b0 O O) (ae ?_))))))))))));refine Cc O (λao=>?_) (λao=>?_)
 ·have V:et (eA l)=true:=a0.1 (by rw [sW]; simp at ao; omega)
  have v:gX l=6:=by rw [xc K F,if_pos V]
  refine aa (ai O (ai O (ae (aX (Er ?_)))));refine WE.gi O O O λw' z=>?_;rw [vC (by rw [v]; decide),v];exact ⟨(none,0),O,z.fr,Sl.nil⟩
 have V:et (eA l)=false:=by
   cases bl:et (eA l) with
   | false=>rfl
   | true=>have:=a0.2 bl; rw [sW] at this; simp at ao; omega
 have bm:=hF.2 V;have S:=xc K F;rw [V,if_neg (by decide)] at S;refine bf (aa ?_);refine WL.lh st Y O λW=>?_;refine ai O (ae (aa (ad O (I (Yn kb O) (I (Yi O O O (by omega)) (I (Yb vD I9 O O) ?_))))));refine Al Y O vD λX=>?_;refine aO 0 Y O O O kX O O O (ae (aa (ai O (ae (Cs (Cs (e9 0 (.cells #[.int .i64 ((l.length:Int)+1),.int .i64 0,.slice none 0 0] 121 (0,0)) O O ?_)))))))
 have bn:((l.length:Int)+1)=aw l 0:=by simp [aw,pj]
 rw [bn];refine e9 0 (.cells #[.int .i64 (aw l 0),.int .i64 (e_ l 0),.slice none 0 0] 121 (0,0)) O O ?_;refine pW (λ_ h=>h.e4 121 3) ?_;refine pW (λ_ h=>h.v0) ?_;refine Cr (ad O (I (Yn kb O) (ad O (ae (Cb ?_)))));refine av (ι:=I8) (λg=>[(60,.int .i64 (g.i:Int)),(10,.slice g.oa.1 g.es.length g.oa.2)]) [(0,_),(8,_),(9,_),(58,_),(59,_)] (λg=>Ws w [] [cf 121 3 iu.cells g.oa.1 g.oa.2 g.es,aq W (b4 st (fR ((eA l).take g.i) 0) g.i),aq X (.cells #[.int .i64 (aw l g.i),.int .i64 (e_ l g.i),.slice none 0 0] 121 (0,0))] [g.J,A]) (λg=>g.i<=l.length/\g.es.map (·.1)=(lB l).take g.i/\(eW w g.J/\Xs r7 g.J g.es)/\∀n o,n<g.i->l[n]? = some o->pk ((eA l).take n) o=true) (λg=>l.length-g.i) ⟨0,[],(none,0),v0⟩ ⟨Nat.zero_le _,O,⟨lW _,Xs.nil _⟩,λn o h=>absurd h (Nat.not_lt_zero _)⟩ (sc O (sc O (sc O (sc O (sc O (sc O (sc O sn))))))) (λ_ h=>by have h:=h.bR 1 O; have h:=h.bR 2 O; have h:=h.bR 2 O; have h:=Wt 3 h; have h:=Ws.cv h (ah:=[v0,A]) (by simp); exact h) ?_;intro g ⟨cr,M,⟨a1,ap⟩,a2⟩;refine aa (I (b0 O O) (ae (Cs ?_)));refine Cc O (λar=>?_) (λar=>?_)
 ·have C:g.i<l.length:=by simpa using ar
  obtain ⟨o,u⟩:∃q,l[g.i]? = some q:=⟨_,List.getElem?_eq_getElem C⟩;obtain ⟨aN,aP,N,P⟩:=L.bJ g.i o u;obtain ⟨G,Q,r⟩:=P;have U:=List.mem_of_getElem? u;have aQ:=r.ak.cap;have aS:=r.ak.max;have aU:=r.fix.cap;have aV:=r.fix.max;have aW:=r.code.cap;have aY:=r.code.max;have E:=F o U;have Z:=sT E;have cs:=Z.ak;have bo:=Z.code;have ct:=Fb E;have a3:=E6 u;have a4:=ML bm a3
  have a5:((eA l).take g.i).length=g.i:=by rw [List.length_take,sW]; omega
  have bp:(eA l).take (g.i+1)=((eA l).take g.i)++[o.nm]:=by rw [List.take_add_one,a3]; rfl
  have cu:=uy K F (k:=g.i) (by omega);have cw:=uz K F (k:=g.i) (by omega)
  have bq:g.es.length=g.i:=by rw [<-List.length_map,M,List.length_take,qp]; omega
  refine bf (Cs (Cb (aa (ad O (I (Yo kb O O N C) (I (dj 1 mj O O O (Q)) ?_))))));refine Al Y O nO λbr=>?_;refine ai O (aO 0 Y O O O oQ O O O (ae (Cs (e9 0 (.cells (hL o G).toArray 56 (0,0)) O O (Cr (I (Yf qO O) (I (Yd 3 O O O aT) (I (Yf tx O) ?_))))))));refine I (Yd 3 O O O aT) (ad O ?_);refine Lb Y O hS O O O O λbs=>?_;refine cD 0 (.cells ((([g.i]:List Nat)).flatMap mA).toArray 3 (0,0)) O O (LW (λ_ h=>h.nY (f:=mA) (xs:=([g.i]:List Nat)) (c:=1) 0 O z8 O (by decide)) (I (Yb vD I9 O O) ?_));refine Al Y O vD λbt=>?_;refine aO 0 Y O O O kX O O O (ae (Cs (aa (I (Yf r4 O) (I (Yd 2 O O O eU) (I (Yn di O) (ad O (ae (Cb ?_)))))))));refine av (ι:=Nat×SP) (λb=>[(75,.int .i64 (b.1:Int))]) [(0,_),(8,_),(9,_),(10,_),(11,_),(12,_),(13,_),(58,_),(59,_),(60,_),(73,_),(74,_)] (λb=>Ws w [] [cf 3 1 mA b.2.1 b.2.2 (g.i::(o.ak.take b.1).map (oj ((eA l).take g.i))),aq bt (.cells #[.int .i64 (aw l g.i),.int .i64 (e_ l g.i),.slice b.2.1 (g.i::(o.ak.take b.1).map (oj ((eA l).take g.i))).length b.2.2] 121 (0,0)),aq br (.cells (hL o G).toArray 56 (0,0)),cf 121 3 iu.cells g.oa.1 g.oa.2 g.es,aq W (b4 st (fR ((eA l).take g.i) 0) g.i),aq X (.cells #[.int .i64 (aw l g.i),.int .i64 (e_ l g.i),.slice none 0 0] 121 (0,0))] [g.J,A]) (λb=>b.1<=o.ak.length/\((o.ak.take b.1).all λs=>(idxOf s ((eA l).take g.i) 0).isSome)=true) (λb=>o.ak.length-b.1) (0,(some ⟨bs,0,none⟩,1)) ⟨Nat.zero_le _,O⟩ (sc O (sc O (sc O (sc O (sc O (sc O (sc O (sc O (sc O (sc O (sc O (sc O (sc O sn))))))))))))) (λ_ h=>by exact ((((((h.f 5 O).f 5 O).f 5 O).f 5 O).f 4 O).f 5 O:)) ?_;intro b ⟨cx,au⟩;refine aa (I (b0 O O) (ae (Cs ?_)));refine Cc O (λax=>?_) (λax=>?_)
  ·have C:b.1<o.ak.length:=by simpa using ax
   obtain ⟨s,ab⟩:∃q,o.ak[b.1]? = some q:=⟨_,List.getElem?_eq_getElem C⟩;obtain ⟨bu,pos,bv,ay⟩:=r.ak.bJ b.1 s ab;have ay:bI A bu (pos+b.1*1) (dD s):=ay;refine bf (Cs (Cb (aa (I (Yo di O O bv C) (I (b9 1 cN O O (ay 0 _ O)) (ai O (ae (aa (ad O (ad O (I (wj 4 gj gg dO je O O O) ?_)))))))))));rw [(ug _ _).1,(ug _ _).2];refine ad O (I (Yx O O) (I (Yx O O) (ai O (ai O (ae (Cs (aa (ad O (I (az O) ?_)))))))));refine ae ?_;refine Cc O (λaA=>?_) (λaA=>?_)
   ·have bw:(idxOf s ((eA l).take g.i) 0).isSome=false:=by simpa using aA
    have v:gX l=9:=by
      rw [S,if_pos (Ak u ?_)];rw [Bool.not_eq_true',pk,List.all_eq_false];exact ⟨s,List.mem_of_getElem? ab,by rw [bw]; decide⟩
    refine aa (ai O (ai O (ae (aX (Er (cj (Er (Er (cj (Er (cj (Er (Er (cj (Er ?_)))))))))))))));refine WE.gi O O O λw' z=>?_;rw [vC (by rw [v]; decide),v];exact ⟨(none,0),O,z.fr,Sl.nil⟩
   have bx:(idxOf s ((eA l).take g.i) 0).isSome=true:=by simpa using aA
   refine bf (Cr (I (Yf yg O) (I (Yd 1 O O O k9) (ad O ?_))));refine Lb Y O hS O O O O λcy=>?_;refine cD 0 (.cells (mA (oj ((eA l).take g.i) s)).toArray 3 (0,0)) O (O) ?_;refine LA (oj ((eA l).take g.i) s) 1 0 Y O hS O O O O O O (by simp; omega) (by simp; omega) λbz bB=>?_;rw [show (g.i::(o.ak.take b.1).map (oj ((eA l).take g.i)))++[oj ((eA l).take g.i) s]=(g.i::(o.ak.take (b.1+1)).map (oj ((eA l).take g.i))) by rw [List.take_add_one,ab]; simp];refine I (Yf yg O) (aO 2 Y O O O vm O O O (Ln (Eb (Et (Cr (I (Yi O O O (by omega)) (ad O (Ln ?_))))))));exact Ea ((b.1+1,(bz,bB)):Nat×SP) (by show _-(b.1+1)<_; omega) ⟨(by show b.1+1<=_; omega),sD ab au bx⟩ (sc O (sc O (sc O (sc O (sc O (sc O (sc O (sc O (sc O (sc O (sc O (sc O (sc O sn))))))))))))) (λ_ h=>Wd 1 h)
  have bC:b.1=o.ak.length:=by simp at ax; omega
  refine Ce (Ex (Ex (cp (Et (Cs ?_)))));have bD:b.1=o.ak.length:=bC;rw [bD,List.take_length] at au ⊢;refine WC.ll (rd:=bZ) 0 O (by simp) z8 (λ_ _ _ _ h=>h) λcA bE bF=>?_;refine WC.hE λbG bH bK bL=>?_;refine Cr (ad O (I (Yf vx O) (I (Yd 1 O O O cN) (ad O ?_))));refine WL.mu 3 gj Y gg dO O O O O ?_;refine ae (Cs ?_);rw [(Ez a4 a5).1,(Ez a4 a5).2,<-bp];refine Cr (I (Yf qO O) (I (Yd 4 O O O aT) (I (Yf kJ O) (I (Yd 1 O O O h_) (I (Yn iN O) (I (bd O O (by omega)) (I (Yf qO O) ?_)))))));refine aO 4 Y O O O dP O O O (ae (Cs ?_));rw [<-An u];refine Cr (I (Yf tx O) (I (Yd 4 O O O aT) (I (Yf x5 O) (I (Yd 1 O O O aT) (I (bd O O (by omega)) (I (Yf tx O) (aO 4 Y O O O dP O O O ?_)))))));refine ae ?_;rw [<-ND u];refine Cr (ad O (I (b8 0 O O k7 O) ?_));refine Lb Y O yh O O O O λcB=>?_;refine cD 0 (.cells (iu.cells (nw l g.i o,b.2)).toArray 121 (0,0)) O (O) ?_;refine LA (((nw l g.i o,b.2):iu)) 3 0 Y O yh O O O O O O (by omega) (by omega) λbM bN=>?_;refine ai O (Ln (Eb (Et (Cr (I (Yi O O O (by omega)) (ad O (Ln ?_)))))))
  exact Ea (⟨g.i+1,g.es++[(nw l g.i o,b.2)],(bM,bN),bG⟩:I8) (by show _-(g.i+1)<_; omega) ⟨by show g.i+1<=_; omega,by show (g.es++[(nw l g.i o,b.2)]).map (·.1)=_; rw [List.map_append,M,NF u]; rfl,⟨bL _ bE a1,Xs.snoc (R:=r7) (λhv h=>Ci hv h) ap bK bH bF⟩,λn aB D B=>by
      rcases Nat.lt_succ_iff_lt_or_eq.1 D with h | h
      · exact a2 n aB h B
      · subst h; rw [u] at B; injection B with B; subst B; exact au⟩ (sc rfl (sc rfl (sc rfl (sc rfl (sc rfl (sc rfl (sc rfl sn))))))) (λ_ h=>Wd 3 h)
 have a6:g.i=l.length:=by simp at ar; omega
 rw [a6,Td] at M;rw [a6]
 have bq:g.es.length=l.length:=by rw [<-List.length_map,M,qp]
 have a7:∀n o,l[n]? = some o->pk ((eA l).take n) o=true:=λn o D=>a2 n o (by have:=(List.getElem?_eq_some_iff.1 D).1; omega) D;rw [xb (λn o D=>by rw [a7 n o D]; rfl),if_neg (by decide)] at S;refine Ce (Ex (Ex (cp (Et (Cs (Cs ?_))))));refine WC.ek 0 O (by show 0<g.es.length; omega) λcC a8 cE cG=>?_;refine Cr (ad O (I (Yn kb O) (ad O (ae (Cb ?_)))));refine av (ι:=Nat) (λj=>[(118,.int .i64 (j:Int))]) [(0,_),(9,_),(10,_),(116,_),(117,_)] (λj=>Ws w [] [cf 121 3 iu.cells g.oa.1 g.oa.2 g.es,aq W (b4 st (fR ((eA l).take l.length) 0) l.length),aq X (.cells #[.int .i64 (aw l l.length),.int .i64 (e_ l l.length),.slice none 0 0] 121 (0,0))] [g.J,A]) (λj=>j<=l.length/\∀n o,n<j->l[n]? = some o->∀f ∈ o.fix,bU l n o f=false) (λj=>l.length-j) 0 ⟨Nat.zero_le _,λn o h=>absurd h (Nat.not_lt_zero _)⟩ (sc O (sc O (sc O (sc O (sc O (sc O sn)))))) (λ_ h=>h) ?_;intro j ⟨cH,a9⟩;refine aa (I (b0 O O) (ae (Cs ?_)));refine Cc O (λaC=>?_) (λaC=>?_)
 ·have aD:j<l.length:=by simpa using aC
  obtain ⟨o,u⟩:∃q,l[j]? = some q:=⟨_,List.getElem?_eq_getElem aD⟩;obtain ⟨aN,aP,N,P⟩:=L.bJ j o u;obtain ⟨G,Q,r⟩:=P;have U:=List.mem_of_getElem? u;have aQ:=r.ak.cap;have aS:=r.ak.max;have aU:=r.fix.cap;have aV:=r.fix.max;have aW:=r.code.cap;have aY:=r.code.max;have E:=F o U;have bO:=(cz E).2;have Z:=sT E;have bo:=Z.code;refine bf (Cs (Cb (aa (ad O (I (Yo kb O O N aD) (I (dj 1 mj O O O (Q)) ?_))))));refine Al Y O nO λbQ=>?_;refine ai O (aO 0 Y O O O oQ O O O (ae (Cs (e9 0 (.cells (hL o G).toArray 56 (0,0)) O O (Cr (I (Yf rY O) (I (Yd 0 O O O tp) (I (Yn pQ O) ?_))))))));refine ad O (ae (Cb ?_));refine av (ι:=Nat) (λk=>[(126,.int .i64 (k:Int))]) [(0,_),(9,_),(10,_),(18,_),(19,_),(116,_),(117,_),(118,_),(124,_),(125,_)] (λk=>Ws w [] [aq bQ (.cells (hL o G).toArray 56 (0,0)),cf 121 3 iu.cells g.oa.1 g.oa.2 g.es,aq W (b4 st (fR ((eA l).take l.length) 0) l.length),aq X (.cells #[.int .i64 (aw l l.length),.int .i64 (e_ l l.length),.slice none 0 0] 121 (0,0))] [g.J,A]) (λk=>k<=o.fix.length/\∀f ∈ o.fix.take k,bU l j o f=false) (λk=>o.fix.length-k) 0 ⟨Nat.zero_le _,by simp⟩ (sc O (sc O (sc O (sc O (sc O (sc O (sc O (sc O (sc O (sc O (sc O sn))))))))))) (λ_ h=>h) ?_;intro k ⟨cJ,aE⟩;refine aa (I (b0 O O) (ae (Cs ?_)));refine Cc O (λaF=>?_) (λaF=>?_)
  ·have C:k<o.fix.length:=by simpa using aF
   obtain ⟨x,ac⟩:∃q,o.fix[k]? = some q:=⟨_,List.getElem?_eq_getElem C⟩;obtain ⟨bS,bT,bV,aG⟩:=r.fix.bJ k x ac;have aG:bI A bS (bT+k*3) x.cells:=aG;refine bf (Cs (Cb (aa (I (Yo pQ O O bV C) (I (dj 1 x8 O O O (aG)) ?_)))));refine Al Y O vp λcK=>?_;refine aO 0 Y O O O x9 O O O (ae (Cs (e9 0 (.cells (x.cells).toArray 112 (0,0)) O O ?_)));refine WC.ld [(0,true),(1,true),(2,true),(3,true),(4,true),(5,true),(6,true),(7,true),(8,true),(9,true),(10,true),(11,true),(12,true),(13,true),(14,true),(15,true),(16,true),(17,true),(18,true),(19,true),(20,true),(21,true),(22,true),(23,true),(24,true),(25,true),(26,true)] mixed (by kernel_rfl) (λ_ _ _ d _ h=>by cases d<;>exact h) ?_;refine D0 O (λ_ h=>h) (Yf x' O) (D0 O (λ_ h=>h) (Yd 0 O O O aT) (D0 O (λ_ h=>h) (bP O O) (D0 O (λ_ h=>h) (Ym O) ?_)));apply WD.and 22 (x:=decide ((qo l (aR l j o x.m):Int)<=h2 o.code x.at_)) O O O O O Y O (λ_ h=>h) O O O O
   ·intro bW
    have bX:x.kind=2:=by simpa using bW
    have a':=bO.fix x (List.mem_of_getElem? ac);obtain ⟨p,cL,bY⟩:=pg a'.1
    have a_:x.at_.toNat=p:=by omega
    obtain ⟨y,ba⟩:∃y,o.code[p]? = some y:=⟨_,List.getElem?_eq_getElem bY⟩;obtain ⟨bb,bc,b1,af⟩:=r.code.bJ p y ba;have af:bI A bb (bc+p*3) y.cells:=af;rw [<-a_] at af;have b2:=IZ a_ ba
    have b3:vc A bb (bc+x.at_.toNat*3+1)=some (.int .i64 (h2 o.code x.at_)):=by
      rw [b2];exact af 1 _ O
    obtain ⟨cM,cO,b5,b6⟩:=Te a'.2 bX;obtain ⟨b7,be⟩:=Fc aD (a7 j o u) b5 b6;obtain ⟨e,aH⟩:∃e,g.es[j]? = some e:=⟨_,List.getElem?_eq_getElem (by omega)⟩
    have bg:e.1=nw l j o:=by
      have H:(g.es.map (·.1))[j]? = some e.1:=by rw [List.getElem?_map,aH]; rfl
      rw [M,Ao u] at H
      injection H with H
      exact H.symm
    have aI:Sl bZ 1 g.J e.2.1 e.2.2 (lA l j o):=by
      have H:=ap e (List.mem_of_getElem? aH);unfold r7 at H;rw [bg] at H;exact H
    have cP:=aI.cap;have cQ:=aI.max;have b':=Aq l j o;have cR:(nw l j o).o_.length=o.ak.length+1:=b';obtain ⟨b_,ca,cb,aK⟩:=aI.bJ x.m.toNat _ b7;have aK:bI g.J b_ (ca+x.m.toNat*1) (mA (aR l j o x.m)):=aK;obtain ⟨ag,bh⟩:∃ag,l[aR l j o x.m]? = some ag:=⟨_,List.getElem?_eq_getElem be⟩;obtain ⟨cS,cT,cc,cU,cd,cV⟩:=L.bJ _ ag bh
    have ce:qo l (aR l j o x.m)=ag.cI.length:=by unfold qo; rw [bh]; rfl
    refine Dq O (.g O O O) O (λ_ h=>h) (Yf kJ O) (Dq O (.g O O O) O (λ_ h=>h) (Yd 1 O O O h_) (Dq O (.g O O O) O (λ_ h=>h) (Yf r5 O) (Dq O (.g O O O) O (λ_ h=>h) (Yd 0 O O O aT) (Dq O (.g O O O) O (λ_ h=>h) (d_ iN O O b1 (by omega) (by omega)) (Dq O (.g O O O) O (λ_ h=>h) (Yf vr O) (Dq O (.g O O O) O (λ_ h=>h) (b9 1 aT O O (b3)) (Dq O (.g O O O) O (λ_ h=>h) (Ym O) ?_)))))));refine Dq O (.g O O O) O (λ_ h=>h) (Ym O) (Dq O (.g O O O) O (λ_ h=>h) (Ym O) (Dq O (.g O O O) O (λ_ h=>h) (Yo qP O O a8 (by omega)) (Dq O (.g O O O) O (λ_ h=>h) (Yf yg O) (Dq O (.g O O O) O (λ_ h=>h) (p7 (y:=e) 2 j 2 O O a8 O iu.aj aH (by rw [show iu.cells e=yf e.1 e.2 from O,bg]; rfl) k9) (Dq O (.g O O O) O (λ_ h=>h) (Yf qN O) (Dq O (.g O O O) O (λ_ h=>h) (Yd 0 O O O aT) (Dq O (.g O O O) O (λ_ h=>h) (d_ hR O O cb (by omega) (by omega)) ?_)))))));refine Dq O (.g O O O) O (λ_ h=>h) (b9 0 aT O O (aK 0 _ O)) (Dq O (.g O O O) O (λ_ h=>h) (Yo kb O O cc be) (Dq O (.g O O O) O (λ_ h=>h) (Yf oR O) (Dq O (.g O O O) O (λ_ h=>h) (b9 1 k9 O O (cd 5 _ O)) (Dq O (.g O O O) O (λ_ h=>h) (Yn hR O) ?_))));rw [<-ce];refine Dq O (.g O O O) O (λ_ h=>h) (aJ O O) ?_;exact Gi 22 (λ_ h=>h) O O O
   refine WD.nil (λ_ h=>h) ?_;refine Et ?_;refine Cc O (λaL=>?_) (λaL=>?_)
   ·have aM:bU l j o x=true:=aL
    have v:gX l=5:=by
      rw [S,if_pos (Ak (p:=λn o=>o.fix.any (bU l n o)) u ?_)];rw [List.any_eq_true];exact ⟨x,List.mem_of_getElem? ac,aM⟩
    refine aa (ai O (ai O (ae (aX (cj (Er (Er (cj (cj (Er (Er (cj (Er ?_)))))))))))));refine WE.gi O O O λw' z=>?_;rw [vC (by rw [v]; decide),v];exact ⟨(none,0),O,z.fr,Sl.nil⟩
   have aM:bU l j o x=false:=aL;refine Ck (Eb (Et (Cr (I (Yi O O O (by omega)) (ad O (Ln ?_))))));exact Ea (k+1) (by omega) ⟨by omega,E3 ac aE aM⟩ (sc O (sc O (sc O (sc O (sc O (sc O (sc O (sc O (sc O (sc O (sc O sn))))))))))) (λ_ h=>Wd 1 h)
  have cg:k=o.fix.length:=by simp at aF; omega
  rw [cg,List.take_length] at aE;refine Ce (Ex (Ex (cp (Eb (Et (Cr (I (Yi O O O (by omega)) (ad O (Ln ?_)))))))))
  exact Ea (j+1) (by omega) ⟨by omega,λn aB D B=>by
      rcases Nat.lt_succ_iff_lt_or_eq.1 D with h | h
      · exact a9 n aB h B
      · subst h; rw [u] at B; injection B with B; subst B; exact aE⟩ (sc rfl (sc rfl (sc rfl (sc rfl (sc rfl (sc rfl sn)))))) (λ_ h=>Wd 1 h)
 have cW:j=l.length:=by simp at aC; omega
 have v:gX l=0:=by
   rw [S,xb (λn o D=>?_),if_neg (by decide)];rw [List.any_eq_false];intro f ch;rw [a9 n o (by have:=(List.getElem?_eq_some_iff.1 D).1; omega) D f ch]
   decide
 refine Ce (Ex (Ex (cp (Et (aa (ad O (I (b8 2 O O k7 O) ?_)))))));refine Lb Y O yh O O O O λcX=>?_;refine cD 0 (.cells (iu.cells (om l,((none,0):SP))).toArray 121 (0,0)) O (O) ?_;refine LA (((om l,(none,0)):iu)) 1 0 Y O yh O O O O O O (by omega) (by omega) λci ck=>?_;refine ai O (ai O (ae (aX ?_)));refine WE.gi O O O λw' z=>?_
 have cl:oV l=(g.es++[(om l,((none,0):SP))]).map (·.1):=by rw [oV,if_pos v,List.map_append,M]; rfl
 rw [v,cl];have cm:=z.jg (rd:=I7) 1 rfl iu.aj (λ_ _ _ _ h=>h);exact ⟨(ci,ck),by rw [List.length_map],z.fr,Tc (J:=g.J) cm (λ_ _ h=>h) (cF z (by simp) a1) (Xs.snoc (R:=r7) (λhv h=>Ci hv h) ap (λ_ _ h=>h) (λ_ _ h=>h) Sl.nil)⟩
theorem bG.Tg (x:bG):x.cells.all (·.oneCell')=true:=rfl
theorem I' {l:List bA} (h:¬gX l=0):hM l=(([],0),gX l):=by rw [hM,if_pos h]
theorem I_ {l:List bA} (h:gX l=0) (a:2048<aw l l.length\/512<e_ l l.length):hM l=(([],0),2):=by rw [hM,if_neg (λe=>e h),if_pos a]
theorem Ja {l:List bA} (h:gX l=0) (a:¬(2048<aw l l.length\/512<e_ l l.length)):hM l=((po l,e_ l l.length),0):=by rw [hM,if_neg (λe=>e h),if_neg a]
theorem Th {U n:Nat} {k m a:Int} (h:ik U n k m a=true):(k=1\/k=2\/k=3)/\0<=a/\a<=2048/\0<=m/\m<=(U:Int):=by
 unfold ik at h
 split at h
 · simp only [Bool.and_eq_true,decide_eq_true_eq,beq_iff_eq] at h
   omega
 · split at h
   · simp only [Bool.and_eq_true,decide_eq_true_eq] at h
     omega
   · cases h
theorem Ti (l:List bA):(l_ l).take l.length=l_ l:=List.take_of_length_le (by rw [xe]; exact Nat.le_refl _)
theorem Tj (l:List bA):l_ l++[(⟨20,0,0⟩:bG)]=fT l 0:=by unfold fT; rw [At,List.append_nil]
theorem Jb {l:List bA} {i:Nat} {o:bA} (h:l[i]? = some o):aw l i+(o.code.length:Int)<=aw l l.length:=by
 rw [<-An h];have hi:=(List.getElem?_eq_some_iff.1 h).1
 have a:∀k,i+1+k<=l.length->aw l (i+1)<=aw l (i+1+k):=λk=>by
   induction k with
   | zero=>intro _; exact Int.le_refl _
   | succ k b=>
     intro d;obtain ⟨q,c⟩:∃q,l[i+1+k]? = some q:=⟨_,List.getElem?_eq_getElem (by omega)⟩;have:=b (by omega);have e:=An c
     show aw l (i+1)<=aw l (i+1+k+1)
     omega
 have:=a (l.length-(i+1)) (by omega)
 rwa [show i+1+(l.length-(i+1))=l.length by omega] at this
theorem oW:zeroOf Tryz.prog 33=some (.agg #[.slice none 0 0,.int .i64 0]):=by kernel_rfl
theorem MM:Enters Tryz.prog 63:=enters_of Tryz.func63 (by kernel_rfl) rfl
theorem vE:aK Tryz.prog 33=some [(0,1),(1,1)]:=by kernel_rfl
theorem pS:dk Tryz.prog 33=some 2:=by kernel_rfl
theorem qQ:f' Tryz.prog 33=some 2:=by kernel_rfl
theorem nP:an Tryz.prog 33 0=some 0:=by kernel_rfl
theorem Tl (t:View) (a:Option Addr) (c:Nat) (l:List bA) (w:World) (aY:Le t w) (F:Sl vB 7 t a c l) :
   Calls Tryz.prog 20 #[.slice a l.length c] w λe w'=>∃q:SP,e = .returned (.tuple #[.agg #[.slice q.1 (hM l).1.1.length q.2,.int .i64 (hM l).1.2],.int .i64 (hM l).2])/\Ext w w'/\Sl gv 3 (nv w w') q.1 q.2 (hM l).1.1:=by
 have b2:=F.cap;have b3:=F.max;refine enter Tryz.func20 O 160 O O ?_;refine CE (Vs:=[t]) (Ws.init (by simp [aY])) (aa ?_);refine Al Y O oW λab=>?_;refine ai O (ae (aa (ad O ?_)));refine Ld Y O MM O (λq:SP=>.tuple #[.slice q.1 (oV l).length q.2,.int .i64 (gX l)]) (λaZ q=>Sl Cj 3 aZ q.1 q.2 (oV l)) (λw u=>Tf t a c l w (u.vs _ (by simp)) F) ?_;intro A b4 b5 B;refine ad O (I (Yx O O) (I (Yx O O) (ai O (ai O (ae (Cs (aa (ad O (I (e8 O O) ?_)))))))));refine ae ?_;refine Cc O (λac=>?_) (λac=>?_)
 ·have G:¬gX l=0:=by simpa using ac
  refine aa (I (Yb oW vE O O) (ad O (aO 0 Y O O O pS O O O (ai O (ae (aX (Er ?_)))))));refine WE.ee (fj O (dI 0 O O qQ O) (gz O)) λw' u=>?_;rw [I' G];exact ⟨(none,0),O,u.fr,Sl.nil⟩
 have G:gX l=0:=by simpa using ac
 have j:=iW.1 G
 have a0:oV l=lB l++[om l]:=by rw [oV,if_pos G]
 rw [a0] at B ⊢;have b6:=B.cap;have b7:=B.max;have b':=qp l;have b_:=j.d';obtain ⟨ca,cb,a1,a2,a3,cc⟩:=B.bJ l.length _ (NG l)
 have cd:(lB l++[om l]).length=l.length+1:=by simp [qp]
 refine bf (aa (ad O (ad O (I (Yn kb O) (I (Yo (i:=l.length) qP O O a1 (by omega)) (I (dj 0 k7 O O O (a3)) ?_))))));refine Al Y O vD λce=>?_;refine aO 0 Y O O O kX O O O (ae (Cs (Cs (e9 0 (.cells (yf (om l) a2).toArray 121 (0,0)) O O (Cr (I (Yf qO O) (I (Yd 0 O O O aT) (I (dc O O) (ad O ?_)))))))));apply Lo 3 O O O O Y O O O O O
 ·intro cg;refine Vg (Yf tx O) (Vg (Yd 0 O O O aT) (Vg (dc O O) ?_));exact Gt 3 O O O
 refine ae ?_;refine Cc O (λaf=>?_) (λaf=>?_)
 ·have ag:2048<aw l l.length\/512<e_ l l.length:=by
    have H:=af;simp only [Bool.or_eq_true,decide_eq_true_eq] at H;exact H
  refine aa (I (Yb oW vE O O) (aO 1 Y O O O pS O O O (ai O (ae (aX (Er ?_))))));refine WE.ee (fj O (dI 1 O O qQ O) (gz O)) λw' u=>?_;rw [I_ G ag];exact ⟨(none,0),O,u.fr,Sl.nil⟩
 have ag:¬(2048<aw l l.length\/512<e_ l l.length):=by
   have H:=af;simp only [Bool.or_eq_false_iff,decide_eq_false_iff_not] at H;exact λh=>h.elim H.1 H.2
 refine bf (aa (I (Yf tx O) (I (Yd 0 O O O aT) (I (Yb oW vE O O) ?_))));refine Al Y O oW λah=>?_;refine aO 0 Y O O O pS O O O (ae (Cs (Cs (e9 0 (.cells #[.slice none 0 0,.int .i64 (e_ l l.length)] 33 (0,0)) O O ?_))));refine pW (λ_ h=>h.e4 108 3) ?_;refine Cr (ad O (I (Yn kb O) (ad O (ae (Cb ?_)))));refine av (ι:=Nat×SP) (λg=>[(44,.int .i64 (g.1:Int))]) [(0,_),(2,_),(3,_),(4,_),(7,_),(42,_),(43,_)] (λg=>Ws w [] [cf 108 3 bG.cells g.2.1 g.2.2 ((l_ l).take g.1),aq ah (.cells #[.slice g.2.1 ((l_ l).take g.1).length g.2.2,.int .i64 (e_ l l.length)] 33 (0,0)),aq ab (.cells #[.slice none 0 0,.int .i64 0] 33 (0,0))] [A,t]) (λg=>g.1<=l.length) (λg=>l.length-g.1) (0,(none,0)) (Nat.zero_le _) (sc O (sc O (sc O (sc O (sc O (sc O (sc O (sc O sn)))))))) (λ_ h=>(Wt 3 (((h.f 3 O).f 2 O).f 2 O):)) ?_;intro g ch;refine aa (I (b0 O O) (ae (Cs ?_)));refine Cc O (λal=>?_) (λal=>?_)
 ·have K:g.1<l.length:=by simpa using al
  obtain ⟨o,s⟩:∃q,l[g.1]? = some q:=⟨_,List.getElem?_eq_getElem K⟩;obtain ⟨a4,a5,am,an⟩:=F.bJ g.1 o s;obtain ⟨R,ao,r⟩:=an;have S:=List.mem_of_getElem? s;have a6:=r.ak.cap;have a7:=r.ak.max;have a8:=r.fix.cap;have a9:=r.fix.max;have a':=r.code.cap;have a_:=r.code.max;obtain ⟨ap,ar,L,ba,T,U⟩:=B.bJ g.1 _ (iZ s);have V:vc A ap (ar+g.1*3+0)=some (.int .i64 (aw l g.1)):=T 0 _ rfl;have bb:=uy j.d' j.lC (k:=g.1) (by omega);have bc:=uz j.d' j.lC (k:=g.1) (by omega);have be:=Jb s;have bg:=(cz (j.lC o S)).2.main;obtain ⟨ci,cj,ck⟩:=pg bg
  have bh:((l_ l).take g.1).length=g.1:=by rw [List.length_take,xe]; omega
  refine bf (Cs (Cb (aa (ad O (I (Yo kb O O am K) (I (dj 1 mj O O O (ao)) ?_))))));refine Al Y O nO λcl=>?_;refine ai O (aO 0 Y O O O oQ O O O (ae (e9 0 (.cells (hL o R).toArray 56 (0,0)) O O ?_)));refine CU (λ_=>true) [1] [13,14] (.q false 0 (.q true 1 (.q false 2 (.q false 3 (.q false 4 (.q false 5 (.q true 6 (.q false 7 (.q true 8 (.q false 9 (.q false 10 (.e 11 (.e 12 .nil .stop) .stop)))))))))))) mixed (by kernel_rfl) (λ_ _ _ d _ _ h=>by cases d<;>exact h) ?_;refine U0 O (Wp 1) (Yf nP O) (U0 O (Wp 1) (Yd 1 O O O h_) (U0 O (Wp 1) (Ym O) (U0 O (Wp 1) (Ym O) (U0 O (Wp 1) (Yo qP O O L (by omega)) (U0 O (Wp 1) (Yf qO O) (U0 O (Wp 1) (b9 0 aT O O (V)) (U0 O (Wp 1) (Yf vu O) ?_)))))));refine U0 O (Wp 1) (Yd 0 O O O aT) (U0 O (Wp 1) (bd O O (by omega)) (U0 O (Wp 1) (Yb fY gT O O) ?_));refine Ue O (Wp 1) ?_ WU.stop;refine Lb Y O hx O O O O λcm=>?_;refine cD 0 (.cells (bG.cells ⟨13,aw l g.1+o.main,0⟩).toArray 108 (0,0)) O (O) (Ln (Eu ?_));refine Ue O (λ_ h=>(Wo 1 (Wd 1 h):)) ?_ WU.stop;refine LA ((⟨13,aw l g.1+o.main,0⟩:bG)) 2 0 Y O hx O O O O O O (by omega) (by omega) λbi bj=>?_;rw [<-NM s];refine Ln (Eu ?_);refine WU.nil (λ_ h=>(Wo 1 (Wd 1 h):)) ?_;refine WS.e O ?_;refine I (Yf nP O) (Ln (Es ?_));refine WS.e O ?_;refine aO 3 Y O O O x3 O O O (Ln (Es ?_));refine WS.nil ?_;refine Eb (Et (Cr (I (Yi O O O (by omega)) (ad O (Ln ?_)))));exact Ea ((g.1+1,(bi,bj)):Nat×SP) (by show _-(g.1+1)<_; omega) (by show g.1+1<=_; omega) (sc O (sc O (sc O (sc O (sc O (sc O (sc O (sc O sn)))))))) (λ_ h=>Wd 2 h)
 have bk:g.1=l.length:=by simp at al; omega
 rw [bk,Ti];have bh:=xe l;refine Ce (Ex (Ex (cp (Et (aa (I (Yf nP O) (I (Yd 1 O O O h_) (I (Yb fY gT O O) ?_))))))));refine Lb Y O hx O O O O λcn=>?_;refine cD 0 (.cells (bG.cells ⟨20,0,0⟩).toArray 108 (0,0)) O (O) ?_;refine LA ((⟨20,0,0⟩:bG)) 1 0 Y O hx O O O O O O (by omega) (by omega) λbl bm=>?_;rw [Tj];refine I (Yf nP O) (aO 2 Y O O O x3 O O O (ae (Cs (aa (ad O (I (Yn kb O) (ad O (ae (Cb ?_)))))))));refine av (ι:=Nat×SP) (λe=>[(72,.int .i64 (e.1:Int))]) [(0,_),(2,_),(3,_),(4,_),(7,_),(70,_),(71,_)] (λe=>Ws w [] [cf 108 3 bG.cells e.2.1 e.2.2 (fT l e.1),aq ah (.cells #[.slice e.2.1 (fT l e.1).length e.2.2,.int .i64 (e_ l l.length)] 33 (0,0)),aq ab (.cells #[.slice none 0 0,.int .i64 0] 33 (0,0))] [A,t]) (λe=>e.1<=l.length) (λe=>l.length-e.1) (0,(bl,bm)) (Nat.zero_le _) (sc O (sc O (sc O (sc O (sc O (sc O (sc O (sc O sn)))))))) (λ_ h=>(Wt 3 (((h.f 3 O).f 3 O).f 3 O):)) ?_;intro e co;refine aa (I (b0 O O) (ae (Cs ?_)));refine Cc O (λau=>?_) (λau=>?_)
 ·have ax:e.1<l.length:=by simpa using au
  obtain ⟨o,s⟩:∃q,l[e.1]? = some q:=⟨_,List.getElem?_eq_getElem ax⟩;obtain ⟨a4,a5,am,an⟩:=F.bJ e.1 o s;obtain ⟨R,ao,r⟩:=an;have S:=List.mem_of_getElem? s;have a6:=r.ak.cap;have a7:=r.ak.max;have a8:=r.fix.cap;have a9:=r.fix.max;have a':=r.code.cap;have a_:=r.code.max;obtain ⟨ap,ar,L,ba,T,U⟩:=B.bJ e.1 _ (iZ s);have V:vc A ap (ar+e.1*3+0)=some (.int .i64 (aw l e.1)):=T 0 _ rfl;have bb:=uy j.d' j.lC (k:=e.1) (by omega);have bc:=uz j.d' j.lC (k:=e.1) (by omega);have be:=Jb s;have bn:=Fg (l:=l) (i:=e.1) (by omega);have aK:=(cz (j.lC o S)).2;have bo:=sT (j.lC o S);have cq:=bo.code;have cr:=U.cap;have cs:=U.max;have bp:=Aq l e.1 o;have ct:(nw l e.1 o).o_.length=o.ak.length+1:=bp;refine bf (Cs (Cb (aa (ad O (I (Yo kb O O am ax) (I (dj 1 mj O O O (ao)) ?_))))));refine Al Y O nO λbq=>?_;refine ai O (aO 0 Y O O O oQ O O O (ae (Cs (e9 0 (.cells (hL o R).toArray 56 (0,0)) O O (Cr (I (Yf nP O) (I (Yd 2 O O O h_) (I (Yf kJ O) ?_))))))));refine I (Yd 0 O O O h_) ?_;refine WL.tQ (f:=bG.cells) (rd:=gv) (xs:=fT l e.1) (ys:=o.code) 1 (λ_=>t) Y O hx O O O (λw u=>⟨u.vs t (by simp),r.code⟩) (λ_ _ _ _ h=>h) bG.aj bG.Tg (by omega) (by omega) λay az=>?_;refine I (Yf nP O) (aO 2 Y O O O x3 O O O (ae (aa (I (Yf rY O) (I (Yd 0 O O O tp) (I (Yn pQ O) (ad O (ae (Cb ?_)))))))));refine av (ι:=Nat) (λk=>[(86,.int .i64 (k:Int))]) [(0,_),(2,_),(3,_),(4,_),(7,_),(10,_),(70,_),(71,_),(72,_),(84,_),(85,_)] (λk=>Ws w [] [cf 108 3 bG.cells ay az (fT l e.1++jQ l e.1 o o.code (o.fix.take k)),aq bq (.cells (hL o R).toArray 56 (0,0)),aq ah (.cells #[.slice ay (fT l e.1++o.code).length az,.int .i64 (e_ l l.length)] 33 (0,0)),aq ab (.cells #[.slice none 0 0,.int .i64 0] 33 (0,0))] [A,t]) (λk=>k<=o.fix.length) (λk=>o.fix.length-k) 0 (Nat.zero_le _) (sc O (sc O (sc O (sc O (sc O (sc O (sc O (sc O (sc O (sc O (sc O (sc O sn)))))))))))) (λ_ h=>((((h.f 3 O).f 3 O).f 2 O).f 3 O:)) ?_;intro k cu;refine aa (I (b0 O O) (ae (Cs ?_)));refine Cc O (λaA=>?_) (λaA=>?_)
  ·have K:k<o.fix.length:=by simpa using aA
   obtain ⟨x,C⟩:∃q,o.fix[k]? = some q:=⟨_,List.getElem?_eq_getElem K⟩;obtain ⟨br,bs,bt,aB⟩:=r.fix.bJ k x C;have aB:bI t br (bs+k*3) x.cells:=aB;have aL:=aK.fix x (List.mem_of_getElem? C);obtain ⟨cv,bu,bv,bw,bx⟩:=Th aL.2;obtain ⟨p,bz,bB⟩:=pg aL.1
   have M:x.at_.toNat=p:=by omega
   obtain ⟨y,aM⟩:∃y,o.code[p]? = some y:=⟨_,List.getElem?_eq_getElem bB⟩;have N:=IZ M aM;rw [N] at bu bv
   have W:(jQ l e.1 o o.code (o.fix.take k))[p]? = some y:=by
     have aN:=NL (l:=l) (n:=e.1) aK C;rw [M] at aN;rw [aN,aM]
   have J:(fT l e.1++jQ l e.1 o o.code (o.fix.take k))[(fT l e.1).length+p]? = some y:=by rw [List.getElem?_append_right (by omega),Nat.add_sub_cancel_left]; exact W
   obtain ⟨bC,aP⟩:=Fc ax (j.known e.1 o s) bw bx;obtain ⟨bD,bE,bF,aC⟩:=U.bJ x.m.toNat _ bC;have aC:bI A bD (bE+x.m.toNat*1) (mA (aR l e.1 o x.m)):=aC;obtain ⟨D,P⟩:∃D,l[aR l e.1 o x.m]? = some D:=⟨_,List.getElem?_eq_getElem aP⟩;obtain ⟨cw,cx,bH,cA,bK,aD⟩:=F.bJ _ D P;obtain ⟨aQ,aS,aU,cB,aV,cC⟩:=B.bJ _ _ (iZ P);have bL:vc A aQ (aS+aR l e.1 o x.m*3+0)=some (.int .i64 (aw l (aR l e.1 o x.m))):=aV 0 _ rfl;have bM:vc A aQ (aS+aR l e.1 o x.m*3+1)=some (.int .i64 (e_ l (aR l e.1 o x.m))):=aV 1 _ rfl;have cE:=uy j.d' j.lC (k:=aR l e.1 o x.m) (by omega);have cF:=uz j.d' j.lC (k:=aR l e.1 o x.m) (by omega);have cG:(jQ l e.1 o o.code (o.fix.take k)).length=o.code.length:=xd _ _ _ _ _;refine bf (Cs (Cb (aa (I (Yo pQ O O bt K) (I (dj 1 x8 O O O (aB)) ?_)))));refine Al Y O vp λcH=>?_;refine aO 0 Y O O O x9 O O O (ae (Cs (e9 0 (.cells (x.cells).toArray 112 (0,0)) O O ?_)));refine WC.ek 1 O (by simp only [List.length_append]; omega) λcJ E cK cL=>?_;refine WC.ld [(0,true),(1,true),(2,true),(3,true),(4,true),(5,true),(6,true),(7,true),(8,true),(9,true),(10,true),(11,true),(12,true)] mixed (by kernel_rfl) (λ_ _ _ d _ h=>by cases d<;>exact h) ?_;refine D0 O (λ_ h=>h) (Yf nP O) (D0 O (λ_ h=>h) (Yd 3 O O O h_) (D0 O (λ_ h=>h) (Ym O) (D0 O (λ_ h=>h) (Ym O) (D0 O (λ_ h=>h) (Yo qP O O L (by omega)) (D0 O (λ_ h=>h) (Yf qO O) (D0 O (λ_ h=>h) (b9 0 aT O O (V)) (D0 O (λ_ h=>h) (Yf r5 O) ?_)))))));refine D0 O (λ_ h=>h) (Yd 0 O O O aT) (D0 O (λ_ h=>h) (vY (a:=(fT l e.1).length) (b:=p) O O bn.symm bz (by omega)) (D0 O (λ_ h=>h) (Yo (i:=(fT l e.1).length+p) iN O O E (by simp only [List.length_append]; omega)) (D0 O (λ_ h=>h) (Yf vr O) (D0 O (λ_ h=>h) (Ya O) ?_))));refine WD.nil (λ_ h=>h) ?_;refine Et (Cs ?_);refine WC.ld [(0,true),(1,true),(2,true),(3,true),(4,true),(5,true),(6,true),(7,true),(8,true),(9,true)] mixed (by kernel_rfl) (λ_ _ _ d _ h=>by cases d<;>exact h) ?_;refine D0 O (λ_ h=>h) (Ym O) (D0 O (λ_ h=>h) (Ym O) (D0 O (λ_ h=>h) (Yo qP O O L (by omega)) (D0 O (λ_ h=>h) (Yf yg O) (D0 O (λ_ h=>h) (b9 0 k9 O O (T 2 _ O)) (D0 O (λ_ h=>h) (Yf qN O) (D0 O (λ_ h=>h) (Yd 0 O O O aT) (D0 O (λ_ h=>h) (d_ hR O O bF (by omega) (by omega)) ?_)))))));refine D0 O (λ_ h=>h) (b9 0 aT O O (aC 0 _ O)) (D0 O (λ_ h=>h) (Ya O) ?_);refine WD.nil (λ_ h=>h) ?_;refine Et (aa (I (Yf x' O) (I (Yd 0 O O O aT) (ae (Cb (aa (I (bP O O) (ai O (ae ?_)))))))));refine Cc O (λaE=>?_) (λaE=>?_)
   ·have X:x.kind=1:=by simpa using aE
    refine CU (λ_=>true) [] [9,10] (.q false 0 (.q false 1 (.q true 2 (.q false 3 (.q false 4 (.q false 5 (.q false 6 (.q true 7 (.q false 8 .nil))))))))) mixed (by kernel_rfl) (λ_ _ _ d _ _ h=>by cases d<;>exact h) ?_;refine U0 O (λ_ h=>h) (Ym O) (U0 O (λ_ h=>h) (cy O) (U0 O (λ_ h=>h) (p7 (y:=y) 1 ((fT l e.1).length+p) 1 O O E (by omega) bG.aj J O aT) (U0 O (λ_ h=>h) (Ym O) (U0 O (λ_ h=>h) (Ym O) (U0 O (λ_ h=>h) (Yo qP O O L (by omega)) (U0 O (λ_ h=>h) (Yf qO O) (U0 O (λ_ h=>h) (b9 0 aT O O (V)) ?_)))))));refine U0 O (λ_ h=>h) (bd O O (by omega)) ?_;refine WU.nil (λ_ h=>h) ?_;refine WS.e O ?_;refine I (cy O) (Ln (Es ?_));refine WS.e O ?_;refine WL.storeT (y:=y) 1 ((fT l e.1).length+p) 1 (⟨y.op,y.a+aw l e.1,y.b⟩) Y O O O E (by omega) bG.aj J dP O O (by decide) O ?_
    have Q:oo l e.1 o x=y.a+aw l e.1:=by unfold oo; rw [N]; rw [if_pos X]
    rw [Av (l:=l) (n:=e.1) (o:=o) (c:=jQ l e.1 o o.code (o.fix.take k)) (p:=p) (x:=y) (y.a+aw l e.1) W,<-Q,<-M,<-i_ C];refine Ln (Es ?_);refine WS.nil ?_;refine Eb (Eb (Et (Cr (I (Yi O O O (by omega)) (ad O (Ln ?_))))));exact Ea (k+1) (by omega) (by omega) (sc O (sc O (sc O (sc O (sc O (sc O (sc O (sc O (sc O (sc O (sc O (sc O sn)))))))))))) (λ_ h=>Wd 1 h)
   have X:¬x.kind=1:=by simpa using aE
   refine aa (I (bP O O) (ai O (ae ?_)));refine Cc O (λaF=>?_) (λaF=>?_)
   ·have Z:x.kind=2:=by simpa using aF
    have aG:=j.E9 e.1 o s x (List.mem_of_getElem? C)
    have bN:qo l (aR l e.1 o x.m)=D.cI.length:=by unfold qo; rw [P]; rfl
    have bO:y.a.toNat<D.cI.length:=by
      unfold bU at aG;rw [Z,bN,N] at aG;simp at aG;omega
    obtain ⟨z,aH⟩:∃v,D.cI[y.a.toNat]? = some v:=⟨_,List.getElem?_eq_getElem bO⟩;obtain ⟨bQ,bR,bS,aI⟩:=aD.cI.bJ _ z aH;have aI:bI t bQ (bR+y.a.toNat*1) (e5 z):=aI;have cM:=aD.cI.cap;have cN:=aD.cI.max
    have bT:Ar l (aR l e.1 o x.m) y.a=z:=by unfold Ar; rw [P,Option.bind_some,aH]; rfl
    have cO:0<=z/\z<=2048:=by
      have aW:=j.lC D (List.mem_of_getElem? P);obtain ⟨cP,cQ,cR⟩:=pg ((cz aW).2.cI z (List.mem_of_getElem? aH));have:=(sT aW).code;omega
    refine CU (λ_=>true) [] [17,18] (.q false 0 (.q false 1 (.q false 2 (.q false 3 (.q false 4 (.q true 5 (.q false 6 (.q false 7 (.q false 8 (.q false 9 (.q true 10 (.q false 11 (.q false 12 (.q true 13 (.q false 14 (.q true 15 (.q false 16 .nil))))))))))))))))) mixed (by kernel_rfl) (λ_ _ _ d _ _ h=>by cases d<;>exact h) ?_;refine U0 O (λ_ h=>h) (Ym O) (U0 O (λ_ h=>h) (Ym O) (U0 O (λ_ h=>h) (Ym O) (U0 O (λ_ h=>h) (Yo qP O O aU (by omega)) (U0 O (λ_ h=>h) (Yf qO O) (U0 O (λ_ h=>h) (b9 0 aT O O (bL)) (U0 O (λ_ h=>h) (Ym O) (U0 O (λ_ h=>h) (Ym O) ?_)))))));refine U0 O (λ_ h=>h) (Yo kb O O bH aP) (U0 O (λ_ h=>h) (Yf oR O) (U0 O (λ_ h=>h) (b9 1 k9 O O (bK 5 _ O)) (U0 O (λ_ h=>h) (Ym O) (U0 O (λ_ h=>h) (cy O) (U0 O (λ_ h=>h) (p7 (y:=y) 1 ((fT l e.1).length+p) 1 O O E (by omega) bG.aj J O aT) (U0 O (λ_ h=>h) (d_ hR O O bS (by omega) (by omega)) (U0 O (λ_ h=>h) (b9 1 aT O O (aI 0 _ O)) ?_)))))));refine U0 O (λ_ h=>h) (bd O O (by omega)) ?_;refine WU.nil (λ_ h=>h) ?_;refine WS.e O ?_;refine I (cy O) (Ln (Es ?_));refine WS.e O ?_;refine WL.storeT (y:=y) 1 ((fT l e.1).length+p) 1 (⟨y.op,aw l (aR l e.1 o x.m)+z,y.b⟩) Y O O O E (by omega) bG.aj J dP O O (by decide) O ?_
    have Q:oo l e.1 o x=aw l (aR l e.1 o x.m)+z:=by unfold oo; rw [N]; rw [if_neg X,if_pos Z,bT]
    rw [Av (l:=l) (n:=e.1) (o:=o) (c:=jQ l e.1 o o.code (o.fix.take k)) (p:=p) (x:=y) (aw l (aR l e.1 o x.m)+z) W,<-Q,<-M,<-i_ C];refine Ln (Es ?_);refine WS.nil ?_;refine Eb (Eb (Et (Cr (I (Yi O O O (by omega)) (ad O (Ln ?_))))));exact Ea (k+1) (by omega) (by omega) (sc O (sc O (sc O (sc O (sc O (sc O (sc O (sc O (sc O (sc O (sc O (sc O sn)))))))))))) (λ_ h=>Wd 1 h)
   have Z:¬x.kind=2:=by simpa using aF
   refine aa (I (bP O O) (ai O (ae ?_)));refine Cc O (λaJ=>?_) (λaJ=>?_)
   ·have bV:x.kind=3:=by simpa using aJ
    refine CU (λ_=>true) [] [9,10] (.q false 0 (.q false 1 (.q true 2 (.q false 3 (.q false 4 (.q false 5 (.q false 6 (.q true 7 (.q false 8 .nil))))))))) mixed (by kernel_rfl) (λ_ _ _ d _ _ h=>by cases d<;>exact h) ?_;refine U0 O (λ_ h=>h) (Ym O) (U0 O (λ_ h=>h) (cy O) (U0 O (λ_ h=>h) (p7 (y:=y) 1 ((fT l e.1).length+p) 1 O O E (by omega) bG.aj J O aT) (U0 O (λ_ h=>h) (Ym O) (U0 O (λ_ h=>h) (Ym O) (U0 O (λ_ h=>h) (Yo qP O O aU (by omega)) (U0 O (λ_ h=>h) (Yf tx O) (U0 O (λ_ h=>h) (b9 0 aT O O (bM)) ?_)))))));refine U0 O (λ_ h=>h) (bd O O (by omega)) ?_;refine WU.nil (λ_ h=>h) ?_;refine WS.e O ?_;refine I (cy O) (Ln (Es ?_));refine WS.e O ?_;refine WL.storeT (y:=y) 1 ((fT l e.1).length+p) 1 (⟨y.op,y.a+e_ l (aR l e.1 o x.m),y.b⟩) Y O O O E (by omega) bG.aj J dP O O (by decide) O ?_
    have Q:oo l e.1 o x=y.a+e_ l (aR l e.1 o x.m):=by unfold oo; rw [N]; rw [if_neg X,if_neg Z]
    rw [Av (l:=l) (n:=e.1) (o:=o) (c:=jQ l e.1 o o.code (o.fix.take k)) (p:=p) (x:=y) (y.a+e_ l (aR l e.1 o x.m)) W,<-Q,<-M,<-i_ C];refine Ln (Es ?_);refine WS.nil ?_;refine Eb (Eb (Et (Cr (I (Yi O O O (by omega)) (ad O (Ln ?_))))));exact Ea (k+1) (by omega) (by omega) (sc O (sc O (sc O (sc O (sc O (sc O (sc O (sc O (sc O (sc O (sc O (sc O sn)))))))))))) (λ_ h=>Wd 1 h)
   have bV:¬x.kind=3:=by simpa using aJ
   omega
  have bW:k=o.fix.length:=by simp at aA; omega
  rw [bW,List.take_length];have bX:fT l e.1++jQ l e.1 o o.code o.fix=fT l (e.1+1):=(Fh s).symm;rw [bX]
  have bY:(fT l e.1++o.code).length=(fT l (e.1+1)).length:=by rw [Fh s,List.length_append,List.length_append]; unfold e6; rw [xd]
  rw [bY];refine Ce (Ex (Ex (cp (Eb (Et (Cr (I (Yi O O O (by omega)) (ad O (Ln ?_)))))))));exact Ea ((e.1+1,(ay,az)):Nat×SP) (by show _-(e.1+1)<_; omega) (by show e.1+1<=_; omega) (sc O (sc O (sc O (sc O (sc O (sc O (sc O (sc O sn)))))))) (λ_ h=>(Wt 3 (((h.f 3 O).f 3 O).f 2 O):))
 have bZ:e.1=l.length:=by simp at au; omega
 rw [bZ];have b1:=Ja G ag;refine Ce (Ex (Ex (cp (Et (aa (I (b8 1 O O qQ O) (aO 2 Y O O O pS O O O (ai O (ae (aX ?_))))))))));refine WE.ee (fj O (dI 2 O O qQ O) (gz O)) λw' u=>?_;rw [b1];exact ⟨e.2,O,u.fr,u.jg 0 O bG.aj (λ_ _ _ _ h=>h)⟩
def iO (x:bs):List UInt8:=[c_ x.kind]++bH x.name++bm x.n++bm x.pl
def Tm (name:List UInt8) (a:List bs):List UInt8:=bH name++[c_ a.length]++a.flatMap iO
theorem Tn (x:bs):(iO x).length=x.name.length+18:=by simp only [iO,List.length_append,bb,ku,List.length_singleton]; omega
theorem Jc:∀(l:List bs),(∀x ∈ l,x.name.length<=8)->(l.flatMap iO).length<=l.length*26
 | [],_=>by simp
 | x::r,h=>by
   have b:=h x (by simp);have c:=Jc r λy a=>h y (by simp [a]);simp only [List.flatMap_cons,List.length_append,Tn,List.length_cons]; omega
theorem Jd {l:List bs} (h:∀x ∈ l,x.name.length<=8) (i:Nat):((l.take i).flatMap iO).length<=l.length*26:=by
 have b:=Jc (l.take i) λx a=>h x (List.mem_of_mem_take a)
 have c:(l.take i).length<=l.length:=by simp; omega
 omega
def pT (name:List UInt8) (a:List bs):List UInt8×Int:=if hG name a=0 then (Tm name a,0) else ([],hG name a)
theorem To {name:List UInt8} {a:List bs} (h:hG name a=0):a.length<=16/\name.length<=8/\∀x ∈ a,x.name.length<=8:=by
 unfold hG at h
 split at h
 · cases h
 · rename_i g
   split at h
   · rename_i b
     simp only [Bool.and_eq_true,Bool.not_eq_true',Bool.or_eq_false_iff,Bool.not_eq_false'] at b;obtain ⟨e,_,c⟩:=b;refine ⟨by omega,?_,?_⟩
     · unfold dU at c; simp at c; omega
     · intro x f
       have:=List.all_eq_true.1 e x f;unfold km at this;simp only [Bool.not_eq_true',Bool.or_eq_false_iff,Bool.not_eq_false'] at this;have d:=this.1.1.1.1.1.1.1;unfold dU at d; simp at d; omega
   · cases h
theorem Tp (j:View) (a:Option Addr) (c:Nat) (name:List UInt8) (b:List bs) (w:World) (y:Le j w) (k:Sl gV 4 j a c b) :
   Calls Tryz.prog 28 #[.agg #[st name,.slice a b.length c]] w λe w'=>e = .returned (.tuple #[st (pT name b).1,.int .i64 (pT name b).2])/\Ext w w':=by
 have L:=k.cap;have M:=k.max;refine enter Tryz.func28 O 51 O O ?_;refine CE (Vs:=[j]) (Ws.init (by simp [y])) (aa ?_);refine WL.box Y O O λz=>?_;refine ai O (ai O (ae (Cs (aa (I (b8 0 O O iM O) (Lp Y O B1 O (λw f=>BE j a c name b w (f.vs _ (by simp)) k) (ai O (ae (aa (ad O ?_))))))))));refine I (e8 O O) (ae ?_);refine Cc O (λo=>?_) (λo=>?_)
 ·have l:¬hG name b=0:=by simpa using o
  refine aa (ad O (ai O (ai O (ae (aX (Er ?_))))));refine WE.gi O O O λw' f=>?_;exact ⟨by rw [pT,if_neg l]; rfl,f.fr⟩
 have l:hG name b=0:=by simpa using o
 obtain ⟨N,P,p⟩:=To l;refine bf (aa (I (Yb I2 I1 O O) ?_));refine WL.box Y O O λd=>?_;refine LW (λ_ h=>h.e4 5 1) (ai O (ae (aa (ad O (I (Yf xD O) (I (Yd 2 O O O cN) (Lf 1 O ?_)))))));refine Lw (ι:=Value) [_,_] _ Y O ye O O (λ_=>.tuple #[]) (λi=>[aq d (.cells #[.pointer (some ⟨d,0,none⟩),i] 165 (0,0)),bY 5 1 i (bH name).length ((bH name).map au)]) (λ_=>True) [] (by simp) (λw f=>yc d none (.slice none 0 0) [] name w Y (by simp only [List.length_append,bb,List.length_singleton,List.length_cons,List.length_nil]; omega) f) ?_;intro A _;refine ae (aa (ad O (I (Yf pH O) (I (Yd 2 O O O rT) (I (Yn oK O) ?_)))));refine Lw (ι:=Value) [_,_] _ Y O tv O O (λ_=>.tuple #[]) (λi=>[aq d (.cells #[.pointer (some ⟨d,0,none⟩),i] 165 (0,0)),bY 5 1 i (bH name++[c_ b.length]).length ((bH name++[c_ b.length]).map au)]) (λ_=>True) [] (by simp) (λw f=>tw d (some ⟨d,0,none⟩) A (bH name) b.length w (.inr O) (by simp only [List.length_append,bb,List.length_singleton,List.length_cons,List.length_nil]; omega) f) ?_;intro B _;refine ae (Cs (aa (I (Yf pH O) (I (Yd 2 O O O rT) (I (Yn oK O) (ad O (ae (Cb ?_))))))));refine av (ι:=Nat×Option Addr×Value) (λg=>[(27,.int .i64 (g.1:Int))]) [(2,_),(3,_),(5,_),(25,_),(26,_)] (λg=>Ws w [] ([aq d (.cells #[.pointer (g.2.1),g.2.2] 165 (0,0)),bY 5 1 g.2.2 (bH name++[c_ b.length]++(b.take g.1).flatMap iO).length ((bH name++[c_ b.length]++(b.take g.1).flatMap iO).map au)]++[aq z (.cells (Value.agg #[st name,.slice a b.length c]).cells 65 (0,0))]) [j]) (λg=>g.1<=b.length/\(g.2.1=none\/g.2.1=some ⟨d,0,none⟩)) (λg=>b.length-g.1) (0,some ⟨d,0,none⟩,B) ⟨Nat.zero_le _,.inr O⟩ (sc O (sc O (sc O (sc O (sc O (sc O sn)))))) (λ_ h=>by simp only [List.take_zero,List.flatMap_nil,List.append_nil]; exact h) ?_;intro g ⟨hi,u⟩;refine aa (I (b0 O O) (ae (Cs ?_)));refine Cc O (λq=>?_) (λq=>?_)
 ·have C:g.1<b.length:=by simpa using q
  obtain ⟨x,m⟩:∃x,b[g.1]? = some x:=⟨_,List.getElem?_eq_getElem C⟩;obtain ⟨pb,D,E,s⟩:=k.bJ g.1 x m;have s:bI j pb (D+g.1*4) x.cells:=s
  have Q:(b.take (g.1+1)).map (·.name)=(b.take g.1).map (·.name)++[x.name]:=by rw [List.take_add_one,m]; simp
  have R:((b.take g.1).map (·.name)).length=g.1:=by simp; omega
  have S:=p x (List.mem_of_getElem? m);have F:=Jd p g.1;refine bf (Cs (Cb (aa (I (Yo oK O O E (by omega)) (I (dj 0 jW O O O (s)) ?_)))));refine Al Y O a_ λT=>?_;refine aO 0 Y O O O jD O O O (ae (aa (ad O (I (Yf th O) (I (Yd 0 O O O aT) (Lf 2 O (Lf 2 O ?_)))))));refine Lw (ι:=Value) [_,_] _ Y O tv O O (λ_=>.tuple #[]) (λi=>[aq d (.cells #[.pointer (some ⟨d,0,none⟩),i] 165 (0,0)),bY 5 1 i (bH name++[c_ b.length]++(b.take g.1).flatMap iO++[c_ x.kind]).length ((bH name++[c_ b.length]++(b.take g.1).flatMap iO++[c_ x.kind]).map au)]) (λ_=>True) [] (by simp) (λw f=>tw d g.2.1 g.2.2 (bH name++[c_ b.length]++(b.take g.1).flatMap iO) x.kind w u (by simp only [List.length_append,bb,List.length_singleton,List.length_cons,List.length_nil]; omega) f) ?_;intro G _;refine ae (aa (ad O (I (Yf qC O) (I (Yd 2 O O O cN) ?_))));refine Lw (ι:=Value) [_,_] _ Y O ye O O (λ_=>.tuple #[]) (λi=>[aq d (.cells #[.pointer (some ⟨d,0,none⟩),i] 165 (0,0)),bY 5 1 i (bH name++[c_ b.length]++(b.take g.1).flatMap iO++[c_ x.kind]++bH x.name).length ((bH name++[c_ b.length]++(b.take g.1).flatMap iO++[c_ x.kind]++bH x.name).map au)]) (λ_=>True) [] (by simp) (λw f=>yc d (some ⟨d,0,none⟩) G (bH name++[c_ b.length]++(b.take g.1).flatMap iO++[c_ x.kind]) x.name w (.inr O) (by simp only [List.length_append,bb,List.length_singleton,List.length_cons,List.length_nil]; omega) f) ?_;intro H _;refine ae (Cr (ad O (I (Yf lL O) (I (Yd 2 O O O aT) (I (Yf jC O) (I (Yd 2 O O O aT) ?_))))));refine Lb Y O hS O O O O λt=>?_;refine cD 0 (.cells (([x.n,x.pl]:List Int).flatMap e5).toArray 3 (0,0)) O O ?_;refine WL.kh 0 O ?_;refine Lw (ι:=Option Addr×Value) [_,_] _ Y O oU O O (λ_=>.tuple #[]) (λr=>[aq d (.cells #[.pointer (r.1),r.2] 165 (0,0)),bY 5 1 r.2 (bH name++[c_ b.length]++(b.take g.1).flatMap iO++[c_ x.kind]++bH x.name++[x.n,x.pl].flatMap bm).length ((bH name++[c_ b.length]++(b.take g.1).flatMap iO++[c_ x.kind]++bH x.name++[x.n,x.pl].flatMap bm).map au)]) (λr=>r.1=none\/r.1=some ⟨d,0,none⟩) [bv t (.cells (([x.n,x.pl]:List Int).flatMap e5).toArray 3 (0,0))] (by simp) (λw f=>oS (bv t (.cells (([x.n,x.pl]:List Int).flatMap e5).toArray 3 (0,0))) (some ⟨t,0,none⟩) 2 [x.n,x.pl] d (some ⟨d,0,none⟩) H (bH name++[c_ b.length]++(b.take g.1).flatMap iO++[c_ x.kind]++bH x.name) w (pR _ (by simp)) (.inr O) (by simp only [List.length_append,bb,List.length_singleton,List.length_cons,List.length_nil]; omega) f) ?_;intro v J;refine Ln (Eb (Et (Cr (I (Yi O O O (by omega)) (ad O (Ln ?_))))))
  exact Ea ((g.1+1,v.1,v.2):Nat×Option Addr×Value) (by first | omega | (dsimp only; omega)) ⟨by first | omega | (dsimp only; omega),J⟩ (sc O (sc O (sc O (sc O (sc O (sc O sn)))))) (λ_ h=>by
    have h:=Ws.out 2 h;have h:=Ws.cv h (ah:=[j]) (by simp)
    have e:bH name++[c_ b.length]++(b.take g.1).flatMap iO++[c_ x.kind]++bH x.name++[x.n,x.pl].flatMap bm=bH name++[c_ b.length]++(b.take (g.1+1)).flatMap iO:=by rw [yd m]; simp [iO]
    rw [e] at h
    exact h)
 have K:g.1=b.length:=by simp at q; omega
 refine Ce (Ex (Ex (cp (Et (aa (ad O (I (cy O) (I (Yf vz O) ?_))))))))
 refine Lw (ι:=Unit) [_,_] _ Y O I3 O O (λ_=>st (bH name++[c_ b.length]++(b.take g.1).flatMap iO)) (λ_=>[]) (λ_=>True) [] (by simp) (λw f=>by
     have:=IW d g.2.1 g.2.2 (bH name++[c_ b.length]++(b.take g.1).flatMap iO) (by simp) w u (by simp only [List.length_append,bb,List.length_singleton]; have F:=Jd p g.1; omega) f
     exact this.mono λe w' h=>⟨(),h.1,trivial,h.2⟩) ?_
 intro _ _;refine ai O (ai O (ae (aX ?_)));refine WE.gi O O O λw' f=>?_;exact ⟨by rw [pT,if_pos l,K,List.take_length]; rfl,f.fr⟩
def qR (s:List UInt8):Option (bs×List UInt8):=do
 let (k,s) <-l7 s
 let (nm,s) <-oh s
 let (n,s) <-lz s
 let (pl,s) <-lz s
 pure (⟨k,n,pl,nm⟩,s)
def r8:Nat->List UInt8->Option (List bs×List UInt8)
 | 0,s=>some ([],s)
 | k+1,s=>(qR s).bind λp=>(r8 k p.2).map λq=>(p.1::q.1,q.2)
def pU (s:List UInt8):Option ((List UInt8×List bs)×List UInt8):=
 (oh s).bind λp=>(l7 p.2).bind λq=>(r8 q.1.toNat q.2).map λr=>((p.1,r.1),r.2)
def qS (s:List UInt8):Option (List UInt8×List bs):=match pU s with | some (f,[])=>some f | _=>none
def gI (s:List UInt8):(List UInt8×List bs)×Int:=if 32768<s.length then (([],[]),2) else match qS s with | some f=>if hG f.1 f.2=0 then (f,0) else (([],[]),1) | none=>(([],[]),1)
theorem Tq:Enters Tryz.prog 67:=enters_of Tryz.func67 (by kernel_rfl) rfl
theorem Je:Enters Tryz.prog 136:=enters_of Tryz.func136 (by kernel_rfl) rfl
theorem Tr:Enters Tryz.prog 66:=enters_of Tryz.func66 (by kernel_rfl) rfl
theorem Ts (b:Nat) (s:List UInt8)  (w:World) (D:s.length<=9223372036854775807) (a:Ws w [b] [aq b (.cells #[st (s)] 229 (0,0))] [] w) :
   Calls Tryz.prog 67 #[.pointer (some ⟨b,0,none⟩)] w λe w'=>(∃r:(List UInt8×List bs×List UInt8)×Option Addr×Nat,e = .returned (.agg #[st r.1.1,.slice r.2.1 r.1.2.1.length r.2.2])/\pU s=some ((r.1.1,r.1.2.1),r.1.2.2)/\Ws w [b] [aq b (.cells #[st (r.1.2.2)] 229 (0,0)),cf 131 4 bs.cells r.2.1 r.2.2 (r.1.2.1)] [] w')\/(∃t:List UInt8,e = .panicked oT/\pU s=none/\Ws w [b] [aq b (.cells #[st (t)] 229 (0,0))] [] w'):=by
 refine enter Tryz.func67 O 31 O O ?_;refine CE a (aa ?_);refine Al Y O iL λE=>?_;refine ae (aa (ad O (Lf 1 O ?_)));refine dF [_] _ Y O I5 O O _ _ _ _ _ _ ([]) (by simp) (λw a=>IX b (s)  w D a) ?_ ?_
 ·intro t c;refine Ep ?_;refine b6 λw' a=>?_;exact .inr ⟨t,O,(by simp [pU,c]),Wt 1 a⟩
 intro l o;refine I (Yb iL da O O) ?_;refine Al Y O iL λF=>?_;refine LW (λ_ h=>h.e4 131 4) (aO 1 Y O O O jX O O O (ae (Cs (aa (ad O (Lf 2 O ?_))))));refine dF (ι:=Int×List UInt8) (κ:=List UInt8) [_] _ Y O Cd O O (λr=>.int .i64 r.1) (λr=>[aq b (.cells #[st (r.2)] 229 (0,0))]) (λr=>l7 l.2=some r) (λ_=>oT) (λt=>[aq b (.cells #[st (t)] 229 (0,0))]) (λ_=>l7 l.2=none) ([]) (by simp) (λw a=>Cf b (l.2)  w (by have:=sV o; omega) a) ?_ ?_
 ·intro t c;refine Ep (Ep ?_);refine b6 λw' a=>?_;exact .inr ⟨t,O,(by simp [pU,o,c]),Wt 1 a⟩
 intro p u;obtain ⟨R,S⟩:=S2 u
 have G:p.2.length<=9223372036854775807:=by have:=sV o; have:=sU u; omega
 obtain ⟨kV,y⟩:∃kV:Nat,p.1=(kV:Int):=⟨p.1.toNat,by omega⟩;rw [y];refine ad O (ae (Cb ?_));refine av (ι:=List bs×List UInt8×Option Addr×Nat) (λg=>[(10,.int .i64 (g.1.length:Int))]) [(0,_),(2,_),(3,_),(9,_)] (λg=>Ws w [b] [aq b (.cells #[st (g.2.1)] 229 (0,0)),cf 131 4 bs.cells g.2.2.1 g.2.2.2 (g.1),aq F (.cells #[st l.1,.slice g.2.2.1 (g.1).length g.2.2.2] 65 (0,0)),aq E (.cells #[st [],.slice none (([]:List bs)).length 0] 65 (0,0))] []) (λg=>g.1.length<=kV/\g.2.1.length<=9223372036854775807/\r8 kV p.2=(r8 (kV-g.1.length) g.2.1).map λq=>(g.1++q.1,q.2)) (λg=>kV-g.1.length) ([],p.2,none,0) ⟨Nat.zero_le _,G,by simp⟩ (sc O (sc O (sc O (sc O (sc O sn))))) (λ_ h=>h) ?_;intro g ⟨hi,H,z⟩;refine aa (I (b0 O O) (ae (Cs ?_)));refine Cc O (λA=>?_) (λA=>?_)
 ·have T:g.1.length<kV:=by simpa using A
  have v:qR g.2.1=none->pU s=none:=λJ=>by
    obtain ⟨m,B⟩:∃m,kV-g.1.length=m+1:=⟨kV-g.1.length-1,by omega⟩;simp only [pU,o,u,Option.bind_some,y,Int.toNat_natCast,z,B,r8,J,Option.bind_none,Option.map_none]
  refine bf (Cs (Cb (aa (ad O ?_))));refine dF [_] _ Y O Cd O O _ _ _ _ _ _ ([]) (by simp) (λw a=>Cf b (g.2.1)  w H a) ?_ ?_
  ·intro t c;refine Ep (WE.ck (Ep (Ep (WE.ck (Ep ?_)))));refine b6 λw' a=>?_;exact .inr ⟨t,O,v (by simp [qR,c]),Wt 1 a⟩
  intro d j;refine ad O ?_;refine dF (ι:=List UInt8×List UInt8) (κ:=List UInt8) [_] _ Y O I5 O O (λr=>st r.1) (λr=>[aq b (.cells #[st (r.2)] 229 (0,0))]) (λr=>oh d.2=some r) (λ_=>oT) (λt=>[aq b (.cells #[st (t)] 229 (0,0))]) (λ_=>oh d.2=none) ([]) (by simp) (λw a=>IX b (d.2)  w (by have:=sU j; omega) a) ?_ ?_
  ·intro t c;refine Ep (WE.ck (Ep (Ep (WE.ck (Ep ?_)))));refine b6 λw' a=>?_;exact .inr ⟨t,O,v (by simp [qR,j,c]),Wt 1 a⟩
  intro f n;refine I (Yb a_ qD O O) ?_;refine Al Y O a_ λU=>?_;refine aO 0 Y O O O jD O O O (ae (aa (ad O (Lf 1 O ?_))));refine dF (ι:=Int×List UInt8) (κ:=List UInt8) [_] _ Y O I4 O O (λr=>.int .i64 r.1) (λr=>[aq b (.cells #[st (r.2)] 229 (0,0))]) (λr=>lz f.2=some r) (λ_=>oT) (λt=>[aq b (.cells #[st (t)] 229 (0,0))]) (λ_=>lz f.2=none) ([]) (by simp) (λw a=>IY b (f.2)  w (by have:=sU j; have:=sV n; omega) a) ?_ ?_
  ·intro t c;refine Ep (WE.ck (Ep (Ep (WE.ck (Ep ?_)))));refine b6 λw' a=>?_;exact .inr ⟨t,O,v (by simp [qR,j,n,c]),Wt 1 a⟩
  intro i x;refine I (Yf lL O) (aO 1 Y O O O dP O O O (ae (aa (ad O ?_))));refine dF (ι:=Int×List UInt8) (κ:=List UInt8) [_] _ Y O I4 O O (λr=>.int .i64 r.1) (λr=>[aq b (.cells #[st (r.2)] 229 (0,0))]) (λr=>lz i.2=some r) (λ_=>oT) (λt=>[aq b (.cells #[st (t)] 229 (0,0))]) (λ_=>lz i.2=none) ([]) (by simp) (λw a=>IY b (i.2)  w (by have:=sU j; have:=sV n; have:=xa x; omega) a) ?_ ?_
  ·intro t c;refine Ep (WE.ck (Ep (Ep (WE.ck (Ep ?_)))));refine b6 λw' a=>?_;exact .inr ⟨t,O,v (by simp [qR,j,n,x,c]),Wt 1 a⟩
  intro k C;refine I (Yf jC O) (aO 1 Y O O O dP O O O (ae (Cr (I (Yf pH O) (I (Yd 3 O O O rT) (I (b8 1 O O jW O) ?_))))));refine Lb Y O mg O O O O λV=>?_;refine cD 0 (.cells (bs.cells ⟨d.1,i.1,k.1,f.1⟩).toArray 131 (0,0)) O O ?_;refine LA ⟨d.1,i.1,k.1,f.1⟩ 3 0 Y O mg O O O O O O (by omega) (by omega) λK L=>?_;refine I (Yf pH O) (aO 4 Y O O O HH O O O (Ln (Eb (Et (Cr (I (Yi O O O (by omega)) (ad O (Ln ?_))))))))
  have M:qR g.2.1=some (⟨d.1,i.1,k.1,f.1⟩,k.2):=by simp [qR,j,n,x,C]
  rw [show ((g.1.length+1:Nat):Int)=(((g.1++[(⟨d.1,i.1,k.1,f.1⟩:bs)]).length:Nat):Int) by simp]
  exact Ea ((g.1++[⟨d.1,i.1,k.1,f.1⟩],k.2,K,L):List bs×List UInt8×Option Addr×Nat) (by simp; omega) ⟨by simp; omega,by have:=sU j; have:=sV n; have:=xa x; have:=xa C; dsimp only; omega,by
      rw [z];obtain ⟨m,B⟩:∃m,kV-g.1.length=m+1:=⟨kV-g.1.length-1,by omega⟩
      have N:kV-(g.1++[(⟨d.1,i.1,k.1,f.1⟩:bs)]).length=m:=by simp; omega
      dsimp only;rw [B,N];simp [r8,M]
      rfl⟩ (sc rfl (sc rfl (sc rfl (sc rfl (sc rfl sn))))) (λ_ h=>by
    have h:=Ws.out 0 h;have h:=Ws.out 1 h
    exact h)
 have P:g.1.length=kV:=by simp at A; omega
 refine Ce (Ex (Ex (cp (Et (aa (I (b8 2 O O iM O) (aO 3 Y O O O jX O O O (ae (aX ?_)))))))));refine WE.yG 3 O O O iM O λw' a=>?_
 have Q:pU s=some ((l.1,g.1),g.2.1):=by
   simp only [pU,o,u,Option.bind_some,y,Int.toNat_natCast,z,P,Nat.sub_self,r8,Option.map_some,List.append_nil]
 exact .inl ⟨((l.1,g.1,g.2.1),g.2.2),O,Q,Wt 2 a⟩
theorem Tt (a:Nat) (x:Bool) (w:World) (b:Ws w [a] [aq a (.cells #[.bool x] 4 (0,0))] [] w) :
   CallsD Tryz.prog 136 #[.pointer (some ⟨a,0,none⟩)] (.returning) w λe c w'=>c = .returning/\(e = .returned (.tuple #[])/\Ws w [a] [aq a (.cells #[.bool x] 4 (0,0))] [] w'):=by
 refine sh Tryz.func136 O 3 O O O O O (λ_=>rfl) (.inl ⟨O,O,O⟩) ?_;refine LW (W':=Ws w [a] [aq a (.cells #[.bool x] 4 (0,0))] []) (λ_ e=>by subst e; exact b) (I (yQ u1 O) (ae ?_));refine WC.kc O ?_;refine Ck ?_;refine E0 O λw' b=>?_;exact ⟨O,b⟩
theorem Tu (a:Nat) (x:Bool) (w:World) (b:Ws w [a] [aq a (.cells #[.bool x] 4 (0,0))] [] w) :
   CallsD Tryz.prog 136 #[.pointer (some ⟨a,0,none⟩)] (.panicking [⟨.iface 278 (.agg #[]),false,false⟩]) w λe c w'=>c = .panicking [⟨.iface 278 (.agg #[]),true,false⟩]/\(e = .returned (.tuple #[])/\Ws w [a] [aq a (.cells #[.bool false] 4 (0,0))] [] w'):=by
 refine sh Tryz.func136 O 3 O O O O O (λ_=>rfl) (.inr ⟨_,O,O,O⟩) ?_;refine LW (W':=Ws w [a] [aq a (.cells #[.bool x] 4 (0,0))] []) (λ_ e=>by subst e; exact b) (I (C0 u1 O) (ae ?_));refine WC.yv O ?_;refine Cr (aO 0 Y O O O Hv O O O (Ln ?_));refine E0 O λw' b=>?_;exact ⟨O,b⟩
theorem Tv (s:List UInt8) (w:World) (i:s.length<=9223372036854775807) :
   Calls Tryz.prog 66 #[st s,.func (.func 67) #[] #[]] w λe w'=>∃(f:List UInt8×List bs) (ok:Bool) (a:Option Addr) (c:Nat),e = .returned (.tuple #[.agg #[st f.1,.slice a f.2.length c],.bool ok])/\(ok=true->qS s=some f)/\(ok=false->qS s=none)/\Ws w [] [cf 131 4 bs.cells a c (f.2)] [] w':=by
 refine yN Tryz.func66 O 20 O O ?_;refine CE (Vs:=[]) (Ws.init (by simp)) (aa ?_);refine Al Y O iL λm=>?_;refine Al Y O S' λd=>?_;refine ae (aa (I (cn O) ?_));refine WL.defer Y O ?_;refine ae (aa (ad O (I (Yb Ta S_ O O) ?_)));refine WL.box Y O O λj=>?_;refine ai O (ae (aa (ad O (ad O ?_))));refine WL.CY [_] _ Y O Tq O O O _ _ _ _ _ _ ([]) (by simp) (λw b=>Ts j s w i b) ?_ ?_
 ·intro t k;refine Ep ?_;refine WE.front 1 O ?_;refine WE.cr Je (nW [_] _ _ O (λw b=>Tu d _ w b)) (fj O (dI 2 O O iM O) (lQ 0 O O O px)) λw' b=>?_;refine ⟨([],[]),false,none,0,O,by simp,λ_=>by simp [qS,k],?_⟩;have h:=Ws.drop (L:=[_,_,_]) (L':=[]) b;exact h.e4 131 4
 intro r g;refine aO 3 Y O O O jX O O O (ae (Cs ?_));refine WC.tO (m_ [.cell 4 65,.cell 5 4]) [3,2] [(1,true),(2,true),(3,true),(4,true),(5,true),(0,false),(6,false),(7,false)] mixed (by kernel_rfl) (by kernel_rfl) (λ_ _ _ _ _ l h=>q5 (fn:=Tryz.f66) [.cell 4 65,.cell 5 4] O l h) ?_;refine D0 O (cK [3,2]) (Ym O) (D0 O (cK [3,2]) (cy O) (D0 O (cK [3,2]) (Yf vA O) (D0 O (cK [3,2]) (Yd 0 O O O cN) (D0 O (cK [3,2]) (qY O O) ?_))));refine De O (cK [3,2]) ?_;refine I (b8 3 O O iM O) (Ln (Ed ?_));refine De O (cK [3,2]) ?_;refine aO 3 Y O O O jX O O O (Ln (Ed ?_));refine De O (cK [3,2]) ?_;refine aO 2 Y O O O Hv O O O (Ln (Ed ?_));refine WD.nil (cK [3,2]) ?_;refine Et (aX ?_);refine WE.front 2 O ?_;refine WE.yO Je (nW [_] _ _ O (λw b=>Tt d _ w b)) (fj O (dI 3 O O iM O) (lQ 0 O O O px)) λw' b=>?_;refine ⟨(r.1.1,r.1.2.1),r.1.2.2==[],r.2.1,r.2.2,O,λh=>?_,λh=>?_,?_⟩
 · simp only [beq_iff_eq] at h
   simp [qS,g,h]
 · simp only [beq_eq_false_iff_ne] at h
   unfold qS;rw [g];obtain ⟨⟨nm,n,rest⟩,q⟩:=r
   cases rest with
   | nil=>exact absurd rfl h
   | cons _ _=>rfl
 · exact Ws.o1 (L:=[_]) (Ws.out 0 (Ws.out 0 b))
theorem Tw (s:List UInt8) (w:World) :
   Calls Tryz.prog 23 #[st s] w λe w'=>∃r:SP,e = .returned (.tuple #[.agg #[st (gI s).1.1,.slice r.1 (gI s).1.2.length r.2],.int .i64 (gI s).2])/\Ext w w'/\Sl gV 4 (nv w w') r.1 r.2 (gI s).1.2:=by
 refine enter Tryz.func23 O 24 O O ?_;refine CE (Vs:=[]) (Ws.init (by simp)) (aa ?_);refine Al Y O iL λt=>?_;refine ai O (ae (Cs (aa (ad O (I (mX dO O) (I (dc O O) (ae ?_)))))));refine Cc O (λk=>?_) (λk=>?_)
 ·have j:32768<s.length:=by simp at k; omega
  have d:gI s=(([],[]),2):=by rw [gI,if_pos j]
  refine aa (I (Yb iL da O O) (aO 0 Y O O O jX O O O (ai O (ae (aX (Er ?_))))));refine WE.ee (fj O (dI 0 O O iM O) (gz O)) λw' b=>?_;rw [d];exact ⟨(none,0),O,b.fr,Sl.nil⟩
 have j:¬32768<s.length:=by simp at k; omega
 refine bf (aa (ad O ?_));refine Lw (ι:=(List UInt8×List bs)×Bool×Option Addr×Nat) [] _ Y O Tr O O (λr=>.tuple #[.agg #[st r.1.1,.slice r.2.2.1 r.1.2.length r.2.2.2],.bool r.2.1]) (λr=>[cf 131 4 bs.cells r.2.2.1 r.2.2.2 (r.1.2)]) (λr=>(r.2.1=true->qS s=some r.1)/\(r.2.1=false->qS s=none)) [] (by simp) (λw b=>(Tv s w (by omega)).mono λe w' ⟨f,ok,a,c,n,o,p,q⟩=>⟨(f,ok,a,c),n,⟨o,p⟩,q⟩) ?_;intro r l;refine ad O (I (Yx O O) (I (Yx O O) ?_));refine Al Y O iL λu=>?_;refine aO 0 Y O O O jX O O O (ai O (ae (Cs (aa (ad O (I (az O) (ad O ?_)))))));apply Lo 3 O O O O Y O O O O O
 ·intro v;refine Vg (b8 0 O O iM O) (Lp (.g O O O) O B1 O (λw b=>BE (hv w) _ _ _ _ w (iR w) (b.KY 1 O bs.aj (λ_ _ _ _ h=>h))) (Vg (e8 O O) ?_));exact Gt 3 O O O
 refine ae ?_;refine Cc O (λi=>?_) (λi=>?_)
 ·have d:gI s=(([],[]),1):=by
    unfold gI;rw [if_neg j]
    cases m:r.2.1 with
    | false=>rw [l.2 m]
    | true=>
      rw [l.1 m]
      have:¬hG r.1.1 r.1.2=0:=by simpa [m] using i
      simp [this]
  refine aa (I (Yb iL da O O) (aO 2 Y O O O jX O O O (ai O (ae (aX (Er ?_))))));refine WE.ee (fj O (dI 2 O O iM O) (gz O)) λw' b=>?_;rw [d];exact ⟨(none,0),O,b.fr,Sl.nil⟩
 have d:gI s=(r.1,0):=by
   unfold gI;rw [if_neg j];simp at i;rw [l.1 i.1];simp [i.2]
 refine bf (aa (I (b8 0 O O iM O) (aO 2 Y O O O jX O O O (ai O (ae (aX ?_))))));refine WE.ee (fj O (dI 2 O O iM O) (gz O)) λw' b=>?_;rw [d];exact ⟨r.2.2,O,b.fr,b.jg 1 O bs.aj (λ_ _ _ _ h=>h)⟩
def qT (ke ks:Nat) (a:View) (b o:Nat) (m:aZ):Prop:=∃r:ic,bI a b o (fu m r)/\iB ke ks a r m
structure Jf where
 i:Nat
 M:List (c8 (List UInt8))
 c:Nat
theorem MS {l:List aZ} (h:4<l.length):ho l=2:=by rw [ho,if_pos h]
theorem Ty {l:List aZ} {i:Nat} {m:aZ} (a:¬4<l.length) (hi:l[i]? = some m) (b:∀x ∈ l.take i,fH x=0) (h:¬fH m=0):ho l=fH m:=by
 rw [ho,if_neg a,sB fH hi (l1.2 b) h,bV h]
theorem Jg {l:List aZ} (a:¬4<l.length) (b:∀x ∈ l,fH x=0):ho l=if et (fL l)=true then 6 else if ud l=true then 0 else 5:=by
 rw [ho,if_neg a,l1.2 b,jK]
theorem yi {α:Type} {l:List α} {i:Nat} {x:α} {p:α->Prop} (b:l[i]? = some x) (h:∀y ∈ l.take i,p y) (c:p x):∀y ∈ l.take (i+1),p y:=by
 intro y a;rw [a' b] at a
 rcases List.mem_append.1 a with a | a
 · exact h y a
 · rw [List.mem_singleton] at a; subst a; exact c
theorem Tz {l:List aZ} {m:aZ} {s:List UInt8} (a:m ∈ l) (b:s ∈ m.ak) (h:(hn l s).isSome=false):ud l=false:=by
 unfold ud;rw [List.all_eq_false];refine ⟨m,a,?_⟩;rw [Bool.not_eq_true,List.all_eq_false];exact ⟨s,b,by simp [h]⟩
theorem TA {l:List aZ} (h:∀m ∈ l,∀s ∈ m.ak,(hn l s).isSome=true):ud l=true:=List.all_eq_true.2 λm a=>List.all_eq_true.2 λs b=>h m a s b
theorem mV:eO Tryz.prog 80=some 5:=by kernel_rfl
theorem TB:aK Tryz.prog 198=some [(0,1),(1,1)]:=by kernel_rfl
theorem TC:zeroOf Tryz.prog 198=some (.agg #[.slice none 0 0,.map none]):=by kernel_rfl
theorem yj:an Tryz.prog 198 1=some 1:=by kernel_rfl
theorem TD (j:View) (ke ks:Nat) (a:Option Addr) (c:Nat) (l:List aZ) (w:World) (Z:Le j w) (o:Sl (qT ke ks) 5 j a c l) (U:∀m ∈ l,wM m<=109951162777) :
   Calls Tryz.prog 105 #[.slice a l.length c] w λe w'=>∃r:Nat×Nat,e = .returned (.tuple #[.pointer (if ho l=0 then some ⟨r.1,0,none⟩ else none),.int .i64 (ho l)])/\Ext w w'/\(ho l=0->vc (nv w w') r.1 1=some (.map (some r.2))/\(nv w w') r.2=some (b4 st (fR (fL l) 0) l.length)):=by
 have aF:=o.cap;have aG:=o.max;refine enter Tryz.func105 O 76 O O ?_;refine CE (Vs:=[j]) (Ws.init (by simp [Z])) (aa (ai O (ai O (ae (Cs (aa (ad O (I (Yn mV O) (I (dc O O) ?_)))))))));refine ae ?_;refine Cc O (λA=>?_) (λA=>?_)
 ·have t:4<l.length:=by simp at A; omega
  refine aa (ai O (ai O (ae (aX (Er ?_)))));refine WE.gi O O O λw' b=>?_;rw [MS t];exact ⟨(0,0),O,b.fr,λh=>by cases h⟩
 have t:¬4<l.length:=by simp at A; omega
 refine bf (aa (ad O ?_));refine WL.lh st Y O λB=>?_;refine I (Yb TC TB O O) ?_;refine WL.box Y O O λV=>?_;refine ai O (ae (Cs (aa (ad O (I (Yn mV O) (ad O (ae (Cb ?_))))))));refine av (ι:=Jf) (λg=>[(23,.int .i64 (g.i:Int))]) [(0,_),(4,_),(21,_),(22,_)] (λg=>Ws w [] [aq V (.cells #[.slice a l.length c,.map (some B)] 198 (0,0)),aq B (b4 st g.M g.c)] [j]) (λg=>g.i<=l.length/\(∀m ∈ l.take g.i,fH m=0)/\zP (fL l) g.i g.M g.c) (λg=>l.length-g.i) ⟨0,[],0⟩ ⟨Nat.zero_le _,by simp,.inl ⟨by simp,O,O⟩⟩ (sc O (sc O (sc O (sc O (sc O sn))))) (λ_ h=>h) ?_;intro g ⟨hi,u,C⟩;refine aa (I (b0 O O) (ae (Cs ?_)));refine Cc O (λD=>?_) (λD=>?_)
 ·have v:g.i<l.length:=by simpa using D
  obtain ⟨m,x⟩:∃q,l[g.i]? = some q:=⟨_,List.getElem?_eq_getElem v⟩;obtain ⟨aH,aI,ab,ac⟩:=o.bJ g.i m x;obtain ⟨af,ag,ah⟩:=ac;have aj:=List.mem_of_getElem? x;have aJ:=U m aj;have al:=sF x;refine bf (Cs (Cb (aa (ad O (I (Yo mV O O ab (by omega)) (I (dj 0 hQ O O O (ag)) ?_))))));refine Al Y O lJ λaK=>?_;refine ai O (aO 0 Y O O O mf O O O (ae (Cs (aa (I (b8 0 O O hQ O) (Lp Y O Bv O (λw b=>Bd j ke ks af m w (b.vs _ (by simp)) ah (by omega)) (ai O (ae (aa (ad O ?_))))))))));refine I (e8 O O) (ae ?_);refine Cc O (λE=>?_) (λE=>?_)
  ·have y:¬fH m=0:=by simpa using E
   refine aa (ad O (ai O (ai O (ae (aX (Er (cj (Er (Er (cj (Er ?_)))))))))));refine WE.gi O O O λw' b=>?_;rw [Ty t x u y];exact ⟨(0,0),by rw [if_neg y],b.fr,λh=>absurd h y⟩
  have y:fH m=0:=by simpa using E
  refine bf ?_;refine WC.kg 2 [(0,true),(1,true),(2,true),(3,true),(4,true),(5,true),(6,true),(7,false)] mixed (by kernel_rfl) (λ_ _ _ d _ h=>by cases d<;>exact h) ?_;refine D0 O (Wp 2) (Ym O) (D0 O (Wp 2) (cy O) (D0 O (Wp 2) (Yf yj O) (D0 O (Wp 2) (Yd 1 O O O pK) (D0 O (Wp 2) (Yf cR O) (D0 O (Wp 2) (Yd 0 O O O cN) (D0 O (Wp 2) (Ym O) ?_))))));refine De O (Wp 2) ?_;refine WL.mu 2 gj Y gg dO O O O O ?_;refine Ln (Ed ?_);refine WD.nil (Wp 2) ?_;refine Eb (Et (Cr (I (Yi O O O (by omega)) (ad O (Ln ?_)))));exact Ea (⟨g.i+1,dZ m.nm (.int .i64 (g.i:Int)) g.M g.c,gA m.nm g.M g.c⟩:Jf) (by show _-(g.i+1)<_; omega) ⟨(by show g.i+1<=_; omega),yi x u y,Mb C al⟩ (sc O (sc O (sc O (sc O (sc O sn))))) (λ_ h=>Wd 1 h)
 have z:g.i=l.length:=by simp at D; omega
 rw [z,List.take_length] at u;refine Ce (Ex (Ex (cp (Et (Cs (aa (ad O (I (cy O) (I (Yf yj O) (I (Yd 0 O O O pK) (I (v_ 1 gg O O) (ad O ?_))))))))))));refine I (Yn mV O) (I (b0 O O) (ae ?_));refine Cc O (λF=>?_) (λF=>?_)
 ·have G:g.M.length<l.length:=by simp at F; omega
  have H:et (fL l)=true:=by
    rcases C with ⟨f,p,am⟩ | ⟨f,p⟩
    · rw [p,zM] at G; simp [qd] at G; omega
    · rw [z,<-qd l,List.take_length] at f
      rw [hF] at f; simpa using f
  refine aa (ai O (ai O (ae (aX (Er ?_)))));refine WE.gi O O O λw' b=>?_;rw [Jg t u,H];exact ⟨(0,0),O,b.fr,λh=>by cases h⟩
 have G:¬g.M.length<l.length:=by simp at F; omega
 obtain ⟨an,ao,ap⟩:(fL l).Nodup/\g.M=fR (fL l) 0/\g.c=l.length:=by
   rcases C with ⟨f,p,am⟩ | ⟨f,p⟩
   · rw [z,<-qd l,List.take_length] at f
     rw [z,<-qd l,List.take_length] at p;exact ⟨f,p,by omega⟩
   · omega
 have H:=hF.1 an;rw [ao,ap];have J:=Jg t u;rw [H] at J;refine bf (Cs (aa (ad O (I (Yn mV O) (ad O (ae (Cb ?_)))))));refine CW (ι:=Nat) (λi=>[(51,.int .i64 (i:Int))]) [(4,_),(49,_),(50,_)] (λi=>i<=l.length/\∀m ∈ l.take i,∀s ∈ m.ak,(hn l s).isSome=true) (λi=>l.length-i) 0 ⟨Nat.zero_le _,by simp⟩ (sc O (sc O (sc O (sc O sn)))) ?_;intro i ⟨aL,W⟩;refine aa (I (b0 O O) (ae (Cs ?_)));refine Cc O (λK=>?_) (λK=>?_)
 ·have v:i<l.length:=by simpa using K
  obtain ⟨n,L⟩:∃q,l[i]? = some q:=⟨_,List.getElem?_eq_getElem v⟩;obtain ⟨aM,aN,ar,au⟩:=o.bJ i n L;obtain ⟨aP,aw,N⟩:=au;have X:=List.mem_of_getElem? L;have aQ:=U n X;have aR:=N.ak.cap;have aS:=N.ak.max;refine bf (Cs (Cb (aa (I (Yo mV O O ar (by omega)) (I (dj 0 hQ O O O (aw)) ?_)))));refine Al Y O lJ λaT=>?_;refine aO 0 Y O O O mf O O O (ae (aa (I (Yf nH O) (I (Yd 0 O O O eU) (I (Yn di O) (ad O (ae (Cb ?_))))))));refine CW (ι:=Nat) (λk=>[(58,.int .i64 (k:Int))]) [(4,_),(49,_),(50,_),(51,_),(56,_),(57,_)] (λk=>k<=n.ak.length/\∀s ∈ n.ak.take k,(hn l s).isSome=true) (λk=>n.ak.length-k) 0 ⟨Nat.zero_le _,by simp⟩ (sc O (sc O (sc O (sc O (sc O (sc O (sc O sn))))))) ?_;intro k ⟨aU,P⟩;refine aa (I (b0 O O) (ae (Cs ?_)));refine Cc O (λQ=>?_) (λQ=>?_)
  ·have v:k<n.ak.length:=by simpa using Q
   obtain ⟨s,R⟩:∃q,n.ak[k]? = some q:=⟨_,List.getElem?_eq_getElem v⟩;obtain ⟨ax,pos,ay,S⟩:=N.ak.bJ k s R;have S:bI j ax (pos+k*1) (dD s):=S;refine bf (Cs (Cb (aa (I (Yo di O O ay (by omega)) (I (b9 0 cN O O (S 0 _ O)) (ai O (ae (aa (ad O (I (cy O) (I (Yf yj O) ?_)))))))))));refine I (Yd 1 O O O pK) (ad O (I (wj 2 gj gg dO je O O O) ?_));rw [(ug _ _).1,(ug _ _).2];refine ad O (I (Yx O O) (I (Yx O O) (ai O (ai O (ae (aa (ad O (I (az O) ?_))))))));refine ae ?_;refine Cc O (λT=>?_) (λT=>?_)
   ·have aA:(hn l s).isSome=false:=by simpa [hn] using T
    refine aa (ai O (ai O (ae (aX (cj (Er (Er (cj (cj (Er (Er (cj (Er ?_)))))))))))));refine WE.gi O O O λw' b=>?_;rw [J,Tz X (List.mem_of_getElem? R) aA];exact ⟨(0,0),O,b.fr,λh=>by cases h⟩
   have aB:(hn l s).isSome=true:=by simpa [hn] using T
   refine Ck (Eb (Et (Cr (I (Yi O O O (by omega)) (ad O (Ln ?_))))));exact Ea (k+1) (by omega) ⟨by omega,yi R P aB⟩ (sc O (sc O (sc O (sc O (sc O (sc O (sc O sn))))))) (λ_ h=>h)
  have aC:k=n.ak.length:=by simp at Q; omega
  rw [aC,List.take_length] at P;refine Ce (Ex (Ex (cp (Eb (Et (Cr (I (Yi O O O (by omega)) (ad O (Ln ?_)))))))));exact Ea (i+1) (by omega) ⟨by omega,yi L W P⟩ (sc O (sc O (sc O (sc O sn)))) (λ_ h=>Wd 1 h)
 have aV:¬i<l.length:=by simpa using K
 have aD:∀m ∈ l,∀s ∈ m.ak,(hn l s).isSome=true:=λm o=>W m (by rw [List.take_of_length_le (by omega)]; exact o)
 have aE:ho l=0:=by rw [J,TA aD]; rfl
 refine Ce (Ex (Ex (cp (Et (aa (ad O (ai O (ai O (ae (aX ?_))))))))));refine WE.gi O O O λw' b=>?_;rw [aE];exact ⟨(V,B),O,b.fr,λ_=>⟨b.yH 0 O O,b.DN 1 O⟩⟩
def hy (i:Nat):List Value:=[.int .i64 (i:Int)]
theorem qU (i:Nat):(hy i).length=1:=rfl
def Cm (a:View) (b o:Nat) (i:Nat):Prop:=bI a b o (hy i)
def Cn (x:Nat):Int:=if x=0 then 0 else if x=1 then 1 else if x<=3 then 2 else 3
def gJ (d:List Nat) (j:Nat):Nat:=d.getD j 0
theorem Jh {d:List Nat} {j:Nat} (h:j<d.length):d[j]? = some (gJ d j):=by simp [gJ,List.getD,List.getElem?_eq_getElem h]
def r9 (l:List aZ) (d:List Nat) (a:List Tx):Int:=if a.all (i' l d)=true then -1 else ((a.findIdx λs=>!i' l d s:Nat):Int)
theorem TE {l:List aZ} {d:List Nat} {a:List Tx} (h:∀s ∈ a,i' l d s=true):r9 l d a = -1:=by rw [r9,if_pos (List.all_eq_true.2 h)]
theorem TF {l:List aZ} {d:List Nat} {a:List Tx} {i:Nat} {s:Tx} (hi:a[i]? = some s) (c:∀s ∈ a.take i,i' l d s=true) (h:i' l d s=false):r9 l d a=(i:Int):=by
 have e:=(List.getElem?_eq_some_iff.1 hi).1;have f:=(List.getElem?_eq_some_iff.1 hi).2;rw [r9,if_neg (λb=>by rw [List.all_eq_true] at b; rw [b s (List.mem_of_getElem? hi)] at h; cases h)]
 congr 1
 rw [List.findIdx_eq e];refine ⟨by rw [f,h]; rfl,λj g=>?_⟩;rw [c _ (by rw [List.mem_take_iff_getElem]; exact ⟨j,by omega,rfl⟩)]
 rfl
theorem TG (l:List aZ) (d:List Nat) (a:List Tx):decide (r9 l d a≥0) = !a.all (i' l d):=by
 unfold r9
 by_cases h:a.all (i' l d)=true
 · rw [if_pos h,h]; rfl
 · rw [if_neg h,Bool.eq_false_iff.2 h]; simp
structure yk where
 i:Nat
 d:List Nat
theorem TH {l:List aZ} (m:(fL l).Nodup) {d:List Nat} (g:∀x ∈ d,x<l.length) (n:d.Nodup) {i j a b:Nat} (c:d[i]? = some a) (k:d[j]? = some b) (o:i≠j) (h:¬np (aM l a) (aM l b)<0):nn l b a:=by
 have p:aM l a≠aM l b:=λe=>by
   have:=ia m (g a (List.mem_of_getElem? c)) (g b (List.mem_of_getElem? k)) e;subst this;exact o ((List.getElem?_inj (List.getElem?_eq_some_iff.1 c).1 n).1 (c.trans k.symm))
 rcases D9 _ _ p with f | f
 · exact absurd (Ec.2 f) h
 · exact f
theorem TI {R:Nat->Nat->Prop} {d:List Nat} {i j:Nat} (h:lu R d i) (g:d.length<=i):lu R d j:=λx y a b e k f c=>h x y a b e (by have:=(List.getElem?_eq_some_iff.1 c).1; omega) f c
theorem TJ {R:Nat->Nat->Prop} {d:List Nat}:lu R d 1:=λx y a b c e=>by omega
theorem Ji:Enters Tryz.prog 160:=enters_of Tryz.func160 (by kernel_rfl) rfl
theorem TK:Tryz.prog.underlying 305=some (.int .u64):=by kernel_rfl
theorem TL:Enters Tryz.prog 207:=enters_of Tryz.func207 (by kernel_rfl) rfl
theorem tz:eG Tryz.prog 80=true:=by kernel_rfl
theorem TM:Enters Tryz.prog 108:=enters_of Tryz.func108 (by kernel_rfl) rfl
theorem TN:Enters Tryz.prog 107:=enters_of Tryz.func107 (by kernel_rfl) rfl
theorem Jj (s:Tx) (w:World) :
   Calls Tryz.prog 160 #[st s] w λe w'=>e = .returned (.bool false)/\Ext w w':=by
 refine enter Tryz.func160 O 6 O O ?_;refine CE (Vs:=[]) (Ws.init (by simp)) (aa (ai O (ae (aa (ad O (ad O (I (zg O O O) (ai O ?_))))))));refine ae (aX ?_);refine R1 O O λw' a=>?_;exact ⟨O,a.fr⟩
theorem TO (s t:Tx) (w:World) :
   Calls Tryz.prog 108 #[st s,st t] w λe w'=>e = .returned (.int .i64 (np s t))/\Ext w w':=by
 refine enter Tryz.func108 O 20 O O ?_;refine CE (Vs:=[]) (Ws.init (by simp)) (aa (ai O (ae (aa (ad O (Lp Y O Ji O (λw a=>Jj _ w) (ai O (ae (aa ?_)))))))));refine ad O (Lp Y O Ji O (λw a=>Jj _ w) (ai O (ae (Cs (aa (ad O (ae ?_)))))));refine WC.kc O ?_;refine bf (Cs (aa (ad O (ae ?_))));refine WC.kc O ?_;refine bf (Cs (aa (ad O (ad O (I (OC O O) (ae ?_))))));refine Cc O (λb=>?_) (λb=>?_)
 ·refine aa (ai O (ae (aX (Er ?_))));refine R1 O O λw' a=>?_;have h:h0 s t=true:=b;exact ⟨by rw [np,if_pos h],a.fr⟩
 refine bf (Cs (aa (ad O (ad O (I (OD O O) (ae ?_))))));refine Cc O (λc=>?_) (λc=>?_)
 ·refine aa (ai O (ae (aX (Er ?_))));refine R1 O O λw' a=>?_
  have h:¬h0 s t=true:=by rw [Bool.not_eq_true]; exact b
  have d:(!(h0 s t||s==t))=true:=c;exact ⟨by rw [np,if_neg h,if_pos d],a.fr⟩
 refine bf (aa (ai O (ae (aX ?_))));refine R1 O O λw' a=>?_
 have h:¬h0 s t=true:=by rw [Bool.not_eq_true]; exact b
 have d:¬(!(h0 s t||s==t))=true:=by rw [Bool.not_eq_true]; exact c
 exact ⟨by rw [np,if_neg h,if_neg d],a.fr⟩
theorem TP (x:Nat) (w:World) (g:x<=4) :
   Calls Tryz.prog 207 #[.int .u64 (x:Int)] w λe w'=>e = .returned (.int .i64 (Cn x))/\Ext w w':=by
 have d:IntKind.u8.wrap (x:Int)=(x:Int):=by rcases (show x=0\/x=1\/x=2\/x=3\/x=4 by omega) with rfl | rfl | rfl | rfl | rfl<;>rfl
 refine enter Tryz.func207 O 25 O O ?_;refine CE (Vs:=[]) (Ws.init (by simp)) (aa (ai O (ae (Cs (aa (ad O (I (aJ O O) (ae ?_))))))));refine Cc O (λa=>?_) (λa=>?_)
 ·exfalso
  simp at a;omega
 refine bf (Cs (aa (ad O (I (aJ O O) (ae ?_)))));refine Cc O (λb=>?_) (λb=>?_)
 ·exfalso
  simp at b;omega
 refine bf (Cs (aa (ad O (I (aJ O O) (ae ?_)))));refine Cc O (λc=>?_) (λc=>?_)
 ·exfalso
  simp at c;omega
 refine bf (aa (ad O (ad O (I (de TK s0 O) ?_))));rw [d];refine I (qZ dO rfl rfl (show _=some (UInt8.ofNat (Cn x).toNat) by rcases (show x=0\/x=1\/x=2\/x=3\/x=4 by omega) with rfl | rfl | rfl | rfl | rfl<;>rfl)) (I (de s0 gZ rfl) (I (vM rfl rfl) (I (Ya rfl) (ae (aX ?_)))));refine R1 O O λw' f=>?_;exact ⟨by rcases (show x=0\/x=1\/x=2\/x=3\/x=4 by omega) with rfl | rfl | rfl | rfl | rfl<;>rfl,f.fr⟩
theorem TQ (x:Nat) (w:World) (b:x<=4) :
   Calls Tryz.prog 159 #[.int .u64 (x:Int)] w λe w'=>e = .returned (.int .i64 (Cn x))/\Ext w w':=by
 refine enter Tryz.func159 O 8 O O ?_;refine CE (Vs:=[]) (Ws.init (by simp)) (aa (ai O (ae (Cs ?_))));refine WC.kc O ?_;refine bf (aa (ad O (Lp Y O TL O (λw a=>TP x w b) (ai O (ae (aX ?_))))));refine R1 O O λw' a=>?_;exact ⟨O,a.fr⟩
theorem TR (a b:View) (ke ks c:Nat) (f:Option Addr) (g:Nat) (l:List aZ) (k:vc a c 0=some (.slice f l.length g)) (n:Sl (qT ke ks) 5 b f g l) (i j:Nat) (w:World) (s:Le a w) (t:Le b w) (hi:i<l.length) (o:j<l.length) :
   Calls Tryz.prog 107 #[.int .i64 (i:Int),.int .i64 (j:Int),.pointer (some ⟨c,0,none⟩)] w λe w'=>e = .returned (.int .i64 (np (aM l i) (aM l j)))/\Ext w w':=by
 obtain ⟨u,p⟩:∃m,l[i]? = some m:=⟨_,List.getElem?_eq_getElem hi⟩;obtain ⟨D,E,v,F,x,G⟩:=n.bJ i u p;have y:=n6 p;obtain ⟨z,q⟩:∃m,l[j]? = some m:=⟨_,List.getElem?_eq_getElem o⟩;obtain ⟨H,I,A,J,B,K⟩:=n.bJ j z q;have C:=n6 q;refine enter Tryz.func107 O 17 O O ?_;refine CE (Vs:=[a,b]) (Ws.init (by simp [s,t])) (aa (ai O (ae (Cs ?_))));refine WC.ld [(0,true),(1,true),(2,true),(3,true),(4,true),(5,true),(6,true),(7,true),(8,true),(9,true),(10,false),(11,true)] mixed (by kernel_rfl) (λ_ _ _ d _ h=>by cases d<;>exact h) ?_;refine D0 O (λ_ h=>h) (b9 0 tz O O (k)) (D0 O (λ_ h=>h) (Ym O) (D0 O (λ_ h=>h) (Yo mV O O v hi) (D0 O (λ_ h=>h) (Yf cR O) (D0 O (λ_ h=>h) (b9 1 cN O O (x 0 _ O)) (D0 O (λ_ h=>h) (b9 0 tz O O (k)) (D0 O (λ_ h=>h) (Ym O) (D0 O (λ_ h=>h) (Yo mV O O A o) ?_)))))));refine D0 O (λ_ h=>h) (Yf cR O) (D0 O (λ_ h=>h) (b9 1 cN O O (B 0 _ O)) ?_);refine De O (λ_ h=>h) ?_;refine Lp Y O TM O (λw r=>TO _ _ w) (Ln (Ed (D0 O (λ_ h=>h) (Ya O) ?_)));refine WD.nil (λ_ h=>h) ?_;refine Et (aX ?_);refine R1 O O λw' r=>?_;exact ⟨by rw [y,C],r.fr⟩
theorem TS (o p:View) (ke ks u:Nat) (v:Option Addr) (z:Nat) (l:List aZ) (A:vc o u 0=some (.slice v l.length z)) (F:Sl (qT ke ks) 5 p v z l) (a:Option Addr) (c:Nat) (d0:List Nat) (G:(fL l).Nodup) (H:∀x ∈ d0,x<l.length) (J:d0.Nodup) (ac:d0.length<=4) (w:World) (r:Ws w (List.flatMap aS.ids [cf 3 1 hy a c d0]) [cf 3 1 hy a c d0] [o,p] w) :
   Calls Tryz.prog 198 #[.slice a d0.length c,.int .i64 0,.int .i64 (d0.length:Int),.func (.func 107) #[] #[.pointer (some ⟨u,0,none⟩)]] w λe w'=>∃d:List Nat,e = .returned (.tuple #[])/\(d.Perm d0/\lu (nn l) d d.length)/\Ws w (List.flatMap aS.ids [cf 3 1 hy a c d0]) [cf 3 1 hy a c d] [o,p] w':=by
 refine enter Tryz.func198 O 53 O O ?_;refine CE r (aa (ad O (I (vY (a:=0) (b:=1) O O O O (by omega)) (ai O (ae (Cb ?_))))));refine av (ι:=yk) (λg=>[(8,.int .i64 (g.i:Int))]) [(0,_),(1,_),(2,_),(3,_)] (λg=>Ws w (List.flatMap aS.ids [cf 3 1 hy a c d0]) [cf 3 1 hy a c g.d] [o,p]) (λg=>g.d.Perm d0/\lu (nn l) g.d g.i) (λg=>d0.length-g.i) ⟨1,d0⟩ ⟨List.Perm.refl _,TJ⟩ (sc O (sc O (sc O (sc O (sc O sn))))) (λ_ h=>h) ?_;intro g ⟨t,E⟩;refine Cs (aa (ad O (ad O (I (b0 O O) (ae ?_)))));refine Cc O (λB=>?_) (λB=>?_)
 ·have K:g.i<d0.length:=by simpa using B
  have L:=t.length_eq;refine bf (Cs (Cb (aa (ad O (ai O (ae (Cb ?_)))))));refine av (ι:=yk) (λq=>[(9,.int .i64 (q.i:Int))]) [(0,_),(1,_),(2,_),(3,_),(8,_)] (λq=>Ws w (List.flatMap aS.ids [cf 3 1 hy a c d0]) [cf 3 1 hy a c q.d] [o,p]) (λq=>rp (nn l) d0 q.d g.i q.i) (λq=>q.i) ⟨g.i,g.d⟩ (Mc t (by rw [L]; exact K) E) (sc O (sc O (sc O (sc O (sc O (sc O sn)))))) (λ_ h=>h) ?_;intro q k;refine Cs (Cs ?_);have af:q.d.length=d0.length:=k.perm.length_eq;have ag:=k.ji;have C:∀x ∈ q.d,x<l.length:=λx M=>H x (k.perm.subset M);have N:q.d.Nodup:=k.perm.nodup_iff.2 J;have m:=Jh (d:=q.d) (j:=q.i) (by omega);have n:=Jh (d:=q.d) (j:=q.i-1) (by omega);refine WC.ek 0 O (by omega) λah f aj ak=>?_;refine WC.ld [(0,true),(1,true),(2,true),(3,true),(4,true),(5,true),(6,true),(7,true),(8,true),(9,true),(10,true),(11,true),(12,true),(13,true),(14,false),(15,true),(16,true)] mixed (by kernel_rfl) (λ_ _ _ d _ h=>by cases d<;>exact h) ?_;refine D0 O (λ_ h=>h) (Ym O) (D0 O (λ_ h=>h) (Ym O) (D0 O (λ_ h=>h) (dc O O) (D0 O (λ_ h=>h) (Ym O) ?_)));apply WD.and 12 (x:=decide (np (aM l (gJ q.d q.i)) (aM l (gJ q.d (q.i-1)))<0)) O O O O O Y O (λ_ h=>h) O O O O
  ·intro P
   have Q:0<q.i:=by simpa using P
   refine Dq O (.g O O O) O (λ_ h=>h) (Ym O) (Dq O (.g O O O) O (λ_ h=>h) (Ym O) (Dq O (.g O O O) O (λ_ h=>h) (Ym O) (Dq O (.g O O O) O (λ_ h=>h) (Yo hR O O f (by omega)) (Dq O (.g O O O) O (λ_ h=>h) (p7 (y:=(gJ q.d q.i)) 0 q.i 0 O O f O qU m O aT) (Dq O (.g O O O) O (λ_ h=>h) (Ym O) (Dq O (.g O O O) O (λ_ h=>h) (Ym O) (Dq O (.g O O O) O (λ_ h=>h) (nU ((q.i-1:Nat):Int) O O (by omega) (by omega)) ?_)))))));refine Dq O (.g O O O) O (λ_ h=>h) (Yo hR O O f (by omega)) (Dq O (.g O O O) O (λ_ h=>h) (p7 (y:=(gJ q.d (q.i-1))) 0 (q.i-1) 0 O O f O qU n O aT) ?_);refine De O (λ_ h=>h) ?_;refine WL.sa (.g O O O) O TN O O (λw r=>TR o p ke ks u v z l A F (gJ q.d q.i) (gJ q.d (q.i-1)) w (r.vs _ (by simp)) (r.vs _ (by simp)) (C _ (List.mem_of_getElem? m)) (C _ (List.mem_of_getElem? n))) ?_;refine Ln (Ed (Dq O (.g O O O) O (λ_ h=>h) (b0 O O) ?_));exact Gi 12 (λ_ h=>h) O O O
  refine WD.nil (λ_ h=>h) ?_;refine Et ?_;refine Cc O (λD=>?_) (λD=>?_)
  ·obtain ⟨Q,S⟩:0<q.i/\np (aM l (gJ q.d q.i)) (aM l (gJ q.d (q.i-1)))<0:=by simpa using D
   have T:(q.d.set q.i (gJ q.d (q.i-1)))[q.i-1]? = some (gJ q.d (q.i-1)):=by rw [List.getElem?_set_ne (by omega)]; exact n
   have s:q.i-1+1=q.i:=by omega
   have U:rp (nn l) d0 ((q.d.set q.i (gJ q.d (q.i-1))).set (q.i-1) (gJ q.d q.i)) g.i (q.i-1):=by
     have h:=Me (j:=q.i-1) (a:=(gJ q.d q.i)) (b:=(gJ q.d (q.i-1))) (by rw [s]; exact k) (by rw [s]; exact m) n (Ec.1 S);rw [s] at h; exact h
   refine bf (Cs (Cb ?_));refine CU (λ_=>true) [] [15,16,17] (.q false 0 (.q false 1 (.q false 2 (.q false 3 (.q false 4 (.q false 5 (.q false 6 (.q false 7 (.q false 8 (.q true 9 (.q false 10 (.q false 11 (.q false 12 (.q true 13 (.q false 14 .nil))))))))))))))) mixed (by kernel_rfl) (λ_ _ _ d _ _ h=>by cases d<;>exact h) ?_;refine U0 O (λ_ h=>h) (Ym O) (U0 O (λ_ h=>h) (Ym O) (U0 O (λ_ h=>h) (Ym O) (U0 O (λ_ h=>h) (Ym O) (U0 O (λ_ h=>h) (nU ((q.i-1:Nat):Int) O O (by omega) (by omega)) (U0 O (λ_ h=>h) (Ym O) (U0 O (λ_ h=>h) (Ym O) (U0 O (λ_ h=>h) (nU ((q.i-1:Nat):Int) O O (by omega) (by omega)) ?_)))))));refine U0 O (λ_ h=>h) (Yo hR O O f (by omega)) (U0 O (λ_ h=>h) (p7 (y:=(gJ q.d (q.i-1))) 0 (q.i-1) 0 O O f O qU n O aT) (U0 O (λ_ h=>h) (Ym O) (U0 O (λ_ h=>h) (Ym O) (U0 O (λ_ h=>h) (Yo hR O O f (by omega)) (U0 O (λ_ h=>h) (p7 (y:=(gJ q.d q.i)) 0 q.i 0 O O f O qU m O aT) (U0 O (λ_ h=>h) (Yo hR O O f (by omega)) ?_))))));refine WU.nil (λ_ h=>h) ?_;refine WS.e O ?_;refine WL.storeT (y:=(gJ q.d q.i)) 0 q.i 0 (gJ q.d (q.i-1)) Y O O O f O qU m dP O O (by decide) O ?_;refine Ln (Es ?_);refine WS.e O ?_;refine I (Yo hR O O f (by omega)) (Ln (Es ?_));refine WS.e O ?_;refine WL.storeT (y:=(gJ q.d (q.i-1))) 0 (q.i-1) 0 (gJ q.d q.i) Y O O O f O qU T dP O O (by decide) O ?_;refine Ln (Es ?_);refine WS.nil ?_;refine Eb (Et (Cr (ad O (I (nU ((q.i-1:Nat):Int) O O (by omega) (by omega)) (ai O (Ln ?_))))));exact Ea (⟨q.i-1,(q.d.set q.i (gJ q.d (q.i-1))).set (q.i-1) (gJ q.d q.i)⟩:yk) (by show q.i-1<q.i; omega) U (sc O (sc O (sc O (sc O (sc O (sc O sn)))))) (λ_ h=>h)
  have V:lu (nn l) q.d (g.i+1):=by
    by_cases W:q.i=0
    · rw [W] at k; exact Mf k
    · have X:¬np (aM l (gJ q.d q.i)) (aM l (gJ q.d (q.i-1)))<0:=λh=>by simp [h] at D; omega
      have s:q.i-1+1=q.i:=by omega
      exact Mg (R:=nn l) (d0:=d0) (i:=g.i) (λa b c A Z=>zF _ _ _ A Z) (j:=q.i-1) (a:=(gJ q.d q.i)) (b:=(gJ q.d (q.i-1))) (by rw [s]; exact k) (by rw [s]; exact m) n (TH G C N m n (by omega) X)
  refine Ce (Ex (Ex (cp (Eb (Et (Cr (ad O (I (Yi O O O (by omega)) (ai O (Ln ?_))))))))));exact Ea (⟨g.i+1,q.d⟩:yk) (by show _-(g.i+1)<_; omega) ⟨k.perm,V⟩ (sc O (sc O (sc O (sc O (sc O sn))))) (λ_ h=>h)
 have ab:d0.length<=g.i:=by simp at B; omega
 refine Ce (Ex (Ex (cp ?_)));refine E0 O λw' r=>?_;exact ⟨g.d,O,⟨t,TI E (by rw [t.length_eq]; exact ab)⟩,r⟩
theorem TT {x:Nat} (h:x<=4):IntKind.u64.wrap (x:Int)=(x:Int):=by rcases (show x=0\/x=1\/x=2\/x=3\/x=4 by omega) with rfl | rfl | rfl | rfl | rfl<;>rfl
theorem TU {l:List aZ} {d:List Nat} {s:Tx} (h:(hn l s).isSome=true):((if d.contains ((idxOf s (fL l) 0).getD 0)=true then (1:Int) else 0)==0) = !i' l d s:=by
 obtain ⟨j,a⟩:=Option.isSome_iff_exists.1 h;have b:idxOf s (fL l) 0=some j:=a;rw [b];unfold i';rw [a]
 show ((if d.contains j=true then (1:Int) else 0)==0) = !d.contains j
 cases d.contains j<;>rfl
theorem TV:Enters Tryz.prog 198:=enters_of Tryz.func198 (by kernel_rfl) rfl
theorem MT:Tryz.prog.underlying 230=some (.int .u64):=by kernel_rfl
theorem TX:Enters Tryz.prog 159:=enters_of Tryz.func159 (by kernel_rfl) rfl
theorem TY:Enters Tryz.prog 158:=enters_of Tryz.func158 (by kernel_rfl) rfl
theorem Co:eG Tryz.prog 195=true:=by kernel_rfl
theorem TZ:eG Tryz.prog 190=true:=by kernel_rfl
theorem yl:Tryz.prog.underlying 195=some (.map 3 3):=by kernel_rfl
theorem T0:Enters Tryz.prog 110:=enters_of Tryz.func110 (by kernel_rfl) rfl
theorem T1:Enters Tryz.prog 161:=enters_of Tryz.func161 (by kernel_rfl) rfl
theorem T2 (b f:View) (ke ks i:Nat) (j:Option Addr) (k:Nat) (l:List aZ) (n:vc b i 0=some (.slice j l.length k)) (o:Sl (qT ke ks) 5 f j k l) (a:Option Addr) (c:Nat) (d0:List Nat) (p:(fL l).Nodup) (q:∀x ∈ d0,x<l.length) (r:d0.Nodup) (s:d0.length<=4) (j7:Int) (w:World) (h:Ws w (List.flatMap aS.ids [cf 3 1 hy a c d0]) [cf 3 1 hy a c d0] [b,f] w) :
   Calls Tryz.prog 158 #[.slice a d0.length c,.int .i64 0,.int .i64 (d0.length:Int),.int .i64 j7,.func (.func 107) #[] #[.pointer (some ⟨i,0,none⟩)]] w λe w'=>∃d:List Nat,e = .returned (.tuple #[])/\(d.Perm d0/\lu (nn l) d d.length)/\Ws w (List.flatMap aS.ids [cf 3 1 hy a c d0]) [cf 3 1 hy a c d] [b,f] w':=by
 refine enter Tryz.func158 O 148 O O ?_;refine CE h (aa (ai O (ae (aa (ai O (ae (Cb ?_)))))));refine CW (ι:=Unit) (λg=>[]) [(0,_),(1,_),(2,_),(4,_)] (λg=>True) (λg=>0) () trivial (sc O (sc O (sc O (sc O sn)))) ?_;intro g _;refine Cb (aa (ad O (ad O (I (nU (d0.length:Int) O O (by omega) (by omega)) (ai O (ae (Cs (aa (ad O (I (hg O O) ?_))))))))));refine ae ?_;refine Cc O (λm=>?_) (λm=>?_)
 ·refine aa (ad O (ad O (ad O (ad O ?_))));refine Lw [_] _ Y O TV O O _ _ _ [b,f] (by simp) (λw h=>TS b f ke ks i j k l n o a c d0 p q r s w h) ?_;intro d t;refine ae (aX (Er (cj (Er (cj ?_)))));refine WE.vK O λw' h=>?_;exact ⟨d,O,t,h⟩
 exfalso
 simp at m;omega
theorem T3 (f g:View) (ke ks h:Nat) (i:Option Addr) (j:Nat) (l:List aZ) (m:vc f h 0=some (.slice i l.length j)) (n:Sl (qT ke ks) 5 g i j l) (a:Option Addr) (c:Nat) (d0:List Nat) (o:(fL l).Nodup) (p:∀x ∈ d0,x<l.length) (q:d0.Nodup) (k:d0.length<=4) (w:World) (b:Ws w (List.flatMap aS.ids [cf 3 1 hy a c d0]) [cf 3 1 hy a c d0] [f,g] w) :
   Calls Tryz.prog 106 #[.slice a d0.length c,.func (.func 107) #[] #[.pointer (some ⟨h,0,none⟩)]] w λe w'=>∃d:List Nat,e = .returned (.tuple #[])/\(d.Perm d0/\lu (nn l) d d.length)/\Ws w (List.flatMap aS.ids [cf 3 1 hy a c d0]) [cf 3 1 hy a c d] [f,g] w':=by
 refine enter Tryz.func106 O 14 O O ?_;refine CE b (aa (ad O (I (Yn hR O) (ai O (ae (Cr (ad O (ad O ?_))))))));refine ad O (I (de gZ MT O) ?_);rw [TT k];refine Lp Y O TX O (λw b=>TQ _ w k) (ad O ?_);refine Lw [_] _ Y O TY O O _ _ _ [f,g] (by simp) (λw b=>T2 f g ke ks h i j l m n a c d0 o p q k _ w b) ?_;intro d r;refine Ln ?_;refine E0 O λw' b=>?_;exact ⟨d,O,r,b⟩
theorem T4 (b c f a:View) (g i j k m:Nat) (l:List aZ) (d:List Nat) (o:vc b g 0=some (.map (some i))) (p:c i=some (b4 (λn:Int=>Value.int .i64 n) (jN d 0) d.length)) (q:vc f j 0=some (.pointer (some ⟨k,0,none⟩))) (r:vc a k 1=some (.map (some m))) (t:a m=some (b4 st (fR (fL l) 0) l.length)) (s:Tx) (w:World) (u:Le b w) (v:Le c w) (x:Le f w) (y:Le a w) (z:(hn l s).isSome=true) :
   Calls Tryz.prog 110 #[st s,.pointer (some ⟨g,0,none⟩),.pointer (some ⟨j,0,none⟩)] w λe w'=>e = .returned (.bool (!i' l d s))/\Ext w w':=by
 refine enter Tryz.func110 O 14 O O ?_;refine CE (Vs:=[b,c,f,a]) (Ws.init (by simp [u,v,x,y])) (aa (ai O (ae (Cs ?_))));refine WC.ld [(0,true),(1,true),(2,true),(3,true),(4,true),(5,true),(6,true),(7,true),(8,true),(9,true)] mixed (by kernel_rfl) (λ_ _ _ d _ h=>by cases d<;>exact h) ?_;refine D0 O (λ_ h=>h) (b9 0 Co O O (o)) (D0 O (λ_ h=>h) (b9 2 TZ O O (q)) (D0 O (λ_ h=>h) (cy O) (D0 O (λ_ h=>h) (Yf yj O) (D0 O (λ_ h=>h) (b9 3 pK O O (r)) (D0 O (λ_ h=>h) (Ym O) (D0 O (λ_ h=>h) (wB 3 O gj gg dO je O O (t)) ?_))))));rw [(ug _ _).1];refine D0 O (λ_ h=>h) (wB 1 O iU yl gZ je O O (p)) ?_;rw [zS];refine D0 O (λ_ h=>h) (bP O O) (D0 O (λ_ h=>h) (Ya O) ?_);refine WD.nil (λ_ h=>h) ?_;refine Et (aX ?_);refine R1 O O λw' A=>?_;exact ⟨by rw [<-TU z],A.fr⟩
theorem T5 (f:View) (C:Option Addr) (cs:Nat) (a:List Tx) (p:Sl rdStr 1 f C cs a) (g j k c:View) (r t u v x:Nat) (l:List aZ) (d:List Nat) (D:vc g r 0=some (.map (some t))) (E:j t=some (b4 (λn:Int=>Value.int .i64 n) (jN d 0) d.length)) (F:vc k u 0=some (.pointer (some ⟨v,0,none⟩))) (G:vc c v 1=some (.map (some x))) (H:c x=some (b4 st (fR (fL l) 0) l.length)) (w:World) (J:Le f w) (K:Le g w) (L:Le j w) (M:Le k w) (N:Le c w) (P:∀s ∈ a,(hn l s).isSome=true) :
   Calls Tryz.prog 161 #[.slice C a.length cs,.func (.func 110) #[] #[.pointer (some ⟨r,0,none⟩),.pointer (some ⟨u,0,none⟩)]] w λe w'=>e = .returned (.int .i64 (r9 l d a))/\Ext w w':=by
 have T:=p.cap;have U:=p.max;refine enter Tryz.func161 O 19 O O ?_;refine CE (Vs:=[f,g,j,k,c]) (Ws.init (by simp [J,K,L,M,N])) (aa (ai O (ae (Cs (aa (ad O (I (Yn di O) (ad O (ae (Cb ?_))))))))));refine CW (ι:=Nat) (λi=>[(8,.int .i64 (i:Int))]) [(0,_),(1,_),(7,_)] (λi=>i<=a.length/\∀s ∈ a.take i,i' l d s=true) (λi=>a.length-i) 0 ⟨Nat.zero_le _,by simp⟩ (sc O (sc O (sc O (sc O sn)))) ?_;intro i ⟨hi,m⟩;refine aa (I (b0 O O) (ae (Cs ?_)));refine Cc O (λy=>?_) (λy=>?_)
 ·have Q:i<a.length:=by simpa using y
  obtain ⟨s,o⟩:∃q,a[i]? = some q:=⟨_,List.getElem?_eq_getElem Q⟩;obtain ⟨R,pos,S,z⟩:=p.bJ i s o;have z:bI f R (pos+i*1) (dD s):=z;refine bf (Cs (Cb (aa (ad O (ai O (ae (aa (ad O (ad O (ad O (I (Yo di O O S (by omega)) ?_)))))))))));refine I (b9 0 cN O O (z 0 _ O)) ?_;refine WL.sa Y O T0 O O (λw b=>T4 g j k c r t u v x l d D E F G H s w (b.vs _ (by simp)) (b.vs _ (by simp)) (b.vs _ (by simp)) (b.vs _ (by simp)) (P s (List.mem_of_getElem? o))) ?_;refine ae ?_;refine Cc O (λA=>?_) (λA=>?_)
  ·have B:i' l d s=false:=by simpa using A
   refine aa (ad O (ai O (ae (aX (cj (Er (Er (cj (Er ?_)))))))));refine R1 O O λw' b=>?_;exact ⟨by rw [TF o m B],b.fr⟩
  have B:i' l d s=true:=by simpa using A
  refine Ck (Eb (Et (Cr (I (Yi O O O (by omega)) (ad O (Ln ?_))))));exact Ea (i+1) (by omega) ⟨by omega,yi o m B⟩ (sc O (sc O (sc O (sc O sn)))) (λ_ h=>h)
 have V:¬i<a.length:=by simpa using y
 rw [List.take_of_length_le (by omega)] at m;refine Ce (Ex (Ex (cp (Et (aa (ai O (ae (aX ?_))))))));refine R1 O O λw' b=>?_;exact ⟨by rw [TE m],b.fr⟩
theorem T6 (f:View) (j:Option Addr) (cs:Nat) (b:List Tx) (r:Sl rdStr 1 f j cs b) (g h i c:View) (k m o p q:Nat) (l:List aZ) (d:List Nat) (t:vc g k 0=some (.map (some m))) (u:h m=some (b4 (λn:Int=>Value.int .i64 n) (jN d 0) d.length)) (v:vc i o 0=some (.pointer (some ⟨p,0,none⟩))) (x:vc c p 1=some (.map (some q))) (y:c q=some (b4 st (fR (fL l) 0) l.length)) (w:World) (z:Le f w) (A:Le g w) (B:Le h w) (C:Le i w) (D:Le c w) (E:∀s ∈ b,(hn l s).isSome=true) :
   Calls Tryz.prog 109 #[.slice j b.length cs,.func (.func 110) #[] #[.pointer (some ⟨k,0,none⟩),.pointer (some ⟨o,0,none⟩)]] w λe w'=>e = .returned (.bool (!b.all (i' l d)))/\Ext w w':=by
 refine enter Tryz.func109 O 9 O O ?_;refine CE (Vs:=[f,g,h,i,c]) (Ws.init (by simp [z,A,B,C,D])) (aa (ai O (ae (aa (ad O (ad O (Lp Y O T1 O (λw a=>T5 f j cs b r g h i c k m o p q l d t u v x y w (a.vs _ (by simp)) (a.vs _ (by simp)) (a.vs _ (by simp)) (a.vs _ (by simp)) (a.vs _ (by simp)) E) (I (aJ O O) ?_))))))));refine ai O (ae (aX ?_));refine R1 O O λw' a=>?_;exact ⟨by rw [<-TG],a.fr⟩
def qV (l:List aZ) (r:List Nat×Int):Prop:=(¬ho l=0/\r=([],ho l))\/(ho l=0/\∃d,zK l d/\r=uf l d)
theorem Jk {l:List aZ} {r c:List Nat×Int} (h:qV l r) (e:qV l c):r=c:=by
 rcases h with ⟨a,rfl⟩ | ⟨a,d,f,rfl⟩
 · rcases e with ⟨_,rfl⟩ | ⟨b,_⟩
   · rfl
   · exact absurd b a
 · rcases e with ⟨b,_⟩ | ⟨_,i,g,rfl⟩
   · exact absurd a b
   · rw [Ma f g]
structure Jl where
 out:List Nat
 s:SP
theorem Jm {l:List aZ} {d:List Nat} {x:Nat} {u:List Tx} (h:bO l x=u):(decide ((if d.contains x=true then (1:Int) else 0) > 0)||!u.all (i' l d)) = !kr l d x:=by
 unfold kr;rw [h]
 cases d.contains x<;>simp
theorem T7:Enters Tryz.prog 105:=enters_of Tryz.func105 (by kernel_rfl) rfl
theorem T8:zeroOf Tryz.prog 190=some (.pointer none):=by kernel_rfl
theorem T9:dk Tryz.prog 190=some 1:=by kernel_rfl
theorem T':Enters Tryz.prog 106:=enters_of Tryz.func106 (by kernel_rfl) rfl
theorem T_:zeroOf Tryz.prog 195=some (.map none):=by kernel_rfl
theorem Ua:dk Tryz.prog 195=some 1:=by kernel_rfl
theorem Ub:Enters Tryz.prog 109:=enters_of Tryz.func109 (by kernel_rfl) rfl
theorem Uc (i:View) (ke ks:Nat) (a:Option Addr) (c:Nat) (l:List aZ) (w:World) (am:Le i w) (u:Sl (qT ke ks) 5 i a c l) (an:∀m ∈ l,wM m<=109951162777) :
   Calls Tryz.prog 39 #[.slice a l.length c] w λe w'=>∃r:SP×List Nat×Int,e = .returned (.tuple #[.slice r.1.1 r.2.1.length r.1.2,.int .i64 r.2.2])/\Ext w w'/\Sl Cm 1 (nv w w') r.1.1 r.1.2 r.2.1/\qV l r.2:=by
 have aV:=u.cap;have aW:=u.max;refine enter Tryz.func39 O 68 O O ?_;refine CE (Vs:=[i]) (Ws.init (by simp [am])) (aa ?_);refine WL.box Y O O λX=>?_;refine ai O (ai O (ae ?_));refine WC.scope ?_;refine aa (I (Yd 0 O O O tz) ?_);refine Ld Y O T7 O (λr:Nat×Nat=>.tuple #[.pointer (if ho l=0 then some ⟨r.1,0,none⟩ else none),.int .i64 (ho l)]) (λp r=>ho l=0->vc p r.1 1=some (.map (some r.2))/\p r.2=some (b4 st (fR (fL l) 0) l.length)) (λw f=>TD i ke ks a c l w (f.vs _ (by simp)) u an) ?_;intro p E aY ao;refine ad O (I (Yx O O) (I (Yx O O) ?_));refine Al Y O T8 λZ=>?_;refine aO 0 Y O O O T9 O O O (ai O (ae (Cs (aa (ad O (I (e8 O O) (ae ?_)))))));refine Cc O (λM=>?_) (λM=>?_)
 ·have ap:¬ho l=0:=by simpa using M
  refine aa (ad O (ai O (ai O (ae (aX (Er ?_))))));refine WE.A0 ?_;refine WE.gi O O O λw' f=>?_;exact ⟨((none,0),[],ho l),O,f.fr,Sl.nil,.inl ⟨ap,O⟩⟩
 have v:ho l=0:=by simpa using M
 have z:=D'.1 v;obtain ⟨ar,au⟩:=ao v;refine bf (Cs (e9 0 (.cells #[.pointer (some ⟨E.1,0,none⟩)] 190 (0,0)) O (by rw [v]; rfl) ?_));refine WC.xm 0 O λF aw=>?_;have ax:vc F Z 0=some (.pointer (some ⟨E.1,0,none⟩)):=ng aw rfl;refine WC.xm 0 O λA ay=>?_;have G:vc A X 0=some (.slice a l.length c):=ng ay rfl;refine Cr (ai O (LW (λ_ h=>h.e4 3 1) (ae (Cs (aa (I (b9 0 tz O O (G)) (I (Yn mV O) (ad O (ae (Cb ?_))))))))));refine av (ι:=Nat×SP) (λg=>[(22,.int .i64 (g.1:Int)),(6,.slice g.2.1 (List.range g.1).length g.2.2)]) [(1,_),(2,_),(3,_),(4,_),(21,_)] (λg=>Ws w [] [cf 3 1 hy g.2.1 g.2.2 (List.range g.1)] [A,F,p,i]) (λg=>g.1<=l.length) (λg=>l.length-g.1) (0,(none,0)) (Nat.zero_le _) (sc O (sc O (sc O (sc O (sc O (sc O (sc O sn))))))) (λ_ h=>h) ?_;intro g a0;refine aa (I (b0 O O) (ae (Cs ?_)));refine Cc O (λN=>?_) (λN=>?_)
 ·have a2:g.1<l.length:=by simpa using N
  have a3:=List.length_range (n:=g.1);have az:=z.d';refine bf (Cs (Cb (aa (ad O (ai O (ae (Cr (ad O (ad O ?_)))))))));refine Lb Y O hS O O O O λa4=>?_;refine cD 0 (.cells (hy g.1).toArray 3 (0,0)) O (O) ?_;refine LA (g.1) 1 0 Y O hS O O O O O O (by omega) (by omega) λaA aB=>?_;refine ai O (Ln (Eb (Et (Cr (I (Yi O O O (by omega)) (ad O (Ln ?_)))))));rw [<-List.range_succ];exact Ea ((g.1+1,(aA,aB)):Nat×SP) (by show _-(g.1+1)<_; omega) (by show g.1+1<=_; omega) (sc O (sc O (sc O (sc O (sc O (sc O (sc O sn))))))) (λ_ h=>Wd 1 h)
 have aC:g.1=l.length:=by simp at N; omega
 rw [aC];refine Ce (Ex (Ex (cp (Et (aa (ad O (I (cn O) ?_)))))));refine Lw (ι:=List Nat) [_] _ Y O T' O O (λ_=>.tuple #[]) (λd=>[cf 3 1 hy g.2.1 g.2.2 d]) (λd=>d.Perm (List.range l.length)/\lu (nn l) d d.length) [A,i] (by simp) (λw f=>T3 A i ke ks X a c l G u g.2.1 g.2.2 (List.range l.length) z.nd (by simp) List.nodup_range (by simpa using z.d') w f) ?_;intro d B;have ab:(List.range l.length).length=d.length:=B.1.length_eq.symm
 have a5:d.length=l.length:=by rw [<-ab,List.length_range]
 rw [ab];refine WL.lV (rd:=Cm) 0 O qU (λ_ _ _ _ h=>h) λac aD=>?_;refine ae (aa ?_);refine WL.lh (λn:Int=>Value.int .i64 n) Y O λH=>?_;refine Al Y O T_ λaf=>?_;refine aO 0 Y O O O Ua O O O (ae (Cs ?_));refine WC.xm 0 O λP aE=>?_;have Q:vc P af 0=some (.map (some H)):=ng aE rfl;refine Cr (ai O (LW (λ_ h=>h.e4 3 1) (ae (Cs ?_))));refine WC.label ?_;refine Et (Cs (Cb ?_));refine av (ι:=Jl) (λq=>[(9,.slice q.s.1 q.out.length q.s.2)]) [(1,_),(4,_),(6,_),(8,_)] (λq=>Ws w [] [cf 3 1 hy q.s.1 q.s.2 q.out,aq H (b4 (λn:Int=>Value.int .i64 n) (jN q.out 0) q.out.length)] [P,ac,A,F,p,i]) (λq=>jn l q.out) (λq=>l.length-q.out.length) ⟨[],(none,0)⟩ jn.nil (sc O (sc O (sc O (sc O (sc O sn))))) (λ_ h=>h) ?_;intro q C;refine Cs (aa (ad O (I (Yn hR O) (I (b9 2 tz O O (G)) (I (Yn mV O) (I (b0 O O) (ae ?_)))))));refine Cc O (λR=>?_) (λR=>?_)
 ·have a6:q.out.length<l.length:=by simpa using R
  have az:=z.d';refine bf (Cb (Cs (aa (ad O (I (Yn hR O) (ad O (ae (Cb ?_))))))));refine CW (ι:=Nat) (λk=>[(41,.int .i64 (k:Int))]) [(1,_),(4,_),(6,_),(8,_),(9,_),(39,_),(40,_)] (λk=>k<=d.length/\∀y e,y<k->d[y]? = some e->kr l q.out e=false) (λk=>d.length-k) 0 ⟨Nat.zero_le _,λy e h=>by omega⟩ (sc O (sc O (sc O (sc O (sc O (sc O (sc O (sc O sn)))))))) ?_;intro k ⟨a7,S⟩;refine aa (I (b0 O O) (ae (Cs ?_)));refine Cc O (λT=>?_) (λT=>?_)
  ·have aF:k<d.length:=by simpa using T
   obtain ⟨x,J⟩:∃q,d[k]? = some q:=⟨_,List.getElem?_eq_getElem aF⟩;obtain ⟨aG,aH,aI,U⟩:=aD.bJ k x J;have U:bI ac aG (aH+k*1) (hy x):=U
   have ag:x<l.length:=by simpa using B.1.subset (List.mem_of_getElem? J)
   obtain ⟨K,L⟩:∃m,l[x]? = some m:=⟨_,List.getElem?_eq_getElem ag⟩;obtain ⟨a8,a9,aJ,ah,aK,aL⟩:=u.bJ x K L;have a':=n6 L;have aj:=od L;refine bf (Cs (Cb (aa (I (Yo hR O O aI (by omega)) (I (b9 1 aT O O (U 0 _ O)) (ai O (ae (Cs (aa (I (b9 0 Co O O (Q)) (ad O (I (mr 1 iU yl gZ je O O O) ?_))))))))))));rw [zS];refine I (dc O O) (ad O ?_);apply Lo 7 (x:=!K.ak.all (i' l q.out)) O O O O Y O O O O O
   ·intro a_;refine Vg (b9 2 tz O O (G)) (Vg (Ym O) (Vg (Yo mV O O aJ ag) (Vg (Yf nH O) (Vg (b9 5 eU O O (aK 1 _ O)) (Vg (cn O) ?_)))));refine Lp (.g rfl rfl rfl) rfl Ub rfl (λw f=>T6 i ah.a1 ah.c1 K.ak aL.ak P (bv H (b4 (λn:Int=>Value.int .i64 n) (jN q.out 0) q.out.length)) F p af H Z E.1 E.2 l q.out Q (by simp [bv]) ax ar au w (f.vs _ (by simp)) (f.vs _ (by simp)) ((f.kh 1 rfl).vs _ (by simp)) (f.vs _ (by simp)) (f.vs _ (by simp)) (λs aM=>by obtain ⟨j,aN⟩:=z.ak K (List.mem_of_getElem? L) s aM; rw [aN]; rfl)) ?_;exact Gt 7 O O O
   refine ae ?_;refine Cc O (λD=>?_) (λD=>?_)
   ·have aP:kr l q.out x=false:=by rw [Jm aj] at D; simpa using D
    refine Ce (Ex (cp (Et (Cr (I (Yi O O O (by omega)) (ad O (Ln ?_)))))))
    exact Ea (k+1) (by omega) ⟨by omega,λy e t o=>by
        rcases Nat.lt_succ_iff_lt_or_eq.1 t with h | h
        · exact S y e h o
        · subst h; rw [J] at o; injection o with o; subst o; exact aP⟩ (sc rfl (sc rfl (sc rfl (sc rfl (sc rfl (sc rfl (sc rfl (sc rfl sn)))))))) (λ_ h=>h)
   have V:kr l q.out x=true:=by rw [Jm aj] at D; simpa using D
   have W:q.out.contains x=false:=by unfold kr at V; revert V; cases q.out.contains x<;>simp
   have aQ:sG l q.out x:=Mh B.1 B.2 J V (λy e t o=>S y e t o);refine bf (aa (I (b9 0 Co O O (Q)) (ad O (I (mr 1 iU yl gZ je O O O) ?_))));rw [zS,W,if_neg (by decide)];refine I ((show Yl _ _ _ _ (.int .i64 1) from vY (a:=0) (b:=1) O O O O (by omega))) ?_;refine WL.mu 1 iU Y yl gZ O O O O ?_;rw [(Ee W).1,(Ee W).2];refine ae (aa (ad O (ad O ?_)));refine Lb Y O hS O O O O λba=>?_;refine cD 0 (.cells (hy x).toArray 3 (0,0)) O (O) ?_;refine LA (x) 1 0 Y O hS O O O O O O (by omega) (by omega) λaR aS=>?_;refine ai O (ae (Ce (tH O (Ex (Ex (tH O (Ex (cp ?_))))))));exact Ea (⟨q.out++[x],(aR,aS)⟩:Jl) (by show _-(q.out++[x]).length<_; simp; omega) (.snoc C aQ) (sc O (sc O (sc O (sc O (sc O sn))))) (λ_ h=>Wd 1 h)
  have bb:k=d.length:=by simp at T; omega
  have aU:=Mi B.1 (λy e t=>S y e (by have:=(List.getElem?_eq_some_iff.1 t).1; omega) t);refine Ce (Ex (Ex (cp (Et (aa (ai O (ai O (ae (aX (cj (Er (cj (Er ?_)))))))))))));refine WE.A0 ?_;refine WE.gi O O O λw' f=>?_;exact ⟨((none,0),[],9),O,f.fr,Sl.nil,.inr ⟨v,q.out,⟨C,.inr aU⟩,by rw [uf,if_neg (by omega)]⟩⟩
 have al:q.out.length=l.length:=by
   have bc:=ue (n7 C).2 (n7 C).1;simp at R;omega
 refine Ce (Ex (Ex (cp (Et (aa (ad O (ai O (ai O (ae (aX ?_))))))))));refine WE.A0 ?_;refine WE.gi O O O λw' f=>?_;exact ⟨(q.s,q.out,0),O,f.fr,f.jg 0 O qU (λ_ _ _ _ h=>h),.inr ⟨v,q.out,⟨C,.inl al⟩,by rw [uf,if_pos al]⟩⟩
theorem Jn {l:List aZ} {d:List Nat} {e:Int} (h:qV l (d,e)) (c:e=0) (i:0<l.length):sE l/\jn l d/\d.length=l.length:=by
 rcases h with ⟨b,a⟩ | ⟨b,j,f,a⟩
 · injection a with _ a
   exact absurd (a.symm.trans c) b
 · unfold uf at a
   split at a
   · rename_i g
     injection a with a _
     subst a;exact ⟨D'.1 b,f.1,g⟩
   · injection a with _ a
     rw [c] at a;cases a
def kL (l:List Tx) (r:List bK×Int):Prop:=(¬lE l=0/\r=([],lE l))\/(lE l=0/\∃q,qV (fW l) q/\r=mK l q)
theorem Ud {l:List Tx} {r c:List bK×Int} (h:kL l r) (d:kL l c):r=c:=by
 rcases h with ⟨a,rfl⟩ | ⟨a,q,e,rfl⟩
 · rcases d with ⟨_,rfl⟩ | ⟨b,_⟩
   · rfl
   · exact absurd b a
 · rcases d with ⟨b,_⟩ | ⟨_,g,f,rfl⟩
   · exact absurd a b
   · rw [Jk e f]
theorem MU {l:List Tx} {r:List bK×Int} (h:kL l r) (f:r.2=0):lE l=0/\∃d,qV (fW l) (d,0)/\sE (fW l)/\jn (fW l) d/\d.length=(fW l).length/\r=fV (jy (fW l) d) []:=by
 rcases h with ⟨g,rfl⟩ | ⟨g,⟨d,e⟩,i,rfl⟩
 · exact absurd f g
 · have j:e=0:=by
     unfold mK at f
     by_cases k:e=0
     · exact k
     · rw [if_pos k] at f; exact absurd f k
   subst j
   have m:0<(fW l).length:=by
     have:=(AY g).1.1;simp [fW]; omega
   obtain ⟨a,b,c⟩:=Jn i rfl m;exact ⟨g,d,i,a,b,c,by rw [mK,if_neg (by simp)]⟩
abbrev MP:=aZ×ic
def ym (x:MP):List Value:=fu x.1 x.2
theorem Uf (x:MP):(ym x).length=5:=rfl
def Jo (a:View) (b o:Nat) (x:MP):Prop:=bI a b o (ym x)
theorem Ug {ke ks:Nat} {e d:View} {a:Option Addr} {c:Nat} {ys:List MP} (h:Sl Jo 5 e a c ys) (hv:bw e d) (j:∀y ∈ ys,iB ke ks d y.2 y.1):Sl (qT ke ks) 5 d a c (ys.map (·.1)):=by
 refine ⟨by rw [List.length_map]; exact h.cap,h.max,h.spot,λi x f=>?_⟩;rw [List.getElem?_map] at f;obtain ⟨y,g,rfl⟩:=Option.map_eq_some_iff.1 f;obtain ⟨b,o,k,l⟩:=h.bJ i y g;exact ⟨b,o,k,y.2,bI.mono hv l,j y (List.mem_of_getElem? g)⟩
theorem Cp {d e:View} (a:bw d e) {ke ks:Nat} {r:ic} {m:aZ} (h:iB ke ks d r m):iB ke ks e r m:=
 ⟨h.ak.imp λ_ _ _ h=>bI.mono a h,h.decls.imp λ_ _ _ h=>bI.mono a h,h.procs.imp λb o x c=>Dy a (Nat.le_refl _) (Nat.le_refl _) b o x c,h.main.imp λb o x c=>ri a (Nat.le_refl _) (Nat.le_refl _) b o x c⟩
abbrev FP:=fp×SP
def tC (x:FP):List Value:=oN x.1 x.2
theorem Jp (x:FP):(tC x).length=2:=rfl
def Cq (a:View) (b o:Nat) (x:FP):Prop:=bI a b o (tC x)
theorem Jq {e d:View} {a:Option Addr} {c:Nat} {ys:List FP} (h:Sl Cq 2 e a c ys) (hv:bw e d) (j:∀y ∈ ys,Sl gV 4 d y.2.1 y.2.2 y.1.2):Sl pP 2 d a c (ys.map (·.1)):=by
 refine ⟨by rw [List.length_map]; exact h.cap,h.max,h.spot,λi x f=>?_⟩;rw [List.getElem?_map] at f;obtain ⟨y,g,rfl⟩:=Option.map_eq_some_iff.1 f;obtain ⟨b,o,k,l⟩:=h.bJ i y g;exact ⟨b,o,k,y.2,bI.mono hv l,j y (List.mem_of_getElem? g)⟩
def oX (J:View) (M:List (c8 Tx)) (fl:List (Tx×fp)):Prop:=∀s,∃r:SP,eD s M (.agg #[st [],.slice none 0 0]) = .agg #[st (fi fl s).1,.slice r.1 (fi fl s).2.length r.2]/\Sl gV 4 J r.1 r.2 (fi fl s).2
theorem oX.nil {J:View}:oX J [] []:=λ_=>⟨(none,0),rfl,Sl.nil⟩
theorem oX.mv {J a:View} {M:List (c8 Tx)} {fl:List (Tx×fp)} (h:oX J M fl) (hv:bw J a):oX a M fl:=λs=>by
 obtain ⟨r,b,c⟩:=h s;exact ⟨r,b,oO hv c⟩
theorem oX.put {J:View} {M:List (c8 Tx)} {fl:List (Tx×fp)} (h:oX J M fl) {k:Tx} {f:fp} {a:Option Addr} {n:Nat} (c:Nat) (d:Sl gV 4 J a n f.2):oX J (dZ k (.agg #[st f.1,.slice a f.2.length n]) M c) ((k,f)::fl):=λs=>by
 by_cases e:s=k
 · subst e
   refine ⟨(a,n),by rw [rq,fi,if_pos rfl],?_⟩;rw [fi,if_pos rfl]; exact d
 · obtain ⟨r,g,i⟩:=h s
   have b:¬k=s:=λq=>e q.symm;refine ⟨r,by rw [uh _ M c _ e,g,fi,if_neg b],?_⟩;rw [fi,if_neg b]; exact i
structure A4 where
 i:Nat
 es:List MP
 m:SP
 J:View
structure Jr where
 i:Nat
 us:List XU
 o:SP
 fl:List (Tx×fp)
 M:List (c8 Tx)
 c:Nat
 J:View
structure Js where
 k:Nat
 es:List FP
 r:SP
theorem Uh {l:List Tx} {i:Nat} {x:Tx} (a:¬(l.length<1\/4<l.length)) (b:∀s ∈ l.take i,(cc s).2=0) (c:l[i]? = some x) (h:¬(cc x).2=0):lE l=(cc x).2:=by
 rw [lE,if_neg a];exact xl b c h
theorem Ui {l:List Tx} {i:Nat} {x:Tx} (b:∀s ∈ l.take i,(cc s).2=0) (c:l[i]? = some x) (h:(cc x).2=0):∀s ∈ l.take (i+1),(cc s).2=0:=λs a=>by
 rw [a' c] at a
 rcases List.mem_append.1 a with k | k
 · exact b s k
 · rw [List.mem_singleton] at k; subst k; exact h
theorem Uj {l:List Tx} {i:Nat} {x:Tx} {es:List MP} {r:ic} (a:es.map (·.1)=fW (l.take i)) (b:l[i]? = some x):(es++[((cc x).1,r)]).map (·.1)=fW (l.take (i+1)):=by
 rw [List.map_append,a,a' b]; simp [fW]
theorem Uk {l:List aZ} {d:List Nat} {k:Nat} (h:¬k<d.length):jy l (d.drop k)=[]:=by
 rw [List.drop_eq_nil_of_le (by omega)]; rfl
theorem Jt:aE Tryz.prog 80 50 (.agg #[st [],.slice none 0 0,.slice none 0 0,.slice none 0 0,.slice none 0 0]) 5 112:=hV (by kernel_rfl)
theorem Ul:Enters Tryz.prog 39:=enters_of Tryz.func39 (by kernel_rfl) rfl
theorem Ju:Tryz.prog.underlying 83=some (.map 9 65):=by kernel_rfl
theorem yn (n t:View) (a:Option Addr) (c:Nat) (l:List Tx) (w:World) (aW:Le n w) (B:Le t w) (aY:Laid t) (V:Sl rdStr 1 n a c l) :
   Calls Tryz.prog 11 #[.slice a l.length c] w λe w'=>∃r:SP×List bK×Int,e = .returned (.tuple #[.slice r.1.1 r.2.1.length r.1.2,.int .i64 r.2.2])/\Ext w w'/\Sl (qL 8 7) 5 (nv w w') r.1.1 r.1.2 r.2.1/\kL l r.2:=by
 have bZ:=V.cap;have b1:=V.max;refine enter Tryz.func11 O 109 O O ?_;refine CE (Vs:=[n,t]) (Ws.init (by simp [aW,B])) (aa (ai O (ai O (ae (Cs (aa (ad O (I (Yn di O) (I (b0 O O) ?_)))))))));refine ad O ?_;apply Lo 3 O O O O Y O O O O O
 ·intro b2;refine Vg (Ym O) (Vg (Yn di O) (Vg (dc O O) ?_));exact Gt 3 O O O
 refine ae ?_;refine Cc O (λW=>?_) (λW=>?_)
 ·have j:l.length<1\/4<l.length:=by simp at W; omega
  refine aa (ai O (ai O (ae (aX (Er ?_)))));refine WE.gi O O O λw' f=>?_
  have F:lE l=2:=by rw [lE,if_pos j]
  exact ⟨((none,0),[],2),O,f.fr,Sl.nil,.inl ⟨by rw [F]; decide,by rw [F]⟩⟩
 have aZ:¬(l.length<1\/4<l.length):=by simp at W; omega
 refine bf (aa (ai O (LW (λ_ h=>h.e4 50 5) ?_)));refine WL.v0 ?_;refine ae (Cs (aa (ad O (I (Yn di O) (ad O (ae (Cb ?_)))))));refine av (ι:=A4) (λg=>[(32,.int .i64 (g.i:Int)),(4,.slice g.m.1 g.es.length g.m.2)]) [(30,_),(31,_)] (λg=>Ws w [] [cf 50 5 ym g.m.1 g.m.2 g.es] [g.J,n,t]) (λg=>g.i<=l.length/\g.es.map (·.1)=fW (l.take g.i)/\(∀s ∈ l.take g.i,(cc s).2=0)/\eW w g.J/\(∀e ∈ g.es,iB 7 6 g.J e.2 e.1)/\g.es.length=g.i) (λg=>l.length-g.i) ⟨0,[],(none,0),v0⟩ ⟨Nat.zero_le _,O,by simp,lW w,by simp,O⟩ (sc O (sc O (sc O (sc O sn)))) (λ_ h=>by have h:=Ws.cv h (ah:=[v0,n,t]) (by simp); exact h) ?_;intro g ⟨hi,H,K,a0,aH,a1⟩;refine aa (I (b0 O O) (ae (Cs ?_)));refine Cc O (λX=>?_) (λX=>?_)
 ·have Z:g.i<l.length:=by simpa using X
  obtain ⟨x,v⟩:∃q,l[g.i]? = some q:=⟨_,List.getElem?_eq_getElem Z⟩;obtain ⟨ab,ac,af,C⟩:=V.bJ g.i x v;have C:bI n ab (ac+g.i*1) (dD x):=C;refine bf (Cs (Cb (aa (I (Yo di O O af (by omega)) (I (b9 1 cN O O (C 0 _ O)) (ai O (ae (aa (ad O ?_)))))))))
  refine Ld Y O B_ O (λr:ic=>.tuple #[.agg (fu ((cc x).1) r).toArray,.int .i64 ((cc x).2)]) (λag r=>iB 7 6 ag r ((cc x).1)) (λw f=>by
      have:=Bx t (x) w (f.vs _ (by simp)) aY
      exact this) ?_
  intro b3 al a2 a3;refine ad O (I (Yx O O) (I (Yx O O) ?_));refine Al Y O lJ λb5=>?_;refine aO 0 Y O O O mf O O O (ai O (ae (Cs (aa (ad O (I (e8 O O) (ae ?_)))))));refine Cc O (λam=>?_) (λam=>?_)
  ·have j:¬(cc x).2=0:=by simpa using am
   refine aa (ad O (ai O (ai O (ae (aX (Er (cj (Er (Er (cj (Er ?_)))))))))));refine WE.gi O O O λw' f=>?_;have F:=Uh aZ K v j;exact ⟨((none,0),[],(cc x).2),O,f.fr,Sl.nil,.inl ⟨by rw [F]; exact j,by rw [F]⟩⟩
  have a4:(cc x).2=0:=by simpa using am
  refine bf (Cr (ad O (I (b8 0 O O hQ O) ?_)));refine Lb Y O Jt O O O O λb6=>?_;refine cD 0 (.cells (ym ((cc x).1,al)).toArray 50 (0,0)) O (O) ?_;refine LA (((cc x).1,al)) 2 0 Y O Jt O O O O O O (by omega) (by omega) λa5 a6=>?_;refine WL.hE λa7 a8 a9 a_=>?_;refine ai O (Ln (Eb (Et (Cr (I (Yi O O O (by omega)) (ad O (Ln ?_)))))))
  exact Ea (⟨g.i+1,g.es++[((cc x).1,al)],(a5,a6),a7⟩:A4) (by show _-(g.i+1)<_; omega) ⟨by show g.i+1<=_; omega,Uj H v,Ui K v a4,a_ w a2 a0,λy u=>by
    rcases List.mem_append.1 u with k | k
    · exact Cp a9 (aH y k)
    · rw [List.mem_singleton] at k; subst k; exact Cp a8 a3,by simp [a1]⟩ (sc rfl (sc rfl (sc rfl (sc rfl sn)))) (λ_ h=>Wd 2 h)
 have ba:g.i=l.length:=by simp at X; omega
 rw [ba,List.take_length] at H K;have L:lE l=0:=AZ (by omega) K
 have bb:g.es.length=(fW l).length:=by rw [<-H,List.length_map]
 rw [bb]
 have aI:∀m ∈ fW l,wM m<=109951162777:=λm bc=>by
   obtain ⟨s,_,rfl⟩:=List.mem_map.1 bc;have:=qI s;omega
 refine Ce (Ex (Ex (cp (Et (Cs ?_)))));refine WC.lV (rd:=Jo) 0 O Uf (λ_ _ _ _ h=>h) λb7 bd=>?_;refine WC.hE λz be bg b'=>?_
 have N:Sl (qT 7 6) 5 z g.m.1 g.m.2 (fW l):=by
   have D:=Ug (ke:=7) (ks:=6) bd be λy u=>Cp bg (aH y u);rw [H] at D;exact D
 have b_:=N.cap;have ca:=N.max;refine Cr (ad O ?_);refine Ld Y O Ul O (λr:SP×List Nat×Int=>.tuple #[.slice r.1.1 r.2.1.length r.1.2,.int .i64 r.2.2]) (λan r=>Sl Cm 1 an r.1.1 r.1.2 r.2.1/\qV (fW l) r.2) (λw f=>Uc z 7 6 g.m.1 g.m.2 (fW l) w (f.vs _ (by simp)) N aI) ?_;intro P bh cb bi;obtain ⟨cd,d,A⟩:=bh;obtain ⟨Q,E⟩:=bi;dsimp only at Q E;have ce:=Q.cap;have cg:=Q.max;refine ad O (I (Yx O O) (I (Yx O O) (ai O (ai O (ae (Cs (aa (ad O (I (e8 O O) ?_)))))))));refine ae ?_;refine Cc O (λap=>?_) (λap=>?_)
 ·have j:¬A=0:=by simpa using ap
  refine aa (ad O (ai O (ai O (ae (aX (Er ?_))))));refine WE.gi O O O λw' f=>?_;exact ⟨((none,0),[],A),O,f.fr,Sl.nil,.inr ⟨L,(d,A),E,by rw [mK,if_pos j]⟩⟩
 have R:A=0:=by simpa using ap
 have bj:0<(fW l).length:=by simp [fW]; omega
 obtain ⟨aJ,bk,ch⟩:=Jn E R bj;have ci:=aJ.d';refine bf (aa ?_);refine WL.lh st Y O λaK=>?_;refine cD 0 (b4 st ([]:List (c8 Tx)) 0) O O (ai O (ae (aa (ai O (LW (λ_ h=>h.e4 40 5) ?_)))));refine WL.v0 ?_;refine ae (Cs (aa (ad O (I (Yn hR O) (ad O (ae (Cb ?_)))))));refine av (ι:=Jr) (λp=>[(60,.int .i64 (p.i:Int)),(12,.slice p.o.1 p.us.length p.o.2)]) [(4,_),(11,_),(58,_),(59,_)] (λp=>Ws w [] [cf 40 5 XU.cells p.o.1 p.o.2 p.us,aq aK (b4 st p.M p.c)] [p.J,P,z,n,t]) (λp=>p.i<=d.length/\fV (jy (fW l) d) []=pv (p.us.map (·.1)) (fV (jy (fW l) (d.drop p.i)) p.fl)/\eW w p.J/\(∀e ∈ p.us,hI 8 7 p.J e.2 e.1)/\oX p.J p.M p.fl/\p.us.length=p.i) (λp=>d.length-p.i) ⟨0,[],(none,0),[],[],0,v0⟩ ⟨Nat.zero_le _,Gc _ _,lW w,by simp,oX.nil,O⟩ (sc O (sc O (sc O (sc O (sc O (sc O sn)))))) (λ_ h=>by have h:=Ws.cv h (ah:=[v0,P,z,n,t]) (by simp); exact h) ?_;intro p ⟨ck,B,aL,aM,aN,bl⟩;refine aa (I (b0 O O) (ae (Cs ?_)));refine Cc O (λar=>?_) (λar=>?_)
 ·have bm:p.i<d.length:=by simpa using ar
  obtain ⟨x,v⟩:∃x,d[p.i]? = some x:=⟨_,List.getElem?_eq_getElem bm⟩;obtain ⟨ab,ac,af,C⟩:=Q.bJ p.i x v;have C:bI P ab (ac+p.i*1) (hy x):=C;have bn:x<(fW l).length:=(n7 bk).1 x (List.mem_of_getElem? v);obtain ⟨m,S⟩:∃m,(fW l)[x]? = some m:=⟨_,List.getElem?_eq_getElem bn⟩;obtain ⟨cl,cm,bo,au,bp,G⟩:=N.bJ x m S;have aP:=aI m (List.mem_of_getElem? S);have aw:=OB v S;have cn:=(BF (aJ.o_ m (List.mem_of_getElem? S))).d';have co:=G.ak.cap;have cq:=G.ak.max;refine bf (Cs (Cb (aa (I (Yo hR O O af (by omega)) (I (b9 1 aT O O (C 0 _ O)) (ai O (ae (aa (ad O (ad O (I (Yo mV O O bo (by omega)) ?_)))))))))));refine I (dj 2 hQ O O O (bp)) ?_;refine Al Y O lJ λbq=>?_;refine aO 0 Y O O O mf O O O (ae (aa (ai O (LW (λ_ h=>h.e4 65 2) (ae (Cs (aa (I (Yf nH O) (I (Yd 1 O O O eU) (I (Yn di O) ?_))))))))));refine ad O (ae (Cb ?_));refine av (ι:=Js) (λb=>[(71,.int .i64 (b.k:Int)),(16,.slice b.r.1 b.es.length b.r.2)]) [(4,_),(11,_),(12,_),(15,_),(58,_),(59,_),(60,_),(69,_),(70,_)] (λb=>Ws w [] [cf 65 2 tC b.r.1 b.r.2 b.es,aq bq (.cells (fu m au).toArray 50 (0,0)),cf 40 5 XU.cells p.o.1 p.o.2 p.us,aq aK (b4 st p.M p.c)] [p.J,P,z,n,t]) (λb=>b.k<=m.ak.length/\b.es.map (·.1)=(m.ak.take b.k).map (fi p.fl)/\(∀e ∈ b.es,Sl gV 4 p.J e.2.1 e.2.2 e.1.2)/\b.es.length=b.k) (λb=>m.ak.length-b.k) ⟨0,[],(none,0)⟩ ⟨Nat.zero_le _,O,by simp,O⟩ (sc O (sc O (sc O (sc O (sc O (sc O (sc O (sc O (sc O (sc O (sc O sn))))))))))) (λ_ h=>h) ?_;intro b ⟨cr,T,aQ,br⟩;refine aa (I (b0 O O) (ae (Cs ?_)));refine Cc O (λax=>?_) (λax=>?_)
  ·have Z:b.k<m.ak.length:=by simpa using ax
   obtain ⟨s,aR⟩:∃q,m.ak[b.k]? = some q:=⟨_,List.getElem?_eq_getElem Z⟩;obtain ⟨bs,pos,bt,ay⟩:=G.ak.bJ b.k s aR;have ay:bI z bs (pos+b.k*1) (dD s):=ay;obtain ⟨az,aA,bu⟩:=aN s;refine bf (Cs (Cb (aa (I (Yo di O O bt (by omega)) (I (b9 2 cN O O (ay 0 _ O)) (ai O (ae (Cr (ad O (ad O (ad O ?_)))))))))));refine I (mr 3 gj Ju dO iL O O O) ?_;rw [aA];refine Lb Y O r3 O O O O λcs=>?_;refine cD 0 (.cells (tC (fi p.fl s,az)).toArray 65 (0,0)) O (O) ?_;refine LA ((fi p.fl s,az)) 1 0 Y O r3 O O O O O O (by omega) (by omega) λbv bw=>?_;refine ai O (Ln (Eb (Et (Cr (I (Yi O O O (by omega)) (ad O (Ln ?_)))))))
   exact Ea (⟨b.k+1,b.es++[(fi p.fl s,az)],(bv,bw)⟩:Js) (by show _-(b.k+1)<_; omega) ⟨by show b.k+1<=_; omega,by rw [List.map_append,T,a' aR]; simp,λy u=>by
     rcases List.mem_append.1 u with k | k
     · exact aQ y k
     · rw [List.mem_singleton] at k; subst k; exact bu,by simp [br]⟩ (sc rfl (sc rfl (sc rfl (sc rfl (sc rfl (sc rfl (sc rfl (sc rfl (sc rfl (sc rfl (sc rfl sn))))))))))) (λ_ h=>Wd 1 h)
  have aA:b.k=m.ak.length:=by simp at ax; omega
  rw [aA,List.take_length] at T
  have bx:b.es.length=(m.ak.map (fi p.fl)).length:=by rw [<-T,List.length_map]
  rw [bx];refine Ce (Ex (Ex (cp (Et (aa (I (b8 1 O O hQ O) ?_))))));refine Ld Y O BZ O (λr:SP=>.tuple #[.agg #[st (ao m).1.1,.slice r.1 (ao m).1.2.length r.2],.int .i64 (ao m).2]) (λag r=>Sl gV 4 ag r.1 r.2 (ao m).1.2) (λw f=>BH z 7 6 au m w (f.vs _ (by simp)) G aP) ?_;intro ct aS bz bA;refine ad O (I (Yx O O) (I (Yx O O) ?_));refine Al Y O iL λcu=>?_;refine aO 0 Y O O O jX O O O (ai O (ae (Cs (aa (ad O (I (e8 O O) (ae ?_)))))));refine Cc O (λaB=>?_) (λaB=>?_)
  ·have j:¬(ao m).2=0:=by simpa using aB
   refine aa (ad O (ai O (ai O (ae (aX (Er (cj (Er (Er (cj (Er ?_)))))))))));refine WE.gi O O O λw' f=>?_;exact ⟨((none,0),[],(ao m).2),O,f.fr,Sl.nil,.inr ⟨L,(d,A),E,by rw [mK,if_neg (by simpa using R),B,aw,Gd (by rw [AW j]; exact j),AW j]⟩⟩
  have bB:(ao m).2=0:=by simpa using aB
  have U:=AX (M:=p.fl) bB;refine bf (Cs ?_);refine WC.ll (rd:=Cq) 1 O (by simp) Jp (λ_ _ _ _ h=>h) λcw bC bD=>?_;refine WC.hE λcy bE bF bG=>?_;refine WC.hE λaU aV aD bH=>?_
  have bL:Sl pP 2 aU b.r.1 b.r.2 (m.ak.map (fi p.fl)):=by
    have D:=Jq bD (λ_ _ h=>aV _ _ (bE _ _ h)) λy u=>oO (λ_ _ h=>aD _ _ h) (aQ y u);rw [T] at D;exact D
  refine Cr (I (b8 1 O O hQ O) (ad O ?_))
  refine Ld Y O r2 O (λr:ih=>.tuple #[.agg (eE (cx m (m.ak.map (fi p.fl))).1 r).toArray,.int .i64 (cx m (m.ak.map (fi p.fl))).2]) (λan r=>hI (7+1) (6+1) an r (cx m (m.ak.map (fi p.fl))).1) (λw f=>by
      skip
      exact rW z aU 7 6 au m b.r.1 b.r.2 (m.ak.map (fi p.fl)) w (f.vs _ (by simp)) (f.vs _ (by simp)) G bL aP) ?_
  intro cz aE bM bN;refine ad O (I (Yx O O) (I (Yx O O) ?_));refine Al Y O kF λcA=>?_;refine aO 0 Y O O O kG O O O (ai O (ae (Cs (aa (ad O (I (e8 O O) (ae ?_)))))));refine Cc O (λaF=>?_) (λaF=>?_)
  ·have j:¬(cx m (m.ak.map (fi p.fl))).2=0:=by simpa using aF
   refine aa (ad O (ai O (ai O (ae (aX (Er (cj (Er (Er (cj (Er ?_)))))))))));refine WE.gi O O O λw' f=>?_;exact ⟨((none,0),[],(cx m (m.ak.map (fi p.fl))).2),O,f.fr,Sl.nil,.inr ⟨L,(d,A),E,by rw [mK,if_neg (by simpa using R),B,aw,Gd (by rw [U]; exact j),U]⟩⟩
  have bO:(cx m (m.ak.map (fi p.fl))).2=0:=by simpa using aF
  refine bf (aa (ad O (I (Yf cR O) (I (Yd 2 O O O cN) (I (b8 1 O O iM O) ?_)))));refine WL.mu 4 gj Y Ju dO O O O O ?_;refine ae (Cr (ad O (I (b8 0 O O gh O) ?_)));refine Lb Y O tt O O O O λcB=>?_;refine cD 0 (.cells (XU.cells ((cx m (m.ak.map (fi p.fl))).1,aE)).toArray 40 (0,0)) O (O) ?_;refine LA (((cx m (m.ak.map (fi p.fl))).1,aE)) 4 0 Y O tt O O O O O O (by omega) (by omega) λbP bQ=>?_;refine WL.hE λbR bS aG bT=>?_;refine ai O (Ln (Eb (Et (Cr (I (Yi O O O (by omega)) (ad O (Ln ?_)))))))
  exact Ea (⟨p.i+1,p.us++[((cx m (m.ak.map (fi p.fl))).1,aE)],(bP,bQ),(m.nm,(ao m).1)::p.fl,dZ m.nm (.agg #[st (ao m).1.1,.slice aS.1 (ao m).1.2.length aS.2]) p.M p.c,gA m.nm p.M p.c,bR⟩:Jr) (by show _-(p.i+1)<_; omega) ⟨by show p.i+1<=_; omega,by
      have D:=AV (us:=p.us.map (·.1)) (r:=jy (fW l) (d.drop (p.i+1))) (show (aC p.fl m).2=0 by rw [U]; exact bO);rw [B,aw,D,U]
      simp,bT w bM (bH w (bG w (by exact bC) bz) aL),λy u=>by
    rcases List.mem_append.1 u with k | k
    · exact (aM y k).mv (λ_ _ h=>aG _ _ (aD _ _ h))
    · rw [List.mem_singleton] at k; subst k; exact bN.mv bS,(aN.mv (λ_ _ h=>aG _ _ (aD _ _ h))).put _ (oO (λ_ _ h=>aG _ _ (aV _ _ (bF _ _ h))) bA),by simp [bl]⟩ (sc rfl (sc rfl (sc rfl (sc rfl (sc rfl (sc rfl sn)))))) (λ_ h=>Wd 4 h)
 have bU:¬p.i<d.length:=by simpa using ar
 refine Ce (Ex (Ex (cp (Et (aa (ad O (ai O (ai O (ae (aX ?_))))))))));refine WE.gi O O O λw' f=>?_;have bV:=Uk (l:=fW l) bU;rw [bV] at B
 have bW:(p.us.map (·.1),(0:Int))=mK l (d,A):=by rw [mK,if_neg (by simpa using R),B]; simp [pv,fV]
 refine ⟨(p.o,p.us.map (·.1),0),by rw [List.length_map],f.fr,?_,.inr ⟨L,(d,A),E,bW⟩⟩;have bX:=f.jg (rd:=dK) 0 rfl XU.aj (λ_ _ _ _ h=>h);exact vv bX (λ_ _ h=>h) λe bY=>(aM e bY).mv (cF f (by simp) aL)
theorem Jv {l:List Tx} {r:List bK×Int} (h:kL l r):∀u ∈ r.1,n8 u<=1048576:=by
 rcases h with ⟨_,rfl⟩ | ⟨_,q,_,rfl⟩
 · intro u a; simp at a
 · intro u a
   unfold mK at a
   split at a
   · simp at a
   · refine Nat.le_trans (Gb (b:=73728) _ _ (λm c=>?_) u a) (by decide)
     unfold jy at c;obtain ⟨i,_,hi⟩:=List.mem_filterMap.1 c;obtain ⟨s,_,rfl⟩:=List.mem_map.1 (List.mem_of_getElem? hi);exact qI s
theorem Jw {l:List Tx} {r:List bK×Int} (h:kL l r):r.1.length<=4:=by
 rcases h with ⟨_,rfl⟩ | ⟨b,q,c,rfl⟩
 · simp
 · unfold mK
   split
   · simp
   · have e:(fW l).length<=4:=by have:=(AY b).1.2; simpa [fW] using this
     refine Nat.le_trans (Ga _ _) (Nat.le_trans (m:=q.1.length) ?_ ?_)
     · unfold jy; exact List.length_filterMap_le _ _
     · rcases c with ⟨_,rfl⟩ | ⟨_,d,a,rfl⟩
       · simp
       · have:=ue (n7 a.1).2 (n7 a.1).1
         unfold uf
         split
         · show d.length<=4; omega
         · simp
structure Jx where
 i:Nat
 es:List XO
 o:SP
 J:View
structure Jy where
 i:Nat
 es:List FP
 r:SP
 J:View
def hT (u:bK):bA:=(eb u).1.to
theorem Um {us:List bK} {i:Nat} {u:bK} (a:∀s ∈ us.take i,(eb s).2=0) (b:us[i]? = some u) (h:¬(eb u).2=0):gy (us,0)=(([],0),(eb u).2):=by
 have e:oA us=(eb u).2:=xl a b h;rw [gy,if_neg (by simp),e,if_pos h]
theorem Jz {us:List bK} (a:∀s ∈ us,(eb s).2=0):gy (us,0)=hM (us.map hT):=by
 have e:oA us=0:=l1.2 a;rw [gy,if_neg (by simp),e,if_neg (by simp)]; rfl
theorem JA {us:List bK} {e:Int} (h:¬e=0):gy (us,e)=(([],0),e):=by rw [gy,if_pos h]
theorem Un {us:List bK} {i:Nat} {u:bK} (b:∀s ∈ us.take i,(eb s).2=0) (c:us[i]? = some u) (h:(eb u).2=0):∀s ∈ us.take (i+1),(eb s).2=0:=λs a=>by
 rw [a' c] at a
 rcases List.mem_append.1 a with k | k
 · exact b s k
 · rw [List.mem_singleton] at k; subst k; exact h
theorem Uo {a:List Tx} {i:Nat} {x:Tx} (c:∀s ∈ a.take i,(gI s).2=0) (d:a[i]? = some x) (h:(gI x).2=0):∀s ∈ a.take (i+1),(gI s).2=0:=λs b=>by
 rw [a' d] at b
 rcases List.mem_append.1 b with k | k
 · exact c s k
 · rw [List.mem_singleton] at k; subst k; exact h
def vF (a:List Tx):Int:=aD (λb=>(gI b).2) a
def gK (a:List Tx):List fp:=a.map λb=>(gI b).1
def jf (s:Tx) (a:List Tx):(Tx×Tx)×Int:=
 if (cc s).2≠0 then (([],[]),(cc s).2) else if vF a≠0 then (([],[]),vF a) else
 if (ao (cc s).1).2≠0 then (([],[]),(ao (cc s).1).2) else
 if (cx (cc s).1 (gK a)).2≠0 then (([],[]),(cx (cc s).1 (gK a)).2) else
 if (eb (cx (cc s).1 (gK a)).1).2≠0 then (([],[]),(eb (cx (cc s).1 (gK a)).1).2) else
 if (oi (hT (cx (cc s).1 (gK a)).1)).2≠0 then (([],[]),(oi (hT (cx (cc s).1 (gK a)).1)).2) else
 if (pT (ao (cc s).1).1.1 (ao (cc s).1).1.2).2≠0 then (([],[]),(pT (ao (cc s).1).1.1 (ao (cc s).1).1.2).2) else
 (((pT (ao (cc s).1).1.1 (ao (cc s).1).1.2).1,(oi (hT (cx (cc s).1 (gK a)).1)).1),0)
theorem Up {a:List Tx} {i:Nat} {x:Tx} (b:∀s ∈ a.take i,(gI s).2=0) (c:a[i]? = some x) (h:¬(gI x).2=0):vF a=(gI x).2:=xl b c h
theorem MV {d b:View} {a:Option Addr} {c:Nat} {es:List XO} {us:List bK} (h:Sl Cg 7 d a c es) (hv:bw d b) (f:∀e ∈ es,mC b e.2 e.1) (g:es.map (·.1)=us.map hT):Sl vB 7 b a c (us.map hT):=by
 rw [<-g]; exact Tb h hv f
theorem yo:Enters Tryz.prog 11:=enters_of Tryz.func11 (by kernel_rfl) rfl
theorem JB:Enters Tryz.prog 26:=enters_of Tryz.func26 (by kernel_rfl) rfl
theorem JC:aE Tryz.prog 45 56 (.agg #[st [],.slice none 0 0,.int .i64 0,.slice none 0 0,.slice none 0 0,.slice none 0 0,.int .i64 0]) 7 128:=hV (by kernel_rfl)
theorem Ur:Enters Tryz.prog 20:=enters_of Tryz.func20 (by kernel_rfl) rfl
theorem Us:Enters Tryz.prog 23:=enters_of Tryz.func23 (by kernel_rfl) rfl
theorem Ut:Enters Tryz.prog 27:=enters_of Tryz.func27 (by kernel_rfl) rfl
theorem Uu:Enters Tryz.prog 28:=enters_of Tryz.func28 (by kernel_rfl) rfl
theorem JD (f j:View) (a:Option Addr) (c:Nat) (l:List Tx) (w:World) (L:Le f w) (M:Le j w) (N:Laid j) (P:Sl rdStr 1 f a c l) :
   Calls Tryz.prog 12 #[.slice a l.length c] w λe w'=>∃r:SP×List bK×Int,e = .returned (.tuple #[.agg #[.slice r.1.1 (gy r.2).1.1.length r.1.2,.int .i64 (gy r.2).1.2],.int .i64 (gy r.2).2])/\Ext w w'/\Sl gv 3 (nv w w') r.1.1 r.1.2 (gy r.2).1.1/\kL l r.2:=by
 refine enter Tryz.func12 O 44 O O ?_;refine CE (Vs:=[f,j]) (Ws.init (by simp [L,M])) (aa ?_);refine Al Y O oW λQ=>?_;refine ai O (ae (aa (ad O ?_)));refine Ld Y O yo O (λr:SP×List bK×Int=>.tuple #[.slice r.1.1 r.2.1.length r.1.2,.int .i64 r.2.2]) (λn r=>Sl (qL 8 7) 5 n r.1.1 r.1.2 r.2.1/\kL l r.2) (λw b=>yn f j a c l w (b.vs _ (by simp)) (b.vs _ (by simp)) N P) ?_;intro z R aE S;obtain ⟨aF,us,A⟩:=R;obtain ⟨t,m⟩:=S;dsimp only at t m;have aG:=t.cap;have aH:=t.max;have aI:us.length<=4:=Jw m;refine ad O (I (Yx O O) (I (Yx O O) (ai O (ai O (ae (Cs (aa (ad O (I (e8 O O) ?_)))))))));refine ae ?_;refine Cc O (λB=>?_) (λB=>?_)
 ·have C:¬A=0:=by simpa using B
  refine aa (I (Yb oW vE O O) (ad O (aO 0 Y O O O pS O O O (ai O (ae (aX (Er ?_)))))));refine WE.ee (fj O (dI 0 O O qQ O) (gz O)) λw' b=>?_;have d:=JA (us:=us) C;refine ⟨((none,0),us,A),?_,b.fr,?_,m⟩
  · dsimp only
    rw [d]; rfl
  · dsimp only
    rw [d]; exact Sl.nil
 have T:A=0:=by simpa using B
 subst T;refine bf (aa (ai O (LW (λ_ h=>h.e4 56 7) ?_)));refine WL.v0 ?_;refine ae (Cs (aa (ad O (I (Yn jZ O) (ad O (ae (Cb ?_)))))));refine av (ι:=Jx) (λg=>[(22,.int .i64 (g.i:Int)),(6,.slice g.o.1 g.es.length g.o.2)]) [(2,_),(20,_),(21,_)] (λg=>Ws w [] [cf 56 7 XO.cells g.o.1 g.o.2 g.es,aq Q (.cells #[.slice none 0 0,.int .i64 0] 33 (0,0))] [g.J,z,f,j]) (λg=>g.i<=us.length/\g.es.map (·.1)=(us.take g.i).map hT/\(∀s ∈ us.take g.i,(eb s).2=0)/\eW w g.J/\(∀e ∈ g.es,mC g.J e.2 e.1)/\g.es.length=g.i) (λg=>us.length-g.i) ⟨0,[],(none,0),v0⟩ ⟨Nat.zero_le _,O,by simp,lW w,by simp,O⟩ (sc O (sc O (sc O (sc O (sc O sn))))) (λ_ h=>by have h:=Ws.cv h (ah:=[v0,z,f,j]) (by simp); exact h) ?_;intro g ⟨hi,v,x,U,H,V⟩;refine aa (I (b0 O O) (ae (Cs ?_)));refine Cc O (λD=>?_) (λD=>?_)
 ·have W:g.i<us.length:=by simpa using D
  obtain ⟨u,p⟩:∃u,us[g.i]? = some u:=⟨_,List.getElem?_eq_getElem W⟩;obtain ⟨aJ,aK,X,Z,ab,ac⟩:=t.bJ g.i u p;refine bf (Cs (Cb (aa (I (Yo jZ O O X (by omega)) (I (dj 1 gh O O O (ab)) ?_)))));refine Al Y O kF λaL=>?_;refine aO 0 Y O O O kG O O O (ae (aa (I (b8 0 O O gh O) ?_)));refine Ld Y O JB O (λr:kZ=>.tuple #[.agg (hL (hT u) r).toArray,.int .i64 (eb u).2]) (λn r=>mC n r (hT u)) (λw b=>I6 z 8 7 u Z w (b.vs _ (by simp)) ac (Jv m u (List.mem_of_getElem? p))) ?_;intro aM E af ag;refine ad O (I (Yx O O) (I (Yx O O) ?_));refine Al Y O nO λaN=>?_;refine aO 0 Y O O O oQ O O O (ai O (ae (Cs (aa (ad O (I (e8 O O) (ae ?_)))))));refine Cc O (λF=>?_) (λF=>?_)
  ·have C:¬(eb u).2=0:=by simpa using F
   refine aa (I (Yb oW vE O O) (ad O (aO 3 Y O O O pS O O O (ai O (ae (aX (Er (cj (Er (Er (cj (Er ?_))))))))))));refine WE.ee (fj O (dI 3 O O qQ O) (gz O)) λw' b=>?_;have d:=Um x p C;refine ⟨((none,0),us,0),?_,b.fr,?_,m⟩
   · dsimp only
     rw [d]; rfl
   · dsimp only
     rw [d]; exact Sl.nil
  have ak:(eb u).2=0:=by simpa using F
  refine bf (Cr (ad O (I (b8 0 O O mj O) ?_)));refine Lb Y O JC O O O O λaP=>?_;refine cD 0 (.cells (XO.cells (hT u,E)).toArray 56 (0,0)) O (O) ?_;refine LA ((hT u,E)) 3 0 Y O JC O O O O O O (by omega) (by omega) λal am=>?_;refine WL.hE λan ao ap ar=>?_;refine ai O (Ln (Eb (Et (Cr (I (Yi O O O (by omega)) (ad O (Ln ?_)))))))
  exact Ea (⟨g.i+1,g.es++[(hT u,E)],(al,am),an⟩:Jx) (by show _-(g.i+1)<_; omega) ⟨by show g.i+1<=_; omega,by rw [List.map_append,v,a' p]; simp,Un x p ak,ar w af U,λy G=>by
    rcases List.mem_append.1 G with k | k
    · exact Ch (H y k) ap
    · rw [List.mem_singleton] at k; subst k; exact Ch ag ao,by simp [V]⟩ (sc rfl (sc rfl (sc rfl (sc rfl (sc rfl sn))))) (λ_ h=>Wd 3 h)
 have au:g.i=us.length:=by simp at D; omega
 rw [au,List.take_length] at v x
 have aw:g.es.length=(us.map hT).length:=by rw [<-v,List.length_map]
 rw [aw];refine Ce (Ex (Ex (cp (Et (Cs ?_)))));refine WC.lV (rd:=Cg) 0 O XO.aj (λ_ _ _ _ h=>h) λaQ ax=>?_;refine WC.hE λK ay az aR=>?_;have aA:Sl vB 7 K g.o.1 g.o.2 (us.map hT):=MV ax ay (λy G=>Ch (H y G) az) v;refine Cr (ad O ?_);refine Ld Y O Ur O (λq:SP=>.tuple #[.agg #[.slice q.1 (hM (us.map hT)).1.1.length q.2,.int .i64 (hM (us.map hT)).1.2],.int .i64 (hM (us.map hT)).2]) (λn q=>Sl gv 3 n q.1 q.2 (hM (us.map hT)).1.1) (λw b=>Tl K g.o.1 g.o.2 (us.map hT) w (b.vs _ (by simp)) aA) ?_;intro aS aB aC aD;refine I (Yx O O) (I (Yx O O) (aO 0 Y O O O pS O O O (ai O (ae (aX ?_)))));refine WE.ee (fj O (dI 0 O O qQ O) (gz O)) λw' b=>?_;have d:=Jz x;refine ⟨(aB,us,0),?_,b.fr,?_,m⟩
 · dsimp only
   rw [d]; rfl
 · dsimp only
   rw [d]; exact aD.imp λ_ _ _ h=>bI.mono (cF b (by simp) aC) h
theorem JE (j l:View) (s:Tx) (a:Option Addr) (c:Nat) (b:List Tx) (w:World) (ak:Le j w) (al:Le l w) (am:Laid l) (B:Sl rdStr 1 j a c b) (a4:b.length<=1048576) :
   Calls Tryz.prog 8 #[st s,.slice a b.length c] w λe w'=>e = .returned (.tuple #[st (jf s b).1.1,st (jf s b).1.2,.int .i64 (jf s b).2])/\Ext w w':=by
 have a5:=B.cap;have a6:=B.max;refine enter Tryz.func8 O 89 O O ?_;refine CE (Vs:=[j,l]) (Ws.init (by simp [ak,al])) (aa (ai O (ai O (ai O (ae (aa (ad O ?_)))))))
 refine Ld Y O B_ O (λr:ic=>.tuple #[.agg (fu ((cc s).1) r).toArray,.int .i64 ((cc s).2)]) (λC r=>iB 7 6 C r ((cc s).1)) (λw d=>by
     have:=Bx l (s) w (d.vs _ (by simp)) am
     exact this) ?_
 intro t D a7 U;refine ad O (I (Yx O O) (I (Yx O O) ?_));refine Al Y O lJ λan=>?_;refine aO 0 Y O O O mf O O O (ai O (ae (Cs (aa (ad O (I (e8 O O) (ae ?_)))))));refine Cc O (λE=>?_) (λE=>?_)
 ·have ap:¬(cc s).2=0:=by simpa using E
  refine aa (ad O (ai O (ai O (ai O (ae (aX (Er ?_)))))));refine WE.pX O O O O λw' d=>?_;exact ⟨by rw [jf,if_pos ap]<;>rfl,d.fr⟩
 have f:(cc s).2=0:=by simpa using E
 refine bf (aa (ai O (LW (λ_ h=>h.e4 65 2) ?_)));refine WL.v0 ?_;refine ae (Cs (aa (ad O (I (Yn di O) (ad O (ae (Cb ?_)))))));refine av (ι:=Jy) (λg=>[(29,.int .i64 (g.i:Int)),(9,.slice g.r.1 g.es.length g.r.2)]) [(7,_),(8,_),(27,_),(28,_)] (λg=>Ws w [] [cf 65 2 tC g.r.1 g.r.2 g.es,aq an (.cells (fu (cc s).1 D).toArray 50 (0,0))] [g.J,t,j,l]) (λg=>g.i<=b.length/\g.es.map (·.1)=gK (b.take g.i)/\(∀s ∈ b.take g.i,(gI s).2=0)/\eW w g.J/\(∀e ∈ g.es,Sl gV 4 g.J e.2.1 e.2.2 e.1.2)/\g.es.length=g.i) (λg=>b.length-g.i) ⟨0,[],(none,0),v0⟩ ⟨Nat.zero_le _,O,by simp,lW w,by simp,O⟩ (sc O (sc O (sc O (sc O (sc O (sc O sn)))))) (λ_ h=>by have h:=Ws.cv h (ah:=[v0,t,j,l]) (by simp); exact h) ?_;intro g ⟨hi,u,v,ar,V,W⟩;refine aa (I (b0 O O) (ae (Cs ?_)));refine Cc O (λF=>?_) (λF=>?_)
 ·have au:g.i<b.length:=by simpa using F
  obtain ⟨x,z⟩:∃q,b[g.i]? = some q:=⟨_,List.getElem?_eq_getElem au⟩;obtain ⟨aw,ax,ay,G⟩:=B.bJ g.i x z;have G:bI j aw (ax+g.i*1) (dD x):=G;refine bf (Cs (Cb (aa (I (Yo di O O ay (by omega)) (I (b9 2 cN O O (G 0 _ O)) (ai O (ae (aa (ad O ?_)))))))));refine Ld Y O Us O (λr:SP=>.tuple #[.agg #[st (gI x).1.1,.slice r.1 (gI x).1.2.length r.2],.int .i64 (gI x).2]) (λo r=>Sl gV 4 o r.1 r.2 (gI x).1.2) (λw d=>Tw x w) ?_;intro a8 H az aA;refine ad O (I (Yx O O) (I (Yx O O) ?_));refine Al Y O iL λa9=>?_;refine aO 0 Y O O O jX O O O (ai O (ae (Cs (aa (ad O (I (e8 O O) (ae ?_)))))));refine Cc O (λK=>?_) (λK=>?_)
  ·have X:¬(gI x).2=0:=by simpa using K
   have Z:=Up v z X
   have aB:¬vF b=0:=by rw [Z]; exact X
   refine aa (ad O (ai O (ai O (ai O (ae (aX (Er (cj (Er (Er (cj (Er ?_))))))))))));refine WE.pX O O O O λw' d=>?_;exact ⟨by rw [jf,if_neg (by simpa using f),if_pos aB,Z]<;>rfl,d.fr⟩
  have aC:(gI x).2=0:=by simpa using K
  refine bf (Cr (ad O (I (b8 0 O O iM O) ?_)));refine Lb Y O r3 O O O O λa_=>?_;refine cD 0 (.cells (tC ((gI x).1,H)).toArray 65 (0,0)) O (O) ?_;refine LA (((gI x).1,H)) 2 0 Y O r3 O O O O O O (by omega) (by omega) λaD aE=>?_;refine WL.hE λaF aG aH aI=>?_;refine ai O (Ln (Eb (Et (Cr (I (Yi O O O (by omega)) (ad O (Ln ?_)))))))
  exact Ea (⟨g.i+1,g.es++[((gI x).1,H)],(aD,aE),aF⟩:Jy) (by show _-(g.i+1)<_; omega) ⟨by show g.i+1<=_; omega,by unfold gK at u ⊢; rw [List.map_append,u,a' z]; simp,Uo v z aC,aI w az ar,λy L=>by
    rcases List.mem_append.1 L with k | k
    · exact oO aH (V y k)
    · rw [List.mem_singleton] at k; subst k; exact oO aG aA,by simp [W]⟩ (sc rfl (sc rfl (sc rfl (sc rfl (sc rfl (sc rfl sn)))))) (λ_ h=>Wd 2 h)
 have ab:g.i=b.length:=by simp at F; omega
 rw [ab,List.take_length] at u v;have n:vF b=0:=l1.2 v
 have aJ:g.es.length=(gK b).length:=by unfold gK; rw [List.length_map,W,ab]
 rw [aJ];have M:=qI s
 have M:wM (cc s).1<=109951162777:=by omega
 refine Ce (Ex (Ex (cp (Et (Cs ?_)))));refine WC.lV (rd:=Cq) 0 O Jp (λ_ _ _ _ h=>h) λba aK=>?_;refine WC.hE λac aL aM bb=>?_
 have aN:Sl pP 2 ac g.r.1 g.r.2 (gK b):=by
   have af:=Jq aK aL λy L=>oO aM (V y L);rw [u] at af;exact af
 refine Cr (I (b8 0 O O hQ O) ?_);refine Ld Y O BZ O (λr:SP=>.tuple #[.agg #[st (ao (cc s).1).1.1,.slice r.1 (ao (cc s).1).1.2.length r.2],.int .i64 (ao (cc s).1).2]) (λC r=>Sl gV 4 C r.1 r.2 (ao (cc s).1).1.2) (λw d=>BH t 7 6 D (cc s).1 w (d.vs _ (by simp)) U M) ?_;intro aP ag bc aQ;refine ad O (I (Yx O O) (I (Yx O O) ?_));refine Al Y O iL λbd=>?_;refine aO 0 Y O O O jX O O O (ai O (ae (Cs (aa (ad O (I (e8 O O) (ae ?_)))))));refine Cc O (λN=>?_) (λN=>?_)
 ·have aR:¬(ao (cc s).1).2=0:=by simpa using N
  refine aa (ad O (ai O (ai O (ai O (ae (aX (Er ?_)))))));refine WE.pX O O O O λw' d=>?_;exact ⟨by rw [jf,if_neg (by simpa using f),if_neg (by simpa using n),if_pos aR]<;>rfl,d.fr⟩
 have p:(ao (cc s).1).2=0:=by simpa using N
 refine bf (aa (I (b8 1 O O hQ O) (ad O ?_)))
 refine Ld Y O r2 O (λr:ih=>.tuple #[.agg (eE (cx (cc s).1 (gK b)).1 r).toArray,.int .i64 (cx (cc s).1 (gK b)).2]) (λo r=>hI (7+1) (6+1) o r (cx (cc s).1 (gK b)).1) (λw d=>by
     skip
     exact rW t ac 7 6 D (cc s).1 g.r.1 g.r.2 (gK b) w (d.vs _ (by simp)) (d.vs _ (by simp)) U aN M) ?_
 intro aS aT be aU;refine ad O (I (Yx O O) (I (Yx O O) ?_));refine Al Y O kF λbg=>?_;refine aO 0 Y O O O kG O O O (ai O (ae (Cs (aa (ad O (I (e8 O O) (ae ?_)))))));refine Cc O (λP=>?_) (λP=>?_)
 ·have aV:¬(cx (cc s).1 (gK b)).2=0:=by simpa using P
  refine aa (ad O (ai O (ai O (ai O (ae (aX (Er ?_)))))));refine WE.pX O O O O λw' d=>?_;exact ⟨by rw [jf,if_neg (by simpa using f),if_neg (by simpa using n),if_neg (by simpa using p),if_pos aV]<;>rfl,d.fr⟩
 have A:(cx (cc s).1 (gK b)).2=0:=by simpa using P
 refine bf (aa (I (b8 0 O O gh O) ?_));refine Ld Y O JB O (λr:kZ=>.tuple #[.agg (hL (hT (cx (cc s).1 (gK b)).1) r).toArray,.int .i64 (eb (cx (cc s).1 (gK b)).1).2]) (λo r=>mC o r (hT (cx (cc s).1 (gK b)).1)) (λw d=>I6 aS 8 7 (cx (cc s).1 (gK b)).1 aT w (d.vs _ (by simp)) aU (by have:=F_ (m:=(cc s).1) (fs:=(gK b)); have:=qI s; omega)) ?_;intro aW aY bh aZ;refine ad O (I (Yx O O) (I (Yx O O) ?_));refine Al Y O nO λbi=>?_;refine aO 0 Y O O O oQ O O O (ai O (ae (Cs (aa (ad O (I (e8 O O) (ae ?_)))))));refine Cc O (λQ=>?_) (λQ=>?_)
 ·have a0:¬(eb (cx (cc s).1 (gK b)).1).2=0:=by simpa using Q
  refine aa (ad O (ai O (ai O (ai O (ae (aX (Er ?_)))))));refine WE.pX O O O O λw' d=>?_;exact ⟨by rw [jf,if_neg (by simpa using f),if_neg (by simpa using n),if_neg (by simpa using p),if_neg (by simpa using A),if_pos a0]<;>rfl,d.fr⟩
 have R:(eb (cx (cc s).1 (gK b)).1).2=0:=by simpa using Q
 refine bf (aa (I (b8 0 O O mj O) (Lp Y O Ut O (λw d=>S9 aW (hT (cx (cc s).1 (gK b)).1) aY w (d.vs _ (by simp)) aZ) (ad O (I (Yx O O) (I (Yx O O) (ai O (ai O ?_))))))));refine ae (Cs (aa (ad O (I (e8 O O) (ae ?_)))));refine Cc O (λS=>?_) (λS=>?_)
 ·have a1:¬(oi (hT (cx (cc s).1 (gK b)).1)).2=0:=by simpa using S
  refine aa (ad O (ai O (ai O (ai O (ae (aX (Er ?_)))))));refine WE.pX O O O O λw' d=>?_;exact ⟨by rw [jf,if_neg (by simpa using f),if_neg (by simpa using n),if_neg (by simpa using p),if_neg (by simpa using A),if_neg (by simpa using R),if_pos a1]<;>rfl,d.fr⟩
 have aj:(oi (hT (cx (cc s).1 (gK b)).1)).2=0:=by simpa using S
 refine bf (aa (I (b8 2 O O iM O) (Lp Y O Uu O (λw d=>Tp aP ag.1 ag.2 (ao (cc s).1).1.1 (ao (cc s).1).1.2 w (d.vs _ (by simp)) aQ) (ad O (I (Yx O O) (I (Yx O O) (ai O (ai O ?_))))))));refine ae (Cs (aa (ad O (I (e8 O O) (ae ?_)))));refine Cc O (λT=>?_) (λT=>?_)
 ·have a2:¬(pT (ao (cc s).1).1.1 (ao (cc s).1).1.2).2=0:=by simpa using T
  refine aa (ad O (ai O (ai O (ai O (ae (aX (Er ?_)))))));refine WE.pX O O O O λw' d=>?_;exact ⟨by rw [jf,if_neg (by simpa using f),if_neg (by simpa using n),if_neg (by simpa using p),if_neg (by simpa using A),if_neg (by simpa using R),if_neg (by simpa using aj),if_pos a2]<;>rfl,d.fr⟩
 have a3:(pT (ao (cc s).1).1.1 (ao (cc s).1).1.2).2=0:=by simpa using T
 refine bf (aa (ad O (ad O (ai O (ai O (ai O (ae (aX ?_))))))));refine WE.pX O O O O λw' d=>?_;exact ⟨by rw [jf,if_neg (by simpa using f),if_neg (by simpa using n),if_neg (by simpa using p),if_neg (by simpa using A),if_neg (by simpa using R),if_neg (by simpa using aj),if_neg (by simpa using a3)]<;>rfl,d.fr⟩
theorem Uv {P:Program} {l:List (Nat×Value)} {W:World->Prop} {d:Option Tmp} {ty:TypeId} {pos:String} {af:Array Edge} {g:Option (Nat×Bool)} {t u:TypeId} {x y:Operand} {k:IntKind} {a b:Int} (c:bk l x=some (.int k a)) (e:bk l y=some (.int k b)) (h:b<a):Yl P l W ⟨d,.binOp .gtr t x y u,ty,pos,af,g⟩ (.bool true):=by
 have:=dc (P:=P) (W:=W) (d:=d) (ty:=ty) (pos:=pos) (af:=af) (g:=g) (t:=t) (u:=u) c e
 rwa [show decide (b<a)=true by simpa using h] at this
def eP:Tx:=[109,111,100,117,108,101,32,99,110,116,32,123,32,112,117,98,32,99,111,110,115,116,32,107,32,61,32,51,32,59,32,112,117,98,32,118,97,114,32,115,117,109,32,59,32,112,117,98,32,97,114,114,97,121,32,116,32,91,32,52,32,93,32,59,32,112,117,98,32,112,114,111,99,32,100,111,119,110,32,40,32,110,32,41,32,108,111,99,97,108,32,105,32,59,32,123,32,105,32,61,32,110,32,59,32,119,104,105,108,101,32,105,32,123,32,115,117,109,32,61,32,40,32,115,117,109,32,43,32,105,32,41,32,59,32,105,32,61,32,40,32,105,32,45,32,49,32,41,32,59,32,125,32,114,101,116,117,114,110,32,115,117,109,32,59,32,125,32,109,97,105,110,32,123,32,125,32,125]
theorem Uw:fH e3=0:=by decide +kernel
theorem JF:cc eP=(e3,0):=by
 have h:J (bF e3)=eP:=by decide +kernel
 rw [<-h];exact Ow Uw (by rw [h]; decide +kernel)
theorem Ux:(jf eP []).2=0:=by decide +kernel
theorem Uy:(jf eP []).1.2.length=519:=by decide +kernel
theorem Uz:(jf aH [(jf eP []).1.1]).2=0:=by decide +kernel
theorem UA:300<(jf aH [(jf eP []).1.1]).1.2.length:=by decide +kernel
def bQ:List Nat×Int:=([1,0],0)
def dL:List (Tx×fp):=[(e3.nm,(ao e3).1)]
theorem UB:ho [aA,e3]=0:=by decide +kernel
theorem UC:qV [aA,e3] bQ:=by
 refine .inr ⟨UB,[1,0],⟨?_,.inl O⟩,O⟩;have a:jn [aA,e3] ([]++[1]):=.snoc .nil ⟨by decide,by decide +kernel,by decide +kernel⟩;have b:jn [aA,e3] ([1]++[0]):=.snoc a ⟨by decide,by decide +kernel,by decide +kernel⟩;exact b
theorem JH:fW [aH,eP]=[aA,e3]:=by
 show [(cc aH).1,(cc eP).1]=_
 rw [JF]; rfl
theorem UD:lE [aH,eP]=0:=AZ (by decide) λs a=>by
 rcases List.mem_cons.1 a with e | a
 · subst e; exact Ij
 · rw [List.mem_singleton] at a; subst a; rw [JF]
theorem UE:(aC [] e3).2=0:=by decide +kernel
theorem UF:(aC dL aA).2=0:=by decide +kernel
theorem UG:(aC dL aA).1.nm=[116,111,112]:=by decide +kernel
theorem UH {m a:aZ} (h:(aC [] m).2=0) (b:(aC [(m.nm,(ao m).1)] a).2=0):fV [m,a] []=([(aC [] m).1,(aC [(m.nm,(ao m).1)] a).1],0):=by
 rw [Gc,AV h,AV b]; rfl
theorem UI:∀r,kL [aH,eP] r->r=([(aC [] e3).1,(aC dL aA).1],0):=λr h=>by
 rcases h with ⟨b,_⟩ | ⟨_,q,a,rfl⟩
 · exact absurd UD b
 · rw [JH] at a
   have:=Jk a UC;subst this;rw [mK,if_neg (by simp [bQ]),JH];exact UH UE UF
theorem UJ:(aC [] e3).1=(cx e3 []).1:=by
 have h:(ao e3).2=0:=by rw [R9]
 rw [AX h]; rfl
theorem JI:ho [aA]=5:=by decide +kernel
theorem UK:∀r,kL [aH] r->r=([],5):=λr h=>by
 rcases h with ⟨b,_⟩ | ⟨_,q,c,rfl⟩
 · exact absurd (AZ (by decide) λs a=>by rw [List.mem_singleton] at a; subst a; exact Ij) b
 · rcases c with ⟨_,rfl⟩ | ⟨d,_⟩
   · show mK _ ([],ho [aA])=_
     rw [JI]; rfl
   · exact absurd (show ho [aA]=0 from d) (by rw [JI]; decide)
theorem UL:(gy ([(aC [] e3).1,(aC dL aA).1],0)).2=0:=by decide +kernel
theorem UM:(gy ([(aC [] e3).1,(aC dL aA).1],0)).1.2=5:=by decide +kernel
theorem JJ {α β a:Type} {x:(α×β)×a} {c:a} (h:x.2=c):x=((x.1.1,x.1.2),c):=by obtain ⟨⟨_,_⟩,_⟩:=x; subst h; rfl
theorem UN {C:Tx->List Tx->(Tx×Tx)×Int} {s t:Tx} (d:(C s []).2=0) (e:(C s []).1.2.length=519) (f:(C t [(C s []).1.1]).2=0) (g:300<(C t [(C s []).1.1]).1.2.length):∃a b h c:Tx,C s []=((a,b),0)/\b.length=519/\C t [a]=((h,c),0)/\300<c.length:=
 ⟨_,_,_,_,JJ d,e,JJ f,g⟩
theorem UO {x:(List bG×Int)×Int} {d e:Int} (a:x.1.2=d) (b:x.2=e):x=((x.1.1,d),e):=by
 obtain ⟨⟨c,f⟩,g⟩:=x;subst a b
 rfl
theorem UP {B:List bK×Int->(List bG×Int)×Int} {a b:bK} (c:(B ([a,b],0)).1.2=5) (d:(B ([a,b],0)).2=0):∃e,B ([a,b],0)=((e,5),0):=⟨_,UO c d⟩
theorem UQ:∃(e f h g:Tx) (i j:bK) (k:List bG),jf eP []=((e,f),0)/\f.length=519/\jf aH [e]=((h,g),0)/\300<g.length/\(∀r,kL [aH,eP] r->r=([i,j],0))/\(cx e3 []).1=i/\j.nm=[116,111,112]/\gy ([i,j],0)=((k,5),0)/\(∀r,kL [aH] r->r=([],5)):=by
 obtain ⟨e,f,h,g,a,b,c,d⟩:=UN (C:=jf) Ux Uy Uz UA;obtain ⟨k,l⟩:=UP (B:=gy) UM UL;exact ⟨e,f,h,g,(aC [] e3).1,(aC dL aA).1,k,a,b,c,d,UI,UJ.symm,UG,l,UK⟩
theorem vG:an Tryz.prog 33 1=some 1:=by kernel_rfl
theorem lX:Enters Tryz.prog 36:=enters_of Tryz.func36 (by kernel_rfl) rfl
theorem JK:Enters Tryz.prog 8:=enters_of Tryz.func8 (by kernel_rfl) rfl
theorem JL:Enters Tryz.prog 12:=enters_of Tryz.func12 (by kernel_rfl) rfl
theorem UR:Enters Tryz.prog 38:=enters_of Tryz.func38 (by kernel_rfl) rfl
theorem US:Enters Tryz.prog 15:=enters_of Tryz.func15 (by kernel_rfl) rfl
theorem JM:Enters Tryz.prog 10:=enters_of Tryz.func10 (by kernel_rfl) rfl
theorem l4 (w:World) :
   Calls Tryz.prog 36 #[] w λe w'=>e = .returned (st eP)/\Ext w w':=by
 refine enter Tryz.func36 O 1 O O ?_;refine CE (Vs:=[]) (Ws.init (by simp)) (aa (ai O (ae (aa (ai O (ae (aX ?_)))))));refine R1 O O λw' a=>?_;exact ⟨O,a.fr⟩
theorem JN (b:View) (w:World) (D:Le b w) (n:Laid b) :
   Calls Tryz.prog 10 #[] w λe w'=>e = .returned (.bool true)/\Ext w w':=by
 refine enter Tryz.func10 O 101 O O ?_;refine CE (Vs:=[b]) (Ws.init (by simp [D])) (aa (ai O (ae (Cs ?_))));obtain ⟨u,aq,ar,au,y,E,z,F,G,H,av,A,J,K,L,M⟩:=UQ;refine Cr (Lp Y O lX O (λw a=>l4 w) ?_)
 refine Lp Y O JK O (λw a=>by
     have j:=JE b b eP none 0 [] w (a.vs _ (by simp)) (a.vs _ (by simp)) n Sl.nil (by simp);rw [F] at j;dsimp only at j
     exact j) ?_
 refine ad O (I (Yx O O) (I (Yx O O) (I (Yx O O) (ai O (ai O (ai O (ae (aa ?_))))))));refine Lp Y O vw O (λw a=>ht w) (ad O ?_);refine Lb Y O dT O O O O λN=>?_;refine cD 0 (.cells ((([u]:List Tx)).flatMap dD).toArray 9 (0,0)) O O (LW (λ_ h=>h.nY (f:=dD) (xs:=([u]:List Tx)) (c:=1) 0 O iA O (by decide)) ?_);refine WL.lV (rd:=rdStr) 0 O iA (λ_ _ _ _ h=>h) λP Q=>?_
 refine Lp Y O JK O (λw a=>by
     have j:=JE P b aH (some ⟨N,0,none⟩) 1 [u] w (a.vs _ (by simp)) (a.vs _ (by simp)) n Q (by simp);rw [H] at j;dsimp only at j
     exact j) ?_
 refine ad O (I (Yx O O) (I (Yx O O) (I (Yx O O) (ai O (ai O (ai O (ae (aa ?_))))))));refine Lp Y O vw O (λw a=>ht w) (Lp Y O lX O (λw a=>l4 w) ?_);refine Lb Y O dT O O O O λR=>?_;refine cD 0 (.cells ((([aH,eP]:List Tx)).flatMap dD).toArray 9 (0,0)) O O (LW (λ_ h=>h.nY (f:=dD) (xs:=([aH,eP]:List Tx)) (c:=2) 0 O iA O (by decide)) ?_);refine WL.lV (rd:=rdStr) 0 O iA (λ_ _ _ _ h=>h) λS T=>?_
 refine Ld Y O yo O (λs:SP=>.tuple #[.slice s.1 2 s.2,.int .i64 0]) (λk s=>Sl (qL 8 7) 5 k s.1 s.2 [y,E]) (λw a=>(yn S b (some ⟨R,0,none⟩) 2 [aH,eP] w (a.vs _ (by simp)) (a.vs _ (by simp)) n T).mono λe w' ⟨⟨s,q⟩,l,o,m,p⟩=>by
     have r:=A q p;subst r
     exact ⟨s,l,o,m⟩) ?_
 intro U aw ax t;obtain ⟨ay,az,V,W,X,Z⟩:=t.bJ 0 _ rfl;obtain ⟨aA,aB,ab,aC,ac,aD⟩:=t.bJ 1 _ rfl;have aE:=t.cap;have aF:=t.max;refine ad O (I (Yx O O) (I (Yx O O) (ai O (ai O (ae (aa (Lp Y O vw O (λw a=>ht w) (Lp Y O lX O (λw a=>l4 w) ?_))))))));refine Lb Y O dT O O O O λaf=>?_;refine cD 0 (.cells ((([aH,eP]:List Tx)).flatMap dD).toArray 9 (0,0)) O O (LW (λ_ h=>h.nY (f:=dD) (xs:=([aH,eP]:List Tx)) (c:=2) 0 O iA O (by decide)) ?_);refine WL.lV (rd:=rdStr) 0 O iA (λ_ _ _ _ h=>h) λag ah=>?_
 refine Ld Y O JL O (λs:SP=>.tuple #[.agg #[.slice s.1 z.length s.2,.int .i64 5],.int .i64 0]) (λk s=>Sl gv 3 k s.1 s.2 z) (λw a=>(JD ag b (some ⟨af,0,none⟩) 2 [aH,eP] w (a.vs _ (by simp)) (a.vs _ (by simp)) n ah).mono λe w' ⟨⟨s,q⟩,l,o,m,p⟩=>by
     have r:=A q p;subst r;dsimp only at l m;rw [L] at l m
     exact ⟨s,l,o,m⟩) ?_
 intro aG aI aJ aK;refine ad O (I (Yx O O) (I (Yx O O) ?_));refine Al Y O oW λaL=>?_;refine aO 0 Y O O O pS O O O (ai O (ae (aa (Lp Y O vw O (λw a=>ht w) ?_))));refine Lb Y O dT O O O O λaj=>?_;refine cD 0 (.cells ((([aH]:List Tx)).flatMap dD).toArray 9 (0,0)) O O (LW (λ_ h=>h.nY (f:=dD) (xs:=([aH]:List Tx)) (c:=1) 0 O iA O (by decide)) ?_);refine WL.lV (rd:=rdStr) 0 O iA (λ_ _ _ _ h=>h) λak al=>?_
 refine Ld Y O yo O (λs:SP=>.tuple #[.slice s.1 0 s.2,.int .i64 5]) (λk s=>Sl (qL 8 7) 5 k s.1 s.2 ([]:List bK)) (λw a=>(yn ak b (some ⟨aj,0,none⟩) 1 [aH] w (a.vs _ (by simp)) (a.vs _ (by simp)) n al).mono λe w' ⟨⟨s,q⟩,l,o,m,p⟩=>by
     have r:=M q p;subst r
     exact ⟨s,l,o,m⟩) ?_
 intro aM aN aP aQ;refine ad O (I (Yx O O) (I (Yx O O) (ai O (ai O (ae (Cs ?_))))));refine WC.ld [(0,true),(1,true),(2,true),(3,true),(4,true),(5,true),(6,true),(7,true),(8,true),(9,true),(10,true),(11,true),(12,true),(13,true),(14,true),(15,true),(16,true),(17,true),(18,true),(19,true),(20,true),(21,true),(22,true),(23,true),(24,true),(25,true),(26,true),(27,true),(28,true),(29,true),(30,true),(31,true),(32,true),(33,true),(34,true),(35,true),(36,true),(37,true),(38,true),(39,true),(40,true),(41,true),(42,true),(43,true),(44,false),(45,true),(46,false),(47,false),(48,true),(49,true),(50,true),(51,true),(52,true),(53,true),(54,true)] mixed (by kernel_rfl) (λ_ _ _ d _ h=>by cases d<;>exact h) ?_;refine D0 O (λ_ h=>h) (Ym O) (D0 O (λ_ h=>h) (mw O O O) (D0 O (λ_ h=>h) (Ym O) ?_));apply WD.and 2 (x:=true) O O O O O Y O (λ_ h=>h) O O O O
 ·intro aR;refine Dq O (.g O O O) O (λ_ h=>h) (Ym O) (Dq O (.g O O O) O (λ_ h=>h) (mw O O O) ?_);exact Gi 2 (λ_ h=>h) O O O
 refine D0 O (λ_ h=>h) (Ym O) ?_;apply WD.and 2 (x:=true) O O O O O Y O (λ_ h=>h) O O O O
 ·intro aS;refine Dq O (.g O O O) O (λ_ h=>h) (Ym O) (Dq O (.g O O O) O (λ_ h=>h) (mw O O O) ?_);exact Gi 2 (λ_ h=>h) O O O
 refine D0 O (λ_ h=>h) (Ym O) ?_;apply WD.and 2 (x:=true) O O O O O Y O (λ_ h=>h) O O O O
 ·intro aU;refine Dq O (.g O O O) O (λ_ h=>h) (Ym O) (Dq O (.g O O O) O (λ_ h=>h) (mw O O O) ?_);exact Gi 2 (λ_ h=>h) O O O
 refine D0 O (λ_ h=>h) (Ym O) ?_;apply WD.and 2 (x:=true) O O O O O Y O (λ_ h=>h) O O O O
 ·intro aV;refine Dq O (.g O O O) O (λ_ h=>h) (Ym O) (Dq O (.g O O O) O (λ_ h=>h) (mw O O O) ?_);exact Gi 2 (λ_ h=>h) O O O
 refine D0 O (λ_ h=>h) (Ym O) ?_;apply WD.and 3 (x:=true) O O O O O Y O (λ_ h=>h) O O O O
 ·intro aW;refine Dq O (.g O O O) O (λ_ h=>h) (Ym O) (Dq O (.g O O O) O (λ_ h=>h) (mX dO O) (Dq O (.g O O O) O (λ_ h=>h) (mw O O (by rw [G]; rfl)) ?_));exact Gi 3 (λ_ h=>h) O O O
 refine D0 O (λ_ h=>h) (Ym O) ?_;apply WD.and 3 (x:=true) O O O O O Y O (λ_ h=>h) O O O O
 ·intro aY;refine Dq O (.g O O O) O (λ_ h=>h) (Ym O) (Dq O (.g O O O) O (λ_ h=>h) (mX dO O) (Dq O (.g O O O) O (λ_ h=>h) (Uv O O (by omega)) ?_));exact Gi 3 (λ_ h=>h) O O O
 refine D0 O (λ_ h=>h) (Ym O) ?_;apply WD.and 3 (x:=true) O O O O O Y O (λ_ h=>h) O O O O
 ·intro aZ;refine Dq O (.g O O O) O (λ_ h=>h) (Ym O) (Dq O (.g O O O) O (λ_ h=>h) (Yn jZ O) (Dq O (.g O O O) O (λ_ h=>h) (mw O O O) ?_));exact Gi 3 (λ_ h=>h) O O O
 refine D0 O (λ_ h=>h) (Ym O) ?_;apply WD.and 5 (x:=true) O O O O O Y O (λ_ h=>h) O O O O
 ·intro a0;refine Dq O (.g O O O) O (λ_ h=>h) (Ym O) (Dq O (.g O O O) O (λ_ h=>h) (Yo (i:=1) jZ O O ab (by decide)) (Dq O (.g O O O) O (λ_ h=>h) (Yf qG O) (Dq O (.g O O O) O (λ_ h=>h) (b9 4 cN O O (ac 0 _ O)) (Dq O (.g O O O) O (λ_ h=>h) (LF O O K) ?_))));exact Gi 5 (λ_ h=>h) O O O
 refine D0 O (λ_ h=>h) (Ym O) ?_;apply WD.and 7 (x:=true) O O O O O Y O (λ_ h=>h) O O O O
 ·intro a1;refine Dq O (.g O O O) O (λ_ h=>h) (Ym O) (Dq O (.g O O O) O (λ_ h=>h) (Yo (i:=0) jZ O O V (by decide)) (Dq O (.g O O O) O (λ_ h=>h) (dj 4 gh O O O (X)) ?_));refine De O (λ_ h=>h) ?_;refine Ld (.g O O O) O UR O (λq:SP=>.slice q.1 2 q.2) (λk q=>Sl (qL 8 7) 5 k q.1 q.2 IM) (λw a=>SJ b w (a.vs _ (by simp)) n) ?_;intro am a2 a3 v;obtain ⟨a4,a5,an,ao,B,C⟩:=v.bJ 0 _ rfl;have a6:=v.cap;have a7:=v.max;rw [J] at B C;refine Ln (Ed (Dq O (.g O O O) O (λ_ h=>(Wv 1 h:)) (Yo (i:=0) jZ O O an (by decide)) ?_));refine De O (λ_ h=>(Wv 1 h:)) ?_;refine Vg (dj 0 gh O O O (B)) (Ln (Ed ?_));refine De O (λ_ h=>(Wv 1 h:)) ?_;refine Lp (.g O O O) O US O (λw a=>R7 U am 8 8 7 7 W ao y w (a.vs _ (by simp)) (a.vs _ (by simp)) Z C) (Ln (Ed ?_));refine WD.wk (W':=Ws _ _ [_] [_,_,_,_,_,_,_,_]) (λ_ h=>Ws.cv (h) (λ_ ap=>List.mem_append_right [_] ap)) ?_;exact Gi 7 (λ_ h=>h) O O O
 refine D0 O (λ_ h=>h) (Ym O) ?_;apply WD.and 3 (x:=true) O O O O O Y O (λ_ h=>h) O O O O
 ·intro a8;refine Dq O (.g O O O) O (λ_ h=>h) (Yf vG O) (Dq O (.g O O O) O (λ_ h=>h) (Yd 0 O O O aT) (Dq O (.g O O O) O (λ_ h=>h) (mw O O O) ?_));exact Gi 3 (λ_ h=>h) O O O
 refine D0 O (λ_ h=>h) (Ya O) ?_;refine WD.nil (λ_ h=>h) ?_;refine Et (aX ?_);refine R1 O O λw' a=>?_;exact ⟨O,a.fr⟩
end Go.Proofs.YtccenighnmfhgaaGreatDoor
end
