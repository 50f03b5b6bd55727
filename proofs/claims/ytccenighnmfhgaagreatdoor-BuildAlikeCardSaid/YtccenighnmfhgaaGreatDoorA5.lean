/- BuildAlike: Build tells the same image, in whatever order the texts are. -/
import Derived.Test.YtccenighnmfhgaaGreatDoorA4
set_option linter.unusedVariables false
set_option linter.unusedSimpArgs false
section
namespace Go.Proofs.YtccenighnmfhgaaGreatDoor
open Go.Bw
theorem fR:eo Tryz.prog 203=some 5:=by kernel_rfl
theorem jy:dQ Tryz.prog 203=true:=by kernel_rfl
theorem acC:Enters Tryz.prog 114:=enters_of Tryz.func114 (by kernel_rfl) rfl
theorem gZ:eo Tryz.prog 38=some 7:=by kernel_rfl
theorem Dy:bw Tryz.prog 205 0=some 0:=by kernel_rfl
theorem jO:dQ Tryz.prog 38=true:=by kernel_rfl
theorem Ml:Enters Tryz.prog 45:=enters_of Tryz.func45 (by kernel_rfl) rfl
theorem Dz:bw Tryz.prog 40 0=some 0:=by kernel_rfl
theorem DA:bw Tryz.prog 40 1=some 1:=by kernel_rfl
theorem ar3:Enters Tryz.prog 44:=enters_of Tryz.func44 (by kernel_rfl) rfl
theorem DB:bw Tryz.prog 40 2=some 2:=by kernel_rfl
theorem mT:eo Tryz.prog 37=some 3:=by kernel_rfl
theorem AT:bw Tryz.prog 89 0=some 0:=by kernel_rfl
theorem DC:bw Tryz.prog 89 1=some 1:=by kernel_rfl
theorem Mm:bw Tryz.prog 89 2=some 2:=by kernel_rfl
theorem ar4 (H1 H2:View) (a1 a2:Option Addr) (c1 c2:Nat) (k j:Nat) (l:List cH) (w:World) (pD:Le H1 w) (sI:Le H2 w) (iB:Sl (kx k) 5 H1 a1 c1 l) (iG:Sl (kx j) 5 H2 a2 c2 l) :
   Calls Tryz.prog 114 #[.slice a1 l.length c1,.slice a2 l.length c2] w λe w'=>e = .returned (.bool true)/\Ext w w':=by
 induction k using Nat.strongRecOn generalizing j a1 c1 a2 c2 l w
 rename_i k ih;have LP:=iB.cap;have LQ:=iB.max;have LR:=iG.cap;have LS:=iG.max;refine enter Tryz.func114 O 81 O O ?_;refine CE (Vs:=[H1,H2]) (Ws.init (by simp [pD,sI])) (ad (ae O (ab (Cs (ad (aa O (V0 (Yn fR O) (aa O (V0 (Yn fR O) ?_)))))))));refine V0 (mA O O O) (ab ?_);refine WC.lj O ?_;refine aE (Cs (ad (ae O (ab (Cb ?_)))));refine CW (ι:=Nat) (λi=>[(5,.int .i64 (i:Int))]) [(0,_),(1,_)] (λi=>i<=l.length) (λi=>l.length-i) 0 (Nat.zero_le _) (sc O (sc O (sc O sn))) ?_;intro i hi;refine Cs (ad (aa O (aa O (V0 (Yn fR O) (V0 (bj O O) (ab ?_))))));refine Cc O (λaw=>?_) (λaw=>?_)
 ·have av:i<l.length:=by simpa using aw
  obtain ⟨x,hx⟩:∃x,l[i]? = some x:=⟨_,List.getElem?_eq_getElem av⟩;obtain ⟨pb,po,j6,ez⟩:=iB.aS i x hx;obtain ⟨qb,qo,gk,eV⟩:=iG.aS i x hx
  obtain ⟨k2,rfl⟩:∃k2,k=k2+1:=by
    cases k with
    | zero=>exact ez.elim
    | succ k2=>exact ⟨k2,rfl⟩
  obtain ⟨j2,rfl⟩:∃k2,j=k2+1:=by
    cases j with
    | zero=>exact eV.elim
    | succ k2=>exact ⟨k2,rfl⟩
  obtain ⟨u1,n1,ez,iE⟩:=ez;obtain ⟨u2,n2,eV,gX⟩:=eV;refine aE (Cs (Cb (Cs ?_)));refine WC.nc [(0,true),(1,true),(2,true),(3,true),(4,true),(5,true),(6,true),(7,true),(8,true),(9,true),(10,true),(11,true),(12,true),(13,true),(14,true),(15,true),(16,true),(17,true),(18,true),(19,true),(20,true),(21,true),(22,true),(23,true),(24,true),(25,true),(26,true),(27,true),(28,true),(29,true),(30,true),(31,true),(32,true),(33,true),(34,true),(35,true),(36,true),(37,true),(38,true),(39,true),(40,true),(41,true),(42,true),(43,true),(44,true),(45,true),(46,true),(47,true),(48,true),(49,true),(50,true),(51,true),(52,true),(53,true),(54,true),(55,true),(56,true),(57,true),(58,true),(59,true),(60,true),(61,false),(62,true),(63,true)] mixed (by kernel_rfl) (λ_ _ _ d _ h=>by cases d<;>exact h) ?_;refine D0 O (λ_ h=>h) (Ym O) (D0 O (λ_ h=>h) (Ym O) (D0 O (λ_ h=>h) (Yo fR O O j6 (by omega)) (D0 O (λ_ h=>h) (Yf qK O) (D0 O (λ_ h=>h) (bo 0 ar O O (ez 0 _ O)) (D0 O (λ_ h=>h) (Ym O) (D0 O (λ_ h=>h) (Ym O) (D0 O (λ_ h=>h) (Yo fR O O gk (by omega)) ?_)))))));refine D0 O (λ_ h=>h) (Yf qK O) (D0 O (λ_ h=>h) (bo 1 ar O O (eV 0 _ O)) (D0 O (λ_ h=>h) (mA O O O) (D0 O (λ_ h=>h) (Ym O) ?_)));apply WD.or 11 (x:=false) O O O O O Y O (λ_ h=>h) O O O O
  ·intro du;refine Dq O (.g O O O) O (λ_ h=>h) (Ym O) (Dq O (.g O O O) O (λ_ h=>h) (Ym O) (Dq O (.g O O O) O (λ_ h=>h) (Yo fR O O j6 (by omega)) (Dq O (.g O O O) O (λ_ h=>h) (Yf mQ O) (Dq O (.g O O O) O (λ_ h=>h) (bo 0 ar O O (ez 1 _ O)) (Dq O (.g O O O) O (λ_ h=>h) (Ym O) (Dq O (.g O O O) O (λ_ h=>h) (Ym O) (Dq O (.g O O O) O (λ_ h=>h) (Yo fR O O gk (by omega)) ?_)))))));refine Dq O (.g O O O) O (λ_ h=>h) (Yf mQ O) (Dq O (.g O O O) O (λ_ h=>h) (bo 1 ar O O (eV 1 _ O)) (Dq O (.g O O O) O (λ_ h=>h) (mA O O O) ?_));exact Gi 11 (λ_ h=>h) O O O
  refine D0 O (λ_ h=>h) (Ym O) ?_;apply WD.or 11 (x:=false) O O O O O Y O (λ_ h=>h) O O O O
  ·intro eh;refine Dq O (.g O O O) O (λ_ h=>h) (Ym O) (Dq O (.g O O O) O (λ_ h=>h) (Ym O) (Dq O (.g O O O) O (λ_ h=>h) (Yo fR O O j6 (by omega)) (Dq O (.g O O O) O (λ_ h=>h) (Yf mR O) (Dq O (.g O O O) O (λ_ h=>h) (bo 0 ar O O (ez 2 _ O)) (Dq O (.g O O O) O (λ_ h=>h) (Ym O) (Dq O (.g O O O) O (λ_ h=>h) (Ym O) (Dq O (.g O O O) O (λ_ h=>h) (Yo fR O O gk (by omega)) ?_)))))));refine Dq O (.g O O O) O (λ_ h=>h) (Yf mR O) (Dq O (.g O O O) O (λ_ h=>h) (bo 1 ar O O (eV 2 _ O)) (Dq O (.g O O O) O (λ_ h=>h) (mA O O O) ?_));exact Gi 11 (λ_ h=>h) O O O
  refine D0 O (λ_ h=>h) (Ym O) ?_;apply WD.or 11 (x:=false) O O O O O Y O (λ_ h=>h) O O O O
  ·intro fB;refine Dq O (.g O O O) O (λ_ h=>h) (Ym O) (Dq O (.g O O O) O (λ_ h=>h) (Ym O) (Dq O (.g O O O) O (λ_ h=>h) (Yo fR O O j6 (by omega)) (Dq O (.g O O O) O (λ_ h=>h) (Yf lK O) (Dq O (.g O O O) O (λ_ h=>h) (bo 0 ar O O (ez 3 _ O)) (Dq O (.g O O O) O (λ_ h=>h) (Ym O) (Dq O (.g O O O) O (λ_ h=>h) (Ym O) (Dq O (.g O O O) O (λ_ h=>h) (Yo fR O O gk (by omega)) ?_)))))));refine Dq O (.g O O O) O (λ_ h=>h) (Yf lK O) (Dq O (.g O O O) O (λ_ h=>h) (bo 1 ar O O (eV 3 _ O)) (Dq O (.g O O O) O (λ_ h=>h) (mA O O O) ?_));exact Gi 11 (λ_ h=>h) O O O
  refine D0 O (λ_ h=>h) (Ym O) ?_;apply WD.or 12 (x:=false) O O O O O Y O (λ_ h=>h) O O O O
  ·intro l_;refine Dq O (.g O O O) O (λ_ h=>h) (Ym O) (Dq O (.g O O O) O (λ_ h=>h) (Ym O) (Dq O (.g O O O) O (λ_ h=>h) (Yo fR O O j6 (by omega)) (Dq O (.g O O O) O (λ_ h=>h) (Yf qL O) (Dq O (.g O O O) O (λ_ h=>h) (bo 0 jy O O (ez 4 _ O)) (Dq O (.g O O O) O (λ_ h=>h) (Ym O) (Dq O (.g O O O) O (λ_ h=>h) (Ym O) (Dq O (.g O O O) O (λ_ h=>h) (Yo fR O O gk (by omega)) ?_)))))));refine Dq O (.g O O O) O (λ_ h=>h) (Yf qL O) (Dq O (.g O O O) O (λ_ h=>h) (bo 1 jy O O (eV 4 _ O)) ?_);refine De O (λ_ h=>h) ?_;refine Lp (.g O O O) O acC O (λw hw=>ih k2 (by omega) u1 u2 n1 n2 j2 x.args w (hw.vs _ (by simp)) (hw.vs _ (by simp)) iE gX) (Ln (Ed (Dq O (.g O O O) O (λ_ h=>h) (dK O) ?_)));exact Gi 12 (λ_ h=>h) O O O
  refine WD.nil (λ_ h=>h) ?_;refine Et ?_;refine WC.lj O ?_;refine Ck (Eb (Et (Cr (aa O (V0 (Yi O O O (by omega)) (ae O (Ln ?_)))))));exact Ea (i+1) (by omega) (by omega) (sc O (sc O (sc O sn))) (λ_ h=>h)
 refine Ce (Ex (Ex (bA (Et (ad (ae O (ab (aA ?_))))))));refine R1 O O λw' hw=>?_;exact ⟨O,hw.fr⟩
theorem acD (H1 H2:View) (a1 a2:Option Addr) (c1 c2:Nat) (DD DE k j:Nat) (l:List cA) (w:World) (pD:Le H1 w) (sI:Le H2 w) (iB:Sl (iP DD k) 7 H1 a1 c1 l) (iG:Sl (iP DE j) 7 H2 a2 c2 l) :
   Calls Tryz.prog 45 #[.slice a1 l.length c1,.slice a2 l.length c2] w λe w'=>e = .returned (.bool true)/\Ext w w':=by
 induction k using Nat.strongRecOn generalizing j a1 c1 a2 c2 l w
 rename_i k ih;have LP:=iB.cap;have LQ:=iB.max;have LR:=iG.cap;have LS:=iG.max;refine enter Tryz.func45 O 109 O O ?_;refine CE (Vs:=[H1,H2]) (Ws.init (by simp [pD,sI])) (ad (ae O (ab (Cs (ad (aa O (V0 (Yn gZ O) (aa O (V0 (Yn gZ O) ?_)))))))));refine V0 (mA O O O) (ab ?_);refine WC.lj O ?_;refine aE (Cs (ad (ae O (ab (Cb ?_)))));refine CW (ι:=Nat) (λi=>[(5,.int .i64 (i:Int))]) [(0,_),(1,_)] (λi=>i<=l.length) (λi=>l.length-i) 0 (Nat.zero_le _) (sc O (sc O (sc O sn))) ?_;intro i hi;refine Cs (ad (aa O (aa O (V0 (Yn gZ O) (V0 (bj O O) (ab ?_))))));refine Cc O (λaw=>?_) (λaw=>?_)
 ·have av:i<l.length:=by simpa using aw
  obtain ⟨x,hx⟩:∃x,l[i]? = some x:=⟨_,List.getElem?_eq_getElem av⟩;obtain ⟨pb,po,j6,ez⟩:=iB.aS i x hx;obtain ⟨qb,qo,gk,eV⟩:=iG.aS i x hx
  obtain ⟨k2,rfl⟩:∃k2,k=k2+1:=by
    cases k with
    | zero=>exact ez.elim
    | succ k2=>exact ⟨k2,rfl⟩
  obtain ⟨j2,rfl⟩:∃k2,j=k2+1:=by
    cases j with
    | zero=>exact eV.elim
    | succ k2=>exact ⟨k2,rfl⟩
  obtain ⟨u,ez,iE,gX,kF⟩:=ez;obtain ⟨v,eV,ht1,ht2,ht3⟩:=eV;refine aE (Cs (Cb (Cs ?_)));refine WC.nc [(0,true),(1,true),(2,true),(3,true),(4,true),(5,true),(6,true),(7,true),(8,true),(9,true),(10,true),(11,true),(12,true),(13,true),(14,true),(15,true),(16,true),(17,true),(18,true),(19,true),(20,true),(21,true),(22,true),(23,true),(24,true),(25,true),(26,true),(27,true),(28,true),(29,true),(30,true),(31,true),(32,true),(33,true),(34,true),(35,true),(36,true),(37,true),(38,true),(39,true),(40,true),(41,true),(42,true),(43,true),(44,true),(45,true),(46,true),(47,true),(48,true),(49,true),(50,true),(51,true),(52,true),(53,true),(54,true),(55,true),(56,true),(57,true),(58,true),(59,true),(60,true),(61,false),(62,true),(63,true),(64,true),(65,true),(66,true),(67,true),(68,true),(69,true),(70,true),(71,true),(72,true),(73,true),(74,true),(75,false),(76,true),(77,true),(78,true),(79,true),(80,true),(81,true),(82,true),(83,true),(84,true),(85,true),(86,true),(87,true),(88,true),(89,false),(90,true),(91,true)] mixed (by kernel_rfl) (λ_ _ _ d _ h=>by cases d<;>exact h) ?_;refine D0 O (λ_ h=>h) (Ym O) (D0 O (λ_ h=>h) (Ym O) (D0 O (λ_ h=>h) (Yo gZ O O j6 (by omega)) (D0 O (λ_ h=>h) (Yf Dy O) (D0 O (λ_ h=>h) (bo 0 ar O O (ez 0 _ O)) (D0 O (λ_ h=>h) (Ym O) (D0 O (λ_ h=>h) (Ym O) (D0 O (λ_ h=>h) (Yo gZ O O gk (by omega)) ?_)))))));refine D0 O (λ_ h=>h) (Yf Dy O) (D0 O (λ_ h=>h) (bo 1 ar O O (eV 0 _ O)) (D0 O (λ_ h=>h) (mA O O O) (D0 O (λ_ h=>h) (Ym O) ?_)));apply WD.or 11 (x:=false) O O O O O Y O (λ_ h=>h) O O O O
  ·intro du;refine Dq O (.g O O O) O (λ_ h=>h) (Ym O) (Dq O (.g O O O) O (λ_ h=>h) (Ym O) (Dq O (.g O O O) O (λ_ h=>h) (Yo gZ O O j6 (by omega)) (Dq O (.g O O O) O (λ_ h=>h) (Yf wI O) (Dq O (.g O O O) O (λ_ h=>h) (bo 0 ar O O (ez 1 _ O)) (Dq O (.g O O O) O (λ_ h=>h) (Ym O) (Dq O (.g O O O) O (λ_ h=>h) (Ym O) (Dq O (.g O O O) O (λ_ h=>h) (Yo gZ O O gk (by omega)) ?_)))))));refine Dq O (.g O O O) O (λ_ h=>h) (Yf wI O) (Dq O (.g O O O) O (λ_ h=>h) (bo 1 ar O O (eV 1 _ O)) (Dq O (.g O O O) O (λ_ h=>h) (mA O O O) ?_));exact Gi 11 (λ_ h=>h) O O O
  refine D0 O (λ_ h=>h) (Ym O) ?_;apply WD.or 11 (x:=false) O O O O O Y O (λ_ h=>h) O O O O
  ·intro eh;refine Dq O (.g O O O) O (λ_ h=>h) (Ym O) (Dq O (.g O O O) O (λ_ h=>h) (Ym O) (Dq O (.g O O O) O (λ_ h=>h) (Yo gZ O O j6 (by omega)) (Dq O (.g O O O) O (λ_ h=>h) (Yf nO O) (Dq O (.g O O O) O (λ_ h=>h) (bo 0 ar O O (ez 2 _ O)) (Dq O (.g O O O) O (λ_ h=>h) (Ym O) (Dq O (.g O O O) O (λ_ h=>h) (Ym O) (Dq O (.g O O O) O (λ_ h=>h) (Yo gZ O O gk (by omega)) ?_)))))));refine Dq O (.g O O O) O (λ_ h=>h) (Yf nO O) (Dq O (.g O O O) O (λ_ h=>h) (bo 1 ar O O (eV 2 _ O)) (Dq O (.g O O O) O (λ_ h=>h) (mA O O O) ?_));exact Gi 11 (λ_ h=>h) O O O
  refine D0 O (λ_ h=>h) (Ym O) ?_;apply WD.or 11 (x:=false) O O O O O Y O (λ_ h=>h) O O O O
  ·intro fB;refine Dq O (.g O O O) O (λ_ h=>h) (Ym O) (Dq O (.g O O O) O (λ_ h=>h) (Ym O) (Dq O (.g O O O) O (λ_ h=>h) (Yo gZ O O j6 (by omega)) (Dq O (.g O O O) O (λ_ h=>h) (Yf oN O) (Dq O (.g O O O) O (λ_ h=>h) (bo 0 ar O O (ez 3 _ O)) (Dq O (.g O O O) O (λ_ h=>h) (Ym O) (Dq O (.g O O O) O (λ_ h=>h) (Ym O) (Dq O (.g O O O) O (λ_ h=>h) (Yo gZ O O gk (by omega)) ?_)))))));refine Dq O (.g O O O) O (λ_ h=>h) (Yf oN O) (Dq O (.g O O O) O (λ_ h=>h) (bo 1 ar O O (eV 3 _ O)) (Dq O (.g O O O) O (λ_ h=>h) (mA O O O) ?_));exact Gi 11 (λ_ h=>h) O O O
  refine D0 O (λ_ h=>h) (Ym O) ?_;apply WD.or 12 (x:=false) O O O O O Y O (λ_ h=>h) O O O O
  ·intro l_;refine Dq O (.g O O O) O (λ_ h=>h) (Ym O) (Dq O (.g O O O) O (λ_ h=>h) (Ym O) (Dq O (.g O O O) O (λ_ h=>h) (Yo gZ O O j6 (by omega)) (Dq O (.g O O O) O (λ_ h=>h) (Yf pG O) (Dq O (.g O O O) O (λ_ h=>h) (bo 0 jy O O (ez 4 _ O)) (Dq O (.g O O O) O (λ_ h=>h) (Ym O) (Dq O (.g O O O) O (λ_ h=>h) (Ym O) (Dq O (.g O O O) O (λ_ h=>h) (Yo gZ O O gk (by omega)) ?_)))))));refine Dq O (.g O O O) O (λ_ h=>h) (Yf pG O) (Dq O (.g O O O) O (λ_ h=>h) (bo 1 jy O O (eV 4 _ O)) ?_);refine De O (λ_ h=>h) ?_;refine Lp (.g O O O) O acC O (λw hw=>ar4 H1 H2 u.s1.1 v.s1.1 u.s1.2 v.s1.2 DD DE x.args w (hw.vs _ (by simp)) (hw.vs _ (by simp)) iE ht1) (Ln (Ed (Dq O (.g O O O) O (λ_ h=>h) (dK O) ?_)));exact Gi 12 (λ_ h=>h) O O O
  refine D0 O (λ_ h=>h) (Ym O) ?_;apply WD.or 12 (x:=false) O O O O O Y O (λ_ h=>h) O O O O
  ·intro vO;refine Dq O (.g O O O) O (λ_ h=>h) (Ym O) (Dq O (.g O O O) O (λ_ h=>h) (Ym O) (Dq O (.g O O O) O (λ_ h=>h) (Yo gZ O O j6 (by omega)) (Dq O (.g O O O) O (λ_ h=>h) (Yf AN O) (Dq O (.g O O O) O (λ_ h=>h) (bo 0 jO O O (ez 5 _ O)) (Dq O (.g O O O) O (λ_ h=>h) (Ym O) (Dq O (.g O O O) O (λ_ h=>h) (Ym O) (Dq O (.g O O O) O (λ_ h=>h) (Yo gZ O O gk (by omega)) ?_)))))));refine Dq O (.g O O O) O (λ_ h=>h) (Yf AN O) (Dq O (.g O O O) O (λ_ h=>h) (bo 1 jO O O (eV 5 _ O)) ?_);refine De O (λ_ h=>h) ?_;refine Lp (.g O O O) O Ml O (λw hw=>ih k2 (by omega) u.s2.1 v.s2.1 u.s2.2 v.s2.2 j2 x.body w (hw.vs _ (by simp)) (hw.vs _ (by simp)) gX ht2) (Ln (Ed (Dq O (.g O O O) O (λ_ h=>h) (dK O) ?_)));exact Gi 12 (λ_ h=>h) O O O
  refine D0 O (λ_ h=>h) (Ym O) ?_;apply WD.or 12 (x:=false) O O O O O Y O (λ_ h=>h) O O O O
  ·intro x3;refine Dq O (.g O O O) O (λ_ h=>h) (Ym O) (Dq O (.g O O O) O (λ_ h=>h) (Ym O) (Dq O (.g O O O) O (λ_ h=>h) (Yo gZ O O j6 (by omega)) (Dq O (.g O O O) O (λ_ h=>h) (Yf wJ O) (Dq O (.g O O O) O (λ_ h=>h) (bo 0 jO O O (ez 6 _ O)) (Dq O (.g O O O) O (λ_ h=>h) (Ym O) (Dq O (.g O O O) O (λ_ h=>h) (Ym O) (Dq O (.g O O O) O (λ_ h=>h) (Yo gZ O O gk (by omega)) ?_)))))));refine Dq O (.g O O O) O (λ_ h=>h) (Yf wJ O) (Dq O (.g O O O) O (λ_ h=>h) (bo 1 jO O O (eV 6 _ O)) ?_);refine De O (λ_ h=>h) ?_;refine Lp (.g O O O) O Ml O (λw hw=>ih k2 (by omega) u.s3.1 v.s3.1 u.s3.2 v.s3.2 j2 x.other w (hw.vs _ (by simp)) (hw.vs _ (by simp)) kF ht3) (Ln (Ed (Dq O (.g O O O) O (λ_ h=>h) (dK O) ?_)));exact Gi 12 (λ_ h=>h) O O O
  refine WD.nil (λ_ h=>h) ?_;refine Et ?_;refine WC.lj O ?_;refine Ck (Eb (Et (Cr (aa O (V0 (Yi O O O (by omega)) (ae O (Ln ?_)))))));exact Ea (i+1) (by omega) (by omega) (sc O (sc O (sc O sn))) (λ_ h=>h)
 refine Ce (Ex (Ex (bA (Et (ad (ae O (ab (aA ?_))))))));refine R1 O O λw' hw=>?_;exact ⟨O,hw.fr⟩
theorem ar8 (H1 H2:View) (DD DE SS SU:Nat) (r1 r2:jW) (u:b_) (w:World) (pD:Le H1 w) (sI:Le H2 w) (FJ:je DD SS H1 r1 u) (wO:je DE SU H2 r2 u) :
   Calls Tryz.prog 15 #[.agg (eG u r1).toArray,.agg (eG u r2).toArray] w λe w'=>e = .returned (.bool true)/\Ext w w':=by
 have iB:=FJ.parts;have iG:=wO.parts;have LP:=iB.cap;have LQ:=iB.max;have LR:=iG.cap;have LS:=iG.max;refine enter Tryz.func15 O 94 O O ?_;refine CE (Vs:=[H1,H2]) (Ws.init (by simp [pD,sI])) (ad ?_);refine WL.box Y O O λb2=>?_;refine WL.box Y O O λb3=>?_;refine ae O (ab (Cs (ad (V0 (Yf Dz O) (V0 (Yd 1 O O O bW) (V0 (Yf Dz O) (V0 (Yd 0 O O O bW) (V0 (Oz O O O) (aa O ?_)))))))));apply Lo 6 (x:=false) O O O O Y O O O O O
 ·intro du;refine Vg (Yf DA O) (Vg (Yd 1 O O O eE) (Vg (Yf DA O) (Vg (Yd 0 O O O eE) (Lp (.g O O O) O ar3 O (λw hw=>apD H1 H2 r1.s1.1 r2.s1.1 r1.s1.2 r2.s1.2 u.ag w (hw.vs _ (by simp)) (hw.vs _ (by simp)) FJ.ag wO.ag) (Vg (dK O) ?_)))));exact Gt 6 O O O
 refine aa O ?_;apply Lo 5 (x:=false) O O O O Y O O O O O
 ·intro eh;refine Vg (Yf DB O) (Vg (Yd 1 O O O ar) (Vg (Yf DB O) (Vg (Yd 0 O O O ar) (Vg (mA O O O) ?_))));exact Gt 5 O O O
 refine aa O ?_;apply Lo 7 (x:=false) O O O O Y O O O O O
 ·intro fB;refine Vg (Yf nP O) (Vg (Yd 1 O O O oO) (Vg (Yn mT O) (Vg (Yf nP O) (Vg (Yd 0 O O O oO) (Vg (Yn mT O) (Vg (mA O O O) ?_))))));exact Gt 7 O O O
 refine aa O ?_;apply Lo 6 (x:=false) O O O O Y O O O O O
 ·intro l_;refine Vg (Yf Hp O) (Vg (Yd 1 O O O jO) (Vg (Yf Hp O) (Vg (Yd 0 O O O jO) (Lp (.g O O O) O Ml O (λw hw=>acD H1 H2 r1.s3.1 r2.s3.1 r1.s3.2 r2.s3.2 DD DE SS SU u.main w (hw.vs _ (by simp)) (hw.vs _ (by simp)) FJ.main wO.main) (Vg (dK O) ?_)))));exact Gt 6 O O O
 refine ab ?_;refine WC.lj O ?_;refine aE (Cs (ad (ae O (ab (Cb ?_)))));refine CW (ι:=Nat) (λi=>[(5,.int .i64 (i:Int))]) [(2,_),(3,_)] (λi=>i<=u.parts.length) (λi=>u.parts.length-i) 0 (Nat.zero_le _) (sc O (sc O (sc O sn))) ?_;intro i hi;refine Cs (ad (aa O (V0 (Yf nP O) (V0 (Yd 1 O O O oO) (V0 (Yn mT O) (V0 (bj O O) (ab ?_)))))));refine Cc O (λaw=>?_) (λaw=>?_)
 ·have av:i<u.parts.length:=by simpa using aw
  obtain ⟨x,hx⟩:∃x,u.parts[i]? = some x:=⟨_,List.getElem?_eq_getElem av⟩;obtain ⟨pb,po,j6,ez⟩:=iB.aS i x hx;obtain ⟨qb,qo,gk,eV⟩:=iG.aS i x hx;obtain ⟨v1,ez,iE⟩:=ez;obtain ⟨v2,eV,gX⟩:=eV;refine aE (Cs (Cb (Cs ?_)));refine WC.nc [(0,true),(1,true),(2,true),(3,true),(4,true),(5,true),(6,true),(7,true),(8,true),(9,true),(10,true),(11,true),(12,true),(13,true),(14,true),(15,true),(16,true),(17,true),(18,true),(19,true),(20,true),(21,true),(22,true),(23,true),(24,true),(25,true),(26,true),(27,true),(28,true),(29,true),(30,true),(31,true),(32,true),(33,true),(34,true),(35,true),(36,true),(37,true),(38,true),(39,true),(40,true),(41,false),(42,true),(43,true)] mixed (by kernel_rfl) (λ_ _ _ d _ h=>by cases d<;>exact h) ?_;refine D0 O (λ_ h=>h) (Yf nP O) (D0 O (λ_ h=>h) (Yd 1 O O O oO) (D0 O (λ_ h=>h) (Ym O) (D0 O (λ_ h=>h) (Yo mT O O j6 (by omega)) (D0 O (λ_ h=>h) (Yf AT O) (D0 O (λ_ h=>h) (bo 0 ar O O (ez 0 _ O)) (D0 O (λ_ h=>h) (Yf nP O) (D0 O (λ_ h=>h) (Yd 0 O O O oO) ?_)))))));refine D0 O (λ_ h=>h) (Ym O) (D0 O (λ_ h=>h) (Yo mT O O gk (by omega)) (D0 O (λ_ h=>h) (Yf AT O) (D0 O (λ_ h=>h) (bo 1 ar O O (eV 0 _ O)) (D0 O (λ_ h=>h) (mA O O O) (D0 O (λ_ h=>h) (Ym O) ?_)))));apply WD.or 13 (x:=false) O O O O O Y O (λ_ h=>h) O O O O
  ·intro vO;refine Dq O (.g O O O) O (λ_ h=>h) (Yf nP O) (Dq O (.g O O O) O (λ_ h=>h) (Yd 1 O O O oO) (Dq O (.g O O O) O (λ_ h=>h) (Ym O) (Dq O (.g O O O) O (λ_ h=>h) (Yo mT O O j6 (by omega)) (Dq O (.g O O O) O (λ_ h=>h) (Yf DC O) (Dq O (.g O O O) O (λ_ h=>h) (bo 0 ar O O (ez 1 _ O)) (Dq O (.g O O O) O (λ_ h=>h) (Yf nP O) (Dq O (.g O O O) O (λ_ h=>h) (Yd 0 O O O oO) ?_)))))));refine Dq O (.g O O O) O (λ_ h=>h) (Ym O) (Dq O (.g O O O) O (λ_ h=>h) (Yo mT O O gk (by omega)) (Dq O (.g O O O) O (λ_ h=>h) (Yf DC O) (Dq O (.g O O O) O (λ_ h=>h) (bo 1 ar O O (eV 1 _ O)) (Dq O (.g O O O) O (λ_ h=>h) (mA O O O) ?_))));exact Gi 13 (λ_ h=>h) O O O
  refine D0 O (λ_ h=>h) (Ym O) ?_;apply WD.or 14 (x:=false) O O O O O Y O (λ_ h=>h) O O O O
  ·intro x3;refine Dq O (.g O O O) O (λ_ h=>h) (Yf nP O) (Dq O (.g O O O) O (λ_ h=>h) (Yd 1 O O O oO) (Dq O (.g O O O) O (λ_ h=>h) (Ym O) (Dq O (.g O O O) O (λ_ h=>h) (Yo mT O O j6 (by omega)) (Dq O (.g O O O) O (λ_ h=>h) (Yf Mm O) (Dq O (.g O O O) O (λ_ h=>h) (bo 0 jO O O (ez 2 _ O)) (Dq O (.g O O O) O (λ_ h=>h) (Yf nP O) (Dq O (.g O O O) O (λ_ h=>h) (Yd 0 O O O oO) ?_)))))));refine Dq O (.g O O O) O (λ_ h=>h) (Ym O) (Dq O (.g O O O) O (λ_ h=>h) (Yo mT O O gk (by omega)) (Dq O (.g O O O) O (λ_ h=>h) (Yf Mm O) (Dq O (.g O O O) O (λ_ h=>h) (bo 1 jO O O (eV 2 _ O)) ?_)));refine De O (λ_ h=>h) ?_;refine Lp (.g O O O) O Ml O (λw hw=>acD H1 H2 v1.1 v2.1 v1.2 v2.2 DD DE SS SU x.body w (hw.vs _ (by simp)) (hw.vs _ (by simp)) iE gX) (Ln (Ed (Dq O (.g O O O) O (λ_ h=>h) (dK O) ?_)));exact Gi 14 (λ_ h=>h) O O O
  refine WD.nil (λ_ h=>h) ?_;refine Et ?_;refine WC.lj O ?_;refine Ck (Eb (Et (Cr (aa O (V0 (Yi O O O (by omega)) (ae O (Ln ?_)))))));exact Ea (i+1) (by omega) (by omega) (sc O (sc O (sc O sn))) (λ_ h=>h)
 refine Ce (Ex (Ex (bA (Et (ad (ae O (ab (aA ?_))))))));refine R1 O O λw' hw=>?_;exact ⟨O,hw.fr⟩
def eR:aD:=(⟨[99,110,116],[],[(⟨1,[107],true,3⟩:bM),(⟨2,[115,117,109],true,0⟩:bM),(⟨3,[116],true,4⟩:bM)],[(⟨[100,111,119,110],true,[[110]],[[105]],[(aH.mk 1 [] [105] [(az.mk 3 0 [] [110] [])] [] []),(aH.mk 5 [] [] [(az.mk 3 0 [] [105] [])] [(aH.mk 1 [] [115,117,109] [(az.mk 9 0 [] [] [(az.mk 3 0 [] [115,117,109] []),(az.mk 3 0 [] [105] [])])] [] []),(aH.mk 1 [] [105] [(az.mk 10 0 [] [] [(az.mk 3 0 [] [105] []),(az.mk 1 1 [] [] [])])] [] [])] []),(aH.mk 6 [] [] [(az.mk 3 0 [] [115,117,109] [])] [] [])]⟩:dh)],[]⟩:aD)
def fi:Tx:=[109,111,100,117,108,101,32,116,111,112,123,117,115,101,32,99,110,116,59,109,97,105,110,123,99,110,116,46,116,91,49,93,61,99,110,116,46,100,111,119,110,40,99,110,116,46,107,41,59,111,117,116,32,99,110,116,46,116,91,105,110,93,59,105,102,40,99,110,116,46,115,117,109,61,54,41,123,111,117,116,32,55,59,125,101,108,115,101,123,111,117,116,32,56,59,125,125,125]
def dY:aD:=(bm fi).1
def fj:List (List UInt8×List aN):=[(aI,Dr)]
theorem ar9:wM eR<=109951162777:=by decide +kernel
theorem acE:(bm fi).2=0:=by decide +kernel
theorem ar':cG eR=((aI,Dr),0):=by decide +kernel
theorem yB (s:Tx):wM (bm s).1<=73728:=by
 unfold bm
 split
 · show wM tY<=_; decide
 · rename_i h
   have h0:(ec s).2=0:=by simpa using h
   have hl:=(RL h0).len
   split
   · rename_i m hm
     split
     · have:=Y9 hm
       simp at this
       show wM m<=_
       omega
     · show wM tY<=_; decide
   · show wM tY<=_; decide
theorem ar_ (w:World) :
   Calls Tryz.prog 103 #[] w λe w'=>∃r:jV,e = .returned (.agg (fq eR r).toArray)/\Ext w w'/\ko 7 6 (nv w w') r eR:=by
 refine enter Tryz.func103 O 33 O O ?_;refine CE (Vs:=[]) (Ws.init (by simp)) (ad ?_);refine Al Y O oK λb0=>?_;refine ab (ad (V0 (Yb ud Lu O O) (V0 (Yb ud Lu O O) (V0 (Yb ud Lu O O) ?_))));refine Lb Y O RC O O O O λb4=>?_;refine LN (rd:=zr) (f:=bM.cells) (m:=3) 0 [(⟨1,[107],true,3⟩:bM),(⟨2,[115,117,109],true,0⟩:bM),(⟨3,[116],true,4⟩:bM)] O O (λ_ hk=>by cases hk) bM.bq (λ_ _ _ _ h=>h) (show 3<=3 by decide) (by decide) λH4 fH4 wQ=>?_;refine Lb Y O dc O O O O λb5=>?_;refine LN (rd:=rdStr) (f:=cM) (m:=1) 0 [[110]] O O (λ_ hk=>by cases hk) iy (λ_ _ _ _ h=>h) (show 1<=1 by decide) (by decide) λH5 fH5 hH5=>?_;refine Lb Y O dc O O O O λb6=>?_;refine LN (rd:=rdStr) (f:=cM) (m:=1) 0 [[105]] O O (λ_ hk=>by cases hk) iy (λ_ _ _ _ h=>h) (show 1<=1 by decide) (by decide) λH6 fH6 SV=>?_;refine V0 (Yb js oF O O) ?_;refine Lb Y O kZ O O O O λb8=>?_;refine LN (rd:=kX) (f:=XE.cells) (m:=1) 0 [((az.mk 3 0 [] [110] []),none,0)] O O (λ_ hk=>by cases hk) XE.bq (λ_ _ _ _ h=>h) (show 1<=1 by decide) (by decide) λH8 fH8 sH=>?_;refine V0 (Yb vQ G_ O O) (V0 (Yb js oF O O) ?_);refine Lb Y O kZ O O O O λqu=>?_;refine LN (rd:=kX) (f:=XE.cells) (m:=1) 0 [((az.mk 3 0 [] [105] []),none,0)] O O (λ_ hk=>by cases hk) XE.bq (λ_ _ _ _ h=>h) (show 1<=1 by decide) (by decide) λDh asf Gz=>?_;refine V0 (Yb js oF O O) (V0 (Yb js oF O O) ?_);refine Lb Y O kZ O O O O λfO=>?_;refine LN (rd:=kX) (f:=XE.cells) (m:=2) 0 [((az.mk 3 0 [] [115,117,109] []),none,0),((az.mk 3 0 [] [105] []),none,0)] O O (λ_ hk=>by cases hk) XE.bq (λ_ _ _ _ h=>h) (show 2<=2 by decide) (by decide) λLD asg G1=>?_;refine V0 (Yb js oF O O) ?_;refine Lb Y O kZ O O O O λQD=>?_;refine LN (rd:=kX) (f:=XE.cells) (m:=1) 0 [((az.mk 9 0 [] [] [(az.mk 3 0 [] [115,117,109] []),(az.mk 3 0 [] [105] [])]),(some ⟨fO,0,none⟩),2)] O O (λ_ hk=>by cases hk) XE.bq (λ_ _ _ _ h=>h) (show 1<=1 by decide) (by decide) λH16 ash asi=>?_;refine V0 (Yb vQ G_ O O) (V0 (Yb js oF O O) (V0 (Yb js oF O O) ?_));refine Lb Y O kZ O O O O λju=>?_;refine LN (rd:=kX) (f:=XE.cells) (m:=2) 0 [((az.mk 3 0 [] [105] []),none,0),((az.mk 1 1 [] [] []),none,0)] O O (λ_ hk=>by cases hk) XE.bq (λ_ _ _ _ h=>h) (show 2<=2 by decide) (by decide) λH20 asj asl=>?_;refine V0 (Yb js oF O O) ?_;refine Lb Y O kZ O O O O λDk=>?_;refine LN (rd:=kX) (f:=XE.cells) (m:=1) 0 [((az.mk 10 0 [] [] [(az.mk 3 0 [] [105] []),(az.mk 1 1 [] [] [])]),(some ⟨ju,0,none⟩),2)] O O (λ_ hk=>by cases hk) XE.bq (λ_ _ _ _ h=>h) (show 1<=1 by decide) (by decide) λH22 asm SY=>?_;refine V0 (Yb vQ G_ O O) ?_;refine Lb Y O KK O O O O λF'=>?_;refine LN (rd:=KJ) (f:=SX.cells) (m:=2) 0 [((aH.mk 1 [] [115,117,109] [(az.mk 9 0 [] [] [(az.mk 3 0 [] [115,117,109] []),(az.mk 3 0 [] [105] [])])] [] []),(⟨((some ⟨QD,0,none⟩),1),(none,0),(none,0)⟩:qD)),((aH.mk 1 [] [105] [(az.mk 10 0 [] [] [(az.mk 3 0 [] [105] []),(az.mk 1 1 [] [] [])])] [] []),(⟨((some ⟨Dk,0,none⟩),1),(none,0),(none,0)⟩:qD))] O O (λ_ hk=>by cases hk) SX.bq (λ_ _ _ _ h=>h) (show 2<=2 by decide) (by decide) λC5 asn F_=>?_
 refine V0 (Yb vQ G_ O O) (V0 (Yb js oF O O) ?_);refine Lb Y O kZ O O O O λux=>?_;refine LN (rd:=kX) (f:=XE.cells) (m:=1) 0 [((az.mk 3 0 [] [115,117,109] []),none,0)] O O (λ_ hk=>by cases hk) XE.bq (λ_ _ _ _ h=>h) (show 1<=1 by decide) (by decide) λSZ aso S1=>?_;refine V0 (Yb vQ G_ O O) ?_;refine Lb Y O KK O O O O λG2=>?_;refine LN (rd:=KJ) (f:=SX.cells) (m:=3) 0 [((aH.mk 1 [] [105] [(az.mk 3 0 [] [110] [])] [] []),(⟨((some ⟨b8,0,none⟩),1),(none,0),(none,0)⟩:qD)),((aH.mk 5 [] [] [(az.mk 3 0 [] [105] [])] [(aH.mk 1 [] [115,117,109] [(az.mk 9 0 [] [] [(az.mk 3 0 [] [115,117,109] []),(az.mk 3 0 [] [105] [])])] [] []),(aH.mk 1 [] [105] [(az.mk 10 0 [] [] [(az.mk 3 0 [] [105] []),(az.mk 1 1 [] [] [])])] [] [])] []),(⟨((some ⟨qu,0,none⟩),1),((some ⟨F',0,none⟩),2),(none,0)⟩:qD)),((aH.mk 6 [] [] [(az.mk 3 0 [] [115,117,109] [])] [] []),(⟨((some ⟨ux,0,none⟩),1),(none,0),(none,0)⟩:qD))] O O (λ_ hk=>by cases hk) SX.bq (λ_ _ _ _ h=>h) (show 3<=3 by decide) (by decide) λH29 asp asq=>?_;refine V0 (Yb x7 aa' O O) ?_;refine Lb Y O RB O O O O λK5=>?_;refine LN (rd:=Rl) (f:=PX.cells) (m:=1) 0 [((⟨[100,111,119,110],true,[[110]],[[105]],[(aH.mk 1 [] [105] [(az.mk 3 0 [] [110] [])] [] []),(aH.mk 5 [] [] [(az.mk 3 0 [] [105] [])] [(aH.mk 1 [] [115,117,109] [(az.mk 9 0 [] [] [(az.mk 3 0 [] [115,117,109] []),(az.mk 3 0 [] [105] [])])] [] []),(aH.mk 1 [] [105] [(az.mk 10 0 [] [] [(az.mk 3 0 [] [105] []),(az.mk 1 1 [] [] [])])] [] [])] []),(aH.mk 6 [] [] [(az.mk 3 0 [] [115,117,109] [])] [] [])]⟩:dh),(⟨((some ⟨b5,0,none⟩),1),((some ⟨b6,0,none⟩),1),((some ⟨G2,0,none⟩),3)⟩:ym))] O O (λ_ hk=>by cases hk) PX.bq (λ_ _ _ _ h=>h) (show 1<=1 by decide) (by decide) λH31 asr ass=>?_;refine V0 (Yb oK LC O O) (an 0 Y O O O pC O O O (ab (aA ?_)));refine WE.NJ 0 O O O iW O λw' hw=>?_;exact ⟨⟨none,0,(some ⟨b4,0,none⟩),3,(some ⟨K5,0,none⟩),1,none,0⟩,O,hw.fr,⟨Sl.nil,(Rm wQ (bN hw (by simp) fH4)),(aa4 ass (bN hw (by simp) asr) (aK.refl _) ((uo.nil _).snoc (aK.refl _) (aK.refl _) ⟨(sD hH5 (bN hw (by simp) fH5)),(sD SV (bN hw (by simp) fH6)),(Q1 asq (bN hw (by simp) asp) (aK.refl _) ((((sA.nil _ 5).snoc (aK.refl _) (aK.refl _) ⟨(kY sH (bN hw (by simp) fH8) (aK.refl _) ((gN.nil _ 6).snoc (aK.refl _) (aK.refl _) Sl.nil)),Sl.nil,Sl.nil⟩).snoc (aK.refl _) (aK.refl _) ⟨(kY Gz (bN hw (by simp) asf) (aK.refl _) ((gN.nil _ 6).snoc (aK.refl _) (aK.refl _) Sl.nil)),(Q1 F_ (bN hw (by simp) asn) (aK.refl _) (((sA.nil _ 4).snoc (aK.refl _) (aK.refl _) ⟨(kY asi (bN hw (by simp) ash) (aK.refl _) ((gN.nil _ 6).snoc (aK.refl _) (aK.refl _) (kY G1 (bN hw (by simp) asg) (aK.refl _) (((gN.nil _ 5).snoc (aK.refl _) (aK.refl _) Sl.nil).snoc (aK.refl _) (aK.refl _) Sl.nil)))),Sl.nil,Sl.nil⟩).snoc (aK.refl _) (aK.refl _) ⟨(kY SY (bN hw (by simp) asm) (aK.refl _) ((gN.nil _ 6).snoc (aK.refl _) (aK.refl _) (kY asl (bN hw (by simp) asj) (aK.refl _) (((gN.nil _ 5).snoc (aK.refl _) (aK.refl _) Sl.nil).snoc (aK.refl _) (aK.refl _) Sl.nil)))),Sl.nil,Sl.nil⟩)),Sl.nil⟩).snoc (aK.refl _) (aK.refl _) ⟨(kY S1 (bN hw (by simp) aso) (aK.refl _) ((gN.nil _ 6).snoc (aK.refl _) (aK.refl _) Sl.nil)),Sl.nil,Sl.nil⟩))⟩)),Sl.nil⟩⟩
theorem Hu (w:World) :
   Calls Tryz.prog 37 #[] w λe w'=>e = .returned (st fi)/\Ext w w':=by
 refine enter Tryz.func37 O 1 O O ?_;refine CE (Vs:=[]) (Ws.init (by simp)) (ad (ae O (ab (ad (ae O (ab (aA ?_)))))));refine R1 O O λw' hw=>?_;exact ⟨O,hw.fr⟩
theorem Mn:bw Tryz.prog 235 0=some 0:=by kernel_rfl
theorem Mo:dQ Tryz.prog 124=true:=by kernel_rfl
theorem Mp:eo Tryz.prog 124=some 3:=by kernel_rfl
theorem Mq:gj Tryz.prog 126=some 3:=by kernel_rfl
theorem Hv:zeroOf Tryz.prog 126=some (.agg #[.bool false,.int .i64 0,.slice none 0 0]):=by kernel_rfl
theorem Mr:cC Tryz.prog 126=some 3:=by kernel_rfl
theorem acG:bw Tryz.prog 126 0=some 0:=by kernel_rfl
theorem ast:bw Tryz.prog 126 1=some 1:=by kernel_rfl
theorem Ms:bw Tryz.prog 126 2=some 2:=by kernel_rfl
theorem nQ:dQ Tryz.prog 54=true:=by kernel_rfl
theorem iX:eo Tryz.prog 54=some 1:=by kernel_rfl
theorem S2:bw Tryz.prog 235 1=some 1:=by kernel_rfl
theorem Mt:Enters Tryz.prog 218:=enters_of Tryz.func218 (by kernel_rfl) rfl
theorem acH:Enters Tryz.prog 219:=enters_of Tryz.func219 (by kernel_rfl) rfl
theorem acI:Enters Tryz.prog 220:=enters_of Tryz.func220 (by kernel_rfl) rfl
theorem acJ:Enters Tryz.prog 217:=enters_of Tryz.func217 (by kernel_rfl) rfl
theorem Mu (HV HK:View) (vb:Nat) (ka:Option Addr) (kc:Nat) (kn:List cS) (ay:Int) (m pl n:Int) (w:World) (pK:Le HV w) (pL:Le HK w) (h0:vc HV vb 0=some (.slice ka kn.length kc)) (h1:vc HV vb 1=some (.int .i64 ay)) (eK:Sl p4 3 HK ka kc kn) (hn:0<=n/\n<=32) :
   Calls Tryz.prog 218 #[.pointer (some ⟨vb,0,none⟩),.int .i64 m,.int .i64 pl,.int .i64 n] w λe w'=>e = .returned (.bool (rO kn m pl n))/\Ext w w':=by
 have DF:=eK.cap;have DG:=eK.max;refine enter Tryz.func218 O 52 O O ?_;refine CE (Vs:=[HV,HK]) (Ws.init (by simp [pK,pL])) (ad (ae O (ab (Cs (ad (aa O (V0 (bj O O) (aa O ?_))))))));apply Lo 7 O O O O Y O O O O O
 ·intro du;refine Vg (Ym O) (Vg (Ym O) (Vg (bD O) (Vg (Yf Mn O) (Vg (bo 0 Mo O O (h0)) (Vg (Yn Mp O) (Vg (fm O O) ?_))))));exact Gt 7 O O O
 refine aa O ?_;apply Lo 2 O O O O Y O O O O O
 ·intro eh;refine Vg (Ym O) (Vg (bj O O) ?_);exact Gt 2 O O O
 refine aa O ?_;apply Lo 2 O O O O Y O O O O O
 ·intro fB;refine Vg (Ym O) (Vg (cI O O) ?_);exact Gt 2 O O O
 refine ab ?_;refine Cc O (λai=>?_) (λai=>?_)
 ·refine ad (ae O (ab (aA (Er ?_))));refine R1 O O λw' hw=>?_;exact ⟨by rw [ahC n ai],hw.fr⟩
 have AU:B3 kn m pl=false:=ai;obtain ⟨⟨mi,rfl,lQ⟩,hp0,Lc⟩:=ahD AU;obtain ⟨k,pQ⟩:∃k,kn[mi]? = some k:=⟨_,List.getElem?_eq_getElem lQ⟩;obtain ⟨Mv,Mw,DH,rk,S3,yC⟩:=eK.aS mi k pQ;have hpc:=yC.cap;have hpm:=yC.max;refine aE (Cs (ad (aa O (V0 (bD O) (V0 (Yf Mn O) (V0 (bo 0 Mo O O (h0)) (aa O (V0 (Yo Mp O O DH lQ) (V0 (cJ 1 Mq O O O (S3)) ?_)))))))));refine Al Y O Hv λb9=>?_;refine an 0 Y O O O Mr O O O (ab (ad (V0 (Yf acG O) (V0 (Yd 0 O O O vN) (ab ?_)))));refine Cc O (λaw=>?_) (λaw=>?_)
 ·refine ad (aa O (aa O (V0 (mY O O (by omega)) (V0 (Yf ast O) (V0 (Yd 0 O O O ar) (V0 (iN O O) (ae O ?_)))))));refine ab (aA (Er ?_));refine R1 O O λw' hw=>?_;exact ⟨by rw [Wl AU pQ,if_pos aw],hw.fr⟩
 refine aE (ad (aa O (V0 (aW O O) (aa O ?_))));apply Lo 4 O O O O Y O O O O O
 ·intro l_;refine Vg (Ym O) (Vg (Ym O) (Vg (mY O O (by omega)) (Vg (iN O O) ?_)));exact Gt 4 O O O
 refine ae O (ab (aA ?_));refine R1 O O λw' hw=>?_;exact ⟨by rw [Wl AU pQ,if_neg (λe=>by have h:=aw.symm.trans e; cases h)],hw.fr⟩
theorem acL (HV HK:View) (vb:Nat) (ka:Option Addr) (kc:Nat) (kn:List cS) (ay:Int) (m pl n:Int) (w:World) (pK:Le HV w) (pL:Le HK w) (h0:vc HV vb 0=some (.slice ka kn.length kc)) (h1:vc HV vb 1=some (.int .i64 ay)) (eK:Sl p4 3 HK ka kc kn)  :
   Calls Tryz.prog 220 #[.pointer (some ⟨vb,0,none⟩),.int .i64 m,.int .i64 pl,.int .i64 n] w λe w'=>e = .returned (.bool (ti kn m pl n))/\Ext w w':=by
 have DF:=eK.cap;have DG:=eK.max;refine enter Tryz.func220 O 54 O O ?_;refine CE (Vs:=[HV,HK]) (Ws.init (by simp [pK,pL])) (ad (ae O (ab (Cs (ad (aa O (V0 (bj O O) (aa O ?_))))))));apply Lo 7 O O O O Y O O O O O
 ·intro du;refine Vg (Ym O) (Vg (Ym O) (Vg (bD O) (Vg (Yf Mn O) (Vg (bo 0 Mo O O (h0)) (Vg (Yn Mp O) (Vg (fm O O) ?_))))));exact Gt 7 O O O
 refine aa O ?_;apply Lo 2 O O O O Y O O O O O
 ·intro eh;refine Vg (Ym O) (Vg (bj O O) ?_);exact Gt 2 O O O
 refine ab ?_;refine Cc O (λai=>?_) (λai=>?_)
 ·refine ad (ae O (ab (aA (Er ?_))));refine R1 O O λw' hw=>?_;exact ⟨by rw [ahE n ai],hw.fr⟩
 have AU:B4 kn m pl=false:=ai;obtain ⟨⟨mi,rfl,lQ⟩,pi,rfl⟩:=ahF AU;obtain ⟨k,pQ⟩:∃k,kn[mi]? = some k:=⟨_,List.getElem?_eq_getElem lQ⟩;obtain ⟨Mv,Mw,DH,rk,S3,yC⟩:=eK.aS mi k pQ;have hpc:=yC.cap;have hpm:=yC.max;refine aE (Cs (ad (aa O (V0 (bD O) (V0 (Yf Mn O) (V0 (bo 0 Mo O O (h0)) (aa O (V0 (Yo Mp O O DH lQ) (V0 (cJ 1 Mq O O O (S3)) ?_)))))))));refine Al Y O Hv λb9=>?_;refine an 0 Y O O O Mr O O O (ab (ad (V0 (Yf acG O) (V0 (Yd 0 O O O vN) (ab ?_)))));refine Cc O (λaw=>?_) (λaw=>?_)
 ·refine ad (aa O (V0 (Yf Ms O) (V0 (Yd 0 O O O nQ) (V0 (Yn iX O) (V0 (bj O O) (aa O ?_))))));apply La 7 (x:=(k.parts[((pi:Int)).toNat]?).getD 0==n) O O O O Y O O O O O
  ·intro fB
   have iT:pi<k.parts.length:=by simpa using fB
   obtain ⟨y,bK⟩:∃y,k.parts[pi]? = some y:=⟨_,List.getElem?_eq_getElem iT⟩;obtain ⟨jK,jL,eX,cV⟩:=yC.aS pi y bK;have cV:aR HK jK (jL+pi*1) (eH y):=cV
   have Mx:(k.parts[pi]?).getD 0=y:=by rw [bK]; rfl
   refine Vg (Yf Ms O) (Vg (Yd 0 O O O nQ) (Vg (Ym O) (Vg (Yo iX O O eX iT) (Vg (bo 1 ar O O (cV 0 _ O)) (Vg (Ym O) (Vg (aW O O) ?_))))));rw [show (y==n)=((k.parts[((pi:Int)).toNat]?).getD 0==n) from by rw [Int.toNat_natCast,Mx]];exact Gt 7 O O O
  refine ae O (ab (aA (Er ?_)));refine R1 O O λw' hw=>?_;exact ⟨by rw [Wn AU pQ,if_pos aw],hw.fr⟩
 refine aE (ad (aa O (V0 (bj O O) (aa O ?_))));apply La 2 O O O O Y O O O O O
 ·intro l_;refine Vg (Ym O) (Vg (iN O O) ?_);exact Gt 2 O O O
 refine ae O (ab (aA ?_));refine R1 O O λw' hw=>?_;exact ⟨by rw [Wn AU pQ,if_neg (λe=>by have h:=aw.symm.trans e; cases h)],hw.fr⟩
theorem acM (HV HK:View) (vb:Nat) (ka:Option Addr) (kc:Nat) (kn:List cS) (ay:Int) (pl:Int) (w:World) (pK:Le HV w) (pL:Le HK w) (h0:vc HV vb 0=some (.slice ka kn.length kc)) (h1:vc HV vb 1=some (.int .i64 ay)) (eK:Sl p4 3 HK ka kc kn)  :
   Calls Tryz.prog 217 #[.pointer (some ⟨vb,0,none⟩),.int .i64 pl] w λe w'=>e = .returned (.bool (OO ay pl))/\Ext w w':=by
 have DF:=eK.cap;have DG:=eK.max;refine enter Tryz.func217 O 15 O O ?_;refine CE (Vs:=[HV,HK]) (Ws.init (by simp [pK,pL])) (ad (ae O (ab (ad (aa O (V0 (fm O O) (aa O ?_)))))));apply La 6 O O O O Y O O O O O
 ·intro du;refine Vg (Ym O) (Vg (Ym O) (Vg (bD O) (Vg (Yf S2 O) (Vg (bo 0 ar O O (h1)) (Vg (bj O O) ?_)))));exact Gt 6 O O O
 refine ae O (ab (aA ?_));refine R1 O O λw' hw=>?_;exact ⟨O,hw.fr⟩
theorem acN (n:Int) (w:World) :
   Calls Tryz.prog 219 #[.int .i64 n] w λe w'=>e = .returned (.bool (E4 n))/\Ext w w':=by
 refine enter Tryz.func219 O 9 O O ?_;refine CE (Vs:=[]) (Ws.init (by simp)) (ad (ae O (ab (ad (aa O (V0 (fm O O) (aa O ?_)))))));apply La 2 O O O O Y O O O O O
 ·intro du;refine Vg (Ym O) (Vg (iN O O) ?_);exact Gt 2 O O O
 refine ae O (ab (aA ?_));refine R1 O O λw' hw=>?_;exact ⟨O,hw.fr⟩
theorem asv (HV HK:View) (vb:Nat) (ka:Option Addr) (kc:Nat) (kn:List cS) (ay:Int) (x:cH) (a:Option Addr) (c:Nat) (w:World) (pK:Le HV w) (pL:Le HK w) (h0:vc HV vb 0=some (.slice ka kn.length kc)) (h1:vc HV vb 1=some (.int .i64 ay)) (eK:Sl p4 3 HK ka kc kn)  :
   Calls Tryz.prog 221 #[.pointer (some ⟨vb,0,none⟩),.agg (rK x a c).toArray] w λe w'=>e = .returned (.bool (node1 kn ay x.op x.n x.m x.pl x.args.length))/\Ext w w':=by
 have DF:=eK.cap;have DG:=eK.max;refine enter Tryz.func221 O 170 O O ?_;refine CE (Vs:=[HV,HK]) (Ws.init (by simp [pK,pL])) (ad ?_);refine WL.box Y O O λb3=>?_;refine ae O (ab (Cs (ad (V0 (Yf qL O) (V0 (Yd 0 O O O jy) (V0 (Yn fR O) (ae O (ab (ad (V0 (Yf qK O) ?_))))))))));refine V0 (Yd 0 O O O ar) (ab (Cb (ad (V0 (aW O O) (ae O (ab ?_))))));refine Cc O (λai=>?_) (λai=>?_)
 ·have ho:x.op=1:=by simpa using ai
  refine ad (V0 (Yf mR O) (V0 (Yd 0 O O O ar) (V0 (aW O O) (aa O ?_))));apply La 3 O O O O Y O O O O O
  ·intro du;refine Vg (Yf lK O) (Vg (Yd 0 O O O ar) (Vg (aW O O) ?_));exact Gt 3 O O O
  refine aa O ?_;apply La 2 O O O O Y O O O O O
  ·intro eh;refine Vg (Ym O) (Vg (aW O O) ?_);exact Gt 2 O O O
  refine aa O ?_;apply La 3 O O O O Y O O O O O
  ·intro fB;refine Vg (Yf mQ O) (Vg (Yd 0 O O O ar) (Vg (fm O O) ?_));exact Gt 3 O O O
  refine aa O ?_;apply La 3 O O O O Y O O O O O
  ·intro l_;refine Vg (Yf mQ O) (Vg (Yd 0 O O O ar) (Vg (iN O O) ?_));exact Gt 3 O O O
  refine ae O (ab (aA (bE (Er ?_))));refine R1 O O λw' hw=>?_;exact ⟨by rw [node1,if_pos ho],hw.fr⟩
 have iK:¬x.op=1:=by simpa using ai
 refine ad (V0 (aW O O) (ae O (ab ?_)));refine Cc O (λaw=>?_) (λaw=>?_)
 ·have ho:x.op=3:=by simpa using aw
  refine ad (V0 (Yf mQ O) (V0 (Yd 0 O O O ar) (V0 (aW O O) (aa O ?_))));apply La 2 O O O O Y O O O O O
  ·intro vO;refine Vg (Ym O) (Vg (aW O O) ?_);exact Gt 2 O O O
  refine aa O ?_;apply La 6 O O O O Y O O O O O
  ·intro x3;refine Vg (Ym O) (Vg (Yf mR O) (Vg (Yd 0 O O O ar) (Vg (Yf lK O) (Vg (Yd 0 O O O ar) (Lp (.g O O O) O Mt O (λw hw=>Mu HV HK vb ka kc kn ay x.m x.pl 1 w (hw.vs _ (by simp)) (hw.vs _ (by simp)) h0 h1 eK (by omega)) ?_)))));exact Gt 6 O O O
  refine ae O (ab (aA (bE (Er ?_))));refine R1 O O λw' hw=>?_;exact ⟨by rw [node1,if_neg iK,if_pos ho],hw.fr⟩
 have dJ:¬x.op=3:=by simpa using aw
 refine ad (V0 (aW O O) (ae O (ab ?_)));refine Cc O (λaO=>?_) (λaO=>?_)
 ·have ho:x.op=4:=by simpa using aO
  refine ad (V0 (Yf mQ O) (V0 (Yd 0 O O O ar) (Lp Y O acH O (λw hw=>acN _ w) (aa O ?_))));apply La 2 O O O O Y O O O O O
  ·intro Hw;refine Vg (Ym O) (Vg (aW O O) ?_);exact Gt 2 O O O
  refine aa O ?_;apply La 8 O O O O Y O O O O O
  ·intro DI
   have S4:0<=x.n/\x.n<=32:=by
     unfold E4 at DI;simp at DI;omega
   refine Vg (Ym O) (Vg (Yf mR O) (Vg (Yd 0 O O O ar) (Vg (Yf lK O) (Vg (Yd 0 O O O ar) (Vg (Yf mQ O) (Vg (Yd 0 O O O ar) (Lp (.g O O O) O Mt O (λw hw=>Mu HV HK vb ka kc kn ay x.m x.pl x.n w (hw.vs _ (by simp)) (hw.vs _ (by simp)) h0 h1 eK S4) ?_)))))));exact Gt 8 O O O
  refine ae O (ab (aA (bE (Er ?_))));refine R1 O O λw' hw=>?_;exact ⟨by rw [node1,if_neg iK,if_neg dJ,if_pos ho],hw.fr⟩
 have eI:¬x.op=4:=by simpa using aO
 refine ad (V0 (aW O O) (ae O (ab ?_)));refine Cc O (λbd=>?_) (λbd=>?_)
 ·have ho:x.op=5:=by simpa using bd
  refine ad (V0 (Yf mQ O) (V0 (Yd 0 O O O ar) (V0 (aW O O) (aa O ?_))));apply La 7 O O O O Y O O O O O
  ·intro S5;refine Vg (Ym O) (Vg (Yf mR O) (Vg (Yd 0 O O O ar) (Vg (Yf lK O) (Vg (Yd 0 O O O ar) (Vg (Ym O) (Lp (.g O O O) O acI O (λw hw=>acL HV HK vb ka kc kn ay x.m x.pl x.args.length w (hw.vs _ (by simp)) (hw.vs _ (by simp)) h0 h1 eK) ?_))))));exact Gt 7 O O O
  refine ae O (ab (aA (bE (Er ?_))));refine R1 O O λw' hw=>?_;exact ⟨by rw [node1,if_neg iK,if_neg dJ,if_neg eI,if_pos ho],hw.fr⟩
 have jv:¬x.op=5:=by simpa using bd
 refine ad (V0 (aW O O) (ae O (ab ?_)));refine Cc O (λbC=>?_) (λbC=>?_)
 ·have ho:x.op=16:=by simpa using bC
  refine ad (V0 (Yf mR O) (V0 (Yd 0 O O O ar) (V0 (aW O O) (aa O ?_))));apply La 3 O O O O Y O O O O O
  ·intro My;refine Vg (Yf mQ O) (Vg (Yd 0 O O O ar) (Vg (aW O O) ?_));exact Gt 3 O O O
  refine aa O ?_;apply La 2 O O O O Y O O O O O
  ·intro acO;refine Vg (Ym O) (Vg (aW O O) ?_);exact Gt 2 O O O
  refine aa O ?_;apply La 4 O O O O Y O O O O O
  ·intro acP;refine Vg (Ym O) (Vg (Yf lK O) (Vg (Yd 0 O O O ar) (Lp (.g O O O) O acJ O (λw hw=>acM HV HK vb ka kc kn ay x.pl w (hw.vs _ (by simp)) (hw.vs _ (by simp)) h0 h1 eK) ?_)));exact Gt 4 O O O
  refine ae O (ab (aA (bE (Er ?_))));refine R1 O O λw' hw=>?_;exact ⟨by rw [node1,if_neg iK,if_neg dJ,if_neg eI,if_neg jv,if_pos ho],hw.fr⟩
 have mf:¬x.op=16:=by simpa using bC
 refine ad (V0 (aW O O) (ae O (ab ?_)));refine Cc O (λcU=>?_) (λcU=>?_)
 ·have ho:x.op=2:=by simpa using cU
  refine ad (V0 (Yf mR O) (V0 (Yd 0 O O O ar) (V0 (aW O O) (aa O ?_))));apply La 3 O O O O Y O O O O O
  ·intro S6;refine Vg (Yf lK O) (Vg (Yd 0 O O O ar) (Vg (aW O O) ?_));exact Gt 3 O O O
  refine aa O ?_;apply La 3 O O O O Y O O O O O
  ·intro acQ;refine Vg (Yf mQ O) (Vg (Yd 0 O O O ar) (Vg (aW O O) ?_));exact Gt 3 O O O
  refine aa O ?_;apply La 2 O O O O Y O O O O O
  ·intro acR;refine Vg (Ym O) (Vg (aW O O) ?_);exact Gt 2 O O O
  refine ae O (ab (aA (bE (Er ?_))));refine R1 O O λw' hw=>?_;exact ⟨by rw [node1,if_neg iK,if_neg dJ,if_neg eI,if_neg jv,if_neg mf,if_pos ho],hw.fr⟩
 have qM:¬x.op=2:=by simpa using cU
 refine ad (V0 (aW O O) (ae O (ab ?_)));refine Cc O (λdb=>?_) (λdb=>?_)
 ·have ho:x.op=6:=by simpa using db
  refine ad (V0 (Yf mR O) (V0 (Yd 0 O O O ar) (V0 (aW O O) (aa O ?_))));apply La 3 O O O O Y O O O O O
  ·intro acS;refine Vg (Yf lK O) (Vg (Yd 0 O O O ar) (Vg (aW O O) ?_));exact Gt 3 O O O
  refine aa O ?_;apply La 3 O O O O Y O O O O O
  ·intro S7;refine Vg (Yf mQ O) (Vg (Yd 0 O O O ar) (Vg (aW O O) ?_));exact Gt 3 O O O
  refine aa O ?_;apply La 2 O O O O Y O O O O O
  ·intro acT;refine Vg (Ym O) (Vg (aW O O) ?_);exact Gt 2 O O O
  refine ae O (ab (aA (bE (Er ?_))));refine R1 O O λw' hw=>?_;exact ⟨by rw [node1,if_neg iK,if_neg dJ,if_neg eI,if_neg jv,if_neg mf,if_neg qM,if_pos ho],hw.fr⟩
 have yD:¬x.op=6:=by simpa using db
 refine WC.I6 (ι:=Bool) (λbb=>[(3,.pointer (some ⟨b3,0,none⟩)),(5,.int .i64 (x.args.length:Int)),(143,.bool bb)]) (λbb=>Ws w [] [ah b3 (.cells (rK x a c).toArray 269 (0,0))] [HV,HK]) (λbb=>bb=decide (7<=x.op/\x.op<=15)) ?_ ?_
 ·refine ad (V0 (aW O O) (ae O (ab ?_)));refine Cc O (λej=>?_) (λej=>?_)
  ·refine Ck ?_
   exact Em (x.op==7) (by have h9:x.op=7:=(by simpa using ej); rw [h9]; decide) (sc O (sc O (sc O sn))) (λ_ h=>by
     have h:=h.aX 0 rfl
     exact h)
  have C0:¬x.op=7:=by simpa using ej
  refine ad (V0 (aW O O) (ae O (ab ?_)));refine Cc O (λiY=>?_) (λiY=>?_)
  ·refine Ck ?_
   exact Em (x.op==8) (by have h9:x.op=8:=(by simpa using iY); rw [h9]; decide) (sc O (sc O (sc O sn))) (λ_ h=>by
     have h:=h.aX 0 rfl
     exact h)
  have QB:¬x.op=8:=by simpa using iY
  refine ad (V0 (aW O O) (ae O (ab ?_)));refine Cc O (λj_=>?_) (λj_=>?_)
  ·refine Ck ?_
   exact Em (x.op==9) (by have h9:x.op=9:=(by simpa using j_); rw [h9]; decide) (sc O (sc O (sc O sn))) (λ_ h=>by
     have h:=h.aX 0 rfl
     exact h)
  have hn9:¬x.op=9:=by simpa using j_
  refine ad (V0 (aW O O) (ae O (ab ?_)));refine Cc O (λAV=>?_) (λAV=>?_)
  ·refine Ck ?_
   exact Em (x.op==10) (by have h9:x.op=10:=(by simpa using AV); rw [h9]; decide) (sc O (sc O (sc O sn))) (λ_ h=>by
     have h:=h.aX 0 rfl
     exact h)
  have acU:¬x.op=10:=by simpa using AV
  refine ad (V0 (aW O O) (ae O (ab ?_)));refine Cc O (λS8=>?_) (λS8=>?_)
  ·refine Ck ?_
   exact Em (x.op==11) (by have h9:x.op=11:=(by simpa using S8); rw [h9]; decide) (sc O (sc O (sc O sn))) (λ_ h=>by
     have h:=h.aX 0 rfl
     exact h)
  have aAH:¬x.op=11:=by simpa using S8
  refine ad (V0 (aW O O) (ae O (ab ?_)));refine Cc O (λS9=>?_) (λS9=>?_)
  ·refine Ck ?_
   exact Em (x.op==12) (by have h9:x.op=12:=(by simpa using S9); rw [h9]; decide) (sc O (sc O (sc O sn))) (λ_ h=>by
     have h:=h.aX 0 rfl
     exact h)
  have sF:¬x.op=12:=by simpa using S9
  refine ad (V0 (aW O O) (ae O (ab ?_)));refine Cc O (λS'=>?_) (λS'=>?_)
  ·refine Ck ?_
   exact Em (x.op==13) (by have h9:x.op=13:=(by simpa using S'); rw [h9]; decide) (sc O (sc O (sc O sn))) (λ_ h=>by
     have h:=h.aX 0 rfl
     exact h)
  have aAI:¬x.op=13:=by simpa using S'
  refine ad (V0 (aW O O) (ae O (ab ?_)));refine Cc O (λS_=>?_) (λS_=>?_)
  ·refine Ck ?_
   exact Em (x.op==14) (by have h9:x.op=14:=(by simpa using S_); rw [h9]; decide) (sc O (sc O (sc O sn))) (λ_ h=>by
     have h:=h.aX 0 rfl
     exact h)
  have sw:¬x.op=14:=by simpa using S_
  refine Cr (V0 (aW O O) (ae O (Ln ?_)))
  exact Em (x.op==15) (by rw [Bool.eq_iff_iff]; simp; omega) (sc O (sc O (sc O sn))) (λ_ h=>by
    have h:=h.aX 0 rfl
    exact h)
 intro bb vI;refine Cc O (λTa=>?_) (λTa=>?_)
 ·refine ad (V0 (Yf mR O) (V0 (Yd 0 O O O ar) (V0 (aW O O) (aa O ?_))));apply La 3 O O O O Y O O O O O
  ·intro aAJ;refine Vg (Yf lK O) (Vg (Yd 0 O O O ar) (Vg (aW O O) ?_));exact Gt 3 O O O
  refine aa O ?_;apply La 3 O O O O Y O O O O O
  ·intro aAK;refine Vg (Yf mQ O) (Vg (Yd 0 O O O ar) (Vg (aW O O) ?_));exact Gt 3 O O O
  refine aa O ?_;apply La 2 O O O O Y O O O O O
  ·intro aAL;refine Vg (Ym O) (Vg (aW O O) ?_);exact Gt 2 O O O
  refine ae O (ab (aA (bE (Er ?_))));refine R1 O O λw' hw=>?_;exact ⟨by rw [node1,if_neg iK,if_neg dJ,if_neg eI,if_neg jv,if_neg mf,if_neg qM,if_neg yD,if_pos (of_decide_eq_true (vI.symm.trans Ta))],hw.fr⟩
 refine Ck (Eb (Et (ad (ae O (ab (aA ?_))))));refine R1 O O λw' hw=>?_;exact ⟨by rw [node1,if_neg iK,if_neg dJ,if_neg eI,if_neg jv,if_neg mf,if_neg qM,if_neg yD,if_neg (of_decide_eq_false (vI.symm.trans Ta))],hw.fr⟩
theorem asw {a b:Nat} (ha:a<=9223372036854775807) (hb:b<=9223372036854775807):(IntKind.i64.wrap ((a:Int)+(b:Int))==0)=((a:Int)+(b:Int)==0):=by
 rw [Bool.eq_iff_iff];simp only [beq_iff_eq];rw [IntKind.wrap_i64];omega
theorem asx:Enters Tryz.prog 221:=enters_of Tryz.func221 (by kernel_rfl) rfl
theorem acV:Enters Tryz.prog 173:=enters_of Tryz.func173 (by kernel_rfl) rfl
theorem asy:Enters Tryz.prog 172:=enters_of Tryz.func172 (by kernel_rfl) rfl
theorem Mz:Enters Tryz.prog 135:=enters_of Tryz.func135 (by kernel_rfl) rfl
theorem asz (HV HK:View) (vb:Nat) (ka:Option Addr) (kc:Nat) (kn:List cS) (ay:Int) (H:View) (k:Nat) (l:List cH) (a:Option Addr) (c:Nat) (d:Nat) (w:World) (pK:Le HV w) (pL:Le HK w) (h0:vc HV vb 0=some (.slice ka kn.length kc)) (h1:vc HV vb 1=some (.int .i64 ay)) (eK:Sl p4 3 HK ka kc kn) (hH:Le H w) (hl:Sl (kx k) 5 H a c l) (hd:d<=7) :
   Calls Tryz.prog 173 #[.pointer (some ⟨vb,0,none⟩),.slice a l.length c,.int .i64 (d:Int)] w λe w'=>e = .returned (.bool (oh kn ay l d))/\Ext w w':=by
 have DF:=eK.cap;have DG:=eK.max
 induction k using Nat.strongRecOn generalizing l a c d w
 rename_i k ih;have dR:=hl.cap;have eQ:=hl.max;refine enter Tryz.func173 O 33 O O ?_;refine CE (Vs:=[HV,HK,H]) (Ws.init (by simp [pK,pL,hH])) (ad (ae O (ab (Cs (ad (aa O (V0 (Yn fR O) (aa O (ab (Cb ?_))))))))));refine CW (ι:=Nat) (λi=>[(11,.int .i64 (i:Int))]) [(0,_),(2,_),(9,_),(10,_)] (λi=>i<=l.length/\(l.take i).all (vo kn ay · d)=true) (λi=>l.length-i) 0 ⟨Nat.zero_le _,O⟩ (sc O (sc O (sc O (sc O (sc O sn))))) ?_;intro i ⟨hi,bT⟩;refine ad (V0 (bj O O) (ab (Cs ?_)));refine Cc O (λai=>?_) (λai=>?_)
 ·have av:i<l.length:=by simpa using ai
  obtain ⟨x,bn⟩:∃q,l[i]? = some q:=⟨_,List.getElem?_eq_getElem av⟩;obtain ⟨dW,dX,dZ,cg⟩:=hl.aS i x bn
  obtain ⟨k2,rfl⟩:∃k2,k=k2+1:=by
    cases k with
    | zero=>exact cg.elim
    | succ k2=>exact ⟨k2,rfl⟩
  obtain ⟨xa,xc,cw,hP⟩:=cg;refine aE (Cs (Cb (ad (V0 (Yo fR O O dZ av) (V0 (cJ 2 la O O O (cw)) ?_)))));refine Al Y O Hj λb8=>?_;refine an 0 Y O O O L3 O O O (ab (Cs (fg 0 (.cells (rK x xa xc).toArray 269 (0,0)) O O (Cr (aa O (V0 (cI O O) (aa O ?_)))))));apply Lo 4 O O O O Y O O O O O
  ·intro du;refine Vg (Ym O) (Vg (bk 0 O O la O) (Lp (.g O O O) O asx O (λw hw=>asv HV HK vb ka kc kn ay x xa xc w (hw.vs _ (by simp)) (hw.vs _ (by simp)) h0 h1 eK) (Vg (dK O) ?_)));exact Gt 4 O O O
  refine aa O ?_;apply Lo 7 O O O O Y O O O O O
  ·intro eh
   have hd6:d<=6:=by
     have h9:=(Bool.or_eq_false_iff.1 eh).1;simp at h9; omega
   refine Vg (Ym O) (Vg (Yf qL O) (Vg (Yd 0 O O O jy) (Vg (Ym O) (Vg (Yi O O O (by omega)) (Lp (.g O O O) O acV O (λw hw=>ih k2 (by omega) x.args xa xc (d+1) w (hw.vs _ (by simp)) (hw.vs _ (by simp)) (hw.vs _ (by simp)) hP (by omega)) (Vg (dK O) ?_))))));exact Gt 7 O O O
  refine ab ?_;rw [ahG];refine Cc O (λaw=>?_) (λaw=>?_)
  ·have hx:vo kn ay x d=false:=by simpa using aw
   refine ad (ae O (ab (aA (bE (Er (Er (bE (Er ?_))))))));refine R1 O O λw' hw=>?_;exact ⟨by rw [Jr,E6 bn hx],hw.fr⟩
  have hx:vo kn ay x d=true:=by simpa using aw
  refine Ck (Eb (Et (Cr (V0 (Yi O O O (by omega)) (aa O (Ln ?_))))));exact Ea (i+1) (by omega) ⟨by omega,E7 bn bT hx⟩ (sc O (sc O (sc O (sc O (sc O sn))))) (λ_ h=>Wd 1 h)
 have bP:¬i<l.length:=by simpa using ai
 rw [List.take_of_length_le (by omega)] at bT;refine Ce (Ex (Ex (bA (Et (ad (ae O (ab (aA ?_))))))));refine R1 O O λw' hw=>?_;exact ⟨by rw [Jr,bT],hw.fr⟩
theorem asA (HV HK:View) (vb:Nat) (ka:Option Addr) (kc:Nat) (kn:List cS) (ay:Int) (x:cA) (r:zx) (w:World) (pK:Le HV w) (pL:Le HK w) (h0:vc HV vb 0=some (.slice ka kn.length kc)) (h1:vc HV vb 1=some (.int .i64 ay)) (eK:Sl p4 3 HK ka kc kn) (Se:x.body.length<=9223372036854775807) (Xe:x.other.length<=9223372036854775807) :
   Calls Tryz.prog 172 #[.pointer (some ⟨vb,0,none⟩),.agg (vn x r).toArray] w λe w'=>e = .returned (.bool (og kn ay x.op x.n x.m x.pl x.args.length x.body.length x.other.length))/\Ext w w':=by
 have DF:=eK.cap;have DG:=eK.max;refine enter Tryz.func172 O 135 O O ?_;refine CE (Vs:=[HV,HK]) (Ws.init (by simp [pK,pL])) (ad ?_);refine WL.box Y O O λb3=>?_;refine ae O (ab (Cs ?_));refine WC.nc [(0,true),(1,true),(2,true),(3,true),(4,true),(5,true),(6,true),(7,true),(8,true),(9,true),(10,true),(11,true),(12,true)] mixed (by kernel_rfl) (λ_ _ _ d _ h=>by cases d<;>exact h) ?_;refine D0 O (λ_ h=>h) (Yf pG O) (D0 O (λ_ h=>h) (Yd 0 O O O jy) (D0 O (λ_ h=>h) (Yn fR O) (D0 O (λ_ h=>h) (Yf AN O) (D0 O (λ_ h=>h) (Yd 0 O O O jO) (D0 O (λ_ h=>h) (Yn gZ O) (D0 O (λ_ h=>h) (Yf wJ O) (D0 O (λ_ h=>h) (Yd 0 O O O jO) ?_)))))));refine D0 O (λ_ h=>h) (Yn gZ O) (D0 O (λ_ h=>h) (Ei O O) (D0 O (λ_ h=>h) (aW O O) ?_));rw [asw Se Xe];refine D0 O (λ_ h=>h) (Ya O) (D0 O (λ_ h=>h) (Ya O) ?_);refine WD.nil (λ_ h=>h) ?_;refine Et (ad (V0 (Yf nO O) (V0 (Yd 0 O O O ar) (V0 (aW O O) (aa O ?_)))));apply La 3 O O O O Y O O O O O
 ·intro du;refine Vg (Yf oN O) (Vg (Yd 0 O O O ar) (Vg (aW O O) ?_));exact Gt 3 O O O
 refine aa O ?_;apply La 3 O O O O Y O O O O O
 ·intro eh;refine Vg (Yf wI O) (Vg (Yd 0 O O O ar) (Vg (aW O O) ?_));exact Gt 3 O O O
 refine ae O (ab (Cs (ad (V0 (Yf Dy O) (V0 (Yd 0 O O O ar) (ab (Cb (ad (V0 (aW O O) (ae O (ab ?_)))))))))));refine Cc O (λai=>?_) (λai=>?_)
 ·have ho:x.op=1:=by simpa using ai
  refine ad (aa O (aa O ?_));apply La 2 O O O O Y O O O O O
  ·intro fB;refine Vg (Ym O) (Vg (aW O O) ?_);exact Gt 2 O O O
  refine aa O ?_;apply La 3 O O O O Y O O O O O
  ·intro l_;refine Vg (Yf wI O) (Vg (Yd 0 O O O ar) (Vg (aW O O) ?_));exact Gt 3 O O O
  refine aa O ?_;apply La 17 O O O O Y O O O O O
  ·intro vO;refine Vg (Yf nO O) (Vg (Yd 0 O O O ar) (Vg (aW O O) (Vg (Ym O) ?_)));apply La 4 O O O O (.g O O O) O O O O O
   ·intro x3;refine Vg (Ym O) (Vg (Yf oN O) (Vg (Yd 0 O O O ar) (Lp (.g O O O) O acJ O (λw hw=>acM HV HK vb ka kc kn ay x.pl w (hw.vs _ (by simp)) (hw.vs _ (by simp)) h0 h1 eK) ?_)));exact Gt 4 O O O
   refine Vg (Ym O) ?_;apply Lo 6 O O O O (.g O O O) O O O O O
   ·intro Hw;refine Vg (Ym O) (Vg (Yf nO O) (Vg (Yd 0 O O O ar) (Vg (Yf oN O) (Vg (Yd 0 O O O ar) (Lp (.g O O O) O Mt O (λw hw=>Mu HV HK vb ka kc kn ay x.m x.pl 1 w (hw.vs _ (by simp)) (hw.vs _ (by simp)) h0 h1 eK (by omega)) ?_)))));exact Gt 6 O O O
   exact Gt 7 O O O
  refine ae O (ab (aA (bE (Er ?_))));refine R1 O O λw' hw=>?_;exact ⟨by rw [og,if_pos ho],hw.fr⟩
 have iK:¬x.op=1:=by simpa using ai
 refine ad (V0 (aW O O) (ae O (ab ?_)));refine Cc O (λaw=>?_) (λaw=>?_)
 ·have ho:x.op=2:=by simpa using aw
  refine ad (aa O (aa O ?_));apply La 2 O O O O Y O O O O O
  ·intro DI;refine Vg (Ym O) (Vg (aW O O) ?_);exact Gt 2 O O O
  refine aa O ?_;apply La 3 O O O O Y O O O O O
  ·intro S5;refine Vg (Yf wI O) (Vg (Yd 0 O O O ar) (Lp (.g O O O) O acH O (λw hw=>acN _ w) ?_));exact Gt 3 O O O
  refine aa O ?_;apply La 8 O O O O Y O O O O O
  ·intro My
   have S4:0<=x.n/\x.n<=32:=by
     have h9:=(Bool.and_eq_true_iff.1 My).2;unfold E4 at h9;simp at h9;omega
   refine Vg (Ym O) (Vg (Yf nO O) (Vg (Yd 0 O O O ar) (Vg (Yf oN O) (Vg (Yd 0 O O O ar) (Vg (Yf wI O) (Vg (Yd 0 O O O ar) (Lp (.g O O O) O Mt O (λw hw=>Mu HV HK vb ka kc kn ay x.m x.pl x.n w (hw.vs _ (by simp)) (hw.vs _ (by simp)) h0 h1 eK S4) ?_)))))));exact Gt 8 O O O
  refine ae O (ab (aA (bE (Er ?_))));refine R1 O O λw' hw=>?_;exact ⟨by rw [og,if_neg iK,if_pos ho],hw.fr⟩
 have dJ:¬x.op=2:=by simpa using aw
 refine ad (V0 (aW O O) (ae O (ab ?_)));refine Cc O (λaO=>?_) (λaO=>?_)
 ·have ho:x.op=3:=by simpa using aO
  refine ad (aa O (aa O ?_));apply La 3 O O O O Y O O O O O
  ·intro acO;refine Vg (Yf wI O) (Vg (Yd 0 O O O ar) (Vg (aW O O) ?_));exact Gt 3 O O O
  refine aa O ?_;apply La 7 O O O O Y O O O O O
  ·intro acP;refine Vg (Ym O) (Vg (Yf nO O) (Vg (Yd 0 O O O ar) (Vg (Yf oN O) (Vg (Yd 0 O O O ar) (Vg (Ym O) (Lp (.g O O O) O acI O (λw hw=>acL HV HK vb ka kc kn ay x.m x.pl x.args.length w (hw.vs _ (by simp)) (hw.vs _ (by simp)) h0 h1 eK) ?_))))));exact Gt 7 O O O
  refine ae O (ab (aA (bE (Er ?_))));refine R1 O O λw' hw=>?_;exact ⟨by rw [og,if_neg iK,if_neg dJ,if_pos ho],hw.fr⟩
 have eI:¬x.op=3:=by simpa using aO
 refine ad (V0 (aW O O) (ae O (ab ?_)));refine Cc O (λbd=>?_) (λbd=>?_)
 ·have ho:x.op=4:=by simpa using bd
  refine ad (aa O (aa O ?_));apply La 2 O O O O Y O O O O O
  ·intro S6;refine Vg (Ym O) (Vg (aW O O) ?_);exact Gt 2 O O O
  refine ae O (ab (aA (bE (Er ?_))));refine R1 O O λw' hw=>?_;exact ⟨by rw [og,if_neg iK,if_neg dJ,if_neg eI,if_pos ho],hw.fr⟩
 have jv:¬x.op=4:=by simpa using bd
 refine ad (V0 (aW O O) (ae O (ab ?_)));refine Cc O (λbC=>?_) (λbC=>?_)
 ·have ho:x.op=5:=by simpa using bC
  refine ad (aa O (aa O ?_));apply La 2 O O O O Y O O O O O
  ·intro acQ;refine Vg (Ym O) (Vg (aW O O) ?_);exact Gt 2 O O O
  refine aa O ?_;apply La 4 O O O O Y O O O O O
  ·intro acR;refine Vg (Yf wJ O) (Vg (Yd 0 O O O jO) (Vg (Yn gZ O) (Vg (aW O O) ?_)));exact Gt 4 O O O
  refine ae O (ab (aA (bE (Er ?_))));refine R1 O O λw' hw=>?_;exact ⟨by rw [og,if_neg iK,if_neg dJ,if_neg eI,if_neg jv,if_pos ho],hw.fr⟩
 have mf:¬x.op=5:=by simpa using bC
 refine WC.I6 (ι:=Bool) (λbb=>[(5,.int .i64 (x.args.length:Int)),(6,.bool ((x.body.length:Int)+(x.other.length:Int)==0)),(7,.bool (((x.m==0)&&(x.pl==0))&&(x.n==0))),(124,.bool bb)]) (λbb=>Ws w [] [ah b3 (.cells (vn x r).toArray 205 (0,0))] [HV,HK]) (λbb=>bb=decide (x.op=6\/x.op=7)) ?_ ?_
 ·refine ad (V0 (aW O O) (ae O (ab ?_)));refine Cc O (λcU=>?_) (λcU=>?_)
  ·refine Ck ?_
   exact Em (x.op==6) (by have h9:x.op=6:=(by simpa using cU); rw [h9]; decide) (sc O (sc O (sc O (sc O sn)))) (λ_ h=>by
     have h:=h.aX 0 rfl
     exact h)
  have qM:¬x.op=6:=by simpa using cU
  refine Cr (V0 (aW O O) (ae O (Ln ?_)))
  exact Em (x.op==7) (by rw [Bool.eq_iff_iff]; simp; omega) (sc O (sc O (sc O (sc O sn)))) (λ_ h=>by
    have h:=h.aX 0 rfl
    exact h)
 intro bb vI;refine Cc O (λdb=>?_) (λdb=>?_)
 ·refine ad (aa O (aa O ?_));apply La 1 O O O O Y O O O O O
  ·intro acS;refine Vg (Ym O) ?_;exact Gt 1 O O O
  refine aa O ?_;apply La 2 O O O O Y O O O O O
  ·intro S7;refine Vg (Ym O) (Vg (aW O O) ?_);exact Gt 2 O O O
  refine ae O (ab (aA (bE (Er ?_))));refine R1 O O λw' hw=>?_;exact ⟨by rw [og,if_neg iK,if_neg dJ,if_neg eI,if_neg jv,if_neg mf,if_pos (of_decide_eq_true (vI.symm.trans db))],hw.fr⟩
 refine Ck (Eb (Et (ad (ae O (ab (aA ?_))))));refine R1 O O λw' hw=>?_;exact ⟨by rw [og,if_neg iK,if_neg dJ,if_neg eI,if_neg jv,if_neg mf,if_neg (of_decide_eq_false (vI.symm.trans db))],hw.fr⟩
theorem acW (HV HK:View) (vb:Nat) (ka:Option Addr) (kc:Nat) (kn:List cS) (ay:Int) (H:View) (ke k:Nat) (l:List cA) (a:Option Addr) (c:Nat) (d:Nat) (w:World) (pK:Le HV w) (pL:Le HK w) (h0:vc HV vb 0=some (.slice ka kn.length kc)) (h1:vc HV vb 1=some (.int .i64 ay)) (eK:Sl p4 3 HK ka kc kn) (hH:Le H w) (hl:Sl (iP ke k) 7 H a c l) (hd:d<=7) :
   Calls Tryz.prog 135 #[.pointer (some ⟨vb,0,none⟩),.slice a l.length c,.int .i64 (d:Int)] w λe w'=>e = .returned (.bool (jF kn ay l d))/\Ext w w':=by
 have DF:=eK.cap;have DG:=eK.max
 induction k using Nat.strongRecOn generalizing l a c d w
 rename_i k ih;have dR:=hl.cap;have eQ:=hl.max;refine enter Tryz.func135 O 68 O O ?_;refine CE (Vs:=[HV,HK,H]) (Ws.init (by simp [pK,pL,hH])) (ad (ae O (ab (Cs (ad (aa O (V0 (cI O O) (aa O ?_))))))));apply Lo 3 O O O O Y O O O O O
 ·intro du;refine Vg (Ym O) (Vg (Yn gZ O) (Vg (cI O O) ?_));exact Gt 3 O O O
 refine ab ?_;refine Cc O (λai=>?_) (λai=>?_)
 ·refine ad (ae O (ab (aA (Er ?_))));refine R1 O O λw' hw=>?_;exact ⟨by rw [ahI kn ay l d ai],hw.fr⟩
 have iw:=ahJ ai;refine aE (Cs (ad (aa O (V0 (Yn gZ O) (aa O (ab (Cb ?_)))))));refine CW (ι:=Nat) (λi=>[(18,.int .i64 (i:Int))]) [(0,_),(2,_),(16,_),(17,_)] (λi=>i<=l.length/\(l.take i).all (tj kn ay · d)=true) (λi=>l.length-i) 0 ⟨Nat.zero_le _,O⟩ (sc O (sc O (sc O (sc O (sc O sn))))) ?_;intro i ⟨hi,bT⟩;refine ad (V0 (bj O O) (ab (Cs ?_)));refine Cc O (λaw=>?_) (λaw=>?_)
 ·have av:i<l.length:=by simpa using aw
  obtain ⟨x,bn⟩:∃q,l[i]? = some q:=⟨_,List.getElem?_eq_getElem av⟩;obtain ⟨dW,dX,dZ,cg⟩:=hl.aS i x bn
  obtain ⟨k2,rfl⟩:∃k2,k=k2+1:=by
    cases k with
    | zero=>exact cg.elim
    | succ k2=>exact ⟨k2,rfl⟩
  obtain ⟨r,cw,iE,gX,kF⟩:=cg;have akQ:=gX.cap;have max2:=gX.max;have akR:=kF.cap;have akS:=kF.max;refine aE (Cs (Cb (ad (V0 (Yo gZ O O dZ av) (V0 (cJ 2 Dt O O O (cw)) ?_)))));refine Al Y O Hl λb8=>?_;refine an 0 Y O O O L9 O O O (ab (Cs (fg 0 (.cells (vn x r).toArray 205 (0,0)) O O (Cr (aa O (V0 (bk 0 O O Dt O) (Lp Y O asy O (λw hw=>asA HV HK vb ka kc kn ay x r w (hw.vs _ (by simp)) (hw.vs _ (by simp)) h0 h1 eK (by omega) (by omega)) (V0 (dK O) ?_))))))));refine aa O ?_;apply Lo 5 O O O O Y O O O O O
  ·intro eh;refine Vg (Ym O) (Vg (Yf pG O) (Vg (Yd 0 O O O jy) (Lp (.g O O O) O acV O (λw hw=>asz HV HK vb ka kc kn ay H ke x.args r.s1.1 r.s1.2 1 w (hw.vs _ (by simp)) (hw.vs _ (by simp)) h0 h1 eK (hw.vs _ (by simp)) iE (by omega)) (Vg (dK O) ?_))));exact Gt 5 O O O
  refine aa O ?_;apply Lo 17 O O O O Y O O O O O
  ·intro fB;refine Vg (Yf Dy O) (Vg (Yd 0 O O O ar) (Vg (aW O O) (Vg (Ym O) ?_)));apply Lo 3 O O O O (.g O O O) O O O O O
   ·intro l_;refine Vg (Yf Dy O) (Vg (Yd 0 O O O ar) (Vg (aW O O) ?_));exact Gt 3 O O O
   refine Vg (Ym O) ?_;apply La 7 O O O O (.g O O O) O O O O O
   ·intro vO;refine Vg (Ym O) (Vg (Yf AN O) (Vg (Yd 0 O O O jO) (Vg (Ym O) (Vg (Yi O O O (by omega)) (Lp (.g O O O) O Mz O (λw hw=>ih k2 (by omega) x.body r.s2.1 r.s2.2 (d+1) w (hw.vs _ (by simp)) (hw.vs _ (by simp)) (hw.vs _ (by simp)) gX (by omega)) (Vg (dK O) ?_))))));exact Gt 7 O O O
   exact Gt 7 O O O
  refine aa O ?_;apply Lo 13 O O O O Y O O O O O
  ·intro x3;refine Vg (Yf wJ O) (Vg (Yd 0 O O O jO) (Vg (Yn gZ O) (Vg (cI O O) (Vg (Ym O) ?_))));apply La 7 O O O O (.g O O O) O O O O O
   ·intro Hw;refine Vg (Ym O) (Vg (Yf wJ O) (Vg (Yd 0 O O O jO) (Vg (Ym O) (Vg (Yi O O O (by omega)) (Lp (.g O O O) O Mz O (λw hw=>ih k2 (by omega) x.other r.s3.1 r.s3.2 (d+1) w (hw.vs _ (by simp)) (hw.vs _ (by simp)) (hw.vs _ (by simp)) kF (by omega)) (Vg (dK O) ?_))))));exact Gt 7 O O O
   exact Gt 6 O O O
  refine ab ?_;rw [ahH];refine Cc O (λaO=>?_) (λaO=>?_)
  ·have hx:tj kn ay x d=false:=by simpa using aO
   refine ad (ae O (ab (aA (bE (Er (Er (bE (Er ?_))))))));refine R1 O O λw' hw=>?_;exact ⟨by rw [Wu kn ay iw,E6 bn hx],hw.fr⟩
  have hx:tj kn ay x d=true:=by simpa using aO
  refine Ck (Eb (Et (Cr (V0 (Yi O O O (by omega)) (aa O (Ln ?_))))));exact Ea (i+1) (by omega) ⟨by omega,E7 bn bT hx⟩ (sc O (sc O (sc O (sc O (sc O sn))))) (λ_ h=>Wd 1 h)
 have bP:¬i<l.length:=by simpa using aw
 rw [List.take_of_length_le (by omega)] at bT;refine Ce (Ex (Ex (bA (Et (ad (ae O (ab (aA ?_))))))));refine R1 O O λw' hw=>?_;exact ⟨by rw [Wu kn ay iw,bT],hw.fr⟩
abbrev XK:=cS×(Option Addr×Nat)
def XK.cells (e:XK):List Value:=e.1.cells e.2
theorem XK.bq (e:XK):(XK.cells e).length=3:=rfl
theorem XK.one (e:XK):(XK.cells e).all (·.oneCell')=true:=rfl
def MA (H:View) (b o:Nat) (e:XK):Prop:=aR H b o (XK.cells e)
def AW (J:View) (e:XK):Prop:=Sl xM 1 J e.2.1 e.2.2 e.1.parts
theorem AW.mv {A B:View} {e:XK} (hv:aK A B) (h:AW A e):AW B e:=h.imp λ_ _ _ r=>aR.mono hv r
def acX (H:View) (b o:Nat) (e:XK):Prop:=aR H b o (XK.cells e)/\AW H e
theorem asB {H:View} {a:Option Addr} {c:Nat} {l:List cS} (h:Sl p4 3 H a c l):∃ys:List XK,ys.map (·.1)=l/\Sl acX 3 H a c ys:=by
 obtain ⟨ys,h1,h2⟩:=XQ (β:=Option Addr×Nat) (p:=λi x r=>∃b o,a=some ⟨b,o,none⟩/\aR H b (o+i*3) (cS.cells x r)/\Sl xM 1 H r.1 r.2 x.parts) l 0 λi x hx=>by
   obtain ⟨b,o,ha,r,hr,hm⟩:=h.aS i x hx;exact ⟨r,b,o,ha,by rw [Nat.zero_add]; exact hr,hm⟩
 have hl:ys.length=l.length:=by rw [<-h1,List.length_map]
 refine ⟨ys,h1,by rw [hl]; exact h.cap,h.max,h.spot,λi y hy=>?_⟩;obtain ⟨b,o,ha,hr,hm⟩:=h2 i y hy;rw [Nat.zero_add] at hr;exact ⟨b,o,ha,hr,hm⟩
theorem acY {K N:View} {a:Option Addr} {c:Nat} {es:List XK} (h:Sl MA 3 K a c es) (hv:aK K N) (he:∀e ∈ es,AW N e):Sl p4 3 N a c (es.map (·.1)):=by
 refine ⟨by rw [List.length_map]; exact h.cap,h.max,h.spot,λi x hx=>?_⟩;rw [List.getElem?_map] at hx;obtain ⟨y,hy,rfl⟩:=Option.map_eq_some_iff.1 hx;obtain ⟨b,o,ha,hr⟩:=h.aS i y hy;exact ⟨b,o,ha,y.2,aR.mono hv hr,he y (List.mem_of_getElem? hy)⟩
theorem asC {u:b_} (h:B6 u=false):u.parts.length<=6/\u.ag.length<=3/\0<=u.data/\u.data<=512:=by
 unfold B6 at h;simp only [Bool.or_eq_false_iff,decide_eq_false_iff_not] at h;omega
theorem asD {kn:List cS} {x:jC} (h:(((decide (x.params<0)||decide (3<x.params))||decide (x.locals<0))||decide (4<x.locals))=true):p5 kn x=false:=by unfold p5; rw [h]; rfl
theorem asE {kn:List cS} {x:jC} (h:(((decide (x.params<0)||decide (3<x.params))||decide (x.locals<0))||decide (4<x.locals))=false):p5 kn x=jF kn (x.params+x.locals) x.body 1:=by unfold p5; rw [h]; rfl
theorem asF (b:Bool):decide (1<(if b=true then (1:Int) else 0)+1)=b:=by cases b<;>decide
theorem asG:fo Tryz.prog 126=some [(0,1),(1,1),(2,1)]:=by kernel_rfl
theorem MB:gj Tryz.prog 89=some 3:=by kernel_rfl
theorem Tb:cC Tryz.prog 89=some 3:=by kernel_rfl
theorem iZ:e9 Tryz.prog 54 3 (.int .i64 0) 1 8:=ja (by kernel_rfl)
theorem Hx:cC Tryz.prog 54=some 1:=by kernel_rfl
theorem asH:Enters Tryz.prog 64:=enters_of Tryz.func64 (by kernel_rfl) rfl
theorem Tc:e9 Tryz.prog 124 126 (.agg #[.bool false,.int .i64 0,.slice none 0 0]) 3 40:=ja (by kernel_rfl)
theorem asI:fo Tryz.prog 235=some [(0,1),(1,1)]:=by kernel_rfl
theorem asJ:zeroOf Tryz.prog 235=some (.agg #[.slice none 0 0,.int .i64 0]):=by kernel_rfl
theorem asK (H:View) (ke k:Nat) (u:b_) (r:jW) (w:World) (hH:Le H w) (hu:je ke k H r u) (hp:u.parts.length<=1048576) :
   Calls Tryz.prog 64 #[.agg (eG u r).toArray] w λe w'=>∃q:Option Addr×Nat,e = .returned (.agg ((iz u).cells q).toArray)/\Ext w w'/\Sl xM 1 (nv w w') q.1 q.2 (iz u).parts:=by
 have dR:=hu.parts.cap;have eQ:=hu.parts.max;refine enter Tryz.func64 O 25 O O ?_;refine CE (Vs:=[H]) (Ws.init (by simp [hH])) (ad ?_);refine WL.box Y O O λb1=>?_;refine Al Y O Hv λb2=>?_;refine ab (ad (V0 (Yf DB O) (V0 (Yd 1 O O O ar) (V0 (Yb Hv asG O O) ?_))));refine Al Y O Hv λb3=>?_;refine an 0 Y O O O Mr O O O (ab (Cs (Cs (fg 0 (.cells #[.bool true,.int .i64 u.data,.slice none 0 0] 126 (0,0)) O O (Cr (V0 (Yf nP O) (V0 (Yd 2 O O O oO) (V0 (Yn mT O) (aa O ?_)))))))));refine LW (λ_ h=>h.eM 3 1) (ab (Cb ?_));refine cq (ι:=Nat×(Option Addr×Nat)) (λg=>[(12,.int .i64 (g.1:Int))]) [(2,_),(3,_),(10,_),(11,_)] (λg=>Ws w [] [bt 3 1 eH g.2.1 g.2.2 ((u.parts.take g.1).map (·.params)),ah b3 (.cells #[.bool true,.int .i64 u.data,.slice g.2.1 ((u.parts.take g.1).map (·.params)).length g.2.2] 126 (0,0)),ah b2 (.cells #[.bool false,.int .i64 0,.slice none 0 0] 126 (0,0)),ah b1 (.cells (eG u r).toArray 40 (0,0))] [H]) (λg=>g.1<=u.parts.length) (λg=>u.parts.length-g.1) (0,(none,0)) (Nat.zero_le _) (sc O (sc O (sc O (sc O (sc O sn))))) (λ_ h=>h) ?_;intro g oP;refine ad (V0 (bj O O) (ab (Cs ?_)));refine Cc O (λai=>?_) (λai=>?_)
 ·have av:g.1<u.parts.length:=by simpa using ai
  obtain ⟨x,bn⟩:∃q,u.parts[g.1]? = some q:=⟨_,List.getElem?_eq_getElem av⟩;obtain ⟨dW,dX,dZ,cg⟩:=hu.parts.aS g.1 x bn;obtain ⟨xr,cw,hP⟩:=cg
  have hT:(u.parts.take (g.1+1)).map (·.params)=(u.parts.take g.1).map (·.params)++[x.params]:=by rw [List.take_add_one,bn]; simp
  have hL:((u.parts.take g.1).map (·.params)).length=g.1:=by simp; omega
  refine aE (Cs (Cb (ad (V0 (Yo mT O O dZ av) (V0 (cJ 0 MB O O O (cw)) ?_)))));refine Al Y O Ho λb5=>?_;refine an 0 Y O O O Tb O O O (ab (fg 0 (.cells (BV x xr).toArray 89 (0,0)) O O (Cr (V0 (Yf Ms O) (V0 (Yd 2 O O O nQ) (V0 (Yf AT O) (V0 (Yd 0 O O O ar) ?_)))))));refine Lb Y O iZ O O O O λju=>?_;refine bL 0 (.cells (eH x.params).toArray 3 (0,0)) O (O) ?_;refine LA (x.params) 2 0 Y O iZ O O O O O O (by omega) (by omega) λa21 c21=>?_;refine V0 (Yf Ms O) (an 3 Y O O O Hx O O O (Ln (Eb (Et (Cr (V0 (Yi O O O (by omega)) (aa O (LW (λ_ h=>h.eM 3 1) (Ln ?_)))))))));rw [<-hT];exact Ea ((g.1+1,(a21,c21)):Nat×(Option Addr×Nat)) (by show _-(g.1+1)<_; omega) (by show g.1+1<=_; omega) (sc O (sc O (sc O (sc O (sc O sn))))) (λ_ h=>Wd 3 h)
 have bP:g.1=u.parts.length:=by simp at ai; omega
 rw [bP,List.take_length];refine Ce (Ex (Ex (bA (Et (ad (V0 (bk 1 O O Mq O) (an 2 Y O O O Mr O O O (ab (aA ?_)))))))));refine WE.NJ 2 O O O Mq O λw' hw=>?_;exact ⟨g.2,O,hw.fr,hw.kS 0 O Wk (λ_ _ _ _ h=>h)⟩
theorem asL (H HU:View) (ke k:Nat) (u:b_) (r:jW) (us:List cS) (ua:Option Addr) (uc:Nat) (w:World) (hH:Le H w) (hHU:Le HU w) (hu:je ke k H r u) (hus:Sl p4 3 HU ua uc us) (hul:us.length<=1048576) :
   Calls Tryz.prog 65 #[.agg (eG u r).toArray,.slice ua us.length uc] w λe w'=>e = .returned (.bool (tm u us))/\Ext w w':=by
 have dR:=hu.ag.cap;have eQ:=hu.ag.max;have asP:=hu.parts.cap;have asQ:=hu.parts.max;refine enter Tryz.func65 O 115 O O ?_;refine CE (Vs:=[H,HU]) (Ws.init (by simp [hH,hHU])) (ad ?_);refine WL.box Y O O λb2=>?_;refine ae O (ab (ad ?_));refine WL.oY st Y O λqu=>?_;refine V0 (Yf Dz O) (V0 (Yd 1 O O O bW) ?_);refine WL.nh 0 ix Y iH dy O O O O ?_;refine aa O (ae O (ab (Cs (ad (V0 (Yf DA O) (V0 (Yd 1 O O O eE) (V0 (Yn cz O) (aa O (ab (Cb ?_))))))))));refine cq (ι:=Nat) (λi=>[(18,.int .i64 (i:Int))]) [(1,_),(2,_),(5,_),(16,_),(17,_)] (λi=>Ws w [] [ah qu (bh st (nz (u.nm::u.ag.take i) 0) (u.nm::u.ag.take i).length),ah b2 (.cells (eG u r).toArray 40 (0,0))] [H,HU]) (λi=>i<=u.ag.length/\(u.nm::u.ag.take i).Nodup/\(u.ag.take i).all dB=true) (λi=>u.ag.length-i) 0 ⟨Nat.zero_le _,by simp,O⟩ (sc O (sc O (sc O (sc O (sc O (sc O sn)))))) (λ_ h=>h) ?_;intro i ⟨hi,j9,bT⟩;refine ad (V0 (bj O O) (ab (Cs ?_)));refine Cc O (λai=>?_) (λai=>?_)
 ·have av:i<u.ag.length:=by simpa using ai
  obtain ⟨s,fp⟩:∃q,u.ag[i]? = some q:=⟨_,List.getElem?_eq_getElem av⟩;obtain ⟨pJ,pos,has,gY⟩:=hu.ag.aS i s fp;have gY:aR H pJ (pos+i*1) (cM s):=gY;refine aE (Cs (Cb (ad (V0 (Yo cz O O has av) (V0 (bo 0 bW O O (gY 0 _ O)) (ae O (ab (ad (aa O (aa O (V0 (vh 0 ix iH dy me O O O) ?_)))))))))));rw [ah0];refine V0 (mY O O (by split<;>omega)) ?_;refine WL.rr 0 ix Y iH dy O O O O ?_;refine ab (ad (aa O (aa O (V0 (vh 0 ix iH dy me O O O) ?_))));rw [zD];refine V0 (cI O O) ?_;rw [asF];refine aa O ?_;apply Lo 3 (x:=!(dB s)) O O O O Y O O O O O
  ·intro du;refine Vg (Ym O) (Lp (.g O O O) O si O (λw hw=>sh _ w) (Vg (dK O) ?_));exact Gt 3 O O O
  refine ab ?_;refine Cc O (λaw=>?_) (λaw=>?_)
  ·have iu:(u.nm::u.ag.take i).contains s=true\/dB s=false:=by
     have h9:=aw
     cases iO:(u.nm::u.ag.take i).contains s with
     | true=>exact .inl rfl
     | false=>rw [iO] at h9; exact .inr (by simpa using h9)
   refine ad (ae O (ab (aA (bE (Er (Er (bE (Er ?_))))))));refine R1 O O λw' hw=>?_;exact ⟨by rw [tm,ah1 fp iu]; rfl,hw.fr⟩
  obtain ⟨iO,hnb⟩:(u.nm::u.ag.take i).contains s=false/\dB s=true:=by
    have h9:=Bool.or_eq_false_iff.1 aw;exact ⟨h9.1,by simpa using h9.2⟩
  have hT:(u.nm::u.ag.take i)++[s]=u.nm::u.ag.take (i+1):=by rw [List.take_add_one,fp]; simp
  rw [iO,show ((if false=true then (1:Int) else 0)+1)=1 from rfl,(WO iO).1,(WO iO).2,hT]
  have Ht:(u.nm::u.ag.take (i+1)).Nodup:=by
    rw [<-hT,List.nodup_append];refine ⟨j9,by simp,λa ha b hb e=>?_⟩;rw [List.mem_singleton] at hb; subst hb; subst e
    have h9:(u.nm::u.ag.take i).contains a=true:=by simpa using ha
    rw [iO] at h9; cases h9
  refine Ck (Eb (Et (Cr (V0 (Yi O O O (by omega)) (aa O (Ln ?_))))));exact Ea (i+1) (by omega) ⟨by omega,Ht,E7 fp bT hnb⟩ (sc O (sc O (sc O (sc O (sc O (sc O sn)))))) (λ_ h=>h)
 have bP:i=u.ag.length:=by simp at ai; omega
 rw [bP,List.take_length] at j9 bT;refine Ce (Ex (Ex (bA (Et (Cs (ad (V0 (Yf Dz O) (V0 (Yd 1 O O O bW) (Lp Y O si O (λw hw=>sh _ w) (V0 (dK O) (aa O ?_)))))))))));apply Lo 4 O O O O Y O O O O O
 ·intro eh;refine Vg (Yf DA O) (Vg (Yd 1 O O O eE) (Vg (Yn cz O) (Vg (cI O O) ?_)));exact Gt 4 O O O
 refine aa O ?_;apply Lo 3 O O O O Y O O O O O
 ·intro fB;refine Vg (Yf DB O) (Vg (Yd 1 O O O ar) (Vg (bj O O) ?_));exact Gt 3 O O O
 refine aa O ?_;apply Lo 3 O O O O Y O O O O O
 ·intro l_;refine Vg (Yf DB O) (Vg (Yd 1 O O O ar) (Vg (cI O O) ?_));exact Gt 3 O O O
 refine aa O ?_;apply Lo 4 O O O O Y O O O O O
 ·intro vO;refine Vg (Yf nP O) (Vg (Yd 1 O O O oO) (Vg (Yn mT O) (Vg (cI O O) ?_)));exact Gt 4 O O O
 refine ab ?_;refine Cc O (λaO=>?_) (λaO=>?_)
 ·refine ad (ae O (ab (aA (Er ?_))));refine R1 O O λw' hw=>?_;exact ⟨by rw [tm,show B6 u=true from aO]; simp,hw.fr⟩
 have hhd:B6 u=false:=aO;obtain ⟨hp6,hu3,hd0,x8⟩:=asC hhd;refine aE (Cs ?_);obtain ⟨ys,I5,mo⟩:=asB hus
 have Jv:ys.length=us.length:=by rw [<-I5,List.length_map]
 have hkl:∀q,([((iz u,q):XK)]++ys).length=(iz u::us).length:=λq=>by simp [Jv]
 refine Cr (V0 (bk 1 O O iJ O) ?_);refine Ld Y O asH O (λq:Option Addr×Nat=>.agg ((iz u).cells q).toArray) (λF q=>Sl xM 1 F q.1 q.2 (iz u).parts) (λw hw=>asK H ke k u r w (hw.vs _ (by simp)) hu (by omega)) ?_;intro F63 Dl aAO oR;refine Lb Y O Tc O O O O λHy=>?_;refine bL 0 (.cells (([(iz u,Dl)]:List XK).flatMap XK.cells).toArray 126 (0,0)) O O (LW (λ_ h=>h.s9 (f:=XK.cells) (xs:=[(iz u,Dl)]) (c:=1) 0 O XK.bq O (by decide)) (aa O ?_));refine WL.BM (f:=XK.cells) (rd:=acX) (xs:=[((iz u,Dl):XK)]) (ys:=ys) 0 (λ_=>HU) Y O Tc O (by show some (Value.slice ua us.length uc)=_; rw [<-Jv]) O (λw hw=>⟨hw.vs HU (by simp),mo⟩) (λ_ _ _ _ h=>h.1) XK.bq XK.one (by simp; omega) (by simp; omega) λyE yF=>?_;refine V0 (Yb asJ asI O O) ?_;refine WL.box Y O O λLK=>?_;refine bL 0 (.cells #[.slice yE (iz u::us).length yF,.int .i64 0] 235 (0,0)) O (congrArg (λn=>Obj.cells #[.slice yE n yF,.int .i64 0] 235 (0,0)) (hkl Dl)) (ae O (ab (Cs (Cs ?_))));refine WC.n5 (rd:=MA) 1 O XK.bq (λ_ _ _ _ h=>h) λK hK=>?_
 have fe:∀w,Le K w->Le F63 w->Le HU w->Sl p4 3 (hv w) yE yF (iz u::us):=λw g1 g2 g3=>by
   have h9:=acY hK (pR g1) λe he=>by
     rcases List.mem_append.1 he with he | he
     · rw [List.mem_singleton] at he; subst he; exact AW.mv (pR g2) oR
     · obtain ⟨q,hq⟩:=List.getElem?_of_mem he
       obtain ⟨_,_,_,_,h⟩:=mo.aS q e hq;exact AW.mv (pR g3) h
   rw [List.map_append,I5] at h9;exact h9
 refine Cr (V0 (Yf nP O) (V0 (Yd 2 O O O oO) (V0 (Yn mT O) (aa O (ab (Cb ?_))))));refine cq (ι:=Nat×Int) (λg=>[(72,.int .i64 (g.1:Int))]) [(2,_),(8,_),(70,_),(71,_)] (λg=>Ws w [] [ah LK (.cells #[.slice yE (iz u::us).length yF,.int .i64 g.2] 235 (0,0)),ah b2 (.cells (eG u r).toArray 40 (0,0))] [K,F63,H,HU]) (λg=>g.1<=u.parts.length/\(u.parts.take g.1).all (p5 (iz u::us))=true) (λg=>u.parts.length-g.1) (0,0) ⟨Nat.zero_le _,O⟩ (sc O (sc O (sc O (sc O (sc O sn))))) (λ_ h=>(Wt 2 ((h.f 2 O).f 1 O):)) ?_;intro g ⟨oP,Td⟩;refine ad (V0 (bj O O) (ab (Cs ?_)));refine Cc O (λbd=>?_) (λbd=>?_)
 ·have av:g.1<u.parts.length:=by simpa using bd
  obtain ⟨x,bn⟩:∃q,u.parts[g.1]? = some q:=⟨_,List.getElem?_eq_getElem av⟩;obtain ⟨dW,dX,dZ,cg⟩:=hu.parts.aS g.1 x bn;obtain ⟨xr,cw,hP⟩:=cg;refine aE (Cs (Cb (ad (V0 (Yo mT O O dZ av) (V0 (cJ 2 MB O O O (cw)) ?_)))));refine Al Y O Ho λR0=>?_;refine an 0 Y O O O Tb O O O (ab (Cs (Cs (fg 0 (.cells (BV x xr).toArray 89 (0,0)) O O (Cr (V0 (Yf AT O) (V0 (Yd 0 O O O ar) (V0 (bj O O) (aa O ?_)))))))));apply Lo 3 O O O O Y O O O O O
  ·intro x3;refine Vg (Yf AT O) (Vg (Yd 0 O O O ar) (Vg (cI O O) ?_));exact Gt 3 O O O
  refine aa O ?_;apply Lo 3 O O O O Y O O O O O
  ·intro Hw;refine Vg (Yf DC O) (Vg (Yd 0 O O O ar) (Vg (bj O O) ?_));exact Gt 3 O O O
  refine aa O ?_;apply Lo 3 O O O O Y O O O O O
  ·intro DI;refine Vg (Yf DC O) (Vg (Yd 0 O O O ar) (Vg (cI O O) ?_));exact Gt 3 O O O
  refine ab ?_;refine Cc O (λbC=>?_) (λbC=>?_)
  ·have hx:p5 (iz u::us) x=false:=asD bC;refine ad (ae O (ab (aA (Er (bE (Er (Er (bE (Er ?_)))))))));refine R1 O O λw' hw=>?_;exact ⟨by rw [tm,E6 bn hx]; simp,hw.fr⟩
  have hpx:=asE (kn:=(iz u::us)) bC
  have AD:0<=x.params/\x.params<=3/\0<=x.locals/\x.locals<=4:=by
    simp only [Bool.or_eq_false_iff,decide_eq_false_iff_not] at bC; omega
  refine aE (ad (aa O (V0 (Yf AT O) (V0 (Yd 0 O O O ar) (V0 (Yf DC O) (V0 (Yd 0 O O O ar) (V0 (mY O O (by omega)) (V0 (bD O) ?_))))))));refine V0 (Yf S2 O) (an 1 Y O O O di O O O (ab (Cs (fg 1 (.cells #[.slice yE (iz u::us).length yF,.int .i64 (x.params+x.locals)] 235 (0,0)) O O (Cr (aa O (V0 (Yf Mm O) (V0 (Yd 0 O O O jO) ?_))))))));refine Lp Y O Mz O (λw hw=>acW (hv w) (hv w) LK yE yF (iz u::us) (x.params+x.locals) H ke k x.body xr.1 xr.2 1 w (kR w) (kR w) (rH (hw.n8 1 O) O) (rH (hw.n8 1 O) O) (fe w (hw.vs _ (by simp)) (hw.vs _ (by simp)) (hw.vs _ (by simp))) (hw.vs _ (by simp)) hP (by omega)) (V0 (dK O) (ab ?_));refine Cc O (λcU=>?_) (λcU=>?_)
  ·have hx:p5 (iz u::us) x=false:=by rw [hpx]; simpa using cU
   refine ad (ae O (ab (aA (bE (Er (Er (bE (Er ?_))))))));refine R1 O O λw' hw=>?_;exact ⟨by rw [tm,E6 bn hx]; simp,hw.fr⟩
  have hx:p5 (iz u::us) x=true:=by rw [hpx]; simpa using cU
  refine Ck (Eb (Et (Cr (V0 (Yi O O O (by omega)) (aa O (Ln ?_))))));exact Ea ((g.1+1,x.params+x.locals):Nat×Int) (by show _-(g.1+1)<_; omega) ⟨(by show g.1+1<=_; omega),E7 bn Td hx⟩ (sc O (sc O (sc O (sc O (sc O sn))))) (λ_ h=>Wd 1 h)
 have vT:¬g.1<u.parts.length:=by simpa using bd
 rw [List.take_of_length_le (by omega)] at Td;refine Ce (Ex (Ex (bA (Et (ad (aa O (V0 (bD O) (V0 (Yf S2 O) (an 0 Y O O O di O O O (ab (Cs (fg 0 (.cells #[.slice yE (iz u::us).length yF,.int .i64 0] 235 (0,0)) O O ?_))))))))))));refine Cr (aa O (V0 (Yf Hp O) (V0 (Yd 1 O O O jO) (Lp Y O Mz O (λw hw=>acW (hv w) (hv w) LK yE yF (iz u::us) 0 H ke k u.main r.s3.1 r.s3.2 1 w (kR w) (kR w) (rH (hw.n8 0 O) O) (rH (hw.n8 0 O) O) (fe w (hw.vs _ (by simp)) (hw.vs _ (by simp)) (hw.vs _ (by simp))) (hw.vs _ (by simp)) hu.main (by omega)) (ae O (ab (aA ?_)))))));refine R1 O O λw' hw=>?_;exact ⟨by rw [tm,ah2 j9 bT,hhd,Td]; rfl,hw.fr⟩
theorem DJ:eo Tryz.prog 28=some 5:=by kernel_rfl
theorem asU:Enters Tryz.prog 65:=enters_of Tryz.func65 (by kernel_rfl) rfl
theorem mU:bw Tryz.prog 157 0=some 0:=by kernel_rfl
theorem mV:bw Tryz.prog 56 3=some 3:=by kernel_rfl
theorem kb:dQ Tryz.prog 31=true:=by kernel_rfl
theorem iL:e9 Tryz.prog 31 108 (.agg #[.int .i64 0,.int .i64 0,.int .i64 0]) 3 24:=ja (by kernel_rfl)
theorem MC:cC Tryz.prog 31=some 1:=by kernel_rfl
theorem kf:eo Tryz.prog 31=some 3:=by kernel_rfl
theorem AX:bw Tryz.prog 56 4=some 4:=by kernel_rfl
theorem DK:dQ Tryz.prog 53=true:=by kernel_rfl
theorem asV:fo Tryz.prog 112=some [(0,1),(1,1),(2,1)]:=by kernel_rfl
theorem Hz:zeroOf Tryz.prog 112=some (.agg #[.int .i64 0,.int .i64 0,.int .i64 0]):=by kernel_rfl
theorem ac2:e9 Tryz.prog 53 112 (.agg #[.int .i64 0,.int .i64 0,.int .i64 0]) 3 24:=ja (by kernel_rfl)
theorem asW:cC Tryz.prog 53=some 1:=by kernel_rfl
theorem HA:gj Tryz.prog 108=some 3:=by kernel_rfl
theorem lf:Enters Tryz.prog 140:=enters_of Tryz.func140 (by kernel_rfl) rfl
theorem Te:dQ Tryz.prog 155=true:=by kernel_rfl
theorem g_:fo Tryz.prog 108=some [(0,1),(1,1),(2,1)]:=by kernel_rfl
theorem gA:zeroOf Tryz.prog 108=some (.agg #[.int .i64 0,.int .i64 0,.int .i64 0]):=by kernel_rfl
theorem DL:Enters Tryz.prog 224:=enters_of Tryz.func224 (by kernel_rfl) rfl
theorem HC:bw Tryz.prog 108 1=some 1:=by kernel_rfl
theorem lg (sb:Nat) (K:gV) (t:a8) (H:View) (a:Option Addr) (c:Nat) (l:List aU) (w:World) (hl:Sl fK 3 H a c l) (hb:t.g.code.length+l.length<=1000000000010) (hw:Ws w (List.flatMap ao.ids (aV 157 108 112 sb K t)) (aV 157 108 112 sb K t) [H] w) :
   Calls Tryz.prog 140 #[.pointer (some ⟨sb,0,none⟩),.slice a l.length c] w λe w'=>∃q:SP,e = .returned (.tuple #[])/\Ws w (List.flatMap ao.ids (aV 157 108 112 sb K t)) (aV 157 108 112 sb K ⟨aM l t.g,q,t.fa⟩) [H] w':=by
 have dR:=hl.cap;have eQ:=hl.max;refine enter Tryz.func140 O 15 O O ?_;refine CE hw (Cr (aa O (aa O (V0 (bD O) (V0 (Yf mU O) (V0 (Yf mV O) (V0 (Yd 0 O O O kb) ?_)))))));refine aa O ?_;refine WL.BM (xs:=t.g.code) (ys:=l) 1 (λ_=>H) Y O iL O O O (λw hw=>⟨hw.vs H (by simp),hl⟩) (λ_ _ _ _ h=>h) aU.bq aU.one (by omega) (by omega) λa11 c11=>?_;refine V0 (bD O) (V0 (Yf mU O) (V0 (Yf mV O) (an 0 Y O O O MC O O O (Ln ?_))));refine E0 O λw' hw=>?_;exact ⟨(a11,c11),O,hw⟩
theorem DM (sb:Nat) (K:gV) (t:a8)  (i:aU) (kind m:Int) (w:World)  (hb:t.g.code.length+1<=1000000000000) (wR:t.g.fix.length+1<=1000000000000) (hw:Ws w (List.flatMap ao.ids (aV 157 108 112 sb K t)) (aV 157 108 112 sb K t) [] w) :
   Calls Tryz.prog 224 #[.pointer (some ⟨sb,0,none⟩),.agg i.cells.toArray,.int .i64 kind,.int .i64 m] w λe w'=>∃q:SP×SP,e = .returned (.int .i64 (t.g.code.length:Int))/\Ws w (List.flatMap ao.ids (aV 157 108 112 sb K t)) (aV 157 108 112 sb K ⟨aq i kind m t.g,q.1,q.2⟩) [] w':=by
 refine enter Tryz.func224 O 36 O O ?_;refine CE hw (ad ?_);refine WL.box Y O O λb5=>?_;refine ae O (ab (ad (aa O (V0 (bD O) (V0 (Yf mU O) (V0 (Yf mV O) (V0 (Yd 1 O O O kb) (V0 (Yn kf O) ?_))))))));refine ae O (ab (ad (aa O (aa O (V0 (bD O) (V0 (Yf mU O) (V0 (Yf AX O) (V0 (Yd 1 O O O DK) ?_))))))));refine aa O (aa O (aa O (V0 (Yb Hz asV O O) ?_)));refine Lb Y O ac2 O O O O λuz=>?_;refine bL 0 (.cells (eB.cells ⟨(t.g.code.length:Int),kind,m⟩).toArray 112 (0,0)) O (O) ?_;refine LA ((⟨(t.g.code.length:Int),kind,m⟩:eB)) 4 0 Y O ac2 O O O O O O (by omega) (by omega) λyG yH=>?_;refine V0 (bD O) (V0 (Yf mU O) (V0 (Yf AX O) (an 2 Y O O O asW O O O (ab (Cs (fg 2 (tt 157 K (⟨⟨t.g.code,t.g.fix++[(⟨(t.g.code.length:Int),kind,m⟩:eB)]⟩,t.ca,(yG,yH)⟩:a8)) O O ?_))))));refine xg (W':=Ws w (List.flatMap ao.ids (aV 157 108 112 sb K t)) ((aV 157 108 112 sb K (⟨⟨t.g.code,t.g.fix++[(⟨(t.g.code.length:Int),kind,m⟩:eB)]⟩,t.ca,(yG,yH)⟩:a8))++[ah b5 (.cells i.cells.toArray 108 (0,0))]) []) (λ_ h=>by exact (Wt 4 ((((h.f 1 O).f 4 O).f 4 O).f 4 O):)) ?_;refine Cr (aa O (V0 (bk 3 O O HA O) ?_));refine Lb Y O iL O O O O λmg=>?_;refine WL.kq (rd:=fK) (f:=aU.cells) (k:=3) (m:=1) 0 [i] O O aU.bq (λ_ _ _ _ h=>h) (by simp) (by decide) λH33 asZ=>?_;refine Lw (ι:=SP) [_,_,_] _ Y O lf O O (λ_=>.tuple #[]) (λq=>(aV 157 108 112 sb K ⟨aM [i] (⟨⟨t.g.code,t.g.fix++[(⟨(t.g.code.length:Int),kind,m⟩:eB)]⟩,t.ca,(yG,yH)⟩:a8).g,q,(⟨⟨t.g.code,t.g.fix++[(⟨(t.g.code.length:Int),kind,m⟩:eB)]⟩,t.ca,(yG,yH)⟩:a8).fa⟩)) (λ_=>True) [H33] (by simp) (λw hw=>(lg sb K (⟨⟨t.g.code,t.g.fix++[(⟨(t.g.code.length:Int),kind,m⟩:eB)]⟩,t.ca,(yG,yH)⟩:a8) H33 (some ⟨mg,0,none⟩) 1 [i] w asZ (by simp; omega) hw).mono λe w' ⟨q,h1,h2⟩=>⟨q,h1,trivial,h2⟩) ?_;intro Af _;refine ab (ad (aa O (ae O (ab (aA ?_)))));refine R1 O O λw' hw=>?_;exact ⟨(Af,(yG,yH)),O,Wv 1 (Wt 3 hw)⟩
theorem AY (sb:Nat) (K:gV) (t:a8) (op:Int) (w:World) (hb:t.g.code.length+1<=1000000000000) (wR:t.g.fix.length+1<=1000000000000) (hw:Ws w (List.flatMap ao.ids (aV 157 108 112 sb K t)) (aV 157 108 112 sb K t) [] w) :
   Calls Tryz.prog 227 #[.pointer (some ⟨sb,0,none⟩),.int .i64 op] w λe w'=>∃q:(SP×SP)×Nat×Nat,e = .returned (.func (.func 254) #[] #[.pointer (some ⟨q.2.1,0,none⟩),.pointer (some ⟨q.2.2,0,none⟩)])/\Ws w (List.flatMap ao.ids (aV 157 108 112 sb K t)) ((aV 157 108 112 sb K ⟨aq ⟨op,0,0⟩ 1 0 t.g,q.1.1,q.1.2⟩)++[ah q.2.1 (.cells #[.pointer (some ⟨sb,0,none⟩)] 155 (0,0)),ah q.2.2 (.cells #[.int .i64 (t.g.code.length:Int)] 3 (0,0))]) [] w':=by
 refine enter Tryz.func227 O 11 O O ?_;refine CE hw (ad ?_);refine WL.box Y O O λb2=>?_;refine ae O (ab (ad (V0 (Yd 0 O O O Te) (aa O (V0 (Yb gA g_ O O) (Lf 3 O (Lf 3 O (Lf 3 O ?_))))))));refine Lw (ι:=SP×SP) [_,_,_] _ Y O DL O O (λ_=>.int .i64 (t.g.code.length:Int)) (λq=>(aV 157 108 112 sb K ⟨aq ⟨op,0,0⟩ 1 0 t.g,q.1,q.2⟩)) (λ_=>True) [] (by simp) (λw hw=>(DM sb K t  ⟨op,0,0⟩ 1 0 w  hb wR hw).mono λe w' ⟨q,h1,h2⟩=>⟨q,h1,trivial,h2⟩) ?_;intro q9 _;refine Al Y O me λb5=>?_;refine an 0 Y O O O di O O O (ab (ad (V0 (zb O) (ae O (ab (aA ?_))))));refine R1 O O λw' hw=>?_;exact ⟨(q9,b2,b5),O,(by have h:=hw; have h:=h.aX 4 O; have h:=h.aX 4 O; have h:=h.aX 4 O; have h:=h.aX 4 O; exact h)⟩
theorem yI (sb:Nat) (K:gV) (t:a8) (p q_ n:Nat) (x:aU) (w:World) (hx:t.g.code[n]? = some x) (hw:Ws w (List.flatMap ao.ids ((aV 157 108 112 sb K t)++[ah p (.cells #[.pointer (some ⟨sb,0,none⟩)] 155 (0,0)),ah q_ (.cells #[.int .i64 (n:Int)] 3 (0,0))])) ((aV 157 108 112 sb K t)++[ah p (.cells #[.pointer (some ⟨sb,0,none⟩)] 155 (0,0)),ah q_ (.cells #[.int .i64 (n:Int)] 3 (0,0))]) [] w) :
   Calls Tryz.prog 254 #[.pointer (some ⟨p,0,none⟩),.pointer (some ⟨q_,0,none⟩)] w λe w'=>e = .returned (.tuple #[])/\Ws w (List.flatMap ao.ids ((aV 157 108 112 sb K t)++[ah p (.cells #[.pointer (some ⟨sb,0,none⟩)] 155 (0,0)),ah q_ (.cells #[.int .i64 (n:Int)] 3 (0,0))])) ((aV 157 108 112 sb K ⟨ct n t.g,t.ca,t.fa⟩)++[ah p (.cells #[.pointer (some ⟨sb,0,none⟩)] 155 (0,0)),ah q_ (.cells #[.int .i64 (n:Int)] 3 (0,0))]) [] w':=by
 have av:=(List.getElem?_eq_some_iff.1 hx).1;refine enter Tryz.func254 O 16 O O ?_;refine CE hw ?_;refine WC.BJ 1 O (by omega) λcb nR sJ xl=>?_;refine WC.mr 1 [(0,true),(1,true),(2,true),(3,true),(4,true),(5,true),(6,true),(7,true),(8,true),(9,true),(10,true),(11,true),(12,true),(13,true),(14,false)] mixed (by kernel_rfl) (λ_ _ _ d _ h=>by cases d<;>exact h) ?_;refine D0 O (Wp 1) (Yd 2 O O O Te) (D0 O (Wp 1) (bD O) (D0 O (Wp 1) (Yf mU O) (D0 O (Wp 1) (Yf mV O) (D0 O (Wp 1) (Yd 0 O O O kb) (D0 O (Wp 1) (Yd 3 O O O ar) (D0 O (Wp 1) (Yd 2 O O O Te) (D0 O (Wp 1) (bD O) ?_)))))));refine D0 O (Wp 1) (Yf mU O) (D0 O (Wp 1) (Yf mV O) (D0 O (Wp 1) (Yd 0 O O O kb) (D0 O (Wp 1) (Yn kf O) (D0 O (Wp 1) (Yo kf O O nR av) (D0 O (Wp 1) (Yf HC O) ?_)))));refine De O (Wp 1) ?_;refine WL.storeT (y:=x) 1 n 1 (⟨x.op,(t.g.code.length:Int),x.b⟩:aU) Y O O O nR O aU.bq hx di O O (by decide) O ?_;refine Ln (Ed ?_);refine WD.nil (Wp 1) ?_;refine E0 O λw' hw=>?_;rw [aid hx];exact ⟨O,hw.EJ 0 O (show ah sb (tt 157 K t)=ah sb (tt 157 K ⟨{ t.g with code:=t.g.code.set n ⟨x.op,(t.g.code.length:Int),x.b⟩ },t.ca,t.fa⟩) by simp [tt])⟩
def HD (H:View) (sb:Nat) (K:gV) (k:Nat):Prop:=∀(x:cH) (a:Option Addr) (c:Nat) (t:a8) (w:World),Sl (kx k) 5 H a c x.args->Cf x->t.g.code.length+8*dm x<=1000000000000->t.g.fix.length+8*dm x<=1000000000000->
 Ws w (List.flatMap ao.ids (aV 157 108 112 sb K t)) (aV 157 108 112 sb K t) [H] w->Calls Tryz.prog 223 #[.pointer (some ⟨sb,0,none⟩),.agg (rK x a c).toArray] w λe w'=>∃q:SP×SP,e = .returned (.tuple #[])/\Ws w (List.flatMap ao.ids (aV 157 108 112 sb K t)) (aV 157 108 112 sb K ⟨aj x t.g,q.1,q.2⟩) [H] w'
theorem AZ {l:List cH} {i:Nat} {x:cH} (h:l[i]? = some x):dm x<=fw l:=by
 have:=Cd h; omega
theorem Tf {l:List cH} {x y:cH} (h:l[0]? = some x) (h2:l[1]? = some y):dm x+dm y<=fw l:=by
 have h3:fw (l.take 1)=fw (l.take 0)+dm x:=(Cd h).1;have h4:fw (l.take 2)=fw (l.take 1)+dm y:=(Cd h2).1;have h5:fw (l.take 2)<=fw l:=(Cd h2).2;omega
theorem qN:Enters Tryz.prog 223:=enters_of Tryz.func223 (by kernel_rfl) rfl
theorem ac4:Enters Tryz.prog 253:=enters_of Tryz.func253 (by kernel_rfl) rfl
theorem ac5 (sb:Nat) (K:gV) (t:a8) (H:View) (k:Nat) (l:List cH) (a:Option Addr) (c:Nat) (w:World) (hN:∀k2,k2<k->HD H sb K k2) (hl:Sl (kx k) 5 H a c l) (aJ:Cg l) (hb:t.g.code.length+8*fw l<=1000000000000) (wR:t.g.fix.length+8*fw l<=1000000000000) (hw:Ws w (List.flatMap ao.ids (aV 157 108 112 sb K t)) (aV 157 108 112 sb K t) [H] w) :
   Calls Tryz.prog 253 #[.pointer (some ⟨sb,0,none⟩),.slice a l.length c] w λe w'=>∃q:SP×SP,e = .returned (.tuple #[])/\Ws w (List.flatMap ao.ids (aV 157 108 112 sb K t)) (aV 157 108 112 sb K ⟨eC l t.g,q.1,q.2⟩) [H] w':=by
 have dR:=hl.cap;have eQ:=hl.max;refine enter Tryz.func253 O 16 O O ?_;refine CE hw (ad (aa O (V0 (Yn fR O) (aa O (ab (Cb ?_))))));refine cq (ι:=Nat×SP×SP) (λg=>[(8,.int .i64 (g.1:Int))]) [(0,_),(6,_),(7,_)] (λg=>Ws w (List.flatMap ao.ids (aV 157 108 112 sb K t)) (aV 157 108 112 sb K ⟨eC (l.take g.1) t.g,g.2.1,g.2.2⟩) [H]) (λg=>g.1<=l.length) (λg=>l.length-g.1) (0,t.ca,t.fa) (Nat.zero_le _) (sc O (sc O (sc O (sc O sn)))) (λ_ h=>h) ?_;intro g oP;refine ad (V0 (bj O O) (ab (Cs ?_)));refine Cc O (λai=>?_) (λai=>?_)
 ·have av:g.1<l.length:=by simpa using ai
  obtain ⟨x,bn⟩:∃q,l[g.1]? = some q:=⟨_,List.getElem?_eq_getElem av⟩;obtain ⟨dW,dX,dZ,cg⟩:=hl.aS g.1 x bn
  obtain ⟨k2,rfl⟩:∃k2,k=k2+1:=by
    cases k with
    | zero=>exact cg.elim
    | succ k2=>exact ⟨k2,rfl⟩
  obtain ⟨xa,xc,cw,hP⟩:=cg;have hww:=Cd bn;have da:=JC (l.take g.1) t.g;have lM:=da.hi;have lN:=da.gu;refine aE (Cs (Cb (ad (V0 (Yo fR O O dZ av) (V0 (cJ 0 la O O O (cw)) ?_)))));refine Al Y O Hj λb5=>?_;refine an 0 Y O O O L3 O O O (ab (fg 0 (.cells (rK x xa xc).toArray 269 (0,0)) O O (Cr (aa O (V0 (bk 0 O O la O) (Lf 3 O (Lf 3 O ?_)))))));refine Lf 3 O ?_;refine Lw (ι:=SP×SP) [_,_,_] _ Y O qN O O (λ_=>.tuple #[]) (λq=>(aV 157 108 112 sb K ⟨aj x (⟨eC (l.take g.1) t.g,g.2.1,g.2.2⟩:a8).g,q.1,q.2⟩)) (λ_=>True) [H] (by simp) (λw hw=>(hN k2 (by omega) x xa xc (⟨eC (l.take g.1) t.g,g.2.1,g.2.2⟩:a8) w hP (aJ.at_ bn) (by show (eC (l.take g.1) t.g).code.length+(8*dm x)<=_; omega) (by show (eC (l.take g.1) t.g).fix.length+(8*dm x)<=_; omega) hw).mono λe w' ⟨q,h1,h2⟩=>⟨q,h1,trivial,h2⟩) ?_;intro lE _;refine Ln (Eb (Et (Cr (V0 (Yi O O O (by omega)) (aa O (Ln ?_))))));rw [<-ah8 bn];exact Ea ((g.1+1,lE):Nat×SP×SP) (by show _-(g.1+1)<_; omega) (by show g.1+1<=_; omega) (sc O (sc O (sc O (sc O sn)))) (λ_ h=>(Wt 3 h:))
 have bP:g.1=l.length:=by simp at ai; omega
 rw [bP,List.take_length];refine Ce (Ex (Ex (bA ?_)));refine E0 O λw' hw=>?_;exact ⟨g.2,O,hw⟩
theorem ac7 (sb:Nat) (K:gV) (t:a8) (H:View) (k:Nat) (m pl:Int) (l:List cH) (a:Option Addr) (c:Nat) (w:World) (hN:∀k2,k2<k->HD H sb K k2) (hl:Sl (kx k) 5 H a c l) (aJ:Cg l) (hb:t.g.code.length+8*(1+fw l)<=1000000000000) (wR:t.g.fix.length+8*(1+fw l)<=1000000000000) (hw:Ws w (List.flatMap ao.ids (aV 157 108 112 sb K t)) (aV 157 108 112 sb K t) [H] w) :
   Calls Tryz.prog 226 #[.pointer (some ⟨sb,0,none⟩),.int .i64 m,.int .i64 pl,.slice a l.length c] w λe w'=>∃q:SP×SP,e = .returned (.tuple #[])/\Ws w (List.flatMap ao.ids (aV 157 108 112 sb K t)) (aV 157 108 112 sb K ⟨aq ⟨13,pl,0⟩ 2 m (eC l t.g),q.1,q.2⟩) [H] w':=by
 have da:=JC l t.g;have lM:=da.hi;have lN:=da.gu;refine enter Tryz.func226 O 16 O O ?_;refine CE hw (ad (aa O (aa O ?_)));refine Lw (ι:=SP×SP) [_,_,_] _ Y O ac4 O O (λ_=>.tuple #[]) (λq=>(aV 157 108 112 sb K ⟨eC l t.g,q.1,q.2⟩)) (λ_=>True) [H] (by simp) (λw hw=>(ac5 sb K t H k l a c w hN hl aJ (by omega) (by omega) hw).mono λe w' ⟨q,h1,h2⟩=>⟨q,h1,trivial,h2⟩) ?_;intro q10 _;refine ab (Cr (aa O (aa O (V0 (Yb gA g_ O O) (aa O ?_)))));refine Lw (ι:=SP×SP) [_,_,_] _ Y O DL O O (λ_=>.int .i64 ((eC l t.g).code.length:Int)) (λq=>(aV 157 108 112 sb K ⟨aq ⟨13,pl,0⟩ 2 m (eC l t.g),q.1,q.2⟩)) (λ_=>True) [] (by simp) (λw hw=>(DM sb K (⟨eC l t.g,q10.1,q10.2⟩:a8)  ⟨13,pl,0⟩ 2 m w  (by show (eC l t.g).code.length+1<=_; omega) (by show (eC l t.g).fix.length+1<=_; omega) hw).mono λe w' ⟨q,h1,h2⟩=>⟨q,h1,trivial,h2⟩) ?_;intro Aw _;refine Ln ?_;refine E0 O λw' hw=>?_;exact ⟨Aw,O,hw⟩
theorem ac9 (sb:Nat) (K:gV) (t:a8) (H:View) (k:Nat) (m pl n:Int) (x:cH) (a:Option Addr) (c:Nat) (w:World) (hN:HD H sb K k) (hl:Sl (kx k) 5 H a c x.args) (aJ:Cf x) (hb:t.g.code.length+(8*dm x+1)<=1000000000000) (wR:t.g.fix.length+(8*dm x+1)<=1000000000000) (hw:Ws w (List.flatMap ao.ids (aV 157 108 112 sb K t)) (aV 157 108 112 sb K t) [H] w) :
   Calls Tryz.prog 225 #[.pointer (some ⟨sb,0,none⟩),.int .i64 m,.int .i64 pl,.int .i64 n,.agg (rK x a c).toArray] w λe w'=>∃q:SP×SP,e = .returned (.tuple #[])/\Ws w (List.flatMap ao.ids (aV 157 108 112 sb K t)) (aV 157 108 112 sb K ⟨aq ⟨6,pl,n⟩ 3 m (aj x t.g),q.1,q.2⟩) [H] w':=by
 have da:=mE x t.g;have lM:=da.hi;have lN:=da.gu;refine enter Tryz.func225 O 19 O O ?_;refine CE hw (ad ?_);refine WL.box Y O O λb9=>?_;refine ab (ad (aa O (V0 (bk 0 O O la O) (Lf 3 O (Lf 3 O (Lf 3 O ?_))))));refine Lw (ι:=SP×SP) [_,_,_] _ Y O qN O O (λ_=>.tuple #[]) (λq=>(aV 157 108 112 sb K ⟨aj x t.g,q.1,q.2⟩)) (λ_=>True) [H] (by simp) (λw hw=>(hN x a c t w hl aJ (by show (t.g).code.length+(8*dm x)<=_; omega) (by show (t.g).fix.length+(8*dm x)<=_; omega) hw).mono λe w' ⟨q,h1,h2⟩=>⟨q,h1,trivial,h2⟩) ?_;intro eF _;refine ab (Cr (aa O (aa O (aa O (V0 (Yb gA g_ O O) (aa O ?_))))));refine Lw (ι:=SP×SP) [_,_,_] _ Y O DL O O (λ_=>.int .i64 ((aj x t.g).code.length:Int)) (λq=>(aV 157 108 112 sb K ⟨aq ⟨6,pl,n⟩ 3 m (aj x t.g),q.1,q.2⟩)) (λ_=>True) [] (by simp) (λw hw=>(DM sb K (⟨aj x t.g,eF.1,eF.2⟩:a8)  ⟨6,pl,n⟩ 3 m w  (by show (aj x t.g).code.length+1<=_; omega) (by show (aj x t.g).fix.length+1<=_; omega) hw).mono λe w' ⟨q,h1,h2⟩=>⟨q,h1,trivial,h2⟩) ?_;intro Ao _;refine Ln ?_;refine E0 O λw' hw=>?_;exact ⟨Ao,O,Wt 3 hw⟩
theorem ac':Enters Tryz.prog 225:=enters_of Tryz.func225 (by kernel_rfl) rfl
theorem ac_:Enters Tryz.prog 226:=enters_of Tryz.func226 (by kernel_rfl) rfl
theorem A0:Enters Tryz.prog 227:=enters_of Tryz.func227 (by kernel_rfl) rfl
theorem yJ:Enters Tryz.prog 254:=enters_of Tryz.func254 (by kernel_rfl) rfl
theorem as0 (sb:Nat) (K:gV) (t:a8) (H:View) (k:Nat) (x:cH) (a:Option Addr) (c:Nat) (w:World) (hl:Sl (kx k) 5 H a c x.args) (aJ:Cf x) (hb:t.g.code.length+8*dm x<=1000000000000) (wR:t.g.fix.length+8*dm x<=1000000000000) (hw:Ws w (List.flatMap ao.ids (aV 157 108 112 sb K t)) (aV 157 108 112 sb K t) [H] w) :
   Calls Tryz.prog 223 #[.pointer (some ⟨sb,0,none⟩),.agg (rK x a c).toArray] w λe w'=>∃q:SP×SP,e = .returned (.tuple #[])/\Ws w (List.flatMap ao.ids (aV 157 108 112 sb K t)) (aV 157 108 112 sb K ⟨aj x t.g,q.1,q.2⟩) [H] w':=by
 induction k using Nat.strongRecOn generalizing x a c t w
 rename_i k ih;have hN:∀k2,k2<k->HD H sb K k2:=λk2 h x a c t w h1 h2 h3 h4 h5=>ih k2 h t x a c w h1 h2 h3 h4 h5;have dR:=hl.cap;have eQ:=hl.max;have hwe:=aia x;refine enter Tryz.func223 O 143 O O ?_;refine CE hw (ad ?_);refine WL.box Y O O λb3=>?_;refine ab (ad (V0 (Yf qK O) (V0 (Yd 0 O O O ar) (ab (Cb (ad (V0 (aW O O) (ae O (ab ?_)))))))));refine Cc O (λai=>?_) (λai=>?_)
 ·have ho:x.op=1:=by simpa using ai
  refine Cr (aa O (V0 (Yf mQ O) (V0 (Yd 0 O O O ar) (V0 (Yb gA g_ O O) ?_))));refine Lb Y O iL O O O O λb32=>?_;refine WL.kq (rd:=fK) (f:=aU.cells) (k:=3) (m:=1) 0 [⟨1,x.n,0⟩] O O aU.bq (λ_ _ _ _ h=>h) (by simp) (by decide) λH32 as1=>?_;refine Lf 3 O (Lf 3 O (Lf 3 O ?_));refine Lw (ι:=SP) [_,_,_] _ Y O lf O O (λ_=>.tuple #[]) (λq=>(aV 157 108 112 sb K ⟨aM [⟨1,x.n,0⟩] t.g,q,t.fa⟩)) (λ_=>True) [H32] (by simp) (λw hw=>(lg sb K t H32 (some ⟨b32,0,none⟩) 1 [⟨1,x.n,0⟩] w as1 (by show (t.g).code.length+[⟨1,x.n,0⟩].length<=_; (try simp only [bO]); omega) hw).mono λe w' ⟨q,h1,h2⟩=>⟨q,h1,trivial,h2⟩) ?_;intro kK _;refine Ln (Eb ?_);refine E0 O λw' hw=>?_
  have hr:aj x t.g=aM [⟨1,x.n,0⟩] t.g:=by
    rw [tr,o7,if_pos ho]
  rw [hr];exact ⟨(kK,t.fa),O,Wv 1 (Wt 3 hw)⟩
 have iK:¬x.op=1:=by simpa using ai
 refine ad (V0 (aW O O) (ae O (ab ?_)));refine Cc O (λaw=>?_) (λaw=>?_)
 ·have ho:x.op=2:=by simpa using aw
  refine Cr (aa O (V0 (Yb gA g_ O O) ?_));refine Lb Y O iL O O O O λwb=>?_;refine WL.kq (rd:=fK) (f:=aU.cells) (k:=3) (m:=1) 0 [⟨18,0,0⟩] O O aU.bq (λ_ _ _ _ h=>h) (by simp) (by decide) λGR Ru=>?_;refine Lf 3 O (Lf 3 O (Lf 3 O ?_));refine Lw (ι:=SP) [_,_,_] _ Y O lf O O (λ_=>.tuple #[]) (λq=>(aV 157 108 112 sb K ⟨aM [⟨18,0,0⟩] t.g,q,t.fa⟩)) (λ_=>True) [GR] (by simp) (λw hw=>(lg sb K t GR (some ⟨wb,0,none⟩) 1 [⟨18,0,0⟩] w Ru (by show (t.g).code.length+[⟨18,0,0⟩].length<=_; (try simp only [bO]); omega) hw).mono λe w' ⟨q,h1,h2⟩=>⟨q,h1,trivial,h2⟩) ?_;intro oH _;refine Ln (Eb ?_);refine E0 O λw' hw=>?_
  have hr:aj x t.g=aM [⟨18,0,0⟩] t.g:=by
    rw [tr,o7,if_neg iK,if_pos ho]
  rw [hr];exact ⟨(oH,t.fa),O,Wv 1 (Wt 3 hw)⟩
 have dJ:¬x.op=2:=by simpa using aw
 refine ad (V0 (aW O O) (ae O (ab ?_)));refine Cc O (λaO=>?_) (λaO=>?_)
 ·have ho:x.op=16:=by simpa using aO
  refine Cr (aa O (V0 (Yf lK O) (V0 (Yd 0 O O O ar) (V0 (Yb gA g_ O O) ?_))));refine Lb Y O iL O O O O λDN=>?_;refine WL.kq (rd:=fK) (f:=aU.cells) (k:=3) (m:=1) 0 [⟨2,x.pl,0⟩] O O aU.bq (λ_ _ _ _ h=>h) (by simp) (by decide) λH46 as2=>?_;refine Lf 3 O (Lf 3 O (Lf 3 O ?_));refine Lw (ι:=SP) [_,_,_] _ Y O lf O O (λ_=>.tuple #[]) (λq=>(aV 157 108 112 sb K ⟨aM [⟨2,x.pl,0⟩] t.g,q,t.fa⟩)) (λ_=>True) [H46] (by simp) (λw hw=>(lg sb K t H46 (some ⟨DN,0,none⟩) 1 [⟨2,x.pl,0⟩] w as2 (by show (t.g).code.length+[⟨2,x.pl,0⟩].length<=_; (try simp only [bO]); omega) hw).mono λe w' ⟨q,h1,h2⟩=>⟨q,h1,trivial,h2⟩) ?_;intro iV _;refine Ln (Eb ?_);refine E0 O λw' hw=>?_
  have hr:aj x t.g=aM [⟨2,x.pl,0⟩] t.g:=by
    rw [tr,o7,if_neg iK,if_neg dJ,if_pos ho]
  rw [hr];exact ⟨(iV,t.fa),O,Wv 1 (Wt 3 hw)⟩
 have eI:¬x.op=16:=by simpa using aO
 refine ad (V0 (aW O O) (ae O (ab ?_)));refine Cc O (λbd=>?_) (λbd=>?_)
 ·have ho:x.op=3:=by simpa using bd
  refine Cr (aa O (V0 (Yf lK O) (V0 (Yd 0 O O O ar) (V0 (Yb gA g_ O O) (V0 (Yf mR O) (V0 (Yd 0 O O O ar) (Lf 3 O ?_)))))));refine Lf 3 O (Lf 3 O ?_);refine Lw (ι:=SP×SP) [_,_,_] _ Y O DL O O (λ_=>.int .i64 (t.g.code.length:Int)) (λq=>(aV 157 108 112 sb K ⟨aq ⟨4,x.pl,0⟩ 3 x.m t.g,q.1,q.2⟩)) (λ_=>True) [] (by simp) (λw hw=>(DM sb K t  ⟨4,x.pl,0⟩ 3 x.m w  (by omega) (by omega) hw).mono λe w' ⟨q,h1,h2⟩=>⟨q,h1,trivial,h2⟩) ?_;intro q56 _;refine Ln (Eb ?_);refine E0 O λw' hw=>?_
  have hr:aj x t.g=aq ⟨4,x.pl,0⟩ 3 x.m t.g:=by
    rw [tr,o7,if_neg iK,if_neg dJ,if_neg eI,if_pos ho]
  rw [hr];exact ⟨(q56.1,q56.2),O,Wt 3 hw⟩
 have jv:¬x.op=3:=by simpa using bd
 refine ad (V0 (aW O O) (ae O (ab ?_)));refine Cc O (λbC=>?_) (λbC=>?_)
 ·have ho:x.op=4:=by simpa using bC
  refine Cs ?_;have zU:=aJ.args.2.1 (by omega);obtain ⟨y,bK⟩:∃y,x.args[0]? = some y:=⟨_,List.getElem?_eq_getElem (by omega)⟩;obtain ⟨jK,jL,eX,cV⟩:=hl.aS 0 y bK
  obtain ⟨k2,rfl⟩:∃k2,k=k2+1:=by
    cases k with
    | zero=>exact cV.elim
    | succ k2=>exact ⟨k2,rfl⟩
  obtain ⟨ya,yc,lh,mh⟩:=cV;have kL:=hN k2 (by omega);have ml:=aJ.args.1.at_ bK;have da:=mE y t.g;have lM:=da.hi;have lN:=da.gu;have yK:=da.lo;have DO:=AZ bK;refine CU (λ_=>true) [1,1,1] [] (.q false 0 (.q false 1 (.q true 2 (.q false 3 (.q true 4 (.q false 5 (.q true 6 (.q false 7 (.q true 8 (.q false 9 (.q true 10 (.e 11 .nil .stop)))))))))))) mixed (by kernel_rfl) (λ_ _ _ d _ _ h=>by cases d<;>exact h) ?_;refine U0 O (bR [1,1,1]) (Ym O) (U0 O (bR [1,1,1]) (Yf mR O) (U0 O (bR [1,1,1]) (Yd 0 O O O ar) (U0 O (bR [1,1,1]) (Yf lK O) (U0 O (bR [1,1,1]) (Yd 0 O O O ar) (U0 O (bR [1,1,1]) (Yf mQ O) (U0 O (bR [1,1,1]) (Yd 0 O O O ar) (U0 O (bR [1,1,1]) (Yf qL O) ?_)))))));refine U0 O (bR [1,1,1]) (Yd 0 O O O jy) (U0 O (bR [1,1,1]) (Yo (i:=0) fR O O eX (by omega)) (U0 O (bR [1,1,1]) (cJ 0 la O O O (lh)) ?_));refine Ue O (bR [1,1,1]) ?_ WU.stop;refine Lf 3 O (Lf 3 O (Lf 3 O ?_));refine Lw (ι:=SP×SP) [_,_,_] _ Y O ac' O O (λ_=>.tuple #[]) (λq=>(aV 157 108 112 sb K ⟨aq ⟨6,x.pl,x.n⟩ 3 x.m (aj y t.g),q.1,q.2⟩)) (λ_=>True) [H] (by simp) (λw hw=>(ac9 sb K t H k2 x.m x.pl x.n y ya yc w kL mh ml (by omega) (by omega) hw).mono λe w' ⟨q,h1,h2⟩=>⟨q,h1,trivial,h2⟩) ?_;intro A1 _;refine Ln (Eu ?_);refine WU.nil (λ_ h=>(Wo 1 (Wo 1 (Wo 1 (h.f 3 O))):)) ?_;refine WS.nil ?_;refine Et (Cr (aa O (V0 (Yb gA g_ O O) ?_)));refine Lb Y O iL O O O O λb73=>?_;refine WL.kq (rd:=fK) (f:=aU.cells) (k:=3) (m:=1) 0 [⟨7,0,0⟩] O O aU.bq (λ_ _ _ _ h=>h) (by simp) (by decide) λH73 as4=>?_;refine Lw (ι:=SP) [_,_,_] _ Y O lf O O (λ_=>.tuple #[]) (λq=>(aV 157 108 112 sb K ⟨aM [⟨7,0,0⟩] (⟨(aq ⟨6,x.pl,x.n⟩ 3 x.m (aj y t.g)),A1.1,A1.2⟩:a8).g,q,(⟨(aq ⟨6,x.pl,x.n⟩ 3 x.m (aj y t.g)),A1.1,A1.2⟩:a8).fa⟩)) (λ_=>True) [H73] (by simp) (λw hw=>(lg sb K (⟨(aq ⟨6,x.pl,x.n⟩ 3 x.m (aj y t.g)),A1.1,A1.2⟩:a8) H73 (some ⟨b73,0,none⟩) 1 [⟨7,0,0⟩] w as4 (by show ((aq ⟨6,x.pl,x.n⟩ 3 x.m (aj y t.g))).code.length+[⟨7,0,0⟩].length<=_; (try simp only [bO]); omega) hw).mono λe w' ⟨q,h1,h2⟩=>⟨q,h1,trivial,h2⟩) ?_;intro An _;refine Ln (Eb ?_);refine E0 O λw' hw=>?_
  have hr:aj x t.g=aM [⟨7,0,0⟩] (aq ⟨6,x.pl,x.n⟩ 3 x.m (aj y t.g)):=by
    rw [tr,o7,if_neg iK,if_neg dJ,if_neg eI,if_neg jv,if_pos ho];rw [oo bK]
  rw [hr];exact ⟨(An,A1.2),O,Wv 1 (Wt 3 hw)⟩
 have mf:¬x.op=4:=by simpa using bC
 refine ad (V0 (aW O O) (ae O (ab ?_)));refine Cc O (λcU=>?_) (λcU=>?_)
 ·have ho:x.op=5:=by simpa using cU
  refine Cr (aa O (V0 (Yf mR O) (V0 (Yd 0 O O O ar) (V0 (Yf lK O) (V0 (Yd 0 O O O ar) (V0 (Yf qL O) (V0 (Yd 0 O O O jy) ?_)))))));refine Lf 3 O (Lf 3 O (Lf 3 O ?_));refine Lw (ι:=SP×SP) [_,_,_] _ Y O ac_ O O (λ_=>.tuple #[]) (λq=>(aV 157 108 112 sb K ⟨aq ⟨13,x.pl,0⟩ 2 x.m (eC x.args t.g),q.1,q.2⟩)) (λ_=>True) [H] (by simp) (λw hw=>(ac7 sb K t H k x.m x.pl x.args a c w hN hl aJ.args.1 (by omega) (by omega) hw).mono λe w' ⟨q,h1,h2⟩=>⟨q,h1,trivial,h2⟩) ?_;intro q84 _;refine Ln (Eb ?_);refine E0 O λw' hw=>?_
  have hr:aj x t.g=aq ⟨13,x.pl,0⟩ 2 x.m (eC x.args t.g):=by
    rw [tr,o7,if_neg iK,if_neg dJ,if_neg eI,if_neg jv,if_neg mf,if_pos ho];rw [Fe]
  rw [hr];exact ⟨(q84.1,q84.2),O,Wt 3 hw⟩
 have qM:¬x.op=5:=by simpa using cU
 refine Cs (ad (V0 (aW O O) (ae O (ab ?_))));refine Cc O (λdb=>?_) (λdb=>?_)
 ·have ho:x.op=7:=by simpa using db
  refine aE ?_;refine Cc O (λej=>?_) (λej=>?_)
  ·refine Cs ?_;have hl2:=aJ.args.2.2.1 (by omega);obtain ⟨y,bK⟩:∃y,x.args[0]? = some y:=⟨_,List.getElem?_eq_getElem (by omega)⟩;obtain ⟨jK,jL,eX,cV⟩:=hl.aS 0 y bK;obtain ⟨z,lC⟩:∃y,x.args[1]? = some y:=⟨_,List.getElem?_eq_getElem (by omega)⟩;obtain ⟨Kd,Ke,vR,x6⟩:=hl.aS 1 z lC
   obtain ⟨k2,rfl⟩:∃k2,k=k2+1:=by
     cases k with
     | zero=>exact cV.elim
     | succ k2=>exact ⟨k2,rfl⟩
   obtain ⟨ya,yc,lh,mh⟩:=cV;have kL:=hN k2 (by omega);have ml:=aJ.args.1.at_ bK;have da:=mE y t.g;have lM:=da.hi;have lN:=da.gu;have yK:=da.lo;obtain ⟨za,zc,A2,HG⟩:=x6;have HH:=aJ.args.1.at_ lC;have hw2:=Tf bK lC;have sK:=mE z (aq ⟨12,0,0⟩ 1 0 (aj y t.g));have oX:=sK.hi;have rI:=sK.gu;have HI:=sK.lo;have A3:=mE z (ct ((aj y t.g).code.length) (aq ⟨11,0,0⟩ 1 0 (aM [⟨1,1,0⟩] (aq ⟨12,0,0⟩ 1 0 (aj y t.g)))));have Tg:=A3.hi;have Th:=A3.gu;have Ti:=A3.lo;simp only [bO] at oX rI HI Tg Th Ti;refine Cr (aa O (V0 (Yf qL O) (V0 (Yd 0 O O O jy) (V0 (Yo (i:=0) fR O O eX (by omega)) (V0 (cJ 0 la O O O (lh)) (Lf 3 O (Lf 3 O ?_)))))));refine Lf 3 O ?_;refine Lw (ι:=SP×SP) [_,_,_] _ Y O qN O O (λ_=>.tuple #[]) (λq=>(aV 157 108 112 sb K ⟨aj y t.g,q.1,q.2⟩)) (λ_=>True) [H] (by simp) (λw hw=>(kL y ya yc t w mh ml (by show (t.g).code.length+8*dm y<=_; (try simp only [bO]); omega) (by show (t.g).fix.length+8*dm y<=_; (try simp only [bO]); omega) hw).mono λe w' ⟨q,h1,h2⟩=>⟨q,h1,trivial,h2⟩) ?_;intro HJ _;refine ab (ad (aa O ?_));refine Lw (ι:=(SP×SP)×Nat×Nat) [_,_,_] _ Y O A0 O O (λq=>.func (.func 254) #[] #[.pointer (some ⟨q.2.1,0,none⟩),.pointer (some ⟨q.2.2,0,none⟩)]) (λq=>(aV 157 108 112 sb K ⟨aq ⟨12,0,0⟩ 1 0 (aj y t.g),q.1.1,q.1.2⟩)++[ah q.2.1 (.cells #[.pointer (some ⟨sb,0,none⟩)] 155 (0,0)),ah q.2.2 (.cells #[.int .i64 ((aj y t.g).code.length:Int)] 3 (0,0))]) (λ_=>True) [] (by simp) (λw hw=>(AY sb K (⟨(aj y t.g),HJ.1,HJ.2⟩:a8) 12 w (by show ((aj y t.g)).code.length+1<=_; (try simp only [bO]); omega) (by show ((aj y t.g)).fix.length+1<=_; (try simp only [bO]); omega) hw).mono λe w' ⟨q,h1,h2⟩=>⟨q,h1,trivial,h2⟩) ?_;intro lO _;refine ae O (ab (Cs (ad (V0 (Yf qK O) (V0 (Yd 5 O O O ar) (V0 (aW O O) (ab ?_)))))));refine Cc O (λiY=>?_) (λiY=>?_)
   ·exact absurd iY (by rw [ho]; decide)
   refine aE (Cs (ad (V0 (Yf qK O) (V0 (Yd 5 O O O ar) (V0 (aW O O) (ab ?_))))));refine Cc O (λj_=>?_) (λj_=>?_)
   ·exact absurd j_ (by rw [ho]; decide)
   refine aE (ad (aa O (V0 (Yf qL O) (V0 (Yd 5 O O O jy) (V0 (Yo (i:=1) fR O O vR (by omega)) (V0 (cJ 0 la O O O (A2)) ?_))))));refine Lw (ι:=SP×SP) [_,_,_] _ Y O qN O O (λ_=>.tuple #[]) (λq=>(aV 157 108 112 sb K ⟨aj z (aq ⟨12,0,0⟩ 1 0 (aj y t.g)),q.1,q.2⟩)) (λ_=>True) [H] (by simp) (λw hw=>(kL z za zc (⟨(aq ⟨12,0,0⟩ 1 0 (aj y t.g)),lO.1.1,lO.1.2⟩:a8) w HG HH (by show ((aq ⟨12,0,0⟩ 1 0 (aj y t.g))).code.length+8*dm z<=_; (try simp only [bO]); omega) (by show ((aq ⟨12,0,0⟩ 1 0 (aj y t.g))).fix.length+8*dm z<=_; (try simp only [bO]); omega) hw).mono λe w' ⟨q,h1,h2⟩=>⟨q,h1,trivial,h2⟩) ?_;intro mW _;refine ab (ad (aa O (V0 (Yb gA g_ O O) ?_)));refine Lb Y O iL O O O O λas5=>?_;refine WL.kq (rd:=fK) (f:=aU.cells) (k:=3) (m:=1) 0 [⟨22,0,0⟩] O O aU.bq (λ_ _ _ _ h=>h) (by simp) (by decide) λadj as6=>?_;refine Lw (ι:=SP) [_,_,_] _ Y O lf O O (λ_=>.tuple #[]) (λq=>(aV 157 108 112 sb K ⟨aM [⟨22,0,0⟩] (⟨(aj z (aq ⟨12,0,0⟩ 1 0 (aj y t.g))),mW.1,mW.2⟩:a8).g,q,(⟨(aj z (aq ⟨12,0,0⟩ 1 0 (aj y t.g))),mW.1,mW.2⟩:a8).fa⟩)) (λ_=>True) [adj] (by simp) (λw hw=>(lg sb K (⟨(aj z (aq ⟨12,0,0⟩ 1 0 (aj y t.g))),mW.1,mW.2⟩:a8) adj (some ⟨as5,0,none⟩) 1 [⟨22,0,0⟩] w as6 (by show ((aj z (aq ⟨12,0,0⟩ 1 0 (aj y t.g)))).code.length+[⟨22,0,0⟩].length<=_; (try simp only [bO]); omega) hw).mono λe w' ⟨q,h1,h2⟩=>⟨q,h1,trivial,h2⟩) ?_;intro as7 _;refine ab (ad (aa O ?_));refine Lw (ι:=(SP×SP)×Nat×Nat) [_,_,_] _ Y O A0 O O (λq=>.func (.func 254) #[] #[.pointer (some ⟨q.2.1,0,none⟩),.pointer (some ⟨q.2.2,0,none⟩)]) (λq=>(aV 157 108 112 sb K ⟨aq ⟨11,0,0⟩ 1 0 (aM [⟨22,0,0⟩] (aj z (aq ⟨12,0,0⟩ 1 0 (aj y t.g)))),q.1.1,q.1.2⟩)++[ah q.2.1 (.cells #[.pointer (some ⟨sb,0,none⟩)] 155 (0,0)),ah q.2.2 (.cells #[.int .i64 ((aM [⟨22,0,0⟩] (aj z (aq ⟨12,0,0⟩ 1 0 (aj y t.g)))).code.length:Int)] 3 (0,0))]) (λ_=>True) [] (by simp) (λw hw=>(AY sb K (⟨(aM [⟨22,0,0⟩] (aj z (aq ⟨12,0,0⟩ 1 0 (aj y t.g)))),as7,mW.2⟩:a8) 11 w (by show ((aM [⟨22,0,0⟩] (aj z (aq ⟨12,0,0⟩ 1 0 (aj y t.g))))).code.length+1<=_; (try simp only [bO]); omega) (by show ((aM [⟨22,0,0⟩] (aj z (aq ⟨12,0,0⟩ 1 0 (aj y t.g))))).fix.length+1<=_; (try simp only [bO]); omega) hw).mono λe w' ⟨q,h1,h2⟩=>⟨q,h1,trivial,h2⟩) ?_;intro kM _;refine ae O (ab (ad (aa O (Lf 6 O (Lf 6 O (Lf 4 O (Lf 4 O (Lf 4 O ?_))))))));refine WL.xS (ι:=Unit) [_,_,_,_,_] _ Y O yJ O O O (λ_=>.tuple #[]) (λ_=>(aV 157 108 112 sb K ⟨ct ((aj y t.g).code.length) (aq ⟨11,0,0⟩ 1 0 (aM [⟨22,0,0⟩] (aj z (aq ⟨12,0,0⟩ 1 0 (aj y t.g))))),(⟨(aq ⟨11,0,0⟩ 1 0 (aM [⟨22,0,0⟩] (aj z (aq ⟨12,0,0⟩ 1 0 (aj y t.g))))),kM.1.1,kM.1.2⟩:a8).ca,(⟨(aq ⟨11,0,0⟩ 1 0 (aM [⟨22,0,0⟩] (aj z (aq ⟨12,0,0⟩ 1 0 (aj y t.g))))),kM.1.1,kM.1.2⟩:a8).fa⟩)++[ah lO.2.1 (.cells #[.pointer (some ⟨sb,0,none⟩)] 155 (0,0)),ah lO.2.2 (.cells #[.int .i64 ((aj y t.g).code.length:Int)] 3 (0,0))]) (λ_=>True) [] (by simp) (λw hw=>(yI sb K (⟨(aq ⟨11,0,0⟩ 1 0 (aM [⟨22,0,0⟩] (aj z (aq ⟨12,0,0⟩ 1 0 (aj y t.g))))),kM.1.1,kM.1.2⟩:a8) lO.2.1 lO.2.2 ((aj y t.g).code.length) _ w (List.getElem?_eq_getElem (by show (aj y t.g).code.length<((aq ⟨11,0,0⟩ 1 0 (aM [⟨22,0,0⟩] (aj z (aq ⟨12,0,0⟩ 1 0 (aj y t.g)))))).code.length; (try simp only [bO]); omega)) hw).mono λe w' h=>⟨(),h.1,trivial,h.2⟩) ?_
   intro _ _;refine ab (ad (aa O (V0 (Yb gA g_ O O) ?_)));refine Lb Y O iL O O O O λas8=>?_;refine WL.kq (rd:=fK) (f:=aU.cells) (k:=3) (m:=1) 0 [⟨1,0,0⟩] O O aU.bq (λ_ _ _ _ h=>h) (by simp) (by decide) λadk as9=>?_;refine Lw (ι:=SP) [_,_,_] _ Y O lf O O (λ_=>.tuple #[]) (λq=>(aV 157 108 112 sb K ⟨aM [⟨1,0,0⟩] (⟨(ct ((aj y t.g).code.length) (aq ⟨11,0,0⟩ 1 0 (aM [⟨22,0,0⟩] (aj z (aq ⟨12,0,0⟩ 1 0 (aj y t.g)))))),kM.1.1,kM.1.2⟩:a8).g,q,(⟨(ct ((aj y t.g).code.length) (aq ⟨11,0,0⟩ 1 0 (aM [⟨22,0,0⟩] (aj z (aq ⟨12,0,0⟩ 1 0 (aj y t.g)))))),kM.1.1,kM.1.2⟩:a8).fa⟩)) (λ_=>True) [adk] (by simp) (λw hw=>(lg sb K (⟨(ct ((aj y t.g).code.length) (aq ⟨11,0,0⟩ 1 0 (aM [⟨22,0,0⟩] (aj z (aq ⟨12,0,0⟩ 1 0 (aj y t.g)))))),kM.1.1,kM.1.2⟩:a8) adk (some ⟨as8,0,none⟩) 1 [⟨1,0,0⟩] w as9 (by show ((ct ((aj y t.g).code.length) (aq ⟨11,0,0⟩ 1 0 (aM [⟨22,0,0⟩] (aj z (aq ⟨12,0,0⟩ 1 0 (aj y t.g))))))).code.length+[⟨1,0,0⟩].length<=_; (try simp only [bO]); omega) hw).mono λe w' ⟨q,h1,h2⟩=>⟨q,h1,trivial,h2⟩) ?_;intro MD _;refine ab (Cr (aa O (Lf 6 O (Lf 6 O (Lf 4 O (Lf 4 O (Lf 4 O ?_)))))));refine WL.xS (ι:=Unit) [_,_,_,_,_] _ Y O yJ O O O (λ_=>.tuple #[]) (λ_=>(aV 157 108 112 sb K ⟨ct ((aM [⟨22,0,0⟩] (aj z (aq ⟨12,0,0⟩ 1 0 (aj y t.g)))).code.length) (aM [⟨1,0,0⟩] (ct ((aj y t.g).code.length) (aq ⟨11,0,0⟩ 1 0 (aM [⟨22,0,0⟩] (aj z (aq ⟨12,0,0⟩ 1 0 (aj y t.g))))))),(⟨(aM [⟨1,0,0⟩] (ct ((aj y t.g).code.length) (aq ⟨11,0,0⟩ 1 0 (aM [⟨22,0,0⟩] (aj z (aq ⟨12,0,0⟩ 1 0 (aj y t.g))))))),MD,kM.1.2⟩:a8).ca,(⟨(aM [⟨1,0,0⟩] (ct ((aj y t.g).code.length) (aq ⟨11,0,0⟩ 1 0 (aM [⟨22,0,0⟩] (aj z (aq ⟨12,0,0⟩ 1 0 (aj y t.g))))))),MD,kM.1.2⟩:a8).fa⟩)++[ah kM.2.1 (.cells #[.pointer (some ⟨sb,0,none⟩)] 155 (0,0)),ah kM.2.2 (.cells #[.int .i64 ((aM [⟨22,0,0⟩] (aj z (aq ⟨12,0,0⟩ 1 0 (aj y t.g)))).code.length:Int)] 3 (0,0))]) (λ_=>True) [] (by simp) (λw hw=>(yI sb K (⟨(aM [⟨1,0,0⟩] (ct ((aj y t.g).code.length) (aq ⟨11,0,0⟩ 1 0 (aM [⟨22,0,0⟩] (aj z (aq ⟨12,0,0⟩ 1 0 (aj y t.g))))))),MD,kM.1.2⟩:a8) kM.2.1 kM.2.2 ((aM [⟨22,0,0⟩] (aj z (aq ⟨12,0,0⟩ 1 0 (aj y t.g)))).code.length) _ w (List.getElem?_eq_getElem (by show (aM [⟨22,0,0⟩] (aj z (aq ⟨12,0,0⟩ 1 0 (aj y t.g)))).code.length<((aM [⟨1,0,0⟩] (ct ((aj y t.g).code.length) (aq ⟨11,0,0⟩ 1 0 (aM [⟨22,0,0⟩] (aj z (aq ⟨12,0,0⟩ 1 0 (aj y t.g)))))))).code.length; (try simp only [bO]); omega)) hw).mono λe w' h=>⟨(),h.1,trivial,h.2⟩) ?_;intro _ _;refine Ln (Eb ?_);refine E0 O λw' hw=>?_
   have hr:aj x t.g=(ct ((aM [⟨22,0,0⟩] (aj z (aq ⟨12,0,0⟩ 1 0 (aj y t.g)))).code.length) (aM [⟨1,0,0⟩] (ct ((aj y t.g).code.length) (aq ⟨11,0,0⟩ 1 0 (aM [⟨22,0,0⟩] (aj z (aq ⟨12,0,0⟩ 1 0 (aj y t.g)))))))):=by
     rw [tr,o7,if_neg iK,if_neg dJ,if_neg eI,if_neg jv,if_neg mf,if_neg qM,if_pos ho];unfold O';rw [oo bK,oo lC]
   rw [hr];exact ⟨(MD,kM.1.2),O,Wv 2 (Wt 3 hw)⟩
  rw [db] at ej; cases ej
 have yD:¬x.op=7:=by simpa using db
 refine Cr (V0 (aW O O) (ae O (ab ?_)));refine Cc O (λej=>?_) (λej=>?_)
 ·have ho:x.op=8:=by simpa using ej
  refine Cs ?_;have hl2:=aJ.args.2.2.1 (by omega);obtain ⟨y,bK⟩:∃y,x.args[0]? = some y:=⟨_,List.getElem?_eq_getElem (by omega)⟩;obtain ⟨jK,jL,eX,cV⟩:=hl.aS 0 y bK;obtain ⟨z,lC⟩:∃y,x.args[1]? = some y:=⟨_,List.getElem?_eq_getElem (by omega)⟩;obtain ⟨Kd,Ke,vR,x6⟩:=hl.aS 1 z lC
  obtain ⟨k2,rfl⟩:∃k2,k=k2+1:=by
    cases k with
    | zero=>exact cV.elim
    | succ k2=>exact ⟨k2,rfl⟩
  obtain ⟨ya,yc,lh,mh⟩:=cV;have kL:=hN k2 (by omega);have ml:=aJ.args.1.at_ bK;have da:=mE y t.g;have lM:=da.hi;have lN:=da.gu;have yK:=da.lo;obtain ⟨za,zc,A2,HG⟩:=x6;have HH:=aJ.args.1.at_ lC;have hw2:=Tf bK lC;have sK:=mE z (aq ⟨12,0,0⟩ 1 0 (aj y t.g));have oX:=sK.hi;have rI:=sK.gu;have HI:=sK.lo;have A3:=mE z (ct ((aj y t.g).code.length) (aq ⟨11,0,0⟩ 1 0 (aM [⟨1,1,0⟩] (aq ⟨12,0,0⟩ 1 0 (aj y t.g)))));have Tg:=A3.hi;have Th:=A3.gu;have Ti:=A3.lo;simp only [bO] at oX rI HI Tg Th Ti;refine Cr (aa O (V0 (Yf qL O) (V0 (Yd 0 O O O jy) (V0 (Yo (i:=0) fR O O eX (by omega)) (V0 (cJ 0 la O O O (lh)) (Lf 3 O (Lf 3 O ?_)))))));refine Lf 3 O ?_;refine Lw (ι:=SP×SP) [_,_,_] _ Y O qN O O (λ_=>.tuple #[]) (λq=>(aV 157 108 112 sb K ⟨aj y t.g,q.1,q.2⟩)) (λ_=>True) [H] (by simp) (λw hw=>(kL y ya yc t w mh ml (by show (t.g).code.length+8*dm y<=_; (try simp only [bO]); omega) (by show (t.g).fix.length+8*dm y<=_; (try simp only [bO]); omega) hw).mono λe w' ⟨q,h1,h2⟩=>⟨q,h1,trivial,h2⟩) ?_;intro HJ _;refine ab (ad (aa O ?_));refine Lw (ι:=(SP×SP)×Nat×Nat) [_,_,_] _ Y O A0 O O (λq=>.func (.func 254) #[] #[.pointer (some ⟨q.2.1,0,none⟩),.pointer (some ⟨q.2.2,0,none⟩)]) (λq=>(aV 157 108 112 sb K ⟨aq ⟨12,0,0⟩ 1 0 (aj y t.g),q.1.1,q.1.2⟩)++[ah q.2.1 (.cells #[.pointer (some ⟨sb,0,none⟩)] 155 (0,0)),ah q.2.2 (.cells #[.int .i64 ((aj y t.g).code.length:Int)] 3 (0,0))]) (λ_=>True) [] (by simp) (λw hw=>(AY sb K (⟨(aj y t.g),HJ.1,HJ.2⟩:a8) 12 w (by show ((aj y t.g)).code.length+1<=_; (try simp only [bO]); omega) (by show ((aj y t.g)).fix.length+1<=_; (try simp only [bO]); omega) hw).mono λe w' ⟨q,h1,h2⟩=>⟨q,h1,trivial,h2⟩) ?_;intro lO _;refine ae O (ab (Cs (ad (V0 (Yf qK O) (V0 (Yd 5 O O O ar) (V0 (aW O O) (ab ?_)))))));refine Cc O (λiY=>?_) (λiY=>?_)
  ·refine ad (aa O (V0 (Yb gA g_ O O) ?_));refine Lb Y O iL O O O O λqG=>?_;refine WL.kq (rd:=fK) (f:=aU.cells) (k:=3) (m:=1) 0 [⟨1,1,0⟩] O O aU.bq (λ_ _ _ _ h=>h) (by simp) (by decide) λkH py=>?_;refine Lw (ι:=SP) [_,_,_] _ Y O lf O O (λ_=>.tuple #[]) (λq=>(aV 157 108 112 sb K ⟨aM [⟨1,1,0⟩] (⟨(aq ⟨12,0,0⟩ 1 0 (aj y t.g)),lO.1.1,lO.1.2⟩:a8).g,q,(⟨(aq ⟨12,0,0⟩ 1 0 (aj y t.g)),lO.1.1,lO.1.2⟩:a8).fa⟩)) (λ_=>True) [kH] (by simp) (λw hw=>(lg sb K (⟨(aq ⟨12,0,0⟩ 1 0 (aj y t.g)),lO.1.1,lO.1.2⟩:a8) kH (some ⟨qG,0,none⟩) 1 [⟨1,1,0⟩] w py (by show ((aq ⟨12,0,0⟩ 1 0 (aj y t.g))).code.length+[⟨1,1,0⟩].length<=_; (try simp only [bO]); omega) hw).mono λe w' ⟨q,h1,h2⟩=>⟨q,h1,trivial,h2⟩) ?_;intro pz _;refine ab (ad (aa O ?_));refine Lw (ι:=(SP×SP)×Nat×Nat) [_,_,_] _ Y O A0 O O (λq=>.func (.func 254) #[] #[.pointer (some ⟨q.2.1,0,none⟩),.pointer (some ⟨q.2.2,0,none⟩)]) (λq=>(aV 157 108 112 sb K ⟨aq ⟨11,0,0⟩ 1 0 (aM [⟨1,1,0⟩] (aq ⟨12,0,0⟩ 1 0 (aj y t.g))),q.1.1,q.1.2⟩)++[ah q.2.1 (.cells #[.pointer (some ⟨sb,0,none⟩)] 155 (0,0)),ah q.2.2 (.cells #[.int .i64 ((aM [⟨1,1,0⟩] (aq ⟨12,0,0⟩ 1 0 (aj y t.g))).code.length:Int)] 3 (0,0))]) (λ_=>True) [] (by simp) (λw hw=>(AY sb K (⟨(aM [⟨1,1,0⟩] (aq ⟨12,0,0⟩ 1 0 (aj y t.g))),pz,lO.1.2⟩:a8) 11 w (by show ((aM [⟨1,1,0⟩] (aq ⟨12,0,0⟩ 1 0 (aj y t.g)))).code.length+1<=_; (try simp only [bO]); omega) (by show ((aM [⟨1,1,0⟩] (aq ⟨12,0,0⟩ 1 0 (aj y t.g)))).fix.length+1<=_; (try simp only [bO]); omega) hw).mono λe w' ⟨q,h1,h2⟩=>⟨q,h1,trivial,h2⟩) ?_;intro qO _;refine ae O (ab (ad (aa O (Lf 6 O (Lf 6 O (Lf 4 O (Lf 4 O (Lf 4 O ?_))))))));refine WL.xS (ι:=Unit) [_,_,_,_,_] _ Y O yJ O O O (λ_=>.tuple #[]) (λ_=>(aV 157 108 112 sb K ⟨ct ((aj y t.g).code.length) (aq ⟨11,0,0⟩ 1 0 (aM [⟨1,1,0⟩] (aq ⟨12,0,0⟩ 1 0 (aj y t.g)))),(⟨(aq ⟨11,0,0⟩ 1 0 (aM [⟨1,1,0⟩] (aq ⟨12,0,0⟩ 1 0 (aj y t.g)))),qO.1.1,qO.1.2⟩:a8).ca,(⟨(aq ⟨11,0,0⟩ 1 0 (aM [⟨1,1,0⟩] (aq ⟨12,0,0⟩ 1 0 (aj y t.g)))),qO.1.1,qO.1.2⟩:a8).fa⟩)++[ah lO.2.1 (.cells #[.pointer (some ⟨sb,0,none⟩)] 155 (0,0)),ah lO.2.2 (.cells #[.int .i64 ((aj y t.g).code.length:Int)] 3 (0,0))]) (λ_=>True) [] (by simp) (λw hw=>(yI sb K (⟨(aq ⟨11,0,0⟩ 1 0 (aM [⟨1,1,0⟩] (aq ⟨12,0,0⟩ 1 0 (aj y t.g)))),qO.1.1,qO.1.2⟩:a8) lO.2.1 lO.2.2 ((aj y t.g).code.length) _ w (List.getElem?_eq_getElem (by show (aj y t.g).code.length<((aq ⟨11,0,0⟩ 1 0 (aM [⟨1,1,0⟩] (aq ⟨12,0,0⟩ 1 0 (aj y t.g))))).code.length; (try simp only [bO]); omega)) hw).mono λe w' h=>⟨(),h.1,trivial,h.2⟩) ?_;intro _ _;refine ab (Cr (aa O (ae O (ab (Cs (ad (V0 (Yf qK O) (V0 (Yd 7 O O O ar) (V0 (aW O O) (ab ?_))))))))));refine Cc O (λj_=>?_) (λj_=>?_)
   ·refine ad (aa O (V0 (Yf qL O) (V0 (Yd 7 O O O jy) (V0 (Yo (i:=1) fR O O vR (by omega)) (V0 (cJ 1 la O O O (A2)) ?_)))));refine Lw (ι:=SP×SP) [_,_,_] _ Y O qN O O (λ_=>.tuple #[]) (λq=>(aV 157 108 112 sb K ⟨aj z (ct ((aj y t.g).code.length) (aq ⟨11,0,0⟩ 1 0 (aM [⟨1,1,0⟩] (aq ⟨12,0,0⟩ 1 0 (aj y t.g))))),q.1,q.2⟩)) (λ_=>True) [H] (by simp) (λw hw=>(kL z za zc (⟨(ct ((aj y t.g).code.length) (aq ⟨11,0,0⟩ 1 0 (aM [⟨1,1,0⟩] (aq ⟨12,0,0⟩ 1 0 (aj y t.g))))),qO.1.1,qO.1.2⟩:a8) w HG HH (by show ((ct ((aj y t.g).code.length) (aq ⟨11,0,0⟩ 1 0 (aM [⟨1,1,0⟩] (aq ⟨12,0,0⟩ 1 0 (aj y t.g)))))).code.length+8*dm z<=_; (try simp only [bO]); omega) (by show ((ct ((aj y t.g).code.length) (aq ⟨11,0,0⟩ 1 0 (aM [⟨1,1,0⟩] (aq ⟨12,0,0⟩ 1 0 (aj y t.g)))))).fix.length+8*dm z<=_; (try simp only [bO]); omega) hw).mono λe w' ⟨q,h1,h2⟩=>⟨q,h1,trivial,h2⟩) ?_;intro jP _;refine ab (ad (aa O (V0 (Yb gA g_ O O) ?_)));refine Lb Y O iL O O O O λTj=>?_;refine WL.kq (rd:=fK) (f:=aU.cells) (k:=3) (m:=1) 0 [⟨22,0,0⟩] O O aU.bq (λ_ _ _ _ h=>h) (by simp) (by decide) λHP Tl=>?_;refine Lw (ι:=SP) [_,_,_] _ Y O lf O O (λ_=>.tuple #[]) (λq=>(aV 157 108 112 sb K ⟨aM [⟨22,0,0⟩] (⟨(aj z (ct ((aj y t.g).code.length) (aq ⟨11,0,0⟩ 1 0 (aM [⟨1,1,0⟩] (aq ⟨12,0,0⟩ 1 0 (aj y t.g)))))),jP.1,jP.2⟩:a8).g,q,(⟨(aj z (ct ((aj y t.g).code.length) (aq ⟨11,0,0⟩ 1 0 (aM [⟨1,1,0⟩] (aq ⟨12,0,0⟩ 1 0 (aj y t.g)))))),jP.1,jP.2⟩:a8).fa⟩)) (λ_=>True) [HP] (by simp) (λw hw=>(lg sb K (⟨(aj z (ct ((aj y t.g).code.length) (aq ⟨11,0,0⟩ 1 0 (aM [⟨1,1,0⟩] (aq ⟨12,0,0⟩ 1 0 (aj y t.g)))))),jP.1,jP.2⟩:a8) HP (some ⟨Tj,0,none⟩) 1 [⟨22,0,0⟩] w Tl (by show ((aj z (ct ((aj y t.g).code.length) (aq ⟨11,0,0⟩ 1 0 (aM [⟨1,1,0⟩] (aq ⟨12,0,0⟩ 1 0 (aj y t.g))))))).code.length+[⟨22,0,0⟩].length<=_; (try simp only [bO]); omega) hw).mono λe w' ⟨q,h1,h2⟩=>⟨q,h1,trivial,h2⟩) ?_;intro DP _;refine ab (ad (aa O (Lf 6 O (Lf 6 O (Lf 4 O (Lf 4 O (Lf 4 O ?_)))))));refine WL.xS (ι:=Unit) [_,_,_,_,_] _ Y O yJ O O O (λ_=>.tuple #[]) (λ_=>(aV 157 108 112 sb K ⟨ct ((aM [⟨1,1,0⟩] (aq ⟨12,0,0⟩ 1 0 (aj y t.g))).code.length) (aM [⟨22,0,0⟩] (aj z (ct ((aj y t.g).code.length) (aq ⟨11,0,0⟩ 1 0 (aM [⟨1,1,0⟩] (aq ⟨12,0,0⟩ 1 0 (aj y t.g))))))),(⟨(aM [⟨22,0,0⟩] (aj z (ct ((aj y t.g).code.length) (aq ⟨11,0,0⟩ 1 0 (aM [⟨1,1,0⟩] (aq ⟨12,0,0⟩ 1 0 (aj y t.g))))))),DP,jP.2⟩:a8).ca,(⟨(aM [⟨22,0,0⟩] (aj z (ct ((aj y t.g).code.length) (aq ⟨11,0,0⟩ 1 0 (aM [⟨1,1,0⟩] (aq ⟨12,0,0⟩ 1 0 (aj y t.g))))))),DP,jP.2⟩:a8).fa⟩)++[ah qO.2.1 (.cells #[.pointer (some ⟨sb,0,none⟩)] 155 (0,0)),ah qO.2.2 (.cells #[.int .i64 ((aM [⟨1,1,0⟩] (aq ⟨12,0,0⟩ 1 0 (aj y t.g))).code.length:Int)] 3 (0,0))]) (λ_=>True) [] (by simp) (λw hw=>(yI sb K (⟨(aM [⟨22,0,0⟩] (aj z (ct ((aj y t.g).code.length) (aq ⟨11,0,0⟩ 1 0 (aM [⟨1,1,0⟩] (aq ⟨12,0,0⟩ 1 0 (aj y t.g))))))),DP,jP.2⟩:a8) qO.2.1 qO.2.2 ((aM [⟨1,1,0⟩] (aq ⟨12,0,0⟩ 1 0 (aj y t.g))).code.length) _ w (List.getElem?_eq_getElem (by show (aM [⟨1,1,0⟩] (aq ⟨12,0,0⟩ 1 0 (aj y t.g))).code.length<((aM [⟨22,0,0⟩] (aj z (ct ((aj y t.g).code.length) (aq ⟨11,0,0⟩ 1 0 (aM [⟨1,1,0⟩] (aq ⟨12,0,0⟩ 1 0 (aj y t.g)))))))).code.length; (try simp only [bO]); omega)) hw).mono λe w' h=>⟨(),h.1,trivial,h.2⟩) ?_
    intro _ _;refine ab (aA (Er (bE ?_)));refine WE.Iy O λw' hw=>?_
    have hr:aj x t.g=(ct ((aM [⟨1,1,0⟩] (aq ⟨12,0,0⟩ 1 0 (aj y t.g))).code.length) (aM [⟨22,0,0⟩] (aj z (ct ((aj y t.g).code.length) (aq ⟨11,0,0⟩ 1 0 (aM [⟨1,1,0⟩] (aq ⟨12,0,0⟩ 1 0 (aj y t.g)))))))):=by
      rw [tr,o7,if_neg iK,if_neg dJ,if_neg eI,if_neg jv,if_neg mf,if_neg qM,if_neg yD,if_pos ho];unfold O_;rw [oo bK,oo lC]
    rw [hr];exact ⟨(DP,jP.2),O,Wv 2 (Wt 3 hw)⟩
   exact absurd j_ (by rw [ho]; decide)
  exact absurd iY (by rw [ho]; decide)
 have C0:¬x.op=8:=by simpa using ej
 refine Cs ?_;have da:=JC x.args t.g;have lM:=da.hi;have lN:=da.gu;refine Cr (aa O (V0 (Yf qL O) (V0 (Yd 0 O O O jy) (Lf 3 O (Lf 3 O (Lf 3 O ?_))))));refine Lw (ι:=SP×SP) [_,_,_] _ Y O ac4 O O (λ_=>.tuple #[]) (λq=>(aV 157 108 112 sb K ⟨eC x.args t.g,q.1,q.2⟩)) (λ_=>True) [H] (by simp) (λw hw=>(ac5 sb K t H k x.args a c w hN hl aJ.args.1 (by omega) (by omega) hw).mono λe w' ⟨q,h1,h2⟩=>⟨q,h1,trivial,h2⟩) ?_;intro eF _;refine ab (ad (V0 (Yf qK O) (V0 (Yd 3 O O O ar) (V0 (aW O O) (ab ?_)))));refine Cc O (λAV=>?_) (λAV=>?_)
 ·have ho:x.op=6:=by simpa using AV
  refine Cr (aa O (V0 (Yb gA g_ O O) ?_));refine Lb Y O iL O O O O λck=>?_;refine WL.kq (rd:=fK) (f:=aU.cells) (k:=3) (m:=1) 0 [⟨9,0,0⟩] O O aU.bq (λ_ _ _ _ h=>h) (by simp) (by decide) λyo GG=>?_;refine Lw (ι:=SP) [_,_,_] _ Y O lf O O (λ_=>.tuple #[]) (λq=>(aV 157 108 112 sb K ⟨aM [⟨9,0,0⟩] (⟨(eC x.args t.g),eF.1,eF.2⟩:a8).g,q,(⟨(eC x.args t.g),eF.1,eF.2⟩:a8).fa⟩)) (λ_=>True) [yo] (by simp) (λw hw=>(lg sb K (⟨(eC x.args t.g),eF.1,eF.2⟩:a8) yo (some ⟨ck,0,none⟩) 1 [⟨9,0,0⟩] w GG (by show ((eC x.args t.g)).code.length+[⟨9,0,0⟩].length<=_; (try simp only [bO]); omega) hw).mono λe w' ⟨q,h1,h2⟩=>⟨q,h1,trivial,h2⟩) ?_;intro kG _;refine Ln (Eb ?_);refine E0 O λw' hw=>?_
  have hr:aj x t.g=aM [⟨9,0,0⟩] (eC x.args t.g):=by
    rw [tr,o7,if_neg iK,if_neg dJ,if_neg eI,if_neg jv,if_neg mf,if_neg qM,if_neg yD,if_neg C0,if_pos ho];rw [Fe]
  rw [hr];exact ⟨(kG,eF.2),O,Wv 1 (Wt 3 hw)⟩
 have acU:¬x.op=6:=by simpa using AV
 refine Cr (aa O (V0 (Yf qK O) (V0 (Yd 3 O O O ar) (V0 (Yb gA g_ O O) ?_))));refine Lb Y O iL O O O O λF'=>?_;refine WL.kq (rd:=fK) (f:=aU.cells) (k:=3) (m:=1) 0 [⟨10,x.op,0⟩] O O aU.bq (λ_ _ _ _ h=>h) (by simp) (by decide) λC5 F_=>?_;refine Lw (ι:=SP) [_,_,_] _ Y O lf O O (λ_=>.tuple #[]) (λq=>(aV 157 108 112 sb K ⟨aM [⟨10,x.op,0⟩] (⟨(eC x.args t.g),eF.1,eF.2⟩:a8).g,q,(⟨(eC x.args t.g),eF.1,eF.2⟩:a8).fa⟩)) (λ_=>True) [C5] (by simp) (λw hw=>(lg sb K (⟨(eC x.args t.g),eF.1,eF.2⟩:a8) C5 (some ⟨F',0,none⟩) 1 [⟨10,x.op,0⟩] w F_ (by show ((eC x.args t.g)).code.length+[⟨10,x.op,0⟩].length<=_; (try simp only [bO]); omega) hw).mono λe w' ⟨q,h1,h2⟩=>⟨q,h1,trivial,h2⟩) ?_;intro Ac _;refine Ln (Eb ?_);refine E0 O λw' hw=>?_
 have hr:aj x t.g=aM [⟨10,x.op,0⟩] (eC x.args t.g):=by
   rw [tr,o7,if_neg iK,if_neg dJ,if_neg eI,if_neg jv,if_neg mf,if_neg qM,if_neg yD,if_neg C0,if_neg acU,Fe]
 rw [hr];exact ⟨(Ac,eF.2),O,Wv 1 (Wt 3 hw)⟩
def adl (H:View) (sb:Nat) (K:gV) (ke k:Nat):Prop:=∀(l:List cA) (a:Option Addr) (c:Nat) (t:a8) (w:World),Sl (iP ke k) 7 H a c l->tv l->t.g.code.length+8*dP l<=1000000000000->t.g.fix.length+8*dP l<=1000000000000->
 Ws w (List.flatMap ao.ids (aV 157 108 112 sb K t)) (aV 157 108 112 sb K t) [H] w->Calls Tryz.prog 141 #[.pointer (some ⟨sb,0,none⟩),.slice a l.length c] w λe w'=>∃q:SP×SP,e = .returned (.tuple #[])/\Ws w (List.flatMap ao.ids (aV 157 108 112 sb K t)) (aV 157 108 112 sb K ⟨bG l t.g,q.1,q.2⟩) [H] w'
theorem ME:Enters Tryz.prog 141:=enters_of Tryz.func141 (by kernel_rfl) rfl
theorem as':Enters Tryz.prog 177:=enters_of Tryz.func177 (by kernel_rfl) rfl
theorem as_ (sb:Nat) (K:gV) (t:a8) (H:View) (ke k:Nat) (x:cA) (r:zx) (w:World) (hA:adl H sb K ke k) (h1:Sl (kx ke) 5 H r.s1.1 r.s1.2 x.args) (h2:Sl (iP ke k) 7 H r.s2.1 r.s2.2 x.body) (h3:Sl (iP ke k) 7 H r.s3.1 r.s3.2 x.other) (aJ:JD x) (hb:t.g.code.length+8*o6 x<=1000000000000) (wR:t.g.fix.length+8*o6 x<=1000000000000) (hw:Ws w (List.flatMap ao.ids (aV 157 108 112 sb K t)) (aV 157 108 112 sb K t) [H] w) :
   Calls Tryz.prog 177 #[.pointer (some ⟨sb,0,none⟩),.agg (vn x r).toArray] w λe w'=>∃q:SP×SP,e = .returned (.tuple #[])/\Ws w (List.flatMap ao.ids (aV 157 108 112 sb K t)) (aV 157 108 112 sb K ⟨l4 x t.g,q.1,q.2⟩) [H] w':=by
 have hN:∀k2,HD H sb K k2:=λk2 x a c t w h1 h2 h3 h4 h5=>as0 sb K t H k2 x a c w h1 h2 h3 h4 h5;have dR:=h1.cap;have eQ:=h1.max;have aAP:=h3.cap;have aAQ:=h3.max;have hwe:=aib x;refine enter Tryz.func177 O 155 O O ?_;refine CE hw (ad ?_);refine WL.box Y O O λb3=>?_;refine ab (ad (V0 (Yf Dy O) (V0 (Yd 0 O O O ar) (ab (Cb (ad (V0 (aW O O) (ae O (ab ?_)))))))));refine Cc O (λai=>?_) (λai=>?_)
 ·have ho:x.op=1:=by simpa using ai
  refine Cs ?_;have zU:=aJ.parts.2.2.2.1 (by omega);obtain ⟨y,bK⟩:∃y,x.args[0]? = some y:=⟨_,List.getElem?_eq_getElem (by omega)⟩;obtain ⟨jK,jL,eX,cV⟩:=h1.aS 0 y bK
  obtain ⟨k2,rfl⟩:∃k2,ke=k2+1:=by
    cases ke with
    | zero=>exact cV.elim
    | succ k2=>exact ⟨k2,rfl⟩
  obtain ⟨ya,yc,lh,mh⟩:=cV;have kL:=hN k2;have ml:=aJ.parts.1.at_ bK;have DO:=AZ bK;have da:=mE y t.g;have lM:=da.hi;have lN:=da.gu;have yK:=da.lo;refine Cr (aa O (V0 (Yf pG O) (V0 (Yd 0 O O O jy) (V0 (Yo (i:=0) fR O O eX (by omega)) (V0 (cJ 0 la O O O (lh)) (Lf 3 O (Lf 3 O ?_)))))));refine Lf 3 O ?_;refine Lw (ι:=SP×SP) [_,_,_] _ Y O qN O O (λ_=>.tuple #[]) (λq=>(aV 157 108 112 sb K ⟨aj y t.g,q.1,q.2⟩)) (λ_=>True) [H] (by simp) (λw hw=>(kL y ya yc t w mh ml (by show (t.g).code.length+8*dm y<=_; (try simp only [bO]); omega) (by show (t.g).fix.length+8*dm y<=_; (try simp only [bO]); omega) hw).mono λe w' ⟨q,h1,h2⟩=>⟨q,h1,trivial,h2⟩) ?_;intro k7 _;refine ab (ad (V0 (Yf nO O) (V0 (Yd 3 O O O ar) (V0 (bj O O) (ab ?_)))));refine Cc O (λaw=>?_) (λaw=>?_)
  ·have hm:x.m<0:=by simpa using aw
   refine Cr (aa O (V0 (Yf oN O) (V0 (Yd 3 O O O ar) (V0 (Yb gA g_ O O) ?_))));refine Lb Y O iL O O O O λb25=>?_;refine WL.kq (rd:=fK) (f:=aU.cells) (k:=3) (m:=1) 0 [⟨3,x.pl,0⟩] O O aU.bq (λ_ _ _ _ h=>h) (by simp) (by decide) λH25 ata=>?_;refine Lw (ι:=SP) [_,_,_] _ Y O lf O O (λ_=>.tuple #[]) (λq=>(aV 157 108 112 sb K ⟨aM [⟨3,x.pl,0⟩] (⟨(aj y t.g),k7.1,k7.2⟩:a8).g,q,(⟨(aj y t.g),k7.1,k7.2⟩:a8).fa⟩)) (λ_=>True) [H25] (by simp) (λw hw=>(lg sb K (⟨(aj y t.g),k7.1,k7.2⟩:a8) H25 (some ⟨b25,0,none⟩) 1 [⟨3,x.pl,0⟩] w ata (by show ((aj y t.g)).code.length+[⟨3,x.pl,0⟩].length<=_; (try simp only [bO]); omega) hw).mono λe w' ⟨q,h1,h2⟩=>⟨q,h1,trivial,h2⟩) ?_;intro kJ _;refine Ln (Eb ?_);refine E0 O λw' hw=>?_
   have hr:l4 x t.g=aM [⟨3,x.pl,0⟩] (aj y t.g):=by
     rw [vw,p7,if_pos ho,if_pos hm,oo bK]
   rw [hr];exact ⟨(kJ,k7.2),O,Wv 1 (Wt 3 hw)⟩
  have hm:¬x.m<0:=by simpa using aw
  refine Cr (aa O (V0 (Yf oN O) (V0 (Yd 3 O O O ar) (V0 (Yb gA g_ O O) (V0 (Yf nO O) (V0 (Yd 3 O O O ar) ?_))))));refine Lw (ι:=SP×SP) [_,_,_] _ Y O DL O O (λ_=>.int .i64 ((aj y t.g).code.length:Int)) (λq=>(aV 157 108 112 sb K ⟨aq ⟨5,x.pl,0⟩ 3 x.m (aj y t.g),q.1,q.2⟩)) (λ_=>True) [] (by simp) (λw hw=>(DM sb K (⟨(aj y t.g),k7.1,k7.2⟩:a8)  ⟨5,x.pl,0⟩ 3 x.m w  (by show ((aj y t.g)).code.length+1<=_; (try simp only [bO]); omega) (by show ((aj y t.g)).fix.length+1<=_; (try simp only [bO]); omega) hw).mono λe w' ⟨q,h1,h2⟩=>⟨q,h1,trivial,h2⟩) ?_;intro kK _;refine Ln (Eb ?_);refine E0 O λw' hw=>?_
  have hr:l4 x t.g=aq ⟨5,x.pl,0⟩ 3 x.m (aj y t.g):=by
    rw [vw,p7,if_pos ho,if_neg hm,oo bK]
  rw [hr];exact ⟨(kK.1,kK.2),O,Wt 3 hw⟩
 have dJ:¬x.op=1:=by simpa using ai
 refine ad (V0 (aW O O) (ae O (ab ?_)));refine Cc O (λaO=>?_) (λaO=>?_)
 ·have ho:x.op=2:=by simpa using aO
  refine Cs ?_;have hl2:=aJ.parts.2.2.2.2.1 (by omega);obtain ⟨y,bK⟩:∃y,x.args[0]? = some y:=⟨_,List.getElem?_eq_getElem (by omega)⟩;obtain ⟨jK,jL,eX,cV⟩:=h1.aS 0 y bK;obtain ⟨z,lC⟩:∃y,x.args[1]? = some y:=⟨_,List.getElem?_eq_getElem (by omega)⟩;obtain ⟨Kd,Ke,vR,x6⟩:=h1.aS 1 z lC
  obtain ⟨k2,rfl⟩:∃k2,ke=k2+1:=by
    cases ke with
    | zero=>exact cV.elim
    | succ k2=>exact ⟨k2,rfl⟩
  obtain ⟨ya,yc,lh,mh⟩:=cV;have kL:=hN k2;have ml:=aJ.parts.1.at_ bK;have DO:=AZ bK;have da:=mE y t.g;have lM:=da.hi;have lN:=da.gu;have yK:=da.lo;obtain ⟨za,zc,A2,HG⟩:=x6;have HH:=aJ.parts.1.at_ lC;have hw2:=Tf bK lC;have sK:=mE z (aq ⟨6,x.pl,x.n⟩ 3 x.m (aj y t.g));have oX:=sK.hi;have rI:=sK.gu;have HI:=sK.lo
  try simp only [bO] at oX rI HI
  refine CU (λ_=>true) [1,1,1] [] (.q false 0 (.q false 1 (.q true 2 (.q false 3 (.q true 4 (.q false 5 (.q true 6 (.q false 7 (.q true 8 (.q false 9 (.q true 10 (.e 11 .nil .stop)))))))))))) mixed (by kernel_rfl) (λ_ _ _ d _ _ h=>by cases d<;>exact h) ?_;refine U0 O (bR [1,1,1]) (Ym O) (U0 O (bR [1,1,1]) (Yf nO O) (U0 O (bR [1,1,1]) (Yd 0 O O O ar) (U0 O (bR [1,1,1]) (Yf oN O) (U0 O (bR [1,1,1]) (Yd 0 O O O ar) (U0 O (bR [1,1,1]) (Yf wI O) (U0 O (bR [1,1,1]) (Yd 0 O O O ar) (U0 O (bR [1,1,1]) (Yf pG O) ?_)))))));refine U0 O (bR [1,1,1]) (Yd 0 O O O jy) (U0 O (bR [1,1,1]) (Yo (i:=0) fR O O eX (by omega)) (U0 O (bR [1,1,1]) (cJ 0 la O O O (lh)) ?_));refine Ue O (bR [1,1,1]) ?_ WU.stop;refine Lf 3 O (Lf 3 O (Lf 3 O ?_));refine Lw (ι:=SP×SP) [_,_,_] _ Y O ac' O O (λ_=>.tuple #[]) (λq=>(aV 157 108 112 sb K ⟨aq ⟨6,x.pl,x.n⟩ 3 x.m (aj y t.g),q.1,q.2⟩)) (λ_=>True) [H] (by simp) (λw hw=>(ac9 sb K t H k2 x.m x.pl x.n y ya yc w kL mh ml (by omega) (by omega) hw).mono λe w' ⟨q,h1,h2⟩=>⟨q,h1,trivial,h2⟩) ?_;intro iV _;refine Ln (Eu ?_);refine WU.nil (λ_ h=>(Wo 1 (Wo 1 (Wo 1 (h.f 3 O))):)) ?_;refine WS.nil ?_;refine Et (ad (aa O (V0 (Yf pG O) (V0 (Yd 3 O O O jy) (V0 (Yo (i:=1) fR O O vR (by omega)) (V0 (cJ 0 la O O O (A2)) ?_))))));refine Lw (ι:=SP×SP) [_,_,_] _ Y O qN O O (λ_=>.tuple #[]) (λq=>(aV 157 108 112 sb K ⟨aj z (aq ⟨6,x.pl,x.n⟩ 3 x.m (aj y t.g)),q.1,q.2⟩)) (λ_=>True) [H] (by simp) (λw hw=>(kL z za zc (⟨(aq ⟨6,x.pl,x.n⟩ 3 x.m (aj y t.g)),iV.1,iV.2⟩:a8) w HG HH (by show ((aq ⟨6,x.pl,x.n⟩ 3 x.m (aj y t.g))).code.length+8*dm z<=_; (try simp only [bO]); omega) (by show ((aq ⟨6,x.pl,x.n⟩ 3 x.m (aj y t.g))).fix.length+8*dm z<=_; (try simp only [bO]); omega) hw).mono λe w' ⟨q,h1,h2⟩=>⟨q,h1,trivial,h2⟩) ?_;intro A4 _;refine ab (Cr (aa O (V0 (Yb gA g_ O O) ?_)));refine Lb Y O iL O O O O λb56=>?_;refine WL.kq (rd:=fK) (f:=aU.cells) (k:=3) (m:=1) 0 [⟨8,0,0⟩] O O aU.bq (λ_ _ _ _ h=>h) (by simp) (by decide) λH56 atc=>?_;refine Lw (ι:=SP) [_,_,_] _ Y O lf O O (λ_=>.tuple #[]) (λq=>(aV 157 108 112 sb K ⟨aM [⟨8,0,0⟩] (⟨(aj z (aq ⟨6,x.pl,x.n⟩ 3 x.m (aj y t.g))),A4.1,A4.2⟩:a8).g,q,(⟨(aj z (aq ⟨6,x.pl,x.n⟩ 3 x.m (aj y t.g))),A4.1,A4.2⟩:a8).fa⟩)) (λ_=>True) [H56] (by simp) (λw hw=>(lg sb K (⟨(aj z (aq ⟨6,x.pl,x.n⟩ 3 x.m (aj y t.g))),A4.1,A4.2⟩:a8) H56 (some ⟨b56,0,none⟩) 1 [⟨8,0,0⟩] w atc (by show ((aj z (aq ⟨6,x.pl,x.n⟩ 3 x.m (aj y t.g)))).code.length+[⟨8,0,0⟩].length<=_; (try simp only [bO]); omega) hw).mono λe w' ⟨q,h1,h2⟩=>⟨q,h1,trivial,h2⟩) ?_;intro qF _;refine Ln (Eb ?_);refine E0 O λw' hw=>?_
  have hr:l4 x t.g=aM [⟨8,0,0⟩] (aj z (aq ⟨6,x.pl,x.n⟩ 3 x.m (aj y t.g))):=by
    rw [vw,p7,if_neg dJ,if_pos ho,oo bK,oo lC]
  rw [hr];exact ⟨(qF,A4.2),O,Wv 1 (Wt 3 hw)⟩
 have eI:¬x.op=2:=by simpa using aO
 refine ad (V0 (aW O O) (ae O (ab ?_)));refine Cc O (λbd=>?_) (λbd=>?_)
 ·have ho:x.op=3:=by simpa using bd
  refine Cs ?_;have hgn:=JC x.args t.g;have lM:=hgn.hi;have lN:=hgn.gu;refine Cr (aa O (V0 (Yf nO O) (V0 (Yd 0 O O O ar) (V0 (Yf oN O) (V0 (Yd 0 O O O ar) (V0 (Yf pG O) (V0 (Yd 0 O O O jy) ?_)))))));refine Lf 3 O (Lf 3 O (Lf 3 O ?_));refine Lw (ι:=SP×SP) [_,_,_] _ Y O ac_ O O (λ_=>.tuple #[]) (λq=>(aV 157 108 112 sb K ⟨aq ⟨13,x.pl,0⟩ 2 x.m (eC x.args t.g),q.1,q.2⟩)) (λ_=>True) [H] (by simp) (λw hw=>(ac7 sb K t H ke x.m x.pl x.args r.s1.1 r.s1.2 w (λk2 _=>hN k2) h1 aJ.parts.1 (by omega) (by omega) hw).mono λe w' ⟨q,h1,h2⟩=>⟨q,h1,trivial,h2⟩) ?_;intro A5 _;refine ab (Cr (aa O (V0 (Yb gA g_ O O) ?_)));refine Lb Y O iL O O O O λTm=>?_;refine WL.kq (rd:=fK) (f:=aU.cells) (k:=3) (m:=1) 0 [⟨17,0,0⟩] O O aU.bq (λ_ _ _ _ h=>h) (by simp) (by decide) λH70 atd=>?_;refine Lw (ι:=SP) [_,_,_] _ Y O lf O O (λ_=>.tuple #[]) (λq=>(aV 157 108 112 sb K ⟨aM [⟨17,0,0⟩] (⟨(aq ⟨13,x.pl,0⟩ 2 x.m (eC x.args t.g)),A5.1,A5.2⟩:a8).g,q,(⟨(aq ⟨13,x.pl,0⟩ 2 x.m (eC x.args t.g)),A5.1,A5.2⟩:a8).fa⟩)) (λ_=>True) [H70] (by simp) (λw hw=>(lg sb K (⟨(aq ⟨13,x.pl,0⟩ 2 x.m (eC x.args t.g)),A5.1,A5.2⟩:a8) H70 (some ⟨Tm,0,none⟩) 1 [⟨17,0,0⟩] w atd (by show ((aq ⟨13,x.pl,0⟩ 2 x.m (eC x.args t.g))).code.length+[⟨17,0,0⟩].length<=_; (try simp only [bO]); omega) hw).mono λe w' ⟨q,h1,h2⟩=>⟨q,h1,trivial,h2⟩) ?_;intro q71 _;refine Ln (Eb ?_);refine E0 O λw' hw=>?_
  have hr:l4 x t.g=aM [⟨17,0,0⟩] (aq ⟨13,x.pl,0⟩ 2 x.m (eC x.args t.g)):=by
    rw [vw,p7,if_neg dJ,if_neg eI,if_pos ho,Fe]
  rw [hr];exact ⟨(q71,A5.2),O,Wv 1 (Wt 3 hw)⟩
 have jv:¬x.op=3:=by simpa using bd
 refine ad (V0 (aW O O) (ae O (ab ?_)));refine Cc O (λbC=>?_) (λbC=>?_)
 ·have ho:x.op=4:=by simpa using bC
  refine Cs ?_;have zU:=aJ.parts.2.2.2.1 (by omega);obtain ⟨y,bK⟩:∃y,x.args[0]? = some y:=⟨_,List.getElem?_eq_getElem (by omega)⟩;obtain ⟨jK,jL,eX,cV⟩:=h1.aS 0 y bK
  obtain ⟨k2,rfl⟩:∃k2,ke=k2+1:=by
    cases ke with
    | zero=>exact cV.elim
    | succ k2=>exact ⟨k2,rfl⟩
  obtain ⟨ya,yc,lh,mh⟩:=cV;have kL:=hN k2;have ml:=aJ.parts.1.at_ bK;have DO:=AZ bK;have da:=mE y t.g;have lM:=da.hi;have lN:=da.gu;have yK:=da.lo;have A6:=vx x.body (aq ⟨12,0,0⟩ 1 0 (aj y t.g));have sg:=A6.hi;have oz:=A6.gu;have CV:=A6.lo
  try simp only [bO] at sg oz CV
  have Tn:=vx x.other (ct ((aj y t.g).code.length) (aq ⟨11,0,0⟩ 1 0 (bG x.body (aq ⟨12,0,0⟩ 1 0 (aj y t.g)))));have ho1:=Tn.hi;have uL:=Tn.gu;have ho3:=Tn.lo
  try simp only [bO] at ho1 uL ho3
  refine Cr (aa O (V0 (Yf pG O) (V0 (Yd 0 O O O jy) (V0 (Yo (i:=0) fR O O eX (by omega)) (V0 (cJ 0 la O O O (lh)) (Lf 3 O (Lf 3 O ?_)))))));refine Lf 3 O ?_;refine Lw (ι:=SP×SP) [_,_,_] _ Y O qN O O (λ_=>.tuple #[]) (λq=>(aV 157 108 112 sb K ⟨aj y t.g,q.1,q.2⟩)) (λ_=>True) [H] (by simp) (λw hw=>(kL y ya yc t w mh ml (by show (t.g).code.length+8*dm y<=_; (try simp only [bO]); omega) (by show (t.g).fix.length+8*dm y<=_; (try simp only [bO]); omega) hw).mono λe w' ⟨q,h1,h2⟩=>⟨q,h1,trivial,h2⟩) ?_;intro KI _;refine ab (ad (aa O ?_));refine Lw (ι:=(SP×SP)×Nat×Nat) [_,_,_] _ Y O A0 O O (λq=>.func (.func 254) #[] #[.pointer (some ⟨q.2.1,0,none⟩),.pointer (some ⟨q.2.2,0,none⟩)]) (λq=>(aV 157 108 112 sb K ⟨aq ⟨12,0,0⟩ 1 0 (aj y t.g),q.1.1,q.1.2⟩)++[ah q.2.1 (.cells #[.pointer (some ⟨sb,0,none⟩)] 155 (0,0)),ah q.2.2 (.cells #[.int .i64 ((aj y t.g).code.length:Int)] 3 (0,0))]) (λ_=>True) [] (by simp) (λw hw=>(AY sb K (⟨(aj y t.g),KI.1,KI.2⟩:a8) 12 w (by show ((aj y t.g)).code.length+1<=_; (try simp only [bO]); omega) (by show ((aj y t.g)).fix.length+1<=_; (try simp only [bO]); omega) hw).mono λe w' ⟨q,h1,h2⟩=>⟨q,h1,trivial,h2⟩) ?_;intro px _;refine ae O (ab (ad (aa O (V0 (Yf AN O) (V0 (Yd 5 O O O jO) ?_)))));refine Lw (ι:=SP×SP) [_,_,_] _ Y O ME O O (λ_=>.tuple #[]) (λq=>(aV 157 108 112 sb K ⟨bG x.body (aq ⟨12,0,0⟩ 1 0 (aj y t.g)),q.1,q.2⟩)) (λ_=>True) [H] (by simp) (λw hw=>(hA x.body r.s2.1 r.s2.2 (⟨(aq ⟨12,0,0⟩ 1 0 (aj y t.g)),px.1.1,px.1.2⟩:a8) w h2 (aJ.parts.2.1 (by omega)) (by show ((aq ⟨12,0,0⟩ 1 0 (aj y t.g))).code.length+8*dP x.body<=_; (try simp only [bO]); omega) (by show ((aq ⟨12,0,0⟩ 1 0 (aj y t.g))).fix.length+8*dP x.body<=_; (try simp only [bO]); omega) hw).mono λe w' ⟨q,h1,h2⟩=>⟨q,h1,trivial,h2⟩) ?_;intro uO _;refine ab (Cs (ad (V0 (Yf wJ O) (V0 (Yd 5 O O O jO) (V0 (Yn gZ O) (V0 (cI O O) (ab ?_)))))));refine Cc O (λcU=>?_) (λcU=>?_)
  ·have oA:0<x.other.length:=by simpa using cU
   refine ad (aa O ?_);refine Lw (ι:=(SP×SP)×Nat×Nat) [_,_,_] _ Y O A0 O O (λq=>.func (.func 254) #[] #[.pointer (some ⟨q.2.1,0,none⟩),.pointer (some ⟨q.2.2,0,none⟩)]) (λq=>(aV 157 108 112 sb K ⟨aq ⟨11,0,0⟩ 1 0 (bG x.body (aq ⟨12,0,0⟩ 1 0 (aj y t.g))),q.1.1,q.1.2⟩)++[ah q.2.1 (.cells #[.pointer (some ⟨sb,0,none⟩)] 155 (0,0)),ah q.2.2 (.cells #[.int .i64 ((bG x.body (aq ⟨12,0,0⟩ 1 0 (aj y t.g))).code.length:Int)] 3 (0,0))]) (λ_=>True) [] (by simp) (λw hw=>(AY sb K (⟨(bG x.body (aq ⟨12,0,0⟩ 1 0 (aj y t.g))),uO.1,uO.2⟩:a8) 11 w (by show ((bG x.body (aq ⟨12,0,0⟩ 1 0 (aj y t.g)))).code.length+1<=_; (try simp only [bO]); omega) (by show ((bG x.body (aq ⟨12,0,0⟩ 1 0 (aj y t.g)))).fix.length+1<=_; (try simp only [bO]); omega) hw).mono λe w' ⟨q,h1,h2⟩=>⟨q,h1,trivial,h2⟩) ?_;intro qP _;refine ae O (ab (ad (aa O (Lf 6 O (Lf 6 O (Lf 4 O (Lf 4 O (Lf 4 O ?_))))))));refine WL.xS (ι:=Unit) [_,_,_,_,_] _ Y O yJ O O O (λ_=>.tuple #[]) (λ_=>(aV 157 108 112 sb K ⟨ct ((aj y t.g).code.length) (aq ⟨11,0,0⟩ 1 0 (bG x.body (aq ⟨12,0,0⟩ 1 0 (aj y t.g)))),(⟨(aq ⟨11,0,0⟩ 1 0 (bG x.body (aq ⟨12,0,0⟩ 1 0 (aj y t.g)))),qP.1.1,qP.1.2⟩:a8).ca,(⟨(aq ⟨11,0,0⟩ 1 0 (bG x.body (aq ⟨12,0,0⟩ 1 0 (aj y t.g)))),qP.1.1,qP.1.2⟩:a8).fa⟩)++[ah px.2.1 (.cells #[.pointer (some ⟨sb,0,none⟩)] 155 (0,0)),ah px.2.2 (.cells #[.int .i64 ((aj y t.g).code.length:Int)] 3 (0,0))]) (λ_=>True) [] (by simp) (λw hw=>(yI sb K (⟨(aq ⟨11,0,0⟩ 1 0 (bG x.body (aq ⟨12,0,0⟩ 1 0 (aj y t.g)))),qP.1.1,qP.1.2⟩:a8) px.2.1 px.2.2 ((aj y t.g).code.length) _ w (List.getElem?_eq_getElem (by show (aj y t.g).code.length<((aq ⟨11,0,0⟩ 1 0 (bG x.body (aq ⟨12,0,0⟩ 1 0 (aj y t.g))))).code.length; (try simp only [bO]); omega)) hw).mono λe w' h=>⟨(),h.1,trivial,h.2⟩) ?_;intro _ _;refine ab (ad (aa O (V0 (Yf wJ O) (V0 (Yd 7 O O O jO) ?_))));refine Lw (ι:=SP×SP) [_,_,_] _ Y O ME O O (λ_=>.tuple #[]) (λq=>(aV 157 108 112 sb K ⟨bG x.other (ct ((aj y t.g).code.length) (aq ⟨11,0,0⟩ 1 0 (bG x.body (aq ⟨12,0,0⟩ 1 0 (aj y t.g))))),q.1,q.2⟩)) (λ_=>True) [H] (by simp) (λw hw=>(hA x.other r.s3.1 r.s3.2 (⟨(ct ((aj y t.g).code.length) (aq ⟨11,0,0⟩ 1 0 (bG x.body (aq ⟨12,0,0⟩ 1 0 (aj y t.g))))),qP.1.1,qP.1.2⟩:a8) w h3 aJ.parts.2.2.1 (by show ((ct ((aj y t.g).code.length) (aq ⟨11,0,0⟩ 1 0 (bG x.body (aq ⟨12,0,0⟩ 1 0 (aj y t.g)))))).code.length+8*dP x.other<=_; (try simp only [bO]); omega) (by show ((ct ((aj y t.g).code.length) (aq ⟨11,0,0⟩ 1 0 (bG x.body (aq ⟨12,0,0⟩ 1 0 (aj y t.g)))))).fix.length+8*dP x.other<=_; (try simp only [bO]); omega) hw).mono λe w' ⟨q,h1,h2⟩=>⟨q,h1,trivial,h2⟩) ?_;intro yL _;refine ab (Cr (aa O (ae O (ab (Cr (aa O (Lf 6 O (Lf 6 O (Lf 4 O ?_)))))))));refine Lf 4 O (Lf 4 O ?_)
   refine WL.xS (ι:=Unit) [_,_,_,_,_] _ Y O yJ O O O (λ_=>.tuple #[]) (λ_=>(aV 157 108 112 sb K ⟨ct ((bG x.body (aq ⟨12,0,0⟩ 1 0 (aj y t.g))).code.length) (bG x.other (ct ((aj y t.g).code.length) (aq ⟨11,0,0⟩ 1 0 (bG x.body (aq ⟨12,0,0⟩ 1 0 (aj y t.g)))))),(⟨(bG x.other (ct ((aj y t.g).code.length) (aq ⟨11,0,0⟩ 1 0 (bG x.body (aq ⟨12,0,0⟩ 1 0 (aj y t.g)))))),yL.1,yL.2⟩:a8).ca,(⟨(bG x.other (ct ((aj y t.g).code.length) (aq ⟨11,0,0⟩ 1 0 (bG x.body (aq ⟨12,0,0⟩ 1 0 (aj y t.g)))))),yL.1,yL.2⟩:a8).fa⟩)++[ah qP.2.1 (.cells #[.pointer (some ⟨sb,0,none⟩)] 155 (0,0)),ah qP.2.2 (.cells #[.int .i64 ((bG x.body (aq ⟨12,0,0⟩ 1 0 (aj y t.g))).code.length:Int)] 3 (0,0))]) (λ_=>True) [] (by simp) (λw hw=>(yI sb K (⟨(bG x.other (ct ((aj y t.g).code.length) (aq ⟨11,0,0⟩ 1 0 (bG x.body (aq ⟨12,0,0⟩ 1 0 (aj y t.g)))))),yL.1,yL.2⟩:a8) qP.2.1 qP.2.2 ((bG x.body (aq ⟨12,0,0⟩ 1 0 (aj y t.g))).code.length) _ w (List.getElem?_eq_getElem (by show (bG x.body (aq ⟨12,0,0⟩ 1 0 (aj y t.g))).code.length<((bG x.other (ct ((aj y t.g).code.length) (aq ⟨11,0,0⟩ 1 0 (bG x.body (aq ⟨12,0,0⟩ 1 0 (aj y t.g))))))).code.length; (try simp only [bO]); omega)) hw).mono λe w' h=>⟨(),h.1,trivial,h.2⟩) ?_;intro _ _;refine Ln (Eb ?_);refine E0 O λw' hw=>?_
   have hr:l4 x t.g=ct ((bG x.body (aq ⟨12,0,0⟩ 1 0 (aj y t.g))).code.length) (bG x.other (ct ((aj y t.g).code.length) (aq ⟨11,0,0⟩ 1 0 (bG x.body (aq ⟨12,0,0⟩ 1 0 (aj y t.g)))))):=by
     rw [vw,p7,if_neg dJ,if_neg eI,if_neg jv,if_pos ho,oo bK];unfold Jy;rw [if_pos oA]
   rw [hr];exact ⟨(yL.1,yL.2),O,Wt 3 hw⟩
  have oA:¬0<x.other.length:=by simpa using cU
  refine aE (Cr (aa O ?_));refine WL.xS (ι:=Unit) [_,_,_,_,_] _ Y O yJ O O O (λ_=>.tuple #[]) (λ_=>(aV 157 108 112 sb K ⟨ct ((aj y t.g).code.length) (bG x.body (aq ⟨12,0,0⟩ 1 0 (aj y t.g))),(⟨(bG x.body (aq ⟨12,0,0⟩ 1 0 (aj y t.g))),uO.1,uO.2⟩:a8).ca,(⟨(bG x.body (aq ⟨12,0,0⟩ 1 0 (aj y t.g))),uO.1,uO.2⟩:a8).fa⟩)++[ah px.2.1 (.cells #[.pointer (some ⟨sb,0,none⟩)] 155 (0,0)),ah px.2.2 (.cells #[.int .i64 ((aj y t.g).code.length:Int)] 3 (0,0))]) (λ_=>True) [] (by simp) (λw hw=>(yI sb K (⟨(bG x.body (aq ⟨12,0,0⟩ 1 0 (aj y t.g))),uO.1,uO.2⟩:a8) px.2.1 px.2.2 ((aj y t.g).code.length) _ w (List.getElem?_eq_getElem (by show (aj y t.g).code.length<((bG x.body (aq ⟨12,0,0⟩ 1 0 (aj y t.g)))).code.length; (try simp only [bO]); omega)) hw).mono λe w' h=>⟨(),h.1,trivial,h.2⟩) ?_;intro _ _;refine Ln (Eb ?_);refine E0 O λw' hw=>?_
  have hr:l4 x t.g=ct ((aj y t.g).code.length) (bG x.body (aq ⟨12,0,0⟩ 1 0 (aj y t.g))):=by
    rw [vw,p7,if_neg dJ,if_neg eI,if_neg jv,if_pos ho,oo bK];unfold Jy;rw [if_neg oA]
  rw [hr];exact ⟨(uO.1,uO.2),O,Wt 3 hw⟩
 have mf:¬x.op=4:=by simpa using bC
 refine ad (V0 (aW O O) (ae O (ab ?_)));refine Cc O (λdb=>?_) (λdb=>?_)
 ·have ho:x.op=5:=by simpa using db
  refine ad (aa O (V0 (bD O) (V0 (Yf mU O) (V0 (Yf mV O) (V0 (Yd 1 O O O kb) (V0 (Yn kf O) (ae O ?_)))))));refine ab (Cs ?_);have zU:=aJ.parts.2.2.2.1 (by omega);obtain ⟨y,bK⟩:∃y,x.args[0]? = some y:=⟨_,List.getElem?_eq_getElem (by omega)⟩;obtain ⟨jK,jL,eX,cV⟩:=h1.aS 0 y bK
  obtain ⟨k2,rfl⟩:∃k2,ke=k2+1:=by
    cases ke with
    | zero=>exact cV.elim
    | succ k2=>exact ⟨k2,rfl⟩
  obtain ⟨ya,yc,lh,mh⟩:=cV;have kL:=hN k2;have ml:=aJ.parts.1.at_ bK;have DO:=AZ bK;have da:=mE y t.g;have lM:=da.hi;have lN:=da.gu;have yK:=da.lo;have A6:=vx x.body (aM [⟨16,0,0⟩] (aq ⟨12,0,0⟩ 1 0 (aj y t.g)));have sg:=A6.hi;have oz:=A6.gu;have CV:=A6.lo
  try simp only [bO] at sg oz CV
  refine Cr (aa O (V0 (Yf pG O) (V0 (Yd 0 O O O jy) (V0 (Yo (i:=0) fR O O eX (by omega)) (V0 (cJ 0 la O O O (lh)) (Lf 3 O (Lf 3 O ?_)))))));refine Lf 3 O ?_;refine Lw (ι:=SP×SP) [_,_,_] _ Y O qN O O (λ_=>.tuple #[]) (λq=>(aV 157 108 112 sb K ⟨aj y t.g,q.1,q.2⟩)) (λ_=>True) [H] (by simp) (λw hw=>(kL y ya yc t w mh ml (by show (t.g).code.length+8*dm y<=_; (try simp only [bO]); omega) (by show (t.g).fix.length+8*dm y<=_; (try simp only [bO]); omega) hw).mono λe w' ⟨q,h1,h2⟩=>⟨q,h1,trivial,h2⟩) ?_;intro adq _;refine ab (ad (aa O ?_));refine Lw (ι:=(SP×SP)×Nat×Nat) [_,_,_] _ Y O A0 O O (λq=>.func (.func 254) #[] #[.pointer (some ⟨q.2.1,0,none⟩),.pointer (some ⟨q.2.2,0,none⟩)]) (λq=>(aV 157 108 112 sb K ⟨aq ⟨12,0,0⟩ 1 0 (aj y t.g),q.1.1,q.1.2⟩)++[ah q.2.1 (.cells #[.pointer (some ⟨sb,0,none⟩)] 155 (0,0)),ah q.2.2 (.cells #[.int .i64 ((aj y t.g).code.length:Int)] 3 (0,0))]) (λ_=>True) [] (by simp) (λw hw=>(AY sb K (⟨(aj y t.g),adq.1,adq.2⟩:a8) 12 w (by show ((aj y t.g)).code.length+1<=_; (try simp only [bO]); omega) (by show ((aj y t.g)).fix.length+1<=_; (try simp only [bO]); omega) hw).mono λe w' ⟨q,h1,h2⟩=>⟨q,h1,trivial,h2⟩) ?_;intro jP _;refine ae O (ab (ad (aa O (V0 (Yb gA g_ O O) ?_))));refine Lb Y O iL O O O O λTj=>?_;refine WL.kq (rd:=fK) (f:=aU.cells) (k:=3) (m:=1) 0 [⟨16,0,0⟩] O O aU.bq (λ_ _ _ _ h=>h) (by simp) (by decide) λHP Tl=>?_;refine Lw (ι:=SP) [_,_,_] _ Y O lf O O (λ_=>.tuple #[]) (λq=>(aV 157 108 112 sb K ⟨aM [⟨16,0,0⟩] (⟨(aq ⟨12,0,0⟩ 1 0 (aj y t.g)),jP.1.1,jP.1.2⟩:a8).g,q,(⟨(aq ⟨12,0,0⟩ 1 0 (aj y t.g)),jP.1.1,jP.1.2⟩:a8).fa⟩)) (λ_=>True) [HP] (by simp) (λw hw=>(lg sb K (⟨(aq ⟨12,0,0⟩ 1 0 (aj y t.g)),jP.1.1,jP.1.2⟩:a8) HP (some ⟨Tj,0,none⟩) 1 [⟨16,0,0⟩] w Tl (by show ((aq ⟨12,0,0⟩ 1 0 (aj y t.g))).code.length+[⟨16,0,0⟩].length<=_; (try simp only [bO]); omega) hw).mono λe w' ⟨q,h1,h2⟩=>⟨q,h1,trivial,h2⟩) ?_;intro DP _;refine ab (ad (aa O (V0 (Yf AN O) (V0 (Yd 5 O O O jO) ?_))));refine Lw (ι:=SP×SP) [_,_,_] _ Y O ME O O (λ_=>.tuple #[]) (λq=>(aV 157 108 112 sb K ⟨bG x.body (aM [⟨16,0,0⟩] (aq ⟨12,0,0⟩ 1 0 (aj y t.g))),q.1,q.2⟩)) (λ_=>True) [H] (by simp) (λw hw=>(hA x.body r.s2.1 r.s2.2 (⟨(aM [⟨16,0,0⟩] (aq ⟨12,0,0⟩ 1 0 (aj y t.g))),DP,jP.1.2⟩:a8) w h2 (aJ.parts.2.1 (by omega)) (by show ((aM [⟨16,0,0⟩] (aq ⟨12,0,0⟩ 1 0 (aj y t.g)))).code.length+8*dP x.body<=_; (try simp only [bO]); omega) (by show ((aM [⟨16,0,0⟩] (aq ⟨12,0,0⟩ 1 0 (aj y t.g)))).fix.length+8*dP x.body<=_; (try simp only [bO]); omega) hw).mono λe w' ⟨q,h1,h2⟩=>⟨q,h1,trivial,h2⟩) ?_;intro adr _;refine ab (ad (aa O (aa O (V0 (Yb gA g_ O O) ?_))));refine Lw (ι:=SP×SP) [_,_,_] _ Y O DL O O (λ_=>.int .i64 ((bG x.body (aM [⟨16,0,0⟩] (aq ⟨12,0,0⟩ 1 0 (aj y t.g)))).code.length:Int)) (λq=>(aV 157 108 112 sb K ⟨aq ⟨11,(t.g.code.length:Int),0⟩ 1 0 (bG x.body (aM [⟨16,0,0⟩] (aq ⟨12,0,0⟩ 1 0 (aj y t.g)))),q.1,q.2⟩)) (λ_=>True) [] (by simp) (λw hw=>(DM sb K (⟨(bG x.body (aM [⟨16,0,0⟩] (aq ⟨12,0,0⟩ 1 0 (aj y t.g)))),adr.1,adr.2⟩:a8)  ⟨11,(t.g.code.length:Int),0⟩ 1 0 w  (by show ((bG x.body (aM [⟨16,0,0⟩] (aq ⟨12,0,0⟩ 1 0 (aj y t.g))))).code.length+1<=_; (try simp only [bO]); omega) (by show ((bG x.body (aM [⟨16,0,0⟩] (aq ⟨12,0,0⟩ 1 0 (aj y t.g))))).fix.length+1<=_; (try simp only [bO]); omega) hw).mono λe w' ⟨q,h1,h2⟩=>⟨q,h1,trivial,h2⟩) ?_
  intro mW _;refine ab (Cr (aa O ?_));refine WL.xS (ι:=Unit) [_,_,_,_,_] _ Y O yJ O O O (λ_=>.tuple #[]) (λ_=>(aV 157 108 112 sb K ⟨ct ((aj y t.g).code.length) (aq ⟨11,(t.g.code.length:Int),0⟩ 1 0 (bG x.body (aM [⟨16,0,0⟩] (aq ⟨12,0,0⟩ 1 0 (aj y t.g))))),(⟨(aq ⟨11,(t.g.code.length:Int),0⟩ 1 0 (bG x.body (aM [⟨16,0,0⟩] (aq ⟨12,0,0⟩ 1 0 (aj y t.g))))),mW.1,mW.2⟩:a8).ca,(⟨(aq ⟨11,(t.g.code.length:Int),0⟩ 1 0 (bG x.body (aM [⟨16,0,0⟩] (aq ⟨12,0,0⟩ 1 0 (aj y t.g))))),mW.1,mW.2⟩:a8).fa⟩)++[ah jP.2.1 (.cells #[.pointer (some ⟨sb,0,none⟩)] 155 (0,0)),ah jP.2.2 (.cells #[.int .i64 ((aj y t.g).code.length:Int)] 3 (0,0))]) (λ_=>True) [] (by simp) (λw hw=>(yI sb K (⟨(aq ⟨11,(t.g.code.length:Int),0⟩ 1 0 (bG x.body (aM [⟨16,0,0⟩] (aq ⟨12,0,0⟩ 1 0 (aj y t.g))))),mW.1,mW.2⟩:a8) jP.2.1 jP.2.2 ((aj y t.g).code.length) _ w (List.getElem?_eq_getElem (by show (aj y t.g).code.length<((aq ⟨11,(t.g.code.length:Int),0⟩ 1 0 (bG x.body (aM [⟨16,0,0⟩] (aq ⟨12,0,0⟩ 1 0 (aj y t.g)))))).code.length; (try simp only [bO]); omega)) hw).mono λe w' h=>⟨(),h.1,trivial,h.2⟩) ?_;intro _ _;refine Ln (Eb ?_);refine E0 O λw' hw=>?_
  have hr:l4 x t.g=ct ((aj y t.g).code.length) (aq ⟨11,(t.g.code.length:Int),0⟩ 1 0 (bG x.body (aM [⟨16,0,0⟩] (aq ⟨12,0,0⟩ 1 0 (aj y t.g))))):=by
    rw [vw,p7,if_neg dJ,if_neg eI,if_neg jv,if_neg mf,if_pos ho,oo bK]
    rfl
  rw [hr];exact ⟨(mW.1,mW.2),O,Wv 1 (Wt 3 hw)⟩
 have qM:¬x.op=5:=by simpa using db
 refine ad (V0 (aW O O) (ae O (ab ?_)));refine Cc O (λej=>?_) (λej=>?_)
 ·have ho:x.op=6:=by simpa using ej
  refine Cs ?_;have zU:=aJ.parts.2.2.2.1 (by omega);obtain ⟨y,bK⟩:∃y,x.args[0]? = some y:=⟨_,List.getElem?_eq_getElem (by omega)⟩;obtain ⟨jK,jL,eX,cV⟩:=h1.aS 0 y bK
  obtain ⟨k2,rfl⟩:∃k2,ke=k2+1:=by
    cases ke with
    | zero=>exact cV.elim
    | succ k2=>exact ⟨k2,rfl⟩
  obtain ⟨ya,yc,lh,mh⟩:=cV;have kL:=hN k2;have ml:=aJ.parts.1.at_ bK;have DO:=AZ bK;have da:=mE y t.g;have lM:=da.hi;have lN:=da.gu;have yK:=da.lo;refine Cr (aa O (V0 (Yf pG O) (V0 (Yd 0 O O O jy) (V0 (Yo (i:=0) fR O O eX (by omega)) (V0 (cJ 0 la O O O (lh)) (Lf 3 O (Lf 3 O ?_)))))));refine Lf 3 O ?_;refine Lw (ι:=SP×SP) [_,_,_] _ Y O qN O O (λ_=>.tuple #[]) (λq=>(aV 157 108 112 sb K ⟨aj y t.g,q.1,q.2⟩)) (λ_=>True) [H] (by simp) (λw hw=>(kL y ya yc t w mh ml (by show (t.g).code.length+8*dm y<=_; (try simp only [bO]); omega) (by show (t.g).fix.length+8*dm y<=_; (try simp only [bO]); omega) hw).mono λe w' ⟨q,h1,h2⟩=>⟨q,h1,trivial,h2⟩) ?_;intro A7 _;refine ab (Cr (aa O (V0 (Yb gA g_ O O) ?_)));refine Lb Y O iL O O O O λath=>?_;refine WL.kq (rd:=fK) (f:=aU.cells) (k:=3) (m:=1) 0 [⟨15,0,0⟩] O O aU.bq (λ_ _ _ _ h=>h) (by simp) (by decide) λads ati=>?_;refine Lw (ι:=SP) [_,_,_] _ Y O lf O O (λ_=>.tuple #[]) (λq=>(aV 157 108 112 sb K ⟨aM [⟨15,0,0⟩] (⟨(aj y t.g),A7.1,A7.2⟩:a8).g,q,(⟨(aj y t.g),A7.1,A7.2⟩:a8).fa⟩)) (λ_=>True) [ads] (by simp) (λw hw=>(lg sb K (⟨(aj y t.g),A7.1,A7.2⟩:a8) ads (some ⟨ath,0,none⟩) 1 [⟨15,0,0⟩] w ati (by show ((aj y t.g)).code.length+[⟨15,0,0⟩].length<=_; (try simp only [bO]); omega) hw).mono λe w' ⟨q,h1,h2⟩=>⟨q,h1,trivial,h2⟩) ?_;intro atj _;refine Ln (Eb ?_);refine E0 O λw' hw=>?_
  have hr:l4 x t.g=aM [⟨15,0,0⟩] (aj y t.g):=by
    rw [vw,p7,if_neg dJ,if_neg eI,if_neg jv,if_neg mf,if_neg qM,if_pos ho,oo bK]
  rw [hr];exact ⟨(atj,A7.2),O,Wv 1 (Wt 3 hw)⟩
 have yD:¬x.op=6:=by simpa using ej
 refine ad (V0 (aW O O) (ae O (ab ?_)));refine Cc O (λiY=>?_) (λiY=>?_)
 ·have ho:x.op=7:=by simpa using iY
  refine Cs ?_;have zU:=aJ.parts.2.2.2.1 (by omega);obtain ⟨y,bK⟩:∃y,x.args[0]? = some y:=⟨_,List.getElem?_eq_getElem (by omega)⟩;obtain ⟨jK,jL,eX,cV⟩:=h1.aS 0 y bK
  obtain ⟨k2,rfl⟩:∃k2,ke=k2+1:=by
    cases ke with
    | zero=>exact cV.elim
    | succ k2=>exact ⟨k2,rfl⟩
  obtain ⟨ya,yc,lh,mh⟩:=cV;have kL:=hN k2;have ml:=aJ.parts.1.at_ bK;have DO:=AZ bK;have da:=mE y t.g;have lM:=da.hi;have lN:=da.gu;have yK:=da.lo;refine Cr (aa O (V0 (Yf pG O) (V0 (Yd 0 O O O jy) (V0 (Yo (i:=0) fR O O eX (by omega)) (V0 (cJ 0 la O O O (lh)) (Lf 3 O (Lf 3 O ?_)))))));refine Lf 3 O ?_;refine Lw (ι:=SP×SP) [_,_,_] _ Y O qN O O (λ_=>.tuple #[]) (λq=>(aV 157 108 112 sb K ⟨aj y t.g,q.1,q.2⟩)) (λ_=>True) [H] (by simp) (λw hw=>(kL y ya yc t w mh ml (by show (t.g).code.length+8*dm y<=_; (try simp only [bO]); omega) (by show (t.g).fix.length+8*dm y<=_; (try simp only [bO]); omega) hw).mono λe w' ⟨q,h1,h2⟩=>⟨q,h1,trivial,h2⟩) ?_;intro A8 _;refine ab (Cr (aa O (V0 (Yb gA g_ O O) ?_)));refine Lb Y O iL O O O O λatk=>?_;refine WL.kq (rd:=fK) (f:=aU.cells) (k:=3) (m:=1) 0 [⟨19,0,0⟩] O O aU.bq (λ_ _ _ _ h=>h) (by simp) (by decide) λadt atl=>?_;refine Lw (ι:=SP) [_,_,_] _ Y O lf O O (λ_=>.tuple #[]) (λq=>(aV 157 108 112 sb K ⟨aM [⟨19,0,0⟩] (⟨(aj y t.g),A8.1,A8.2⟩:a8).g,q,(⟨(aj y t.g),A8.1,A8.2⟩:a8).fa⟩)) (λ_=>True) [adt] (by simp) (λw hw=>(lg sb K (⟨(aj y t.g),A8.1,A8.2⟩:a8) adt (some ⟨atk,0,none⟩) 1 [⟨19,0,0⟩] w atl (by show ((aj y t.g)).code.length+[⟨19,0,0⟩].length<=_; (try simp only [bO]); omega) hw).mono λe w' ⟨q,h1,h2⟩=>⟨q,h1,trivial,h2⟩) ?_;intro atm _;refine Ln (Eb ?_);refine E0 O λw' hw=>?_
  have hr:l4 x t.g=aM [⟨19,0,0⟩] (aj y t.g):=by
    rw [vw,p7,if_neg dJ,if_neg eI,if_neg jv,if_neg mf,if_neg qM,if_neg yD,if_pos ho,oo bK]
  rw [hr];exact ⟨(atm,A8.2),O,Wv 1 (Wt 3 hw)⟩
 exfalso
 have C0:¬x.op=7:=by simpa using iY
 have gD:=aJ.parts.2.2.2.2.2;omega
theorem atn (sb:Nat) (K:gV) (t:a8) (H:View) (ke k:Nat) (l:List cA) (a:Option Addr) (c:Nat) (w:World) (hl:Sl (iP ke k) 7 H a c l) (aJ:tv l) (hb:t.g.code.length+8*dP l<=1000000000000) (wR:t.g.fix.length+8*dP l<=1000000000000) (hw:Ws w (List.flatMap ao.ids (aV 157 108 112 sb K t)) (aV 157 108 112 sb K t) [H] w) :
   Calls Tryz.prog 141 #[.pointer (some ⟨sb,0,none⟩),.slice a l.length c] w λe w'=>∃q:SP×SP,e = .returned (.tuple #[])/\Ws w (List.flatMap ao.ids (aV 157 108 112 sb K t)) (aV 157 108 112 sb K ⟨bG l t.g,q.1,q.2⟩) [H] w':=by
 induction k using Nat.strongRecOn generalizing l a c t w
 rename_i k ih;have dR:=hl.cap;have eQ:=hl.max;refine enter Tryz.func141 O 16 O O ?_;refine CE hw (ad (aa O (V0 (Yn gZ O) (aa O (ab (Cb ?_))))));refine cq (ι:=Nat×SP×SP) (λg=>[(8,.int .i64 (g.1:Int))]) [(0,_),(6,_),(7,_)] (λg=>Ws w (List.flatMap ao.ids (aV 157 108 112 sb K t)) (aV 157 108 112 sb K ⟨bG (l.take g.1) t.g,g.2.1,g.2.2⟩) [H]) (λg=>g.1<=l.length) (λg=>l.length-g.1) (0,t.ca,t.fa) (Nat.zero_le _) (sc O (sc O (sc O (sc O sn)))) (λ_ h=>h) ?_;intro g oP;refine ad (V0 (bj O O) (ab (Cs ?_)));refine Cc O (λai=>?_) (λai=>?_)
 ·have av:g.1<l.length:=by simpa using ai
  obtain ⟨x,bn⟩:∃q,l[g.1]? = some q:=⟨_,List.getElem?_eq_getElem av⟩;obtain ⟨dW,dX,dZ,cg⟩:=hl.aS g.1 x bn
  obtain ⟨k2,rfl⟩:∃k2,k=k2+1:=by
    cases k with
    | zero=>exact cg.elim
    | succ k2=>exact ⟨k2,rfl⟩
  obtain ⟨r,cw,h1,h2,h3⟩:=cg;have hww:=W1 bn;have da:=vx (l.take g.1) t.g;have lM:=da.hi;have lN:=da.gu;have hA:adl H sb K ke k2:=λl a c t w h1 h2 h3 h4 h5=>ih k2 (by omega) t l a c w h1 h2 h3 h4 h5;refine aE (Cs (Cb (ad (V0 (Yo gZ O O dZ av) (V0 (cJ 0 Dt O O O (cw)) ?_)))));refine Al Y O Hl λb5=>?_;refine an 0 Y O O O L9 O O O (ab (fg 0 (.cells (vn x r).toArray 205 (0,0)) O O (Cr (aa O (V0 (bk 0 O O Dt O) (Lf 3 O (Lf 3 O ?_)))))));refine Lf 3 O ?_;refine Lw (ι:=SP×SP) [_,_,_] _ Y O as' O O (λ_=>.tuple #[]) (λq=>(aV 157 108 112 sb K ⟨l4 x (bG (l.take g.1) t.g),q.1,q.2⟩)) (λ_=>True) [H] (by simp) (λw hw=>(as_ sb K (⟨bG (l.take g.1) t.g,g.2.1,g.2.2⟩:a8) H ke k2 x r w hA h1 h2 h3 (aJ.at_ bn) (by show (bG (l.take g.1) t.g).code.length+8*o6 x<=_; omega) (by show (bG (l.take g.1) t.g).fix.length+8*o6 x<=_; omega) hw).mono λe w' ⟨q,h1,h2⟩=>⟨q,h1,trivial,h2⟩) ?_;intro lE _;refine Ln (Eb (Et (Cr (V0 (Yi O O O (by omega)) (aa O (Ln ?_))))));rw [<-ah9 bn];exact Ea ((g.1+1,lE):Nat×SP×SP) (by show _-(g.1+1)<_; omega) (by show g.1+1<=_; omega) (sc O (sc O (sc O (sc O sn)))) (λ_ h=>(Wt 3 h:))
 have bP:g.1=l.length:=by simp at ai; omega
 rw [bP,List.take_length];refine Ce (Ex (Ex (bA ?_)));refine E0 O λw' hw=>?_;exact ⟨g.2,O,hw⟩
theorem To (sb:Nat) (K:gV) (t:a8) (H:View) (ke k:Nat) (params locals:Int) (l:List cA) (a:Option Addr) (c:Nat) (w:World) (hl:Sl (iP ke k) 7 H a c l) (aJ:tv l) (hb:t.g.code.length+8*(1+dP l)<=1000000000000) (wR:t.g.fix.length+8*(1+dP l)<=1000000000000) (hw:Ws w (List.flatMap ao.ids (aV 157 108 112 sb K t)) (aV 157 108 112 sb K t) [H] w) :
   Calls Tryz.prog 79 #[.pointer (some ⟨sb,0,none⟩),.agg (BV ⟨params,locals,l⟩ (a,c)).toArray] w λe w'=>∃q:SP×SP,e = .returned (.int .i64 (t.g.code.length:Int))/\Ws w (List.flatMap ao.ids (aV 157 108 112 sb K t)) (aV 157 108 112 sb K ⟨mD params locals l t.g,q.1,q.2⟩) [H] w':=by
 have da:=vx l (aM [⟨14,params,locals⟩] t.g);have lM:=da.hi;have lN:=da.gu;simp only [bO] at lM lN;refine enter Tryz.func79 O 30 O O ?_;refine CE hw (ad ?_);refine WL.box Y O O λb3=>?_;refine ae O (ab (ad (aa O (V0 (bD O) (V0 (Yf mU O) (V0 (Yf mV O) (V0 (Yd 1 O O O kb) (V0 (Yn kf O) ?_))))))));refine ae O (ab (ad (aa O (V0 (Yf AT O) (V0 (Yd 0 O O O ar) (V0 (Yf DC O) (V0 (Yd 0 O O O ar) (V0 (Yb gA g_ O O) ?_))))))));refine Lb Y O iL O O O O λck=>?_;refine WL.kq (rd:=fK) (f:=aU.cells) (k:=3) (m:=1) 0 [⟨14,params,locals⟩] O O aU.bq (λ_ _ _ _ h=>h) (by simp) (by decide) λyo GG=>?_;refine Lf 3 O (Lf 3 O (Lf 3 O ?_));refine Lw (ι:=SP) [_,_,_] _ Y O lf O O (λ_=>.tuple #[]) (λq=>(aV 157 108 112 sb K ⟨aM [⟨14,params,locals⟩] t.g,q,t.fa⟩)) (λ_=>True) [yo] (by simp) (λw hw=>(lg sb K t yo (some ⟨ck,0,none⟩) 1 [⟨14,params,locals⟩] w GG (by show (t.g).code.length+[⟨14,params,locals⟩].length<=_; (try simp only [bO]); omega) hw).mono λe w' ⟨q,h1,h2⟩=>⟨q,h1,trivial,h2⟩) ?_;intro kG _;refine ab (ad (aa O (V0 (Yf Mm O) (V0 (Yd 3 O O O jO) ?_))));refine Lw (ι:=SP×SP) [_,_,_] _ Y O ME O O (λ_=>.tuple #[]) (λq=>(aV 157 108 112 sb K ⟨bG l (aM [⟨14,params,locals⟩] t.g),q.1,q.2⟩)) (λ_=>True) [H] (by simp) (λw hw=>((λl a c t w h1 h2 h3 h4 h5=>atn sb K t H ke k l a c w h1 h2 h3 h4 h5) l a c (⟨(aM [⟨14,params,locals⟩] t.g),kG,t.fa⟩:a8) w hl aJ (by show ((aM [⟨14,params,locals⟩] t.g)).code.length+8*dP l<=_; (try simp only [bO]); omega) (by show ((aM [⟨14,params,locals⟩] t.g)).fix.length+8*dP l<=_; (try simp only [bO]); omega) hw).mono λe w' ⟨q,h1,h2⟩=>⟨q,h1,trivial,h2⟩) ?_;intro A9 _;refine ab (ad (aa O (V0 (Yb gA g_ O O) (V0 (Yb gA g_ O O) ?_))));refine Lb Y O iL O O O O λux=>?_;refine WL.kq (rd:=fK) (f:=aU.cells) (k:=3) (m:=2) 0 [⟨1,0,0⟩,⟨15,0,0⟩] O O aU.bq (λ_ _ _ _ h=>h) (by simp) (by decide) λSZ S1=>?_;refine Lw (ι:=SP) [_,_,_] _ Y O lf O O (λ_=>.tuple #[]) (λq=>(aV 157 108 112 sb K ⟨aM [⟨1,0,0⟩,⟨15,0,0⟩] (⟨(bG l (aM [⟨14,params,locals⟩] t.g)),A9.1,A9.2⟩:a8).g,q,(⟨(bG l (aM [⟨14,params,locals⟩] t.g)),A9.1,A9.2⟩:a8).fa⟩)) (λ_=>True) [SZ] (by simp) (λw hw=>(lg sb K (⟨(bG l (aM [⟨14,params,locals⟩] t.g)),A9.1,A9.2⟩:a8) SZ (some ⟨ux,0,none⟩) 2 [⟨1,0,0⟩,⟨15,0,0⟩] w S1 (by show ((bG l (aM [⟨14,params,locals⟩] t.g))).code.length+[⟨1,0,0⟩,⟨15,0,0⟩].length<=_; (try simp only [bO]); omega) hw).mono λe w' ⟨q,h1,h2⟩=>⟨q,h1,trivial,h2⟩) ?_;intro q28 _;refine ab (ad (aa O (ae O (ab (aA ?_)))));refine R1 O O λw' hw=>?_;exact ⟨(q28,A9.2),O,Wv 2 (Wt 3 hw)⟩
def HQ:XK:=(zA,(none,0))
theorem atp {H:View} {b n:Nat} (h:Sl MA 3 H (some ⟨b,0,none⟩) n (List.replicate n HQ)) {N:View} (hv:aK H N):Sl p4 3 N (some ⟨b,0,none⟩) n (List.replicate n zA):=by
 have h9:=acY h hv λe he=>by
   have e1:e=HQ:=List.eq_of_mem_replicate he;subst e1; exact Sl.nil
 rw [List.map_replicate] at h9;exact h9
theorem atq (H:View) (ke k:Nat) (u:b_) (r:jW) (w:World) (hH:Le H w) (hu:je ke k H r u) (hul:u.ag.length<=1048576) :
   Calls Tryz.prog 78 #[.agg (eG u r).toArray] w λe w'=>e = .returned (.bool (Fg u))/\Ext w w':=by
 have dR:=hu.ag.cap;have eQ:=hu.ag.max;refine enter Tryz.func78 O 9 O O ?_;refine CE (Vs:=[H]) (Ws.init (by simp [hH])) (ad ?_);refine WL.box Y O O λb1=>?_;refine ae O (ab (Cs ?_));refine CU (λ_=>true) [] [] (.q true 0 (.q false 1 (.q true 2 (.q false 3 (.e 4 (.e 5 (.q false 6 .nil) .stop) .stop))))) mixed (by kernel_rfl) (λ_ _ _ d _ _ h=>by cases d<;>exact h) ?_;refine U0 O (λ_ h=>h) (bk 0 O O iJ O) (U0 O (λ_ h=>h) (Yf DA O) (U0 O (λ_ h=>h) (Yd 0 O O O eE) (U0 O (λ_ h=>h) (Yn cz O) ?_)));refine Ue O (λ_ h=>h) ?_ WU.stop;refine WL.make Y O Tc O O (by omega) (by omega) (by omega) (by omega) λb7=>?_;refine bL 0 (.cells ((List.replicate u.ag.length HQ).flatMap XK.cells).toArray 126 (0,0)) O (by rw [<-aih (f:=XK.cells) (x:=HQ) (zs:=(Value.agg #[.bool false,.int .i64 0,.slice none 0 0]).cells) O (by decide)]; rfl) ?_;refine WL.kq (rd:=MA) (f:=XK.cells) (k:=3) (m:=u.ag.length) 0 (List.replicate u.ag.length HQ) O O XK.bq (λ_ _ _ _ h=>h) (by simp) (by omega) λH7 Ql=>?_;refine Ln (Eu ?_);refine Ue O (λ_ h=>(Wv 1 h:)) ?_ WU.stop
 refine Lp Y O asU O (λw hw=>by
   have sJ:=asL H (hv w) ke k u r (List.replicate u.ag.length zA) (some ⟨b7,0,none⟩) u.ag.length w (hw.vs H (by simp)) (kR w) hu (atp Ql (pR (hw.vs H7 (by simp)))) (by simp; omega);rw [List.length_replicate] at sJ
   exact sJ) ?_
 refine Ln (Eu (U0 O (λ_ h=>(Wv 1 h:)) (Ya O) ?_));refine WU.nil (λ_ h=>(Wv 1 h:)) ?_;refine WS.nil ?_;refine Et (aA ?_);refine R1 O O λw' hw=>?_;exact ⟨O,hw.fr⟩
theorem sL:zeroOf Tryz.prog 56=some (.agg #[st [],.slice none 0 0,.int .i64 0,.slice none 0 0,.slice none 0 0,.slice none 0 0,.int .i64 0]):=by kernel_rfl
theorem atr:Enters Tryz.prog 78:=enters_of Tryz.func78 (by kernel_rfl) rfl
theorem Tp:fo Tryz.prog 56=some [(0,1),(1,1),(2,1),(3,1),(4,1),(5,1),(6,1)]:=by kernel_rfl
theorem uQ:cC Tryz.prog 56=some 7:=by kernel_rfl
theorem pM:gj Tryz.prog 56=some 7:=by kernel_rfl
theorem ats:fo Tryz.prog 157=some [(0,7)]:=by kernel_rfl
theorem att:zeroOf Tryz.prog 157=some (.agg #[st [],.slice none 0 0,.int .i64 0,.slice none 0 0,.slice none 0 0,.slice none 0 0,.int .i64 0]):=by kernel_rfl
theorem uR:bw Tryz.prog 56 5=some 5:=by kernel_rfl
theorem Tq:Enters Tryz.prog 79:=enters_of Tryz.func79 (by kernel_rfl) rfl
theorem HR:bw Tryz.prog 56 6=some 6:=by kernel_rfl
theorem atu (H:View) (ke k:Nat) (u:b_) (r:jW) (w:World) (hH:Le H w) (hu:je ke k H r u) (L0:vv u<=1048576) :
   Calls Tryz.prog 26 #[.agg (eG u r).toArray] w λe w'=>∃q:oq,e = .returned (.tuple #[.agg (Pe (fJ u).1 q).toArray,.int .i64 (fJ u).2])/\Ext w w'/\Pf (nv w w') q (fJ u).1:=by
 have dR:=hu.ag.cap;have eQ:=hu.ag.max;have asP:=hu.parts.cap;have asQ:=hu.parts.max;have hwu:=aij u;have Oy:=ES u.ag;have hwp:=W5 u.parts;refine enter Tryz.func26 O 64 O O ?_;refine CE (Vs:=[H]) (Ws.init (by simp [hH])) (ad ?_);refine WL.box Y O O λb1=>?_;refine Al Y O sL λb2=>?_;refine ae O (ab (Cs (ad (V0 (bk 1 O O iJ O) (Lp Y O atr O (λw hw=>atq H ke k u r w (hw.vs H (by simp)) hu (by omega)) (V0 (dK O) (ab ?_)))))));refine Cc O (λai=>?_) (λai=>?_)
 ·have hx:Fg u=false:=by simpa using ai
  refine ad (V0 (Yb sL Tp O O) (an 0 Y O O O uQ O O O (ae O (ab (aA (Er ?_))))));refine WE.xo 0 O O O O pM O λw' hw=>?_;rw [show fJ u=(Ff,1) from by rw [fJ,if_pos hx]];exact ⟨Pg,O,hw.fr,W2 _⟩
 have hx:Fg u=true:=by simpa using ai
 obtain ⟨gD,hom⟩:=aik hx;refine aE (Cs ?_);refine CU (λ_=>true) [] [] (.q false 0 (.q true 1 (.q false 2 (.q true 3 (.q false 5 (.q true 6 (.e 4 (.q false 7 (.q false 8 (.e 9 (.q false 10 .nil) .stop))) .stop))))))) mixed (by kernel_rfl) (λ_ _ _ d _ _ h=>by cases d<;>exact h) ?_;refine U0 O (λ_ h=>h) (Yf Dz O) (U0 O (λ_ h=>h) (Yd 1 O O O bW) (U0 O (λ_ h=>h) (Yf DA O) (U0 O (λ_ h=>h) (Yd 1 O O O eE) (U0 O (λ_ h=>h) (Yf DB O) (U0 O (λ_ h=>h) (Yd 1 O O O ar) ?_)))));refine Ue O (λ_ h=>h) ?_ WU.stop;refine Ld Y O acj O (λr:SP=>.slice r.1 u.ag.length r.2) (λF r=>Sl rdStr 1 F r.1 r.2 u.ag) (λw hw=>acb H r.s1.1 r.s1.2 u.ag w (hw.vs H (by simp)) hu.ag (by omega)) ?_;intro F15 eJ atx sj;refine Ln (Eu (U0 O (λ_ h=>(Wv 1 h:)) (Yb sL Tp O O) (U0 O (λ_ h=>(Wv 1 h:)) (Yb att ats O O) ?_)));refine Ue O (λ_ h=>(Wv 1 h:)) ?_ WU.stop;refine WL.box Y O O λju=>?_;obtain ⟨sb,hsb⟩:∃s,s=ju:=⟨_,rfl⟩;subst hsb;refine bL 0 (tt 157 (⟨u.nm,.slice eJ.1 u.ag.length eJ.2,u.data,.slice none 0 0,.int .i64 0⟩:gV) ⟨⟨[],[]⟩,(none,0),(none,0)⟩) O O (LW (λ_ h=>h.eM 3 1) (LW (λ_ h=>h.eM 112 3) (LW (λ_ h=>h.eM 108 3) (Ln (Eu (U0 O (λ_ h=>(Wv 1 (Wd 4 h):)) (Ya O) ?_))))));refine WU.nil (λ_ h=>(Wv 1 (Wd 4 h):)) ?_;refine WS.nil ?_;refine Et (Cs (ad (V0 (Yf nP O) (V0 (Yd 5 O O O oO) (V0 (Yn mT O) (aa O (ab (Cb ?_))))))));refine cq (ι:=Nat×(SP×SP)×SP) (λg=>[(24,.int .i64 (g.1:Int))]) [(1,_),(2,_),(3,_),(4,_),(22,_),(23,_)] (λg=>Ws w [] ((aV 157 108 112 sb (⟨u.nm,.slice eJ.1 u.ag.length eJ.2,u.data,.slice g.2.2.1 (cv (u.parts.take g.1) ⟨[],[]⟩).1.length g.2.2.2,.int .i64 0⟩:gV) ⟨(cv (u.parts.take g.1) ⟨[],[]⟩).2,g.2.1.1,g.2.1.2⟩)++[bt 3 1 p8 g.2.2.1 g.2.2.2 (cv (u.parts.take g.1) ⟨[],[]⟩).1,ah b2 (.cells (Value.cells (.agg #[st [],.slice none 0 0,.int .i64 0,.slice none 0 0,.slice none 0 0,.slice none 0 0,.int .i64 0])) 56 (0,0)),ah b1 (.cells (eG u r).toArray 40 (0,0))]) [F15,H]) (λg=>g.1<=u.parts.length) (λg=>u.parts.length-g.1) (0,(((none,0),(none,0)),(none,0))) (Nat.zero_le _) (sc O (sc O (sc O (sc O (sc O (sc O (sc O sn))))))) (λ_ h=>by exact ((((((h.f 5 O).f 5 O).f 4 O).f 4 O).f 4 O).f 5 O:)) ?_;intro g oP;refine ad (V0 (bj O O) (ab (Cs ?_)));refine Cc O (λaw=>?_) (λaw=>?_)
 ·have av:g.1<u.parts.length:=by simpa using aw
  obtain ⟨x,bn⟩:∃q,u.parts[g.1]? = some q:=⟨_,List.getElem?_eq_getElem av⟩;obtain ⟨dW,dX,dZ,cg⟩:=hu.parts.aS g.1 x bn;obtain ⟨xr,cw,hP⟩:=cg;have hww:=W3 bn;have iT:=Pc (u.parts.take g.1) ⟨[],[]⟩
  have lM:(cv (u.parts.take g.1) ⟨[],[]⟩).2.code.length<=8*kV (u.parts.take g.1):=by have h9:=iT.1.hi; simpa using h9
  have lN:(cv (u.parts.take g.1) ⟨[],[]⟩).2.fix.length<=8*kV (u.parts.take g.1):=by have h9:=iT.1.gu; simpa using h9
  have nq:(cv (u.parts.take g.1) ⟨[],[]⟩).1.length=g.1:=by rw [iT.2,List.length_take]; omega
  have JS:B_ x=1+dP x.body:=rfl;have aJ:=gD x (List.mem_of_getElem? bn);have hT:=aii bn ⟨[],[]⟩
  have J_:(cv (u.parts.take (g.1+1)) ⟨[],[]⟩).1=(cv (u.parts.take g.1) ⟨[],[]⟩).1++[(cv (u.parts.take g.1) ⟨[],[]⟩).2.code.length]:=by rw [hT]
  have Ka:(cv (u.parts.take (g.1+1)) ⟨[],[]⟩).2=(mD x.params x.locals x.body (cv (u.parts.take g.1) ⟨[],[]⟩).2):=by rw [hT]
  refine aE (Cs (Cb (ad (V0 (Yo mT O O dZ av) (V0 (cJ 1 MB O O O (cw)) ?_)))));refine Al Y O Ho λb6=>?_;refine an 0 Y O O O Tb O O O (ab (fg 0 (.cells (BV x xr).toArray 89 (0,0)) O O ?_));refine CU (λ_=>true) [1,1,1,1] [14] (.q false 0 (.q false 1 (.q false 2 (.q false 3 (.q false 4 (.q false 6 (.q true 7 (.e 5 (.e 8 (.e 9 (.e 10 (.q false 11 (.q false 12 (.q false 13 .nil))) .stop) .stop) .stop) (.e 8 (.e 5 (.e 9 (.e 10 (.q false 11 (.q false 12 (.q false 13 .nil))) .stop) .stop) (.e 9 (.e 5 (.e 10 (.q false 11 (.q false 12 (.q false 13 .nil))) .stop) .stop) .stop)) .stop))))))))) mixed (by kernel_rfl) (λ_ _ _ d _ _ h=>by cases d<;>exact h) ?_;refine U0 O (bR [1,1,1,1]) (Ym O) (U0 O (bR [1,1,1,1]) (Ym O) (U0 O (bR [1,1,1,1]) (bD O) (U0 O (bR [1,1,1,1]) (Yf mU O) (U0 O (bR [1,1,1,1]) (Yf uR O) (U0 O (bR [1,1,1,1]) (Ym O) (U0 O (bR [1,1,1,1]) (bk 0 O O MB O) ?_))))));refine Ue O (bR [1,1,1,1]) ?_ ?_
  ·refine V0 (Yd 1 O O O nQ) (Ln (Eu ?_));refine Ue O (bR [1,1,1,1]) ?_ WU.stop;refine Lf 3 O (Lf 3 O (Lf 3 O ?_));refine Lw (ι:=SP×SP) [_,_,_] _ Y O Tq O O (λ_=>.int .i64 (((cv (u.parts.take g.1) ⟨[],[]⟩).2).code.length:Int)) (λq=>(aV 157 108 112 sb (⟨u.nm,.slice eJ.1 u.ag.length eJ.2,u.data,.slice g.2.2.1 (cv (u.parts.take g.1) ⟨[],[]⟩).1.length g.2.2.2,.int .i64 0⟩:gV) ⟨(mD x.params x.locals x.body (cv (u.parts.take g.1) ⟨[],[]⟩).2),q.1,q.2⟩)) (λ_=>True) [H] (by simp) (λw hw=>(To sb (⟨u.nm,.slice eJ.1 u.ag.length eJ.2,u.data,.slice g.2.2.1 (cv (u.parts.take g.1) ⟨[],[]⟩).1.length g.2.2.2,.int .i64 0⟩:gV) (⟨(cv (u.parts.take g.1) ⟨[],[]⟩).2,g.2.1.1,g.2.1.2⟩:a8) H ke k x.params x.locals x.body xr.1 xr.2 w hP aJ (by show ((cv (u.parts.take g.1) ⟨[],[]⟩).2).code.length+8*(1+dP x.body)<=_; omega) (by show ((cv (u.parts.take g.1) ⟨[],[]⟩).2).fix.length+8*(1+dP x.body)<=_; omega) hw).mono λe w' ⟨q,h1,h2⟩=>⟨q,h1,trivial,h2⟩) ?_;intro nL _;refine Ln (Eu ?_);refine Ue O (λ_ h=>by exact (Wo 1 (Wo 1 (Wo 1 (Wo 1 (((((((h.f 6 O).f 6 O).f 6 O).f 5 O).f 5 O).f 5 O).f 6 O)))):)) ?_ WU.stop;refine Lb Y O iZ O O O O λHW=>?_;refine bL 0 (.cells (p8 (cv (u.parts.take g.1) ⟨[],[]⟩).2.code.length).toArray 3 (0,0)) O (O) (Ln (Eu ?_));refine Ue O (λ_ h=>by exact (Wo 1 (Wo 1 (Wo 1 (Wo 1 (Wt 7 (((((((h.f 7 O).f 7 O).f 7 O).f 6 O).f 6 O).f 6 O).f 7 O))))):)) ?_ WU.stop;refine LA ((cv (u.parts.take g.1) ⟨[],[]⟩).2.code.length) 5 0 Y O iZ O O O O O O (by omega) (by omega) λuV uW=>?_;refine Ln (Eu (U0 O (λ_ h=>by exact (Wo 1 (Wo 1 (Wo 1 (Wo 1 (Wt 7 (((((((h.f 7 O).f 7 O).f 7 O).f 6 O).f 6 O).f 6 O).f 7 O))))):)) (bD O) (U0 O (λ_ h=>by exact (Wo 1 (Wo 1 (Wo 1 (Wo 1 (Wt 7 (((((((h.f 7 O).f 7 O).f 7 O).f 6 O).f 6 O).f 6 O).f 7 O))))):)) (Yf mU O) (U0 O (λ_ h=>by exact (Wo 1 (Wo 1 (Wo 1 (Wo 1 (Wt 7 (((((((h.f 7 O).f 7 O).f 7 O).f 6 O).f 6 O).f 6 O).f 7 O))))):)) (Yf uR O) ?_))));refine WU.nil (λ_ h=>by exact (Wo 1 (Wo 1 (Wo 1 (Wo 1 (Wt 7 (((((((h.f 7 O).f 7 O).f 7 O).f 6 O).f 6 O).f 6 O).f 7 O))))):)) ?_;refine WS.e O ?_;refine an 1 Y O O O Hx O O O (Ln (Es ?_));refine WS.nil ?_;refine Eb (Et (Cr (V0 (Yi O O O (by omega)) (aa O (Ln ?_)))));rw [<-J_,<-Ka];refine WE.n6 1 (tt 157 (⟨u.nm,.slice eJ.1 u.ag.length eJ.2,u.data,.slice uV (cv (u.parts.take (g.1+1)) ⟨[],[]⟩).1.length uW,.int .i64 0⟩:gV) ⟨(cv (u.parts.take (g.1+1)) ⟨[],[]⟩).2,nL.1,nL.2⟩) O O ?_;exact Ea ((g.1+1,(nL,(uV,uW))):Nat×(SP×SP)×SP) (by show _-(g.1+1)<_; omega) (by show g.1+1<=_; omega) (sc O (sc O (sc O (sc O (sc O (sc O (sc O sn))))))) (λ_ h=>by exact (Wt 6 ((((((h.f 7 O).f 7 O).f 7 O).f 6 O).f 6 O).f 6 O):))
  refine Ue O (bR [1,1,1,1]) ?_ WU.stop;refine Lf 3 O (Lf 3 O (Lf 3 O ?_));refine Lw (ι:=SP×SP) [_,_,_] _ Y O Tq O O (λ_=>.int .i64 (((cv (u.parts.take g.1) ⟨[],[]⟩).2).code.length:Int)) (λq=>(aV 157 108 112 sb (⟨u.nm,.slice eJ.1 u.ag.length eJ.2,u.data,.slice g.2.2.1 (cv (u.parts.take g.1) ⟨[],[]⟩).1.length g.2.2.2,.int .i64 0⟩:gV) ⟨(mD x.params x.locals x.body (cv (u.parts.take g.1) ⟨[],[]⟩).2),q.1,q.2⟩)) (λ_=>True) [H] (by simp) (λw hw=>(To sb (⟨u.nm,.slice eJ.1 u.ag.length eJ.2,u.data,.slice g.2.2.1 (cv (u.parts.take g.1) ⟨[],[]⟩).1.length g.2.2.2,.int .i64 0⟩:gV) (⟨(cv (u.parts.take g.1) ⟨[],[]⟩).2,g.2.1.1,g.2.1.2⟩:a8) H ke k x.params x.locals x.body xr.1 xr.2 w hP aJ (by show ((cv (u.parts.take g.1) ⟨[],[]⟩).2).code.length+8*(1+dP x.body)<=_; omega) (by show ((cv (u.parts.take g.1) ⟨[],[]⟩).2).fix.length+8*(1+dP x.body)<=_; omega) hw).mono λe w' ⟨q,h1,h2⟩=>⟨q,h1,trivial,h2⟩) ?_;intro nL _;refine Ln (Eu ?_);refine Ue O (λ_ h=>by exact (Wo 1 (Wo 1 (Wo 1 (Wo 1 (((((((h.f 6 O).f 6 O).f 6 O).f 5 O).f 5 O).f 5 O).f 6 O)))):)) ?_ ?_
  ·refine V0 (Yd 0 O O O nQ) (Ln (Eu ?_));refine Ue O (λ_ h=>by exact (Wo 1 (Wo 1 (Wo 1 (Wo 1 (((((((h.f 6 O).f 6 O).f 6 O).f 5 O).f 5 O).f 5 O).f 6 O)))):)) ?_ WU.stop;refine Lb Y O iZ O O O O λHW=>?_;refine bL 0 (.cells (p8 (cv (u.parts.take g.1) ⟨[],[]⟩).2.code.length).toArray 3 (0,0)) O (O) (Ln (Eu ?_));refine Ue O (λ_ h=>by exact (Wo 1 (Wo 1 (Wo 1 (Wo 1 (Wt 7 (((((((h.f 7 O).f 7 O).f 7 O).f 6 O).f 6 O).f 6 O).f 7 O))))):)) ?_ WU.stop;refine LA ((cv (u.parts.take g.1) ⟨[],[]⟩).2.code.length) 5 0 Y O iZ O O O O O O (by omega) (by omega) λuV uW=>?_;refine Ln (Eu (U0 O (λ_ h=>by exact (Wo 1 (Wo 1 (Wo 1 (Wo 1 (Wt 7 (((((((h.f 7 O).f 7 O).f 7 O).f 6 O).f 6 O).f 6 O).f 7 O))))):)) (bD O) (U0 O (λ_ h=>by exact (Wo 1 (Wo 1 (Wo 1 (Wo 1 (Wt 7 (((((((h.f 7 O).f 7 O).f 7 O).f 6 O).f 6 O).f 6 O).f 7 O))))):)) (Yf mU O) (U0 O (λ_ h=>by exact (Wo 1 (Wo 1 (Wo 1 (Wo 1 (Wt 7 (((((((h.f 7 O).f 7 O).f 7 O).f 6 O).f 6 O).f 6 O).f 7 O))))):)) (Yf uR O) ?_))));refine WU.nil (λ_ h=>by exact (Wo 1 (Wo 1 (Wo 1 (Wo 1 (Wt 7 (((((((h.f 7 O).f 7 O).f 7 O).f 6 O).f 6 O).f 6 O).f 7 O))))):)) ?_;refine WS.e O ?_;refine an 1 Y O O O Hx O O O (Ln (Es ?_));refine WS.nil ?_;refine Eb (Et (Cr (V0 (Yi O O O (by omega)) (aa O (Ln ?_)))));rw [<-J_,<-Ka];refine WE.n6 1 (tt 157 (⟨u.nm,.slice eJ.1 u.ag.length eJ.2,u.data,.slice uV (cv (u.parts.take (g.1+1)) ⟨[],[]⟩).1.length uW,.int .i64 0⟩:gV) ⟨(cv (u.parts.take (g.1+1)) ⟨[],[]⟩).2,nL.1,nL.2⟩) O O ?_;exact Ea ((g.1+1,(nL,(uV,uW))):Nat×(SP×SP)×SP) (by show _-(g.1+1)<_; omega) (by show g.1+1<=_; omega) (sc O (sc O (sc O (sc O (sc O (sc O (sc O sn))))))) (λ_ h=>by exact (Wt 6 ((((((h.f 7 O).f 7 O).f 7 O).f 6 O).f 6 O).f 6 O):))
  refine Ue O (λ_ h=>by exact (Wo 1 (Wo 1 (Wo 1 (Wo 1 (((((((h.f 6 O).f 6 O).f 6 O).f 5 O).f 5 O).f 5 O).f 6 O)))):)) ?_ WU.stop;refine Lb Y O iZ O O O O λHW=>?_;refine bL 0 (.cells (p8 (cv (u.parts.take g.1) ⟨[],[]⟩).2.code.length).toArray 3 (0,0)) O (O) (Ln (Eu ?_));refine Ue O (λ_ h=>by exact (Wo 1 (Wo 1 (Wo 1 (Wo 1 (Wt 7 (((((((h.f 7 O).f 7 O).f 7 O).f 6 O).f 6 O).f 6 O).f 7 O))))):)) ?_ WU.stop;refine V0 (Yd 1 O O O nQ) (Ln (Eu ?_));refine Ue O (λ_ h=>by exact (Wo 1 (Wo 1 (Wo 1 (Wo 1 (Wt 7 (((((((h.f 7 O).f 7 O).f 7 O).f 6 O).f 6 O).f 6 O).f 7 O))))):)) ?_ WU.stop;refine LA ((cv (u.parts.take g.1) ⟨[],[]⟩).2.code.length) 5 0 Y O iZ O O O O O O (by omega) (by omega) λuV uW=>?_;refine Ln (Eu (U0 O (λ_ h=>by exact (Wo 1 (Wo 1 (Wo 1 (Wo 1 (Wt 7 (((((((h.f 7 O).f 7 O).f 7 O).f 6 O).f 6 O).f 6 O).f 7 O))))):)) (bD O) (U0 O (λ_ h=>by exact (Wo 1 (Wo 1 (Wo 1 (Wo 1 (Wt 7 (((((((h.f 7 O).f 7 O).f 7 O).f 6 O).f 6 O).f 6 O).f 7 O))))):)) (Yf mU O) (U0 O (λ_ h=>by exact (Wo 1 (Wo 1 (Wo 1 (Wo 1 (Wt 7 (((((((h.f 7 O).f 7 O).f 7 O).f 6 O).f 6 O).f 6 O).f 7 O))))):)) (Yf uR O) ?_))));refine WU.nil (λ_ h=>by exact (Wo 1 (Wo 1 (Wo 1 (Wo 1 (Wt 7 (((((((h.f 7 O).f 7 O).f 7 O).f 6 O).f 6 O).f 6 O).f 7 O))))):)) ?_;refine WS.e O ?_;refine an 1 Y O O O Hx O O O (Ln (Es ?_));refine WS.nil ?_;refine Eb (Et (Cr (V0 (Yi O O O (by omega)) (aa O (Ln ?_)))));rw [<-J_,<-Ka];refine WE.n6 1 (tt 157 (⟨u.nm,.slice eJ.1 u.ag.length eJ.2,u.data,.slice uV (cv (u.parts.take (g.1+1)) ⟨[],[]⟩).1.length uW,.int .i64 0⟩:gV) ⟨(cv (u.parts.take (g.1+1)) ⟨[],[]⟩).2,nL.1,nL.2⟩) O O ?_;exact Ea ((g.1+1,(nL,(uV,uW))):Nat×(SP×SP)×SP) (by show _-(g.1+1)<_; omega) (by show g.1+1<=_; omega) (sc O (sc O (sc O (sc O (sc O (sc O (sc O sn))))))) (λ_ h=>by exact (Wt 6 ((((((h.f 7 O).f 7 O).f 7 O).f 6 O).f 6 O).f 6 O):))
 have bP:g.1=u.parts.length:=by simp at aw; omega
 rw [bP,List.take_length];have iT:=Pc u.parts ⟨[],[]⟩
 have lM:(cv u.parts ⟨[],[]⟩).2.code.length<=8*kV u.parts:=by have h9:=iT.1.hi; simpa using h9
 have lN:(cv u.parts ⟨[],[]⟩).2.fix.length<=8*kV u.parts:=by have h9:=iT.1.gu; simpa using h9
 refine Ce (Ex (Ex (bA (Et (ad (aa O (aa O (V0 (Yf Hp O) (V0 (Yd 5 O O O jO) (V0 (Yb Ho acm O O) ?_))))))))));refine Lw (ι:=SP×SP) [_,_,_] _ Y O Tq O O (λ_=>.int .i64 (((cv u.parts ⟨[],[]⟩).2).code.length:Int)) (λq=>(aV 157 108 112 sb (⟨u.nm,.slice eJ.1 u.ag.length eJ.2,u.data,.slice g.2.2.1 (cv u.parts ⟨[],[]⟩).1.length g.2.2.2,.int .i64 0⟩:gV) ⟨(mD 0 0 u.main (cv u.parts ⟨[],[]⟩).2),q.1,q.2⟩)) (λ_=>True) [H] (by simp) (λw hw=>(To sb (⟨u.nm,.slice eJ.1 u.ag.length eJ.2,u.data,.slice g.2.2.1 (cv u.parts ⟨[],[]⟩).1.length g.2.2.2,.int .i64 0⟩:gV) (⟨(cv u.parts ⟨[],[]⟩).2,g.2.1.1,g.2.1.2⟩:a8) H ke k 0 0 u.main r.s3.1 r.s3.2 w hu.main hom (by show ((cv u.parts ⟨[],[]⟩).2).code.length+8*(1+dP u.main)<=_; omega) (by show ((cv u.parts ⟨[],[]⟩).2).fix.length+8*(1+dP u.main)<=_; omega) hw).mono λe w' ⟨q,h1,h2⟩=>⟨q,h1,trivial,h2⟩) ?_;intro ur _;refine V0 (bD O) (V0 (Yf mU O) (V0 (Yf HR O) (an 0 Y O O O di O O O (ab (Cs (Cs (fg 0 (tt 157 (⟨u.nm,.slice eJ.1 u.ag.length eJ.2,u.data,.slice g.2.2.1 (cv u.parts ⟨[],[]⟩).1.length g.2.2.2,.int .i64 ((cv u.parts ⟨[],[]⟩).2.code.length:Int)⟩:gV) ⟨(mD 0 0 u.main (cv u.parts ⟨[],[]⟩).2),ur.1,ur.2⟩) O O (Cr (aa O ?_)))))))));refine V0 (bD O) (V0 (Yf mU O) (V0 (Yf mV O) (V0 (Yd 0 O O O kb) (V0 (Yn kf O) (V0 (cI O O) (ab ?_))))));refine Cc O (λaO=>?_) (λaO=>?_)
 ·have hlen:2048<(Fh u).g.code.length:=by
    have h9:=aO;simp at h9
    show 2048<((mD 0 0 u.main (cv u.parts ⟨[],[]⟩).2)).code.length
    omega
  refine ad (V0 (Yb sL Tp O O) (an 4 Y O O O uQ O O O (ae O (ab (aA (Er ?_))))));refine WE.xo 4 O O O O pM O λw' hw=>?_;rw [show fJ u=(Ff,2) from by rw [fJ,if_neg (by rw [hx]; decide),if_pos hlen]];exact ⟨Pg,O,hw.fr,W2 _⟩
 have hlen:¬2048<(Fh u).g.code.length:=by
   have h9:=aO;simp at h9
   show ¬2048<((mD 0 0 u.main (cv u.parts ⟨[],[]⟩).2)).code.length
   omega
 refine aE (ad (aa O (V0 (bD O) (V0 (Yf mU O) (V0 (bk 0 O O pM O) (an 4 Y O O O uQ O O O (ae O (ab (aA ?_)))))))));refine WE.xo 4 O O O O pM O λw' hw=>?_;rw [show fJ u=(Fh u,0) from by rw [fJ,if_neg (by rw [hx]; decide),if_neg hlen]];exact ⟨⟨eJ,ur.1,ur.2,g.2.2⟩,O,hw.fr,sj.imp (λ_ _ _ h=>aR.mono (bN hw (by simp) atx) h),hw.kS 1 O aU.bq (λ_ _ _ _ h=>h),hw.kS 2 O eB.bq (λ_ _ _ _ h=>h),hw.kS 3 O Pd (λ_ _ _ _ h=>h)⟩
def HX (ke k:Nat) (H:View) (b o:Nat) (u:b_):Prop:=∃r:jW,aR H b o (eG u r)/\je ke k H r u
structure aAT (us:List b_) (nu:Nat) (al:Bool) (kn:List cS):Prop where
 len:kn.length=nu+1
 far:al=true->∀mi,0<mi->mi<=nu->kn[mi]? = some zA
 aAV:∀mi,mi<=nu->(al=true->mi=0)->∃u,us[mi]? = some u/\kn[mi]? = some (iz u)
abbrev XU:=b_×jW
def XU.cells (e:XU):List Value:=eG e.1 e.2
theorem XU.bq (e:XU):(XU.cells e).length=5:=rfl
theorem XU.one (e:XU):(XU.cells e).all (·.oneCell')=true:=rfl
def DQ (H:View) (b o:Nat) (e:XU):Prop:=aR H b o (XU.cells e)
theorem HY {ke k:Nat} {K N:View} {a:Option Addr} {c:Nat} {es:List XU} (h:Sl DQ 5 K a c es) (hv:aK K N) (he:∀e ∈ es,je ke k N e.2 e.1):Sl (HX ke k) 5 N a c (es.map (·.1)):=by
 refine ⟨by rw [List.length_map]; exact h.cap,h.max,h.spot,λi x hx=>?_⟩;rw [List.getElem?_map] at hx;obtain ⟨y,hy,rfl⟩:=Option.map_eq_some_iff.1 hx;obtain ⟨b,o,ha,hr⟩:=h.aS i y hy;exact ⟨b,o,ha,y.2,aR.mono hv hr,he y (List.mem_of_getElem? hy)⟩
theorem DR:e9 Tryz.prog 28 40 (.agg #[st [],.slice none 0 0,.int .i64 0,.slice none 0 0,.slice none 0 0]) 5 96:=ja (by kernel_rfl)
abbrev atz:List b_:=[(bJ eR []).1,(bJ dY fj).1]
theorem atA:EB Tryz.prog 108=some [0,0,0]:=by kernel_rfl
theorem atB:Enters Tryz.prog 103:=enters_of Tryz.func103 (by kernel_rfl) rfl
theorem A_:Enters Tryz.prog 25:=enters_of Tryz.func25 (by kernel_rfl) rfl
theorem HZ:Enters Tryz.prog 37:=enters_of Tryz.func37 (by kernel_rfl) rfl
theorem Tr:Enters Tryz.prog 18:=enters_of Tryz.func18 (by kernel_rfl) rfl
theorem adu:Enters Tryz.prog 104:=enters_of Tryz.func104 (by kernel_rfl) rfl
theorem Ba:e9 Tryz.prog 62 65 (.agg #[st [],.slice none 0 0]) 2 40:=ja (by kernel_rfl)
theorem atC (H1 H2:View) (a1 a2:Option Addr) (c1 c2:Nat) (l:List aU) (w:World) (pD:Le H1 w) (sI:Le H2 w) (iB:Sl fK 3 H1 a1 c1 l) (iG:Sl fK 3 H2 a2 c2 l) :
   Calls Tryz.prog 46 #[.slice a1 l.length c1,.slice a2 l.length c2] w λe w'=>e = .returned (.bool true)/\Ext w w':=by
 have LP:=iB.cap;have LQ:=iB.max;have LR:=iG.cap;have LS:=iG.max;refine enter Tryz.func46 O 26 O O ?_;refine CE (Vs:=[H1,H2]) (Ws.init (by simp [pD,sI])) (ad (ae O (ab (Cs (ad (aa O (V0 (Yn kf O) (aa O (V0 (Yn kf O) ?_)))))))));refine V0 (mA O O O) (ab ?_);refine WC.lj O ?_;refine aE (Cs (ad (ae O (ab (Cb ?_)))));refine CW (ι:=Nat) (λi=>[(5,.int .i64 (i:Int))]) [(0,_),(1,_)] (λi=>i<=l.length) (λi=>l.length-i) 0 (Nat.zero_le _) (sc O (sc O (sc O sn))) ?_;intro i hi;refine Cs (ad (aa O (aa O (V0 (Yn kf O) (V0 (bj O O) (ab ?_))))));refine Cc O (λaw=>?_) (λaw=>?_)
 ·have av:i<l.length:=by simpa using aw
  obtain ⟨x,hx⟩:∃x,l[i]? = some x:=⟨_,List.getElem?_eq_getElem av⟩;obtain ⟨pb,po,j6,ez⟩:=iB.aS i x hx;obtain ⟨qb,qo,gk,eV⟩:=iG.aS i x hx;have ez:aR H1 pb (po+i*3) x.cells:=ez;have eV:aR H2 qb (qo+i*3) x.cells:=eV;refine aE (Cs (Cb (Cs ?_)));refine WC.nc [(0,true),(1,true),(2,true),(3,true),(4,true),(5,true),(6,true),(7,true),(8,true)] mixed (by kernel_rfl) (λ_ _ _ d _ h=>by cases d<;>exact h) ?_;refine D0 O (λ_ h=>h) (Ym O) (D0 O (λ_ h=>h) (Ym O) (D0 O (λ_ h=>h) (Yo kf O O j6 (by omega)) (D0 O (λ_ h=>h) (cJ 0 HA O O O (ez)) (D0 O (λ_ h=>h) (Ym O) (D0 O (λ_ h=>h) (Ym O) (D0 O (λ_ h=>h) (Yo kf O O gk (by omega)) (D0 O (λ_ h=>h) (cJ 1 HA O O O (eV)) ?_)))))));refine D0 O (λ_ h=>h) (ahc atA O O O O) ?_;refine WD.nil (λ_ h=>h) ?_;refine Et ?_;refine WC.lj O ?_;refine Ck (Eb (Et (Cr (aa O (V0 (Yi O O O (by omega)) (ae O (Ln ?_)))))));exact Ea (i+1) (by omega) (by omega) (sc O (sc O (sc O sn))) (λ_ h=>h)
 refine Ce (Ex (Ex (bA (Et (ad (ae O (ab (aA ?_))))))));refine R1 O O λw' hw=>?_;exact ⟨O,hw.fr⟩
theorem atD (G:View) (w:World) (hG:Le G w) (hz:Laid G) :
   Calls Tryz.prog 38 #[] w λe w'=>∃q:SP,e = .returned (.slice q.1 2 q.2)/\Ext w w'/\Sl (HX 8 7) 5 (nv w w') q.1 q.2 atz:=by
 refine enter Tryz.func38 O 27 O O ?_;refine CE (Vs:=[G]) (Ws.init (by simp [hG])) (ad (ae O (ab (ad ?_))));refine Ld Y O atB O (λr:jV=>.agg (fq eR r).toArray) (λH r=>ko 7 6 H r eR) (λw hw=>ar_ w) ?_;intro F8 r8 hf8 h8
 refine Ld Y O A_ O (λr:jW=>.tuple #[.agg (eG (bJ eR []).1 r).toArray,.int .i64 (bJ eR []).2]) (λF r=>je (7+1) (6+1) F r (bJ eR []).1) (λw hw=>by
     skip
     exact AQ F8 F8 7 6 r8 eR none 0 [] w (hw.vs _ (by simp)) (hw.vs _ (by simp)) h8 Sl.nil ar9) ?_
 intro F9 r9 MF h9;refine aa O (V0 (Yx O O) (V0 (Yx O O) ?_));refine Al Y O pH λb1=>?_;refine an 0 Y O O O pI O O O (ae O (ab (ad (Lp Y O HZ O (λw hw=>Hu w) ?_))))
 refine Ld Y O Tr O (λr:jV=>.tuple #[.agg (fq (dY) r).toArray,.int .i64 ((bm fi).2)]) (λH r=>ko 7 6 H r (dY)) (λw hw=>by
     have:=RQ G (fi) w (hw.vs _ (by simp)) hz
     exact this) ?_
 intro MG j5 adv ph;refine aa O (V0 (Yx O O) (V0 (Yx O O) ?_));refine Al Y O oK λb3=>?_;refine an 0 Y O O O pC O O O (ae O (ab (Cs ?_)));refine WC.afX (.q 0 (.e 1 (.e 2 (.e 3 (.q 4 (.q 5 (.q 6 (.e 7 (.e 8 (.e 9 .nil .stop) .stop) .stop)))) (.e 7 (.e 3 (.q 4 (.q 5 (.q 6 (.e 8 (.e 9 .nil .stop) .stop)))) .stop) .stop)) (.e 7 (.e 2 (.e 3 (.q 4 (.q 5 (.q 6 (.e 8 (.e 9 .nil .stop) .stop)))) .stop) .stop) .stop)) (.e 7 (.e 1 (.e 2 (.e 3 (.q 4 (.q 5 (.q 6 (.e 8 (.e 9 .nil .stop) .stop)))) .stop) .stop) .stop) .stop))) mixed (by kernel_rfl) (λ_ _ _ d _ h=>by cases d<;>exact h) ?_;refine WT.q O Y O (λ_ h=>h) (bk 0 O O iW O) ?_;refine WT.e O (λ_ h=>h) ?_ ?_
 ·refine Ld Y O adu O (λr:SP=>.agg #[st aI,.slice r.1 Dr.length r.2]) (λF r=>Sl lp 4 F r.1 r.2 Dr) (λw hw=>abM w) ?_;intro Aq pr Ls Dw;refine Ln (jR ?_);refine WT.e O (λ_ h=>(Wv 1 h:)) ?_ ?_
  ·refine Lb Y O Ba O O O O λju=>?_;refine Ln (jR ?_);refine WT.e O (λ_ h=>(Wv 1 (Wd 1 h):)) ?_ ?_
   ·refine Ld Y O A_ O (λr:jW=>.tuple #[.agg (eG (bJ dY fj).1 r).toArray,.int .i64 (bJ dY fj).2]) (λF r=>je (7+1) (6+1) F r (bJ dY fj).1) (λw hw=>by
        have yx:Sl wK 2 (hv w) (some ⟨ju,0,none⟩) 1 fj:=⟨by decide,by decide,by simp,λj x hj=>⟨ju,0,rfl,by
          match j,hj with
          | 0,hj=>simp only [fj,List.getElem?_cons_zero,Option.some.injEq] at hj; subst hj; exact ⟨pr,λk v hk=>by
              match k,hk with
              | 0,hk=>simp [uH] at hk; subst hk; exact hw.mq 0 rfl rfl
              | 1,hk=>simp [uH] at hk; subst hk; exact hw.mq 0 rfl rfl,uK (pR (hw.vs Aq (by simp))) Dw⟩⟩⟩
        exact AQ MG (hv w) 7 6 j5 dY (some ⟨ju,0,none⟩) 1 fj w (hw.vs _ (by simp)) (kR w) ph yx (by have:=yB fi; show wM (bm fi).1<=_; omega)) ?_
    intro yM fC yN mm;refine Ln (jR ?_);refine WT.q O Y O (λ_ h=>(Wv 2 (Wd 1 h):)) (Ym O) ?_;refine WT.q O Y O (λ_ h=>(Wv 2 (Wd 1 h):)) (Yx O O) ?_;refine WT.q O Y O (λ_ h=>(Wv 2 (Wd 1 h):)) (Yx O O) ?_;refine WT.e O (λ_ h=>(Wv 2 (Wd 1 h):)) ?_ WT.stop;refine Al Y O pH λb5=>?_;refine Ln (jR ?_);refine WT.e O (λ_ h=>(Wv 2 (Wd 2 h):)) ?_ WT.stop;refine an 0 Y O O O pI O O O (Ln (jR ?_));refine WT.e O (λ_ h=>(Wv 2 (Wd 2 h):)) ?_ WT.stop;refine ae O (Ln (jR ?_));refine WT.nil (λ_ h=>(Wv 2 (Wd 2 h):)) ?_;refine Et (Cs ?_);obtain ⟨cu,nS⟩:∃c,c=(bJ eR []).1:=⟨_,rfl⟩;obtain ⟨tu,nT⟩:∃c,c=(bJ dY fj).1:=⟨_,rfl⟩;rw [<-nS,<-nT];rw [<-nS] at h9;rw [<-nT] at mm;refine Cr (V0 (bk 3 O O iJ O) (V0 (bk 0 O O iJ O) ?_));refine Lb Y O DR O O O O λuz=>?_;refine bL 0 (.cells ((([(cu,r9),(tu,fC)]:List XU)).flatMap XU.cells).toArray 40 (0,0)) O O (LW (λ_ h=>h.s9 (f:=XU.cells) (xs:=([(cu,r9),(tu,fC)]:List XU)) (c:=2) 0 O XU.bq O (by decide)) (ae O (ab (aA ?_))));refine R1 O O λw' hw=>?_;have Bb:=h9;refine ⟨(some ⟨uz,0,none⟩,2),O,hw.fr,?_⟩
    show Sl _ _ _ _ _ [(bJ eR []).1,(bJ dY fj).1]
    rw [<-nS,<-nT];have h9:=hw.kS (rd:=DQ) 0 rfl XU.bq (λ_ _ _ _ h=>h)
    exact HY (es:=[(cu,r9),(tu,fC)]) h9 (λ_ _ h=>h) λe he=>by
      simp only [List.mem_cons,List.not_mem_nil,or_false] at he
      rcases he with rfl | rfl
      · exact Bb.mv (bN hw (by simp) MF)
      · exact mm.mv (bN hw (by simp) yN)
   refine WT.e O (λ_ h=>(Wv 1 (Wd 1 h):)) ?_ WT.stop;refine Al Y O pH λb5=>?_;refine Ln (jR ?_);refine WT.e O (λ_ h=>(Wv 1 (Wd 2 h):)) ?_ WT.stop
   refine Ld Y O A_ O (λr:jW=>.tuple #[.agg (eG (bJ dY fj).1 r).toArray,.int .i64 (bJ dY fj).2]) (λF r=>je (7+1) (6+1) F r (bJ dY fj).1) (λw hw=>by
       have yx:Sl wK 2 (hv w) (some ⟨ju,0,none⟩) 1 fj:=⟨by decide,by decide,by simp,λj x hj=>⟨ju,0,rfl,by
         match j,hj with
         | 0,hj=>simp only [fj,List.getElem?_cons_zero,Option.some.injEq] at hj; subst hj; exact ⟨pr,λk v hk=>by
             match k,hk with
             | 0,hk=>simp [uH] at hk; subst hk; exact hw.mq 1 rfl rfl
             | 1,hk=>simp [uH] at hk; subst hk; exact hw.mq 1 rfl rfl,uK (pR (hw.vs Aq (by simp))) Dw⟩⟩⟩
       exact AQ MG (hv w) 7 6 j5 dY (some ⟨ju,0,none⟩) 1 fj w (hw.vs _ (by simp)) (kR w) ph yx (by have:=yB fi; show wM (bm fi).1<=_; omega)) ?_
   intro yM fC yN mm;refine Ln (jR ?_);refine WT.q O Y O (λ_ h=>(Wv 2 (Wd 2 h):)) (Ym O) ?_;refine WT.q O Y O (λ_ h=>(Wv 2 (Wd 2 h):)) (Yx O O) ?_;refine WT.q O Y O (λ_ h=>(Wv 2 (Wd 2 h):)) (Yx O O) ?_;refine WT.e O (λ_ h=>(Wv 2 (Wd 2 h):)) ?_ WT.stop;refine an 0 Y O O O pI O O O (Ln (jR ?_));refine WT.e O (λ_ h=>(Wv 2 (Wd 2 h):)) ?_ WT.stop;refine ae O (Ln (jR ?_));refine WT.nil (λ_ h=>(Wv 2 (Wd 2 h):)) ?_;refine Et (Cs ?_);obtain ⟨cu,nS⟩:∃c,c=(bJ eR []).1:=⟨_,rfl⟩;obtain ⟨tu,nT⟩:∃c,c=(bJ dY fj).1:=⟨_,rfl⟩;rw [<-nS,<-nT];rw [<-nS] at h9;rw [<-nT] at mm;refine Cr (V0 (bk 3 O O iJ O) (V0 (bk 0 O O iJ O) ?_));refine Lb Y O DR O O O O λuz=>?_;refine bL 0 (.cells ((([(cu,r9),(tu,fC)]:List XU)).flatMap XU.cells).toArray 40 (0,0)) O O (LW (λ_ h=>h.s9 (f:=XU.cells) (xs:=([(cu,r9),(tu,fC)]:List XU)) (c:=2) 0 O XU.bq O (by decide)) (ae O (ab (aA ?_))));refine R1 O O λw' hw=>?_;have Bb:=h9;refine ⟨(some ⟨uz,0,none⟩,2),O,hw.fr,?_⟩
   show Sl _ _ _ _ _ [(bJ eR []).1,(bJ dY fj).1]
   rw [<-nS,<-nT];have h9:=hw.kS (rd:=DQ) 0 rfl XU.bq (λ_ _ _ _ h=>h)
   exact HY (es:=[(cu,r9),(tu,fC)]) h9 (λ_ _ h=>h) λe he=>by
     simp only [List.mem_cons,List.not_mem_nil,or_false] at he
     rcases he with rfl | rfl
     · exact Bb.mv (bN hw (by simp) MF)
     · exact mm.mv (bN hw (by simp) yN)
  refine WT.e O (λ_ h=>(Wv 1 h:)) ?_ WT.stop;refine Al Y O pH λb5=>?_;refine Ln (jR ?_);refine WT.e O (λ_ h=>(Wv 1 (Wd 1 h):)) ?_ WT.stop;refine Lb Y O Ba O O O O λju=>?_;refine Ln (jR ?_);refine WT.e O (λ_ h=>(Wv 1 (Wd 2 h):)) ?_ WT.stop
  refine Ld Y O A_ O (λr:jW=>.tuple #[.agg (eG (bJ dY fj).1 r).toArray,.int .i64 (bJ dY fj).2]) (λF r=>je (7+1) (6+1) F r (bJ dY fj).1) (λw hw=>by
      have yx:Sl wK 2 (hv w) (some ⟨ju,0,none⟩) 1 fj:=⟨by decide,by decide,by simp,λj x hj=>⟨ju,0,rfl,by
        match j,hj with
        | 0,hj=>simp only [fj,List.getElem?_cons_zero,Option.some.injEq] at hj; subst hj; exact ⟨pr,λk v hk=>by
            match k,hk with
            | 0,hk=>simp [uH] at hk; subst hk; exact hw.mq 0 rfl rfl
            | 1,hk=>simp [uH] at hk; subst hk; exact hw.mq 0 rfl rfl,uK (pR (hw.vs Aq (by simp))) Dw⟩⟩⟩
      exact AQ MG (hv w) 7 6 j5 dY (some ⟨ju,0,none⟩) 1 fj w (hw.vs _ (by simp)) (kR w) ph yx (by have:=yB fi; show wM (bm fi).1<=_; omega)) ?_
  intro yM fC yN mm;refine Ln (jR ?_);refine WT.q O Y O (λ_ h=>(Wv 2 (Wd 2 h):)) (Ym O) ?_;refine WT.q O Y O (λ_ h=>(Wv 2 (Wd 2 h):)) (Yx O O) ?_;refine WT.q O Y O (λ_ h=>(Wv 2 (Wd 2 h):)) (Yx O O) ?_;refine WT.e O (λ_ h=>(Wv 2 (Wd 2 h):)) ?_ WT.stop;refine an 1 Y O O O pI O O O (Ln (jR ?_));refine WT.e O (λ_ h=>(Wv 2 (Wd 2 h):)) ?_ WT.stop;refine ae O (Ln (jR ?_));refine WT.nil (λ_ h=>(Wv 2 (Wd 2 h):)) ?_;refine Et (Cs ?_);obtain ⟨cu,nS⟩:∃c,c=(bJ eR []).1:=⟨_,rfl⟩;obtain ⟨tu,nT⟩:∃c,c=(bJ dY fj).1:=⟨_,rfl⟩;rw [<-nS,<-nT];rw [<-nS] at h9;rw [<-nT] at mm;refine Cr (V0 (bk 3 O O iJ O) (V0 (bk 1 O O iJ O) ?_));refine Lb Y O DR O O O O λuz=>?_;refine bL 0 (.cells ((([(cu,r9),(tu,fC)]:List XU)).flatMap XU.cells).toArray 40 (0,0)) O O (LW (λ_ h=>h.s9 (f:=XU.cells) (xs:=([(cu,r9),(tu,fC)]:List XU)) (c:=2) 0 O XU.bq O (by decide)) (ae O (ab (aA ?_))));refine R1 O O λw' hw=>?_;have Bb:=h9;refine ⟨(some ⟨uz,0,none⟩,2),O,hw.fr,?_⟩
  show Sl _ _ _ _ _ [(bJ eR []).1,(bJ dY fj).1]
  rw [<-nS,<-nT];have h9:=hw.kS (rd:=DQ) 0 rfl XU.bq (λ_ _ _ _ h=>h)
  exact HY (es:=[(cu,r9),(tu,fC)]) h9 (λ_ _ h=>h) λe he=>by
    simp only [List.mem_cons,List.not_mem_nil,or_false] at he
    rcases he with rfl | rfl
    · exact Bb.mv (bN hw (by simp) MF)
    · exact mm.mv (bN hw (by simp) yN)
 refine WT.e O (λ_ h=>h) ?_ WT.stop;refine Al Y O pH λb5=>?_;refine Ln (jR ?_);refine WT.e O (λ_ h=>(Wd 1 h:)) ?_ WT.stop;refine Ld Y O adu O (λr:SP=>.agg #[st aI,.slice r.1 Dr.length r.2]) (λF r=>Sl lp 4 F r.1 r.2 Dr) (λw hw=>abM w) ?_;intro Aq pr Ls Dw;refine Ln (jR ?_);refine WT.e O (λ_ h=>(Wv 1 (Wd 1 h):)) ?_ WT.stop;refine Lb Y O Ba O O O O λju=>?_;refine Ln (jR ?_);refine WT.e O (λ_ h=>(Wv 1 (Wd 2 h):)) ?_ WT.stop
 refine Ld Y O A_ O (λr:jW=>.tuple #[.agg (eG (bJ dY fj).1 r).toArray,.int .i64 (bJ dY fj).2]) (λF r=>je (7+1) (6+1) F r (bJ dY fj).1) (λw hw=>by
     have yx:Sl wK 2 (hv w) (some ⟨ju,0,none⟩) 1 fj:=⟨by decide,by decide,by simp,λj x hj=>⟨ju,0,rfl,by
       match j,hj with
       | 0,hj=>simp only [fj,List.getElem?_cons_zero,Option.some.injEq] at hj; subst hj; exact ⟨pr,λk v hk=>by
           match k,hk with
           | 0,hk=>simp [uH] at hk; subst hk; exact hw.mq 0 rfl rfl
           | 1,hk=>simp [uH] at hk; subst hk; exact hw.mq 0 rfl rfl,uK (pR (hw.vs Aq (by simp))) Dw⟩⟩⟩
     exact AQ MG (hv w) 7 6 j5 dY (some ⟨ju,0,none⟩) 1 fj w (hw.vs _ (by simp)) (kR w) ph yx (by have:=yB fi; show wM (bm fi).1<=_; omega)) ?_
 intro yM fC yN mm;refine Ln (jR ?_);refine WT.q O Y O (λ_ h=>(Wv 2 (Wd 2 h):)) (Ym O) ?_;refine WT.q O Y O (λ_ h=>(Wv 2 (Wd 2 h):)) (Yx O O) ?_;refine WT.q O Y O (λ_ h=>(Wv 2 (Wd 2 h):)) (Yx O O) ?_;refine WT.e O (λ_ h=>(Wv 2 (Wd 2 h):)) ?_ WT.stop;refine an 1 Y O O O pI O O O (Ln (jR ?_));refine WT.e O (λ_ h=>(Wv 2 (Wd 2 h):)) ?_ WT.stop;refine ae O (Ln (jR ?_));refine WT.nil (λ_ h=>(Wv 2 (Wd 2 h):)) ?_;refine Et (Cs ?_);obtain ⟨cu,nS⟩:∃c,c=(bJ eR []).1:=⟨_,rfl⟩;obtain ⟨tu,nT⟩:∃c,c=(bJ dY fj).1:=⟨_,rfl⟩;rw [<-nS,<-nT];rw [<-nS] at h9;rw [<-nT] at mm;refine Cr (V0 (bk 3 O O iJ O) (V0 (bk 1 O O iJ O) ?_));refine Lb Y O DR O O O O λuz=>?_;refine bL 0 (.cells ((([(cu,r9),(tu,fC)]:List XU)).flatMap XU.cells).toArray 40 (0,0)) O O (LW (λ_ h=>h.s9 (f:=XU.cells) (xs:=([(cu,r9),(tu,fC)]:List XU)) (c:=2) 0 O XU.bq O (by decide)) (ae O (ab (aA ?_))));refine R1 O O λw' hw=>?_;have Bb:=h9;refine ⟨(some ⟨uz,0,none⟩,2),O,hw.fr,?_⟩
 show Sl _ _ _ _ _ [(bJ eR []).1,(bJ dY fj).1]
 rw [<-nS,<-nT];have h9:=hw.kS (rd:=DQ) 0 rfl XU.bq (λ_ _ _ _ h=>h)
 exact HY (es:=[(cu,r9),(tu,fC)]) h9 (λ_ _ h=>h) λe he=>by
   simp only [List.mem_cons,List.not_mem_nil,or_false] at he
   rcases he with rfl | rfl
   · exact Bb.mv (bN hw (by simp) MF)
   · exact mm.mv (bN hw (by simp) yN)
theorem atE (nm s:List UInt8):dO s [((nm,.int .i64 1,0):cD (List UInt8))] (.int .i64 0) = .int .i64 ((([nm]:List (List UInt8)).count s:Nat):Int):=by
 by_cases h:nm=s
 · subst h; simp [dO,bB]
 · have h2:¬s=nm:=λe=>h e.symm
   simp [dO,bB,h,h2,List.count_cons]
theorem atF {seen:List (List UInt8)} {M:List (cD (List UInt8))} (h:∀s,dO s M (.int .i64 0) = .int .i64 ((seen.count s:Nat):Int)) (x:List UInt8) (c:Nat):∀s,dO s (dv x (.int .i64 (((seen.count x:Nat):Int)+1)) M c) (.int .i64 0) = .int .i64 (((seen++[x]).count s:Nat):Int):=by
 intro s
 by_cases e:s=x
 · subst e
   rw [zD,List.count_append];simp
 · rw [E_ _ M c _ e,h s,List.count_append]
   have e2:¬x=s:=λk=>e k.symm;simp [List.count_cons,e2]
theorem Bc:bw Tryz.prog 56 1=some 1:=by kernel_rfl
theorem H0:bw Tryz.prog 56 0=some 0:=by kernel_rfl
theorem MH:bw Tryz.prog 56 2=some 2:=by kernel_rfl
theorem adw:cC Tryz.prog 108=some 3:=by kernel_rfl
theorem Ts:bw Tryz.prog 108 0=some 0:=by kernel_rfl
theorem MI:Enters Tryz.prog 134:=enters_of Tryz.func134 (by kernel_rfl) rfl
theorem wT:eo Tryz.prog 53=some 3:=by kernel_rfl
theorem MJ:gj Tryz.prog 112=some 3:=by kernel_rfl
theorem MK:cC Tryz.prog 112=some 3:=by kernel_rfl
theorem Bd:bw Tryz.prog 112 0=some 0:=by kernel_rfl
theorem ML:bw Tryz.prog 112 1=some 1:=by kernel_rfl
theorem yO:bw Tryz.prog 112 2=some 2:=by kernel_rfl
theorem MM (H:View) (b n:Nat) (x:Int) (w:World) (hH:Le H w) (h0:vc H b 0=some (.int .i64 (n:Int))) :
   Calls Tryz.prog 134 #[.int .i64 x,.pointer (some ⟨b,0,none⟩)] w λe w'=>e = .returned (.bool (gv n x))/\Ext w w':=by
 refine enter Tryz.func134 O 11 O O ?_;refine CE (Vs:=[H]) (Ws.init (by simp [hH])) (ad (ae O (ab (ad (aa O (V0 (fm O O) (aa O ?_)))))));apply La 3 O O O O Y O O O O O
 ·intro du;refine Vg (Ym O) (Vg (bo 0 ar O O (h0)) (Vg (bj O O) ?_));exact Gt 3 O O O
 refine ae O (ab (aA ?_));refine R1 O O λw' hw=>?_;exact ⟨O,hw.fr⟩
theorem adx (H:View) (o:aP) (q:oq) (w:World) (hH:Le H w) (hm:rW H q o) :
   Calls Tryz.prog 62 #[.agg (jj o q).toArray] w λe w'=>e = .returned (.int .i64 (gw o))/\Ext w w':=by
 have atG:=hm.ag.cap;have atH:=hm.ag.max;have atI:=hm.code.cap;have atJ:=hm.code.max;have atK:=hm.fix.cap;have atL:=hm.fix.max;have atM:=hm.bU.cap;have atN:=hm.bU.max;refine enter Tryz.func62 O 191 O O ?_;refine CE (Vs:=[H]) (Ws.init (by simp [hH])) (ad ?_);refine WL.box Y O O λb1=>?_;refine ae O (ab (ad (V0 (Yf mV O) (V0 (Yd 0 O O O kb) (V0 (Yn kf O) ?_)))));refine Al Y O me λb3=>?_;refine an 0 Y O O O di O O O (ab (Cs (Cs (fg 0 (.cells ([.int .i64 (o.code.length:Int)]).toArray 3 (0,0)) O O (Cr (V0 (Yf Bc O) (V0 (Yd 1 O O O eE) (V0 (Yn cz O) (V0 (cI O O) ?_)))))))));refine aa O ?_;apply Lo 4 O O O O Y O O O O O
 ·intro du;refine Vg (Yf uR O) (Vg (Yd 1 O O O nQ) (Vg (Yn iX O) (Vg (cI O O) ?_)));exact Gt 4 O O O
 refine aa O ?_;apply Lo 2 O O O O Y O O O O O
 ·intro eh;refine Vg (Yd 0 O O O ar) (Vg (bj O O) ?_);exact Gt 2 O O O
 refine aa O ?_;apply Lo 2 O O O O Y O O O O O
 ·intro fB;refine Vg (Yd 0 O O O ar) (Vg (cI O O) ?_);exact Gt 2 O O O
 refine ab ?_;refine Cc O (λai=>?_) (λai=>?_)
 ·refine ad (ae O (ab (aA (Er ?_))));refine R1 O O λw' hw=>?_;exact ⟨by rw [gw,if_pos (show tz o=true from ai)],hw.fr⟩
 have H3:tz o=false:=ai
 have hU3:o.ag.length<=3:=by
   unfold tz at H3;simp only [Bool.or_eq_false_iff,decide_eq_false_iff_not] at H3;omega
 refine aE (ad ?_);refine WL.oY st Y O λwb=>?_;refine V0 (Yf H0 O) (V0 (Yd 2 O O O bW) ?_);refine WL.nh 0 ix Y iH dy O O O O ?_;refine aa O (ae O (ab (ad (V0 (Yf H0 O) (V0 (Yd 2 O O O bW) (Lp Y O si O (λw hw=>sh _ w) (aa O ?_)))))));apply La 3 O O O O Y O O O O O
 ·intro l_;refine Vg (Yf MH O) (Vg (Yd 2 O O O ar) (Vg (fm O O) ?_));exact Gt 3 O O O
 refine aa O ?_;apply La 3 O O O O Y O O O O O
 ·intro vO;refine Vg (Yf MH O) (Vg (Yd 2 O O O ar) (Vg (iN O O) ?_));exact Gt 3 O O O
 refine ae O (ab (Cs (ad (V0 (Yf Bc O) (V0 (Yd 2 O O O eE) (V0 (Yn cz O) (aa O (ab (Cb ?_)))))))));refine cq (ι:=Nat×List (cD (List UInt8))×Nat×Bool) (λg=>[(58,.int .i64 (g.1:Int)),(5,.bool g.2.2.2)]) [(1,_),(2,_),(3,_),(4,_),(56,_),(57,_)] (λg=>Ws w [] [ah wb (bh st g.2.1 g.2.2.1),ah b3 (.cells #[.int .i64 (o.code.length:Int)] 3 (0,0)),ah b1 (.cells (jj o q).toArray 56 (0,0))] [H]) (λg=>g.1<=o.ag.length/\(∀s,dO s g.2.1 (.int .i64 0) = .int .i64 (((o.nm::o.ag.take g.1).count s:Nat):Int))/\nB (o.nm::o.ag.take g.1) (o.ag.drop g.1) g.2.2.2=nB [o.nm] o.ag (vy o)) (λg=>o.ag.length-g.1) (0,[((o.nm,.int .i64 1,0):cD (List UInt8))],1,vy o) ⟨Nat.zero_le _,atE o.nm,O⟩ (sc O (sc O (sc O (sc O (sc O (sc O (sc O (sc O sn)))))))) (λ_ h=>h) ?_;intro g ⟨oP,hM,H9⟩;refine ad (V0 (bj O O) (ab (Cs ?_)));refine Cc O (λaw=>?_) (λaw=>?_)
 ·have av:g.1<o.ag.length:=by simpa using aw
  obtain ⟨s,fp⟩:∃q,o.ag[g.1]? = some q:=⟨_,List.getElem?_eq_getElem av⟩;obtain ⟨pJ,pos,has,gY⟩:=hm.ag.aS g.1 s fp;have gY:aR H pJ (pos+g.1*1) (cM s):=gY
  have hT:(o.nm::o.ag.take g.1)++[s]=o.nm::o.ag.take (g.1+1):=by rw [List.take_add_one,fp]; simp
  have lU:((o.nm::o.ag.take g.1).count s:Nat)<=4:=by
    have h9:(o.nm::o.ag.take g.1).count s<=(o.nm::o.ag.take g.1).length:=List.count_le_length;simp at h9; omega
  refine aE (Cs (Cb (ad (V0 (Yo cz O O has av) (V0 (bo 0 bW O O (gY 0 _ O)) (ae O (ab (ad (aa O (aa O (V0 (vh 0 ix iH dy me O O O) ?_)))))))))));rw [hM s];refine V0 (mY O O (by omega)) ?_;refine WL.rr 0 ix Y iH dy O O O O ?_;refine ab (Cr (aa O (aa O ?_)));apply La 2 (x:=dB s) O O O O Y O O O O O
  ·intro x3;refine Vg (Ym O) (Lp (.g O O O) O si O (λw hw=>sh _ w) ?_);exact Gt 2 O O O
  refine aa O ?_;apply La 4 (x:=((((o.nm::o.ag.take g.1).count s:Nat):Int)+1==1)) O O O O Y O O O O O
  ·intro Hw;refine Vg (Ym O) (Vg (Ym O) (Vg (vh 0 ix iH dy me O O O) ?_));rw [zD];refine Vg (aW O O) ?_;exact Gt 4 O O O
  refine ae O (Ln (Eb (Et (Cr (V0 (Yi O O O (by omega)) (aa O (Ln ?_)))))));exact Ea ((g.1+1,_,_,((g.2.2.2&&dB s)&&((((o.nm::o.ag.take g.1).count s:Nat):Int)+1==1))):Nat×List (cD (List UInt8))×Nat×Bool) (by show _-(g.1+1)<_; omega) ⟨(by show g.1+1<=_; omega),(by rw [<-hT]; exact atF hM s _),(aiG (seen:=[o.nm]) fp _).symm.trans H9⟩ (sc O (sc O (sc O (sc O (sc O (sc O (sc O (sc O sn)))))))) (λ_ h=>h)
 have bP:g.1=o.ag.length:=by simp at aw; omega
 rw [bP,List.drop_length] at H9;have H9:g.2.2.2=nB [o.nm] o.ag (vy o):=H9;refine Ce (Ex (Ex (bA (Et (Cs (ad (V0 (Yf mV O) (V0 (Yd 2 O O O kb) (V0 (Yn kf O) (aa O (ab (Cb ?_))))))))))));refine cq (ι:=Nat×Bool) (λe1=>[(81,.int .i64 (e1.1:Int)),(5,.bool e1.2)]) [(1,_),(2,_),(3,_),(79,_),(80,_)] (λe1=>Ws w [] [ah wb (bh st g.2.1 g.2.2.1),ah b3 (.cells #[.int .i64 (o.code.length:Int)] 3 (0,0)),ah b1 (.cells (jj o q).toArray 56 (0,0))] [H]) (λe1=>e1.1<=o.code.length/\o_ (o.code.drop e1.1) e1.2=o_ o.code (nB [o.nm] o.ag (vy o))) (λe1=>o.code.length-e1.1) (0,g.2.2.2) ⟨Nat.zero_le _,(by rw [H9]; rfl)⟩ (sc O (sc O (sc O (sc O (sc O (sc O (sc O sn))))))) (λ_ h=>h) ?_;intro e1 ⟨Tt,H_⟩;refine ad (V0 (bj O O) (ab (Cs ?_)));refine Cc O (λaO=>?_) (λaO=>?_)
 ·have av:e1.1<o.code.length:=by simpa using aO
  obtain ⟨x,bn⟩:∃q,o.code[e1.1]? = some q:=⟨_,List.getElem?_eq_getElem av⟩;obtain ⟨dW,dX,dZ,cg⟩:=hm.code.aS e1.1 x bn;have cg:aR H dW (dX+e1.1*3) x.cells:=cg;refine aE (Cs (Cb (ad (V0 (Yo kf O O dZ av) (V0 (cJ 0 HA O O O (cg)) ?_)))));refine Al Y O gA λb9=>?_;refine an 0 Y O O O adw O O O (ab (fg 0 (.cells (x.cells).toArray 108 (0,0)) O O (Cr (aa O (aa O ?_)))));apply La 3 O O O O Y O O O O O
  ·intro DI;refine Vg (Yf Ts O) (Vg (Yd 0 O O O ar) (Vg (fm O O) ?_));exact Gt 3 O O O
  refine aa O ?_;apply La 3 O O O O Y O O O O O
  ·intro S5;refine Vg (Yf Ts O) (Vg (Yd 0 O O O ar) (Vg (iN O O) ?_));exact Gt 3 O O O
  refine ae O (Ln (Eb (Et (Cr (V0 (Yi O O O (by omega)) (aa O (Ln ?_)))))));exact Ea ((e1.1+1,_):Nat×Bool) (by show _-(e1.1+1)<_; omega) ⟨(by show e1.1+1<=_; omega),(aiH bn _).symm.trans H_⟩ (sc O (sc O (sc O (sc O (sc O (sc O (sc O sn))))))) (λ_ h=>Wd 1 h)
 have atO:e1.1=o.code.length:=by simp at aO; omega
 rw [atO,List.drop_length] at H_;have H_:e1.2=o_ o.code (nB [o.nm] o.ag (vy o)):=H_;refine Ce (Ex (Ex (bA (Et (ad (V0 (zb O) (ae O (ab (Cs (ad (V0 (Yf uR O) (V0 (Yd 2 O O O nQ) (V0 (Yn iX O) ?_)))))))))))));refine aa O (ab (Cb ?_));refine cq (ι:=Nat×Bool) (λe2=>[(101,.int .i64 (e2.1:Int)),(5,.bool e2.2)]) [(1,_),(2,_),(3,_),(10,_),(99,_),(100,_)] (λe2=>Ws w [] [ah wb (bh st g.2.1 g.2.2.1),ah b3 (.cells #[.int .i64 (o.code.length:Int)] 3 (0,0)),ah b1 (.cells (jj o q).toArray 56 (0,0))] [H]) (λe2=>e2.1<=o.bU.length/\rY o.code.length (o.bU.drop e2.1) e2.2=rY o.code.length o.bU (o_ o.code (nB [o.nm] o.ag (vy o)))) (λe2=>o.bU.length-e2.1) (0,e1.2) ⟨Nat.zero_le _,(by rw [H_]; rfl)⟩ (sc O (sc O (sc O (sc O (sc O (sc O (sc O (sc O sn)))))))) (λ_ h=>h) ?_;intro e2 ⟨B',Ia⟩;refine ad (V0 (bj O O) (ab (Cs ?_)));refine Cc O (λbd=>?_) (λbd=>?_)
 ·have av:e2.1<o.bU.length:=by simpa using bd
  obtain ⟨x,bn⟩:∃q,o.bU[e2.1]? = some q:=⟨_,List.getElem?_eq_getElem av⟩;obtain ⟨dW,dX,dZ,cg⟩:=hm.bU.aS e2.1 x bn;have cg:aR H dW (dX+e2.1*1) (eH x):=cg;refine aE (Cs (Cb (ad (V0 (Yo iX O O dZ av) (V0 (bo 0 ar O O (cg 0 _ O)) (ae O (ab (Cr (aa O (aa O ?_))))))))));apply La 3 (x:=gv o.code.length x) O O O O Y O O O O O
  ·intro My;refine Vg (Ym O) (Vg (Ym O) ?_);refine WL.Bv (.g O O O) O MI O O (λw hw=>MM (hv w) b3 o.code.length (x) w (kR w) (rH (hw.n8 1 O) O)) ?_;exact Gt 3 O O O
  refine ae O (Ln (Eb (Et (Cr (V0 (Yi O O O (by omega)) (aa O (Ln ?_)))))));exact Ea ((e2.1+1,(e2.2&&gv o.code.length x)):Nat×Bool) (by show _-(e2.1+1)<_; omega) ⟨(by show e2.1+1<=_; omega),(aiI bn _).symm.trans Ia⟩ (sc O (sc O (sc O (sc O (sc O (sc O (sc O (sc O sn)))))))) (λ_ h=>h)
 have vP:e2.1=o.bU.length:=by simp at bd; omega
 rw [vP,List.drop_length] at Ia;have Ia:e2.2=rY o.code.length o.bU (o_ o.code (nB [o.nm] o.ag (vy o))):=Ia;refine Ce (Ex (Ex (bA (Et (ad (ae O (ab (Cs (ad (V0 (Yf AX O) (V0 (Yd 2 O O O DK) (V0 (Yn wT O) (aa O ?_)))))))))))));refine ab (Cb ?_);refine cq (ι:=Nat×Int×Bool) (λe3=>[(115,.int .i64 (e3.1:Int)),(13,.int .i64 e3.2.1),(5,.bool e3.2.2)]) [(1,_),(2,_),(3,_),(10,_),(113,_),(114,_)] (λe3=>Ws w [] [ah wb (bh st g.2.1 g.2.2.1),ah b3 (.cells #[.int .i64 (o.code.length:Int)] 3 (0,0)),ah b1 (.cells (jj o q).toArray 56 (0,0))] [H]) (λe3=>e3.1<=o.fix.length/\ot o.ag.length o.code (o.fix.drop e3.1) e3.2.1 e3.2.2=Cj o) (λe3=>o.fix.length-e3.1) (0,-1,e2.2) ⟨Nat.zero_le _,(by rw [Ia]; rfl)⟩ (sc O (sc O (sc O (sc O (sc O (sc O (sc O (sc O (sc O sn))))))))) (λ_ h=>h) ?_;intro e3 ⟨he3,DS⟩;refine ad (V0 (bj O O) (ab (Cs ?_)));refine Cc O (λbC=>?_) (λbC=>?_)
 ·have av:e3.1<o.fix.length:=by simpa using bC
  obtain ⟨x,bn⟩:∃q,o.fix[e3.1]? = some q:=⟨_,List.getElem?_eq_getElem av⟩;obtain ⟨dW,dX,dZ,cg⟩:=hm.fix.aS e3.1 x bn;have cg:aR H dW (dX+e3.1*3) x.cells:=cg;have nY:=aiJ (U:=o.ag.length) (c:=o.code) bn e3.2.1 e3.2.2;rw [DS] at nY;refine aE (Cs (Cb (ad (V0 (Yo wT O O dZ av) (V0 (cJ 0 MJ O O O (cg)) ?_)))));refine Al Y O Hz λLq=>?_;refine an 0 Y O O O MK O O O (ab (Cs (fg 0 (.cells (x.cells).toArray 112 (0,0)) O O (Cr (aa O (aa O ?_))))));apply La 4 O O O O Y O O O O O
  ·intro acO;refine Vg (Yf Bd O) (Vg (Yd 0 O O O ar) (Vg (Ym O) (Vg (cI O O) ?_)));exact Gt 4 O O O
  refine aa O ?_;apply La 4 (x:=gv o.code.length x.at_) O O O O Y O O O O O
  ·intro acP;refine Vg (Ym O) (Vg (Yf Bd O) (Vg (Yd 0 O O O ar) ?_));refine WL.Bv (.g O O O) O MI O O (λw hw=>MM (hv w) b3 o.code.length (x.at_) w (kR w) (rH (hw.n8 2 O) O)) ?_;exact Gt 4 O O O
  refine ae O (ab (Cs (ad (aa O (V0 (dK O) (ab ?_))))));refine Cc O (λcU=>?_) (λcU=>?_)
  ·have iu:((e3.2.2&&decide (e3.2.1<x.at_))&&gv o.code.length x.at_)=false:=by
     have h9:=cU
     cases hX:((e3.2.2&&decide (e3.2.1<x.at_))&&gv o.code.length x.at_) with
     | false=>rfl
     | true=>rw [hX] at h9; cases h9
   rw [if_pos iu] at nY;refine Ce (Ex (Ec O (Ex (Ex (bA (Et (Cs (ad (aa O (V0 (dK O) (aa O ?_)))))))))));apply Lo 5 (x:=!(gv o.code.length o.main)) O O O O Y O O O O O
   ·intro S6;refine Vg (Ym O) (Vg (Yf HR O) (Vg (Yd 3 O O O ar) ?_));refine WL.Bv (.g O O O) O MI O O (λw hw=>MM (hv w) b3 o.code.length (o.main) w (kR w) (rH (hw.n8 2 O) O)) ?_;refine Vg (dK O) ?_;exact Gt 5 O O O
   refine ab ?_;refine Cc O (λj_=>?_) (λj_=>?_)
   ·refine ad (ae O (ab (aA (Er ?_))));refine R1 O O λw' hw=>?_;exact ⟨by rw [gw,H3,if_neg (by decide),if_pos (by rw [nY]; rfl)],hw.fr⟩
   refine aE (ad (ae O (ab (aA ?_))));refine R1 O O λw' hw=>?_;rw [iu] at j_;exact absurd j_ (by simp)
  have yP:((e3.2.2&&decide (e3.2.1<x.at_))&&gv o.code.length x.at_)=true:=by simpa using cU
  rw [if_neg (by rw [yP]; decide)] at nY;obtain ⟨p,Tu,iT⟩:=vz (Bool.and_eq_true_iff.1 yP).2
  have sM:x.at_.toNat=p:=by omega
  obtain ⟨y,bK⟩:∃y,o.code[p]? = some y:=⟨_,List.getElem?_eq_getElem iT⟩;obtain ⟨jK,jL,eX,cV⟩:=hm.code.aS p y bK;have cV:aR H jK (jL+p*3) y.cells:=cV;rw [<-sM] at cV
  have wU:l5 o.code x.at_=y.a:=by unfold l5; rw [sM,bK]; rfl
  rw [wU] at nY;refine aE (ad (V0 (Yf Bd O) (V0 (Yd 0 O O O ar) (ae O (ab (ad (V0 (Yf mV O) (V0 (Yd 3 O O O kb) (V0 (Yf Bd O) ?_)))))))));refine V0 (Yd 0 O O O ar) (V0 (Eo kf O O eX (by omega) (by omega)) (V0 (Yf HC O) (V0 (bo 0 ar O O (cV 1 _ O)) (ae O (ab (ad (aa O (V0 (fm O O) ?_))))))));refine aa O ?_;apply La 2 O O O O Y O O O O O
  ·intro acQ;refine Vg (Ym O) (Vg (iN O O) ?_);exact Gt 2 O O O
  refine ae O (ab (ad (V0 (Yf ML O) (V0 (Yd 0 O O O ar) (ab (Cb (ad (V0 (aW O O) (ae O (ab ?_))))))))));refine Cc O (λdb=>?_) (λdb=>?_)
  ·have jB:x.kind=1:=by simpa using db
   refine Cr (aa O (aa O ?_));apply La 3 O O O O Y O O O O O
   ·intro acR;refine Vg (Yf yO O) (Vg (Yd 0 O O O ar) (Vg (aW O O) ?_));exact Gt 3 O O O
   refine aa O ?_;apply La 3 O O O O Y O O O O O
   ·intro acS;refine Vg (Ym O) (Vg (Yd 2 O O O ar) (Vg (iN O O) ?_));exact Gt 3 O O O
   refine ae O (Ln (Eb (Eb (Et (Cr (V0 (Yi O O O (by omega)) (aa O (Ln ?_))))))));exact Ea ((e3.1+1,x.at_,(((decide (0<=y.a)&&decide (y.a<=2048))&&(x.m==0))&&decide (y.a<=(o.code.length:Int)))):Nat×Int×Bool) (by show _-(e3.1+1)<_; omega) ⟨(by show e3.1+1<=_; omega),(congrArg (ot o.ag.length o.code (o.fix.drop (e3.1+1)) x.at_) (show (((decide (0<=y.a)&&decide (y.a<=2048))&&(x.m==0))&&decide (y.a<=(o.code.length:Int)))=kA o.ag.length o.code.length x.kind x.m y.a from ((by unfold kA; rw [if_pos jB])))).trans nY.symm⟩ (sc O (sc O (sc O (sc O (sc O (sc O (sc O (sc O (sc O sn))))))))) (λ_ h=>Wd 1 h)
  have jB:¬x.kind=1:=by simpa using db
  refine Cs (ad (V0 (aW O O) (ae O (ab ?_))));refine Cc O (λej=>?_) (λej=>?_)
  ·have e7:x.kind=2:=by simpa using ej
   refine aE ?_;refine Cc O (λiY=>?_) (λiY=>?_)
   ·refine Cr (aa O (aa O ?_));apply La 3 O O O O Y O O O O O
    ·intro S7;refine Vg (Yf yO O) (Vg (Yd 0 O O O ar) (Vg (fm O O) ?_));exact Gt 3 O O O
    refine aa O ?_;apply La 6 O O O O Y O O O O O
    ·intro acT;refine Vg (Yf yO O) (Vg (Yd 0 O O O ar) (Vg (Yf Bc O) (Vg (Yd 3 O O O eE) (Vg (Yn cz O) (Vg (iN O O) ?_)))));exact Gt 6 O O O
    refine ae O (Ln (Eb (Eb (Et (Cr (V0 (Yi O O O (by omega)) (aa O (Ln ?_))))))));exact Ea ((e3.1+1,x.at_,(((decide (0<=y.a)&&decide (y.a<=2048))&&decide (0<=x.m))&&decide (x.m<=(o.ag.length:Int)))):Nat×Int×Bool) (by show _-(e3.1+1)<_; omega) ⟨(by show e3.1+1<=_; omega),(congrArg (ot o.ag.length o.code (o.fix.drop (e3.1+1)) x.at_) (show (((decide (0<=y.a)&&decide (y.a<=2048))&&decide (0<=x.m))&&decide (x.m<=(o.ag.length:Int)))=kA o.ag.length o.code.length x.kind x.m y.a from ((by unfold kA; rw [if_neg jB,if_pos (.inl e7)])))).trans nY.symm⟩ (sc O (sc O (sc O (sc O (sc O (sc O (sc O (sc O (sc O sn))))))))) (λ_ h=>Wd 1 h)
   refine Cr (ae O (Ln (Eb (Eb (Et (Cr (V0 (Yi O O O (by omega)) (aa O (Ln ?_)))))))));exact Ea ((e3.1+1,x.at_,false):Nat×Int×Bool) (by show _-(e3.1+1)<_; omega) ⟨(by show e3.1+1<=_; omega),(congrArg (ot o.ag.length o.code (o.fix.drop (e3.1+1)) x.at_) (show false=kA o.ag.length o.code.length x.kind x.m y.a from ((by exact absurd (ej.symm.trans iY) (by decide))))).trans nY.symm⟩ (sc O (sc O (sc O (sc O (sc O (sc O (sc O (sc O (sc O sn))))))))) (λ_ h=>Wd 1 h)
  have e7:¬x.kind=2:=by simpa using ej
  refine Cr (V0 (aW O O) (ae O (ab ?_)));refine Cc O (λiY=>?_) (λiY=>?_)
  ·refine Cr (aa O (aa O ?_));apply La 3 O O O O Y O O O O O
   ·intro S7;refine Vg (Yf yO O) (Vg (Yd 0 O O O ar) (Vg (fm O O) ?_));exact Gt 3 O O O
   refine aa O ?_;apply La 6 O O O O Y O O O O O
   ·intro acT;refine Vg (Yf yO O) (Vg (Yd 0 O O O ar) (Vg (Yf Bc O) (Vg (Yd 3 O O O eE) (Vg (Yn cz O) (Vg (iN O O) ?_)))));exact Gt 6 O O O
   refine ae O (Ln (Eb (Eb (Et (Cr (V0 (Yi O O O (by omega)) (aa O (Ln ?_))))))));exact Ea ((e3.1+1,x.at_,(((decide (0<=y.a)&&decide (y.a<=2048))&&decide (0<=x.m))&&decide (x.m<=(o.ag.length:Int)))):Nat×Int×Bool) (by show _-(e3.1+1)<_; omega) ⟨(by show e3.1+1<=_; omega),(congrArg (ot o.ag.length o.code (o.fix.drop (e3.1+1)) x.at_) (show (((decide (0<=y.a)&&decide (y.a<=2048))&&decide (0<=x.m))&&decide (x.m<=(o.ag.length:Int)))=kA o.ag.length o.code.length x.kind x.m y.a from ((by unfold kA; rw [if_neg jB,if_pos (.inr (by simpa using iY))])))).trans nY.symm⟩ (sc O (sc O (sc O (sc O (sc O (sc O (sc O (sc O (sc O sn))))))))) (λ_ h=>Wd 1 h)
  refine Cr (ae O (Ln (Eb (Eb (Et (Cr (V0 (Yi O O O (by omega)) (aa O (Ln ?_)))))))));exact Ea ((e3.1+1,x.at_,false):Nat×Int×Bool) (by show _-(e3.1+1)<_; omega) ⟨(by show e3.1+1<=_; omega),(congrArg (ot o.ag.length o.code (o.fix.drop (e3.1+1)) x.at_) (show false=kA o.ag.length o.code.length x.kind x.m y.a from ((by unfold kA; rw [if_neg jB,if_neg (λh=>h.elim e7 (by simpa using iY))])))).trans nY.symm⟩ (sc O (sc O (sc O (sc O (sc O (sc O (sc O (sc O (sc O sn))))))))) (λ_ h=>Wd 1 h)
 have vT:e3.1=o.fix.length:=by simp at bC; omega
 rw [vT,List.drop_length] at DS;have DS:e3.2.2=Cj o:=DS;refine Ce (Ex (Ex (bA (Et (Cs (ad (aa O (V0 (dK O) (aa O ?_)))))))));apply Lo 5 (x:=!(gv o.code.length o.main)) O O O O Y O O O O O
 ·intro S6;refine Vg (Ym O) (Vg (Yf HR O) (Vg (Yd 2 O O O ar) ?_));refine WL.Bv (.g O O O) O MI O O (λw hw=>MM (hv w) b3 o.code.length (o.main) w (kR w) (rH (hw.n8 1 O) O)) ?_;refine Vg (dK O) ?_;exact Gt 5 O O O
 refine ab ?_;refine Cc O (λj_=>?_) (λj_=>?_)
 ·refine ad (ae O (ab (aA (Er ?_))));refine R1 O O λw' hw=>?_;exact ⟨by rw [gw,H3,if_neg (by decide),<-DS,if_pos j_],hw.fr⟩
 refine aE (ad (ae O (ab (aA ?_))));refine R1 O O λw' hw=>?_;exact ⟨by rw [gw,H3,if_neg (by decide),<-DS,if_neg (by rw [j_]; decide)],hw.fr⟩
theorem wrap_u8 (n:Int):IntKind.u8.wrap n=((cy n).toNat:Int):=by
 unfold cy IntKind.wrap;simp [IntKind.signed,IntKind.bits];omega
theorem atP:∀(u:Value) (w:World),(callFunc 228 #[u]).run Tryz.prog w = .ok (.value u) w:=afJ Tryz.func228 (by kernel_rfl) (by kernel_rfl) (by kernel_rfl) (by kernel_rfl)
def mX (n:Int) (k:Nat):List UInt8:=(List.range k).map λj=>cy (n.fdiv (2 ^ (56-8*j)))
theorem atQ (n:Int):mX n 8=aF n:=by
 simp [mX,aF,List.range_succ,Int.fdiv_one]
theorem atS (n:Int) (k:Nat):mX n (k+1)=mX n k++[cy (n.fdiv (2 ^ (56-8*k)))]:=by simp [mX,List.range_succ]
theorem atT (n:Int) (k:Nat):(mX n k).length=k:=by simp [mX]
theorem atU (l:List Int):(l.flatMap aF).length=l.length*8:=by
 induction l with
 | nil=>rfl
 | cons x r ih=>simp only [List.flatMap_cons,List.length_append,ih,mF,List.length_cons]; omega
theorem jH (s:List UInt8):(aQ s).length=s.length+1:=rfl
theorem MN:Tryz.prog.underlying 160=some (.pointer 163):=by kernel_rfl
theorem Tv:cC Tryz.prog 163=some 2:=by kernel_rfl
theorem ady:Tryz.prog.underlying 320=some .unsafePointer:=by kernel_rfl
theorem atV:liesAt Tryz.prog Tryz.prog.depth 165 (2 / Tryz.prog.cellsOf 165) 0 163 1=true:=by kernel_rfl
theorem Tw:bw Tryz.prog 163 0=some 0:=by kernel_rfl
theorem adz:dQ Tryz.prog 160=true:=by kernel_rfl
theorem atW:cC Tryz.prog 160=some 1:=by kernel_rfl
theorem adA:Enters Tryz.prog 178:=enters_of Tryz.func178 (by kernel_rfl) rfl
theorem Be:bw Tryz.prog 163 1=some 1:=by kernel_rfl
theorem Ib:dQ Tryz.prog 161=true:=by kernel_rfl
theorem adB:cC Tryz.prog 161=some 1:=by kernel_rfl
theorem Ic:bw Tryz.prog 165 0=some 0:=by kernel_rfl
theorem atX:Enters Tryz.prog 143:=enters_of Tryz.func143 (by kernel_rfl) rfl
theorem DT:Enters Tryz.prog 82:=enters_of Tryz.func82 (by kernel_rfl) rfl
theorem atY:Enters Tryz.prog 142:=enters_of Tryz.func142 (by kernel_rfl) rfl
theorem MO:eo Tryz.prog 161=some 1:=by kernel_rfl
theorem atZ:Tryz.prog.underlying 250=some (.pointer 5):=by kernel_rfl
theorem at1:Tryz.prog.cellsOf 5=1:=by kernel_rfl
theorem at2:Tryz.prog.underlying 161=some (.slice 5):=by kernel_rfl
theorem adC (bp:Nat) (q:Option Addr) (v:Value) (w:World) (hq:q=none\/q=some ⟨bp,0,none⟩) (hw:Ws w [bp] [ah bp (.cells #[.pointer (q),v] 165 (0,0))] [] w) :
   Calls Tryz.prog 178 #[.pointer (some ⟨bp,0,none⟩)] w λe w'=>e = .returned (.tuple #[])/\Ws w [bp] [ah bp (.cells #[.pointer (some ⟨bp,0,none⟩),v] 165 (0,0))] [] w':=by
 refine enter Tryz.func178 O 20 O O ?_;refine CE hw (ad (aa O (V0 (bD O) (V0 (Yf Tw O) (V0 (Yd 0 O O O adz) (V0 (afK MN O) (ab ?_)))))));refine Cc O (λai=>?_) (λai=>?_)
 ·obtain rfl:q=none:=by cases q with | none=>rfl | some _=>simp at ai
  refine Cr (aa O (aa O (V0 (afG 0 MN ady Tv O O O) (V0 (afI atP O) (V0 (afH 0 ady MN Tv O (n:=2) O atV O) (V0 (bD O) (V0 (Yf Tw O) ?_)))))));refine an 0 Y O O O atW O O O (Ln ?_);refine E0 O λw' hw=>?_;exact ⟨O,hw⟩
 obtain rfl:q=some ⟨bp,0,none⟩:=by
   rcases hq with rfl | h
   · simp at ai
   · exact h
 refine ad (aa O (V0 (bD O) (V0 (Yf Tw O) (V0 (Yd 0 O O O adz) (aa O (V0 (afM MN Tv O O) (ab ?_)))))));refine WC.lj O ?_;refine Ck ?_;refine E0 O λw' hw=>?_;exact ⟨O,hw⟩
theorem at3 (bp:Nat) (q:Option Addr) (v:Value) (bs:List UInt8) (b:UInt8) (w:World) (hq:q=none\/q=some ⟨bp,0,none⟩) (hb:bs.length+1<=1099511627776) (hw:Ws w ([ah bp (.cells #[.pointer (q),v] 165 (0,0)),aY 5 1 v (bs).length ((bs).map bV)].flatMap ao.ids) [ah bp (.cells #[.pointer (q),v] 165 (0,0)),aY 5 1 v (bs).length ((bs).map bV)] [] w) :
   Calls Tryz.prog 143 #[.pointer (some ⟨bp,0,none⟩),.int .u8 (b.toNat:Int)] w λe w'=>∃v':Value,e = .returned (.nilIface)/\True/\Ws w ([ah bp (.cells #[.pointer (q),v] 165 (0,0)),aY 5 1 v (bs).length ((bs).map bV)].flatMap ao.ids) [ah bp (.cells #[.pointer (some ⟨bp,0,none⟩),v'] 165 (0,0)),aY 5 1 v' (bs++[b]).length ((bs++[b]).map bV)] [] w':=by
 refine enter Tryz.func143 O 17 O O ?_;refine CE hw (ad (ae O (ab (ad (aa O (eT [_] _ _ Y O adA O O [] (by simp) (λw hw=>adC bp q v w hq hw) (ab (ad (aa O ?_)))))))));refine aa O (V0 (bD O) (V0 (Yf Be O) (V0 (Yd 0 O O O Ib) (aa O ?_))));refine Lb Y O Qd O O O O λj4=>?_;refine WL.append 2 Y O Qd O O O (news:=[bV b]) O (λw hw j u hu=>UW hw 0 O (k:=j) hu) (λu hu=>by simp at hu; subst hu; rfl) (by unfold maxLen; omega) (by omega) (λv14 at5=>?_);refine WL.EC 2 (bs++[b]).length ((bs++[b]).map bV) O (by simp) (by simp) ?_;refine WL.UX 2 O λKk m14 Kl Ty=>?_;subst Ty;refine V0 (bD O) (V0 (Yf Be O) (an 1 Y O O O adB O O O (ab (ad (ae O (ab (aA ?_)))))));refine R1 O O λw' hw=>?_;exact ⟨_,O,trivial,Wd 1 hw⟩
theorem at6 (bp:Nat) (q:Option Addr) (v:Value) (bs:List UInt8) (s:List UInt8) (w:World) (hq:q=none\/q=some ⟨bp,0,none⟩) (hb:bs.length+s.length<=1099511627776) (hw:Ws w ([ah bp (.cells #[.pointer (q),v] 165 (0,0)),aY 5 1 v (bs).length ((bs).map bV)].flatMap ao.ids) [ah bp (.cells #[.pointer (q),v] 165 (0,0)),aY 5 1 v (bs).length ((bs).map bV)] [] w) :
   Calls Tryz.prog 142 #[.pointer (some ⟨bp,0,none⟩),st s] w λe w'=>∃v':Value,e = .returned (.tuple #[.int .i64 s.length,.nilIface])/\True/\Ws w ([ah bp (.cells #[.pointer (q),v] 165 (0,0)),aY 5 1 v (bs).length ((bs).map bV)].flatMap ao.ids) [ah bp (.cells #[.pointer (some ⟨bp,0,none⟩),v'] 165 (0,0)),aY 5 1 v' (bs++s).length ((bs++s).map bV)] [] w':=by
 refine enter Tryz.func142 O 19 O O ?_;refine CE hw (ad (ae O (ae O (ab (ad (aa O (eT [_] _ _ Y O adA O O [] (by simp) (λw hw=>adC bp q v w hq hw) (ab (ad ?_)))))))));refine aa O (aa O (V0 (bD O) (V0 (Yf Be O) (V0 (Yd 0 O O O Ib) (aa O ?_)))));refine WL.afQ 1 Y O Qd dy O O O (by omega) (λv14 at5=>?_);refine WL.EC 1 (bs++s).length ((bs++s).map bV) O (by simp) (by simp) ?_;refine WL.UX 1 O λKk m14 Kl Ty=>?_;subst Ty;refine V0 (bD O) (V0 (Yf Be O) (an 0 Y O O O adB O O O (ab (ad (aa O (V0 (qU dy O) (ae O (ae O ?_))))))));refine ab (aA ?_);refine WE.gi O O O λw' hw=>?_;exact ⟨_,O,trivial,hw⟩
theorem DU (bp:Nat) (q:Option Addr) (v:Value) (bs:List UInt8) (n:Int) (w:World) (hq:q=none\/q=some ⟨bp,0,none⟩) (hb:bs.length+1<=1099511627776) (hw:Ws w ([ah bp (.cells #[.pointer (q),v] 165 (0,0)),aY 5 1 v (bs).length ((bs).map bV)].flatMap ao.ids) [ah bp (.cells #[.pointer (q),v] 165 (0,0)),aY 5 1 v (bs).length ((bs).map bV)] [] w) :
   Calls Tryz.prog 82 #[.pointer (some ⟨bp,0,none⟩),.int .i64 n] w λe w'=>∃v':Value,e = .returned (.tuple #[])/\True/\Ws w ([ah bp (.cells #[.pointer (q),v] 165 (0,0)),aY 5 1 v (bs).length ((bs).map bV)].flatMap ao.ids) [ah bp (.cells #[.pointer (some ⟨bp,0,none⟩),v'] 165 (0,0)),aY 5 1 v' (bs++[cy n]).length ((bs++[cy n]).map bV)] [] w':=by
 refine enter Tryz.func82 O 10 O O ?_;refine CE hw (Cr (aa O (V0 (bD O) (V0 (Yf Ic O) (aa O (V0 (Bz ie CA O) ?_))))))
 refine Lw (ι:=Value) [_,_] _ Y O atX O O (λ_=>.nilIface) (λv'=>[ah bp (.cells #[.pointer (some ⟨bp,0,none⟩),v'] 165 (0,0)),aY 5 1 v' (bs++[cy n]).length ((bs++[cy n]).map bV)]) (λ_=>True) [] (by simp) (λw hw=>by
     have:=at3 bp q v bs (cy n) w hq hb hw;rw [<-wrap_u8] at this
     exact this) ?_
 intro v9 _;refine Ln ?_;refine E0 O λw' hw=>?_;exact ⟨_,O,trivial,hw⟩
theorem MQ (bp:Nat) (q:Option Addr) (v:Value) (bs:List UInt8) (s:List UInt8) (w:World) (hq:q=none\/q=some ⟨bp,0,none⟩) (hb:bs.length+s.length+1<=1099511627776) (hw:Ws w ([ah bp (.cells #[.pointer (q),v] 165 (0,0)),aY 5 1 v (bs).length ((bs).map bV)].flatMap ao.ids) [ah bp (.cells #[.pointer (q),v] 165 (0,0)),aY 5 1 v (bs).length ((bs).map bV)] [] w) :
   Calls Tryz.prog 80 #[.pointer (some ⟨bp,0,none⟩),st s] w λe w'=>∃v':Value,e = .returned (.tuple #[])/\True/\Ws w ([ah bp (.cells #[.pointer (q),v] 165 (0,0)),aY 5 1 v (bs).length ((bs).map bV)].flatMap ao.ids) [ah bp (.cells #[.pointer (some ⟨bp,0,none⟩),v'] 165 (0,0)),aY 5 1 v' (bs++aQ s).length ((bs++aQ s).map bV)] [] w':=by
 refine enter Tryz.func80 O 13 O O ?_;refine CE hw (ad (aa O (aa O (V0 (qU dy O) ?_))));refine Lw [_,_] _ Y O DT O O _ _ _ [] (by simp) (λw hw=>DU bp q v bs s.length w hq (by omega) hw) ?_;intro v7 _;refine ab (Cr (aa O (V0 (bD O) (V0 (Yf Ic O) (aa O ?_)))));refine Lw (ι:=Value) [_,_] _ Y O atY O O (λ_=>.tuple #[.int .i64 s.length,.nilIface]) (λv'=>[ah bp (.cells #[.pointer (some ⟨bp,0,none⟩),v'] 165 (0,0)),aY 5 1 v' (bs++[cy s.length]++s).length ((bs++[cy s.length]++s).map bV)]) (λ_=>True) [] (by simp) (λw hw=>at6 bp (some ⟨bp,0,none⟩) v7 (bs++[cy s.length]) s w (.inr O) (by simp; omega) hw) ?_;intro v12 _;refine Ln ?_;refine E0 O λw' hw=>?_;refine ⟨v12,O,trivial,?_⟩
 have e:bs++aQ s=bs++[cy s.length]++s:=by simp [aQ]
 rw [e];exact hw
theorem adD (bp:Nat) (q:Option Addr) (v:Value) (bs:List UInt8) (h0:bs≠[]) (w:World) (hq:q=none\/q=some ⟨bp,0,none⟩) (hb:bs.length+1<=1099511627776) (hw:Ws w ([ah bp (.cells #[.pointer (q),v] 165 (0,0)),aY 5 1 v (bs).length ((bs).map bV)].flatMap ao.ids) [ah bp (.cells #[.pointer (q),v] 165 (0,0)),aY 5 1 v (bs).length ((bs).map bV)] [] w) :
   Calls Tryz.prog 84 #[.pointer (some ⟨bp,0,none⟩)] w λe w'=>e = .returned (st bs)/\Ws w ([ah bp (.cells #[.pointer (q),v] 165 (0,0)),aY 5 1 v (bs).length ((bs).map bV)].flatMap ao.ids) [] [] w':=by
 have hlen:0<bs.length:=List.length_pos_iff.2 h0;refine enter Tryz.func84 O 14 O O ?_;refine CE hw (ad (ae O (ab (Cs ?_))));refine WC.shape 1 O hlen λbf cf hvf hcf Me=>?_;subst hvf;refine WC.mr 1 [(0,true),(1,true),(2,true),(3,true),(5,true),(6,true),(7,true),(8,true),(9,true),(4,false),(10,false),(11,true)] mixed (by kernel_rfl) (λ_ _ _ d _ h=>by cases d<;>exact h) ?_;refine D0 O (Wp 1) (Ym O) (D0 O (Wp 1) (bD O) (D0 O (Wp 1) (Yf Be O) (D0 O (Wp 1) (Yd 0 O O O Ib) (D0 O (Wp 1) (Ym O) (D0 O (Wp 1) (bD O) (D0 O (Wp 1) (Yf Be O) (D0 O (Wp 1) (Yd 0 O O O Ib) ?_)))))));refine D0 O (Wp 1) (Yn MO O) ?_;refine De O (Wp 1) ?_;refine V0 (afO (by omega) O) (Ln (Ed ?_));refine De O (Wp 1) ?_;refine WL.afS 1 Y O atZ at1 O O O O h0 (by omega) ?_;refine Ln (Ed (D0 O (Wp 1) (Ya O) ?_));refine WD.nil (Wp 1) ?_;refine Et (aA ?_);refine R1 O O λw' hw=>?_;exact ⟨O,Wd 1 hw⟩
theorem aua (bp:Nat) (q:Option Addr) (v:Value) (bs:List UInt8)  (w:World) (hq:q=none\/q=some ⟨bp,0,none⟩) (hb:bs.length+0<=1099511627776) (hw:Ws w ([ah bp (.cells #[.pointer (q),v] 165 (0,0)),aY 5 1 v (bs).length ((bs).map bV)].flatMap ao.ids) [ah bp (.cells #[.pointer (q),v] 165 (0,0)),aY 5 1 v (bs).length ((bs).map bV)] [] w) :
   Calls Tryz.prog 83 #[.pointer (some ⟨bp,0,none⟩)] w λe w'=>e = .returned (.int .i64 (bs.length:Int))/\Ws w ([ah bp (.cells #[.pointer (q),v] 165 (0,0)),aY 5 1 v (bs).length ((bs).map bV)].flatMap ao.ids) [ah bp (.cells #[.pointer (q),v] 165 (0,0)),aY 5 1 v (bs).length ((bs).map bV)] [] w':=by
 refine enter Tryz.func83 O 8 O O ?_;refine CE hw (ad (ae O (ab (ad (aa O (V0 (bD O) (V0 (Yf Be O) (V0 (Yd 0 O O O Ib) ?_))))))));refine WL.NT 1 O λa6 c6 hv6=>?_;subst hv6;refine V0 (Yn MO O) (ae O (ab (aA ?_)));refine R1 O O λw' hw=>?_;exact ⟨O,hw⟩
theorem uY (H:View) (a:Option Addr) (c:Nat) (l:List Int) (bp:Nat) (q:Option Addr) (v:Value) (bs:List UInt8) (w:World) (hm:Sl xM 1 H a c l) (hq:q=none\/q=some ⟨bp,0,none⟩) (hb:bs.length+l.length*8<=1099511627776) (hw:Ws w ([ah bp (.cells #[.pointer (q),v] 165 (0,0)),aY 5 1 v (bs).length ((bs).map bV)].flatMap ao.ids) [ah bp (.cells #[.pointer (q),v] 165 (0,0)),aY 5 1 v (bs).length ((bs).map bV)] [H] w) :
   Calls Tryz.prog 81 #[.pointer (some ⟨bp,0,none⟩),.slice a l.length c] w λe w'=>∃r:Option Addr×Value,e = .returned (.tuple #[])/\(r.1=none\/r.1=some ⟨bp,0,none⟩)/\Ws w ([ah bp (.cells #[.pointer (q),v] 165 (0,0)),aY 5 1 v (bs).length ((bs).map bV)].flatMap ao.ids) [ah bp (.cells #[.pointer (r.1),r.2] 165 (0,0)),aY 5 1 r.2 (bs++l.flatMap aF).length ((bs++l.flatMap aF).map bV)] [H] w':=by
 have dR:=hm.cap;have eQ:=hm.max;refine enter Tryz.func81 O 23 O O ?_;refine CE hw (ad (aa O (V0 (Yn iX O) (aa O (ab (Cb ?_))))));refine cq (ι:=Nat×Option Addr×Value) (λg=>[(9,.int .i64 (g.1:Int))]) [(0,_),(7,_),(8,_)] (λg=>Ws w ([ah bp (.cells #[.pointer (q),v] 165 (0,0)),aY 5 1 v (bs).length ((bs).map bV)].flatMap ao.ids) [ah bp (.cells #[.pointer (g.2.1),g.2.2] 165 (0,0)),aY 5 1 g.2.2 (bs++(l.take g.1).flatMap aF).length ((bs++(l.take g.1).flatMap aF).map bV)] [H]) (λg=>g.1<=l.length/\(g.2.1=none\/g.2.1=some ⟨bp,0,none⟩)) (λg=>l.length-g.1) (0,q,v) ⟨Nat.zero_le _,hq⟩ (sc O (sc O (sc O (sc O sn)))) (λ_ h=>by simpa using h) ?_;intro g ⟨hi,hp⟩;refine ad (V0 (bj O O) (ab (Cs ?_)));refine Cc O (λai=>?_) (λai=>?_)
 ·have av:g.1<l.length:=by simpa using ai
  obtain ⟨x,hx⟩:∃x,l[g.1]? = some x:=⟨_,List.getElem?_eq_getElem av⟩;obtain ⟨pb,po,ha,cw⟩:=hm.aS g.1 x hx;have cw:aR H pb (po+g.1*1) (eH x):=cw;refine aE (Cs (Cb (ad (V0 (Yo iX O O ha (by omega)) (V0 (bo 0 ar O O (cw 0 _ O)) (ae O (ab (ad (ae O (ab (Cb ?_)))))))))));refine cq (ι:=Nat×Option Addr×Value) (λk=>[(6,.int .i64 (56-8*(k.1:Int)))]) [(0,_),(5,_),(7,_),(8,_),(9,_)] (λk=>Ws w ([ah bp (.cells #[.pointer (q),v] 165 (0,0)),aY 5 1 v (bs).length ((bs).map bV)].flatMap ao.ids) [ah bp (.cells #[.pointer (k.2.1),k.2.2] 165 (0,0)),aY 5 1 k.2.2 (bs++(l.take g.1).flatMap aF++mX x k.1).length ((bs++(l.take g.1).flatMap aF++mX x k.1).map bV)] [H]) (λk=>k.1<=8/\(k.2.1=none\/k.2.1=some ⟨bp,0,none⟩)) (λk=>8-k.1) (0,g.2.1,g.2.2) ⟨Nat.zero_le _,hp⟩ (sc O (sc O (sc O (sc O (sc O (sc O sn)))))) (λ_ h=>by simpa [mX] using h) ?_;intro k ⟨hk,Py⟩;refine Cs (ad (aa O (V0 (fm O O) (ab ?_))));refine Cc O (λaw=>?_) (λaw=>?_)
  ·have hk8:k.1<8:=by simp at aw; omega
   refine aE (Cs (Cb (Cr (aa O (aa O (aa O (V0 (afN O O (by omega)) ?_)))))))
   refine Lw (ι:=Value) [_,_] _ Y O DT O O (λ_=>.tuple #[]) (λv'=>[ah bp (.cells #[.pointer (some ⟨bp,0,none⟩),v'] 165 (0,0)),aY 5 1 v' (bs++(l.take g.1).flatMap aF++mX x k.1++[cy (x.fdiv (2 ^ (56-8*k.1)))]).length ((bs++(l.take g.1).flatMap aF++mX x k.1++[cy (x.fdiv (2 ^ (56-8*k.1)))]).map bV)]) (λ_=>True) [] (by simp) (λw hw=>by
       have:=DU bp k.2.1 k.2.2 (bs++(l.take g.1).flatMap aF++mX x k.1) (x.fdiv (2 ^ (56-8*k.1))) w Py (by simp only [List.length_append,atU,atT,List.length_take,List.length_singleton]; omega) hw
       have e:min (56-8*(k.1:Int)).toNat IntKind.i64.bits=56-8*k.1:=by simp [IntKind.bits]; omega
       rw [e]
       exact this) ?_
   intro v21 _;refine Ln (Eb (Et (Cr (aa O (V0 (sX (56-8*((k.1+1:Nat):Int)) O O (by omega) (by omega)) (ae O (Ln ?_)))))))
   exact Ea ((k.1+1,some ⟨bp,0,none⟩,v21):Nat×Option Addr×Value) (by first | omega | (dsimp only; omega)) ⟨by first | omega | (dsimp only; omega),.inr O⟩ (sc O (sc O (sc O (sc O (sc O (sc O sn)))))) (λ_ h=>by
     have e:=atS x k.1
     show Ws _ _ [ah bp (.cells #[.pointer (some ⟨bp,0,none⟩),v21] 165 (0,0)),aY 5 1 v21 (bs++(l.take g.1).flatMap aF++mX x (k.1+1)).length ((bs++(l.take g.1).flatMap aF++mX x (k.1+1)).map bV)] _ _
     rw [e,<-List.append_assoc]
     exact h)
  have hk8:k.1=8:=by simp at aw; omega
  refine Ce (Ex (Ex (bA (Eb (Et (Cr (V0 (Yi O O O (by omega)) (aa O (Ln ?_)))))))))
  exact Ea ((g.1+1,k.2.1,k.2.2):Nat×Option Addr×Value) (by first | omega | (dsimp only; omega)) ⟨by first | omega | (dsimp only; omega),Py⟩ (sc O (sc O (sc O (sc O sn)))) (λ_ h=>by
    have e:bs++(l.take g.1).flatMap aF++mX x k.1=bs++(l.take (g.1+1)).flatMap aF:=by
      rw [hk8,atQ,List.take_add_one,hx]; simp
    rw [e] at h
    exact h)
 have lB:g.1=l.length:=by simp at ai; omega
 refine Ce (Ex (Ex (bA ?_)));refine E0 O λw' hw=>?_;rw [lB,List.take_length] at hw;exact ⟨(g.2.1,g.2.2),O,hp,hw⟩
def uZ:List PanicEntry:=[⟨.iface 278 (.agg #[]),false,false⟩]
theorem auc {s:List UInt8} {r:Int×List UInt8} (h:pc s=some r):0<=r.1/\r.1<256:=by
 cases s with
 | nil=>cases h
 | cons x q=>simp only [pc] at h; injection h with h; subst h; have:=x.toNat_lt; simp; omega
theorem Co {s:List UInt8} {r:Int×List UInt8} (h:pc s=some r):r.2.length<=s.length:=by
 cases s with
 | nil=>cases h
 | cons x q=>simp only [pc] at h; injection h with h; subst h; simp
theorem Cp {s:List UInt8} {r:List UInt8×List UInt8} (h:tC s=some r):r.2.length<=s.length:=by
 cases s with
 | nil=>cases h
 | cons x q=>simp only [tC] at h; split at h; cases h; injection h with h; subst h; simp; omega
theorem JH {s:List UInt8} {r:Int×List UInt8} (h:ou s=some r):r.2.length<=s.length:=by
 unfold ou at h; split at h; cases h; injection h with h; subst h; simp
theorem Ie:bw Tryz.prog 229 0=some 0:=by kernel_rfl
theorem aud:fo Tryz.prog 278=some []:=by kernel_rfl
theorem aue:zeroOf Tryz.prog 278=some (.agg #[]):=by kernel_rfl
theorem auf:Tryz.prog.concrete 278=true:=by kernel_rfl
theorem Tz:Enters Tryz.prog 131:=enters_of Tryz.func131 (by kernel_rfl) rfl
theorem TA:Enters Tryz.prog 58:=enters_of Tryz.func58 (by kernel_rfl) rfl
theorem na5:dQ Tryz.prog 5=true:=by kernel_rfl
theorem TB (bg:Nat) (s:List UInt8) (n:Nat) (w:World) (hs:s.length<=9223372036854775807) (hw:Ws w [bg] [ah bg (.cells #[st (s)] 229 (0,0))] [] w)  :
   Calls Tryz.prog 131 #[.pointer (some ⟨bg,0,none⟩),.int .i64 (n:Int)] w λe w'=>(∃r:List UInt8×List UInt8,e = .returned (st r.1)/\(if s.length<n then none else some (s.take n,s.drop n))=some r/\Ws w [bg] [ah bg (.cells #[st (r.2)] 229 (0,0))] [] w')\/(∃t:List UInt8,e = .panicked uZ/\(if s.length<n then none else some (s.take n,s.drop n))=none/\Ws w [bg] [ah bg (.cells #[st (t)] 229 (0,0))] [] w'):=by
 refine enter Tryz.func131 O 31 O O ?_;refine CE hw (ad (ae O (ab (Cs (ad (aa O (aa O (V0 (bD O) (V0 (Yf Ie O) ?_)))))))));refine V0 (Yd 0 O O O bW) (V0 (qU dy O) (V0 (cI O O) (ab ?_)));refine Cc O (λai=>?_) (λai=>?_)
 ·have av:s.length<n:=by simpa using ai
  refine Cr (V0 (Yb aue aud O O) (V0 (rh auf O) ?_));refine WL.panic Y O ?_;refine Ep ?_;refine bc λw' hw=>?_;exact .inr ⟨s,O,by rw [if_pos av],hw⟩
 have av:¬s.length<n:=by simpa using ai
 refine aE (ad (aa O (V0 (bD O) (V0 (Yf Ie O) (V0 (Yd 0 O O O bW) (aa O (V0 (N1 dy O O (by omega) (by omega)) (ae O ?_))))))));refine ab (ad (aa O (aa O (V0 (bD O) (V0 (Yf Ie O) (V0 (Yd 0 O O O bW) (aa O (V0 (IZ dy O O (by omega) (by omega)) ?_))))))));refine V0 (bD O) (V0 (Yf Ie O) (an 0 Y O O O yj O O O (ab (ad (aa O (ae O (ab (aA ?_))))))));refine R1 O O λw' hw=>?_;exact .inl ⟨(s.take n,s.drop n),O,by rw [if_neg av],hw⟩
theorem TC (bg:Nat) (s:List UInt8)  (w:World) (hs:s.length<=9223372036854775807) (hw:Ws w [bg] [ah bg (.cells #[st (s)] 229 (0,0))] [] w) :
   Calls Tryz.prog 58 #[.pointer (some ⟨bg,0,none⟩)] w λe w'=>(∃r:Int×List UInt8,e = .returned (.int .i64 r.1)/\pc s=some r/\Ws w [bg] [ah bg (.cells #[st (r.2)] 229 (0,0))] [] w')\/(∃t:List UInt8,e = .panicked uZ/\pc s=none/\Ws w [bg] [ah bg (.cells #[st (t)] 229 (0,0))] [] w'):=by
 refine enter Tryz.func58 O 7 O O ?_;refine CE hw (ad (ae O (ab (ad (aa O ?_)))));refine cW [_] _ Y O Tz O O _ _ _ _ _ _ ([]) (by simp) (λw hw=>TB bg (s) 1 w hs hw) ?_ ?_
 ·intro t ht;refine Ep ?_;refine bc λw' hw=>?_;exact .inr ⟨t,O,(by cases s with | nil=>rfl | cons x q=>simp at ht),hw⟩
 intro r hr
 obtain ⟨x,q,rfl⟩:∃x q,s=x::q:=by
   cases s with
   | nil=>simp at hr
   | cons x q=>exact ⟨x,q,rfl⟩
 obtain rfl:r=([x],q):=by simp at hr; exact hr.symm
 refine V0 (y6 dy O O (u:=x) O) (V0 (Bz CA ie O) (ae O (ab (aA ?_))));refine R1 O O λw' hw=>?_;refine .inl ⟨((x.toNat:Int),q),?_,O,hw⟩;rw [show IntKind.i64.wrap (x.toNat:Int)=(x.toNat:Int) from Bs (by have:=x.toNat_lt; omega)]
theorem adF (bg:Nat) (s:List UInt8)  (w:World) (hs:s.length<=9223372036854775807) (hw:Ws w [bg] [ah bg (.cells #[st (s)] 229 (0,0))] [] w) :
   Calls Tryz.prog 53 #[.pointer (some ⟨bg,0,none⟩)] w λe w'=>(∃r:List UInt8×List UInt8,e = .returned (st r.1)/\tC s=some r/\Ws w [bg] [ah bg (.cells #[st (r.2)] 229 (0,0))] [] w')\/(∃t:List UInt8,e = .panicked uZ/\tC s=none/\Ws w [bg] [ah bg (.cells #[st (t)] 229 (0,0))] [] w'):=by
 refine enter Tryz.func53 O 7 O O ?_;refine CE hw (ad (ae O (ab (ad (aa O (aa O ?_))))));refine cW [_] _ Y O TA O O _ _ _ _ _ _ ([]) (by simp) (λw hw=>TC bg (s)  w hs hw) ?_ ?_
 ·intro t ht;refine Ep ?_;refine bc λw' hw=>?_;exact .inr ⟨t,O,(by cases s with | nil=>rfl | cons x q=>cases ht),hw⟩
 intro r hr
 obtain ⟨x,q,rfl⟩:∃x q,s=x::q:=by
   cases s with
   | nil=>cases hr
   | cons x q=>exact ⟨x,q,rfl⟩
 obtain rfl:r=((x.toNat:Int),q):=by simp only [pc] at hr; injection hr with hr; exact hr.symm
 refine cW (ι:=List UInt8×List UInt8) (κ:=List UInt8) [_] _ Y O Tz O O (λr=>st r.1) (λr=>[ah bg (.cells #[st (r.2)] 229 (0,0))]) (λr=>(if q.length<x.toNat then none else some (q.take x.toNat,q.drop x.toNat))=some r) (λ_=>uZ) (λt=>[ah bg (.cells #[st (t)] 229 (0,0))]) (λ_=>(if q.length<x.toNat then none else some (q.take x.toNat,q.drop x.toNat))=none) ([]) (by simp) (λw hw=>TB bg (q) x.toNat w (by simp at hs; omega) hw) ?_ ?_
 ·intro t ht;refine Ep ?_;refine bc λw' hw=>?_;exact .inr ⟨t,O,ht,hw⟩
 intro r hr;refine ae O (ab (aA ?_));refine R1 O O λw' hw=>?_;exact .inl ⟨r,O,hr,hw⟩
theorem adG (bg:Nat) (s:List UInt8)  (w:World) (hs:s.length<=9223372036854775807) (hw:Ws w [bg] [ah bg (.cells #[st (s)] 229 (0,0))] [] w) :
   Calls Tryz.prog 55 #[.pointer (some ⟨bg,0,none⟩)] w λe w'=>(∃r:Int×List UInt8,e = .returned (.int .i64 r.1)/\ou s=some r/\Ws w [bg] [ah bg (.cells #[st (r.2)] 229 (0,0))] [] w')\/(∃t:List UInt8,e = .panicked uZ/\ou s=none/\Ws w [bg] [ah bg (.cells #[st (t)] 229 (0,0))] [] w'):=by
 refine enter Tryz.func55 O 21 O O ?_;refine CE hw (ad (ae O (ab (ad (ae O (ab (Cs (ad (aa O ?_)))))))));refine cW [_] _ Y O Tz O O _ _ _ _ _ _ ([]) (by simp) (λw hw=>TB bg (s) 8 w hs hw) ?_ ?_
 ·intro t ht;refine Ep (Ep ?_);refine bc λw' hw=>?_;exact .inr ⟨t,O,(by unfold ou; split; rfl; rename_i h; rw [if_neg h] at ht; cases ht),hw⟩
 intro r hr
 have h8:¬s.length<8:=by intro h; rw [if_pos h] at hr; cases hr
 rw [if_neg h8] at hr;obtain ⟨q,u⟩:=r
 injection hr with hr
 injection hr with hq hu
 have ZT:q.length=8:=by rw [<-hq]; simp; omega
 dsimp only;refine WL.s2b Y O dy at2 CA O λb8 c8 k8=>?_;refine V0 (Yn MO O) (aa O (ab (Cb ?_)));refine CW (ι:=Nat) (λi=>[(10,.int .i64 (i:Int)),(3,.int .i64 (numOf (q.take i)))]) [(2,_),(8,_),(9,_)] (λi=>i<=8) (λi=>8-i) 0 (Nat.zero_le _) (sc O (sc O (sc O (sc O (sc O sn))))) ?_;intro i hi;refine ad (V0 (bj O O) (ab (Cs ?_)));refine Cc O (λai=>?_) (λai=>?_)
 ·have av:i<8:=by simp at ai; omega
  obtain ⟨x,hx⟩:∃x,q[i]? = some x:=⟨_,List.getElem?_eq_getElem (by omega)⟩;refine aE (Cs (Cb (ad (V0 (IC MO O O (by omega)) ?_))));refine V0 (Yd 0 O O (v:=bV x) (by simp only [fT,Nat.zero_add,Nat.mul_one]; rw [List.getElem?_append_left (by simp; omega)]; simp [hx]) na5) ?_;refine ae O (ab (Cr (aa O (V0 (af' 8 O O (by decide)) (aa O (V0 (Bz CA ie O) (V0 (agb (n:=numOf (q.take i)) (b:=x.toNat) O (by rw [show IntKind.i64.wrap (x.toNat:Int)=(x.toNat:Int) from Bs (by have:=x.toNat_lt; omega)]; rfl) (x.toNat_lt)) (ae O ?_))))))));refine Ln (Eb (Et (Cr (V0 (Yi O O O (by omega)) (aa O (Ln ?_))))));rw [show IntKind.i64.wrap (numOf (q.take i)*256+(x.toNat:Nat))=numOf (q.take (i+1)) by rw [List.take_add_one,hx]; simp [numOf]];exact Ea (i+1) (by omega) (by omega) (sc O (sc O (sc O (sc O (sc O sn))))) (λ_ h=>h)
 have lB:i=8:=by simp at ai; omega
 refine Ce (Ex (Ex (bA (Et (ad (aa O (ae O (ab (aA ?_)))))))));refine R1 O O λw' hw=>?_;subst lB;exact .inl ⟨(numOf q,u),by rw [List.take_of_length_le (by omega)],by rw [ou,if_neg h8,hq,hu],Wd 1 hw⟩
theorem adH {c:List aU} {x:Int} {p:Nat} {y:aU} (h:x.toNat=p) (hy:c[p]? = some y):l5 c x=y.a:=by unfold l5; rw [h,hy]; rfl
theorem MR {α β:Type} {f:α->List β} {l:List α} {i:Nat} {x:α} (h:l[i]? = some x):(l.take (i+1)).flatMap f=(l.take i).flatMap f++f x:=by
 rw [List.take_add_one,h]; simp
theorem auh:bw Tryz.prog 108 2=some 2:=by kernel_rfl
theorem wV {b:Nat} {T:TypeId} {fz:Nat×Nat} (l:List Int) (hl:l.length<=2):Sl xM 1 (bv b (.cells (l.flatMap eH).toArray T fz)) (some ⟨b,0,none⟩) l.length l:=
 ⟨Nat.le_refl _,by omega,by simp,λi y hy=>⟨b,0,rfl,λk u hk=>afT (by
   have jB:k<1:=(List.getElem?_eq_some_iff.1 hk).1
   show fT (.cells (l.flatMap eH).toArray T fz) (0+i*1+k)=some u
   simp only [fT,List.getElem?_toArray,Nat.zero_add];rw [ve Wk hy jB]
   exact hk)⟩⟩
theorem adI:Enters Tryz.prog 62:=enters_of Tryz.func62 (by kernel_rfl) rfl
theorem adJ:fo Tryz.prog 165=some [(0,2)]:=by kernel_rfl
theorem adK:zeroOf Tryz.prog 165=some (.agg #[.pointer none,.slice none 0 0]):=by kernel_rfl
theorem MS:Enters Tryz.prog 80:=enters_of Tryz.func80 (by kernel_rfl) rfl
theorem u3:Enters Tryz.prog 81:=enters_of Tryz.func81 (by kernel_rfl) rfl
theorem aui:Enters Tryz.prog 83:=enters_of Tryz.func83 (by kernel_rfl) rfl
theorem adL:Enters Tryz.prog 84:=enters_of Tryz.func84 (by kernel_rfl) rfl
theorem auj (H:View) (o:aP) (q:oq) (w:World) (hH:Le H w) (hm:rW H q o) :
   Calls Tryz.prog 27 #[.agg (jj o q).toArray] w λe w'=>e = .returned (.tuple #[st (tG o).1,.int .i64 (tG o).2])/\Ext w w':=by
 have atG:=hm.ag.cap;have atH:=hm.ag.max;have atI:=hm.code.cap;have atJ:=hm.code.max;have atK:=hm.fix.cap;have atL:=hm.fix.max;have atM:=hm.bU.cap;have atN:=hm.bU.max;have aAZ:=hm.bU;refine enter Tryz.func27 O 119 O O ?_;refine CE (Vs:=[H]) (Ws.init (by simp [hH])) (ad ?_);refine WL.box Y O O λb1=>?_;refine ae O (ae O (ab (Cs (ad (V0 (bk 0 O O pM O) (Lp Y O adI O (λw hw=>adx H o q w (hw.vs _ (by simp)) hm) (ae O (ab (ad (aa O ?_))))))))));refine V0 (eL O O) (ab ?_);refine Cc O (λai=>?_) (λai=>?_)
 ·have hz:¬gw o=0:=by simpa using ai
  refine ad (aa O (ae O (ae O (ab (aA (Er ?_))))));refine WE.gi O O O λw' hw=>?_;exact ⟨by rw [tG,if_neg hz]; rfl,hw.fr⟩
 have hz:gw o=0:=by simpa using ai
 have hl:=Cn hz;have hu3:=hl.ag;have Dx:=hl.fix;have he6:=hl.bU;have Cx:=hl.nm;have auk:=hl.us o.ag.length;rw [List.take_length] at auk;have aul:=hl.co o.code.length;rw [List.take_length] at aul;have aum:=hl.fx o.fix.length;rw [List.take_length] at aum;have aun:=hl.en o.bU.length;rw [List.take_length] at aun;refine aE (ad (V0 (Yb adK adJ O O) ?_));refine WL.box Y O O λck=>?_;refine LW (λ_ h=>h.eM 5 1) (ae O (ab (ad (aa O (V0 (Yf H0 O) (V0 (Yd 2 O O O bW) (Lf 1 O ?_)))))));refine Lw (ι:=Value) [_,_] _ Y O MS O O (λ_=>.tuple #[]) (λv'=>[ah ck (.cells #[.pointer (some ⟨ck,0,none⟩),v'] 165 (0,0)),aY 5 1 v' (aQ o.nm).length ((aQ o.nm).map bV)]) (λ_=>True) [] (by simp) (λw hw=>MQ ck none (.slice none 0 0) [] o.nm w Y (by simp; omega) hw) ?_;intro v22 _;refine ab (ad (aa O (V0 (Yf Bc O) (V0 (Yd 2 O O O eE) (V0 (Yn cz O) ?_)))));refine Lb Y O iZ O O O O λux=>?_;refine bL 0 (.cells (([(o.ag.length:Int)]:List Int).flatMap eH).toArray 3 (0,0)) O O ?_;refine WL.mu 0 O ?_;refine Lw (ι:=Option Addr×Value) [_,_] _ Y O u3 O O (λ_=>.tuple #[]) (λr=>[ah ck (.cells #[.pointer (r.1),r.2] 165 (0,0)),aY 5 1 r.2 (aQ o.nm++[(o.ag.length:Int)].flatMap aF).length ((aQ o.nm++[(o.ag.length:Int)].flatMap aF).map bV)]) (λr=>r.1=none\/r.1=some ⟨ck,0,none⟩) [bv ux (.cells (([(o.ag.length:Int)]:List Int).flatMap eH).toArray 3 (0,0))] (by simp) (λw hw=>uY (bv ux (.cells (([(o.ag.length:Int)]:List Int).flatMap eH).toArray 3 (0,0))) (some ⟨ux,0,none⟩) 1 [(o.ag.length:Int)] ck (some ⟨ck,0,none⟩) v22 (aQ o.nm) w (wV _ (by simp)) (.inr O) (by simp only [List.length_append,jH,mF,List.length_singleton,List.flatMap_cons,List.flatMap_nil,List.length_cons,List.length_nil,List.append_nil]; omega) hw) ?_;intro DV auo;refine ab (Cs (ad (V0 (Yf Bc O) (V0 (Yd 2 O O O eE) (V0 (Yn cz O) (aa O (ab (Cb ?_))))))))
 refine cq (ι:=Nat×Option Addr×Value) (λg=>[(32,.int .i64 (g.1:Int))]) [(1,_),(2,_),(3,_),(5,_),(30,_),(31,_)] (λg=>Ws w [] ([ah ck (.cells #[.pointer (g.2.1),g.2.2] 165 (0,0)),aY 5 1 g.2.2 (aQ o.nm++[(o.ag.length:Int)].flatMap aF++(o.ag.take g.1).flatMap aQ).length ((aQ o.nm++[(o.ag.length:Int)].flatMap aF++(o.ag.take g.1).flatMap aQ).map bV)]++[ah b1 (.cells (jj o q).toArray 56 (0,0))]) [H]) (λg=>g.1<=o.ag.length/\(g.2.1=none\/g.2.1=some ⟨ck,0,none⟩)) (λg=>o.ag.length-g.1) ((0,DV.1,DV.2):Nat×Option Addr×Value) ⟨Nat.zero_le _,auo⟩ (sc O (sc O (sc O (sc O (sc O (sc O (sc O sn))))))) (λ_ h=>by
   have h:=Ws.bF h (a_:=[H]) (by simp);simp only [List.take_zero,List.flatMap_nil,List.append_nil]
   exact h) ?_
 intro g ⟨oP,hp⟩;refine ad (V0 (bj O O) (ab (Cs ?_)));refine Cc O (λaw=>?_) (λaw=>?_)
 ·have av:g.1<o.ag.length:=by simpa using aw
  obtain ⟨x,bn⟩:∃q,o.ag[g.1]? = some q:=⟨_,List.getElem?_eq_getElem av⟩;obtain ⟨dW,dX,dZ,cg⟩:=hm.ag.aS g.1 x bn;have cg:aR H dW (dX+g.1*1) (cM x):=cg;have hbg:=hl.us g.1;have hxn:=hl.un x (List.mem_of_getElem? bn);refine aE (Cs (Cb (ad (V0 (Yo cz O O dZ av) (V0 (bo 0 bW O O (cg 0 _ O)) (ae O (ab (Cr (aa O (aa O ?_))))))))));refine Lw (ι:=Value) [_,_] _ Y O MS O O (λ_=>.tuple #[]) (λv'=>[ah ck (.cells #[.pointer (some ⟨ck,0,none⟩),v'] 165 (0,0)),aY 5 1 v' (aQ o.nm++[(o.ag.length:Int)].flatMap aF++(o.ag.take g.1).flatMap aQ++aQ x).length ((aQ o.nm++[(o.ag.length:Int)].flatMap aF++(o.ag.take g.1).flatMap aQ++aQ x).map bV)]) (λ_=>True) [] (by simp) (λw hw=>MQ ck (g.2.1) g.2.2 (aQ o.nm++[(o.ag.length:Int)].flatMap aF++(o.ag.take g.1).flatMap aQ) x w hp (by simp only [List.length_append,jH,mF,List.length_singleton,List.flatMap_cons,List.flatMap_nil,List.length_cons,List.length_nil,List.append_nil]; omega) hw) ?_;intro TD _;refine Ln (Eb (Et (Cr (V0 (Yi O O O (by omega)) (aa O (Ln ?_))))))
  exact Ea ((g.1+1,some ⟨ck,0,none⟩,TD):Nat×Option Addr×Value) (by show _-(g.1+1)<_; omega) ⟨(by show g.1+1<=_; omega),.inr O⟩ (sc O (sc O (sc O (sc O (sc O (sc O (sc O sn))))))) (λ_ h=>by
    have h:=Ws.bF h (a_:=[H]) (by simp)
    have e:aQ o.nm++[(o.ag.length:Int)].flatMap aF++(o.ag.take g.1).flatMap aQ++aQ x=aQ o.nm++[(o.ag.length:Int)].flatMap aF++(o.ag.take (g.1+1)).flatMap aQ:=by rw [MR bn]; simp [dM,ga]
    rw [e] at h
    exact h)
 have bP:g.1=o.ag.length:=by simp at aw; omega
 rw [bP,List.take_length];refine Ce (Ex (Ex (bA (Et (ad (aa O (V0 (Yf MH O) (V0 (Yd 2 O O O ar) (V0 (Yf mV O) (V0 (Yd 2 O O O kb) (V0 (Yn kf O) ?_)))))))))));refine Lb Y O iZ O O O O λDN=>?_;refine bL 0 (.cells (([o.data,(o.code.length:Int)]:List Int).flatMap eH).toArray 3 (0,0)) O O ?_;refine WL.mu 0 O ?_;refine Lw (ι:=Option Addr×Value) [_,_] _ Y O u3 O O (λ_=>.tuple #[]) (λr=>[ah ck (.cells #[.pointer (r.1),r.2] 165 (0,0)),aY 5 1 r.2 (aQ o.nm++[(o.ag.length:Int)].flatMap aF++o.ag.flatMap aQ++[o.data,(o.code.length:Int)].flatMap aF).length ((aQ o.nm++[(o.ag.length:Int)].flatMap aF++o.ag.flatMap aQ++[o.data,(o.code.length:Int)].flatMap aF).map bV)]) (λr=>r.1=none\/r.1=some ⟨ck,0,none⟩) [bv DN (.cells (([o.data,(o.code.length:Int)]:List Int).flatMap eH).toArray 3 (0,0))] (by simp) (λw hw=>uY (bv DN (.cells (([o.data,(o.code.length:Int)]:List Int).flatMap eH).toArray 3 (0,0))) (some ⟨DN,0,none⟩) 2 [o.data,(o.code.length:Int)] ck (g.2.1) g.2.2 (aQ o.nm++[(o.ag.length:Int)].flatMap aF++o.ag.flatMap aQ) w (wV _ (by simp)) hp (by simp only [List.length_append,jH,mF,List.length_singleton,List.flatMap_cons,List.flatMap_nil,List.length_cons,List.length_nil,List.append_nil]; omega) hw) ?_;intro sz auq;refine ab (Cs (ad (V0 (Yf mV O) (V0 (Yd 2 O O O kb) (V0 (Yn kf O) (aa O (ab (Cb ?_))))))))
 refine cq (ι:=Nat×Option Addr×Value) (λg=>[(51,.int .i64 (g.1:Int))]) [(1,_),(2,_),(3,_),(5,_),(49,_),(50,_)] (λg=>Ws w [] ([ah ck (.cells #[.pointer (g.2.1),g.2.2] 165 (0,0)),aY 5 1 g.2.2 (aQ o.nm++[(o.ag.length:Int)].flatMap aF++o.ag.flatMap aQ++[o.data,(o.code.length:Int)].flatMap aF++(o.code.take g.1).flatMap dM).length ((aQ o.nm++[(o.ag.length:Int)].flatMap aF++o.ag.flatMap aQ++[o.data,(o.code.length:Int)].flatMap aF++(o.code.take g.1).flatMap dM).map bV)]++[ah b1 (.cells (jj o q).toArray 56 (0,0))]) [H]) (λg=>g.1<=o.code.length/\(g.2.1=none\/g.2.1=some ⟨ck,0,none⟩)) (λg=>o.code.length-g.1) ((0,sz.1,sz.2):Nat×Option Addr×Value) ⟨Nat.zero_le _,auq⟩ (sc O (sc O (sc O (sc O (sc O (sc O (sc O sn))))))) (λ_ h=>by
   have h:=Ws.bF h (a_:=[H]) (by simp);simp only [List.take_zero,List.flatMap_nil,List.append_nil]
   exact h) ?_
 intro g ⟨oP,hp⟩;refine ad (V0 (bj O O) (ab (Cs ?_)));refine Cc O (λaO=>?_) (λaO=>?_)
 ·have av:g.1<o.code.length:=by simpa using aO
  obtain ⟨x,bn⟩:∃q,o.code[g.1]? = some q:=⟨_,List.getElem?_eq_getElem av⟩;obtain ⟨dW,dX,dZ,cg⟩:=hm.code.aS g.1 x bn;have cg:aR H dW (dX+g.1*3) x.cells:=cg;have hbg:=hl.co g.1;refine aE (Cs (Cb (ad (V0 (Yo kf O O dZ av) (V0 (cJ 0 HA O O O (cg)) ?_)))));refine Al Y O gA λb9=>?_;refine an 0 Y O O O adw O O O (ab (Cs (fg 0 (.cells (x.cells).toArray 108 (0,0)) O O (Cr (aa O (V0 (Yf Ts O) (V0 (Yd 0 O O O ar) (Lf 2 O ?_))))))));refine Lf 2 O ?_;refine Lw (ι:=Value) [_,_] _ Y O DT O O (λ_=>.tuple #[]) (λv'=>[ah ck (.cells #[.pointer (some ⟨ck,0,none⟩),v'] 165 (0,0)),aY 5 1 v' (aQ o.nm++[(o.ag.length:Int)].flatMap aF++o.ag.flatMap aQ++[o.data,(o.code.length:Int)].flatMap aF++(o.code.take g.1).flatMap dM++[cy x.op]).length ((aQ o.nm++[(o.ag.length:Int)].flatMap aF++o.ag.flatMap aQ++[o.data,(o.code.length:Int)].flatMap aF++(o.code.take g.1).flatMap dM++[cy x.op]).map bV)]) (λ_=>True) [] (by simp) (λw hw=>DU ck (g.2.1) g.2.2 (aQ o.nm++[(o.ag.length:Int)].flatMap aF++o.ag.flatMap aQ++[o.data,(o.code.length:Int)].flatMap aF++(o.code.take g.1).flatMap dM) x.op w hp (by simp only [List.length_append,jH,mF,List.length_singleton,List.flatMap_cons,List.flatMap_nil,List.length_cons,List.length_nil,List.append_nil]; omega) hw) ?_;intro v58 _;refine ab (Cr (aa O (V0 (Yf HC O) (V0 (Yd 2 O O O ar) (V0 (Yf auh O) (V0 (Yd 2 O O O ar) ?_))))));refine Lb Y O iZ O O O O λHy=>?_;refine bL 0 (.cells (([x.a,x.b]:List Int).flatMap eH).toArray 3 (0,0)) O O ?_;refine WL.mu 0 O ?_;refine Lw (ι:=Option Addr×Value) [_,_] _ Y O u3 O O (λ_=>.tuple #[]) (λr=>[ah ck (.cells #[.pointer (r.1),r.2] 165 (0,0)),aY 5 1 r.2 (aQ o.nm++[(o.ag.length:Int)].flatMap aF++o.ag.flatMap aQ++[o.data,(o.code.length:Int)].flatMap aF++(o.code.take g.1).flatMap dM++[cy x.op]++[x.a,x.b].flatMap aF).length ((aQ o.nm++[(o.ag.length:Int)].flatMap aF++o.ag.flatMap aQ++[o.data,(o.code.length:Int)].flatMap aF++(o.code.take g.1).flatMap dM++[cy x.op]++[x.a,x.b].flatMap aF).map bV)]) (λr=>r.1=none\/r.1=some ⟨ck,0,none⟩) [bv Hy (.cells (([x.a,x.b]:List Int).flatMap eH).toArray 3 (0,0))] (by simp) (λw hw=>uY (bv Hy (.cells (([x.a,x.b]:List Int).flatMap eH).toArray 3 (0,0))) (some ⟨Hy,0,none⟩) 2 [x.a,x.b] ck (some ⟨ck,0,none⟩) v58 (aQ o.nm++[(o.ag.length:Int)].flatMap aF++o.ag.flatMap aQ++[o.data,(o.code.length:Int)].flatMap aF++(o.code.take g.1).flatMap dM++[cy x.op]) w (wV _ (by simp)) (.inr O) (by simp only [List.length_append,jH,mF,List.length_singleton,List.flatMap_cons,List.flatMap_nil,List.length_cons,List.length_nil,List.append_nil]; omega) hw) ?_;intro Dm aus;refine Ln (Eb (Et (Cr (V0 (Yi O O O (by omega)) (aa O (Ln ?_))))))
  exact Ea ((g.1+1,Dm.1,Dm.2):Nat×Option Addr×Value) (by show _-(g.1+1)<_; omega) ⟨(by show g.1+1<=_; omega),aus⟩ (sc O (sc O (sc O (sc O (sc O (sc O (sc O sn))))))) (λ_ h=>by
    have h:=Ws.out 2 h;have h:=Ws.bF h (a_:=[H]) (by simp)
    have e:aQ o.nm++[(o.ag.length:Int)].flatMap aF++o.ag.flatMap aQ++[o.data,(o.code.length:Int)].flatMap aF++(o.code.take g.1).flatMap dM++[cy x.op]++[x.a,x.b].flatMap aF=aQ o.nm++[(o.ag.length:Int)].flatMap aF++o.ag.flatMap aQ++[o.data,(o.code.length:Int)].flatMap aF++(o.code.take (g.1+1)).flatMap dM:=by rw [MR bn]; simp [dM,ga]
    rw [e] at h
    exact h)
 have bP:g.1=o.code.length:=by simp at aO; omega
 rw [bP,List.take_length];refine Ce (Ex (Ex (bA (Et (ad (aa O (V0 (Yf AX O) (V0 (Yd 2 O O O DK) (V0 (Yn wT O) ?_)))))))));refine Lb Y O iZ O O O O λKB=>?_;refine bL 0 (.cells (([(o.fix.length:Int)]:List Int).flatMap eH).toArray 3 (0,0)) O O ?_;refine WL.mu 0 O ?_;refine Lw (ι:=Option Addr×Value) [_,_] _ Y O u3 O O (λ_=>.tuple #[]) (λr=>[ah ck (.cells #[.pointer (r.1),r.2] 165 (0,0)),aY 5 1 r.2 (aQ o.nm++[(o.ag.length:Int)].flatMap aF++o.ag.flatMap aQ++[o.data,(o.code.length:Int)].flatMap aF++o.code.flatMap dM++[(o.fix.length:Int)].flatMap aF).length ((aQ o.nm++[(o.ag.length:Int)].flatMap aF++o.ag.flatMap aQ++[o.data,(o.code.length:Int)].flatMap aF++o.code.flatMap dM++[(o.fix.length:Int)].flatMap aF).map bV)]) (λr=>r.1=none\/r.1=some ⟨ck,0,none⟩) [bv KB (.cells (([(o.fix.length:Int)]:List Int).flatMap eH).toArray 3 (0,0))] (by simp) (λw hw=>uY (bv KB (.cells (([(o.fix.length:Int)]:List Int).flatMap eH).toArray 3 (0,0))) (some ⟨KB,0,none⟩) 1 [(o.fix.length:Int)] ck (g.2.1) g.2.2 (aQ o.nm++[(o.ag.length:Int)].flatMap aF++o.ag.flatMap aQ++[o.data,(o.code.length:Int)].flatMap aF++o.code.flatMap dM) w (wV _ (by simp)) hp (by simp only [List.length_append,jH,mF,List.length_singleton,List.flatMap_cons,List.flatMap_nil,List.length_cons,List.length_nil,List.append_nil]; omega) hw) ?_;intro Ai aut;refine ab (Cs (ad (V0 (Yf AX O) (V0 (Yd 2 O O O DK) (V0 (Yn wT O) (aa O (ab (Cb ?_))))))))
 refine cq (ι:=Nat×Option Addr×Value) (λg=>[(76,.int .i64 (g.1:Int))]) [(1,_),(2,_),(3,_),(5,_),(74,_),(75,_)] (λg=>Ws w [] ([ah ck (.cells #[.pointer (g.2.1),g.2.2] 165 (0,0)),aY 5 1 g.2.2 (aQ o.nm++[(o.ag.length:Int)].flatMap aF++o.ag.flatMap aQ++[o.data,(o.code.length:Int)].flatMap aF++o.code.flatMap dM++[(o.fix.length:Int)].flatMap aF++(o.fix.take g.1).flatMap ga).length ((aQ o.nm++[(o.ag.length:Int)].flatMap aF++o.ag.flatMap aQ++[o.data,(o.code.length:Int)].flatMap aF++o.code.flatMap dM++[(o.fix.length:Int)].flatMap aF++(o.fix.take g.1).flatMap ga).map bV)]++[ah b1 (.cells (jj o q).toArray 56 (0,0))]) [H]) (λg=>g.1<=o.fix.length/\(g.2.1=none\/g.2.1=some ⟨ck,0,none⟩)) (λg=>o.fix.length-g.1) ((0,Ai.1,Ai.2):Nat×Option Addr×Value) ⟨Nat.zero_le _,aut⟩ (sc O (sc O (sc O (sc O (sc O (sc O (sc O sn))))))) (λ_ h=>by
   have h:=Ws.bF h (a_:=[H]) (by simp);simp only [List.take_zero,List.flatMap_nil,List.append_nil]
   exact h) ?_
 intro g ⟨oP,hp⟩;refine ad (V0 (bj O O) (ab (Cs ?_)));refine Cc O (λbd=>?_) (λbd=>?_)
 ·have av:g.1<o.fix.length:=by simpa using bd
  obtain ⟨x,bn⟩:∃q,o.fix[g.1]? = some q:=⟨_,List.getElem?_eq_getElem av⟩;obtain ⟨dW,dX,dZ,cg⟩:=hm.fix.aS g.1 x bn;have cg:aR H dW (dX+g.1*3) x.cells:=cg;have hbg:=hl.fx g.1;refine aE (Cs (Cb (ad (V0 (Yo wT O O dZ av) (V0 (cJ 0 MJ O O O (cg)) ?_)))));refine Al Y O Hz λqu=>?_;refine an 0 Y O O O MK O O O (ab (Cs (fg 0 (.cells (x.cells).toArray 112 (0,0)) O O (Cr (aa O (V0 (Yf Bd O) (V0 (Yd 0 O O O ar) ?_)))))));refine Lb Y O iZ O O O O λTE=>?_;refine bL 0 (.cells (([x.at_]:List Int).flatMap eH).toArray 3 (0,0)) O O ?_;refine WL.mu 0 O ?_;refine Lf 2 O (Lf 2 O ?_);refine Lw (ι:=Option Addr×Value) [_,_] _ Y O u3 O O (λ_=>.tuple #[]) (λr=>[ah ck (.cells #[.pointer (r.1),r.2] 165 (0,0)),aY 5 1 r.2 (aQ o.nm++[(o.ag.length:Int)].flatMap aF++o.ag.flatMap aQ++[o.data,(o.code.length:Int)].flatMap aF++o.code.flatMap dM++[(o.fix.length:Int)].flatMap aF++(o.fix.take g.1).flatMap ga++[x.at_].flatMap aF).length ((aQ o.nm++[(o.ag.length:Int)].flatMap aF++o.ag.flatMap aQ++[o.data,(o.code.length:Int)].flatMap aF++o.code.flatMap dM++[(o.fix.length:Int)].flatMap aF++(o.fix.take g.1).flatMap ga++[x.at_].flatMap aF).map bV)]) (λr=>r.1=none\/r.1=some ⟨ck,0,none⟩) [bv TE (.cells (([x.at_]:List Int).flatMap eH).toArray 3 (0,0))] (by simp) (λw hw=>uY (bv TE (.cells (([x.at_]:List Int).flatMap eH).toArray 3 (0,0))) (some ⟨TE,0,none⟩) 1 [x.at_] ck (g.2.1) g.2.2 (aQ o.nm++[(o.ag.length:Int)].flatMap aF++o.ag.flatMap aQ++[o.data,(o.code.length:Int)].flatMap aF++o.code.flatMap dM++[(o.fix.length:Int)].flatMap aF++(o.fix.take g.1).flatMap ga) w (wV _ (by simp)) hp (by simp only [List.length_append,jH,mF,List.length_singleton,List.flatMap_cons,List.flatMap_nil,List.length_cons,List.length_nil,List.append_nil]; omega) hw) ?_;intro AP auu;refine ab (ad (aa O (V0 (Yf ML O) (V0 (Yd 2 O O O ar) ?_))));refine Lw (ι:=Value) [_,_] _ Y O DT O O (λ_=>.tuple #[]) (λv'=>[ah ck (.cells #[.pointer (some ⟨ck,0,none⟩),v'] 165 (0,0)),aY 5 1 v' (aQ o.nm++[(o.ag.length:Int)].flatMap aF++o.ag.flatMap aQ++[o.data,(o.code.length:Int)].flatMap aF++o.code.flatMap dM++[(o.fix.length:Int)].flatMap aF++(o.fix.take g.1).flatMap ga++[x.at_].flatMap aF++[cy x.kind]).length ((aQ o.nm++[(o.ag.length:Int)].flatMap aF++o.ag.flatMap aQ++[o.data,(o.code.length:Int)].flatMap aF++o.code.flatMap dM++[(o.fix.length:Int)].flatMap aF++(o.fix.take g.1).flatMap ga++[x.at_].flatMap aF++[cy x.kind]).map bV)]) (λ_=>True) [] (by simp) (λw hw=>DU ck (AP.1) AP.2 (aQ o.nm++[(o.ag.length:Int)].flatMap aF++o.ag.flatMap aQ++[o.data,(o.code.length:Int)].flatMap aF++o.code.flatMap dM++[(o.fix.length:Int)].flatMap aF++(o.fix.take g.1).flatMap ga++[x.at_].flatMap aF) x.kind w auu (by simp only [List.length_append,jH,mF,List.length_singleton,List.flatMap_cons,List.flatMap_nil,List.length_cons,List.length_nil,List.append_nil]; omega) hw) ?_
  intro v88 _;refine ab (Cr (aa O (V0 (Yf yO O) (V0 (Yd 2 O O O ar) ?_))));refine Lb Y O iZ O O O O λTF=>?_;refine bL 0 (.cells (([x.m]:List Int).flatMap eH).toArray 3 (0,0)) O O ?_;refine WL.mu 0 O ?_;refine Lw (ι:=Option Addr×Value) [_,_] _ Y O u3 O O (λ_=>.tuple #[]) (λr=>[ah ck (.cells #[.pointer (r.1),r.2] 165 (0,0)),aY 5 1 r.2 (aQ o.nm++[(o.ag.length:Int)].flatMap aF++o.ag.flatMap aQ++[o.data,(o.code.length:Int)].flatMap aF++o.code.flatMap dM++[(o.fix.length:Int)].flatMap aF++(o.fix.take g.1).flatMap ga++[x.at_].flatMap aF++[cy x.kind]++[x.m].flatMap aF).length ((aQ o.nm++[(o.ag.length:Int)].flatMap aF++o.ag.flatMap aQ++[o.data,(o.code.length:Int)].flatMap aF++o.code.flatMap dM++[(o.fix.length:Int)].flatMap aF++(o.fix.take g.1).flatMap ga++[x.at_].flatMap aF++[cy x.kind]++[x.m].flatMap aF).map bV)]) (λr=>r.1=none\/r.1=some ⟨ck,0,none⟩) [bv TF (.cells (([x.m]:List Int).flatMap eH).toArray 3 (0,0))] (by simp) (λw hw=>uY (bv TF (.cells (([x.m]:List Int).flatMap eH).toArray 3 (0,0))) (some ⟨TF,0,none⟩) 1 [x.m] ck (some ⟨ck,0,none⟩) v88 (aQ o.nm++[(o.ag.length:Int)].flatMap aF++o.ag.flatMap aQ++[o.data,(o.code.length:Int)].flatMap aF++o.code.flatMap dM++[(o.fix.length:Int)].flatMap aF++(o.fix.take g.1).flatMap ga++[x.at_].flatMap aF++[cy x.kind]) w (wV _ (by simp)) (.inr O) (by simp only [List.length_append,jH,mF,List.length_singleton,List.flatMap_cons,List.flatMap_nil,List.length_cons,List.length_nil,List.append_nil]; omega) hw) ?_;intro DW auw;refine Ln (Eb (Et (Cr (V0 (Yi O O O (by omega)) (aa O (Ln ?_))))))
  exact Ea ((g.1+1,DW.1,DW.2):Nat×Option Addr×Value) (by show _-(g.1+1)<_; omega) ⟨(by show g.1+1<=_; omega),auw⟩ (sc O (sc O (sc O (sc O (sc O (sc O (sc O sn))))))) (λ_ h=>by
    have h:=Ws.out 2 h;have h:=Ws.bF h (a_:=[H]) (by simp)
    have e:aQ o.nm++[(o.ag.length:Int)].flatMap aF++o.ag.flatMap aQ++[o.data,(o.code.length:Int)].flatMap aF++o.code.flatMap dM++[(o.fix.length:Int)].flatMap aF++(o.fix.take g.1).flatMap ga++[x.at_].flatMap aF++[cy x.kind]++[x.m].flatMap aF=aQ o.nm++[(o.ag.length:Int)].flatMap aF++o.ag.flatMap aQ++[o.data,(o.code.length:Int)].flatMap aF++o.code.flatMap dM++[(o.fix.length:Int)].flatMap aF++(o.fix.take (g.1+1)).flatMap ga:=by rw [MR bn]; simp [dM,ga]
    rw [e] at h
    exact h)
 have bP:g.1=o.fix.length:=by simp at bd; omega
 rw [bP,List.take_length];refine Ce (Ex (Ex (bA (Et (ad (aa O (V0 (Yf uR O) (V0 (Yd 2 O O O nQ) (V0 (Yn iX O) ?_)))))))));refine Lb Y O iZ O O O O λTG=>?_;refine bL 0 (.cells (([(o.bU.length:Int)]:List Int).flatMap eH).toArray 3 (0,0)) O O ?_;refine WL.mu 0 O ?_;refine Lw (ι:=Option Addr×Value) [_,_] _ Y O u3 O O (λ_=>.tuple #[]) (λr=>[ah ck (.cells #[.pointer (r.1),r.2] 165 (0,0)),aY 5 1 r.2 (aQ o.nm++[(o.ag.length:Int)].flatMap aF++o.ag.flatMap aQ++[o.data,(o.code.length:Int)].flatMap aF++o.code.flatMap dM++[(o.fix.length:Int)].flatMap aF++o.fix.flatMap ga++[(o.bU.length:Int)].flatMap aF).length ((aQ o.nm++[(o.ag.length:Int)].flatMap aF++o.ag.flatMap aQ++[o.data,(o.code.length:Int)].flatMap aF++o.code.flatMap dM++[(o.fix.length:Int)].flatMap aF++o.fix.flatMap ga++[(o.bU.length:Int)].flatMap aF).map bV)]) (λr=>r.1=none\/r.1=some ⟨ck,0,none⟩) [bv TG (.cells (([(o.bU.length:Int)]:List Int).flatMap eH).toArray 3 (0,0))] (by simp) (λw hw=>uY (bv TG (.cells (([(o.bU.length:Int)]:List Int).flatMap eH).toArray 3 (0,0))) (some ⟨TG,0,none⟩) 1 [(o.bU.length:Int)] ck (g.2.1) g.2.2 (aQ o.nm++[(o.ag.length:Int)].flatMap aF++o.ag.flatMap aQ++[o.data,(o.code.length:Int)].flatMap aF++o.code.flatMap dM++[(o.fix.length:Int)].flatMap aF++o.fix.flatMap ga) w (wV _ (by simp)) hp (by simp only [List.length_append,jH,mF,List.length_singleton,List.flatMap_cons,List.flatMap_nil,List.length_cons,List.length_nil,List.append_nil]; omega) hw) ?_;intro adN auy;refine ab (ad (aa O (V0 (Yf uR O) (V0 (Yd 2 O O O nQ) ?_))));refine Lw (ι:=Option Addr×Value) [_,_] _ Y O u3 O O (λ_=>.tuple #[]) (λr=>[ah ck (.cells #[.pointer (r.1),r.2] 165 (0,0)),aY 5 1 r.2 (aQ o.nm++[(o.ag.length:Int)].flatMap aF++o.ag.flatMap aQ++[o.data,(o.code.length:Int)].flatMap aF++o.code.flatMap dM++[(o.fix.length:Int)].flatMap aF++o.fix.flatMap ga++[(o.bU.length:Int)].flatMap aF++o.bU.flatMap aF).length ((aQ o.nm++[(o.ag.length:Int)].flatMap aF++o.ag.flatMap aQ++[o.data,(o.code.length:Int)].flatMap aF++o.code.flatMap dM++[(o.fix.length:Int)].flatMap aF++o.fix.flatMap ga++[(o.bU.length:Int)].flatMap aF++o.bU.flatMap aF).map bV)]) (λr=>r.1=none\/r.1=some ⟨ck,0,none⟩) [H] (by simp) (λw hw=>uY H q.s4.1 q.s4.2 o.bU ck adN.1 adN.2 (aQ o.nm++[(o.ag.length:Int)].flatMap aF++o.ag.flatMap aQ++[o.data,(o.code.length:Int)].flatMap aF++o.code.flatMap dM++[(o.fix.length:Int)].flatMap aF++o.fix.flatMap ga++[(o.bU.length:Int)].flatMap aF) w hm.bU auy (by simp only [List.length_append,jH,mF,List.length_singleton,List.flatMap_cons,List.flatMap_nil,List.length_cons,List.length_nil,List.append_nil]; omega) hw) ?_;intro adO auz;refine ab (ad (aa O (V0 (Yf HR O) (V0 (Yd 2 O O O ar) ?_))));refine Lb Y O iZ O O O O λAS=>?_
 refine bL 0 (.cells (([o.main]:List Int).flatMap eH).toArray 3 (0,0)) O O ?_;refine WL.mu 0 O ?_;refine Lw (ι:=Option Addr×Value) [_,_] _ Y O u3 O O (λ_=>.tuple #[]) (λr=>[ah ck (.cells #[.pointer (r.1),r.2] 165 (0,0)),aY 5 1 r.2 (aQ o.nm++[(o.ag.length:Int)].flatMap aF++o.ag.flatMap aQ++[o.data,(o.code.length:Int)].flatMap aF++o.code.flatMap dM++[(o.fix.length:Int)].flatMap aF++o.fix.flatMap ga++[(o.bU.length:Int)].flatMap aF++o.bU.flatMap aF++[o.main].flatMap aF).length ((aQ o.nm++[(o.ag.length:Int)].flatMap aF++o.ag.flatMap aQ++[o.data,(o.code.length:Int)].flatMap aF++o.code.flatMap dM++[(o.fix.length:Int)].flatMap aF++o.fix.flatMap ga++[(o.bU.length:Int)].flatMap aF++o.bU.flatMap aF++[o.main].flatMap aF).map bV)]) (λr=>r.1=none\/r.1=some ⟨ck,0,none⟩) [bv AS (.cells (([o.main]:List Int).flatMap eH).toArray 3 (0,0))] (by simp) (λw hw=>uY (bv AS (.cells (([o.main]:List Int).flatMap eH).toArray 3 (0,0))) (some ⟨AS,0,none⟩) 1 [o.main] ck (adO.1) adO.2 (aQ o.nm++[(o.ag.length:Int)].flatMap aF++o.ag.flatMap aQ++[o.data,(o.code.length:Int)].flatMap aF++o.code.flatMap dM++[(o.fix.length:Int)].flatMap aF++o.fix.flatMap ga++[(o.bU.length:Int)].flatMap aF++o.bU.flatMap aF) w (wV _ (by simp)) auz (by simp only [List.length_append,jH,mF,List.length_singleton,List.flatMap_cons,List.flatMap_nil,List.length_cons,List.length_nil,List.append_nil]; omega) hw) ?_;intro yA adP;refine ab (Cs (Cs ?_))
 have hA:aQ o.nm++[(o.ag.length:Int)].flatMap aF++o.ag.flatMap aQ++[o.data,(o.code.length:Int)].flatMap aF++o.code.flatMap dM++[(o.fix.length:Int)].flatMap aF++o.fix.flatMap ga++[(o.bU.length:Int)].flatMap aF++o.bU.flatMap aF++[o.main].flatMap aF=pf o:=by simp [pf,Fk]
 have hBl:(pf o).length+1<=1099511627776:=by rw [<-hA]; exact (by simp only [List.length_append,jH,mF,List.length_singleton,List.flatMap_cons,List.flatMap_nil,List.length_cons,List.length_nil,List.append_nil]; omega)
 rw [hA];refine Cr (aa O (V0 (bD O) (V0 (Yf Ic O) ?_)));refine Lw (ι:=Unit) [_,_] _ Y O aui O O (λ_=>.int .i64 ((pf o).length:Int)) (λ_=>[ah ck (.cells #[.pointer (yA.1),yA.2] 165 (0,0)),aY 5 1 yA.2 (pf o).length ((pf o).map bV)]) (λ_=>True) [] (by simp) (λw hw=>(aua ck yA.1 yA.2 (pf o) w adP (by omega) hw).mono λe w' h=>⟨(),h.1,trivial,h.2⟩) ?_;intro _ _;refine V0 (cI O O) (ab ?_);refine Cc O (λbC=>?_) (λbC=>?_)
 ·have av:32768<(pf o).length:=by simp at bC; omega
  refine ad (ae O (ae O (ab (aA (Er ?_)))));refine WE.gi O O O λw' hw=>?_;exact ⟨by rw [tG,if_pos hz,if_pos av]; rfl,hw.fr⟩
 have av:¬32768<(pf o).length:=by simp at bC; omega
 refine aE (ad (aa O (V0 (bD O) (V0 (Yf Ic O) ?_))));refine Lw (ι:=Unit) [_,_] _ Y O adL O O (λ_=>st (pf o)) (λ_=>[]) (λ_=>True) [] (by simp) (λw hw=>(adD ck yA.1 yA.2 (pf o) (by rw [<-hA]; simp [aQ]) w adP (by omega) hw).mono λe w' h=>⟨(),h.1,trivial,h.2⟩) ?_;intro _ _;refine ae O (ae O (ab (aA ?_)));refine WE.gi O O O λw' hw=>?_;exact ⟨by rw [tG,if_pos hz,if_neg av],hw.fr⟩
theorem adQ:Enters Tryz.prog 55:=enters_of Tryz.func55 (by kernel_rfl) rfl
theorem adR:Enters Tryz.prog 53:=enters_of Tryz.func53 (by kernel_rfl) rfl
theorem zr4:zeroOf Tryz.prog 4=some (.bool false):=by kernel_rfl
theorem auB:fo Tryz.prog 229=some [(0,1)]:=by kernel_rfl
theorem auC:zeroOf Tryz.prog 229=some (.agg #[st []]):=by kernel_rfl
abbrev XO:=aP×oq
def XO.cells (e:XO):List Value:=jj e.1 e.2
theorem XO.bq (e:XO):(XO.cells e).length=7:=rfl
def TH (H:View) (b o:Nat) (e:XO):Prop:=aR H b o (XO.cells e)
def Ig (H:View) (b o:Nat) (x:aP):Prop:=∃q,aR H b o (jj x q)/\rW H q x
theorem TI {H H':View} {q:oq} {o:aP} (h:rW H q o) (hv:aK H H'):rW H' q o:=⟨h.ag.imp λ_ _ _ r=>aR.mono hv r,h.code.imp λ_ _ _ r=>aR.mono hv r,h.fix.imp λ_ _ _ r=>aR.mono hv r,h.bU.imp λ_ _ _ r=>aR.mono hv r⟩
theorem auD {K N:View} {a:Option Addr} {c:Nat} {es:List XO} (h:Sl TH 7 K a c es) (hv:aK K N) (he:∀e ∈ es,rW N e.2 e.1):Sl Ig 7 N a c (es.map (·.1)):=by
 refine ⟨by rw [List.length_map]; exact h.cap,h.max,h.spot,λi x hx=>?_⟩;rw [List.getElem?_map] at hx;obtain ⟨y,hy,rfl⟩:=Option.map_eq_some_iff.1 hx;obtain ⟨b,o,ha,hr⟩:=h.aS i y hy;exact ⟨b,o,ha,y.2,aR.mono hv hr,he y (List.mem_of_getElem? hy)⟩
theorem adS (H:View) (ke k:Nat) (u:b_) (r:jW) (w:World) (hH:Le H w) (hu:je ke k H r u) (L0:vv u<=1048576):Calls Tryz.prog 26 #[.agg (eG u r).toArray] w λe w'=>∃r:oq,e = .returned (.tuple #[.agg (jj (fJ u).1.to r).toArray,.int .i64 (fJ u).2])/\Ext w w'/\rW (nv w w') r (fJ u).1.to:=
 (atu H ke k u r w hH hu L0).mono λe w' ⟨r,he,hx,hr⟩=>⟨r,by rw [he,aiE],hx,aiF hr⟩
end Go.Proofs.YtccenighnmfhgaaGreatDoor
end
