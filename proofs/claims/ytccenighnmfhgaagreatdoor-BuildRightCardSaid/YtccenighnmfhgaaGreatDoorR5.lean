/- BuildRight: what Units tells is a right program, or needs too many numbers; what Build tells is a right image. -/
import Derived.Test.YtccenighnmfhgaaGreatDoorR4
set_option linter.unusedVariables false
set_option linter.unusedSimpArgs false
section
namespace Go.Proofs.YtccenighnmfhgaaGreatDoor
open Go.Bw
theorem aY:eO Tryz.prog 203=some 5:=by kernel_rfl
theorem h':eG Tryz.prog 203=true:=by kernel_rfl
theorem Ih:Enters Tryz.prog 114:=enters_of Tryz.func114 (by kernel_rfl) rfl
theorem gS:eO Tryz.prog 38=some 7:=by kernel_rfl
theorem tm:an Tryz.prog 205 0=some 0:=by kernel_rfl
theorem ir:eG Tryz.prog 38=true:=by kernel_rfl
theorem xQ:Enters Tryz.prog 45:=enters_of Tryz.func45 (by kernel_rfl) rfl
theorem qG:an Tryz.prog 40 0=some 0:=by kernel_rfl
theorem qH:an Tryz.prog 40 1=some 1:=by kernel_rfl
theorem R5:Enters Tryz.prog 44:=enters_of Tryz.func44 (by kernel_rfl) rfl
theorem oP:an Tryz.prog 40 2=some 2:=by kernel_rfl
theorem kH:eO Tryz.prog 37=some 3:=by kernel_rfl
theorem dd:an Tryz.prog 89 0=some 0:=by kernel_rfl
theorem tn:an Tryz.prog 89 1=some 1:=by kernel_rfl
theorem xR:an Tryz.prog 89 2=some 2:=by kernel_rfl
theorem R6 (o p:View) (a1 a2:Option Addr) (c1 c2:Nat) (k j:Nat) (l:List db) (w:World) (u:Le o w) (v:Le p w) (q:Sl (ig k) 5 o a1 c1 l) (r:Sl (ig j) 5 p a2 c2 l) :
   Calls Tryz.prog 114 #[.slice a1 l.length c1,.slice a2 l.length c2] w λe w'=>e = .returned (.bool true)/\Ext w w':=by
 induction k using Nat.strongRecOn generalizing j a1 c1 a2 c2 l w
 rename_i k y;have F:=q.cap;have G:=q.max;have H:=r.cap;have J:=r.max;refine enter Tryz.func114 O 81 O O ?_;refine CE (Vs:=[o,p]) (Ws.init (by simp [u,v])) (aa (ai O (ae (Cs (aa (ad O (I (Yn aY O) (ad O (I (Yn aY O) ?_)))))))));refine I (kl O O O) (ae ?_);refine WC.kc O ?_;refine bf (Cs (aa (ai O (ae (Cb ?_)))));refine CW (ι:=Nat) (λi=>[(5,.int .i64 (i:Int))]) [(0,_),(1,_)] (λi=>i<=l.length) (λi=>l.length-i) 0 (Nat.zero_le _) (sc O (sc O (sc O sn))) ?_;intro i hi;refine Cs (aa (ad O (ad O (I (Yn aY O) (I (b0 O O) (ae ?_))))));refine Cc O (λs=>?_) (λs=>?_)
 ·have z:i<l.length:=by simpa using s
  obtain ⟨x,t⟩:∃x,l[i]? = some x:=⟨_,List.getElem?_eq_getElem z⟩;obtain ⟨pb,K,f,b⟩:=q.bJ i x t;obtain ⟨L,M,m,c⟩:=r.bJ i x t
  obtain ⟨a,rfl⟩:∃a,k=a+1:=by
    cases k with
    | zero=>exact b.elim
    | succ a=>exact ⟨a,rfl⟩
  obtain ⟨A,rfl⟩:∃a,j=a+1:=by
    cases j with
    | zero=>exact c.elim
    | succ a=>exact ⟨a,rfl⟩
  obtain ⟨B,n1,b,C⟩:=b;obtain ⟨D,n2,c,E⟩:=c;refine bf (Cs (Cb (Cs ?_)));refine WC.ld [(0,true),(1,true),(2,true),(3,true),(4,true),(5,true),(6,true),(7,true),(8,true),(9,true),(10,true),(11,true),(12,true),(13,true),(14,true),(15,true),(16,true),(17,true),(18,true),(19,true),(20,true),(21,true),(22,true),(23,true),(24,true),(25,true),(26,true),(27,true),(28,true),(29,true),(30,true),(31,true),(32,true),(33,true),(34,true),(35,true),(36,true),(37,true),(38,true),(39,true),(40,true),(41,true),(42,true),(43,true),(44,true),(45,true),(46,true),(47,true),(48,true),(49,true),(50,true),(51,true),(52,true),(53,true),(54,true),(55,true),(56,true),(57,true),(58,true),(59,true),(60,true),(61,false),(62,true),(63,true)] mixed (by kernel_rfl) (λ_ _ _ d _ h=>by cases d<;>exact h) ?_;refine D0 O (λ_ h=>h) (Ym O) (D0 O (λ_ h=>h) (Ym O) (D0 O (λ_ h=>h) (Yo aY O O f (by omega)) (D0 O (λ_ h=>h) (Yf mR O) (D0 O (λ_ h=>h) (b9 0 aT O O (b 0 _ O)) (D0 O (λ_ h=>h) (Ym O) (D0 O (λ_ h=>h) (Ym O) (D0 O (λ_ h=>h) (Yo aY O O m (by omega)) ?_)))))));refine D0 O (λ_ h=>h) (Yf mR O) (D0 O (λ_ h=>h) (b9 1 aT O O (c 0 _ O)) (D0 O (λ_ h=>h) (kl O O O) (D0 O (λ_ h=>h) (Ym O) ?_)));apply WD.or 11 (x:=false) O O O O O Y O (λ_ h=>h) O O O O
  ·intro N;refine Dq O (.g O O O) O (λ_ h=>h) (Ym O) (Dq O (.g O O O) O (λ_ h=>h) (Ym O) (Dq O (.g O O O) O (λ_ h=>h) (Yo aY O O f (by omega)) (Dq O (.g O O O) O (λ_ h=>h) (Yf kC O) (Dq O (.g O O O) O (λ_ h=>h) (b9 0 aT O O (b 1 _ O)) (Dq O (.g O O O) O (λ_ h=>h) (Ym O) (Dq O (.g O O O) O (λ_ h=>h) (Ym O) (Dq O (.g O O O) O (λ_ h=>h) (Yo aY O O m (by omega)) ?_)))))));refine Dq O (.g O O O) O (λ_ h=>h) (Yf kC O) (Dq O (.g O O O) O (λ_ h=>h) (b9 1 aT O O (c 1 _ O)) (Dq O (.g O O O) O (λ_ h=>h) (kl O O O) ?_));exact Gi 11 (λ_ h=>h) O O O
  refine D0 O (λ_ h=>h) (Ym O) ?_;apply WD.or 11 (x:=false) O O O O O Y O (λ_ h=>h) O O O O
  ·intro P;refine Dq O (.g O O O) O (λ_ h=>h) (Ym O) (Dq O (.g O O O) O (λ_ h=>h) (Ym O) (Dq O (.g O O O) O (λ_ h=>h) (Yo aY O O f (by omega)) (Dq O (.g O O O) O (λ_ h=>h) (Yf kD O) (Dq O (.g O O O) O (λ_ h=>h) (b9 0 aT O O (b 2 _ O)) (Dq O (.g O O O) O (λ_ h=>h) (Ym O) (Dq O (.g O O O) O (λ_ h=>h) (Ym O) (Dq O (.g O O O) O (λ_ h=>h) (Yo aY O O m (by omega)) ?_)))))));refine Dq O (.g O O O) O (λ_ h=>h) (Yf kD O) (Dq O (.g O O O) O (λ_ h=>h) (b9 1 aT O O (c 2 _ O)) (Dq O (.g O O O) O (λ_ h=>h) (kl O O O) ?_));exact Gi 11 (λ_ h=>h) O O O
  refine D0 O (λ_ h=>h) (Ym O) ?_;apply WD.or 11 (x:=false) O O O O O Y O (λ_ h=>h) O O O O
  ·intro Q;refine Dq O (.g O O O) O (λ_ h=>h) (Ym O) (Dq O (.g O O O) O (λ_ h=>h) (Ym O) (Dq O (.g O O O) O (λ_ h=>h) (Yo aY O O f (by omega)) (Dq O (.g O O O) O (λ_ h=>h) (Yf jY O) (Dq O (.g O O O) O (λ_ h=>h) (b9 0 aT O O (b 3 _ O)) (Dq O (.g O O O) O (λ_ h=>h) (Ym O) (Dq O (.g O O O) O (λ_ h=>h) (Ym O) (Dq O (.g O O O) O (λ_ h=>h) (Yo aY O O m (by omega)) ?_)))))));refine Dq O (.g O O O) O (λ_ h=>h) (Yf jY O) (Dq O (.g O O O) O (λ_ h=>h) (b9 1 aT O O (c 3 _ O)) (Dq O (.g O O O) O (λ_ h=>h) (kl O O O) ?_));exact Gi 11 (λ_ h=>h) O O O
  refine D0 O (λ_ h=>h) (Ym O) ?_;apply WD.or 12 (x:=false) O O O O O Y O (λ_ h=>h) O O O O
  ·intro R;refine Dq O (.g O O O) O (λ_ h=>h) (Ym O) (Dq O (.g O O O) O (λ_ h=>h) (Ym O) (Dq O (.g O O O) O (λ_ h=>h) (Yo aY O O f (by omega)) (Dq O (.g O O O) O (λ_ h=>h) (Yf mS O) (Dq O (.g O O O) O (λ_ h=>h) (b9 0 h' O O (b 4 _ O)) (Dq O (.g O O O) O (λ_ h=>h) (Ym O) (Dq O (.g O O O) O (λ_ h=>h) (Ym O) (Dq O (.g O O O) O (λ_ h=>h) (Yo aY O O m (by omega)) ?_)))))));refine Dq O (.g O O O) O (λ_ h=>h) (Yf mS O) (Dq O (.g O O O) O (λ_ h=>h) (b9 1 h' O O (c 4 _ O)) ?_);refine De O (λ_ h=>h) ?_;refine Lp (.g O O O) O Ih O (λw n=>y a (by omega) B D n1 n2 A x.args w (n.vs _ (by simp)) (n.vs _ (by simp)) C E) (Ln (Ed (Dq O (.g O O O) O (λ_ h=>h) (az O) ?_)));exact Gi 12 (λ_ h=>h) O O O
  refine WD.nil (λ_ h=>h) ?_;refine Et ?_;refine WC.kc O ?_;refine Ck (Eb (Et (Cr (ad O (I (Yi O O O (by omega)) (ai O (Ln ?_)))))));exact Ea (i+1) (by omega) (by omega) (sc O (sc O (sc O sn))) (λ_ h=>h)
 refine Ce (Ex (Ex (cp (Et (aa (ai O (ae (aX ?_))))))));refine R1 O O λw' n=>?_;exact ⟨O,n.fr⟩
theorem Ii (o p:View) (a1 a2:Option Addr) (c1 c2:Nat) (s t k j:Nat) (l:List cY) (w:World) (C:Le o w) (D:Le p w) (q:Sl (gW s k) 7 o a1 c1 l) (r:Sl (gW t j) 7 p a2 c2 l) :
   Calls Tryz.prog 45 #[.slice a1 l.length c1,.slice a2 l.length c2] w λe w'=>e = .returned (.bool true)/\Ext w w':=by
 induction k using Nat.strongRecOn generalizing j a1 c1 a2 c2 l w
 rename_i k y;have M:=q.cap;have N:=q.max;have P:=r.cap;have Q:=r.max;refine enter Tryz.func45 O 109 O O ?_;refine CE (Vs:=[o,p]) (Ws.init (by simp [C,D])) (aa (ai O (ae (Cs (aa (ad O (I (Yn gS O) (ad O (I (Yn gS O) ?_)))))))));refine I (kl O O O) (ae ?_);refine WC.kc O ?_;refine bf (Cs (aa (ai O (ae (Cb ?_)))));refine CW (ι:=Nat) (λi=>[(5,.int .i64 (i:Int))]) [(0,_),(1,_)] (λi=>i<=l.length) (λi=>l.length-i) 0 (Nat.zero_le _) (sc O (sc O (sc O sn))) ?_;intro i hi;refine Cs (aa (ad O (ad O (I (Yn gS O) (I (b0 O O) (ae ?_))))));refine Cc O (λz=>?_) (λz=>?_)
 ·have E:i<l.length:=by simpa using z
  obtain ⟨x,A⟩:∃x,l[i]? = some x:=⟨_,List.getElem?_eq_getElem E⟩;obtain ⟨pb,R,m,a⟩:=q.bJ i x A;obtain ⟨S,T,n,b⟩:=r.bJ i x A
  obtain ⟨c,rfl⟩:∃c,k=c+1:=by
    cases k with
    | zero=>exact a.elim
    | succ c=>exact ⟨c,rfl⟩
  obtain ⟨B,rfl⟩:∃c,j=c+1:=by
    cases j with
    | zero=>exact b.elim
    | succ c=>exact ⟨c,rfl⟩
  obtain ⟨u,a,F,G,H⟩:=a;obtain ⟨v,b,J,K,L⟩:=b;refine bf (Cs (Cb (Cs ?_)));refine WC.ld [(0,true),(1,true),(2,true),(3,true),(4,true),(5,true),(6,true),(7,true),(8,true),(9,true),(10,true),(11,true),(12,true),(13,true),(14,true),(15,true),(16,true),(17,true),(18,true),(19,true),(20,true),(21,true),(22,true),(23,true),(24,true),(25,true),(26,true),(27,true),(28,true),(29,true),(30,true),(31,true),(32,true),(33,true),(34,true),(35,true),(36,true),(37,true),(38,true),(39,true),(40,true),(41,true),(42,true),(43,true),(44,true),(45,true),(46,true),(47,true),(48,true),(49,true),(50,true),(51,true),(52,true),(53,true),(54,true),(55,true),(56,true),(57,true),(58,true),(59,true),(60,true),(61,false),(62,true),(63,true),(64,true),(65,true),(66,true),(67,true),(68,true),(69,true),(70,true),(71,true),(72,true),(73,true),(74,true),(75,false),(76,true),(77,true),(78,true),(79,true),(80,true),(81,true),(82,true),(83,true),(84,true),(85,true),(86,true),(87,true),(88,true),(89,false),(90,true),(91,true)] mixed (by kernel_rfl) (λ_ _ _ d _ h=>by cases d<;>exact h) ?_;refine D0 O (λ_ h=>h) (Ym O) (D0 O (λ_ h=>h) (Ym O) (D0 O (λ_ h=>h) (Yo gS O O m (by omega)) (D0 O (λ_ h=>h) (Yf tm O) (D0 O (λ_ h=>h) (b9 0 aT O O (a 0 _ O)) (D0 O (λ_ h=>h) (Ym O) (D0 O (λ_ h=>h) (Ym O) (D0 O (λ_ h=>h) (Yo gS O O n (by omega)) ?_)))))));refine D0 O (λ_ h=>h) (Yf tm O) (D0 O (λ_ h=>h) (b9 1 aT O O (b 0 _ O)) (D0 O (λ_ h=>h) (kl O O O) (D0 O (λ_ h=>h) (Ym O) ?_)));apply WD.or 11 (x:=false) O O O O O Y O (λ_ h=>h) O O O O
  ·intro U;refine Dq O (.g O O O) O (λ_ h=>h) (Ym O) (Dq O (.g O O O) O (λ_ h=>h) (Ym O) (Dq O (.g O O O) O (λ_ h=>h) (Yo gS O O m (by omega)) (Dq O (.g O O O) O (λ_ h=>h) (Yf pN O) (Dq O (.g O O O) O (λ_ h=>h) (b9 0 aT O O (a 1 _ O)) (Dq O (.g O O O) O (λ_ h=>h) (Ym O) (Dq O (.g O O O) O (λ_ h=>h) (Ym O) (Dq O (.g O O O) O (λ_ h=>h) (Yo gS O O n (by omega)) ?_)))))));refine Dq O (.g O O O) O (λ_ h=>h) (Yf pN O) (Dq O (.g O O O) O (λ_ h=>h) (b9 1 aT O O (b 1 _ O)) (Dq O (.g O O O) O (λ_ h=>h) (kl O O O) ?_));exact Gi 11 (λ_ h=>h) O O O
  refine D0 O (λ_ h=>h) (Ym O) ?_;apply WD.or 11 (x:=false) O O O O O Y O (λ_ h=>h) O O O O
  ·intro V;refine Dq O (.g O O O) O (λ_ h=>h) (Ym O) (Dq O (.g O O O) O (λ_ h=>h) (Ym O) (Dq O (.g O O O) O (λ_ h=>h) (Yo gS O O m (by omega)) (Dq O (.g O O O) O (λ_ h=>h) (Yf k6 O) (Dq O (.g O O O) O (λ_ h=>h) (b9 0 aT O O (a 2 _ O)) (Dq O (.g O O O) O (λ_ h=>h) (Ym O) (Dq O (.g O O O) O (λ_ h=>h) (Ym O) (Dq O (.g O O O) O (λ_ h=>h) (Yo gS O O n (by omega)) ?_)))))));refine Dq O (.g O O O) O (λ_ h=>h) (Yf k6 O) (Dq O (.g O O O) O (λ_ h=>h) (b9 1 aT O O (b 2 _ O)) (Dq O (.g O O O) O (λ_ h=>h) (kl O O O) ?_));exact Gi 11 (λ_ h=>h) O O O
  refine D0 O (λ_ h=>h) (Ym O) ?_;apply WD.or 11 (x:=false) O O O O O Y O (λ_ h=>h) O O O O
  ·intro W;refine Dq O (.g O O O) O (λ_ h=>h) (Ym O) (Dq O (.g O O O) O (λ_ h=>h) (Ym O) (Dq O (.g O O O) O (λ_ h=>h) (Yo gS O O m (by omega)) (Dq O (.g O O O) O (λ_ h=>h) (Yf lM O) (Dq O (.g O O O) O (λ_ h=>h) (b9 0 aT O O (a 3 _ O)) (Dq O (.g O O O) O (λ_ h=>h) (Ym O) (Dq O (.g O O O) O (λ_ h=>h) (Ym O) (Dq O (.g O O O) O (λ_ h=>h) (Yo gS O O n (by omega)) ?_)))))));refine Dq O (.g O O O) O (λ_ h=>h) (Yf lM O) (Dq O (.g O O O) O (λ_ h=>h) (b9 1 aT O O (b 3 _ O)) (Dq O (.g O O O) O (λ_ h=>h) (kl O O O) ?_));exact Gi 11 (λ_ h=>h) O O O
  refine D0 O (λ_ h=>h) (Ym O) ?_;apply WD.or 12 (x:=false) O O O O O Y O (λ_ h=>h) O O O O
  ·intro X;refine Dq O (.g O O O) O (λ_ h=>h) (Ym O) (Dq O (.g O O O) O (λ_ h=>h) (Ym O) (Dq O (.g O O O) O (λ_ h=>h) (Yo gS O O m (by omega)) (Dq O (.g O O O) O (λ_ h=>h) (Yf mh O) (Dq O (.g O O O) O (λ_ h=>h) (b9 0 h' O O (a 4 _ O)) (Dq O (.g O O O) O (λ_ h=>h) (Ym O) (Dq O (.g O O O) O (λ_ h=>h) (Ym O) (Dq O (.g O O O) O (λ_ h=>h) (Yo gS O O n (by omega)) ?_)))))));refine Dq O (.g O O O) O (λ_ h=>h) (Yf mh O) (Dq O (.g O O O) O (λ_ h=>h) (b9 1 h' O O (b 4 _ O)) ?_);refine De O (λ_ h=>h) ?_;refine Lp (.g O O O) O Ih O (λw f=>R6 o p u.s1.1 v.s1.1 u.s1.2 v.s1.2 s t x.args w (f.vs _ (by simp)) (f.vs _ (by simp)) F J) (Ln (Ed (Dq O (.g O O O) O (λ_ h=>h) (az O) ?_)));exact Gi 12 (λ_ h=>h) O O O
  refine D0 O (λ_ h=>h) (Ym O) ?_;apply WD.or 12 (x:=false) O O O O O Y O (λ_ h=>h) O O O O
  ·intro Z;refine Dq O (.g O O O) O (λ_ h=>h) (Ym O) (Dq O (.g O O O) O (λ_ h=>h) (Ym O) (Dq O (.g O O O) O (λ_ h=>h) (Yo gS O O m (by omega)) (Dq O (.g O O O) O (λ_ h=>h) (Yf rV O) (Dq O (.g O O O) O (λ_ h=>h) (b9 0 ir O O (a 5 _ O)) (Dq O (.g O O O) O (λ_ h=>h) (Ym O) (Dq O (.g O O O) O (λ_ h=>h) (Ym O) (Dq O (.g O O O) O (λ_ h=>h) (Yo gS O O n (by omega)) ?_)))))));refine Dq O (.g O O O) O (λ_ h=>h) (Yf rV O) (Dq O (.g O O O) O (λ_ h=>h) (b9 1 ir O O (b 5 _ O)) ?_);refine De O (λ_ h=>h) ?_;refine Lp (.g O O O) O xQ O (λw f=>y c (by omega) u.s2.1 v.s2.1 u.s2.2 v.s2.2 B x.body w (f.vs _ (by simp)) (f.vs _ (by simp)) G K) (Ln (Ed (Dq O (.g O O O) O (λ_ h=>h) (az O) ?_)));exact Gi 12 (λ_ h=>h) O O O
  refine D0 O (λ_ h=>h) (Ym O) ?_;apply WD.or 12 (x:=false) O O O O O Y O (λ_ h=>h) O O O O
  ·intro ab;refine Dq O (.g O O O) O (λ_ h=>h) (Ym O) (Dq O (.g O O O) O (λ_ h=>h) (Ym O) (Dq O (.g O O O) O (λ_ h=>h) (Yo gS O O m (by omega)) (Dq O (.g O O O) O (λ_ h=>h) (Yf pO O) (Dq O (.g O O O) O (λ_ h=>h) (b9 0 ir O O (a 6 _ O)) (Dq O (.g O O O) O (λ_ h=>h) (Ym O) (Dq O (.g O O O) O (λ_ h=>h) (Ym O) (Dq O (.g O O O) O (λ_ h=>h) (Yo gS O O n (by omega)) ?_)))))));refine Dq O (.g O O O) O (λ_ h=>h) (Yf pO O) (Dq O (.g O O O) O (λ_ h=>h) (b9 1 ir O O (b 6 _ O)) ?_);refine De O (λ_ h=>h) ?_;refine Lp (.g O O O) O xQ O (λw f=>y c (by omega) u.s3.1 v.s3.1 u.s3.2 v.s3.2 B x.other w (f.vs _ (by simp)) (f.vs _ (by simp)) H L) (Ln (Ed (Dq O (.g O O O) O (λ_ h=>h) (az O) ?_)));exact Gi 12 (λ_ h=>h) O O O
  refine WD.nil (λ_ h=>h) ?_;refine Et ?_;refine WC.kc O ?_;refine Ck (Eb (Et (Cr (ad O (I (Yi O O O (by omega)) (ai O (Ln ?_)))))));exact Ea (i+1) (by omega) (by omega) (sc O (sc O (sc O sn))) (λ_ h=>h)
 refine Ce (Ex (Ex (cp (Et (aa (ai O (ae (aX ?_))))))));refine R1 O O λw' f=>?_;exact ⟨O,f.fr⟩
theorem R7 (b c:View) (m n o p:Nat) (f j:ih) (u:bK) (w:World) (C:Le b w) (D:Le c w) (q:hI m o b f u) (r:hI n p c j u) :
   Calls Tryz.prog 15 #[.agg (eE u f).toArray,.agg (eE u j).toArray] w λe w'=>e = .returned (.bool true)/\Ext w w':=by
 have s:=q.parts;have t:=r.parts;have H:=s.cap;have J:=s.max;have K:=t.cap;have L:=t.max;refine enter Tryz.func15 O 94 O O ?_;refine CE (Vs:=[b,c]) (Ws.init (by simp [C,D])) (aa ?_);refine WL.box Y O O λM=>?_;refine WL.box Y O O λN=>?_;refine ai O (ae (Cs (aa (I (Yf qG O) (I (Yd 1 O O O cN) (I (Yf qG O) (I (Yd 0 O O O cN) (I (zg O O O) (ad O ?_)))))))));apply Lo 6 (x:=false) O O O O Y O O O O O
 ·intro P;refine Vg (Yf qH O) (Vg (Yd 1 O O O eU) (Vg (Yf qH O) (Vg (Yd 0 O O O eU) (Lp (.g O O O) O R5 O (λw a=>QV b c f.s1.1 j.s1.1 f.s1.2 j.s1.2 u.ak w (a.vs _ (by simp)) (a.vs _ (by simp)) q.ak r.ak) (Vg (az O) ?_)))));exact Gt 6 O O O
 refine ad O ?_;apply Lo 5 (x:=false) O O O O Y O O O O O
 ·intro Q;refine Vg (Yf oP O) (Vg (Yd 1 O O O aT) (Vg (Yf oP O) (Vg (Yd 0 O O O aT) (Vg (kl O O O) ?_))));exact Gt 5 O O O
 refine ad O ?_;apply Lo 7 (x:=false) O O O O Y O O O O O
 ·intro R;refine Vg (Yf k8 O) (Vg (Yd 1 O O O lN) (Vg (Yn kH O) (Vg (Yf k8 O) (Vg (Yd 0 O O O lN) (Vg (Yn kH O) (Vg (kl O O O) ?_))))));exact Gt 7 O O O
 refine ad O ?_;apply Lo 6 (x:=false) O O O O Y O O O O O
 ·intro S;refine Vg (Yf vi O) (Vg (Yd 1 O O O ir) (Vg (Yf vi O) (Vg (Yd 0 O O O ir) (Lp (.g O O O) O xQ O (λw a=>Ii b c f.s3.1 j.s3.1 f.s3.2 j.s3.2 m n o p u.main w (a.vs _ (by simp)) (a.vs _ (by simp)) q.main r.main) (Vg (az O) ?_)))));exact Gt 6 O O O
 refine ae ?_;refine WC.kc O ?_;refine bf (Cs (aa (ai O (ae (Cb ?_)))));refine CW (ι:=Nat) (λi=>[(5,.int .i64 (i:Int))]) [(2,_),(3,_)] (λi=>i<=u.parts.length) (λi=>u.parts.length-i) 0 (Nat.zero_le _) (sc O (sc O (sc O sn))) ?_;intro i hi;refine Cs (aa (ad O (I (Yf k8 O) (I (Yd 1 O O O lN) (I (Yn kH O) (I (b0 O O) (ae ?_)))))));refine Cc O (λz=>?_) (λz=>?_)
 ·have E:i<u.parts.length:=by simpa using z
  obtain ⟨x,A⟩:∃x,u.parts[i]? = some x:=⟨_,List.getElem?_eq_getElem E⟩;obtain ⟨pb,T,v,k⟩:=s.bJ i x A;obtain ⟨U,V,y,l⟩:=t.bJ i x A;obtain ⟨v1,k,F⟩:=k;obtain ⟨B,l,G⟩:=l;refine bf (Cs (Cb (Cs ?_)));refine WC.ld [(0,true),(1,true),(2,true),(3,true),(4,true),(5,true),(6,true),(7,true),(8,true),(9,true),(10,true),(11,true),(12,true),(13,true),(14,true),(15,true),(16,true),(17,true),(18,true),(19,true),(20,true),(21,true),(22,true),(23,true),(24,true),(25,true),(26,true),(27,true),(28,true),(29,true),(30,true),(31,true),(32,true),(33,true),(34,true),(35,true),(36,true),(37,true),(38,true),(39,true),(40,true),(41,false),(42,true),(43,true)] mixed (by kernel_rfl) (λ_ _ _ d _ h=>by cases d<;>exact h) ?_;refine D0 O (λ_ h=>h) (Yf k8 O) (D0 O (λ_ h=>h) (Yd 1 O O O lN) (D0 O (λ_ h=>h) (Ym O) (D0 O (λ_ h=>h) (Yo kH O O v (by omega)) (D0 O (λ_ h=>h) (Yf dd O) (D0 O (λ_ h=>h) (b9 0 aT O O (k 0 _ O)) (D0 O (λ_ h=>h) (Yf k8 O) (D0 O (λ_ h=>h) (Yd 0 O O O lN) ?_)))))));refine D0 O (λ_ h=>h) (Ym O) (D0 O (λ_ h=>h) (Yo kH O O y (by omega)) (D0 O (λ_ h=>h) (Yf dd O) (D0 O (λ_ h=>h) (b9 1 aT O O (l 0 _ O)) (D0 O (λ_ h=>h) (kl O O O) (D0 O (λ_ h=>h) (Ym O) ?_)))));apply WD.or 13 (x:=false) O O O O O Y O (λ_ h=>h) O O O O
  ·intro W;refine Dq O (.g O O O) O (λ_ h=>h) (Yf k8 O) (Dq O (.g O O O) O (λ_ h=>h) (Yd 1 O O O lN) (Dq O (.g O O O) O (λ_ h=>h) (Ym O) (Dq O (.g O O O) O (λ_ h=>h) (Yo kH O O v (by omega)) (Dq O (.g O O O) O (λ_ h=>h) (Yf tn O) (Dq O (.g O O O) O (λ_ h=>h) (b9 0 aT O O (k 1 _ O)) (Dq O (.g O O O) O (λ_ h=>h) (Yf k8 O) (Dq O (.g O O O) O (λ_ h=>h) (Yd 0 O O O lN) ?_)))))));refine Dq O (.g O O O) O (λ_ h=>h) (Ym O) (Dq O (.g O O O) O (λ_ h=>h) (Yo kH O O y (by omega)) (Dq O (.g O O O) O (λ_ h=>h) (Yf tn O) (Dq O (.g O O O) O (λ_ h=>h) (b9 1 aT O O (l 1 _ O)) (Dq O (.g O O O) O (λ_ h=>h) (kl O O O) ?_))));exact Gi 13 (λ_ h=>h) O O O
  refine D0 O (λ_ h=>h) (Ym O) ?_;apply WD.or 14 (x:=false) O O O O O Y O (λ_ h=>h) O O O O
  ·intro X;refine Dq O (.g O O O) O (λ_ h=>h) (Yf k8 O) (Dq O (.g O O O) O (λ_ h=>h) (Yd 1 O O O lN) (Dq O (.g O O O) O (λ_ h=>h) (Ym O) (Dq O (.g O O O) O (λ_ h=>h) (Yo kH O O v (by omega)) (Dq O (.g O O O) O (λ_ h=>h) (Yf xR O) (Dq O (.g O O O) O (λ_ h=>h) (b9 0 ir O O (k 2 _ O)) (Dq O (.g O O O) O (λ_ h=>h) (Yf k8 O) (Dq O (.g O O O) O (λ_ h=>h) (Yd 0 O O O lN) ?_)))))));refine Dq O (.g O O O) O (λ_ h=>h) (Ym O) (Dq O (.g O O O) O (λ_ h=>h) (Yo kH O O y (by omega)) (Dq O (.g O O O) O (λ_ h=>h) (Yf xR O) (Dq O (.g O O O) O (λ_ h=>h) (b9 1 ir O O (l 2 _ O)) ?_)));refine De O (λ_ h=>h) ?_;refine Lp (.g O O O) O xQ O (λw a=>Ii b c v1.1 B.1 v1.2 B.2 m n o p x.body w (a.vs _ (by simp)) (a.vs _ (by simp)) F G) (Ln (Ed (Dq O (.g O O O) O (λ_ h=>h) (az O) ?_)));exact Gi 14 (λ_ h=>h) O O O
  refine WD.nil (λ_ h=>h) ?_;refine Et ?_;refine WC.kc O ?_;refine Ck (Eb (Et (Cr (ad O (I (Yi O O O (by omega)) (ai O (Ln ?_)))))));exact Ea (i+1) (by omega) (by omega) (sc O (sc O (sc O sn))) (λ_ h=>h)
 refine Ce (Ex (Ex (cp (Et (aa (ai O (ae (aX ?_))))))));refine R1 O O λw' a=>?_;exact ⟨O,a.fr⟩
def e3:aZ:=(⟨[99,110,116],[],[(⟨1,[107],true,3⟩:cB),(⟨2,[115,117,109],true,0⟩:cB),(⟨3,[116],true,4⟩:cB)],[(⟨[100,111,119,110],true,[[110]],[[105]],[(bl.mk 1 [] [105] [(aV.mk 3 0 [] [110] [])] [] []),(bl.mk 5 [] [] [(aV.mk 3 0 [] [105] [])] [(bl.mk 1 [] [115,117,109] [(aV.mk 9 0 [] [] [(aV.mk 3 0 [] [115,117,109] []),(aV.mk 3 0 [] [105] [])])] [] []),(bl.mk 1 [] [105] [(aV.mk 10 0 [] [] [(aV.mk 3 0 [] [105] []),(aV.mk 1 1 [] [] [])])] [] [])] []),(bl.mk 6 [] [] [(aV.mk 3 0 [] [115,117,109] [])] [] [])]⟩:dA)],[]⟩:aZ)
def aH:Tx:=[109,111,100,117,108,101,32,116,111,112,123,117,115,101,32,99,110,116,59,109,97,105,110,123,99,110,116,46,116,91,49,93,61,99,110,116,46,100,111,119,110,40,99,110,116,46,107,41,59,111,117,116,32,99,110,116,46,116,91,105,110,93,59,105,102,40,99,110,116,46,115,117,109,61,54,41,123,111,117,116,32,55,59,125,101,108,115,101,123,111,117,116,32,56,59,125,125,125]
def aA:aZ:=(cc aH).1
def fB:List (List UInt8×List bs):=[(bp,oL)]
theorem R8:wM e3<=109951162777:=by decide +kernel
theorem Ij:(cc aH).2=0:=by decide +kernel
theorem R9:ao e3=((bp,oL),0):=by decide +kernel
theorem qI (s:Tx):wM (cc s).1<=73728:=by
 unfold cc
 split
 · show wM oz<=_; decide
 · rename_i h
   have a:(ey s).2=0:=by simpa using h
   have c:=(Bs a).len
   split
   · rename_i m b
     split
     · have:=uZ b
       simp at this
       show wM m<=_
       omega
     · show wM oz<=_; decide
   · show wM oz<=_; decide
theorem R' (w:World) :
   Calls Tryz.prog 103 #[] w λe w'=>∃r:ic,e = .returned (.agg (fu e3 r).toArray)/\Ext w w'/\iB 7 6 (nv w w') r e3:=by
 refine enter Tryz.func103 O 33 O O ?_;refine CE (Vs:=[]) (Ws.init (by simp)) (aa ?_);refine Al Y O lJ λX=>?_;refine ae (aa (I (Yb oE xy O O) (I (Yb oE xy O O) (I (Yb oE xy O O) ?_))));refine Lb Y O Br O O O O λc=>?_;refine LN (rd:=re) (f:=cB.cells) (m:=3) 0 [(⟨1,[107],true,3⟩:cB),(⟨2,[115,117,109],true,0⟩:cB),(⟨3,[116],true,4⟩:cB)] O O (λ_ a=>by cases a) cB.aj (λ_ _ _ _ h=>h) (show 3<=3 by decide) (by decide) λZ d g=>?_;refine Lb Y O dT O O O O λi=>?_;refine LN (rd:=rdStr) (f:=dD) (m:=1) 0 [[110]] O O (λ_ a=>by cases a) iA (λ_ _ _ _ h=>h) (show 1<=1 by decide) (by decide) λab j k=>?_;refine Lb Y O dT O O O O λl=>?_;refine LN (rd:=rdStr) (f:=dD) (m:=1) 0 [[105]] O O (λ_ a=>by cases a) iA (λ_ _ _ _ h=>h) (show 1<=1 by decide) (by decide) λac n o=>?_;refine I (Yb h7 lG O O) ?_;refine Lb Y O jB O O O O λp=>?_;refine LN (rd:=jz) (f:=XE.cells) (m:=1) 0 [((aV.mk 3 0 [] [110] []),none,0)] O O (λ_ a=>by cases a) XE.aj (λ_ _ _ _ h=>h) (show 1<=1 by decide) (by decide) λad q s=>?_;refine I (Yb py u4 O O) (I (Yb h7 lG O O) ?_);refine Lb Y O jB O O O O λt=>?_;refine LN (rd:=jz) (f:=XE.cells) (m:=1) 0 [((aV.mk 3 0 [] [105] []),none,0)] O O (λ_ a=>by cases a) XE.aj (λ_ _ _ _ h=>h) (show 1<=1 by decide) (by decide) λaf u v=>?_;refine I (Yb h7 lG O O) (I (Yb h7 lG O O) ?_);refine Lb Y O jB O O O O λx=>?_;refine LN (rd:=jz) (f:=XE.cells) (m:=2) 0 [((aV.mk 3 0 [] [115,117,109] []),none,0),((aV.mk 3 0 [] [105] []),none,0)] O O (λ_ a=>by cases a) XE.aj (λ_ _ _ _ h=>h) (show 2<=2 by decide) (by decide) λag y z=>?_;refine I (Yb h7 lG O O) ?_;refine Lb Y O jB O O O O λA=>?_;refine LN (rd:=jz) (f:=XE.cells) (m:=1) 0 [((aV.mk 9 0 [] [] [(aV.mk 3 0 [] [115,117,109] []),(aV.mk 3 0 [] [105] [])]),(some ⟨x,0,none⟩),2)] O O (λ_ a=>by cases a) XE.aj (λ_ _ _ _ h=>h) (show 1<=1 by decide) (by decide) λah B C=>?_;refine I (Yb py u4 O O) (I (Yb h7 lG O O) (I (Yb h7 lG O O) ?_));refine Lb Y O jB O O O O λD=>?_;refine LN (rd:=jz) (f:=XE.cells) (m:=2) 0 [((aV.mk 3 0 [] [105] []),none,0),((aV.mk 1 1 [] [] []),none,0)] O O (λ_ a=>by cases a) XE.aj (λ_ _ _ _ h=>h) (show 2<=2 by decide) (by decide) λai E F=>?_;refine I (Yb h7 lG O O) ?_;refine Lb Y O jB O O O O λG=>?_;refine LN (rd:=jz) (f:=XE.cells) (m:=1) 0 [((aV.mk 10 0 [] [] [(aV.mk 3 0 [] [105] []),(aV.mk 1 1 [] [] [])]),(some ⟨D,0,none⟩),2)] O O (λ_ a=>by cases a) XE.aj (λ_ _ _ _ h=>h) (show 1<=1 by decide) (by decide) λak H J=>?_;refine I (Yb py u4 O O) ?_;refine Lb Y O xx O O O O λK=>?_;refine LN (rd:=xw) (f:=SX.cells) (m:=2) 0 [((bl.mk 1 [] [115,117,109] [(aV.mk 9 0 [] [] [(aV.mk 3 0 [] [115,117,109] []),(aV.mk 3 0 [] [105] [])])] [] []),(⟨((some ⟨A,0,none⟩),1),(none,0),(none,0)⟩:mQ)),((bl.mk 1 [] [105] [(aV.mk 10 0 [] [] [(aV.mk 3 0 [] [105] []),(aV.mk 1 1 [] [] [])])] [] []),(⟨((some ⟨G,0,none⟩),1),(none,0),(none,0)⟩:mQ))] O O (λ_ a=>by cases a) SX.aj (λ_ _ _ _ h=>h) (show 2<=2 by decide) (by decide) λal L M=>?_
 refine I (Yb py u4 O O) (I (Yb h7 lG O O) ?_);refine Lb Y O jB O O O O λN=>?_;refine LN (rd:=jz) (f:=XE.cells) (m:=1) 0 [((aV.mk 3 0 [] [115,117,109] []),none,0)] O O (λ_ a=>by cases a) XE.aj (λ_ _ _ _ h=>h) (show 1<=1 by decide) (by decide) λam P Q=>?_;refine I (Yb py u4 O O) ?_;refine Lb Y O xx O O O O λR=>?_;refine LN (rd:=xw) (f:=SX.cells) (m:=3) 0 [((bl.mk 1 [] [105] [(aV.mk 3 0 [] [110] [])] [] []),(⟨((some ⟨p,0,none⟩),1),(none,0),(none,0)⟩:mQ)),((bl.mk 5 [] [] [(aV.mk 3 0 [] [105] [])] [(bl.mk 1 [] [115,117,109] [(aV.mk 9 0 [] [] [(aV.mk 3 0 [] [115,117,109] []),(aV.mk 3 0 [] [105] [])])] [] []),(bl.mk 1 [] [105] [(aV.mk 10 0 [] [] [(aV.mk 3 0 [] [105] []),(aV.mk 1 1 [] [] [])])] [] [])] []),(⟨((some ⟨t,0,none⟩),1),((some ⟨K,0,none⟩),2),(none,0)⟩:mQ)),((bl.mk 6 [] [] [(aV.mk 3 0 [] [115,117,109] [])] [] []),(⟨((some ⟨N,0,none⟩),1),(none,0),(none,0)⟩:mQ))] O O (λ_ a=>by cases a) SX.aj (λ_ _ _ _ h=>h) (show 3<=3 by decide) (by decide) λan S T=>?_;refine I (Yb qy Hq O O) ?_;refine Lb Y O Bq O O O O λU=>?_;refine LN (rd:=Bo) (f:=PX.cells) (m:=1) 0 [((⟨[100,111,119,110],true,[[110]],[[105]],[(bl.mk 1 [] [105] [(aV.mk 3 0 [] [110] [])] [] []),(bl.mk 5 [] [] [(aV.mk 3 0 [] [105] [])] [(bl.mk 1 [] [115,117,109] [(aV.mk 9 0 [] [] [(aV.mk 3 0 [] [115,117,109] []),(aV.mk 3 0 [] [105] [])])] [] []),(bl.mk 1 [] [105] [(aV.mk 10 0 [] [] [(aV.mk 3 0 [] [105] []),(aV.mk 1 1 [] [] [])])] [] [])] []),(bl.mk 6 [] [] [(aV.mk 3 0 [] [115,117,109] [])] [] [])]⟩:dA),(⟨((some ⟨i,0,none⟩),1),((some ⟨l,0,none⟩),1),((some ⟨R,0,none⟩),3)⟩:qA))] O O (λ_ a=>by cases a) PX.aj (λ_ _ _ _ h=>h) (show 1<=1 by decide) (by decide) λao V W=>?_;refine I (Yb lJ xA O O) (aO 0 Y O O O mf O O O (ae (aX ?_)));refine WE.yG 0 O O O hQ O λw' b=>?_;exact ⟨⟨none,0,(some ⟨c,0,none⟩),3,(some ⟨U,0,none⟩),1,none,0⟩,O,b.fr,⟨Sl.nil,(Bp g (cF b (by simp) d)),(Hn W (cF b (by simp) V) (bw.refl _) ((oI.nil _).snoc (bw.refl _) (bw.refl _) ⟨(nM k (cF b (by simp) j)),(nM o (cF b (by simp) n)),(Bk T (cF b (by simp) S) (bw.refl _) ((((nL.nil _ 5).snoc (bw.refl _) (bw.refl _) ⟨(jA s (cF b (by simp) q) (bw.refl _) ((gH.nil _ 6).snoc (bw.refl _) (bw.refl _) Sl.nil)),Sl.nil,Sl.nil⟩).snoc (bw.refl _) (bw.refl _) ⟨(jA v (cF b (by simp) u) (bw.refl _) ((gH.nil _ 6).snoc (bw.refl _) (bw.refl _) Sl.nil)),(Bk M (cF b (by simp) L) (bw.refl _) (((nL.nil _ 4).snoc (bw.refl _) (bw.refl _) ⟨(jA C (cF b (by simp) B) (bw.refl _) ((gH.nil _ 6).snoc (bw.refl _) (bw.refl _) (jA z (cF b (by simp) y) (bw.refl _) (((gH.nil _ 5).snoc (bw.refl _) (bw.refl _) Sl.nil).snoc (bw.refl _) (bw.refl _) Sl.nil)))),Sl.nil,Sl.nil⟩).snoc (bw.refl _) (bw.refl _) ⟨(jA J (cF b (by simp) H) (bw.refl _) ((gH.nil _ 6).snoc (bw.refl _) (bw.refl _) (jA F (cF b (by simp) E) (bw.refl _) (((gH.nil _ 5).snoc (bw.refl _) (bw.refl _) Sl.nil).snoc (bw.refl _) (bw.refl _) Sl.nil)))),Sl.nil,Sl.nil⟩)),Sl.nil⟩).snoc (bw.refl _) (bw.refl _) ⟨(jA Q (cF b (by simp) P) (bw.refl _) ((gH.nil _ 6).snoc (bw.refl _) (bw.refl _) Sl.nil)),Sl.nil,Sl.nil⟩))⟩)),Sl.nil⟩⟩
theorem ht (w:World) :
   Calls Tryz.prog 37 #[] w λe w'=>e = .returned (st aH)/\Ext w w':=by
 refine enter Tryz.func37 O 1 O O ?_;refine CE (Vs:=[]) (Ws.init (by simp)) (aa (ai O (ae (aa (ai O (ae (aX ?_)))))));refine R1 O O λw' a=>?_;exact ⟨O,a.fr⟩
theorem xS:an Tryz.prog 235 0=some 0:=by kernel_rfl
theorem xT:eG Tryz.prog 124=true:=by kernel_rfl
theorem xU:eO Tryz.prog 124=some 3:=by kernel_rfl
theorem xV:f' Tryz.prog 126=some 3:=by kernel_rfl
theorem vk:zeroOf Tryz.prog 126=some (.agg #[.bool false,.int .i64 0,.slice none 0 0]):=by kernel_rfl
theorem xW:dk Tryz.prog 126=some 3:=by kernel_rfl
theorem Ik:an Tryz.prog 126 0=some 0:=by kernel_rfl
theorem R_:an Tryz.prog 126 1=some 1:=by kernel_rfl
theorem xX:an Tryz.prog 126 2=some 2:=by kernel_rfl
theorem k9:eG Tryz.prog 54=true:=by kernel_rfl
theorem hR:eO Tryz.prog 54=some 1:=by kernel_rfl
theorem B2:an Tryz.prog 235 1=some 1:=by kernel_rfl
theorem xY:Enters Tryz.prog 218:=enters_of Tryz.func218 (by kernel_rfl) rfl
theorem Il:Enters Tryz.prog 219:=enters_of Tryz.func219 (by kernel_rfl) rfl
theorem Im:Enters Tryz.prog 220:=enters_of Tryz.func220 (by kernel_rfl) rfl
theorem Io:Enters Tryz.prog 217:=enters_of Tryz.func217 (by kernel_rfl) rfl
theorem xZ (b c:View) (d:Nat) (o:Option Addr) (p:Nat) (kn:List cm) (ay:Int) (m pl n:Int) (w:World) (u:Le b w) (v:Le c w) (q:vc b d 0=some (.slice o kn.length p)) (z:vc b d 1=some (.int .i64 ay)) (f:Sl l0 3 c o p kn) (A:0<=n/\n<=32) :
   Calls Tryz.prog 218 #[.pointer (some ⟨d,0,none⟩),.int .i64 m,.int .i64 pl,.int .i64 n] w λe w'=>e = .returned (.bool (iD kn m pl n))/\Ext w w':=by
 have B:=f.cap;have C:=f.max;refine enter Tryz.func218 O 52 O O ?_;refine CE (Vs:=[b,c]) (Ws.init (by simp [u,v])) (aa (ai O (ae (Cs (aa (ad O (I (b0 O O) (ad O ?_))))))));apply Lo 7 O O O O Y O O O O O
 ·intro D;refine Vg (Ym O) (Vg (Ym O) (Vg (cy O) (Vg (Yf xS O) (Vg (b9 0 xT O O (q)) (Vg (Yn xU O) (Vg (aJ O O) ?_))))));exact Gt 7 O O O
 refine ad O ?_;apply Lo 2 O O O O Y O O O O O
 ·intro E;refine Vg (Ym O) (Vg (b0 O O) ?_);exact Gt 2 O O O
 refine ad O ?_;apply Lo 2 O O O O Y O O O O O
 ·intro F;refine Vg (Ym O) (Vg (dc O O) ?_);exact Gt 2 O O O
 refine ae ?_;refine Cc O (λg=>?_) (λg=>?_)
 ·refine aa (ai O (ae (aX (Er ?_))));refine R1 O O λw' a=>?_;exact ⟨by rw [h1 n g],a.fr⟩
 have i:bh kn m pl=false:=g;obtain ⟨⟨r,rfl,s⟩,G,H⟩:=wO i;obtain ⟨k,j⟩:∃k,kn[r]? = some k:=⟨_,List.getElem?_eq_getElem s⟩;obtain ⟨J,K,x,L,y,t⟩:=f.bJ r k j;have M:=t.cap;have N:=t.max;refine bf (Cs (aa (ad O (I (cy O) (I (Yf xS O) (I (b9 0 xT O O (q)) (ad O (I (Yo xU O O x s) (I (dj 1 xV O O O (y)) ?_)))))))));refine Al Y O vk λP=>?_;refine aO 0 Y O O O xW O O O (ae (aa (I (Yf Ik O) (I (Yd 0 O O O px) (ae ?_)))));refine Cc O (λl=>?_) (λl=>?_)
 ·refine aa (ad O (ad O (I (bd O O (by omega)) (I (Yf R_ O) (I (Yd 0 O O O aT) (I (hg O O) (ai O ?_)))))));refine ae (aX (Er ?_));refine R1 O O λw' a=>?_;exact ⟨by rw [rn i j,if_pos l],a.fr⟩
 refine bf (aa (ad O (I (bP O O) (ad O ?_))));apply Lo 4 O O O O Y O O O O O
 ·intro Q;refine Vg (Ym O) (Vg (Ym O) (Vg (bd O O (by omega)) (Vg (hg O O) ?_)));exact Gt 4 O O O
 refine ai O (ae (aX ?_));refine R1 O O λw' a=>?_;exact ⟨by rw [rn i j,if_neg (λe=>by have h:=l.symm.trans e; cases h)],a.fr⟩
theorem Ip (c d:View) (f:Nat) (r:Option Addr) (s:Nat) (kn:List cm) (ay:Int) (m pl n:Int) (w:World) (B:Le c w) (C:Le d w) (t:vc c f 0=some (.slice r kn.length s)) (L:vc c f 1=some (.int .i64 ay)) (g:Sl l0 3 d r s kn)  :
   Calls Tryz.prog 220 #[.pointer (some ⟨f,0,none⟩),.int .i64 m,.int .i64 pl,.int .i64 n] w λe w'=>e = .returned (.bool (jk kn m pl n))/\Ext w w':=by
 have M:=g.cap;have N:=g.max;refine enter Tryz.func220 O 54 O O ?_;refine CE (Vs:=[c,d]) (Ws.init (by simp [B,C])) (aa (ai O (ae (Cs (aa (ad O (I (b0 O O) (ad O ?_))))))));apply Lo 7 O O O O Y O O O O O
 ·intro P;refine Vg (Ym O) (Vg (Ym O) (Vg (cy O) (Vg (Yf xS O) (Vg (b9 0 xT O O (t)) (Vg (Yn xU O) (Vg (aJ O O) ?_))))));exact Gt 7 O O O
 refine ad O ?_;apply Lo 2 O O O O Y O O O O O
 ·intro Q;refine Vg (Ym O) (Vg (b0 O O) ?_);exact Gt 2 O O O
 refine ae ?_;refine Cc O (λi=>?_) (λi=>?_)
 ·refine aa (ai O (ae (aX (Er ?_))));refine R1 O O λw' b=>?_;exact ⟨by rw [h8 n i],b.fr⟩
 have j:j6 kn m pl=false:=i;obtain ⟨⟨u,rfl,v⟩,a,rfl⟩:=wQ j;obtain ⟨k,l⟩:∃k,kn[u]? = some k:=⟨_,List.getElem?_eq_getElem v⟩;obtain ⟨R,S,D,T,E,o⟩:=g.bJ u k l;have U:=o.cap;have V:=o.max;refine bf (Cs (aa (ad O (I (cy O) (I (Yf xS O) (I (b9 0 xT O O (t)) (ad O (I (Yo xU O O D v) (I (dj 1 xV O O O (E)) ?_)))))))));refine Al Y O vk λW=>?_;refine aO 0 Y O O O xW O O O (ae (aa (I (Yf Ik O) (I (Yd 0 O O O px) (ae ?_)))));refine Cc O (λp=>?_) (λp=>?_)
 ·refine aa (ad O (I (Yf xX O) (I (Yd 0 O O O k9) (I (Yn hR O) (I (b0 O O) (ad O ?_))))));apply La 7 (x:=(k.parts[((a:Int)).toNat]?).getD 0==n) O O O O Y O O O O O
  ·intro F
   have z:a<k.parts.length:=by simpa using F
   obtain ⟨y,A⟩:∃y,k.parts[a]? = some y:=⟨_,List.getElem?_eq_getElem z⟩;obtain ⟨G,H,J,q⟩:=o.bJ a y A;have q:bI d G (H+a*1) (e5 y):=q
   have K:(k.parts[a]?).getD 0=y:=by rw [A]; rfl
   refine Vg (Yf xX O) (Vg (Yd 0 O O O k9) (Vg (Ym O) (Vg (Yo hR O O J z) (Vg (b9 1 aT O O (q 0 _ O)) (Vg (Ym O) (Vg (bP O O) ?_))))));rw [show (y==n)=((k.parts[((a:Int)).toNat]?).getD 0==n) from by rw [Int.toNat_natCast,K]];exact Gt 7 O O O
  refine ai O (ae (aX (Er ?_)));refine R1 O O λw' b=>?_;exact ⟨by rw [o' j l,if_pos p],b.fr⟩
 refine bf (aa (ad O (I (b0 O O) (ad O ?_))));apply La 2 O O O O Y O O O O O
 ·intro X;refine Vg (Ym O) (Vg (hg O O) ?_);exact Gt 2 O O O
 refine ai O (ae (aX ?_));refine R1 O O λw' b=>?_;exact ⟨by rw [o' j l,if_neg (λe=>by have h:=p.symm.trans e; cases h)],b.fr⟩
theorem Iq (a b:View) (c:Nat) (d:Option Addr) (f:Nat) (kn:List cm) (ay:Int) (pl:Int) (w:World) (h:Le a w) (i:Le b w) (l:vc a c 0=some (.slice d kn.length f)) (j:vc a c 1=some (.int .i64 ay)) (g:Sl l0 3 b d f kn)  :
   Calls Tryz.prog 217 #[.pointer (some ⟨c,0,none⟩),.int .i64 pl] w λe w'=>e = .returned (.bool (o9 ay pl))/\Ext w w':=by
 have m:=g.cap;have n:=g.max;refine enter Tryz.func217 O 15 O O ?_;refine CE (Vs:=[a,b]) (Ws.init (by simp [h,i])) (aa (ai O (ae (aa (ad O (I (aJ O O) (ad O ?_)))))));apply La 6 O O O O Y O O O O O
 ·intro o;refine Vg (Ym O) (Vg (Ym O) (Vg (cy O) (Vg (Yf B2 O) (Vg (b9 0 aT O O (j)) (Vg (b0 O O) ?_)))));exact Gt 6 O O O
 refine ai O (ae (aX ?_));refine R1 O O λw' k=>?_;exact ⟨O,k.fr⟩
theorem Ir (n:Int) (w:World) :
   Calls Tryz.prog 219 #[.int .i64 n] w λe w'=>e = .returned (.bool (ni n))/\Ext w w':=by
 refine enter Tryz.func219 O 9 O O ?_;refine CE (Vs:=[]) (Ws.init (by simp)) (aa (ai O (ae (aa (ad O (I (aJ O O) (ad O ?_)))))));apply La 2 O O O O Y O O O O O
 ·intro b;refine Vg (Ym O) (Vg (hg O O) ?_);exact Gt 2 O O O
 refine ai O (ae (aX ?_));refine R1 O O λw' a=>?_;exact ⟨O,a.fr⟩
theorem Sa (i j:View) (l:Nat) (p:Option Addr) (q:Nat) (kn:List cm) (ay:Int) (x:db) (a:Option Addr) (c:Nat) (w:World) (X:Le i w) (Z:Le j w) (v:vc i l 0=some (.slice p kn.length q)) (y:vc i l 1=some (.int .i64 ay)) (r:Sl l0 3 j p q kn)  :
   Calls Tryz.prog 221 #[.pointer (some ⟨l,0,none⟩),.agg (nh x a c).toArray] w λe w'=>e = .returned (.bool (node1 kn ay x.op x.n x.m x.pl x.args.length))/\Ext w w':=by
 have ac:=r.cap;have af:=r.max;refine enter Tryz.func221 O 170 O O ?_;refine CE (Vs:=[i,j]) (Ws.init (by simp [X,Z])) (aa ?_);refine WL.box Y O O λT=>?_;refine ai O (ae (Cs (aa (I (Yf mS O) (I (Yd 0 O O O h') (I (Yn aY O) (ai O (ae (aa (I (Yf mR O) ?_))))))))));refine I (Yd 0 O O O aT) (ae (Cb (aa (I (bP O O) (ai O (ae ?_))))));refine Cc O (λA=>?_) (λA=>?_)
 ·have f:x.op=1:=by simpa using A
  refine aa (I (Yf kD O) (I (Yd 0 O O O aT) (I (bP O O) (ad O ?_))));apply La 3 O O O O Y O O O O O
  ·intro ag;refine Vg (Yf jY O) (Vg (Yd 0 O O O aT) (Vg (bP O O) ?_));exact Gt 3 O O O
  refine ad O ?_;apply La 2 O O O O Y O O O O O
  ·intro ah;refine Vg (Ym O) (Vg (bP O O) ?_);exact Gt 2 O O O
  refine ad O ?_;apply La 3 O O O O Y O O O O O
  ·intro aj;refine Vg (Yf kC O) (Vg (Yd 0 O O O aT) (Vg (aJ O O) ?_));exact Gt 3 O O O
  refine ad O ?_;apply La 3 O O O O Y O O O O O
  ·intro ak;refine Vg (Yf kC O) (Vg (Yd 0 O O O aT) (Vg (hg O O) ?_));exact Gt 3 O O O
  refine ai O (ae (aX (cj (Er ?_))));refine R1 O O λw' b=>?_;exact ⟨by rw [node1,if_pos f],b.fr⟩
 have k:¬x.op=1:=by simpa using A
 refine aa (I (bP O O) (ai O (ae ?_)));refine Cc O (λB=>?_) (λB=>?_)
 ·have f:x.op=3:=by simpa using B
  refine aa (I (Yf kC O) (I (Yd 0 O O O aT) (I (bP O O) (ad O ?_))));apply La 2 O O O O Y O O O O O
  ·intro al;refine Vg (Ym O) (Vg (bP O O) ?_);exact Gt 2 O O O
  refine ad O ?_;apply La 6 O O O O Y O O O O O
  ·intro am;refine Vg (Ym O) (Vg (Yf kD O) (Vg (Yd 0 O O O aT) (Vg (Yf jY O) (Vg (Yd 0 O O O aT) (Lp (.g O O O) O xY O (λw b=>xZ i j l p q kn ay x.m x.pl 1 w (b.vs _ (by simp)) (b.vs _ (by simp)) v y r (by omega)) ?_)))));exact Gt 6 O O O
  refine ai O (ae (aX (cj (Er ?_))));refine R1 O O λw' b=>?_;exact ⟨by rw [node1,if_neg k,if_pos f],b.fr⟩
 have o:¬x.op=3:=by simpa using B
 refine aa (I (bP O O) (ai O (ae ?_)));refine Cc O (λC=>?_) (λC=>?_)
 ·have f:x.op=4:=by simpa using C
  refine aa (I (Yf kC O) (I (Yd 0 O O O aT) (Lp Y O Il O (λw b=>Ir _ w) (ad O ?_))));apply La 2 O O O O Y O O O O O
  ·intro an;refine Vg (Ym O) (Vg (bP O O) ?_);exact Gt 2 O O O
  refine ad O ?_;apply La 8 O O O O Y O O O O O
  ·intro U
   have ab:0<=x.n/\x.n<=32:=by
     unfold ni at U;simp at U;omega
   refine Vg (Ym O) (Vg (Yf kD O) (Vg (Yd 0 O O O aT) (Vg (Yf jY O) (Vg (Yd 0 O O O aT) (Vg (Yf kC O) (Vg (Yd 0 O O O aT) (Lp (.g O O O) O xY O (λw b=>xZ i j l p q kn ay x.m x.pl x.n w (b.vs _ (by simp)) (b.vs _ (by simp)) v y r ab) ?_)))))));exact Gt 8 O O O
  refine ai O (ae (aX (cj (Er ?_))));refine R1 O O λw' b=>?_;exact ⟨by rw [node1,if_neg k,if_neg o,if_pos f],b.fr⟩
 have s:¬x.op=4:=by simpa using C
 refine aa (I (bP O O) (ai O (ae ?_)));refine Cc O (λD=>?_) (λD=>?_)
 ·have f:x.op=5:=by simpa using D
  refine aa (I (Yf kC O) (I (Yd 0 O O O aT) (I (bP O O) (ad O ?_))));apply La 7 O O O O Y O O O O O
  ·intro ao;refine Vg (Ym O) (Vg (Yf kD O) (Vg (Yd 0 O O O aT) (Vg (Yf jY O) (Vg (Yd 0 O O O aT) (Vg (Ym O) (Lp (.g O O O) O Im O (λw b=>Ip i j l p q kn ay x.m x.pl x.args.length w (b.vs _ (by simp)) (b.vs _ (by simp)) v y r) ?_))))));exact Gt 7 O O O
  refine ai O (ae (aX (cj (Er ?_))));refine R1 O O λw' b=>?_;exact ⟨by rw [node1,if_neg k,if_neg o,if_neg s,if_pos f],b.fr⟩
 have t:¬x.op=5:=by simpa using D
 refine aa (I (bP O O) (ai O (ae ?_)));refine Cc O (λE=>?_) (λE=>?_)
 ·have f:x.op=16:=by simpa using E
  refine aa (I (Yf kD O) (I (Yd 0 O O O aT) (I (bP O O) (ad O ?_))));apply La 3 O O O O Y O O O O O
  ·intro ap;refine Vg (Yf kC O) (Vg (Yd 0 O O O aT) (Vg (bP O O) ?_));exact Gt 3 O O O
  refine ad O ?_;apply La 2 O O O O Y O O O O O
  ·intro ar;refine Vg (Ym O) (Vg (bP O O) ?_);exact Gt 2 O O O
  refine ad O ?_;apply La 4 O O O O Y O O O O O
  ·intro au;refine Vg (Ym O) (Vg (Yf jY O) (Vg (Yd 0 O O O aT) (Lp (.g O O O) O Io O (λw b=>Iq i j l p q kn ay x.pl w (b.vs _ (by simp)) (b.vs _ (by simp)) v y r) ?_)));exact Gt 4 O O O
  refine ai O (ae (aX (cj (Er ?_))));refine R1 O O λw' b=>?_;exact ⟨by rw [node1,if_neg k,if_neg o,if_neg s,if_neg t,if_pos f],b.fr⟩
 have z:¬x.op=16:=by simpa using E
 refine aa (I (bP O O) (ai O (ae ?_)));refine Cc O (λF=>?_) (λF=>?_)
 ·have f:x.op=2:=by simpa using F
  refine aa (I (Yf kD O) (I (Yd 0 O O O aT) (I (bP O O) (ad O ?_))));apply La 3 O O O O Y O O O O O
  ·intro av;refine Vg (Yf jY O) (Vg (Yd 0 O O O aT) (Vg (bP O O) ?_));exact Gt 3 O O O
  refine ad O ?_;apply La 3 O O O O Y O O O O O
  ·intro aw;refine Vg (Yf kC O) (Vg (Yd 0 O O O aT) (Vg (bP O O) ?_));exact Gt 3 O O O
  refine ad O ?_;apply La 2 O O O O Y O O O O O
  ·intro ax;refine Vg (Ym O) (Vg (bP O O) ?_);exact Gt 2 O O O
  refine ai O (ae (aX (cj (Er ?_))));refine R1 O O λw' b=>?_;exact ⟨by rw [node1,if_neg k,if_neg o,if_neg s,if_neg t,if_neg z,if_pos f],b.fr⟩
 have G:¬x.op=2:=by simpa using F
 refine aa (I (bP O O) (ai O (ae ?_)));refine Cc O (λH=>?_) (λH=>?_)
 ·have f:x.op=6:=by simpa using H
  refine aa (I (Yf kD O) (I (Yd 0 O O O aT) (I (bP O O) (ad O ?_))));apply La 3 O O O O Y O O O O O
  ·intro az;refine Vg (Yf jY O) (Vg (Yd 0 O O O aT) (Vg (bP O O) ?_));exact Gt 3 O O O
  refine ad O ?_;apply La 3 O O O O Y O O O O O
  ·intro aA;refine Vg (Yf kC O) (Vg (Yd 0 O O O aT) (Vg (bP O O) ?_));exact Gt 3 O O O
  refine ad O ?_;apply La 2 O O O O Y O O O O O
  ·intro aB;refine Vg (Ym O) (Vg (bP O O) ?_);exact Gt 2 O O O
  refine ai O (ae (aX (cj (Er ?_))));refine R1 O O λw' b=>?_;exact ⟨by rw [node1,if_neg k,if_neg o,if_neg s,if_neg t,if_neg z,if_neg G,if_pos f],b.fr⟩
 have V:¬x.op=6:=by simpa using H
 refine WC.wh (ι:=Bool) (λu=>[(3,.pointer (some ⟨T,0,none⟩)),(5,.int .i64 (x.args.length:Int)),(143,.bool u)]) (λu=>Ws w [] [aq T (.cells (nh x a c).toArray 269 (0,0))] [i,j]) (λu=>u=decide (7<=x.op/\x.op<=15)) ?_ ?_
 ·refine aa (I (bP O O) (ai O (ae ?_)));refine Cc O (λJ=>?_) (λJ=>?_)
  ·refine Ck ?_
   exact Em (x.op==7) (by have d:x.op=7:=(by simpa using J); rw [d]; decide) (sc O (sc O (sc O sn))) (λ_ h=>by
     have h:=h.bR 0 rfl
     exact h)
  have aC:¬x.op=7:=by simpa using J
  refine aa (I (bP O O) (ai O (ae ?_)));refine Cc O (λK=>?_) (λK=>?_)
  ·refine Ck ?_
   exact Em (x.op==8) (by have d:x.op=8:=(by simpa using K); rw [d]; decide) (sc O (sc O (sc O sn))) (λ_ h=>by
     have h:=h.bR 0 rfl
     exact h)
  have aD:¬x.op=8:=by simpa using K
  refine aa (I (bP O O) (ai O (ae ?_)));refine Cc O (λL=>?_) (λL=>?_)
  ·refine Ck ?_
   exact Em (x.op==9) (by have d:x.op=9:=(by simpa using L); rw [d]; decide) (sc O (sc O (sc O sn))) (λ_ h=>by
     have h:=h.bR 0 rfl
     exact h)
  have aE:¬x.op=9:=by simpa using L
  refine aa (I (bP O O) (ai O (ae ?_)));refine Cc O (λM=>?_) (λM=>?_)
  ·refine Ck ?_
   exact Em (x.op==10) (by have d:x.op=10:=(by simpa using M); rw [d]; decide) (sc O (sc O (sc O sn))) (λ_ h=>by
     have h:=h.bR 0 rfl
     exact h)
  have aF:¬x.op=10:=by simpa using M
  refine aa (I (bP O O) (ai O (ae ?_)));refine Cc O (λN=>?_) (λN=>?_)
  ·refine Ck ?_
   exact Em (x.op==11) (by have d:x.op=11:=(by simpa using N); rw [d]; decide) (sc O (sc O (sc O sn))) (λ_ h=>by
     have h:=h.bR 0 rfl
     exact h)
  have aG:¬x.op=11:=by simpa using N
  refine aa (I (bP O O) (ai O (ae ?_)));refine Cc O (λP=>?_) (λP=>?_)
  ·refine Ck ?_
   exact Em (x.op==12) (by have d:x.op=12:=(by simpa using P); rw [d]; decide) (sc O (sc O (sc O sn))) (λ_ h=>by
     have h:=h.bR 0 rfl
     exact h)
  have aH:¬x.op=12:=by simpa using P
  refine aa (I (bP O O) (ai O (ae ?_)));refine Cc O (λQ=>?_) (λQ=>?_)
  ·refine Ck ?_
   exact Em (x.op==13) (by have d:x.op=13:=(by simpa using Q); rw [d]; decide) (sc O (sc O (sc O sn))) (λ_ h=>by
     have h:=h.bR 0 rfl
     exact h)
  have aI:¬x.op=13:=by simpa using Q
  refine aa (I (bP O O) (ai O (ae ?_)));refine Cc O (λR=>?_) (λR=>?_)
  ·refine Ck ?_
   exact Em (x.op==14) (by have d:x.op=14:=(by simpa using R); rw [d]; decide) (sc O (sc O (sc O sn))) (λ_ h=>by
     have h:=h.bR 0 rfl
     exact h)
  have aK:¬x.op=14:=by simpa using R
  refine Cr (I (bP O O) (ai O (Ln ?_)))
  exact Em (x.op==15) (by rw [Bool.eq_iff_iff]; simp; omega) (sc O (sc O (sc O sn))) (λ_ h=>by
    have h:=h.bR 0 rfl
    exact h)
 intro u W;refine Cc O (λS=>?_) (λS=>?_)
 ·refine aa (I (Yf kD O) (I (Yd 0 O O O aT) (I (bP O O) (ad O ?_))));apply La 3 O O O O Y O O O O O
  ·intro aL;refine Vg (Yf jY O) (Vg (Yd 0 O O O aT) (Vg (bP O O) ?_));exact Gt 3 O O O
  refine ad O ?_;apply La 3 O O O O Y O O O O O
  ·intro aM;refine Vg (Yf kC O) (Vg (Yd 0 O O O aT) (Vg (bP O O) ?_));exact Gt 3 O O O
  refine ad O ?_;apply La 2 O O O O Y O O O O O
  ·intro aN;refine Vg (Ym O) (Vg (bP O O) ?_);exact Gt 2 O O O
  refine ai O (ae (aX (cj (Er ?_))));refine R1 O O λw' b=>?_;exact ⟨by rw [node1,if_neg k,if_neg o,if_neg s,if_neg t,if_neg z,if_neg G,if_neg V,if_pos (of_decide_eq_true (W.symm.trans S))],b.fr⟩
 refine Ck (Eb (Et (aa (ai O (ae (aX ?_))))));refine R1 O O λw' b=>?_;exact ⟨by rw [node1,if_neg k,if_neg o,if_neg s,if_neg t,if_neg z,if_neg G,if_neg V,if_neg (of_decide_eq_false (W.symm.trans S))],b.fr⟩
theorem Sb {a b:Nat} (c:a<=9223372036854775807) (d:b<=9223372036854775807):(IntKind.i64.wrap ((a:Int)+(b:Int))==0)=((a:Int)+(b:Int)==0):=by
 rw [Bool.eq_iff_iff];simp only [beq_iff_eq];rw [IntKind.wrap_i64];omega
theorem Sc:Enters Tryz.prog 221:=enters_of Tryz.func221 (by kernel_rfl) rfl
theorem Is:Enters Tryz.prog 173:=enters_of Tryz.func173 (by kernel_rfl) rfl
theorem Sd:Enters Tryz.prog 172:=enters_of Tryz.func172 (by kernel_rfl) rfl
theorem x0:Enters Tryz.prog 135:=enters_of Tryz.func135 (by kernel_rfl) rfl
theorem Se (f m:View) (n:Nat) (o:Option Addr) (p:Nat) (kn:List cm) (ay:Int) (r:View) (k:Nat) (l:List db) (a:Option Addr) (c:Nat) (d:Nat) (w:World) (F:Le f w) (G:Le m w) (H:vc f n 0=some (.slice o kn.length p)) (J:vc f n 1=some (.int .i64 ay)) (s:Sl l0 3 m o p kn) (K:Le r w) (t:Sl (ig k) 5 r a c l) (S:d<=7) :
   Calls Tryz.prog 173 #[.pointer (some ⟨n,0,none⟩),.slice a l.length c,.int .i64 (d:Int)] w λe w'=>e = .returned (.bool (fw kn ay l d))/\Ext w w':=by
 have T:=s.cap;have U:=s.max
 induction k using Nat.strongRecOn generalizing l a c d w
 rename_i k L;have V:=t.cap;have W:=t.max;refine enter Tryz.func173 O 33 O O ?_;refine CE (Vs:=[f,m,r]) (Ws.init (by simp [F,G,K])) (aa (ai O (ae (Cs (aa (ad O (I (Yn aY O) (ad O (ae (Cb ?_))))))))));refine CW (ι:=Nat) (λi=>[(11,.int .i64 (i:Int))]) [(0,_),(2,_),(9,_),(10,_)] (λi=>i<=l.length/\(l.take i).all (jM kn ay · d)=true) (λi=>l.length-i) 0 ⟨Nat.zero_le _,O⟩ (sc O (sc O (sc O (sc O (sc O sn))))) ?_;intro i ⟨hi,u⟩;refine aa (I (b0 O O) (ae (Cs ?_)));refine Cc O (λv=>?_) (λv=>?_)
 ·have D:i<l.length:=by simpa using v
  obtain ⟨x,y⟩:∃q,l[i]? = some q:=⟨_,List.getElem?_eq_getElem D⟩;obtain ⟨X,Z,M,E⟩:=t.bJ i x y
  obtain ⟨j,rfl⟩:∃j,k=j+1:=by
    cases k with
    | zero=>exact E.elim
    | succ j=>exact ⟨j,rfl⟩
  obtain ⟨z,A,N,P⟩:=E;refine bf (Cs (Cb (aa (I (Yo aY O O M D) (I (dj 2 jE O O O (N)) ?_)))));refine Al Y O vb λab=>?_;refine aO 0 Y O O O xH O O O (ae (Cs (e9 0 (.cells (nh x z A).toArray 269 (0,0)) O O (Cr (ad O (I (dc O O) (ad O ?_)))))));apply Lo 4 O O O O Y O O O O O
  ·intro ac;refine Vg (Ym O) (Vg (b8 0 O O jE O) (Lp (.g O O O) O Sc O (λw b=>Sa f m n o p kn ay x z A w (b.vs _ (by simp)) (b.vs _ (by simp)) H J s) (Vg (az O) ?_)));exact Gt 4 O O O
  refine ad O ?_;apply Lo 7 O O O O Y O O O O O
  ·intro Q
   have af:d<=6:=by
     have R:=(Bool.or_eq_false_iff.1 Q).1;simp at R; omega
   refine Vg (Ym O) (Vg (Yf mS O) (Vg (Yd 0 O O O h') (Vg (Ym O) (Vg (Yi O O O (by omega)) (Lp (.g O O O) O Is O (λw b=>L j (by omega) x.args z A (d+1) w (b.vs _ (by simp)) (b.vs _ (by simp)) (b.vs _ (by simp)) P (by omega)) (Vg (az O) ?_))))));exact Gt 7 O O O
  refine ae ?_;rw [L4];refine Cc O (λB=>?_) (λB=>?_)
  ·have C:jM kn ay x d=false:=by simpa using B
   refine aa (ai O (ae (aX (cj (Er (Er (cj (Er ?_))))))));refine R1 O O λw' b=>?_;exact ⟨by rw [wR,sC y C],b.fr⟩
  have C:jM kn ay x d=true:=by simpa using B
  refine Ck (Eb (Et (Cr (I (Yi O O O (by omega)) (ad O (Ln ?_))))));exact Ea (i+1) (by omega) ⟨by omega,sD y u C⟩ (sc O (sc O (sc O (sc O (sc O sn))))) (λ_ h=>Wd 1 h)
 have ag:¬i<l.length:=by simpa using v
 rw [List.take_of_length_le (by omega)] at u;refine Ce (Ex (Ex (cp (Et (aa (ai O (ae (aX ?_))))))));refine R1 O O λw' b=>?_;exact ⟨by rw [wR,u],b.fr⟩
theorem Sf (b f:View) (i:Nat) (j:Option Addr) (k:Nat) (kn:List cm) (ay:Int) (x:cY) (r:rl) (w:World) (J:Le b w) (K:Le f w) (s:vc b i 0=some (.slice j kn.length k)) (t:vc b i 1=some (.int .i64 ay)) (l:Sl l0 3 f j k kn) (L:x.body.length<=9223372036854775807) (M:x.other.length<=9223372036854775807) :
   Calls Tryz.prog 172 #[.pointer (some ⟨i,0,none⟩),.agg (o7 x r).toArray] w λe w'=>e = .returned (.bool (e' kn ay x.op x.n x.m x.pl x.args.length x.body.length x.other.length))/\Ext w w':=by
 have R:=l.cap;have S:=l.max;refine enter Tryz.func172 O 135 O O ?_;refine CE (Vs:=[b,f]) (Ws.init (by simp [J,K])) (aa ?_);refine WL.box Y O O λN=>?_;refine ai O (ae (Cs ?_));refine WC.ld [(0,true),(1,true),(2,true),(3,true),(4,true),(5,true),(6,true),(7,true),(8,true),(9,true),(10,true),(11,true),(12,true)] mixed (by kernel_rfl) (λ_ _ _ d _ h=>by cases d<;>exact h) ?_;refine D0 O (λ_ h=>h) (Yf mh O) (D0 O (λ_ h=>h) (Yd 0 O O O h') (D0 O (λ_ h=>h) (Yn aY O) (D0 O (λ_ h=>h) (Yf rV O) (D0 O (λ_ h=>h) (Yd 0 O O O ir) (D0 O (λ_ h=>h) (Yn gS O) (D0 O (λ_ h=>h) (Yf pO O) (D0 O (λ_ h=>h) (Yd 0 O O O ir) ?_)))))));refine D0 O (λ_ h=>h) (Yn gS O) (D0 O (λ_ h=>h) (vM O O) (D0 O (λ_ h=>h) (bP O O) ?_));rw [Sb L M];refine D0 O (λ_ h=>h) (Ya O) (D0 O (λ_ h=>h) (Ya O) ?_);refine WD.nil (λ_ h=>h) ?_;refine Et (aa (I (Yf k6 O) (I (Yd 0 O O O aT) (I (bP O O) (ad O ?_)))));apply La 3 O O O O Y O O O O O
 ·intro T;refine Vg (Yf lM O) (Vg (Yd 0 O O O aT) (Vg (bP O O) ?_));exact Gt 3 O O O
 refine ad O ?_;apply La 3 O O O O Y O O O O O
 ·intro U;refine Vg (Yf pN O) (Vg (Yd 0 O O O aT) (Vg (bP O O) ?_));exact Gt 3 O O O
 refine ai O (ae (Cs (aa (I (Yf tm O) (I (Yd 0 O O O aT) (ae (Cb (aa (I (bP O O) (ai O (ae ?_)))))))))));refine Cc O (λy=>?_) (λy=>?_)
 ·have c:x.op=1:=by simpa using y
  refine aa (ad O (ad O ?_));apply La 2 O O O O Y O O O O O
  ·intro V;refine Vg (Ym O) (Vg (bP O O) ?_);exact Gt 2 O O O
  refine ad O ?_;apply La 3 O O O O Y O O O O O
  ·intro W;refine Vg (Yf pN O) (Vg (Yd 0 O O O aT) (Vg (bP O O) ?_));exact Gt 3 O O O
  refine ad O ?_;apply La 17 O O O O Y O O O O O
  ·intro X;refine Vg (Yf k6 O) (Vg (Yd 0 O O O aT) (Vg (bP O O) (Vg (Ym O) ?_)));apply La 4 O O O O (.g O O O) O O O O O
   ·intro Z;refine Vg (Ym O) (Vg (Yf lM O) (Vg (Yd 0 O O O aT) (Lp (.g O O O) O Io O (λw a=>Iq b f i j k kn ay x.pl w (a.vs _ (by simp)) (a.vs _ (by simp)) s t l) ?_)));exact Gt 4 O O O
   refine Vg (Ym O) ?_;apply Lo 6 O O O O (.g O O O) O O O O O
   ·intro ab;refine Vg (Ym O) (Vg (Yf k6 O) (Vg (Yd 0 O O O aT) (Vg (Yf lM O) (Vg (Yd 0 O O O aT) (Lp (.g O O O) O xY O (λw a=>xZ b f i j k kn ay x.m x.pl 1 w (a.vs _ (by simp)) (a.vs _ (by simp)) s t l (by omega)) ?_)))));exact Gt 6 O O O
   exact Gt 7 O O O
  refine ai O (ae (aX (cj (Er ?_))));refine R1 O O λw' a=>?_;exact ⟨by rw [e',if_pos c],a.fr⟩
 have o:¬x.op=1:=by simpa using y
 refine aa (I (bP O O) (ai O (ae ?_)));refine Cc O (λz=>?_) (λz=>?_)
 ·have c:x.op=2:=by simpa using z
  refine aa (ad O (ad O ?_));apply La 2 O O O O Y O O O O O
  ·intro ac;refine Vg (Ym O) (Vg (bP O O) ?_);exact Gt 2 O O O
  refine ad O ?_;apply La 3 O O O O Y O O O O O
  ·intro af;refine Vg (Yf pN O) (Vg (Yd 0 O O O aT) (Lp (.g O O O) O Il O (λw a=>Ir _ w) ?_));exact Gt 3 O O O
  refine ad O ?_;apply La 8 O O O O Y O O O O O
  ·intro P
   have Q:0<=x.n/\x.n<=32:=by
     have u:=(Bool.and_eq_true_iff.1 P).2;unfold ni at u;simp at u;omega
   refine Vg (Ym O) (Vg (Yf k6 O) (Vg (Yd 0 O O O aT) (Vg (Yf lM O) (Vg (Yd 0 O O O aT) (Vg (Yf pN O) (Vg (Yd 0 O O O aT) (Lp (.g O O O) O xY O (λw a=>xZ b f i j k kn ay x.m x.pl x.n w (a.vs _ (by simp)) (a.vs _ (by simp)) s t l Q) ?_)))))));exact Gt 8 O O O
  refine ai O (ae (aX (cj (Er ?_))));refine R1 O O λw' a=>?_;exact ⟨by rw [e',if_neg o,if_pos c],a.fr⟩
 have p:¬x.op=2:=by simpa using z
 refine aa (I (bP O O) (ai O (ae ?_)));refine Cc O (λA=>?_) (λA=>?_)
 ·have c:x.op=3:=by simpa using A
  refine aa (ad O (ad O ?_));apply La 3 O O O O Y O O O O O
  ·intro ag;refine Vg (Yf pN O) (Vg (Yd 0 O O O aT) (Vg (bP O O) ?_));exact Gt 3 O O O
  refine ad O ?_;apply La 7 O O O O Y O O O O O
  ·intro ah;refine Vg (Ym O) (Vg (Yf k6 O) (Vg (Yd 0 O O O aT) (Vg (Yf lM O) (Vg (Yd 0 O O O aT) (Vg (Ym O) (Lp (.g O O O) O Im O (λw a=>Ip b f i j k kn ay x.m x.pl x.args.length w (a.vs _ (by simp)) (a.vs _ (by simp)) s t l) ?_))))));exact Gt 7 O O O
  refine ai O (ae (aX (cj (Er ?_))));refine R1 O O λw' a=>?_;exact ⟨by rw [e',if_neg o,if_neg p,if_pos c],a.fr⟩
 have v:¬x.op=3:=by simpa using A
 refine aa (I (bP O O) (ai O (ae ?_)));refine Cc O (λB=>?_) (λB=>?_)
 ·have c:x.op=4:=by simpa using B
  refine aa (ad O (ad O ?_));apply La 2 O O O O Y O O O O O
  ·intro aj;refine Vg (Ym O) (Vg (bP O O) ?_);exact Gt 2 O O O
  refine ai O (ae (aX (cj (Er ?_))));refine R1 O O λw' a=>?_;exact ⟨by rw [e',if_neg o,if_neg p,if_neg v,if_pos c],a.fr⟩
 have C:¬x.op=4:=by simpa using B
 refine aa (I (bP O O) (ai O (ae ?_)));refine Cc O (λD=>?_) (λD=>?_)
 ·have c:x.op=5:=by simpa using D
  refine aa (ad O (ad O ?_));apply La 2 O O O O Y O O O O O
  ·intro ak;refine Vg (Ym O) (Vg (bP O O) ?_);exact Gt 2 O O O
  refine ad O ?_;apply La 4 O O O O Y O O O O O
  ·intro al;refine Vg (Yf pO O) (Vg (Yd 0 O O O ir) (Vg (Yn gS O) (Vg (bP O O) ?_)));exact Gt 4 O O O
  refine ai O (ae (aX (cj (Er ?_))));refine R1 O O λw' a=>?_;exact ⟨by rw [e',if_neg o,if_neg p,if_neg v,if_neg C,if_pos c],a.fr⟩
 have G:¬x.op=5:=by simpa using D
 refine WC.wh (ι:=Bool) (λq=>[(5,.int .i64 (x.args.length:Int)),(6,.bool ((x.body.length:Int)+(x.other.length:Int)==0)),(7,.bool (((x.m==0)&&(x.pl==0))&&(x.n==0))),(124,.bool q)]) (λq=>Ws w [] [aq N (.cells (o7 x r).toArray 205 (0,0))] [b,f]) (λq=>q=decide (x.op=6\/x.op=7)) ?_ ?_
 ·refine aa (I (bP O O) (ai O (ae ?_)));refine Cc O (λE=>?_) (λE=>?_)
  ·refine Ck ?_
   exact Em (x.op==6) (by have u:x.op=6:=(by simpa using E); rw [u]; decide) (sc O (sc O (sc O (sc O sn)))) (λ_ h=>by
     have h:=h.bR 0 rfl
     exact h)
  have am:¬x.op=6:=by simpa using E
  refine Cr (I (bP O O) (ai O (Ln ?_)))
  exact Em (x.op==7) (by rw [Bool.eq_iff_iff]; simp; omega) (sc O (sc O (sc O (sc O sn)))) (λ_ h=>by
    have h:=h.bR 0 rfl
    exact h)
 intro q H;refine Cc O (λF=>?_) (λF=>?_)
 ·refine aa (ad O (ad O ?_));apply La 1 O O O O Y O O O O O
  ·intro an;refine Vg (Ym O) ?_;exact Gt 1 O O O
  refine ad O ?_;apply La 2 O O O O Y O O O O O
  ·intro ao;refine Vg (Ym O) (Vg (bP O O) ?_);exact Gt 2 O O O
  refine ai O (ae (aX (cj (Er ?_))));refine R1 O O λw' a=>?_;exact ⟨by rw [e',if_neg o,if_neg p,if_neg v,if_neg C,if_neg G,if_pos (of_decide_eq_true (H.symm.trans F))],a.fr⟩
 refine Ck (Eb (Et (aa (ai O (ae (aX ?_))))));refine R1 O O λw' a=>?_;exact ⟨by rw [e',if_neg o,if_neg p,if_neg v,if_neg C,if_neg G,if_neg (of_decide_eq_false (H.symm.trans F))],a.fr⟩
theorem It (f m:View) (n:Nat) (o:Option Addr) (p:Nat) (kn:List cm) (ay:Int) (s:View) (ke k:Nat) (l:List cY) (a:Option Addr) (c:Nat) (d:Nat) (w:World) (M:Le f w) (N:Le m w) (F:vc f n 0=some (.slice o kn.length p)) (G:vc f n 1=some (.int .i64 ay)) (t:Sl l0 3 m o p kn) (P:Le s w) (u:Sl (gW ke k) 7 s a c l) (T:d<=7) :
   Calls Tryz.prog 135 #[.pointer (some ⟨n,0,none⟩),.slice a l.length c,.int .i64 (d:Int)] w λe w'=>e = .returned (.bool (aG kn ay l d))/\Ext w w':=by
 have U:=t.cap;have V:=t.max
 induction k using Nat.strongRecOn generalizing l a c d w
 rename_i k H;have W:=u.cap;have X:=u.max;refine enter Tryz.func135 O 68 O O ?_;refine CE (Vs:=[f,m,s]) (Ws.init (by simp [M,N,P])) (aa (ai O (ae (Cs (aa (ad O (I (dc O O) (ad O ?_))))))));apply Lo 3 O O O O Y O O O O O
 ·intro Z;refine Vg (Ym O) (Vg (Yn gS O) (Vg (dc O O) ?_));exact Gt 3 O O O
 refine ae ?_;refine Cc O (λv=>?_) (λv=>?_)
 ·refine aa (ai O (ae (aX (Er ?_))));refine R1 O O λw' b=>?_;exact ⟨by rw [L6 kn ay l d v],b.fr⟩
 have J:=L7 v;refine bf (Cs (aa (ad O (I (Yn gS O) (ad O (ae (Cb ?_)))))));refine CW (ι:=Nat) (λi=>[(18,.int .i64 (i:Int))]) [(0,_),(2,_),(16,_),(17,_)] (λi=>i<=l.length/\(l.take i).all (jl kn ay · d)=true) (λi=>l.length-i) 0 ⟨Nat.zero_le _,O⟩ (sc O (sc O (sc O (sc O (sc O sn))))) ?_;intro i ⟨hi,y⟩;refine aa (I (b0 O O) (ae (Cs ?_)));refine Cc O (λz=>?_) (λz=>?_)
 ·have K:i<l.length:=by simpa using z
  obtain ⟨x,A⟩:∃q,l[i]? = some q:=⟨_,List.getElem?_eq_getElem K⟩;obtain ⟨ab,ac,Q,L⟩:=u.bJ i x A
  obtain ⟨j,rfl⟩:∃j,k=j+1:=by
    cases k with
    | zero=>exact L.elim
    | succ j=>exact ⟨j,rfl⟩
  obtain ⟨r,R,S,B,C⟩:=L;have af:=B.cap;have ag:=B.max;have ah:=C.cap;have aj:=C.max;refine bf (Cs (Cb (aa (I (Yo gS O O Q K) (I (dj 2 tj O O O (R)) ?_)))));refine Al Y O vf λak=>?_;refine aO 0 Y O O O xK O O O (ae (Cs (e9 0 (.cells (o7 x r).toArray 205 (0,0)) O O (Cr (ad O (I (b8 0 O O tj O) (Lp Y O Sd O (λw b=>Sf f m n o p kn ay x r w (b.vs _ (by simp)) (b.vs _ (by simp)) F G t (by omega) (by omega)) (I (az O) ?_))))))));refine ad O ?_;apply Lo 5 O O O O Y O O O O O
  ·intro al;refine Vg (Ym O) (Vg (Yf mh O) (Vg (Yd 0 O O O h') (Lp (.g O O O) O Is O (λw b=>Se f m n o p kn ay s ke x.args r.s1.1 r.s1.2 1 w (b.vs _ (by simp)) (b.vs _ (by simp)) F G t (b.vs _ (by simp)) S (by omega)) (Vg (az O) ?_))));exact Gt 5 O O O
  refine ad O ?_;apply Lo 17 O O O O Y O O O O O
  ·intro am;refine Vg (Yf tm O) (Vg (Yd 0 O O O aT) (Vg (bP O O) (Vg (Ym O) ?_)));apply Lo 3 O O O O (.g O O O) O O O O O
   ·intro an;refine Vg (Yf tm O) (Vg (Yd 0 O O O aT) (Vg (bP O O) ?_));exact Gt 3 O O O
   refine Vg (Ym O) ?_;apply La 7 O O O O (.g O O O) O O O O O
   ·intro ao;refine Vg (Ym O) (Vg (Yf rV O) (Vg (Yd 0 O O O ir) (Vg (Ym O) (Vg (Yi O O O (by omega)) (Lp (.g O O O) O x0 O (λw b=>H j (by omega) x.body r.s2.1 r.s2.2 (d+1) w (b.vs _ (by simp)) (b.vs _ (by simp)) (b.vs _ (by simp)) B (by omega)) (Vg (az O) ?_))))));exact Gt 7 O O O
   exact Gt 7 O O O
  refine ad O ?_;apply Lo 13 O O O O Y O O O O O
  ·intro ap;refine Vg (Yf pO O) (Vg (Yd 0 O O O ir) (Vg (Yn gS O) (Vg (dc O O) (Vg (Ym O) ?_))));apply La 7 O O O O (.g O O O) O O O O O
   ·intro aq;refine Vg (Ym O) (Vg (Yf pO O) (Vg (Yd 0 O O O ir) (Vg (Ym O) (Vg (Yi O O O (by omega)) (Lp (.g O O O) O x0 O (λw b=>H j (by omega) x.other r.s3.1 r.s3.2 (d+1) w (b.vs _ (by simp)) (b.vs _ (by simp)) (b.vs _ (by simp)) C (by omega)) (Vg (az O) ?_))))));exact Gt 7 O O O
   exact Gt 6 O O O
  refine ae ?_;rw [L5];refine Cc O (λD=>?_) (λD=>?_)
  ·have E:jl kn ay x d=false:=by simpa using D
   refine aa (ai O (ae (aX (cj (Er (Er (cj (Er ?_))))))));refine R1 O O λw' b=>?_;exact ⟨by rw [D7 kn ay J,sC A E],b.fr⟩
  have E:jl kn ay x d=true:=by simpa using D
  refine Ck (Eb (Et (Cr (I (Yi O O O (by omega)) (ad O (Ln ?_))))));exact Ea (i+1) (by omega) ⟨by omega,sD A y E⟩ (sc O (sc O (sc O (sc O (sc O sn))))) (λ_ h=>Wd 1 h)
 have ar:¬i<l.length:=by simpa using z
 rw [List.take_of_length_le (by omega)] at y;refine Ce (Ex (Ex (cp (Et (aa (ai O (ae (aX ?_))))))));refine R1 O O λw' b=>?_;exact ⟨by rw [D7 kn ay J,y],b.fr⟩
abbrev XK:=cm×(Option Addr×Nat)
def XK.cells (e:XK):List Value:=e.1.cells e.2
theorem XK.aj (e:XK):(XK.cells e).length=3:=rfl
theorem XK.one (e:XK):(XK.cells e).all (·.oneCell')=true:=rfl
def vl (a:View) (b o:Nat) (e:XK):Prop:=bI a b o (XK.cells e)
def mT (J:View) (e:XK):Prop:=Sl o8 1 J e.2.1 e.2.2 e.1.parts
theorem mT.mv {a B:View} {e:XK} (hv:bw a B) (h:mT a e):mT B e:=h.imp λ_ _ _ r=>bI.mono hv r
def Iu (a:View) (b o:Nat) (e:XK):Prop:=bI a b o (XK.cells e)/\mT a e
theorem Sg {d:View} {a:Option Addr} {c:Nat} {l:List cm} (h:Sl l0 3 d a c l):∃ys:List XK,ys.map (·.1)=l/\Sl Iu 3 d a c ys:=by
 obtain ⟨ys,j,k⟩:=Fl (β:=Option Addr×Nat) (p:=λi x r=>∃b o,a=some ⟨b,o,none⟩/\bI d b (o+i*3) (cm.cells x r)/\Sl o8 1 d r.1 r.2 x.parts) l 0 λi x m=>by
   obtain ⟨b,o,f,r,e,g⟩:=h.bJ i x m;exact ⟨r,b,o,f,by rw [Nat.zero_add]; exact e,g⟩
 have n:ys.length=l.length:=by rw [<-j,List.length_map]
 refine ⟨ys,j,by rw [n]; exact h.cap,h.max,h.spot,λi y q=>?_⟩;obtain ⟨b,o,f,e,g⟩:=k i y q;rw [Nat.zero_add] at e;exact ⟨b,o,f,e,g⟩
theorem B3 {f d:View} {a:Option Addr} {c:Nat} {es:List XK} (h:Sl vl 3 f a c es) (hv:bw f d) (k:∀e ∈ es,mT d e):Sl l0 3 d a c (es.map (·.1)):=by
 refine ⟨by rw [List.length_map]; exact h.cap,h.max,h.spot,λi x g=>?_⟩;rw [List.getElem?_map] at g;obtain ⟨y,j,rfl⟩:=Option.map_eq_some_iff.1 g;obtain ⟨b,o,l,m⟩:=h.bJ i y j;exact ⟨b,o,l,y.2,bI.mono hv m,k y (List.mem_of_getElem? j)⟩
theorem Iv {u:bK} (h:lr u=false):u.parts.length<=6/\u.ak.length<=3/\0<=u.data/\u.data<=512:=by
 unfold lr at h;simp only [Bool.or_eq_false_iff,decide_eq_false_iff_not] at h;omega
theorem K5 {kn:List cm} {x:hk} (h:(((decide (x.params<0)||decide (3<x.params))||decide (x.locals<0))||decide (4<x.locals))=true):jm kn x=false:=by unfold jm; rw [h]; rfl
theorem Si {kn:List cm} {x:hk} (h:(((decide (x.params<0)||decide (3<x.params))||decide (x.locals<0))||decide (4<x.locals))=false):jm kn x=aG kn (x.params+x.locals) x.body 1:=by unfold jm; rw [h]; rfl
theorem Sj (b:Bool):decide (1<(if b=true then (1:Int) else 0)+1)=b:=by cases b<;>decide
theorem Sk:aK Tryz.prog 126=some [(0,1),(1,1),(2,1)]:=by kernel_rfl
theorem x1:f' Tryz.prog 89=some 3:=by kernel_rfl
theorem B4:dk Tryz.prog 89=some 3:=by kernel_rfl
theorem hS:aE Tryz.prog 54 3 (.int .i64 0) 1 8:=hV (by kernel_rfl)
theorem vm:dk Tryz.prog 54=some 1:=by kernel_rfl
theorem Iw:Enters Tryz.prog 64:=enters_of Tryz.func64 (by kernel_rfl) rfl
theorem vn:aE Tryz.prog 124 126 (.agg #[.bool false,.int .i64 0,.slice none 0 0]) 3 40:=hV (by kernel_rfl)
theorem K8:aK Tryz.prog 235=some [(0,1),(1,1)]:=by kernel_rfl
theorem K9:zeroOf Tryz.prog 235=some (.agg #[.slice none 0 0,.int .i64 0]):=by kernel_rfl
theorem Ix (a:View) (ke k:Nat) (u:bK) (r:ih) (w:World) (j:Le a w) (b:hI ke k a r u) (B:u.parts.length<=1048576) :
   Calls Tryz.prog 64 #[.agg (eE u r).toArray] w λe w'=>∃q:Option Addr×Nat,e = .returned (.agg ((c7 u).cells q).toArray)/\Ext w w'/\Sl o8 1 (nv w w') q.1 q.2 (c7 u).parts:=by
 have C:=b.parts.cap;have D:=b.parts.max;refine enter Tryz.func64 O 25 O O ?_;refine CE (Vs:=[a]) (Ws.init (by simp [j])) (aa ?_);refine WL.box Y O O λl=>?_;refine Al Y O vk λm=>?_;refine ae (aa (I (Yf oP O) (I (Yd 1 O O O aT) (I (Yb vk Sk O O) ?_))));refine Al Y O vk λn=>?_;refine aO 0 Y O O O xW O O O (ae (Cs (Cs (e9 0 (.cells #[.bool true,.int .i64 u.data,.slice none 0 0] 126 (0,0)) O O (Cr (I (Yf k8 O) (I (Yd 2 O O O lN) (I (Yn kH O) (ad O ?_)))))))));refine LW (λ_ h=>h.e4 3 1) (ae (Cb ?_));refine av (ι:=Nat×(Option Addr×Nat)) (λg=>[(12,.int .i64 (g.1:Int))]) [(2,_),(3,_),(10,_),(11,_)] (λg=>Ws w [] [cf 3 1 e5 g.2.1 g.2.2 ((u.parts.take g.1).map (·.params)),aq n (.cells #[.bool true,.int .i64 u.data,.slice g.2.1 ((u.parts.take g.1).map (·.params)).length g.2.2] 126 (0,0)),aq m (.cells #[.bool false,.int .i64 0,.slice none 0 0] 126 (0,0)),aq l (.cells (eE u r).toArray 40 (0,0))] [a]) (λg=>g.1<=u.parts.length) (λg=>u.parts.length-g.1) (0,(none,0)) (Nat.zero_le _) (sc O (sc O (sc O (sc O (sc O sn))))) (λ_ h=>h) ?_;intro g E;refine aa (I (b0 O O) (ae (Cs ?_)));refine Cc O (λc=>?_) (λc=>?_)
 ·have d:g.1<u.parts.length:=by simpa using c
  obtain ⟨x,f⟩:∃q,u.parts[g.1]? = some q:=⟨_,List.getElem?_eq_getElem d⟩;obtain ⟨F,G,o,p⟩:=b.parts.bJ g.1 x f;obtain ⟨s,t,H⟩:=p
  have v:(u.parts.take (g.1+1)).map (·.params)=(u.parts.take g.1).map (·.params)++[x.params]:=by rw [List.take_add_one,f]; simp
  have J:((u.parts.take g.1).map (·.params)).length=g.1:=by simp; omega
  refine bf (Cs (Cb (aa (I (Yo kH O O o d) (I (dj 0 x1 O O O (t)) ?_)))));refine Al Y O vh λK=>?_;refine aO 0 Y O O O B4 O O O (ae (e9 0 (.cells (sw x s).toArray 89 (0,0)) O O (Cr (I (Yf xX O) (I (Yd 2 O O O k9) (I (Yf dd O) (I (Yd 0 O O O aT) ?_)))))));refine Lb Y O hS O O O O λL=>?_;refine cD 0 (.cells (e5 x.params).toArray 3 (0,0)) O (O) ?_;refine LA (x.params) 2 0 Y O hS O O O O O O (by omega) (by omega) λy z=>?_;refine I (Yf xX O) (aO 3 Y O O O vm O O O (Ln (Eb (Et (Cr (I (Yi O O O (by omega)) (ad O (LW (λ_ h=>h.e4 3 1) (Ln ?_)))))))));rw [<-v];exact Ea ((g.1+1,(y,z)):Nat×(Option Addr×Nat)) (by show _-(g.1+1)<_; omega) (by show g.1+1<=_; omega) (sc O (sc O (sc O (sc O (sc O sn))))) (λ_ h=>Wd 3 h)
 have A:g.1=u.parts.length:=by simp at c; omega
 rw [A,List.take_length];refine Ce (Ex (Ex (cp (Et (aa (I (b8 1 O O xV O) (aO 2 Y O O O xW O O O (ae (aX ?_)))))))));refine WE.yG 2 O O O xV O λw' i=>?_;exact ⟨g.2,O,i.fr,i.jg 0 O D6 (λ_ _ _ _ h=>h)⟩
theorem Iy (l m:View) (ke k:Nat) (u:bK) (r:ih) (us:List cm) (ua:Option Addr) (F:Nat) (w:World) (al:Le l w) (am:Le m w) (o:hI ke k l r u) (an:Sl l0 3 m ua F us) (aN:us.length<=1048576) :
   Calls Tryz.prog 65 #[.agg (eE u r).toArray,.slice ua us.length F] w λe w'=>e = .returned (.bool (gq u us))/\Ext w w':=by
 have aP:=o.ak.cap;have aQ:=o.ak.max;have aR:=o.parts.cap;have aS:=o.parts.max;refine enter Tryz.func65 O 115 O O ?_;refine CE (Vs:=[l,m]) (Ws.init (by simp [al,am])) (aa ?_);refine WL.box Y O O λT=>?_;refine ai O (ae (aa ?_));refine WL.lh st Y O λao=>?_;refine I (Yf qG O) (I (Yd 1 O O O cN) ?_);refine WL.kQ 0 gj Y gg dO O O O O ?_;refine ad O (ai O (ae (Cs (aa (I (Yf qH O) (I (Yd 1 O O O eU) (I (Yn di O) (ad O (ae (Cb ?_))))))))));refine av (ι:=Nat) (λi=>[(18,.int .i64 (i:Int))]) [(1,_),(2,_),(5,_),(16,_),(17,_)] (λi=>Ws w [] [aq ao (b4 st (kW (u.nm::u.ak.take i) 0) (u.nm::u.ak.take i).length),aq T (.cells (eE u r).toArray 40 (0,0))] [l,m]) (λi=>i<=u.ak.length/\(u.nm::u.ak.take i).Nodup/\(u.ak.take i).all dU=true) (λi=>u.ak.length-i) 0 ⟨Nat.zero_le _,by simp,O⟩ (sc O (sc O (sc O (sc O (sc O (sc O sn)))))) (λ_ h=>h) ?_;intro i ⟨hi,G,H⟩;refine aa (I (b0 O O) (ae (Cs ?_)));refine Cc O (λJ=>?_) (λJ=>?_)
 ·have z:i<u.ak.length:=by simpa using J
  obtain ⟨s,B⟩:∃q,u.ak[i]? = some q:=⟨_,List.getElem?_eq_getElem z⟩;obtain ⟨ap,pos,ar,K⟩:=o.ak.bJ i s B;have K:bI l ap (pos+i*1) (dD s):=K;refine bf (Cs (Cb (aa (I (Yo di O O ar z) (I (b9 0 cN O O (K 0 _ O)) (ai O (ae (aa (ad O (ad O (I (mr 0 gj gg dO je O O O) ?_)))))))))));rw [Mk];refine I (bd O O (by split<;>omega)) ?_;refine WL.mu 0 gj Y gg dO O O O O ?_;refine ae (aa (ad O (ad O (I (mr 0 gj gg dO je O O O) ?_))));rw [rq];refine I (dc O O) ?_;rw [Sj];refine ad O ?_;apply Lo 3 (x:=!(dU s)) O O O O Y O O O O O
  ·intro aU;refine Vg (Ym O) (Lp (.g O O O) O nD O (λw d=>nC _ w) (Vg (az O) ?_));exact Gt 3 O O O
  refine ae ?_;refine Cc O (λL=>?_) (λL=>?_)
  ·have au:(u.nm::u.ak.take i).contains s=true\/dU s=false:=by
     have j:=L
     cases v:(u.nm::u.ak.take i).contains s with
     | true=>exact .inl rfl
     | false=>rw [v] at j; exact .inr (by simpa using j)
   refine aa (ai O (ae (aX (cj (Er (Er (cj (Er ?_))))))));refine R1 O O λw' d=>?_;exact ⟨by rw [gq,Mm B au]; rfl,d.fr⟩
  obtain ⟨v,aw⟩:(u.nm::u.ak.take i).contains s=false/\dU s=true:=by
    have j:=Bool.or_eq_false_iff.1 L;exact ⟨j.1,by simpa using j.2⟩
  have U:(u.nm::u.ak.take i)++[s]=u.nm::u.ak.take (i+1):=by rw [List.take_add_one,B]; simp
  rw [v,show ((if false=true then (1:Int) else 0)+1)=1 from rfl,(Eh v).1,(Eh v).2,U]
  have ax:(u.nm::u.ak.take (i+1)).Nodup:=by
    rw [<-U,List.nodup_append];refine ⟨G,by simp,λa ay b V e=>?_⟩;rw [List.mem_singleton] at V; subst V; subst e
    have j:(u.nm::u.ak.take i).contains a=true:=by simpa using ay
    rw [v] at j; cases j
  refine Ck (Eb (Et (Cr (I (Yi O O O (by omega)) (ad O (Ln ?_))))));exact Ea (i+1) (by omega) ⟨by omega,ax,sD B H aw⟩ (sc O (sc O (sc O (sc O (sc O (sc O sn)))))) (λ_ h=>h)
 have aA:i=u.ak.length:=by simp at J; omega
 rw [aA,List.take_length] at G H;refine Ce (Ex (Ex (cp (Et (Cs (aa (I (Yf qG O) (I (Yd 1 O O O cN) (Lp Y O nD O (λw d=>nC _ w) (I (az O) (ad O ?_)))))))))));apply Lo 4 O O O O Y O O O O O
 ·intro aV;refine Vg (Yf qH O) (Vg (Yd 1 O O O eU) (Vg (Yn di O) (Vg (dc O O) ?_)));exact Gt 4 O O O
 refine ad O ?_;apply Lo 3 O O O O Y O O O O O
 ·intro aW;refine Vg (Yf oP O) (Vg (Yd 1 O O O aT) (Vg (b0 O O) ?_));exact Gt 3 O O O
 refine ad O ?_;apply Lo 3 O O O O Y O O O O O
 ·intro aY;refine Vg (Yf oP O) (Vg (Yd 1 O O O aT) (Vg (dc O O) ?_));exact Gt 3 O O O
 refine ad O ?_;apply Lo 4 O O O O Y O O O O O
 ·intro aZ;refine Vg (Yf k8 O) (Vg (Yd 1 O O O lN) (Vg (Yn kH O) (Vg (dc O O) ?_)));exact Gt 4 O O O
 refine ae ?_;refine Cc O (λM=>?_) (λM=>?_)
 ·refine aa (ai O (ae (aX (Er ?_))));refine R1 O O λw' d=>?_;exact ⟨by rw [gq,show lr u=true from M]; simp,d.fr⟩
 have W:lr u=false:=M;obtain ⟨a0,a1,a2,a3⟩:=Iv W;refine bf (Cs ?_);obtain ⟨ys,X,Z⟩:=Sg an
 have ab:ys.length=us.length:=by rw [<-X,List.length_map]
 have aB:∀q,([((c7 u,q):XK)]++ys).length=(c7 u::us).length:=λq=>by simp [ab]
 refine Cr (I (b8 1 O O gh O) ?_);refine Ld Y O Iw O (λq:Option Addr×Nat=>.agg ((c7 u).cells q).toArray) (λaC q=>Sl o8 1 aC q.1 q.2 (c7 u).parts) (λw d=>Ix l ke k u r w (d.vs _ (by simp)) o (by omega)) ?_;intro ac C a4 aD;refine Lb Y O vn O O O O λa5=>?_;refine cD 0 (.cells (([(c7 u,C)]:List XK).flatMap XK.cells).toArray 126 (0,0)) O O (LW (λ_ h=>h.nY (f:=XK.cells) (xs:=[(c7 u,C)]) (c:=1) 0 O XK.aj O (by decide)) (ad O ?_));refine WL.tQ (f:=XK.cells) (rd:=Iu) (xs:=[((c7 u,C):XK)]) (ys:=ys) 0 (λ_=>m) Y O vn O (by show some (Value.slice ua us.length F)=_; rw [<-ab]) O (λw d=>⟨d.vs m (by simp),Z⟩) (λ_ _ _ _ h=>h.1) XK.aj XK.one (by simp; omega) (by simp; omega) λp t=>?_;refine I (Yb K9 K8 O O) ?_;refine WL.box Y O O λN=>?_;refine cD 0 (.cells #[.slice p (c7 u::us).length t,.int .i64 0] 235 (0,0)) O (congrArg (λn=>Obj.cells #[.slice p n t,.int .i64 0] 235 (0,0)) (aB C)) (ai O (ae (Cs (Cs ?_))));refine WC.lV (rd:=vl) 1 O XK.aj (λ_ _ _ _ h=>h) λaf aE=>?_
 have ag:∀w,Le af w->Le ac w->Le m w->Sl l0 3 (hv w) p t (c7 u::us):=λw aF aG aH=>by
   have j:=B3 aE (bB aF) λe y=>by
     rcases List.mem_append.1 y with y | y
     · rw [List.mem_singleton] at y; subst y; exact mT.mv (bB aG) aD
     · obtain ⟨q,aI⟩:=List.getElem?_of_mem y
       obtain ⟨_,_,_,_,h⟩:=Z.bJ q e aI;exact mT.mv (bB aH) h
   rw [List.map_append,X] at j;exact j
 refine Cr (I (Yf k8 O) (I (Yd 2 O O O lN) (I (Yn kH O) (ad O (ae (Cb ?_))))));refine av (ι:=Nat×Int) (λg=>[(72,.int .i64 (g.1:Int))]) [(2,_),(8,_),(70,_),(71,_)] (λg=>Ws w [] [aq N (.cells #[.slice p (c7 u::us).length t,.int .i64 g.2] 235 (0,0)),aq T (.cells (eE u r).toArray 40 (0,0))] [af,ac,l,m]) (λg=>g.1<=u.parts.length/\(u.parts.take g.1).all (jm (c7 u::us))=true) (λg=>u.parts.length-g.1) (0,0) ⟨Nat.zero_le _,O⟩ (sc O (sc O (sc O (sc O (sc O sn))))) (λ_ h=>(Wt 2 ((h.f 2 O).f 1 O):)) ?_;intro g ⟨a6,P⟩;refine aa (I (b0 O O) (ae (Cs ?_)));refine Cc O (λQ=>?_) (λQ=>?_)
 ·have z:g.1<u.parts.length:=by simpa using Q
  obtain ⟨x,D⟩:∃q,u.parts[g.1]? = some q:=⟨_,List.getElem?_eq_getElem z⟩;obtain ⟨a7,a8,aJ,aK⟩:=o.parts.bJ g.1 x D;obtain ⟨R,aL,aM⟩:=aK;refine bf (Cs (Cb (aa (I (Yo kH O O aJ z) (I (dj 2 x1 O O O (aL)) ?_)))));refine Al Y O vh λa9=>?_;refine aO 0 Y O O O B4 O O O (ae (Cs (Cs (e9 0 (.cells (sw x R).toArray 89 (0,0)) O O (Cr (I (Yf dd O) (I (Yd 0 O O O aT) (I (b0 O O) (ad O ?_)))))))));apply Lo 3 O O O O Y O O O O O
  ·intro a';refine Vg (Yf dd O) (Vg (Yd 0 O O O aT) (Vg (dc O O) ?_));exact Gt 3 O O O
  refine ad O ?_;apply Lo 3 O O O O Y O O O O O
  ·intro a_;refine Vg (Yf tn O) (Vg (Yd 0 O O O aT) (Vg (b0 O O) ?_));exact Gt 3 O O O
  refine ad O ?_;apply Lo 3 O O O O Y O O O O O
  ·intro ba;refine Vg (Yf tn O) (Vg (Yd 0 O O O aT) (Vg (dc O O) ?_));exact Gt 3 O O O
  refine ae ?_;refine Cc O (λE=>?_) (λE=>?_)
  ·have A:jm (c7 u::us) x=false:=K5 E;refine aa (ai O (ae (aX (Er (cj (Er (Er (cj (Er ?_)))))))));refine R1 O O λw' d=>?_;exact ⟨by rw [gq,sC D A]; simp,d.fr⟩
  have ah:=Si (kn:=(c7 u::us)) E
  have bb:0<=x.params/\x.params<=3/\0<=x.locals/\x.locals<=4:=by
    simp only [Bool.or_eq_false_iff,decide_eq_false_iff_not] at E; omega
  refine bf (aa (ad O (I (Yf dd O) (I (Yd 0 O O O aT) (I (Yf tn O) (I (Yd 0 O O O aT) (I (bd O O (by omega)) (I (cy O) ?_))))))));refine I (Yf B2 O) (aO 1 Y O O O dP O O O (ae (Cs (e9 1 (.cells #[.slice p (c7 u::us).length t,.int .i64 (x.params+x.locals)] 235 (0,0)) O O (Cr (ad O (I (Yf xR O) (I (Yd 0 O O O ir) ?_))))))));refine Lp Y O x0 O (λw d=>It (hv w) (hv w) N p t (c7 u::us) (x.params+x.locals) l ke k x.body R.1 R.2 1 w (iR w) (iR w) (ng (d.bC 1 O) O) (ng (d.bC 1 O) O) (ag w (d.vs _ (by simp)) (d.vs _ (by simp)) (d.vs _ (by simp))) (d.vs _ (by simp)) aM (by omega)) (I (az O) (ae ?_));refine Cc O (λS=>?_) (λS=>?_)
  ·have A:jm (c7 u::us) x=false:=by rw [ah]; simpa using S
   refine aa (ai O (ae (aX (cj (Er (Er (cj (Er ?_))))))));refine R1 O O λw' d=>?_;exact ⟨by rw [gq,sC D A]; simp,d.fr⟩
  have A:jm (c7 u::us) x=true:=by rw [ah]; simpa using S
  refine Ck (Eb (Et (Cr (I (Yi O O O (by omega)) (ad O (Ln ?_))))));exact Ea ((g.1+1,x.params+x.locals):Nat×Int) (by show _-(g.1+1)<_; omega) ⟨(by show g.1+1<=_; omega),sD D P A⟩ (sc O (sc O (sc O (sc O (sc O sn))))) (λ_ h=>Wd 1 h)
 have bc:¬g.1<u.parts.length:=by simpa using Q
 rw [List.take_of_length_le (by omega)] at P;refine Ce (Ex (Ex (cp (Et (aa (ad O (I (cy O) (I (Yf B2 O) (aO 0 Y O O O dP O O O (ae (Cs (e9 0 (.cells #[.slice p (c7 u::us).length t,.int .i64 0] 235 (0,0)) O O ?_))))))))))));refine Cr (ad O (I (Yf vi O) (I (Yd 1 O O O ir) (Lp Y O x0 O (λw d=>It (hv w) (hv w) N p t (c7 u::us) 0 l ke k u.main r.s3.1 r.s3.2 1 w (iR w) (iR w) (ng (d.bC 0 O) O) (ng (d.bC 0 O) O) (ag w (d.vs _ (by simp)) (d.vs _ (by simp)) (d.vs _ (by simp))) (d.vs _ (by simp)) o.main (by omega)) (ai O (ae (aX ?_)))))));refine R1 O O λw' d=>?_;exact ⟨by rw [gq,Ei G H,W,P]; rfl,d.fr⟩
theorem Sn {α:Type} {l:List α} {i:Nat} {x:α} {p:α->Prop} (b:l[i]? = some x) (h:∀y ∈ l.take i,p y) (c:p x):∀y ∈ l.take (i+1),p y:=by
 intro y a;rw [a' b] at a
 rcases List.mem_append.1 a with a | a
 · exact h y a
 · rw [List.mem_singleton] at a; subst a; exact c
def So (ke k:Nat) (a:View) (b o:Nat) (u:bK):Prop:=∃r:ih,bI a b o (eE u r)/\hI ke k a r u
theorem Sp {l:List bK} {i:Nat} {u:bK} (h:l[i]? = some u):(fg l)[i]? = some u.nm:=by unfold fg; rw [List.getElem?_map,h]; rfl
theorem x2 (l:List bK):(fg l).length=l.length:=by simp [fg]
theorem Sq {l:List bK} {n:Nat} {u:bK} {s:Tx} (a:l[n]? = some u) (c:s ∈ u.ak) (h:s ∉ (fg l).take n):n5 l=false:=by
 cases d:n5 l with
 | false=>rfl
 | true=>
   have b:=List.all_eq_true.1 d n (List.mem_range.2 (List.getElem?_eq_some_iff.1 a).1);rw [a] at b;have e:=List.all_eq_true.1 b s c;exact absurd (by simpa using e) h
theorem Sr {l:List bK} (h:∀(n:Nat) u,l[n]? = some u->∀s ∈ u.ak,s ∈ (fg l).take n):n5 l=true:=by
 refine List.all_eq_true.2 λn b=>?_;have a:=List.mem_range.1 b;rw [List.getElem?_eq_getElem a];refine List.all_eq_true.2 λs c=>?_
 simpa using h n _ (List.getElem?_eq_getElem a) s c
theorem Iz {l:List bK} {i:Nat} {u:bK} (a:Int) (h:l[i]? = some u):kq (l.drop i) a=(!(decide (u.data<0)||decide (a<u.data))&&kq (l.drop (i+1)) (a-u.data)):=by
 obtain ⟨b,c⟩:=List.getElem?_eq_some_iff.1 h;rw [List.drop_eq_getElem_cons b,c]; rfl
def vo (l:List bK) (s:Tx):cm:=match idxOf s (fg l) 0 with
 | some i=>(l[i]?.map c7).getD jL
 | none=>jL
theorem IA (l:List bK) (u:bK):fy l u=u.ak.map (vo l):=rfl
theorem Ss {l:List bK} (g:(fg l).Nodup) {n:Nat} {s:Tx} (d:s ∈ (fg l).take n):∃p h,idxOf s (fg l) 0=some p/\p<n/\l[p]? = some h:=by
 cases f:idxOf s (fg l) 0 with
 | none=>exact absurd (List.mem_of_mem_take d) (n4.1 f)
 | some p=>
   obtain ⟨j,a⟩:=List.getElem?_of_mem d;rw [List.getElem?_take] at a
   split at a
   · rename_i i
     have b:=(qc f).2;rw [Nat.sub_zero] at b;have c:=(List.getElem?_eq_some_iff.1 b).1;have e:p=j:=(List.getElem?_inj c g).1 (b.trans a.symm);rw [x2] at c;exact ⟨p,_,O,by omega,List.getElem?_eq_getElem c⟩
   · cases a
theorem St {l:List bK} {s:Tx} {p:Nat} {a:bK} (b:idxOf s (fg l) 0=some p) (c:l[p]? = some a):vo l s=c7 a:=by unfold vo; rw [b]; show (Option.map c7 l[p]?).getD jL=c7 a; rw [c]; rfl
theorem Su {u:bK} {kn:List cm} (h:gq u kn=true):lr u=false:=by
 unfold gq at h
 cases a:lr u with
 | false=>rfl
 | true=>rw [a] at h; simp at h
theorem IB {l:List bK} {M:List (c8 Tx)} {c:Nat} (h:b7 (fg l) l.length M c):(M.length<l.length->et (fg l)=true)/\(¬M.length<l.length->(fg l).Nodup/\M=fQ (fg l) 0):=by
 have e:=h.ep;rw [<-x2 l,List.take_length] at e
 rcases e with ⟨b,a,_⟩ | ⟨b,a⟩
 · refine ⟨λd=>?_,λ_=>⟨b,a⟩⟩
   rw [a,zx,x2] at d; omega
 · rw [x2] at a
   exact ⟨λ_=>by rw [hF] at b; simpa using b,λd=>absurd a d⟩
theorem jZ:eO Tryz.prog 28=some 5:=by kernel_rfl
theorem IC:Enters Tryz.prog 65:=enters_of Tryz.func65 (by kernel_rfl) rfl
theorem Sv (r:View) (ke k:Nat) (a:Option Addr) (c:Nat) (l:List bK) (w:World) (aN:Le r w) (C:Sl (So ke k) 5 r a c l) (aP:∀u ∈ l,u.ak.length<=1048576) :
   Calls Tryz.prog 21 #[.slice a l.length c] w λe w'=>e = .returned (.int .i64 (mz l))/\Ext w w':=by
 have bz:=C.cap;have bA:=C.max;refine enter Tryz.func21 O 110 O O ?_;refine CE (Vs:=[r]) (Ws.init (by simp [aN])) (aa (ai O (ae (Cs (aa (ad O (I (Yn jZ O) (I (b0 O O) (ad O ?_)))))))));apply Lo 3 O O O O Y O O O O O
 ·intro bC;refine Vg (Ym O) (Vg (Yn jZ O) (Vg (dc O O) ?_));exact Gt 3 O O O
 refine ae ?_;refine Cc O (λL=>?_) (λL=>?_)
 ·refine aa (ai O (ae (aX (Er ?_))));refine R1 O O λw' d=>?_;exact ⟨by rw [mz,if_pos L],d.fr⟩
 have D:¬(decide ((l.length:Int)<1)||decide (4<(l.length:Int)))=true:=by rw [L]; decide
 have bD:l.length<=4:=by simp at L; omega
 refine bf (aa ?_);refine WL.lh st Y O λV=>?_;refine ai O (ae (Cs (aa (ad O (I (Yn jZ O) (ad O (ae (Cb ?_))))))));refine av (ι:=Nat×List (c8 Tx)×Nat) (λb=>[(27,.int .i64 (b.1:Int))]) [(0,_),(3,_),(25,_),(26,_)] (λb=>Ws w [] [aq V (b4 st b.2.1 b.2.2)] [r]) (λb=>b.1<=l.length/\b7 (fg l) b.1 b.2.1 b.2.2/\∀(n:Nat) v,n<b.1->l[n]? = some v->∀s ∈ v.ak,s ∈ (fg l).take n) (λb=>l.length-b.1) (0,[],0) ⟨Nat.zero_le _,Ml _,λn v h=>absurd h (Nat.not_lt_zero _)⟩ (sc O (sc O (sc O (sc O (sc O sn))))) (λ_ h=>h) ?_;intro b ⟨bE,z,M⟩;refine aa (I (b0 O O) (ae (Cs ?_)));refine Cc O (λW=>?_) (λW=>?_)
 ·have m:b.1<l.length:=by simpa using W
  obtain ⟨u,o⟩:∃q,l[b.1]? = some q:=⟨_,List.getElem?_eq_getElem m⟩;obtain ⟨aG,aH,E,F⟩:=C.bJ b.1 u o;obtain ⟨A,G,x⟩:=F;have aQ:=x.ak.cap;have aR:=x.ak.max;have aI:=Sp o;refine bf (Cs (Cb (aa (ad O (I (Yo jZ O O E m) (I (dj 0 gh O O O (G)) ?_))))));refine Al Y O kF λbF=>?_;refine ai O (aO 0 Y O O O kG O O O (ae (Cs (Cs (e9 0 (.cells (eE u A).toArray 40 (0,0)) O O (Cr (I (Yf qH O) (I (Yd 0 O O O eU) (I (Yn di O) ?_)))))))));refine ad O (ae (Cb ?_));refine CW (ι:=Nat) (λj=>[(35,.int .i64 (j:Int))]) [(0,_),(3,_),(4,_),(5,_),(25,_),(26,_),(27,_),(33,_),(34,_)] (λj=>j<=u.ak.length/\∀s ∈ u.ak.take j,s ∈ (fg l).take b.1) (λj=>u.ak.length-j) 0 ⟨Nat.zero_le _,by simp⟩ (sc O (sc O (sc O (sc O (sc O (sc O (sc O (sc O (sc O (sc O sn)))))))))) ?_;intro j ⟨bG,N⟩;refine aa (I (b0 O O) (ae (Cs ?_)));refine Cc O (λX=>?_) (λX=>?_)
  ·have m:j<u.ak.length:=by simpa using X
   obtain ⟨s,Z⟩:∃q,u.ak[j]? = some q:=⟨_,List.getElem?_eq_getElem m⟩;obtain ⟨aS,pos,aU,ab⟩:=x.ak.bJ j s Z;have ab:bI r aS (pos+j*1) (dD s):=ab;obtain ⟨v,hv,H⟩:=z.mem s;refine bf (Cs (Cb (aa (I (Yo di O O aU m) (I (b9 0 cN O O (ab 0 _ O)) (ai O (ae (aa (ad O (ad O (I (mr 1 gj gg dO je O O O) ?_)))))))))));rw [hv];refine I (bP O O) (ae ?_);refine Cc O (λac=>?_) (λac=>?_)
   ·have af:s ∉ (fg l).take b.1:=H.1 (by simpa using ac);refine aa (ai O (ae (aX (cj (Er (Er (cj (Er (cj (Er (Er (cj (Er ?_)))))))))))));refine R1 O O λw' d=>?_;exact ⟨by rw [mz,if_neg D,if_pos (Sq o (List.mem_of_getElem? Z) af)],d.fr⟩
   have ag:s ∈ (fg l).take b.1:=by
     have al:¬v=0:=by simpa using ac
     exact Classical.byContradiction λh=>al (H.2 h)
   refine Ck (Eb (Et (Cr (I (Yi O O O (by omega)) (ad O (Ln ?_))))));exact Ea (j+1) (by omega) ⟨by omega,Sn Z N ag⟩ (sc O (sc O (sc O (sc O (sc O (sc O (sc O (sc O (sc O (sc O sn)))))))))) (λ_ h=>h)
  have aV:j=u.ak.length:=by simp at X; omega
  rw [aV,List.take_length] at N;obtain ⟨v,hv,H⟩:=z.mem u.nm;refine Ce (Ex (Ex (cp (Et (aa (ad O (I (Yf qG O) (I (Yd 0 O O O cN) (I (mr 1 gj gg dO je O O O) ?_)))))))));rw [hv];refine I (bP O O) (ae ?_);refine Cc O (λam=>?_) (λam=>?_)
  ·have af:u.nm ∉ (fg l).take b.1:=H.1 (by simpa using am);have an:=z.new aI af;refine Cr (ad O (I (Yf qG O) (I (Yd 0 O O O cN) (ad O (I (Yi O O O (by omega)) ?_)))));refine WL.mu 1 gj Y gg dO O O O O ?_;refine Ln (Eb (Et (Cr (I (Yi O O O (by omega)) (ad O (Ln ?_))))))
   exact Ea ((b.1+1,dZ u.nm (.int .i64 ((b.1+1:Nat):Int)) b.2.1 b.2.2,gA u.nm b.2.1 b.2.2):Nat×List (c8 Tx)×Nat) (by show _-(b.1+1)<_; omega) ⟨(by show b.1+1<=_; omega),an,λn v ao hv s B=>by
       rcases Nat.lt_succ_iff_lt_or_eq.1 ao with h | h
       · exact M n v h hv s B
       · subst h; rw [o] at hv; injection hv with hv; subst hv; exact N s B⟩ (sc rfl (sc rfl (sc rfl (sc rfl (sc rfl sn))))) (λ_ h=>Wd 1 h)
  have ag:u.nm ∈ (fg l).take b.1:=by
    have al:¬v=0:=by simpa using am
    exact Classical.byContradiction λh=>al (H.2 h)
  have an:=z.old aI ag;refine Ck (Eb (Et (Cr (I (Yi O O O (by omega)) (ad O (Ln ?_))))))
  exact Ea ((b.1+1,b.2):Nat×List (c8 Tx)×Nat) (by show _-(b.1+1)<_; omega) ⟨(by show b.1+1<=_; omega),an,λn v ao hv s B=>by
      rcases Nat.lt_succ_iff_lt_or_eq.1 ao with h | h
      · exact M n v h hv s B
      · subst h; rw [o] at hv; injection hv with hv; subst hv; exact N s B⟩ (sc rfl (sc rfl (sc rfl (sc rfl (sc rfl sn))))) (λ_ h=>Wd 1 h)
 have aW:b.1=l.length:=by simp at W; omega
 rw [aW] at z;have P:n5 l=true:=Sr λn v hv s B=>M n v (by have:=(List.getElem?_eq_some_iff.1 hv).1; omega) hv s B;refine Ce (Ex (Ex (cp (Et (Cs (aa (ad O (I (v_ 0 gg O O) (ad O (I (Yn jZ O) (I (b0 O O) (ae ?_))))))))))));refine Cc O (λap=>?_) (λap=>?_)
 ·have K:=(IB z).1 (by simp at ap; omega);refine aa (ai O (ae (aX (Er ?_))));refine R1 O O λw' d=>?_;exact ⟨by rw [mz,if_neg D,if_neg (by rw [P]; decide),if_pos K],d.fr⟩
 obtain ⟨aJ,aY⟩:=(IB z).2 (by simp at ap; omega);have K:=hF.1 aJ;refine bf (aa (ai O (ae (Cs (aa (ad O (I (Yn jZ O) (ad O (ae (Cb ?_))))))))));refine CW (ι:=Nat×Int) (λg=>[(62,.int .i64 (g.1:Int)),(8,.int .i64 g.2)]) [(0,_),(3,_),(60,_),(61,_)] (λg=>g.1<=l.length/\(0<=g.2/\g.2<=512)/\kq (l.drop g.1) g.2=kq l 512) (λg=>l.length-g.1) (0,512) ⟨Nat.zero_le _,by omega,O⟩ (sc O (sc O (sc O (sc O (sc O (sc O sn)))))) ?_;intro g ⟨bH,bL,ar⟩;refine aa (I (b0 O O) (ae (Cs ?_)));refine Cc O (λau=>?_) (λau=>?_)
 ·have m:g.1<l.length:=by simpa using au
  obtain ⟨u,o⟩:∃q,l[g.1]? = some q:=⟨_,List.getElem?_eq_getElem m⟩;obtain ⟨aG,aH,E,F⟩:=C.bJ g.1 u o;obtain ⟨A,G,x⟩:=F;refine bf (Cs (Cb (aa (I (Yo jZ O O E m) (I (dj 0 gh O O O (G)) ?_)))));refine Al Y O kF λbM=>?_;refine aO 0 Y O O O kG O O O (ae (Cs (Cs (e9 0 (.cells (eE u A).toArray 40 (0,0)) O O (Cr (I (Yf oP O) (I (Yd 0 O O O aT) (I (b0 O O) (ad O ?_)))))))));apply Lo 4 O O O O Y O O O O O
  ·intro bN;refine Vg (Yf oP O) (Vg (Yd 0 O O O aT) (Vg (Ym O) (Vg (dc O O) ?_)));exact Gt 4 O O O
  refine ae ?_;refine Cc O (λQ=>?_) (λQ=>?_)
  ·have S:kq l 512=false:=by rw [<-ar,Iz _ o,show (decide (u.data<0)||decide (g.2<u.data))=true from Q]; rfl
   refine aa (ai O (ae (aX (Er (cj (Er (Er (cj (Er ?_)))))))));refine R1 O O λw' d=>?_;exact ⟨by rw [mz,if_neg D,if_neg (by rw [P]; decide),if_neg (by rw [K]; decide),if_pos S],d.fr⟩
  have aZ:kq (l.drop (g.1+1)) (g.2-u.data)=kq l 512:=by rw [<-ar,Iz _ o,show (decide (u.data<0)||decide (g.2<u.data))=false from Q]; rfl
  have bO:0<=u.data/\u.data<=g.2:=by
    simp only [Bool.or_eq_false_iff,decide_eq_false_iff_not] at Q; omega
  refine bf (Cr (ad O (I (Yf oP O) (I (Yd 0 O O O aT) (I (yA O O (by omega)) (ai O (Ln (Eb (Et (Cr (I (Yi O O O (by omega)) ?_)))))))))));refine ad O (Ln ?_);exact Ea ((g.1+1,g.2-u.data):Nat×Int) (by show _-(g.1+1)<_; omega) ⟨(by show g.1+1<=_; omega),(by show 0<=g.2-u.data/\g.2-u.data<=512; omega),aZ⟩ (sc O (sc O (sc O (sc O (sc O (sc O sn)))))) (λ_ h=>Wd 1 h)
 have a0:g.1=l.length:=by simp at au; omega
 have S:kq l 512=true:=by rw [<-ar,a0,List.drop_length]; rfl
 refine Ce (Ex (Ex (cp (Et (Cs (aa (ad O (I (Yn jZ O) (ad O (ae (Cb ?_)))))))))));refine av (ι:=Nat) (λi=>[(82,.int .i64 (i:Int))]) [(0,_),(3,_),(80,_),(81,_)] (λi=>Ws w [] [aq V (b4 st b.2.1 b.2.2)] [r]) (λi=>i<=l.length/\(l.take i).all (λu=>gq u (fy l u))=true) (λi=>l.length-i) 0 ⟨Nat.zero_le _,O⟩ (sc O (sc O (sc O (sc O (sc O sn))))) (λ_ h=>h) ?_;intro i ⟨bQ,T⟩;refine aa (I (b0 O O) (ae (Cs ?_)));refine Cc O (λaw=>?_) (λaw=>?_)
 ·have m:i<l.length:=by simpa using aw
  obtain ⟨u,o⟩:∃q,l[i]? = some q:=⟨_,List.getElem?_eq_getElem m⟩;obtain ⟨aG,aH,E,F⟩:=C.bJ i u o;obtain ⟨A,G,x⟩:=F;have aQ:=x.ak.cap;have aR:=x.ak.max;have a1:=aP u (List.mem_of_getElem? o);have bR:i<l.length:=m;refine bf (Cs (Cb (aa (I (Yo jZ O O E m) (I (dj 0 gh O O O (G)) ?_)))));refine Al Y O kF λa2=>?_;refine aO 0 Y O O O kG O O O (ae (Cs (e9 0 (.cells (eE u A).toArray 40 (0,0)) O O (Cr (ai O (LW (λ_ h=>h.e4 126 3) ?_))))));refine WL.v0 ?_;refine ae (Cs (aa (I (Yf qH O) (I (Yd 1 O O O eU) (I (Yn di O) (ad O (ae (Cb ?_))))))));refine av (ι:=GX XK) (λg=>[(89,.int .i64 (g.i:Int)),(13,.slice g.a g.es.length g.c)]) [(0,_),(3,_),(12,_),(80,_),(81,_),(82,_),(87,_),(88,_)] (λg=>Ws w [] [cf 126 3 XK.cells g.a g.c g.es,aq a2 (.cells (eE u A).toArray 40 (0,0)),aq V (b4 st b.2.1 b.2.2)] [g.J,r]) (λg=>g.i<=u.ak.length/\g.es.map (·.1)=(u.ak.take g.i).map (vo l)/\(eW w g.J/\Xs (mT) g.J g.es)) (λg=>u.ak.length-g.i) ⟨0,[],none,0,v0⟩ ⟨Nat.zero_le _,O,⟨lW w,Xs.nil _⟩⟩ (sc O (sc O (sc O (sc O (sc O (sc O (sc O (sc O (sc O (sc O sn)))))))))) (λ_ h=>by have h:=Ws.cv h (ah:=[v0,r]) (by simp); exact h) ?_;intro g ⟨hi,ax,⟨a3,aK⟩⟩;refine aa (I (b0 O O) (ae (Cs ?_)));refine Cc O (λay=>?_) (λay=>?_)
  ·have m:g.i<u.ak.length:=by simpa using ay
   obtain ⟨y,aA⟩:∃q,u.ak[g.i]? = some q:=⟨_,List.getElem?_eq_getElem m⟩;obtain ⟨a4,a5,a6,aB⟩:=x.ak.bJ g.i y aA;have aB:bI r a4 (a5+g.i*1) (dD y):=aB;have bS:=vd ax hi;obtain ⟨p,t,aL,a7,U⟩:=Ss aJ (M i u (by omega) o y (List.mem_of_getElem? aA));obtain ⟨bT,bU,a8,a9,a',a_⟩:=C.bJ p t U;have ba:=(List.getElem?_eq_some_iff.1 U).1;have bb:gq t (fy l t)=true:=List.all_eq_true.1 T t (List.mem_of_getElem? (by rw [List.getElem?_take,if_pos a7]; exact U));have bc:(vo l y)=c7 t:=St aL U;refine bf (Cs (Cb (aa (I (Yo di O O a6 m) (I (b9 1 cN O O (aB 0 _ O)) (ai O (ae (Cr (ad O (ad O (ad O ?_)))))))))));refine ad O (I (mr 2 gj gg dO je O O O) ?_);rw [aY,D2,aL]
   show WL _ _ _ _ _ ((_,.int .i64 ((p+1:Nat):Int))::_) _ _
   refine I (yA O O (by omega)) ?_;rw [show ((p+1:Nat):Int)-1=(p:Int) by omega];refine I (Yo jZ O O a8 ba) (I (dj 1 gh O O O (a')) ?_);refine Ld Y O Iw O (λq:Option Addr×Nat=>.agg ((c7 t).cells q).toArray) (λbd q=>mT bd (c7 t,q)) (λw d=>Ix r ke k t a9 w (d.vs _ (by simp)) a_ (by have:=(Iv (Su bb)).1; omega)) ?_;intro bV aC be bg;refine WL.hE λbh bi bj bk=>?_;refine Lb Y O vn O O O O λbW=>?_;refine cD 0 (.cells (XK.cells (c7 t,aC)).toArray 126 (0,0)) O (O) ?_;refine LA (((c7 t,aC):XK)) 1 0 Y O vn O O O O O O (by omega) (by omega) λbl bm=>?_;refine ai O (Ln (Eb (Et (Cr (I (Yi O O O (by omega)) (ad O (Ln ?_)))))));exact Ea (⟨g.i+1,g.es++[(c7 t,aC)],bl,bm,bh⟩:GX XK) (by show _-(g.i+1)<_; omega) ⟨(by show g.i+1<=_; omega),hq ax aA bc.symm,⟨bk _ be a3,Xs.snoc (R:=mT) (λhv h=>mT.mv hv h) aK bj bi bg⟩⟩ (sc O (sc O (sc O (sc O (sc O (sc O (sc O (sc O (sc O (sc O sn)))))))))) (λ_ h=>Wd 1 h)
  have bn:g.i=u.ak.length:=by simp at ay; omega
  refine Ce (Ex (Ex (cp (Et (Cs ?_)))));refine WC.ll (rd:=vl) 0 O (λ_ bo=>by cases bo) XK.aj (λ_ _ _ _ h=>h) λbp bX bq=>?_;have aD:=ve ax bn;rw [<-IA] at aD
  have br:(fy l u).length=g.es.length:=by rw [<-aD,List.length_map]
  have bs:(fy l u).length<=1048576:=by rw [IA,List.length_map]; exact a1
  have bt:∀w,Le bp w->Le g.J w->Sl l0 3 (hv w) g.a g.c (fy l u):=λw bu bv=>by
    rw [<-aD];exact B3 bq (bB bu) λe bw=>mT.mv (bB bv) (aK e bw)
  refine Cr (I (b8 0 O O gh O) (ad O ?_))
  refine Lp Y O IC O (λw d=>by
    have aM:=Iy r (hv w) ke k u A (fy l u) g.a g.c w (d.vs r (by simp)) (iR w) x (bt w (d.vs _ (by simp)) (d.vs _ (by simp))) bs;rw [br] at aM
    exact aM) ?_
  refine I (az O) (ae ?_);refine Cc O (λaE=>?_) (λaE=>?_)
  ·have aF:gq u (fy l u)=false:=by simpa using aE
   refine aa (ai O (ae (aX (cj (Er (Er (cj (Er ?_))))))));refine R1 O O λw' d=>?_;exact ⟨by rw [mz,if_neg D,if_neg (by rw [P]; decide),if_neg (by rw [K]; decide),if_neg (by rw [S]; decide),if_neg (by rw [sC (f:=λu=>gq u (fy l u)) o aF]; decide)],d.fr⟩
  have aF:gq u (fy l u)=true:=by simpa using aE
  refine Ck (Eb (Et (Cr (I (Yi O O O (by omega)) (ad O (Ln ?_))))));exact Ea (i+1) (by omega) ⟨by omega,sD (f:=λu=>gq u (fy l u)) o T aF⟩ (sc O (sc O (sc O (sc O (sc O sn))))) (λ_ h=>Ws.cv (Wd 1 h) (λ_ bx=>List.mem_append_right [_,_] bx))
 have bY:¬i<l.length:=by simpa using aw
 rw [List.take_of_length_le (by omega)] at T;refine Ce (Ex (Ex (cp (Et (aa (ai O (ae (aX ?_))))))));refine R1 O O λw' d=>?_;exact ⟨by rw [mz,if_neg D,if_neg (by rw [P]; decide),if_neg (by rw [K]; decide),if_neg (by rw [S]; decide),if_pos T],d.fr⟩
theorem bq:an Tryz.prog 157 0=some 0:=by kernel_rfl
theorem kJ:an Tryz.prog 56 3=some 3:=by kernel_rfl
theorem h_:eG Tryz.prog 31=true:=by kernel_rfl
theorem hx:aE Tryz.prog 31 108 (.agg #[.int .i64 0,.int .i64 0,.int .i64 0]) 3 24:=hV (by kernel_rfl)
theorem x3:dk Tryz.prog 31=some 1:=by kernel_rfl
theorem iN:eO Tryz.prog 31=some 3:=by kernel_rfl
theorem rY:an Tryz.prog 56 4=some 4:=by kernel_rfl
theorem tp:eG Tryz.prog 53=true:=by kernel_rfl
theorem Sw:aK Tryz.prog 112=some [(0,1),(1,1),(2,1)]:=by kernel_rfl
theorem vp:zeroOf Tryz.prog 112=some (.agg #[.int .i64 0,.int .i64 0,.int .i64 0]):=by kernel_rfl
theorem ID:aE Tryz.prog 53 112 (.agg #[.int .i64 0,.int .i64 0,.int .i64 0]) 3 24:=hV (by kernel_rfl)
theorem Sx:dk Tryz.prog 53=some 1:=by kernel_rfl
theorem vq:f' Tryz.prog 108=some 3:=by kernel_rfl
theorem jF:Enters Tryz.prog 140:=enters_of Tryz.func140 (by kernel_rfl) rfl
theorem B5:eG Tryz.prog 155=true:=by kernel_rfl
theorem gT:aK Tryz.prog 108=some [(0,1),(1,1),(2,1)]:=by kernel_rfl
theorem fY:zeroOf Tryz.prog 108=some (.agg #[.int .i64 0,.int .i64 0,.int .i64 0]):=by kernel_rfl
theorem tq:Enters Tryz.prog 224:=enters_of Tryz.func224 (by kernel_rfl) rfl
theorem vr:an Tryz.prog 108 1=some 1:=by kernel_rfl
theorem jG (b:Nat) (i:gP) (t:b5) (d:View) (a:Option Addr) (c:Nat) (l:List bG) (w:World) (j:Sl gv 3 d a c l) (n:t.g.code.length+l.length<=1000000000010) (f:Ws w (List.flatMap aS.ids (ab 157 108 112 b i t)) (ab 157 108 112 b i t) [d] w) :
   Calls Tryz.prog 140 #[.pointer (some ⟨b,0,none⟩),.slice a l.length c] w λe w'=>∃q:SP,e = .returned (.tuple #[])/\Ws w (List.flatMap aS.ids (ab 157 108 112 b i t)) (ab 157 108 112 b i ⟨bt l t.g,q,t.fa⟩) [d] w':=by
 have o:=j.cap;have p:=j.max;refine enter Tryz.func140 O 15 O O ?_;refine CE f (Cr (ad O (ad O (I (cy O) (I (Yf bq O) (I (Yf kJ O) (I (Yd 0 O O O h_) ?_)))))));refine ad O ?_;refine WL.tQ (xs:=t.g.code) (ys:=l) 1 (λ_=>d) Y O hx O O O (λw f=>⟨f.vs d (by simp),j⟩) (λ_ _ _ _ h=>h) bG.aj bG.one (by omega) (by omega) λk m=>?_;refine I (cy O) (I (Yf bq O) (I (Yf kJ O) (aO 0 Y O O O x3 O O O (Ln ?_))));refine E0 O λw' f=>?_;exact ⟨(k,m),O,f⟩
theorem tr (a:Nat) (b:gP) (t:b5)  (i:bG) (kind m:Int) (w:World)  (v:t.g.code.length+1<=1000000000000) (x:t.g.fix.length+1<=1000000000000) (j:Ws w (List.flatMap aS.ids (ab 157 108 112 a b t)) (ab 157 108 112 a b t) [] w) :
   Calls Tryz.prog 224 #[.pointer (some ⟨a,0,none⟩),.agg i.cells.toArray,.int .i64 kind,.int .i64 m] w λe w'=>∃q:SP×SP,e = .returned (.int .i64 (t.g.code.length:Int))/\Ws w (List.flatMap aS.ids (ab 157 108 112 a b t)) (ab 157 108 112 a b ⟨aQ i kind m t.g,q.1,q.2⟩) [] w':=by
 refine enter Tryz.func224 O 36 O O ?_;refine CE j (aa ?_);refine WL.box Y O O λn=>?_;refine ai O (ae (aa (ad O (I (cy O) (I (Yf bq O) (I (Yf kJ O) (I (Yd 1 O O O h_) (I (Yn iN O) ?_))))))));refine ai O (ae (aa (ad O (ad O (I (cy O) (I (Yf bq O) (I (Yf rY O) (I (Yd 1 O O O tp) ?_))))))));refine ad O (ad O (ad O (I (Yb vp Sw O O) ?_)));refine Lb Y O ID O O O O λy=>?_;refine cD 0 (.cells (eI.cells ⟨(t.g.code.length:Int),kind,m⟩).toArray 112 (0,0)) O (O) ?_;refine LA ((⟨(t.g.code.length:Int),kind,m⟩:eI)) 4 0 Y O ID O O O O O O (by omega) (by omega) λc d=>?_;refine I (cy O) (I (Yf bq O) (I (Yf rY O) (aO 2 Y O O O Sx O O O (ae (Cs (e9 2 (n' 157 b (⟨⟨t.g.code,t.g.fix++[(⟨(t.g.code.length:Int),kind,m⟩:eI)]⟩,t.ca,(c,d)⟩:b5)) O O ?_))))));refine pW (W':=Ws w (List.flatMap aS.ids (ab 157 108 112 a b t)) ((ab 157 108 112 a b (⟨⟨t.g.code,t.g.fix++[(⟨(t.g.code.length:Int),kind,m⟩:eI)]⟩,t.ca,(c,d)⟩:b5))++[aq n (.cells i.cells.toArray 108 (0,0))]) []) (λ_ h=>by exact (Wt 4 ((((h.f 1 O).f 4 O).f 4 O).f 4 O):)) ?_;refine Cr (ad O (I (b8 3 O O vq O) ?_));refine Lb Y O hx O O O O λo=>?_;refine WL.iV (rd:=gv) (f:=bG.cells) (k:=3) (m:=1) 0 [i] O O bG.aj (λ_ _ _ _ h=>h) (by simp) (by decide) λl p=>?_;refine Lw (ι:=SP) [_,_,_] _ Y O jF O O (λ_=>.tuple #[]) (λq=>(ab 157 108 112 a b ⟨bt [i] (⟨⟨t.g.code,t.g.fix++[(⟨(t.g.code.length:Int),kind,m⟩:eI)]⟩,t.ca,(c,d)⟩:b5).g,q,(⟨⟨t.g.code,t.g.fix++[(⟨(t.g.code.length:Int),kind,m⟩:eI)]⟩,t.ca,(c,d)⟩:b5).fa⟩)) (λ_=>True) [l] (by simp) (λw j=>(jG a b (⟨⟨t.g.code,t.g.fix++[(⟨(t.g.code.length:Int),kind,m⟩:eI)]⟩,t.ca,(c,d)⟩:b5) l (some ⟨o,0,none⟩) 1 [i] w p (by simp; omega) j).mono λe w' ⟨q,r,s⟩=>⟨q,r,trivial,s⟩) ?_;intro u _;refine ae (aa (ad O (ai O (ae (aX ?_)))));refine R1 O O λw' j=>?_;exact ⟨(u,(c,d)),O,Wv 1 (Wt 3 j)⟩
theorem rZ (a:Nat) (b:gP) (t:b5) (op:Int) (w:World) (d:t.g.code.length+1<=1000000000000) (f:t.g.fix.length+1<=1000000000000) (c:Ws w (List.flatMap aS.ids (ab 157 108 112 a b t)) (ab 157 108 112 a b t) [] w) :
   Calls Tryz.prog 227 #[.pointer (some ⟨a,0,none⟩),.int .i64 op] w λe w'=>∃q:(SP×SP)×Nat×Nat,e = .returned (.func (.func 254) #[] #[.pointer (some ⟨q.2.1,0,none⟩),.pointer (some ⟨q.2.2,0,none⟩)])/\Ws w (List.flatMap aS.ids (ab 157 108 112 a b t)) ((ab 157 108 112 a b ⟨aQ ⟨op,0,0⟩ 1 0 t.g,q.1.1,q.1.2⟩)++[aq q.2.1 (.cells #[.pointer (some ⟨a,0,none⟩)] 155 (0,0)),aq q.2.2 (.cells #[.int .i64 (t.g.code.length:Int)] 3 (0,0))]) [] w':=by
 refine enter Tryz.func227 O 11 O O ?_;refine CE c (aa ?_);refine WL.box Y O O λi=>?_;refine ai O (ae (aa (I (Yd 0 O O O B5) (ad O (I (Yb fY gT O O) (Lf 3 O (Lf 3 O (Lf 3 O ?_))))))));refine Lw (ι:=SP×SP) [_,_,_] _ Y O tq O O (λ_=>.int .i64 (t.g.code.length:Int)) (λq=>(ab 157 108 112 a b ⟨aQ ⟨op,0,0⟩ 1 0 t.g,q.1,q.2⟩)) (λ_=>True) [] (by simp) (λw c=>(tr a b t  ⟨op,0,0⟩ 1 0 w  d f c).mono λe w' ⟨q,j,k⟩=>⟨q,j,trivial,k⟩) ?_;intro l _;refine Al Y O je λm=>?_;refine aO 0 Y O O O dP O O O (ae (aa (I (cn O) (ai O (ae (aX ?_))))));refine R1 O O λw' c=>?_;exact ⟨(l,i,m),O,(by have h:=c; have h:=h.bR 4 O; have h:=h.bR 4 O; have h:=h.bR 4 O; have h:=h.bR 4 O; exact h)⟩
theorem qJ (a:Nat) (c:gP) (t:b5) (p f n:Nat) (x:bG) (w:World) (i:t.g.code[n]? = some x) (j:Ws w (List.flatMap aS.ids ((ab 157 108 112 a c t)++[aq p (.cells #[.pointer (some ⟨a,0,none⟩)] 155 (0,0)),aq f (.cells #[.int .i64 (n:Int)] 3 (0,0))])) ((ab 157 108 112 a c t)++[aq p (.cells #[.pointer (some ⟨a,0,none⟩)] 155 (0,0)),aq f (.cells #[.int .i64 (n:Int)] 3 (0,0))]) [] w) :
   Calls Tryz.prog 254 #[.pointer (some ⟨p,0,none⟩),.pointer (some ⟨f,0,none⟩)] w λe w'=>e = .returned (.tuple #[])/\Ws w (List.flatMap aS.ids ((ab 157 108 112 a c t)++[aq p (.cells #[.pointer (some ⟨a,0,none⟩)] 155 (0,0)),aq f (.cells #[.int .i64 (n:Int)] 3 (0,0))])) ((ab 157 108 112 a c ⟨cS n t.g,t.ca,t.fa⟩)++[aq p (.cells #[.pointer (some ⟨a,0,none⟩)] 155 (0,0)),aq f (.cells #[.int .i64 (n:Int)] 3 (0,0))]) [] w':=by
 have l:=(List.getElem?_eq_some_iff.1 i).1;refine enter Tryz.func254 O 16 O O ?_;refine CE j ?_;refine WC.ek 1 O (by omega) λm k o q=>?_;refine WC.kg 1 [(0,true),(1,true),(2,true),(3,true),(4,true),(5,true),(6,true),(7,true),(8,true),(9,true),(10,true),(11,true),(12,true),(13,true),(14,false)] mixed (by kernel_rfl) (λ_ _ _ d _ h=>by cases d<;>exact h) ?_;refine D0 O (Wp 1) (Yd 2 O O O B5) (D0 O (Wp 1) (cy O) (D0 O (Wp 1) (Yf bq O) (D0 O (Wp 1) (Yf kJ O) (D0 O (Wp 1) (Yd 0 O O O h_) (D0 O (Wp 1) (Yd 3 O O O aT) (D0 O (Wp 1) (Yd 2 O O O B5) (D0 O (Wp 1) (cy O) ?_)))))));refine D0 O (Wp 1) (Yf bq O) (D0 O (Wp 1) (Yf kJ O) (D0 O (Wp 1) (Yd 0 O O O h_) (D0 O (Wp 1) (Yn iN O) (D0 O (Wp 1) (Yo iN O O k l) (D0 O (Wp 1) (Yf vr O) ?_)))));refine De O (Wp 1) ?_;refine WL.storeT (y:=x) 1 n 1 (⟨x.op,(t.g.code.length:Int),x.b⟩:bG) Y O O O k O bG.aj i dP O O (by decide) O ?_;refine Ln (Ed ?_);refine WD.nil (Wp 1) ?_;refine E0 O λw' j=>?_;rw [Mx i];exact ⟨O,j.tR 0 O (show aq a (n' 157 c t)=aq a (n' 157 c ⟨{ t.g with code:=t.g.code.set n ⟨x.op,(t.g.code.length:Int),x.b⟩ },t.ca,t.fa⟩) by simp [n'])⟩
def hz (f:View) (b:Nat) (d:gP) (k:Nat):Prop:=∀(x:db) (a:Option Addr) (c:Nat) (t:b5) (w:World),Sl (ig k) 5 f a c x.args->sM x->t.g.code.length+8*dS x<=1000000000000->t.g.fix.length+8*dS x<=1000000000000->
 Ws w (List.flatMap aS.ids (ab 157 108 112 b d t)) (ab 157 108 112 b d t) [f] w->Calls Tryz.prog 223 #[.pointer (some ⟨b,0,none⟩),.agg (nh x a c).toArray] w λe w'=>∃q:SP×SP,e = .returned (.tuple #[])/\Ws w (List.flatMap aS.ids (ab 157 108 112 b d t)) (ab 157 108 112 b d ⟨aF x t.g,q.1,q.2⟩) [f] w'
theorem r0 {l:List db} {i:Nat} {x:db} (h:l[i]? = some x):dS x<=aN l:=by
 have:=sL h; omega
theorem B6 {l:List db} {x y:db} (h:l[0]? = some x) (a:l[1]? = some y):dS x+dS y<=aN l:=by
 have b:aN (l.take 1)=aN (l.take 0)+dS x:=(sL h).1;have c:aN (l.take 2)=aN (l.take 1)+dS y:=(sL a).1;have d:aN (l.take 2)<=aN l:=(sL a).2;omega
theorem mU:Enters Tryz.prog 223:=enters_of Tryz.func223 (by kernel_rfl) rfl
theorem IE:Enters Tryz.prog 253:=enters_of Tryz.func253 (by kernel_rfl) rfl
theorem IF (b:Nat) (d:gP) (t:b5) (i:View) (k:Nat) (l:List db) (a:Option Addr) (c:Nat) (w:World) (y:∀f,f<k->hz i b d f) (n:Sl (ig k) 5 i a c l) (z:sN l) (H:t.g.code.length+8*aN l<=1000000000000) (J:t.g.fix.length+8*aN l<=1000000000000) (j:Ws w (List.flatMap aS.ids (ab 157 108 112 b d t)) (ab 157 108 112 b d t) [i] w) :
   Calls Tryz.prog 253 #[.pointer (some ⟨b,0,none⟩),.slice a l.length c] w λe w'=>∃q:SP×SP,e = .returned (.tuple #[])/\Ws w (List.flatMap aS.ids (ab 157 108 112 b d t)) (ab 157 108 112 b d ⟨e0 l t.g,q.1,q.2⟩) [i] w':=by
 have K:=n.cap;have L:=n.max;refine enter Tryz.func253 O 16 O O ?_;refine CE j (aa (ad O (I (Yn aY O) (ad O (ae (Cb ?_))))));refine av (ι:=Nat×SP×SP) (λg=>[(8,.int .i64 (g.1:Int))]) [(0,_),(6,_),(7,_)] (λg=>Ws w (List.flatMap aS.ids (ab 157 108 112 b d t)) (ab 157 108 112 b d ⟨e0 (l.take g.1) t.g,g.2.1,g.2.2⟩) [i]) (λg=>g.1<=l.length) (λg=>l.length-g.1) (0,t.ca,t.fa) (Nat.zero_le _) (sc O (sc O (sc O (sc O sn)))) (λ_ h=>h) ?_;intro g M;refine aa (I (b0 O O) (ae (Cs ?_)));refine Cc O (λo=>?_) (λo=>?_)
 ·have p:g.1<l.length:=by simpa using o
  obtain ⟨x,m⟩:∃q,l[g.1]? = some q:=⟨_,List.getElem?_eq_getElem p⟩;obtain ⟨N,P,A,r⟩:=n.bJ g.1 x m
  obtain ⟨f,rfl⟩:∃f,k=f+1:=by
    cases k with
    | zero=>exact r.elim
    | succ f=>exact ⟨f,rfl⟩
  obtain ⟨s,u,B,C⟩:=r;have Q:=sL m;have v:=w1 (l.take g.1) t.g;have R:=v.hi;have S:=v.a8;refine bf (Cs (Cb (aa (I (Yo aY O O A p) (I (dj 0 jE O O O (B)) ?_)))));refine Al Y O vb λT=>?_;refine aO 0 Y O O O xH O O O (ae (e9 0 (.cells (nh x s u).toArray 269 (0,0)) O O (Cr (ad O (I (b8 0 O O jE O) (Lf 3 O (Lf 3 O ?_)))))));refine Lf 3 O ?_;refine Lw (ι:=SP×SP) [_,_,_] _ Y O mU O O (λ_=>.tuple #[]) (λq=>(ab 157 108 112 b d ⟨aF x (⟨e0 (l.take g.1) t.g,g.2.1,g.2.2⟩:b5).g,q.1,q.2⟩)) (λ_=>True) [i] (by simp) (λw j=>(y f (by omega) x s u (⟨e0 (l.take g.1) t.g,g.2.1,g.2.2⟩:b5) w C (z.at_ m) (by show (e0 (l.take g.1) t.g).code.length+(8*dS x)<=_; omega) (by show (e0 (l.take g.1) t.g).fix.length+(8*dS x)<=_; omega) j).mono λe w' ⟨q,D,E⟩=>⟨q,D,trivial,E⟩) ?_;intro F _;refine Ln (Eb (Et (Cr (I (Yi O O O (by omega)) (ad O (Ln ?_))))));rw [<-Mq m];exact Ea ((g.1+1,F):Nat×SP×SP) (by show _-(g.1+1)<_; omega) (by show g.1+1<=_; omega) (sc O (sc O (sc O (sc O sn)))) (λ_ h=>(Wt 3 h:))
 have G:g.1=l.length:=by simp at o; omega
 rw [G,List.take_length];refine Ce (Ex (Ex (cp ?_)));refine E0 O λw' j=>?_;exact ⟨g.2,O,j⟩
theorem IG (b:Nat) (d:gP) (t:b5) (h:View) (k:Nat) (m pl:Int) (l:List db) (a:Option Addr) (c:Nat) (w:World) (r:∀n,n<k->hz h b d n) (s:Sl (ig k) 5 h a c l) (u:sN l) (x:t.g.code.length+8*(1+aN l)<=1000000000000) (y:t.g.fix.length+8*(1+aN l)<=1000000000000) (f:Ws w (List.flatMap aS.ids (ab 157 108 112 b d t)) (ab 157 108 112 b d t) [h] w) :
   Calls Tryz.prog 226 #[.pointer (some ⟨b,0,none⟩),.int .i64 m,.int .i64 pl,.slice a l.length c] w λe w'=>∃q:SP×SP,e = .returned (.tuple #[])/\Ws w (List.flatMap aS.ids (ab 157 108 112 b d t)) (ab 157 108 112 b d ⟨aQ ⟨13,pl,0⟩ 2 m (e0 l t.g),q.1,q.2⟩) [h] w':=by
 have o:=w1 l t.g;have z:=o.hi;have A:=o.a8;refine enter Tryz.func226 O 16 O O ?_;refine CE f (aa (ad O (ad O ?_)));refine Lw (ι:=SP×SP) [_,_,_] _ Y O IE O O (λ_=>.tuple #[]) (λq=>(ab 157 108 112 b d ⟨e0 l t.g,q.1,q.2⟩)) (λ_=>True) [h] (by simp) (λw f=>(IF b d t h k l a c w r s u (by omega) (by omega) f).mono λe w' ⟨q,i,j⟩=>⟨q,i,trivial,j⟩) ?_;intro p _;refine ae (Cr (ad O (ad O (I (Yb fY gT O O) (ad O ?_)))));refine Lw (ι:=SP×SP) [_,_,_] _ Y O tq O O (λ_=>.int .i64 ((e0 l t.g).code.length:Int)) (λq=>(ab 157 108 112 b d ⟨aQ ⟨13,pl,0⟩ 2 m (e0 l t.g),q.1,q.2⟩)) (λ_=>True) [] (by simp) (λw f=>(tr b d (⟨e0 l t.g,p.1,p.2⟩:b5)  ⟨13,pl,0⟩ 2 m w  (by show (e0 l t.g).code.length+1<=_; omega) (by show (e0 l t.g).fix.length+1<=_; omega) f).mono λe w' ⟨q,i,j⟩=>⟨q,i,trivial,j⟩) ?_;intro v _;refine Ln ?_;refine E0 O λw' f=>?_;exact ⟨v,O,f⟩
theorem IH (b:Nat) (d:gP) (t:b5) (h:View) (k:Nat) (m pl n:Int) (x:db) (a:Option Addr) (c:Nat) (w:World) (p:hz h b d k) (r:Sl (ig k) 5 h a c x.args) (s:sM x) (v:t.g.code.length+(8*dS x+1)<=1000000000000) (y:t.g.fix.length+(8*dS x+1)<=1000000000000) (f:Ws w (List.flatMap aS.ids (ab 157 108 112 b d t)) (ab 157 108 112 b d t) [h] w) :
   Calls Tryz.prog 225 #[.pointer (some ⟨b,0,none⟩),.int .i64 m,.int .i64 pl,.int .i64 n,.agg (nh x a c).toArray] w λe w'=>∃q:SP×SP,e = .returned (.tuple #[])/\Ws w (List.flatMap aS.ids (ab 157 108 112 b d t)) (ab 157 108 112 b d ⟨aQ ⟨6,pl,n⟩ 3 m (aF x t.g),q.1,q.2⟩) [h] w':=by
 have l:=bj x t.g;have z:=l.hi;have A:=l.a8;refine enter Tryz.func225 O 19 O O ?_;refine CE f (aa ?_);refine WL.box Y O O λB=>?_;refine ae (aa (ad O (I (b8 0 O O jE O) (Lf 3 O (Lf 3 O (Lf 3 O ?_))))));refine Lw (ι:=SP×SP) [_,_,_] _ Y O mU O O (λ_=>.tuple #[]) (λq=>(ab 157 108 112 b d ⟨aF x t.g,q.1,q.2⟩)) (λ_=>True) [h] (by simp) (λw f=>(p x a c t w r s (by show (t.g).code.length+(8*dS x)<=_; omega) (by show (t.g).fix.length+(8*dS x)<=_; omega) f).mono λe w' ⟨q,i,j⟩=>⟨q,i,trivial,j⟩) ?_;intro o _;refine ae (Cr (ad O (ad O (ad O (I (Yb fY gT O O) (ad O ?_))))));refine Lw (ι:=SP×SP) [_,_,_] _ Y O tq O O (λ_=>.int .i64 ((aF x t.g).code.length:Int)) (λq=>(ab 157 108 112 b d ⟨aQ ⟨6,pl,n⟩ 3 m (aF x t.g),q.1,q.2⟩)) (λ_=>True) [] (by simp) (λw f=>(tr b d (⟨aF x t.g,o.1,o.2⟩:b5)  ⟨6,pl,n⟩ 3 m w  (by show (aF x t.g).code.length+1<=_; omega) (by show (aF x t.g).fix.length+1<=_; omega) f).mono λe w' ⟨q,i,j⟩=>⟨q,i,trivial,j⟩) ?_;intro u _;refine Ln ?_;refine E0 O λw' f=>?_;exact ⟨u,O,Wt 3 f⟩
theorem II:Enters Tryz.prog 225:=enters_of Tryz.func225 (by kernel_rfl) rfl
theorem IJ:Enters Tryz.prog 226:=enters_of Tryz.func226 (by kernel_rfl) rfl
theorem r1:Enters Tryz.prog 227:=enters_of Tryz.func227 (by kernel_rfl) rfl
theorem qK:Enters Tryz.prog 254:=enters_of Tryz.func254 (by kernel_rfl) rfl
theorem Sy (j:Nat) (o:gP) (t:b5) (B:View) (k:Nat) (x:db) (a:Option Addr) (c:Nat) (w:World) (J:Sl (ig k) 5 B a c x.args) (G:sM x) (bW:t.g.code.length+8*dS x<=1000000000000) (bX:t.g.fix.length+8*dS x<=1000000000000) (b:Ws w (List.flatMap aS.ids (ab 157 108 112 j o t)) (ab 157 108 112 j o t) [B] w) :
   Calls Tryz.prog 223 #[.pointer (some ⟨j,0,none⟩),.agg (nh x a c).toArray] w λe w'=>∃q:SP×SP,e = .returned (.tuple #[])/\Ws w (List.flatMap aS.ids (ab 157 108 112 j o t)) (ab 157 108 112 j o ⟨aF x t.g,q.1,q.2⟩) [B] w':=by
 induction k using Nat.strongRecOn generalizing x a c t w
 rename_i k be;have X:∀s,s<k->hz B j o s:=λs h x a c t w p r bg bh bi=>be s h t x a c w p r bg bh bi;have bY:=J.cap;have bZ:=J.max;have b0:=Mu x;refine enter Tryz.func223 O 143 O O ?_;refine CE b (aa ?_);refine WL.box Y O O λb1=>?_;refine ae (aa (I (Yf mR O) (I (Yd 0 O O O aT) (ae (Cb (aa (I (bP O O) (ai O (ae ?_)))))))));refine Cc O (λaw=>?_) (λaw=>?_)
 ·have u:x.op=1:=by simpa using aw
  refine Cr (ad O (I (Yf kC O) (I (Yd 0 O O O aT) (I (Yb fY gT O O) ?_))));refine Lb Y O hx O O O O λbk=>?_;refine WL.iV (rd:=gv) (f:=bG.cells) (k:=3) (m:=1) 0 [⟨1,x.n,0⟩] O O bG.aj (λ_ _ _ _ h=>h) (by simp) (by decide) λaZ bl=>?_;refine Lf 3 O (Lf 3 O (Lf 3 O ?_));refine Lw (ι:=SP) [_,_,_] _ Y O jF O O (λ_=>.tuple #[]) (λq=>(ab 157 108 112 j o ⟨bt [⟨1,x.n,0⟩] t.g,q,t.fa⟩)) (λ_=>True) [aZ] (by simp) (λw b=>(jG j o t aZ (some ⟨bk,0,none⟩) 1 [⟨1,x.n,0⟩] w bl (by show (t.g).code.length+[⟨1,x.n,0⟩].length<=_; (try simp only [cJ]); omega) b).mono λe w' ⟨q,p,r⟩=>⟨q,p,trivial,r⟩) ?_;intro bm _;refine Ln (Eb ?_);refine E0 O λw' b=>?_
  have z:aF x t.g=bt [⟨1,x.n,0⟩] t.g:=by
    rw [n9,lv,if_pos u]
  rw [z];exact ⟨(bm,t.fa),O,Wv 1 (Wt 3 b)⟩
 have K:¬x.op=1:=by simpa using aw
 refine aa (I (bP O O) (ai O (ae ?_)));refine Cc O (λax=>?_) (λax=>?_)
 ·have u:x.op=2:=by simpa using ax
  refine Cr (ad O (I (Yb fY gT O O) ?_));refine Lb Y O hx O O O O λbn=>?_;refine WL.iV (rd:=gv) (f:=bG.cells) (k:=3) (m:=1) 0 [⟨18,0,0⟩] O O bG.aj (λ_ _ _ _ h=>h) (by simp) (by decide) λa0 bo=>?_;refine Lf 3 O (Lf 3 O (Lf 3 O ?_));refine Lw (ι:=SP) [_,_,_] _ Y O jF O O (λ_=>.tuple #[]) (λq=>(ab 157 108 112 j o ⟨bt [⟨18,0,0⟩] t.g,q,t.fa⟩)) (λ_=>True) [a0] (by simp) (λw b=>(jG j o t a0 (some ⟨bn,0,none⟩) 1 [⟨18,0,0⟩] w bo (by show (t.g).code.length+[⟨18,0,0⟩].length<=_; (try simp only [cJ]); omega) b).mono λe w' ⟨q,p,r⟩=>⟨q,p,trivial,r⟩) ?_;intro bp _;refine Ln (Eb ?_);refine E0 O λw' b=>?_
  have z:aF x t.g=bt [⟨18,0,0⟩] t.g:=by
    rw [n9,lv,if_neg K,if_pos u]
  rw [z];exact ⟨(bp,t.fa),O,Wv 1 (Wt 3 b)⟩
 have M:¬x.op=2:=by simpa using ax
 refine aa (I (bP O O) (ai O (ae ?_)));refine Cc O (λay=>?_) (λay=>?_)
 ·have u:x.op=16:=by simpa using ay
  refine Cr (ad O (I (Yf jY O) (I (Yd 0 O O O aT) (I (Yb fY gT O O) ?_))));refine Lb Y O hx O O O O λbq=>?_;refine WL.iV (rd:=gv) (f:=bG.cells) (k:=3) (m:=1) 0 [⟨2,x.pl,0⟩] O O bG.aj (λ_ _ _ _ h=>h) (by simp) (by decide) λa1 br=>?_;refine Lf 3 O (Lf 3 O (Lf 3 O ?_));refine Lw (ι:=SP) [_,_,_] _ Y O jF O O (λ_=>.tuple #[]) (λq=>(ab 157 108 112 j o ⟨bt [⟨2,x.pl,0⟩] t.g,q,t.fa⟩)) (λ_=>True) [a1] (by simp) (λw b=>(jG j o t a1 (some ⟨bq,0,none⟩) 1 [⟨2,x.pl,0⟩] w br (by show (t.g).code.length+[⟨2,x.pl,0⟩].length<=_; (try simp only [cJ]); omega) b).mono λe w' ⟨q,p,r⟩=>⟨q,p,trivial,r⟩) ?_;intro bs _;refine Ln (Eb ?_);refine E0 O λw' b=>?_
  have z:aF x t.g=bt [⟨2,x.pl,0⟩] t.g:=by
    rw [n9,lv,if_neg K,if_neg M,if_pos u]
  rw [z];exact ⟨(bs,t.fa),O,Wv 1 (Wt 3 b)⟩
 have P:¬x.op=16:=by simpa using ay
 refine aa (I (bP O O) (ai O (ae ?_)));refine Cc O (λaz=>?_) (λaz=>?_)
 ·have u:x.op=3:=by simpa using az
  refine Cr (ad O (I (Yf jY O) (I (Yd 0 O O O aT) (I (Yb fY gT O O) (I (Yf kD O) (I (Yd 0 O O O aT) (Lf 3 O ?_)))))));refine Lf 3 O (Lf 3 O ?_);refine Lw (ι:=SP×SP) [_,_,_] _ Y O tq O O (λ_=>.int .i64 (t.g.code.length:Int)) (λq=>(ab 157 108 112 j o ⟨aQ ⟨4,x.pl,0⟩ 3 x.m t.g,q.1,q.2⟩)) (λ_=>True) [] (by simp) (λw b=>(tr j o t  ⟨4,x.pl,0⟩ 3 x.m w  (by omega) (by omega) b).mono λe w' ⟨q,p,r⟩=>⟨q,p,trivial,r⟩) ?_;intro a2 _;refine Ln (Eb ?_);refine E0 O λw' b=>?_
  have z:aF x t.g=aQ ⟨4,x.pl,0⟩ 3 x.m t.g:=by
    rw [n9,lv,if_neg K,if_neg M,if_neg P,if_pos u]
  rw [z];exact ⟨(a2.1,a2.2),O,Wt 3 b⟩
 have W:¬x.op=3:=by simpa using az
 refine aa (I (bP O O) (ai O (ae ?_)));refine Cc O (λaA=>?_) (λaA=>?_)
 ·have u:x.op=4:=by simpa using aA
  refine Cs ?_;have b2:=G.args.2.1 (by omega);obtain ⟨y,C⟩:∃y,x.args[0]? = some y:=⟨_,List.getElem?_eq_getElem (by omega)⟩;obtain ⟨a3,a4,Z,N⟩:=J.bJ 0 y C
  obtain ⟨s,rfl⟩:∃s,k=s+1:=by
    cases k with
    | zero=>exact N.elim
    | succ s=>exact ⟨s,rfl⟩
  obtain ⟨ac,af,ag,ah⟩:=N;have Q:=X s (by omega);have ak:=G.args.1.at_ C;have D:=bj y t.g;have aB:=D.hi;have aC:=D.a8;have a5:=D.lo;have b3:=r0 C;refine CU (λ_=>true) [1,1,1] [] (.q false 0 (.q false 1 (.q true 2 (.q false 3 (.q true 4 (.q false 5 (.q true 6 (.q false 7 (.q true 8 (.q false 9 (.q true 10 (.e 11 .nil .stop)))))))))))) mixed (by kernel_rfl) (λ_ _ _ d _ _ h=>by cases d<;>exact h) ?_;refine U0 O (cK [1,1,1]) (Ym O) (U0 O (cK [1,1,1]) (Yf kD O) (U0 O (cK [1,1,1]) (Yd 0 O O O aT) (U0 O (cK [1,1,1]) (Yf jY O) (U0 O (cK [1,1,1]) (Yd 0 O O O aT) (U0 O (cK [1,1,1]) (Yf kC O) (U0 O (cK [1,1,1]) (Yd 0 O O O aT) (U0 O (cK [1,1,1]) (Yf mS O) ?_)))))));refine U0 O (cK [1,1,1]) (Yd 0 O O O h') (U0 O (cK [1,1,1]) (Yo (i:=0) aY O O Z (by omega)) (U0 O (cK [1,1,1]) (dj 0 jE O O O (ag)) ?_));refine Ue O (cK [1,1,1]) ?_ WU.stop;refine Lf 3 O (Lf 3 O (Lf 3 O ?_));refine Lw (ι:=SP×SP) [_,_,_] _ Y O II O O (λ_=>.tuple #[]) (λq=>(ab 157 108 112 j o ⟨aQ ⟨6,x.pl,x.n⟩ 3 x.m (aF y t.g),q.1,q.2⟩)) (λ_=>True) [B] (by simp) (λw b=>(IH j o t B s x.m x.pl x.n y ac af w Q ah ak (by omega) (by omega) b).mono λe w' ⟨q,p,r⟩=>⟨q,p,trivial,r⟩) ?_;intro R _;refine Ln (Eu ?_);refine WU.nil (λ_ h=>(Wo 1 (Wo 1 (Wo 1 (h.f 3 O))):)) ?_;refine WS.nil ?_;refine Et (Cr (ad O (I (Yb fY gT O O) ?_)));refine Lb Y O hx O O O O λbu=>?_;refine WL.iV (rd:=gv) (f:=bG.cells) (k:=3) (m:=1) 0 [⟨7,0,0⟩] O O bG.aj (λ_ _ _ _ h=>h) (by simp) (by decide) λa6 bv=>?_;refine Lw (ι:=SP) [_,_,_] _ Y O jF O O (λ_=>.tuple #[]) (λq=>(ab 157 108 112 j o ⟨bt [⟨7,0,0⟩] (⟨(aQ ⟨6,x.pl,x.n⟩ 3 x.m (aF y t.g)),R.1,R.2⟩:b5).g,q,(⟨(aQ ⟨6,x.pl,x.n⟩ 3 x.m (aF y t.g)),R.1,R.2⟩:b5).fa⟩)) (λ_=>True) [a6] (by simp) (λw b=>(jG j o (⟨(aQ ⟨6,x.pl,x.n⟩ 3 x.m (aF y t.g)),R.1,R.2⟩:b5) a6 (some ⟨bu,0,none⟩) 1 [⟨7,0,0⟩] w bv (by show ((aQ ⟨6,x.pl,x.n⟩ 3 x.m (aF y t.g))).code.length+[⟨7,0,0⟩].length<=_; (try simp only [cJ]); omega) b).mono λe w' ⟨q,p,r⟩=>⟨q,p,trivial,r⟩) ?_;intro bw _;refine Ln (Eb ?_);refine E0 O λw' b=>?_
  have z:aF x t.g=bt [⟨7,0,0⟩] (aQ ⟨6,x.pl,x.n⟩ 3 x.m (aF y t.g)):=by
    rw [n9,lv,if_neg K,if_neg M,if_neg P,if_neg W,if_pos u];rw [lx C]
  rw [z];exact ⟨(bw,R.2),O,Wv 1 (Wt 3 b)⟩
 have al:¬x.op=4:=by simpa using aA
 refine aa (I (bP O O) (ai O (ae ?_)));refine Cc O (λaD=>?_) (λaD=>?_)
 ·have u:x.op=5:=by simpa using aD
  refine Cr (ad O (I (Yf kD O) (I (Yd 0 O O O aT) (I (Yf jY O) (I (Yd 0 O O O aT) (I (Yf mS O) (I (Yd 0 O O O h') ?_)))))));refine Lf 3 O (Lf 3 O (Lf 3 O ?_));refine Lw (ι:=SP×SP) [_,_,_] _ Y O IJ O O (λ_=>.tuple #[]) (λq=>(ab 157 108 112 j o ⟨aQ ⟨13,x.pl,0⟩ 2 x.m (e0 x.args t.g),q.1,q.2⟩)) (λ_=>True) [B] (by simp) (λw b=>(IG j o t B k x.m x.pl x.args a c w X J G.args.1 (by omega) (by omega) b).mono λe w' ⟨q,p,r⟩=>⟨q,p,trivial,r⟩) ?_;intro a7 _;refine Ln (Eb ?_);refine E0 O λw' b=>?_
  have z:aF x t.g=aQ ⟨13,x.pl,0⟩ 2 x.m (e0 x.args t.g):=by
    rw [n9,lv,if_neg K,if_neg M,if_neg P,if_neg W,if_neg al,if_pos u];rw [uo]
  rw [z];exact ⟨(a7.1,a7.2),O,Wt 3 b⟩
 have ap:¬x.op=5:=by simpa using aD
 refine Cs (aa (I (bP O O) (ai O (ae ?_))));refine Cc O (λar=>?_) (λar=>?_)
 ·have u:x.op=7:=by simpa using ar
  refine bf ?_;refine Cc O (λS=>?_) (λS=>?_)
  ·refine Cs ?_;have bx:=G.args.2.2.1 (by omega);obtain ⟨y,C⟩:∃y,x.args[0]? = some y:=⟨_,List.getElem?_eq_getElem (by omega)⟩;obtain ⟨a3,a4,Z,N⟩:=J.bJ 0 y C;obtain ⟨l,L⟩:∃y,x.args[1]? = some y:=⟨_,List.getElem?_eq_getElem (by omega)⟩;obtain ⟨bz,bA,aE,aG⟩:=J.bJ 1 l L
   obtain ⟨s,rfl⟩:∃s,k=s+1:=by
     cases k with
     | zero=>exact N.elim
     | succ s=>exact ⟨s,rfl⟩
   obtain ⟨ac,af,ag,ah⟩:=N;have Q:=X s (by omega);have ak:=G.args.1.at_ C;have D:=bj y t.g;have aB:=D.hi;have aC:=D.a8;have a5:=D.lo;obtain ⟨aH,aI,aJ,aK⟩:=aG;have aL:=G.args.1.at_ L;have bB:=B6 C L;have T:=bj l (aQ ⟨12,0,0⟩ 1 0 (aF y t.g));have aM:=T.hi;have aN:=T.a8;have aO:=T.lo;have U:=bj l (cS ((aF y t.g).code.length) (aQ ⟨11,0,0⟩ 1 0 (bt [⟨1,1,0⟩] (aQ ⟨12,0,0⟩ 1 0 (aF y t.g)))));have aP:=U.hi;have aR:=U.a8;have aU:=U.lo;simp only [cJ] at aM aN aO aP aR aU;refine Cr (ad O (I (Yf mS O) (I (Yd 0 O O O h') (I (Yo (i:=0) aY O O Z (by omega)) (I (dj 0 jE O O O (ag)) (Lf 3 O (Lf 3 O ?_)))))));refine Lf 3 O ?_;refine Lw (ι:=SP×SP) [_,_,_] _ Y O mU O O (λ_=>.tuple #[]) (λq=>(ab 157 108 112 j o ⟨aF y t.g,q.1,q.2⟩)) (λ_=>True) [B] (by simp) (λw b=>(Q y ac af t w ah ak (by show (t.g).code.length+8*dS y<=_; (try simp only [cJ]); omega) (by show (t.g).fix.length+8*dS y<=_; (try simp only [cJ]); omega) b).mono λe w' ⟨q,p,r⟩=>⟨q,p,trivial,r⟩) ?_;intro am _;refine ae (aa (ad O ?_));refine Lw (ι:=(SP×SP)×Nat×Nat) [_,_,_] _ Y O r1 O O (λq=>.func (.func 254) #[] #[.pointer (some ⟨q.2.1,0,none⟩),.pointer (some ⟨q.2.2,0,none⟩)]) (λq=>(ab 157 108 112 j o ⟨aQ ⟨12,0,0⟩ 1 0 (aF y t.g),q.1.1,q.1.2⟩)++[aq q.2.1 (.cells #[.pointer (some ⟨j,0,none⟩)] 155 (0,0)),aq q.2.2 (.cells #[.int .i64 ((aF y t.g).code.length:Int)] 3 (0,0))]) (λ_=>True) [] (by simp) (λw b=>(rZ j o (⟨(aF y t.g),am.1,am.2⟩:b5) 12 w (by show ((aF y t.g)).code.length+1<=_; (try simp only [cJ]); omega) (by show ((aF y t.g)).fix.length+1<=_; (try simp only [cJ]); omega) b).mono λe w' ⟨q,p,r⟩=>⟨q,p,trivial,r⟩) ?_;intro A _;refine ai O (ae (Cs (aa (I (Yf mR O) (I (Yd 5 O O O aT) (I (bP O O) (ae ?_)))))));refine Cc O (λan=>?_) (λan=>?_)
   ·exact absurd an (by rw [u]; decide)
   refine bf (Cs (aa (I (Yf mR O) (I (Yd 5 O O O aT) (I (bP O O) (ae ?_))))));refine Cc O (λao=>?_) (λao=>?_)
   ·exact absurd ao (by rw [u]; decide)
   refine bf (aa (ad O (I (Yf mS O) (I (Yd 5 O O O h') (I (Yo (i:=1) aY O O aE (by omega)) (I (dj 0 jE O O O (aJ)) ?_))))));refine Lw (ι:=SP×SP) [_,_,_] _ Y O mU O O (λ_=>.tuple #[]) (λq=>(ab 157 108 112 j o ⟨aF l (aQ ⟨12,0,0⟩ 1 0 (aF y t.g)),q.1,q.2⟩)) (λ_=>True) [B] (by simp) (λw b=>(Q l aH aI (⟨(aQ ⟨12,0,0⟩ 1 0 (aF y t.g)),A.1.1,A.1.2⟩:b5) w aK aL (by show ((aQ ⟨12,0,0⟩ 1 0 (aF y t.g))).code.length+8*dS l<=_; (try simp only [cJ]); omega) (by show ((aQ ⟨12,0,0⟩ 1 0 (aF y t.g))).fix.length+8*dS l<=_; (try simp only [cJ]); omega) b).mono λe w' ⟨q,p,r⟩=>⟨q,p,trivial,r⟩) ?_;intro V _;refine ae (aa (ad O (I (Yb fY gT O O) ?_)));refine Lb Y O hx O O O O λbC=>?_;refine WL.iV (rd:=gv) (f:=bG.cells) (k:=3) (m:=1) 0 [⟨22,0,0⟩] O O bG.aj (λ_ _ _ _ h=>h) (by simp) (by decide) λa9 bD=>?_;refine Lw (ι:=SP) [_,_,_] _ Y O jF O O (λ_=>.tuple #[]) (λq=>(ab 157 108 112 j o ⟨bt [⟨22,0,0⟩] (⟨(aF l (aQ ⟨12,0,0⟩ 1 0 (aF y t.g))),V.1,V.2⟩:b5).g,q,(⟨(aF l (aQ ⟨12,0,0⟩ 1 0 (aF y t.g))),V.1,V.2⟩:b5).fa⟩)) (λ_=>True) [a9] (by simp) (λw b=>(jG j o (⟨(aF l (aQ ⟨12,0,0⟩ 1 0 (aF y t.g))),V.1,V.2⟩:b5) a9 (some ⟨bC,0,none⟩) 1 [⟨22,0,0⟩] w bD (by show ((aF l (aQ ⟨12,0,0⟩ 1 0 (aF y t.g)))).code.length+[⟨22,0,0⟩].length<=_; (try simp only [cJ]); omega) b).mono λe w' ⟨q,p,r⟩=>⟨q,p,trivial,r⟩) ?_;intro bE _;refine ae (aa (ad O ?_));refine Lw (ι:=(SP×SP)×Nat×Nat) [_,_,_] _ Y O r1 O O (λq=>.func (.func 254) #[] #[.pointer (some ⟨q.2.1,0,none⟩),.pointer (some ⟨q.2.2,0,none⟩)]) (λq=>(ab 157 108 112 j o ⟨aQ ⟨11,0,0⟩ 1 0 (bt [⟨22,0,0⟩] (aF l (aQ ⟨12,0,0⟩ 1 0 (aF y t.g)))),q.1.1,q.1.2⟩)++[aq q.2.1 (.cells #[.pointer (some ⟨j,0,none⟩)] 155 (0,0)),aq q.2.2 (.cells #[.int .i64 ((bt [⟨22,0,0⟩] (aF l (aQ ⟨12,0,0⟩ 1 0 (aF y t.g)))).code.length:Int)] 3 (0,0))]) (λ_=>True) [] (by simp) (λw b=>(rZ j o (⟨(bt [⟨22,0,0⟩] (aF l (aQ ⟨12,0,0⟩ 1 0 (aF y t.g)))),bE,V.2⟩:b5) 11 w (by show ((bt [⟨22,0,0⟩] (aF l (aQ ⟨12,0,0⟩ 1 0 (aF y t.g))))).code.length+1<=_; (try simp only [cJ]); omega) (by show ((bt [⟨22,0,0⟩] (aF l (aQ ⟨12,0,0⟩ 1 0 (aF y t.g))))).fix.length+1<=_; (try simp only [cJ]); omega) b).mono λe w' ⟨q,p,r⟩=>⟨q,p,trivial,r⟩) ?_;intro v _;refine ai O (ae (aa (ad O (Lf 6 O (Lf 6 O (Lf 4 O (Lf 4 O (Lf 4 O ?_))))))));refine WL.qi (ι:=Unit) [_,_,_,_,_] _ Y O qK O O O (λ_=>.tuple #[]) (λ_=>(ab 157 108 112 j o ⟨cS ((aF y t.g).code.length) (aQ ⟨11,0,0⟩ 1 0 (bt [⟨22,0,0⟩] (aF l (aQ ⟨12,0,0⟩ 1 0 (aF y t.g))))),(⟨(aQ ⟨11,0,0⟩ 1 0 (bt [⟨22,0,0⟩] (aF l (aQ ⟨12,0,0⟩ 1 0 (aF y t.g))))),v.1.1,v.1.2⟩:b5).ca,(⟨(aQ ⟨11,0,0⟩ 1 0 (bt [⟨22,0,0⟩] (aF l (aQ ⟨12,0,0⟩ 1 0 (aF y t.g))))),v.1.1,v.1.2⟩:b5).fa⟩)++[aq A.2.1 (.cells #[.pointer (some ⟨j,0,none⟩)] 155 (0,0)),aq A.2.2 (.cells #[.int .i64 ((aF y t.g).code.length:Int)] 3 (0,0))]) (λ_=>True) [] (by simp) (λw b=>(qJ j o (⟨(aQ ⟨11,0,0⟩ 1 0 (bt [⟨22,0,0⟩] (aF l (aQ ⟨12,0,0⟩ 1 0 (aF y t.g))))),v.1.1,v.1.2⟩:b5) A.2.1 A.2.2 ((aF y t.g).code.length) _ w (List.getElem?_eq_getElem (by show (aF y t.g).code.length<((aQ ⟨11,0,0⟩ 1 0 (bt [⟨22,0,0⟩] (aF l (aQ ⟨12,0,0⟩ 1 0 (aF y t.g)))))).code.length; (try simp only [cJ]); omega)) b).mono λe w' h=>⟨(),h.1,trivial,h.2⟩) ?_
   intro _ _;refine ae (aa (ad O (I (Yb fY gT O O) ?_)));refine Lb Y O hx O O O O λbF=>?_;refine WL.iV (rd:=gv) (f:=bG.cells) (k:=3) (m:=1) 0 [⟨1,0,0⟩] O O bG.aj (λ_ _ _ _ h=>h) (by simp) (by decide) λa' bH=>?_;refine Lw (ι:=SP) [_,_,_] _ Y O jF O O (λ_=>.tuple #[]) (λq=>(ab 157 108 112 j o ⟨bt [⟨1,0,0⟩] (⟨(cS ((aF y t.g).code.length) (aQ ⟨11,0,0⟩ 1 0 (bt [⟨22,0,0⟩] (aF l (aQ ⟨12,0,0⟩ 1 0 (aF y t.g)))))),v.1.1,v.1.2⟩:b5).g,q,(⟨(cS ((aF y t.g).code.length) (aQ ⟨11,0,0⟩ 1 0 (bt [⟨22,0,0⟩] (aF l (aQ ⟨12,0,0⟩ 1 0 (aF y t.g)))))),v.1.1,v.1.2⟩:b5).fa⟩)) (λ_=>True) [a'] (by simp) (λw b=>(jG j o (⟨(cS ((aF y t.g).code.length) (aQ ⟨11,0,0⟩ 1 0 (bt [⟨22,0,0⟩] (aF l (aQ ⟨12,0,0⟩ 1 0 (aF y t.g)))))),v.1.1,v.1.2⟩:b5) a' (some ⟨bF,0,none⟩) 1 [⟨1,0,0⟩] w bH (by show ((cS ((aF y t.g).code.length) (aQ ⟨11,0,0⟩ 1 0 (bt [⟨22,0,0⟩] (aF l (aQ ⟨12,0,0⟩ 1 0 (aF y t.g))))))).code.length+[⟨1,0,0⟩].length<=_; (try simp only [cJ]); omega) b).mono λe w' ⟨q,p,r⟩=>⟨q,p,trivial,r⟩) ?_;intro au _;refine ae (Cr (ad O (Lf 6 O (Lf 6 O (Lf 4 O (Lf 4 O (Lf 4 O ?_)))))));refine WL.qi (ι:=Unit) [_,_,_,_,_] _ Y O qK O O O (λ_=>.tuple #[]) (λ_=>(ab 157 108 112 j o ⟨cS ((bt [⟨22,0,0⟩] (aF l (aQ ⟨12,0,0⟩ 1 0 (aF y t.g)))).code.length) (bt [⟨1,0,0⟩] (cS ((aF y t.g).code.length) (aQ ⟨11,0,0⟩ 1 0 (bt [⟨22,0,0⟩] (aF l (aQ ⟨12,0,0⟩ 1 0 (aF y t.g))))))),(⟨(bt [⟨1,0,0⟩] (cS ((aF y t.g).code.length) (aQ ⟨11,0,0⟩ 1 0 (bt [⟨22,0,0⟩] (aF l (aQ ⟨12,0,0⟩ 1 0 (aF y t.g))))))),au,v.1.2⟩:b5).ca,(⟨(bt [⟨1,0,0⟩] (cS ((aF y t.g).code.length) (aQ ⟨11,0,0⟩ 1 0 (bt [⟨22,0,0⟩] (aF l (aQ ⟨12,0,0⟩ 1 0 (aF y t.g))))))),au,v.1.2⟩:b5).fa⟩)++[aq v.2.1 (.cells #[.pointer (some ⟨j,0,none⟩)] 155 (0,0)),aq v.2.2 (.cells #[.int .i64 ((bt [⟨22,0,0⟩] (aF l (aQ ⟨12,0,0⟩ 1 0 (aF y t.g)))).code.length:Int)] 3 (0,0))]) (λ_=>True) [] (by simp) (λw b=>(qJ j o (⟨(bt [⟨1,0,0⟩] (cS ((aF y t.g).code.length) (aQ ⟨11,0,0⟩ 1 0 (bt [⟨22,0,0⟩] (aF l (aQ ⟨12,0,0⟩ 1 0 (aF y t.g))))))),au,v.1.2⟩:b5) v.2.1 v.2.2 ((bt [⟨22,0,0⟩] (aF l (aQ ⟨12,0,0⟩ 1 0 (aF y t.g)))).code.length) _ w (List.getElem?_eq_getElem (by show (bt [⟨22,0,0⟩] (aF l (aQ ⟨12,0,0⟩ 1 0 (aF y t.g)))).code.length<((bt [⟨1,0,0⟩] (cS ((aF y t.g).code.length) (aQ ⟨11,0,0⟩ 1 0 (bt [⟨22,0,0⟩] (aF l (aQ ⟨12,0,0⟩ 1 0 (aF y t.g)))))))).code.length; (try simp only [cJ]); omega)) b).mono λe w' h=>⟨(),h.1,trivial,h.2⟩) ?_;intro _ _;refine Ln (Eb ?_);refine E0 O λw' b=>?_
   have z:aF x t.g=(cS ((bt [⟨22,0,0⟩] (aF l (aQ ⟨12,0,0⟩ 1 0 (aF y t.g)))).code.length) (bt [⟨1,0,0⟩] (cS ((aF y t.g).code.length) (aQ ⟨11,0,0⟩ 1 0 (bt [⟨22,0,0⟩] (aF l (aQ ⟨12,0,0⟩ 1 0 (aF y t.g)))))))):=by
     rw [n9,lv,if_neg K,if_neg M,if_neg P,if_neg W,if_neg al,if_neg ap,if_pos u];unfold uk;rw [lx C,lx L]
   rw [z];exact ⟨(au,v.1.2),O,Wv 2 (Wt 3 b)⟩
  rw [ar] at S; cases S
 have aV:¬x.op=7:=by simpa using ar
 refine Cr (I (bP O O) (ai O (ae ?_)));refine Cc O (λS=>?_) (λS=>?_)
 ·have u:x.op=8:=by simpa using S
  refine Cs ?_;have bx:=G.args.2.2.1 (by omega);obtain ⟨y,C⟩:∃y,x.args[0]? = some y:=⟨_,List.getElem?_eq_getElem (by omega)⟩;obtain ⟨a3,a4,Z,N⟩:=J.bJ 0 y C;obtain ⟨l,L⟩:∃y,x.args[1]? = some y:=⟨_,List.getElem?_eq_getElem (by omega)⟩;obtain ⟨bz,bA,aE,aG⟩:=J.bJ 1 l L
  obtain ⟨s,rfl⟩:∃s,k=s+1:=by
    cases k with
    | zero=>exact N.elim
    | succ s=>exact ⟨s,rfl⟩
  obtain ⟨ac,af,ag,ah⟩:=N;have Q:=X s (by omega);have ak:=G.args.1.at_ C;have D:=bj y t.g;have aB:=D.hi;have aC:=D.a8;have a5:=D.lo;obtain ⟨aH,aI,aJ,aK⟩:=aG;have aL:=G.args.1.at_ L;have bB:=B6 C L;have T:=bj l (aQ ⟨12,0,0⟩ 1 0 (aF y t.g));have aM:=T.hi;have aN:=T.a8;have aO:=T.lo;have U:=bj l (cS ((aF y t.g).code.length) (aQ ⟨11,0,0⟩ 1 0 (bt [⟨1,1,0⟩] (aQ ⟨12,0,0⟩ 1 0 (aF y t.g)))));have aP:=U.hi;have aR:=U.a8;have aU:=U.lo;simp only [cJ] at aM aN aO aP aR aU;refine Cr (ad O (I (Yf mS O) (I (Yd 0 O O O h') (I (Yo (i:=0) aY O O Z (by omega)) (I (dj 0 jE O O O (ag)) (Lf 3 O (Lf 3 O ?_)))))));refine Lf 3 O ?_;refine Lw (ι:=SP×SP) [_,_,_] _ Y O mU O O (λ_=>.tuple #[]) (λq=>(ab 157 108 112 j o ⟨aF y t.g,q.1,q.2⟩)) (λ_=>True) [B] (by simp) (λw b=>(Q y ac af t w ah ak (by show (t.g).code.length+8*dS y<=_; (try simp only [cJ]); omega) (by show (t.g).fix.length+8*dS y<=_; (try simp only [cJ]); omega) b).mono λe w' ⟨q,p,r⟩=>⟨q,p,trivial,r⟩) ?_;intro am _;refine ae (aa (ad O ?_));refine Lw (ι:=(SP×SP)×Nat×Nat) [_,_,_] _ Y O r1 O O (λq=>.func (.func 254) #[] #[.pointer (some ⟨q.2.1,0,none⟩),.pointer (some ⟨q.2.2,0,none⟩)]) (λq=>(ab 157 108 112 j o ⟨aQ ⟨12,0,0⟩ 1 0 (aF y t.g),q.1.1,q.1.2⟩)++[aq q.2.1 (.cells #[.pointer (some ⟨j,0,none⟩)] 155 (0,0)),aq q.2.2 (.cells #[.int .i64 ((aF y t.g).code.length:Int)] 3 (0,0))]) (λ_=>True) [] (by simp) (λw b=>(rZ j o (⟨(aF y t.g),am.1,am.2⟩:b5) 12 w (by show ((aF y t.g)).code.length+1<=_; (try simp only [cJ]); omega) (by show ((aF y t.g)).fix.length+1<=_; (try simp only [cJ]); omega) b).mono λe w' ⟨q,p,r⟩=>⟨q,p,trivial,r⟩) ?_;intro A _;refine ai O (ae (Cs (aa (I (Yf mR O) (I (Yd 5 O O O aT) (I (bP O O) (ae ?_)))))));refine Cc O (λan=>?_) (λan=>?_)
  ·refine aa (ad O (I (Yb fY gT O O) ?_));refine Lb Y O hx O O O O λbI=>?_;refine WL.iV (rd:=gv) (f:=bG.cells) (k:=3) (m:=1) 0 [⟨1,1,0⟩] O O bG.aj (λ_ _ _ _ h=>h) (by simp) (by decide) λa_ bK=>?_;refine Lw (ι:=SP) [_,_,_] _ Y O jF O O (λ_=>.tuple #[]) (λq=>(ab 157 108 112 j o ⟨bt [⟨1,1,0⟩] (⟨(aQ ⟨12,0,0⟩ 1 0 (aF y t.g)),A.1.1,A.1.2⟩:b5).g,q,(⟨(aQ ⟨12,0,0⟩ 1 0 (aF y t.g)),A.1.1,A.1.2⟩:b5).fa⟩)) (λ_=>True) [a_] (by simp) (λw b=>(jG j o (⟨(aQ ⟨12,0,0⟩ 1 0 (aF y t.g)),A.1.1,A.1.2⟩:b5) a_ (some ⟨bI,0,none⟩) 1 [⟨1,1,0⟩] w bK (by show ((aQ ⟨12,0,0⟩ 1 0 (aF y t.g))).code.length+[⟨1,1,0⟩].length<=_; (try simp only [cJ]); omega) b).mono λe w' ⟨q,p,r⟩=>⟨q,p,trivial,r⟩) ?_;intro bL _;refine ae (aa (ad O ?_));refine Lw (ι:=(SP×SP)×Nat×Nat) [_,_,_] _ Y O r1 O O (λq=>.func (.func 254) #[] #[.pointer (some ⟨q.2.1,0,none⟩),.pointer (some ⟨q.2.2,0,none⟩)]) (λq=>(ab 157 108 112 j o ⟨aQ ⟨11,0,0⟩ 1 0 (bt [⟨1,1,0⟩] (aQ ⟨12,0,0⟩ 1 0 (aF y t.g))),q.1.1,q.1.2⟩)++[aq q.2.1 (.cells #[.pointer (some ⟨j,0,none⟩)] 155 (0,0)),aq q.2.2 (.cells #[.int .i64 ((bt [⟨1,1,0⟩] (aQ ⟨12,0,0⟩ 1 0 (aF y t.g))).code.length:Int)] 3 (0,0))]) (λ_=>True) [] (by simp) (λw b=>(rZ j o (⟨(bt [⟨1,1,0⟩] (aQ ⟨12,0,0⟩ 1 0 (aF y t.g))),bL,A.1.2⟩:b5) 11 w (by show ((bt [⟨1,1,0⟩] (aQ ⟨12,0,0⟩ 1 0 (aF y t.g)))).code.length+1<=_; (try simp only [cJ]); omega) (by show ((bt [⟨1,1,0⟩] (aQ ⟨12,0,0⟩ 1 0 (aF y t.g)))).fix.length+1<=_; (try simp only [cJ]); omega) b).mono λe w' ⟨q,p,r⟩=>⟨q,p,trivial,r⟩) ?_;intro F _;refine ai O (ae (aa (ad O (Lf 6 O (Lf 6 O (Lf 4 O (Lf 4 O (Lf 4 O ?_))))))));refine WL.qi (ι:=Unit) [_,_,_,_,_] _ Y O qK O O O (λ_=>.tuple #[]) (λ_=>(ab 157 108 112 j o ⟨cS ((aF y t.g).code.length) (aQ ⟨11,0,0⟩ 1 0 (bt [⟨1,1,0⟩] (aQ ⟨12,0,0⟩ 1 0 (aF y t.g)))),(⟨(aQ ⟨11,0,0⟩ 1 0 (bt [⟨1,1,0⟩] (aQ ⟨12,0,0⟩ 1 0 (aF y t.g)))),F.1.1,F.1.2⟩:b5).ca,(⟨(aQ ⟨11,0,0⟩ 1 0 (bt [⟨1,1,0⟩] (aQ ⟨12,0,0⟩ 1 0 (aF y t.g)))),F.1.1,F.1.2⟩:b5).fa⟩)++[aq A.2.1 (.cells #[.pointer (some ⟨j,0,none⟩)] 155 (0,0)),aq A.2.2 (.cells #[.int .i64 ((aF y t.g).code.length:Int)] 3 (0,0))]) (λ_=>True) [] (by simp) (λw b=>(qJ j o (⟨(aQ ⟨11,0,0⟩ 1 0 (bt [⟨1,1,0⟩] (aQ ⟨12,0,0⟩ 1 0 (aF y t.g)))),F.1.1,F.1.2⟩:b5) A.2.1 A.2.2 ((aF y t.g).code.length) _ w (List.getElem?_eq_getElem (by show (aF y t.g).code.length<((aQ ⟨11,0,0⟩ 1 0 (bt [⟨1,1,0⟩] (aQ ⟨12,0,0⟩ 1 0 (aF y t.g))))).code.length; (try simp only [cJ]); omega)) b).mono λe w' h=>⟨(),h.1,trivial,h.2⟩) ?_;intro _ _;refine ae (Cr (ad O (ai O (ae (Cs (aa (I (Yf mR O) (I (Yd 7 O O O aT) (I (bP O O) (ae ?_))))))))));refine Cc O (λao=>?_) (λao=>?_)
   ·refine aa (ad O (I (Yf mS O) (I (Yd 7 O O O h') (I (Yo (i:=1) aY O O aE (by omega)) (I (dj 1 jE O O O (aJ)) ?_)))));refine Lw (ι:=SP×SP) [_,_,_] _ Y O mU O O (λ_=>.tuple #[]) (λq=>(ab 157 108 112 j o ⟨aF l (cS ((aF y t.g).code.length) (aQ ⟨11,0,0⟩ 1 0 (bt [⟨1,1,0⟩] (aQ ⟨12,0,0⟩ 1 0 (aF y t.g))))),q.1,q.2⟩)) (λ_=>True) [B] (by simp) (λw b=>(Q l aH aI (⟨(cS ((aF y t.g).code.length) (aQ ⟨11,0,0⟩ 1 0 (bt [⟨1,1,0⟩] (aQ ⟨12,0,0⟩ 1 0 (aF y t.g))))),F.1.1,F.1.2⟩:b5) w aK aL (by show ((cS ((aF y t.g).code.length) (aQ ⟨11,0,0⟩ 1 0 (bt [⟨1,1,0⟩] (aQ ⟨12,0,0⟩ 1 0 (aF y t.g)))))).code.length+8*dS l<=_; (try simp only [cJ]); omega) (by show ((cS ((aF y t.g).code.length) (aQ ⟨11,0,0⟩ 1 0 (bt [⟨1,1,0⟩] (aQ ⟨12,0,0⟩ 1 0 (aF y t.g)))))).fix.length+8*dS l<=_; (try simp only [cJ]); omega) b).mono λe w' ⟨q,p,r⟩=>⟨q,p,trivial,r⟩) ?_;intro H _;refine ae (aa (ad O (I (Yb fY gT O O) ?_)));refine Lb Y O hx O O O O λbM=>?_;refine WL.iV (rd:=gv) (f:=bG.cells) (k:=3) (m:=1) 0 [⟨22,0,0⟩] O O bG.aj (λ_ _ _ _ h=>h) (by simp) (by decide) λba bN=>?_;refine Lw (ι:=SP) [_,_,_] _ Y O jF O O (λ_=>.tuple #[]) (λq=>(ab 157 108 112 j o ⟨bt [⟨22,0,0⟩] (⟨(aF l (cS ((aF y t.g).code.length) (aQ ⟨11,0,0⟩ 1 0 (bt [⟨1,1,0⟩] (aQ ⟨12,0,0⟩ 1 0 (aF y t.g)))))),H.1,H.2⟩:b5).g,q,(⟨(aF l (cS ((aF y t.g).code.length) (aQ ⟨11,0,0⟩ 1 0 (bt [⟨1,1,0⟩] (aQ ⟨12,0,0⟩ 1 0 (aF y t.g)))))),H.1,H.2⟩:b5).fa⟩)) (λ_=>True) [ba] (by simp) (λw b=>(jG j o (⟨(aF l (cS ((aF y t.g).code.length) (aQ ⟨11,0,0⟩ 1 0 (bt [⟨1,1,0⟩] (aQ ⟨12,0,0⟩ 1 0 (aF y t.g)))))),H.1,H.2⟩:b5) ba (some ⟨bM,0,none⟩) 1 [⟨22,0,0⟩] w bN (by show ((aF l (cS ((aF y t.g).code.length) (aQ ⟨11,0,0⟩ 1 0 (bt [⟨1,1,0⟩] (aQ ⟨12,0,0⟩ 1 0 (aF y t.g))))))).code.length+[⟨22,0,0⟩].length<=_; (try simp only [cJ]); omega) b).mono λe w' ⟨q,p,r⟩=>⟨q,p,trivial,r⟩) ?_;intro av _;refine ae (aa (ad O (Lf 6 O (Lf 6 O (Lf 4 O (Lf 4 O (Lf 4 O ?_)))))));refine WL.qi (ι:=Unit) [_,_,_,_,_] _ Y O qK O O O (λ_=>.tuple #[]) (λ_=>(ab 157 108 112 j o ⟨cS ((bt [⟨1,1,0⟩] (aQ ⟨12,0,0⟩ 1 0 (aF y t.g))).code.length) (bt [⟨22,0,0⟩] (aF l (cS ((aF y t.g).code.length) (aQ ⟨11,0,0⟩ 1 0 (bt [⟨1,1,0⟩] (aQ ⟨12,0,0⟩ 1 0 (aF y t.g))))))),(⟨(bt [⟨22,0,0⟩] (aF l (cS ((aF y t.g).code.length) (aQ ⟨11,0,0⟩ 1 0 (bt [⟨1,1,0⟩] (aQ ⟨12,0,0⟩ 1 0 (aF y t.g))))))),av,H.2⟩:b5).ca,(⟨(bt [⟨22,0,0⟩] (aF l (cS ((aF y t.g).code.length) (aQ ⟨11,0,0⟩ 1 0 (bt [⟨1,1,0⟩] (aQ ⟨12,0,0⟩ 1 0 (aF y t.g))))))),av,H.2⟩:b5).fa⟩)++[aq F.2.1 (.cells #[.pointer (some ⟨j,0,none⟩)] 155 (0,0)),aq F.2.2 (.cells #[.int .i64 ((bt [⟨1,1,0⟩] (aQ ⟨12,0,0⟩ 1 0 (aF y t.g))).code.length:Int)] 3 (0,0))]) (λ_=>True) [] (by simp) (λw b=>(qJ j o (⟨(bt [⟨22,0,0⟩] (aF l (cS ((aF y t.g).code.length) (aQ ⟨11,0,0⟩ 1 0 (bt [⟨1,1,0⟩] (aQ ⟨12,0,0⟩ 1 0 (aF y t.g))))))),av,H.2⟩:b5) F.2.1 F.2.2 ((bt [⟨1,1,0⟩] (aQ ⟨12,0,0⟩ 1 0 (aF y t.g))).code.length) _ w (List.getElem?_eq_getElem (by show (bt [⟨1,1,0⟩] (aQ ⟨12,0,0⟩ 1 0 (aF y t.g))).code.length<((bt [⟨22,0,0⟩] (aF l (cS ((aF y t.g).code.length) (aQ ⟨11,0,0⟩ 1 0 (bt [⟨1,1,0⟩] (aQ ⟨12,0,0⟩ 1 0 (aF y t.g)))))))).code.length; (try simp only [cJ]); omega)) b).mono λe w' h=>⟨(),h.1,trivial,h.2⟩) ?_
    intro _ _;refine ae (aX (Er (cj ?_)));refine WE.vK O λw' b=>?_
    have z:aF x t.g=(cS ((bt [⟨1,1,0⟩] (aQ ⟨12,0,0⟩ 1 0 (aF y t.g))).code.length) (bt [⟨22,0,0⟩] (aF l (cS ((aF y t.g).code.length) (aQ ⟨11,0,0⟩ 1 0 (bt [⟨1,1,0⟩] (aQ ⟨12,0,0⟩ 1 0 (aF y t.g)))))))):=by
      rw [n9,lv,if_neg K,if_neg M,if_neg P,if_neg W,if_neg al,if_neg ap,if_neg aV,if_pos u];unfold um;rw [lx C,lx L]
    rw [z];exact ⟨(av,H.2),O,Wv 2 (Wt 3 b)⟩
   exact absurd ao (by rw [u]; decide)
  exact absurd an (by rw [u]; decide)
 have bb:¬x.op=8:=by simpa using S
 refine Cs ?_;have D:=w1 x.args t.g;have aB:=D.hi;have aC:=D.a8;refine Cr (ad O (I (Yf mS O) (I (Yd 0 O O O h') (Lf 3 O (Lf 3 O (Lf 3 O ?_))))));refine Lw (ι:=SP×SP) [_,_,_] _ Y O IE O O (λ_=>.tuple #[]) (λq=>(ab 157 108 112 j o ⟨e0 x.args t.g,q.1,q.2⟩)) (λ_=>True) [B] (by simp) (λw b=>(IF j o t B k x.args a c w X J G.args.1 (by omega) (by omega) b).mono λe w' ⟨q,p,r⟩=>⟨q,p,trivial,r⟩) ?_;intro E _;refine ae (aa (I (Yf mR O) (I (Yd 3 O O O aT) (I (bP O O) (ae ?_)))));refine Cc O (λaW=>?_) (λaW=>?_)
 ·have u:x.op=6:=by simpa using aW
  refine Cr (ad O (I (Yb fY gT O O) ?_));refine Lb Y O hx O O O O λbO=>?_;refine WL.iV (rd:=gv) (f:=bG.cells) (k:=3) (m:=1) 0 [⟨9,0,0⟩] O O bG.aj (λ_ _ _ _ h=>h) (by simp) (by decide) λbc bQ=>?_;refine Lw (ι:=SP) [_,_,_] _ Y O jF O O (λ_=>.tuple #[]) (λq=>(ab 157 108 112 j o ⟨bt [⟨9,0,0⟩] (⟨(e0 x.args t.g),E.1,E.2⟩:b5).g,q,(⟨(e0 x.args t.g),E.1,E.2⟩:b5).fa⟩)) (λ_=>True) [bc] (by simp) (λw b=>(jG j o (⟨(e0 x.args t.g),E.1,E.2⟩:b5) bc (some ⟨bO,0,none⟩) 1 [⟨9,0,0⟩] w bQ (by show ((e0 x.args t.g)).code.length+[⟨9,0,0⟩].length<=_; (try simp only [cJ]); omega) b).mono λe w' ⟨q,p,r⟩=>⟨q,p,trivial,r⟩) ?_;intro bR _;refine Ln (Eb ?_);refine E0 O λw' b=>?_
  have z:aF x t.g=bt [⟨9,0,0⟩] (e0 x.args t.g):=by
    rw [n9,lv,if_neg K,if_neg M,if_neg P,if_neg W,if_neg al,if_neg ap,if_neg aV,if_neg bb,if_pos u];rw [uo]
  rw [z];exact ⟨(bR,E.2),O,Wv 1 (Wt 3 b)⟩
 have bS:¬x.op=6:=by simpa using aW
 refine Cr (ad O (I (Yf mR O) (I (Yd 3 O O O aT) (I (Yb fY gT O O) ?_))));refine Lb Y O hx O O O O λbT=>?_;refine WL.iV (rd:=gv) (f:=bG.cells) (k:=3) (m:=1) 0 [⟨10,x.op,0⟩] O O bG.aj (λ_ _ _ _ h=>h) (by simp) (by decide) λbd bU=>?_;refine Lw (ι:=SP) [_,_,_] _ Y O jF O O (λ_=>.tuple #[]) (λq=>(ab 157 108 112 j o ⟨bt [⟨10,x.op,0⟩] (⟨(e0 x.args t.g),E.1,E.2⟩:b5).g,q,(⟨(e0 x.args t.g),E.1,E.2⟩:b5).fa⟩)) (λ_=>True) [bd] (by simp) (λw b=>(jG j o (⟨(e0 x.args t.g),E.1,E.2⟩:b5) bd (some ⟨bT,0,none⟩) 1 [⟨10,x.op,0⟩] w bU (by show ((e0 x.args t.g)).code.length+[⟨10,x.op,0⟩].length<=_; (try simp only [cJ]); omega) b).mono λe w' ⟨q,p,r⟩=>⟨q,p,trivial,r⟩) ?_;intro bV _;refine Ln (Eb ?_);refine E0 O λw' b=>?_
 have z:aF x t.g=bt [⟨10,x.op,0⟩] (e0 x.args t.g):=by
   rw [n9,lv,if_neg K,if_neg M,if_neg P,if_neg W,if_neg al,if_neg ap,if_neg aV,if_neg bb,if_neg bS,uo]
 rw [z];exact ⟨(bV,E.2),O,Wv 1 (Wt 3 b)⟩
def IK (f:View) (b:Nat) (d:gP) (ke k:Nat):Prop:=∀(l:List cY) (a:Option Addr) (c:Nat) (t:b5) (w:World),Sl (gW ke k) 7 f a c l->n_ l->t.g.code.length+8*eF l<=1000000000000->t.g.fix.length+8*eF l<=1000000000000->
 Ws w (List.flatMap aS.ids (ab 157 108 112 b d t)) (ab 157 108 112 b d t) [f] w->Calls Tryz.prog 141 #[.pointer (some ⟨b,0,none⟩),.slice a l.length c] w λe w'=>∃q:SP×SP,e = .returned (.tuple #[])/\Ws w (List.flatMap aS.ids (ab 157 108 112 b d t)) (ab 157 108 112 b d ⟨ct l t.g,q.1,q.2⟩) [f] w'
theorem x4:Enters Tryz.prog 141:=enters_of Tryz.func141 (by kernel_rfl) rfl
theorem Sz:Enters Tryz.prog 177:=enters_of Tryz.func177 (by kernel_rfl) rfl
theorem SA (j:Nat) (o:gP) (t:b5) (z:View) (ke k:Nat) (x:cY) (r:rl) (w:World) (ax:IK z j o ke k) (l:Sl (ig ke) 5 z r.s1.1 r.s1.2 x.args) (p:Sl (gW ke k) 7 z r.s2.1 r.s2.2 x.body) (am:Sl (gW ke k) 7 z r.s3.1 r.s3.2 x.other) (A:w2 x) (bL:t.g.code.length+8*l2 x<=1000000000000) (bM:t.g.fix.length+8*l2 x<=1000000000000) (b:Ws w (List.flatMap aS.ids (ab 157 108 112 j o t)) (ab 157 108 112 j o t) [z] w) :
   Calls Tryz.prog 177 #[.pointer (some ⟨j,0,none⟩),.agg (o7 x r).toArray] w λe w'=>∃q:SP×SP,e = .returned (.tuple #[])/\Ws w (List.flatMap aS.ids (ab 157 108 112 j o t)) (ab 157 108 112 j o ⟨jt x t.g,q.1,q.2⟩) [z] w':=by
 have V:∀s,hz z j o s:=λs x a c t w l p am a7 a9=>Sy j o t z s x a c w l p am a7 a9;have bN:=l.cap;have bO:=l.max;have bQ:=am.cap;have bR:=am.max;have bS:=Mv x;refine enter Tryz.func177 O 155 O O ?_;refine CE b (aa ?_);refine WL.box Y O O λbT=>?_;refine ae (aa (I (Yf tm O) (I (Yd 0 O O O aT) (ae (Cb (aa (I (bP O O) (ai O (ae ?_)))))))));refine Cc O (λay=>?_) (λay=>?_)
 ·have D:x.op=1:=by simpa using ay
  refine Cs ?_;have av:=A.parts.2.2.2.1 (by omega);obtain ⟨y,u⟩:∃y,x.args[0]? = some y:=⟨_,List.getElem?_eq_getElem (by omega)⟩;obtain ⟨an,ao,G,B⟩:=l.bJ 0 y u
  obtain ⟨s,rfl⟩:∃s,ke=s+1:=by
    cases ke with
    | zero=>exact B.elim
    | succ s=>exact ⟨s,rfl⟩
  obtain ⟨H,J,K,L⟩:=B;have E:=V s;have M:=A.parts.1.at_ u;have ap:=r0 u;have v:=bj y t.g;have ah:=v.hi;have ak:=v.a8;have ar:=v.lo;refine Cr (ad O (I (Yf mh O) (I (Yd 0 O O O h') (I (Yo (i:=0) aY O O G (by omega)) (I (dj 0 jE O O O (K)) (Lf 3 O (Lf 3 O ?_)))))));refine Lf 3 O ?_;refine Lw (ι:=SP×SP) [_,_,_] _ Y O mU O O (λ_=>.tuple #[]) (λq=>(ab 157 108 112 j o ⟨aF y t.g,q.1,q.2⟩)) (λ_=>True) [z] (by simp) (λw b=>(E y H J t w L M (by show (t.g).code.length+8*dS y<=_; (try simp only [cJ]); omega) (by show (t.g).fix.length+8*dS y<=_; (try simp only [cJ]); omega) b).mono λe w' ⟨q,l,p⟩=>⟨q,l,trivial,p⟩) ?_;intro S _;refine ae (aa (I (Yf k6 O) (I (Yd 3 O O O aT) (I (b0 O O) (ae ?_)))));refine Cc O (λaz=>?_) (λaz=>?_)
  ·have aA:x.m<0:=by simpa using az
   refine Cr (ad O (I (Yf lM O) (I (Yd 3 O O O aT) (I (Yb fY gT O O) ?_))));refine Lb Y O hx O O O O λa'=>?_;refine WL.iV (rd:=gv) (f:=bG.cells) (k:=3) (m:=1) 0 [⟨3,x.pl,0⟩] O O bG.aj (λ_ _ _ _ h=>h) (by simp) (by decide) λaR a_=>?_;refine Lw (ι:=SP) [_,_,_] _ Y O jF O O (λ_=>.tuple #[]) (λq=>(ab 157 108 112 j o ⟨bt [⟨3,x.pl,0⟩] (⟨(aF y t.g),S.1,S.2⟩:b5).g,q,(⟨(aF y t.g),S.1,S.2⟩:b5).fa⟩)) (λ_=>True) [aR] (by simp) (λw b=>(jG j o (⟨(aF y t.g),S.1,S.2⟩:b5) aR (some ⟨a',0,none⟩) 1 [⟨3,x.pl,0⟩] w a_ (by show ((aF y t.g)).code.length+[⟨3,x.pl,0⟩].length<=_; (try simp only [cJ]); omega) b).mono λe w' ⟨q,l,p⟩=>⟨q,l,trivial,p⟩) ?_;intro ba _;refine Ln (Eb ?_);refine E0 O λw' b=>?_
   have C:jt x t.g=bt [⟨3,x.pl,0⟩] (aF y t.g):=by
     rw [pc,l3,if_pos D,if_pos aA,lx u]
   rw [C];exact ⟨(ba,S.2),O,Wv 1 (Wt 3 b)⟩
  have aA:¬x.m<0:=by simpa using az
  refine Cr (ad O (I (Yf lM O) (I (Yd 3 O O O aT) (I (Yb fY gT O O) (I (Yf k6 O) (I (Yd 3 O O O aT) ?_))))));refine Lw (ι:=SP×SP) [_,_,_] _ Y O tq O O (λ_=>.int .i64 ((aF y t.g).code.length:Int)) (λq=>(ab 157 108 112 j o ⟨aQ ⟨5,x.pl,0⟩ 3 x.m (aF y t.g),q.1,q.2⟩)) (λ_=>True) [] (by simp) (λw b=>(tr j o (⟨(aF y t.g),S.1,S.2⟩:b5)  ⟨5,x.pl,0⟩ 3 x.m w  (by show ((aF y t.g)).code.length+1<=_; (try simp only [cJ]); omega) (by show ((aF y t.g)).fix.length+1<=_; (try simp only [cJ]); omega) b).mono λe w' ⟨q,l,p⟩=>⟨q,l,trivial,p⟩) ?_;intro aU _;refine Ln (Eb ?_);refine E0 O λw' b=>?_
  have C:jt x t.g=aQ ⟨5,x.pl,0⟩ 3 x.m (aF y t.g):=by
    rw [pc,l3,if_pos D,if_neg aA,lx u]
  rw [C];exact ⟨(aU.1,aU.2),O,Wt 3 b⟩
 have W:¬x.op=1:=by simpa using ay
 refine aa (I (bP O O) (ai O (ae ?_)));refine Cc O (λaB=>?_) (λaB=>?_)
 ·have D:x.op=2:=by simpa using aB
  refine Cs ?_;have bU:=A.parts.2.2.2.2.1 (by omega);obtain ⟨y,u⟩:∃y,x.args[0]? = some y:=⟨_,List.getElem?_eq_getElem (by omega)⟩;obtain ⟨an,ao,G,B⟩:=l.bJ 0 y u;obtain ⟨N,aw⟩:∃y,x.args[1]? = some y:=⟨_,List.getElem?_eq_getElem (by omega)⟩;obtain ⟨bV,bW,bb,bc⟩:=l.bJ 1 N aw
  obtain ⟨s,rfl⟩:∃s,ke=s+1:=by
    cases ke with
    | zero=>exact B.elim
    | succ s=>exact ⟨s,rfl⟩
  obtain ⟨H,J,K,L⟩:=B;have E:=V s;have M:=A.parts.1.at_ u;have ap:=r0 u;have v:=bj y t.g;have ah:=v.hi;have ak:=v.a8;have ar:=v.lo;obtain ⟨bd,be,bg,bh⟩:=bc;have bi:=A.parts.1.at_ aw;have bX:=B6 u aw;have aC:=bj N (aQ ⟨6,x.pl,x.n⟩ 3 x.m (aF y t.g));have bk:=aC.hi;have bl:=aC.a8;have bm:=aC.lo
  try simp only [cJ] at bk bl bm
  refine CU (λ_=>true) [1,1,1] [] (.q false 0 (.q false 1 (.q true 2 (.q false 3 (.q true 4 (.q false 5 (.q true 6 (.q false 7 (.q true 8 (.q false 9 (.q true 10 (.e 11 .nil .stop)))))))))))) mixed (by kernel_rfl) (λ_ _ _ d _ _ h=>by cases d<;>exact h) ?_;refine U0 O (cK [1,1,1]) (Ym O) (U0 O (cK [1,1,1]) (Yf k6 O) (U0 O (cK [1,1,1]) (Yd 0 O O O aT) (U0 O (cK [1,1,1]) (Yf lM O) (U0 O (cK [1,1,1]) (Yd 0 O O O aT) (U0 O (cK [1,1,1]) (Yf pN O) (U0 O (cK [1,1,1]) (Yd 0 O O O aT) (U0 O (cK [1,1,1]) (Yf mh O) ?_)))))));refine U0 O (cK [1,1,1]) (Yd 0 O O O h') (U0 O (cK [1,1,1]) (Yo (i:=0) aY O O G (by omega)) (U0 O (cK [1,1,1]) (dj 0 jE O O O (K)) ?_));refine Ue O (cK [1,1,1]) ?_ WU.stop;refine Lf 3 O (Lf 3 O (Lf 3 O ?_));refine Lw (ι:=SP×SP) [_,_,_] _ Y O II O O (λ_=>.tuple #[]) (λq=>(ab 157 108 112 j o ⟨aQ ⟨6,x.pl,x.n⟩ 3 x.m (aF y t.g),q.1,q.2⟩)) (λ_=>True) [z] (by simp) (λw b=>(IH j o t z s x.m x.pl x.n y H J w E L M (by omega) (by omega) b).mono λe w' ⟨q,l,p⟩=>⟨q,l,trivial,p⟩) ?_;intro aV _;refine Ln (Eu ?_);refine WU.nil (λ_ h=>(Wo 1 (Wo 1 (Wo 1 (h.f 3 O))):)) ?_;refine WS.nil ?_;refine Et (aa (ad O (I (Yf mh O) (I (Yd 3 O O O h') (I (Yo (i:=1) aY O O bb (by omega)) (I (dj 0 jE O O O (bg)) ?_))))));refine Lw (ι:=SP×SP) [_,_,_] _ Y O mU O O (λ_=>.tuple #[]) (λq=>(ab 157 108 112 j o ⟨aF N (aQ ⟨6,x.pl,x.n⟩ 3 x.m (aF y t.g)),q.1,q.2⟩)) (λ_=>True) [z] (by simp) (λw b=>(E N bd be (⟨(aQ ⟨6,x.pl,x.n⟩ 3 x.m (aF y t.g)),aV.1,aV.2⟩:b5) w bh bi (by show ((aQ ⟨6,x.pl,x.n⟩ 3 x.m (aF y t.g))).code.length+8*dS N<=_; (try simp only [cJ]); omega) (by show ((aQ ⟨6,x.pl,x.n⟩ 3 x.m (aF y t.g))).fix.length+8*dS N<=_; (try simp only [cJ]); omega) b).mono λe w' ⟨q,l,p⟩=>⟨q,l,trivial,p⟩) ?_;intro X _;refine ae (Cr (ad O (I (Yb fY gT O O) ?_)));refine Lb Y O hx O O O O λbn=>?_;refine WL.iV (rd:=gv) (f:=bG.cells) (k:=3) (m:=1) 0 [⟨8,0,0⟩] O O bG.aj (λ_ _ _ _ h=>h) (by simp) (by decide) λaW bo=>?_;refine Lw (ι:=SP) [_,_,_] _ Y O jF O O (λ_=>.tuple #[]) (λq=>(ab 157 108 112 j o ⟨bt [⟨8,0,0⟩] (⟨(aF N (aQ ⟨6,x.pl,x.n⟩ 3 x.m (aF y t.g))),X.1,X.2⟩:b5).g,q,(⟨(aF N (aQ ⟨6,x.pl,x.n⟩ 3 x.m (aF y t.g))),X.1,X.2⟩:b5).fa⟩)) (λ_=>True) [aW] (by simp) (λw b=>(jG j o (⟨(aF N (aQ ⟨6,x.pl,x.n⟩ 3 x.m (aF y t.g))),X.1,X.2⟩:b5) aW (some ⟨bn,0,none⟩) 1 [⟨8,0,0⟩] w bo (by show ((aF N (aQ ⟨6,x.pl,x.n⟩ 3 x.m (aF y t.g)))).code.length+[⟨8,0,0⟩].length<=_; (try simp only [cJ]); omega) b).mono λe w' ⟨q,l,p⟩=>⟨q,l,trivial,p⟩) ?_;intro bp _;refine Ln (Eb ?_);refine E0 O λw' b=>?_
  have C:jt x t.g=bt [⟨8,0,0⟩] (aF N (aQ ⟨6,x.pl,x.n⟩ 3 x.m (aF y t.g))):=by
    rw [pc,l3,if_neg W,if_pos D,lx u,lx aw]
  rw [C];exact ⟨(bp,X.2),O,Wv 1 (Wt 3 b)⟩
 have al:¬x.op=2:=by simpa using aB
 refine aa (I (bP O O) (ai O (ae ?_)));refine Cc O (λaD=>?_) (λaD=>?_)
 ·have D:x.op=3:=by simpa using aD
  refine Cs ?_;have aX:=w1 x.args t.g;have ah:=aX.hi;have ak:=aX.a8;refine Cr (ad O (I (Yf k6 O) (I (Yd 0 O O O aT) (I (Yf lM O) (I (Yd 0 O O O aT) (I (Yf mh O) (I (Yd 0 O O O h') ?_)))))));refine Lf 3 O (Lf 3 O (Lf 3 O ?_));refine Lw (ι:=SP×SP) [_,_,_] _ Y O IJ O O (λ_=>.tuple #[]) (λq=>(ab 157 108 112 j o ⟨aQ ⟨13,x.pl,0⟩ 2 x.m (e0 x.args t.g),q.1,q.2⟩)) (λ_=>True) [z] (by simp) (λw b=>(IG j o t z ke x.m x.pl x.args r.s1.1 r.s1.2 w (λs _=>V s) l A.parts.1 (by omega) (by omega) b).mono λe w' ⟨q,l,p⟩=>⟨q,l,trivial,p⟩) ?_;intro Z _;refine ae (Cr (ad O (I (Yb fY gT O O) ?_)));refine Lb Y O hx O O O O λbr=>?_;refine WL.iV (rd:=gv) (f:=bG.cells) (k:=3) (m:=1) 0 [⟨17,0,0⟩] O O bG.aj (λ_ _ _ _ h=>h) (by simp) (by decide) λaZ bs=>?_;refine Lw (ι:=SP) [_,_,_] _ Y O jF O O (λ_=>.tuple #[]) (λq=>(ab 157 108 112 j o ⟨bt [⟨17,0,0⟩] (⟨(aQ ⟨13,x.pl,0⟩ 2 x.m (e0 x.args t.g)),Z.1,Z.2⟩:b5).g,q,(⟨(aQ ⟨13,x.pl,0⟩ 2 x.m (e0 x.args t.g)),Z.1,Z.2⟩:b5).fa⟩)) (λ_=>True) [aZ] (by simp) (λw b=>(jG j o (⟨(aQ ⟨13,x.pl,0⟩ 2 x.m (e0 x.args t.g)),Z.1,Z.2⟩:b5) aZ (some ⟨br,0,none⟩) 1 [⟨17,0,0⟩] w bs (by show ((aQ ⟨13,x.pl,0⟩ 2 x.m (e0 x.args t.g))).code.length+[⟨17,0,0⟩].length<=_; (try simp only [cJ]); omega) b).mono λe w' ⟨q,l,p⟩=>⟨q,l,trivial,p⟩) ?_;intro bu _;refine Ln (Eb ?_);refine E0 O λw' b=>?_
  have C:jt x t.g=bt [⟨17,0,0⟩] (aQ ⟨13,x.pl,0⟩ 2 x.m (e0 x.args t.g)):=by
    rw [pc,l3,if_neg W,if_neg al,if_pos D,uo]
  rw [C];exact ⟨(bu,Z.2),O,Wv 1 (Wt 3 b)⟩
 have au:¬x.op=3:=by simpa using aD
 refine aa (I (bP O O) (ai O (ae ?_)));refine Cc O (λaE=>?_) (λaE=>?_)
 ·have D:x.op=4:=by simpa using aE
  refine Cs ?_;have av:=A.parts.2.2.2.1 (by omega);obtain ⟨y,u⟩:∃y,x.args[0]? = some y:=⟨_,List.getElem?_eq_getElem (by omega)⟩;obtain ⟨an,ao,G,B⟩:=l.bJ 0 y u
  obtain ⟨s,rfl⟩:∃s,ke=s+1:=by
    cases ke with
    | zero=>exact B.elim
    | succ s=>exact ⟨s,rfl⟩
  obtain ⟨H,J,K,L⟩:=B;have E:=V s;have M:=A.parts.1.at_ u;have ap:=r0 u;have v:=bj y t.g;have ah:=v.hi;have ak:=v.a8;have ar:=v.lo;have ac:=b_ x.body (aQ ⟨12,0,0⟩ 1 0 (aF y t.g));have aG:=ac.hi;have aH:=ac.a8;have aI:=ac.lo
  try simp only [cJ] at aG aH aI
  have aJ:=b_ x.other (cS ((aF y t.g).code.length) (aQ ⟨11,0,0⟩ 1 0 (ct x.body (aQ ⟨12,0,0⟩ 1 0 (aF y t.g)))));have bv:=aJ.hi;have bw:=aJ.a8;have bx:=aJ.lo
  try simp only [cJ] at bv bw bx
  refine Cr (ad O (I (Yf mh O) (I (Yd 0 O O O h') (I (Yo (i:=0) aY O O G (by omega)) (I (dj 0 jE O O O (K)) (Lf 3 O (Lf 3 O ?_)))))));refine Lf 3 O ?_;refine Lw (ι:=SP×SP) [_,_,_] _ Y O mU O O (λ_=>.tuple #[]) (λq=>(ab 157 108 112 j o ⟨aF y t.g,q.1,q.2⟩)) (λ_=>True) [z] (by simp) (λw b=>(E y H J t w L M (by show (t.g).code.length+8*dS y<=_; (try simp only [cJ]); omega) (by show (t.g).fix.length+8*dS y<=_; (try simp only [cJ]); omega) b).mono λe w' ⟨q,l,p⟩=>⟨q,l,trivial,p⟩) ?_;intro a0 _;refine ae (aa (ad O ?_));refine Lw (ι:=(SP×SP)×Nat×Nat) [_,_,_] _ Y O r1 O O (λq=>.func (.func 254) #[] #[.pointer (some ⟨q.2.1,0,none⟩),.pointer (some ⟨q.2.2,0,none⟩)]) (λq=>(ab 157 108 112 j o ⟨aQ ⟨12,0,0⟩ 1 0 (aF y t.g),q.1.1,q.1.2⟩)++[aq q.2.1 (.cells #[.pointer (some ⟨j,0,none⟩)] 155 (0,0)),aq q.2.2 (.cells #[.int .i64 ((aF y t.g).code.length:Int)] 3 (0,0))]) (λ_=>True) [] (by simp) (λw b=>(rZ j o (⟨(aF y t.g),a0.1,a0.2⟩:b5) 12 w (by show ((aF y t.g)).code.length+1<=_; (try simp only [cJ]); omega) (by show ((aF y t.g)).fix.length+1<=_; (try simp only [cJ]); omega) b).mono λe w' ⟨q,l,p⟩=>⟨q,l,trivial,p⟩) ?_;intro Q _;refine ai O (ae (aa (ad O (I (Yf rV O) (I (Yd 5 O O O ir) ?_)))));refine Lw (ι:=SP×SP) [_,_,_] _ Y O x4 O O (λ_=>.tuple #[]) (λq=>(ab 157 108 112 j o ⟨ct x.body (aQ ⟨12,0,0⟩ 1 0 (aF y t.g)),q.1,q.2⟩)) (λ_=>True) [z] (by simp) (λw b=>(ax x.body r.s2.1 r.s2.2 (⟨(aQ ⟨12,0,0⟩ 1 0 (aF y t.g)),Q.1.1,Q.1.2⟩:b5) w p (A.parts.2.1 (by omega)) (by show ((aQ ⟨12,0,0⟩ 1 0 (aF y t.g))).code.length+8*eF x.body<=_; (try simp only [cJ]); omega) (by show ((aQ ⟨12,0,0⟩ 1 0 (aF y t.g))).fix.length+8*eF x.body<=_; (try simp only [cJ]); omega) b).mono λe w' ⟨q,l,p⟩=>⟨q,l,trivial,p⟩) ?_;intro R _;refine ae (Cs (aa (I (Yf pO O) (I (Yd 5 O O O ir) (I (Yn gS O) (I (dc O O) (ae ?_)))))));refine Cc O (λaK=>?_) (λaK=>?_)
  ·have aL:0<x.other.length:=by simpa using aK
   refine aa (ad O ?_);refine Lw (ι:=(SP×SP)×Nat×Nat) [_,_,_] _ Y O r1 O O (λq=>.func (.func 254) #[] #[.pointer (some ⟨q.2.1,0,none⟩),.pointer (some ⟨q.2.2,0,none⟩)]) (λq=>(ab 157 108 112 j o ⟨aQ ⟨11,0,0⟩ 1 0 (ct x.body (aQ ⟨12,0,0⟩ 1 0 (aF y t.g))),q.1.1,q.1.2⟩)++[aq q.2.1 (.cells #[.pointer (some ⟨j,0,none⟩)] 155 (0,0)),aq q.2.2 (.cells #[.int .i64 ((ct x.body (aQ ⟨12,0,0⟩ 1 0 (aF y t.g))).code.length:Int)] 3 (0,0))]) (λ_=>True) [] (by simp) (λw b=>(rZ j o (⟨(ct x.body (aQ ⟨12,0,0⟩ 1 0 (aF y t.g))),R.1,R.2⟩:b5) 11 w (by show ((ct x.body (aQ ⟨12,0,0⟩ 1 0 (aF y t.g)))).code.length+1<=_; (try simp only [cJ]); omega) (by show ((ct x.body (aQ ⟨12,0,0⟩ 1 0 (aF y t.g)))).fix.length+1<=_; (try simp only [cJ]); omega) b).mono λe w' ⟨q,l,p⟩=>⟨q,l,trivial,p⟩) ?_;intro F _;refine ai O (ae (aa (ad O (Lf 6 O (Lf 6 O (Lf 4 O (Lf 4 O (Lf 4 O ?_))))))));refine WL.qi (ι:=Unit) [_,_,_,_,_] _ Y O qK O O O (λ_=>.tuple #[]) (λ_=>(ab 157 108 112 j o ⟨cS ((aF y t.g).code.length) (aQ ⟨11,0,0⟩ 1 0 (ct x.body (aQ ⟨12,0,0⟩ 1 0 (aF y t.g)))),(⟨(aQ ⟨11,0,0⟩ 1 0 (ct x.body (aQ ⟨12,0,0⟩ 1 0 (aF y t.g)))),F.1.1,F.1.2⟩:b5).ca,(⟨(aQ ⟨11,0,0⟩ 1 0 (ct x.body (aQ ⟨12,0,0⟩ 1 0 (aF y t.g)))),F.1.1,F.1.2⟩:b5).fa⟩)++[aq Q.2.1 (.cells #[.pointer (some ⟨j,0,none⟩)] 155 (0,0)),aq Q.2.2 (.cells #[.int .i64 ((aF y t.g).code.length:Int)] 3 (0,0))]) (λ_=>True) [] (by simp) (λw b=>(qJ j o (⟨(aQ ⟨11,0,0⟩ 1 0 (ct x.body (aQ ⟨12,0,0⟩ 1 0 (aF y t.g)))),F.1.1,F.1.2⟩:b5) Q.2.1 Q.2.2 ((aF y t.g).code.length) _ w (List.getElem?_eq_getElem (by show (aF y t.g).code.length<((aQ ⟨11,0,0⟩ 1 0 (ct x.body (aQ ⟨12,0,0⟩ 1 0 (aF y t.g))))).code.length; (try simp only [cJ]); omega)) b).mono λe w' h=>⟨(),h.1,trivial,h.2⟩) ?_;intro _ _;refine ae (aa (ad O (I (Yf pO O) (I (Yd 7 O O O ir) ?_))));refine Lw (ι:=SP×SP) [_,_,_] _ Y O x4 O O (λ_=>.tuple #[]) (λq=>(ab 157 108 112 j o ⟨ct x.other (cS ((aF y t.g).code.length) (aQ ⟨11,0,0⟩ 1 0 (ct x.body (aQ ⟨12,0,0⟩ 1 0 (aF y t.g))))),q.1,q.2⟩)) (λ_=>True) [z] (by simp) (λw b=>(ax x.other r.s3.1 r.s3.2 (⟨(cS ((aF y t.g).code.length) (aQ ⟨11,0,0⟩ 1 0 (ct x.body (aQ ⟨12,0,0⟩ 1 0 (aF y t.g))))),F.1.1,F.1.2⟩:b5) w am A.parts.2.2.1 (by show ((cS ((aF y t.g).code.length) (aQ ⟨11,0,0⟩ 1 0 (ct x.body (aQ ⟨12,0,0⟩ 1 0 (aF y t.g)))))).code.length+8*eF x.other<=_; (try simp only [cJ]); omega) (by show ((cS ((aF y t.g).code.length) (aQ ⟨11,0,0⟩ 1 0 (ct x.body (aQ ⟨12,0,0⟩ 1 0 (aF y t.g)))))).fix.length+8*eF x.other<=_; (try simp only [cJ]); omega) b).mono λe w' ⟨q,l,p⟩=>⟨q,l,trivial,p⟩) ?_;intro T _;refine ae (Cr (ad O (ai O (ae (Cr (ad O (Lf 6 O (Lf 6 O (Lf 4 O ?_)))))))));refine Lf 4 O (Lf 4 O ?_)
   refine WL.qi (ι:=Unit) [_,_,_,_,_] _ Y O qK O O O (λ_=>.tuple #[]) (λ_=>(ab 157 108 112 j o ⟨cS ((ct x.body (aQ ⟨12,0,0⟩ 1 0 (aF y t.g))).code.length) (ct x.other (cS ((aF y t.g).code.length) (aQ ⟨11,0,0⟩ 1 0 (ct x.body (aQ ⟨12,0,0⟩ 1 0 (aF y t.g)))))),(⟨(ct x.other (cS ((aF y t.g).code.length) (aQ ⟨11,0,0⟩ 1 0 (ct x.body (aQ ⟨12,0,0⟩ 1 0 (aF y t.g)))))),T.1,T.2⟩:b5).ca,(⟨(ct x.other (cS ((aF y t.g).code.length) (aQ ⟨11,0,0⟩ 1 0 (ct x.body (aQ ⟨12,0,0⟩ 1 0 (aF y t.g)))))),T.1,T.2⟩:b5).fa⟩)++[aq F.2.1 (.cells #[.pointer (some ⟨j,0,none⟩)] 155 (0,0)),aq F.2.2 (.cells #[.int .i64 ((ct x.body (aQ ⟨12,0,0⟩ 1 0 (aF y t.g))).code.length:Int)] 3 (0,0))]) (λ_=>True) [] (by simp) (λw b=>(qJ j o (⟨(ct x.other (cS ((aF y t.g).code.length) (aQ ⟨11,0,0⟩ 1 0 (ct x.body (aQ ⟨12,0,0⟩ 1 0 (aF y t.g)))))),T.1,T.2⟩:b5) F.2.1 F.2.2 ((ct x.body (aQ ⟨12,0,0⟩ 1 0 (aF y t.g))).code.length) _ w (List.getElem?_eq_getElem (by show (ct x.body (aQ ⟨12,0,0⟩ 1 0 (aF y t.g))).code.length<((ct x.other (cS ((aF y t.g).code.length) (aQ ⟨11,0,0⟩ 1 0 (ct x.body (aQ ⟨12,0,0⟩ 1 0 (aF y t.g))))))).code.length; (try simp only [cJ]); omega)) b).mono λe w' h=>⟨(),h.1,trivial,h.2⟩) ?_;intro _ _;refine Ln (Eb ?_);refine E0 O λw' b=>?_
   have C:jt x t.g=cS ((ct x.body (aQ ⟨12,0,0⟩ 1 0 (aF y t.g))).code.length) (ct x.other (cS ((aF y t.g).code.length) (aQ ⟨11,0,0⟩ 1 0 (ct x.body (aQ ⟨12,0,0⟩ 1 0 (aF y t.g)))))):=by
     rw [pc,l3,if_neg W,if_neg al,if_neg au,if_pos D,lx u];unfold sK;rw [if_pos aL]
   rw [C];exact ⟨(T.1,T.2),O,Wt 3 b⟩
  have aL:¬0<x.other.length:=by simpa using aK
  refine bf (Cr (ad O ?_));refine WL.qi (ι:=Unit) [_,_,_,_,_] _ Y O qK O O O (λ_=>.tuple #[]) (λ_=>(ab 157 108 112 j o ⟨cS ((aF y t.g).code.length) (ct x.body (aQ ⟨12,0,0⟩ 1 0 (aF y t.g))),(⟨(ct x.body (aQ ⟨12,0,0⟩ 1 0 (aF y t.g))),R.1,R.2⟩:b5).ca,(⟨(ct x.body (aQ ⟨12,0,0⟩ 1 0 (aF y t.g))),R.1,R.2⟩:b5).fa⟩)++[aq Q.2.1 (.cells #[.pointer (some ⟨j,0,none⟩)] 155 (0,0)),aq Q.2.2 (.cells #[.int .i64 ((aF y t.g).code.length:Int)] 3 (0,0))]) (λ_=>True) [] (by simp) (λw b=>(qJ j o (⟨(ct x.body (aQ ⟨12,0,0⟩ 1 0 (aF y t.g))),R.1,R.2⟩:b5) Q.2.1 Q.2.2 ((aF y t.g).code.length) _ w (List.getElem?_eq_getElem (by show (aF y t.g).code.length<((ct x.body (aQ ⟨12,0,0⟩ 1 0 (aF y t.g)))).code.length; (try simp only [cJ]); omega)) b).mono λe w' h=>⟨(),h.1,trivial,h.2⟩) ?_;intro _ _;refine Ln (Eb ?_);refine E0 O λw' b=>?_
  have C:jt x t.g=cS ((aF y t.g).code.length) (ct x.body (aQ ⟨12,0,0⟩ 1 0 (aF y t.g))):=by
    rw [pc,l3,if_neg W,if_neg al,if_neg au,if_pos D,lx u];unfold sK;rw [if_neg aL]
  rw [C];exact ⟨(R.1,R.2),O,Wt 3 b⟩
 have aM:¬x.op=4:=by simpa using aE
 refine aa (I (bP O O) (ai O (ae ?_)));refine Cc O (λaN=>?_) (λaN=>?_)
 ·have D:x.op=5:=by simpa using aN
  refine aa (ad O (I (cy O) (I (Yf bq O) (I (Yf kJ O) (I (Yd 1 O O O h_) (I (Yn iN O) (ai O ?_)))))));refine ae (Cs ?_);have av:=A.parts.2.2.2.1 (by omega);obtain ⟨y,u⟩:∃y,x.args[0]? = some y:=⟨_,List.getElem?_eq_getElem (by omega)⟩;obtain ⟨an,ao,G,B⟩:=l.bJ 0 y u
  obtain ⟨s,rfl⟩:∃s,ke=s+1:=by
    cases ke with
    | zero=>exact B.elim
    | succ s=>exact ⟨s,rfl⟩
  obtain ⟨H,J,K,L⟩:=B;have E:=V s;have M:=A.parts.1.at_ u;have ap:=r0 u;have v:=bj y t.g;have ah:=v.hi;have ak:=v.a8;have ar:=v.lo;have ac:=b_ x.body (bt [⟨16,0,0⟩] (aQ ⟨12,0,0⟩ 1 0 (aF y t.g)));have aG:=ac.hi;have aH:=ac.a8;have aI:=ac.lo
  try simp only [cJ] at aG aH aI
  refine Cr (ad O (I (Yf mh O) (I (Yd 0 O O O h') (I (Yo (i:=0) aY O O G (by omega)) (I (dj 0 jE O O O (K)) (Lf 3 O (Lf 3 O ?_)))))));refine Lf 3 O ?_;refine Lw (ι:=SP×SP) [_,_,_] _ Y O mU O O (λ_=>.tuple #[]) (λq=>(ab 157 108 112 j o ⟨aF y t.g,q.1,q.2⟩)) (λ_=>True) [z] (by simp) (λw b=>(E y H J t w L M (by show (t.g).code.length+8*dS y<=_; (try simp only [cJ]); omega) (by show (t.g).fix.length+8*dS y<=_; (try simp only [cJ]); omega) b).mono λe w' ⟨q,l,p⟩=>⟨q,l,trivial,p⟩) ?_;intro a1 _;refine ae (aa (ad O ?_));refine Lw (ι:=(SP×SP)×Nat×Nat) [_,_,_] _ Y O r1 O O (λq=>.func (.func 254) #[] #[.pointer (some ⟨q.2.1,0,none⟩),.pointer (some ⟨q.2.2,0,none⟩)]) (λq=>(ab 157 108 112 j o ⟨aQ ⟨12,0,0⟩ 1 0 (aF y t.g),q.1.1,q.1.2⟩)++[aq q.2.1 (.cells #[.pointer (some ⟨j,0,none⟩)] 155 (0,0)),aq q.2.2 (.cells #[.int .i64 ((aF y t.g).code.length:Int)] 3 (0,0))]) (λ_=>True) [] (by simp) (λw b=>(rZ j o (⟨(aF y t.g),a1.1,a1.2⟩:b5) 12 w (by show ((aF y t.g)).code.length+1<=_; (try simp only [cJ]); omega) (by show ((aF y t.g)).fix.length+1<=_; (try simp only [cJ]); omega) b).mono λe w' ⟨q,l,p⟩=>⟨q,l,trivial,p⟩) ?_;intro P _;refine ai O (ae (aa (ad O (I (Yb fY gT O O) ?_))));refine Lb Y O hx O O O O λbz=>?_;refine WL.iV (rd:=gv) (f:=bG.cells) (k:=3) (m:=1) 0 [⟨16,0,0⟩] O O bG.aj (λ_ _ _ _ h=>h) (by simp) (by decide) λa2 bA=>?_;refine Lw (ι:=SP) [_,_,_] _ Y O jF O O (λ_=>.tuple #[]) (λq=>(ab 157 108 112 j o ⟨bt [⟨16,0,0⟩] (⟨(aQ ⟨12,0,0⟩ 1 0 (aF y t.g)),P.1.1,P.1.2⟩:b5).g,q,(⟨(aQ ⟨12,0,0⟩ 1 0 (aF y t.g)),P.1.1,P.1.2⟩:b5).fa⟩)) (λ_=>True) [a2] (by simp) (λw b=>(jG j o (⟨(aQ ⟨12,0,0⟩ 1 0 (aF y t.g)),P.1.1,P.1.2⟩:b5) a2 (some ⟨bz,0,none⟩) 1 [⟨16,0,0⟩] w bA (by show ((aQ ⟨12,0,0⟩ 1 0 (aF y t.g))).code.length+[⟨16,0,0⟩].length<=_; (try simp only [cJ]); omega) b).mono λe w' ⟨q,l,p⟩=>⟨q,l,trivial,p⟩) ?_;intro bB _;refine ae (aa (ad O (I (Yf rV O) (I (Yd 5 O O O ir) ?_))));refine Lw (ι:=SP×SP) [_,_,_] _ Y O x4 O O (λ_=>.tuple #[]) (λq=>(ab 157 108 112 j o ⟨ct x.body (bt [⟨16,0,0⟩] (aQ ⟨12,0,0⟩ 1 0 (aF y t.g))),q.1,q.2⟩)) (λ_=>True) [z] (by simp) (λw b=>(ax x.body r.s2.1 r.s2.2 (⟨(bt [⟨16,0,0⟩] (aQ ⟨12,0,0⟩ 1 0 (aF y t.g))),bB,P.1.2⟩:b5) w p (A.parts.2.1 (by omega)) (by show ((bt [⟨16,0,0⟩] (aQ ⟨12,0,0⟩ 1 0 (aF y t.g)))).code.length+8*eF x.body<=_; (try simp only [cJ]); omega) (by show ((bt [⟨16,0,0⟩] (aQ ⟨12,0,0⟩ 1 0 (aF y t.g)))).fix.length+8*eF x.body<=_; (try simp only [cJ]); omega) b).mono λe w' ⟨q,l,p⟩=>⟨q,l,trivial,p⟩) ?_;intro a3 _;refine ae (aa (ad O (ad O (I (Yb fY gT O O) ?_))));refine Lw (ι:=SP×SP) [_,_,_] _ Y O tq O O (λ_=>.int .i64 ((ct x.body (bt [⟨16,0,0⟩] (aQ ⟨12,0,0⟩ 1 0 (aF y t.g)))).code.length:Int)) (λq=>(ab 157 108 112 j o ⟨aQ ⟨11,(t.g.code.length:Int),0⟩ 1 0 (ct x.body (bt [⟨16,0,0⟩] (aQ ⟨12,0,0⟩ 1 0 (aF y t.g)))),q.1,q.2⟩)) (λ_=>True) [] (by simp) (λw b=>(tr j o (⟨(ct x.body (bt [⟨16,0,0⟩] (aQ ⟨12,0,0⟩ 1 0 (aF y t.g)))),a3.1,a3.2⟩:b5)  ⟨11,(t.g.code.length:Int),0⟩ 1 0 w  (by show ((ct x.body (bt [⟨16,0,0⟩] (aQ ⟨12,0,0⟩ 1 0 (aF y t.g))))).code.length+1<=_; (try simp only [cJ]); omega) (by show ((ct x.body (bt [⟨16,0,0⟩] (aQ ⟨12,0,0⟩ 1 0 (aF y t.g))))).fix.length+1<=_; (try simp only [cJ]); omega) b).mono λe w' ⟨q,l,p⟩=>⟨q,l,trivial,p⟩) ?_
  intro U _;refine ae (Cr (ad O ?_));refine WL.qi (ι:=Unit) [_,_,_,_,_] _ Y O qK O O O (λ_=>.tuple #[]) (λ_=>(ab 157 108 112 j o ⟨cS ((aF y t.g).code.length) (aQ ⟨11,(t.g.code.length:Int),0⟩ 1 0 (ct x.body (bt [⟨16,0,0⟩] (aQ ⟨12,0,0⟩ 1 0 (aF y t.g))))),(⟨(aQ ⟨11,(t.g.code.length:Int),0⟩ 1 0 (ct x.body (bt [⟨16,0,0⟩] (aQ ⟨12,0,0⟩ 1 0 (aF y t.g))))),U.1,U.2⟩:b5).ca,(⟨(aQ ⟨11,(t.g.code.length:Int),0⟩ 1 0 (ct x.body (bt [⟨16,0,0⟩] (aQ ⟨12,0,0⟩ 1 0 (aF y t.g))))),U.1,U.2⟩:b5).fa⟩)++[aq P.2.1 (.cells #[.pointer (some ⟨j,0,none⟩)] 155 (0,0)),aq P.2.2 (.cells #[.int .i64 ((aF y t.g).code.length:Int)] 3 (0,0))]) (λ_=>True) [] (by simp) (λw b=>(qJ j o (⟨(aQ ⟨11,(t.g.code.length:Int),0⟩ 1 0 (ct x.body (bt [⟨16,0,0⟩] (aQ ⟨12,0,0⟩ 1 0 (aF y t.g))))),U.1,U.2⟩:b5) P.2.1 P.2.2 ((aF y t.g).code.length) _ w (List.getElem?_eq_getElem (by show (aF y t.g).code.length<((aQ ⟨11,(t.g.code.length:Int),0⟩ 1 0 (ct x.body (bt [⟨16,0,0⟩] (aQ ⟨12,0,0⟩ 1 0 (aF y t.g)))))).code.length; (try simp only [cJ]); omega)) b).mono λe w' h=>⟨(),h.1,trivial,h.2⟩) ?_;intro _ _;refine Ln (Eb ?_);refine E0 O λw' b=>?_
  have C:jt x t.g=cS ((aF y t.g).code.length) (aQ ⟨11,(t.g.code.length:Int),0⟩ 1 0 (ct x.body (bt [⟨16,0,0⟩] (aQ ⟨12,0,0⟩ 1 0 (aF y t.g))))):=by
    rw [pc,l3,if_neg W,if_neg al,if_neg au,if_neg aM,if_pos D,lx u]
    rfl
  rw [C];exact ⟨(U.1,U.2),O,Wv 1 (Wt 3 b)⟩
 have a4:¬x.op=5:=by simpa using aN
 refine aa (I (bP O O) (ai O (ae ?_)));refine Cc O (λaO=>?_) (λaO=>?_)
 ·have D:x.op=6:=by simpa using aO
  refine Cs ?_;have av:=A.parts.2.2.2.1 (by omega);obtain ⟨y,u⟩:∃y,x.args[0]? = some y:=⟨_,List.getElem?_eq_getElem (by omega)⟩;obtain ⟨an,ao,G,B⟩:=l.bJ 0 y u
  obtain ⟨s,rfl⟩:∃s,ke=s+1:=by
    cases ke with
    | zero=>exact B.elim
    | succ s=>exact ⟨s,rfl⟩
  obtain ⟨H,J,K,L⟩:=B;have E:=V s;have M:=A.parts.1.at_ u;have ap:=r0 u;have v:=bj y t.g;have ah:=v.hi;have ak:=v.a8;have ar:=v.lo;refine Cr (ad O (I (Yf mh O) (I (Yd 0 O O O h') (I (Yo (i:=0) aY O O G (by omega)) (I (dj 0 jE O O O (K)) (Lf 3 O (Lf 3 O ?_)))))));refine Lf 3 O ?_;refine Lw (ι:=SP×SP) [_,_,_] _ Y O mU O O (λ_=>.tuple #[]) (λq=>(ab 157 108 112 j o ⟨aF y t.g,q.1,q.2⟩)) (λ_=>True) [z] (by simp) (λw b=>(E y H J t w L M (by show (t.g).code.length+8*dS y<=_; (try simp only [cJ]); omega) (by show (t.g).fix.length+8*dS y<=_; (try simp only [cJ]); omega) b).mono λe w' ⟨q,l,p⟩=>⟨q,l,trivial,p⟩) ?_;intro af _;refine ae (Cr (ad O (I (Yb fY gT O O) ?_)));refine Lb Y O hx O O O O λbC=>?_;refine WL.iV (rd:=gv) (f:=bG.cells) (k:=3) (m:=1) 0 [⟨15,0,0⟩] O O bG.aj (λ_ _ _ _ h=>h) (by simp) (by decide) λa5 bD=>?_;refine Lw (ι:=SP) [_,_,_] _ Y O jF O O (λ_=>.tuple #[]) (λq=>(ab 157 108 112 j o ⟨bt [⟨15,0,0⟩] (⟨(aF y t.g),af.1,af.2⟩:b5).g,q,(⟨(aF y t.g),af.1,af.2⟩:b5).fa⟩)) (λ_=>True) [a5] (by simp) (λw b=>(jG j o (⟨(aF y t.g),af.1,af.2⟩:b5) a5 (some ⟨bC,0,none⟩) 1 [⟨15,0,0⟩] w bD (by show ((aF y t.g)).code.length+[⟨15,0,0⟩].length<=_; (try simp only [cJ]); omega) b).mono λe w' ⟨q,l,p⟩=>⟨q,l,trivial,p⟩) ?_;intro bE _;refine Ln (Eb ?_);refine E0 O λw' b=>?_
  have C:jt x t.g=bt [⟨15,0,0⟩] (aF y t.g):=by
    rw [pc,l3,if_neg W,if_neg al,if_neg au,if_neg aM,if_neg a4,if_pos D,lx u]
  rw [C];exact ⟨(bE,af.2),O,Wv 1 (Wt 3 b)⟩
 have bF:¬x.op=6:=by simpa using aO
 refine aa (I (bP O O) (ai O (ae ?_)));refine Cc O (λaP=>?_) (λaP=>?_)
 ·have D:x.op=7:=by simpa using aP
  refine Cs ?_;have av:=A.parts.2.2.2.1 (by omega);obtain ⟨y,u⟩:∃y,x.args[0]? = some y:=⟨_,List.getElem?_eq_getElem (by omega)⟩;obtain ⟨an,ao,G,B⟩:=l.bJ 0 y u
  obtain ⟨s,rfl⟩:∃s,ke=s+1:=by
    cases ke with
    | zero=>exact B.elim
    | succ s=>exact ⟨s,rfl⟩
  obtain ⟨H,J,K,L⟩:=B;have E:=V s;have M:=A.parts.1.at_ u;have ap:=r0 u;have v:=bj y t.g;have ah:=v.hi;have ak:=v.a8;have ar:=v.lo;refine Cr (ad O (I (Yf mh O) (I (Yd 0 O O O h') (I (Yo (i:=0) aY O O G (by omega)) (I (dj 0 jE O O O (K)) (Lf 3 O (Lf 3 O ?_)))))));refine Lf 3 O ?_;refine Lw (ι:=SP×SP) [_,_,_] _ Y O mU O O (λ_=>.tuple #[]) (λq=>(ab 157 108 112 j o ⟨aF y t.g,q.1,q.2⟩)) (λ_=>True) [z] (by simp) (λw b=>(E y H J t w L M (by show (t.g).code.length+8*dS y<=_; (try simp only [cJ]); omega) (by show (t.g).fix.length+8*dS y<=_; (try simp only [cJ]); omega) b).mono λe w' ⟨q,l,p⟩=>⟨q,l,trivial,p⟩) ?_;intro ag _;refine ae (Cr (ad O (I (Yb fY gT O O) ?_)));refine Lb Y O hx O O O O λbH=>?_;refine WL.iV (rd:=gv) (f:=bG.cells) (k:=3) (m:=1) 0 [⟨19,0,0⟩] O O bG.aj (λ_ _ _ _ h=>h) (by simp) (by decide) λa6 bI=>?_;refine Lw (ι:=SP) [_,_,_] _ Y O jF O O (λ_=>.tuple #[]) (λq=>(ab 157 108 112 j o ⟨bt [⟨19,0,0⟩] (⟨(aF y t.g),ag.1,ag.2⟩:b5).g,q,(⟨(aF y t.g),ag.1,ag.2⟩:b5).fa⟩)) (λ_=>True) [a6] (by simp) (λw b=>(jG j o (⟨(aF y t.g),ag.1,ag.2⟩:b5) a6 (some ⟨bH,0,none⟩) 1 [⟨19,0,0⟩] w bI (by show ((aF y t.g)).code.length+[⟨19,0,0⟩].length<=_; (try simp only [cJ]); omega) b).mono λe w' ⟨q,l,p⟩=>⟨q,l,trivial,p⟩) ?_;intro bK _;refine Ln (Eb ?_);refine E0 O λw' b=>?_
  have C:jt x t.g=bt [⟨19,0,0⟩] (aF y t.g):=by
    rw [pc,l3,if_neg W,if_neg al,if_neg au,if_neg aM,if_neg a4,if_neg bF,if_pos D,lx u]
  rw [C];exact ⟨(bK,ag.2),O,Wv 1 (Wt 3 b)⟩
 exfalso
 have bY:¬x.op=7:=by simpa using aP
 have bZ:=A.parts.2.2.2.2.2;omega
theorem SB (b:Nat) (d:gP) (t:b5) (f:View) (ke k:Nat) (l:List cY) (a:Option Addr) (c:Nat) (w:World) (p:Sl (gW ke k) 7 f a c l) (A:n_ l) (K:t.g.code.length+8*eF l<=1000000000000) (L:t.g.fix.length+8*eF l<=1000000000000) (j:Ws w (List.flatMap aS.ids (ab 157 108 112 b d t)) (ab 157 108 112 b d t) [f] w) :
   Calls Tryz.prog 141 #[.pointer (some ⟨b,0,none⟩),.slice a l.length c] w λe w'=>∃q:SP×SP,e = .returned (.tuple #[])/\Ws w (List.flatMap aS.ids (ab 157 108 112 b d t)) (ab 157 108 112 b d ⟨ct l t.g,q.1,q.2⟩) [f] w':=by
 induction k using Nat.strongRecOn generalizing l a c t w
 rename_i k B;have M:=p.cap;have N:=p.max;refine enter Tryz.func141 O 16 O O ?_;refine CE j (aa (ad O (I (Yn gS O) (ad O (ae (Cb ?_))))));refine av (ι:=Nat×SP×SP) (λg=>[(8,.int .i64 (g.1:Int))]) [(0,_),(6,_),(7,_)] (λg=>Ws w (List.flatMap aS.ids (ab 157 108 112 b d t)) (ab 157 108 112 b d ⟨ct (l.take g.1) t.g,g.2.1,g.2.2⟩) [f]) (λg=>g.1<=l.length) (λg=>l.length-g.1) (0,t.ca,t.fa) (Nat.zero_le _) (sc O (sc O (sc O (sc O sn)))) (λ_ h=>h) ?_;intro g P;refine aa (I (b0 O O) (ae (Cs ?_)));refine Cc O (λs=>?_) (λs=>?_)
 ·have v:g.1<l.length:=by simpa using s
  obtain ⟨x,o⟩:∃q,l[g.1]? = some q:=⟨_,List.getElem?_eq_getElem v⟩;obtain ⟨Q,R,C,y⟩:=p.bJ g.1 x o
  obtain ⟨i,rfl⟩:∃i,k=i+1:=by
    cases k with
    | zero=>exact y.elim
    | succ i=>exact ⟨i,rfl⟩
  obtain ⟨r,D,m,n,u⟩:=y;have S:=p9 o;have z:=b_ (l.take g.1) t.g;have T:=z.hi;have U:=z.a8;have E:IK f b d ke i:=λl a c t w m n u F G=>B i (by omega) t l a c w m n u F G;refine bf (Cs (Cb (aa (I (Yo gS O O C v) (I (dj 0 tj O O O (D)) ?_)))));refine Al Y O vf λV=>?_;refine aO 0 Y O O O xK O O O (ae (e9 0 (.cells (o7 x r).toArray 205 (0,0)) O O (Cr (ad O (I (b8 0 O O tj O) (Lf 3 O (Lf 3 O ?_)))))));refine Lf 3 O ?_;refine Lw (ι:=SP×SP) [_,_,_] _ Y O Sz O O (λ_=>.tuple #[]) (λq=>(ab 157 108 112 b d ⟨jt x (ct (l.take g.1) t.g),q.1,q.2⟩)) (λ_=>True) [f] (by simp) (λw j=>(SA b d (⟨ct (l.take g.1) t.g,g.2.1,g.2.2⟩:b5) f ke i x r w E m n u (A.at_ o) (by show (ct (l.take g.1) t.g).code.length+8*l2 x<=_; omega) (by show (ct (l.take g.1) t.g).fix.length+8*l2 x<=_; omega) j).mono λe w' ⟨q,m,n⟩=>⟨q,m,trivial,n⟩) ?_;intro H _;refine Ln (Eb (Et (Cr (I (Yi O O O (by omega)) (ad O (Ln ?_))))));rw [<-Mr o];exact Ea ((g.1+1,H):Nat×SP×SP) (by show _-(g.1+1)<_; omega) (by show g.1+1<=_; omega) (sc O (sc O (sc O (sc O sn)))) (λ_ h=>(Wt 3 h:))
 have J:g.1=l.length:=by simp at s; omega
 rw [J,List.take_length];refine Ce (Ex (Ex (cp ?_)));refine E0 O λw' j=>?_;exact ⟨g.2,O,j⟩
theorem B7 (b:Nat) (d:gP) (t:b5) (p:View) (ke k:Nat) (params locals:Int) (l:List cY) (a:Option Addr) (c:Nat) (w:World) (v:Sl (gW ke k) 7 p a c l) (x:n_ l) (K:t.g.code.length+8*(1+eF l)<=1000000000000) (L:t.g.fix.length+8*(1+eF l)<=1000000000000) (i:Ws w (List.flatMap aS.ids (ab 157 108 112 b d t)) (ab 157 108 112 b d t) [p] w) :
   Calls Tryz.prog 79 #[.pointer (some ⟨b,0,none⟩),.agg (sw ⟨params,locals,l⟩ (a,c)).toArray] w λe w'=>∃q:SP×SP,e = .returned (.int .i64 (t.g.code.length:Int))/\Ws w (List.flatMap aS.ids (ab 157 108 112 b d t)) (ab 157 108 112 b d ⟨hK params locals l t.g,q.1,q.2⟩) [p] w':=by
 have r:=b_ l (bt [⟨14,params,locals⟩] t.g);have y:=r.hi;have z:=r.a8;simp only [cJ] at y z;refine enter Tryz.func79 O 30 O O ?_;refine CE i (aa ?_);refine WL.box Y O O λM=>?_;refine ai O (ae (aa (ad O (I (cy O) (I (Yf bq O) (I (Yf kJ O) (I (Yd 1 O O O h_) (I (Yn iN O) ?_))))))));refine ai O (ae (aa (ad O (I (Yf dd O) (I (Yd 0 O O O aT) (I (Yf tn O) (I (Yd 0 O O O aT) (I (Yb fY gT O O) ?_))))))));refine Lb Y O hx O O O O λA=>?_;refine WL.iV (rd:=gv) (f:=bG.cells) (k:=3) (m:=1) 0 [⟨14,params,locals⟩] O O bG.aj (λ_ _ _ _ h=>h) (by simp) (by decide) λs B=>?_;refine Lf 3 O (Lf 3 O (Lf 3 O ?_));refine Lw (ι:=SP) [_,_,_] _ Y O jF O O (λ_=>.tuple #[]) (λq=>(ab 157 108 112 b d ⟨bt [⟨14,params,locals⟩] t.g,q,t.fa⟩)) (λ_=>True) [s] (by simp) (λw i=>(jG b d t s (some ⟨A,0,none⟩) 1 [⟨14,params,locals⟩] w B (by show (t.g).code.length+[⟨14,params,locals⟩].length<=_; (try simp only [cJ]); omega) i).mono λe w' ⟨q,j,n⟩=>⟨q,j,trivial,n⟩) ?_;intro C _;refine ae (aa (ad O (I (Yf xR O) (I (Yd 3 O O O ir) ?_))));refine Lw (ι:=SP×SP) [_,_,_] _ Y O x4 O O (λ_=>.tuple #[]) (λq=>(ab 157 108 112 b d ⟨ct l (bt [⟨14,params,locals⟩] t.g),q.1,q.2⟩)) (λ_=>True) [p] (by simp) (λw i=>((λl a c t w j n D E F=>SB b d t p ke k l a c w j n D E F) l a c (⟨(bt [⟨14,params,locals⟩] t.g),C,t.fa⟩:b5) w v x (by show ((bt [⟨14,params,locals⟩] t.g)).code.length+8*eF l<=_; (try simp only [cJ]); omega) (by show ((bt [⟨14,params,locals⟩] t.g)).fix.length+8*eF l<=_; (try simp only [cJ]); omega) i).mono λe w' ⟨q,j,n⟩=>⟨q,j,trivial,n⟩) ?_;intro o _;refine ae (aa (ad O (I (Yb fY gT O O) (I (Yb fY gT O O) ?_))));refine Lb Y O hx O O O O λG=>?_;refine WL.iV (rd:=gv) (f:=bG.cells) (k:=3) (m:=2) 0 [⟨1,0,0⟩,⟨15,0,0⟩] O O bG.aj (λ_ _ _ _ h=>h) (by simp) (by decide) λu H=>?_;refine Lw (ι:=SP) [_,_,_] _ Y O jF O O (λ_=>.tuple #[]) (λq=>(ab 157 108 112 b d ⟨bt [⟨1,0,0⟩,⟨15,0,0⟩] (⟨(ct l (bt [⟨14,params,locals⟩] t.g)),o.1,o.2⟩:b5).g,q,(⟨(ct l (bt [⟨14,params,locals⟩] t.g)),o.1,o.2⟩:b5).fa⟩)) (λ_=>True) [u] (by simp) (λw i=>(jG b d (⟨(ct l (bt [⟨14,params,locals⟩] t.g)),o.1,o.2⟩:b5) u (some ⟨G,0,none⟩) 2 [⟨1,0,0⟩,⟨15,0,0⟩] w H (by show ((ct l (bt [⟨14,params,locals⟩] t.g))).code.length+[⟨1,0,0⟩,⟨15,0,0⟩].length<=_; (try simp only [cJ]); omega) i).mono λe w' ⟨q,j,n⟩=>⟨q,j,trivial,n⟩) ?_;intro J _;refine ae (aa (ad O (ai O (ae (aX ?_)))));refine R1 O O λw' i=>?_;exact ⟨(J,o.2),O,Wv 2 (Wt 3 i)⟩
def vt:XK:=(jL,(none,0))
theorem SC {a:View} {b n:Nat} (h:Sl vl 3 a (some ⟨b,0,none⟩) n (List.replicate n vt)) {c:View} (hv:bw a c):Sl l0 3 c (some ⟨b,0,none⟩) n (List.replicate n jL):=by
 have d:=B3 h hv λe f=>by
   have g:e=vt:=List.eq_of_mem_replicate f;subst g; exact Sl.nil
 rw [List.map_replicate] at d;exact d
theorem SD (a:View) (ke k:Nat) (u:bK) (r:ih) (w:World) (i:Le a w) (c:hI ke k a r u) (o:u.ak.length<=1048576) :
   Calls Tryz.prog 78 #[.agg (eE u r).toArray] w λe w'=>e = .returned (.bool (nr u))/\Ext w w':=by
 have p:=c.ak.cap;have s:=c.ak.max;refine enter Tryz.func78 O 9 O O ?_;refine CE (Vs:=[a]) (Ws.init (by simp [i])) (aa ?_);refine WL.box Y O O λt=>?_;refine ai O (ae (Cs ?_));refine CU (λ_=>true) [] [] (.q true 0 (.q false 1 (.q true 2 (.q false 3 (.e 4 (.e 5 (.q false 6 .nil) .stop) .stop))))) mixed (by kernel_rfl) (λ_ _ _ d _ _ h=>by cases d<;>exact h) ?_;refine U0 O (λ_ h=>h) (b8 0 O O gh O) (U0 O (λ_ h=>h) (Yf qH O) (U0 O (λ_ h=>h) (Yd 0 O O O eU) (U0 O (λ_ h=>h) (Yn di O) ?_)));refine Ue O (λ_ h=>h) ?_ WU.stop;refine WL.make Y O vn O O (by omega) (by omega) (by omega) (by omega) λj=>?_;refine cD 0 (.cells ((List.replicate u.ak.length vt).flatMap XK.cells).toArray 126 (0,0)) O (by rw [<-MA (f:=XK.cells) (x:=vt) (zs:=(Value.agg #[.bool false,.int .i64 0,.slice none 0 0]).cells) O (by decide)]; rfl) ?_;refine WL.iV (rd:=vl) (f:=XK.cells) (k:=3) (m:=u.ak.length) 0 (List.replicate u.ak.length vt) O O XK.aj (λ_ _ _ _ h=>h) (by simp) (by omega) λl n=>?_;refine Ln (Eu ?_);refine Ue O (λ_ h=>(Wv 1 h:)) ?_ WU.stop
 refine Lp Y O IC O (λw b=>by
   have g:=Iy a (hv w) ke k u r (List.replicate u.ak.length jL) (some ⟨j,0,none⟩) u.ak.length w (b.vs a (by simp)) (iR w) c (SC n (bB (b.vs l (by simp)))) (by simp; omega);rw [List.length_replicate] at g
   exact g) ?_
 refine Ln (Eu (U0 O (λ_ h=>(Wv 1 h:)) (Ya O) ?_));refine WU.nil (λ_ h=>(Wv 1 h:)) ?_;refine WS.nil ?_;refine Et (aX ?_);refine R1 O O λw' b=>?_;exact ⟨O,b.fr⟩
theorem nO:zeroOf Tryz.prog 56=some (.agg #[st [],.slice none 0 0,.int .i64 0,.slice none 0 0,.slice none 0 0,.slice none 0 0,.int .i64 0]):=by kernel_rfl
theorem SE:Enters Tryz.prog 78:=enters_of Tryz.func78 (by kernel_rfl) rfl
theorem B8:aK Tryz.prog 56=some [(0,1),(1,1),(2,1),(3,1),(4,1),(5,1),(6,1)]:=by kernel_rfl
theorem oQ:dk Tryz.prog 56=some 7:=by kernel_rfl
theorem mj:f' Tryz.prog 56=some 7:=by kernel_rfl
theorem LG:aK Tryz.prog 157=some [(0,7)]:=by kernel_rfl
theorem SG:zeroOf Tryz.prog 157=some (.agg #[st [],.slice none 0 0,.int .i64 0,.slice none 0 0,.slice none 0 0,.slice none 0 0,.int .i64 0]):=by kernel_rfl
theorem oR:an Tryz.prog 56 5=some 5:=by kernel_rfl
theorem B9:Enters Tryz.prog 79:=enters_of Tryz.func79 (by kernel_rfl) rfl
theorem vu:an Tryz.prog 56 6=some 6:=by kernel_rfl
theorem SH (c:View) (ke k:Nat) (u:bK) (r:ih) (w:World) (P:Le c w) (l:hI ke k c r u) (ao:n8 u<=1048576) :
   Calls Tryz.prog 26 #[.agg (eE u r).toArray] w λe w'=>∃q:kZ,e = .returned (.tuple #[.agg (z' (eb u).1 q).toArray,.int .i64 (eb u).2])/\Ext w w'/\z_ (nv w w') q (eb u).1:=by
 have ap:=l.ak.cap;have ar:=l.ak.max;have au:=l.parts.cap;have aw:=l.parts.max;have ax:=MC u;have ay:=tY u.ak;have aA:=qM u.parts;refine enter Tryz.func26 O 64 O O ?_;refine CE (Vs:=[c]) (Ws.init (by simp [P])) (aa ?_);refine WL.box Y O O λQ=>?_;refine Al Y O nO λR=>?_;refine ai O (ae (Cs (aa (I (b8 1 O O gh O) (Lp Y O SE O (λw b=>SD c ke k u r w (b.vs c (by simp)) l (by omega)) (I (az O) (ae ?_)))))));refine Cc O (λC=>?_) (λC=>?_)
 ·have t:nr u=false:=by simpa using C
  refine aa (I (Yb nO B8 O O) (aO 0 Y O O O oQ O O O (ai O (ae (aX (Er ?_))))));refine WE.p2 0 O O O O mj O λw' b=>?_;rw [show eb u=(uq,1) from by rw [eb,if_pos t]];exact ⟨Aa,O,b.fr,qj _⟩
 have t:nr u=true:=by simpa using C
 obtain ⟨S,T⟩:=MD t;refine bf (Cs ?_);refine CU (λ_=>true) [] [] (.q false 0 (.q true 1 (.q false 2 (.q true 3 (.q false 5 (.q true 6 (.e 4 (.q false 7 (.q false 8 (.e 9 (.q false 10 .nil) .stop))) .stop))))))) mixed (by kernel_rfl) (λ_ _ _ d _ _ h=>by cases d<;>exact h) ?_;refine U0 O (λ_ h=>h) (Yf qG O) (U0 O (λ_ h=>h) (Yd 1 O O O cN) (U0 O (λ_ h=>h) (Yf qH O) (U0 O (λ_ h=>h) (Yd 1 O O O eU) (U0 O (λ_ h=>h) (Yf oP O) (U0 O (λ_ h=>h) (Yd 1 O O O aT) ?_)))));refine Ue O (λ_ h=>h) ?_ WU.stop;refine Ld Y O Ia O (λr:SP=>.slice r.1 u.ak.length r.2) (λU r=>Sl rdStr 1 U r.1 r.2 u.ak) (λw b=>H6 c r.s1.1 r.s1.2 u.ak w (b.vs c (by simp)) l.ak (by omega)) ?_;intro V a W X;refine Ln (Eu (U0 O (λ_ h=>(Wv 1 h:)) (Yb nO B8 O O) (U0 O (λ_ h=>(Wv 1 h:)) (Yb SG LG O O) ?_)));refine Ue O (λ_ h=>(Wv 1 h:)) ?_ WU.stop;refine WL.box Y O O λZ=>?_;obtain ⟨o,ac⟩:∃s,s=Z:=⟨_,rfl⟩;subst ac;refine cD 0 (n' 157 (⟨u.nm,.slice a.1 u.ak.length a.2,u.data,.slice none 0 0,.int .i64 0⟩:gP) ⟨⟨[],[]⟩,(none,0),(none,0)⟩) O O (LW (λ_ h=>h.e4 3 1) (LW (λ_ h=>h.e4 112 3) (LW (λ_ h=>h.e4 108 3) (Ln (Eu (U0 O (λ_ h=>(Wv 1 (Wd 4 h):)) (Ya O) ?_))))));refine WU.nil (λ_ h=>(Wv 1 (Wd 4 h):)) ?_;refine WS.nil ?_;refine Et (Cs (aa (I (Yf k8 O) (I (Yd 5 O O O lN) (I (Yn kH O) (ad O (ae (Cb ?_))))))));refine av (ι:=Nat×(SP×SP)×SP) (λg=>[(24,.int .i64 (g.1:Int))]) [(1,_),(2,_),(3,_),(4,_),(22,_),(23,_)] (λg=>Ws w [] ((ab 157 108 112 o (⟨u.nm,.slice a.1 u.ak.length a.2,u.data,.slice g.2.2.1 (cV (u.parts.take g.1) ⟨[],[]⟩).1.length g.2.2.2,.int .i64 0⟩:gP) ⟨(cV (u.parts.take g.1) ⟨[],[]⟩).2,g.2.1.1,g.2.1.2⟩)++[cf 3 1 mA g.2.2.1 g.2.2.2 (cV (u.parts.take g.1) ⟨[],[]⟩).1,aq R (.cells (Value.cells (.agg #[st [],.slice none 0 0,.int .i64 0,.slice none 0 0,.slice none 0 0,.slice none 0 0,.int .i64 0])) 56 (0,0)),aq Q (.cells (eE u r).toArray 40 (0,0))]) [V,c]) (λg=>g.1<=u.parts.length) (λg=>u.parts.length-g.1) (0,(((none,0),(none,0)),(none,0))) (Nat.zero_le _) (sc O (sc O (sc O (sc O (sc O (sc O (sc O sn))))))) (λ_ h=>by exact ((((((h.f 5 O).f 5 O).f 4 O).f 4 O).f 4 O).f 5 O:)) ?_;intro g aB;refine aa (I (b0 O O) (ae (Cs ?_)));refine Cc O (λD=>?_) (λD=>?_)
 ·have J:g.1<u.parts.length:=by simpa using D
  obtain ⟨x,A⟩:∃q,u.parts[g.1]? = some q:=⟨_,List.getElem?_eq_getElem J⟩;obtain ⟨aC,aD,af,ag⟩:=l.parts.bJ g.1 x A;obtain ⟨v,ah,K⟩:=ag;have aE:=qk A;have p:=ib (u.parts.take g.1) ⟨[],[]⟩
  have al:(cV (u.parts.take g.1) ⟨[],[]⟩).2.code.length<=8*jq (u.parts.take g.1):=by have i:=p.1.hi; simpa using i
  have am:(cV (u.parts.take g.1) ⟨[],[]⟩).2.fix.length<=8*jq (u.parts.take g.1):=by have i:=p.1.a8; simpa using i
  have aF:(cV (u.parts.take g.1) ⟨[],[]⟩).1.length=g.1:=by rw [p.2,List.length_take]; omega
  have aG:sI x=1+eF x.body:=rfl;have L:=S x (List.mem_of_getElem? A);have M:=MB A ⟨[],[]⟩
  have E:(cV (u.parts.take (g.1+1)) ⟨[],[]⟩).1=(cV (u.parts.take g.1) ⟨[],[]⟩).1++[(cV (u.parts.take g.1) ⟨[],[]⟩).2.code.length]:=by rw [M]
  have F:(cV (u.parts.take (g.1+1)) ⟨[],[]⟩).2=(hK x.params x.locals x.body (cV (u.parts.take g.1) ⟨[],[]⟩).2):=by rw [M]
  refine bf (Cs (Cb (aa (I (Yo kH O O af J) (I (dj 1 x1 O O O (ah)) ?_)))));refine Al Y O vh λaH=>?_;refine aO 0 Y O O O B4 O O O (ae (e9 0 (.cells (sw x v).toArray 89 (0,0)) O O ?_));refine CU (λ_=>true) [1,1,1,1] [14] (.q false 0 (.q false 1 (.q false 2 (.q false 3 (.q false 4 (.q false 6 (.q true 7 (.e 5 (.e 8 (.e 9 (.e 10 (.q false 11 (.q false 12 (.q false 13 .nil))) .stop) .stop) .stop) (.e 8 (.e 5 (.e 9 (.e 10 (.q false 11 (.q false 12 (.q false 13 .nil))) .stop) .stop) (.e 9 (.e 5 (.e 10 (.q false 11 (.q false 12 (.q false 13 .nil))) .stop) .stop) .stop)) .stop))))))))) mixed (by kernel_rfl) (λ_ _ _ d _ _ h=>by cases d<;>exact h) ?_;refine U0 O (cK [1,1,1,1]) (Ym O) (U0 O (cK [1,1,1,1]) (Ym O) (U0 O (cK [1,1,1,1]) (cy O) (U0 O (cK [1,1,1,1]) (Yf bq O) (U0 O (cK [1,1,1,1]) (Yf oR O) (U0 O (cK [1,1,1,1]) (Ym O) (U0 O (cK [1,1,1,1]) (b8 0 O O x1 O) ?_))))));refine Ue O (cK [1,1,1,1]) ?_ ?_
  ·refine I (Yd 1 O O O k9) (Ln (Eu ?_));refine Ue O (cK [1,1,1,1]) ?_ WU.stop;refine Lf 3 O (Lf 3 O (Lf 3 O ?_));refine Lw (ι:=SP×SP) [_,_,_] _ Y O B9 O O (λ_=>.int .i64 (((cV (u.parts.take g.1) ⟨[],[]⟩).2).code.length:Int)) (λq=>(ab 157 108 112 o (⟨u.nm,.slice a.1 u.ak.length a.2,u.data,.slice g.2.2.1 (cV (u.parts.take g.1) ⟨[],[]⟩).1.length g.2.2.2,.int .i64 0⟩:gP) ⟨(hK x.params x.locals x.body (cV (u.parts.take g.1) ⟨[],[]⟩).2),q.1,q.2⟩)) (λ_=>True) [c] (by simp) (λw b=>(B7 o (⟨u.nm,.slice a.1 u.ak.length a.2,u.data,.slice g.2.2.1 (cV (u.parts.take g.1) ⟨[],[]⟩).1.length g.2.2.2,.int .i64 0⟩:gP) (⟨(cV (u.parts.take g.1) ⟨[],[]⟩).2,g.2.1.1,g.2.1.2⟩:b5) c ke k x.params x.locals x.body v.1 v.2 w K L (by show ((cV (u.parts.take g.1) ⟨[],[]⟩).2).code.length+8*(1+eF x.body)<=_; omega) (by show ((cV (u.parts.take g.1) ⟨[],[]⟩).2).fix.length+8*(1+eF x.body)<=_; omega) b).mono λe w' ⟨q,y,z⟩=>⟨q,y,trivial,z⟩) ?_;intro j _;refine Ln (Eu ?_);refine Ue O (λ_ h=>by exact (Wo 1 (Wo 1 (Wo 1 (Wo 1 (((((((h.f 6 O).f 6 O).f 6 O).f 5 O).f 5 O).f 5 O).f 6 O)))):)) ?_ WU.stop;refine Lb Y O hS O O O O λN=>?_;refine cD 0 (.cells (mA (cV (u.parts.take g.1) ⟨[],[]⟩).2.code.length).toArray 3 (0,0)) O (O) (Ln (Eu ?_));refine Ue O (λ_ h=>by exact (Wo 1 (Wo 1 (Wo 1 (Wo 1 (Wt 7 (((((((h.f 7 O).f 7 O).f 7 O).f 6 O).f 6 O).f 6 O).f 7 O))))):)) ?_ WU.stop;refine LA ((cV (u.parts.take g.1) ⟨[],[]⟩).2.code.length) 5 0 Y O hS O O O O O O (by omega) (by omega) λm n=>?_;refine Ln (Eu (U0 O (λ_ h=>by exact (Wo 1 (Wo 1 (Wo 1 (Wo 1 (Wt 7 (((((((h.f 7 O).f 7 O).f 7 O).f 6 O).f 6 O).f 6 O).f 7 O))))):)) (cy O) (U0 O (λ_ h=>by exact (Wo 1 (Wo 1 (Wo 1 (Wo 1 (Wt 7 (((((((h.f 7 O).f 7 O).f 7 O).f 6 O).f 6 O).f 6 O).f 7 O))))):)) (Yf bq O) (U0 O (λ_ h=>by exact (Wo 1 (Wo 1 (Wo 1 (Wo 1 (Wt 7 (((((((h.f 7 O).f 7 O).f 7 O).f 6 O).f 6 O).f 6 O).f 7 O))))):)) (Yf oR O) ?_))));refine WU.nil (λ_ h=>by exact (Wo 1 (Wo 1 (Wo 1 (Wo 1 (Wt 7 (((((((h.f 7 O).f 7 O).f 7 O).f 6 O).f 6 O).f 6 O).f 7 O))))):)) ?_;refine WS.e O ?_;refine aO 1 Y O O O vm O O O (Ln (Es ?_));refine WS.nil ?_;refine Eb (Et (Cr (I (Yi O O O (by omega)) (ad O (Ln ?_)))));rw [<-E,<-F];refine WE.ln 1 (n' 157 (⟨u.nm,.slice a.1 u.ak.length a.2,u.data,.slice m (cV (u.parts.take (g.1+1)) ⟨[],[]⟩).1.length n,.int .i64 0⟩:gP) ⟨(cV (u.parts.take (g.1+1)) ⟨[],[]⟩).2,j.1,j.2⟩) O O ?_;exact Ea ((g.1+1,(j,(m,n))):Nat×(SP×SP)×SP) (by show _-(g.1+1)<_; omega) (by show g.1+1<=_; omega) (sc O (sc O (sc O (sc O (sc O (sc O (sc O sn))))))) (λ_ h=>by exact (Wt 6 ((((((h.f 7 O).f 7 O).f 7 O).f 6 O).f 6 O).f 6 O):))
  refine Ue O (cK [1,1,1,1]) ?_ WU.stop;refine Lf 3 O (Lf 3 O (Lf 3 O ?_));refine Lw (ι:=SP×SP) [_,_,_] _ Y O B9 O O (λ_=>.int .i64 (((cV (u.parts.take g.1) ⟨[],[]⟩).2).code.length:Int)) (λq=>(ab 157 108 112 o (⟨u.nm,.slice a.1 u.ak.length a.2,u.data,.slice g.2.2.1 (cV (u.parts.take g.1) ⟨[],[]⟩).1.length g.2.2.2,.int .i64 0⟩:gP) ⟨(hK x.params x.locals x.body (cV (u.parts.take g.1) ⟨[],[]⟩).2),q.1,q.2⟩)) (λ_=>True) [c] (by simp) (λw b=>(B7 o (⟨u.nm,.slice a.1 u.ak.length a.2,u.data,.slice g.2.2.1 (cV (u.parts.take g.1) ⟨[],[]⟩).1.length g.2.2.2,.int .i64 0⟩:gP) (⟨(cV (u.parts.take g.1) ⟨[],[]⟩).2,g.2.1.1,g.2.1.2⟩:b5) c ke k x.params x.locals x.body v.1 v.2 w K L (by show ((cV (u.parts.take g.1) ⟨[],[]⟩).2).code.length+8*(1+eF x.body)<=_; omega) (by show ((cV (u.parts.take g.1) ⟨[],[]⟩).2).fix.length+8*(1+eF x.body)<=_; omega) b).mono λe w' ⟨q,y,z⟩=>⟨q,y,trivial,z⟩) ?_;intro j _;refine Ln (Eu ?_);refine Ue O (λ_ h=>by exact (Wo 1 (Wo 1 (Wo 1 (Wo 1 (((((((h.f 6 O).f 6 O).f 6 O).f 5 O).f 5 O).f 5 O).f 6 O)))):)) ?_ ?_
  ·refine I (Yd 0 O O O k9) (Ln (Eu ?_));refine Ue O (λ_ h=>by exact (Wo 1 (Wo 1 (Wo 1 (Wo 1 (((((((h.f 6 O).f 6 O).f 6 O).f 5 O).f 5 O).f 5 O).f 6 O)))):)) ?_ WU.stop;refine Lb Y O hS O O O O λN=>?_;refine cD 0 (.cells (mA (cV (u.parts.take g.1) ⟨[],[]⟩).2.code.length).toArray 3 (0,0)) O (O) (Ln (Eu ?_));refine Ue O (λ_ h=>by exact (Wo 1 (Wo 1 (Wo 1 (Wo 1 (Wt 7 (((((((h.f 7 O).f 7 O).f 7 O).f 6 O).f 6 O).f 6 O).f 7 O))))):)) ?_ WU.stop;refine LA ((cV (u.parts.take g.1) ⟨[],[]⟩).2.code.length) 5 0 Y O hS O O O O O O (by omega) (by omega) λm n=>?_;refine Ln (Eu (U0 O (λ_ h=>by exact (Wo 1 (Wo 1 (Wo 1 (Wo 1 (Wt 7 (((((((h.f 7 O).f 7 O).f 7 O).f 6 O).f 6 O).f 6 O).f 7 O))))):)) (cy O) (U0 O (λ_ h=>by exact (Wo 1 (Wo 1 (Wo 1 (Wo 1 (Wt 7 (((((((h.f 7 O).f 7 O).f 7 O).f 6 O).f 6 O).f 6 O).f 7 O))))):)) (Yf bq O) (U0 O (λ_ h=>by exact (Wo 1 (Wo 1 (Wo 1 (Wo 1 (Wt 7 (((((((h.f 7 O).f 7 O).f 7 O).f 6 O).f 6 O).f 6 O).f 7 O))))):)) (Yf oR O) ?_))));refine WU.nil (λ_ h=>by exact (Wo 1 (Wo 1 (Wo 1 (Wo 1 (Wt 7 (((((((h.f 7 O).f 7 O).f 7 O).f 6 O).f 6 O).f 6 O).f 7 O))))):)) ?_;refine WS.e O ?_;refine aO 1 Y O O O vm O O O (Ln (Es ?_));refine WS.nil ?_;refine Eb (Et (Cr (I (Yi O O O (by omega)) (ad O (Ln ?_)))));rw [<-E,<-F];refine WE.ln 1 (n' 157 (⟨u.nm,.slice a.1 u.ak.length a.2,u.data,.slice m (cV (u.parts.take (g.1+1)) ⟨[],[]⟩).1.length n,.int .i64 0⟩:gP) ⟨(cV (u.parts.take (g.1+1)) ⟨[],[]⟩).2,j.1,j.2⟩) O O ?_;exact Ea ((g.1+1,(j,(m,n))):Nat×(SP×SP)×SP) (by show _-(g.1+1)<_; omega) (by show g.1+1<=_; omega) (sc O (sc O (sc O (sc O (sc O (sc O (sc O sn))))))) (λ_ h=>by exact (Wt 6 ((((((h.f 7 O).f 7 O).f 7 O).f 6 O).f 6 O).f 6 O):))
  refine Ue O (λ_ h=>by exact (Wo 1 (Wo 1 (Wo 1 (Wo 1 (((((((h.f 6 O).f 6 O).f 6 O).f 5 O).f 5 O).f 5 O).f 6 O)))):)) ?_ WU.stop;refine Lb Y O hS O O O O λN=>?_;refine cD 0 (.cells (mA (cV (u.parts.take g.1) ⟨[],[]⟩).2.code.length).toArray 3 (0,0)) O (O) (Ln (Eu ?_));refine Ue O (λ_ h=>by exact (Wo 1 (Wo 1 (Wo 1 (Wo 1 (Wt 7 (((((((h.f 7 O).f 7 O).f 7 O).f 6 O).f 6 O).f 6 O).f 7 O))))):)) ?_ WU.stop;refine I (Yd 1 O O O k9) (Ln (Eu ?_));refine Ue O (λ_ h=>by exact (Wo 1 (Wo 1 (Wo 1 (Wo 1 (Wt 7 (((((((h.f 7 O).f 7 O).f 7 O).f 6 O).f 6 O).f 6 O).f 7 O))))):)) ?_ WU.stop;refine LA ((cV (u.parts.take g.1) ⟨[],[]⟩).2.code.length) 5 0 Y O hS O O O O O O (by omega) (by omega) λm n=>?_;refine Ln (Eu (U0 O (λ_ h=>by exact (Wo 1 (Wo 1 (Wo 1 (Wo 1 (Wt 7 (((((((h.f 7 O).f 7 O).f 7 O).f 6 O).f 6 O).f 6 O).f 7 O))))):)) (cy O) (U0 O (λ_ h=>by exact (Wo 1 (Wo 1 (Wo 1 (Wo 1 (Wt 7 (((((((h.f 7 O).f 7 O).f 7 O).f 6 O).f 6 O).f 6 O).f 7 O))))):)) (Yf bq O) (U0 O (λ_ h=>by exact (Wo 1 (Wo 1 (Wo 1 (Wo 1 (Wt 7 (((((((h.f 7 O).f 7 O).f 7 O).f 6 O).f 6 O).f 6 O).f 7 O))))):)) (Yf oR O) ?_))));refine WU.nil (λ_ h=>by exact (Wo 1 (Wo 1 (Wo 1 (Wo 1 (Wt 7 (((((((h.f 7 O).f 7 O).f 7 O).f 6 O).f 6 O).f 6 O).f 7 O))))):)) ?_;refine WS.e O ?_;refine aO 1 Y O O O vm O O O (Ln (Es ?_));refine WS.nil ?_;refine Eb (Et (Cr (I (Yi O O O (by omega)) (ad O (Ln ?_)))));rw [<-E,<-F];refine WE.ln 1 (n' 157 (⟨u.nm,.slice a.1 u.ak.length a.2,u.data,.slice m (cV (u.parts.take (g.1+1)) ⟨[],[]⟩).1.length n,.int .i64 0⟩:gP) ⟨(cV (u.parts.take (g.1+1)) ⟨[],[]⟩).2,j.1,j.2⟩) O O ?_;exact Ea ((g.1+1,(j,(m,n))):Nat×(SP×SP)×SP) (by show _-(g.1+1)<_; omega) (by show g.1+1<=_; omega) (sc O (sc O (sc O (sc O (sc O (sc O (sc O sn))))))) (λ_ h=>by exact (Wt 6 ((((((h.f 7 O).f 7 O).f 7 O).f 6 O).f 6 O).f 6 O):))
 have an:g.1=u.parts.length:=by simp at D; omega
 rw [an,List.take_length];have p:=ib u.parts ⟨[],[]⟩
 have al:(cV u.parts ⟨[],[]⟩).2.code.length<=8*jq u.parts:=by have i:=p.1.hi; simpa using i
 have am:(cV u.parts ⟨[],[]⟩).2.fix.length<=8*jq u.parts:=by have i:=p.1.a8; simpa using i
 refine Ce (Ex (Ex (cp (Et (aa (ad O (ad O (I (Yf vi O) (I (Yd 5 O O O ir) (I (Yb vh Ic O O) ?_))))))))));refine Lw (ι:=SP×SP) [_,_,_] _ Y O B9 O O (λ_=>.int .i64 (((cV u.parts ⟨[],[]⟩).2).code.length:Int)) (λq=>(ab 157 108 112 o (⟨u.nm,.slice a.1 u.ak.length a.2,u.data,.slice g.2.2.1 (cV u.parts ⟨[],[]⟩).1.length g.2.2.2,.int .i64 0⟩:gP) ⟨(hK 0 0 u.main (cV u.parts ⟨[],[]⟩).2),q.1,q.2⟩)) (λ_=>True) [c] (by simp) (λw b=>(B7 o (⟨u.nm,.slice a.1 u.ak.length a.2,u.data,.slice g.2.2.1 (cV u.parts ⟨[],[]⟩).1.length g.2.2.2,.int .i64 0⟩:gP) (⟨(cV u.parts ⟨[],[]⟩).2,g.2.1.1,g.2.1.2⟩:b5) c ke k 0 0 u.main r.s3.1 r.s3.2 w l.main T (by show ((cV u.parts ⟨[],[]⟩).2).code.length+8*(1+eF u.main)<=_; omega) (by show ((cV u.parts ⟨[],[]⟩).2).fix.length+8*(1+eF u.main)<=_; omega) b).mono λe w' ⟨q,y,z⟩=>⟨q,y,trivial,z⟩) ?_;intro B _;refine I (cy O) (I (Yf bq O) (I (Yf vu O) (aO 0 Y O O O dP O O O (ae (Cs (Cs (e9 0 (n' 157 (⟨u.nm,.slice a.1 u.ak.length a.2,u.data,.slice g.2.2.1 (cV u.parts ⟨[],[]⟩).1.length g.2.2.2,.int .i64 ((cV u.parts ⟨[],[]⟩).2.code.length:Int)⟩:gP) ⟨(hK 0 0 u.main (cV u.parts ⟨[],[]⟩).2),B.1,B.2⟩) O O (Cr (ad O ?_)))))))));refine I (cy O) (I (Yf bq O) (I (Yf kJ O) (I (Yd 0 O O O h_) (I (Yn iN O) (I (dc O O) (ae ?_))))));refine Cc O (λG=>?_) (λG=>?_)
 ·have H:2048<(eY u).g.code.length:=by
    have i:=G;simp at i
    show 2048<((hK 0 0 u.main (cV u.parts ⟨[],[]⟩).2)).code.length
    omega
  refine aa (I (Yb nO B8 O O) (aO 4 Y O O O oQ O O O (ai O (ae (aX (Er ?_))))));refine WE.p2 4 O O O O mj O λw' b=>?_;rw [show eb u=(uq,2) from by rw [eb,if_neg (by rw [t]; decide),if_pos H]];exact ⟨Aa,O,b.fr,qj _⟩
 have H:¬2048<(eY u).g.code.length:=by
   have i:=G;simp at i
   show ¬2048<((hK 0 0 u.main (cV u.parts ⟨[],[]⟩).2)).code.length
   omega
 refine bf (aa (ad O (I (cy O) (I (Yf bq O) (I (b8 0 O O mj O) (aO 4 Y O O O oQ O O O (ai O (ae (aX ?_)))))))));refine WE.p2 4 O O O O mj O λw' b=>?_;rw [show eb u=(eY u,0) from by rw [eb,if_neg (by rw [t]; decide),if_neg H]];exact ⟨⟨a,B.1,B.2,g.2.2⟩,O,b.fr,X.imp (λ_ _ _ h=>bI.mono (cF b (by simp) W) h),b.jg 1 O bG.aj (λ_ _ _ _ h=>h),b.jg 2 O eI.aj (λ_ _ _ _ h=>h),b.jg 3 O z8 (λ_ _ _ _ h=>h)⟩
def qL (ke k:Nat) (a:View) (b o:Nat) (u:bK):Prop:=∃r:ih,bI a b o (eE u r)/\hI ke k a r u
structure WA (us:List bK) (nu:Nat) (al:Bool) (kn:List cm):Prop where
 len:kn.length=nu+1
 VD:al=true->∀mi,0<mi->mi<=nu->kn[mi]? = some jL
 VE:∀mi,mi<=nu->(al=true->mi=0)->∃u,us[mi]? = some u/\kn[mi]? = some (c7 u)
abbrev XU:=bK×ih
def XU.cells (e:XU):List Value:=eE e.1 e.2
theorem XU.aj (e:XU):(XU.cells e).length=5:=rfl
theorem XU.one (e:XU):(XU.cells e).all (·.oneCell')=true:=rfl
def dK (a:View) (b o:Nat) (e:XU):Prop:=bI a b o (XU.cells e)
theorem vv {ke k:Nat} {f d:View} {a:Option Addr} {c:Nat} {es:List XU} (h:Sl dK 5 f a c es) (hv:bw f d) (l:∀e ∈ es,hI ke k d e.2 e.1):Sl (qL ke k) 5 d a c (es.map (·.1)):=by
 refine ⟨by rw [List.length_map]; exact h.cap,h.max,h.spot,λi x g=>?_⟩;rw [List.getElem?_map] at g;obtain ⟨y,j,rfl⟩:=Option.map_eq_some_iff.1 g;obtain ⟨b,o,m,n⟩:=h.bJ i y j;exact ⟨b,o,m,y.2,bI.mono hv n,l y (List.mem_of_getElem? j)⟩
theorem tt:aE Tryz.prog 28 40 (.agg #[st [],.slice none 0 0,.int .i64 0,.slice none 0 0,.slice none 0 0]) 5 96:=hV (by kernel_rfl)
abbrev IM:List bK:=[(cx e3 []).1,(cx aA fB).1]
theorem SI:Enters Tryz.prog 103:=enters_of Tryz.func103 (by kernel_rfl) rfl
theorem r2:Enters Tryz.prog 25:=enters_of Tryz.func25 (by kernel_rfl) rfl
theorem vw:Enters Tryz.prog 37:=enters_of Tryz.func37 (by kernel_rfl) rfl
theorem B_:Enters Tryz.prog 18:=enters_of Tryz.func18 (by kernel_rfl) rfl
theorem IN:Enters Tryz.prog 104:=enters_of Tryz.func104 (by kernel_rfl) rfl
theorem r3:aE Tryz.prog 62 65 (.agg #[st [],.slice none 0 0]) 2 40:=hV (by kernel_rfl)
theorem SJ (H:View) (w:World) (S:Le H w) (T:Laid H) :
   Calls Tryz.prog 38 #[] w λe w'=>∃q:SP,e = .returned (.slice q.1 2 q.2)/\Ext w w'/\Sl (qL 8 7) 5 (nv w w') q.1 q.2 IM:=by
 refine enter Tryz.func38 O 27 O O ?_;refine CE (Vs:=[H]) (Ws.init (by simp [S])) (aa (ai O (ae (aa ?_))));refine Ld Y O SI O (λr:ic=>.agg (fu e3 r).toArray) (λN r=>iB 7 6 N r e3) (λw a=>R' w) ?_;intro R U X V
 refine Ld Y O r2 O (λr:ih=>.tuple #[.agg (eE (cx e3 []).1 r).toArray,.int .i64 (cx e3 []).2]) (λt r=>hI (7+1) (6+1) t r (cx e3 []).1) (λw a=>by
     skip
     exact rW R R 7 6 U e3 none 0 [] w (a.vs _ (by simp)) (a.vs _ (by simp)) V Sl.nil R8) ?_
 intro Z u J i;refine ad O (I (Yx O O) (I (Yx O O) ?_));refine Al Y O kF λab=>?_;refine aO 0 Y O O O kG O O O (ai O (ae (aa (Lp Y O vw O (λw a=>ht w) ?_))))
 refine Ld Y O B_ O (λr:ic=>.tuple #[.agg (fu (aA) r).toArray,.int .i64 ((cc aH).2)]) (λN r=>iB 7 6 N r (aA)) (λw a=>by
     have:=Bx H (aH) w (a.vs _ (by simp)) T
     exact this) ?_
 intro K L ac M;refine ad O (I (Yx O O) (I (Yx O O) ?_));refine Al Y O lJ λaf=>?_;refine aO 0 Y O O O mf O O O (ai O (ae (Cs ?_)));refine WC.KN (.q 0 (.e 1 (.e 2 (.e 3 (.q 4 (.q 5 (.q 6 (.e 7 (.e 8 (.e 9 .nil .stop) .stop) .stop)))) (.e 7 (.e 3 (.q 4 (.q 5 (.q 6 (.e 8 (.e 9 .nil .stop) .stop)))) .stop) .stop)) (.e 7 (.e 2 (.e 3 (.q 4 (.q 5 (.q 6 (.e 8 (.e 9 .nil .stop) .stop)))) .stop) .stop) .stop)) (.e 7 (.e 1 (.e 2 (.e 3 (.q 4 (.q 5 (.q 6 (.e 8 (.e 9 .nil .stop) .stop)))) .stop) .stop) .stop) .stop))) mixed (by kernel_rfl) (λ_ _ _ d _ h=>by cases d<;>exact h) ?_;refine WT.q O Y O (λ_ h=>h) (b8 0 O O hQ O) ?_;refine WT.e O (λ_ h=>h) ?_ ?_
 ·refine Ld Y O IN O (λr:SP=>.agg #[st bp,.slice r.1 oL.length r.2]) (λt r=>Sl gV 4 t r.1 r.2 oL) (λw a=>HI w) ?_;intro E F W G;refine Ln (iw ?_);refine WT.e O (λ_ h=>(Wv 1 h:)) ?_ ?_
  ·refine Lb Y O r3 O O O O λs=>?_;refine Ln (iw ?_);refine WT.e O (λ_ h=>(Wv 1 (Wd 1 h):)) ?_ ?_
   ·refine Ld Y O r2 O (λr:ih=>.tuple #[.agg (eE (cx aA fB).1 r).toArray,.int .i64 (cx aA fB).2]) (λt r=>hI (7+1) (6+1) t r (cx aA fB).1) (λw a=>by
        have A:Sl pP 2 (hv w) (some ⟨s,0,none⟩) 1 fB:=⟨by decide,by decide,by simp,λj x g=>⟨s,0,rfl,by
          match j,g with
          | 0,g=>simp only [fB,List.getElem?_cons_zero,Option.some.injEq] at g; subst g; exact ⟨F,λk v b=>by
              match k,b with
              | 0,b=>simp [oN] at b; subst b; exact a.kf 0 rfl rfl
              | 1,b=>simp [oN] at b; subst b; exact a.kf 0 rfl rfl,oO (bB (a.vs E (by simp))) G⟩⟩⟩
        exact rW K (hv w) 7 6 L aA (some ⟨s,0,none⟩) 1 fB w (a.vs _ (by simp)) (iR w) M A (by have:=qI aH; show wM (cc aH).1<=_; omega)) ?_
    intro P l B y;refine Ln (iw ?_);refine WT.q O Y O (λ_ h=>(Wv 2 (Wd 1 h):)) (Ym O) ?_;refine WT.q O Y O (λ_ h=>(Wv 2 (Wd 1 h):)) (Yx O O) ?_;refine WT.q O Y O (λ_ h=>(Wv 2 (Wd 1 h):)) (Yx O O) ?_;refine WT.e O (λ_ h=>(Wv 2 (Wd 1 h):)) ?_ WT.stop;refine Al Y O kF λQ=>?_;refine Ln (iw ?_);refine WT.e O (λ_ h=>(Wv 2 (Wd 2 h):)) ?_ WT.stop;refine aO 0 Y O O O kG O O O (Ln (iw ?_));refine WT.e O (λ_ h=>(Wv 2 (Wd 2 h):)) ?_ WT.stop;refine ai O (Ln (iw ?_));refine WT.nil (λ_ h=>(Wv 2 (Wd 2 h):)) ?_;refine Et (Cs ?_);obtain ⟨m,n⟩:∃c,c=(cx e3 []).1:=⟨_,rfl⟩;obtain ⟨o,p⟩:∃c,c=(cx aA fB).1:=⟨_,rfl⟩;rw [<-n,<-p];rw [<-n] at i;rw [<-p] at y;refine Cr (I (b8 3 O O gh O) (I (b8 0 O O gh O) ?_));refine Lb Y O tt O O O O λC=>?_;refine cD 0 (.cells ((([(m,u),(o,l)]:List XU)).flatMap XU.cells).toArray 40 (0,0)) O O (LW (λ_ h=>h.nY (f:=XU.cells) (xs:=([(m,u),(o,l)]:List XU)) (c:=2) 0 O XU.aj O (by decide)) (ai O (ae (aX ?_))));refine R1 O O λw' a=>?_;have D:=i;refine ⟨(some ⟨C,0,none⟩,2),O,a.fr,?_⟩
    show Sl _ _ _ _ _ [(cx e3 []).1,(cx aA fB).1]
    rw [<-n,<-p];have i:=a.jg (rd:=dK) 0 rfl XU.aj (λ_ _ _ _ h=>h)
    exact vv (es:=[(m,u),(o,l)]) i (λ_ _ h=>h) λe z=>by
      simp only [List.mem_cons,List.not_mem_nil,or_false] at z
      rcases z with rfl | rfl
      · exact D.mv (cF a (by simp) J)
      · exact y.mv (cF a (by simp) B)
   refine WT.e O (λ_ h=>(Wv 1 (Wd 1 h):)) ?_ WT.stop;refine Al Y O kF λQ=>?_;refine Ln (iw ?_);refine WT.e O (λ_ h=>(Wv 1 (Wd 2 h):)) ?_ WT.stop
   refine Ld Y O r2 O (λr:ih=>.tuple #[.agg (eE (cx aA fB).1 r).toArray,.int .i64 (cx aA fB).2]) (λt r=>hI (7+1) (6+1) t r (cx aA fB).1) (λw a=>by
       have A:Sl pP 2 (hv w) (some ⟨s,0,none⟩) 1 fB:=⟨by decide,by decide,by simp,λj x g=>⟨s,0,rfl,by
         match j,g with
         | 0,g=>simp only [fB,List.getElem?_cons_zero,Option.some.injEq] at g; subst g; exact ⟨F,λk v b=>by
             match k,b with
             | 0,b=>simp [oN] at b; subst b; exact a.kf 1 rfl rfl
             | 1,b=>simp [oN] at b; subst b; exact a.kf 1 rfl rfl,oO (bB (a.vs E (by simp))) G⟩⟩⟩
       exact rW K (hv w) 7 6 L aA (some ⟨s,0,none⟩) 1 fB w (a.vs _ (by simp)) (iR w) M A (by have:=qI aH; show wM (cc aH).1<=_; omega)) ?_
   intro P l B y;refine Ln (iw ?_);refine WT.q O Y O (λ_ h=>(Wv 2 (Wd 2 h):)) (Ym O) ?_;refine WT.q O Y O (λ_ h=>(Wv 2 (Wd 2 h):)) (Yx O O) ?_;refine WT.q O Y O (λ_ h=>(Wv 2 (Wd 2 h):)) (Yx O O) ?_;refine WT.e O (λ_ h=>(Wv 2 (Wd 2 h):)) ?_ WT.stop;refine aO 0 Y O O O kG O O O (Ln (iw ?_));refine WT.e O (λ_ h=>(Wv 2 (Wd 2 h):)) ?_ WT.stop;refine ai O (Ln (iw ?_));refine WT.nil (λ_ h=>(Wv 2 (Wd 2 h):)) ?_;refine Et (Cs ?_);obtain ⟨m,n⟩:∃c,c=(cx e3 []).1:=⟨_,rfl⟩;obtain ⟨o,p⟩:∃c,c=(cx aA fB).1:=⟨_,rfl⟩;rw [<-n,<-p];rw [<-n] at i;rw [<-p] at y;refine Cr (I (b8 3 O O gh O) (I (b8 0 O O gh O) ?_));refine Lb Y O tt O O O O λC=>?_;refine cD 0 (.cells ((([(m,u),(o,l)]:List XU)).flatMap XU.cells).toArray 40 (0,0)) O O (LW (λ_ h=>h.nY (f:=XU.cells) (xs:=([(m,u),(o,l)]:List XU)) (c:=2) 0 O XU.aj O (by decide)) (ai O (ae (aX ?_))));refine R1 O O λw' a=>?_;have D:=i;refine ⟨(some ⟨C,0,none⟩,2),O,a.fr,?_⟩
   show Sl _ _ _ _ _ [(cx e3 []).1,(cx aA fB).1]
   rw [<-n,<-p];have i:=a.jg (rd:=dK) 0 rfl XU.aj (λ_ _ _ _ h=>h)
   exact vv (es:=[(m,u),(o,l)]) i (λ_ _ h=>h) λe z=>by
     simp only [List.mem_cons,List.not_mem_nil,or_false] at z
     rcases z with rfl | rfl
     · exact D.mv (cF a (by simp) J)
     · exact y.mv (cF a (by simp) B)
  refine WT.e O (λ_ h=>(Wv 1 h:)) ?_ WT.stop;refine Al Y O kF λQ=>?_;refine Ln (iw ?_);refine WT.e O (λ_ h=>(Wv 1 (Wd 1 h):)) ?_ WT.stop;refine Lb Y O r3 O O O O λs=>?_;refine Ln (iw ?_);refine WT.e O (λ_ h=>(Wv 1 (Wd 2 h):)) ?_ WT.stop
  refine Ld Y O r2 O (λr:ih=>.tuple #[.agg (eE (cx aA fB).1 r).toArray,.int .i64 (cx aA fB).2]) (λt r=>hI (7+1) (6+1) t r (cx aA fB).1) (λw a=>by
      have A:Sl pP 2 (hv w) (some ⟨s,0,none⟩) 1 fB:=⟨by decide,by decide,by simp,λj x g=>⟨s,0,rfl,by
        match j,g with
        | 0,g=>simp only [fB,List.getElem?_cons_zero,Option.some.injEq] at g; subst g; exact ⟨F,λk v b=>by
            match k,b with
            | 0,b=>simp [oN] at b; subst b; exact a.kf 0 rfl rfl
            | 1,b=>simp [oN] at b; subst b; exact a.kf 0 rfl rfl,oO (bB (a.vs E (by simp))) G⟩⟩⟩
      exact rW K (hv w) 7 6 L aA (some ⟨s,0,none⟩) 1 fB w (a.vs _ (by simp)) (iR w) M A (by have:=qI aH; show wM (cc aH).1<=_; omega)) ?_
  intro P l B y;refine Ln (iw ?_);refine WT.q O Y O (λ_ h=>(Wv 2 (Wd 2 h):)) (Ym O) ?_;refine WT.q O Y O (λ_ h=>(Wv 2 (Wd 2 h):)) (Yx O O) ?_;refine WT.q O Y O (λ_ h=>(Wv 2 (Wd 2 h):)) (Yx O O) ?_;refine WT.e O (λ_ h=>(Wv 2 (Wd 2 h):)) ?_ WT.stop;refine aO 1 Y O O O kG O O O (Ln (iw ?_));refine WT.e O (λ_ h=>(Wv 2 (Wd 2 h):)) ?_ WT.stop;refine ai O (Ln (iw ?_));refine WT.nil (λ_ h=>(Wv 2 (Wd 2 h):)) ?_;refine Et (Cs ?_);obtain ⟨m,n⟩:∃c,c=(cx e3 []).1:=⟨_,rfl⟩;obtain ⟨o,p⟩:∃c,c=(cx aA fB).1:=⟨_,rfl⟩;rw [<-n,<-p];rw [<-n] at i;rw [<-p] at y;refine Cr (I (b8 3 O O gh O) (I (b8 1 O O gh O) ?_));refine Lb Y O tt O O O O λC=>?_;refine cD 0 (.cells ((([(m,u),(o,l)]:List XU)).flatMap XU.cells).toArray 40 (0,0)) O O (LW (λ_ h=>h.nY (f:=XU.cells) (xs:=([(m,u),(o,l)]:List XU)) (c:=2) 0 O XU.aj O (by decide)) (ai O (ae (aX ?_))));refine R1 O O λw' a=>?_;have D:=i;refine ⟨(some ⟨C,0,none⟩,2),O,a.fr,?_⟩
  show Sl _ _ _ _ _ [(cx e3 []).1,(cx aA fB).1]
  rw [<-n,<-p];have i:=a.jg (rd:=dK) 0 rfl XU.aj (λ_ _ _ _ h=>h)
  exact vv (es:=[(m,u),(o,l)]) i (λ_ _ h=>h) λe z=>by
    simp only [List.mem_cons,List.not_mem_nil,or_false] at z
    rcases z with rfl | rfl
    · exact D.mv (cF a (by simp) J)
    · exact y.mv (cF a (by simp) B)
 refine WT.e O (λ_ h=>h) ?_ WT.stop;refine Al Y O kF λQ=>?_;refine Ln (iw ?_);refine WT.e O (λ_ h=>(Wd 1 h:)) ?_ WT.stop;refine Ld Y O IN O (λr:SP=>.agg #[st bp,.slice r.1 oL.length r.2]) (λt r=>Sl gV 4 t r.1 r.2 oL) (λw a=>HI w) ?_;intro E F W G;refine Ln (iw ?_);refine WT.e O (λ_ h=>(Wv 1 (Wd 1 h):)) ?_ WT.stop;refine Lb Y O r3 O O O O λs=>?_;refine Ln (iw ?_);refine WT.e O (λ_ h=>(Wv 1 (Wd 2 h):)) ?_ WT.stop
 refine Ld Y O r2 O (λr:ih=>.tuple #[.agg (eE (cx aA fB).1 r).toArray,.int .i64 (cx aA fB).2]) (λt r=>hI (7+1) (6+1) t r (cx aA fB).1) (λw a=>by
     have A:Sl pP 2 (hv w) (some ⟨s,0,none⟩) 1 fB:=⟨by decide,by decide,by simp,λj x g=>⟨s,0,rfl,by
       match j,g with
       | 0,g=>simp only [fB,List.getElem?_cons_zero,Option.some.injEq] at g; subst g; exact ⟨F,λk v b=>by
           match k,b with
           | 0,b=>simp [oN] at b; subst b; exact a.kf 0 rfl rfl
           | 1,b=>simp [oN] at b; subst b; exact a.kf 0 rfl rfl,oO (bB (a.vs E (by simp))) G⟩⟩⟩
     exact rW K (hv w) 7 6 L aA (some ⟨s,0,none⟩) 1 fB w (a.vs _ (by simp)) (iR w) M A (by have:=qI aH; show wM (cc aH).1<=_; omega)) ?_
 intro P l B y;refine Ln (iw ?_);refine WT.q O Y O (λ_ h=>(Wv 2 (Wd 2 h):)) (Ym O) ?_;refine WT.q O Y O (λ_ h=>(Wv 2 (Wd 2 h):)) (Yx O O) ?_;refine WT.q O Y O (λ_ h=>(Wv 2 (Wd 2 h):)) (Yx O O) ?_;refine WT.e O (λ_ h=>(Wv 2 (Wd 2 h):)) ?_ WT.stop;refine aO 1 Y O O O kG O O O (Ln (iw ?_));refine WT.e O (λ_ h=>(Wv 2 (Wd 2 h):)) ?_ WT.stop;refine ai O (Ln (iw ?_));refine WT.nil (λ_ h=>(Wv 2 (Wd 2 h):)) ?_;refine Et (Cs ?_);obtain ⟨m,n⟩:∃c,c=(cx e3 []).1:=⟨_,rfl⟩;obtain ⟨o,p⟩:∃c,c=(cx aA fB).1:=⟨_,rfl⟩;rw [<-n,<-p];rw [<-n] at i;rw [<-p] at y;refine Cr (I (b8 3 O O gh O) (I (b8 1 O O gh O) ?_));refine Lb Y O tt O O O O λC=>?_;refine cD 0 (.cells ((([(m,u),(o,l)]:List XU)).flatMap XU.cells).toArray 40 (0,0)) O O (LW (λ_ h=>h.nY (f:=XU.cells) (xs:=([(m,u),(o,l)]:List XU)) (c:=2) 0 O XU.aj O (by decide)) (ai O (ae (aX ?_))));refine R1 O O λw' a=>?_;have D:=i;refine ⟨(some ⟨C,0,none⟩,2),O,a.fr,?_⟩
 show Sl _ _ _ _ _ [(cx e3 []).1,(cx aA fB).1]
 rw [<-n,<-p];have i:=a.jg (rd:=dK) 0 rfl XU.aj (λ_ _ _ _ h=>h)
 exact vv (es:=[(m,u),(o,l)]) i (λ_ _ h=>h) λe z=>by
   simp only [List.mem_cons,List.not_mem_nil,or_false] at z
   rcases z with rfl | rfl
   · exact D.mv (cF a (by simp) J)
   · exact y.mv (cF a (by simp) B)
theorem SK (nm s:List UInt8):eD s [((nm,.int .i64 1,0):c8 (List UInt8))] (.int .i64 0) = .int .i64 ((([nm]:List (List UInt8)).count s:Nat):Int):=by
 by_cases h:nm=s
 · subst h; simp [eD,cw]
 · have a:¬s=nm:=λe=>h e.symm
   simp [eD,cw,h,a,List.count_cons]
theorem SL {seen:List (List UInt8)} {M:List (c8 (List UInt8))} (h:∀s,eD s M (.int .i64 0) = .int .i64 ((seen.count s:Nat):Int)) (x:List UInt8) (c:Nat):∀s,eD s (dZ x (.int .i64 (((seen.count x:Nat):Int)+1)) M c) (.int .i64 0) = .int .i64 (((seen++[x]).count s:Nat):Int):=by
 intro s
 by_cases e:s=x
 · subst e
   rw [rq,List.count_append];simp
 · rw [uh _ M c _ e,h s,List.count_append]
   have a:¬x=s:=λk=>e k.symm;simp [List.count_cons,a]
theorem r4:an Tryz.prog 56 1=some 1:=by kernel_rfl
theorem vx:an Tryz.prog 56 0=some 0:=by kernel_rfl
theorem x5:an Tryz.prog 56 2=some 2:=by kernel_rfl
theorem x6:dk Tryz.prog 108=some 3:=by kernel_rfl
theorem tu:an Tryz.prog 108 0=some 0:=by kernel_rfl
theorem x7:Enters Tryz.prog 134:=enters_of Tryz.func134 (by kernel_rfl) rfl
theorem pQ:eO Tryz.prog 53=some 3:=by kernel_rfl
theorem x8:f' Tryz.prog 112=some 3:=by kernel_rfl
theorem x9:dk Tryz.prog 112=some 3:=by kernel_rfl
theorem r5:an Tryz.prog 112 0=some 0:=by kernel_rfl
theorem x':an Tryz.prog 112 1=some 1:=by kernel_rfl
theorem qN:an Tryz.prog 112 2=some 2:=by kernel_rfl
theorem x_ (a:View) (b n:Nat) (x:Int) (w:World) (c:Le a w) (d:vc a b 0=some (.int .i64 (n:Int))) :
   Calls Tryz.prog 134 #[.int .i64 x,.pointer (some ⟨b,0,none⟩)] w λe w'=>e = .returned (.bool (aP n x))/\Ext w w':=by
 refine enter Tryz.func134 O 11 O O ?_;refine CE (Vs:=[a]) (Ws.init (by simp [c])) (aa (ai O (ae (aa (ad O (I (aJ O O) (ad O ?_)))))));apply La 3 O O O O Y O O O O O
 ·intro g;refine Vg (Ym O) (Vg (b9 0 aT O O (d)) (Vg (b0 O O) ?_));exact Gt 3 O O O
 refine ai O (ae (aX ?_));refine R1 O O λw' f=>?_;exact ⟨O,f.fr⟩
theorem IP (k:View) (o:bA) (q:kZ) (w:World) (am:Le k w) (j:mC k q o) :
   Calls Tryz.prog 62 #[.agg (hL o q).toArray] w λe w'=>e = .returned (.int .i64 (fz o))/\Ext w w':=by
 have aI:=j.ak.cap;have aK:=j.ak.max;have aL:=j.code.cap;have aM:=j.code.max;have aN:=j.fix.cap;have aQ:=j.fix.max;have aR:=j.cI.cap;have aS:=j.cI.max;refine enter Tryz.func62 O 191 O O ?_;refine CE (Vs:=[k]) (Ws.init (by simp [am])) (aa ?_);refine WL.box Y O O λK=>?_;refine ai O (ae (aa (I (Yf kJ O) (I (Yd 0 O O O h_) (I (Yn iN O) ?_)))));refine Al Y O je λt=>?_;refine aO 0 Y O O O dP O O O (ae (Cs (Cs (e9 0 (.cells ([.int .i64 (o.code.length:Int)]).toArray 3 (0,0)) O O (Cr (I (Yf r4 O) (I (Yd 1 O O O eU) (I (Yn di O) (I (dc O O) ?_)))))))));refine ad O ?_;apply Lo 4 O O O O Y O O O O O
 ·intro aU;refine Vg (Yf oR O) (Vg (Yd 1 O O O k9) (Vg (Yn hR O) (Vg (dc O O) ?_)));exact Gt 4 O O O
 refine ad O ?_;apply Lo 2 O O O O Y O O O O O
 ·intro aV;refine Vg (Yd 0 O O O aT) (Vg (b0 O O) ?_);exact Gt 2 O O O
 refine ad O ?_;apply Lo 2 O O O O Y O O O O O
 ·intro aW;refine Vg (Yd 0 O O O aT) (Vg (dc O O) ?_);exact Gt 2 O O O
 refine ae ?_;refine Cc O (λQ=>?_) (λQ=>?_)
 ·refine aa (ai O (ae (aX (Er ?_))));refine R1 O O λw' i=>?_;exact ⟨by rw [fz,if_pos (show mD o=true from Q)],i.fr⟩
 have B:mD o=false:=Q
 have aY:o.ak.length<=3:=by
   unfold mD at B;simp only [Bool.or_eq_false_iff,decide_eq_false_iff_not] at B;omega
 refine bf (aa ?_);refine WL.lh st Y O λL=>?_;refine I (Yf vx O) (I (Yd 2 O O O cN) ?_);refine WL.kQ 0 gj Y gg dO O O O O ?_;refine ad O (ai O (ae (aa (I (Yf vx O) (I (Yd 2 O O O cN) (Lp Y O nD O (λw i=>nC _ w) (ad O ?_)))))));apply La 3 O O O O Y O O O O O
 ·intro aZ;refine Vg (Yf x5 O) (Vg (Yd 2 O O O aT) (Vg (aJ O O) ?_));exact Gt 3 O O O
 refine ad O ?_;apply La 3 O O O O Y O O O O O
 ·intro a0;refine Vg (Yf x5 O) (Vg (Yd 2 O O O aT) (Vg (hg O O) ?_));exact Gt 3 O O O
 refine ai O (ae (Cs (aa (I (Yf r4 O) (I (Yd 2 O O O eU) (I (Yn di O) (ad O (ae (Cb ?_)))))))));refine av (ι:=Nat×List (c8 (List UInt8))×Nat×Bool) (λg=>[(58,.int .i64 (g.1:Int)),(5,.bool g.2.2.2)]) [(1,_),(2,_),(3,_),(4,_),(56,_),(57,_)] (λg=>Ws w [] [aq L (b4 st g.2.1 g.2.2.1),aq t (.cells #[.int .i64 (o.code.length:Int)] 3 (0,0)),aq K (.cells (hL o q).toArray 56 (0,0))] [k]) (λg=>g.1<=o.ak.length/\(∀s,eD s g.2.1 (.int .i64 0) = .int .i64 (((o.nm::o.ak.take g.1).count s:Nat):Int))/\jP (o.nm::o.ak.take g.1) (o.ak.drop g.1) g.2.2.2=jP [o.nm] o.ak (bS o)) (λg=>o.ak.length-g.1) (0,[((o.nm,.int .i64 1,0):c8 (List UInt8))],1,bS o) ⟨Nat.zero_le _,SK o.nm,O⟩ (sc O (sc O (sc O (sc O (sc O (sc O (sc O (sc O sn)))))))) (λ_ h=>h) ?_;intro g ⟨a1,af,C⟩;refine aa (I (b0 O O) (ae (Cs ?_)));refine Cc O (λR=>?_) (λR=>?_)
 ·have l:g.1<o.ak.length:=by simpa using R
  obtain ⟨s,S⟩:∃q,o.ak[g.1]? = some q:=⟨_,List.getElem?_eq_getElem l⟩;obtain ⟨an,pos,ao,T⟩:=j.ak.bJ g.1 s S;have T:bI k an (pos+g.1*1) (dD s):=T
  have ap:(o.nm::o.ak.take g.1)++[s]=o.nm::o.ak.take (g.1+1):=by rw [List.take_add_one,S]; simp
  have a2:((o.nm::o.ak.take g.1).count s:Nat)<=4:=by
    have M:(o.nm::o.ak.take g.1).count s<=(o.nm::o.ak.take g.1).length:=List.count_le_length;simp at M; omega
  refine bf (Cs (Cb (aa (I (Yo di O O ao l) (I (b9 0 cN O O (T 0 _ O)) (ai O (ae (aa (ad O (ad O (I (mr 0 gj gg dO je O O O) ?_)))))))))));rw [af s];refine I (bd O O (by omega)) ?_;refine WL.mu 0 gj Y gg dO O O O O ?_;refine ae (Cr (ad O (ad O ?_)));apply La 2 (x:=dU s) O O O O Y O O O O O
  ·intro a3;refine Vg (Ym O) (Lp (.g O O O) O nD O (λw i=>nC _ w) ?_);exact Gt 2 O O O
  refine ad O ?_;apply La 4 (x:=((((o.nm::o.ak.take g.1).count s:Nat):Int)+1==1)) O O O O Y O O O O O
  ·intro a4;refine Vg (Ym O) (Vg (Ym O) (Vg (mr 0 gj gg dO je O O O) ?_));rw [rq];refine Vg (bP O O) ?_;exact Gt 4 O O O
  refine ai O (Ln (Eb (Et (Cr (I (Yi O O O (by omega)) (ad O (Ln ?_)))))));exact Ea ((g.1+1,_,_,((g.2.2.2&&dU s)&&((((o.nm::o.ak.take g.1).count s:Nat):Int)+1==1))):Nat×List (c8 (List UInt8))×Nat×Bool) (by show _-(g.1+1)<_; omega) ⟨(by show g.1+1<=_; omega),(by rw [<-ap]; exact SL af s _),(Nn (seen:=[o.nm]) S _).symm.trans C⟩ (sc O (sc O (sc O (sc O (sc O (sc O (sc O (sc O sn)))))))) (λ_ h=>h)
 have ar:g.1=o.ak.length:=by simp at R; omega
 rw [ar,List.drop_length] at C;have C:g.2.2.2=jP [o.nm] o.ak (bS o):=C;refine Ce (Ex (Ex (cp (Et (Cs (aa (I (Yf kJ O) (I (Yd 2 O O O h_) (I (Yn iN O) (ad O (ae (Cb ?_))))))))))));refine av (ι:=Nat×Bool) (λf=>[(81,.int .i64 (f.1:Int)),(5,.bool f.2)]) [(1,_),(2,_),(3,_),(79,_),(80,_)] (λf=>Ws w [] [aq L (b4 st g.2.1 g.2.2.1),aq t (.cells #[.int .i64 (o.code.length:Int)] 3 (0,0)),aq K (.cells (hL o q).toArray 56 (0,0))] [k]) (λf=>f.1<=o.code.length/\kt (o.code.drop f.1) f.2=kt o.code (jP [o.nm] o.ak (bS o))) (λf=>o.code.length-f.1) (0,g.2.2.2) ⟨Nat.zero_le _,(by rw [C]; rfl)⟩ (sc O (sc O (sc O (sc O (sc O (sc O (sc O sn))))))) (λ_ h=>h) ?_;intro f ⟨a5,D⟩;refine aa (I (b0 O O) (ae (Cs ?_)));refine Cc O (λV=>?_) (λV=>?_)
 ·have l:f.1<o.code.length:=by simpa using V
  obtain ⟨x,u⟩:∃q,o.code[f.1]? = some q:=⟨_,List.getElem?_eq_getElem l⟩;obtain ⟨E,F,G,n⟩:=j.code.bJ f.1 x u;have n:bI k E (F+f.1*3) x.cells:=n;refine bf (Cs (Cb (aa (I (Yo iN O O G l) (I (dj 0 vq O O O (n)) ?_)))));refine Al Y O fY λa6=>?_;refine aO 0 Y O O O x6 O O O (ae (e9 0 (.cells (x.cells).toArray 108 (0,0)) O O (Cr (ad O (ad O ?_)))));apply La 3 O O O O Y O O O O O
  ·intro a7;refine Vg (Yf tu O) (Vg (Yd 0 O O O aT) (Vg (aJ O O) ?_));exact Gt 3 O O O
  refine ad O ?_;apply La 3 O O O O Y O O O O O
  ·intro a8;refine Vg (Yf tu O) (Vg (Yd 0 O O O aT) (Vg (hg O O) ?_));exact Gt 3 O O O
  refine ai O (Ln (Eb (Et (Cr (I (Yi O O O (by omega)) (ad O (Ln ?_)))))));exact Ea ((f.1+1,_):Nat×Bool) (by show _-(f.1+1)<_; omega) ⟨(by show f.1+1<=_; omega),(No u _).symm.trans D⟩ (sc O (sc O (sc O (sc O (sc O (sc O (sc O sn))))))) (λ_ h=>Wd 1 h)
 have au:f.1=o.code.length:=by simp at V; omega
 rw [au,List.drop_length] at D;have D:f.2=kt o.code (jP [o.nm] o.ak (bS o)):=D;refine Ce (Ex (Ex (cp (Et (aa (I (cn O) (ai O (ae (Cs (aa (I (Yf oR O) (I (Yd 2 O O O k9) (I (Yn hR O) ?_)))))))))))));refine ad O (ae (Cb ?_));refine av (ι:=Nat×Bool) (λd=>[(101,.int .i64 (d.1:Int)),(5,.bool d.2)]) [(1,_),(2,_),(3,_),(10,_),(99,_),(100,_)] (λd=>Ws w [] [aq L (b4 st g.2.1 g.2.2.1),aq t (.cells #[.int .i64 (o.code.length:Int)] 3 (0,0)),aq K (.cells (hL o q).toArray 56 (0,0))] [k]) (λd=>d.1<=o.cI.length/\ly o.code.length (o.cI.drop d.1) d.2=ly o.code.length o.cI (kt o.code (jP [o.nm] o.ak (bS o)))) (λd=>o.cI.length-d.1) (0,f.2) ⟨Nat.zero_le _,(by rw [D]; rfl)⟩ (sc O (sc O (sc O (sc O (sc O (sc O (sc O (sc O sn)))))))) (λ_ h=>h) ?_;intro d ⟨a9,H⟩;refine aa (I (b0 O O) (ae (Cs ?_)));refine Cc O (λW=>?_) (λW=>?_)
 ·have l:d.1<o.cI.length:=by simpa using W
  obtain ⟨x,u⟩:∃q,o.cI[d.1]? = some q:=⟨_,List.getElem?_eq_getElem l⟩;obtain ⟨E,F,G,n⟩:=j.cI.bJ d.1 x u;have n:bI k E (F+d.1*1) (e5 x):=n;refine bf (Cs (Cb (aa (I (Yo hR O O G l) (I (b9 0 aT O O (n 0 _ O)) (ai O (ae (Cr (ad O (ad O ?_))))))))));apply La 3 (x:=aP o.code.length x) O O O O Y O O O O O
  ·intro a';refine Vg (Ym O) (Vg (Ym O) ?_);refine WL.sa (.g O O O) O x7 O O (λw i=>x_ (hv w) t o.code.length (x) w (iR w) (ng (i.bC 1 O) O)) ?_;exact Gt 3 O O O
  refine ai O (Ln (Eb (Et (Cr (I (Yi O O O (by omega)) (ad O (Ln ?_)))))));exact Ea ((d.1+1,(d.2&&aP o.code.length x)):Nat×Bool) (by show _-(d.1+1)<_; omega) ⟨(by show d.1+1<=_; omega),(Np u _).symm.trans H⟩ (sc O (sc O (sc O (sc O (sc O (sc O (sc O (sc O sn)))))))) (λ_ h=>h)
 have aw:d.1=o.cI.length:=by simp at W; omega
 rw [aw,List.drop_length] at H;have H:d.2=ly o.code.length o.cI (kt o.code (jP [o.nm] o.ak (bS o))):=H;refine Ce (Ex (Ex (cp (Et (aa (ai O (ae (Cs (aa (I (Yf rY O) (I (Yd 2 O O O tp) (I (Yn pQ O) (ad O ?_)))))))))))));refine ae (Cb ?_);refine av (ι:=Nat×Int×Bool) (λb=>[(115,.int .i64 (b.1:Int)),(13,.int .i64 b.2.1),(5,.bool b.2.2)]) [(1,_),(2,_),(3,_),(10,_),(113,_),(114,_)] (λb=>Ws w [] [aq L (b4 st g.2.1 g.2.2.1),aq t (.cells #[.int .i64 (o.code.length:Int)] 3 (0,0)),aq K (.cells (hL o q).toArray 56 (0,0))] [k]) (λb=>b.1<=o.fix.length/\j9 o.ak.length o.code (o.fix.drop b.1) b.2.1 b.2.2=qm o) (λb=>o.fix.length-b.1) (0,-1,d.2) ⟨Nat.zero_le _,(by rw [H]; rfl)⟩ (sc O (sc O (sc O (sc O (sc O (sc O (sc O (sc O (sc O sn))))))))) (λ_ h=>h) ?_;intro b ⟨a_,z⟩;refine aa (I (b0 O O) (ae (Cs ?_)));refine Cc O (λX=>?_) (λX=>?_)
 ·have l:b.1<o.fix.length:=by simpa using X
  obtain ⟨x,u⟩:∃q,o.fix[b.1]? = some q:=⟨_,List.getElem?_eq_getElem l⟩;obtain ⟨E,F,G,n⟩:=j.fix.bJ b.1 x u;have n:bI k E (F+b.1*3) x.cells:=n;have r:=Nq (U:=o.ak.length) (c:=o.code) u b.2.1 b.2.2;rw [z] at r;refine bf (Cs (Cb (aa (I (Yo pQ O O G l) (I (dj 0 x8 O O O (n)) ?_)))));refine Al Y O vp λba=>?_;refine aO 0 Y O O O x9 O O O (ae (Cs (e9 0 (.cells (x.cells).toArray 112 (0,0)) O O (Cr (ad O (ad O ?_))))));apply La 4 O O O O Y O O O O O
  ·intro bb;refine Vg (Yf r5 O) (Vg (Yd 0 O O O aT) (Vg (Ym O) (Vg (dc O O) ?_)));exact Gt 4 O O O
  refine ad O ?_;apply La 4 (x:=aP o.code.length x.at_) O O O O Y O O O O O
  ·intro bc;refine Vg (Ym O) (Vg (Yf r5 O) (Vg (Yd 0 O O O aT) ?_));refine WL.sa (.g O O O) O x7 O O (λw i=>x_ (hv w) t o.code.length (x.at_) w (iR w) (ng (i.bC 2 O) O)) ?_;exact Gt 4 O O O
  refine ai O (ae (Cs (aa (ad O (I (az O) (ae ?_))))));refine Cc O (λZ=>?_) (λZ=>?_)
  ·have ag:((b.2.2&&decide (b.2.1<x.at_))&&aP o.code.length x.at_)=false:=by
     have M:=Z
     cases ax:((b.2.2&&decide (b.2.1<x.at_))&&aP o.code.length x.at_) with
     | false=>rfl
     | true=>rw [ax] at M; cases M
   rw [if_pos ag] at r;refine Ce (Ex (tH O (Ex (Ex (cp (Et (Cs (aa (ad O (I (az O) (ad O ?_)))))))))));apply Lo 5 (x:=!(aP o.code.length o.main)) O O O O Y O O O O O
   ·intro ay;refine Vg (Ym O) (Vg (Yf vu O) (Vg (Yd 3 O O O aT) ?_));refine WL.sa (.g O O O) O x7 O O (λw i=>x_ (hv w) t o.code.length (o.main) w (iR w) (ng (i.bC 2 O) O)) ?_;refine Vg (az O) ?_;exact Gt 5 O O O
   refine ae ?_;refine Cc O (λv=>?_) (λv=>?_)
   ·refine aa (ai O (ae (aX (Er ?_))));refine R1 O O λw' i=>?_;exact ⟨by rw [fz,B,if_neg (by decide),if_pos (by rw [r]; rfl)],i.fr⟩
   refine bf (aa (ai O (ae (aX ?_))));refine R1 O O λw' i=>?_;rw [ag] at v;exact absurd v (by simp)
  have ah:((b.2.2&&decide (b.2.1<x.at_))&&aP o.code.length x.at_)=true:=by simpa using Z
  rw [if_neg (by rw [ah]; decide)] at r;obtain ⟨p,be,aA⟩:=pg (Bool.and_eq_true_iff.1 ah).2
  have aj:x.at_.toNat=p:=by omega
  obtain ⟨y,al⟩:∃y,o.code[p]? = some y:=⟨_,List.getElem?_eq_getElem aA⟩;obtain ⟨aB,aC,aD,N⟩:=j.code.bJ p y al;have N:bI k aB (aC+p*3) y.cells:=N;rw [<-aj] at N
  have aE:h2 o.code x.at_=y.a:=by unfold h2; rw [aj,al]; rfl
  rw [aE] at r;refine bf (aa (I (Yf r5 O) (I (Yd 0 O O O aT) (ai O (ae (aa (I (Yf kJ O) (I (Yd 3 O O O h_) (I (Yf r5 O) ?_)))))))));refine I (Yd 0 O O O aT) (I (d_ iN O O aD (by omega) (by omega)) (I (Yf vr O) (I (b9 0 aT O O (N 1 _ O)) (ai O (ae (aa (ad O (I (aJ O O) ?_))))))));refine ad O ?_;apply La 2 O O O O Y O O O O O
  ·intro bg;refine Vg (Ym O) (Vg (hg O O) ?_);exact Gt 2 O O O
  refine ai O (ae (aa (I (Yf x' O) (I (Yd 0 O O O aT) (ae (Cb (aa (I (bP O O) (ai O (ae ?_))))))))));refine Cc O (λab=>?_) (λab=>?_)
  ·have J:x.kind=1:=by simpa using ab
   refine Cr (ad O (ad O ?_));apply La 3 O O O O Y O O O O O
   ·intro bh;refine Vg (Yf qN O) (Vg (Yd 0 O O O aT) (Vg (bP O O) ?_));exact Gt 3 O O O
   refine ad O ?_;apply La 3 O O O O Y O O O O O
   ·intro bi;refine Vg (Ym O) (Vg (Yd 2 O O O aT) (Vg (hg O O) ?_));exact Gt 3 O O O
   refine ai O (Ln (Eb (Eb (Et (Cr (I (Yi O O O (by omega)) (ad O (Ln ?_))))))));exact Ea ((b.1+1,x.at_,(((decide (0<=y.a)&&decide (y.a<=2048))&&(x.m==0))&&decide (y.a<=(o.code.length:Int)))):Nat×Int×Bool) (by show _-(b.1+1)<_; omega) ⟨(by show b.1+1<=_; omega),(congrArg (j9 o.ak.length o.code (o.fix.drop (b.1+1)) x.at_) (show (((decide (0<=y.a)&&decide (y.a<=2048))&&(x.m==0))&&decide (y.a<=(o.code.length:Int)))=ik o.ak.length o.code.length x.kind x.m y.a from ((by unfold ik; rw [if_pos J])))).trans r.symm⟩ (sc O (sc O (sc O (sc O (sc O (sc O (sc O (sc O (sc O sn))))))))) (λ_ h=>Wd 1 h)
  have J:¬x.kind=1:=by simpa using ab
  refine Cs (aa (I (bP O O) (ai O (ae ?_))));refine Cc O (λP=>?_) (λP=>?_)
  ·have ac:x.kind=2:=by simpa using P
   refine bf ?_;refine Cc O (λA=>?_) (λA=>?_)
   ·refine Cr (ad O (ad O ?_));apply La 3 O O O O Y O O O O O
    ·intro aF;refine Vg (Yf qN O) (Vg (Yd 0 O O O aT) (Vg (aJ O O) ?_));exact Gt 3 O O O
    refine ad O ?_;apply La 6 O O O O Y O O O O O
    ·intro aG;refine Vg (Yf qN O) (Vg (Yd 0 O O O aT) (Vg (Yf r4 O) (Vg (Yd 3 O O O eU) (Vg (Yn di O) (Vg (hg O O) ?_)))));exact Gt 6 O O O
    refine ai O (Ln (Eb (Eb (Et (Cr (I (Yi O O O (by omega)) (ad O (Ln ?_))))))));exact Ea ((b.1+1,x.at_,(((decide (0<=y.a)&&decide (y.a<=2048))&&decide (0<=x.m))&&decide (x.m<=(o.ak.length:Int)))):Nat×Int×Bool) (by show _-(b.1+1)<_; omega) ⟨(by show b.1+1<=_; omega),(congrArg (j9 o.ak.length o.code (o.fix.drop (b.1+1)) x.at_) (show (((decide (0<=y.a)&&decide (y.a<=2048))&&decide (0<=x.m))&&decide (x.m<=(o.ak.length:Int)))=ik o.ak.length o.code.length x.kind x.m y.a from ((by unfold ik; rw [if_neg J,if_pos (.inl ac)])))).trans r.symm⟩ (sc O (sc O (sc O (sc O (sc O (sc O (sc O (sc O (sc O sn))))))))) (λ_ h=>Wd 1 h)
   refine Cr (ai O (Ln (Eb (Eb (Et (Cr (I (Yi O O O (by omega)) (ad O (Ln ?_)))))))));exact Ea ((b.1+1,x.at_,false):Nat×Int×Bool) (by show _-(b.1+1)<_; omega) ⟨(by show b.1+1<=_; omega),(congrArg (j9 o.ak.length o.code (o.fix.drop (b.1+1)) x.at_) (show false=ik o.ak.length o.code.length x.kind x.m y.a from ((by exact absurd (P.symm.trans A) (by decide))))).trans r.symm⟩ (sc O (sc O (sc O (sc O (sc O (sc O (sc O (sc O (sc O sn))))))))) (λ_ h=>Wd 1 h)
  have ac:¬x.kind=2:=by simpa using P
  refine Cr (I (bP O O) (ai O (ae ?_)));refine Cc O (λA=>?_) (λA=>?_)
  ·refine Cr (ad O (ad O ?_));apply La 3 O O O O Y O O O O O
   ·intro aF;refine Vg (Yf qN O) (Vg (Yd 0 O O O aT) (Vg (aJ O O) ?_));exact Gt 3 O O O
   refine ad O ?_;apply La 6 O O O O Y O O O O O
   ·intro aG;refine Vg (Yf qN O) (Vg (Yd 0 O O O aT) (Vg (Yf r4 O) (Vg (Yd 3 O O O eU) (Vg (Yn di O) (Vg (hg O O) ?_)))));exact Gt 6 O O O
   refine ai O (Ln (Eb (Eb (Et (Cr (I (Yi O O O (by omega)) (ad O (Ln ?_))))))));exact Ea ((b.1+1,x.at_,(((decide (0<=y.a)&&decide (y.a<=2048))&&decide (0<=x.m))&&decide (x.m<=(o.ak.length:Int)))):Nat×Int×Bool) (by show _-(b.1+1)<_; omega) ⟨(by show b.1+1<=_; omega),(congrArg (j9 o.ak.length o.code (o.fix.drop (b.1+1)) x.at_) (show (((decide (0<=y.a)&&decide (y.a<=2048))&&decide (0<=x.m))&&decide (x.m<=(o.ak.length:Int)))=ik o.ak.length o.code.length x.kind x.m y.a from ((by unfold ik; rw [if_neg J,if_pos (.inr (by simpa using A))])))).trans r.symm⟩ (sc O (sc O (sc O (sc O (sc O (sc O (sc O (sc O (sc O sn))))))))) (λ_ h=>Wd 1 h)
  refine Cr (ai O (Ln (Eb (Eb (Et (Cr (I (Yi O O O (by omega)) (ad O (Ln ?_)))))))));exact Ea ((b.1+1,x.at_,false):Nat×Int×Bool) (by show _-(b.1+1)<_; omega) ⟨(by show b.1+1<=_; omega),(congrArg (j9 o.ak.length o.code (o.fix.drop (b.1+1)) x.at_) (show false=ik o.ak.length o.code.length x.kind x.m y.a from ((by unfold ik; rw [if_neg J,if_neg (λh=>h.elim ac (by simpa using A))])))).trans r.symm⟩ (sc O (sc O (sc O (sc O (sc O (sc O (sc O (sc O (sc O sn))))))))) (λ_ h=>Wd 1 h)
 have aH:b.1=o.fix.length:=by simp at X; omega
 rw [aH,List.drop_length] at z;have z:b.2.2=qm o:=z;refine Ce (Ex (Ex (cp (Et (Cs (aa (ad O (I (az O) (ad O ?_)))))))));apply Lo 5 (x:=!(aP o.code.length o.main)) O O O O Y O O O O O
 ·intro ay;refine Vg (Ym O) (Vg (Yf vu O) (Vg (Yd 2 O O O aT) ?_));refine WL.sa (.g O O O) O x7 O O (λw i=>x_ (hv w) t o.code.length (o.main) w (iR w) (ng (i.bC 1 O) O)) ?_;refine Vg (az O) ?_;exact Gt 5 O O O
 refine ae ?_;refine Cc O (λv=>?_) (λv=>?_)
 ·refine aa (ai O (ae (aX (Er ?_))));refine R1 O O λw' i=>?_;exact ⟨by rw [fz,B,if_neg (by decide),<-z,if_pos v],i.fr⟩
 refine bf (aa (ai O (ae (aX ?_))));refine R1 O O λw' i=>?_;exact ⟨by rw [fz,B,if_neg (by decide),<-z,if_neg (by rw [v]; decide)],i.fr⟩
theorem wrap_u8 (n:Int):IntKind.u8.wrap n=((c_ n).toNat:Int):=by
 unfold c_ IntKind.wrap;simp [IntKind.signed,IntKind.bits];omega
theorem SM:∀(u:Value) (w:World),(callFunc 228 #[u]).run Tryz.prog w = .ok (.value u) w:=KB Tryz.func228 (by kernel_rfl) (by kernel_rfl) (by kernel_rfl) (by kernel_rfl)
def kK (n:Int) (k:Nat):List UInt8:=(List.range k).map λj=>c_ (n.fdiv (2 ^ (56-8*j)))
theorem SN (n:Int):kK n 8=bm n:=by
 simp [kK,bm,List.range_succ,Int.fdiv_one]
theorem SO (n:Int) (k:Nat):kK n (k+1)=kK n k++[c_ (n.fdiv (2 ^ (56-8*k)))]:=by simp [kK,List.range_succ]
theorem LJ (n:Int) (k:Nat):(kK n k).length=k:=by simp [kK]
theorem SQ (l:List Int):(l.flatMap bm).length=l.length*8:=by
 induction l with
 | nil=>rfl
 | cons x r a=>simp only [List.flatMap_cons,List.length_append,a,ku,List.length_cons]; omega
theorem bb (s:List UInt8):(bH s).length=s.length+1:=rfl
theorem ya:Tryz.prog.underlying 160=some (.pointer 163):=by kernel_rfl
theorem Ca:dk Tryz.prog 163=some 2:=by kernel_rfl
theorem IQ:Tryz.prog.underlying 320=some .unsafePointer:=by kernel_rfl
theorem SR:liesAt Tryz.prog Tryz.prog.depth 165 (2 / Tryz.prog.cellsOf 165) 0 163 1=true:=by kernel_rfl
theorem jr:an Tryz.prog 163 0=some 0:=by kernel_rfl
theorem IS:eG Tryz.prog 160=true:=by kernel_rfl
theorem SS:dk Tryz.prog 160=some 1:=by kernel_rfl
theorem IT:Enters Tryz.prog 178:=enters_of Tryz.func178 (by kernel_rfl) rfl
theorem r6:an Tryz.prog 163 1=some 1:=by kernel_rfl
theorem vy:eG Tryz.prog 161=true:=by kernel_rfl
theorem IU:dk Tryz.prog 161=some 1:=by kernel_rfl
theorem vz:an Tryz.prog 165 0=some 0:=by kernel_rfl
theorem SU:Enters Tryz.prog 143:=enters_of Tryz.func143 (by kernel_rfl) rfl
theorem tv:Enters Tryz.prog 82:=enters_of Tryz.func82 (by kernel_rfl) rfl
theorem SV:Enters Tryz.prog 142:=enters_of Tryz.func142 (by kernel_rfl) rfl
theorem yb:eO Tryz.prog 161=some 1:=by kernel_rfl
theorem LK:Tryz.prog.underlying 250=some (.pointer 5):=by kernel_rfl
theorem LL:Tryz.prog.cellsOf 5=1:=by kernel_rfl
theorem SY:Tryz.prog.underlying 161=some (.slice 5):=by kernel_rfl
theorem IV (a:Nat) (q:Option Addr) (v:Value) (w:World) (d:q=none\/q=some ⟨a,0,none⟩) (b:Ws w [a] [aq a (.cells #[.pointer (q),v] 165 (0,0))] [] w) :
   Calls Tryz.prog 178 #[.pointer (some ⟨a,0,none⟩)] w λe w'=>e = .returned (.tuple #[])/\Ws w [a] [aq a (.cells #[.pointer (some ⟨a,0,none⟩),v] 165 (0,0))] [] w':=by
 refine enter Tryz.func178 O 20 O O ?_;refine CE b (aa (ad O (I (cy O) (I (Yf jr O) (I (Yd 0 O O O IS) (I (KC ya O) (ae ?_)))))));refine Cc O (λc=>?_) (λc=>?_)
 ·obtain rfl:q=none:=by cases q with | none=>rfl | some _=>simp at c
  refine Cr (ad O (ad O (I (Ky 0 ya IQ Ca O O O) (I (KA SM O) (I (Kz 0 IQ ya Ca O (n:=2) O SR O) (I (cy O) (I (Yf jr O) ?_)))))));refine aO 0 Y O O O SS O O O (Ln ?_);refine E0 O λw' b=>?_;exact ⟨O,b⟩
 obtain rfl:q=some ⟨a,0,none⟩:=by
   rcases d with rfl | h
   · simp at c
   · exact h
 refine aa (ad O (I (cy O) (I (Yf jr O) (I (Yd 0 O O O IS) (ad O (I (zU ya Ca O O) (ae ?_)))))));refine WC.kc O ?_;refine Ck ?_;refine E0 O λw' b=>?_;exact ⟨O,b⟩
theorem SZ (c:Nat) (q:Option Addr) (v:Value) (a:List UInt8) (b:UInt8) (w:World) (h:q=none\/q=some ⟨c,0,none⟩) (l:a.length+1<=1099511627776) (d:Ws w ([aq c (.cells #[.pointer (q),v] 165 (0,0)),bY 5 1 v (a).length ((a).map au)].flatMap aS.ids) [aq c (.cells #[.pointer (q),v] 165 (0,0)),bY 5 1 v (a).length ((a).map au)] [] w) :
   Calls Tryz.prog 143 #[.pointer (some ⟨c,0,none⟩),.int .u8 (b.toNat:Int)] w λe w'=>∃g:Value,e = .returned (.nilIface)/\True/\Ws w ([aq c (.cells #[.pointer (q),v] 165 (0,0)),bY 5 1 v (a).length ((a).map au)].flatMap aS.ids) [aq c (.cells #[.pointer (some ⟨c,0,none⟩),g] 165 (0,0)),bY 5 1 g (a++[b]).length ((a++[b]).map au)] [] w':=by
 refine enter Tryz.func143 O 17 O O ?_;refine CE d (aa (ai O (ae (aa (ad O (fe [_] _ _ Y O IT O O [] (by simp) (λw d=>IV c q v w h d) (ae (aa (ad O ?_)))))))));refine ad O (I (cy O) (I (Yf r6 O) (I (Yd 0 O O O vy) (ad O ?_))));refine Lb Y O A6 O O O O λm=>?_;refine WL.append 2 Y O A6 O O O (news:=[au b]) O (λw d j u f=>CV d 0 O (k:=j) f) (λu f=>by simp at f; subst f; rfl) (by unfold maxLen; omega) (by omega) (λn o=>?_);refine WL.vZ 2 (a++[b]).length ((a++[b]).map au) O (by simp) (by simp) ?_;refine WL.nt 2 O λp r s i=>?_;subst i;refine I (cy O) (I (Yf r6 O) (aO 1 Y O O O IU O O O (ae (aa (ai O (ae (aX ?_)))))));refine R1 O O λw' d=>?_;exact ⟨_,O,trivial,Wd 1 d⟩
theorem ME (b:Nat) (q:Option Addr) (v:Value) (a:List UInt8) (s:List UInt8) (w:World) (f:q=none\/q=some ⟨b,0,none⟩) (h:a.length+s.length<=1099511627776) (c:Ws w ([aq b (.cells #[.pointer (q),v] 165 (0,0)),bY 5 1 v (a).length ((a).map au)].flatMap aS.ids) [aq b (.cells #[.pointer (q),v] 165 (0,0)),bY 5 1 v (a).length ((a).map au)] [] w) :
   Calls Tryz.prog 142 #[.pointer (some ⟨b,0,none⟩),st s] w λe w'=>∃d:Value,e = .returned (.tuple #[.int .i64 s.length,.nilIface])/\True/\Ws w ([aq b (.cells #[.pointer (q),v] 165 (0,0)),bY 5 1 v (a).length ((a).map au)].flatMap aS.ids) [aq b (.cells #[.pointer (some ⟨b,0,none⟩),d] 165 (0,0)),bY 5 1 d (a++s).length ((a++s).map au)] [] w':=by
 refine enter Tryz.func142 O 19 O O ?_;refine CE c (aa (ai O (ai O (ae (aa (ad O (fe [_] _ _ Y O IT O O [] (by simp) (λw c=>IV b q v w f c) (ae (aa ?_)))))))));refine ad O (ad O (I (cy O) (I (Yf r6 O) (I (Yd 0 O O O vy) (ad O ?_)))));refine WL.KI 1 Y O A6 dO O O O (by omega) (λi j=>?_);refine WL.vZ 1 (a++s).length ((a++s).map au) O (by simp) (by simp) ?_;refine WL.nt 1 O λk l m g=>?_;subst g;refine I (cy O) (I (Yf r6 O) (aO 0 Y O O O IU O O O (ae (aa (ad O (I (mX dO O) (ai O (ai O ?_))))))));refine ae (aX ?_);refine WE.gi O O O λw' c=>?_;exact ⟨_,O,trivial,c⟩
theorem tw (b:Nat) (q:Option Addr) (v:Value) (a:List UInt8) (n:Int) (w:World) (f:q=none\/q=some ⟨b,0,none⟩) (g:a.length+1<=1099511627776) (c:Ws w ([aq b (.cells #[.pointer (q),v] 165 (0,0)),bY 5 1 v (a).length ((a).map au)].flatMap aS.ids) [aq b (.cells #[.pointer (q),v] 165 (0,0)),bY 5 1 v (a).length ((a).map au)] [] w) :
   Calls Tryz.prog 82 #[.pointer (some ⟨b,0,none⟩),.int .i64 n] w λe w'=>∃d:Value,e = .returned (.tuple #[])/\True/\Ws w ([aq b (.cells #[.pointer (q),v] 165 (0,0)),bY 5 1 v (a).length ((a).map au)].flatMap aS.ids) [aq b (.cells #[.pointer (some ⟨b,0,none⟩),d] 165 (0,0)),bY 5 1 d (a++[c_ n]).length ((a++[c_ n]).map au)] [] w':=by
 refine enter Tryz.func82 O 10 O O ?_;refine CE c (Cr (ad O (I (cy O) (I (Yf vz O) (ad O (I (de gZ s0 O) ?_))))))
 refine Lw (ι:=Value) [_,_] _ Y O SU O O (λ_=>.nilIface) (λd=>[aq b (.cells #[.pointer (some ⟨b,0,none⟩),d] 165 (0,0)),bY 5 1 d (a++[c_ n]).length ((a++[c_ n]).map au)]) (λ_=>True) [] (by simp) (λw c=>by
     have:=SZ b q v a (c_ n) w f g c;rw [<-wrap_u8] at this
     exact this) ?_
 intro h _;refine Ln ?_;refine E0 O λw' c=>?_;exact ⟨_,O,trivial,c⟩
theorem yc (b:Nat) (q:Option Addr) (v:Value) (a:List UInt8) (s:List UInt8) (w:World) (f:q=none\/q=some ⟨b,0,none⟩) (i:a.length+s.length+1<=1099511627776) (c:Ws w ([aq b (.cells #[.pointer (q),v] 165 (0,0)),bY 5 1 v (a).length ((a).map au)].flatMap aS.ids) [aq b (.cells #[.pointer (q),v] 165 (0,0)),bY 5 1 v (a).length ((a).map au)] [] w) :
   Calls Tryz.prog 80 #[.pointer (some ⟨b,0,none⟩),st s] w λe w'=>∃d:Value,e = .returned (.tuple #[])/\True/\Ws w ([aq b (.cells #[.pointer (q),v] 165 (0,0)),bY 5 1 v (a).length ((a).map au)].flatMap aS.ids) [aq b (.cells #[.pointer (some ⟨b,0,none⟩),d] 165 (0,0)),bY 5 1 d (a++bH s).length ((a++bH s).map au)] [] w':=by
 refine enter Tryz.func80 O 13 O O ?_;refine CE c (aa (ad O (ad O (I (mX dO O) ?_))));refine Lw [_,_] _ Y O tv O O _ _ _ [] (by simp) (λw c=>tw b q v a s.length w f (by omega) c) ?_;intro g _;refine ae (Cr (ad O (I (cy O) (I (Yf vz O) (ad O ?_)))));refine Lw (ι:=Value) [_,_] _ Y O SV O O (λ_=>.tuple #[.int .i64 s.length,.nilIface]) (λd=>[aq b (.cells #[.pointer (some ⟨b,0,none⟩),d] 165 (0,0)),bY 5 1 d (a++[c_ s.length]++s).length ((a++[c_ s.length]++s).map au)]) (λ_=>True) [] (by simp) (λw c=>ME b (some ⟨b,0,none⟩) g (a++[c_ s.length]) s w (.inr O) (by simp; omega) c) ?_;intro h _;refine Ln ?_;refine E0 O λw' c=>?_;refine ⟨h,O,trivial,?_⟩
 have e:a++bH s=a++[c_ s.length]++s:=by simp [bH]
 rw [e];exact c
theorem IW (b:Nat) (q:Option Addr) (v:Value) (a:List UInt8) (f:a≠[]) (w:World) (j:q=none\/q=some ⟨b,0,none⟩) (k:a.length+1<=1099511627776) (c:Ws w ([aq b (.cells #[.pointer (q),v] 165 (0,0)),bY 5 1 v (a).length ((a).map au)].flatMap aS.ids) [aq b (.cells #[.pointer (q),v] 165 (0,0)),bY 5 1 v (a).length ((a).map au)] [] w) :
   Calls Tryz.prog 84 #[.pointer (some ⟨b,0,none⟩)] w λe w'=>e = .returned (st a)/\Ws w ([aq b (.cells #[.pointer (q),v] 165 (0,0)),bY 5 1 v (a).length ((a).map au)].flatMap aS.ids) [] [] w':=by
 have g:0<a.length:=List.length_pos_iff.2 f;refine enter Tryz.func84 O 14 O O ?_;refine CE c (aa (ai O (ae (Cs ?_))));refine WC.shape 1 O g λl m i n o=>?_;subst i;refine WC.kg 1 [(0,true),(1,true),(2,true),(3,true),(5,true),(6,true),(7,true),(8,true),(9,true),(4,false),(10,false),(11,true)] mixed (by kernel_rfl) (λ_ _ _ d _ h=>by cases d<;>exact h) ?_;refine D0 O (Wp 1) (Ym O) (D0 O (Wp 1) (cy O) (D0 O (Wp 1) (Yf r6 O) (D0 O (Wp 1) (Yd 0 O O O vy) (D0 O (Wp 1) (Ym O) (D0 O (Wp 1) (cy O) (D0 O (Wp 1) (Yf r6 O) (D0 O (Wp 1) (Yd 0 O O O vy) ?_)))))));refine D0 O (Wp 1) (Yn yb O) ?_;refine De O (Wp 1) ?_;refine I (KG (by omega) O) (Ln (Ed ?_));refine De O (Wp 1) ?_;refine WL.KJ 1 Y O LK LL O O O O f (by omega) ?_;refine Ln (Ed (D0 O (Wp 1) (Ya O) ?_));refine WD.nil (Wp 1) ?_;refine Et (aX ?_);refine R1 O O λw' c=>?_;exact ⟨O,Wd 1 c⟩
theorem S1 (b:Nat) (q:Option Addr) (v:Value) (a:List UInt8)  (w:World) (f:q=none\/q=some ⟨b,0,none⟩) (g:a.length+0<=1099511627776) (c:Ws w ([aq b (.cells #[.pointer (q),v] 165 (0,0)),bY 5 1 v (a).length ((a).map au)].flatMap aS.ids) [aq b (.cells #[.pointer (q),v] 165 (0,0)),bY 5 1 v (a).length ((a).map au)] [] w) :
   Calls Tryz.prog 83 #[.pointer (some ⟨b,0,none⟩)] w λe w'=>e = .returned (.int .i64 (a.length:Int))/\Ws w ([aq b (.cells #[.pointer (q),v] 165 (0,0)),bY 5 1 v (a).length ((a).map au)].flatMap aS.ids) [aq b (.cells #[.pointer (q),v] 165 (0,0)),bY 5 1 v (a).length ((a).map au)] [] w':=by
 refine enter Tryz.func83 O 8 O O ?_;refine CE c (aa (ai O (ae (aa (ad O (I (cy O) (I (Yf r6 O) (I (Yd 0 O O O vy) ?_))))))));refine WL.yM 1 O λh i d=>?_;subst d;refine I (Yn yb O) (ai O (ae (aX ?_)));refine R1 O O λw' c=>?_;exact ⟨O,c⟩
theorem oS (f:View) (a:Option Addr) (c:Nat) (l:List Int) (d:Nat) (q:Option Addr) (v:Value) (b:List UInt8) (w:World) (j:Sl o8 1 f a c l) (A:q=none\/q=some ⟨d,0,none⟩) (F:b.length+l.length*8<=1099511627776) (i:Ws w ([aq d (.cells #[.pointer (q),v] 165 (0,0)),bY 5 1 v (b).length ((b).map au)].flatMap aS.ids) [aq d (.cells #[.pointer (q),v] 165 (0,0)),bY 5 1 v (b).length ((b).map au)] [f] w) :
   Calls Tryz.prog 81 #[.pointer (some ⟨d,0,none⟩),.slice a l.length c] w λe w'=>∃r:Option Addr×Value,e = .returned (.tuple #[])/\(r.1=none\/r.1=some ⟨d,0,none⟩)/\Ws w ([aq d (.cells #[.pointer (q),v] 165 (0,0)),bY 5 1 v (b).length ((b).map au)].flatMap aS.ids) [aq d (.cells #[.pointer (r.1),r.2] 165 (0,0)),bY 5 1 r.2 (b++l.flatMap bm).length ((b++l.flatMap bm).map au)] [f] w':=by
 have G:=j.cap;have H:=j.max;refine enter Tryz.func81 O 23 O O ?_;refine CE i (aa (ad O (I (Yn hR O) (ad O (ae (Cb ?_))))));refine av (ι:=Nat×Option Addr×Value) (λg=>[(9,.int .i64 (g.1:Int))]) [(0,_),(7,_),(8,_)] (λg=>Ws w ([aq d (.cells #[.pointer (q),v] 165 (0,0)),bY 5 1 v (b).length ((b).map au)].flatMap aS.ids) [aq d (.cells #[.pointer (g.2.1),g.2.2] 165 (0,0)),bY 5 1 g.2.2 (b++(l.take g.1).flatMap bm).length ((b++(l.take g.1).flatMap bm).map au)] [f]) (λg=>g.1<=l.length/\(g.2.1=none\/g.2.1=some ⟨d,0,none⟩)) (λg=>l.length-g.1) (0,q,v) ⟨Nat.zero_le _,A⟩ (sc O (sc O (sc O (sc O sn)))) (λ_ h=>by simpa using h) ?_;intro g ⟨hi,s⟩;refine aa (I (b0 O O) (ae (Cs ?_)));refine Cc O (λm=>?_) (λm=>?_)
 ·have B:g.1<l.length:=by simpa using m
  obtain ⟨x,t⟩:∃x,l[g.1]? = some x:=⟨_,List.getElem?_eq_getElem B⟩;obtain ⟨pb,C,D,n⟩:=j.bJ g.1 x t;have n:bI f pb (C+g.1*1) (e5 x):=n;refine bf (Cs (Cb (aa (I (Yo hR O O D (by omega)) (I (b9 0 aT O O (n 0 _ O)) (ai O (ae (aa (ai O (ae (Cb ?_)))))))))));refine av (ι:=Nat×Option Addr×Value) (λk=>[(6,.int .i64 (56-8*(k.1:Int)))]) [(0,_),(5,_),(7,_),(8,_),(9,_)] (λk=>Ws w ([aq d (.cells #[.pointer (q),v] 165 (0,0)),bY 5 1 v (b).length ((b).map au)].flatMap aS.ids) [aq d (.cells #[.pointer (k.2.1),k.2.2] 165 (0,0)),bY 5 1 k.2.2 (b++(l.take g.1).flatMap bm++kK x k.1).length ((b++(l.take g.1).flatMap bm++kK x k.1).map au)] [f]) (λk=>k.1<=8/\(k.2.1=none\/k.2.1=some ⟨d,0,none⟩)) (λk=>8-k.1) (0,g.2.1,g.2.2) ⟨Nat.zero_le _,s⟩ (sc O (sc O (sc O (sc O (sc O (sc O sn)))))) (λ_ h=>by simpa [kK] using h) ?_;intro k ⟨J,u⟩;refine Cs (aa (ad O (I (aJ O O) (ae ?_))));refine Cc O (λo=>?_) (λo=>?_)
  ·have y:k.1<8:=by simp at o; omega
   refine bf (Cs (Cb (Cr (ad O (ad O (ad O (I (KF O O (by omega)) ?_)))))))
   refine Lw (ι:=Value) [_,_] _ Y O tv O O (λ_=>.tuple #[]) (λz=>[aq d (.cells #[.pointer (some ⟨d,0,none⟩),z] 165 (0,0)),bY 5 1 z (b++(l.take g.1).flatMap bm++kK x k.1++[c_ (x.fdiv (2 ^ (56-8*k.1)))]).length ((b++(l.take g.1).flatMap bm++kK x k.1++[c_ (x.fdiv (2 ^ (56-8*k.1)))]).map au)]) (λ_=>True) [] (by simp) (λw i=>by
       have:=tw d k.2.1 k.2.2 (b++(l.take g.1).flatMap bm++kK x k.1) (x.fdiv (2 ^ (56-8*k.1))) w u (by simp only [List.length_append,SQ,LJ,List.length_take,List.length_singleton]; omega) i
       have e:min (56-8*(k.1:Int)).toNat IntKind.i64.bits=56-8*k.1:=by simp [IntKind.bits]; omega
       rw [e]
       exact this) ?_
   intro p _;refine Ln (Eb (Et (Cr (ad O (I (nU (56-8*((k.1+1:Nat):Int)) O O (by omega) (by omega)) (ai O (Ln ?_)))))))
   exact Ea ((k.1+1,some ⟨d,0,none⟩,p):Nat×Option Addr×Value) (by first | omega | (dsimp only; omega)) ⟨by first | omega | (dsimp only; omega),.inr O⟩ (sc O (sc O (sc O (sc O (sc O (sc O sn)))))) (λ_ h=>by
     have e:=SO x k.1
     show Ws _ _ [aq d (.cells #[.pointer (some ⟨d,0,none⟩),p] 165 (0,0)),bY 5 1 p (b++(l.take g.1).flatMap bm++kK x (k.1+1)).length ((b++(l.take g.1).flatMap bm++kK x (k.1+1)).map au)] _ _
     rw [e,<-List.append_assoc]
     exact h)
  have y:k.1=8:=by simp at o; omega
  refine Ce (Ex (Ex (cp (Eb (Et (Cr (I (Yi O O O (by omega)) (ad O (Ln ?_)))))))))
  exact Ea ((g.1+1,k.2.1,k.2.2):Nat×Option Addr×Value) (by first | omega | (dsimp only; omega)) ⟨by first | omega | (dsimp only; omega),u⟩ (sc O (sc O (sc O (sc O sn)))) (λ_ h=>by
    have e:b++(l.take g.1).flatMap bm++kK x k.1=b++(l.take (g.1+1)).flatMap bm:=by
      rw [y,SN,List.take_add_one,t]; simp
    rw [e] at h
    exact h)
 have E:g.1=l.length:=by simp at m; omega
 refine Ce (Ex (Ex (cp ?_)));refine E0 O λw' i=>?_;rw [E,List.take_length] at i;exact ⟨(g.2.1,g.2.2),O,s,i⟩
def oT:List PanicEntry:=[⟨.iface 278 (.agg #[]),false,false⟩]
theorem S2 {s:List UInt8} {r:Int×List UInt8} (h:l7 s=some r):0<=r.1/\r.1<256:=by
 cases s with
 | nil=>cases h
 | cons x q=>simp only [l7] at h; injection h with h; subst h; have:=x.toNat_lt; simp; omega
theorem sU {s:List UInt8} {r:Int×List UInt8} (h:l7 s=some r):r.2.length<=s.length:=by
 cases s with
 | nil=>cases h
 | cons x q=>simp only [l7] at h; injection h with h; subst h; simp
theorem sV {s:List UInt8} {r:List UInt8×List UInt8} (h:oh s=some r):r.2.length<=s.length:=by
 cases s with
 | nil=>cases h
 | cons x q=>simp only [oh] at h; split at h; cases h; injection h with h; subst h; simp; omega
theorem xa {s:List UInt8} {r:Int×List UInt8} (h:lz s=some r):r.2.length<=s.length:=by
 unfold lz at h; split at h; cases h; injection h with h; subst h; simp
theorem vA:an Tryz.prog 229 0=some 0:=by kernel_rfl
theorem S3:aK Tryz.prog 278=some []:=by kernel_rfl
theorem S4:zeroOf Tryz.prog 278=some (.agg #[]):=by kernel_rfl
theorem S5:Tryz.prog.concrete 278=true:=by kernel_rfl
theorem ju:Enters Tryz.prog 131:=enters_of Tryz.func131 (by kernel_rfl) rfl
theorem Cd:Enters Tryz.prog 58:=enters_of Tryz.func58 (by kernel_rfl) rfl
theorem S6:eG Tryz.prog 5=true:=by kernel_rfl
theorem kN (a:Nat) (s:List UInt8) (n:Nat) (w:World) (f:s.length<=9223372036854775807) (b:Ws w [a] [aq a (.cells #[st (s)] 229 (0,0))] [] w)  :
   Calls Tryz.prog 131 #[.pointer (some ⟨a,0,none⟩),.int .i64 (n:Int)] w λe w'=>(∃r:List UInt8×List UInt8,e = .returned (st r.1)/\(if s.length<n then none else some (s.take n,s.drop n))=some r/\Ws w [a] [aq a (.cells #[st (r.2)] 229 (0,0))] [] w')\/(∃t:List UInt8,e = .panicked oT/\(if s.length<n then none else some (s.take n,s.drop n))=none/\Ws w [a] [aq a (.cells #[st (t)] 229 (0,0))] [] w'):=by
 refine enter Tryz.func131 O 31 O O ?_;refine CE b (aa (ai O (ae (Cs (aa (ad O (ad O (I (cy O) (I (Yf vA O) ?_)))))))));refine I (Yd 0 O O O cN) (I (mX dO O) (I (dc O O) (ae ?_)));refine Cc O (λc=>?_) (λc=>?_)
 ·have d:s.length<n:=by simpa using c
  refine Cr (I (Yb S4 S3 O O) (I (bL S5 O) ?_));refine WL.panic Y O ?_;refine Ep ?_;refine b6 λw' b=>?_;exact .inr ⟨s,O,by rw [if_pos d],b⟩
 have d:¬s.length<n:=by simpa using c
 refine bf (aa (ad O (I (cy O) (I (Yf vA O) (I (Yd 0 O O O cN) (ad O (I (yR dO O O (by omega) (by omega)) (ai O ?_))))))));refine ae (aa (ad O (ad O (I (cy O) (I (Yf vA O) (I (Yd 0 O O O cN) (ad O (I (wb dO O O (by omega) (by omega)) ?_))))))));refine I (cy O) (I (Yf vA O) (aO 0 Y O O O tg O O O (ae (aa (ad O (ai O (ae (aX ?_))))))));refine R1 O O λw' b=>?_;exact .inl ⟨(s.take n,s.drop n),O,by rw [if_neg d],b⟩
theorem Cf (a:Nat) (s:List UInt8)  (w:World) (d:s.length<=9223372036854775807) (b:Ws w [a] [aq a (.cells #[st (s)] 229 (0,0))] [] w) :
   Calls Tryz.prog 58 #[.pointer (some ⟨a,0,none⟩)] w λe w'=>(∃r:Int×List UInt8,e = .returned (.int .i64 r.1)/\l7 s=some r/\Ws w [a] [aq a (.cells #[st (r.2)] 229 (0,0))] [] w')\/(∃t:List UInt8,e = .panicked oT/\l7 s=none/\Ws w [a] [aq a (.cells #[st (t)] 229 (0,0))] [] w'):=by
 refine enter Tryz.func58 O 7 O O ?_;refine CE b (aa (ai O (ae (aa (ad O ?_)))));refine dF [_] _ Y O ju O O _ _ _ _ _ _ ([]) (by simp) (λw b=>kN a (s) 1 w d b) ?_ ?_
 ·intro t f;refine Ep ?_;refine b6 λw' b=>?_;exact .inr ⟨t,O,(by cases s with | nil=>rfl | cons x q=>simp at f),b⟩
 intro r c
 obtain ⟨x,q,rfl⟩:∃x q,s=x::q:=by
   cases s with
   | nil=>simp at c
   | cons x q=>exact ⟨x,q,rfl⟩
 obtain rfl:r=([x],q):=by simp at c; exact c.symm
 refine I (qZ dO O O (u:=x) O) (I (de s0 gZ O) (ai O (ae (aX ?_))));refine R1 O O λw' b=>?_;refine .inl ⟨((x.toNat:Int),q),?_,O,b⟩;rw [show IntKind.i64.wrap (x.toNat:Int)=(x.toNat:Int) from vN (by have:=x.toNat_lt; omega)]
theorem IX (a:Nat) (s:List UInt8)  (w:World) (f:s.length<=9223372036854775807) (b:Ws w [a] [aq a (.cells #[st (s)] 229 (0,0))] [] w) :
   Calls Tryz.prog 53 #[.pointer (some ⟨a,0,none⟩)] w λe w'=>(∃r:List UInt8×List UInt8,e = .returned (st r.1)/\oh s=some r/\Ws w [a] [aq a (.cells #[st (r.2)] 229 (0,0))] [] w')\/(∃t:List UInt8,e = .panicked oT/\oh s=none/\Ws w [a] [aq a (.cells #[st (t)] 229 (0,0))] [] w'):=by
 refine enter Tryz.func53 O 7 O O ?_;refine CE b (aa (ai O (ae (aa (ad O (ad O ?_))))));refine dF [_] _ Y O Cd O O _ _ _ _ _ _ ([]) (by simp) (λw b=>Cf a (s)  w f b) ?_ ?_
 ·intro t d;refine Ep ?_;refine b6 λw' b=>?_;exact .inr ⟨t,O,(by cases s with | nil=>rfl | cons x q=>cases d),b⟩
 intro r c
 obtain ⟨x,q,rfl⟩:∃x q,s=x::q:=by
   cases s with
   | nil=>cases c
   | cons x q=>exact ⟨x,q,rfl⟩
 obtain rfl:r=((x.toNat:Int),q):=by simp only [l7] at c; injection c with c; exact c.symm
 refine dF (ι:=List UInt8×List UInt8) (κ:=List UInt8) [_] _ Y O ju O O (λr=>st r.1) (λr=>[aq a (.cells #[st (r.2)] 229 (0,0))]) (λr=>(if q.length<x.toNat then none else some (q.take x.toNat,q.drop x.toNat))=some r) (λ_=>oT) (λt=>[aq a (.cells #[st (t)] 229 (0,0))]) (λ_=>(if q.length<x.toNat then none else some (q.take x.toNat,q.drop x.toNat))=none) ([]) (by simp) (λw b=>kN a (q) x.toNat w (by simp at f; omega) b) ?_ ?_
 ·intro t d;refine Ep ?_;refine b6 λw' b=>?_;exact .inr ⟨t,O,d,b⟩
 intro r c;refine ai O (ae (aX ?_));refine R1 O O λw' b=>?_;exact .inl ⟨r,O,c,b⟩
theorem IY (a:Nat) (s:List UInt8)  (w:World) (m:s.length<=9223372036854775807) (c:Ws w [a] [aq a (.cells #[st (s)] 229 (0,0))] [] w) :
   Calls Tryz.prog 55 #[.pointer (some ⟨a,0,none⟩)] w λe w'=>(∃r:Int×List UInt8,e = .returned (.int .i64 r.1)/\lz s=some r/\Ws w [a] [aq a (.cells #[st (r.2)] 229 (0,0))] [] w')\/(∃t:List UInt8,e = .panicked oT/\lz s=none/\Ws w [a] [aq a (.cells #[st (t)] 229 (0,0))] [] w'):=by
 refine enter Tryz.func55 O 21 O O ?_;refine CE c (aa (ai O (ae (aa (ai O (ae (Cs (aa (ad O ?_)))))))));refine dF [_] _ Y O ju O O _ _ _ _ _ _ ([]) (by simp) (λw c=>kN a (s) 8 w m c) ?_ ?_
 ·intro t g;refine Ep (Ep ?_);refine b6 λw' c=>?_;exact .inr ⟨t,O,(by unfold lz; split; rfl; rename_i h; rw [if_neg h] at g; cases g),c⟩
 intro r d
 have j:¬s.length<8:=by intro h; rw [if_pos h] at d; cases d
 rw [if_neg j] at d;obtain ⟨q,u⟩:=r
 injection d with d
 injection d with k o
 have y:q.length=8:=by rw [<-k]; simp; omega
 dsimp only;refine WL.KX Y O dO SY s0 O λz A B=>?_;refine I (Yn yb O) (ad O (ae (Cb ?_)));refine CW (ι:=Nat) (λi=>[(10,.int .i64 (i:Int)),(3,.int .i64 (numOf (q.take i)))]) [(2,_),(8,_),(9,_)] (λi=>i<=8) (λi=>8-i) 0 (Nat.zero_le _) (sc O (sc O (sc O (sc O (sc O sn))))) ?_;intro i hi;refine aa (I (b0 O O) (ae (Cs ?_)));refine Cc O (λf=>?_) (λf=>?_)
 ·have C:i<8:=by simp at f; omega
  obtain ⟨x,l⟩:∃x,q[i]? = some x:=⟨_,List.getElem?_eq_getElem (by omega)⟩;refine bf (Cs (Cb (aa (I (CD yb O O (by omega)) ?_))));refine I (Yd 0 O O (v:=au x) (by simp only [f_,Nat.zero_add,Nat.mul_one]; rw [List.getElem?_append_left (by simp; omega)]; simp [l]) S6) ?_;refine ai O (ae (Cr (ad O (I (KT 8 O O (by decide)) (ad O (I (de s0 gZ O) (I (zX (n:=numOf (q.take i)) (b:=x.toNat) O (by rw [show IntKind.i64.wrap (x.toNat:Int)=(x.toNat:Int) from vN (by have:=x.toNat_lt; omega)]; rfl) (x.toNat_lt)) (ai O ?_))))))));refine Ln (Eb (Et (Cr (I (Yi O O O (by omega)) (ad O (Ln ?_))))));rw [show IntKind.i64.wrap (numOf (q.take i)*256+(x.toNat:Nat))=numOf (q.take (i+1)) by rw [List.take_add_one,l]; simp [numOf]];exact Ea (i+1) (by omega) (by omega) (sc O (sc O (sc O (sc O (sc O sn))))) (λ_ h=>h)
 have p:i=8:=by simp at f; omega
 refine Ce (Ex (Ex (cp (Et (aa (ad O (ai O (ae (aX ?_)))))))));refine R1 O O λw' c=>?_;subst p;exact .inl ⟨(numOf q,u),by rw [List.take_of_length_le (by omega)],by rw [lz,if_neg j,k,o],Wd 1 c⟩
theorem IZ {c:List bG} {x:Int} {p:Nat} {y:bG} (h:x.toNat=p) (b:c[p]? = some y):h2 c x=y.a:=by unfold h2; rw [h,b]; rfl
theorem yd {α β:Type} {f:α->List β} {l:List α} {i:Nat} {x:α} (h:l[i]? = some x):(l.take (i+1)).flatMap f=(l.take i).flatMap f++f x:=by
 rw [List.take_add_one,h]; simp
theorem S7:an Tryz.prog 108 2=some 2:=by kernel_rfl
end Go.Proofs.YtccenighnmfhgaaGreatDoor
end
