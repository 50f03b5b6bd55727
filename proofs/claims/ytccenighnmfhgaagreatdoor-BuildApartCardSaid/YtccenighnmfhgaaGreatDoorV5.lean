/- BuildApart: compiled one by one, each with the faces of its uses alone, and linked, modules are what Build tells. -/
import Derived.Test.YtccenighnmfhgaaGreatDoorV4
set_option linter.unusedVariables false
set_option linter.unusedSimpArgs false
set_option linter.defProp false
section
namespace Go.Proofs.YtccenighnmfhgaaGreatDoor
open Go.Bw Go.Proofs.Tryz
theorem gL:fk prog 203=some 5:=ab
theorem hJ:fk prog 38=some 7:=ab
theorem vk:cx prog 205 0=some 0:=ab
theorem fY:cx prog 40 0=some 0:=ab
theorem vl:cx prog 40 1=some 1:=ab
theorem vm:cx prog 40 2=some 2:=ab
theorem lR:fk prog 37=some 3:=ab
theorem gb:cx prog 89 0=some 0:=ab
theorem vn:cx prog 89 1=some 1:=ab
theorem mb:cx prog 89 2=some 2:=ab
theorem Rm (o p:View) (a1 a2:Option Addr) (c1 c2:Nat) (k j:Nat) (l:List aA) (w:World) (u:Le o w) (v:Le p w) (q:Sl (jn k) 5 o a1 c1 l) (r:Sl (jn j) 5 p a2 c2 l) :
   Calls prog 114 #[.slice a1 l.length c1,.slice a2 l.length c2] w λe w'=>e = .returned (.bool true)/\Ext w w':=by
 induction k using Nat.strongRecOn generalizing j a1 c1 a2 c2 l w
 rename_i k y;have F:=q.cap;have G:=q.max;have H:=r.cap;have J:=r.max;refine enter func114 O 81 O O ?_;refine CE (Vs:=[o,p]) (Ws.init (by simp [u,v])) (ag (ak O (aa (Cs (ag (ad O (I (Yn gL O) (ad O (I (Yn gL O) ?_)))))))));refine I (ki O O O) (aa ?_);refine WC.kg O ?_;refine bk (Cs (ag (ak O (aa (Cb ?_)))));refine bV (ι:=Nat) (λi=>[(5,.int .i64 (i:Int))]) [(0,_),(1,_)] (λi=>i<=l.length) (λi=>l.length-i) 0 (cq _) ?_;intro i hi;refine Cs (ag (ad O (ad O (I (Yn gL O) (I (ai O O) (aa ?_))))));refine Cc O (λs=>?_) (λs=>?_)
 ·have z:i<l.length:=by simpa using s
  obtain ⟨x,t⟩:=cg z;obtain ⟨pb,K,f,b⟩:=q.bT i x t;obtain ⟨L,M,m,c⟩:=r.bT i x t
  obtain ⟨a,rfl⟩:∃a,k=a+1:=by
    cases k with
    | zero=>exact b.elim
    | succ a=>exact ⟨a,rfl⟩
  obtain ⟨A,rfl⟩:∃a,j=a+1:=by
    cases j with
    | zero=>exact c.elim
    | succ a=>exact ⟨a,rfl⟩
  obtain ⟨B,n1,b,C⟩:=b;obtain ⟨D,n2,c,E⟩:=c;refine bk (Cs (Cb (Cs ?_)));refine WC.k3 [(0,true),(1,true),(2,true),(3,true),(4,true),(5,true),(6,true),(7,true),(8,true),(9,true),(10,true),(11,true),(12,true),(13,true),(14,true),(15,true),(16,true),(17,true),(18,true),(19,true),(20,true),(21,true),(22,true),(23,true),(24,true),(25,true),(26,true),(27,true),(28,true),(29,true),(30,true),(31,true),(32,true),(33,true),(34,true),(35,true),(36,true),(37,true),(38,true),(39,true),(40,true),(41,true),(42,true),(43,true),(44,true),(45,true),(46,true),(47,true),(48,true),(49,true),(50,true),(51,true),(52,true),(53,true),(54,true),(55,true),(56,true),(57,true),(58,true),(59,true),(60,true),(61,false),(62,true),(63,true)] mixed ab (λ_ _ _ d _ h=>by cases d<;>exact h) ?_;refine D0 O an (Ym O) (D0 O an (Ym O) (D0 O an (Yo gL O O f ae) (D0 O an (Yf og O) (D0 O an (cu 0 ab O O (b 0 _ O)) (D0 O an (Ym O) (D0 O an (Ym O) (D0 O an (Yo gL O O m ae) ?_)))))));refine D0 O an (Yf og O) (D0 O an (cu 1 ab O O (c 0 _ O)) (D0 O an (ki O O O) (D0 O an (Ym O) ?_)));apply WD.or 11 (x:=false) O O O O O Y O an O O O O
  ·intro N;refine Dq O (.g O O O) O an (Ym O) (Dq O (.g O O O) O an (Ym O) (Dq O (.g O O O) O an (Yo gL O O f ae) (Dq O (.g O O O) O an (Yf lO O) (Dq O (.g O O O) O an (cu 0 ab O O (b 1 _ O)) (Dq O (.g O O O) O an (Ym O) (Dq O (.g O O O) O an (Ym O) (Dq O (.g O O O) O an (Yo gL O O m ae) ?_)))))));refine Dq O (.g O O O) O an (Yf lO O) (Dq O (.g O O O) O an (cu 1 ab O O (c 1 _ O)) (Dq O (.g O O O) O an (ki O O O) ?_));exact Gi 11 an O O O
  refine D0 O an (Ym O) ?_;apply WD.or 11 (x:=false) O O O O O Y O an O O O O
  ·intro P;refine Dq O (.g O O O) O an (Ym O) (Dq O (.g O O O) O an (Ym O) (Dq O (.g O O O) O an (Yo gL O O f ae) (Dq O (.g O O O) O an (Yf lP O) (Dq O (.g O O O) O an (cu 0 ab O O (b 2 _ O)) (Dq O (.g O O O) O an (Ym O) (Dq O (.g O O O) O an (Ym O) (Dq O (.g O O O) O an (Yo gL O O m ae) ?_)))))));refine Dq O (.g O O O) O an (Yf lP O) (Dq O (.g O O O) O an (cu 1 ab O O (c 2 _ O)) (Dq O (.g O O O) O an (ki O O O) ?_));exact Gi 11 an O O O
  refine D0 O an (Ym O) ?_;apply WD.or 11 (x:=false) O O O O O Y O an O O O O
  ·intro Q;refine Dq O (.g O O O) O an (Ym O) (Dq O (.g O O O) O an (Ym O) (Dq O (.g O O O) O an (Yo gL O O f ae) (Dq O (.g O O O) O an (Yf kW O) (Dq O (.g O O O) O an (cu 0 ab O O (b 3 _ O)) (Dq O (.g O O O) O an (Ym O) (Dq O (.g O O O) O an (Ym O) (Dq O (.g O O O) O an (Yo gL O O m ae) ?_)))))));refine Dq O (.g O O O) O an (Yf kW O) (Dq O (.g O O O) O an (cu 1 ab O O (c 3 _ O)) (Dq O (.g O O O) O an (ki O O O) ?_));exact Gi 11 an O O O
  refine D0 O an (Ym O) ?_;apply WD.or 12 (x:=false) O O O O O Y O an O O O O
  ·intro R;refine Dq O (.g O O O) O an (Ym O) (Dq O (.g O O O) O an (Ym O) (Dq O (.g O O O) O an (Yo gL O O f ae) (Dq O (.g O O O) O an (Yf oh O) (Dq O (.g O O O) O an (cu 0 ab O O (b 4 _ O)) (Dq O (.g O O O) O an (Ym O) (Dq O (.g O O O) O an (Ym O) (Dq O (.g O O O) O an (Yo gL O O m ae) ?_)))))));refine Dq O (.g O O O) O an (Yf oh O) (Dq O (.g O O O) O an (cu 1 ab O O (c 4 _ O)) ?_);refine De O an ?_;refine Lp (.g O O O) O aC O (λw n=>y a ae B D n1 n2 A x.args w n.V n.V C E) (Ln (Ed (Dq O (.g O O O) O an (e5 O) ?_)));exact Gi 12 an O O O
  refine WD.nil an ?_;refine Et ?_;refine WC.kg O ?_;refine Ck (Eb (Et (Cr (ad O (I (Yi O O O ae) (ak O (Ln ?_)))))));exact b8 (i+1) ae ae an
 refine Ce (Ex (Ex (cB (Et (ag (ak O (aa (a7 ?_))))))));refine R1 O O λw' n=>?_;exact ⟨O,n.fr⟩
theorem K9 (o p:View) (a1 a2:Option Addr) (c1 c2:Nat) (s t k j:Nat) (l:List di) (w:World) (C:Le o w) (D:Le p w) (q:Sl (hS s k) 7 o a1 c1 l) (r:Sl (hS t j) 7 p a2 c2 l) :
   Calls prog 45 #[.slice a1 l.length c1,.slice a2 l.length c2] w λe w'=>e = .returned (.bool true)/\Ext w w':=by
 induction k using Nat.strongRecOn generalizing j a1 c1 a2 c2 l w
 rename_i k y;have M:=q.cap;have N:=q.max;have P:=r.cap;have Q:=r.max;refine enter func45 O 109 O O ?_;refine CE (Vs:=[o,p]) (Ws.init (by simp [C,D])) (ag (ak O (aa (Cs (ag (ad O (I (Yn hJ O) (ad O (I (Yn hJ O) ?_)))))))));refine I (ki O O O) (aa ?_);refine WC.kg O ?_;refine bk (Cs (ag (ak O (aa (Cb ?_)))));refine bV (ι:=Nat) (λi=>[(5,.int .i64 (i:Int))]) [(0,_),(1,_)] (λi=>i<=l.length) (λi=>l.length-i) 0 (cq _) ?_;intro i hi;refine Cs (ag (ad O (ad O (I (Yn hJ O) (I (ai O O) (aa ?_))))));refine Cc O (λz=>?_) (λz=>?_)
 ·have E:i<l.length:=by simpa using z
  obtain ⟨x,A⟩:=cg E;obtain ⟨pb,R,m,a⟩:=q.bT i x A;obtain ⟨S,T,n,b⟩:=r.bT i x A
  obtain ⟨c,rfl⟩:∃c,k=c+1:=by
    cases k with
    | zero=>exact a.elim
    | succ c=>exact ⟨c,rfl⟩
  obtain ⟨B,rfl⟩:∃c,j=c+1:=by
    cases j with
    | zero=>exact b.elim
    | succ c=>exact ⟨c,rfl⟩
  obtain ⟨u,a,F,G,H⟩:=a;obtain ⟨v,b,J,K,L⟩:=b;refine bk (Cs (Cb (Cs ?_)));refine WC.k3 [(0,true),(1,true),(2,true),(3,true),(4,true),(5,true),(6,true),(7,true),(8,true),(9,true),(10,true),(11,true),(12,true),(13,true),(14,true),(15,true),(16,true),(17,true),(18,true),(19,true),(20,true),(21,true),(22,true),(23,true),(24,true),(25,true),(26,true),(27,true),(28,true),(29,true),(30,true),(31,true),(32,true),(33,true),(34,true),(35,true),(36,true),(37,true),(38,true),(39,true),(40,true),(41,true),(42,true),(43,true),(44,true),(45,true),(46,true),(47,true),(48,true),(49,true),(50,true),(51,true),(52,true),(53,true),(54,true),(55,true),(56,true),(57,true),(58,true),(59,true),(60,true),(61,false),(62,true),(63,true),(64,true),(65,true),(66,true),(67,true),(68,true),(69,true),(70,true),(71,true),(72,true),(73,true),(74,true),(75,false),(76,true),(77,true),(78,true),(79,true),(80,true),(81,true),(82,true),(83,true),(84,true),(85,true),(86,true),(87,true),(88,true),(89,false),(90,true),(91,true)] mixed ab (λ_ _ _ d _ h=>by cases d<;>exact h) ?_;refine D0 O an (Ym O) (D0 O an (Ym O) (D0 O an (Yo hJ O O m ae) (D0 O an (Yf vk O) (D0 O an (cu 0 ab O O (a 0 _ O)) (D0 O an (Ym O) (D0 O an (Ym O) (D0 O an (Yo hJ O O n ae) ?_)))))));refine D0 O an (Yf vk O) (D0 O an (cu 1 ab O O (b 0 _ O)) (D0 O an (ki O O O) (D0 O an (Ym O) ?_)));apply WD.or 11 (x:=false) O O O O O Y O an O O O O
  ·intro U;refine Dq O (.g O O O) O an (Ym O) (Dq O (.g O O O) O an (Ym O) (Dq O (.g O O O) O an (Yo hJ O O m ae) (Dq O (.g O O O) O an (Yf ra O) (Dq O (.g O O O) O an (cu 0 ab O O (a 1 _ O)) (Dq O (.g O O O) O an (Ym O) (Dq O (.g O O O) O an (Ym O) (Dq O (.g O O O) O an (Yo hJ O O n ae) ?_)))))));refine Dq O (.g O O O) O an (Yf ra O) (Dq O (.g O O O) O an (cu 1 ab O O (b 1 _ O)) (Dq O (.g O O O) O an (ki O O O) ?_));exact Gi 11 an O O O
  refine D0 O an (Ym O) ?_;apply WD.or 11 (x:=false) O O O O O Y O an O O O O
  ·intro W;refine Dq O (.g O O O) O an (Ym O) (Dq O (.g O O O) O an (Ym O) (Dq O (.g O O O) O an (Yo hJ O O m ae) (Dq O (.g O O O) O an (Yf mm O) (Dq O (.g O O O) O an (cu 0 ab O O (a 2 _ O)) (Dq O (.g O O O) O an (Ym O) (Dq O (.g O O O) O an (Ym O) (Dq O (.g O O O) O an (Yo hJ O O n ae) ?_)))))));refine Dq O (.g O O O) O an (Yf mm O) (Dq O (.g O O O) O an (cu 1 ab O O (b 2 _ O)) (Dq O (.g O O O) O an (ki O O O) ?_));exact Gi 11 an O O O
  refine D0 O an (Ym O) ?_;apply WD.or 11 (x:=false) O O O O O Y O an O O O O
  ·intro X;refine Dq O (.g O O O) O an (Ym O) (Dq O (.g O O O) O an (Ym O) (Dq O (.g O O O) O an (Yo hJ O O m ae) (Dq O (.g O O O) O an (Yf mW O) (Dq O (.g O O O) O an (cu 0 ab O O (a 3 _ O)) (Dq O (.g O O O) O an (Ym O) (Dq O (.g O O O) O an (Ym O) (Dq O (.g O O O) O an (Yo hJ O O n ae) ?_)))))));refine Dq O (.g O O O) O an (Yf mW O) (Dq O (.g O O O) O an (cu 1 ab O O (b 3 _ O)) (Dq O (.g O O O) O an (ki O O O) ?_));exact Gi 11 an O O O
  refine D0 O an (Ym O) ?_;apply WD.or 12 (x:=false) O O O O O Y O an O O O O
  ·intro Z;refine Dq O (.g O O O) O an (Ym O) (Dq O (.g O O O) O an (Ym O) (Dq O (.g O O O) O an (Yo hJ O O m ae) (Dq O (.g O O O) O an (Yf nC O) (Dq O (.g O O O) O an (cu 0 ab O O (a 4 _ O)) (Dq O (.g O O O) O an (Ym O) (Dq O (.g O O O) O an (Ym O) (Dq O (.g O O O) O an (Yo hJ O O n ae) ?_)))))));refine Dq O (.g O O O) O an (Yf nC O) (Dq O (.g O O O) O an (cu 1 ab O O (b 4 _ O)) ?_);refine De O an ?_;refine Lp (.g O O O) O aC O (λw f=>Rm o p u.s1.1 v.s1.1 u.s1.2 v.s1.2 s t x.args w f.V f.V F J) (Ln (Ed (Dq O (.g O O O) O an (e5 O) ?_)));exact Gi 12 an O O O
  refine D0 O an (Ym O) ?_;apply WD.or 12 (x:=false) O O O O O Y O an O O O O
  ·intro ac;refine Dq O (.g O O O) O an (Ym O) (Dq O (.g O O O) O an (Ym O) (Dq O (.g O O O) O an (Yo hJ O O m ae) (Dq O (.g O O O) O an (Yf fW O) (Dq O (.g O O O) O an (cu 0 ab O O (a 5 _ O)) (Dq O (.g O O O) O an (Ym O) (Dq O (.g O O O) O an (Ym O) (Dq O (.g O O O) O an (Yo hJ O O n ae) ?_)))))));refine Dq O (.g O O O) O an (Yf fW O) (Dq O (.g O O O) O an (cu 1 ab O O (b 5 _ O)) ?_);refine De O an ?_;refine Lp (.g O O O) O aC O (λw f=>y c ae u.s2.1 v.s2.1 u.s2.2 v.s2.2 B x.body w f.V f.V G K) (Ln (Ed (Dq O (.g O O O) O an (e5 O) ?_)));exact Gi 12 an O O O
  refine D0 O an (Ym O) ?_;apply WD.or 12 (x:=false) O O O O O Y O an O O O O
  ·intro af;refine Dq O (.g O O O) O an (Ym O) (Dq O (.g O O O) O an (Ym O) (Dq O (.g O O O) O an (Yo hJ O O m ae) (Dq O (.g O O O) O an (Yf rb O) (Dq O (.g O O O) O an (cu 0 ab O O (a 6 _ O)) (Dq O (.g O O O) O an (Ym O) (Dq O (.g O O O) O an (Ym O) (Dq O (.g O O O) O an (Yo hJ O O n ae) ?_)))))));refine Dq O (.g O O O) O an (Yf rb O) (Dq O (.g O O O) O an (cu 1 ab O O (b 6 _ O)) ?_);refine De O an ?_;refine Lp (.g O O O) O aC O (λw f=>y c ae u.s3.1 v.s3.1 u.s3.2 v.s3.2 B x.other w f.V f.V H L) (Ln (Ed (Dq O (.g O O O) O an (e5 O) ?_)));exact Gi 12 an O O O
  refine WD.nil an ?_;refine Et ?_;refine WC.kg O ?_;refine Ck (Eb (Et (Cr (ad O (I (Yi O O O ae) (ak O (Ln ?_)))))));exact b8 (i+1) ae ae an
 refine Ce (Ex (Ex (cB (Et (ag (ak O (aa (a7 ?_))))))));refine R1 O O λw' f=>?_;exact ⟨O,f.fr⟩
theorem Ur (b c:View) (m n o p:Nat) (f j:jG) (u:cb) (w:World) (C:Le b w) (D:Le c w) (q:iV m o b f u) (r:iV n p c j u) :
   Calls prog 15 #[.agg (fH u f).toArray,.agg (fH u j).toArray] w λe w'=>e = .returned (.bool true)/\Ext w w':=by
 have s:=q.parts;have t:=r.parts;have H:=s.cap;have J:=s.max;have K:=t.cap;have L:=t.max;refine enter func15 O 94 O O ?_;refine CE (Vs:=[b,c]) (Ws.init (by simp [C,D])) (ag ?_);refine WL.box Y O O λM=>?_;refine WL.box Y O O λN=>?_;refine ak O (aa (Cs (ag (I (Yf fY O) (I (Yd 1 O O O ab) (I (Yf fY O) (I (Yd 0 O O O ab) (I (BZ O O O) (ad O ?_)))))))));apply Lo 6 (x:=false) O O O O Y O O O O O
 ·intro P;refine Vg (Yf vl O) (Vg (Yd 1 O O O ab) (Vg (Yf vl O) (Vg (Yd 0 O O O ab) (Lp (.g O O O) O aC O (λw a=>Tn b c f.s1.1 j.s1.1 f.s1.2 j.s1.2 u.aq w a.V a.V q.aq r.aq) (Vg (e5 O) ?_)))));exact Gt 6 O O O
 refine ad O ?_;apply Lo 5 (x:=false) O O O O Y O O O O O
 ·intro Q;refine Vg (Yf vm O) (Vg (Yd 1 O O O ab) (Vg (Yf vm O) (Vg (Yd 0 O O O ab) (Vg (ki O O O) ?_))));exact Gt 5 O O O
 refine ad O ?_;apply Lo 7 (x:=false) O O O O Y O O O O O
 ·intro R;refine Vg (Yf mo O) (Vg (Yd 1 O O O ab) (Vg (Yn lR O) (Vg (Yf mo O) (Vg (Yd 0 O O O ab) (Vg (Yn lR O) (Vg (ki O O O) ?_))))));exact Gt 7 O O O
 refine ad O ?_;apply Lo 6 (x:=false) O O O O Y O O O O O
 ·intro S;refine Vg (Yf xC O) (Vg (Yd 1 O O O ab) (Vg (Yf xC O) (Vg (Yd 0 O O O ab) (Lp (.g O O O) O aC O (λw a=>K9 b c f.s3.1 j.s3.1 f.s3.2 j.s3.2 m n o p u.main w a.V a.V q.main r.main) (Vg (e5 O) ?_)))));exact Gt 6 O O O
 refine aa ?_;refine WC.kg O ?_;refine bk (Cs (ag (ak O (aa (Cb ?_)))));refine bV (ι:=Nat) (λi=>[(5,.int .i64 (i:Int))]) [(2,_),(3,_)] (λi=>i<=u.parts.length) (λi=>u.parts.length-i) 0 (cq _) ?_;intro i hi;refine Cs (ag (ad O (I (Yf mo O) (I (Yd 1 O O O ab) (I (Yn lR O) (I (ai O O) (aa ?_)))))));refine Cc O (λz=>?_) (λz=>?_)
 ·have E:i<u.parts.length:=by simpa using z
  obtain ⟨x,A⟩:=cg E;obtain ⟨pb,T,v,k⟩:=s.bT i x A;obtain ⟨U,W,y,l⟩:=t.bT i x A;obtain ⟨v1,k,F⟩:=k;obtain ⟨B,l,G⟩:=l;refine bk (Cs (Cb (Cs ?_)));refine WC.k3 [(0,true),(1,true),(2,true),(3,true),(4,true),(5,true),(6,true),(7,true),(8,true),(9,true),(10,true),(11,true),(12,true),(13,true),(14,true),(15,true),(16,true),(17,true),(18,true),(19,true),(20,true),(21,true),(22,true),(23,true),(24,true),(25,true),(26,true),(27,true),(28,true),(29,true),(30,true),(31,true),(32,true),(33,true),(34,true),(35,true),(36,true),(37,true),(38,true),(39,true),(40,true),(41,false),(42,true),(43,true)] mixed ab (λ_ _ _ d _ h=>by cases d<;>exact h) ?_;refine D0 O an (Yf mo O) (D0 O an (Yd 1 O O O ab) (D0 O an (Ym O) (D0 O an (Yo lR O O v ae) (D0 O an (Yf gb O) (D0 O an (cu 0 ab O O (k 0 _ O)) (D0 O an (Yf mo O) (D0 O an (Yd 0 O O O ab) ?_)))))));refine D0 O an (Ym O) (D0 O an (Yo lR O O y ae) (D0 O an (Yf gb O) (D0 O an (cu 1 ab O O (l 0 _ O)) (D0 O an (ki O O O) (D0 O an (Ym O) ?_)))));apply WD.or 13 (x:=false) O O O O O Y O an O O O O
  ·intro X;refine Dq O (.g O O O) O an (Yf mo O) (Dq O (.g O O O) O an (Yd 1 O O O ab) (Dq O (.g O O O) O an (Ym O) (Dq O (.g O O O) O an (Yo lR O O v ae) (Dq O (.g O O O) O an (Yf vn O) (Dq O (.g O O O) O an (cu 0 ab O O (k 1 _ O)) (Dq O (.g O O O) O an (Yf mo O) (Dq O (.g O O O) O an (Yd 0 O O O ab) ?_)))))));refine Dq O (.g O O O) O an (Ym O) (Dq O (.g O O O) O an (Yo lR O O y ae) (Dq O (.g O O O) O an (Yf vn O) (Dq O (.g O O O) O an (cu 1 ab O O (l 1 _ O)) (Dq O (.g O O O) O an (ki O O O) ?_))));exact Gi 13 an O O O
  refine D0 O an (Ym O) ?_;apply WD.or 14 (x:=false) O O O O O Y O an O O O O
  ·intro Z;refine Dq O (.g O O O) O an (Yf mo O) (Dq O (.g O O O) O an (Yd 1 O O O ab) (Dq O (.g O O O) O an (Ym O) (Dq O (.g O O O) O an (Yo lR O O v ae) (Dq O (.g O O O) O an (Yf mb O) (Dq O (.g O O O) O an (cu 0 ab O O (k 2 _ O)) (Dq O (.g O O O) O an (Yf mo O) (Dq O (.g O O O) O an (Yd 0 O O O ab) ?_)))))));refine Dq O (.g O O O) O an (Ym O) (Dq O (.g O O O) O an (Yo lR O O y ae) (Dq O (.g O O O) O an (Yf mb O) (Dq O (.g O O O) O an (cu 1 ab O O (l 2 _ O)) ?_)));refine De O an ?_;refine Lp (.g O O O) O aC O (λw a=>K9 b c v1.1 B.1 v1.2 B.2 m n o p x.body w a.V a.V F G) (Ln (Ed (Dq O (.g O O O) O an (e5 O) ?_)));exact Gi 14 an O O O
  refine WD.nil an ?_;refine Et ?_;refine WC.kg O ?_;refine Ck (Eb (Et (Cr (ad O (I (Yi O O O ae) (ak O (Ln ?_)))))));exact b8 (i+1) ae ae an
 refine Ce (Ex (Ex (cB (Et (ag (ak O (aa (a7 ?_))))))));refine R1 O O λw' a=>?_;exact ⟨O,a.fr⟩
def aV:aX:=(⟨[99,110,116],[],[(⟨1,[107],true,3⟩:cQ),(⟨2,[115,117,109],true,0⟩:cQ),(⟨3,[116],true,4⟩:cQ)],[(⟨[100,111,119,110],true,[[110]],[[105]],[(bq.mk 1 [] [105] [(a8.mk 3 0 [] [110] [])] [] []),(bq.mk 5 [] [] [(a8.mk 3 0 [] [105] [])] [(bq.mk 1 [] [115,117,109] [(a8.mk 9 0 [] [] [(a8.mk 3 0 [] [115,117,109] []),(a8.mk 3 0 [] [105] [])])] [] []),(bq.mk 1 [] [105] [(a8.mk 10 0 [] [] [(a8.mk 3 0 [] [105] []),(a8.mk 1 1 [] [] [])])] [] [])] []),(bq.mk 6 [] [] [(a8.mk 3 0 [] [115,117,109] [])] [] [])]⟩:ed)],[]⟩:aX)
def gq:Tx:=[109,111,100,117,108,101,32,116,111,112,123,117,115,101,32,99,110,116,59,109,97,105,110,123,99,110,116,46,116,91,49,93,61,99,110,116,46,100,111,119,110,40,99,110,116,46,107,41,59,111,117,116,32,99,110,116,46,116,91,105,110,93,59,105,102,40,99,110,116,46,115,117,109,61,54,41,123,111,117,116,32,55,59,125,101,108,115,101,123,111,117,116,32,56,59,125,125,125]
def fi:aX:=(bN gq).1
def bh:List (List UInt8×List bx):=[(bw,p9)]
theorem Us:wM aV<=109951162777:=by decide +kernel
theorem K':(bN gq).2=0:=by decide +kernel
theorem Ut:cn aV=((bw,p9),0):=by decide +kernel
theorem sg (s:Tx):wM (bN s).1<=73728:=by
 unfold bN
 split
 · show wM pZ<=_; decide
 · rename_i h
   have a:(e' s).2=0:=by simpa using h
   have c:=(D4 a).len
   split
   · rename_i m b
     split
     · have:=JC b
       simp at this
       show wM m<=_
       omega
     · show wM pZ<=_; decide
   · show wM pZ<=_; decide
theorem Uu (w:World) :
   Calls prog 103 #[] w λe w'=>∃r:iQ,e = .returned (.agg (a6 aV r).toArray)/\Ext w w'/\jk 7 6 (nv w w') r aV:=by
 refine enter func103 O 33 O O ?_;refine CE (Vs:=[]) (Ws.init aj) (ag ?_);refine Al Y O ch λW=>?_;refine aa (ag (I (Yb p3 zS O O) (I (Yb p3 zS O O) (I (Yb p3 zS O O) ?_))));refine Lb Y O D3 O O O O λc=>?_;refine LN (rd:=sV) (f:=cQ.cells) (m:=3) 0 [(⟨1,[107],true,3⟩:cQ),(⟨2,[115,117,109],true,0⟩:cQ),(⟨3,[116],true,4⟩:cQ)] O O (λ_ a=>by cases a) cQ.ck cp (show 3<=3 by decide) aF λX d g=>?_;refine Lb Y O dT O O O O λh=>?_;refine LN (rd:=rdStr) (f:=c') (m:=1) 0 [[110]] O O (λ_ a=>by cases a) hO cp (show 1<=1 by decide) aF λZ i j=>?_;refine Lb Y O dT O O O O λk=>?_;refine LN (rd:=rdStr) (f:=c') (m:=1) 0 [[105]] O O (λ_ a=>by cases a) hO cp (show 1<=1 by decide) aF λab l n=>?_;refine I (Yb je mR O O) ?_;refine Lb Y O ky O O O O λo=>?_;refine LN (rd:=bK) (f:=XE.cells) (m:=1) 0 [((a8.mk 3 0 [] [110] []),none,0)] O O (λ_ a=>by cases a) XE.ck cp (show 1<=1 by decide) aF λac p q=>?_;refine I (Yb qY xq O O) (I (Yb je mR O O) ?_);refine Lb Y O ky O O O O λs=>?_;refine LN (rd:=bK) (f:=XE.cells) (m:=1) 0 [((a8.mk 3 0 [] [105] []),none,0)] O O (λ_ a=>by cases a) XE.ck cp (show 1<=1 by decide) aF λad t u=>?_;refine I (Yb je mR O O) (I (Yb je mR O O) ?_);refine Lb Y O ky O O O O λv=>?_;refine LN (rd:=bK) (f:=XE.cells) (m:=2) 0 [((a8.mk 3 0 [] [115,117,109] []),none,0),((a8.mk 3 0 [] [105] []),none,0)] O O (λ_ a=>by cases a) XE.ck cp (show 2<=2 by decide) aF λae x y=>?_;refine I (Yb je mR O O) ?_;refine Lb Y O ky O O O O λz=>?_;refine LN (rd:=bK) (f:=XE.cells) (m:=1) 0 [((a8.mk 9 0 [] [] [(a8.mk 3 0 [] [115,117,109] []),(a8.mk 3 0 [] [105] [])]),(some ⟨v,0,none⟩),2)] O O (λ_ a=>by cases a) XE.ck cp (show 1<=1 by decide) aF λaf A B=>?_;refine I (Yb qY xq O O) (I (Yb je mR O O) (I (Yb je mR O O) ?_));refine Lb Y O ky O O O O λC=>?_;refine LN (rd:=bK) (f:=XE.cells) (m:=2) 0 [((a8.mk 3 0 [] [105] []),none,0),((a8.mk 1 1 [] [] []),none,0)] O O (λ_ a=>by cases a) XE.ck cp (show 2<=2 by decide) aF λah D E=>?_;refine I (Yb je mR O O) ?_;refine Lb Y O ky O O O O λF=>?_;refine LN (rd:=bK) (f:=XE.cells) (m:=1) 0 [((a8.mk 10 0 [] [] [(a8.mk 3 0 [] [105] []),(a8.mk 1 1 [] [] [])]),(some ⟨C,0,none⟩),2)] O O (λ_ a=>by cases a) XE.ck cp (show 1<=1 by decide) aF λai G H=>?_;refine I (Yb qY xq O O) ?_;refine Lb Y O zR O O O O λJ=>?_;refine LN (rd:=zQ) (f:=SX.cells) (m:=2) 0 [((bq.mk 1 [] [115,117,109] [(a8.mk 9 0 [] [] [(a8.mk 3 0 [] [115,117,109] []),(a8.mk 3 0 [] [105] [])])] [] []),(⟨((some ⟨z,0,none⟩),1),(none,0),(none,0)⟩:oe)),((bq.mk 1 [] [105] [(a8.mk 10 0 [] [] [(a8.mk 3 0 [] [105] []),(a8.mk 1 1 [] [] [])])] [] []),(⟨((some ⟨F,0,none⟩),1),(none,0),(none,0)⟩:oe))] O O (λ_ a=>by cases a) SX.ck cp (show 2<=2 by decide) aF λak K L=>?_
 refine I (Yb qY xq O O) (I (Yb je mR O O) ?_);refine Lb Y O ky O O O O λM=>?_;refine LN (rd:=bK) (f:=XE.cells) (m:=1) 0 [((a8.mk 3 0 [] [115,117,109] []),none,0)] O O (λ_ a=>by cases a) XE.ck cp (show 1<=1 by decide) aF λal N P=>?_;refine I (Yb qY xq O O) ?_;refine Lb Y O zR O O O O λQ=>?_;refine LN (rd:=zQ) (f:=SX.cells) (m:=3) 0 [((bq.mk 1 [] [105] [(a8.mk 3 0 [] [110] [])] [] []),(⟨((some ⟨o,0,none⟩),1),(none,0),(none,0)⟩:oe)),((bq.mk 5 [] [] [(a8.mk 3 0 [] [105] [])] [(bq.mk 1 [] [115,117,109] [(a8.mk 9 0 [] [] [(a8.mk 3 0 [] [115,117,109] []),(a8.mk 3 0 [] [105] [])])] [] []),(bq.mk 1 [] [105] [(a8.mk 10 0 [] [] [(a8.mk 3 0 [] [105] []),(a8.mk 1 1 [] [] [])])] [] [])] []),(⟨((some ⟨s,0,none⟩),1),((some ⟨J,0,none⟩),2),(none,0)⟩:oe)),((bq.mk 6 [] [] [(a8.mk 3 0 [] [115,117,109] [])] [] []),(⟨((some ⟨M,0,none⟩),1),(none,0),(none,0)⟩:oe))] O O (λ_ a=>by cases a) SX.ck cp (show 3<=3 by decide) aF λam R S=>?_;refine I (Yb r_ Kr O O) ?_;refine Lb Y O D2 O O O O λT=>?_;refine LN (rd:=rY) (f:=PX.cells) (m:=1) 0 [((⟨[100,111,119,110],true,[[110]],[[105]],[(bq.mk 1 [] [105] [(a8.mk 3 0 [] [110] [])] [] []),(bq.mk 5 [] [] [(a8.mk 3 0 [] [105] [])] [(bq.mk 1 [] [115,117,109] [(a8.mk 9 0 [] [] [(a8.mk 3 0 [] [115,117,109] []),(a8.mk 3 0 [] [105] [])])] [] []),(bq.mk 1 [] [105] [(a8.mk 10 0 [] [] [(a8.mk 3 0 [] [105] []),(a8.mk 1 1 [] [] [])])] [] [])] []),(bq.mk 6 [] [] [(a8.mk 3 0 [] [115,117,109] [])] [] [])]⟩:ed),(⟨((some ⟨h,0,none⟩),1),((some ⟨k,0,none⟩),1),((some ⟨Q,0,none⟩),3)⟩:eF))] O O (λ_ a=>by cases a) PX.ck cp (show 1<=1 by decide) aF λan U V=>?_;refine I (Yb ch zT O O) (aQ 0 Y O O O mU O O O (aa (a7 ?_)));refine WE.t' 0 O O O iG O λw' b=>?_;exact ⟨⟨none,0,(some ⟨c,0,none⟩),3,(some ⟨T,0,none⟩),1,none,0⟩,O,b.fr,⟨Sl.nil,(D1 g (cU b aj d)),(Ko V (cU b aj U) (bF.refl _) ((p6.nil _).snoc (bF.refl _) (bF.refl _) ⟨(o7 j (cU b aj i)),(o7 n (cU b aj l)),(DW S (cU b aj R) (bF.refl _) ((((o6.nil _ 5).snoc (bF.refl _) (bF.refl _) ⟨(kx q (cU b aj p) (bF.refl _) ((hr.nil _ 6).snoc (bF.refl _) (bF.refl _) Sl.nil)),Sl.nil,Sl.nil⟩).snoc (bF.refl _) (bF.refl _) ⟨(kx u (cU b aj t) (bF.refl _) ((hr.nil _ 6).snoc (bF.refl _) (bF.refl _) Sl.nil)),(DW L (cU b aj K) (bF.refl _) (((o6.nil _ 4).snoc (bF.refl _) (bF.refl _) ⟨(kx B (cU b aj A) (bF.refl _) ((hr.nil _ 6).snoc (bF.refl _) (bF.refl _) (kx y (cU b aj x) (bF.refl _) (((hr.nil _ 5).snoc (bF.refl _) (bF.refl _) Sl.nil).snoc (bF.refl _) (bF.refl _) Sl.nil)))),Sl.nil,Sl.nil⟩).snoc (bF.refl _) (bF.refl _) ⟨(kx H (cU b aj G) (bF.refl _) ((hr.nil _ 6).snoc (bF.refl _) (bF.refl _) (kx E (cU b aj D) (bF.refl _) (((hr.nil _ 5).snoc (bF.refl _) (bF.refl _) Sl.nil).snoc (bF.refl _) (bF.refl _) Sl.nil)))),Sl.nil,Sl.nil⟩)),Sl.nil⟩).snoc (bF.refl _) (bF.refl _) ⟨(kx P (cU b aj N) (bF.refl _) ((hr.nil _ 6).snoc (bF.refl _) (bF.refl _) Sl.nil)),Sl.nil,Sl.nil⟩))⟩)),Sl.nil⟩⟩
theorem xD (w:World) :
   Calls prog 37 #[] w λe w'=>e = .returned (st gq)/\Ext w w':=by
 refine enter func37 O 1 O O ?_;refine CE (Vs:=[]) (Ws.init aj) (ag (ak O (aa (ag (ak O (aa (a7 ?_)))))));refine R1 O O λw' a=>?_;exact ⟨O,a.fr⟩
theorem Ah:cx prog 235 0=some 0:=ab
theorem Ai:fk prog 124=some 3:=ab
theorem Aj:gP prog 126=some 3:=ab
theorem xE:zeroOf prog 126=some (.agg #[.bool false,.int .i64 0,.slice none 0 0]):=ab
theorem Ak:dI prog 126=some 3:=ab
theorem K_:cx prog 126 0=some 0:=ab
theorem Uv:cx prog 126 1=some 1:=ab
theorem mn:cx prog 126 2=some 2:=ab
theorem iH:fk prog 54=some 1:=ab
theorem u':cx prog 235 1=some 1:=ab
theorem Am (b c:View) (d:Nat) (o:Option Addr) (p:Nat) (kn:List cv) (aB:Int) (m pl n:Int) (w:World) (t:Le b w) (u:Le c w) (q:vc b d 0=some (.slice o kn.length p)) (z:vc b d 1=some (.int .i64 aB)) (f:Sl nX 3 c o p kn) (A:0<=n/\n<=32) :
   Calls prog 218 #[.pointer (some ⟨d,0,none⟩),.int .i64 m,.int .i64 pl,.int .i64 n] w λe w'=>e = .returned (.bool (iB kn m pl n))/\Ext w w':=by
 have B:=f.cap;have C:=f.max;refine enter func218 O 52 O O ?_;refine CE (Vs:=[b,c]) (Ws.init (by simp [t,u])) (ag (ak O (aa (Cs (ag (ad O (I (ai O O) (ad O ?_))))))));apply Lo 7 O O O O Y O O O O O
 ·intro D;refine Vg (Ym O) (Vg (Ym O) (Vg (cJ O) (Vg (Yf Ah O) (Vg (cu 0 ab O O (q)) (Vg (Yn Ai O) (Vg (gw O O) ?_))))));exact Gt 7 O O O
 refine ad O ?_;apply Lo 2 O O O O Y O O O O O
 ·intro E;refine Vg (Ym O) (Vg (ai O O) ?_);exact Gt 2 O O O
 refine ad O ?_;apply Lo 2 O O O O Y O O O O O
 ·intro F;refine Vg (Ym O) (Vg (dO O O) ?_);exact Gt 2 O O O
 refine aa ?_;refine Cc O (λg=>?_) (λg=>?_)
 ·refine ag (ak O (aa (a7 (Er ?_))));refine R1 O O λw' a=>?_;exact ⟨by rw [y5 n g],a.fr⟩
 have i:lC kn m pl=false:=g;obtain ⟨⟨v,rfl,r⟩,G,H⟩:=y6 i;obtain ⟨k,j⟩:=cg r;obtain ⟨J,K,x,L,y,s⟩:=f.bT v k j;have M:=s.cap;have N:=s.max;refine bk (Cs (ag (ad O (I (cJ O) (I (Yf Ah O) (I (cu 0 ab O O (q)) (ad O (I (Yo Ai O O x r) (I (dV 1 Aj O O O (y)) ?_)))))))));refine Al Y O xE λP=>?_;refine aQ 0 Y O O O Ak O O O (aa (ag (I (Yf K_ O) (I (Yd 0 O O O ab) (aa ?_)))));refine Cc O (λl=>?_) (λl=>?_)
 ·refine ag (ad O (ad O (I (l0 O O ae) (I (Yf Uv O) (I (Yd 0 O O O ab) (I (ir O O) (ak O ?_)))))));refine aa (a7 (Er ?_));refine R1 O O λw' a=>?_;exact ⟨by rw [s7 i j,if_pos l],a.fr⟩
 refine bk (ag (ad O (I (bY O O) (ad O ?_))));apply Lo 4 O O O O Y O O O O O
 ·intro Q;refine Vg (Ym O) (Vg (Ym O) (Vg (l0 O O ae) (Vg (ir O O) ?_)));exact Gt 4 O O O
 refine ak O (aa (a7 ?_));refine R1 O O λw' a=>?_;exact ⟨by rw [s7 i j,if_neg (λe=>by have h:=l.symm.trans e; cases h)],a.fr⟩
theorem Hd (c d:View) (f:Nat) (r:Option Addr) (s:Nat) (kn:List cv) (aB:Int) (m pl n:Int) (w:World) (A:Le c w) (B:Le d w) (t:vc c f 0=some (.slice r kn.length s)) (L:vc c f 1=some (.int .i64 aB)) (g:Sl nX 3 d r s kn)  :
   Calls prog 220 #[.pointer (some ⟨f,0,none⟩),.int .i64 m,.int .i64 pl,.int .i64 n] w λe w'=>e = .returned (.bool (jq kn m pl n))/\Ext w w':=by
 have M:=g.cap;have N:=g.max;refine enter func220 O 54 O O ?_;refine CE (Vs:=[c,d]) (Ws.init (by simp [A,B])) (ag (ak O (aa (Cs (ag (ad O (I (ai O O) (ad O ?_))))))));apply Lo 7 O O O O Y O O O O O
 ·intro P;refine Vg (Ym O) (Vg (Ym O) (Vg (cJ O) (Vg (Yf Ah O) (Vg (cu 0 ab O O (t)) (Vg (Yn Ai O) (Vg (gw O O) ?_))))));exact Gt 7 O O O
 refine ad O ?_;apply Lo 2 O O O O Y O O O O O
 ·intro Q;refine Vg (Ym O) (Vg (ai O O) ?_);exact Gt 2 O O O
 refine aa ?_;refine Cc O (λi=>?_) (λi=>?_)
 ·refine ag (ak O (aa (a7 (Er ?_))));refine R1 O O λw' b=>?_;exact ⟨by rw [Ch n i],b.fr⟩
 have j:b5 kn m pl=false:=i;obtain ⟨⟨C,rfl,u⟩,a,rfl⟩:=Ci j;obtain ⟨k,l⟩:=cg u;obtain ⟨R,S,D,T,E,o⟩:=g.bT C k l;have U:=o.cap;have V:=o.max;refine bk (Cs (ag (ad O (I (cJ O) (I (Yf Ah O) (I (cu 0 ab O O (t)) (ad O (I (Yo Ai O O D u) (I (dV 1 Aj O O O (E)) ?_)))))))));refine Al Y O xE λW=>?_;refine aQ 0 Y O O O Ak O O O (aa (ag (I (Yf K_ O) (I (Yd 0 O O O ab) (aa ?_)))));refine Cc O (λp=>?_) (λp=>?_)
 ·refine ag (ad O (I (Yf mn O) (I (Yd 0 O O O ab) (I (Yn iH O) (I (ai O O) (ad O ?_))))));apply La 7 (x:=(k.parts[((a:Int)).toNat]?).getD 0==n) O O O O Y O O O O O
  ·intro F
   have v:a<k.parts.length:=by simpa using F
   obtain ⟨y,z⟩:=cg v;obtain ⟨G,H,J,q⟩:=o.bT a y z;have q:bR d G (H+a*1) (e8 y):=q
   have K:(k.parts[a]?).getD 0=y:=by rw [z]; rfl
   refine Vg (Yf mn O) (Vg (Yd 0 O O O ab) (Vg (Ym O) (Vg (Yo iH O O J v) (Vg (cu 1 ab O O (q 0 _ O)) (Vg (Ym O) (Vg (bY O O) ?_))))));rw [show (y==n)=((k.parts[((a:Int)).toNat]?).getD 0==n) from by rw [mu,K]];exact Gt 7 O O O
  refine ak O (aa (a7 (Er ?_)));refine R1 O O λw' b=>?_;exact ⟨by rw [rR j l,if_pos p],b.fr⟩
 refine bk (ag (ad O (I (ai O O) (ad O ?_))));apply La 2 O O O O Y O O O O O
 ·intro X;refine Vg (Ym O) (Vg (ir O O) ?_);exact Gt 2 O O O
 refine ak O (aa (a7 ?_));refine R1 O O λw' b=>?_;exact ⟨by rw [rR j l,if_neg (λe=>by have h:=p.symm.trans e; cases h)],b.fr⟩
theorem Hm (a b:View) (c:Nat) (d:Option Addr) (f:Nat) (kn:List cv) (aB:Int) (pl:Int) (w:World) (h:Le a w) (i:Le b w) (l:vc a c 0=some (.slice d kn.length f)) (j:vc a c 1=some (.int .i64 aB)) (g:Sl nX 3 b d f kn)  :
   Calls prog 217 #[.pointer (some ⟨c,0,none⟩),.int .i64 pl] w λe w'=>e = .returned (.bool (qD aB pl))/\Ext w w':=by
 have m:=g.cap;have n:=g.max;refine enter func217 O 15 O O ?_;refine CE (Vs:=[a,b]) (Ws.init (by simp [h,i])) (ag (ak O (aa (ag (ad O (I (gw O O) (ad O ?_)))))));apply La 6 O O O O Y O O O O O
 ·intro o;refine Vg (Ym O) (Vg (Ym O) (Vg (cJ O) (Vg (Yf u' O) (Vg (cu 0 ab O O (j)) (Vg (ai O O) ?_)))));exact Gt 6 O O O
 refine ak O (aa (a7 ?_));refine R1 O O λw' k=>?_;exact ⟨O,k.fr⟩
theorem Lc (n:Int) (w:World) :
   Calls prog 219 #[.int .i64 n] w λe w'=>e = .returned (.bool (oF n))/\Ext w w':=by
 refine enter func219 O 9 O O ?_;refine CE (Vs:=[]) (Ws.init aj) (ag (ak O (aa (ag (ad O (I (gw O O) (ad O ?_)))))));apply La 2 O O O O Y O O O O O
 ·intro b;refine Vg (Ym O) (Vg (ir O O) ?_);exact Gt 2 O O O
 refine ak O (aa (a7 ?_));refine R1 O O λw' a=>?_;exact ⟨O,a.fr⟩
theorem Uw (i j:View) (l:Nat) (p:Option Addr) (q:Nat) (kn:List cv) (aB:Int) (x:aA) (a:Option Addr) (c:Nat) (w:World) (Z:Le i w) (ac:Le j w) (v:vc i l 0=some (.slice p kn.length q)) (y:vc i l 1=some (.int .i64 aB)) (r:Sl nX 3 j p q kn)  :
   Calls prog 221 #[.pointer (some ⟨l,0,none⟩),.agg (oE x a c).toArray] w λe w'=>e = .returned (.bool (node1 kn aB x.op x.n x.m x.pl x.args.length))/\Ext w w':=by
 have ah:=r.cap;have ai:=r.max;refine enter func221 O 170 O O ?_;refine CE (Vs:=[i,j]) (Ws.init (by simp [Z,ac])) (ag ?_);refine WL.box Y O O λT=>?_;refine ak O (aa (Cs (ag (I (Yf oh O) (I (Yd 0 O O O ab) (I (Yn gL O) (ak O (aa (ag (I (Yf og O) ?_))))))))));refine I (Yd 0 O O O ab) (aa (Cb (ag (I (bY O O) (ak O (aa ?_))))));refine Cc O (λA=>?_) (λA=>?_)
 ·have f:x.op=1:=by simpa using A
  refine ag (I (Yf lP O) (I (Yd 0 O O O ab) (I (bY O O) (ad O ?_))));apply La 3 O O O O Y O O O O O
  ·intro aj;refine Vg (Yf kW O) (Vg (Yd 0 O O O ab) (Vg (bY O O) ?_));exact Gt 3 O O O
  refine ad O ?_;apply La 2 O O O O Y O O O O O
  ·intro al;refine Vg (Ym O) (Vg (bY O O) ?_);exact Gt 2 O O O
  refine ad O ?_;apply La 3 O O O O Y O O O O O
  ·intro am;refine Vg (Yf lO O) (Vg (Yd 0 O O O ab) (Vg (gw O O) ?_));exact Gt 3 O O O
  refine ad O ?_;apply La 3 O O O O Y O O O O O
  ·intro an;refine Vg (Yf lO O) (Vg (Yd 0 O O O ab) (Vg (ir O O) ?_));exact Gt 3 O O O
  refine ak O (aa (a7 (cG (Er ?_))));refine R1 O O λw' b=>?_;exact ⟨by rw [node1,if_pos f],b.fr⟩
 have k:¬x.op=1:=by simpa using A
 refine ag (I (bY O O) (ak O (aa ?_)));refine Cc O (λB=>?_) (λB=>?_)
 ·have f:x.op=3:=by simpa using B
  refine ag (I (Yf lO O) (I (Yd 0 O O O ab) (I (bY O O) (ad O ?_))));apply La 2 O O O O Y O O O O O
  ·intro ap;refine Vg (Ym O) (Vg (bY O O) ?_);exact Gt 2 O O O
  refine ad O ?_;apply La 6 O O O O Y O O O O O
  ·intro aq;refine Vg (Ym O) (Vg (Yf lP O) (Vg (Yd 0 O O O ab) (Vg (Yf kW O) (Vg (Yd 0 O O O ab) (Lp (.g O O O) O aC O (λw b=>Am i j l p q kn aB x.m x.pl 1 w b.V b.V v y r ae) ?_)))));exact Gt 6 O O O
  refine ak O (aa (a7 (cG (Er ?_))));refine R1 O O λw' b=>?_;exact ⟨by rw [node1,if_neg k,if_pos f],b.fr⟩
 have o:¬x.op=3:=by simpa using B
 refine ag (I (bY O O) (ak O (aa ?_)));refine Cc O (λC=>?_) (λC=>?_)
 ·have f:x.op=4:=by simpa using C
  refine ag (I (Yf lO O) (I (Yd 0 O O O ab) (Lp Y O aC O (λw b=>Lc _ w) (ad O ?_))));apply La 2 O O O O Y O O O O O
  ·intro ar;refine Vg (Ym O) (Vg (bY O O) ?_);exact Gt 2 O O O
  refine ad O ?_;apply La 8 O O O O Y O O O O O
  ·intro U
   have af:0<=x.n/\x.n<=32:=by
     unfold oF at U;simp at U;omega
   refine Vg (Ym O) (Vg (Yf lP O) (Vg (Yd 0 O O O ab) (Vg (Yf kW O) (Vg (Yd 0 O O O ab) (Vg (Yf lO O) (Vg (Yd 0 O O O ab) (Lp (.g O O O) O aC O (λw b=>Am i j l p q kn aB x.m x.pl x.n w b.V b.V v y r af) ?_)))))));exact Gt 8 O O O
  refine ak O (aa (a7 (cG (Er ?_))));refine R1 O O λw' b=>?_;exact ⟨by rw [node1,if_neg k,if_neg o,if_pos f],b.fr⟩
 have s:¬x.op=4:=by simpa using C
 refine ag (I (bY O O) (ak O (aa ?_)));refine Cc O (λD=>?_) (λD=>?_)
 ·have f:x.op=5:=by simpa using D
  refine ag (I (Yf lO O) (I (Yd 0 O O O ab) (I (bY O O) (ad O ?_))));apply La 7 O O O O Y O O O O O
  ·intro au;refine Vg (Ym O) (Vg (Yf lP O) (Vg (Yd 0 O O O ab) (Vg (Yf kW O) (Vg (Yd 0 O O O ab) (Vg (Ym O) (Lp (.g O O O) O aC O (λw b=>Hd i j l p q kn aB x.m x.pl x.args.length w b.V b.V v y r) ?_))))));exact Gt 7 O O O
  refine ak O (aa (a7 (cG (Er ?_))));refine R1 O O λw' b=>?_;exact ⟨by rw [node1,if_neg k,if_neg o,if_neg s,if_pos f],b.fr⟩
 have t:¬x.op=5:=by simpa using D
 refine ag (I (bY O O) (ak O (aa ?_)));refine Cc O (λE=>?_) (λE=>?_)
 ·have f:x.op=16:=by simpa using E
  refine ag (I (Yf lP O) (I (Yd 0 O O O ab) (I (bY O O) (ad O ?_))));apply La 3 O O O O Y O O O O O
  ·intro av;refine Vg (Yf lO O) (Vg (Yd 0 O O O ab) (Vg (bY O O) ?_));exact Gt 3 O O O
  refine ad O ?_;apply La 2 O O O O Y O O O O O
  ·intro aw;refine Vg (Ym O) (Vg (bY O O) ?_);exact Gt 2 O O O
  refine ad O ?_;apply La 4 O O O O Y O O O O O
  ·intro ax;refine Vg (Ym O) (Vg (Yf kW O) (Vg (Yd 0 O O O ab) (Lp (.g O O O) O aC O (λw b=>Hm i j l p q kn aB x.pl w b.V b.V v y r) ?_)));exact Gt 4 O O O
  refine ak O (aa (a7 (cG (Er ?_))));refine R1 O O λw' b=>?_;exact ⟨by rw [node1,if_neg k,if_neg o,if_neg s,if_neg t,if_pos f],b.fr⟩
 have z:¬x.op=16:=by simpa using E
 refine ag (I (bY O O) (ak O (aa ?_)));refine Cc O (λF=>?_) (λF=>?_)
 ·have f:x.op=2:=by simpa using F
  refine ag (I (Yf lP O) (I (Yd 0 O O O ab) (I (bY O O) (ad O ?_))));apply La 3 O O O O Y O O O O O
  ·intro ay;refine Vg (Yf kW O) (Vg (Yd 0 O O O ab) (Vg (bY O O) ?_));exact Gt 3 O O O
  refine ad O ?_;apply La 3 O O O O Y O O O O O
  ·intro az;refine Vg (Yf lO O) (Vg (Yd 0 O O O ab) (Vg (bY O O) ?_));exact Gt 3 O O O
  refine ad O ?_;apply La 2 O O O O Y O O O O O
  ·intro aD;refine Vg (Ym O) (Vg (bY O O) ?_);exact Gt 2 O O O
  refine ak O (aa (a7 (cG (Er ?_))));refine R1 O O λw' b=>?_;exact ⟨by rw [node1,if_neg k,if_neg o,if_neg s,if_neg t,if_neg z,if_pos f],b.fr⟩
 have G:¬x.op=2:=by simpa using F
 refine ag (I (bY O O) (ak O (aa ?_)));refine Cc O (λH=>?_) (λH=>?_)
 ·have f:x.op=6:=by simpa using H
  refine ag (I (Yf lP O) (I (Yd 0 O O O ab) (I (bY O O) (ad O ?_))));apply La 3 O O O O Y O O O O O
  ·intro aE;refine Vg (Yf kW O) (Vg (Yd 0 O O O ab) (Vg (bY O O) ?_));exact Gt 3 O O O
  refine ad O ?_;apply La 3 O O O O Y O O O O O
  ·intro aF;refine Vg (Yf lO O) (Vg (Yd 0 O O O ab) (Vg (bY O O) ?_));exact Gt 3 O O O
  refine ad O ?_;apply La 2 O O O O Y O O O O O
  ·intro aG;refine Vg (Ym O) (Vg (bY O O) ?_);exact Gt 2 O O O
  refine ak O (aa (a7 (cG (Er ?_))));refine R1 O O λw' b=>?_;exact ⟨by rw [node1,if_neg k,if_neg o,if_neg s,if_neg t,if_neg z,if_neg G,if_pos f],b.fr⟩
 have W:¬x.op=6:=by simpa using H
 refine WC.yF (ι:=Bool) (λu=>[(3,.pointer (some ⟨T,0,none⟩)),(5,.int .i64 (x.args.length:Int)),(143,.bool u)]) (λu=>Ws w [] [ao T (.cells (oE x a c).toArray 269 (0,0))] [i,j]) (λu=>u=decide (7<=x.op/\x.op<=15)) ?_ ?_
 ·refine ag (I (bY O O) (ak O (aa ?_)));refine Cc O (λJ=>?_) (λJ=>?_)
  ·refine Ck ?_
   exact jC (x.op==7) (by have d:x.op=7:=(by simpa using J); rw [d]; decide) (λ_ h=>by
     have h:=h.bu 0 rfl
     exact h)
  have aH:¬x.op=7:=by simpa using J
  refine ag (I (bY O O) (ak O (aa ?_)));refine Cc O (λK=>?_) (λK=>?_)
  ·refine Ck ?_
   exact jC (x.op==8) (by have d:x.op=8:=(by simpa using K); rw [d]; decide) (λ_ h=>by
     have h:=h.bu 0 rfl
     exact h)
  have aI:¬x.op=8:=by simpa using K
  refine ag (I (bY O O) (ak O (aa ?_)));refine Cc O (λL=>?_) (λL=>?_)
  ·refine Ck ?_
   exact jC (x.op==9) (by have d:x.op=9:=(by simpa using L); rw [d]; decide) (λ_ h=>by
     have h:=h.bu 0 rfl
     exact h)
  have aJ:¬x.op=9:=by simpa using L
  refine ag (I (bY O O) (ak O (aa ?_)));refine Cc O (λM=>?_) (λM=>?_)
  ·refine Ck ?_
   exact jC (x.op==10) (by have d:x.op=10:=(by simpa using M); rw [d]; decide) (λ_ h=>by
     have h:=h.bu 0 rfl
     exact h)
  have aK:¬x.op=10:=by simpa using M
  refine ag (I (bY O O) (ak O (aa ?_)));refine Cc O (λN=>?_) (λN=>?_)
  ·refine Ck ?_
   exact jC (x.op==11) (by have d:x.op=11:=(by simpa using N); rw [d]; decide) (λ_ h=>by
     have h:=h.bu 0 rfl
     exact h)
  have aL:¬x.op=11:=by simpa using N
  refine ag (I (bY O O) (ak O (aa ?_)));refine Cc O (λP=>?_) (λP=>?_)
  ·refine Ck ?_
   exact jC (x.op==12) (by have d:x.op=12:=(by simpa using P); rw [d]; decide) (λ_ h=>by
     have h:=h.bu 0 rfl
     exact h)
  have aM:¬x.op=12:=by simpa using P
  refine ag (I (bY O O) (ak O (aa ?_)));refine Cc O (λQ=>?_) (λQ=>?_)
  ·refine Ck ?_
   exact jC (x.op==13) (by have d:x.op=13:=(by simpa using Q); rw [d]; decide) (λ_ h=>by
     have h:=h.bu 0 rfl
     exact h)
  have aN:¬x.op=13:=by simpa using Q
  refine ag (I (bY O O) (ak O (aa ?_)));refine Cc O (λR=>?_) (λR=>?_)
  ·refine Ck ?_
   exact jC (x.op==14) (by have d:x.op=14:=(by simpa using R); rw [d]; decide) (λ_ h=>by
     have h:=h.bu 0 rfl
     exact h)
  have aO:¬x.op=14:=by simpa using R
  refine Cr (I (bY O O) (ak O (Ln ?_)))
  exact jC (x.op==15) (by rw [jz]; simp; omega) (λ_ h=>by
    have h:=h.bu 0 rfl
    exact h)
 intro u X;refine Cc O (λS=>?_) (λS=>?_)
 ·refine ag (I (Yf lP O) (I (Yd 0 O O O ab) (I (bY O O) (ad O ?_))));apply La 3 O O O O Y O O O O O
  ·intro aP;refine Vg (Yf kW O) (Vg (Yd 0 O O O ab) (Vg (bY O O) ?_));exact Gt 3 O O O
  refine ad O ?_;apply La 3 O O O O Y O O O O O
  ·intro aQ;refine Vg (Yf lO O) (Vg (Yd 0 O O O ab) (Vg (bY O O) ?_));exact Gt 3 O O O
  refine ad O ?_;apply La 2 O O O O Y O O O O O
  ·intro aR;refine Vg (Ym O) (Vg (bY O O) ?_);exact Gt 2 O O O
  refine ak O (aa (a7 (cG (Er ?_))));refine R1 O O λw' b=>?_;exact ⟨by rw [node1,if_neg k,if_neg o,if_neg s,if_neg t,if_neg z,if_neg G,if_neg W,if_pos (of_decide_eq_true (X.symm.trans S))],b.fr⟩
 refine Ck (Eb (Et (ag (ak O (aa (a7 ?_))))));refine R1 O O λw' b=>?_;exact ⟨by rw [node1,if_neg k,if_neg o,if_neg s,if_neg t,if_neg z,if_neg G,if_neg W,if_neg (of_decide_eq_false (X.symm.trans S))],b.fr⟩
theorem Ux {a b:Nat} (c:a<=9223372036854775807) (d:b<=9223372036854775807):(IntKind.i64.wrap ((a:Int)+(b:Int))==0)=((a:Int)+(b:Int)==0):=by
 rw [jz];simp only [beq_iff_eq];rw [IntKind.wrap_i64];omega
theorem Uy (f m:View) (n:Nat) (o:Option Addr) (p:Nat) (kn:List cv) (aB:Int) (q:View) (k:Nat) (l:List aA) (a:Option Addr) (c:Nat) (d:Nat) (w:World) (E:Le f w) (F:Le m w) (G:vc f n 0=some (.slice o kn.length p)) (H:vc f n 1=some (.int .i64 aB)) (r:Sl nX 3 m o p kn) (J:Le q w) (s:Sl (jn k) 5 q a c l) (R:d<=7) :
   Calls prog 173 #[.pointer (some ⟨n,0,none⟩),.slice a l.length c,.int .i64 (d:Int)] w λe w'=>e = .returned (.bool (fT kn aB l d))/\Ext w w':=by
 have S:=r.cap;have T:=r.max
 induction k using Nat.strongRecOn generalizing l a c d w
 rename_i k K;have U:=s.cap;have W:=s.max;refine enter func173 O 33 O O ?_;refine CE (Vs:=[f,m,q]) (Ws.init (by simp [E,F,J])) (ag (ak O (aa (Cs (ag (ad O (I (Yn gL O) (ad O (aa (Cb ?_))))))))));refine bV (ι:=Nat) (λi=>[(11,.int .i64 (i:Int))]) [(0,_),(2,_),(9,_),(10,_)] (λi=>i<=l.length/\(l.take i).all (kl kn aB · d)=true) (λi=>l.length-i) 0 ⟨cq _,O⟩ ?_;intro i ⟨hi,t⟩;refine ag (I (ai O O) (aa (Cs ?_)));refine Cc O (λu=>?_) (λu=>?_)
 ·have C:i<l.length:=by simpa using u
  obtain ⟨x,v⟩:=cg C;obtain ⟨X,Z,L,D⟩:=s.bT i x v
  obtain ⟨j,rfl⟩:∃j,k=j+1:=by
    cases k with
    | zero=>exact D.elim
    | succ j=>exact ⟨j,rfl⟩
  obtain ⟨y,z,M,N⟩:=D;refine bk (Cs (Cb (ag (I (Yo gL O O L C) (I (dV 2 kB O O O (M)) ?_)))));refine Al Y O xz λac=>?_;refine aQ 0 Y O O O z7 O O O (aa (Cs (fm 0 (.cells (oE x y z).toArray 269 (0,0)) O O (Cr (ad O (I (dO O O) (ad O ?_)))))));apply Lo 4 O O O O Y O O O O O
  ·intro af;refine Vg (Ym O) (Vg (cc 0 O O kB O) (Lp (.g O O O) O aC O (λw b=>Uw f m n o p kn aB x y z w b.V b.V G H r) (Vg (e5 O) ?_)));exact Gt 4 O O O
  refine ad O ?_;apply Lo 7 O O O O Y O O O O O
  ·intro P
   have ah:d<=6:=by
     have Q:=(hM.1 P).1;simp at Q; omega
   refine Vg (Ym O) (Vg (Yf oh O) (Vg (Yd 0 O O O ab) (Vg (Ym O) (Vg (Yi O O O ae) (Lp (.g O O O) O aC O (λw b=>K j ae x.args y z (d+1) w b.V b.V b.V N ae) (Vg (e5 O) ?_))))));exact Gt 7 O O O
  refine aa ?_;rw [ON];refine Cc O (λA=>?_) (λA=>?_)
  ·have B:kl kn aB x d=false:=by simpa using A
   refine ag (ak O (aa (a7 (cG (Er (Er (cG (Er ?_))))))));refine R1 O O λw' b=>?_;exact ⟨by rw [y7,j2 v B],b.fr⟩
  have B:kl kn aB x d=true:=by simpa using A
  refine Ck (Eb (Et (Cr (I (Yi O O O ae) (ad O (Ln ?_))))));exact b8 (i+1) ae ⟨ae,wF v t B⟩ (λ_ h=>Wd 1 h)
 have aj:¬i<l.length:=by simpa using u
 rw [kF ae] at t;refine Ce (Ex (Ex (cB (Et (ag (ak O (aa (a7 ?_))))))));refine R1 O O λw' b=>?_;exact ⟨by rw [y7,t],b.fr⟩
theorem Uz (b f:View) (i:Nat) (j:Option Addr) (k:Nat) (kn:List cv) (aB:Int) (x:di) (r:eU) (w:World) (J:Le b w) (K:Le f w) (s:vc b i 0=some (.slice j kn.length k)) (t:vc b i 1=some (.int .i64 aB)) (l:Sl nX 3 f j k kn) (L:x.body.length<=9223372036854775807) (M:x.other.length<=9223372036854775807) :
   Calls prog 172 #[.pointer (some ⟨i,0,none⟩),.agg (qB x r).toArray] w λe w'=>e = .returned (.bool (fI kn aB x.op x.n x.m x.pl x.args.length x.body.length x.other.length))/\Ext w w':=by
 have R:=l.cap;have S:=l.max;refine enter func172 O 135 O O ?_;refine CE (Vs:=[b,f]) (Ws.init (by simp [J,K])) (ag ?_);refine WL.box Y O O λN=>?_;refine ak O (aa (Cs ?_));refine WC.k3 [(0,true),(1,true),(2,true),(3,true),(4,true),(5,true),(6,true),(7,true),(8,true),(9,true),(10,true),(11,true),(12,true)] mixed ab (λ_ _ _ d _ h=>by cases d<;>exact h) ?_;refine D0 O an (Yf nC O) (D0 O an (Yd 0 O O O ab) (D0 O an (Yn gL O) (D0 O an (Yf fW O) (D0 O an (Yd 0 O O O ab) (D0 O an (Yn hJ O) (D0 O an (Yf rb O) (D0 O an (Yd 0 O O O ab) ?_)))))));refine D0 O an (Yn hJ O) (D0 O an (yi O O) (D0 O an (bY O O) ?_));rw [Ux L M];refine D0 O an (Ya O) (D0 O an (Ya O) ?_);refine WD.nil an ?_;refine Et (ag (I (Yf mm O) (I (Yd 0 O O O ab) (I (bY O O) (ad O ?_)))));apply La 3 O O O O Y O O O O O
 ·intro T;refine Vg (Yf mW O) (Vg (Yd 0 O O O ab) (Vg (bY O O) ?_));exact Gt 3 O O O
 refine ad O ?_;apply La 3 O O O O Y O O O O O
 ·intro U;refine Vg (Yf ra O) (Vg (Yd 0 O O O ab) (Vg (bY O O) ?_));exact Gt 3 O O O
 refine ak O (aa (Cs (ag (I (Yf vk O) (I (Yd 0 O O O ab) (aa (Cb (ag (I (bY O O) (ak O (aa ?_)))))))))));refine Cc O (λy=>?_) (λy=>?_)
 ·have c:x.op=1:=by simpa using y
  refine ag (ad O (ad O ?_));apply La 2 O O O O Y O O O O O
  ·intro W;refine Vg (Ym O) (Vg (bY O O) ?_);exact Gt 2 O O O
  refine ad O ?_;apply La 3 O O O O Y O O O O O
  ·intro X;refine Vg (Yf ra O) (Vg (Yd 0 O O O ab) (Vg (bY O O) ?_));exact Gt 3 O O O
  refine ad O ?_;apply La 17 O O O O Y O O O O O
  ·intro Z;refine Vg (Yf mm O) (Vg (Yd 0 O O O ab) (Vg (bY O O) (Vg (Ym O) ?_)));apply La 4 O O O O (.g O O O) O O O O O
   ·intro ac;refine Vg (Ym O) (Vg (Yf mW O) (Vg (Yd 0 O O O ab) (Lp (.g O O O) O aC O (λw a=>Hm b f i j k kn aB x.pl w a.V a.V s t l) ?_)));exact Gt 4 O O O
   refine Vg (Ym O) ?_;apply Lo 6 O O O O (.g O O O) O O O O O
   ·intro af;refine Vg (Ym O) (Vg (Yf mm O) (Vg (Yd 0 O O O ab) (Vg (Yf mW O) (Vg (Yd 0 O O O ab) (Lp (.g O O O) O aC O (λw a=>Am b f i j k kn aB x.m x.pl 1 w a.V a.V s t l ae) ?_)))));exact Gt 6 O O O
   exact Gt 7 O O O
  refine ak O (aa (a7 (cG (Er ?_))));refine R1 O O λw' a=>?_;exact ⟨by rw [fI,if_pos c],a.fr⟩
 have o:¬x.op=1:=by simpa using y
 refine ag (I (bY O O) (ak O (aa ?_)));refine Cc O (λz=>?_) (λz=>?_)
 ·have c:x.op=2:=by simpa using z
  refine ag (ad O (ad O ?_));apply La 2 O O O O Y O O O O O
  ·intro ah;refine Vg (Ym O) (Vg (bY O O) ?_);exact Gt 2 O O O
  refine ad O ?_;apply La 3 O O O O Y O O O O O
  ·intro ai;refine Vg (Yf ra O) (Vg (Yd 0 O O O ab) (Lp (.g O O O) O aC O (λw a=>Lc _ w) ?_));exact Gt 3 O O O
  refine ad O ?_;apply La 8 O O O O Y O O O O O
  ·intro P
   have Q:0<=x.n/\x.n<=32:=by
     have u:=(d'.1 P).2;unfold oF at u;simp at u;omega
   refine Vg (Ym O) (Vg (Yf mm O) (Vg (Yd 0 O O O ab) (Vg (Yf mW O) (Vg (Yd 0 O O O ab) (Vg (Yf ra O) (Vg (Yd 0 O O O ab) (Lp (.g O O O) O aC O (λw a=>Am b f i j k kn aB x.m x.pl x.n w a.V a.V s t l Q) ?_)))))));exact Gt 8 O O O
  refine ak O (aa (a7 (cG (Er ?_))));refine R1 O O λw' a=>?_;exact ⟨by rw [fI,if_neg o,if_pos c],a.fr⟩
 have p:¬x.op=2:=by simpa using z
 refine ag (I (bY O O) (ak O (aa ?_)));refine Cc O (λA=>?_) (λA=>?_)
 ·have c:x.op=3:=by simpa using A
  refine ag (ad O (ad O ?_));apply La 3 O O O O Y O O O O O
  ·intro aj;refine Vg (Yf ra O) (Vg (Yd 0 O O O ab) (Vg (bY O O) ?_));exact Gt 3 O O O
  refine ad O ?_;apply La 7 O O O O Y O O O O O
  ·intro al;refine Vg (Ym O) (Vg (Yf mm O) (Vg (Yd 0 O O O ab) (Vg (Yf mW O) (Vg (Yd 0 O O O ab) (Vg (Ym O) (Lp (.g O O O) O aC O (λw a=>Hd b f i j k kn aB x.m x.pl x.args.length w a.V a.V s t l) ?_))))));exact Gt 7 O O O
  refine ak O (aa (a7 (cG (Er ?_))));refine R1 O O λw' a=>?_;exact ⟨by rw [fI,if_neg o,if_neg p,if_pos c],a.fr⟩
 have v:¬x.op=3:=by simpa using A
 refine ag (I (bY O O) (ak O (aa ?_)));refine Cc O (λB=>?_) (λB=>?_)
 ·have c:x.op=4:=by simpa using B
  refine ag (ad O (ad O ?_));apply La 2 O O O O Y O O O O O
  ·intro am;refine Vg (Ym O) (Vg (bY O O) ?_);exact Gt 2 O O O
  refine ak O (aa (a7 (cG (Er ?_))));refine R1 O O λw' a=>?_;exact ⟨by rw [fI,if_neg o,if_neg p,if_neg v,if_pos c],a.fr⟩
 have C:¬x.op=4:=by simpa using B
 refine ag (I (bY O O) (ak O (aa ?_)));refine Cc O (λD=>?_) (λD=>?_)
 ·have c:x.op=5:=by simpa using D
  refine ag (ad O (ad O ?_));apply La 2 O O O O Y O O O O O
  ·intro ap;refine Vg (Ym O) (Vg (bY O O) ?_);exact Gt 2 O O O
  refine ad O ?_;apply La 4 O O O O Y O O O O O
  ·intro aq;refine Vg (Yf rb O) (Vg (Yd 0 O O O ab) (Vg (Yn hJ O) (Vg (bY O O) ?_)));exact Gt 4 O O O
  refine ak O (aa (a7 (cG (Er ?_))));refine R1 O O λw' a=>?_;exact ⟨by rw [fI,if_neg o,if_neg p,if_neg v,if_neg C,if_pos c],a.fr⟩
 have G:¬x.op=5:=by simpa using D
 refine WC.yF (ι:=Bool) (λq=>[(5,.int .i64 (x.args.length:Int)),(6,.bool ((x.body.length:Int)+(x.other.length:Int)==0)),(7,.bool (((x.m==0)&&(x.pl==0))&&(x.n==0))),(124,.bool q)]) (λq=>Ws w [] [ao N (.cells (qB x r).toArray 205 (0,0))] [b,f]) (λq=>q=decide (x.op=6\/x.op=7)) ?_ ?_
 ·refine ag (I (bY O O) (ak O (aa ?_)));refine Cc O (λE=>?_) (λE=>?_)
  ·refine Ck ?_
   exact jC (x.op==6) (by have u:x.op=6:=(by simpa using E); rw [u]; decide) (λ_ h=>by
     have h:=h.bu 0 rfl
     exact h)
  have ar:¬x.op=6:=by simpa using E
  refine Cr (I (bY O O) (ak O (Ln ?_)))
  exact jC (x.op==7) (by rw [jz]; simp; omega) (λ_ h=>by
    have h:=h.bu 0 rfl
    exact h)
 intro q H;refine Cc O (λF=>?_) (λF=>?_)
 ·refine ag (ad O (ad O ?_));apply La 1 O O O O Y O O O O O
  ·intro au;refine Vg (Ym O) ?_;exact Gt 1 O O O
  refine ad O ?_;apply La 2 O O O O Y O O O O O
  ·intro av;refine Vg (Ym O) (Vg (bY O O) ?_);exact Gt 2 O O O
  refine ak O (aa (a7 (cG (Er ?_))));refine R1 O O λw' a=>?_;exact ⟨by rw [fI,if_neg o,if_neg p,if_neg v,if_neg C,if_neg G,if_pos (of_decide_eq_true (H.symm.trans F))],a.fr⟩
 refine Ck (Eb (Et (ag (ak O (aa (a7 ?_))))));refine R1 O O λw' a=>?_;exact ⟨by rw [fI,if_neg o,if_neg p,if_neg v,if_neg C,if_neg G,if_neg (of_decide_eq_false (H.symm.trans F))],a.fr⟩
theorem Ho (f m:View) (n:Nat) (o:Option Addr) (p:Nat) (kn:List cv) (aB:Int) (q:View) (ke k:Nat) (l:List di) (a:Option Addr) (c:Nat) (d:Nat) (w:World) (L:Le f w) (M:Le m w) (E:vc f n 0=some (.slice o kn.length p)) (F:vc f n 1=some (.int .i64 aB)) (s:Sl nX 3 m o p kn) (N:Le q w) (t:Sl (hS ke k) 7 q a c l) (S:d<=7) :
   Calls prog 135 #[.pointer (some ⟨n,0,none⟩),.slice a l.length c,.int .i64 (d:Int)] w λe w'=>e = .returned (.bool (bf kn aB l d))/\Ext w w':=by
 have T:=s.cap;have U:=s.max
 induction k using Nat.strongRecOn generalizing l a c d w
 rename_i k G;have W:=t.cap;have X:=t.max;refine enter func135 O 68 O O ?_;refine CE (Vs:=[f,m,q]) (Ws.init (by simp [L,M,N])) (ag (ak O (aa (Cs (ag (ad O (I (dO O O) (ad O ?_))))))));apply Lo 3 O O O O Y O O O O O
 ·intro Z;refine Vg (Ym O) (Vg (Yn hJ O) (Vg (dO O O) ?_));exact Gt 3 O O O
 refine aa ?_;refine Cc O (λu=>?_) (λu=>?_)
 ·refine ag (ak O (aa (a7 (Er ?_))));refine R1 O O λw' b=>?_;exact ⟨by rw [OP kn aB l d u],b.fr⟩
 have H:=OQ u;refine bk (Cs (ag (ad O (I (Yn hJ O) (ad O (aa (Cb ?_)))))));refine bV (ι:=Nat) (λi=>[(18,.int .i64 (i:Int))]) [(0,_),(2,_),(16,_),(17,_)] (λi=>i<=l.length/\(l.take i).all (j3 kn aB · d)=true) (λi=>l.length-i) 0 ⟨cq _,O⟩ ?_;intro i ⟨hi,v⟩;refine ag (I (ai O O) (aa (Cs ?_)));refine Cc O (λy=>?_) (λy=>?_)
 ·have J:i<l.length:=by simpa using y
  obtain ⟨x,z⟩:=cg J;obtain ⟨ac,af,P,K⟩:=t.bT i x z
  obtain ⟨j,rfl⟩:∃j,k=j+1:=by
    cases k with
    | zero=>exact K.elim
    | succ j=>exact ⟨j,rfl⟩
  obtain ⟨r,Q,R,A,B⟩:=K;have ah:=A.cap;have aj:=A.max;have al:=B.cap;have am:=B.max;refine bk (Cs (Cb (ag (I (Yo hJ O O P J) (I (dV 2 vh O O O (Q)) ?_)))));refine Al Y O xA λan=>?_;refine aQ 0 Y O O O Ab O O O (aa (Cs (fm 0 (.cells (qB x r).toArray 205 (0,0)) O O (Cr (ad O (I (cc 0 O O vh O) (Lp Y O aC O (λw b=>Uz f m n o p kn aB x r w b.V b.V E F s ae ae) (I (e5 O) ?_))))))));refine ad O ?_;apply Lo 5 O O O O Y O O O O O
  ·intro ao;refine Vg (Ym O) (Vg (Yf nC O) (Vg (Yd 0 O O O ab) (Lp (.g O O O) O aC O (λw b=>Uy f m n o p kn aB q ke x.args r.s1.1 r.s1.2 1 w b.V b.V E F s b.V R ae) (Vg (e5 O) ?_))));exact Gt 5 O O O
  refine ad O ?_;apply Lo 17 O O O O Y O O O O O
  ·intro ap;refine Vg (Yf vk O) (Vg (Yd 0 O O O ab) (Vg (bY O O) (Vg (Ym O) ?_)));apply Lo 3 O O O O (.g O O O) O O O O O
   ·intro aq;refine Vg (Yf vk O) (Vg (Yd 0 O O O ab) (Vg (bY O O) ?_));exact Gt 3 O O O
   refine Vg (Ym O) ?_;apply La 7 O O O O (.g O O O) O O O O O
   ·intro ar;refine Vg (Ym O) (Vg (Yf fW O) (Vg (Yd 0 O O O ab) (Vg (Ym O) (Vg (Yi O O O ae) (Lp (.g O O O) O aC O (λw b=>G j ae x.body r.s2.1 r.s2.2 (d+1) w b.V b.V b.V A ae) (Vg (e5 O) ?_))))));exact Gt 7 O O O
   exact Gt 7 O O O
  refine ad O ?_;apply Lo 13 O O O O Y O O O O O
  ·intro au;refine Vg (Yf rb O) (Vg (Yd 0 O O O ab) (Vg (Yn hJ O) (Vg (dO O O) (Vg (Ym O) ?_))));apply La 7 O O O O (.g O O O) O O O O O
   ·intro av;refine Vg (Ym O) (Vg (Yf rb O) (Vg (Yd 0 O O O ab) (Vg (Ym O) (Vg (Yi O O O ae) (Lp (.g O O O) O aC O (λw b=>G j ae x.other r.s3.1 r.s3.2 (d+1) w b.V b.V b.V B ae) (Vg (e5 O) ?_))))));exact Gt 7 O O O
   exact Gt 6 O O O
  refine aa ?_;rw [OO];refine Cc O (λC=>?_) (λC=>?_)
  ·have D:j3 kn aB x d=false:=by simpa using C
   refine ag (ak O (aa (a7 (cG (Er (Er (cG (Er ?_))))))));refine R1 O O λw' b=>?_;exact ⟨by rw [G9 kn aB H,j2 z D],b.fr⟩
  have D:j3 kn aB x d=true:=by simpa using C
  refine Ck (Eb (Et (Cr (I (Yi O O O ae) (ad O (Ln ?_))))));exact b8 (i+1) ae ⟨ae,wF z v D⟩ (λ_ h=>Wd 1 h)
 have aw:¬i<l.length:=by simpa using y
 rw [kF ae] at v;refine Ce (Ex (Ex (cB (Et (ag (ak O (aa (a7 ?_))))))));refine R1 O O λw' b=>?_;exact ⟨by rw [G9 kn aB H,v],b.fr⟩
abbrev XK:=cv×(Option Addr×Nat)
def XK.cells (e:XK):List Value:=e.1.cells e.2
theorem XK.ck (e:XK):(XK.cells e).length=3:=rfl
theorem XK.one (e:XK):(XK.cells e).all (·.oneCell')=true:=rfl
def An (a:View) (b o:Nat) (e:XK):Prop:=bR a b o (XK.cells e)
def gh (J:View) (e:XK):Prop:=Sl qC 1 J e.2.1 e.2.2 e.1.parts
theorem gh.mv {A B:View} {e:XK} (hv:bF A B) (h:gh A e):gh B e:=h.imp λ_ _ _ r=>bR.mono hv r
def Hy (a:View) (b o:Nat) (e:XK):Prop:=bR a b o (XK.cells e)/\gh a e
theorem UA {d:View} {a:Option Addr} {c:Nat} {l:List cv} (h:Sl nX 3 d a c l):∃ys:List XK,ys.map (·.1)=l/\Sl Hy 3 d a c ys:=by
 obtain ⟨ys,j,k⟩:=Iw (β:=Option Addr×Nat) (p:=λi x r=>∃b o,a=some ⟨b,o,none⟩/\bR d b (o+i*3) (cv.cells x r)/\Sl qC 1 d r.1 r.2 x.parts) l 0 λi x m=>by
   obtain ⟨b,o,f,r,e,g⟩:=h.bT i x m;exact ⟨r,b,o,f,by rw [cj]; exact e,g⟩
 have n:ys.length=l.length:=by rw [<-j,eo]
 refine ⟨ys,j,by rw [n]; exact h.cap,h.max,h.spot,λi y q=>?_⟩;obtain ⟨b,o,f,e,g⟩:=k i y q;rw [cj] at e;exact ⟨b,o,f,e,g⟩
theorem HG {d N:View} {a:Option Addr} {c:Nat} {es:List XK} (h:Sl An 3 d a c es) (hv:bF d N) (j:∀e ∈ es,gh N e):Sl nX 3 N a c (es.map (·.1)):=by
 refine ⟨by rw [eo]; exact h.cap,h.max,h.spot,λi x f=>?_⟩;rw [eZ] at f;obtain ⟨y,g,rfl⟩:=dr.1 f;obtain ⟨b,o,k,l⟩:=h.bT i y g;exact ⟨b,o,k,y.2,bR.mono hv l,j y (ax g)⟩
theorem UB {u:cb} (h:nY u=false):u.parts.length<=6/\u.aq.length<=3/\0<=u.data/\u.data<=512:=by
 unfold nY at h;simp only [hM,decide_eq_false_iff_not] at h;omega
theorem UC {kn:List cv} {x:hR} (h:(((decide (x.params<0)||decide (3<x.params))||decide (x.locals<0))||decide (4<x.locals))=true):j4 kn x=false:=by unfold j4; rw [h]; rfl
theorem UD {kn:List cv} {x:hR} (h:(((decide (x.params<0)||decide (3<x.params))||decide (x.locals<0))||decide (4<x.locals))=false):j4 kn x=bf kn (x.params+x.locals) x.body 1:=by unfold j4; rw [h]; rfl
theorem UE (b:Bool):decide (1<(if b=true then (1:Int) else 0)+1)=b:=by cases b<;>decide
theorem UF:gx prog 126=some [(0,1),(1,1),(2,1)]:=ab
theorem Ao:gP prog 89=some 3:=ab
theorem vg:dI prog 89=some 3:=ab
theorem h2:gg prog 54 3 (.int .i64 0) 1 8:=iN ab
theorem vo:dI prog 54=some 1:=ab
theorem Ew:gg prog 124 126 (.agg #[.bool false,.int .i64 0,.slice none 0 0]) 3 40:=iN ab
theorem UG:gx prog 235=some [(0,1),(1,1)]:=ab
theorem UH:zeroOf prog 235=some (.agg #[.slice none 0 0,.int .i64 0]):=ab
theorem UI (a:View) (ke k:Nat) (u:cb) (r:jG) (w:World) (j:Le a w) (b:iV ke k a r u) (B:u.parts.length<=1048576) :
   Calls prog 64 #[.agg (fH u r).toArray] w λe w'=>∃q:Option Addr×Nat,e = .returned (.agg ((aG u).cells q).toArray)/\Ext w w'/\Sl qC 1 (nv w w') q.1 q.2 (aG u).parts:=by
 have C:=b.parts.cap;have D:=b.parts.max;refine enter func64 O 25 O O ?_;refine CE (Vs:=[a]) (Ws.init (by simp [j])) (ag ?_);refine WL.box Y O O λl=>?_;refine Al Y O xE λm=>?_;refine aa (ag (I (Yf vm O) (I (Yd 1 O O O ab) (I (Yb xE UF O O) ?_))));refine Al Y O xE λn=>?_;refine aQ 0 Y O O O Ak O O O (aa (Cs (Cs (fm 0 (.cells #[.bool true,.int .i64 u.data,.slice none 0 0] 126 (0,0)) O O (Cr (I (Yf mo O) (I (Yd 2 O O O ab) (I (Yn lR O) (ad O ?_)))))))));refine LW (λ_ h=>h.eM 3 1) (aa (Cb ?_));refine dc (ι:=Nat×(Option Addr×Nat)) (λg=>[(12,.int .i64 (g.1:Int))]) [(2,_),(3,_),(10,_),(11,_)] (λg=>Ws w [] [bS 3 1 e8 g.2.1 g.2.2 ((u.parts.take g.1).map (·.params)),ao n (.cells #[.bool true,.int .i64 u.data,.slice g.2.1 ((u.parts.take g.1).map (·.params)).length g.2.2] 126 (0,0)),ao m (.cells #[.bool false,.int .i64 0,.slice none 0 0] 126 (0,0)),ao l (.cells (fH u r).toArray 40 (0,0))] [a]) (λg=>g.1<=u.parts.length) (λg=>u.parts.length-g.1) (0,(none,0)) (cq _) an ?_;intro g E;refine ag (I (ai O O) (aa (Cs ?_)));refine Cc O (λc=>?_) (λc=>?_)
 ·have d:g.1<u.parts.length:=by simpa using c
  obtain ⟨x,f⟩:=cg d;obtain ⟨F,G,o,p⟩:=b.parts.bT g.1 x f;obtain ⟨s,t,H⟩:=p
  have v:(u.parts.take (g.1+1)).map (·.params)=(u.parts.take g.1).map (·.params)++[x.params]:=by rw [aZ,f]; simp
  have J:((u.parts.take g.1).map (·.params)).length=g.1:=by simp; omega
  refine bk (Cs (Cb (ag (I (Yo lR O O o d) (I (dV 0 Ao O O O (t)) ?_)))));refine Al Y O xB λK=>?_;refine aQ 0 Y O O O vg O O O (aa (fm 0 (.cells (ux x s).toArray 89 (0,0)) O O (Cr (I (Yf mn O) (I (Yd 2 O O O ab) (I (Yf gb O) (I (Yd 0 O O O ab) ?_)))))));refine Lb Y O h2 O O O O λL=>?_;refine cF 0 (.cells (e8 x.params).toArray 3 (0,0)) O (O) ?_;refine LA (x.params) 2 0 Y O h2 O O O O O O ae ae λy z=>?_;refine I (Yf mn O) (aQ 3 Y O O O vo O O O (Ln (Eb (Et (Cr (I (Yi O O O ae) (ad O (LW (λ_ h=>h.eM 3 1) (Ln ?_)))))))));rw [<-v];exact b8 ((g.1+1,(y,z)):Nat×(Option Addr×Nat)) (by show _-(g.1+1)<_; omega) (by show g.1+1<=_; omega) (λ_ h=>Wd 3 h)
 have A:g.1=u.parts.length:=by simp at c; omega
 rw [A,ew];refine Ce (Ex (Ex (cB (Et (ag (I (cc 1 O O Aj O) (aQ 2 Y O O O Ak O O O (aa (a7 ?_)))))))));refine WE.t' 2 O O O Aj O λw' i=>?_;exact ⟨g.2,O,i.fr,i.iP 0 O y4 cp⟩
theorem UJ (l m:View) (ke k:Nat) (u:cb) (r:jG) (us:List cv) (ua:Option Addr) (F:Nat) (w:World) (au:Le l w) (av:Le m w) (o:iV ke k l r u) (aw:Sl nX 3 m ua F us) (aW:us.length<=1048576) :
   Calls prog 65 #[.agg (fH u r).toArray,.slice ua us.length F] w λe w'=>e = .returned (.bool (jI u us))/\Ext w w':=by
 have aX:=o.aq.cap;have aY:=o.aq.max;have a0:=o.parts.cap;have a1:=o.parts.max;refine enter func65 O 115 O O ?_;refine CE (Vs:=[l,m]) (Ws.init (by simp [au,av])) (ag ?_);refine WL.box Y O O λT=>?_;refine ak O (aa (ag ?_));refine WL.nc st Y O λax=>?_;refine I (Yf fY O) (I (Yd 1 O O O ab) ?_);refine WL.l4 0 h4 Y ih ab O O O O ?_;refine ad O (ak O (aa (Cs (ag (I (Yf vl O) (I (Yd 1 O O O ab) (I (Yn dy O) (ad O (aa (Cb ?_))))))))));refine dc (ι:=Nat) (λi=>[(18,.int .i64 (i:Int))]) [(1,_),(2,_),(5,_),(16,_),(17,_)] (λi=>Ws w [] [ao ax (ar st (b_ (u.nm::u.aq.take i) 0) (u.nm::u.aq.take i).length),ao T (.cells (fH u r).toArray 40 (0,0))] [l,m]) (λi=>i<=u.aq.length/\(u.nm::u.aq.take i).Nodup/\(u.aq.take i).all ep=true) (λi=>u.aq.length-i) 0 ⟨cq _,aj,O⟩ an ?_;intro i ⟨hi,G,H⟩;refine ag (I (ai O O) (aa (Cs ?_)));refine Cc O (λJ=>?_) (λJ=>?_)
 ·have z:i<u.aq.length:=by simpa using J
  obtain ⟨s,B⟩:=cg z;obtain ⟨ay,pos,aA,K⟩:=o.aq.bT i s B;have K:bR l ay (pos+i*1) (c' s):=K;refine bk (Cs (Cb (ag (I (Yo dy O O aA z) (I (cu 0 ab O O (K 0 _ O)) (ak O (aa (ag (ad O (ad O (I (qx 0 h4 ih ab b0 O O O) ?_)))))))))));rw [O5];refine I (l0 O O (by split<;>omega)) ?_;refine WL.oz 0 h4 Y ih ab O O O O ?_;refine aa (ag (ad O (ad O (I (qx 0 h4 ih ab b0 O O O) ?_))));rw [s9];refine I (dO O O) ?_;rw [UE];refine ad O ?_;apply Lo 3 (x:=!(ep s)) O O O O Y O O O O O
  ·intro a2;refine Vg (Ym O) (Lp (.g O O O) O aC O (λw d=>o0 _ w) (Vg (e5 O) ?_));exact Gt 3 O O O
  refine aa ?_;refine Cc O (λL=>?_) (λL=>?_)
  ·have aB:(u.nm::u.aq.take i).contains s=true\/ep s=false:=by
     have j:=L
     cases v:(u.nm::u.aq.take i).contains s with
     | true=>exact .inl rfl
     | false=>rw [v] at j; exact .inr (by simpa using j)
   refine ag (ak O (aa (a7 (cG (Er (Er (cG (Er ?_))))))));refine R1 O O λw' d=>?_;exact ⟨by rw [jI,O6 B aB]; rfl,d.fr⟩
  obtain ⟨v,aD⟩:(u.nm::u.aq.take i).contains s=false/\ep s=true:=by
    have j:=hM.1 L;exact ⟨j.1,by simpa using j.2⟩
  have U:(u.nm::u.aq.take i)++[s]=u.nm::u.aq.take (i+1):=by rw [aZ,B]; simp
  rw [v,show ((if false=true then (1:Int) else 0)+1)=1 from rfl,(Hj v).1,(Hj v).2,U]
  have aE:(u.nm::u.aq.take (i+1)).Nodup:=by
    rw [<-U,jx];refine ⟨G,aj,λa aH b W e=>?_⟩;rw [az] at W; subst W; subst e
    have j:(u.nm::u.aq.take i).contains a=true:=by simpa using aH
    rw [v] at j; cases j
  refine Ck (Eb (Et (Cr (I (Yi O O O ae) (ad O (Ln ?_))))));exact b8 (i+1) ae ⟨ae,aE,wF B H aD⟩ an
 have aI:i=u.aq.length:=by simp at J; omega
 rw [aI,ew] at G H;refine Ce (Ex (Ex (cB (Et (Cs (ag (I (Yf fY O) (I (Yd 1 O O O ab) (Lp Y O aC O (λw d=>o0 _ w) (I (e5 O) (ad O ?_)))))))))));apply Lo 4 O O O O Y O O O O O
 ·intro a3;refine Vg (Yf vl O) (Vg (Yd 1 O O O ab) (Vg (Yn dy O) (Vg (dO O O) ?_)));exact Gt 4 O O O
 refine ad O ?_;apply Lo 3 O O O O Y O O O O O
 ·intro a4;refine Vg (Yf vm O) (Vg (Yd 1 O O O ab) (Vg (ai O O) ?_));exact Gt 3 O O O
 refine ad O ?_;apply Lo 3 O O O O Y O O O O O
 ·intro a5;refine Vg (Yf vm O) (Vg (Yd 1 O O O ab) (Vg (dO O O) ?_));exact Gt 3 O O O
 refine ad O ?_;apply Lo 4 O O O O Y O O O O O
 ·intro a6;refine Vg (Yf mo O) (Vg (Yd 1 O O O ab) (Vg (Yn lR O) (Vg (dO O O) ?_)));exact Gt 4 O O O
 refine aa ?_;refine Cc O (λM=>?_) (λM=>?_)
 ·refine ag (ak O (aa (a7 (Er ?_))));refine R1 O O λw' d=>?_;exact ⟨by rw [jI,show nY u=true from M]; simp,d.fr⟩
 have X:nY u=false:=M;obtain ⟨a8,a9,a',a_⟩:=UB X;refine bk (Cs ?_);obtain ⟨ys,Z,ac⟩:=UA aw
 have af:ys.length=us.length:=by rw [<-Z,eo]
 have aJ:∀q,([((aG u,q):XK)]++ys).length=(aG u::us).length:=λq=>by simp [af]
 refine Cr (I (cc 1 O O ik O) ?_);refine Ld Y O aC O (λq:Option Addr×Nat=>.agg ((aG u).cells q).toArray) (λaK q=>Sl qC 1 aK q.1 q.2 (aG u).parts) (λw d=>UI l ke k u r w d.V o ae) ?_;intro ah C ba aL;refine Lb Y O Ew O O O O λbb=>?_;refine cF 0 (.cells (([(aG u,C)]:List XK).flatMap XK.cells).toArray 126 (0,0)) O O (LW (λ_ h=>h.pt (f:=XK.cells) (xs:=[(aG u,C)]) (c:=1) 0 O XK.ck O aF) (ad O ?_));refine WL.wj (f:=XK.cells) (rd:=Hy) (xs:=[((aG u,C):XK)]) (ys:=ys) 0 (λ_=>m) Y O Ew O (by show some (Value.slice ua us.length F)=_; rw [<-af]) O (λw d=>⟨d.vs m aj,ac⟩) (λ_ _ _ _ h=>h.1) XK.ck XK.one (by simp; omega) (by simp; omega) λp t=>?_;refine I (Yb UH UG O O) ?_;refine WL.box Y O O λN=>?_;refine cF 0 (.cells #[.slice p (aG u::us).length t,.int .i64 0] 235 (0,0)) O (congrArg (λn=>Obj.cells #[.slice p n t,.int .i64 0] 235 (0,0)) (aJ C)) (ak O (aa (Cs (Cs ?_))));refine WC.l9 (rd:=An) 1 O XK.ck cp λal aM=>?_
 have am:∀w,Le al w->Le ah w->Le m w->Sl nX 3 (hv w) p t (aG u::us):=λw aN aO aP=>by
   have j:=HG aM (nM aN) λe y=>by
     rcases dA.1 y with y | y
     · rw [az] at y; subst y; exact gh.mv (nM aO) aL
     · obtain ⟨q,aR⟩:=jA y
       obtain ⟨_,_,_,_,h⟩:=ac.bT q e aR;exact gh.mv (nM aP) h
   rw [nI,Z] at j;exact j
 refine Cr (I (Yf mo O) (I (Yd 2 O O O ab) (I (Yn lR O) (ad O (aa (Cb ?_))))));refine dc (ι:=Nat×Int) (λg=>[(72,.int .i64 (g.1:Int))]) [(2,_),(8,_),(70,_),(71,_)] (λg=>Ws w [] [ao N (.cells #[.slice p (aG u::us).length t,.int .i64 g.2] 235 (0,0)),ao T (.cells (fH u r).toArray 40 (0,0))] [al,ah,l,m]) (λg=>g.1<=u.parts.length/\(u.parts.take g.1).all (j4 (aG u::us))=true) (λg=>u.parts.length-g.1) (0,0) ⟨cq _,O⟩ (λ_ h=>(Wt 2 ((h.f 2 O).f 1 O):)) ?_;intro g ⟨bc,P⟩;refine ag (I (ai O O) (aa (Cs ?_)));refine Cc O (λQ=>?_) (λQ=>?_)
 ·have z:g.1<u.parts.length:=by simpa using Q
  obtain ⟨x,D⟩:=cg z;obtain ⟨bd,be,aS,aT⟩:=o.parts.bT g.1 x D;obtain ⟨R,aU,aV⟩:=aT;refine bk (Cs (Cb (ag (I (Yo lR O O aS z) (I (dV 2 Ao O O O (aU)) ?_)))));refine Al Y O xB λbf=>?_;refine aQ 0 Y O O O vg O O O (aa (Cs (Cs (fm 0 (.cells (ux x R).toArray 89 (0,0)) O O (Cr (I (Yf gb O) (I (Yd 0 O O O ab) (I (ai O O) (ad O ?_)))))))));apply Lo 3 O O O O Y O O O O O
  ·intro bg;refine Vg (Yf gb O) (Vg (Yd 0 O O O ab) (Vg (dO O O) ?_));exact Gt 3 O O O
  refine ad O ?_;apply Lo 3 O O O O Y O O O O O
  ·intro bh;refine Vg (Yf vn O) (Vg (Yd 0 O O O ab) (Vg (ai O O) ?_));exact Gt 3 O O O
  refine ad O ?_;apply Lo 3 O O O O Y O O O O O
  ·intro bi;refine Vg (Yf vn O) (Vg (Yd 0 O O O ab) (Vg (dO O O) ?_));exact Gt 3 O O O
  refine aa ?_;refine Cc O (λE=>?_) (λE=>?_)
  ·have A:j4 (aG u::us) x=false:=UC E;refine ag (ak O (aa (a7 (Er (cG (Er (Er (cG (Er ?_)))))))));refine R1 O O λw' d=>?_;exact ⟨by rw [jI,j2 D A]; simp,d.fr⟩
  have ap:=UD (kn:=(aG u::us)) E
  have bj:0<=x.params/\x.params<=3/\0<=x.locals/\x.locals<=4:=by
    simp only [hM,decide_eq_false_iff_not] at E; omega
  refine bk (ag (ad O (I (Yf gb O) (I (Yd 0 O O O ab) (I (Yf vn O) (I (Yd 0 O O O ab) (I (l0 O O ae) (I (cJ O) ?_))))))));refine I (Yf u' O) (aQ 1 Y O O O dZ O O O (aa (Cs (fm 1 (.cells #[.slice p (aG u::us).length t,.int .i64 (x.params+x.locals)] 235 (0,0)) O O (Cr (ad O (I (Yf mb O) (I (Yd 0 O O O ab) ?_))))))));refine Lp Y O aC O (λw d=>Ho (hv w) (hv w) N p t (aG u::us) (x.params+x.locals) l ke k x.body R.1 R.2 1 w (jU w) (jU w) (oD (d.mF 1 O) O) (oD (d.mF 1 O) O) (am w d.V d.V d.V) d.V aV ae) (I (e5 O) (aa ?_));refine Cc O (λS=>?_) (λS=>?_)
  ·have A:j4 (aG u::us) x=false:=by rw [ap]; simpa using S
   refine ag (ak O (aa (a7 (cG (Er (Er (cG (Er ?_))))))));refine R1 O O λw' d=>?_;exact ⟨by rw [jI,j2 D A]; simp,d.fr⟩
  have A:j4 (aG u::us) x=true:=by rw [ap]; simpa using S
  refine Ck (Eb (Et (Cr (I (Yi O O O ae) (ad O (Ln ?_))))));exact b8 ((g.1+1,x.params+x.locals):Nat×Int) (by show _-(g.1+1)<_; omega) ⟨(by show g.1+1<=_; omega),wF D P A⟩ (λ_ h=>Wd 1 h)
 have bl:¬g.1<u.parts.length:=by simpa using Q
 rw [kF ae] at P;refine Ce (Ex (Ex (cB (Et (ag (ad O (I (cJ O) (I (Yf u' O) (aQ 0 Y O O O dZ O O O (aa (Cs (fm 0 (.cells #[.slice p (aG u::us).length t,.int .i64 0] 235 (0,0)) O O ?_))))))))))));refine Cr (ad O (I (Yf xC O) (I (Yd 1 O O O ab) (Lp Y O aC O (λw d=>Ho (hv w) (hv w) N p t (aG u::us) 0 l ke k u.main r.s3.1 r.s3.2 1 w (jU w) (jU w) (oD (d.mF 0 O) O) (oD (d.mF 0 O) O) (am w d.V d.V d.V) d.V o.main ae) (ak O (aa (a7 ?_)))))));refine R1 O O λw' d=>?_;exact ⟨by rw [jI,Hk G H,X,P]; rfl,d.fr⟩
theorem sh:fk prog 28=some 5:=ab
theorem lS:cx prog 157 0=some 0:=ab
theorem ll:cx prog 56 3=some 3:=ab
theorem hK:gg prog 31 108 (.agg #[.int .i64 0,.int .i64 0,.int .i64 0]) 3 24:=iN ab
theorem xF:dI prog 31=some 1:=ab
theorem ju:fk prog 31=some 3:=ab
theorem si:cx prog 56 4=some 4:=ab
theorem Lg:gx prog 112=some [(0,1),(1,1),(2,1)]:=ab
theorem sj:zeroOf prog 112=some (.agg #[.int .i64 0,.int .i64 0,.int .i64 0]):=ab
theorem mD:gg prog 53 112 (.agg #[.int .i64 0,.int .i64 0,.int .i64 0]) 3 24:=iN ab
theorem Lh:dI prog 53=some 1:=ab
theorem sk:gP prog 108=some 3:=ab
theorem hs:gx prog 108=some [(0,1),(1,1),(2,1)]:=ab
theorem gu:zeroOf prog 108=some (.agg #[.int .i64 0,.int .i64 0,.int .i64 0]):=ab
theorem vp:cx prog 108 1=some 1:=ab
theorem kC (b:Nat) (h:hG) (t:b9) (d:View) (a:Option Addr) (c:Nat) (l:List bA) (w:World) (i:Sl gm 3 d a c l) (m:t.g.code.length+l.length<=1000000000010) (f:Ws w (List.flatMap aW.ids (bW 157 108 112 b h t)) (bW 157 108 112 b h t) [d] w) :
   Calls prog 140 #[.pointer (some ⟨b,0,none⟩),.slice a l.length c] w λe w'=>∃q:SP,e = .returned (.tuple #[])/\Ws w (List.flatMap aW.ids (bW 157 108 112 b h t)) (bW 157 108 112 b h ⟨ah l t.g,q,t.fa⟩) [d] w':=by
 have n:=i.cap;have o:=i.max;refine enter func140 O 15 O O ?_;refine CE f (Cr (ad O (ad O (I (cJ O) (I (Yf lS O) (I (Yf ll O) (I (Yd 0 O O O ab) ?_)))))));refine ad O ?_;refine WL.wj (xs:=t.g.code) (ys:=l) 1 (λ_=>d) Y O hK O O O (λw f=>⟨f.vs d aj,i⟩) cp bA.ck bA.one ae ae λj k=>?_;refine I (cJ O) (I (Yf lS O) (I (Yf ll O) (aQ 0 Y O O O xF O O O (Ln ?_))));refine E0 O λw' f=>?_;exact ⟨(j,k),O,f⟩
theorem vq (a:Nat) (b:hG) (t:b9)  (i:bA) (kind m:Int) (w:World)  (v:t.g.code.length+1<=1000000000000) (x:t.g.fix.length+1<=1000000000000) (j:Ws w (List.flatMap aW.ids (bW 157 108 112 a b t)) (bW 157 108 112 a b t) [] w) :
   Calls prog 224 #[.pointer (some ⟨a,0,none⟩),.agg i.cells.toArray,.int .i64 kind,.int .i64 m] w λe w'=>∃q:SP×SP,e = .returned (.int .i64 (t.g.code.length:Int))/\Ws w (List.flatMap aW.ids (bW 157 108 112 a b t)) (bW 157 108 112 a b ⟨aT i kind m t.g,q.1,q.2⟩) [] w':=by
 refine enter func224 O 36 O O ?_;refine CE j (ag ?_);refine WL.box Y O O λn=>?_;refine ak O (aa (ag (ad O (I (cJ O) (I (Yf lS O) (I (Yf ll O) (I (Yd 1 O O O ab) (I (Yn ju O) ?_))))))));refine ak O (aa (ag (ad O (ad O (I (cJ O) (I (Yf lS O) (I (Yf si O) (I (Yd 1 O O O ab) ?_))))))));refine ad O (ad O (ad O (I (Yb sj Lg O O) ?_)));refine Lb Y O mD O O O O λy=>?_;refine cF 0 (.cells (aD.cells ⟨(t.g.code.length:Int),kind,m⟩).toArray 112 (0,0)) O (O) ?_;refine LA ((⟨(t.g.code.length:Int),kind,m⟩:aD)) 4 0 Y O mD O O O O O O ae ae λc d=>?_;refine I (cJ O) (I (Yf lS O) (I (Yf si O) (aQ 2 Y O O O Lh O O O (aa (Cs (fm 2 (pF 157 b (⟨⟨t.g.code,t.g.fix++[(⟨(t.g.code.length:Int),kind,m⟩:aD)]⟩,t.ca,(c,d)⟩:b9)) O O ?_))))));refine dJ (W':=Ws w (List.flatMap aW.ids (bW 157 108 112 a b t)) ((bW 157 108 112 a b (⟨⟨t.g.code,t.g.fix++[(⟨(t.g.code.length:Int),kind,m⟩:aD)]⟩,t.ca,(c,d)⟩:b9))++[ao n (.cells i.cells.toArray 108 (0,0))]) []) (λ_ h=>by exact (Wt 4 ((((h.f 1 O).f 4 O).f 4 O).f 4 O):)) ?_;refine Cr (ad O (I (cc 3 O O sk O) ?_));refine Lb Y O hK O O O O λo=>?_;refine WL.jY (rd:=gm) (f:=bA.cells) (k:=3) (m:=1) 0 [i] O O bA.ck cp aj aF λl p=>?_;refine Lw (ι:=SP) [_,_,_] _ Y O aC O O (λ_=>.tuple #[]) (λq=>(bW 157 108 112 a b ⟨ah [i] (⟨⟨t.g.code,t.g.fix++[(⟨(t.g.code.length:Int),kind,m⟩:aD)]⟩,t.ca,(c,d)⟩:b9).g,q,(⟨⟨t.g.code,t.g.fix++[(⟨(t.g.code.length:Int),kind,m⟩:aD)]⟩,t.ca,(c,d)⟩:b9).fa⟩)) (λ_=>True) [l] aj (λw j=>(kC a b (⟨⟨t.g.code,t.g.fix++[(⟨(t.g.code.length:Int),kind,m⟩:aD)]⟩,t.ca,(c,d)⟩:b9) l (some ⟨o,0,none⟩) 1 [i] w p (by simp; omega) j).mono λe w' ⟨q,r,s⟩=>⟨q,r,trivial,s⟩) ?_;intro u _;refine aa (ag (ad O (ak O (aa (a7 ?_)))));refine R1 O O λw' j=>?_;exact ⟨(u,(c,d)),O,Wv 1 (Wt 3 j)⟩
theorem tG (a:Nat) (b:hG) (t:b9) (op:Int) (w:World) (d:t.g.code.length+1<=1000000000000) (f:t.g.fix.length+1<=1000000000000) (c:Ws w (List.flatMap aW.ids (bW 157 108 112 a b t)) (bW 157 108 112 a b t) [] w) :
   Calls prog 227 #[.pointer (some ⟨a,0,none⟩),.int .i64 op] w λe w'=>∃q:(SP×SP)×Nat×Nat,e = .returned (.func (.func 254) #[] #[.pointer (some ⟨q.2.1,0,none⟩),.pointer (some ⟨q.2.2,0,none⟩)])/\Ws w (List.flatMap aW.ids (bW 157 108 112 a b t)) ((bW 157 108 112 a b ⟨aT ⟨op,0,0⟩ 1 0 t.g,q.1.1,q.1.2⟩)++[ao q.2.1 (.cells #[.pointer (some ⟨a,0,none⟩)] 155 (0,0)),ao q.2.2 (.cells #[.int .i64 (t.g.code.length:Int)] 3 (0,0))]) [] w':=by
 refine enter func227 O 11 O O ?_;refine CE c (ag ?_);refine WL.box Y O O λi=>?_;refine ak O (aa (ag (I (Yd 0 O O O ab) (ad O (I (Yb gu hs O O) (Lf 3 O (Lf 3 O (Lf 3 O ?_))))))));refine Lw (ι:=SP×SP) [_,_,_] _ Y O aC O O (λ_=>.int .i64 (t.g.code.length:Int)) (λq=>(bW 157 108 112 a b ⟨aT ⟨op,0,0⟩ 1 0 t.g,q.1,q.2⟩)) (λ_=>True) [] aj (λw c=>(vq a b t  ⟨op,0,0⟩ 1 0 w  d f c).mono λe w' ⟨q,j,k⟩=>⟨q,j,trivial,k⟩) ?_;intro l _;refine Al Y O b0 λm=>?_;refine aQ 0 Y O O O dZ O O O (aa (ag (I (pn O) (ak O (aa (a7 ?_))))));refine R1 O O λw' c=>?_;exact ⟨(l,i,m),O,(by have h:=c; have h:=h.bu 4 O; have h:=h.bu 4 O; have h:=h.bu 4 O; have h:=h.bu 4 O; exact h)⟩
theorem eI (a:Nat) (c:hG) (t:b9) (p f n:Nat) (x:bA) (w:World) (i:t.g.code[n]? = some x) (j:Ws w (List.flatMap aW.ids ((bW 157 108 112 a c t)++[ao p (.cells #[.pointer (some ⟨a,0,none⟩)] 155 (0,0)),ao f (.cells #[.int .i64 (n:Int)] 3 (0,0))])) ((bW 157 108 112 a c t)++[ao p (.cells #[.pointer (some ⟨a,0,none⟩)] 155 (0,0)),ao f (.cells #[.int .i64 (n:Int)] 3 (0,0))]) [] w) :
   Calls prog 254 #[.pointer (some ⟨p,0,none⟩),.pointer (some ⟨f,0,none⟩)] w λe w'=>e = .returned (.tuple #[])/\Ws w (List.flatMap aW.ids ((bW 157 108 112 a c t)++[ao p (.cells #[.pointer (some ⟨a,0,none⟩)] 155 (0,0)),ao f (.cells #[.int .i64 (n:Int)] 3 (0,0))])) ((bW 157 108 112 a c ⟨c7 n t.g,t.ca,t.fa⟩)++[ao p (.cells #[.pointer (some ⟨a,0,none⟩)] 155 (0,0)),ao f (.cells #[.int .i64 (n:Int)] 3 (0,0))]) [] w':=by
 have l:=(cf.1 i).1;refine enter func254 O 16 O O ?_;refine CE j ?_;refine WC.sM 1 O ae λm k o q=>?_;refine WC.lu 1 [(0,true),(1,true),(2,true),(3,true),(4,true),(5,true),(6,true),(7,true),(8,true),(9,true),(10,true),(11,true),(12,true),(13,true),(14,false)] mixed ab (λ_ _ _ d _ h=>by cases d<;>exact h) ?_;refine D0 O (Wp 1) (Yd 2 O O O ab) (D0 O (Wp 1) (cJ O) (D0 O (Wp 1) (Yf lS O) (D0 O (Wp 1) (Yf ll O) (D0 O (Wp 1) (Yd 0 O O O ab) (D0 O (Wp 1) (Yd 3 O O O ab) (D0 O (Wp 1) (Yd 2 O O O ab) (D0 O (Wp 1) (cJ O) ?_)))))));refine D0 O (Wp 1) (Yf lS O) (D0 O (Wp 1) (Yf ll O) (D0 O (Wp 1) (Yd 0 O O O ab) (D0 O (Wp 1) (Yn ju O) (D0 O (Wp 1) (Yo ju O O k l) (D0 O (Wp 1) (Yf vp O) ?_)))));refine De O (Wp 1) ?_;refine WL.storeT (y:=x) 1 n 1 (⟨x.op,(t.g.code.length:Int),x.b⟩:bA) Y O O O k O bA.ck i dZ O O aF O ?_;refine Ln (Ed ?_);refine WD.nil (Wp 1) ?_;refine E0 O λw' j=>?_;rw [Pf i];exact ⟨O,j.jJ 0 O (show ao a (pF 157 c t)=ao a (pF 157 c ⟨{ t.g with code:=t.g.code.set n ⟨x.op,(t.g.code.length:Int),x.b⟩ },t.ca,t.fa⟩) by simp [pF])⟩
def xG (f:View) (b:Nat) (d:hG) (k:Nat):Prop:=∀(x:aA) (a:Option Addr) (c:Nat) (t:b9) (w:World),Sl (jn k) 5 f a c x.args->uK x->t.g.code.length+8*eA x<=1000000000000->t.g.fix.length+8*eA x<=1000000000000->
 Ws w (List.flatMap aW.ids (bW 157 108 112 b d t)) (bW 157 108 112 b d t) [f] w->Calls prog 223 #[.pointer (some ⟨b,0,none⟩),.agg (oE x a c).toArray] w λe w'=>∃q:SP×SP,e = .returned (.tuple #[])/\Ws w (List.flatMap aW.ids (bW 157 108 112 b d t)) (bW 157 108 112 b d ⟨aK x t.g,q.1,q.2⟩) [f] w'
theorem tH {l:List aA} {i:Nat} {x:aA} (h:l[i]? = some x):eA x<=gD l:=by
 have:=uJ h; omega
theorem vD {l:List aA} {x y:aA} (h:l[0]? = some x) (a:l[1]? = some y):eA x+eA y<=gD l:=by
 have b:gD (l.take 1)=gD (l.take 0)+eA x:=(uJ h).1;have c:gD (l.take 2)=gD (l.take 1)+eA y:=(uJ a).1;have d:gD (l.take 2)<=gD l:=(uJ a).2;omega
theorem Li (b:Nat) (d:hG) (t:b9) (i:View) (k:Nat) (l:List aA) (a:Option Addr) (c:Nat) (w:World) (y:∀f,f<k->xG i b d f) (n:Sl (jn k) 5 i a c l) (z:uL l) (H:t.g.code.length+8*gD l<=1000000000000) (J:t.g.fix.length+8*gD l<=1000000000000) (j:Ws w (List.flatMap aW.ids (bW 157 108 112 b d t)) (bW 157 108 112 b d t) [i] w) :
   Calls prog 253 #[.pointer (some ⟨b,0,none⟩),.slice a l.length c] w λe w'=>∃q:SP×SP,e = .returned (.tuple #[])/\Ws w (List.flatMap aW.ids (bW 157 108 112 b d t)) (bW 157 108 112 b d ⟨aR l t.g,q.1,q.2⟩) [i] w':=by
 have K:=n.cap;have L:=n.max;refine enter func253 O 16 O O ?_;refine CE j (ag (ad O (I (Yn gL O) (ad O (aa (Cb ?_))))));refine dc (ι:=Nat×SP×SP) (λg=>[(8,.int .i64 (g.1:Int))]) [(0,_),(6,_),(7,_)] (λg=>Ws w (List.flatMap aW.ids (bW 157 108 112 b d t)) (bW 157 108 112 b d ⟨aR (l.take g.1) t.g,g.2.1,g.2.2⟩) [i]) (λg=>g.1<=l.length) (λg=>l.length-g.1) (0,t.ca,t.fa) (cq _) an ?_;intro g M;refine ag (I (ai O O) (aa (Cs ?_)));refine Cc O (λo=>?_) (λo=>?_)
 ·have p:g.1<l.length:=by simpa using o
  obtain ⟨x,m⟩:=cg p;obtain ⟨N,P,A,r⟩:=n.bT g.1 x m
  obtain ⟨f,rfl⟩:∃f,k=f+1:=by
    cases k with
    | zero=>exact r.elim
    | succ f=>exact ⟨f,rfl⟩
  obtain ⟨s,u,B,C⟩:=r;have Q:=uJ m;have v:=zd (l.take g.1) t.g;have R:=v.hi;have S:=v.hd;refine bk (Cs (Cb (ag (I (Yo gL O O A p) (I (dV 0 kB O O O (B)) ?_)))));refine Al Y O xz λT=>?_;refine aQ 0 Y O O O z7 O O O (aa (fm 0 (.cells (oE x s u).toArray 269 (0,0)) O O (Cr (ad O (I (cc 0 O O kB O) (Lf 3 O (Lf 3 O ?_)))))));refine Lf 3 O ?_;refine Lw (ι:=SP×SP) [_,_,_] _ Y O aC O O (λ_=>.tuple #[]) (λq=>(bW 157 108 112 b d ⟨aK x (⟨aR (l.take g.1) t.g,g.2.1,g.2.2⟩:b9).g,q.1,q.2⟩)) (λ_=>True) [i] aj (λw j=>(y f ae x s u (⟨aR (l.take g.1) t.g,g.2.1,g.2.2⟩:b9) w C (z.at_ m) (by show (aR (l.take g.1) t.g).code.length+(8*eA x)<=_; omega) (by show (aR (l.take g.1) t.g).fix.length+(8*eA x)<=_; omega) j).mono λe w' ⟨q,D,E⟩=>⟨q,D,trivial,E⟩) ?_;intro F _;refine Ln (Eb (Et (Cr (I (Yi O O O ae) (ad O (Ln ?_))))));rw [<-O' m];exact b8 ((g.1+1,F):Nat×SP×SP) (by show _-(g.1+1)<_; omega) (by show g.1+1<=_; omega) (λ_ h=>(Wt 3 h:))
 have G:g.1=l.length:=by simp at o; omega
 rw [G,ew];refine Ce (Ex (Ex (cB ?_)));refine E0 O λw' j=>?_;exact ⟨g.2,O,j⟩
theorem Lj (b:Nat) (d:hG) (t:b9) (h:View) (k:Nat) (m pl:Int) (l:List aA) (a:Option Addr) (c:Nat) (w:World) (r:∀n,n<k->xG h b d n) (s:Sl (jn k) 5 h a c l) (u:uL l) (x:t.g.code.length+8*(1+gD l)<=1000000000000) (y:t.g.fix.length+8*(1+gD l)<=1000000000000) (f:Ws w (List.flatMap aW.ids (bW 157 108 112 b d t)) (bW 157 108 112 b d t) [h] w) :
   Calls prog 226 #[.pointer (some ⟨b,0,none⟩),.int .i64 m,.int .i64 pl,.slice a l.length c] w λe w'=>∃q:SP×SP,e = .returned (.tuple #[])/\Ws w (List.flatMap aW.ids (bW 157 108 112 b d t)) (bW 157 108 112 b d ⟨aT ⟨13,pl,0⟩ 2 m (aR l t.g),q.1,q.2⟩) [h] w':=by
 have o:=zd l t.g;have z:=o.hi;have A:=o.hd;refine enter func226 O 16 O O ?_;refine CE f (ag (ad O (ad O ?_)));refine Lw (ι:=SP×SP) [_,_,_] _ Y O aC O O (λ_=>.tuple #[]) (λq=>(bW 157 108 112 b d ⟨aR l t.g,q.1,q.2⟩)) (λ_=>True) [h] aj (λw f=>(Li b d t h k l a c w r s u ae ae f).mono λe w' ⟨q,i,j⟩=>⟨q,i,trivial,j⟩) ?_;intro p _;refine aa (Cr (ad O (ad O (I (Yb gu hs O O) (ad O ?_)))));refine Lw (ι:=SP×SP) [_,_,_] _ Y O aC O O (λ_=>.int .i64 ((aR l t.g).code.length:Int)) (λq=>(bW 157 108 112 b d ⟨aT ⟨13,pl,0⟩ 2 m (aR l t.g),q.1,q.2⟩)) (λ_=>True) [] aj (λw f=>(vq b d (⟨aR l t.g,p.1,p.2⟩:b9)  ⟨13,pl,0⟩ 2 m w  (by show (aR l t.g).code.length+1<=_; omega) (by show (aR l t.g).fix.length+1<=_; omega) f).mono λe w' ⟨q,i,j⟩=>⟨q,i,trivial,j⟩) ?_;intro v _;refine Ln ?_;refine E0 O λw' f=>?_;exact ⟨v,O,f⟩
theorem Lk (b:Nat) (d:hG) (t:b9) (h:View) (k:Nat) (m pl n:Int) (x:aA) (a:Option Addr) (c:Nat) (w:World) (p:xG h b d k) (r:Sl (jn k) 5 h a c x.args) (s:uK x) (v:t.g.code.length+(8*eA x+1)<=1000000000000) (y:t.g.fix.length+(8*eA x+1)<=1000000000000) (f:Ws w (List.flatMap aW.ids (bW 157 108 112 b d t)) (bW 157 108 112 b d t) [h] w) :
   Calls prog 225 #[.pointer (some ⟨b,0,none⟩),.int .i64 m,.int .i64 pl,.int .i64 n,.agg (oE x a c).toArray] w λe w'=>∃q:SP×SP,e = .returned (.tuple #[])/\Ws w (List.flatMap aW.ids (bW 157 108 112 b d t)) (bW 157 108 112 b d ⟨aT ⟨6,pl,n⟩ 3 m (aK x t.g),q.1,q.2⟩) [h] w':=by
 have l:=lF x t.g;have z:=l.hi;have A:=l.hd;refine enter func225 O 19 O O ?_;refine CE f (ag ?_);refine WL.box Y O O λB=>?_;refine aa (ag (ad O (I (cc 0 O O kB O) (Lf 3 O (Lf 3 O (Lf 3 O ?_))))));refine Lw (ι:=SP×SP) [_,_,_] _ Y O aC O O (λ_=>.tuple #[]) (λq=>(bW 157 108 112 b d ⟨aK x t.g,q.1,q.2⟩)) (λ_=>True) [h] aj (λw f=>(p x a c t w r s (by show (t.g).code.length+(8*eA x)<=_; omega) (by show (t.g).fix.length+(8*eA x)<=_; omega) f).mono λe w' ⟨q,i,j⟩=>⟨q,i,trivial,j⟩) ?_;intro o _;refine aa (Cr (ad O (ad O (ad O (I (Yb gu hs O O) (ad O ?_))))));refine Lw (ι:=SP×SP) [_,_,_] _ Y O aC O O (λ_=>.int .i64 ((aK x t.g).code.length:Int)) (λq=>(bW 157 108 112 b d ⟨aT ⟨6,pl,n⟩ 3 m (aK x t.g),q.1,q.2⟩)) (λ_=>True) [] aj (λw f=>(vq b d (⟨aK x t.g,o.1,o.2⟩:b9)  ⟨6,pl,n⟩ 3 m w  (by show (aK x t.g).code.length+1<=_; omega) (by show (aK x t.g).fix.length+1<=_; omega) f).mono λe w' ⟨q,i,j⟩=>⟨q,i,trivial,j⟩) ?_;intro u _;refine Ln ?_;refine E0 O λw' f=>?_;exact ⟨u,O,Wt 3 f⟩
theorem UK (j:Nat) (o:hG) (t:b9) (B:View) (k:Nat) (x:aA) (a:Option Addr) (c:Nat) (w:World) (J:Sl (jn k) 5 B a c x.args) (G:uK x) (bS:t.g.code.length+8*eA x<=1000000000000) (bU:t.g.fix.length+8*eA x<=1000000000000) (b:Ws w (List.flatMap aW.ids (bW 157 108 112 j o t)) (bW 157 108 112 j o t) [B] w) :
   Calls prog 223 #[.pointer (some ⟨j,0,none⟩),.agg (oE x a c).toArray] w λe w'=>∃q:SP×SP,e = .returned (.tuple #[])/\Ws w (List.flatMap aW.ids (bW 157 108 112 j o t)) (bW 157 108 112 j o ⟨aK x t.g,q.1,q.2⟩) [B] w':=by
 induction k using Nat.strongRecOn generalizing x a c t w
 rename_i k be;have X:∀s,s<k->xG B j o s:=λs h x a c t w p r bf bg bh=>be s h t x a c w p r bf bg bh;have bV:=J.cap;have bX:=J.max;have bZ:=Pc x;refine enter func223 O 143 O O ?_;refine CE b (ag ?_);refine WL.box Y O O λb0=>?_;refine aa (ag (I (Yf og O) (I (Yd 0 O O O ab) (aa (Cb (ag (I (bY O O) (ak O (aa ?_)))))))));refine Cc O (λaw=>?_) (λaw=>?_)
 ·have u:x.op=1:=by simpa using aw
  refine Cr (ad O (I (Yf lO O) (I (Yd 0 O O O ab) (I (Yb gu hs O O) ?_))));refine Lb Y O hK O O O O λbi=>?_;refine WL.jY (rd:=gm) (f:=bA.cells) (k:=3) (m:=1) 0 [⟨1,x.n,0⟩] O O bA.ck (λ_ _ _ _ h=>h) (by simp) (by decide) λaZ bj=>?_;refine Lf 3 O (Lf 3 O (Lf 3 O ?_));refine Lw (ι:=SP) [_,_,_] _ Y O aC O O (λ_=>.tuple #[]) (λq=>(bW 157 108 112 j o ⟨ah [⟨1,x.n,0⟩] t.g,q,t.fa⟩)) (λ_=>True) [aZ] (by simp) (λw b=>(kC j o t aZ (some ⟨bi,0,none⟩) 1 [⟨1,x.n,0⟩] w bj (by show (t.g).code.length+[⟨1,x.n,0⟩].length<=_; (try simp only [cY]); omega) b).mono λe w' ⟨q,p,r⟩=>⟨q,p,trivial,r⟩) ?_;intro bl _;refine Ln (Eb ?_);refine E0 O λw' b=>?_
  have z:aK x t.g=ah [⟨1,x.n,0⟩] t.g:=by
    rw [pE,la,if_pos u]
  rw [z];exact ⟨(bl,t.fa),O,Wv 1 (Wt 3 b)⟩
 have K:¬x.op=1:=by simpa using aw
 refine ag (I (bY O O) (ak O (aa ?_)));refine Cc O (λax=>?_) (λax=>?_)
 ·have u:x.op=2:=by simpa using ax
  refine Cr (ad O (I (Yb gu hs O O) ?_));refine Lb Y O hK O O O O λbm=>?_;refine WL.jY (rd:=gm) (f:=bA.cells) (k:=3) (m:=1) 0 [⟨18,0,0⟩] O O bA.ck (λ_ _ _ _ h=>h) (by simp) (by decide) λa0 bn=>?_;refine Lf 3 O (Lf 3 O (Lf 3 O ?_));refine Lw (ι:=SP) [_,_,_] _ Y O aC O O (λ_=>.tuple #[]) (λq=>(bW 157 108 112 j o ⟨ah [⟨18,0,0⟩] t.g,q,t.fa⟩)) (λ_=>True) [a0] (by simp) (λw b=>(kC j o t a0 (some ⟨bm,0,none⟩) 1 [⟨18,0,0⟩] w bn (by show (t.g).code.length+[⟨18,0,0⟩].length<=_; (try simp only [cY]); omega) b).mono λe w' ⟨q,p,r⟩=>⟨q,p,trivial,r⟩) ?_;intro bo _;refine Ln (Eb ?_);refine E0 O λw' b=>?_
  have z:aK x t.g=ah [⟨18,0,0⟩] t.g:=by
    rw [pE,la,if_neg K,if_pos u]
  rw [z];exact ⟨(bo,t.fa),O,Wv 1 (Wt 3 b)⟩
 have M:¬x.op=2:=by simpa using ax
 refine ag (I (bY O O) (ak O (aa ?_)));refine Cc O (λay=>?_) (λay=>?_)
 ·have u:x.op=16:=by simpa using ay
  refine Cr (ad O (I (Yf kW O) (I (Yd 0 O O O ab) (I (Yb gu hs O O) ?_))));refine Lb Y O hK O O O O λbp=>?_;refine WL.jY (rd:=gm) (f:=bA.cells) (k:=3) (m:=1) 0 [⟨2,x.pl,0⟩] O O bA.ck (λ_ _ _ _ h=>h) (by simp) (by decide) λa1 bq=>?_;refine Lf 3 O (Lf 3 O (Lf 3 O ?_));refine Lw (ι:=SP) [_,_,_] _ Y O aC O O (λ_=>.tuple #[]) (λq=>(bW 157 108 112 j o ⟨ah [⟨2,x.pl,0⟩] t.g,q,t.fa⟩)) (λ_=>True) [a1] (by simp) (λw b=>(kC j o t a1 (some ⟨bp,0,none⟩) 1 [⟨2,x.pl,0⟩] w bq (by show (t.g).code.length+[⟨2,x.pl,0⟩].length<=_; (try simp only [cY]); omega) b).mono λe w' ⟨q,p,r⟩=>⟨q,p,trivial,r⟩) ?_;intro br _;refine Ln (Eb ?_);refine E0 O λw' b=>?_
  have z:aK x t.g=ah [⟨2,x.pl,0⟩] t.g:=by
    rw [pE,la,if_neg K,if_neg M,if_pos u]
  rw [z];exact ⟨(br,t.fa),O,Wv 1 (Wt 3 b)⟩
 have P:¬x.op=16:=by simpa using ay
 refine ag (I (bY O O) (ak O (aa ?_)));refine Cc O (λaz=>?_) (λaz=>?_)
 ·have u:x.op=3:=by simpa using az
  refine Cr (ad O (I (Yf kW O) (I (Yd 0 O O O ab) (I (Yb gu hs O O) (I (Yf lP O) (I (Yd 0 O O O ab) (Lf 3 O ?_)))))));refine Lf 3 O (Lf 3 O ?_);refine Lw (ι:=SP×SP) [_,_,_] _ Y O aC O O (λ_=>.int .i64 (t.g.code.length:Int)) (λq=>(bW 157 108 112 j o ⟨aT ⟨4,x.pl,0⟩ 3 x.m t.g,q.1,q.2⟩)) (λ_=>True) [] (by simp) (λw b=>(vq j o t  ⟨4,x.pl,0⟩ 3 x.m w  (by omega) (by omega) b).mono λe w' ⟨q,p,r⟩=>⟨q,p,trivial,r⟩) ?_;intro a2 _;refine Ln (Eb ?_);refine E0 O λw' b=>?_
  have z:aK x t.g=aT ⟨4,x.pl,0⟩ 3 x.m t.g:=by
    rw [pE,la,if_neg K,if_neg M,if_neg P,if_pos u]
  rw [z];exact ⟨(a2.1,a2.2),O,Wt 3 b⟩
 have W:¬x.op=3:=by simpa using az
 refine ag (I (bY O O) (ak O (aa ?_)));refine Cc O (λaB=>?_) (λaB=>?_)
 ·have u:x.op=4:=by simpa using aB
  refine Cs ?_;have b1:=G.args.2.1 (by omega);obtain ⟨y,C⟩:∃y,x.args[0]? = some y:=⟨_,dL (by omega)⟩;obtain ⟨a3,a4,Z,N⟩:=J.bT 0 y C
  obtain ⟨s,rfl⟩:∃s,k=s+1:=by
    cases k with
    | zero=>exact N.elim
    | succ s=>exact ⟨s,rfl⟩
  obtain ⟨ac,ae,af,ai⟩:=N;have Q:=X s (by omega);have aj:=G.args.1.at_ C;have D:=lF y t.g;have aD:=D.hi;have aE:=D.hd;have a5:=D.lo;have b2:=tH C;refine CU (λ_=>true) [1,1,1] [] (.q false 0 (.q false 1 (.q true 2 (.q false 3 (.q true 4 (.q false 5 (.q true 6 (.q false 7 (.q true 8 (.q false 9 (.q true 10 (.e 11 .nil .stop)))))))))))) mixed (by kernel_rfl) (λ_ _ _ d _ _ h=>by cases d<;>exact h) ?_;refine U0 O (cH [1,1,1]) (Ym O) (U0 O (cH [1,1,1]) (Yf lP O) (U0 O (cH [1,1,1]) (Yd 0 O O O ab) (U0 O (cH [1,1,1]) (Yf kW O) (U0 O (cH [1,1,1]) (Yd 0 O O O ab) (U0 O (cH [1,1,1]) (Yf lO O) (U0 O (cH [1,1,1]) (Yd 0 O O O ab) (U0 O (cH [1,1,1]) (Yf oh O) ?_)))))));refine U0 O (cH [1,1,1]) (Yd 0 O O O ab) (U0 O (cH [1,1,1]) (Yo (i:=0) gL O O Z (by omega)) (U0 O (cH [1,1,1]) (dV 0 kB O O O (af)) ?_));refine Ue O (cH [1,1,1]) ?_ WU.stop;refine Lf 3 O (Lf 3 O (Lf 3 O ?_));refine Lw (ι:=SP×SP) [_,_,_] _ Y O aC O O (λ_=>.tuple #[]) (λq=>(bW 157 108 112 j o ⟨aT ⟨6,x.pl,x.n⟩ 3 x.m (aK y t.g),q.1,q.2⟩)) (λ_=>True) [B] (by simp) (λw b=>(Lk j o t B s x.m x.pl x.n y ac ae w Q ai aj (by omega) (by omega) b).mono λe w' ⟨q,p,r⟩=>⟨q,p,trivial,r⟩) ?_;intro R _;refine Ln (Eu ?_);refine WU.nil (λ_ h=>(Wo 1 (Wo 1 (Wo 1 (h.f 3 O))):)) ?_;refine WS.nil ?_;refine Et (Cr (ad O (I (Yb gu hs O O) ?_)));refine Lb Y O hK O O O O λbs=>?_;refine WL.jY (rd:=gm) (f:=bA.cells) (k:=3) (m:=1) 0 [⟨7,0,0⟩] O O bA.ck (λ_ _ _ _ h=>h) (by simp) (by decide) λa6 bt=>?_;refine Lw (ι:=SP) [_,_,_] _ Y O aC O O (λ_=>.tuple #[]) (λq=>(bW 157 108 112 j o ⟨ah [⟨7,0,0⟩] (⟨(aT ⟨6,x.pl,x.n⟩ 3 x.m (aK y t.g)),R.1,R.2⟩:b9).g,q,(⟨(aT ⟨6,x.pl,x.n⟩ 3 x.m (aK y t.g)),R.1,R.2⟩:b9).fa⟩)) (λ_=>True) [a6] (by simp) (λw b=>(kC j o (⟨(aT ⟨6,x.pl,x.n⟩ 3 x.m (aK y t.g)),R.1,R.2⟩:b9) a6 (some ⟨bs,0,none⟩) 1 [⟨7,0,0⟩] w bt (by show ((aT ⟨6,x.pl,x.n⟩ 3 x.m (aK y t.g))).code.length+[⟨7,0,0⟩].length<=_; (try simp only [cY]); omega) b).mono λe w' ⟨q,p,r⟩=>⟨q,p,trivial,r⟩) ?_;intro bu _;refine Ln (Eb ?_);refine E0 O λw' b=>?_
  have z:aK x t.g=ah [⟨7,0,0⟩] (aT ⟨6,x.pl,x.n⟩ 3 x.m (aK y t.g)):=by
    rw [pE,la,if_neg K,if_neg M,if_neg P,if_neg W,if_pos u];rw [mL C]
  rw [z];exact ⟨(bu,R.2),O,Wv 1 (Wt 3 b)⟩
 have al:¬x.op=4:=by simpa using aB
 refine ag (I (bY O O) (ak O (aa ?_)));refine Cc O (λaF=>?_) (λaF=>?_)
 ·have u:x.op=5:=by simpa using aF
  refine Cr (ad O (I (Yf lP O) (I (Yd 0 O O O ab) (I (Yf kW O) (I (Yd 0 O O O ab) (I (Yf oh O) (I (Yd 0 O O O ab) ?_)))))));refine Lf 3 O (Lf 3 O (Lf 3 O ?_));refine Lw (ι:=SP×SP) [_,_,_] _ Y O aC O O (λ_=>.tuple #[]) (λq=>(bW 157 108 112 j o ⟨aT ⟨13,x.pl,0⟩ 2 x.m (aR x.args t.g),q.1,q.2⟩)) (λ_=>True) [B] (by simp) (λw b=>(Lj j o t B k x.m x.pl x.args a c w X J G.args.1 (by omega) (by omega) b).mono λe w' ⟨q,p,r⟩=>⟨q,p,trivial,r⟩) ?_;intro a8 _;refine Ln (Eb ?_);refine E0 O λw' b=>?_
  have z:aK x t.g=aT ⟨13,x.pl,0⟩ 2 x.m (aR x.args t.g):=by
    rw [pE,la,if_neg K,if_neg M,if_neg P,if_neg W,if_neg al,if_pos u];rw [kk]
  rw [z];exact ⟨(a8.1,a8.2),O,Wt 3 b⟩
 have aq:¬x.op=5:=by simpa using aF
 refine Cs (ag (I (bY O O) (ak O (aa ?_))));refine Cc O (λar=>?_) (λar=>?_)
 ·have u:x.op=7:=by simpa using ar
  refine bk ?_;refine Cc O (λS=>?_) (λS=>?_)
  ·refine Cs ?_;have bv:=G.args.2.2.1 (by omega);obtain ⟨y,C⟩:∃y,x.args[0]? = some y:=⟨_,dL (by omega)⟩;obtain ⟨a3,a4,Z,N⟩:=J.bT 0 y C;obtain ⟨l,L⟩:∃y,x.args[1]? = some y:=⟨_,dL (by omega)⟩;obtain ⟨bw,bx,aG,aH⟩:=J.bT 1 l L
   obtain ⟨s,rfl⟩:∃s,k=s+1:=by
     cases k with
     | zero=>exact N.elim
     | succ s=>exact ⟨s,rfl⟩
   obtain ⟨ac,ae,af,ai⟩:=N;have Q:=X s (by omega);have aj:=G.args.1.at_ C;have D:=lF y t.g;have aD:=D.hi;have aE:=D.hd;have a5:=D.lo;obtain ⟨aI,aJ,aL,aM⟩:=aH;have aN:=G.args.1.at_ L;have bz:=vD C L;have T:=lF l (aT ⟨12,0,0⟩ 1 0 (aK y t.g));have aO:=T.hi;have aP:=T.hd;have aQ:=T.lo;have U:=lF l (c7 ((aK y t.g).code.length) (aT ⟨11,0,0⟩ 1 0 (ah [⟨1,1,0⟩] (aT ⟨12,0,0⟩ 1 0 (aK y t.g)))));have aS:=U.hi;have aU:=U.hd;have aV:=U.lo;simp only [cY] at aO aP aQ aS aU aV;refine Cr (ad O (I (Yf oh O) (I (Yd 0 O O O ab) (I (Yo (i:=0) gL O O Z (by omega)) (I (dV 0 kB O O O (af)) (Lf 3 O (Lf 3 O ?_)))))));refine Lf 3 O ?_;refine Lw (ι:=SP×SP) [_,_,_] _ Y O aC O O (λ_=>.tuple #[]) (λq=>(bW 157 108 112 j o ⟨aK y t.g,q.1,q.2⟩)) (λ_=>True) [B] (by simp) (λw b=>(Q y ac ae t w ai aj (by show (t.g).code.length+8*eA y<=_; (try simp only [cY]); omega) (by show (t.g).fix.length+8*eA y<=_; (try simp only [cY]); omega) b).mono λe w' ⟨q,p,r⟩=>⟨q,p,trivial,r⟩) ?_;intro am _;refine aa (ag (ad O ?_));refine Lw (ι:=(SP×SP)×Nat×Nat) [_,_,_] _ Y O aC O O (λq=>.func (.func 254) #[] #[.pointer (some ⟨q.2.1,0,none⟩),.pointer (some ⟨q.2.2,0,none⟩)]) (λq=>(bW 157 108 112 j o ⟨aT ⟨12,0,0⟩ 1 0 (aK y t.g),q.1.1,q.1.2⟩)++[ao q.2.1 (.cells #[.pointer (some ⟨j,0,none⟩)] 155 (0,0)),ao q.2.2 (.cells #[.int .i64 ((aK y t.g).code.length:Int)] 3 (0,0))]) (λ_=>True) [] (by simp) (λw b=>(tG j o (⟨(aK y t.g),am.1,am.2⟩:b9) 12 w (by show ((aK y t.g)).code.length+1<=_; (try simp only [cY]); omega) (by show ((aK y t.g)).fix.length+1<=_; (try simp only [cY]); omega) b).mono λe w' ⟨q,p,r⟩=>⟨q,p,trivial,r⟩) ?_;intro A _;refine ak O (aa (Cs (ag (I (Yf og O) (I (Yd 5 O O O ab) (I (bY O O) (aa ?_)))))));refine Cc O (λan=>?_) (λan=>?_)
   ·exact absurd an (by rw [u]; decide)
   refine bk (Cs (ag (I (Yf og O) (I (Yd 5 O O O ab) (I (bY O O) (aa ?_))))));refine Cc O (λap=>?_) (λap=>?_)
   ·exact absurd ap (by rw [u]; decide)
   refine bk (ag (ad O (I (Yf oh O) (I (Yd 5 O O O ab) (I (Yo (i:=1) gL O O aG (by omega)) (I (dV 0 kB O O O (aL)) ?_))))));refine Lw (ι:=SP×SP) [_,_,_] _ Y O aC O O (λ_=>.tuple #[]) (λq=>(bW 157 108 112 j o ⟨aK l (aT ⟨12,0,0⟩ 1 0 (aK y t.g)),q.1,q.2⟩)) (λ_=>True) [B] (by simp) (λw b=>(Q l aI aJ (⟨(aT ⟨12,0,0⟩ 1 0 (aK y t.g)),A.1.1,A.1.2⟩:b9) w aM aN (by show ((aT ⟨12,0,0⟩ 1 0 (aK y t.g))).code.length+8*eA l<=_; (try simp only [cY]); omega) (by show ((aT ⟨12,0,0⟩ 1 0 (aK y t.g))).fix.length+8*eA l<=_; (try simp only [cY]); omega) b).mono λe w' ⟨q,p,r⟩=>⟨q,p,trivial,r⟩) ?_;intro V _;refine aa (ag (ad O (I (Yb gu hs O O) ?_)));refine Lb Y O hK O O O O λbB=>?_;refine WL.jY (rd:=gm) (f:=bA.cells) (k:=3) (m:=1) 0 [⟨22,0,0⟩] O O bA.ck (λ_ _ _ _ h=>h) (by simp) (by decide) λa9 bC=>?_;refine Lw (ι:=SP) [_,_,_] _ Y O aC O O (λ_=>.tuple #[]) (λq=>(bW 157 108 112 j o ⟨ah [⟨22,0,0⟩] (⟨(aK l (aT ⟨12,0,0⟩ 1 0 (aK y t.g))),V.1,V.2⟩:b9).g,q,(⟨(aK l (aT ⟨12,0,0⟩ 1 0 (aK y t.g))),V.1,V.2⟩:b9).fa⟩)) (λ_=>True) [a9] (by simp) (λw b=>(kC j o (⟨(aK l (aT ⟨12,0,0⟩ 1 0 (aK y t.g))),V.1,V.2⟩:b9) a9 (some ⟨bB,0,none⟩) 1 [⟨22,0,0⟩] w bC (by show ((aK l (aT ⟨12,0,0⟩ 1 0 (aK y t.g)))).code.length+[⟨22,0,0⟩].length<=_; (try simp only [cY]); omega) b).mono λe w' ⟨q,p,r⟩=>⟨q,p,trivial,r⟩) ?_;intro bD _;refine aa (ag (ad O ?_));refine Lw (ι:=(SP×SP)×Nat×Nat) [_,_,_] _ Y O aC O O (λq=>.func (.func 254) #[] #[.pointer (some ⟨q.2.1,0,none⟩),.pointer (some ⟨q.2.2,0,none⟩)]) (λq=>(bW 157 108 112 j o ⟨aT ⟨11,0,0⟩ 1 0 (ah [⟨22,0,0⟩] (aK l (aT ⟨12,0,0⟩ 1 0 (aK y t.g)))),q.1.1,q.1.2⟩)++[ao q.2.1 (.cells #[.pointer (some ⟨j,0,none⟩)] 155 (0,0)),ao q.2.2 (.cells #[.int .i64 ((ah [⟨22,0,0⟩] (aK l (aT ⟨12,0,0⟩ 1 0 (aK y t.g)))).code.length:Int)] 3 (0,0))]) (λ_=>True) [] (by simp) (λw b=>(tG j o (⟨(ah [⟨22,0,0⟩] (aK l (aT ⟨12,0,0⟩ 1 0 (aK y t.g)))),bD,V.2⟩:b9) 11 w (by show ((ah [⟨22,0,0⟩] (aK l (aT ⟨12,0,0⟩ 1 0 (aK y t.g))))).code.length+1<=_; (try simp only [cY]); omega) (by show ((ah [⟨22,0,0⟩] (aK l (aT ⟨12,0,0⟩ 1 0 (aK y t.g))))).fix.length+1<=_; (try simp only [cY]); omega) b).mono λe w' ⟨q,p,r⟩=>⟨q,p,trivial,r⟩) ?_;intro v _;refine ak O (aa (ag (ad O (Lf 6 O (Lf 6 O (Lf 4 O (Lf 4 O (Lf 4 O ?_))))))));refine WL.rW (ι:=Unit) [_,_,_,_,_] _ Y O aC O O O (λ_=>.tuple #[]) (λ_=>(bW 157 108 112 j o ⟨c7 ((aK y t.g).code.length) (aT ⟨11,0,0⟩ 1 0 (ah [⟨22,0,0⟩] (aK l (aT ⟨12,0,0⟩ 1 0 (aK y t.g))))),(⟨(aT ⟨11,0,0⟩ 1 0 (ah [⟨22,0,0⟩] (aK l (aT ⟨12,0,0⟩ 1 0 (aK y t.g))))),v.1.1,v.1.2⟩:b9).ca,(⟨(aT ⟨11,0,0⟩ 1 0 (ah [⟨22,0,0⟩] (aK l (aT ⟨12,0,0⟩ 1 0 (aK y t.g))))),v.1.1,v.1.2⟩:b9).fa⟩)++[ao A.2.1 (.cells #[.pointer (some ⟨j,0,none⟩)] 155 (0,0)),ao A.2.2 (.cells #[.int .i64 ((aK y t.g).code.length:Int)] 3 (0,0))]) (λ_=>True) [] (by simp) (λw b=>(eI j o (⟨(aT ⟨11,0,0⟩ 1 0 (ah [⟨22,0,0⟩] (aK l (aT ⟨12,0,0⟩ 1 0 (aK y t.g))))),v.1.1,v.1.2⟩:b9) A.2.1 A.2.2 ((aK y t.g).code.length) _ w (dL (by show (aK y t.g).code.length<((aT ⟨11,0,0⟩ 1 0 (ah [⟨22,0,0⟩] (aK l (aT ⟨12,0,0⟩ 1 0 (aK y t.g)))))).code.length; (try simp only [cY]); omega)) b).mono λe w' h=>⟨(),h.1,trivial,h.2⟩) ?_
   intro _ _;refine aa (ag (ad O (I (Yb gu hs O O) ?_)));refine Lb Y O hK O O O O λbE=>?_;refine WL.jY (rd:=gm) (f:=bA.cells) (k:=3) (m:=1) 0 [⟨1,0,0⟩] O O bA.ck (λ_ _ _ _ h=>h) (by simp) (by decide) λa' bF=>?_;refine Lw (ι:=SP) [_,_,_] _ Y O aC O O (λ_=>.tuple #[]) (λq=>(bW 157 108 112 j o ⟨ah [⟨1,0,0⟩] (⟨(c7 ((aK y t.g).code.length) (aT ⟨11,0,0⟩ 1 0 (ah [⟨22,0,0⟩] (aK l (aT ⟨12,0,0⟩ 1 0 (aK y t.g)))))),v.1.1,v.1.2⟩:b9).g,q,(⟨(c7 ((aK y t.g).code.length) (aT ⟨11,0,0⟩ 1 0 (ah [⟨22,0,0⟩] (aK l (aT ⟨12,0,0⟩ 1 0 (aK y t.g)))))),v.1.1,v.1.2⟩:b9).fa⟩)) (λ_=>True) [a'] (by simp) (λw b=>(kC j o (⟨(c7 ((aK y t.g).code.length) (aT ⟨11,0,0⟩ 1 0 (ah [⟨22,0,0⟩] (aK l (aT ⟨12,0,0⟩ 1 0 (aK y t.g)))))),v.1.1,v.1.2⟩:b9) a' (some ⟨bE,0,none⟩) 1 [⟨1,0,0⟩] w bF (by show ((c7 ((aK y t.g).code.length) (aT ⟨11,0,0⟩ 1 0 (ah [⟨22,0,0⟩] (aK l (aT ⟨12,0,0⟩ 1 0 (aK y t.g))))))).code.length+[⟨1,0,0⟩].length<=_; (try simp only [cY]); omega) b).mono λe w' ⟨q,p,r⟩=>⟨q,p,trivial,r⟩) ?_;intro au _;refine aa (Cr (ad O (Lf 6 O (Lf 6 O (Lf 4 O (Lf 4 O (Lf 4 O ?_)))))));refine WL.rW (ι:=Unit) [_,_,_,_,_] _ Y O aC O O O (λ_=>.tuple #[]) (λ_=>(bW 157 108 112 j o ⟨c7 ((ah [⟨22,0,0⟩] (aK l (aT ⟨12,0,0⟩ 1 0 (aK y t.g)))).code.length) (ah [⟨1,0,0⟩] (c7 ((aK y t.g).code.length) (aT ⟨11,0,0⟩ 1 0 (ah [⟨22,0,0⟩] (aK l (aT ⟨12,0,0⟩ 1 0 (aK y t.g))))))),(⟨(ah [⟨1,0,0⟩] (c7 ((aK y t.g).code.length) (aT ⟨11,0,0⟩ 1 0 (ah [⟨22,0,0⟩] (aK l (aT ⟨12,0,0⟩ 1 0 (aK y t.g))))))),au,v.1.2⟩:b9).ca,(⟨(ah [⟨1,0,0⟩] (c7 ((aK y t.g).code.length) (aT ⟨11,0,0⟩ 1 0 (ah [⟨22,0,0⟩] (aK l (aT ⟨12,0,0⟩ 1 0 (aK y t.g))))))),au,v.1.2⟩:b9).fa⟩)++[ao v.2.1 (.cells #[.pointer (some ⟨j,0,none⟩)] 155 (0,0)),ao v.2.2 (.cells #[.int .i64 ((ah [⟨22,0,0⟩] (aK l (aT ⟨12,0,0⟩ 1 0 (aK y t.g)))).code.length:Int)] 3 (0,0))]) (λ_=>True) [] (by simp) (λw b=>(eI j o (⟨(ah [⟨1,0,0⟩] (c7 ((aK y t.g).code.length) (aT ⟨11,0,0⟩ 1 0 (ah [⟨22,0,0⟩] (aK l (aT ⟨12,0,0⟩ 1 0 (aK y t.g))))))),au,v.1.2⟩:b9) v.2.1 v.2.2 ((ah [⟨22,0,0⟩] (aK l (aT ⟨12,0,0⟩ 1 0 (aK y t.g)))).code.length) _ w (dL (by show (ah [⟨22,0,0⟩] (aK l (aT ⟨12,0,0⟩ 1 0 (aK y t.g)))).code.length<((ah [⟨1,0,0⟩] (c7 ((aK y t.g).code.length) (aT ⟨11,0,0⟩ 1 0 (ah [⟨22,0,0⟩] (aK l (aT ⟨12,0,0⟩ 1 0 (aK y t.g)))))))).code.length; (try simp only [cY]); omega)) b).mono λe w' h=>⟨(),h.1,trivial,h.2⟩) ?_;intro _ _;refine Ln (Eb ?_);refine E0 O λw' b=>?_
   have z:aK x t.g=(c7 ((ah [⟨22,0,0⟩] (aK l (aT ⟨12,0,0⟩ 1 0 (aK y t.g)))).code.length) (ah [⟨1,0,0⟩] (c7 ((aK y t.g).code.length) (aT ⟨11,0,0⟩ 1 0 (ah [⟨22,0,0⟩] (aK l (aT ⟨12,0,0⟩ 1 0 (aK y t.g)))))))):=by
     rw [pE,la,if_neg K,if_neg M,if_neg P,if_neg W,if_neg al,if_neg aq,if_pos u];unfold pC;rw [mL C,mL L]
   rw [z];exact ⟨(au,v.1.2),O,Wv 2 (Wt 3 b)⟩
  rw [ar] at S; cases S
 have aX:¬x.op=7:=by simpa using ar
 refine Cr (I (bY O O) (ak O (aa ?_)));refine Cc O (λS=>?_) (λS=>?_)
 ·have u:x.op=8:=by simpa using S
  refine Cs ?_;have bv:=G.args.2.2.1 (by omega);obtain ⟨y,C⟩:∃y,x.args[0]? = some y:=⟨_,dL (by omega)⟩;obtain ⟨a3,a4,Z,N⟩:=J.bT 0 y C;obtain ⟨l,L⟩:∃y,x.args[1]? = some y:=⟨_,dL (by omega)⟩;obtain ⟨bw,bx,aG,aH⟩:=J.bT 1 l L
  obtain ⟨s,rfl⟩:∃s,k=s+1:=by
    cases k with
    | zero=>exact N.elim
    | succ s=>exact ⟨s,rfl⟩
  obtain ⟨ac,ae,af,ai⟩:=N;have Q:=X s (by omega);have aj:=G.args.1.at_ C;have D:=lF y t.g;have aD:=D.hi;have aE:=D.hd;have a5:=D.lo;obtain ⟨aI,aJ,aL,aM⟩:=aH;have aN:=G.args.1.at_ L;have bz:=vD C L;have T:=lF l (aT ⟨12,0,0⟩ 1 0 (aK y t.g));have aO:=T.hi;have aP:=T.hd;have aQ:=T.lo;have U:=lF l (c7 ((aK y t.g).code.length) (aT ⟨11,0,0⟩ 1 0 (ah [⟨1,1,0⟩] (aT ⟨12,0,0⟩ 1 0 (aK y t.g)))));have aS:=U.hi;have aU:=U.hd;have aV:=U.lo;simp only [cY] at aO aP aQ aS aU aV;refine Cr (ad O (I (Yf oh O) (I (Yd 0 O O O ab) (I (Yo (i:=0) gL O O Z (by omega)) (I (dV 0 kB O O O (af)) (Lf 3 O (Lf 3 O ?_)))))));refine Lf 3 O ?_;refine Lw (ι:=SP×SP) [_,_,_] _ Y O aC O O (λ_=>.tuple #[]) (λq=>(bW 157 108 112 j o ⟨aK y t.g,q.1,q.2⟩)) (λ_=>True) [B] (by simp) (λw b=>(Q y ac ae t w ai aj (by show (t.g).code.length+8*eA y<=_; (try simp only [cY]); omega) (by show (t.g).fix.length+8*eA y<=_; (try simp only [cY]); omega) b).mono λe w' ⟨q,p,r⟩=>⟨q,p,trivial,r⟩) ?_;intro am _;refine aa (ag (ad O ?_));refine Lw (ι:=(SP×SP)×Nat×Nat) [_,_,_] _ Y O aC O O (λq=>.func (.func 254) #[] #[.pointer (some ⟨q.2.1,0,none⟩),.pointer (some ⟨q.2.2,0,none⟩)]) (λq=>(bW 157 108 112 j o ⟨aT ⟨12,0,0⟩ 1 0 (aK y t.g),q.1.1,q.1.2⟩)++[ao q.2.1 (.cells #[.pointer (some ⟨j,0,none⟩)] 155 (0,0)),ao q.2.2 (.cells #[.int .i64 ((aK y t.g).code.length:Int)] 3 (0,0))]) (λ_=>True) [] (by simp) (λw b=>(tG j o (⟨(aK y t.g),am.1,am.2⟩:b9) 12 w (by show ((aK y t.g)).code.length+1<=_; (try simp only [cY]); omega) (by show ((aK y t.g)).fix.length+1<=_; (try simp only [cY]); omega) b).mono λe w' ⟨q,p,r⟩=>⟨q,p,trivial,r⟩) ?_;intro A _;refine ak O (aa (Cs (ag (I (Yf og O) (I (Yd 5 O O O ab) (I (bY O O) (aa ?_)))))));refine Cc O (λan=>?_) (λan=>?_)
  ·refine ag (ad O (I (Yb gu hs O O) ?_));refine Lb Y O hK O O O O λbG=>?_;refine WL.jY (rd:=gm) (f:=bA.cells) (k:=3) (m:=1) 0 [⟨1,1,0⟩] O O bA.ck (λ_ _ _ _ h=>h) (by simp) (by decide) λa_ bH=>?_;refine Lw (ι:=SP) [_,_,_] _ Y O aC O O (λ_=>.tuple #[]) (λq=>(bW 157 108 112 j o ⟨ah [⟨1,1,0⟩] (⟨(aT ⟨12,0,0⟩ 1 0 (aK y t.g)),A.1.1,A.1.2⟩:b9).g,q,(⟨(aT ⟨12,0,0⟩ 1 0 (aK y t.g)),A.1.1,A.1.2⟩:b9).fa⟩)) (λ_=>True) [a_] (by simp) (λw b=>(kC j o (⟨(aT ⟨12,0,0⟩ 1 0 (aK y t.g)),A.1.1,A.1.2⟩:b9) a_ (some ⟨bG,0,none⟩) 1 [⟨1,1,0⟩] w bH (by show ((aT ⟨12,0,0⟩ 1 0 (aK y t.g))).code.length+[⟨1,1,0⟩].length<=_; (try simp only [cY]); omega) b).mono λe w' ⟨q,p,r⟩=>⟨q,p,trivial,r⟩) ?_;intro bI _;refine aa (ag (ad O ?_));refine Lw (ι:=(SP×SP)×Nat×Nat) [_,_,_] _ Y O aC O O (λq=>.func (.func 254) #[] #[.pointer (some ⟨q.2.1,0,none⟩),.pointer (some ⟨q.2.2,0,none⟩)]) (λq=>(bW 157 108 112 j o ⟨aT ⟨11,0,0⟩ 1 0 (ah [⟨1,1,0⟩] (aT ⟨12,0,0⟩ 1 0 (aK y t.g))),q.1.1,q.1.2⟩)++[ao q.2.1 (.cells #[.pointer (some ⟨j,0,none⟩)] 155 (0,0)),ao q.2.2 (.cells #[.int .i64 ((ah [⟨1,1,0⟩] (aT ⟨12,0,0⟩ 1 0 (aK y t.g))).code.length:Int)] 3 (0,0))]) (λ_=>True) [] (by simp) (λw b=>(tG j o (⟨(ah [⟨1,1,0⟩] (aT ⟨12,0,0⟩ 1 0 (aK y t.g))),bI,A.1.2⟩:b9) 11 w (by show ((ah [⟨1,1,0⟩] (aT ⟨12,0,0⟩ 1 0 (aK y t.g)))).code.length+1<=_; (try simp only [cY]); omega) (by show ((ah [⟨1,1,0⟩] (aT ⟨12,0,0⟩ 1 0 (aK y t.g)))).fix.length+1<=_; (try simp only [cY]); omega) b).mono λe w' ⟨q,p,r⟩=>⟨q,p,trivial,r⟩) ?_;intro F _;refine ak O (aa (ag (ad O (Lf 6 O (Lf 6 O (Lf 4 O (Lf 4 O (Lf 4 O ?_))))))));refine WL.rW (ι:=Unit) [_,_,_,_,_] _ Y O aC O O O (λ_=>.tuple #[]) (λ_=>(bW 157 108 112 j o ⟨c7 ((aK y t.g).code.length) (aT ⟨11,0,0⟩ 1 0 (ah [⟨1,1,0⟩] (aT ⟨12,0,0⟩ 1 0 (aK y t.g)))),(⟨(aT ⟨11,0,0⟩ 1 0 (ah [⟨1,1,0⟩] (aT ⟨12,0,0⟩ 1 0 (aK y t.g)))),F.1.1,F.1.2⟩:b9).ca,(⟨(aT ⟨11,0,0⟩ 1 0 (ah [⟨1,1,0⟩] (aT ⟨12,0,0⟩ 1 0 (aK y t.g)))),F.1.1,F.1.2⟩:b9).fa⟩)++[ao A.2.1 (.cells #[.pointer (some ⟨j,0,none⟩)] 155 (0,0)),ao A.2.2 (.cells #[.int .i64 ((aK y t.g).code.length:Int)] 3 (0,0))]) (λ_=>True) [] (by simp) (λw b=>(eI j o (⟨(aT ⟨11,0,0⟩ 1 0 (ah [⟨1,1,0⟩] (aT ⟨12,0,0⟩ 1 0 (aK y t.g)))),F.1.1,F.1.2⟩:b9) A.2.1 A.2.2 ((aK y t.g).code.length) _ w (dL (by show (aK y t.g).code.length<((aT ⟨11,0,0⟩ 1 0 (ah [⟨1,1,0⟩] (aT ⟨12,0,0⟩ 1 0 (aK y t.g))))).code.length; (try simp only [cY]); omega)) b).mono λe w' h=>⟨(),h.1,trivial,h.2⟩) ?_;intro _ _;refine aa (Cr (ad O (ak O (aa (Cs (ag (I (Yf og O) (I (Yd 7 O O O ab) (I (bY O O) (aa ?_))))))))));refine Cc O (λap=>?_) (λap=>?_)
   ·refine ag (ad O (I (Yf oh O) (I (Yd 7 O O O ab) (I (Yo (i:=1) gL O O aG (by omega)) (I (dV 1 kB O O O (aL)) ?_)))));refine Lw (ι:=SP×SP) [_,_,_] _ Y O aC O O (λ_=>.tuple #[]) (λq=>(bW 157 108 112 j o ⟨aK l (c7 ((aK y t.g).code.length) (aT ⟨11,0,0⟩ 1 0 (ah [⟨1,1,0⟩] (aT ⟨12,0,0⟩ 1 0 (aK y t.g))))),q.1,q.2⟩)) (λ_=>True) [B] (by simp) (λw b=>(Q l aI aJ (⟨(c7 ((aK y t.g).code.length) (aT ⟨11,0,0⟩ 1 0 (ah [⟨1,1,0⟩] (aT ⟨12,0,0⟩ 1 0 (aK y t.g))))),F.1.1,F.1.2⟩:b9) w aM aN (by show ((c7 ((aK y t.g).code.length) (aT ⟨11,0,0⟩ 1 0 (ah [⟨1,1,0⟩] (aT ⟨12,0,0⟩ 1 0 (aK y t.g)))))).code.length+8*eA l<=_; (try simp only [cY]); omega) (by show ((c7 ((aK y t.g).code.length) (aT ⟨11,0,0⟩ 1 0 (ah [⟨1,1,0⟩] (aT ⟨12,0,0⟩ 1 0 (aK y t.g)))))).fix.length+8*eA l<=_; (try simp only [cY]); omega) b).mono λe w' ⟨q,p,r⟩=>⟨q,p,trivial,r⟩) ?_;intro H _;refine aa (ag (ad O (I (Yb gu hs O O) ?_)));refine Lb Y O hK O O O O λbJ=>?_;refine WL.jY (rd:=gm) (f:=bA.cells) (k:=3) (m:=1) 0 [⟨22,0,0⟩] O O bA.ck (λ_ _ _ _ h=>h) (by simp) (by decide) λba bK=>?_;refine Lw (ι:=SP) [_,_,_] _ Y O aC O O (λ_=>.tuple #[]) (λq=>(bW 157 108 112 j o ⟨ah [⟨22,0,0⟩] (⟨(aK l (c7 ((aK y t.g).code.length) (aT ⟨11,0,0⟩ 1 0 (ah [⟨1,1,0⟩] (aT ⟨12,0,0⟩ 1 0 (aK y t.g)))))),H.1,H.2⟩:b9).g,q,(⟨(aK l (c7 ((aK y t.g).code.length) (aT ⟨11,0,0⟩ 1 0 (ah [⟨1,1,0⟩] (aT ⟨12,0,0⟩ 1 0 (aK y t.g)))))),H.1,H.2⟩:b9).fa⟩)) (λ_=>True) [ba] (by simp) (λw b=>(kC j o (⟨(aK l (c7 ((aK y t.g).code.length) (aT ⟨11,0,0⟩ 1 0 (ah [⟨1,1,0⟩] (aT ⟨12,0,0⟩ 1 0 (aK y t.g)))))),H.1,H.2⟩:b9) ba (some ⟨bJ,0,none⟩) 1 [⟨22,0,0⟩] w bK (by show ((aK l (c7 ((aK y t.g).code.length) (aT ⟨11,0,0⟩ 1 0 (ah [⟨1,1,0⟩] (aT ⟨12,0,0⟩ 1 0 (aK y t.g))))))).code.length+[⟨22,0,0⟩].length<=_; (try simp only [cY]); omega) b).mono λe w' ⟨q,p,r⟩=>⟨q,p,trivial,r⟩) ?_;intro av _;refine aa (ag (ad O (Lf 6 O (Lf 6 O (Lf 4 O (Lf 4 O (Lf 4 O ?_)))))));refine WL.rW (ι:=Unit) [_,_,_,_,_] _ Y O aC O O O (λ_=>.tuple #[]) (λ_=>(bW 157 108 112 j o ⟨c7 ((ah [⟨1,1,0⟩] (aT ⟨12,0,0⟩ 1 0 (aK y t.g))).code.length) (ah [⟨22,0,0⟩] (aK l (c7 ((aK y t.g).code.length) (aT ⟨11,0,0⟩ 1 0 (ah [⟨1,1,0⟩] (aT ⟨12,0,0⟩ 1 0 (aK y t.g))))))),(⟨(ah [⟨22,0,0⟩] (aK l (c7 ((aK y t.g).code.length) (aT ⟨11,0,0⟩ 1 0 (ah [⟨1,1,0⟩] (aT ⟨12,0,0⟩ 1 0 (aK y t.g))))))),av,H.2⟩:b9).ca,(⟨(ah [⟨22,0,0⟩] (aK l (c7 ((aK y t.g).code.length) (aT ⟨11,0,0⟩ 1 0 (ah [⟨1,1,0⟩] (aT ⟨12,0,0⟩ 1 0 (aK y t.g))))))),av,H.2⟩:b9).fa⟩)++[ao F.2.1 (.cells #[.pointer (some ⟨j,0,none⟩)] 155 (0,0)),ao F.2.2 (.cells #[.int .i64 ((ah [⟨1,1,0⟩] (aT ⟨12,0,0⟩ 1 0 (aK y t.g))).code.length:Int)] 3 (0,0))]) (λ_=>True) [] (by simp) (λw b=>(eI j o (⟨(ah [⟨22,0,0⟩] (aK l (c7 ((aK y t.g).code.length) (aT ⟨11,0,0⟩ 1 0 (ah [⟨1,1,0⟩] (aT ⟨12,0,0⟩ 1 0 (aK y t.g))))))),av,H.2⟩:b9) F.2.1 F.2.2 ((ah [⟨1,1,0⟩] (aT ⟨12,0,0⟩ 1 0 (aK y t.g))).code.length) _ w (dL (by show (ah [⟨1,1,0⟩] (aT ⟨12,0,0⟩ 1 0 (aK y t.g))).code.length<((ah [⟨22,0,0⟩] (aK l (c7 ((aK y t.g).code.length) (aT ⟨11,0,0⟩ 1 0 (ah [⟨1,1,0⟩] (aT ⟨12,0,0⟩ 1 0 (aK y t.g)))))))).code.length; (try simp only [cY]); omega)) b).mono λe w' h=>⟨(),h.1,trivial,h.2⟩) ?_
    intro _ _;refine aa (a7 (Er (cG ?_)));refine WE.yf O λw' b=>?_
    have z:aK x t.g=(c7 ((ah [⟨1,1,0⟩] (aT ⟨12,0,0⟩ 1 0 (aK y t.g))).code.length) (ah [⟨22,0,0⟩] (aK l (c7 ((aK y t.g).code.length) (aT ⟨11,0,0⟩ 1 0 (ah [⟨1,1,0⟩] (aT ⟨12,0,0⟩ 1 0 (aK y t.g)))))))):=by
      rw [pE,la,if_neg K,if_neg M,if_neg P,if_neg W,if_neg al,if_neg aq,if_neg aX,if_pos u];unfold pD;rw [mL C,mL L]
    rw [z];exact ⟨(av,H.2),O,Wv 2 (Wt 3 b)⟩
   exact absurd ap (by rw [u]; decide)
  exact absurd an (by rw [u]; decide)
 have bb:¬x.op=8:=by simpa using S
 refine Cs ?_;have D:=zd x.args t.g;have aD:=D.hi;have aE:=D.hd;refine Cr (ad O (I (Yf oh O) (I (Yd 0 O O O ab) (Lf 3 O (Lf 3 O (Lf 3 O ?_))))));refine Lw (ι:=SP×SP) [_,_,_] _ Y O aC O O (λ_=>.tuple #[]) (λq=>(bW 157 108 112 j o ⟨aR x.args t.g,q.1,q.2⟩)) (λ_=>True) [B] (by simp) (λw b=>(Li j o t B k x.args a c w X J G.args.1 (by omega) (by omega) b).mono λe w' ⟨q,p,r⟩=>⟨q,p,trivial,r⟩) ?_;intro E _;refine aa (ag (I (Yf og O) (I (Yd 3 O O O ab) (I (bY O O) (aa ?_)))));refine Cc O (λaY=>?_) (λaY=>?_)
 ·have u:x.op=6:=by simpa using aY
  refine Cr (ad O (I (Yb gu hs O O) ?_));refine Lb Y O hK O O O O λbL=>?_;refine WL.jY (rd:=gm) (f:=bA.cells) (k:=3) (m:=1) 0 [⟨9,0,0⟩] O O bA.ck (λ_ _ _ _ h=>h) (by simp) (by decide) λbc bM=>?_;refine Lw (ι:=SP) [_,_,_] _ Y O aC O O (λ_=>.tuple #[]) (λq=>(bW 157 108 112 j o ⟨ah [⟨9,0,0⟩] (⟨(aR x.args t.g),E.1,E.2⟩:b9).g,q,(⟨(aR x.args t.g),E.1,E.2⟩:b9).fa⟩)) (λ_=>True) [bc] (by simp) (λw b=>(kC j o (⟨(aR x.args t.g),E.1,E.2⟩:b9) bc (some ⟨bL,0,none⟩) 1 [⟨9,0,0⟩] w bM (by show ((aR x.args t.g)).code.length+[⟨9,0,0⟩].length<=_; (try simp only [cY]); omega) b).mono λe w' ⟨q,p,r⟩=>⟨q,p,trivial,r⟩) ?_;intro bN _;refine Ln (Eb ?_);refine E0 O λw' b=>?_
  have z:aK x t.g=ah [⟨9,0,0⟩] (aR x.args t.g):=by
    rw [pE,la,if_neg K,if_neg M,if_neg P,if_neg W,if_neg al,if_neg aq,if_neg aX,if_neg bb,if_pos u];rw [kk]
  rw [z];exact ⟨(bN,E.2),O,Wv 1 (Wt 3 b)⟩
 have bO:¬x.op=6:=by simpa using aY
 refine Cr (ad O (I (Yf og O) (I (Yd 3 O O O ab) (I (Yb gu hs O O) ?_))));refine Lb Y O hK O O O O λbP=>?_;refine WL.jY (rd:=gm) (f:=bA.cells) (k:=3) (m:=1) 0 [⟨10,x.op,0⟩] O O bA.ck (λ_ _ _ _ h=>h) (by simp) (by decide) λbd bQ=>?_;refine Lw (ι:=SP) [_,_,_] _ Y O aC O O (λ_=>.tuple #[]) (λq=>(bW 157 108 112 j o ⟨ah [⟨10,x.op,0⟩] (⟨(aR x.args t.g),E.1,E.2⟩:b9).g,q,(⟨(aR x.args t.g),E.1,E.2⟩:b9).fa⟩)) (λ_=>True) [bd] (by simp) (λw b=>(kC j o (⟨(aR x.args t.g),E.1,E.2⟩:b9) bd (some ⟨bP,0,none⟩) 1 [⟨10,x.op,0⟩] w bQ (by show ((aR x.args t.g)).code.length+[⟨10,x.op,0⟩].length<=_; (try simp only [cY]); omega) b).mono λe w' ⟨q,p,r⟩=>⟨q,p,trivial,r⟩) ?_;intro bR _;refine Ln (Eb ?_);refine E0 O λw' b=>?_
 have z:aK x t.g=ah [⟨10,x.op,0⟩] (aR x.args t.g):=by
   rw [pE,la,if_neg K,if_neg M,if_neg P,if_neg W,if_neg al,if_neg aq,if_neg aX,if_neg bb,if_neg bO,kk]
 rw [z];exact ⟨(bR,E.2),O,Wv 1 (Wt 3 b)⟩
def Ll (f:View) (b:Nat) (d:hG) (ke k:Nat):Prop:=∀(l:List di) (a:Option Addr) (c:Nat) (t:b9) (w:World),Sl (hS ke k) 7 f a c l->pG l->t.g.code.length+8*fb l<=1000000000000->t.g.fix.length+8*fb l<=1000000000000->
 Ws w (List.flatMap aW.ids (bW 157 108 112 b d t)) (bW 157 108 112 b d t) [f] w->Calls prog 141 #[.pointer (some ⟨b,0,none⟩),.slice a l.length c] w λe w'=>∃q:SP×SP,e = .returned (.tuple #[])/\Ws w (List.flatMap aW.ids (bW 157 108 112 b d t)) (bW 157 108 112 b d ⟨au l t.g,q.1,q.2⟩) [f] w'
theorem UL (j:Nat) (o:hG) (t:b9) (z:View) (ke k:Nat) (x:di) (r:eU) (w:World) (az:Ll z j o ke k) (l:Sl (jn ke) 5 z r.s1.1 r.s1.2 x.args) (p:Sl (hS ke k) 7 z r.s2.1 r.s2.2 x.body) (an:Sl (hS ke k) 7 z r.s3.1 r.s3.2 x.other) (A:ze x) (bI:t.g.code.length+8*nn x<=1000000000000) (bJ:t.g.fix.length+8*nn x<=1000000000000) (b:Ws w (List.flatMap aW.ids (bW 157 108 112 j o t)) (bW 157 108 112 j o t) [z] w) :
   Calls prog 177 #[.pointer (some ⟨j,0,none⟩),.agg (qB x r).toArray] w λe w'=>∃q:SP×SP,e = .returned (.tuple #[])/\Ws w (List.flatMap aW.ids (bW 157 108 112 j o t)) (bW 157 108 112 j o ⟨iX x t.g,q.1,q.2⟩) [z] w':=by
 have V:∀s,xG z j o s:=λs x a c t w l p an a9 a'=>UK j o t z s x a c w l p an a9 a';have bK:=l.cap;have bL:=l.max;have bM:=an.cap;have bN:=an.max;have bO:=Pd x;refine enter func177 O 155 O O ?_;refine CE b (ag ?_);refine WL.box Y O O λbP=>?_;refine aa (ag (I (Yf vk O) (I (Yd 0 O O O ab) (aa (Cb (ag (I (bY O O) (ak O (aa ?_)))))))));refine Cc O (λaA=>?_) (λaA=>?_)
 ·have D:x.op=1:=by simpa using aA
  refine Cs ?_;have ax:=A.parts.2.2.2.1 (by omega);obtain ⟨y,u⟩:∃y,x.args[0]? = some y:=⟨_,dL (by omega)⟩;obtain ⟨ap,aq,G,B⟩:=l.bT 0 y u
  obtain ⟨s,rfl⟩:∃s,ke=s+1:=by
    cases ke with
    | zero=>exact B.elim
    | succ s=>exact ⟨s,rfl⟩
  obtain ⟨H,J,K,L⟩:=B;have E:=V s;have M:=A.parts.1.at_ u;have ar:=tH u;have v:=lF y t.g;have aj:=v.hi;have al:=v.hd;have av:=v.lo;refine Cr (ad O (I (Yf nC O) (I (Yd 0 O O O ab) (I (Yo (i:=0) gL O O G (by omega)) (I (dV 0 kB O O O (K)) (Lf 3 O (Lf 3 O ?_)))))));refine Lf 3 O ?_;refine Lw (ι:=SP×SP) [_,_,_] _ Y O aC O O (λ_=>.tuple #[]) (λq=>(bW 157 108 112 j o ⟨aK y t.g,q.1,q.2⟩)) (λ_=>True) [z] (by simp) (λw b=>(E y H J t w L M (by show (t.g).code.length+8*eA y<=_; (try simp only [cY]); omega) (by show (t.g).fix.length+8*eA y<=_; (try simp only [cY]); omega) b).mono λe w' ⟨q,l,p⟩=>⟨q,l,trivial,p⟩) ?_;intro S _;refine aa (ag (I (Yf mm O) (I (Yd 3 O O O ab) (I (ai O O) (aa ?_)))));refine Cc O (λaB=>?_) (λaB=>?_)
  ·have aD:x.m<0:=by simpa using aB
   refine Cr (ad O (I (Yf mW O) (I (Yd 3 O O O ab) (I (Yb gu hs O O) ?_))));refine Lb Y O hK O O O O λa_=>?_;refine WL.jY (rd:=gm) (f:=bA.cells) (k:=3) (m:=1) 0 [⟨3,x.pl,0⟩] O O bA.ck (λ_ _ _ _ h=>h) (by simp) (by decide) λaV ba=>?_;refine Lw (ι:=SP) [_,_,_] _ Y O aC O O (λ_=>.tuple #[]) (λq=>(bW 157 108 112 j o ⟨ah [⟨3,x.pl,0⟩] (⟨(aK y t.g),S.1,S.2⟩:b9).g,q,(⟨(aK y t.g),S.1,S.2⟩:b9).fa⟩)) (λ_=>True) [aV] (by simp) (λw b=>(kC j o (⟨(aK y t.g),S.1,S.2⟩:b9) aV (some ⟨a_,0,none⟩) 1 [⟨3,x.pl,0⟩] w ba (by show ((aK y t.g)).code.length+[⟨3,x.pl,0⟩].length<=_; (try simp only [cY]); omega) b).mono λe w' ⟨q,l,p⟩=>⟨q,l,trivial,p⟩) ?_;intro bb _;refine Ln (Eb ?_);refine E0 O λw' b=>?_
   have C:iX x t.g=ah [⟨3,x.pl,0⟩] (aK y t.g):=by
     rw [qI,j6,if_pos D,if_pos aD,mL u]
   rw [C];exact ⟨(bb,S.2),O,Wv 1 (Wt 3 b)⟩
  have aD:¬x.m<0:=by simpa using aB
  refine Cr (ad O (I (Yf mW O) (I (Yd 3 O O O ab) (I (Yb gu hs O O) (I (Yf mm O) (I (Yd 3 O O O ab) ?_))))));refine Lw (ι:=SP×SP) [_,_,_] _ Y O aC O O (λ_=>.int .i64 ((aK y t.g).code.length:Int)) (λq=>(bW 157 108 112 j o ⟨aT ⟨5,x.pl,0⟩ 3 x.m (aK y t.g),q.1,q.2⟩)) (λ_=>True) [] (by simp) (λw b=>(vq j o (⟨(aK y t.g),S.1,S.2⟩:b9)  ⟨5,x.pl,0⟩ 3 x.m w  (by show ((aK y t.g)).code.length+1<=_; (try simp only [cY]); omega) (by show ((aK y t.g)).fix.length+1<=_; (try simp only [cY]); omega) b).mono λe w' ⟨q,l,p⟩=>⟨q,l,trivial,p⟩) ?_;intro aX _;refine Ln (Eb ?_);refine E0 O λw' b=>?_
  have C:iX x t.g=aT ⟨5,x.pl,0⟩ 3 x.m (aK y t.g):=by
    rw [qI,j6,if_pos D,if_neg aD,mL u]
  rw [C];exact ⟨(aX.1,aX.2),O,Wt 3 b⟩
 have W:¬x.op=1:=by simpa using aA
 refine ag (I (bY O O) (ak O (aa ?_)));refine Cc O (λaE=>?_) (λaE=>?_)
 ·have D:x.op=2:=by simpa using aE
  refine Cs ?_;have bQ:=A.parts.2.2.2.2.1 (by omega);obtain ⟨y,u⟩:∃y,x.args[0]? = some y:=⟨_,dL (by omega)⟩;obtain ⟨ap,aq,G,B⟩:=l.bT 0 y u;obtain ⟨N,ay⟩:∃y,x.args[1]? = some y:=⟨_,dL (by omega)⟩;obtain ⟨bR,bS,bc,bd⟩:=l.bT 1 N ay
  obtain ⟨s,rfl⟩:∃s,ke=s+1:=by
    cases ke with
    | zero=>exact B.elim
    | succ s=>exact ⟨s,rfl⟩
  obtain ⟨H,J,K,L⟩:=B;have E:=V s;have M:=A.parts.1.at_ u;have ar:=tH u;have v:=lF y t.g;have aj:=v.hi;have al:=v.hd;have av:=v.lo;obtain ⟨be,bf,bg,bh⟩:=bd;have bi:=A.parts.1.at_ ay;have bU:=vD u ay;have aF:=lF N (aT ⟨6,x.pl,x.n⟩ 3 x.m (aK y t.g));have bj:=aF.hi;have bl:=aF.hd;have bm:=aF.lo
  try simp only [cY] at bj bl bm
  refine CU (λ_=>true) [1,1,1] [] (.q false 0 (.q false 1 (.q true 2 (.q false 3 (.q true 4 (.q false 5 (.q true 6 (.q false 7 (.q true 8 (.q false 9 (.q true 10 (.e 11 .nil .stop)))))))))))) mixed (by kernel_rfl) (λ_ _ _ d _ _ h=>by cases d<;>exact h) ?_;refine U0 O (cH [1,1,1]) (Ym O) (U0 O (cH [1,1,1]) (Yf mm O) (U0 O (cH [1,1,1]) (Yd 0 O O O ab) (U0 O (cH [1,1,1]) (Yf mW O) (U0 O (cH [1,1,1]) (Yd 0 O O O ab) (U0 O (cH [1,1,1]) (Yf ra O) (U0 O (cH [1,1,1]) (Yd 0 O O O ab) (U0 O (cH [1,1,1]) (Yf nC O) ?_)))))));refine U0 O (cH [1,1,1]) (Yd 0 O O O ab) (U0 O (cH [1,1,1]) (Yo (i:=0) gL O O G (by omega)) (U0 O (cH [1,1,1]) (dV 0 kB O O O (K)) ?_));refine Ue O (cH [1,1,1]) ?_ WU.stop;refine Lf 3 O (Lf 3 O (Lf 3 O ?_));refine Lw (ι:=SP×SP) [_,_,_] _ Y O aC O O (λ_=>.tuple #[]) (λq=>(bW 157 108 112 j o ⟨aT ⟨6,x.pl,x.n⟩ 3 x.m (aK y t.g),q.1,q.2⟩)) (λ_=>True) [z] (by simp) (λw b=>(Lk j o t z s x.m x.pl x.n y H J w E L M (by omega) (by omega) b).mono λe w' ⟨q,l,p⟩=>⟨q,l,trivial,p⟩) ?_;intro aY _;refine Ln (Eu ?_);refine WU.nil (λ_ h=>(Wo 1 (Wo 1 (Wo 1 (h.f 3 O))):)) ?_;refine WS.nil ?_;refine Et (ag (ad O (I (Yf nC O) (I (Yd 3 O O O ab) (I (Yo (i:=1) gL O O bc (by omega)) (I (dV 0 kB O O O (bg)) ?_))))));refine Lw (ι:=SP×SP) [_,_,_] _ Y O aC O O (λ_=>.tuple #[]) (λq=>(bW 157 108 112 j o ⟨aK N (aT ⟨6,x.pl,x.n⟩ 3 x.m (aK y t.g)),q.1,q.2⟩)) (λ_=>True) [z] (by simp) (λw b=>(E N be bf (⟨(aT ⟨6,x.pl,x.n⟩ 3 x.m (aK y t.g)),aY.1,aY.2⟩:b9) w bh bi (by show ((aT ⟨6,x.pl,x.n⟩ 3 x.m (aK y t.g))).code.length+8*eA N<=_; (try simp only [cY]); omega) (by show ((aT ⟨6,x.pl,x.n⟩ 3 x.m (aK y t.g))).fix.length+8*eA N<=_; (try simp only [cY]); omega) b).mono λe w' ⟨q,l,p⟩=>⟨q,l,trivial,p⟩) ?_;intro X _;refine aa (Cr (ad O (I (Yb gu hs O O) ?_)));refine Lb Y O hK O O O O λbn=>?_;refine WL.jY (rd:=gm) (f:=bA.cells) (k:=3) (m:=1) 0 [⟨8,0,0⟩] O O bA.ck (λ_ _ _ _ h=>h) (by simp) (by decide) λaZ bo=>?_;refine Lw (ι:=SP) [_,_,_] _ Y O aC O O (λ_=>.tuple #[]) (λq=>(bW 157 108 112 j o ⟨ah [⟨8,0,0⟩] (⟨(aK N (aT ⟨6,x.pl,x.n⟩ 3 x.m (aK y t.g))),X.1,X.2⟩:b9).g,q,(⟨(aK N (aT ⟨6,x.pl,x.n⟩ 3 x.m (aK y t.g))),X.1,X.2⟩:b9).fa⟩)) (λ_=>True) [aZ] (by simp) (λw b=>(kC j o (⟨(aK N (aT ⟨6,x.pl,x.n⟩ 3 x.m (aK y t.g))),X.1,X.2⟩:b9) aZ (some ⟨bn,0,none⟩) 1 [⟨8,0,0⟩] w bo (by show ((aK N (aT ⟨6,x.pl,x.n⟩ 3 x.m (aK y t.g)))).code.length+[⟨8,0,0⟩].length<=_; (try simp only [cY]); omega) b).mono λe w' ⟨q,l,p⟩=>⟨q,l,trivial,p⟩) ?_;intro bp _;refine Ln (Eb ?_);refine E0 O λw' b=>?_
  have C:iX x t.g=ah [⟨8,0,0⟩] (aK N (aT ⟨6,x.pl,x.n⟩ 3 x.m (aK y t.g))):=by
    rw [qI,j6,if_neg W,if_pos D,mL u,mL ay]
  rw [C];exact ⟨(bp,X.2),O,Wv 1 (Wt 3 b)⟩
 have am:¬x.op=2:=by simpa using aE
 refine ag (I (bY O O) (ak O (aa ?_)));refine Cc O (λaG=>?_) (λaG=>?_)
 ·have D:x.op=3:=by simpa using aG
  refine Cs ?_;have a0:=zd x.args t.g;have aj:=a0.hi;have al:=a0.hd;refine Cr (ad O (I (Yf mm O) (I (Yd 0 O O O ab) (I (Yf mW O) (I (Yd 0 O O O ab) (I (Yf nC O) (I (Yd 0 O O O ab) ?_)))))));refine Lf 3 O (Lf 3 O (Lf 3 O ?_));refine Lw (ι:=SP×SP) [_,_,_] _ Y O aC O O (λ_=>.tuple #[]) (λq=>(bW 157 108 112 j o ⟨aT ⟨13,x.pl,0⟩ 2 x.m (aR x.args t.g),q.1,q.2⟩)) (λ_=>True) [z] (by simp) (λw b=>(Lj j o t z ke x.m x.pl x.args r.s1.1 r.s1.2 w (λs _=>V s) l A.parts.1 (by omega) (by omega) b).mono λe w' ⟨q,l,p⟩=>⟨q,l,trivial,p⟩) ?_;intro Z _;refine aa (Cr (ad O (I (Yb gu hs O O) ?_)));refine Lb Y O hK O O O O λbq=>?_;refine WL.jY (rd:=gm) (f:=bA.cells) (k:=3) (m:=1) 0 [⟨17,0,0⟩] O O bA.ck (λ_ _ _ _ h=>h) (by simp) (by decide) λa1 br=>?_;refine Lw (ι:=SP) [_,_,_] _ Y O aC O O (λ_=>.tuple #[]) (λq=>(bW 157 108 112 j o ⟨ah [⟨17,0,0⟩] (⟨(aT ⟨13,x.pl,0⟩ 2 x.m (aR x.args t.g)),Z.1,Z.2⟩:b9).g,q,(⟨(aT ⟨13,x.pl,0⟩ 2 x.m (aR x.args t.g)),Z.1,Z.2⟩:b9).fa⟩)) (λ_=>True) [a1] (by simp) (λw b=>(kC j o (⟨(aT ⟨13,x.pl,0⟩ 2 x.m (aR x.args t.g)),Z.1,Z.2⟩:b9) a1 (some ⟨bq,0,none⟩) 1 [⟨17,0,0⟩] w br (by show ((aT ⟨13,x.pl,0⟩ 2 x.m (aR x.args t.g))).code.length+[⟨17,0,0⟩].length<=_; (try simp only [cY]); omega) b).mono λe w' ⟨q,l,p⟩=>⟨q,l,trivial,p⟩) ?_;intro bs _;refine Ln (Eb ?_);refine E0 O λw' b=>?_
  have C:iX x t.g=ah [⟨17,0,0⟩] (aT ⟨13,x.pl,0⟩ 2 x.m (aR x.args t.g)):=by
    rw [qI,j6,if_neg W,if_neg am,if_pos D,kk]
  rw [C];exact ⟨(bs,Z.2),O,Wv 1 (Wt 3 b)⟩
 have aw:¬x.op=3:=by simpa using aG
 refine ag (I (bY O O) (ak O (aa ?_)));refine Cc O (λaH=>?_) (λaH=>?_)
 ·have D:x.op=4:=by simpa using aH
  refine Cs ?_;have ax:=A.parts.2.2.2.1 (by omega);obtain ⟨y,u⟩:∃y,x.args[0]? = some y:=⟨_,dL (by omega)⟩;obtain ⟨ap,aq,G,B⟩:=l.bT 0 y u
  obtain ⟨s,rfl⟩:∃s,ke=s+1:=by
    cases ke with
    | zero=>exact B.elim
    | succ s=>exact ⟨s,rfl⟩
  obtain ⟨H,J,K,L⟩:=B;have E:=V s;have M:=A.parts.1.at_ u;have ar:=tH u;have v:=lF y t.g;have aj:=v.hi;have al:=v.hd;have av:=v.lo;have ac:=qJ x.body (aT ⟨12,0,0⟩ 1 0 (aK y t.g));have aI:=ac.hi;have aJ:=ac.hd;have aL:=ac.lo
  try simp only [cY] at aI aJ aL
  have aM:=qJ x.other (c7 ((aK y t.g).code.length) (aT ⟨11,0,0⟩ 1 0 (au x.body (aT ⟨12,0,0⟩ 1 0 (aK y t.g)))));have bt:=aM.hi;have bu:=aM.hd;have bv:=aM.lo
  try simp only [cY] at bt bu bv
  refine Cr (ad O (I (Yf nC O) (I (Yd 0 O O O ab) (I (Yo (i:=0) gL O O G (by omega)) (I (dV 0 kB O O O (K)) (Lf 3 O (Lf 3 O ?_)))))));refine Lf 3 O ?_;refine Lw (ι:=SP×SP) [_,_,_] _ Y O aC O O (λ_=>.tuple #[]) (λq=>(bW 157 108 112 j o ⟨aK y t.g,q.1,q.2⟩)) (λ_=>True) [z] (by simp) (λw b=>(E y H J t w L M (by show (t.g).code.length+8*eA y<=_; (try simp only [cY]); omega) (by show (t.g).fix.length+8*eA y<=_; (try simp only [cY]); omega) b).mono λe w' ⟨q,l,p⟩=>⟨q,l,trivial,p⟩) ?_;intro a2 _;refine aa (ag (ad O ?_));refine Lw (ι:=(SP×SP)×Nat×Nat) [_,_,_] _ Y O aC O O (λq=>.func (.func 254) #[] #[.pointer (some ⟨q.2.1,0,none⟩),.pointer (some ⟨q.2.2,0,none⟩)]) (λq=>(bW 157 108 112 j o ⟨aT ⟨12,0,0⟩ 1 0 (aK y t.g),q.1.1,q.1.2⟩)++[ao q.2.1 (.cells #[.pointer (some ⟨j,0,none⟩)] 155 (0,0)),ao q.2.2 (.cells #[.int .i64 ((aK y t.g).code.length:Int)] 3 (0,0))]) (λ_=>True) [] (by simp) (λw b=>(tG j o (⟨(aK y t.g),a2.1,a2.2⟩:b9) 12 w (by show ((aK y t.g)).code.length+1<=_; (try simp only [cY]); omega) (by show ((aK y t.g)).fix.length+1<=_; (try simp only [cY]); omega) b).mono λe w' ⟨q,l,p⟩=>⟨q,l,trivial,p⟩) ?_;intro Q _;refine ak O (aa (ag (ad O (I (Yf fW O) (I (Yd 5 O O O ab) ?_)))));refine Lw (ι:=SP×SP) [_,_,_] _ Y O aC O O (λ_=>.tuple #[]) (λq=>(bW 157 108 112 j o ⟨au x.body (aT ⟨12,0,0⟩ 1 0 (aK y t.g)),q.1,q.2⟩)) (λ_=>True) [z] (by simp) (λw b=>(az x.body r.s2.1 r.s2.2 (⟨(aT ⟨12,0,0⟩ 1 0 (aK y t.g)),Q.1.1,Q.1.2⟩:b9) w p (A.parts.2.1 (by omega)) (by show ((aT ⟨12,0,0⟩ 1 0 (aK y t.g))).code.length+8*fb x.body<=_; (try simp only [cY]); omega) (by show ((aT ⟨12,0,0⟩ 1 0 (aK y t.g))).fix.length+8*fb x.body<=_; (try simp only [cY]); omega) b).mono λe w' ⟨q,l,p⟩=>⟨q,l,trivial,p⟩) ?_;intro R _;refine aa (Cs (ag (I (Yf rb O) (I (Yd 5 O O O ab) (I (Yn hJ O) (I (dO O O) (aa ?_)))))));refine Cc O (λaN=>?_) (λaN=>?_)
  ·have aO:0<x.other.length:=by simpa using aN
   refine ag (ad O ?_);refine Lw (ι:=(SP×SP)×Nat×Nat) [_,_,_] _ Y O aC O O (λq=>.func (.func 254) #[] #[.pointer (some ⟨q.2.1,0,none⟩),.pointer (some ⟨q.2.2,0,none⟩)]) (λq=>(bW 157 108 112 j o ⟨aT ⟨11,0,0⟩ 1 0 (au x.body (aT ⟨12,0,0⟩ 1 0 (aK y t.g))),q.1.1,q.1.2⟩)++[ao q.2.1 (.cells #[.pointer (some ⟨j,0,none⟩)] 155 (0,0)),ao q.2.2 (.cells #[.int .i64 ((au x.body (aT ⟨12,0,0⟩ 1 0 (aK y t.g))).code.length:Int)] 3 (0,0))]) (λ_=>True) [] (by simp) (λw b=>(tG j o (⟨(au x.body (aT ⟨12,0,0⟩ 1 0 (aK y t.g))),R.1,R.2⟩:b9) 11 w (by show ((au x.body (aT ⟨12,0,0⟩ 1 0 (aK y t.g)))).code.length+1<=_; (try simp only [cY]); omega) (by show ((au x.body (aT ⟨12,0,0⟩ 1 0 (aK y t.g)))).fix.length+1<=_; (try simp only [cY]); omega) b).mono λe w' ⟨q,l,p⟩=>⟨q,l,trivial,p⟩) ?_;intro F _;refine ak O (aa (ag (ad O (Lf 6 O (Lf 6 O (Lf 4 O (Lf 4 O (Lf 4 O ?_))))))));refine WL.rW (ι:=Unit) [_,_,_,_,_] _ Y O aC O O O (λ_=>.tuple #[]) (λ_=>(bW 157 108 112 j o ⟨c7 ((aK y t.g).code.length) (aT ⟨11,0,0⟩ 1 0 (au x.body (aT ⟨12,0,0⟩ 1 0 (aK y t.g)))),(⟨(aT ⟨11,0,0⟩ 1 0 (au x.body (aT ⟨12,0,0⟩ 1 0 (aK y t.g)))),F.1.1,F.1.2⟩:b9).ca,(⟨(aT ⟨11,0,0⟩ 1 0 (au x.body (aT ⟨12,0,0⟩ 1 0 (aK y t.g)))),F.1.1,F.1.2⟩:b9).fa⟩)++[ao Q.2.1 (.cells #[.pointer (some ⟨j,0,none⟩)] 155 (0,0)),ao Q.2.2 (.cells #[.int .i64 ((aK y t.g).code.length:Int)] 3 (0,0))]) (λ_=>True) [] (by simp) (λw b=>(eI j o (⟨(aT ⟨11,0,0⟩ 1 0 (au x.body (aT ⟨12,0,0⟩ 1 0 (aK y t.g)))),F.1.1,F.1.2⟩:b9) Q.2.1 Q.2.2 ((aK y t.g).code.length) _ w (dL (by show (aK y t.g).code.length<((aT ⟨11,0,0⟩ 1 0 (au x.body (aT ⟨12,0,0⟩ 1 0 (aK y t.g))))).code.length; (try simp only [cY]); omega)) b).mono λe w' h=>⟨(),h.1,trivial,h.2⟩) ?_;intro _ _;refine aa (ag (ad O (I (Yf rb O) (I (Yd 7 O O O ab) ?_))));refine Lw (ι:=SP×SP) [_,_,_] _ Y O aC O O (λ_=>.tuple #[]) (λq=>(bW 157 108 112 j o ⟨au x.other (c7 ((aK y t.g).code.length) (aT ⟨11,0,0⟩ 1 0 (au x.body (aT ⟨12,0,0⟩ 1 0 (aK y t.g))))),q.1,q.2⟩)) (λ_=>True) [z] (by simp) (λw b=>(az x.other r.s3.1 r.s3.2 (⟨(c7 ((aK y t.g).code.length) (aT ⟨11,0,0⟩ 1 0 (au x.body (aT ⟨12,0,0⟩ 1 0 (aK y t.g))))),F.1.1,F.1.2⟩:b9) w an A.parts.2.2.1 (by show ((c7 ((aK y t.g).code.length) (aT ⟨11,0,0⟩ 1 0 (au x.body (aT ⟨12,0,0⟩ 1 0 (aK y t.g)))))).code.length+8*fb x.other<=_; (try simp only [cY]); omega) (by show ((c7 ((aK y t.g).code.length) (aT ⟨11,0,0⟩ 1 0 (au x.body (aT ⟨12,0,0⟩ 1 0 (aK y t.g)))))).fix.length+8*fb x.other<=_; (try simp only [cY]); omega) b).mono λe w' ⟨q,l,p⟩=>⟨q,l,trivial,p⟩) ?_;intro T _;refine aa (Cr (ad O (ak O (aa (Cr (ad O (Lf 6 O (Lf 6 O (Lf 4 O ?_)))))))));refine Lf 4 O (Lf 4 O ?_)
   refine WL.rW (ι:=Unit) [_,_,_,_,_] _ Y O aC O O O (λ_=>.tuple #[]) (λ_=>(bW 157 108 112 j o ⟨c7 ((au x.body (aT ⟨12,0,0⟩ 1 0 (aK y t.g))).code.length) (au x.other (c7 ((aK y t.g).code.length) (aT ⟨11,0,0⟩ 1 0 (au x.body (aT ⟨12,0,0⟩ 1 0 (aK y t.g)))))),(⟨(au x.other (c7 ((aK y t.g).code.length) (aT ⟨11,0,0⟩ 1 0 (au x.body (aT ⟨12,0,0⟩ 1 0 (aK y t.g)))))),T.1,T.2⟩:b9).ca,(⟨(au x.other (c7 ((aK y t.g).code.length) (aT ⟨11,0,0⟩ 1 0 (au x.body (aT ⟨12,0,0⟩ 1 0 (aK y t.g)))))),T.1,T.2⟩:b9).fa⟩)++[ao F.2.1 (.cells #[.pointer (some ⟨j,0,none⟩)] 155 (0,0)),ao F.2.2 (.cells #[.int .i64 ((au x.body (aT ⟨12,0,0⟩ 1 0 (aK y t.g))).code.length:Int)] 3 (0,0))]) (λ_=>True) [] (by simp) (λw b=>(eI j o (⟨(au x.other (c7 ((aK y t.g).code.length) (aT ⟨11,0,0⟩ 1 0 (au x.body (aT ⟨12,0,0⟩ 1 0 (aK y t.g)))))),T.1,T.2⟩:b9) F.2.1 F.2.2 ((au x.body (aT ⟨12,0,0⟩ 1 0 (aK y t.g))).code.length) _ w (dL (by show (au x.body (aT ⟨12,0,0⟩ 1 0 (aK y t.g))).code.length<((au x.other (c7 ((aK y t.g).code.length) (aT ⟨11,0,0⟩ 1 0 (au x.body (aT ⟨12,0,0⟩ 1 0 (aK y t.g))))))).code.length; (try simp only [cY]); omega)) b).mono λe w' h=>⟨(),h.1,trivial,h.2⟩) ?_;intro _ _;refine Ln (Eb ?_);refine E0 O λw' b=>?_
   have C:iX x t.g=c7 ((au x.body (aT ⟨12,0,0⟩ 1 0 (aK y t.g))).code.length) (au x.other (c7 ((aK y t.g).code.length) (aT ⟨11,0,0⟩ 1 0 (au x.body (aT ⟨12,0,0⟩ 1 0 (aK y t.g)))))):=by
     rw [qI,j6,if_neg W,if_neg am,if_neg aw,if_pos D,mL u];unfold qH;rw [if_pos aO]
   rw [C];exact ⟨(T.1,T.2),O,Wt 3 b⟩
  have aO:¬0<x.other.length:=by simpa using aN
  refine bk (Cr (ad O ?_));refine WL.rW (ι:=Unit) [_,_,_,_,_] _ Y O aC O O O (λ_=>.tuple #[]) (λ_=>(bW 157 108 112 j o ⟨c7 ((aK y t.g).code.length) (au x.body (aT ⟨12,0,0⟩ 1 0 (aK y t.g))),(⟨(au x.body (aT ⟨12,0,0⟩ 1 0 (aK y t.g))),R.1,R.2⟩:b9).ca,(⟨(au x.body (aT ⟨12,0,0⟩ 1 0 (aK y t.g))),R.1,R.2⟩:b9).fa⟩)++[ao Q.2.1 (.cells #[.pointer (some ⟨j,0,none⟩)] 155 (0,0)),ao Q.2.2 (.cells #[.int .i64 ((aK y t.g).code.length:Int)] 3 (0,0))]) (λ_=>True) [] (by simp) (λw b=>(eI j o (⟨(au x.body (aT ⟨12,0,0⟩ 1 0 (aK y t.g))),R.1,R.2⟩:b9) Q.2.1 Q.2.2 ((aK y t.g).code.length) _ w (dL (by show (aK y t.g).code.length<((au x.body (aT ⟨12,0,0⟩ 1 0 (aK y t.g)))).code.length; (try simp only [cY]); omega)) b).mono λe w' h=>⟨(),h.1,trivial,h.2⟩) ?_;intro _ _;refine Ln (Eb ?_);refine E0 O λw' b=>?_
  have C:iX x t.g=c7 ((aK y t.g).code.length) (au x.body (aT ⟨12,0,0⟩ 1 0 (aK y t.g))):=by
    rw [qI,j6,if_neg W,if_neg am,if_neg aw,if_pos D,mL u];unfold qH;rw [if_neg aO]
  rw [C];exact ⟨(R.1,R.2),O,Wt 3 b⟩
 have aP:¬x.op=4:=by simpa using aH
 refine ag (I (bY O O) (ak O (aa ?_)));refine Cc O (λaQ=>?_) (λaQ=>?_)
 ·have D:x.op=5:=by simpa using aQ
  refine ag (ad O (I (cJ O) (I (Yf lS O) (I (Yf ll O) (I (Yd 1 O O O ab) (I (Yn ju O) (ak O ?_)))))));refine aa (Cs ?_);have ax:=A.parts.2.2.2.1 (by omega);obtain ⟨y,u⟩:∃y,x.args[0]? = some y:=⟨_,dL (by omega)⟩;obtain ⟨ap,aq,G,B⟩:=l.bT 0 y u
  obtain ⟨s,rfl⟩:∃s,ke=s+1:=by
    cases ke with
    | zero=>exact B.elim
    | succ s=>exact ⟨s,rfl⟩
  obtain ⟨H,J,K,L⟩:=B;have E:=V s;have M:=A.parts.1.at_ u;have ar:=tH u;have v:=lF y t.g;have aj:=v.hi;have al:=v.hd;have av:=v.lo;have ac:=qJ x.body (ah [⟨16,0,0⟩] (aT ⟨12,0,0⟩ 1 0 (aK y t.g)));have aI:=ac.hi;have aJ:=ac.hd;have aL:=ac.lo
  try simp only [cY] at aI aJ aL
  refine Cr (ad O (I (Yf nC O) (I (Yd 0 O O O ab) (I (Yo (i:=0) gL O O G (by omega)) (I (dV 0 kB O O O (K)) (Lf 3 O (Lf 3 O ?_)))))));refine Lf 3 O ?_;refine Lw (ι:=SP×SP) [_,_,_] _ Y O aC O O (λ_=>.tuple #[]) (λq=>(bW 157 108 112 j o ⟨aK y t.g,q.1,q.2⟩)) (λ_=>True) [z] (by simp) (λw b=>(E y H J t w L M (by show (t.g).code.length+8*eA y<=_; (try simp only [cY]); omega) (by show (t.g).fix.length+8*eA y<=_; (try simp only [cY]); omega) b).mono λe w' ⟨q,l,p⟩=>⟨q,l,trivial,p⟩) ?_;intro a3 _;refine aa (ag (ad O ?_));refine Lw (ι:=(SP×SP)×Nat×Nat) [_,_,_] _ Y O aC O O (λq=>.func (.func 254) #[] #[.pointer (some ⟨q.2.1,0,none⟩),.pointer (some ⟨q.2.2,0,none⟩)]) (λq=>(bW 157 108 112 j o ⟨aT ⟨12,0,0⟩ 1 0 (aK y t.g),q.1.1,q.1.2⟩)++[ao q.2.1 (.cells #[.pointer (some ⟨j,0,none⟩)] 155 (0,0)),ao q.2.2 (.cells #[.int .i64 ((aK y t.g).code.length:Int)] 3 (0,0))]) (λ_=>True) [] (by simp) (λw b=>(tG j o (⟨(aK y t.g),a3.1,a3.2⟩:b9) 12 w (by show ((aK y t.g)).code.length+1<=_; (try simp only [cY]); omega) (by show ((aK y t.g)).fix.length+1<=_; (try simp only [cY]); omega) b).mono λe w' ⟨q,l,p⟩=>⟨q,l,trivial,p⟩) ?_;intro P _;refine ak O (aa (ag (ad O (I (Yb gu hs O O) ?_))));refine Lb Y O hK O O O O λbw=>?_;refine WL.jY (rd:=gm) (f:=bA.cells) (k:=3) (m:=1) 0 [⟨16,0,0⟩] O O bA.ck (λ_ _ _ _ h=>h) (by simp) (by decide) λa4 bx=>?_;refine Lw (ι:=SP) [_,_,_] _ Y O aC O O (λ_=>.tuple #[]) (λq=>(bW 157 108 112 j o ⟨ah [⟨16,0,0⟩] (⟨(aT ⟨12,0,0⟩ 1 0 (aK y t.g)),P.1.1,P.1.2⟩:b9).g,q,(⟨(aT ⟨12,0,0⟩ 1 0 (aK y t.g)),P.1.1,P.1.2⟩:b9).fa⟩)) (λ_=>True) [a4] (by simp) (λw b=>(kC j o (⟨(aT ⟨12,0,0⟩ 1 0 (aK y t.g)),P.1.1,P.1.2⟩:b9) a4 (some ⟨bw,0,none⟩) 1 [⟨16,0,0⟩] w bx (by show ((aT ⟨12,0,0⟩ 1 0 (aK y t.g))).code.length+[⟨16,0,0⟩].length<=_; (try simp only [cY]); omega) b).mono λe w' ⟨q,l,p⟩=>⟨q,l,trivial,p⟩) ?_;intro bz _;refine aa (ag (ad O (I (Yf fW O) (I (Yd 5 O O O ab) ?_))));refine Lw (ι:=SP×SP) [_,_,_] _ Y O aC O O (λ_=>.tuple #[]) (λq=>(bW 157 108 112 j o ⟨au x.body (ah [⟨16,0,0⟩] (aT ⟨12,0,0⟩ 1 0 (aK y t.g))),q.1,q.2⟩)) (λ_=>True) [z] (by simp) (λw b=>(az x.body r.s2.1 r.s2.2 (⟨(ah [⟨16,0,0⟩] (aT ⟨12,0,0⟩ 1 0 (aK y t.g))),bz,P.1.2⟩:b9) w p (A.parts.2.1 (by omega)) (by show ((ah [⟨16,0,0⟩] (aT ⟨12,0,0⟩ 1 0 (aK y t.g)))).code.length+8*fb x.body<=_; (try simp only [cY]); omega) (by show ((ah [⟨16,0,0⟩] (aT ⟨12,0,0⟩ 1 0 (aK y t.g)))).fix.length+8*fb x.body<=_; (try simp only [cY]); omega) b).mono λe w' ⟨q,l,p⟩=>⟨q,l,trivial,p⟩) ?_;intro a5 _;refine aa (ag (ad O (ad O (I (Yb gu hs O O) ?_))));refine Lw (ι:=SP×SP) [_,_,_] _ Y O aC O O (λ_=>.int .i64 ((au x.body (ah [⟨16,0,0⟩] (aT ⟨12,0,0⟩ 1 0 (aK y t.g)))).code.length:Int)) (λq=>(bW 157 108 112 j o ⟨aT ⟨11,(t.g.code.length:Int),0⟩ 1 0 (au x.body (ah [⟨16,0,0⟩] (aT ⟨12,0,0⟩ 1 0 (aK y t.g)))),q.1,q.2⟩)) (λ_=>True) [] (by simp) (λw b=>(vq j o (⟨(au x.body (ah [⟨16,0,0⟩] (aT ⟨12,0,0⟩ 1 0 (aK y t.g)))),a5.1,a5.2⟩:b9)  ⟨11,(t.g.code.length:Int),0⟩ 1 0 w  (by show ((au x.body (ah [⟨16,0,0⟩] (aT ⟨12,0,0⟩ 1 0 (aK y t.g))))).code.length+1<=_; (try simp only [cY]); omega) (by show ((au x.body (ah [⟨16,0,0⟩] (aT ⟨12,0,0⟩ 1 0 (aK y t.g))))).fix.length+1<=_; (try simp only [cY]); omega) b).mono λe w' ⟨q,l,p⟩=>⟨q,l,trivial,p⟩) ?_
  intro U _;refine aa (Cr (ad O ?_));refine WL.rW (ι:=Unit) [_,_,_,_,_] _ Y O aC O O O (λ_=>.tuple #[]) (λ_=>(bW 157 108 112 j o ⟨c7 ((aK y t.g).code.length) (aT ⟨11,(t.g.code.length:Int),0⟩ 1 0 (au x.body (ah [⟨16,0,0⟩] (aT ⟨12,0,0⟩ 1 0 (aK y t.g))))),(⟨(aT ⟨11,(t.g.code.length:Int),0⟩ 1 0 (au x.body (ah [⟨16,0,0⟩] (aT ⟨12,0,0⟩ 1 0 (aK y t.g))))),U.1,U.2⟩:b9).ca,(⟨(aT ⟨11,(t.g.code.length:Int),0⟩ 1 0 (au x.body (ah [⟨16,0,0⟩] (aT ⟨12,0,0⟩ 1 0 (aK y t.g))))),U.1,U.2⟩:b9).fa⟩)++[ao P.2.1 (.cells #[.pointer (some ⟨j,0,none⟩)] 155 (0,0)),ao P.2.2 (.cells #[.int .i64 ((aK y t.g).code.length:Int)] 3 (0,0))]) (λ_=>True) [] (by simp) (λw b=>(eI j o (⟨(aT ⟨11,(t.g.code.length:Int),0⟩ 1 0 (au x.body (ah [⟨16,0,0⟩] (aT ⟨12,0,0⟩ 1 0 (aK y t.g))))),U.1,U.2⟩:b9) P.2.1 P.2.2 ((aK y t.g).code.length) _ w (dL (by show (aK y t.g).code.length<((aT ⟨11,(t.g.code.length:Int),0⟩ 1 0 (au x.body (ah [⟨16,0,0⟩] (aT ⟨12,0,0⟩ 1 0 (aK y t.g)))))).code.length; (try simp only [cY]); omega)) b).mono λe w' h=>⟨(),h.1,trivial,h.2⟩) ?_;intro _ _;refine Ln (Eb ?_);refine E0 O λw' b=>?_
  have C:iX x t.g=c7 ((aK y t.g).code.length) (aT ⟨11,(t.g.code.length:Int),0⟩ 1 0 (au x.body (ah [⟨16,0,0⟩] (aT ⟨12,0,0⟩ 1 0 (aK y t.g))))):=by
    rw [qI,j6,if_neg W,if_neg am,if_neg aw,if_neg aP,if_pos D,mL u]
    rfl
  rw [C];exact ⟨(U.1,U.2),O,Wv 1 (Wt 3 b)⟩
 have a6:¬x.op=5:=by simpa using aQ
 refine ag (I (bY O O) (ak O (aa ?_)));refine Cc O (λaS=>?_) (λaS=>?_)
 ·have D:x.op=6:=by simpa using aS
  refine Cs ?_;have ax:=A.parts.2.2.2.1 (by omega);obtain ⟨y,u⟩:∃y,x.args[0]? = some y:=⟨_,dL (by omega)⟩;obtain ⟨ap,aq,G,B⟩:=l.bT 0 y u
  obtain ⟨s,rfl⟩:∃s,ke=s+1:=by
    cases ke with
    | zero=>exact B.elim
    | succ s=>exact ⟨s,rfl⟩
  obtain ⟨H,J,K,L⟩:=B;have E:=V s;have M:=A.parts.1.at_ u;have ar:=tH u;have v:=lF y t.g;have aj:=v.hi;have al:=v.hd;have av:=v.lo;refine Cr (ad O (I (Yf nC O) (I (Yd 0 O O O ab) (I (Yo (i:=0) gL O O G (by omega)) (I (dV 0 kB O O O (K)) (Lf 3 O (Lf 3 O ?_)))))));refine Lf 3 O ?_;refine Lw (ι:=SP×SP) [_,_,_] _ Y O aC O O (λ_=>.tuple #[]) (λq=>(bW 157 108 112 j o ⟨aK y t.g,q.1,q.2⟩)) (λ_=>True) [z] (by simp) (λw b=>(E y H J t w L M (by show (t.g).code.length+8*eA y<=_; (try simp only [cY]); omega) (by show (t.g).fix.length+8*eA y<=_; (try simp only [cY]); omega) b).mono λe w' ⟨q,l,p⟩=>⟨q,l,trivial,p⟩) ?_;intro ae _;refine aa (Cr (ad O (I (Yb gu hs O O) ?_)));refine Lb Y O hK O O O O λbB=>?_;refine WL.jY (rd:=gm) (f:=bA.cells) (k:=3) (m:=1) 0 [⟨15,0,0⟩] O O bA.ck (λ_ _ _ _ h=>h) (by simp) (by decide) λa7 bC=>?_;refine Lw (ι:=SP) [_,_,_] _ Y O aC O O (λ_=>.tuple #[]) (λq=>(bW 157 108 112 j o ⟨ah [⟨15,0,0⟩] (⟨(aK y t.g),ae.1,ae.2⟩:b9).g,q,(⟨(aK y t.g),ae.1,ae.2⟩:b9).fa⟩)) (λ_=>True) [a7] (by simp) (λw b=>(kC j o (⟨(aK y t.g),ae.1,ae.2⟩:b9) a7 (some ⟨bB,0,none⟩) 1 [⟨15,0,0⟩] w bC (by show ((aK y t.g)).code.length+[⟨15,0,0⟩].length<=_; (try simp only [cY]); omega) b).mono λe w' ⟨q,l,p⟩=>⟨q,l,trivial,p⟩) ?_;intro bD _;refine Ln (Eb ?_);refine E0 O λw' b=>?_
  have C:iX x t.g=ah [⟨15,0,0⟩] (aK y t.g):=by
    rw [qI,j6,if_neg W,if_neg am,if_neg aw,if_neg aP,if_neg a6,if_pos D,mL u]
  rw [C];exact ⟨(bD,ae.2),O,Wv 1 (Wt 3 b)⟩
 have bE:¬x.op=6:=by simpa using aS
 refine ag (I (bY O O) (ak O (aa ?_)));refine Cc O (λaU=>?_) (λaU=>?_)
 ·have D:x.op=7:=by simpa using aU
  refine Cs ?_;have ax:=A.parts.2.2.2.1 (by omega);obtain ⟨y,u⟩:∃y,x.args[0]? = some y:=⟨_,dL (by omega)⟩;obtain ⟨ap,aq,G,B⟩:=l.bT 0 y u
  obtain ⟨s,rfl⟩:∃s,ke=s+1:=by
    cases ke with
    | zero=>exact B.elim
    | succ s=>exact ⟨s,rfl⟩
  obtain ⟨H,J,K,L⟩:=B;have E:=V s;have M:=A.parts.1.at_ u;have ar:=tH u;have v:=lF y t.g;have aj:=v.hi;have al:=v.hd;have av:=v.lo;refine Cr (ad O (I (Yf nC O) (I (Yd 0 O O O ab) (I (Yo (i:=0) gL O O G (by omega)) (I (dV 0 kB O O O (K)) (Lf 3 O (Lf 3 O ?_)))))));refine Lf 3 O ?_;refine Lw (ι:=SP×SP) [_,_,_] _ Y O aC O O (λ_=>.tuple #[]) (λq=>(bW 157 108 112 j o ⟨aK y t.g,q.1,q.2⟩)) (λ_=>True) [z] (by simp) (λw b=>(E y H J t w L M (by show (t.g).code.length+8*eA y<=_; (try simp only [cY]); omega) (by show (t.g).fix.length+8*eA y<=_; (try simp only [cY]); omega) b).mono λe w' ⟨q,l,p⟩=>⟨q,l,trivial,p⟩) ?_;intro af _;refine aa (Cr (ad O (I (Yb gu hs O O) ?_)));refine Lb Y O hK O O O O λbF=>?_;refine WL.jY (rd:=gm) (f:=bA.cells) (k:=3) (m:=1) 0 [⟨19,0,0⟩] O O bA.ck (λ_ _ _ _ h=>h) (by simp) (by decide) λa8 bG=>?_;refine Lw (ι:=SP) [_,_,_] _ Y O aC O O (λ_=>.tuple #[]) (λq=>(bW 157 108 112 j o ⟨ah [⟨19,0,0⟩] (⟨(aK y t.g),af.1,af.2⟩:b9).g,q,(⟨(aK y t.g),af.1,af.2⟩:b9).fa⟩)) (λ_=>True) [a8] (by simp) (λw b=>(kC j o (⟨(aK y t.g),af.1,af.2⟩:b9) a8 (some ⟨bF,0,none⟩) 1 [⟨19,0,0⟩] w bG (by show ((aK y t.g)).code.length+[⟨19,0,0⟩].length<=_; (try simp only [cY]); omega) b).mono λe w' ⟨q,l,p⟩=>⟨q,l,trivial,p⟩) ?_;intro bH _;refine Ln (Eb ?_);refine E0 O λw' b=>?_
  have C:iX x t.g=ah [⟨19,0,0⟩] (aK y t.g):=by
    rw [qI,j6,if_neg W,if_neg am,if_neg aw,if_neg aP,if_neg a6,if_neg bE,if_pos D,mL u]
  rw [C];exact ⟨(bH,af.2),O,Wv 1 (Wt 3 b)⟩
 exfalso
 have bV:¬x.op=7:=by simpa using aU
 have bX:=A.parts.2.2.2.2.2;omega
theorem UM (b:Nat) (d:hG) (t:b9) (f:View) (ke k:Nat) (l:List di) (a:Option Addr) (c:Nat) (w:World) (p:Sl (hS ke k) 7 f a c l) (A:pG l) (K:t.g.code.length+8*fb l<=1000000000000) (L:t.g.fix.length+8*fb l<=1000000000000) (j:Ws w (List.flatMap aW.ids (bW 157 108 112 b d t)) (bW 157 108 112 b d t) [f] w) :
   Calls prog 141 #[.pointer (some ⟨b,0,none⟩),.slice a l.length c] w λe w'=>∃q:SP×SP,e = .returned (.tuple #[])/\Ws w (List.flatMap aW.ids (bW 157 108 112 b d t)) (bW 157 108 112 b d ⟨au l t.g,q.1,q.2⟩) [f] w':=by
 induction k using Nat.strongRecOn generalizing l a c t w
 rename_i k B;have M:=p.cap;have N:=p.max;refine enter func141 O 16 O O ?_;refine CE j (ag (ad O (I (Yn hJ O) (ad O (aa (Cb ?_))))));refine dc (ι:=Nat×SP×SP) (λg=>[(8,.int .i64 (g.1:Int))]) [(0,_),(6,_),(7,_)] (λg=>Ws w (List.flatMap aW.ids (bW 157 108 112 b d t)) (bW 157 108 112 b d ⟨au (l.take g.1) t.g,g.2.1,g.2.2⟩) [f]) (λg=>g.1<=l.length) (λg=>l.length-g.1) (0,t.ca,t.fa) (cq _) an ?_;intro g P;refine ag (I (ai O O) (aa (Cs ?_)));refine Cc O (λs=>?_) (λs=>?_)
 ·have v:g.1<l.length:=by simpa using s
  obtain ⟨x,o⟩:=cg v;obtain ⟨Q,R,C,y⟩:=p.bT g.1 x o
  obtain ⟨i,rfl⟩:∃i,k=i+1:=by
    cases k with
    | zero=>exact y.elim
    | succ i=>exact ⟨i,rfl⟩
  obtain ⟨r,D,m,n,u⟩:=y;have S:=Hs o;have z:=qJ (l.take g.1) t.g;have T:=z.hi;have U:=z.hd;have E:Ll f b d ke i:=λl a c t w m n u F G=>B i ae t l a c w m n u F G;refine bk (Cs (Cb (ag (I (Yo hJ O O C v) (I (dV 0 vh O O O (D)) ?_)))));refine Al Y O xA λV=>?_;refine aQ 0 Y O O O Ab O O O (aa (fm 0 (.cells (qB x r).toArray 205 (0,0)) O O (Cr (ad O (I (cc 0 O O vh O) (Lf 3 O (Lf 3 O ?_)))))));refine Lf 3 O ?_;refine Lw (ι:=SP×SP) [_,_,_] _ Y O aC O O (λ_=>.tuple #[]) (λq=>(bW 157 108 112 b d ⟨iX x (au (l.take g.1) t.g),q.1,q.2⟩)) (λ_=>True) [f] aj (λw j=>(UL b d (⟨au (l.take g.1) t.g,g.2.1,g.2.2⟩:b9) f ke i x r w E m n u (A.at_ o) (by show (au (l.take g.1) t.g).code.length+8*nn x<=_; omega) (by show (au (l.take g.1) t.g).fix.length+8*nn x<=_; omega) j).mono λe w' ⟨q,m,n⟩=>⟨q,m,trivial,n⟩) ?_;intro H _;refine Ln (Eb (Et (Cr (I (Yi O O O ae) (ad O (Ln ?_))))));rw [<-O_ o];exact b8 ((g.1+1,H):Nat×SP×SP) (by show _-(g.1+1)<_; omega) (by show g.1+1<=_; omega) (λ_ h=>(Wt 3 h:))
 have J:g.1=l.length:=by simp at s; omega
 rw [J,ew];refine Ce (Ex (Ex (cB ?_)));refine E0 O λw' j=>?_;exact ⟨g.2,O,j⟩
theorem Ey (b:Nat) (d:hG) (t:b9) (o:View) (ke k:Nat) (params locals:Int) (l:List di) (a:Option Addr) (c:Nat) (w:World) (u:Sl (hS ke k) 7 o a c l) (v:pG l) (J:t.g.code.length+8*(1+fb l)<=1000000000000) (K:t.g.fix.length+8*(1+fb l)<=1000000000000) (h:Ws w (List.flatMap aW.ids (bW 157 108 112 b d t)) (bW 157 108 112 b d t) [o] w) :
   Calls prog 79 #[.pointer (some ⟨b,0,none⟩),.agg (ux ⟨params,locals,l⟩ (a,c)).toArray] w λe w'=>∃q:SP×SP,e = .returned (.int .i64 (t.g.code.length:Int))/\Ws w (List.flatMap aW.ids (bW 157 108 112 b d t)) (bW 157 108 112 b d ⟨ia params locals l t.g,q.1,q.2⟩) [o] w':=by
 have p:=qJ l (ah [⟨14,params,locals⟩] t.g);have x:=p.hi;have y:=p.hd;simp only [cY] at x y;refine enter func79 O 30 O O ?_;refine CE h (ag ?_);refine WL.box Y O O λL=>?_;refine ak O (aa (ag (ad O (I (cJ O) (I (Yf lS O) (I (Yf ll O) (I (Yd 1 O O O ab) (I (Yn ju O) ?_))))))));refine ak O (aa (ag (ad O (I (Yf gb O) (I (Yd 0 O O O ab) (I (Yf vn O) (I (Yd 0 O O O ab) (I (Yb gu hs O O) ?_))))))));refine Lb Y O hK O O O O λz=>?_;refine WL.jY (rd:=gm) (f:=bA.cells) (k:=3) (m:=1) 0 [⟨14,params,locals⟩] O O bA.ck cp aj aF λr A=>?_;refine Lf 3 O (Lf 3 O (Lf 3 O ?_));refine Lw (ι:=SP) [_,_,_] _ Y O aC O O (λ_=>.tuple #[]) (λq=>(bW 157 108 112 b d ⟨ah [⟨14,params,locals⟩] t.g,q,t.fa⟩)) (λ_=>True) [r] aj (λw h=>(kC b d t r (some ⟨z,0,none⟩) 1 [⟨14,params,locals⟩] w A (by show (t.g).code.length+[⟨14,params,locals⟩].length<=_; (try simp only [cY]); omega) h).mono λe w' ⟨q,i,j⟩=>⟨q,i,trivial,j⟩) ?_;intro B _;refine aa (ag (ad O (I (Yf mb O) (I (Yd 3 O O O ab) ?_))));refine Lw (ι:=SP×SP) [_,_,_] _ Y O aC O O (λ_=>.tuple #[]) (λq=>(bW 157 108 112 b d ⟨au l (ah [⟨14,params,locals⟩] t.g),q.1,q.2⟩)) (λ_=>True) [o] aj (λw h=>((λl a c t w i j C D E=>UM b d t o ke k l a c w i j C D E) l a c (⟨(ah [⟨14,params,locals⟩] t.g),B,t.fa⟩:b9) w u v (by show ((ah [⟨14,params,locals⟩] t.g)).code.length+8*fb l<=_; (try simp only [cY]); omega) (by show ((ah [⟨14,params,locals⟩] t.g)).fix.length+8*fb l<=_; (try simp only [cY]); omega) h).mono λe w' ⟨q,i,j⟩=>⟨q,i,trivial,j⟩) ?_;intro n _;refine aa (ag (ad O (I (Yb gu hs O O) (I (Yb gu hs O O) ?_))));refine Lb Y O hK O O O O λF=>?_;refine WL.jY (rd:=gm) (f:=bA.cells) (k:=3) (m:=2) 0 [⟨1,0,0⟩,⟨15,0,0⟩] O O bA.ck cp aj aF λs G=>?_;refine Lw (ι:=SP) [_,_,_] _ Y O aC O O (λ_=>.tuple #[]) (λq=>(bW 157 108 112 b d ⟨ah [⟨1,0,0⟩,⟨15,0,0⟩] (⟨(au l (ah [⟨14,params,locals⟩] t.g)),n.1,n.2⟩:b9).g,q,(⟨(au l (ah [⟨14,params,locals⟩] t.g)),n.1,n.2⟩:b9).fa⟩)) (λ_=>True) [s] aj (λw h=>(kC b d (⟨(au l (ah [⟨14,params,locals⟩] t.g)),n.1,n.2⟩:b9) s (some ⟨F,0,none⟩) 2 [⟨1,0,0⟩,⟨15,0,0⟩] w G (by show ((au l (ah [⟨14,params,locals⟩] t.g))).code.length+[⟨1,0,0⟩,⟨15,0,0⟩].length<=_; (try simp only [cY]); omega) h).mono λe w' ⟨q,i,j⟩=>⟨q,i,trivial,j⟩) ?_;intro H _;refine aa (ag (ad O (ak O (aa (a7 ?_)))));refine R1 O O λw' h=>?_;exact ⟨(H,n.2),O,Wv 2 (Wt 3 h)⟩
def xH:XK:=(k',(none,0))
theorem UN {a:View} {b n:Nat} (h:Sl An 3 a (some ⟨b,0,none⟩) n (List.replicate n xH)) {N:View} (hv:bF a N):Sl nX 3 N (some ⟨b,0,none⟩) n (List.replicate n k'):=by
 have c:=HG h hv λe d=>by
   have f:e=xH:=List.eq_of_mem_replicate d;subst f; exact Sl.nil
 rw [List.map_replicate] at c;exact c
theorem UO (a:View) (ke k:Nat) (u:cb) (r:jG) (w:World) (i:Le a w) (c:iV ke k a r u) (o:u.aq.length<=1048576) :
   Calls prog 78 #[.agg (fH u r).toArray] w λe w'=>e = .returned (.bool (oM u))/\Ext w w':=by
 have p:=c.aq.cap;have s:=c.aq.max;refine enter func78 O 9 O O ?_;refine CE (Vs:=[a]) (Ws.init (by simp [i])) (ag ?_);refine WL.box Y O O λt=>?_;refine ak O (aa (Cs ?_));refine CU (λ_=>true) [] [] (.q true 0 (.q false 1 (.q true 2 (.q false 3 (.e 4 (.e 5 (.q false 6 .nil) .stop) .stop))))) mixed ab (λ_ _ _ d _ _ h=>by cases d<;>exact h) ?_;refine U0 O an (cc 0 O O ik O) (U0 O an (Yf vl O) (U0 O an (Yd 0 O O O ab) (U0 O an (Yn dy O) ?_)));refine Ue O an ?_ WU.stop;refine WL.make Y O Ew O O ae ae ae ae λj=>?_;refine cF 0 (.cells ((List.replicate u.aq.length xH).flatMap XK.cells).toArray 126 (0,0)) O (by rw [<-Pj (f:=XK.cells) (x:=xH) (zs:=(Value.agg #[.bool false,.int .i64 0,.slice none 0 0]).cells) O aF]; rfl) ?_;refine WL.jY (rd:=An) (f:=XK.cells) (k:=3) (m:=u.aq.length) 0 (List.replicate u.aq.length xH) O O XK.ck cp aj ae λl n=>?_;refine Ln (Eu ?_);refine Ue O (λ_ h=>(Wv 1 h:)) ?_ WU.stop
 refine Lp Y O aC O (λw b=>by
   have g:=UJ a (hv w) ke k u r (List.replicate u.aq.length k') (some ⟨j,0,none⟩) u.aq.length w (b.vs a aj) (jU w) c (UN n (nM (b.vs l aj))) (by simp; omega);rw [List.length_replicate] at g
   exact g) ?_
 refine Ln (Eu (U0 O (λ_ h=>(Wv 1 h:)) (Ya O) ?_));refine WU.nil (λ_ h=>(Wv 1 h:)) ?_;refine WS.nil ?_;refine Et (a7 ?_);refine R1 O O λw' b=>?_;exact ⟨O,b.fr⟩
theorem kc:zeroOf prog 56=some (.agg #[st [],.slice none 0 0,.int .i64 0,.slice none 0 0,.slice none 0 0,.slice none 0 0,.int .i64 0]):=ab
theorem vr:gx prog 56=some [(0,1),(1,1),(2,1),(3,1),(4,1),(5,1),(6,1)]:=ab
theorem kD:dI prog 56=some 7:=ab
theorem iI:gP prog 56=some 7:=ab
theorem UP:gx prog 157=some [(0,7)]:=ab
theorem UQ:zeroOf prog 157=some (.agg #[st [],.slice none 0 0,.int .i64 0,.slice none 0 0,.slice none 0 0,.slice none 0 0,.int .i64 0]):=ab
theorem o9:cx prog 56 5=some 5:=ab
theorem jt:cx prog 56 6=some 6:=ab
theorem UR (c:View) (ke k:Nat) (u:cb) (r:jG) (w:World) (P:Le c w) (l:iV ke k c r u) (au:qG u<=1048576) :
   Calls prog 26 #[.agg (fH u r).toArray] w λe w'=>∃q:iZ,e = .returned (.tuple #[.agg (CM (fJ u).1 q).toArray,.int .i64 (fJ u).2])/\Ext w w'/\CN (nv w w') q (fJ u).1:=by
 have av:=l.aq.cap;have aw:=l.aq.max;have ay:=l.parts.cap;have az:=l.parts.max;have aA:=MT u;have aB:=wx u.aq;have aE:=Hw u.parts;refine enter func26 O 64 O O ?_;refine CE (Vs:=[c]) (Ws.init (by simp [P])) (ag ?_);refine WL.box Y O O λQ=>?_;refine Al Y O kc λR=>?_;refine ak O (aa (Cs (ag (I (cc 1 O O ik O) (Lp Y O aC O (λw b=>UO c ke k u r w (b.vs c aj) l ae) (I (e5 O) (aa ?_)))))));refine Cc O (λC=>?_) (λC=>?_)
 ·have t:oM u=false:=by simpa using C
  refine ag (I (Yb kc vr O O) (aQ 0 Y O O O kD O O O (ak O (aa (a7 (Er ?_))))));refine WE.dQ 0 O O O O iI O λw' b=>?_;rw [show fJ u=(wT,1) from by rw [fJ,if_pos t]];exact ⟨CO,O,b.fr,Ht _⟩
 have t:oM u=true:=by simpa using C
 obtain ⟨S,T⟩:=Pm t;refine bk (Cs ?_);refine CU (λ_=>true) [] [] (.q false 0 (.q true 1 (.q false 2 (.q true 3 (.q false 5 (.q true 6 (.e 4 (.q false 7 (.q false 8 (.e 9 (.q false 10 .nil) .stop))) .stop))))))) mixed ab (λ_ _ _ d _ _ h=>by cases d<;>exact h) ?_;refine U0 O an (Yf fY O) (U0 O an (Yd 1 O O O ab) (U0 O an (Yf vl O) (U0 O an (Yd 1 O O O ab) (U0 O an (Yf vm O) (U0 O an (Yd 1 O O O ab) ?_)))));refine Ue O an ?_ WU.stop;refine Ld Y O aC O (λr:SP=>.slice r.1 u.aq.length r.2) (λU r=>Sl rdStr 1 U r.1 r.2 u.aq) (λw b=>K0 c r.s1.1 r.s1.2 u.aq w (b.vs c aj) l.aq ae) ?_;intro V a W X;refine Ln (Eu (U0 O (λ_ h=>(Wv 1 h:)) (Yb kc vr O O) (U0 O (λ_ h=>(Wv 1 h:)) (Yb UQ UP O O) ?_)));refine Ue O (λ_ h=>(Wv 1 h:)) ?_ WU.stop;refine WL.box Y O O λZ=>?_;obtain ⟨o,ac⟩:∃s,s=Z:=⟨_,rfl⟩;subst ac;refine cF 0 (pF 157 (⟨u.nm,.slice a.1 u.aq.length a.2,u.data,.slice none 0 0,.int .i64 0⟩:hG) ⟨⟨[],[]⟩,(none,0),(none,0)⟩) O O (LW (λ_ h=>h.eM 3 1) (LW (λ_ h=>h.eM 112 3) (LW (λ_ h=>h.eM 108 3) (Ln (Eu (U0 O (λ_ h=>(Wv 1 (Wd 4 h):)) (Ya O) ?_))))));refine WU.nil (λ_ h=>(Wv 1 (Wd 4 h):)) ?_;refine WS.nil ?_;refine Et (Cs (ag (I (Yf mo O) (I (Yd 5 O O O ab) (I (Yn lR O) (ad O (aa (Cb ?_))))))));refine dc (ι:=Nat×(SP×SP)×SP) (λg=>[(24,.int .i64 (g.1:Int))]) [(1,_),(2,_),(3,_),(4,_),(22,_),(23,_)] (λg=>Ws w [] ((bW 157 108 112 o (⟨u.nm,.slice a.1 u.aq.length a.2,u.data,.slice g.2.2.1 (dj (u.parts.take g.1) ⟨[],[]⟩).1.length g.2.2.2,.int .i64 0⟩:hG) ⟨(dj (u.parts.take g.1) ⟨[],[]⟩).2,g.2.1.1,g.2.1.2⟩)++[bS 3 1 n0 g.2.2.1 g.2.2.2 (dj (u.parts.take g.1) ⟨[],[]⟩).1,ao R (.cells (Value.cells (.agg #[st [],.slice none 0 0,.int .i64 0,.slice none 0 0,.slice none 0 0,.slice none 0 0,.int .i64 0])) 56 (0,0)),ao Q (.cells (fH u r).toArray 40 (0,0))]) [V,c]) (λg=>g.1<=u.parts.length) (λg=>u.parts.length-g.1) (0,(((none,0),(none,0)),(none,0))) (cq _) (λ_ h=>by exact ((((((h.f 5 O).f 5 O).f 4 O).f 4 O).f 4 O).f 5 O:)) ?_;intro g aF;refine ag (I (ai O O) (aa (Cs ?_)));refine Cc O (λD=>?_) (λD=>?_)
 ·have J:g.1<u.parts.length:=by simpa using D
  obtain ⟨x,A⟩:=cg J;obtain ⟨aG,aH,af,ah⟩:=l.parts.bT g.1 x A;obtain ⟨v,al,K⟩:=ah;have aI:=Hu A;have p:=zc (u.parts.take g.1) ⟨[],[]⟩
  have am:(dj (u.parts.take g.1) ⟨[],[]⟩).2.code.length<=8*ko (u.parts.take g.1):=by have i:=p.1.hi; simpa using i
  have ap:(dj (u.parts.take g.1) ⟨[],[]⟩).2.fix.length<=8*ko (u.parts.take g.1):=by have i:=p.1.hd; simpa using i
  have aJ:(dj (u.parts.take g.1) ⟨[],[]⟩).1.length=g.1:=by rw [p.2,jh]; omega
  have aK:uH x=1+fb x.body:=rfl;have L:=S x (ax A);have M:=MK A ⟨[],[]⟩
  have E:(dj (u.parts.take (g.1+1)) ⟨[],[]⟩).1=(dj (u.parts.take g.1) ⟨[],[]⟩).1++[(dj (u.parts.take g.1) ⟨[],[]⟩).2.code.length]:=by rw [M]
  have F:(dj (u.parts.take (g.1+1)) ⟨[],[]⟩).2=(ia x.params x.locals x.body (dj (u.parts.take g.1) ⟨[],[]⟩).2):=by rw [M]
  refine bk (Cs (Cb (ag (I (Yo lR O O af J) (I (dV 1 Ao O O O (al)) ?_)))));refine Al Y O xB λaL=>?_;refine aQ 0 Y O O O vg O O O (aa (fm 0 (.cells (ux x v).toArray 89 (0,0)) O O ?_));refine CU (λ_=>true) [1,1,1,1] [14] (.q false 0 (.q false 1 (.q false 2 (.q false 3 (.q false 4 (.q false 6 (.q true 7 (.e 5 (.e 8 (.e 9 (.e 10 (.q false 11 (.q false 12 (.q false 13 .nil))) .stop) .stop) .stop) (.e 8 (.e 5 (.e 9 (.e 10 (.q false 11 (.q false 12 (.q false 13 .nil))) .stop) .stop) (.e 9 (.e 5 (.e 10 (.q false 11 (.q false 12 (.q false 13 .nil))) .stop) .stop) .stop)) .stop))))))))) mixed ab (λ_ _ _ d _ _ h=>by cases d<;>exact h) ?_;refine U0 O (cH [1,1,1,1]) (Ym O) (U0 O (cH [1,1,1,1]) (Ym O) (U0 O (cH [1,1,1,1]) (cJ O) (U0 O (cH [1,1,1,1]) (Yf lS O) (U0 O (cH [1,1,1,1]) (Yf o9 O) (U0 O (cH [1,1,1,1]) (Ym O) (U0 O (cH [1,1,1,1]) (cc 0 O O Ao O) ?_))))));refine Ue O (cH [1,1,1,1]) ?_ ?_
  ·refine I (Yd 1 O O O ab) (Ln (Eu ?_));refine Ue O (cH [1,1,1,1]) ?_ WU.stop;refine Lf 3 O (Lf 3 O (Lf 3 O ?_));refine Lw (ι:=SP×SP) [_,_,_] _ Y O aC O O (λ_=>.int .i64 (((dj (u.parts.take g.1) ⟨[],[]⟩).2).code.length:Int)) (λq=>(bW 157 108 112 o (⟨u.nm,.slice a.1 u.aq.length a.2,u.data,.slice g.2.2.1 (dj (u.parts.take g.1) ⟨[],[]⟩).1.length g.2.2.2,.int .i64 0⟩:hG) ⟨(ia x.params x.locals x.body (dj (u.parts.take g.1) ⟨[],[]⟩).2),q.1,q.2⟩)) (λ_=>True) [c] aj (λw b=>(Ey o (⟨u.nm,.slice a.1 u.aq.length a.2,u.data,.slice g.2.2.1 (dj (u.parts.take g.1) ⟨[],[]⟩).1.length g.2.2.2,.int .i64 0⟩:hG) (⟨(dj (u.parts.take g.1) ⟨[],[]⟩).2,g.2.1.1,g.2.1.2⟩:b9) c ke k x.params x.locals x.body v.1 v.2 w K L (by show ((dj (u.parts.take g.1) ⟨[],[]⟩).2).code.length+8*(1+fb x.body)<=_; omega) (by show ((dj (u.parts.take g.1) ⟨[],[]⟩).2).fix.length+8*(1+fb x.body)<=_; omega) b).mono λe w' ⟨q,y,z⟩=>⟨q,y,trivial,z⟩) ?_;intro j _;refine Ln (Eu ?_);refine Ue O (λ_ h=>by exact (Wo 1 (Wo 1 (Wo 1 (Wo 1 (((((((h.f 6 O).f 6 O).f 6 O).f 5 O).f 5 O).f 5 O).f 6 O)))):)) ?_ WU.stop;refine Lb Y O h2 O O O O λN=>?_;refine cF 0 (.cells (n0 (dj (u.parts.take g.1) ⟨[],[]⟩).2.code.length).toArray 3 (0,0)) O (O) (Ln (Eu ?_));refine Ue O (λ_ h=>by exact (Wo 1 (Wo 1 (Wo 1 (Wo 1 (Wt 7 (((((((h.f 7 O).f 7 O).f 7 O).f 6 O).f 6 O).f 6 O).f 7 O))))):)) ?_ WU.stop;refine LA ((dj (u.parts.take g.1) ⟨[],[]⟩).2.code.length) 5 0 Y O h2 O O O O O O ae ae λm n=>?_;refine Ln (Eu (U0 O (λ_ h=>by exact (Wo 1 (Wo 1 (Wo 1 (Wo 1 (Wt 7 (((((((h.f 7 O).f 7 O).f 7 O).f 6 O).f 6 O).f 6 O).f 7 O))))):)) (cJ O) (U0 O (λ_ h=>by exact (Wo 1 (Wo 1 (Wo 1 (Wo 1 (Wt 7 (((((((h.f 7 O).f 7 O).f 7 O).f 6 O).f 6 O).f 6 O).f 7 O))))):)) (Yf lS O) (U0 O (λ_ h=>by exact (Wo 1 (Wo 1 (Wo 1 (Wo 1 (Wt 7 (((((((h.f 7 O).f 7 O).f 7 O).f 6 O).f 6 O).f 6 O).f 7 O))))):)) (Yf o9 O) ?_))));refine WU.nil (λ_ h=>by exact (Wo 1 (Wo 1 (Wo 1 (Wo 1 (Wt 7 (((((((h.f 7 O).f 7 O).f 7 O).f 6 O).f 6 O).f 6 O).f 7 O))))):)) ?_;refine WS.e O ?_;refine aQ 1 Y O O O vo O O O (Ln (Es ?_));refine WS.nil ?_;refine Eb (Et (Cr (I (Yi O O O ae) (ad O (Ln ?_)))));rw [<-E,<-F];refine WE.mE 1 (pF 157 (⟨u.nm,.slice a.1 u.aq.length a.2,u.data,.slice m (dj (u.parts.take (g.1+1)) ⟨[],[]⟩).1.length n,.int .i64 0⟩:hG) ⟨(dj (u.parts.take (g.1+1)) ⟨[],[]⟩).2,j.1,j.2⟩) O O ?_;exact b8 ((g.1+1,(j,(m,n))):Nat×(SP×SP)×SP) (by show _-(g.1+1)<_; omega) (by show g.1+1<=_; omega) (λ_ h=>by exact (Wt 6 ((((((h.f 7 O).f 7 O).f 7 O).f 6 O).f 6 O).f 6 O):))
  refine Ue O (cH [1,1,1,1]) ?_ WU.stop;refine Lf 3 O (Lf 3 O (Lf 3 O ?_));refine Lw (ι:=SP×SP) [_,_,_] _ Y O aC O O (λ_=>.int .i64 (((dj (u.parts.take g.1) ⟨[],[]⟩).2).code.length:Int)) (λq=>(bW 157 108 112 o (⟨u.nm,.slice a.1 u.aq.length a.2,u.data,.slice g.2.2.1 (dj (u.parts.take g.1) ⟨[],[]⟩).1.length g.2.2.2,.int .i64 0⟩:hG) ⟨(ia x.params x.locals x.body (dj (u.parts.take g.1) ⟨[],[]⟩).2),q.1,q.2⟩)) (λ_=>True) [c] aj (λw b=>(Ey o (⟨u.nm,.slice a.1 u.aq.length a.2,u.data,.slice g.2.2.1 (dj (u.parts.take g.1) ⟨[],[]⟩).1.length g.2.2.2,.int .i64 0⟩:hG) (⟨(dj (u.parts.take g.1) ⟨[],[]⟩).2,g.2.1.1,g.2.1.2⟩:b9) c ke k x.params x.locals x.body v.1 v.2 w K L (by show ((dj (u.parts.take g.1) ⟨[],[]⟩).2).code.length+8*(1+fb x.body)<=_; omega) (by show ((dj (u.parts.take g.1) ⟨[],[]⟩).2).fix.length+8*(1+fb x.body)<=_; omega) b).mono λe w' ⟨q,y,z⟩=>⟨q,y,trivial,z⟩) ?_;intro j _;refine Ln (Eu ?_);refine Ue O (λ_ h=>by exact (Wo 1 (Wo 1 (Wo 1 (Wo 1 (((((((h.f 6 O).f 6 O).f 6 O).f 5 O).f 5 O).f 5 O).f 6 O)))):)) ?_ ?_
  ·refine I (Yd 0 O O O ab) (Ln (Eu ?_));refine Ue O (λ_ h=>by exact (Wo 1 (Wo 1 (Wo 1 (Wo 1 (((((((h.f 6 O).f 6 O).f 6 O).f 5 O).f 5 O).f 5 O).f 6 O)))):)) ?_ WU.stop;refine Lb Y O h2 O O O O λN=>?_;refine cF 0 (.cells (n0 (dj (u.parts.take g.1) ⟨[],[]⟩).2.code.length).toArray 3 (0,0)) O (O) (Ln (Eu ?_));refine Ue O (λ_ h=>by exact (Wo 1 (Wo 1 (Wo 1 (Wo 1 (Wt 7 (((((((h.f 7 O).f 7 O).f 7 O).f 6 O).f 6 O).f 6 O).f 7 O))))):)) ?_ WU.stop;refine LA ((dj (u.parts.take g.1) ⟨[],[]⟩).2.code.length) 5 0 Y O h2 O O O O O O ae ae λm n=>?_;refine Ln (Eu (U0 O (λ_ h=>by exact (Wo 1 (Wo 1 (Wo 1 (Wo 1 (Wt 7 (((((((h.f 7 O).f 7 O).f 7 O).f 6 O).f 6 O).f 6 O).f 7 O))))):)) (cJ O) (U0 O (λ_ h=>by exact (Wo 1 (Wo 1 (Wo 1 (Wo 1 (Wt 7 (((((((h.f 7 O).f 7 O).f 7 O).f 6 O).f 6 O).f 6 O).f 7 O))))):)) (Yf lS O) (U0 O (λ_ h=>by exact (Wo 1 (Wo 1 (Wo 1 (Wo 1 (Wt 7 (((((((h.f 7 O).f 7 O).f 7 O).f 6 O).f 6 O).f 6 O).f 7 O))))):)) (Yf o9 O) ?_))));refine WU.nil (λ_ h=>by exact (Wo 1 (Wo 1 (Wo 1 (Wo 1 (Wt 7 (((((((h.f 7 O).f 7 O).f 7 O).f 6 O).f 6 O).f 6 O).f 7 O))))):)) ?_;refine WS.e O ?_;refine aQ 1 Y O O O vo O O O (Ln (Es ?_));refine WS.nil ?_;refine Eb (Et (Cr (I (Yi O O O ae) (ad O (Ln ?_)))));rw [<-E,<-F];refine WE.mE 1 (pF 157 (⟨u.nm,.slice a.1 u.aq.length a.2,u.data,.slice m (dj (u.parts.take (g.1+1)) ⟨[],[]⟩).1.length n,.int .i64 0⟩:hG) ⟨(dj (u.parts.take (g.1+1)) ⟨[],[]⟩).2,j.1,j.2⟩) O O ?_;exact b8 ((g.1+1,(j,(m,n))):Nat×(SP×SP)×SP) (by show _-(g.1+1)<_; omega) (by show g.1+1<=_; omega) (λ_ h=>by exact (Wt 6 ((((((h.f 7 O).f 7 O).f 7 O).f 6 O).f 6 O).f 6 O):))
  refine Ue O (λ_ h=>by exact (Wo 1 (Wo 1 (Wo 1 (Wo 1 (((((((h.f 6 O).f 6 O).f 6 O).f 5 O).f 5 O).f 5 O).f 6 O)))):)) ?_ WU.stop;refine Lb Y O h2 O O O O λN=>?_;refine cF 0 (.cells (n0 (dj (u.parts.take g.1) ⟨[],[]⟩).2.code.length).toArray 3 (0,0)) O (O) (Ln (Eu ?_));refine Ue O (λ_ h=>by exact (Wo 1 (Wo 1 (Wo 1 (Wo 1 (Wt 7 (((((((h.f 7 O).f 7 O).f 7 O).f 6 O).f 6 O).f 6 O).f 7 O))))):)) ?_ WU.stop;refine I (Yd 1 O O O ab) (Ln (Eu ?_));refine Ue O (λ_ h=>by exact (Wo 1 (Wo 1 (Wo 1 (Wo 1 (Wt 7 (((((((h.f 7 O).f 7 O).f 7 O).f 6 O).f 6 O).f 6 O).f 7 O))))):)) ?_ WU.stop;refine LA ((dj (u.parts.take g.1) ⟨[],[]⟩).2.code.length) 5 0 Y O h2 O O O O O O ae ae λm n=>?_;refine Ln (Eu (U0 O (λ_ h=>by exact (Wo 1 (Wo 1 (Wo 1 (Wo 1 (Wt 7 (((((((h.f 7 O).f 7 O).f 7 O).f 6 O).f 6 O).f 6 O).f 7 O))))):)) (cJ O) (U0 O (λ_ h=>by exact (Wo 1 (Wo 1 (Wo 1 (Wo 1 (Wt 7 (((((((h.f 7 O).f 7 O).f 7 O).f 6 O).f 6 O).f 6 O).f 7 O))))):)) (Yf lS O) (U0 O (λ_ h=>by exact (Wo 1 (Wo 1 (Wo 1 (Wo 1 (Wt 7 (((((((h.f 7 O).f 7 O).f 7 O).f 6 O).f 6 O).f 6 O).f 7 O))))):)) (Yf o9 O) ?_))));refine WU.nil (λ_ h=>by exact (Wo 1 (Wo 1 (Wo 1 (Wo 1 (Wt 7 (((((((h.f 7 O).f 7 O).f 7 O).f 6 O).f 6 O).f 6 O).f 7 O))))):)) ?_;refine WS.e O ?_;refine aQ 1 Y O O O vo O O O (Ln (Es ?_));refine WS.nil ?_;refine Eb (Et (Cr (I (Yi O O O ae) (ad O (Ln ?_)))));rw [<-E,<-F];refine WE.mE 1 (pF 157 (⟨u.nm,.slice a.1 u.aq.length a.2,u.data,.slice m (dj (u.parts.take (g.1+1)) ⟨[],[]⟩).1.length n,.int .i64 0⟩:hG) ⟨(dj (u.parts.take (g.1+1)) ⟨[],[]⟩).2,j.1,j.2⟩) O O ?_;exact b8 ((g.1+1,(j,(m,n))):Nat×(SP×SP)×SP) (by show _-(g.1+1)<_; omega) (by show g.1+1<=_; omega) (λ_ h=>by exact (Wt 6 ((((((h.f 7 O).f 7 O).f 7 O).f 6 O).f 6 O).f 6 O):))
 have ar:g.1=u.parts.length:=by simp at D; omega
 rw [ar,ew];have p:=zc u.parts ⟨[],[]⟩
 have am:(dj u.parts ⟨[],[]⟩).2.code.length<=8*ko u.parts:=by have i:=p.1.hi; simpa using i
 have ap:(dj u.parts ⟨[],[]⟩).2.fix.length<=8*ko u.parts:=by have i:=p.1.hd; simpa using i
 refine Ce (Ex (Ex (cB (Et (ag (ad O (ad O (I (Yf xC O) (I (Yd 5 O O O ab) (I (Yb xB K6 O O) ?_))))))))));refine Lw (ι:=SP×SP) [_,_,_] _ Y O aC O O (λ_=>.int .i64 (((dj u.parts ⟨[],[]⟩).2).code.length:Int)) (λq=>(bW 157 108 112 o (⟨u.nm,.slice a.1 u.aq.length a.2,u.data,.slice g.2.2.1 (dj u.parts ⟨[],[]⟩).1.length g.2.2.2,.int .i64 0⟩:hG) ⟨(ia 0 0 u.main (dj u.parts ⟨[],[]⟩).2),q.1,q.2⟩)) (λ_=>True) [c] aj (λw b=>(Ey o (⟨u.nm,.slice a.1 u.aq.length a.2,u.data,.slice g.2.2.1 (dj u.parts ⟨[],[]⟩).1.length g.2.2.2,.int .i64 0⟩:hG) (⟨(dj u.parts ⟨[],[]⟩).2,g.2.1.1,g.2.1.2⟩:b9) c ke k 0 0 u.main r.s3.1 r.s3.2 w l.main T (by show ((dj u.parts ⟨[],[]⟩).2).code.length+8*(1+fb u.main)<=_; omega) (by show ((dj u.parts ⟨[],[]⟩).2).fix.length+8*(1+fb u.main)<=_; omega) b).mono λe w' ⟨q,y,z⟩=>⟨q,y,trivial,z⟩) ?_;intro B _;refine I (cJ O) (I (Yf lS O) (I (Yf jt O) (aQ 0 Y O O O dZ O O O (aa (Cs (Cs (fm 0 (pF 157 (⟨u.nm,.slice a.1 u.aq.length a.2,u.data,.slice g.2.2.1 (dj u.parts ⟨[],[]⟩).1.length g.2.2.2,.int .i64 ((dj u.parts ⟨[],[]⟩).2.code.length:Int)⟩:hG) ⟨(ia 0 0 u.main (dj u.parts ⟨[],[]⟩).2),B.1,B.2⟩) O O (Cr (ad O ?_)))))))));refine I (cJ O) (I (Yf lS O) (I (Yf ll O) (I (Yd 0 O O O ab) (I (Yn ju O) (I (dO O O) (aa ?_))))));refine Cc O (λG=>?_) (λG=>?_)
 ·have H:2048<(fV u).g.code.length:=by
    have i:=G;simp at i
    show 2048<((ia 0 0 u.main (dj u.parts ⟨[],[]⟩).2)).code.length
    omega
  refine ag (I (Yb kc vr O O) (aQ 4 Y O O O kD O O O (ak O (aa (a7 (Er ?_))))));refine WE.dQ 4 O O O O iI O λw' b=>?_;rw [show fJ u=(wT,2) from by rw [fJ,if_neg (by rw [t]; decide),if_pos H]];exact ⟨CO,O,b.fr,Ht _⟩
 have H:¬2048<(fV u).g.code.length:=by
   have i:=G;simp at i
   show ¬2048<((ia 0 0 u.main (dj u.parts ⟨[],[]⟩).2)).code.length
   omega
 refine bk (ag (ad O (I (cJ O) (I (Yf lS O) (I (cc 0 O O iI O) (aQ 4 Y O O O kD O O O (ak O (aa (a7 ?_)))))))));refine WE.dQ 4 O O O O iI O λw' b=>?_;rw [show fJ u=(fV u,0) from by rw [fJ,if_neg (by rw [t]; decide),if_neg H]];exact ⟨⟨a,B.1,B.2,g.2.2⟩,O,b.fr,X.imp (λ_ _ _ h=>bR.mono (cU b aj W) h),b.iP 1 O bA.ck cp,b.iP 2 O aD.ck cp,b.iP 3 O CL cp⟩
def eK (ke k:Nat) (a:View) (b o:Nat) (u:cb):Prop:=∃r:jG,bR a b o (fH u r)/\iV ke k a r u
structure YO (us:List cb) (nu:Nat) (al:Bool) (kn:List cv):Prop where
 len:kn.length=nu+1
 YP:al=true->∀mi,0<mi->mi<=nu->kn[mi]? = some k'
 YQ:∀mi,mi<=nu->(al=true->mi=0)->∃u,us[mi]? = some u/\kn[mi]? = some (aG u)
abbrev XU:=cb×jG
def XU.cells (e:XU):List Value:=fH e.1 e.2
theorem XU.ck (e:XU):(XU.cells e).length=5:=rfl
theorem XU.one (e:XU):(XU.cells e).all (·.oneCell')=true:=rfl
def vt (a:View) (b o:Nat) (e:XU):Prop:=bR a b o (XU.cells e)
theorem xI {ke k:Nat} {d N:View} {a:Option Addr} {c:Nat} {es:List XU} (h:Sl vt 5 d a c es) (hv:bF d N) (j:∀e ∈ es,iV ke k N e.2 e.1):Sl (eK ke k) 5 N a c (es.map (·.1)):=by
 refine ⟨by rw [eo]; exact h.cap,h.max,h.spot,λi x f=>?_⟩;rw [eZ] at f;obtain ⟨y,g,rfl⟩:=dr.1 f;obtain ⟨b,o,l,m⟩:=h.bT i y g;exact ⟨b,o,l,y.2,bR.mono hv m,j y (ax g)⟩
theorem vu:gg prog 28 40 (.agg #[st [],.slice none 0 0,.int .i64 0,.slice none 0 0,.slice none 0 0]) 5 96:=iN ab
abbrev HH:List cb:=[(cL aV []).1,(cL fi bh).1]
theorem US:we prog 108=some [0,0,0]:=ab
theorem gj:gg prog 62 65 (.agg #[st [],.slice none 0 0]) 2 40:=iN ab
theorem UT (a b:View) (a1 a2:Option Addr) (c1 c2:Nat) (l:List bA) (w:World) (n:Le a w) (o:Le b w) (c:Sl gm 3 a a1 c1 l) (f:Sl gm 3 b a2 c2 l) :
   Calls prog 46 #[.slice a1 l.length c1,.slice a2 l.length c2] w λe w'=>e = .returned (.bool true)/\Ext w w':=by
 have y:=c.cap;have z:=c.max;have A:=f.cap;have B:=f.max;refine enter func46 O 26 O O ?_;refine CE (Vs:=[a,b]) (Ws.init (by simp [n,o])) (ag (ak O (aa (Cs (ag (ad O (I (Yn ju O) (ad O (I (Yn ju O) ?_)))))))));refine I (ki O O O) (aa ?_);refine WC.kg O ?_;refine bk (Cs (ag (ak O (aa (Cb ?_)))));refine bV (ι:=Nat) (λi=>[(5,.int .i64 (i:Int))]) [(0,_),(1,_)] (λi=>i<=l.length) (λi=>l.length-i) 0 (cq _) ?_;intro i hi;refine Cs (ag (ad O (ad O (I (Yn ju O) (I (ai O O) (aa ?_))))));refine Cc O (λk=>?_) (λk=>?_)
 ·have p:i<l.length:=by simpa using k
  obtain ⟨x,m⟩:=cg p;obtain ⟨pb,q,r,g⟩:=c.bT i x m;obtain ⟨s,t,u,j⟩:=f.bT i x m;have g:bR a pb (q+i*3) x.cells:=g;have j:bR b s (t+i*3) x.cells:=j;refine bk (Cs (Cb (Cs ?_)));refine WC.k3 [(0,true),(1,true),(2,true),(3,true),(4,true),(5,true),(6,true),(7,true),(8,true)] mixed ab (λ_ _ _ d _ h=>by cases d<;>exact h) ?_;refine D0 O an (Ym O) (D0 O an (Ym O) (D0 O an (Yo ju O O r ae) (D0 O an (dV 0 sk O O O (g)) (D0 O an (Ym O) (D0 O an (Ym O) (D0 O an (Yo ju O O u ae) (D0 O an (dV 1 sk O O O (j)) ?_)))))));refine D0 O an (Ol US O O O O) ?_;refine WD.nil an ?_;refine Et ?_;refine WC.kg O ?_;refine Ck (Eb (Et (Cr (ad O (I (Yi O O O ae) (ak O (Ln ?_)))))));exact b8 (i+1) ae ae an
 refine Ce (Ex (Ex (cB (Et (ag (ak O (aa (a7 ?_))))))));refine R1 O O λw' v=>?_;exact ⟨O,v.fr⟩
theorem UU (H:View) (w:World) (S:Le H w) (T:Laid H) :
   Calls prog 38 #[] w λe w'=>∃q:SP,e = .returned (.slice q.1 2 q.2)/\Ext w w'/\Sl (eK 8 7) 5 (nv w w') q.1 q.2 HH:=by
 refine enter func38 O 27 O O ?_;refine CE (Vs:=[H]) (Ws.init (by simp [S])) (ag (ak O (aa (ag ?_))));refine Ld Y O aC O (λr:iQ=>.agg (a6 aV r).toArray) (λN r=>jk 7 6 N r aV) (λw a=>Uu w) ?_;intro R U Z W
 refine Ld Y O aC O (λr:jG=>.tuple #[.agg (fH (cL aV []).1 r).toArray,.int .i64 (cL aV []).2]) (λt r=>iV (7+1) (6+1) t r (cL aV []).1) (λw a=>by
     skip
     exact tC R R 7 6 U aV none 0 [] w a.V a.V W Sl.nil Us) ?_
 intro ac u J i;refine ad O (I (Yx O O) (I (Yx O O) ?_));refine Al Y O nD λae=>?_;refine aQ 0 Y O O O nE O O O (ak O (aa (ag (Lp Y O aC O (λw a=>xD w) ?_))))
 refine Ld Y O aC O (λr:iQ=>.tuple #[.agg (a6 (fi) r).toArray,.int .i64 ((bN gq).2)]) (λN r=>jk 7 6 N r (fi)) (λw a=>by
     have:=zV H (gq) w a.V T
     exact this) ?_
 intro K L af M;refine ad O (I (Yx O O) (I (Yx O O) ?_));refine Al Y O ch λah=>?_;refine aQ 0 Y O O O mU O O O (ak O (aa (Cs ?_)));refine WC.L_ (.q 0 (.e 1 (.e 2 (.e 3 (.q 4 (.q 5 (.q 6 (.e 7 (.e 8 (.e 9 .nil .stop) .stop) .stop)))) (.e 7 (.e 3 (.q 4 (.q 5 (.q 6 (.e 8 (.e 9 .nil .stop) .stop)))) .stop) .stop)) (.e 7 (.e 2 (.e 3 (.q 4 (.q 5 (.q 6 (.e 8 (.e 9 .nil .stop) .stop)))) .stop) .stop) .stop)) (.e 7 (.e 1 (.e 2 (.e 3 (.q 4 (.q 5 (.q 6 (.e 8 (.e 9 .nil .stop) .stop)))) .stop) .stop) .stop) .stop))) mixed ab (λ_ _ _ d _ h=>by cases d<;>exact h) ?_;refine WT.q O Y O an (cc 0 O O iG O) ?_;refine WT.e O an ?_ ?_
 ·refine Ld Y O aC O (λr:SP=>.agg #[st bw,.slice r.1 p9.length r.2]) (λt r=>Sl hQ 4 t r.1 r.2 p9) (λw a=>KH w) ?_;intro E F X G;refine Ln (jB ?_);refine WT.e O (λ_ h=>(Wv 1 h:)) ?_ ?_
  ·refine Lb Y O gj O O O O λs=>?_;refine Ln (jB ?_);refine WT.e O (λ_ h=>(Wv 1 (Wd 1 h):)) ?_ ?_
   ·refine Ld Y O aC O (λr:jG=>.tuple #[.agg (fH (cL fi bh).1 r).toArray,.int .i64 (cL fi bh).2]) (λt r=>iV (7+1) (6+1) t r (cL fi bh).1) (λw a=>by
        have A:Sl re 2 (hv w) (some ⟨s,0,none⟩) 1 bh:=⟨aF,aF,aj,λj x g=>⟨s,0,rfl,by
          match j,g with
          | 0,g=>simp only [bh,kf,e0] at g; subst g; exact ⟨F,λk v b=>by
              match k,b with
              | 0,b=>simp [p_] at b; subst b; exact a.lr 0 rfl rfl
              | 1,b=>simp [p_] at b; subst b; exact a.lr 0 rfl rfl,qa (nM (a.vs E aj)) G⟩⟩⟩
        exact tC K (hv w) 7 6 L fi (some ⟨s,0,none⟩) 1 bh w a.V (jU w) M A (by have:=sg gq; show wM (bN gq).1<=_; omega)) ?_
    intro P l B y;refine Ln (jB ?_);refine WT.q O Y O (λ_ h=>(Wv 2 (Wd 1 h):)) (Ym O) ?_;refine WT.q O Y O (λ_ h=>(Wv 2 (Wd 1 h):)) (Yx O O) ?_;refine WT.q O Y O (λ_ h=>(Wv 2 (Wd 1 h):)) (Yx O O) ?_;refine WT.e O (λ_ h=>(Wv 2 (Wd 1 h):)) ?_ WT.stop;refine Al Y O nD λQ=>?_;refine Ln (jB ?_);refine WT.e O (λ_ h=>(Wv 2 (Wd 2 h):)) ?_ WT.stop;refine aQ 0 Y O O O nE O O O (Ln (jB ?_));refine WT.e O (λ_ h=>(Wv 2 (Wd 2 h):)) ?_ WT.stop;refine ak O (Ln (jB ?_));refine WT.nil (λ_ h=>(Wv 2 (Wd 2 h):)) ?_;refine Et (Cs ?_);obtain ⟨m,n⟩:∃c,c=(cL aV []).1:=⟨_,rfl⟩;obtain ⟨o,p⟩:∃c,c=(cL fi bh).1:=⟨_,rfl⟩;rw [<-n,<-p];rw [<-n] at i;rw [<-p] at y;refine Cr (I (cc 3 O O ik O) (I (cc 0 O O ik O) ?_));refine Lb Y O vu O O O O λC=>?_;refine cF 0 (.cells ((([(m,u),(o,l)]:List XU)).flatMap XU.cells).toArray 40 (0,0)) O O (LW (λ_ h=>h.pt (f:=XU.cells) (xs:=([(m,u),(o,l)]:List XU)) (c:=2) 0 O XU.ck O aF) (ak O (aa (a7 ?_))));refine R1 O O λw' a=>?_;have D:=i;refine ⟨(some ⟨C,0,none⟩,2),O,a.fr,?_⟩
    show Sl _ _ _ _ _ [(cL aV []).1,(cL fi bh).1]
    rw [<-n,<-p];have i:=a.iP (rd:=vt) 0 rfl XU.ck cp
    exact xI (es:=[(m,u),(o,l)]) i gO λe z=>by
      simp only [dU,cr,or_false] at z
      rcases z with rfl | rfl
      · exact D.mv (cU a aj J)
      · exact y.mv (cU a aj B)
   refine WT.e O (λ_ h=>(Wv 1 (Wd 1 h):)) ?_ WT.stop;refine Al Y O nD λQ=>?_;refine Ln (jB ?_);refine WT.e O (λ_ h=>(Wv 1 (Wd 2 h):)) ?_ WT.stop
   refine Ld Y O aC O (λr:jG=>.tuple #[.agg (fH (cL fi bh).1 r).toArray,.int .i64 (cL fi bh).2]) (λt r=>iV (7+1) (6+1) t r (cL fi bh).1) (λw a=>by
       have A:Sl re 2 (hv w) (some ⟨s,0,none⟩) 1 bh:=⟨aF,aF,aj,λj x g=>⟨s,0,rfl,by
         match j,g with
         | 0,g=>simp only [bh,kf,e0] at g; subst g; exact ⟨F,λk v b=>by
             match k,b with
             | 0,b=>simp [p_] at b; subst b; exact a.lr 1 rfl rfl
             | 1,b=>simp [p_] at b; subst b; exact a.lr 1 rfl rfl,qa (nM (a.vs E aj)) G⟩⟩⟩
       exact tC K (hv w) 7 6 L fi (some ⟨s,0,none⟩) 1 bh w a.V (jU w) M A (by have:=sg gq; show wM (bN gq).1<=_; omega)) ?_
   intro P l B y;refine Ln (jB ?_);refine WT.q O Y O (λ_ h=>(Wv 2 (Wd 2 h):)) (Ym O) ?_;refine WT.q O Y O (λ_ h=>(Wv 2 (Wd 2 h):)) (Yx O O) ?_;refine WT.q O Y O (λ_ h=>(Wv 2 (Wd 2 h):)) (Yx O O) ?_;refine WT.e O (λ_ h=>(Wv 2 (Wd 2 h):)) ?_ WT.stop;refine aQ 0 Y O O O nE O O O (Ln (jB ?_));refine WT.e O (λ_ h=>(Wv 2 (Wd 2 h):)) ?_ WT.stop;refine ak O (Ln (jB ?_));refine WT.nil (λ_ h=>(Wv 2 (Wd 2 h):)) ?_;refine Et (Cs ?_);obtain ⟨m,n⟩:∃c,c=(cL aV []).1:=⟨_,rfl⟩;obtain ⟨o,p⟩:∃c,c=(cL fi bh).1:=⟨_,rfl⟩;rw [<-n,<-p];rw [<-n] at i;rw [<-p] at y;refine Cr (I (cc 3 O O ik O) (I (cc 0 O O ik O) ?_));refine Lb Y O vu O O O O λC=>?_;refine cF 0 (.cells ((([(m,u),(o,l)]:List XU)).flatMap XU.cells).toArray 40 (0,0)) O O (LW (λ_ h=>h.pt (f:=XU.cells) (xs:=([(m,u),(o,l)]:List XU)) (c:=2) 0 O XU.ck O aF) (ak O (aa (a7 ?_))));refine R1 O O λw' a=>?_;have D:=i;refine ⟨(some ⟨C,0,none⟩,2),O,a.fr,?_⟩
   show Sl _ _ _ _ _ [(cL aV []).1,(cL fi bh).1]
   rw [<-n,<-p];have i:=a.iP (rd:=vt) 0 rfl XU.ck cp
   exact xI (es:=[(m,u),(o,l)]) i gO λe z=>by
     simp only [dU,cr,or_false] at z
     rcases z with rfl | rfl
     · exact D.mv (cU a aj J)
     · exact y.mv (cU a aj B)
  refine WT.e O (λ_ h=>(Wv 1 h:)) ?_ WT.stop;refine Al Y O nD λQ=>?_;refine Ln (jB ?_);refine WT.e O (λ_ h=>(Wv 1 (Wd 1 h):)) ?_ WT.stop;refine Lb Y O gj O O O O λs=>?_;refine Ln (jB ?_);refine WT.e O (λ_ h=>(Wv 1 (Wd 2 h):)) ?_ WT.stop
  refine Ld Y O aC O (λr:jG=>.tuple #[.agg (fH (cL fi bh).1 r).toArray,.int .i64 (cL fi bh).2]) (λt r=>iV (7+1) (6+1) t r (cL fi bh).1) (λw a=>by
      have A:Sl re 2 (hv w) (some ⟨s,0,none⟩) 1 bh:=⟨aF,aF,aj,λj x g=>⟨s,0,rfl,by
        match j,g with
        | 0,g=>simp only [bh,kf,e0] at g; subst g; exact ⟨F,λk v b=>by
            match k,b with
            | 0,b=>simp [p_] at b; subst b; exact a.lr 0 rfl rfl
            | 1,b=>simp [p_] at b; subst b; exact a.lr 0 rfl rfl,qa (nM (a.vs E aj)) G⟩⟩⟩
      exact tC K (hv w) 7 6 L fi (some ⟨s,0,none⟩) 1 bh w a.V (jU w) M A (by have:=sg gq; show wM (bN gq).1<=_; omega)) ?_
  intro P l B y;refine Ln (jB ?_);refine WT.q O Y O (λ_ h=>(Wv 2 (Wd 2 h):)) (Ym O) ?_;refine WT.q O Y O (λ_ h=>(Wv 2 (Wd 2 h):)) (Yx O O) ?_;refine WT.q O Y O (λ_ h=>(Wv 2 (Wd 2 h):)) (Yx O O) ?_;refine WT.e O (λ_ h=>(Wv 2 (Wd 2 h):)) ?_ WT.stop;refine aQ 1 Y O O O nE O O O (Ln (jB ?_));refine WT.e O (λ_ h=>(Wv 2 (Wd 2 h):)) ?_ WT.stop;refine ak O (Ln (jB ?_));refine WT.nil (λ_ h=>(Wv 2 (Wd 2 h):)) ?_;refine Et (Cs ?_);obtain ⟨m,n⟩:∃c,c=(cL aV []).1:=⟨_,rfl⟩;obtain ⟨o,p⟩:∃c,c=(cL fi bh).1:=⟨_,rfl⟩;rw [<-n,<-p];rw [<-n] at i;rw [<-p] at y;refine Cr (I (cc 3 O O ik O) (I (cc 1 O O ik O) ?_));refine Lb Y O vu O O O O λC=>?_;refine cF 0 (.cells ((([(m,u),(o,l)]:List XU)).flatMap XU.cells).toArray 40 (0,0)) O O (LW (λ_ h=>h.pt (f:=XU.cells) (xs:=([(m,u),(o,l)]:List XU)) (c:=2) 0 O XU.ck O aF) (ak O (aa (a7 ?_))));refine R1 O O λw' a=>?_;have D:=i;refine ⟨(some ⟨C,0,none⟩,2),O,a.fr,?_⟩
  show Sl _ _ _ _ _ [(cL aV []).1,(cL fi bh).1]
  rw [<-n,<-p];have i:=a.iP (rd:=vt) 0 rfl XU.ck cp
  exact xI (es:=[(m,u),(o,l)]) i gO λe z=>by
    simp only [dU,cr,or_false] at z
    rcases z with rfl | rfl
    · exact D.mv (cU a aj J)
    · exact y.mv (cU a aj B)
 refine WT.e O an ?_ WT.stop;refine Al Y O nD λQ=>?_;refine Ln (jB ?_);refine WT.e O (λ_ h=>(Wd 1 h:)) ?_ WT.stop;refine Ld Y O aC O (λr:SP=>.agg #[st bw,.slice r.1 p9.length r.2]) (λt r=>Sl hQ 4 t r.1 r.2 p9) (λw a=>KH w) ?_;intro E F X G;refine Ln (jB ?_);refine WT.e O (λ_ h=>(Wv 1 (Wd 1 h):)) ?_ WT.stop;refine Lb Y O gj O O O O λs=>?_;refine Ln (jB ?_);refine WT.e O (λ_ h=>(Wv 1 (Wd 2 h):)) ?_ WT.stop
 refine Ld Y O aC O (λr:jG=>.tuple #[.agg (fH (cL fi bh).1 r).toArray,.int .i64 (cL fi bh).2]) (λt r=>iV (7+1) (6+1) t r (cL fi bh).1) (λw a=>by
     have A:Sl re 2 (hv w) (some ⟨s,0,none⟩) 1 bh:=⟨aF,aF,aj,λj x g=>⟨s,0,rfl,by
       match j,g with
       | 0,g=>simp only [bh,kf,e0] at g; subst g; exact ⟨F,λk v b=>by
           match k,b with
           | 0,b=>simp [p_] at b; subst b; exact a.lr 0 rfl rfl
           | 1,b=>simp [p_] at b; subst b; exact a.lr 0 rfl rfl,qa (nM (a.vs E aj)) G⟩⟩⟩
     exact tC K (hv w) 7 6 L fi (some ⟨s,0,none⟩) 1 bh w a.V (jU w) M A (by have:=sg gq; show wM (bN gq).1<=_; omega)) ?_
 intro P l B y;refine Ln (jB ?_);refine WT.q O Y O (λ_ h=>(Wv 2 (Wd 2 h):)) (Ym O) ?_;refine WT.q O Y O (λ_ h=>(Wv 2 (Wd 2 h):)) (Yx O O) ?_;refine WT.q O Y O (λ_ h=>(Wv 2 (Wd 2 h):)) (Yx O O) ?_;refine WT.e O (λ_ h=>(Wv 2 (Wd 2 h):)) ?_ WT.stop;refine aQ 1 Y O O O nE O O O (Ln (jB ?_));refine WT.e O (λ_ h=>(Wv 2 (Wd 2 h):)) ?_ WT.stop;refine ak O (Ln (jB ?_));refine WT.nil (λ_ h=>(Wv 2 (Wd 2 h):)) ?_;refine Et (Cs ?_);obtain ⟨m,n⟩:∃c,c=(cL aV []).1:=⟨_,rfl⟩;obtain ⟨o,p⟩:∃c,c=(cL fi bh).1:=⟨_,rfl⟩;rw [<-n,<-p];rw [<-n] at i;rw [<-p] at y;refine Cr (I (cc 3 O O ik O) (I (cc 1 O O ik O) ?_));refine Lb Y O vu O O O O λC=>?_;refine cF 0 (.cells ((([(m,u),(o,l)]:List XU)).flatMap XU.cells).toArray 40 (0,0)) O O (LW (λ_ h=>h.pt (f:=XU.cells) (xs:=([(m,u),(o,l)]:List XU)) (c:=2) 0 O XU.ck O aF) (ak O (aa (a7 ?_))));refine R1 O O λw' a=>?_;have D:=i;refine ⟨(some ⟨C,0,none⟩,2),O,a.fr,?_⟩
 show Sl _ _ _ _ _ [(cL aV []).1,(cL fi bh).1]
 rw [<-n,<-p];have i:=a.iP (rd:=vt) 0 rfl XU.ck cp
 exact xI (es:=[(m,u),(o,l)]) i gO λe z=>by
   simp only [dU,cr,or_false] at z
   rcases z with rfl | rfl
   · exact D.mv (cU a aj J)
   · exact y.mv (cU a aj B)
theorem UW (nm s:List UInt8):aI s [((nm,.int .i64 1,0):dP (List UInt8))] (.int .i64 0) = .int .i64 ((([nm]:List (List UInt8)).count s:Nat):Int):=by
 by_cases h:nm=s
 · subst h; simp [aI,cK]
 · have a:¬s=nm:=λe=>h e.symm
   simp [aI,cK,h,a,A_]
theorem UX {seen:List (List UInt8)} {M:List (dP (List UInt8))} (h:∀s,aI s M (.int .i64 0) = .int .i64 ((seen.count s:Nat):Int)) (x:List UInt8) (c:Nat):∀s,aI s (eJ x (.int .i64 (((seen.count x:Nat):Int)+1)) M c) (.int .i64 0) = .int .i64 (((seen++[x]).count s:Nat):Int):=by
 intro s
 by_cases e:s=x
 · subst e
   rw [s9,ya];simp
 · rw [j7 _ M c _ e,h s,ya]
   have a:¬x=s:=λk=>e k.symm;simp [A_,a]
theorem sq:cx prog 56 1=some 1:=ab
theorem xJ:cx prog 56 0=some 0:=ab
theorem xK:cx prog 56 2=some 2:=ab
theorem xL:dI prog 108=some 3:=ab
theorem Aq:cx prog 108 0=some 0:=ab
theorem rf:fk prog 53=some 3:=ab
theorem vv:gP prog 112=some 3:=ab
theorem vw:dI prog 112=some 3:=ab
theorem tJ:cx prog 112 0=some 0:=ab
theorem xM:cx prog 112 1=some 1:=ab
theorem rh:cx prog 112 2=some 2:=ab
theorem Ar (a:View) (b n:Nat) (x:Int) (w:World) (c:Le a w) (d:vc a b 0=some (.int .i64 (n:Int))) :
   Calls prog 134 #[.int .i64 x,.pointer (some ⟨b,0,none⟩)] w λe w'=>e = .returned (.bool (bg n x))/\Ext w w':=by
 refine enter func134 O 11 O O ?_;refine CE (Vs:=[a]) (Ws.init (by simp [c])) (ag (ak O (aa (ag (ad O (I (gw O O) (ad O ?_)))))));apply La 3 O O O O Y O O O O O
 ·intro g;refine Vg (Ym O) (Vg (cu 0 ab O O (d)) (Vg (ai O O) ?_));exact Gt 3 O O O
 refine ak O (aa (a7 ?_));refine R1 O O λw' f=>?_;exact ⟨O,f.fr⟩
theorem EA (k:View) (o:bD) (q:iZ) (w:World) (av:Le k w) (j:ld k q o) :
   Calls prog 62 #[.agg (gS o q).toArray] w λe w'=>e = .returned (.int .i64 (fw o))/\Ext w w':=by
 have aR:=j.aq.cap;have aS:=j.aq.max;have aT:=j.code.cap;have aU:=j.code.max;have aV:=j.fix.cap;have aW:=j.fix.max;have aX:=j.aw.cap;have aY:=j.aw.max;refine enter func62 O 191 O O ?_;refine CE (Vs:=[k]) (Ws.init (by simp [av])) (ag ?_);refine WL.box Y O O λK=>?_;refine ak O (aa (ag (I (Yf ll O) (I (Yd 0 O O O ab) (I (Yn ju O) ?_)))));refine Al Y O b0 λt=>?_;refine aQ 0 Y O O O dZ O O O (aa (Cs (Cs (fm 0 (.cells ([.int .i64 (o.code.length:Int)]).toArray 3 (0,0)) O O (Cr (I (Yf sq O) (I (Yd 1 O O O ab) (I (Yn dy O) (I (dO O O) ?_)))))))));refine ad O ?_;apply Lo 4 O O O O Y O O O O O
 ·intro a0;refine Vg (Yf o9 O) (Vg (Yd 1 O O O ab) (Vg (Yn iH O) (Vg (dO O O) ?_)));exact Gt 4 O O O
 refine ad O ?_;apply Lo 2 O O O O Y O O O O O
 ·intro a1;refine Vg (Yd 0 O O O ab) (Vg (ai O O) ?_);exact Gt 2 O O O
 refine ad O ?_;apply Lo 2 O O O O Y O O O O O
 ·intro a2;refine Vg (Yd 0 O O O ab) (Vg (dO O O) ?_);exact Gt 2 O O O
 refine aa ?_;refine Cc O (λQ=>?_) (λQ=>?_)
 ·refine ag (ak O (aa (a7 (Er ?_))));refine R1 O O λw' i=>?_;exact ⟨by rw [fw,if_pos (show me o=true from Q)],i.fr⟩
 have B:me o=false:=Q
 have a3:o.aq.length<=3:=by
   unfold me at B;simp only [hM,decide_eq_false_iff_not] at B;omega
 refine bk (ag ?_);refine WL.nc st Y O λL=>?_;refine I (Yf xJ O) (I (Yd 2 O O O ab) ?_);refine WL.l4 0 h4 Y ih ab O O O O ?_;refine ad O (ak O (aa (ag (I (Yf xJ O) (I (Yd 2 O O O ab) (Lp Y O aC O (λw i=>o0 _ w) (ad O ?_)))))));apply La 3 O O O O Y O O O O O
 ·intro a4;refine Vg (Yf xK O) (Vg (Yd 2 O O O ab) (Vg (gw O O) ?_));exact Gt 3 O O O
 refine ad O ?_;apply La 3 O O O O Y O O O O O
 ·intro a5;refine Vg (Yf xK O) (Vg (Yd 2 O O O ab) (Vg (ir O O) ?_));exact Gt 3 O O O
 refine ak O (aa (Cs (ag (I (Yf sq O) (I (Yd 2 O O O ab) (I (Yn dy O) (ad O (aa (Cb ?_)))))))));refine dc (ι:=Nat×List (dP (List UInt8))×Nat×Bool) (λg=>[(58,.int .i64 (g.1:Int)),(5,.bool g.2.2.2)]) [(1,_),(2,_),(3,_),(4,_),(56,_),(57,_)] (λg=>Ws w [] [ao L (ar st g.2.1 g.2.2.1),ao t (.cells #[.int .i64 (o.code.length:Int)] 3 (0,0)),ao K (.cells (gS o q).toArray 56 (0,0))] [k]) (λg=>g.1<=o.aq.length/\(∀s,aI s g.2.1 (.int .i64 0) = .int .i64 (((o.nm::o.aq.take g.1).count s:Nat):Int))/\kL (o.nm::o.aq.take g.1) (o.aq.drop g.1) g.2.2.2=kL [o.nm] o.aq (oQ o)) (λg=>o.aq.length-g.1) (0,[((o.nm,.int .i64 1,0):dP (List UInt8))],1,oQ o) ⟨cq _,UW o.nm,O⟩ an ?_;intro g ⟨a6,ah,C⟩;refine ag (I (ai O O) (aa (Cs ?_)));refine Cc O (λR=>?_) (λR=>?_)
 ·have l:g.1<o.aq.length:=by simpa using R
  obtain ⟨s,S⟩:=cg l;obtain ⟨ax,pos,ay,T⟩:=j.aq.bT g.1 s S;have T:bR k ax (pos+g.1*1) (c' s):=T
  have az:(o.nm::o.aq.take g.1)++[s]=o.nm::o.aq.take (g.1+1):=by rw [aZ,S]; simp
  have a8:((o.nm::o.aq.take g.1).count s:Nat)<=4:=by
    have M:(o.nm::o.aq.take g.1).count s<=(o.nm::o.aq.take g.1).length:=Fv;simp at M; omega
  refine bk (Cs (Cb (ag (I (Yo dy O O ay l) (I (cu 0 ab O O (T 0 _ O)) (ak O (aa (ag (ad O (ad O (I (qx 0 h4 ih ab b0 O O O) ?_)))))))))));rw [ah s];refine I (l0 O O ae) ?_;refine WL.oz 0 h4 Y ih ab O O O O ?_;refine aa (Cr (ad O (ad O ?_)));apply La 2 (x:=ep s) O O O O Y O O O O O
  ·intro a9;refine Vg (Ym O) (Lp (.g O O O) O aC O (λw i=>o0 _ w) ?_);exact Gt 2 O O O
  refine ad O ?_;apply La 4 (x:=((((o.nm::o.aq.take g.1).count s:Nat):Int)+1==1)) O O O O Y O O O O O
  ·intro a';refine Vg (Ym O) (Vg (Ym O) (Vg (qx 0 h4 ih ab b0 O O O) ?_));rw [s9];refine Vg (bY O O) ?_;exact Gt 4 O O O
  refine ak O (Ln (Eb (Et (Cr (I (Yi O O O ae) (ad O (Ln ?_)))))));exact b8 ((g.1+1,_,_,((g.2.2.2&&ep s)&&((((o.nm::o.aq.take g.1).count s:Nat):Int)+1==1))):Nat×List (dP (List UInt8))×Nat×Bool) (by show _-(g.1+1)<_; omega) ⟨(by show g.1+1<=_; omega),(by rw [<-az]; exact UX ah s _),(NL (seen:=[o.nm]) S _).symm.trans C⟩ an
 have aA:g.1=o.aq.length:=by simp at R; omega
 rw [aA,sE] at C;have C:g.2.2.2=kL [o.nm] o.aq (oQ o):=C;refine Ce (Ex (Ex (cB (Et (Cs (ag (I (Yf ll O) (I (Yd 2 O O O ab) (I (Yn ju O) (ad O (aa (Cb ?_))))))))))));refine dc (ι:=Nat×Bool) (λf=>[(81,.int .i64 (f.1:Int)),(5,.bool f.2)]) [(1,_),(2,_),(3,_),(79,_),(80,_)] (λf=>Ws w [] [ao L (ar st g.2.1 g.2.2.1),ao t (.cells #[.int .i64 (o.code.length:Int)] 3 (0,0)),ao K (.cells (gS o q).toArray 56 (0,0))] [k]) (λf=>f.1<=o.code.length/\lH (o.code.drop f.1) f.2=lH o.code (kL [o.nm] o.aq (oQ o))) (λf=>o.code.length-f.1) (0,g.2.2.2) ⟨cq _,(by rw [C]; rfl)⟩ an ?_;intro f ⟨a_,D⟩;refine ag (I (ai O O) (aa (Cs ?_)));refine Cc O (λV=>?_) (λV=>?_)
 ·have l:f.1<o.code.length:=by simpa using V
  obtain ⟨x,u⟩:=cg l;obtain ⟨E,F,G,n⟩:=j.code.bT f.1 x u;have n:bR k E (F+f.1*3) x.cells:=n;refine bk (Cs (Cb (ag (I (Yo ju O O G l) (I (dV 0 sk O O O (n)) ?_)))));refine Al Y O gu λba=>?_;refine aQ 0 Y O O O xL O O O (aa (fm 0 (.cells (x.cells).toArray 108 (0,0)) O O (Cr (ad O (ad O ?_)))));apply La 3 O O O O Y O O O O O
  ·intro bb;refine Vg (Yf Aq O) (Vg (Yd 0 O O O ab) (Vg (gw O O) ?_));exact Gt 3 O O O
  refine ad O ?_;apply La 3 O O O O Y O O O O O
  ·intro bc;refine Vg (Yf Aq O) (Vg (Yd 0 O O O ab) (Vg (ir O O) ?_));exact Gt 3 O O O
  refine ak O (Ln (Eb (Et (Cr (I (Yi O O O ae) (ad O (Ln ?_)))))));exact b8 ((f.1+1,_):Nat×Bool) (by show _-(f.1+1)<_; omega) ⟨(by show f.1+1<=_; omega),(P3 u _).symm.trans D⟩ (λ_ h=>Wd 1 h)
 have aB:f.1=o.code.length:=by simp at V; omega
 rw [aB,sE] at D;have D:f.2=lH o.code (kL [o.nm] o.aq (oQ o)):=D;refine Ce (Ex (Ex (cB (Et (ag (I (pn O) (ak O (aa (Cs (ag (I (Yf o9 O) (I (Yd 2 O O O ab) (I (Yn iH O) ?_)))))))))))));refine ad O (aa (Cb ?_));refine dc (ι:=Nat×Bool) (λd=>[(101,.int .i64 (d.1:Int)),(5,.bool d.2)]) [(1,_),(2,_),(3,_),(10,_),(99,_),(100,_)] (λd=>Ws w [] [ao L (ar st g.2.1 g.2.2.1),ao t (.cells #[.int .i64 (o.code.length:Int)] 3 (0,0)),ao K (.cells (gS o q).toArray 56 (0,0))] [k]) (λd=>d.1<=o.aw.length/\mM o.code.length (o.aw.drop d.1) d.2=mM o.code.length o.aw (lH o.code (kL [o.nm] o.aq (oQ o)))) (λd=>o.aw.length-d.1) (0,f.2) ⟨cq _,(by rw [D]; rfl)⟩ an ?_;intro d ⟨bd,H⟩;refine ag (I (ai O O) (aa (Cs ?_)));refine Cc O (λW=>?_) (λW=>?_)
 ·have l:d.1<o.aw.length:=by simpa using W
  obtain ⟨x,u⟩:=cg l;obtain ⟨E,F,G,n⟩:=j.aw.bT d.1 x u;have n:bR k E (F+d.1*1) (e8 x):=n;refine bk (Cs (Cb (ag (I (Yo iH O O G l) (I (cu 0 ab O O (n 0 _ O)) (ak O (aa (Cr (ad O (ad O ?_))))))))));apply La 3 (x:=bg o.code.length x) O O O O Y O O O O O
  ·intro be;refine Vg (Ym O) (Vg (Ym O) ?_);refine WL.tZ (.g O O O) O aC O O (λw i=>Ar (hv w) t o.code.length (x) w (jU w) (oD (i.mF 1 O) O)) ?_;exact Gt 3 O O O
  refine ak O (Ln (Eb (Et (Cr (I (Yi O O O ae) (ad O (Ln ?_)))))));exact b8 ((d.1+1,(d.2&&bg o.code.length x)):Nat×Bool) (by show _-(d.1+1)<_; omega) ⟨(by show d.1+1<=_; omega),(P4 u _).symm.trans H⟩ an
 have aD:d.1=o.aw.length:=by simp at W; omega
 rw [aD,sE] at H;have H:d.2=mM o.code.length o.aw (lH o.code (kL [o.nm] o.aq (oQ o))):=H;refine Ce (Ex (Ex (cB (Et (ag (ak O (aa (Cs (ag (I (Yf si O) (I (Yd 2 O O O ab) (I (Yn rf O) (ad O ?_)))))))))))));refine aa (Cb ?_);refine dc (ι:=Nat×Int×Bool) (λb=>[(115,.int .i64 (b.1:Int)),(13,.int .i64 b.2.1),(5,.bool b.2.2)]) [(1,_),(2,_),(3,_),(10,_),(113,_),(114,_)] (λb=>Ws w [] [ao L (ar st g.2.1 g.2.2.1),ao t (.cells #[.int .i64 (o.code.length:Int)] 3 (0,0)),ao K (.cells (gS o q).toArray 56 (0,0))] [k]) (λb=>b.1<=o.fix.length/\lf o.aq.length o.code (o.fix.drop b.1) b.2.1 b.2.2=r0 o) (λb=>o.fix.length-b.1) (0,-1,d.2) ⟨cq _,(by rw [H]; rfl)⟩ an ?_;intro b ⟨bf,z⟩;refine ag (I (ai O O) (aa (Cs ?_)));refine Cc O (λX=>?_) (λX=>?_)
 ·have l:b.1<o.fix.length:=by simpa using X
  obtain ⟨x,u⟩:=cg l;obtain ⟨E,F,G,n⟩:=j.fix.bT b.1 x u;have n:bR k E (F+b.1*3) x.cells:=n;have r:=P5 (U:=o.aq.length) (c:=o.code) u b.2.1 b.2.2;rw [z] at r;refine bk (Cs (Cb (ag (I (Yo rf O O G l) (I (dV 0 vv O O O (n)) ?_)))));refine Al Y O sj λbh=>?_;refine aQ 0 Y O O O vw O O O (aa (Cs (fm 0 (.cells (x.cells).toArray 112 (0,0)) O O (Cr (ad O (ad O ?_))))));apply La 4 O O O O Y O O O O O
  ·intro bi;refine Vg (Yf tJ O) (Vg (Yd 0 O O O ab) (Vg (Ym O) (Vg (dO O O) ?_)));exact Gt 4 O O O
  refine ad O ?_;apply La 4 (x:=bg o.code.length x.at_) O O O O Y O O O O O
  ·intro bj;refine Vg (Ym O) (Vg (Yf tJ O) (Vg (Yd 0 O O O ab) ?_));refine WL.tZ (.g O O O) O aC O O (λw i=>Ar (hv w) t o.code.length (x.at_) w (jU w) (oD (i.mF 2 O) O)) ?_;exact Gt 4 O O O
  refine ak O (aa (Cs (ag (ad O (I (e5 O) (aa ?_))))));refine Cc O (λZ=>?_) (λZ=>?_)
  ·have al:((b.2.2&&decide (b.2.1<x.at_))&&bg o.code.length x.at_)=false:=by
     have M:=Z
     cases aE:((b.2.2&&decide (b.2.1<x.at_))&&bg o.code.length x.at_) with
     | false=>rfl
     | true=>rw [aE] at M; cases M
   rw [if_pos al] at r;refine Ce (Ex (vY O (Ex (Ex (cB (Et (Cs (ag (ad O (I (e5 O) (ad O ?_)))))))))));apply Lo 5 (x:=!(bg o.code.length o.main)) O O O O Y O O O O O
   ·intro aG;refine Vg (Ym O) (Vg (Yf jt O) (Vg (Yd 3 O O O ab) ?_));refine WL.tZ (.g O O O) O aC O O (λw i=>Ar (hv w) t o.code.length (o.main) w (jU w) (oD (i.mF 2 O) O)) ?_;refine Vg (e5 O) ?_;exact Gt 5 O O O
   refine aa ?_;refine Cc O (λv=>?_) (λv=>?_)
   ·refine ag (ak O (aa (a7 (Er ?_))));refine R1 O O λw' i=>?_;exact ⟨by rw [fw,B,if_neg aF,if_pos (by rw [r]; rfl)],i.fr⟩
   refine bk (ag (ak O (aa (a7 ?_))));refine R1 O O λw' i=>?_;rw [al] at v;exact absurd v aj
  have am:((b.2.2&&decide (b.2.1<x.at_))&&bg o.code.length x.at_)=true:=by simpa using Z
  rw [if_neg (by rw [am]; decide)] at r;obtain ⟨p,bl,aH⟩:=pM (d'.1 am).2
  have ap:x.at_.toNat=p:=ae
  obtain ⟨y,au⟩:=cg aH;obtain ⟨aJ,aK,aL,N⟩:=j.code.bT p y au;have N:bR k aJ (aK+p*3) y.cells:=N;rw [<-ap] at N
  have aM:j8 o.code x.at_=y.a:=by unfold j8; rw [ap,au]; rfl
  rw [aM] at r;refine bk (ag (I (Yf tJ O) (I (Yd 0 O O O ab) (ak O (aa (ag (I (Yf ll O) (I (Yd 3 O O O ab) (I (Yf tJ O) ?_)))))))));refine I (Yd 0 O O O ab) (I (wb ju O O aL ae ae) (I (Yf vp O) (I (cu 0 ab O O (N 1 _ O)) (ak O (aa (ag (ad O (I (gw O O) ?_))))))));refine ad O ?_;apply La 2 O O O O Y O O O O O
  ·intro bm;refine Vg (Ym O) (Vg (ir O O) ?_);exact Gt 2 O O O
  refine ak O (aa (ag (I (Yf xM O) (I (Yd 0 O O O ab) (aa (Cb (ag (I (bY O O) (ak O (aa ?_))))))))));refine Cc O (λac=>?_) (λac=>?_)
  ·have J:x.kind=1:=by simpa using ac
   refine Cr (ad O (ad O ?_));apply La 3 O O O O Y O O O O O
   ·intro bn;refine Vg (Yf rh O) (Vg (Yd 0 O O O ab) (Vg (bY O O) ?_));exact Gt 3 O O O
   refine ad O ?_;apply La 3 O O O O Y O O O O O
   ·intro bo;refine Vg (Ym O) (Vg (Yd 2 O O O ab) (Vg (ir O O) ?_));exact Gt 3 O O O
   refine ak O (Ln (Eb (Eb (Et (Cr (I (Yi O O O ae) (ad O (Ln ?_))))))));exact b8 ((b.1+1,x.at_,(((decide (0<=y.a)&&decide (y.a<=2048))&&(x.m==0))&&decide (y.a<=(o.code.length:Int)))):Nat×Int×Bool) (by show _-(b.1+1)<_; omega) ⟨(by show b.1+1<=_; omega),(congrArg (lf o.aq.length o.code (o.fix.drop (b.1+1)) x.at_) (show (((decide (0<=y.a)&&decide (y.a<=2048))&&(x.m==0))&&decide (y.a<=(o.code.length:Int)))=i' o.aq.length o.code.length x.kind x.m y.a from ((by unfold i'; rw [if_pos J])))).trans r.symm⟩ (λ_ h=>Wd 1 h)
  have J:¬x.kind=1:=by simpa using ac
  refine Cs (ag (I (bY O O) (ak O (aa ?_))));refine Cc O (λP=>?_) (λP=>?_)
  ·have af:x.kind=2:=by simpa using P
   refine bk ?_;refine Cc O (λA=>?_) (λA=>?_)
   ·refine Cr (ad O (ad O ?_));apply La 3 O O O O Y O O O O O
    ·intro aN;refine Vg (Yf rh O) (Vg (Yd 0 O O O ab) (Vg (gw O O) ?_));exact Gt 3 O O O
    refine ad O ?_;apply La 6 O O O O Y O O O O O
    ·intro aO;refine Vg (Yf rh O) (Vg (Yd 0 O O O ab) (Vg (Yf sq O) (Vg (Yd 3 O O O ab) (Vg (Yn dy O) (Vg (ir O O) ?_)))));exact Gt 6 O O O
    refine ak O (Ln (Eb (Eb (Et (Cr (I (Yi O O O ae) (ad O (Ln ?_))))))));exact b8 ((b.1+1,x.at_,(((decide (0<=y.a)&&decide (y.a<=2048))&&decide (0<=x.m))&&decide (x.m<=(o.aq.length:Int)))):Nat×Int×Bool) (by show _-(b.1+1)<_; omega) ⟨(by show b.1+1<=_; omega),(congrArg (lf o.aq.length o.code (o.fix.drop (b.1+1)) x.at_) (show (((decide (0<=y.a)&&decide (y.a<=2048))&&decide (0<=x.m))&&decide (x.m<=(o.aq.length:Int)))=i' o.aq.length o.code.length x.kind x.m y.a from ((by unfold i'; rw [if_neg J,if_pos (.inl af)])))).trans r.symm⟩ (λ_ h=>Wd 1 h)
   refine Cr (ak O (Ln (Eb (Eb (Et (Cr (I (Yi O O O ae) (ad O (Ln ?_)))))))));exact b8 ((b.1+1,x.at_,false):Nat×Int×Bool) (by show _-(b.1+1)<_; omega) ⟨(by show b.1+1<=_; omega),(congrArg (lf o.aq.length o.code (o.fix.drop (b.1+1)) x.at_) (show false=i' o.aq.length o.code.length x.kind x.m y.a from ((by exact absurd (P.symm.trans A) aF)))).trans r.symm⟩ (λ_ h=>Wd 1 h)
  have af:¬x.kind=2:=by simpa using P
  refine Cr (I (bY O O) (ak O (aa ?_)));refine Cc O (λA=>?_) (λA=>?_)
  ·refine Cr (ad O (ad O ?_));apply La 3 O O O O Y O O O O O
   ·intro aN;refine Vg (Yf rh O) (Vg (Yd 0 O O O ab) (Vg (gw O O) ?_));exact Gt 3 O O O
   refine ad O ?_;apply La 6 O O O O Y O O O O O
   ·intro aO;refine Vg (Yf rh O) (Vg (Yd 0 O O O ab) (Vg (Yf sq O) (Vg (Yd 3 O O O ab) (Vg (Yn dy O) (Vg (ir O O) ?_)))));exact Gt 6 O O O
   refine ak O (Ln (Eb (Eb (Et (Cr (I (Yi O O O ae) (ad O (Ln ?_))))))));exact b8 ((b.1+1,x.at_,(((decide (0<=y.a)&&decide (y.a<=2048))&&decide (0<=x.m))&&decide (x.m<=(o.aq.length:Int)))):Nat×Int×Bool) (by show _-(b.1+1)<_; omega) ⟨(by show b.1+1<=_; omega),(congrArg (lf o.aq.length o.code (o.fix.drop (b.1+1)) x.at_) (show (((decide (0<=y.a)&&decide (y.a<=2048))&&decide (0<=x.m))&&decide (x.m<=(o.aq.length:Int)))=i' o.aq.length o.code.length x.kind x.m y.a from ((by unfold i'; rw [if_neg J,if_pos (.inr (by simpa using A))])))).trans r.symm⟩ (λ_ h=>Wd 1 h)
  refine Cr (ak O (Ln (Eb (Eb (Et (Cr (I (Yi O O O ae) (ad O (Ln ?_)))))))));exact b8 ((b.1+1,x.at_,false):Nat×Int×Bool) (by show _-(b.1+1)<_; omega) ⟨(by show b.1+1<=_; omega),(congrArg (lf o.aq.length o.code (o.fix.drop (b.1+1)) x.at_) (show false=i' o.aq.length o.code.length x.kind x.m y.a from ((by unfold i'; rw [if_neg J,if_neg (λh=>h.elim af (by simpa using A))])))).trans r.symm⟩ (λ_ h=>Wd 1 h)
 have aP:b.1=o.fix.length:=by simp at X; omega
 rw [aP,sE] at z;have z:b.2.2=r0 o:=z;refine Ce (Ex (Ex (cB (Et (Cs (ag (ad O (I (e5 O) (ad O ?_)))))))));apply Lo 5 (x:=!(bg o.code.length o.main)) O O O O Y O O O O O
 ·intro aG;refine Vg (Ym O) (Vg (Yf jt O) (Vg (Yd 2 O O O ab) ?_));refine WL.tZ (.g O O O) O aC O O (λw i=>Ar (hv w) t o.code.length (o.main) w (jU w) (oD (i.mF 1 O) O)) ?_;refine Vg (e5 O) ?_;exact Gt 5 O O O
 refine aa ?_;refine Cc O (λv=>?_) (λv=>?_)
 ·refine ag (ak O (aa (a7 (Er ?_))));refine R1 O O λw' i=>?_;exact ⟨by rw [fw,B,if_neg aF,<-z,if_pos v],i.fr⟩
 refine bk (ag (ak O (aa (a7 ?_))));refine R1 O O λw' i=>?_;exact ⟨by rw [fw,B,if_neg aF,<-z,if_neg (by rw [v]; decide)],i.fr⟩
theorem wrap_u8 (n:Int):IntKind.u8.wrap n=((cZ n).toNat:Int):=by
 unfold cZ IntKind.wrap;simp [IntKind.signed,IntKind.bits];omega
theorem UY:∀(u:Value) (w:World),(callFunc 228 #[u]).run prog w = .ok (.value u) w:=Nf func228 ab ab ab ab
def lT (n:Int) (k:Nat):List UInt8:=(List.range k).map λj=>cZ (n.fdiv (2 ^ (56-8*j)))
theorem UZ (n:Int):lT n 8=bj n:=by
 simp [lT,bj,vT,Int.fdiv_one]
theorem WW (n:Int) (k:Nat):lT n (k+1)=lT n k++[cZ (n.fdiv (2 ^ (56-8*k)))]:=by simp [lT,vT]
theorem U1 (n:Int) (k:Nat):(lT n k).length=k:=by simp [lT]
theorem U2 (l:List Int):(l.flatMap bj).length=l.length*8:=by
 induction l with
 | nil=>rfl
 | cons x r a=>simp only [gd,dG,a,bI,du]; omega
theorem i_ (s:List UInt8):(bM s).length=s.length+1:=rfl
theorem ni:prog.underlying 160=some (.pointer 163):=ab
theorem EB:dI prog 163=some 2:=ab
theorem U3:liesAt prog prog.depth 165 (2 / prog.cellsOf 165) 0 163 1=true:=ab
theorem EC:cx prog 163 0=some 0:=ab
theorem U4:dI prog 160=some 1:=ab
theorem tK:cx prog 163 1=some 1:=ab
theorem HL:dI prog 161=some 1:=ab
theorem xN:cx prog 165 0=some 0:=ab
theorem At:fk prog 161=some 1:=ab
theorem U5:prog.underlying 250=some (.pointer 5):=ab
theorem U6:prog.cellsOf 5=1:=ab
theorem U7:prog.underlying 161=some (.slice 5):=ab
theorem H7 (a:Nat) (q:Option Addr) (v:Value) (w:World) (d:q=none\/q=some ⟨a,0,none⟩) (b:Ws w [a] [ao a (.cells #[.pointer (q),v] 165 (0,0))] [] w) :
   Calls prog 178 #[.pointer (some ⟨a,0,none⟩)] w λe w'=>e = .returned (.tuple #[])/\Ws w [a] [ao a (.cells #[.pointer (some ⟨a,0,none⟩),v] 165 (0,0))] [] w':=by
 refine enter func178 O 20 O O ?_;refine CE b (ag (ad O (I (cJ O) (I (Yf EC O) (I (Yd 0 O O O ab) (I (Ng ni O) (aa ?_)))))));refine Cc O (λc=>?_) (λc=>?_)
 ·obtain rfl:q=none:=by cases q with | none=>rfl | some _=>simp at c
  refine Cr (ad O (ad O (I (Nb 0 ni ab EB O O O) (I (Nd UY O) (I (Nc 0 ab ni EB O (n:=2) O U3 O) (I (cJ O) (I (Yf EC O) ?_)))))));refine aQ 0 Y O O O U4 O O O (Ln ?_);refine E0 O λw' b=>?_;exact ⟨O,b⟩
 obtain rfl:q=some ⟨a,0,none⟩:=by
   rcases d with rfl | h
   · simp at c
   · exact h
 refine ag (ad O (I (cJ O) (I (Yf EC O) (I (Yd 0 O O O ab) (ad O (I (Ni ni EB O O) (aa ?_)))))));refine WC.kg O ?_;refine Ck ?_;refine E0 O λw' b=>?_;exact ⟨O,b⟩
theorem U8 (c:Nat) (q:Option Addr) (v:Value) (a:List UInt8) (b:UInt8) (w:World) (h:q=none\/q=some ⟨c,0,none⟩) (l:a.length+1<=1099511627776) (d:Ws w ([ao c (.cells #[.pointer (q),v] 165 (0,0)),b6 5 1 v (a).length ((a).map dh)].flatMap aW.ids) [ao c (.cells #[.pointer (q),v] 165 (0,0)),b6 5 1 v (a).length ((a).map dh)] [] w) :
   Calls prog 143 #[.pointer (some ⟨c,0,none⟩),.int .u8 (b.toNat:Int)] w λe w'=>∃g:Value,e = .returned (.nilIface)/\True/\Ws w ([ao c (.cells #[.pointer (q),v] 165 (0,0)),b6 5 1 v (a).length ((a).map dh)].flatMap aW.ids) [ao c (.cells #[.pointer (some ⟨c,0,none⟩),g] 165 (0,0)),b6 5 1 g (a++[b]).length ((a++[b]).map dh)] [] w':=by
 refine enter func143 O 17 O O ?_;refine CE d (ag (ak O (aa (ag (ad O (fR [_] _ _ Y O aC O O [] aj (λw d=>H7 c q v w h d) (aa (ag (ad O ?_)))))))));refine ad O (I (cJ O) (I (Yf tK O) (I (Yd 0 O O O ab) (ad O ?_))));refine Lb Y O DH O O O O λm=>?_;refine WL.append 2 Y O DH O O O (news:=[dh b]) O (λw d j u f=>FZ d 0 O (k:=j) f) (λu f=>by simp at f; subst f; rfl) (by unfold maxLen; omega) ae (λn o=>?_);refine WL.yt 2 (a++[b]).length ((a++[b]).map dh) O aj aj ?_;refine WL.F0 2 O λp r s i=>?_;subst i;refine I (cJ O) (I (Yf tK O) (aQ 1 Y O O O HL O O O (aa (ag (ak O (aa (a7 ?_)))))));refine R1 O O λw' d=>?_;exact ⟨_,O,trivial,Wd 1 d⟩
theorem U9 (b:Nat) (q:Option Addr) (v:Value) (a:List UInt8) (s:List UInt8) (w:World) (f:q=none\/q=some ⟨b,0,none⟩) (h:a.length+s.length<=1099511627776) (c:Ws w ([ao b (.cells #[.pointer (q),v] 165 (0,0)),b6 5 1 v (a).length ((a).map dh)].flatMap aW.ids) [ao b (.cells #[.pointer (q),v] 165 (0,0)),b6 5 1 v (a).length ((a).map dh)] [] w) :
   Calls prog 142 #[.pointer (some ⟨b,0,none⟩),st s] w λe w'=>∃d:Value,e = .returned (.tuple #[.int .i64 s.length,.nilIface])/\True/\Ws w ([ao b (.cells #[.pointer (q),v] 165 (0,0)),b6 5 1 v (a).length ((a).map dh)].flatMap aW.ids) [ao b (.cells #[.pointer (some ⟨b,0,none⟩),d] 165 (0,0)),b6 5 1 d (a++s).length ((a++s).map dh)] [] w':=by
 refine enter func142 O 19 O O ?_;refine CE c (ag (ak O (ak O (aa (ag (ad O (fR [_] _ _ Y O aC O O [] aj (λw c=>H7 b q v w f c) (aa (ag ?_)))))))));refine ad O (ad O (I (cJ O) (I (Yf tK O) (I (Yd 0 O O O ab) (ad O ?_)))));refine WL.Nn 1 Y O DH ab O O O ae (λi j=>?_);refine WL.yt 1 (a++s).length ((a++s).map dh) O aj aj ?_;refine WL.F0 1 O λk l m g=>?_;subst g;refine I (cJ O) (I (Yf tK O) (aQ 0 Y O O O HL O O O (aa (ag (ad O (I (nK ab O) (ak O (ak O ?_))))))));refine aa (a7 ?_);refine WE.gZ O O O λw' c=>?_;exact ⟨_,O,trivial,c⟩
theorem vx (b:Nat) (q:Option Addr) (v:Value) (a:List UInt8) (n:Int) (w:World) (f:q=none\/q=some ⟨b,0,none⟩) (g:a.length+1<=1099511627776) (c:Ws w ([ao b (.cells #[.pointer (q),v] 165 (0,0)),b6 5 1 v (a).length ((a).map dh)].flatMap aW.ids) [ao b (.cells #[.pointer (q),v] 165 (0,0)),b6 5 1 v (a).length ((a).map dh)] [] w) :
   Calls prog 82 #[.pointer (some ⟨b,0,none⟩),.int .i64 n] w λe w'=>∃d:Value,e = .returned (.tuple #[])/\True/\Ws w ([ao b (.cells #[.pointer (q),v] 165 (0,0)),b6 5 1 v (a).length ((a).map dh)].flatMap aW.ids) [ao b (.cells #[.pointer (some ⟨b,0,none⟩),d] 165 (0,0)),b6 5 1 d (a++[cZ n]).length ((a++[cZ n]).map dh)] [] w':=by
 refine enter func82 O 10 O O ?_;refine CE c (Cr (ad O (I (cJ O) (I (Yf xN O) (ad O (I (hF hW u0 O) ?_))))))
 refine Lw (ι:=Value) [_,_] _ Y O aC O O (λ_=>.nilIface) (λd=>[ao b (.cells #[.pointer (some ⟨b,0,none⟩),d] 165 (0,0)),b6 5 1 d (a++[cZ n]).length ((a++[cZ n]).map dh)]) (λ_=>True) [] aj (λw c=>by
     have:=U8 b q v a (cZ n) w f g c;rw [<-wrap_u8] at this
     exact this) ?_
 intro h _;refine Ln ?_;refine E0 O λw' c=>?_;exact ⟨_,O,trivial,c⟩
theorem Au (b:Nat) (q:Option Addr) (v:Value) (a:List UInt8) (s:List UInt8) (w:World) (f:q=none\/q=some ⟨b,0,none⟩) (i:a.length+s.length+1<=1099511627776) (c:Ws w ([ao b (.cells #[.pointer (q),v] 165 (0,0)),b6 5 1 v (a).length ((a).map dh)].flatMap aW.ids) [ao b (.cells #[.pointer (q),v] 165 (0,0)),b6 5 1 v (a).length ((a).map dh)] [] w) :
   Calls prog 80 #[.pointer (some ⟨b,0,none⟩),st s] w λe w'=>∃d:Value,e = .returned (.tuple #[])/\True/\Ws w ([ao b (.cells #[.pointer (q),v] 165 (0,0)),b6 5 1 v (a).length ((a).map dh)].flatMap aW.ids) [ao b (.cells #[.pointer (some ⟨b,0,none⟩),d] 165 (0,0)),b6 5 1 d (a++bM s).length ((a++bM s).map dh)] [] w':=by
 refine enter func80 O 13 O O ?_;refine CE c (ag (ad O (ad O (I (nK ab O) ?_))));refine Lw [_,_] _ Y O aC O O _ _ _ [] aj (λw c=>vx b q v a s.length w f ae c) ?_;intro g _;refine aa (Cr (ad O (I (cJ O) (I (Yf xN O) (ad O ?_)))));refine Lw (ι:=Value) [_,_] _ Y O aC O O (λ_=>.tuple #[.int .i64 s.length,.nilIface]) (λd=>[ao b (.cells #[.pointer (some ⟨b,0,none⟩),d] 165 (0,0)),b6 5 1 d (a++[cZ s.length]++s).length ((a++[cZ s.length]++s).map dh)]) (λ_=>True) [] aj (λw c=>U9 b (some ⟨b,0,none⟩) g (a++[cZ s.length]) s w (.inr O) (by simp; omega) c) ?_;intro h _;refine Ln ?_;refine E0 O λw' c=>?_;refine ⟨h,O,trivial,?_⟩
 have e:a++bM s=a++[cZ s.length]++s:=by simp [bM]
 rw [e];exact c
theorem Lq (b:Nat) (q:Option Addr) (v:Value) (a:List UInt8) (f:a≠[]) (w:World) (j:q=none\/q=some ⟨b,0,none⟩) (k:a.length+1<=1099511627776) (c:Ws w ([ao b (.cells #[.pointer (q),v] 165 (0,0)),b6 5 1 v (a).length ((a).map dh)].flatMap aW.ids) [ao b (.cells #[.pointer (q),v] 165 (0,0)),b6 5 1 v (a).length ((a).map dh)] [] w) :
   Calls prog 84 #[.pointer (some ⟨b,0,none⟩)] w λe w'=>e = .returned (st a)/\Ws w ([ao b (.cells #[.pointer (q),v] 165 (0,0)),b6 5 1 v (a).length ((a).map dh)].flatMap aW.ids) [] [] w':=by
 have g:0<a.length:=Fg.2 f;refine enter func84 O 14 O O ?_;refine CE c (ag (ak O (aa (Cs ?_))));refine WC.shape 1 O g λl m i n o=>?_;subst i;refine WC.lu 1 [(0,true),(1,true),(2,true),(3,true),(5,true),(6,true),(7,true),(8,true),(9,true),(4,false),(10,false),(11,true)] mixed ab (λ_ _ _ d _ h=>by cases d<;>exact h) ?_;refine D0 O (Wp 1) (Ym O) (D0 O (Wp 1) (cJ O) (D0 O (Wp 1) (Yf tK O) (D0 O (Wp 1) (Yd 0 O O O ab) (D0 O (Wp 1) (Ym O) (D0 O (Wp 1) (cJ O) (D0 O (Wp 1) (Yf tK O) (D0 O (Wp 1) (Yd 0 O O O ab) ?_)))))));refine D0 O (Wp 1) (Yn At O) ?_;refine De O (Wp 1) ?_;refine I (Nk ae O) (Ln (Ed ?_));refine De O (Wp 1) ?_;refine WL.No 1 Y O U5 U6 O O O O f ae ?_;refine Ln (Ed (D0 O (Wp 1) (Ya O) ?_));refine WD.nil (Wp 1) ?_;refine Et (a7 ?_);refine R1 O O λw' c=>?_;exact ⟨O,Wd 1 c⟩
theorem U' (b:Nat) (q:Option Addr) (v:Value) (a:List UInt8)  (w:World) (f:q=none\/q=some ⟨b,0,none⟩) (g:a.length+0<=1099511627776) (c:Ws w ([ao b (.cells #[.pointer (q),v] 165 (0,0)),b6 5 1 v (a).length ((a).map dh)].flatMap aW.ids) [ao b (.cells #[.pointer (q),v] 165 (0,0)),b6 5 1 v (a).length ((a).map dh)] [] w) :
   Calls prog 83 #[.pointer (some ⟨b,0,none⟩)] w λe w'=>e = .returned (.int .i64 (a.length:Int))/\Ws w ([ao b (.cells #[.pointer (q),v] 165 (0,0)),b6 5 1 v (a).length ((a).map dh)].flatMap aW.ids) [ao b (.cells #[.pointer (q),v] 165 (0,0)),b6 5 1 v (a).length ((a).map dh)] [] w':=by
 refine enter func83 O 8 O O ?_;refine CE c (ag (ak O (aa (ag (ad O (I (cJ O) (I (Yf tK O) (I (Yd 0 O O O ab) ?_))))))));refine WL.Bq 1 O λh i d=>?_;subst d;refine I (Yn At O) (ak O (aa (a7 ?_)));refine R1 O O λw' c=>?_;exact ⟨O,c⟩
theorem qb (f:View) (a:Option Addr) (c:Nat) (l:List Int) (d:Nat) (q:Option Addr) (v:Value) (b:List UInt8) (w:World) (j:Sl qC 1 f a c l) (A:q=none\/q=some ⟨d,0,none⟩) (F:b.length+l.length*8<=1099511627776) (i:Ws w ([ao d (.cells #[.pointer (q),v] 165 (0,0)),b6 5 1 v (b).length ((b).map dh)].flatMap aW.ids) [ao d (.cells #[.pointer (q),v] 165 (0,0)),b6 5 1 v (b).length ((b).map dh)] [f] w) :
   Calls prog 81 #[.pointer (some ⟨d,0,none⟩),.slice a l.length c] w λe w'=>∃r:Option Addr×Value,e = .returned (.tuple #[])/\(r.1=none\/r.1=some ⟨d,0,none⟩)/\Ws w ([ao d (.cells #[.pointer (q),v] 165 (0,0)),b6 5 1 v (b).length ((b).map dh)].flatMap aW.ids) [ao d (.cells #[.pointer (r.1),r.2] 165 (0,0)),b6 5 1 r.2 (b++l.flatMap bj).length ((b++l.flatMap bj).map dh)] [f] w':=by
 have G:=j.cap;have H:=j.max;refine enter func81 O 23 O O ?_;refine CE i (ag (ad O (I (Yn iH O) (ad O (aa (Cb ?_))))));refine dc (ι:=Nat×Option Addr×Value) (λg=>[(9,.int .i64 (g.1:Int))]) [(0,_),(7,_),(8,_)] (λg=>Ws w ([ao d (.cells #[.pointer (q),v] 165 (0,0)),b6 5 1 v (b).length ((b).map dh)].flatMap aW.ids) [ao d (.cells #[.pointer (g.2.1),g.2.2] 165 (0,0)),b6 5 1 g.2.2 (b++(l.take g.1).flatMap bj).length ((b++(l.take g.1).flatMap bj).map dh)] [f]) (λg=>g.1<=l.length/\(g.2.1=none\/g.2.1=some ⟨d,0,none⟩)) (λg=>l.length-g.1) (0,q,v) ⟨cq _,A⟩ (λ_ h=>by simpa using h) ?_;intro g ⟨hi,s⟩;refine ag (I (ai O O) (aa (Cs ?_)));refine Cc O (λm=>?_) (λm=>?_)
 ·have B:g.1<l.length:=by simpa using m
  obtain ⟨x,t⟩:=cg B;obtain ⟨pb,C,D,n⟩:=j.bT g.1 x t;have n:bR f pb (C+g.1*1) (e8 x):=n;refine bk (Cs (Cb (ag (I (Yo iH O O D ae) (I (cu 0 ab O O (n 0 _ O)) (ak O (aa (ag (ak O (aa (Cb ?_)))))))))));refine dc (ι:=Nat×Option Addr×Value) (λk=>[(6,.int .i64 (56-8*(k.1:Int)))]) [(0,_),(5,_),(7,_),(8,_),(9,_)] (λk=>Ws w ([ao d (.cells #[.pointer (q),v] 165 (0,0)),b6 5 1 v (b).length ((b).map dh)].flatMap aW.ids) [ao d (.cells #[.pointer (k.2.1),k.2.2] 165 (0,0)),b6 5 1 k.2.2 (b++(l.take g.1).flatMap bj++lT x k.1).length ((b++(l.take g.1).flatMap bj++lT x k.1).map dh)] [f]) (λk=>k.1<=8/\(k.2.1=none\/k.2.1=some ⟨d,0,none⟩)) (λk=>8-k.1) (0,g.2.1,g.2.2) ⟨cq _,s⟩ (λ_ h=>by simpa [lT] using h) ?_;intro k ⟨J,u⟩;refine Cs (ag (ad O (I (gw O O) (aa ?_))));refine Cc O (λo=>?_) (λo=>?_)
  ·have y:k.1<8:=by simp at o; omega
   refine bk (Cs (Cb (Cr (ad O (ad O (ad O (I (Nj O O ae) ?_)))))))
   refine Lw (ι:=Value) [_,_] _ Y O aC O O (λ_=>.tuple #[]) (λz=>[ao d (.cells #[.pointer (some ⟨d,0,none⟩),z] 165 (0,0)),b6 5 1 z (b++(l.take g.1).flatMap bj++lT x k.1++[cZ (x.fdiv (2 ^ (56-8*k.1)))]).length ((b++(l.take g.1).flatMap bj++lT x k.1++[cZ (x.fdiv (2 ^ (56-8*k.1)))]).map dh)]) (λ_=>True) [] aj (λw i=>by
       have:=vx d k.2.1 k.2.2 (b++(l.take g.1).flatMap bj++lT x k.1) (x.fdiv (2 ^ (56-8*k.1))) w u (by simp only [dG,U2,U1,jh,gf]; omega) i
       have e:min (56-8*(k.1:Int)).toNat IntKind.i64.bits=56-8*k.1:=by simp [IntKind.bits]; omega
       rw [e]
       exact this) ?_
   intro p _;refine Ln (Eb (Et (Cr (ad O (I (po (56-8*((k.1+1:Nat):Int)) O O ae ae) (ak O (Ln ?_)))))))
   exact b8 ((k.1+1,some ⟨d,0,none⟩,p):Nat×Option Addr×Value) (by first | omega | (dsimp only; omega)) ⟨by first | omega | (dsimp only; omega),.inr O⟩ (λ_ h=>by
     have e:=WW x k.1
     show Ws _ _ [ao d (.cells #[.pointer (some ⟨d,0,none⟩),p] 165 (0,0)),b6 5 1 p (b++(l.take g.1).flatMap bj++lT x (k.1+1)).length ((b++(l.take g.1).flatMap bj++lT x (k.1+1)).map dh)] _ _
     rw [e,<-et]
     exact h)
  have y:k.1=8:=by simp at o; omega
  refine Ce (Ex (Ex (cB (Eb (Et (Cr (I (Yi O O O ae) (ad O (Ln ?_)))))))))
  exact b8 ((g.1+1,k.2.1,k.2.2):Nat×Option Addr×Value) (by first | omega | (dsimp only; omega)) ⟨by first | omega | (dsimp only; omega),u⟩ (λ_ h=>by
    have e:b++(l.take g.1).flatMap bj++lT x k.1=b++(l.take (g.1+1)).flatMap bj:=by
      rw [y,UZ,aZ,t]; simp
    rw [e] at h
    exact h)
 have E:g.1=l.length:=by simp at m; omega
 refine Ce (Ex (Ex (cB ?_)));refine E0 O λw' i=>?_;rw [E,ew] at i;exact ⟨(g.2.1,g.2.2),O,s,i⟩
def ht:List PanicEntry:=[⟨.iface 278 (.agg #[]),false,false⟩]
theorem U_ {s:List UInt8} {r:Int×List UInt8} (h:j9 s=some r):0<=r.1/\r.1<256:=by
 cases s with
 | nil=>cases h
 | cons x q=>simp only [j9] at h; injection h with h; subst h; have:=x.toNat_lt; simp; omega
theorem qO {s:List UInt8} {r:Int×List UInt8} (h:j9 s=some r):r.2.length<=s.length:=by
 cases s with
 | nil=>cases h
 | cons x q=>simp only [j9] at h; injection h with h; subst h; simp
theorem kO {s:List UInt8} {r:List UInt8×List UInt8} (h:ib s=some r):r.2.length<=s.length:=by
 cases s with
 | nil=>cases h
 | cons x q=>simp only [ib] at h; split at h; cases h; injection h with h; subst h; simp; omega
theorem cD {s:List UInt8} {r:Int×List UInt8} (h:eR s=some r):r.2.length<=s.length:=by
 unfold eR at h; split at h; cases h; injection h with h; subst h; simp
theorem vy:cx prog 229 0=some 0:=ab
theorem Lr:gx prog 278=some []:=ab
theorem Ls:zeroOf prog 278=some (.agg #[]):=ab
theorem Lt:prog.concrete 278=true:=ab
theorem ED (a:Nat) (s:List UInt8) (n:Nat) (w:World) (f:s.length<=9223372036854775807) (b:Ws w [a] [ao a (.cells #[st (s)] 229 (0,0))] [] w)  :
   Calls prog 131 #[.pointer (some ⟨a,0,none⟩),.int .i64 (n:Int)] w λe w'=>(∃r:List UInt8×List UInt8,e = .returned (st r.1)/\(if s.length<n then none else some (s.take n,s.drop n))=some r/\Ws w [a] [ao a (.cells #[st (r.2)] 229 (0,0))] [] w')\/(∃t:List UInt8,e = .panicked ht/\(if s.length<n then none else some (s.take n,s.drop n))=none/\Ws w [a] [ao a (.cells #[st (t)] 229 (0,0))] [] w'):=by
 refine enter func131 O 31 O O ?_;refine CE b (ag (ak O (aa (Cs (ag (ad O (ad O (I (cJ O) (I (Yf vy O) ?_)))))))));refine I (Yd 0 O O O ab) (I (nK ab O) (I (dO O O) (aa ?_)));refine Cc O (λc=>?_) (λc=>?_)
 ·have d:s.length<n:=by simpa using c
  refine Cr (I (Yb Ls Lr O O) (I (nO Lt O) ?_));refine WL.panic Y O ?_;refine Ep ?_;refine bU λw' b=>?_;exact .inr ⟨s,O,by rw [if_pos d],b⟩
 have d:¬s.length<n:=by simpa using c
 refine bk (ag (ad O (I (cJ O) (I (Yf vy O) (I (Yd 0 O O O ab) (ad O (I (Bu ab O O ae ae) (ak O ?_))))))));refine aa (ag (ad O (ad O (I (cJ O) (I (Yf vy O) (I (Yd 0 O O O ab) (ad O (I (yB ab O O ae ae) ?_))))))));refine I (cJ O) (I (Yf vy O) (aQ 0 Y O O O vd O O O (aa (ag (ad O (ak O (aa (a7 ?_))))))));refine R1 O O λw' b=>?_;exact .inl ⟨(s.take n,s.drop n),O,by rw [if_neg d],b⟩
theorem xO (a:Nat) (s:List UInt8)  (w:World) (d:s.length<=9223372036854775807) (b:Ws w [a] [ao a (.cells #[st (s)] 229 (0,0))] [] w) :
   Calls prog 58 #[.pointer (some ⟨a,0,none⟩)] w λe w'=>(∃r:Int×List UInt8,e = .returned (.int .i64 r.1)/\j9 s=some r/\Ws w [a] [ao a (.cells #[st (r.2)] 229 (0,0))] [] w')\/(∃t:List UInt8,e = .panicked ht/\j9 s=none/\Ws w [a] [ao a (.cells #[st (t)] 229 (0,0))] [] w'):=by
 refine enter func58 O 7 O O ?_;refine CE b (ag (ak O (aa (ag (ad O ?_)))));refine dk [_] _ Y O aC O O _ _ _ _ _ _ ([]) aj (λw b=>ED a (s) 1 w d b) ?_ ?_
 ·intro t f;refine Ep ?_;refine bU λw' b=>?_;exact .inr ⟨t,O,(by cases s with | nil=>rfl | cons x q=>simp at f),b⟩
 intro r c
 obtain ⟨x,q,rfl⟩:∃x q,s=x::q:=by
   cases s with
   | nil=>simp at c
   | cons x q=>exact ⟨x,q,rfl⟩
 obtain rfl:r=([x],q):=by simp at c; exact c.symm
 refine I (sI ab O O (u:=x) O) (I (hF u0 hW O) (ak O (aa (a7 ?_))));refine R1 O O λw' b=>?_;refine .inl ⟨((x.toNat:Int),q),?_,O,b⟩;rw [show IntKind.i64.wrap (x.toNat:Int)=(x.toNat:Int) from yj (by have:=x.toNat_lt; omega)]
theorem Av (a:Nat) (s:List UInt8)  (w:World) (f:s.length<=9223372036854775807) (b:Ws w [a] [ao a (.cells #[st (s)] 229 (0,0))] [] w) :
   Calls prog 53 #[.pointer (some ⟨a,0,none⟩)] w λe w'=>(∃r:List UInt8×List UInt8,e = .returned (st r.1)/\ib s=some r/\Ws w [a] [ao a (.cells #[st (r.2)] 229 (0,0))] [] w')\/(∃t:List UInt8,e = .panicked ht/\ib s=none/\Ws w [a] [ao a (.cells #[st (t)] 229 (0,0))] [] w'):=by
 refine enter func53 O 7 O O ?_;refine CE b (ag (ak O (aa (ag (ad O (ad O ?_))))));refine dk [_] _ Y O aC O O _ _ _ _ _ _ ([]) aj (λw b=>xO a (s)  w f b) ?_ ?_
 ·intro t d;refine Ep ?_;refine bU λw' b=>?_;exact .inr ⟨t,O,(by cases s with | nil=>rfl | cons x q=>cases d),b⟩
 intro r c
 obtain ⟨x,q,rfl⟩:∃x q,s=x::q:=by
   cases s with
   | nil=>cases c
   | cons x q=>exact ⟨x,q,rfl⟩
 obtain rfl:r=((x.toNat:Int),q):=by simp only [j9] at c; injection c with c; exact c.symm
 refine dk (ι:=List UInt8×List UInt8) (κ:=List UInt8) [_] _ Y O aC O O (λr=>st r.1) (λr=>[ao a (.cells #[st (r.2)] 229 (0,0))]) (λr=>(if q.length<x.toNat then none else some (q.take x.toNat,q.drop x.toNat))=some r) (λ_=>ht) (λt=>[ao a (.cells #[st (t)] 229 (0,0))]) (λ_=>(if q.length<x.toNat then none else some (q.take x.toNat,q.drop x.toNat))=none) ([]) aj (λw b=>ED a (q) x.toNat w (by simp at f; omega) b) ?_ ?_
 ·intro t d;refine Ep ?_;refine bU λw' b=>?_;exact .inr ⟨t,O,d,b⟩
 intro r c;refine ak O (aa (a7 ?_));refine R1 O O λw' b=>?_;exact .inl ⟨r,O,c,b⟩
theorem qc (a:Nat) (s:List UInt8)  (w:World) (m:s.length<=9223372036854775807) (c:Ws w [a] [ao a (.cells #[st (s)] 229 (0,0))] [] w) :
   Calls prog 55 #[.pointer (some ⟨a,0,none⟩)] w λe w'=>(∃r:Int×List UInt8,e = .returned (.int .i64 r.1)/\eR s=some r/\Ws w [a] [ao a (.cells #[st (r.2)] 229 (0,0))] [] w')\/(∃t:List UInt8,e = .panicked ht/\eR s=none/\Ws w [a] [ao a (.cells #[st (t)] 229 (0,0))] [] w'):=by
 refine enter func55 O 21 O O ?_;refine CE c (ag (ak O (aa (ag (ak O (aa (Cs (ag (ad O ?_)))))))));refine dk [_] _ Y O aC O O _ _ _ _ _ _ ([]) (by simp) (λw c=>ED a (s) 8 w m c) ?_ ?_
 ·intro t g;refine Ep (Ep ?_);refine bU λw' c=>?_;exact .inr ⟨t,O,(by unfold eR; split; rfl; rename_i h; rw [if_neg h] at g; cases g),c⟩
 intro r d
 have j:¬s.length<8:=by intro h; rw [if_pos h] at d; cases d
 rw [if_neg j] at d;obtain ⟨q,u⟩:=r
 injection d with d
 injection d with k o
 have y:q.length=8:=by rw [<-k]; simp; omega
 dsimp only;refine WL.NB Y O ab U7 u0 O λz A B=>?_;refine I (Yn At O) (ad O (aa (Cb ?_)));refine bV (ι:=Nat) (λi=>[(10,.int .i64 (i:Int)),(3,.int .i64 (numOf (q.take i)))]) [(2,_),(8,_),(9,_)] (λi=>i<=8) (λi=>8-i) 0 (cq _) ?_;intro i hi;refine ag (I (ai O O) (aa (Cs ?_)));refine Cc O (λf=>?_) (λf=>?_)
 ·have C:i<8:=by simp at f; omega
  obtain ⟨x,l⟩:∃x,q[i]? = some x:=⟨_,dL (by omega)⟩;refine bk (Cs (Cb (ag (I (FD At O O (by omega)) ?_))));refine I (Yd 0 O O (v:=dh x) (by simp only [gQ,cj,Nat.mul_one]; rw [ql (by simp; omega)]; simp [l]) ab) ?_;refine ak O (aa (Cr (ad O (I (Ny 8 O O (by decide)) (ad O (I (hF u0 hW O) (I (NA (n:=numOf (q.take i)) (b:=x.toNat) O (by rw [show IntKind.i64.wrap (x.toNat:Int)=(x.toNat:Int) from yj (by have:=x.toNat_lt; omega)]; rfl) (x.toNat_lt)) (ak O ?_))))))));refine Ln (Eb (Et (Cr (I (Yi O O O (by omega)) (ad O (Ln ?_))))));rw [show IntKind.i64.wrap (numOf (q.take i)*256+(x.toNat:Nat))=numOf (q.take (i+1)) by rw [aZ,l]; simp [numOf]];exact b8 (i+1) (by omega) (by omega) (λ_ h=>h)
 have p:i=8:=by simp at f; omega
 refine Ce (Ex (Ex (cB (Et (ag (ad O (ak O (aa (a7 ?_)))))))));refine R1 O O λw' c=>?_;subst p;exact .inl ⟨(numOf q,u),by rw [kF (by omega)],by rw [eR,if_neg j,k,o],Wd 1 c⟩
theorem Lu {c:List bA} {x:Int} {p:Nat} {y:bA} (h:x.toNat=p) (b:c[p]? = some y):j8 c x=y.a:=by unfold j8; rw [h,b]; rfl
theorem Aw {α β:Type} {f:α->List β} {l:List α} {i:Nat} {x:α} (h:l[i]? = some x):(l.take (i+1)).flatMap f=(l.take i).flatMap f++f x:=by
 rw [aZ,h]; simp
theorem Kc:cx prog 108 2=some 2:=ab
theorem ri {b:Nat} {T:TypeId} {a:Nat×Nat} (l:List Int) (f:l.length<=2):Sl qC 1 (bv b (.cells (l.flatMap e8).toArray T a)) (some ⟨b,0,none⟩) l.length l:=
 ⟨dp _,ae,aj,λi y d=>⟨b,0,rfl,λk u c=>Np (by
   have e:k<1:=(cf.1 c).1
   show gQ (.cells (l.flatMap e8).toArray T a) (0+i*1+k)=some u
   simp only [gQ,Fu,cj];rw [qv y4 d e]
   exact c)⟩⟩
theorem Kk:gx prog 165=some [(0,2)]:=ab
theorem Lx:zeroOf prog 165=some (.agg #[.pointer none,.slice none 0 0]):=ab
theorem Va (f:View) (o:bD) (q:iZ) (w:World) (an:Le f w) (i:ld f q o) :
   Calls prog 27 #[.agg (gS o q).toArray] w λe w'=>e = .returned (.tuple #[st (kN o).1,.int .i64 (kN o).2])/\Ext w w':=by
 have aM:=i.aq.cap;have aN:=i.aq.max;have aO:=i.code.cap;have aP:=i.code.max;have aR:=i.fix.cap;have aS:=i.fix.max;have aT:=i.aw.cap;have aU:=i.aw.max;have aV:=i.aw;refine enter func27 O 119 O O ?_;refine CE (Vs:=[f]) (Ws.init (by simp [an])) (ag ?_);refine WL.box Y O O λB=>?_;refine ak O (ak O (aa (Cs (ag (I (cc 0 O O iI O) (Lp Y O aC O (λw d=>EA f o q w d.V i) (ak O (aa (ag (ad O ?_))))))))));refine I (fz O O) (aa ?_);refine Cc O (λC=>?_) (λC=>?_)
 ·have u:¬fw o=0:=by simpa using C
  refine ag (ad O (ak O (ak O (aa (a7 (Er ?_))))));refine WE.gZ O O O λw' d=>?_;exact ⟨by rw [kN,if_neg u]; rfl,d.fr⟩
 have u:fw o=0:=by simpa using C
 have j:=iM u;have aW:=j.aq;have aX:=j.fix;have aY:=j.aw;have aZ:=j.nm;have ap:=j.us o.aq.length;rw [ew] at ap;have ar:=j.co o.code.length;rw [ew] at ar;have au:=j.fx o.fix.length;rw [ew] at au;have ay:=j.en o.aw.length;rw [ew] at ay;refine bk (ag (I (Yb Lx Kk O O) ?_));refine WL.box Y O O λc=>?_;refine LW (λ_ h=>h.eM 5 1) (ak O (aa (ag (ad O (I (Yf xJ O) (I (Yd 2 O O O ab) (Lf 1 O ?_)))))));refine Lw (ι:=Value) [_,_] _ Y O aC O O (λ_=>.tuple #[]) (λl=>[ao c (.cells #[.pointer (some ⟨c,0,none⟩),l] 165 (0,0)),b6 5 1 l (bM o.nm).length ((bM o.nm).map dh)]) (λ_=>True) [] aj (λw d=>Au c none (.slice none 0 0) [] o.nm w Y (by simp; omega) d) ?_;intro az _;refine aa (ag (ad O (I (Yf sq O) (I (Yd 2 O O O ab) (I (Yn dy O) ?_)))));refine Lb Y O h2 O O O O λD=>?_;refine cF 0 (.cells (([(o.aq.length:Int)]:List Int).flatMap e8).toArray 3 (0,0)) O O ?_;refine WL.lv 0 O ?_;refine Lw (ι:=Option Addr×Value) [_,_] _ Y O aC O O (λ_=>.tuple #[]) (λr=>[ao c (.cells #[.pointer (r.1),r.2] 165 (0,0)),b6 5 1 r.2 (bM o.nm++[(o.aq.length:Int)].flatMap bj).length ((bM o.nm++[(o.aq.length:Int)].flatMap bj).map dh)]) (λr=>r.1=none\/r.1=some ⟨c,0,none⟩) [bv D (.cells (([(o.aq.length:Int)]:List Int).flatMap e8).toArray 3 (0,0))] aj (λw d=>qb (bv D (.cells (([(o.aq.length:Int)]:List Int).flatMap e8).toArray 3 (0,0))) (some ⟨D,0,none⟩) 1 [(o.aq.length:Int)] c (some ⟨c,0,none⟩) az (bM o.nm) w (ri _ aj) (.inr O) (by simp only [dG,i_,bI,gf,gd,kG,du,eT,h3]; omega) d) ?_;intro S aA;refine aa (Cs (ag (I (Yf sq O) (I (Yd 2 O O O ab) (I (Yn dy O) (ad O (aa (Cb ?_))))))))
 refine dc (ι:=Nat×Option Addr×Value) (λg=>[(32,.int .i64 (g.1:Int))]) [(1,_),(2,_),(3,_),(5,_),(30,_),(31,_)] (λg=>Ws w [] ([ao c (.cells #[.pointer (g.2.1),g.2.2] 165 (0,0)),b6 5 1 g.2.2 (bM o.nm++[(o.aq.length:Int)].flatMap bj++(o.aq.take g.1).flatMap bM).length ((bM o.nm++[(o.aq.length:Int)].flatMap bj++(o.aq.take g.1).flatMap bM).map dh)]++[ao B (.cells (gS o q).toArray 56 (0,0))]) [f]) (λg=>g.1<=o.aq.length/\(g.2.1=none\/g.2.1=some ⟨c,0,none⟩)) (λg=>o.aq.length-g.1) ((0,S.1,S.2):Nat×Option Addr×Value) ⟨cq _,aA⟩ (λ_ h=>by
   have h:=Ws.av h (b3:=[f]) aj;simp only [yd,kG,h3]
   exact h) ?_
 intro g ⟨T,s⟩;refine ag (I (ai O O) (aa (Cs ?_)));refine Cc O (λE=>?_) (λE=>?_)
 ·have k:g.1<o.aq.length:=by simpa using E
  obtain ⟨x,p⟩:=cg k;obtain ⟨v,y,z,n⟩:=i.aq.bT g.1 x p;have n:bR f v (y+g.1*1) (c' x):=n;have U:=j.us g.1;have a0:=j.un x (ax p);refine bk (Cs (Cb (ag (I (Yo dy O O z k) (I (cu 0 ab O O (n 0 _ O)) (ak O (aa (Cr (ad O (ad O ?_))))))))));refine Lw (ι:=Value) [_,_] _ Y O aC O O (λ_=>.tuple #[]) (λl=>[ao c (.cells #[.pointer (some ⟨c,0,none⟩),l] 165 (0,0)),b6 5 1 l (bM o.nm++[(o.aq.length:Int)].flatMap bj++(o.aq.take g.1).flatMap bM++bM x).length ((bM o.nm++[(o.aq.length:Int)].flatMap bj++(o.aq.take g.1).flatMap bM++bM x).map dh)]) (λ_=>True) [] aj (λw d=>Au c (g.2.1) g.2.2 (bM o.nm++[(o.aq.length:Int)].flatMap bj++(o.aq.take g.1).flatMap bM) x w s (by simp only [dG,i_,bI,gf,gd,kG,du,eT,h3]; omega) d) ?_;intro aB _;refine Ln (Eb (Et (Cr (I (Yi O O O ae) (ad O (Ln ?_))))))
  exact b8 ((g.1+1,some ⟨c,0,none⟩,aB):Nat×Option Addr×Value) (by show _-(g.1+1)<_; omega) ⟨(by show g.1+1<=_; omega),.inr O⟩ (λ_ h=>by
    have h:=Ws.av h (b3:=[f]) aj
    have e:bM o.nm++[(o.aq.length:Int)].flatMap bj++(o.aq.take g.1).flatMap bM++bM x=bM o.nm++[(o.aq.length:Int)].flatMap bj++(o.aq.take (g.1+1)).flatMap bM:=by rw [Aw p]; simp [eY,f_]
    rw [e] at h
    exact h)
 have A:g.1=o.aq.length:=by simp at E; omega
 rw [A,ew];refine Ce (Ex (Ex (cB (Et (ag (ad O (I (Yf xK O) (I (Yd 2 O O O ab) (I (Yf ll O) (I (Yd 2 O O O ab) (I (Yn ju O) ?_)))))))))));refine Lb Y O h2 O O O O λF=>?_;refine cF 0 (.cells (([o.data,(o.code.length:Int)]:List Int).flatMap e8).toArray 3 (0,0)) O O ?_;refine WL.lv 0 O ?_;refine Lw (ι:=Option Addr×Value) [_,_] _ Y O aC O O (λ_=>.tuple #[]) (λr=>[ao c (.cells #[.pointer (r.1),r.2] 165 (0,0)),b6 5 1 r.2 (bM o.nm++[(o.aq.length:Int)].flatMap bj++o.aq.flatMap bM++[o.data,(o.code.length:Int)].flatMap bj).length ((bM o.nm++[(o.aq.length:Int)].flatMap bj++o.aq.flatMap bM++[o.data,(o.code.length:Int)].flatMap bj).map dh)]) (λr=>r.1=none\/r.1=some ⟨c,0,none⟩) [bv F (.cells (([o.data,(o.code.length:Int)]:List Int).flatMap e8).toArray 3 (0,0))] aj (λw d=>qb (bv F (.cells (([o.data,(o.code.length:Int)]:List Int).flatMap e8).toArray 3 (0,0))) (some ⟨F,0,none⟩) 2 [o.data,(o.code.length:Int)] c (g.2.1) g.2.2 (bM o.nm++[(o.aq.length:Int)].flatMap bj++o.aq.flatMap bM) w (ri _ aj) s (by simp only [dG,i_,bI,gf,gd,kG,du,eT,h3]; omega) d) ?_;intro W aD;refine aa (Cs (ag (I (Yf ll O) (I (Yd 2 O O O ab) (I (Yn ju O) (ad O (aa (Cb ?_))))))))
 refine dc (ι:=Nat×Option Addr×Value) (λg=>[(51,.int .i64 (g.1:Int))]) [(1,_),(2,_),(3,_),(5,_),(49,_),(50,_)] (λg=>Ws w [] ([ao c (.cells #[.pointer (g.2.1),g.2.2] 165 (0,0)),b6 5 1 g.2.2 (bM o.nm++[(o.aq.length:Int)].flatMap bj++o.aq.flatMap bM++[o.data,(o.code.length:Int)].flatMap bj++(o.code.take g.1).flatMap eY).length ((bM o.nm++[(o.aq.length:Int)].flatMap bj++o.aq.flatMap bM++[o.data,(o.code.length:Int)].flatMap bj++(o.code.take g.1).flatMap eY).map dh)]++[ao B (.cells (gS o q).toArray 56 (0,0))]) [f]) (λg=>g.1<=o.code.length/\(g.2.1=none\/g.2.1=some ⟨c,0,none⟩)) (λg=>o.code.length-g.1) ((0,W.1,W.2):Nat×Option Addr×Value) ⟨cq _,aD⟩ (λ_ h=>by
   have h:=Ws.av h (b3:=[f]) aj;simp only [yd,kG,h3]
   exact h) ?_
 intro g ⟨T,s⟩;refine ag (I (ai O O) (aa (Cs ?_)));refine Cc O (λG=>?_) (λG=>?_)
 ·have k:g.1<o.code.length:=by simpa using G
  obtain ⟨x,p⟩:=cg k;obtain ⟨v,y,z,n⟩:=i.code.bT g.1 x p;have n:bR f v (y+g.1*3) x.cells:=n;have U:=j.co g.1;refine bk (Cs (Cb (ag (I (Yo ju O O z k) (I (dV 0 sk O O O (n)) ?_)))));refine Al Y O gu λa1=>?_;refine aQ 0 Y O O O xL O O O (aa (Cs (fm 0 (.cells (x.cells).toArray 108 (0,0)) O O (Cr (ad O (I (Yf Aq O) (I (Yd 0 O O O ab) (Lf 2 O ?_))))))));refine Lf 2 O ?_;refine Lw (ι:=Value) [_,_] _ Y O aC O O (λ_=>.tuple #[]) (λl=>[ao c (.cells #[.pointer (some ⟨c,0,none⟩),l] 165 (0,0)),b6 5 1 l (bM o.nm++[(o.aq.length:Int)].flatMap bj++o.aq.flatMap bM++[o.data,(o.code.length:Int)].flatMap bj++(o.code.take g.1).flatMap eY++[cZ x.op]).length ((bM o.nm++[(o.aq.length:Int)].flatMap bj++o.aq.flatMap bM++[o.data,(o.code.length:Int)].flatMap bj++(o.code.take g.1).flatMap eY++[cZ x.op]).map dh)]) (λ_=>True) [] aj (λw d=>vx c (g.2.1) g.2.2 (bM o.nm++[(o.aq.length:Int)].flatMap bj++o.aq.flatMap bM++[o.data,(o.code.length:Int)].flatMap bj++(o.code.take g.1).flatMap eY) x.op w s (by simp only [dG,i_,bI,gf,gd,kG,du,eT,h3]; omega) d) ?_;intro aE _;refine aa (Cr (ad O (I (Yf vp O) (I (Yd 2 O O O ab) (I (Yf Kc O) (I (Yd 2 O O O ab) ?_))))));refine Lb Y O h2 O O O O λH=>?_;refine cF 0 (.cells (([x.a,x.b]:List Int).flatMap e8).toArray 3 (0,0)) O O ?_;refine WL.lv 0 O ?_;refine Lw (ι:=Option Addr×Value) [_,_] _ Y O aC O O (λ_=>.tuple #[]) (λr=>[ao c (.cells #[.pointer (r.1),r.2] 165 (0,0)),b6 5 1 r.2 (bM o.nm++[(o.aq.length:Int)].flatMap bj++o.aq.flatMap bM++[o.data,(o.code.length:Int)].flatMap bj++(o.code.take g.1).flatMap eY++[cZ x.op]++[x.a,x.b].flatMap bj).length ((bM o.nm++[(o.aq.length:Int)].flatMap bj++o.aq.flatMap bM++[o.data,(o.code.length:Int)].flatMap bj++(o.code.take g.1).flatMap eY++[cZ x.op]++[x.a,x.b].flatMap bj).map dh)]) (λr=>r.1=none\/r.1=some ⟨c,0,none⟩) [bv H (.cells (([x.a,x.b]:List Int).flatMap e8).toArray 3 (0,0))] aj (λw d=>qb (bv H (.cells (([x.a,x.b]:List Int).flatMap e8).toArray 3 (0,0))) (some ⟨H,0,none⟩) 2 [x.a,x.b] c (some ⟨c,0,none⟩) aE (bM o.nm++[(o.aq.length:Int)].flatMap bj++o.aq.flatMap bM++[o.data,(o.code.length:Int)].flatMap bj++(o.code.take g.1).flatMap eY++[cZ x.op]) w (ri _ aj) (.inr O) (by simp only [dG,i_,bI,gf,gd,kG,du,eT,h3]; omega) d) ?_;intro X aF;refine Ln (Eb (Et (Cr (I (Yi O O O ae) (ad O (Ln ?_))))))
  exact b8 ((g.1+1,X.1,X.2):Nat×Option Addr×Value) (by show _-(g.1+1)<_; omega) ⟨(by show g.1+1<=_; omega),aF⟩ (λ_ h=>by
    have h:=Ws.out 2 h;have h:=Ws.av h (b3:=[f]) aj
    have e:bM o.nm++[(o.aq.length:Int)].flatMap bj++o.aq.flatMap bM++[o.data,(o.code.length:Int)].flatMap bj++(o.code.take g.1).flatMap eY++[cZ x.op]++[x.a,x.b].flatMap bj=bM o.nm++[(o.aq.length:Int)].flatMap bj++o.aq.flatMap bM++[o.data,(o.code.length:Int)].flatMap bj++(o.code.take (g.1+1)).flatMap eY:=by rw [Aw p]; simp [eY,f_]
    rw [e] at h
    exact h)
 have A:g.1=o.code.length:=by simp at G; omega
 rw [A,ew];refine Ce (Ex (Ex (cB (Et (ag (ad O (I (Yf si O) (I (Yd 2 O O O ab) (I (Yn rf O) ?_)))))))));refine Lb Y O h2 O O O O λJ=>?_;refine cF 0 (.cells (([(o.fix.length:Int)]:List Int).flatMap e8).toArray 3 (0,0)) O O ?_;refine WL.lv 0 O ?_;refine Lw (ι:=Option Addr×Value) [_,_] _ Y O aC O O (λ_=>.tuple #[]) (λr=>[ao c (.cells #[.pointer (r.1),r.2] 165 (0,0)),b6 5 1 r.2 (bM o.nm++[(o.aq.length:Int)].flatMap bj++o.aq.flatMap bM++[o.data,(o.code.length:Int)].flatMap bj++o.code.flatMap eY++[(o.fix.length:Int)].flatMap bj).length ((bM o.nm++[(o.aq.length:Int)].flatMap bj++o.aq.flatMap bM++[o.data,(o.code.length:Int)].flatMap bj++o.code.flatMap eY++[(o.fix.length:Int)].flatMap bj).map dh)]) (λr=>r.1=none\/r.1=some ⟨c,0,none⟩) [bv J (.cells (([(o.fix.length:Int)]:List Int).flatMap e8).toArray 3 (0,0))] aj (λw d=>qb (bv J (.cells (([(o.fix.length:Int)]:List Int).flatMap e8).toArray 3 (0,0))) (some ⟨J,0,none⟩) 1 [(o.fix.length:Int)] c (g.2.1) g.2.2 (bM o.nm++[(o.aq.length:Int)].flatMap bj++o.aq.flatMap bM++[o.data,(o.code.length:Int)].flatMap bj++o.code.flatMap eY) w (ri _ aj) s (by simp only [dG,i_,bI,gf,gd,kG,du,eT,h3]; omega) d) ?_;intro Z aG;refine aa (Cs (ag (I (Yf si O) (I (Yd 2 O O O ab) (I (Yn rf O) (ad O (aa (Cb ?_))))))))
 refine dc (ι:=Nat×Option Addr×Value) (λg=>[(76,.int .i64 (g.1:Int))]) [(1,_),(2,_),(3,_),(5,_),(74,_),(75,_)] (λg=>Ws w [] ([ao c (.cells #[.pointer (g.2.1),g.2.2] 165 (0,0)),b6 5 1 g.2.2 (bM o.nm++[(o.aq.length:Int)].flatMap bj++o.aq.flatMap bM++[o.data,(o.code.length:Int)].flatMap bj++o.code.flatMap eY++[(o.fix.length:Int)].flatMap bj++(o.fix.take g.1).flatMap f_).length ((bM o.nm++[(o.aq.length:Int)].flatMap bj++o.aq.flatMap bM++[o.data,(o.code.length:Int)].flatMap bj++o.code.flatMap eY++[(o.fix.length:Int)].flatMap bj++(o.fix.take g.1).flatMap f_).map dh)]++[ao B (.cells (gS o q).toArray 56 (0,0))]) [f]) (λg=>g.1<=o.fix.length/\(g.2.1=none\/g.2.1=some ⟨c,0,none⟩)) (λg=>o.fix.length-g.1) ((0,Z.1,Z.2):Nat×Option Addr×Value) ⟨cq _,aG⟩ (λ_ h=>by
   have h:=Ws.av h (b3:=[f]) aj;simp only [yd,kG,h3]
   exact h) ?_
 intro g ⟨T,s⟩;refine ag (I (ai O O) (aa (Cs ?_)));refine Cc O (λK=>?_) (λK=>?_)
 ·have k:g.1<o.fix.length:=by simpa using K
  obtain ⟨x,p⟩:=cg k;obtain ⟨v,y,z,n⟩:=i.fix.bT g.1 x p;have n:bR f v (y+g.1*3) x.cells:=n;have U:=j.fx g.1;refine bk (Cs (Cb (ag (I (Yo rf O O z k) (I (dV 0 vv O O O (n)) ?_)))));refine Al Y O sj λa2=>?_;refine aQ 0 Y O O O vw O O O (aa (Cs (fm 0 (.cells (x.cells).toArray 112 (0,0)) O O (Cr (ad O (I (Yf tJ O) (I (Yd 0 O O O ab) ?_)))))));refine Lb Y O h2 O O O O λL=>?_;refine cF 0 (.cells (([x.at_]:List Int).flatMap e8).toArray 3 (0,0)) O O ?_;refine WL.lv 0 O ?_;refine Lf 2 O (Lf 2 O ?_);refine Lw (ι:=Option Addr×Value) [_,_] _ Y O aC O O (λ_=>.tuple #[]) (λr=>[ao c (.cells #[.pointer (r.1),r.2] 165 (0,0)),b6 5 1 r.2 (bM o.nm++[(o.aq.length:Int)].flatMap bj++o.aq.flatMap bM++[o.data,(o.code.length:Int)].flatMap bj++o.code.flatMap eY++[(o.fix.length:Int)].flatMap bj++(o.fix.take g.1).flatMap f_++[x.at_].flatMap bj).length ((bM o.nm++[(o.aq.length:Int)].flatMap bj++o.aq.flatMap bM++[o.data,(o.code.length:Int)].flatMap bj++o.code.flatMap eY++[(o.fix.length:Int)].flatMap bj++(o.fix.take g.1).flatMap f_++[x.at_].flatMap bj).map dh)]) (λr=>r.1=none\/r.1=some ⟨c,0,none⟩) [bv L (.cells (([x.at_]:List Int).flatMap e8).toArray 3 (0,0))] aj (λw d=>qb (bv L (.cells (([x.at_]:List Int).flatMap e8).toArray 3 (0,0))) (some ⟨L,0,none⟩) 1 [x.at_] c (g.2.1) g.2.2 (bM o.nm++[(o.aq.length:Int)].flatMap bj++o.aq.flatMap bM++[o.data,(o.code.length:Int)].flatMap bj++o.code.flatMap eY++[(o.fix.length:Int)].flatMap bj++(o.fix.take g.1).flatMap f_) w (ri _ aj) s (by simp only [dG,i_,bI,gf,gd,kG,du,eT,h3]; omega) d) ?_;intro ac aH;refine aa (ag (ad O (I (Yf xM O) (I (Yd 2 O O O ab) ?_))));refine Lw (ι:=Value) [_,_] _ Y O aC O O (λ_=>.tuple #[]) (λl=>[ao c (.cells #[.pointer (some ⟨c,0,none⟩),l] 165 (0,0)),b6 5 1 l (bM o.nm++[(o.aq.length:Int)].flatMap bj++o.aq.flatMap bM++[o.data,(o.code.length:Int)].flatMap bj++o.code.flatMap eY++[(o.fix.length:Int)].flatMap bj++(o.fix.take g.1).flatMap f_++[x.at_].flatMap bj++[cZ x.kind]).length ((bM o.nm++[(o.aq.length:Int)].flatMap bj++o.aq.flatMap bM++[o.data,(o.code.length:Int)].flatMap bj++o.code.flatMap eY++[(o.fix.length:Int)].flatMap bj++(o.fix.take g.1).flatMap f_++[x.at_].flatMap bj++[cZ x.kind]).map dh)]) (λ_=>True) [] aj (λw d=>vx c (ac.1) ac.2 (bM o.nm++[(o.aq.length:Int)].flatMap bj++o.aq.flatMap bM++[o.data,(o.code.length:Int)].flatMap bj++o.code.flatMap eY++[(o.fix.length:Int)].flatMap bj++(o.fix.take g.1).flatMap f_++[x.at_].flatMap bj) x.kind w aH (by simp only [dG,i_,bI,gf,gd,kG,du,eT,h3]; omega) d) ?_
  intro aI _;refine aa (Cr (ad O (I (Yf rh O) (I (Yd 2 O O O ab) ?_))));refine Lb Y O h2 O O O O λM=>?_;refine cF 0 (.cells (([x.m]:List Int).flatMap e8).toArray 3 (0,0)) O O ?_;refine WL.lv 0 O ?_;refine Lw (ι:=Option Addr×Value) [_,_] _ Y O aC O O (λ_=>.tuple #[]) (λr=>[ao c (.cells #[.pointer (r.1),r.2] 165 (0,0)),b6 5 1 r.2 (bM o.nm++[(o.aq.length:Int)].flatMap bj++o.aq.flatMap bM++[o.data,(o.code.length:Int)].flatMap bj++o.code.flatMap eY++[(o.fix.length:Int)].flatMap bj++(o.fix.take g.1).flatMap f_++[x.at_].flatMap bj++[cZ x.kind]++[x.m].flatMap bj).length ((bM o.nm++[(o.aq.length:Int)].flatMap bj++o.aq.flatMap bM++[o.data,(o.code.length:Int)].flatMap bj++o.code.flatMap eY++[(o.fix.length:Int)].flatMap bj++(o.fix.take g.1).flatMap f_++[x.at_].flatMap bj++[cZ x.kind]++[x.m].flatMap bj).map dh)]) (λr=>r.1=none\/r.1=some ⟨c,0,none⟩) [bv M (.cells (([x.m]:List Int).flatMap e8).toArray 3 (0,0))] aj (λw d=>qb (bv M (.cells (([x.m]:List Int).flatMap e8).toArray 3 (0,0))) (some ⟨M,0,none⟩) 1 [x.m] c (some ⟨c,0,none⟩) aI (bM o.nm++[(o.aq.length:Int)].flatMap bj++o.aq.flatMap bM++[o.data,(o.code.length:Int)].flatMap bj++o.code.flatMap eY++[(o.fix.length:Int)].flatMap bj++(o.fix.take g.1).flatMap f_++[x.at_].flatMap bj++[cZ x.kind]) w (ri _ aj) (.inr O) (by simp only [dG,i_,bI,gf,gd,kG,du,eT,h3]; omega) d) ?_;intro af aJ;refine Ln (Eb (Et (Cr (I (Yi O O O ae) (ad O (Ln ?_))))))
  exact b8 ((g.1+1,af.1,af.2):Nat×Option Addr×Value) (by show _-(g.1+1)<_; omega) ⟨(by show g.1+1<=_; omega),aJ⟩ (λ_ h=>by
    have h:=Ws.out 2 h;have h:=Ws.av h (b3:=[f]) aj
    have e:bM o.nm++[(o.aq.length:Int)].flatMap bj++o.aq.flatMap bM++[o.data,(o.code.length:Int)].flatMap bj++o.code.flatMap eY++[(o.fix.length:Int)].flatMap bj++(o.fix.take g.1).flatMap f_++[x.at_].flatMap bj++[cZ x.kind]++[x.m].flatMap bj=bM o.nm++[(o.aq.length:Int)].flatMap bj++o.aq.flatMap bM++[o.data,(o.code.length:Int)].flatMap bj++o.code.flatMap eY++[(o.fix.length:Int)].flatMap bj++(o.fix.take (g.1+1)).flatMap f_:=by rw [Aw p]; simp [eY,f_]
    rw [e] at h
    exact h)
 have A:g.1=o.fix.length:=by simp at K; omega
 rw [A,ew];refine Ce (Ex (Ex (cB (Et (ag (ad O (I (Yf o9 O) (I (Yd 2 O O O ab) (I (Yn iH O) ?_)))))))));refine Lb Y O h2 O O O O λN=>?_;refine cF 0 (.cells (([(o.aw.length:Int)]:List Int).flatMap e8).toArray 3 (0,0)) O O ?_;refine WL.lv 0 O ?_;refine Lw (ι:=Option Addr×Value) [_,_] _ Y O aC O O (λ_=>.tuple #[]) (λr=>[ao c (.cells #[.pointer (r.1),r.2] 165 (0,0)),b6 5 1 r.2 (bM o.nm++[(o.aq.length:Int)].flatMap bj++o.aq.flatMap bM++[o.data,(o.code.length:Int)].flatMap bj++o.code.flatMap eY++[(o.fix.length:Int)].flatMap bj++o.fix.flatMap f_++[(o.aw.length:Int)].flatMap bj).length ((bM o.nm++[(o.aq.length:Int)].flatMap bj++o.aq.flatMap bM++[o.data,(o.code.length:Int)].flatMap bj++o.code.flatMap eY++[(o.fix.length:Int)].flatMap bj++o.fix.flatMap f_++[(o.aw.length:Int)].flatMap bj).map dh)]) (λr=>r.1=none\/r.1=some ⟨c,0,none⟩) [bv N (.cells (([(o.aw.length:Int)]:List Int).flatMap e8).toArray 3 (0,0))] aj (λw d=>qb (bv N (.cells (([(o.aw.length:Int)]:List Int).flatMap e8).toArray 3 (0,0))) (some ⟨N,0,none⟩) 1 [(o.aw.length:Int)] c (g.2.1) g.2.2 (bM o.nm++[(o.aq.length:Int)].flatMap bj++o.aq.flatMap bM++[o.data,(o.code.length:Int)].flatMap bj++o.code.flatMap eY++[(o.fix.length:Int)].flatMap bj++o.fix.flatMap f_) w (ri _ aj) s (by simp only [dG,i_,bI,gf,gd,kG,du,eT,h3]; omega) d) ?_;intro ah aK;refine aa (ag (ad O (I (Yf o9 O) (I (Yd 2 O O O ab) ?_))));refine Lw (ι:=Option Addr×Value) [_,_] _ Y O aC O O (λ_=>.tuple #[]) (λr=>[ao c (.cells #[.pointer (r.1),r.2] 165 (0,0)),b6 5 1 r.2 (bM o.nm++[(o.aq.length:Int)].flatMap bj++o.aq.flatMap bM++[o.data,(o.code.length:Int)].flatMap bj++o.code.flatMap eY++[(o.fix.length:Int)].flatMap bj++o.fix.flatMap f_++[(o.aw.length:Int)].flatMap bj++o.aw.flatMap bj).length ((bM o.nm++[(o.aq.length:Int)].flatMap bj++o.aq.flatMap bM++[o.data,(o.code.length:Int)].flatMap bj++o.code.flatMap eY++[(o.fix.length:Int)].flatMap bj++o.fix.flatMap f_++[(o.aw.length:Int)].flatMap bj++o.aw.flatMap bj).map dh)]) (λr=>r.1=none\/r.1=some ⟨c,0,none⟩) [f] aj (λw d=>qb f q.s4.1 q.s4.2 o.aw c ah.1 ah.2 (bM o.nm++[(o.aq.length:Int)].flatMap bj++o.aq.flatMap bM++[o.data,(o.code.length:Int)].flatMap bj++o.code.flatMap eY++[(o.fix.length:Int)].flatMap bj++o.fix.flatMap f_++[(o.aw.length:Int)].flatMap bj) w i.aw aK (by simp only [dG,i_,bI,gf,gd,kG,du,eT,h3]; omega) d) ?_;intro al aL;refine aa (ag (ad O (I (Yf jt O) (I (Yd 2 O O O ab) ?_))));refine Lb Y O h2 O O O O λP=>?_
 refine cF 0 (.cells (([o.main]:List Int).flatMap e8).toArray 3 (0,0)) O O ?_;refine WL.lv 0 O ?_;refine Lw (ι:=Option Addr×Value) [_,_] _ Y O aC O O (λ_=>.tuple #[]) (λr=>[ao c (.cells #[.pointer (r.1),r.2] 165 (0,0)),b6 5 1 r.2 (bM o.nm++[(o.aq.length:Int)].flatMap bj++o.aq.flatMap bM++[o.data,(o.code.length:Int)].flatMap bj++o.code.flatMap eY++[(o.fix.length:Int)].flatMap bj++o.fix.flatMap f_++[(o.aw.length:Int)].flatMap bj++o.aw.flatMap bj++[o.main].flatMap bj).length ((bM o.nm++[(o.aq.length:Int)].flatMap bj++o.aq.flatMap bM++[o.data,(o.code.length:Int)].flatMap bj++o.code.flatMap eY++[(o.fix.length:Int)].flatMap bj++o.fix.flatMap f_++[(o.aw.length:Int)].flatMap bj++o.aw.flatMap bj++[o.main].flatMap bj).map dh)]) (λr=>r.1=none\/r.1=some ⟨c,0,none⟩) [bv P (.cells (([o.main]:List Int).flatMap e8).toArray 3 (0,0))] aj (λw d=>qb (bv P (.cells (([o.main]:List Int).flatMap e8).toArray 3 (0,0))) (some ⟨P,0,none⟩) 1 [o.main] c (al.1) al.2 (bM o.nm++[(o.aq.length:Int)].flatMap bj++o.aq.flatMap bM++[o.data,(o.code.length:Int)].flatMap bj++o.code.flatMap eY++[(o.fix.length:Int)].flatMap bj++o.fix.flatMap f_++[(o.aw.length:Int)].flatMap bj++o.aw.flatMap bj) w (ri _ aj) aL (by simp only [dG,i_,bI,gf,gd,kG,du,eT,h3]; omega) d) ?_;intro t am;refine aa (Cs (Cs ?_))
 have Q:bM o.nm++[(o.aq.length:Int)].flatMap bj++o.aq.flatMap bM++[o.data,(o.code.length:Int)].flatMap bj++o.code.flatMap eY++[(o.fix.length:Int)].flatMap bj++o.fix.flatMap f_++[(o.aw.length:Int)].flatMap bj++o.aw.flatMap bj++[o.main].flatMap bj=kq o:=by simp [kq,oR]
 have a3:(kq o).length+1<=1099511627776:=by rw [<-Q]; exact (by simp only [dG,i_,bI,gf,gd,kG,du,eT,h3]; omega)
 rw [Q];refine Cr (ad O (I (cJ O) (I (Yf xN O) ?_)));refine Lw (ι:=Unit) [_,_] _ Y O aC O O (λ_=>.int .i64 ((kq o).length:Int)) (λ_=>[ao c (.cells #[.pointer (t.1),t.2] 165 (0,0)),b6 5 1 t.2 (kq o).length ((kq o).map dh)]) (λ_=>True) [] aj (λw d=>(U' c t.1 t.2 (kq o) w am ae d).mono λe w' h=>⟨(),h.1,trivial,h.2⟩) ?_;intro _ _;refine I (dO O O) (aa ?_);refine Cc O (λR=>?_) (λR=>?_)
 ·have k:32768<(kq o).length:=by simp at R; omega
  refine ag (ak O (ak O (aa (a7 (Er ?_)))));refine WE.gZ O O O λw' d=>?_;exact ⟨by rw [kN,if_pos u,if_pos k]; rfl,d.fr⟩
 have k:¬32768<(kq o).length:=by simp at R; omega
 refine bk (ag (ad O (I (cJ O) (I (Yf xN O) ?_))));refine Lw (ι:=Unit) [_,_] _ Y O aC O O (λ_=>st (kq o)) (λ_=>[]) (λ_=>True) [] aj (λw d=>(Lq c t.1 t.2 (kq o) (by rw [<-Q]; simp [bM]) w am ae d).mono λe w' h=>⟨(),h.1,trivial,h.2⟩) ?_;intro _ _;refine ak O (ak O (aa (a7 ?_)));refine WE.gZ O O O λw' d=>?_;exact ⟨by rw [kN,if_pos u,if_neg k],d.fr⟩
end Go.Proofs.YtccenighnmfhgaaGreatDoor
end
