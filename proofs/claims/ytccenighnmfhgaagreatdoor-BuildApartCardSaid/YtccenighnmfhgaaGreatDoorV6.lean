/- BuildApart: compiled one by one, each with the faces of its uses alone, and linked, modules are what Build tells. -/
import Derived.Test.YtccenighnmfhgaaGreatDoorV5
set_option linter.unusedVariables false
set_option linter.unusedSimpArgs false
set_option linter.defProp false
section
namespace Go.Proofs.YtccenighnmfhgaaGreatDoor
open Go.Bw Go.Proofs.Tryz
theorem Ax (b:Nat) (s:List UInt8)  (w:World) (h:s.length<=9223372036854775807) (a:Ws w [b] [ao b (.cells #[st (s)] 229 (0,0))] [] w) :
   Calls prog 132 #[.pointer (some ⟨b,0,none⟩)] w λe w'=>(∃r:Nat×List UInt8,e = .returned (.int .i64 ((r.1:Nat):Int))/\cX s=some r/\Ws w [b] [ao b (.cells #[st (r.2)] 229 (0,0))] [] w')\/(∃t:List UInt8,e = .panicked ht/\cX s=none/\Ws w [b] [ao b (.cells #[st (t)] 229 (0,0))] [] w'):=by
 refine enter func132 O 15 O O ?_;refine CE a (ag (ak O (aa (ag (ad O ?_)))));refine dk [_] _ Y O aC O O _ _ _ _ _ _ ([]) aj (λw a=>qc b (s)  w h a) ?_ ?_
 ·intro t i;refine Ep ?_;refine bU λw' a=>?_;exact .inr ⟨t,O,(by rw [cX,i]; rfl),a⟩
 intro r f;refine ak O (aa (Cs (ag (ad O (I (ai O O) (ad O ?_))))));apply Lo 2 O O O O Y O O O O O
 ·intro j;refine Vg (Ym O) (Vg (dO O O) ?_);exact Gt 2 O O O
 refine aa ?_;refine Cc O (λc=>?_) (λc=>?_)
 ·have d:r.1<0\/32768<r.1:=by simpa using c
  refine Cr (I (Yb Ls Lr O O) (I (nO Lt O) ?_));refine WL.panic Y O ?_;refine Ep ?_;refine bU λw' a=>?_;exact .inr ⟨r.2,O,(by rw [cX,f,bt,if_pos d]),a⟩
 have d:¬(r.1<0\/32768<r.1):=by simpa using c
 obtain ⟨m,g⟩:∃m:Nat,r.1=(m:Int):=⟨r.1.toNat,ae⟩;rw [g];refine bk (ag (ad O (ak O (aa (a7 ?_)))));refine R1 O O λw' a=>?_;exact .inl ⟨(m,r.2),O,(by rw [cX,f,bt,if_neg d,g,mu]),a⟩
theorem Vb (a c:Nat) (s:List UInt8) (w:World) (k:s.length<=9223372036854775807) (b:Ws w [a,c] [ao a (.cells #[st (s)] 229 (0,0)),ao c (.cells #[.pointer (some ⟨a,0,none⟩)] 103 (0,0))] [] w) :
   Calls prog 57 #[.pointer (some ⟨c,0,none⟩)] w λe w'=>(∃r:bA×List UInt8,e = .returned (.agg r.1.cells.toArray)/\jL s=some r/\Ws w [a,c] [ao a (.cells #[st (r.2)] 229 (0,0)),ao c (.cells #[.pointer (some ⟨a,0,none⟩)] 103 (0,0))] [] w')\/(∃t:List UInt8,e = .panicked ht/\jL s=none/\Ws w [a,c] [ao a (.cells #[st (t)] 229 (0,0)),ao c (.cells #[.pointer (some ⟨a,0,none⟩)] 103 (0,0))] [] w'):=by
 refine enter func57 O 13 O O ?_;refine CE b (ag ?_);refine Al Y O gu λm=>?_;refine aa (ag (I (Yd 2 O O O ab) (Lf 1 O ?_)));refine dk [_] _ Y O aC O O _ _ _ _ _ _ ([]) aj (λw b=>xO a (s) w k b) ?_ ?_
 ·intro t d;refine Ep ?_;refine bU λw' b=>?_;exact .inr ⟨t,O,(by unfold jL; simp only [d,bt,cW]),Ws.iO (L:=[_,_]) (Ws.bu (Ws.bu b 2 O) 1 O)⟩
 intro g f;refine I (Yb gu hs O O) ?_;refine Al Y O gu λn=>?_;refine aQ 0 Y O O O xL O O O (aa (ag (I (Yd 3 O O O ab) (Lf 1 O ?_))));refine dk (ι:=Int×List UInt8) (κ:=List UInt8) [_] _ Y O aC O O (λr=>.int .i64 r.1) (λr=>[ao a (.cells #[st (r.2)] 229 (0,0))]) (λr=>eR g.2=some r) (λ_=>ht) (λt=>[ao a (.cells #[st (t)] 229 (0,0))]) (λ_=>eR g.2=none) ([]) aj (λw b=>qc a (g.2) w (by have:=qO f; omega) b) ?_ ?_
 ·intro t d;refine Ep ?_;refine bU λw' b=>?_;exact .inr ⟨t,O,(by unfold jL; simp only [f,d,bt,cW]),Ws.iO (L:=[_,_]) (Ws.bu (Ws.bu b 3 O) 1 O)⟩
 intro h i;refine I (Yf vp O) (aQ 1 Y O O O dZ O O O (aa (ag (I (Yd 3 O O O ab) ?_))));refine dk (ι:=Int×List UInt8) (κ:=List UInt8) [_] _ Y O aC O O (λr=>.int .i64 r.1) (λr=>[ao a (.cells #[st (r.2)] 229 (0,0))]) (λr=>eR h.2=some r) (λ_=>ht) (λt=>[ao a (.cells #[st (t)] 229 (0,0))]) (λ_=>eR h.2=none) ([]) aj (λw b=>qc a (h.2) w (by have:=qO f; have:=cD i; omega) b) ?_ ?_
 ·intro t d;refine Ep ?_;refine bU λw' b=>?_;exact .inr ⟨t,O,(by unfold jL; simp only [f,i,d,bt,cW]),Ws.iO (L:=[_,_]) (Ws.bu (Ws.bu b 3 O) 1 O)⟩
 intro j l;refine I (Yf Kc O) (aQ 1 Y O O O dZ O O O (aa (ag (I (cc 1 O O sk O) (aQ 2 Y O O O xL O O O (aa (a7 ?_)))))));refine WE.t' 2 O O O sk O λw' b=>?_;exact .inl ⟨(⟨g.1,h.1,j.1⟩,j.2),O,(by unfold jL; simp only [f,i,l,bt]),Ws.iO (L:=[_,_]) (Ws.bu (Ws.bu b 3 O) 1 O)⟩
theorem Vc (a c:Nat) (s:List UInt8) (w:World) (k:s.length<=9223372036854775807) (b:Ws w [a,c] [ao a (.cells #[st (s)] 229 (0,0)),ao c (.cells #[.pointer (some ⟨a,0,none⟩)] 103 (0,0))] [] w) :
   Calls prog 60 #[.pointer (some ⟨c,0,none⟩)] w λe w'=>(∃r:aD×List UInt8,e = .returned (.agg r.1.cells.toArray)/\j' s=some r/\Ws w [a,c] [ao a (.cells #[st (r.2)] 229 (0,0)),ao c (.cells #[.pointer (some ⟨a,0,none⟩)] 103 (0,0))] [] w')\/(∃t:List UInt8,e = .panicked ht/\j' s=none/\Ws w [a,c] [ao a (.cells #[st (t)] 229 (0,0)),ao c (.cells #[.pointer (some ⟨a,0,none⟩)] 103 (0,0))] [] w'):=by
 refine enter func60 O 13 O O ?_;refine CE b (ag ?_);refine Al Y O sj λm=>?_;refine aa (ag (I (Yd 2 O O O ab) (Lf 1 O ?_)));refine dk [_] _ Y O aC O O _ _ _ _ _ _ ([]) aj (λw b=>qc a (s) w k b) ?_ ?_
 ·intro t d;refine Ep ?_;refine bU λw' b=>?_;exact .inr ⟨t,O,(by unfold j'; simp only [d,bt,cW]),Ws.iO (L:=[_,_]) (Ws.bu (Ws.bu b 2 O) 1 O)⟩
 intro g f;refine I (Yb sj Lg O O) ?_;refine Al Y O sj λn=>?_;refine aQ 0 Y O O O vw O O O (aa (ag (I (Yd 3 O O O ab) (Lf 1 O ?_))));refine dk (ι:=Int×List UInt8) (κ:=List UInt8) [_] _ Y O aC O O (λr=>.int .i64 r.1) (λr=>[ao a (.cells #[st (r.2)] 229 (0,0))]) (λr=>j9 g.2=some r) (λ_=>ht) (λt=>[ao a (.cells #[st (t)] 229 (0,0))]) (λ_=>j9 g.2=none) ([]) aj (λw b=>xO a (g.2) w (by have:=cD f; omega) b) ?_ ?_
 ·intro t d;refine Ep ?_;refine bU λw' b=>?_;exact .inr ⟨t,O,(by unfold j'; simp only [f,d,bt,cW]),Ws.iO (L:=[_,_]) (Ws.bu (Ws.bu b 3 O) 1 O)⟩
 intro h i;refine I (Yf xM O) (aQ 1 Y O O O dZ O O O (aa (ag (I (Yd 3 O O O ab) ?_))));refine dk (ι:=Int×List UInt8) (κ:=List UInt8) [_] _ Y O aC O O (λr=>.int .i64 r.1) (λr=>[ao a (.cells #[st (r.2)] 229 (0,0))]) (λr=>eR h.2=some r) (λ_=>ht) (λt=>[ao a (.cells #[st (t)] 229 (0,0))]) (λ_=>eR h.2=none) ([]) aj (λw b=>qc a (h.2) w (by have:=cD f; have:=qO i; omega) b) ?_ ?_
 ·intro t d;refine Ep ?_;refine bU λw' b=>?_;exact .inr ⟨t,O,(by unfold j'; simp only [f,i,d,bt,cW]),Ws.iO (L:=[_,_]) (Ws.bu (Ws.bu b 3 O) 1 O)⟩
 intro j l;refine I (Yf rh O) (aQ 1 Y O O O dZ O O O (aa (ag (I (cc 1 O O vv O) (aQ 2 Y O O O vw O O O (aa (a7 ?_)))))));refine WE.t' 2 O O O vv O λw' b=>?_;exact .inl ⟨(⟨g.1,h.1,j.1⟩,j.2),O,(by unfold j'; simp only [f,i,l,bt]),Ws.iO (L:=[_,_]) (Ws.bu (Ws.bu b 3 O) 1 O)⟩
theorem Vd (b:Nat) (s:List UInt8) (w:World) (o:s.length<=9223372036854775807) (c:Ws w [b] [ao b (.cells #[st (s)] 229 (0,0))] [] w) :
   Calls prog 54 #[.pointer (some ⟨b,0,none⟩),.func (.func 53) #[.pointer (some ⟨b,0,none⟩)] #[]] w λe w'=>(∃r:(List (List UInt8)×List UInt8)×Option Addr×Nat,e = .returned (.slice r.2.1 r.1.1.length r.2.2)/\fp ib s=some r.1/\Ws w [b] [ao b (.cells #[st (r.1.2)] 229 (0,0)),bS 9 1 c' r.2.1 r.2.2 (r.1.1)] [] w')\/(∃t:List UInt8,e = .panicked ht/\fp ib s=none/\Ws w [b] [ao b (.cells #[st (t)] 229 (0,0))] [] w'):=by
 refine enter func54 O 17 O O ?_;refine CE c (ag (ak O (aa (ag (ak O (LW (λ_ h=>h.eM 9 1) (aa (Cs (ag (ad O ?_))))))))));refine Lf 1 O ?_;refine dk [_] _ Y O aC O O _ _ _ _ _ _ ([]) aj (λw c=>Ax b s w o c) ?_ ?_
 ·intro t i;refine Ep (Ep ?_);refine bU λw' c=>?_;exact .inr ⟨t,O,(by unfold fp; rw [i]; rfl),Wt 1 c⟩
 intro a j;have z:=zr j;have A:=wZ j
 have l:fp ib s=f' ib a.1 a.2:=by unfold fp; rw [j]; rfl
 refine ad O (aa (Cb ?_));refine dc (ι:=List (List UInt8)×List UInt8×Option Addr×Nat) (λg=>[(8,.int .i64 (g.1.length:Int)),(5,.slice g.2.2.1 g.1.length g.2.2.2)]) [(1,_),(4,_),(7,_)] (λg=>Ws w [b] [ao b (.cells #[st (g.2.1)] 229 (0,0)),bS 9 1 c' g.2.2.1 g.2.2.2 (g.1)] []) (λg=>g.1.length<=a.1/\g.2.1.length<=9223372036854775807/\f' ib a.1 a.2=(f' ib (a.1-g.1.length) g.2.1).map λq=>(g.1++q.1,q.2)) (λg=>a.1-g.1.length) ([],a.2,none,0) ⟨cq _,by dsimp only; omega,aj⟩ an ?_;intro g ⟨hi,p,d⟩;refine ag (I (ai O O) (aa (Cs ?_)));refine Cc O (λk=>?_) (λk=>?_)
 ·have B:g.1.length<a.1:=by simpa using k
  obtain ⟨m,u⟩:∃m,a.1-g.1.length=m+1:=⟨a.1-g.1.length-1,ae⟩;rw [u] at d;refine bk (Cs (Cb (Cr (ad O (ad O ?_)))));refine WL.zI [_] _ Y O aC O O _ _ _ _ _ _ ([]) aj (λw c=>Av b g.2.1 w p c) ?_ ?_
  ·intro t i;refine WE.cm (Ep (Ep (WE.cm (Ep ?_))));refine bU λw' c=>?_;exact .inr ⟨t,O,(by rw [l]; exact zo d i),Wt 1 c⟩
  intro f n;refine Lb Y O dT O O O O λC=>?_;refine cF 0 (.cells (c' f.1).toArray 9 (0,0)) O O ?_;refine LA f.1 2 0 Y O dT O O O O O O ae ae λv x=>?_;refine ak O (Ln (Eb (Et (Cr (I (Yi O O O ae) (ad O (Ln ?_)))))));rw [show ((g.1.length+1:Nat):Int)=(((g.1++[f.1]).length:Nat):Int) by simp]
  exact b8 ((g.1++[f.1],f.2,v,x):List (List UInt8)×List UInt8×Option Addr×Nat) (by simp; omega) ⟨by simp; omega,by have:=kO n; dsimp only; omega,by
      dsimp only;rw [dG,gf,show a.1-(g.1.length+1)=m by omega]
      exact zp d n⟩ (λ_ h=>Ws.out 0 h)
 have y:a.1-g.1.length=0:=by simp at k; omega
 rw [y] at d;refine Ce (Ex (Ex (cB (Et (ag (ad O (ak O (aa (a7 ?_)))))))));refine R1 O O λw' c=>?_;exact .inl ⟨((g.1,g.2.1),g.2.2),O,(by rw [l]; exact zq d),(Ws.bu (Ws.bu c 1 O) 1 O)⟩
theorem Ve (b:Nat) (s:List UInt8) (w:World) (o:s.length<=9223372036854775807) (c:Ws w [b] [ao b (.cells #[st (s)] 229 (0,0))] [] w) :
   Calls prog 61 #[.pointer (some ⟨b,0,none⟩),.func (.func 55) #[.pointer (some ⟨b,0,none⟩)] #[]] w λe w'=>(∃r:(List Int×List UInt8)×Option Addr×Nat,e = .returned (.slice r.2.1 r.1.1.length r.2.2)/\fp eR s=some r.1/\Ws w [b] [ao b (.cells #[st (r.1.2)] 229 (0,0)),bS 3 1 e8 r.2.1 r.2.2 (r.1.1)] [] w')\/(∃t:List UInt8,e = .panicked ht/\fp eR s=none/\Ws w [b] [ao b (.cells #[st (t)] 229 (0,0))] [] w'):=by
 refine enter func61 O 17 O O ?_;refine CE c (ag (ak O (aa (ag (ak O (LW (λ_ h=>h.eM 3 1) (aa (Cs (ag (ad O ?_))))))))));refine Lf 1 O ?_;refine dk [_] _ Y O aC O O _ _ _ _ _ _ ([]) aj (λw c=>Ax b s w o c) ?_ ?_
 ·intro t i;refine Ep (Ep ?_);refine bU λw' c=>?_;exact .inr ⟨t,O,(by unfold fp; rw [i]; rfl),Wt 1 c⟩
 intro a j;have z:=zr j;have A:=wZ j
 have l:fp eR s=f' eR a.1 a.2:=by unfold fp; rw [j]; rfl
 refine ad O (aa (Cb ?_));refine dc (ι:=List Int×List UInt8×Option Addr×Nat) (λg=>[(8,.int .i64 (g.1.length:Int)),(5,.slice g.2.2.1 g.1.length g.2.2.2)]) [(1,_),(4,_),(7,_)] (λg=>Ws w [b] [ao b (.cells #[st (g.2.1)] 229 (0,0)),bS 3 1 e8 g.2.2.1 g.2.2.2 (g.1)] []) (λg=>g.1.length<=a.1/\g.2.1.length<=9223372036854775807/\f' eR a.1 a.2=(f' eR (a.1-g.1.length) g.2.1).map λq=>(g.1++q.1,q.2)) (λg=>a.1-g.1.length) ([],a.2,none,0) ⟨cq _,by dsimp only; omega,aj⟩ an ?_;intro g ⟨hi,p,d⟩;refine ag (I (ai O O) (aa (Cs ?_)));refine Cc O (λk=>?_) (λk=>?_)
 ·have B:g.1.length<a.1:=by simpa using k
  obtain ⟨m,u⟩:∃m,a.1-g.1.length=m+1:=⟨a.1-g.1.length-1,ae⟩;rw [u] at d;refine bk (Cs (Cb (Cr (ad O (ad O ?_)))));refine WL.zI [_] _ Y O aC O O _ _ _ _ _ _ ([]) aj (λw c=>qc b g.2.1 w p c) ?_ ?_
  ·intro t i;refine WE.cm (Ep (Ep (WE.cm (Ep ?_))));refine bU λw' c=>?_;exact .inr ⟨t,O,(by rw [l]; exact zo d i),Wt 1 c⟩
  intro f n;refine Lb Y O h2 O O O O λC=>?_;refine cF 0 (.cells (e8 f.1).toArray 3 (0,0)) O O ?_;refine LA f.1 2 0 Y O h2 O O O O O O ae ae λv x=>?_;refine ak O (Ln (Eb (Et (Cr (I (Yi O O O ae) (ad O (Ln ?_)))))));rw [show ((g.1.length+1:Nat):Int)=(((g.1++[f.1]).length:Nat):Int) by simp]
  exact b8 ((g.1++[f.1],f.2,v,x):List Int×List UInt8×Option Addr×Nat) (by simp; omega) ⟨by simp; omega,by have:=cD n; dsimp only; omega,by
      dsimp only;rw [dG,gf,show a.1-(g.1.length+1)=m by omega]
      exact zp d n⟩ (λ_ h=>Ws.out 0 h)
 have y:a.1-g.1.length=0:=by simp at k; omega
 rw [y] at d;refine Ce (Ex (Ex (cB (Et (ag (ad O (ak O (aa (a7 ?_)))))))));refine R1 O O λw' c=>?_;exact .inl ⟨((g.1,g.2.1),g.2.2),O,(by rw [l]; exact zq d),(Ws.bu (Ws.bu c 1 O) 1 O)⟩
theorem Vf (a d:Nat) (s:List UInt8) (w:World) (u:s.length<=9223372036854775807) (c:Ws w [a,d] [ao a (.cells #[st (s)] 229 (0,0)),ao d (.cells #[.pointer (some ⟨a,0,none⟩)] 103 (0,0))] [] w) :
   Calls prog 56 #[.pointer (some ⟨a,0,none⟩),.func (.func 57) #[] #[.pointer (some ⟨d,0,none⟩)]] w λe w'=>(∃r:(List bA×List UInt8)×Option Addr×Nat,e = .returned (.slice r.2.1 r.1.1.length r.2.2)/\fp jL s=some r.1/\Ws w [a,d] [ao a (.cells #[st (r.1.2)] 229 (0,0)),ao d (.cells #[.pointer (some ⟨a,0,none⟩)] 103 (0,0)),bS 108 3 bA.cells r.2.1 r.2.2 (r.1.1)] [] w')\/(∃t:List UInt8,e = .panicked ht/\fp jL s=none/\Ws w [a,d] [ao a (.cells #[st (t)] 229 (0,0)),ao d (.cells #[.pointer (some ⟨a,0,none⟩)] 103 (0,0))] [] w'):=by
 refine enter func56 O 17 O O ?_;refine CE c (ag (ak O (aa (ag (ak O (LW (λ_ h=>h.eM 108 3) (aa (Cs (ag (ad O ?_))))))))));refine Lf 1 O ?_;refine dk [_] _ Y O aC O O _ _ _ _ _ _ ([]) aj (λw c=>Ax a s w u c) ?_ ?_
 ·intro t k;refine Ep (Ep ?_);refine bU λw' c=>?_;exact .inr ⟨t,O,(by unfold fp; rw [k]; rfl),Ws.iO (L:=[_,_]) (Ws.bu (Ws.bu c 2 O) 1 O)⟩
 intro b l;have B:=zr l;have C:=wZ l
 have o:fp jL s=f' jL b.1 b.2:=by unfold fp; rw [l]; rfl
 refine ad O (aa (Cb ?_));refine dc (ι:=List bA×List UInt8×Option Addr×Nat) (λg=>[(8,.int .i64 (g.1.length:Int)),(5,.slice g.2.2.1 g.1.length g.2.2.2)]) [(1,_),(4,_),(7,_)] (λg=>Ws w [a,d] [ao a (.cells #[st (g.2.1)] 229 (0,0)),ao d (.cells #[.pointer (some ⟨a,0,none⟩)] 103 (0,0)),bS 108 3 bA.cells g.2.2.1 g.2.2.2 (g.1)] []) (λg=>g.1.length<=b.1/\g.2.1.length<=9223372036854775807/\f' jL b.1 b.2=(f' jL (b.1-g.1.length) g.2.1).map λq=>(g.1++q.1,q.2)) (λg=>b.1-g.1.length) ([],b.2,none,0) ⟨cq _,by dsimp only; omega,aj⟩ (λ_ h=>(((h.f 1 O).f 2 O).f 2 O:)) ?_;intro g ⟨hi,v,i⟩;refine ag (I (ai O O) (aa (Cs ?_)));refine Cc O (λn=>?_) (λn=>?_)
 ·have D:g.1.length<b.1:=by simpa using n
  obtain ⟨m,x⟩:∃m,b.1-g.1.length=m+1:=⟨b.1-g.1.length-1,ae⟩;rw [x] at i;refine bk (Cs (Cb (Cr (ad O (ad O ?_)))));refine WL.zI [_,_] _ Y O aC O O _ _ _ _ _ _ ([]) aj (λw c=>Vb a d g.2.1 w v c) ?_ ?_
  ·intro t k;refine WE.cm (Ep (Ep (WE.cm (Ep ?_))));refine bU λw' c=>?_;exact .inr ⟨t,O,(by rw [o]; exact zo i k),Ws.iO (L:=[_,_]) (Ws.bu (Ws.bu c 1 O) 1 O)⟩
  intro j p;refine Lb Y O hK O O O O λE=>?_;refine cF 0 (.cells (bA.cells j.1).toArray 108 (0,0)) O O ?_;refine LA j.1 3 0 Y O hK O O O O O O ae ae λy z=>?_;refine ak O (Ln (Eb (Et (Cr (I (Yi O O O ae) (ad O (Ln ?_)))))));rw [show ((g.1.length+1:Nat):Int)=(((g.1++[j.1]).length:Nat):Int) by simp]
  exact b8 ((g.1++[j.1],j.2,y,z):List bA×List UInt8×Option Addr×Nat) (by simp; omega) ⟨by simp; omega,by have:=lG p; dsimp only; omega,by
      dsimp only;rw [dG,gf,show b.1-(g.1.length+1)=m by omega]
      exact zp i p⟩ (λ_ h=>Ws.out 0 h)
 have A:b.1-g.1.length=0:=by simp at n; omega
 rw [A] at i;refine Ce (Ex (Ex (cB (Et (ag (ad O (ak O (aa (a7 ?_)))))))));refine R1 O O λw' c=>?_;exact .inl ⟨((g.1,g.2.1),g.2.2),O,(by rw [o]; exact zq i),(Ws.bu (Ws.bu (Ws.bu c 2 O) 2 O) 2 O)⟩
theorem XJ (a d:Nat) (s:List UInt8) (w:World) (u:s.length<=9223372036854775807) (c:Ws w [a,d] [ao a (.cells #[st (s)] 229 (0,0)),ao d (.cells #[.pointer (some ⟨a,0,none⟩)] 103 (0,0))] [] w) :
   Calls prog 59 #[.pointer (some ⟨a,0,none⟩),.func (.func 60) #[] #[.pointer (some ⟨d,0,none⟩)]] w λe w'=>(∃r:(List aD×List UInt8)×Option Addr×Nat,e = .returned (.slice r.2.1 r.1.1.length r.2.2)/\fp j' s=some r.1/\Ws w [a,d] [ao a (.cells #[st (r.1.2)] 229 (0,0)),ao d (.cells #[.pointer (some ⟨a,0,none⟩)] 103 (0,0)),bS 112 3 aD.cells r.2.1 r.2.2 (r.1.1)] [] w')\/(∃t:List UInt8,e = .panicked ht/\fp j' s=none/\Ws w [a,d] [ao a (.cells #[st (t)] 229 (0,0)),ao d (.cells #[.pointer (some ⟨a,0,none⟩)] 103 (0,0))] [] w'):=by
 refine enter func59 O 17 O O ?_;refine CE c (ag (ak O (aa (ag (ak O (LW (λ_ h=>h.eM 112 3) (aa (Cs (ag (ad O ?_))))))))));refine Lf 1 O ?_;refine dk [_] _ Y O aC O O _ _ _ _ _ _ ([]) aj (λw c=>Ax a s w u c) ?_ ?_
 ·intro t k;refine Ep (Ep ?_);refine bU λw' c=>?_;exact .inr ⟨t,O,(by unfold fp; rw [k]; rfl),Ws.iO (L:=[_,_]) (Ws.bu (Ws.bu c 2 O) 1 O)⟩
 intro b l;have B:=zr l;have C:=wZ l
 have o:fp j' s=f' j' b.1 b.2:=by unfold fp; rw [l]; rfl
 refine ad O (aa (Cb ?_));refine dc (ι:=List aD×List UInt8×Option Addr×Nat) (λg=>[(8,.int .i64 (g.1.length:Int)),(5,.slice g.2.2.1 g.1.length g.2.2.2)]) [(1,_),(4,_),(7,_)] (λg=>Ws w [a,d] [ao a (.cells #[st (g.2.1)] 229 (0,0)),ao d (.cells #[.pointer (some ⟨a,0,none⟩)] 103 (0,0)),bS 112 3 aD.cells g.2.2.1 g.2.2.2 (g.1)] []) (λg=>g.1.length<=b.1/\g.2.1.length<=9223372036854775807/\f' j' b.1 b.2=(f' j' (b.1-g.1.length) g.2.1).map λq=>(g.1++q.1,q.2)) (λg=>b.1-g.1.length) ([],b.2,none,0) ⟨cq _,by dsimp only; omega,aj⟩ (λ_ h=>(((h.f 1 O).f 2 O).f 2 O:)) ?_;intro g ⟨hi,v,i⟩;refine ag (I (ai O O) (aa (Cs ?_)));refine Cc O (λn=>?_) (λn=>?_)
 ·have D:g.1.length<b.1:=by simpa using n
  obtain ⟨m,x⟩:∃m,b.1-g.1.length=m+1:=⟨b.1-g.1.length-1,ae⟩;rw [x] at i;refine bk (Cs (Cb (Cr (ad O (ad O ?_)))));refine WL.zI [_,_] _ Y O aC O O _ _ _ _ _ _ ([]) aj (λw c=>Vc a d g.2.1 w v c) ?_ ?_
  ·intro t k;refine WE.cm (Ep (Ep (WE.cm (Ep ?_))));refine bU λw' c=>?_;exact .inr ⟨t,O,(by rw [o]; exact zo i k),Ws.iO (L:=[_,_]) (Ws.bu (Ws.bu c 1 O) 1 O)⟩
  intro j p;refine Lb Y O mD O O O O λE=>?_;refine cF 0 (.cells (aD.cells j.1).toArray 112 (0,0)) O O ?_;refine LA j.1 3 0 Y O mD O O O O O O ae ae λy z=>?_;refine ak O (Ln (Eb (Et (Cr (I (Yi O O O ae) (ad O (Ln ?_)))))));rw [show ((g.1.length+1:Nat):Int)=(((g.1++[j.1]).length:Nat):Int) by simp]
  exact b8 ((g.1++[j.1],j.2,y,z):List aD×List UInt8×Option Addr×Nat) (by simp; omega) ⟨by simp; omega,by have:=C0 p; dsimp only; omega,by
      dsimp only;rw [dG,gf,show b.1-(g.1.length+1)=m by omega]
      exact zp i p⟩ (λ_ h=>Ws.out 0 h)
 have A:b.1-g.1.length=0:=by simp at n; omega
 rw [A] at i;refine Ce (Ex (Ex (cB (Et (ag (ad O (ak O (aa (a7 ?_)))))))));refine R1 O O λw' c=>?_;exact .inl ⟨((g.1,g.2.1),g.2.2),O,(by rw [o]; exact zq i),(Ws.bu (Ws.bu (Ws.bu c 2 O) 2 O) 2 O)⟩
def vz:bD:=⟨[],[],0,[],[],[],0⟩
def Ay:iZ:=⟨(none,0),(none,0),(none,0),(none,0)⟩
theorem Ly (a:View):ld a Ay vz:=⟨Sl.nil,Sl.nil,Sl.nil,Sl.nil⟩
def o' (s:List UInt8):Option bD:=match kM s with | some (o,[])=>some o | _=>none
theorem Lz {s:List UInt8} {r:bD×List UInt8} (h:kM s=some r) (e:r.2=[]):o' s=some r.1:=by
 obtain ⟨o,t⟩:=r;subst e;unfold o';rw [h]
theorem Kq {s:List UInt8} {r:bD×List UInt8} (h:kM s=some r) (e:r.2≠[]):o' s=none:=by
 obtain ⟨o,t⟩:=r;unfold o';rw [h]
 cases t with
 | nil=>exact absurd rfl e
 | cons _ _=>rfl
theorem LB {s:List UInt8} (h:kM s=none):o' s=none:=by unfold o'; rw [h]
theorem LC (s:List UInt8):tb s=(o' s).bind λo=>if fw o=0 then some o else none:=by
 unfold tb
 cases h:kM s with
 | none=>rw [LB h]; rfl
 | some r=>
   by_cases e:r.2=[]
   · rw [Lz h e]
     show (if r.2=[]/\fw r.1=0 then some r.1 else none)=if fw r.1=0 then some r.1 else none
     by_cases a:fw r.1=0
     · rw [if_pos ⟨e,a⟩,if_pos a]
     · rw [if_neg (λk=>a k.2),if_neg a]
   · rw [Kq h e]
     show (if r.2=[]/\fw r.1=0 then some r.1 else none)=none
     rw [if_neg (λk=>e k.1)]
def mX (s:List UInt8):bD×Int:=if 32768<s.length then (vz,2) else match tb s with | some o=>(o,0) | none=>(vz,1)
theorem LD:zeroOf prog 4=some (.bool false):=ab
theorem LF:gx prog 229=some [(0,1)]:=ab
theorem LG:zeroOf prog 229=some (.agg #[st []]):=ab
theorem Vh (b:Nat) (s:List UInt8)  (w:World) (v:s.length<=9223372036854775807) (a:Ws w [b] [ao b (.cells #[st (s)] 229 (0,0))] [] w) :
   Calls prog 52 #[.pointer (some ⟨b,0,none⟩)] w λe w'=>(∃r:(bD×List UInt8)×iZ,e = .returned (.agg (gS r.1.1 r.2).toArray)/\kM s=some r.1/\Ws w [b] [ao b (.cells #[st (r.1.2)] 229 (0,0)),bS 9 1 c' r.2.s1.1 r.2.s1.2 (r.1.1.aq),bS 108 3 bA.cells r.2.s2.1 r.2.s2.2 (r.1.1.code),bS 112 3 aD.cells r.2.s3.1 r.2.s3.2 (r.1.1.fix),bS 3 1 e8 r.2.s4.1 r.2.s4.2 (r.1.1.aw)] [] w')\/(∃t:List UInt8,e = .panicked ht/\kM s=none/\Ws w [b] [ao b (.cells #[st (t)] 229 (0,0))] [] w'):=by
 refine enter func52 O 32 O O ?_;refine CE a (ag ?_);refine WL.box Y O O λo=>?_;refine Al Y O kc λy=>?_;refine aa (ag (I (Yd 1 O O O ab) (Lf 2 O ?_)));refine dk [_] _ Y O aC O O _ _ _ _ _ _ ([]) aj (λw a=>Av b (s) w v a) ?_ ?_
 ·intro t f;refine Ep ?_;refine bU λw' a=>?_;exact .inr ⟨t,O,(by unfold kM; simp only [f,bt,cW]),Wt 1 a⟩
 intro i g;refine I (Yb kc vr O O) ?_;refine Al Y O kc λz=>?_;refine aQ 0 Y O O O kD O O O (aa (Cs (fm 0 (.cells #[st i.1,.slice none 0 0,.int .i64 0,.slice none 0 0,.slice none 0 0,.slice none 0 0,.int .i64 0] 56 (0,0)) O O (Cr (I (Yd 3 O O O ab) (I (Yd 3 O O O ab) (I (Jo O) (Lf 1 O ?_))))))));refine dk (ι:=(List (List UInt8)×List UInt8)×Option Addr×Nat) (κ:=List UInt8) [_] _ Y O aC O O (λr=>.slice r.2.1 r.1.1.length r.2.2) (λr=>[ao b (.cells #[st (r.1.2)] 229 (0,0)),bS 9 1 c' r.2.1 r.2.2 (r.1.1)]) (λr=>fp ib i.2=some r.1) (λ_=>ht) (λt=>[ao b (.cells #[st (t)] 229 (0,0))]) (λ_=>fp ib i.2=none) ([]) aj (λw a=>Vd b (i.2) w (by have:=kO g; omega) a) ?_ ?_
 ·intro t f;refine Ep ?_;refine bU λw' a=>?_;exact .inr ⟨t,O,(by unfold kM; simp only [g,f,bt,cW]),Wt 1 a⟩
 intro c j;refine I (Yf sq O) (aQ 2 Y O O O xn O O O (aa (Cs (fm 2 (.cells #[st i.1,.slice c.2.1 c.1.1.length c.2.2,.int .i64 0,.slice none 0 0,.slice none 0 0,.slice none 0 0,.int .i64 0] 56 (0,0)) O O (Cr (I (Yd 4 O O O ab) ?_))))));refine dk (ι:=Int×List UInt8) (κ:=List UInt8) [_] _ Y O aC O O (λr=>.int .i64 r.1) (λr=>[ao b (.cells #[st (r.2)] 229 (0,0))]) (λr=>eR c.1.2=some r) (λ_=>ht) (λt=>[ao b (.cells #[st (t)] 229 (0,0))]) (λ_=>eR c.1.2=none) ([]) aj (λw a=>qc b (c.1.2) w (by have:=kO g; have:=oS (λ_ _=>kO) j; omega) a) ?_ ?_
 ·intro t f;refine Ep ?_;refine bU λw' a=>?_;exact .inr ⟨t,O,(by unfold kM; simp only [g,j,f,bt,cW]),Wt 1 a⟩
 intro l m;refine I (Yf xK O) (aQ 2 Y O O O dZ O O O (aa (Cs (fm 2 (.cells #[st i.1,.slice c.2.1 c.1.1.length c.2.2,.int .i64 l.1,.slice none 0 0,.slice none 0 0,.slice none 0 0,.int .i64 0] 56 (0,0)) O O (Cr (I (Yd 4 O O O ab) (I (pn O) (Lf 4 O ?_))))))));refine Lf 1 O ?_;refine dk (ι:=(List bA×List UInt8)×Option Addr×Nat) (κ:=List UInt8) [_,_] _ Y O aC O O (λr=>.slice r.2.1 r.1.1.length r.2.2) (λr=>[ao b (.cells #[st (r.1.2)] 229 (0,0)),ao o (.cells #[.pointer (some ⟨b,0,none⟩)] 103 (0,0)),bS 108 3 bA.cells r.2.1 r.2.2 (r.1.1)]) (λr=>fp jL l.2=some r.1) (λ_=>ht) (λt=>[ao b (.cells #[st (t)] 229 (0,0)),ao o (.cells #[.pointer (some ⟨b,0,none⟩)] 103 (0,0))]) (λ_=>fp jL l.2=none) ([]) aj (λw a=>Vf b o (l.2) w (by have:=kO g; have:=oS (λ_ _=>kO) j; have:=cD m; omega) a) ?_ ?_
 ·intro t f;refine Ep ?_;refine bU λw' a=>?_;exact .inr ⟨t,O,(by unfold kM; simp only [g,j,m,f,bt,cW]),Wt 1 a⟩
 intro d n;refine I (Yf ll O) (aQ 4 Y O O O xF O O O (aa (Cs (fm 4 (.cells #[st i.1,.slice c.2.1 c.1.1.length c.2.2,.int .i64 l.1,.slice d.2.1 d.1.1.length d.2.2,.slice none 0 0,.slice none 0 0,.int .i64 0] 56 (0,0)) O O (Cr (I (Yd 1 O O O ab) (I (pn O) ?_)))))));refine dk (ι:=(List aD×List UInt8)×Option Addr×Nat) (κ:=List UInt8) [_,_] _ Y O aC O O (λr=>.slice r.2.1 r.1.1.length r.2.2) (λr=>[ao b (.cells #[st (r.1.2)] 229 (0,0)),ao o (.cells #[.pointer (some ⟨b,0,none⟩)] 103 (0,0)),bS 112 3 aD.cells r.2.1 r.2.2 (r.1.1)]) (λr=>fp j' d.1.2=some r.1) (λ_=>ht) (λt=>[ao b (.cells #[st (t)] 229 (0,0)),ao o (.cells #[.pointer (some ⟨b,0,none⟩)] 103 (0,0))]) (λ_=>fp j' d.1.2=none) ([]) aj (λw a=>XJ b o (d.1.2) w (by have:=kO g; have:=oS (λ_ _=>kO) j; have:=cD m; have:=oS (λ_ _=>lG) n; omega) a) ?_ ?_
 ·intro t f;refine Ep ?_;refine bU λw' a=>?_;exact .inr ⟨t,O,(by unfold kM; simp only [g,j,m,n,f,bt,cW]),Wt 1 a⟩
 intro h p;refine I (Yf si O) (aQ 5 Y O O O Lh O O O (aa (Cs (fm 5 (.cells #[st i.1,.slice c.2.1 c.1.1.length c.2.2,.int .i64 l.1,.slice d.2.1 d.1.1.length d.2.2,.slice h.2.1 h.1.1.length h.2.2,.slice none 0 0,.int .i64 0] 56 (0,0)) O O (Cr (I (Yd 1 O O O ab) (I (Yd 1 O O O ab) (I (Jo O) ?_))))))));refine dk (ι:=(List Int×List UInt8)×Option Addr×Nat) (κ:=List UInt8) [_] _ Y O aC O O (λr=>.slice r.2.1 r.1.1.length r.2.2) (λr=>[ao b (.cells #[st (r.1.2)] 229 (0,0)),bS 3 1 e8 r.2.1 r.2.2 (r.1.1)]) (λr=>fp eR h.1.2=some r.1) (λ_=>ht) (λt=>[ao b (.cells #[st (t)] 229 (0,0))]) (λ_=>fp eR h.1.2=none) ([]) aj (λw a=>Ve b (h.1.2) w (by have:=kO g; have:=oS (λ_ _=>kO) j; have:=cD m; have:=oS (λ_ _=>lG) n; have:=oS (λ_ _=>C0) p; omega) a) ?_ ?_
 ·intro t f;refine Ep ?_;refine bU λw' a=>?_;exact .inr ⟨t,O,(by unfold kM; simp only [g,j,m,n,p,f,bt,cW]),Wt 1 a⟩
 intro k q;refine I (Yf o9 O) (aQ 6 Y O O O vo O O O (aa (Cs (fm 6 (.cells #[st i.1,.slice c.2.1 c.1.1.length c.2.2,.int .i64 l.1,.slice d.2.1 d.1.1.length d.2.2,.slice h.2.1 h.1.1.length h.2.2,.slice k.2.1 k.1.1.length k.2.2,.int .i64 0] 56 (0,0)) O O (Cr (I (Yd 2 O O O ab) ?_))))));refine dk (ι:=Int×List UInt8) (κ:=List UInt8) [_] _ Y O aC O O (λr=>.int .i64 r.1) (λr=>[ao b (.cells #[st (r.2)] 229 (0,0))]) (λr=>eR k.1.2=some r) (λ_=>ht) (λt=>[ao b (.cells #[st (t)] 229 (0,0))]) (λ_=>eR k.1.2=none) ([]) aj (λw a=>qc b (k.1.2) w (by have:=kO g; have:=oS (λ_ _=>kO) j; have:=cD m; have:=oS (λ_ _=>lG) n; have:=oS (λ_ _=>C0) p; have:=oS (λ_ _=>cD) q; omega) a) ?_ ?_
 ·intro t f;refine Ep ?_;refine bU λw' a=>?_;exact .inr ⟨t,O,(by unfold kM; simp only [g,j,m,n,p,q,f,bt,cW]),Wt 1 a⟩
 intro u x;refine I (Yf jt O) (aQ 6 Y O O O dZ O O O (aa (Cs (fm 6 (.cells (gS (⟨i.1,c.1.1,l.1,d.1.1,h.1.1,k.1.1,u.1⟩:bD) (⟨c.2,d.2,h.2,k.2⟩:iZ)).toArray 56 (0,0)) O O (Cr (I (cc 6 O O iI O) (aQ 7 Y O O O kD O O O (aa (a7 ?_)))))))));refine WE.t' 7 O O O iI O λw' a=>?_;exact .inl ⟨(((⟨i.1,c.1.1,l.1,d.1.1,h.1.1,k.1.1,u.1⟩:bD),u.2),(⟨c.2,d.2,h.2,k.2⟩:iZ)),O,(by unfold kM; simp only [g,j,m,n,p,q,x,bt]),Ws.iO (L:=[_,_,_,_,_]) (Ws.bu (Ws.bu (Ws.bu (Ws.bu (Ws.bu a 1 O) 3 O) 4 O) 5 O) 4 O)⟩
theorem Vi (a:Nat) (x:Bool) (w:World) (b:Ws w [a] [ao a (.cells #[.bool x] 4 (0,0))] [] w) :
   CallsD prog 130 #[.pointer (some ⟨a,0,none⟩)] (.returning) w λe c w'=>c = .returning/\(e = .returned (.tuple #[])/\Ws w [a] [ao a (.cells #[.bool x] 4 (0,0))] [] w'):=by
 refine rH func130 O 3 O O O O O (λ_=>rfl) (.inl ⟨O,O,O⟩) ?_;refine LW (W':=Ws w [a] [ao a (.cells #[.bool x] 4 (0,0))] []) (λ_ e=>by subst e; exact b) (I (yA tx O) (aa ?_));refine WC.kg O ?_;refine Ck ?_;refine E0 O λw' b=>?_;exact ⟨O,b⟩
theorem Vj (a:Nat) (x:Bool) (w:World) (b:Ws w [a] [ao a (.cells #[.bool x] 4 (0,0))] [] w) :
   CallsD prog 130 #[.pointer (some ⟨a,0,none⟩)] (.panicking [⟨.iface 278 (.agg #[]),false,false⟩]) w λe c w'=>c = .panicking [⟨.iface 278 (.agg #[]),true,false⟩]/\(e = .returned (.tuple #[])/\Ws w [a] [ao a (.cells #[.bool false] 4 (0,0))] [] w'):=by
 refine rH func130 O 3 O O O O O (λ_=>rfl) (.inr ⟨_,O,O,O⟩) ?_;refine LW (W':=Ws w [a] [ao a (.cells #[.bool x] 4 (0,0))] []) (λ_ e=>by subst e; exact b) (I (Bt tx O) (aa ?_));refine WC.ye O ?_;refine Cr (aQ 0 Y O O O zW O O O (Ln ?_));refine E0 O λw' b=>?_;exact ⟨O,b⟩
theorem Vk (s:List UInt8) (w:World) (d:s.length<=9223372036854775807) :
   Calls prog 51 #[st s,.func (.func 52) #[] #[]] w λe w'=>∃(o:bD) (ok:Bool) (q:iZ),e = .returned (.tuple #[.agg (gS o q).toArray,.bool ok])/\(ok=true->o' s=some o)/\(ok=false->o' s=none)/\Ws w [] [bS 9 1 c' q.s1.1 q.s1.2 (o.aq),bS 108 3 bA.cells q.s2.1 q.s2.2 (o.code),bS 112 3 aD.cells q.s3.1 q.s3.2 (o.fix),bS 3 1 e8 q.s4.1 q.s4.2 (o.aw)] [] w':=by
 refine yx func51 O 20 O O ?_;refine CE (Vs:=[]) (Ws.init aj) (ag ?_);refine Al Y O kc λj=>?_;refine Al Y O LD λb=>?_;refine aa (ag (I (pn O) ?_));refine WL.defer Y O ?_;refine aa (ag (ad O (I (Yb LG LF O O) ?_)));refine WL.box Y O O λf=>?_;refine ak O (aa (ag (ad O (ad O ?_))));refine WL.Br [_] _ Y O aC O O O _ _ _ _ _ _ ([]) aj (λw a=>Vh f s w d a) ?_ ?_
 ·intro t g;refine Ep ?_;refine WE.front 1 O ?_;refine WE.rG aC (nR [_] _ _ O (λw a=>Vj b _ w a)) (fu O (dX 2 O O iI O) (l2 0 O O O ab)) λw' a=>?_;refine ⟨vz,false,Ay,O,aj,λ_=>LB g,?_⟩;have h:=Ws.drop (L:=[_,_,_]) (L':=[]) a;exact ((((h).eM 3 1).eM 112 3).eM 108 3).eM 9 1
 intro r c;refine aQ 6 Y O O O kD O O O (aa (Cs ?_));refine WC.uh (nQ [.cell 4 56,.cell 5 4]) [6,5] [(1,true),(2,true),(3,true),(4,true),(5,true),(0,false),(6,false),(7,false)] mixed ab ab (λ_ _ _ _ _ i h=>rI (fn:=f51) [.cell 4 56,.cell 5 4] O i h) ?_;refine D0 O (cH [6,5]) (Ym O) (D0 O (cH [6,5]) (cJ O) (D0 O (cH [6,5]) (Yf vy O) (D0 O (cH [6,5]) (Yd 0 O O O ab) (D0 O (cH [6,5]) (qq O O) ?_))));refine De O (cH [6,5]) ?_;refine I (cc 6 O O iI O) (Ln (Ed ?_));refine De O (cH [6,5]) ?_;refine aQ 6 Y O O O kD O O O (Ln (Ed ?_));refine De O (cH [6,5]) ?_;refine aQ 5 Y O O O zW O O O (Ln (Ed ?_));refine WD.nil (cH [6,5]) ?_;refine Et (a7 ?_);refine WE.front 5 O ?_;refine WE.yz aC (nR [_] _ _ O (λw a=>Vi b _ w a)) (fu O (dX 6 O O iI O) (l2 0 O O O ab)) λw' a=>?_;refine ⟨r.1.1,r.1.2==[],r.2,O,λh=>Lz c (by simpa using h),λh=>Kq c (by simpa using h),?_⟩;exact Ws.iO (L:=[_,_,_,_]) (Ws.out 0 (Ws.out 0 a))
theorem Vl (s:List UInt8) (w:World) (j:s.length<=9223372036854775807) :
   Calls prog 19 #[st s] w λe w'=>∃q:iZ,e = .returned (.tuple #[.agg (gS (mX s).1 q).toArray,.int .i64 (mX s).2])/\Ext w w'/\ld (nv w w') q (mX s).1:=by
 refine enter func19 O 24 O O ?_;refine CE (Vs:=[]) (Ws.init aj) (ag ?_);refine Al Y O kc λt=>?_;refine ak O (aa (Cs (ag (ad O (I (nK ab O) (I (dO O O) (aa ?_)))))));refine Cc O (λf=>?_) (λf=>?_)
 ·have d:32768<s.length:=by simp at f; omega
  have b:mX s=(vz,2):=by rw [mX,if_pos d]
  refine ag (I (Yb kc vr O O) (aQ 0 Y O O O kD O O O (ak O (aa (a7 (Er ?_))))));refine WE.eB (fu O (dX 0 O O iI O) (gG O)) λw' a=>?_;rw [b];exact ⟨Ay,O,a.fr,Ly _⟩
 have d:¬32768<s.length:=by simp at f; omega
 refine bk (ag (ad O ?_));refine Lw (ι:=bD×Bool×iZ) [] _ Y O aC O O (λr=>.tuple #[.agg (gS r.1 r.2.2).toArray,.bool r.2.1]) (λr=>[bS 9 1 c' r.2.2.s1.1 r.2.2.s1.2 (r.1.aq),bS 108 3 bA.cells r.2.2.s2.1 r.2.2.s2.2 (r.1.code),bS 112 3 aD.cells r.2.2.s3.1 r.2.2.s3.2 (r.1.fix),bS 3 1 e8 r.2.2.s4.1 r.2.2.s4.2 (r.1.aw)]) (λr=>(r.2.1=true->o' s=some r.1)/\(r.2.1=false->o' s=none)) [] aj (λw a=>(Vk s w j).mono λe w' ⟨o,ok,q,k,l,m,n⟩=>⟨(o,ok,q),k,⟨l,m⟩,n⟩) ?_;intro r h;refine ad O (I (Yx O O) (I (Yx O O) ?_));refine Al Y O kc λu=>?_;refine aQ 0 Y O O O kD O O O (ak O (aa (Cs (ag (ad O (I (e5 O) (ad O ?_)))))));apply Lo 3 O O O O Y O O O O O
 ·intro v;refine Vg (cc 0 O O iI O) (Lp (.g O O O) O aC O (λw a=>EA (hv w) r.1 r.2.2 w (jU w) ⟨a.wi 1 O hO cp,a.wi 2 O bA.ck cp,a.wi 3 O aD.ck cp,a.wi 4 O y4 cp⟩) (Vg (fz O O) ?_));exact Gt 3 O O O
 refine aa ?_;refine Cc O (λc=>?_) (λc=>?_)
 ·have b:mX s=(vz,1):=by
    rw [mX,if_neg d,LC]
    cases i:r.2.1 with
    | false=>rw [h.2 i]; rfl
    | true=>
      rw [h.1 i]
      have p:¬fw r.1=0:=by simpa [i] using c
      rw [bt,if_neg p]
  refine ag (I (Yb kc vr O O) (aQ 5 Y O O O kD O O O (ak O (aa (a7 (Er ?_))))));refine WE.eB (fu O (dX 5 O O iI O) (gG O)) λw' a=>?_;rw [b];exact ⟨Ay,O,a.fr,Ly _⟩
 have b:mX s=(r.1,0):=by
   rw [mX,if_neg d,LC];simp at c;rw [h.1 c.1,bt,if_pos c.2]
 refine bk (ag (I (cc 0 O O iI O) (aQ 5 Y O O O kD O O O (ak O (aa (a7 ?_))))));refine WE.eB (fu O (dX 5 O O iI O) (gG O)) λw' a=>?_;rw [b];exact ⟨r.2.2,O,a.fr,⟨a.iP 1 O hO cp,a.iP 2 O bA.ck cp,a.iP 3 O aD.ck cp,a.iP 4 O y4 cp⟩⟩
abbrev XO:=bD×iZ
def XO.cells (e:XO):List Value:=gS e.1 e.2
theorem XO.ck (e:XO):(XO.cells e).length=7:=rfl
def Az (a:View) (b o:Nat) (e:XO):Prop:=bR a b o (XO.cells e)
def vA (a:View) (b o:Nat) (x:bD):Prop:=∃q,bR a b o (gS x q)/\ld a q x
theorem vB {a b:View} {q:iZ} {o:bD} (h:ld a q o) (hv:bF a b):ld b q o:=⟨h.aq.imp λ_ _ _ r=>bR.mono hv r,h.code.imp λ_ _ _ r=>bR.mono hv r,h.fix.imp λ_ _ _ r=>bR.mono hv r,h.aw.imp λ_ _ _ r=>bR.mono hv r⟩
theorem Vm {d N:View} {a:Option Addr} {c:Nat} {es:List XO} (h:Sl Az 7 d a c es) (hv:bF d N) (j:∀e ∈ es,ld N e.2 e.1):Sl vA 7 N a c (es.map (·.1)):=by
 refine ⟨by rw [eo]; exact h.cap,h.max,h.spot,λi x f=>?_⟩;rw [eZ] at f;obtain ⟨y,g,rfl⟩:=dr.1 f;obtain ⟨b,o,k,l⟩:=h.bT i y g;exact ⟨b,o,k,y.2,bR.mono hv l,j y (ax g)⟩
theorem Vn {s:List UInt8} {o:bD} (a:s.length<=32768) (h:tb s=some o):mX s=(o,0):=by rw [mX,if_neg ae,h]
theorem LH (a:View) (ke k:Nat) (u:cb) (r:jG) (w:World) (b:Le a w) (c:iV ke k a r u) (d:qG u<=1048576):Calls prog 26 #[.agg (fH u r).toArray] w λe w'=>∃r:iZ,e = .returned (.tuple #[.agg (gS (fJ u).1.to r).toArray,.int .i64 (fJ u).2])/\Ext w w'/\ld (nv w w') r (fJ u).1.to:=
 (UR a ke k u r w b c d).mono λe w' ⟨r,f,g,h⟩=>⟨r,by rw [f,P0],g,NJ h⟩
def np (p:Pl) (q:SP):List Value:=[.int .i64 p.code,.int .i64 p.data,.slice q.1 p.qE.length q.2]
abbrev jv:=Pl×SP
def jv.cells (e:jv):List Value:=np e.1 e.2
theorem jv.ck (e:jv):(jv.cells e).length=3:=rfl
def LI (a:View) (b o:Nat) (e:jv):Prop:=bR a b o (jv.cells e)
def tL (J:View) (e:jv):Prop:=Sl pH 1 J e.2.1 e.2.2 e.1.qE
theorem vE {A B:View} {e:jv} (hv:bF A B) (h:tL A e):tL B e:=Sl.imp (λb o x h=>bR.mono hv h) h
def wg (a:View) (b o:Nat) (p:Pl):Prop:=∃q:SP,bR a b o (np p q)/\Sl pH 1 a q.1 q.2 p.qE
theorem Vo {d J N:View} {c:Nat} {a:Option Addr} {es:List jv} (h:Sl LI 3 d a c es) (hv:bF d N) (f:bF J N) (g:Xs tL J es):Sl wg 3 N a c (es.map (·.1)):=
 hT h g λb o e i j=>⟨e.2,bR.mono hv i,vE f j⟩
def qd (l:List bD):List Pl:=if iC l=0 then mN l++[pP l] else []
theorem xP {l:List bD} (h:¬iC l=0):qd l=[]:=by rw [qd,if_neg h]
structure LJ where
 i:Nat
 es:List jv
 oa:SP
 J:View
theorem Vp (l:List bD):(mN l).take l.length=mN l:=kF (by rw [r4]; exact dp _)
theorem Vq {U n:Nat} {k m a:Int} (h:i' U n k m a=true) (b:k=2):0<=a/\a<=2048/\0<=m/\m<=(U:Int):=by
 subst b;unfold i' at h;rw [if_neg aF,if_pos (.inl rfl)] at h;simp only [cO,decide_eq_true_eq] at h;omega
theorem ln:fk prog 45=some 7:=ab
theorem LK:gx prog 121=some [(0,1),(1,1),(2,1)]:=ab
theorem xQ:zeroOf prog 121=some (.agg #[.int .i64 0,.int .i64 0,.slice none 0 0]):=ab
theorem EG:dI prog 121=some 3:=ab
theorem sr:cx prog 121 0=some 0:=ab
theorem vC:cx prog 121 1=some 1:=ab
theorem AB:cx prog 121 2=some 2:=ab
theorem EH:gP prog 121=some 3:=ab
theorem AD:gg prog 117 121 (.agg #[.int .i64 0,.int .i64 0,.slice none 0 0]) 3 40:=iN ab
theorem ss:fk prog 117=some 3:=ab
theorem Vr (A:View) (a:Option Addr) (c:Nat) (l:List bD) (w:World) (bi:Le A w) (L:Sl vA 7 A a c l) :
   Calls prog 63 #[.slice a l.length c] w λe w'=>∃q:SP,e = .returned (.tuple #[.slice q.1 (qd l).length q.2,.int .i64 (iC l)])/\Ext w w'/\Sl wg 3 (nv w w') q.1 q.2 (qd l):=by
 have cn:=L.cap;have co:=L.max;refine enter func63 O 163 O O ?_;refine CE (Vs:=[A]) (Ws.init (by simp [bi])) (ag (ak O (ak O (aa (Cs (ag (ad O (I (Yn ln O) (I (ai O O) ?_)))))))));refine ad O ?_;apply Lo 3 O O O O Y O O O O O
 ·intro bj;refine Vg (Ym O) (Vg (Yn ln O) (Vg (dO O O) ?_));exact Gt 3 O O O
 refine aa ?_;refine Cc O (λaj=>?_) (λaj=>?_)
 ·have K:l.length<1\/4<l.length:=by simp at aj; omega
  have v:=Ih K;refine ag (ak O (ak O (aa (a7 (Er ?_)))));refine WE.gZ O O O λw' z=>?_;rw [xP (by rw [v]; decide),v];exact ⟨(none,0),O,z.fr,Sl.nil⟩
 have K:¬(l.length<1\/4<l.length):=by simp at aj; omega
 refine bk (ag ?_);refine WL.nc st Y O λbl=>?_;refine ak O (aa (Cs (ag (ad O (I (Yn ln O) (ad O (aa (Cb ?_))))))));refine dc (ι:=Nat×List (dP (List UInt8))×Nat) (λt=>[(33,.int .i64 (t.1:Int))]) [(0,_),(4,_),(31,_),(32,_)] (λt=>Ws w [] [ao bl (ar st t.2.1 t.2.2)] [A]) (λt=>t.1<=l.length/\(∀o ∈ l.take t.1,fw o=0)/\qS (aO l) t.1 t.2.1) (λt=>l.length-t.1) (0,[],0) ⟨cq _,by simp,qS.zero _⟩ (λ_ h=>h) ?_;intro t ⟨bj,F,T⟩;refine ag (I (ai O O) (aa (Cs ?_)));refine Cc O (λal=>?_) (λal=>?_)
 ·have C:t.1<l.length:=by simpa using al
  obtain ⟨o,u⟩:∃q,l[t.1]? = some q:=⟨_,dL C⟩;obtain ⟨aR,aS,N,P⟩:=L.bT t.1 o u;obtain ⟨G,Q,r⟩:=P;have U:=ax u;have aT:=r.aq.cap;have aU:=r.aq.max;have aV:=r.fix.cap;have aW:=r.fix.max;have aX:=r.code.cap;have aY:=r.code.max;refine bk (Cs (Cb (ag (I (Yo ln O O N C) (I (dV 0 iI O O O (Q)) ?_)))));refine Al Y O kc λcp=>?_;refine aQ 0 Y O O O kD O O O (aa (Cs (Cs (fm 0 (.cells (gS o G).toArray 56 (0,0)) O O (Cr (I (cc 0 O O iI O) (Lp Y O aC O (λw z=>EA A o G w (z.vs _ (by simp)) r) (ak O (aa (ag ?_))))))))));refine ad O (I (fz O O) (aa ?_));refine Cc O (λam=>?_) (λam=>?_)
  ·have E:¬fw o=0:=by simpa using am
   have v:=Qn K u F E;refine ag (ad O (ak O (ak O (aa (a7 (Er (cG (Er (Er (cG (Er ?_)))))))))));refine WE.gZ O O O λw' z=>?_;rw [xP (by rw [v]; exact E),v];exact ⟨(none,0),O,z.fr,Sl.nil⟩
  have E:fw o=0:=by simpa using am
  refine bk (Cr (ad O (I (Yf xJ O) (I (Yd 0 O O O ab) (I (qx 1 h4 ih ab b0 O O O) ?_)))));rw [T.1 o.nm];refine I (l0 O O (by have B:((aO l).take t.1).count o.nm<=((aO l).take t.1).length:=Fv; rw [jh,uV] at B; omega)) ?_;refine WL.oz 1 h4 Y ih ab O O O O ?_;refine Ln (Eb (Et (Cr (I (Yi O O O (by omega)) (ad O (Ln ?_))))));exact b8 ((t.1+1,_,_):Nat×List (dP (List UInt8))×Nat) (by show _-(t.1+1)<_; omega) ⟨(by show t.1+1<=_; omega),Ia u F E,T.step (Ig u) _⟩ (λ_ h=>Wd 1 h)
 have a0:t.1=l.length:=by simp at al; omega
 rw [a0,ew] at F;rw [a0,<-uV l] at T;have a1:=T.aH;refine Ce (Ex (Ex (cB (Et (Cs (ag (ad O (I (Bp 0 ih O O) (ad O (I (Yn ln O) (I (ai O O) (aa ?_))))))))))));refine Cc O (λan=>?_) (λan=>?_)
 ·have V:e6 (aO l)=true:=a1.1 (by rw [uV]; simp at an; omega)
  have v:iC l=6:=by rw [zu K F,if_pos V]
  refine ag (ak O (ak O (aa (a7 (Er ?_)))));refine WE.gZ O O O λw' z=>?_;rw [xP (by rw [v]; decide),v];exact ⟨(none,0),O,z.fr,Sl.nil⟩
 have V:e6 (aO l)=false:=by
   cases bm:e6 (aO l) with
   | false=>rfl
   | true=>have:=a1.2 bm; rw [uV] at this; simp at an; omega
 have bn:=jl.2 V;have S:=zu K F;rw [V,if_neg (by decide)] at S;refine bk (ag ?_);refine WL.nc st Y O λW=>?_;refine ak O (aa (ag (ad O (I (Yn ln O) (I (Yi O O O (by omega)) (I (Yb xQ LK O O) ?_))))));refine Al Y O xQ λX=>?_;refine aQ 0 Y O O O EG O O O (aa (ag (ak O (aa (Cs (Cs (fm 0 (.cells #[.int .i64 ((l.length:Int)+1),.int .i64 0,.slice none 0 0] 121 (0,0)) O O ?_)))))))
 have bo:((l.length:Int)+1)=e9 l 0:=by simp [e9,qP]
 rw [bo];refine fm 0 (.cells #[.int .i64 (e9 l 0),.int .i64 (gT l 0),.slice none 0 0] 121 (0,0)) O O ?_;refine dJ (λ_ h=>h.eM 121 3) ?_;refine dJ (λ_ h=>h.v0) ?_;refine Cr (ad O (I (Yn ln O) (ad O (aa (Cb ?_)))));refine dc (ι:=LJ) (λg=>[(60,.int .i64 (g.i:Int)),(10,.slice g.oa.1 g.es.length g.oa.2)]) [(0,_),(8,_),(9,_),(58,_),(59,_)] (λg=>Ws w [] [bS 121 3 jv.cells g.oa.1 g.oa.2 g.es,ao W (ar st (gH ((aO l).take g.i) 0) g.i),ao X (.cells #[.int .i64 (e9 l g.i),.int .i64 (gT l g.i),.slice none 0 0] 121 (0,0))] [g.J,A]) (λg=>g.i<=l.length/\g.es.map (·.1)=(mN l).take g.i/\(fj w g.J/\Xs tL g.J g.es)/\∀n o,n<g.i->l[n]? = some o->r3 ((aO l).take n) o=true) (λg=>l.length-g.i) ⟨0,[],(none,0),v0⟩ ⟨cq _,O,⟨nh _,Xs.nil _⟩,λn o h=>absurd h (Bb _)⟩ (λ_ h=>by have h:=h.bu 1 O; have h:=h.bu 2 O; have h:=h.bu 2 O; have h:=Wt 3 h; have h:=Ws.av h (b3:=[v0,A]) (by simp); exact h) ?_;intro g ⟨cr,M,⟨a2,ap⟩,a3⟩;refine ag (I (ai O O) (aa (Cs ?_)));refine Cc O (λau=>?_) (λau=>?_)
 ·have C:g.i<l.length:=by simpa using au
  obtain ⟨o,u⟩:∃q,l[g.i]? = some q:=⟨_,dL C⟩;obtain ⟨aR,aS,N,P⟩:=L.bT g.i o u;obtain ⟨G,Q,r⟩:=P;have U:=ax u;have aT:=r.aq.cap;have aU:=r.aq.max;have aV:=r.fix.cap;have aW:=r.fix.max;have aX:=r.code.cap;have aY:=r.code.max;have E:=F o U;have Z:=iM E;have cs:=Z.aq;have bp:=Z.code;have ct:=Im E;have a4:=Ig u;have a5:=Pq bn a4
  have a6:((aO l).take g.i).length=g.i:=by rw [jh,uV]; omega
  have bq:(aO l).take (g.i+1)=((aO l).take g.i)++[o.nm]:=by rw [aZ,a4]; rfl
  have cv:=zv K F (k:=g.i) (by omega);have cw:=zw K F (k:=g.i) (by omega)
  have br:g.es.length=g.i:=by rw [<-eo,M,jh,r4]; omega
  refine bk (Cs (Cb (ag (ad O (I (Yo ln O O N C) (I (dV 1 iI O O O (Q)) ?_))))));refine Al Y O kc λbs=>?_;refine ak O (aQ 0 Y O O O kD O O O (aa (Cs (fm 0 (.cells (gS o G).toArray 56 (0,0)) O O (Cr (I (Yf sr O) (I (Yd 3 O O O ab) (I (Yf vC O) ?_))))))));refine I (Yd 3 O O O ab) (ad O ?_);refine Lb Y O h2 O O O O λbt=>?_;refine cF 0 (.cells ((([g.i]:List Nat)).flatMap n0).toArray 3 (0,0)) O O (LW (λ_ h=>h.pt (f:=n0) (xs:=([g.i]:List Nat)) (c:=1) 0 O CL O (by decide)) (I (Yb xQ LK O O) ?_));refine Al Y O xQ λbv=>?_;refine aQ 0 Y O O O EG O O O (aa (Cs (ag (I (Yf sq O) (I (Yd 2 O O O ab) (I (Yn dy O) (ad O (aa (Cb ?_)))))))));refine dc (ι:=Nat×SP) (λb=>[(75,.int .i64 (b.1:Int))]) [(0,_),(8,_),(9,_),(10,_),(11,_),(12,_),(13,_),(58,_),(59,_),(60,_),(73,_),(74,_)] (λb=>Ws w [] [bS 3 1 n0 b.2.1 b.2.2 (g.i::(o.aq.take b.1).map (qQ ((aO l).take g.i))),ao bv (.cells #[.int .i64 (e9 l g.i),.int .i64 (gT l g.i),.slice b.2.1 (g.i::(o.aq.take b.1).map (qQ ((aO l).take g.i))).length b.2.2] 121 (0,0)),ao bs (.cells (gS o G).toArray 56 (0,0)),bS 121 3 jv.cells g.oa.1 g.oa.2 g.es,ao W (ar st (gH ((aO l).take g.i) 0) g.i),ao X (.cells #[.int .i64 (e9 l g.i),.int .i64 (gT l g.i),.slice none 0 0] 121 (0,0))] [g.J,A]) (λb=>b.1<=o.aq.length/\((o.aq.take b.1).all λs=>(idxOf s ((aO l).take g.i) 0).isSome)=true) (λb=>o.aq.length-b.1) (0,(some ⟨bt,0,none⟩,1)) ⟨cq _,O⟩ (λ_ h=>by exact ((((((h.f 5 O).f 5 O).f 5 O).f 5 O).f 4 O).f 5 O:)) ?_;intro b ⟨cx,ay⟩;refine ag (I (ai O O) (aa (Cs ?_)));refine Cc O (λaz=>?_) (λaz=>?_)
  ·have C:b.1<o.aq.length:=by simpa using az
   obtain ⟨s,ac⟩:∃q,o.aq[b.1]? = some q:=⟨_,dL C⟩;obtain ⟨bw,pos,bx,aA⟩:=r.aq.bT b.1 s ac;have aA:bR A bw (pos+b.1*1) (c' s):=aA;refine bk (Cs (Cb (ag (I (Yo dy O O bx C) (I (cu 1 ab O O (aA 0 _ O)) (ak O (aa (ag (ad O (ad O (I (yH 4 h4 ih ab b0 O O O) ?_)))))))))));rw [(wL _ _).1,(wL _ _).2];refine ad O (I (Yx O O) (I (Yx O O) (ak O (ak O (aa (Cs (ag (ad O (I (e5 O) ?_)))))))));refine aa ?_;refine Cc O (λaB=>?_) (λaB=>?_)
   ·have bz:(idxOf s ((aO l).take g.i) 0).isSome=false:=by simpa using aB
    have v:iC l=9:=by
      rw [S,if_pos (C1 u ?_)];rw [sG,r3,jH];exact ⟨s,ax ac,by rw [bz]; decide⟩
    refine ag (ak O (ak O (aa (a7 (Er (cG (Er (Er (cG (Er (cG (Er (Er (cG (Er ?_)))))))))))))));refine WE.gZ O O O λw' z=>?_;rw [xP (by rw [v]; decide),v];exact ⟨(none,0),O,z.fr,Sl.nil⟩
   have bA:(idxOf s ((aO l).take g.i) 0).isSome=true:=by simpa using aB
   refine bk (Cr (I (Yf AB O) (I (Yd 1 O O O ab) (ad O ?_))));refine Lb Y O h2 O O O O λcy=>?_;refine cF 0 (.cells (n0 (qQ ((aO l).take g.i) s)).toArray 3 (0,0)) O (O) ?_;refine LA (qQ ((aO l).take g.i) s) 1 0 Y O h2 O O O O O O (by simp; omega) (by simp; omega) λbB bC=>?_;rw [show (g.i::(o.aq.take b.1).map (qQ ((aO l).take g.i)))++[qQ ((aO l).take g.i) s]=(g.i::(o.aq.take (b.1+1)).map (qQ ((aO l).take g.i))) by rw [aZ,ac]; simp];refine I (Yf AB O) (aQ 2 Y O O O vo O O O (Ln (Eb (Et (Cr (I (Yi O O O (by omega)) (ad O (Ln ?_))))))));exact b8 ((b.1+1,(bB,bC)):Nat×SP) (by show _-(b.1+1)<_; omega) ⟨(by show b.1+1<=_; omega),wF ac ay bA⟩ (λ_ h=>Wd 1 h)
  have bE:b.1=o.aq.length:=by simp at az; omega
  refine Ce (Ex (Ex (cB (Et (Cs ?_)))));have bF:b.1=o.aq.length:=bE;rw [bF,ew] at ay ⊢;refine WC.nj (rd:=pH) 0 O (by simp) CL (λ_ _ _ _ h=>h) λcz bG bH=>?_;refine WC.h6 λbI bJ bK bL=>?_;refine Cr (ad O (I (Yf xJ O) (I (Yd 1 O O O ab) (ad O ?_))));refine WL.oz 3 h4 Y ih ab O O O O ?_;refine aa (Cs ?_);rw [(HE a5 a6).1,(HE a5 a6).2,<-bq];refine Cr (I (Yf sr O) (I (Yd 4 O O O ab) (I (Yf ll O) (I (Yd 1 O O O ab) (I (Yn ju O) (I (l0 O O (by omega)) (I (Yf sr O) ?_)))))));refine aQ 4 Y O O O dZ O O O (aa (Cs ?_));rw [<-C3 u];refine Cr (I (Yf vC O) (I (Yd 4 O O O ab) (I (Yf xK O) (I (Yd 1 O O O ab) (I (l0 O O (by omega)) (I (Yf vC O) (aQ 4 Y O O O dZ O O O ?_)))))));refine aa ?_;rw [<-Qq u];refine Cr (ad O (I (cc 0 O O EH O) ?_));refine Lb Y O AD O O O O λcA=>?_;refine cF 0 (.cells (jv.cells (oT l g.i o,b.2)).toArray 121 (0,0)) O (O) ?_;refine LA (((oT l g.i o,b.2):jv)) 3 0 Y O AD O O O O O O (by omega) (by omega) λbM bN=>?_;refine ak O (Ln (Eb (Et (Cr (I (Yi O O O (by omega)) (ad O (Ln ?_)))))))
  exact b8 (⟨g.i+1,g.es++[(oT l g.i o,b.2)],(bM,bN),bI⟩:LJ) (by show _-(g.i+1)<_; omega) ⟨by show g.i+1<=_; omega,by show (g.es++[(oT l g.i o,b.2)]).map (·.1)=_; rw [nI,M,Qr u]; rfl,⟨bL _ bG a2,Xs.snoc (R:=tL) (λhv h=>vE hv h) ap bK bJ bH⟩,λn aD D B=>by
      rcases mZ.1 D with h | h
      · exact a3 n aD h B
      · subst h; rw [u] at B; injection B with B; subst B; exact ay⟩ (λ_ h=>Wd 3 h)
 have a8:g.i=l.length:=by simp at au; omega
 rw [a8,Vp] at M;rw [a8]
 have br:g.es.length=l.length:=by rw [<-eo,M,r4]
 have a9:∀n o,l[n]? = some o->r3 ((aO l).take n) o=true:=λn o D=>a3 n o (by have:=(cf.1 D).1; omega) D;rw [zt (λn o D=>by rw [a9 n o D]; rfl),if_neg (by decide)] at S;refine Ce (Ex (Ex (cB (Et (Cs (Cs ?_))))));refine WC.sM 0 O (by show 0<g.es.length; omega) λcC a' cD cE=>?_;refine Cr (ad O (I (Yn ln O) (ad O (aa (Cb ?_)))));refine dc (ι:=Nat) (λj=>[(118,.int .i64 (j:Int))]) [(0,_),(9,_),(10,_),(116,_),(117,_)] (λj=>Ws w [] [bS 121 3 jv.cells g.oa.1 g.oa.2 g.es,ao W (ar st (gH ((aO l).take l.length) 0) l.length),ao X (.cells #[.int .i64 (e9 l l.length),.int .i64 (gT l l.length),.slice none 0 0] 121 (0,0))] [g.J,A]) (λj=>j<=l.length/\∀n o,n<j->l[n]? = some o->∀f ∈ o.fix,pQ l n o f=false) (λj=>l.length-j) 0 ⟨cq _,λn o h=>absurd h (Bb _)⟩ (λ_ h=>h) ?_;intro j ⟨cH,a_⟩;refine ag (I (ai O O) (aa (Cs ?_)));refine Cc O (λaE=>?_) (λaE=>?_)
 ·have aF:j<l.length:=by simpa using aE
  obtain ⟨o,u⟩:∃q,l[j]? = some q:=⟨_,dL aF⟩;obtain ⟨aR,aS,N,P⟩:=L.bT j o u;obtain ⟨G,Q,r⟩:=P;have U:=ax u;have aT:=r.aq.cap;have aU:=r.aq.max;have aV:=r.fix.cap;have aW:=r.fix.max;have aX:=r.code.cap;have aY:=r.code.max;have E:=F o U;have bO:=(tc E).2;have Z:=iM E;have bp:=Z.code;refine bk (Cs (Cb (ag (ad O (I (Yo ln O O N aF) (I (dV 1 iI O O O (Q)) ?_))))));refine Al Y O kc λbP=>?_;refine ak O (aQ 0 Y O O O kD O O O (aa (Cs (fm 0 (.cells (gS o G).toArray 56 (0,0)) O O (Cr (I (Yf si O) (I (Yd 0 O O O ab) (I (Yn rf O) ?_))))))));refine ad O (aa (Cb ?_));refine dc (ι:=Nat) (λk=>[(126,.int .i64 (k:Int))]) [(0,_),(9,_),(10,_),(18,_),(19,_),(116,_),(117,_),(118,_),(124,_),(125,_)] (λk=>Ws w [] [ao bP (.cells (gS o G).toArray 56 (0,0)),bS 121 3 jv.cells g.oa.1 g.oa.2 g.es,ao W (ar st (gH ((aO l).take l.length) 0) l.length),ao X (.cells #[.int .i64 (e9 l l.length),.int .i64 (gT l l.length),.slice none 0 0] 121 (0,0))] [g.J,A]) (λk=>k<=o.fix.length/\∀f ∈ o.fix.take k,pQ l j o f=false) (λk=>o.fix.length-k) 0 ⟨cq _,by simp⟩ (λ_ h=>h) ?_;intro k ⟨cI,aG⟩;refine ag (I (ai O O) (aa (Cs ?_)));refine Cc O (λaI=>?_) (λaI=>?_)
  ·have C:k<o.fix.length:=by simpa using aI
   obtain ⟨x,ae⟩:∃q,o.fix[k]? = some q:=⟨_,dL C⟩;obtain ⟨bQ,bU,bV,aJ⟩:=r.fix.bT k x ae;have aJ:bR A bQ (bU+k*3) x.cells:=aJ;refine bk (Cs (Cb (ag (I (Yo rf O O bV C) (I (dV 1 vv O O O (aJ)) ?_)))));refine Al Y O sj λcJ=>?_;refine aQ 0 Y O O O vw O O O (aa (Cs (fm 0 (.cells (x.cells).toArray 112 (0,0)) O O ?_)));refine WC.k3 [(0,true),(1,true),(2,true),(3,true),(4,true),(5,true),(6,true),(7,true),(8,true),(9,true),(10,true),(11,true),(12,true),(13,true),(14,true),(15,true),(16,true),(17,true),(18,true),(19,true),(20,true),(21,true),(22,true),(23,true),(24,true),(25,true),(26,true)] mixed (by kernel_rfl) (λ_ _ _ d _ h=>by cases d<;>exact h) ?_;refine D0 O (λ_ h=>h) (Yf xM O) (D0 O (λ_ h=>h) (Yd 0 O O O ab) (D0 O (λ_ h=>h) (bY O O) (D0 O (λ_ h=>h) (Ym O) ?_)));apply WD.and 22 (x:=decide ((iS l (hU l j o x.m):Int)<=j8 o.code x.at_)) O O O O O Y O (λ_ h=>h) O O O O
   ·intro bW
    have bX:x.kind=2:=by simpa using bW
    have ba:=bO.fix x (ax ae);obtain ⟨p,cK,bZ⟩:=pM ba.1
    have bb:x.at_.toNat=p:=by omega
    obtain ⟨y,bc⟩:∃y,o.code[p]? = some y:=⟨_,dL bZ⟩;obtain ⟨bd,be,b1,af⟩:=r.code.bT p y bc;have af:bR A bd (be+p*3) y.cells:=af;rw [<-bb] at af;have b2:=Lu bb bc
    have b4:vc A bd (be+x.at_.toNat*3+1)=some (.int .i64 (j8 o.code x.at_)):=by
      rw [b2];exact af 1 _ O
    obtain ⟨cL,cM,b5,b6⟩:=Vq ba.2 bX;obtain ⟨b7,bf⟩:=Io aF (a9 j o u) b5 b6;obtain ⟨e,aK⟩:∃e,g.es[j]? = some e:=⟨_,dL (by omega)⟩
    have bg:e.1=oT l j o:=by
      have H:(g.es.map (·.1))[j]? = some e.1:=by rw [eZ,aK]; rfl
      rw [M,C4 u] at H
      injection H with H
      exact H.symm
    have aL:Sl pH 1 g.J e.2.1 e.2.2 (c6 l j o):=by
      have H:=ap e (ax aK);unfold tL at H;rw [bg] at H;exact H
    have cN:=aL.cap;have cO:=aL.max;have b9:=C6 l j o;have cP:(oT l j o).qE.length=o.aq.length+1:=b9;obtain ⟨b',b_,ca,aM⟩:=aL.bT x.m.toNat _ b7;have aM:bR g.J b' (b_+x.m.toNat*1) (n0 (hU l j o x.m)):=aM;obtain ⟨ah,bh⟩:∃ah,l[hU l j o x.m]? = some ah:=⟨_,dL bf⟩;obtain ⟨cQ,cR,cb,cS,cd,cT⟩:=L.bT _ ah bh
    have ce:iS l (hU l j o x.m)=ah.aw.length:=by unfold iS; rw [bh]; rfl
    refine Dq O (.g O O O) O (λ_ h=>h) (Yf ll O) (Dq O (.g O O O) O (λ_ h=>h) (Yd 1 O O O ab) (Dq O (.g O O O) O (λ_ h=>h) (Yf tJ O) (Dq O (.g O O O) O (λ_ h=>h) (Yd 0 O O O ab) (Dq O (.g O O O) O (λ_ h=>h) (wb ju O O b1 (by omega) (by omega)) (Dq O (.g O O O) O (λ_ h=>h) (Yf vp O) (Dq O (.g O O O) O (λ_ h=>h) (cu 1 ab O O (b4)) (Dq O (.g O O O) O (λ_ h=>h) (Ym O) ?_)))))));refine Dq O (.g O O O) O (λ_ h=>h) (Ym O) (Dq O (.g O O O) O (λ_ h=>h) (Ym O) (Dq O (.g O O O) O (λ_ h=>h) (Yo ss O O a' (by omega)) (Dq O (.g O O O) O (λ_ h=>h) (Yf AB O) (Dq O (.g O O O) O (λ_ h=>h) (dz (y:=e) 2 j 2 O O a' O jv.ck aK (by rw [show jv.cells e=np e.1 e.2 from O,bg]; rfl) ab) (Dq O (.g O O O) O (λ_ h=>h) (Yf rh O) (Dq O (.g O O O) O (λ_ h=>h) (Yd 0 O O O ab) (Dq O (.g O O O) O (λ_ h=>h) (wb iH O O ca (by omega) (by omega)) ?_)))))));refine Dq O (.g O O O) O (λ_ h=>h) (cu 0 ab O O (aM 0 _ O)) (Dq O (.g O O O) O (λ_ h=>h) (Yo ln O O cb bf) (Dq O (.g O O O) O (λ_ h=>h) (Yf o9 O) (Dq O (.g O O O) O (λ_ h=>h) (cu 1 ab O O (cd 5 _ O)) (Dq O (.g O O O) O (λ_ h=>h) (Yn iH O) ?_))));rw [<-ce];refine Dq O (.g O O O) O (λ_ h=>h) (gw O O) ?_;exact Gi 22 (λ_ h=>h) O O O
   refine WD.nil (λ_ h=>h) ?_;refine Et ?_;refine Cc O (λaN=>?_) (λaN=>?_)
   ·have aP:pQ l j o x=true:=aN
    have v:iC l=5:=by
      rw [S,if_pos (C1 (p:=λn o=>o.fix.any (pQ l n o)) u ?_)];rw [rr];exact ⟨x,ax ae,aP⟩
    refine ag (ak O (ak O (aa (a7 (cG (Er (Er (cG (cG (Er (Er (cG (Er ?_)))))))))))));refine WE.gZ O O O λw' z=>?_;rw [xP (by rw [v]; decide),v];exact ⟨(none,0),O,z.fr,Sl.nil⟩
   have aP:pQ l j o x=false:=aN;refine Ck (Eb (Et (Cr (I (Yi O O O (by omega)) (ad O (Ln ?_))))));exact b8 (k+1) (by omega) ⟨by omega,Ia ae aG aP⟩ (λ_ h=>Wd 1 h)
  have cg:k=o.fix.length:=by simp at aI; omega
  rw [cg,ew] at aG;refine Ce (Ex (Ex (cB (Eb (Et (Cr (I (Yi O O O (by omega)) (ad O (Ln ?_)))))))))
  exact b8 (j+1) (by omega) ⟨by omega,λn aD D B=>by
      rcases mZ.1 D with h | h
      · exact a_ n aD h B
      · subst h; rw [u] at B; injection B with B; subst B; exact aG⟩ (λ_ h=>Wd 1 h)
 have cV:j=l.length:=by simp at aE; omega
 have v:iC l=0:=by
   rw [S,zt (λn o D=>?_),if_neg (by decide)];rw [vR];intro f ch;rw [a_ n o (by have:=(cf.1 D).1; omega) D f ch]
   decide
 refine Ce (Ex (Ex (cB (Et (ag (ad O (I (cc 2 O O EH O) ?_)))))));refine Lb Y O AD O O O O λcW=>?_;refine cF 0 (.cells (jv.cells (pP l,((none,0):SP))).toArray 121 (0,0)) O (O) ?_;refine LA (((pP l,(none,0)):jv)) 1 0 Y O AD O O O O O O (by omega) (by omega) λci cj=>?_;refine ak O (ak O (aa (a7 ?_)));refine WE.gZ O O O λw' z=>?_
 have cl:qd l=(g.es++[(pP l,((none,0):SP))]).map (·.1):=by rw [qd,if_pos v,nI,M]; rfl
 rw [v,cl];have cm:=z.iP (rd:=LI) 1 rfl jv.ck (λ_ _ _ _ h=>h);exact ⟨(ci,cj),by rw [eo],z.fr,Vo (J:=g.J) cm (λ_ _ h=>h) (cU z (by simp) a2) (Xs.snoc (R:=tL) (λhv h=>vE hv h) ap (λ_ _ h=>h) (λ_ _ h=>h) Sl.nil)⟩
theorem bA.XL (x:bA):x.cells.all (·.oneCell')=true:=rfl
theorem Vt {l:List bD} (h:¬iC l=0):gV l=(([],0),iC l):=by rw [gV,if_pos h]
theorem Vu {l:List bD} (h:iC l=0) (a:2048<e9 l l.length\/512<gT l l.length):gV l=(([],0),2):=by rw [gV,if_neg (λe=>e h),if_pos a]
theorem Vv {l:List bD} (h:iC l=0) (a:¬(2048<e9 l l.length\/512<gT l l.length)):gV l=((Ip l,gT l l.length),0):=by rw [gV,if_neg (λe=>e h),if_neg a]
theorem Vw {U n:Nat} {k m a:Int} (h:i' U n k m a=true):(k=1\/k=2\/k=3)/\0<=a/\a<=2048/\0<=m/\m<=(U:Int):=by
 unfold i' at h
 split at h
 · simp only [cO,decide_eq_true_eq,beq_iff_eq] at h
   omega
 · split at h
   · simp only [cO,decide_eq_true_eq] at h
     omega
   · cases h
theorem Vx (l:List bD):(n4 l).take l.length=n4 l:=kF (by rw [zy]; exact dp _)
theorem Vy (l:List bD):n4 l++[(⟨20,0,0⟩:bA)]=gU l 0:=by unfold gU; rw [Ir,h3]
theorem LL {l:List bD} {i:Nat} {o:bD} (h:l[i]? = some o):e9 l i+(o.code.length:Int)<=e9 l l.length:=by
 rw [<-C3 h];have hi:=(cf.1 h).1
 have a:∀k,i+1+k<=l.length->e9 l (i+1)<=e9 l (i+1+k):=λk=>by
   induction k with
   | zero=>intro _; exact x' _
   | succ k b=>
     intro d;obtain ⟨q,c⟩:∃q,l[i+1+k]? = some q:=⟨_,dL (by omega)⟩;have:=b (by omega);have e:=C3 c
     show e9 l (i+1)<=e9 l (i+1+k+1)
     omega
 have:=a (l.length-(i+1)) (by omega)
 rwa [show i+1+(l.length-(i+1))=l.length by omega] at this
theorem o_:zeroOf prog 33=some (.agg #[.slice none 0 0,.int .i64 0]):=ab
theorem xR:gx prog 33=some [(0,1),(1,1)]:=ab
theorem qe:dI prog 33=some 2:=ab
theorem rj:gP prog 33=some 2:=ab
theorem qf:cx prog 33 0=some 0:=ab
theorem Ks (t:View) (a:Option Addr) (c:Nat) (l:List bD) (w:World) (a2:Le t w) (D:Sl vA 7 t a c l) :
   Calls prog 20 #[.slice a l.length c] w λe w'=>∃q:SP,e = .returned (.tuple #[.agg #[.slice q.1 (gV l).1.1.length q.2,.int .i64 (gV l).1.2],.int .i64 (gV l).2])/\Ext w w'/\Sl gm 3 (nv w w') q.1 q.2 (gV l).1.1:=by
 have b6:=D.cap;have b7:=D.max;refine enter func20 O 160 O O ?_;refine CE (Vs:=[t]) (Ws.init (by simp [a2])) (ag ?_);refine Al Y O o_ λac=>?_;refine ak O (aa (ag (ad O ?_)));refine Ld Y O aC O (λq:SP=>.tuple #[.slice q.1 (qd l).length q.2,.int .i64 (iC l)]) (λa3 q=>Sl wg 3 a3 q.1 q.2 (qd l)) (λw u=>Vr t a c l w u.V D) ?_;intro z b9 b' A;refine ad O (I (Yx O O) (I (Yx O O) (ak O (ak O (aa (Cs (ag (ad O (I (fz O O) ?_)))))))));refine aa ?_;refine Cc O (λaf=>?_) (λaf=>?_)
 ·have E:¬iC l=0:=by simpa using af
  refine ag (I (Yb o_ xR O O) (ad O (aQ 0 Y O O O qe O O O (ak O (aa (a7 (Er ?_)))))));refine WE.eB (fu O (dX 0 O O rj O) (gG O)) λw' u=>?_;rw [Vt E];exact ⟨(none,0),O,u.fr,Sl.nil⟩
 have E:iC l=0:=by simpa using af
 have j:=Qp.1 E
 have a4:qd l=mN l++[pP l]:=by rw [qd,if_pos E]
 rw [a4] at A ⊢;have b_:=A.cap;have ca:=A.max;have cb:=r4 l;have cd:=j.aH;obtain ⟨ce,cf,a5,a6,a8,ch⟩:=A.bT l.length _ (Qs l)
 have ci:(mN l++[pP l]).length=l.length+1:=by simp [r4]
 refine bk (ag (ad O (ad O (I (Yn ln O) (I (Yo (i:=l.length) ss O O a5 ae) (I (dV 0 EH O O O (a8)) ?_))))));refine Al Y O xQ λcj=>?_;refine aQ 0 Y O O O EG O O O (aa (Cs (Cs (fm 0 (.cells (np (pP l) a6).toArray 121 (0,0)) O O (Cr (I (Yf sr O) (I (Yd 0 O O O ab) (I (dO O O) (ad O ?_)))))))));apply Lo 3 O O O O Y O O O O O
 ·intro cl;refine Vg (Yf vC O) (Vg (Yd 0 O O O ab) (Vg (dO O O) ?_));exact Gt 3 O O O
 refine aa ?_;refine Cc O (λah=>?_) (λah=>?_)
 ·have al:2048<e9 l l.length\/512<gT l l.length:=by
    have F:=ah;simp only [x5,decide_eq_true_eq] at F;exact F
  refine ag (I (Yb o_ xR O O) (aQ 1 Y O O O qe O O O (ak O (aa (a7 (Er ?_))))));refine WE.eB (fu O (dX 1 O O rj O) (gG O)) λw' u=>?_;rw [Vu E al];exact ⟨(none,0),O,u.fr,Sl.nil⟩
 have al:¬(2048<e9 l l.length\/512<gT l l.length):=by
   have F:=ah;simp only [hM,decide_eq_false_iff_not] at F;exact λh=>h.elim F.1 F.2
 refine bk (ag (I (Yf vC O) (I (Yd 0 O O O ab) (I (Yb o_ xR O O) ?_))));refine Al Y O o_ λam=>?_;refine aQ 0 Y O O O qe O O O (aa (Cs (Cs (fm 0 (.cells #[.slice none 0 0,.int .i64 (gT l l.length)] 33 (0,0)) O O ?_))));refine dJ (λ_ h=>h.eM 108 3) ?_;refine Cr (ad O (I (Yn ln O) (ad O (aa (Cb ?_)))));refine dc (ι:=Nat×SP) (λg=>[(44,.int .i64 (g.1:Int))]) [(0,_),(2,_),(3,_),(4,_),(7,_),(42,_),(43,_)] (λg=>Ws w [] [bS 108 3 bA.cells g.2.1 g.2.2 ((n4 l).take g.1),ao am (.cells #[.slice g.2.1 ((n4 l).take g.1).length g.2.2,.int .i64 (gT l l.length)] 33 (0,0)),ao ac (.cells #[.slice none 0 0,.int .i64 0] 33 (0,0))] [z,t]) (λg=>g.1<=l.length) (λg=>l.length-g.1) (0,(none,0)) (cq _) (λ_ h=>(Wt 3 (((h.f 3 O).f 2 O).f 2 O):)) ?_;intro g cm;refine ag (I (ai O O) (aa (Cs ?_)));refine Cc O (λap=>?_) (λap=>?_)
 ·have H:g.1<l.length:=by simpa using ap
  obtain ⟨o,s⟩:=cg H;obtain ⟨a9,a',ar,au⟩:=D.bT g.1 o s;obtain ⟨P,av,r⟩:=au;have Q:=ax s;have a_:=r.aq.cap;have ba:=r.aq.max;have bb:=r.fix.cap;have bc:=r.fix.max;have bd:=r.code.cap;have be:=r.code.max;obtain ⟨ay,az,J,bf,R,S⟩:=A.bT g.1 _ (C5 s);have T:vc z ay (az+g.1*3+0)=some (.int .i64 (e9 l g.1)):=R 0 _ rfl;have bg:=zv j.aH j.oU (k:=g.1) ae;have bh:=zw j.aH j.oU (k:=g.1) ae;have bi:=LL s;have bj:=(tc (j.oU o Q)).2.main;obtain ⟨cn,co,cr⟩:=pM bj
  have bl:((n4 l).take g.1).length=g.1:=by rw [jh,zy]; omega
  refine bk (Cs (Cb (ag (ad O (I (Yo ln O O ar H) (I (dV 1 iI O O O (av)) ?_))))));refine Al Y O kc λcs=>?_;refine ak O (aQ 0 Y O O O kD O O O (aa (fm 0 (.cells (gS o P).toArray 56 (0,0)) O O ?_)));refine CU (λ_=>true) [1] [13,14] (.q false 0 (.q true 1 (.q false 2 (.q false 3 (.q false 4 (.q false 5 (.q true 6 (.q false 7 (.q true 8 (.q false 9 (.q false 10 (.e 11 (.e 12 .nil .stop) .stop)))))))))))) mixed ab (λ_ _ _ d _ _ h=>by cases d<;>exact h) ?_;refine U0 O (Wp 1) (Yf qf O) (U0 O (Wp 1) (Yd 1 O O O ab) (U0 O (Wp 1) (Ym O) (U0 O (Wp 1) (Ym O) (U0 O (Wp 1) (Yo ss O O J ae) (U0 O (Wp 1) (Yf sr O) (U0 O (Wp 1) (cu 0 ab O O (T)) (U0 O (Wp 1) (Yf jt O) ?_)))))));refine U0 O (Wp 1) (Yd 0 O O O ab) (U0 O (Wp 1) (l0 O O ae) (U0 O (Wp 1) (Yb gu hs O O) ?_));refine Ue O (Wp 1) ?_ WU.stop;refine Lb Y O hK O O O O λct=>?_;refine cF 0 (.cells (bA.cells ⟨13,e9 l g.1+o.main,0⟩).toArray 108 (0,0)) O (O) (Ln (Eu ?_));refine Ue O (λ_ h=>(Wo 1 (Wd 1 h):)) ?_ WU.stop;refine LA ((⟨13,e9 l g.1+o.main,0⟩:bA)) 2 0 Y O hK O O O O O O ae ae λbm bn=>?_;rw [<-Qy s];refine Ln (Eu ?_);refine WU.nil (λ_ h=>(Wo 1 (Wd 1 h):)) ?_;refine WS.e O ?_;refine I (Yf qf O) (Ln (Es ?_));refine WS.e O ?_;refine aQ 3 Y O O O xF O O O (Ln (Es ?_));refine WS.nil ?_;refine Eb (Et (Cr (I (Yi O O O ae) (ad O (Ln ?_)))));exact b8 ((g.1+1,(bm,bn)):Nat×SP) (by show _-(g.1+1)<_; omega) (by show g.1+1<=_; omega) (λ_ h=>Wd 2 h)
 have bo:g.1=l.length:=by simp at ap; omega
 rw [bo,Vx];have bl:=zy l;refine Ce (Ex (Ex (cB (Et (ag (I (Yf qf O) (I (Yd 1 O O O ab) (I (Yb gu hs O O) ?_))))))));refine Lb Y O hK O O O O λcv=>?_;refine cF 0 (.cells (bA.cells ⟨20,0,0⟩).toArray 108 (0,0)) O (O) ?_;refine LA ((⟨20,0,0⟩:bA)) 1 0 Y O hK O O O O O O ae ae λbp bq=>?_;rw [Vy];refine I (Yf qf O) (aQ 2 Y O O O xF O O O (aa (Cs (ag (ad O (I (Yn ln O) (ad O (aa (Cb ?_)))))))));refine dc (ι:=Nat×SP) (λe=>[(72,.int .i64 (e.1:Int))]) [(0,_),(2,_),(3,_),(4,_),(7,_),(70,_),(71,_)] (λe=>Ws w [] [bS 108 3 bA.cells e.2.1 e.2.2 (gU l e.1),ao am (.cells #[.slice e.2.1 (gU l e.1).length e.2.2,.int .i64 (gT l l.length)] 33 (0,0)),ao ac (.cells #[.slice none 0 0,.int .i64 0] 33 (0,0))] [z,t]) (λe=>e.1<=l.length) (λe=>l.length-e.1) (0,(bp,bq)) (cq _) (λ_ h=>(Wt 3 (((h.f 3 O).f 3 O).f 3 O):)) ?_;intro e cw;refine ag (I (ai O O) (aa (Cs ?_)));refine Cc O (λaA=>?_) (λaA=>?_)
 ·have aB:e.1<l.length:=by simpa using aA
  obtain ⟨o,s⟩:=cg aB;obtain ⟨a9,a',ar,au⟩:=D.bT e.1 o s;obtain ⟨P,av,r⟩:=au;have Q:=ax s;have a_:=r.aq.cap;have ba:=r.aq.max;have bb:=r.fix.cap;have bc:=r.fix.max;have bd:=r.code.cap;have be:=r.code.max;obtain ⟨ay,az,J,bf,R,S⟩:=A.bT e.1 _ (C5 s);have T:vc z ay (az+e.1*3+0)=some (.int .i64 (e9 l e.1)):=R 0 _ rfl;have bg:=zv j.aH j.oU (k:=e.1) ae;have bh:=zw j.aH j.oU (k:=e.1) ae;have bi:=LL s;have br:=Qz (l:=l) (i:=e.1) ae;have aS:=(tc (j.oU o Q)).2;have bs:=iM (j.oU o Q);have cx:=bs.code;have cy:=S.cap;have cz:=S.max;have bu:=C6 l e.1 o;have cA:(oT l e.1 o).qE.length=o.aq.length+1:=bu;refine bk (Cs (Cb (ag (ad O (I (Yo ln O O ar aB) (I (dV 1 iI O O O (av)) ?_))))));refine Al Y O kc λbv=>?_;refine ak O (aQ 0 Y O O O kD O O O (aa (Cs (fm 0 (.cells (gS o P).toArray 56 (0,0)) O O (Cr (I (Yf qf O) (I (Yd 2 O O O ab) (I (Yf ll O) ?_))))))));refine I (Yd 0 O O O ab) ?_;refine WL.wj (f:=bA.cells) (rd:=gm) (xs:=gU l e.1) (ys:=o.code) 1 (λ_=>t) Y O hK O O O (λw u=>⟨u.vs t aj,r.code⟩) cp bA.ck bA.XL ae ae λaD aE=>?_;refine I (Yf qf O) (aQ 2 Y O O O xF O O O (aa (ag (I (Yf si O) (I (Yd 0 O O O ab) (I (Yn rf O) (ad O (aa (Cb ?_)))))))));refine dc (ι:=Nat) (λk=>[(86,.int .i64 (k:Int))]) [(0,_),(2,_),(3,_),(4,_),(7,_),(10,_),(70,_),(71,_),(72,_),(84,_),(85,_)] (λk=>Ws w [] [bS 108 3 bA.cells aD aE (gU l e.1++lg l e.1 o o.code (o.fix.take k)),ao bv (.cells (gS o P).toArray 56 (0,0)),ao am (.cells #[.slice aD (gU l e.1++o.code).length aE,.int .i64 (gT l l.length)] 33 (0,0)),ao ac (.cells #[.slice none 0 0,.int .i64 0] 33 (0,0))] [z,t]) (λk=>k<=o.fix.length) (λk=>o.fix.length-k) 0 (cq _) (λ_ h=>((((h.f 3 O).f 3 O).f 2 O).f 3 O:)) ?_;intro k cC;refine ag (I (ai O O) (aa (Cs ?_)));refine Cc O (λaG=>?_) (λaG=>?_)
  ·have H:k<o.fix.length:=by simpa using aG
   obtain ⟨x,B⟩:=cg H;obtain ⟨bw,bx,bz,aI⟩:=r.fix.bT k x B;have aI:bR t bw (bx+k*3) x.cells:=aI;have aT:=aS.fix x (ax B);obtain ⟨cD,bB,bC,bE,bF⟩:=Vw aT.2;obtain ⟨p,bG,bH⟩:=pM aT.1
   have K:x.at_.toNat=p:=ae
   obtain ⟨y,aU⟩:=cg bH;have L:=Lu K aU;rw [L] at bB bC
   have U:(lg l e.1 o o.code (o.fix.take k))[p]? = some y:=by
     have aV:=Qx (l:=l) (n:=e.1) aS B;rw [K] at aV;rw [aV,aU]
   have G:(gU l e.1++lg l e.1 o o.code (o.fix.take k))[(gU l e.1).length+p]? = some y:=by rw [hD ae,x2]; exact U
   obtain ⟨bI,aW⟩:=Io aB (j.known e.1 o s) bE bF;obtain ⟨bJ,bK,bL,aJ⟩:=S.bT x.m.toNat _ bI;have aJ:bR z bJ (bK+x.m.toNat*1) (n0 (hU l e.1 o x.m)):=aJ;obtain ⟨W,M⟩:=cg aW;obtain ⟨cE,cG,bM,cH,bN,aK⟩:=D.bT _ W M;obtain ⟨aX,aY,aZ,cI,a0,cK⟩:=A.bT _ _ (C5 M);have bO:vc z aX (aY+hU l e.1 o x.m*3+0)=some (.int .i64 (e9 l (hU l e.1 o x.m))):=a0 0 _ rfl;have bP:vc z aX (aY+hU l e.1 o x.m*3+1)=some (.int .i64 (gT l (hU l e.1 o x.m))):=a0 1 _ rfl;have cL:=zv j.aH j.oU (k:=hU l e.1 o x.m) ae;have cM:=zw j.aH j.oU (k:=hU l e.1 o x.m) ae;have cN:(lg l e.1 o o.code (o.fix.take k)).length=o.code.length:=zx _ _ _ _ _;refine bk (Cs (Cb (ag (I (Yo rf O O bz H) (I (dV 1 vv O O O (aI)) ?_)))));refine Al Y O sj λcO=>?_;refine aQ 0 Y O O O vw O O O (aa (Cs (fm 0 (.cells (x.cells).toArray 112 (0,0)) O O ?_)));refine WC.sM 1 O (by simp only [dG]; omega) λcP C cQ cR=>?_;refine WC.k3 [(0,true),(1,true),(2,true),(3,true),(4,true),(5,true),(6,true),(7,true),(8,true),(9,true),(10,true),(11,true),(12,true)] mixed ab (λ_ _ _ d _ h=>by cases d<;>exact h) ?_;refine D0 O an (Yf qf O) (D0 O an (Yd 3 O O O ab) (D0 O an (Ym O) (D0 O an (Ym O) (D0 O an (Yo ss O O J ae) (D0 O an (Yf sr O) (D0 O an (cu 0 ab O O (T)) (D0 O an (Yf tJ O) ?_)))))));refine D0 O an (Yd 0 O O O ab) (D0 O an (lq (a:=(gU l e.1).length) (b:=p) O O br.symm bG ae) (D0 O an (Yo (i:=(gU l e.1).length+p) ju O O C (by simp only [dG]; omega)) (D0 O an (Yf vp O) (D0 O an (Ya O) ?_))));refine WD.nil an ?_;refine Et (Cs ?_);refine WC.k3 [(0,true),(1,true),(2,true),(3,true),(4,true),(5,true),(6,true),(7,true),(8,true),(9,true)] mixed ab (λ_ _ _ d _ h=>by cases d<;>exact h) ?_;refine D0 O an (Ym O) (D0 O an (Ym O) (D0 O an (Yo ss O O J ae) (D0 O an (Yf AB O) (D0 O an (cu 0 ab O O (R 2 _ O)) (D0 O an (Yf rh O) (D0 O an (Yd 0 O O O ab) (D0 O an (wb iH O O bL ae ae) ?_)))))));refine D0 O an (cu 0 ab O O (aJ 0 _ O)) (D0 O an (Ya O) ?_);refine WD.nil an ?_;refine Et (ag (I (Yf xM O) (I (Yd 0 O O O ab) (aa (Cb (ag (I (bY O O) (ak O (aa ?_)))))))));refine Cc O (λaL=>?_) (λaL=>?_)
   ·have X:x.kind=1:=by simpa using aL
    refine CU (λ_=>true) [] [9,10] (.q false 0 (.q false 1 (.q true 2 (.q false 3 (.q false 4 (.q false 5 (.q false 6 (.q true 7 (.q false 8 .nil))))))))) mixed ab (λ_ _ _ d _ _ h=>by cases d<;>exact h) ?_;refine U0 O an (Ym O) (U0 O an (cJ O) (U0 O an (dz (y:=y) 1 ((gU l e.1).length+p) 1 O O C ae bA.ck G O ab) (U0 O an (Ym O) (U0 O an (Ym O) (U0 O an (Yo ss O O J ae) (U0 O an (Yf sr O) (U0 O an (cu 0 ab O O (T)) ?_)))))));refine U0 O an (l0 O O ae) ?_;refine WU.nil an ?_;refine WS.e O ?_;refine I (cJ O) (Ln (Es ?_));refine WS.e O ?_;refine WL.storeT (y:=y) 1 ((gU l e.1).length+p) 1 (⟨y.op,y.a+e9 l e.1,y.b⟩) Y O O O C ae bA.ck G dZ O O aF O ?_
    have N:pR l e.1 o x=y.a+e9 l e.1:=by unfold pR; rw [L]; rw [if_pos X]
    rw [C9 (l:=l) (n:=e.1) (o:=o) (c:=lg l e.1 o o.code (o.fix.take k)) (p:=p) (x:=y) (y.a+e9 l e.1) U,<-N,<-K,<-C8 B];refine Ln (Es ?_);refine WS.nil ?_;refine Eb (Eb (Et (Cr (I (Yi O O O ae) (ad O (Ln ?_))))));exact b8 (k+1) ae ae (λ_ h=>Wd 1 h)
   have X:¬x.kind=1:=by simpa using aL
   refine ag (I (bY O O) (ak O (aa ?_)));refine Cc O (λaM=>?_) (λaM=>?_)
   ·have Z:x.kind=2:=by simpa using aM
    have aN:=j.Ii e.1 o s x (ax B)
    have bQ:iS l (hU l e.1 o x.m)=W.aw.length:=by unfold iS; rw [M]; rfl
    have bU:y.a.toNat<W.aw.length:=by
      unfold pQ at aN;rw [Z,bQ,L] at aN;simp at aN;omega
    obtain ⟨v,aO⟩:=cg bU;obtain ⟨bV,bW,bX,aP⟩:=aK.aw.bT _ v aO;have aP:bR t bV (bW+y.a.toNat*1) (e8 v):=aP;have cS:=aK.aw.cap;have cT:=aK.aw.max
    have bZ:C7 l (hU l e.1 o x.m) y.a=v:=by unfold C7; rw [M,bt,aO]; rfl
    have cU:0<=v/\v<=2048:=by
      have a1:=j.oU W (ax M);obtain ⟨cV,cW,cX⟩:=pM ((tc a1).2.aw v (ax aO));have:=(iM a1).code;omega
    refine CU (λ_=>true) [] [17,18] (.q false 0 (.q false 1 (.q false 2 (.q false 3 (.q false 4 (.q true 5 (.q false 6 (.q false 7 (.q false 8 (.q false 9 (.q true 10 (.q false 11 (.q false 12 (.q true 13 (.q false 14 (.q true 15 (.q false 16 .nil))))))))))))))))) mixed ab (λ_ _ _ d _ _ h=>by cases d<;>exact h) ?_;refine U0 O an (Ym O) (U0 O an (Ym O) (U0 O an (Ym O) (U0 O an (Yo ss O O aZ ae) (U0 O an (Yf sr O) (U0 O an (cu 0 ab O O (bO)) (U0 O an (Ym O) (U0 O an (Ym O) ?_)))))));refine U0 O an (Yo ln O O bM aW) (U0 O an (Yf o9 O) (U0 O an (cu 1 ab O O (bN 5 _ O)) (U0 O an (Ym O) (U0 O an (cJ O) (U0 O an (dz (y:=y) 1 ((gU l e.1).length+p) 1 O O C ae bA.ck G O ab) (U0 O an (wb iH O O bX ae ae) (U0 O an (cu 1 ab O O (aP 0 _ O)) ?_)))))));refine U0 O an (l0 O O ae) ?_;refine WU.nil an ?_;refine WS.e O ?_;refine I (cJ O) (Ln (Es ?_));refine WS.e O ?_;refine WL.storeT (y:=y) 1 ((gU l e.1).length+p) 1 (⟨y.op,e9 l (hU l e.1 o x.m)+v,y.b⟩) Y O O O C ae bA.ck G dZ O O aF O ?_
    have N:pR l e.1 o x=e9 l (hU l e.1 o x.m)+v:=by unfold pR; rw [L]; rw [if_neg X,if_pos Z,bZ]
    rw [C9 (l:=l) (n:=e.1) (o:=o) (c:=lg l e.1 o o.code (o.fix.take k)) (p:=p) (x:=y) (e9 l (hU l e.1 o x.m)+v) U,<-N,<-K,<-C8 B];refine Ln (Es ?_);refine WS.nil ?_;refine Eb (Eb (Et (Cr (I (Yi O O O ae) (ad O (Ln ?_))))));exact b8 (k+1) ae ae (λ_ h=>Wd 1 h)
   have Z:¬x.kind=2:=by simpa using aM
   refine ag (I (bY O O) (ak O (aa ?_)));refine Cc O (λaR=>?_) (λaR=>?_)
   ·have b0:x.kind=3:=by simpa using aR
    refine CU (λ_=>true) [] [9,10] (.q false 0 (.q false 1 (.q true 2 (.q false 3 (.q false 4 (.q false 5 (.q false 6 (.q true 7 (.q false 8 .nil))))))))) mixed ab (λ_ _ _ d _ _ h=>by cases d<;>exact h) ?_;refine U0 O an (Ym O) (U0 O an (cJ O) (U0 O an (dz (y:=y) 1 ((gU l e.1).length+p) 1 O O C ae bA.ck G O ab) (U0 O an (Ym O) (U0 O an (Ym O) (U0 O an (Yo ss O O aZ ae) (U0 O an (Yf vC O) (U0 O an (cu 0 ab O O (bP)) ?_)))))));refine U0 O an (l0 O O ae) ?_;refine WU.nil an ?_;refine WS.e O ?_;refine I (cJ O) (Ln (Es ?_));refine WS.e O ?_;refine WL.storeT (y:=y) 1 ((gU l e.1).length+p) 1 (⟨y.op,y.a+gT l (hU l e.1 o x.m),y.b⟩) Y O O O C ae bA.ck G dZ O O aF O ?_
    have N:pR l e.1 o x=y.a+gT l (hU l e.1 o x.m):=by unfold pR; rw [L]; rw [if_neg X,if_neg Z]
    rw [C9 (l:=l) (n:=e.1) (o:=o) (c:=lg l e.1 o o.code (o.fix.take k)) (p:=p) (x:=y) (y.a+gT l (hU l e.1 o x.m)) U,<-N,<-K,<-C8 B];refine Ln (Es ?_);refine WS.nil ?_;refine Eb (Eb (Et (Cr (I (Yi O O O ae) (ad O (Ln ?_))))));exact b8 (k+1) ae ae (λ_ h=>Wd 1 h)
   have b0:¬x.kind=3:=by simpa using aR
   omega
  have b1:k=o.fix.length:=by simp at aG; omega
  rw [b1,ew];have b2:gU l e.1++lg l e.1 o o.code o.fix=gU l (e.1+1):=(Iu s).symm;rw [b2]
  have b3:(gU l e.1++o.code).length=(gU l (e.1+1)).length:=by rw [Iu s,dG,dG]; unfold kr; rw [zx]
  rw [b3];refine Ce (Ex (Ex (cB (Eb (Et (Cr (I (Yi O O O ae) (ad O (Ln ?_)))))))));exact b8 ((e.1+1,(aD,aE)):Nat×SP) (by show _-(e.1+1)<_; omega) (by show e.1+1<=_; omega) (λ_ h=>(Wt 3 (((h.f 3 O).f 3 O).f 2 O):))
 have b4:e.1=l.length:=by simp at aA; omega
 rw [b4];have b5:=Vv E al;refine Ce (Ex (Ex (cB (Et (ag (I (cc 1 O O rj O) (aQ 2 Y O O O qe O O O (ak O (aa (a7 ?_))))))))));refine WE.eB (fu O (dX 2 O O rj O) (gG O)) λw' u=>?_;rw [b5];exact ⟨e.2,O,u.fr,u.iP 0 O bA.ck cp⟩
def hL (x:bx):List UInt8:=[cZ x.kind]++bM x.name++bj x.n++bj x.pl
def su (name:List UInt8) (a:List bx):List UInt8:=bM name++[cZ a.length]++a.flatMap hL
theorem Vz (x:bx):(hL x).length=x.name.length+18:=by simp only [hL,dG,i_,bI,gf]; omega
theorem EI:∀(l:List bx),(∀x ∈ l,x.name.length<=8)->(l.flatMap hL).length<=l.length*26
 | [],_=>by simp
 | x::r,h=>by
   have b:=h x aj;have c:=EI r λy a=>h y (by simp [a]);simp only [gd,dG,Vz,du]; omega
theorem KJ {l:List bx} (h:∀x ∈ l,x.name.length<=8) (i:Nat):((l.take i).flatMap hL).length<=l.length*26:=by
 have b:=EI (l.take i) λx a=>h x (x_ a)
 have c:(l.take i).length<=l.length:=by simp; omega
 omega
def dq (name:List UInt8) (a:List bx):List UInt8×Int:=if bp name a=0 then (su name a,0) else ([],bp name a)
theorem EJ {name:List UInt8} {a:List bx} (h:bp name a=0):a.length<=16/\name.length<=8/\∀x ∈ a,x.name.length<=8:=by
 unfold bp at h
 split at h
 · cases h
 · rename_i g
   split at h
   · rename_i b
     simp only [cO,sG,hM,yb] at b;obtain ⟨e,_,c⟩:=b;refine ⟨ae,?_,?_⟩
     · unfold ep at c; simp at c; omega
     · intro x f
       have:=fG.1 e x f;unfold jF at this;simp only [sG,hM,yb] at this;have d:=this.1.1.1.1.1.1.1;unfold ep at d; simp at d; omega
   · cases h
theorem VA (j:View) (a:Option Addr) (c:Nat) (name:List UInt8) (b:List bx) (w:World) (y:Le j w) (k:Sl hQ 4 j a c b) :
   Calls prog 28 #[.agg #[st name,.slice a b.length c]] w λe w'=>e = .returned (.tuple #[st (dq name b).1,.int .i64 (dq name b).2])/\Ext w w':=by
 have L:=k.cap;have M:=k.max;refine enter func28 O 51 O O ?_;refine CE (Vs:=[j]) (Ws.init (by simp [y])) (ag ?_);refine WL.box Y O O λz=>?_;refine ak O (ak O (aa (Cs (ag (I (cc 0 O O jS O) (Lp Y O aC O (λw f=>D_ j a c name b w f.V k) (ak O (aa (ag (ad O ?_))))))))));refine I (fz O O) (aa ?_);refine Cc O (λo=>?_) (λo=>?_)
 ·have l:¬bp name b=0:=by simpa using o
  refine ag (ad O (ak O (ak O (aa (a7 (Er ?_))))));refine WE.gZ O O O λw' f=>?_;exact ⟨by rw [dq,if_neg l]; rfl,f.fr⟩
 have l:bp name b=0:=by simpa using o
 obtain ⟨N,P,p⟩:=EJ l;refine bk (ag (I (Yb Lx Kk O O) ?_));refine WL.box Y O O λd=>?_;refine LW (λ_ h=>h.eM 5 1) (ak O (aa (ag (ad O (I (Yf zY O) (I (Yd 2 O O O ab) (Lf 1 O ?_)))))));refine Lw (ι:=Value) [_,_] _ Y O aC O O (λ_=>.tuple #[]) (λi=>[ao d (.cells #[.pointer (some ⟨d,0,none⟩),i] 165 (0,0)),b6 5 1 i (bM name).length ((bM name).map dh)]) (λ_=>True) [] aj (λw f=>Au d none (.slice none 0 0) [] name w Y (by simp only [dG,i_,gf,du,eT]; omega) f) ?_;intro A _;refine aa (ag (ad O (I (Yf q8 O) (I (Yd 2 O O O ab) (I (Yn p8 O) ?_)))));refine Lw (ι:=Value) [_,_] _ Y O aC O O (λ_=>.tuple #[]) (λi=>[ao d (.cells #[.pointer (some ⟨d,0,none⟩),i] 165 (0,0)),b6 5 1 i (bM name++[cZ b.length]).length ((bM name++[cZ b.length]).map dh)]) (λ_=>True) [] aj (λw f=>vx d (some ⟨d,0,none⟩) A (bM name) b.length w (.inr O) (by simp only [dG,i_,gf,du,eT]; omega) f) ?_;intro B _;refine aa (Cs (ag (I (Yf q8 O) (I (Yd 2 O O O ab) (I (Yn p8 O) (ad O (aa (Cb ?_))))))));refine dc (ι:=Nat×Option Addr×Value) (λg=>[(27,.int .i64 (g.1:Int))]) [(2,_),(3,_),(5,_),(25,_),(26,_)] (λg=>Ws w [] ([ao d (.cells #[.pointer (g.2.1),g.2.2] 165 (0,0)),b6 5 1 g.2.2 (bM name++[cZ b.length]++(b.take g.1).flatMap hL).length ((bM name++[cZ b.length]++(b.take g.1).flatMap hL).map dh)]++[ao z (.cells (Value.agg #[st name,.slice a b.length c]).cells 65 (0,0))]) [j]) (λg=>g.1<=b.length/\(g.2.1=none\/g.2.1=some ⟨d,0,none⟩)) (λg=>b.length-g.1) (0,some ⟨d,0,none⟩,B) ⟨cq _,.inr O⟩ (λ_ h=>by simp only [yd,kG,h3]; exact h) ?_;intro g ⟨hi,u⟩;refine ag (I (ai O O) (aa (Cs ?_)));refine Cc O (λq=>?_) (λq=>?_)
 ·have C:g.1<b.length:=by simpa using q
  obtain ⟨x,m⟩:=cg C;obtain ⟨pb,D,E,s⟩:=k.bT g.1 x m;have s:bR j pb (D+g.1*4) x.cells:=s
  have Q:(b.take (g.1+1)).map (·.name)=(b.take g.1).map (·.name)++[x.name]:=by rw [aZ,m]; simp
  have R:((b.take g.1).map (·.name)).length=g.1:=by simp; omega
  have S:=p x (ax m);have F:=KJ p g.1;refine bk (Cs (Cb (ag (I (Yo p8 O O E ae) (I (dV 0 kU O O O (s)) ?_)))));refine Al Y O ij λT=>?_;refine aQ 0 Y O O O kA O O O (aa (ag (ad O (I (Yf ve O) (I (Yd 0 O O O ab) (Lf 2 O (Lf 2 O ?_)))))));refine Lw (ι:=Value) [_,_] _ Y O aC O O (λ_=>.tuple #[]) (λi=>[ao d (.cells #[.pointer (some ⟨d,0,none⟩),i] 165 (0,0)),b6 5 1 i (bM name++[cZ b.length]++(b.take g.1).flatMap hL++[cZ x.kind]).length ((bM name++[cZ b.length]++(b.take g.1).flatMap hL++[cZ x.kind]).map dh)]) (λ_=>True) [] aj (λw f=>vx d g.2.1 g.2.2 (bM name++[cZ b.length]++(b.take g.1).flatMap hL) x.kind w u (by simp only [dG,i_,gf,du,eT]; omega) f) ?_;intro G _;refine aa (ag (ad O (I (Yf sd O) (I (Yd 2 O O O ab) ?_))));refine Lw (ι:=Value) [_,_] _ Y O aC O O (λ_=>.tuple #[]) (λi=>[ao d (.cells #[.pointer (some ⟨d,0,none⟩),i] 165 (0,0)),b6 5 1 i (bM name++[cZ b.length]++(b.take g.1).flatMap hL++[cZ x.kind]++bM x.name).length ((bM name++[cZ b.length]++(b.take g.1).flatMap hL++[cZ x.kind]++bM x.name).map dh)]) (λ_=>True) [] aj (λw f=>Au d (some ⟨d,0,none⟩) G (bM name++[cZ b.length]++(b.take g.1).flatMap hL++[cZ x.kind]) x.name w (.inr O) (by simp only [dG,i_,gf,du,eT]; omega) f) ?_;intro H _;refine aa (Cr (ad O (I (Yf mV O) (I (Yd 2 O O O ab) (I (Yf kz O) (I (Yd 2 O O O ab) ?_))))));refine Lb Y O h2 O O O O λt=>?_;refine cF 0 (.cells (([x.n,x.pl]:List Int).flatMap e8).toArray 3 (0,0)) O O ?_;refine WL.lv 0 O ?_;refine Lw (ι:=Option Addr×Value) [_,_] _ Y O aC O O (λ_=>.tuple #[]) (λr=>[ao d (.cells #[.pointer (r.1),r.2] 165 (0,0)),b6 5 1 r.2 (bM name++[cZ b.length]++(b.take g.1).flatMap hL++[cZ x.kind]++bM x.name++[x.n,x.pl].flatMap bj).length ((bM name++[cZ b.length]++(b.take g.1).flatMap hL++[cZ x.kind]++bM x.name++[x.n,x.pl].flatMap bj).map dh)]) (λr=>r.1=none\/r.1=some ⟨d,0,none⟩) [bv t (.cells (([x.n,x.pl]:List Int).flatMap e8).toArray 3 (0,0))] aj (λw f=>qb (bv t (.cells (([x.n,x.pl]:List Int).flatMap e8).toArray 3 (0,0))) (some ⟨t,0,none⟩) 2 [x.n,x.pl] d (some ⟨d,0,none⟩) H (bM name++[cZ b.length]++(b.take g.1).flatMap hL++[cZ x.kind]++bM x.name) w (ri _ aj) (.inr O) (by simp only [dG,i_,gf,du,eT]; omega) f) ?_;intro v J;refine Ln (Eb (Et (Cr (I (Yi O O O ae) (ad O (Ln ?_))))))
  exact b8 ((g.1+1,v.1,v.2):Nat×Option Addr×Value) (by first | omega | (dsimp only; omega)) ⟨by first | omega | (dsimp only; omega),J⟩ (λ_ h=>by
    have h:=Ws.out 2 h;have h:=Ws.av h (b3:=[j]) aj
    have e:bM name++[cZ b.length]++(b.take g.1).flatMap hL++[cZ x.kind]++bM x.name++[x.n,x.pl].flatMap bj=bM name++[cZ b.length]++(b.take (g.1+1)).flatMap hL:=by rw [Aw m]; simp [hL]
    rw [e] at h
    exact h)
 have K:g.1=b.length:=by simp at q; omega
 refine Ce (Ex (Ex (cB (Et (ag (ad O (I (cJ O) (I (Yf xN O) ?_))))))))
 refine Lw (ι:=Unit) [_,_] _ Y O aC O O (λ_=>st (bM name++[cZ b.length]++(b.take g.1).flatMap hL)) (λ_=>[]) (λ_=>True) [] aj (λw f=>by
     have:=Lq d g.2.1 g.2.2 (bM name++[cZ b.length]++(b.take g.1).flatMap hL) aj w u (by simp only [dG,i_,gf]; have F:=KJ p g.1; omega) f
     exact this.mono λe w' h=>⟨(),h.1,trivial,h.2⟩) ?_
 intro _ _;refine ak O (ak O (aa (a7 ?_)));refine WE.gZ O O O λw' f=>?_;exact ⟨by rw [dq,if_pos l,K,ew]; rfl,f.fr⟩
def qg (s:List UInt8):Option (bx×List UInt8):=do
 let (k,s) <-j9 s
 let (nm,s) <-ib s
 let (n,s) <-eR s
 let (pl,s) <-eR s
 pure (⟨k,n,pl,nm⟩,s)
def qh:Nat->List UInt8->Option (List bx×List UInt8)
 | 0,s=>some ([],s)
 | k+1,s=>(qg s).bind λp=>(qh k p.2).map λq=>(p.1::q.1,q.2)
def dt (s:List UInt8):Option ((List UInt8×List bx)×List UInt8):=
 (ib s).bind λp=>(j9 p.2).bind λq=>(qh q.1.toNat q.2).map λr=>((p.1,r.1),r.2)
def rk (s:List UInt8):Option (List UInt8×List bx):=match dt s with | some (f,[])=>some f | _=>none
def gF (s:List UInt8):(List UInt8×List bx)×Int:=if 32768<s.length then (([],[]),2) else match rk s with | some f=>if bp f.1 f.2=0 then (f,0) else (([],[]),1) | none=>(([],[]),1)
theorem VB (b:Nat) (s:List UInt8)  (w:World) (D:s.length<=9223372036854775807) (a:Ws w [b] [ao b (.cells #[st (s)] 229 (0,0))] [] w) :
   Calls prog 67 #[.pointer (some ⟨b,0,none⟩)] w λe w'=>(∃r:(List UInt8×List bx×List UInt8)×Option Addr×Nat,e = .returned (.agg #[st r.1.1,.slice r.2.1 r.1.2.1.length r.2.2])/\dt s=some ((r.1.1,r.1.2.1),r.1.2.2)/\Ws w [b] [ao b (.cells #[st (r.1.2.2)] 229 (0,0)),bS 131 4 bx.cells r.2.1 r.2.2 (r.1.2.1)] [] w')\/(∃t:List UInt8,e = .panicked ht/\dt s=none/\Ws w [b] [ao b (.cells #[st (t)] 229 (0,0))] [] w'):=by
 refine enter func67 O 31 O O ?_;refine CE a (ag ?_);refine Al Y O jR λE=>?_;refine aa (ag (ad O (Lf 1 O ?_)));refine dk [_] _ Y O aC O O _ _ _ _ _ _ ([]) aj (λw a=>Av b (s)  w D a) ?_ ?_
 ·intro t c;refine Ep ?_;refine bU λw' a=>?_;exact .inr ⟨t,O,(by simp [dt,c]),Wt 1 a⟩
 intro l o;refine I (Yb jR fy O O) ?_;refine Al Y O jR λF=>?_;refine LW (λ_ h=>h.eM 131 4) (aQ 1 Y O O O kV O O O (aa (Cs (ag (ad O (Lf 2 O ?_))))));refine dk (ι:=Int×List UInt8) (κ:=List UInt8) [_] _ Y O aC O O (λr=>.int .i64 r.1) (λr=>[ao b (.cells #[st (r.2)] 229 (0,0))]) (λr=>j9 l.2=some r) (λ_=>ht) (λt=>[ao b (.cells #[st (t)] 229 (0,0))]) (λ_=>j9 l.2=none) ([]) aj (λw a=>xO b (l.2)  w (by have:=kO o; omega) a) ?_ ?_
 ·intro t c;refine Ep (Ep ?_);refine bU λw' a=>?_;exact .inr ⟨t,O,(by simp [dt,o,c]),Wt 1 a⟩
 intro p u;obtain ⟨R,S⟩:=U_ u
 have G:p.2.length<=9223372036854775807:=by have:=kO o; have:=qO u; omega
 obtain ⟨l_,y⟩:∃l_:Nat,p.1=(l_:Int):=⟨p.1.toNat,ae⟩;rw [y];refine ad O (aa (Cb ?_));refine dc (ι:=List bx×List UInt8×Option Addr×Nat) (λg=>[(10,.int .i64 (g.1.length:Int))]) [(0,_),(2,_),(3,_),(9,_)] (λg=>Ws w [b] [ao b (.cells #[st (g.2.1)] 229 (0,0)),bS 131 4 bx.cells g.2.2.1 g.2.2.2 (g.1),ao F (.cells #[st l.1,.slice g.2.2.1 (g.1).length g.2.2.2] 65 (0,0)),ao E (.cells #[st [],.slice none (([]:List bx)).length 0] 65 (0,0))] []) (λg=>g.1.length<=l_/\g.2.1.length<=9223372036854775807/\qh l_ p.2=(qh (l_-g.1.length) g.2.1).map λq=>(g.1++q.1,q.2)) (λg=>l_-g.1.length) ([],p.2,none,0) ⟨cq _,G,aj⟩ an ?_;intro g ⟨hi,H,z⟩;refine ag (I (ai O O) (aa (Cs ?_)));refine Cc O (λA=>?_) (λA=>?_)
 ·have T:g.1.length<l_:=by simpa using A
  have v:qg g.2.1=none->dt s=none:=λJ=>by
    obtain ⟨m,B⟩:∃m,l_-g.1.length=m+1:=⟨l_-g.1.length-1,ae⟩;simp only [dt,o,u,bt,y,mu,z,B,qh,J,cW,dB]
  refine bk (Cs (Cb (ag (ad O ?_))));refine dk [_] _ Y O aC O O _ _ _ _ _ _ ([]) aj (λw a=>xO b (g.2.1)  w H a) ?_ ?_
  ·intro t c;refine Ep (WE.cm (Ep (Ep (WE.cm (Ep ?_)))));refine bU λw' a=>?_;exact .inr ⟨t,O,v (by simp [qg,c]),Wt 1 a⟩
  intro d j;refine ad O ?_;refine dk (ι:=List UInt8×List UInt8) (κ:=List UInt8) [_] _ Y O aC O O (λr=>st r.1) (λr=>[ao b (.cells #[st (r.2)] 229 (0,0))]) (λr=>ib d.2=some r) (λ_=>ht) (λt=>[ao b (.cells #[st (t)] 229 (0,0))]) (λ_=>ib d.2=none) ([]) aj (λw a=>Av b (d.2)  w (by have:=qO j; omega) a) ?_ ?_
  ·intro t c;refine Ep (WE.cm (Ep (Ep (WE.cm (Ep ?_)))));refine bU λw' a=>?_;exact .inr ⟨t,O,v (by simp [qg,j,c]),Wt 1 a⟩
  intro f n;refine I (Yb ij se O O) ?_;refine Al Y O ij λU=>?_;refine aQ 0 Y O O O kA O O O (aa (ag (ad O (Lf 1 O ?_))));refine dk (ι:=Int×List UInt8) (κ:=List UInt8) [_] _ Y O aC O O (λr=>.int .i64 r.1) (λr=>[ao b (.cells #[st (r.2)] 229 (0,0))]) (λr=>eR f.2=some r) (λ_=>ht) (λt=>[ao b (.cells #[st (t)] 229 (0,0))]) (λ_=>eR f.2=none) ([]) aj (λw a=>qc b (f.2)  w (by have:=qO j; have:=kO n; omega) a) ?_ ?_
  ·intro t c;refine Ep (WE.cm (Ep (Ep (WE.cm (Ep ?_)))));refine bU λw' a=>?_;exact .inr ⟨t,O,v (by simp [qg,j,n,c]),Wt 1 a⟩
  intro i x;refine I (Yf mV O) (aQ 1 Y O O O dZ O O O (aa (ag (ad O ?_))));refine dk (ι:=Int×List UInt8) (κ:=List UInt8) [_] _ Y O aC O O (λr=>.int .i64 r.1) (λr=>[ao b (.cells #[st (r.2)] 229 (0,0))]) (λr=>eR i.2=some r) (λ_=>ht) (λt=>[ao b (.cells #[st (t)] 229 (0,0))]) (λ_=>eR i.2=none) ([]) aj (λw a=>qc b (i.2)  w (by have:=qO j; have:=kO n; have:=cD x; omega) a) ?_ ?_
  ·intro t c;refine Ep (WE.cm (Ep (Ep (WE.cm (Ep ?_)))));refine bU λw' a=>?_;exact .inr ⟨t,O,v (by simp [qg,j,n,x,c]),Wt 1 a⟩
  intro k C;refine I (Yf kz O) (aQ 1 Y O O O dZ O O O (aa (Cr (I (Yf q8 O) (I (Yd 3 O O O ab) (I (cc 1 O O kU O) ?_))))));refine Lb Y O nB O O O O λV=>?_;refine cF 0 (.cells (bx.cells ⟨d.1,i.1,k.1,f.1⟩).toArray 131 (0,0)) O O ?_;refine LA ⟨d.1,i.1,k.1,f.1⟩ 3 0 Y O nB O O O O O O ae ae λK L=>?_;refine I (Yf q8 O) (aQ 4 Y O O O KG O O O (Ln (Eb (Et (Cr (I (Yi O O O ae) (ad O (Ln ?_))))))))
  have M:qg g.2.1=some (⟨d.1,i.1,k.1,f.1⟩,k.2):=by simp [qg,j,n,x,C]
  rw [show ((g.1.length+1:Nat):Int)=(((g.1++[(⟨d.1,i.1,k.1,f.1⟩:bx)]).length:Nat):Int) by simp]
  exact b8 ((g.1++[⟨d.1,i.1,k.1,f.1⟩],k.2,K,L):List bx×List UInt8×Option Addr×Nat) (by simp; omega) ⟨by simp; omega,by have:=qO j; have:=kO n; have:=cD x; have:=cD C; dsimp only; omega,by
      rw [z];obtain ⟨m,B⟩:∃m,l_-g.1.length=m+1:=⟨l_-g.1.length-1,ae⟩
      have N:l_-(g.1++[(⟨d.1,i.1,k.1,f.1⟩:bx)]).length=m:=by simp; omega
      dsimp only;rw [B,N];simp [qh,M]
      rfl⟩ (λ_ h=>by
    have h:=Ws.out 0 h;have h:=Ws.out 1 h
    exact h)
 have P:g.1.length=l_:=by simp at A; omega
 refine Ce (Ex (Ex (cB (Et (ag (I (cc 2 O O jS O) (aQ 3 Y O O O kV O O O (aa (a7 ?_)))))))));refine WE.t' 3 O O O jS O λw' a=>?_
 have Q:dt s=some ((l.1,g.1),g.2.1):=by
   simp only [dt,o,u,bt,y,mu,z,P,sF,qh,da,h3]
 exact .inl ⟨((l.1,g.1,g.2.1),g.2.2),O,Q,Wt 2 a⟩
theorem VC (a:Nat) (x:Bool) (w:World) (b:Ws w [a] [ao a (.cells #[.bool x] 4 (0,0))] [] w) :
   CallsD prog 136 #[.pointer (some ⟨a,0,none⟩)] (.returning) w λe c w'=>c = .returning/\(e = .returned (.tuple #[])/\Ws w [a] [ao a (.cells #[.bool x] 4 (0,0))] [] w'):=by
 refine rH func136 O 3 O O O O O (λ_=>rfl) (.inl ⟨O,O,O⟩) ?_;refine LW (W':=Ws w [a] [ao a (.cells #[.bool x] 4 (0,0))] []) (λ_ e=>by subst e; exact b) (I (yA tx O) (aa ?_));refine WC.kg O ?_;refine Ck ?_;refine E0 O λw' b=>?_;exact ⟨O,b⟩
theorem VD (a:Nat) (x:Bool) (w:World) (b:Ws w [a] [ao a (.cells #[.bool x] 4 (0,0))] [] w) :
   CallsD prog 136 #[.pointer (some ⟨a,0,none⟩)] (.panicking [⟨.iface 278 (.agg #[]),false,false⟩]) w λe c w'=>c = .panicking [⟨.iface 278 (.agg #[]),true,false⟩]/\(e = .returned (.tuple #[])/\Ws w [a] [ao a (.cells #[.bool false] 4 (0,0))] [] w'):=by
 refine rH func136 O 3 O O O O O (λ_=>rfl) (.inr ⟨_,O,O,O⟩) ?_;refine LW (W':=Ws w [a] [ao a (.cells #[.bool x] 4 (0,0))] []) (λ_ e=>by subst e; exact b) (I (Bt tx O) (aa ?_));refine WC.ye O ?_;refine Cr (aQ 0 Y O O O zW O O O (Ln ?_));refine E0 O λw' b=>?_;exact ⟨O,b⟩
theorem VE (s:List UInt8) (w:World) (i:s.length<=9223372036854775807) :
   Calls prog 66 #[st s,.func (.func 67) #[] #[]] w λe w'=>∃(f:List UInt8×List bx) (ok:Bool) (a:Option Addr) (c:Nat),e = .returned (.tuple #[.agg #[st f.1,.slice a f.2.length c],.bool ok])/\(ok=true->rk s=some f)/\(ok=false->rk s=none)/\Ws w [] [bS 131 4 bx.cells a c (f.2)] [] w':=by
 refine yx func66 O 20 O O ?_;refine CE (Vs:=[]) (Ws.init aj) (ag ?_);refine Al Y O jR λm=>?_;refine Al Y O LD λd=>?_;refine aa (ag (I (pn O) ?_));refine WL.defer Y O ?_;refine aa (ag (ad O (I (Yb LG LF O O) ?_)));refine WL.box Y O O λj=>?_;refine ak O (aa (ag (ad O (ad O ?_))));refine WL.Br [_] _ Y O aC O O O _ _ _ _ _ _ ([]) aj (λw b=>VB j s w i b) ?_ ?_
 ·intro t k;refine Ep ?_;refine WE.front 1 O ?_;refine WE.rG aC (nR [_] _ _ O (λw b=>VD d _ w b)) (fu O (dX 2 O O jS O) (l2 0 O O O ab)) λw' b=>?_;refine ⟨([],[]),false,none,0,O,aj,λ_=>by simp [rk,k],?_⟩;have h:=Ws.drop (L:=[_,_,_]) (L':=[]) b;exact h.eM 131 4
 intro r g;refine aQ 3 Y O O O kV O O O (aa (Cs ?_));refine WC.uh (nQ [.cell 4 65,.cell 5 4]) [3,2] [(1,true),(2,true),(3,true),(4,true),(5,true),(0,false),(6,false),(7,false)] mixed ab ab (λ_ _ _ _ _ l h=>rI (fn:=f66) [.cell 4 65,.cell 5 4] O l h) ?_;refine D0 O (cH [3,2]) (Ym O) (D0 O (cH [3,2]) (cJ O) (D0 O (cH [3,2]) (Yf vy O) (D0 O (cH [3,2]) (Yd 0 O O O ab) (D0 O (cH [3,2]) (qq O O) ?_))));refine De O (cH [3,2]) ?_;refine I (cc 3 O O jS O) (Ln (Ed ?_));refine De O (cH [3,2]) ?_;refine aQ 3 Y O O O kV O O O (Ln (Ed ?_));refine De O (cH [3,2]) ?_;refine aQ 2 Y O O O zW O O O (Ln (Ed ?_));refine WD.nil (cH [3,2]) ?_;refine Et (a7 ?_);refine WE.front 2 O ?_;refine WE.yz aC (nR [_] _ _ O (λw b=>VC d _ w b)) (fu O (dX 3 O O jS O) (l2 0 O O O ab)) λw' b=>?_;refine ⟨(r.1.1,r.1.2.1),r.1.2.2==[],r.2.1,r.2.2,O,λh=>?_,λh=>?_,?_⟩
 · simp only [beq_iff_eq] at h
   simp [rk,g,h]
 · simp only [beq_eq_false_iff_ne] at h
   unfold rk;rw [g];obtain ⟨⟨nm,n,rest⟩,q⟩:=r
   cases rest with
   | nil=>exact absurd rfl h
   | cons _ _=>rfl
 · exact Ws.iO (L:=[_]) (Ws.out 0 (Ws.out 0 b))
theorem VF (s:List UInt8) (w:World) :
   Calls prog 23 #[st s] w λe w'=>∃r:SP,e = .returned (.tuple #[.agg #[st (gF s).1.1,.slice r.1 (gF s).1.2.length r.2],.int .i64 (gF s).2])/\Ext w w'/\Sl hQ 4 (nv w w') r.1 r.2 (gF s).1.2:=by
 refine enter func23 O 24 O O ?_;refine CE (Vs:=[]) (Ws.init aj) (ag ?_);refine Al Y O jR λq=>?_;refine ak O (aa (Cs (ag (ad O (I (nK ab O) (I (dO O O) (aa ?_)))))));refine Cc O (λj=>?_) (λj=>?_)
 ·have i:32768<s.length:=by simp at j; omega
  have d:gF s=(([],[]),2):=by rw [gF,if_pos i]
  refine ag (I (Yb jR fy O O) (aQ 0 Y O O O kV O O O (ak O (aa (a7 (Er ?_))))));refine WE.eB (fu O (dX 0 O O jS O) (gG O)) λw' b=>?_;rw [d];exact ⟨(none,0),O,b.fr,Sl.nil⟩
 have i:¬32768<s.length:=by simp at j; omega
 refine bk (ag (ad O ?_));refine Lw (ι:=(List UInt8×List bx)×Bool×Option Addr×Nat) [] _ Y O aC O O (λr=>.tuple #[.agg #[st r.1.1,.slice r.2.2.1 r.1.2.length r.2.2.2],.bool r.2.1]) (λr=>[bS 131 4 bx.cells r.2.2.1 r.2.2.2 (r.1.2)]) (λr=>(r.2.1=true->rk s=some r.1)/\(r.2.1=false->rk s=none)) [] aj (λw b=>(VE s w ae).mono λe w' ⟨f,ok,a,c,m,n,o,p⟩=>⟨(f,ok,a,c),m,⟨n,o⟩,p⟩) ?_;intro r k;refine ad O (I (Yx O O) (I (Yx O O) ?_));refine Al Y O jR λt=>?_;refine aQ 0 Y O O O kV O O O (ak O (aa (Cs (ag (ad O (I (e5 O) (ad O ?_)))))));apply Lo 3 O O O O Y O O O O O
 ·intro u;refine Vg (cc 0 O O jS O) (Lp (.g O O O) O aC O (λw b=>D_ (hv w) _ _ _ _ w (jU w) (b.wi 1 O bx.ck cp)) (Vg (fz O O) ?_));exact Gt 3 O O O
 refine aa ?_;refine Cc O (λh=>?_) (λh=>?_)
 ·have d:gF s=(([],[]),1):=by
    unfold gF;rw [if_neg i]
    cases l:r.2.1 with
    | false=>rw [k.2 l]
    | true=>
      rw [k.1 l]
      have:¬bp r.1.1 r.1.2=0:=by simpa [l] using h
      simp [this]
  refine ag (I (Yb jR fy O O) (aQ 2 Y O O O kV O O O (ak O (aa (a7 (Er ?_))))));refine WE.eB (fu O (dX 2 O O jS O) (gG O)) λw' b=>?_;rw [d];exact ⟨(none,0),O,b.fr,Sl.nil⟩
 have d:gF s=(r.1,0):=by
   unfold gF;rw [if_neg i];simp at h;rw [k.1 h.1];simp [h.2]
 refine bk (ag (I (cc 0 O O jS O) (aQ 2 Y O O O kV O O O (ak O (aa (a7 ?_))))));refine WE.eB (fu O (dX 2 O O jS O) (gG O)) λw' b=>?_;rw [d];exact ⟨r.2.2,O,b.fr,b.iP 1 O bx.ck cp⟩
def sv (ke ks:Nat) (a:View) (b o:Nat) (m:aX):Prop:=∃r:iQ,bR a b o (a6 m r)/\jk ke ks a r m
structure LO where
 i:Nat
 M:List (dP (List UInt8))
 c:Nat
theorem VG {l:List aX} (h:4<l.length):h' l=2:=by rw [h',if_pos h]
theorem VH {l:List aX} {i:Nat} {m:aX} (a:¬4<l.length) (hi:l[i]? = some m) (b:∀x ∈ l.take i,gz x=0) (h:¬gz m=0):h' l=gz m:=by
 rw [h',if_neg a,uC gz hi (mI.2 b) h,py h]
theorem LP {l:List aX} (a:¬4<l.length) (b:∀x ∈ l,gz x=0):h' l=if e6 (gB l)=true then 6 else if wH l=true then 0 else 5:=by
 rw [h',if_neg a,mI.2 b,k8]
theorem AE {α:Type} {l:List α} {i:Nat} {x:α} {p:α->Prop} (b:l[i]? = some x) (h:∀y ∈ l.take i,p y) (c:p x):∀y ∈ l.take (i+1),p y:=by
 intro y a;rw [hg b] at a
 rcases dA.1 a with a | a
 · exact h y a
 · rw [az] at a; subst a; exact c
theorem VI {l:List aX} {m:aX} {s:List UInt8} (a:m ∈ l) (b:s ∈ m.aq) (h:(h9 l s).isSome=false):wH l=false:=by
 unfold wH;rw [jH];refine ⟨m,a,?_⟩;rw [vV,jH];exact ⟨s,b,by simp [h]⟩
theorem VJ {l:List aX} (h:∀m ∈ l,∀s ∈ m.aq,(h9 l s).isSome=true):wH l=true:=fG.2 λm a=>fG.2 λs b=>h m a s b
theorem oi:fk prog 80=some 5:=ab
theorem VK:gx prog 198=some [(0,1),(1,1)]:=ab
theorem VL:zeroOf prog 198=some (.agg #[.slice none 0 0,.map none]):=ab
theorem AF:cx prog 198 1=some 1:=ab
theorem VM (j:View) (ke ks:Nat) (a:Option Addr) (c:Nat) (l:List aX) (w:World) (Z:Le j w) (o:Sl (sv ke ks) 5 j a c l) (T:∀m ∈ l,wM m<=109951162777) :
   Calls prog 105 #[.slice a l.length c] w λe w'=>∃r:Nat×Nat,e = .returned (.tuple #[.pointer (if h' l=0 then some ⟨r.1,0,none⟩ else none),.int .i64 (h' l)])/\Ext w w'/\(h' l=0->vc (nv w w') r.1 1=some (.map (some r.2))/\(nv w w') r.2=some (ar st (gH (gB l) 0) l.length)):=by
 have aL:=o.cap;have aM:=o.max;refine enter func105 O 76 O O ?_;refine CE (Vs:=[j]) (Ws.init (by simp [Z])) (ag (ak O (ak O (aa (Cs (ag (ad O (I (Yn oi O) (I (dO O O) ?_)))))))));refine aa ?_;refine Cc O (λz=>?_) (λz=>?_)
 ·have q:4<l.length:=by simp at z; omega
  refine ag (ak O (ak O (aa (a7 (Er ?_)))));refine WE.gZ O O O λw' b=>?_;rw [VG q];exact ⟨(0,0),O,b.fr,λh=>by cases h⟩
 have q:¬4<l.length:=by simp at z; omega
 refine bk (ag (ad O ?_));refine WL.nc st Y O λA=>?_;refine I (Yb VL VK O O) ?_;refine WL.box Y O O λU=>?_;refine ak O (aa (Cs (ag (ad O (I (Yn oi O) (ad O (aa (Cb ?_))))))));refine dc (ι:=LO) (λg=>[(23,.int .i64 (g.i:Int))]) [(0,_),(4,_),(21,_),(22,_)] (λg=>Ws w [] [ao U (.cells #[.slice a l.length c,.map (some A)] 198 (0,0)),ao A (ar st g.M g.c)] [j]) (λg=>g.i<=l.length/\(∀m ∈ l.take g.i,gz m=0)/\Cx (gB l) g.i g.M g.c) (λg=>l.length-g.i) ⟨0,[],0⟩ ⟨cq _,aj,.inl ⟨aj,O,O⟩⟩ an ?_;intro g ⟨hi,t,B⟩;refine ag (I (ai O O) (aa (Cs ?_)));refine Cc O (λC=>?_) (λC=>?_)
 ·have u:g.i<l.length:=by simpa using C
  obtain ⟨m,v⟩:=cg u;obtain ⟨aN,aO,ac,af⟩:=o.bT g.i m v;obtain ⟨ah,al,am⟩:=af;have ap:=ax v;have aP:=T m ap;have au:=ig v;refine bk (Cs (Cb (ag (ad O (I (Yo oi O O ac ae) (I (dV 0 iG O O O (al)) ?_))))));refine Al Y O ch λaR=>?_;refine ak O (aQ 0 Y O O O mU O O O (aa (Cs (ag (I (cc 0 O O iG O) (Lp Y O aC O (λw b=>DQ j ke ks ah m w b.V am ae) (ak O (aa (ag (ad O ?_))))))))));refine I (fz O O) (aa ?_);refine Cc O (λD=>?_) (λD=>?_)
  ·have x:¬gz m=0:=by simpa using D
   refine ag (ad O (ak O (ak O (aa (a7 (Er (cG (Er (Er (cG (Er ?_)))))))))));refine WE.gZ O O O λw' b=>?_;rw [VH q v t x];exact ⟨(0,0),by rw [if_neg x],b.fr,λh=>absurd h x⟩
  have x:gz m=0:=by simpa using D
  refine bk ?_;refine WC.lu 2 [(0,true),(1,true),(2,true),(3,true),(4,true),(5,true),(6,true),(7,false)] mixed ab (λ_ _ _ d _ h=>by cases d<;>exact h) ?_;refine D0 O (Wp 2) (Ym O) (D0 O (Wp 2) (cJ O) (D0 O (Wp 2) (Yf AF O) (D0 O (Wp 2) (Yd 1 O O O ab) (D0 O (Wp 2) (Yf qZ O) (D0 O (Wp 2) (Yd 0 O O O ab) (D0 O (Wp 2) (Ym O) ?_))))));refine De O (Wp 2) ?_;refine WL.oz 2 h4 Y ih ab O O O O ?_;refine Ln (Ed ?_);refine WD.nil (Wp 2) ?_;refine Eb (Et (Cr (I (Yi O O O ae) (ad O (Ln ?_)))));exact b8 (⟨g.i+1,eJ m.nm (.int .i64 (g.i:Int)) g.M g.c,hz m.nm g.M g.c⟩:LO) (by show _-(g.i+1)<_; omega) ⟨(by show g.i+1<=_; omega),AE v t x,OW B au⟩ (λ_ h=>Wd 1 h)
 have y:g.i=l.length:=by simp at C; omega
 rw [y,ew] at t;refine Ce (Ex (Ex (cB (Et (Cs (ag (ad O (I (cJ O) (I (Yf AF O) (I (Yd 0 O O O ab) (I (Bp 1 ih O O) (ad O ?_))))))))))));refine I (Yn oi O) (I (ai O O) (aa ?_));refine Cc O (λE=>?_) (λE=>?_)
 ·have F:g.M.length<l.length:=by simp at E; omega
  have G:e6 (gB l)=true:=by
    rcases B with ⟨f,p,av⟩ | ⟨f,p⟩
    · rw [p,Cu] at F; simp [rT] at F; omega
    · rw [y,<-rT l,ew] at f
      rw [jl] at f; simpa using f
  refine ag (ak O (ak O (aa (a7 (Er ?_)))));refine WE.gZ O O O λw' b=>?_;rw [LP q t,G];exact ⟨(0,0),O,b.fr,λh=>by cases h⟩
 have F:¬g.M.length<l.length:=by simp at E; omega
 obtain ⟨aw,ay,az⟩:(gB l).Nodup/\g.M=gH (gB l) 0/\g.c=l.length:=by
   rcases B with ⟨f,p,av⟩ | ⟨f,p⟩
   · rw [y,<-rT l,ew] at f
     rw [y,<-rT l,ew] at p;exact ⟨f,p,ae⟩
   · omega
 have G:=jl.1 aw;rw [ay,az];have H:=LP q t;rw [G] at H;refine bk (Cs (ag (ad O (I (Yn oi O) (ad O (aa (Cb ?_)))))));refine bV (ι:=Nat) (λi=>[(51,.int .i64 (i:Int))]) [(4,_),(49,_),(50,_)] (λi=>i<=l.length/\∀m ∈ l.take i,∀s ∈ m.aq,(h9 l s).isSome=true) (λi=>l.length-i) 0 ⟨cq _,aj⟩ ?_;intro i ⟨aS,W⟩;refine ag (I (ai O O) (aa (Cs ?_)));refine Cc O (λJ=>?_) (λJ=>?_)
 ·have u:i<l.length:=by simpa using J
  obtain ⟨n,K⟩:=cg u;obtain ⟨aT,aU,aA,aB⟩:=o.bT i n K;obtain ⟨aV,aD,L⟩:=aB;have X:=ax K;have aW:=T n X;have aY:=L.aq.cap;have aZ:=L.aq.max;refine bk (Cs (Cb (ag (I (Yo oi O O aA ae) (I (dV 0 iG O O O (aD)) ?_)))));refine Al Y O ch λa0=>?_;refine aQ 0 Y O O O mU O O O (aa (ag (I (Yf nz O) (I (Yd 0 O O O ab) (I (Yn dy O) (ad O (aa (Cb ?_))))))));refine bV (ι:=Nat) (λk=>[(58,.int .i64 (k:Int))]) [(4,_),(49,_),(50,_),(51,_),(56,_),(57,_)] (λk=>k<=n.aq.length/\∀s ∈ n.aq.take k,(h9 l s).isSome=true) (λk=>n.aq.length-k) 0 ⟨cq _,aj⟩ ?_;intro k ⟨a1,N⟩;refine ag (I (ai O O) (aa (Cs ?_)));refine Cc O (λP=>?_) (λP=>?_)
  ·have u:k<n.aq.length:=by simpa using P
   obtain ⟨s,Q⟩:=cg u;obtain ⟨aE,pos,aF,R⟩:=L.aq.bT k s Q;have R:bR j aE (pos+k*1) (c' s):=R;refine bk (Cs (Cb (ag (I (Yo dy O O aF ae) (I (cu 0 ab O O (R 0 _ O)) (ak O (aa (ag (ad O (I (cJ O) (I (Yf AF O) ?_)))))))))));refine I (Yd 1 O O O ab) (ad O (I (yH 2 h4 ih ab b0 O O O) ?_));rw [(wL _ _).1,(wL _ _).2];refine ad O (I (Yx O O) (I (Yx O O) (ak O (ak O (aa (ag (ad O (I (e5 O) ?_))))))));refine aa ?_;refine Cc O (λS=>?_) (λS=>?_)
   ·have aG:(h9 l s).isSome=false:=by simpa [h9] using S
    refine ag (ak O (ak O (aa (a7 (cG (Er (Er (cG (cG (Er (Er (cG (Er ?_)))))))))))));refine WE.gZ O O O λw' b=>?_;rw [H,VI X (ax Q) aG];exact ⟨(0,0),O,b.fr,λh=>by cases h⟩
   have aH:(h9 l s).isSome=true:=by simpa [h9] using S
   refine Ck (Eb (Et (Cr (I (Yi O O O ae) (ad O (Ln ?_))))));exact b8 (k+1) ae ⟨ae,AE Q N aH⟩ an
  have aI:k=n.aq.length:=by simp at P; omega
  rw [aI,ew] at N;refine Ce (Ex (Ex (cB (Eb (Et (Cr (I (Yi O O O ae) (ad O (Ln ?_)))))))));exact b8 (i+1) ae ⟨ae,AE K W N⟩ (λ_ h=>Wd 1 h)
 have a2:¬i<l.length:=by simpa using J
 have aJ:∀m ∈ l,∀s ∈ m.aq,(h9 l s).isSome=true:=λm o=>W m (by rw [kF ae]; exact o)
 have aK:h' l=0:=by rw [H,VJ aJ]; rfl
 refine Ce (Ex (Ex (cB (Et (ag (ad O (ak O (ak O (aa (a7 ?_))))))))));refine WE.gZ O O O λw' b=>?_;rw [aK];exact ⟨(U,A),O,b.fr,λ_=>⟨b.Bk 0 O O,b.B8 1 O⟩⟩
def bB (i:Nat):List Value:=[.int .i64 (i:Int)]
theorem sw (i:Nat):(bB i).length=1:=rfl
def wU (a:View) (b o:Nat) (i:Nat):Prop:=bR a b o (bB i)
def EL (x:Nat):Int:=if x=0 then 0 else if x=1 then 1 else if x<=3 then 2 else 3
def bz (d:List Nat) (j:Nat):Nat:=d.getD j 0
theorem LQ {d:List Nat} {j:Nat} (h:j<d.length):d[j]? = some (bz d j):=by simp [bz,List.getD,dL h]
def gy (l:List aX) (d:List Nat) (a:List Tx):Int:=if a.all (j5 l d)=true then -1 else ((a.findIdx λs=>!j5 l d s:Nat):Int)
theorem VN {l:List aX} {d:List Nat} {a:List Tx} (h:∀s ∈ a,j5 l d s=true):gy l d a = -1:=by rw [gy,if_pos (fG.2 h)]
theorem VO {l:List aX} {d:List Nat} {a:List Tx} {i:Nat} {s:Tx} (hi:a[i]? = some s) (c:∀s ∈ a.take i,j5 l d s=true) (h:j5 l d s=false):gy l d a=(i:Int):=by
 have e:=(cf.1 hi).1;have f:=(cf.1 hi).2;rw [gy,if_neg (λb=>by rw [fG] at b; rw [b s (ax hi)] at h; cases h)]
 congr 1
 rw [List.findIdx_eq e];refine ⟨by rw [f,h]; rfl,λj g=>?_⟩;rw [c _ (by rw [List.mem_take_iff_getElem]; exact ⟨j,ae,rfl⟩)]
 rfl
theorem VP (l:List aX) (d:List Nat) (a:List Tx):decide (gy l d a≥0) = !a.all (j5 l d):=by
 unfold gy
 by_cases h:a.all (j5 l d)=true
 · rw [if_pos h,h]; rfl
 · rw [if_neg h,qn.2 h]; simp
structure AG where
 i:Nat
 d:List Nat
theorem VQ {l:List aX} (m:(gB l).Nodup) {d:List Nat} (g:∀x ∈ d,x<l.length) (n:d.Nodup) {i j a b:Nat} (c:d[i]? = some a) (k:d[j]? = some b) (o:i≠j) (h:¬oK (gC l a) (gC l b)<0):oJ l b a:=by
 have p:gC l a≠gC l b:=λe=>by
   have:=wI m (g a (ax c)) (g b (ax k)) e;subst this;exact o ((ru (cf.1 c).1 n).1 (c.trans k.symm))
 rcases G_ _ _ p with f | f
 · exact absurd (He.2 f) h
 · exact f
theorem VR {R:Nat->Nat->Prop} {d:List Nat} {i j:Nat} (h:mJ R d i) (g:d.length<=i):mJ R d j:=λx y a b e k f c=>h x y a b e (by have:=(cf.1 c).1; omega) f c
theorem VS {R:Nat->Nat->Prop} {d:List Nat}:mJ R d 1:=λx y a b c e=>by omega
theorem VT:prog.underlying 305=some (.int .u64):=ab
theorem LR (s:Tx) (w:World) :
   Calls prog 160 #[st s] w λe w'=>e = .returned (.bool false)/\Ext w w':=by
 refine enter func160 O 6 O O ?_;refine CE (Vs:=[]) (Ws.init aj) (ag (ak O (aa (ag (ad O (ad O (I (BZ O O O) (ak O ?_))))))));refine aa (a7 ?_);refine R1 O O λw' a=>?_;exact ⟨O,a.fr⟩
theorem VU (s t:Tx) (w:World) :
   Calls prog 108 #[st s,st t] w λe w'=>e = .returned (.int .i64 (oK s t))/\Ext w w':=by
 refine enter func108 O 20 O O ?_;refine CE (Vs:=[]) (Ws.init aj) (ag (ak O (aa (ag (ad O (Lp Y O aC O (λw a=>LR _ w) (ak O (aa (ag ?_)))))))));refine ad O (Lp Y O aC O (λw a=>LR _ w) (ak O (aa (Cs (ag (ad O (aa ?_)))))));refine WC.kg O ?_;refine bk (Cs (ag (ad O (aa ?_))));refine WC.kg O ?_;refine bk (Cs (ag (ad O (ad O (I (Rk O O) (aa ?_))))));refine Cc O (λb=>?_) (λb=>?_)
 ·refine ag (ak O (aa (a7 (Er ?_))));refine R1 O O λw' a=>?_;have h:iW s t=true:=b;exact ⟨by rw [oK,if_pos h],a.fr⟩
 refine bk (Cs (ag (ad O (ad O (I (Rl O O) (aa ?_))))));refine Cc O (λc=>?_) (λc=>?_)
 ·refine ag (ak O (aa (a7 (Er ?_))));refine R1 O O λw' a=>?_
  have h:¬iW s t=true:=by rw [vV]; exact b
  have d:(!(iW s t||s==t))=true:=c;exact ⟨by rw [oK,if_neg h,if_pos d],a.fr⟩
 refine bk (ag (ak O (aa (a7 ?_))));refine R1 O O λw' a=>?_
 have h:¬iW s t=true:=by rw [vV]; exact b
 have d:¬(!(iW s t||s==t))=true:=by rw [vV]; exact c
 exact ⟨by rw [oK,if_neg h,if_neg d],a.fr⟩
theorem VV (x:Nat) (w:World) (g:x<=4) :
   Calls prog 207 #[.int .u64 (x:Int)] w λe w'=>e = .returned (.int .i64 (EL x))/\Ext w w':=by
 have d:IntKind.u8.wrap (x:Int)=(x:Int):=by rcases (show x=0\/x=1\/x=2\/x=3\/x=4 by omega) with rfl | rfl | rfl | rfl | rfl<;>rfl
 refine enter func207 O 25 O O ?_;refine CE (Vs:=[]) (Ws.init aj) (ag (ak O (aa (Cs (ag (ad O (I (gw O O) (aa ?_))))))));refine Cc O (λa=>?_) (λa=>?_)
 ·exfalso
  simp at a;omega
 refine bk (Cs (ag (ad O (I (gw O O) (aa ?_)))));refine Cc O (λb=>?_) (λb=>?_)
 ·exfalso
  simp at b;omega
 refine bk (Cs (ag (ad O (I (gw O O) (aa ?_)))));refine Cc O (λc=>?_) (λc=>?_)
 ·exfalso
  simp at c;omega
 refine bk (ag (ad O (ad O (I (hF VT u0 O) ?_))));rw [d];refine I (sI ab rfl rfl (show _=some (UInt8.ofNat (EL x).toNat) by rcases (show x=0\/x=1\/x=2\/x=3\/x=4 by omega) with rfl | rfl | rfl | rfl | rfl<;>rfl)) (I (hF u0 hW rfl) (I (yi rfl rfl) (I (Ya rfl) (aa (a7 ?_)))));refine R1 O O λw' f=>?_;exact ⟨by rcases (show x=0\/x=1\/x=2\/x=3\/x=4 by omega) with rfl | rfl | rfl | rfl | rfl<;>rfl,f.fr⟩
theorem VW (x:Nat) (w:World) (b:x<=4) :
   Calls prog 159 #[.int .u64 (x:Int)] w λe w'=>e = .returned (.int .i64 (EL x))/\Ext w w':=by
 refine enter func159 O 8 O O ?_;refine CE (Vs:=[]) (Ws.init aj) (ag (ak O (aa (Cs ?_))));refine WC.kg O ?_;refine bk (ag (ad O (Lp Y O aC O (λw a=>VV x w b) (ak O (aa (a7 ?_))))));refine R1 O O λw' a=>?_;exact ⟨O,a.fr⟩
theorem VX (a b:View) (ke ks c:Nat) (f:Option Addr) (g:Nat) (l:List aX) (k:vc a c 0=some (.slice f l.length g)) (m:Sl (sv ke ks) 5 b f g l) (i j:Nat) (w:World) (r:Le a w) (s:Le b w) (hi:i<l.length) (n:j<l.length) :
   Calls prog 107 #[.int .i64 (i:Int),.int .i64 (j:Int),.pointer (some ⟨c,0,none⟩)] w λe w'=>e = .returned (.int .i64 (oK (gC l i) (gC l j)))/\Ext w w':=by
 obtain ⟨t,o⟩:=cg hi;obtain ⟨C,D,u,E,v,F⟩:=m.bT i t o;have x:=nZ o;obtain ⟨y,p⟩:=cg n;obtain ⟨G,H,z,I,A,J⟩:=m.bT j y p;have B:=nZ p;refine enter func107 O 17 O O ?_;refine CE (Vs:=[a,b]) (Ws.init (by simp [r,s])) (ag (ak O (aa (Cs ?_))));refine WC.k3 [(0,true),(1,true),(2,true),(3,true),(4,true),(5,true),(6,true),(7,true),(8,true),(9,true),(10,false),(11,true)] mixed ab (λ_ _ _ d _ h=>by cases d<;>exact h) ?_;refine D0 O an (cu 0 ab O O (k)) (D0 O an (Ym O) (D0 O an (Yo oi O O u hi) (D0 O an (Yf qZ O) (D0 O an (cu 1 ab O O (v 0 _ O)) (D0 O an (cu 0 ab O O (k)) (D0 O an (Ym O) (D0 O an (Yo oi O O z n) ?_)))))));refine D0 O an (Yf qZ O) (D0 O an (cu 1 ab O O (A 0 _ O)) ?_);refine De O an ?_;refine Lp Y O aC O (λw q=>VU _ _ w) (Ln (Ed (D0 O an (Ya O) ?_)));refine WD.nil an ?_;refine Et (a7 ?_);refine R1 O O λw' q=>?_;exact ⟨by rw [x,B],q.fr⟩
theorem VY (o p:View) (ke ks u:Nat) (v:Option Addr) (z:Nat) (l:List aX) (A:vc o u 0=some (.slice v l.length z)) (F:Sl (sv ke ks) 5 p v z l) (a:Option Addr) (c:Nat) (d0:List Nat) (G:(gB l).Nodup) (H:∀x ∈ d0,x<l.length) (J:d0.Nodup) (ah:d0.length<=4) (w:World) (r:Ws w (List.flatMap aW.ids [bS 3 1 bB a c d0]) [bS 3 1 bB a c d0] [o,p] w) :
   Calls prog 198 #[.slice a d0.length c,.int .i64 0,.int .i64 (d0.length:Int),.func (.func 107) #[] #[.pointer (some ⟨u,0,none⟩)]] w λe w'=>∃d:List Nat,e = .returned (.tuple #[])/\(d.Perm d0/\mJ (oJ l) d d.length)/\Ws w (List.flatMap aW.ids [bS 3 1 bB a c d0]) [bS 3 1 bB a c d] [o,p] w':=by
 refine enter func198 O 53 O O ?_;refine CE r (ag (ad O (I (lq (a:=0) (b:=1) O O O O ae) (ak O (aa (Cb ?_))))));refine dc (ι:=AG) (λg=>[(8,.int .i64 (g.i:Int))]) [(0,_),(1,_),(2,_),(3,_)] (λg=>Ws w (List.flatMap aW.ids [bS 3 1 bB a c d0]) [bS 3 1 bB a c g.d] [o,p]) (λg=>g.d.Perm d0/\mJ (oJ l) g.d g.i) (λg=>d0.length-g.i) ⟨1,d0⟩ ⟨List.Perm.refl _,VS⟩ an ?_;intro g ⟨t,E⟩;refine Cs (ag (ad O (ad O (I (ai O O) (aa ?_)))));refine Cc O (λB=>?_) (λB=>?_)
 ·have K:g.i<d0.length:=by simpa using B
  have L:=t.length_eq;refine bk (Cs (Cb (ag (ad O (ak O (aa (Cb ?_)))))));refine dc (ι:=AG) (λq=>[(9,.int .i64 (q.i:Int))]) [(0,_),(1,_),(2,_),(3,_),(8,_)] (λq=>Ws w (List.flatMap aW.ids [bS 3 1 bB a c d0]) [bS 3 1 bB a c q.d] [o,p]) (λq=>s8 (oJ l) d0 q.d g.i q.i) (λq=>q.i) ⟨g.i,g.d⟩ (OX t (by rw [L]; exact K) E) an ?_;intro q k;refine Cs (Cs ?_);have aj:q.d.length=d0.length:=k.perm.length_eq;have al:=k.ji;have C:∀x ∈ q.d,x<l.length:=λx M=>H x (k.perm.subset M);have N:q.d.Nodup:=k.perm.nodup_iff.2 J;have m:=LQ (d:=q.d) (j:=q.i) ae;have n:=LQ (d:=q.d) (j:=q.i-1) ae;refine WC.sM 0 O ae λam f ao ap=>?_;refine WC.k3 [(0,true),(1,true),(2,true),(3,true),(4,true),(5,true),(6,true),(7,true),(8,true),(9,true),(10,true),(11,true),(12,true),(13,true),(14,false),(15,true),(16,true)] mixed ab (λ_ _ _ d _ h=>by cases d<;>exact h) ?_;refine D0 O an (Ym O) (D0 O an (Ym O) (D0 O an (dO O O) (D0 O an (Ym O) ?_)));apply WD.and 12 (x:=decide (oK (gC l (bz q.d q.i)) (gC l (bz q.d (q.i-1)))<0)) O O O O O Y O an O O O O
  ·intro P
   have Q:0<q.i:=by simpa using P
   refine Dq O (.g O O O) O an (Ym O) (Dq O (.g O O O) O an (Ym O) (Dq O (.g O O O) O an (Ym O) (Dq O (.g O O O) O an (Yo iH O O f ae) (Dq O (.g O O O) O an (dz (y:=(bz q.d q.i)) 0 q.i 0 O O f O sw m O ab) (Dq O (.g O O O) O an (Ym O) (Dq O (.g O O O) O an (Ym O) (Dq O (.g O O O) O an (po ((q.i-1:Nat):Int) O O ae ae) ?_)))))));refine Dq O (.g O O O) O an (Yo iH O O f ae) (Dq O (.g O O O) O an (dz (y:=(bz q.d (q.i-1))) 0 (q.i-1) 0 O O f O sw n O ab) ?_);refine De O an ?_;refine WL.tZ (.g O O O) O aC O O (λw r=>VX o p ke ks u v z l A F (bz q.d q.i) (bz q.d (q.i-1)) w r.V r.V (C _ (ax m)) (C _ (ax n))) ?_;refine Ln (Ed (Dq O (.g O O O) O an (ai O O) ?_));exact Gi 12 an O O O
  refine WD.nil an ?_;refine Et ?_;refine Cc O (λD=>?_) (λD=>?_)
  ·obtain ⟨Q,S⟩:0<q.i/\oK (gC l (bz q.d q.i)) (gC l (bz q.d (q.i-1)))<0:=by simpa using D
   have T:(q.d.set q.i (bz q.d (q.i-1)))[q.i-1]? = some (bz q.d (q.i-1)):=by rw [Fq ae]; exact n
   have s:q.i-1+1=q.i:=ae
   have U:s8 (oJ l) d0 ((q.d.set q.i (bz q.d (q.i-1))).set (q.i-1) (bz q.d q.i)) g.i (q.i-1):=by
     have h:=OZ (j:=q.i-1) (a:=(bz q.d q.i)) (b:=(bz q.d (q.i-1))) (by rw [s]; exact k) (by rw [s]; exact m) n (He.1 S);rw [s] at h; exact h
   refine bk (Cs (Cb ?_));refine CU (λ_=>true) [] [15,16,17] (.q false 0 (.q false 1 (.q false 2 (.q false 3 (.q false 4 (.q false 5 (.q false 6 (.q false 7 (.q false 8 (.q true 9 (.q false 10 (.q false 11 (.q false 12 (.q true 13 (.q false 14 .nil))))))))))))))) mixed ab (λ_ _ _ d _ _ h=>by cases d<;>exact h) ?_;refine U0 O an (Ym O) (U0 O an (Ym O) (U0 O an (Ym O) (U0 O an (Ym O) (U0 O an (po ((q.i-1:Nat):Int) O O ae ae) (U0 O an (Ym O) (U0 O an (Ym O) (U0 O an (po ((q.i-1:Nat):Int) O O ae ae) ?_)))))));refine U0 O an (Yo iH O O f ae) (U0 O an (dz (y:=(bz q.d (q.i-1))) 0 (q.i-1) 0 O O f O sw n O ab) (U0 O an (Ym O) (U0 O an (Ym O) (U0 O an (Yo iH O O f ae) (U0 O an (dz (y:=(bz q.d q.i)) 0 q.i 0 O O f O sw m O ab) (U0 O an (Yo iH O O f ae) ?_))))));refine WU.nil an ?_;refine WS.e O ?_;refine WL.storeT (y:=(bz q.d q.i)) 0 q.i 0 (bz q.d (q.i-1)) Y O O O f O sw m dZ O O aF O ?_;refine Ln (Es ?_);refine WS.e O ?_;refine I (Yo iH O O f ae) (Ln (Es ?_));refine WS.e O ?_;refine WL.storeT (y:=(bz q.d (q.i-1))) 0 (q.i-1) 0 (bz q.d q.i) Y O O O f O sw T dZ O O aF O ?_;refine Ln (Es ?_);refine WS.nil ?_;refine Eb (Et (Cr (ad O (I (po ((q.i-1:Nat):Int) O O ae ae) (ak O (Ln ?_))))));exact b8 (⟨q.i-1,(q.d.set q.i (bz q.d (q.i-1))).set (q.i-1) (bz q.d q.i)⟩:AG) (by show q.i-1<q.i; omega) U an
  have W:mJ (oJ l) q.d (g.i+1):=by
    by_cases X:q.i=0
    · rw [X] at k; exact O0 k
    · have Z:¬oK (gC l (bz q.d q.i)) (gC l (bz q.d (q.i-1)))<0:=λh=>by simp [h] at D; omega
      have s:q.i-1+1=q.i:=ae
      exact O1 (R:=oJ l) (d0:=d0) (i:=g.i) (λa b c A ac=>Cn _ _ _ A ac) (j:=q.i-1) (a:=(bz q.d q.i)) (b:=(bz q.d (q.i-1))) (by rw [s]; exact k) (by rw [s]; exact m) n (VQ G C N m n ae Z)
  refine Ce (Ex (Ex (cB (Eb (Et (Cr (ad O (I (Yi O O O ae) (ak O (Ln ?_))))))))));exact b8 (⟨g.i+1,q.d⟩:AG) (by show _-(g.i+1)<_; omega) ⟨k.perm,W⟩ an
 have af:d0.length<=g.i:=by simp at B; omega
 refine Ce (Ex (Ex (cB ?_)));refine E0 O λw' r=>?_;exact ⟨g.d,O,⟨t,VR E (by rw [t.length_eq]; exact af)⟩,r⟩
theorem VZ {x:Nat} (h:x<=4):IntKind.u64.wrap (x:Int)=(x:Int):=by rcases (show x=0\/x=1\/x=2\/x=3\/x=4 by omega) with rfl | rfl | rfl | rfl | rfl<;>rfl
theorem V0 {l:List aX} {d:List Nat} {s:Tx} (h:(h9 l s).isSome=true):((if d.contains ((idxOf s (gB l) 0).getD 0)=true then (1:Int) else 0)==0) = !j5 l d s:=by
 obtain ⟨j,a⟩:=Option.isSome_iff_exists.1 h;have b:idxOf s (gB l) 0=some j:=a;rw [b];unfold j5;rw [a]
 show ((if d.contains j=true then (1:Int) else 0)==0) = !d.contains j
 cases d.contains j<;>rfl
theorem V1:prog.underlying 230=some (.int .u64):=ab
theorem AH:prog.underlying 195=some (.map 3 3):=ab
theorem V2 (b f:View) (ke ks i:Nat) (j:Option Addr) (k:Nat) (l:List aX) (n:vc b i 0=some (.slice j l.length k)) (o:Sl (sv ke ks) 5 f j k l) (a:Option Addr) (c:Nat) (d0:List Nat) (p:(gB l).Nodup) (q:∀x ∈ d0,x<l.length) (r:d0.Nodup) (s:d0.length<=4) (k_:Int) (w:World) (h:Ws w (List.flatMap aW.ids [bS 3 1 bB a c d0]) [bS 3 1 bB a c d0] [b,f] w) :
   Calls prog 158 #[.slice a d0.length c,.int .i64 0,.int .i64 (d0.length:Int),.int .i64 k_,.func (.func 107) #[] #[.pointer (some ⟨i,0,none⟩)]] w λe w'=>∃d:List Nat,e = .returned (.tuple #[])/\(d.Perm d0/\mJ (oJ l) d d.length)/\Ws w (List.flatMap aW.ids [bS 3 1 bB a c d0]) [bS 3 1 bB a c d] [b,f] w':=by
 refine enter func158 O 148 O O ?_;refine CE h (ag (ak O (aa (ag (ak O (aa (Cb ?_)))))));refine bV (ι:=Unit) (λg=>[]) [(0,_),(1,_),(2,_),(4,_)] (λg=>True) (λg=>0) () trivial ?_;intro g _;refine Cb (ag (ad O (ad O (I (po (d0.length:Int) O O ae ae) (ak O (aa (Cs (ag (ad O (I (ir O O) ?_))))))))));refine aa ?_;refine Cc O (λm=>?_) (λm=>?_)
 ·refine ag (ad O (ad O (ad O (ad O ?_))));refine Lw [_] _ Y O aC O O _ _ _ [b,f] aj (λw h=>VY b f ke ks i j k l n o a c d0 p q r s w h) ?_;intro d t;refine aa (a7 (Er (cG (Er (cG ?_)))));refine WE.yf O λw' h=>?_;exact ⟨d,O,t,h⟩
 exfalso
 simp at m;omega
theorem V3 (f g:View) (ke ks h:Nat) (i:Option Addr) (j:Nat) (l:List aX) (m:vc f h 0=some (.slice i l.length j)) (n:Sl (sv ke ks) 5 g i j l) (a:Option Addr) (c:Nat) (d0:List Nat) (o:(gB l).Nodup) (p:∀x ∈ d0,x<l.length) (q:d0.Nodup) (k:d0.length<=4) (w:World) (b:Ws w (List.flatMap aW.ids [bS 3 1 bB a c d0]) [bS 3 1 bB a c d0] [f,g] w) :
   Calls prog 106 #[.slice a d0.length c,.func (.func 107) #[] #[.pointer (some ⟨h,0,none⟩)]] w λe w'=>∃d:List Nat,e = .returned (.tuple #[])/\(d.Perm d0/\mJ (oJ l) d d.length)/\Ws w (List.flatMap aW.ids [bS 3 1 bB a c d0]) [bS 3 1 bB a c d] [f,g] w':=by
 refine enter func106 O 14 O O ?_;refine CE b (ag (ad O (I (Yn iH O) (ak O (aa (Cr (ad O (ad O ?_))))))));refine ad O (I (hF hW V1 O) ?_);rw [VZ k];refine Lp Y O aC O (λw b=>VW _ w k) (ad O ?_);refine Lw [_] _ Y O aC O O _ _ _ [f,g] aj (λw b=>V2 f g ke ks h i j l m n a c d0 o p q k _ w b) ?_;intro d r;refine Ln ?_;refine E0 O λw' b=>?_;exact ⟨d,O,r,b⟩
theorem V4 (b c f a:View) (g i j k m:Nat) (l:List aX) (d:List Nat) (o:vc b g 0=some (.map (some i))) (p:c i=some (ar (λn:Int=>Value.int .i64 n) (kJ d 0) d.length)) (q:vc f j 0=some (.pointer (some ⟨k,0,none⟩))) (r:vc a k 1=some (.map (some m))) (t:a m=some (ar st (gH (gB l) 0) l.length)) (s:Tx) (w:World) (u:Le b w) (v:Le c w) (x:Le f w) (y:Le a w) (z:(h9 l s).isSome=true) :
   Calls prog 110 #[st s,.pointer (some ⟨g,0,none⟩),.pointer (some ⟨j,0,none⟩)] w λe w'=>e = .returned (.bool (!j5 l d s))/\Ext w w':=by
 refine enter func110 O 14 O O ?_;refine CE (Vs:=[b,c,f,a]) (Ws.init (by simp [u,v,x,y])) (ag (ak O (aa (Cs ?_))));refine WC.k3 [(0,true),(1,true),(2,true),(3,true),(4,true),(5,true),(6,true),(7,true),(8,true),(9,true)] mixed ab (λ_ _ _ d _ h=>by cases d<;>exact h) ?_;refine D0 O an (cu 0 ab O O (o)) (D0 O an (cu 2 ab O O (q)) (D0 O an (cJ O) (D0 O an (Yf AF O) (D0 O an (cu 3 ab O O (r)) (D0 O an (Ym O) (D0 O an (yS 3 O h4 ih ab b0 O O (t)) ?_))))));rw [(wL _ _).1];refine D0 O an (yS 1 O jX AH hW b0 O O (p)) ?_;rw [CA];refine D0 O an (bY O O) (D0 O an (Ya O) ?_);refine WD.nil an ?_;refine Et (a7 ?_);refine R1 O O λw' A=>?_;exact ⟨by rw [<-V0 z],A.fr⟩
theorem V5 (f:View) (A:Option Addr) (cs:Nat) (a:List Tx) (o:Sl rdStr 1 f A cs a) (g h j c:View) (p q r t u:Nat) (l:List aX) (d:List Nat) (B:vc g p 0=some (.map (some q))) (C:h q=some (ar (λn:Int=>Value.int .i64 n) (kJ d 0) d.length)) (D:vc j r 0=some (.pointer (some ⟨t,0,none⟩))) (E:vc c t 1=some (.map (some u))) (F:c u=some (ar st (gH (gB l) 0) l.length)) (w:World) (G:Le f w) (H:Le g w) (J:Le h w) (K:Le j w) (L:Le c w) (M:∀s ∈ a,(h9 l s).isSome=true) :
   Calls prog 161 #[.slice A a.length cs,.func (.func 110) #[] #[.pointer (some ⟨p,0,none⟩),.pointer (some ⟨r,0,none⟩)]] w λe w'=>e = .returned (.int .i64 (gy l d a))/\Ext w w':=by
 have R:=o.cap;have S:=o.max;refine enter func161 O 19 O O ?_;refine CE (Vs:=[f,g,h,j,c]) (Ws.init (by simp [G,H,J,K,L])) (ag (ak O (aa (Cs (ag (ad O (I (Yn dy O) (ad O (aa (Cb ?_))))))))));refine bV (ι:=Nat) (λi=>[(8,.int .i64 (i:Int))]) [(0,_),(1,_),(7,_)] (λi=>i<=a.length/\∀s ∈ a.take i,j5 l d s=true) (λi=>a.length-i) 0 ⟨cq _,aj⟩ ?_;intro i ⟨hi,k⟩;refine ag (I (ai O O) (aa (Cs ?_)));refine Cc O (λv=>?_) (λv=>?_)
 ·have N:i<a.length:=by simpa using v
  obtain ⟨s,m⟩:=cg N;obtain ⟨P,pos,Q,x⟩:=o.bT i s m;have x:bR f P (pos+i*1) (c' s):=x;refine bk (Cs (Cb (ag (ad O (ak O (aa (ag (ad O (ad O (ad O (I (Yo dy O O Q ae) ?_)))))))))));refine I (cu 0 ab O O (x 0 _ O)) ?_;refine WL.tZ Y O aC O O (λw b=>V4 g h j c p q r t u l d B C D E F s w b.V b.V b.V b.V (M s (ax m))) ?_;refine aa ?_;refine Cc O (λy=>?_) (λy=>?_)
  ·have z:j5 l d s=false:=by simpa using y
   refine ag (ad O (ak O (aa (a7 (cG (Er (Er (cG (Er ?_)))))))));refine R1 O O λw' b=>?_;exact ⟨by rw [VO m k z],b.fr⟩
  have z:j5 l d s=true:=by simpa using y
  refine Ck (Eb (Et (Cr (I (Yi O O O ae) (ad O (Ln ?_))))));exact b8 (i+1) ae ⟨ae,AE m k z⟩ an
 have T:¬i<a.length:=by simpa using v
 rw [kF ae] at k;refine Ce (Ex (Ex (cB (Et (ag (ak O (aa (a7 ?_))))))));refine R1 O O λw' b=>?_;exact ⟨by rw [VN k],b.fr⟩
theorem V6 (f:View) (j:Option Addr) (cs:Nat) (b:List Tx) (r:Sl rdStr 1 f j cs b) (g h i c:View) (k m o p q:Nat) (l:List aX) (d:List Nat) (t:vc g k 0=some (.map (some m))) (u:h m=some (ar (λn:Int=>Value.int .i64 n) (kJ d 0) d.length)) (v:vc i o 0=some (.pointer (some ⟨p,0,none⟩))) (x:vc c p 1=some (.map (some q))) (y:c q=some (ar st (gH (gB l) 0) l.length)) (w:World) (z:Le f w) (A:Le g w) (B:Le h w) (C:Le i w) (D:Le c w) (E:∀s ∈ b,(h9 l s).isSome=true) :
   Calls prog 109 #[.slice j b.length cs,.func (.func 110) #[] #[.pointer (some ⟨k,0,none⟩),.pointer (some ⟨o,0,none⟩)]] w λe w'=>e = .returned (.bool (!b.all (j5 l d)))/\Ext w w':=by
 refine enter func109 O 9 O O ?_;refine CE (Vs:=[f,g,h,i,c]) (Ws.init (by simp [z,A,B,C,D])) (ag (ak O (aa (ag (ad O (ad O (Lp Y O aC O (λw a=>V5 f j cs b r g h i c k m o p q l d t u v x y w a.V a.V a.V a.V a.V E) (I (gw O O) ?_))))))));refine ak O (aa (a7 ?_));refine R1 O O λw' a=>?_;exact ⟨by rw [<-VP],a.fr⟩
def sx (l:List aX) (r:List Nat×Int):Prop:=(¬h' l=0/\r=([],h' l))\/(h' l=0/\∃d,o3 l d/\r=wK l d)
theorem LS {l:List aX} {r c:List Nat×Int} (h:sx l r) (e:sx l c):r=c:=by
 rcases h with ⟨a,rfl⟩ | ⟨a,d,f,rfl⟩
 · rcases e with ⟨_,rfl⟩ | ⟨b,_⟩
   · rfl
   · exact absurd b a
 · rcases e with ⟨b,_⟩ | ⟨_,i,g,rfl⟩
   · exact absurd a b
   · rw [OV f g]
structure LU where
 out:List Nat
 s:SP
theorem LV {l:List aX} {d:List Nat} {x:Nat} {u:List Tx} (h:oI l x=u):(decide ((if d.contains x=true then (1:Int) else 0) > 0)||!u.all (j5 l d)) = !lE l d x:=by
 unfold lE;rw [h]
 cases d.contains x<;>simp
theorem V7:zeroOf prog 190=some (.pointer none):=ab
theorem V8:dI prog 190=some 1:=ab
theorem V9:zeroOf prog 195=some (.map none):=ab
theorem V':dI prog 195=some 1:=ab
theorem V_ (i:View) (ke ks:Nat) (a:Option Addr) (c:Nat) (l:List aX) (w:World) (aw:Le i w) (u:Sl (sv ke ks) 5 i a c l) (ay:∀m ∈ l,wM m<=109951162777) :
   Calls prog 39 #[.slice a l.length c] w λe w'=>∃r:SP×List Nat×Int,e = .returned (.tuple #[.slice r.1.1 r.2.1.length r.1.2,.int .i64 r.2.2])/\Ext w w'/\Sl wU 1 (nv w w') r.1.1 r.1.2 r.2.1/\sx l r.2:=by
 have a6:=u.cap;have a8:=u.max;refine enter func39 O 68 O O ?_;refine CE (Vs:=[i]) (Ws.init (by simp [aw])) (ag ?_);refine WL.box Y O O λZ=>?_;refine ak O (ak O (aa ?_));refine WC.scope ?_;refine ag (I (Yd 0 O O O ab) ?_);refine Ld Y O aC O (λr:Nat×Nat=>.tuple #[.pointer (if h' l=0 then some ⟨r.1,0,none⟩ else none),.int .i64 (h' l)]) (λp r=>h' l=0->vc p r.1 1=some (.map (some r.2))/\p r.2=some (ar st (gH (gB l) 0) l.length)) (λw f=>VM i ke ks a c l w f.V u ay) ?_;intro p E a9 az;refine ad O (I (Yx O O) (I (Yx O O) ?_));refine Al Y O V7 λac=>?_;refine aQ 0 Y O O O V8 O O O (ak O (aa (Cs (ag (ad O (I (fz O O) (aa ?_)))))));refine Cc O (λM=>?_) (λM=>?_)
 ·have aA:¬h' l=0:=by simpa using M
  refine ag (ad O (ak O (ak O (aa (a7 (Er ?_))))));refine WE.DB ?_;refine WE.gZ O O O λw' f=>?_;exact ⟨((none,0),[],h' l),O,f.fr,Sl.nil,.inl ⟨aA,O⟩⟩
 have v:h' l=0:=by simpa using M
 have z:=Ha.1 v;obtain ⟨aB,aD⟩:=az v;refine bk (Cs (fm 0 (.cells #[.pointer (some ⟨E.1,0,none⟩)] 190 (0,0)) O (by rw [v]; rfl) ?_));refine WC.zH 0 O λF aE=>?_;have aG:vc F ac 0=some (.pointer (some ⟨E.1,0,none⟩)):=oD aE rfl;refine WC.zH 0 O λA aI=>?_;have G:vc A Z 0=some (.slice a l.length c):=oD aI rfl;refine Cr (ak O (LW (λ_ h=>h.eM 3 1) (aa (Cs (ag (I (cu 0 ab O O (G)) (I (Yn oi O) (ad O (aa (Cb ?_))))))))));refine dc (ι:=Nat×SP) (λg=>[(22,.int .i64 (g.1:Int)),(6,.slice g.2.1 (List.range g.1).length g.2.2)]) [(1,_),(2,_),(3,_),(4,_),(21,_)] (λg=>Ws w [] [bS 3 1 bB g.2.1 g.2.2 (List.range g.1)] [A,F,p,i]) (λg=>g.1<=l.length) (λg=>l.length-g.1) (0,(none,0)) (cq _) an ?_;intro g a';refine ag (I (ai O O) (aa (Cs ?_)));refine Cc O (λN=>?_) (λN=>?_)
 ·have a_:g.1<l.length:=by simpa using N
  have ba:=Fw (n:=g.1);have aJ:=z.aH;refine bk (Cs (Cb (ag (ad O (ak O (aa (Cr (ad O (ad O ?_)))))))));refine Lb Y O h2 O O O O λbb=>?_;refine cF 0 (.cells (bB g.1).toArray 3 (0,0)) O (O) ?_;refine LA (g.1) 1 0 Y O h2 O O O O O O ae ae λaK aL=>?_;refine ak O (Ln (Eb (Et (Cr (I (Yi O O O ae) (ad O (Ln ?_)))))));rw [<-vT];exact b8 ((g.1+1,(aK,aL)):Nat×SP) (by show _-(g.1+1)<_; omega) (by show g.1+1<=_; omega) (λ_ h=>Wd 1 h)
 have aM:g.1=l.length:=by simp at N; omega
 rw [aM];refine Ce (Ex (Ex (cB (Et (ag (ad O (I (pn O) ?_)))))));refine Lw (ι:=List Nat) [_] _ Y O aC O O (λ_=>.tuple #[]) (λd=>[bS 3 1 bB g.2.1 g.2.2 d]) (λd=>d.Perm (List.range l.length)/\mJ (oJ l) d d.length) [A,i] aj (λw f=>V3 A i ke ks Z a c l G u g.2.1 g.2.2 (List.range l.length) z.nd aj List.nodup_range (by simpa using z.aH) w f) ?_;intro d B;have af:(List.range l.length).length=d.length:=B.1.length_eq.symm
 have bc:d.length=l.length:=by rw [<-af,Fw]
 rw [af];refine WL.l9 (rd:=wU) 0 O sw cp λah aN=>?_;refine aa (ag ?_);refine WL.nc (λn:Int=>Value.int .i64 n) Y O λH=>?_;refine Al Y O V9 λal=>?_;refine aQ 0 Y O O O V' O O O (aa (Cs ?_));refine WC.zH 0 O λP aO=>?_;have Q:vc P al 0=some (.map (some H)):=oD aO rfl;refine Cr (ak O (LW (λ_ h=>h.eM 3 1) (aa (Cs ?_))));refine WC.label ?_;refine Et (Cs (Cb ?_));refine dc (ι:=LU) (λq=>[(9,.slice q.s.1 q.out.length q.s.2)]) [(1,_),(4,_),(6,_),(8,_)] (λq=>Ws w [] [bS 3 1 bB q.s.1 q.s.2 q.out,ao H (ar (λn:Int=>Value.int .i64 n) (kJ q.out 0) q.out.length)] [P,ah,A,F,p,i]) (λq=>km l q.out) (λq=>l.length-q.out.length) ⟨[],(none,0)⟩ km.nil an ?_;intro q C;refine Cs (ag (ad O (I (Yn iH O) (I (cu 2 ab O O (G)) (I (Yn oi O) (I (ai O O) (aa ?_)))))));refine Cc O (λR=>?_) (λR=>?_)
 ·have bd:q.out.length<l.length:=by simpa using R
  have aJ:=z.aH;refine bk (Cb (Cs (ag (ad O (I (Yn iH O) (ad O (aa (Cb ?_))))))));refine bV (ι:=Nat) (λk=>[(41,.int .i64 (k:Int))]) [(1,_),(4,_),(6,_),(8,_),(9,_),(39,_),(40,_)] (λk=>k<=d.length/\∀y e,y<k->d[y]? = some e->lE l q.out e=false) (λk=>d.length-k) 0 ⟨cq _,λy e h=>by omega⟩ ?_;intro k ⟨be,S⟩;refine ag (I (ai O O) (aa (Cs ?_)));refine Cc O (λT=>?_) (λT=>?_)
  ·have aP:k<d.length:=by simpa using T
   obtain ⟨x,J⟩:=cg aP;obtain ⟨aR,aS,aT,U⟩:=aN.bT k x J;have U:bR ah aR (aS+k*1) (bB x):=U
   have am:x<l.length:=by simpa using B.1.subset (ax J)
   obtain ⟨K,L⟩:=cg am;obtain ⟨bf,bg,aU,ap,aV,aW⟩:=u.bT x K L;have bh:=nZ L;have au:=Hc L;refine bk (Cs (Cb (ag (I (Yo iH O O aT ae) (I (cu 1 ab O O (U 0 _ O)) (ak O (aa (Cs (ag (I (cu 0 ab O O (Q)) (ad O (I (qx 1 jX AH hW b0 O O O) ?_))))))))))));rw [CA];refine I (dO O O) (ad O ?_);apply Lo 7 (x:=!K.aq.all (j5 l q.out)) O O O O Y O O O O O
   ·intro bi;refine Vg (cu 2 ab O O (G)) (Vg (Ym O) (Vg (Yo oi O O aU am) (Vg (Yf nz O) (Vg (cu 5 ab O O (aV 1 _ O)) (Vg (pn O) ?_)))));refine Lp (.g rfl rfl rfl) rfl aC rfl (λw f=>V6 i ap.a1 ap.c1 K.aq aW.aq P (bv H (ar (λn:Int=>Value.int .i64 n) (kJ q.out 0) q.out.length)) F p al H ac E.1 E.2 l q.out Q (by simp [bv]) aG aB aD w f.V f.V ((f.lv 1 rfl).vs _ aj) f.V f.V (λs aY=>by obtain ⟨j,aZ⟩:=z.aq K (ax L) s aY; rw [aZ]; rfl)) ?_;exact Gt 7 O O O
   refine aa ?_;refine Cc O (λD=>?_) (λD=>?_)
   ·have a0:lE l q.out x=false:=by rw [LV au] at D; simpa using D
    refine Ce (Ex (cB (Et (Cr (I (Yi O O O ae) (ad O (Ln ?_)))))))
    exact b8 (k+1) ae ⟨ae,λy e t o=>by
        rcases mZ.1 t with h | h
        · exact S y e h o
        · subst h; rw [J] at o; injection o with o; subst o; exact a0⟩ an
   have W:lE l q.out x=true:=by rw [LV au] at D; simpa using D
   have X:q.out.contains x=false:=by unfold lE at W; revert W; cases q.out.contains x<;>simp
   have a2:uG l q.out x:=O2 B.1 B.2 J W (λy e t o=>S y e t o);refine bk (ag (I (cu 0 ab O O (Q)) (ad O (I (qx 1 jX AH hW b0 O O O) ?_))));rw [CA,X,if_neg aF];refine I ((show Yl _ _ _ _ (.int .i64 1) from lq (a:=0) (b:=1) O O O O ae)) ?_;refine WL.oz 1 jX Y AH hW O O O O ?_;rw [(Hg X).1,(Hg X).2];refine aa (ag (ad O (ad O ?_)));refine Lb Y O h2 O O O O λbj=>?_;refine cF 0 (.cells (bB x).toArray 3 (0,0)) O (O) ?_;refine LA (x) 1 0 Y O h2 O O O O O O ae ae λa3 a4=>?_;refine ak O (aa (Ce (vY O (Ex (Ex (vY O (Ex (cB ?_))))))));exact b8 (⟨q.out++[x],(a3,a4)⟩:LU) (by show _-(q.out++[x]).length<_; simp; omega) (.snoc C a2) (λ_ h=>Wd 1 h)
  have bl:k=d.length:=by simp at T; omega
  have a5:=O3 B.1 (λy e t=>S y e (by have:=(cf.1 t).1; omega) t);refine Ce (Ex (Ex (cB (Et (ag (ak O (ak O (aa (a7 (cG (Er (cG (Er ?_)))))))))))));refine WE.DB ?_;refine WE.gZ O O O λw' f=>?_;exact ⟨((none,0),[],9),O,f.fr,Sl.nil,.inr ⟨v,q.out,⟨C,.inr a5⟩,by rw [wK,if_neg ae]⟩⟩
 have av:q.out.length=l.length:=by
   have bm:=wJ (pB C).2 (pB C).1;simp at R;omega
 refine Ce (Ex (Ex (cB (Et (ag (ad O (ak O (ak O (aa (a7 ?_))))))))));refine WE.DB ?_;refine WE.gZ O O O λw' f=>?_;exact ⟨(q.s,q.out,0),O,f.fr,f.iP 0 O sw cp,.inr ⟨v,q.out,⟨C,.inl av⟩,by rw [wK,if_pos av]⟩⟩
theorem KK {l:List aX} {d:List Nat} {e:Int} (h:sx l (d,e)) (c:e=0) (i:0<l.length):h_ l/\km l d/\d.length=l.length:=by
 rcases h with ⟨b,a⟩ | ⟨b,j,f,a⟩
 · injection a with _ a
   exact absurd (a.symm.trans c) b
 · unfold wK at a
   split at a
   · rename_i g
     injection a with a _
     subst a;exact ⟨Ha.1 b,f.1,g⟩
   · injection a with _ a
     rw [c] at a;cases a
def mq (l:List Tx) (r:List cb×Int):Prop:=(¬mP l=0/\r=([],mP l))\/(mP l=0/\∃q,sx (aJ l) q/\r=n_ l q)
theorem Wa {l:List Tx} {r c:List cb×Int} (h:mq l r) (d:mq l c):r=c:=by
 rcases h with ⟨a,rfl⟩ | ⟨a,q,e,rfl⟩
 · rcases d with ⟨_,rfl⟩ | ⟨b,_⟩
   · rfl
   · exact absurd b a
 · rcases d with ⟨b,_⟩ | ⟨_,g,f,rfl⟩
   · exact absurd a b
   · rw [LS e f]
theorem Wb {l:List Tx} {r:List cb×Int} (h:mq l r) (f:r.2=0):mP l=0/\∃d,sx (aJ l) (d,0)/\h_ (aJ l)/\km (aJ l) d/\d.length=(aJ l).length/\r=gK (ho (aJ l) d) []:=by
 rcases h with ⟨g,rfl⟩ | ⟨g,⟨d,e⟩,i,rfl⟩
 · exact absurd f g
 · have j:e=0:=by
     unfold n_ at f
     by_cases k:e=0
     · exact k
     · rw [if_pos k] at f; exact absurd f k
   subst j
   have m:0<(aJ l).length:=by
     have:=(Dz g).1.1;simp [aJ]; omega
   obtain ⟨a,b,c⟩:=KK i rfl m;exact ⟨g,d,i,a,b,c,by rw [n_,if_neg aj]⟩
abbrev MP:=aX×iQ
def AI (x:MP):List Value:=a6 x.1 x.2
theorem Wc (x:MP):(AI x).length=5:=rfl
def LX (a:View) (b o:Nat) (x:MP):Prop:=bR a b o (AI x)
theorem XQ {ke ks:Nat} {e d:View} {a:Option Addr} {c:Nat} {ys:List MP} (h:Sl LX 5 e a c ys) (hv:bF e d) (j:∀y ∈ ys,jk ke ks d y.2 y.1):Sl (sv ke ks) 5 d a c (ys.map (·.1)):=by
 refine ⟨by rw [eo]; exact h.cap,h.max,h.spot,λi x f=>?_⟩;rw [eZ] at f;obtain ⟨y,g,rfl⟩:=dr.1 f;obtain ⟨b,o,k,l⟩:=h.bT i y g;exact ⟨b,o,k,y.2,bR.mono hv l,j y (ax g)⟩
theorem EM {d e:View} (a:bF d e) {ke ks:Nat} {r:iQ} {m:aX} (h:jk ke ks d r m):jk ke ks e r m:=
 ⟨h.aq.imp λ_ _ _ h=>bR.mono a h,h.decls.imp λ_ _ _ h=>bR.mono a h,h.procs.imp λb o x c=>zh a (dp _) (dp _) b o x c,h.main.imp λb o x c=>sY a (dp _) (dp _) b o x c⟩
abbrev FP:=fQ×SP
def vF (x:FP):List Value:=p_ x.1 x.2
theorem LY (x:FP):(vF x).length=2:=rfl
def EN (a:View) (b o:Nat) (x:FP):Prop:=bR a b o (vF x)
theorem LZ {e d:View} {a:Option Addr} {c:Nat} {ys:List FP} (h:Sl EN 2 e a c ys) (hv:bF e d) (j:∀y ∈ ys,Sl hQ 4 d y.2.1 y.2.2 y.1.2):Sl re 2 d a c (ys.map (·.1)):=by
 refine ⟨by rw [eo]; exact h.cap,h.max,h.spot,λi x f=>?_⟩;rw [eZ] at f;obtain ⟨y,g,rfl⟩:=dr.1 f;obtain ⟨b,o,k,l⟩:=h.bT i y g;exact ⟨b,o,k,y.2,bR.mono hv l,j y (ax g)⟩
def qi (J:View) (M:List (dP Tx)) (fl:List (Tx×fQ)):Prop:=∀s,∃r:SP,aI s M (.agg #[st [],.slice none 0 0]) = .agg #[st (fK fl s).1,.slice r.1 (fK fl s).2.length r.2]/\Sl hQ 4 J r.1 r.2 (fK fl s).2
theorem qi.nil {J:View}:qi J [] []:=λ_=>⟨(none,0),rfl,Sl.nil⟩
theorem qi.mv {J a:View} {M:List (dP Tx)} {fl:List (Tx×fQ)} (h:qi J M fl) (hv:bF J a):qi a M fl:=λs=>by
 obtain ⟨r,b,c⟩:=h s;exact ⟨r,b,qa hv c⟩
theorem qi.put {J:View} {M:List (dP Tx)} {fl:List (Tx×fQ)} (h:qi J M fl) {k:Tx} {f:fQ} {a:Option Addr} {n:Nat} (c:Nat) (d:Sl hQ 4 J a n f.2):qi J (eJ k (.agg #[st f.1,.slice a f.2.length n]) M c) ((k,f)::fl):=λs=>by
 by_cases e:s=k
 · subst e
   refine ⟨(a,n),by rw [s9,fK,if_pos rfl],?_⟩;rw [fK,if_pos rfl]; exact d
 · obtain ⟨r,g,i⟩:=h s
   have b:¬k=s:=λq=>e q.symm;refine ⟨r,by rw [j7 _ M c _ e,g,fK,if_neg b],?_⟩;rw [fK,if_neg b]; exact i
structure DF where
 i:Nat
 es:List MP
 m:SP
 J:View
structure L0 where
 i:Nat
 us:List XU
 o:SP
 fl:List (Tx×fQ)
 M:List (dP Tx)
 c:Nat
 J:View
structure L1 where
 k:Nat
 es:List FP
 r:SP
theorem We {l:List Tx} {i:Nat} {x:Tx} (a:¬(l.length<1\/4<l.length)) (b:∀s ∈ l.take i,(bN s).2=0) (c:l[i]? = some x) (h:¬(bN x).2=0):mP l=(bN x).2:=by
 rw [mP,if_neg a];exact zG b c h
theorem Wf {l:List Tx} {i:Nat} {x:Tx} (b:∀s ∈ l.take i,(bN s).2=0) (c:l[i]? = some x) (h:(bN x).2=0):∀s ∈ l.take (i+1),(bN s).2=0:=λs a=>by
 rw [hg c] at a
 rcases dA.1 a with k | k
 · exact b s k
 · rw [az] at k; subst k; exact h
theorem Wg {l:List Tx} {i:Nat} {x:Tx} {es:List MP} {r:iQ} (a:es.map (·.1)=aJ (l.take i)) (b:l[i]? = some x):(es++[((bN x).1,r)]).map (·.1)=aJ (l.take (i+1)):=by
 rw [nI,a,hg b]; simp [aJ]
theorem Wh {l:List aX} {d:List Nat} {k:Nat} (h:¬k<d.length):ho l (d.drop k)=[]:=by
 rw [yc ae]; rfl
theorem K3:gg prog 80 50 (.agg #[st [],.slice none 0 0,.slice none 0 0,.slice none 0 0,.slice none 0 0]) 5 112:=iN ab
theorem L3:prog.underlying 83=some (.map 9 65):=ab
theorem AJ (n q:View) (a:Option Addr) (c:Nat) (l:List Tx) (w:World) (a3:Le n w) (A:Le q w) (a4:Laid q) (U:Sl rdStr 1 n a c l) :
   Calls prog 11 #[.slice a l.length c] w λe w'=>∃r:SP×List cb×Int,e = .returned (.tuple #[.slice r.1.1 r.2.1.length r.1.2,.int .i64 r.2.2])/\Ext w w'/\Sl (eK 8 7) 5 (nv w w') r.1.1 r.1.2 r.2.1/\mq l r.2:=by
 have b':=U.cap;have b_:=U.max;refine enter func11 O 109 O O ?_;refine CE (Vs:=[n,q]) (Ws.init (by simp [a3,A])) (ag (ak O (ak O (aa (Cs (ag (ad O (I (Yn dy O) (I (ai O O) ?_)))))))));refine ad O ?_;apply Lo 3 O O O O Y O O O O O
 ·intro ca;refine Vg (Ym O) (Vg (Yn dy O) (Vg (dO O O) ?_));exact Gt 3 O O O
 refine aa ?_;refine Cc O (λW=>?_) (λW=>?_)
 ·have j:l.length<1\/4<l.length:=by simp at W; omega
  refine ag (ak O (ak O (aa (a7 (Er ?_)))));refine WE.gZ O O O λw' f=>?_
  have E:mP l=2:=by rw [mP,if_pos j]
  exact ⟨((none,0),[],2),O,f.fr,Sl.nil,.inl ⟨by rw [E]; decide,by rw [E]⟩⟩
 have a5:¬(l.length<1\/4<l.length):=by simp at W; omega
 refine bk (ag (ak O (LW (λ_ h=>h.eM 50 5) ?_)));refine WL.v0 ?_;refine aa (Cs (ag (ad O (I (Yn dy O) (ad O (aa (Cb ?_)))))));refine dc (ι:=DF) (λg=>[(32,.int .i64 (g.i:Int)),(4,.slice g.m.1 g.es.length g.m.2)]) [(30,_),(31,_)] (λg=>Ws w [] [bS 50 5 AI g.m.1 g.m.2 g.es] [g.J,n,q]) (λg=>g.i<=l.length/\g.es.map (·.1)=aJ (l.take g.i)/\(∀s ∈ l.take g.i,(bN s).2=0)/\fj w g.J/\(∀e ∈ g.es,jk 7 6 g.J e.2 e.1)/\g.es.length=g.i) (λg=>l.length-g.i) ⟨0,[],(none,0),v0⟩ ⟨cq _,O,aj,nh w,aj,O⟩ (λ_ h=>by have h:=Ws.av h (b3:=[v0,n,q]) aj; exact h) ?_;intro g ⟨hi,G,H,a8,aO,a9⟩;refine ag (I (ai O O) (aa (Cs ?_)));refine Cc O (λX=>?_) (λX=>?_)
 ·have Z:g.i<l.length:=by simpa using X
  obtain ⟨x,u⟩:=cg Z;obtain ⟨ac,af,ah,B⟩:=U.bT g.i x u;have B:bR n ac (af+g.i*1) (c' x):=B;refine bk (Cs (Cb (ag (I (Yo dy O O ah ae) (I (cu 1 ab O O (B 0 _ O)) (ak O (aa (ag (ad O ?_)))))))))
  refine Ld Y O aC O (λr:iQ=>.tuple #[.agg (a6 ((bN x).1) r).toArray,.int .i64 ((bN x).2)]) (λal r=>jk 7 6 al r ((bN x).1)) (λw f=>by
      have:=zV q (x) w f.V a4
      exact this) ?_
  intro cd am a' a_;refine ad O (I (Yx O O) (I (Yx O O) ?_));refine Al Y O ch λce=>?_;refine aQ 0 Y O O O mU O O O (ak O (aa (Cs (ag (ad O (I (fz O O) (aa ?_)))))));refine Cc O (λap=>?_) (λap=>?_)
  ·have j:¬(bN x).2=0:=by simpa using ap
   refine ag (ad O (ak O (ak O (aa (a7 (Er (cG (Er (Er (cG (Er ?_)))))))))));refine WE.gZ O O O λw' f=>?_;have E:=We a5 H u j;exact ⟨((none,0),[],(bN x).2),O,f.fr,Sl.nil,.inl ⟨by rw [E]; exact j,by rw [E]⟩⟩
  have ba:(bN x).2=0:=by simpa using ap
  refine bk (Cr (ad O (I (cc 0 O O iG O) ?_)));refine Lb Y O K3 O O O O λcf=>?_;refine cF 0 (.cells (AI ((bN x).1,am)).toArray 50 (0,0)) O (O) ?_;refine LA (((bN x).1,am)) 2 0 Y O K3 O O O O O O ae ae λbb bc=>?_;refine WL.h6 λbd be bf bg=>?_;refine ak O (Ln (Eb (Et (Cr (I (Yi O O O ae) (ad O (Ln ?_)))))))
  exact b8 (⟨g.i+1,g.es++[((bN x).1,am)],(bb,bc),bd⟩:DF) (by show _-(g.i+1)<_; omega) ⟨by show g.i+1<=_; omega,Wg G u,Wf H u ba,bg w a' a8,λy t=>by
    rcases dA.1 t with k | k
    · exact EM bf (aO y k)
    · rw [az] at k; subst k; exact EM be a_,by simp [a9]⟩ (λ_ h=>Wd 2 h)
 have bh:g.i=l.length:=by simp at X; omega
 rw [bh,ew] at G H;have K:mP l=0:=DA ae H
 have bi:g.es.length=(aJ l).length:=by rw [<-G,eo]
 rw [bi]
 have aP:∀m ∈ aJ l,wM m<=109951162777:=λm bj=>by
   obtain ⟨s,_,rfl⟩:=k0.1 bj;have:=sg s;omega
 refine Ce (Ex (Ex (cB (Et (Cs ?_)))));refine WC.l9 (rd:=LX) 0 O Wc cp λci bl=>?_;refine WC.h6 λv bm bn cj=>?_
 have L:Sl (sv 7 6) 5 v g.m.1 g.m.2 (aJ l):=by
   have C:=XQ (ke:=7) (ks:=6) bl bm λy t=>EM bn (aO y t);rw [G] at C;exact C
 have cl:=L.cap;have cm:=L.max;refine Cr (ad O ?_);refine Ld Y O aC O (λr:SP×List Nat×Int=>.tuple #[.slice r.1.1 r.2.1.length r.1.2,.int .i64 r.2.2]) (λau r=>Sl wU 1 au r.1.1 r.1.2 r.2.1/\sx (aJ l) r.2) (λw f=>V_ v 7 6 g.m.1 g.m.2 (aJ l) w f.V L aP) ?_;intro N bo co bp;obtain ⟨cr,d,z⟩:=bo;obtain ⟨P,D⟩:=bp;dsimp only at P D;have cs:=P.cap;have ct:=P.max;refine ad O (I (Yx O O) (I (Yx O O) (ak O (ak O (aa (Cs (ag (ad O (I (fz O O) ?_)))))))));refine aa ?_;refine Cc O (λaw=>?_) (λaw=>?_)
 ·have j:¬z=0:=by simpa using aw
  refine ag (ad O (ak O (ak O (aa (a7 (Er ?_))))));refine WE.gZ O O O λw' f=>?_;exact ⟨((none,0),[],z),O,f.fr,Sl.nil,.inr ⟨K,(d,z),D,by rw [n_,if_pos j]⟩⟩
 have Q:z=0:=by simpa using aw
 have bq:0<(aJ l).length:=by simp [aJ]; omega
 obtain ⟨aR,br,cv⟩:=KK D Q bq;have cw:=aR.aH;refine bk (ag ?_);refine WL.nc st Y O λaS=>?_;refine cF 0 (ar st ([]:List (dP Tx)) 0) O O (ak O (aa (ag (ak O (LW (λ_ h=>h.eM 40 5) ?_)))));refine WL.v0 ?_;refine aa (Cs (ag (ad O (I (Yn iH O) (ad O (aa (Cb ?_)))))));refine dc (ι:=L0) (λp=>[(60,.int .i64 (p.i:Int)),(12,.slice p.o.1 p.us.length p.o.2)]) [(4,_),(11,_),(58,_),(59,_)] (λp=>Ws w [] [bS 40 5 XU.cells p.o.1 p.o.2 p.us,ao aS (ar st p.M p.c)] [p.J,N,v,n,q]) (λp=>p.i<=d.length/\gK (ho (aJ l) d) []=qW (p.us.map (·.1)) (gK (ho (aJ l) (d.drop p.i)) p.fl)/\fj w p.J/\(∀e ∈ p.us,iV 8 7 p.J e.2 e.1)/\qi p.J p.M p.fl/\p.us.length=p.i) (λp=>d.length-p.i) ⟨0,[],(none,0),[],[],0,v0⟩ ⟨cq _,Jm _ _,nh w,aj,qi.nil,O⟩ (λ_ h=>by have h:=Ws.av h (b3:=[v0,N,v,n,q]) aj; exact h) ?_;intro p ⟨cx,A,aT,aV,aW,bs⟩;refine ag (I (ai O O) (aa (Cs ?_)));refine Cc O (λay=>?_) (λay=>?_)
 ·have bt:p.i<d.length:=by simpa using ay
  obtain ⟨x,u⟩:=cg bt;obtain ⟨ac,af,ah,B⟩:=P.bT p.i x u;have B:bR N ac (af+p.i*1) (bB x):=B;have bu:x<(aJ l).length:=(pB br).1 x (ax u);obtain ⟨m,R⟩:=cg bu;obtain ⟨cy,cz,bv,aA,bw,F⟩:=L.bT x m R;have aX:=aP m (ax R);have aB:=Rj u R;have cA:=(so (aR.qE m (ax R))).aH;have cC:=F.aq.cap;have cD:=F.aq.max;refine bk (Cs (Cb (ag (I (Yo iH O O ah ae) (I (cu 1 ab O O (B 0 _ O)) (ak O (aa (ag (ad O (ad O (I (Yo oi O O bv ae) ?_)))))))))));refine I (dV 2 iG O O O (bw)) ?_;refine Al Y O ch λbx=>?_;refine aQ 0 Y O O O mU O O O (aa (ag (ak O (LW (λ_ h=>h.eM 65 2) (aa (Cs (ag (I (Yf nz O) (I (Yd 1 O O O ab) (I (Yn dy O) ?_))))))))));refine ad O (aa (Cb ?_));refine dc (ι:=L1) (λb=>[(71,.int .i64 (b.k:Int)),(16,.slice b.r.1 b.es.length b.r.2)]) [(4,_),(11,_),(12,_),(15,_),(58,_),(59,_),(60,_),(69,_),(70,_)] (λb=>Ws w [] [bS 65 2 vF b.r.1 b.r.2 b.es,ao bx (.cells (a6 m aA).toArray 50 (0,0)),bS 40 5 XU.cells p.o.1 p.o.2 p.us,ao aS (ar st p.M p.c)] [p.J,N,v,n,q]) (λb=>b.k<=m.aq.length/\b.es.map (·.1)=(m.aq.take b.k).map (fK p.fl)/\(∀e ∈ b.es,Sl hQ 4 p.J e.2.1 e.2.2 e.1.2)/\b.es.length=b.k) (λb=>m.aq.length-b.k) ⟨0,[],(none,0)⟩ ⟨cq _,O,aj,O⟩ an ?_;intro b ⟨cE,S,aY,bz⟩;refine ag (I (ai O O) (aa (Cs ?_)));refine Cc O (λaD=>?_) (λaD=>?_)
  ·have Z:b.k<m.aq.length:=by simpa using aD
   obtain ⟨s,aZ⟩:=cg Z;obtain ⟨bA,pos,bC,aE⟩:=F.aq.bT b.k s aZ;have aE:bR v bA (pos+b.k*1) (c' s):=aE;obtain ⟨aF,aG,bD⟩:=aW s;refine bk (Cs (Cb (ag (I (Yo dy O O bC ae) (I (cu 2 ab O O (aE 0 _ O)) (ak O (aa (Cr (ad O (ad O (ad O ?_)))))))))));refine I (qx 3 h4 L3 ab jR O O O) ?_;rw [aG];refine Lb Y O gj O O O O λcH=>?_;refine cF 0 (.cells (vF (fK p.fl s,aF)).toArray 65 (0,0)) O (O) ?_;refine LA ((fK p.fl s,aF)) 1 0 Y O gj O O O O O O ae ae λbE bF=>?_;refine ak O (Ln (Eb (Et (Cr (I (Yi O O O ae) (ad O (Ln ?_)))))))
   exact b8 (⟨b.k+1,b.es++[(fK p.fl s,aF)],(bE,bF)⟩:L1) (by show _-(b.k+1)<_; omega) ⟨by show b.k+1<=_; omega,by rw [nI,S,hg aZ]; simp,λy t=>by
     rcases dA.1 t with k | k
     · exact aY y k
     · rw [az] at k; subst k; exact bD,by simp [bz]⟩ (λ_ h=>Wd 1 h)
  have aG:b.k=m.aq.length:=by simp at aD; omega
  rw [aG,ew] at S
  have bG:b.es.length=(m.aq.map (fK p.fl)).length:=by rw [<-S,eo]
  rw [bG];refine Ce (Ex (Ex (cB (Et (ag (I (cc 1 O O iG O) ?_))))));refine Ld Y O aC O (λr:SP=>.tuple #[.agg #[st (cn m).1.1,.slice r.1 (cn m).1.2.length r.2],.int .i64 (cn m).2]) (λal r=>Sl hQ 4 al r.1 r.2 (cn m).1.2) (λw f=>Ec v 7 6 aA m w f.V F aX) ?_;intro cI a0 bH bI;refine ad O (I (Yx O O) (I (Yx O O) ?_));refine Al Y O jR λcJ=>?_;refine aQ 0 Y O O O kV O O O (ak O (aa (Cs (ag (ad O (I (fz O O) (aa ?_)))))));refine Cc O (λaI=>?_) (λaI=>?_)
  ·have j:¬(cn m).2=0:=by simpa using aI
   refine ag (ad O (ak O (ak O (aa (a7 (Er (cG (Er (Er (cG (Er ?_)))))))))));refine WE.gZ O O O λw' f=>?_;exact ⟨((none,0),[],(cn m).2),O,f.fr,Sl.nil,.inr ⟨K,(d,z),D,by rw [n_,if_neg (by simpa using Q),A,aB,Jn (by rw [Dy j]; exact j),Dy j]⟩⟩
  have bJ:(cn m).2=0:=by simpa using aI
  have T:=zF (M:=p.fl) bJ;refine bk (Cs ?_);refine WC.nj (rd:=EN) 1 O aj LY cp λcK bK bL=>?_;refine WC.h6 λcM bM bO bP=>?_;refine WC.h6 λa1 a2 aK bQ=>?_
  have bU:Sl re 2 a1 b.r.1 b.r.2 (m.aq.map (fK p.fl)):=by
    have C:=LZ bL (λ_ _ h=>a2 _ _ (bM _ _ h)) λy t=>qa (λ_ _ h=>aK _ _ h) (aY y t);rw [S] at C;exact C
  refine Cr (I (cc 1 O O iG O) (ad O ?_))
  refine Ld Y O aC O (λr:jG=>.tuple #[.agg (fH (cL m (m.aq.map (fK p.fl))).1 r).toArray,.int .i64 (cL m (m.aq.map (fK p.fl))).2]) (λau r=>iV (7+1) (6+1) au r (cL m (m.aq.map (fK p.fl))).1) (λw f=>by
      skip
      exact tC v a1 7 6 aA m b.r.1 b.r.2 (m.aq.map (fK p.fl)) w f.V f.V F bU aX) ?_
  intro cN aL bV bW;refine ad O (I (Yx O O) (I (Yx O O) ?_));refine Al Y O nD λcO=>?_;refine aQ 0 Y O O O nE O O O (ak O (aa (Cs (ag (ad O (I (fz O O) (aa ?_)))))));refine Cc O (λaM=>?_) (λaM=>?_)
  ·have j:¬(cL m (m.aq.map (fK p.fl))).2=0:=by simpa using aM
   refine ag (ad O (ak O (ak O (aa (a7 (Er (cG (Er (Er (cG (Er ?_)))))))))));refine WE.gZ O O O λw' f=>?_;exact ⟨((none,0),[],(cL m (m.aq.map (fK p.fl))).2),O,f.fr,Sl.nil,.inr ⟨K,(d,z),D,by rw [n_,if_neg (by simpa using Q),A,aB,Jn (by rw [T]; exact j),T]⟩⟩
  have bX:(cL m (m.aq.map (fK p.fl))).2=0:=by simpa using aM
  refine bk (ag (ad O (I (Yf qZ O) (I (Yd 2 O O O ab) (I (cc 1 O O jS O) ?_)))));refine WL.oz 4 h4 Y L3 ab O O O O ?_;refine aa (Cr (ad O (I (cc 0 O O ik O) ?_)));refine Lb Y O vu O O O O λcP=>?_;refine cF 0 (.cells (XU.cells ((cL m (m.aq.map (fK p.fl))).1,aL)).toArray 40 (0,0)) O (O) ?_;refine LA (((cL m (m.aq.map (fK p.fl))).1,aL)) 4 0 Y O vu O O O O O O ae ae λbY bZ=>?_;refine WL.h6 λb0 b1 aN b2=>?_;refine ak O (Ln (Eb (Et (Cr (I (Yi O O O ae) (ad O (Ln ?_)))))))
  exact b8 (⟨p.i+1,p.us++[((cL m (m.aq.map (fK p.fl))).1,aL)],(bY,bZ),(m.nm,(cn m).1)::p.fl,eJ m.nm (.agg #[st (cn m).1.1,.slice a0.1 (cn m).1.2.length a0.2]) p.M p.c,hz m.nm p.M p.c,b0⟩:L0) (by show _-(p.i+1)<_; omega) ⟨by show p.i+1<=_; omega,by
      have C:=Dx (us:=p.us.map (·.1)) (r:=ho (aJ l) (d.drop (p.i+1))) (show (aU p.fl m).2=0 by rw [T]; exact bX);rw [A,aB,C,T]
      simp,b2 w bV (bQ w (bP w (by exact bK) bH) aT),λy t=>by
    rcases dA.1 t with k | k
    · exact (aV y k).mv (λ_ _ h=>aN _ _ (aK _ _ h))
    · rw [az] at k; subst k; exact bW.mv b1,(aW.mv (λ_ _ h=>aN _ _ (aK _ _ h))).put _ (qa (λ_ _ h=>aN _ _ (a2 _ _ (bO _ _ h))) bI),by simp [bs]⟩ (λ_ h=>Wd 4 h)
 have b4:¬p.i<d.length:=by simpa using ay
 refine Ce (Ex (Ex (cB (Et (ag (ad O (ak O (ak O (aa (a7 ?_))))))))));refine WE.gZ O O O λw' f=>?_;have b5:=Wh (l:=aJ l) b4;rw [b5] at A
 have b6:(p.us.map (·.1),(0:Int))=n_ l (d,z):=by rw [n_,if_neg (by simpa using Q),A]; simp [qW,gK]
 refine ⟨(p.o,p.us.map (·.1),0),by rw [eo],f.fr,?_,.inr ⟨K,(d,z),D,b6⟩⟩;have b7:=f.iP (rd:=vt) 0 rfl XU.ck cp;exact xI b7 gO λe b9=>(aV e b9).mv (cU f aj aT)
theorem Wi {l:List Tx} {r:List cb×Int} (h:mq l r):∀u ∈ r.1,qG u<=1048576:=by
 rcases h with ⟨_,rfl⟩ | ⟨_,q,_,rfl⟩
 · intro u a; simp at a
 · intro u a
   unfold n_ at a
   split at a
   · simp at a
   · refine kZ (Jl (b:=73728) _ _ (λm c=>?_) u a) aF
     unfold ho at c;obtain ⟨i,_,hi⟩:=Fx.1 c;obtain ⟨s,_,rfl⟩:=k0.1 (ax hi);exact sg s
theorem L4 {l:List Tx} {r:List cb×Int} (h:mq l r):r.1.length<=4:=by
 rcases h with ⟨_,rfl⟩ | ⟨b,q,c,rfl⟩
 · simp
 · unfold n_
   split
   · simp
   · have e:(aJ l).length<=4:=by have:=(Dz b).1.2; simpa [aJ] using this
     refine kZ (Jk _ _) (kZ (m:=q.1.length) ?_ ?_)
     · unfold ho; exact List.length_filterMap_le _ _
     · rcases c with ⟨_,rfl⟩ | ⟨_,d,a,rfl⟩
       · simp
       · have:=wJ (pB a.1).2 (pB a.1).1
         unfold wK
         split
         · show d.length<=4; omega
         · simp
structure L5 where
 i:Nat
 es:List XO
 o:SP
 J:View
structure L6 where
 i:Nat
 es:List FP
 r:SP
 J:View
def ec (u:cb):bD:=(fJ u).1.to
theorem Wj {us:List cb} {i:Nat} {u:cb} (a:∀s ∈ us.take i,(fJ s).2=0) (b:us[i]? = some u) (h:¬(fJ u).2=0):jP (us,0)=(([],0),(fJ u).2):=by
 have e:w_ us=(fJ u).2:=zG a b h;rw [jP,if_neg aj,e,if_pos h]
theorem L7 {us:List cb} (a:∀s ∈ us,(fJ s).2=0):jP (us,0)=gV (us.map ec):=by
 have e:w_ us=0:=mI.2 a;rw [jP,if_neg aj,e,if_neg aj]; rfl
theorem Wk {us:List cb} {e:Int} (h:¬e=0):jP (us,e)=(([],0),e):=by rw [jP,if_pos h]
theorem Wl {us:List cb} {i:Nat} {u:cb} (b:∀s ∈ us.take i,(fJ s).2=0) (c:us[i]? = some u) (h:(fJ u).2=0):∀s ∈ us.take (i+1),(fJ s).2=0:=λs a=>by
 rw [hg c] at a
 rcases dA.1 a with k | k
 · exact b s k
 · rw [az] at k; subst k; exact h
theorem XS {a:List Tx} {i:Nat} {x:Tx} (c:∀s ∈ a.take i,(gF s).2=0) (d:a[i]? = some x) (h:(gF x).2=0):∀s ∈ a.take (i+1),(gF s).2=0:=λs b=>by
 rw [hg d] at b
 rcases dA.1 b with k | k
 · exact c s k
 · rw [az] at k; subst k; exact h
def vG (a:List Tx):Int:=gk (λb=>(gF b).2) a
def gY (a:List Tx):List fQ:=a.map λb=>(gF b).1
def iJ (s:Tx) (a:List Tx):(Tx×Tx)×Int:=
 if (bN s).2≠0 then (([],[]),(bN s).2) else if vG a≠0 then (([],[]),vG a) else
 if (cn (bN s).1).2≠0 then (([],[]),(cn (bN s).1).2) else
 if (cL (bN s).1 (gY a)).2≠0 then (([],[]),(cL (bN s).1 (gY a)).2) else
 if (fJ (cL (bN s).1 (gY a)).1).2≠0 then (([],[]),(fJ (cL (bN s).1 (gY a)).1).2) else
 if (kN (ec (cL (bN s).1 (gY a)).1)).2≠0 then (([],[]),(kN (ec (cL (bN s).1 (gY a)).1)).2) else
 if (dq (cn (bN s).1).1.1 (cn (bN s).1).1.2).2≠0 then (([],[]),(dq (cn (bN s).1).1.1 (cn (bN s).1).1.2).2) else
 (((dq (cn (bN s).1).1.1 (cn (bN s).1).1.2).1,(kN (ec (cL (bN s).1 (gY a)).1)).1),0)
theorem Wn {a:List Tx} {i:Nat} {x:Tx} (b:∀s ∈ a.take i,(gF s).2=0) (c:a[i]? = some x) (h:¬(gF x).2=0):vG a=(gF x).2:=zG b c h
theorem L8 {b N:View} {a:Option Addr} {c:Nat} {es:List XO} {us:List cb} (h:Sl Az 7 b a c es) (hv:bF b N) (d:∀e ∈ es,ld N e.2 e.1) (f:es.map (·.1)=us.map ec):Sl vA 7 N a c (us.map ec):=by
 rw [<-f]; exact Vm h hv d
theorem AK:gg prog 45 56 (.agg #[st [],.slice none 0 0,.int .i64 0,.slice none 0 0,.slice none 0 0,.slice none 0 0,.int .i64 0]) 7 128:=iN ab
theorem L9 (f j:View) (a:Option Addr) (c:Nat) (l:List Tx) (w:World) (L:Le f w) (M:Le j w) (N:Laid j) (P:Sl rdStr 1 f a c l) :
   Calls prog 12 #[.slice a l.length c] w λe w'=>∃r:SP×List cb×Int,e = .returned (.tuple #[.agg #[.slice r.1.1 (jP r.2).1.1.length r.1.2,.int .i64 (jP r.2).1.2],.int .i64 (jP r.2).2])/\Ext w w'/\Sl gm 3 (nv w w') r.1.1 r.1.2 (jP r.2).1.1/\mq l r.2:=by
 refine enter func12 O 44 O O ?_;refine CE (Vs:=[f,j]) (Ws.init (by simp [L,M])) (ag ?_);refine Al Y O o_ λQ=>?_;refine ak O (aa (ag (ad O ?_)));refine Ld Y O aC O (λr:SP×List cb×Int=>.tuple #[.slice r.1.1 r.2.1.length r.1.2,.int .i64 r.2.2]) (λn r=>Sl (eK 8 7) 5 n r.1.1 r.1.2 r.2.1/\mq l r.2) (λw b=>AJ f j a c l w b.V b.V N P) ?_;intro z R aJ S;obtain ⟨aK,us,A⟩:=R;obtain ⟨t,m⟩:=S;dsimp only at t m;have aL:=t.cap;have aM:=t.max;have aN:us.length<=4:=L4 m;refine ad O (I (Yx O O) (I (Yx O O) (ak O (ak O (aa (Cs (ag (ad O (I (fz O O) ?_)))))))));refine aa ?_;refine Cc O (λB=>?_) (λB=>?_)
 ·have C:¬A=0:=by simpa using B
  refine ag (I (Yb o_ xR O O) (ad O (aQ 0 Y O O O qe O O O (ak O (aa (a7 (Er ?_)))))));refine WE.eB (fu O (dX 0 O O rj O) (gG O)) λw' b=>?_;have d:=Wk (us:=us) C;refine ⟨((none,0),us,A),?_,b.fr,?_,m⟩
  · dsimp only
    rw [d]; rfl
  · dsimp only
    rw [d]; exact Sl.nil
 have T:A=0:=by simpa using B
 subst T;refine bk (ag (ak O (LW (λ_ h=>h.eM 56 7) ?_)));refine WL.v0 ?_;refine aa (Cs (ag (ad O (I (Yn sh O) (ad O (aa (Cb ?_)))))));refine dc (ι:=L5) (λg=>[(22,.int .i64 (g.i:Int)),(6,.slice g.o.1 g.es.length g.o.2)]) [(2,_),(20,_),(21,_)] (λg=>Ws w [] [bS 56 7 XO.cells g.o.1 g.o.2 g.es,ao Q (.cells #[.slice none 0 0,.int .i64 0] 33 (0,0))] [g.J,z,f,j]) (λg=>g.i<=us.length/\g.es.map (·.1)=(us.take g.i).map ec/\(∀s ∈ us.take g.i,(fJ s).2=0)/\fj w g.J/\(∀e ∈ g.es,ld g.J e.2 e.1)/\g.es.length=g.i) (λg=>us.length-g.i) ⟨0,[],(none,0),v0⟩ ⟨cq _,O,aj,nh w,aj,O⟩ (λ_ h=>by have h:=Ws.av h (b3:=[v0,z,f,j]) aj; exact h) ?_;intro g ⟨hi,v,x,U,H,W⟩;refine ag (I (ai O O) (aa (Cs ?_)));refine Cc O (λD=>?_) (λD=>?_)
 ·have X:g.i<us.length:=by simpa using D
  obtain ⟨u,p⟩:=cg X;obtain ⟨aO,aP,Z,ab,ac,af⟩:=t.bT g.i u p;refine bk (Cs (Cb (ag (I (Yo sh O O Z ae) (I (dV 1 ik O O O (ac)) ?_)))));refine Al Y O nD λaR=>?_;refine aQ 0 Y O O O nE O O O (aa (ag (I (cc 0 O O ik O) ?_)));refine Ld Y O aC O (λr:iZ=>.tuple #[.agg (gS (ec u) r).toArray,.int .i64 (fJ u).2]) (λn r=>ld n r (ec u)) (λw b=>LH z 8 7 u ab w b.V af (Wi m u (ax p))) ?_;intro aS E ah al;refine ad O (I (Yx O O) (I (Yx O O) ?_));refine Al Y O kc λaT=>?_;refine aQ 0 Y O O O kD O O O (ak O (aa (Cs (ag (ad O (I (fz O O) (aa ?_)))))));refine Cc O (λF=>?_) (λF=>?_)
  ·have C:¬(fJ u).2=0:=by simpa using F
   refine ag (I (Yb o_ xR O O) (ad O (aQ 3 Y O O O qe O O O (ak O (aa (a7 (Er (cG (Er (Er (cG (Er ?_))))))))))));refine WE.eB (fu O (dX 3 O O rj O) (gG O)) λw' b=>?_;have d:=Wj x p C;refine ⟨((none,0),us,0),?_,b.fr,?_,m⟩
   · dsimp only
     rw [d]; rfl
   · dsimp only
     rw [d]; exact Sl.nil
  have am:(fJ u).2=0:=by simpa using F
  refine bk (Cr (ad O (I (cc 0 O O iI O) ?_)));refine Lb Y O AK O O O O λaU=>?_;refine cF 0 (.cells (XO.cells (ec u,E)).toArray 56 (0,0)) O (O) ?_;refine LA ((ec u,E)) 3 0 Y O AK O O O O O O ae ae λan ap=>?_;refine WL.h6 λaq ar au aw=>?_;refine ak O (Ln (Eb (Et (Cr (I (Yi O O O ae) (ad O (Ln ?_)))))))
  exact b8 (⟨g.i+1,g.es++[(ec u,E)],(an,ap),aq⟩:L5) (by show _-(g.i+1)<_; omega) ⟨by show g.i+1<=_; omega,by rw [nI,v,hg p]; simp,Wl x p am,aw w ah U,λy G=>by
    rcases dA.1 G with k | k
    · exact vB (H y k) au
    · rw [az] at k; subst k; exact vB al ar,by simp [W]⟩ (λ_ h=>Wd 3 h)
 have ay:g.i=us.length:=by simp at D; omega
 rw [ay,ew] at v x
 have aA:g.es.length=(us.map ec).length:=by rw [<-v,eo]
 rw [aA];refine Ce (Ex (Ex (cB (Et (Cs ?_)))));refine WC.l9 (rd:=Az) 0 O XO.ck cp λaV aB=>?_;refine WC.h6 λK aD aE aW=>?_;have aF:Sl vA 7 K g.o.1 g.o.2 (us.map ec):=L8 aB aD (λy G=>vB (H y G) aE) v;refine Cr (ad O ?_);refine Ld Y O aC O (λq:SP=>.tuple #[.agg #[.slice q.1 (gV (us.map ec)).1.1.length q.2,.int .i64 (gV (us.map ec)).1.2],.int .i64 (gV (us.map ec)).2]) (λn q=>Sl gm 3 n q.1 q.2 (gV (us.map ec)).1.1) (λw b=>Ks K g.o.1 g.o.2 (us.map ec) w b.V aF) ?_;intro aX aG aH aI;refine I (Yx O O) (I (Yx O O) (aQ 0 Y O O O qe O O O (ak O (aa (a7 ?_)))));refine WE.eB (fu O (dX 0 O O rj O) (gG O)) λw' b=>?_;have d:=L7 x;refine ⟨(aG,us,0),?_,b.fr,?_,m⟩
 · dsimp only
   rw [d]; rfl
 · dsimp only
   rw [d]; exact aI.imp λ_ _ _ h=>bR.mono (cU b aj aH) h
theorem EO (j l:View) (s:Tx) (a:Option Addr) (c:Nat) (b:List Tx) (w:World) (an:Le j w) (ap:Le l w) (aq:Laid l) (A:Sl rdStr 1 j a c b) (a9:b.length<=1048576) :
   Calls prog 8 #[st s,.slice a b.length c] w λe w'=>e = .returned (.tuple #[st (iJ s b).1.1,st (iJ s b).1.2,.int .i64 (iJ s b).2])/\Ext w w':=by
 have a':=A.cap;have a_:=A.max;refine enter func8 O 89 O O ?_;refine CE (Vs:=[j,l]) (Ws.init (by simp [an,ap])) (ag (ak O (ak O (ak O (aa (ag (ad O ?_)))))))
 refine Ld Y O aC O (λr:iQ=>.tuple #[.agg (a6 ((bN s).1) r).toArray,.int .i64 ((bN s).2)]) (λB r=>jk 7 6 B r ((bN s).1)) (λw d=>by
     have:=zV l (s) w d.V aq
     exact this) ?_
 intro q C ba T;refine ad O (I (Yx O O) (I (Yx O O) ?_));refine Al Y O ch λar=>?_;refine aQ 0 Y O O O mU O O O (ak O (aa (Cs (ag (ad O (I (fz O O) (aa ?_)))))));refine Cc O (λD=>?_) (λD=>?_)
 ·have au:¬(bN s).2=0:=by simpa using D
  refine ag (ad O (ak O (ak O (ak O (aa (a7 (Er ?_)))))));refine WE.ry O O O O λw' d=>?_;exact ⟨by rw [iJ,if_pos au]<;>rfl,d.fr⟩
 have f:(bN s).2=0:=by simpa using D
 refine bk (ag (ak O (LW (λ_ h=>h.eM 65 2) ?_)));refine WL.v0 ?_;refine aa (Cs (ag (ad O (I (Yn dy O) (ad O (aa (Cb ?_)))))));refine dc (ι:=L6) (λg=>[(29,.int .i64 (g.i:Int)),(9,.slice g.r.1 g.es.length g.r.2)]) [(7,_),(8,_),(27,_),(28,_)] (λg=>Ws w [] [bS 65 2 vF g.r.1 g.r.2 g.es,ao ar (.cells (a6 (bN s).1 C).toArray 50 (0,0))] [g.J,q,j,l]) (λg=>g.i<=b.length/\g.es.map (·.1)=gY (b.take g.i)/\(∀s ∈ b.take g.i,(gF s).2=0)/\fj w g.J/\(∀e ∈ g.es,Sl hQ 4 g.J e.2.1 e.2.2 e.1.2)/\g.es.length=g.i) (λg=>b.length-g.i) ⟨0,[],(none,0),v0⟩ ⟨cq _,O,aj,nh w,aj,O⟩ (λ_ h=>by have h:=Ws.av h (b3:=[v0,q,j,l]) aj; exact h) ?_;intro g ⟨hi,t,u,aw,U,W⟩;refine ag (I (ai O O) (aa (Cs ?_)));refine Cc O (λE=>?_) (λE=>?_)
 ·have ax:g.i<b.length:=by simpa using E
  obtain ⟨x,v⟩:=cg ax;obtain ⟨ay,aA,aB,F⟩:=A.bT g.i x v;have F:bR j ay (aA+g.i*1) (c' x):=F;refine bk (Cs (Cb (ag (I (Yo dy O O aB ae) (I (cu 2 ab O O (F 0 _ O)) (ak O (aa (ag (ad O ?_)))))))));refine Ld Y O aC O (λr:SP=>.tuple #[.agg #[st (gF x).1.1,.slice r.1 (gF x).1.2.length r.2],.int .i64 (gF x).2]) (λo r=>Sl hQ 4 o r.1 r.2 (gF x).1.2) (λw d=>VF x w) ?_;intro bb G aD aE;refine ad O (I (Yx O O) (I (Yx O O) ?_));refine Al Y O jR λbc=>?_;refine aQ 0 Y O O O kV O O O (ak O (aa (Cs (ag (ad O (I (fz O O) (aa ?_)))))));refine Cc O (λH=>?_) (λH=>?_)
  ·have X:¬(gF x).2=0:=by simpa using H
   have Z:=Wn u v X
   have aF:¬vG b=0:=by rw [Z]; exact X
   refine ag (ad O (ak O (ak O (ak O (aa (a7 (Er (cG (Er (Er (cG (Er ?_))))))))))));refine WE.ry O O O O λw' d=>?_;exact ⟨by rw [iJ,if_neg (by simpa using f),if_pos aF,Z]<;>rfl,d.fr⟩
  have aG:(gF x).2=0:=by simpa using H
  refine bk (Cr (ad O (I (cc 0 O O jS O) ?_)));refine Lb Y O gj O O O O λbd=>?_;refine cF 0 (.cells (vF ((gF x).1,G)).toArray 65 (0,0)) O (O) ?_;refine LA (((gF x).1,G)) 2 0 Y O gj O O O O O O ae ae λaH aI=>?_;refine WL.h6 λaJ aK aL aM=>?_;refine ak O (Ln (Eb (Et (Cr (I (Yi O O O ae) (ad O (Ln ?_)))))))
  exact b8 (⟨g.i+1,g.es++[((gF x).1,G)],(aH,aI),aJ⟩:L6) (by show _-(g.i+1)<_; omega) ⟨by show g.i+1<=_; omega,by unfold gY at t ⊢; rw [nI,t,hg v]; simp,XS u v aG,aM w aD aw,λy K=>by
    rcases dA.1 K with k | k
    · exact qa aL (U y k)
    · rw [az] at k; subst k; exact qa aK aE,by simp [W]⟩ (λ_ h=>Wd 2 h)
 have ac:g.i=b.length:=by simp at E; omega
 rw [ac,ew] at t u;have n:vG b=0:=mI.2 u
 have aN:g.es.length=(gY b).length:=by unfold gY; rw [eo,W,ac]
 rw [aN];have L:=sg s
 have L:wM (bN s).1<=109951162777:=ae
 refine Ce (Ex (Ex (cB (Et (Cs ?_)))));refine WC.l9 (rd:=EN) 0 O LY cp λbe aO=>?_;refine WC.h6 λaf aP aR bf=>?_
 have aS:Sl re 2 af g.r.1 g.r.2 (gY b):=by
   have ah:=LZ aO aP λy K=>qa aR (U y K);rw [t] at ah;exact ah
 refine Cr (I (cc 0 O O iG O) ?_);refine Ld Y O aC O (λr:SP=>.tuple #[.agg #[st (cn (bN s).1).1.1,.slice r.1 (cn (bN s).1).1.2.length r.2],.int .i64 (cn (bN s).1).2]) (λB r=>Sl hQ 4 B r.1 r.2 (cn (bN s).1).1.2) (λw d=>Ec q 7 6 C (bN s).1 w d.V T L) ?_;intro aT al bg aU;refine ad O (I (Yx O O) (I (Yx O O) ?_));refine Al Y O jR λbh=>?_;refine aQ 0 Y O O O kV O O O (ak O (aa (Cs (ag (ad O (I (fz O O) (aa ?_)))))));refine Cc O (λM=>?_) (λM=>?_)
 ·have aV:¬(cn (bN s).1).2=0:=by simpa using M
  refine ag (ad O (ak O (ak O (ak O (aa (a7 (Er ?_)))))));refine WE.ry O O O O λw' d=>?_;exact ⟨by rw [iJ,if_neg (by simpa using f),if_neg (by simpa using n),if_pos aV]<;>rfl,d.fr⟩
 have p:(cn (bN s).1).2=0:=by simpa using M
 refine bk (ag (I (cc 1 O O iG O) (ad O ?_)))
 refine Ld Y O aC O (λr:jG=>.tuple #[.agg (fH (cL (bN s).1 (gY b)).1 r).toArray,.int .i64 (cL (bN s).1 (gY b)).2]) (λo r=>iV (7+1) (6+1) o r (cL (bN s).1 (gY b)).1) (λw d=>by
     skip
     exact tC q af 7 6 C (bN s).1 g.r.1 g.r.2 (gY b) w d.V d.V T aS L) ?_
 intro aW aX bi aY;refine ad O (I (Yx O O) (I (Yx O O) ?_));refine Al Y O nD λbj=>?_;refine aQ 0 Y O O O nE O O O (ak O (aa (Cs (ag (ad O (I (fz O O) (aa ?_)))))));refine Cc O (λN=>?_) (λN=>?_)
 ·have aZ:¬(cL (bN s).1 (gY b)).2=0:=by simpa using N
  refine ag (ad O (ak O (ak O (ak O (aa (a7 (Er ?_)))))));refine WE.ry O O O O λw' d=>?_;exact ⟨by rw [iJ,if_neg (by simpa using f),if_neg (by simpa using n),if_neg (by simpa using p),if_pos aZ]<;>rfl,d.fr⟩
 have z:(cL (bN s).1 (gY b)).2=0:=by simpa using N
 refine bk (ag (I (cc 0 O O ik O) ?_));refine Ld Y O aC O (λr:iZ=>.tuple #[.agg (gS (ec (cL (bN s).1 (gY b)).1) r).toArray,.int .i64 (fJ (cL (bN s).1 (gY b)).1).2]) (λo r=>ld o r (ec (cL (bN s).1 (gY b)).1)) (λw d=>LH aW 8 7 (cL (bN s).1 (gY b)).1 aX w d.V aY (by have:=Jj (m:=(bN s).1) (fs:=(gY b)); have:=sg s; omega)) ?_;intro a0 a1 bl a2;refine ad O (I (Yx O O) (I (Yx O O) ?_));refine Al Y O kc λbm=>?_;refine aQ 0 Y O O O kD O O O (ak O (aa (Cs (ag (ad O (I (fz O O) (aa ?_)))))));refine Cc O (λP=>?_) (λP=>?_)
 ·have a3:¬(fJ (cL (bN s).1 (gY b)).1).2=0:=by simpa using P
  refine ag (ad O (ak O (ak O (ak O (aa (a7 (Er ?_)))))));refine WE.ry O O O O λw' d=>?_;exact ⟨by rw [iJ,if_neg (by simpa using f),if_neg (by simpa using n),if_neg (by simpa using p),if_neg (by simpa using z),if_pos a3]<;>rfl,d.fr⟩
 have Q:(fJ (cL (bN s).1 (gY b)).1).2=0:=by simpa using P
 refine bk (ag (I (cc 0 O O iI O) (Lp Y O aC O (λw d=>Va a0 (ec (cL (bN s).1 (gY b)).1) a1 w d.V a2) (ad O (I (Yx O O) (I (Yx O O) (ak O (ak O ?_))))))));refine aa (Cs (ag (ad O (I (fz O O) (aa ?_)))));refine Cc O (λR=>?_) (λR=>?_)
 ·have a4:¬(kN (ec (cL (bN s).1 (gY b)).1)).2=0:=by simpa using R
  refine ag (ad O (ak O (ak O (ak O (aa (a7 (Er ?_)))))));refine WE.ry O O O O λw' d=>?_;exact ⟨by rw [iJ,if_neg (by simpa using f),if_neg (by simpa using n),if_neg (by simpa using p),if_neg (by simpa using z),if_neg (by simpa using Q),if_pos a4]<;>rfl,d.fr⟩
 have am:(kN (ec (cL (bN s).1 (gY b)).1)).2=0:=by simpa using R
 refine bk (ag (I (cc 2 O O jS O) (Lp Y O aC O (λw d=>VA aT al.1 al.2 (cn (bN s).1).1.1 (cn (bN s).1).1.2 w d.V aU) (ad O (I (Yx O O) (I (Yx O O) (ak O (ak O ?_))))))));refine aa (Cs (ag (ad O (I (fz O O) (aa ?_)))));refine Cc O (λS=>?_) (λS=>?_)
 ·have a5:¬(dq (cn (bN s).1).1.1 (cn (bN s).1).1.2).2=0:=by simpa using S
  refine ag (ad O (ak O (ak O (ak O (aa (a7 (Er ?_)))))));refine WE.ry O O O O λw' d=>?_;exact ⟨by rw [iJ,if_neg (by simpa using f),if_neg (by simpa using n),if_neg (by simpa using p),if_neg (by simpa using z),if_neg (by simpa using Q),if_neg (by simpa using am),if_pos a5]<;>rfl,d.fr⟩
 have a8:(dq (cn (bN s).1).1.1 (cn (bN s).1).1.2).2=0:=by simpa using S
 refine bk (ag (ad O (ad O (ak O (ak O (ak O (aa (a7 ?_))))))));refine WE.ry O O O O λw' d=>?_;exact ⟨by rw [iJ,if_neg (by simpa using f),if_neg (by simpa using n),if_neg (by simpa using p),if_neg (by simpa using z),if_neg (by simpa using Q),if_neg (by simpa using am),if_neg (by simpa using a8)]<;>rfl,d.fr⟩
theorem XT {P:Program} {l:List (Nat×Value)} {W:World->Prop} {d:Option Tmp} {ty:TypeId} {pos:String} {af:Array Edge} {g:Option (Nat×Bool)} {t u:TypeId} {x y:Operand} {k:IntKind} {a b:Int} (c:bn l x=some (.int k a)) (e:bn l y=some (.int k b)) (h:b<a):Yl P l W ⟨d,.binOp .gtr t x y u,ty,pos,af,g⟩ (.bool true):=by
 have:=dO (P:=P) (W:=W) (d:=d) (ty:=ty) (pos:=pos) (af:=af) (g:=g) (t:=t) (u:=u) c e
 rwa [show decide (b<a)=true by simpa using h] at this
def aL:Tx:=[109,111,100,117,108,101,32,99,110,116,32,123,32,112,117,98,32,99,111,110,115,116,32,107,32,61,32,51,32,59,32,112,117,98,32,118,97,114,32,115,117,109,32,59,32,112,117,98,32,97,114,114,97,121,32,116,32,91,32,52,32,93,32,59,32,112,117,98,32,112,114,111,99,32,100,111,119,110,32,40,32,110,32,41,32,108,111,99,97,108,32,105,32,59,32,123,32,105,32,61,32,110,32,59,32,119,104,105,108,101,32,105,32,123,32,115,117,109,32,61,32,40,32,115,117,109,32,43,32,105,32,41,32,59,32,105,32,61,32,40,32,105,32,45,32,49,32,41,32,59,32,125,32,114,101,116,117,114,110,32,115,117,109,32,59,32,125,32,109,97,105,110,32,123,32,125,32,125]
theorem XV:gz aV=0:=by decide +kernel
theorem K8:bN aL=(aV,0):=by
 have h:J (nw aV)=aL:=by decide +kernel
 rw [<-h];exact Rd XV (by rw [h]; decide +kernel)
theorem Wq:(iJ aL []).2=0:=by decide +kernel
theorem Wr:(iJ aL []).1.2.length=519:=by decide +kernel
theorem XW:(iJ gq [(iJ aL []).1.1]).2=0:=by decide +kernel
theorem XX:300<(iJ gq [(iJ aL []).1.1]).1.2.length:=by decide +kernel
def bQ:List Nat×Int:=([1,0],0)
def vH:List (Tx×fQ):=[(aV.nm,(cn aV).1)]
theorem Wu:h' [fi,aV]=0:=by decide +kernel
theorem XZ:sx [fi,aV] bQ:=by
 refine .inr ⟨Wu,[1,0],⟨?_,.inl O⟩,O⟩;have a:km [fi,aV] ([]++[1]):=.snoc .nil ⟨aF,by decide +kernel,by decide +kernel⟩;have b:km [fi,aV] ([1]++[0]):=.snoc a ⟨aF,by decide +kernel,by decide +kernel⟩;exact b
theorem Ma:aJ [gq,aL]=[fi,aV]:=by
 show [(bN gq).1,(bN aL).1]=_
 rw [K8]; rfl
theorem Ww:mP [gq,aL]=0:=DA aF λs a=>by
 rcases dU.1 a with e | a
 · subst e; exact K'
 · rw [az] at a; subst a; rw [K8]
theorem Wx:(aU [] aV).2=0:=by decide +kernel
theorem Wy:(aU vH fi).2=0:=by decide +kernel
theorem Wz:(aU vH fi).1.nm=[116,111,112]:=by decide +kernel
theorem WA {m a:aX} (h:(aU [] m).2=0) (b:(aU [(m.nm,(cn m).1)] a).2=0):gK [m,a] []=([(aU [] m).1,(aU [(m.nm,(cn m).1)] a).1],0):=by
 rw [Jm,Dx h,Dx b]; rfl
theorem X0:∀r,mq [gq,aL] r->r=([(aU [] aV).1,(aU vH fi).1],0):=λr h=>by
 rcases h with ⟨b,_⟩ | ⟨_,q,a,rfl⟩
 · exact absurd Ww b
 · rw [Ma] at a
   have:=LS a XZ;subst this;rw [n_,if_neg (by simp [bQ]),Ma];exact WA Wx Wy
theorem X1:(aU [] aV).1=(cL aV []).1:=by
 have h:(cn aV).2=0:=by rw [Ut]
 rw [zF h]; rfl
theorem Mb:h' [fi]=5:=by decide +kernel
theorem X3:∀r,mq [gq] r->r=([],5):=λr h=>by
 rcases h with ⟨b,_⟩ | ⟨_,q,c,rfl⟩
 · exact absurd (DA aF λs a=>by rw [az] at a; subst a; exact K') b
 · rcases c with ⟨_,rfl⟩ | ⟨d,_⟩
   · show n_ _ ([],h' [fi])=_
     rw [Mb]; rfl
   · exact absurd (show h' [fi]=0 from d) (by rw [Mb]; decide)
theorem X4:(jP ([(aU [] aV).1,(aU vH fi).1],0)).2=0:=by decide +kernel
theorem WG:(jP ([(aU [] aV).1,(aU vH fi).1],0)).1.2=5:=by decide +kernel
theorem Mc {α β a:Type} {x:(α×β)×a} {c:a} (h:x.2=c):x=((x.1.1,x.1.2),c):=by obtain ⟨⟨_,_⟩,_⟩:=x; subst h; rfl
theorem WH {C:Tx->List Tx->(Tx×Tx)×Int} {s t:Tx} (d:(C s []).2=0) (e:(C s []).1.2.length=519) (f:(C t [(C s []).1.1]).2=0) (g:300<(C t [(C s []).1.1]).1.2.length):∃a b h c:Tx,C s []=((a,b),0)/\b.length=519/\C t [a]=((h,c),0)/\300<c.length:=
 ⟨_,_,_,_,Mc d,e,Mc f,g⟩
theorem WI {x:(List bA×Int)×Int} {d e:Int} (a:x.1.2=d) (b:x.2=e):x=((x.1.1,d),e):=by
 obtain ⟨⟨c,f⟩,g⟩:=x;subst a b
 rfl
theorem WJ {B:List cb×Int->(List bA×Int)×Int} {a b:cb} (c:(B ([a,b],0)).1.2=5) (d:(B ([a,b],0)).2=0):∃e,B ([a,b],0)=((e,5),0):=⟨_,WI c d⟩
theorem WK:∃(e f h g:Tx) (i j:cb) (k:List bA),iJ aL []=((e,f),0)/\f.length=519/\iJ gq [e]=((h,g),0)/\300<g.length/\(∀r,mq [gq,aL] r->r=([i,j],0))/\(cL aV []).1=i/\j.nm=[116,111,112]/\jP ([i,j],0)=((k,5),0)/\(∀r,mq [gq] r->r=([],5)):=by
 obtain ⟨e,f,h,g,a,b,c,d⟩:=WH (C:=iJ) Wq Wr XW XX;obtain ⟨k,l⟩:=WJ (B:=jP) WG X4;exact ⟨e,f,h,g,(aU [] aV).1,(aU vH fi).1,k,a,b,c,d,X0,X1.symm,Wz,l,X3⟩
theorem AL:cx prog 33 1=some 1:=ab
theorem EP (w:World) :
   Calls prog 36 #[] w λe w'=>e = .returned (st aL)/\Ext w w':=by
 refine enter func36 O 1 O O ?_;refine CE (Vs:=[]) (Ws.init aj) (ag (ak O (aa (ag (ak O (aa (a7 ?_)))))));refine R1 O O λw' a=>?_;exact ⟨O,a.fr⟩
theorem X5 (f h:View) (a b:SP) (c:List bA) (d:Int) (w:World) (j:Le f w) (k:Le h w) (l:Sl gm 3 f a.1 a.2 c) (m:Sl gm 3 h b.1 b.2 c) :
   Calls prog 16 #[.agg #[.slice a.1 c.length a.2,.int .i64 d],.agg #[.slice b.1 c.length b.2,.int .i64 d]] w λe w'=>e = .returned (.bool true)/\Ext w w':=by
 refine enter func16 O 17 O O ?_;refine CE (Vs:=[f,h]) (Ws.init (by simp [j,k])) (ag ?_);refine WL.box Y O O λn=>?_;refine WL.box Y O O λo=>?_;refine ak O (aa (ag (I (Yf AL O) (I (Yd 1 O O O ab) (I (Yf AL O) (I (Yd 0 O O O ab) (I (pw O O O) (ad O ?_))))))));apply La 5 (x:=true) O O O O Y O O O O O
 ·intro p;refine Vg (Yf qf O) (Vg (Yd 1 O O O ab) (Vg (Yf qf O) (Vg (Yd 0 O O O ab) (Lp (.g O O O) O aC O (λw i=>UT f h a.1 b.1 a.2 b.2 c w i.V i.V l m) ?_))));exact Gt 5 O O O
 refine ak O (aa (a7 ?_));refine R1 O O λw' i=>?_;exact ⟨O,i.fr⟩
theorem ER (b:View) (w:World) (D:Le b w) (n:Laid b) :
   Calls prog 10 #[] w λe w'=>e = .returned (.bool true)/\Ext w w':=by
 refine enter func10 O 101 O O ?_;refine CE (Vs:=[b]) (Ws.init (by simp [D])) (ag (ak O (aa (Cs ?_))));obtain ⟨u,ay,az,aA,y,E,z,F,G,H,aB,A,J,K,L,M⟩:=WK;refine Cr (Lp Y O aC O (λw a=>EP w) ?_)
 refine Lp Y O aC O (λw a=>by
     have j:=EO b b aL none 0 [] w a.V a.V n Sl.nil aj;rw [F] at j;dsimp only at j
     exact j) ?_
 refine ad O (I (Yx O O) (I (Yx O O) (I (Yx O O) (ak O (ak O (ak O (aa (ag ?_))))))));refine Lp Y O aC O (λw a=>xD w) (ad O ?_);refine Lb Y O dT O O O O λN=>?_;refine cF 0 (.cells ((([u]:List Tx)).flatMap c').toArray 9 (0,0)) O O (LW (λ_ h=>h.pt (f:=c') (xs:=([u]:List Tx)) (c:=1) 0 O hO O aF) ?_);refine WL.l9 (rd:=rdStr) 0 O hO cp λP Q=>?_
 refine Lp Y O aC O (λw a=>by
     have j:=EO P b gq (some ⟨N,0,none⟩) 1 [u] w a.V a.V n Q aj;rw [H] at j;dsimp only at j
     exact j) ?_
 refine ad O (I (Yx O O) (I (Yx O O) (I (Yx O O) (ak O (ak O (ak O (aa (ag ?_))))))));refine Lp Y O aC O (λw a=>xD w) (Lp Y O aC O (λw a=>EP w) ?_);refine Lb Y O dT O O O O λR=>?_;refine cF 0 (.cells ((([gq,aL]:List Tx)).flatMap c').toArray 9 (0,0)) O O (LW (λ_ h=>h.pt (f:=c') (xs:=([gq,aL]:List Tx)) (c:=2) 0 O hO O aF) ?_);refine WL.l9 (rd:=rdStr) 0 O hO cp λS T=>?_
 refine Ld Y O aC O (λs:SP=>.tuple #[.slice s.1 2 s.2,.int .i64 0]) (λk s=>Sl (eK 8 7) 5 k s.1 s.2 [y,E]) (λw a=>(AJ S b (some ⟨R,0,none⟩) 2 [gq,aL] w a.V a.V n T).mono λe w' ⟨⟨s,q⟩,l,o,m,p⟩=>by
     have r:=A q p;subst r
     exact ⟨s,l,o,m⟩) ?_
 intro U aD aE t;obtain ⟨aG,aH,W,X,Z,ac⟩:=t.bT 0 _ rfl;obtain ⟨aI,aJ,af,aK,ah,aM⟩:=t.bT 1 _ rfl;have aN:=t.cap;have aO:=t.max;refine ad O (I (Yx O O) (I (Yx O O) (ak O (ak O (aa (ag (Lp Y O aC O (λw a=>xD w) (Lp Y O aC O (λw a=>EP w) ?_))))))));refine Lb Y O dT O O O O λai=>?_;refine cF 0 (.cells ((([gq,aL]:List Tx)).flatMap c').toArray 9 (0,0)) O O (LW (λ_ h=>h.pt (f:=c') (xs:=([gq,aL]:List Tx)) (c:=2) 0 O hO O aF) ?_);refine WL.l9 (rd:=rdStr) 0 O hO cp λal am=>?_
 refine Ld Y O aC O (λs:SP=>.tuple #[.agg #[.slice s.1 z.length s.2,.int .i64 5],.int .i64 0]) (λk s=>Sl gm 3 k s.1 s.2 z) (λw a=>(L9 al b (some ⟨ai,0,none⟩) 2 [gq,aL] w a.V a.V n am).mono λe w' ⟨⟨s,q⟩,l,o,m,p⟩=>by
     have r:=A q p;subst r;dsimp only at l m;rw [L] at l m
     exact ⟨s,l,o,m⟩) ?_
 intro aP aR aS aT;refine ad O (I (Yx O O) (I (Yx O O) ?_));refine Al Y O o_ λaU=>?_;refine aQ 0 Y O O O qe O O O (ak O (aa (ag (Lp Y O aC O (λw a=>xD w) ?_))));refine Lb Y O dT O O O O λao=>?_;refine cF 0 (.cells ((([gq]:List Tx)).flatMap c').toArray 9 (0,0)) O O (LW (λ_ h=>h.pt (f:=c') (xs:=([gq]:List Tx)) (c:=1) 0 O hO O aF) ?_);refine WL.l9 (rd:=rdStr) 0 O hO cp λap aq=>?_
 refine Ld Y O aC O (λs:SP=>.tuple #[.slice s.1 0 s.2,.int .i64 5]) (λk s=>Sl (eK 8 7) 5 k s.1 s.2 ([]:List cb)) (λw a=>(AJ ap b (some ⟨ao,0,none⟩) 1 [gq] w a.V a.V n aq).mono λe w' ⟨⟨s,q⟩,l,o,m,p⟩=>by
     have r:=M q p;subst r
     exact ⟨s,l,o,m⟩) ?_
 intro aV aW aX aY;refine ad O (I (Yx O O) (I (Yx O O) (ak O (ak O (aa (Cs ?_))))));refine WC.k3 [(0,true),(1,true),(2,true),(3,true),(4,true),(5,true),(6,true),(7,true),(8,true),(9,true),(10,true),(11,true),(12,true),(13,true),(14,true),(15,true),(16,true),(17,true),(18,true),(19,true),(20,true),(21,true),(22,true),(23,true),(24,true),(25,true),(26,true),(27,true),(28,true),(29,true),(30,true),(31,true),(32,true),(33,true),(34,true),(35,true),(36,true),(37,true),(38,true),(39,true),(40,true),(41,true),(42,true),(43,true),(44,false),(45,true),(46,false),(47,false),(48,true),(49,true),(50,true),(51,true),(52,true),(53,true),(54,true)] mixed ab (λ_ _ _ d _ h=>by cases d<;>exact h) ?_;refine D0 O an (Ym O) (D0 O an (pw O O O) (D0 O an (Ym O) ?_));apply WD.and 2 (x:=true) O O O O O Y O an O O O O
 ·intro aZ;refine Dq O (.g O O O) O an (Ym O) (Dq O (.g O O O) O an (pw O O O) ?_);exact Gi 2 an O O O
 refine D0 O an (Ym O) ?_;apply WD.and 2 (x:=true) O O O O O Y O an O O O O
 ·intro a0;refine Dq O (.g O O O) O an (Ym O) (Dq O (.g O O O) O an (pw O O O) ?_);exact Gi 2 an O O O
 refine D0 O an (Ym O) ?_;apply WD.and 2 (x:=true) O O O O O Y O an O O O O
 ·intro a1;refine Dq O (.g O O O) O an (Ym O) (Dq O (.g O O O) O an (pw O O O) ?_);exact Gi 2 an O O O
 refine D0 O an (Ym O) ?_;apply WD.and 2 (x:=true) O O O O O Y O an O O O O
 ·intro a2;refine Dq O (.g O O O) O an (Ym O) (Dq O (.g O O O) O an (pw O O O) ?_);exact Gi 2 an O O O
 refine D0 O an (Ym O) ?_;apply WD.and 3 (x:=true) O O O O O Y O an O O O O
 ·intro a3;refine Dq O (.g O O O) O an (Ym O) (Dq O (.g O O O) O an (nK ab O) (Dq O (.g O O O) O an (pw O O (by rw [G]; rfl)) ?_));exact Gi 3 an O O O
 refine D0 O an (Ym O) ?_;apply WD.and 3 (x:=true) O O O O O Y O an O O O O
 ·intro a4;refine Dq O (.g O O O) O an (Ym O) (Dq O (.g O O O) O an (nK ab O) (Dq O (.g O O O) O an (XT O O ae) ?_));exact Gi 3 an O O O
 refine D0 O an (Ym O) ?_;apply WD.and 3 (x:=true) O O O O O Y O an O O O O
 ·intro a5;refine Dq O (.g O O O) O an (Ym O) (Dq O (.g O O O) O an (Yn sh O) (Dq O (.g O O O) O an (pw O O O) ?_));exact Gi 3 an O O O
 refine D0 O an (Ym O) ?_;apply WD.and 5 (x:=true) O O O O O Y O an O O O O
 ·intro a6;refine Dq O (.g O O O) O an (Ym O) (Dq O (.g O O O) O an (Yo (i:=1) sh O O af aF) (Dq O (.g O O O) O an (Yf fY O) (Dq O (.g O O O) O an (cu 4 ab O O (ah 0 _ O)) (Dq O (.g O O O) O an (Oj O O K) ?_))));exact Gi 5 an O O O
 refine D0 O an (Ym O) ?_;apply WD.and 7 (x:=true) O O O O O Y O an O O O O
 ·intro a8;refine Dq O (.g O O O) O an (Ym O) (Dq O (.g O O O) O an (Yo (i:=0) sh O O W aF) (Dq O (.g O O O) O an (dV 4 ik O O O (Z)) ?_));refine De O an ?_;refine Ld (.g O O O) O aC O (λq:SP=>.slice q.1 2 q.2) (λk q=>Sl (eK 8 7) 5 k q.1 q.2 HH) (λw a=>UU b w a.V n) ?_;intro ar a9 a' v;obtain ⟨a_,ba,au,aw,B,C⟩:=v.bT 0 _ rfl;have bb:=v.cap;have bc:=v.max;rw [J] at B C;refine Ln (Ed (Dq O (.g O O O) O (λ_ h=>(Wv 1 h:)) (Yo (i:=0) sh O O au aF) ?_));refine De O (λ_ h=>(Wv 1 h:)) ?_;refine Vg (dV 0 ik O O O (B)) (Ln (Ed ?_));refine De O (λ_ h=>(Wv 1 h:)) ?_;refine Lp (.g O O O) O aC O (λw a=>Ur U ar 8 8 7 7 X aw y w a.V a.V ac C) (Ln (Ed ?_));refine WD.wk (W':=Ws _ _ [_] [_,_,_,_,_,_,_,_]) (λ_ h=>Ws.av (h) (λ_ ax=>qp [_] ax)) ?_;exact Gi 7 an O O O
 refine D0 O an (Ym O) ?_;apply WD.and 3 (x:=true) O O O O O Y O an O O O O
 ·intro bd;refine Dq O (.g O O O) O an (Yf AL O) (Dq O (.g O O O) O an (Yd 0 O O O ab) (Dq O (.g O O O) O an (pw O O O) ?_));exact Gi 3 an O O O
 refine D0 O an (Ya O) ?_;refine WD.nil an ?_;refine Et (a7 ?_);refine R1 O O λw' a=>?_;exact ⟨O,a.fr⟩
end Go.Proofs.YtccenighnmfhgaaGreatDoor
end
