/- RestModules: what came, and was changed, changes nothing that was handed in, nor what comes next (proved in the second form, bulk at most 1048576). -/
import Derived.Lib.AppendZeros
import Derived.Test.YtgeahfjicmlocaaGreatDoorF5
set_option linter.unusedVariables false
set_option linter.unusedSimpArgs false
set_option linter.defProp false
section
namespace Go.Proofs.YtgeahfjicmlocaaGreatDoor
open Go.Bw Go.Proofs.Tryz
variable {ea:gy} {ay:bW} {aS db:List UInt8}
def Wq {n m:Int}   {len:Nat} (h:eo ea aS db=some (m,ay)):b7 ea 3 n aS db len=if m = -1 then ⟨16,n,0,ay.pl,0⟩ else if ay.kind=1 then ⟨1,ay.n,0,0,0⟩ else if ay.kind=2 then ⟨3,n,m,ay.pl,0⟩ else ⟨3,n,0,0,7⟩:=by
 unfold b7;rw [a8 bf,h];simp
variable {aL cg:Int} {ae:Nat}
def Ge (a:aL=3\/aL=4\/aL=5) (h:eo ea aS db=none):b7 ea aL cg aS db ae=⟨aL,cg,0,0,5⟩:=by
 unfold b7;rw [a8 (by unfold dd; simp; omega),h]
def Wr (a:¬aL=3) (b:¬aL=4) (c:¬aL=5):b7 ea aL cg aS db ae=⟨aL,cg,0,0,0⟩:=by
 unfold b7;rw [av (by unfold dd; simp; omega)]
def QO (h:ib ea aS db 3 0≠0):(b7 ea 4 aL aS db ae).e=ib ea aS db 3 0:=by
 cases a:eo ea aS db with
 | none=>rw [Ge au a,zx a]
 | some i=>
   obtain ⟨m,it⟩:=i;have d:=dv a;rw [sz a] at h ⊢;unfold b7;rw [a8 bf,a]
   by_cases b:m = -1
   · simp [b]
   · by_cases c:it.kind=3
     · exact absurd (by rw [av Z,av Z]) h
     · simp [b,c]
def QQ (a:eo ea aS db=some (cg,ay)) (h:ib ea aS db 3 0=0):b7 ea 4 aL aS db ae=⟨4,ay.n,cg,ay.pl,0⟩:=by
 rw [sz a] at h;have d:=dv a
 have c:0<=cg/\ay.kind=3:=by
   by_cases b:0<=cg/\ay.kind=3
   · exact b
   · rw [a8 b] at h; cases h
 unfold b7;rw [a8 bf,a];simp [c.2,show ¬cg = -1 by omega]
def Wu {len:Nat} (h:ib ea aS db 4 (len:Int)≠0):(b7 ea 5 aL aS db len).e=ib ea aS db 4 (len:Int):=by
 cases a:eo ea aS db with
 | none=>rw [Ge au a,zx a]
 | some i=>
   obtain ⟨m,it⟩:=i;have f:=dv a;rw [sz a] at h ⊢;unfold b7;rw [a8 bf,a]
   by_cases b:m = -1
   · simp [b]
   · by_cases c:it.kind=4
     · by_cases d:it.n=(len:Int)
       · exact absurd (by rw [av Z,av Z]) h
       · simp [b,c,d,show 0<=m by omega]
     · simp [b,c]
def QV {len:Nat} (b:eo ea aS db=some (cg,ay)) (h:ib ea aS db 4 (len:Int)=0):b7 ea 5 aL aS db len=⟨5,aL,cg,ay.pl,0⟩:=by
 rw [sz b] at h;have e:=dv b
 have c:0<=cg/\ay.kind=4:=by
   by_cases a:0<=cg/\ay.kind=4
   · exact a
   · rw [a8 a] at h; cases h
 have d:ay.n=(len:Int):=by
   rw [av (λa=>a c)] at h
   by_cases a:ay.n=(len:Int)
   · exact a
   · rw [a8 ⟨rfl,a⟩] at h; cases h
 unfold b7;rw [a8 bf,b];simp [c.2,d,show ¬cg = -1 by omega]
def Gf (a:aL=1\/aL=2\/aL=3) (h:eo ea aS db=none):ar ea aL aS db ae=⟨aL,0,0,0,5⟩:=by
 unfold ar;rw [a8 (by unfold dd; simp; omega),h]
def Ww (a:¬aL=1) (b:¬aL=2) (c:¬aL=3):ar ea aL aS db ae=⟨aL,0,0,0,0⟩:=by
 unfold ar;rw [av (by unfold dd; simp; omega)]
def Wx {len:Nat} (h:eo ea aS db=some (aL,ay)):ar ea 1 aS db len=if aL = -1\/ay.kind=2 then ⟨1,0,aL,ay.pl,0⟩ else ⟨1,0,0,0,7⟩:=by
 unfold ar;rw [a8 bf,h]
 by_cases a:aL = -1\/ay.kind=2
 · simp [a]
 · simp [a,show ¬aL = -1 from λe=>a (.inl e)]
def Wy (h:ib ea aS db 3 0≠0):(ar ea 2 aS db ae).e=ib ea aS db 3 0:=by
 cases a:eo ea aS db with
 | none=>rw [Gf au a,zx a]
 | some i=>
   obtain ⟨m,it⟩:=i;have d:=dv a;rw [sz a] at h ⊢;unfold ar;rw [a8 bf,a]
   by_cases b:m = -1
   · simp [b]
   · by_cases c:it.kind=3
     · exact absurd (by rw [av Z,av Z]) h
     · simp [b,c]
def Wz (a:eo ea aS db=some (aL,ay)) (h:ib ea aS db 3 0=0):ar ea 2 aS db ae=⟨2,ay.n,aL,ay.pl,0⟩:=by
 rw [sz a] at h;have d:=dv a
 have c:0<=aL/\ay.kind=3:=by
   by_cases b:0<=aL/\ay.kind=3
   · exact b
   · rw [a8 b] at h; cases h
 unfold ar;rw [a8 bf,a];simp [c.2,show ¬aL = -1 by omega]
def WA {len:Nat} (h:ib ea aS db 4 (len:Int)≠0):(ar ea 3 aS db len).e=ib ea aS db 4 (len:Int):=by
 cases a:eo ea aS db with
 | none=>rw [Gf au a,zx a]
 | some i=>
   obtain ⟨m,it⟩:=i;have f:=dv a;rw [sz a] at h ⊢;unfold ar;rw [a8 bf,a]
   by_cases b:m = -1
   · simp [b]
   · by_cases c:it.kind=4
     · by_cases d:it.n=(len:Int)
       · exact absurd (by rw [av Z,av Z]) h
       · simp [b,c,d,show 0<=m by omega]
     · simp [b,c]
def QW {len:Nat} (b:eo ea aS db=some (aL,ay)) (h:ib ea aS db 4 (len:Int)=0):ar ea 3 aS db len=⟨3,0,aL,ay.pl,0⟩:=by
 rw [sz b] at h;have e:=dv b
 have c:0<=aL/\ay.kind=4:=by
   by_cases a:0<=aL/\ay.kind=4
   · exact a
   · rw [a8 a] at h; cases h
 have d:ay.n=(len:Int):=by
   rw [av (λa=>a c)] at h
   by_cases a:ay.n=(len:Int)
   · exact a
   · rw [a8 ⟨rfl,a⟩] at h; cases h
 unfold ar;rw [a8 bf,b];simp [c.2,d,show ¬aL = -1 by omega]
structure GX (X:Type) where
 i:Nat
 es:List X
 a:Option Addr
 c:Nat
 J:View
def vB:zeroOf prog 53=some (.agg #[.int .i64 0,.int .i64 0,.int .i64 0,.int .i64 0,.slice none 0 0]):=aa
def Gg:hx prog 53=some [(0,1),(1,1),(2,1),(3,1),(4,1)]:=aa
def zz:dV prog 53=some 5:=aa
def xF:cJ prog 53 0=some 0:=aa
def rB:cJ prog 53 3=some 3:=aa
def xG:cJ prog 53 1=some 1:=aa
def hf:cJ prog 53 2=some 2:=aa
def B':cJ prog 53 4=some 4:=aa
def B_:dV prog 49=some 1:=aa
def Ca:ig prog 53=some 5:=aa
def oy (g:View) (j:Nat) (σ:gy) (w:World) (r:Le g w) (s:pJ g j σ) (mod nm:List UInt8) (kind args:Int) :
   Calls prog 223 #[.pointer (some ⟨j,0,none⟩),st mod,st nm,.int .i64 kind,.int .i64 args] w λe w'=>(∃i:Int×bW,e = .returned (.tuple #[.int .i64 i.1,.agg i.2.cells.toArray])/\Ext w w'/\eo σ mod nm=some i/\ib σ mod nm kind args=0)\/(∃_:Unit,e = .panicked (g1 (ib σ mod nm kind args))/\Ext w w'/\ib σ mod nm kind args≠0):=by
 refine enter func223 O 41 O O ?_;refine CE (Vs:=[g]) (Ws.init (by simp [r])) (ac (ai O ?_));refine Al Y O ha λx=>?_;refine ad (ac (ab O (ab O (ab O ?_))));refine WL.lz Y O aK O _ _ _ _ (λw a=>Gd g j σ w a.V s mod nm) ?_ ?_
 ·intro _ c;refine Ep ?_;refine an λw' a=>?_;rw [zx c];exact .inr ⟨(),O,a.fr,bf⟩
 intro ⟨k,f⟩ q;have b:=sz (kind:=kind) (args:=args) q;refine ab O (I (Yx O O) (I (Yx O O) ?_));refine Al Y O ha λy=>?_;refine ai O (aT 0 Y O O O iu O O O (ad (ac (ab O (I (ih O O) (ab O ?_))))));apply La 4 O O O O Y O O O O O
 ·intro z;refine Vg (Yf lO O) (Vg (Yd 0 O O O aa) (Vg (Ym O) (Vg (bx O O) ?_)));exact Gt 4 O O O
 refine WL.lz (ι:=Unit) (κ:=Unit) Y O aK O (λ_=>.tuple #[]) (λ_=>_=true) (λ_=>g1 _) (λ_=>_=false) (λw a=>qv _ _ w) ?_ ?_
 ·intro _ c;refine Ep ?_;refine an λw' a=>?_
  have l:¬(0<=k/\f.kind=kind):=by rintro ⟨m,o⟩; simp [m,o] at c
  rw [a8 l] at b;rw [b];exact .inr ⟨(),O,a.fr,bf⟩
 intro _ t
 have l:0<=k/\f.kind=kind:=by simpa using t
 rw [av (λu=>u l)] at b;refine ad (ac (ab O (I (fh O O) (ab O ?_))));apply Lo 4 O O O O Y O O O O O
 ·intro A;refine Vg (Yf j8 O) (Vg (Yd 0 O O O aa) (Vg (Ym O) (Vg (bx O O) ?_)));exact Gt 4 O O O
 refine WL.lz (ι:=Unit) (κ:=Unit) Y O aK O (λ_=>.tuple #[]) (λ_=>_=true) (λ_=>g1 _) (λ_=>_=false) (λw a=>qv _ _ w) ?_ ?_
 ·intro _ c;refine Ep ?_;refine an λw' a=>?_
  have p:kind=4/\¬f.n=args:=by simpa using c
  rw [a8 p] at b;rw [b];exact .inr ⟨(),O,a.fr,bf⟩
 intro _ v;refine ad (Cs ?_);refine WC.gW 1 [(0,true),(1,true),(2,true),(3,false)] mixed aa (λ_ _ _ d _ h=>by cases d<;>exact h) ?_;refine D0 O (Wp 1) (Ym O) (D0 O (Wp 1) (cI 0 O O hR O) (D0 O (Wp 1) (Ya O) ?_));refine De O (Wp 1) ?_;refine aT 1 Y O O O iu O O O (Ln (Ed ?_));refine WD.nil (Wp 1) ?_;refine Et (aZ ?_);refine WE.fm (hX O (hV O) (ej 1 O O hR O)) λw' a=>?_
 have p:¬(kind=4/\¬f.n=args):=by rintro ⟨m,o⟩; simp [m,o] at v
 rw [av p] at b;exact .inl ⟨(k,f),O,a.fr,q,b⟩
def QX (l t:View) (q:Nat) (σ:gy) (k:Nat) (x:ak) (a:Option Addr) (c:Nat) (w:World) (Q:Le l w) (R:Le t w) (u:pJ l q σ) (hN:Gb l q σ k) (v:Sl (gn k) 5 t a c x.args) (ar:wE x<=109951162777) :
   Calls prog 268 #[.pointer (some ⟨q,0,none⟩),.agg (qS x a c).toArray] w λe w'=>(∃r:SP,e = .returned (.agg (wv (jR σ x) r.1 r.2).toArray)/\Ext w w'/\h8 σ x=0/\m2 (k+1) (nv w w') (jR σ x,r))\/(∃_:Unit,e = .panicked (g1 (h8 σ x))/\Ext w w'/\h8 σ x≠0):=by
 have aw:=DQ x;have ax:=v.cap;have ay:=v.max;refine enter func268 O 98 O O ?_;refine CE (Vs:=[t,l]) (Ws.init (by simp [R,Q])) (ac ?_);refine WL.box Y O O λJ=>?_;refine Al Y O vB λK=>?_;refine ad (ac (I (Yf jI O) (I (Yd 1 O O O aa) (I (Yf gK O) (I (Yd 1 O O O aa) (I (Yb vB Gg O O) ?_))))));refine Al Y O vB λL=>?_;refine aT 0 Y O O O zz O O O (ad ?_);refine WC.s7 (ι:=Unit) (λ_u=>[(0,.pointer (some ⟨q,0,none⟩)),(3,.pointer (some ⟨J,0,none⟩)),(4,.pointer (some ⟨K,0,none⟩)),(5,.pointer (some ⟨L,0,none⟩))]) (λ_u=>Ws w [] [aE L (.cells #[.int .i64 (b7 σ x.op x.n x.mod x.nm x.args.length).op,.int .i64 (b7 σ x.op x.n x.mod x.nm x.args.length).n,.int .i64 (b7 σ x.op x.n x.mod x.nm x.args.length).m,.int .i64 (b7 σ x.op x.n x.mod x.nm x.args.length).pl,.slice none 0 0] 53 (0,0)),aE K (.cells #[.int .i64 0,.int .i64 0,.int .i64 0,.int .i64 0,.slice none 0 0] 53 (0,0)),aE J (.cells (qS x a c).toArray 239 (0,0))] [t,l]) (λ_u=>(b7 σ x.op x.n x.mod x.nm x.args.length).e=0) ?_ ?_
 ·refine ac (I (Yf jI O) (I (Yd 2 O O O aa) (ad (Cb (ac (I (bx O O) (ai O (ad ?_))))))));refine Cc O (λy=>?_) (λy=>?_)
  ·have o:x.op=3:=by simpa using y
   refine ac (ab O (I (Yf rr O) (I (Yd 2 O O O aa) (I (Yf rs O) (I (Yd 2 O O O aa) ?_)))));refine WL.lz (ι:=Int×bW) (κ:=Unit) Y O aK O (λi=>.tuple #[.int .i64 i.1,.agg i.2.cells.toArray]) (λi=>eo σ x.mod x.nm=some i) (λ_=>g1 5) (λ_=>eo σ x.mod x.nm=none) (λw b=>Gd l q σ w b.V u x.mod x.nm) ?_ ?_
   ·intro _ g;refine Ep (WE.b' (Ep ?_));refine an λw' b=>?_
    have j:h8 σ x=5:=by rw [r5,Ge Z g]; rfl
    rw [j];exact .inr ⟨(),O,b.fr,bf⟩
   intro ⟨z,s⟩ M;have p:=Wq (n:=x.n) (len:=x.args.length) M;have az:=dv M;rw [<-o] at p;refine ab O (I (Yx O O) (I (Yx O O) ?_));refine Al Y O ha λaA=>?_;refine ai O (aT 0 Y O O O iu O O O (ad (Cb (ac (ab O (I (cy O O) (ai O (ad ?_))))))));refine Cc O (λA=>?_) (λA=>?_)
   ·have B:z = -1:=by simp at A; omega
    have f:(b7 σ x.op x.n x.mod x.nm x.args.length)=⟨16,x.n,0,s.pl,0⟩:=by rw [p,a8 B]
    refine WC.gW 1 [(0,true),(1,true),(2,true),(3,false),(4,false),(5,false)] mixed aa (λ_ _ _ d _ h=>by cases d<;>exact h) ?_;refine D0 O (Wp 1) (Yf ir O) (D0 O (Wp 1) (Yd 0 O O O aa) (D0 O (Wp 1) (Yf xF O) ?_));refine De O (Wp 1) ?_;refine aT 1 Y O O O dr O O O (Ln (Ed ?_));refine De O (Wp 1) ?_;refine I (Yf rB O) (Ln (Ed ?_));refine De O (Wp 1) ?_;refine aT 1 Y O O O dr O O O (Ln (Ed ?_));refine WD.nil (Wp 1) ?_;refine Eb (Eb ?_);refine WE.fg 1 (.cells #[.int .i64 (b7 σ x.op x.n x.mod x.nm x.args.length).op,.int .i64 (b7 σ x.op x.n x.mod x.nm x.args.length).n,.int .i64 (b7 σ x.op x.n x.mod x.nm x.args.length).m,.int .i64 (b7 σ x.op x.n x.mod x.nm x.args.length).pl,.slice none 0 0] 53 (0,0)) O (by rw [f]; rfl) ?_
    exact jO () (by rw [f]) (λ_ h=>by
      have h:=h.aJ 3 rfl;have h:=h.aJ 3 rfl;have h:=h.aJ 3 rfl;have h:=Wt 3 h
      exact h)
   have B:¬z = -1:=by simp at A; omega
   rw [av B] at p;refine ac (I (Yf lO O) (I (Yd 0 O O O aa) (I (bx O O) (ai O (ad ?_)))));refine Cc O (λC=>?_) (λC=>?_)
   ·have D:s.kind=1:=by simpa using C
    have f:(b7 σ x.op x.n x.mod x.nm x.args.length)=⟨1,s.n,0,0,0⟩:=by rw [p,a8 D]
    refine WC.gW 1 [(0,true),(1,true),(2,true),(3,false),(4,false),(5,false)] mixed aa (λ_ _ _ d _ h=>by cases d<;>exact h) ?_;refine D0 O (Wp 1) (Yf j8 O) (D0 O (Wp 1) (Yd 0 O O O aa) (D0 O (Wp 1) (Yf xF O) ?_));refine De O (Wp 1) ?_;refine aT 1 Y O O O dr O O O (Ln (Ed ?_));refine De O (Wp 1) ?_;refine I (Yf xG O) (Ln (Ed ?_));refine De O (Wp 1) ?_;refine aT 1 Y O O O dr O O O (Ln (Ed ?_));refine WD.nil (Wp 1) ?_;refine Eb (Eb ?_);refine WE.fg 1 (.cells #[.int .i64 (b7 σ x.op x.n x.mod x.nm x.args.length).op,.int .i64 (b7 σ x.op x.n x.mod x.nm x.args.length).n,.int .i64 (b7 σ x.op x.n x.mod x.nm x.args.length).m,.int .i64 (b7 σ x.op x.n x.mod x.nm x.args.length).pl,.slice none 0 0] 53 (0,0)) O (by rw [f]; rfl) ?_
    exact jO () (by rw [f]) (λ_ h=>by
      have h:=h.aJ 3 rfl;have h:=h.aJ 3 rfl;have h:=h.aJ 3 rfl;have h:=Wt 3 h
      exact h)
   have D:¬s.kind=1:=by simpa using C
   rw [av D] at p;refine ac (I (Yf lO O) (I (Yd 0 O O O aa) (I (bx O O) ?_)));refine WL.lz (ι:=Unit) (κ:=Unit) Y O aK O (λ_=>.tuple #[]) (λ_=>_=true) (λ_=>g1 _) (λ_=>_=false) (λw b=>qv _ _ w) ?_ ?_
   ·intro _ g;refine Ep (WE.b' (WE.b' (Ep ?_)));refine an λw' b=>?_
    have E:¬s.kind=2:=by simpa using g
    rw [av E] at p
    have j:h8 σ x=7:=by rw [r5,p]; rfl
    rw [j];exact .inr ⟨(),O,b.fr,bf⟩
   intro _ S
   have E:s.kind=2:=by simpa using S
   have f:(b7 σ x.op x.n x.mod x.nm x.args.length)=⟨x.op,x.n,z,s.pl,0⟩:=by rw [p,a8 E,o]
   refine ad ?_;refine WC.gW 1 [(0,true),(1,true),(2,true),(3,true),(4,false),(5,false),(6,false)] mixed aa (λ_ _ _ d _ h=>by cases d<;>exact h) ?_;refine D0 O (Wp 1) (Ym O) (D0 O (Wp 1) (Yf ir O) (D0 O (Wp 1) (Yd 0 O O O aa) (D0 O (Wp 1) (Yf hf O) ?_)));refine De O (Wp 1) ?_;refine aT 1 Y O O O dr O O O (Ln (Ed ?_));refine De O (Wp 1) ?_;refine I (Yf rB O) (Ln (Ed ?_));refine De O (Wp 1) ?_;refine aT 1 Y O O O dr O O O (Ln (Ed ?_));refine WD.nil (Wp 1) ?_;refine Eb (Eb ?_);refine WE.fg 1 (.cells #[.int .i64 (b7 σ x.op x.n x.mod x.nm x.args.length).op,.int .i64 (b7 σ x.op x.n x.mod x.nm x.args.length).n,.int .i64 (b7 σ x.op x.n x.mod x.nm x.args.length).m,.int .i64 (b7 σ x.op x.n x.mod x.nm x.args.length).pl,.slice none 0 0] 53 (0,0)) O (by rw [f]; rfl) ?_
   exact jO () (by rw [f]) (λ_ h=>by
     have h:=h.aJ 3 rfl;have h:=h.aJ 3 rfl;have h:=h.aJ 3 rfl;have h:=Wt 3 h
     exact h)
  have T:¬x.op=3:=by simpa using y
  refine ac (I (bx O O) (ai O (ad ?_)));refine Cc O (λG=>?_) (λG=>?_)
  ·have o:x.op=4:=by simpa using G
   refine ac (ab O (I (Yf rr O) (I (Yd 2 O O O aa) (I (Yf rs O) (I (Yd 2 O O O aa) ?_)))));refine WL.lz (ι:=Int×bW) (κ:=Unit) Y O aK O (λi=>.tuple #[.int .i64 i.1,.agg i.2.cells.toArray]) (λi=>eo σ x.mod x.nm=some i/\ib σ x.mod x.nm 3 0=0) (λ_=>g1 (ib σ x.mod x.nm 3 0)) (λ_=>ib σ x.mod x.nm 3 0≠0) (λw b=>oy l q σ w b.V u x.mod x.nm 3 0) ?_ ?_
   ·intro _ g;refine Ep (WE.b' (Ep ?_));refine an λw' b=>?_
    have j:h8 σ x=ib σ x.mod x.nm 3 0:=by rw [r5,o,QO g,c7 g]
    rw [j];exact .inr ⟨(),O,b.fr,g⟩
   intro ⟨U,N⟩ ⟨W,X⟩
   have f:(b7 σ x.op x.n x.mod x.nm x.args.length)=⟨x.op,N.n,U,N.pl,0⟩:=by rw [o]; exact QQ W X
   refine ab O (I (Yx O O) (I (Yx O O) ?_));refine Al Y O ha λaB=>?_;refine ai O (aT 0 Y O O O iu O O O (ad ?_));refine WC.gW 1 [(0,true),(1,true),(2,true),(3,true),(4,true),(5,true),(6,false),(7,false),(8,false),(9,false),(10,false)] mixed aa (λ_ _ _ d _ h=>by cases d<;>exact h) ?_;refine D0 O (Wp 1) (Ym O) (D0 O (Wp 1) (Yf ir O) (D0 O (Wp 1) (Yd 0 O O O aa) (D0 O (Wp 1) (Yf j8 O) (D0 O (Wp 1) (Yd 0 O O O aa) (D0 O (Wp 1) (Yf hf O) ?_)))));refine De O (Wp 1) ?_;refine aT 1 Y O O O dr O O O (Ln (Ed ?_));refine De O (Wp 1) ?_;refine I (Yf rB O) (Ln (Ed ?_));refine De O (Wp 1) ?_;refine aT 1 Y O O O dr O O O (Ln (Ed ?_));refine De O (Wp 1) ?_;refine I (Yf xG O) (Ln (Ed ?_));refine De O (Wp 1) ?_;refine aT 1 Y O O O dr O O O (Ln (Ed ?_));refine WD.nil (Wp 1) ?_;refine Eb ?_;refine WE.fg 1 (.cells #[.int .i64 (b7 σ x.op x.n x.mod x.nm x.args.length).op,.int .i64 (b7 σ x.op x.n x.mod x.nm x.args.length).n,.int .i64 (b7 σ x.op x.n x.mod x.nm x.args.length).m,.int .i64 (b7 σ x.op x.n x.mod x.nm x.args.length).pl,.slice none 0 0] 53 (0,0)) O (by rw [f]; rfl) ?_
   exact jO () (by rw [f]) (λ_ h=>by
     have h:=h.aJ 3 rfl;have h:=h.aJ 3 rfl;have h:=h.aJ 3 rfl;have h:=Wt 3 h
     exact h)
  have ae:¬x.op=4:=by simpa using G
  refine ac (I (bx O O) (ai O (ad ?_)));refine Cc O (λH=>?_) (λH=>?_)
  ·have o:x.op=5:=by simpa using H
   refine ac (ab O (I (Yf rr O) (I (Yd 2 O O O aa) (I (Yf rs O) (I (Yd 2 O O O aa) (I (Yf bA O) (I (Yd 2 O O O aa) ?_)))))));refine I (Yn fG O) ?_;refine WL.lz (ι:=Int×bW) (κ:=Unit) Y O aK O (λi=>.tuple #[.int .i64 i.1,.agg i.2.cells.toArray]) (λi=>eo σ x.mod x.nm=some i/\ib σ x.mod x.nm 4 (x.args.length:Int)=0) (λ_=>g1 (ib σ x.mod x.nm 4 (x.args.length:Int))) (λ_=>ib σ x.mod x.nm 4 (x.args.length:Int)≠0) (λw b=>oy l q σ w b.V u x.mod x.nm 4 (x.args.length:Int)) ?_ ?_
   ·intro _ g;refine Ep (WE.b' (Ep ?_));refine an λw' b=>?_
    have j:h8 σ x=ib σ x.mod x.nm 4 (x.args.length:Int):=by rw [r5,o,Wu g,c7 g]
    rw [j];exact .inr ⟨(),O,b.fr,g⟩
   intro ⟨af,ag⟩ ⟨ah,aj⟩
   have f:(b7 σ x.op x.n x.mod x.nm x.args.length)=⟨x.op,x.n,af,ag.pl,0⟩:=by rw [o]; exact QV ah aj
   refine ab O (I (Yx O O) (I (Yx O O) ?_));refine Al Y O ha λaC=>?_;refine ai O (aT 0 Y O O O iu O O O (ad ?_));refine WC.gW 1 [(0,true),(1,true),(2,true),(3,true),(4,false),(5,false),(6,false)] mixed aa (λ_ _ _ d _ h=>by cases d<;>exact h) ?_;refine D0 O (Wp 1) (Ym O) (D0 O (Wp 1) (Yf ir O) (D0 O (Wp 1) (Yd 0 O O O aa) (D0 O (Wp 1) (Yf hf O) ?_)));refine De O (Wp 1) ?_;refine aT 1 Y O O O dr O O O (Ln (Ed ?_));refine De O (Wp 1) ?_;refine I (Yf rB O) (Ln (Ed ?_));refine De O (Wp 1) ?_;refine aT 1 Y O O O dr O O O (Ln (Ed ?_));refine WD.nil (Wp 1) ?_;refine Eb ?_;refine WE.fg 1 (.cells #[.int .i64 (b7 σ x.op x.n x.mod x.nm x.args.length).op,.int .i64 (b7 σ x.op x.n x.mod x.nm x.args.length).n,.int .i64 (b7 σ x.op x.n x.mod x.nm x.args.length).m,.int .i64 (b7 σ x.op x.n x.mod x.nm x.args.length).pl,.slice none 0 0] 53 (0,0)) O (by rw [f]; rfl) ?_
   exact jO () (by rw [f]) (λ_ h=>by
     have h:=h.aJ 3 rfl;have h:=h.aJ 3 rfl;have h:=h.aJ 3 rfl;have h:=Wt 3 h
     exact h)
  have al:¬x.op=5:=by simpa using H
  have f:(b7 σ x.op x.n x.mod x.nm x.args.length)=⟨x.op,x.n,0,0,0⟩:=Wr T ae al;refine Ck (Eb ?_);refine WE.fg 0 (.cells #[.int .i64 (b7 σ x.op x.n x.mod x.nm x.args.length).op,.int .i64 (b7 σ x.op x.n x.mod x.nm x.args.length).n,.int .i64 (b7 σ x.op x.n x.mod x.nm x.args.length).m,.int .i64 (b7 σ x.op x.n x.mod x.nm x.args.length).pl,.slice none 0 0] 53 (0,0)) O (by rw [f]; rfl) ?_
  exact jO () (by rw [f]) (λ_ h=>by
    have h:=h.aJ 2 rfl;have h:=h.aJ 2 rfl;have h:=h.aJ 2 rfl
    exact h)
 intro _ P;refine ac (ab O (I (Yf bA O) (I (Yd 2 O O O aa) ?_)));refine WL.q0 (ι:=SP) (κ:=Unit) Y O aK O (λr=>.slice r.1 (be σ x.args).length r.2) (λF r=>hM σ x.args=0/\Sl (k8 (k+1)) 5 F r.1 r.2 (be σ x.args)) (λ_=>g1 (hM σ x.args)) (λ_=>hM σ x.args≠0) (λw b=>hN t x.args a c w b.V b.V v Z) ?_ ?_
 ·intro _ g;refine Ep ?_;refine an λw' b=>?_
  have j:h8 σ x=hM σ x.args:=by rw [r5,P,lA]
  rw [j];exact .inr ⟨(),O,b.fr,g⟩
 intro aD am ao ⟨ap,aq⟩;refine I (Yf B' O) (aT 0 Y O O O B_ O O O (ad (ac (I (cI 0 O O Ca O) (aT 1 Y O O O zz O O O (ad (aZ ?_)))))));refine WE.fm (hW O (ej 1 O O Ca O)) λw' b=>?_;rw [AY];exact .inl ⟨am,O,b.fr,by rw [r5,P,lA,ap],wx aq (c8 b au ao)⟩
def QY (d:View) (f:Nat) (σ:gy) (ke k:Nat):Prop:=∀(b:View) (l:List bE) (a:Option Addr) (c:Nat) (w:World),Le d w->Le b w->Sl (e5 ke k) 6 b a c l->dP l<=109951162777->
 Calls prog 61 #[.pointer (some ⟨f,0,none⟩),.slice a l.length c] w λe w'=>(∃r:SP,e = .returned (.slice r.1 (dL σ l).length r.2)/\Ext w w'/\dQ σ l=0/\Sl (h7 (ke+1) (k+1)) 7 (nv w w') r.1 r.2 (dL σ l))\/(∃_:Unit,e = .panicked (g1 (dQ σ l))/\Ext w w'/\dQ σ l≠0)
variable {a9 gY dl:Type}
def rC {f:a9->gY} {g:dl->gY} {es:List a9} {l:List dl}  {x:dl} {e:a9} (h:es.map f=(l.take ae).map g) (a:l[ae]? = some x) (b:f e=g x):(es++[e]).map f=(l.take (ae+1)).map g:=by
 rw [j2 a]; simp [h,b]
def dD {f:a9->gY} {g:dl->gY} {es:List a9} {l:List dl}  (h:es.map f=(l.take ae).map g) (hi:ae<=l.length):es.length=ae:=by
 have:=congrArg List.length h
 simpa [rJ hi] using this
def dU {f:a9->gY} {g:dl->gY} {es:List a9} {l:List dl}  (h:es.map f=(l.take ae).map g) (hi:ae=l.length):es.map f=l.map g:=by subst hi; simpa using h
def o8:hc prog 49 53 (.agg #[.int .i64 0,.int .i64 0,.int .i64 0,.int .i64 0,.slice none 0 0]) 5 56:=jr aa
def vC:zeroOf prog 51=some (.agg #[.int .i64 0,.int .i64 0,.int .i64 0,.int .i64 0,.slice none 0 0,.slice none 0 0,.slice none 0 0]):=aa
def Gh:hx prog 51=some [(0,1),(1,1),(2,1),(3,1),(4,1),(5,1),(6,1)]:=aa
def zA:dV prog 51=some 7:=aa
def ec:cJ prog 51 2=some 2:=aa
def sB:cJ prog 51 3=some 3:=aa
def zB:cJ prog 51 1=some 1:=aa
def xH:cJ prog 51 4=some 4:=aa
def pc:cJ prog 51 5=some 5:=aa
def vD:dV prog 35=some 1:=aa
def pq:cJ prog 51 6=some 6:=aa
def Cf:ig prog 51=some 7:=aa
def xI:hc prog 35 51 (.agg #[.int .i64 0,.int .i64 0,.int .i64 0,.int .i64 0,.slice none 0 0,.slice none 0 0,.slice none 0 0]) 7 104:=jr aa
def Rb (j b:View) (n:Nat) (σ:gy) (C:pJ j n σ) (k:Nat) (l:List ak) (a:Option Addr) (c:Nat) (w:World) (D:Le j w) (E:Le b w) (o:Sl (gn k) 5 b a c l) (ax:ff l<=109951162777) :
   Calls prog 224 #[.pointer (some ⟨n,0,none⟩),.slice a l.length c] w λe w'=>(∃r:SP,e = .returned (.slice r.1 (be σ l).length r.2)/\Ext w w'/\hM σ l=0/\Sl (k8 (k+1)) 5 (nv w w') r.1 r.2 (be σ l))\/(∃_:Unit,e = .panicked (g1 (hM σ l))/\Ext w w'/\hM σ l≠0):=by
 induction k using Nat.strongRecOn generalizing b l a c w
 rename_i k G;have ay:=o.cap;have az:=o.max;have aA:=DT l;refine enter func224 O 22 O O ?_;refine CE (Vs:=[b,j]) (Ws.init (by simp [E,D])) (ac (ai O (ad (ac (ai O (LW (λ_ h=>h.g3 53 5) ?_))))));refine WL.v0 ?_;refine ad (Cs (ac (ab O (I (Yn fG O) (ab O (ad (Cb ?_)))))));refine e0 (ι:=GX XN) (λg=>[(10,.int .i64 (g.i:Int)),(5,.slice g.a g.es.length g.c)]) [(0,_),(4,_),(8,_),(9,_)] (λg=>Ws w [] [cW 53 5 XN.cells g.a g.c g.es] [g.J,b,j]) (λg=>g.i<=l.length/\g.es.map (·.1)=(l.take g.i).map (jR σ)/\fb (h8 σ) (l.take g.i)=0/\(eD w g.J/\Xs (m2 k) g.J g.es)) (λg=>l.length-g.i) ⟨0,[],none,0,v0⟩ ⟨cx _,O,O,⟨ol w,Xs.nil _⟩⟩ (λ_ h=>by have h:=Ws.cK h (b9:=[v0,b,j]) au; exact h) ?_;intro g ⟨hi,p,q,⟨u,v⟩⟩;refine ac (I (cy O O) (ad (Cs ?_)));refine Cc O (λs=>?_) (λs=>?_)
 ·have H:g.i<l.length:=by simpa using s
  obtain ⟨y,m⟩:=dw H;obtain ⟨aB,aC,K,x⟩:=o.aq g.i y m
  obtain ⟨f,rfl⟩:∃f,k=f+1:=by
    cases k with
    | zero=>exact x.elim
    | succ f=>exact ⟨f,rfl⟩
  obtain ⟨L,M,N,P⟩:=x;have aD:=dD p hi;refine am (Cs (Cb (ac (I (Yo fG O O K Z) (I (eq 1 fY O O O (N)) ?_)))));refine Al Y O jJ λaE=>?_;refine aT 0 Y O O O ng O O O (ad (Cr (ab O (ab O (I (cI 0 O O fY O) ?_)))));refine WL.q0 (ι:=SP) (κ:=Unit) Y O aK O (λr=>.agg (wv (jR σ y) r.1 r.2).toArray) (λF r=>h8 σ y=0/\m2 (f+1) F (jR σ y,r)) (λ_=>g1 (h8 σ y)) (λ_=>h8 σ y≠0) (λw d=>QX j b n σ f y L M w d.V d.V C (λb l a c w Q S T U=>G f Z b l a c w Q S T U) P (by have:=DS m; omega)) ?_ ?_
  ·intro _ z;refine WE.b' (Ep (Ep (WE.b' (Ep ?_))));refine an λw' d=>?_
   have W:hM σ l=h8 σ y:=by rw [A0,uL (h8 σ) m q z]
   rw [W];exact .inr ⟨(),O,d.fr,z⟩
  intro aF t X ⟨aa,ae⟩;refine WL.jc λaf ag ah aj=>?_;refine Lb Y O o8 O O O O λaG=>?_;refine dn 0 (.cells (XN.cells (jR σ y,t)).toArray 53 (0,0)) O (O) ?_;refine LA (((jR σ y,t):XN)) 2 0 Y O o8 O O O O O O Z Z λal ao=>?_;refine ai O (Ln (Eb (Et (Cr (I (Yi O O O Z) (ab O (Ln ?_)))))));exact ct (⟨g.i+1,g.es++[(jR σ y,t)],al,ao,af⟩:GX XN) (by show _-(g.i+1)<_; omega) ⟨(by show g.i+1<=_; omega),rC p m O,by show fb (h8 σ) (l.take (g.i+1))=0; rw [tf (h8 σ) m,q,lA,aa],⟨aj _ X u,Xs.snoc (R:=m2 _) (λhv h=>m2.mv hv h) v ah ag ae⟩⟩ (λ_ h=>Wd 2 h)
 have A:g.i=l.length:=by simp at s; omega
 refine Ce (Ex (Ex (cU (Et (Cs ?_)))));refine WC.mu (rd:=D9) 0 O (λ_ ap=>by cases ap) XN.dk eZ λaH ar av=>?_;refine Cr (ab O (ai O (ad (aZ ?_))));refine R1 O O λw' d=>?_
 have aw:hM σ l=0:=by rw [A0,<-q,A,gv]
 have B:=dU p A;rw [<-uK] at B;rw [<-B];exact .inl ⟨(g.a,g.c),by rw [gD],d.fr,aw,IU av (c8 d au ar) (c8 d au u) v⟩
def M7 (b:View) (d:Nat) (σ:gy) (e:pJ b d σ) (k:Nat):Gb b d σ k:=by
 intro f l a c w g h i j;exact Rb b f d σ e k l a c w g h i j
def M8 (l o:View) (p:Nat) (σ:gy) (ke k:Nat) (x:bE) (a:Option Addr) (c:Nat) (a2:Option Addr) (c2:Nat) (a3:Option Addr) (c3:Nat) (w:World) (P:Le l w) (Q:Le o w) (t:pJ l p σ) (hN:Gb l p σ ke) (G:QY l p σ ke k) (u:Sl (gn ke) 5 o a c x.args) (R:Sl (e5 ke k) 6 o a2 c2 x.body) (S:Sl (e5 ke k) 6 o a3 c3 x.other) (aC:wS x<=109951162777) :
   Calls prog 131 #[.pointer (some ⟨p,0,none⟩),.agg (qT x a c a2 c2 a3 c3).toArray] w λe w'=>(∃r:td,e = .returned (.agg (ie (ik σ x) r).toArray)/\Ext w w'/\gg σ x=0/\jd (ke+1) (k+1) (nv w w') (ik σ x,r))\/(∃_:Unit,e = .panicked (g1 (gg σ x))/\Ext w w'/\gg σ x≠0):=by
 have aD:=DR x;have aF:=u.cap;have aG:=u.max;refine enter func131 O 88 O O ?_;refine CE (Vs:=[o,l]) (Ws.init (by simp [Q,P])) (ac ?_);refine WL.box Y O O λH=>?_;refine Al Y O vC λJ=>?_;refine ad (ac (I (Yf ht O) (I (Yd 1 O O O aa) (I (Yb vC Gh O O) ?_))));refine Al Y O vC λK=>?_;refine aT 0 Y O O O zA O O O (ad (ac ?_));refine Al Y O ha λaH=>?_;refine ad ?_;refine WC.s7 (ι:=Unit) (λ_u=>[(0,.pointer (some ⟨p,0,none⟩)),(3,.pointer (some ⟨H,0,none⟩)),(4,.pointer (some ⟨J,0,none⟩)),(5,.pointer (some ⟨K,0,none⟩))]) (λ_u=>Ws w [] [aE K (.cells #[.int .i64 (ar σ x.op x.mod x.nm x.args.length).op,.int .i64 (ar σ x.op x.mod x.nm x.args.length).n,.int .i64 (ar σ x.op x.mod x.nm x.args.length).m,.int .i64 (ar σ x.op x.mod x.nm x.args.length).pl,.slice none 0 0,.slice none 0 0,.slice none 0 0] 51 (0,0)),aE J (.cells #[.int .i64 0,.int .i64 0,.int .i64 0,.int .i64 0,.slice none 0 0,.slice none 0 0,.slice none 0 0] 51 (0,0)),aE H (.cells (qT x a c a2 c2 a3 c3).toArray 241 (0,0))] [o,l]) (λ_u=>(ar σ x.op x.mod x.nm x.args.length).e=0) ?_ ?_
 ·refine ac (I (Yf ht O) (I (Yd 3 O O O aa) (ad (Cb (ac (I (bx O O) (ai O (ad ?_))))))));refine Cc O (λv=>?_) (λv=>?_)
  ·have q:x.op=1:=by simpa using v
   refine ac (ab O (I (Yf qm O) (I (Yd 3 O O O aa) (I (Yf qn O) (I (Yd 3 O O O aa) ?_)))));refine WL.lz (ι:=Int×bW) (κ:=Unit) Y O aK O (λi=>.tuple #[.int .i64 i.1,.agg i.2.cells.toArray]) (λi=>eo σ x.mod x.nm=some i) (λ_=>g1 5) (λ_=>eo σ x.mod x.nm=none) (λw b=>Gd l p σ w b.V t x.mod x.nm) ?_ ?_
   ·intro _ f;refine Ep (WE.b' (Ep ?_));refine an λw' b=>?_
    have g:gg σ x=5:=by rw [p9,Gf Z f]; rfl
    rw [g];exact .inr ⟨(),O,b.fr,bf⟩
   intro ⟨y,z⟩ L;have A:=Wx (len:=x.args.length) L;have aI:=dv L;refine ab O (I (Yx O O) (I (Yx O O) (I (Yf ec O) (aT 1 Y O O O dr O O O (aT 0 Y O O O iu O O O (ad (ac (I (Yf ec O) ?_))))))));refine I (Yd 1 O O O aa) (I (cy O O) (ab O ?_));apply Lo 3 O O O O Y O O O O O
   ·intro aL;refine Vg (Yf lO O) (Vg (Yd 0 O O O aa) (Vg (bx O O) ?_));exact Gt 3 O O O
   refine WL.lz (ι:=Unit) (κ:=Unit) Y O aK O (λ_=>.tuple #[]) (λ_=>_=true) (λ_=>g1 _) (λ_=>_=false) (λw b=>qv _ _ w) ?_ ?_
   ·intro _ f;refine Ep (WE.b' (Ep ?_));refine an λw' b=>?_
    have B:¬(y = -1\/z.kind=2):=by simp at f; omega
    rw [av B] at A
    have g:gg σ x=7:=by rw [p9,q,A]; rfl
    rw [g];exact .inr ⟨(),O,b.fr,bf⟩
   intro _ T
   have B:y = -1\/z.kind=2:=by
     simp at T;omega
   have j:(ar σ x.op x.mod x.nm x.args.length)=⟨x.op,0,y,z.pl,0⟩:=by rw [q]; rw [A,a8 B]
   refine ad (Cr (I (Yf ir O) (I (Yd 0 O O O aa) (I (Yf sB O) (aT 1 Y O O O dr O O O (Ln (Eb ?_)))))));refine WE.fg 1 (.cells #[.int .i64 (ar σ x.op x.mod x.nm x.args.length).op,.int .i64 (ar σ x.op x.mod x.nm x.args.length).n,.int .i64 (ar σ x.op x.mod x.nm x.args.length).m,.int .i64 (ar σ x.op x.mod x.nm x.args.length).pl,.slice none 0 0,.slice none 0 0,.slice none 0 0] 51 (0,0)) O (by rw [j]; rfl) ?_
   exact jO () (by rw [j]) (λ_ h=>by
     have h:=h.aJ 3 rfl;have h:=h.aJ 3 rfl;have h:=h.aJ 3 rfl;have h:=Wt 3 h
     exact h)
  have U:¬x.op=1:=by simpa using v
  refine ac (I (bx O O) (ai O (ad ?_)));refine Cc O (λC=>?_) (λC=>?_)
  ·have q:x.op=2:=by simpa using C
   refine ac (ab O (I (Yf qm O) (I (Yd 3 O O O aa) (I (Yf qn O) (I (Yd 3 O O O aa) ?_)))));refine WL.lz (ι:=Int×bW) (κ:=Unit) Y O aK O (λi=>.tuple #[.int .i64 i.1,.agg i.2.cells.toArray]) (λi=>eo σ x.mod x.nm=some i/\ib σ x.mod x.nm 3 0=0) (λ_=>g1 (ib σ x.mod x.nm 3 0)) (λ_=>ib σ x.mod x.nm 3 0≠0) (λw b=>oy l p σ w b.V t x.mod x.nm 3 0) ?_ ?_
   ·intro _ f;refine Ep (WE.b' (Ep ?_));refine an λw' b=>?_
    have g:gg σ x=ib σ x.mod x.nm 3 0:=by rw [p9,q,Wy f,c7 f]
    rw [g];exact .inr ⟨(),O,b.fr,f⟩
   intro ⟨W,M⟩ ⟨X,ae⟩
   have j:(ar σ x.op x.mod x.nm x.args.length)=⟨x.op,M.n,W,M.pl,0⟩:=by rw [q]; exact Wz X ae
   refine ab O (I (Yx O O) (I (Yx O O) (I (Yf ec O) (aT 1 Y O O O dr O O O (aT 0 Y O O O iu O O O (ad ?_))))));refine WC.gW 1 [(0,true),(1,true),(2,true),(3,true),(4,true),(5,false),(6,false),(7,false)] mixed aa (λ_ _ _ d _ h=>by cases d<;>exact h) ?_;refine D0 O (Wp 1) (Yf ir O) (D0 O (Wp 1) (Yd 0 O O O aa) (D0 O (Wp 1) (Yf j8 O) (D0 O (Wp 1) (Yd 0 O O O aa) (D0 O (Wp 1) (Yf sB O) ?_))));refine De O (Wp 1) ?_;refine aT 1 Y O O O dr O O O (Ln (Ed ?_));refine De O (Wp 1) ?_;refine I (Yf zB O) (Ln (Ed ?_));refine De O (Wp 1) ?_;refine aT 1 Y O O O dr O O O (Ln (Ed ?_));refine WD.nil (Wp 1) ?_;refine Eb ?_;refine WE.fg 1 (.cells #[.int .i64 (ar σ x.op x.mod x.nm x.args.length).op,.int .i64 (ar σ x.op x.mod x.nm x.args.length).n,.int .i64 (ar σ x.op x.mod x.nm x.args.length).m,.int .i64 (ar σ x.op x.mod x.nm x.args.length).pl,.slice none 0 0,.slice none 0 0,.slice none 0 0] 51 (0,0)) O (by rw [j]; rfl) ?_
   exact jO () (by rw [j]) (λ_ h=>by
     have h:=h.aJ 3 rfl;have h:=h.aJ 3 rfl;have h:=h.aJ 3 rfl;have h:=Wt 3 h
     exact h)
  have af:¬x.op=2:=by simpa using C
  refine ac (I (bx O O) (ai O (ad ?_)));refine Cc O (λD=>?_) (λD=>?_)
  ·have q:x.op=3:=by simpa using D
   refine ac (ab O (I (Yf qm O) (I (Yd 3 O O O aa) (I (Yf qn O) (I (Yd 3 O O O aa) (I (Yf h5 O) (I (Yd 3 O O O aa) ?_)))))));refine I (Yn fG O) ?_;refine WL.lz (ι:=Int×bW) (κ:=Unit) Y O aK O (λi=>.tuple #[.int .i64 i.1,.agg i.2.cells.toArray]) (λi=>eo σ x.mod x.nm=some i/\ib σ x.mod x.nm 4 (x.args.length:Int)=0) (λ_=>g1 (ib σ x.mod x.nm 4 (x.args.length:Int))) (λ_=>ib σ x.mod x.nm 4 (x.args.length:Int)≠0) (λw b=>oy l p σ w b.V t x.mod x.nm 4 (x.args.length:Int)) ?_ ?_
   ·intro _ f;refine Ep (WE.b' (Ep ?_));refine an λw' b=>?_
    have g:gg σ x=ib σ x.mod x.nm 4 (x.args.length:Int):=by rw [p9,q,WA f,c7 f]
    rw [g];exact .inr ⟨(),O,b.fr,f⟩
   intro ⟨ag,ah⟩ ⟨aj,ak⟩
   have j:(ar σ x.op x.mod x.nm x.args.length)=⟨x.op,0,ag,ah.pl,0⟩:=by rw [q]; exact QW aj ak
   refine ab O (I (Yx O O) (I (Yx O O) (I (Yf ec O) (aT 1 Y O O O dr O O O (aT 0 Y O O O iu O O O (ad (Cr (I (Yf ir O) ?_))))))));refine I (Yd 0 O O O aa) (I (Yf sB O) (aT 1 Y O O O dr O O O (Ln (Eb ?_))));refine WE.fg 1 (.cells #[.int .i64 (ar σ x.op x.mod x.nm x.args.length).op,.int .i64 (ar σ x.op x.mod x.nm x.args.length).n,.int .i64 (ar σ x.op x.mod x.nm x.args.length).m,.int .i64 (ar σ x.op x.mod x.nm x.args.length).pl,.slice none 0 0,.slice none 0 0,.slice none 0 0] 51 (0,0)) O (by rw [j]; rfl) ?_
   exact jO () (by rw [j]) (λ_ h=>by
     have h:=h.aJ 3 rfl;have h:=h.aJ 3 rfl;have h:=h.aJ 3 rfl;have h:=Wt 3 h
     exact h)
  have al:¬x.op=3:=by simpa using D
  have j:(ar σ x.op x.mod x.nm x.args.length)=⟨x.op,0,0,0,0⟩:=Ww U af al;refine Ck (Eb ?_);refine WE.fg 1 (.cells #[.int .i64 (ar σ x.op x.mod x.nm x.args.length).op,.int .i64 (ar σ x.op x.mod x.nm x.args.length).n,.int .i64 (ar σ x.op x.mod x.nm x.args.length).m,.int .i64 (ar σ x.op x.mod x.nm x.args.length).pl,.slice none 0 0,.slice none 0 0,.slice none 0 0] 51 (0,0)) O (by rw [j]; rfl) ?_
  exact jO () (by rw [j]) (λ_ h=>by
    have h:=h.aJ 3 rfl;have h:=h.aJ 3 rfl;have h:=h.aJ 3 rfl;have h:=Wt 3 h
    exact h)
 intro _ s;refine ac (ab O (I (Yf h5 O) (I (Yd 2 O O O aa) ?_)));refine WL.q0 (ι:=SP) (κ:=Unit) Y O aK O (λr=>.slice r.1 (be σ x.args).length r.2) (λF r=>hM σ x.args=0/\Sl (k8 (ke+1)) 5 F r.1 r.2 (be σ x.args)) (λ_=>g1 (hM σ x.args)) (λ_=>hM σ x.args≠0) (λw b=>hN o x.args a c w b.V b.V u Z) ?_ ?_
 ·intro _ f;refine Ep ?_;refine an λw' b=>?_
  have g:gg σ x=hM σ x.args:=by rw [p9,s,lA,c7 f]
  rw [g];exact .inr ⟨(),O,b.fr,f⟩
 intro aM am ao ⟨E,ap⟩;refine I (Yf xH O) (aT 0 Y O O O B_ O O O (ad (Cs ?_)));refine WC.gW 0 [(0,true),(1,true),(2,true),(4,true),(5,true),(6,true),(3,false),(8,true),(7,false),(9,false),(10,false),(11,false)] mixed aa (λ_ _ _ d _ h=>by cases d<;>exact h) ?_;refine D0 O (Wp 0) (Ym O) (D0 O (Wp 0) (Yf mL O) (D0 O (Wp 0) (Yd 1 O O O aa) (D0 O (Wp 0) (Ym O) (D0 O (Wp 0) (Yf lN O) (D0 O (Wp 0) (Yd 1 O O O aa) ?_)))));refine De O (Wp 0) ?_;refine WL.q0 (ι:=SP) (κ:=Unit) Y O aK O (λr=>.slice r.1 (dL σ x.body).length r.2) (λF r=>dQ σ x.body=0/\Sl (h7 (ke+1) (k+1)) 7 F r.1 r.2 (dL σ x.body)) (λ_=>g1 (dQ σ x.body)) (λ_=>dQ σ x.body≠0) (λw b=>G o x.body a2 c2 w b.V b.V R Z) ?_ ?_
 ·intro _ f;refine Ep (Ep ?_);refine an λw' b=>?_
  have g:gg σ x=dQ σ x.body:=by rw [p9,s,lA,E,lA,c7 f]
  rw [g];exact .inr ⟨(),O,b.fr,f⟩
 intro aN aq aw ⟨N,ax⟩;refine Ln (Ed (D0 O (λ_ h=>(Wv 1 (Wo 0 h):)) (Yf pc O) ?_));refine De O (λ_ h=>(Wv 1 (Wo 0 h):)) ?_;refine WL.q0 (ι:=SP) (κ:=Unit) Y O aK O (λr=>.slice r.1 (dL σ x.other).length r.2) (λF r=>dQ σ x.other=0/\Sl (h7 (ke+1) (k+1)) 7 F r.1 r.2 (dL σ x.other)) (λ_=>g1 (dQ σ x.other)) (λ_=>dQ σ x.other≠0) (λw b=>G o x.other a3 c3 w b.V b.V S Z) ?_ ?_
 ·intro _ f;refine Ep (Ep ?_);refine an λw' b=>?_
  have g:gg σ x=dQ σ x.other:=by rw [p9,s,lA,E,lA,N,lA]
  rw [g];exact .inr ⟨(),O,b.fr,f⟩
 intro aO ay az ⟨aA,aB⟩;refine Ln (Ed ?_);refine De O (λ_ h=>(Wv 2 (Wo 0 h):)) ?_;refine aT 0 Y O O O vD O O O (Ln (Ed ?_));refine De O (λ_ h=>(Wv 2 (Wo 0 h):)) ?_;refine I (Yf pq O) (Ln (Ed ?_));refine De O (λ_ h=>(Wv 2 (Wo 0 h):)) ?_;refine aT 0 Y O O O vD O O O (Ln (Ed ?_));refine WD.nil (λ_ h=>(Wv 2 (Wo 0 h):)) ?_;refine Et (ac (I (cI 0 O O Cf O) (aT 1 Y O O O zA O O O (ad (aZ ?_)))));refine WE.fm (hW O (ej 1 O O Cf O)) λw' b=>?_;rw [AZ];exact .inl ⟨⟨am,aq,ay⟩,O,b.fr,by rw [p9,s,E,N,aA]; rfl,wx ap (c8 b au ao),p7 ax (c8 b au aw),p7 aB (c8 b au az)⟩
def Cg (f b:View) (n:Nat) (σ:gy) (ke:Nat) (u:pJ f n σ) (k:Nat) (l:List bE) (a:Option Addr) (c:Nat) (w:World) (D:Le f w) (E:Le b w) (o:Sl (e5 ke k) 6 b a c l) (aC:dP l<=109951162777) :
   Calls prog 61 #[.pointer (some ⟨n,0,none⟩),.slice a l.length c] w λe w'=>(∃r:SP,e = .returned (.slice r.1 (dL σ l).length r.2)/\Ext w w'/\dQ σ l=0/\Sl (h7 (ke+1) (k+1)) 7 (nv w w') r.1 r.2 (dL σ l))\/(∃_:Unit,e = .panicked (g1 (dQ σ l))/\Ext w w'/\dQ σ l≠0):=by
 induction k using Nat.strongRecOn generalizing b l a c w
 rename_i k G;have aD:=o.cap;have aE:=o.max;have aF:=AI l;refine enter func61 O 22 O O ?_;refine CE (Vs:=[b,f]) (Ws.init (by simp [E,D])) (ac (ai O (ad (ac (ai O (LW (λ_ h=>h.g3 51 7) ?_))))));refine WL.v0 ?_;refine ad (Cs (ac (ab O (I (Yn h_ O) (ab O (ad (Cb ?_)))))));refine e0 (ι:=GX XA) (λg=>[(10,.int .i64 (g.i:Int)),(5,.slice g.a g.es.length g.c)]) [(0,_),(4,_),(8,_),(9,_)] (λg=>Ws w [] [cW 51 7 XA.cells g.a g.c g.es] [g.J,b,f]) (λg=>g.i<=l.length/\g.es.map (·.1)=(l.take g.i).map (ik σ)/\fb (gg σ) (l.take g.i)=0/\(eD w g.J/\Xs (jd (ke+1) k) g.J g.es)) (λg=>l.length-g.i) ⟨0,[],none,0,v0⟩ ⟨cx _,O,O,⟨ol w,Xs.nil _⟩⟩ (λ_ h=>by have h:=Ws.cK h (b9:=[v0,b,f]) au; exact h) ?_;intro g ⟨hi,p,q,⟨v,x⟩⟩;refine ac (I (cy O O) (ad (Cs ?_)));refine Cc O (λs=>?_) (λs=>?_)
 ·have H:g.i<l.length:=by simpa using s
  obtain ⟨y,m⟩:=dw H;obtain ⟨aG,aH,K,z⟩:=o.aq g.i y m
  obtain ⟨j,rfl⟩:∃j,k=j+1:=by
    cases k with
    | zero=>exact z.elim
    | succ j=>exact ⟨j,rfl⟩
  obtain ⟨L,M,N,P,Q,S,T,U,W,X⟩:=z;have aI:=dD p hi;refine am (Cs (Cb (ac (I (Yo h_ O O K Z) (I (eq 1 iR O O O (T)) ?_)))));refine Al Y O rt λaJ=>?_;refine aT 0 Y O O O pz O O O (ad (Cr (ab O (ab O (I (cI 0 O O iR O) ?_)))));refine WL.q0 (ι:=td) (κ:=Unit) Y O aK O (λr=>.agg (ie (ik σ y) r).toArray) (λF r=>gg σ y=0/\jd (ke+1) (j+1) F (ik σ y,r)) (λ_=>g1 (gg σ y)) (λ_=>gg σ y≠0) (λw d=>M8 f b n σ ke j y L M N P Q S w d.V d.V u (M7 f n σ u ke) (λb l a c w aa ae af ag=>G j Z b l a c w aa ae af ag) U W X (by have:=AH m; omega)) ?_ ?_
  ·intro _ A;refine WE.b' (Ep (Ep (WE.b' (Ep ?_))));refine an λw' d=>?_
   have ah:dQ σ l=gg σ y:=by rw [wB,uL (gg σ) m q A]
   rw [ah];exact .inr ⟨(),O,d.fr,A⟩
  intro aL t aj ⟨ak,al⟩;refine WL.jc λao ap ar av=>?_;refine Lb Y O xI O O O O λaM=>?_;refine dn 0 (.cells (XA.cells (ik σ y,t)).toArray 51 (0,0)) O (O) ?_;refine LA (((ik σ y,t):XA)) 2 0 Y O xI O O O O O O Z Z λaw ax=>?_;refine ai O (Ln (Eb (Et (Cr (I (Yi O O O Z) (ab O (Ln ?_)))))));exact ct (⟨g.i+1,g.es++[(ik σ y,t)],aw,ax,ao⟩:GX XA) (by show _-(g.i+1)<_; omega) ⟨(by show g.i+1<=_; omega),rC p m O,by show fb (gg σ) (l.take (g.i+1))=0; rw [tf (gg σ) m,q,lA,ak],⟨av _ aj v,Xs.snoc (R:=jd _ _) (λhv h=>jd.mv hv h) x ar ap al⟩⟩ (λ_ h=>Wd 2 h)
 have B:g.i=l.length:=by simp at s; omega
 refine Ce (Ex (Ex (cU (Et (Cs ?_)))));refine WC.mu (rd:=wy) 0 O (λ_ ay=>by cases ay) XA.dk eZ λaN az aA=>?_;refine Cr (ab O (ai O (ad (aZ ?_))));refine R1 O O λw' d=>?_
 have aB:dQ σ l=0:=by rw [wB,<-q,B,gv]
 have C:=dU p B;rw [<-cZ] at C;rw [<-C];exact .inl ⟨(g.a,g.c),by rw [gD],d.fr,aB,D' aA (c8 d au az) (c8 d au v) x⟩
def gd (H:View) (b o:Nat) (e:SP×List Tx):Prop:=vc H b o=some (.slice e.1.1 e.2.length e.1.2)/\Sl rdStr 1 H e.1.1 e.1.2 e.2
def gM (a:List ((Option Addr×Nat)×List Tx)):Nat:=(a.map (·.2.length)).sum
def yJ {a:List ((Option Addr×Nat)×List Tx)}  {x:(Option Addr×Nat)×List Tx} (h:a[ae]? = some x):gM (a.take (ae+1))=gM (a.take ae)+x.2.length:=by
 simp [gM,kV,h]
def yK (a:List ((Option Addr×Nat)×List Tx)) (i:Nat):gM (a.take i)<=gM a:=by
 have e:gM a=gM (a.take i)+gM (a.drop i):=by
   unfold gM;rw [<-xC,<-CQ,pR]
 omega
def yL (a:List ((Option Addr×Nat)×List Tx)):(a.flatMap (·.2)).length=gM a:=by simp [gM,GY]
def Ch:ga prog 244=some 1:=aa
def M9:dV prog 116=some 1:=aa
def n4:hx prog 37=some [(0,1),(1,1),(2,1),(3,1),(4,1)]:=aa
def bo:zeroOf prog 37=some (.agg #[st [],.slice none 0 0,.int .i64 0,.slice none 0 0,.slice none 0 0]):=aa
def WF:cJ prog 116 0=some 0:=aa
def iW:dV prog 37=some 5:=aa
def M' (H:View) (a:Option Addr) (c:Nat) (l:List Tx) (w:World) (i:Le H w) (f:Sl rdStr 1 H a c l) (n:l.length<=1048576) :
   Calls prog 59 #[.slice a l.length c] w λe w'=>∃r:SP,e = .returned (.slice r.1 l.length r.2)/\Ext w w'/\Sl rdStr 1 (nv w w') r.1 r.2 l:=by
 have p:=f.cap;have q:=f.max;refine enter func59 O 8 O O ?_;refine CE (Vs:=[H]) (Ws.init (by simp [i])) (ac (ai O (ad (Cs (ac (ab O (I (qo dT O) (ad ?_))))))));refine Cc O (λg=>?_) (λg=>?_)
 ·have j:l=[]:=by
    cases l with
    | nil=>rfl
    | cons x r=>obtain ⟨b,o,h,_⟩:=f.aq 0 x rfl; rw [h] at g; cases g
  refine ac (ai O (ad (aZ (Er ?_))));refine R1 O O λw' d=>?_;subst j;exact ⟨(none,0),O,d.fr,Sl.nil⟩
 refine am (ac ?_);refine WL.qI Y O ei O O O λs=>?_;refine WL.pY (size:=1) 0 O (eH 0) (cx _) O ?_;refine WL.o3 0 ([]:List Tx).length (([]:List Tx).flatMap eE) O O O ?_;refine ab O ?_;refine WL.o7 (ys:=l) (xs:=[]) 0 (λ_=>H) Y O ei O O O (λw d=>⟨d.vs H au,f⟩) eZ iM sy (by simp; omega) (by simp; omega) λk m=>?_;refine ai O (ad (aZ ?_));refine R1 O O λw' d=>?_;exact ⟨(k,m),O,d.fr,d.ls 0 O iM eZ⟩
def WG (m:Nat) (w:World) (j:m<=1048576) :
   Calls prog 130 #[.slice none 0 0,.int .i64 (m:Int)] w λe w'=>∃r:SP,e = .returned (.slice r.1 ([]:List Tx).length r.2)/\Ws w [] [cW 9 1 eE r.1 r.2 ([]:List Tx)] [] w':=by
 refine enter func130 O 27 O O ?_;refine CE (Vs:=[]) (Ws.init au) (ac (ai O (ad (Cs (ac (ab O (I (cy O O) (ad ?_))))))));refine Cc O (λb=>?_) (λb=>?_)
 ·exfalso
  simp at b;omega
 refine am (Cs (ac (ab O (ab O (I (ny dT O) (ab O (I (Yn dT O) (I (n_ 0 O O au Z) (I (n_ (m:Int) O O au Z) ?_)))))))));refine ai O (ad (ac (ab O (I (ed O O) (ad ?_)))));refine Cc O (λc=>?_) (λc=>?_)
 ·have f:0<m:=by simp at c; omega
  refine Cr (ab O (ab O (I (ny dT O) (I (rW 0 dT O au O O (cx _)) (ab O ?_)))));refine WL.HT m Y O ei kk O O f (by unfold maxLen; omega) Z λg d k l h i=>?_;refine WL.pY (m:=0) (cap:=d) (size:=1) 0 O (cx _) h (by rw [i,zL]) ?_;refine WL.o3 0 ([]:List Tx).length (([]:List Tx).flatMap eE) O O au ?_;refine ab O (I (Yn dT O) (I (rW ([]:List Tx).length dT O au O O (cx _)) (ai O (ad (ac (ab O (ai O (ad (aZ ?_)))))))));refine R1 O O λw' a=>?_;exact ⟨(some ⟨g,0,none⟩,d),O,a⟩
 refine am (ac (ab O (ai O (ad (aZ ?_)))));refine R1 O O λw' a=>?_;exact ⟨(none,0),O,a.g3 9 1⟩
def M_ (H:View) (a:Option Addr) (c:Nat) (d:List (SP×List Tx)) (w:World) (v:Le H w) (j:Sl gd 1 H a c d) (y:gM d<=1048576) (G:d.length<=1048576) :
   Calls prog 60 #[.slice a d.length c] w λe w'=>∃r:SP,e = .returned (.slice r.1 (d.flatMap (·.2)).length r.2)/\Ext w w'/\Sl rdStr 1 (nv w w') r.1 r.2 (d.flatMap (·.2)):=by
 have J:=j.cap;have K:=j.max;refine enter func60 O 36 O O ?_;refine CE (Vs:=[H]) (Ws.init (by simp [v])) (ac (ai O (ad (ac (ai O (ad (Cs (ac (ab O (I (Yn Ch O) ?_))))))))));refine ab O (ad (Cb ?_));refine fT (ι:=Nat) (λi=>[(11,.int .i64 (i:Int)),(3,.int .i64 (gM (d.take i):Int))]) [(0,_),(2,_),(9,_),(10,_)] (λi=>i<=d.length) (λi=>d.length-i) 0 (cx _) ?_;intro i hi;refine ac (I (cy O O) (ad (Cs ?_)));refine Cc O (λl=>?_) (λl=>?_)
 ·have m:i<d.length:=by simpa using l
  obtain ⟨x,f⟩:=dw m;obtain ⟨z,A,n,o,q⟩:=j.aq i x f;have s:=yJ f;have B:=yK d (i+1);refine am (Cs (Cb (ac (I (Yo Ch O O n Z) (I (cC 0 aa O O (o)) (ai O (ad (ac (ab O (ab O (I (Yn dT O) ?_)))))))))));refine I (qK (a:=gM (d.take i)) (b:=x.2.length) O O O O Z) (ai O (ad (ac (ab O (I (cy O O) (ad ?_))))));refine Cc O (λt=>?_) (λt=>?_)
  ·exfalso
   simp at t;omega
  refine Ck (Eb (Et (Cr (I (Yi O O O Z) (ab O (Ln ?_))))));rw [<-s];exact ct (i+1) Z Z ag
 have k:i=d.length:=by simp at l; omega
 subst k;rw [gv];refine Ce (Ex (Ex (cU (Et (ac (ab O ?_))))));refine Lw (ι:=SP) [] _ Y O aK O O (λr=>.slice r.1 ([]:List Tx).length r.2) (λr=>[cW 9 1 eE r.1 r.2 ([]:List Tx)]) (λ_=>True) [] au (λw h=>(WG (gM d) w y).mono λe w' ⟨r,C,D⟩=>⟨r,C,trivial,D⟩) ?_;intro u _;refine ai O (ad (Cs (ac (ab O (I (Yn Ch O) (ab O (ad (Cb ?_))))))));refine e0 (ι:=Nat×Option Addr×Nat) (λg=>[(27,.int .i64 (g.1:Int)),(6,.slice g.2.1 ((d.take g.1).flatMap (·.2)).length g.2.2)]) [(2,_),(25,_),(26,_)] (λg=>Ws w [] [cW 9 1 eE g.2.1 g.2.2 ((d.take g.1).flatMap (·.2))] [H]) (λg=>g.1<=d.length) (λg=>d.length-g.1) (0,u.1,u.2) (cx _) ag ?_;intro g hi;refine ac (I (cy O O) (ad (Cs ?_)));refine Cc O (λp=>?_) (λp=>?_)
 ·have m:g.1<d.length:=by simpa using p
  obtain ⟨x,f⟩:=dw m;obtain ⟨z,A,n,o,q⟩:=j.aq g.1 x f;have s:=yJ f;have B:=yK d (g.1+1);refine am (Cs (Cb (ac (I (Yo Ch O O n Z) (I (cC 0 aa O O (o)) (ai O (ad (Cr (ab O (ab O ?_))))))))));refine WL.o7 (xs:=(d.take g.1).flatMap (·.2)) (ys:=x.2) 0 (λ_=>H) Y O ei O O O (λw h=>⟨h.vs H au,q⟩) eZ iM sy (by rw [yL]; omega) (by rw [yL]; omega) λE F=>?_;rw [show ((d.take g.1).flatMap (·.2))++x.2=(d.take (g.1+1)).flatMap (·.2) by rw [kV,f]; simp];refine ai O (Ln (Eb (Et (Cr (I (Yi O O O Z) (ab O (Ln ?_)))))));exact ct ((g.1+1,E,F):Nat×Option Addr×Nat) (by first | omega | (dsimp only; omega)) (by first | omega | (dsimp only; omega)) ag
 have k:g.1=d.length:=by simp at p; omega
 refine Ce (Ex (Ex (cU (Et (ac (ab O (ai O (ad (aZ ?_)))))))));refine R1 O O λw' h=>?_;rw [k,gv] at h;rw [k,gv];exact ⟨(g.2.1,g.2.2),O,h.fr,h.ls 0 O iM eZ⟩
def Na (a b:Nat) (c:List Value) (h:c.length=5) (d i:Int) (w:World) (f:Ws w (List.flatMap ah.ids [aE a (.cells c.toArray 37 (0,0)),aE b (.cells #[.int .i64 d] 30 (0,0))]) [aE a (.cells c.toArray 37 (0,0)),aE b (.cells #[.int .i64 d] 30 (0,0))] [] w) :
   CallsD prog 55 #[.pointer (some ⟨a,0,none⟩),.pointer (some ⟨b,0,none⟩)] (.returning) w λe g w'=>g = .returning/\(e = .returned (.tuple #[])/\Ws w (List.flatMap ah.ids [aE a (.cells c.toArray 37 (0,0)),aE b (.cells #[.int .i64 d] 30 (0,0))]) [aE a (.cells c.toArray 37 (0,0)),aE b (.cells #[.int .i64 d] 30 (0,0))] [] w'):=by
 refine yk func55 O 18 O O O O O (λ_=>rfl) (.inl ⟨O,O,O⟩) ?_;refine LW (W':=Ws w (List.flatMap ah.ids [aE a (.cells c.toArray 37 (0,0)),aE b (.cells #[.int .i64 d] 30 (0,0))]) [aE a (.cells c.toArray 37 (0,0)),aE b (.cells #[.int .i64 d] 30 (0,0))] []) (λ_ e=>by subst e; exact f) (ai O (ad (ac (ab O (I (Qj underlying116 B9 O) (ab O (I (Yx O O) (I (Yx O O) ?_))))))));refine Al Y O B9 λj=>?_;refine aT 0 Y O O O M9 O O O (ai O (ad (ac (ab O (ad ?_)))));refine WC.mf O ?_;refine ac (ab O (I (HD um O) (ad ?_)));refine WC.mf O ?_;refine Ck ?_;refine E0 O λw' f=>?_;exact ⟨O,Wd 1 f⟩
def hg (a b:Nat) (c:List Value) (j:c.length=5) (f g:Int) (w:World) (i:Ws w (List.flatMap ah.ids [aE a (.cells c.toArray 37 (0,0)),aE b (.cells #[.int .i64 f] 30 (0,0))]) [aE a (.cells c.toArray 37 (0,0)),aE b (.cells #[.int .i64 f] 30 (0,0))] [] w) :
   CallsD prog 55 #[.pointer (some ⟨a,0,none⟩),.pointer (some ⟨b,0,none⟩)] (.panicking (g1 g)) w λe k w'=>k = .panicking [⟨.iface 116 (.agg #[.int .i64 g]),true,false⟩]/\(e = .returned (.tuple #[])/\Ws w (List.flatMap ah.ids [aE a (.cells c.toArray 37 (0,0)),aE b (.cells #[.int .i64 f] 30 (0,0))]) [aE a (.cells (eV bm ge).toArray 37 (0,0)),aE b (.cells #[.int .i64 g] 30 (0,0))] [] w'):=by
 refine yk func55 O 18 O O O O O (λ_=>rfl) (.inr ⟨_,O,O,O⟩) ?_;refine LW (W':=Ws w (List.flatMap ah.ids [aE a (.cells c.toArray 37 (0,0)),aE b (.cells #[.int .i64 f] 30 (0,0))]) [aE a (.cells c.toArray 37 (0,0)),aE b (.cells #[.int .i64 f] 30 (0,0))] []) (λ_ e=>by subst e; exact i) (ai O (ad (ac (ab O (I (Qi underlying116 O) (ab O (I (Yx O O) (I (Yx O O) ?_))))))));refine Al Y O B9 λl=>?_;refine aT 0 Y O O O M9 O O O (ai O (ad (ac (ab O (ad ?_)))));refine WC.C6 O ?_;refine WC.ut (λ_=>true) [1,1] [(0,true),(1,true),(2,true),(3,false),(4,false)] mixed aa aa (λ_ _ _ d _ _ h=>by cases d<;>exact h) ?_;refine D0 O (dK [1,1]) (Yb bo n4 O O) (D0 O (dK [1,1]) (Yf WF O) (D0 O (dK [1,1]) (Yd 0 O O O aa) ?_));refine De O (dK [1,1]) ?_;refine WL.qH 1 (.cells (eV bm ge).toArray 37 (0,0)) Y O O O iW O O (by simp [mU,j]) (by simp [jq,dO,eV,bm,ge,j,C3]) ?_;refine Ln (Ed ?_);refine De O (dK [1,1]) ?_;refine aT 2 Y O O O l4 O O O (Ln (Ed ?_));refine WD.nil (dK [1,1]) ?_;refine E0 O λw' i=>?_;exact ⟨O,Wd 1 i⟩
def sC (f:List UInt8×List bW) (r:SP):List Value:=[st f.1,.slice r.1 f.2.length r.2]
def oV (H:View) (b o:Nat) (f:List UInt8×List bW):Prop:=∃r:SP,cw H b o (sC f r)/\Sl hK 4 H r.1 r.2 f.2
abbrev XM:=List bW×Nat
def XM.cells (e:XM):List Value:=[.map (some e.2)]
def XM.dk (e:XM):(XM.cells e).length=1:=rfl
def Nb (H:View) (b o:Nat) (e:XM):Prop:=cw H b o (XM.cells e)
def sD (J:View) (e:XM):Prop:=J e.2=some (dy st (i2 e.1 0) e.1.length)
variable {bc b_:View}
def sD.mv {e:XM} (hv:bK bc b_) (h:sD bc e):sD b_ e:=hv _ _ h
def lQ (u:List UInt8) (f:List UInt8×List bW):Bool:=(h6 f.1 f.2==0)&&(f.1==u)
def vE:∀{us:List (List UInt8)} {fs:List (List UInt8×List bW)},m3 us fs=true↔∀(k:Nat) u f,us[k]? = some u->fs[k]? = some f->lQ u f=true
 | [],fs=>by simp [m3]
 | u::us,[]=>by simp [m3]
 | u::us,f::fs=>by
   have e:=vE (us:=us) (fs:=fs);simp only [m3,ew]
   constructor
   · rintro ⟨g,i⟩ k c d a b
     cases k with
     | zero=>simp at a b; subst a; subst b; simp only [lQ,ew]; exact g
     | succ k=>exact e.1 i k c d (by simpa using a) (by simpa using b)
   · intro h
     refine ⟨by have:=h 0 u f O O; simp only [lQ,ew] at this; exact this,e.2 λk c d a b=>h (k+1) c d (by simpa using a) (by simpa using b)⟩
variable {aO:List bW}
def Nc (h:h6 aS aO=0):(aO.map (·.name)).Nodup/\aO.length<=16:=by
 unfold h6 at h
 split at h
 · cases h
 · split at h
   · rename_i b a
     simp only [ew,zX,mQ] at a;exact ⟨ly.2 a.2.1,Z⟩
   · cases h
variable {bp:cm} {jk:List (List UInt8×List bW)}
def uv (h:¬(en bp).2=0):dp bp jk=(bm,(en bp).2):=by rw [dp,a8 h]
def Gj (h:(en bp).2=0) (a:¬jk.length=bp.aP.length):dp bp jk=(bm,8):=by rw [dp,av (by simp [h]),a8 a]
def uG (h:(en bp).2=0) (a:jk.length=bp.aP.length) (b:m3 bp.aP jk=false):dp bp jk=(bm,1):=by rw [dp,av (by simp [h]),av (by simp [a]),a8 b]
def vF (h:(en bp).2=0) (a:jk.length=bp.aP.length) (b:m3 bp.aP jk=true) (c:iD bp jk≠0):dp bp jk=(bm,iD bp jk):=by rw [dp,av (by simp [h]),av (by simp [a]),av (by simp [b]),a8 c]
def Gl (h:(en bp).2=0) (a:jk.length=bp.aP.length) (b:m3 bp.aP jk=true) (c:iD bp jk=0):dp bp jk=(ee bp jk,0):=by rw [dp,av (by simp [h]),av (by simp [a]),av (by simp [b]),av (by simp [c])]
def Gm (h:(en bp).2=0):iA bp=0/\e1 ((dG bp).map (·.name))=false/\e1 bp.aP=false:=by
 by_cases a:iA bp=0
 · by_cases b:(e1 ((dG bp).map (·.name))||e1 bp.aP)=true
   · rw [F6 a b] at h; cases h
   · rw [Bool.not_eq_true,mQ] at b
     exact ⟨a,b⟩
 · rw [F5 a] at h; exact absurd h a
variable {dE:List (List UInt8)}
def Ci (a:dE[ae]? = some aS) (c:aS ∉ dE.take ae):dy st (gw aS (.int .i64 ((ae+1:Nat):Int)) (gJ (dE.take ae) 0) ae) (lY aS (gJ (dE.take ae) 0) ae)=dy st (gJ (dE.take (ae+1)) 0) (ae+1):=by
 have d:=(cS.1 a).1
 have b:(dE.take ae).length=ae:=by simp; omega
 have h:=I5 c;rw [b] at h;rw [h.1,h.2,j2 a];simp [b]
def Nd (h:dE.Nodup)   (b:dE[ae]? = some aS):aS ∉ dE.take ae:=by
 intro c;obtain ⟨j,a⟩:=ln c
 have d:j<ae:=by have:=(cS.1 a).1; simp at this; omega
 rw [i6,a8 d] at a;have e:=(cS.1 a).1;have:=(uc e h).1 (a.trans b.symm);omega
def Nf (h:(lP aS dE==0)=true):aS ∉ dE:=by
 have:¬0<lP aS dE:=by simp at h; omega
 exact ij.1 (F_ this)
def Ng (b:dE[ae]? = some aS) (h:(lP aS (dE.take ae)==0)=false):e1 dE=true:=by
 have a:¬lP aS (dE.take ae)=0:=by simpa using h
 have e:0<lP aS (dE.take ae):=by
   unfold lP at a ⊢
   cases hi:idxOf aS (dE.take ae) 0 with
   | none=>rw [hi] at a; exact absurd rfl a
   | some j=>simp only; omega
 obtain ⟨j,f,_,g⟩:=F' e;have c:=(tg f).2
 have d:j<ae:=by simp at g; omega
 rw [pQ,i6,a8 d] at c;exact D3.2 ⟨ae,j,(cS.1 b).1,d,by rw [b,c]⟩
def Nh (d:dE[ae]? = some aS) (f:aS ∉ dE.take ae) (h:(dE.take ae).Nodup):(dE.take (ae+1)).Nodup:=by
 rw [j2 d,mb];exact ⟨h,au,λa g b c=>by rw [fH] at c; subst c; intro e; subst e; exact f g⟩
variable {g8:eI}
def Cj (h:e1 (g8.params++g8.aH)=true):bj bp jk g8=6:=by rw [bj,a8 h]; rfl
def xJ (h:e1 (g8.params++g8.aH)=false):bj bp jk g8=dQ (aQ bp jk (g8.params++g8.aH)) g8.body:=by rw [bj,av (by simp [h])]; rfl
structure GP where
 i:Nat
 es:List XP
 a:Option Addr
 c:Nat
 J:View
 lb:Value
def nj (m:cm) (c:SP) (n:Nat) (p:SP):List Value:=[st m.nm,.slice c.1 m.aP.length c.2,.int .i64 (kF m),.slice p.1 n p.2,.slice none 0 0]
def jl:ig prog 37=some 5:=aa
def oW:ga prog 28=some 2:=aa
def Ni:hx prog 127=some [(0,1),(1,1),(2,1),(3,1)]:=aa
def Nj:zeroOf prog 127=some (.agg #[.map none,.map none,.slice none 0 0,.map none]):=aa
def px:hc prog 125 122 (.map none) 1 8:=jr aa
def Nk:dV prog 125=some 1:=aa
def Cm:dV prog 124=some 1:=aa
def Nl:hc prog 244 22 (.slice none 0 0) 1 24:=jr aa
def l_:cJ prog 37 3=some 3:=aa
def Gn:hx prog 107=some [(0,1),(1,1),(2,1)]:=aa
def Gp:zeroOf prog 107=some (.agg #[.int .i64 0,.int .i64 0,.slice none 0 0]):=aa
def xK:hc prog 34 107 (.agg #[.int .i64 0,.int .i64 0,.slice none 0 0]) 3 40:=jr aa
def Gq:dV prog 34=some 1:=aa
def oX:cJ prog 37 4=some 4:=aa
def vG (H HF:View) (ke ks:Nat) (r:iB) (m:cm) (fa:Option Addr) (fc:Nat) (fs:List (List UInt8×List bW)) (w:World) (bt:Le H w) (bu:Le HF w) (v:jb ke ks H r m) (ao:Sl oV 2 HF fa fc fs) (bv:wM m<=109951162777) :
   Calls prog 13 #[.agg (fi m r).toArray,.slice fa fs.length fc] w λe w'=>∃r:kf,e = .returned (.tuple #[.agg (eV (dp m fs).1 r).toArray,.int .i64 (dp m fs).2])/\Ext w w'/\kG (ke+1) (ks+1) (nv w w') r (dp m fs).1:=by
 have cL:=ao.cap;have cM:=ao.max;refine Aj func13 O 159 O O ?_;refine CE (Vs:=[HF,H]) (Ws.init (by simp [bu,bt])) (ac ?_);refine WL.box Y O O λap=>?_;refine Al Y O bo λn=>?_;refine dn 0 (.cells (eV bm ge).toArray 37 (0,0)) O O ?_;refine Al Y O yU λt=>?_;refine dn 0 (.cells #[.int .i64 0] 30 (0,0)) O O (ad (Cs (ac (I (cI 2 O O bh O) ?_))));refine Ld Y O aK O (λr:SP=>.tuple #[.agg #[st (en m).1.1,.slice r.1 (en m).1.2.length r.2],.int .i64 (en m).2]) (λH r=>Sl hK 4 H r.1 r.2 (en m).1.2) (λw d=>zv H ke ks r m w (d.vs _ (by simp)) v bv) ?_;intro cN cO cP cQ;refine ab O (I (Yx O O) (I (Yx O O) ?_));refine Al Y O kU λcR=>?_;refine aT 0 Y O O O bU O O O (ai O (ad (ac (ab O (I (fh O O) (ad ?_))))));refine Cc O (λar=>?_) (λar=>?_)
 ·have z:¬(en m).2=0:=by simpa using ar
  refine ac (I (Yb bo n4 O O) (ab O (aT 2 Y O O O iW O O O (aT 1 Y O O O l4 O O O (ad (aZ (Er ?_)))))));refine WE.fC (hX O (ej 2 O O jl O) (hA 1 O O O aa)) λw' d=>?_;rw [uv z];exact ⟨ge,O,d.fr,b3 _⟩
 have z:(en m).2=0:=by simpa using ar
 obtain ⟨bw,au,N⟩:=Gm z;have P:=zu bw;have au:=ly.2 au;have N:=ly.2 N;have fy:=P.fy;have cT:=v.aP.max;have cV:=v.aP.cap;have cX:=v.procs.max;have cY:=v.procs.cap;have cZ:wM m=1+m.nm.length+wN m.aP+wD m.decls+wP m.procs+dP m.main:=rfl;refine am (Cs (ac (ab O (I (Yn oW O) (I (Yf j4 O) (I (Yd 3 O O O aa) (I (Yn dT O) (I (fh O O) (ad ?_)))))))));refine Cc O (λav=>?_) (λav=>?_)
 ·have bz:¬fs.length=m.aP.length:=by simp at av; omega
  refine ac (I (Yb bo n4 O O) (aT 2 Y O O O iW O O O (aT 1 Y O O O l4 O O O (ad (aZ (Er ?_))))));refine WE.fC (hX O (ej 2 O O jl O) (hA 1 O O O aa)) λw' d=>?_;rw [Gj z bz];exact ⟨ge,O,d.fr,b3 _⟩
 have A:fs.length=m.aP.length:=by simp at av; omega
 refine am (ac (I (v4 O) ?_));refine WL.defer Y O ?_;refine ad (ac (I (cI 3 O O bh O) ?_));refine Ld Y O aK O (λr:SP=>.tuple #[.slice r.1 (dG m).length r.2,.int .i64 (kF m)]) (λH r=>Sl hK 4 H r.1 r.2 (dG m)) (λw d=>F4 H ke ks r m w (d.vs _ (by simp)) v P) ?_;intro bA a7 c0 bB;refine ab O (I (Yx O O) (I (Yx O O) (ai O (ai O (ad (ac (ab O ?_)))))));refine Ld Y O aK O (λb:Nat=>.map (some b)) (λH b=>H b=some (dy st (i2 (dG m) 0) (dG m).length)) (λw d=>B6 bA a7.1 a7.2 (dG m) w (d.vs _ (by simp)) bB au) ?_;intro L Q c2 a8;refine WL.rY st Y O λE=>?_;refine dn 0 (dy st (gJ (m.aP.take 0) 0) 0) O O (I (Yb Nj Ni O O) ?_);refine WL.box Y O O λB=>?_;refine LW (λ_ h=>h.g3 122 1) ?_;refine WL.v0 ?_;refine ai O (ad (Cs (ac (ab O (I (Yn oW O) (ab O (ad (Cb ?_))))))));refine e0 (ι:=GX XM) (λg=>[(46,.int .i64 (g.i:Int))]) [(2,_),(4,_),(5,_),(9,_),(10,_),(44,_),(45,_)] (λg=>Ws w [] [aE B (.cells #[.map (some Q),.map (some E),.slice g.a g.es.length g.c,.map none] 127 (0,0)),aE E (dy st (gJ (m.aP.take g.i) 0) g.i),cW 122 1 XM.cells g.a g.c g.es,aE t (.cells #[.int .i64 0] 30 (0,0)),aE n (.cells (eV bm ge).toArray 37 (0,0)),aE ap (.cells (fi m r).toArray 27 (0,0))] [g.J,L,HF,H]) (λg=>g.i<=fs.length/\g.es.map (·.1)=(fs.take g.i).map (·.2)/\(∀(k:Nat) u f,k<g.i->m.aP[k]? = some u->fs[k]? = some f->lQ u f=true)/\(eD w g.J/\Xs sD g.J g.es)) (λg=>fs.length-g.i) ⟨0,[],none,0,v0⟩ ⟨cx _,O,λk u f S=>absurd S (ue k),⟨ol w,Xs.nil _⟩⟩ (λ_ h=>by have h:=h.aJ 6 O; have h:=h.aJ 6 O; have h:=h.aJ 6 O; have h:=h.aJ 3 O; have h:=h.aJ 5 O; have h:=h.aJ 5 O; have h:=Wt 6 h; have h:=Ws.cK h (b9:=[v0,L,HF,H]) (by simp); exact h) ?_;intro g ⟨hi,aw,a9,⟨bC,ax⟩⟩;refine ac (I (cy O O) (ad (Cs ?_)));refine Cc O (λay=>?_) (λay=>?_)
 ·have T:g.i<fs.length:=by simpa using ay
  obtain ⟨f,Z⟩:∃f,fs[g.i]? = some f:=⟨_,dM T⟩;obtain ⟨c3,c5,bD,ae,bE,a'⟩:=ao.aq g.i f Z;obtain ⟨u,U⟩:∃u,m.aP[g.i]? = some u:=⟨_,dM (by omega)⟩;obtain ⟨bF,bG,bH,az⟩:=v.aP.aq g.i u U;have az:cw H bF (bG+g.i*1) (eE u):=az;have c6:=dD aw hi;refine am (Cs (Cb (ac (ab O (I (Yo oW O O bD (by omega)) (I (eq 2 ll O O O (bE)) ?_))))));refine Al Y O kU λc9=>?_;refine ai O (aT 0 Y O O O bU O O O (ad (Cs ?_)));refine WC.ut (ky [.cell 4 37,.cell 5 30]) [] [(0,true),(1,false),(2,true),(3,true),(4,true),(5,true),(6,true),(7,true),(8,true),(9,true),(10,true),(11,true),(12,true),(13,false)] mixed (by kernel_rfl) (by kernel_rfl) (λ_ _ _ _ _ C h=>ml (fn:=f13) [.cell 4 37,.cell 5 30] O C h) ?_;refine D0 O (λ_ h=>h) (cI 0 O O ll O) ?_;refine De O (λ_ h=>h) ?_;refine Lp Y O aK O (λw d=>B3 HF ae.1 ae.2 f.1 f.2 w (d.vs _ (by simp)) a') (Ln (Ed (D0 O (λ_ h=>h) (bx O O) (D0 O (λ_ h=>h) (Ym O) ?_))));apply WD.and 8 O O O O O Y O (λ_ h=>h) O O O O
  ·intro c';refine Dq O (.g O O O) O (λ_ h=>h) (Yf rz O) (Dq O (.g O O O) O (λ_ h=>h) (Yd 0 O O O aa) (Dq O (.g O O O) O (λ_ h=>h) (Yf j4 O) (Dq O (.g O O O) O (λ_ h=>h) (Yd 6 O O O aa) (Dq O (.g O O O) O (λ_ h=>h) (Ym O) (Dq O (.g O O O) O (λ_ h=>h) (Yo dT O O bH (by omega)) (Dq O (.g O O O) O (λ_ h=>h) (cC 3 aa O O (az 0 _ O)) (Dq O (.g O O O) O (λ_ h=>h) (mT O O) ?_)))))));exact Gi 8 (λ_ h=>h) O O O
  refine De O (λ_ h=>h) ?_;refine WL.lz (ι:=Unit) (κ:=Unit) Y O aK O (λ_=>.tuple #[]) (λ_=>lQ u f=true) (λ_=>g1 1) (λ_=>lQ u f=false) (λw d=>qv _ _ w) ?_ ?_
  ·intro _ D;refine Ep (Ep (WE.b' (Ep (Ep (WE.b' (Ep ?_))))));refine WE.front 4 O ?_;refine WE.front 5 O ?_;refine WE.cA aK (lW [_,_] _ [aE n (.cells (eV bm ge).toArray 37 (0,0)),aE t (.cells #[.int .i64 1] 30 (0,0))] O (λw d=>hg n t (eV bm ge) O 0 1 w d)) (hX O (ej 0 O O jl O) (hA 1 O O O aa)) λw' d=>?_
   have bI:m3 m.aP fs=false:=by
     rw [vP];intro h;have:=vE.1 h g.i u f U Z;rw [D] at this; cases this
   rw [uG z A bI];exact ⟨ge,O,d.fr,b3 _⟩
  intro _ bJ;refine Ln (Ed ?_);refine WD.nil (λ_ h=>h) ?_;refine Et (Cs ?_);have a_:lQ u f=true:=bJ;have ba:=a_;simp only [lQ,ew,kW] at ba;obtain ⟨bL,aA⟩:=ba;obtain ⟨bM,c_⟩:=Nc bL
  have af:f.1 ∉ m.aP.take g.i:=by rw [aA]; exact Nd N U
  refine WC.ut (ky [.cell 4 37,.cell 5 30]) [2] [(0,true),(1,true),(2,true),(3,true),(4,true),(5,true),(6,true),(7,true),(8,false)] mixed (by kernel_rfl) (by kernel_rfl) (λ_ _ _ _ _ C h=>ml (fn:=f13) [.cell 4 37,.cell 5 30] O C h) ?_;refine D0 O (Wp 2) (Ym O) (D0 O (Wp 2) (bV O) (D0 O (Wp 2) (Yf ur O) (D0 O (Wp 2) (Yd 1 O O O aa) (D0 O (Wp 2) (Yf rz O) (D0 O (Wp 2) (Yd 0 O O O aa) (D0 O (Wp 2) (Ym O) (D0 O (Wp 2) (Yi O O O (by omega)) ?_)))))));refine De O (Wp 2) ?_;refine WL.wg 2 p2 Y qu aa O O O O ?_;refine dn 2 (dy st (gJ (m.aP.take (g.i+1)) 0) (g.i+1)) O (by rw [aA]; exact Ci U (aA▸af)) (Ln (Ed ?_));refine WD.nil (Wp 2) ?_;refine Et ?_;refine CU (ky [.cell 4 37,.cell 5 30]) [3] [10,11,12] (.q false 0 (.q false 1 (.q false 2 (.q false 3 (.q true 4 (.q false 5 (.q true 6 (.e 7 (.e 8 (.e 9 .nil .stop) .stop) .stop)))))))) mixed (by kernel_rfl) (λ_ _ _ _ _ C h=>ml (fn:=f13) [.cell 4 37,.cell 5 30] O C h) ?_;refine U0 O (Wp 3) (Ym O) (U0 O (Wp 3) (Ym O) (U0 O (Wp 3) (bV O) (U0 O (Wp 3) (Yf zy O) (U0 O (Wp 3) (Yd 1 O O O aa) (U0 O (Wp 3) (Yf jK O) (U0 O (Wp 3) (Yd 0 O O O aa) ?_))))));refine Ue O (Wp 3) ?_ WU.stop;refine Ld Y O aK O (λb:Nat=>.map (some b)) (λH b=>H b=some (dy st (i2 f.2 0) f.2.length)) (λw d=>B6 HF ae.1 ae.2 f.2 w (d.vs _ (by simp)) a' bM) ?_;intro da aB bN bO;refine Ln (Eu ?_);refine Ue O (λ_ h=>(Wv 1 (Wo 3 h):)) ?_ WU.stop;refine Lb Y O px O O O O λdb=>?_;refine dn 0 (.cells (XM.cells (f.2,aB)).toArray 122 (0,0)) O (O) (Ln (Eu ?_));refine Ue O (λ_ h=>(Wv 1 (Wo 3 (Wd 1 h)):)) ?_ WU.stop;refine LA ((f.2,aB):XM) 4 0 Y O px O O O O O O (by omega) (by omega) λbP bQ=>?_;refine Ln (Eu ?_);refine WU.nil (λ_ h=>(Wv 1 (Wo 3 (Wd 1 h)):)) ?_;refine WS.e O ?_;refine I (bV O) (Ln (Es ?_));refine WS.e O ?_;refine I (Yf zy O) (Ln (Es ?_));refine WS.e O ?_;refine aT 2 Y O O O Nk O O O (Ln (Es ?_));refine WS.nil ?_;refine Eb (Et ?_);refine WC.jc λbR bS bX bY=>?_;refine Cr (I (Yi O O O (by omega)) (ab O (Ln ?_)))
  exact ct (⟨g.i+1,g.es++[(f.2,aB)],bP,bQ,bR⟩:GX XM) (by show _-(g.i+1)<_; omega) ⟨(by show g.i+1<=_; omega),rC aw Z O,λk bZ b0 S V W=>by
      rcases gT.1 S with h | rfl
      · exact a9 k bZ b0 h V W
      · rw [U] at V; rw [Z] at W; injection V with V; injection W with W; subst V; subst W; exact a_,⟨bY _ bN bC,Xs.snoc (R:=sD) (λhv h=>sD.mv hv h) ax bX bS bO⟩⟩ (λ_ h=>Wd 2 h)
 have aC:g.i=fs.length:=by simp at ay; omega
 have ag:m3 m.aP fs=true:=vE.2 λk u f b1 bb=>a9 k u f (by have:=(cS.1 bb).1; omega) b1 bb;have ah:=dU aw aC
 have b2:m.aP.take g.i=m.aP:=by rw [aC,A,gv]
 have b4:g.i=m.aP.length:=by rw [aC,A]
 rw [b2,b4];refine Ce (Ex (Ex (cU (Et (Cs ?_)))));refine WC.r0 (rd:=Nb) 2 O XM.dk (λ_ _ _ _ h=>h) λX bc=>?_;refine WC.ut (ky [.cell 4 37,.cell 5 30]) [3] [(0,true),(1,true),(2,true),(3,true),(5,true),(4,false),(6,true),(7,false)] mixed (by kernel_rfl) (by kernel_rfl) (λ_ _ _ _ _ C h=>ml (fn:=f13) [.cell 4 37,.cell 5 30] O C h) ?_;refine D0 O (Wp 3) (Yf g7 O) (D0 O (Wp 3) (Yd 3 O O O aa) (D0 O (Wp 3) (Yf j4 O) (D0 O (Wp 3) (Yd 3 O O O aa) (D0 O (Wp 3) (Ym O) ?_))));refine De O (Wp 3) ?_;refine Ld Y O aK O (λr:SP=>.slice r.1 m.aP.length r.2) (λF r=>Sl rdStr 1 F r.1 r.2 m.aP) (λw d=>M' H r.a1 r.c1 m.aP w (d.vs _ (by simp)) v.aP (by omega)) ?_;intro aD y b6 b7;refine Ln (Ed (D0 O (λ_ h=>(Wv 1 (Wo 3 h):)) (Yb bo n4 O O) ?_));refine De O (λ_ h=>(Wv 1 (Wo 3 h):)) ?_;refine aT 3 Y O O O iW O O O (Ln (Ed ?_));refine WD.nil (λ_ h=>(Wv 1 (Wo 3 h):)) ?_;refine Et (Cs (Cs (p4 3 (.cells (nj m y ([]:List XP).length (none,0)).toArray 37 (0,0)) O O ?_)));refine n8 (λ_ h=>h.g3 107 3) ?_;refine n8 (λ_ h=>h.v0) ?_;refine Cr (I (Yf lh O) (I (Yd 5 O O O aa) (I (Yn j5 O) (ab O (ad (Cb ?_))))));refine e0 (ι:=GP) (λl=>[(96,.int .i64 (l.i:Int))]) [(2,_),(4,_),(5,_),(10,_),(94,_),(95,_)] (λl=>Ws w [] [aE B (.cells #[.map (some Q),.map (some E),.slice g.a g.es.length g.c,l.lb] 127 (0,0)),aE E (dy st (gJ m.aP 0) m.aP.length),cW 107 3 XP.cells l.a l.c l.es,aE t (.cells #[.int .i64 0] 30 (0,0)),aE n (.cells (nj m y l.es.length (l.a,l.c)).toArray 37 (0,0)),aE ap (.cells (fi m r).toArray 27 (0,0))] [l.J,aD,X,g.J,L,HF,H]) (λl=>l.i<=m.procs.length/\l.es.map (·.1)=(m.procs.take l.i).map (k9 m fs)/\fb (bj m fs) (m.procs.take l.i)=0/\(eD w l.J/\Xs (nA (ke+1) (ks+1)) l.J l.es)) (λl=>m.procs.length-l.i) ⟨0,[],none,0,v0,.map none⟩ ⟨cx _,O,O,⟨ol w,Xs.nil _⟩⟩ (λ_ h=>by have h:=h.aJ 5 O; have h:=h.aJ 5 O; have h:=h.aJ 5 O; have h:=h.aJ 3 O; have h:=h.aJ 5 O; have h:=h.aJ 5 O; have h:=Ws.cK h (b9:=[v0,aD,X,g.J,L,HF,H]) (by simp); exact h) ?_;intro l ⟨b_,aF,aj,⟨bd,be⟩⟩;refine ac (I (cy O O) (ad (Cs ?_)));refine Cc O (λaG=>?_) (λaG=>?_)
 ·have T:l.i<m.procs.length:=by simpa using aG
  obtain ⟨p,M⟩:∃q,m.procs[l.i]? = some q:=⟨_,dM T⟩;obtain ⟨dc,dd,ca,cb⟩:=v.procs.aq l.i p M;obtain ⟨aI,aL,aM,aN,bf,bg,cc,aO,aR,cd⟩:=cb;have op:=sm (P.procs p (gu M));have de:=op.fy;have df:=y_ M;have dg:=aO.max;have dh:=aO.cap;have di:=aR.max;have dj:=aR.cap;have dl:=dD aF b_;refine am (Cs (Cb (ac (I (Yo j5 O O ca (by omega)) (I (eq 6 ru O O O (cc)) ?_)))));refine Al Y O pB λce=>?_;refine aT 0 Y O O O dq O O O (ad (ac (ab O ?_)));refine WL.rY st Y O λak=>?_;refine dn 0 (dy st (gJ ((p.params++p.aH).take 0) 0) 0) O O (I (bV O) (I (Yf sA O) (aT 2 Y O O O Cm O O O (ad (Cs (ac (I (Yf kT O) (I (Yd 1 O O O aa) (I (Yf nX O) ?_)))))))));refine I (Yd 1 O O O aa) ?_;refine Lb Y O Nl O O O O λaS=>?_
  refine Ld Y O aK O (λr:SP=>.slice r.1 (p.params++p.aH).length r.2) (λF r=>Sl rdStr 1 F r.1 r.2 (p.params++p.aH)) (λw d=>by
      have cf:Sl gd 1 (hv w) (some ⟨aS,0,none⟩) 2 [((aI,aL),p.params),((aM,aN),p.aH)]:=⟨by simp,by decide,by simp,λj x G=>⟨aS,0,rfl,by
        match j,G with
        | 0,G=>simp only [me,eY] at G; subst G; exact ⟨d.dZ 0 rfl rfl,aO.imp λb o x aU=>s' (i9 (d.vs H (by simp))) b o x aU⟩
        | 1,G=>simp only [mR,me,eY] at G; subst G; exact ⟨d.dZ 0 rfl rfl,aR.imp λb o x aU=>s' (i9 (d.vs H (by simp))) b o x aU⟩⟩⟩
      have bk:=M_ (hv w) (some ⟨aS,0,none⟩) 2 _ w (gV w) cf (by simp [gM]; omega) (by simp);rw [show [((aI,aL),p.params),((aM,aN),p.aH)].flatMap (·.2)=p.params++p.aH by simp] at bk
      exact bk) ?_
  intro bl dm cg aV;refine I (Yn dT O) (ab O (ad (Cb ?_)));refine e0 (ι:=Nat) (λj=>[(111,.int .i64 (j:Int))]) [(2,_),(4,_),(5,_),(10,_),(14,_),(94,_),(95,_),(96,_),(109,_),(110,_)] (λj=>Ws w [] [aE B (.cells #[.map (some Q),.map (some E),.slice g.a g.es.length g.c,.map (some ak)] 127 (0,0)),aE ak (dy st (gJ ((p.params++p.aH).take j) 0) j),aE ce (.cells (wi p aI aL aM aN bf bg).toArray 113 (0,0)),aE E (dy st (gJ m.aP 0) m.aP.length),cW 107 3 XP.cells l.a l.c l.es,aE t (.cells #[.int .i64 0] 30 (0,0)),aE n (.cells (nj m y l.es.length (l.a,l.c)).toArray 37 (0,0)),aE ap (.cells (fi m r).toArray 27 (0,0))] [bl,l.J,aD,X,g.J,L,HF,H]) (λj=>j<=(p.params++p.aH).length/\((p.params++p.aH).take j).Nodup) (λj=>(p.params++p.aH).length-j) 0 ⟨cx _,qc⟩ (λ_ h=>by exact (Wt 8 ((((((((h.f 8 O).f 8 O).f 8 O).f 8 O).f 8 O).f 7 O).f 7 O).f 8 O):)) ?_;intro j ⟨G,aW⟩;refine ac (I (cy O O) (ad (Cs ?_)));refine Cc O (λaX=>?_) (λaX=>?_)
  ·have T:j<(p.params++p.aH).length:=by simp only [sP] at aX; omega
   obtain ⟨s,al⟩:∃q,(p.params++p.aH)[j]? = some q:=⟨_,dM T⟩;obtain ⟨ch,pos,ci,aY⟩:=aV.aq j s al;have aY:cw bl ch (pos+j*1) (eE s):=aY;have dr:=aV.cap;have ds:=aV.max;refine am (Cs (Cb (ac (ab O (I (Yo dT O O ci (by omega)) (I (cC 0 aa O O (aY 0 _ O)) (ai O (ai O (ad (ac (ab O ?_)))))))))));refine I (bV O) (I (Yf sA O) (I (Yd 0 O O O aa) (ab O (I (HX 1 p2 qu aa u1 O O O) ?_))));rw [B8];refine I (bx O O) ?_;refine WL.lz (ι:=Unit) (κ:=Unit) Y O aK O (λ_=>.tuple #[]) (λ_=>(lP s ((p.params++p.aH).take j)==0)=true) (λ_=>g1 6) (λ_=>(lP s ((p.params++p.aH).take j)==0)=false) (λw d=>qv _ _ w) ?_ ?_
   ·intro _ D;refine Ep (WE.b' (Ep (Ep (WE.b' (Ep (WE.b' (Ep ?_)))))));refine Ep (WE.b' (Ep ?_));refine WE.front 5 O ?_;refine WE.front 6 O ?_;refine WE.cA aK (lW [_,_] _ [aE n (.cells (eV bm ge).toArray 37 (0,0)),aE t (.cells #[.int .i64 6] 30 (0,0))] O (λw d=>hg n t (nj m y l.es.length (l.a,l.c)) O 0 6 w d)) (hX O (ej 0 O O jl O) (hA 1 O O O aa)) λw' d=>?_;have bn:=Ng al D
    have K:iD m fs=6:=by rw [iD,uL (bj m fs) M aj (by rw [Cj bn]; decide),Cj bn]; rfl
    rw [vF z A ag (by rw [K]; decide),K];exact ⟨ge,O,d.fr,b3 _⟩
   intro _ cj;have af:=Nf cj;refine ad (Cr (ab O (I (bV O) (I (Yf sA O) (I (Yd 0 O O O aa) (ab O (ab O (I (Yi O O O (by omega)) ?_))))))));refine WL.wg 1 p2 Y qu aa O O O O ?_;refine dn 1 (dy st (gJ ((p.params++p.aH).take (j+1)) 0) (j+1)) O (Ci al af) (Ln (Eb (Et (Cr (I (Yi O O O (by omega)) (ab O (Ln ?_)))))));exact ct (j+1) (by omega) ⟨by omega,Nh al af aW⟩ (λ_ h=>h)
  have bp:j=(p.params++p.aH).length:=by simp only [ez] at aX; omega
  have a0:e1 (p.params++p.aH)=false:=ly.1 (by rw [bp,gv] at aW; exact aW);rw [bp,gv];refine Ce (Ex (Ex (cU (Et ?_))));refine CU (ky [.cell 4 37,.cell 5 30]) [4] [15,16] (.q false 0 (.q true 1 (.q false 2 (.q true 3 (.q false 4 (.q false 5 (.q true 6 (.q false 7 (.q false 8 (.q false 9 (.q true 10 (.e 11 (.q false 12 (.e 13 (.e 14 .nil .stop) .stop)) .stop)))))))))))) mixed (by kernel_rfl) (λ_ _ _ _ _ C h=>ml (fn:=f13) [.cell 4 37,.cell 5 30] O C h) ?_;refine U0 O (Wp 4) (Yf l_ O) (U0 O (Wp 4) (Yd 5 O O O aa) (U0 O (Wp 4) (Yf kT O) (U0 O (Wp 4) (Yd 2 O O O aa) (U0 O (Wp 4) (Yn dT O) (U0 O (Wp 4) (Yf nX O) (U0 O (Wp 4) (Yd 2 O O O aa) (U0 O (Wp 4) (Yn dT O) ?_)))))));refine U0 O (Wp 4) (Ym O) (U0 O (Wp 4) (Yf vq O) (U0 O (Wp 4) (Yd 2 O O O aa) ?_));refine Ue O (Wp 4) ?_ WU.stop
  refine WL.q0 (ι:=SP) (κ:=Unit) Y O aK O (λr=>.slice r.1 (dL (aQ m fs (p.params++p.aH)) p.body).length r.2) (λF r=>dQ (aQ m fs (p.params++p.aH)) p.body=0/\Sl (h7 (ke+1) (ks+1)) 7 F r.1 r.2 (dL (aQ m fs (p.params++p.aH)) p.body)) (λ_=>g1 (dQ (aQ m fs (p.params++p.aH)) p.body)) (λ_=>dQ (aQ m fs (p.params++p.aH)) p.body≠0) (λw d=>by
      have a2:pJ (hv w) B (aQ m fs (p.params++p.aH)):=⟨⟨Q,E,g.a,g.c,ak,⟨d.dZ 0 rfl rfl,d.dZ 0 rfl rfl,by show vc (hv w) B 2=some (.slice g.a (fs.map (·.2)).length g.c); rw [<-ah,gD]; exact uo (d.nB 0 rfl) rfl,d.dZ 0 rfl rfl⟩,d.vs L (by simp) _ _ a8,d.nB 3 rfl,by show Sl zw 1 (hv w) g.a g.c (fs.map (·.2)); rw [<-ah]; exact uJ bc ax λb o e a3 a5=>⟨e.2,(i9 (d.vs X (by simp))).cell (a3 0 _ rfl),d.vs g.J (by simp) _ _ a5⟩,d.nB 1 rfl⟩,N,by show m.aP.length=(fs.map (·.2)).length; rw [gD,A],⟨P.fy.1,by show (p.params++p.aH).length<=7; rw [bT]; omega⟩⟩
      exact Cg (hv w) H B (aQ m fs (p.params++p.aH)) ke a2 ks p.body bf bg w (gV w) (d.vs H (by simp)) cd (by omega)) ?_ ?_
  ·intro _ D;refine Ep (WE.b' (Ep (Ep (WE.b' (Ep ?_)))));refine WE.front 5 O ?_;refine WE.front 6 O ?_;refine WE.cA aK (lW [_,_] _ [aE n (.cells (eV bm ge).toArray 37 (0,0)),aE t (.cells #[.int .i64 (dQ (aQ m fs (p.params++p.aH)) p.body)] 30 (0,0))] O (λw d=>hg n t (nj m y l.es.length (l.a,l.c)) O 0 (dQ (aQ m fs (p.params++p.aH)) p.body) w d)) (hX O (ej 0 O O jl O) (hA 1 O O O aa)) λw' d=>?_
   have K:iD m fs=dQ (aQ m fs (p.params++p.aH)) p.body:=by rw [iD,uL (bj m fs) M aj (by rw [xJ a0]; exact D),xJ a0,c7 D]
   rw [vF z A ag (by rw [K]; exact D),K];exact ⟨ge,O,d.fr,b3 _⟩
  intro dt a6 ck ⟨cl,cn⟩;refine Ln (Eu (U0 O (λ_ h=>(Wv 1 (Wo 4 h):)) (Yb Gp Gn O O) ?_));refine Ue O (λ_ h=>(Wv 1 (Wo 4 h):)) ?_ WU.stop;refine Lb Y O xK O O O O λdu=>?_;refine dn 0 (.cells (XP.cells (k9 m fs p,a6)).toArray 107 (0,0)) O (O) (Ln (Eu ?_));refine Ue O (λ_ h=>(Wv 1 (Wo 4 (Wd 1 h)):)) ?_ WU.stop;refine LA (((k9 m fs p,a6):XP)) 5 0 Y O xK O O O O O O (by omega) (by omega) λco cp=>?_;refine Ln (Eu ?_);refine WU.nil (λ_ h=>(Wv 1 (Wo 4 (Wd 1 h)):)) ?_;refine WS.e O ?_;refine I (Yf l_ O) (Ln (Es ?_));refine WS.e O ?_;refine aT 7 Y O O O Gq O O O (Ln (Es ?_));refine WS.nil ?_;refine Eb (Et ?_);refine WC.jc λdv cq dw cr=>?_;refine WC.jc λcs cu cv cz=>?_;refine Cr (I (Yi O O O (by omega)) (ab O (Ln ?_)));exact ct (⟨l.i+1,l.es++[(k9 m fs p,a6)],co,cp,cs,.map (some ak)⟩:GP) (by show _-(l.i+1)<_; omega) ⟨(by show l.i+1<=_; omega),rC aF M O,(by show fb (bj m fs) (m.procs.take (l.i+1))=0; rw [tf _ M,aj,lA,xJ a0,cl]),⟨cz _ (cr _ ck cg) bd,Xs.snoc (R:=nA _ _) (λhv h=>nA.mv hv h) be cv (bK.trans cq cu) cn⟩⟩ (λ_ h=>by exact (Wt 6 ((((((h.f 8 O).f 8 O).f 8 O).f 8 O).f 8 O).f 6 O):))
 have bq:l.i=m.procs.length:=by simp at aG; omega
 have cB:=dU aF bq
 have br:fb (bj m fs) m.procs=0:=by rw [<-aj,bq,gv]
 have bs:ee m fs=⟨m.nm,m.aP,kF m,l.es.map (·.1),dL (aQ m fs []) m.main⟩:=by rw [cB]; rfl
 refine Ce (Ex (Ex (cU (Et (ac (ab O ?_))))));refine WL.rY st Y O λcD=>?_;refine I (bV O) (I (Yf sA O) (aT 1 Y O O O Cm O O O (ad (ac (ab O (I (Yf vr O) (I (Yd 6 O O O aa) ?_)))))))
 refine WL.q0 (ι:=SP) (κ:=Unit) Y O aK O (λr=>.slice r.1 (dL (aQ m fs []) m.main).length r.2) (λF r=>dQ (aQ m fs []) m.main=0/\Sl (h7 (ke+1) (ks+1)) 7 F r.1 r.2 (dL (aQ m fs []) m.main)) (λ_=>g1 (dQ (aQ m fs []) m.main)) (λ_=>dQ (aQ m fs []) m.main≠0) (λw d=>by
     have a2:pJ (hv w) B (aQ m fs []):=⟨⟨Q,E,g.a,g.c,cD,⟨d.dZ 1 rfl rfl,d.dZ 1 rfl rfl,by show vc (hv w) B 2=some (.slice g.a (fs.map (·.2)).length g.c); rw [<-ah,gD]; exact uo (d.nB 1 rfl) rfl,d.dZ 1 rfl rfl⟩,d.vs L (by simp) _ _ a8,d.nB 2 rfl,by show Sl zw 1 (hv w) g.a g.c (fs.map (·.2)); rw [<-ah]; exact uJ bc ax λb o e a3 a5=>⟨e.2,(i9 (d.vs X (by simp))).cell (a3 0 _ rfl),d.vs g.J (by simp) _ _ a5⟩,d.nB 0 rfl⟩,N,by show m.aP.length=(fs.map (·.2)).length; rw [gD,A],⟨P.fy.1,by show (0:Nat)<=7; omega⟩⟩
     exact Cg (hv w) H B (aQ m fs []) ke a2 ks m.main r.a4 r.c4 w (gV w) (d.vs H (by simp)) v.main (by omega)) ?_ ?_
 ·intro _ D;refine Ep ?_;refine WE.front 4 O ?_;refine WE.front 5 O ?_;refine WE.cA aK (lW [_,_] _ [aE n (.cells (eV bm ge).toArray 37 (0,0)),aE t (.cells #[.int .i64 (dQ (aQ m fs []) m.main)] 30 (0,0))] O (λw d=>hg n t (nj m y l.es.length (l.a,l.c)) O 0 (dQ (aQ m fs []) m.main) w d)) (hX O (ej 0 O O jl O) (hA 1 O O O aa)) λw' d=>?_
  have K:iD m fs=dQ (aQ m fs []) m.main:=by rw [iD,br,lA]
  rw [vF z A ag (by rw [K]; exact D),K];exact ⟨ge,O,d.fr,b3 _⟩
 intro dx an cE ⟨cF,cG⟩;refine I (Yf oX O) (aT 5 Y O O O vD O O O (ad (Cs ?_)));refine WC.mu (rd:=AU) 3 O (λ_ S=>by cases S) XP.dk (λ_ _ _ _ h=>h) λdz cH cJ=>?_;refine p4 4 (.cells (eV (ee m fs) ⟨y,(l.a,l.c),an⟩).toArray 37 (0,0)) O (by rw [bs]; show Obj.cells _ _ _=Obj.cells (eV _ _).toArray _ _; simp only [eV,gD]; rfl) (Cr (I (cI 4 O O jl O) (aT 4 Y O O O iW O O O (aT 3 Y O O O l4 O O O (ad (aZ ?_))))));refine WE.front 3 O ?_;refine WE.front 4 O ?_;refine WE.Dl aK (lW [_,_] _ [aE n (.cells (eV (ee m fs) ⟨y,(l.a,l.c),an⟩).toArray 37 (0,0)),aE t (.cells #[.int .i64 0] 30 (0,0))] O (λw d=>Na n t (eV (ee m fs) ⟨y,(l.a,l.c),an⟩) O 0 0 w d)) (hX O (ej 0 O O jl O) (hA 1 O O O aa)) λw' d=>?_;rw [Gl z A ag (by rw [iD,br,lA,cF])];exact ⟨⟨y,(l.a,l.c),an⟩,O,d.fr,⟨n0 b7 (c8 d (by simp) b6),by rw [bs]; exact D_ cJ (c8 d (by simp) cH) (c8 d (by simp) bd) be,p7 cG (c8 d (by simp) cE)⟩⟩
structure pK where
 ma:iB
 fa:SP
 oa:SP
 na:SP
def iH (m:cm) (fs:List (List UInt8×List bW)) (ns:List (List UInt8)) (q:pK) (a:Int):List Value:=
 [st m.nm,.slice q.ma.a1 m.aP.length q.ma.c1,.slice q.ma.a2 m.decls.length q.ma.c2,.slice q.ma.a3 m.procs.length q.ma.c3,.slice q.ma.a4 m.main.length q.ma.c4,.slice q.fa.1 fs.length q.fa.2,.slice q.oa.1 (dG m).length q.oa.2,.slice q.na.1 ns.length q.na.2,.int .i64 a]
abbrev f' (a:Nat) (m:cm) (fs:List (List UInt8×List bW)) (ns:List (List UInt8)) (q:pK) (b:Int):ah:=aE a (.cells (iH m fs ns q b).toArray 137 (0,0))
structure ho (HS:View) (m:cm) (fs:List (List UInt8×List bW)) (ns:List (List UInt8)) (q:pK):Prop where
 aP:Sl rdStr 1 HS q.ma.a1 q.ma.c1 m.aP
 p8:Sl oV 2 HS q.fa.1 q.fa.2 fs
 own:Sl hK 4 HS q.oa.1 q.oa.2 (dG m)
 names:Sl rdStr 1 HS q.na.1 q.na.2 ns
 len:m.aP.length=fs.length
def vH (σ:gy) (mod nm:List UInt8):Int×bW×Bool:=match eo σ mod nm with | some (m,it)=>(m,it,true) | none=>(0,F9,false)
def vI (h:eo ea aS db=some (aL,ay)):vH ea aS db=(aL,ay,true):=by rw [vH,h]
def Co (h:eo ea aS db=none):vH ea aS db=(0,F9,false):=by rw [vH,h]
def Nn:∀{l:List (List UInt8)} {s i:Nat},(∀j x,j<i->l[j]? = some x->x≠aS)->l[i]? = some aS->idxOf aS l s=some (s+i)
 | [],_,_,_,h=>by simp at h
 | y::l,s,0,_,h=>by simp at h; rw [idxOf,a8 h]; rfl
 | y::l,s,i+1,a,h=>by
   rw [idxOf,av (a 0 y Z rfl),Nn (i:=i) (λj x c b=>a (j+1) x Z (by simpa using b)) (by simpa using h)]
   congr 1; omega
def WH (b:∀j x,j<dE.length->dE[j]? = some x->x≠aS):idxOf aS dE ae=none:=
 ij.2 λc=>by
   obtain ⟨j,a⟩:=ln c;exact b j aS (cS.1 a).1 a O
def Gr:∀{l:List bW} {i:Nat} {x:bW},(∀j y,j<i->l[j]? = some y->y.name≠aS)->l[i]? = some x->x.name=aS->fO aS l=some x
 | [],_,_,_,h,_=>by simp at h
 | y::l,0,x,_,h,a=>by simp at h; subst h; rw [fO,a8 a]
 | y::l,i+1,x,b,h,a=>by
   rw [fO,av (b 0 y Z rfl),Gr (i:=i) (λj c e d=>b (j+1) c Z (by simpa using d)) (by simpa using h) a]
def No (b:∀j y,j<aO.length->aO[j]? = some y->y.name≠aS):fO aS aO=none:=
 Ee.2 λc=>by
   obtain ⟨y,d,e⟩:=oZ.1 c;obtain ⟨j,a⟩:=ln d;exact b j y (cS.1 a).1 a e
def zC (mod nm:List UInt8) (us:List (List UInt8)) (fs:List (List bW)) (k:Nat):Prop:=∀j u f,j<k->us[j]? = some u->fs[j]? = some f->u=mod->fO nm f=none
def Np:∀{us:List (List UInt8)} {fs:List (List bW)} {s k:Nat} {f:List bW} {x:bW},zC aS db us fs k->us[k]? = some aS->fs[k]? = some f->fO db f=some x->iC aS db us fs s=some (((s+k+1:Nat):Int),x)
 | [],_,_,_,_,_,_,h,_,_=>by simp at h
 | u::us,[],_,_,_,_,_,_,h,_=>by simp at h
 | u::us,g::fs,s,0,f,x,_,a,b,c=>by
   simp at a b; subst a; subst b;rw [iC,a8 rfl,c]
 | u::us,g::fs,s,k+1,f,x,i,a,b,c=>by
   have d:=Np (s:=s+1) (k:=k) (λj l m o e n=>i (j+1) l m Z (by simpa using e) (by simpa using n)) (by simpa using a) (by simpa using b) c;rw [iC];rw [show s+1+k+1=s+(k+1)+1 by omega] at d
   split
   · rename_i e
     rw [i 0 u g Z rfl rfl e];exact d
   · exact d
def Nq:∀{us:List (List UInt8)} {fs:List (List bW)} {s:Nat},zC aS db us fs us.length->iC aS db us fs s=none
 | [],_,_,_=>by simp [iC]
 | u::us,[],_,_=>by simp [iC]
 | u::us,g::fs,s,b=>by
   have c:=Nq (us:=us) (fs:=fs) (s:=s+1) (λj d e h a f=>b (j+1) d e (by simp; omega) (by simpa using a) (by simpa using f));rw [iC]
   split
   · rename_i a
     rw [b 0 u g au rfl rfl a];exact c
   · exact c
def WI {fs:List (List bW)}  {u:List UInt8}  (h:zC aS db dE fs ae) (d:dE[ae]? = some u) (e:fs[ae]? = some aO) (f:u=aS->fO db aO=none):zC aS db dE fs (ae+1):=by
 intro j g i k a b c
 rcases gT.1 k with l | rfl
 · exact h j g i l a b c
 · rw [d] at a; rw [e] at b; injection a with a; injection b with b; subst a; subst b; exact f c
def WJ {op n:Int}  {len:Nat}   (a:dd op 3 5=true) (b:eo ea aS db=some (aL,ay)):b7 ea op n aS db len =
     if aL = -1 then ⟨16,n,0,ay.pl,if op=3 then 0 else 7⟩
     else if op=3/\ay.kind=1 then ⟨1,ay.n,0,0,0⟩
     else if op=3/\ay.kind=2 then ⟨op,n,aL,ay.pl,0⟩
     else if op=4/\ay.kind=3 then ⟨op,ay.n,aL,ay.pl,0⟩
     else if op=5/\ay.kind=4 then ⟨op,n,aL,ay.pl,if ay.n=(len:Int) then 0 else 8⟩
     else ⟨op,n,0,0,7⟩:=by rw [b7,a8 a,b]
def WK (a:dd aL 3 5=true) (b:eo ea aS db=none):b7 ea aL cg aS db ae=⟨aL,cg,0,0,5⟩:=by rw [b7,a8 a,b]
def RI (a:dd aL 3 5=false):b7 ea aL cg aS db ae=⟨aL,cg,0,0,0⟩:=by rw [b7,av (by simp [a])]
def WM {len:Nat}   (a:dd aL 1 3=true) (b:eo ea aS db=some (cg,ay)):ar ea aL aS db len =
     if aL=1/\(cg = -1\/ay.kind=2) then ⟨aL,0,cg,ay.pl,0⟩
     else if cg = -1 then ⟨aL,0,0,0,7⟩
     else if aL=2/\ay.kind=3 then ⟨aL,ay.n,cg,ay.pl,0⟩
     else if aL=3/\ay.kind=4 then ⟨aL,0,cg,ay.pl,if ay.n=(len:Int) then 0 else 8⟩
     else ⟨aL,0,0,0,7⟩:=by rw [ar,a8 a,b]
def WN (a:dd aL 1 3=true) (b:eo ea aS db=none):ar ea aL aS db ae=⟨aL,0,0,0,5⟩:=by rw [ar,a8 a,b]
def WO (a:dd aL 1 3=false):ar ea aL aS db ae=⟨aL,0,0,0,0⟩:=by rw [ar,av (by simp [a])]
def Cp:cJ prog 137 4=some 8:=aa
def zD:cJ prog 137 3=some 7:=aa
def uO:cJ prog 137 2=some 6:=aa
def Nr:cJ prog 137 0=some 0:=aa
def vf:cJ prog 137 1=some 5:=aa
def sE (g:View) (a:Nat) (m:cm) (fs:List (List UInt8×List bW)) (ns:List (List UInt8)) (q:pK) (b n:Int) (w:World) (c:Ws w [a] [f' a m fs ns q (b)] [g] w) :
   Calls prog 66 #[.pointer (some ⟨a,0,none⟩),.int .i64 n] w λe w'=>e = .returned (.tuple #[])/\Ws w [a] [f' a m fs ns q (er b n)] [g] w':=by
 refine enter func66 O 13 O O ?_;refine CE c (ac (ab O (I (bV O) (I (Yf Cp O) (I (Yd 0 O O O aa) (I (bx O O) (ad ?_)))))));refine Cc O (λd=>?_) (λd=>?_)
 ·have f:b=0:=by simpa using d
  refine Cr (ab O (ab O (I (bV O) (I (Yf Cp O) (aT 0 Y O O O l4 O O O (Ln ?_))))));refine E0 O λw' c=>?_;have h:=c.oe 0 rfl (show _=f' a m fs ns q (er b n) by rw [f]; rfl);exact ⟨O,h⟩
 have f:¬b=0:=by simpa using d
 refine Ck ?_;refine E0 O λw' c=>?_;have h:=c.oe 0 rfl (show _=f' a m fs ns q (er b n) by rw [c7 f]);exact ⟨O,h⟩
def ES (r t:View) (z:Nat) (m:cm) (fs:List (List UInt8×List bW)) (ns:List (List UInt8)) (q:pK) (ap:Int) (mod nm:List UInt8) (w:World) (ar:Le r w) (au:Le t w) (E:r z=some (.cells (iH m fs ns q ap).toArray 137 (0,0))) (i:ho t m fs ns q) :
   Calls prog 228 #[.pointer (some ⟨z,0,none⟩),st mod,st nm] w λe w'=>e = .returned (.tuple #[.int .i64 (vH (aQ m fs ns) mod nm).1,.agg (vH (aQ m fs ns) mod nm).2.1.cells.toArray,.bool (vH (aQ m fs ns) mod nm).2.2])/\Ext w w':=by
 have ag:vc r z 1=some (.slice q.ma.a1 m.aP.length q.ma.c1):=AW E rfl;have F:vc r z 5=some (.slice q.fa.1 fs.length q.fa.2):=AW E rfl;have G:vc r z 6=some (.slice q.oa.1 (dG m).length q.oa.2):=AW E rfl;have ah:vc r z 7=some (.slice q.na.1 ns.length q.na.2):=AW E rfl;have aE:=i.aP.cap;have aF:=i.aP.max;have aG:=i.p8.cap;have aH:=i.p8.max;have aI:=i.own.cap;have aJ:=i.own.max;have aK:=i.names.cap;have aL:=i.names.max;have aM:=i.len;refine enter func228 O 125 O O ?_;refine CE (Vs:=[r,t]) (Ws.init (by simp [ar,au])) (ac (ai O ?_));refine Al Y O ha λaN=>?_;refine ai O (ad (Cs (ac (ab O (I (mT O O) (ad ?_))))));refine Cc O (λH=>?_) (λH=>?_)
 ·obtain rfl:mod=[]:=by simpa using H
  refine Cs (ac (ai O (ad (Cb ?_))));refine CW (ι:=Nat) (λa=>[(9,.int .i64 (a:Int))]) [(0,_),(1,_),(2,_),(7,_)] (λa=>a<=ns.length/\∀j y,j<a->ns[j]? = some y->y≠nm) (λa=>ns.length-a) 0 ⟨cx _,λj y g=>absurd g (ue j)⟩ (sc O (sc O (sc O (sc O (sc O sn))))) ?_;intro a ⟨aO,J⟩;refine Cs (ac (ab O (ab O (I (bV O) (I (Yf zD O) (I (cC 0 aa O O (ah)) (I (Yn dT O) (I (cy O O) ?_))))))));refine ad ?_;refine Cc O (λK=>?_) (λK=>?_)
  ·have A:a<ns.length:=by simpa using K
   obtain ⟨x,n⟩:∃q,ns[a]? = some q:=⟨_,dM A⟩;obtain ⟨B,C,v,l⟩:=i.names.aq a x n;have l:cw t B (C+a*1) (eE x):=l;refine am (Cs (Cb (ac (ab O (I (bV O) (I (Yf zD O) (I (cC 0 aa O O (ah)) (ab O (I (Yo dT O O v (by omega)) (I (cC 1 aa O O (l 0 _ O)) ?_))))))))));refine ab O (I (mT O O) (ad ?_));refine Cc O (λL=>?_) (λL=>?_)
   ·have D:x=nm:=by simpa using L
    subst D;have o:eo (aQ m fs ns) [] x=some (-1,AX a):=M5 (σ:=aQ m fs ns) (by have:=Nn (s:=0) J n; rw [gC] at this; exact this);refine ac (ab O (I (Yb ha oU O O) (ai O (aT 0 Y O O O iu O O O (ai O (ad (aZ (cf (Er (Er (cf (Er (Er ?_)))))))))))));refine WE.fm (o6 O (hV O) (ej 0 O O hR O) (hV O)) λw' p=>?_;rw [vI o];exact ⟨O,p.fr⟩
   have aw:x≠nm:=by simpa using L
   refine Ck (Eb (Et (Cr (ab O (I (Yi O O O (by omega)) (ai O (Ln ?_)))))));exact Ea (a+1) (by omega) ⟨by omega,λj y g c=>by rcases gT.1 g with h | rfl; exact J j y h c; rw [n] at c; injection c with c; subst c; exact aw⟩ (sc rfl (sc rfl (sc rfl (sc rfl (sc rfl sn))))) (λ_ h=>h)
  have aj:¬a<ns.length:=by simpa using K
  have ak:idxOf nm ns 0=none:=WH λj y g c=>J j y (by omega) c;refine Ce (Ex (Ex (cU (Et (Cs (ac (ai O (ad (Cb ?_)))))))));refine CW (ι:=Nat) (λb=>[(10,.int .i64 (b:Int))]) [(0,_),(1,_),(2,_),(7,_)] (λb=>b<=(dG m).length/\∀j y,j<b->(dG m)[j]? = some y->y.name≠nm) (λb=>(dG m).length-b) 0 ⟨cx _,λj y g=>absurd g (ue j)⟩ (sc O (sc O (sc O (sc O (sc O sn))))) ?_;intro b ⟨aR,M⟩;refine Cs (ac (ab O (ab O (I (bV O) (I (Yf uO O) (I (cC 0 aa O O (G)) (I (Yn bn O) (I (cy O O) ?_))))))));refine ad ?_;refine Cc O (λN=>?_) (λN=>?_)
  ·have A:b<(dG m).length:=by simpa using N
   obtain ⟨x,n⟩:∃q,(dG m)[b]? = some q:=⟨_,dM A⟩;obtain ⟨B,C,v,l⟩:=i.own.aq b x n;have l:cw t B (C+b*4) x.cells:=l;refine am (Cs (Cb (ac (ab O (I (bV O) (I (Yf uO O) (I (cC 0 aa O O (G)) (ab O (I (Yo bn O O v (by omega)) (I (Yf oT O) ?_))))))))));refine I (cC 1 aa O O (l 3 _ O)) (ab O (I (mT O O) (ad ?_)));refine Cc O (λP=>?_) (λP=>?_)
   ·have D:x.name=nm:=by simpa using P
    have o:eo (aQ m fs ns) [] nm=some (0,x):=by rw [ve (σ:=aQ m fs ns) ak]; show (fO nm (dG m)).map _=_; rw [Gr M n D]; rfl
    refine Cs ?_;refine WC.gW 0 [(0,true),(1,true),(2,true),(3,true),(4,true),(5,true),(6,true),(7,true),(8,false),(9,false)] mixed (by kernel_rfl) (λ_ _ _ d _ h=>by cases d<;>exact h) ?_;refine D0 O (Wp 0) (Ym O) (D0 O (Wp 0) (bV O) (D0 O (Wp 0) (Yf uO O) (D0 O (Wp 0) (cC 0 aa O O (G)) (D0 O (Wp 0) (Ym O) (D0 O (Wp 0) (Yo bn O O v (by omega)) (D0 O (Wp 0) (eq 1 hR O O O (l)) (D0 O (Wp 0) (Ya O) ?_)))))));refine De O (Wp 0) ?_;refine aT 0 Y O O O iu O O O (Ln (Ed ?_));refine De O (Wp 0) ?_;refine ai O (Ln (Ed ?_));refine WD.nil (Wp 0) ?_;refine Et (aZ (cf (Er (Er (cf (Er (Er ?_)))))));refine WE.fm (o6 O (hV O) (ej 0 O O hR O) (hV O)) λw' p=>?_;rw [vI o];exact ⟨O,p.fr⟩
   have ax:x.name≠nm:=by simpa using P
   refine Ck (Eb (Et (Cr (ab O (I (Yi O O O (by omega)) (ai O (Ln ?_)))))));exact Ea (b+1) (by omega) ⟨by omega,λj y g c=>by rcases gT.1 g with h | rfl; exact M j y h c; rw [n] at c; injection c with c; subst c; exact ax⟩ (sc rfl (sc rfl (sc rfl (sc rfl (sc rfl sn))))) (λ_ h=>h)
  have aS:¬b<(dG m).length:=by simpa using N
  have o:eo (aQ m fs ns) [] nm=none:=by rw [ve (σ:=aQ m fs ns) ak]; show (fO nm (dG m)).map _=none; rw [No λj y g c=>M j y (by omega) c]; rfl
  refine Ce (Ex (Ex (cU (Et (ac (I (Yb ha oU O O) (ai O (aT 0 Y O O O iu O O O (ai O (ad (aZ (Er ?_))))))))))));refine WE.fm (o6 O (hV O) (ej 0 O O hR O) (hV O)) λw' p=>?_;rw [Co o];exact ⟨O,p.fr⟩
 have al:¬mod=[]:=by simpa using H
 refine am (Cs (ac (ai O (ad (Cb ?_)))));refine CW (ι:=Nat) (λk=>[(11,.int .i64 (k:Int))]) [(0,_),(1,_),(2,_),(7,_)] (λk=>k<=m.aP.length/\zC mod nm m.aP (fs.map (·.2)) k) (λk=>m.aP.length-k) 0 ⟨cx _,λj u f g=>absurd g (ue j)⟩ (sc O (sc O (sc O (sc O (sc O sn))))) ?_;intro k ⟨aU,Q⟩;refine Cs (ac (ab O (ab O (I (bV O) (I (Yf Nr O) (I (Yf j4 O) (I (cC 0 aa O O (ag)) (I (Yn dT O) ?_))))))));refine I (cy O O) (ad ?_);refine Cc O (λR=>?_) (λR=>?_)
 ·have A:k<m.aP.length:=by simpa using R
  obtain ⟨u,S⟩:∃q,m.aP[k]? = some q:=⟨_,dM A⟩;obtain ⟨ay,az,aA,T⟩:=i.aP.aq k u S;have T:cw t ay (az+k*1) (eE u):=T;obtain ⟨f,an⟩:∃f,fs[k]? = some f:=⟨_,dM (by omega)⟩;obtain ⟨aV,aW,U,aX,V,W⟩:=i.p8.aq k f an;have c1:=W.cap;have c2:=W.max
  have ao:(fs.map (·.2))[k]? = some f.2:=by rw [gS,an]; rfl
  refine am (Cs (Cb (ac (ai O (ad (Cb ?_))))));refine CW (ι:=Nat) (λd=>[(12,.int .i64 (d:Int))]) [(0,_),(1,_),(2,_),(7,_),(11,_)] (λd=>d<=f.2.length/\∀j y,j<d->f.2[j]? = some y->y.name≠nm) (λd=>f.2.length-d) 0 ⟨cx _,λj y g=>absurd g (ue j)⟩ (sc O (sc O (sc O (sc O (sc O (sc O sn)))))) ?_;intro d ⟨aY,X⟩;refine Cs (ac (ab O (I (bV O) (I (Yf Nr O) (I (Yf j4 O) (I (cC 0 aa O O (ag)) (ab O (I (Yo dT O O aA (by omega)) ?_))))))));refine I (cC 1 aa O O (T 0 _ O)) (ab O (I (mT O O) (ab O ?_)));apply La 11 O O O O Y O O O O O
  ·intro a0;refine Vg (Ym O) (Vg (Ym O) (Vg (bV O) (Vg (Yf vf O) (Vg (cC 0 aa O O (F)) (Vg (Ym O) (Vg (Yo oW O O U (by omega)) (Vg (Yf jK O) ?_)))))));refine Vg (cC 1 aa O O (V 1 _ O)) (Vg (Yn bn O) (Vg (cy O O) ?_));exact Gt 11 O O O
  refine ad ?_;refine Cc O (λZ=>?_) (λZ=>?_)
  ·have ae:u=mod/\d<f.2.length:=by simp at Z; omega
   obtain ⟨x,n⟩:∃x,f.2[d]? = some x:=⟨_,dM ae.2⟩;obtain ⟨B,C,v,l⟩:=W.aq d x n;have l:cw t B (C+d*4) x.cells:=l;have a2:=ae.2;refine am (Cs (Cb (ac (ab O (I (bV O) (I (Yf vf O) (I (cC 0 aa O O (F)) (ab O (I (Yo oW O O U (by omega)) (I (Yf jK O) ?_))))))))));refine I (cC 1 aa O O (V 1 _ O)) (ab O (I (Yo bn O O v (by omega)) (I (Yf oT O) (I (cC 1 aa O O (l 3 _ O)) (ab O (I (mT O O) (ad ?_)))))));refine Cc O (λaf=>?_) (λaf=>?_)
   ·have D:x.name=nm:=by simpa using af
    have o:eo (aQ m fs ns) mod nm=some (((k+1:Nat):Int),x):=by rw [eo,av al]; have:=Np (s:=0) Q (ae.1▸S) ao (Gr X n D); rw [gC] at this; exact this
    refine Cs ?_;refine WC.gW 0 [(0,true),(1,true),(2,true),(3,true),(4,true),(5,true),(6,true),(7,true),(8,true),(9,true),(10,true),(11,true),(12,true),(13,true),(14,false),(15,false)] mixed (by kernel_rfl) (λ_ _ _ d _ h=>by cases d<;>exact h) ?_;refine D0 O (Wp 0) (Ym O) (D0 O (Wp 0) (Yi O O O (by omega)) (D0 O (Wp 0) (Ym O) (D0 O (Wp 0) (bV O) (D0 O (Wp 0) (Yf vf O) (D0 O (Wp 0) (cC 0 aa O O (F)) (D0 O (Wp 0) (Ym O) (D0 O (Wp 0) (Yo oW O O U (by omega)) ?_)))))));refine D0 O (Wp 0) (Yf jK O) (D0 O (Wp 0) (cC 1 aa O O (V 1 _ O)) (D0 O (Wp 0) (Ym O) (D0 O (Wp 0) (Yo bn O O v (by omega)) (D0 O (Wp 0) (eq 1 hR O O O (l)) (D0 O (Wp 0) (Ya O) ?_)))));refine De O (Wp 0) ?_;refine aT 0 Y O O O iu O O O (Ln (Ed ?_));refine De O (Wp 0) ?_;refine ai O (Ln (Ed ?_));refine WD.nil (Wp 0) ?_;refine Et (aZ (cf (Er (Er (cf (cf (Er (Er (cf (Er ?_))))))))));refine WE.fm (o6 O (hV O) (ej 0 O O hR O) (hV O)) λw' p=>?_;rw [vI o];exact ⟨O,p.fr⟩
   have aB:x.name≠nm:=by simpa using af
   refine Ck (Eb (Et (Cr (ab O (I (Yi O O O (by omega)) (ai O (Ln ?_)))))));exact Ea (d+1) (by omega) ⟨by omega,λj y g c=>by rcases gT.1 g with h | rfl; exact X j y h c; rw [n] at c; injection c with c; subst c; exact aB⟩ (sc rfl (sc rfl (sc rfl (sc rfl (sc rfl (sc rfl sn)))))) (λ_ h=>h)
  have aC:u=mod->fO nm f.2=none:=λaD=>No λj y g c=>X j y (by simp [aD] at Z; omega) c;refine Ce (Ex (Ex (cU (Eb (Et (Cr (ab O (I (Yi O O O (by omega)) (ai O (Ln ?_))))))))));exact Ea (k+1) (by omega) ⟨by omega,WI Q S ao aC⟩ (sc O (sc O (sc O (sc O (sc O sn))))) (λ_ h=>h)
 have aj:k=m.aP.length:=by simp at R; omega
 have o:eo (aQ m fs ns) mod nm=none:=by rw [eo,av al]; exact Nq (aj▸Q)
 refine Ce (Ex (Ex (cU (Et (ac (I (Yb ha oU O O) (ai O (aT 0 Y O O O iu O O O (ai O (ad (aZ ?_)))))))))));refine WE.fm (o6 O (hV O) (ej 0 O O hR O) (hV O)) λw' p=>?_;rw [Co o];exact ⟨O,p.fr⟩
def Gu (d:View) (b:Nat) (m:cm) (fs:List (List UInt8×List bW)) (ns:List (List UInt8)) (q:pK) (k:Nat):Prop:=∀(l:List ak) (a:Option Addr) (c:Nat) (f:Int) (w:World),Sl (gn k) 5 d a c l->ff l<=109951162777->Ws w [b] [f' b m fs ns q f] [d] w->
 Calls prog 229 #[.pointer (some ⟨b,0,none⟩),.slice a l.length c] w λe w'=>∃r:SP,e = .returned (.slice r.1 (be (aQ m fs ns) l).length r.2)/\Sl (k8 (k+1)) 5 (nv w w') r.1 r.2 (be (aQ m fs ns) l)/\Ws w [b] [f' b m fs ns q (er f (hM (aQ m fs ns) l))] [d] w'
def WP (d:View) (b:Nat) (m:cm) (fs:List (List UInt8×List bW)) (ns:List (List UInt8)) (q:pK) (ke k:Nat):Prop:=∀(l:List bE) (a:Option Addr) (c:Nat) (f:Int) (w:World),Sl (e5 ke k) 6 d a c l->dP l<=109951162777->Ws w [b] [f' b m fs ns q f] [d] w->
 Calls prog 67 #[.pointer (some ⟨b,0,none⟩),.slice a l.length c] w λe w'=>∃r:SP,e = .returned (.slice r.1 (dL (aQ m fs ns) l).length r.2)/\Sl (h7 (ke+1) (k+1)) 7 (nv w w') r.1 r.2 (dL (aQ m fs ns) l)/\Ws w [b] [f' b m fs ns q (er f (dQ (aQ m fs ns) l))] [d] w'
def WQ (o:View) (j:Nat) (m:cm) (fs:List (List UInt8×List bW)) (ns:List (List UInt8)) (q:pK) (f:Int) (k:Nat) (x:ak) (a:Option Addr) (c:Nat) (w:World) (U:ho o m fs ns q) (hN:Gu o j m fs ns q k) (v:Sl (gn k) 5 o a c x.args) (Z:wE x<=109951162777) (l:Ws w [j] [f' j m fs ns q (f)] [o] w) :
   Calls prog 269 #[.pointer (some ⟨j,0,none⟩),.agg (qS x a c).toArray] w λe w'=>∃r:SP,e = .returned (.agg (wv (jR (aQ m fs ns) x) r.1 r.2).toArray)/\m2 (k+1) (nv w w') (jR (aQ m fs ns) x,r)/\Ws w [j] [f' j m fs ns q (er f (h8 (aQ m fs ns) x))] [o] w':=by
 have ae:=DQ x;have af:=v.cap;have ag:=v.max;refine enter func269 O 118 O O ?_;refine CE l (ac ?_);refine WL.box Y O O λR=>?_;refine Al Y O vB λS=>?_;refine ad (ac (I (Yf jI O) (I (Yd 1 O O O aa) (I (Yf gK O) (I (Yd 1 O O O aa) (I (Yb vB Gg O O) ?_))))));refine Al Y O vB λT=>?_;refine aT 0 Y O O O zz O O O (ad ?_);refine WC.s7 (ι:=Unit) (λ_u=>[(0,.pointer (some ⟨j,0,none⟩)),(3,.pointer (some ⟨R,0,none⟩)),(4,.pointer (some ⟨S,0,none⟩)),(5,.pointer (some ⟨T,0,none⟩))]) (λ_u=>Ws w [j] [aE T (.cells #[.int .i64 (b7 (aQ m fs ns) x.op x.n x.mod x.nm x.args.length).op,.int .i64 (b7 (aQ m fs ns) x.op x.n x.mod x.nm x.args.length).n,.int .i64 (b7 (aQ m fs ns) x.op x.n x.mod x.nm x.args.length).m,.int .i64 (b7 (aQ m fs ns) x.op x.n x.mod x.nm x.args.length).pl,.slice none 0 0] 53 (0,0)),aE S (.cells #[.int .i64 0,.int .i64 0,.int .i64 0,.int .i64 0,.slice none 0 0] 53 (0,0)),aE R (.cells (qS x a c).toArray 239 (0,0)),f' j m fs ns q (er f (b7 (aQ m fs ns) x.op x.n x.mod x.nm x.args.length).e)] [o]) (λ_u=>True) ?_ ?_
 ·refine ac (I (Yf jI O) (I (Yd 2 O O O aa) (Lp Y O aK O (λw l=>FT _ w) (ad ?_))));refine Cc O (λy=>?_) (λy=>?_)
  ·have t:dd x.op 3 5=true:=y;refine ac (ab O (I (Yf rr O) (I (Yd 2 O O O aa) (I (Yf rs O) (I (Yd 2 O O O aa) (Lp Y O aK O (λw l=>ES (hv w) o j m fs ns q f x.mod x.nm w (gV w) (l.vs _ (by simp)) (l.nB 3 O) U) (ab O ?_)))))));refine I (Yx O O) (I (Yx O O) (I (Yx O O) ?_));refine Al Y O ha λah=>?_;refine ai O (aT 0 Y O O O iu O O O (ai O (ad (Cb (ac (ab O (I (eR O) (ai O (ad ?_)))))))));refine Cc O (λs=>?_) (λs=>?_)
   ·have p:eo (aQ m fs ns) x.mod x.nm=none:=by
      cases p:eo (aQ m fs ns) x.mod x.nm with
      | none=>rfl
      | some i=>rw [vI p] at s; cases s
    have b:(b7 (aQ m fs ns) x.op x.n x.mod x.nm x.args.length)=⟨x.op,x.n,0,0,5⟩:=WK t p;refine Cr (ab O (Lf 4 O (j_ [_] _ [f' j m fs ns q (er (f) 5)] Y O aK O O [o] (by simp) (λw l=>sE o j m fs ns q (f) 5 w l) (Ln (Eb ?_)))));refine WE.fg 2 (.cells #[.int .i64 (b7 (aQ m fs ns) x.op x.n x.mod x.nm x.args.length).op,.int .i64 (b7 (aQ m fs ns) x.op x.n x.mod x.nm x.args.length).n,.int .i64 (b7 (aQ m fs ns) x.op x.n x.mod x.nm x.args.length).m,.int .i64 (b7 (aQ m fs ns) x.op x.n x.mod x.nm x.args.length).pl,.slice none 0 0] 53 (0,0)) O (by rw [b]; rfl) ?_;refine WE.fg 0 (.cells (iH m fs ns q (er f (b7 (aQ m fs ns) x.op x.n x.mod x.nm x.args.length).e)).toArray 137 (0,0)) O (by rw [b]<;>first | rfl | rw [jw]) ?_
    exact Em () trivial (sc O (sc O (sc O (sc O sn)))) (λ_ h=>by
      have h:=h.aJ 0 rfl;have h:=h.aJ 4 rfl;have h:=h.aJ 4 rfl;have h:=h.aJ 4 rfl;have h:=Wt 4 h
      exact h)
   obtain ⟨u,it,p⟩:∃u it,eo (aQ m fs ns) x.mod x.nm=some (u,it):=by
     cases p:eo (aQ m fs ns) x.mod x.nm with
     | none=>rw [Co p] at s; cases s
     | some i=>exact ⟨i.1,i.2,rfl⟩
   have g:=WJ (n:=x.n) (len:=x.args.length) t p;rw [vI p];refine ac (ab O (I (bx O O) (ai O (ad ?_))));refine Cc O (λz=>?_) (λz=>?_)
   ·have A:u = -1:=by simpa using z
    rw [a8 A] at g;refine Cs ?_;refine WC.gW 1 [(0,true),(1,true),(2,true),(3,false),(4,false),(5,false)] mixed (by kernel_rfl) (λ_ _ _ d _ h=>by cases d<;>exact h) ?_;refine D0 O (Wp 1) (Yf ir O) (D0 O (Wp 1) (Yd 0 O O O aa) (D0 O (Wp 1) (Yf xF O) ?_));refine De O (Wp 1) ?_;refine aT 1 Y O O O dr O O O (Ln (Ed ?_));refine De O (Wp 1) ?_;refine I (Yf rB O) (Ln (Ed ?_));refine De O (Wp 1) ?_;refine aT 1 Y O O O dr O O O (Ln (Ed ?_));refine WD.nil (Wp 1) ?_;refine Et (ac (I (Yf jI O) (I (Yd 3 O O O aa) (I (fh O O) (ad ?_)))));refine Cc O (λB=>?_) (λB=>?_)
    ·have C:¬x.op=3:=by simpa using B
     have b:(b7 (aQ m fs ns) x.op x.n x.mod x.nm x.args.length)=⟨16,x.n,0,it.pl,7⟩:=by rw [g,av C]
     refine Cr (ab O (Lf 4 O (j_ [_] _ [f' j m fs ns q (er (f) 7)] Y O aK O O [o] (by simp) (λw l=>sE o j m fs ns q (f) 7 w l) (Ln (Eb ?_)))));refine WE.fg 2 (.cells #[.int .i64 (b7 (aQ m fs ns) x.op x.n x.mod x.nm x.args.length).op,.int .i64 (b7 (aQ m fs ns) x.op x.n x.mod x.nm x.args.length).n,.int .i64 (b7 (aQ m fs ns) x.op x.n x.mod x.nm x.args.length).m,.int .i64 (b7 (aQ m fs ns) x.op x.n x.mod x.nm x.args.length).pl,.slice none 0 0] 53 (0,0)) O (by rw [b]; rfl) ?_;refine WE.fg 0 (.cells (iH m fs ns q (er f (b7 (aQ m fs ns) x.op x.n x.mod x.nm x.args.length).e)).toArray 137 (0,0)) O (by rw [b]<;>first | rfl | rw [jw]) ?_
     exact Em () trivial (sc O (sc O (sc O (sc O sn)))) (λ_ h=>by
       have h:=h.aJ 0 rfl;have h:=h.aJ 4 rfl;have h:=h.aJ 4 rfl;have h:=h.aJ 4 rfl;have h:=Wt 4 h
       exact h)
    have C:x.op=3:=by simpa using B
    have b:(b7 (aQ m fs ns) x.op x.n x.mod x.nm x.args.length)=⟨16,x.n,0,it.pl,0⟩:=by rw [g,a8 C]
    refine Ck (Eb ?_);refine WE.fg 1 (.cells #[.int .i64 (b7 (aQ m fs ns) x.op x.n x.mod x.nm x.args.length).op,.int .i64 (b7 (aQ m fs ns) x.op x.n x.mod x.nm x.args.length).n,.int .i64 (b7 (aQ m fs ns) x.op x.n x.mod x.nm x.args.length).m,.int .i64 (b7 (aQ m fs ns) x.op x.n x.mod x.nm x.args.length).pl,.slice none 0 0] 53 (0,0)) O (by rw [b]; rfl) ?_;refine WE.fg 4 (.cells (iH m fs ns q (er f (b7 (aQ m fs ns) x.op x.n x.mod x.nm x.args.length).e)).toArray 137 (0,0)) O (by rw [b]<;>first | rfl | rw [jw]) ?_
    exact Em () trivial (sc O (sc O (sc O (sc O sn)))) (λ_ h=>by
      have h:=h.aJ 4 rfl;have h:=h.aJ 4 rfl;have h:=h.aJ 4 rfl;have h:=h.aJ 4 rfl;have h:=Wt 4 h
      exact h)
   have A:¬u = -1:=by simpa using z
   rw [av A] at g;refine ac (I (Yf jI O) (I (Yd 3 O O O aa) (I (bx O O) (ab O ?_))));apply La 3 O O O O Y O O O O O
   ·intro aj;refine Vg (Yf lO O) (Vg (Yd 0 O O O aa) (Vg (bx O O) ?_));exact Gt 3 O O O
   refine ai O (ad ?_);refine Cc O (λD=>?_) (λD=>?_)
   ·have E:x.op=3/\it.kind=1:=by simpa using D
    rw [a8 E] at g;have b:=g;refine WC.gW 1 [(0,true),(1,true),(2,true),(3,false),(4,false),(5,false)] mixed (by kernel_rfl) (λ_ _ _ d _ h=>by cases d<;>exact h) ?_;refine D0 O (Wp 1) (Yf j8 O) (D0 O (Wp 1) (Yd 0 O O O aa) (D0 O (Wp 1) (Yf xF O) ?_));refine De O (Wp 1) ?_;refine aT 1 Y O O O dr O O O (Ln (Ed ?_));refine De O (Wp 1) ?_;refine I (Yf xG O) (Ln (Ed ?_));refine De O (Wp 1) ?_;refine aT 1 Y O O O dr O O O (Ln (Ed ?_));refine WD.nil (Wp 1) ?_;refine Eb ?_;refine WE.fg 1 (.cells #[.int .i64 (b7 (aQ m fs ns) x.op x.n x.mod x.nm x.args.length).op,.int .i64 (b7 (aQ m fs ns) x.op x.n x.mod x.nm x.args.length).n,.int .i64 (b7 (aQ m fs ns) x.op x.n x.mod x.nm x.args.length).m,.int .i64 (b7 (aQ m fs ns) x.op x.n x.mod x.nm x.args.length).pl,.slice none 0 0] 53 (0,0)) O (by rw [b]; rfl) ?_;refine WE.fg 4 (.cells (iH m fs ns q (er f (b7 (aQ m fs ns) x.op x.n x.mod x.nm x.args.length).e)).toArray 137 (0,0)) O (by rw [b]<;>first | rfl | rw [jw]) ?_
    exact Em () trivial (sc O (sc O (sc O (sc O sn)))) (λ_ h=>by
      have h:=h.aJ 4 rfl;have h:=h.aJ 4 rfl;have h:=h.aJ 4 rfl;have h:=h.aJ 4 rfl;have h:=Wt 4 h
      exact h)
   have E:¬(x.op=3/\it.kind=1):=by simpa using D
   rw [av E] at g;refine ac (I (Yf jI O) (I (Yd 3 O O O aa) (I (bx O O) (ab O ?_))));apply La 3 O O O O Y O O O O O
   ·intro al;refine Vg (Yf lO O) (Vg (Yd 0 O O O aa) (Vg (bx O O) ?_));exact Gt 3 O O O
   refine ai O (ad ?_);refine Cc O (λG=>?_) (λG=>?_)
   ·have H:x.op=3/\it.kind=2:=by simpa using G
    rw [a8 H] at g;have b:=g;refine WC.gW 1 [(0,true),(1,true),(2,true),(3,true),(4,false),(5,false),(6,false)] mixed (by kernel_rfl) (λ_ _ _ d _ h=>by cases d<;>exact h) ?_;refine D0 O (Wp 1) (Ym O) (D0 O (Wp 1) (Yf ir O) (D0 O (Wp 1) (Yd 0 O O O aa) (D0 O (Wp 1) (Yf hf O) ?_)));refine De O (Wp 1) ?_;refine aT 1 Y O O O dr O O O (Ln (Ed ?_));refine De O (Wp 1) ?_;refine I (Yf rB O) (Ln (Ed ?_));refine De O (Wp 1) ?_;refine aT 1 Y O O O dr O O O (Ln (Ed ?_));refine WD.nil (Wp 1) ?_;refine Eb ?_;refine WE.fg 1 (.cells #[.int .i64 (b7 (aQ m fs ns) x.op x.n x.mod x.nm x.args.length).op,.int .i64 (b7 (aQ m fs ns) x.op x.n x.mod x.nm x.args.length).n,.int .i64 (b7 (aQ m fs ns) x.op x.n x.mod x.nm x.args.length).m,.int .i64 (b7 (aQ m fs ns) x.op x.n x.mod x.nm x.args.length).pl,.slice none 0 0] 53 (0,0)) O (by rw [b]; rfl) ?_;refine WE.fg 4 (.cells (iH m fs ns q (er f (b7 (aQ m fs ns) x.op x.n x.mod x.nm x.args.length).e)).toArray 137 (0,0)) O (by rw [b]<;>first | rfl | rw [jw]) ?_
    exact Em () trivial (sc O (sc O (sc O (sc O sn)))) (λ_ h=>by
      have h:=h.aJ 4 rfl;have h:=h.aJ 4 rfl;have h:=h.aJ 4 rfl;have h:=h.aJ 4 rfl;have h:=Wt 4 h
      exact h)
   have H:¬(x.op=3/\it.kind=2):=by simpa using G
   rw [av H] at g;refine ac (I (Yf jI O) (I (Yd 3 O O O aa) (I (bx O O) (ab O ?_))));apply La 3 O O O O Y O O O O O
   ·intro am;refine Vg (Yf lO O) (Vg (Yd 0 O O O aa) (Vg (bx O O) ?_));exact Gt 3 O O O
   refine ai O (ad ?_);refine Cc O (λJ=>?_) (λJ=>?_)
   ·have K:x.op=4/\it.kind=3:=by simpa using J
    rw [a8 K] at g;have b:=g;refine WC.gW 1 [(0,true),(1,true),(2,true),(3,true),(4,true),(5,true),(6,false),(7,false),(8,false),(9,false),(10,false)] mixed (by kernel_rfl) (λ_ _ _ d _ h=>by cases d<;>exact h) ?_;refine D0 O (Wp 1) (Ym O) (D0 O (Wp 1) (Yf ir O) (D0 O (Wp 1) (Yd 0 O O O aa) (D0 O (Wp 1) (Yf j8 O) (D0 O (Wp 1) (Yd 0 O O O aa) (D0 O (Wp 1) (Yf hf O) ?_)))));refine De O (Wp 1) ?_;refine aT 1 Y O O O dr O O O (Ln (Ed ?_));refine De O (Wp 1) ?_;refine I (Yf rB O) (Ln (Ed ?_));refine De O (Wp 1) ?_;refine aT 1 Y O O O dr O O O (Ln (Ed ?_));refine De O (Wp 1) ?_;refine I (Yf xG O) (Ln (Ed ?_));refine De O (Wp 1) ?_;refine aT 1 Y O O O dr O O O (Ln (Ed ?_));refine WD.nil (Wp 1) ?_;refine Eb ?_;refine WE.fg 1 (.cells #[.int .i64 (b7 (aQ m fs ns) x.op x.n x.mod x.nm x.args.length).op,.int .i64 (b7 (aQ m fs ns) x.op x.n x.mod x.nm x.args.length).n,.int .i64 (b7 (aQ m fs ns) x.op x.n x.mod x.nm x.args.length).m,.int .i64 (b7 (aQ m fs ns) x.op x.n x.mod x.nm x.args.length).pl,.slice none 0 0] 53 (0,0)) O (by rw [b]; rfl) ?_;refine WE.fg 4 (.cells (iH m fs ns q (er f (b7 (aQ m fs ns) x.op x.n x.mod x.nm x.args.length).e)).toArray 137 (0,0)) O (by rw [b]<;>first | rfl | rw [jw]) ?_
    exact Em () trivial (sc O (sc O (sc O (sc O sn)))) (λ_ h=>by
      have h:=h.aJ 4 rfl;have h:=h.aJ 4 rfl;have h:=h.aJ 4 rfl;have h:=h.aJ 4 rfl;have h:=Wt 4 h
      exact h)
   have K:¬(x.op=4/\it.kind=3):=by simpa using J
   rw [av K] at g;refine ac (I (Yf jI O) (I (Yd 3 O O O aa) (I (bx O O) (ab O ?_))));apply La 3 O O O O Y O O O O O
   ·intro an;refine Vg (Yf lO O) (Vg (Yd 0 O O O aa) (Vg (bx O O) ?_));exact Gt 3 O O O
   refine ai O (ad ?_);refine Cc O (λM=>?_) (λM=>?_)
   ·have N:x.op=5/\it.kind=4:=by simpa using M
    rw [a8 N] at g;refine Cs ?_;refine WC.gW 1 [(0,true),(1,true),(2,true),(3,true),(4,false),(5,false),(6,false)] mixed (by kernel_rfl) (λ_ _ _ d _ h=>by cases d<;>exact h) ?_;refine D0 O (Wp 1) (Ym O) (D0 O (Wp 1) (Yf ir O) (D0 O (Wp 1) (Yd 0 O O O aa) (D0 O (Wp 1) (Yf hf O) ?_)));refine De O (Wp 1) ?_;refine aT 1 Y O O O dr O O O (Ln (Ed ?_));refine De O (Wp 1) ?_;refine I (Yf rB O) (Ln (Ed ?_));refine De O (Wp 1) ?_;refine aT 1 Y O O O dr O O O (Ln (Ed ?_));refine WD.nil (Wp 1) ?_;refine Et (ac (I (Yf j8 O) (I (Yd 0 O O O aa) (I (Yf bA O) (I (Yd 3 O O O aa) (I (Yn fG O) (I (fh O O) (ad ?_))))))));refine Cc O (λP=>?_) (λP=>?_)
    ·have Q:¬it.n=(x.args.length:Int):=by simpa using P
     rw [av Q] at g;have b:=g;refine Cr (ab O (Lf 4 O (j_ [_] _ [f' j m fs ns q (er (f) 8)] Y O aK O O [o] (by simp) (λw l=>sE o j m fs ns q (f) 8 w l) (Ln (Eb ?_)))));refine WE.fg 2 (.cells #[.int .i64 (b7 (aQ m fs ns) x.op x.n x.mod x.nm x.args.length).op,.int .i64 (b7 (aQ m fs ns) x.op x.n x.mod x.nm x.args.length).n,.int .i64 (b7 (aQ m fs ns) x.op x.n x.mod x.nm x.args.length).m,.int .i64 (b7 (aQ m fs ns) x.op x.n x.mod x.nm x.args.length).pl,.slice none 0 0] 53 (0,0)) O (by rw [b]; rfl) ?_;refine WE.fg 0 (.cells (iH m fs ns q (er f (b7 (aQ m fs ns) x.op x.n x.mod x.nm x.args.length).e)).toArray 137 (0,0)) O (by rw [b]<;>first | rfl | rw [jw]) ?_
     exact Em () trivial (sc O (sc O (sc O (sc O sn)))) (λ_ h=>by
       have h:=h.aJ 0 rfl;have h:=h.aJ 4 rfl;have h:=h.aJ 4 rfl;have h:=h.aJ 4 rfl;have h:=Wt 4 h
       exact h)
    have Q:it.n=(x.args.length:Int):=by simpa using P
    rw [a8 Q] at g;have b:=g;refine Ck (Eb ?_);refine WE.fg 1 (.cells #[.int .i64 (b7 (aQ m fs ns) x.op x.n x.mod x.nm x.args.length).op,.int .i64 (b7 (aQ m fs ns) x.op x.n x.mod x.nm x.args.length).n,.int .i64 (b7 (aQ m fs ns) x.op x.n x.mod x.nm x.args.length).m,.int .i64 (b7 (aQ m fs ns) x.op x.n x.mod x.nm x.args.length).pl,.slice none 0 0] 53 (0,0)) O (by rw [b]; rfl) ?_;refine WE.fg 4 (.cells (iH m fs ns q (er f (b7 (aQ m fs ns) x.op x.n x.mod x.nm x.args.length).e)).toArray 137 (0,0)) O (by rw [b]<;>first | rfl | rw [jw]) ?_
    exact Em () trivial (sc O (sc O (sc O (sc O sn)))) (λ_ h=>by
      have h:=h.aJ 4 rfl;have h:=h.aJ 4 rfl;have h:=h.aJ 4 rfl;have h:=h.aJ 4 rfl;have h:=Wt 4 h
      exact h)
   have N:¬(x.op=5/\it.kind=4):=by simpa using M
   rw [av N] at g;have b:=g;refine Cr (ab O (Lf 4 O (j_ [_] _ [f' j m fs ns q (er (f) 7)] Y O aK O O [o] (by simp) (λw l=>sE o j m fs ns q (f) 7 w l) (Ln (Eb ?_)))));refine WE.fg 2 (.cells #[.int .i64 (b7 (aQ m fs ns) x.op x.n x.mod x.nm x.args.length).op,.int .i64 (b7 (aQ m fs ns) x.op x.n x.mod x.nm x.args.length).n,.int .i64 (b7 (aQ m fs ns) x.op x.n x.mod x.nm x.args.length).m,.int .i64 (b7 (aQ m fs ns) x.op x.n x.mod x.nm x.args.length).pl,.slice none 0 0] 53 (0,0)) O (by rw [b]; rfl) ?_;refine WE.fg 0 (.cells (iH m fs ns q (er f (b7 (aQ m fs ns) x.op x.n x.mod x.nm x.args.length).e)).toArray 137 (0,0)) O (by rw [b]<;>first | rfl | rw [jw]) ?_
   exact Em () trivial (sc O (sc O (sc O (sc O sn)))) (λ_ h=>by
     have h:=h.aJ 0 rfl;have h:=h.aJ 4 rfl;have h:=h.aJ 4 rfl;have h:=h.aJ 4 rfl;have h:=Wt 4 h
     exact h)
  have t:dd x.op 3 5=false:=y;have b:(b7 (aQ m fs ns) x.op x.n x.mod x.nm x.args.length)=⟨x.op,x.n,0,0,0⟩:=RI t;refine Ck ?_;refine WE.fg 0 (.cells #[.int .i64 (b7 (aQ m fs ns) x.op x.n x.mod x.nm x.args.length).op,.int .i64 (b7 (aQ m fs ns) x.op x.n x.mod x.nm x.args.length).n,.int .i64 (b7 (aQ m fs ns) x.op x.n x.mod x.nm x.args.length).m,.int .i64 (b7 (aQ m fs ns) x.op x.n x.mod x.nm x.args.length).pl,.slice none 0 0] 53 (0,0)) O (by rw [b]; rfl) ?_;refine WE.fg 3 (.cells (iH m fs ns q (er f (b7 (aQ m fs ns) x.op x.n x.mod x.nm x.args.length).e)).toArray 137 (0,0)) O (by rw [b]<;>first | rfl | rw [jw]) ?_
  exact Em () trivial (sc O (sc O (sc O (sc O sn)))) (λ_ h=>by
    have h:=h.aJ 3 rfl;have h:=h.aJ 3 rfl;have h:=h.aJ 3 rfl;have h:=h.aJ 3 rfl
    exact h)
 intro _ _;refine ac (ab O (I (Yf bA O) (I (Yd 2 O O O aa) (Lf 3 O ?_))));refine rZ (ι:=SP) [_] _ Y O aK O O (λr=>.slice r.1 (be (aQ m fs ns) x.args).length r.2) (λ_=>[f' j m fs ns q (er (er f (b7 (aQ m fs ns) x.op x.n x.mod x.nm x.args.length).e) (hM (aQ m fs ns) x.args))]) (λF r=>Sl (k8 (k+1)) 5 F r.1 r.2 (be (aQ m fs ns) x.args)) ([o]) (by simp) (λ_ _ h=>h) (λw l=>hN x.args a c _ w v (by omega) l) ?_;intro ao V W X;refine I (Yf B' O) (aT 1 Y O O O B_ O O O (ad (ac (I (cI 1 O O Ca O) (aT 2 Y O O O zz O O O (ad (aZ ?_)))))));refine WE.fm (hW O (ej 2 O O Ca O)) λw' l=>?_;rw [AY];have h:=l;rw [fJ,<-r5] at h;exact ⟨V,O,wx X (c8 l (by simp) W),(Ws.cK (b9:=[o]) (Ws.df (L:=[_]) (h)) (by simp))⟩
def WR (b:View) (d:Nat) (m:cm) (fs:List (List UInt8×List bW)) (ns:List (List UInt8)) (q:pK) (j:Int) (E:ho b m fs ns q) (k:Nat) (l:List ak) (a:Option Addr) (c:Nat) (w:World) (s:Sl (gn k) 5 b a c l) (an:ff l<=109951162777) (n:Ws w [d] [f' d m fs ns q (j)] [b] w) :
   Calls prog 229 #[.pointer (some ⟨d,0,none⟩),.slice a l.length c] w λe w'=>∃r:SP,e = .returned (.slice r.1 (be (aQ m fs ns) l).length r.2)/\Sl (k8 (k+1)) 5 (nv w w') r.1 r.2 (be (aQ m fs ns) l)/\Ws w [d] [f' d m fs ns q (er j (hM (aQ m fs ns) l))] [b] w':=by
 induction k using Nat.strongRecOn generalizing l a c j w
 rename_i k G;have ao:=s.cap;have ap:=s.max;have ar:=DT l;refine enter func229 O 23 O O ?_;refine CE n (ac (ai O (ad (ac (ai O (LW (λ_ h=>h.g3 53 5) ?_))))));refine WL.v0 ?_;refine ad (Cs (ac (ai O (ad (Cb (p4 1 (.cells (iH m fs ns q (er j (fb (h8 (aQ m fs ns)) (l.take 0)))).toArray 137 (0,0)) O (by rw [show fb (h8 (aQ m fs ns)) (l.take 0)=0 from O,jw]) ?_))))));refine e0 (ι:=GX XN) (λg=>[(6,.int .i64 (g.i:Int)),(5,.slice g.a g.es.length g.c)]) [(0,_),(1,_),(4,_)] (λg=>Ws w [d] [cW 53 5 XN.cells g.a g.c g.es,f' d m fs ns q (er j (fb (h8 (aQ m fs ns)) (l.take g.i)))] [g.J,b]) (λg=>g.i<=l.length/\g.es.map (·.1)=(l.take g.i).map (jR (aQ m fs ns))/\(eD w g.J/\Xs (m2 k) g.J g.es)) (λg=>l.length-g.i) ⟨0,[],none,0,v0⟩ ⟨cx _,O,⟨ol w,Xs.nil _⟩⟩ (λ_ h=>by have h:=Ws.cK h (b9:=[v0,b]) au; exact h) ?_;intro g ⟨hi,t,⟨x,z⟩⟩;refine Cs (ac (ab O (ab O (I (Yn fG O) (I (cy O O) (ad ?_))))));refine Cc O (λu=>?_) (λu=>?_)
 ·have H:g.i<l.length:=by simpa using u
  obtain ⟨y,p⟩:=dw H;obtain ⟨av,aw,K,A⟩:=s.aq g.i y p
  obtain ⟨o,rfl⟩:∃o,k=o+1:=by
    cases k with
    | zero=>exact A.elim
    | succ o=>exact ⟨o,rfl⟩
  obtain ⟨M,N,P,Q⟩:=A;have ax:=dD t hi;refine am (Cs (Cb (Cr (ab O (ab O (ab O (ab O (I (Yo fG O O K Z) (I (eq 1 fY O O O (P)) (Lf 1 O ?_))))))))));refine rZ (ι:=SP) [_] _ Y O aK O O (λr=>.agg (wv (jR (aQ m fs ns) y) r.1 r.2).toArray) (λ_=>[f' d m fs ns q (er (er j (fb (h8 (aQ m fs ns)) (l.take g.i))) (h8 (aQ m fs ns) y))]) (λF r=>m2 (o+1) F (jR (aQ m fs ns) y,r)) ([b]) au qy (λw n=>WQ b d m fs ns q _ o y M N w E (λl a c j w S T U=>G o Z j l a c w S T U) Q (by have:=DS p; omega) n) ?_;intro ay v V W;refine WL.jc λX aa ae af=>?_;refine Lb Y O o8 O O O O λaz=>?_;refine dn 0 (.cells (XN.cells (jR (aQ m fs ns) y,v)).toArray 53 (0,0)) O (O) ?_;refine LA (((jR (aQ m fs ns) y,v):XN)) 2 0 Y O o8 O O O O O O Z Z λag ah=>?_;refine ai O (Ln (Eb (Et (Cr (ab O (I (Yi O O O Z) (ai O (Ln ?_))))))));rw [fJ,<-tf (h8 (aQ m fs ns)) p];exact ct (⟨g.i+1,g.es++[(jR (aQ m fs ns) y,v)],ag,ah,X⟩:GX XN) (by show _-(g.i+1)<_; omega) ⟨(by show g.i+1<=_; omega),rC t p O,⟨af _ V x,Xs.snoc (R:=m2 _) (λhv h=>m2.mv hv h) z ae aa W⟩⟩ (λ_ h=>(Wt 2 ((h.f 1 O).f 2 O):))
 have B:g.i=l.length:=by simp at u; omega
 refine Ce (Ex (Ex (cU (Et (Cs ?_)))));refine WC.mu (rd:=D9) 0 O (λk C=>by simp at C; subst C; simp [eQ,aE,cq]) XN.dk eZ λaA aj al=>?_;refine Cr (ab O (ai O (ad (aZ ?_))));refine R1 O O λw' n=>?_;have D:=dU t B;rw [<-uK] at D;rw [<-D];have h:=n;rw [B,gv,<-A0] at h;exact ⟨(g.a,g.c),by rw [gD],IU al (c8 n au aj) (c8 n au x) z,(Ws.cK (b9:=[b]) (Ws.df (L:=[_]) (h)) au)⟩
def Yj (b:View) (d:Nat) (m:cm) (fs:List (List UInt8×List bW)) (ns:List (List UInt8)) (q:pK) (e:ho b m fs ns q) (k:Nat):Gu b d m fs ns q k:=by
 intro l a c f w g h i;exact WR b d m fs ns q f e k l a c w g h i
def Yk (l:View) (o:Nat) (m:cm) (fs:List (List UInt8×List bW)) (ns:List (List UInt8)) (q:pK) (f:Int) (ke k:Nat) (x:bE) (a:Option Addr) (c:Nat) (a2:Option Addr) (c2:Nat) (a3:Option Addr) (c3:Nat) (w:World) (S:ho l m fs ns q) (hN:Gu l o m fs ns q ke) (N:WP l o m fs ns q ke k) (y:Sl (gn ke) 5 l a c x.args) (T:Sl (e5 ke k) 6 l a2 c2 x.body) (U:Sl (e5 ke k) 6 l a3 c3 x.other) (ak:wS x<=109951162777) (b:Ws w [o] [f' o m fs ns q (f)] [l] w) :
   Calls prog 133 #[.pointer (some ⟨o,0,none⟩),.agg (qT x a c a2 c2 a3 c3).toArray] w λe w'=>∃r:td,e = .returned (.agg (ie (ik (aQ m fs ns) x) r).toArray)/\jd (ke+1) (k+1) (nv w w') (ik (aQ m fs ns) x,r)/\Ws w [o] [f' o m fs ns q (er f (gg (aQ m fs ns) x))] [l] w':=by
 have al:=DR x;have am:=y.cap;have an:=y.max;refine enter func133 O 110 O O ?_;refine CE b (ac ?_);refine WL.box Y O O λP=>?_;refine Al Y O vC λQ=>?_;refine ad (ac (I (Yf ht O) (I (Yd 1 O O O aa) (I (Yb vC Gh O O) ?_))));refine Al Y O vC λR=>?_;refine aT 0 Y O O O zA O O O (ad ?_);refine WC.s7 (ι:=Unit) (λ_u=>[(0,.pointer (some ⟨o,0,none⟩)),(3,.pointer (some ⟨P,0,none⟩)),(4,.pointer (some ⟨Q,0,none⟩)),(5,.pointer (some ⟨R,0,none⟩))]) (λ_u=>Ws w [o] [aE R (.cells #[.int .i64 (ar (aQ m fs ns) x.op x.mod x.nm x.args.length).op,.int .i64 (ar (aQ m fs ns) x.op x.mod x.nm x.args.length).n,.int .i64 (ar (aQ m fs ns) x.op x.mod x.nm x.args.length).m,.int .i64 (ar (aQ m fs ns) x.op x.mod x.nm x.args.length).pl,.slice none 0 0,.slice none 0 0,.slice none 0 0] 51 (0,0)),aE Q (.cells #[.int .i64 0,.int .i64 0,.int .i64 0,.int .i64 0,.slice none 0 0,.slice none 0 0,.slice none 0 0] 51 (0,0)),aE P (.cells (qT x a c a2 c2 a3 c3).toArray 241 (0,0)),f' o m fs ns q (er f (ar (aQ m fs ns) x.op x.mod x.nm x.args.length).e)] [l]) (λ_u=>True) ?_ ?_
 ·refine ac (I (Yf ht O) (I (Yd 2 O O O aa) (Lp Y O aK O (λw b=>FU _ w) (ad ?_))));refine Cc O (λz=>?_) (λz=>?_)
  ·have v:dd x.op 1 3=true:=z;refine ac (ab O (I (Yf qm O) (I (Yd 2 O O O aa) (I (Yf qn O) (I (Yd 2 O O O aa) (Lp Y O aK O (λw b=>ES (hv w) l o m fs ns q f x.mod x.nm w (gV w) (b.vs _ (by simp)) (b.nB 3 O) S) (ab O ?_)))))));refine I (Yx O O) (I (Yx O O) (I (Yx O O) ?_));refine Al Y O ha λao=>?_;refine ai O (aT 0 Y O O O iu O O O (ai O (ad (Cb (ac (ab O (I (eR O) (ai O (ad ?_)))))))));refine Cc O (λu=>?_) (λu=>?_)
   ·have s:eo (aQ m fs ns) x.mod x.nm=none:=by
      cases s:eo (aQ m fs ns) x.mod x.nm with
      | none=>rfl
      | some i=>rw [vI s] at u; cases u
    have j:(ar (aQ m fs ns) x.op x.mod x.nm x.args.length)=⟨x.op,0,0,0,5⟩:=WN v s;refine Cr (ab O (Lf 4 O (j_ [_] _ [f' o m fs ns q (er (f) 5)] Y O aK O O [l] (by simp) (λw b=>sE l o m fs ns q (f) 5 w b) (Ln (Eb ?_)))));refine WE.fg 2 (.cells #[.int .i64 (ar (aQ m fs ns) x.op x.mod x.nm x.args.length).op,.int .i64 (ar (aQ m fs ns) x.op x.mod x.nm x.args.length).n,.int .i64 (ar (aQ m fs ns) x.op x.mod x.nm x.args.length).m,.int .i64 (ar (aQ m fs ns) x.op x.mod x.nm x.args.length).pl,.slice none 0 0,.slice none 0 0,.slice none 0 0] 51 (0,0)) O (by rw [j]; rfl) ?_;refine WE.fg 0 (.cells (iH m fs ns q (er f (ar (aQ m fs ns) x.op x.mod x.nm x.args.length).e)).toArray 137 (0,0)) O (by rw [j]<;>first | rfl | rw [jw]) ?_
    exact Em () trivial (sc O (sc O (sc O (sc O sn)))) (λ_ h=>by
      have h:=h.aJ 0 rfl;have h:=h.aJ 4 rfl;have h:=h.aJ 4 rfl;have h:=h.aJ 4 rfl;have h:=Wt 4 h
      exact h)
   obtain ⟨t,it,s⟩:∃t it,eo (aQ m fs ns) x.mod x.nm=some (t,it):=by
     cases s:eo (aQ m fs ns) x.mod x.nm with
     | none=>rw [Co s] at u; cases u
     | some i=>exact ⟨i.1,i.2,rfl⟩
   have p:=WM (len:=x.args.length) v s;rw [vI s];refine ac (I (Yf ht O) (I (Yd 3 O O O aa) (I (bx O O) (ab O ?_))));apply La 7 (x:=((t==-1)||(it.kind==2))) O O O O Y O O O O O
   ·intro ap;refine Vg (Ym O) (Vg (bx O O) (Vg (Ym O) ?_));apply Lo 3 O O O O (.g O O O) O O O O O
    ·intro aq;refine Vg (Yf lO O) (Vg (Yd 0 O O O aa) (Vg (bx O O) ?_));exact Gt 3 O O O
    exact Gt 4 O O O
   refine ai O (ad ?_);refine Cc O (λA=>?_) (λA=>?_)
   ·have B:x.op=1/\(t = -1\/it.kind=2):=by simpa using A
    rw [a8 B] at p;have j:=p;refine WC.gW 1 [(0,true),(1,true),(2,true),(3,true),(4,false),(5,false),(6,false)] mixed (by kernel_rfl) (λ_ _ _ d _ h=>by cases d<;>exact h) ?_;refine D0 O (Wp 1) (Ym O) (D0 O (Wp 1) (Yf ir O) (D0 O (Wp 1) (Yd 0 O O O aa) (D0 O (Wp 1) (Yf ec O) ?_)));refine De O (Wp 1) ?_;refine aT 1 Y O O O dr O O O (Ln (Ed ?_));refine De O (Wp 1) ?_;refine I (Yf sB O) (Ln (Ed ?_));refine De O (Wp 1) ?_;refine aT 1 Y O O O dr O O O (Ln (Ed ?_));refine WD.nil (Wp 1) ?_;refine Eb ?_;refine WE.fg 1 (.cells #[.int .i64 (ar (aQ m fs ns) x.op x.mod x.nm x.args.length).op,.int .i64 (ar (aQ m fs ns) x.op x.mod x.nm x.args.length).n,.int .i64 (ar (aQ m fs ns) x.op x.mod x.nm x.args.length).m,.int .i64 (ar (aQ m fs ns) x.op x.mod x.nm x.args.length).pl,.slice none 0 0,.slice none 0 0,.slice none 0 0] 51 (0,0)) O (by rw [j]; rfl) ?_;refine WE.fg 4 (.cells (iH m fs ns q (er f (ar (aQ m fs ns) x.op x.mod x.nm x.args.length).e)).toArray 137 (0,0)) O (by rw [j]<;>first | rfl | rw [jw]) ?_
    exact Em () trivial (sc O (sc O (sc O (sc O sn)))) (λ_ h=>by
      have h:=h.aJ 4 rfl;have h:=h.aJ 4 rfl;have h:=h.aJ 4 rfl;have h:=h.aJ 4 rfl;have h:=Wt 4 h
      exact h)
   have B:¬(x.op=1/\(t = -1\/it.kind=2)):=by simpa using A
   rw [av B] at p;refine ac (ab O (I (bx O O) (ai O (ad ?_))));refine Cc O (λC=>?_) (λC=>?_)
   ·have D:t = -1:=by simpa using C
    rw [a8 D] at p;have j:=p;refine Cr (ab O (Lf 4 O (j_ [_] _ [f' o m fs ns q (er (f) 7)] Y O aK O O [l] (by simp) (λw b=>sE l o m fs ns q (f) 7 w b) (Ln (Eb ?_)))));refine WE.fg 2 (.cells #[.int .i64 (ar (aQ m fs ns) x.op x.mod x.nm x.args.length).op,.int .i64 (ar (aQ m fs ns) x.op x.mod x.nm x.args.length).n,.int .i64 (ar (aQ m fs ns) x.op x.mod x.nm x.args.length).m,.int .i64 (ar (aQ m fs ns) x.op x.mod x.nm x.args.length).pl,.slice none 0 0,.slice none 0 0,.slice none 0 0] 51 (0,0)) O (by rw [j]; rfl) ?_;refine WE.fg 0 (.cells (iH m fs ns q (er f (ar (aQ m fs ns) x.op x.mod x.nm x.args.length).e)).toArray 137 (0,0)) O (by rw [j]<;>first | rfl | rw [jw]) ?_
    exact Em () trivial (sc O (sc O (sc O (sc O sn)))) (λ_ h=>by
      have h:=h.aJ 0 rfl;have h:=h.aJ 4 rfl;have h:=h.aJ 4 rfl;have h:=h.aJ 4 rfl;have h:=Wt 4 h
      exact h)
   have D:¬t = -1:=by simpa using C
   rw [av D] at p;refine ac (I (Yf ht O) (I (Yd 3 O O O aa) (I (bx O O) (ab O ?_))));apply La 3 O O O O Y O O O O O
   ·intro au;refine Vg (Yf lO O) (Vg (Yd 0 O O O aa) (Vg (bx O O) ?_));exact Gt 3 O O O
   refine ai O (ad ?_);refine Cc O (λE=>?_) (λE=>?_)
   ·have G:x.op=2/\it.kind=3:=by simpa using E
    rw [a8 G] at p;have j:=p;refine WC.gW 1 [(0,true),(1,true),(2,true),(3,true),(4,true),(5,true),(6,false),(7,false),(8,false),(9,false),(10,false)] mixed (by kernel_rfl) (λ_ _ _ d _ h=>by cases d<;>exact h) ?_;refine D0 O (Wp 1) (Ym O) (D0 O (Wp 1) (Yf ir O) (D0 O (Wp 1) (Yd 0 O O O aa) (D0 O (Wp 1) (Yf j8 O) (D0 O (Wp 1) (Yd 0 O O O aa) (D0 O (Wp 1) (Yf ec O) ?_)))));refine De O (Wp 1) ?_;refine aT 1 Y O O O dr O O O (Ln (Ed ?_));refine De O (Wp 1) ?_;refine I (Yf sB O) (Ln (Ed ?_));refine De O (Wp 1) ?_;refine aT 1 Y O O O dr O O O (Ln (Ed ?_));refine De O (Wp 1) ?_;refine I (Yf zB O) (Ln (Ed ?_));refine De O (Wp 1) ?_;refine aT 1 Y O O O dr O O O (Ln (Ed ?_));refine WD.nil (Wp 1) ?_;refine Eb ?_;refine WE.fg 1 (.cells #[.int .i64 (ar (aQ m fs ns) x.op x.mod x.nm x.args.length).op,.int .i64 (ar (aQ m fs ns) x.op x.mod x.nm x.args.length).n,.int .i64 (ar (aQ m fs ns) x.op x.mod x.nm x.args.length).m,.int .i64 (ar (aQ m fs ns) x.op x.mod x.nm x.args.length).pl,.slice none 0 0,.slice none 0 0,.slice none 0 0] 51 (0,0)) O (by rw [j]; rfl) ?_;refine WE.fg 4 (.cells (iH m fs ns q (er f (ar (aQ m fs ns) x.op x.mod x.nm x.args.length).e)).toArray 137 (0,0)) O (by rw [j]<;>first | rfl | rw [jw]) ?_
    exact Em () trivial (sc O (sc O (sc O (sc O sn)))) (λ_ h=>by
      have h:=h.aJ 4 rfl;have h:=h.aJ 4 rfl;have h:=h.aJ 4 rfl;have h:=h.aJ 4 rfl;have h:=Wt 4 h
      exact h)
   have G:¬(x.op=2/\it.kind=3):=by simpa using E
   rw [av G] at p;refine ac (I (Yf ht O) (I (Yd 3 O O O aa) (I (bx O O) (ab O ?_))));apply La 3 O O O O Y O O O O O
   ·intro aw;refine Vg (Yf lO O) (Vg (Yd 0 O O O aa) (Vg (bx O O) ?_));exact Gt 3 O O O
   refine ai O (ad ?_);refine Cc O (λH=>?_) (λH=>?_)
   ·have J:x.op=3/\it.kind=4:=by simpa using H
    rw [a8 J] at p;refine Cs ?_;refine WC.gW 1 [(0,true),(1,true),(2,true),(3,true),(4,false),(5,false),(6,false)] mixed (by kernel_rfl) (λ_ _ _ d _ h=>by cases d<;>exact h) ?_;refine D0 O (Wp 1) (Ym O) (D0 O (Wp 1) (Yf ir O) (D0 O (Wp 1) (Yd 0 O O O aa) (D0 O (Wp 1) (Yf ec O) ?_)));refine De O (Wp 1) ?_;refine aT 1 Y O O O dr O O O (Ln (Ed ?_));refine De O (Wp 1) ?_;refine I (Yf sB O) (Ln (Ed ?_));refine De O (Wp 1) ?_;refine aT 1 Y O O O dr O O O (Ln (Ed ?_));refine WD.nil (Wp 1) ?_;refine Et (ac (I (Yf j8 O) (I (Yd 0 O O O aa) (I (Yf h5 O) (I (Yd 3 O O O aa) (I (Yn fG O) (I (fh O O) (ad ?_))))))));refine Cc O (λK=>?_) (λK=>?_)
    ·have M:¬it.n=(x.args.length:Int):=by simpa using K
     rw [av M] at p;have j:=p;refine Cr (ab O (Lf 4 O (j_ [_] _ [f' o m fs ns q (er (f) 8)] Y O aK O O [l] (by simp) (λw b=>sE l o m fs ns q (f) 8 w b) (Ln (Eb ?_)))));refine WE.fg 2 (.cells #[.int .i64 (ar (aQ m fs ns) x.op x.mod x.nm x.args.length).op,.int .i64 (ar (aQ m fs ns) x.op x.mod x.nm x.args.length).n,.int .i64 (ar (aQ m fs ns) x.op x.mod x.nm x.args.length).m,.int .i64 (ar (aQ m fs ns) x.op x.mod x.nm x.args.length).pl,.slice none 0 0,.slice none 0 0,.slice none 0 0] 51 (0,0)) O (by rw [j]; rfl) ?_;refine WE.fg 0 (.cells (iH m fs ns q (er f (ar (aQ m fs ns) x.op x.mod x.nm x.args.length).e)).toArray 137 (0,0)) O (by rw [j]<;>first | rfl | rw [jw]) ?_
     exact Em () trivial (sc O (sc O (sc O (sc O sn)))) (λ_ h=>by
       have h:=h.aJ 0 rfl;have h:=h.aJ 4 rfl;have h:=h.aJ 4 rfl;have h:=h.aJ 4 rfl;have h:=Wt 4 h
       exact h)
    have M:it.n=(x.args.length:Int):=by simpa using K
    rw [a8 M] at p;have j:=p;refine Ck (Eb ?_);refine WE.fg 1 (.cells #[.int .i64 (ar (aQ m fs ns) x.op x.mod x.nm x.args.length).op,.int .i64 (ar (aQ m fs ns) x.op x.mod x.nm x.args.length).n,.int .i64 (ar (aQ m fs ns) x.op x.mod x.nm x.args.length).m,.int .i64 (ar (aQ m fs ns) x.op x.mod x.nm x.args.length).pl,.slice none 0 0,.slice none 0 0,.slice none 0 0] 51 (0,0)) O (by rw [j]; rfl) ?_;refine WE.fg 4 (.cells (iH m fs ns q (er f (ar (aQ m fs ns) x.op x.mod x.nm x.args.length).e)).toArray 137 (0,0)) O (by rw [j]<;>first | rfl | rw [jw]) ?_
    exact Em () trivial (sc O (sc O (sc O (sc O sn)))) (λ_ h=>by
      have h:=h.aJ 4 rfl;have h:=h.aJ 4 rfl;have h:=h.aJ 4 rfl;have h:=h.aJ 4 rfl;have h:=Wt 4 h
      exact h)
   have J:¬(x.op=3/\it.kind=4):=by simpa using H
   rw [av J] at p;have j:=p;refine Cr (ab O (Lf 4 O (j_ [_] _ [f' o m fs ns q (er (f) 7)] Y O aK O O [l] (by simp) (λw b=>sE l o m fs ns q (f) 7 w b) (Ln (Eb ?_)))));refine WE.fg 2 (.cells #[.int .i64 (ar (aQ m fs ns) x.op x.mod x.nm x.args.length).op,.int .i64 (ar (aQ m fs ns) x.op x.mod x.nm x.args.length).n,.int .i64 (ar (aQ m fs ns) x.op x.mod x.nm x.args.length).m,.int .i64 (ar (aQ m fs ns) x.op x.mod x.nm x.args.length).pl,.slice none 0 0,.slice none 0 0,.slice none 0 0] 51 (0,0)) O (by rw [j]; rfl) ?_;refine WE.fg 0 (.cells (iH m fs ns q (er f (ar (aQ m fs ns) x.op x.mod x.nm x.args.length).e)).toArray 137 (0,0)) O (by rw [j]<;>first | rfl | rw [jw]) ?_
   exact Em () trivial (sc O (sc O (sc O (sc O sn)))) (λ_ h=>by
     have h:=h.aJ 0 rfl;have h:=h.aJ 4 rfl;have h:=h.aJ 4 rfl;have h:=h.aJ 4 rfl;have h:=Wt 4 h
     exact h)
  have v:dd x.op 1 3=false:=z;have j:(ar (aQ m fs ns) x.op x.mod x.nm x.args.length)=⟨x.op,0,0,0,0⟩:=WO v;refine Ck ?_;refine WE.fg 0 (.cells #[.int .i64 (ar (aQ m fs ns) x.op x.mod x.nm x.args.length).op,.int .i64 (ar (aQ m fs ns) x.op x.mod x.nm x.args.length).n,.int .i64 (ar (aQ m fs ns) x.op x.mod x.nm x.args.length).m,.int .i64 (ar (aQ m fs ns) x.op x.mod x.nm x.args.length).pl,.slice none 0 0,.slice none 0 0,.slice none 0 0] 51 (0,0)) O (by rw [j]; rfl) ?_;refine WE.fg 3 (.cells (iH m fs ns q (er f (ar (aQ m fs ns) x.op x.mod x.nm x.args.length).e)).toArray 137 (0,0)) O (by rw [j]<;>first | rfl | rw [jw]) ?_
  exact Em () trivial (sc O (sc O (sc O (sc O sn)))) (λ_ h=>by
    have h:=h.aJ 3 rfl;have h:=h.aJ 3 rfl;have h:=h.aJ 3 rfl;have h:=h.aJ 3 rfl
    exact h)
 intro _ _;refine ac (ab O (I (Yf h5 O) (I (Yd 2 O O O aa) (Lf 3 O ?_))));refine rZ (ι:=SP) [_] _ Y O aK O O (λr=>.slice r.1 (be (aQ m fs ns) x.args).length r.2) (λ_=>[f' o m fs ns q (er (er f (ar (aQ m fs ns) x.op x.mod x.nm x.args.length).e) (hM (aQ m fs ns) x.args))]) (λF r=>Sl (k8 (ke+1)) 5 F r.1 r.2 (be (aQ m fs ns) x.args)) ([l]) (by simp) (λ_ _ h=>h) (λw b=>hN x.args a c _ w y (by omega) b) ?_;intro ax V W X;refine I (Yf xH O) (aT 1 Y O O O B_ O O O (ad (ac (ab O (I (Yf mL O) (I (Yd 3 O O O aa) ?_))))));refine rZ (ι:=SP) [_] _ Y O aK O O (λr=>.slice r.1 (dL (aQ m fs ns) x.body).length r.2) (λ_=>[f' o m fs ns q (er (er (er f (ar (aQ m fs ns) x.op x.mod x.nm x.args.length).e) (hM (aQ m fs ns) x.args)) (dQ (aQ m fs ns) x.body))]) (λF r=>Sl (h7 (ke+1) (k+1)) 7 F r.1 r.2 (dL (aQ m fs ns) x.body)) ([l]) (by simp) (λ_ _ h=>h) (λw b=>N x.body a2 c2 _ w T (by omega) b) ?_;intro ay Z ae af;refine I (Yf pc O) (aT 1 Y O O O vD O O O (ad (ac (ab O (I (Yf lN O) (I (Yd 3 O O O aa) ?_))))));refine rZ (ι:=SP) [_] _ Y O aK O O (λr=>.slice r.1 (dL (aQ m fs ns) x.other).length r.2) (λ_=>[f' o m fs ns q (er (er (er (er f (ar (aQ m fs ns) x.op x.mod x.nm x.args.length).e) (hM (aQ m fs ns) x.args)) (dQ (aQ m fs ns) x.body)) (dQ (aQ m fs ns) x.other))]) (λF r=>Sl (h7 (ke+1) (k+1)) 7 F r.1 r.2 (dL (aQ m fs ns) x.other)) ([l]) (by simp) (λ_ _ h=>h) (λw b=>N x.other a3 c3 _ w U (by omega) b) ?_;intro az ag ah aj;refine I (Yf pq O) (aT 1 Y O O O vD O O O (ad (ac (I (cI 1 O O Cf O) (aT 2 Y O O O zA O O O (ad (aZ ?_)))))));refine WE.fm (hW O (ej 2 O O Cf O)) λw' b=>?_;rw [AZ];have h:=b;rw [fJ,fJ,fJ,<-p9] at h;exact ⟨⟨V,Z,ag⟩,O,⟨wx X (c8 b (by simp) W),p7 af (c8 b (by simp) ae),p7 aj (c8 b (by simp) ah)⟩,(Ws.cK (b9:=[l]) (Ws.df (L:=[_]) (h)) (by simp))⟩
def Nt (b:View) (d:Nat) (m:cm) (fs:List (List UInt8×List bW)) (ns:List (List UInt8)) (q:pK) (j:Int) (ke:Nat) (x:ho b m fs ns q) (k:Nat) (l:List bE) (a:Option Addr) (c:Nat) (w:World) (s:Sl (e5 ke k) 6 b a c l) (aw:dP l<=109951162777) (n:Ws w [d] [f' d m fs ns q (j)] [b] w) :
   Calls prog 67 #[.pointer (some ⟨d,0,none⟩),.slice a l.length c] w λe w'=>∃r:SP,e = .returned (.slice r.1 (dL (aQ m fs ns) l).length r.2)/\Sl (h7 (ke+1) (k+1)) 7 (nv w w') r.1 r.2 (dL (aQ m fs ns) l)/\Ws w [d] [f' d m fs ns q (er j (dQ (aQ m fs ns) l))] [b] w':=by
 induction k using Nat.strongRecOn generalizing l a c j w
 rename_i k G;have ax:=s.cap;have ay:=s.max;have az:=AI l;refine enter func67 O 23 O O ?_;refine CE n (ac (ai O (ad (ac (ai O (LW (λ_ h=>h.g3 51 7) ?_))))));refine WL.v0 ?_;refine ad (Cs (ac (ai O (ad (Cb (p4 1 (.cells (iH m fs ns q (er j (fb (gg (aQ m fs ns)) (l.take 0)))).toArray 137 (0,0)) O (by rw [show fb (gg (aQ m fs ns)) (l.take 0)=0 from O,jw]) ?_))))));refine e0 (ι:=GX XA) (λg=>[(6,.int .i64 (g.i:Int)),(5,.slice g.a g.es.length g.c)]) [(0,_),(1,_),(4,_)] (λg=>Ws w [d] [cW 51 7 XA.cells g.a g.c g.es,f' d m fs ns q (er j (fb (gg (aQ m fs ns)) (l.take g.i)))] [g.J,b]) (λg=>g.i<=l.length/\g.es.map (·.1)=(l.take g.i).map (ik (aQ m fs ns))/\(eD w g.J/\Xs (jd (ke+1) k) g.J g.es)) (λg=>l.length-g.i) ⟨0,[],none,0,v0⟩ ⟨cx _,O,⟨ol w,Xs.nil _⟩⟩ (λ_ h=>by have h:=Ws.cK h (b9:=[v0,b]) au; exact h) ?_;intro g ⟨hi,t,⟨z,A⟩⟩;refine Cs (ac (ab O (ab O (I (Yn h_ O) (I (cy O O) (ad ?_))))));refine Cc O (λu=>?_) (λu=>?_)
 ·have H:g.i<l.length:=by simpa using u
  obtain ⟨y,p⟩:=dw H;obtain ⟨aA,aB,K,B⟩:=s.aq g.i y p
  obtain ⟨o,rfl⟩:∃o,k=o+1:=by
    cases k with
    | zero=>exact B.elim
    | succ o=>exact ⟨o,rfl⟩
  obtain ⟨M,N,P,Q,S,T,U,V,W,X⟩:=B;have aC:=dD t hi;refine am (Cs (Cb (Cr (ab O (ab O (ab O (ab O (I (Yo h_ O O K Z) (I (eq 1 iR O O O (U)) (Lf 1 O ?_))))))))));refine rZ (ι:=td) [_] _ Y O aK O O (λr=>.agg (ie (ik (aQ m fs ns) y) r).toArray) (λ_=>[f' d m fs ns q (er (er j (fb (gg (aQ m fs ns)) (l.take g.i))) (gg (aQ m fs ns) y))]) (λF r=>jd (ke+1) (o+1) F (ik (aQ m fs ns) y,r)) ([b]) au qy (λw n=>Yk b d m fs ns q _ ke o y M N P Q S T w x (Yj b d m fs ns q x ke) (λl a c j w aa ae af=>G o Z j l a c w aa ae af) V W X (by have:=AH p; omega) n) ?_;intro aD v ag ah;refine WL.jc λaj ak al an=>?_;refine Lb Y O xI O O O O λaF=>?_;refine dn 0 (.cells (XA.cells (ik (aQ m fs ns) y,v)).toArray 51 (0,0)) O (O) ?_;refine LA (((ik (aQ m fs ns) y,v):XA)) 2 0 Y O xI O O O O O O Z Z λao ap=>?_;refine ai O (Ln (Eb (Et (Cr (ab O (I (Yi O O O Z) (ai O (Ln ?_))))))));rw [fJ,<-tf (gg (aQ m fs ns)) p];exact ct (⟨g.i+1,g.es++[(ik (aQ m fs ns) y,v)],ao,ap,aj⟩:GX XA) (by show _-(g.i+1)<_; omega) ⟨(by show g.i+1<=_; omega),rC t p O,⟨an _ ag z,Xs.snoc (R:=jd _ _) (λhv h=>jd.mv hv h) A al ak ah⟩⟩ (λ_ h=>(Wt 2 ((h.f 1 O).f 2 O):))
 have C:g.i=l.length:=by simp at u; omega
 refine Ce (Ex (Ex (cU (Et (Cs ?_)))));refine WC.mu (rd:=wy) 0 O (λk D=>by simp at D; subst D; simp [eQ,aE,cq]) XA.dk eZ λaG ar av=>?_;refine Cr (ab O (ai O (ad (aZ ?_))));refine R1 O O λw' n=>?_;have E:=dU t C;rw [<-cZ] at E;rw [<-E];have h:=n;rw [C,gv,<-wB] at h;exact ⟨(g.a,g.c),by rw [gD],D' av (c8 n au ar) (c8 n au z) A,(Ws.cK (b9:=[b]) (Ws.df (L:=[_]) (h)) au)⟩
structure GQ where
 i:Nat
 es:List XP
 a:Option Addr
 c:Nat
 J:View
 ns:List (List UInt8)
 na:SP
variable {cj:Option Addr}
def Nv {H HF F a:View} {ke ks:Nat} {r:iB}     {oa:SP}  {na:SP} (b:jb ke ks a r bp) (c:Sl oV 2 a cj ae jk) (d:Sl hK 4 a oa.1 oa.2 (dG bp)) (e:Sl rdStr 1 a na.1 na.2 dE) (f:jk.length=bp.aP.length):ho a bp jk dE ⟨r,(cj,ae),oa,na⟩:=⟨b.aP,c,d,e,f.symm⟩
def Nw (hv:bK bc b_)    (h:Sl oV 2 bc cj ae jk):Sl oV 2 b_ cj ae jk:=h.imp λb o f ⟨r,a,c⟩=>⟨r,cw.mono hv a,c.imp λb o x d=>IP hv b o x d⟩
def vJ (hv:bK bc b_)    (h:Sl hK 4 bc cj ae aO):Sl hK 4 b_ cj ae aO:=h.imp λb o x a=>IP hv b o x a
def Yq:hx prog 137=some [(0,5),(5,1),(6,1),(7,1),(8,1)]:=aa
def Yr:zeroOf prog 137=some (.agg #[st [],.slice none 0 0,.slice none 0 0,.slice none 0 0,.slice none 0 0,.slice none 0 0,.slice none 0 0,.slice none 0 0,.int .i64 0]):=aa
def WW (H HF:View) (ke ks:Nat) (r:iB) (m:cm) (fa:Option Addr) (fc:Nat) (fs:List (List UInt8×List bW)) (w:World) (a3:Le H w) (a5:Le HF w) (A:jb ke ks H r m) (V:Sl oV 2 HF fa fc fs) (a6:wM m<=109951162777) :
   Calls prog 14 #[.agg (fi m r).toArray,.slice fa fs.length fc] w λe w'=>∃r:kf,e = .returned (.tuple #[.agg (eV (dp m fs).1 r).toArray,.int .i64 (dp m fs).2])/\Ext w w'/\kG (ke+1) (ks+1) (nv w w') r (dp m fs).1:=by
 have b1:=V.cap;have b2:=V.max;refine enter func14 O 141 O O ?_;refine CE (Vs:=[HF,H]) (Ws.init (by simp [a5,a3])) (ac ?_);refine WL.box Y O O λK=>?_;refine Al Y O bo λL=>?_;refine dn 0 (.cells (eV bm ge).toArray 37 (0,0)) O O (ai O (ad (Cs (ac (I (cI 1 O O bh O) ?_)))));refine Ld Y O aK O (λr:SP=>.tuple #[.agg #[st (en m).1.1,.slice r.1 (en m).1.2.length r.2],.int .i64 (en m).2]) (λH r=>Sl hK 4 H r.1 r.2 (en m).1.2) (λw l=>Wj H ke ks r m w (l.vs _ (by simp)) A a6) ?_;intro b4 b6 b7 b';refine ab O (I (Yx O O) (I (Yx O O) ?_));refine Al Y O kU λb_=>?_;refine aT 0 Y O O O bU O O O (ai O (ad (ac (ab O (I (fh O O) (ad ?_))))));refine Cc O (λX=>?_) (λX=>?_)
 ·have C:¬(en m).2=0:=by simpa using X
  refine ac (I (Yb bo n4 O O) (ab O (aT 1 Y O O O iW O O O (ai O (ad (aZ (Er ?_)))))));refine WE.mV 1 O O O O jl O λw' l=>?_;rw [uv C];exact ⟨ge,O,l.fr,b3 _⟩
 have C:(en m).2=0:=by simpa using X
 obtain ⟨a7,ca,cb⟩:=Gm C;have Z:=zu a7;have fy:=Z.fy;have cc:=A.aP.max;have cd:=A.aP.cap;have ce:=A.procs.max;have cg:=A.procs.cap;have ch:wM m=1+m.nm.length+wN m.aP+wD m.decls+wP m.procs+dP m.main:=rfl;refine am (Cs (ac (ab O (I (Yn oW O) (I (Yf j4 O) (I (Yd 2 O O O aa) (I (Yn dT O) (I (fh O O) (ad ?_)))))))));refine Cc O (λae=>?_) (λae=>?_)
 ·have a8:¬fs.length=m.aP.length:=by simp at ae; omega
  refine ac (I (Yb bo n4 O O) (aT 1 Y O O O iW O O O (ai O (ad (aZ (Er ?_))))));refine WE.mV 1 O O O O jl O λw' l=>?_;rw [Gj C a8];exact ⟨ge,O,l.fr,b3 _⟩
 have M:fs.length=m.aP.length:=by simp at ae; omega
 refine am (Cs (ac (ai O (ad (Cb ?_)))));refine CW (ι:=Nat) (λi=>[(8,.int .i64 (i:Int))]) [(1,_),(2,_),(4,_)] (λi=>i<=fs.length/\∀(k:Nat) u f,k<i->m.aP[k]? = some u->fs[k]? = some f->lQ u f=true) (λi=>fs.length-i) 0 ⟨cx _,λk u f D=>absurd D (ue k)⟩ (sc O (sc O (sc O (sc O sn)))) ?_;intro i ⟨hi,aF⟩;refine Cs (ac (ab O (ab O (I (Yn oW O) (I (cy O O) (ad ?_))))));refine Cc O (λaf=>?_) (λaf=>?_)
 ·have ag:i<fs.length:=by simpa using af
  obtain ⟨f,ah⟩:∃f,fs[i]? = some f:=⟨_,dM ag⟩;obtain ⟨ci,cj,aG,aI,aL,a9⟩:=V.aq i f ah;obtain ⟨u,aj⟩:∃u,m.aP[i]? = some u:=⟨_,dM (by omega)⟩;obtain ⟨a',a_,ba,ak⟩:=A.aP.aq i u aj;have ak:cw H a' (a_+i*1) (eE u):=ak;refine am (Cs (Cb (Cs ?_)));refine WC.hU [(0,true),(1,true),(2,true),(3,true),(4,false),(5,true),(6,true),(7,true),(8,true),(9,true),(10,true),(11,true),(12,true),(13,true),(14,true),(15,true),(16,true),(17,true),(18,true)] mixed (by kernel_rfl) (λ_ _ _ d _ h=>by cases d<;>exact h) ?_;refine D0 O (λ_ h=>h) (Ym O) (D0 O (λ_ h=>h) (Ym O) (D0 O (λ_ h=>h) (Yo oW O O aG (by omega)) (D0 O (λ_ h=>h) (eq 1 ll O O O (aL)) ?_)));refine De O (λ_ h=>h) ?_;refine Lp Y O aK O (λw l=>We HF aI.1 aI.2 f.1 f.2 w (l.vs _ (by simp)) a9) (Ln (Ed (D0 O (λ_ h=>h) (fh O O) (D0 O (λ_ h=>h) (Ym O) ?_))));apply WD.or 11 O O O O O Y O (λ_ h=>h) O O O O
  ·intro ck;refine Dq O (.g O O O) O (λ_ h=>h) (Ym O) (Dq O (.g O O O) O (λ_ h=>h) (Ym O) (Dq O (.g O O O) O (λ_ h=>h) (Yo oW O O aG (by omega)) (Dq O (.g O O O) O (λ_ h=>h) (Yf rz O) (Dq O (.g O O O) O (λ_ h=>h) (cC 1 aa O O (aL 0 _ O)) (Dq O (.g O O O) O (λ_ h=>h) (Yf j4 O) (Dq O (.g O O O) O (λ_ h=>h) (Yd 2 O O O aa) (Dq O (.g O O O) O (λ_ h=>h) (Ym O) ?_)))))));refine Dq O (.g O O O) O (λ_ h=>h) (Yo dT O O ba (by omega)) (Dq O (.g O O O) O (λ_ h=>h) (cC 2 aa O O (ak 0 _ O)) (Dq O (.g O O O) O (λ_ h=>h) (rQ O O) ?_));exact Gi 11 (λ_ h=>h) O O O
  refine WD.nil (λ_ h=>h) ?_;refine Et ?_;refine Cc O (λal=>?_) (λal=>?_)
  ·have bb:lQ u f=false:=by
     have an:(!(h6 f.1 f.2==0)||!(f.1==u))=true:=al;unfold lQ
     revert an
     cases (h6 f.1 f.2==0)<;>cases (f.1==u)<;>simp
   have bc:m3 m.aP fs=false:=by
     rw [vP];intro h;have:=vE.1 h i u f aj ah;rw [bb] at this; cases this
   refine ac (I (Yb bo n4 O O) (aT 1 Y O O O iW O O O (ai O (ad (aZ (cf (Er (Er (cf (Er ?_))))))))));refine WE.mV 1 O O O O jl O λw' l=>?_;rw [uG C M bc];exact ⟨ge,O,l.fr,b3 _⟩
  have bd:lQ u f=true:=by
    have an:(!(h6 f.1 f.2==0)||!(f.1==u))=false:=al;unfold lQ
    revert an
    cases (h6 f.1 f.2==0)<;>cases (f.1==u)<;>simp
  refine Ck (Eb (Et (Cr (ab O (I (Yi O O O (by omega)) (ai O (Ln ?_)))))))
  exact Ea (i+1) (by omega) ⟨by omega,λk be bf D N P=>by
      rcases gT.1 D with h | rfl
      · exact aF k be bf h N P
      · rw [aj] at N; rw [ah] at P; injection N with N; injection P with P; subst N; subst P; exact bd⟩ (sc rfl (sc rfl (sc rfl (sc rfl sn)))) (λ_ h=>h)
 have cl:i=fs.length:=by simp at af; omega
 have aM:m3 m.aP fs=true:=vE.2 λk u f bg aN=>aF k u f (by have:=(cS.1 aN).1; omega) bg aN;refine Ce (Ex (Ex (cU (Et (ac (I (cI 2 O O bh O) ?_))))));refine Ld Y O aK O (λr:SP×SP=>.tuple #[.slice r.1.1 (dG m).length r.1.2,.slice r.2.1 (k7 m).length r.2.2,.int .i64 (kF m)]) (λH r=>Sl hK 4 H r.1.1 r.1.2 (dG m)/\Sl rdBool 1 H r.2.1 r.2.2 (k7 m)) (λw l=>MY H ke ks r m w (l.vs _ (by simp)) A Z) ?_;intro co s cp ⟨bk,cq⟩;refine ab O (I (Yx O O) (I (Yx O O) (I (Yx O O) (ai O (ai O (ai O (ad (ac ?_))))))));refine I (cI 2 O O bh O) (ab O (ab O (I (Yb Yr Yq O O) ?_)));refine WL.box Y O O λy=>?_;refine dn 0 (.cells (iH m fs [] ⟨r,(fa,fc),s.1,(none,0)⟩ 0).toArray 137 (0,0)) O O ?_;refine WL.jc λcr bl cs _=>?_;refine WL.jc λct bn bp _=>?_;refine WL.jc λn aO bq _=>?_;have E:=ul A bq;have aR:=Nw (bK.trans bp aO) V;have aS:=vJ (bK.trans (bK.trans bl bn) aO) bk;refine ai O (ad ?_);refine WC.s7 (ι:=SP×Nat) (λG=>[(2,.pointer (some ⟨K,0,none⟩)),(4,.pointer (some ⟨L,0,none⟩)),(12,.pointer (some ⟨y,0,none⟩)),(13,.pointer (some ⟨G.2,0,none⟩))]) (λG=>Ws w [] [cW 9 1 eE G.1.1 G.1.2 (m.aP),f' y m fs [] ⟨r,(fa,fc),s.1,(none,0)⟩ (0),aE G.2 (.cells (nj m G.1 ([]:List XP).length (none,0)).toArray 37 (0,0)),aE L (.cells (eV bm ge).toArray 37 (0,0)),aE K (.cells (fi m r).toArray 27 (0,0))] [n]) (λG=>True) ?_ ?_
 ·refine WC.HA (.q 0 (.q 1 (.q 3 (.q 4 (.q 6 (.e 2 (.e 5 (.q 7 (.e 8 (.e 9 .nil .stop) .stop)) (.e 8 (.e 5 (.q 7 (.e 9 .nil .stop)) .stop) .stop)) (.e 8 (.e 2 (.e 5 (.q 7 (.e 9 .nil .stop)) .stop) .stop) .stop))))))) mixed (by kernel_rfl) (λ_ _ _ d _ h=>by cases d<;>exact h) ?_;refine WT.q O Y O (λ_ h=>h) (Yf g7 O) ?_;refine WT.q O Y O (λ_ h=>h) (Yd 3 O O O aa) ?_;refine WT.q O Y O (λ_ h=>h) (Yf j4 O) ?_;refine WT.q O Y O (λ_ h=>h) (Yd 3 O O O aa) ?_;refine WT.q O Y O (λ_ h=>h) (Ym O) ?_;refine WT.e O (λ_ h=>h) ?_ ?_
  ·refine WL.qI Y O ei O O O λbr=>?_;refine WL.pY (size:=1) 0 O (eH 0) (cx _) O ?_;refine WL.o3 0 ([]:List Tx).length (([]:List Tx).flatMap eE) O O O ?_;refine Ln (hz ?_);refine WT.e O (λ_ h=>(Wd 1 h:)) ?_ ?_
   ·refine WL.o7 (ys:=m.aP) (xs:=[]) 0 (λ_=>n) Y O ei O O O (λw l=>⟨l.vs n (by simp),E.aP⟩) (λ_ _ _ _ h=>h) iM sy (by simp; omega) (by simp; omega) λQ S=>?_;refine Ln (hz ?_);refine WT.q O Y O (λ_ h=>(Wd 1 h:)) (Yb bo n4 O O) ?_;refine WT.e O (λ_ h=>(Wd 1 h:)) ?_ WT.stop;refine Al Y O bo λz=>?_;refine Ln (hz ?_);refine WT.e O (λ_ h=>(Wd 2 h:)) ?_ WT.stop;refine aT 0 Y O O O iW O O O (Ln (hz ?_));refine WT.nil (λ_ h=>(Wd 2 h:)) ?_
    exact Em ((Q,S),z) trivial (sc O (sc O (sc O (sc O sn)))) (λ_ h=>by
      have h:=h.aJ 5 rfl;have h:=h.aJ 5 rfl;have h:=h.aJ 2 rfl;have h:=h.aJ 4 rfl;have h:=h.aJ 4 rfl;have h:=Wt 5 h
      exact h)
   refine WT.e O (λ_ h=>(Wd 1 h:)) ?_ WT.stop;refine Al Y O bo λz=>?_;refine Ln (hz ?_);refine WT.e O (λ_ h=>(Wd 2 h:)) ?_ WT.stop;refine WL.o7 (ys:=m.aP) (xs:=[]) 1 (λ_=>n) Y O ei O O O (λw l=>⟨l.vs n (by simp),E.aP⟩) (λ_ _ _ _ h=>h) iM sy (by simp; omega) (by simp; omega) λQ S=>?_;refine Ln (hz ?_);refine WT.q O Y O (λ_ h=>(Wd 2 h:)) (Yb bo n4 O O) ?_;refine WT.e O (λ_ h=>(Wd 2 h:)) ?_ WT.stop;refine aT 0 Y O O O iW O O O (Ln (hz ?_));refine WT.nil (λ_ h=>(Wd 2 h:)) ?_
   exact Em ((Q,S),z) trivial (sc O (sc O (sc O (sc O sn)))) (λ_ h=>by
     have h:=h.aJ 5 rfl;have h:=h.aJ 5 rfl;have h:=h.aJ 2 rfl;have h:=h.aJ 4 rfl;have h:=h.aJ 4 rfl;have h:=Wt 5 h
     exact h)
  refine WT.e O (λ_ h=>h) ?_ WT.stop;refine Al Y O bo λz=>?_;refine Ln (hz ?_);refine WT.e O (λ_ h=>(Wd 1 h:)) ?_ WT.stop;refine WL.qI Y O ei O O O λbr=>?_;refine WL.pY (size:=1) 0 O (eH 0) (cx _) O ?_;refine WL.o3 0 ([]:List Tx).length (([]:List Tx).flatMap eE) O O O ?_;refine Ln (hz ?_);refine WT.e O (λ_ h=>(Wd 2 h:)) ?_ WT.stop;refine WL.o7 (ys:=m.aP) (xs:=[]) 0 (λ_=>n) Y O ei O O O (λw l=>⟨l.vs n (by simp),E.aP⟩) (λ_ _ _ _ h=>h) iM sy (by simp; omega) (by simp; omega) λQ S=>?_;refine Ln (hz ?_);refine WT.q O Y O (λ_ h=>(Wd 2 h:)) (Yb bo n4 O O) ?_;refine WT.e O (λ_ h=>(Wd 2 h:)) ?_ WT.stop;refine aT 1 Y O O O iW O O O (Ln (hz ?_));refine WT.nil (λ_ h=>(Wd 2 h:)) ?_
  exact Em ((Q,S),z) trivial (sc O (sc O (sc O (sc O sn)))) (λ_ h=>by
    have h:=h.aJ 5 rfl;have h:=h.aJ 5 rfl;have h:=h.aJ 3 rfl;have h:=h.aJ 4 rfl;have h:=h.aJ 4 rfl;have h:=Wt 5 h
    exact h)
 intro ⟨u,z⟩ _;refine Cs (Cs ?_);refine WC.mu (rd:=rdStr) 0 O (λ_ D=>by cases D) iM (λ_ _ _ _ h=>h) λT bs bt=>?_;refine n8 (λ_ h=>h.g3 107 3) ?_;refine n8 (λ_ h=>h.v0) ?_;refine Cr (ai O (ad (Cb ?_)));refine Da (ι:=GQ) (λj=>[(14,.int .i64 (j.i:Int))]) [(2,_),(4,_),(12,_),(13,_)] (λj=>Ws w [] [f' y m fs j.ns ⟨r,(fa,fc),s.1,j.na⟩ (fb (bj m fs) (m.procs.take j.i)),aE z (.cells (nj m u j.es.length (j.a,j.c)).toArray 37 (0,0)),cW 107 3 XP.cells j.a j.c j.es,aE L (.cells (eV bm ge).toArray 37 (0,0)),aE K (.cells (fi m r).toArray 27 (0,0))] [j.J,T,n]) (λj=>j.i<=m.procs.length/\j.es.map (·.1)=(m.procs.take j.i).map (k9 m fs)/\(eD w j.J/\Xs (nA (ke+1) (ks+1)) j.J j.es)) (λj=>m.procs.length-j.i) ⟨0,[],none,0,v0,[],(none,0)⟩ ⟨cx _,O,⟨ol w,Xs.nil _⟩⟩ (sc O (sc O (sc O (sc O (sc O sn))))) (λ_ h=>by have h:=h.aJ 4 O; have h:=h.aJ 4 O; have h:=h.aJ 2 O; have h:=h.aJ 4 O; have h:=h.aJ 4 O; have h:=Ws.cK h (b9:=[v0,T,n]) (by simp); exact h) ?_;intro j ⟨bu,ao,⟨aU,aV⟩⟩;refine Cs (ac (ab O (I (Yf lh O) (I (Yd 4 O O O aa) (I (Yn j5 O) (I (cy O O) (ad ?_)))))));refine Cc O (λap=>?_) (λap=>?_)
 ·have ag:j.i<m.procs.length:=by simpa using ap
  obtain ⟨p,U⟩:∃q,m.procs[j.i]? = some q:=⟨_,dM ag⟩;obtain ⟨cu,cz,bv,bw⟩:=E.procs.aq j.i p U;obtain ⟨bx,bz,bA,bB,ar,au,bC,av,ax,bD⟩:=bw;have op:=sm (Z.procs p (gu U));have cA:=op.fy;have cB:=y_ U;have cD:=av.max;have cE:=av.cap;have cF:=ax.max;have cG:=ax.cap;have cH:=dD ao bu;refine am (Cs (Cb (ac (I (Yf lh O) (I (Yd 4 O O O aa) (ab O (I (Yo j5 O O bv (by omega)) (I (eq 2 ru O O O (bC)) ?_))))))));refine Al Y O pB λaW=>?_;refine aT 0 Y O O O dq O O O (ad (Cs ?_));refine CU (λ_=>true) [] [8,9,10] (.q false 0 (.q false 2 (.q true 3 (.q false 5 (.q true 6 (.e 1 (.e 4 (.e 7 .nil .stop) .stop) .stop)))))) mixed (by kernel_rfl) (λ_ _ _ d _ _ h=>by cases d<;>exact h) ?_;refine U0 O (λ_ h=>h) (Ym O) (U0 O (λ_ h=>h) (Yf kT O) (U0 O (λ_ h=>h) (Yd 0 O O O aa) (U0 O (λ_ h=>h) (Yf nX O) (U0 O (λ_ h=>h) (Yd 0 O O O aa) ?_))));refine Ue O (λ_ h=>h) ?_ WU.stop;refine WL.qI Y O ei O O O λcJ=>?_;refine WL.pY (size:=1) 0 O (eH 0) (cx _) O ?_;refine WL.o3 0 ([]:List Tx).length (([]:List Tx).flatMap eE) O O O ?_;refine Ln (Eu ?_);refine Ue O (λ_ h=>(Wd 1 h:)) ?_ WU.stop;refine WL.o7 (ys:=p.params) (xs:=[]) 0 (λ_=>n) Y O ei O O O (λw l=>⟨l.vs n (by simp),av⟩) (λ_ _ _ _ h=>h) iM sy (by simp; omega) (by simp; omega) λcL cM=>?_;refine Ln (Eu ?_);refine Ue O (λ_ h=>(Wd 1 h:)) ?_ WU.stop;refine WL.o7 (ys:=p.aH) (xs:=[]++p.params) 0 (λ_=>n) Y O ei O O O (λw l=>⟨l.vs n (by simp),ax⟩) (λ_ _ _ _ h=>h) iM sy (by simp; omega) (by simp; omega) λt v=>?_;refine Ln (Eu ?_);refine WU.nil (λ_ h=>(Wd 1 h:)) ?_;refine WS.e O ?_;refine I (bV O) (Ln (Es ?_));refine WS.e O ?_;refine I (Yf zD O) (Ln (Es ?_));refine WS.e O ?_;refine aT 2 Y O O O xy O O O (Ln (Es ?_));refine WS.nil ?_;refine Et ?_;refine WC.r0 (rd:=rdStr) 0 O iM (λ_ _ _ _ h=>h) λaX ay=>?_;have ay:Sl rdStr 1 aX t v (p.params++p.aH):=ay;refine n8 (λ_ h=>Ws.cK h (b9:=[aX,n,j.J,T,n]) (by simp)) ?_;refine WC.jc λB bE W _=>?_;have aY:=n0 ay bE;have bF:ho B m fs (p.params++p.aH) ⟨r,(fa,fc),s.1,(t,v)⟩:=Nv (H:=H) (HF:=HF) (F:=H) (ul E W) (Nw W aR) (vJ W aS) aY M;have bG:Sl (e5 ke ks) 6 B ar au p.body:=bD.imp λb o x bH=>nw W (eH _) (eH _) b o x bH;refine p4 1 (.cells (iH m fs (p.params++p.aH) ⟨r,(fa,fc),s.1,(t,v)⟩ (fb (bj m fs) (m.procs.take j.i))).toArray 137 (0,0)) O O ?_;refine WC.s7 (ι:=Unit) (λ_u=>[(2,.pointer (some ⟨K,0,none⟩)),(4,.pointer (some ⟨L,0,none⟩)),(12,.pointer (some ⟨y,0,none⟩)),(13,.pointer (some ⟨z,0,none⟩)),(14,.int .i64 (j.i:Int)),(15,.pointer (some ⟨aW,0,none⟩))]) (λ_u=>Ws w [] [f' y m fs (p.params++p.aH) ⟨r,(fa,fc),s.1,(t,v)⟩ (er (fb (bj m fs) (m.procs.take j.i)) (if e1 (p.params++p.aH)=true then 6 else 0)),aE z (.cells (nj m u j.es.length (j.a,j.c)).toArray 37 (0,0)),cW 107 3 XP.cells j.a j.c j.es,aE aW (.cells (wi p bx bz bA bB ar au).toArray 113 (0,0)),aE L (.cells (eV bm ge).toArray 37 (0,0)),aE K (.cells (fi m r).toArray 27 (0,0))] [B,j.J,T,n]) (λ_u=>True) ?_ ?_
  ·refine ac (ab O (I (bV O) (I (Yf zD O) (I (Yd 1 O O O aa) (Lp Y O aK O (λw l=>oq B t v (p.params++p.aH) w (l.vs _ (by simp)) aY) (ad ?_))))));refine Cc O (λaz=>?_) (λaz=>?_)
   ·have aA:e1 (p.params++p.aH)=true:=az;refine Cr (ab O (Lf 1 O (j_ [_] _ [f' y m fs (p.params++p.aH) ⟨r,(fa,fc),s.1,(t,v)⟩ (er (fb (bj m fs) (m.procs.take j.i)) 6)] Y O aK O O [B] (by simp) (λw l=>sE B y m fs (p.params++p.aH) ⟨r,(fa,fc),s.1,(t,v)⟩ (fb (bj m fs) (m.procs.take j.i)) 6 w l) (Ln ?_))));refine WE.fg 0 (.cells (iH m fs (p.params++p.aH) ⟨r,(fa,fc),s.1,(t,v)⟩ (er (fb (bj m fs) (m.procs.take j.i)) (if e1 (p.params++p.aH)=true then 6 else 0))).toArray 137 (0,0)) O (by rw [aA]<;>first | rfl | (simp only [aw,cn,cv,jw])) ?_
    exact Em () trivial (sc O (sc O (sc O (sc O (sc O (sc O sn)))))) (λ_ h=>by
      have h:=h.aJ 5 rfl;have h:=h.aJ 5 rfl;have h:=h.aJ 3 rfl;have h:=h.aJ 5 rfl;have h:=h.aJ 5 rfl;have h:=h.aJ 5 rfl
      exact h)
   have aA:e1 (p.params++p.aH)=false:=az;refine Ck ?_;refine WE.fg 1 (.cells (iH m fs (p.params++p.aH) ⟨r,(fa,fc),s.1,(t,v)⟩ (er (fb (bj m fs) (m.procs.take j.i)) (if e1 (p.params++p.aH)=true then 6 else 0))).toArray 137 (0,0)) O (by rw [aA]<;>first | rfl | (simp only [aw,cn,cv,jw])) ?_
   exact Em () trivial (sc O (sc O (sc O (sc O (sc O (sc O sn)))))) (λ_ h=>by
     have h:=h.aJ 5 rfl;have h:=h.aJ 5 rfl;have h:=h.aJ 2 rfl;have h:=h.aJ 5 rfl;have h:=h.aJ 5 rfl;have h:=h.aJ 5 rfl
     exact h)
  intro _ _;refine CU (λ_=>true) [2,0] [15,16] (.q false 0 (.q true 1 (.q false 2 (.q true 3 (.q false 4 (.q false 5 (.q true 6 (.q false 7 (.q false 8 (.q false 9 (.q true 10 (.e 11 (.q false 12 (.e 13 (.e 14 .nil .stop) .stop)) .stop)))))))))))) mixed (by kernel_rfl) (λ_ _ _ d _ _ h=>by cases d<;>exact h) ?_;refine U0 O (dK [2,0]) (Yf l_ O) (U0 O (dK [2,0]) (Yd 0 O O O aa) (U0 O (dK [2,0]) (Yf kT O) (U0 O (dK [2,0]) (Yd 1 O O O aa) (U0 O (dK [2,0]) (Yn dT O) (U0 O (dK [2,0]) (Yf nX O) (U0 O (dK [2,0]) (Yd 1 O O O aa) (U0 O (dK [2,0]) (Yn dT O) ?_)))))));refine U0 O (dK [2,0]) (Ym O) (U0 O (dK [2,0]) (Yf vq O) (U0 O (dK [2,0]) (Yd 1 O O O aa) ?_));refine Ue O (dK [2,0]) ?_ WU.stop;refine rZ (ι:=SP) [_] _ Y O aK O O (λr=>.slice r.1 (dL (aQ m fs (p.params++p.aH)) p.body).length r.2) (λ_=>[f' y m fs (p.params++p.aH) ⟨r,(fa,fc),s.1,(t,v)⟩ (er (er (fb (bj m fs) (m.procs.take j.i)) (if e1 (p.params++p.aH)=true then 6 else 0)) (dQ (aQ m fs (p.params++p.aH)) p.body))]) (λF r=>Sl (h7 (ke+1) (ks+1)) 7 F r.1 r.2 (dL (aQ m fs (p.params++p.aH)) p.body)) ([B]) (by simp) (λ_ _ h=>h) (λw l=>Nt B y m fs (p.params++p.aH) ⟨r,(fa,fc),s.1,(t,v)⟩ (er (fb (bj m fs) (m.procs.take j.i)) (if e1 (p.params++p.aH)=true then 6 else 0)) ke bF ks p.body ar au w bG (by omega) l) ?_;intro bI aB bJ bL;refine Ln (Eu (U0 O (λ_ h=>(Wv 1 (Wo 0 (Wo 2 h)):)) (Yb Gp Gn O O) ?_));refine Ue O (λ_ h=>(Wv 1 (Wo 0 (Wo 2 h)):)) ?_ WU.stop;refine Lb Y O xK O O O O λcN=>?_;refine dn 0 (.cells (XP.cells (k9 m fs p,aB)).toArray 107 (0,0)) O (O) (Ln (Eu ?_));refine Ue O (λ_ h=>(Wv 1 (Wo 0 (Wo 2 (Wd 1 h))):)) ?_ WU.stop;refine LA (((k9 m fs p,aB):XP)) 3 0 Y O xK O O O O O O (by omega) (by omega) λbM bN=>?_;refine Ln (Eu ?_);refine WU.nil (λ_ h=>(Wv 1 (Wo 0 (Wo 2 (Wd 1 h))):)) ?_;refine WS.e O ?_;refine I (Yf l_ O) (Ln (Es ?_));refine WS.e O ?_;refine aT 2 Y O O O Gq O O O (Ln (Es ?_));refine WS.nil ?_;refine Eb (Et ?_);refine n8 (λ_ h=>Ws.cK h (b9:=[bI,j.J,T,n]) (by simp)) ?_;refine WC.jc λbO bP bQ bR=>?_;refine Cr (ab O (I (Yi O O O (by omega)) (ai O (Ln ?_))));rw [fJ,show er (if e1 (p.params++p.aH)=true then 6 else 0) (dQ (aQ m fs (p.params++p.aH)) p.body)=bj m fs p from rfl,<-tf (bj m fs) U];exact Ea (⟨j.i+1,j.es++[(k9 m fs p,aB)],bM,bN,bO,(p.params++p.aH),(t,v)⟩:GQ) (by show _-(j.i+1)<_; omega) ⟨(by show j.i+1<=_; omega),rC ao U O,⟨bR _ bJ aU,Xs.snoc (R:=nA _ _) (λhv h=>nA.mv hv h) aV bQ bP bL⟩⟩ (sc O (sc O (sc O (sc O (sc O sn))))) (λ_ h=>by exact (Wt 5 (((((h.f 6 O).f 6 O).f 5 O).f 5 O).f 5 O):))
 have a0:j.i=m.procs.length:=by simp at ap; omega
 have bS:=dU ao a0
 have bT:fb (bj m fs) (m.procs.take j.i)=fb (bj m fs) m.procs:=by rw [a0,gv]
 have a1:ee m fs=⟨m.nm,m.aP,kF m,j.es.map (·.1),dL (aQ m fs []) m.main⟩:=by rw [bS]; rfl
 refine Ce (Ex (Ex (cU (Et (ac (ab O (I (bV O) (I (Yf zD O) (aT 0 Y O O O xy O O O (ad (Cs (p4 0 (.cells (iH m fs [] ⟨r,(fa,fc),s.1,(none,0)⟩ (fb (bj m fs) (m.procs.take j.i))).toArray 137 (0,0)) O O ?_))))))))))));rw [bT];refine Cr (ab O (I (Yf vr O) (I (Yd 4 O O O aa) ?_)));refine rZ (ι:=SP) [_] _ Y O aK O O (λr=>.slice r.1 (dL (aQ m fs []) m.main).length r.2) (λ_=>[f' y m fs [] ⟨r,(fa,fc),s.1,(none,0)⟩ (er (fb (bj m fs) m.procs) (dQ (aQ m fs []) m.main))]) (λF r=>Sl (h7 (ke+1) (ks+1)) 7 F r.1 r.2 (dL (aQ m fs []) m.main)) ([n]) (by simp) (λ_ _ h=>h) (λw l=>Nt n y m fs [] ⟨r,(fa,fc),s.1,(none,0)⟩ (fb (bj m fs) m.procs) ke (Nv (H:=H) (HF:=HF) (F:=H) E aR aS Sl.nil M) ks m.main r.a4 r.c4 w E.main (by omega) l) ?_;intro cO a2 bX bY;refine I (Yf oX O) (aT 1 Y O O O vD O O O (ad (Cs (ac (ab O (I (bV O) (I (Yf Cp O) (I (Yd 0 O O O aa) (I (fh O O) ?_)))))))));refine ad ?_;refine Cc O (λaC=>?_) (λaC=>?_)
 ·have aD:iD m fs≠0:=by unfold iD; simpa using aC
  refine Cs ?_;refine WC.gW 3 [(0,true),(1,true),(2,true),(3,true),(4,true),(5,false),(6,false)] mixed (by kernel_rfl) (λ_ _ _ d _ h=>by cases d<;>exact h) ?_;refine D0 O (Wp 3) (Yb bo n4 O O) (D0 O (Wp 3) (Ym O) (D0 O (Wp 3) (bV O) (D0 O (Wp 3) (Yf Cp O) (D0 O (Wp 3) (Yd 0 O O O aa) ?_))));refine De O (Wp 3) ?_;refine aT 3 Y O O O iW O O O (Ln (Ed ?_));refine De O (Wp 3) ?_;refine ai O (Ln (Ed ?_));refine WD.nil (Wp 3) ?_;refine Et (aZ (Er ?_));refine WE.mV 3 O O O O jl O λw' l=>?_;rw [vF C M aM aD];exact ⟨ge,O,l.fr,b3 _⟩
 have aD:iD m fs=0:=by unfold iD; simpa using aC
 refine am (Cs ?_);refine WC.mu (rd:=AU) 2 O (λ_ D=>by cases D) XP.dk (λ_ _ _ _ h=>h) λcP bZ b0=>?_;refine p4 1 (.cells (eV (ee m fs) ⟨u,(j.a,j.c),a2⟩).toArray 37 (0,0)) O (by rw [a1]; show Obj.cells _ _ _=Obj.cells (eV _ _).toArray _ _; simp only [eV,gD]; rfl) (Cr (I (cI 1 O O jl O) (aT 2 Y O O O iW O O O (ai O (ad (aZ ?_))))));refine WE.mV 2 O O O O jl O λw' l=>?_;rw [Gl C M aM aD];exact ⟨⟨u,(j.a,j.c),a2⟩,O,l.fr,⟨n0 bt (c8 l (by simp) bs),by rw [a1]; exact D_ b0 (c8 l (by simp) bZ) (c8 l (by simp) aU) aV,p7 bY (c8 l (by simp) bX)⟩⟩
def nk:ga prog 49=some 5:=aa
def i4:ga prog 35=some 7:=aa
def Nx:cJ prog 51 0=some 0:=aa
def Ny:cJ prog 37 0=some 0:=aa
def Cq:cJ prog 37 1=some 1:=aa
def Gv:cJ prog 37 2=some 2:=aa
def qw:ga prog 34=some 3:=aa
def Nz:cJ prog 107 0=some 0:=aa
def Gw:cJ prog 107 1=some 1:=aa
def NA:cJ prog 107 2=some 2:=aa
def WX (o p:View) (a1 a2:Option Addr) (c1 c2:Nat) (k j:Nat) (l:List gH) (w:World) (u:Le o w) (v:Le p w) (q:Sl (k8 k) 5 o a1 c1 l) (r:Sl (k8 j) 5 p a2 c2 l) :
   Calls prog 142 #[.slice a1 l.length c1,.slice a2 l.length c2] w λe w'=>e = .returned (.bool true)/\Ext w w':=by
 induction k using Nat.strongRecOn generalizing j a1 c1 a2 c2 l w
 rename_i k y;have F:=q.cap;have G:=q.max;have H:=r.cap;have J:=r.max;refine enter func142 O 81 O O ?_;refine CE (Vs:=[o,p]) (Ws.init (by simp [u,v])) (ac (ai O (ad (Cs (ac (ab O (I (Yn nk O) (ab O (I (Yn nk O) ?_)))))))));refine I (jQ O O O) (ad ?_);refine WC.mf O ?_;refine am (Cs (ac (ai O (ad (Cb ?_)))));refine fT (ι:=Nat) (λi=>[(5,.int .i64 (i:Int))]) [(0,_),(1,_)] (λi=>i<=l.length) (λi=>l.length-i) 0 (cx _) ?_;intro i hi;refine Cs (ac (ab O (ab O (I (Yn nk O) (I (cy O O) (ad ?_))))));refine Cc O (λs=>?_) (λs=>?_)
 ·have z:i<l.length:=by simpa using s
  obtain ⟨x,t⟩:=dw z;obtain ⟨K,L,f,b⟩:=q.aq i x t;obtain ⟨M,N,m,c⟩:=r.aq i x t
  obtain ⟨a,rfl⟩:∃a,k=a+1:=by
    cases k with
    | zero=>exact b.elim
    | succ a=>exact ⟨a,rfl⟩
  obtain ⟨A,rfl⟩:∃a,j=a+1:=by
    cases j with
    | zero=>exact c.elim
    | succ a=>exact ⟨a,rfl⟩
  obtain ⟨B,n1,b,C⟩:=b;obtain ⟨D,n2,c,E⟩:=c;refine am (Cs (Cb (Cs ?_)));refine WC.hU [(0,true),(1,true),(2,true),(3,true),(4,true),(5,true),(6,true),(7,true),(8,true),(9,true),(10,true),(11,true),(12,true),(13,true),(14,true),(15,true),(16,true),(17,true),(18,true),(19,true),(20,true),(21,true),(22,true),(23,true),(24,true),(25,true),(26,true),(27,true),(28,true),(29,true),(30,true),(31,true),(32,true),(33,true),(34,true),(35,true),(36,true),(37,true),(38,true),(39,true),(40,true),(41,true),(42,true),(43,true),(44,true),(45,true),(46,true),(47,true),(48,true),(49,true),(50,true),(51,true),(52,true),(53,true),(54,true),(55,true),(56,true),(57,true),(58,true),(59,true),(60,true),(61,false),(62,true),(63,true)] mixed aa (λ_ _ _ d _ h=>by cases d<;>exact h) ?_;refine D0 O ag (Ym O) (D0 O ag (Ym O) (D0 O ag (Yo nk O O f Z) (D0 O ag (Yf xF O) (D0 O ag (cC 0 aa O O (b 0 _ O)) (D0 O ag (Ym O) (D0 O ag (Ym O) (D0 O ag (Yo nk O O m Z) ?_)))))));refine D0 O ag (Yf xF O) (D0 O ag (cC 1 aa O O (c 0 _ O)) (D0 O ag (jQ O O O) (D0 O ag (Ym O) ?_)));apply WD.or 11 (x:=false) O O O O O Y O ag O O O O
  ·intro P;refine Dq O (.g O O O) O ag (Ym O) (Dq O (.g O O O) O ag (Ym O) (Dq O (.g O O O) O ag (Yo nk O O f Z) (Dq O (.g O O O) O ag (Yf xG O) (Dq O (.g O O O) O ag (cC 0 aa O O (b 1 _ O)) (Dq O (.g O O O) O ag (Ym O) (Dq O (.g O O O) O ag (Ym O) (Dq O (.g O O O) O ag (Yo nk O O m Z) ?_)))))));refine Dq O (.g O O O) O ag (Yf xG O) (Dq O (.g O O O) O ag (cC 1 aa O O (c 1 _ O)) (Dq O (.g O O O) O ag (jQ O O O) ?_));exact Gi 11 ag O O O
  refine D0 O ag (Ym O) ?_;apply WD.or 11 (x:=false) O O O O O Y O ag O O O O
  ·intro Q;refine Dq O (.g O O O) O ag (Ym O) (Dq O (.g O O O) O ag (Ym O) (Dq O (.g O O O) O ag (Yo nk O O f Z) (Dq O (.g O O O) O ag (Yf hf O) (Dq O (.g O O O) O ag (cC 0 aa O O (b 2 _ O)) (Dq O (.g O O O) O ag (Ym O) (Dq O (.g O O O) O ag (Ym O) (Dq O (.g O O O) O ag (Yo nk O O m Z) ?_)))))));refine Dq O (.g O O O) O ag (Yf hf O) (Dq O (.g O O O) O ag (cC 1 aa O O (c 2 _ O)) (Dq O (.g O O O) O ag (jQ O O O) ?_));exact Gi 11 ag O O O
  refine D0 O ag (Ym O) ?_;apply WD.or 11 (x:=false) O O O O O Y O ag O O O O
  ·intro R;refine Dq O (.g O O O) O ag (Ym O) (Dq O (.g O O O) O ag (Ym O) (Dq O (.g O O O) O ag (Yo nk O O f Z) (Dq O (.g O O O) O ag (Yf rB O) (Dq O (.g O O O) O ag (cC 0 aa O O (b 3 _ O)) (Dq O (.g O O O) O ag (Ym O) (Dq O (.g O O O) O ag (Ym O) (Dq O (.g O O O) O ag (Yo nk O O m Z) ?_)))))));refine Dq O (.g O O O) O ag (Yf rB O) (Dq O (.g O O O) O ag (cC 1 aa O O (c 3 _ O)) (Dq O (.g O O O) O ag (jQ O O O) ?_));exact Gi 11 ag O O O
  refine D0 O ag (Ym O) ?_;apply WD.or 12 (x:=false) O O O O O Y O ag O O O O
  ·intro S;refine Dq O (.g O O O) O ag (Ym O) (Dq O (.g O O O) O ag (Ym O) (Dq O (.g O O O) O ag (Yo nk O O f Z) (Dq O (.g O O O) O ag (Yf B' O) (Dq O (.g O O O) O ag (cC 0 aa O O (b 4 _ O)) (Dq O (.g O O O) O ag (Ym O) (Dq O (.g O O O) O ag (Ym O) (Dq O (.g O O O) O ag (Yo nk O O m Z) ?_)))))));refine Dq O (.g O O O) O ag (Yf B' O) (Dq O (.g O O O) O ag (cC 1 aa O O (c 4 _ O)) ?_);refine De O ag ?_;refine Lp (.g O O O) O aK O (λw n=>y a Z B D n1 n2 A x.args w n.V n.V C E) (Ln (Ed (Dq O (.g O O O) O ag (eR O) ?_)));exact Gi 12 ag O O O
  refine WD.nil ag ?_;refine Et ?_;refine WC.mf O ?_;refine Ck (Eb (Et (Cr (ab O (I (Yi O O O Z) (ai O (Ln ?_)))))));exact ct (i+1) Z Z ag
 refine Ce (Ex (Ex (cU (Et (ac (ai O (ad (aZ ?_))))))));refine R1 O O λw' n=>?_;exact ⟨O,n.fr⟩
def NB (o p:View) (a1 a2:Option Addr) (c1 c2:Nat) (s t k j:Nat) (l:List fp) (w:World) (C:Le o w) (D:Le p w) (q:Sl (h7 s k) 7 o a1 c1 l) (r:Sl (h7 t j) 7 p a2 c2 l) :
   Calls prog 76 #[.slice a1 l.length c1,.slice a2 l.length c2] w λe w'=>e = .returned (.bool true)/\Ext w w':=by
 induction k using Nat.strongRecOn generalizing j a1 c1 a2 c2 l w
 rename_i k y;have M:=q.cap;have N:=q.max;have P:=r.cap;have Q:=r.max;refine enter func76 O 109 O O ?_;refine CE (Vs:=[o,p]) (Ws.init (by simp [C,D])) (ac (ai O (ad (Cs (ac (ab O (I (Yn i4 O) (ab O (I (Yn i4 O) ?_)))))))));refine I (jQ O O O) (ad ?_);refine WC.mf O ?_;refine am (Cs (ac (ai O (ad (Cb ?_)))));refine fT (ι:=Nat) (λi=>[(5,.int .i64 (i:Int))]) [(0,_),(1,_)] (λi=>i<=l.length) (λi=>l.length-i) 0 (cx _) ?_;intro i hi;refine Cs (ac (ab O (ab O (I (Yn i4 O) (I (cy O O) (ad ?_))))));refine Cc O (λz=>?_) (λz=>?_)
 ·have E:i<l.length:=by simpa using z
  obtain ⟨x,A⟩:=dw E;obtain ⟨R,S,m,a⟩:=q.aq i x A;obtain ⟨T,U,n,b⟩:=r.aq i x A
  obtain ⟨c,rfl⟩:∃c,k=c+1:=by
    cases k with
    | zero=>exact a.elim
    | succ c=>exact ⟨c,rfl⟩
  obtain ⟨B,rfl⟩:∃c,j=c+1:=by
    cases j with
    | zero=>exact b.elim
    | succ c=>exact ⟨c,rfl⟩
  obtain ⟨u,a,F,G,H⟩:=a;obtain ⟨v,b,J,K,L⟩:=b;refine am (Cs (Cb (Cs ?_)));refine WC.hU [(0,true),(1,true),(2,true),(3,true),(4,true),(5,true),(6,true),(7,true),(8,true),(9,true),(10,true),(11,true),(12,true),(13,true),(14,true),(15,true),(16,true),(17,true),(18,true),(19,true),(20,true),(21,true),(22,true),(23,true),(24,true),(25,true),(26,true),(27,true),(28,true),(29,true),(30,true),(31,true),(32,true),(33,true),(34,true),(35,true),(36,true),(37,true),(38,true),(39,true),(40,true),(41,true),(42,true),(43,true),(44,true),(45,true),(46,true),(47,true),(48,true),(49,true),(50,true),(51,true),(52,true),(53,true),(54,true),(55,true),(56,true),(57,true),(58,true),(59,true),(60,true),(61,false),(62,true),(63,true),(64,true),(65,true),(66,true),(67,true),(68,true),(69,true),(70,true),(71,true),(72,true),(73,true),(74,true),(75,false),(76,true),(77,true),(78,true),(79,true),(80,true),(81,true),(82,true),(83,true),(84,true),(85,true),(86,true),(87,true),(88,true),(89,false),(90,true),(91,true)] mixed aa (λ_ _ _ d _ h=>by cases d<;>exact h) ?_;refine D0 O ag (Ym O) (D0 O ag (Ym O) (D0 O ag (Yo i4 O O m Z) (D0 O ag (Yf Nx O) (D0 O ag (cC 0 aa O O (a 0 _ O)) (D0 O ag (Ym O) (D0 O ag (Ym O) (D0 O ag (Yo i4 O O n Z) ?_)))))));refine D0 O ag (Yf Nx O) (D0 O ag (cC 1 aa O O (b 0 _ O)) (D0 O ag (jQ O O O) (D0 O ag (Ym O) ?_)));apply WD.or 11 (x:=false) O O O O O Y O ag O O O O
  ·intro W;refine Dq O (.g O O O) O ag (Ym O) (Dq O (.g O O O) O ag (Ym O) (Dq O (.g O O O) O ag (Yo i4 O O m Z) (Dq O (.g O O O) O ag (Yf zB O) (Dq O (.g O O O) O ag (cC 0 aa O O (a 1 _ O)) (Dq O (.g O O O) O ag (Ym O) (Dq O (.g O O O) O ag (Ym O) (Dq O (.g O O O) O ag (Yo i4 O O n Z) ?_)))))));refine Dq O (.g O O O) O ag (Yf zB O) (Dq O (.g O O O) O ag (cC 1 aa O O (b 1 _ O)) (Dq O (.g O O O) O ag (jQ O O O) ?_));exact Gi 11 ag O O O
  refine D0 O ag (Ym O) ?_;apply WD.or 11 (x:=false) O O O O O Y O ag O O O O
  ·intro X;refine Dq O (.g O O O) O ag (Ym O) (Dq O (.g O O O) O ag (Ym O) (Dq O (.g O O O) O ag (Yo i4 O O m Z) (Dq O (.g O O O) O ag (Yf ec O) (Dq O (.g O O O) O ag (cC 0 aa O O (a 2 _ O)) (Dq O (.g O O O) O ag (Ym O) (Dq O (.g O O O) O ag (Ym O) (Dq O (.g O O O) O ag (Yo i4 O O n Z) ?_)))))));refine Dq O (.g O O O) O ag (Yf ec O) (Dq O (.g O O O) O ag (cC 1 aa O O (b 2 _ O)) (Dq O (.g O O O) O ag (jQ O O O) ?_));exact Gi 11 ag O O O
  refine D0 O ag (Ym O) ?_;apply WD.or 11 (x:=false) O O O O O Y O ag O O O O
  ·intro ae;refine Dq O (.g O O O) O ag (Ym O) (Dq O (.g O O O) O ag (Ym O) (Dq O (.g O O O) O ag (Yo i4 O O m Z) (Dq O (.g O O O) O ag (Yf sB O) (Dq O (.g O O O) O ag (cC 0 aa O O (a 3 _ O)) (Dq O (.g O O O) O ag (Ym O) (Dq O (.g O O O) O ag (Ym O) (Dq O (.g O O O) O ag (Yo i4 O O n Z) ?_)))))));refine Dq O (.g O O O) O ag (Yf sB O) (Dq O (.g O O O) O ag (cC 1 aa O O (b 3 _ O)) (Dq O (.g O O O) O ag (jQ O O O) ?_));exact Gi 11 ag O O O
  refine D0 O ag (Ym O) ?_;apply WD.or 12 (x:=false) O O O O O Y O ag O O O O
  ·intro af;refine Dq O (.g O O O) O ag (Ym O) (Dq O (.g O O O) O ag (Ym O) (Dq O (.g O O O) O ag (Yo i4 O O m Z) (Dq O (.g O O O) O ag (Yf xH O) (Dq O (.g O O O) O ag (cC 0 aa O O (a 4 _ O)) (Dq O (.g O O O) O ag (Ym O) (Dq O (.g O O O) O ag (Ym O) (Dq O (.g O O O) O ag (Yo i4 O O n Z) ?_)))))));refine Dq O (.g O O O) O ag (Yf xH O) (Dq O (.g O O O) O ag (cC 1 aa O O (b 4 _ O)) ?_);refine De O ag ?_;refine Lp (.g O O O) O aK O (λw f=>WX o p u.s1.1 v.s1.1 u.s1.2 v.s1.2 s t x.args w f.V f.V F J) (Ln (Ed (Dq O (.g O O O) O ag (eR O) ?_)));exact Gi 12 ag O O O
  refine D0 O ag (Ym O) ?_;apply WD.or 12 (x:=false) O O O O O Y O ag O O O O
  ·intro ah;refine Dq O (.g O O O) O ag (Ym O) (Dq O (.g O O O) O ag (Ym O) (Dq O (.g O O O) O ag (Yo i4 O O m Z) (Dq O (.g O O O) O ag (Yf pc O) (Dq O (.g O O O) O ag (cC 0 aa O O (a 5 _ O)) (Dq O (.g O O O) O ag (Ym O) (Dq O (.g O O O) O ag (Ym O) (Dq O (.g O O O) O ag (Yo i4 O O n Z) ?_)))))));refine Dq O (.g O O O) O ag (Yf pc O) (Dq O (.g O O O) O ag (cC 1 aa O O (b 5 _ O)) ?_);refine De O ag ?_;refine Lp (.g O O O) O aK O (λw f=>y c Z u.s2.1 v.s2.1 u.s2.2 v.s2.2 B x.body w f.V f.V G K) (Ln (Ed (Dq O (.g O O O) O ag (eR O) ?_)));exact Gi 12 ag O O O
  refine D0 O ag (Ym O) ?_;apply WD.or 12 (x:=false) O O O O O Y O ag O O O O
  ·intro aj;refine Dq O (.g O O O) O ag (Ym O) (Dq O (.g O O O) O ag (Ym O) (Dq O (.g O O O) O ag (Yo i4 O O m Z) (Dq O (.g O O O) O ag (Yf pq O) (Dq O (.g O O O) O ag (cC 0 aa O O (a 6 _ O)) (Dq O (.g O O O) O ag (Ym O) (Dq O (.g O O O) O ag (Ym O) (Dq O (.g O O O) O ag (Yo i4 O O n Z) ?_)))))));refine Dq O (.g O O O) O ag (Yf pq O) (Dq O (.g O O O) O ag (cC 1 aa O O (b 6 _ O)) ?_);refine De O ag ?_;refine Lp (.g O O O) O aK O (λw f=>y c Z u.s3.1 v.s3.1 u.s3.2 v.s3.2 B x.other w f.V f.V H L) (Ln (Ed (Dq O (.g O O O) O ag (eR O) ?_)));exact Gi 12 ag O O O
  refine WD.nil ag ?_;refine Et ?_;refine WC.mf O ?_;refine Ck (Eb (Et (Cr (ab O (I (Yi O O O Z) (ai O (Ln ?_)))))));exact ct (i+1) Z Z ag
 refine Ce (Ex (Ex (cU (Et (ac (ai O (ad (aZ ?_))))))));refine R1 O O λw' f=>?_;exact ⟨O,f.fr⟩
def WY (b c:View) (m n o p:Nat) (f j:kf) (u:e2) (w:World) (C:Le b w) (D:Le c w) (q:kG m o b f u) (r:kG n p c j u) :
   Calls prog 17 #[.agg (eV u f).toArray,.agg (eV u j).toArray] w λe w'=>e = .returned (.bool true)/\Ext w w':=by
 have s:=q.parts;have t:=r.parts;have H:=s.cap;have J:=s.max;have K:=t.cap;have L:=t.max;refine enter func17 O 94 O O ?_;refine CE (Vs:=[b,c]) (Ws.init (by simp [C,D])) (ac ?_);refine WL.box Y O O λM=>?_;refine WL.box Y O O λN=>?_;refine ai O (ad (Cs (ac (I (Yf Ny O) (I (Yd 1 O O O aa) (I (Yf Ny O) (I (Yd 0 O O O aa) (I (yu O O O) (ab O ?_)))))))));apply Lo 6 (x:=false) O O O O Y O O O O O
 ·intro P;refine Vg (Yf Cq O) (Vg (Yd 1 O O O aa) (Vg (Yf Cq O) (Vg (Yd 0 O O O aa) (Lp (.g O O O) O aK O (λw a=>V' b c f.s1.1 j.s1.1 f.s1.2 j.s1.2 u.aP w a.V a.V q.aP r.aP) (Vg (eR O) ?_)))));exact Gt 6 O O O
 refine ab O ?_;apply Lo 5 (x:=false) O O O O Y O O O O O
 ·intro Q;refine Vg (Yf Gv O) (Vg (Yd 1 O O O aa) (Vg (Yf Gv O) (Vg (Yd 0 O O O aa) (Vg (jQ O O O) ?_))));exact Gt 5 O O O
 refine ab O ?_;apply Lo 7 (x:=false) O O O O Y O O O O O
 ·intro R;refine Vg (Yf l_ O) (Vg (Yd 1 O O O aa) (Vg (Yn qw O) (Vg (Yf l_ O) (Vg (Yd 0 O O O aa) (Vg (Yn qw O) (Vg (jQ O O O) ?_))))));exact Gt 7 O O O
 refine ab O ?_;apply Lo 6 (x:=false) O O O O Y O O O O O
 ·intro S;refine Vg (Yf oX O) (Vg (Yd 1 O O O aa) (Vg (Yf oX O) (Vg (Yd 0 O O O aa) (Lp (.g O O O) O aK O (λw a=>NB b c f.s3.1 j.s3.1 f.s3.2 j.s3.2 m n o p u.main w a.V a.V q.main r.main) (Vg (eR O) ?_)))));exact Gt 6 O O O
 refine ad ?_;refine WC.mf O ?_;refine am (Cs (ac (ai O (ad (Cb ?_)))));refine fT (ι:=Nat) (λi=>[(5,.int .i64 (i:Int))]) [(2,_),(3,_)] (λi=>i<=u.parts.length) (λi=>u.parts.length-i) 0 (cx _) ?_;intro i hi;refine Cs (ac (ab O (I (Yf l_ O) (I (Yd 1 O O O aa) (I (Yn qw O) (I (cy O O) (ad ?_)))))));refine Cc O (λz=>?_) (λz=>?_)
 ·have E:i<u.parts.length:=by simpa using z
  obtain ⟨x,A⟩:=dw E;obtain ⟨T,U,v,k⟩:=s.aq i x A;obtain ⟨W,X,y,l⟩:=t.aq i x A;obtain ⟨v1,k,F⟩:=k;obtain ⟨B,l,G⟩:=l;refine am (Cs (Cb (Cs ?_)));refine WC.hU [(0,true),(1,true),(2,true),(3,true),(4,true),(5,true),(6,true),(7,true),(8,true),(9,true),(10,true),(11,true),(12,true),(13,true),(14,true),(15,true),(16,true),(17,true),(18,true),(19,true),(20,true),(21,true),(22,true),(23,true),(24,true),(25,true),(26,true),(27,true),(28,true),(29,true),(30,true),(31,true),(32,true),(33,true),(34,true),(35,true),(36,true),(37,true),(38,true),(39,true),(40,true),(41,false),(42,true),(43,true)] mixed aa (λ_ _ _ d _ h=>by cases d<;>exact h) ?_;refine D0 O ag (Yf l_ O) (D0 O ag (Yd 1 O O O aa) (D0 O ag (Ym O) (D0 O ag (Yo qw O O v Z) (D0 O ag (Yf Nz O) (D0 O ag (cC 0 aa O O (k 0 _ O)) (D0 O ag (Yf l_ O) (D0 O ag (Yd 0 O O O aa) ?_)))))));refine D0 O ag (Ym O) (D0 O ag (Yo qw O O y Z) (D0 O ag (Yf Nz O) (D0 O ag (cC 1 aa O O (l 0 _ O)) (D0 O ag (jQ O O O) (D0 O ag (Ym O) ?_)))));apply WD.or 13 (x:=false) O O O O O Y O ag O O O O
  ·intro ae;refine Dq O (.g O O O) O ag (Yf l_ O) (Dq O (.g O O O) O ag (Yd 1 O O O aa) (Dq O (.g O O O) O ag (Ym O) (Dq O (.g O O O) O ag (Yo qw O O v Z) (Dq O (.g O O O) O ag (Yf Gw O) (Dq O (.g O O O) O ag (cC 0 aa O O (k 1 _ O)) (Dq O (.g O O O) O ag (Yf l_ O) (Dq O (.g O O O) O ag (Yd 0 O O O aa) ?_)))))));refine Dq O (.g O O O) O ag (Ym O) (Dq O (.g O O O) O ag (Yo qw O O y Z) (Dq O (.g O O O) O ag (Yf Gw O) (Dq O (.g O O O) O ag (cC 1 aa O O (l 1 _ O)) (Dq O (.g O O O) O ag (jQ O O O) ?_))));exact Gi 13 ag O O O
  refine D0 O ag (Ym O) ?_;apply WD.or 14 (x:=false) O O O O O Y O ag O O O O
  ·intro af;refine Dq O (.g O O O) O ag (Yf l_ O) (Dq O (.g O O O) O ag (Yd 1 O O O aa) (Dq O (.g O O O) O ag (Ym O) (Dq O (.g O O O) O ag (Yo qw O O v Z) (Dq O (.g O O O) O ag (Yf NA O) (Dq O (.g O O O) O ag (cC 0 aa O O (k 2 _ O)) (Dq O (.g O O O) O ag (Yf l_ O) (Dq O (.g O O O) O ag (Yd 0 O O O aa) ?_)))))));refine Dq O (.g O O O) O ag (Ym O) (Dq O (.g O O O) O ag (Yo qw O O y Z) (Dq O (.g O O O) O ag (Yf NA O) (Dq O (.g O O O) O ag (cC 1 aa O O (l 2 _ O)) ?_)));refine De O ag ?_;refine Lp (.g O O O) O aK O (λw a=>NB b c v1.1 B.1 v1.2 B.2 m n o p x.body w a.V a.V F G) (Ln (Ed (Dq O (.g O O O) O ag (eR O) ?_)));exact Gi 14 ag O O O
  refine WD.nil ag ?_;refine Et ?_;refine WC.mf O ?_;refine Ck (Eb (Et (Cr (ab O (I (Yi O O O Z) (ai O (Ln ?_)))))));exact ct (i+1) Z Z ag
 refine Ce (Ex (Ex (cU (Et (ac (ai O (ad (aZ ?_))))))));refine R1 O O λw' a=>?_;exact ⟨O,a.fr⟩
def bY:cm:=(⟨[99,110,116],[],[(⟨1,[107],true,3⟩:de),(⟨2,[115,117,109],true,0⟩:de),(⟨3,[116],true,4⟩:de)],[(⟨[100,111,119,110],true,[[110]],[[105]],[(bE.mk 1 [] [105] [(ak.mk 3 0 [] [110] [])] [] []),(bE.mk 5 [] [] [(ak.mk 3 0 [] [105] [])] [(bE.mk 1 [] [115,117,109] [(ak.mk 9 0 [] [] [(ak.mk 3 0 [] [115,117,109] []),(ak.mk 3 0 [] [105] [])])] [] []),(bE.mk 1 [] [105] [(ak.mk 10 0 [] [] [(ak.mk 3 0 [] [105] []),(ak.mk 1 1 [] [] [])])] [] [])] []),(bE.mk 6 [] [] [(ak.mk 3 0 [] [115,117,109] [])] [] [])]⟩:eI)],[]⟩:cm)
def mO:Tx:=[109,111,100,117,108,101,32,116,111,112,123,117,115,101,32,99,110,116,59,109,97,105,110,123,99,110,116,46,116,91,49,93,61,99,110,116,46,100,111,119,110,40,99,110,116,46,107,41,59,111,117,116,32,99,110,116,46,116,91,105,110,93,59,105,102,40,99,110,116,46,115,117,109,61,54,41,123,111,117,116,32,55,59,125,101,108,115,101,123,111,117,116,32,56,59,125,125,125]
def dR:cm:=(j0 mO).1
def hF:List (List UInt8×List bW):=[(ck,pI)]
def NC:wM bY<=109951162777:=by decide +kernel
def WZ:(j0 mO).2=0:=by decide +kernel
def W0:en bY=((ck,pI),0):=by decide +kernel
def W1:h6 ck pI=0:=by decide +kernel
def W2:(dp bY []).2=0:=by decide +kernel
def W3:(dp bY []).1.data=5:=by decide +kernel
def ND:(dp bY []).1.parts.length=1:=by decide +kernel
def W4:((dp bY []).1.parts[0]?).map (·.locals)=some 1:=by decide +kernel
def W5:(dp dR hF).2=0:=by decide +kernel
def W6:(dp dR []).2=8:=by decide +kernel
def NE:(dp dR hF).1.main.length=3:=by decide +kernel
def W7:((dp dR hF).1.main[0]?).map (λa=>(a.m,a.pl,a.n))=some (1,1,4):=by decide +kernel
def W8:∃p,(dp bY []).1.parts[0]? = some p/\p.locals=1:=by
 have h:=W4
 cases a:(dp bY []).1.parts[0]? with
 | none=>rw [a] at h; cases h
 | some p=>rw [a] at h; exact ⟨p,rfl,by simpa using h⟩
def W9:∃a,(dp dR hF).1.main[0]? = some a/\a.m=1/\a.pl=1/\a.n=4:=by
 have h:=W7
 cases b:(dp dR hF).1.main[0]? with
 | none=>rw [b] at h; cases h
 | some a=>rw [b] at h; exact ⟨a,rfl,by simpa using h⟩
def zE (s:Tx):wM (j0 s).1<=73728:=by
 unfold j0
 split
 · show wM rm<=_; decide
 · rename_i h
   have a:(gm s).2=0:=by simpa using h
   have c:=(FN a).len
   split
   · rename_i m b
     split
     · have:=K' b
       simp at this
       show wM m<=_
       omega
     · show wM rm<=_; decide
   · show wM rm<=_; decide
def wo:hc prog 28 42 (.agg #[st [],.slice none 0 0]) 2 40:=jr aa
def NF (w:World) :
   Calls prog 47 #[] w λe w'=>∃r:iB,e = .returned (.agg (fi bY r).toArray)/\Ext w w'/\jb 7 6 (nv w w') r bY:=by
 refine enter func47 O 33 O O ?_;refine CE (Vs:=[]) (Ws.init au) (ac ?_);refine Al Y O sx λW=>?_;refine ad (ac (I (Yb oP BY O O) (I (Yb oP BY O O) (I (Yb oP BY O O) ?_))));refine Lb Y O FM O O O O λc=>?_;refine LN (rd:=s_) (f:=de.cells) (m:=3) 0 [(⟨1,[107],true,3⟩:de),(⟨2,[115,117,109],true,0⟩:de),(⟨3,[116],true,4⟩:de)] O O (λ_ a=>by cases a) de.dk eZ (show 3<=3 by decide) bf λX d g=>?_;refine Lb Y O ei O O O O λh=>?_;refine LN (rd:=rdStr) (f:=eE) (m:=1) 0 [[110]] O O (λ_ a=>by cases a) iM eZ (show 1<=1 by decide) bf λZ i j=>?_;refine Lb Y O ei O O O O λk=>?_;refine LN (rd:=rdStr) (f:=eE) (m:=1) 0 [[105]] O O (λ_ a=>by cases a) iM eZ (show 1<=1 by decide) bf λaa l n=>?_;refine I (Yb jJ nY O O) ?_;refine Lb Y O bP O O O O λo=>?_;refine LN (rd:=li) (f:=XE.cells) (m:=1) 0 [((ak.mk 3 0 [] [110] []),none,0)] O O (λ_ a=>by cases a) XE.dk eZ (show 1<=1 by decide) bf λab p q=>?_;refine I (Yb rt zq O O) (I (Yb jJ nY O O) ?_);refine Lb Y O bP O O O O λs=>?_;refine LN (rd:=li) (f:=XE.cells) (m:=1) 0 [((ak.mk 3 0 [] [105] []),none,0)] O O (λ_ a=>by cases a) XE.dk eZ (show 1<=1 by decide) bf λae t u=>?_;refine I (Yb jJ nY O O) (I (Yb jJ nY O O) ?_);refine Lb Y O bP O O O O λv=>?_;refine LN (rd:=li) (f:=XE.cells) (m:=2) 0 [((ak.mk 3 0 [] [115,117,109] []),none,0),((ak.mk 3 0 [] [105] []),none,0)] O O (λ_ a=>by cases a) XE.dk eZ (show 2<=2 by decide) bf λaf x y=>?_;refine I (Yb jJ nY O O) ?_;refine Lb Y O bP O O O O λz=>?_;refine LN (rd:=li) (f:=XE.cells) (m:=1) 0 [((ak.mk 9 0 [] [] [(ak.mk 3 0 [] [115,117,109] []),(ak.mk 3 0 [] [105] [])]),(some ⟨v,0,none⟩),2)] O O (λ_ a=>by cases a) XE.dk eZ (show 1<=1 by decide) bf λag A B=>?_;refine I (Yb rt zq O O) (I (Yb jJ nY O O) (I (Yb jJ nY O O) ?_));refine Lb Y O bP O O O O λC=>?_;refine LN (rd:=li) (f:=XE.cells) (m:=2) 0 [((ak.mk 3 0 [] [105] []),none,0),((ak.mk 1 1 [] [] []),none,0)] O O (λ_ a=>by cases a) XE.dk eZ (show 2<=2 by decide) bf λah D E=>?_;refine I (Yb jJ nY O O) ?_;refine Lb Y O bP O O O O λF=>?_;refine LN (rd:=li) (f:=XE.cells) (m:=1) 0 [((ak.mk 10 0 [] [] [(ak.mk 3 0 [] [105] []),(ak.mk 1 1 [] [] [])]),(some ⟨C,0,none⟩),2)] O O (λ_ a=>by cases a) XE.dk eZ (show 1<=1 by decide) bf λai G H=>?_;refine I (Yb rt zq O O) ?_;refine Lb Y O BV O O O O λJ=>?_;refine LN (rd:=BU) (f:=SX.cells) (m:=2) 0 [((bE.mk 1 [] [115,117,109] [(ak.mk 9 0 [] [] [(ak.mk 3 0 [] [115,117,109] []),(ak.mk 3 0 [] [105] [])])] [] []),(⟨((some ⟨z,0,none⟩),1),(none,0),(none,0)⟩:pG)),((bE.mk 1 [] [105] [(ak.mk 10 0 [] [] [(ak.mk 3 0 [] [105] []),(ak.mk 1 1 [] [] [])])] [] []),(⟨((some ⟨F,0,none⟩),1),(none,0),(none,0)⟩:pG))] O O (λ_ a=>by cases a) SX.dk eZ (show 2<=2 by decide) bf λaj K L=>?_
 refine I (Yb rt zq O O) (I (Yb jJ nY O O) ?_);refine Lb Y O bP O O O O λM=>?_;refine LN (rd:=li) (f:=XE.cells) (m:=1) 0 [((ak.mk 3 0 [] [115,117,109] []),none,0)] O O (λ_ a=>by cases a) XE.dk eZ (show 1<=1 by decide) bf λal N P=>?_;refine I (Yb rt zq O O) ?_;refine Lb Y O BV O O O O λQ=>?_;refine LN (rd:=BU) (f:=SX.cells) (m:=3) 0 [((bE.mk 1 [] [105] [(ak.mk 3 0 [] [110] [])] [] []),(⟨((some ⟨o,0,none⟩),1),(none,0),(none,0)⟩:pG)),((bE.mk 5 [] [] [(ak.mk 3 0 [] [105] [])] [(bE.mk 1 [] [115,117,109] [(ak.mk 9 0 [] [] [(ak.mk 3 0 [] [115,117,109] []),(ak.mk 3 0 [] [105] [])])] [] []),(bE.mk 1 [] [105] [(ak.mk 10 0 [] [] [(ak.mk 3 0 [] [105] []),(ak.mk 1 1 [] [] [])])] [] [])] []),(⟨((some ⟨s,0,none⟩),1),((some ⟨J,0,none⟩),2),(none,0)⟩:pG)),((bE.mk 6 [] [] [(ak.mk 3 0 [] [115,117,109] [])] [] []),(⟨((some ⟨M,0,none⟩),1),(none,0),(none,0)⟩:pG))] O O (λ_ a=>by cases a) SX.dk eZ (show 3<=3 by decide) bf λam R S=>?_;refine I (Yb pB Mh O O) ?_;refine Lb Y O FL O O O O λT=>?_;refine LN (rd:=FJ) (f:=PX.cells) (m:=1) 0 [((⟨[100,111,119,110],true,[[110]],[[105]],[(bE.mk 1 [] [105] [(ak.mk 3 0 [] [110] [])] [] []),(bE.mk 5 [] [] [(ak.mk 3 0 [] [105] [])] [(bE.mk 1 [] [115,117,109] [(ak.mk 9 0 [] [] [(ak.mk 3 0 [] [115,117,109] []),(ak.mk 3 0 [] [105] [])])] [] []),(bE.mk 1 [] [105] [(ak.mk 10 0 [] [] [(ak.mk 3 0 [] [105] []),(ak.mk 1 1 [] [] [])])] [] [])] []),(bE.mk 6 [] [] [(ak.mk 3 0 [] [115,117,109] [])] [] [])]⟩:eI),(⟨((some ⟨h,0,none⟩),1),((some ⟨k,0,none⟩),1),((some ⟨Q,0,none⟩),3)⟩:vv))] O O (λ_ a=>by cases a) PX.dk eZ (show 1<=1 by decide) bf λan U V=>?_;refine I (Yb sx BZ O O) (aT 0 Y O O O g9 O O O (ad (aZ ?_)));refine WE.yb 0 O O O bh O λw' b=>?_;exact ⟨⟨none,0,(some ⟨c,0,none⟩),3,(some ⟨T,0,none⟩),1,none,0⟩,O,b.fr,⟨Sl.nil,(tV g (c8 b au d)),(Me V (c8 b au U) (bK.refl _) ((ry.nil _).snoc (bK.refl _) (bK.refl _) ⟨(n0 j (c8 b au i)),(n0 n (c8 b au l)),(FF S (c8 b au R) (bK.refl _) ((((qs.nil _ 5).snoc (bK.refl _) (bK.refl _) ⟨(lj q (c8 b au p) (bK.refl _) ((iq.nil _ 6).snoc (bK.refl _) (bK.refl _) Sl.nil)),Sl.nil,Sl.nil⟩).snoc (bK.refl _) (bK.refl _) ⟨(lj u (c8 b au t) (bK.refl _) ((iq.nil _ 6).snoc (bK.refl _) (bK.refl _) Sl.nil)),(FF L (c8 b au K) (bK.refl _) (((qs.nil _ 4).snoc (bK.refl _) (bK.refl _) ⟨(lj B (c8 b au A) (bK.refl _) ((iq.nil _ 6).snoc (bK.refl _) (bK.refl _) (lj y (c8 b au x) (bK.refl _) (((iq.nil _ 5).snoc (bK.refl _) (bK.refl _) Sl.nil).snoc (bK.refl _) (bK.refl _) Sl.nil)))),Sl.nil,Sl.nil⟩).snoc (bK.refl _) (bK.refl _) ⟨(lj H (c8 b au G) (bK.refl _) ((iq.nil _ 6).snoc (bK.refl _) (bK.refl _) (lj E (c8 b au D) (bK.refl _) (((iq.nil _ 5).snoc (bK.refl _) (bK.refl _) Sl.nil).snoc (bK.refl _) (bK.refl _) Sl.nil)))),Sl.nil,Sl.nil⟩)),Sl.nil⟩).snoc (bK.refl _) (bK.refl _) ⟨(lj P (c8 b au N) (bK.refl _) ((iq.nil _ 6).snoc (bK.refl _) (bK.refl _) Sl.nil)),Sl.nil,Sl.nil⟩))⟩)),Sl.nil⟩⟩
def Ys (w:World) :
   Calls prog 48 #[] w λe w'=>e = .returned (st mO)/\Ext w w':=by
 refine enter func48 O 1 O O ?_;refine CE (Vs:=[]) (Ws.init au) (ac (ai O (ad (ac (ai O (ad (aZ ?_)))))));refine R1 O O λw' a=>?_;exact ⟨O,a.fr⟩
def NG (o:View) (w:World) (W:Le o w) (X:Laid o) :
   Calls prog 11 #[] w λe w'=>e = .returned (.bool true)/\Ext w w':=by
 refine enter func11 O 115 O O ?_;refine CE (Vs:=[o]) (Ws.init (by simp [W])) (ac (ai O (ad (ac ?_))));refine Ld Y O aK O (λr:iB=>.agg (fi bY r).toArray) (λH r=>jb 7 6 H r bY) (λw a=>NF w) ?_;intro Z ae aF af
 refine Ld Y O aK O (λr:SP=>.tuple #[.agg #[st ck,.slice r.1 pI.length r.2],.int .i64 0]) (λH r=>Sl hK 4 H r.1 r.2 pI) (λw a=>by
     have:=zv Z 7 6 ae bY w a.V af NC;rw [W0] at this
     exact this) ?_
 intro u z aG P;refine ab O (I (Yx O O) (I (Yx O O) ?_));refine Al Y O kU λQ=>?_;refine aT 0 Y O O O bU O O O (ai O (ad (ac ?_)));refine Ld Y O aK O (λr:iB=>.agg (fi bY r).toArray) (λH r=>jb 7 6 H r bY) (λw a=>NF w) ?_;intro R ah aH aj
 refine Ld Y O aK O (λr:kf=>.tuple #[.agg (eV (dp bY []).1 r).toArray,.int .i64 (dp bY []).2]) (λF r=>kG (7+1) (6+1) F r (dp bY []).1) (λw a=>by
     skip
     exact vG R R 7 6 ah bY none 0 [] w a.V a.V aj Sl.nil NC) ?_
 intro B ak aI J;refine ab O (I (Yx O O) (I (Yx O O) ?_));refine Al Y O bo λS=>?_;refine aT 0 Y O O O iW O O O (ai O (ad (ac (Lp Y O aK O (λw a=>Ys w) ?_))))
 refine Ld Y O aK O (λr:iB=>.tuple #[.agg (fi (dR) r).toArray,.int .i64 ((j0 mO).2)]) (λH r=>jb 7 6 H r (dR)) (λw a=>by
     have:=VA o (mO) w a.V X
     exact this) ?_
 intro m A aL C;refine ab O (I (Yx O O) (I (Yx O O) ?_));refine Al Y O sx λT=>?_;refine aT 0 Y O O O g9 O O O (ai O (ad ?_));refine WC.s7 (ι:=Nat×kf×View) (λp=>[(1,.pointer (some ⟨Q,0,none⟩)),(2,.int .i64 0),(3,.pointer (some ⟨S,0,none⟩)),(4,.int .i64 (dp bY []).2),(5,.pointer (some ⟨T,0,none⟩)),(6,.int .i64 (j0 mO).2),(7,.pointer (some ⟨p.1,0,none⟩)),(8,.int .i64 (dp dR hF).2)]) (λp=>Ws w [] [aE p.1 (.cells (eV (dp dR hF).1 p.2.1).toArray 37 (0,0)),aE T (.cells (fi dR A).toArray 27 (0,0)),aE S (.cells (eV (dp bY []).1 ak).toArray 37 (0,0)),aE Q (.cells #[st ck,.slice z.1 pI.length z.2] 42 (0,0))] [p.2.2,m,B,u,o]) (λp=>kG 8 7 p.2.2 p.2.1 (dp dR hF).1) ?_ ?_
 ·refine WC.HA (.q 0 (.e 1 (.e 2 (.e 3 (.q 4 (.q 5 (.q 6 (.e 7 (.e 8 (.e 9 .nil .stop) .stop) .stop)))) (.e 7 (.e 3 (.q 4 (.q 5 (.q 6 (.e 8 (.e 9 .nil .stop) .stop)))) .stop) .stop)) (.e 7 (.e 2 (.e 3 (.q 4 (.q 5 (.q 6 (.e 8 (.e 9 .nil .stop) .stop)))) .stop) .stop) .stop)) (.e 7 (.e 1 (.e 2 (.e 3 (.q 4 (.q 5 (.q 6 (.e 8 (.e 9 .nil .stop) .stop)))) .stop) .stop) .stop) .stop))) mixed aa (λ_ _ _ d _ h=>by cases d<;>exact h) ?_;refine WT.q O Y O ag (cI 0 O O bh O) ?_;refine WT.e O ag ?_ ?_
  ·refine Ld Y O aK O (λr:SP=>.agg #[st ck,.slice r.1 pI.length r.2]) (λF r=>Sl hK 4 F r.1 r.2 pI) (λw a=>F8 w) ?_;intro D E al G;refine Ln (hz ?_);refine WT.e O (λ_ h=>(Wv 1 h:)) ?_ ?_
   ·refine Lb Y O wo O O O O λf=>?_;refine Ln (hz ?_);refine WT.e O (λ_ h=>(Wv 1 (Wd 1 h):)) ?_ ?_
    ·refine Ld Y O aK O (λr:kf=>.tuple #[.agg (eV (dp dR hF).1 r).toArray,.int .i64 (dp dR hF).2]) (λF r=>kG (7+1) (6+1) F r (dp dR hF).1) (λw a=>by
         have y:Sl oV 2 (hv w) (some ⟨f,0,none⟩) 1 hF:=⟨bf,bf,au,λj x c=>⟨f,0,rfl,by
           match j,c with
           | 0,c=>simp only [hF,me,eY] at c; subst c; exact ⟨E,λk v b=>by
               match k,b with
               | 0,b=>simp [sC] at b; subst b; exact a.dZ 0 rfl rfl
               | 1,b=>simp [sC] at b; subst b; exact a.dZ 0 rfl rfl,vJ (i9 (a.vs D au)) G⟩⟩⟩
         exact vG m (hv w) 7 6 A dR (some ⟨f,0,none⟩) 1 hF w a.V (gV w) C y (by have:=zE mO; show wM (j0 mO).1<=_; omega)) ?_
     intro l s K n;refine Ln (hz ?_);refine WT.q O Y O (λ_ h=>(Wv 2 (Wd 1 h):)) (Ym O) ?_;refine WT.q O Y O (λ_ h=>(Wv 2 (Wd 1 h):)) (Yx O O) ?_;refine WT.q O Y O (λ_ h=>(Wv 2 (Wd 1 h):)) (Yx O O) ?_;refine WT.e O (λ_ h=>(Wv 2 (Wd 1 h):)) ?_ WT.stop;refine Al Y O bo λt=>?_;refine Ln (hz ?_);refine WT.e O (λ_ h=>(Wv 2 (Wd 2 h):)) ?_ WT.stop;refine aT 0 Y O O O iW O O O (Ln (hz ?_));refine WT.e O (λ_ h=>(Wv 2 (Wd 2 h):)) ?_ WT.stop;refine ai O (Ln (hz ?_));refine WT.nil (λ_ h=>(Wv 2 (Wd 2 h):)) ?_
     exact jO (t,s,l) n (λ_ h=>by
       have h:=h.aJ 4 rfl;have h:=h.aJ 4 rfl;have h:=h.aJ 4 rfl;have h:=h.aJ 3 rfl;have h:=Wt 4 h;have h:=Ws.cK h (b9:=[l,m,B,u,o]) au
       exact h)
    refine WT.e O (λ_ h=>(Wv 1 (Wd 1 h):)) ?_ WT.stop;refine Al Y O bo λt=>?_;refine Ln (hz ?_);refine WT.e O (λ_ h=>(Wv 1 (Wd 2 h):)) ?_ WT.stop
    refine Ld Y O aK O (λr:kf=>.tuple #[.agg (eV (dp dR hF).1 r).toArray,.int .i64 (dp dR hF).2]) (λF r=>kG (7+1) (6+1) F r (dp dR hF).1) (λw a=>by
        have y:Sl oV 2 (hv w) (some ⟨f,0,none⟩) 1 hF:=⟨bf,bf,au,λj x c=>⟨f,0,rfl,by
          match j,c with
          | 0,c=>simp only [hF,me,eY] at c; subst c; exact ⟨E,λk v b=>by
              match k,b with
              | 0,b=>simp [sC] at b; subst b; exact a.dZ 1 rfl rfl
              | 1,b=>simp [sC] at b; subst b; exact a.dZ 1 rfl rfl,vJ (i9 (a.vs D au)) G⟩⟩⟩
        exact vG m (hv w) 7 6 A dR (some ⟨f,0,none⟩) 1 hF w a.V (gV w) C y (by have:=zE mO; show wM (j0 mO).1<=_; omega)) ?_
    intro l s K n;refine Ln (hz ?_);refine WT.q O Y O (λ_ h=>(Wv 2 (Wd 2 h):)) (Ym O) ?_;refine WT.q O Y O (λ_ h=>(Wv 2 (Wd 2 h):)) (Yx O O) ?_;refine WT.q O Y O (λ_ h=>(Wv 2 (Wd 2 h):)) (Yx O O) ?_;refine WT.e O (λ_ h=>(Wv 2 (Wd 2 h):)) ?_ WT.stop;refine aT 0 Y O O O iW O O O (Ln (hz ?_));refine WT.e O (λ_ h=>(Wv 2 (Wd 2 h):)) ?_ WT.stop;refine ai O (Ln (hz ?_));refine WT.nil (λ_ h=>(Wv 2 (Wd 2 h):)) ?_
    exact jO (t,s,l) n (λ_ h=>by
      have h:=h.aJ 4 rfl;have h:=h.aJ 4 rfl;have h:=h.aJ 4 rfl;have h:=h.aJ 3 rfl;have h:=Wt 4 h;have h:=Ws.cK h (b9:=[l,m,B,u,o]) au
      exact h)
   refine WT.e O (λ_ h=>(Wv 1 h:)) ?_ WT.stop;refine Al Y O bo λt=>?_;refine Ln (hz ?_);refine WT.e O (λ_ h=>(Wv 1 (Wd 1 h):)) ?_ WT.stop;refine Lb Y O wo O O O O λf=>?_;refine Ln (hz ?_);refine WT.e O (λ_ h=>(Wv 1 (Wd 2 h):)) ?_ WT.stop
   refine Ld Y O aK O (λr:kf=>.tuple #[.agg (eV (dp dR hF).1 r).toArray,.int .i64 (dp dR hF).2]) (λF r=>kG (7+1) (6+1) F r (dp dR hF).1) (λw a=>by
       have y:Sl oV 2 (hv w) (some ⟨f,0,none⟩) 1 hF:=⟨bf,bf,au,λj x c=>⟨f,0,rfl,by
         match j,c with
         | 0,c=>simp only [hF,me,eY] at c; subst c; exact ⟨E,λk v b=>by
             match k,b with
             | 0,b=>simp [sC] at b; subst b; exact a.dZ 0 rfl rfl
             | 1,b=>simp [sC] at b; subst b; exact a.dZ 0 rfl rfl,vJ (i9 (a.vs D au)) G⟩⟩⟩
       exact vG m (hv w) 7 6 A dR (some ⟨f,0,none⟩) 1 hF w a.V (gV w) C y (by have:=zE mO; show wM (j0 mO).1<=_; omega)) ?_
   intro l s K n;refine Ln (hz ?_);refine WT.q O Y O (λ_ h=>(Wv 2 (Wd 2 h):)) (Ym O) ?_;refine WT.q O Y O (λ_ h=>(Wv 2 (Wd 2 h):)) (Yx O O) ?_;refine WT.q O Y O (λ_ h=>(Wv 2 (Wd 2 h):)) (Yx O O) ?_;refine WT.e O (λ_ h=>(Wv 2 (Wd 2 h):)) ?_ WT.stop;refine aT 1 Y O O O iW O O O (Ln (hz ?_));refine WT.e O (λ_ h=>(Wv 2 (Wd 2 h):)) ?_ WT.stop;refine ai O (Ln (hz ?_));refine WT.nil (λ_ h=>(Wv 2 (Wd 2 h):)) ?_
   exact jO (t,s,l) n (λ_ h=>by
     have h:=h.aJ 4 rfl;have h:=h.aJ 4 rfl;have h:=h.aJ 4 rfl;have h:=h.aJ 4 rfl;have h:=Wt 4 h;have h:=Ws.cK h (b9:=[l,m,B,u,o]) au
     exact h)
  refine WT.e O ag ?_ WT.stop;refine Al Y O bo λt=>?_;refine Ln (hz ?_);refine WT.e O (λ_ h=>(Wd 1 h:)) ?_ WT.stop;refine Ld Y O aK O (λr:SP=>.agg #[st ck,.slice r.1 pI.length r.2]) (λF r=>Sl hK 4 F r.1 r.2 pI) (λw a=>F8 w) ?_;intro D E al G;refine Ln (hz ?_);refine WT.e O (λ_ h=>(Wv 1 (Wd 1 h):)) ?_ WT.stop;refine Lb Y O wo O O O O λf=>?_;refine Ln (hz ?_);refine WT.e O (λ_ h=>(Wv 1 (Wd 2 h):)) ?_ WT.stop
  refine Ld Y O aK O (λr:kf=>.tuple #[.agg (eV (dp dR hF).1 r).toArray,.int .i64 (dp dR hF).2]) (λF r=>kG (7+1) (6+1) F r (dp dR hF).1) (λw a=>by
      have y:Sl oV 2 (hv w) (some ⟨f,0,none⟩) 1 hF:=⟨bf,bf,au,λj x c=>⟨f,0,rfl,by
        match j,c with
        | 0,c=>simp only [hF,me,eY] at c; subst c; exact ⟨E,λk v b=>by
            match k,b with
            | 0,b=>simp [sC] at b; subst b; exact a.dZ 0 rfl rfl
            | 1,b=>simp [sC] at b; subst b; exact a.dZ 0 rfl rfl,vJ (i9 (a.vs D au)) G⟩⟩⟩
      exact vG m (hv w) 7 6 A dR (some ⟨f,0,none⟩) 1 hF w a.V (gV w) C y (by have:=zE mO; show wM (j0 mO).1<=_; omega)) ?_
  intro l s K n;refine Ln (hz ?_);refine WT.q O Y O (λ_ h=>(Wv 2 (Wd 2 h):)) (Ym O) ?_;refine WT.q O Y O (λ_ h=>(Wv 2 (Wd 2 h):)) (Yx O O) ?_;refine WT.q O Y O (λ_ h=>(Wv 2 (Wd 2 h):)) (Yx O O) ?_;refine WT.e O (λ_ h=>(Wv 2 (Wd 2 h):)) ?_ WT.stop;refine aT 1 Y O O O iW O O O (Ln (hz ?_));refine WT.e O (λ_ h=>(Wv 2 (Wd 2 h):)) ?_ WT.stop;refine ai O (Ln (hz ?_));refine WT.nil (λ_ h=>(Wv 2 (Wd 2 h):)) ?_
  exact jO (t,s,l) n (λ_ h=>by
    have h:=h.aJ 4 rfl;have h:=h.aJ 4 rfl;have h:=h.aJ 4 rfl;have h:=h.aJ 4 rfl;have h:=Wt 4 h;have h:=Ws.cK h (b9:=[l,m,B,u,o]) au
    exact h)
 intro ⟨t,s,l⟩ n;refine ac (I (cI 1 O O bh O) ?_)
 refine Ld Y O aK O (λr:kf=>.tuple #[.agg (eV (dp dR []).1 r).toArray,.int .i64 (dp dR []).2]) (λF r=>kG (7+1) (6+1) F r (dp dR []).1) (λw a=>by
     skip
     exact vG m m 7 6 A dR none 0 [] w a.V a.V C Sl.nil (by have:=zE mO; show wM (j0 mO).1<=_; omega)) ?_
 intro aM aN aO aP;refine ab O (I (Yx O O) (I (Yx O O) ?_));refine Al Y O bo λaQ=>?_;refine aT 0 Y O O O iW O O O (ai O (ad (Cs ?_)));obtain ⟨am,an,ao⟩:=W8;obtain ⟨aR,aS,ap,aU,ar,aV⟩:=J.parts.aq 0 am an;obtain ⟨av,aw,ax,ay,az⟩:=W9;obtain ⟨aW,aX,L,aY,M,a0,a1,a2⟩:=n.main.aq 0 av aw;have aA:=ND;have N:=NE;have a3:=J.parts.cap;have a4:=J.parts.max;have a5:=n.main.cap;have a6:=n.main.max;refine WC.hU [(0,true),(1,true),(2,true),(3,true),(4,true),(5,true),(6,true),(7,true),(8,true),(9,true),(10,true),(11,true),(12,true),(13,true),(14,true),(15,true),(16,true),(17,true),(18,true),(19,true),(20,false),(21,false),(22,true),(23,true),(24,true),(25,false),(26,true),(27,true),(28,true),(29,true),(30,true),(31,true),(32,true),(33,true),(34,true),(35,true),(36,true),(37,true),(38,true),(39,true),(40,true),(41,true),(42,true),(43,true),(44,true),(45,true),(46,true),(47,true),(48,true),(49,true),(50,true),(51,true),(52,true),(53,true),(54,true),(55,true),(56,true),(57,true),(58,true),(59,true),(60,true),(61,true),(62,true),(63,true),(64,true),(65,true),(66,true),(67,true),(68,true),(69,true),(70,true),(71,true),(72,true),(73,true),(74,true),(75,true),(76,true),(77,true)] mixed aa (λ_ _ _ d _ h=>by cases d<;>exact h) ?_;refine D0 O ag (Ym O) (D0 O ag (m0 O O O) (D0 O ag (Ym O) ?_));apply WD.and 2 (x:=true) O O O O O Y O ag O O O O
 ·intro a7;refine Dq O (.g O O O) O ag (Ym O) (Dq O (.g O O O) O ag (m0 O O W2) ?_);exact Gi 2 ag O O O
 refine D0 O ag (Ym O) ?_;apply WD.and 2 (x:=true) O O O O O Y O ag O O O O
 ·intro a8;refine Dq O (.g O O O) O ag (Ym O) (Dq O (.g O O O) O ag (m0 O O WZ) ?_);exact Gi 2 ag O O O
 refine D0 O ag (Ym O) ?_;apply WD.and 2 (x:=true) O O O O O Y O ag O O O O
 ·intro a9;refine Dq O (.g O O O) O ag (Ym O) (Dq O (.g O O O) O ag (m0 O O W5) ?_);exact Gi 2 ag O O O
 refine D0 O ag (Ym O) ?_;apply WD.and 2 (x:=true) O O O O O Y O ag O O O O
 ·intro a';refine Dq O (.g O O O) O ag (Ym O) (Dq O (.g O O O) O ag (m0 O O W6) ?_);exact Gi 2 ag O O O
 refine D0 O ag (Ym O) ?_;apply WD.and 3 (x:=true) O O O O O Y O ag O O O O
 ·intro a_;refine Dq O (.g O O O) O ag (cI 4 O O ll O) ?_;refine De O ag ?_;refine Ld (.g O O O) O aK O (λr:SP=>.agg #[st ck,.slice r.1 pI.length r.2]) (λF r=>Sl hK 4 F r.1 r.2 pI) (λw a=>F8 w) ?_;intro aB U ba aC;refine Ln (Ed ?_);refine De O (λ_ h=>(Wv 1 h:)) ?_;refine Lp (.g O O O) O aK O (λw a=>Wk u aB z.1 U.1 z.2 U.2 ck pI w a.V a.V P aC) (Ln (Ed ?_));refine WD.wk (W':=Ws _ _ [_,_,_,_,_] [_,_,_,_,_,_]) (λ_ h=>Ws.cK (h) (λ_ aD=>eh [_] aD)) ?_;exact Gi 3 ag O O O
 refine D0 O ag (Ym O) ?_;apply WD.and 3 (x:=true) O O O O O Y O ag O O O O
 ·intro bb;refine Dq O (.g O O O) O ag (cI 4 O O ll O) ?_;refine De O ag ?_;refine Lp (.g O O O) O aK O (λw a=>B3 u z.1 z.2 ck pI w a.V P) (Ln (Ed (Dq O (.g O O O) O ag (m0 O O W1) ?_)));exact Gi 3 ag O O O
 refine D0 O ag (Ym O) ?_;apply WD.and 3 (x:=true) O O O O O Y O ag O O O O
 ·intro bc;refine Dq O (.g O O O) O ag (Yf Gv O) (Dq O (.g O O O) O ag (Yd 3 O O O aa) (Dq O (.g O O O) O ag (m0 O O W3) ?_));exact Gi 3 ag O O O
 refine D0 O ag (Ym O) ?_;apply WD.and 4 (x:=true) O O O O O Y O ag O O O O
 ·intro bd;refine Dq O (.g O O O) O ag (Yf l_ O) (Dq O (.g O O O) O ag (Yd 3 O O O aa) (Dq O (.g O O O) O ag (Yn qw O) (Dq O (.g O O O) O ag (m0 O O (by rw [ND]; rfl)) ?_)));exact Gi 4 ag O O O
 refine D0 O ag (Ym O) ?_;apply WD.and 6 (x:=true) O O O O O Y O ag O O O O
 ·intro be;refine Dq O (.g O O O) O ag (Yf l_ O) (Dq O (.g O O O) O ag (Yd 3 O O O aa) (Dq O (.g O O O) O ag (Yo (i:=0) qw O O ap (by rw [aA]; decide)) (Dq O (.g O O O) O ag (Yf Gw O) (Dq O (.g O O O) O ag (cC 3 aa O O (ar 1 _ O)) (Dq O (.g O O O) O ag (m0 O O ao) ?_)))));exact Gi 6 ag O O O
 refine D0 O ag (Ym O) ?_;apply WD.and 4 (x:=true) O O O O O Y O ag O O O O
 ·intro bg;refine Dq O (.g O O O) O ag (Yf oX O) (Dq O (.g O O O) O ag (Yd 1 O O O aa) (Dq O (.g O O O) O ag (Yn i4 O) (Dq O (.g O O O) O ag (m0 O O (by rw [NE]; rfl)) ?_)));exact Gi 4 ag O O O
 refine D0 O ag (Ym O) ?_;apply WD.and 6 (x:=true) O O O O O Y O ag O O O O
 ·intro bj;refine Dq O (.g O O O) O ag (Yf oX O) (Dq O (.g O O O) O ag (Yd 1 O O O aa) (Dq O (.g O O O) O ag (Yo (i:=0) i4 O O L (by rw [N]; decide)) (Dq O (.g O O O) O ag (Yf ec O) (Dq O (.g O O O) O ag (cC 1 aa O O (M 2 _ O)) (Dq O (.g O O O) O ag (m0 O O ax) ?_)))));exact Gi 6 ag O O O
 refine D0 O ag (Ym O) ?_;apply WD.and 6 (x:=true) O O O O O Y O ag O O O O
 ·intro bk;refine Dq O (.g O O O) O ag (Yf oX O) (Dq O (.g O O O) O ag (Yd 1 O O O aa) (Dq O (.g O O O) O ag (Yo (i:=0) i4 O O L (by rw [N]; decide)) (Dq O (.g O O O) O ag (Yf sB O) (Dq O (.g O O O) O ag (cC 1 aa O O (M 3 _ O)) (Dq O (.g O O O) O ag (m0 O O ay) ?_)))));exact Gi 6 ag O O O
 refine D0 O ag (Ym O) ?_;apply WD.and 6 (x:=true) O O O O O Y O ag O O O O
 ·intro bl;refine Dq O (.g O O O) O ag (Yf oX O) (Dq O (.g O O O) O ag (Yd 1 O O O aa) (Dq O (.g O O O) O ag (Yo (i:=0) i4 O O L (by rw [N]; decide)) (Dq O (.g O O O) O ag (Yf zB O) (Dq O (.g O O O) O ag (cC 1 aa O O (M 1 _ O)) (Dq O (.g O O O) O ag (m0 O O az) ?_)))));exact Gi 6 ag O O O
 refine D0 O ag (Ya O) ?_;refine WD.nil ag ?_;refine Et (aZ ?_);refine R1 O O λw' a=>?_;exact ⟨O,a.fr⟩
def a':ga prog 29=some 1:=aa
abbrev XK:=aV×(Option Addr×Nat)
def XK.cells (e:XK):List Value:=e.1.cells e.2
def XK.dk (e:XK):(XK.cells e).length=3:=rfl
def XK.one (e:XK):(XK.cells e).all (·.oneCell')=true:=rfl
def Gy (J:View) (e:XK):Prop:=Sl mw 1 J e.2.1 e.2.2 e.1.parts
def Gy.mv {e:XK} (hv:bK bc b_) (h:Gy bc e):Gy b_ e:=h.imp λ_ _ _ r=>cw.mono hv r
def kj:hc prog 29 3 (.int .i64 0) 1 8:=jr aa
def po:dV prog 29=some 1:=aa
def u3:hc prog 55 62 (.agg #[.int .i64 0,.int .i64 0,.int .i64 0]) 3 24:=jr aa
def JT:dV prog 55=some 1:=aa
def d_:ga prog 55=some 3:=aa
def lE:ig prog 62=some 3:=aa
def hk:hx prog 62=some [(0,1),(1,1),(2,1)]:=aa
def gq:zeroOf prog 62=some (.agg #[.int .i64 0,.int .i64 0,.int .i64 0]):=aa
def gZ:cJ prog 62 1=some 1:=aa
structure Y4 (us:List e2) (nu:Nat) (al:Bool) (kn:List aV):Prop where
 len:kn.length=nu+1
 Y5:al=true->∀mi,0<mi->mi<=nu->kn[mi]? = some dg
 Y6:∀mi,mi<=nu->(al=true->mi=0)->∃u,us[mi]? = some u/\kn[mi]? = some (je u)
abbrev XU:=e2×kf
def XU.cells (e:XU):List Value:=eV e.1 e.2
def XU.dk (e:XU):(XU.cells e).length=5:=rfl
def XU.one (e:XU):(XU.cells e).all (·.oneCell')=true:=rfl
def JF:v3 prog 62=some [0,0,0]:=aa
def jU:dV prog 62=some 3:=aa
def l3:cJ prog 62 0=some 0:=aa
def wrap_u8 (n:Int):IntKind.u8.wrap n=((eW n).toNat:Int):=by
 unfold eW IntKind.wrap;simp [IntKind.signed,IntKind.bits];omega
def W_:∀(u:Value) (w:World),(callFunc 272 #[u]).run prog w = .ok (.value u) w:=Ou func272 aa aa aa aa
def mP (n:Int) (k:Nat):List UInt8:=(List.range k).map λj=>eW (n.fdiv (2 ^ (56-8*j)))
def Xa (n:Int):mP n 8=iP n:=by
 simp [mP,iP,ud,Int.fdiv_one]
def Xb (n:Int) (k:Nat):mP n (k+1)=mP n k++[eW (n.fdiv (2 ^ (56-8*k)))]:=by simp [mP,ud]
def Xc (n:Int) (k:Nat):(mP n k).length=k:=by simp [mP]
def Xd (l:List Int):(l.flatMap iP).length=l.length*8:=by
 induction l with
 | nil=>rfl
 | cons x r a=>simp only [i7,bT,a,J9,b5]; omega
def e4 (s:List UInt8):(gN s).length=s.length+1:=rfl
def pL:prog.underlying 141=some (.pointer 144):=aa
def wq:dV prog 144=some 2:=aa
def Xe:liesAt prog prog.depth 146 (2 / prog.cellsOf 146) 0 144 1=true:=aa
def GB:cJ prog 144 0=some 0:=aa
def Xf:dV prog 141=some 1:=aa
def xL:cJ prog 144 1=some 1:=aa
def NI:dV prog 142=some 1:=aa
def GC:cJ prog 146 0=some 0:=aa
def Xg:ga prog 142=some 1:=aa
def Xh:prog.underlying 262=some (.pointer 5):=aa
def Xi:prog.cellsOf 5=1:=aa
def NJ (a:Nat) (q:Option Addr) (v:Value) (w:World) (d:q=none\/q=some ⟨a,0,none⟩) (b:Ws w [a] [aE a (.cells #[.pointer (q),v] 146 (0,0))] [] w) :
   Calls prog 233 #[.pointer (some ⟨a,0,none⟩)] w λe w'=>e = .returned (.tuple #[])/\Ws w [a] [aE a (.cells #[.pointer (some ⟨a,0,none⟩),v] 146 (0,0))] [] w':=by
 refine enter func233 O 20 O O ?_;refine CE b (ac (ab O (I (bV O) (I (Yf GB O) (I (Yd 0 O O O aa) (I (Ov pL O) (ad ?_)))))));refine Cc O (λc=>?_) (λc=>?_)
 ·obtain rfl:q=none:=by cases q with | none=>rfl | some _=>simp at c
  refine Cr (ab O (ab O (I (Oo 0 pL aa wq O O O) (I (Ot W_ O) (I (Oq 0 aa pL wq O (n:=2) O Xe O) (I (bV O) (I (Yf GB O) ?_)))))));refine aT 0 Y O O O Xf O O O (Ln ?_);refine E0 O λw' b=>?_;exact ⟨O,b⟩
 obtain rfl:q=some ⟨a,0,none⟩:=by
   rcases d with rfl | h
   · simp at c
   · exact h
 refine ac (ab O (I (bV O) (I (Yf GB O) (I (Yd 0 O O O aa) (ab O (I (Ox pL wq O O) (ad ?_)))))));refine WC.mf O ?_;refine Ck ?_;refine E0 O λw' b=>?_;exact ⟨O,b⟩
def Xj (a:Nat) (q:Option Addr) (v:Value) (bs:List UInt8) (b:UInt8) (w:World) (g:q=none\/q=some ⟨a,0,none⟩) (i:bs.length+1<=1099511627776) (c:Ws w ([aE a (.cells #[.pointer (q),v] 146 (0,0)),cq 5 1 v (bs).length ((bs).map e_)].flatMap ah.ids) [aE a (.cells #[.pointer (q),v] 146 (0,0)),cq 5 1 v (bs).length ((bs).map e_)] [] w) :
   Calls prog 141 #[.pointer (some ⟨a,0,none⟩),.int .u8 (b.toNat:Int)] w λe w'=>∃f:Value,e = .returned (.nilIface)/\True/\Ws w ([aE a (.cells #[.pointer (q),v] 146 (0,0)),cq 5 1 v (bs).length ((bs).map e_)].flatMap ah.ids) [aE a (.cells #[.pointer (some ⟨a,0,none⟩),f] 146 (0,0)),cq 5 1 f (bs++[b]).length ((bs++[b]).map e_)] [] w':=by
 refine enter func141 O 17 O O ?_;refine CE c (ac (ai O (ad (ac (ab O (j_ [_] _ _ Y O aK O O [] au (λw c=>NJ a q v w g c) (ad (ac (ab O ?_)))))))));refine ab O (I (bV O) (I (Yf xL O) (I (Yd 0 O O O aa) (ab O ?_))));refine Lb Y O BK O O O O λl=>?_;refine WL.append 2 Y O BK O O O (news:=[e_ b]) O (λw c j u d=>Hx c 0 O (k:=j) d) (λu d=>by simp at d; subst d; rfl) (by unfold maxLen; omega) Z (λm n=>?_);refine WL.o3 2 (bs++[b]).length ((bs++[b]).map e_) O au au ?_;refine WL.Hy 2 O λo p r h=>?_;subst h;refine I (bV O) (I (Yf xL O) (aT 1 Y O O O NI O O O (ad (ac (ai O (ad (aZ ?_)))))));refine R1 O O λw' c=>?_;exact ⟨_,O,trivial,Wd 1 c⟩
def Xk (a:Nat) (q:Option Addr) (v:Value) (bs:List UInt8) (s:List UInt8) (w:World) (d:q=none\/q=some ⟨a,0,none⟩) (g:bs.length+s.length<=1099511627776) (b:Ws w ([aE a (.cells #[.pointer (q),v] 146 (0,0)),cq 5 1 v (bs).length ((bs).map e_)].flatMap ah.ids) [aE a (.cells #[.pointer (q),v] 146 (0,0)),cq 5 1 v (bs).length ((bs).map e_)] [] w) :
   Calls prog 140 #[.pointer (some ⟨a,0,none⟩),st s] w λe w'=>∃c:Value,e = .returned (.tuple #[.int .i64 s.length,.nilIface])/\True/\Ws w ([aE a (.cells #[.pointer (q),v] 146 (0,0)),cq 5 1 v (bs).length ((bs).map e_)].flatMap ah.ids) [aE a (.cells #[.pointer (some ⟨a,0,none⟩),c] 146 (0,0)),cq 5 1 c (bs++s).length ((bs++s).map e_)] [] w':=by
 refine enter func140 O 19 O O ?_;refine CE b (ac (ai O (ai O (ad (ac (ab O (j_ [_] _ _ Y O aK O O [] au (λw b=>NJ a q v w d b) (ad (ac ?_)))))))));refine ab O (ab O (I (bV O) (I (Yf xL O) (I (Yd 0 O O O aa) (ab O ?_)))));refine WL.OC 1 Y O BK aa O O O Z (λh i=>?_);refine WL.o3 1 (bs++s).length ((bs++s).map e_) O au au ?_;refine WL.Hy 1 O λj k l f=>?_;subst f;refine I (bV O) (I (Yf xL O) (aT 0 Y O O O NI O O O (ad (ac (ab O (I (eJ aa O) (ai O (ai O ?_))))))));refine ad (aZ ?_);refine WE.jp O O O λw' b=>?_;exact ⟨_,O,trivial,b⟩
def pM (a:Nat) (q:Option Addr) (v:Value) (bs:List UInt8) (n:Int) (w:World) (d:q=none\/q=some ⟨a,0,none⟩) (f:bs.length+1<=1099511627776) (b:Ws w ([aE a (.cells #[.pointer (q),v] 146 (0,0)),cq 5 1 v (bs).length ((bs).map e_)].flatMap ah.ids) [aE a (.cells #[.pointer (q),v] 146 (0,0)),cq 5 1 v (bs).length ((bs).map e_)] [] w) :
   Calls prog 72 #[.pointer (some ⟨a,0,none⟩),.int .i64 n] w λe w'=>∃c:Value,e = .returned (.tuple #[])/\True/\Ws w ([aE a (.cells #[.pointer (q),v] 146 (0,0)),cq 5 1 v (bs).length ((bs).map e_)].flatMap ah.ids) [aE a (.cells #[.pointer (some ⟨a,0,none⟩),c] 146 (0,0)),cq 5 1 c (bs++[eW n]).length ((bs++[eW n]).map e_)] [] w':=by
 refine enter func72 O 10 O O ?_;refine CE b (Cr (ab O (I (bV O) (I (Yf GC O) (ab O (I (Hw kk Lh O) ?_))))))
 refine Lw (ι:=Value) [_,_] _ Y O aK O O (λ_=>.nilIface) (λc=>[aE a (.cells #[.pointer (some ⟨a,0,none⟩),c] 146 (0,0)),cq 5 1 c (bs++[eW n]).length ((bs++[eW n]).map e_)]) (λ_=>True) [] au (λw b=>by
     have:=Xj a q v bs (eW n) w d f b;rw [<-wrap_u8] at this
     exact this) ?_
 intro g _;refine Ln ?_;refine E0 O λw' b=>?_;exact ⟨_,O,trivial,b⟩
def NK (a:Nat) (q:Option Addr) (v:Value) (bs:List UInt8) (s:List UInt8) (w:World) (d:q=none\/q=some ⟨a,0,none⟩) (h:bs.length+s.length+1<=1099511627776) (b:Ws w ([aE a (.cells #[.pointer (q),v] 146 (0,0)),cq 5 1 v (bs).length ((bs).map e_)].flatMap ah.ids) [aE a (.cells #[.pointer (q),v] 146 (0,0)),cq 5 1 v (bs).length ((bs).map e_)] [] w) :
   Calls prog 71 #[.pointer (some ⟨a,0,none⟩),st s] w λe w'=>∃c:Value,e = .returned (.tuple #[])/\True/\Ws w ([aE a (.cells #[.pointer (q),v] 146 (0,0)),cq 5 1 v (bs).length ((bs).map e_)].flatMap ah.ids) [aE a (.cells #[.pointer (some ⟨a,0,none⟩),c] 146 (0,0)),cq 5 1 c (bs++gN s).length ((bs++gN s).map e_)] [] w':=by
 refine enter func71 O 13 O O ?_;refine CE b (ac (ab O (ab O (I (eJ aa O) ?_))));refine Lw [_,_] _ Y O aK O O _ _ _ [] au (λw b=>pM a q v bs s.length w d Z b) ?_;intro f _;refine ad (Cr (ab O (I (bV O) (I (Yf GC O) (ab O ?_)))));refine Lw (ι:=Value) [_,_] _ Y O aK O O (λ_=>.tuple #[.int .i64 s.length,.nilIface]) (λc=>[aE a (.cells #[.pointer (some ⟨a,0,none⟩),c] 146 (0,0)),cq 5 1 c (bs++[eW s.length]++s).length ((bs++[eW s.length]++s).map e_)]) (λ_=>True) [] au (λw b=>Xk a (some ⟨a,0,none⟩) f (bs++[eW s.length]) s w (.inr O) (by simp; omega) b) ?_;intro g _;refine Ln ?_;refine E0 O λw' b=>?_;refine ⟨g,O,trivial,?_⟩
 have e:bs++gN s=bs++[eW s.length]++s:=by simp [gN]
 rw [e];exact b
def Xl (a:Nat) (q:Option Addr) (v:Value) (bs:List UInt8) (c:bs≠[]) (w:World) (i:q=none\/q=some ⟨a,0,none⟩) (j:bs.length+1<=1099511627776) (b:Ws w ([aE a (.cells #[.pointer (q),v] 146 (0,0)),cq 5 1 v (bs).length ((bs).map e_)].flatMap ah.ids) [aE a (.cells #[.pointer (q),v] 146 (0,0)),cq 5 1 v (bs).length ((bs).map e_)] [] w) :
   Calls prog 74 #[.pointer (some ⟨a,0,none⟩)] w λe w'=>e = .returned (st bs)/\Ws w ([aE a (.cells #[.pointer (q),v] 146 (0,0)),cq 5 1 v (bs).length ((bs).map e_)].flatMap ah.ids) [] [] w':=by
 have f:0<bs.length:=List.length_pos_iff.2 c;refine enter func74 O 14 O O ?_;refine CE b (ac (ai O (ad (Cs ?_))));refine WC.shape 1 O f λk l g m n=>?_;subst g;refine WC.gW 1 [(0,true),(1,true),(2,true),(3,true),(5,true),(6,true),(7,true),(8,true),(9,true),(4,false),(10,false),(11,true)] mixed aa (λ_ _ _ d _ h=>by cases d<;>exact h) ?_;refine D0 O (Wp 1) (Ym O) (D0 O (Wp 1) (bV O) (D0 O (Wp 1) (Yf xL O) (D0 O (Wp 1) (Yd 0 O O O aa) (D0 O (Wp 1) (Ym O) (D0 O (Wp 1) (bV O) (D0 O (Wp 1) (Yf xL O) (D0 O (Wp 1) (Yd 0 O O O aa) ?_)))))));refine D0 O (Wp 1) (Yn Xg O) ?_;refine De O (Wp 1) ?_;refine I (Oz Z O) (Ln (Ed ?_));refine De O (Wp 1) ?_;refine WL.OD 1 Y O Xh Xi O O O O c Z ?_;refine Ln (Ed (D0 O (Wp 1) (Ya O) ?_));refine WD.nil (Wp 1) ?_;refine Et (aZ ?_);refine R1 O O λw' b=>?_;exact ⟨O,Wd 1 b⟩
def Xm (H:View) (a:Option Addr) (c:Nat) (l:List Int) (b:Nat) (q:Option Addr) (v:Value) (bs:List UInt8) (w:World) (f:Sl mw 1 H a c l) (y:q=none\/q=some ⟨b,0,none⟩) (E:bs.length+l.length*8<=1099511627776) (d:Ws w ([aE b (.cells #[.pointer (q),v] 146 (0,0)),cq 5 1 v (bs).length ((bs).map e_)].flatMap ah.ids) [aE b (.cells #[.pointer (q),v] 146 (0,0)),cq 5 1 v (bs).length ((bs).map e_)] [H] w) :
   Calls prog 73 #[.pointer (some ⟨b,0,none⟩),.slice a l.length c] w λe w'=>∃r:Option Addr×Value,e = .returned (.tuple #[])/\(r.1=none\/r.1=some ⟨b,0,none⟩)/\Ws w ([aE b (.cells #[.pointer (q),v] 146 (0,0)),cq 5 1 v (bs).length ((bs).map e_)].flatMap ah.ids) [aE b (.cells #[.pointer (r.1),r.2] 146 (0,0)),cq 5 1 r.2 (bs++l.flatMap iP).length ((bs++l.flatMap iP).map e_)] [H] w':=by
 have F:=f.cap;have G:=f.max;refine enter func73 O 23 O O ?_;refine CE d (ac (ab O (I (Yn a' O) (ab O (ad (Cb ?_))))));refine e0 (ι:=Nat×Option Addr×Value) (λg=>[(9,.int .i64 (g.1:Int))]) [(0,_),(7,_),(8,_)] (λg=>Ws w ([aE b (.cells #[.pointer (q),v] 146 (0,0)),cq 5 1 v (bs).length ((bs).map e_)].flatMap ah.ids) [aE b (.cells #[.pointer (g.2.1),g.2.2] 146 (0,0)),cq 5 1 g.2.2 (bs++(l.take g.1).flatMap iP).length ((bs++(l.take g.1).flatMap iP).map e_)] [H]) (λg=>g.1<=l.length/\(g.2.1=none\/g.2.1=some ⟨b,0,none⟩)) (λg=>l.length-g.1) (0,q,v) ⟨cx _,y⟩ (λ_ h=>by simpa using h) ?_;intro g ⟨hi,o⟩;refine ac (I (cy O O) (ad (Cs ?_)));refine Cc O (λi=>?_) (λi=>?_)
 ·have z:g.1<l.length:=by simpa using i
  obtain ⟨x,p⟩:=dw z;obtain ⟨A,B,C,j⟩:=f.aq g.1 x p;have j:cw H A (B+g.1*1) (pf x):=j;refine am (Cs (Cb (ac (I (Yo a' O O C Z) (I (cC 0 aa O O (j 0 _ O)) (ai O (ad (ac (ai O (ad (Cb ?_)))))))))));refine e0 (ι:=Nat×Option Addr×Value) (λk=>[(6,.int .i64 (56-8*(k.1:Int)))]) [(0,_),(5,_),(7,_),(8,_),(9,_)] (λk=>Ws w ([aE b (.cells #[.pointer (q),v] 146 (0,0)),cq 5 1 v (bs).length ((bs).map e_)].flatMap ah.ids) [aE b (.cells #[.pointer (k.2.1),k.2.2] 146 (0,0)),cq 5 1 k.2.2 (bs++(l.take g.1).flatMap iP++mP x k.1).length ((bs++(l.take g.1).flatMap iP++mP x k.1).map e_)] [H]) (λk=>k.1<=8/\(k.2.1=none\/k.2.1=some ⟨b,0,none⟩)) (λk=>8-k.1) (0,g.2.1,g.2.2) ⟨cx _,o⟩ (λ_ h=>by simpa [mP] using h) ?_;intro k ⟨J,s⟩;refine Cs (ac (ab O (I (ih O O) (ad ?_))));refine Cc O (λm=>?_) (λm=>?_)
  ·have t:k.1<8:=by simp at m; omega
   refine am (Cs (Cb (Cr (ab O (ab O (ab O (I (Oy O O Z) ?_)))))))
   refine Lw (ι:=Value) [_,_] _ Y O aK O O (λ_=>.tuple #[]) (λu=>[aE b (.cells #[.pointer (some ⟨b,0,none⟩),u] 146 (0,0)),cq 5 1 u (bs++(l.take g.1).flatMap iP++mP x k.1++[eW (x.fdiv (2 ^ (56-8*k.1)))]).length ((bs++(l.take g.1).flatMap iP++mP x k.1++[eW (x.fdiv (2 ^ (56-8*k.1)))]).map e_)]) (λ_=>True) [] au (λw d=>by
       have:=pM b k.2.1 k.2.2 (bs++(l.take g.1).flatMap iP++mP x k.1) (x.fdiv (2 ^ (56-8*k.1))) w s (by simp only [bT,Xd,Xc,mc,pT]; omega) d
       have e:min (56-8*(k.1:Int)).toNat IntKind.i64.bits=56-8*k.1:=by simp [IntKind.bits]; omega
       rw [e]
       exact this) ?_
   intro n _;refine Ln (Eb (Et (Cr (ab O (I (n_ (56-8*((k.1+1:Nat):Int)) O O Z Z) (ai O (Ln ?_)))))))
   exact ct ((k.1+1,some ⟨b,0,none⟩,n):Nat×Option Addr×Value) (by first | omega | (dsimp only; omega)) ⟨by first | omega | (dsimp only; omega),.inr O⟩ (λ_ h=>by
     have e:=Xb x k.1
     show Ws _ _ [aE b (.cells #[.pointer (some ⟨b,0,none⟩),n] 146 (0,0)),cq 5 1 n (bs++(l.take g.1).flatMap iP++mP x (k.1+1)).length ((bs++(l.take g.1).flatMap iP++mP x (k.1+1)).map e_)] _ _
     rw [e,<-n5]
     exact h)
  have t:k.1=8:=by simp at m; omega
  refine Ce (Ex (Ex (cU (Eb (Et (Cr (I (Yi O O O Z) (ab O (Ln ?_)))))))))
  exact ct ((g.1+1,k.2.1,k.2.2):Nat×Option Addr×Value) (by first | omega | (dsimp only; omega)) ⟨by first | omega | (dsimp only; omega),s⟩ (λ_ h=>by
    have e:bs++(l.take g.1).flatMap iP++mP x k.1=bs++(l.take (g.1+1)).flatMap iP:=by
      rw [t,Xa,kV,p]; simp
    rw [e] at h
    exact h)
 have D:g.1=l.length:=by simp at i; omega
 refine Ce (Ex (Ex (cU ?_)));refine E0 O λw' d=>?_;rw [D,gv] at d;exact ⟨(g.2.1,g.2.2),O,o,d⟩
def Xn {f:a9->List gY} {l:List a9}  {x:a9} (h:l[ae]? = some x):(l.take (ae+1)).flatMap f=(l.take ae).flatMap f++f x:=by
 rw [kV,h]; simp
def EM:cJ prog 62 2=some 2:=aa
def Xo {T:TypeId} {a:Nat×Nat} (l:List Int) (e:l.length<=2):Sl mw 1 (bv ae (.cells (l.flatMap pf).toArray T a)) (some ⟨ae,0,none⟩) l.length l:=
 ⟨eH _,Z,au,λi y c=>⟨ae,0,rfl,λk u b=>OE (by
   have d:k<1:=(cS.1 b).1
   show gE (.cells (l.flatMap pf).toArray T a) (0+i*1+k)=some u
   simp only [gE,zQ,gC];rw [kZ Eg c d]
   exact b)⟩⟩
def Xp:hx prog 146=some [(0,2)]:=aa
def Xq:zeroOf prog 146=some (.agg #[.pointer none,.slice none 0 0]):=aa
abbrev XO:=gj×A_
def XO.cells (e:XO):List Value:=Jh e.1 e.2
def XO.dk (e:XO):(XO.cells e).length=7:=rfl
def Xr (a b:View) (a1 a2:Option Addr) (c1 c2:Nat) (l:List Int) (w:World) (n:Le a w) (o:Le b w) (c:Sl mw 1 a a1 c1 l) (f:Sl mw 1 b a2 c2 l) :
   Calls prog 24 #[.slice a1 l.length c1,.slice a2 l.length c2] w λe w'=>e = .returned (.bool true)/\Ext w w':=by
 have z:=c.cap;have A:=c.max;have B:=f.cap;have C:=f.max;refine enter func24 O 26 O O ?_;refine CE (Vs:=[a,b]) (Ws.init (by simp [n,o])) (ac (ai O (ad (Cs (ac (ab O (I (Yn a' O) (ab O (I (Yn a' O) ?_)))))))));refine I (jQ O O O) (ad ?_);refine WC.mf O ?_;refine am (Cs (ac (ai O (ad (Cb ?_)))));refine fT (ι:=Nat) (λi=>[(5,.int .i64 (i:Int))]) [(0,_),(1,_)] (λi=>i<=l.length) (λi=>l.length-i) 0 (cx _) ?_;intro i hi;refine Cs (ac (ab O (ab O (I (Yn a' O) (I (cy O O) (ad ?_))))));refine Cc O (λk=>?_) (λk=>?_)
 ·have p:i<l.length:=by simpa using k
  obtain ⟨x,m⟩:=dw p;obtain ⟨q,r,s,g⟩:=c.aq i x m;obtain ⟨t,u,v,j⟩:=f.aq i x m;have g:cw a q (r+i*1) (pf x):=g;have j:cw b t (u+i*1) (pf x):=j;refine am (Cs (Cb (Cs ?_)));refine WC.hU [(0,true),(1,true),(2,true),(3,true),(4,true),(5,true),(6,true),(7,true),(8,true)] mixed aa (λ_ _ _ d _ h=>by cases d<;>exact h) ?_;refine D0 O ag (Ym O) (D0 O ag (Ym O) (D0 O ag (Yo a' O O s Z) (D0 O ag (cC 0 aa O O (g 0 _ O)) (D0 O ag (Ym O) (D0 O ag (Ym O) (D0 O ag (Yo a' O O v Z) (D0 O ag (cC 1 aa O O (j 0 _ O)) ?_)))))));refine D0 O ag (jQ O O O) ?_;refine WD.nil ag ?_;refine Et ?_;refine WC.mf O ?_;refine Ck (Eb (Et (Cr (ab O (I (Yi O O O Z) (ai O (Ln ?_)))))));exact ct (i+1) Z Z ag
 refine Ce (Ex (Ex (cU (Et (ac (ai O (ad (aZ ?_))))))));refine R1 O O λw' y=>?_;exact ⟨O,y.fr⟩
def Yv (p:Pl) (q:SP):List Value:=[.int .i64 p.code,.int .i64 p.data,.slice q.1 p.Ei.length q.2]
abbrev xN:=Pl×SP
def xN.cells (e:xN):List Value:=Yv e.1 e.2
def xN.dk (e:xN):(xN.cells e).length=3:=rfl
def eX (l:List gj):List Pl:=if SA l=0 then Sx l++[Sy l] else []
structure Y7 where
 i:Nat
 es:List xN
 oa:SP
 J:View
def oH:zeroOf prog 57=some (.agg #[.slice none 0 0,.int .i64 0]):=aa
def w5:hx prog 57=some [(0,1),(1,1)]:=aa
def sd:dV prog 57=some 2:=aa
def nJ:ig prog 57=some 2:=aa
def jB:cJ prog 57 0=some 0:=aa
variable {mD:List Int}
def Xt (h:Sl mw 1 bc cj ae mD):Sl Mch.jD 1 bc cj ae mD:=h.imp λb o x h=>h 0 _ rfl
def NL (h:Sl Mch.jD 1 bc cj ae mD):Sl mw 1 bc cj ae mD:=h.imp λb o x h k v a=>by
 match k,a with
 | 0,a=>cases a; exact h
def JB:cJ prog 64 0=some 0:=aa
def Bf:cJ prog 64 3=some 3:=aa
def wV:cJ prog 64 1=some 1:=aa
def wU:cJ prog 64 2=some 2:=aa
def wX:zeroOf prog 64=some (.agg #[.int .i64 0,.slice none 0 0,.slice none 0 0,.int .i64 0]):=aa
def wW:dV prog 64=some 4:=aa
def tv:cJ prog 57 1=some 1:=aa
def r':ig prog 64=some 4:=aa
def Bo:hx prog 64=some [(0,1),(1,1),(2,1),(3,1)]:=aa
def yM:ga prog 178=some 1:=aa
def Bh:hc prog 178 29 (.slice none 0 0) 1 24:=jr aa
end Go.Proofs.YtgeahfjicmlocaaGreatDoor
end
section
namespace Go.Proofs.YtgeahfjicmlocaaGreatDoor.Mch
open Go.Bw Go.Proofs.Tryz
structure St where
 at_:Nat
 gL:List Int
 fr:List (List Int×Int)
 w:Wm
def St.m (L s:Nat) (x:St):Pm:=⟨(x.at_:Int),(L:Int),(s:Int),x.gL,x.fr,x.w.cr,x.w.out,x.w.data,(x.w.cH:Int)⟩
structure Cd (C:List bX) (L N:Nat):Prop where
 hN:N<=134217728
 hC:C.length<=2048
 hL:L<=2000
def Gx (C:List bX) (L N n:Nat) (x y:St):Prop:=∀s,s+n<=N->∀k,runK C N (n+k) (x.m L s)=runK C N k (y.m L (s+n))
def Xx (C:List bX) (L N n:Nat) (x:St) (e:Int) (w:Wm):Prop:=(e≠6/\e≠7)/\∀s,s+n<=N->∀k,∃m',runK C N (n+k) (x.m L s)=(e,m')/\m'.out=w.out/\m'.data=w.data/\m'.cH=(w.cH:Int)
section
variable {C:List bX} {L N:Nat}
def Gx.refl (x:St):Gx C L N 0 x x:=λs _ k=>by rw [gC,oY]
variable {ae aB:Nat}
def Gx.trans {x y a:St} (h:Gx C L N ae x y) (k:Gx C L N aB y a):Gx C L N (ae+aB) x a:=λs b q=>by
 rw [rI,h s Z (aB+q),k (s+ae) Z q,rI]
def Gx.x {x y:St} {e:Int} {w:Wm} (h:Gx C L N ae x y) (k:Xx C L N aB y e w):Xx C L N (ae+aB) x e w:=⟨k.1,λs a q=>by
 rw [rI,h s Z (aB+q)]
 exact k.2 (s+ae) Z q⟩
variable {p:Nat} {a b v v2:Int} {gL:List Int} {fr:List (List Int×Int)} {w:Wm}
end
def KK:Nat:=2050
def Sm {σ α:Type} (C:List bX) (L N B:Nat) (b:σ->Prop) (a:σ->Wm) (w:Wm) (x:St) (r:Bw.Rz σ α) (y:α->σ->St):Prop:=match r with
 | .ok v f=>∃n,b f/\w.cH<=(a f).cH/\n<=B+KK*((a f).cH-w.cH)/\Gx C L N n x (y v f)
 | .ov e w'=>∃n,w.cH<=w'.cH/\n<=B+KK*(w'.cH-w.cH+1)/\Xx C L N n x e w'
section
variable {C:List bX} {L N:Nat}
def Xu {a b c:Nat} (h:a<=b) (k:b<=c):KK*(b-a)+KK*(c-b)=KK*(c-a):=by rw [<-CZ]; congr 1; omega
variable {ae aB:Nat}
def Xv (h:ae<=aB):KK*ae<=KK*aB:=G2 _ h
variable {a9 gY:Type} {pN:a9->Prop} {xz:a9->Wm} {bN:Wm} {ju:St}
def Sm.ok {v:gY} {f:a9} {y:gY->a9->St} (a:pN f) (b:bN.cH=(xz f).cH) (c:aB<=ae) (h:Gx C L N aB ju (y v f)):Sm C L N ae pN xz bN ju (.ok v f) y:=⟨aB,a,Z,Z,h⟩
def Sm.ov {σ α:Type}  {a:σ->Prop} {b:σ->Wm} {w w':Wm}  {e:Int} {y:α->σ->St} (c:w.cH<=w'.cH) (d:aB<=ae+KK) (h:Xx C L N aB ju e w'):Sm C L N ae a b w ju (.ov e w':Bw.Rz σ α) y:=⟨aB,c,by have:=Xv (show 1<=w'.cH-w.cH+1 by omega); omega,h⟩
def Sm.mono {r:Bw.Rz a9 gY} {y:gY->a9->St} (h:Sm C L N ae pN xz bN ju r y) (g:ae<=aB):Sm C L N aB pN xz bN ju r y:=by
 cases r with
 | ok v f=>obtain ⟨n,a,b,c,d⟩:=h; exact ⟨n,a,b,Z,d⟩
 | ov e w'=>obtain ⟨n,a,b,c⟩:=h; exact ⟨n,a,Z,c⟩
def Sm.pre {x b:St} {r:Bw.Rz a9 gY} {y:gY->a9->St} (g:Gx C L N aB x b) (h:Sm C L N ae pN xz bN b r y):Sm C L N (aB+ae) pN xz bN x r y:=by
 cases r with
 | ok v f=>obtain ⟨m,a,c,d,i⟩:=h; exact ⟨aB+m,a,c,Z,g.trans i⟩
 | ov e w'=>obtain ⟨m,a,c,d⟩:=h; exact ⟨aB+m,a,Z,g.x d⟩
def Sm.bind {σ b α j:Type}  {l:σ->Prop} {o:b->Prop} {a:σ->Wm} {p:b->Wm} {w:Wm}  {r:Bw.Rz σ α} {g:α->σ->Bw.Rz b j} {y:α->σ->St} {q:j->b->St} (h:Sm C L N ae l a w ju r y)
   (k:∀v f,r = .ok v f->l f->w.cH<=(a f).cH->Sm C L N aB o p (a f) (y v f) (g v f) q):Sm C L N (ae+aB) o p w ju (match r with | .ok v f=>g v f | .ov e w=>.ov e w) q:=by
 cases r with
 | ok v f=>
   obtain ⟨n,d,i,s,t⟩:=h;have c:=k v f rfl d i;dsimp only
   cases u:g v f with
   | ok F G=>
     rw [u] at c;obtain ⟨m,z,A,B,E⟩:=c;have:=Xu i A;exact ⟨n+m,z,Z,Z,t.trans E⟩
   | ov e D=>
     rw [u] at c;obtain ⟨m,z,A,B⟩:=c
     have H:KK*((a f).cH-w.cH)+KK*(D.cH-(a f).cH+1)=KK*(D.cH-w.cH+1):=by rw [<-CZ]; congr 1; omega
     exact ⟨n+m,Z,Z,t.x B⟩
 | ov e I=>
   obtain ⟨n,d,i,s⟩:=h;exact ⟨n,d,Z,s⟩
def Sm.bd {σ α b:Type}  {c d:σ->Prop} {a e:σ->Wm}   {r:Bw.Rz σ α} {g:α->σ->Bw.Rz σ b} {y:α->σ->St} {i:b->σ->St} (h:Sm C L N ae c a bN ju r y)
   (k:∀v f,r = .ok v f->c f->bN.cH<=(a f).cH->Sm C L N aB d e (a f) (y v f) (g v f) i):Sm C L N (ae+aB) d e bN ju (r.bind g) i:=Sm.bind h k
def Sm.fr {a:Wm->Prop} {b:Fm->Prop} {w:Wm}  {r:Bw.Rz Wm a9} {y:a9->Wm->St} {c:a9->Fm->St} {f:Fm} (h:Sm C L N ae a id w ju r y) (d:∀w,a w->b { f with w:=w }) (g:∀v w,y v w=c v { f with w:=w }):Sm C L N ae b Fm.w w ju (Bw.Rz.fr f r) c:=by
 cases r with
 | ok v w'=>obtain ⟨n,i,j,k,l⟩:=h; exact ⟨n,d _ i,j,k,by rw [<-g]; exact l⟩
 | ov e w'=>exact h
end
abbrev Cr:=Nat->Nat->Prop
def bb (C:List bX) (p:Nat) (op a b:Int):Prop:=C[p]? = some ⟨op,a,b⟩
def pO (ks:List Cr) (i:Nat):Cr:=(ks[i]?).getD λ_ _=>False
def zF:List Cr->Cr
 | [],p,q=>p=q
 | k::r,p,q=>∃t,k p t/\zF r t q
def Xw (C:List bX) (a b:Cr) (p q:Nat):Prop:=∃t r,a p t/\bb C t 12 ((r+2:Nat):Int) 0/\b (t+1) r/\bb C r 22 0 0/\bb C (r+1) 11 ((r+3:Nat):Int) 0/\bb C (r+2) 1 0 0/\q=r+3
def Yy (C:List bX) (a b:Cr) (p q:Nat):Prop:=∃t r,a p t/\bb C t 12 ((t+3:Nat):Int) 0/\bb C (t+1) 1 1 0/\bb C (t+2) 11 ((r+1:Nat):Int) 0/\b (t+3) r/\bb C r 22 0 0/\q=r+1
def Xy (C:List bX) (a:Int->Int) (b:Int->Int->Nat) (op n m pl:Int) (ks:List Cr) (p q:Nat):Prop:=
 if op=1 then bb C p 1 n 0/\q=p+1
 else if op=2 then bb C p 18 0 0/\q=p+1
 else if op=16 then bb C p 2 pl 0/\q=p+1
 else if op=3 then bb C p 4 (pl+a m) 0/\q=p+1
 else if op=4 then ∃t,pO ks 0 p t/\bb C t 6 (pl+a m) n/\bb C (t+1) 7 0 0/\q=t+2
 else if op=5 then ∃t,zF ks p t/\bb C t 13 (b m pl:Nat) 0/\q=t+1
 else if op=6 then ∃t,zF ks p t/\bb C t 9 0 0/\q=t+1
 else if op=7 then Xw C (pO ks 0) (pO ks 1) p q
 else if op=8 then Yy C (pO ks 0) (pO ks 1) p q
 else ∃t,zF ks p t/\bb C t 10 op 0/\q=t+1
mutual
def Xz (C:List bX) (a:Int->Int) (b:Int->Int->Nat):gH->Cr
 | .mk op n m pl args=>Xy C a b op n m pl (wA C a b args)
def wA (C:List bX) (a:Int->Int) (b:Int->Int->Nat):List gH->List Cr
 | []=>[]
 | x::r=>Xz C a b x::wA C a b r
end
def YC (C:List bX) (a body other:Cr) (b:Nat) (p q:Nat):Prop:=∃t r,a p t/\body (t+1) r/\if 0<b then bb C t 12 ((r+1:Nat):Int) 0/\bb C r 11 (q:Nat) 0/\other (r+1) q else bb C t 12 (r:Nat) 0/\q=r
def XB (C:List bX) (a body:Cr) (p q:Nat):Prop:=∃t r,a p t/\bb C t 12 (q:Nat) 0/\bb C (t+1) 16 0 0/\body (t+2) r/\bb C r 11 (p:Nat) 0/\q=r+1
def XC (C:List bX) (a:Int->Int) (b:Int->Int->Nat) (op n m pl:Int) (ks:List Cr) (body other:Cr) (c:Nat) (p q:Nat):Prop:=
 if op=1 then ∃t,pO ks 0 p t/\(if m<0 then bb C t 3 pl 0 else bb C t 5 (pl+a m) 0)/\q=t+1
 else if op=2 then ∃t r,pO ks 0 p t/\bb C t 6 (pl+a m) n/\pO ks 1 (t+1) r/\bb C r 8 0 0/\q=r+1
 else if op=3 then ∃t,zF ks p t/\bb C t 13 (b m pl:Nat) 0/\bb C (t+1) 17 0 0/\q=t+2
 else if op=4 then YC C (pO ks 0) body other c p q
 else if op=5 then XB C (pO ks 0) body p q
 else if op=6 then ∃t,pO ks 0 p t/\bb C t 15 0 0/\q=t+1
 else if op=7 then ∃t,pO ks 0 p t/\bb C t 19 0 0/\q=t+1
 else q=p
mutual
def XD (C:List bX) (a:Int->Int) (b:Int->Int->Nat):fp->Cr
 | .mk op n m pl args body other=>XC C a b op n m pl (wA C a b args) (Cu C a b body) (Cu C a b other) other.length
def Cu (C:List bX) (a:Int->Int) (b:Int->Int->Nat):List fp->Cr
 | []=>λp q=>p=q
 | x::r=>λp q=>∃t,XD C a b x p t/\Cu C a b r t q
end
def NM (C:List bX) (a:Int->Int) (b:Int->Int->Nat) (params locals:Int) (body:List fp) (p q:Nat):Prop:=∃t,bb C p 14 params locals/\Cu C a b body (p+1) t/\bb C t 1 0 0/\bb C (t+1) 15 0 0/\q=t+2
def Cv (P:Env) (u:Nat) (m:Int):Int:=(((P.wF[P.mod u m]?).getD 0:Nat):Int)
def wG (P:Env) (a:Nat->Nat->Nat) (u:Nat) (m pl:Int):Nat:=a (P.mod u m) pl.toNat
structure Wi (L D cc:Nat) (w:Wm):Prop where
 calls:w.calls=cc
 cH:w.cH<=L
 data:w.data.length=D
def YD (C:List bX) (L N c b:Nat) (call:Cl) (j:Nat) (d f:Int) (bd:List fp) (e:Nat):Prop:=∀(a:Nat) (vs gL:List Int) (fr:List (List Int×Int)) (w:Wm),bb C a 13 (e:Int) 0->(vs.length:Int)=d->fr.length=b+1->gL.length<=16*b+20->Wi L c b w->
 Sm C L N 1 (Wi L c b) id w ⟨a,vs.reverse++gL,fr,w⟩ (call j (vs++List.replicate f.toNat 0) bd w) (λv w'=>⟨a+1,v::gL,fr,w'⟩)
structure Y9 (C:List bX) (L N D cc:Nat) (P:Env) (call:Cl) (xR:Nat->Nat->Nat) (u:Nat) (kn:List aV):Prop where
 data:∀{m pl n:Int},mx kn m pl n=true->0<=n->0<=pl/\(∀i:Nat,((P.at_ u m (pl+i):Nat):Int)=pl+Cv P u m+i)/\pl+Cv P u m+n<=(D:Int)
 fy:∀{m pl:Int} {k:Nat},nD kn m pl (k:Int)=true->k<=3
 part:∀{m pl n:Int},nD kn m pl n=true->∃(p:ou),((P.l[P.mod u m]?).bind λx=>x.parts[pl.toNat]?)=some p/\p.params=n/\YD C L N D cc call (P.mod u m) p.params p.locals p.body (wG P xR u m pl)
structure Fi (L D cc nl:Nat) (f:Fm):Prop where
 w:Wi L D cc f.w
 loc:f.loc.length=nl
def NN (q back:Nat) (gL:List Int) (fr:List (List Int×Int)) (t:Bool) (f:Fm):St:=if t=true then ⟨back,f.val::gL,fr,f.w⟩ else ⟨q,gL,(f.loc,(back:Int))::fr,f.w⟩
section
variable {C:List bX} {L N D cc nl:Nat} {P:Env} {call:Cl} {xR:Nat->Nat->Nat} {u:Nat} {kn:List aV}
def Sm.after {B n:Nat} {w:Wm} {x:St} {a:Fm->Prop} {r:Bw.Rz Fm Bool} {q b back:Nat} {gL:List Int} {fr:List (List Int×Int)} (h:Sm C L N B a Fm.w w x r (NN q back gL fr)) (g:∀f:Fm,Gx C L N n ⟨q,gL,(f.loc,(back:Int))::fr,f.w⟩ ⟨b,gL,(f.loc,(back:Int))::fr,f.w⟩):Sm C L N (B+n) a Fm.w w x r (NN b back gL fr):=by
 cases r with
 | ov e w'=>exact Sm.mono h Z
 | ok t f=>
   obtain ⟨m,c,d,j,i⟩:=h
   cases t with
   | true=>exact ⟨m,c,d,Z,i⟩
   | false=>exact ⟨m+n,c,d,Z,i.trans (g f)⟩
end
section
variable {P:Env} {call:Cl} {u:Nat}
def VK (v:Int) (r:Bw.Rz Fm Bool):Prop:=∀a,r = .ok false a->a.val=v
variable {aL:Int}
def VK.bd {α:Type} {r:Bw.Rz Fm α} {g:α->Fm->Bw.Rz Fm Bool} (h:∀a s,r = .ok a s->VK aL (g a s)):VK aL (r.bind g):=λc e=>by
 cases b:r with
 | ok a s=>rw [b] at e; exact h a s b c e
 | ov x w=>rw [b] at e; cases e
def VK.ok {f:Fm}  {b:Bool} (h:f.val=aL):VK aL (.ok b f):=λc e=>by injection e with d a; subst a; exact h
end
structure Y_ (C:List bX) (l:List e2) (L:Nat) (xR:Nat->Nat->Nat) (NO:Nat->Nat):Prop where
 parts:∀{j:Nat} {z:e2} {q:Nat} {p:ou},l[j]? = some z->z.parts[q]? = some p->∃q',NM C (Cv (A6 l L) j) (wG (A6 l L) xR j) p.params p.locals p.body (xR j q) q'
 Za:∀{j:Nat} {z:e2},l[j]? = some z->∃q',NM C (Cv (A6 l L) j) (wG (A6 l L) xR j) 0 0 z.main (NO j) q'
 Zb:∀{j:Nat},j<l.length->bb C j 13 (NO j:Nat) 0
 halt:bb C l.length 20 0 0
def XF (x:jS):bX:=⟨x.op,x.a,x.b⟩
abbrev Vl:=jT->Int->Int
def tW (fs:List jT) (p:Nat):Option jT:=fs.find? λf=>f.at_==(p:Int)
def Vg (val:Vl) (g:Gs) (p:Nat):Option jS:=(g.code[p]?).map λi=>match tW g.fix p with | none=>i | some f=>⟨i.op,val f i.a,i.b⟩
def Wf (g:Gs):Prop:=∀f ∈ g.fix,∃p:Nat,f.at_=(p:Int)/\p<g.code.length
structure Ex (g g':Gs):Prop where
 lo:g.code.length<=g'.code.length
 code:∀p,p<g.code.length->g'.code[p]? = g.code[p]?
 fix:∀p,p<g.code.length->tW g'.fix p=tW g.fix p
 wf:Wf g->Wf g'
def Ex.refl (g:Gs):Ex g g:=⟨eH _,λ_ _=>rfl,λ_ _=>rfl,id⟩
def Ex.trans {g b c:Gs} (h:Ex g b) (k:Ex b c):Ex g c:=⟨rH h.lo k.lo,λp a=>(k.code p (zK a h.lo)).trans (h.code p a),λp a=>(k.fix p (zK a h.lo)).trans (h.fix p a),λw=>k.wf (h.wf w)⟩
def XG {fs:List jT} {p:Nat} (h:∀f ∈ fs,f.at_≠(p:Int)):tW fs p=none:=by
 unfold tW;rw [List.find?_eq_none];intro f a
 simpa using h f a
def XH {a b:List jT} {p:Nat} (h:∀f ∈ b,f.at_≠(p:Int)):tW (a++b) p=tW a p:=by
 have:=XG h;unfold tW at this ⊢;rw [List.find?_append,this]
 cases List.find? (λf=>f.at_==(p:Int)) a<;>rfl
def Ap.ex {o:Nat} {r:Int->Int->Prop} {s:List Nat} {g d:Gs} (h:Ap o r s g d):Ex g d:=by
 obtain ⟨c,fx,t,k,v,u,x⟩:=h.more
 have l:∀f ∈ fx,∃p:Nat,f.at_=(p:Int)/\g.code.length<=p/\p<d.code.length:=λf a=>by
   obtain ⟨p,i,a1,a2,a3,_⟩:=u f a;exact ⟨p,a1,a3,(cS.1 a2).1⟩
 refine ⟨h.lo,λp m=>by rw [t,xY m],λp m=>?_,λw f a=>?_⟩
 · rw [k]
   refine XH λf a e=>?_;obtain ⟨q,b,j,n⟩:=l f a;rw [b] at e; omega
 · rw [k] at a
   rcases fB.1 a with a | a
   · obtain ⟨p,b,j⟩:=w f a
     exact ⟨p,b,zK j h.lo⟩
   · obtain ⟨q,b,j,n⟩:=l f a
     exact ⟨q,b,n⟩
section
variable {val:Vl} {g g':Gs} {p n:Nat}
def YH (h:Ex g g') (a:p<g.code.length):Vg val g' p=Vg val g p:=by
 unfold Vg; rw [h.code p a,h.fix p a]
end
structure Zc (val:Vl) (b:Nat) (dm:Int->Int) (pm:Int->Int->Nat) (kn:List aV):Prop where
 j:∀(at_ a:Int),val ⟨at_,1,0⟩ a=a+b
 p:∀{at_ m pl n:Int},nD kn m pl n=true->val ⟨at_,2,m⟩ pl=(pm m pl:Nat)
 d:∀{at_ m pl n:Int},mx kn m pl n=true->0<=n->val ⟨at_,3,m⟩ pl=pl+dm m
def Hc (C:List bX) (b:Nat) (val:Vl) (g:Gs) (lo hi:Nat):Prop:=∀p,lo<=p->p<hi->C[b+p]? = (Vg val g p).map XF
section
variable {C:List bX} {b:Nat} {val:Vl} {dm:Int->Int} {pm:Int->Int->Nat} {kn:List aV} {U:Nat} {Pk:Int->Int->Prop}
variable {hy Cw:Gs}
def Hc.to {lo hi a c:Nat} (h:Hc C b val Cw lo hi) (d:lo<=a) (f:c<=hi) (e:∀p,a<=p->p<c->Vg val Cw p=Vg val hy p):Hc C b val hy a c:=λp a1 a2=>by rw [h p Z Z,e p a1 a2]
variable {ae aB cp:Nat}
def Hc.ex (h:Hc C b val Cw ae aB) (x:Ex hy Cw) (a:ae<=cp) (c:hy.code.length<=aB):Hc C b val hy cp hy.code.length:=h.to a c λp _ a2=>YH x a2
def Hc.at {i:jS} (h:Hc C b val hy ae aB) (c:ae<=cp) (d:cp<aB) (e:Vg val hy cp=some i):bb C (b+cp) i.op i.a i.b:=by
 unfold bb; rw [h cp c d,e]; rfl
def Gc (C:List bX) (b:Nat) (val:Vl) (k:Gk) (r:Cr):Prop:=∀g,Wf g->Ex g (k g)/\(Hc C b val (k g) g.code.length (k g).code.length->r (b+g.code.length) (b+(k g).code.length))
def Gc.imp {k:Gk} {r a:Cr} (h:Gc C b val k r) (c:∀p q,r p q->a p q):Gc C b val k a:=λg w=>⟨(h g w).1,λH=>c _ _ ((h g w).2 H)⟩
end
section
variable {l:List e2}
def XJ (a:ix l) {u:e2} (b:u ∈ l):uR u=true:=Si (Jg.2 a) b
def YI (b:ix l) (c:∀u ∈ l,(tq u).2=0):u5 (y9 l)=k_ l:=by
 unfold u5 y9 k_;rw [CG];refine zM λu a=>?_
 show (tq u).1.to.nm=u.nm
 rw [(y6 (XJ b a) (c u a)).1]; rfl
def mH (a:ix l) (g:∀u ∈ l,(tq u).2=0) {n:Nat} {u:e2} (i:l[n]? = some u) {b j:Nat} (h:(n::u.aP.map λs=>(idxOf s (k_ l) 0).getD 0)[b]? = some j):EX (y9 l) n (tp u).to b=j:=by
 unfold EX EW
 cases b with
 | zero=>simp at h; subst h; rfl
 | succ t=>
   rw [mR,gS] at h;obtain ⟨s,c,e⟩:=dX.1 h;obtain ⟨p,o,d,m,q⟩:=Qz a i (gu c);rw [d] at e;simp at e;subst e;rw [show ((t+1:Nat):Int).toNat=t+1 from rfl,mR,gS,show (tp u).to.aP=u.aP from rfl,c,dN,zP];unfold Kf;rw [YI a g];have f:=(tg d).2;rw [pQ] at f;rw [Fl (k:=0) (j:=p) (a.nd.sublist (List.take_sublist _ _)) (by rw [i6,a8 m,f])];simp
end
end Go.Proofs.YtgeahfjicmlocaaGreatDoor.Mch
end
section
namespace Go.Proofs.YtgeahfjicmlocaaGreatDoor
open Go.Bw Go.Proofs.Tryz
def kt (x:bW):List UInt8:=[eW x.kind]++gN x.name++iP x.n++iP x.pl
def XL (name:List UInt8) (a:List bW):List UInt8:=gN name++[eW a.length]++a.flatMap kt
def YK (x:bW):(kt x).length=x.name.length+18:=by simp only [kt,bT,e4,J9,pT]; omega
def NQ:∀(l:List bW),(∀x ∈ l,x.name.length<=8)->(l.flatMap kt).length<=l.length*26
 | [],_=>by simp
 | x::r,h=>by
   have b:=h x au;have c:=NQ r λy a=>h y (by simp [a]);simp only [i7,bT,YK,b5]; omega
variable {aO:List bW}
def NR (h:∀x ∈ aO,x.name.length<=8) (i:Nat):((aO.take i).flatMap kt).length<=aO.length*26:=by
 have b:=NQ (aO.take i) λx a=>h x (zS a)
 have c:(aO.take i).length<=aO.length:=by simp; omega
 omega
def Cx (name:List UInt8) (a:List bW):List UInt8×Int:=if h6 name a=0 then (XL name a,0) else ([],h6 name a)
def YT {name:List UInt8}  (h:h6 name aO=0):aO.length<=16/\name.length<=8/\∀x ∈ aO,x.name.length<=8:=by
 unfold h6 at h
 split at h
 · cases h
 · rename_i f
   split at h
   · rename_i a
     simp only [ew,zX,mQ,C1] at a;obtain ⟨d,_,b⟩:=a;refine ⟨Z,?_,?_⟩
     · unfold gc at b; simp at b; omega
     · intro x e
       have:=hS.1 d x e;unfold k6 at this;simp only [zX,mQ,C1] at this;have c:=this.1.1.1.1.1.1.1;unfold gc at c; simp at c; omega
   · cases h
def NS (H:View) (a:Option Addr) (c:Nat) (name:List UInt8) (b:List bW) (w:World) (v:Le H w) (j:Sl hK 4 H a c b) :
   Calls prog 16 #[.agg #[st name,.slice a b.length c]] w λe w'=>e = .returned (.tuple #[st (Cx name b).1,.int .i64 (Cx name b).2])/\Ext w w':=by
 have M:=j.cap;have N:=j.max;refine enter func16 O 51 O O ?_;refine CE (Vs:=[H]) (Ws.init (by simp [v])) (ac ?_);refine WL.box Y O O λy=>?_;refine ai O (ai O (ad (Cs (ac (I (cI 0 O O ll O) (Lp Y O aK O (λw f=>B3 H a c name b w f.V j) (ai O (ad (ac (ab O ?_))))))))));refine I (fh O O) (ad ?_);refine Cc O (λm=>?_) (λm=>?_)
 ·have k:¬h6 name b=0:=by simpa using m
  refine ac (ab O (ai O (ai O (ad (aZ (Er ?_))))));refine WE.jp O O O λw' f=>?_;exact ⟨by rw [Cx,av k]; rfl,f.fr⟩
 have k:h6 name b=0:=by simpa using m
 obtain ⟨P,Q,o⟩:=YT k;refine am (ac (I (Yb Xq Xp O O) ?_));refine WL.box Y O O λd=>?_;refine LW (λ_ h=>h.g3 5 1) (ai O (ad (ac (ab O (I (Yf rz O) (I (Yd 2 O O O aa) (Lf 1 O ?_)))))));refine Lw (ι:=Value) [_,_] _ Y O aK O O (λ_=>.tuple #[]) (λi=>[aE d (.cells #[.pointer (some ⟨d,0,none⟩),i] 146 (0,0)),cq 5 1 i (gN name).length ((gN name).map e_)]) (λ_=>True) [] au (λw f=>NK d none (.slice none 0 0) [] name w Y (by simp only [bT,e4,pT,b5,b8]; omega) f) ?_;intro z _;refine ad (ac (ab O (I (Yf jK O) (I (Yd 2 O O O aa) (I (Yn bn O) ?_)))));refine Lw (ι:=Value) [_,_] _ Y O aK O O (λ_=>.tuple #[]) (λi=>[aE d (.cells #[.pointer (some ⟨d,0,none⟩),i] 146 (0,0)),cq 5 1 i (gN name++[eW b.length]).length ((gN name++[eW b.length]).map e_)]) (λ_=>True) [] au (λw f=>pM d (some ⟨d,0,none⟩) z (gN name) b.length w (.inr O) (by simp only [bT,e4,pT,b5,b8]; omega) f) ?_;intro A _;refine ad (Cs (ac (I (Yf jK O) (I (Yd 2 O O O aa) (I (Yn bn O) (ab O (ad (Cb ?_))))))));refine e0 (ι:=Nat×Option Addr×Value) (λg=>[(27,.int .i64 (g.1:Int))]) [(2,_),(3,_),(5,_),(25,_),(26,_)] (λg=>Ws w [] ([aE d (.cells #[.pointer (g.2.1),g.2.2] 146 (0,0)),cq 5 1 g.2.2 (gN name++[eW b.length]++(b.take g.1).flatMap kt).length ((gN name++[eW b.length]++(b.take g.1).flatMap kt).map e_)]++[aE y (.cells (Value.agg #[st name,.slice a b.length c]).cells 42 (0,0))]) [H]) (λg=>g.1<=b.length/\(g.2.1=none\/g.2.1=some ⟨d,0,none⟩)) (λg=>b.length-g.1) (0,some ⟨d,0,none⟩,A) ⟨cx _,.inr O⟩ (λ_ h=>by simp only [List.take_zero,zT,qB]; exact h) ?_;intro g ⟨hi,t⟩;refine ac (I (cy O O) (ad (Cs ?_)));refine Cc O (λp=>?_) (λp=>?_)
 ·have B:g.1<b.length:=by simpa using p
  obtain ⟨x,l⟩:=dw B;obtain ⟨C,D,E,q⟩:=j.aq g.1 x l;have q:cw H C (D+g.1*4) x.cells:=q
  have R:(b.take (g.1+1)).map (·.name)=(b.take g.1).map (·.name)++[x.name]:=by rw [kV,l]; simp
  have hL:((b.take g.1).map (·.name)).length=g.1:=by simp; omega
  have S:=o x (gu l);have F:=NR o g.1;refine am (Cs (Cb (ac (I (Yo bn O O E Z) (I (eq 0 hR O O O (q)) ?_)))));refine Al Y O ha λT=>?_;refine aT 0 Y O O O iu O O O (ad (ac (ab O (I (Yf lO O) (I (Yd 0 O O O aa) (Lf 2 O (Lf 2 O ?_)))))));refine Lw (ι:=Value) [_,_] _ Y O aK O O (λ_=>.tuple #[]) (λi=>[aE d (.cells #[.pointer (some ⟨d,0,none⟩),i] 146 (0,0)),cq 5 1 i (gN name++[eW b.length]++(b.take g.1).flatMap kt++[eW x.kind]).length ((gN name++[eW b.length]++(b.take g.1).flatMap kt++[eW x.kind]).map e_)]) (λ_=>True) [] au (λw f=>pM d g.2.1 g.2.2 (gN name++[eW b.length]++(b.take g.1).flatMap kt) x.kind w t (by simp only [bT,e4,pT,b5,b8]; omega) f) ?_;intro G _;refine ad (ac (ab O (I (Yf oT O) (I (Yd 2 O O O aa) ?_))));refine Lw (ι:=Value) [_,_] _ Y O aK O O (λ_=>.tuple #[]) (λi=>[aE d (.cells #[.pointer (some ⟨d,0,none⟩),i] 146 (0,0)),cq 5 1 i (gN name++[eW b.length]++(b.take g.1).flatMap kt++[eW x.kind]++gN x.name).length ((gN name++[eW b.length]++(b.take g.1).flatMap kt++[eW x.kind]++gN x.name).map e_)]) (λ_=>True) [] au (λw f=>NK d (some ⟨d,0,none⟩) G (gN name++[eW b.length]++(b.take g.1).flatMap kt++[eW x.kind]) x.name w (.inr O) (by simp only [bT,e4,pT,b5,b8]; omega) f) ?_;intro J _;refine ad (Cr (ab O (I (Yf j8 O) (I (Yd 2 O O O aa) (I (Yf ir O) (I (Yd 2 O O O aa) ?_))))));refine Lb Y O kj O O O O λs=>?_;refine dn 0 (.cells (([x.n,x.pl]:List Int).flatMap pf).toArray 3 (0,0)) O O ?_;refine WL.Af 0 O ?_;refine Lw (ι:=Option Addr×Value) [_,_] _ Y O aK O O (λ_=>.tuple #[]) (λr=>[aE d (.cells #[.pointer (r.1),r.2] 146 (0,0)),cq 5 1 r.2 (gN name++[eW b.length]++(b.take g.1).flatMap kt++[eW x.kind]++gN x.name++[x.n,x.pl].flatMap iP).length ((gN name++[eW b.length]++(b.take g.1).flatMap kt++[eW x.kind]++gN x.name++[x.n,x.pl].flatMap iP).map e_)]) (λr=>r.1=none\/r.1=some ⟨d,0,none⟩) [bv s (.cells (([x.n,x.pl]:List Int).flatMap pf).toArray 3 (0,0))] au (λw f=>Xm (bv s (.cells (([x.n,x.pl]:List Int).flatMap pf).toArray 3 (0,0))) (some ⟨s,0,none⟩) 2 [x.n,x.pl] d (some ⟨d,0,none⟩) J (gN name++[eW b.length]++(b.take g.1).flatMap kt++[eW x.kind]++gN x.name) w (Xo _ au) (.inr O) (by simp only [bT,e4,pT,b5,b8]; omega) f) ?_;intro u K;refine Ln (Eb (Et (Cr (I (Yi O O O Z) (ab O (Ln ?_))))))
  exact ct ((g.1+1,u.1,u.2):Nat×Option Addr×Value) (by first | omega | (dsimp only; omega)) ⟨by first | omega | (dsimp only; omega),K⟩ (λ_ h=>by
    have h:=Ws.out 2 h;have h:=Ws.cK h (b9:=[H]) au
    have e:gN name++[eW b.length]++(b.take g.1).flatMap kt++[eW x.kind]++gN x.name++[x.n,x.pl].flatMap iP=gN name++[eW b.length]++(b.take (g.1+1)).flatMap kt:=by rw [Xn l]; simp [kt]
    rw [e] at h
    exact h)
 have L:g.1=b.length:=by simp at p; omega
 refine Ce (Ex (Ex (cU (Et (ac (ab O (I (bV O) (I (Yf GC O) ?_))))))))
 refine Lw (ι:=Unit) [_,_] _ Y O aK O O (λ_=>st (gN name++[eW b.length]++(b.take g.1).flatMap kt)) (λ_=>[]) (λ_=>True) [] au (λw f=>by
     have:=Xl d g.2.1 g.2.2 (gN name++[eW b.length]++(b.take g.1).flatMap kt) au w t (by simp only [bT,e4,pT]; have F:=NR o g.1; omega) f
     exact this.mono λe w' h=>⟨(),h.1,trivial,h.2⟩) ?_
 intro _ _;refine ai O (ai O (ad (aZ ?_)));refine WE.jp O O O λw' f=>?_;exact ⟨by rw [Cx,a8 k,L,gv]; rfl,f.fr⟩
structure Zd where
 i:Nat
 M:List (fu (List UInt8))
 c:Nat
structure Ze where
 i:Nat
 d:List Nat
structure Zf where
 out:List Nat
 s:SP
abbrev MP:=cm×iB
abbrev FP:=nf×SP
def tY (J:View) (M:List (fu Tx)) (fl:List (Tx×nf)):Prop:=∀s,∃r:SP,hY s M (.agg #[st [],.slice none 0 0]) = .agg #[st (gI fl s).1,.slice r.1 (gI fl s).2.length r.2]/\Sl hK 4 J r.1 r.2 (gI fl s).2
variable {bc:View}
def tY.nil:tY bc [] []:=λ_=>⟨(none,0),rfl,Sl.nil⟩
variable {xP:List (fu Tx)} {zH:List (Tx×nf)}
def tY.mv {J a:View}   (h:tY J xP zH) (hv:bK J a):tY a xP zH:=λs=>by
 obtain ⟨r,b,c⟩:=h s;exact ⟨r,b,vJ hv c⟩
def tY.put (h:tY bc xP zH) {k:Tx} {f:nf} {a:Option Addr} {n:Nat} (c:Nat) (d:Sl hK 4 bc a n f.2):tY bc (gw k (.agg #[st f.1,.slice a f.2.length n]) xP c) ((k,f)::zH):=λs=>by
 by_cases e:s=k
 · subst e
   refine ⟨(a,n),by rw [A4,gI,a8 rfl],?_⟩;rw [gI,a8 rfl]; exact d
 · obtain ⟨r,g,i⟩:=h s
   have b:¬k=s:=λq=>e q.symm;refine ⟨r,by rw [A5 _ xP c _ e,g,gI,av b],?_⟩;rw [gI,av b]; exact i
structure To where
 i:Nat
 es:List MP
 m:SP
 J:View
structure Zg where
 i:Nat
 us:List XU
 o:SP
 fl:List (Tx×nf)
 M:List (fu Tx)
 c:Nat
 J:View
structure Zh where
 k:Nat
 es:List FP
 r:SP
structure Zi where
 i:Nat
 es:List XO
 o:SP
 J:View
structure Zj where
 i:Nat
 es:List FP
 r:SP
 J:View
def iz:Tx:=[109,111,100,117,108,101,32,99,110,116,32,123,32,112,117,98,32,99,111,110,115,116,32,107,32,61,32,51,32,59,32,112,117,98,32,118,97,114,32,115,117,109,32,59,32,112,117,98,32,97,114,114,97,121,32,116,32,91,32,52,32,93,32,59,32,112,117,98,32,112,114,111,99,32,100,111,119,110,32,40,32,110,32,41,32,108,111,99,97,108,32,105,32,59,32,123,32,105,32,61,32,110,32,59,32,119,104,105,108,101,32,105,32,123,32,115,117,109,32,61,32,40,32,115,117,109,32,43,32,105,32,41,32,59,32,105,32,61,32,40,32,105,32,45,32,49,32,41,32,59,32,125,32,114,101,116,117,114,110,32,115,117,109,32,59,32,125,32,109,97,105,110,32,123,32,125,32,125]
end Go.Proofs.YtgeahfjicmlocaaGreatDoor
end
section
namespace Go.Proofs.YtgeahfjicmlocaaGreatDoor.Mch
open Go.Bw Go.Proofs.Tryz
structure Zk (N:Int->Prop) (m:Pm):Prop where
 at_:N m.at_
 fr:∀f ∈ m.cB,N f.2
structure Zl (mk:List Bool) (cur:List bX) (k n:Nat) (x:bX):Prop where
 len:k+n<=cur.length
 two:n=2\/n=3
 un:∀j,k<j->j<k+n->mk[j]? = some false
 is:(n=3/\(cu cur (k+1)).op=1/\(cu cur (k+2)).op=10/\(h2 (cu cur (k+2)).a (cu cur k).a (cu cur (k+1)).a).2=true/\x=⟨1,(h2 (cu cur (k+2)).a (cu cur k).a (cu cur (k+1)).a).1,0⟩)\/
   (n=2/\(cu cur (k+1)).op=12/\(cu cur k).a=0/\x=⟨11,(cu cur (k+1)).a,0⟩)\/
   (n=2/\(cu cur (k+1)).op=9/\x=⟨1,i3 ((cu cur k).a==0),0⟩)\/
   (n=2/\(cu cur (k+1)).op=22/\x=⟨1,i3 ((cu cur k).a != 0),0⟩)\/
   (n=2/\(cu cur (k+1)).op=12/\(cu cur k).a≠0/\x=⟨21,0,0⟩)\/
   (n=2/\(cu cur (k+1)).op=17/\x=⟨21,0,0⟩)
structure QI (mk:List Bool) (code q:List bX):Prop where
 len:q.length=code.length
 go:∀(j:Nat) (y:bX),q[j]? = some y->goes y.op=true->0<=y.a->y.a<q.length->mk[y.a.toNat]? = some true
 jmp:∀j:Nat,j<code.length->(cu code j).op=11->q[j]? = code[j]?
 SB:∀(j:Nat) (y:bX),q[j]? = some y->Bd y=false
end Go.Proofs.YtgeahfjicmlocaaGreatDoor.Mch
end
