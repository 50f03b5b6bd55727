/- LinkLinks: Check and Link answer just what the document says, errors too, whatever they are handed. -/
import Derived.Lib.AppendZeros
import Derived.Test.YtplfmnkmlaolpaaGreatDoorL3
set_option linter.unusedVariables false
set_option linter.unusedSimpArgs false
section
namespace Go.Proofs.YtplfmnkmlaolpaaGreatDoor
open Go.Bw
theorem mOk {m:bf} (h:jS m=0):Fx m:=okM (aha.1 h)
theorem am3 {d:bS} (h:Xl d):0<=ng d/\ng d<=32:=by
 unfold ng;have h3:=h.n3
 split
 · omega
 · split
   · rename_i hk; have:=h3 hk; omega
   · omega
theorem aaz:∀{l:List bS},(∀d ∈ l,(ie d).bl=0)->0<=fJ l/\fJ l<=32*(l.length:Int)
 | [],_=>by simp [fJ]
 | d::l,h=>by
   have h1:=am3 (Xm (h d (by simp)));have h2:=aaz (l:=l) λx hx=>h x (List.mem_cons_of_mem _ hx);simp only [fJ,List.length_cons];omega
theorem aaA {m:bf} (ho:Fx m) (i:Nat):0<=fJ (m.decls.take i)/\fJ (m.decls.take i)<=320:=by
 have h:=aaz (l:=m.decls.take i) λd hd=>ho.decls d (List.mem_of_mem_take hd);have h1:=ho.ef.2.1
 have h2:((m.decls.take i).length:Int)<=10:=by rw [List.length_take]; omega
 omega
theorem am4 {d:bS} {a:Int} (h:d.kind=1):aY.cells (o_ a d)=[.int .i64 d.kind,.int .i64 d.n,.int .i64 0,st d.nm]:=by rw [o_,if_pos h]; rfl
theorem aaB {d:bS} {a:Int} (h:¬d.kind=1):aY.cells (o_ a d)=[.int .i64 d.kind,.int .i64 d.n,.int .i64 a,st d.nm]:=by rw [o_,if_neg h]; rfl
theorem am5 {d:bS} (h:d.kind=1):ng d=0:=by rw [ng,if_neg (by omega),if_neg (by omega)]
theorem am6 {d:bS} (h:d.kind=2):ng d=1:=by rw [ng,if_pos h]
theorem am7 {d:bS} (h:d.kind=3):ng d=d.n:=by rw [ng,if_neg (by omega),if_pos h]
theorem AI:fh Tryz.prog 232=some [(0,1),(1,1),(2,1),(3,1)]:=by kernel_rfl
theorem sO:fk Tryz.prog 178 232 (.agg #[.int .i64 0,.int .i64 0,.int .i64 0,st []]) 4 40:=iw (by kernel_rfl)
theorem aaC (H:View) (ke ks:Nat) (r:mc) (m:bf) (w:World) (hH:Le H w) (hm:n6 ke ks H r m) (ho:Fx m) :
   Calls Tryz.prog 113 #[.agg (gE m r).toArray] w λe w'=>∃r:SP,e = .returned (.tuple #[.slice r.1 (ey m).length r.2,.int .i64 (B6 m)])/\Ext w w'/\Sl mj 4 (nv w w') r.1 r.2 (ey m):=by
 have ef:=ho.ef;have xd:=hm.decls.max;have yd:=hm.decls.cap;have xp:=hm.procs.max;have yp:=hm.procs.cap;refine enter Tryz.func113 O 67 O O ?_;refine CE (Vs:=[H]) (Ws.init (by simp [hH])) (Cs (Cr ?_));refine WL.box Y O O λb1=>?_;refine V0 (Ya O) (V0 (Ya O) (Ln (Et (Cs (Cr (V0 (Ya O) (LW (λ_ h=>h.fj 232 4) (Ln (Et (Cs (Cr (V0 (Ya O) (Ln (Et (Cs (Cs (Cr ?_)))))))))))))))));refine V0 (Yf CY O) (V0 (Yd 1 O O O FL) (V0 (Yn zU O) (V0 (Ym O) (Ln (Et (Cb ?_))))));refine ct (ι:=Nat×Option Addr×Nat) (λg=>[(14,.int .i64 (g.1:Int)),(4,.slice g.2.1 (jU (m.decls.take g.1) 0).length g.2.2),(5,.int .i64 (fJ (m.decls.take g.1)))]) [(1,_),(2,_),(3,_),(12,_),(13,_)] (λg=>Ws w [] [bj 232 4 aY.cells g.2.1 g.2.2 (jU (m.decls.take g.1) 0),ab b1 (.cells (gE m r).toArray 174 (0,0))] [H]) (λg=>g.1<=m.decls.length) (λg=>m.decls.length-g.1) (0,none,0) (Nat.zero_le _) (sc O (sc O (sc O (sc O (sc O (sc O (sc O (sc O sn)))))))) (λ_ h=>h) ?_;intro g hi;refine Cs (Cr (V0 (a_ O O) (Ln (Et (Cs ?_)))));refine Cc O (λad=>?_) (λad=>?_)
 ·have av:g.1<m.decls.length:=by simpa using ad
  obtain ⟨d,vY⟩:∃q,m.decls[g.1]? = some q:=⟨_,List.getElem?_eq_getElem av⟩;obtain ⟨FM,FN,FO,ed⟩:=hm.decls.aO g.1 d vY;have ed:aP H FM (FN+g.1*4) d.cells:=ed;have od:=Xm (ho.decls d (List.mem_of_getElem? vY));have hTk:m.decls.take (g.1+1)=m.decls.take g.1++[d]:=mA vY
  have hI:jU (m.decls.take (g.1+1)) 0=jU (m.decls.take g.1) 0++[o_ (fJ (m.decls.take g.1)) d]:=by rw [hTk,Vw,Int.zero_add]
  have hS:fJ (m.decls.take (g.1+1))=fJ (m.decls.take g.1)+ng d:=by rw [hTk,Vv]
  have uq:=aaA ho g.1;have awj:=aaA ho (g.1+1)
  have hlD:(jU (m.decls.take g.1) 0).length=g.1:=by rw [Jj,List.length_take]; omega
  have iS:=od.n3;refine Ck (Et (Cs (Cb (Cs (Cr (V0 (Yo zU O O FO (by omega)) (V0 (cF 0 pt O O O (ed)) ?_)))))));refine Al Y O um λb7=>?_;refine ak 0 Y O O O vX O O O (Ln (Et (Cs (Cr (V0 (Yf CR O) (V0 (Yd 0 O O O aj) (V0 (Yf vU O) (V0 (Yd 0 O O O aj) (V0 (Yf FD O) (V0 (Yd 0 O O O cO) ?_))))))))));refine V0 (Yb jo AI O O) ?_;refine Al Y O jo λb8=>?_;refine ak 0 Y O O O lX O O O (Ln (Et (Cs (Cs (Cr (V0 (Yf CR O) (V0 (Yd 1 O O O aj) (Ln (Et (Cb (Cs (Cr (V0 (aF O O) (V0 (Ya O) (Ln (Et ?_))))))))))))))));refine Cc O (λaq=>?_) (λaq=>?_)
  ·have d_:d.kind=2:=by simpa using aq
   have hz:=am6 d_;refine Cs (Cr (V0 (Ym O) (V0 (Yf lW O) (ak 0 Y O O O bZ O O O (Ln (Et (Cr (V0 (Ym O) (V0 (IV (fJ (m.decls.take (g.1+1))) O O (by rw [hS,hz]) (by omega)) (V0 (Ya O) ?_))))))))));refine Ln (Eb (Et (Cr (V0 (Ym O) (V0 (bC 0 O O mH O) ?_)))));refine Lb Y O sO O O O O λfY=>?_;refine bI 0 (.cells (aY.cells (o_ (fJ (m.decls.take g.1)) d)).toArray 232 (0,0)) O (by rw [aaB (by omega)]; rfl) ?_;refine LA (o_ (fJ (m.decls.take g.1)) d) 3 0 Y O sO O O O O O O (by omega) (by omega) λG2 G3=>?_;refine V0 (Ya O) (Ln (Eb (Et (Cr (V0 (Yi O O O (by omega)) (V0 (Ym O) (Ln ?_)))))));rw [<-hI];exact Ea ((g.1+1,G2,G3):Nat×Option Addr×Nat) (by first | omega | (dsimp only; omega)) (by first | omega | (dsimp only; omega)) (sc O (sc O (sc O (sc O (sc O (sc O (sc O (sc O sn)))))))) (λ_ h=>Wd 3 h)
  have d_:¬d.kind=2:=by simpa using aq
  refine Cs (Cr (V0 (aF O O) (V0 (Ya O) (Ln (Et ?_)))));refine Cc O (λay=>?_) (λay=>?_)
  ·have sw:d.kind=3:=by simpa using ay
   have hz:=am7 sw;refine Cs (Cr (V0 (Ym O) (V0 (Yf lW O) (ak 0 Y O O O bZ O O O (Ln (Et (Cr (V0 (Ym O) (V0 (Yf vU O) (V0 (Yd 1 O O O aj) ?_))))))))));refine V0 (IV (fJ (m.decls.take (g.1+1))) O O (by rw [hS,hz]) (by omega)) (V0 (Ya O) (Ln (Eb (Et (Cr (V0 (Ym O) (V0 (bC 0 O O mH O) ?_)))))));refine Lb Y O sO O O O O λfY=>?_;refine bI 0 (.cells (aY.cells (o_ (fJ (m.decls.take g.1)) d)).toArray 232 (0,0)) O (by rw [aaB (by omega)]; rfl) ?_;refine LA (o_ (fJ (m.decls.take g.1)) d) 3 0 Y O sO O O O O O O (by omega) (by omega) λG2 G3=>?_;refine V0 (Ya O) (Ln (Eb (Et (Cr (V0 (Yi O O O (by omega)) (V0 (Ym O) (Ln ?_)))))));rw [<-hI];exact Ea ((g.1+1,G2,G3):Nat×Option Addr×Nat) (by first | omega | (dsimp only; omega)) (by first | omega | (dsimp only; omega)) (sc O (sc O (sc O (sc O (sc O (sc O (sc O (sc O sn)))))))) (λ_ h=>Wd 3 h)
  have sw:¬d.kind=3:=by simpa using ay
  have ig:d.kind=1:=by have:=od.kind; omega
  have hz:=am5 ig
  have hS0:fJ (m.decls.take (g.1+1))=fJ (m.decls.take g.1):=by rw [hS,hz]; omega
  refine Ck (Eb (Et (Cr (V0 (Ym O) (V0 (bC 0 O O mH O) ?_)))));refine Lb Y O sO O O O O λfY=>?_;refine bI 0 (.cells (aY.cells (o_ (fJ (m.decls.take g.1)) d)).toArray 232 (0,0)) O (by rw [am4 ig]; rfl) ?_;refine LA (o_ (fJ (m.decls.take g.1)) d) 3 0 Y O sO O O O O O O (by omega) (by omega) λG2 G3=>?_;refine V0 (Ya O) (Ln (Eb (Et (Cr (V0 (Yi O O O (by omega)) (V0 (Ym O) (Ln ?_)))))));rw [<-hI];rw [<-hS0];exact Ea ((g.1+1,G2,G3):Nat×Option Addr×Nat) (by first | omega | (dsimp only; omega)) (by first | omega | (dsimp only; omega)) (sc O (sc O (sc O (sc O (sc O (sc O (sc O (sc O sn)))))))) (λ_ h=>Wd 3 h)
 have cC:g.1=m.decls.length:=by simp at ad; omega
 rw [cC,List.take_length]
 clear cC ad hi
 refine Ce (Ex (Ex (bK (Et (Cs (Cs (Cr (V0 (Yf zV O) (V0 (Yd 1 O O O CZ) (V0 (Yn vW O) (V0 (Ym O) (Ln (Et (Cb ?_))))))))))))));rw [show jU m.decls 0=jU m.decls 0++nh (m.procs.take 0) 0 by simp [nh]];refine ct (ι:=Nat×Option Addr×Nat) (λg=>[(49,.int .i64 (g.1:Int)),(4,.slice g.2.1 (jU m.decls 0++nh (m.procs.take g.1) 0).length g.2.2)]) [(2,_),(3,_),(5,_),(47,_),(48,_)] (λg=>Ws w [] [bj 232 4 aY.cells g.2.1 g.2.2 (jU m.decls 0++nh (m.procs.take g.1) 0),ab b1 (.cells (gE m r).toArray 174 (0,0))] [H]) (λg=>g.1<=m.procs.length) (λg=>m.procs.length-g.1) (0,g.2.1,g.2.2) (Nat.zero_le _) (sc O (sc O (sc O (sc O (sc O (sc O (sc O sn))))))) (λ_ h=>h) ?_
 clear g
 intro g hi;refine Cs (Cr (V0 (a_ O O) (Ln (Et (Cs ?_)))));refine Cc O (λaJ=>?_) (λaJ=>?_)
 ·have av:g.1<m.procs.length:=by simpa using aJ
  obtain ⟨p,lU⟩:∃q,m.procs[g.1]? = some q:=⟨_,List.getElem?_eq_getElem av⟩;obtain ⟨zW,pop,mV,zX⟩:=hm.procs.aO g.1 p lU;obtain ⟨zY,zZ,z1,z6,C3,C4,bQ,kG,jG,lp⟩:=zX;have hx1:=kG.max;have hy1:=kG.cap;have hTp:m.procs.take (g.1+1)=m.procs.take g.1++[p]:=mA lU
  have hI:jU m.decls 0++nh (m.procs.take (g.1+1)) 0=(jU m.decls 0++nh (m.procs.take g.1) 0)++[E5 g.1 p]:=by
    rw [hTp,Vx,List.append_assoc,Nat.zero_add,List.length_take,Nat.min_eq_left (by omega)]
  have hlI:(jU m.decls 0++nh (m.procs.take g.1) 0).length<=16:=by rw [List.length_append,Jj,Od,List.length_take]; omega
  refine Ck (Et (Cs (Cb (Cs (Cr (V0 (Ym O) (V0 (Yo vW O O mV (by omega)) (V0 (cF 0 C0 O O O (bQ)) ?_))))))));refine Al Y O x6 λjq=>?_;refine V0 (Ya O) (ak 0 Y O O O C1 O O O (Ln (Et (Cr (V0 (Ym O) (V0 (Yf uo O) (V0 (Yd 0 O O O eH) (V0 (Yn dA O) (V0 (Ym O) ?_)))))))));refine V0 (Yf YF O) (V0 (Yd 0 O O O cO) (V0 (Yb jo AI O O) ?_));refine Lb Y O sO O O O O λPx=>?_;refine bI 0 (.cells (aY.cells (E5 g.1 p)).toArray 232 (0,0)) O (O) ?_;refine LA (E5 g.1 p) 2 0 Y O sO O O O O O O (by omega) (by omega) λa63 c63=>?_;refine V0 (Ya O) (Ln (Eb (Et (Cr (V0 (Yi O O O (by omega)) (V0 (Ym O) (Ln ?_)))))));rw [<-hI];exact Ea ((g.1+1,a63,c63):Nat×Option Addr×Nat) (by first | omega | (dsimp only; omega)) (by first | omega | (dsimp only; omega)) (sc O (sc O (sc O (sc O (sc O (sc O (sc O sn))))))) (λ_ h=>Wd 2 h)
 have cC:g.1=m.procs.length:=by simp at aJ; omega
 rw [cC,List.take_length];refine Ce (Ex (Ex (bK (Et (Cs (Cr (V0 (Ym O) (V0 (Ym O) (V0 (Ya O) (V0 (Ya O) (Ln (Et (aw ?_)))))))))))));refine WE.mQ O O O λw' hw=>?_;exact ⟨(g.2.1,g.2.2),O,hw.fr,hw.gB 0 O aY.aX (λ_ _ _ _ h=>h)⟩
theorem anc {m:bf} {i:Nat} {p:dO} (h:m.procs[i]? = some p):m.decls.map (·.aT)++(m.procs.take (i+1)).map (·.aT)=(m.decls.map (·.aT)++(m.procs.take i).map (·.aT))++[p.aT]:=by rw [mA h]; simp
theorem ane {m:bf} {i:Nat} {d:bS} (h:m.decls[i]? = some d):(m.decls.take (i+1)).map (·.aT)=(m.decls.take i).map (·.aT)++[d.aT]:=by rw [mA h]; simp
theorem aaE {m:bf} (h:¬jS m=0):ij m=(([],[]),jS m):=by rw [ij,if_pos h]
theorem aaF {m:bf} (h:jS m=0) (h2:(ee ((ey m).map (·.name))||ee m.ae)=true):ij m=(([],[]),6):=by rw [ij,if_neg (by simp [h]),if_pos h2]
theorem anf {m:bf} (h:jS m=0) (h2:(ee ((ey m).map (·.name))||ee m.ae)=false):ij m=((m.nm,ml (ey m) (pc m)),0):=by rw [ij,if_neg (by simp [h]),if_neg (by simp [h2])]
def FQ (m:bf) (i:Nat):List aY:=ml ((ey m).take i) ((pc m).take i)
theorem ang (m:bf):FQ m (ey m).length=ml (ey m) (pc m):=by
 unfold FQ;rw [List.take_length,Jk,<-Jl,List.take_length]
theorem anh {m:bf} {i:Nat} {x:aY} {p:Bool} (h1:(ey m)[i]? = some x) (h2:(pc m)[i]? = some p):FQ m (i+1)=FQ m i++(if p=true then [x] else []):=afp (by rw [Jk,Jl]) h1 h2
theorem ani (m:bf) (i:Nat):(FQ m i).length<=i:=by
 have:=Vz ((ey m).take i) ((pc m).take i);simp at this
 show (ml _ _).length<=i
 omega
structure GF where
 i:Nat
 n:SP
 f:SP
theorem anj:aZ Tryz.prog 217 2=some 2:=by kernel_rfl
theorem LB:fk Tryz.prog 248 4 (.bool false) 1 1:=iw (by kernel_rfl)
theorem ank:aZ Tryz.prog 213 1=some 1:=by kernel_rfl
theorem wA:zeroOf Tryz.prog 180=some (.agg #[st [],.slice none 0 0]):=by kernel_rfl
theorem LC:fh Tryz.prog 180=some [(0,1),(1,1)]:=by kernel_rfl
theorem AJ:cG Tryz.prog 180=some 2:=by kernel_rfl
theorem AK:fg Tryz.prog 180=some 2:=by kernel_rfl
theorem aaG:Enters Tryz.prog 113:=enters_of Tryz.func113 (by kernel_rfl) rfl
theorem anl:Enters Tryz.prog 136:=enters_of Tryz.func136 (by kernel_rfl) rfl
theorem anm:dQ Tryz.prog 248=some 1:=by kernel_rfl
theorem ann:cG Tryz.prog 178=some 1:=by kernel_rfl
theorem ano (H:View) (ke ks:Nat) (r:mc) (m:bf) (w:World) (hH:Le H w) (hm:n6 ke ks H r m) (ho:Fx m) :
   Calls Tryz.prog 136 #[.agg (gE m r).toArray] w λe w'=>∃r:SP,e = .returned (.slice r.1 (pc m).length r.2)/\Ext w w'/\Sl rdBool 1 (nv w w') r.1 r.2 (pc m):=by
 have ef:=ho.ef;have xd:=hm.decls.max;have yd:=hm.decls.cap;have xp:=hm.procs.max;have yp:=hm.procs.cap;refine enter Tryz.func136 O 35 O O ?_;refine CE (Vs:=[H]) (Ws.init (by simp [hH])) (Cs (Cr ?_));refine WL.box Y O O λb1=>?_;refine V0 (Ya O) (Ln (Et (Cs (Cr (V0 (Ya O) (LW (λ_ h=>h.fj 4 1) (Ln (Et (Cs (Cs (Cr (V0 (Yf CY O) (V0 (Yd 1 O O O FL) (V0 (Yn zU O) ?_))))))))))))));refine V0 (Ym O) (Ln (Et (Cb ?_)));refine ct (ι:=Nat×Option Addr×Nat) (λg=>[(11,.int .i64 (g.1:Int)),(3,.slice g.2.1 ((m.decls.take g.1).map (·.aT)).length g.2.2)]) [(1,_),(2,_),(9,_),(10,_)] (λg=>Ws w [] [bj 4 1 zt g.2.1 g.2.2 ((m.decls.take g.1).map (·.aT)),ab b1 (.cells (gE m r).toArray 174 (0,0))] [H]) (λg=>g.1<=m.decls.length) (λg=>m.decls.length-g.1) (0,none,0) (Nat.zero_le _) (sc O (sc O (sc O (sc O (sc O (sc O sn)))))) (λ_ h=>h) ?_;intro g hi;refine Cs (Cr (V0 (a_ O O) (Ln (Et (Cs ?_)))));refine Cc O (λad=>?_) (λad=>?_)
 ·have av:g.1<m.decls.length:=by simpa using ad
  obtain ⟨d,vY⟩:∃q,m.decls[g.1]? = some q:=⟨_,List.getElem?_eq_getElem av⟩;obtain ⟨FM,FN,FO,ed⟩:=hm.decls.aO g.1 d vY;have ed:aP H FM (FN+g.1*4) d.cells:=ed;have hI:=ane vY
  have hl:((m.decls.take g.1).map (·.aT)).length=g.1:=by simp; omega
  refine Ck (Et (Cs (Cb (Cs (Cr (V0 (Yo zU O O FO (by omega)) (V0 (cF 0 pt O O O (ed)) ?_)))))));refine Al Y O um λb5=>?_;refine ak 0 Y O O O vX O O O (Ln (Et (Cr (V0 (Ym O) (V0 (Yf anj O) (V0 (Yd 0 O O O zR) ?_))))));refine Lb Y O LB O O O O λsJ=>?_;refine bI 0 (.cells (zt d.aT).toArray 4 (0,0)) O (O) ?_;refine LA (d.aT) 2 0 Y O LB O O O O O O (by omega) (by omega) λG4 G5=>?_;refine V0 (Ya O) (Ln (Eb (Et (Cr (V0 (Yi O O O (by omega)) (V0 (Ym O) (Ln ?_)))))));rw [<-hI];exact Ea ((g.1+1,G4,G5):Nat×Option Addr×Nat) (by first | omega | (dsimp only; omega)) (by first | omega | (dsimp only; omega)) (sc O (sc O (sc O (sc O (sc O (sc O sn)))))) (λ_ h=>Wd 2 h)
 have cC:g.1=m.decls.length:=by simp at ad; omega
 rw [cC,List.take_length]
 clear cC ad hi
 refine Ce (Ex (Ex (bK (Et (Cs (Cs (Cr (V0 (Yf zV O) (V0 (Yd 1 O O O CZ) (V0 (Yn vW O) (V0 (Ym O) (Ln (Et (Cb ?_))))))))))))));rw [show m.decls.map (·.aT)=m.decls.map (·.aT)++(m.procs.take 0).map (·.aT) by simp];refine ct (ι:=Nat×Option Addr×Nat) (λg=>[(24,.int .i64 (g.1:Int)),(3,.slice g.2.1 (m.decls.map (·.aT)++(m.procs.take g.1).map (·.aT)).length g.2.2)]) [(2,_),(22,_),(23,_)] (λg=>Ws w [] [bj 4 1 zt g.2.1 g.2.2 (m.decls.map (·.aT)++(m.procs.take g.1).map (·.aT)),ab b1 (.cells (gE m r).toArray 174 (0,0))] [H]) (λg=>g.1<=m.procs.length) (λg=>m.procs.length-g.1) (0,g.2.1,g.2.2) (Nat.zero_le _) (sc O (sc O (sc O (sc O (sc O sn))))) (λ_ h=>h) ?_
 clear g
 intro g hi;refine Cs (Cr (V0 (a_ O O) (Ln (Et (Cs ?_)))));refine Cc O (λaq=>?_) (λaq=>?_)
 ·have av:g.1<m.procs.length:=by simpa using aq
  obtain ⟨p,lU⟩:∃q,m.procs[g.1]? = some q:=⟨_,List.getElem?_eq_getElem av⟩;obtain ⟨zW,pop,mV,zX⟩:=hm.procs.aO g.1 p lU;obtain ⟨zY,zZ,z1,z6,C3,C4,bQ,kG,jG,lp⟩:=zX;have hI:=anc lU
  have hl:(m.decls.map (·.aT)++(m.procs.take g.1).map (·.aT)).length<=16:=by simp; omega
  refine Ck (Et (Cs (Cb (Cs (Cr (V0 (Yo vW O O mV (by omega)) (V0 (cF 0 C0 O O O (bQ)) ?_)))))));refine Al Y O x6 λb7=>?_;refine ak 0 Y O O O C1 O O O (Ln (Et (Cr (V0 (Ym O) (V0 (Yf ank O) (V0 (Yd 0 O O O zR) ?_))))));refine Lb Y O LB O O O O λKS=>?_;refine bI 0 (.cells (zt p.aT).toArray 4 (0,0)) O (O) ?_;refine LA (p.aT) 2 0 Y O LB O O O O O O (by omega) (by omega) λa32 c32=>?_;refine V0 (Ya O) (Ln (Eb (Et (Cr (V0 (Yi O O O (by omega)) (V0 (Ym O) (Ln ?_)))))));rw [<-hI];exact Ea ((g.1+1,a32,c32):Nat×Option Addr×Nat) (by first | omega | (dsimp only; omega)) (by first | omega | (dsimp only; omega)) (sc O (sc O (sc O (sc O (sc O sn))))) (λ_ h=>Wd 2 h)
 have cC:g.1=m.procs.length:=by simp at aq; omega
 rw [cC,List.take_length];refine Ce (Ex (Ex (bK (Et (Cs (Cr (V0 (Ym O) (V0 (Ya O) (Ln (Et (aw ?_)))))))))));refine R1 O O λw' hw=>?_;exact ⟨(g.2.1,g.2.2),O,hw.fr,hw.gB 0 O ae' (λ_ _ _ _ h=>h)⟩
theorem anr (H:View) (ke ks:Nat) (r:mc) (m:bf) (w:World) (hH:Le H w) (hm:n6 ke ks H r m) (hb:wM m<=109951162777) :
   Calls Tryz.prog 111 #[.agg (gE m r).toArray] w λe w'=>∃r:SP,e = .returned (.tuple #[.agg #[st (ij m).1.1,.slice r.1 (ij m).1.2.length r.2],.int .i64 (ij m).2])/\Ext w w'/\Sl mj 4 (nv w w') r.1 r.2 (ij m).1.2:=by
 refine enter Tryz.func111 O 60 O O ?_;refine CE (Vs:=[H]) (Ws.init (by simp [hH])) (Cs (Cr ?_));refine WL.box Y O O λb1=>?_;refine Al Y O wA λb2=>?_;refine V0 (Ya O) (Ln (Et (Cs (Cs (Cr (V0 (bC 1 O O nH O) (Lp Y O aap O (λw hw=>YG H ke ks r m w (hw.vs _ (by simp)) hm (by omega)) (V0 (Ya O) (Ln (Et (Cs (Cr (V0 (Ym O) (V0 (i' O O) ?_))))))))))))));refine Ln (Et ?_);refine Cc O (λad=>?_) (λad=>?_)
 ·have he:¬jS m=0:=by simpa using ad
  refine Cs (Cr (V0 (Yb wA LC O O) (V0 (Ym O) (ak 0 Y O O O AJ O O O (V0 (Ya O) (Ln (Et (aw (Er ?_)))))))));refine WE.xo 0 O O O O AK O λw' hw=>?_;rw [aaE he];exact ⟨(none,0),O,hw.fr,Sl.nil⟩
 have he:jS m=0:=by simpa using ad
 have ho:=mOk he;have ef:=ho.ef;have xd:=hm.decls.max;have yd:=hm.decls.cap;have xp:=hm.procs.max;have yp:=hm.procs.cap;have il:=Jk m;have pl:=Jl m;refine Ck (Et (Cs (Cr (V0 (bC 1 O O nH O) ?_))));refine Ld Y O aaG O (λr:SP=>.tuple #[.slice r.1 (ey m).length r.2,.int .i64 (B6 m)]) (λH r=>Sl mj 4 H r.1 r.2 (ey m)) (λw hw=>aaC H ke ks r m w (hw.vs _ (by simp)) hm ho) ?_;intro Lx PG GW Q3;refine V0 (Ym O) (V0 (Yx O O) (V0 (Yx O O) (V0 (Ya O) (V0 (Ya O) (Ln (Et (Cs (Cr (V0 (Yf Pu O) (V0 (Yd 1 O O O cO) ?_))))))))));refine V0 (Yb wA LC O O) (LW (λ_ h=>h.fj 232 4) ?_);refine Al Y O wA λb7=>?_;refine ak 0 Y O O O AJ O O O (Ln (Et (Cs (Cr (V0 (Ya O) (LW (λ_ h=>h.fj 9 1) (Ln (Et (Cs (Cr (V0 (bC 4 O O nH O) ?_)))))))))));refine Ld Y O anl O (λr:SP=>.slice r.1 (pc m).length r.2) (λH r=>Sl rdBool 1 H r.1 r.2 (pc m)) (λw hw=>ano H ke ks r m w (hw.vs _ (by simp)) hm ho) ?_;intro F27 Lg Q4 Q5;have x20:=Q3.max;have y20:=Q3.cap;have x27:=Q5.max;have y27:=Q5.cap;refine V0 (Ya O) (Ln (Et (Cs (Cs (Cr (V0 (Ym O) (V0 (Yn AG O) (V0 (Ym O) (Ln (Et (Cb ?_)))))))))));refine ct (ι:=GF) (λg=>[(30,.int .i64 (g.i:Int)),(8,.slice g.n.1 (((ey m).take g.i).map AE).length g.n.2)]) [(1,_),(2,_),(3,_),(7,_),(9,_),(28,_),(29,_)] (λg=>Ws w [] [ab b7 (.cells #[st m.nm,.slice g.f.1 (FQ m g.i).length g.f.2] 180 (0,0)),bj 9 1 dJ g.n.1 g.n.2 (((ey m).take g.i).map AE),bj 232 4 aY.cells g.f.1 g.f.2 (FQ m g.i),ab b2 (.cells #[st [],.slice none 0 0] 180 (0,0)),ab b1 (.cells (gE m r).toArray 174 (0,0))] [F27,Lx,H]) (λg=>g.i<=(ey m).length) (λg=>(ey m).length-g.i) ⟨0,(none,0),(none,0)⟩ (Nat.zero_le _) (sc O (sc O (sc O (sc O (sc O (sc O (sc O (sc O (sc O sn))))))))) (λ_ h=>by exact (((((h.f 4 O).f 4 O).f 4 O).f 3 O).f 4 O:)) ?_;intro g hi;refine Cs (Cr (V0 (a_ O O) (Ln (Et (Cs ?_)))));refine Cc O (λaq=>?_) (λaq=>?_)
 ·have av:g.i<(ey m).length:=by simpa using aq
  obtain ⟨x,hx⟩:∃x,(ey m)[g.i]? = some x:=⟨_,List.getElem?_eq_getElem av⟩;obtain ⟨pb,po,ha,bQ⟩:=Q3.aO g.i x hx;have bQ:aP Lx pb (po+g.i*4) x.cells:=bQ;obtain ⟨pv,LD⟩:∃p,(pc m)[g.i]? = some p:=⟨_,List.getElem?_eq_getElem (by rw [Jl,<-Jk]; exact av)⟩;obtain ⟨qb,qo,hqa,Q6⟩:=Q5.aO g.i pv LD;have Q6:aP F27 qb (qo+g.i*1) (zt pv):=Q6
  have hT:((ey m).take (g.i+1)).map AE=((ey m).take g.i).map AE++[x.name]:=by rw [List.take_add_one,hx]; simp [AE]
  have hL:(((ey m).take g.i).map AE).length=g.i:=by simp; omega
  have hQ:=anh hx LD;have hQl:=ani m g.i;refine Ck (Et (Cs (Cb (Cs (Cr (V0 (Ym O) (V0 (Yo AG O O ha (by omega)) (V0 (cF 1 mH O O O (bQ)) ?_))))))));refine Al Y O jo λsA=>?_;refine V0 (Ya O) (ak 0 Y O O O lX O O O (Ln (Et (Cs (Cr (V0 (Ym O) (V0 (Yf AF O) (V0 (Yd 0 O O O cO) ?_))))))));refine Lb Y O dm O O O O λwc=>?_;refine bI 0 (.cells (dJ x.name).toArray 9 (0,0)) O (O) ?_;refine LA ((x.name:List UInt8)) 3 0 Y O dm O O O O O O (by omega) (by omega) λa39 c39=>?_;refine V0 (Ya O) (Ln (Et (Cs (Cr (V0 (Ym O) (V0 (Ym O) (V0 (Yo anm O O hqa (by omega)) (V0 (bL 0 zR O O (Q6 0 _ O)) (Ln (Et ?_))))))))));refine Cc O (λay=>?_) (λay=>?_)
  ·have KY:pv=true:=by simpa using ay
   have hQ1:FQ m (g.i+1)=FQ m g.i++[x]:=by rw [hQ,if_pos KY]
   refine Cr (V0 (Yf G0 O) (V0 (Yd 2 O O O Lz) (V0 (bC 1 O O mH O) ?_)));refine Lb Y O sO O O O O λyi=>?_;refine bI 0 (.cells (aY.cells x).toArray 232 (0,0)) O (O) ?_;refine LA (x) 5 0 Y O sO O O O O O O (by omega) (by omega) λa48 c48=>?_;refine V0 (Yf G0 O) (ak 3 Y O O O ann O O O (Ln (Eb (Et (Cr (V0 (Yi O O O (by omega)) (V0 (Ym O) (Ln ?_))))))));rw [<-hT];rw [<-hQ1];exact Ea (⟨g.i+1,(a39,c39),(a48,c48)⟩:GF) (by first | omega | (dsimp only; omega)) (by first | omega | (dsimp only; omega)) (sc O (sc O (sc O (sc O (sc O (sc O (sc O (sc O (sc O sn))))))))) (λ_ h=>Wd 3 h)
  have hp0:¬pv=true:=by simpa using ay
  have hQ0:FQ m (g.i+1)=FQ m g.i:=by rw [hQ,if_neg hp0,List.append_nil]
  refine Ck (Eb (Et (Cr (V0 (Yi O O O (by omega)) (V0 (Ym O) (Ln ?_))))));rw [<-hT];rw [<-hQ0];exact Ea (⟨g.i+1,(a39,c39),g.f⟩:GF) (by first | omega | (dsimp only; omega)) (by first | omega | (dsimp only; omega)) (sc O (sc O (sc O (sc O (sc O (sc O (sc O (sc O (sc O sn))))))))) (λ_ h=>Wd 2 h)
 have cC:g.i=(ey m).length:=by simp at aq; omega
 have anx:=ang m;refine Ce (Ex (Ex (bK (Et (Cs (Cs ?_))))));rw [cC,List.take_length];refine WC.p8 (rd:=rdStr) 1 O lK (λ_ _ _ _ h=>h) λHN Q2=>?_;refine Cr (V0 (Ym O) ?_)
 refine Lp Y O QY O (λw hw=>by
     have:=Q0 HN g.n.1 g.n.2 ((ey m).map AE) w (hw.vs _ (by simp)) Q2
     exact this) ?_
 refine V0 (Ym O) ?_;apply Lo 3 O O O O Y O O O O O
 ·intro cD;refine Vg (Yf x5 O) (Vg (Yd 3 O O O eH) (Lp (.g O O O) O QY O (λw hw=>Q0 H r.a1 r.c1 m.ae w (hw.vs _ (by simp)) hm.ae) ?_));exact Gt 3 O O O
 refine Ln (Et ?_);refine Cc O (λaJ=>?_) (λaJ=>?_)
 ·have h6:(ee ((ey m).map (·.name))||ee m.ae)=true:=aJ;refine Cs (Cr (V0 (Yb wA LC O O) (ak 2 Y O O O AJ O O O (V0 (Ya O) (Ln (Et (aw (Er ?_))))))));refine WE.xo 2 O O O O AK O λw' hw=>?_;rw [aaF he h6];exact ⟨(none,0),O,hw.fr,Sl.nil⟩
 have h6:(ee ((ey m).map (·.name))||ee m.ae)=false:=aJ;refine Ck (Et (Cs (Cr (V0 (bC 0 O O AK O) (ak 2 Y O O O AJ O O O (V0 (Ya O) (Ln (Et (aw ?_)))))))));refine WE.xo 2 O O O O AK O λw' hw=>?_;rw [anf he h6];rw [anx] at hw ⊢;exact ⟨g.f,O,hw.fr,hw.gB 1 O aY.aX (λ_ _ _ _ h=>h)⟩
structure GI where
 i:Nat
 s:SP
 p:SP
def aE:List UInt8:=[99,110,116]
def wB:List aY:=[⟨1,3,0,[107]⟩,⟨2,0,0,[115,117,109]⟩,⟨3,4,1,[116]⟩,⟨4,1,0,[100,111,119,110]⟩]
theorem anz {l:List aY} {i:Nat} {x:aY} (h:(l.map (·.name)).Nodup) (hx:l[i]? = some x):x.name ∉ (l.take i).map (·.name):=by
 intro hm;have av:i<l.length:=(List.getElem?_eq_some_iff.1 hx).1;obtain ⟨j,hj⟩:=List.getElem?_of_mem hm;rw [List.getElem?_map] at hj;obtain ⟨y,hy,e⟩:=Option.map_eq_some_iff.1 hj
 have i_:j<i:=by have:=(List.getElem?_eq_some_iff.1 hy).1; simp at this; omega
 rw [List.getElem?_take,if_pos i_] at hy
 have e2:(l.map (·.name))[j]? = (l.map (·.name))[i]?:=by rw [List.getElem?_map,List.getElem?_map,hy,hx]; simp [e]
 have:=(List.getElem?_inj (by simpa using (List.getElem?_eq_some_iff.1 hy).1) h).1 e2;omega
theorem Q7:Tryz.prog.underlying 205=some (.map 9 232):=by kernel_rfl
theorem aaL (w:World) :
   Calls Tryz.prog 104 #[] w λe w'=>∃r:SP,e = .returned (.agg #[st aE,.slice r.1 wB.length r.2])/\Ext w w'/\Sl mj 4 (nv w w') r.1 r.2 wB:=by
 refine enter Tryz.func104 O 7 O O ?_;refine CE (Vs:=[]) (Ws.init (by simp)) (Cs (Cr ?_));refine Al Y O wA λb0=>?_;refine Ln (Et (Cs (Cr (V0 (Yb jo AI O O) (V0 (Yb jo AI O O) (V0 (Yb jo AI O O) (V0 (Yb jo AI O O) ?_)))))));refine Lb Y O sO O O O O λb5=>?_;refine V0 (Yb wA LC O O) (ak 1 Y O O O AJ O O O (Ln (Et (aw ?_))));refine WE.dM (gA O (cU 1 O O AK O)) λw' hw=>?_
 exact ⟨(some ⟨b5,0,none⟩,4),O,hw.fr,⟨show wB.length<=4 by decide,show 4<=9223372036854775807 by decide,by simp,λj x hj=>⟨b5,0,O,λk v hk=>hw.Uh 0 O (by
     have:k<4:=(List.getElem?_eq_some_iff.1 hk).1
     show (wB.flatMap aY.cells)[0+j*4+k]? = some v
     rw [Nat.zero_add,pY aY.aX hj this]; exact hk)⟩⟩⟩
theorem aaM (H:View) (a:Option Addr) (c:Nat) (l:List aY) (w:World) (hH:Le H w) (hm:Sl mj 4 H a c l) (pE:(l.map (·.name)).Nodup) :
   Calls Tryz.prog 114 #[.slice a l.length c] w λe w'=>∃b:Nat,e = .returned (.map (some b))/\Ext w w'/\(nv w w') b=some (bz st (ik l 0) l.length):=by
 have dN:=hm.cap;have ek:=hm.max;refine enter Tryz.func114 O 19 O O ?_;refine CE (Vs:=[H]) (Ws.init (by simp [hH])) (Cs (Cr (V0 (Ya O) (Ln (Et (Cs (Cr ?_)))))));refine WL.tz st Y O λb6=>?_;refine bI 0 (bz st (ik (l.take 0) 0) (l.take 0).length) O O (V0 (Ya O) (Ln (Et (Cs (Cs (Cr (V0 (Ym O) (V0 (Yn AG O) (V0 (Ym O) (Ln (Et (Cb ?_))))))))))));refine ct (ι:=Nat) (λi=>[(9,.int .i64 (i:Int))]) [(2,_),(3,_),(7,_),(8,_)] (λi=>Ws w [] [ab b6 (bz st (ik (l.take i) 0) (l.take i).length)] [H]) (λi=>i<=l.length) (λi=>l.length-i) 0 (Nat.zero_le _) (sc O (sc O (sc O (sc O (sc O sn))))) (λ_ h=>h) ?_;intro i hi;refine Cs (Cr (V0 (a_ O O) (Ln (Et (Cs ?_)))));refine Cc O (λad=>?_) (λad=>?_)
 ·have av:i<l.length:=by simpa using ad
  obtain ⟨x,bu⟩:∃x,l[i]? = some x:=⟨_,List.getElem?_eq_getElem av⟩;obtain ⟨e9,e_,ha,bQ⟩:=hm.aO i x bu;have bQ:aP H e9 (e_+i*4) x.cells:=bQ;have aaN:=afB (anz pE bu);refine Ck (Et (Cs (Cb (Cs (Cr (V0 (Yo AG O O ha (by omega)) (V0 (cF 0 mH O O O (bQ)) ?_)))))));refine Al Y O jo λb5=>?_;refine ak 0 Y O O O lX O O O (Ln (Et (Cr (V0 (Ym O) (V0 (Yf AF O) (V0 (Yd 0 O O O cO) (V0 (bC 0 O O mH O) ?_)))))));refine WL.xy 1 jR Y Q7 eF O O O O ?_;refine Ln (Eb (Et (Cr (V0 (Yi O O O (by omega)) (V0 (Ym O) (Ln ?_))))));refine WE.n9 1 (bz st (ik (l.take (i+1)) 0) (l.take (i+1)).length) O (by rw [mA bu,<-aaN.1,<-aaN.2]; rfl) ?_;exact Ea (i+1) (by omega) (by omega) (sc O (sc O (sc O (sc O (sc O sn))))) (λ_ h=>Wd 1 h)
 have cC:i=l.length:=by simp at ad; omega
 rw [cC,List.take_length];refine Ce (Ex (Ex (bK (Et (Cs (Cr (V0 (Ym O) (V0 (Ya O) (Ln (Et (aw ?_)))))))))));refine R1 O O λw' hw=>?_;exact ⟨b6,O,hw.fr,hw.nvb 0 O⟩
def gJ (e:Int):List PanicEntry:=[⟨.iface 199 (.agg #[.int .i64 e]),false,false⟩]
def Q8 (H:View) (b o:Nat) (l:List aY):Prop:=∃tb:Nat,vc H b o=some (.map (some tb))/\H tb=some (bz st (ik l 0) l.length)
structure wC (H:View) (sb:Nat) (σ:dk):Prop where
 at_:∃(ob ub:Nat) (fa:Option Addr) (fc lb:Nat),(vc H sb 0=some (.map (some ob))/\vc H sb 1=some (.map (some ub))/\vc H sb 2=some (.slice fa σ.xL.length fc)/\vc H sb 3=some (.map (some lb)))/\H ob=some (bz st (ik σ.own 0) σ.own.length)/\H ub=some (bz st (gm σ.ae 0) σ.ae.length)/\Sl Q8 1 H fa fc σ.xL/\H lb=some (bz st (gm σ.ax 0) σ.ax.length)
 nd:σ.ae.Nodup
 len:σ.ae.length=σ.xL.length
 ef:σ.ae.length<=3/\σ.ax.length<=7
def anA:aY:=⟨0,0,0,[]⟩
def mI (nm:List UInt8) (l:List (List UInt8)):Int:=match idxOf nm l 0 with | some k=>((k+1:Nat):Int) | none=>0
theorem Q9 (nm:List UInt8) (l:List (List UInt8)):eu nm (gm l 0) (.int .i64 0) = .int .i64 (mI nm l):=afA nm l
theorem Q_ {nm:List UInt8} {l:List (List UInt8)} (h:0<mI nm l):∃k:Nat,idxOf nm l 0=some k/\mI nm l=((k+1:Nat):Int)/\k<l.length:=by
 unfold mI at h ⊢
 cases hk:idxOf nm l 0 with
 | none=>rw [hk] at h; exact absurd h (by decide)
 | some k=>exact ⟨k,rfl,rfl,by have:=(Cd hk).2; exact (List.getElem?_eq_some_iff.1 this).1⟩
theorem Ra {nm:List UInt8} {l:List (List UInt8)} (h:¬0<mI nm l):idxOf nm l 0=none:=by
 unfold mI at h
 cases hk:idxOf nm l 0 with
 | none=>rfl
 | some k=>rw [hk] at h; exact absurd (by simp only; omega) h
def Ds (nm:List UInt8) (l:List aY):aY:=(fT nm l).getD anA
theorem aaO (nm:List UInt8) (l:List aY):eu nm (ik l 0) (.agg #[.int .i64 0,.int .i64 0,.int .i64 0,st []]) = .agg (Ds nm l).cells.toArray:=by
 rw [(VL nm l _).1];unfold Ds
 cases fT nm l<;>rfl
theorem aaP (nm:List UInt8) (l:List aY):o4 nm (ik l 0)=(fT nm l).isSome:=(VL nm l (.bool false)).2
theorem aaQ {nm:List UInt8} {l:List aY} (h:(fT nm l).isSome=true):fT nm l=some (Ds nm l):=by
 unfold Ds
 cases hf:fT nm l with
 | none=>rw [hf] at h; cases h
 | some x=>rfl
theorem aaR {nm:List UInt8} {l:List aY} (h:(fT nm l).isSome=false):fT nm l=none:=by
 cases hf:fT nm l with
 | none=>rfl
 | some x=>rw [hf] at h; cases h
theorem anB {σ:dk} {nm:List UInt8} {k:Nat} (h:idxOf nm σ.ax 0=some k):fV σ [] nm=some (-1,Of k):=by rw [fV,if_pos rfl,h]
theorem aaS {σ:dk} {nm:List UInt8} (h:idxOf nm σ.ax 0=none):fV σ [] nm=(fT nm σ.own).map λx=>(0,x):=by rw [fV,if_pos rfl,h]
theorem aaT {σ:dk} {mod nm:List UInt8} (h:¬mod=[]) (hn:σ.ae.Nodup) (hl:σ.ae.length=σ.xL.length) {k:Nat} {f:List aY} (hk:idxOf mod σ.ae 0=some k) (hf:σ.xL[k]? = some f):fV σ mod nm=(fT nm f).map λx=>(((k+1:Nat):Int),x):=by
 rw [fV,if_neg h,VO hn hl,hk];simp [hf]
theorem anC {σ:dk} {mod nm:List UInt8} (h:¬mod=[]) (hk:idxOf mod σ.ae 0=none):fV σ mod nm=none:=by
 rw [fV,if_neg h,Om (zy.1 hk)]
theorem Rb {mod nm:List UInt8}:∀{us:List (List UInt8)} {fs:List (List aY)} {s:Nat} {m:Int} {x:aY},og mod nm us fs s=some (m,x)->0<=m
 | [],_,_,_,_,h=>by simp [og] at h
 | u::us,[],_,_,_,h=>by simp [og] at h
 | u::us,f::fs,s,m,x,h=>by
   rw [og] at h
   split at h
   · split at h
     · injection h with h; injection h with h1 h2; omega
     · exact Rb h
   · exact Rb h
theorem uR {σ:dk} {mod nm:List UInt8} {m:Int} {x:aY} (h:fV σ mod nm=some (m,x)):m = -1\/0<=m:=by
 unfold fV at h
 split at h
 · split at h
   · injection h with h; injection h with h1 h2; exact .inl h1.symm
   · cases hf:fT nm σ.own with
     | none=>rw [hf] at h; cases h
     | some y=>rw [hf] at h; injection h with h; injection h with h1 h2; right; omega
 · exact .inr (Rb h)
def iT (σ:dk) (mod nm:List UInt8) (kind args:Int):Int:=match fV σ mod nm with
 | none=>5
 | some (m,it)=>if ¬(0<=m/\it.kind=kind) then 7 else if kind=4/\¬it.n=args then 8 else 0
theorem G6 {σ:dk} {mod nm:List UInt8} {kind args:Int} (h:fV σ mod nm=none):iT σ mod nm kind args=5:=by unfold iT; rw [h]
theorem wF {σ:dk} {mod nm:List UInt8} {kind args m:Int} {it:aY} (h:fV σ mod nm=some (m,it)):iT σ mod nm kind args=if ¬(0<=m/\it.kind=kind) then 7 else if kind=4/\¬it.n=args then 8 else 0:=by unfold iT; rw [h]
def Rc (HS:View) (sb:Nat) (σ:dk) (k:Nat):Prop:=∀(HE:View) (l:List az) (a:Option Addr) (c:Nat) (w:World),Le HS w->Le HE w->Sl (eW k) 5 HE a c l->dT l<=109951162777->
 Calls Tryz.prog 165 #[.pointer (some ⟨sb,0,none⟩),.slice a l.length c] w λe w'=>(∃r:SP,e = .returned (.slice r.1 (mm σ l).length r.2)/\Ext w w'/\iB σ l=0/\Sl (jV (k+1)) 5 (nv w w') r.1 r.2 (mm σ l))\/(∃_:Unit,e = .panicked (gJ (iB σ l))/\Ext w w'/\iB σ l≠0)
theorem anD:fh Tryz.prog 199=some [(0,1)]:=by kernel_rfl
theorem LF:zeroOf Tryz.prog 199=some (.agg #[.int .i64 0]):=by kernel_rfl
theorem anE:Tryz.prog.concrete 199=true:=by kernel_rfl
theorem G7:aZ Tryz.prog 209 3=some 3:=by kernel_rfl
theorem G8:dV Tryz.prog 64=true:=by kernel_rfl
theorem anF:aZ Tryz.prog 209 0=some 0:=by kernel_rfl
theorem aaU:dV Tryz.prog 205=true:=by kernel_rfl
theorem wG:Enters Tryz.prog 115:=enters_of Tryz.func115 (by kernel_rfl) rfl
theorem aaV:aZ Tryz.prog 209 1=some 1:=by kernel_rfl
theorem Rd:aZ Tryz.prog 209 2=some 2:=by kernel_rfl
theorem aaW:dV Tryz.prog 207=true:=by kernel_rfl
theorem anG:dQ Tryz.prog 207=some 1:=by kernel_rfl
theorem wH (b:Bool) (n:Int) (w:World) :
   Calls Tryz.prog 115 #[.bool b,.int .i64 n] w λe w'=>(∃_:Unit,e = .returned (.tuple #[])/\Ext w w'/\b=true)\/(∃_:Unit,e = .panicked (gJ n)/\Ext w w'/\b=false):=by
 refine enter Tryz.func115 O 9 O O ?_;refine CE (Vs:=[]) (Ws.init (by simp)) (Cs (Cr (V0 (Ym O) (V0 (dw O) (Ln (Et ?_))))));refine Cc O (λad=>?_) (λad=>?_)
 ·refine Cr (V0 (Ym O) (V0 (Yb LF anD O O) (V0 (rJ anE O) ?_)));refine WL.panic Y O ?_;refine aL λw' hw=>?_;exact .inr ⟨(),O,hw.fr,by simpa using ad⟩
 refine Ck ?_;refine E0 O λw' hw=>?_;exact .inl ⟨(),O,hw.fr,by simpa using ad⟩
theorem Re (HS:View) (sb:Nat) (σ:dk) (w:World) (pF:Le HS w) (hS:wC HS sb σ) (mod nm:List UInt8) :
   Calls Tryz.prog 163 #[.pointer (some ⟨sb,0,none⟩),st mod,st nm] w λe w'=>(∃i:Int×aY,e = .returned (.tuple #[.int .i64 i.1,.agg i.2.cells.toArray])/\Ext w w'/\fV σ mod nm=some i)\/(∃_:Unit,e = .panicked (gJ 5)/\Ext w w'/\fV σ mod nm=none):=by
 obtain ⟨⟨ob,ub,fa,fc,lb,⟨h0,h1,h2,h3⟩,kQ,LG,cH,Rf⟩,pE,hlen,ef⟩:=hS;refine enter Tryz.func163 O 65 O O ?_;refine CE (Vs:=[HS]) (Ws.init (by simp [pF])) (Cs (Cr (V0 (Ya O) ?_)));refine Al Y O jo λb7=>?_;refine Ln (Et (Cs (Cs (Cr (V0 (Ym O) (V0 (yW O O) (Ln (Et ?_))))))));refine Cc O (λad=>?_) (λad=>?_)
 ·obtain rfl:mod=[]:=by simpa using ad
  refine Cs (Cs (Cr (V0 (Ym O) (V0 (aQ O) (V0 (Yf G7 O) (V0 (bL 0 G8 O O (h3)) (V0 (Ym O) (V0 (Vn 0 O jR jI eF oM O O (Rf)) ?_))))))));rw [Q9];refine V0 (Ya O) (Ln (Et (Cs (Cr (V0 (Ym O) (V0 (bX O O) (Ln (Et ?_))))))));refine Cc O (λaq=>?_) (λaq=>?_)
  ·obtain ⟨k,hk,d_,sw⟩:=Q_ (nm:=nm) (l:=σ.ax) (by simpa using aq);refine Cs (Cr (V0 (Ym O) (V0 (nW (k:Int) O O (by rw [d_]; omega) (by omega)) (V0 (Yb jo AI O O) (V0 (Ya O) (ak 0 Y O O O lX O O O (Ln (Et (aw (Er (Er ?_)))))))))));refine WE.dM (gf O (hY O) (cU 0 O O mH O)) λw' hw=>?_;exact .inl ⟨(-1,Of k),O,hw.fr,anB hk⟩
  have hk:=Ra (nm:=nm) (l:=σ.ax) (by simpa using aq);refine Ck (Et (Cs (Cr (V0 (Ym O) (V0 (aQ O) (V0 (Yf anF O) (V0 (bL 0 aaU O O (h0)) (V0 (Ym O) (V0 (Vo 0 O jR Q7 eF jo O O (kQ)) ?_)))))))));rw [aaO,aaP];refine V0 (Ym O) (V0 (Yx O O) (V0 (Yx O O) ?_));refine Al Y O jo λb9=>?_;refine ak 0 Y O O O lX O O O (V0 (Ya O) (Ln (Et (Cs (Cr (V0 (Ym O) ?_))))));refine WL.mf (ι:=Unit) (κ:=Unit) Y O wG O (λ_=>.tuple #[]) (λ_=>(fT nm σ.own).isSome=true) (λ_=>gJ 5) (λ_=>(fT nm σ.own).isSome=false) (λw hw=>wH _ _ w) ?_ ?_
  ·intro _ hp;refine Ep (Ep ?_);refine aL λw' hw=>?_;exact .inr ⟨(),O,hw.fr,by rw [aaS hk,aaR hp]; rfl⟩
  intro _ anH;refine Ln (Et (Cs ?_));refine WC.nV 1 [(0,true),(1,true),(2,false)] mixed (by kernel_rfl) (λ_ _ _ d _ h=>by cases d<;>exact h) ?_;refine D0 O (Wp 1) (bC 0 O O mH O) (D0 O (Wp 1) (Ya O) ?_);refine De O (Wp 1) ?_;refine ak 1 Y O O O lX O O O (Ln (Ed ?_));refine WD.nil (Wp 1) ?_;refine Et (aw (Er ?_));refine WE.dM (gf O (hY O) (cU 1 O O mH O)) λw' hw=>?_;exact .inl ⟨(0,Ds nm σ.own),O,hw.fr,by rw [aaS hk,aaQ anH]; rfl⟩
 have Rg:¬mod=[]:=by simpa using ad
 refine Ck (Et (Cs (Cr (V0 (Ym O) (V0 (aQ O) (V0 (Yf aaV O) (V0 (bL 0 G8 O O (h1)) (V0 (Ym O) (V0 (Vn 0 O jR jI eF oM O O (LG)) ?_)))))))));rw [Q9];refine V0 (Ya O) (Ln (Et (Cs (Cr (V0 (Ym O) (V0 (bX O O) ?_))))));refine WL.mf (ι:=Unit) (κ:=Unit) Y O wG O (λ_=>.tuple #[]) (λ_=>decide (0<mI mod σ.ae)=true) (λ_=>gJ 5) (λ_=>decide (0<mI mod σ.ae)=false) (λw hw=>wH _ _ w) ?_ ?_
 ·intro _ hp;refine Ep ?_;refine aL λw' hw=>?_;exact .inr ⟨(),O,hw.fr,anC Rg (Ra (by simpa using hp))⟩
 intro _ wg;obtain ⟨k,hk,d_,sw⟩:=Q_ (nm:=mod) (l:=σ.ae) (by simpa using wg);obtain ⟨f,hf⟩:∃f,σ.xL[k]? = some f:=⟨_,List.getElem?_eq_getElem (by omega)⟩;obtain ⟨pb,po,ha,tb,htb,htm⟩:=cH.aO k f hf;have uV:=cH.cap;have hfm:=cH.max;refine Ln (Et (Cs (Cr (V0 (Ym O) (V0 (aQ O) (V0 (Yf Rd O) (V0 (bL 0 aaW O O (h2)) (V0 (Ym O) (V0 (nW (k:Int) O O (by rw [d_]; omega) (by omega)) (V0 (Yo anG O O ha (by omega)) ?_))))))))));refine V0 (bL 0 aaU O O (htb)) (V0 (Ym O) (V0 (Vo 0 O jR Q7 eF jo O O (htm)) ?_));rw [aaO,aaP];refine V0 (Ym O) (V0 (Yx O O) (V0 (Yx O O) ?_));refine Al Y O jo λkN=>?_;refine ak 0 Y O O O lX O O O (V0 (Ya O) (Ln (Et (Cs (Cr (V0 (Ym O) ?_))))));refine WL.mf (ι:=Unit) (κ:=Unit) Y O wG O (λ_=>.tuple #[]) (λ_=>(fT nm f).isSome=true) (λ_=>gJ 5) (λ_=>(fT nm f).isSome=false) (λw hw=>wH _ _ w) ?_ ?_
 ·intro _ hp;refine Ep ?_;refine aL λw' hw=>?_;exact .inr ⟨(),O,hw.fr,by rw [aaT Rg pE hlen hk hf,aaR hp]; rfl⟩
 intro _ Kk;refine Ln (Et (Cs ?_));refine WC.nV 1 [(0,true),(1,true),(2,true),(3,false)] mixed (by kernel_rfl) (λ_ _ _ d _ h=>by cases d<;>exact h) ?_;refine D0 O (Wp 1) (Ym O) (D0 O (Wp 1) (bC 0 O O mH O) (D0 O (Wp 1) (Ya O) ?_));refine De O (Wp 1) ?_;refine ak 1 Y O O O lX O O O (Ln (Ed ?_));refine WD.nil (Wp 1) ?_;refine Et (aw ?_);refine WE.dM (gf O (hY O) (cU 1 O O mH O)) λw' hw=>?_;rw [d_] at *;exact .inl ⟨(((k+1:Nat):Int),Ds nm f),O,hw.fr,by rw [aaT Rg pE hlen hk hf,aaQ Kk]; rfl⟩
theorem anK {σ:dk} {n m:Int} {it:aY} {mod nm:List UInt8} {len:Nat} (h:fV σ mod nm=some (m,it)):cK σ 3 n mod nm len=if m = -1 then ⟨16,n,0,it.pl,0⟩ else if it.kind=1 then ⟨1,it.n,0,0,0⟩ else if it.kind=2 then ⟨3,n,m,it.pl,0⟩ else ⟨3,n,0,0,7⟩:=by
 unfold cK;rw [if_pos (by decide),h];simp
theorem Rh {σ:dk} {op n:Int} {mod nm:List UInt8} {len:Nat} (ho:op=3\/op=4\/op=5) (h:fV σ mod nm=none):cK σ op n mod nm len=⟨op,n,0,0,5⟩:=by
 unfold cK;rw [if_pos (by unfold gD; simp; omega),h]
theorem anL {σ:dk} {op n:Int} {mod nm:List UInt8} {len:Nat} (h3:¬op=3) (h4:¬op=4) (h5:¬op=5):cK σ op n mod nm len=⟨op,n,0,0,0⟩:=by
 unfold cK;rw [if_neg (by unfold gD; simp; omega)]
theorem anM {σ:dk} {n:Int} {mod nm:List UInt8} {len:Nat} (h:iT σ mod nm 3 0≠0):(cK σ 4 n mod nm len).e=iT σ mod nm 3 0:=by
 cases hf:fV σ mod nm with
 | none=>rw [Rh (by simp) hf,G6 hf]
 | some i=>
   obtain ⟨m,it⟩:=i;have hm:=uR hf;rw [wF hf] at h ⊢;unfold cK;rw [if_pos (by decide),hf]
   by_cases h1:m = -1
   · simp [h1]
   · by_cases h2:it.kind=3
     · exact absurd (by rw [if_neg (by omega),if_neg (by omega)]) h
     · simp [h1,h2]
theorem anN {σ:dk} {n m:Int} {it:aY} {mod nm:List UInt8} {len:Nat} (hf:fV σ mod nm=some (m,it)) (h:iT σ mod nm 3 0=0):cK σ 4 n mod nm len=⟨4,it.n,m,it.pl,0⟩:=by
 rw [wF hf] at h;have hm:=uR hf
 have h1:0<=m/\it.kind=3:=by
   by_cases hc:0<=m/\it.kind=3
   · exact hc
   · rw [if_pos hc] at h; cases h
 unfold cK;rw [if_pos (by decide),hf];simp [h1.2,show ¬m = -1 by omega]
theorem anO {σ:dk} {n:Int} {mod nm:List UInt8} {len:Nat} (h:iT σ mod nm 4 (len:Int)≠0):(cK σ 5 n mod nm len).e=iT σ mod nm 4 (len:Int):=by
 cases hf:fV σ mod nm with
 | none=>rw [Rh (by simp) hf,G6 hf]
 | some i=>
   obtain ⟨m,it⟩:=i;have hm:=uR hf;rw [wF hf] at h ⊢;unfold cK;rw [if_pos (by decide),hf]
   by_cases h1:m = -1
   · simp [h1]
   · by_cases h2:it.kind=4
     · by_cases h3:it.n=(len:Int)
       · exact absurd (by rw [if_neg (by omega),if_neg (by omega)]) h
       · simp [h1,h2,h3,show 0<=m by omega]
     · simp [h1,h2]
theorem anP {σ:dk} {n m:Int} {it:aY} {mod nm:List UInt8} {len:Nat} (hf:fV σ mod nm=some (m,it)) (h:iT σ mod nm 4 (len:Int)=0):cK σ 5 n mod nm len=⟨5,n,m,it.pl,0⟩:=by
 rw [wF hf] at h;have hm:=uR hf
 have h1:0<=m/\it.kind=4:=by
   by_cases hc:0<=m/\it.kind=4
   · exact hc
   · rw [if_pos hc] at h; cases h
 have h2:it.n=(len:Int):=by
   rw [if_neg (λhc=>hc h1)] at h
   by_cases hc:it.n=(len:Int)
   · exact hc
   · rw [if_pos ⟨rfl,hc⟩] at h; cases h
 unfold cK;rw [if_pos (by decide),hf];simp [h1.2,h2,show ¬m = -1 by omega]
theorem Ri {σ:dk} {op:Int} {mod nm:List UInt8} {len:Nat} (ho:op=1\/op=2\/op=3) (h:fV σ mod nm=none):dz σ op mod nm len=⟨op,0,0,0,5⟩:=by
 unfold dz;rw [if_pos (by unfold gD; simp; omega),h]
theorem anQ {σ:dk} {op:Int} {mod nm:List UInt8} {len:Nat} (h1:¬op=1) (h2:¬op=2) (h3:¬op=3):dz σ op mod nm len=⟨op,0,0,0,0⟩:=by
 unfold dz;rw [if_neg (by unfold gD; simp; omega)]
theorem anR {σ:dk} {m:Int} {it:aY} {mod nm:List UInt8} {len:Nat} (h:fV σ mod nm=some (m,it)):dz σ 1 mod nm len=if m = -1\/it.kind=2 then ⟨1,0,m,it.pl,0⟩ else ⟨1,0,0,0,7⟩:=by
 unfold dz;rw [if_pos (by decide),h]
 by_cases h1:m = -1\/it.kind=2
 · simp [h1]
 · simp [h1,show ¬m = -1 from λe=>h1 (.inl e)]
theorem anS {σ:dk} {mod nm:List UInt8} {len:Nat} (h:iT σ mod nm 3 0≠0):(dz σ 2 mod nm len).e=iT σ mod nm 3 0:=by
 cases hf:fV σ mod nm with
 | none=>rw [Ri (by simp) hf,G6 hf]
 | some i=>
   obtain ⟨m,it⟩:=i;have hm:=uR hf;rw [wF hf] at h ⊢;unfold dz;rw [if_pos (by decide),hf]
   by_cases h1:m = -1
   · simp [h1]
   · by_cases h2:it.kind=3
     · exact absurd (by rw [if_neg (by omega),if_neg (by omega)]) h
     · simp [h1,h2]
theorem anT {σ:dk} {m:Int} {it:aY} {mod nm:List UInt8} {len:Nat} (hf:fV σ mod nm=some (m,it)) (h:iT σ mod nm 3 0=0):dz σ 2 mod nm len=⟨2,it.n,m,it.pl,0⟩:=by
 rw [wF hf] at h;have hm:=uR hf
 have h1:0<=m/\it.kind=3:=by
   by_cases hc:0<=m/\it.kind=3
   · exact hc
   · rw [if_pos hc] at h; cases h
 unfold dz;rw [if_pos (by decide),hf];simp [h1.2,show ¬m = -1 by omega]
theorem anU {σ:dk} {mod nm:List UInt8} {len:Nat} (h:iT σ mod nm 4 (len:Int)≠0):(dz σ 3 mod nm len).e=iT σ mod nm 4 (len:Int):=by
 cases hf:fV σ mod nm with
 | none=>rw [Ri (by simp) hf,G6 hf]
 | some i=>
   obtain ⟨m,it⟩:=i;have hm:=uR hf;rw [wF hf] at h ⊢;unfold dz;rw [if_pos (by decide),hf]
   by_cases h1:m = -1
   · simp [h1]
   · by_cases h2:it.kind=4
     · by_cases h3:it.n=(len:Int)
       · exact absurd (by rw [if_neg (by omega),if_neg (by omega)]) h
       · simp [h1,h2,h3,show 0<=m by omega]
     · simp [h1,h2]
theorem anV {σ:dk} {m:Int} {it:aY} {mod nm:List UInt8} {len:Nat} (hf:fV σ mod nm=some (m,it)) (h:iT σ mod nm 4 (len:Int)=0):dz σ 3 mod nm len=⟨3,0,m,it.pl,0⟩:=by
 rw [wF hf] at h;have hm:=uR hf
 have h1:0<=m/\it.kind=4:=by
   by_cases hc:0<=m/\it.kind=4
   · exact hc
   · rw [if_pos hc] at h; cases h
 have h2:it.n=(len:Int):=by
   rw [if_neg (λhc=>hc h1)] at h
   by_cases hc:it.n=(len:Int)
   · exact hc
   · rw [if_pos ⟨rfl,hc⟩] at h; cases h
 unfold dz;rw [if_pos (by decide),hf];simp [h1.2,h2,show ¬m = -1 by omega]
structure GX (X:Type) where
 i:Nat
 es:List X
 a:Option Addr
 c:Nat
 J:View
theorem Rj:Enters Tryz.prog 163:=enters_of Tryz.func163 (by kernel_rfl) rfl
theorem G9:zeroOf Tryz.prog 238=some (.agg #[.int .i64 0,.int .i64 0,.int .i64 0,.int .i64 0,.slice none 0 0]):=by kernel_rfl
theorem anW:fh Tryz.prog 238=some [(0,1),(1,1),(2,1),(3,1),(4,1)]:=by kernel_rfl
theorem LH:cG Tryz.prog 238=some 5:=by kernel_rfl
theorem uW:aZ Tryz.prog 238 0=some 0:=by kernel_rfl
theorem mJ:aZ Tryz.prog 238 3=some 3:=by kernel_rfl
theorem oN:aZ Tryz.prog 238 1=some 1:=by kernel_rfl
theorem oO:aZ Tryz.prog 238 2=some 2:=by kernel_rfl
theorem LI:Enters Tryz.prog 164:=enters_of Tryz.func164 (by kernel_rfl) rfl
theorem aaY:Enters Tryz.prog 165:=enters_of Tryz.func165 (by kernel_rfl) rfl
theorem uY:aZ Tryz.prog 238 4=some 4:=by kernel_rfl
theorem aaZ:cG Tryz.prog 189=some 1:=by kernel_rfl
theorem kR:fg Tryz.prog 238=some 5:=by kernel_rfl
theorem LJ (HS:View) (sb:Nat) (σ:dk) (w:World) (pF:Le HS w) (hS:wC HS sb σ) (mod nm:List UInt8) (kind args:Int) :
   Calls Tryz.prog 164 #[.pointer (some ⟨sb,0,none⟩),st mod,st nm,.int .i64 kind,.int .i64 args] w λe w'=>(∃i:Int×aY,e = .returned (.tuple #[.int .i64 i.1,.agg i.2.cells.toArray])/\Ext w w'/\fV σ mod nm=some i/\iT σ mod nm kind args=0)\/(∃_:Unit,e = .panicked (gJ (iT σ mod nm kind args))/\Ext w w'/\iT σ mod nm kind args≠0):=by
 refine enter Tryz.func164 O 41 O O ?_;refine CE (Vs:=[HS]) (Ws.init (by simp [pF])) (Cs (Cr (V0 (Ya O) ?_)));refine Al Y O jo λsA=>?_;refine Ln (Et (Cs (Cr (V0 (Ym O) (V0 (Ym O) (V0 (Ym O) ?_))))));refine WL.mf Y O Rj O _ _ _ _ (λw hw=>Re HS sb σ w (hw.vs _ (by simp)) hS mod nm) ?_ ?_
 ·intro _ hp;refine Ep ?_;refine aL λw' hw=>?_;rw [G6 hp];exact .inr ⟨(),O,hw.fr,by decide⟩
 intro ⟨m18,G'⟩ Dj;have AL:=wF (kind:=kind) (args:=args) Dj;refine V0 (Ym O) (V0 (Yx O O) (V0 (Yx O O) ?_));refine Al Y O jo λjZ=>?_;refine V0 (Ya O) (ak 0 Y O O O lX O O O (Ln (Et (Cs (Cr (V0 (Ym O) (V0 (eK O O) (V0 (Ym O) ?_))))))));apply La 4 O O O O Y O O O O O
 ·intro cD;refine Vg (Yf GZ O) (Vg (Yd 0 O O O aj) (Vg (Ym O) (Vg (aF O O) ?_)));exact Gt 4 O O O
 refine WL.mf (ι:=Unit) (κ:=Unit) Y O wG O (λ_=>.tuple #[]) (λ_=>_=true) (λ_=>gJ _) (λ_=>_=false) (λw hw=>wH _ _ w) ?_ ?_
 ·intro _ hp;refine Ep ?_;refine aL λw' hw=>?_
  have h7:¬(0<=m18/\G'.kind=kind):=by rintro ⟨h1,h2⟩; simp [h1,h2] at hp
  rw [if_pos h7] at AL;rw [AL];exact .inr ⟨(),O,hw.fr,by decide⟩
 intro _ QI
 have h7:0<=m18/\G'.kind=kind:=by simpa using QI
 rw [if_neg (λhc=>hc h7)] at AL;refine Ln (Et (Cs (Cr (V0 (Ym O) (V0 (i' O O) (V0 (Ym O) ?_))))));apply Lo 4 O O O O Y O O O O O
 ·intro bR;refine Vg (Yf qO O) (Vg (Yd 0 O O O aj) (Vg (Ym O) (Vg (aF O O) ?_)));exact Gt 4 O O O
 refine WL.mf (ι:=Unit) (κ:=Unit) Y O wG O (λ_=>.tuple #[]) (λ_=>_=true) (λ_=>gJ _) (λ_=>_=false) (λw hw=>wH _ _ w) ?_ ?_
 ·intro _ hp;refine Ep ?_;refine aL λw' hw=>?_
  have h8:kind=4/\¬G'.n=args:=by simpa using hp
  rw [if_pos h8] at AL;rw [AL];exact .inr ⟨(),O,hw.fr,by decide⟩
 intro _ Kh;refine Ln (Et (Cs ?_));refine WC.nV 1 [(0,true),(1,true),(2,true),(3,false)] mixed (by kernel_rfl) (λ_ _ _ d _ h=>by cases d<;>exact h) ?_;refine D0 O (Wp 1) (Ym O) (D0 O (Wp 1) (bC 0 O O mH O) (D0 O (Wp 1) (Ya O) ?_));refine De O (Wp 1) ?_;refine ak 1 Y O O O lX O O O (Ln (Ed ?_));refine WD.nil (Wp 1) ?_;refine Et (aw ?_);refine WE.dM (gf O (hY O) (cU 1 O O mH O)) λw' hw=>?_
 have h8:¬(kind=4/\¬G'.n=args):=by rintro ⟨h1,h2⟩; simp [h1,h2] at Kh
 rw [if_neg h8] at AL;exact .inl ⟨(m18,G'),O,hw.fr,Dj,AL⟩
theorem anX (HS HE:View) (sb:Nat) (σ:dk) (k:Nat) (x:az) (a:Option Addr) (c:Nat) (w:World) (pF:Le HS w) (wI:Le HE w) (hS:wC HS sb σ) (hN:Rc HS sb σ k) (hm:Sl (eW k) 5 HE a c x.args) (xY:wE x<=109951162777) :
   Calls Tryz.prog 175 #[.pointer (some ⟨sb,0,none⟩),.agg (zq x a c).toArray] w λe w'=>(∃r:SP,e = .returned (.agg (rY (qf σ x) r.1 r.2).toArray)/\Ext w w'/\jW σ x=0/\tG (k+1) (nv w w') (qf σ x,r))\/(∃_:Unit,e = .panicked (gJ (jW σ x))/\Ext w w'/\jW σ x≠0):=by
 have hwe:=U_ x;have dN:=hm.cap;have ek:=hm.max;refine enter Tryz.func175 O 98 O O ?_;refine CE (Vs:=[HE,HS]) (Ws.init (by simp [wI,pF])) (Cs (Cr ?_));refine WL.box Y O O λb3=>?_;refine Al Y O G9 λb4=>?_;refine Ln (Et (Cs (Cr (V0 (Yf zS O) (V0 (Yd 1 O O O aj) (V0 (Yf JY O) (V0 (Yd 1 O O O aj) (V0 (Yb G9 anW O O) ?_))))))));refine Al Y O G9 λb5=>?_;refine ak 0 Y O O O LH O O O (Ln (Et ?_));refine WC.ES (ι:=Unit) (λ_u=>[(0,.pointer (some ⟨sb,0,none⟩)),(3,.pointer (some ⟨b3,0,none⟩)),(4,.pointer (some ⟨b4,0,none⟩)),(5,.pointer (some ⟨b5,0,none⟩))]) (λ_u=>Ws w [] [ab b5 (.cells #[.int .i64 (cK σ x.op x.n x.mod x.nm x.args.length).op,.int .i64 (cK σ x.op x.n x.mod x.nm x.args.length).n,.int .i64 (cK σ x.op x.n x.mod x.nm x.args.length).m,.int .i64 (cK σ x.op x.n x.mod x.nm x.args.length).pl,.slice none 0 0] 238 (0,0)),ab b4 (.cells #[.int .i64 0,.int .i64 0,.int .i64 0,.int .i64 0,.slice none 0 0] 238 (0,0)),ab b3 (.cells (zq x a c).toArray 220 (0,0))] [HE,HS]) (λ_u=>(cK σ x.op x.n x.mod x.nm x.args.length).e=0) ?_ ?_
 ·refine Cs (Cr (V0 (Yf zS O) (V0 (Yd 2 O O O aj) (Ln (Et (Cb (Cs (Cr (V0 (aF O O) (V0 (Ya O) (Ln (Et ?_))))))))))));refine Cc O (λad=>?_) (λad=>?_)
  ·have gk:x.op=3:=by simpa using ad
   refine Cs (Cr (V0 (Ym O) (V0 (Yf JW O) (V0 (Yd 2 O O O cO) (V0 (Yf JX O) (V0 (Yd 2 O O O cO) ?_))))));refine WL.mf Y O Rj O _ _ _ _ (λw hw=>Re HS sb σ w (hw.vs _ (by simp)) hS x.mod x.nm) ?_ ?_
   ·intro _ hp;refine Ep (WE.aS (Ep ?_));refine aL λw' hw=>?_
    have he:jW σ x=5:=by rw [B_,Rh (by omega) hp]; rfl
    rw [he];exact .inr ⟨(),O,hw.fr,by decide⟩
   intro ⟨Rk,AM⟩ Q4;have yr:=anK (n:=x.n) (len:=x.args.length) Q4;have EI:=uR Q4;rw [<-gk] at yr;refine V0 (Ym O) (V0 (Yx O O) (V0 (Yx O O) ?_));refine Al Y O jo λb7=>?_;refine V0 (Ya O) (ak 0 Y O O O lX O O O (Ln (Et (Cb (Cs (Cr (V0 (Ym O) (V0 (a_ O O) (V0 (Ya O) (Ln (Et ?_)))))))))));refine Cc O (λaq=>?_) (λaq=>?_)
   ·have Rl:Rk = -1:=by simp at aq; omega
    have gi:(cK σ x.op x.n x.mod x.nm x.args.length)=⟨16,x.n,0,AM.pl,0⟩:=by rw [yr,if_pos Rl]
    refine WC.nV 1 [(0,true),(1,true),(2,true),(3,false),(4,false),(5,false)] mixed (by kernel_rfl) (λ_ _ _ d _ h=>by cases d<;>exact h) ?_;refine D0 O (Wp 1) (Yf lW O) (D0 O (Wp 1) (Yd 0 O O O aj) (D0 O (Wp 1) (Yf uW O) ?_));refine De O (Wp 1) ?_;refine ak 1 Y O O O bZ O O O (Ln (Ed ?_));refine De O (Wp 1) ?_;refine V0 (Yf mJ O) (Ln (Ed ?_));refine De O (Wp 1) ?_;refine ak 1 Y O O O bZ O O O (Ln (Ed ?_));refine WD.nil (Wp 1) ?_;refine Eb (Eb ?_);refine WE.n9 1 (.cells #[.int .i64 (cK σ x.op x.n x.mod x.nm x.args.length).op,.int .i64 (cK σ x.op x.n x.mod x.nm x.args.length).n,.int .i64 (cK σ x.op x.n x.mod x.nm x.args.length).m,.int .i64 (cK σ x.op x.n x.mod x.nm x.args.length).pl,.slice none 0 0] 238 (0,0)) O (by rw [gi]; rfl) ?_
    exact Em () (by rw [gi]) (sc O (sc O (sc O (sc O sn)))) (λ_ h=>by
      have h:=h.ar 3 rfl;have h:=h.ar 3 rfl;have h:=h.ar 3 rfl;have h:=Wt 3 h
      exact h)
   have Rl:¬Rk = -1:=by simp at aq; omega
   rw [if_neg Rl] at yr;refine Cs (Cr (V0 (Yf GZ O) (V0 (Yd 0 O O O aj) (V0 (aF O O) (V0 (Ya O) (Ln (Et ?_)))))));refine Cc O (λay=>?_) (λay=>?_)
   ·have ig:AM.kind=1:=by simpa using ay
    have gi:(cK σ x.op x.n x.mod x.nm x.args.length)=⟨1,AM.n,0,0,0⟩:=by rw [yr,if_pos ig]
    refine WC.nV 1 [(0,true),(1,true),(2,true),(3,false),(4,false),(5,false)] mixed (by kernel_rfl) (λ_ _ _ d _ h=>by cases d<;>exact h) ?_;refine D0 O (Wp 1) (Yf qO O) (D0 O (Wp 1) (Yd 0 O O O aj) (D0 O (Wp 1) (Yf uW O) ?_));refine De O (Wp 1) ?_;refine ak 1 Y O O O bZ O O O (Ln (Ed ?_));refine De O (Wp 1) ?_;refine V0 (Yf oN O) (Ln (Ed ?_));refine De O (Wp 1) ?_;refine ak 1 Y O O O bZ O O O (Ln (Ed ?_));refine WD.nil (Wp 1) ?_;refine Eb (Eb ?_);refine WE.n9 1 (.cells #[.int .i64 (cK σ x.op x.n x.mod x.nm x.args.length).op,.int .i64 (cK σ x.op x.n x.mod x.nm x.args.length).n,.int .i64 (cK σ x.op x.n x.mod x.nm x.args.length).m,.int .i64 (cK σ x.op x.n x.mod x.nm x.args.length).pl,.slice none 0 0] 238 (0,0)) O (by rw [gi]; rfl) ?_
    exact Em () (by rw [gi]) (sc O (sc O (sc O (sc O sn)))) (λ_ h=>by
      have h:=h.ar 3 rfl;have h:=h.ar 3 rfl;have h:=h.ar 3 rfl;have h:=Wt 3 h
      exact h)
   have ig:¬AM.kind=1:=by simpa using ay
   rw [if_neg ig] at yr;refine Cs (Cr (V0 (Yf GZ O) (V0 (Yd 0 O O O aj) (V0 (aF O O) ?_))));refine WL.mf (ι:=Unit) (κ:=Unit) Y O wG O (λ_=>.tuple #[]) (λ_=>_=true) (λ_=>gJ _) (λ_=>_=false) (λw hw=>wH _ _ w) ?_ ?_
   ·intro _ hp;refine Ep (WE.aS (WE.aS (Ep ?_)));refine aL λw' hw=>?_
    have d_:¬AM.kind=2:=by simpa using hp
    rw [if_neg d_] at yr
    have he:jW σ x=7:=by rw [B_,yr]; rfl
    rw [he];exact .inr ⟨(),O,hw.fr,by decide⟩
   intro _ Dg
   have d_:AM.kind=2:=by simpa using Dg
   have gi:(cK σ x.op x.n x.mod x.nm x.args.length)=⟨x.op,x.n,Rk,AM.pl,0⟩:=by rw [yr,if_pos d_,gk]
   refine Ln (Et ?_);refine WC.nV 1 [(0,true),(1,true),(2,true),(3,true),(4,false),(5,false),(6,false)] mixed (by kernel_rfl) (λ_ _ _ d _ h=>by cases d<;>exact h) ?_;refine D0 O (Wp 1) (Ym O) (D0 O (Wp 1) (Yf lW O) (D0 O (Wp 1) (Yd 0 O O O aj) (D0 O (Wp 1) (Yf oO O) ?_)));refine De O (Wp 1) ?_;refine ak 1 Y O O O bZ O O O (Ln (Ed ?_));refine De O (Wp 1) ?_;refine V0 (Yf mJ O) (Ln (Ed ?_));refine De O (Wp 1) ?_;refine ak 1 Y O O O bZ O O O (Ln (Ed ?_));refine WD.nil (Wp 1) ?_;refine Eb (Eb ?_);refine WE.n9 1 (.cells #[.int .i64 (cK σ x.op x.n x.mod x.nm x.args.length).op,.int .i64 (cK σ x.op x.n x.mod x.nm x.args.length).n,.int .i64 (cK σ x.op x.n x.mod x.nm x.args.length).m,.int .i64 (cK σ x.op x.n x.mod x.nm x.args.length).pl,.slice none 0 0] 238 (0,0)) O (by rw [gi]; rfl) ?_
   exact Em () (by rw [gi]) (sc O (sc O (sc O (sc O sn)))) (λ_ h=>by
     have h:=h.ar 3 rfl;have h:=h.ar 3 rfl;have h:=h.ar 3 rfl;have h:=Wt 3 h
     exact h)
  have h3:¬x.op=3:=by simpa using ad
  refine Cs (Cr (V0 (aF O O) (V0 (Ya O) (Ln (Et ?_)))));refine Cc O (λaJ=>?_) (λaJ=>?_)
  ·have gk:x.op=4:=by simpa using aJ
   refine Cs (Cr (V0 (Ym O) (V0 (Yf JW O) (V0 (Yd 2 O O O cO) (V0 (Yf JX O) (V0 (Yd 2 O O O cO) ?_))))));refine WL.mf Y O LI O _ _ _ _ (λw hw=>LJ HS sb σ w (hw.vs _ (by simp)) hS x.mod x.nm 3 0) ?_ ?_
   ·intro _ hp;refine Ep (WE.aS (Ep ?_));refine aL λw' hw=>?_
    have he:jW σ x=iT σ x.mod x.nm 3 0:=by rw [B_,gk,anM hp,vz hp]
    rw [he];exact .inr ⟨(),O,hw.fr,hp⟩
   intro ⟨m62,aa1⟩ ⟨anZ,Da⟩
   have gi:(cK σ x.op x.n x.mod x.nm x.args.length)=⟨x.op,aa1.n,m62,aa1.pl,0⟩:=by rw [gk]; exact anN anZ Da
   refine V0 (Ym O) (V0 (Yx O O) (V0 (Yx O O) ?_));refine Al Y O jo λb9=>?_;refine V0 (Ya O) (ak 0 Y O O O lX O O O (Ln (Et ?_)));refine WC.nV 1 [(0,true),(1,true),(2,true),(3,true),(4,true),(5,true),(6,false),(7,false),(8,false),(9,false),(10,false)] mixed (by kernel_rfl) (λ_ _ _ d _ h=>by cases d<;>exact h) ?_;refine D0 O (Wp 1) (Ym O) (D0 O (Wp 1) (Yf lW O) (D0 O (Wp 1) (Yd 0 O O O aj) (D0 O (Wp 1) (Yf qO O) (D0 O (Wp 1) (Yd 0 O O O aj) (D0 O (Wp 1) (Yf oO O) ?_)))));refine De O (Wp 1) ?_;refine ak 1 Y O O O bZ O O O (Ln (Ed ?_));refine De O (Wp 1) ?_;refine V0 (Yf mJ O) (Ln (Ed ?_));refine De O (Wp 1) ?_;refine ak 1 Y O O O bZ O O O (Ln (Ed ?_));refine De O (Wp 1) ?_;refine V0 (Yf oN O) (Ln (Ed ?_));refine De O (Wp 1) ?_;refine ak 1 Y O O O bZ O O O (Ln (Ed ?_));refine WD.nil (Wp 1) ?_;refine Eb ?_;refine WE.n9 1 (.cells #[.int .i64 (cK σ x.op x.n x.mod x.nm x.args.length).op,.int .i64 (cK σ x.op x.n x.mod x.nm x.args.length).n,.int .i64 (cK σ x.op x.n x.mod x.nm x.args.length).m,.int .i64 (cK σ x.op x.n x.mod x.nm x.args.length).pl,.slice none 0 0] 238 (0,0)) O (by rw [gi]; rfl) ?_
   exact Em () (by rw [gi]) (sc O (sc O (sc O (sc O sn)))) (λ_ h=>by
     have h:=h.ar 3 rfl;have h:=h.ar 3 rfl;have h:=h.ar 3 rfl;have h:=Wt 3 h
     exact h)
  have h4:¬x.op=4:=by simpa using aJ
  refine Cs (Cr (V0 (aF O O) (V0 (Ya O) (Ln (Et ?_)))));refine Cc O (λaU=>?_) (λaU=>?_)
  ·have gk:x.op=5:=by simpa using aU
   refine Cs (Cr (V0 (Ym O) (V0 (Yf JW O) (V0 (Yd 2 O O O cO) (V0 (Yf JX O) (V0 (Yd 2 O O O cO) (V0 (Yf CT O) (V0 (Yd 2 O O O x1) ?_))))))));refine V0 (Yn uj O) ?_;refine WL.mf Y O LI O _ _ _ _ (λw hw=>LJ HS sb σ w (hw.vs _ (by simp)) hS x.mod x.nm 4 (x.args.length:Int)) ?_ ?_
   ·intro _ hp;refine Ep (WE.aS (Ep ?_));refine aL λw' hw=>?_
    have he:jW σ x=iT σ x.mod x.nm 4 (x.args.length:Int):=by rw [B_,gk,anO hp,vz hp]
    rw [he];exact .inr ⟨(),O,hw.fr,hp⟩
   intro ⟨m84,an1⟩ ⟨an2,an3⟩
   have gi:(cK σ x.op x.n x.mod x.nm x.args.length)=⟨x.op,x.n,m84,an1.pl,0⟩:=by rw [gk]; exact anP an2 an3
   refine V0 (Ym O) (V0 (Yx O O) (V0 (Yx O O) ?_));refine Al Y O jo λsA=>?_;refine V0 (Ya O) (ak 0 Y O O O lX O O O (Ln (Et ?_)));refine WC.nV 1 [(0,true),(1,true),(2,true),(3,true),(4,false),(5,false),(6,false)] mixed (by kernel_rfl) (λ_ _ _ d _ h=>by cases d<;>exact h) ?_;refine D0 O (Wp 1) (Ym O) (D0 O (Wp 1) (Yf lW O) (D0 O (Wp 1) (Yd 0 O O O aj) (D0 O (Wp 1) (Yf oO O) ?_)));refine De O (Wp 1) ?_;refine ak 1 Y O O O bZ O O O (Ln (Ed ?_));refine De O (Wp 1) ?_;refine V0 (Yf mJ O) (Ln (Ed ?_));refine De O (Wp 1) ?_;refine ak 1 Y O O O bZ O O O (Ln (Ed ?_));refine WD.nil (Wp 1) ?_;refine Eb ?_;refine WE.n9 1 (.cells #[.int .i64 (cK σ x.op x.n x.mod x.nm x.args.length).op,.int .i64 (cK σ x.op x.n x.mod x.nm x.args.length).n,.int .i64 (cK σ x.op x.n x.mod x.nm x.args.length).m,.int .i64 (cK σ x.op x.n x.mod x.nm x.args.length).pl,.slice none 0 0] 238 (0,0)) O (by rw [gi]; rfl) ?_
   exact Em () (by rw [gi]) (sc O (sc O (sc O (sc O sn)))) (λ_ h=>by
     have h:=h.ar 3 rfl;have h:=h.ar 3 rfl;have h:=h.ar 3 rfl;have h:=Wt 3 h
     exact h)
  have h5:¬x.op=5:=by simpa using aU
  have gi:(cK σ x.op x.n x.mod x.nm x.args.length)=⟨x.op,x.n,0,0,0⟩:=anL h3 h4 h5;refine Ck (Eb ?_);refine WE.n9 0 (.cells #[.int .i64 (cK σ x.op x.n x.mod x.nm x.args.length).op,.int .i64 (cK σ x.op x.n x.mod x.nm x.args.length).n,.int .i64 (cK σ x.op x.n x.mod x.nm x.args.length).m,.int .i64 (cK σ x.op x.n x.mod x.nm x.args.length).pl,.slice none 0 0] 238 (0,0)) O (by rw [gi]; rfl) ?_
  exact Em () (by rw [gi]) (sc O (sc O (sc O (sc O sn)))) (λ_ h=>by
    have h:=h.ar 2 rfl;have h:=h.ar 2 rfl;have h:=h.ar 2 rfl
    exact h)
 intro _ AN;refine Cs (Cr (V0 (Ym O) (V0 (Yf CT O) (V0 (Yd 2 O O O x1) ?_))));refine WL.xF (ι:=SP) (κ:=Unit) Y O aaY O (λr=>.slice r.1 (mm σ x.args).length r.2) (λF r=>iB σ x.args=0/\Sl (jV (k+1)) 5 F r.1 r.2 (mm σ x.args)) (λ_=>gJ (iB σ x.args)) (λ_=>iB σ x.args≠0) (λw hw=>hN HE x.args a c w (hw.vs _ (by simp)) (hw.vs _ (by simp)) hm (by omega)) ?_ ?_
 ·intro _ hp;refine Ep ?_;refine aL λw' hw=>?_
  have he:jW σ x=iB σ x.args:=by rw [B_,AN,nk]
  rw [he];exact .inr ⟨(),O,hw.fr,hp⟩
 intro F95 r95 an5 ⟨an6,h95⟩;refine V0 (Yf uY O) (ak 0 Y O O O aaZ O O O (Ln (Et (Cs (Cr (V0 (bC 0 O O kR O) (ak 1 Y O O O LH O O O (Ln (Et (aw ?_))))))))));refine WE.dM (gA O (cU 1 O O kR O)) λw' hw=>?_;rw [afx];exact .inl ⟨r95,O,hw.fr,by rw [B_,AN,nk,an6],Jn h95 (bJ hw (by simp) an5)⟩
def an8 (HS:View) (sb:Nat) (σ:dk) (ke k:Nat):Prop:=∀(HE:View) (l:List aR) (a:Option Addr) (c:Nat) (w:World),Le HS w->Le HE w->Sl (iz ke k) 6 HE a c l->de l<=109951162777->
 Calls Tryz.prog 118 #[.pointer (some ⟨sb,0,none⟩),.slice a l.length c] w λe w'=>(∃r:SP,e = .returned (.slice r.1 (iM σ l).length r.2)/\Ext w w'/\ew σ l=0/\Sl (iA (ke+1) (k+1)) 7 (nv w w') r.1 r.2 (iM σ l))\/(∃_:Unit,e = .panicked (gJ (ew σ l))/\Ext w w'/\ew σ l≠0)
theorem LK {X T S:Type} {f:X->T} {g:S->T} {es:List X} {l:List S} {i:Nat} {x:S} {e:X} (h:es.map f=(l.take i).map g) (hx:l[i]? = some x) (he:f e=g x):(es++[e]).map f=(l.take (i+1)).map g:=by
 rw [mA hx]; simp [h,he]
theorem LL {X T S:Type} {f:X->T} {g:S->T} {es:List X} {l:List S} {i:Nat} (h:es.map f=(l.take i).map g) (hi:i<=l.length):es.length=i:=by
 have:=congrArg List.length h
 simpa [Nat.min_eq_left hi] using this
theorem LM {X T S:Type} {f:X->T} {g:S->T} {es:List X} {l:List S} {i:Nat} (h:es.map f=(l.take i).map g) (hi:i=l.length):es.map f=l.map g:=by subst hi; simpa using h
theorem an9:Enters Tryz.prog 175:=enters_of Tryz.func175 (by kernel_rfl) rfl
theorem aa2:fk Tryz.prog 189 238 (.agg #[.int .i64 0,.int .i64 0,.int .i64 0,.int .i64 0,.slice none 0 0]) 5 56:=iw (by kernel_rfl)
theorem G_:zeroOf Tryz.prog 191=some (.agg #[.int .i64 0,.int .i64 0,.int .i64 0,.int .i64 0,.slice none 0 0,.slice none 0 0,.slice none 0 0]):=by kernel_rfl
theorem an':fh Tryz.prog 191=some [(0,1),(1,1),(2,1),(3,1),(4,1),(5,1),(6,1)]:=by kernel_rfl
theorem LO:cG Tryz.prog 191=some 7:=by kernel_rfl
theorem pG:aZ Tryz.prog 191 2=some 2:=by kernel_rfl
theorem qP:aZ Tryz.prog 191 3=some 3:=by kernel_rfl
theorem AO:aZ Tryz.prog 191 1=some 1:=by kernel_rfl
theorem sP:aZ Tryz.prog 191 4=some 4:=by kernel_rfl
theorem LP:Enters Tryz.prog 118:=enters_of Tryz.func118 (by kernel_rfl) rfl
theorem Ha:aZ Tryz.prog 191 5=some 5:=by kernel_rfl
theorem Rm:cG Tryz.prog 56=some 1:=by kernel_rfl
theorem AP:aZ Tryz.prog 191 6=some 6:=by kernel_rfl
theorem Dt:fg Tryz.prog 191=some 7:=by kernel_rfl
theorem an_:Enters Tryz.prog 140:=enters_of Tryz.func140 (by kernel_rfl) rfl
theorem aa3:fk Tryz.prog 56 191 (.agg #[.int .i64 0,.int .i64 0,.int .i64 0,.int .i64 0,.slice none 0 0,.slice none 0 0,.slice none 0 0]) 7 104:=iw (by kernel_rfl)
theorem aoa (HS HE:View) (sb:Nat) (σ:dk) (hS:wC HS sb σ) (k:Nat) (l:List az) (a:Option Addr) (c:Nat) (w:World) (pF:Le HS w) (wI:Le HE w) (hm:Sl (eW k) 5 HE a c l) (xY:dT l<=109951162777) :
   Calls Tryz.prog 165 #[.pointer (some ⟨sb,0,none⟩),.slice a l.length c] w λe w'=>(∃r:SP,e = .returned (.slice r.1 (mm σ l).length r.2)/\Ext w w'/\iB σ l=0/\Sl (jV (k+1)) 5 (nv w w') r.1 r.2 (mm σ l))\/(∃_:Unit,e = .panicked (gJ (iB σ l))/\Ext w w'/\iB σ l≠0):=by
 induction k using Nat.strongRecOn generalizing HE l a c w
 rename_i k ih;have dN:=hm.cap;have ek:=hm.max;have hlw:=Vd l;refine enter Tryz.func165 O 22 O O ?_;refine CE (Vs:=[HE,HS]) (Ws.init (by simp [wI,pF])) (Cs (Cr (V0 (Ya O) (Ln (Et (Cs (Cr (V0 (Ya O) (LW (λ_ h=>h.fj 238 5) ?_)))))))));refine WL.v0 ?_;refine Ln (Et (Cs (Cs (Cr (V0 (Ym O) (V0 (Yn uj O) (V0 (Ym O) (Ln (Et (Cb ?_))))))))));refine ct (ι:=GX XN) (λg=>[(10,.int .i64 (g.i:Int)),(5,.slice g.a g.es.length g.c)]) [(0,_),(4,_),(8,_),(9,_)] (λg=>Ws w [] [bj 238 5 XN.cells g.a g.c g.es] [g.J,HE,HS]) (λg=>g.i<=l.length/\g.es.map (·.1)=(l.take g.i).map (qf σ)/\iC (jW σ) (l.take g.i)=0/\(eU w g.J/\Xs (tG k) g.J g.es)) (λg=>l.length-g.i) ⟨0,[],none,0,v0⟩ ⟨Nat.zero_le _,O,O,⟨xD w,Xs.nil _⟩⟩ (sc O (sc O (sc O (sc O (sc O (sc O sn)))))) (λ_ h=>by have h:=Ws.bB h (bc:=[v0,HE,HS]) (by simp); exact h) ?_;intro g ⟨hi,lx,AQ,⟨mD,hX⟩⟩;refine Cs (Cr (V0 (a_ O O) (Ln (Et (Cs ?_)))));refine Cc O (λad=>?_) (λad=>?_)
 ·have av:g.i<l.length:=by simpa using ad
  obtain ⟨y,bx⟩:∃q,l[g.i]? = some q:=⟨_,List.getElem?_eq_getElem av⟩;obtain ⟨gq,gu,eG,ck⟩:=hm.aO g.i y bx
  obtain ⟨k2,rfl⟩:∃k2,k=k2+1:=by
    cases k with
    | zero=>exact ck.elim
    | succ k2=>exact ⟨k2,rfl⟩
  obtain ⟨ya,yn,bQ,gM⟩:=ck;have xI:=LL lx hi;refine Ck (Et (Cs (Cb (Cs (Cr (V0 (Yo uj O O eG (by omega)) (V0 (cF 1 jY O O O (bQ)) ?_)))))));refine Al Y O iP λb7=>?_;refine ak 0 Y O O O nA O O O (Ln (Et (Cr (V0 (Ym O) (V0 (Ym O) (V0 (bC 0 O O jY O) ?_))))));refine WL.xF (ι:=SP) (κ:=Unit) Y O an9 O (λr=>.agg (rY (qf σ y) r.1 r.2).toArray) (λF r=>jW σ y=0/\tG (k2+1) F (qf σ y,r)) (λ_=>gJ (jW σ y)) (λ_=>jW σ y≠0) (λw hw=>anX HS HE sb σ k2 y ya yn w (hw.vs _ (by simp)) (hw.vs _ (by simp)) hS (λHE l a c w h1 h2 h3 h4=>ih k2 (by omega) HE l a c w h1 h2 h3 h4) gM (by have:=Vb bx; omega)) ?_ ?_
  ·intro _ hp;refine WE.aS (Ep (Ep (WE.aS (Ep ?_))));refine aL λw' hw=>?_
   have he:iB σ l=jW σ y:=by rw [Oi,E6 (jW σ) bx AQ hp]
   rw [he];exact .inr ⟨(),O,hw.fr,hp⟩
  intro F17 uQ Rn ⟨Ro,Rq⟩;refine WL.n8 λRr Rt Ru Rv=>?_;refine Lb Y O aa2 O O O O λsJ=>?_;refine bI 0 (.cells (XN.cells (qf σ y,uQ)).toArray 238 (0,0)) O (O) ?_;refine LA (((qf σ y,uQ):XN)) 2 0 Y O aa2 O O O O O O (by omega) (by omega) λG4 G5=>?_;refine V0 (Ya O) (Ln (Eb (Et (Cr (V0 (Yi O O O (by omega)) (V0 (Ym O) (Ln ?_)))))));exact Ea (⟨g.i+1,g.es++[(qf σ y,uQ)],G4,G5,Rr⟩:GX XN) (by show _-(g.i+1)<_; omega) ⟨(by show g.i+1<=_; omega),LK lx bx O,by show iC (jW σ) (l.take (g.i+1))=0; rw [Oh (jW σ) bx,AQ,nk,Ro],⟨Rv _ Rn mD,Xs.snoc (R:=tG _) (λhv h=>tG.mv hv h) hX Ru Rt Rq⟩⟩ (sc O (sc O (sc O (sc O (sc O (sc O sn)))))) (λ_ h=>Wd 2 h)
 have cC:g.i=l.length:=by simp at ad; omega
 refine Ce (Ex (Ex (bK (Et (Cs ?_)))));refine WC.p_ (rd:=VB) 0 O (λ_ hk=>by cases hk) XN.aX (λ_ _ _ _ h=>h) λK7 Gp Gq=>?_;refine Cr (V0 (Ym O) (V0 (Ya O) (Ln (Et (aw ?_)))));refine R1 O O λw' hw=>?_
 have hz:iB σ l=0:=by rw [Oi,<-AQ,cC,List.take_length]
 have bN:=LM lx cC;rw [<-VH] at bN;rw [<-bN];exact .inl ⟨(g.a,g.c),by rw [List.length_map],hw.fr,hz,afs Gq (bJ hw (by simp) Gp) (bJ hw (by simp) mD) hX⟩
theorem aod (HS:View) (sb:Nat) (σ:dk) (hS:wC HS sb σ) (k:Nat):Rc HS sb σ k:=by
 intro HE l a c w pF wI hm xY;exact aoa HS HE sb σ hS k l a c w pF wI hm xY
theorem aoe (HS HE:View) (sb:Nat) (σ:dk) (ke k:Nat) (x:aR) (a:Option Addr) (c:Nat) (a2:Option Addr) (c2:Nat) (a3:Option Addr) (c3:Nat) (w:World) (pF:Le HS w) (wI:Le HE w) (hS:wC HS sb σ) (hN:Rc HS sb σ ke) (hA:an8 HS sb σ ke k) (hm:Sl (eW ke) 5 HE a c x.args) (jG:Sl (iz ke k) 6 HE a2 c2 x.body) (lp:Sl (iz ke k) 6 HE a3 c3 x.other) (xY:wS x<=109951162777) :
   Calls Tryz.prog 140 #[.pointer (some ⟨sb,0,none⟩),.agg (zr x a c a2 c2 a3 c3).toArray] w λe w'=>(∃r:zw,e = .returned (.agg (vx (qg σ x) r).toArray)/\Ext w w'/\jd σ x=0/\qd (ke+1) (k+1) (nv w w') (qg σ x,r))\/(∃_:Unit,e = .panicked (gJ (jd σ x))/\Ext w w'/\jd σ x≠0):=by
 have Vr:=Va x;have dN:=hm.cap;have ek:=hm.max;refine enter Tryz.func140 O 88 O O ?_;refine CE (Vs:=[HE,HS]) (Ws.init (by simp [wI,pF])) (Cs (Cr ?_));refine WL.box Y O O λb3=>?_;refine Al Y O G_ λb4=>?_;refine Ln (Et (Cs (Cr (V0 (Yf pr O) (V0 (Yd 1 O O O aj) (V0 (Yb G_ an' O O) ?_))))));refine Al Y O G_ λb5=>?_;refine ak 0 Y O O O LO O O O (Ln (Et (Cs (Cr ?_))));refine Al Y O jo λb6=>?_;refine Ln (Et ?_);refine WC.ES (ι:=Unit) (λ_u=>[(0,.pointer (some ⟨sb,0,none⟩)),(3,.pointer (some ⟨b3,0,none⟩)),(4,.pointer (some ⟨b4,0,none⟩)),(5,.pointer (some ⟨b5,0,none⟩))]) (λ_u=>Ws w [] [ab b5 (.cells #[.int .i64 (dz σ x.op x.mod x.nm x.args.length).op,.int .i64 (dz σ x.op x.mod x.nm x.args.length).n,.int .i64 (dz σ x.op x.mod x.nm x.args.length).m,.int .i64 (dz σ x.op x.mod x.nm x.args.length).pl,.slice none 0 0,.slice none 0 0,.slice none 0 0] 191 (0,0)),ab b4 (.cells #[.int .i64 0,.int .i64 0,.int .i64 0,.int .i64 0,.slice none 0 0,.slice none 0 0,.slice none 0 0] 191 (0,0)),ab b3 (.cells (zr x a c a2 c2 a3 c3).toArray 222 (0,0))] [HE,HS]) (λ_u=>(dz σ x.op x.mod x.nm x.args.length).e=0) ?_ ?_
 ·refine Cs (Cr (V0 (Yf pr O) (V0 (Yd 3 O O O aj) (Ln (Et (Cb (Cs (Cr (V0 (aF O O) (V0 (Ya O) (Ln (Et ?_))))))))))));refine Cc O (λad=>?_) (λad=>?_)
  ·have gk:x.op=1:=by simpa using ad
   refine Cs (Cr (V0 (Ym O) (V0 (Yf FF O) (V0 (Yd 3 O O O cO) (V0 (Yf FG O) (V0 (Yd 3 O O O cO) ?_))))));refine WL.mf Y O Rj O _ _ _ _ (λw hw=>Re HS sb σ w (hw.vs _ (by simp)) hS x.mod x.nm) ?_ ?_
   ·intro _ hp;refine Ep (WE.aS (Ep ?_));refine aL λw' hw=>?_
    have he:jd σ x=5:=by rw [xM,Ri (by omega) hp]; rfl
    rw [he];exact .inr ⟨(),O,hw.fr,by decide⟩
   intro ⟨m20,Rw⟩ GW;have qa:=anR (len:=x.args.length) GW;have EI:=uR GW;refine V0 (Ym O) (V0 (Yx O O) (V0 (Yx O O) (V0 (Yf pG O) (ak 1 Y O O O bZ O O O (ak 0 Y O O O lX O O O (Ln (Et (Cs (Cr (V0 (Yf pG O) ?_))))))))));refine V0 (Yd 1 O O O aj) (V0 (a_ O O) (V0 (Ym O) ?_));apply Lo 3 O O O O Y O O O O O
   ·intro cD;refine Vg (Yf GZ O) (Vg (Yd 0 O O O aj) (Vg (aF O O) ?_));exact Gt 3 O O O
   refine WL.mf (ι:=Unit) (κ:=Unit) Y O wG O (λ_=>.tuple #[]) (λ_=>_=true) (λ_=>gJ _) (λ_=>_=false) (λw hw=>wH _ _ w) ?_ ?_
   ·intro _ hp;refine Ep (WE.aS (Ep ?_));refine aL λw' hw=>?_
    have d_:¬(m20 = -1\/Rw.kind=2):=by simp at hp; omega
    rw [if_neg d_] at qa
    have he:jd σ x=7:=by rw [xM,gk,qa]; rfl
    rw [he];exact .inr ⟨(),O,hw.fr,by decide⟩
   intro _ Lh
   have d_:m20 = -1\/Rw.kind=2:=by
     simp at Lh;omega
   have gi:(dz σ x.op x.mod x.nm x.args.length)=⟨x.op,0,m20,Rw.pl,0⟩:=by rw [gk]; rw [qa,if_pos d_]
   refine Ln (Et (Cr (V0 (Yf lW O) (V0 (Yd 0 O O O aj) (V0 (Yf qP O) (ak 1 Y O O O bZ O O O (Ln (Eb ?_))))))));refine WE.n9 1 (.cells #[.int .i64 (dz σ x.op x.mod x.nm x.args.length).op,.int .i64 (dz σ x.op x.mod x.nm x.args.length).n,.int .i64 (dz σ x.op x.mod x.nm x.args.length).m,.int .i64 (dz σ x.op x.mod x.nm x.args.length).pl,.slice none 0 0,.slice none 0 0,.slice none 0 0] 191 (0,0)) O (by rw [gi]; rfl) ?_
   exact Em () (by rw [gi]) (sc O (sc O (sc O (sc O sn)))) (λ_ h=>by
     have h:=h.ar 3 rfl;have h:=h.ar 3 rfl;have h:=h.ar 3 rfl;have h:=Wt 3 h
     exact h)
  have h1:¬x.op=1:=by simpa using ad
  refine Cs (Cr (V0 (aF O O) (V0 (Ya O) (Ln (Et ?_)))));refine Cc O (λaq=>?_) (λaq=>?_)
  ·have gk:x.op=2:=by simpa using aq
   refine Cs (Cr (V0 (Ym O) (V0 (Yf FF O) (V0 (Yd 3 O O O cO) (V0 (Yf FG O) (V0 (Yd 3 O O O cO) ?_))))));refine WL.mf Y O LI O _ _ _ _ (λw hw=>LJ HS sb σ w (hw.vs _ (by simp)) hS x.mod x.nm 3 0) ?_ ?_
   ·intro _ hp;refine Ep (WE.aS (Ep ?_));refine aL λw' hw=>?_
    have he:jd σ x=iT σ x.mod x.nm 3 0:=by rw [xM,gk,anS hp,vz hp]
    rw [he];exact .inr ⟨(),O,hw.fr,hp⟩
   intro ⟨m44,aa4⟩ ⟨aog,aoh⟩
   have gi:(dz σ x.op x.mod x.nm x.args.length)=⟨x.op,aa4.n,m44,aa4.pl,0⟩:=by rw [gk]; exact anT aog aoh
   refine V0 (Ym O) (V0 (Yx O O) (V0 (Yx O O) (V0 (Yf pG O) (ak 1 Y O O O bZ O O O (ak 0 Y O O O lX O O O (Ln (Et ?_)))))));refine WC.nV 1 [(0,true),(1,true),(2,true),(3,true),(4,true),(5,false),(6,false),(7,false)] mixed (by kernel_rfl) (λ_ _ _ d _ h=>by cases d<;>exact h) ?_;refine D0 O (Wp 1) (Yf lW O) (D0 O (Wp 1) (Yd 0 O O O aj) (D0 O (Wp 1) (Yf qO O) (D0 O (Wp 1) (Yd 0 O O O aj) (D0 O (Wp 1) (Yf qP O) ?_))));refine De O (Wp 1) ?_;refine ak 1 Y O O O bZ O O O (Ln (Ed ?_));refine De O (Wp 1) ?_;refine V0 (Yf AO O) (Ln (Ed ?_));refine De O (Wp 1) ?_;refine ak 1 Y O O O bZ O O O (Ln (Ed ?_));refine WD.nil (Wp 1) ?_;refine Eb ?_;refine WE.n9 1 (.cells #[.int .i64 (dz σ x.op x.mod x.nm x.args.length).op,.int .i64 (dz σ x.op x.mod x.nm x.args.length).n,.int .i64 (dz σ x.op x.mod x.nm x.args.length).m,.int .i64 (dz σ x.op x.mod x.nm x.args.length).pl,.slice none 0 0,.slice none 0 0,.slice none 0 0] 191 (0,0)) O (by rw [gi]; rfl) ?_
   exact Em () (by rw [gi]) (sc O (sc O (sc O (sc O sn)))) (λ_ h=>by
     have h:=h.ar 3 rfl;have h:=h.ar 3 rfl;have h:=h.ar 3 rfl;have h:=Wt 3 h
     exact h)
  have h2:¬x.op=2:=by simpa using aq
  refine Cs (Cr (V0 (aF O O) (V0 (Ya O) (Ln (Et ?_)))));refine Cc O (λay=>?_) (λay=>?_)
  ·have gk:x.op=3:=by simpa using ay
   refine Cs (Cr (V0 (Ym O) (V0 (Yf FF O) (V0 (Yd 3 O O O cO) (V0 (Yf FG O) (V0 (Yd 3 O O O cO) (V0 (Yf qz O) (V0 (Yd 3 O O O x1) ?_))))))));refine V0 (Yn uj O) ?_;refine WL.mf Y O LI O _ _ _ _ (λw hw=>LJ HS sb σ w (hw.vs _ (by simp)) hS x.mod x.nm 4 (x.args.length:Int)) ?_ ?_
   ·intro _ hp;refine Ep (WE.aS (Ep ?_));refine aL λw' hw=>?_
    have he:jd σ x=iT σ x.mod x.nm 4 (x.args.length:Int):=by rw [xM,gk,anU hp,vz hp]
    rw [he];exact .inr ⟨(),O,hw.fr,hp⟩
   intro ⟨m65,aoj⟩ ⟨QO,GV⟩
   have gi:(dz σ x.op x.mod x.nm x.args.length)=⟨x.op,0,m65,aoj.pl,0⟩:=by rw [gk]; exact anV QO GV
   refine V0 (Ym O) (V0 (Yx O O) (V0 (Yx O O) (V0 (Yf pG O) (ak 1 Y O O O bZ O O O (ak 0 Y O O O lX O O O (Ln (Et (Cr (V0 (Yf lW O) ?_)))))))));refine V0 (Yd 0 O O O aj) (V0 (Yf qP O) (ak 1 Y O O O bZ O O O (Ln (Eb ?_))));refine WE.n9 1 (.cells #[.int .i64 (dz σ x.op x.mod x.nm x.args.length).op,.int .i64 (dz σ x.op x.mod x.nm x.args.length).n,.int .i64 (dz σ x.op x.mod x.nm x.args.length).m,.int .i64 (dz σ x.op x.mod x.nm x.args.length).pl,.slice none 0 0,.slice none 0 0,.slice none 0 0] 191 (0,0)) O (by rw [gi]; rfl) ?_
   exact Em () (by rw [gi]) (sc O (sc O (sc O (sc O sn)))) (λ_ h=>by
     have h:=h.ar 3 rfl;have h:=h.ar 3 rfl;have h:=h.ar 3 rfl;have h:=Wt 3 h
     exact h)
  have h3:¬x.op=3:=by simpa using ay
  have gi:(dz σ x.op x.mod x.nm x.args.length)=⟨x.op,0,0,0,0⟩:=anQ h1 h2 h3;refine Ck (Eb ?_);refine WE.n9 1 (.cells #[.int .i64 (dz σ x.op x.mod x.nm x.args.length).op,.int .i64 (dz σ x.op x.mod x.nm x.args.length).n,.int .i64 (dz σ x.op x.mod x.nm x.args.length).m,.int .i64 (dz σ x.op x.mod x.nm x.args.length).pl,.slice none 0 0,.slice none 0 0,.slice none 0 0] 191 (0,0)) O (by rw [gi]; rfl) ?_
  exact Em () (by rw [gi]) (sc O (sc O (sc O (sc O sn)))) (λ_ h=>by
    have h:=h.ar 3 rfl;have h:=h.ar 3 rfl;have h:=h.ar 3 rfl;have h:=Wt 3 h
    exact h)
 intro _ AN;refine Cs (Cr (V0 (Ym O) (V0 (Yf qz O) (V0 (Yd 2 O O O x1) ?_))));refine WL.xF (ι:=SP) (κ:=Unit) Y O aaY O (λr=>.slice r.1 (mm σ x.args).length r.2) (λF r=>iB σ x.args=0/\Sl (jV (ke+1)) 5 F r.1 r.2 (mm σ x.args)) (λ_=>gJ (iB σ x.args)) (λ_=>iB σ x.args≠0) (λw hw=>hN HE x.args a c w (hw.vs _ (by simp)) (hw.vs _ (by simp)) hm (by omega)) ?_ ?_
 ·intro _ hp;refine Ep ?_;refine aL λw' hw=>?_
  have he:jd σ x=iB σ x.args:=by rw [xM,AN,nk,vz hp]
  rw [he];exact .inr ⟨(),O,hw.fr,hp⟩
 intro F75 Kr aok ⟨Rx,h75⟩;refine V0 (Yf sP O) (ak 0 Y O O O aaZ O O O (Ln (Et (Cs ?_))));refine WC.nV 0 [(0,true),(1,true),(2,true),(4,true),(5,true),(6,true),(3,false),(8,true),(7,false),(9,false),(10,false),(11,false)] mixed (by kernel_rfl) (λ_ _ _ d _ h=>by cases d<;>exact h) ?_;refine D0 O (Wp 0) (Ym O) (D0 O (Wp 0) (Yf CX O) (D0 O (Wp 0) (Yd 1 O O O nB) (D0 O (Wp 0) (Ym O) (D0 O (Wp 0) (Yf x2 O) (D0 O (Wp 0) (Yd 1 O O O nB) ?_)))));refine De O (Wp 0) ?_;refine WL.xF (ι:=SP) (κ:=Unit) Y O LP O (λr=>.slice r.1 (iM σ x.body).length r.2) (λF r=>ew σ x.body=0/\Sl (iA (ke+1) (k+1)) 7 F r.1 r.2 (iM σ x.body)) (λ_=>gJ (ew σ x.body)) (λ_=>ew σ x.body≠0) (λw hw=>hA HE x.body a2 c2 w (hw.vs _ (by simp)) (hw.vs _ (by simp)) jG (by omega)) ?_ ?_
 ·intro _ hp;refine Ep (Ep ?_);refine aL λw' hw=>?_
  have he:jd σ x=ew σ x.body:=by rw [xM,AN,nk,Rx,nk,vz hp]
  rw [he];exact .inr ⟨(),O,hw.fr,hp⟩
 intro F80 r80 aoo ⟨aa5,Ry⟩;refine Ln (Ed (D0 O (λ_ h=>(Wv 1 (Wo 0 h):)) (Yf Ha O) ?_));refine De O (λ_ h=>(Wv 1 (Wo 0 h):)) ?_;refine WL.xF (ι:=SP) (κ:=Unit) Y O LP O (λr=>.slice r.1 (iM σ x.other).length r.2) (λF r=>ew σ x.other=0/\Sl (iA (ke+1) (k+1)) 7 F r.1 r.2 (iM σ x.other)) (λ_=>gJ (ew σ x.other)) (λ_=>ew σ x.other≠0) (λw hw=>hA HE x.other a3 c3 w (hw.vs _ (by simp)) (hw.vs _ (by simp)) lp (by omega)) ?_ ?_
 ·intro _ hp;refine Ep (Ep ?_);refine aL λw' hw=>?_
  have he:jd σ x=ew σ x.other:=by rw [xM,AN,nk,Rx,nk,aa5,nk]
  rw [he];exact .inr ⟨(),O,hw.fr,hp⟩
 intro F84 r84 aoq ⟨aor,h84⟩;refine Ln (Ed ?_);refine De O (λ_ h=>(Wv 2 (Wo 0 h):)) ?_;refine ak 0 Y O O O Rm O O O (Ln (Ed ?_));refine De O (λ_ h=>(Wv 2 (Wo 0 h):)) ?_;refine V0 (Yf AP O) (Ln (Ed ?_));refine De O (λ_ h=>(Wv 2 (Wo 0 h):)) ?_;refine ak 0 Y O O O Rm O O O (Ln (Ed ?_));refine WD.nil (λ_ h=>(Wv 2 (Wo 0 h):)) ?_;refine Et (Cs (Cr (V0 (bC 0 O O Dt O) (ak 1 Y O O O LO O O O (Ln (Et (aw ?_)))))));refine WE.dM (gA O (cU 1 O O Dt O)) λw' hw=>?_;rw [afy];exact .inl ⟨⟨Kr,r80,r84⟩,O,hw.fr,by rw [xM,AN,Rx,aa5,aor]; rfl,Jn h75 (bJ hw (by simp) aok),zx Ry (bJ hw (by simp) aoo),zx h84 (bJ hw (by simp) aoq)⟩
theorem aa6 (HS HE:View) (sb:Nat) (σ:dk) (ke:Nat) (hS:wC HS sb σ) (k:Nat) (l:List aR) (a:Option Addr) (c:Nat) (w:World) (pF:Le HS w) (wI:Le HE w) (hm:Sl (iz ke k) 6 HE a c l) (xY:de l<=109951162777) :
   Calls Tryz.prog 118 #[.pointer (some ⟨sb,0,none⟩),.slice a l.length c] w λe w'=>(∃r:SP,e = .returned (.slice r.1 (iM σ l).length r.2)/\Ext w w'/\ew σ l=0/\Sl (iA (ke+1) (k+1)) 7 (nv w w') r.1 r.2 (iM σ l))\/(∃_:Unit,e = .panicked (gJ (ew σ l))/\Ext w w'/\ew σ l≠0):=by
 induction k using Nat.strongRecOn generalizing HE l a c w
 rename_i k ih;have dN:=hm.cap;have ek:=hm.max;have hlw:=Ve l;refine enter Tryz.func118 O 22 O O ?_;refine CE (Vs:=[HE,HS]) (Ws.init (by simp [wI,pF])) (Cs (Cr (V0 (Ya O) (Ln (Et (Cs (Cr (V0 (Ya O) (LW (λ_ h=>h.fj 191 7) ?_)))))))));refine WL.v0 ?_;refine Ln (Et (Cs (Cs (Cr (V0 (Ym O) (V0 (Yn sx O) (V0 (Ym O) (Ln (Et (Cb ?_))))))))));refine ct (ι:=GX XA) (λg=>[(10,.int .i64 (g.i:Int)),(5,.slice g.a g.es.length g.c)]) [(0,_),(4,_),(8,_),(9,_)] (λg=>Ws w [] [bj 191 7 XA.cells g.a g.c g.es] [g.J,HE,HS]) (λg=>g.i<=l.length/\g.es.map (·.1)=(l.take g.i).map (qg σ)/\iC (jd σ) (l.take g.i)=0/\(eU w g.J/\Xs (qd (ke+1) k) g.J g.es)) (λg=>l.length-g.i) ⟨0,[],none,0,v0⟩ ⟨Nat.zero_le _,O,O,⟨xD w,Xs.nil _⟩⟩ (sc O (sc O (sc O (sc O (sc O (sc O sn)))))) (λ_ h=>by have h:=Ws.bB h (bc:=[v0,HE,HS]) (by simp); exact h) ?_;intro g ⟨hi,lx,AQ,⟨mD,hX⟩⟩;refine Cs (Cr (V0 (a_ O O) (Ln (Et (Cs ?_)))));refine Cc O (λad=>?_) (λad=>?_)
 ·have av:g.i<l.length:=by simpa using ad
  obtain ⟨y,bx⟩:∃q,l[g.i]? = some q:=⟨_,List.getElem?_eq_getElem av⟩;obtain ⟨gq,gu,eG,ck⟩:=hm.aO g.i y bx
  obtain ⟨k2,rfl⟩:∃k2,k=k2+1:=by
    cases k with
    | zero=>exact ck.elim
    | succ k2=>exact ⟨k2,rfl⟩
  obtain ⟨ya,yn,y2,m2,y3,m3,bQ,kG,jG,lp⟩:=ck;have xI:=LL lx hi;refine Ck (Et (Cs (Cb (Cs (Cr (V0 (Yo sx O O eG (by omega)) (V0 (cF 1 jF O O O (bQ)) ?_)))))));refine Al Y O vV λb7=>?_;refine ak 0 Y O O O sy O O O (Ln (Et (Cr (V0 (Ym O) (V0 (Ym O) (V0 (bC 0 O O jF O) ?_))))));refine WL.xF (ι:=zw) (κ:=Unit) Y O an_ O (λr=>.agg (vx (qg σ y) r).toArray) (λF r=>jd σ y=0/\qd (ke+1) (k2+1) F (qg σ y,r)) (λ_=>gJ (jd σ y)) (λ_=>jd σ y≠0) (λw hw=>aoe HS HE sb σ ke k2 y ya yn y2 m2 y3 m3 w (hw.vs _ (by simp)) (hw.vs _ (by simp)) hS (aod HS sb σ hS ke) (λHE l a c w h1 h2 h3 h4=>ih k2 (by omega) HE l a c w h1 h2 h3 h4) kG jG lp (by have:=Vc bx; omega)) ?_ ?_
  ·intro _ hp;refine WE.aS (Ep (Ep (WE.aS (Ep ?_))));refine aL λw' hw=>?_
   have he:ew σ l=jd σ y:=by rw [Oj,E6 (jd σ) bx AQ hp]
   rw [he];exact .inr ⟨(),O,hw.fr,hp⟩
  intro F17 uQ Rn ⟨Ro,Rq⟩;refine WL.n8 λRr Rt Ru Rv=>?_;refine Lb Y O aa3 O O O O λsJ=>?_;refine bI 0 (.cells (XA.cells (qg σ y,uQ)).toArray 191 (0,0)) O (O) ?_;refine LA (((qg σ y,uQ):XA)) 2 0 Y O aa3 O O O O O O (by omega) (by omega) λG4 G5=>?_;refine V0 (Ya O) (Ln (Eb (Et (Cr (V0 (Yi O O O (by omega)) (V0 (Ym O) (Ln ?_)))))));exact Ea (⟨g.i+1,g.es++[(qg σ y,uQ)],G4,G5,Rr⟩:GX XA) (by show _-(g.i+1)<_; omega) ⟨(by show g.i+1<=_; omega),LK lx bx O,by show iC (jd σ) (l.take (g.i+1))=0; rw [Oh (jd σ) bx,AQ,nk,Ro],⟨Rv _ Rn mD,Xs.snoc (R:=qd _ _) (λhv h=>qd.mv hv h) hX Ru Rt Rq⟩⟩ (sc O (sc O (sc O (sc O (sc O (sc O sn)))))) (λ_ h=>Wd 2 h)
 have cC:g.i=l.length:=by simp at ad; omega
 refine Ce (Ex (Ex (bK (Et (Cs ?_)))));refine WC.p_ (rd:=VC) 0 O (λ_ hk=>by cases hk) XA.aX (λ_ _ _ _ h=>h) λK7 Gp Gq=>?_;refine Cr (V0 (Ym O) (V0 (Ya O) (Ln (Et (aw ?_)))));refine R1 O O λw' hw=>?_
 have hz:ew σ l=0:=by rw [Oj,<-AQ,cC,List.take_length]
 have bN:=LM lx cC;rw [<-VI] at bN;rw [<-bN];exact .inl ⟨(g.a,g.c),by rw [List.length_map],hw.fr,hz,aft Gq (bJ hw (by simp) Gp) (bJ hw (by simp) mD) hX⟩
def AR (H:View) (b o:Nat) (e:SP×List Tx):Prop:=vc H b o=some (.slice e.1.1 e.2.length e.1.2)/\Sl rdStr 1 H e.1.1 e.1.2 e.2
def eS (ls:List ((Option Addr×Nat)×List Tx)):Nat:=(ls.map (·.2.length)).sum
theorem Hb {ls:List ((Option Addr×Nat)×List Tx)} {i:Nat} {x:(Option Addr×Nat)×List Tx} (h:ls[i]? = some x):eS (ls.take (i+1))=eS (ls.take i)+x.2.length:=by
 simp [eS,List.take_add_one,h]
theorem Hc (ls:List ((Option Addr×Nat)×List Tx)) (i:Nat):eS (ls.take i)<=eS ls:=by
 have e:eS ls=eS (ls.take i)+eS (ls.drop i):=by
   unfold eS;rw [<-List.sum_append,<-List.map_append,List.take_append_drop]
 omega
theorem Hd (ls:List ((Option Addr×Nat)×List Tx)):(ls.flatMap (·.2)).length=eS ls:=by simp [eS,List.length_flatMap]
theorem LQ:dQ Tryz.prog 251=some 1:=by kernel_rfl
theorem aot:Enters Tryz.prog 139:=enters_of Tryz.func139 (by kernel_rfl) rfl
theorem aa7:cG Tryz.prog 199=some 1:=by kernel_rfl
theorem LR:fh Tryz.prog 58=some [(0,1),(1,1),(2,1),(3,1),(4,1)]:=by kernel_rfl
theorem uZ:zeroOf Tryz.prog 58=some (.agg #[st [],.slice none 0 0,.int .i64 0,.slice none 0 0,.slice none 0 0]):=by kernel_rfl
theorem aou:aZ Tryz.prog 199 0=some 0:=by kernel_rfl
theorem u0:cG Tryz.prog 58=some 5:=by kernel_rfl
theorem aa8 (H:View) (a:Option Addr) (c:Nat) (l:List Tx) (w:World) (hH:Le H w) (hm:Sl rdStr 1 H a c l) (hb:l.length<=1048576) :
   Calls Tryz.prog 66 #[.slice a l.length c] w λe w'=>∃r:SP,e = .returned (.slice r.1 l.length r.2)/\Ext w w'/\Sl rdStr 1 (nv w w') r.1 r.2 l:=by
 have dN:=hm.cap;have ek:=hm.max;refine enter Tryz.func66 O 8 O O ?_;refine CE (Vs:=[H]) (Ws.init (by simp [hH])) (Cs (Cr (V0 (Ya O) (Ln (Et (Cs (Cs (Cr (V0 (Ym O) (V0 (Ui dA O) (Ln (Et ?_))))))))))));refine Cc O (λad=>?_) (λad=>?_)
 ·have xm:l=[]:=by
    cases l with
    | nil=>rfl
    | cons x r=>obtain ⟨b,o,h,_⟩:=hm.aO 0 x rfl; rw [h] at ad; cases ad
  refine Cs (Cr (V0 (Ya O) (Ln (Et (aw (Er ?_))))));refine R1 O O λw' hw=>?_;subst xm;exact ⟨(none,0),O,hw.fr,Sl.nil⟩
 refine Ck (Et (Cs (Cr ?_)));refine WL.IN Y O dm O O O λb5=>?_;refine WL.EB (size:=1) 0 O (Nat.le_refl 0) (Nat.zero_le _) O ?_;refine WL.EG 0 ([]:List Tx).length (([]:List Tx).flatMap dJ) O O O ?_;refine V0 (Ym O) ?_;refine WL.tx (ys:=l) (xs:=[]) 0 (λ_=>H) Y O dm O O O (λw hw=>⟨hw.vs H (by simp),hm⟩) (λ_ _ _ _ h=>h) lK aas (by simp; omega) (by simp; omega) λa7 c7=>?_;refine V0 (Ya O) (Ln (Et (aw ?_)));refine R1 O O λw' hw=>?_;exact ⟨(a7,c7),O,hw.fr,hw.gB 0 O lK (λ_ _ _ _ h=>h)⟩
theorem aov (m:Nat) (w:World) (hm:m<=1048576) :
   Calls Tryz.prog 139 #[.slice none 0 0,.int .i64 (m:Int)] w λe w'=>∃r:SP,e = .returned (.slice r.1 ([]:List Tx).length r.2)/\Ws w [] [bj 9 1 dJ r.1 r.2 ([]:List Tx)] [] w':=by
 refine enter Tryz.func139 O 27 O O ?_;refine CE (Vs:=[]) (Ws.init (by simp)) (Cs (Cr (V0 (Ya O) (Ln (Et (Cs (Cs (Cr (V0 (Ym O) (V0 (a_ O O) (Ln (Et ?_))))))))))));refine Cc O (λad=>?_) (λad=>?_)
 ·exfalso
  simp at ad;omega
 refine Ck (Et (Cs (Cs (Cr (V0 (Ym O) (V0 (Ym O) (V0 (I6 dA O) (V0 (Ym O) (V0 (Yn dA O) (V0 (nW 0 O O (by simp) (by omega)) (V0 (nW (m:Int) O O (by simp) (by omega)) ?_)))))))))));refine V0 (Ya O) (Ln (Et (Cs (Cr (V0 (Ym O) (V0 (bX O O) (Ln (Et ?_))))))));refine Cc O (λaq=>?_) (λaq=>?_)
 ·have h0:0<m:=by simp at aq; omega
  refine Cr (V0 (Ym O) (V0 (Ym O) (V0 (I6 dA O) (V0 (vo 0 dA O (by simp) O O (Nat.zero_le _)) (V0 (Ym O) ?_)))));refine WL.UO m Y O dm kF O O h0 (by unfold maxLen; omega) (by omega) λDn He aow aox RA RB=>?_;refine WL.EB (m:=0) (cap:=He) (size:=1) 0 O (Nat.zero_le _) RA (by rw [RB,Nat.mul_one]) ?_;refine WL.EG 0 ([]:List Tx).length (([]:List Tx).flatMap dJ) O O (by simp) ?_;refine V0 (Ym O) (V0 (Yn dA O) (V0 (vo ([]:List Tx).length dA O (by simp) O O (Nat.zero_le _)) (V0 (Ya O) (Ln (Et (Cs (Cr (V0 (Ym O) (V0 (Ya O) (Ln (Et (aw ?_))))))))))));refine R1 O O λw' hw=>?_;exact ⟨(some ⟨Dn,0,none⟩,He),O,hw⟩
 refine Ck (Et (Cs (Cr (V0 (Ym O) (V0 (Ya O) (Ln (Et (aw ?_))))))));refine R1 O O λw' hw=>?_;exact ⟨(none,0),O,hw.fj 9 1⟩
theorem aoy (H:View) (a:Option Addr) (c:Nat) (ls:List (SP×List Tx)) (w:World) (hH:Le H w) (hm:Sl AR 1 H a c ls) (hb:eS ls<=1048576) (wJ:ls.length<=1048576) :
   Calls Tryz.prog 117 #[.slice a ls.length c] w λe w'=>∃r:SP,e = .returned (.slice r.1 (ls.flatMap (·.2)).length r.2)/\Ext w w'/\Sl rdStr 1 (nv w w') r.1 r.2 (ls.flatMap (·.2)):=by
 have dN:=hm.cap;have ek:=hm.max;refine enter Tryz.func117 O 36 O O ?_;refine CE (Vs:=[H]) (Ws.init (by simp [hH])) (Cs (Cr (V0 (Ya O) (Ln (Et (Cs (Cr (V0 (Ya O) (Ln (Et (Cs (Cs (Cr (V0 (Ym O) (V0 (Yn LQ O) ?_)))))))))))))));refine V0 (Ym O) (Ln (Et (Cb ?_)));refine CW (ι:=Nat) (λi=>[(11,.int .i64 (i:Int)),(3,.int .i64 (eS (ls.take i):Int))]) [(0,_),(2,_),(9,_),(10,_)] (λi=>i<=ls.length) (λi=>ls.length-i) 0 (Nat.zero_le _) (sc O (sc O (sc O (sc O (sc O (sc O sn)))))) ?_;intro i hi;refine Cs (Cr (V0 (a_ O O) (Ln (Et (Cs ?_)))));refine Cc O (λad=>?_) (λad=>?_)
 ·have av:i<ls.length:=by simpa using ad
  obtain ⟨x,hx⟩:∃x,ls[i]? = some x:=⟨_,List.getElem?_eq_getElem av⟩;obtain ⟨pb,po,ha,bQ,nY⟩:=hm.aO i x hx;have y7:=Hb hx;have AS:=Hc ls (i+1);refine Ck (Et (Cs (Cb (Cs (Cr (V0 (Yo LQ O O ha (by omega)) (V0 (bL 0 eH O O (bQ)) (V0 (Ya O) (Ln (Et (Cs (Cr (V0 (Ym O) (V0 (Ym O) (V0 (Yn dA O) ?_)))))))))))))));refine V0 (Nv (a:=eS (ls.take i)) (b:=x.2.length) O O O O (by omega)) (V0 (Ya O) (Ln (Et (Cs (Cr (V0 (Ym O) (V0 (a_ O O) (Ln (Et ?_)))))))));refine Cc O (λaq=>?_) (λaq=>?_)
  ·exfalso
   simp at aq;omega
  refine Ck (Eb (Et (Cr (V0 (Yi O O O (by omega)) (V0 (Ym O) (Ln ?_))))));rw [<-y7];exact Ea (i+1) (by omega) (by omega) (sc O (sc O (sc O (sc O (sc O (sc O sn)))))) (λ_ h=>h)
 have nz:i=ls.length:=by simp at ad; omega
 subst nz;rw [List.take_length];refine Ce (Ex (Ex (bK (Et (Cs (Cr (V0 (Ym O) ?_)))))));refine Lw (ι:=SP) [] _ Y O aot O O (λr=>.slice r.1 ([]:List Tx).length r.2) (λr=>[bj 9 1 dJ r.1 r.2 ([]:List Tx)]) (λ_=>True) [] (by simp) (λw hw=>(aov (eS ls) w hb).mono λe w' ⟨r,h1,h2⟩=>⟨r,h1,trivial,h2⟩) ?_;intro uy _;refine V0 (Ya O) (Ln (Et (Cs (Cs (Cr (V0 (Ym O) (V0 (Yn LQ O) (V0 (Ym O) (Ln (Et (Cb ?_)))))))))));refine ct (ι:=Nat×Option Addr×Nat) (λg=>[(27,.int .i64 (g.1:Int)),(6,.slice g.2.1 ((ls.take g.1).flatMap (·.2)).length g.2.2)]) [(2,_),(25,_),(26,_)] (λg=>Ws w [] [bj 9 1 dJ g.2.1 g.2.2 ((ls.take g.1).flatMap (·.2))] [H]) (λg=>g.1<=ls.length) (λg=>ls.length-g.1) (0,uy.1,uy.2) (Nat.zero_le _) (sc O (sc O (sc O (sc O (sc O sn))))) (λ_ h=>h) ?_;intro g hi;refine Cs (Cr (V0 (a_ O O) (Ln (Et (Cs ?_)))));refine Cc O (λay=>?_) (λay=>?_)
 ·have av:g.1<ls.length:=by simpa using ay
  obtain ⟨x,hx⟩:∃x,ls[g.1]? = some x:=⟨_,List.getElem?_eq_getElem av⟩;obtain ⟨pb,po,ha,bQ,nY⟩:=hm.aO g.1 x hx;have y7:=Hb hx;have AS:=Hc ls (g.1+1);refine Ck (Et (Cs (Cb (Cs (Cr (V0 (Yo LQ O O ha (by omega)) (V0 (bL 0 eH O O (bQ)) (V0 (Ya O) (Ln (Et (Cr (V0 (Ym O) (V0 (Ym O) ?_)))))))))))));refine WL.tx (xs:=(ls.take g.1).flatMap (·.2)) (ys:=x.2) 0 (λ_=>H) Y O dm O O O (λw hw=>⟨hw.vs H (by simp),nY⟩) (λ_ _ _ _ h=>h) lK aas (by rw [Hd]; omega) (by rw [Hd]; omega) λRC RD=>?_;rw [show ((ls.take g.1).flatMap (·.2))++x.2=(ls.take (g.1+1)).flatMap (·.2) by rw [List.take_add_one,hx]; simp];refine V0 (Ya O) (Ln (Eb (Et (Cr (V0 (Yi O O O (by omega)) (V0 (Ym O) (Ln ?_)))))));exact Ea ((g.1+1,RC,RD):Nat×Option Addr×Nat) (by first | omega | (dsimp only; omega)) (by first | omega | (dsimp only; omega)) (sc O (sc O (sc O (sc O (sc O sn))))) (λ_ h=>h)
 have nz:g.1=ls.length:=by simp at ay; omega
 refine Ce (Ex (Ex (bK (Et (Cs (Cr (V0 (Ym O) (V0 (Ya O) (Ln (Et (aw ?_)))))))))));refine R1 O O λw' hw=>?_;rw [nz,List.take_length] at hw;rw [nz,List.take_length];exact ⟨(g.2.1,g.2.2),O,hw.fr,hw.gB 0 O lK (λ_ _ _ _ h=>h)⟩
theorem aoz (b4 b5:Nat) (m0:List Value) (AD:m0.length=5) (e0 LS:Int) (w:World) (hw:Ws w (List.flatMap ao.ids [ab b4 (.cells m0.toArray 58 (0,0)),ab b5 (.cells #[.int .i64 e0] 29 (0,0))]) [ab b4 (.cells m0.toArray 58 (0,0)),ab b5 (.cells #[.int .i64 e0] 29 (0,0))] [] w) :
   CallsD Tryz.prog 112 #[.pointer (some ⟨b4,0,none⟩),.pointer (some ⟨b5,0,none⟩)] (.returning) w λe u2 w'=>u2 = .returning/\(e = .returned (.tuple #[])/\Ws w (List.flatMap ao.ids [ab b4 (.cells m0.toArray 58 (0,0)),ab b5 (.cells #[.int .i64 e0] 29 (0,0))]) [ab b4 (.cells m0.toArray 58 (0,0)),ab b5 (.cells #[.int .i64 e0] 29 (0,0))] [] w'):=by
 refine EL Tryz.func112 O 18 O O O O O (λ_=>rfl) (.inl ⟨O,O,O⟩) ?_;refine LW (W':=Ws w (List.flatMap ao.ids [ab b4 (.cells m0.toArray 58 (0,0)),ab b5 (.cells #[.int .i64 e0] 29 (0,0))]) [ab b4 (.cells m0.toArray 58 (0,0)),ab b5 (.cells #[.int .i64 e0] 29 (0,0))] []) (λ_ e=>by subst e; exact hw) (V0 (Ya O) (Ln (Et (Cs (Cr (V0 (Ym O) (V0 (ae9 Tryz.underlying199 LF O) (V0 (Ym O) (V0 (Yx O O) (V0 (Yx O O) ?_))))))))));refine Al Y O LF λb3=>?_;refine ak 0 Y O O O aa7 O O O (V0 (Ya O) (Ln (Et (Cs (Cr (V0 (Ym O) (Ln (Et ?_))))))));refine WC.yU O ?_;refine Cs (Cr (V0 (Ym O) (V0 (Uv QS O) (Ln (Et ?_)))));refine WC.yU O ?_;refine Ck ?_;refine E0 O λw' hw=>?_;exact ⟨O,Wd 1 hw⟩
theorem LU (b4 b5:Nat) (m0:List Value) (AD:m0.length=5) (e0 LS:Int) (w:World) (hw:Ws w (List.flatMap ao.ids [ab b4 (.cells m0.toArray 58 (0,0)),ab b5 (.cells #[.int .i64 e0] 29 (0,0))]) [ab b4 (.cells m0.toArray 58 (0,0)),ab b5 (.cells #[.int .i64 e0] 29 (0,0))] [] w) :
   CallsD Tryz.prog 112 #[.pointer (some ⟨b4,0,none⟩),.pointer (some ⟨b5,0,none⟩)] (.panicking (gJ LS)) w λe u2 w'=>u2 = .panicking [⟨.iface 199 (.agg #[.int .i64 LS]),true,false⟩]/\(e = .returned (.tuple #[])/\Ws w (List.flatMap ao.ids [ab b4 (.cells m0.toArray 58 (0,0)),ab b5 (.cells #[.int .i64 e0] 29 (0,0))]) [ab b4 (.cells (fo kz lL).toArray 58 (0,0)),ab b5 (.cells #[.int .i64 LS] 29 (0,0))] [] w'):=by
 refine EL Tryz.func112 O 18 O O O O O (λ_=>rfl) (.inr ⟨_,O,O,O⟩) ?_;refine LW (W':=Ws w (List.flatMap ao.ids [ab b4 (.cells m0.toArray 58 (0,0)),ab b5 (.cells #[.int .i64 e0] 29 (0,0))]) [ab b4 (.cells m0.toArray 58 (0,0)),ab b5 (.cells #[.int .i64 e0] 29 (0,0))] []) (λ_ e=>by subst e; exact hw) (V0 (Ya O) (Ln (Et (Cs (Cr (V0 (Ym O) (V0 (ae8 Tryz.underlying199 O) (V0 (Ym O) (V0 (Yx O O) (V0 (Yx O O) ?_))))))))));refine Al Y O LF λb3=>?_;refine ak 0 Y O O O aa7 O O O (V0 (Ya O) (Ln (Et (Cs (Cr (V0 (Ym O) (Ln (Et ?_))))))));refine WC.M_ O ?_;refine WC.IY (λ_=>true) [1,1] [(0,true),(1,true),(2,true),(3,false),(4,false)] mixed (by kernel_rfl) (by kernel_rfl) (λ_ _ _ d _ _ h=>by cases d<;>exact h) ?_;refine D0 O (bw [1,1]) (Yb uZ LR O O) (D0 O (bw [1,1]) (Yf aou O) (D0 O (bw [1,1]) (Yd 0 O O O jn) ?_));refine De O (bw [1,1]) ?_;refine WL.T' 1 (.cells (fo kz lL).toArray 58 (0,0)) Y O O O u0 O O (by simp [vi,AD]) (by simp [mS,dE,fo,kz,lL,AD,List.drop_eq_nil_of_le]) ?_;refine Ln (Ed ?_);refine De O (bw [1,1]) ?_;refine ak 2 Y O O O pD O O O (Ln (Ed ?_));refine WD.nil (bw [1,1]) ?_;refine E0 O λw' hw=>?_;exact ⟨O,Wd 1 hw⟩
def wK (f:List UInt8×List aY) (r:SP):List Value:=[st f.1,.slice r.1 f.2.length r.2]
def Du (H:View) (b o:Nat) (f:List UInt8×List aY):Prop:=∃r:SP,aP H b o (wK f r)/\Sl mj 4 H r.1 r.2 f.2
abbrev XM:=List aY×Nat
def XM.cells (e:XM):List Value:=[.map (some e.2)]
theorem XM.aX (e:XM):(XM.cells e).length=1:=rfl
def aoA (H:View) (b o:Nat) (e:XM):Prop:=aP H b o (XM.cells e)
def Dv (J:View) (e:XM):Prop:=J e.2=some (bz st (ik e.1 0) e.1.length)
theorem Dv.mv {A B:View} {e:XM} (hv:aN A B) (h:Dv A e):Dv B e:=hv _ _ h
def yt (u:List UInt8) (f:List UInt8×List aY):Bool:=(vw f.1 f.2==0)&&(f.1==u)
theorem RE:∀{us:List (List UInt8)} {fs:List (List UInt8×List aY)},rZ us fs=true↔∀(k:Nat) u f,us[k]? = some u->fs[k]? = some f->yt u f=true
 | [],fs=>by simp [rZ]
 | u::us,[]=>by simp [rZ]
 | u::us,f::fs=>by
   have ih:=RE (us:=us) (fs:=fs);simp only [rZ,Bool.and_eq_true]
   constructor
   · rintro ⟨h1,h2⟩ k u' f' hu hf
     cases k with
     | zero=>simp at hu hf; subst hu; subst hf; simp only [yt,Bool.and_eq_true]; exact h1
     | succ k=>exact ih.1 h2 k u' f' (by simpa using hu) (by simpa using hf)
   · intro h
     refine ⟨by have:=h 0 u f O O; simp only [yt,Bool.and_eq_true] at this; exact this,ih.2 λk u' f' hu hf=>h (k+1) u' f' (by simpa using hu) (by simpa using hf)⟩
theorem aoB {n:List UInt8} {l:List aY} (h:vw n l=0):(l.map (·.name)).Nodup/\l.length<=16:=by
 unfold vw at h
 split at h
 · cases h
 · split at h
   · rename_i h1 h2
     simp only [Bool.and_eq_true,Bool.not_eq_true',Bool.or_eq_false_iff] at h2;exact ⟨o8.2 h2.2.1,by omega⟩
   · cases h
theorem aoC {m:bf} {fs:List (List UInt8×List aY)} (h:¬(ij m).2=0):cV m fs=(kz,(ij m).2):=by rw [cV,if_pos h]
theorem aoD {m:bf} {fs:List (List UInt8×List aY)} (h:(ij m).2=0) (h1:¬fs.length=m.ae.length):cV m fs=(kz,8):=by rw [cV,if_neg (by simp [h]),if_pos h1]
theorem aoE {m:bf} {fs:List (List UInt8×List aY)} (h:(ij m).2=0) (h1:fs.length=m.ae.length) (h2:rZ m.ae fs=false):cV m fs=(kz,1):=by rw [cV,if_neg (by simp [h]),if_neg (by simp [h1]),if_pos h2]
theorem RF {m:bf} {fs:List (List UInt8×List aY)} (h:(ij m).2=0) (h1:fs.length=m.ae.length) (h2:rZ m.ae fs=true) (h3:qh m fs≠0):cV m fs=(kz,qh m fs):=by rw [cV,if_neg (by simp [h]),if_neg (by simp [h1]),if_neg (by simp [h2]),if_pos h3]
theorem aoF {m:bf} {fs:List (List UInt8×List aY)} (h:(ij m).2=0) (h1:fs.length=m.ae.length) (h2:rZ m.ae fs=true) (h3:qh m fs=0):cV m fs=(Ca m fs,0):=by rw [cV,if_neg (by simp [h]),if_neg (by simp [h1]),if_neg (by simp [h2]),if_neg (by simp [h3])]
theorem aoG {m:bf} (h:(ij m).2=0):jS m=0/\ee ((ey m).map (·.name))=false/\ee m.ae=false:=by
 by_cases hc:jS m=0
 · by_cases h2:(ee ((ey m).map (·.name))||ee m.ae)=true
   · rw [aaF hc h2] at h; cases h
   · rw [Bool.not_eq_true,Bool.or_eq_false_iff] at h2
     exact ⟨hc,h2⟩
 · rw [aaE hc] at h; exact absurd h hc
theorem aa9 {l:List (List UInt8)} {k:Nat} {x:List UInt8} (hx:l[k]? = some x) (hn:x ∉ l.take k):bz st (dY x (.int .i64 ((k+1:Nat):Int)) (gm (l.take k) 0) k) (jB x (gm (l.take k) 0) k)=bz st (gm (l.take (k+1)) 0) (k+1):=by
 have av:=(List.getElem?_eq_some_iff.1 hx).1
 have hl:(l.take k).length=k:=by simp; omega
 have h:=VN hn;rw [hl] at h;rw [h.1,h.2,mA hx];simp [hl]
theorem aoH {l:List (List UInt8)} (h:l.Nodup) {k:Nat} {x:List UInt8} (hx:l[k]? = some x):x ∉ l.take k:=by
 intro hm;obtain ⟨j,hj⟩:=List.getElem?_of_mem hm
 have ku:j<k:=by have:=(List.getElem?_eq_some_iff.1 hj).1; simp at this; omega
 rw [List.getElem?_take,if_pos ku] at hj;have OR:=(List.getElem?_eq_some_iff.1 hj).1;have:=(List.getElem?_inj OR h).1 (hj.trans hx.symm);omega
theorem aoI {nm:List UInt8} {l:List (List UInt8)} (h:(mI nm l==0)=true):nm ∉ l:=by
 have:¬0<mI nm l:=by simp at h; omega
 exact zy.1 (Ra this)
theorem aoJ {l:List (List UInt8)} {k:Nat} {x:List UInt8} (hx:l[k]? = some x) (h:(mI x (l.take k)==0)=false):ee l=true:=by
 have dB:¬mI x (l.take k)=0:=by simpa using h
 have hp:0<mI x (l.take k):=by
   unfold mI at dB ⊢
   cases hi:idxOf x (l.take k) 0 with
   | none=>rw [hi] at dB; exact absurd rfl dB
   | some j=>simp only; omega
 obtain ⟨j,hj,_,av⟩:=Q_ hp;have h2:=(Cd hj).2
 have ku:j<k:=by simp at av; omega
 rw [Nat.sub_zero,List.getElem?_take,if_pos ku] at h2;exact Oc.2 ⟨k,j,(List.getElem?_eq_some_iff.1 hx).1,ku,by rw [hx,h2]⟩
theorem aoK {l:List (List UInt8)} {k:Nat} {x:List UInt8} (hx:l[k]? = some x) (hn:x ∉ l.take k) (h:(l.take k).Nodup):(l.take (k+1)).Nodup:=by
 rw [mA hx,List.nodup_append];exact ⟨h,by simp,λa ha b hb=>by rw [List.mem_singleton] at hb; subst hb; intro e; subst e; exact hn ha⟩
theorem aa' {m:bf} {fs:List (List UInt8×List aY)} {p:dO} (h:ee (p.params++p.ax)=true):tH m fs p=6:=by rw [tH,if_pos h]; rfl
theorem RG {m:bf} {fs:List (List UInt8×List aY)} {p:dO} (h:ee (p.params++p.ax)=false):tH m fs p=ew (gO m fs (p.params++p.ax)) p.body:=by rw [tH,if_neg (by simp [h])]; rfl
structure GP where
 i:Nat
 es:List XP
 a:Option Addr
 c:Nat
 J:View
 lb:Value
def Dw (m:bf) (c:SP) (n:Nat) (p:SP):List Value:=[st m.nm,.slice c.1 m.ae.length c.2,.int .i64 (B6 m),.slice p.1 n p.2,.slice none 0 0]
theorem aoL:Enters Tryz.prog 111:=enters_of Tryz.func111 (by kernel_rfl) rfl
theorem jJ:fg Tryz.prog 58=some 5:=by kernel_rfl
theorem RH:dQ Tryz.prog 182=some 2:=by kernel_rfl
theorem aa_:Enters Tryz.prog 114:=enters_of Tryz.func114 (by kernel_rfl) rfl
theorem aoM:fh Tryz.prog 209=some [(0,1),(1,1),(2,1),(3,1)]:=by kernel_rfl
theorem aoN:zeroOf Tryz.prog 209=some (.agg #[.map none,.map none,.slice none 0 0,.map none]):=by kernel_rfl
theorem aoO:Enters Tryz.prog 116:=enters_of Tryz.func116 (by kernel_rfl) rfl
theorem Hf:Enters Tryz.prog 112:=enters_of Tryz.func112 (by kernel_rfl) rfl
theorem aba:fk Tryz.prog 207 205 (.map none) 1 8:=iw (by kernel_rfl)
theorem aoP:cG Tryz.prog 207=some 1:=by kernel_rfl
theorem abb:Enters Tryz.prog 66:=enters_of Tryz.func66 (by kernel_rfl) rfl
theorem abc:cG Tryz.prog 64=some 1:=by kernel_rfl
theorem aoQ:fk Tryz.prog 251 22 (.slice none 0 0) 1 24:=iw (by kernel_rfl)
theorem aoR:Enters Tryz.prog 117:=enters_of Tryz.func117 (by kernel_rfl) rfl
theorem Dx:aZ Tryz.prog 58 3=some 3:=by kernel_rfl
theorem Hg:dV Tryz.prog 55=true:=by kernel_rfl
theorem abd:fh Tryz.prog 125=some [(0,1),(1,1),(2,1)]:=by kernel_rfl
theorem Hh:zeroOf Tryz.prog 125=some (.agg #[.int .i64 0,.int .i64 0,.slice none 0 0]):=by kernel_rfl
theorem abe:fk Tryz.prog 55 125 (.agg #[.int .i64 0,.int .i64 0,.slice none 0 0]) 3 40:=iw (by kernel_rfl)
theorem aoS:cG Tryz.prog 55=some 1:=by kernel_rfl
theorem RI:aZ Tryz.prog 58 4=some 4:=by kernel_rfl
theorem Hj (H HF:View) (ke ks:Nat) (r:mc) (m:bf) (fa:Option Addr) (fc:Nat) (fs:List (List UInt8×List aY)) (w:World) (hH:Le H w) (hHF:Le HF w) (hm:n6 ke ks H r m) (RJ:Sl Du 2 HF fa fc fs) (hb:wM m<=109951162777) :
   Calls Tryz.prog 100 #[.agg (gE m r).toArray,.slice fa fs.length fc] w λe w'=>∃r:kZ,e = .returned (.tuple #[.agg (fo (cV m fs).1 r).toArray,.int .i64 (cV m fs).2])/\Ext w w'/\k6 (ke+1) (ks+1) (nv w w') r (cV m fs).1:=by
 have awu:=RJ.cap;have awv:=RJ.max;refine Ny Tryz.func100 O 159 O O ?_;refine CE (Vs:=[HF,H]) (Ws.init (by simp [hHF,hH])) (Cs (Cr ?_));refine WL.box Y O O λb2=>?_;refine Al Y O uZ λb4=>?_;refine bI 0 (.cells (fo kz lL).toArray 58 (0,0)) O O ?_;refine Al Y O Lu λb5=>?_;refine bI 0 (.cells #[.int .i64 0] 29 (0,0)) O O (Ln (Et (Cs (Cs (Cr (V0 (bC 2 O O nH O) ?_))))));refine Ld Y O aoL O (λr:SP=>.tuple #[.agg #[st (ij m).1.1,.slice r.1 (ij m).1.2.length r.2],.int .i64 (ij m).2]) (λH r=>Sl mj 4 H r.1 r.2 (ij m).1.2) (λw hw=>anr H ke ks r m w (hw.vs _ (by simp)) hm hb) ?_;intro Aq pw K9 Dy;refine V0 (Ym O) (V0 (Yx O O) (V0 (Yx O O) ?_));refine Al Y O wA λb6=>?_;refine ak 0 Y O O O AJ O O O (V0 (Ya O) (Ln (Et (Cs (Cr (V0 (Ym O) (V0 (i' O O) (Ln (Et ?_)))))))));refine Cc O (λad=>?_) (λad=>?_)
 ·have he:¬(ij m).2=0:=by simpa using ad
  refine Cs (Cr (V0 (Yb uZ LR O O) (V0 (Ym O) (ak 2 Y O O O u0 O O O (ak 1 Y O O O pD O O O (Ln (Et (aw (Er ?_)))))))));refine WE.BN (gf O (cU 2 O O jJ O) (hZ 1 O O O jn)) λw' hw=>?_;rw [aoC he];exact ⟨lL,O,hw.fr,B9 _⟩
 have he:(ij m).2=0:=by simpa using ad
 obtain ⟨jQ,RL,Hk⟩:=aoG he;have ho:=mOk jQ;have RL:=o8.2 RL;have Hk:=o8.2 Hk;have ef:=ho.ef;have xu:=hm.ae.max;have yu:=hm.ae.cap;have xp:=hm.procs.max;have yp:=hm.procs.cap;have hwM:wM m=1+m.nm.length+wN m.ae+wD m.decls+wP m.procs+de m.main:=rfl;refine Ck (Et (Cs (Cs (Cr (V0 (Ym O) (V0 (Yn RH O) (V0 (Yf x5 O) (V0 (Yd 3 O O O eH) (V0 (Yn dA O) (V0 (i' O O) (Ln (Et ?_))))))))))));refine Cc O (λaq=>?_) (λaq=>?_)
 ·have Cp:¬fs.length=m.ae.length:=by simp at aq; omega
  refine Cs (Cr (V0 (Yb uZ LR O O) (ak 2 Y O O O u0 O O O (ak 1 Y O O O pD O O O (Ln (Et (aw (Er ?_))))))));refine WE.BN (gf O (cU 2 O O jJ O) (hZ 1 O O O jn)) λw' hw=>?_;rw [aoD he Cp];exact ⟨lL,O,hw.fr,B9 _⟩
 have wL:fs.length=m.ae.length:=by simp at aq; omega
 refine Ck (Et (Cs (Cr (V0 (ED O) ?_))));refine WL.defer Y O ?_;refine Ln (Et (Cs (Cr (V0 (bC 3 O O nH O) ?_))));refine Ld Y O aaG O (λr:SP=>.tuple #[.slice r.1 (ey m).length r.2,.int .i64 (B6 m)]) (λH r=>Sl mj 4 H r.1 r.2 (ey m)) (λw hw=>aaC H ke ks r m w (hw.vs _ (by simp)) hm ho) ?_;intro F36 KZ aww h36;refine V0 (Ym O) (V0 (Yx O O) (V0 (Yx O O) (V0 (Ya O) (V0 (Ya O) (Ln (Et (Cs (Cr (V0 (Ym O) ?_)))))))));refine Ld Y O aa_ O (λb:Nat=>.map (some b)) (λH b=>H b=some (bz st (ik (ey m) 0) (ey m).length)) (λw hw=>aaM F36 KZ.1 KZ.2 (ey m) w (hw.vs _ (by simp)) h36 RL) ?_;intro AT uz awx h40;refine WL.tz st Y O λwz=>?_;refine bI 0 (bz st (gm (m.ae.take 0) 0) 0) O O (V0 (Yb aoN aoM O O) ?_);refine WL.box Y O O λfY=>?_;refine LW (λ_ h=>h.fj 205 1) ?_;refine WL.v0 ?_;refine V0 (Ya O) (Ln (Et (Cs (Cs (Cr (V0 (Ym O) (V0 (Yn RH O) (V0 (Ym O) (Ln (Et (Cb ?_)))))))))));refine ct (ι:=GX XM) (λg=>[(46,.int .i64 (g.i:Int))]) [(2,_),(4,_),(5,_),(9,_),(10,_),(44,_),(45,_)] (λg=>Ws w [] [ab fY (.cells #[.map (some uz),.map (some wz),.slice g.a g.es.length g.c,.map none] 209 (0,0)),ab wz (bz st (gm (m.ae.take g.i) 0) g.i),bj 205 1 XM.cells g.a g.c g.es,ab b5 (.cells #[.int .i64 0] 29 (0,0)),ab b4 (.cells (fo kz lL).toArray 58 (0,0)),ab b2 (.cells (gE m r).toArray 174 (0,0))] [g.J,AT,HF,H]) (λg=>g.i<=fs.length/\g.es.map (·.1)=(fs.take g.i).map (·.2)/\(∀(k:Nat) u f,k<g.i->m.ae[k]? = some u->fs[k]? = some f->yt u f=true)/\(eU w g.J/\Xs Dv g.J g.es)) (λg=>fs.length-g.i) ⟨0,[],none,0,v0⟩ ⟨Nat.zero_le _,O,λk u f hk=>absurd hk (Nat.not_lt_zero k),⟨xD w,Xs.nil _⟩⟩ (sc O (sc O (sc O (sc O (sc O (sc O (sc O (sc O sn)))))))) (λ_ h=>by have h:=h.ar 6 O; have h:=h.ar 6 O; have h:=h.ar 6 O; have h:=h.ar 3 O; have h:=h.ar 5 O; have h:=h.ar 5 O; have h:=Wt 6 h; have h:=Ws.bB h (bc:=[v0,AT,HF,H]) (by simp); exact h) ?_;intro g ⟨hi,lx,aA,⟨mD,hX⟩⟩;refine Cs (Cr (V0 (a_ O O) (Ln (Et (Cs ?_)))));refine Cc O (λay=>?_) (λay=>?_)
 ·have av:g.i<fs.length:=by simpa using ay
  obtain ⟨f,LV⟩:∃f,fs[g.i]? = some f:=⟨_,List.getElem?_eq_getElem av⟩;obtain ⟨pbf,pof,haf,rf,hrf,abg⟩:=RJ.aO g.i f LV;obtain ⟨u,ui⟩:∃u,m.ae[g.i]? = some u:=⟨_,List.getElem?_eq_getElem (by omega)⟩;obtain ⟨LX,LY,RM,AU⟩:=hm.ae.aO g.i u ui;have AU:aP H LX (LY+g.i*1) (dJ u):=AU;have xI:=LL lx hi;refine Ck (Et (Cs (Cb (Cs (Cr (V0 (Ym O) (V0 (Yo RH O O haf (by omega)) (V0 (cF 2 AK O O O (hrf)) ?_))))))));refine Al Y O wA λkN=>?_;refine V0 (Ya O) (ak 0 Y O O O AJ O O O (Ln (Et (Cs ?_))));refine WC.IY (mY [.cell 4 58,.cell 5 29]) [] [(0,true),(1,false),(2,true),(3,true),(4,true),(5,true),(6,true),(7,true),(8,true),(9,true),(10,true),(11,true),(12,true),(13,false)] mixed (by kernel_rfl) (by kernel_rfl) (λ_ _ _ _ _ hd h=>rK (fn:=Tryz.f100) [.cell 4 58,.cell 5 29] O hd h) ?_;refine D0 O (λ_ h=>h) (bC 0 O O AK O) ?_;refine De O (λ_ h=>h) ?_;refine Lp Y O aoO O (λw hw=>am2 HF rf.1 rf.2 f.1 f.2 w (hw.vs _ (by simp)) abg) (Ln (Ed (D0 O (λ_ h=>h) (aF O O) (D0 O (λ_ h=>h) (Ym O) ?_))));apply WD.and 8 O O O O O Y O (λ_ h=>h) O O O O
  ·intro cD;refine Dq O (.g O O O) O (λ_ h=>h) (Yf QZ O) (Dq O (.g O O O) O (λ_ h=>h) (Yd 0 O O O cO) (Dq O (.g O O O) O (λ_ h=>h) (Yf x5 O) (Dq O (.g O O O) O (λ_ h=>h) (Yd 6 O O O eH) (Dq O (.g O O O) O (λ_ h=>h) (Ym O) (Dq O (.g O O O) O (λ_ h=>h) (Yo dA O O RM (by omega)) (Dq O (.g O O O) O (λ_ h=>h) (bL 3 cO O O (AU 0 _ O)) (Dq O (.g O O O) O (λ_ h=>h) (yW O O) ?_)))))));exact Gi 8 (λ_ h=>h) O O O
  refine De O (λ_ h=>h) ?_;refine WL.mf (ι:=Unit) (κ:=Unit) Y O wG O (λ_=>.tuple #[]) (λ_=>yt u f=true) (λ_=>gJ 1) (λ_=>yt u f=false) (λw hw=>wH _ _ w) ?_ ?_
  ·intro _ hp;refine Ep (Ep (WE.aS (Ep (Ep (WE.aS (Ep ?_))))));refine WE.front 4 O ?_;refine WE.front 5 O ?_;refine WE.tv Hf (p4 [_,_] _ [ab b4 (.cells (fo kz lL).toArray 58 (0,0)),ab b5 (.cells #[.int .i64 1] 29 (0,0))] O (λw hw=>LU b4 b5 (fo kz lL) O 0 1 w hw)) (gf O (cU 0 O O jJ O) (hZ 1 O O O jn)) λw' hw=>?_
   have dW:rZ m.ae fs=false:=by
     rw [Bool.eq_false_iff];intro h;have:=RE.1 h g.i u f ui LV;rw [hp] at this; cases this
   rw [aoE he wL dW];exact ⟨lL,O,hw.fr,B9 _⟩
  intro _ aoY;refine Ln (Ed ?_);refine WD.nil (λ_ h=>h) ?_;refine Et (Cs ?_);have hof:yt u f=true:=aoY;have abi:=hof;simp only [yt,Bool.and_eq_true,beq_iff_eq] at abi;obtain ⟨hfe,RO⟩:=abi;obtain ⟨RP,nZ⟩:=aoB hfe
  have oY:f.1 ∉ m.ae.take g.i:=by rw [RO]; exact aoH Hk ui
  refine WC.IY (mY [.cell 4 58,.cell 5 29]) [2] [(0,true),(1,true),(2,true),(3,true),(4,true),(5,true),(6,true),(7,true),(8,false)] mixed (by kernel_rfl) (by kernel_rfl) (λ_ _ _ _ _ hd h=>rK (fn:=Tryz.f100) [.cell 4 58,.cell 5 29] O hd h) ?_;refine D0 O (Wp 2) (Ym O) (D0 O (Wp 2) (aQ O) (D0 O (Wp 2) (Yf aaV O) (D0 O (Wp 2) (Yd 1 O O O G8) (D0 O (Wp 2) (Yf QZ O) (D0 O (Wp 2) (Yd 0 O O O cO) (D0 O (Wp 2) (Ym O) (D0 O (Wp 2) (Yi O O O (by omega)) ?_)))))));refine De O (Wp 2) ?_;refine WL.xy 2 jR Y jI eF O O O O ?_;refine bI 2 (bz st (gm (m.ae.take (g.i+1)) 0) (g.i+1)) O (by rw [RO]; exact aa9 ui (RO▸oY)) (Ln (Ed ?_));refine WD.nil (Wp 2) ?_;refine Et ?_;refine CU (mY [.cell 4 58,.cell 5 29]) [3] [10,11,12] (.q false 0 (.q false 1 (.q false 2 (.q false 3 (.q true 4 (.q false 5 (.q true 6 (.e 7 (.e 8 (.e 9 .nil .stop) .stop) .stop)))))))) mixed (by kernel_rfl) (λ_ _ _ _ _ hd h=>rK (fn:=Tryz.f100) [.cell 4 58,.cell 5 29] O hd h) ?_;refine U0 O (Wp 3) (Ym O) (U0 O (Wp 3) (Ym O) (U0 O (Wp 3) (aQ O) (U0 O (Wp 3) (Yf Rd O) (U0 O (Wp 3) (Yd 1 O O O aaW) (U0 O (Wp 3) (Yf G0 O) (U0 O (Wp 3) (Yd 0 O O O Lz) ?_))))));refine Ue O (Wp 3) ?_ WU.stop;refine Ld Y O aa_ O (λb:Nat=>.map (some b)) (λH b=>H b=some (bz st (ik f.2 0) f.2.length)) (λw hw=>aaM HF rf.1 rf.2 f.2 w (hw.vs _ (by simp)) abg RP) ?_;intro F80 RQ ao0 Ry;refine Ln (Eu ?_);refine Ue O (λ_ h=>(Wv 1 (Wo 3 h):)) ?_ WU.stop;refine Lb Y O aba O O O O λb81=>?_;refine bI 0 (.cells (XM.cells (f.2,RQ)).toArray 205 (0,0)) O (O) (Ln (Eu ?_));refine Ue O (λ_ h=>(Wv 1 (Wo 3 (Wd 1 h)):)) ?_ WU.stop;refine LA ((f.2,RQ):XM) 4 0 Y O aba O O O O O O (by omega) (by omega) λa82 c82=>?_;refine Ln (Eu ?_);refine WU.nil (λ_ h=>(Wv 1 (Wo 3 (Wd 1 h)):)) ?_;refine WS.e O ?_;refine V0 (aQ O) (Ln (Es ?_));refine WS.e O ?_;refine V0 (Yf Rd O) (Ln (Es ?_));refine WS.e O ?_;refine ak 2 Y O O O aoP O O O (Ln (Es ?_));refine WS.nil ?_;refine Eb (Et ?_);refine WC.n8 λJ80 ao4 ao5 ao6=>?_;refine Cr (V0 (Yi O O O (by omega)) (V0 (Ym O) (Ln ?_)))
  exact Ea (⟨g.i+1,g.es++[(f.2,RQ)],a82,c82,J80⟩:GX XM) (by show _-(g.i+1)<_; omega) ⟨(by show g.i+1<=_; omega),LK lx LV O,λk u2 f2 hk Hl Hm=>by
      rcases Nat.lt_succ_iff_lt_or_eq.1 hk with h | rfl
      · exact aA k u2 f2 h Hl Hm
      · rw [ui] at Hl; rw [LV] at Hm; injection Hl with Hl; injection Hm with Hm; subst Hl; subst Hm; exact hof,⟨ao6 _ ao0 mD,Xs.snoc (R:=Dv) (λhv h=>Dv.mv hv h) hX ao5 ao4 Ry⟩⟩ (sc rfl (sc rfl (sc rfl (sc rfl (sc rfl (sc rfl (sc rfl (sc rfl sn)))))))) (λ_ h=>Wd 2 h)
 have u1:g.i=fs.length:=by simp at ay; omega
 have LZ:rZ m.ae fs=true:=RE.2 λk u f hu hf=>aA k u f (by have:=(List.getElem?_eq_some_iff.1 hf).1; omega) hu hf;have L0:=LM lx u1
 have ao7:m.ae.take g.i=m.ae:=by rw [u1,wL,List.take_length]
 have ao8:g.i=m.ae.length:=by rw [u1,wL]
 rw [ao7,ao8];refine Ce (Ex (Ex (bK (Et (Cs ?_)))));refine WC.p8 (rd:=aoA) 2 O XM.aX (λ_ _ _ _ h=>h) λKF hKF=>?_;refine WC.IY (mY [.cell 4 58,.cell 5 29]) [3] [(0,true),(1,true),(2,true),(3,true),(5,true),(4,false),(6,true),(7,false)] mixed (by kernel_rfl) (by kernel_rfl) (λ_ _ _ _ _ hd h=>rK (fn:=Tryz.f100) [.cell 4 58,.cell 5 29] O hd h) ?_;refine D0 O (Wp 3) (Yf Pu O) (D0 O (Wp 3) (Yd 3 O O O cO) (D0 O (Wp 3) (Yf x5 O) (D0 O (Wp 3) (Yd 3 O O O eH) (D0 O (Wp 3) (Ym O) ?_))));refine De O (Wp 3) ?_;refine Ld Y O abb O (λr:SP=>.slice r.1 m.ae.length r.2) (λF r=>Sl rdStr 1 F r.1 r.2 m.ae) (λw hw=>aa8 H r.a1 r.c1 m.ae w (hw.vs _ (by simp)) hm.ae (by omega)) ?_;intro RR u3 ao9 h90;refine Ln (Ed (D0 O (λ_ h=>(Wv 1 (Wo 3 h):)) (Yb uZ LR O O) ?_));refine De O (λ_ h=>(Wv 1 (Wo 3 h):)) ?_;refine ak 3 Y O O O u0 O O O (Ln (Ed ?_));refine WD.nil (λ_ h=>(Wv 1 (Wo 3 h):)) ?_;refine Et (Cs (Cs (eY 3 (.cells (Dw m u3 ([]:List XP).length (none,0)).toArray 58 (0,0)) O O ?_)));refine nP (λ_ h=>h.fj 125 3) ?_;refine nP (λ_ h=>h.v0) ?_;refine Cr (V0 (Yf zV O) (V0 (Yd 5 O O O CZ) (V0 (Yn vW O) (V0 (Ym O) (Ln (Et (Cb ?_)))))));refine ct (ι:=GP) (λz=>[(96,.int .i64 (z.i:Int))]) [(2,_),(4,_),(5,_),(10,_),(94,_),(95,_)] (λz=>Ws w [] [ab fY (.cells #[.map (some uz),.map (some wz),.slice g.a g.es.length g.c,z.lb] 209 (0,0)),ab wz (bz st (gm m.ae 0) m.ae.length),bj 125 3 XP.cells z.a z.c z.es,ab b5 (.cells #[.int .i64 0] 29 (0,0)),ab b4 (.cells (Dw m u3 z.es.length (z.a,z.c)).toArray 58 (0,0)),ab b2 (.cells (gE m r).toArray 174 (0,0))] [z.J,RR,KF,g.J,AT,HF,H]) (λz=>z.i<=m.procs.length/\z.es.map (·.1)=(m.procs.take z.i).map (E7 m fs)/\iC (tH m fs) (m.procs.take z.i)=0/\(eU w z.J/\Xs (xK (ke+1) (ks+1)) z.J z.es)) (λz=>m.procs.length-z.i) ⟨0,[],none,0,v0,.map none⟩ ⟨Nat.zero_le _,O,O,⟨xD w,Xs.nil _⟩⟩ (sc O (sc O (sc O (sc O (sc O (sc O (sc O sn))))))) (λ_ h=>by have h:=h.ar 5 O; have h:=h.ar 5 O; have h:=h.ar 5 O; have h:=h.ar 3 O; have h:=h.ar 5 O; have h:=h.ar 5 O; have h:=Ws.bB h (bc:=[v0,RR,KF,g.J,AT,HF,H]) (by simp); exact h) ?_;intro z ⟨QX,RS,L3,⟨abk,hX2⟩⟩;refine Cs (Cr (V0 (a_ O O) (Ln (Et (Cs ?_)))));refine Cc O (λaJ=>?_) (λaJ=>?_)
 ·have av:z.i<m.procs.length:=by simpa using aJ
  obtain ⟨p,lU⟩:∃q,m.procs[z.i]? = some q:=⟨_,List.getElem?_eq_getElem av⟩;obtain ⟨zW,pop,mV,zX⟩:=hm.procs.aO z.i p lU;obtain ⟨zY,zZ,z1,z6,C3,C4,bQ,kG,jG,lp⟩:=zX;have op:=okP (ho.procs p (List.mem_of_getElem? lU));have awB:=op.ef;have Pq:=YC lU;have hx1:=kG.max;have hy1:=kG.cap;have hx2:=jG.max;have L4:=jG.cap;have awD:=LL RS QX;refine Ck (Et (Cs (Cb (Cs (Cr (V0 (Yo vW O O mV (by omega)) (V0 (cF 6 C0 O O O (bQ)) ?_)))))));refine Al Y O x6 λz_=>?_;refine ak 0 Y O O O C1 O O O (Ln (Et (Cs (Cr (V0 (Ym O) ?_)))));refine WL.tz st Y O λqL=>?_;refine bI 0 (bz st (gm ((p.params++p.ax).take 0) 0) 0) O O (V0 (aQ O) (V0 (Yf G7 O) (ak 2 Y O O O abc O O O (Ln (Et (Cs (Cs (Cr (V0 (Yf uo O) (V0 (Yd 1 O O O eH) (V0 (Yf C2 O) ?_)))))))))));refine V0 (Yd 1 O O O eH) ?_;refine Lb Y O aoQ O O O O λRT=>?_
  refine Ld Y O aoR O (λr:SP=>.slice r.1 (p.params++p.ax).length r.2) (λF r=>Sl rdStr 1 F r.1 r.2 (p.params++p.ax)) (λw hw=>by
      have wJ:Sl AR 1 (hv w) (some ⟨RT,0,none⟩) 2 [((zY,zZ),p.params),((z1,z6),p.ax)]:=⟨by simp,by decide,by simp,λj x hj=>⟨RT,0,rfl,by
        match j,hj with
        | 0,hj=>simp only [List.getElem?_cons_zero,Option.some.injEq] at hj; subst hj; exact ⟨hw.hP 0 rfl rfl,kG.imp λb o x hx=>BX (mW (hw.vs H (by simp))) b o x hx⟩
        | 1,hj=>simp only [List.getElem?_cons_succ,List.getElem?_cons_zero,Option.some.injEq] at hj; subst hj; exact ⟨hw.hP 0 rfl rfl,jG.imp λb o x hx=>BX (mW (hw.vs H (by simp))) b o x hx⟩⟩⟩
      have hc:=aoy (hv w) (some ⟨RT,0,none⟩) 2 _ w (ix w) wJ (by simp [eS]; omega) (by simp);rw [show [((zY,zZ),p.params),((z1,z6),p.ax)].flatMap (·.2)=p.params++p.ax by simp] at hc
      exact hc) ?_
  intro abm abn ao_ RU;refine V0 (Yn dA O) (V0 (Ym O) (Ln (Et (Cb ?_))));refine ct (ι:=Nat) (λj=>[(111,.int .i64 (j:Int))]) [(2,_),(4,_),(5,_),(10,_),(14,_),(94,_),(95,_),(96,_),(109,_),(110,_)] (λj=>Ws w [] [ab fY (.cells #[.map (some uz),.map (some wz),.slice g.a g.es.length g.c,.map (some qL)] 209 (0,0)),ab qL (bz st (gm ((p.params++p.ax).take j) 0) j),ab z_ (.cells (NZ p zY zZ z1 z6 C3 C4).toArray 213 (0,0)),ab wz (bz st (gm m.ae 0) m.ae.length),bj 125 3 XP.cells z.a z.c z.es,ab b5 (.cells #[.int .i64 0] 29 (0,0)),ab b4 (.cells (Dw m u3 z.es.length (z.a,z.c)).toArray 58 (0,0)),ab b2 (.cells (gE m r).toArray 174 (0,0))] [abm,z.J,RR,KF,g.J,AT,HF,H]) (λj=>j<=(p.params++p.ax).length/\((p.params++p.ax).take j).Nodup) (λj=>(p.params++p.ax).length-j) 0 ⟨Nat.zero_le _,List.nodup_nil⟩ (sc O (sc O (sc O (sc O (sc O (sc O (sc O (sc O (sc O (sc O (sc O sn))))))))))) (λ_ h=>by exact (Wt 8 ((((((((h.f 8 O).f 8 O).f 8 O).f 8 O).f 8 O).f 7 O).f 7 O).f 8 O):)) ?_;intro j ⟨hj,vf⟩;refine Cs (Cr (V0 (a_ O O) (Ln (Et (Cs ?_)))));refine Cc O (λaU=>?_) (λaU=>?_)
  ·have av:j<(p.params++p.ax).length:=by simp only [decide_eq_true_eq] at aU; omega
   obtain ⟨s,fy⟩:∃q,(p.params++p.ax)[j]? = some q:=⟨_,List.getElem?_eq_getElem av⟩;obtain ⟨pH,pos,has,gK⟩:=RU.aO j s fy;have gK:aP abm pH (pos+j*1) (dJ s):=gK;have NH:=RU.cap;have Dz:=RU.max;refine Ck (Et (Cs (Cb (Cs (Cr (V0 (Ym O) (V0 (Yo dA O O has (by omega)) (V0 (bL 0 cO O O (gK 0 _ O)) (V0 (Ya O) (V0 (Ya O) (Ln (Et (Cs (Cr (V0 (Ym O) ?_)))))))))))))));refine V0 (aQ O) (V0 (Yf G7 O) (V0 (Yd 0 O O O G8) (V0 (Ym O) (V0 (BW 1 jR jI eF oM O O O) ?_))));rw [Q9];refine V0 (aF O O) ?_;refine WL.mf (ι:=Unit) (κ:=Unit) Y O wG O (λ_=>.tuple #[]) (λ_=>(mI s ((p.params++p.ax).take j)==0)=true) (λ_=>gJ 6) (λ_=>(mI s ((p.params++p.ax).take j)==0)=false) (λw hw=>wH _ _ w) ?_ ?_
   ·intro _ hp;refine Ep (WE.aS (Ep (Ep (WE.aS (Ep (WE.aS (Ep ?_)))))));refine Ep (WE.aS (Ep ?_));refine WE.front 5 O ?_;refine WE.front 6 O ?_;refine WE.tv Hf (p4 [_,_] _ [ab b4 (.cells (fo kz lL).toArray 58 (0,0)),ab b5 (.cells #[.int .i64 6] 29 (0,0))] O (λw hw=>LU b4 b5 (Dw m u3 z.es.length (z.a,z.c)) O 0 6 w hw)) (gf O (cU 0 O O jJ O) (hZ 1 O O O jn)) λw' hw=>?_;have ht:=aoJ fy hp
    have hE:qh m fs=6:=by rw [qh,E6 (tH m fs) lU L3 (by rw [aa' ht]; decide),aa' ht]; rfl
    rw [RF he wL LZ (by rw [hE]; decide),hE];exact ⟨lL,O,hw.fr,B9 _⟩
   intro _ apa;have oY:=aoI apa;refine Ln (Et (Cr (V0 (Ym O) (V0 (aQ O) (V0 (Yf G7 O) (V0 (Yd 0 O O O G8) (V0 (Ym O) (V0 (Ym O) (V0 (Yi O O O (by omega)) ?_)))))))));refine WL.xy 1 jR Y jI eF O O O O ?_;refine bI 1 (bz st (gm ((p.params++p.ax).take (j+1)) 0) (j+1)) O (aa9 fy oY) (Ln (Eb (Et (Cr (V0 (Yi O O O (by omega)) (V0 (Ym O) (Ln ?_)))))));exact Ea (j+1) (by omega) ⟨by omega,aoK fy oY vf⟩ (sc O (sc O (sc O (sc O (sc O (sc O (sc O (sc O (sc O (sc O (sc O sn))))))))))) (λ_ h=>h)
  have hjn:j=(p.params++p.ax).length:=by simp only [decide_eq_false_iff_not] at aU; omega
  have Hn:ee (p.params++p.ax)=false:=o8.1 (by rw [hjn,List.take_length] at vf; exact vf);rw [hjn,List.take_length];refine Ce (Ex (Ex (bK (Et ?_))));refine CU (mY [.cell 4 58,.cell 5 29]) [4] [15,16] (.q false 0 (.q true 1 (.q false 2 (.q true 3 (.q false 4 (.q false 5 (.q true 6 (.q false 7 (.q false 8 (.q false 9 (.q true 10 (.e 11 (.q false 12 (.e 13 (.e 14 .nil .stop) .stop)) .stop)))))))))))) mixed (by kernel_rfl) (λ_ _ _ _ _ hd h=>rK (fn:=Tryz.f100) [.cell 4 58,.cell 5 29] O hd h) ?_;refine U0 O (Wp 4) (Yf Dx O) (U0 O (Wp 4) (Yd 5 O O O Hg) (U0 O (Wp 4) (Yf uo O) (U0 O (Wp 4) (Yd 2 O O O eH) (U0 O (Wp 4) (Yn dA O) (U0 O (Wp 4) (Yf C2 O) (U0 O (Wp 4) (Yd 2 O O O eH) (U0 O (Wp 4) (Yn dA O) ?_)))))));refine U0 O (Wp 4) (Ym O) (U0 O (Wp 4) (Yf Pv O) (U0 O (Wp 4) (Yd 2 O O O nB) ?_));refine Ue O (Wp 4) ?_ WU.stop
  refine WL.xF (ι:=SP) (κ:=Unit) Y O LP O (λr=>.slice r.1 (iM (gO m fs (p.params++p.ax)) p.body).length r.2) (λF r=>ew (gO m fs (p.params++p.ax)) p.body=0/\Sl (iA (ke+1) (ks+1)) 7 F r.1 r.2 (iM (gO m fs (p.params++p.ax)) p.body)) (λ_=>gJ (ew (gO m fs (p.params++p.ax)) p.body)) (λ_=>ew (gO m fs (p.params++p.ax)) p.body≠0) (λw hw=>by
      have hS:wC (hv w) fY (gO m fs (p.params++p.ax)):=⟨⟨uz,wz,g.a,g.c,qL,⟨hw.hP 0 rfl rfl,hw.hP 0 rfl rfl,by show vc (hv w) fY 2=some (.slice g.a (fs.map (·.2)).length g.c); rw [<-L0,List.length_map]; exact IS (hw.n_ 0 rfl) rfl,hw.hP 0 rfl rfl⟩,hw.vs AT (by simp) _ _ h40,hw.n_ 3 rfl,by show Sl Q8 1 (hv w) g.a g.c (fs.map (·.2)); rw [<-L0]; exact B' hKF hX λb o e h1 h2=>⟨e.2,(mW (hw.vs KF (by simp))).cell (h1 0 _ rfl),hw.vs g.J (by simp) _ _ h2⟩,hw.n_ 1 rfl⟩,Hk,by show m.ae.length=(fs.map (·.2)).length; rw [List.length_map,wL],⟨ho.ef.1,by show (p.params++p.ax).length<=7; rw [List.length_append]; omega⟩⟩
      exact aa6 (hv w) H fY (gO m fs (p.params++p.ax)) ke hS ks p.body C3 C4 w (ix w) (hw.vs H (by simp)) lp (by omega)) ?_ ?_
  ·intro _ hp;refine Ep (WE.aS (Ep (Ep (WE.aS (Ep ?_)))));refine WE.front 5 O ?_;refine WE.front 6 O ?_;refine WE.tv Hf (p4 [_,_] _ [ab b4 (.cells (fo kz lL).toArray 58 (0,0)),ab b5 (.cells #[.int .i64 (ew (gO m fs (p.params++p.ax)) p.body)] 29 (0,0))] O (λw hw=>LU b4 b5 (Dw m u3 z.es.length (z.a,z.c)) O 0 (ew (gO m fs (p.params++p.ax)) p.body) w hw)) (gf O (cU 0 O O jJ O) (hZ 1 O O O jn)) λw' hw=>?_
   have hE:qh m fs=ew (gO m fs (p.params++p.ax)) p.body:=by rw [qh,E6 (tH m fs) lU L3 (by rw [RG Hn]; exact hp),RG Hn,vz hp]
   rw [RF he wL LZ (by rw [hE]; exact hp),hE];exact ⟨lL,O,hw.fr,B9 _⟩
  intro awE RV apb ⟨apc,apd⟩;refine Ln (Eu (U0 O (λ_ h=>(Wv 1 (Wo 4 h):)) (Yb Hh abd O O) ?_));refine Ue O (λ_ h=>(Wv 1 (Wo 4 h):)) ?_ WU.stop;refine Lb Y O abe O O O O λawF=>?_;refine bI 0 (.cells (XP.cells (E7 m fs p,RV)).toArray 125 (0,0)) O (O) (Ln (Eu ?_));refine Ue O (λ_ h=>(Wv 1 (Wo 4 (Wd 1 h)):)) ?_ WU.stop;refine LA (((E7 m fs p,RV):XP)) 5 0 Y O abe O O O O O O (by omega) (by omega) λa146 c146=>?_;refine Ln (Eu ?_);refine WU.nil (λ_ h=>(Wv 1 (Wo 4 (Wd 1 h)):)) ?_;refine WS.e O ?_;refine V0 (Yf Dx O) (Ln (Es ?_));refine WS.e O ?_;refine ak 7 Y O O O aoS O O O (Ln (Es ?_));refine WS.nil ?_;refine Eb (Et ?_);refine WC.n8 λJx jxa jxb jxf=>?_;refine WC.n8 λapg aph api apj=>?_;refine Cr (V0 (Yi O O O (by omega)) (V0 (Ym O) (Ln ?_)));exact Ea (⟨z.i+1,z.es++[(E7 m fs p,RV)],a146,c146,apg,.map (some qL)⟩:GP) (by show _-(z.i+1)<_; omega) ⟨(by show z.i+1<=_; omega),LK RS lU O,(by show iC (tH m fs) (m.procs.take (z.i+1))=0; rw [Oh _ lU,L3,nk,RG Hn,apc]),⟨apj _ (jxf _ apb ao_) abk,Xs.snoc (R:=xK _ _) (λhv h=>xK.mv hv h) hX2 api (aN.trans jxa aph) apd⟩⟩ (sc O (sc O (sc O (sc O (sc O (sc O (sc O sn))))))) (λ_ h=>by exact (Wt 6 ((((((h.f 8 O).f 8 O).f 8 O).f 8 O).f 8 O).f 6 O):))
 have hqi:z.i=m.procs.length:=by simp at aJ; omega
 have apk:=LM RS hqi
 have abq:iC (tH m fs) m.procs=0:=by rw [<-L3,hqi,List.take_length]
 have hU:Ca m fs=⟨m.nm,m.ae,B6 m,z.es.map (·.1),iM (gO m fs []) m.main⟩:=by rw [apk]; rfl
 refine Ce (Ex (Ex (bK (Et (Cs (Cr (V0 (Ym O) ?_)))))));refine WL.tz st Y O λapl=>?_;refine V0 (aQ O) (V0 (Yf G7 O) (ak 1 Y O O O abc O O O (Ln (Et (Cs (Cr (V0 (Ym O) (V0 (Yf Pw O) (V0 (Yd 6 O O O nB) ?_)))))))))
 refine WL.xF (ι:=SP) (κ:=Unit) Y O LP O (λr=>.slice r.1 (iM (gO m fs []) m.main).length r.2) (λF r=>ew (gO m fs []) m.main=0/\Sl (iA (ke+1) (ks+1)) 7 F r.1 r.2 (iM (gO m fs []) m.main)) (λ_=>gJ (ew (gO m fs []) m.main)) (λ_=>ew (gO m fs []) m.main≠0) (λw hw=>by
     have hS:wC (hv w) fY (gO m fs []):=⟨⟨uz,wz,g.a,g.c,apl,⟨hw.hP 1 rfl rfl,hw.hP 1 rfl rfl,by show vc (hv w) fY 2=some (.slice g.a (fs.map (·.2)).length g.c); rw [<-L0,List.length_map]; exact IS (hw.n_ 1 rfl) rfl,hw.hP 1 rfl rfl⟩,hw.vs AT (by simp) _ _ h40,hw.n_ 2 rfl,by show Sl Q8 1 (hv w) g.a g.c (fs.map (·.2)); rw [<-L0]; exact B' hKF hX λb o e h1 h2=>⟨e.2,(mW (hw.vs KF (by simp))).cell (h1 0 _ rfl),hw.vs g.J (by simp) _ _ h2⟩,hw.n_ 0 rfl⟩,Hk,by show m.ae.length=(fs.map (·.2)).length; rw [List.length_map,wL],⟨ho.ef.1,by show (0:Nat)<=7; omega⟩⟩
     exact aa6 (hv w) H fY (gO m fs []) ke hS ks m.main r.a4 r.c4 w (ix w) (hw.vs H (by simp)) hm.main (by omega)) ?_ ?_
 ·intro _ hp;refine Ep ?_;refine WE.front 4 O ?_;refine WE.front 5 O ?_;refine WE.tv Hf (p4 [_,_] _ [ab b4 (.cells (fo kz lL).toArray 58 (0,0)),ab b5 (.cells #[.int .i64 (ew (gO m fs []) m.main)] 29 (0,0))] O (λw hw=>LU b4 b5 (Dw m u3 z.es.length (z.a,z.c)) O 0 (ew (gO m fs []) m.main) w hw)) (gf O (cU 0 O O jJ O) (hZ 1 O O O jn)) λw' hw=>?_
  have hE:qh m fs=ew (gO m fs []) m.main:=by rw [qh,abq,nk]
  rw [RF he wL LZ (by rw [hE]; exact hp),hE];exact ⟨lL,O,hw.fr,B9 _⟩
 intro awH L5 apm ⟨apn,apo⟩;refine V0 (Yf RI O) (ak 5 Y O O O Rm O O O (Ln (Et (Cs ?_))));refine WC.p_ (rd:=VD) 3 O (λ_ hk=>by cases hk) XP.aX (λ_ _ _ _ h=>h) λKP GB GC=>?_;refine eY 4 (.cells (fo (Ca m fs) ⟨u3,(z.a,z.c),L5⟩).toArray 58 (0,0)) O (by rw [hU]; show Obj.cells _ _ _=Obj.cells (fo _ _).toArray _ _; simp only [fo,List.length_map]; rfl) (Cr (V0 (bC 4 O O jJ O) (ak 4 Y O O O u0 O O O (ak 3 Y O O O pD O O O (Ln (Et (aw ?_)))))));refine WE.front 3 O ?_;refine WE.front 4 O ?_;refine WE.Us Hf (p4 [_,_] _ [ab b4 (.cells (fo (Ca m fs) ⟨u3,(z.a,z.c),L5⟩).toArray 58 (0,0)),ab b5 (.cells #[.int .i64 0] 29 (0,0))] O (λw hw=>aoz b4 b5 (fo (Ca m fs) ⟨u3,(z.a,z.c),L5⟩) O 0 0 w hw)) (gf O (cU 0 O O jJ O) (hZ 1 O O O jn)) λw' hw=>?_;rw [aoF he wL LZ (by rw [qh,abq,nk,apn])];exact ⟨⟨u3,(z.a,z.c),L5⟩,O,hw.fr,⟨wq h90 (bJ hw (by simp) ao9),by rw [hU]; exact afu GC (bJ hw (by simp) GB) (bJ hw (by simp) abk) hX2,zx apo (bJ hw (by simp) apm)⟩⟩
structure RAt where
 ma:mc
 fa:SP
 oa:SP
 na:SP
structure awI (HS:View) (m:bf) (fs:List (List UInt8×List aY)) (ns:List (List UInt8)) (q:RAt):Prop where
 ae:Sl rdStr 1 HS q.ma.a1 q.ma.c1 m.ae
 xL:Sl Du 2 HS q.fa.1 q.fa.2 fs
 own:Sl mj 4 HS q.oa.1 q.oa.2 (ey m)
 names:Sl rdStr 1 HS q.na.1 q.na.2 ns
 len:m.ae.length=fs.length
structure GQ where
 i:Nat
 es:List XP
 a:Option Addr
 c:Nat
 J:View
 ns:List (List UInt8)
 na:SP
theorem L6 {H N:View} (hv:aN H N) {a:Option Addr} {c:Nat} {l:List aY} (h:Sl mj 4 H a c l):Sl mj 4 N a c l:=h.imp λb o x hx=>afl hv b o x hx
def iU:bf:=(⟨[99,110,116],[],[(⟨1,[107],true,3⟩:bS),(⟨2,[115,117,109],true,0⟩:bS),(⟨3,[116],true,4⟩:bS)],[(⟨[100,111,119,110],true,[[110]],[[105]],[(aR.mk 1 [] [105] [(az.mk 3 0 [] [110] [])] [] []),(aR.mk 5 [] [] [(az.mk 3 0 [] [105] [])] [(aR.mk 1 [] [115,117,109] [(az.mk 9 0 [] [] [(az.mk 3 0 [] [115,117,109] []),(az.mk 3 0 [] [105] [])])] [] []),(aR.mk 1 [] [105] [(az.mk 10 0 [] [] [(az.mk 3 0 [] [105] []),(az.mk 1 1 [] [] [])])] [] [])] []),(aR.mk 6 [] [] [(az.mk 3 0 [] [115,117,109] [])] [] [])]⟩:dO)],[]⟩:bf)
def qQ:Tx:=[109,111,100,117,108,101,32,116,111,112,123,117,115,101,32,99,110,116,59,109,97,105,110,123,99,110,116,46,116,91,49,93,61,99,110,116,46,100,111,119,110,40,99,110,116,46,107,41,59,111,117,116,32,99,110,116,46,116,91,105,110,93,59,105,102,40,99,110,116,46,115,117,109,61,54,41,123,111,117,116,32,55,59,125,101,108,115,101,123,111,117,116,32,56,59,125,125,125]
def bq:bf:=(kE qQ).1
def eE:List (List UInt8×List aY):=[(aE,wB)]
theorem apr:wM iU<=109951162777:=by decide +kernel
theorem L7 (s:Tx):wM (kE s).1<=73728:=by
 unfold kE
 split
 · show wM ug<=_; decide
 · rename_i h
   have h0:(dZ s).2=0:=by simpa using h
   have hl:=(QQ h0).len
   split
   · rename_i m hm
     split
     · have:=XR hm
       simp at this
       show wM m<=_
       omega
     · show wM ug<=_; decide
   · show wM ug<=_; decide
theorem Ho:fh Tryz.prog 222=some [(0,1),(1,1),(2,1),(3,1),(4,1),(5,1)]:=by kernel_rfl
theorem aps (w:World) :
   Calls Tryz.prog 101 #[] w λe w'=>∃r:mc,e = .returned (.agg (gE iU r).toArray)/\Ext w w'/\n6 7 6 (nv w w') r iU:=by
 refine enter Tryz.func101 O 33 O O ?_;refine CE (Vs:=[]) (Ws.init (by simp)) (Cs (Cr ?_));refine Al Y O wx λb0=>?_;refine Ln (Et (Cs (Cr (V0 (Yb um Lc O O) (V0 (Yb um Lc O O) (V0 (Yb um Lc O O) ?_))))));refine Lb Y O QF O O O O λb4=>?_;refine LN (rd:=zp) (f:=bS.cells) (m:=3) 0 [(⟨1,[107],true,3⟩:bS),(⟨2,[115,117,109],true,0⟩:bS),(⟨3,[116],true,4⟩:bS)] O O (λ_ hk=>by cases hk) bS.aX (λ_ _ _ _ h=>h) (show 3<=3 by decide) (by decide) λH4 fH4 hH4=>?_;refine Lb Y O dm O O O O λb5=>?_;refine LN (rd:=rdStr) (f:=dJ) (m:=1) 0 [[110]] O O (λ_ hk=>by cases hk) lK (λ_ _ _ _ h=>h) (show 1<=1 by decide) (by decide) λH5 fH5 hH5=>?_;refine Lb Y O dm O O O O λb6=>?_;refine LN (rd:=rdStr) (f:=dJ) (m:=1) 0 [[105]] O O (λ_ hk=>by cases hk) lK (λ_ _ _ _ h=>h) (show 1<=1 by decide) (by decide) λH6 fH6 hH6=>?_;refine V0 (Yb iP oG O O) ?_;refine Lb Y O kL O O O O λb8=>?_;refine LN (rd:=kJ) (f:=XE.cells) (m:=1) 0 [((az.mk 3 0 [] [110] []),none,0)] O O (λ_ hk=>by cases hk) XE.aX (λ_ _ _ _ h=>h) (show 1<=1 by decide) (by decide) λH8 fH8 QG=>?_;refine V0 (Yb vV Ho O O) (V0 (Yb iP oG O O) ?_);refine Lb Y O kL O O O O λsA=>?_;refine LN (rd:=kJ) (f:=XE.cells) (m:=1) 0 [((az.mk 3 0 [] [105] []),none,0)] O O (λ_ hk=>by cases hk) XE.aX (λ_ _ _ _ h=>h) (show 1<=1 by decide) (by decide) λDk apA Gn=>?_;refine V0 (Yb iP oG O O) (V0 (Yb iP oG O O) ?_);refine Lb Y O kL O O O O λz_=>?_;refine LN (rd:=kJ) (f:=XE.cells) (m:=2) 0 [((az.mk 3 0 [] [115,117,109] []),none,0),((az.mk 3 0 [] [105] []),none,0)] O O (λ_ hk=>by cases hk) XE.aX (λ_ _ _ _ h=>h) (show 2<=2 by decide) (by decide) λLk apB GG=>?_;refine V0 (Yb iP oG O O) ?_;refine Lb Y O kL O O O O λY7=>?_;refine LN (rd:=kJ) (f:=XE.cells) (m:=1) 0 [((az.mk 9 0 [] [] [(az.mk 3 0 [] [115,117,109] []),(az.mk 3 0 [] [105] [])]),(some ⟨z_,0,none⟩),2)] O O (λ_ hk=>by cases hk) XE.aX (λ_ _ _ _ h=>h) (show 1<=1 by decide) (by decide) λH16 apC apD=>?_;refine V0 (Yb vV Ho O O) (V0 (Yb iP oG O O) (V0 (Yb iP oG O O) ?_));refine Lb Y O kL O O O O λkb=>?_;refine LN (rd:=kJ) (f:=XE.cells) (m:=2) 0 [((az.mk 3 0 [] [105] []),none,0),((az.mk 1 1 [] [] []),none,0)] O O (λ_ hk=>by cases hk) XE.aX (λ_ _ _ _ h=>h) (show 2<=2 by decide) (by decide) λH20 apE apF=>?_;refine V0 (Yb iP oG O O) ?_;refine Lb Y O kL O O O O λDn=>?_;refine LN (rd:=kJ) (f:=XE.cells) (m:=1) 0 [((az.mk 10 0 [] [] [(az.mk 3 0 [] [105] []),(az.mk 1 1 [] [] [])]),(some ⟨kb,0,none⟩),2)] O O (λ_ hk=>by cases hk) XE.aX (λ_ _ _ _ h=>h) (show 1<=1 by decide) (by decide) λH22 apG apH=>?_;refine V0 (Yb vV Ho O O) ?_;refine Lb Y O Ku O O O O λFZ=>?_;refine LN (rd:=Kt) (f:=SX.cells) (m:=2) 0 [((aR.mk 1 [] [115,117,109] [(az.mk 9 0 [] [] [(az.mk 3 0 [] [115,117,109] []),(az.mk 3 0 [] [105] [])])] [] []),(⟨((some ⟨Y7,0,none⟩),1),(none,0),(none,0)⟩:ux)),((aR.mk 1 [] [105] [(az.mk 10 0 [] [] [(az.mk 3 0 [] [105] []),(az.mk 1 1 [] [] [])])] [] []),(⟨((some ⟨Dn,0,none⟩),1),(none,0),(none,0)⟩:ux))] O O (λ_ hk=>by cases hk) SX.aX (λ_ _ _ _ h=>h) (show 2<=2 by decide) (by decide) λC9 apI F0=>?_
 refine V0 (Yb vV Ho O O) (V0 (Yb iP oG O O) ?_);refine Lb Y O kL O O O O λGz=>?_;refine LN (rd:=kJ) (f:=XE.cells) (m:=1) 0 [((az.mk 3 0 [] [115,117,109] []),none,0)] O O (λ_ hk=>by cases hk) XE.aX (λ_ _ _ _ h=>h) (show 1<=1 by decide) (by decide) λRW apJ RX=>?_;refine V0 (Yb vV Ho O O) ?_;refine Lb Y O Ku O O O O λGH=>?_;refine LN (rd:=Kt) (f:=SX.cells) (m:=3) 0 [((aR.mk 1 [] [105] [(az.mk 3 0 [] [110] [])] [] []),(⟨((some ⟨b8,0,none⟩),1),(none,0),(none,0)⟩:ux)),((aR.mk 5 [] [] [(az.mk 3 0 [] [105] [])] [(aR.mk 1 [] [115,117,109] [(az.mk 9 0 [] [] [(az.mk 3 0 [] [115,117,109] []),(az.mk 3 0 [] [105] [])])] [] []),(aR.mk 1 [] [105] [(az.mk 10 0 [] [] [(az.mk 3 0 [] [105] []),(az.mk 1 1 [] [] [])])] [] [])] []),(⟨((some ⟨sA,0,none⟩),1),((some ⟨FZ,0,none⟩),2),(none,0)⟩:ux)),((aR.mk 6 [] [] [(az.mk 3 0 [] [115,117,109] [])] [] []),(⟨((some ⟨Gz,0,none⟩),1),(none,0),(none,0)⟩:ux))] O O (λ_ hk=>by cases hk) SX.aX (λ_ _ _ _ h=>h) (show 3<=3 by decide) (by decide) λH29 apK apL=>?_;refine V0 (Yb x6 aab O O) ?_;refine Lb Y O QE O O O O λKS=>?_;refine LN (rd:=Qp) (f:=PX.cells) (m:=1) 0 [((⟨[100,111,119,110],true,[[110]],[[105]],[(aR.mk 1 [] [105] [(az.mk 3 0 [] [110] [])] [] []),(aR.mk 5 [] [] [(az.mk 3 0 [] [105] [])] [(aR.mk 1 [] [115,117,109] [(az.mk 9 0 [] [] [(az.mk 3 0 [] [115,117,109] []),(az.mk 3 0 [] [105] [])])] [] []),(aR.mk 1 [] [105] [(az.mk 10 0 [] [] [(az.mk 3 0 [] [105] []),(az.mk 1 1 [] [] [])])] [] [])] []),(aR.mk 6 [] [] [(az.mk 3 0 [] [115,117,109] [])] [] [])]⟩:dO),(⟨((some ⟨b5,0,none⟩),1),((some ⟨b6,0,none⟩),1),((some ⟨GH,0,none⟩),3)⟩:Dl))] O O (λ_ hk=>by cases hk) PX.aX (λ_ _ _ _ h=>h) (show 1<=1 by decide) (by decide) λH31 apM apN=>?_;refine V0 (Yb wx Lj O O) (ak 0 Y O O O yq O O O (Ln (Et (aw ?_))));refine WE.Ug 0 O O O nH O λw' hw=>?_;exact ⟨⟨none,0,(some ⟨b4,0,none⟩),3,(some ⟨KS,0,none⟩),1,none,0⟩,O,hw.fr,⟨Sl.nil,(Qq hH4 (bJ hw (by simp) fH4)),(Z7 apN (bJ hw (by simp) apM) (aN.refl _) ((uC.nil _).snoc (aN.refl _) (aN.refl _) ⟨(wq hH5 (bJ hw (by simp) fH5)),(wq hH6 (bJ hw (by simp) fH6)),(P6 apL (bJ hw (by simp) apK) (aN.refl _) ((((sF.nil _ 5).snoc (aN.refl _) (aN.refl _) ⟨(kK QG (bJ hw (by simp) fH8) (aN.refl _) ((gx.nil _ 6).snoc (aN.refl _) (aN.refl _) Sl.nil)),Sl.nil,Sl.nil⟩).snoc (aN.refl _) (aN.refl _) ⟨(kK Gn (bJ hw (by simp) apA) (aN.refl _) ((gx.nil _ 6).snoc (aN.refl _) (aN.refl _) Sl.nil)),(P6 F0 (bJ hw (by simp) apI) (aN.refl _) (((sF.nil _ 4).snoc (aN.refl _) (aN.refl _) ⟨(kK apD (bJ hw (by simp) apC) (aN.refl _) ((gx.nil _ 6).snoc (aN.refl _) (aN.refl _) (kK GG (bJ hw (by simp) apB) (aN.refl _) (((gx.nil _ 5).snoc (aN.refl _) (aN.refl _) Sl.nil).snoc (aN.refl _) (aN.refl _) Sl.nil)))),Sl.nil,Sl.nil⟩).snoc (aN.refl _) (aN.refl _) ⟨(kK apH (bJ hw (by simp) apG) (aN.refl _) ((gx.nil _ 6).snoc (aN.refl _) (aN.refl _) (kK apF (bJ hw (by simp) apE) (aN.refl _) (((gx.nil _ 5).snoc (aN.refl _) (aN.refl _) Sl.nil).snoc (aN.refl _) (aN.refl _) Sl.nil)))),Sl.nil,Sl.nil⟩)),Sl.nil⟩).snoc (aN.refl _) (aN.refl _) ⟨(kK RX (bJ hw (by simp) apJ) (aN.refl _) ((gx.nil _ 6).snoc (aN.refl _) (aN.refl _) Sl.nil)),Sl.nil,Sl.nil⟩))⟩)),Sl.nil⟩⟩
theorem apO (w:World) :
   Calls Tryz.prog 103 #[] w λe w'=>e = .returned (st qQ)/\Ext w w':=by
 refine enter Tryz.func103 O 1 O O ?_;refine CE (Vs:=[]) (Ws.init (by simp)) (Cs (Cr (V0 (Ya O) (Ln (Et (Cs (Cr (V0 (Ya O) (Ln (Et (aw ?_)))))))))));refine R1 O O λw' hw=>?_;exact ⟨O,hw.fr⟩
theorem L8:aZ Tryz.prog 187 0=some 0:=by kernel_rfl
theorem L9:dV Tryz.prog 150=true:=by kernel_rfl
theorem L_:dQ Tryz.prog 150=some 3:=by kernel_rfl
theorem Ma:fg Tryz.prog 152=some 3:=by kernel_rfl
theorem Hp:zeroOf Tryz.prog 152=some (.agg #[.bool false,.int .i64 0,.slice none 0 0]):=by kernel_rfl
theorem Mb:cG Tryz.prog 152=some 3:=by kernel_rfl
theorem abr:aZ Tryz.prog 152 0=some 0:=by kernel_rfl
theorem apP:aZ Tryz.prog 152 1=some 1:=by kernel_rfl
theorem Mc:aZ Tryz.prog 152 2=some 2:=by kernel_rfl
theorem dt:dV Tryz.prog 25=true:=by kernel_rfl
theorem du:dQ Tryz.prog 25=some 1:=by kernel_rfl
theorem RY:aZ Tryz.prog 187 1=some 1:=by kernel_rfl
theorem kS:dV Tryz.prog 189=true:=by kernel_rfl
theorem ly:dQ Tryz.prog 189=some 5:=by kernel_rfl
theorem Md:Enters Tryz.prog 156:=enters_of Tryz.func156 (by kernel_rfl) rfl
theorem abt:Enters Tryz.prog 157:=enters_of Tryz.func157 (by kernel_rfl) rfl
theorem abu:Enters Tryz.prog 158:=enters_of Tryz.func158 (by kernel_rfl) rfl
theorem abv:Enters Tryz.prog 155:=enters_of Tryz.func155 (by kernel_rfl) rfl
theorem Me (HV HK:View) (vb:Nat) (ka:Option Addr) (kc:Nat) (kn:List cW) (ax:Int) (m pl n:Int) (w:World) (pI:Le HV w) (pJ:Le HK w) (h0:vc HV vb 0=some (.slice ka kn.length kc)) (h1:vc HV vb 1=some (.int .i64 ax)) (ec:Sl qi 3 HK ka kc kn) (hn:0<=n/\n<=32) :
   Calls Tryz.prog 156 #[.pointer (some ⟨vb,0,none⟩),.int .i64 m,.int .i64 pl,.int .i64 n] w λe w'=>e = .returned (.bool (r3 kn m pl n))/\Ext w w':=by
 have DA:=ec.cap;have DB:=ec.max;refine enter Tryz.func156 O 52 O O ?_;refine CE (Vs:=[HV,HK]) (Ws.init (by simp [pI,pJ])) (Cs (Cr (V0 (Ya O) (Ln (Et (Cs (Cs (Cr (V0 (Ym O) (V0 (a_ O O) (V0 (Ym O) ?_)))))))))));apply Lo 7 O O O O Y O O O O O
 ·intro cD;refine Vg (Ym O) (Vg (Ym O) (Vg (aQ O) (Vg (Yf L8 O) (Vg (bL 0 L9 O O (h0)) (Vg (Yn L_ O) (Vg (eK O O) ?_))))));exact Gt 7 O O O
 refine V0 (Ym O) ?_;apply Lo 2 O O O O Y O O O O O
 ·intro bR;refine Vg (Ym O) (Vg (a_ O O) ?_);exact Gt 2 O O O
 refine V0 (Ym O) ?_;apply Lo 2 O O O O Y O O O O O
 ·intro gP;refine Vg (Ym O) (Vg (bX O O) ?_);exact Gt 2 O O O
 refine Ln (Et ?_);refine Cc O (λad=>?_) (λad=>?_)
 ·refine Cs (Cr (V0 (Ya O) (Ln (Et (aw (Er ?_))))));refine R1 O O λw' hw=>?_;exact ⟨by rw [afC n ad],hw.fr⟩
 have AV:Cg kn m pl=false:=ad;obtain ⟨⟨mi,rfl,nQ⟩,hp0,KY⟩:=afD AV;obtain ⟨k,pX⟩:∃k,kn[mi]? = some k:=⟨_,List.getElem?_eq_getElem nQ⟩;obtain ⟨Mf,Mg,DC,rk,RZ,wO⟩:=ec.aO mi k pX;have hpc:=wO.cap;have R0:=wO.max;refine Ck (Et (Cs (Cs (Cr (V0 (Ym O) (V0 (aQ O) (V0 (Yf L8 O) (V0 (bL 0 L9 O O (h0)) (V0 (Ym O) (V0 (Yo L_ O O DC nQ) (V0 (cF 1 Ma O O O (RZ)) ?_)))))))))));refine Al Y O Hp λb9=>?_;refine ak 0 Y O O O Mb O O O (Ln (Et (Cs (Cr (V0 (Yf abr O) (V0 (Yd 0 O O O zR) (Ln (Et ?_))))))));refine Cc O (λaq=>?_) (λaq=>?_)
 ·refine Cs (Cr (V0 (Ym O) (V0 (Ym O) (V0 (jz O O (by omega)) (V0 (Yf apP O) (V0 (Yd 0 O O O aj) (V0 (gL O O) (V0 (Ya O) ?_))))))));refine Ln (Et (aw (Er ?_)));refine R1 O O λw' hw=>?_;exact ⟨by rw [VP AV pX,if_pos aq],hw.fr⟩
 refine Ck (Et (Cs (Cr (V0 (Ym O) (V0 (aF O O) (V0 (Ym O) ?_))))));apply Lo 4 O O O O Y O O O O O
 ·intro mC;refine Vg (Ym O) (Vg (Ym O) (Vg (jz O O (by omega)) (Vg (gL O O) ?_)));exact Gt 4 O O O
 refine V0 (Ya O) (Ln (Et (aw ?_)));refine R1 O O λw' hw=>?_;exact ⟨by rw [VP AV pX,if_neg (λe=>by have h:=aq.symm.trans e; cases h)],hw.fr⟩
theorem abw (HV HK:View) (vb:Nat) (ka:Option Addr) (kc:Nat) (kn:List cW) (ax:Int) (m pl n:Int) (w:World) (pI:Le HV w) (pJ:Le HK w) (h0:vc HV vb 0=some (.slice ka kn.length kc)) (h1:vc HV vb 1=some (.int .i64 ax)) (ec:Sl qi 3 HK ka kc kn)  :
   Calls Tryz.prog 158 #[.pointer (some ⟨vb,0,none⟩),.int .i64 m,.int .i64 pl,.int .i64 n] w λe w'=>e = .returned (.bool (vB kn m pl n))/\Ext w w':=by
 have DA:=ec.cap;have DB:=ec.max;refine enter Tryz.func158 O 54 O O ?_;refine CE (Vs:=[HV,HK]) (Ws.init (by simp [pI,pJ])) (Cs (Cr (V0 (Ya O) (Ln (Et (Cs (Cs (Cr (V0 (Ym O) (V0 (a_ O O) (V0 (Ym O) ?_)))))))))));apply Lo 7 O O O O Y O O O O O
 ·intro cD;refine Vg (Ym O) (Vg (Ym O) (Vg (aQ O) (Vg (Yf L8 O) (Vg (bL 0 L9 O O (h0)) (Vg (Yn L_ O) (Vg (eK O O) ?_))))));exact Gt 7 O O O
 refine V0 (Ym O) ?_;apply Lo 2 O O O O Y O O O O O
 ·intro bR;refine Vg (Ym O) (Vg (a_ O O) ?_);exact Gt 2 O O O
 refine Ln (Et ?_);refine Cc O (λad=>?_) (λad=>?_)
 ·refine Cs (Cr (V0 (Ya O) (Ln (Et (aw (Er ?_))))));refine R1 O O λw' hw=>?_;exact ⟨by rw [afE n ad],hw.fr⟩
 have AV:Ch kn m pl=false:=ad;obtain ⟨⟨mi,rfl,nQ⟩,pi,rfl⟩:=afF AV;obtain ⟨k,pX⟩:∃k,kn[mi]? = some k:=⟨_,List.getElem?_eq_getElem nQ⟩;obtain ⟨Mf,Mg,DC,rk,RZ,wO⟩:=ec.aO mi k pX;have hpc:=wO.cap;have R0:=wO.max;refine Ck (Et (Cs (Cs (Cr (V0 (Ym O) (V0 (aQ O) (V0 (Yf L8 O) (V0 (bL 0 L9 O O (h0)) (V0 (Ym O) (V0 (Yo L_ O O DC nQ) (V0 (cF 1 Ma O O O (RZ)) ?_)))))))))));refine Al Y O Hp λb9=>?_;refine ak 0 Y O O O Mb O O O (Ln (Et (Cs (Cr (V0 (Yf abr O) (V0 (Yd 0 O O O zR) (Ln (Et ?_))))))));refine Cc O (λaq=>?_) (λaq=>?_)
 ·refine Cs (Cr (V0 (Ym O) (V0 (Yf Mc O) (V0 (Yd 0 O O O dt) (V0 (Yn du O) (V0 (a_ O O) (V0 (Ym O) ?_)))))));apply La 7 (x:=(k.parts[((pi:Int)).toNat]?).getD 0==n) O O O O Y O O O O O
  ·intro gP
   have kf:pi<k.parts.length:=by simpa using gP
   obtain ⟨y,bx⟩:∃y,k.parts[pi]? = some y:=⟨_,List.getElem?_eq_getElem kf⟩;obtain ⟨gq,gu,eG,ck⟩:=wO.aO pi y bx;have ck:aP HK gq (gu+pi*1) (im y):=ck
   have kg:(k.parts[pi]?).getD 0=y:=by rw [bx]; rfl
   refine Vg (Yf Mc O) (Vg (Yd 0 O O O dt) (Vg (Ym O) (Vg (Yo du O O eG kf) (Vg (bL 1 aj O O (ck 0 _ O)) (Vg (Ym O) (Vg (aF O O) ?_))))));rw [show (y==n)=((k.parts[((pi:Int)).toNat]?).getD 0==n) from by rw [Int.toNat_natCast,kg]];exact Gt 7 O O O
  refine V0 (Ya O) (Ln (Et (aw (Er ?_))));refine R1 O O λw' hw=>?_;exact ⟨by rw [VQ AV pX,if_pos aq],hw.fr⟩
 refine Ck (Et (Cs (Cr (V0 (Ym O) (V0 (a_ O O) (V0 (Ym O) ?_))))));apply La 2 O O O O Y O O O O O
 ·intro mC;refine Vg (Ym O) (Vg (gL O O) ?_);exact Gt 2 O O O
 refine V0 (Ya O) (Ln (Et (aw ?_)));refine R1 O O λw' hw=>?_;exact ⟨by rw [VQ AV pX,if_neg (λe=>by have h:=aq.symm.trans e; cases h)],hw.fr⟩
theorem abx (HV HK:View) (vb:Nat) (ka:Option Addr) (kc:Nat) (kn:List cW) (ax:Int) (pl:Int) (w:World) (pI:Le HV w) (pJ:Le HK w) (h0:vc HV vb 0=some (.slice ka kn.length kc)) (h1:vc HV vb 1=some (.int .i64 ax)) (ec:Sl qi 3 HK ka kc kn)  :
   Calls Tryz.prog 155 #[.pointer (some ⟨vb,0,none⟩),.int .i64 pl] w λe w'=>e = .returned (.bool (On ax pl))/\Ext w w':=by
 have DA:=ec.cap;have DB:=ec.max;refine enter Tryz.func155 O 15 O O ?_;refine CE (Vs:=[HV,HK]) (Ws.init (by simp [pI,pJ])) (Cs (Cr (V0 (Ya O) (Ln (Et (Cs (Cr (V0 (Ym O) (V0 (eK O O) (V0 (Ym O) ?_))))))))));apply La 6 O O O O Y O O O O O
 ·intro cD;refine Vg (Ym O) (Vg (Ym O) (Vg (aQ O) (Vg (Yf RY O) (Vg (bL 0 aj O O (h1)) (Vg (a_ O O) ?_)))));exact Gt 6 O O O
 refine V0 (Ya O) (Ln (Et (aw ?_)));refine R1 O O λw' hw=>?_;exact ⟨O,hw.fr⟩
theorem aby (n:Int) (w:World) :
   Calls Tryz.prog 157 #[.int .i64 n] w λe w'=>e = .returned (.bool (E8 n))/\Ext w w':=by
 refine enter Tryz.func157 O 9 O O ?_;refine CE (Vs:=[]) (Ws.init (by simp)) (Cs (Cr (V0 (Ya O) (Ln (Et (Cs (Cr (V0 (Ym O) (V0 (eK O O) (V0 (Ym O) ?_))))))))));apply La 2 O O O O Y O O O O O
 ·intro cD;refine Vg (Ym O) (Vg (gL O O) ?_);exact Gt 2 O O O
 refine V0 (Ya O) (Ln (Et (aw ?_)));refine R1 O O λw' hw=>?_;exact ⟨O,hw.fr⟩
theorem apR (HV HK:View) (vb:Nat) (ka:Option Addr) (kc:Nat) (kn:List cW) (ax:Int) (x:cJ) (a:Option Addr) (c:Nat) (w:World) (pI:Le HV w) (pJ:Le HK w) (h0:vc HV vb 0=some (.slice ka kn.length kc)) (h1:vc HV vb 1=some (.int .i64 ax)) (ec:Sl qi 3 HK ka kc kn)  :
   Calls Tryz.prog 159 #[.pointer (some ⟨vb,0,none⟩),.agg (rY x a c).toArray] w λe w'=>e = .returned (.bool (node1 kn ax x.op x.n x.m x.pl x.args.length))/\Ext w w':=by
 have DA:=ec.cap;have DB:=ec.max;refine enter Tryz.func159 O 170 O O ?_;refine CE (Vs:=[HV,HK]) (Ws.init (by simp [pI,pJ])) (Cs (Cr ?_));refine WL.box Y O O λb3=>?_;refine V0 (Ya O) (Ln (Et (Cs (Cs (Cr (V0 (Yf uY O) (V0 (Yd 0 O O O kS) (V0 (Yn ly O) (V0 (Ya O) (Ln (Et (Cs (Cr (V0 (Yf uW O) ?_))))))))))))));refine V0 (Yd 0 O O O aj) (Ln (Et (Cb (Cs (Cr (V0 (aF O O) (V0 (Ya O) (Ln (Et ?_)))))))));refine Cc O (λad=>?_) (λad=>?_)
 ·have ho:x.op=1:=by simpa using ad
  refine Cs (Cr (V0 (Yf oO O) (V0 (Yd 0 O O O aj) (V0 (aF O O) (V0 (Ym O) ?_)))));apply La 3 O O O O Y O O O O O
  ·intro cD;refine Vg (Yf mJ O) (Vg (Yd 0 O O O aj) (Vg (aF O O) ?_));exact Gt 3 O O O
  refine V0 (Ym O) ?_;apply La 2 O O O O Y O O O O O
  ·intro bR;refine Vg (Ym O) (Vg (aF O O) ?_);exact Gt 2 O O O
  refine V0 (Ym O) ?_;apply La 3 O O O O Y O O O O O
  ·intro gP;refine Vg (Yf oN O) (Vg (Yd 0 O O O aj) (Vg (eK O O) ?_));exact Gt 3 O O O
  refine V0 (Ym O) ?_;apply La 3 O O O O Y O O O O O
  ·intro mC;refine Vg (Yf oN O) (Vg (Yd 0 O O O aj) (Vg (gL O O) ?_));exact Gt 3 O O O
  refine V0 (Ya O) (Ln (Et (aw (bt (Er ?_)))));refine R1 O O λw' hw=>?_;exact ⟨by rw [node1,if_pos ho],hw.fr⟩
 have ir:¬x.op=1:=by simpa using ad
 refine Cs (Cr (V0 (aF O O) (V0 (Ya O) (Ln (Et ?_)))));refine Cc O (λaq=>?_) (λaq=>?_)
 ·have ho:x.op=3:=by simpa using aq
  refine Cs (Cr (V0 (Yf oN O) (V0 (Yd 0 O O O aj) (V0 (aF O O) (V0 (Ym O) ?_)))));apply La 2 O O O O Y O O O O O
  ·intro x0;refine Vg (Ym O) (Vg (aF O O) ?_);exact Gt 2 O O O
  refine V0 (Ym O) ?_;apply La 6 O O O O Y O O O O O
  ·intro oD;refine Vg (Ym O) (Vg (Yf oO O) (Vg (Yd 0 O O O aj) (Vg (Yf mJ O) (Vg (Yd 0 O O O aj) (Lp (.g O O O) O Md O (λw hw=>Me HV HK vb ka kc kn ax x.m x.pl 1 w (hw.vs _ (by simp)) (hw.vs _ (by simp)) h0 h1 ec (by omega)) ?_)))));exact Gt 6 O O O
  refine V0 (Ya O) (Ln (Et (aw (bt (Er ?_)))));refine R1 O O λw' hw=>?_;exact ⟨by rw [node1,if_neg ir,if_pos ho],hw.fr⟩
 have fZ:¬x.op=3:=by simpa using aq
 refine Cs (Cr (V0 (aF O O) (V0 (Ya O) (Ln (Et ?_)))));refine Cc O (λay=>?_) (λay=>?_)
 ·have ho:x.op=4:=by simpa using ay
  refine Cs (Cr (V0 (Yf oN O) (V0 (Yd 0 O O O aj) (Lp Y O abt O (λw hw=>aby _ w) (V0 (Ym O) ?_)))));apply La 2 O O O O Y O O O O O
  ·intro DD;refine Vg (Ym O) (Vg (aF O O) ?_);exact Gt 2 O O O
  refine V0 (Ym O) ?_;apply La 8 O O O O Y O O O O O
  ·intro DE
   have R2:0<=x.n/\x.n<=32:=by
     unfold E8 at DE;simp at DE;omega
   refine Vg (Ym O) (Vg (Yf oO O) (Vg (Yd 0 O O O aj) (Vg (Yf mJ O) (Vg (Yd 0 O O O aj) (Vg (Yf oN O) (Vg (Yd 0 O O O aj) (Lp (.g O O O) O Md O (λw hw=>Me HV HK vb ka kc kn ax x.m x.pl x.n w (hw.vs _ (by simp)) (hw.vs _ (by simp)) h0 h1 ec R2) ?_)))))));exact Gt 8 O O O
  refine V0 (Ya O) (Ln (Et (aw (bt (Er ?_)))));refine R1 O O λw' hw=>?_;exact ⟨by rw [node1,if_neg ir,if_neg fZ,if_pos ho],hw.fr⟩
 have gW:¬x.op=4:=by simpa using ay
 refine Cs (Cr (V0 (aF O O) (V0 (Ya O) (Ln (Et ?_)))));refine Cc O (λaJ=>?_) (λaJ=>?_)
 ·have ho:x.op=5:=by simpa using aJ
  refine Cs (Cr (V0 (Yf oN O) (V0 (Yd 0 O O O aj) (V0 (aF O O) (V0 (Ym O) ?_)))));apply La 7 O O O O Y O O O O O
  ·intro Mh;refine Vg (Ym O) (Vg (Yf oO O) (Vg (Yd 0 O O O aj) (Vg (Yf mJ O) (Vg (Yd 0 O O O aj) (Vg (Ym O) (Lp (.g O O O) O abu O (λw hw=>abw HV HK vb ka kc kn ax x.m x.pl x.args.length w (hw.vs _ (by simp)) (hw.vs _ (by simp)) h0 h1 ec) ?_))))));exact Gt 7 O O O
  refine V0 (Ya O) (Ln (Et (aw (bt (Er ?_)))));refine R1 O O λw' hw=>?_;exact ⟨by rw [node1,if_neg ir,if_neg fZ,if_neg gW,if_pos ho],hw.fr⟩
 have iS:¬x.op=5:=by simpa using aJ
 refine Cs (Cr (V0 (aF O O) (V0 (Ya O) (Ln (Et ?_)))));refine Cc O (λaU=>?_) (λaU=>?_)
 ·have ho:x.op=16:=by simpa using aU
  refine Cs (Cr (V0 (Yf oO O) (V0 (Yd 0 O O O aj) (V0 (aF O O) (V0 (Ym O) ?_)))));apply La 3 O O O O Y O O O O O
  ·intro Hq;refine Vg (Yf oN O) (Vg (Yd 0 O O O aj) (Vg (aF O O) ?_));exact Gt 3 O O O
  refine V0 (Ym O) ?_;apply La 2 O O O O Y O O O O O
  ·intro R3;refine Vg (Ym O) (Vg (aF O O) ?_);exact Gt 2 O O O
  refine V0 (Ym O) ?_;apply La 4 O O O O Y O O O O O
  ·intro R4;refine Vg (Ym O) (Vg (Yf mJ O) (Vg (Yd 0 O O O aj) (Lp (.g O O O) O abv O (λw hw=>abx HV HK vb ka kc kn ax x.pl w (hw.vs _ (by simp)) (hw.vs _ (by simp)) h0 h1 ec) ?_)));exact Gt 4 O O O
  refine V0 (Ya O) (Ln (Et (aw (bt (Er ?_)))));refine R1 O O λw' hw=>?_;exact ⟨by rw [node1,if_neg ir,if_neg fZ,if_neg gW,if_neg iS,if_pos ho],hw.fr⟩
 have lY:¬x.op=16:=by simpa using aU
 refine Cs (Cr (V0 (aF O O) (V0 (Ya O) (Ln (Et ?_)))));refine Cc O (λbd=>?_) (λbd=>?_)
 ·have ho:x.op=2:=by simpa using bd
  refine Cs (Cr (V0 (Yf oO O) (V0 (Yd 0 O O O aj) (V0 (aF O O) (V0 (Ym O) ?_)))));apply La 3 O O O O Y O O O O O
  ·intro R5;refine Vg (Yf mJ O) (Vg (Yd 0 O O O aj) (Vg (aF O O) ?_));exact Gt 3 O O O
  refine V0 (Ym O) ?_;apply La 3 O O O O Y O O O O O
  ·intro abz;refine Vg (Yf oN O) (Vg (Yd 0 O O O aj) (Vg (aF O O) ?_));exact Gt 3 O O O
  refine V0 (Ym O) ?_;apply La 2 O O O O Y O O O O O
  ·intro abA;refine Vg (Ym O) (Vg (aF O O) ?_);exact Gt 2 O O O
  refine V0 (Ya O) (Ln (Et (aw (bt (Er ?_)))));refine R1 O O λw' hw=>?_;exact ⟨by rw [node1,if_neg ir,if_neg fZ,if_neg gW,if_neg iS,if_neg lY,if_pos ho],hw.fr⟩
 have qR:¬x.op=2:=by simpa using bd
 refine Cs (Cr (V0 (aF O O) (V0 (Ya O) (Ln (Et ?_)))));refine Cc O (λbh=>?_) (λbh=>?_)
 ·have ho:x.op=6:=by simpa using bh
  refine Cs (Cr (V0 (Yf oO O) (V0 (Yd 0 O O O aj) (V0 (aF O O) (V0 (Ym O) ?_)))));apply La 3 O O O O Y O O O O O
  ·intro abB;refine Vg (Yf mJ O) (Vg (Yd 0 O O O aj) (Vg (aF O O) ?_));exact Gt 3 O O O
  refine V0 (Ym O) ?_;apply La 3 O O O O Y O O O O O
  ·intro Hr;refine Vg (Yf oN O) (Vg (Yd 0 O O O aj) (Vg (aF O O) ?_));exact Gt 3 O O O
  refine V0 (Ym O) ?_;apply La 2 O O O O Y O O O O O
  ·intro abC;refine Vg (Ym O) (Vg (aF O O) ?_);exact Gt 2 O O O
  refine V0 (Ya O) (Ln (Et (aw (bt (Er ?_)))));refine R1 O O λw' hw=>?_;exact ⟨by rw [node1,if_neg ir,if_neg fZ,if_neg gW,if_neg iS,if_neg lY,if_neg qR,if_pos ho],hw.fr⟩
 have yv:¬x.op=6:=by simpa using bh
 refine WC.ES (ι:=Bool) (λbb=>[(3,.pointer (some ⟨b3,0,none⟩)),(5,.int .i64 (x.args.length:Int)),(143,.bool bb)]) (λbb=>Ws w [] [ab b3 (.cells (rY x a c).toArray 238 (0,0))] [HV,HK]) (λbb=>bb=decide (7<=x.op/\x.op<=15)) ?_ ?_
 ·refine Cs (Cr (V0 (aF O O) (V0 (Ya O) (Ln (Et ?_)))));refine Cc O (λbH=>?_) (λbH=>?_)
  ·refine Ck ?_
   exact Em (x.op==7) (by have h9:x.op=7:=(by simpa using bH); rw [h9]; decide) (sc O (sc O (sc O sn))) (λ_ h=>by
     have h:=h.ar 0 rfl
     exact h)
  have C5:¬x.op=7:=by simpa using bH
  refine Cs (Cr (V0 (aF O O) (V0 (Ya O) (Ln (Et ?_)))));refine Cc O (λcz=>?_) (λcz=>?_)
  ·refine Ck ?_
   exact Em (x.op==8) (by have h9:x.op=8:=(by simpa using cz); rw [h9]; decide) (sc O (sc O (sc O sn))) (λ_ h=>by
     have h:=h.ar 0 rfl
     exact h)
  have x9:¬x.op=8:=by simpa using cz
  refine Cs (Cr (V0 (aF O O) (V0 (Ya O) (Ln (Et ?_)))));refine Cc O (λcR=>?_) (λcR=>?_)
  ·refine Ck ?_
   exact Em (x.op==9) (by have h9:x.op=9:=(by simpa using cR); rw [h9]; decide) (sc O (sc O (sc O sn))) (λ_ h=>by
     have h:=h.ar 0 rfl
     exact h)
  have hn9:¬x.op=9:=by simpa using cR
  refine Cs (Cr (V0 (aF O O) (V0 (Ya O) (Ln (Et ?_)))));refine Cc O (λfC=>?_) (λfC=>?_)
  ·refine Ck ?_
   exact Em (x.op==10) (by have h9:x.op=10:=(by simpa using fC); rw [h9]; decide) (sc O (sc O (sc O sn))) (λ_ h=>by
     have h:=h.ar 0 rfl
     exact h)
  have oP:¬x.op=10:=by simpa using fC
  refine Cs (Cr (V0 (aF O O) (V0 (Ya O) (Ln (Et ?_)))));refine Cc O (λgX=>?_) (λgX=>?_)
  ·refine Ck ?_
   exact Em (x.op==11) (by have h9:x.op=11:=(by simpa using gX); rw [h9]; decide) (sc O (sc O (sc O sn))) (λ_ h=>by
     have h:=h.ar 0 rfl
     exact h)
  have awP:¬x.op=11:=by simpa using gX
  refine Cs (Cr (V0 (aF O O) (V0 (Ya O) (Ln (Et ?_)))));refine Cc O (λiu=>?_) (λiu=>?_)
  ·refine Ck ?_
   exact Em (x.op==12) (by have h9:x.op=12:=(by simpa using iu); rw [h9]; decide) (sc O (sc O (sc O sn))) (λ_ h=>by
     have h:=h.ar 0 rfl
     exact h)
  have jH:¬x.op=12:=by simpa using iu
  refine Cs (Cr (V0 (aF O O) (V0 (Ya O) (Ln (Et ?_)))));refine Cc O (λAW=>?_) (λAW=>?_)
  ·refine Ck ?_
   exact Em (x.op==13) (by have h9:x.op=13:=(by simpa using AW); rw [h9]; decide) (sc O (sc O (sc O sn))) (λ_ h=>by
     have h:=h.ar 0 rfl
     exact h)
  have DF:¬x.op=13:=by simpa using AW
  refine Cs (Cr (V0 (aF O O) (V0 (Ya O) (Ln (Et ?_)))));refine Cc O (λjr=>?_) (λjr=>?_)
  ·refine Ck ?_
   exact Em (x.op==14) (by have h9:x.op=14:=(by simpa using jr); rw [h9]; decide) (sc O (sc O (sc O sn))) (λ_ h=>by
     have h:=h.ar 0 rfl
     exact h)
  have iQ:¬x.op=14:=by simpa using jr
  refine Cr (V0 (aF O O) (V0 (Ya O) (Ln ?_)))
  exact Em (x.op==15) (by rw [Bool.eq_iff_iff]; simp; omega) (sc O (sc O (sc O sn))) (λ_ h=>by
    have h:=h.ar 0 rfl
    exact h)
 intro bb Hs;refine Cc O (λkh=>?_) (λkh=>?_)
 ·refine Cs (Cr (V0 (Yf oO O) (V0 (Yd 0 O O O aj) (V0 (aF O O) (V0 (Ym O) ?_)))));apply La 3 O O O O Y O O O O O
  ·intro Mi;refine Vg (Yf mJ O) (Vg (Yd 0 O O O aj) (Vg (aF O O) ?_));exact Gt 3 O O O
  refine V0 (Ym O) ?_;apply La 3 O O O O Y O O O O O
  ·intro awQ;refine Vg (Yf oN O) (Vg (Yd 0 O O O aj) (Vg (aF O O) ?_));exact Gt 3 O O O
  refine V0 (Ym O) ?_;apply La 2 O O O O Y O O O O O
  ·intro awR;refine Vg (Ym O) (Vg (aF O O) ?_);exact Gt 2 O O O
  refine V0 (Ya O) (Ln (Et (aw (bt (Er ?_)))));refine R1 O O λw' hw=>?_;exact ⟨by rw [node1,if_neg ir,if_neg fZ,if_neg gW,if_neg iS,if_neg lY,if_neg qR,if_neg yv,if_pos (of_decide_eq_true (Hs.symm.trans kh))],hw.fr⟩
 refine Ck (Eb (Et (Cs (Cr (V0 (Ya O) (Ln (Et (aw ?_))))))));refine R1 O O λw' hw=>?_;exact ⟨by rw [node1,if_neg ir,if_neg fZ,if_neg gW,if_neg iS,if_neg lY,if_neg qR,if_neg yv,if_neg (of_decide_eq_false (Hs.symm.trans kh))],hw.fr⟩
theorem apS {a b:Nat} (ha:a<=9223372036854775807) (hb:b<=9223372036854775807):(IntKind.i64.wrap ((a:Int)+(b:Int))==0)=((a:Int)+(b:Int)==0):=by
 rw [Bool.eq_iff_iff];simp only [beq_iff_eq];rw [IntKind.wrap_i64];omega
theorem apT:Enters Tryz.prog 159:=enters_of Tryz.func159 (by kernel_rfl) rfl
theorem abD:Enters Tryz.prog 125:=enters_of Tryz.func125 (by kernel_rfl) rfl
theorem oQ:dV Tryz.prog 56=true:=by kernel_rfl
theorem u4:dQ Tryz.prog 56=some 7:=by kernel_rfl
theorem Mj:aZ Tryz.prog 191 0=some 0:=by kernel_rfl
theorem apU:Enters Tryz.prog 124:=enters_of Tryz.func124 (by kernel_rfl) rfl
theorem Mk:Enters Tryz.prog 106:=enters_of Tryz.func106 (by kernel_rfl) rfl
theorem apV (HV HK:View) (vb:Nat) (ka:Option Addr) (kc:Nat) (kn:List cW) (ax:Int) (H:View) (k:Nat) (l:List cJ) (a:Option Addr) (c:Nat) (d:Nat) (w:World) (pI:Le HV w) (pJ:Le HK w) (h0:vc HV vb 0=some (.slice ka kn.length kc)) (h1:vc HV vb 1=some (.int .i64 ax)) (ec:Sl qi 3 HK ka kc kn) (hH:Le H w) (hl:Sl (jV k) 5 H a c l) (hd:d<=7) :
   Calls Tryz.prog 125 #[.pointer (some ⟨vb,0,none⟩),.slice a l.length c,.int .i64 (d:Int)] w λe w'=>e = .returned (.bool (om kn ax l d))/\Ext w w':=by
 have DA:=ec.cap;have DB:=ec.max
 induction k using Nat.strongRecOn generalizing l a c d w
 rename_i k ih;have dN:=hl.cap;have ek:=hl.max;refine enter Tryz.func125 O 33 O O ?_;refine CE (Vs:=[HV,HK,H]) (Ws.init (by simp [pI,pJ,hH])) (Cs (Cr (V0 (Ya O) (Ln (Et (Cs (Cs (Cr (V0 (Ym O) (V0 (Yn ly O) (V0 (Ym O) (Ln (Et (Cb ?_))))))))))))));refine CW (ι:=Nat) (λi=>[(11,.int .i64 (i:Int))]) [(0,_),(2,_),(9,_),(10,_)] (λi=>i<=l.length/\(l.take i).all (vC kn ax · d)=true) (λi=>l.length-i) 0 ⟨Nat.zero_le _,O⟩ (sc O (sc O (sc O (sc O (sc O sn))))) ?_;intro i ⟨hi,bN⟩;refine Cs (Cr (V0 (a_ O O) (Ln (Et (Cs ?_)))));refine Cc O (λad=>?_) (λad=>?_)
 ·have av:i<l.length:=by simpa using ad
  obtain ⟨x,bu⟩:∃q,l[i]? = some q:=⟨_,List.getElem?_eq_getElem av⟩;obtain ⟨e9,e_,ft,cS⟩:=hl.aO i x bu
  obtain ⟨k2,rfl⟩:∃k2,k=k2+1:=by
    cases k with
    | zero=>exact cS.elim
    | succ k2=>exact ⟨k2,rfl⟩
  obtain ⟨xa,xc,bQ,gM⟩:=cS;refine Ck (Et (Cs (Cb (Cs (Cr (V0 (Yo ly O O ft av) (V0 (cF 2 kR O O O (bQ)) ?_)))))));refine Al Y O G9 λb8=>?_;refine ak 0 Y O O O LH O O O (Ln (Et (Cs (eY 0 (.cells (rY x xa xc).toArray 238 (0,0)) O O (Cr (V0 (Ym O) (V0 (bX O O) (V0 (Ym O) ?_))))))));apply Lo 4 O O O O Y O O O O O
  ·intro cD;refine Vg (Ym O) (Vg (bC 0 O O kR O) (Lp (.g O O O) O apT O (λw hw=>apR HV HK vb ka kc kn ax x xa xc w (hw.vs _ (by simp)) (hw.vs _ (by simp)) h0 h1 ec) (Vg (dw O) ?_)));exact Gt 4 O O O
  refine V0 (Ym O) ?_;apply Lo 7 O O O O Y O O O O O
  ·intro bR
   have Zh:d<=6:=by
     have h9:=(Bool.or_eq_false_iff.1 bR).1;simp at h9; omega
   refine Vg (Ym O) (Vg (Yf uY O) (Vg (Yd 0 O O O kS) (Vg (Ym O) (Vg (Yi O O O (by omega)) (Lp (.g O O O) O abD O (λw hw=>ih k2 (by omega) x.args xa xc (d+1) w (hw.vs _ (by simp)) (hw.vs _ (by simp)) (hw.vs _ (by simp)) gM (by omega)) (Vg (dw O) ?_))))));exact Gt 7 O O O
  refine Ln (Et ?_);rw [afG];refine Cc O (λaq=>?_) (λaq=>?_)
  ·have hx:vC kn ax x d=false:=by simpa using aq
   refine Cs (Cr (V0 (Ya O) (Ln (Et (aw (bt (Er (Er (bt (Er ?_))))))))));refine R1 O O λw' hw=>?_;exact ⟨by rw [Jo,E' bu hx],hw.fr⟩
  have hx:vC kn ax x d=true:=by simpa using aq
  refine Ck (Eb (Et (Cr (V0 (Yi O O O (by omega)) (V0 (Ym O) (Ln ?_))))));exact Ea (i+1) (by omega) ⟨by omega,zA bu bN hx⟩ (sc O (sc O (sc O (sc O (sc O sn))))) (λ_ h=>Wd 1 h)
 have cC:¬i<l.length:=by simpa using ad
 rw [List.take_of_length_le (by omega)] at bN;refine Ce (Ex (Ex (bK (Et (Cs (Cr (V0 (Ya O) (Ln (Et (aw ?_))))))))));refine R1 O O λw' hw=>?_;exact ⟨by rw [Jo,bN],hw.fr⟩
theorem apW (HV HK:View) (vb:Nat) (ka:Option Addr) (kc:Nat) (kn:List cW) (ax:Int) (x:cB) (r:zw) (w:World) (pI:Le HV w) (pJ:Le HK w) (h0:vc HV vb 0=some (.slice ka kn.length kc)) (h1:vc HV vb 1=some (.int .i64 ax)) (ec:Sl qi 3 HK ka kc kn) (Rf:x.body.length<=9223372036854775807) (Wr:x.other.length<=9223372036854775807) :
   Calls Tryz.prog 124 #[.pointer (some ⟨vb,0,none⟩),.agg (vx x r).toArray] w λe w'=>e = .returned (.bool (oh kn ax x.op x.n x.m x.pl x.args.length x.body.length x.other.length))/\Ext w w':=by
 have DA:=ec.cap;have DB:=ec.max;refine enter Tryz.func124 O 135 O O ?_;refine CE (Vs:=[HV,HK]) (Ws.init (by simp [pI,pJ])) (Cs (Cr ?_));refine WL.box Y O O λb3=>?_;refine V0 (Ya O) (Ln (Et (Cs ?_)));refine WC.nU [(0,true),(1,true),(2,true),(3,true),(4,true),(5,true),(6,true),(7,true),(8,true),(9,true),(10,true),(11,true),(12,true)] mixed (by kernel_rfl) (λ_ _ _ d _ h=>by cases d<;>exact h) ?_;refine D0 O (λ_ h=>h) (Yf sP O) (D0 O (λ_ h=>h) (Yd 0 O O O kS) (D0 O (λ_ h=>h) (Yn ly O) (D0 O (λ_ h=>h) (Yf Ha O) (D0 O (λ_ h=>h) (Yd 0 O O O oQ) (D0 O (λ_ h=>h) (Yn u4 O) (D0 O (λ_ h=>h) (Yf AP O) (D0 O (λ_ h=>h) (Yd 0 O O O oQ) ?_)))))));refine D0 O (λ_ h=>h) (Yn u4 O) (D0 O (λ_ h=>h) (xj O O) (D0 O (λ_ h=>h) (aF O O) ?_));rw [apS Rf Wr];refine D0 O (λ_ h=>h) (Ya O) (D0 O (λ_ h=>h) (Ya O) ?_);refine WD.nil (λ_ h=>h) ?_;refine Et (Cs (Cr (V0 (Yf pG O) (V0 (Yd 0 O O O aj) (V0 (aF O O) (V0 (Ym O) ?_))))));apply La 3 O O O O Y O O O O O
 ·intro cD;refine Vg (Yf qP O) (Vg (Yd 0 O O O aj) (Vg (aF O O) ?_));exact Gt 3 O O O
 refine V0 (Ym O) ?_;apply La 3 O O O O Y O O O O O
 ·intro bR;refine Vg (Yf AO O) (Vg (Yd 0 O O O aj) (Vg (aF O O) ?_));exact Gt 3 O O O
 refine V0 (Ya O) (Ln (Et (Cs (Cs (Cr (V0 (Yf Mj O) (V0 (Yd 0 O O O aj) (Ln (Et (Cb (Cs (Cr (V0 (aF O O) (V0 (Ya O) (Ln (Et ?_))))))))))))))));refine Cc O (λad=>?_) (λad=>?_)
 ·have ho:x.op=1:=by simpa using ad
  refine Cs (Cr (V0 (Ym O) (V0 (Ym O) ?_)));apply La 2 O O O O Y O O O O O
  ·intro gP;refine Vg (Ym O) (Vg (aF O O) ?_);exact Gt 2 O O O
  refine V0 (Ym O) ?_;apply La 3 O O O O Y O O O O O
  ·intro mC;refine Vg (Yf AO O) (Vg (Yd 0 O O O aj) (Vg (aF O O) ?_));exact Gt 3 O O O
  refine V0 (Ym O) ?_;apply La 17 O O O O Y O O O O O
  ·intro x0;refine Vg (Yf pG O) (Vg (Yd 0 O O O aj) (Vg (aF O O) (Vg (Ym O) ?_)));apply La 4 O O O O (.g O O O) O O O O O
   ·intro oD;refine Vg (Ym O) (Vg (Yf qP O) (Vg (Yd 0 O O O aj) (Lp (.g O O O) O abv O (λw hw=>abx HV HK vb ka kc kn ax x.pl w (hw.vs _ (by simp)) (hw.vs _ (by simp)) h0 h1 ec) ?_)));exact Gt 4 O O O
   refine Vg (Ym O) ?_;apply Lo 6 O O O O (.g O O O) O O O O O
   ·intro DD;refine Vg (Ym O) (Vg (Yf pG O) (Vg (Yd 0 O O O aj) (Vg (Yf qP O) (Vg (Yd 0 O O O aj) (Lp (.g O O O) O Md O (λw hw=>Me HV HK vb ka kc kn ax x.m x.pl 1 w (hw.vs _ (by simp)) (hw.vs _ (by simp)) h0 h1 ec (by omega)) ?_)))));exact Gt 6 O O O
   exact Gt 7 O O O
  refine V0 (Ya O) (Ln (Et (aw (bt (Er ?_)))));refine R1 O O λw' hw=>?_;exact ⟨by rw [oh,if_pos ho],hw.fr⟩
 have ir:¬x.op=1:=by simpa using ad
 refine Cs (Cr (V0 (aF O O) (V0 (Ya O) (Ln (Et ?_)))));refine Cc O (λaq=>?_) (λaq=>?_)
 ·have ho:x.op=2:=by simpa using aq
  refine Cs (Cr (V0 (Ym O) (V0 (Ym O) ?_)));apply La 2 O O O O Y O O O O O
  ·intro DE;refine Vg (Ym O) (Vg (aF O O) ?_);exact Gt 2 O O O
  refine V0 (Ym O) ?_;apply La 3 O O O O Y O O O O O
  ·intro Mh;refine Vg (Yf AO O) (Vg (Yd 0 O O O aj) (Lp (.g O O O) O abt O (λw hw=>aby _ w) ?_));exact Gt 3 O O O
  refine V0 (Ym O) ?_;apply La 8 O O O O Y O O O O O
  ·intro Hq
   have R2:0<=x.n/\x.n<=32:=by
     have h9:=(Bool.and_eq_true_iff.1 Hq).2;unfold E8 at h9;simp at h9;omega
   refine Vg (Ym O) (Vg (Yf pG O) (Vg (Yd 0 O O O aj) (Vg (Yf qP O) (Vg (Yd 0 O O O aj) (Vg (Yf AO O) (Vg (Yd 0 O O O aj) (Lp (.g O O O) O Md O (λw hw=>Me HV HK vb ka kc kn ax x.m x.pl x.n w (hw.vs _ (by simp)) (hw.vs _ (by simp)) h0 h1 ec R2) ?_)))))));exact Gt 8 O O O
  refine V0 (Ya O) (Ln (Et (aw (bt (Er ?_)))));refine R1 O O λw' hw=>?_;exact ⟨by rw [oh,if_neg ir,if_pos ho],hw.fr⟩
 have fZ:¬x.op=2:=by simpa using aq
 refine Cs (Cr (V0 (aF O O) (V0 (Ya O) (Ln (Et ?_)))));refine Cc O (λay=>?_) (λay=>?_)
 ·have ho:x.op=3:=by simpa using ay
  refine Cs (Cr (V0 (Ym O) (V0 (Ym O) ?_)));apply La 3 O O O O Y O O O O O
  ·intro R3;refine Vg (Yf AO O) (Vg (Yd 0 O O O aj) (Vg (aF O O) ?_));exact Gt 3 O O O
  refine V0 (Ym O) ?_;apply La 7 O O O O Y O O O O O
  ·intro R4;refine Vg (Ym O) (Vg (Yf pG O) (Vg (Yd 0 O O O aj) (Vg (Yf qP O) (Vg (Yd 0 O O O aj) (Vg (Ym O) (Lp (.g O O O) O abu O (λw hw=>abw HV HK vb ka kc kn ax x.m x.pl x.args.length w (hw.vs _ (by simp)) (hw.vs _ (by simp)) h0 h1 ec) ?_))))));exact Gt 7 O O O
  refine V0 (Ya O) (Ln (Et (aw (bt (Er ?_)))));refine R1 O O λw' hw=>?_;exact ⟨by rw [oh,if_neg ir,if_neg fZ,if_pos ho],hw.fr⟩
 have gW:¬x.op=3:=by simpa using ay
 refine Cs (Cr (V0 (aF O O) (V0 (Ya O) (Ln (Et ?_)))));refine Cc O (λaJ=>?_) (λaJ=>?_)
 ·have ho:x.op=4:=by simpa using aJ
  refine Cs (Cr (V0 (Ym O) (V0 (Ym O) ?_)));apply La 2 O O O O Y O O O O O
  ·intro R5;refine Vg (Ym O) (Vg (aF O O) ?_);exact Gt 2 O O O
  refine V0 (Ya O) (Ln (Et (aw (bt (Er ?_)))));refine R1 O O λw' hw=>?_;exact ⟨by rw [oh,if_neg ir,if_neg fZ,if_neg gW,if_pos ho],hw.fr⟩
 have iS:¬x.op=4:=by simpa using aJ
 refine Cs (Cr (V0 (aF O O) (V0 (Ya O) (Ln (Et ?_)))));refine Cc O (λaU=>?_) (λaU=>?_)
 ·have ho:x.op=5:=by simpa using aU
  refine Cs (Cr (V0 (Ym O) (V0 (Ym O) ?_)));apply La 2 O O O O Y O O O O O
  ·intro abz;refine Vg (Ym O) (Vg (aF O O) ?_);exact Gt 2 O O O
  refine V0 (Ym O) ?_;apply La 4 O O O O Y O O O O O
  ·intro abA;refine Vg (Yf AP O) (Vg (Yd 0 O O O oQ) (Vg (Yn u4 O) (Vg (aF O O) ?_)));exact Gt 4 O O O
  refine V0 (Ya O) (Ln (Et (aw (bt (Er ?_)))));refine R1 O O λw' hw=>?_;exact ⟨by rw [oh,if_neg ir,if_neg fZ,if_neg gW,if_neg iS,if_pos ho],hw.fr⟩
 have lY:¬x.op=5:=by simpa using aU
 refine WC.ES (ι:=Bool) (λbb=>[(5,.int .i64 (x.args.length:Int)),(6,.bool ((x.body.length:Int)+(x.other.length:Int)==0)),(7,.bool (((x.m==0)&&(x.pl==0))&&(x.n==0))),(124,.bool bb)]) (λbb=>Ws w [] [ab b3 (.cells (vx x r).toArray 191 (0,0))] [HV,HK]) (λbb=>bb=decide (x.op=6\/x.op=7)) ?_ ?_
 ·refine Cs (Cr (V0 (aF O O) (V0 (Ya O) (Ln (Et ?_)))));refine Cc O (λbd=>?_) (λbd=>?_)
  ·refine Ck ?_
   exact Em (x.op==6) (by have h9:x.op=6:=(by simpa using bd); rw [h9]; decide) (sc O (sc O (sc O (sc O sn)))) (λ_ h=>by
     have h:=h.ar 0 rfl
     exact h)
  have qR:¬x.op=6:=by simpa using bd
  refine Cr (V0 (aF O O) (V0 (Ya O) (Ln ?_)))
  exact Em (x.op==7) (by rw [Bool.eq_iff_iff]; simp; omega) (sc O (sc O (sc O (sc O sn)))) (λ_ h=>by
    have h:=h.ar 0 rfl
    exact h)
 intro bb Hs;refine Cc O (λbh=>?_) (λbh=>?_)
 ·refine Cs (Cr (V0 (Ym O) (V0 (Ym O) ?_)));apply La 1 O O O O Y O O O O O
  ·intro abB;refine Vg (Ym O) ?_;exact Gt 1 O O O
  refine V0 (Ym O) ?_;apply La 2 O O O O Y O O O O O
  ·intro Hr;refine Vg (Ym O) (Vg (aF O O) ?_);exact Gt 2 O O O
  refine V0 (Ya O) (Ln (Et (aw (bt (Er ?_)))));refine R1 O O λw' hw=>?_;exact ⟨by rw [oh,if_neg ir,if_neg fZ,if_neg gW,if_neg iS,if_neg lY,if_pos (of_decide_eq_true (Hs.symm.trans bh))],hw.fr⟩
 refine Ck (Eb (Et (Cs (Cr (V0 (Ya O) (Ln (Et (aw ?_))))))));refine R1 O O λw' hw=>?_;exact ⟨by rw [oh,if_neg ir,if_neg fZ,if_neg gW,if_neg iS,if_neg lY,if_neg (of_decide_eq_false (Hs.symm.trans bh))],hw.fr⟩
theorem abE (HV HK:View) (vb:Nat) (ka:Option Addr) (kc:Nat) (kn:List cW) (ax:Int) (H:View) (ke k:Nat) (l:List cB) (a:Option Addr) (c:Nat) (d:Nat) (w:World) (pI:Le HV w) (pJ:Le HK w) (h0:vc HV vb 0=some (.slice ka kn.length kc)) (h1:vc HV vb 1=some (.int .i64 ax)) (ec:Sl qi 3 HK ka kc kn) (hH:Le H w) (hl:Sl (iA ke k) 7 H a c l) (hd:d<=7) :
   Calls Tryz.prog 106 #[.pointer (some ⟨vb,0,none⟩),.slice a l.length c,.int .i64 (d:Int)] w λe w'=>e = .returned (.bool (je kn ax l d))/\Ext w w':=by
 have DA:=ec.cap;have DB:=ec.max
 induction k using Nat.strongRecOn generalizing l a c d w
 rename_i k ih;have dN:=hl.cap;have ek:=hl.max;refine enter Tryz.func106 O 68 O O ?_;refine CE (Vs:=[HV,HK,H]) (Ws.init (by simp [pI,pJ,hH])) (Cs (Cr (V0 (Ya O) (Ln (Et (Cs (Cs (Cr (V0 (Ym O) (V0 (bX O O) (V0 (Ym O) ?_)))))))))));apply Lo 3 O O O O Y O O O O O
 ·intro cD;refine Vg (Ym O) (Vg (Yn u4 O) (Vg (bX O O) ?_));exact Gt 3 O O O
 refine Ln (Et ?_);refine Cc O (λad=>?_) (λad=>?_)
 ·refine Cs (Cr (V0 (Ya O) (Ln (Et (aw (Er ?_))))));refine R1 O O λw' hw=>?_;exact ⟨by rw [afI kn ax l d ad],hw.fr⟩
 have eL:=afJ ad;refine Ck (Et (Cs (Cs (Cr (V0 (Ym O) (V0 (Yn u4 O) (V0 (Ym O) (Ln (Et (Cb ?_))))))))));refine CW (ι:=Nat) (λi=>[(18,.int .i64 (i:Int))]) [(0,_),(2,_),(16,_),(17,_)] (λi=>i<=l.length/\(l.take i).all (tJ kn ax · d)=true) (λi=>l.length-i) 0 ⟨Nat.zero_le _,O⟩ (sc O (sc O (sc O (sc O (sc O sn))))) ?_;intro i ⟨hi,bN⟩;refine Cs (Cr (V0 (a_ O O) (Ln (Et (Cs ?_)))));refine Cc O (λaq=>?_) (λaq=>?_)
 ·have av:i<l.length:=by simpa using aq
  obtain ⟨x,bu⟩:∃q,l[i]? = some q:=⟨_,List.getElem?_eq_getElem av⟩;obtain ⟨e9,e_,ft,cS⟩:=hl.aO i x bu
  obtain ⟨k2,rfl⟩:∃k2,k=k2+1:=by
    cases k with
    | zero=>exact cS.elim
    | succ k2=>exact ⟨k2,rfl⟩
  obtain ⟨r,bQ,kG,jG,lp⟩:=cS;have ah8:=jG.cap;have max2:=jG.max;have ah9:=lp.cap;have ah':=lp.max;refine Ck (Et (Cs (Cb (Cs (Cr (V0 (Yo u4 O O ft av) (V0 (cF 2 Dt O O O (bQ)) ?_)))))));refine Al Y O G_ λb8=>?_;refine ak 0 Y O O O LO O O O (Ln (Et (Cs (eY 0 (.cells (vx x r).toArray 191 (0,0)) O O (Cr (V0 (Ym O) (V0 (bC 0 O O Dt O) (Lp Y O apU O (λw hw=>apW HV HK vb ka kc kn ax x r w (hw.vs _ (by simp)) (hw.vs _ (by simp)) h0 h1 ec (by omega) (by omega)) (V0 (dw O) ?_)))))))));refine V0 (Ym O) ?_;apply Lo 5 O O O O Y O O O O O
  ·intro bR;refine Vg (Ym O) (Vg (Yf sP O) (Vg (Yd 0 O O O kS) (Lp (.g O O O) O abD O (λw hw=>apV HV HK vb ka kc kn ax H ke x.args r.s1.1 r.s1.2 1 w (hw.vs _ (by simp)) (hw.vs _ (by simp)) h0 h1 ec (hw.vs _ (by simp)) kG (by omega)) (Vg (dw O) ?_))));exact Gt 5 O O O
  refine V0 (Ym O) ?_;apply Lo 17 O O O O Y O O O O O
  ·intro gP;refine Vg (Yf Mj O) (Vg (Yd 0 O O O aj) (Vg (aF O O) (Vg (Ym O) ?_)));apply Lo 3 O O O O (.g O O O) O O O O O
   ·intro mC;refine Vg (Yf Mj O) (Vg (Yd 0 O O O aj) (Vg (aF O O) ?_));exact Gt 3 O O O
   refine Vg (Ym O) ?_;apply La 7 O O O O (.g O O O) O O O O O
   ·intro x0;refine Vg (Ym O) (Vg (Yf Ha O) (Vg (Yd 0 O O O oQ) (Vg (Ym O) (Vg (Yi O O O (by omega)) (Lp (.g O O O) O Mk O (λw hw=>ih k2 (by omega) x.body r.s2.1 r.s2.2 (d+1) w (hw.vs _ (by simp)) (hw.vs _ (by simp)) (hw.vs _ (by simp)) jG (by omega)) (Vg (dw O) ?_))))));exact Gt 7 O O O
   exact Gt 7 O O O
  refine V0 (Ym O) ?_;apply Lo 13 O O O O Y O O O O O
  ·intro oD;refine Vg (Yf AP O) (Vg (Yd 0 O O O oQ) (Vg (Yn u4 O) (Vg (bX O O) (Vg (Ym O) ?_))));apply La 7 O O O O (.g O O O) O O O O O
   ·intro DD;refine Vg (Ym O) (Vg (Yf AP O) (Vg (Yd 0 O O O oQ) (Vg (Ym O) (Vg (Yi O O O (by omega)) (Lp (.g O O O) O Mk O (λw hw=>ih k2 (by omega) x.other r.s3.1 r.s3.2 (d+1) w (hw.vs _ (by simp)) (hw.vs _ (by simp)) (hw.vs _ (by simp)) lp (by omega)) (Vg (dw O) ?_))))));exact Gt 7 O O O
   exact Gt 6 O O O
  refine Ln (Et ?_);rw [afH];refine Cc O (λay=>?_) (λay=>?_)
  ·have hx:tJ kn ax x d=false:=by simpa using ay
   refine Cs (Cr (V0 (Ya O) (Ln (Et (aw (bt (Er (Er (bt (Er ?_))))))))));refine R1 O O λw' hw=>?_;exact ⟨by rw [VT kn ax eL,E' bu hx],hw.fr⟩
  have hx:tJ kn ax x d=true:=by simpa using ay
  refine Ck (Eb (Et (Cr (V0 (Yi O O O (by omega)) (V0 (Ym O) (Ln ?_))))));exact Ea (i+1) (by omega) ⟨by omega,zA bu bN hx⟩ (sc O (sc O (sc O (sc O (sc O sn))))) (λ_ h=>Wd 1 h)
 have cC:¬i<l.length:=by simpa using aq
 rw [List.take_of_length_le (by omega)] at bN;refine Ce (Ex (Ex (bK (Et (Cs (Cr (V0 (Ya O) (Ln (Et (aw ?_))))))))));refine R1 O O λw' hw=>?_;exact ⟨by rw [VT kn ax eL,bN],hw.fr⟩
abbrev XK:=cW×(Option Addr×Nat)
def XK.cells (e:XK):List Value:=e.1.cells e.2
theorem XK.aX (e:XK):(XK.cells e).length=3:=rfl
theorem XK.one (e:XK):(XK.cells e).all (·.oneCell')=true:=rfl
def Ml (H:View) (b o:Nat) (e:XK):Prop:=aP H b o (XK.cells e)
def AX (J:View) (e:XK):Prop:=Sl iN 1 J e.2.1 e.2.2 e.1.parts
theorem AX.mv {A B:View} {e:XK} (hv:aN A B) (h:AX A e):AX B e:=h.imp λ_ _ _ r=>aP.mono hv r
def abF (H:View) (b o:Nat) (e:XK):Prop:=aP H b o (XK.cells e)/\AX H e
theorem apX {H:View} {a:Option Addr} {c:Nat} {l:List cW} (h:Sl qi 3 H a c l):∃ys:List XK,ys.map (·.1)=l/\Sl abF 3 H a c ys:=by
 obtain ⟨ys,h1,h2⟩:=Xe (β:=Option Addr×Nat) (p:=λi x r=>∃b o,a=some ⟨b,o,none⟩/\aP H b (o+i*3) (cW.cells x r)/\Sl iN 1 H r.1 r.2 x.parts) l 0 λi x hx=>by
   obtain ⟨b,o,ha,r,hr,hm⟩:=h.aO i x hx;exact ⟨r,b,o,ha,by rw [Nat.zero_add]; exact hr,hm⟩
 have hl:ys.length=l.length:=by rw [<-h1,List.length_map]
 refine ⟨ys,h1,by rw [hl]; exact h.cap,h.max,h.spot,λi y hy=>?_⟩;obtain ⟨b,o,ha,hr,hm⟩:=h2 i y hy;rw [Nat.zero_add] at hr;exact ⟨b,o,ha,hr,hm⟩
theorem abG {K N:View} {a:Option Addr} {c:Nat} {es:List XK} (h:Sl Ml 3 K a c es) (hv:aN K N) (he:∀e ∈ es,AX N e):Sl qi 3 N a c (es.map (·.1)):=by
 refine ⟨by rw [List.length_map]; exact h.cap,h.max,h.spot,λi x hx=>?_⟩;rw [List.getElem?_map] at hx;obtain ⟨y,hy,rfl⟩:=Option.map_eq_some_iff.1 hx;obtain ⟨b,o,ha,hr⟩:=h.aO i y hy;exact ⟨b,o,ha,y.2,aP.mono hv hr,he y (List.mem_of_getElem? hy)⟩
theorem apY {u:ez} (h:Cm u=false):u.parts.length<=6/\u.ae.length<=3/\0<=u.data/\u.data<=512:=by
 unfold Cm at h;simp only [Bool.or_eq_false_iff,decide_eq_false_iff_not] at h;omega
theorem apZ {kn:List cW} {x:jc} (h:(((decide (x.params<0)||decide (3<x.params))||decide (x.locals<0))||decide (4<x.locals))=true):qj kn x=false:=by unfold qj; rw [h]; rfl
theorem ap0 {kn:List cW} {x:jc} (h:(((decide (x.params<0)||decide (3<x.params))||decide (x.locals<0))||decide (4<x.locals))=false):qj kn x=je kn (x.params+x.locals) x.body 1:=by unfold qj; rw [h]; rfl
theorem ap1 (b:Bool):decide (1<(if b=true then (1:Int) else 0)+1)=b:=by cases b<;>decide
theorem Mm:aZ Tryz.prog 58 2=some 2:=by kernel_rfl
theorem ap2:fh Tryz.prog 152=some [(0,1),(1,1),(2,1)]:=by kernel_rfl
theorem AY:dQ Tryz.prog 55=some 3:=by kernel_rfl
theorem Mn:fg Tryz.prog 125=some 3:=by kernel_rfl
theorem R6:cG Tryz.prog 125=some 3:=by kernel_rfl
theorem Ht:aZ Tryz.prog 125 0=some 0:=by kernel_rfl
theorem f_:fk Tryz.prog 25 3 (.int .i64 0) 1 8:=iw (by kernel_rfl)
theorem lZ:cG Tryz.prog 25=some 1:=by kernel_rfl
theorem R7:aZ Tryz.prog 58 0=some 0:=by kernel_rfl
theorem Mo:aZ Tryz.prog 58 1=some 1:=by kernel_rfl
theorem ap3:Enters Tryz.prog 82:=enters_of Tryz.func82 (by kernel_rfl) rfl
theorem R8:fk Tryz.prog 150 152 (.agg #[.bool false,.int .i64 0,.slice none 0 0]) 3 40:=iw (by kernel_rfl)
theorem ap4:fh Tryz.prog 187=some [(0,1),(1,1)]:=by kernel_rfl
theorem ap5:zeroOf Tryz.prog 187=some (.agg #[.slice none 0 0,.int .i64 0]):=by kernel_rfl
theorem Mp:aZ Tryz.prog 125 1=some 1:=by kernel_rfl
theorem abH:aZ Tryz.prog 125 2=some 2:=by kernel_rfl
theorem ap6 (H:View) (ke k:Nat) (u:ez) (r:kZ) (w:World) (hH:Le H w) (hu:k6 ke k H r u) (hp:u.parts.length<=1048576) :
   Calls Tryz.prog 82 #[.agg (fo u r).toArray] w λe w'=>∃q:Option Addr×Nat,e = .returned (.agg ((gF u).cells q).toArray)/\Ext w w'/\Sl iN 1 (nv w w') q.1 q.2 (gF u).parts:=by
 have dN:=hu.parts.cap;have ek:=hu.parts.max;refine enter Tryz.func82 O 25 O O ?_;refine CE (Vs:=[H]) (Ws.init (by simp [hH])) (Cs (Cr ?_));refine WL.box Y O O λb1=>?_;refine Al Y O Hp λb2=>?_;refine Ln (Et (Cs (Cr (V0 (Yf Mm O) (V0 (Yd 1 O O O aj) (V0 (Yb Hp ap2 O O) ?_))))));refine Al Y O Hp λb3=>?_;refine ak 0 Y O O O Mb O O O (Ln (Et (Cs (Cs (eY 0 (.cells #[.bool true,.int .i64 u.data,.slice none 0 0] 152 (0,0)) O O (Cr (V0 (Yf Dx O) (V0 (Yd 2 O O O Hg) (V0 (Yn AY O) (V0 (Ym O) ?_))))))))));refine LW (λ_ h=>h.fj 3 1) (Ln (Et (Cb ?_)));refine ct (ι:=Nat×(Option Addr×Nat)) (λg=>[(12,.int .i64 (g.1:Int))]) [(2,_),(3,_),(10,_),(11,_)] (λg=>Ws w [] [bj 3 1 im g.2.1 g.2.2 ((u.parts.take g.1).map (·.params)),ab b3 (.cells #[.bool true,.int .i64 u.data,.slice g.2.1 ((u.parts.take g.1).map (·.params)).length g.2.2] 152 (0,0)),ab b2 (.cells #[.bool false,.int .i64 0,.slice none 0 0] 152 (0,0)),ab b1 (.cells (fo u r).toArray 58 (0,0))] [H]) (λg=>g.1<=u.parts.length) (λg=>u.parts.length-g.1) (0,(none,0)) (Nat.zero_le _) (sc O (sc O (sc O (sc O (sc O sn))))) (λ_ h=>h) ?_;intro g u1;refine Cs (Cr (V0 (a_ O O) (Ln (Et (Cs ?_)))));refine Cc O (λad=>?_) (λad=>?_)
 ·have av:g.1<u.parts.length:=by simpa using ad
  obtain ⟨x,bu⟩:∃q,u.parts[g.1]? = some q:=⟨_,List.getElem?_eq_getElem av⟩;obtain ⟨e9,e_,ft,cS⟩:=hu.parts.aO g.1 x bu;obtain ⟨xr,bQ,gM⟩:=cS
  have hT:(u.parts.take (g.1+1)).map (·.params)=(u.parts.take g.1).map (·.params)++[x.params]:=by rw [List.take_add_one,bu]; simp
  have hL:((u.parts.take g.1).map (·.params)).length=g.1:=by simp; omega
  refine Ck (Et (Cs (Cb (Cs (Cr (V0 (Yo AY O O ft av) (V0 (cF 0 Mn O O O (bQ)) ?_)))))));refine Al Y O Hh λb5=>?_;refine ak 0 Y O O O R6 O O O (Ln (Et (eY 0 (.cells (B7 x xr).toArray 125 (0,0)) O O (Cr (V0 (Yf Mc O) (V0 (Yd 2 O O O dt) (V0 (Yf Ht O) (V0 (Yd 0 O O O aj) ?_))))))));refine Lb Y O f_ O O O O λkb=>?_;refine bI 0 (.cells (im x.params).toArray 3 (0,0)) O (O) ?_;refine LA (x.params) 2 0 Y O f_ O O O O O O (by omega) (by omega) λa21 c21=>?_;refine V0 (Yf Mc O) (ak 3 Y O O O lZ O O O (Ln (Eb (Et (Cr (V0 (Yi O O O (by omega)) (V0 (Ym O) (LW (λ_ h=>h.fj 3 1) (Ln ?_)))))))));rw [<-hT];exact Ea ((g.1+1,(a21,c21)):Nat×(Option Addr×Nat)) (by show _-(g.1+1)<_; omega) (by show g.1+1<=_; omega) (sc O (sc O (sc O (sc O (sc O sn))))) (λ_ h=>Wd 3 h)
 have cC:g.1=u.parts.length:=by simp at ad; omega
 rw [cC,List.take_length];refine Ce (Ex (Ex (bK (Et (Cs (Cr (V0 (bC 1 O O Ma O) (ak 2 Y O O O Mb O O O (Ln (Et (aw ?_)))))))))));refine WE.Ug 2 O O O Ma O λw' hw=>?_;exact ⟨g.2,O,hw.fr,hw.gB 0 O vA (λ_ _ _ _ h=>h)⟩
theorem ap7 (H HU:View) (ke k:Nat) (u:ez) (r:kZ) (us:List cW) (ua:Option Addr) (uc:Nat) (w:World) (hH:Le H w) (hHU:Le HU w) (hu:k6 ke k H r u) (hus:Sl qi 3 HU ua uc us) (hul:us.length<=1048576) :
   Calls Tryz.prog 83 #[.agg (fo u r).toArray,.slice ua us.length uc] w λe w'=>e = .returned (.bool (tK u us))/\Ext w w':=by
 have dN:=hu.ae.cap;have ek:=hu.ae.max;have ap_:=hu.parts.cap;have aqa:=hu.parts.max;refine enter Tryz.func83 O 115 O O ?_;refine CE (Vs:=[H,HU]) (Ws.init (by simp [hH,hHU])) (Cs (Cr ?_));refine WL.box Y O O λb2=>?_;refine V0 (Ya O) (Ln (Et (Cs (Cr ?_))));refine WL.tz st Y O λsA=>?_;refine V0 (Yf R7 O) (V0 (Yd 1 O O O cO) ?_);refine WL.m_ 0 jR Y jI eF O O O O ?_;refine V0 (Ym O) (V0 (Ya O) (Ln (Et (Cs (Cs (Cr (V0 (Yf Mo O) (V0 (Yd 1 O O O eH) (V0 (Yn dA O) (V0 (Ym O) (Ln (Et (Cb ?_)))))))))))));refine ct (ι:=Nat) (λi=>[(18,.int .i64 (i:Int))]) [(1,_),(2,_),(5,_),(16,_),(17,_)] (λi=>Ws w [] [ab sA (bz st (nn (u.nm::u.ae.take i) 0) (u.nm::u.ae.take i).length),ab b2 (.cells (fo u r).toArray 58 (0,0))] [H,HU]) (λi=>i<=u.ae.length/\(u.nm::u.ae.take i).Nodup/\(u.ae.take i).all dG=true) (λi=>u.ae.length-i) 0 ⟨Nat.zero_le _,by simp,O⟩ (sc O (sc O (sc O (sc O (sc O (sc O sn)))))) (λ_ h=>h) ?_;intro i ⟨hi,pE,bN⟩;refine Cs (Cr (V0 (a_ O O) (Ln (Et (Cs ?_)))));refine Cc O (λad=>?_) (λad=>?_)
 ·have av:i<u.ae.length:=by simpa using ad
  obtain ⟨s,fy⟩:∃q,u.ae[i]? = some q:=⟨_,List.getElem?_eq_getElem av⟩;obtain ⟨pH,pos,has,gK⟩:=hu.ae.aO i s fy;have gK:aP H pH (pos+i*1) (dJ s):=gK;refine Ck (Et (Cs (Cb (Cs (Cr (V0 (Yo dA O O has av) (V0 (bL 0 cO O O (gK 0 _ O)) (V0 (Ya O) (Ln (Et (Cs (Cr (V0 (Ym O) (V0 (Ym O) (V0 (BW 0 jR jI eF oM O O O) ?_)))))))))))))));rw [afS];refine V0 (jz O O (by split<;>omega)) ?_;refine WL.xy 0 jR Y jI eF O O O O ?_;refine Ln (Et (Cs (Cr (V0 (Ym O) (V0 (Ym O) (V0 (BW 0 jR jI eF oM O O O) ?_))))));rw [Co];refine V0 (bX O O) ?_;rw [ap1];refine V0 (Ym O) ?_;apply Lo 3 (x:=!(dG s)) O O O O Y O O O O O
  ·intro cD;refine Vg (Ym O) (Lp (.g O O O) O sv O (λw hw=>su _ w) (Vg (dw O) ?_));exact Gt 3 O O O
  refine Ln (Et ?_);refine Cc O (λaq=>?_) (λaq=>?_)
  ·have Mq:(u.nm::u.ae.take i).contains s=true\/dG s=false:=by
     have h9:=aq
     cases iI:(u.nm::u.ae.take i).contains s with
     | true=>exact .inl rfl
     | false=>rw [iI] at h9; exact .inr (by simpa using h9)
   refine Cs (Cr (V0 (Ya O) (Ln (Et (aw (bt (Er (Er (bt (Er ?_))))))))));refine R1 O O λw' hw=>?_;exact ⟨by rw [tK,afT fy Mq]; rfl,hw.fr⟩
  obtain ⟨iI,hnb⟩:(u.nm::u.ae.take i).contains s=false/\dG s=true:=by
    have h9:=Bool.or_eq_false_iff.1 aq;exact ⟨h9.1,by simpa using h9.2⟩
  have hT:(u.nm::u.ae.take i)++[s]=u.nm::u.ae.take (i+1):=by rw [List.take_add_one,fy]; simp
  rw [iI,show ((if false=true then (1:Int) else 0)+1)=1 from rfl,(V4 iI).1,(V4 iI).2,hT]
  have Hn:(u.nm::u.ae.take (i+1)).Nodup:=by
    rw [<-hT,List.nodup_append];refine ⟨pE,by simp,λa ha b hb e=>?_⟩;rw [List.mem_singleton] at hb; subst hb; subst e
    have h9:(u.nm::u.ae.take i).contains a=true:=by simpa using ha
    rw [iI] at h9; cases h9
  refine Ck (Eb (Et (Cr (V0 (Yi O O O (by omega)) (V0 (Ym O) (Ln ?_))))));exact Ea (i+1) (by omega) ⟨by omega,Hn,zA fy bN hnb⟩ (sc O (sc O (sc O (sc O (sc O (sc O sn)))))) (λ_ h=>h)
 have cC:i=u.ae.length:=by simp at ad; omega
 rw [cC,List.take_length] at pE bN;refine Ce (Ex (Ex (bK (Et (Cs (Cs (Cr (V0 (Yf R7 O) (V0 (Yd 1 O O O cO) (Lp Y O sv O (λw hw=>su _ w) (V0 (dw O) (V0 (Ym O) ?_))))))))))));apply Lo 4 O O O O Y O O O O O
 ·intro bR;refine Vg (Yf Mo O) (Vg (Yd 1 O O O eH) (Vg (Yn dA O) (Vg (bX O O) ?_)));exact Gt 4 O O O
 refine V0 (Ym O) ?_;apply Lo 3 O O O O Y O O O O O
 ·intro gP;refine Vg (Yf Mm O) (Vg (Yd 1 O O O aj) (Vg (a_ O O) ?_));exact Gt 3 O O O
 refine V0 (Ym O) ?_;apply Lo 3 O O O O Y O O O O O
 ·intro mC;refine Vg (Yf Mm O) (Vg (Yd 1 O O O aj) (Vg (bX O O) ?_));exact Gt 3 O O O
 refine V0 (Ym O) ?_;apply Lo 4 O O O O Y O O O O O
 ·intro x0;refine Vg (Yf Dx O) (Vg (Yd 1 O O O Hg) (Vg (Yn AY O) (Vg (bX O O) ?_)));exact Gt 4 O O O
 refine Ln (Et ?_);refine Cc O (λay=>?_) (λay=>?_)
 ·refine Cs (Cr (V0 (Ya O) (Ln (Et (aw (Er ?_))))));refine R1 O O λw' hw=>?_;exact ⟨by rw [tK,show Cm u=true from ay]; simp,hw.fr⟩
 have hhd:Cm u=false:=ay;obtain ⟨hp6,hu3,hd0,x8⟩:=apY hhd;refine Ck (Et (Cs ?_));obtain ⟨ys,I7,kq⟩:=apX hus
 have zu:ys.length=us.length:=by rw [<-I7,List.length_map]
 have Mr:∀q,([((gF u,q):XK)]++ys).length=(gF u::us).length:=λq=>by simp [zu]
 refine Cr (V0 (bC 1 O O jJ O) ?_);refine Ld Y O ap3 O (λq:Option Addr×Nat=>.agg ((gF u).cells q).toArray) (λF q=>Sl iN 1 F q.1 q.2 (gF u).parts) (λw hw=>ap6 H ke k u r w (hw.vs _ (by simp)) hu (by omega)) ?_;intro F63 Dp awV oX;refine Lb Y O R8 O O O O λb64=>?_;refine bI 0 (.cells (([(gF u,Dp)]:List XK).flatMap XK.cells).toArray 152 (0,0)) O O (LW (λ_ h=>h.n0 (f:=XK.cells) (xs:=[(gF u,Dp)]) (c:=1) 0 O XK.aX O (by decide)) (V0 (Ym O) ?_));refine WL.tx (f:=XK.cells) (rd:=abF) (xs:=[((gF u,Dp):XK)]) (ys:=ys) 0 (λ_=>HU) Y O R8 O (by show some (Value.slice ua us.length uc)=_; rw [<-zu]) O (λw hw=>⟨hw.vs HU (by simp),kq⟩) (λ_ _ _ _ h=>h.1) XK.aX XK.one (by simp; omega) (by simp; omega) λyw yx=>?_;refine V0 (Yb ap5 ap4 O O) ?_;refine WL.box Y O O λLs=>?_;refine bI 0 (.cells #[.slice yw (gF u::us).length yx,.int .i64 0] 187 (0,0)) O (congrArg (λn=>Obj.cells #[.slice yw n yx,.int .i64 0] 187 (0,0)) (Mr Dp)) (V0 (Ya O) (Ln (Et (Cs (Cs ?_)))));refine WC.p8 (rd:=Ml) 1 O XK.aX (λ_ _ _ _ h=>h) λK hK=>?_
 have fm:∀w,Le K w->Le F63 w->Le HU w->Sl qi 3 (hv w) yw yx (gF u::us):=λw g1 g2 g3=>by
   have h9:=abG hK (mW g1) λe he=>by
     rcases List.mem_append.1 he with he | he
     · rw [List.mem_singleton] at he; subst he; exact AX.mv (mW g2) oX
     · obtain ⟨q,hq⟩:=List.getElem?_of_mem he
       obtain ⟨_,_,_,_,h⟩:=kq.aO q e hq;exact AX.mv (mW g3) h
   rw [List.map_append,I7] at h9;exact h9
 refine Cr (V0 (Yf Dx O) (V0 (Yd 2 O O O Hg) (V0 (Yn AY O) (V0 (Ym O) (Ln (Et (Cb ?_)))))));refine ct (ι:=Nat×Int) (λg=>[(72,.int .i64 (g.1:Int))]) [(2,_),(8,_),(70,_),(71,_)] (λg=>Ws w [] [ab Ls (.cells #[.slice yw (gF u::us).length yx,.int .i64 g.2] 187 (0,0)),ab b2 (.cells (fo u r).toArray 58 (0,0))] [K,F63,H,HU]) (λg=>g.1<=u.parts.length/\(u.parts.take g.1).all (qj (gF u::us))=true) (λg=>u.parts.length-g.1) (0,0) ⟨Nat.zero_le _,O⟩ (sc O (sc O (sc O (sc O (sc O sn))))) (λ_ h=>(Wt 2 ((h.f 2 O).f 1 O):)) ?_;intro g ⟨u1,R9⟩;refine Cs (Cr (V0 (a_ O O) (Ln (Et (Cs ?_)))));refine Cc O (λaJ=>?_) (λaJ=>?_)
 ·have av:g.1<u.parts.length:=by simpa using aJ
  obtain ⟨x,bu⟩:∃q,u.parts[g.1]? = some q:=⟨_,List.getElem?_eq_getElem av⟩;obtain ⟨e9,e_,ft,cS⟩:=hu.parts.aO g.1 x bu;obtain ⟨xr,bQ,gM⟩:=cS;refine Ck (Et (Cs (Cb (Cs (Cr (V0 (Yo AY O O ft av) (V0 (cF 2 Mn O O O (bQ)) ?_)))))));refine Al Y O Hh λjq=>?_;refine ak 0 Y O O O R6 O O O (Ln (Et (Cs (Cs (eY 0 (.cells (B7 x xr).toArray 125 (0,0)) O O (Cr (V0 (Yf Ht O) (V0 (Yd 0 O O O aj) (V0 (a_ O O) (V0 (Ym O) ?_))))))))));apply Lo 3 O O O O Y O O O O O
  ·intro oD;refine Vg (Yf Ht O) (Vg (Yd 0 O O O aj) (Vg (bX O O) ?_));exact Gt 3 O O O
  refine V0 (Ym O) ?_;apply Lo 3 O O O O Y O O O O O
  ·intro DD;refine Vg (Yf Mp O) (Vg (Yd 0 O O O aj) (Vg (a_ O O) ?_));exact Gt 3 O O O
  refine V0 (Ym O) ?_;apply Lo 3 O O O O Y O O O O O
  ·intro DE;refine Vg (Yf Mp O) (Vg (Yd 0 O O O aj) (Vg (bX O O) ?_));exact Gt 3 O O O
  refine Ln (Et ?_);refine Cc O (λaU=>?_) (λaU=>?_)
  ·have hx:qj (gF u::us) x=false:=apZ aU;refine Cs (Cr (V0 (Ya O) (Ln (Et (aw (Er (bt (Er (Er (bt (Er ?_)))))))))));refine R1 O O λw' hw=>?_;exact ⟨by rw [tK,E' bu hx]; simp,hw.fr⟩
  have hpx:=ap0 (kn:=(gF u::us)) aU
  have sM:0<=x.params/\x.params<=3/\0<=x.locals/\x.locals<=4:=by
    simp only [Bool.or_eq_false_iff,decide_eq_false_iff_not] at aU; omega
  refine Ck (Et (Cs (Cr (V0 (Ym O) (V0 (Yf Ht O) (V0 (Yd 0 O O O aj) (V0 (Yf Mp O) (V0 (Yd 0 O O O aj) (V0 (jz O O (by omega)) (V0 (aQ O) ?_))))))))));refine V0 (Yf RY O) (ak 1 Y O O O bZ O O O (Ln (Et (Cs (eY 1 (.cells #[.slice yw (gF u::us).length yx,.int .i64 (x.params+x.locals)] 187 (0,0)) O O (Cr (V0 (Ym O) (V0 (Yf abH O) (V0 (Yd 0 O O O oQ) ?_)))))))));refine Lp Y O Mk O (λw hw=>abE (hv w) (hv w) Ls yw yx (gF u::us) (x.params+x.locals) H ke k x.body xr.1 xr.2 1 w (ix w) (ix w) (xE (hw.n_ 1 O) O) (xE (hw.n_ 1 O) O) (fm w (hw.vs _ (by simp)) (hw.vs _ (by simp)) (hw.vs _ (by simp))) (hw.vs _ (by simp)) gM (by omega)) (V0 (dw O) (Ln (Et ?_)));refine Cc O (λbd=>?_) (λbd=>?_)
  ·have hx:qj (gF u::us) x=false:=by rw [hpx]; simpa using bd
   refine Cs (Cr (V0 (Ya O) (Ln (Et (aw (bt (Er (Er (bt (Er ?_))))))))));refine R1 O O λw' hw=>?_;exact ⟨by rw [tK,E' bu hx]; simp,hw.fr⟩
  have hx:qj (gF u::us) x=true:=by rw [hpx]; simpa using bd
  refine Ck (Eb (Et (Cr (V0 (Yi O O O (by omega)) (V0 (Ym O) (Ln ?_))))));exact Ea ((g.1+1,x.params+x.locals):Nat×Int) (by show _-(g.1+1)<_; omega) ⟨(by show g.1+1<=_; omega),zA bu R9 hx⟩ (sc O (sc O (sc O (sc O (sc O sn))))) (λ_ h=>Wd 1 h)
 have x4:¬g.1<u.parts.length:=by simpa using aJ
 rw [List.take_of_length_le (by omega)] at R9;refine Ce (Ex (Ex (bK (Et (Cs (Cr (V0 (Ym O) (V0 (aQ O) (V0 (Yf RY O) (ak 0 Y O O O bZ O O O (Ln (Et (Cs (eY 0 (.cells #[.slice yw (gF u::us).length yx,.int .i64 0] 187 (0,0)) O O ?_))))))))))))));refine Cr (V0 (Ym O) (V0 (Yf RI O) (V0 (Yd 1 O O O oQ) (Lp Y O Mk O (λw hw=>abE (hv w) (hv w) Ls yw yx (gF u::us) 0 H ke k u.main r.s3.1 r.s3.2 1 w (ix w) (ix w) (xE (hw.n_ 0 O) O) (xE (hw.n_ 0 O) O) (fm w (hw.vs _ (by simp)) (hw.vs _ (by simp)) (hw.vs _ (by simp))) (hw.vs _ (by simp)) hu.main (by omega)) (V0 (Ya O) (Ln (Et (aw ?_))))))));refine R1 O O λw' hw=>?_;exact ⟨by rw [tK,afU pE bN,hhd,R9]; rfl,hw.fr⟩
theorem abL:dQ Tryz.prog 49=some 5:=by kernel_rfl
theorem aqc:Enters Tryz.prog 83:=enters_of Tryz.func83 (by kernel_rfl) rfl
theorem mK:aZ Tryz.prog 123 0=some 0:=by kernel_rfl
theorem iG:aZ Tryz.prog 27 3=some 3:=by kernel_rfl
theorem ep:dV Tryz.prog 23=true:=by kernel_rfl
theorem fG:fk Tryz.prog 23 67 (.agg #[.int .i64 0,.int .i64 0,.int .i64 0]) 3 24:=iw (by kernel_rfl)
theorem AZ:cG Tryz.prog 23=some 1:=by kernel_rfl
theorem et:dQ Tryz.prog 23=some 3:=by kernel_rfl
theorem qS:aZ Tryz.prog 27 4=some 4:=by kernel_rfl
theorem sQ:dV Tryz.prog 24=true:=by kernel_rfl
theorem aqd:fh Tryz.prog 70=some [(0,1),(1,1),(2,1)]:=by kernel_rfl
theorem A0:zeroOf Tryz.prog 70=some (.agg #[.int .i64 0,.int .i64 0,.int .i64 0]):=by kernel_rfl
theorem abM:fk Tryz.prog 24 70 (.agg #[.int .i64 0,.int .i64 0,.int .i64 0]) 3 24:=iw (by kernel_rfl)
theorem aqe:cG Tryz.prog 24=some 1:=by kernel_rfl
theorem yy:fg Tryz.prog 67=some 3:=by kernel_rfl
theorem kT:Enters Tryz.prog 87:=enters_of Tryz.func87 (by kernel_rfl) rfl
theorem R':dV Tryz.prog 120=true:=by kernel_rfl
theorem ga:fh Tryz.prog 67=some [(0,1),(1,1),(2,1)]:=by kernel_rfl
theorem fu:zeroOf Tryz.prog 67=some (.agg #[.int .i64 0,.int .i64 0,.int .i64 0]):=by kernel_rfl
theorem DG:Enters Tryz.prog 131:=enters_of Tryz.func131 (by kernel_rfl) rfl
theorem iV:aZ Tryz.prog 67 1=some 1:=by kernel_rfl
theorem kU (sb:Nat) (K:gG) (t:a8) (H:View) (a:Option Addr) (c:Nat) (l:List aI) (w:World) (hl:Sl eB 3 H a c l) (hb:t.g.code.length+l.length<=1000000000010) (hw:Ws w (List.flatMap ao.ids (aV 123 67 70 sb K t)) (aV 123 67 70 sb K t) [H] w) :
   Calls Tryz.prog 87 #[.pointer (some ⟨sb,0,none⟩),.slice a l.length c] w λe w'=>∃q:SP,e = .returned (.tuple #[])/\Ws w (List.flatMap ao.ids (aV 123 67 70 sb K t)) (aV 123 67 70 sb K ⟨aM l t.g,q,t.fa⟩) [H] w':=by
 have dN:=hl.cap;have ek:=hl.max;refine enter Tryz.func87 O 15 O O ?_;refine CE hw (Cr (V0 (Ym O) (V0 (Ym O) (V0 (aQ O) (V0 (Yf mK O) (V0 (Yf iG O) (V0 (Yd 0 O O O ep) ?_)))))));refine V0 (Ym O) ?_;refine WL.tx (xs:=t.g.code) (ys:=l) 1 (λ_=>H) Y O fG O O O (λw hw=>⟨hw.vs H (by simp),hl⟩) (λ_ _ _ _ h=>h) aI.aX aI.one (by omega) (by omega) λa11 c11=>?_;refine V0 (aQ O) (V0 (Yf mK O) (V0 (Yf iG O) (ak 0 Y O O O AZ O O O (Ln ?_))));refine E0 O λw' hw=>?_;exact ⟨(a11,c11),O,hw⟩
theorem DH (sb:Nat) (K:gG) (t:a8)  (i:aI) (kind m:Int) (w:World)  (hb:t.g.code.length+1<=1000000000000) (pK:t.g.fix.length+1<=1000000000000) (hw:Ws w (List.flatMap ao.ids (aV 123 67 70 sb K t)) (aV 123 67 70 sb K t) [] w) :
   Calls Tryz.prog 131 #[.pointer (some ⟨sb,0,none⟩),.agg i.cells.toArray,.int .i64 kind,.int .i64 m] w λe w'=>∃q:SP×SP,e = .returned (.int .i64 (t.g.code.length:Int))/\Ws w (List.flatMap ao.ids (aV 123 67 70 sb K t)) (aV 123 67 70 sb K ⟨au i kind m t.g,q.1,q.2⟩) [] w':=by
 refine enter Tryz.func131 O 36 O O ?_;refine CE hw (Cs (Cr ?_));refine WL.box Y O O λb5=>?_;refine V0 (Ya O) (Ln (Et (Cs (Cr (V0 (Ym O) (V0 (aQ O) (V0 (Yf mK O) (V0 (Yf iG O) (V0 (Yd 1 O O O ep) (V0 (Yn et O) ?_))))))))));refine V0 (Ya O) (Ln (Et (Cs (Cr (V0 (Ym O) (V0 (Ym O) (V0 (aQ O) (V0 (Yf mK O) (V0 (Yf qS O) (V0 (Yd 1 O O O sQ) ?_))))))))));refine V0 (Ym O) (V0 (Ym O) (V0 (Ym O) (V0 (Yb A0 aqd O O) ?_)));refine Lb Y O abM O O O O λwy=>?_;refine bI 0 (.cells (ei.cells ⟨(t.g.code.length:Int),kind,m⟩).toArray 70 (0,0)) O (O) ?_;refine LA ((⟨(t.g.code.length:Int),kind,m⟩:ei)) 4 0 Y O abM O O O O O O (by omega) (by omega) λDI DJ=>?_;refine V0 (aQ O) (V0 (Yf mK O) (V0 (Yf qS O) (ak 2 Y O O O aqe O O O (Ln (Et (Cs (eY 2 (tV 123 K (⟨⟨t.g.code,t.g.fix++[(⟨(t.g.code.length:Int),kind,m⟩:ei)]⟩,t.ca,(DI,DJ)⟩:a8)) O O ?_)))))));refine nP (W':=Ws w (List.flatMap ao.ids (aV 123 67 70 sb K t)) ((aV 123 67 70 sb K (⟨⟨t.g.code,t.g.fix++[(⟨(t.g.code.length:Int),kind,m⟩:ei)]⟩,t.ca,(DI,DJ)⟩:a8))++[ab b5 (.cells i.cells.toArray 67 (0,0))]) []) (λ_ h=>by exact (Wt 4 ((((h.f 1 O).f 4 O).f 4 O).f 4 O):)) ?_;refine Cr (V0 (Ym O) (V0 (bC 3 O O yy O) ?_));refine Lb Y O fG O O O O λb33=>?_;refine WL.jT (rd:=eB) (f:=aI.cells) (k:=3) (m:=1) 0 [i] O O aI.aX (λ_ _ _ _ h=>h) (by simp) (by decide) λH33 aqh=>?_;refine Lw (ι:=SP) [_,_,_] _ Y O kT O O (λ_=>.tuple #[]) (λq=>(aV 123 67 70 sb K ⟨aM [i] (⟨⟨t.g.code,t.g.fix++[(⟨(t.g.code.length:Int),kind,m⟩:ei)]⟩,t.ca,(DI,DJ)⟩:a8).g,q,(⟨⟨t.g.code,t.g.fix++[(⟨(t.g.code.length:Int),kind,m⟩:ei)]⟩,t.ca,(DI,DJ)⟩:a8).fa⟩)) (λ_=>True) [H33] (by simp) (λw hw=>(kU sb K (⟨⟨t.g.code,t.g.fix++[(⟨(t.g.code.length:Int),kind,m⟩:ei)]⟩,t.ca,(DI,DJ)⟩:a8) H33 (some ⟨b33,0,none⟩) 1 [i] w aqh (by simp; omega) hw).mono λe w' ⟨q,h1,h2⟩=>⟨q,h1,trivial,h2⟩) ?_;intro Ah _;refine Ln (Et (Cs (Cr (V0 (Ym O) (V0 (Ya O) (Ln (Et (aw ?_))))))));refine R1 O O λw' hw=>?_;exact ⟨(Ah,(DI,DJ)),O,Wv 1 (Wt 3 hw)⟩
theorem A1 (sb:Nat) (K:gG) (t:a8) (op:Int) (w:World) (hb:t.g.code.length+1<=1000000000000) (pK:t.g.fix.length+1<=1000000000000) (hw:Ws w (List.flatMap ao.ids (aV 123 67 70 sb K t)) (aV 123 67 70 sb K t) [] w) :
   Calls Tryz.prog 134 #[.pointer (some ⟨sb,0,none⟩),.int .i64 op] w λe w'=>∃q:(SP×SP)×Nat×Nat,e = .returned (.func (.func 162) #[] #[.pointer (some ⟨q.2.1,0,none⟩),.pointer (some ⟨q.2.2,0,none⟩)])/\Ws w (List.flatMap ao.ids (aV 123 67 70 sb K t)) ((aV 123 67 70 sb K ⟨au ⟨op,0,0⟩ 1 0 t.g,q.1.1,q.1.2⟩)++[ab q.2.1 (.cells #[.pointer (some ⟨sb,0,none⟩)] 120 (0,0)),ab q.2.2 (.cells #[.int .i64 (t.g.code.length:Int)] 3 (0,0))]) [] w':=by
 refine enter Tryz.func134 O 11 O O ?_;refine CE hw (Cs (Cr ?_));refine WL.box Y O O λb2=>?_;refine V0 (Ya O) (Ln (Et (Cs (Cr (V0 (Yd 0 O O O R') (V0 (Ym O) (V0 (Yb fu ga O O) (Lf 3 O (Lf 3 O (Lf 3 O ?_))))))))));refine Lw (ι:=SP×SP) [_,_,_] _ Y O DG O O (λ_=>.int .i64 (t.g.code.length:Int)) (λq=>(aV 123 67 70 sb K ⟨au ⟨op,0,0⟩ 1 0 t.g,q.1,q.2⟩)) (λ_=>True) [] (by simp) (λw hw=>(DH sb K t  ⟨op,0,0⟩ 1 0 w  hb pK hw).mono λe w' ⟨q,h1,h2⟩=>⟨q,h1,trivial,h2⟩) ?_;intro q9 _;refine Al Y O oM λb5=>?_;refine ak 0 Y O O O bZ O O O (Ln (Et (Cs (Cr (V0 (ED O) (V0 (Ya O) (Ln (Et (aw ?_)))))))));refine R1 O O λw' hw=>?_;exact ⟨(q9,b2,b5),O,(by have h:=hw; have h:=h.ar 4 O; have h:=h.ar 4 O; have h:=h.ar 4 O; have h:=h.ar 4 O; exact h)⟩
theorem yz (sb:Nat) (K:gG) (t:a8) (p q_ n:Nat) (x:aI) (w:World) (hx:t.g.code[n]? = some x) (hw:Ws w (List.flatMap ao.ids ((aV 123 67 70 sb K t)++[ab p (.cells #[.pointer (some ⟨sb,0,none⟩)] 120 (0,0)),ab q_ (.cells #[.int .i64 (n:Int)] 3 (0,0))])) ((aV 123 67 70 sb K t)++[ab p (.cells #[.pointer (some ⟨sb,0,none⟩)] 120 (0,0)),ab q_ (.cells #[.int .i64 (n:Int)] 3 (0,0))]) [] w) :
   Calls Tryz.prog 162 #[.pointer (some ⟨p,0,none⟩),.pointer (some ⟨q_,0,none⟩)] w λe w'=>e = .returned (.tuple #[])/\Ws w (List.flatMap ao.ids ((aV 123 67 70 sb K t)++[ab p (.cells #[.pointer (some ⟨sb,0,none⟩)] 120 (0,0)),ab q_ (.cells #[.int .i64 (n:Int)] 3 (0,0))])) ((aV 123 67 70 sb K ⟨cg n t.g,t.ca,t.fa⟩)++[ab p (.cells #[.pointer (some ⟨sb,0,none⟩)] 120 (0,0)),ab q_ (.cells #[.int .i64 (n:Int)] 3 (0,0))]) [] w':=by
 have av:=(List.getElem?_eq_some_iff.1 hx).1;refine enter Tryz.func162 O 16 O O ?_;refine CE hw ?_;refine WC.xx 1 O (by omega) λcb js DK vm=>?_;refine WC.nV 1 [(0,true),(1,true),(2,true),(3,true),(4,true),(5,true),(6,true),(7,true),(8,true),(9,true),(10,true),(11,true),(12,true),(13,true),(14,false)] mixed (by kernel_rfl) (λ_ _ _ d _ h=>by cases d<;>exact h) ?_;refine D0 O (Wp 1) (Yd 2 O O O R') (D0 O (Wp 1) (aQ O) (D0 O (Wp 1) (Yf mK O) (D0 O (Wp 1) (Yf iG O) (D0 O (Wp 1) (Yd 0 O O O ep) (D0 O (Wp 1) (Yd 3 O O O aj) (D0 O (Wp 1) (Yd 2 O O O R') (D0 O (Wp 1) (aQ O) ?_)))))));refine D0 O (Wp 1) (Yf mK O) (D0 O (Wp 1) (Yf iG O) (D0 O (Wp 1) (Yd 0 O O O ep) (D0 O (Wp 1) (Yn et O) (D0 O (Wp 1) (Yo et O O js av) (D0 O (Wp 1) (Yf iV O) ?_)))));refine De O (Wp 1) ?_;refine WL.storeT (y:=x) 1 n 1 (⟨x.op,(t.g.code.length:Int),x.b⟩:aI) Y O O O js O aI.aX hx bZ O O (by decide) O ?_;refine Ln (Ed ?_);refine WD.nil (Wp 1) ?_;refine E0 O λw' hw=>?_;rw [af7 hx];exact ⟨O,hw.p6 0 O (show ab sb (tV 123 K t)=ab sb (tV 123 K ⟨{ t.g with code:=t.g.code.set n ⟨x.op,(t.g.code.length:Int),x.b⟩ },t.ca,t.fa⟩) by simp [tV])⟩
def Hu (H:View) (sb:Nat) (K:gG) (k:Nat):Prop:=∀(x:cJ) (a:Option Addr) (c:Nat) (t:a8) (w:World),Sl (jV k) 5 H a c x.args->Cu x->t.g.code.length+8*dy x<=1000000000000->t.g.fix.length+8*dy x<=1000000000000->
 Ws w (List.flatMap ao.ids (aV 123 67 70 sb K t)) (aV 123 67 70 sb K t) [H] w->Calls Tryz.prog 130 #[.pointer (some ⟨sb,0,none⟩),.agg (rY x a c).toArray] w λe w'=>∃q:SP×SP,e = .returned (.tuple #[])/\Ws w (List.flatMap ao.ids (aV 123 67 70 sb K t)) (aV 123 67 70 sb K ⟨ag x t.g,q.1,q.2⟩) [H] w'
theorem A2 {l:List cJ} {i:Nat} {x:cJ} (h:l[i]? = some x):dy x<=fW l:=by
 have:=Ct h; omega
theorem R_ {l:List cJ} {x y:cJ} (h:l[0]? = some x) (h2:l[1]? = some y):dy x+dy y<=fW l:=by
 have h3:fW (l.take 1)=fW (l.take 0)+dy x:=(Ct h).1;have h4:fW (l.take 2)=fW (l.take 1)+dy y:=(Ct h2).1;have h5:fW (l.take 2)<=fW l:=(Ct h2).2;omega
theorem qT:Enters Tryz.prog 130:=enters_of Tryz.func130 (by kernel_rfl) rfl
theorem abP:Enters Tryz.prog 161:=enters_of Tryz.func161 (by kernel_rfl) rfl
theorem abQ (sb:Nat) (K:gG) (t:a8) (H:View) (k:Nat) (l:List cJ) (a:Option Addr) (c:Nat) (w:World) (hN:∀k2,k2<k->Hu H sb K k2) (hl:Sl (jV k) 5 H a c l) (aA:Cv l) (hb:t.g.code.length+8*fW l<=1000000000000) (pK:t.g.fix.length+8*fW l<=1000000000000) (hw:Ws w (List.flatMap ao.ids (aV 123 67 70 sb K t)) (aV 123 67 70 sb K t) [H] w) :
   Calls Tryz.prog 161 #[.pointer (some ⟨sb,0,none⟩),.slice a l.length c] w λe w'=>∃q:SP×SP,e = .returned (.tuple #[])/\Ws w (List.flatMap ao.ids (aV 123 67 70 sb K t)) (aV 123 67 70 sb K ⟨eA l t.g,q.1,q.2⟩) [H] w':=by
 have dN:=hl.cap;have ek:=hl.max;refine enter Tryz.func161 O 16 O O ?_;refine CE hw (Cs (Cr (V0 (Ym O) (V0 (Yn ly O) (V0 (Ym O) (Ln (Et (Cb ?_))))))));refine ct (ι:=Nat×SP×SP) (λg=>[(8,.int .i64 (g.1:Int))]) [(0,_),(6,_),(7,_)] (λg=>Ws w (List.flatMap ao.ids (aV 123 67 70 sb K t)) (aV 123 67 70 sb K ⟨eA (l.take g.1) t.g,g.2.1,g.2.2⟩) [H]) (λg=>g.1<=l.length) (λg=>l.length-g.1) (0,t.ca,t.fa) (Nat.zero_le _) (sc O (sc O (sc O (sc O sn)))) (λ_ h=>h) ?_;intro g u1;refine Cs (Cr (V0 (a_ O O) (Ln (Et (Cs ?_)))));refine Cc O (λad=>?_) (λad=>?_)
 ·have av:g.1<l.length:=by simpa using ad
  obtain ⟨x,bu⟩:∃q,l[g.1]? = some q:=⟨_,List.getElem?_eq_getElem av⟩;obtain ⟨e9,e_,ft,cS⟩:=hl.aO g.1 x bu
  obtain ⟨k2,rfl⟩:∃k2,k=k2+1:=by
    cases k with
    | zero=>exact cS.elim
    | succ k2=>exact ⟨k2,rfl⟩
  obtain ⟨xa,xc,bQ,gM⟩:=cS;have hww:=Ct bu;have df:=JA (l.take g.1) t.g;have lz:=df.hi;have lA:=df.gh;refine Ck (Et (Cs (Cb (Cs (Cr (V0 (Yo ly O O ft av) (V0 (cF 0 kR O O O (bQ)) ?_)))))));refine Al Y O G9 λb5=>?_;refine ak 0 Y O O O LH O O O (Ln (Et (eY 0 (.cells (rY x xa xc).toArray 238 (0,0)) O O (Cr (V0 (Ym O) (V0 (bC 0 O O kR O) (Lf 3 O (Lf 3 O ?_))))))));refine Lf 3 O ?_;refine Lw (ι:=SP×SP) [_,_,_] _ Y O qT O O (λ_=>.tuple #[]) (λq=>(aV 123 67 70 sb K ⟨ag x (⟨eA (l.take g.1) t.g,g.2.1,g.2.2⟩:a8).g,q.1,q.2⟩)) (λ_=>True) [H] (by simp) (λw hw=>(hN k2 (by omega) x xa xc (⟨eA (l.take g.1) t.g,g.2.1,g.2.2⟩:a8) w gM (aA.at_ bu) (by show (eA (l.take g.1) t.g).code.length+(8*dy x)<=_; omega) (by show (eA (l.take g.1) t.g).fix.length+(8*dy x)<=_; omega) hw).mono λe w' ⟨q,h1,h2⟩=>⟨q,h1,trivial,h2⟩) ?_;intro jk _;refine Ln (Eb (Et (Cr (V0 (Yi O O O (by omega)) (V0 (Ym O) (Ln ?_))))));rw [<-af0 bu];exact Ea ((g.1+1,jk):Nat×SP×SP) (by show _-(g.1+1)<_; omega) (by show g.1+1<=_; omega) (sc O (sc O (sc O (sc O sn)))) (λ_ h=>(Wt 3 h:))
 have cC:g.1=l.length:=by simp at ad; omega
 rw [cC,List.take_length];refine Ce (Ex (Ex (bK ?_)));refine E0 O λw' hw=>?_;exact ⟨g.2,O,hw⟩
theorem abS (sb:Nat) (K:gG) (t:a8) (H:View) (k:Nat) (m pl:Int) (l:List cJ) (a:Option Addr) (c:Nat) (w:World) (hN:∀k2,k2<k->Hu H sb K k2) (hl:Sl (jV k) 5 H a c l) (aA:Cv l) (hb:t.g.code.length+8*(1+fW l)<=1000000000000) (pK:t.g.fix.length+8*(1+fW l)<=1000000000000) (hw:Ws w (List.flatMap ao.ids (aV 123 67 70 sb K t)) (aV 123 67 70 sb K t) [H] w) :
   Calls Tryz.prog 133 #[.pointer (some ⟨sb,0,none⟩),.int .i64 m,.int .i64 pl,.slice a l.length c] w λe w'=>∃q:SP×SP,e = .returned (.tuple #[])/\Ws w (List.flatMap ao.ids (aV 123 67 70 sb K t)) (aV 123 67 70 sb K ⟨au ⟨13,pl,0⟩ 2 m (eA l t.g),q.1,q.2⟩) [H] w':=by
 have df:=JA l t.g;have lz:=df.hi;have lA:=df.gh;refine enter Tryz.func133 O 16 O O ?_;refine CE hw (Cs (Cr (V0 (Ym O) (V0 (Ym O) ?_))));refine Lw (ι:=SP×SP) [_,_,_] _ Y O abP O O (λ_=>.tuple #[]) (λq=>(aV 123 67 70 sb K ⟨eA l t.g,q.1,q.2⟩)) (λ_=>True) [H] (by simp) (λw hw=>(abQ sb K t H k l a c w hN hl aA (by omega) (by omega) hw).mono λe w' ⟨q,h1,h2⟩=>⟨q,h1,trivial,h2⟩) ?_;intro q10 _;refine Ln (Et (Cr (V0 (Ym O) (V0 (Ym O) (V0 (Yb fu ga O O) (V0 (Ym O) ?_))))));refine Lw (ι:=SP×SP) [_,_,_] _ Y O DG O O (λ_=>.int .i64 ((eA l t.g).code.length:Int)) (λq=>(aV 123 67 70 sb K ⟨au ⟨13,pl,0⟩ 2 m (eA l t.g),q.1,q.2⟩)) (λ_=>True) [] (by simp) (λw hw=>(DH sb K (⟨eA l t.g,q10.1,q10.2⟩:a8)  ⟨13,pl,0⟩ 2 m w  (by show (eA l t.g).code.length+1<=_; omega) (by show (eA l t.g).fix.length+1<=_; omega) hw).mono λe w' ⟨q,h1,h2⟩=>⟨q,h1,trivial,h2⟩) ?_;intro Aw _;refine Ln ?_;refine E0 O λw' hw=>?_;exact ⟨Aw,O,hw⟩
theorem abU (sb:Nat) (K:gG) (t:a8) (H:View) (k:Nat) (m pl n:Int) (x:cJ) (a:Option Addr) (c:Nat) (w:World) (hN:Hu H sb K k) (hl:Sl (jV k) 5 H a c x.args) (aA:Cu x) (hb:t.g.code.length+(8*dy x+1)<=1000000000000) (pK:t.g.fix.length+(8*dy x+1)<=1000000000000) (hw:Ws w (List.flatMap ao.ids (aV 123 67 70 sb K t)) (aV 123 67 70 sb K t) [H] w) :
   Calls Tryz.prog 132 #[.pointer (some ⟨sb,0,none⟩),.int .i64 m,.int .i64 pl,.int .i64 n,.agg (rY x a c).toArray] w λe w'=>∃q:SP×SP,e = .returned (.tuple #[])/\Ws w (List.flatMap ao.ids (aV 123 67 70 sb K t)) (aV 123 67 70 sb K ⟨au ⟨6,pl,n⟩ 3 m (ag x t.g),q.1,q.2⟩) [H] w':=by
 have df:=mq x t.g;have lz:=df.hi;have lA:=df.gh;refine enter Tryz.func132 O 19 O O ?_;refine CE hw (Cs (Cr ?_));refine WL.box Y O O λb9=>?_;refine Ln (Et (Cs (Cr (V0 (Ym O) (V0 (bC 0 O O kR O) (Lf 3 O (Lf 3 O (Lf 3 O ?_))))))));refine Lw (ι:=SP×SP) [_,_,_] _ Y O qT O O (λ_=>.tuple #[]) (λq=>(aV 123 67 70 sb K ⟨ag x t.g,q.1,q.2⟩)) (λ_=>True) [H] (by simp) (λw hw=>(hN x a c t w hl aA (by show (t.g).code.length+(8*dy x)<=_; omega) (by show (t.g).fix.length+(8*dy x)<=_; omega) hw).mono λe w' ⟨q,h1,h2⟩=>⟨q,h1,trivial,h2⟩) ?_;intro eD _;refine Ln (Et (Cr (V0 (Ym O) (V0 (Ym O) (V0 (Ym O) (V0 (Yb fu ga O O) (V0 (Ym O) ?_)))))));refine Lw (ι:=SP×SP) [_,_,_] _ Y O DG O O (λ_=>.int .i64 ((ag x t.g).code.length:Int)) (λq=>(aV 123 67 70 sb K ⟨au ⟨6,pl,n⟩ 3 m (ag x t.g),q.1,q.2⟩)) (λ_=>True) [] (by simp) (λw hw=>(DH sb K (⟨ag x t.g,eD.1,eD.2⟩:a8)  ⟨6,pl,n⟩ 3 m w  (by show (ag x t.g).code.length+1<=_; omega) (by show (ag x t.g).fix.length+1<=_; omega) hw).mono λe w' ⟨q,h1,h2⟩=>⟨q,h1,trivial,h2⟩) ?_;intro Ao _;refine Ln ?_;refine E0 O λw' hw=>?_;exact ⟨Ao,O,Wt 3 hw⟩
theorem abV:Enters Tryz.prog 132:=enters_of Tryz.func132 (by kernel_rfl) rfl
theorem abW:Enters Tryz.prog 133:=enters_of Tryz.func133 (by kernel_rfl) rfl
theorem A3:Enters Tryz.prog 134:=enters_of Tryz.func134 (by kernel_rfl) rfl
theorem yA:Enters Tryz.prog 162:=enters_of Tryz.func162 (by kernel_rfl) rfl
theorem aqi (sb:Nat) (K:gG) (t:a8) (H:View) (k:Nat) (x:cJ) (a:Option Addr) (c:Nat) (w:World) (hl:Sl (jV k) 5 H a c x.args) (aA:Cu x) (hb:t.g.code.length+8*dy x<=1000000000000) (pK:t.g.fix.length+8*dy x<=1000000000000) (hw:Ws w (List.flatMap ao.ids (aV 123 67 70 sb K t)) (aV 123 67 70 sb K t) [H] w) :
   Calls Tryz.prog 130 #[.pointer (some ⟨sb,0,none⟩),.agg (rY x a c).toArray] w λe w'=>∃q:SP×SP,e = .returned (.tuple #[])/\Ws w (List.flatMap ao.ids (aV 123 67 70 sb K t)) (aV 123 67 70 sb K ⟨ag x t.g,q.1,q.2⟩) [H] w':=by
 induction k using Nat.strongRecOn generalizing x a c t w
 rename_i k ih;have hN:∀k2,k2<k->Hu H sb K k2:=λk2 h x a c t w h1 h2 h3 h4 h5=>ih k2 h t x a c w h1 h2 h3 h4 h5;have dN:=hl.cap;have ek:=hl.max;have hwe:=af4 x;refine enter Tryz.func130 O 143 O O ?_;refine CE hw (Cs (Cr ?_));refine WL.box Y O O λb3=>?_;refine Ln (Et (Cs (Cr (V0 (Yf uW O) (V0 (Yd 0 O O O aj) (Ln (Et (Cb (Cs (Cr (V0 (aF O O) (V0 (Ya O) (Ln (Et ?_))))))))))))));refine Cc O (λad=>?_) (λad=>?_)
 ·have ho:x.op=1:=by simpa using ad
  refine Cr (V0 (Ym O) (V0 (Yf oN O) (V0 (Yd 0 O O O aj) (V0 (Yb fu ga O O) ?_))));refine Lb Y O fG O O O O λZ'=>?_;refine WL.jT (rd:=eB) (f:=aI.cells) (k:=3) (m:=1) 0 [⟨1,x.n,0⟩] O O aI.aX (λ_ _ _ _ h=>h) (by simp) (by decide) λH32 aqj=>?_;refine Lf 3 O (Lf 3 O (Lf 3 O ?_));refine Lw (ι:=SP) [_,_,_] _ Y O kT O O (λ_=>.tuple #[]) (λq=>(aV 123 67 70 sb K ⟨aM [⟨1,x.n,0⟩] t.g,q,t.fa⟩)) (λ_=>True) [H32] (by simp) (λw hw=>(kU sb K t H32 (some ⟨Z',0,none⟩) 1 [⟨1,x.n,0⟩] w aqj (by show (t.g).code.length+[⟨1,x.n,0⟩].length<=_; (try simp only [bO]); omega) hw).mono λe w' ⟨q,h1,h2⟩=>⟨q,h1,trivial,h2⟩) ?_;intro j_ _;refine Ln (Eb ?_);refine E0 O λw' hw=>?_
  have hr:ag x t.g=aM [⟨1,x.n,0⟩] t.g:=by
    rw [tR,pg,if_pos ho]
  rw [hr];exact ⟨(j_,t.fa),O,Wv 1 (Wt 3 hw)⟩
 have ir:¬x.op=1:=by simpa using ad
 refine Cs (Cr (V0 (aF O O) (V0 (Ya O) (Ln (Et ?_)))));refine Cc O (λaq=>?_) (λaq=>?_)
 ·have ho:x.op=2:=by simpa using aq
  refine Cr (V0 (Ym O) (V0 (Yb fu ga O O) ?_));refine Lb Y O fG O O O O λwc=>?_;refine WL.jT (rd:=eB) (f:=aI.cells) (k:=3) (m:=1) 0 [⟨18,0,0⟩] O O aI.aX (λ_ _ _ _ h=>h) (by simp) (by decide) λGx Qx=>?_;refine Lf 3 O (Lf 3 O (Lf 3 O ?_));refine Lw (ι:=SP) [_,_,_] _ Y O kT O O (λ_=>.tuple #[]) (λq=>(aV 123 67 70 sb K ⟨aM [⟨18,0,0⟩] t.g,q,t.fa⟩)) (λ_=>True) [Gx] (by simp) (λw hw=>(kU sb K t Gx (some ⟨wc,0,none⟩) 1 [⟨18,0,0⟩] w Qx (by show (t.g).code.length+[⟨18,0,0⟩].length<=_; (try simp only [bO]); omega) hw).mono λe w' ⟨q,h1,h2⟩=>⟨q,h1,trivial,h2⟩) ?_;intro oI _;refine Ln (Eb ?_);refine E0 O λw' hw=>?_
  have hr:ag x t.g=aM [⟨18,0,0⟩] t.g:=by
    rw [tR,pg,if_neg ir,if_pos ho]
  rw [hr];exact ⟨(oI,t.fa),O,Wv 1 (Wt 3 hw)⟩
 have fZ:¬x.op=2:=by simpa using aq
 refine Cs (Cr (V0 (aF O O) (V0 (Ya O) (Ln (Et ?_)))));refine Cc O (λay=>?_) (λay=>?_)
 ·have ho:x.op=16:=by simpa using ay
  refine Cr (V0 (Ym O) (V0 (Yf mJ O) (V0 (Yd 0 O O O aj) (V0 (Yb fu ga O O) ?_))));refine Lb Y O fG O O O O λb46=>?_;refine WL.jT (rd:=eB) (f:=aI.cells) (k:=3) (m:=1) 0 [⟨2,x.pl,0⟩] O O aI.aX (λ_ _ _ _ h=>h) (by simp) (by decide) λH46 aql=>?_;refine Lf 3 O (Lf 3 O (Lf 3 O ?_));refine Lw (ι:=SP) [_,_,_] _ Y O kT O O (λ_=>.tuple #[]) (λq=>(aV 123 67 70 sb K ⟨aM [⟨2,x.pl,0⟩] t.g,q,t.fa⟩)) (λ_=>True) [H46] (by simp) (λw hw=>(kU sb K t H46 (some ⟨b46,0,none⟩) 1 [⟨2,x.pl,0⟩] w aql (by show (t.g).code.length+[⟨2,x.pl,0⟩].length<=_; (try simp only [bO]); omega) hw).mono λe w' ⟨q,h1,h2⟩=>⟨q,h1,trivial,h2⟩) ?_;intro iF _;refine Ln (Eb ?_);refine E0 O λw' hw=>?_
  have hr:ag x t.g=aM [⟨2,x.pl,0⟩] t.g:=by
    rw [tR,pg,if_neg ir,if_neg fZ,if_pos ho]
  rw [hr];exact ⟨(iF,t.fa),O,Wv 1 (Wt 3 hw)⟩
 have gW:¬x.op=16:=by simpa using ay
 refine Cs (Cr (V0 (aF O O) (V0 (Ya O) (Ln (Et ?_)))));refine Cc O (λaJ=>?_) (λaJ=>?_)
 ·have ho:x.op=3:=by simpa using aJ
  refine Cr (V0 (Ym O) (V0 (Yf mJ O) (V0 (Yd 0 O O O aj) (V0 (Yb fu ga O O) (V0 (Yf oO O) (V0 (Yd 0 O O O aj) (Lf 3 O ?_)))))));refine Lf 3 O (Lf 3 O ?_);refine Lw (ι:=SP×SP) [_,_,_] _ Y O DG O O (λ_=>.int .i64 (t.g.code.length:Int)) (λq=>(aV 123 67 70 sb K ⟨au ⟨4,x.pl,0⟩ 3 x.m t.g,q.1,q.2⟩)) (λ_=>True) [] (by simp) (λw hw=>(DH sb K t  ⟨4,x.pl,0⟩ 3 x.m w  (by omega) (by omega) hw).mono λe w' ⟨q,h1,h2⟩=>⟨q,h1,trivial,h2⟩) ?_;intro q56 _;refine Ln (Eb ?_);refine E0 O λw' hw=>?_
  have hr:ag x t.g=au ⟨4,x.pl,0⟩ 3 x.m t.g:=by
    rw [tR,pg,if_neg ir,if_neg fZ,if_neg gW,if_pos ho]
  rw [hr];exact ⟨(q56.1,q56.2),O,Wt 3 hw⟩
 have iS:¬x.op=3:=by simpa using aJ
 refine Cs (Cr (V0 (aF O O) (V0 (Ya O) (Ln (Et ?_)))));refine Cc O (λaU=>?_) (λaU=>?_)
 ·have ho:x.op=4:=by simpa using aU
  refine Cs ?_;have x7:=aA.args.2.1 (by omega);obtain ⟨y,bx⟩:∃y,x.args[0]? = some y:=⟨_,List.getElem?_eq_getElem (by omega)⟩;obtain ⟨gq,gu,eG,ck⟩:=hl.aO 0 y bx
  obtain ⟨k2,rfl⟩:∃k2,k=k2+1:=by
    cases k with
    | zero=>exact ck.elim
    | succ k2=>exact ⟨k2,rfl⟩
  obtain ⟨ya,yc,l3,l4⟩:=ck;have ki:=hN k2 (by omega);have l5:=aA.args.1.at_ bx;have df:=mq y t.g;have lz:=df.hi;have lA:=df.gh;have yB:=df.lo;have DL:=A2 bx;refine CU (λ_=>true) [1,1,1] [] (.q false 0 (.q false 1 (.q true 2 (.q false 3 (.q true 4 (.q false 5 (.q true 6 (.q false 7 (.q true 8 (.q false 9 (.q true 10 (.e 11 .nil .stop)))))))))))) mixed (by kernel_rfl) (λ_ _ _ d _ _ h=>by cases d<;>exact h) ?_;refine U0 O (bw [1,1,1]) (Ym O) (U0 O (bw [1,1,1]) (Yf oO O) (U0 O (bw [1,1,1]) (Yd 0 O O O aj) (U0 O (bw [1,1,1]) (Yf mJ O) (U0 O (bw [1,1,1]) (Yd 0 O O O aj) (U0 O (bw [1,1,1]) (Yf oN O) (U0 O (bw [1,1,1]) (Yd 0 O O O aj) (U0 O (bw [1,1,1]) (Yf uY O) ?_)))))));refine U0 O (bw [1,1,1]) (Yd 0 O O O kS) (U0 O (bw [1,1,1]) (Yo (i:=0) ly O O eG (by omega)) (U0 O (bw [1,1,1]) (cF 0 kR O O O (l3)) ?_));refine Ue O (bw [1,1,1]) ?_ WU.stop;refine Lf 3 O (Lf 3 O (Lf 3 O ?_));refine Lw (ι:=SP×SP) [_,_,_] _ Y O abV O O (λ_=>.tuple #[]) (λq=>(aV 123 67 70 sb K ⟨au ⟨6,x.pl,x.n⟩ 3 x.m (ag y t.g),q.1,q.2⟩)) (λ_=>True) [H] (by simp) (λw hw=>(abU sb K t H k2 x.m x.pl x.n y ya yc w ki l4 l5 (by omega) (by omega) hw).mono λe w' ⟨q,h1,h2⟩=>⟨q,h1,trivial,h2⟩) ?_;intro A4 _;refine Ln (Eu ?_);refine WU.nil (λ_ h=>(Wo 1 (Wo 1 (Wo 1 (h.f 3 O))):)) ?_;refine WS.nil ?_;refine Et (Cr (V0 (Ym O) (V0 (Yb fu ga O O) ?_)));refine Lb Y O fG O O O O λb73=>?_;refine WL.jT (rd:=eB) (f:=aI.cells) (k:=3) (m:=1) 0 [⟨7,0,0⟩] O O aI.aX (λ_ _ _ _ h=>h) (by simp) (by decide) λH73 aqn=>?_;refine Lw (ι:=SP) [_,_,_] _ Y O kT O O (λ_=>.tuple #[]) (λq=>(aV 123 67 70 sb K ⟨aM [⟨7,0,0⟩] (⟨(au ⟨6,x.pl,x.n⟩ 3 x.m (ag y t.g)),A4.1,A4.2⟩:a8).g,q,(⟨(au ⟨6,x.pl,x.n⟩ 3 x.m (ag y t.g)),A4.1,A4.2⟩:a8).fa⟩)) (λ_=>True) [H73] (by simp) (λw hw=>(kU sb K (⟨(au ⟨6,x.pl,x.n⟩ 3 x.m (ag y t.g)),A4.1,A4.2⟩:a8) H73 (some ⟨b73,0,none⟩) 1 [⟨7,0,0⟩] w aqn (by show ((au ⟨6,x.pl,x.n⟩ 3 x.m (ag y t.g))).code.length+[⟨7,0,0⟩].length<=_; (try simp only [bO]); omega) hw).mono λe w' ⟨q,h1,h2⟩=>⟨q,h1,trivial,h2⟩) ?_;intro An _;refine Ln (Eb ?_);refine E0 O λw' hw=>?_
  have hr:ag x t.g=aM [⟨7,0,0⟩] (au ⟨6,x.pl,x.n⟩ 3 x.m (ag y t.g)):=by
    rw [tR,pg,if_neg ir,if_neg fZ,if_neg gW,if_neg iS,if_pos ho];rw [oq bx]
  rw [hr];exact ⟨(An,A4.2),O,Wv 1 (Wt 3 hw)⟩
 have lY:¬x.op=4:=by simpa using aU
 refine Cs (Cr (V0 (aF O O) (V0 (Ya O) (Ln (Et ?_)))));refine Cc O (λbd=>?_) (λbd=>?_)
 ·have ho:x.op=5:=by simpa using bd
  refine Cr (V0 (Ym O) (V0 (Yf oO O) (V0 (Yd 0 O O O aj) (V0 (Yf mJ O) (V0 (Yd 0 O O O aj) (V0 (Yf uY O) (V0 (Yd 0 O O O kS) ?_)))))));refine Lf 3 O (Lf 3 O (Lf 3 O ?_));refine Lw (ι:=SP×SP) [_,_,_] _ Y O abW O O (λ_=>.tuple #[]) (λq=>(aV 123 67 70 sb K ⟨au ⟨13,x.pl,0⟩ 2 x.m (eA x.args t.g),q.1,q.2⟩)) (λ_=>True) [H] (by simp) (λw hw=>(abS sb K t H k x.m x.pl x.args a c w hN hl aA.args.1 (by omega) (by omega) hw).mono λe w' ⟨q,h1,h2⟩=>⟨q,h1,trivial,h2⟩) ?_;intro q84 _;refine Ln (Eb ?_);refine E0 O λw' hw=>?_
  have hr:ag x t.g=au ⟨13,x.pl,0⟩ 2 x.m (eA x.args t.g):=by
    rw [tR,pg,if_neg ir,if_neg fZ,if_neg gW,if_neg iS,if_neg lY,if_pos ho];rw [Fj]
  rw [hr];exact ⟨(q84.1,q84.2),O,Wt 3 hw⟩
 have qR:¬x.op=5:=by simpa using bd
 refine Cs (Cs (Cr (V0 (aF O O) (V0 (Ya O) (Ln (Et ?_))))));refine Cc O (λbh=>?_) (λbh=>?_)
 ·have ho:x.op=7:=by simpa using bh
  refine Ck (Et ?_);refine Cc O (λbH=>?_) (λbH=>?_)
  ·refine Cs ?_;have Ms:=aA.args.2.2.1 (by omega);obtain ⟨y,bx⟩:∃y,x.args[0]? = some y:=⟨_,List.getElem?_eq_getElem (by omega)⟩;obtain ⟨gq,gu,eG,ck⟩:=hl.aO 0 y bx;obtain ⟨z,lq⟩:∃y,x.args[1]? = some y:=⟨_,List.getElem?_eq_getElem (by omega)⟩;obtain ⟨Pr,Ps,zT,x3⟩:=hl.aO 1 z lq
   obtain ⟨k2,rfl⟩:∃k2,k=k2+1:=by
     cases k with
     | zero=>exact ck.elim
     | succ k2=>exact ⟨k2,rfl⟩
   obtain ⟨ya,yc,l3,l4⟩:=ck;have ki:=hN k2 (by omega);have l5:=aA.args.1.at_ bx;have df:=mq y t.g;have lz:=df.hi;have lA:=df.gh;have yB:=df.lo;obtain ⟨za,zc,Hv,Hw⟩:=x3;have Hx:=aA.args.1.at_ lq;have hw2:=R_ bx lq;have sR:=mq z (au ⟨12,0,0⟩ 1 0 (ag y t.g));have vp:=sR.hi;have zv:=sR.gh;have Hy:=sR.lo;have A5:=mq z (cg ((ag y t.g).code.length) (au ⟨11,0,0⟩ 1 0 (aM [⟨1,1,0⟩] (au ⟨12,0,0⟩ 1 0 (ag y t.g)))));have Sa:=A5.hi;have Sb:=A5.gh;have Sc:=A5.lo;simp only [bO] at vp zv Hy Sa Sb Sc;refine Cr (V0 (Ym O) (V0 (Yf uY O) (V0 (Yd 0 O O O kS) (V0 (Yo (i:=0) ly O O eG (by omega)) (V0 (cF 0 kR O O O (l3)) (Lf 3 O (Lf 3 O ?_)))))));refine Lf 3 O ?_;refine Lw (ι:=SP×SP) [_,_,_] _ Y O qT O O (λ_=>.tuple #[]) (λq=>(aV 123 67 70 sb K ⟨ag y t.g,q.1,q.2⟩)) (λ_=>True) [H] (by simp) (λw hw=>(ki y ya yc t w l4 l5 (by show (t.g).code.length+8*dy y<=_; (try simp only [bO]); omega) (by show (t.g).fix.length+8*dy y<=_; (try simp only [bO]); omega) hw).mono λe w' ⟨q,h1,h2⟩=>⟨q,h1,trivial,h2⟩) ?_;intro Hz _;refine Ln (Et (Cs (Cr (V0 (Ym O) ?_))));refine Lw (ι:=(SP×SP)×Nat×Nat) [_,_,_] _ Y O A3 O O (λq=>.func (.func 162) #[] #[.pointer (some ⟨q.2.1,0,none⟩),.pointer (some ⟨q.2.2,0,none⟩)]) (λq=>(aV 123 67 70 sb K ⟨au ⟨12,0,0⟩ 1 0 (ag y t.g),q.1.1,q.1.2⟩)++[ab q.2.1 (.cells #[.pointer (some ⟨sb,0,none⟩)] 120 (0,0)),ab q.2.2 (.cells #[.int .i64 ((ag y t.g).code.length:Int)] 3 (0,0))]) (λ_=>True) [] (by simp) (λw hw=>(A1 sb K (⟨(ag y t.g),Hz.1,Hz.2⟩:a8) 12 w (by show ((ag y t.g)).code.length+1<=_; (try simp only [bO]); omega) (by show ((ag y t.g)).fix.length+1<=_; (try simp only [bO]); omega) hw).mono λe w' ⟨q,h1,h2⟩=>⟨q,h1,trivial,h2⟩) ?_;intro lB _;refine V0 (Ya O) (Ln (Et (Cs (Cs (Cr (V0 (Yf uW O) (V0 (Yd 5 O O O aj) (V0 (aF O O) (Ln (Et ?_))))))))));refine Cc O (λcz=>?_) (λcz=>?_)
   ·exact absurd cz (by rw [ho]; decide)
   refine Ck (Et (Cs (Cs (Cr (V0 (Yf uW O) (V0 (Yd 5 O O O aj) (V0 (aF O O) (Ln (Et ?_)))))))));refine Cc O (λcR=>?_) (λcR=>?_)
   ·exact absurd cR (by rw [ho]; decide)
   refine Ck (Et (Cs (Cr (V0 (Ym O) (V0 (Yf uY O) (V0 (Yd 5 O O O kS) (V0 (Yo (i:=1) ly O O zT (by omega)) (V0 (cF 0 kR O O O (Hv)) ?_))))))));refine Lw (ι:=SP×SP) [_,_,_] _ Y O qT O O (λ_=>.tuple #[]) (λq=>(aV 123 67 70 sb K ⟨ag z (au ⟨12,0,0⟩ 1 0 (ag y t.g)),q.1,q.2⟩)) (λ_=>True) [H] (by simp) (λw hw=>(ki z za zc (⟨(au ⟨12,0,0⟩ 1 0 (ag y t.g)),lB.1.1,lB.1.2⟩:a8) w Hw Hx (by show ((au ⟨12,0,0⟩ 1 0 (ag y t.g))).code.length+8*dy z<=_; (try simp only [bO]); omega) (by show ((au ⟨12,0,0⟩ 1 0 (ag y t.g))).fix.length+8*dy z<=_; (try simp only [bO]); omega) hw).mono λe w' ⟨q,h1,h2⟩=>⟨q,h1,trivial,h2⟩) ?_;intro mL _;refine Ln (Et (Cs (Cr (V0 (Ym O) (V0 (Yb fu ga O O) ?_)))));refine Lb Y O fG O O O O λaqo=>?_;refine WL.jT (rd:=eB) (f:=aI.cells) (k:=3) (m:=1) 0 [⟨22,0,0⟩] O O aI.aX (λ_ _ _ _ h=>h) (by simp) (by decide) λab3 aqp=>?_;refine Lw (ι:=SP) [_,_,_] _ Y O kT O O (λ_=>.tuple #[]) (λq=>(aV 123 67 70 sb K ⟨aM [⟨22,0,0⟩] (⟨(ag z (au ⟨12,0,0⟩ 1 0 (ag y t.g))),mL.1,mL.2⟩:a8).g,q,(⟨(ag z (au ⟨12,0,0⟩ 1 0 (ag y t.g))),mL.1,mL.2⟩:a8).fa⟩)) (λ_=>True) [ab3] (by simp) (λw hw=>(kU sb K (⟨(ag z (au ⟨12,0,0⟩ 1 0 (ag y t.g))),mL.1,mL.2⟩:a8) ab3 (some ⟨aqo,0,none⟩) 1 [⟨22,0,0⟩] w aqp (by show ((ag z (au ⟨12,0,0⟩ 1 0 (ag y t.g)))).code.length+[⟨22,0,0⟩].length<=_; (try simp only [bO]); omega) hw).mono λe w' ⟨q,h1,h2⟩=>⟨q,h1,trivial,h2⟩) ?_;intro aqq _;refine Ln (Et (Cs (Cr (V0 (Ym O) ?_))));refine Lw (ι:=(SP×SP)×Nat×Nat) [_,_,_] _ Y O A3 O O (λq=>.func (.func 162) #[] #[.pointer (some ⟨q.2.1,0,none⟩),.pointer (some ⟨q.2.2,0,none⟩)]) (λq=>(aV 123 67 70 sb K ⟨au ⟨11,0,0⟩ 1 0 (aM [⟨22,0,0⟩] (ag z (au ⟨12,0,0⟩ 1 0 (ag y t.g)))),q.1.1,q.1.2⟩)++[ab q.2.1 (.cells #[.pointer (some ⟨sb,0,none⟩)] 120 (0,0)),ab q.2.2 (.cells #[.int .i64 ((aM [⟨22,0,0⟩] (ag z (au ⟨12,0,0⟩ 1 0 (ag y t.g)))).code.length:Int)] 3 (0,0))]) (λ_=>True) [] (by simp) (λw hw=>(A1 sb K (⟨(aM [⟨22,0,0⟩] (ag z (au ⟨12,0,0⟩ 1 0 (ag y t.g)))),aqq,mL.2⟩:a8) 11 w (by show ((aM [⟨22,0,0⟩] (ag z (au ⟨12,0,0⟩ 1 0 (ag y t.g))))).code.length+1<=_; (try simp only [bO]); omega) (by show ((aM [⟨22,0,0⟩] (ag z (au ⟨12,0,0⟩ 1 0 (ag y t.g))))).fix.length+1<=_; (try simp only [bO]); omega) hw).mono λe w' ⟨q,h1,h2⟩=>⟨q,h1,trivial,h2⟩) ?_;intro kj _;refine V0 (Ya O) (Ln (Et (Cs (Cr (V0 (Ym O) (Lf 6 O (Lf 6 O (Lf 4 O (Lf 4 O (Lf 4 O ?_))))))))));refine WL.xP (ι:=Unit) [_,_,_,_,_] _ Y O yA O O O (λ_=>.tuple #[]) (λ_=>(aV 123 67 70 sb K ⟨cg ((ag y t.g).code.length) (au ⟨11,0,0⟩ 1 0 (aM [⟨22,0,0⟩] (ag z (au ⟨12,0,0⟩ 1 0 (ag y t.g))))),(⟨(au ⟨11,0,0⟩ 1 0 (aM [⟨22,0,0⟩] (ag z (au ⟨12,0,0⟩ 1 0 (ag y t.g))))),kj.1.1,kj.1.2⟩:a8).ca,(⟨(au ⟨11,0,0⟩ 1 0 (aM [⟨22,0,0⟩] (ag z (au ⟨12,0,0⟩ 1 0 (ag y t.g))))),kj.1.1,kj.1.2⟩:a8).fa⟩)++[ab lB.2.1 (.cells #[.pointer (some ⟨sb,0,none⟩)] 120 (0,0)),ab lB.2.2 (.cells #[.int .i64 ((ag y t.g).code.length:Int)] 3 (0,0))]) (λ_=>True) [] (by simp) (λw hw=>(yz sb K (⟨(au ⟨11,0,0⟩ 1 0 (aM [⟨22,0,0⟩] (ag z (au ⟨12,0,0⟩ 1 0 (ag y t.g))))),kj.1.1,kj.1.2⟩:a8) lB.2.1 lB.2.2 ((ag y t.g).code.length) _ w (List.getElem?_eq_getElem (by show (ag y t.g).code.length<((au ⟨11,0,0⟩ 1 0 (aM [⟨22,0,0⟩] (ag z (au ⟨12,0,0⟩ 1 0 (ag y t.g)))))).code.length; (try simp only [bO]); omega)) hw).mono λe w' h=>⟨(),h.1,trivial,h.2⟩) ?_
   intro _ _;refine Ln (Et (Cs (Cr (V0 (Ym O) (V0 (Yb fu ga O O) ?_)))));refine Lb Y O fG O O O O λaqr=>?_;refine WL.jT (rd:=eB) (f:=aI.cells) (k:=3) (m:=1) 0 [⟨1,0,0⟩] O O aI.aX (λ_ _ _ _ h=>h) (by simp) (by decide) λab4 aqs=>?_;refine Lw (ι:=SP) [_,_,_] _ Y O kT O O (λ_=>.tuple #[]) (λq=>(aV 123 67 70 sb K ⟨aM [⟨1,0,0⟩] (⟨(cg ((ag y t.g).code.length) (au ⟨11,0,0⟩ 1 0 (aM [⟨22,0,0⟩] (ag z (au ⟨12,0,0⟩ 1 0 (ag y t.g)))))),kj.1.1,kj.1.2⟩:a8).g,q,(⟨(cg ((ag y t.g).code.length) (au ⟨11,0,0⟩ 1 0 (aM [⟨22,0,0⟩] (ag z (au ⟨12,0,0⟩ 1 0 (ag y t.g)))))),kj.1.1,kj.1.2⟩:a8).fa⟩)) (λ_=>True) [ab4] (by simp) (λw hw=>(kU sb K (⟨(cg ((ag y t.g).code.length) (au ⟨11,0,0⟩ 1 0 (aM [⟨22,0,0⟩] (ag z (au ⟨12,0,0⟩ 1 0 (ag y t.g)))))),kj.1.1,kj.1.2⟩:a8) ab4 (some ⟨aqr,0,none⟩) 1 [⟨1,0,0⟩] w aqs (by show ((cg ((ag y t.g).code.length) (au ⟨11,0,0⟩ 1 0 (aM [⟨22,0,0⟩] (ag z (au ⟨12,0,0⟩ 1 0 (ag y t.g))))))).code.length+[⟨1,0,0⟩].length<=_; (try simp only [bO]); omega) hw).mono λe w' ⟨q,h1,h2⟩=>⟨q,h1,trivial,h2⟩) ?_;intro Mt _;refine Ln (Et (Cr (V0 (Ym O) (Lf 6 O (Lf 6 O (Lf 4 O (Lf 4 O (Lf 4 O ?_))))))));refine WL.xP (ι:=Unit) [_,_,_,_,_] _ Y O yA O O O (λ_=>.tuple #[]) (λ_=>(aV 123 67 70 sb K ⟨cg ((aM [⟨22,0,0⟩] (ag z (au ⟨12,0,0⟩ 1 0 (ag y t.g)))).code.length) (aM [⟨1,0,0⟩] (cg ((ag y t.g).code.length) (au ⟨11,0,0⟩ 1 0 (aM [⟨22,0,0⟩] (ag z (au ⟨12,0,0⟩ 1 0 (ag y t.g))))))),(⟨(aM [⟨1,0,0⟩] (cg ((ag y t.g).code.length) (au ⟨11,0,0⟩ 1 0 (aM [⟨22,0,0⟩] (ag z (au ⟨12,0,0⟩ 1 0 (ag y t.g))))))),Mt,kj.1.2⟩:a8).ca,(⟨(aM [⟨1,0,0⟩] (cg ((ag y t.g).code.length) (au ⟨11,0,0⟩ 1 0 (aM [⟨22,0,0⟩] (ag z (au ⟨12,0,0⟩ 1 0 (ag y t.g))))))),Mt,kj.1.2⟩:a8).fa⟩)++[ab kj.2.1 (.cells #[.pointer (some ⟨sb,0,none⟩)] 120 (0,0)),ab kj.2.2 (.cells #[.int .i64 ((aM [⟨22,0,0⟩] (ag z (au ⟨12,0,0⟩ 1 0 (ag y t.g)))).code.length:Int)] 3 (0,0))]) (λ_=>True) [] (by simp) (λw hw=>(yz sb K (⟨(aM [⟨1,0,0⟩] (cg ((ag y t.g).code.length) (au ⟨11,0,0⟩ 1 0 (aM [⟨22,0,0⟩] (ag z (au ⟨12,0,0⟩ 1 0 (ag y t.g))))))),Mt,kj.1.2⟩:a8) kj.2.1 kj.2.2 ((aM [⟨22,0,0⟩] (ag z (au ⟨12,0,0⟩ 1 0 (ag y t.g)))).code.length) _ w (List.getElem?_eq_getElem (by show (aM [⟨22,0,0⟩] (ag z (au ⟨12,0,0⟩ 1 0 (ag y t.g)))).code.length<((aM [⟨1,0,0⟩] (cg ((ag y t.g).code.length) (au ⟨11,0,0⟩ 1 0 (aM [⟨22,0,0⟩] (ag z (au ⟨12,0,0⟩ 1 0 (ag y t.g)))))))).code.length; (try simp only [bO]); omega)) hw).mono λe w' h=>⟨(),h.1,trivial,h.2⟩) ?_;intro _ _;refine Ln (Eb ?_);refine E0 O λw' hw=>?_
   have hr:ag x t.g=(cg ((aM [⟨22,0,0⟩] (ag z (au ⟨12,0,0⟩ 1 0 (ag y t.g)))).code.length) (aM [⟨1,0,0⟩] (cg ((ag y t.g).code.length) (au ⟨11,0,0⟩ 1 0 (aM [⟨22,0,0⟩] (ag z (au ⟨12,0,0⟩ 1 0 (ag y t.g)))))))):=by
     rw [tR,pg,if_neg ir,if_neg fZ,if_neg gW,if_neg iS,if_neg lY,if_neg qR,if_pos ho];unfold OA;rw [oq bx,oq lq]
   rw [hr];exact ⟨(Mt,kj.1.2),O,Wv 2 (Wt 3 hw)⟩
  rw [bh] at bH; cases bH
 have yv:¬x.op=7:=by simpa using bh
 refine Cr (V0 (aF O O) (V0 (Ya O) (Ln (Et ?_))));refine Cc O (λbH=>?_) (λbH=>?_)
 ·have ho:x.op=8:=by simpa using bH
  refine Cs ?_;have Ms:=aA.args.2.2.1 (by omega);obtain ⟨y,bx⟩:∃y,x.args[0]? = some y:=⟨_,List.getElem?_eq_getElem (by omega)⟩;obtain ⟨gq,gu,eG,ck⟩:=hl.aO 0 y bx;obtain ⟨z,lq⟩:∃y,x.args[1]? = some y:=⟨_,List.getElem?_eq_getElem (by omega)⟩;obtain ⟨Pr,Ps,zT,x3⟩:=hl.aO 1 z lq
  obtain ⟨k2,rfl⟩:∃k2,k=k2+1:=by
    cases k with
    | zero=>exact ck.elim
    | succ k2=>exact ⟨k2,rfl⟩
  obtain ⟨ya,yc,l3,l4⟩:=ck;have ki:=hN k2 (by omega);have l5:=aA.args.1.at_ bx;have df:=mq y t.g;have lz:=df.hi;have lA:=df.gh;have yB:=df.lo;obtain ⟨za,zc,Hv,Hw⟩:=x3;have Hx:=aA.args.1.at_ lq;have hw2:=R_ bx lq;have sR:=mq z (au ⟨12,0,0⟩ 1 0 (ag y t.g));have vp:=sR.hi;have zv:=sR.gh;have Hy:=sR.lo;have A5:=mq z (cg ((ag y t.g).code.length) (au ⟨11,0,0⟩ 1 0 (aM [⟨1,1,0⟩] (au ⟨12,0,0⟩ 1 0 (ag y t.g)))));have Sa:=A5.hi;have Sb:=A5.gh;have Sc:=A5.lo;simp only [bO] at vp zv Hy Sa Sb Sc;refine Cr (V0 (Ym O) (V0 (Yf uY O) (V0 (Yd 0 O O O kS) (V0 (Yo (i:=0) ly O O eG (by omega)) (V0 (cF 0 kR O O O (l3)) (Lf 3 O (Lf 3 O ?_)))))));refine Lf 3 O ?_;refine Lw (ι:=SP×SP) [_,_,_] _ Y O qT O O (λ_=>.tuple #[]) (λq=>(aV 123 67 70 sb K ⟨ag y t.g,q.1,q.2⟩)) (λ_=>True) [H] (by simp) (λw hw=>(ki y ya yc t w l4 l5 (by show (t.g).code.length+8*dy y<=_; (try simp only [bO]); omega) (by show (t.g).fix.length+8*dy y<=_; (try simp only [bO]); omega) hw).mono λe w' ⟨q,h1,h2⟩=>⟨q,h1,trivial,h2⟩) ?_;intro Hz _;refine Ln (Et (Cs (Cr (V0 (Ym O) ?_))));refine Lw (ι:=(SP×SP)×Nat×Nat) [_,_,_] _ Y O A3 O O (λq=>.func (.func 162) #[] #[.pointer (some ⟨q.2.1,0,none⟩),.pointer (some ⟨q.2.2,0,none⟩)]) (λq=>(aV 123 67 70 sb K ⟨au ⟨12,0,0⟩ 1 0 (ag y t.g),q.1.1,q.1.2⟩)++[ab q.2.1 (.cells #[.pointer (some ⟨sb,0,none⟩)] 120 (0,0)),ab q.2.2 (.cells #[.int .i64 ((ag y t.g).code.length:Int)] 3 (0,0))]) (λ_=>True) [] (by simp) (λw hw=>(A1 sb K (⟨(ag y t.g),Hz.1,Hz.2⟩:a8) 12 w (by show ((ag y t.g)).code.length+1<=_; (try simp only [bO]); omega) (by show ((ag y t.g)).fix.length+1<=_; (try simp only [bO]); omega) hw).mono λe w' ⟨q,h1,h2⟩=>⟨q,h1,trivial,h2⟩) ?_;intro lB _;refine V0 (Ya O) (Ln (Et (Cs (Cs (Cr (V0 (Yf uW O) (V0 (Yd 5 O O O aj) (V0 (aF O O) (Ln (Et ?_))))))))));refine Cc O (λcz=>?_) (λcz=>?_)
  ·refine Cs (Cr (V0 (Ym O) (V0 (Yb fu ga O O) ?_)));refine Lb Y O fG O O O O λqL=>?_;refine WL.jT (rd:=eB) (f:=aI.cells) (k:=3) (m:=1) 0 [⟨1,1,0⟩] O O aI.aX (λ_ _ _ _ h=>h) (by simp) (by decide) λj8 pz=>?_;refine Lw (ι:=SP) [_,_,_] _ Y O kT O O (λ_=>.tuple #[]) (λq=>(aV 123 67 70 sb K ⟨aM [⟨1,1,0⟩] (⟨(au ⟨12,0,0⟩ 1 0 (ag y t.g)),lB.1.1,lB.1.2⟩:a8).g,q,(⟨(au ⟨12,0,0⟩ 1 0 (ag y t.g)),lB.1.1,lB.1.2⟩:a8).fa⟩)) (λ_=>True) [j8] (by simp) (λw hw=>(kU sb K (⟨(au ⟨12,0,0⟩ 1 0 (ag y t.g)),lB.1.1,lB.1.2⟩:a8) j8 (some ⟨qL,0,none⟩) 1 [⟨1,1,0⟩] w pz (by show ((au ⟨12,0,0⟩ 1 0 (ag y t.g))).code.length+[⟨1,1,0⟩].length<=_; (try simp only [bO]); omega) hw).mono λe w' ⟨q,h1,h2⟩=>⟨q,h1,trivial,h2⟩) ?_;intro pA _;refine Ln (Et (Cs (Cr (V0 (Ym O) ?_))));refine Lw (ι:=(SP×SP)×Nat×Nat) [_,_,_] _ Y O A3 O O (λq=>.func (.func 162) #[] #[.pointer (some ⟨q.2.1,0,none⟩),.pointer (some ⟨q.2.2,0,none⟩)]) (λq=>(aV 123 67 70 sb K ⟨au ⟨11,0,0⟩ 1 0 (aM [⟨1,1,0⟩] (au ⟨12,0,0⟩ 1 0 (ag y t.g))),q.1.1,q.1.2⟩)++[ab q.2.1 (.cells #[.pointer (some ⟨sb,0,none⟩)] 120 (0,0)),ab q.2.2 (.cells #[.int .i64 ((aM [⟨1,1,0⟩] (au ⟨12,0,0⟩ 1 0 (ag y t.g))).code.length:Int)] 3 (0,0))]) (λ_=>True) [] (by simp) (λw hw=>(A1 sb K (⟨(aM [⟨1,1,0⟩] (au ⟨12,0,0⟩ 1 0 (ag y t.g))),pA,lB.1.2⟩:a8) 11 w (by show ((aM [⟨1,1,0⟩] (au ⟨12,0,0⟩ 1 0 (ag y t.g)))).code.length+1<=_; (try simp only [bO]); omega) (by show ((aM [⟨1,1,0⟩] (au ⟨12,0,0⟩ 1 0 (ag y t.g)))).fix.length+1<=_; (try simp only [bO]); omega) hw).mono λe w' ⟨q,h1,h2⟩=>⟨q,h1,trivial,h2⟩) ?_;intro qU _;refine V0 (Ya O) (Ln (Et (Cs (Cr (V0 (Ym O) (Lf 6 O (Lf 6 O (Lf 4 O (Lf 4 O (Lf 4 O ?_))))))))));refine WL.xP (ι:=Unit) [_,_,_,_,_] _ Y O yA O O O (λ_=>.tuple #[]) (λ_=>(aV 123 67 70 sb K ⟨cg ((ag y t.g).code.length) (au ⟨11,0,0⟩ 1 0 (aM [⟨1,1,0⟩] (au ⟨12,0,0⟩ 1 0 (ag y t.g)))),(⟨(au ⟨11,0,0⟩ 1 0 (aM [⟨1,1,0⟩] (au ⟨12,0,0⟩ 1 0 (ag y t.g)))),qU.1.1,qU.1.2⟩:a8).ca,(⟨(au ⟨11,0,0⟩ 1 0 (aM [⟨1,1,0⟩] (au ⟨12,0,0⟩ 1 0 (ag y t.g)))),qU.1.1,qU.1.2⟩:a8).fa⟩)++[ab lB.2.1 (.cells #[.pointer (some ⟨sb,0,none⟩)] 120 (0,0)),ab lB.2.2 (.cells #[.int .i64 ((ag y t.g).code.length:Int)] 3 (0,0))]) (λ_=>True) [] (by simp) (λw hw=>(yz sb K (⟨(au ⟨11,0,0⟩ 1 0 (aM [⟨1,1,0⟩] (au ⟨12,0,0⟩ 1 0 (ag y t.g)))),qU.1.1,qU.1.2⟩:a8) lB.2.1 lB.2.2 ((ag y t.g).code.length) _ w (List.getElem?_eq_getElem (by show (ag y t.g).code.length<((au ⟨11,0,0⟩ 1 0 (aM [⟨1,1,0⟩] (au ⟨12,0,0⟩ 1 0 (ag y t.g))))).code.length; (try simp only [bO]); omega)) hw).mono λe w' h=>⟨(),h.1,trivial,h.2⟩) ?_;intro _ _;refine Ln (Et (Cr (V0 (Ym O) (V0 (Ya O) (Ln (Et (Cs (Cs (Cr (V0 (Yf uW O) (V0 (Yd 7 O O O aj) (V0 (aF O O) (Ln (Et ?_))))))))))))));refine Cc O (λcR=>?_) (λcR=>?_)
   ·refine Cs (Cr (V0 (Ym O) (V0 (Yf uY O) (V0 (Yd 7 O O O kS) (V0 (Yo (i:=1) ly O O zT (by omega)) (V0 (cF 1 kR O O O (Hv)) ?_))))));refine Lw (ι:=SP×SP) [_,_,_] _ Y O qT O O (λ_=>.tuple #[]) (λq=>(aV 123 67 70 sb K ⟨ag z (cg ((ag y t.g).code.length) (au ⟨11,0,0⟩ 1 0 (aM [⟨1,1,0⟩] (au ⟨12,0,0⟩ 1 0 (ag y t.g))))),q.1,q.2⟩)) (λ_=>True) [H] (by simp) (λw hw=>(ki z za zc (⟨(cg ((ag y t.g).code.length) (au ⟨11,0,0⟩ 1 0 (aM [⟨1,1,0⟩] (au ⟨12,0,0⟩ 1 0 (ag y t.g))))),qU.1.1,qU.1.2⟩:a8) w Hw Hx (by show ((cg ((ag y t.g).code.length) (au ⟨11,0,0⟩ 1 0 (aM [⟨1,1,0⟩] (au ⟨12,0,0⟩ 1 0 (ag y t.g)))))).code.length+8*dy z<=_; (try simp only [bO]); omega) (by show ((cg ((ag y t.g).code.length) (au ⟨11,0,0⟩ 1 0 (aM [⟨1,1,0⟩] (au ⟨12,0,0⟩ 1 0 (ag y t.g)))))).fix.length+8*dy z<=_; (try simp only [bO]); omega) hw).mono λe w' ⟨q,h1,h2⟩=>⟨q,h1,trivial,h2⟩) ?_;intro jt _;refine Ln (Et (Cs (Cr (V0 (Ym O) (V0 (Yb fu ga O O) ?_)))));refine Lb Y O fG O O O O λSd=>?_;refine WL.jT (rd:=eB) (f:=aI.cells) (k:=3) (m:=1) 0 [⟨22,0,0⟩] O O aI.aX (λ_ _ _ _ h=>h) (by simp) (by decide) λHA Se=>?_;refine Lw (ι:=SP) [_,_,_] _ Y O kT O O (λ_=>.tuple #[]) (λq=>(aV 123 67 70 sb K ⟨aM [⟨22,0,0⟩] (⟨(ag z (cg ((ag y t.g).code.length) (au ⟨11,0,0⟩ 1 0 (aM [⟨1,1,0⟩] (au ⟨12,0,0⟩ 1 0 (ag y t.g)))))),jt.1,jt.2⟩:a8).g,q,(⟨(ag z (cg ((ag y t.g).code.length) (au ⟨11,0,0⟩ 1 0 (aM [⟨1,1,0⟩] (au ⟨12,0,0⟩ 1 0 (ag y t.g)))))),jt.1,jt.2⟩:a8).fa⟩)) (λ_=>True) [HA] (by simp) (λw hw=>(kU sb K (⟨(ag z (cg ((ag y t.g).code.length) (au ⟨11,0,0⟩ 1 0 (aM [⟨1,1,0⟩] (au ⟨12,0,0⟩ 1 0 (ag y t.g)))))),jt.1,jt.2⟩:a8) HA (some ⟨Sd,0,none⟩) 1 [⟨22,0,0⟩] w Se (by show ((ag z (cg ((ag y t.g).code.length) (au ⟨11,0,0⟩ 1 0 (aM [⟨1,1,0⟩] (au ⟨12,0,0⟩ 1 0 (ag y t.g))))))).code.length+[⟨22,0,0⟩].length<=_; (try simp only [bO]); omega) hw).mono λe w' ⟨q,h1,h2⟩=>⟨q,h1,trivial,h2⟩) ?_;intro DM _;refine Ln (Et (Cs (Cr (V0 (Ym O) (Lf 6 O (Lf 6 O (Lf 4 O (Lf 4 O (Lf 4 O ?_)))))))));refine WL.xP (ι:=Unit) [_,_,_,_,_] _ Y O yA O O O (λ_=>.tuple #[]) (λ_=>(aV 123 67 70 sb K ⟨cg ((aM [⟨1,1,0⟩] (au ⟨12,0,0⟩ 1 0 (ag y t.g))).code.length) (aM [⟨22,0,0⟩] (ag z (cg ((ag y t.g).code.length) (au ⟨11,0,0⟩ 1 0 (aM [⟨1,1,0⟩] (au ⟨12,0,0⟩ 1 0 (ag y t.g))))))),(⟨(aM [⟨22,0,0⟩] (ag z (cg ((ag y t.g).code.length) (au ⟨11,0,0⟩ 1 0 (aM [⟨1,1,0⟩] (au ⟨12,0,0⟩ 1 0 (ag y t.g))))))),DM,jt.2⟩:a8).ca,(⟨(aM [⟨22,0,0⟩] (ag z (cg ((ag y t.g).code.length) (au ⟨11,0,0⟩ 1 0 (aM [⟨1,1,0⟩] (au ⟨12,0,0⟩ 1 0 (ag y t.g))))))),DM,jt.2⟩:a8).fa⟩)++[ab qU.2.1 (.cells #[.pointer (some ⟨sb,0,none⟩)] 120 (0,0)),ab qU.2.2 (.cells #[.int .i64 ((aM [⟨1,1,0⟩] (au ⟨12,0,0⟩ 1 0 (ag y t.g))).code.length:Int)] 3 (0,0))]) (λ_=>True) [] (by simp) (λw hw=>(yz sb K (⟨(aM [⟨22,0,0⟩] (ag z (cg ((ag y t.g).code.length) (au ⟨11,0,0⟩ 1 0 (aM [⟨1,1,0⟩] (au ⟨12,0,0⟩ 1 0 (ag y t.g))))))),DM,jt.2⟩:a8) qU.2.1 qU.2.2 ((aM [⟨1,1,0⟩] (au ⟨12,0,0⟩ 1 0 (ag y t.g))).code.length) _ w (List.getElem?_eq_getElem (by show (aM [⟨1,1,0⟩] (au ⟨12,0,0⟩ 1 0 (ag y t.g))).code.length<((aM [⟨22,0,0⟩] (ag z (cg ((ag y t.g).code.length) (au ⟨11,0,0⟩ 1 0 (aM [⟨1,1,0⟩] (au ⟨12,0,0⟩ 1 0 (ag y t.g)))))))).code.length; (try simp only [bO]); omega)) hw).mono λe w' h=>⟨(),h.1,trivial,h.2⟩) ?_
    intro _ _;refine Ln (Et (aw (Er (bt ?_))));refine WE.Nc O λw' hw=>?_
    have hr:ag x t.g=(cg ((aM [⟨1,1,0⟩] (au ⟨12,0,0⟩ 1 0 (ag y t.g))).code.length) (aM [⟨22,0,0⟩] (ag z (cg ((ag y t.g).code.length) (au ⟨11,0,0⟩ 1 0 (aM [⟨1,1,0⟩] (au ⟨12,0,0⟩ 1 0 (ag y t.g)))))))):=by
      rw [tR,pg,if_neg ir,if_neg fZ,if_neg gW,if_neg iS,if_neg lY,if_neg qR,if_neg yv,if_pos ho];unfold OB;rw [oq bx,oq lq]
    rw [hr];exact ⟨(DM,jt.2),O,Wv 2 (Wt 3 hw)⟩
   exact absurd cR (by rw [ho]; decide)
  exact absurd cz (by rw [ho]; decide)
 have C5:¬x.op=8:=by simpa using bH
 refine Cs ?_;have df:=JA x.args t.g;have lz:=df.hi;have lA:=df.gh;refine Cr (V0 (Ym O) (V0 (Yf uY O) (V0 (Yd 0 O O O kS) (Lf 3 O (Lf 3 O (Lf 3 O ?_))))));refine Lw (ι:=SP×SP) [_,_,_] _ Y O abP O O (λ_=>.tuple #[]) (λq=>(aV 123 67 70 sb K ⟨eA x.args t.g,q.1,q.2⟩)) (λ_=>True) [H] (by simp) (λw hw=>(abQ sb K t H k x.args a c w hN hl aA.args.1 (by omega) (by omega) hw).mono λe w' ⟨q,h1,h2⟩=>⟨q,h1,trivial,h2⟩) ?_;intro eD _;refine Ln (Et (Cs (Cr (V0 (Yf uW O) (V0 (Yd 3 O O O aj) (V0 (aF O O) (Ln (Et ?_))))))));refine Cc O (λfC=>?_) (λfC=>?_)
 ·have ho:x.op=6:=by simpa using fC
  refine Cr (V0 (Ym O) (V0 (Yb fu ga O O) ?_));refine Lb Y O fG O O O O λsJ=>?_;refine WL.jT (rd:=eB) (f:=aI.cells) (k:=3) (m:=1) 0 [⟨9,0,0⟩] O O aI.aX (λ_ _ _ _ h=>h) (by simp) (by decide) λym Gr=>?_;refine Lw (ι:=SP) [_,_,_] _ Y O kT O O (λ_=>.tuple #[]) (λq=>(aV 123 67 70 sb K ⟨aM [⟨9,0,0⟩] (⟨(eA x.args t.g),eD.1,eD.2⟩:a8).g,q,(⟨(eA x.args t.g),eD.1,eD.2⟩:a8).fa⟩)) (λ_=>True) [ym] (by simp) (λw hw=>(kU sb K (⟨(eA x.args t.g),eD.1,eD.2⟩:a8) ym (some ⟨sJ,0,none⟩) 1 [⟨9,0,0⟩] w Gr (by show ((eA x.args t.g)).code.length+[⟨9,0,0⟩].length<=_; (try simp only [bO]); omega) hw).mono λe w' ⟨q,h1,h2⟩=>⟨q,h1,trivial,h2⟩) ?_;intro j7 _;refine Ln (Eb ?_);refine E0 O λw' hw=>?_
  have hr:ag x t.g=aM [⟨9,0,0⟩] (eA x.args t.g):=by
    rw [tR,pg,if_neg ir,if_neg fZ,if_neg gW,if_neg iS,if_neg lY,if_neg qR,if_neg yv,if_neg C5,if_pos ho];rw [Fj]
  rw [hr];exact ⟨(j7,eD.2),O,Wv 1 (Wt 3 hw)⟩
 have oP:¬x.op=6:=by simpa using fC
 refine Cr (V0 (Ym O) (V0 (Yf uW O) (V0 (Yd 3 O O O aj) (V0 (Yb fu ga O O) ?_))));refine Lb Y O fG O O O O λFZ=>?_;refine WL.jT (rd:=eB) (f:=aI.cells) (k:=3) (m:=1) 0 [⟨10,x.op,0⟩] O O aI.aX (λ_ _ _ _ h=>h) (by simp) (by decide) λC9 F0=>?_;refine Lw (ι:=SP) [_,_,_] _ Y O kT O O (λ_=>.tuple #[]) (λq=>(aV 123 67 70 sb K ⟨aM [⟨10,x.op,0⟩] (⟨(eA x.args t.g),eD.1,eD.2⟩:a8).g,q,(⟨(eA x.args t.g),eD.1,eD.2⟩:a8).fa⟩)) (λ_=>True) [C9] (by simp) (λw hw=>(kU sb K (⟨(eA x.args t.g),eD.1,eD.2⟩:a8) C9 (some ⟨FZ,0,none⟩) 1 [⟨10,x.op,0⟩] w F0 (by show ((eA x.args t.g)).code.length+[⟨10,x.op,0⟩].length<=_; (try simp only [bO]); omega) hw).mono λe w' ⟨q,h1,h2⟩=>⟨q,h1,trivial,h2⟩) ?_;intro Ad _;refine Ln (Eb ?_);refine E0 O λw' hw=>?_
 have hr:ag x t.g=aM [⟨10,x.op,0⟩] (eA x.args t.g):=by
   rw [tR,pg,if_neg ir,if_neg fZ,if_neg gW,if_neg iS,if_neg lY,if_neg qR,if_neg yv,if_neg C5,if_neg oP,Fj]
 rw [hr];exact ⟨(Ad,eD.2),O,Wv 1 (Wt 3 hw)⟩
def ab5 (H:View) (sb:Nat) (K:gG) (ke k:Nat):Prop:=∀(l:List cB) (a:Option Addr) (c:Nat) (t:a8) (w:World),Sl (iA ke k) 7 H a c l->tW l->t.g.code.length+8*eh l<=1000000000000->t.g.fix.length+8*eh l<=1000000000000->
 Ws w (List.flatMap ao.ids (aV 123 67 70 sb K t)) (aV 123 67 70 sb K t) [H] w->Calls Tryz.prog 88 #[.pointer (some ⟨sb,0,none⟩),.slice a l.length c] w λe w'=>∃q:SP×SP,e = .returned (.tuple #[])/\Ws w (List.flatMap ao.ids (aV 123 67 70 sb K t)) (aV 123 67 70 sb K ⟨bE l t.g,q.1,q.2⟩) [H] w'
theorem Mu:Enters Tryz.prog 88:=enters_of Tryz.func88 (by kernel_rfl) rfl
theorem aqt:Enters Tryz.prog 108:=enters_of Tryz.func108 (by kernel_rfl) rfl
theorem aqu (sb:Nat) (K:gG) (t:a8) (H:View) (ke k:Nat) (x:cB) (r:zw) (w:World) (hA:ab5 H sb K ke k) (h1:Sl (jV ke) 5 H r.s1.1 r.s1.2 x.args) (h2:Sl (iA ke k) 7 H r.s2.1 r.s2.2 x.body) (h3:Sl (iA ke k) 7 H r.s3.1 r.s3.2 x.other) (aA:JB x) (hb:t.g.code.length+8*r_ x<=1000000000000) (pK:t.g.fix.length+8*r_ x<=1000000000000) (hw:Ws w (List.flatMap ao.ids (aV 123 67 70 sb K t)) (aV 123 67 70 sb K t) [H] w) :
   Calls Tryz.prog 108 #[.pointer (some ⟨sb,0,none⟩),.agg (vx x r).toArray] w λe w'=>∃q:SP×SP,e = .returned (.tuple #[])/\Ws w (List.flatMap ao.ids (aV 123 67 70 sb K t)) (aV 123 67 70 sb K ⟨lP x t.g,q.1,q.2⟩) [H] w':=by
 have hN:∀k2,Hu H sb K k2:=λk2 x a c t w h1 h2 h3 h4 h5=>aqi sb K t H k2 x a c w h1 h2 h3 h4 h5;have dN:=h1.cap;have ek:=h1.max;have awX:=h3.cap;have awY:=h3.max;have hwe:=af5 x;refine enter Tryz.func108 O 155 O O ?_;refine CE hw (Cs (Cr ?_));refine WL.box Y O O λb3=>?_;refine Ln (Et (Cs (Cr (V0 (Yf Mj O) (V0 (Yd 0 O O O aj) (Ln (Et (Cb (Cs (Cr (V0 (aF O O) (V0 (Ya O) (Ln (Et ?_))))))))))))));refine Cc O (λad=>?_) (λad=>?_)
 ·have ho:x.op=1:=by simpa using ad
  refine Cs ?_;have x7:=aA.parts.2.2.2.1 (by omega);obtain ⟨y,bx⟩:∃y,x.args[0]? = some y:=⟨_,List.getElem?_eq_getElem (by omega)⟩;obtain ⟨gq,gu,eG,ck⟩:=h1.aO 0 y bx
  obtain ⟨k2,rfl⟩:∃k2,ke=k2+1:=by
    cases ke with
    | zero=>exact ck.elim
    | succ k2=>exact ⟨k2,rfl⟩
  obtain ⟨ya,yc,l3,l4⟩:=ck;have ki:=hN k2;have l5:=aA.parts.1.at_ bx;have DL:=A2 bx;have df:=mq y t.g;have lz:=df.hi;have lA:=df.gh;have yB:=df.lo;refine Cr (V0 (Ym O) (V0 (Yf sP O) (V0 (Yd 0 O O O kS) (V0 (Yo (i:=0) ly O O eG (by omega)) (V0 (cF 0 kR O O O (l3)) (Lf 3 O (Lf 3 O ?_)))))));refine Lf 3 O ?_;refine Lw (ι:=SP×SP) [_,_,_] _ Y O qT O O (λ_=>.tuple #[]) (λq=>(aV 123 67 70 sb K ⟨ag y t.g,q.1,q.2⟩)) (λ_=>True) [H] (by simp) (λw hw=>(ki y ya yc t w l4 l5 (by show (t.g).code.length+8*dy y<=_; (try simp only [bO]); omega) (by show (t.g).fix.length+8*dy y<=_; (try simp only [bO]); omega) hw).mono λe w' ⟨q,h1,h2⟩=>⟨q,h1,trivial,h2⟩) ?_;intro kP _;refine Ln (Et (Cs (Cr (V0 (Yf pG O) (V0 (Yd 3 O O O aj) (V0 (a_ O O) (Ln (Et ?_))))))));refine Cc O (λaq=>?_) (λaq=>?_)
  ·have hm:x.m<0:=by simpa using aq
   refine Cr (V0 (Ym O) (V0 (Yf qP O) (V0 (Yd 3 O O O aj) (V0 (Yb fu ga O O) ?_))));refine Lb Y O fG O O O O λZ9=>?_;refine WL.jT (rd:=eB) (f:=aI.cells) (k:=3) (m:=1) 0 [⟨3,x.pl,0⟩] O O aI.aX (λ_ _ _ _ h=>h) (by simp) (by decide) λH25 aqv=>?_;refine Lw (ι:=SP) [_,_,_] _ Y O kT O O (λ_=>.tuple #[]) (λq=>(aV 123 67 70 sb K ⟨aM [⟨3,x.pl,0⟩] (⟨(ag y t.g),kP.1,kP.2⟩:a8).g,q,(⟨(ag y t.g),kP.1,kP.2⟩:a8).fa⟩)) (λ_=>True) [H25] (by simp) (λw hw=>(kU sb K (⟨(ag y t.g),kP.1,kP.2⟩:a8) H25 (some ⟨Z9,0,none⟩) 1 [⟨3,x.pl,0⟩] w aqv (by show ((ag y t.g)).code.length+[⟨3,x.pl,0⟩].length<=_; (try simp only [bO]); omega) hw).mono λe w' ⟨q,h1,h2⟩=>⟨q,h1,trivial,h2⟩) ?_;intro j9 _;refine Ln (Eb ?_);refine E0 O λw' hw=>?_
   have hr:lP x t.g=aM [⟨3,x.pl,0⟩] (ag y t.g):=by
     rw [vE,ql,if_pos ho,if_pos hm,oq bx]
   rw [hr];exact ⟨(j9,kP.2),O,Wv 1 (Wt 3 hw)⟩
  have hm:¬x.m<0:=by simpa using aq
  refine Cr (V0 (Ym O) (V0 (Yf qP O) (V0 (Yd 3 O O O aj) (V0 (Yb fu ga O O) (V0 (Yf pG O) (V0 (Yd 3 O O O aj) ?_))))));refine Lw (ι:=SP×SP) [_,_,_] _ Y O DG O O (λ_=>.int .i64 ((ag y t.g).code.length:Int)) (λq=>(aV 123 67 70 sb K ⟨au ⟨5,x.pl,0⟩ 3 x.m (ag y t.g),q.1,q.2⟩)) (λ_=>True) [] (by simp) (λw hw=>(DH sb K (⟨(ag y t.g),kP.1,kP.2⟩:a8)  ⟨5,x.pl,0⟩ 3 x.m w  (by show ((ag y t.g)).code.length+1<=_; (try simp only [bO]); omega) (by show ((ag y t.g)).fix.length+1<=_; (try simp only [bO]); omega) hw).mono λe w' ⟨q,h1,h2⟩=>⟨q,h1,trivial,h2⟩) ?_;intro j_ _;refine Ln (Eb ?_);refine E0 O λw' hw=>?_
  have hr:lP x t.g=au ⟨5,x.pl,0⟩ 3 x.m (ag y t.g):=by
    rw [vE,ql,if_pos ho,if_neg hm,oq bx]
  rw [hr];exact ⟨(j_.1,j_.2),O,Wt 3 hw⟩
 have fZ:¬x.op=1:=by simpa using ad
 refine Cs (Cr (V0 (aF O O) (V0 (Ya O) (Ln (Et ?_)))));refine Cc O (λay=>?_) (λay=>?_)
 ·have ho:x.op=2:=by simpa using ay
  refine Cs ?_;have Ms:=aA.parts.2.2.2.2.1 (by omega);obtain ⟨y,bx⟩:∃y,x.args[0]? = some y:=⟨_,List.getElem?_eq_getElem (by omega)⟩;obtain ⟨gq,gu,eG,ck⟩:=h1.aO 0 y bx;obtain ⟨z,lq⟩:∃y,x.args[1]? = some y:=⟨_,List.getElem?_eq_getElem (by omega)⟩;obtain ⟨Pr,Ps,zT,x3⟩:=h1.aO 1 z lq
  obtain ⟨k2,rfl⟩:∃k2,ke=k2+1:=by
    cases ke with
    | zero=>exact ck.elim
    | succ k2=>exact ⟨k2,rfl⟩
  obtain ⟨ya,yc,l3,l4⟩:=ck;have ki:=hN k2;have l5:=aA.parts.1.at_ bx;have DL:=A2 bx;have df:=mq y t.g;have lz:=df.hi;have lA:=df.gh;have yB:=df.lo;obtain ⟨za,zc,Hv,Hw⟩:=x3;have Hx:=aA.parts.1.at_ lq;have hw2:=R_ bx lq;have sR:=mq z (au ⟨6,x.pl,x.n⟩ 3 x.m (ag y t.g));have vp:=sR.hi;have zv:=sR.gh;have Hy:=sR.lo
  try simp only [bO] at vp zv Hy
  refine CU (λ_=>true) [1,1,1] [] (.q false 0 (.q false 1 (.q true 2 (.q false 3 (.q true 4 (.q false 5 (.q true 6 (.q false 7 (.q true 8 (.q false 9 (.q true 10 (.e 11 .nil .stop)))))))))))) mixed (by kernel_rfl) (λ_ _ _ d _ _ h=>by cases d<;>exact h) ?_;refine U0 O (bw [1,1,1]) (Ym O) (U0 O (bw [1,1,1]) (Yf pG O) (U0 O (bw [1,1,1]) (Yd 0 O O O aj) (U0 O (bw [1,1,1]) (Yf qP O) (U0 O (bw [1,1,1]) (Yd 0 O O O aj) (U0 O (bw [1,1,1]) (Yf AO O) (U0 O (bw [1,1,1]) (Yd 0 O O O aj) (U0 O (bw [1,1,1]) (Yf sP O) ?_)))))));refine U0 O (bw [1,1,1]) (Yd 0 O O O kS) (U0 O (bw [1,1,1]) (Yo (i:=0) ly O O eG (by omega)) (U0 O (bw [1,1,1]) (cF 0 kR O O O (l3)) ?_));refine Ue O (bw [1,1,1]) ?_ WU.stop;refine Lf 3 O (Lf 3 O (Lf 3 O ?_));refine Lw (ι:=SP×SP) [_,_,_] _ Y O abV O O (λ_=>.tuple #[]) (λq=>(aV 123 67 70 sb K ⟨au ⟨6,x.pl,x.n⟩ 3 x.m (ag y t.g),q.1,q.2⟩)) (λ_=>True) [H] (by simp) (λw hw=>(abU sb K t H k2 x.m x.pl x.n y ya yc w ki l4 l5 (by omega) (by omega) hw).mono λe w' ⟨q,h1,h2⟩=>⟨q,h1,trivial,h2⟩) ?_;intro iF _;refine Ln (Eu ?_);refine WU.nil (λ_ h=>(Wo 1 (Wo 1 (Wo 1 (h.f 3 O))):)) ?_;refine WS.nil ?_;refine Et (Cs (Cr (V0 (Ym O) (V0 (Yf sP O) (V0 (Yd 3 O O O kS) (V0 (Yo (i:=1) ly O O zT (by omega)) (V0 (cF 0 kR O O O (Hv)) ?_)))))));refine Lw (ι:=SP×SP) [_,_,_] _ Y O qT O O (λ_=>.tuple #[]) (λq=>(aV 123 67 70 sb K ⟨ag z (au ⟨6,x.pl,x.n⟩ 3 x.m (ag y t.g)),q.1,q.2⟩)) (λ_=>True) [H] (by simp) (λw hw=>(ki z za zc (⟨(au ⟨6,x.pl,x.n⟩ 3 x.m (ag y t.g)),iF.1,iF.2⟩:a8) w Hw Hx (by show ((au ⟨6,x.pl,x.n⟩ 3 x.m (ag y t.g))).code.length+8*dy z<=_; (try simp only [bO]); omega) (by show ((au ⟨6,x.pl,x.n⟩ 3 x.m (ag y t.g))).fix.length+8*dy z<=_; (try simp only [bO]); omega) hw).mono λe w' ⟨q,h1,h2⟩=>⟨q,h1,trivial,h2⟩) ?_;intro A6 _;refine Ln (Et (Cr (V0 (Ym O) (V0 (Yb fu ga O O) ?_))));refine Lb Y O fG O O O O λb56=>?_;refine WL.jT (rd:=eB) (f:=aI.cells) (k:=3) (m:=1) 0 [⟨8,0,0⟩] O O aI.aX (λ_ _ _ _ h=>h) (by simp) (by decide) λH56 aqx=>?_;refine Lw (ι:=SP) [_,_,_] _ Y O kT O O (λ_=>.tuple #[]) (λq=>(aV 123 67 70 sb K ⟨aM [⟨8,0,0⟩] (⟨(ag z (au ⟨6,x.pl,x.n⟩ 3 x.m (ag y t.g))),A6.1,A6.2⟩:a8).g,q,(⟨(ag z (au ⟨6,x.pl,x.n⟩ 3 x.m (ag y t.g))),A6.1,A6.2⟩:a8).fa⟩)) (λ_=>True) [H56] (by simp) (λw hw=>(kU sb K (⟨(ag z (au ⟨6,x.pl,x.n⟩ 3 x.m (ag y t.g))),A6.1,A6.2⟩:a8) H56 (some ⟨b56,0,none⟩) 1 [⟨8,0,0⟩] w aqx (by show ((ag z (au ⟨6,x.pl,x.n⟩ 3 x.m (ag y t.g)))).code.length+[⟨8,0,0⟩].length<=_; (try simp only [bO]); omega) hw).mono λe w' ⟨q,h1,h2⟩=>⟨q,h1,trivial,h2⟩) ?_;intro qK _;refine Ln (Eb ?_);refine E0 O λw' hw=>?_
  have hr:lP x t.g=aM [⟨8,0,0⟩] (ag z (au ⟨6,x.pl,x.n⟩ 3 x.m (ag y t.g))):=by
    rw [vE,ql,if_neg fZ,if_pos ho,oq bx,oq lq]
  rw [hr];exact ⟨(qK,A6.2),O,Wv 1 (Wt 3 hw)⟩
 have gW:¬x.op=2:=by simpa using ay
 refine Cs (Cr (V0 (aF O O) (V0 (Ya O) (Ln (Et ?_)))));refine Cc O (λaJ=>?_) (λaJ=>?_)
 ·have ho:x.op=3:=by simpa using aJ
  refine Cs ?_;have hgn:=JA x.args t.g;have lz:=hgn.hi;have lA:=hgn.gh;refine Cr (V0 (Ym O) (V0 (Yf pG O) (V0 (Yd 0 O O O aj) (V0 (Yf qP O) (V0 (Yd 0 O O O aj) (V0 (Yf sP O) (V0 (Yd 0 O O O kS) ?_)))))));refine Lf 3 O (Lf 3 O (Lf 3 O ?_));refine Lw (ι:=SP×SP) [_,_,_] _ Y O abW O O (λ_=>.tuple #[]) (λq=>(aV 123 67 70 sb K ⟨au ⟨13,x.pl,0⟩ 2 x.m (eA x.args t.g),q.1,q.2⟩)) (λ_=>True) [H] (by simp) (λw hw=>(abS sb K t H ke x.m x.pl x.args r.s1.1 r.s1.2 w (λk2 _=>hN k2) h1 aA.parts.1 (by omega) (by omega) hw).mono λe w' ⟨q,h1,h2⟩=>⟨q,h1,trivial,h2⟩) ?_;intro A7 _;refine Ln (Et (Cr (V0 (Ym O) (V0 (Yb fu ga O O) ?_))));refine Lb Y O fG O O O O λSf=>?_;refine WL.jT (rd:=eB) (f:=aI.cells) (k:=3) (m:=1) 0 [⟨17,0,0⟩] O O aI.aX (λ_ _ _ _ h=>h) (by simp) (by decide) λH70 aqy=>?_;refine Lw (ι:=SP) [_,_,_] _ Y O kT O O (λ_=>.tuple #[]) (λq=>(aV 123 67 70 sb K ⟨aM [⟨17,0,0⟩] (⟨(au ⟨13,x.pl,0⟩ 2 x.m (eA x.args t.g)),A7.1,A7.2⟩:a8).g,q,(⟨(au ⟨13,x.pl,0⟩ 2 x.m (eA x.args t.g)),A7.1,A7.2⟩:a8).fa⟩)) (λ_=>True) [H70] (by simp) (λw hw=>(kU sb K (⟨(au ⟨13,x.pl,0⟩ 2 x.m (eA x.args t.g)),A7.1,A7.2⟩:a8) H70 (some ⟨Sf,0,none⟩) 1 [⟨17,0,0⟩] w aqy (by show ((au ⟨13,x.pl,0⟩ 2 x.m (eA x.args t.g))).code.length+[⟨17,0,0⟩].length<=_; (try simp only [bO]); omega) hw).mono λe w' ⟨q,h1,h2⟩=>⟨q,h1,trivial,h2⟩) ?_;intro q71 _;refine Ln (Eb ?_);refine E0 O λw' hw=>?_
  have hr:lP x t.g=aM [⟨17,0,0⟩] (au ⟨13,x.pl,0⟩ 2 x.m (eA x.args t.g)):=by
    rw [vE,ql,if_neg fZ,if_neg gW,if_pos ho,Fj]
  rw [hr];exact ⟨(q71,A7.2),O,Wv 1 (Wt 3 hw)⟩
 have iS:¬x.op=3:=by simpa using aJ
 refine Cs (Cr (V0 (aF O O) (V0 (Ya O) (Ln (Et ?_)))));refine Cc O (λaU=>?_) (λaU=>?_)
 ·have ho:x.op=4:=by simpa using aU
  refine Cs ?_;have x7:=aA.parts.2.2.2.1 (by omega);obtain ⟨y,bx⟩:∃y,x.args[0]? = some y:=⟨_,List.getElem?_eq_getElem (by omega)⟩;obtain ⟨gq,gu,eG,ck⟩:=h1.aO 0 y bx
  obtain ⟨k2,rfl⟩:∃k2,ke=k2+1:=by
    cases ke with
    | zero=>exact ck.elim
    | succ k2=>exact ⟨k2,rfl⟩
  obtain ⟨ya,yc,l3,l4⟩:=ck;have ki:=hN k2;have l5:=aA.parts.1.at_ bx;have DL:=A2 bx;have df:=mq y t.g;have lz:=df.hi;have lA:=df.gh;have yB:=df.lo;have A8:=vF x.body (au ⟨12,0,0⟩ 1 0 (ag y t.g));have FI:=A8.hi;have FJ:=A8.gh;have J3:=A8.lo
  try simp only [bO] at FI FJ J3
  have pL:=vF x.other (cg ((ag y t.g).code.length) (au ⟨11,0,0⟩ 1 0 (bE x.body (au ⟨12,0,0⟩ 1 0 (ag y t.g)))));have Mv:=pL.hi;have lC:=pL.gh;have ho3:=pL.lo
  try simp only [bO] at Mv lC ho3
  refine Cr (V0 (Ym O) (V0 (Yf sP O) (V0 (Yd 0 O O O kS) (V0 (Yo (i:=0) ly O O eG (by omega)) (V0 (cF 0 kR O O O (l3)) (Lf 3 O (Lf 3 O ?_)))))));refine Lf 3 O ?_;refine Lw (ι:=SP×SP) [_,_,_] _ Y O qT O O (λ_=>.tuple #[]) (λq=>(aV 123 67 70 sb K ⟨ag y t.g,q.1,q.2⟩)) (λ_=>True) [H] (by simp) (λw hw=>(ki y ya yc t w l4 l5 (by show (t.g).code.length+8*dy y<=_; (try simp only [bO]); omega) (by show (t.g).fix.length+8*dy y<=_; (try simp only [bO]); omega) hw).mono λe w' ⟨q,h1,h2⟩=>⟨q,h1,trivial,h2⟩) ?_;intro Ks _;refine Ln (Et (Cs (Cr (V0 (Ym O) ?_))));refine Lw (ι:=(SP×SP)×Nat×Nat) [_,_,_] _ Y O A3 O O (λq=>.func (.func 162) #[] #[.pointer (some ⟨q.2.1,0,none⟩),.pointer (some ⟨q.2.2,0,none⟩)]) (λq=>(aV 123 67 70 sb K ⟨au ⟨12,0,0⟩ 1 0 (ag y t.g),q.1.1,q.1.2⟩)++[ab q.2.1 (.cells #[.pointer (some ⟨sb,0,none⟩)] 120 (0,0)),ab q.2.2 (.cells #[.int .i64 ((ag y t.g).code.length:Int)] 3 (0,0))]) (λ_=>True) [] (by simp) (λw hw=>(A1 sb K (⟨(ag y t.g),Ks.1,Ks.2⟩:a8) 12 w (by show ((ag y t.g)).code.length+1<=_; (try simp only [bO]); omega) (by show ((ag y t.g)).fix.length+1<=_; (try simp only [bO]); omega) hw).mono λe w' ⟨q,h1,h2⟩=>⟨q,h1,trivial,h2⟩) ?_;intro py _;refine V0 (Ya O) (Ln (Et (Cs (Cr (V0 (Ym O) (V0 (Yf Ha O) (V0 (Yd 5 O O O oQ) ?_)))))));refine Lw (ι:=SP×SP) [_,_,_] _ Y O Mu O O (λ_=>.tuple #[]) (λq=>(aV 123 67 70 sb K ⟨bE x.body (au ⟨12,0,0⟩ 1 0 (ag y t.g)),q.1,q.2⟩)) (λ_=>True) [H] (by simp) (λw hw=>(hA x.body r.s2.1 r.s2.2 (⟨(au ⟨12,0,0⟩ 1 0 (ag y t.g)),py.1.1,py.1.2⟩:a8) w h2 (aA.parts.2.1 (by omega)) (by show ((au ⟨12,0,0⟩ 1 0 (ag y t.g))).code.length+8*eh x.body<=_; (try simp only [bO]); omega) (by show ((au ⟨12,0,0⟩ 1 0 (ag y t.g))).fix.length+8*eh x.body<=_; (try simp only [bO]); omega) hw).mono λe w' ⟨q,h1,h2⟩=>⟨q,h1,trivial,h2⟩) ?_;intro u5 _;refine Ln (Et (Cs (Cs (Cr (V0 (Yf AP O) (V0 (Yd 5 O O O oQ) (V0 (Yn u4 O) (V0 (bX O O) (Ln (Et ?_))))))))));refine Cc O (λbd=>?_) (λbd=>?_)
  ·have oR:0<x.other.length:=by simpa using bd
   refine Cs (Cr (V0 (Ym O) ?_));refine Lw (ι:=(SP×SP)×Nat×Nat) [_,_,_] _ Y O A3 O O (λq=>.func (.func 162) #[] #[.pointer (some ⟨q.2.1,0,none⟩),.pointer (some ⟨q.2.2,0,none⟩)]) (λq=>(aV 123 67 70 sb K ⟨au ⟨11,0,0⟩ 1 0 (bE x.body (au ⟨12,0,0⟩ 1 0 (ag y t.g))),q.1.1,q.1.2⟩)++[ab q.2.1 (.cells #[.pointer (some ⟨sb,0,none⟩)] 120 (0,0)),ab q.2.2 (.cells #[.int .i64 ((bE x.body (au ⟨12,0,0⟩ 1 0 (ag y t.g))).code.length:Int)] 3 (0,0))]) (λ_=>True) [] (by simp) (λw hw=>(A1 sb K (⟨(bE x.body (au ⟨12,0,0⟩ 1 0 (ag y t.g))),u5.1,u5.2⟩:a8) 11 w (by show ((bE x.body (au ⟨12,0,0⟩ 1 0 (ag y t.g)))).code.length+1<=_; (try simp only [bO]); omega) (by show ((bE x.body (au ⟨12,0,0⟩ 1 0 (ag y t.g)))).fix.length+1<=_; (try simp only [bO]); omega) hw).mono λe w' ⟨q,h1,h2⟩=>⟨q,h1,trivial,h2⟩) ?_;intro qV _;refine V0 (Ya O) (Ln (Et (Cs (Cr (V0 (Ym O) (Lf 6 O (Lf 6 O (Lf 4 O (Lf 4 O (Lf 4 O ?_))))))))));refine WL.xP (ι:=Unit) [_,_,_,_,_] _ Y O yA O O O (λ_=>.tuple #[]) (λ_=>(aV 123 67 70 sb K ⟨cg ((ag y t.g).code.length) (au ⟨11,0,0⟩ 1 0 (bE x.body (au ⟨12,0,0⟩ 1 0 (ag y t.g)))),(⟨(au ⟨11,0,0⟩ 1 0 (bE x.body (au ⟨12,0,0⟩ 1 0 (ag y t.g)))),qV.1.1,qV.1.2⟩:a8).ca,(⟨(au ⟨11,0,0⟩ 1 0 (bE x.body (au ⟨12,0,0⟩ 1 0 (ag y t.g)))),qV.1.1,qV.1.2⟩:a8).fa⟩)++[ab py.2.1 (.cells #[.pointer (some ⟨sb,0,none⟩)] 120 (0,0)),ab py.2.2 (.cells #[.int .i64 ((ag y t.g).code.length:Int)] 3 (0,0))]) (λ_=>True) [] (by simp) (λw hw=>(yz sb K (⟨(au ⟨11,0,0⟩ 1 0 (bE x.body (au ⟨12,0,0⟩ 1 0 (ag y t.g)))),qV.1.1,qV.1.2⟩:a8) py.2.1 py.2.2 ((ag y t.g).code.length) _ w (List.getElem?_eq_getElem (by show (ag y t.g).code.length<((au ⟨11,0,0⟩ 1 0 (bE x.body (au ⟨12,0,0⟩ 1 0 (ag y t.g))))).code.length; (try simp only [bO]); omega)) hw).mono λe w' h=>⟨(),h.1,trivial,h.2⟩) ?_;intro _ _;refine Ln (Et (Cs (Cr (V0 (Ym O) (V0 (Yf AP O) (V0 (Yd 7 O O O oQ) ?_))))));refine Lw (ι:=SP×SP) [_,_,_] _ Y O Mu O O (λ_=>.tuple #[]) (λq=>(aV 123 67 70 sb K ⟨bE x.other (cg ((ag y t.g).code.length) (au ⟨11,0,0⟩ 1 0 (bE x.body (au ⟨12,0,0⟩ 1 0 (ag y t.g))))),q.1,q.2⟩)) (λ_=>True) [H] (by simp) (λw hw=>(hA x.other r.s3.1 r.s3.2 (⟨(cg ((ag y t.g).code.length) (au ⟨11,0,0⟩ 1 0 (bE x.body (au ⟨12,0,0⟩ 1 0 (ag y t.g))))),qV.1.1,qV.1.2⟩:a8) w h3 aA.parts.2.2.1 (by show ((cg ((ag y t.g).code.length) (au ⟨11,0,0⟩ 1 0 (bE x.body (au ⟨12,0,0⟩ 1 0 (ag y t.g)))))).code.length+8*eh x.other<=_; (try simp only [bO]); omega) (by show ((cg ((ag y t.g).code.length) (au ⟨11,0,0⟩ 1 0 (bE x.body (au ⟨12,0,0⟩ 1 0 (ag y t.g)))))).fix.length+8*eh x.other<=_; (try simp only [bO]); omega) hw).mono λe w' ⟨q,h1,h2⟩=>⟨q,h1,trivial,h2⟩) ?_;intro yC _;refine Ln (Et (Cr (V0 (Ym O) (V0 (Ya O) (Ln (Et (Cr (V0 (Ym O) (Lf 6 O (Lf 6 O (Lf 4 O ?_)))))))))));refine Lf 4 O (Lf 4 O ?_)
   refine WL.xP (ι:=Unit) [_,_,_,_,_] _ Y O yA O O O (λ_=>.tuple #[]) (λ_=>(aV 123 67 70 sb K ⟨cg ((bE x.body (au ⟨12,0,0⟩ 1 0 (ag y t.g))).code.length) (bE x.other (cg ((ag y t.g).code.length) (au ⟨11,0,0⟩ 1 0 (bE x.body (au ⟨12,0,0⟩ 1 0 (ag y t.g)))))),(⟨(bE x.other (cg ((ag y t.g).code.length) (au ⟨11,0,0⟩ 1 0 (bE x.body (au ⟨12,0,0⟩ 1 0 (ag y t.g)))))),yC.1,yC.2⟩:a8).ca,(⟨(bE x.other (cg ((ag y t.g).code.length) (au ⟨11,0,0⟩ 1 0 (bE x.body (au ⟨12,0,0⟩ 1 0 (ag y t.g)))))),yC.1,yC.2⟩:a8).fa⟩)++[ab qV.2.1 (.cells #[.pointer (some ⟨sb,0,none⟩)] 120 (0,0)),ab qV.2.2 (.cells #[.int .i64 ((bE x.body (au ⟨12,0,0⟩ 1 0 (ag y t.g))).code.length:Int)] 3 (0,0))]) (λ_=>True) [] (by simp) (λw hw=>(yz sb K (⟨(bE x.other (cg ((ag y t.g).code.length) (au ⟨11,0,0⟩ 1 0 (bE x.body (au ⟨12,0,0⟩ 1 0 (ag y t.g)))))),yC.1,yC.2⟩:a8) qV.2.1 qV.2.2 ((bE x.body (au ⟨12,0,0⟩ 1 0 (ag y t.g))).code.length) _ w (List.getElem?_eq_getElem (by show (bE x.body (au ⟨12,0,0⟩ 1 0 (ag y t.g))).code.length<((bE x.other (cg ((ag y t.g).code.length) (au ⟨11,0,0⟩ 1 0 (bE x.body (au ⟨12,0,0⟩ 1 0 (ag y t.g))))))).code.length; (try simp only [bO]); omega)) hw).mono λe w' h=>⟨(),h.1,trivial,h.2⟩) ?_;intro _ _;refine Ln (Eb ?_);refine E0 O λw' hw=>?_
   have hr:lP x t.g=cg ((bE x.body (au ⟨12,0,0⟩ 1 0 (ag y t.g))).code.length) (bE x.other (cg ((ag y t.g).code.length) (au ⟨11,0,0⟩ 1 0 (bE x.body (au ⟨12,0,0⟩ 1 0 (ag y t.g)))))):=by
     rw [vE,ql,if_neg fZ,if_neg gW,if_neg iS,if_pos ho,oq bx];unfold Jv;rw [if_pos oR]
   rw [hr];exact ⟨(yC.1,yC.2),O,Wt 3 hw⟩
  have oR:¬0<x.other.length:=by simpa using bd
  refine Ck (Et (Cr (V0 (Ym O) ?_)));refine WL.xP (ι:=Unit) [_,_,_,_,_] _ Y O yA O O O (λ_=>.tuple #[]) (λ_=>(aV 123 67 70 sb K ⟨cg ((ag y t.g).code.length) (bE x.body (au ⟨12,0,0⟩ 1 0 (ag y t.g))),(⟨(bE x.body (au ⟨12,0,0⟩ 1 0 (ag y t.g))),u5.1,u5.2⟩:a8).ca,(⟨(bE x.body (au ⟨12,0,0⟩ 1 0 (ag y t.g))),u5.1,u5.2⟩:a8).fa⟩)++[ab py.2.1 (.cells #[.pointer (some ⟨sb,0,none⟩)] 120 (0,0)),ab py.2.2 (.cells #[.int .i64 ((ag y t.g).code.length:Int)] 3 (0,0))]) (λ_=>True) [] (by simp) (λw hw=>(yz sb K (⟨(bE x.body (au ⟨12,0,0⟩ 1 0 (ag y t.g))),u5.1,u5.2⟩:a8) py.2.1 py.2.2 ((ag y t.g).code.length) _ w (List.getElem?_eq_getElem (by show (ag y t.g).code.length<((bE x.body (au ⟨12,0,0⟩ 1 0 (ag y t.g)))).code.length; (try simp only [bO]); omega)) hw).mono λe w' h=>⟨(),h.1,trivial,h.2⟩) ?_;intro _ _;refine Ln (Eb ?_);refine E0 O λw' hw=>?_
  have hr:lP x t.g=cg ((ag y t.g).code.length) (bE x.body (au ⟨12,0,0⟩ 1 0 (ag y t.g))):=by
    rw [vE,ql,if_neg fZ,if_neg gW,if_neg iS,if_pos ho,oq bx];unfold Jv;rw [if_neg oR]
  rw [hr];exact ⟨(u5.1,u5.2),O,Wt 3 hw⟩
 have lY:¬x.op=4:=by simpa using aU
 refine Cs (Cr (V0 (aF O O) (V0 (Ya O) (Ln (Et ?_)))));refine Cc O (λbh=>?_) (λbh=>?_)
 ·have ho:x.op=5:=by simpa using bh
  refine Cs (Cr (V0 (Ym O) (V0 (aQ O) (V0 (Yf mK O) (V0 (Yf iG O) (V0 (Yd 1 O O O ep) (V0 (Yn et O) (V0 (Ya O) ?_))))))));refine Ln (Et (Cs ?_));have x7:=aA.parts.2.2.2.1 (by omega);obtain ⟨y,bx⟩:∃y,x.args[0]? = some y:=⟨_,List.getElem?_eq_getElem (by omega)⟩;obtain ⟨gq,gu,eG,ck⟩:=h1.aO 0 y bx
  obtain ⟨k2,rfl⟩:∃k2,ke=k2+1:=by
    cases ke with
    | zero=>exact ck.elim
    | succ k2=>exact ⟨k2,rfl⟩
  obtain ⟨ya,yc,l3,l4⟩:=ck;have ki:=hN k2;have l5:=aA.parts.1.at_ bx;have DL:=A2 bx;have df:=mq y t.g;have lz:=df.hi;have lA:=df.gh;have yB:=df.lo;have A8:=vF x.body (aM [⟨16,0,0⟩] (au ⟨12,0,0⟩ 1 0 (ag y t.g)));have FI:=A8.hi;have FJ:=A8.gh;have J3:=A8.lo
  try simp only [bO] at FI FJ J3
  refine Cr (V0 (Ym O) (V0 (Yf sP O) (V0 (Yd 0 O O O kS) (V0 (Yo (i:=0) ly O O eG (by omega)) (V0 (cF 0 kR O O O (l3)) (Lf 3 O (Lf 3 O ?_)))))));refine Lf 3 O ?_;refine Lw (ι:=SP×SP) [_,_,_] _ Y O qT O O (λ_=>.tuple #[]) (λq=>(aV 123 67 70 sb K ⟨ag y t.g,q.1,q.2⟩)) (λ_=>True) [H] (by simp) (λw hw=>(ki y ya yc t w l4 l5 (by show (t.g).code.length+8*dy y<=_; (try simp only [bO]); omega) (by show (t.g).fix.length+8*dy y<=_; (try simp only [bO]); omega) hw).mono λe w' ⟨q,h1,h2⟩=>⟨q,h1,trivial,h2⟩) ?_;intro ab' _;refine Ln (Et (Cs (Cr (V0 (Ym O) ?_))));refine Lw (ι:=(SP×SP)×Nat×Nat) [_,_,_] _ Y O A3 O O (λq=>.func (.func 162) #[] #[.pointer (some ⟨q.2.1,0,none⟩),.pointer (some ⟨q.2.2,0,none⟩)]) (λq=>(aV 123 67 70 sb K ⟨au ⟨12,0,0⟩ 1 0 (ag y t.g),q.1.1,q.1.2⟩)++[ab q.2.1 (.cells #[.pointer (some ⟨sb,0,none⟩)] 120 (0,0)),ab q.2.2 (.cells #[.int .i64 ((ag y t.g).code.length:Int)] 3 (0,0))]) (λ_=>True) [] (by simp) (λw hw=>(A1 sb K (⟨(ag y t.g),ab'.1,ab'.2⟩:a8) 12 w (by show ((ag y t.g)).code.length+1<=_; (try simp only [bO]); omega) (by show ((ag y t.g)).fix.length+1<=_; (try simp only [bO]); omega) hw).mono λe w' ⟨q,h1,h2⟩=>⟨q,h1,trivial,h2⟩) ?_;intro jt _;refine V0 (Ya O) (Ln (Et (Cs (Cr (V0 (Ym O) (V0 (Yb fu ga O O) ?_))))));refine Lb Y O fG O O O O λSd=>?_;refine WL.jT (rd:=eB) (f:=aI.cells) (k:=3) (m:=1) 0 [⟨16,0,0⟩] O O aI.aX (λ_ _ _ _ h=>h) (by simp) (by decide) λHA Se=>?_;refine Lw (ι:=SP) [_,_,_] _ Y O kT O O (λ_=>.tuple #[]) (λq=>(aV 123 67 70 sb K ⟨aM [⟨16,0,0⟩] (⟨(au ⟨12,0,0⟩ 1 0 (ag y t.g)),jt.1.1,jt.1.2⟩:a8).g,q,(⟨(au ⟨12,0,0⟩ 1 0 (ag y t.g)),jt.1.1,jt.1.2⟩:a8).fa⟩)) (λ_=>True) [HA] (by simp) (λw hw=>(kU sb K (⟨(au ⟨12,0,0⟩ 1 0 (ag y t.g)),jt.1.1,jt.1.2⟩:a8) HA (some ⟨Sd,0,none⟩) 1 [⟨16,0,0⟩] w Se (by show ((au ⟨12,0,0⟩ 1 0 (ag y t.g))).code.length+[⟨16,0,0⟩].length<=_; (try simp only [bO]); omega) hw).mono λe w' ⟨q,h1,h2⟩=>⟨q,h1,trivial,h2⟩) ?_;intro DM _;refine Ln (Et (Cs (Cr (V0 (Ym O) (V0 (Yf Ha O) (V0 (Yd 5 O O O oQ) ?_))))));refine Lw (ι:=SP×SP) [_,_,_] _ Y O Mu O O (λ_=>.tuple #[]) (λq=>(aV 123 67 70 sb K ⟨bE x.body (aM [⟨16,0,0⟩] (au ⟨12,0,0⟩ 1 0 (ag y t.g))),q.1,q.2⟩)) (λ_=>True) [H] (by simp) (λw hw=>(hA x.body r.s2.1 r.s2.2 (⟨(aM [⟨16,0,0⟩] (au ⟨12,0,0⟩ 1 0 (ag y t.g))),DM,jt.1.2⟩:a8) w h2 (aA.parts.2.1 (by omega)) (by show ((aM [⟨16,0,0⟩] (au ⟨12,0,0⟩ 1 0 (ag y t.g)))).code.length+8*eh x.body<=_; (try simp only [bO]); omega) (by show ((aM [⟨16,0,0⟩] (au ⟨12,0,0⟩ 1 0 (ag y t.g)))).fix.length+8*eh x.body<=_; (try simp only [bO]); omega) hw).mono λe w' ⟨q,h1,h2⟩=>⟨q,h1,trivial,h2⟩) ?_;intro ab_ _;refine Ln (Et (Cs (Cr (V0 (Ym O) (V0 (Ym O) (V0 (Yb fu ga O O) ?_))))));refine Lw (ι:=SP×SP) [_,_,_] _ Y O DG O O (λ_=>.int .i64 ((bE x.body (aM [⟨16,0,0⟩] (au ⟨12,0,0⟩ 1 0 (ag y t.g)))).code.length:Int)) (λq=>(aV 123 67 70 sb K ⟨au ⟨11,(t.g.code.length:Int),0⟩ 1 0 (bE x.body (aM [⟨16,0,0⟩] (au ⟨12,0,0⟩ 1 0 (ag y t.g)))),q.1,q.2⟩)) (λ_=>True) [] (by simp) (λw hw=>(DH sb K (⟨(bE x.body (aM [⟨16,0,0⟩] (au ⟨12,0,0⟩ 1 0 (ag y t.g)))),ab_.1,ab_.2⟩:a8)  ⟨11,(t.g.code.length:Int),0⟩ 1 0 w  (by show ((bE x.body (aM [⟨16,0,0⟩] (au ⟨12,0,0⟩ 1 0 (ag y t.g))))).code.length+1<=_; (try simp only [bO]); omega) (by show ((bE x.body (aM [⟨16,0,0⟩] (au ⟨12,0,0⟩ 1 0 (ag y t.g))))).fix.length+1<=_; (try simp only [bO]); omega) hw).mono λe w' ⟨q,h1,h2⟩=>⟨q,h1,trivial,h2⟩) ?_
  intro mL _;refine Ln (Et (Cr (V0 (Ym O) ?_)));refine WL.xP (ι:=Unit) [_,_,_,_,_] _ Y O yA O O O (λ_=>.tuple #[]) (λ_=>(aV 123 67 70 sb K ⟨cg ((ag y t.g).code.length) (au ⟨11,(t.g.code.length:Int),0⟩ 1 0 (bE x.body (aM [⟨16,0,0⟩] (au ⟨12,0,0⟩ 1 0 (ag y t.g))))),(⟨(au ⟨11,(t.g.code.length:Int),0⟩ 1 0 (bE x.body (aM [⟨16,0,0⟩] (au ⟨12,0,0⟩ 1 0 (ag y t.g))))),mL.1,mL.2⟩:a8).ca,(⟨(au ⟨11,(t.g.code.length:Int),0⟩ 1 0 (bE x.body (aM [⟨16,0,0⟩] (au ⟨12,0,0⟩ 1 0 (ag y t.g))))),mL.1,mL.2⟩:a8).fa⟩)++[ab jt.2.1 (.cells #[.pointer (some ⟨sb,0,none⟩)] 120 (0,0)),ab jt.2.2 (.cells #[.int .i64 ((ag y t.g).code.length:Int)] 3 (0,0))]) (λ_=>True) [] (by simp) (λw hw=>(yz sb K (⟨(au ⟨11,(t.g.code.length:Int),0⟩ 1 0 (bE x.body (aM [⟨16,0,0⟩] (au ⟨12,0,0⟩ 1 0 (ag y t.g))))),mL.1,mL.2⟩:a8) jt.2.1 jt.2.2 ((ag y t.g).code.length) _ w (List.getElem?_eq_getElem (by show (ag y t.g).code.length<((au ⟨11,(t.g.code.length:Int),0⟩ 1 0 (bE x.body (aM [⟨16,0,0⟩] (au ⟨12,0,0⟩ 1 0 (ag y t.g)))))).code.length; (try simp only [bO]); omega)) hw).mono λe w' h=>⟨(),h.1,trivial,h.2⟩) ?_;intro _ _;refine Ln (Eb ?_);refine E0 O λw' hw=>?_
  have hr:lP x t.g=cg ((ag y t.g).code.length) (au ⟨11,(t.g.code.length:Int),0⟩ 1 0 (bE x.body (aM [⟨16,0,0⟩] (au ⟨12,0,0⟩ 1 0 (ag y t.g))))):=by
    rw [vE,ql,if_neg fZ,if_neg gW,if_neg iS,if_neg lY,if_pos ho,oq bx]
    rfl
  rw [hr];exact ⟨(mL.1,mL.2),O,Wv 1 (Wt 3 hw)⟩
 have qR:¬x.op=5:=by simpa using bh
 refine Cs (Cr (V0 (aF O O) (V0 (Ya O) (Ln (Et ?_)))));refine Cc O (λbH=>?_) (λbH=>?_)
 ·have ho:x.op=6:=by simpa using bH
  refine Cs ?_;have x7:=aA.parts.2.2.2.1 (by omega);obtain ⟨y,bx⟩:∃y,x.args[0]? = some y:=⟨_,List.getElem?_eq_getElem (by omega)⟩;obtain ⟨gq,gu,eG,ck⟩:=h1.aO 0 y bx
  obtain ⟨k2,rfl⟩:∃k2,ke=k2+1:=by
    cases ke with
    | zero=>exact ck.elim
    | succ k2=>exact ⟨k2,rfl⟩
  obtain ⟨ya,yc,l3,l4⟩:=ck;have ki:=hN k2;have l5:=aA.parts.1.at_ bx;have DL:=A2 bx;have df:=mq y t.g;have lz:=df.hi;have lA:=df.gh;have yB:=df.lo;refine Cr (V0 (Ym O) (V0 (Yf sP O) (V0 (Yd 0 O O O kS) (V0 (Yo (i:=0) ly O O eG (by omega)) (V0 (cF 0 kR O O O (l3)) (Lf 3 O (Lf 3 O ?_)))))));refine Lf 3 O ?_;refine Lw (ι:=SP×SP) [_,_,_] _ Y O qT O O (λ_=>.tuple #[]) (λq=>(aV 123 67 70 sb K ⟨ag y t.g,q.1,q.2⟩)) (λ_=>True) [H] (by simp) (λw hw=>(ki y ya yc t w l4 l5 (by show (t.g).code.length+8*dy y<=_; (try simp only [bO]); omega) (by show (t.g).fix.length+8*dy y<=_; (try simp only [bO]); omega) hw).mono λe w' ⟨q,h1,h2⟩=>⟨q,h1,trivial,h2⟩) ?_;intro A9 _;refine Ln (Et (Cr (V0 (Ym O) (V0 (Yb fu ga O O) ?_))));refine Lb Y O fG O O O O λaqB=>?_;refine WL.jT (rd:=eB) (f:=aI.cells) (k:=3) (m:=1) 0 [⟨15,0,0⟩] O O aI.aX (λ_ _ _ _ h=>h) (by simp) (by decide) λaca aqC=>?_;refine Lw (ι:=SP) [_,_,_] _ Y O kT O O (λ_=>.tuple #[]) (λq=>(aV 123 67 70 sb K ⟨aM [⟨15,0,0⟩] (⟨(ag y t.g),A9.1,A9.2⟩:a8).g,q,(⟨(ag y t.g),A9.1,A9.2⟩:a8).fa⟩)) (λ_=>True) [aca] (by simp) (λw hw=>(kU sb K (⟨(ag y t.g),A9.1,A9.2⟩:a8) aca (some ⟨aqB,0,none⟩) 1 [⟨15,0,0⟩] w aqC (by show ((ag y t.g)).code.length+[⟨15,0,0⟩].length<=_; (try simp only [bO]); omega) hw).mono λe w' ⟨q,h1,h2⟩=>⟨q,h1,trivial,h2⟩) ?_;intro aqD _;refine Ln (Eb ?_);refine E0 O λw' hw=>?_
  have hr:lP x t.g=aM [⟨15,0,0⟩] (ag y t.g):=by
    rw [vE,ql,if_neg fZ,if_neg gW,if_neg iS,if_neg lY,if_neg qR,if_pos ho,oq bx]
  rw [hr];exact ⟨(aqD,A9.2),O,Wv 1 (Wt 3 hw)⟩
 have yv:¬x.op=6:=by simpa using bH
 refine Cs (Cr (V0 (aF O O) (V0 (Ya O) (Ln (Et ?_)))));refine Cc O (λcz=>?_) (λcz=>?_)
 ·have ho:x.op=7:=by simpa using cz
  refine Cs ?_;have x7:=aA.parts.2.2.2.1 (by omega);obtain ⟨y,bx⟩:∃y,x.args[0]? = some y:=⟨_,List.getElem?_eq_getElem (by omega)⟩;obtain ⟨gq,gu,eG,ck⟩:=h1.aO 0 y bx
  obtain ⟨k2,rfl⟩:∃k2,ke=k2+1:=by
    cases ke with
    | zero=>exact ck.elim
    | succ k2=>exact ⟨k2,rfl⟩
  obtain ⟨ya,yc,l3,l4⟩:=ck;have ki:=hN k2;have l5:=aA.parts.1.at_ bx;have DL:=A2 bx;have df:=mq y t.g;have lz:=df.hi;have lA:=df.gh;have yB:=df.lo;refine Cr (V0 (Ym O) (V0 (Yf sP O) (V0 (Yd 0 O O O kS) (V0 (Yo (i:=0) ly O O eG (by omega)) (V0 (cF 0 kR O O O (l3)) (Lf 3 O (Lf 3 O ?_)))))));refine Lf 3 O ?_;refine Lw (ι:=SP×SP) [_,_,_] _ Y O qT O O (λ_=>.tuple #[]) (λq=>(aV 123 67 70 sb K ⟨ag y t.g,q.1,q.2⟩)) (λ_=>True) [H] (by simp) (λw hw=>(ki y ya yc t w l4 l5 (by show (t.g).code.length+8*dy y<=_; (try simp only [bO]); omega) (by show (t.g).fix.length+8*dy y<=_; (try simp only [bO]); omega) hw).mono λe w' ⟨q,h1,h2⟩=>⟨q,h1,trivial,h2⟩) ?_;intro A_ _;refine Ln (Et (Cr (V0 (Ym O) (V0 (Yb fu ga O O) ?_))));refine Lb Y O fG O O O O λaqE=>?_;refine WL.jT (rd:=eB) (f:=aI.cells) (k:=3) (m:=1) 0 [⟨19,0,0⟩] O O aI.aX (λ_ _ _ _ h=>h) (by simp) (by decide) λacb aqF=>?_;refine Lw (ι:=SP) [_,_,_] _ Y O kT O O (λ_=>.tuple #[]) (λq=>(aV 123 67 70 sb K ⟨aM [⟨19,0,0⟩] (⟨(ag y t.g),A_.1,A_.2⟩:a8).g,q,(⟨(ag y t.g),A_.1,A_.2⟩:a8).fa⟩)) (λ_=>True) [acb] (by simp) (λw hw=>(kU sb K (⟨(ag y t.g),A_.1,A_.2⟩:a8) acb (some ⟨aqE,0,none⟩) 1 [⟨19,0,0⟩] w aqF (by show ((ag y t.g)).code.length+[⟨19,0,0⟩].length<=_; (try simp only [bO]); omega) hw).mono λe w' ⟨q,h1,h2⟩=>⟨q,h1,trivial,h2⟩) ?_;intro aqG _;refine Ln (Eb ?_);refine E0 O λw' hw=>?_
  have hr:lP x t.g=aM [⟨19,0,0⟩] (ag y t.g):=by
    rw [vE,ql,if_neg fZ,if_neg gW,if_neg iS,if_neg lY,if_neg qR,if_neg yv,if_pos ho,oq bx]
  rw [hr];exact ⟨(aqG,A_.2),O,Wv 1 (Wt 3 hw)⟩
 exfalso
 have C5:¬x.op=7:=by simpa using cz
 have gk:=aA.parts.2.2.2.2.2;omega
theorem aqH (sb:Nat) (K:gG) (t:a8) (H:View) (ke k:Nat) (l:List cB) (a:Option Addr) (c:Nat) (w:World) (hl:Sl (iA ke k) 7 H a c l) (aA:tW l) (hb:t.g.code.length+8*eh l<=1000000000000) (pK:t.g.fix.length+8*eh l<=1000000000000) (hw:Ws w (List.flatMap ao.ids (aV 123 67 70 sb K t)) (aV 123 67 70 sb K t) [H] w) :
   Calls Tryz.prog 88 #[.pointer (some ⟨sb,0,none⟩),.slice a l.length c] w λe w'=>∃q:SP×SP,e = .returned (.tuple #[])/\Ws w (List.flatMap ao.ids (aV 123 67 70 sb K t)) (aV 123 67 70 sb K ⟨bE l t.g,q.1,q.2⟩) [H] w':=by
 induction k using Nat.strongRecOn generalizing l a c t w
 rename_i k ih;have dN:=hl.cap;have ek:=hl.max;refine enter Tryz.func88 O 16 O O ?_;refine CE hw (Cs (Cr (V0 (Ym O) (V0 (Yn u4 O) (V0 (Ym O) (Ln (Et (Cb ?_))))))));refine ct (ι:=Nat×SP×SP) (λg=>[(8,.int .i64 (g.1:Int))]) [(0,_),(6,_),(7,_)] (λg=>Ws w (List.flatMap ao.ids (aV 123 67 70 sb K t)) (aV 123 67 70 sb K ⟨bE (l.take g.1) t.g,g.2.1,g.2.2⟩) [H]) (λg=>g.1<=l.length) (λg=>l.length-g.1) (0,t.ca,t.fa) (Nat.zero_le _) (sc O (sc O (sc O (sc O sn)))) (λ_ h=>h) ?_;intro g u1;refine Cs (Cr (V0 (a_ O O) (Ln (Et (Cs ?_)))));refine Cc O (λad=>?_) (λad=>?_)
 ·have av:g.1<l.length:=by simpa using ad
  obtain ⟨x,bu⟩:∃q,l[g.1]? = some q:=⟨_,List.getElem?_eq_getElem av⟩;obtain ⟨e9,e_,ft,cS⟩:=hl.aO g.1 x bu
  obtain ⟨k2,rfl⟩:∃k2,k=k2+1:=by
    cases k with
    | zero=>exact cS.elim
    | succ k2=>exact ⟨k2,rfl⟩
  obtain ⟨r,bQ,h1,h2,h3⟩:=cS;have hww:=Wa bu;have df:=vF (l.take g.1) t.g;have lz:=df.hi;have lA:=df.gh;have hA:ab5 H sb K ke k2:=λl a c t w h1 h2 h3 h4 h5=>ih k2 (by omega) t l a c w h1 h2 h3 h4 h5;refine Ck (Et (Cs (Cb (Cs (Cr (V0 (Yo u4 O O ft av) (V0 (cF 0 Dt O O O (bQ)) ?_)))))));refine Al Y O G_ λb5=>?_;refine ak 0 Y O O O LO O O O (Ln (Et (eY 0 (.cells (vx x r).toArray 191 (0,0)) O O (Cr (V0 (Ym O) (V0 (bC 0 O O Dt O) (Lf 3 O (Lf 3 O ?_))))))));refine Lf 3 O ?_;refine Lw (ι:=SP×SP) [_,_,_] _ Y O aqt O O (λ_=>.tuple #[]) (λq=>(aV 123 67 70 sb K ⟨lP x (bE (l.take g.1) t.g),q.1,q.2⟩)) (λ_=>True) [H] (by simp) (λw hw=>(aqu sb K (⟨bE (l.take g.1) t.g,g.2.1,g.2.2⟩:a8) H ke k2 x r w hA h1 h2 h3 (aA.at_ bu) (by show (bE (l.take g.1) t.g).code.length+8*r_ x<=_; omega) (by show (bE (l.take g.1) t.g).fix.length+8*r_ x<=_; omega) hw).mono λe w' ⟨q,h1,h2⟩=>⟨q,h1,trivial,h2⟩) ?_;intro jk _;refine Ln (Eb (Et (Cr (V0 (Yi O O O (by omega)) (V0 (Ym O) (Ln ?_))))));rw [<-af1 bu];exact Ea ((g.1+1,jk):Nat×SP×SP) (by show _-(g.1+1)<_; omega) (by show g.1+1<=_; omega) (sc O (sc O (sc O (sc O sn)))) (λ_ h=>(Wt 3 h:))
 have cC:g.1=l.length:=by simp at ad; omega
 rw [cC,List.take_length];refine Ce (Ex (Ex (bK ?_)));refine E0 O λw' hw=>?_;exact ⟨g.2,O,hw⟩
theorem Sg (sb:Nat) (K:gG) (t:a8) (H:View) (ke k:Nat) (params locals:Int) (l:List cB) (a:Option Addr) (c:Nat) (w:World) (hl:Sl (iA ke k) 7 H a c l) (aA:tW l) (hb:t.g.code.length+8*(1+eh l)<=1000000000000) (pK:t.g.fix.length+8*(1+eh l)<=1000000000000) (hw:Ws w (List.flatMap ao.ids (aV 123 67 70 sb K t)) (aV 123 67 70 sb K t) [H] w) :
   Calls Tryz.prog 67 #[.pointer (some ⟨sb,0,none⟩),.agg (B7 ⟨params,locals,l⟩ (a,c)).toArray] w λe w'=>∃q:SP×SP,e = .returned (.int .i64 (t.g.code.length:Int))/\Ws w (List.flatMap ao.ids (aV 123 67 70 sb K t)) (aV 123 67 70 sb K ⟨mo params locals l t.g,q.1,q.2⟩) [H] w':=by
 have df:=vF l (aM [⟨14,params,locals⟩] t.g);have lz:=df.hi;have lA:=df.gh;simp only [bO] at lz lA;refine enter Tryz.func67 O 30 O O ?_;refine CE hw (Cs (Cr ?_));refine WL.box Y O O λb3=>?_;refine V0 (Ya O) (Ln (Et (Cs (Cr (V0 (Ym O) (V0 (aQ O) (V0 (Yf mK O) (V0 (Yf iG O) (V0 (Yd 1 O O O ep) (V0 (Yn et O) ?_))))))))));refine V0 (Ya O) (Ln (Et (Cs (Cr (V0 (Ym O) (V0 (Yf Ht O) (V0 (Yd 0 O O O aj) (V0 (Yf Mp O) (V0 (Yd 0 O O O aj) (V0 (Yb fu ga O O) ?_))))))))));refine Lb Y O fG O O O O λsJ=>?_;refine WL.jT (rd:=eB) (f:=aI.cells) (k:=3) (m:=1) 0 [⟨14,params,locals⟩] O O aI.aX (λ_ _ _ _ h=>h) (by simp) (by decide) λym Gr=>?_;refine Lf 3 O (Lf 3 O (Lf 3 O ?_));refine Lw (ι:=SP) [_,_,_] _ Y O kT O O (λ_=>.tuple #[]) (λq=>(aV 123 67 70 sb K ⟨aM [⟨14,params,locals⟩] t.g,q,t.fa⟩)) (λ_=>True) [ym] (by simp) (λw hw=>(kU sb K t ym (some ⟨sJ,0,none⟩) 1 [⟨14,params,locals⟩] w Gr (by show (t.g).code.length+[⟨14,params,locals⟩].length<=_; (try simp only [bO]); omega) hw).mono λe w' ⟨q,h1,h2⟩=>⟨q,h1,trivial,h2⟩) ?_;intro j7 _;refine Ln (Et (Cs (Cr (V0 (Ym O) (V0 (Yf abH O) (V0 (Yd 3 O O O oQ) ?_))))));refine Lw (ι:=SP×SP) [_,_,_] _ Y O Mu O O (λ_=>.tuple #[]) (λq=>(aV 123 67 70 sb K ⟨bE l (aM [⟨14,params,locals⟩] t.g),q.1,q.2⟩)) (λ_=>True) [H] (by simp) (λw hw=>((λl a c t w h1 h2 h3 h4 h5=>aqH sb K t H ke k l a c w h1 h2 h3 h4 h5) l a c (⟨(aM [⟨14,params,locals⟩] t.g),j7,t.fa⟩:a8) w hl aA (by show ((aM [⟨14,params,locals⟩] t.g)).code.length+8*eh l<=_; (try simp only [bO]); omega) (by show ((aM [⟨14,params,locals⟩] t.g)).fix.length+8*eh l<=_; (try simp only [bO]); omega) hw).mono λe w' ⟨q,h1,h2⟩=>⟨q,h1,trivial,h2⟩) ?_;intro Ba _;refine Ln (Et (Cs (Cr (V0 (Ym O) (V0 (Yb fu ga O O) (V0 (Yb fu ga O O) ?_))))));refine Lb Y O fG O O O O λGz=>?_;refine WL.jT (rd:=eB) (f:=aI.cells) (k:=3) (m:=2) 0 [⟨1,0,0⟩,⟨15,0,0⟩] O O aI.aX (λ_ _ _ _ h=>h) (by simp) (by decide) λRW RX=>?_;refine Lw (ι:=SP) [_,_,_] _ Y O kT O O (λ_=>.tuple #[]) (λq=>(aV 123 67 70 sb K ⟨aM [⟨1,0,0⟩,⟨15,0,0⟩] (⟨(bE l (aM [⟨14,params,locals⟩] t.g)),Ba.1,Ba.2⟩:a8).g,q,(⟨(bE l (aM [⟨14,params,locals⟩] t.g)),Ba.1,Ba.2⟩:a8).fa⟩)) (λ_=>True) [RW] (by simp) (λw hw=>(kU sb K (⟨(bE l (aM [⟨14,params,locals⟩] t.g)),Ba.1,Ba.2⟩:a8) RW (some ⟨Gz,0,none⟩) 2 [⟨1,0,0⟩,⟨15,0,0⟩] w RX (by show ((bE l (aM [⟨14,params,locals⟩] t.g))).code.length+[⟨1,0,0⟩,⟨15,0,0⟩].length<=_; (try simp only [bO]); omega) hw).mono λe w' ⟨q,h1,h2⟩=>⟨q,h1,trivial,h2⟩) ?_;intro q28 _;refine Ln (Et (Cs (Cr (V0 (Ym O) (V0 (Ya O) (Ln (Et (aw ?_))))))));refine R1 O O λw' hw=>?_;exact ⟨(q28,Ba.2),O,Wv 2 (Wt 3 hw)⟩
def HG:XK:=(zz,(none,0))
theorem aqJ {H:View} {b n:Nat} (h:Sl Ml 3 H (some ⟨b,0,none⟩) n (List.replicate n HG)) {N:View} (hv:aN H N):Sl qi 3 N (some ⟨b,0,none⟩) n (List.replicate n zz):=by
 have h9:=abG h hv λe he=>by
   have e1:e=HG:=List.eq_of_mem_replicate he;subst e1; exact Sl.nil
 rw [List.map_replicate] at h9;exact h9
theorem aqK (H:View) (ke k:Nat) (u:ez) (r:kZ) (w:World) (hH:Le H w) (hu:k6 ke k H r u) (hul:u.ae.length<=1048576) :
   Calls Tryz.prog 65 #[.agg (fo u r).toArray] w λe w'=>e = .returned (.bool (Fl u))/\Ext w w':=by
 have dN:=hu.ae.cap;have ek:=hu.ae.max;refine enter Tryz.func65 O 9 O O ?_;refine CE (Vs:=[H]) (Ws.init (by simp [hH])) (Cs (Cr ?_));refine WL.box Y O O λb1=>?_;refine V0 (Ya O) (Ln (Et (Cs ?_)));refine CU (λ_=>true) [] [] (.q true 0 (.q false 1 (.q true 2 (.q false 3 (.e 4 (.e 5 (.q false 6 .nil) .stop) .stop))))) mixed (by kernel_rfl) (λ_ _ _ d _ _ h=>by cases d<;>exact h) ?_;refine U0 O (λ_ h=>h) (bC 0 O O jJ O) (U0 O (λ_ h=>h) (Yf Mo O) (U0 O (λ_ h=>h) (Yd 0 O O O eH) (U0 O (λ_ h=>h) (Yn dA O) ?_)));refine Ue O (λ_ h=>h) ?_ WU.stop;refine WL.make Y O R8 O O (by omega) (by omega) (by omega) (by omega) λb7=>?_;refine bI 0 (.cells ((List.replicate u.ae.length HG).flatMap XK.cells).toArray 152 (0,0)) O (by rw [<-af' (f:=XK.cells) (x:=HG) (zs:=(Value.agg #[.bool false,.int .i64 0,.slice none 0 0]).cells) O (by decide)]; rfl) ?_;refine WL.jT (rd:=Ml) (f:=XK.cells) (k:=3) (m:=u.ae.length) 0 (List.replicate u.ae.length HG) O O XK.aX (λ_ _ _ _ h=>h) (by simp) (by omega) λH7 Po=>?_;refine Ln (Eu ?_);refine Ue O (λ_ h=>(Wv 1 h:)) ?_ WU.stop
 refine Lp Y O aqc O (λw hw=>by
   have DK:=ap7 H (hv w) ke k u r (List.replicate u.ae.length zz) (some ⟨b7,0,none⟩) u.ae.length w (hw.vs H (by simp)) (ix w) hu (aqJ Po (mW (hw.vs H7 (by simp)))) (by simp; omega);rw [List.length_replicate] at DK
   exact DK) ?_
 refine Ln (Eu (U0 O (λ_ h=>(Wv 1 h:)) (Ya O) ?_));refine WU.nil (λ_ h=>(Wv 1 h:)) ?_;refine WS.nil ?_;refine Et (aw ?_);refine R1 O O λw' hw=>?_;exact ⟨O,hw.fr⟩
end Go.Proofs.YtplfmnkmlaolpaaGreatDoor
end
