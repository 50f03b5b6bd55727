/- LinkLinks: Check and Link answer just what the document says, errors too, whatever they are handed. -/
import Derived.Test.YtplfmnkmlaolpaaGreatDoorL5
set_option linter.unusedVariables false
set_option linter.unusedSimpArgs false
section
namespace Go.Proofs.YtplfmnkmlaolpaaGreatDoor.Mch
open Go.Bw
abbrev aa.tk (s:aa):aa:={ s with steps:=IntKind.i64.wrap (s.steps+1) }
theorem aa.bV.tk {HI:View} {s:aa} (h:s.bV HI):aa.bV HI (aa.tk s):=⟨h.bo,h.jL,h.jy,h.out,h.iO⟩
theorem ata {code:List jw} {data:Int} (h:rb code data=0):0<=data/\data<=512:=by
 unfold rb at h
 split at h
 · cases h
 · split at h
   · cases h
   · split at h
     · cases h
     · rename_i hd; simp at hd; omega
theorem Iw:madeCells (Value.agg #[.slice none 0 0,.int .i64 0]).cells ((1:Int).toNat*2) = #[.slice none 0 0,.int .i64 0]:=by kernel_rfl
theorem M8 {code:List jw} {fp:Int} {m m':Pm} {e:Int} (k:Nat) (h:iterM code fp m = .ov e m'):runK code fp (k+1) m=(e,m'):=by simp [runK,h]
theorem atb {code:List jw} {fp:Int} {m m':Pm} (k:Nat) (h:iterM code fp m = .ok () m'):runK code fp (k+1) m=runK code fp k m':=by simp [runK,h]
theorem Bv:zeroOf Tryz.prog 51=some (.agg #[.int .i64 0,.slice none 0 0,.slice none 0 0,.int .i64 0]):=by kernel_rfl
theorem oM:zeroOf Tryz.prog 3=some (.int .i64 0):=by kernel_rfl
theorem Lu:zeroOf Tryz.prog 29=some (.int .i64 0):=by kernel_rfl
theorem pO:fg Tryz.prog 42=some 2:=by kernel_rfl
theorem ac1:Enters Tryz.prog 23:=enters_of Tryz.func23 (by kernel_rfl) rfl
theorem Ix:fh Tryz.prog 51=some [(0,1),(1,1),(2,1),(3,1)]:=by kernel_rfl
theorem jn:dV Tryz.prog 29=true:=by kernel_rfl
theorem Iy:Enters Tryz.prog 62:=enters_of Tryz.func62 (by kernel_rfl) rfl
theorem D8:fh Tryz.prog 130=some [(0,1),(1,1),(2,1),(3,1),(4,1),(5,1),(6,4)]:=by kernel_rfl
theorem D9:zeroOf Tryz.prog 130=some (.agg #[.int .i64 0,.int .i64 0,.int .i64 0,.slice none 0 0,.slice none 0 0,.slice none 0 0,.int .i64 0,.slice none 0 0,.slice none 0 0,.int .i64 0]):=by kernel_rfl
theorem Bx:zeroOf Tryz.prog 127=some (.pointer none):=by kernel_rfl
theorem yT:cG Tryz.prog 127=some 1:=by kernel_rfl
theorem M9:Enters Tryz.prog 68:=enters_of Tryz.func68 (by kernel_rfl) rfl
theorem atc:Enters Tryz.prog 70:=enters_of Tryz.func70 (by kernel_rfl) rfl
set_option maxHeartbeats 4000000 in
theorem atd (H:View) (a:Option Addr) (c:Nat) (code:List jw) (data:Int) (Hi:View) (ai:Option Addr) (ci:Nat) (bo:List Int) (bD steps:Int) (w:World) (hH:Le H w) (hm:Sl S2 3 H a c code) (hHi:Le Hi w) (nQ:Sl iZ 1 Hi ai ci bo) :
   Calls Tryz.prog 26 #[.agg #[.slice a code.length c,.int .i64 data],.slice ai bo.length ci,.int .i64 bD,.int .i64 steps] w λe w'=>∃r:(Option Addr×Nat)×(Option Addr×Nat),e = .returned (.tuple #[.agg #[.int .i64 (gZ code data bo bD steps).1.fin,.slice r.1.1 (gZ code data bo bD steps).1.out.length r.1.2,.slice r.2.1 (gZ code data bo bD steps).1.data.length r.2.2,.int .i64 (gZ code data bo bD steps).1.bD],.int .i64 (gZ code data bo bD steps).2,.int .i64 (rq code data bo bD steps)])/\Ext w w'/\Sl iZ 1 (nv w w') r.1.1 r.1.2 (gZ code data bo bD steps).1.out/\Sl iZ 1 (nv w w') r.2.1 r.2.2 (gZ code data bo bD steps).1.data:=by
 have dN:=hm.cap;have ek:=hm.max;have axz:=nQ.cap;have axA:=nQ.max;refine Ny Tryz.func26 O 92 O O ?_;refine CE (Vs:=[H,Hi]) (Ws.init (by simp [hH,hHi])) (Cs (Cr ?_));refine WL.box Y O O λb4=>?_;refine Al Y O Bv λb8=>?_;refine Al Y O oM λb9=>?_;refine Al Y O Lu λjq=>?_;refine Ln (Et (Cs (Cs (Cr (V0 (bC 3 O O pO O) (Lp Y O ac1 O (λw hw=>ar6 H a c code data w (hw.vs _ (by simp)) hm) (V0 (Ya O) (Ln (Et (Cs (Cr (V0 (Ym O) (V0 (i' O O) (Ln (Et ?_)))))))))))))));refine Cc O (λad=>?_) (λad=>?_)
 ·have hz:¬rb code data=0:=by simpa using ad
  refine Cs (Cr (V0 (Yb Bv Ix O O) (V0 (Ym O) (ak 2 Y O O O D7 O O O (ak 1 Y O O O bZ O O O (ak 0 Y O O O pD O O O (Ln (Et (aw (Er ?_))))))))));refine WE.BN (ze O (cU 2 O O vd O) (hZ 1 O O O aj) (hZ 0 O O O jn)) λw' hw=>?_
  have hE:(rq code data bo bD steps)=rb code data:=by unfold rq; rw [if_neg hz]
  have hM:(gZ code data bo bD steps)=(⟨0,[],[],0⟩,0):=by unfold gZ; rw [hE]; simp [hz]
  rw [hM,hE];exact ⟨((none,0),(none,0)),O,hw.fr,Sl.nil,Sl.nil⟩
 have hz:rb code data=0:=by simpa using ad
 have hd:=ata hz;refine Ck (Et (Cs (Cs (Cr (V0 (Ym O) (V0 (Yn du O) (V0 (bX O O) (Ln (Et ?_)))))))));refine Cc O (λaq=>?_) (λaq=>?_)
 ·have hl:64<bo.length:=by simp at aq; omega
  refine Cs (Cr (V0 (Yb Bv Ix O O) (ak 2 Y O O O D7 O O O (ak 1 Y O O O bZ O O O (ak 0 Y O O O pD O O O (Ln (Et (aw (Er ?_)))))))));refine WE.BN (ze O (cU 2 O O vd O) (hZ 1 O O O aj) (hZ 0 O O O jn)) λw' hw=>?_
  have hE:(rq code data bo bD steps)=2:=by unfold rq; rw [if_pos hz,if_pos hl]
  have hM:(gZ code data bo bD steps)=(⟨0,[],[],0⟩,0):=by unfold gZ; rw [hE]; simp
  rw [hM,hE];exact ⟨((none,0),(none,0)),O,hw.fr,Sl.nil,Sl.nil⟩
 have hl:¬64<bo.length:=by simp at aq; omega
 refine Ck (Et (Cs (Cs (Cr (V0 (Ym O) (V0 (a_ O O) (V0 (Ym O) ?_)))))));apply Lo 2 O O O O Y O O O O O
 ·intro cD;refine Vg (Ym O) (Vg (bX O O) ?_);exact Gt 2 O O O
 refine V0 (Ym O) ?_;apply Lo 2 O O O O Y O O O O O
 ·intro bR;refine Vg (Ym O) (Vg (a_ O O) ?_);exact Gt 2 O O O
 refine V0 (Ym O) ?_;apply Lo 2 O O O O Y O O O O O
 ·intro gP;refine Vg (Ym O) (Vg (bX O O) ?_);exact Gt 2 O O O
 refine Ln (Et ?_);refine Cc O (λay=>?_) (λay=>?_)
 ·refine Cs (Cr (V0 (Yb Bv Ix O O) (ak 2 Y O O O D7 O O O (ak 1 Y O O O bZ O O O (ak 0 Y O O O pD O O O (Ln (Et (aw (Er ?_)))))))));refine WE.BN (ze O (cU 2 O O vd O) (hZ 1 O O O aj) (hZ 0 O O O jn)) λw' hw=>?_
  have hE:(rq code data bo bD steps)=3:=by unfold rq; rw [if_pos hz,if_neg hl,if_pos ay]
  have hM:(gZ code data bo bD steps)=(⟨0,[],[],0⟩,0):=by unfold gZ; rw [hE]; simp
  rw [hM,hE];exact ⟨((none,0),(none,0)),O,hw.fr,Sl.nil,Sl.nil⟩
 have hE:(rq code data bo bD steps)=0:=by unfold rq; rw [if_pos hz,if_neg hl,ay]; simp
 have hts:0<=bD/\bD<=2000/\0<=steps/\steps<=134217728:=by simp at ay; omega
 refine Ck (Et ?_);refine WC.ES (ι:=(Nat×Nat×Nat)×(View×Option Addr×Nat)) (λq=>[(3,.int .i64 steps),(4,.pointer (some ⟨b4,0,none⟩)),(8,.pointer (some ⟨b8,0,none⟩)),(9,.pointer (some ⟨b9,0,none⟩)),(10,.pointer (some ⟨jq,0,none⟩)),(12,.pointer (some ⟨q.1.2.2,0,none⟩))]) (λq=>Ws w [] [ab q.1.2.2 (.cells #[.pointer (some ⟨q.1.2.1,0,none⟩)] 127 (0,0)),ab q.1.2.1 (.cells #[.int .i64 0,.int .i64 bD,.int .i64 0,.slice none 0 0,.slice (some ⟨q.1.1,0,none⟩) 1 1,.slice q.2.2.1 bo.length q.2.2.2,.int .i64 0,.slice none 0 0,.slice none 0 0,.int .i64 0] 130 (0,0)),ab q.1.1 (.cells #[.slice none 0 0,.int .i64 0] 163 (0,0)),ab jq (.cells (Value.cells (.int .i64 0)) 29 (0,0)),ab b9 (.cells (Value.cells (.int .i64 0)) 3 (0,0)),ab b8 (.cells (Value.cells (.agg #[.int .i64 0,.slice none 0 0,.slice none 0 0,.int .i64 0])) 51 (0,0)),ab b4 (.cells (Value.agg #[.slice a code.length c,.int .i64 data]).cells 42 (0,0))] [q.2.1,H]) (λq=>Sl iZ 1 q.2.1 q.2.2.1 q.2.2.2 bo) ?_ ?_
 ·refine CU (mY [.cell 8 51,.cell 9 3,.cell 10 29]) [] [7] (.q false 0 (.q false 2 (.e 1 (.e 3 (.q false 4 (.e 5 (.e 6 .nil .stop) (.e 6 (.e 5 .nil .stop) .stop))) (.e 6 (.e 3 (.q false 4 (.e 5 .nil .stop)) .stop) .stop)) (.e 3 (.e 1 (.q false 4 (.e 5 (.e 6 .nil .stop) (.e 6 (.e 5 .nil .stop) .stop))) (.e 6 (.e 1 (.q false 4 (.e 5 .nil .stop)) .stop) .stop)) (.e 6 (.e 1 (.e 3 (.q false 4 (.e 5 .nil .stop)) .stop) (.e 3 (.e 1 (.q false 4 (.e 5 .nil .stop)) .stop) .stop)) .stop))))) mixed (by kernel_rfl) (λ_ _ _ _ _ hd h=>rK (fn:=Tryz.f26) [.cell 8 51,.cell 9 3,.cell 10 29] O hd h) ?_;refine U0 O (λ_ h=>h) (Ym O) (U0 O (λ_ h=>h) (Ym O) ?_);refine Ue O (λ_ h=>h) ?_ ?_
  ·refine WL.make Y O Bp O O (by omega) (by omega) (by omega) (by omega) λpU=>?_;refine bI 0 (.cells #[.slice none 0 0,.int .i64 0] 163 (0,0)) O (by rw [Iw]) (Ln (Eu ?_));refine Ue O (λ_ h=>(Wd 1 h:)) ?_ ?_
   ·refine Ld Y O Iy O (λr:Option Addr×Nat=>.slice r.1 bo.length r.2) (λK r=>Sl iZ 1 K r.1 r.2 bo) (λw hw=>Ii Hi ai ci bo w (hw.vs _ (by simp)) nQ (by omega)) ?_;intro ko cQ M' rr;refine Ln (Eu (U0 O (λ_ h=>(Wv 1 (Wd 1 h):)) (Yb D9 D8 O O) ?_));refine Ue O (λ_ h=>(Wv 1 (Wd 1 h):)) ?_ ?_
    ·refine WL.box Y O O λfY=>?_;refine Ln (Eu ?_);refine Ue O (λ_ h=>(Wv 1 (Wd 2 h):)) ?_ WU.stop;refine Al Y O Bx λkN=>?_;refine Ln (Eu ?_);refine WU.nil (λ_ h=>(Wv 1 (Wd 3 h):)) ?_;refine WS.e O ?_;refine ak 0 Y O O O yT O O O (Ln (Es ?_));refine WS.nil ?_
     exact Em ((pU,fY,kN),ko,cQ.1,cQ.2) rr (sc O (sc O (sc O (sc O (sc O (sc O sn)))))) (λ_ h=>by
       have h:=h.ar 6 rfl;have h:=h.ar 6 rfl;have h:=h.ar 6 rfl;have h:=h.ar 6 rfl;have h:=h.ar 6 rfl;have h:=h.ar 6 rfl;have h:=h.ar 6 rfl;have h:=Ws.bB h (bc:=[ko,H]) (by simp)
       exact h)
    refine Ue O (λ_ h=>(Wv 1 (Wd 1 h):)) ?_ WU.stop;refine Al Y O Bx λkN=>?_;refine Ln (Eu ?_);refine Ue O (λ_ h=>(Wv 1 (Wd 2 h):)) ?_ WU.stop;refine WL.box Y O O λfY=>?_;refine Ln (Eu ?_);refine WU.nil (λ_ h=>(Wv 1 (Wd 3 h):)) ?_;refine WS.e O ?_;refine ak 1 Y O O O yT O O O (Ln (Es ?_));refine WS.nil ?_
    exact Em ((pU,fY,kN),ko,cQ.1,cQ.2) rr (sc O (sc O (sc O (sc O (sc O (sc O sn)))))) (λ_ h=>by
      have h:=h.ar 6 rfl;have h:=h.ar 6 rfl;have h:=h.ar 6 rfl;have h:=h.ar 6 rfl;have h:=h.ar 6 rfl;have h:=h.ar 5 rfl;have h:=h.ar 6 rfl;have h:=Ws.bB h (bc:=[ko,H]) (by simp)
      exact h)
   refine Ue O (λ_ h=>(Wd 1 h:)) ?_ WU.stop;refine Al Y O Bx λkN=>?_;refine Ln (Eu ?_);refine Ue O (λ_ h=>(Wd 2 h:)) ?_ WU.stop;refine Ld Y O Iy O (λr:Option Addr×Nat=>.slice r.1 bo.length r.2) (λK r=>Sl iZ 1 K r.1 r.2 bo) (λw hw=>Ii Hi ai ci bo w (hw.vs _ (by simp)) nQ (by omega)) ?_;intro ko cQ M' rr;refine Ln (Eu (U0 O (λ_ h=>(Wv 1 (Wd 2 h):)) (Yb D9 D8 O O) ?_));refine Ue O (λ_ h=>(Wv 1 (Wd 2 h):)) ?_ WU.stop;refine WL.box Y O O λfY=>?_;refine Ln (Eu ?_);refine WU.nil (λ_ h=>(Wv 1 (Wd 3 h):)) ?_;refine WS.e O ?_;refine ak 1 Y O O O yT O O O (Ln (Es ?_));refine WS.nil ?_
   exact Em ((pU,fY,kN),ko,cQ.1,cQ.2) rr (sc O (sc O (sc O (sc O (sc O (sc O sn)))))) (λ_ h=>by
     have h:=h.ar 6 rfl;have h:=h.ar 6 rfl;have h:=h.ar 6 rfl;have h:=h.ar 6 rfl;have h:=h.ar 6 rfl;have h:=h.ar 5 rfl;have h:=h.ar 6 rfl;have h:=Ws.bB h (bc:=[ko,H]) (by simp)
     exact h)
  refine Ue O (λ_ h=>h) ?_ ?_
  ·refine Ld Y O Iy O (λr:Option Addr×Nat=>.slice r.1 bo.length r.2) (λK r=>Sl iZ 1 K r.1 r.2 bo) (λw hw=>Ii Hi ai ci bo w (hw.vs _ (by simp)) nQ (by omega)) ?_;intro ko cQ M' rr;refine Ln (Eu ?_);refine Ue O (λ_ h=>(Wv 1 h:)) ?_ ?_
   ·refine WL.make Y O Bp O O (by omega) (by omega) (by omega) (by omega) λpU=>?_;refine bI 0 (.cells #[.slice none 0 0,.int .i64 0] 163 (0,0)) O (by rw [Iw]) (Ln (Eu (U0 O (λ_ h=>(Wv 1 (Wd 1 h):)) (Yb D9 D8 O O) ?_)));refine Ue O (λ_ h=>(Wv 1 (Wd 1 h):)) ?_ ?_
    ·refine WL.box Y O O λfY=>?_;refine Ln (Eu ?_);refine Ue O (λ_ h=>(Wv 1 (Wd 2 h):)) ?_ WU.stop;refine Al Y O Bx λkN=>?_;refine Ln (Eu ?_);refine WU.nil (λ_ h=>(Wv 1 (Wd 3 h):)) ?_;refine WS.e O ?_;refine ak 0 Y O O O yT O O O (Ln (Es ?_));refine WS.nil ?_
     exact Em ((pU,fY,kN),ko,cQ.1,cQ.2) rr (sc O (sc O (sc O (sc O (sc O (sc O sn)))))) (λ_ h=>by
       have h:=h.ar 6 rfl;have h:=h.ar 6 rfl;have h:=h.ar 6 rfl;have h:=h.ar 6 rfl;have h:=h.ar 6 rfl;have h:=h.ar 6 rfl;have h:=h.ar 6 rfl;have h:=Ws.bB h (bc:=[ko,H]) (by simp)
       exact h)
    refine Ue O (λ_ h=>(Wv 1 (Wd 1 h):)) ?_ WU.stop;refine Al Y O Bx λkN=>?_;refine Ln (Eu ?_);refine Ue O (λ_ h=>(Wv 1 (Wd 2 h):)) ?_ WU.stop;refine WL.box Y O O λfY=>?_;refine Ln (Eu ?_);refine WU.nil (λ_ h=>(Wv 1 (Wd 3 h):)) ?_;refine WS.e O ?_;refine ak 1 Y O O O yT O O O (Ln (Es ?_));refine WS.nil ?_
    exact Em ((pU,fY,kN),ko,cQ.1,cQ.2) rr (sc O (sc O (sc O (sc O (sc O (sc O sn)))))) (λ_ h=>by
      have h:=h.ar 6 rfl;have h:=h.ar 6 rfl;have h:=h.ar 6 rfl;have h:=h.ar 6 rfl;have h:=h.ar 6 rfl;have h:=h.ar 5 rfl;have h:=h.ar 6 rfl;have h:=Ws.bB h (bc:=[ko,H]) (by simp)
      exact h)
   refine Ue O (λ_ h=>(Wv 1 h:)) ?_ WU.stop;refine Al Y O Bx λkN=>?_;refine Ln (Eu ?_);refine Ue O (λ_ h=>(Wv 1 (Wd 1 h):)) ?_ WU.stop;refine WL.make Y O Bp O O (by omega) (by omega) (by omega) (by omega) λpU=>?_;refine bI 0 (.cells #[.slice none 0 0,.int .i64 0] 163 (0,0)) O (by rw [Iw]) (Ln (Eu (U0 O (λ_ h=>(Wv 1 (Wd 2 h):)) (Yb D9 D8 O O) ?_)));refine Ue O (λ_ h=>(Wv 1 (Wd 2 h):)) ?_ WU.stop;refine WL.box Y O O λfY=>?_;refine Ln (Eu ?_);refine WU.nil (λ_ h=>(Wv 1 (Wd 3 h):)) ?_;refine WS.e O ?_;refine ak 2 Y O O O yT O O O (Ln (Es ?_));refine WS.nil ?_
   exact Em ((pU,fY,kN),ko,cQ.1,cQ.2) rr (sc O (sc O (sc O (sc O (sc O (sc O sn)))))) (λ_ h=>by
     have h:=h.ar 6 rfl;have h:=h.ar 6 rfl;have h:=h.ar 6 rfl;have h:=h.ar 6 rfl;have h:=h.ar 5 rfl;have h:=h.ar 5 rfl;have h:=h.ar 6 rfl;have h:=Ws.bB h (bc:=[ko,H]) (by simp)
     exact h)
  refine Ue O (λ_ h=>h) ?_ WU.stop;refine Al Y O Bx λkN=>?_;refine Ln (Eu ?_);refine Ue O (λ_ h=>(Wd 1 h:)) ?_ ?_
  ·refine WL.make Y O Bp O O (by omega) (by omega) (by omega) (by omega) λpU=>?_;refine bI 0 (.cells #[.slice none 0 0,.int .i64 0] 163 (0,0)) O (by rw [Iw]) (Ln (Eu ?_));refine Ue O (λ_ h=>(Wd 2 h:)) ?_ WU.stop;refine Ld Y O Iy O (λr:Option Addr×Nat=>.slice r.1 bo.length r.2) (λK r=>Sl iZ 1 K r.1 r.2 bo) (λw hw=>Ii Hi ai ci bo w (hw.vs _ (by simp)) nQ (by omega)) ?_;intro ko cQ M' rr;refine Ln (Eu (U0 O (λ_ h=>(Wv 1 (Wd 2 h):)) (Yb D9 D8 O O) ?_));refine Ue O (λ_ h=>(Wv 1 (Wd 2 h):)) ?_ WU.stop;refine WL.box Y O O λfY=>?_;refine Ln (Eu ?_);refine WU.nil (λ_ h=>(Wv 1 (Wd 3 h):)) ?_;refine WS.e O ?_;refine ak 2 Y O O O yT O O O (Ln (Es ?_));refine WS.nil ?_
   exact Em ((pU,fY,kN),ko,cQ.1,cQ.2) rr (sc O (sc O (sc O (sc O (sc O (sc O sn)))))) (λ_ h=>by
     have h:=h.ar 6 rfl;have h:=h.ar 6 rfl;have h:=h.ar 6 rfl;have h:=h.ar 6 rfl;have h:=h.ar 5 rfl;have h:=h.ar 5 rfl;have h:=h.ar 6 rfl;have h:=Ws.bB h (bc:=[ko,H]) (by simp)
     exact h)
  refine Ue O (λ_ h=>(Wd 1 h:)) ?_ WU.stop;refine Ld Y O Iy O (λr:Option Addr×Nat=>.slice r.1 bo.length r.2) (λK r=>Sl iZ 1 K r.1 r.2 bo) (λw hw=>Ii Hi ai ci bo w (hw.vs _ (by simp)) nQ (by omega)) ?_;intro ko cQ M' rr;refine Ln (Eu ?_);refine Ue O (λ_ h=>(Wv 1 (Wd 1 h):)) ?_ WU.stop;refine WL.make Y O Bp O O (by omega) (by omega) (by omega) (by omega) λpU=>?_;refine bI 0 (.cells #[.slice none 0 0,.int .i64 0] 163 (0,0)) O (by rw [Iw]) (Ln (Eu (U0 O (λ_ h=>(Wv 1 (Wd 2 h):)) (Yb D9 D8 O O) ?_)));refine Ue O (λ_ h=>(Wv 1 (Wd 2 h):)) ?_ WU.stop;refine WL.box Y O O λfY=>?_;refine Ln (Eu ?_);refine WU.nil (λ_ h=>(Wv 1 (Wd 3 h):)) ?_;refine WS.e O ?_;refine ak 2 Y O O O yT O O O (Ln (Es ?_));refine WS.nil ?_
  exact Em ((pU,fY,kN),ko,cQ.1,cQ.2) rr (sc O (sc O (sc O (sc O (sc O (sc O sn)))))) (λ_ h=>by
    have h:=h.ar 6 rfl;have h:=h.ar 6 rfl;have h:=h.ar 6 rfl;have h:=h.ar 6 rfl;have h:=h.ar 5 rfl;have h:=h.ar 5 rfl;have h:=h.ar 6 rfl;have h:=Ws.bB h (bc:=[ko,H]) (by simp)
    exact h)
 intro q hK;refine Cs ?_;refine CU (mY [.cell 8 51,.cell 9 3,.cell 10 29]) [] [7] (.q true 0 (.q false 1 (.q true 2 (.e 3 (.q false 4 (.q false 5 (.q false 6 .nil))) .stop)))) mixed (by kernel_rfl) (λ_ _ _ _ _ hd h=>rK (fn:=Tryz.f26) [.cell 8 51,.cell 9 3,.cell 10 29] O hd h) ?_;refine U0 O (λ_ h=>h) (Yd 0 O O O tm) (U0 O (λ_ h=>h) (Yf Bn O) (U0 O (λ_ h=>h) (Yd 6 O O O aj) ?_));refine Ue O (λ_ h=>h) ?_ WU.stop;refine WL.make Y O f_ O O (by omega) (by omega) (by omega) (by omega) λyi=>?_;refine bI 0 (.cells ((List.replicate data.toNat (0:Int)).flatMap iv).toArray 3 (0,0)) O (by rw [S4]) (Ln (Eu (U0 O (λ_ h=>(Wd 1 h:)) (aQ O) (U0 O (λ_ h=>(Wd 1 h:)) (Yf pS O) (U0 O (λ_ h=>(Wd 1 h:)) (Yf yO O) ?_)))));refine WU.nil (λ_ h=>(Wd 1 h:)) ?_;refine WS.e O ?_;refine ak 2 Y O O O lZ O O O (Ln (Es ?_));refine WS.nil ?_;refine Et (Cs (Cr (V0 (ED O) ?_)));refine WL.defer Y O ?_;refine Ln (Et (Cb ?_))
 refine ct (ι:=aa) (λs=>[]) [(3,_),(4,_),(8,_),(9,_),(10,_),(12,_)] (λs=>Ws w [] (aa.own q.1.2.1 s++[ab q.1.2.2 (.cells #[.pointer (some ⟨q.1.2.1,0,none⟩)] 127 (0,0)),ab jq (.cells (Value.cells (.int .i64 0)) 29 (0,0)),ab b9 (.cells (Value.cells (.int .i64 0)) 3 (0,0)),ab b8 (.cells (Value.cells (.agg #[.int .i64 0,.slice none 0 0,.slice none 0 0,.int .i64 0])) 51 (0,0)),ab b4 (.cells (Value.agg #[.slice a code.length c,.int .i64 data]).cells 42 (0,0))]) [q.2.1,H]) (λs=>s.bV q.2.1/\0<=s.steps/\s.steps<=steps/\runK code steps ((steps-s.steps).toNat+1) s.pu=runK code steps (steps.toNat+1) (ac0 bD bo data)) (λs=>(steps-s.steps).toNat) ({ at_:=0,pQ:=bD,steps:=0,stack:=[],aW:=[⟨none,0,[],0⟩],bo:=bo,out:=[],data:=List.replicate data.toNat 0,bD:=0,sa:=none,sc:=0,fa:=some ⟨q.1.1,0,none⟩,fc:=1,ia:=q.2.2.1,ic:=q.2.2.2,oa:=none,oc:=0,da:=some ⟨yi,0,none⟩,dc:=data.toNat }:aa) ⟨⟨hK,by simp,by simp,by simp,by simp; omega⟩,Int.le_refl _,hts.2.2.1,by simp; rfl⟩ (sc O (sc O (sc O (sc O (sc O (sc O sn)))))) (λ_ h=>by
   have h:=h.n0 (f:=iv) (c:=data.toNat) 0 rfl fR (by simp) (by unfold maxLen; omega);have h:=h.n0 (f:=dh.cells) (xs:=[⟨none,0,[],0⟩]) (c:=1) 3 rfl dh.aX rfl (by decide);have h:=h.p6 2 rfl (show _=ab q.1.2.1 (aa.obj ({ at_:=0,pQ:=bD,steps:=0,stack:=[],aW:=[⟨none,0,[],0⟩],bo:=bo,out:=[],data:=List.replicate data.toNat 0,bD:=0,sa:=none,sc:=0,fa:=some ⟨q.1.1,0,none⟩,fc:=1,ia:=q.2.2.1,ic:=q.2.2.2,oa:=none,oc:=0,da:=some ⟨yi,0,none⟩,dc:=data.toNat }:aa)) by simp [aa.obj,mS,dE]);have h:=h.fj 3 1;have h:=h.fj 3 1;have h:=h.aeh;have h:=h.UN 0 rfl 3 1;have h:=h.ar 0 rfl;have h:=h.ar 3 rfl;have h:=h.ar 2 rfl;have h:=h.ar 6 rfl;have h:=h.ar 4 rfl;have h:=h.ar 6 rfl
   exact h) ?_
 intro s ⟨cD,atf,atg,dX⟩;refine Cb (Cs (Cr (V0 (Yd 6 O O O tm) (V0 (aQ O) (V0 (Yf M5 O) (V0 (Yd 0 O O O aj) (V0 (Ym O) (V0 (aF O O) ?_))))))))
 refine bg (ι:=Unit) (κ:=Unit) [] _ Y O nM O O (λ_=>.tuple #[]) (λ_=>[]) (λ_=>(s.steps==steps)=false) (λ_=>b_ 7) (λ_=>[]) (λ_=>(s.steps==steps)=true) ([]) (by simp) (λw hw=>(nL _ 7 w).mono λe w' h=>by
     rcases h with ⟨_,h1,h2,h3⟩ | ⟨_,h1,h2,h3⟩
     · exact .inl ⟨(),h1,h2,hw.ext h3⟩
     · exact .inr ⟨(),h1,h2,hw.ext h3⟩) ?_ ?_
 ·intro _ D_;refine Ep (WE.aS (Ep (WE.aS ?_)));refine WE.front 0 O ?_;refine WE.front 7 O ?_;refine WE.front 8 O ?_;refine WE.front 9 O ?_;refine WE.front 9 O ?_;refine WE.tv M9 (p4 [_,_,_,_,_] _ _ O (λw hw=>M6 q.1.2.2 b8 b9 jq q.1.2.1 s 7 _ _ _ _ _ _ w hw)) (ze O (cU 1 O O vd O) (hZ 2 O O O aj) (hZ 3 O O O jn)) λw' hw=>?_
  have ve:iterM code steps s.pu = .ov 7 s.pu:=by unfold iterM; rw [if_pos (show (s.pu.steps==steps)=true from D_)]
  have hM:(gZ code data bo bD steps)=(⟨7,s.out,s.data,s.bD⟩,s.steps):=by
    unfold gZ;rw [if_pos hE,<-dX,M8 _ ve]
    rfl
  rw [hM,hE];exact ⟨((s.oa,s.oc),(s.da,s.dc)),O,hw.fr,hw.gB 7 O fR rh,hw.gB 8 O fR rh⟩
 intro _ D_;refine Ln (Et (Cs (Cr (V0 (Yd 6 O O O tm) (V0 (aQ O) (V0 (Yf M5 O) (V0 (Yd 0 O O O aj) (V0 (xj O O) (V0 (aQ O) (V0 (Yf M5 O) ?_))))))))));refine ak 0 Y O O O bZ O O O (bI 0 (aa.obj (aa.tk s)) O O (Ln (Et (Cs ?_))))
 rcases Int.lt_or_le s.at_ 0 with hA | hA
 ·skip
  refine CU (mY [.cell 8 51,.cell 9 3,.cell 10 29]) [] [] (.q true 0 (.q false 1 (.q false 2 (.q true 3 (.q false 4 (.q false 5 (.q false 6 (.q false 7 (.q false 8 (.q false 9 (.q false 10 (.q false 11 (.q false 12 (.q false 13 (.q false 14 (.e 15 .nil .stop)))))))))))))))) mixed (by kernel_rfl) (λ_ _ _ _ _ hd h=>rK (fn:=Tryz.f26) [.cell 8 51,.cell 9 3,.cell 10 29] O hd h) ?_;refine U0 O (λ_ h=>h) (Yd 6 O O O tm) (U0 O (λ_ h=>h) (aQ O) (U0 O (λ_ h=>h) (Yf tg O) (U0 O (λ_ h=>h) (Yd 0 O O O aj) (U0 O (λ_ h=>h) (aeC O O hA) (U0 O (λ_ h=>h) (Ym O) ?_)))));refine WU.skip O O O O O O (λ_ h=>h) ?_;refine WU.skip O O O O O O (λ_ h=>h) ?_;refine WU.skip O O O O O O (λ_ h=>h) ?_;refine WU.skip O O O O O O (λ_ h=>h) ?_;refine WU.skip O O O O O O (λ_ h=>h) ?_;refine WU.skip O O O O O O (λ_ h=>h) ?_;refine WU.skip O O O O O O (λ_ h=>h) ?_;refine WU.skip O O O O O O (λ_ h=>h) ?_;refine U0 O (λ_ h=>h) (T3 O O O) ?_;refine Ue O (λ_ h=>h) ?_ WU.stop
  refine bg (ι:=Unit) (κ:=Unit) [] _ Y O nM O O (λ_=>.tuple #[]) (λ_=>[]) (λ_=>(true)=false) (λ_=>b_ 6) (λ_=>[]) (λ_=>(true)=true) ([]) (by simp) (λw hw=>(nL _ 6 w).mono λe w' h=>by
      rcases h with ⟨_,h1,h2,h3⟩ | ⟨_,h1,h2,h3⟩
      · exact .inl ⟨(),h1,h2,hw.ext h3⟩
      · exact .inr ⟨(),h1,h2,hw.ext h3⟩) ?_ ?_
  ·intro _ Ec;refine Ep (Ep (WE.aS (Ep (WE.aS ?_))));refine WE.front 0 O ?_;refine WE.front 7 O ?_;refine WE.front 8 O ?_;refine WE.front 9 O ?_;refine WE.front 9 O ?_;refine WE.tv M9 (p4 [_,_,_,_,_] _ _ O (λw hw=>M6 q.1.2.2 b8 b9 jq q.1.2.1 (aa.tk s) 6 _ _ _ _ _ _ w hw)) (ze O (cU 1 O O vd O) (hZ 2 O O O aj) (hZ 3 O O O jn)) λw' hw=>?_
   have ve:iterM code steps s.pu = .ov 6 (aa.tk s).pu:=by
     unfold iterM;rw [if_neg (show ¬(s.pu.steps==steps)=true by rw [show s.pu.steps=s.steps from rfl,D_]; simp),if_pos (show cM s.pu.at_ code.length=true by show cM s.at_ code.length=true; unfold cM; simp [hA])]
     rfl
   have hM:(gZ code data bo bD steps)=(⟨6,(aa.tk s).out,(aa.tk s).data,(aa.tk s).bD⟩,(aa.tk s).steps):=by
     unfold gZ;rw [if_pos hE,<-dX,M8 _ ve]
     rfl
   rw [hM,hE];exact ⟨(((aa.tk s).oa,(aa.tk s).oc),((aa.tk s).da,(aa.tk s).dc)),O,hw.fr,hw.gB 7 O fR rh,hw.gB 8 O fR rh⟩
  intro _ Ec;cases Ec
 skip
 refine CU (mY [.cell 8 51,.cell 9 3,.cell 10 29]) [] [] (.q true 0 (.q false 1 (.q false 2 (.q true 3 (.q false 4 (.q false 5 (.q true 6 (.q false 7 (.q false 8 (.q true 9 (.q false 10 (.q true 11 (.q false 12 (.q false 13 (.q false 14 (.e 15 .nil .stop)))))))))))))))) mixed (by kernel_rfl) (λ_ _ _ _ _ hd h=>rK (fn:=Tryz.f26) [.cell 8 51,.cell 9 3,.cell 10 29] O hd h) ?_;refine U0 O (λ_ h=>h) (Yd 6 O O O tm) (U0 O (λ_ h=>h) (aQ O) (U0 O (λ_ h=>h) (Yf tg O) (U0 O (λ_ h=>h) (Yd 0 O O O aj) (U0 O (λ_ h=>h) (aeD O O hA) (U0 O (λ_ h=>h) (Ym O) ?_)))));refine Uq O (.g O O O) O (λ_ h=>h) (Yd 6 O O O tm) ?_;refine Uq O (.g O O O) O (λ_ h=>h) (aQ O) ?_;refine Uq O (.g O O O) O (λ_ h=>h) (Yf tg O) ?_;refine Uq O (.g O O O) O (λ_ h=>h) (Yd 0 O O O aj) ?_;refine Uq O (.g O O O) O (λ_ h=>h) (Yf iY O) ?_;refine Uq O (.g O O O) O (λ_ h=>h) (Yd 10 O O O ep) ?_;refine Uq O (.g O O O) O (λ_ h=>h) (Yn et O) ?_;refine Uq O (.g O O O) O (λ_ h=>h) (eK O O) ?_;refine U0 O (λ_ h=>h) (T3 O O O) ?_;refine Ue O (λ_ h=>h) ?_ WU.stop
 refine bg (ι:=Unit) (κ:=Unit) [] _ Y O nM O O (λ_=>.tuple #[]) (λ_=>[]) (λ_=>(decide ((code.length:Int)<=s.at_))=false) (λ_=>b_ 6) (λ_=>[]) (λ_=>(decide ((code.length:Int)<=s.at_))=true) ([]) (by simp) (λw hw=>(nL _ 6 w).mono λe w' h=>by
     rcases h with ⟨_,h1,h2,h3⟩ | ⟨_,h1,h2,h3⟩
     · exact .inl ⟨(),h1,h2,hw.ext h3⟩
     · exact .inr ⟨(),h1,h2,hw.ext h3⟩) ?_ ?_
 ·intro _ Ec;refine Ep (Ep (WE.aS (Ep (WE.aS ?_))));refine WE.front 0 O ?_;refine WE.front 7 O ?_;refine WE.front 8 O ?_;refine WE.front 9 O ?_;refine WE.front 9 O ?_;refine WE.tv M9 (p4 [_,_,_,_,_] _ _ O (λw hw=>M6 q.1.2.2 b8 b9 jq q.1.2.1 (aa.tk s) 6 _ _ _ _ _ _ w hw)) (ze O (cU 1 O O vd O) (hZ 2 O O O aj) (hZ 3 O O O jn)) λw' hw=>?_
  have ve:iterM code steps s.pu = .ov 6 (aa.tk s).pu:=by
    unfold iterM;rw [if_neg (show ¬(s.pu.steps==steps)=true by rw [show s.pu.steps=s.steps from rfl,D_]; simp),if_pos (show cM s.pu.at_ code.length=true by show cM s.at_ code.length=true; unfold cM; simp; exact Or.inr (by simpa using Ec))]
    rfl
  have hM:(gZ code data bo bD steps)=(⟨6,(aa.tk s).out,(aa.tk s).data,(aa.tk s).bD⟩,(aa.tk s).steps):=by
    unfold gZ;rw [if_pos hE,<-dX,M8 _ ve]
    rfl
  rw [hM,hE];exact ⟨(((aa.tk s).oa,(aa.tk s).oc),((aa.tk s).da,(aa.tk s).dc)),O,hw.fr,hw.gB 7 O fR rh,hw.gB 8 O fR rh⟩
 intro _ Ec
 have kQ:cM s.at_ code.length=false:=by unfold cM; rw [Ec]; simp; omega
 refine Ln (Eu ?_);refine WU.nil (λ_ h=>h) ?_;refine WS.nil ?_;refine Et ?_;obtain ⟨x,hx⟩:∃x,code[s.at_.toNat]? = some x:=⟨_,List.getElem?_eq_getElem (va kQ).2⟩;obtain ⟨pb,po,ha,bQ⟩:=hm.aO _ x hx;have bQ:aP H pb (po+s.at_.toNat*3) x.cells:=bQ;have av:=(va kQ).2;refine CU (mY [.cell 8 51,.cell 9 3,.cell 10 29]) [] [9] (.q true 0 (.q false 1 (.q true 2 (.q true 3 (.q false 4 (.q false 5 (.q true 6 (.q false 7 (.q true 8 .nil))))))))) mixed (by kernel_rfl) (λ_ _ _ _ _ hd h=>rK (fn:=Tryz.f26) [.cell 8 51,.cell 9 3,.cell 10 29] O hd h) ?_;refine U0 O (λ_ h=>h) (Yd 6 O O O tm) (U0 O (λ_ h=>h) (Yf iY O) (U0 O (λ_ h=>h) (Yd 10 O O O ep) (U0 O (λ_ h=>h) (Yd 6 O O O tm) (U0 O (λ_ h=>h) (aQ O) (U0 O (λ_ h=>h) (Yf tg O) (U0 O (λ_ h=>h) (Yd 0 O O O aj) (U0 O (λ_ h=>h) (nR et O O ha hA (by show s.at_<(code.length:Int); omega)) ?_)))))));refine U0 O (λ_ h=>h) (cF 1 yy O O O (bQ)) ?_;refine WU.nil (λ_ h=>h) ?_;refine WS.e O ?_;refine bg (ι:=Unit×aa) (κ:=Int×aa) [_,_,_,_,_,_] _ Y O atc O O (λr=>.tuple #[]) (λr=>(aa.own q.1.2.1 r.2)) (λr=>cf x (aa.tk s).pu = .ok r.1 r.2.pu/\r.2.bV q.2.1) (λr=>b_ r.1) (λr=>(aa.own q.1.2.1 r.2)) (λr=>cf x (aa.tk s).pu = .ov r.1 r.2.pu) ([q.2.1]) (by simp) (λw hw=>asw q.1.2.1 (aa.tk s) q.2.1 x w cD.tk hw) ?_ ?_
 ·intro kW TO;refine Ep (WE.aS (Ep (WE.aS ?_)));refine WE.front 0 O ?_;refine WE.front 7 O ?_;refine WE.front 8 O ?_;refine WE.front 9 O ?_;refine WE.front 9 O ?_;refine WE.tv M9 (p4 [_,_,_,_,_] _ _ O (λw hw=>M6 q.1.2.2 b8 b9 jq q.1.2.1 kW.2 kW.1 _ _ _ _ _ _ w hw)) (ze O (cU 1 O O vd O) (hZ 2 O O O aj) (hZ 3 O O O jn)) λw' hw=>?_
  have ve:iterM code steps s.pu = .ov kW.1 kW.2.pu:=by
    unfold iterM;rw [if_neg (show ¬(s.pu.steps==steps)=true by rw [show s.pu.steps=s.steps from rfl,D_]; simp),if_neg (show ¬cM s.pu.at_ code.length=true by show ¬cM s.at_ code.length=true; rw [kQ]; simp),show code[s.pu.at_.toNat]? = some x from hx];exact TO
  have hM:(gZ code data bo bD steps)=(⟨kW.1,kW.2.out,kW.2.data,kW.2.bD⟩,kW.2.steps):=by
    unfold gZ;rw [if_pos hE,<-dX,M8 _ ve]
    rfl
  rw [hM,hE];exact ⟨((kW.2.oa,kW.2.oc),(kW.2.da,kW.2.dc)),O,hw.fr,hw.gB 7 O fR rh,hw.gB 8 O fR rh⟩
 intro kW ⟨TO,ath⟩;refine Ln (Es ?_);refine WS.nil ?_;refine Eb ?_
 have ve:iterM code steps s.pu = .ok () kW.2.pu:=by
   unfold iterM;rw [if_neg (show ¬(s.pu.steps==steps)=true by rw [show s.pu.steps=s.steps from rfl,D_]; simp),if_neg (show ¬cM s.pu.at_ code.length=true by show ¬cM s.at_ code.length=true; rw [kQ]; simp),show code[s.pu.at_.toNat]? = some x from hx];exact TO
 have iy:kW.2.steps=s.steps+1/\s.steps<steps:=as_ (m:=s.pu) (m':=kW.2.pu) hts.2.2.2 atf atg ve
 exact Ea kW.2 (by omega) ⟨ath,by omega,by omega,by
     rw [<-dX,atb _ ve,show (steps-s.steps).toNat=(steps-kW.2.steps).toNat+1 by omega]⟩ (sc rfl (sc rfl (sc rfl (sc rfl (sc rfl (sc rfl sn)))))) (λ_ h=>h)
end Go.Proofs.YtplfmnkmlaolpaaGreatDoor.Mch
end
section
namespace Go.Proofs.YtplfmnkmlaolpaaGreatDoor
open Go.Bw
def toI (x:aI):Mch.jw:=⟨x.op,x.a,x.b⟩
theorem ati {H:View} {a:Option Addr} {c:Nat} {l:List aI} (h:Sl eB 3 H a c l):Sl Mch.S2 3 H a c (l.map toI):=by
 refine ⟨by rw [List.length_map]; exact h.cap,h.max,h.spot,λi x hx=>?_⟩;rw [List.getElem?_map] at hx;obtain ⟨y,hy,rfl⟩:=Option.map_eq_some_iff.1 hx;exact h.aO i y hy
theorem atj {H:View} {a:Option Addr} {c:Nat} {l:List Int} (h:Sl iN 1 H a c l):Sl Mch.iZ 1 H a c l:=h.imp λb o x h=>h 0 _ rfl
theorem ac3 {H:View} {a:Option Addr} {c:Nat} {l:List Int} (h:Sl Mch.iZ 1 H a c l):Sl iN 1 H a c l:=h.imp λb o x h k v hk=>by
 match k,hk with
 | 0,hk=>cases hk; exact h
def tI9 (x:aI):Int×Int×Int:=(x.op,x.a,x.b)
theorem atk {o:Option aI} {a:Int×Int×Int} (h:o.map tI9=some a):o=some ⟨a.1,a.2.1,a.2.2⟩:=by
 cases o with
 | none=>cases h
 | some x=>simp only [Option.map_some,Option.some.injEq] at h; subst h; rfl
theorem atl {x:(List aI×Int)×Int} {d e:Int} (h1:x.1.2=d) (h2:x.2=e):x=((x.1.1,d),e):=by
 obtain ⟨⟨c,d'⟩,e'⟩:=x;subst h1 h2
 rfl
theorem atm {x:Mch.pf×Int} {a:Int} {b c:List Int} {t:Int} (h1:x.1.fin=a) (h2:x.1.out=b) (h3:x.1.data=c) (h4:x.1.bD=t):x=((⟨a,b,c,t⟩:Mch.pf),x.2):=by
 obtain ⟨⟨_,_,_,_⟩,_⟩:=x;subst h1 h2 h3 h4
 rfl
theorem atn:(ej [lF,jK]).2=0:=by decide +kernel
theorem ato:eI [lF,jK]=0:=by decide +kernel
theorem atp:(ej [lF,jK]).1.2=5:=by decide +kernel
theorem atq:ej [jK]=(([],0),9):=SN (l:=[jK]) (by decide +kernel) |>.trans (by rw [show eI [jK]=9 by decide +kernel])
theorem atr:((ej [lF,jK]).1.1[0]?).map tI9=some (13,22,0):=by decide +kernel
theorem ats:((ej [lF,jK]).1.1[2]?).map (·.op)=some 20:=by decide +kernel
theorem att:3<=(ej [lF,jK]).1.1.length:=by decide +kernel
theorem atu:Mch.rq ((ej [lF,jK]).1.1.map toI) 5 [1] 9 999=0:=by decide +kernel
theorem atv:(Mch.gZ ((ej [lF,jK]).1.1.map toI) 5 [1] 9 999).1.fin=0:=by decide +kernel
theorem atw:(Mch.gZ ((ej [lF,jK]).1.1.map toI) 5 [1] 9 999).1.out=[6,7]:=by decide +kernel
theorem atx:(Mch.gZ ((ej [lF,jK]).1.1.map toI) 5 [1] 9 999).1.data=[6,0,6,0,0]:=by decide +kernel
theorem aty:(Mch.gZ ((ej [lF,jK]).1.1.map toI) 5 [1] 9 999).1.bD=6:=by decide +kernel
theorem atz:∃(o0 o1:aG) (code:List aI) (y2:aI) (Fc:Int),[lF,jK]=[o0,o1]/\ej [o0,o1]=((code,5),0)/\eI [o0,o1]=0/\ej [o1]=(([],0),9)/\code[0]? = some ⟨13,22,0⟩/\code[2]? = some y2/\y2.op=20/\3<=code.length/\Mch.rq (code.map toI) 5 [1] 9 999=0/\Mch.gZ (code.map toI) 5 [1] 9 999=((⟨0,[6,7],[6,0,6,0,0],6⟩:Mch.pf),Fc):=by
 obtain ⟨y2,hy,L4⟩:∃y2,(ej [lF,jK]).1.1[2]? = some y2/\y2.op=20:=by
   have h:=ats
   cases hx:(ej [lF,jK]).1.1[2]? with
   | none=>rw [hx] at h; cases h
   | some y=>rw [hx] at h; exact ⟨y,rfl,by simpa using h⟩
 exact ⟨lF,jK,(ej [lF,jK]).1.1,y2,_,O,atl atp atn,ato,atq,atk atr,hy,L4,att,atu,atm atv atw atx aty⟩
theorem M4:aZ Tryz.prog 51 0=some 0:=by kernel_rfl
theorem DY:aZ Tryz.prog 51 3=some 3:=by kernel_rfl
theorem D4:aZ Tryz.prog 51 1=some 1:=by kernel_rfl
theorem yO:aZ Tryz.prog 51 2=some 2:=by kernel_rfl
theorem TP:Enters Tryz.prog 17:=enters_of Tryz.func17 (by kernel_rfl) rfl
theorem atA:Enters Tryz.prog 26:=enters_of Tryz.func26 (by kernel_rfl) rfl
theorem Bv:zeroOf Tryz.prog 51=some (.agg #[.int .i64 0,.slice none 0 0,.slice none 0 0,.int .i64 0]):=by kernel_rfl
theorem D7:cG Tryz.prog 51=some 4:=by kernel_rfl
theorem ac5:Enters Tryz.prog 20:=enters_of Tryz.func20 (by kernel_rfl) rfl
theorem Bn:aZ Tryz.prog 42 1=some 1:=by kernel_rfl
theorem vd:fg Tryz.prog 51=some 4:=by kernel_rfl
theorem Ix:fh Tryz.prog 51=some [(0,1),(1,1),(2,1),(3,1)]:=by kernel_rfl
theorem atB:Enters Tryz.prog 27:=enters_of Tryz.func27 (by kernel_rfl) rfl
theorem atC (H1 H2:View) (R:Mch.pf) (r1 r2:SP×SP) (w:World) (Bc:Le H1 w) (Bd:Le H2 w) (h1:Sl iN 1 H1 r1.1.1 r1.1.2 R.out/\Sl iN 1 H1 r1.2.1 r1.2.2 R.data) (h2:Sl iN 1 H2 r2.1.1 r2.1.2 R.out/\Sl iN 1 H2 r2.2.1 r2.2.2 R.data) :
   Calls Tryz.prog 27 #[.agg #[.int .i64 R.fin,.slice r1.1.1 R.out.length r1.1.2,.slice r1.2.1 R.data.length r1.2.2,.int .i64 R.bD],.agg #[.int .i64 R.fin,.slice r2.1.1 R.out.length r2.1.2,.slice r2.2.1 R.data.length r2.2.2,.int .i64 R.bD]] w λe w'=>e = .returned (.bool true)/\Ext w w':=by
 refine enter Tryz.func27 O 31 O O ?_;refine CE (Vs:=[H1,H2]) (Ws.init (by simp [Bc,Bd])) (Cs (Cr ?_));refine WL.box Y O O λb2=>?_;refine WL.box Y O O λb3=>?_;refine V0 (Ya O) (Ln (Et (Cs (Cr (V0 (Yf M4 O) (V0 (Yd 1 O O O aj) (V0 (Yf M4 O) (V0 (Yd 0 O O O aj) (V0 (rW O O O) (V0 (Ym O) ?_))))))))));apply La 5 (x:=true) O O O O Y O O O O O
 ·intro cD;refine Vg (Yf DY O) (Vg (Yd 1 O O O aj) (Vg (Yf DY O) (Vg (Yd 0 O O O aj) (Vg (rW O O O) ?_))));exact Gt 5 O O O
 refine V0 (Ym O) ?_;apply La 5 (x:=true) O O O O Y O O O O O
 ·intro bR;refine Vg (Yf D4 O) (Vg (Yd 1 O O O dt) (Vg (Yf D4 O) (Vg (Yd 0 O O O dt) (Lp (.g O O O) O acf O (λw hw=>acp H1 H2 r1.1.1 r2.1.1 r1.1.2 r2.1.2 R.out w (hw.vs _ (by simp)) (hw.vs _ (by simp)) h1.1 h2.1) ?_))));exact Gt 5 O O O
 refine V0 (Ym O) ?_;apply La 5 (x:=true) O O O O Y O O O O O
 ·intro gP;refine Vg (Yf yO O) (Vg (Yd 1 O O O dt) (Vg (Yf yO O) (Vg (Yd 0 O O O dt) (Lp (.g O O O) O acf O (λw hw=>acp H1 H2 r1.2.1 r2.2.1 r1.2.2 r2.2.2 R.data w (hw.vs _ (by simp)) (hw.vs _ (by simp)) h1.2 h2.2) ?_))));exact Gt 5 O O O
 refine V0 (Ya O) (Ln (Et (aw ?_)));refine R1 O O λw' hw=>?_;exact ⟨O,hw.fr⟩
theorem atD (G:View) (w:World) (hG:Le G w) (hz:Laid G) :
   Calls Tryz.prog 19 #[] w λe w'=>e = .returned (.bool true)/\Ext w w':=by
 refine enter Tryz.func19 O 71 O O ?_;refine CE (Vs:=[G]) (Ws.init (by simp [hG])) (Cs (Cr (V0 (Ya O) (Ln (Et (Cs ?_))))));obtain ⟨o0,o1,code,y2,Fc,kQ,Ms,hle,x7,ad,ay,L4,hlen,QK,hmr⟩:=atz;refine Cr ?_
 refine Ld Y O Sx O (λq:SP=>.slice q.1 2 q.2) (λF q=>Sl oT 7 F q.1 q.2 [o0,o1]) (λw hw=>by
     have iW:=Sw G w (hw.vs _ (by simp)) hz;rw [kQ] at iW
     exact iW) ?_
 intro F9 r9 yF h9
 refine Ld Y O TP O (λq:SP=>.tuple #[.agg #[.slice q.1 (code).length q.2,.int .i64 5],.int .i64 0]) (λF q=>Sl eB 3 F q.1 q.2 code) (λw hw=>by
     have iW:=SO F9 r9.1 r9.2 [o0,o1] w (hw.vs _ (by simp)) h9;rw [Ms] at iW
     exact iW) ?_
 intro TQ r10 axB eX;obtain ⟨atF,atG,atH,TR⟩:=eX.aO 0 _ ad;obtain ⟨TS,TT,TU,By⟩:=eX.aO 2 _ ay;have axC:=eX.cap;have axD:=eX.max;have By:aP TQ TS (TT+2*3) y2.cells:=By;have TR:aP TQ atF (atG+0*3) (aI.cells ⟨13,22,0⟩):=TR;refine V0 (Ym O) (V0 (Yx O O) (V0 (Yx O O) ?_));refine Al Y O oU λb1=>?_;refine ak 0 Y O O O qZ O O O (V0 (Ya O) (Ln (Et (Cs (Cr ?_)))))
 refine Ld Y O Sx O (λq:SP=>.slice q.1 2 q.2) (λF q=>Sl oT 7 F q.1 q.2 [o0,o1]) (λw hw=>by
     have iW:=Sw G w (hw.vs _ (by simp)) hz;rw [kQ] at iW
     exact iW) ?_
 intro yG kH Mz kD;obtain ⟨axE,axF,atI,jk,atJ,qE⟩:=kD.aO 1 _ rfl;have axG:=kD.cap;have axH:=kD.max;refine V0 (Yo (i:=1) dK O O atI (by decide)) (V0 (cF 0 oS O O O (atJ)) ?_);refine Lb Y O aco O O O O λJ4=>?_;refine bI 0 (.cells ((([(o1,jk)]:List XO)).flatMap XO.cells).toArray 27 (0,0)) O O (LW (λ_ h=>h.n0 (f:=XO.cells) (xs:=([(o1,jk)]:List XO)) (c:=1) 0 O XO.aX O (by decide)) ?_)
 refine Ld Y O TP O (λq:SP=>.tuple #[.agg #[.slice q.1 (([]:List aI)).length q.2,.int .i64 0],.int .i64 9]) (λF q=>Sl eB 3 F q.1 q.2 ([]:List aI)) (λw hw=>by
     have h9:=SO (hv w) (some ⟨J4,0,none⟩) 1 [o1] w (ix w) (ack (es:=[(o1,jk)]) (hw.EM (rd:=Su) 0 rfl XO.aX (λ_ _ _ _ h=>h)) (λ_ _ h=>h) λe he=>by
       rw [List.mem_singleton] at he;subst he
       exact Sv qE (mW (hw.vs yG (by simp))))
     rw [x7] at h9
     exact h9) ?_
 intro sI fe Dj yL;refine V0 (Ym O) (V0 (Yx O O) (V0 (Yx O O) ?_));refine Al Y O oU λb3=>?_;refine ak 0 Y O O O qZ O O O (V0 (Ya O) (Ln (Et (Cs (Cr (V0 (bC 2 O O pO O) ?_))))));refine Lb Y O f_ O O O O λQ1=>?_;refine bI 0 (.cells ((([1]:List Int)).flatMap im).toArray 3 (0,0)) O O (LW (λ_ h=>h.n0 (f:=im) (xs:=([1]:List Int)) (c:=1) 0 O vA O (by decide)) ?_);refine WL.p8 (rd:=iN) 0 O vA (λ_ _ _ _ h=>h) λH23 atL=>?_
 refine Ld Y O atA O (λr:SP×SP=>.tuple #[.agg #[.int .i64 (⟨0,[6,7],[6,0,6,0,0],6⟩:Mch.pf).fin,.slice r.1.1 (⟨0,[6,7],[6,0,6,0,0],6⟩:Mch.pf).out.length r.1.2,.slice r.2.1 (⟨0,[6,7],[6,0,6,0,0],6⟩:Mch.pf).data.length r.2.2,.int .i64 (⟨0,[6,7],[6,0,6,0,0],6⟩:Mch.pf).bD],.int .i64 Fc,.int .i64 0]) (λF r=>Sl iN 1 F r.1.1 r.1.2 (⟨0,[6,7],[6,0,6,0,0],6⟩:Mch.pf).out/\Sl iN 1 F r.2.1 r.2.2 (⟨0,[6,7],[6,0,6,0,0],6⟩:Mch.pf).data) (λw hw=>by
     have iW:=Mch.atd TQ r10.1 r10.2 (code.map toI) 5 H23 (some ⟨Q1,0,none⟩) 1 [1] 9 999 w (hw.vs _ (by simp)) (ati eX) (hw.vs _ (by simp)) (atj atL);rw [QK,hmr,List.length_map] at iW
     exact iW.mono λe w' ⟨r,k1,k2,k3,k4⟩=>⟨r,k1,k2,ac3 k3,ac3 k4⟩) ?_
 intro F24 uy axI h24;refine V0 (Ym O) (V0 (Yx O O) (V0 (Yx O O) (V0 (Yx O O) ?_)));refine Al Y O Bv λb5=>?_;refine ak 0 Y O O O D7 O O O (V0 (Ya O) (V0 (Ya O) (Ln (Et (Cs (Cr ?_))))))
 refine Ld Y O Sx O (λq:SP=>.slice q.1 2 q.2) (λF q=>Sl oT 7 F q.1 q.2 [o0,o1]) (λw hw=>by
     have iW:=Sw G w (hw.vs _ (by simp)) hz;rw [kQ] at iW
     exact iW) ?_
 intro F28 r28 axJ h28
 refine Lp Y O ac5 O (λw hw=>by
     have iW:=acG F28 r28.1 r28.2 [o0,o1] w (hw.vs _ (by simp)) h28;rw [hle] at iW
     exact iW) ?_
 refine V0 (rW O O O) (V0 (Ym O) ?_);apply La 2 (x:=true) O O O O Y O O O O O
 ·intro cD;refine Vg (Ym O) (Vg (rW O O O) ?_);exact Gt 2 O O O
 refine V0 (Ym O) ?_;apply La 2 (x:=true) O O O O Y O O O O O
 ·intro bR;refine Vg (Ym O) (Vg (rW O O O) ?_);exact Gt 2 O O O
 refine V0 (Ym O) ?_;apply La 2 (x:=true) O O O O Y O O O O O
 ·intro gP;refine Vg (Ym O) (Vg (rW O O O) ?_);exact Gt 2 O O O
 refine V0 (Ym O) ?_;apply La 3 (x:=true) O O O O Y O O O O O
 ·intro mC;refine Vg (Yf Bn O) (Vg (Yd 3 O O O aj) (Vg (rW O O O) ?_));exact Gt 3 O O O
 refine V0 (Ym O) ?_;apply La 6 (x:=true) O O O O Y O O O O O
 ·intro x0;refine Vg (Yf iY O) (Vg (Yd 3 O O O ep) (Vg (Yo (i:=0) et O O atH (by show 0<code.length; omega)) (Vg (cF 5 yy O O O (TR)) (Vg (Yb fu ga O O) (Vg (adU (r:=true) ace O O O) ?_)))));exact Gt 6 O O O
 refine V0 (Ym O) ?_;apply La 6 (x:=true) O O O O Y O O O O O
 ·intro oD;refine Vg (Yf iY O) (Vg (Yd 3 O O O ep) (Vg (Yo (i:=2) et O O TU (by show 2<code.length; omega)) (Vg (Yf yH O) (Vg (bL 5 aj O O (By 0 _ O)) (Vg (rW O O L4) ?_)))));exact Gt 6 O O O
 refine V0 (Ym O) ?_;apply La 5 (x:=true) O O O O Y O O O O O
 ·intro DD;refine Vg (bC 0 O O vd O) ?_;refine Lb (.g O O O) O f_ O O O O λb66=>?_;refine bI 0 (.cells ((([6,7]:List Int)).flatMap im).toArray 3 (0,0)) O O (LW (λ_ h=>h.n0 (f:=im) (xs:=([6,7]:List Int)) (c:=2) 0 O vA O (by decide)) ?_);refine WL.p8 (rd:=iN) 0 O vA (λ_ _ _ _ h=>h) λH66 atT=>?_;refine Lb (.g O O O) O f_ O O O O λKm=>?_;refine bI 0 (.cells ((([6,0,6,0,0]:List Int)).flatMap im).toArray 3 (0,0)) O O (LW (λ_ h=>h.n0 (f:=im) (xs:=([6,0,6,0,0]:List Int)) (c:=5) 0 O vA O (by decide)) ?_);refine WL.p8 (rd:=iN) 0 O vA (λ_ _ _ _ h=>h) λZo P0=>?_;refine Vg (Yb Bv Ix O O) (Lp (.g O O O) O atB O (λw hw=>atC F24 (hv w) (⟨0,[6,7],[6,0,6,0,0],6⟩:Mch.pf) uy ((some ⟨b66,0,none⟩,2),(some ⟨Km,0,none⟩,5)) w (hw.vs _ (by simp)) (ix w) h24 ⟨atT.imp λb o x h=>aP.mono (mW (hw.vs H66 (by simp))) h,P0.imp λb o x h=>aP.mono (mW (hw.vs Zo (by simp))) h⟩) ?_);refine WL.wk ?_ (Gt 5 O O O);exact λ_ h=>Ws.bB (h) (λ_ hm=>List.mem_append_right [_,_] hm)
 refine V0 (Ya O) (Ln (Et (aw ?_)));refine R1 O O λw' hw=>?_;exact ⟨O,hw.fr⟩
theorem atU (l:List aG):((l.length+1:Nat):Int)=cw l 0:=by simp [cw,t_]
theorem atV:Enters Tryz.prog 19:=enters_of Tryz.func19 (by kernel_rfl) rfl
theorem ac1:Enters Tryz.prog 23:=enters_of Tryz.func23 (by kernel_rfl) rfl
def xf (ns:List (List UInt8)) (s:List UInt8):Int:=match idxOf s ns 0 with | some k=>(k:Int) | none=>-1
theorem atW {ns:List (List UInt8)} {s:List UInt8} {i:Nat} (h:ns[i]? = some s) (hn:s ∉ ns.take i):xf ns s=(i:Int):=by unfold xf; rw [Wn h hn]; simp
theorem atX {ns:List (List UInt8)} {s:List UInt8} (h:s ∉ ns):xf ns s = -1:=by unfold xf; rw [zy.2 h]
theorem atY (ns:List (List UInt8)) (s:List UInt8):decide (xf ns s<0) = !((idxOf s ns 0).isSome):=by
 unfold xf
 cases idxOf s ns 0 with
 | none=>rfl
 | some k=>show decide ((k:Int)<0)=false; exact decide_eq_false (by omega)
theorem atZ {ns:List (List UInt8)} {s:List UInt8} (h:(idxOf s ns 0).isSome=true):xf ns s=((qw ns s:Nat):Int):=by
 unfold xf qw
 cases hi:idxOf s ns 0 with
 | none=>rw [hi] at h; cases h
 | some k=>rfl
theorem ac8 (l:List aG) (n:Nat):cL (l.take n)=(cL l).take n:=by unfold cL; rw [List.map_take]
theorem at2 {l:List aG} {n:Nat} {o:aG} {k:Nat} {s:List UInt8} (h:o.ae[k]? = some s):dq l n o ((k+1:Nat):Int)=qw ((cL l).take n) s:=by
 unfold dq pk;rw [Int.toNat_natCast,List.getElem?_cons_succ,List.getElem?_map,h]
 rfl
theorem at3 (n:Nat):(!(within (n:Int) 1 4))=(decide (n<1\/4<n)):=by
 rw [Bool.eq_iff_iff];simp [within];omega
theorem ac9:Enters Tryz.prog 60:=enters_of Tryz.func60 (by kernel_rfl) rfl
theorem ac':Enters Tryz.prog 59:=enters_of Tryz.func59 (by kernel_rfl) rfl
theorem ac_ (H:View) (a:Option Addr) (c:Nat) (l:List aG) (s:List UInt8) (w:World) (hH:Le H w) (hm:Sl oT 7 H a c l) :
   Calls Tryz.prog 60 #[.slice a l.length c,st s] w λe w'=>e = .returned (.int .i64 (xf (cL l) s))/\Ext w w':=by
 have dN:=hm.cap;have ek:=hm.max;refine enter Tryz.func60 O 20 O O ?_;refine CE (Vs:=[H]) (Ws.init (by simp [hH])) (Cs (Cr (V0 (Ya O) (Ln (Et (Cs (Cs (Cr (V0 (Ya O) (Ln (Et (Cb ?_))))))))))));refine CW (ι:=Nat) (λi=>[(5,.int .i64 (i:Int))]) [(0,_),(1,_)] (λi=>i<=l.length/\s ∉ (cL l).take i) (λi=>l.length-i) 0 ⟨Nat.zero_le _,by simp⟩ (sc O (sc O (sc O sn))) ?_;intro i ⟨hi,dW⟩;refine Cs (Cs (Cr (V0 (Ym O) (V0 (Ym O) (V0 (Yn dK O) (V0 (a_ O O) (Ln (Et ?_))))))));refine Cc O (λad=>?_) (λad=>?_)
 ·have av:i<l.length:=by simpa using ad
  obtain ⟨o,bA⟩:∃q,l[i]? = some q:=⟨_,List.getElem?_eq_getElem av⟩;obtain ⟨qX,qY,fH,jN⟩:=hm.aO i o bA;obtain ⟨qo,fI,bk⟩:=jN;have jv:=List.mem_of_getElem? bA;have sY:=bk.ae.cap;have sZ:=bk.ae.max;have s0:=bk.fix.cap;have s5:=bk.fix.max;have s7:=bk.code.cap;have s9:=bk.code.max;have Ia:=JG bA;refine Ck (Et (Cs (Cb (Cs (Cr (V0 (Ym O) (V0 (Ym O) (V0 (Yo dK O O fH av) (V0 (Yf Bb O) (V0 (bL 0 cO O O (fI 0 _ O)) (V0 (Ym O) (V0 (yW O O) ?_))))))))))));refine Ln (Et ?_);refine Cc O (λaq=>?_) (λaq=>?_)
  ·have he:o.nm=s:=by simpa using aq
   subst he;refine Cs (Cr (V0 (Ym O) (V0 (Ya O) (Ln (Et (aw (bt (Er (Er (bt (Er ?_)))))))))));refine R1 O O λw' hw=>?_;exact ⟨by rw [atW Ia dW],hw.fr⟩
  have dB:¬o.nm=s:=by simpa using aq
  refine Ck (Eb (Et (Cr (V0 (Ym O) (V0 (Yi O O O (by omega)) (V0 (Ya O) (Ln ?_)))))));exact Ea (i+1) (by omega) ⟨by omega,by rw [List.take_add_one,Ia]; simp; exact ⟨dW,λe=>dB e.symm⟩⟩ (sc O (sc O (sc O sn))) (λ_ h=>h)
 have cC:l.length<=i:=by simp at ad; omega
 rw [List.take_of_length_le (by rw [vL]; exact cC)] at dW;refine Ce (Ex (Ex (bK (Et (Cs (Cr (V0 (Ya O) (Ln (Et (aw ?_))))))))));refine R1 O O λw' hw=>?_;exact ⟨by rw [atX dW],hw.fr⟩
theorem ada (H:View) (a:Option Addr) (c:Nat) (l:List aG) (n:Nat) (o:aG) (m:Int) (w:World) (hH:Le H w) (hm:Sl oT 7 H a c l) (bA:l[n]? = some o) (hk:qv ((cL l).take n) o=true) (h0:0<=m) (h1:m<=(o.ae.length:Int)) :
   Calls Tryz.prog 59 #[.slice a l.length c,.int .i64 (n:Int),.int .i64 m] w λe w'=>e = .returned (.int .i64 ((dq l n o m:Nat):Int))/\Ext w w':=by
 have dN:=hm.cap;have ek:=hm.max;have av:=(List.getElem?_eq_some_iff.1 bA).1;obtain ⟨qX,qY,fH,qo,fI,bk⟩:=hm.aO n o bA;have mM:=bk.ae.cap;have hmu:=bk.ae.max
 have AS:(l.take n).length=n:=by rw [List.length_take]; omega
 refine enter Tryz.func59 O 23 O O ?_;refine CE (Vs:=[H]) (Ws.init (by simp [hH])) (Cs (Cr (V0 (Ya O) (Ln (Et (Cs (Cs (Cr (V0 (Ym O) (V0 (aF O O) (Ln (Et ?_))))))))))));refine Cc O (λad=>?_) (λad=>?_)
 ·have hz:m=0:=by simpa using ad
  subst hz;refine Cs (Cr (V0 (Ym O) (V0 (Ya O) (Ln (Et (aw (Er ?_)))))));refine R1 O O λw' hw=>?_;exact ⟨O,hw.fr⟩
 have hz:¬m=0:=by simpa using ad
 obtain ⟨k,hkm⟩:∃k:Nat,m=((k+1:Nat):Int):=⟨m.toNat-1,by omega⟩;subst hkm
 have Mr:k<o.ae.length:=by omega
 obtain ⟨s,fy⟩:∃s,o.ae[k]? = some s:=⟨_,List.getElem?_eq_getElem Mr⟩;obtain ⟨pH,pos,has,gK⟩:=bk.ae.aO k s fy;have gK:aP H pH (pos+k*1) (dJ s):=gK;have hsk:=List.all_eq_true.1 hk s (List.mem_of_getElem? fy);refine Ck (Et (Cs ?_));refine WC.nU [(0,true),(1,true),(2,true),(3,true),(4,true),(5,true),(6,true),(7,true),(8,true),(9,true),(10,true),(11,true),(12,false),(13,true)] mixed (by kernel_rfl) (λ_ _ _ d _ h=>by cases d<;>exact h) ?_;refine D0 O (λ_ h=>h) (Ym O) (D0 O (λ_ h=>h) (Ym O) (D0 O (λ_ h=>h) (Wl n dK O O O (by omega)) (D0 O (λ_ h=>h) (Ym O) (D0 O (λ_ h=>h) (Ym O) (D0 O (λ_ h=>h) (Yo dK O O fH av) (D0 O (λ_ h=>h) (Yf sT O) (D0 O (λ_ h=>h) (bL 0 eH O O (fI 1 _ O)) ?_)))))));refine D0 O (λ_ h=>h) (Ym O) (D0 O (λ_ h=>h) (nW ((k:Nat):Int) O O (by omega) (by omega)) (D0 O (λ_ h=>h) (Yo dA O O has Mr) (D0 O (λ_ h=>h) (bL 0 cO O O (gK 0 _ O)) ?_)));refine De O (λ_ h=>h) ?_
 refine Lp Y O ac9 O (λw hw=>by
       have h9:=ac_ H a c (l.take n) s w (hw.vs _ (by simp)) (hm.take n);rw [AS,ac8,atZ hsk,<-at2 (l:=l) (n:=n) fy] at h9
       exact h9) ?_
 refine Ln (Ed (D0 O (λ_ h=>h) (Ya O) ?_));refine WD.nil (λ_ h=>h) ?_;refine Et (aw ?_);refine R1 O O λw' hw=>?_;exact ⟨O,hw.fr⟩
theorem adb (H:View) (a:Option Addr) (c:Nat) (l:List aG) (w:World) (hH:Le H w) (hm:Sl oT 7 H a c l) :
   Calls Tryz.prog 21 #[.slice a l.length c] w λe w'=>e = .returned (.int .i64 (eI l))/\Ext w w':=by
 have dN:=hm.cap;have ek:=hm.max;refine enter Tryz.func21 O 118 O O ?_;refine CE (Vs:=[H]) (Ws.init (by simp [hH])) (Cs (Cr (V0 (Ya O) (Ln (Et (Cs (Cs (Cr (V0 (Ym O) (V0 (Yn dK O) (Lp Y O sr O (λw hw=>ss _ _ _ w) (V0 (dw O) ?_))))))))))));refine Ln (Et ?_);rw [at3];refine Cc O (λad=>?_) (λad=>?_)
 ·have h4:l.length<1\/4<l.length:=of_decide_eq_true ad;have hE:=OS h4;refine Cs (Cr (V0 (Ya O) (Ln (Et (aw (Er ?_))))));refine R1 O O λw' hw=>?_;exact ⟨by rw [hE],hw.fr⟩
 have h4:¬(l.length<1\/4<l.length):=of_decide_eq_false ad;refine Ck (Et (Cs (Cr (V0 (Ya O) (Ln (Et (Cs (Cs ?_))))))));refine nP (λ_ h=>h.fj 9 1) ?_;refine Cr (V0 (Ya O) (Ln (Et (Cb ?_))));refine ct (ι:=Nat×SP) (λg=>[(4,.int .i64 (g.1:Int)),(3,.slice g.2.1 ((cL l).take g.1).length g.2.2)]) [(0,_)] (λg=>Ws w [] [bj 9 1 dJ g.2.1 g.2.2 ((cL l).take g.1)] [H]) (λg=>g.1<=l.length/\∀o ∈ l.take g.1,fK o=0) (λg=>l.length-g.1) (0,(none,0)) ⟨Nat.zero_le _,by simp⟩ (sc O (sc O (sc O sn))) (λ_ h=>h) ?_;intro g ⟨cD,bN⟩;refine Cs (Cs (Cr (V0 (Ym O) (V0 (Ym O) (V0 (Yn dK O) (V0 (a_ O O) (Ln (Et ?_))))))));refine Cc O (λaq=>?_) (λaq=>?_)
 ·have av:g.1<l.length:=by simpa using aq
  obtain ⟨o,bA⟩:∃q,l[g.1]? = some q:=⟨_,List.getElem?_eq_getElem av⟩;obtain ⟨qX,qY,fH,jN⟩:=hm.aO g.1 o bA;obtain ⟨qo,fI,bk⟩:=jN;have jv:=List.mem_of_getElem? bA;have sY:=bk.ae.cap;have sZ:=bk.ae.max;have s0:=bk.fix.cap;have s5:=bk.fix.max;have s7:=bk.code.cap;have s9:=bk.code.max
  have SB:((cL l).take g.1).length=g.1:=by rw [List.length_take,vL]; omega
  refine Ck (Et (Cs (Cb (Cs (Cs (Cr (V0 (Ym O) (V0 (Ym O) (V0 (Yo dK O O fH av) (V0 (cF 0 oS O O O (fI)) (Lp Y O ark O (λw hw=>arc H o qo w (hw.vs _ (by simp)) bk) (V0 (Ya O) ?_))))))))))));refine Ln (Et (Cs (Cr (V0 (Ym O) (V0 (i' O O) (Ln (Et ?_)))))));refine Cc O (λay=>?_) (λay=>?_)
  ·have jQ:¬fK o=0:=by simpa using ay
   have hE:=W0 h4 bA bN jQ;refine Cs (Cr (V0 (Ym O) (V0 (Ya O) (Ln (Et (aw (Er (bt (Er (Er (bt (Er ?_))))))))))));refine R1 O O λw' hw=>?_;exact ⟨by rw [hE],hw.fr⟩
  have jQ:fK o=0:=by simpa using ay
  refine Ck (Et (Cr (V0 (Ym O) (V0 (Ym O) (V0 (Ym O) (V0 (Yo dK O O fH av) (V0 (Yf Bb O) (V0 (bL 0 cO O O (fI 0 _ O)) ?_))))))));refine Lb Y O dm O O O O λZV=>?_;refine bI 0 (.cells (dJ o.nm).toArray 9 (0,0)) O (O) ?_;refine LA (o.nm) 1 0 Y O dm O O O O O O (by omega) (by omega) λHW HX=>?_;rw [show (cL l).take g.1++[o.nm]=(cL l).take (g.1+1) by rw [List.take_add_one,JG bA]; rfl];refine V0 (Ya O) (Ln (Eb (Et (Cr (V0 (Ym O) (V0 (Yi O O O (by omega)) (V0 (Ya O) (Ln ?_))))))));exact Ea ((g.1+1,(HW,HX)):Nat×SP) (by show _-(g.1+1)<_; omega) ⟨(by show g.1+1<=_; omega),Cz bA bN jQ⟩ (sc O (sc O (sc O sn))) (λ_ h=>Wd 1 h)
 have H3:g.1=l.length:=by simp at aq; omega
 rw [H3,List.take_length] at bN;rw [H3,show (cL l).take l.length=cL l from List.take_of_length_le (by rw [vL]; exact Nat.le_refl _)];refine Ce (Ex (Ex (bK (Et (Cs (Cs (Cr (V0 (Ym O) (Lp Y O aci O (λw hw=>aax (hv w) g.2.1 g.2.2 (cL l) w (ix w) (hw.EM 0 O lK (λ_ _ _ _ h=>h))) (Ln (Et ?_)))))))))));refine Cc O (λaJ=>?_) (λaJ=>?_)
 ·have hE:eI l=6:=by rw [CB h4 bN,if_pos aJ]
  refine Cs (Cr (V0 (Ya O) (Ln (Et (aw (Er ?_))))));refine R1 O O λw' hw=>?_;exact ⟨by rw [hE],hw.fr⟩
 have oe:=CB h4 bN;rw [aJ,if_neg (by decide)] at oe;refine Ck (Et (Cs (Cs (Cr (V0 (Ya O) (Ln (Et (Cb ?_))))))));refine ct (ι:=Nat) (λj=>[(6,.int .i64 (j:Int))]) [(0,_)] (λj=>Ws w [] [] [H]) (λj=>j<=l.length/\∀n o,n<j->l[n]? = some o->qv ((cL l).take n) o=true) (λj=>l.length-j) 0 ⟨Nat.zero_le _,λn o h=>absurd h (Nat.not_lt_zero _)⟩ (sc O (sc O sn)) (λ_ h=>by have h:=Ws.bM (L:=[]) h; exact h) ?_;intro j ⟨hj,H9⟩;refine Cs (Cs (Cr (V0 (Ym O) (V0 (Ym O) (V0 (Yn dK O) (V0 (a_ O O) (Ln (Et ?_))))))));refine Cc O (λaU=>?_) (λaU=>?_)
 ·have iX:j<l.length:=by simpa using aU
  obtain ⟨o,bA⟩:∃q,l[j]? = some q:=⟨_,List.getElem?_eq_getElem iX⟩;obtain ⟨qX,qY,fH,qo,fI,bk⟩:=hm.aO j o bA;have jv:=List.mem_of_getElem? bA;have sY:=bk.ae.cap;have sZ:=bk.ae.max;have s0:=bk.fix.cap;have s5:=bk.fix.max;have s7:=bk.code.cap;have s9:=bk.code.max
  have AS:(l.take j).length=j:=by rw [List.length_take]; omega
  refine Ck (Et (Cs (Cb (Cs (Cr (V0 (Ya O) (Ln (Et (Cb ?_)))))))));refine CW (ι:=Nat) (λk=>[(7,.int .i64 (k:Int))]) [(0,_),(6,_)] (λk=>k<=o.ae.length/\((o.ae.take k).all λs=>(idxOf s ((cL l).take j) 0).isSome)=true) (λk=>o.ae.length-k) 0 ⟨Nat.zero_le _,O⟩ (sc O (sc O (sc O sn))) ?_;intro k ⟨hk,ec⟩;refine Cs (Cs (Cr (V0 (Ym O) (V0 (Ym O) (V0 (Ym O) (V0 (Yo dK O O fH iX) (V0 (Yf sT O) (V0 (bL 0 eH O O (fI 1 _ O)) (V0 (Yn dA O) ?_)))))))));refine V0 (a_ O O) (Ln (Et ?_));refine Cc O (λbd=>?_) (λbd=>?_)
  ·have av:k<o.ae.length:=by simpa using bd
   obtain ⟨s,fy⟩:∃q,o.ae[k]? = some q:=⟨_,List.getElem?_eq_getElem av⟩;obtain ⟨pH,pos,has,gK⟩:=bk.ae.aO k s fy;have gK:aP H pH (pos+k*1) (dJ s):=gK;refine Ck (Et (Cs (Cb (Cs ?_))));refine WC.nU [(0,true),(1,true),(2,true),(3,true),(4,true),(5,true),(6,true),(7,true),(8,true),(9,true),(10,true),(11,false),(12,true)] mixed (by kernel_rfl) (λ_ _ _ d _ h=>by cases d<;>exact h) ?_;refine D0 O (λ_ h=>h) (Ym O) (D0 O (λ_ h=>h) (Ym O) (D0 O (λ_ h=>h) (Wl j dK O O O (by omega)) (D0 O (λ_ h=>h) (Ym O) (D0 O (λ_ h=>h) (Ym O) (D0 O (λ_ h=>h) (Yo dK O O fH iX) (D0 O (λ_ h=>h) (Yf sT O) (D0 O (λ_ h=>h) (bL 0 eH O O (fI 1 _ O)) ?_)))))));refine D0 O (λ_ h=>h) (Ym O) (D0 O (λ_ h=>h) (Yo dA O O has av) (D0 O (λ_ h=>h) (bL 0 cO O O (gK 0 _ O)) ?_));refine De O (λ_ h=>h) ?_
   refine Lp Y O ac9 O (λw hw=>by
         have h9:=ac_ H a c (l.take j) s w (hw.vs _ (by simp)) (hm.take j);rw [AS,ac8] at h9
         exact h9) ?_
   refine Ln (Ed (D0 O (λ_ h=>h) (a_ O O) ?_));refine WD.nil (λ_ h=>h) ?_;refine Et ?_;rw [atY];refine Cc O (λbh=>?_) (λbh=>?_)
   ·have dW:(idxOf s ((cL l).take j) 0).isSome=false:=by simpa using bh
    have hE:eI l=9:=by
      rw [oe,if_pos (Ft bA ?_)];rw [Bool.not_eq_true',qv,List.all_eq_false];exact ⟨s,List.mem_of_getElem? fy,by rw [dW]; decide⟩
    refine Cs (Cr (V0 (Ya O) (Ln (Et (aw (bt (Er (Er (bt (bt (Er (Er (bt (Er ?_))))))))))))));refine R1 O O λw' hw=>?_;exact ⟨by rw [hE],hw.fr⟩
   have Aa:(idxOf s ((cL l).take j) 0).isSome=true:=by simpa using bh
   refine Ck (Eb (Et (Cr (V0 (Ym O) (V0 (Yi O O O (by omega)) (V0 (Ya O) (Ln ?_)))))));exact Ea (k+1) (by omega) ⟨by omega,zA fy ec Aa⟩ (sc O (sc O (sc O sn))) (λ_ h=>h)
  have J5:k=o.ae.length:=by simp at bd; omega
  rw [J5,List.take_length] at ec;refine Ce (Ex (Ex (bK (Eb (Et (Cr (V0 (Ym O) (V0 (Yi O O O (by omega)) (V0 (Ya O) (Ln ?_))))))))))
  exact Ea (j+1) (by omega) ⟨by omega,λn o9 hn h9=>by
      rcases Nat.lt_succ_iff_lt_or_eq.1 hn with h | h
      · exact H9 n o9 h h9
      · subst h; rw [bA] at h9; injection h9 with h9; subst h9; exact ec⟩ (sc rfl (sc rfl sn)) (λ_ h=>h)
 have DS:j=l.length:=by simp at aU; omega
 have DU:∀n o,l[n]? = some o->qv ((cL l).take n) o=true:=λn o hn=>H9 n o (by have:=(List.getElem?_eq_some_iff.1 hn).1; omega) hn;rw [CA (λn o hn=>by rw [DU n o hn]; rfl),if_neg (by decide)] at oe;refine Ce (Ex (Ex (bK (Et (Cs (Cs (Cr (V0 (Ya O) (Ln (Et (Cb ?_)))))))))));refine ct (ι:=Nat) (λj=>[(8,.int .i64 (j:Int))]) [(0,_)] (λj=>Ws w [] [] [H]) (λj=>j<=l.length/\∀n o,n<j->l[n]? = some o->∀f ∈ o.fix,mw l n o f=false) (λj=>l.length-j) 0 ⟨Nat.zero_le _,λn o h=>absurd h (Nat.not_lt_zero _)⟩ (sc O (sc O sn)) (λ_ h=>h) ?_;intro j ⟨hj,kg⟩;refine Cs (Cs (Cr (V0 (Ym O) (V0 (Ym O) (V0 (Yn dK O) (V0 (a_ O O) (Ln (Et ?_))))))));refine Cc O (λbH=>?_) (λbH=>?_)
 ·have iX:j<l.length:=by simpa using bH
  obtain ⟨o,bA⟩:∃q,l[j]? = some q:=⟨_,List.getElem?_eq_getElem iX⟩;obtain ⟨qX,qY,fH,qo,fI,bk⟩:=hm.aO j o bA;have jv:=List.mem_of_getElem? bA;have sY:=bk.ae.cap;have sZ:=bk.ae.max;have s0:=bk.fix.cap;have s5:=bk.fix.max;have s7:=bk.code.cap;have s9:=bk.code.max;have jQ:=bN o jv;have aA:=(t' jQ).2;have oR:=vJ jQ;have H_:=oR.code;refine Ck (Et (Cs (Cb (Cs (Cr (V0 (Ya O) (Ln (Et (Cb ?_)))))))));refine ct (ι:=Nat) (λk=>[(9,.int .i64 (k:Int))]) [(0,_),(8,_)] (λk=>Ws w [] [] [H]) (λk=>k<=o.fix.length/\∀f ∈ o.fix.take k,mw l j o f=false) (λk=>o.fix.length-k) 0 ⟨Nat.zero_le _,by simp⟩ (sc O (sc O (sc O sn))) (λ_ h=>h) ?_;intro k ⟨hk,Bk⟩;refine Cs (Cs (Cr (V0 (Ym O) (V0 (Ym O) (V0 (Ym O) (V0 (Yo dK O O fH iX) (V0 (Yf qS O) (V0 (bL 0 sQ O O (fI 4 _ O)) (V0 (Yn pN O) ?_)))))))));refine V0 (a_ O O) (Ln (Et ?_));refine Cc O (λcz=>?_) (λcz=>?_)
  ·have av:k<o.fix.length:=by simpa using cz
   obtain ⟨x,bu⟩:∃q,o.fix[k]? = some q:=⟨_,List.getElem?_eq_getElem av⟩;obtain ⟨e9,e_,ft,cS⟩:=bk.fix.aO k x bu;have cS:aP H e9 (e_+k*3) x.cells:=cS;refine Ck (Et (Cs (Cb (Cs (Cr (V0 (Ym O) (V0 (Ym O) (V0 (Yo dK O O fH iX) (V0 (Yf qS O) (V0 (bL 0 sQ O O (fI 4 _ O)) (V0 (Ym O) (V0 (Yo pN O O ft av) ?_))))))))))));refine V0 (cF 0 DO O O O (cS)) ?_;refine Al Y O A0 λjq=>?_;refine ak 0 Y O O O DP O O O (Ln (Et (Cs (eY 0 (.cells (x.cells).toArray 70 (0,0)) O O ?_))));refine WC.nU [(0,true),(1,true),(2,true),(3,true),(4,true),(5,true),(6,true),(7,true),(8,true),(9,true),(10,true),(11,true),(12,true),(13,true),(14,true),(15,true),(16,true),(17,true),(18,true),(19,false),(20,true),(21,true),(22,true),(23,true),(24,true),(25,true)] mixed (by kernel_rfl) (λ_ _ _ d _ h=>by cases d<;>exact h) ?_;refine D0 O (λ_ h=>h) (Yf Bg O) (D0 O (λ_ h=>h) (Yd 0 O O O aj) (D0 O (λ_ h=>h) (aF O O) (D0 O (λ_ h=>h) (Ym O) ?_)));apply WD.and 21 (x:=decide ((sj l (dq l j o x.m):Int)<=iD o.code x.at_)) O O O O O Y O (λ_ h=>h) O O O O
   ·intro cD
    have d_:x.kind=2:=by simpa using cD
    have lE:=aA.fix x (List.mem_of_getElem? bu);obtain ⟨p,Bh,kf⟩:=nr lE.1
    have gY:x.at_.toNat=p:=by omega
    obtain ⟨y,bx⟩:∃y,o.code[p]? = some y:=⟨_,List.getElem?_eq_getElem kf⟩;obtain ⟨gq,gu,eG,ck⟩:=bk.code.aO p y bx;have ck:aP H gq (gu+p*3) y.cells:=ck;rw [<-gY] at ck;have l6:=DR gY bx
    have Bi:vc H gq (gu+x.at_.toNat*3+1)=some (.int .i64 (iD o.code x.at_)):=by
      rw [l6];exact ck 1 _ O
    obtain ⟨yK,Ic,wQ,wR⟩:=acv lE.2 d_;obtain ⟨Ie,s_⟩:=JI iX (DU j o bA) wQ wR;obtain ⟨o2,lC⟩:∃o2,l[dq l j o x.m]? = some o2:=⟨_,List.getElem?_eq_getElem s_⟩;obtain ⟨SJ,SK,lI,q2,sz,wT⟩:=hm.aO _ o2 lC
    have sX:sj l (dq l j o x.m)=o2.bY.length:=by unfold sj; rw [lC]; rfl
    refine Dq O (.g O O O) O (λ_ h=>h) (Ym O) (Dq O (.g O O O) O (λ_ h=>h) (Ym O) (Dq O (.g O O O) O (λ_ h=>h) (Yo dK O O fH iX) (Dq O (.g O O O) O (λ_ h=>h) (Yf iG O) (Dq O (.g O O O) O (λ_ h=>h) (bL 0 ep O O (fI 3 _ O)) (Dq O (.g O O O) O (λ_ h=>h) (Yf mN O) (Dq O (.g O O O) O (λ_ h=>h) (Yd 0 O O O aj) (Dq O (.g O O O) O (λ_ h=>h) (nR et O O eG (by omega) (by omega)) ?_)))))));refine Dq O (.g O O O) O (λ_ h=>h) (Yf iV O) (Dq O (.g O O O) O (λ_ h=>h) (bL 0 aj O O (Bi)) (Dq O (.g O O O) O (λ_ h=>h) (Ym O) (Dq O (.g O O O) O (λ_ h=>h) (Ym O) (Dq O (.g O O O) O (λ_ h=>h) (Ym O) (Dq O (.g O O O) O (λ_ h=>h) (Yf sV O) (Dq O (.g O O O) O (λ_ h=>h) (Yd 0 O O O aj) ?_))))));refine De O (λ_ h=>h) ?_;refine Lp (.g O O O) O ac' O (λw hw=>ada H a c l j o x.m w (hw.vs _ (by simp)) hm bA (DU j o bA) wQ wR) (Ln (Ed (Dq O (.g O O O) O (λ_ h=>h) (Yo dK O O lI s_) (Dq O (.g O O O) O (λ_ h=>h) (Yf pM O) (Dq O (.g O O O) O (λ_ h=>h) (bL 0 dt O O (sz 5 _ O)) (Dq O (.g O O O) O (λ_ h=>h) (Yn du O) ?_))))));rw [<-sX];refine Dq O (.g O O O) O (λ_ h=>h) (eK O O) ?_;exact Gi 21 (λ_ h=>h) O O O
   refine WD.nil (λ_ h=>h) ?_;refine Et ?_;refine Cc O (λcR=>?_) (λcR=>?_)
   ·have uq:mw l j o x=true:=cR
    have hE:eI l=5:=by
      rw [oe,if_pos (Ft (p:=λn o=>o.fix.any (mw l n o)) bA ?_)];rw [List.any_eq_true];exact ⟨x,List.mem_of_getElem? bu,uq⟩
    refine Cs (Cr (V0 (Ya O) (Ln (Et (aw (bt (Er (Er (bt (bt (Er (Er (bt (Er ?_))))))))))))));refine R1 O O λw' hw=>?_;exact ⟨by rw [hE],hw.fr⟩
   have uq:mw l j o x=false:=cR;refine Ck (Eb (Et (Cr (V0 (Ym O) (V0 (Yi O O O (by omega)) (V0 (Ya O) (Ln ?_)))))));exact Ea (k+1) (by omega) ⟨by omega,Cz bu Bk uq⟩ (sc O (sc O (sc O sn))) (λ_ h=>Wd 1 h)
  have HY:k=o.fix.length:=by simp at cz; omega
  rw [HY,List.take_length] at Bk;refine Ce (Ex (Ex (bK (Eb (Et (Cr (V0 (Ym O) (V0 (Yi O O O (by omega)) (V0 (Ya O) (Ln ?_))))))))))
  exact Ea (j+1) (by omega) ⟨by omega,λn o9 hn h9=>by
      rcases Nat.lt_succ_iff_lt_or_eq.1 hn with h | h
      · exact kg n o9 h h9
      · subst h; rw [bA] at h9; injection h9 with h9; subst h9; exact Bk⟩ (sc rfl (sc rfl sn)) (λ_ h=>h)
 have arN:j=l.length:=by simp at bH; omega
 have hE:eI l=0:=by
   rw [oe,CA (λn o hn=>?_),if_neg (by decide)];rw [List.any_eq_false];intro f hf;rw [kg n o (by have:=(List.getElem?_eq_some_iff.1 hn).1; omega) hn f hf]
   decide
 refine Ce (Ex (Ex (bK (Et (Cs (Cr (V0 (Ya O) (Ln (Et (aw ?_))))))))));refine R1 O O λw' hw=>?_;exact ⟨by rw [hE],hw.fr⟩
def xg (l:List aG) (n:Nat):List Int:=(List.range n).map (cw l)
def xh (l:List aG) (n:Nat):List Int:=(List.range n).map (dP l)
theorem at6 (l:List aG) (n:Nat):xg l (n+1)=xg l n++[cw l n]:=by unfold xg; rw [List.range_succ,List.map_append]; rfl
theorem at7 (l:List aG) (n:Nat):xh l (n+1)=xh l n++[dP l n]:=by unfold xh; rw [List.range_succ,List.map_append]; rfl
theorem ade (l:List aG) (n:Nat):(xg l n).length=n:=by simp [xg]
theorem adf (l:List aG) (n:Nat):(xh l n).length=n:=by simp [xh]
theorem TV {l:List aG} {n k:Nat} (h:k<n):(xg l n)[k]? = some (cw l k):=by unfold xg; rw [List.getElem?_map,List.getElem?_range h]; rfl
theorem aua {l:List aG} {n k:Nat} (h:k<n):(xh l n)[k]? = some (dP l k):=by unfold xh; rw [List.getElem?_map,List.getElem?_range h]; rfl
theorem adg:Enters Tryz.prog 21:=enters_of Tryz.func21 (by kernel_rfl) rfl
theorem aub:Enters Tryz.prog 18:=enters_of Tryz.func18 (by kernel_rfl) rfl
theorem auc:Enters Tryz.prog 22:=enters_of Tryz.func22 (by kernel_rfl) rfl
theorem aud (H:View) (a:Option Addr) (c:Nat) (l:List aG) (w:World) (hH:Le H w) (hm:Sl oT 7 H a c l) :
   Calls Tryz.prog 18 #[.slice a l.length c] w λe w'=>∃q:SP,e = .returned (.tuple #[.agg #[.slice q.1 (ej l).1.1.length q.2,.int .i64 (ej l).1.2],.int .i64 (ej l).2])/\Ext w w'/\Sl eB 3 (nv w w') q.1 q.2 (ej l).1.1:=by
 have dN:=hm.cap;have ek:=hm.max;refine enter Tryz.func18 O 178 O O ?_;refine CE (Vs:=[H]) (Ws.init (by simp [hH])) (Cs (Cr ?_));refine Al Y O oU λb2=>?_;refine V0 (Ya O) (Ln (Et (Cs (Cs (Cr (V0 (Ym O) (Lp Y O adg O (λw hw=>adb H a c l w (hw.vs _ (by simp)) hm) (V0 (Ya O) (Ln (Et (Cs (Cr (V0 (Ym O) (V0 (i' O O) ?_))))))))))))));refine Ln (Et ?_);refine Cc O (λad=>?_) (λad=>?_)
 ·have hE:¬eI l=0:=by simpa using ad
  refine Cs (Cr (V0 (Yb oU DV O O) (V0 (Ym O) (ak 0 Y O O O qZ O O O (V0 (Ya O) (Ln (Et (aw (Er ?_)))))))));refine WE.dM (gf O (cU 0 O O pO O) (hY O)) λw' hw=>?_;rw [SN hE];exact ⟨(none,0),O,hw.fr,Sl.nil⟩
 have hE:eI l=0:=by simpa using ad
 have aA:=W1.1 hE;have MH:=aA.ef;refine Ck (Et (Cs (Cr (V0 (Ya O) (V0 (Ya O) (Ln (Et (Cs (Cr (V0 (Ym O) (V0 (Yn dK O) (V0 (Yi O O O (by omega)) (V0 (Ya O) ?_)))))))))))));refine V0 (Ya O) (Ln (Et (Cs (Cs ?_))));refine nP (λ_ h=>h.fj 3 1) ?_;refine nP (λ_ h=>h.fj 3 1) ?_;rw [atU];refine Cr (V0 (Ya O) (Ln (Et (Cb ?_))));refine ct (ι:=Nat×SP×SP) (λg=>[(9,.int .i64 (g.1:Int)),(5,.slice g.2.1.1 (xg l g.1).length g.2.1.2),(6,.slice g.2.2.1 (xh l g.1).length g.2.2.2),(7,.int .i64 (cw l g.1)),(8,.int .i64 (dP l g.1))]) [(0,_),(2,_),(3,_)] (λg=>Ws w [] [bj 3 1 im g.2.1.1 g.2.1.2 (xg l g.1),bj 3 1 im g.2.2.1 g.2.2.2 (xh l g.1),ab b2 (.cells #[.slice none 0 0,.int .i64 0] 42 (0,0))] [H]) (λg=>g.1<=l.length) (λg=>l.length-g.1) (0,(none,0),(none,0)) (Nat.zero_le _) (sc O (sc O (sc O (sc O (sc O (sc O (sc O (sc O sn)))))))) (λ_ h=>h) ?_;intro g hg;refine Cs (Cs (Cr (V0 (Ym O) (V0 (Ym O) (V0 (Yn dK O) (V0 (a_ O O) (Ln (Et ?_))))))));refine Cc O (λaq=>?_) (λaq=>?_)
 ·have av:g.1<l.length:=by simpa using aq
  obtain ⟨o,bA⟩:∃q,l[g.1]? = some q:=⟨_,List.getElem?_eq_getElem av⟩;obtain ⟨qX,qY,fH,jN⟩:=hm.aO g.1 o bA;obtain ⟨qo,fI,bk⟩:=jN;have jv:=List.mem_of_getElem? bA;have sY:=bk.ae.cap;have sZ:=bk.ae.max;have s0:=bk.fix.cap;have s5:=bk.fix.max;have s7:=bk.code.cap;have s9:=bk.code.max;have vm:=Ig bA;have Ib:=xT aA.ef aA.iE (k:=g.1) (by omega);have MJ:=zH aA.ef aA.iE (k:=g.1) (by omega);have arE:=OU (aA.iE o jv);have H_:=(vJ (aA.iE o jv)).code;have kx:=ade l g.1;have hdl:=adf l g.1;refine Ck (Et (Cs (Cb (Cs (Cr (V0 (Ym O) (V0 (Ym O) ?_)))))));refine Lb Y O f_ O O O O λZV=>?_;refine bI 0 (.cells (im (cw l g.1)).toArray 3 (0,0)) O (O) ?_;refine LA (cw l g.1) 1 0 Y O f_ O O O O O O (by omega) (by omega) λHW HX=>?_;rw [<-at6];refine V0 (Ya O) (Ln (Et (Cs (Cr (V0 (Ym O) (V0 (Ym O) ?_))))));refine Lb Y O f_ O O O O λpU=>?_;refine bI 0 (.cells (im (dP l g.1)).toArray 3 (0,0)) O (O) ?_;refine LA (dP l g.1) 3 0 Y O f_ O O O O O O (by omega) (by omega) λa40 c40=>?_;rw [<-at7];refine V0 (Ya O) (Ln (Et (Cs (Cr (V0 (Ym O) (V0 (Ym O) (V0 (Ym O) (V0 (Yo dK O O fH av) (V0 (Yf iG O) (V0 (bL 0 ep O O (fI 3 _ O)) ?_))))))))));refine V0 (Yn et O) (V0 (jz O O (by omega)) ?_);rw [<-JH bA];refine V0 (Ya O) (Ln (Et (Cr (V0 (Ym O) (V0 (Ym O) (V0 (Ym O) (V0 (Yo dK O O fH av) (V0 (Yf HL O) (V0 (bL 0 aj O O (fI 2 _ O)) ?_)))))))));refine V0 (jz O O (by omega)) ?_;rw [<-W5 bA];refine V0 (Ya O) (Ln (Eb (Et (Cr (V0 (Ym O) (V0 (Yi O O O (by omega)) (V0 (Ya O) (Ln ?_))))))));exact Ea ((g.1+1,(HW,HX),(a40,c40)):Nat×SP×SP) (by show _-(g.1+1)<_; omega) (by show g.1+1<=_; omega) (sc O (sc O (sc O (sc O (sc O (sc O (sc O (sc O sn)))))))) (λ_ h=>Wd 2 h)
 have Sr:g.1=l.length:=by simp at aq; omega
 rw [Sr];refine Ce (Ex (Ex (bK (Et (Cs (Cs ?_))))));refine WC.p8 (rd:=iN) 0 O vA (λ_ _ _ _ h=>h) λHC Iz=>?_;refine WC.p8 (rd:=iN) 0 O vA (λ_ _ _ _ h=>h) λHD TW=>?_;refine Cr (V0 (Ym O) (V0 (bX O O) (V0 (Ym O) ?_)));apply Lo 2 O O O O Y O O O O O
 ·intro cD;refine Vg (Ym O) (Vg (bX O O) ?_);exact Gt 2 O O O
 refine Ln (Et ?_);refine Cc O (λay=>?_) (λay=>?_)
 ·have h2:2048<cw l l.length\/512<dP l l.length:=by
    have h9:=ay;simp only [Bool.or_eq_true,decide_eq_true_eq] at h9;exact h9
  refine Cs (Cr (V0 (Yb oU DV O O) (ak 0 Y O O O qZ O O O (V0 (Ya O) (Ln (Et (aw (Er ?_))))))));refine WE.dM (gf O (cU 0 O O pO O) (hY O)) λw' hw=>?_;rw [acA hE h2];exact ⟨(none,0),O,hw.fr,Sl.nil⟩
 have h2:¬(2048<cw l l.length\/512<dP l l.length):=by
   have h9:=ay;simp only [Bool.or_eq_false_iff,decide_eq_false_iff_not] at h9;exact λh=>h.elim h9.1 h9.2
 have axL:=Iz.cap;have axM:=Iz.max;have axN:=TW.cap;have axO:=TW.max;have kx:=ade l l.length;have hdl:=adf l l.length;refine Ck (Et (Cs (Cr (V0 (Ym O) (V0 (Yb oU DV O O) ?_)))));refine Al Y O oU λjq=>?_;refine ak 0 Y O O O qZ O O O (Ln (Et (Cs (Cs (eY 0 (.cells #[.slice none 0 0,.int .i64 (dP l l.length)] 42 (0,0)) O O ?_)))));refine nP (λ_ h=>h.fj 67 3) ?_;refine Cr (V0 (Ya O) (Ln (Et (Cb ?_))));refine ct (ι:=Nat×SP) (λg=>[(11,.int .i64 (g.1:Int))]) [(0,_),(2,_),(3,_),(5,_),(6,_),(10,_)] (λg=>Ws w [] [bj 67 3 aI.cells g.2.1 g.2.2 ((nt l).take g.1),ab jq (.cells #[.slice g.2.1 ((nt l).take g.1).length g.2.2,.int .i64 (dP l l.length)] 42 (0,0)),ab b2 (.cells #[.slice none 0 0,.int .i64 0] 42 (0,0))] [HD,HC,H]) (λg=>g.1<=l.length) (λg=>l.length-g.1) (0,(none,0)) (Nat.zero_le _) (sc O (sc O (sc O (sc O (sc O (sc O (sc O sn))))))) (λ_ h=>h) ?_;intro g hg;refine Cs (Cs (Cr (V0 (Ym O) (V0 (Ym O) (V0 (Yn dK O) (V0 (a_ O O) (Ln (Et ?_))))))));refine Cc O (λaJ=>?_) (λaJ=>?_)
 ·have av:g.1<l.length:=by simpa using aJ
  obtain ⟨o,bA⟩:∃q,l[g.1]? = some q:=⟨_,List.getElem?_eq_getElem av⟩;obtain ⟨qX,qY,fH,jN⟩:=hm.aO g.1 o bA;obtain ⟨qo,fI,bk⟩:=jN;have jv:=List.mem_of_getElem? bA;have sY:=bk.ae.cap;have sZ:=bk.ae.max;have s0:=bk.fix.cap;have s5:=bk.fix.max;have s7:=bk.code.cap;have s9:=bk.code.max;obtain ⟨TX,TY,TZ,Bz⟩:=Iz.aO g.1 _ (TV (show g.1<l.length by omega));have Bz:aP HC TX (TY+g.1*1) (im (cw l g.1)):=Bz;have Ib:=xT aA.ef aA.iE (k:=g.1) (by omega);have vm:=Ig bA;have Dz:=(t' (aA.iE o jv)).2.main;obtain ⟨pm,R0,arQ⟩:=nr Dz
  have SQ:((nt l).take g.1).length=g.1:=by rw [List.length_take,CH]; omega
  refine Ck (Et (Cs (Cb ?_)));refine CU (λ_=>true) [0] [15,16] (.q false 0 (.q true 1 (.q false 2 (.q false 3 (.q false 4 (.q true 5 (.q false 6 (.q false 7 (.q false 8 (.q false 9 (.q true 10 (.q false 11 (.q false 12 (.e 13 (.e 14 .nil .stop) .stop)))))))))))))) mixed (by kernel_rfl) (λ_ _ _ d _ _ h=>by cases d<;>exact h) ?_;refine U0 O (Wp 0) (Yf iY O) (U0 O (Wp 0) (Yd 0 O O O ep) (U0 O (Wp 0) (Ym O) (U0 O (Wp 0) (Ym O) (U0 O (Wp 0) (Yo du O O TZ (by omega)) (U0 O (Wp 0) (bL 1 aj O O (Bz 0 _ O)) (U0 O (Wp 0) (Ym O) (U0 O (Wp 0) (Ym O) ?_)))))));refine U0 O (Wp 0) (Yo dK O O fH av) (U0 O (Wp 0) (Yf DN O) (U0 O (Wp 0) (bL 2 aj O O (fI 6 _ O)) (U0 O (Wp 0) (jz O O (by omega)) (U0 O (Wp 0) (Yb fu ga O O) ?_))));refine Ue O (Wp 0) ?_ WU.stop;refine Lb Y O fG O O O O λb84=>?_;refine bI 0 (.cells (aI.cells ⟨13,cw l g.1+o.main,0⟩).toArray 67 (0,0)) O (O) (Ln (Eu ?_));refine Ue O (λ_ h=>(Wo 0 (Wd 1 h):)) ?_ WU.stop;refine LA ((⟨13,cw l g.1+o.main,0⟩:aI)) 1 0 Y O fG O O O O O O (by omega) (by omega) λa85 c85=>?_;rw [<-W9 bA];refine Ln (Eu ?_);refine WU.nil (λ_ h=>(Wo 0 (Wd 1 h):)) ?_;refine WS.e O ?_;refine V0 (Yf iY O) (Ln (Es ?_));refine WS.e O ?_;refine ak 2 Y O O O AZ O O O (Ln (Es ?_));refine WS.nil ?_;refine Eb (Et (Cr (V0 (Ym O) (V0 (Yi O O O (by omega)) (V0 (Ya O) (Ln ?_))))));exact Ea ((g.1+1,(a85,c85)):Nat×SP) (by show _-(g.1+1)<_; omega) (by show g.1+1<=_; omega) (sc O (sc O (sc O (sc O (sc O (sc O (sc O sn))))))) (λ_ h=>Wd 1 h)
 have uk:g.1=l.length:=by simp at aJ; omega
 rw [uk,acD];have SQ:=CH l;refine Ce (Ex (Ex (bK (Et (Cs (Cr (V0 (Yf iY O) (V0 (Yd 1 O O O ep) (V0 (Yb fu ga O O) ?_)))))))));refine Lb Y O fG O O O O λb90=>?_;refine bI 0 (.cells (aI.cells ⟨20,0,0⟩).toArray 67 (0,0)) O (O) ?_;refine LA ((⟨20,0,0⟩:aI)) 1 0 Y O fG O O O O O O (by omega) (by omega) λa91 c91=>?_;rw [acE];refine V0 (Yf iY O) (ak 2 Y O O O AZ O O O (Ln (Et (Cs (Cs (Cr (V0 (Ya O) (Ln (Et (Cb ?_))))))))));refine ct (ι:=Nat×SP) (λe=>[(12,.int .i64 (e.1:Int))]) [(0,_),(2,_),(3,_),(5,_),(6,_),(10,_)] (λe=>Ws w [] [bj 67 3 aI.cells e.2.1 e.2.2 (eO l e.1),ab jq (.cells #[.slice e.2.1 (eO l e.1).length e.2.2,.int .i64 (dP l l.length)] 42 (0,0)),ab b2 (.cells #[.slice none 0 0,.int .i64 0] 42 (0,0))] [HD,HC,H]) (λe=>e.1<=l.length) (λe=>l.length-e.1) (0,(a91,c91)) (Nat.zero_le _) (sc O (sc O (sc O (sc O (sc O (sc O (sc O sn))))))) (λ_ h=>(Wt 3 (((h.f 3 O).f 3 O).f 3 O):)) ?_;intro e he;refine Cs (Cs (Cr (V0 (Ym O) (V0 (Ym O) (V0 (Yn dK O) (V0 (a_ O O) (Ln (Et ?_))))))));refine Cc O (λaU=>?_) (λaU=>?_)
 ·have iX:e.1<l.length:=by simpa using aU
  obtain ⟨o,bA⟩:∃q,l[e.1]? = some q:=⟨_,List.getElem?_eq_getElem iX⟩;obtain ⟨qX,qY,fH,jN⟩:=hm.aO e.1 o bA;obtain ⟨qo,fI,bk⟩:=jN;have jv:=List.mem_of_getElem? bA;have sY:=bk.ae.cap;have sZ:=bk.ae.max;have s0:=bk.fix.cap;have s5:=bk.fix.max;have s7:=bk.code.cap;have s9:=bk.code.max;obtain ⟨TX,TY,TZ,Bz⟩:=Iz.aO e.1 _ (TV (show e.1<l.length by omega));have Bz:aP HC TX (TY+e.1*1) (im (cw l e.1)):=Bz;have Ib:=xT aA.ef aA.iE (k:=e.1) (by omega);have MJ:=zH aA.ef aA.iE (k:=e.1) (by omega);have vm:=Ig bA;have wO:=Xc (l:=l) (i:=e.1) (by omega);have Ih:=(t' (aA.iE o jv)).2;have oR:=vJ (aA.iE o jv);have H_:=oR.code;refine Ck (Et (Cs (Cb (Cs (Cr ?_)))));refine WL.IN Y O fG O O O λb99=>?_;refine WL.EB (size:=3) 0 O (Nat.le_refl 0) (Nat.zero_le _) O ?_;refine WL.EG 0 ([]:List aI).length (([]:List aI).flatMap aI.cells) O O O ?_;refine V0 (Ym O) (V0 (Ym O) (V0 (Yo dK O O fH iX) (V0 (Yf iG O) (V0 (bL 2 ep O O (fI 3 _ O)) ?_))));refine WL.tx (f:=aI.cells) (rd:=eB) (xs:=[]) (ys:=o.code) 0 (λ_=>H) Y O fG O O O (λw hw=>⟨hw.vs H (by simp),bk.code⟩) (λ_ _ _ _ h=>h) aI.aX aI.SM (by simp; omega) (by simp; omega) λa105 c105=>?_;refine V0 (Ya O) (Ln (Et (Cs (Cs (Cr (V0 (Ya O) (Ln (Et (Cb ?_)))))))));refine ct (ι:=Nat) (λk=>[(14,.int .i64 (k:Int)),(13,.slice a105 o.code.length c105)]) [(0,_),(2,_),(3,_),(5,_),(6,_),(10,_),(12,_)] (λk=>Ws w [] [bj 67 3 aI.cells a105 c105 (jD l e.1 o o.code (o.fix.take k)),bj 67 3 aI.cells e.2.1 e.2.2 (eO l e.1),ab jq (.cells #[.slice e.2.1 (eO l e.1).length e.2.2,.int .i64 (dP l l.length)] 42 (0,0)),ab b2 (.cells #[.slice none 0 0,.int .i64 0] 42 (0,0))] [HD,HC,H]) (λk=>k<=o.fix.length) (λk=>o.fix.length-k) 0 (Nat.zero_le _) (sc O (sc O (sc O (sc O (sc O (sc O (sc O (sc O (sc O sn))))))))) (λ_ h=>h) ?_;intro k hk;refine Cs (Cs (Cr (V0 (Ym O) (V0 (Ym O) (V0 (Ym O) (V0 (Yo dK O O fH iX) (V0 (Yf qS O) (V0 (bL 2 sQ O O (fI 4 _ O)) (V0 (Yn pN O) ?_)))))))));refine V0 (a_ O O) (Ln (Et ?_));refine Cc O (λbd=>?_) (λbd=>?_)
  ·have av:k<o.fix.length:=by simpa using bd
   obtain ⟨x,bu⟩:∃q,o.fix[k]? = some q:=⟨_,List.getElem?_eq_getElem av⟩;obtain ⟨e9,e_,ft,cS⟩:=bk.fix.aO k x bu;have cS:aP H e9 (e_+k*3) x.cells:=cS;have lE:=Ih.fix x (List.mem_of_getElem? bu);obtain ⟨arV,yK,Ic,wQ,wR⟩:=acC lE.2;obtain ⟨p,Bh,SU⟩:=nr lE.1
   have gY:x.at_.toNat=p:=by omega
   obtain ⟨y,bx⟩:∃y,o.code[p]? = some y:=⟨_,List.getElem?_eq_getElem SU⟩;have l6:=DR gY bx;rw [l6] at yK Ic
   have ra:(jD l e.1 o o.code (o.fix.take k))[p]? = some y:=by
     have h8:=W8 (l:=l) (n:=e.1) Ih bu;rw [gY] at h8;rw [h8,bx]
   obtain ⟨Ie,s_⟩:=JI iX (aA.known e.1 o bA) wQ wR;obtain ⟨o2,lC⟩:∃o2,l[dq l e.1 o x.m]? = some o2:=⟨_,List.getElem?_eq_getElem s_⟩;obtain ⟨SJ,SK,lI,q2,sz,wT⟩:=hm.aO _ o2 lC;obtain ⟨TS,TT,TU,By⟩:=Iz.aO (dq l e.1 o x.m) _ (TV (show (dq l e.1 o x.m)<l.length by omega));have By:aP HC TS (TT+(dq l e.1 o x.m)*1) (im (cw l (dq l e.1 o x.m))):=By;obtain ⟨auf,aug,auh,T0⟩:=TW.aO (dq l e.1 o x.m) _ (aua (show (dq l e.1 o x.m)<l.length by omega));have T0:aP HD auf (aug+(dq l e.1 o x.m)*1) (im (dP l (dq l e.1 o x.m))):=T0;have arY:=xT aA.ef aA.iE (k:=dq l e.1 o x.m) (by omega);have arZ:=zH aA.ef aA.iE (k:=dq l e.1 o x.m) (by omega);have hpn:(jD l e.1 o o.code (o.fix.take k)).length=o.code.length:=CF _ _ _ _ _;refine Ck (Et (Cs (Cb (Cs (Cr (V0 (Ym O) (V0 (Ym O) (V0 (Yo dK O O fH iX) (V0 (Yf qS O) (V0 (bL 2 sQ O O (fI 4 _ O)) (V0 (Ym O) (V0 (Yo pN O O ft av) ?_))))))))))));refine V0 (cF 2 DO O O O (cS)) ?_;refine Al Y O A0 λZZ=>?_;refine ak 0 Y O O O DP O O O (Ln (Et (Cs (eY 0 (.cells (x.cells).toArray 70 (0,0)) O O (Cr (V0 (Ym O) (V0 (Ym O) (V0 (Yf sV O) (V0 (Yd 0 O O O aj) ?_)))))))));refine Lp Y O ac' O (λw hw=>ada H a c l e.1 o x.m w (hw.vs _ (by simp)) hm bA (aA.known e.1 o bA) wQ wR) (V0 (Ya O) (Ln (Et (Cs ?_))));refine WC.xx 1 O (by omega) λcb js DK ar1=>?_;refine Cr (V0 (Ym O) (V0 (Yf mN O) (V0 (Yd 0 O O O aj) (V0 (nR et O O js (by omega) (by omega)) (V0 (Yf iV O) (V0 (p5 (y:=y) 1 p 1 O O js (by omega) aI.aX ra O aj) (V0 (Ya O) ?_)))))));refine Ln (Et (Cs (Cs (Cr (V0 (Yf Bg O) (V0 (Yd 0 O O O aj) (Ln (Et (Cb (Cs (Cr (V0 (aF O O) (V0 (Ya O) (Ln (Et ?_)))))))))))))));refine Cc O (λbh=>?_) (λbh=>?_)
   ·have ig:x.kind=1:=by simpa using bh
    refine Cr (V0 (Ym O) (V0 (Ym O) (V0 (Yo du O O TZ (by omega)) (V0 (bL 1 aj O O (Bz 0 _ O)) (V0 (Ym O) (V0 (jz O O (by omega)) (V0 (Ya O) ?_)))))));refine Ln (Eb (Et (Cr (V0 (Ym O) (V0 (Yf mN O) (V0 (Yd 0 O O O aj) (V0 (Ym O) (V0 (nR et O O js (by omega) (by omega)) (V0 (Yf iV O) ?_)))))))));refine WL.storeT (y:=y) 1 p 1 (⟨y.op,cw l e.1+y.a,y.b⟩) Y O O O js (by omega) aI.aX ra bZ O O (by decide) O ?_
    have tc:my l e.1 o x=cw l e.1+y.a:=by unfold my; rw [l6]; rw [if_pos ig,Int.add_comm]
    rw [<-JJ ra,<-tc,<-gY,<-CG bu];refine Ln (Eb (Et (Cr (V0 (Ym O) (V0 (Yi O O O (by omega)) (V0 (Ya O) (Ln ?_)))))));exact Ea (k+1) (by omega) (by omega) (sc O (sc O (sc O (sc O (sc O (sc O (sc O (sc O (sc O sn))))))))) (λ_ h=>Wd 1 h)
   have ig:¬x.kind=1:=by simpa using bh
   refine Cs (Cr (V0 (aF O O) (V0 (Ya O) (Ln (Et ?_)))));refine Cc O (λbH=>?_) (λbH=>?_)
   ·have d_:x.kind=2:=by simpa using bH
    have u7:=aA.bV e.1 o bA x (List.mem_of_getElem? bu)
    have sX:sj l (dq l e.1 o x.m)=o2.bY.length:=by unfold sj; rw [lC]; rfl
    have SV:y.a.toNat<o2.bY.length:=by
      unfold mw at u7;rw [d_,sX,l6] at u7;simp at u7;omega
    obtain ⟨v2,wU⟩:∃v,o2.bY[y.a.toNat]? = some v:=⟨_,List.getElem?_eq_getElem SV⟩;obtain ⟨SY,SZ,S1,Bm⟩:=wT.bY.aO _ v2 wU;have Bm:aP H SY (SZ+y.a.toNat*1) (im v2):=Bm;have ar2:=wT.bY.cap;have ar3:=wT.bY.max
    have zN:Fu l (dq l e.1 o x.m) y.a=v2:=by unfold Fu; rw [lC,Option.bind_some,wU]; rfl
    have ar4:0<=v2/\v2<=2048:=by
      have h7:=aA.iE o2 (List.mem_of_getElem? lC);obtain ⟨z,hz,hzl⟩:=nr ((t' h7).2.bY v2 (List.mem_of_getElem? wU));have:=(vJ h7).code;omega
    refine WC.nU [(0,true),(1,true),(2,true),(3,true),(4,true),(5,true),(6,true),(7,true),(8,true),(9,true),(10,true),(11,true),(12,true),(13,true)] mixed (by kernel_rfl) (λ_ _ _ d _ h=>by cases d<;>exact h) ?_;refine D0 O (λ_ h=>h) (Ym O) (D0 O (λ_ h=>h) (Ym O) (D0 O (λ_ h=>h) (Yo du O O TU (by omega)) (D0 O (λ_ h=>h) (bL 1 aj O O (By 0 _ O)) (D0 O (λ_ h=>h) (Ym O) (D0 O (λ_ h=>h) (Ym O) (D0 O (λ_ h=>h) (Yo dK O O lI s_) (D0 O (λ_ h=>h) (Yf pM O) ?_)))))));refine D0 O (λ_ h=>h) (bL 2 dt O O (sz 5 _ O)) (D0 O (λ_ h=>h) (Ym O) (D0 O (λ_ h=>h) (nR du O O S1 (by omega) (by omega)) (D0 O (λ_ h=>h) (bL 2 aj O O (Bm 0 _ O)) (D0 O (λ_ h=>h) (jz O O (by omega)) (D0 O (λ_ h=>h) (Ya O) ?_)))));refine WD.nil (λ_ h=>h) ?_;refine Eb (Et (Cr (V0 (Ym O) (V0 (Yf mN O) (V0 (Yd 0 O O O aj) (V0 (Ym O) (V0 (nR et O O js (by omega) (by omega)) (V0 (Yf iV O) ?_))))))));refine WL.storeT (y:=y) 1 p 1 (⟨y.op,cw l (dq l e.1 o x.m)+v2,y.b⟩) Y O O O js (by omega) aI.aX ra bZ O O (by decide) O ?_
    have tc:my l e.1 o x=cw l (dq l e.1 o x.m)+v2:=by unfold my; rw [l6]; rw [if_neg ig,if_pos d_,zN]
    rw [<-JJ ra,<-tc,<-gY,<-CG bu];refine Ln (Eb (Et (Cr (V0 (Ym O) (V0 (Yi O O O (by omega)) (V0 (Ya O) (Ln ?_)))))));exact Ea (k+1) (by omega) (by omega) (sc O (sc O (sc O (sc O (sc O (sc O (sc O (sc O (sc O sn))))))))) (λ_ h=>Wd 1 h)
   have d_:¬x.kind=2:=by simpa using bH
   refine Cr (V0 (Ym O) (V0 (Ym O) (V0 (Yo du O O auh (by omega)) (V0 (bL 0 aj O O (T0 0 _ O)) (V0 (Ym O) (V0 (jz O O (by omega)) (V0 (Ya O) ?_)))))));refine Ln (Eb (Et (Cr (V0 (Ym O) (V0 (Yf mN O) (V0 (Yd 0 O O O aj) (V0 (Ym O) (V0 (nR et O O js (by omega) (by omega)) (V0 (Yf iV O) ?_)))))))));refine WL.storeT (y:=y) 1 p 1 (⟨y.op,dP l (dq l e.1 o x.m)+y.a,y.b⟩) Y O O O js (by omega) aI.aX ra bZ O O (by decide) O ?_
   have tc:my l e.1 o x=dP l (dq l e.1 o x.m)+y.a:=by unfold my; rw [l6]; rw [if_neg ig,if_neg d_,Int.add_comm]
   rw [<-JJ ra,<-tc,<-gY,<-CG bu];refine Ln (Eb (Et (Cr (V0 (Ym O) (V0 (Yi O O O (by omega)) (V0 (Ya O) (Ln ?_)))))));exact Ea (k+1) (by omega) (by omega) (sc O (sc O (sc O (sc O (sc O (sc O (sc O (sc O (sc O sn))))))))) (λ_ h=>Wd 1 h)
  have DS:k=o.fix.length:=by simp at bd; omega
  rw [DS,List.take_length];refine Ce (Ex (Ex (bK (Et ?_))));have BJ:jD l e.1 o o.code o.fix=xV l e.1 o:=rfl;rw [BJ];have hbn:(xV l e.1 o).length=o.code.length:=CF _ _ _ _ _;rw [<-hbn];refine WC.p8 (rd:=eB) 0 O aI.aX (λ_ _ _ _ h=>h) λHB hHB=>?_;refine Cr (V0 (Yf iY O) (V0 (Yd 1 O O O ep) (V0 (Ym O) ?_)));refine WL.tx (f:=aI.cells) (rd:=eB) (xs:=eO l e.1) (ys:=xV l e.1 o) 0 (λ_=>HB) Y O fG O O O (λw hw=>⟨hw.vs HB (by simp),hHB⟩) (λ_ _ _ _ h=>h) aI.aX aI.SM (by omega) (by omega) λa175 c175=>?_;rw [<-OY bA];refine V0 (Yf iY O) (ak 1 Y O O O AZ O O O (Ln (Eb (Et (Cr (V0 (Ym O) (V0 (Yi O O O (by omega)) (V0 (Ya O) (Ln ?_)))))))));exact Ea ((e.1+1,(a175,c175)):Nat×SP) (by show _-(e.1+1)<_; omega) (by show e.1+1<=_; omega) (sc O (sc O (sc O (sc O (sc O (sc O (sc O sn))))))) (λ_ h=>Ws.bB h (by simp))
 have x4:e.1=l.length:=by simp at aU; omega
 rw [x4];have hM:=acB hE h2;refine Ce (Ex (Ex (bK (Et (Cs (Cr (V0 (bC 1 O O pO O) (ak 2 Y O O O qZ O O O (V0 (Ya O) (Ln (Et (aw ?_))))))))))));refine WE.dM (gf O (cU 2 O O pO O) (hY O)) λw' hw=>?_;rw [hM];exact ⟨e.2,O,hw.fr,hw.gB 0 O aI.aX (λ_ _ _ _ h=>h)⟩
theorem auk (H1 H2:View) (q1 q2:SP) (cd:List aI) (d:Int) (w:World) (Bc:Le H1 w) (Bd:Le H2 w) (sg:Sl eB 3 H1 q1.1 q1.2 cd) (lD:Sl eB 3 H2 q2.1 q2.2 cd) :
   Calls Tryz.prog 22 #[.agg #[.slice q1.1 cd.length q1.2,.int .i64 d],.agg #[.slice q2.1 cd.length q2.2,.int .i64 d]] w λe w'=>e = .returned (.bool true)/\Ext w w':=by
 refine enter Tryz.func22 O 17 O O ?_;refine CE (Vs:=[H1,H2]) (Ws.init (by simp [Bc,Bd])) (Cs (Cr ?_));refine WL.box Y O O λb2=>?_;refine WL.box Y O O λb3=>?_;refine V0 (Ya O) (Ln (Et (Cs (Cr (V0 (Yf Bn O) (V0 (Yd 1 O O O aj) (V0 (Yf Bn O) (V0 (Yd 0 O O O aj) (V0 (rW O O O) (V0 (Ym O) ?_))))))))));apply La 5 (x:=true) O O O O Y O O O O O
 ·intro cD;refine Vg (Yf iY O) (Vg (Yd 1 O O O ep) (Vg (Yf iY O) (Vg (Yd 0 O O O ep) (Lp (.g O O O) O aqS O (λw hw=>aqW H1 H2 q1.1 q2.1 q1.2 q2.2 cd w (hw.vs _ (by simp)) (hw.vs _ (by simp)) sg lD) ?_))));exact Gt 5 O O O
 refine V0 (Ya O) (Ln (Et (aw ?_)));refine R1 O O λw' hw=>?_;exact ⟨O,hw.fr⟩
theorem aul (G H:View) (a:Option Addr) (c:Nat) (l:List aG) (w:World) (hG:Le G w) (hz:Laid G) (hH:Le H w) (hm:Sl oT 7 H a c l) :
   Calls Tryz.prog 6 #[.slice a l.length c] w λe w'=>e = .returned (.bool true)/\Ext w w':=by
 have dN:=hm.cap;have ek:=hm.max;refine enter Tryz.func6 O 35 O O ?_;refine CE (Vs:=[G,H]) (Ws.init (by simp [hG,hH])) (Cs (Cr (V0 (Ya O) (Ln (Et (Cs (Cr (V0 (Ym O) ?_))))))));refine Ld Y O TP O (λq:SP=>.tuple #[.agg #[.slice q.1 ((ej l).1.1).length q.2,.int .i64 (ej l).1.2],.int .i64 (ej l).2]) (λF q=>Sl eB 3 F q.1 q.2 (ej l).1.1) (λw hw=>SO H a c l w (hw.vs _ (by simp)) hm) ?_;intro F9 r9 yF h9;refine V0 (Ym O) (V0 (Yx O O) (V0 (Yx O O) ?_));refine Al Y O oU λb3=>?_;refine ak 0 Y O O O qZ O O O (V0 (Ya O) (Ln (Et (Cs (Cr (V0 (Ym O) ?_))))));refine Ld Y O aub O (λq:SP=>.tuple #[.agg #[.slice q.1 ((ej l).1.1).length q.2,.int .i64 (ej l).1.2],.int .i64 (ej l).2]) (λF q=>Sl eB 3 F q.1 q.2 (ej l).1.1) (λw hw=>aud H a c l w (hw.vs _ (by simp)) hm) ?_;intro yG kH Mz kD;refine V0 (Ym O) (V0 (Yx O O) (V0 (Yx O O) ?_));refine Al Y O oU λb5=>?_;refine ak 0 Y O O O qZ O O O (V0 (Ya O) (Ln (Et (Cs (Cr (Lp Y O atV O (λw hw=>atD G w (hw.vs _ (by simp)) hz) (V0 (Ym O) ?_)))))));apply La 5 (x:=true) O O O O Y O O O O O
 ·intro cD;refine Vg (Ym O) (Lp (.g O O O) O ac5 O (λw hw=>acG H a c l w (hw.vs _ (by simp)) hm) (Vg (Ym O) (Lp (.g O O O) O adg O (λw hw=>adb H a c l w (hw.vs _ (by simp)) hm) (Vg (rW O O O) ?_))));exact Gt 5 O O O
 refine V0 (Ym O) ?_;apply La 3 (x:=true) O O O O Y O O O O O
 ·intro bR;refine Vg (Ym O) (Vg (Ym O) (Vg (rW O O O) ?_));exact Gt 3 O O O
 refine V0 (Ym O) ?_;apply La 3 (x:=true) O O O O Y O O O O O
 ·intro gP;refine Vg (bC 1 O O pO O) (Vg (bC 0 O O pO O) (Lp (.g O O O) O auc O (λw hw=>auk F9 yG r9 kH (ej l).1.1 (ej l).1.2 w (hw.vs _ (by simp)) (hw.vs _ (by simp)) h9 kD) ?_));exact Gt 3 O O O
 refine V0 (Ya O) (Ln (Et (aw ?_)));refine R1 O O λw' hw=>?_;exact ⟨O,hw.fr⟩
end Go.Proofs.YtplfmnkmlaolpaaGreatDoor
end
