/- ObjWrites: Write and Read of objects answer just what the document says, whatever they are handed. -/
import Derived.Test.YtplfmnkmlaolpaaGreatDoorW5
set_option linter.unusedVariables false
set_option linter.unusedSimpArgs false
section
namespace Go.Proofs.YtplfmnkmlaolpaaGreatDoor
open Go.Bw
def noTo:TOb:=⟨[],[],0,[],[],[],0⟩
def noOA:OAt:=⟨(none,0),(none,0),(none,0),(none,0)⟩
theorem noTo_rd (H:View):RdTo H noOA noTo:=⟨Sl.nil,Sl.nil,Sl.nil,Sl.nil⟩
def bytesOb (s:List UInt8):Option TOb:=match glOb s with | some (o,[])=>some o | _=>none
theorem bytesOb_ok {s:List UInt8} {r:TOb×List UInt8} (h:glOb s=some r) (e:r.2=[]):bytesOb s=some r.1:=by
 obtain ⟨o,t⟩:=r
 subst e
 unfold bytesOb
 rw [h]
theorem bytesOb_no {s:List UInt8} {r:TOb×List UInt8} (h:glOb s=some r) (e:r.2≠[]):bytesOb s=none:=by
 obtain ⟨o,t⟩:=r
 unfold bytesOb
 rw [h]
 cases t with
 | nil=>exact absurd rfl e
 | cons _ _=>rfl
theorem bytesOb_none {s:List UInt8} (h:glOb s=none):bytesOb s=none:=by unfold bytesOb; rw [h]
theorem readOb_of (s:List UInt8):readOb s=(bytesOb s).bind fun o=>if checkO o=0 then some o else none:=by
 unfold readOb
 cases h:glOb s with
 | none=>rw [bytesOb_none h]; rfl
 | some r=>
   by_cases e:r.2=[]
   · rw [bytesOb_ok h e]
     show (if r.2=[]∧checkO r.1=0 then some r.1 else none)=if checkO r.1=0 then some r.1 else none
     by_cases hc:checkO r.1=0
     · rw [if_pos ⟨e,hc⟩,if_pos hc]
     · rw [if_neg (fun k=>hc k.2),if_neg hc]
   · rw [bytesOb_no h e]
     show (if r.2=[]∧checkO r.1=0 then some r.1 else none)=none
     rw [if_neg (fun k=>e k.1)]
def readE (s:List UInt8):TOb×Int:=if 32768<s.length then (noTo,2) else match readOb s with | some o=>(o,0) | none=>(noTo,1)
theorem en43:Enters Tryz.prog 43:=enters_of Tryz.func43 (by kernel_rfl) rfl
theorem en45:Enters Tryz.prog 45:=enters_of Tryz.func45 (by kernel_rfl) rfl
theorem en48:Enters Tryz.prog 48:=enters_of Tryz.func48 (by kernel_rfl) rfl
theorem en50:Enters Tryz.prog 50:=enters_of Tryz.func50 (by kernel_rfl) rfl
theorem zr4:zeroOf Tryz.prog 4=some (.bool false):=by kernel_rfl
theorem pl147:placesP Tryz.prog 147=some [(0,1)]:=by kernel_rfl
theorem zr147:zeroOf Tryz.prog 147=some (.agg #[st []]):=by kernel_rfl
theorem en41:Enters Tryz.prog 41:=enters_of Tryz.func41 (by kernel_rfl) rfl
theorem en79:Enters Tryz.prog 79:=enters_of Tryz.func79 (by kernel_rfl) rfl
theorem en40:Enters Tryz.prog 40:=enters_of Tryz.func40 (by kernel_rfl) rfl
theorem objRead1_any (bg:Nat) (s:List UInt8)  (w:World) (hs:s.length≤9223372036854775807) (hw:Ws w [bg] [blk bg (.cells #[st (s)] 147 (0,0))] [] w) :
   Calls Tryz.prog 41 #[.pointer (some ⟨bg,0,none⟩)] w fun e w'=>(∃r:(TOb×List UInt8)×OAt,e = .returned (.agg (obV r.1.1 r.2).toArray)∧glOb s=some r.1∧Ws w [bg] [blk bg (.cells #[st (r.1.2)] 147 (0,0)),osT 9 1 strC r.2.s1.1 r.2.s1.2 (r.1.1.uses),osT 67 3 InsG.cells r.2.s2.1 r.2.s2.2 (r.1.1.code),osT 70 3 FixE.cells r.2.s3.1 r.2.s3.2 (r.1.1.fix),osT 3 1 n1C r.2.s4.1 r.2.s4.2 (r.1.1.ents)] [] w')∨(∃t:List UInt8,e = .panicked brkG∧glOb s=none∧Ws w [bg] [blk bg (.cells #[st (t)] 147 (0,0))] [] w'):=by
 refine enter Tryz.func41 O 32 O O ?_
 refine CE hw ?_
 refine Cs (Cr ?_)
 refine WL.box Y O O fun b1=>?_
 refine Al Y O zr27 fun b2=>?_
 refine Ln (Et (Cs (Cr (V0 (Yd 1 O O O na87) (Lf 2 O ?_)))))
 refine Lwx (ι:=List UInt8×List UInt8) (κ:=List UInt8) [_] _ Y O en42 O O (fun r=>st r.1) (fun r=>[blk bg (.cells #[st (r.2)] 147 (0,0))]) (fun r=>glText s=some r) (fun _=>brkG) (fun t=>[blk bg (.cells #[st (t)] 147 (0,0))]) (fun _=>glText s=none) ([]) (by simp) (fun w hw=>glText_any bg (s) w hs hw) ?_ ?_
 ·
  intro t ht
  refine Ep ?_
  refine Epp fun w' hw=>?_
  exact .inr ⟨t,O,(by unfold glOb; simp only [ht,Option.bind_some,Option.bind_none]),Wt 1 hw⟩
 intro r5 h5
 refine V0 (Yb zr27 pl27 O O) ?_
 refine Al Y O zr27 fun b3=>?_
 refine Lst 0 Y O O O sz27 O O O (Ln (Et (Cs ?_)))
 refine Crb 0 (.cells #[st r5.1,.slice none 0 0,.int .i64 0,.slice none 0 0,.slice none 0 0,.slice none 0 0,.int .i64 0] 27 (0,0)) O O ?_
 refine Cr (V0 (Yd 3 O O O na87) (V0 (Yd 3 O O O na87) (V0 (yl_funcf O) (Lf 1 O ?_))))
 refine Lwx (ι:=(List (List UInt8)×List UInt8)×Option Addr×Nat) (κ:=List UInt8) [_] _ Y O en43 O O (fun r=>.slice r.2.1 r.1.1.length r.2.2) (fun r=>[blk bg (.cells #[st (r.1.2)] 147 (0,0)),osT 9 1 strC r.2.1 r.2.2 (r.1.1)]) (fun r=>glList glText r5.2=some r.1) (fun _=>brkG) (fun t=>[blk bg (.cells #[st (t)] 147 (0,0))]) (fun _=>glList glText r5.2=none) ([]) (by simp) (fun w hw=>listS_any bg (r5.2) w (by have:=glText_le h5; omega) hw) ?_ ?_
 ·
  intro t ht
  refine Ep ?_
  refine Epp fun w' hw=>?_
  exact .inr ⟨t,O,(by unfold glOb; simp only [h5,ht,Option.bind_some,Option.bind_none]),Wt 1 hw⟩
 intro r10 h10
 refine V0 (Yf fo27_1 O) (Lst 2 Y O O O sz22 O O O (Ln (Et (Cs ?_))))
 refine Crb 2 (.cells #[st r5.1,.slice r10.2.1 r10.1.1.length r10.2.2,.int .i64 0,.slice none 0 0,.slice none 0 0,.slice none 0 0,.int .i64 0] 27 (0,0)) O O ?_
 refine Cr (V0 (Yd 4 O O O na87) (Lf 0 O ?_))
 refine Lwx (ι:=Int×List UInt8) (κ:=List UInt8) [_] _ Y O en44 O O (fun r=>.int .i64 r.1) (fun r=>[blk bg (.cells #[st (r.2)] 147 (0,0))]) (fun r=>glNum r10.1.2=some r) (fun _=>brkG) (fun t=>[blk bg (.cells #[st (t)] 147 (0,0))]) (fun _=>glNum r10.1.2=none) ([]) (by simp) (fun w hw=>glNum_any bg (r10.1.2) w (by have:=glText_le h5; have:=glList_le (fun _ _=>glText_le) h10; omega) hw) ?_ ?_
 ·
  intro t ht
  refine Ep ?_
  refine Epp fun w' hw=>?_
  exact .inr ⟨t,O,(by unfold glOb; simp only [h5,h10,ht,Option.bind_some,Option.bind_none]),Wt 1 hw⟩
 intro r13 h13
 refine V0 (Yf fo27_2 O) (Lst 2 Y O O O sz3 O O O (Ln (Et (Cs ?_))))
 refine Crb 2 (.cells #[st r5.1,.slice r10.2.1 r10.1.1.length r10.2.2,.int .i64 r13.1,.slice none 0 0,.slice none 0 0,.slice none 0 0,.int .i64 0] 27 (0,0)) O O ?_
 refine Cr (V0 (Yd 4 O O O na87) (V0 (yl_func O) (Lf 4 O (Lf 1 O ?_))))
 refine Lwx (ι:=(List InsG×List UInt8)×Option Addr×Nat) (κ:=List UInt8) [_,_] _ Y O en45 O O (fun r=>.slice r.2.1 r.1.1.length r.2.2) (fun r=>[blk bg (.cells #[st (r.1.2)] 147 (0,0)),blk b1 (.cells #[.pointer (some ⟨bg,0,none⟩)] 87 (0,0)),osT 67 3 InsG.cells r.2.1 r.2.2 (r.1.1)]) (fun r=>glList glIns r13.2=some r.1) (fun _=>brkG) (fun t=>[blk bg (.cells #[st (t)] 147 (0,0)),blk b1 (.cells #[.pointer (some ⟨bg,0,none⟩)] 87 (0,0))]) (fun _=>glList glIns r13.2=none) ([]) (by simp) (fun w hw=>listC_any bg b1 (r13.2) w (by have:=glText_le h5; have:=glList_le (fun _ _=>glText_le) h10; have:=glNum_le h13; omega) hw) ?_ ?_
 ·
  intro t ht
  refine Ep ?_
  refine Epp fun w' hw=>?_
  exact .inr ⟨t,O,(by unfold glOb; simp only [h5,h10,h13,ht,Option.bind_some,Option.bind_none]),Wt 1 hw⟩
 intro r17 h17
 refine V0 (Yf fo27_3 O) (Lst 4 Y O O O sz23 O O O (Ln (Et (Cs ?_))))
 refine Crb 4 (.cells #[st r5.1,.slice r10.2.1 r10.1.1.length r10.2.2,.int .i64 r13.1,.slice r17.2.1 r17.1.1.length r17.2.2,.slice none 0 0,.slice none 0 0,.int .i64 0] 27 (0,0)) O O ?_
 refine Cr (V0 (Yd 1 O O O na87) (V0 (yl_func O) (Lf 1 O (Lf 1 O ?_))))
 refine Lwx (ι:=(List FixE×List UInt8)×Option Addr×Nat) (κ:=List UInt8) [_,_] _ Y O en48 O O (fun r=>.slice r.2.1 r.1.1.length r.2.2) (fun r=>[blk bg (.cells #[st (r.1.2)] 147 (0,0)),blk b1 (.cells #[.pointer (some ⟨bg,0,none⟩)] 87 (0,0)),osT 70 3 FixE.cells r.2.1 r.2.2 (r.1.1)]) (fun r=>glList glFix r17.1.2=some r.1) (fun _=>brkG) (fun t=>[blk bg (.cells #[st (t)] 147 (0,0)),blk b1 (.cells #[.pointer (some ⟨bg,0,none⟩)] 87 (0,0))]) (fun _=>glList glFix r17.1.2=none) ([]) (by simp) (fun w hw=>listF_any bg b1 (r17.1.2) w (by have:=glText_le h5; have:=glList_le (fun _ _=>glText_le) h10; have:=glNum_le h13; have:=glList_le (fun _ _=>glIns_le) h17; omega) hw) ?_ ?_
 ·
  intro t ht
  refine Ep ?_
  refine Epp fun w' hw=>?_
  exact .inr ⟨t,O,(by unfold glOb; simp only [h5,h10,h13,h17,ht,Option.bind_some,Option.bind_none]),Wt 1 hw⟩
 intro r21 h21
 refine V0 (Yf fo27_4 O) (Lst 5 Y O O O sz24 O O O (Ln (Et (Cs ?_))))
 refine Crb 5 (.cells #[st r5.1,.slice r10.2.1 r10.1.1.length r10.2.2,.int .i64 r13.1,.slice r17.2.1 r17.1.1.length r17.2.2,.slice r21.2.1 r21.1.1.length r21.2.2,.slice none 0 0,.int .i64 0] 27 (0,0)) O O ?_
 refine Cr (V0 (Yd 1 O O O na87) (V0 (Yd 1 O O O na87) (V0 (yl_funcf O) (Lf 0 O ?_))))
 refine Lwx (ι:=(List Int×List UInt8)×Option Addr×Nat) (κ:=List UInt8) [_] _ Y O en50 O O (fun r=>.slice r.2.1 r.1.1.length r.2.2) (fun r=>[blk bg (.cells #[st (r.1.2)] 147 (0,0)),osT 3 1 n1C r.2.1 r.2.2 (r.1.1)]) (fun r=>glList glNum r21.1.2=some r.1) (fun _=>brkG) (fun t=>[blk bg (.cells #[st (t)] 147 (0,0))]) (fun _=>glList glNum r21.1.2=none) ([]) (by simp) (fun w hw=>listI_any bg (r21.1.2) w (by have:=glText_le h5; have:=glList_le (fun _ _=>glText_le) h10; have:=glNum_le h13; have:=glList_le (fun _ _=>glIns_le) h17; have:=glList_le (fun _ _=>glFix_le) h21; omega) hw) ?_ ?_
 ·
  intro t ht
  refine Ep ?_
  refine Epp fun w' hw=>?_
  exact .inr ⟨t,O,(by unfold glOb; simp only [h5,h10,h13,h17,h21,ht,Option.bind_some,Option.bind_none]),Wt 1 hw⟩
 intro r26 h26
 refine V0 (Yf fo27_5 O) (Lst 6 Y O O O sz25 O O O (Ln (Et (Cs ?_))))
 refine Crb 6 (.cells #[st r5.1,.slice r10.2.1 r10.1.1.length r10.2.2,.int .i64 r13.1,.slice r17.2.1 r17.1.1.length r17.2.2,.slice r21.2.1 r21.1.1.length r21.2.2,.slice r26.2.1 r26.1.1.length r26.2.2,.int .i64 0] 27 (0,0)) O O ?_
 refine Cr (V0 (Yd 2 O O O na87) (Lf 0 O ?_))
 refine Lwx (ι:=Int×List UInt8) (κ:=List UInt8) [_] _ Y O en44 O O (fun r=>.int .i64 r.1) (fun r=>[blk bg (.cells #[st (r.2)] 147 (0,0))]) (fun r=>glNum r26.1.2=some r) (fun _=>brkG) (fun t=>[blk bg (.cells #[st (t)] 147 (0,0))]) (fun _=>glNum r26.1.2=none) ([]) (by simp) (fun w hw=>glNum_any bg (r26.1.2) w (by have:=glText_le h5; have:=glList_le (fun _ _=>glText_le) h10; have:=glNum_le h13; have:=glList_le (fun _ _=>glIns_le) h17; have:=glList_le (fun _ _=>glFix_le) h21; have:=glList_le (fun _ _=>glNum_le) h26; omega) hw) ?_ ?_
 ·
  intro t ht
  refine Ep ?_
  refine Epp fun w' hw=>?_
  exact .inr ⟨t,O,(by unfold glOb; simp only [h5,h10,h13,h17,h21,h26,ht,Option.bind_some,Option.bind_none]),Wt 1 hw⟩
 intro r29 h29
 refine V0 (Yf fo27_6 O) (Lst 6 Y O O O sz3 O O O (Ln (Et (Cs ?_))))
 refine Crb 6 (.cells (obV (⟨r5.1,r10.1.1,r13.1,r17.1.1,r21.1.1,r26.1.1,r29.1⟩:TOb) (⟨r10.2,r17.2,r21.2,r26.2⟩:OAt)).toArray 27 (0,0)) O O ?_
 refine Cr (V0 (Yda 6 O O ag27 O) (Lst 7 Y O O O sz27 O O O (Ln (Et (Crt ?_)))))
 refine WE.retc1 7 O O O ag27 O fun w' hw=>?_
 exact .inl ⟨(((⟨r5.1,r10.1.1,r13.1,r17.1.1,r21.1.1,r26.1.1,r29.1⟩:TOb),r29.2),(⟨r10.2,r17.2,r21.2,r26.2⟩:OAt)),O,(by unfold glOb; simp only [h5,h10,h13,h17,h21,h26,h29,Option.bind_some]),Ws.keep (L:=[_,_,_,_,_]) (Ws.fronti (Ws.fronti (Ws.fronti (Ws.fronti (Ws.fronti hw 1 O) 3 O) 4 O) 5 O) 4 O)⟩
theorem read1_ret (bi:Nat) (x:Bool) (w:World) (hw:Ws w [bi] [blk bi (.cells #[.bool x] 4 (0,0))] [] w) :
   CallsD Tryz.prog 79 #[.pointer (some ⟨bi,0,none⟩)] (.returning) w fun e u2 w'=>u2 = .returning∧(e = .returned (.tuple #[])∧Ws w [bi] [blk bi (.cells #[.bool x] 4 (0,0))] [] w'):=by
 refine closD Tryz.func79 O 3 O O O O O (fun _=>rfl) (.inl ⟨O,O,O⟩) ?_
 refine LW (W':=Ws w [bi] [blk bi (.cells #[.bool x] 4 (0,0))] []) (fun _ e=>by subst e; exact hw) ?_
 refine V0 (yl_nein uif20 O) (Ln (Et ?_))
 refine WC.condf O ?_
 refine Ck ?_
 refine E0 O fun w' hw=>?_
 exact ⟨O,hw⟩
theorem read1_pan (bi:Nat) (x:Bool) (w:World) (hw:Ws w [bi] [blk bi (.cells #[.bool x] 4 (0,0))] [] w) :
   CallsD Tryz.prog 79 #[.pointer (some ⟨bi,0,none⟩)] (.panicking [⟨.iface 184 (.agg #[]),false,false⟩]) w fun e u2 w'=>u2 = .panicking [⟨.iface 184 (.agg #[]),true,false⟩]∧(e = .returned (.tuple #[])∧Ws w [bi] [blk bi (.cells #[.bool false] 4 (0,0))] [] w'):=by
 refine closD Tryz.func79 O 3 O O O O O (fun _=>rfl) (.inr ⟨_,O,O,O⟩) ?_
 refine LW (W':=Ws w [bi] [blk bi (.cells #[.bool x] 4 (0,0))] []) (fun _ e=>by subst e; exact hw) ?_
 refine V0 (yl_neih uif20 O) (Ln (Et ?_))
 refine WC.condt O ?_
 refine Cr (Lst 0 Y O O O sz4 O O O (Ln ?_))
 refine E0 O fun w' hw=>?_
 exact ⟨O,hw⟩
theorem bytesRead_any (s:List UInt8) (w:World) (hs:s.length≤9223372036854775807) :
   Calls Tryz.prog 40 #[st s,.func (.func 41) #[] #[]] w fun e w'=>∃(o:TOb) (ok:Bool) (q:OAt),e = .returned (.tuple #[.agg (obV o q).toArray,.bool ok])∧(ok=true→bytesOb s=some o)∧(ok=false→bytesOb s=none)∧Ws w [] [osT 9 1 strC q.s1.1 q.s1.2 (o.uses),osT 67 3 InsG.cells q.s2.1 q.s2.2 (o.code),osT 70 3 FixE.cells q.s3.1 q.s3.2 (o.fix),osT 3 1 n1C q.s4.1 q.s4.2 (o.ents)] [] w':=by
 refine enterD Tryz.func40 O 20 O O ?_
 refine CE (Vs:=[]) (Ws.init (by simp)) ?_
 refine Cs (Cr ?_)
 refine Al Y O zr27 fun b4=>?_
 refine Al Y O zr4 fun b5=>?_
 refine Ln (Et (Cs (Cr (V0 (yl_func O) ?_))))
 refine WL.defer Y O ?_
 refine Ln (Et (Cs (Cr (V0 (Ym O) (V0 (Yb zr147 pl147 O O) ?_)))))
 refine WL.box Y O O fun b10=>?_
 refine V0 (Ya O) (Ln (Et (Cs (Cr (V0 (Ym O) (V0 (Ym O) (Lf 0 O ?_)))))))
 refine WL.callvwx (ι:=(TOb×List UInt8)×OAt) (κ:=List UInt8) [_] _ Y O en41 O O O (fun r=>.agg (obV r.1.1 r.2).toArray) (fun r=>[blk b10 (.cells #[st (r.1.2)] 147 (0,0)),osT 9 1 strC r.2.s1.1 r.2.s1.2 (r.1.1.uses),osT 67 3 InsG.cells r.2.s2.1 r.2.s2.2 (r.1.1.code),osT 70 3 FixE.cells r.2.s3.1 r.2.s3.2 (r.1.1.fix),osT 3 1 n1C r.2.s4.1 r.2.s4.2 (r.1.1.ents)]) (fun r=>glOb s=some r.1) (fun _=>brkG) (fun t=>[blk b10 (.cells #[st (t)] 147 (0,0))]) (fun _=>glOb s=none) ([]) (by simp) (fun w hw=>objRead1_any b10 s w hs hw) ?_ ?_
 ·
  intro t ht
  refine Ep ?_
  refine WE.front 1 O ?_
  refine WE.panD en79 (closW [_] _ _ O (fun w hw=>read1_pan b5 _ w hw)) (rs_2 O (rv_agg 2 O O ag27 O) (rv_one 0 O O O na4)) fun w' hw=>?_
  refine ⟨noTo,false,noOA,O,by simp,fun _=>bytesOb_none ht,?_⟩
  have h:=Ws.drop (L:=[_,_,_]) (L':=[]) hw
  exact ((((h).osl_nil 3 1).osl_nil 70 3).osl_nil 67 3).osl_nil 9 1
 intro r hr
 refine Lst 6 Y O O O sz27 O O O (Ln (Et (Cs ?_)))
 refine WC.drawsK (noRes [.cell 4 27,.cell 5 4]) [6,5] [(1,true),(2,true),(3,true),(4,true),(5,true),(0,false),(6,false),(7,false)] mixed (by kernel_rfl) (by kernel_rfl) (fun _ _ _ _ _ hd h=>bodyD_put (fn:=Tryz.f40) [.cell 4 27,.cell 5 4] O hd h) ?_
 refine D0 O (Wos [6,5]) (Ym O) (D0 O (Wos [6,5]) (yl_nil O) (D0 O (Wos [6,5]) (Yf fo147_0 O) (D0 O (Wos [6,5]) (Yd 0 O O O na9) (D0 O (Wos [6,5]) (yl_eqs O O) ?_))))
 refine De O (Wos [6,5]) ?_
 refine V0 (Yda 6 O O ag27 O) (Ln (Ed ?_))
 refine De O (Wos [6,5]) ?_
 refine Lst 6 Y O O O sz27 O O O (Ln (Ed ?_))
 refine De O (Wos [6,5]) ?_
 refine Lst 5 Y O O O sz4 O O O (Ln (Ed ?_))
 refine WD.nil (Wos [6,5]) ?_
 refine Et (Crt ?_)
 refine WE.front 5 O ?_
 refine WE.retD en79 (closW [_] _ _ O (fun w hw=>read1_ret b5 _ w hw)) (rs_2 O (rv_agg 6 O O ag27 O) (rv_one 0 O O O na4)) fun w' hw=>?_
 refine ⟨r.1.1,r.1.2==[],r.2,O,fun h=>bytesOb_ok hr (by simpa using h),fun h=>bytesOb_no hr (by simpa using h),?_⟩
 exact Ws.keep (L:=[_,_,_,_]) (Ws.out 0 (Ws.out 0 hw))
theorem objRead_any (s:List UInt8) (w:World) (hs:s.length≤9223372036854775807) :
   Calls Tryz.prog 14 #[st s] w fun e w'=>∃q:OAt,e = .returned (.tuple #[.agg (obV (readE s).1 q).toArray,.int .i64 (readE s).2])∧Ext w w'∧RdTo (nv w w') q (readE s).1:=by
 refine enter Tryz.func14 O 24 O O ?_
 refine CE (Vs:=[]) (Ws.init (by simp)) ?_
 refine Cs (Cr ?_)
 refine Al Y O zr27 fun b2=>?_
 refine V0 (Ya O) (Ln (Et (Cs (Cs (Cr (V0 (Ym O) (V0 (yl_lens us9 O) (V0 (yl_gt O O) (Ln (Et ?_))))))))))
 refine Cc O (fun hc0=>?_) (fun hc0=>?_)
 ·
  have hl:32768<s.length:=by simp at hc0; omega
  have hR:readE s=(noTo,2):=by rw [readE,if_pos hl]
  refine Cs (Cr (V0 (Yb zr27 pl27 O O) (Lst 0 Y O O O sz27 O O O (V0 (Ya O) (Ln (Et (Crt (Er ?_))))))))
  refine WE.retR (rs_2 O (rv_agg 0 O O ag27 O) (rv_tmp O)) fun w' hw=>?_
  rw [hR]
  exact ⟨noOA,O,hw.fr,noTo_rd _⟩
 have hl:¬32768<s.length:=by simp at hc0; omega
 refine Ck (Et (Cs (Cr (V0 (Ym O) ?_))))
 refine Lw (ι:=TOb×Bool×OAt) [] _ Y O en40 O O (fun r=>.tuple #[.agg (obV r.1 r.2.2).toArray,.bool r.2.1]) (fun r=>[osT 9 1 strC r.2.2.s1.1 r.2.2.s1.2 (r.1.uses),osT 67 3 InsG.cells r.2.2.s2.1 r.2.2.s2.2 (r.1.code),osT 70 3 FixE.cells r.2.2.s3.1 r.2.2.s3.2 (r.1.fix),osT 3 1 n1C r.2.2.s4.1 r.2.2.s4.2 (r.1.ents)]) (fun r=>(r.2.1=true→bytesOb s=some r.1)∧(r.2.1=false→bytesOb s=none)) [] (by simp) (fun w hw=>(bytesRead_any s w hs).mono fun e w' ⟨o,ok,q,h1,h2,h3,h4⟩=>⟨(o,ok,q),h1,⟨h2,h3⟩,h4⟩) ?_
 intro r hr
 refine V0 (Ym O) (V0 (Yx O O) (V0 (Yx O O) ?_))
 refine Al Y O zr27 fun b4=>?_
 refine Lst 0 Y O O O sz27 O O O (V0 (Ya O) (Ln (Et (Cs (Cs (Cr (V0 (Ym O) (V0 (yl_not O) (V0 (Ym O) ?_)))))))))
 apply Lo 3 O O O O Y O O O O O
 ·
  intro hg0
  refine Vg (Yda 0 O O ag27 O) ?_
  refine Lp (.g O O O) O en10 O (fun w hw=>ocheck_any (hv w) r.1 r.2.2 w (hv_le w) ⟨hw.slTh 1 O strC_len (fun _ _ _ _ h=>h),hw.slTh 2 O InsG.cells_len (fun _ _ _ _ h=>h),hw.slTh 3 O FixE.cells_len (fun _ _ _ _ h=>h),hw.slTh 4 O n1C_len (fun _ _ _ _ h=>h)⟩) ?_
  refine Vg (yl_ne O O) ?_
  exact Gt 3 O O O
 refine Ln (Et ?_)
 refine Cc O (fun hc1=>?_) (fun hc1=>?_)
 ·
  have hR:readE s=(noTo,1):=by
    rw [readE,if_neg hl,readOb_of]
    cases hok:r.2.1 with
    | false=>rw [hr.2 hok]; rfl
    | true=>
      rw [hr.1 hok]
      have h9:¬checkO r.1=0:=by simpa [hok] using hc1
      rw [Option.bind_some,if_neg h9]
  refine Cs (Cr (V0 (Yb zr27 pl27 O O) (Lst 5 Y O O O sz27 O O O (V0 (Ya O) (Ln (Et (Crt (Er ?_))))))))
  refine WE.retR (rs_2 O (rv_agg 5 O O ag27 O) (rv_tmp O)) fun w' hw=>?_
  rw [hR]
  exact ⟨noOA,O,hw.fr,noTo_rd _⟩
 have hR:readE s=(r.1,0):=by
   rw [readE,if_neg hl,readOb_of]
   simp at hc1
   rw [hr.1 hc1.1,Option.bind_some,if_pos hc1.2]
 refine Ck (Et (Cs (Cr (V0 (Yda 0 O O ag27 O) (Lst 5 Y O O O sz27 O O O (V0 (Ya O) (Ln (Et (Crt ?_)))))))))
 refine WE.retR (rs_2 O (rv_agg 5 O O ag27 O) (rv_tmp O)) fun w' hw=>?_
 rw [hR]
 exact ⟨r.2.2,O,hw.fr,⟨hw.slT 1 O strC_len (fun _ _ _ _ h=>h),hw.slT 2 O InsG.cells_len (fun _ _ _ _ h=>h),hw.slT 3 O FixE.cells_len (fun _ _ _ _ h=>h),hw.slT 4 O n1C_len (fun _ _ _ _ h=>h)⟩⟩
theorem noL_go {α:Type} {one:List UInt8×Bool→α×(List UInt8×Bool)} {k m:Nat} {p0 p:List UInt8×Bool} {acc:List α} (h:noL one k p0=(acc++(noL one (m+1) p).1,(noL one (m+1) p).2)) (hb:p.2=false):noL one k p0=((acc++[(one p).1])++(noL one m (one p).2).1,(noL one m (one p).2).2):=by
 rw [h,noL,if_neg (by rw [hb]; decide)]
 simp
theorem noL_stop {α:Type} {one:List UInt8×Bool→α×(List UInt8×Bool)} {k m:Nat} {p0 p:List UInt8×Bool} {acc:List α} (h:noL one k p0=(acc++(noL one m p).1,(noL one m p).2)) (hs:(decide (0<(m:Int))&&!p.2)=false):noL one k p0=(acc,p):=by
 have e:noL one m p=([],p):=by
   cases m with
   | zero=>rfl
   | succ m=>
     rw [noL,if_pos]
     have h0:decide ((0:Int)<((m+1:Nat):Int))=true:=decide_eq_true (by omega)
     rw [h0] at hs
     simpa using hs
 rw [h,e,List.append_nil]
def fromE (s:List UInt8):TOb×Bool:=match fromOb s with | some o=>(o,true) | none=>(noTo,false)
theorem fromE_no {s:List UInt8} {o:TOb} {p:List UInt8×Bool} (h:noOb (s,false)=(o,p)) (hc:((p.2||checkO o != 0)||obB o != s)=true):fromE s=(noTo,false):=by
 have e:fromOb s=none:=by
   unfold fromOb
   rw [h]
   by_cases h1:p.2=true
   · rw [if_pos h1]
   · rw [if_neg h1]
     by_cases h2:checkO o=0
     · by_cases h3:obB o=s
       · simp [h1,h2,h3] at hc
       · rw [if_pos h2,if_neg h3]
     · rw [if_neg h2]
 unfold fromE
 rw [e]
theorem fromE_ok {s:List UInt8} {o:TOb} {p:List UInt8×Bool} (h:noOb (s,false)=(o,p)) (hc:((p.2||checkO o != 0)||obB o != s)=false):fromE s=(o,true):=by
 have e:fromOb s=some o:=by
   unfold fromOb
   rw [h]
   simp at hc
   obtain ⟨⟨h1,h2⟩,h3⟩:=hc
   rw [if_neg (by rw [h1]; decide),if_pos h2,if_pos h3]
 unfold fromE
 rw [e]
theorem pl100:placesP Tryz.prog 100=some [(0,1),(1,1)]:=by kernel_rfl
theorem zr100:zeroOf Tryz.prog 100=some (.agg #[st [],.bool false]):=by kernel_rfl
theorem en54:Enters Tryz.prog 54:=enters_of Tryz.func54 (by kernel_rfl) rfl
theorem en55:Enters Tryz.prog 55:=enters_of Tryz.func55 (by kernel_rfl) rfl
theorem objectFrom_any (s:List UInt8) (w:World) (hs:s.length≤9223372036854775807) :
   Calls Tryz.prog 16 #[st s] w fun e w'=>∃q:OAt,e = .returned (.tuple #[.agg (obV (fromE s).1 q).toArray,.bool (fromE s).2])∧Ext w w'∧RdTo (nv w w') q (fromE s).1:=by
 refine enter Tryz.func16 O 137 O O ?_
 refine CE (Vs:=[]) (Ws.init (by simp)) ?_
 refine Cs (Cr ?_)
 refine Al Y O zr27 fun b2=>?_
 refine V0 (Ya O) (Ln (Et (Cs (Cr (V0 (Ym O) (V0 (Yb zr100 pl100 O O) ?_))))))
 refine WL.box Y O O fun b14=>?_
 refine V0 (Ya O) (Ln (Et (Cs (Cr (V0 (Ym O) (Lf 0 O ?_))))))
 refine Lw (ι:=Unit) [_] _ Y O en54 O O (fun _=>st (noText (s,false)).1) (fun _=>[blk b14 (.cells #[st ((noText (s,false)).2).1,.bool ((noText (s,false)).2).2] 100 (0,0))]) (fun _=>True) [] (by simp) (fun w hw=>(noText_any b14 (s,false) w hs hw).mono fun e w' h=>⟨(),h.1,trivial,h.2⟩) ?_
 intro _ _
 refine V0 (Yb zr27 pl27 O O) ?_
 refine Al Y O zr27 fun b5=>?_
 refine LW (fun _ h=>h.osl_nil 3 1) ?_
 refine LW (fun _ h=>h.osl_nil 70 3) ?_
 refine LW (fun _ h=>h.osl_nil 67 3) ?_
 refine LW (fun _ h=>h.osl_nil 9 1) ?_
 refine Lst 4 Y O O O sz27 O O O (Ln (Et (Cs (Cs (Cr (V0 (Ym O) (Lf 5 O ?_)))))))
 refine Lw (ι:=Unit) [_] _ Y O en55 O O (fun _=>.int .i64 (((noCount (noText (s,false)).2).1:Nat):Int)) (fun _=>[blk b14 (.cells #[st ((noCount (noText (s,false)).2).2).1,.bool ((noCount (noText (s,false)).2).2).2] 100 (0,0))]) (fun _=>True) [] (by simp) (fun w hw=>(noCount_any b14 (noText (s,false)).2 w (by have:=noText_le (s,false); simp only at this; omega) hw).mono fun e w' h=>⟨(),h.1,trivial,h.2⟩) ?_
 intro _ _
 refine V0 (Ya O) (Ln (Et (Cb ?_)))
 refine CLk (ι:=Nat×List (List UInt8)×(List UInt8×Bool)×Option Addr×Nat) (fun g=>[(6,.int .i64 (g.1:Int))]) [(0,_),(2,_),(3,_),(4,_),(5,_)] (fun g=>Ws w [] [blk b14 (.cells #[st (g.2.2.1).1,.bool (g.2.2.1).2] 100 (0,0)),osT 9 1 strC g.2.2.2.1 g.2.2.2.2 (g.2.1),osl 67 3 (.slice none 0 0) 0 [],osl 70 3 (.slice none 0 0) 0 [],osl 3 1 (.slice none 0 0) 0 [],blk b5 (.cells #[st (noText (s,false)).1,.slice g.2.2.2.1 g.2.1.length g.2.2.2.2,.int .i64 0,.slice none 0 0,.slice none 0 0,.slice none 0 0,.int .i64 0] 27 (0,0)),blk b2 (.cells (obV noTo noOA).toArray 27 (0,0))] []) (fun g=>g.1+g.2.1.length≤32768∧g.2.2.1.1.length≤9223372036854775807∧noL noText (noCount (noText (s,false)).2).1 (noCount (noText (s,false)).2).2=(g.2.1++(noL noText g.1 g.2.2.1).1,(noL noText g.1 g.2.2.1).2)) (fun g=>g.1) ((noCount (noText (s,false)).2).1,[],(noCount (noText (s,false)).2).2,none,0) ⟨by have:=noCount_max (noText (s,false)).2; simpa using this,by have:=noCount_le (noText (s,false)).2; have:=noText_le (s,false); simp only at this; dsimp only; omega,by simp⟩ (sc O (sc O (sc O (sc O (sc O (sc O sn)))))) (fun _ h=>Ws.keep (L:=[_,_,_,_,_,_,_]) (Ws.fronti (Ws.fronti (Ws.fronti (Ws.fronti (Ws.fronti (Ws.fronti (Ws.fronti h 6 O) 6 O) 6 O) 6 O) 6 O) 6 O) 6 O)) ?_
 intro g ⟨hgi,hgs,hgG⟩
 refine Cs (Cs (Cr (V0 (Ym O) (V0 (yl_gt O O) (V0 (Ym O) ?_)))))
 apply La 5 O O O O Y O O O O O
 ·
  intro hg0
  refine Vg (Ym O) (Vg (yl_nil O) (Vg (Yf fo100_1 O) (Vg (Yd 0 O O O na4) (Vg (yl_not O) ?_))))
  exact Gt 5 O O O
 refine Ln (Et ?_)
 refine Cc O (fun hc0=>?_) (fun hc0=>?_)
 ·
  have h9:=hc0
  simp only [Bool.and_eq_true,decide_eq_true_eq,Bool.not_eq_true'] at h9
  obtain ⟨hg1,hgb⟩:=h9
  obtain ⟨mg,hgm⟩:∃m,g.1=m+1:=⟨g.1-1,by omega⟩
  refine Ck (Et (Cs (Cb ?_)))
  refine CU (fun _=>true) [0,0] [6,7] (.q false 0 (.q true 1 (.q false 2 (.e 3 (.e 4 (.e 5 .nil .stop) .stop) .stop)))) mixed (by kernel_rfl) (fun _ _ _ d _ _ h=>by cases d<;>exact h) ?_
  refine U0 O (Wos [0,0]) (Yf fo27_1 O) (U0 O (Wos [0,0]) (Yd 3 O O O na22) (U0 O (Wos [0,0]) (Ym O) ?_))
  refine Ue O (Wos [0,0]) ?_ WU.stop
  refine Lf 0 O ?_
  refine Lw (ι:=Unit) [_] _ Y O en54 O O (fun _=>st (noText g.2.2.1).1) (fun _=>[blk b14 (.cells #[st ((noText g.2.2.1).2).1,.bool ((noText g.2.2.1).2).2] 100 (0,0))]) (fun _=>True) [] (by simp) (fun w hw=>(noText_any b14 g.2.2.1 w hgs hw).mono fun e w' h=>⟨(),h.1,trivial,h.2⟩) ?_
  intro _ _
  refine Ln (Eu ?_)
  refine Ue O (Wos [0,0]) ?_ WU.stop
  refine Lb Y O el22 O O O O fun b35=>?_
  refine Lrb 0 (.cells (strC (noText g.2.2.1).1).toArray 9 (0,0)) O O ?_
  refine Ln (Eu ?_)
  refine Ue O (fun _ h=>(Wo 0 (Wo 0 (Wd 1 h)):)) ?_ WU.stop
  refine LA (noText g.2.2.1).1 2 0 Y O el22 O O O O O O (by omega) (by omega) fun a36 c36=>?_
  refine Ln (Eu ?_)
  refine WU.nil (fun _ h=>(Wo 0 (Wo 0 (Wd 1 h)):)) ?_
  refine WS.e O ?_
  refine V0 (Yf fo27_1 O) (Ln (Es ?_))
  refine WS.e O ?_
  refine Lst 6 Y O O O sz22 O O O (Ln (Es ?_))
  refine WS.nil ?_
  refine Eb (Et (Cr (V0 (Ym O) ?_)))
  refine V0 (yl_subv (((g.1:Nat):Int)-1) O O O (by omega)) ?_
  refine V0 (Ya O) (Ln ?_)
  rw [show (((g.1:Nat):Int)-1)=((g.1-1:Nat):Int) by omega]
  exact Ea ((g.1-1,g.2.1++[(noText g.2.2.1).1],(noText g.2.2.1).2,a36,c36):Nat×List (List UInt8)×(List UInt8×Bool)×Option Addr×Nat) (by dsimp only; omega) ⟨by simp; omega,by have:=noText_le g.2.2.1; dsimp only; omega,by
      dsimp only
      rw [hgm,Nat.add_sub_cancel]
      rw [hgm] at hgG
      exact noL_go hgG hgb⟩ (sc O (sc O (sc O (sc O (sc O (sc O sn)))))) (fun _ h=>Ws.keep (L:=[_,_,_,_,_,_,_]) (Ws.fronti (Ws.fronti (Ws.fronti (Ws.fronti (Ws.fronti (Ws.fronti (Ws.fronti h 7 O) 7 O) 7 O) 7 O) 7 O) 7 O) 7 O))
 have hgN:noList noText (noText (s,false)).2=(g.2.1,g.2.2.1):=noL_stop hgG hc0
 refine Ce (Ex (Ex (Ebh (Et (Cs (Cr (V0 (Ym O) (Lf 0 O ?_))))))))
 refine Lw (ι:=Unit) [_] _ Y O en56 O O (fun _=>.int .i64 (noNum g.2.2.1).1) (fun _=>[blk b14 (.cells #[st ((noNum g.2.2.1).2).1,.bool ((noNum g.2.2.1).2).2] 100 (0,0))]) (fun _=>True) [] (by simp) (fun w hw=>(noNum_any b14 g.2.2.1 w hgs hw).mono fun e w' h=>⟨(),h.1,trivial,h.2⟩) ?_
 intro _ _
 refine V0 (Yf fo27_2 O) (Lst 5 Y O O O sz3 O O O (Ln (Et (Cs (Cs (Cr (V0 (Ym O) (Lf 0 O ?_))))))))
 refine Lw (ι:=Unit) [_] _ Y O en55 O O (fun _=>.int .i64 (((noCount (noNum g.2.2.1).2).1:Nat):Int)) (fun _=>[blk b14 (.cells #[st ((noCount (noNum g.2.2.1).2).2).1,.bool ((noCount (noNum g.2.2.1).2).2).2] 100 (0,0))]) (fun _=>True) [] (by simp) (fun w hw=>(noCount_any b14 (noNum g.2.2.1).2 w (by have:=noNum_le g.2.2.1; omega) hw).mono fun e w' h=>⟨(),h.1,trivial,h.2⟩) ?_
 intro _ _
 refine V0 (Ya O) (Ln (Et (Cb ?_)))
 refine CLk (ι:=Nat×List InsG×(List UInt8×Bool)×Option Addr×Nat) (fun e=>[(7,.int .i64 (e.1:Int))]) [(0,_),(2,_),(3,_),(4,_),(5,_)] (fun e=>Ws w [] [blk b14 (.cells #[st (e.2.2.1).1,.bool (e.2.2.1).2] 100 (0,0)),osT 9 1 strC g.2.2.2.1 g.2.2.2.2 (g.2.1),osT 67 3 InsG.cells e.2.2.2.1 e.2.2.2.2 (e.2.1),osl 70 3 (.slice none 0 0) 0 [],osl 3 1 (.slice none 0 0) 0 [],blk b5 (.cells #[st (noText (s,false)).1,.slice g.2.2.2.1 g.2.1.length g.2.2.2.2,.int .i64 (noNum g.2.2.1).1,.slice e.2.2.2.1 e.2.1.length e.2.2.2.2,.slice none 0 0,.slice none 0 0,.int .i64 0] 27 (0,0)),blk b2 (.cells (obV noTo noOA).toArray 27 (0,0))] []) (fun e=>e.1+e.2.1.length≤32768∧e.2.2.1.1.length≤9223372036854775807∧noL noIns (noCount (noNum g.2.2.1).2).1 (noCount (noNum g.2.2.1).2).2=(e.2.1++(noL noIns e.1 e.2.2.1).1,(noL noIns e.1 e.2.2.1).2)) (fun e=>e.1) ((noCount (noNum g.2.2.1).2).1,[],(noCount (noNum g.2.2.1).2).2,none,0) ⟨by have:=noCount_max (noNum g.2.2.1).2; simpa using this,by have:=noCount_le (noNum g.2.2.1).2; have:=noNum_le g.2.2.1; dsimp only; omega,by simp⟩ (sc O (sc O (sc O (sc O (sc O (sc O sn)))))) (fun _ h=>Ws.keep (L:=[_,_,_,_,_,_,_]) (Ws.fronti (Ws.fronti (Ws.fronti (Ws.fronti (Ws.fronti (Ws.fronti (Ws.fronti h 6 O) 6 O) 6 O) 6 O) 6 O) 6 O) 6 O)) ?_
 intro e ⟨hei,hes,heG⟩
 refine Cs (Cs (Cr (V0 (Ym O) (V0 (yl_gt O O) (V0 (Ym O) ?_)))))
 apply La 5 O O O O Y O O O O O
 ·
  intro hg1
  refine Vg (Ym O) (Vg (yl_nil O) (Vg (Yf fo100_1 O) (Vg (Yd 0 O O O na4) (Vg (yl_not O) ?_))))
  exact Gt 5 O O O
 refine Ln (Et ?_)
 refine Cc O (fun hc1=>?_) (fun hc1=>?_)
 ·
  have h9:=hc1
  simp only [Bool.and_eq_true,decide_eq_true_eq,Bool.not_eq_true'] at h9
  obtain ⟨he1,heb⟩:=h9
  obtain ⟨me,hem⟩:∃m,e.1=m+1:=⟨e.1-1,by omega⟩
  refine Ck (Et (Cs (Cb (Cs (Cr (V0 (Ym O) (Lf 0 O ?_)))))))
  refine Lw (ι:=Unit) [_] _ Y O en57 O O (fun _=>.int .i64 (noByte e.2.2.1).1) (fun _=>[blk b14 (.cells #[st ((noByte e.2.2.1).2).1,.bool ((noByte e.2.2.1).2).2] 100 (0,0))]) (fun _=>True) [] (by simp) (fun w hw=>(noByte_any b14 e.2.2.1 w hes hw).mono fun e w' h=>⟨(),h.1,trivial,h.2⟩) ?_
  intro _ _
  refine V0 (Yb zr67 pl67 O O) ?_
  refine Al Y O zr67 fun b8=>?_
  refine Lst 0 Y O O O sz67 O O O (Ln (Et (Cs (Cr (V0 (Ym O) (Lf 1 O ?_))))))
  refine Lw (ι:=Unit) [_] _ Y O en56 O O (fun _=>.int .i64 (noNum (noByte e.2.2.1).2).1) (fun _=>[blk b14 (.cells #[st ((noNum (noByte e.2.2.1).2).2).1,.bool ((noNum (noByte e.2.2.1).2).2).2] 100 (0,0))]) (fun _=>True) [] (by simp) (fun w hw=>(noNum_any b14 (noByte e.2.2.1).2 w (by have:=noByte_le e.2.2.1; omega) hw).mono fun e w' h=>⟨(),h.1,trivial,h.2⟩) ?_
  intro _ _
  refine V0 (Yf fo67_1 O) (Lst 1 Y O O O sz3 O O O (Ln (Et (Cs (Cr (V0 (Ym O) (Lf 0 O ?_)))))))
  refine Lw (ι:=Unit) [_] _ Y O en56 O O (fun _=>.int .i64 (noNum (noNum (noByte e.2.2.1).2).2).1) (fun _=>[blk b14 (.cells #[st ((noNum (noNum (noByte e.2.2.1).2).2).2).1,.bool ((noNum (noNum (noByte e.2.2.1).2).2).2).2] 100 (0,0))]) (fun _=>True) [] (by simp) (fun w hw=>(noNum_any b14 (noNum (noByte e.2.2.1).2).2 w (by have:=noByte_le e.2.2.1; have:=noNum_le (noByte e.2.2.1).2; omega) hw).mono fun e w' h=>⟨(),h.1,trivial,h.2⟩) ?_
  intro _ _
  refine V0 (Yf fo67_2 O) (Lst 1 Y O O O sz3 O O O (Ln (Et ?_)))
  refine Crb 1 (.cells (InsG.cells (noIns e.2.2.1).1).toArray 67 (0,0)) O O ?_
  refine Cr (V0 (Yf fo27_3 O) (V0 (Yd 6 O O O na23) (V0 (Yda 1 O O ag67 O) ?_)))
  refine Lb Y O el23 O O O O fun b66=>?_
  refine Lrb 0 (.cells (InsG.cells (noIns e.2.2.1).1).toArray 67 (0,0)) O O ?_
  refine LA (noIns e.2.2.1).1 4 0 Y O el23 O O O O O O (by omega) (by omega) fun a67 c67=>?_
  refine V0 (Yf fo27_3 O) (Lst 7 Y O O O sz23 O O O (Ln (Eb (Et (Cr (V0 (Ym O) ?_))))))
  refine V0 (yl_subv (((e.1:Nat):Int)-1) O O O (by omega)) ?_
  refine V0 (Ya O) (Ln ?_)
  rw [show (((e.1:Nat):Int)-1)=((e.1-1:Nat):Int) by omega]
  exact Ea ((e.1-1,e.2.1++[(noIns e.2.2.1).1],(noIns e.2.2.1).2,a67,c67):Nat×List InsG×(List UInt8×Bool)×Option Addr×Nat) (by dsimp only; omega) ⟨by simp; omega,by have:=noIns_le e.2.2.1; dsimp only; omega,by
      dsimp only
      rw [hem,Nat.add_sub_cancel]
      rw [hem] at heG
      exact noL_go heG heb⟩ (sc O (sc O (sc O (sc O (sc O (sc O sn)))))) (fun _ h=>Ws.keep (L:=[_,_,_,_,_,_,_]) (Ws.fronti (Ws.fronti (Ws.fronti (Ws.fronti (Ws.fronti (Ws.fronti (Ws.fronti h 8 O) 8 O) 8 O) 8 O) 8 O) 8 O) 7 O))
 have heN:noList noIns (noNum g.2.2.1).2=(e.2.1,e.2.2.1):=noL_stop heG hc1
 refine Ce (Ex (Ex (Ebh (Et (Cs (Cs (Cr (V0 (Ym O) (Lf 0 O ?_)))))))))
 refine Lw (ι:=Unit) [_] _ Y O en55 O O (fun _=>.int .i64 (((noCount e.2.2.1).1:Nat):Int)) (fun _=>[blk b14 (.cells #[st ((noCount e.2.2.1).2).1,.bool ((noCount e.2.2.1).2).2] 100 (0,0))]) (fun _=>True) [] (by simp) (fun w hw=>(noCount_any b14 e.2.2.1 w hes hw).mono fun e w' h=>⟨(),h.1,trivial,h.2⟩) ?_
 intro _ _
 refine V0 (Ya O) (Ln (Et (Cb ?_)))
 refine CLk (ι:=Nat×List FixE×(List UInt8×Bool)×Option Addr×Nat) (fun f=>[(9,.int .i64 (f.1:Int))]) [(0,_),(2,_),(3,_),(4,_),(5,_)] (fun f=>Ws w [] [blk b14 (.cells #[st (f.2.2.1).1,.bool (f.2.2.1).2] 100 (0,0)),osT 9 1 strC g.2.2.2.1 g.2.2.2.2 (g.2.1),osT 67 3 InsG.cells e.2.2.2.1 e.2.2.2.2 (e.2.1),osT 70 3 FixE.cells f.2.2.2.1 f.2.2.2.2 (f.2.1),osl 3 1 (.slice none 0 0) 0 [],blk b5 (.cells #[st (noText (s,false)).1,.slice g.2.2.2.1 g.2.1.length g.2.2.2.2,.int .i64 (noNum g.2.2.1).1,.slice e.2.2.2.1 e.2.1.length e.2.2.2.2,.slice f.2.2.2.1 f.2.1.length f.2.2.2.2,.slice none 0 0,.int .i64 0] 27 (0,0)),blk b2 (.cells (obV noTo noOA).toArray 27 (0,0))] []) (fun f=>f.1+f.2.1.length≤32768∧f.2.2.1.1.length≤9223372036854775807∧noL noFix (noCount e.2.2.1).1 (noCount e.2.2.1).2=(f.2.1++(noL noFix f.1 f.2.2.1).1,(noL noFix f.1 f.2.2.1).2)) (fun f=>f.1) ((noCount e.2.2.1).1,[],(noCount e.2.2.1).2,none,0) ⟨by have:=noCount_max e.2.2.1; simpa using this,by have:=noCount_le e.2.2.1; dsimp only; omega,by simp⟩ (sc O (sc O (sc O (sc O (sc O (sc O sn)))))) (fun _ h=>Ws.keep (L:=[_,_,_,_,_,_,_]) (Ws.fronti (Ws.fronti (Ws.fronti (Ws.fronti (Ws.fronti (Ws.fronti (Ws.fronti h 6 O) 6 O) 6 O) 6 O) 6 O) 6 O) 6 O)) ?_
 intro f ⟨hfi,hfs,hfG⟩
 refine Cs (Cs (Cr (V0 (Ym O) (V0 (yl_gt O O) (V0 (Ym O) ?_)))))
 apply La 5 O O O O Y O O O O O
 ·
  intro hg2
  refine Vg (Ym O) (Vg (yl_nil O) (Vg (Yf fo100_1 O) (Vg (Yd 0 O O O na4) (Vg (yl_not O) ?_))))
  exact Gt 5 O O O
 refine Ln (Et ?_)
 refine Cc O (fun hc2=>?_) (fun hc2=>?_)
 ·
  have h9:=hc2
  simp only [Bool.and_eq_true,decide_eq_true_eq,Bool.not_eq_true'] at h9
  obtain ⟨hf1,hfb⟩:=h9
  obtain ⟨mf,hfm⟩:∃m,f.1=m+1:=⟨f.1-1,by omega⟩
  refine Ck (Et (Cs (Cb (Cs (Cr (V0 (Ym O) (Lf 0 O ?_)))))))
  refine Lw (ι:=Unit) [_] _ Y O en56 O O (fun _=>.int .i64 (noNum f.2.2.1).1) (fun _=>[blk b14 (.cells #[st ((noNum f.2.2.1).2).1,.bool ((noNum f.2.2.1).2).2] 100 (0,0))]) (fun _=>True) [] (by simp) (fun w hw=>(noNum_any b14 f.2.2.1 w hfs hw).mono fun e w' h=>⟨(),h.1,trivial,h.2⟩) ?_
  intro _ _
  refine V0 (Yb zr70 pl70 O O) ?_
  refine Al Y O zr70 fun b10=>?_
  refine Lst 0 Y O O O sz70 O O O (Ln (Et (Cs (Cr (V0 (Ym O) (Lf 1 O ?_))))))
  refine Lw (ι:=Unit) [_] _ Y O en57 O O (fun _=>.int .i64 (noByte (noNum f.2.2.1).2).1) (fun _=>[blk b14 (.cells #[st ((noByte (noNum f.2.2.1).2).2).1,.bool ((noByte (noNum f.2.2.1).2).2).2] 100 (0,0))]) (fun _=>True) [] (by simp) (fun w hw=>(noByte_any b14 (noNum f.2.2.1).2 w (by have:=noNum_le f.2.2.1; omega) hw).mono fun e w' h=>⟨(),h.1,trivial,h.2⟩) ?_
  intro _ _
  refine V0 (Yf fo70_1 O) (Lst 1 Y O O O sz3 O O O (Ln (Et (Cs (Cr (V0 (Ym O) (Lf 0 O ?_)))))))
  refine Lw (ι:=Unit) [_] _ Y O en56 O O (fun _=>.int .i64 (noNum (noByte (noNum f.2.2.1).2).2).1) (fun _=>[blk b14 (.cells #[st ((noNum (noByte (noNum f.2.2.1).2).2).2).1,.bool ((noNum (noByte (noNum f.2.2.1).2).2).2).2] 100 (0,0))]) (fun _=>True) [] (by simp) (fun w hw=>(noNum_any b14 (noByte (noNum f.2.2.1).2).2 w (by have:=noNum_le f.2.2.1; have:=noByte_le (noNum f.2.2.1).2; omega) hw).mono fun e w' h=>⟨(),h.1,trivial,h.2⟩) ?_
  intro _ _
  refine V0 (Yf fo70_2 O) (Lst 1 Y O O O sz3 O O O (Ln (Et ?_)))
  refine Crb 1 (.cells (FixE.cells (noFix f.2.2.1).1).toArray 70 (0,0)) O O ?_
  refine Cr (V0 (Yf fo27_4 O) (V0 (Yd 6 O O O na24) (V0 (Yda 1 O O ag70 O) ?_)))
  refine Lb Y O el24 O O O O fun b94=>?_
  refine Lrb 0 (.cells (FixE.cells (noFix f.2.2.1).1).toArray 70 (0,0)) O O ?_
  refine LA (noFix f.2.2.1).1 5 0 Y O el24 O O O O O O (by omega) (by omega) fun a95 c95=>?_
  refine V0 (Yf fo27_4 O) (Lst 7 Y O O O sz24 O O O (Ln (Eb (Et (Cr (V0 (Ym O) ?_))))))
  refine V0 (yl_subv (((f.1:Nat):Int)-1) O O O (by omega)) ?_
  refine V0 (Ya O) (Ln ?_)
  rw [show (((f.1:Nat):Int)-1)=((f.1-1:Nat):Int) by omega]
  exact Ea ((f.1-1,f.2.1++[(noFix f.2.2.1).1],(noFix f.2.2.1).2,a95,c95):Nat×List FixE×(List UInt8×Bool)×Option Addr×Nat) (by dsimp only; omega) ⟨by simp; omega,by have:=noFix_le f.2.2.1; dsimp only; omega,by
      dsimp only
      rw [hfm,Nat.add_sub_cancel]
      rw [hfm] at hfG
      exact noL_go hfG hfb⟩ (sc O (sc O (sc O (sc O (sc O (sc O sn)))))) (fun _ h=>Ws.keep (L:=[_,_,_,_,_,_,_]) (Ws.fronti (Ws.fronti (Ws.fronti (Ws.fronti (Ws.fronti (Ws.fronti (Ws.fronti h 8 O) 8 O) 8 O) 8 O) 8 O) 8 O) 7 O))
 have hfN:noList noFix e.2.2.1=(f.2.1,f.2.2.1):=noL_stop hfG hc2
 refine Ce (Ex (Ex (Ebh (Et (Cs (Cs (Cr (V0 (Ym O) (Lf 0 O ?_)))))))))
 refine Lw (ι:=Unit) [_] _ Y O en55 O O (fun _=>.int .i64 (((noCount f.2.2.1).1:Nat):Int)) (fun _=>[blk b14 (.cells #[st ((noCount f.2.2.1).2).1,.bool ((noCount f.2.2.1).2).2] 100 (0,0))]) (fun _=>True) [] (by simp) (fun w hw=>(noCount_any b14 f.2.2.1 w hfs hw).mono fun e w' h=>⟨(),h.1,trivial,h.2⟩) ?_
 intro _ _
 refine V0 (Ya O) (Ln (Et (Cb ?_)))
 refine CLk (ι:=Nat×List Int×(List UInt8×Bool)×Option Addr×Nat) (fun h=>[(11,.int .i64 (h.1:Int))]) [(0,_),(2,_),(3,_),(4,_),(5,_)] (fun h=>Ws w [] [blk b14 (.cells #[st (h.2.2.1).1,.bool (h.2.2.1).2] 100 (0,0)),osT 9 1 strC g.2.2.2.1 g.2.2.2.2 (g.2.1),osT 67 3 InsG.cells e.2.2.2.1 e.2.2.2.2 (e.2.1),osT 70 3 FixE.cells f.2.2.2.1 f.2.2.2.2 (f.2.1),osT 3 1 n1C h.2.2.2.1 h.2.2.2.2 (h.2.1),blk b5 (.cells #[st (noText (s,false)).1,.slice g.2.2.2.1 g.2.1.length g.2.2.2.2,.int .i64 (noNum g.2.2.1).1,.slice e.2.2.2.1 e.2.1.length e.2.2.2.2,.slice f.2.2.2.1 f.2.1.length f.2.2.2.2,.slice h.2.2.2.1 h.2.1.length h.2.2.2.2,.int .i64 0] 27 (0,0)),blk b2 (.cells (obV noTo noOA).toArray 27 (0,0))] []) (fun h=>h.1+h.2.1.length≤32768∧h.2.2.1.1.length≤9223372036854775807∧noL noNum (noCount f.2.2.1).1 (noCount f.2.2.1).2=(h.2.1++(noL noNum h.1 h.2.2.1).1,(noL noNum h.1 h.2.2.1).2)) (fun h=>h.1) ((noCount f.2.2.1).1,[],(noCount f.2.2.1).2,none,0) ⟨by have:=noCount_max f.2.2.1; simpa using this,by have:=noCount_le f.2.2.1; dsimp only; omega,by simp⟩ (sc O (sc O (sc O (sc O (sc O (sc O sn)))))) (fun _ h=>Ws.keep (L:=[_,_,_,_,_,_,_]) (Ws.fronti (Ws.fronti (Ws.fronti (Ws.fronti (Ws.fronti (Ws.fronti (Ws.fronti h 6 O) 6 O) 6 O) 6 O) 6 O) 6 O) 6 O)) ?_
 intro h ⟨hhi,hhs,hhG⟩
 refine Cs (Cs (Cr (V0 (Ym O) (V0 (yl_gt O O) (V0 (Ym O) ?_)))))
 apply La 5 O O O O Y O O O O O
 ·
  intro hg3
  refine Vg (Ym O) (Vg (yl_nil O) (Vg (Yf fo100_1 O) (Vg (Yd 0 O O O na4) (Vg (yl_not O) ?_))))
  exact Gt 5 O O O
 refine Ln (Et ?_)
 refine Cc O (fun hc3=>?_) (fun hc3=>?_)
 ·
  have h9:=hc3
  simp only [Bool.and_eq_true,decide_eq_true_eq,Bool.not_eq_true'] at h9
  obtain ⟨hh1,hhb⟩:=h9
  obtain ⟨mh,hhm⟩:∃m,h.1=m+1:=⟨h.1-1,by omega⟩
  refine Ck (Et (Cs (Cb ?_)))
  refine CU (fun _=>true) [0,3] [6,7] (.q false 0 (.q true 1 (.q false 2 (.e 3 (.e 4 (.e 5 .nil .stop) .stop) .stop)))) mixed (by kernel_rfl) (fun _ _ _ d _ _ h=>by cases d<;>exact h) ?_
  refine U0 O (Wos [0,3]) (Yf fo27_5 O) (U0 O (Wos [0,3]) (Yd 3 O O O na25) (U0 O (Wos [0,3]) (Ym O) ?_))
  refine Ue O (Wos [0,3]) ?_ WU.stop
  refine Lf 0 O ?_
  refine Lw (ι:=Unit) [_] _ Y O en56 O O (fun _=>.int .i64 (noNum h.2.2.1).1) (fun _=>[blk b14 (.cells #[st ((noNum h.2.2.1).2).1,.bool ((noNum h.2.2.1).2).2] 100 (0,0))]) (fun _=>True) [] (by simp) (fun w hw=>(noNum_any b14 h.2.2.1 w hhs hw).mono fun e w' h=>⟨(),h.1,trivial,h.2⟩) ?_
  intro _ _
  refine Ln (Eu ?_)
  refine Ue O (Wos [0,3]) ?_ WU.stop
  refine Lb Y O el25 O O O O fun b114=>?_
  refine Lrb 0 (.cells (n1C (noNum h.2.2.1).1).toArray 3 (0,0)) O O ?_
  refine Ln (Eu ?_)
  refine Ue O (fun _ h=>(Wo 3 (Wo 0 (Wd 1 h)):)) ?_ WU.stop
  refine LA (noNum h.2.2.1).1 5 0 Y O el25 O O O O O O (by omega) (by omega) fun a115 c115=>?_
  refine Ln (Eu ?_)
  refine WU.nil (fun _ h=>(Wo 3 (Wo 0 (Wd 1 h)):)) ?_
  refine WS.e O ?_
  refine V0 (Yf fo27_5 O) (Ln (Es ?_))
  refine WS.e O ?_
  refine Lst 6 Y O O O sz25 O O O (Ln (Es ?_))
  refine WS.nil ?_
  refine Eb (Et (Cr (V0 (Ym O) ?_)))
  refine V0 (yl_subv (((h.1:Nat):Int)-1) O O O (by omega)) ?_
  refine V0 (Ya O) (Ln ?_)
  rw [show (((h.1:Nat):Int)-1)=((h.1-1:Nat):Int) by omega]
  exact Ea ((h.1-1,h.2.1++[(noNum h.2.2.1).1],(noNum h.2.2.1).2,a115,c115):Nat×List Int×(List UInt8×Bool)×Option Addr×Nat) (by dsimp only; omega) ⟨by simp; omega,by have:=noNum_le h.2.2.1; dsimp only; omega,by
      dsimp only
      rw [hhm,Nat.add_sub_cancel]
      rw [hhm] at hhG
      exact noL_go hhG hhb⟩ (sc O (sc O (sc O (sc O (sc O (sc O sn)))))) (fun _ h=>Ws.keep (L:=[_,_,_,_,_,_,_]) (Ws.fronti (Ws.fronti (Ws.fronti (Ws.fronti (Ws.fronti (Ws.fronti (Ws.fronti h 7 O) 7 O) 7 O) 7 O) 7 O) 7 O) 7 O))
 have hhN:noList noNum f.2.2.1=(h.2.1,h.2.2.1):=noL_stop hhG hc3
 refine Ce (Ex (Ex (Ebh (Et (Cs (Cr (V0 (Ym O) (Lf 0 O ?_))))))))
 refine Lw (ι:=Unit) [_] _ Y O en56 O O (fun _=>.int .i64 (noNum h.2.2.1).1) (fun _=>[blk b14 (.cells #[st ((noNum h.2.2.1).2).1,.bool ((noNum h.2.2.1).2).2] 100 (0,0))]) (fun _=>True) [] (by simp) (fun w hw=>(noNum_any b14 h.2.2.1 w hhs hw).mono fun e w' h=>⟨(),h.1,trivial,h.2⟩) ?_
 intro _ _
 refine V0 (Yf fo27_6 O) (Lst 5 Y O O O sz3 O O O (Ln (Et (Cs (Cs ?_)))))
 refine Crb 5 (.cells (obV (⟨(noText (s,false)).1,g.2.1,(noNum g.2.2.1).1,e.2.1,f.2.1,h.2.1,(noNum h.2.2.1).1⟩:TOb) (⟨g.2.2.2,e.2.2.2,f.2.2.2,h.2.2.2⟩:OAt)).toArray 27 (0,0)) O O ?_
 have hO:noOb (s,false)=((⟨(noText (s,false)).1,g.2.1,(noNum g.2.2.1).1,e.2.1,f.2.1,h.2.1,(noNum h.2.2.1).1⟩:TOb),(noNum h.2.2.1).2):=by simp only [noOb,hgN,heN,hfN,hhN]
 refine Cr (V0 (Ym O) (V0 (yl_nil O) (V0 (Yf fo100_1 O) (V0 (Yd 0 O O O na4) (V0 (Ym O) ?_)))))
 apply Lo 3 O O O O Y O O O O O
 ·
  intro hg4
  refine Vg (Yda 5 O O ag27 O) ?_
  refine Lp (.g O O O) O en11 O (fun w hw=>rcheckO_any (hv w) (⟨(noText (s,false)).1,g.2.1,(noNum g.2.2.1).1,e.2.1,f.2.1,h.2.1,(noNum h.2.2.1).1⟩:TOb) (⟨g.2.2.2,e.2.2.2,f.2.2.2,h.2.2.2⟩:OAt) w (hv_le w) ⟨hw.slTh 1 O strC_len (fun _ _ _ _ h=>h),hw.slTh 2 O InsG.cells_len (fun _ _ _ _ h=>h),hw.slTh 3 O FixE.cells_len (fun _ _ _ _ h=>h),hw.slTh 4 O n1C_len (fun _ _ _ _ h=>h)⟩) ?_
  refine Vg (yl_ne O O) ?_
  exact Gt 3 O O O
 refine V0 (Ym O) ?_
 apply Lo 4 O O O O Y O O O O O
 ·
  intro hg5
  have hz:checkO (⟨(noText (s,false)).1,g.2.1,(noNum g.2.2.1).1,e.2.1,f.2.1,h.2.1,(noNum h.2.2.1).1⟩:TOb)=0:=by simpa using (Bool.or_eq_false_iff.1 hg5).2
  refine Vg (Yda 5 O O ag27 O) ?_
  refine Lp (.g O O O) O en39 O (fun w hw=>objectBytes_any (hv w) (⟨(noText (s,false)).1,g.2.1,(noNum g.2.2.1).1,e.2.1,f.2.1,h.2.1,(noNum h.2.2.1).1⟩:TOb) (⟨g.2.2.2,e.2.2.2,f.2.2.2,h.2.2.2⟩:OAt) w (hv_le w) ⟨hw.slTh 1 O strC_len (fun _ _ _ _ h=>h),hw.slTh 2 O InsG.cells_len (fun _ _ _ _ h=>h),hw.slTh 3 O FixE.cells_len (fun _ _ _ _ h=>h),hw.slTh 4 O n1C_len (fun _ _ _ _ h=>h)⟩ (obL hz)) ?_
  refine Vg (Ym O) (Vg (yl_nes O O) ?_)
  exact Gt 4 O O O
 refine Ln (Et ?_)
 refine Cc O (fun hc4=>?_) (fun hc4=>?_)
 ·
  have hR:=fromE_no hO hc4
  refine Cs (Cr (V0 (Yb zr27 pl27 O O) (Lst 6 Y O O O sz27 O O O (V0 (Ya O) (Ln (Et (Crt (Er ?_))))))))
  refine WE.retR (rs_2 O (rv_agg 6 O O ag27 O) (rv_tmp O)) fun w' hw=>?_
  rw [hR]
  exact ⟨noOA,O,hw.fr,noTo_rd _⟩
 have hR:=fromE_ok hO hc4
 refine Ck (Et (Cs (Cr (V0 (Yda 5 O O ag27 O) (Lst 6 Y O O O sz27 O O O (V0 (Ya O) (Ln (Et (Crt ?_)))))))))
 refine WE.retR (rs_2 O (rv_agg 6 O O ag27 O) (rv_tmp O)) fun w' hw=>?_
 rw [hR]
 exact ⟨(⟨g.2.2.2,e.2.2.2,f.2.2.2,h.2.2.2⟩:OAt),O,hw.fr,⟨hw.slT 1 O strC_len (fun _ _ _ _ h=>h),hw.slT 2 O InsG.cells_len (fun _ _ _ _ h=>h),hw.slT 3 O FixE.cells_len (fun _ _ _ _ h=>h),hw.slT 4 O n1C_len (fun _ _ _ _ h=>h)⟩⟩
abbrev XO:=TOb×OAt
def XO.cells (e:XO):List Value:=obV e.1 e.2
theorem XO.cells_len (e:XO):(XO.cells e).length=7:=rfl
def rdXO (H:View) (b o:Nat) (e:XO):Prop:=RdC H b o (XO.cells e)
def rdTO (H:View) (b o:Nat) (x:TOb):Prop:=∃q,RdC H b o (obV x q)∧RdTo H q x
theorem rdto_mv {H H':View} {q:OAt} {o:TOb} (h:RdTo H q o) (hv:VLe H H'):RdTo H' q o:=⟨h.uses.imp fun _ _ _ r=>RdC.mono hv r,h.code.imp fun _ _ _ r=>RdC.mono hv r,h.fix.imp fun _ _ _ r=>RdC.mono hv r,h.ents.imp fun _ _ _ r=>RdC.mono hv r⟩
theorem slO_of {K N:View} {a:Option Addr} {c:Nat} {es:List XO} (h:Sl rdXO 7 K a c es) (hv:VLe K N) (he:∀e ∈ es,RdTo N e.2 e.1):Sl rdTO 7 N a c (es.map (·.1)):=by
 refine ⟨by rw [List.length_map]; exact h.cap,h.max,h.spot,fun i x hx=>?_⟩
 rw [List.getElem?_map] at hx
 obtain ⟨y,hy,rfl⟩:=Option.map_eq_some_iff.1 hx
 obtain ⟨b,o,ha,hr⟩:=h.elt i y hy
 exact ⟨b,o,ha,y.2,RdC.mono hv hr,he y (List.mem_of_getElem? hy)⟩
def ob0:TOb:=(genM (resolveM cntM []).1).1.to
def ob1:TOb:=(genM (resolveM topM fsC).1).1.to
theorem cnt_w8:wUn (resolveM cntM []).1≤1048576:=by decide +kernel
theorem top_w8:wUn (resolveM topM fsC).1≤1048576:=by decide +kernel
theorem ob0_check:checkO ob0=0:=by decide +kernel
theorem ob1_check:checkO ob1=0:=by decide +kernel
theorem ob0_len:(obB ob0).length=519:=by decide +kernel
theorem ob0_i:ObI ob0:=by
 have h:(ob0.code.all fun i=>(decide (-9223372036854775808≤i.a)&&decide (i.a≤9223372036854775807))&&(decide (-9223372036854775808≤i.b)&&decide (i.b≤9223372036854775807)))=true:=by decide +kernel
 refine ⟨fun i hi=>?_⟩
 have h1:=List.all_eq_true.1 h i hi
 simp only [Bool.and_eq_true,decide_eq_true_eq] at h1
 exact h1
theorem ob0_write:writeOb ob0=(obB ob0,0):=by rw [writeOb,if_pos ob0_check,if_neg (by rw [ob0_len]; decide)]
theorem readE_of {s:List UInt8} {o:TOb} (hl:s.length≤32768) (h:readOb s=some o):readE s=(o,0):=by rw [readE,if_neg (by omega),h]
theorem readE_not {s:List UInt8} (hl:s.length≤32768) (h:readOb s=none):readE s=(noTo,1):=by rw [readE,if_neg (by omega),h]
theorem ob0_read:readE (obB ob0)=(ob0,0):=by
 refine readE_of (by rw [ob0_len]; decide) ?_
 have h:=write_read (o:=ob0) (by rw [ob0_write]) ob0_i
 rw [ob0_write] at h
 exact h
theorem ob0_read2:readE (obB ob0++[120])=(noTo,1):=by
 refine readE_not (by rw [List.length_append,ob0_len]; decide) ?_
 obtain ⟨hm,hk⟩:=check_zero ob0_check
 have hl:=obL ob0_check
 have h:=glOb_of hk hm ob0_i (fun s hs=>name_short (hk.names s hs)) (by have:=hl.fix; omega) [120]
 unfold readOb
 rw [h]
 show (if ([120]:List UInt8)=[]∧checkO ob0=0 then some ob0 else none)=none
 rw [if_neg (fun k=>by cases k.1)]
theorem read_from {s:List UInt8} (hl:¬32768<s.length):readE s=((fromE s).1,if (fromE s).2=true then 0 else 1):=by
 rw [readE,if_neg hl,←from_read]
 unfold fromE
 cases fromOb s with
 | none=>rfl
 | some o=>rfl
theorem en71:Enters Tryz.prog 71:=enters_of Tryz.func71 (by kernel_rfl) rfl
theorem en25:Enters Tryz.prog 25:=enters_of Tryz.func25 (by kernel_rfl) rfl
theorem el40:EltOk Tryz.prog 40 27 (.agg #[st [],.slice none 0 0,.int .i64 0,.slice none 0 0,.slice none 0 0,.slice none 0 0,.int .i64 0]) 7 128:=eltOk_of (by kernel_rfl)
theorem sameInts_eqT (H1 H2:View) (a1 a2:Option Addr) (c1 c2:Nat) (l:List Int) (w:World) (hH1:Le H1 w) (hH2:Le H2 w) (hm1:Sl rdN1 1 H1 a1 c1 l) (hm2:Sl rdN1 1 H2 a2 c2 l) :
   Calls Tryz.prog 53 #[.slice a1 l.length c1,.slice a2 l.length c2] w fun e w'=>e = .returned (.bool true)∧Ext w w':=by
 have hcap1:=hm1.cap
 have hmax1:=hm1.max
 have hcap2:=hm2.cap
 have hmax2:=hm2.max
 refine enter Tryz.func53 O 26 O O ?_
 refine CE (Vs:=[H1,H2]) (Ws.init (by simp [hH1,hH2])) ?_
 refine Cs (Cr (V0 (Ya O) (Ln (Et (Cs (Cs (Cr (V0 (Ym O) (V0 (Yn es25 O) (V0 (Ym O) ?_))))))))))
 refine V0 (Yn es25 O) (V0 (yl_neY O O O) (Ln (Et ?_)))
 refine WC.condf O ?_
 refine Ck (Et (Cs (Cs (Cr (V0 (Ya O) (Ln (Et (Cb ?_))))))))
 refine CW (ι:=Nat) (fun i=>[(5,.int .i64 (i:Int))]) [(0,_),(1,_)] (fun i=>i≤l.length) (fun i=>l.length-i) 0 (Nat.zero_le _) (sc O (sc O (sc O sn))) ?_
 intro i hi
 refine Cs (Cs (Cr (V0 (Ym O) (V0 (Ym O) (V0 (Yn es25 O) (V0 (yl_lt O O) (Ln (Et ?_))))))))
 refine Cc O (fun hc1=>?_) (fun hc1=>?_)
 ·
  have hlt:i<l.length:=by simpa using hc1
  obtain ⟨x,hx⟩:∃x,l[i]? = some x:=⟨_,List.getElem?_eq_getElem hlt⟩
  obtain ⟨pb,po,ha1,hr1⟩:=hm1.elt i x hx
  obtain ⟨qb,qo,ha2,hr2⟩:=hm2.elt i x hx
  have hr1:RdC H1 pb (po+i*1) (n1C x):=hr1
  have hr2:RdC H2 qb (qo+i*1) (n1C x):=hr2
  refine Ck (Et (Cs (Cb (Cs ?_))))
  refine WC.draws0 [(0,true),(1,true),(2,true),(3,true),(4,true),(5,true),(6,true),(7,true),(8,true)] mixed (by kernel_rfl) (fun _ _ _ d _ h=>by cases d<;>exact h) ?_
  refine D0 O (fun _ h=>h) (Ym O) (D0 O (fun _ h=>h) (Ym O) ?_)
  refine D0 O (fun _ h=>h) (Yo es25 O O ha1 (by omega)) ?_
  refine D0 O (fun _ h=>h) (yl_ld 0 na3 O O (hr1 0 _ O)) (D0 O (fun _ h=>h) (Ym O) (D0 O (fun _ h=>h) (Ym O) ?_))
  refine D0 O (fun _ h=>h) (Yo es25 O O ha2 (by omega)) ?_
  refine D0 O (fun _ h=>h) (yl_ld 1 na3 O O (hr2 0 _ O)) (D0 O (fun _ h=>h) (yl_neY O O O) ?_)
  refine WD.nil (fun _ h=>h) ?_
  refine Et ?_
  refine WC.condf O ?_
  refine Ck (Eb (Et (Cr (V0 (Ym O) ?_))))
  refine V0 (Yi O O O (by omega)) ?_
  refine V0 (Ya O) (Ln ?_)
  exact Ea (i+1) (by omega) (by omega) (sc O (sc O (sc O sn))) (fun _ h=>h)
 refine Ce (Ex (Ex (Ebh (Et (Cs (Cr (V0 (Ya O) (Ln (Et (Crt ?_))))))))))
 refine R1 O O fun w' hw=>?_
 exact ⟨O,hw.fr⟩
theorem sameObjects_eqT (H1 H2:View) (q1 q2:OAt) (o:TOb) (w:World) (hH1:Le H1 w) (hH2:Le H2 w) (hm1:RdTo H1 q1 o) (hm2:RdTo H2 q2 o) :
   Calls Tryz.prog 15 #[.agg (obV o q1).toArray,.agg (obV o q2).toArray] w fun e w'=>e = .returned (.bool true)∧Ext w w':=by
 have cf1:=hm1.fix.cap
 have mf1:=hm1.fix.max
 have cf2:=hm2.fix.cap
 have mf2:=hm2.fix.max
 refine enter Tryz.func15 O 76 O O ?_
 refine CE (Vs:=[H1,H2]) (Ws.init (by simp [hH1,hH2])) ?_
 refine Cs (Cr ?_)
 refine WL.box Y O O fun b2=>?_
 refine WL.box Y O O fun b3=>?_
 refine V0 (Ya O) (Ln (Et (Cs (Cs (Cr (V0 (Yf fo27_0 O) (V0 (Yd 1 O O O na9) (V0 (Yf fo27_0 O) (V0 (Yd 0 O O O na9) ?_)))))))))
 refine V0 (yl_nesY O O O) (V0 (Ym O) ?_)
 apply Lo 6 (x:=false) O O O O Y O O O O O
 ·
  intro hg0
  refine Vg (Yf fo27_1 O) (Vg (Yd 1 O O O na22) (Vg (Yf fo27_1 O) (Vg (Yd 0 O O O na22) ?_)))
  refine Lp (.g O O O) O en51 O (fun w hw=>sameTexts_eq H1 H2 q1.s1.1 q2.s1.1 q1.s1.2 q2.s1.2 o.uses w (hw.vs _ (by simp)) (hw.vs _ (by simp)) hm1.uses hm2.uses) ?_
  refine Vg (yl_not O) ?_
  exact Gt 6 O O O
 refine V0 (Ym O) ?_
 apply Lo 5 (x:=false) O O O O Y O O O O O
 ·
  intro hg1
  refine Vg (Yf fo27_2 O) (Vg (Yd 1 O O O na3) (Vg (Yf fo27_2 O) (Vg (Yd 0 O O O na3) (Vg (yl_neY O O O) ?_))))
  exact Gt 5 O O O
 refine V0 (Ym O) ?_
 apply Lo 6 (x:=false) O O O O Y O O O O O
 ·
  intro hg2
  refine Vg (Yf fo27_3 O) (Vg (Yd 1 O O O na23) (Vg (Yf fo27_3 O) (Vg (Yd 0 O O O na23) ?_)))
  refine Lp (.g O O O) O en52 O (fun w hw=>sameCode_eqG H1 H2 q1.s2.1 q2.s2.1 q1.s2.2 q2.s2.2 o.code w (hw.vs _ (by simp)) (hw.vs _ (by simp)) hm1.code hm2.code) ?_
  refine Vg (yl_not O) ?_
  exact Gt 6 O O O
 refine V0 (Ym O) ?_
 apply Lo 7 (x:=false) O O O O Y O O O O O
 ·
  intro hg3
  refine Vg (Yf fo27_4 O) (Vg (Yd 1 O O O na24) (Vg (Yn es24 O) (Vg (Yf fo27_4 O) (Vg (Yd 0 O O O na24) (Vg (Yn es24 O) ?_)))))
  refine Vg (yl_neY O O O) ?_
  exact Gt 7 O O O
 refine V0 (Ym O) ?_
 apply Lo 6 (x:=false) O O O O Y O O O O O
 ·
  intro hg4
  refine Vg (Yf fo27_5 O) (Vg (Yd 1 O O O na25) (Vg (Yf fo27_5 O) (Vg (Yd 0 O O O na25) ?_)))
  refine Lp (.g O O O) O en53 O (fun w hw=>sameInts_eqT H1 H2 q1.s4.1 q2.s4.1 q1.s4.2 q2.s4.2 o.ents w (hw.vs _ (by simp)) (hw.vs _ (by simp)) hm1.ents hm2.ents) ?_
  refine Vg (yl_not O) ?_
  exact Gt 6 O O O
 refine V0 (Ym O) ?_
 apply Lo 5 (x:=false) O O O O Y O O O O O
 ·
  intro hg5
  refine Vg (Yf fo27_6 O) (Vg (Yd 1 O O O na3) (Vg (Yf fo27_6 O) (Vg (Yd 0 O O O na3) (Vg (yl_neY O O O) ?_))))
  exact Gt 5 O O O
 refine Ln (Et ?_)
 refine WC.condf O ?_
 refine Ck (Et (Cs (Cs (Cr (V0 (Ya O) (Ln (Et (Cb ?_))))))))
 refine CW (ι:=Nat) (fun i=>[(5,.int .i64 (i:Int))]) [(2,_),(3,_)] (fun i=>i≤o.fix.length) (fun i=>o.fix.length-i) 0 (Nat.zero_le _) (sc O (sc O (sc O sn))) ?_
 intro i hi
 refine Cs (Cs (Cr (V0 (Ym O) (V0 (Yf fo27_4 O) (V0 (Yd 1 O O O na24) (V0 (Yn es24 O) (V0 (yl_lt O O) ?_)))))))
 refine Ln (Et ?_)
 refine Cc O (fun hc1=>?_) (fun hc1=>?_)
 ·
  have hlt:i<o.fix.length:=by simpa using hc1
  obtain ⟨x,hx⟩:∃x,o.fix[i]? = some x:=⟨_,List.getElem?_eq_getElem hlt⟩
  obtain ⟨pb,po,ha1,hr1⟩:=hm1.fix.elt i x hx
  obtain ⟨qb,qo,ha2,hr2⟩:=hm2.fix.elt i x hx
  have hr1:RdC H1 pb (po+i*3) x.cells:=hr1
  have hr2:RdC H2 qb (qo+i*3) x.cells:=hr2
  refine Ck (Et (Cs (Cb (Cs ?_))))
  refine WC.draws0 [(0,true),(1,true),(2,true),(3,true),(4,true),(5,true),(6,true),(7,true),(8,true),(9,true),(10,true)] mixed (by kernel_rfl) (fun _ _ _ d _ h=>by cases d<;>exact h) ?_
  refine D0 O (fun _ h=>h) (Yf fo27_4 O) (D0 O (fun _ h=>h) (Yd 1 O O O na24) (D0 O (fun _ h=>h) (Ym O) ?_))
  refine D0 O (fun _ h=>h) (Yo es24 O O ha1 (by omega)) ?_
  refine D0 O (fun _ h=>h) (yl_lda 0 ag70 O O O (hr1)) (D0 O (fun _ h=>h) (Yf fo27_4 O) (D0 O (fun _ h=>h) (Yd 0 O O O na24) (D0 O (fun _ h=>h) (Ym O) ?_)))
  refine D0 O (fun _ h=>h) (Yo es24 O O ha2 (by omega)) ?_
  refine D0 O (fun _ h=>h) (yl_lda 1 ag70 O O O (hr2)) (D0 O (fun _ h=>h) (yl_nestY fl70 O O O O) ?_)
  refine WD.nil (fun _ h=>h) ?_
  refine Et ?_
  refine WC.condf O ?_
  refine Ck (Eb (Et (Cr (V0 (Ym O) ?_))))
  refine V0 (Yi O O O (by omega)) ?_
  refine V0 (Ya O) (Ln ?_)
  exact Ea (i+1) (by omega) (by omega) (sc O (sc O (sc O sn))) (fun _ h=>h)
 refine Ce (Ex (Ex (Ebh (Et (Cs (Cr (V0 (Ya O) (Ln (Et (Crt ?_))))))))))
 refine R1 O O fun w' hw=>?_
 exact ⟨O,hw.fr⟩
theorem genT_any (H:View) (ke k:Nat) (u:TUnit) (r:UAt) (w:World) (hH:Le H w) (hu:RdU ke k H r u) (hub:wUn u≤1048576):Calls Tryz.prog 25 #[.agg (unitV u r).toArray] w fun e w'=>∃r:OAt,e = .returned (.tuple #[.agg (obV (genM u).1.to r).toArray,.int .i64 (genM u).2])∧Ext w w'∧RdTo (nv w w') r (genM u).1.to:=
 (gen_any H ke k u r w hH hu hub).mono fun e w' ⟨r,he,hx,hr⟩=>⟨r,by rw [he,to_V],hx,to_rd hr⟩
theorem objects_any (G:View) (w:World) (hG:Le G w) (hz:Laid G) :
   Calls Tryz.prog 28 #[] w fun e w'=>∃q:SP,e = .returned (.slice q.1 2 q.2)∧Ext w w'∧Sl rdTO 7 (nv w w') q.1 q.2 [ob0,ob1]:=by
 refine enter Tryz.func28 O 22 O O ?_
 refine CE (Vs:=[G]) (Ws.init (by simp [hG])) ?_
 refine Cs (Cr (V0 (Ya O) (Ln (Et (Cs ?_)))))
 obtain ⟨o0,ho0⟩:∃c,c=(genM (resolveM cntM []).1).1.to:=⟨_,rfl⟩
 obtain ⟨o1,ho1⟩:∃c,c=(genM (resolveM topM fsC).1).1.to:=⟨_,rfl⟩
 obtain ⟨e0,he0⟩:∃c,c=(genM (resolveM cntM []).1).2:=⟨_,rfl⟩
 obtain ⟨e1,he1⟩:∃c,c=(genM (resolveM topM fsC).1).2:=⟨_,rfl⟩
 refine Cr ?_
 refine Ld Y O en71 O (fun q:SP=>.slice q.1 2 q.2) (fun F q=>Sl (rdU2 8 7) 5 F q.1 q.2 progU) (fun w hw=>program_any G w (hw.vs _ (by simp)) hz) ?_
 intro F6 r6 hf6 h6
 obtain ⟨pbu9,pou9,hau9,ur9,hrow9,hru9⟩:=h6.elt 0 _ rfl
 have hcap6:=h6.cap
 have hmax6:=h6.max
 refine V0 (Yo (i:=0) es49 O O hau9 (by decide)) ?_
 refine V0 (yl_lda 0 ag58 O O O (hrow9)) ?_
 refine Ld Y O en25 O (fun r:OAt=>.tuple #[.agg (obV (o0) r).toArray,.int .i64 (e0)]) (fun F r=>RdTo F r o0) (fun w hw=>by
     have h99:=genT_any F6 8 7 (resolveM cntM []).1 ur9 w (hw.vs _ (by simp)) hru9 cnt_w8
     rw [←ho0,←he0] at h99
     exact h99) ?_
 intro F9 r9 hf9 h9
 refine V0 (Ym O) (V0 (Yx O O) (V0 (Yx O O) ?_))
 refine Al Y O zr27 fun b1=>?_
 refine Lst 0 Y O O O sz27 O O O (V0 (Ya O) (Ln (Et (Cs (Cr ?_)))))
 refine Ld Y O en71 O (fun q:SP=>.slice q.1 2 q.2) (fun F q=>Sl (rdU2 8 7) 5 F q.1 q.2 progU) (fun w hw=>program_any G w (hw.vs _ (by simp)) hz) ?_
 intro F13 r13 hf13 h13
 obtain ⟨pbu16,pou16,hau16,ur16,hrow16,hru16⟩:=h13.elt 1 _ rfl
 have hcap13:=h13.cap
 have hmax13:=h13.max
 refine V0 (Yo (i:=1) es49 O O hau16 (by decide)) ?_
 refine V0 (yl_lda 0 ag58 O O O (hrow16)) ?_
 refine Ld Y O en25 O (fun r:OAt=>.tuple #[.agg (obV (o1) r).toArray,.int .i64 (e1)]) (fun F r=>RdTo F r o1) (fun w hw=>by
     have h99:=genT_any F13 8 7 (resolveM topM fsC).1 ur16 w (hw.vs _ (by simp)) hru16 top_w8
     rw [←ho1,←he1] at h99
     exact h99) ?_
 intro F16 r16 hf16 h16
 refine V0 (Ym O) (V0 (Yx O O) (V0 (Yx O O) ?_))
 refine Al Y O zr27 fun b3=>?_
 refine Lst 0 Y O O O sz27 O O O (V0 (Ya O) (Ln (Et (Cs (Cr (V0 (Yda 1 O O ag27 O) (V0 (Yda 0 O O ag27 O) ?_)))))))
 refine Lb Y O el40 O O O O fun b21=>?_
 refine Lrb 0 (.cells ((([(o0,r9),(o1,r16)]:List XO)).flatMap XO.cells).toArray 27 (0,0)) O O ?_
 refine LW (fun _ h=>h.osT_blk (f:=XO.cells) (xs:=([(o0,r9),(o1,r16)]:List XO)) (c:=2) 0 O XO.cells_len O (by decide)) ?_
 refine V0 (Ya O) (Ln (Et (Crt ?_)))
 refine R1 O O fun w' hw=>?_
 refine ⟨(some ⟨b21,0,none⟩,2),O,hw.fr,?_⟩
 unfold ob0 ob1
 rw [←ho0,←ho1]
 have hT:=hw.slT (rd:=rdXO) 0 rfl XO.cells_len (fun _ _ _ _ h=>h)
 exact slO_of (es:=[(o0,r9),(o1,r16)]) hT (fun _ _ h=>h) fun e he=>by
   simp only [List.mem_cons,List.not_mem_nil,or_false] at he
   rcases he with rfl | rfl
   · exact rdto_mv h9 (nv_vs hw (by simp) hf9)
   · exact rdto_mv h16 (nv_vs hw (by simp) hf16)
theorem ob_facts:∃o0 o1:TOb,[ob0,ob1]=[o0,o1]∧writeOb o0=(obB o0,0)∧readE (obB o0)=(o0,0)∧readE (obB o0++[120])=(noTo,1)∧(obB o0).length=519∧checkO o1=0:=⟨ob0,ob1,rfl,ob0_write,ob0_read,ob0_read2,ob0_len,ob1_check⟩
theorem en28:Enters Tryz.prog 28:=enters_of Tryz.func28 (by kernel_rfl) rfl
theorem es40:elemSz Tryz.prog 40=some 7:=by kernel_rfl
theorem en12:Enters Tryz.prog 12:=enters_of Tryz.func12 (by kernel_rfl) rfl
theorem en14:Enters Tryz.prog 14:=enters_of Tryz.func14 (by kernel_rfl) rfl
theorem en15:Enters Tryz.prog 15:=enters_of Tryz.func15 (by kernel_rfl) rfl
theorem en9:Enters Tryz.prog 9:=enters_of Tryz.func9 (by kernel_rfl) rfl
theorem en13:Enters Tryz.prog 13:=enters_of Tryz.func13 (by kernel_rfl) rfl
theorem en16:Enters Tryz.prog 16:=enters_of Tryz.func16 (by kernel_rfl) rfl
theorem objBegun_any (G:View) (w:World) (hG:Le G w) (hz:Laid G) :
   Calls Tryz.prog 9 #[] w fun e w'=>e = .returned (.bool true)∧Ext w w':=by
 refine enter Tryz.func9 O 54 O O ?_
 refine CE (Vs:=[G]) (Ws.init (by simp [hG])) ?_
 refine Cs (Cr (V0 (Ya O) (Ln (Et (Cs ?_)))))
 obtain ⟨o0,o1,hob,hwr,hrd,hrd2,hlen,hck⟩:=ob_facts
 refine Cr ?_
 refine Ld Y O en28 O (fun q:SP=>.slice q.1 2 q.2) (fun F q=>Sl rdTO 7 F q.1 q.2 [o0,o1]) (fun w hw=>by
     have h99:=objects_any G w (hw.vs _ (by simp)) hz
     rw [hob] at h99
     exact h99) ?_
 intro F8 r8 hf8 h8
 obtain ⟨pb8,po8,ha8,q8,hrow8,hm8⟩:=h8.elt 0 _ rfl
 have hcap8:=h8.cap
 have hmax8:=h8.max
 refine V0 (Yo (i:=0) es40 O O ha8 (by decide)) ?_
 refine V0 (yl_lda 0 ag27 O O O (hrow8)) ?_
 refine Lp Y O en12 O (fun w hw=>by
     have h99:=objWrite_any F8 o0 q8 w (hw.vs _ (by simp)) hm8
     rw [hwr] at h99
     exact h99) ?_
 refine V0 (Ym O) (V0 (Yx O O) (V0 (Yx O O) (V0 (Ya O) (V0 (Ya O) (Ln (Et (Cs (Cr ?_))))))))
 refine V0 (Ym O) ?_
 refine Ld Y O en14 O (fun r:OAt=>.tuple #[.agg (obV (o0) r).toArray,.int .i64 (0)]) (fun F r=>RdTo F r o0) (fun w hw=>by
     have h99:=objRead_any (obB o0) w (by rw [hlen]; decide)
     rw [hrd] at h99
     exact h99) ?_
 intro F16 r16 hf16 h16
 refine V0 (Ym O) (V0 (Yx O O) (V0 (Yx O O) ?_))
 refine Al Y O zr27 fun b3=>?_
 refine Lst 0 Y O O O sz27 O O O (V0 (Ya O) (Ln (Et (Cs (Cr (V0 (Ym O) ?_))))))
 refine V0 (yl_cats O O (by rw [hlen]; decide)) ?_
 refine Ld Y O en14 O (fun r:OAt=>.tuple #[.agg (obV (noTo) r).toArray,.int .i64 (1)]) (fun F r=>RdTo F r noTo) (fun w hw=>by
     have h99:=objRead_any (obB o0++[120]) w (by rw [List.length_append,hlen]; decide)
     rw [hrd2] at h99
     exact h99) ?_
 intro F22 r22 hf22 h22
 refine V0 (Ym O) (V0 (Yx O O) (V0 (Yx O O) ?_))
 refine Al Y O zr27 fun b5=>?_
 refine Lst 0 Y O O O sz27 O O O (V0 (Ya O) (Ln (Et (Cs ?_))))
 refine WC.draws0 [(0,false),(1,true),(2,false),(3,false),(4,true),(5,true),(6,true),(7,true),(8,true),(9,true),(10,true),(11,true),(12,true),(13,true),(14,true),(15,true),(16,true),(17,true),(18,true),(19,true),(20,true),(21,true),(22,true),(23,true),(24,false),(25,true),(26,false),(27,false),(28,true),(29,true)] mixed (by kernel_rfl) (fun _ _ _ d _ h=>by cases d<;>exact h) ?_
 refine De O (fun _ h=>h) ?_
 refine Ld Y O en28 O (fun q:SP=>.slice q.1 2 q.2) (fun F q=>Sl rdTO 7 F q.1 q.2 [o0,o1]) (fun w hw=>by
     have h99:=objects_any G w (hw.vs _ (by simp)) hz
     rw [hob] at h99
     exact h99) ?_
 intro F25 r25 hf25 h25
 obtain ⟨pb25,po25,ha25,q25,hrow25,hm25⟩:=h25.elt 1 _ rfl
 have hcap25:=h25.cap
 have hmax25:=h25.max
 refine Ln (Ed ?_)
 refine D0 O (fun _ h=>(Wv 1 h:)) (Yo (i:=1) es40 O O ha25 (by decide)) ?_
 refine De O (fun _ h=>(Wv 1 h:)) ?_
 refine V0 (yl_lda 0 ag27 O O O (hrow25)) (Ln (Ed ?_))
 refine De O (fun _ h=>(Wv 1 h:)) ?_
 refine Lp Y O en10 O (fun w hw=>by
     have h99:=ocheck_any F25 o1 q25 w (hw.vs _ (by simp)) hm25
     rw [hck] at h99
     exact h99) ?_
 refine Ln (Ed (D0 O (fun _ h=>(Wv 1 h:)) (yl_eqiY O O O) (D0 O (fun _ h=>(Wv 1 h:)) (Ym O) ?_)))
 apply WD.and 2 (x:=true) O O O O O Y O (fun _ h=>(Wv 1 h:)) O O O O
 ·
  intro hg0
  refine Dq O (.g O O O) O (fun _ h=>(Wv 1 h:)) (Ym O) ?_
  refine Dq O (.g O O O) O (fun _ h=>(Wv 1 h:)) (yl_eqiY O O O) ?_
  exact Gi 2 (fun _ h=>(Wv 1 h:)) O O O
 refine D0 O (fun _ h=>(Wv 1 h:)) (Ym O) ?_
 apply WD.and 2 (x:=true) O O O O O Y O (fun _ h=>(Wv 1 h:)) O O O O
 ·
  intro hg1
  refine Dq O (.g O O O) O (fun _ h=>(Wv 1 h:)) (Ym O) ?_
  refine Dq O (.g O O O) O (fun _ h=>(Wv 1 h:)) (yl_eqiY O O O) ?_
  exact Gi 2 (fun _ h=>(Wv 1 h:)) O O O
 refine D0 O (fun _ h=>(Wv 1 h:)) (Ym O) ?_
 apply WD.and 2 (x:=true) O O O O O Y O (fun _ h=>(Wv 1 h:)) O O O O
 ·
  intro hg2
  refine Dq O (.g O O O) O (fun _ h=>(Wv 1 h:)) (Ym O) ?_
  refine Dq O (.g O O O) O (fun _ h=>(Wv 1 h:)) (yl_eqiY O O O) ?_
  exact Gi 2 (fun _ h=>(Wv 1 h:)) O O O
 refine D0 O (fun _ h=>(Wv 1 h:)) (Ym O) ?_
 apply WD.and 3 (x:=true) O O O O O Y O (fun _ h=>(Wv 1 h:)) O O O O
 ·
  intro hg3
  refine Dq O (.g O O O) O (fun _ h=>(Wv 1 h:)) (Ym O) ?_
  refine Dq O (.g O O O) O (fun _ h=>(Wv 1 h:)) (yl_lens us9 O) ?_
  refine Dq O (.g O O O) O (fun _ h=>(Wv 1 h:)) (yl_eqiY O O (by rw [hlen]; rfl)) ?_
  exact Gi 3 (fun _ h=>(Wv 1 h:)) O O O
 refine D0 O (fun _ h=>(Wv 1 h:)) (Ym O) ?_
 apply WD.and 5 (x:=true) O O O O O Y O (fun _ h=>(Wv 1 h:)) O O O O
 ·
  intro hg4
  refine Dq O (.g O O O) O (fun _ h=>(Wv 1 h:)) (Yda 1 O O ag27 O) ?_
  refine De O (fun _ h=>(Wv 1 h:)) ?_
  refine Ld (.g O O O) O en28 O (fun q:SP=>.slice q.1 2 q.2) (fun F q=>Sl rdTO 7 F q.1 q.2 [o0,o1]) (fun w hw=>by
      have h99:=objects_any G w (hw.vs _ (by simp)) hz
      rw [hob] at h99
      exact h99) ?_
  intro F49 r49 hf49 h49
  obtain ⟨pb49,po49,ha49,q49,hrow49,hm49⟩:=h49.elt 0 _ rfl
  have hcap49:=h49.cap
  have hmax49:=h49.max
  refine Ln (Ed ?_)
  refine Dq O (.g O O O) O (fun _ h=>(Wv 2 h:)) (Yo (i:=0) es40 O O ha49 (by decide)) ?_
  refine De O (fun _ h=>(Wv 2 h:)) ?_
  refine Vg (yl_lda 0 ag27 O O O (hrow49)) (Ln (Ed ?_))
  refine De O (fun _ h=>(Wv 2 h:)) ?_
  refine Lp (.g O O O) O en15 O (fun w hw=>sameObjects_eqT F16 F49 r16 q49 o0 w (hw.vs _ (by simp)) (hw.vs _ (by simp)) h16 hm49) ?_
  refine Ln (Ed ?_)
  refine WD.wk (W':=Ws _ _ [_,_] [_,_,_,_,_]) (fun _ h=>Ws.drops (h) (fun _ hm=>List.mem_append_right [_] hm)) ?_
  exact Gi 5 (fun _ h=>(Wv 1 h:)) O O O
 refine D0 O (fun _ h=>(Wv 1 h:)) (Ya O) ?_
 refine WD.nil (fun _ h=>(Wv 1 h:)) ?_
 refine Et (Crt ?_)
 refine R1 O O fun w' hw=>?_
 exact ⟨O,hw.fr⟩
theorem objWrites_any (G H:View) (o:TOb) (q:OAt) (s:List UInt8) (w:World) (hG:Le G w) (hz:Laid G) (hH:Le H w) (hm:RdTo H q o) (hs:s.length≤9223372036854775807) :
   Calls Tryz.prog 4 #[.agg (obV o q).toArray,st s] w fun e w'=>e = .returned (.bool true)∧Ext w w':=by
 refine enter Tryz.func4 O 80 O O ?_
 refine CE (Vs:=[G,H]) (Ws.init (by simp [hG,hH])) ?_
 refine Cs (Cr ?_)
 refine WL.box Y O O fun b2=>?_
 refine V0 (Ya O) (Ln (Et (Cs (Cr (V0 (Yda 0 O O ag27 O) ?_)))))
 refine Lp Y O en12 O (fun w hw=>objWrite_any H o q w (hw.vs _ (by simp)) hm) ?_
 refine V0 (Ym O) (V0 (Yx O O) (V0 (Yx O O) (V0 (Ya O) (V0 (Ya O) (Ln (Et (Cs (Cr ?_))))))))
 refine V0 (Yda 0 O O ag27 O) ?_
 refine Lp Y O en13 O (fun w hw=>rwriteO_any H o q w (hw.vs _ (by simp)) hm) ?_
 refine V0 (Ym O) (V0 (Yx O O) (V0 (Yx O O) (V0 (Ya O) (V0 (Ya O) (Ln (Et (Cs (Cr ?_))))))))
 refine V0 (Ym O) ?_
 refine Ld Y O en14 O (fun r:OAt=>.tuple #[.agg (obV ((readE s).1) r).toArray,.int .i64 ((readE s).2)]) (fun F r=>RdTo F r (readE s).1) (fun w hw=>objRead_any s w hs) ?_
 intro F26 r26 hf26 h26
 refine V0 (Ym O) (V0 (Yx O O) (V0 (Yx O O) ?_))
 refine Al Y O zr27 fun b9=>?_
 refine Lst 0 Y O O O sz27 O O O (V0 (Ya O) (Ln (Et (Cs (Cs (Cr (V0 (Ym O) (V0 (yl_lens us9 O) (V0 (yl_gt O O) ?_)))))))))
 refine Ln (Et ?_)
 refine Cc O (fun hc0=>?_) (fun hc0=>?_)
 ·
  have hl:32768<s.length:=by simp at hc0; omega
  have hR1:(readE s).1=noTo:=by rw [readE,if_pos hl]
  have hR2:(readE s).2=2:=by rw [readE,if_pos hl]
  rw [hR1] at h26 ⊢
  rw [hR2]
  refine Cs (Cr ?_)
  refine Lp Y O en9 O (fun w hw=>objBegun_any G w (hw.vs _ (by simp)) hz) ?_
  refine V0 (Ym O) ?_
  apply La 3 (x:=true) O O O O Y O O O O O
  ·
   intro hg0
   refine Vg (Ym O) (Vg (Ym O) (Vg (yl_eqsY O O O) ?_))
   exact Gt 3 O O O
  refine V0 (Ym O) ?_
  apply La 3 (x:=true) O O O O Y O O O O O
  ·
   intro hg1
   refine Vg (Ym O) (Vg (Ym O) (Vg (yl_eqiY O O O) ?_))
   exact Gt 3 O O O
  refine V0 (Ym O) ?_
  apply La 2 (x:=true) O O O O Y O O O O O
  ·
   intro hg2
   refine Vg (Ym O) (Vg (yl_eqiY O O O) ?_)
   exact Gt 2 O O O
  refine V0 (Ym O) ?_
  apply La 3 (x:=true) O O O O Y O O O O O
  ·
   intro hg3
   refine Vg (Yda 0 O O ag27 O) (Vg (Yb zr27 pl27 O O) ?_)
   refine Lp (.g O O O) O en15 O (fun w hw=>sameObjects_eqT F26 F26 r26 noOA noTo w (hw.vs _ (by simp)) (hw.vs _ (by simp)) h26 (noTo_rd _)) ?_
   exact Gt 3 O O O
  refine V0 (Ya O) (Ln (Et (Crt (Er ?_))))
  refine R1 O O fun w' hw=>?_
  exact ⟨O,hw.fr⟩
 have hl:¬32768<s.length:=by simp at hc0; omega
 have hR1:(readE s).1=(fromE s).1:=by rw [read_from hl]
 have hR2:(readE s).2=if (fromE s).2=true then 0 else 1:=by rw [read_from hl]
 rw [hR1] at h26 ⊢
 rw [hR2]
 refine Ck (Et (Cs (Cr (V0 (Ym O) ?_))))
 refine Ld Y O en16 O (fun r:OAt=>.tuple #[.agg (obV (fromE s).1 r).toArray,.bool (fromE s).2]) (fun F r=>RdTo F r (fromE s).1) (fun w hw=>objectFrom_any s w hs) ?_
 intro F54 r54 hf54 h54
 refine V0 (Ym O) (V0 (Yx O O) (V0 (Yx O O) ?_))
 refine Al Y O zr27 fun b11=>?_
 refine Lst 0 Y O O O sz27 O O O (V0 (Ya O) (Ln (Et (Cs (Cr (V0 (Ya O) (Ln (Et (Cs (Cs (Cr (V0 (Ym O) ?_))))))))))))
 refine V0 (yl_not O) (Ln (Et ?_))
 refine Cc O (fun hc1=>?_) (fun hc1=>?_)
 ·
  have hx:(fromE s).2=false:=by simpa using hc1
  refine Cr (V0 (Ya O) (Ln (Et (Cs (Cr ?_)))))
  refine Lp Y O en9 O (fun w hw=>objBegun_any G w (hw.vs _ (by simp)) hz) ?_
  refine V0 (Ym O) ?_
  apply La 3 (x:=true) O O O O Y O O O O O
  ·
   intro hg4
   refine Vg (Ym O) (Vg (Ym O) (Vg (yl_eqsY O O O) ?_))
   exact Gt 3 O O O
  refine V0 (Ym O) ?_
  apply La 3 (x:=true) O O O O Y O O O O O
  ·
   intro hg5
   refine Vg (Ym O) (Vg (Ym O) (Vg (yl_eqiY O O O) ?_))
   exact Gt 3 O O O
  refine V0 (Ym O) ?_
  apply La 3 (x:=true) O O O O Y O O O O O
  ·
   intro hg6
   refine Vg (Ym O) (Vg (Ym O) ?_)
   refine Vg (yl_eqiY O O (by simp [hx])) ?_
   exact Gt 3 O O O
  refine V0 (Ym O) ?_
  apply La 3 (x:=true) O O O O Y O O O O O
  ·
   intro hg7
   refine Vg (Yda 1 O O ag27 O) (Vg (Yda 0 O O ag27 O) ?_)
   refine Lp (.g O O O) O en15 O (fun w hw=>sameObjects_eqT F26 F54 r26 r54 (fromE s).1 w (hw.vs _ (by simp)) (hw.vs _ (by simp)) h26 h54) ?_
   exact Gt 3 O O O
  refine V0 (Ya O) (Ln (Et (Crt ?_)))
  refine R1 O O fun w' hw=>?_
  exact ⟨O,hw.fr⟩
 have hx:(fromE s).2=true:=by simpa using hc1
 refine Ck (Et (Cs (Cr ?_)))
 refine Lp Y O en9 O (fun w hw=>objBegun_any G w (hw.vs _ (by simp)) hz) ?_
 refine V0 (Ym O) ?_
 apply La 3 (x:=true) O O O O Y O O O O O
 ·
  intro hg4
  refine Vg (Ym O) (Vg (Ym O) (Vg (yl_eqsY O O O) ?_))
  exact Gt 3 O O O
 refine V0 (Ym O) ?_
 apply La 3 (x:=true) O O O O Y O O O O O
 ·
  intro hg5
  refine Vg (Ym O) (Vg (Ym O) (Vg (yl_eqiY O O O) ?_))
  exact Gt 3 O O O
 refine V0 (Ym O) ?_
 apply La 3 (x:=true) O O O O Y O O O O O
 ·
  intro hg6
  refine Vg (Ym O) (Vg (Ym O) ?_)
  refine Vg (yl_eqiY O O (by simp [hx])) ?_
  exact Gt 3 O O O
 refine V0 (Ym O) ?_
 apply La 3 (x:=true) O O O O Y O O O O O
 ·
  intro hg7
  refine Vg (Yda 1 O O ag27 O) (Vg (Yda 0 O O ag27 O) ?_)
  refine Lp (.g O O O) O en15 O (fun w hw=>sameObjects_eqT F26 F54 r26 r54 (fromE s).1 w (hw.vs _ (by simp)) (hw.vs _ (by simp)) h26 h54) ?_
  exact Gt 3 O O O
 refine V0 (Ya O) (Ln (Et (Crt ?_)))
 refine R1 O O fun w' hw=>?_
 exact ⟨O,hw.fr⟩
end Go.Proofs.YtplfmnkmlaolpaaGreatDoor
end
