/- LinkRight: what is linked is a right image, as long as all its objects and one more for each, and one. -/
import Derived.Lib.AppendZeros
import Derived.Test.YtplfmnkmlaolpaaGreatDoorR3
set_option linter.unusedVariables false
set_option linter.unusedSimpArgs false
section
namespace Go.Proofs.YtplfmnkmlaolpaaGreatDoor
open Go.Bw
structure GI where
 i:Nat
 s:SP
 p:SP
def aC:List UInt8:=[99,110,116]
def vu:List aV:=[⟨1,3,0,[107]⟩,⟨2,0,0,[115,117,109]⟩,⟨3,4,1,[116]⟩,⟨4,1,0,[100,111,119,110]⟩]
theorem amo {l:List aV} {i:Nat} {x:aV} (h:(l.map (·.name)).Nodup) (hx:l[i]? = some x):x.name ∉ (l.take i).map (·.name):=by
 intro hm;have aw:i<l.length:=(List.getElem?_eq_some_iff.1 hx).1;obtain ⟨j,hj⟩:=List.getElem?_of_mem hm;rw [List.getElem?_map] at hj;obtain ⟨y,hy,e⟩:=Option.map_eq_some_iff.1 hj
 have iG:j<i:=by have:=(List.getElem?_eq_some_iff.1 hy).1; simp at this; omega
 rw [List.getElem?_take,if_pos iG] at hy
 have e2:(l.map (·.name))[j]? = (l.map (·.name))[i]?:=by rw [List.getElem?_map,List.getElem?_map,hy,hx]; simp [e]
 have:=(List.getElem?_inj (by simpa using (List.getElem?_eq_some_iff.1 hy).1) h).1 e2;omega
theorem P5:Tryz.prog.underlying 205=some (.map 9 232):=by kernel_rfl
theorem Zw (w:World) :
   Calls Tryz.prog 104 #[] w λe w'=>∃r:SP,e = .returned (.agg #[st aC,.slice r.1 vu.length r.2])/\Ext w w'/\Sl lQ 4 (nv w w') r.1 r.2 vu:=by
 refine enter Tryz.func104 O 7 O O ?_;refine CE (Vs:=[]) (Ws.init (by simp)) (Cs (Cr ?_));refine Al Y O vt λb0=>?_;refine Ln (Et (Cs (Cr (V0 (Yb iV zw O O) (V0 (Yb iV zw O O) (V0 (Yb iV zw O O) (V0 (Yb iV zw O O) ?_)))))));refine Lb Y O rJ O O O O λb5=>?_;refine V0 (Yb vt Ka O O) (an 1 Y O O O zx O O O (Ln (Et (az ?_))));refine WE.dJ (gd O (cS 1 O O zy O)) λw' hw=>?_
 exact ⟨(some ⟨b5,0,none⟩,4),O,hw.fr,⟨show vu.length<=4 by decide,show 4<=9223372036854775807 by decide,by simp,λj x hj=>⟨b5,0,O,λk v hk=>hw.Ta 0 O (by
     have:k<4:=(List.getElem?_eq_some_iff.1 hk).1
     show (vu.flatMap aV.cells)[0+j*4+k]? = some v
     rw [Nat.zero_add,pk aV.a8 hj this]; exact hk)⟩⟩⟩
theorem Zx (H:View) (a:Option Addr) (c:Nat) (l:List aV) (w:World) (hH:Le H w) (hm:Sl lQ 4 H a c l) (rK:(l.map (·.name)).Nodup) :
   Calls Tryz.prog 114 #[.slice a l.length c] w λe w'=>∃b:Nat,e = .returned (.map (some b))/\Ext w w'/\(nv w w') b=some (bn st (gR l 0) l.length):=by
 have dQ:=hm.cap;have eB:=hm.max;refine enter Tryz.func114 O 19 O O ?_;refine CE (Vs:=[H]) (Ws.init (by simp [hH])) (Cs (Cr (V0 (Ya O) (Ln (Et (Cs (Cr ?_)))))));refine WL.ss st Y O λb6=>?_;refine bH 0 (bn st (gR (l.take 0) 0) (l.take 0).length) O O (V0 (Ya O) (Ln (Et (Cs (Cs (Cr (V0 (Ym O) (V0 (Yn zu O) (V0 (Ym O) (Ln (Et (Cb ?_))))))))))));refine cU (ι:=Nat) (λi=>[(9,.int .i64 (i:Int))]) [(2,_),(3,_),(7,_),(8,_)] (λi=>Ws w [] [ab b6 (bn st (gR (l.take i) 0) (l.take i).length)] [H]) (λi=>i<=l.length) (λi=>l.length-i) 0 (Nat.zero_le _) (sc O (sc O (sc O (sc O (sc O sn))))) (λ_ h=>h) ?_;intro i hi;refine Cs (Cr (V0 (bq O O) (Ln (Et (Cs ?_)))));refine Cc O (λad=>?_) (λad=>?_)
 ·have aw:i<l.length:=by simpa using ad
  obtain ⟨x,bP⟩:∃x,l[i]? = some x:=⟨_,List.getElem?_eq_getElem aw⟩;obtain ⟨hZ,h_,ha,bJ⟩:=hm.aZ i x bP;have bJ:aT H hZ (h_+i*4) x.cells:=bJ;have Zy:=aei (amo rK bP);refine Ck (Et (Cs (Cb (Cs (Cr (V0 (Yo zu O O ha (by omega)) (V0 (cM 0 l5 O O O (bJ)) ?_)))))));refine Al Y O iV λb5=>?_;refine an 0 Y O O O ly O O O (Ln (Et (Cr (V0 (Ym O) (V0 (Yf zt O) (V0 (Yd 0 O O O df) (V0 (bA 0 O O l5 O) ?_)))))));refine WL.vX 1 jv Y P5 e7 O O O O ?_;refine Ln (Eb (Et (Cr (V0 (Yi O O O (by omega)) (V0 (Ym O) (Ln ?_))))));refine WE.nB 1 (bn st (gR (l.take (i+1)) 0) (l.take (i+1)).length) O (by rw [lW bP,<-Zy.1,<-Zy.2]; rfl) ?_;exact Ea (i+1) (by omega) (by omega) (sc O (sc O (sc O (sc O (sc O sn))))) (λ_ h=>Wd 1 h)
 have cz:i=l.length:=by simp at ad; omega
 rw [cz,List.take_length];refine Ce (Ex (Ex (cf (Et (Cs (Cr (V0 (Ym O) (V0 (Ya O) (Ln (Et (az ?_)))))))))));refine R1 O O λw' hw=>?_;exact ⟨b6,O,hw.fr,hw.nvb 0 O⟩
def gm (e:Int):List PanicEntry:=[⟨.iface 199 (.agg #[.int .i64 e]),false,false⟩]
def P6 (H:View) (b o:Nat) (l:List aV):Prop:=∃tb:Nat,vc H b o=some (.map (some tb))/\H tb=some (bn st (gR l 0) l.length)
structure vv (H:View) (sb:Nat) (σ:cW):Prop where
 at_:∃(ob ub:Nat) (fa:Option Addr) (fc lb:Nat),(vc H sb 0=some (.map (some ob))/\vc H sb 1=some (.map (some ub))/\vc H sb 2=some (.slice fa σ.wm.length fc)/\vc H sb 3=some (.map (some lb)))/\H ob=some (bn st (gR σ.own 0) σ.own.length)/\H ub=some (bn st (fQ σ.ae 0) σ.ae.length)/\Sl P6 1 H fa fc σ.wm/\H lb=some (bn st (fQ σ.av 0) σ.av.length)
 nd:σ.ae.Nodup
 len:σ.ae.length=σ.wm.length
 ep:σ.ae.length<=3/\σ.av.length<=7
def amp:aV:=⟨0,0,0,[]⟩
def l6 (nm:List UInt8) (l:List (List UInt8)):Int:=match idxOf nm l 0 with | some k=>((k+1:Nat):Int) | none=>0
theorem P7 (nm:List UInt8) (l:List (List UInt8)):dU nm (fQ l 0) (.int .i64 0) = .int .i64 (l6 nm l):=aeh nm l
theorem P8 {nm:List UInt8} {l:List (List UInt8)} (h:0<l6 nm l):∃k:Nat,idxOf nm l 0=some k/\l6 nm l=((k+1:Nat):Int)/\k<l.length:=by
 unfold l6 at h ⊢
 cases hk:idxOf nm l 0 with
 | none=>rw [hk] at h; exact absurd h (by decide)
 | some k=>exact ⟨k,rfl,rfl,by have:=(A0 hk).2; exact (List.getElem?_eq_some_iff.1 this).1⟩
theorem P9 {nm:List UInt8} {l:List (List UInt8)} (h:¬0<l6 nm l):idxOf nm l 0=none:=by
 unfold l6 at h
 cases hk:idxOf nm l 0 with
 | none=>rfl
 | some k=>rw [hk] at h; exact absurd (by simp only; omega) h
def B0 (nm:List UInt8) (l:List aV):aV:=(fp nm l).getD amp
theorem Zz (nm:List UInt8) (l:List aV):dU nm (gR l 0) (.agg #[.int .i64 0,.int .i64 0,.int .i64 0,st []]) = .agg (B0 nm l).cells.toArray:=by
 rw [(UC nm l _).1];unfold B0
 cases fp nm l<;>rfl
theorem ZA (nm:List UInt8) (l:List aV):ow nm (gR l 0)=(fp nm l).isSome:=(UC nm l (.bool false)).2
theorem ZB {nm:List UInt8} {l:List aV} (h:(fp nm l).isSome=true):fp nm l=some (B0 nm l):=by
 unfold B0
 cases hf:fp nm l with
 | none=>rw [hf] at h; cases h
 | some x=>rfl
theorem ZC {nm:List UInt8} {l:List aV} (h:(fp nm l).isSome=false):fp nm l=none:=by
 cases hf:fp nm l with
 | none=>rfl
 | some x=>rw [hf] at h; cases h
theorem amq {σ:cW} {nm:List UInt8} {k:Nat} (h:idxOf nm σ.av 0=some k):fq σ [] nm=some (-1,M' k):=by rw [fq,if_pos rfl,h]
theorem ZD {σ:cW} {nm:List UInt8} (h:idxOf nm σ.av 0=none):fq σ [] nm=(fp nm σ.own).map λx=>(0,x):=by rw [fq,if_pos rfl,h]
theorem ZE {σ:cW} {mod nm:List UInt8} (h:¬mod=[]) (hn:σ.ae.Nodup) (hl:σ.ae.length=σ.wm.length) {k:Nat} {f:List aV} (hk:idxOf mod σ.ae 0=some k) (hf:σ.wm[k]? = some f):fq σ mod nm=(fp nm f).map λx=>(((k+1:Nat):Int),x):=by
 rw [fq,if_neg h,UF hn hl,hk];simp [hf]
theorem amr {σ:cW} {mod nm:List UInt8} (h:¬mod=[]) (hk:idxOf mod σ.ae 0=none):fq σ mod nm=none:=by
 rw [fq,if_neg h,Ng (AZ.1 hk)]
theorem P' {mod nm:List UInt8}:∀{us:List (List UInt8)} {fs:List (List aV)} {s:Nat} {m:Int} {x:aV},nD mod nm us fs s=some (m,x)->0<=m
 | [],_,_,_,_,h=>by simp [nD] at h
 | u::us,[],_,_,_,h=>by simp [nD] at h
 | u::us,f::fs,s,m,x,h=>by
   rw [nD] at h
   split at h
   · split at h
     · injection h with h; injection h with h1 h2; omega
     · exact P' h
   · exact P' h
theorem tg {σ:cW} {mod nm:List UInt8} {m:Int} {x:aV} (h:fq σ mod nm=some (m,x)):m = -1\/0<=m:=by
 unfold fq at h
 split at h
 · split at h
   · injection h with h; injection h with h1 h2; exact .inl h1.symm
   · cases hf:fp nm σ.own with
     | none=>rw [hf] at h; cases h
     | some y=>rw [hf] at h; injection h with h; injection h with h1 h2; right; omega
 · exact .inr (P' h)
def iC (σ:cW) (mod nm:List UInt8) (kind args:Int):Int:=match fq σ mod nm with
 | none=>5
 | some (m,it)=>if ¬(0<=m/\it.kind=kind) then 7 else if kind=4/\¬it.n=args then 8 else 0
theorem Ft {σ:cW} {mod nm:List UInt8} {kind args:Int} (h:fq σ mod nm=none):iC σ mod nm kind args=5:=by unfold iC; rw [h]
theorem vw {σ:cW} {mod nm:List UInt8} {kind args m:Int} {it:aV} (h:fq σ mod nm=some (m,it)):iC σ mod nm kind args=if ¬(0<=m/\it.kind=kind) then 7 else if kind=4/\¬it.n=args then 8 else 0:=by unfold iC; rw [h]
def P_ (HS:View) (sb:Nat) (σ:cW) (k:Nat):Prop:=∀(HE:View) (l:List ax) (a:Option Addr) (c:Nat) (w:World),Le HS w->Le HE w->Sl (eG k) 5 HE a c l->dG l<=109951162777->
 Calls Tryz.prog 165 #[.pointer (some ⟨sb,0,none⟩),.slice a l.length c] w λe w'=>(∃r:SP,e = .returned (.slice r.1 (lS σ l).length r.2)/\Ext w w'/\g_ σ l=0/\Sl (jA (k+1)) 5 (nv w w') r.1 r.2 (lS σ l))\/(∃_:Unit,e = .panicked (gm (g_ σ l))/\Ext w w'/\g_ σ l≠0)
theorem ams:eR Tryz.prog 199=some [(0,1)]:=by kernel_rfl
theorem Kb:zeroOf Tryz.prog 199=some (.agg #[.int .i64 0]):=by kernel_rfl
theorem amt:Tryz.prog.concrete 199=true:=by kernel_rfl
theorem Fu:aX Tryz.prog 209 3=some 3:=by kernel_rfl
theorem Fv:dI Tryz.prog 64=true:=by kernel_rfl
theorem amu:aX Tryz.prog 209 0=some 0:=by kernel_rfl
theorem ZF:dI Tryz.prog 205=true:=by kernel_rfl
theorem vx:Enters Tryz.prog 115:=enters_of Tryz.func115 (by kernel_rfl) rfl
theorem ZG:aX Tryz.prog 209 1=some 1:=by kernel_rfl
theorem Qa:aX Tryz.prog 209 2=some 2:=by kernel_rfl
theorem ZH:dI Tryz.prog 207=true:=by kernel_rfl
theorem amv:dL Tryz.prog 207=some 1:=by kernel_rfl
theorem vy (b:Bool) (n:Int) (w:World) :
   Calls Tryz.prog 115 #[.bool b,.int .i64 n] w λe w'=>(∃_:Unit,e = .returned (.tuple #[])/\Ext w w'/\b=true)\/(∃_:Unit,e = .panicked (gm n)/\Ext w w'/\b=false):=by
 refine enter Tryz.func115 O 9 O O ?_;refine CE (Vs:=[]) (Ws.init (by simp)) (Cs (Cr (V0 (Ym O) (V0 (eu O) (Ln (Et ?_))))));refine Cc O (λad=>?_) (λad=>?_)
 ·refine Cr (V0 (Ym O) (V0 (Yb Kb ams O O) (V0 (qE amt O) ?_)));refine WL.panic Y O ?_;refine aJ λw' hw=>?_;exact .inr ⟨(),O,hw.fr,by simpa using ad⟩
 refine Ck ?_;refine E0 O λw' hw=>?_;exact .inl ⟨(),O,hw.fr,by simpa using ad⟩
theorem Qb (HS:View) (sb:Nat) (σ:cW) (w:World) (oW:Le HS w) (hS:vv HS sb σ) (mod nm:List UInt8) :
   Calls Tryz.prog 163 #[.pointer (some ⟨sb,0,none⟩),st mod,st nm] w λe w'=>(∃i:Int×aV,e = .returned (.tuple #[.int .i64 i.1,.agg i.2.cells.toArray])/\Ext w w'/\fq σ mod nm=some i)\/(∃_:Unit,e = .panicked (gm 5)/\Ext w w'/\fq σ mod nm=none):=by
 obtain ⟨⟨ob,ub,fa,fc,lb,⟨h0,h1,h2,h3⟩,ki,Kc,ct,Qc⟩,rK,hlen,ep⟩:=hS;refine enter Tryz.func163 O 65 O O ?_;refine CE (Vs:=[HS]) (Ws.init (by simp [oW])) (Cs (Cr (V0 (Ya O) ?_)));refine Al Y O iV λb7=>?_;refine Ln (Et (Cs (Cs (Cr (V0 (Ym O) (V0 (CT O O) (Ln (Et ?_))))))));refine Cc O (λad=>?_) (λad=>?_)
 ·obtain rfl:mod=[]:=by simpa using ad
  refine Cs (Cs (Cr (V0 (Ym O) (V0 (aO O) (V0 (Yf Fu O) (V0 (dm 0 Fv O O (h3)) (V0 (Ym O) (V0 (Ud 0 O jv jk e7 nZ O O (Qc)) ?_))))))));rw [P7];refine V0 (Ya O) (Ln (Et (Cs (Cr (V0 (Ym O) (V0 (bZ O O) (Ln (Et ?_))))))));refine Cc O (λar=>?_) (λar=>?_)
  ·obtain ⟨k,hk,eI,re⟩:=P8 (nm:=nm) (l:=σ.av) (by simpa using ar);refine Cs (Cr (V0 (Ym O) (V0 (qD (k:Int) O O (by rw [eI]; omega) (by omega)) (V0 (Yb iV zw O O) (V0 (Ya O) (an 0 Y O O O ly O O O (Ln (Et (az (Er (Er ?_)))))))))));refine WE.dJ (gu O (iH O) (cS 0 O O l5 O)) λw' hw=>?_;exact .inl ⟨(-1,M' k),O,hw.fr,amq hk⟩
  have hk:=P9 (nm:=nm) (l:=σ.av) (by simpa using ar);refine Ck (Et (Cs (Cr (V0 (Ym O) (V0 (aO O) (V0 (Yf amu O) (V0 (dm 0 ZF O O (h0)) (V0 (Ym O) (V0 (Uf 0 O jv P5 e7 iV O O (ki)) ?_)))))))));rw [Zz,ZA];refine V0 (Ym O) (V0 (Yx O O) (V0 (Yx O O) ?_));refine Al Y O iV λb9=>?_;refine an 0 Y O O O ly O O O (V0 (Ya O) (Ln (Et (Cs (Cr (V0 (Ym O) ?_))))));refine WL.lN (ι:=Unit) (κ:=Unit) Y O vx O (λ_=>.tuple #[]) (λ_=>(fp nm σ.own).isSome=true) (λ_=>gm 5) (λ_=>(fp nm σ.own).isSome=false) (λw hw=>vy _ _ w) ?_ ?_
  ·intro _ hp;refine Ep (Ep ?_);refine aJ λw' hw=>?_;exact .inr ⟨(),O,hw.fr,by rw [ZD hk,ZC hp]; rfl⟩
  intro _ amw;refine Ln (Et (Cs ?_));refine WC.nq 1 [(0,true),(1,true),(2,false)] mixed (by kernel_rfl) (λ_ _ _ d _ h=>by cases d<;>exact h) ?_;refine D0 O (Wp 1) (bA 0 O O l5 O) (D0 O (Wp 1) (Ya O) ?_);refine De O (Wp 1) ?_;refine an 1 Y O O O ly O O O (Ln (Ed ?_));refine WD.nil (Wp 1) ?_;refine Et (az (Er ?_));refine WE.dJ (gu O (iH O) (cS 1 O O l5 O)) λw' hw=>?_;exact .inl ⟨(0,B0 nm σ.own),O,hw.fr,by rw [ZD hk,ZB amw]; rfl⟩
 have Qd:¬mod=[]:=by simpa using ad
 refine Ck (Et (Cs (Cr (V0 (Ym O) (V0 (aO O) (V0 (Yf ZG O) (V0 (dm 0 Fv O O (h1)) (V0 (Ym O) (V0 (Ud 0 O jv jk e7 nZ O O (Kc)) ?_)))))))));rw [P7];refine V0 (Ya O) (Ln (Et (Cs (Cr (V0 (Ym O) (V0 (bZ O O) ?_))))));refine WL.lN (ι:=Unit) (κ:=Unit) Y O vx O (λ_=>.tuple #[]) (λ_=>decide (0<l6 mod σ.ae)=true) (λ_=>gm 5) (λ_=>decide (0<l6 mod σ.ae)=false) (λw hw=>vy _ _ w) ?_ ?_
 ·intro _ hp;refine Ep ?_;refine aJ λw' hw=>?_;exact .inr ⟨(),O,hw.fr,amr Qd (P9 (by simpa using hp))⟩
 intro _ vf;obtain ⟨k,hk,eI,re⟩:=P8 (nm:=mod) (l:=σ.ae) (by simpa using vf);obtain ⟨f,hf⟩:∃f,σ.wm[k]? = some f:=⟨_,List.getElem?_eq_getElem (by omega)⟩;obtain ⟨pb,po,ha,tb,htb,htm⟩:=ct.aZ k f hf;have th:=ct.cap;have ZI:=ct.max;refine Ln (Et (Cs (Cr (V0 (Ym O) (V0 (aO O) (V0 (Yf Qa O) (V0 (dm 0 ZH O O (h2)) (V0 (Ym O) (V0 (qD (k:Int) O O (by rw [eI]; omega) (by omega)) (V0 (Yo amv O O ha (by omega)) ?_))))))))));refine V0 (dm 0 ZF O O (htb)) (V0 (Ym O) (V0 (Uf 0 O jv P5 e7 iV O O (htm)) ?_));rw [Zz,ZA];refine V0 (Ym O) (V0 (Yx O O) (V0 (Yx O O) ?_));refine Al Y O iV λkf=>?_;refine an 0 Y O O O ly O O O (V0 (Ya O) (Ln (Et (Cs (Cr (V0 (Ym O) ?_))))));refine WL.lN (ι:=Unit) (κ:=Unit) Y O vx O (λ_=>.tuple #[]) (λ_=>(fp nm f).isSome=true) (λ_=>gm 5) (λ_=>(fp nm f).isSome=false) (λw hw=>vy _ _ w) ?_ ?_
 ·intro _ hp;refine Ep ?_;refine aJ λw' hw=>?_;exact .inr ⟨(),O,hw.fr,by rw [ZE Qd rK hlen hk hf,ZC hp]; rfl⟩
 intro _ Jc;refine Ln (Et (Cs ?_));refine WC.nq 1 [(0,true),(1,true),(2,true),(3,false)] mixed (by kernel_rfl) (λ_ _ _ d _ h=>by cases d<;>exact h) ?_;refine D0 O (Wp 1) (Ym O) (D0 O (Wp 1) (bA 0 O O l5 O) (D0 O (Wp 1) (Ya O) ?_));refine De O (Wp 1) ?_;refine an 1 Y O O O ly O O O (Ln (Ed ?_));refine WD.nil (Wp 1) ?_;refine Et (az ?_);refine WE.dJ (gu O (iH O) (cS 1 O O l5 O)) λw' hw=>?_;rw [eI] at *;exact .inl ⟨(((k+1:Nat):Int),B0 nm f),O,hw.fr,by rw [ZE Qd rK hlen hk hf,ZB Jc]; rfl⟩
theorem amz {σ:cW} {n m:Int} {it:aV} {mod nm:List UInt8} {len:Nat} (h:fq σ mod nm=some (m,it)):cw σ 3 n mod nm len=if m = -1 then ⟨16,n,0,it.pl,0⟩ else if it.kind=1 then ⟨1,it.n,0,0,0⟩ else if it.kind=2 then ⟨3,n,m,it.pl,0⟩ else ⟨3,n,0,0,7⟩:=by
 unfold cw;rw [if_pos (by decide),h];simp
theorem Qe {σ:cW} {op n:Int} {mod nm:List UInt8} {len:Nat} (ho:op=3\/op=4\/op=5) (h:fq σ mod nm=none):cw σ op n mod nm len=⟨op,n,0,0,5⟩:=by
 unfold cw;rw [if_pos (by unfold gP; simp; omega),h]
theorem amA {σ:cW} {op n:Int} {mod nm:List UInt8} {len:Nat} (h3:¬op=3) (h4:¬op=4) (h5:¬op=5):cw σ op n mod nm len=⟨op,n,0,0,0⟩:=by
 unfold cw;rw [if_neg (by unfold gP; simp; omega)]
theorem amB {σ:cW} {n:Int} {mod nm:List UInt8} {len:Nat} (h:iC σ mod nm 3 0≠0):(cw σ 4 n mod nm len).e=iC σ mod nm 3 0:=by
 cases hf:fq σ mod nm with
 | none=>rw [Qe (by simp) hf,Ft hf]
 | some i=>
   obtain ⟨m,it⟩:=i;have hm:=tg hf;rw [vw hf] at h ⊢;unfold cw;rw [if_pos (by decide),hf]
   by_cases h1:m = -1
   · simp [h1]
   · by_cases h2:it.kind=3
     · exact absurd (by rw [if_neg (by omega),if_neg (by omega)]) h
     · simp [h1,h2]
theorem amC {σ:cW} {n m:Int} {it:aV} {mod nm:List UInt8} {len:Nat} (hf:fq σ mod nm=some (m,it)) (h:iC σ mod nm 3 0=0):cw σ 4 n mod nm len=⟨4,it.n,m,it.pl,0⟩:=by
 rw [vw hf] at h;have hm:=tg hf
 have h1:0<=m/\it.kind=3:=by
   by_cases hc:0<=m/\it.kind=3
   · exact hc
   · rw [if_pos hc] at h; cases h
 unfold cw;rw [if_pos (by decide),hf];simp [h1.2,show ¬m = -1 by omega]
theorem amD {σ:cW} {n:Int} {mod nm:List UInt8} {len:Nat} (h:iC σ mod nm 4 (len:Int)≠0):(cw σ 5 n mod nm len).e=iC σ mod nm 4 (len:Int):=by
 cases hf:fq σ mod nm with
 | none=>rw [Qe (by simp) hf,Ft hf]
 | some i=>
   obtain ⟨m,it⟩:=i;have hm:=tg hf;rw [vw hf] at h ⊢;unfold cw;rw [if_pos (by decide),hf]
   by_cases h1:m = -1
   · simp [h1]
   · by_cases h2:it.kind=4
     · by_cases h3:it.n=(len:Int)
       · exact absurd (by rw [if_neg (by omega),if_neg (by omega)]) h
       · simp [h1,h2,h3,show 0<=m by omega]
     · simp [h1,h2]
theorem amE {σ:cW} {n m:Int} {it:aV} {mod nm:List UInt8} {len:Nat} (hf:fq σ mod nm=some (m,it)) (h:iC σ mod nm 4 (len:Int)=0):cw σ 5 n mod nm len=⟨5,n,m,it.pl,0⟩:=by
 rw [vw hf] at h;have hm:=tg hf
 have h1:0<=m/\it.kind=4:=by
   by_cases hc:0<=m/\it.kind=4
   · exact hc
   · rw [if_pos hc] at h; cases h
 have h2:it.n=(len:Int):=by
   rw [if_neg (λhc=>hc h1)] at h
   by_cases hc:it.n=(len:Int)
   · exact hc
   · rw [if_pos ⟨rfl,hc⟩] at h; cases h
 unfold cw;rw [if_pos (by decide),hf];simp [h1.2,h2,show ¬m = -1 by omega]
theorem Qf {σ:cW} {op:Int} {mod nm:List UInt8} {len:Nat} (ho:op=1\/op=2\/op=3) (h:fq σ mod nm=none):dh σ op mod nm len=⟨op,0,0,0,5⟩:=by
 unfold dh;rw [if_pos (by unfold gP; simp; omega),h]
theorem amF {σ:cW} {op:Int} {mod nm:List UInt8} {len:Nat} (h1:¬op=1) (h2:¬op=2) (h3:¬op=3):dh σ op mod nm len=⟨op,0,0,0,0⟩:=by
 unfold dh;rw [if_neg (by unfold gP; simp; omega)]
theorem amG {σ:cW} {m:Int} {it:aV} {mod nm:List UInt8} {len:Nat} (h:fq σ mod nm=some (m,it)):dh σ 1 mod nm len=if m = -1\/it.kind=2 then ⟨1,0,m,it.pl,0⟩ else ⟨1,0,0,0,7⟩:=by
 unfold dh;rw [if_pos (by decide),h]
 by_cases h1:m = -1\/it.kind=2
 · simp [h1]
 · simp [h1,show ¬m = -1 from λe=>h1 (.inl e)]
theorem amH {σ:cW} {mod nm:List UInt8} {len:Nat} (h:iC σ mod nm 3 0≠0):(dh σ 2 mod nm len).e=iC σ mod nm 3 0:=by
 cases hf:fq σ mod nm with
 | none=>rw [Qf (by simp) hf,Ft hf]
 | some i=>
   obtain ⟨m,it⟩:=i;have hm:=tg hf;rw [vw hf] at h ⊢;unfold dh;rw [if_pos (by decide),hf]
   by_cases h1:m = -1
   · simp [h1]
   · by_cases h2:it.kind=3
     · exact absurd (by rw [if_neg (by omega),if_neg (by omega)]) h
     · simp [h1,h2]
theorem amI {σ:cW} {m:Int} {it:aV} {mod nm:List UInt8} {len:Nat} (hf:fq σ mod nm=some (m,it)) (h:iC σ mod nm 3 0=0):dh σ 2 mod nm len=⟨2,it.n,m,it.pl,0⟩:=by
 rw [vw hf] at h;have hm:=tg hf
 have h1:0<=m/\it.kind=3:=by
   by_cases hc:0<=m/\it.kind=3
   · exact hc
   · rw [if_pos hc] at h; cases h
 unfold dh;rw [if_pos (by decide),hf];simp [h1.2,show ¬m = -1 by omega]
theorem amJ {σ:cW} {mod nm:List UInt8} {len:Nat} (h:iC σ mod nm 4 (len:Int)≠0):(dh σ 3 mod nm len).e=iC σ mod nm 4 (len:Int):=by
 cases hf:fq σ mod nm with
 | none=>rw [Qf (by simp) hf,Ft hf]
 | some i=>
   obtain ⟨m,it⟩:=i;have hm:=tg hf;rw [vw hf] at h ⊢;unfold dh;rw [if_pos (by decide),hf]
   by_cases h1:m = -1
   · simp [h1]
   · by_cases h2:it.kind=4
     · by_cases h3:it.n=(len:Int)
       · exact absurd (by rw [if_neg (by omega),if_neg (by omega)]) h
       · simp [h1,h2,h3,show 0<=m by omega]
     · simp [h1,h2]
theorem amK {σ:cW} {m:Int} {it:aV} {mod nm:List UInt8} {len:Nat} (hf:fq σ mod nm=some (m,it)) (h:iC σ mod nm 4 (len:Int)=0):dh σ 3 mod nm len=⟨3,0,m,it.pl,0⟩:=by
 rw [vw hf] at h;have hm:=tg hf
 have h1:0<=m/\it.kind=4:=by
   by_cases hc:0<=m/\it.kind=4
   · exact hc
   · rw [if_pos hc] at h; cases h
 have h2:it.n=(len:Int):=by
   rw [if_neg (λhc=>hc h1)] at h
   by_cases hc:it.n=(len:Int)
   · exact hc
   · rw [if_pos ⟨rfl,hc⟩] at h; cases h
 unfold dh;rw [if_pos (by decide),hf];simp [h1.2,h2,show ¬m = -1 by omega]
structure GX (X:Type) where
 i:Nat
 es:List X
 a:Option Addr
 c:Nat
 J:View
theorem Qg:Enters Tryz.prog 163:=enters_of Tryz.func163 (by kernel_rfl) rfl
theorem Fw:zeroOf Tryz.prog 238=some (.agg #[.int .i64 0,.int .i64 0,.int .i64 0,.int .i64 0,.slice none 0 0]):=by kernel_rfl
theorem amL:eR Tryz.prog 238=some [(0,1),(1,1),(2,1),(3,1),(4,1)]:=by kernel_rfl
theorem Kd:cq Tryz.prog 238=some 5:=by kernel_rfl
theorem ti:aX Tryz.prog 238 0=some 0:=by kernel_rfl
theorem l7:aX Tryz.prog 238 3=some 3:=by kernel_rfl
theorem n0:aX Tryz.prog 238 1=some 1:=by kernel_rfl
theorem n5:aX Tryz.prog 238 2=some 2:=by kernel_rfl
theorem Ke:Enters Tryz.prog 164:=enters_of Tryz.func164 (by kernel_rfl) rfl
theorem ZJ:Enters Tryz.prog 165:=enters_of Tryz.func165 (by kernel_rfl) rfl
theorem tj:aX Tryz.prog 238 4=some 4:=by kernel_rfl
theorem ZK:cq Tryz.prog 189=some 1:=by kernel_rfl
theorem kj:eQ Tryz.prog 238=some 5:=by kernel_rfl
theorem Kf (HS:View) (sb:Nat) (σ:cW) (w:World) (oW:Le HS w) (hS:vv HS sb σ) (mod nm:List UInt8) (kind args:Int) :
   Calls Tryz.prog 164 #[.pointer (some ⟨sb,0,none⟩),st mod,st nm,.int .i64 kind,.int .i64 args] w λe w'=>(∃i:Int×aV,e = .returned (.tuple #[.int .i64 i.1,.agg i.2.cells.toArray])/\Ext w w'/\fq σ mod nm=some i/\iC σ mod nm kind args=0)\/(∃_:Unit,e = .panicked (gm (iC σ mod nm kind args))/\Ext w w'/\iC σ mod nm kind args≠0):=by
 refine enter Tryz.func164 O 41 O O ?_;refine CE (Vs:=[HS]) (Ws.init (by simp [oW])) (Cs (Cr (V0 (Ya O) ?_)));refine Al Y O iV λrj=>?_;refine Ln (Et (Cs (Cr (V0 (Ym O) (V0 (Ym O) (V0 (Ym O) ?_))))));refine WL.lN Y O Qg O _ _ _ _ (λw hw=>Qb HS sb σ w (hw.vs _ (by simp)) hS mod nm) ?_ ?_
 ·intro _ hp;refine Ep ?_;refine aJ λw' hw=>?_;rw [Ft hp];exact .inr ⟨(),O,hw.fr,by decide⟩
 intro ⟨m18,Fx⟩ BS;have zz:=vw (kind:=kind) (args:=args) BS;refine V0 (Ym O) (V0 (Yx O O) (V0 (Yx O O) ?_));refine Al Y O iV λjE=>?_;refine V0 (Ya O) (an 0 Y O O O ly O O O (Ln (Et (Cs (Cr (V0 (Ym O) (V0 (fm O O) (V0 (Ym O) ?_))))))));apply La 4 O O O O Y O O O O O
 ·intro de;refine Vg (Yf Fk O) (Vg (Yd 0 O O O aq) (Vg (Ym O) (Vg (aG O O) ?_)));exact Gt 4 O O O
 refine WL.lN (ι:=Unit) (κ:=Unit) Y O vx O (λ_=>.tuple #[]) (λ_=>_=true) (λ_=>gm _) (λ_=>_=false) (λw hw=>vy _ _ w) ?_ ?_
 ·intro _ hp;refine Ep ?_;refine aJ λw' hw=>?_
  have h7:¬(0<=m18/\Fx.kind=kind):=by rintro ⟨h1,h2⟩; simp [h1,h2] at hp
  rw [if_pos h7] at zz;rw [zz];exact .inr ⟨(),O,hw.fr,by decide⟩
 intro _ PC
 have h7:0<=m18/\Fx.kind=kind:=by simpa using PC
 rw [if_neg (λhc=>hc h7)] at zz;refine Ln (Et (Cs (Cr (V0 (Ym O) (V0 (jq O O) (V0 (Ym O) ?_))))));apply Lo 4 O O O O Y O O O O O
 ·intro bK;refine Vg (Yf p6 O) (Vg (Yd 0 O O O aq) (Vg (Ym O) (Vg (aG O O) ?_)));exact Gt 4 O O O
 refine WL.lN (ι:=Unit) (κ:=Unit) Y O vx O (λ_=>.tuple #[]) (λ_=>_=true) (λ_=>gm _) (λ_=>_=false) (λw hw=>vy _ _ w) ?_ ?_
 ·intro _ hp;refine Ep ?_;refine aJ λw' hw=>?_
  have h8:kind=4/\¬Fx.n=args:=by simpa using hp
  rw [if_pos h8] at zz;rw [zz];exact .inr ⟨(),O,hw.fr,by decide⟩
 intro _ I_;refine Ln (Et (Cs ?_));refine WC.nq 1 [(0,true),(1,true),(2,true),(3,false)] mixed (by kernel_rfl) (λ_ _ _ d _ h=>by cases d<;>exact h) ?_;refine D0 O (Wp 1) (Ym O) (D0 O (Wp 1) (bA 0 O O l5 O) (D0 O (Wp 1) (Ya O) ?_));refine De O (Wp 1) ?_;refine an 1 Y O O O ly O O O (Ln (Ed ?_));refine WD.nil (Wp 1) ?_;refine Et (az ?_);refine WE.dJ (gu O (iH O) (cS 1 O O l5 O)) λw' hw=>?_
 have h8:¬(kind=4/\¬Fx.n=args):=by rintro ⟨h1,h2⟩; simp [h1,h2] at I_
 rw [if_neg h8] at zz;exact .inl ⟨(m18,Fx),O,hw.fr,BS,zz⟩
theorem amM (HS HE:View) (sb:Nat) (σ:cW) (k:Nat) (x:ax) (a:Option Addr) (c:Nat) (w:World) (oW:Le HS w) (vz:Le HE w) (hS:vv HS sb σ) (hN:P_ HS sb σ k) (hm:Sl (eG k) 5 HE a c x.args) (wB:wE x<=109951162777) :
   Calls Tryz.prog 175 #[.pointer (some ⟨sb,0,none⟩),.agg (x_ x a c).toArray] w λe w'=>(∃r:SP,e = .returned (.agg (qN (pC σ x) r.1 r.2).toArray)/\Ext w w'/\jB σ x=0/\sx (k+1) (nv w w') (pC σ x,r))\/(∃_:Unit,e = .panicked (gm (jB σ x))/\Ext w w'/\jB σ x≠0):=by
 have ZL:=T2 x;have dQ:=hm.cap;have eB:=hm.max;refine enter Tryz.func175 O 98 O O ?_;refine CE (Vs:=[HE,HS]) (Ws.init (by simp [vz,oW])) (Cs (Cr ?_));refine WL.box Y O O λb3=>?_;refine Al Y O Fw λb4=>?_;refine Ln (Et (Cs (Cr (V0 (Yf yH O) (V0 (Yd 1 O O O aq) (V0 (Yf IU O) (V0 (Yd 1 O O O aq) (V0 (Yb Fw amL O O) ?_))))))));refine Al Y O Fw λb5=>?_;refine an 0 Y O O O Kd O O O (Ln (Et ?_));refine WC.Dg (ι:=Unit) (λ_u=>[(0,.pointer (some ⟨sb,0,none⟩)),(3,.pointer (some ⟨b3,0,none⟩)),(4,.pointer (some ⟨b4,0,none⟩)),(5,.pointer (some ⟨b5,0,none⟩))]) (λ_u=>Ws w [] [ab b5 (.cells #[.int .i64 (cw σ x.op x.n x.mod x.nm x.args.length).op,.int .i64 (cw σ x.op x.n x.mod x.nm x.args.length).n,.int .i64 (cw σ x.op x.n x.mod x.nm x.args.length).m,.int .i64 (cw σ x.op x.n x.mod x.nm x.args.length).pl,.slice none 0 0] 238 (0,0)),ab b4 (.cells #[.int .i64 0,.int .i64 0,.int .i64 0,.int .i64 0,.slice none 0 0] 238 (0,0)),ab b3 (.cells (x_ x a c).toArray 220 (0,0))] [HE,HS]) (λ_u=>(cw σ x.op x.n x.mod x.nm x.args.length).e=0) ?_ ?_
 ·refine Cs (Cr (V0 (Yf yH O) (V0 (Yd 2 O O O aq) (Ln (Et (Cb (Cs (Cr (V0 (aG O O) (V0 (Ya O) (Ln (Et ?_))))))))))));refine Cc O (λad=>?_) (λad=>?_)
  ·have fL:x.op=3:=by simpa using ad
   refine Cs (Cr (V0 (Ym O) (V0 (Yf IS O) (V0 (Yd 2 O O O df) (V0 (Yf IT O) (V0 (Yd 2 O O O df) ?_))))));refine WL.lN Y O Qg O _ _ _ _ (λw hw=>Qb HS sb σ w (hw.vs _ (by simp)) hS x.mod x.nm) ?_ ?_
   ·intro _ hp;refine Ep (WE.aQ (Ep ?_));refine aJ λw' hw=>?_
    have he:jB σ x=5:=by rw [AX,Qe (by omega) hp]; rfl
    rw [he];exact .inr ⟨(),O,hw.fr,by decide⟩
   intro ⟨Qh,zA⟩ P0;have xi:=amz (n:=x.n) (len:=x.args.length) P0;have C9:=tg P0;rw [<-fL] at xi;refine V0 (Ym O) (V0 (Yx O O) (V0 (Yx O O) ?_));refine Al Y O iV λb7=>?_;refine V0 (Ya O) (an 0 Y O O O ly O O O (Ln (Et (Cb (Cs (Cr (V0 (Ym O) (V0 (bq O O) (V0 (Ya O) (Ln (Et ?_)))))))))));refine Cc O (λar=>?_) (λar=>?_)
   ·have Qi:Qh = -1:=by simp at ar; omega
    have fJ:(cw σ x.op x.n x.mod x.nm x.args.length)=⟨16,x.n,0,zA.pl,0⟩:=by rw [xi,if_pos Qi]
    refine WC.nq 1 [(0,true),(1,true),(2,true),(3,false),(4,false),(5,false)] mixed (by kernel_rfl) (λ_ _ _ d _ h=>by cases d<;>exact h) ?_;refine D0 O (Wp 1) (Yf lx O) (D0 O (Wp 1) (Yd 0 O O O aq) (D0 O (Wp 1) (Yf ti O) ?_));refine De O (Wp 1) ?_;refine an 1 Y O O O bX O O O (Ln (Ed ?_));refine De O (Wp 1) ?_;refine V0 (Yf l7 O) (Ln (Ed ?_));refine De O (Wp 1) ?_;refine an 1 Y O O O bX O O O (Ln (Ed ?_));refine WD.nil (Wp 1) ?_;refine Eb (Eb ?_);refine WE.nB 1 (.cells #[.int .i64 (cw σ x.op x.n x.mod x.nm x.args.length).op,.int .i64 (cw σ x.op x.n x.mod x.nm x.args.length).n,.int .i64 (cw σ x.op x.n x.mod x.nm x.args.length).m,.int .i64 (cw σ x.op x.n x.mod x.nm x.args.length).pl,.slice none 0 0] 238 (0,0)) O (by rw [fJ]; rfl) ?_
    exact Em () (by rw [fJ]) (sc O (sc O (sc O (sc O sn)))) (λ_ h=>by
      have h:=h.ao 3 rfl;have h:=h.ao 3 rfl;have h:=h.ao 3 rfl;have h:=Wt 3 h
      exact h)
   have Qi:¬Qh = -1:=by simp at ar; omega
   rw [if_neg Qi] at xi;refine Cs (Cr (V0 (Yf Fk O) (V0 (Yd 0 O O O aq) (V0 (aG O O) (V0 (Ya O) (Ln (Et ?_)))))));refine Cc O (λay=>?_) (λay=>?_)
   ·have jx:zA.kind=1:=by simpa using ay
    have fJ:(cw σ x.op x.n x.mod x.nm x.args.length)=⟨1,zA.n,0,0,0⟩:=by rw [xi,if_pos jx]
    refine WC.nq 1 [(0,true),(1,true),(2,true),(3,false),(4,false),(5,false)] mixed (by kernel_rfl) (λ_ _ _ d _ h=>by cases d<;>exact h) ?_;refine D0 O (Wp 1) (Yf p6 O) (D0 O (Wp 1) (Yd 0 O O O aq) (D0 O (Wp 1) (Yf ti O) ?_));refine De O (Wp 1) ?_;refine an 1 Y O O O bX O O O (Ln (Ed ?_));refine De O (Wp 1) ?_;refine V0 (Yf n0 O) (Ln (Ed ?_));refine De O (Wp 1) ?_;refine an 1 Y O O O bX O O O (Ln (Ed ?_));refine WD.nil (Wp 1) ?_;refine Eb (Eb ?_);refine WE.nB 1 (.cells #[.int .i64 (cw σ x.op x.n x.mod x.nm x.args.length).op,.int .i64 (cw σ x.op x.n x.mod x.nm x.args.length).n,.int .i64 (cw σ x.op x.n x.mod x.nm x.args.length).m,.int .i64 (cw σ x.op x.n x.mod x.nm x.args.length).pl,.slice none 0 0] 238 (0,0)) O (by rw [fJ]; rfl) ?_
    exact Em () (by rw [fJ]) (sc O (sc O (sc O (sc O sn)))) (λ_ h=>by
      have h:=h.ao 3 rfl;have h:=h.ao 3 rfl;have h:=h.ao 3 rfl;have h:=Wt 3 h
      exact h)
   have jx:¬zA.kind=1:=by simpa using ay
   rw [if_neg jx] at xi;refine Cs (Cr (V0 (Yf Fk O) (V0 (Yd 0 O O O aq) (V0 (aG O O) ?_))));refine WL.lN (ι:=Unit) (κ:=Unit) Y O vx O (λ_=>.tuple #[]) (λ_=>_=true) (λ_=>gm _) (λ_=>_=false) (λw hw=>vy _ _ w) ?_ ?_
   ·intro _ hp;refine Ep (WE.aQ (WE.aQ (Ep ?_)));refine aJ λw' hw=>?_
    have eI:¬zA.kind=2:=by simpa using hp
    rw [if_neg eI] at xi
    have he:jB σ x=7:=by rw [AX,xi]; rfl
    rw [he];exact .inr ⟨(),O,hw.fr,by decide⟩
   intro _ BP
   have eI:zA.kind=2:=by simpa using BP
   have fJ:(cw σ x.op x.n x.mod x.nm x.args.length)=⟨x.op,x.n,Qh,zA.pl,0⟩:=by rw [xi,if_pos eI,fL]
   refine Ln (Et ?_);refine WC.nq 1 [(0,true),(1,true),(2,true),(3,true),(4,false),(5,false),(6,false)] mixed (by kernel_rfl) (λ_ _ _ d _ h=>by cases d<;>exact h) ?_;refine D0 O (Wp 1) (Ym O) (D0 O (Wp 1) (Yf lx O) (D0 O (Wp 1) (Yd 0 O O O aq) (D0 O (Wp 1) (Yf n5 O) ?_)));refine De O (Wp 1) ?_;refine an 1 Y O O O bX O O O (Ln (Ed ?_));refine De O (Wp 1) ?_;refine V0 (Yf l7 O) (Ln (Ed ?_));refine De O (Wp 1) ?_;refine an 1 Y O O O bX O O O (Ln (Ed ?_));refine WD.nil (Wp 1) ?_;refine Eb (Eb ?_);refine WE.nB 1 (.cells #[.int .i64 (cw σ x.op x.n x.mod x.nm x.args.length).op,.int .i64 (cw σ x.op x.n x.mod x.nm x.args.length).n,.int .i64 (cw σ x.op x.n x.mod x.nm x.args.length).m,.int .i64 (cw σ x.op x.n x.mod x.nm x.args.length).pl,.slice none 0 0] 238 (0,0)) O (by rw [fJ]; rfl) ?_
   exact Em () (by rw [fJ]) (sc O (sc O (sc O (sc O sn)))) (λ_ h=>by
     have h:=h.ao 3 rfl;have h:=h.ao 3 rfl;have h:=h.ao 3 rfl;have h:=Wt 3 h
     exact h)
  have h3:¬x.op=3:=by simpa using ad
  refine Cs (Cr (V0 (aG O O) (V0 (Ya O) (Ln (Et ?_)))));refine Cc O (λaM=>?_) (λaM=>?_)
  ·have fL:x.op=4:=by simpa using aM
   refine Cs (Cr (V0 (Ym O) (V0 (Yf IS O) (V0 (Yd 2 O O O df) (V0 (Yf IT O) (V0 (Yd 2 O O O df) ?_))))));refine WL.lN Y O Ke O _ _ _ _ (λw hw=>Kf HS sb σ w (hw.vs _ (by simp)) hS x.mod x.nm 3 0) ?_ ?_
   ·intro _ hp;refine Ep (WE.aQ (Ep ?_));refine aJ λw' hw=>?_
    have he:jB σ x=iC σ x.mod x.nm 3 0:=by rw [AX,fL,amB hp,uq hp]
    rw [he];exact .inr ⟨(),O,hw.fr,hp⟩
   intro ⟨m62,ZM⟩ ⟨amO,BK⟩
   have fJ:(cw σ x.op x.n x.mod x.nm x.args.length)=⟨x.op,ZM.n,m62,ZM.pl,0⟩:=by rw [fL]; exact amC amO BK
   refine V0 (Ym O) (V0 (Yx O O) (V0 (Yx O O) ?_));refine Al Y O iV λb9=>?_;refine V0 (Ya O) (an 0 Y O O O ly O O O (Ln (Et ?_)));refine WC.nq 1 [(0,true),(1,true),(2,true),(3,true),(4,true),(5,true),(6,false),(7,false),(8,false),(9,false),(10,false)] mixed (by kernel_rfl) (λ_ _ _ d _ h=>by cases d<;>exact h) ?_;refine D0 O (Wp 1) (Ym O) (D0 O (Wp 1) (Yf lx O) (D0 O (Wp 1) (Yd 0 O O O aq) (D0 O (Wp 1) (Yf p6 O) (D0 O (Wp 1) (Yd 0 O O O aq) (D0 O (Wp 1) (Yf n5 O) ?_)))));refine De O (Wp 1) ?_;refine an 1 Y O O O bX O O O (Ln (Ed ?_));refine De O (Wp 1) ?_;refine V0 (Yf l7 O) (Ln (Ed ?_));refine De O (Wp 1) ?_;refine an 1 Y O O O bX O O O (Ln (Ed ?_));refine De O (Wp 1) ?_;refine V0 (Yf n0 O) (Ln (Ed ?_));refine De O (Wp 1) ?_;refine an 1 Y O O O bX O O O (Ln (Ed ?_));refine WD.nil (Wp 1) ?_;refine Eb ?_;refine WE.nB 1 (.cells #[.int .i64 (cw σ x.op x.n x.mod x.nm x.args.length).op,.int .i64 (cw σ x.op x.n x.mod x.nm x.args.length).n,.int .i64 (cw σ x.op x.n x.mod x.nm x.args.length).m,.int .i64 (cw σ x.op x.n x.mod x.nm x.args.length).pl,.slice none 0 0] 238 (0,0)) O (by rw [fJ]; rfl) ?_
   exact Em () (by rw [fJ]) (sc O (sc O (sc O (sc O sn)))) (λ_ h=>by
     have h:=h.ao 3 rfl;have h:=h.ao 3 rfl;have h:=h.ao 3 rfl;have h:=Wt 3 h
     exact h)
  have h4:¬x.op=4:=by simpa using aM
  refine Cs (Cr (V0 (aG O O) (V0 (Ya O) (Ln (Et ?_)))));refine Cc O (λaW=>?_) (λaW=>?_)
  ·have fL:x.op=5:=by simpa using aW
   refine Cs (Cr (V0 (Ym O) (V0 (Yf IS O) (V0 (Yd 2 O O O df) (V0 (Yf IT O) (V0 (Yd 2 O O O df) (V0 (Yf Bq O) (V0 (Yd 2 O O O wF) ?_))))))));refine V0 (Yn sR O) ?_;refine WL.lN Y O Ke O _ _ _ _ (λw hw=>Kf HS sb σ w (hw.vs _ (by simp)) hS x.mod x.nm 4 (x.args.length:Int)) ?_ ?_
   ·intro _ hp;refine Ep (WE.aQ (Ep ?_));refine aJ λw' hw=>?_
    have he:jB σ x=iC σ x.mod x.nm 4 (x.args.length:Int):=by rw [AX,fL,amD hp,uq hp]
    rw [he];exact .inr ⟨(),O,hw.fr,hp⟩
   intro ⟨m84,amQ⟩ ⟨amR,amS⟩
   have fJ:(cw σ x.op x.n x.mod x.nm x.args.length)=⟨x.op,x.n,m84,amQ.pl,0⟩:=by rw [fL]; exact amE amR amS
   refine V0 (Ym O) (V0 (Yx O O) (V0 (Yx O O) ?_));refine Al Y O iV λrj=>?_;refine V0 (Ya O) (an 0 Y O O O ly O O O (Ln (Et ?_)));refine WC.nq 1 [(0,true),(1,true),(2,true),(3,true),(4,false),(5,false),(6,false)] mixed (by kernel_rfl) (λ_ _ _ d _ h=>by cases d<;>exact h) ?_;refine D0 O (Wp 1) (Ym O) (D0 O (Wp 1) (Yf lx O) (D0 O (Wp 1) (Yd 0 O O O aq) (D0 O (Wp 1) (Yf n5 O) ?_)));refine De O (Wp 1) ?_;refine an 1 Y O O O bX O O O (Ln (Ed ?_));refine De O (Wp 1) ?_;refine V0 (Yf l7 O) (Ln (Ed ?_));refine De O (Wp 1) ?_;refine an 1 Y O O O bX O O O (Ln (Ed ?_));refine WD.nil (Wp 1) ?_;refine Eb ?_;refine WE.nB 1 (.cells #[.int .i64 (cw σ x.op x.n x.mod x.nm x.args.length).op,.int .i64 (cw σ x.op x.n x.mod x.nm x.args.length).n,.int .i64 (cw σ x.op x.n x.mod x.nm x.args.length).m,.int .i64 (cw σ x.op x.n x.mod x.nm x.args.length).pl,.slice none 0 0] 238 (0,0)) O (by rw [fJ]; rfl) ?_
   exact Em () (by rw [fJ]) (sc O (sc O (sc O (sc O sn)))) (λ_ h=>by
     have h:=h.ao 3 rfl;have h:=h.ao 3 rfl;have h:=h.ao 3 rfl;have h:=Wt 3 h
     exact h)
  have h5:¬x.op=5:=by simpa using aW
  have fJ:(cw σ x.op x.n x.mod x.nm x.args.length)=⟨x.op,x.n,0,0,0⟩:=amA h3 h4 h5;refine Ck (Eb ?_);refine WE.nB 0 (.cells #[.int .i64 (cw σ x.op x.n x.mod x.nm x.args.length).op,.int .i64 (cw σ x.op x.n x.mod x.nm x.args.length).n,.int .i64 (cw σ x.op x.n x.mod x.nm x.args.length).m,.int .i64 (cw σ x.op x.n x.mod x.nm x.args.length).pl,.slice none 0 0] 238 (0,0)) O (by rw [fJ]; rfl) ?_
  exact Em () (by rw [fJ]) (sc O (sc O (sc O (sc O sn)))) (λ_ h=>by
    have h:=h.ao 2 rfl;have h:=h.ao 2 rfl;have h:=h.ao 2 rfl
    exact h)
 intro _ zB;refine Cs (Cr (V0 (Ym O) (V0 (Yf Bq O) (V0 (Yd 2 O O O wF) ?_))));refine WL.wc (ι:=SP) (κ:=Unit) Y O ZJ O (λr=>.slice r.1 (lS σ x.args).length r.2) (λF r=>g_ σ x.args=0/\Sl (jA (k+1)) 5 F r.1 r.2 (lS σ x.args)) (λ_=>gm (g_ σ x.args)) (λ_=>g_ σ x.args≠0) (λw hw=>hN HE x.args a c w (hw.vs _ (by simp)) (hw.vs _ (by simp)) hm (by omega)) ?_ ?_
 ·intro _ hp;refine Ep ?_;refine aJ λw' hw=>?_
  have he:jB σ x=g_ σ x.args:=by rw [AX,zB,mC]
  rw [he];exact .inr ⟨(),O,hw.fr,hp⟩
 intro F95 r95 amU ⟨amV,h95⟩;refine V0 (Yf tj O) (an 0 Y O O O ZK O O O (Ln (Et (Cs (Cr (V0 (bA 0 O O kj O) (an 1 Y O O O Kd O O O (Ln (Et (az ?_))))))))));refine WE.dJ (gd O (cS 1 O O kj O)) λw' hw=>?_;rw [aee];exact .inl ⟨r95,O,hw.fr,by rw [AX,zB,mC,amV],Ie h95 (bD hw (by simp) amU)⟩
def amX (HS:View) (sb:Nat) (σ:cW) (ke k:Nat):Prop:=∀(HE:View) (l:List aP) (a:Option Addr) (c:Nat) (w:World),Le HS w->Le HE w->Sl (gY ke k) 6 HE a c l->cP l<=109951162777->
 Calls Tryz.prog 118 #[.pointer (some ⟨sb,0,none⟩),.slice a l.length c] w λe w'=>(∃r:SP,e = .returned (.slice r.1 (iw σ l).length r.2)/\Ext w w'/\dV σ l=0/\Sl (gZ (ke+1) (k+1)) 7 (nv w w') r.1 r.2 (iw σ l))\/(∃_:Unit,e = .panicked (gm (dV σ l))/\Ext w w'/\dV σ l≠0)
theorem Kg {X T S:Type} {f:X->T} {g:S->T} {es:List X} {l:List S} {i:Nat} {x:S} {e:X} (h:es.map f=(l.take i).map g) (hx:l[i]? = some x) (he:f e=g x):(es++[e]).map f=(l.take (i+1)).map g:=by
 rw [lW hx]; simp [h,he]
theorem Kh {X T S:Type} {f:X->T} {g:S->T} {es:List X} {l:List S} {i:Nat} (h:es.map f=(l.take i).map g) (hi:i<=l.length):es.length=i:=by
 have:=congrArg List.length h
 simpa [Nat.min_eq_left hi] using this
theorem Ki {X T S:Type} {f:X->T} {g:S->T} {es:List X} {l:List S} {i:Nat} (h:es.map f=(l.take i).map g) (hi:i=l.length):es.map f=l.map g:=by subst hi; simpa using h
theorem amY:Enters Tryz.prog 175:=enters_of Tryz.func175 (by kernel_rfl) rfl
theorem ZN:eS Tryz.prog 189 238 (.agg #[.int .i64 0,.int .i64 0,.int .i64 0,.int .i64 0,.slice none 0 0]) 5 56:=gW (by kernel_rfl)
theorem Fy:zeroOf Tryz.prog 191=some (.agg #[.int .i64 0,.int .i64 0,.int .i64 0,.int .i64 0,.slice none 0 0,.slice none 0 0,.slice none 0 0]):=by kernel_rfl
theorem amZ:eR Tryz.prog 191=some [(0,1),(1,1),(2,1),(3,1),(4,1),(5,1),(6,1)]:=by kernel_rfl
theorem Kj:cq Tryz.prog 191=some 7:=by kernel_rfl
theorem oX:aX Tryz.prog 191 2=some 2:=by kernel_rfl
theorem p7:aX Tryz.prog 191 3=some 3:=by kernel_rfl
theorem zC:aX Tryz.prog 191 1=some 1:=by kernel_rfl
theorem rL:aX Tryz.prog 191 4=some 4:=by kernel_rfl
theorem Kk:Enters Tryz.prog 118:=enters_of Tryz.func118 (by kernel_rfl) rfl
theorem Fz:aX Tryz.prog 191 5=some 5:=by kernel_rfl
theorem Qj:cq Tryz.prog 56=some 1:=by kernel_rfl
theorem zD:aX Tryz.prog 191 6=some 6:=by kernel_rfl
theorem B1:eQ Tryz.prog 191=some 7:=by kernel_rfl
theorem am0:Enters Tryz.prog 140:=enters_of Tryz.func140 (by kernel_rfl) rfl
theorem ZO:eS Tryz.prog 56 191 (.agg #[.int .i64 0,.int .i64 0,.int .i64 0,.int .i64 0,.slice none 0 0,.slice none 0 0,.slice none 0 0]) 7 104:=gW (by kernel_rfl)
theorem am1 (HS HE:View) (sb:Nat) (σ:cW) (hS:vv HS sb σ) (k:Nat) (l:List ax) (a:Option Addr) (c:Nat) (w:World) (oW:Le HS w) (vz:Le HE w) (hm:Sl (eG k) 5 HE a c l) (wB:dG l<=109951162777) :
   Calls Tryz.prog 165 #[.pointer (some ⟨sb,0,none⟩),.slice a l.length c] w λe w'=>(∃r:SP,e = .returned (.slice r.1 (lS σ l).length r.2)/\Ext w w'/\g_ σ l=0/\Sl (jA (k+1)) 5 (nv w w') r.1 r.2 (lS σ l))\/(∃_:Unit,e = .panicked (gm (g_ σ l))/\Ext w w'/\g_ σ l≠0):=by
 induction k using Nat.strongRecOn generalizing HE l a c w
 rename_i k ih;have dQ:=hm.cap;have eB:=hm.max;have hlw:=T6 l;refine enter Tryz.func165 O 22 O O ?_;refine CE (Vs:=[HE,HS]) (Ws.init (by simp [vz,oW])) (Cs (Cr (V0 (Ya O) (Ln (Et (Cs (Cr (V0 (Ya O) (LW (λ_ h=>h.fB 238 5) ?_)))))))));refine WL.v0 ?_;refine Ln (Et (Cs (Cs (Cr (V0 (Ym O) (V0 (Yn sR O) (V0 (Ym O) (Ln (Et (Cb ?_))))))))));refine cU (ι:=GX XN) (λg=>[(10,.int .i64 (g.i:Int)),(5,.slice g.a g.es.length g.c)]) [(0,_),(4,_),(8,_),(9,_)] (λg=>Ws w [] [bo 238 5 XN.cells g.a g.c g.es] [g.J,HE,HS]) (λg=>g.i<=l.length/\g.es.map (·.1)=(l.take g.i).map (pC σ)/\hP (jB σ) (l.take g.i)=0/\(eE w g.J/\Xs (sx k) g.J g.es)) (λg=>l.length-g.i) ⟨0,[],none,0,v0⟩ ⟨Nat.zero_le _,O,O,⟨wa w,Xs.nil _⟩⟩ (sc O (sc O (sc O (sc O (sc O (sc O sn)))))) (λ_ h=>by have h:=Ws.bw h (a_:=[v0,HE,HS]) (by simp); exact h) ?_;intro g ⟨hi,kS,zE,⟨lY,hX⟩⟩;refine Cs (Cr (V0 (bq O O) (Ln (Et (Cs ?_)))));refine Cc O (λad=>?_) (λad=>?_)
 ·have aw:g.i<l.length:=by simpa using ad
  obtain ⟨y,bC⟩:∃q,l[g.i]? = some q:=⟨_,List.getElem?_eq_getElem aw⟩;obtain ⟨jY,jZ,fg,cY⟩:=hm.aZ g.i y bC
  obtain ⟨k2,rfl⟩:∃k2,k=k2+1:=by
    cases k with
    | zero=>exact cY.elim
    | succ k2=>exact ⟨k2,rfl⟩
  obtain ⟨ya,yn,bJ,gq⟩:=cY;have wg:=Kh kS hi;refine Ck (Et (Cs (Cb (Cs (Cr (V0 (Yo sR O O fg (by omega)) (V0 (cM 1 jD O O O (bJ)) ?_)))))));refine Al Y O iy λb7=>?_;refine an 0 Y O O O mN O O O (Ln (Et (Cr (V0 (Ym O) (V0 (Ym O) (V0 (bA 0 O O jD O) ?_))))));refine WL.wc (ι:=SP) (κ:=Unit) Y O amY O (λr=>.agg (qN (pC σ y) r.1 r.2).toArray) (λF r=>jB σ y=0/\sx (k2+1) F (pC σ y,r)) (λ_=>gm (jB σ y)) (λ_=>jB σ y≠0) (λw hw=>amM HS HE sb σ k2 y ya yn w (hw.vs _ (by simp)) (hw.vs _ (by simp)) hS (λHE l a c w h1 h2 h3 h4=>ih k2 (by omega) HE l a c w h1 h2 h3 h4) gq (by have:=T4 bC; omega)) ?_ ?_
  ·intro _ hp;refine WE.aQ (Ep (Ep (WE.aQ (Ep ?_))));refine aJ λw' hw=>?_
   have he:g_ σ l=jB σ y:=by rw [Nb,Ds (jB σ) bC zE hp]
   rw [he];exact .inr ⟨(),O,hw.fr,hp⟩
  intro F17 tf Qk ⟨Ql,Qm⟩;refine WL.nA λQn Qo Qp Qq=>?_;refine Lb Y O ZN O O O O λrC=>?_;refine bH 0 (.cells (XN.cells (pC σ y,tf)).toArray 238 (0,0)) O (O) ?_;refine LA (((pC σ y,tf):XN)) 2 0 Y O ZN O O O O O O (by omega) (by omega) λFq Fs=>?_;refine V0 (Ya O) (Ln (Eb (Et (Cr (V0 (Yi O O O (by omega)) (V0 (Ym O) (Ln ?_)))))));exact Ea (⟨g.i+1,g.es++[(pC σ y,tf)],Fq,Fs,Qn⟩:GX XN) (by show _-(g.i+1)<_; omega) ⟨(by show g.i+1<=_; omega),Kg kS bC O,by show hP (jB σ) (l.take (g.i+1))=0; rw [Na (jB σ) bC,zE,mC,Ql],⟨Qq _ Qk lY,Xs.snoc (R:=sx _) (λhv h=>sx.mv hv h) hX Qp Qo Qm⟩⟩ (sc O (sc O (sc O (sc O (sc O (sc O sn)))))) (λ_ h=>Wd 2 h)
 have cz:g.i=l.length:=by simp at ad; omega
 refine Ce (Ex (Ex (cf (Et (Cs ?_)))));refine WC.pz (rd:=Us) 0 O (λ_ hk=>by cases hk) XN.a8 (λ_ _ _ _ h=>h) λK7 E1 E2=>?_;refine Cr (V0 (Ym O) (V0 (Ya O) (Ln (Et (az ?_)))));refine R1 O O λw' hw=>?_
 have hz:g_ σ l=0:=by rw [Nb,<-zE,cz,List.take_length]
 have cg:=Ki kS cz;rw [<-Uy] at cg;rw [<-cg];exact .inl ⟨(g.a,g.c),by rw [List.length_map],hw.fr,hz,ad_ E2 (bD hw (by simp) E1) (bD hw (by simp) lY) hX⟩
theorem am4 (HS:View) (sb:Nat) (σ:cW) (hS:vv HS sb σ) (k:Nat):P_ HS sb σ k:=by
 intro HE l a c w oW vz hm wB;exact am1 HS HE sb σ hS k l a c w oW vz hm wB
theorem am5 (HS HE:View) (sb:Nat) (σ:cW) (ke k:Nat) (x:aP) (a:Option Addr) (c:Nat) (a2:Option Addr) (c2:Nat) (a3:Option Addr) (c3:Nat) (w:World) (oW:Le HS w) (vz:Le HE w) (hS:vv HS sb σ) (hN:P_ HS sb σ ke) (hA:amX HS sb σ ke k) (hm:Sl (eG ke) 5 HE a c x.args) (jh:Sl (gY ke k) 6 HE a2 c2 x.body) (kN:Sl (gY ke k) 6 HE a3 c3 x.other) (wB:wS x<=109951162777) :
   Calls Tryz.prog 140 #[.pointer (some ⟨sb,0,none⟩),.agg (yb x a c a2 c2 a3 c3).toArray] w λe w'=>(∃r:yh,e = .returned (.agg (um (pD σ x) r).toArray)/\Ext w w'/\iK σ x=0/\pB (ke+1) (k+1) (nv w w') (pD σ x,r))\/(∃_:Unit,e = .panicked (gm (iK σ x))/\Ext w w'/\iK σ x≠0):=by
 have Uj:=T3 x;have dQ:=hm.cap;have eB:=hm.max;refine enter Tryz.func140 O 88 O O ?_;refine CE (Vs:=[HE,HS]) (Ws.init (by simp [vz,oW])) (Cs (Cr ?_));refine WL.box Y O O λb3=>?_;refine Al Y O Fy λb4=>?_;refine Ln (Et (Cs (Cr (V0 (Yf oM O) (V0 (Yd 1 O O O aq) (V0 (Yb Fy amZ O O) ?_))))));refine Al Y O Fy λb5=>?_;refine an 0 Y O O O Kj O O O (Ln (Et (Cs (Cr ?_))));refine Al Y O iV λb6=>?_;refine Ln (Et ?_);refine WC.Dg (ι:=Unit) (λ_u=>[(0,.pointer (some ⟨sb,0,none⟩)),(3,.pointer (some ⟨b3,0,none⟩)),(4,.pointer (some ⟨b4,0,none⟩)),(5,.pointer (some ⟨b5,0,none⟩))]) (λ_u=>Ws w [] [ab b5 (.cells #[.int .i64 (dh σ x.op x.mod x.nm x.args.length).op,.int .i64 (dh σ x.op x.mod x.nm x.args.length).n,.int .i64 (dh σ x.op x.mod x.nm x.args.length).m,.int .i64 (dh σ x.op x.mod x.nm x.args.length).pl,.slice none 0 0,.slice none 0 0,.slice none 0 0] 191 (0,0)),ab b4 (.cells #[.int .i64 0,.int .i64 0,.int .i64 0,.int .i64 0,.slice none 0 0,.slice none 0 0,.slice none 0 0] 191 (0,0)),ab b3 (.cells (yb x a c a2 c2 a3 c3).toArray 222 (0,0))] [HE,HS]) (λ_u=>(dh σ x.op x.mod x.nm x.args.length).e=0) ?_ ?_
 ·refine Cs (Cr (V0 (Yf oM O) (V0 (Yd 3 O O O aq) (Ln (Et (Cb (Cs (Cr (V0 (aG O O) (V0 (Ya O) (Ln (Et ?_))))))))))));refine Cc O (λad=>?_) (λad=>?_)
  ·have fL:x.op=1:=by simpa using ad
   refine Cs (Cr (V0 (Ym O) (V0 (Yf D7 O) (V0 (Yd 3 O O O df) (V0 (Yf D8 O) (V0 (Yd 3 O O O df) ?_))))));refine WL.lN Y O Qg O _ _ _ _ (λw hw=>Qb HS sb σ w (hw.vs _ (by simp)) hS x.mod x.nm) ?_ ?_
   ·intro _ hp;refine Ep (WE.aQ (Ep ?_));refine aJ λw' hw=>?_
    have he:iK σ x=5:=by rw [wo,Qf (by omega) hp]; rfl
    rw [he];exact .inr ⟨(),O,hw.fr,by decide⟩
   intro ⟨m20,Qr⟩ Fi;have wh:=amG (len:=x.args.length) Fi;have C9:=tg Fi;refine V0 (Ym O) (V0 (Yx O O) (V0 (Yx O O) (V0 (Yf oX O) (an 1 Y O O O bX O O O (an 0 Y O O O ly O O O (Ln (Et (Cs (Cr (V0 (Yf oX O) ?_))))))))));refine V0 (Yd 1 O O O aq) (V0 (bq O O) (V0 (Ym O) ?_));apply Lo 3 O O O O Y O O O O O
   ·intro de;refine Vg (Yf Fk O) (Vg (Yd 0 O O O aq) (Vg (aG O O) ?_));exact Gt 3 O O O
   refine WL.lN (ι:=Unit) (κ:=Unit) Y O vx O (λ_=>.tuple #[]) (λ_=>_=true) (λ_=>gm _) (λ_=>_=false) (λw hw=>vy _ _ w) ?_ ?_
   ·intro _ hp;refine Ep (WE.aQ (Ep ?_));refine aJ λw' hw=>?_
    have eI:¬(m20 = -1\/Qr.kind=2):=by simp at hp; omega
    rw [if_neg eI] at wh
    have he:iK σ x=7:=by rw [wo,fL,wh]; rfl
    rw [he];exact .inr ⟨(),O,hw.fr,by decide⟩
   intro _ JU
   have eI:m20 = -1\/Qr.kind=2:=by
     simp at JU;omega
   have fJ:(dh σ x.op x.mod x.nm x.args.length)=⟨x.op,0,m20,Qr.pl,0⟩:=by rw [fL]; rw [wh,if_pos eI]
   refine Ln (Et (Cr (V0 (Yf lx O) (V0 (Yd 0 O O O aq) (V0 (Yf p7 O) (an 1 Y O O O bX O O O (Ln (Eb ?_))))))));refine WE.nB 1 (.cells #[.int .i64 (dh σ x.op x.mod x.nm x.args.length).op,.int .i64 (dh σ x.op x.mod x.nm x.args.length).n,.int .i64 (dh σ x.op x.mod x.nm x.args.length).m,.int .i64 (dh σ x.op x.mod x.nm x.args.length).pl,.slice none 0 0,.slice none 0 0,.slice none 0 0] 191 (0,0)) O (by rw [fJ]; rfl) ?_
   exact Em () (by rw [fJ]) (sc O (sc O (sc O (sc O sn)))) (λ_ h=>by
     have h:=h.ao 3 rfl;have h:=h.ao 3 rfl;have h:=h.ao 3 rfl;have h:=Wt 3 h
     exact h)
  have h1:¬x.op=1:=by simpa using ad
  refine Cs (Cr (V0 (aG O O) (V0 (Ya O) (Ln (Et ?_)))));refine Cc O (λar=>?_) (λar=>?_)
  ·have fL:x.op=2:=by simpa using ar
   refine Cs (Cr (V0 (Ym O) (V0 (Yf D7 O) (V0 (Yd 3 O O O df) (V0 (Yf D8 O) (V0 (Yd 3 O O O df) ?_))))));refine WL.lN Y O Ke O _ _ _ _ (λw hw=>Kf HS sb σ w (hw.vs _ (by simp)) hS x.mod x.nm 3 0) ?_ ?_
   ·intro _ hp;refine Ep (WE.aQ (Ep ?_));refine aJ λw' hw=>?_
    have he:iK σ x=iC σ x.mod x.nm 3 0:=by rw [wo,fL,amH hp,uq hp]
    rw [he];exact .inr ⟨(),O,hw.fr,hp⟩
   intro ⟨m44,ZP⟩ ⟨am7,am8⟩
   have fJ:(dh σ x.op x.mod x.nm x.args.length)=⟨x.op,ZP.n,m44,ZP.pl,0⟩:=by rw [fL]; exact amI am7 am8
   refine V0 (Ym O) (V0 (Yx O O) (V0 (Yx O O) (V0 (Yf oX O) (an 1 Y O O O bX O O O (an 0 Y O O O ly O O O (Ln (Et ?_)))))));refine WC.nq 1 [(0,true),(1,true),(2,true),(3,true),(4,true),(5,false),(6,false),(7,false)] mixed (by kernel_rfl) (λ_ _ _ d _ h=>by cases d<;>exact h) ?_;refine D0 O (Wp 1) (Yf lx O) (D0 O (Wp 1) (Yd 0 O O O aq) (D0 O (Wp 1) (Yf p6 O) (D0 O (Wp 1) (Yd 0 O O O aq) (D0 O (Wp 1) (Yf p7 O) ?_))));refine De O (Wp 1) ?_;refine an 1 Y O O O bX O O O (Ln (Ed ?_));refine De O (Wp 1) ?_;refine V0 (Yf zC O) (Ln (Ed ?_));refine De O (Wp 1) ?_;refine an 1 Y O O O bX O O O (Ln (Ed ?_));refine WD.nil (Wp 1) ?_;refine Eb ?_;refine WE.nB 1 (.cells #[.int .i64 (dh σ x.op x.mod x.nm x.args.length).op,.int .i64 (dh σ x.op x.mod x.nm x.args.length).n,.int .i64 (dh σ x.op x.mod x.nm x.args.length).m,.int .i64 (dh σ x.op x.mod x.nm x.args.length).pl,.slice none 0 0,.slice none 0 0,.slice none 0 0] 191 (0,0)) O (by rw [fJ]; rfl) ?_
   exact Em () (by rw [fJ]) (sc O (sc O (sc O (sc O sn)))) (λ_ h=>by
     have h:=h.ao 3 rfl;have h:=h.ao 3 rfl;have h:=h.ao 3 rfl;have h:=Wt 3 h
     exact h)
  have h2:¬x.op=2:=by simpa using ar
  refine Cs (Cr (V0 (aG O O) (V0 (Ya O) (Ln (Et ?_)))));refine Cc O (λay=>?_) (λay=>?_)
  ·have fL:x.op=3:=by simpa using ay
   refine Cs (Cr (V0 (Ym O) (V0 (Yf D7 O) (V0 (Yd 3 O O O df) (V0 (Yf D8 O) (V0 (Yd 3 O O O df) (V0 (Yf pP O) (V0 (Yd 3 O O O wF) ?_))))))));refine V0 (Yn sR O) ?_;refine WL.lN Y O Ke O _ _ _ _ (λw hw=>Kf HS sb σ w (hw.vs _ (by simp)) hS x.mod x.nm 4 (x.args.length:Int)) ?_ ?_
   ·intro _ hp;refine Ep (WE.aQ (Ep ?_));refine aJ λw' hw=>?_
    have he:iK σ x=iC σ x.mod x.nm 4 (x.args.length:Int):=by rw [wo,fL,amJ hp,uq hp]
    rw [he];exact .inr ⟨(),O,hw.fr,hp⟩
   intro ⟨m65,am'⟩ ⟨PI,Fh⟩
   have fJ:(dh σ x.op x.mod x.nm x.args.length)=⟨x.op,0,m65,am'.pl,0⟩:=by rw [fL]; exact amK PI Fh
   refine V0 (Ym O) (V0 (Yx O O) (V0 (Yx O O) (V0 (Yf oX O) (an 1 Y O O O bX O O O (an 0 Y O O O ly O O O (Ln (Et (Cr (V0 (Yf lx O) ?_)))))))));refine V0 (Yd 0 O O O aq) (V0 (Yf p7 O) (an 1 Y O O O bX O O O (Ln (Eb ?_))));refine WE.nB 1 (.cells #[.int .i64 (dh σ x.op x.mod x.nm x.args.length).op,.int .i64 (dh σ x.op x.mod x.nm x.args.length).n,.int .i64 (dh σ x.op x.mod x.nm x.args.length).m,.int .i64 (dh σ x.op x.mod x.nm x.args.length).pl,.slice none 0 0,.slice none 0 0,.slice none 0 0] 191 (0,0)) O (by rw [fJ]; rfl) ?_
   exact Em () (by rw [fJ]) (sc O (sc O (sc O (sc O sn)))) (λ_ h=>by
     have h:=h.ao 3 rfl;have h:=h.ao 3 rfl;have h:=h.ao 3 rfl;have h:=Wt 3 h
     exact h)
  have h3:¬x.op=3:=by simpa using ay
  have fJ:(dh σ x.op x.mod x.nm x.args.length)=⟨x.op,0,0,0,0⟩:=amF h1 h2 h3;refine Ck (Eb ?_);refine WE.nB 1 (.cells #[.int .i64 (dh σ x.op x.mod x.nm x.args.length).op,.int .i64 (dh σ x.op x.mod x.nm x.args.length).n,.int .i64 (dh σ x.op x.mod x.nm x.args.length).m,.int .i64 (dh σ x.op x.mod x.nm x.args.length).pl,.slice none 0 0,.slice none 0 0,.slice none 0 0] 191 (0,0)) O (by rw [fJ]; rfl) ?_
  exact Em () (by rw [fJ]) (sc O (sc O (sc O (sc O sn)))) (λ_ h=>by
    have h:=h.ao 3 rfl;have h:=h.ao 3 rfl;have h:=h.ao 3 rfl;have h:=Wt 3 h
    exact h)
 intro _ zB;refine Cs (Cr (V0 (Ym O) (V0 (Yf pP O) (V0 (Yd 2 O O O wF) ?_))));refine WL.wc (ι:=SP) (κ:=Unit) Y O ZJ O (λr=>.slice r.1 (lS σ x.args).length r.2) (λF r=>g_ σ x.args=0/\Sl (jA (ke+1)) 5 F r.1 r.2 (lS σ x.args)) (λ_=>gm (g_ σ x.args)) (λ_=>g_ σ x.args≠0) (λw hw=>hN HE x.args a c w (hw.vs _ (by simp)) (hw.vs _ (by simp)) hm (by omega)) ?_ ?_
 ·intro _ hp;refine Ep ?_;refine aJ λw' hw=>?_
  have he:iK σ x=g_ σ x.args:=by rw [wo,zB,mC,uq hp]
  rw [he];exact .inr ⟨(),O,hw.fr,hp⟩
 intro F75 Ji am_ ⟨Qt,h75⟩;refine V0 (Yf rL O) (an 0 Y O O O ZK O O O (Ln (Et (Cs ?_))));refine WC.nq 0 [(0,true),(1,true),(2,true),(4,true),(5,true),(6,true),(3,false),(8,true),(7,false),(9,false),(10,false),(11,false)] mixed (by kernel_rfl) (λ_ _ _ d _ h=>by cases d<;>exact h) ?_;refine D0 O (Wp 0) (Ym O) (D0 O (Wp 0) (Yf Bs O) (D0 O (Wp 0) (Yd 1 O O O mO) (D0 O (Wp 0) (Ym O) (D0 O (Wp 0) (Yf wH O) (D0 O (Wp 0) (Yd 1 O O O mO) ?_)))));refine De O (Wp 0) ?_;refine WL.wc (ι:=SP) (κ:=Unit) Y O Kk O (λr=>.slice r.1 (iw σ x.body).length r.2) (λF r=>dV σ x.body=0/\Sl (gZ (ke+1) (k+1)) 7 F r.1 r.2 (iw σ x.body)) (λ_=>gm (dV σ x.body)) (λ_=>dV σ x.body≠0) (λw hw=>hA HE x.body a2 c2 w (hw.vs _ (by simp)) (hw.vs _ (by simp)) jh (by omega)) ?_ ?_
 ·intro _ hp;refine Ep (Ep ?_);refine aJ λw' hw=>?_
  have he:iK σ x=dV σ x.body:=by rw [wo,zB,mC,Qt,mC,uq hp]
  rw [he];exact .inr ⟨(),O,hw.fr,hp⟩
 intro F80 r80 ane ⟨ZQ,Qu⟩;refine Ln (Ed (D0 O (λ_ h=>(Wv 1 (Wo 0 h):)) (Yf Fz O) ?_));refine De O (λ_ h=>(Wv 1 (Wo 0 h):)) ?_;refine WL.wc (ι:=SP) (κ:=Unit) Y O Kk O (λr=>.slice r.1 (iw σ x.other).length r.2) (λF r=>dV σ x.other=0/\Sl (gZ (ke+1) (k+1)) 7 F r.1 r.2 (iw σ x.other)) (λ_=>gm (dV σ x.other)) (λ_=>dV σ x.other≠0) (λw hw=>hA HE x.other a3 c3 w (hw.vs _ (by simp)) (hw.vs _ (by simp)) kN (by omega)) ?_ ?_
 ·intro _ hp;refine Ep (Ep ?_);refine aJ λw' hw=>?_
  have he:iK σ x=dV σ x.other:=by rw [wo,zB,mC,Qt,mC,ZQ,mC]
  rw [he];exact .inr ⟨(),O,hw.fr,hp⟩
 intro F84 r84 ang ⟨anh,h84⟩;refine Ln (Ed ?_);refine De O (λ_ h=>(Wv 2 (Wo 0 h):)) ?_;refine an 0 Y O O O Qj O O O (Ln (Ed ?_));refine De O (λ_ h=>(Wv 2 (Wo 0 h):)) ?_;refine V0 (Yf zD O) (Ln (Ed ?_));refine De O (λ_ h=>(Wv 2 (Wo 0 h):)) ?_;refine an 0 Y O O O Qj O O O (Ln (Ed ?_));refine WD.nil (λ_ h=>(Wv 2 (Wo 0 h):)) ?_;refine Et (Cs (Cr (V0 (bA 0 O O B1 O) (an 1 Y O O O Kj O O O (Ln (Et (az ?_)))))));refine WE.dJ (gd O (cS 1 O O B1 O)) λw' hw=>?_;rw [aef];exact .inl ⟨⟨Ji,r80,r84⟩,O,hw.fr,by rw [wo,zB,Qt,ZQ,anh]; rfl,Ie h75 (bD hw (by simp) am_),yi Qu (bD hw (by simp) ane),yi h84 (bD hw (by simp) ang)⟩
theorem ZR (HS HE:View) (sb:Nat) (σ:cW) (ke:Nat) (hS:vv HS sb σ) (k:Nat) (l:List aP) (a:Option Addr) (c:Nat) (w:World) (oW:Le HS w) (vz:Le HE w) (hm:Sl (gY ke k) 6 HE a c l) (wB:cP l<=109951162777) :
   Calls Tryz.prog 118 #[.pointer (some ⟨sb,0,none⟩),.slice a l.length c] w λe w'=>(∃r:SP,e = .returned (.slice r.1 (iw σ l).length r.2)/\Ext w w'/\dV σ l=0/\Sl (gZ (ke+1) (k+1)) 7 (nv w w') r.1 r.2 (iw σ l))\/(∃_:Unit,e = .panicked (gm (dV σ l))/\Ext w w'/\dV σ l≠0):=by
 induction k using Nat.strongRecOn generalizing HE l a c w
 rename_i k ih;have dQ:=hm.cap;have eB:=hm.max;have hlw:=T7 l;refine enter Tryz.func118 O 22 O O ?_;refine CE (Vs:=[HE,HS]) (Ws.init (by simp [vz,oW])) (Cs (Cr (V0 (Ya O) (Ln (Et (Cs (Cr (V0 (Ya O) (LW (λ_ h=>h.fB 191 7) ?_)))))))));refine WL.v0 ?_;refine Ln (Et (Cs (Cs (Cr (V0 (Ym O) (V0 (Yn rh O) (V0 (Ym O) (Ln (Et (Cb ?_))))))))));refine cU (ι:=GX XA) (λg=>[(10,.int .i64 (g.i:Int)),(5,.slice g.a g.es.length g.c)]) [(0,_),(4,_),(8,_),(9,_)] (λg=>Ws w [] [bo 191 7 XA.cells g.a g.c g.es] [g.J,HE,HS]) (λg=>g.i<=l.length/\g.es.map (·.1)=(l.take g.i).map (pD σ)/\hP (iK σ) (l.take g.i)=0/\(eE w g.J/\Xs (pB (ke+1) k) g.J g.es)) (λg=>l.length-g.i) ⟨0,[],none,0,v0⟩ ⟨Nat.zero_le _,O,O,⟨wa w,Xs.nil _⟩⟩ (sc O (sc O (sc O (sc O (sc O (sc O sn)))))) (λ_ h=>by have h:=Ws.bw h (a_:=[v0,HE,HS]) (by simp); exact h) ?_;intro g ⟨hi,kS,zE,⟨lY,hX⟩⟩;refine Cs (Cr (V0 (bq O O) (Ln (Et (Cs ?_)))));refine Cc O (λad=>?_) (λad=>?_)
 ·have aw:g.i<l.length:=by simpa using ad
  obtain ⟨y,bC⟩:∃q,l[g.i]? = some q:=⟨_,List.getElem?_eq_getElem aw⟩;obtain ⟨jY,jZ,fg,cY⟩:=hm.aZ g.i y bC
  obtain ⟨k2,rfl⟩:∃k2,k=k2+1:=by
    cases k with
    | zero=>exact cY.elim
    | succ k2=>exact ⟨k2,rfl⟩
  obtain ⟨ya,yn,y2,m2,y3,m3,bJ,j7,jh,kN⟩:=cY;have wg:=Kh kS hi;refine Ck (Et (Cs (Cb (Cs (Cr (V0 (Yo rh O O fg (by omega)) (V0 (cM 1 jg O O O (bJ)) ?_)))))));refine Al Y O u0 λb7=>?_;refine an 0 Y O O O ri O O O (Ln (Et (Cr (V0 (Ym O) (V0 (Ym O) (V0 (bA 0 O O jg O) ?_))))));refine WL.wc (ι:=yh) (κ:=Unit) Y O am0 O (λr=>.agg (um (pD σ y) r).toArray) (λF r=>iK σ y=0/\pB (ke+1) (k2+1) F (pD σ y,r)) (λ_=>gm (iK σ y)) (λ_=>iK σ y≠0) (λw hw=>am5 HS HE sb σ ke k2 y ya yn y2 m2 y3 m3 w (hw.vs _ (by simp)) (hw.vs _ (by simp)) hS (am4 HS sb σ hS ke) (λHE l a c w h1 h2 h3 h4=>ih k2 (by omega) HE l a c w h1 h2 h3 h4) j7 jh kN (by have:=T5 bC; omega)) ?_ ?_
  ·intro _ hp;refine WE.aQ (Ep (Ep (WE.aQ (Ep ?_))));refine aJ λw' hw=>?_
   have he:dV σ l=iK σ y:=by rw [Nc,Ds (iK σ) bC zE hp]
   rw [he];exact .inr ⟨(),O,hw.fr,hp⟩
  intro F17 tf Qk ⟨Ql,Qm⟩;refine WL.nA λQn Qo Qp Qq=>?_;refine Lb Y O ZO O O O O λrC=>?_;refine bH 0 (.cells (XA.cells (pD σ y,tf)).toArray 191 (0,0)) O (O) ?_;refine LA (((pD σ y,tf):XA)) 2 0 Y O ZO O O O O O O (by omega) (by omega) λFq Fs=>?_;refine V0 (Ya O) (Ln (Eb (Et (Cr (V0 (Yi O O O (by omega)) (V0 (Ym O) (Ln ?_)))))));exact Ea (⟨g.i+1,g.es++[(pD σ y,tf)],Fq,Fs,Qn⟩:GX XA) (by show _-(g.i+1)<_; omega) ⟨(by show g.i+1<=_; omega),Kg kS bC O,by show hP (iK σ) (l.take (g.i+1))=0; rw [Na (iK σ) bC,zE,mC,Ql],⟨Qq _ Qk lY,Xs.snoc (R:=pB _ _) (λhv h=>pB.mv hv h) hX Qp Qo Qm⟩⟩ (sc O (sc O (sc O (sc O (sc O (sc O sn)))))) (λ_ h=>Wd 2 h)
 have cz:g.i=l.length:=by simp at ad; omega
 refine Ce (Ex (Ex (cf (Et (Cs ?_)))));refine WC.pz (rd:=Ut) 0 O (λ_ hk=>by cases hk) XA.a8 (λ_ _ _ _ h=>h) λK7 E1 E2=>?_;refine Cr (V0 (Ym O) (V0 (Ya O) (Ln (Et (az ?_)))));refine R1 O O λw' hw=>?_
 have hz:dV σ l=0:=by rw [Nc,<-zE,cz,List.take_length]
 have cg:=Ki kS cz;rw [<-Uz] at cg;rw [<-cg];exact .inl ⟨(g.a,g.c),by rw [List.length_map],hw.fr,hz,aea E2 (bD hw (by simp) E1) (bD hw (by simp) lY) hX⟩
def zF (H:View) (b o:Nat) (e:SP×List Tx):Prop:=vc H b o=some (.slice e.1.1 e.2.length e.1.2)/\Sl rdStr 1 H e.1.1 e.1.2 e.2
def eC (ls:List ((Option Addr×Nat)×List Tx)):Nat:=(ls.map (·.2.length)).sum
theorem FA {ls:List ((Option Addr×Nat)×List Tx)} {i:Nat} {x:(Option Addr×Nat)×List Tx} (h:ls[i]? = some x):eC (ls.take (i+1))=eC (ls.take i)+x.2.length:=by
 simp [eC,List.take_add_one,h]
theorem FB (ls:List ((Option Addr×Nat)×List Tx)) (i:Nat):eC (ls.take i)<=eC ls:=by
 have e:eC ls=eC (ls.take i)+eC (ls.drop i):=by
   unfold eC;rw [<-List.sum_append,<-List.map_append,List.take_append_drop]
 omega
theorem FC (ls:List ((Option Addr×Nat)×List Tx)):(ls.flatMap (·.2)).length=eC ls:=by simp [eC,List.length_flatMap]
theorem Kl:dL Tryz.prog 251=some 1:=by kernel_rfl
theorem anj:Enters Tryz.prog 139:=enters_of Tryz.func139 (by kernel_rfl) rfl
theorem ZS:cq Tryz.prog 199=some 1:=by kernel_rfl
theorem Km:eR Tryz.prog 58=some [(0,1),(1,1),(2,1),(3,1),(4,1)]:=by kernel_rfl
theorem tm:zeroOf Tryz.prog 58=some (.agg #[st [],.slice none 0 0,.int .i64 0,.slice none 0 0,.slice none 0 0]):=by kernel_rfl
theorem ank:aX Tryz.prog 199 0=some 0:=by kernel_rfl
theorem tp:cq Tryz.prog 58=some 5:=by kernel_rfl
theorem ZT (H:View) (a:Option Addr) (c:Nat) (l:List Tx) (w:World) (hH:Le H w) (hm:Sl rdStr 1 H a c l) (hb:l.length<=1048576) :
   Calls Tryz.prog 66 #[.slice a l.length c] w λe w'=>∃r:SP,e = .returned (.slice r.1 l.length r.2)/\Ext w w'/\Sl rdStr 1 (nv w w') r.1 r.2 l:=by
 have dQ:=hm.cap;have eB:=hm.max;refine enter Tryz.func66 O 8 O O ?_;refine CE (Vs:=[H]) (Ws.init (by simp [hH])) (Cs (Cr (V0 (Ya O) (Ln (Et (Cs (Cs (Cr (V0 (Ym O) (V0 (Tb dY O) (Ln (Et ?_))))))))))));refine Cc O (λad=>?_) (λad=>?_)
 ·have vQ:l=[]:=by
    cases l with
    | nil=>rfl
    | cons x r=>obtain ⟨b,o,h,_⟩:=hm.aZ 0 x rfl; rw [h] at ad; cases ad
  refine Cs (Cr (V0 (Ya O) (Ln (Et (az (Er ?_))))));refine R1 O O λw' hw=>?_;subst vQ;exact ⟨(none,0),O,hw.fr,Sl.nil⟩
 refine Ck (Et (Cs (Cr ?_)));refine WL.Ml Y O dn O O O λb5=>?_;refine WL.Hm (size:=1) 0 O (Nat.le_refl 0) (Nat.zero_le _) O ?_;refine WL.Hq 0 ([]:List Tx).length (([]:List Tx).flatMap d_) O O O ?_;refine V0 (Ym O) ?_;refine WL.x1 (ys:=l) (xs:=[]) 0 (λ_=>H) Y O dn O O O (λw hw=>⟨hw.vs H (by simp),hm⟩) (λ_ _ _ _ h=>h) oz Zd (by simp; omega) (by simp; omega) λa7 c7=>?_;refine V0 (Ya O) (Ln (Et (az ?_)));refine R1 O O λw' hw=>?_;exact ⟨(a7,c7),O,hw.fr,hw.gv 0 O oz (λ_ _ _ _ h=>h)⟩
theorem anl (m:Nat) (w:World) (hm:m<=1048576) :
   Calls Tryz.prog 139 #[.slice none 0 0,.int .i64 (m:Int)] w λe w'=>∃r:SP,e = .returned (.slice r.1 ([]:List Tx).length r.2)/\Ws w [] [bo 9 1 d_ r.1 r.2 ([]:List Tx)] [] w':=by
 refine enter Tryz.func139 O 27 O O ?_;refine CE (Vs:=[]) (Ws.init (by simp)) (Cs (Cr (V0 (Ya O) (Ln (Et (Cs (Cs (Cr (V0 (Ym O) (V0 (bq O O) (Ln (Et ?_))))))))))));refine Cc O (λad=>?_) (λad=>?_)
 ·exfalso
  simp at ad;omega
 refine Ck (Et (Cs (Cs (Cr (V0 (Ym O) (V0 (Ym O) (V0 (HG dY O) (V0 (Ym O) (V0 (Yn dY O) (V0 (qD 0 O O (by simp) (by omega)) (V0 (qD (m:Int) O O (by simp) (by omega)) ?_)))))))))));refine V0 (Ya O) (Ln (Et (Cs (Cr (V0 (Ym O) (V0 (bZ O O) (Ln (Et ?_))))))));refine Cc O (λar=>?_) (λar=>?_)
 ·have h0:0<m:=by simp at ar; omega
  refine Cr (V0 (Ym O) (V0 (Ym O) (V0 (HG dY O) (V0 (ue 0 dY O (by simp) O O (Nat.zero_le _)) (V0 (Ym O) ?_)))));refine WL.TH m Y O dn jX O O h0 (by unfold maxLen; omega) (by omega) λBX FD anm ann Qv Qw=>?_;refine WL.Hm (m:=0) (cap:=FD) (size:=1) 0 O (Nat.zero_le _) Qv (by rw [Qw,Nat.mul_one]) ?_;refine WL.Hq 0 ([]:List Tx).length (([]:List Tx).flatMap d_) O O (by simp) ?_;refine V0 (Ym O) (V0 (Yn dY O) (V0 (ue ([]:List Tx).length dY O (by simp) O O (Nat.zero_le _)) (V0 (Ya O) (Ln (Et (Cs (Cr (V0 (Ym O) (V0 (Ya O) (Ln (Et (az ?_))))))))))));refine R1 O O λw' hw=>?_;exact ⟨(some ⟨BX,0,none⟩,FD),O,hw⟩
 refine Ck (Et (Cs (Cr (V0 (Ym O) (V0 (Ya O) (Ln (Et (az ?_))))))));refine R1 O O λw' hw=>?_;exact ⟨(none,0),O,hw.fB 9 1⟩
theorem ano (H:View) (a:Option Addr) (c:Nat) (ls:List (SP×List Tx)) (w:World) (hH:Le H w) (hm:Sl zF 1 H a c ls) (hb:eC ls<=1048576) (vA:ls.length<=1048576) :
   Calls Tryz.prog 117 #[.slice a ls.length c] w λe w'=>∃r:SP,e = .returned (.slice r.1 (ls.flatMap (·.2)).length r.2)/\Ext w w'/\Sl rdStr 1 (nv w w') r.1 r.2 (ls.flatMap (·.2)):=by
 have dQ:=hm.cap;have eB:=hm.max;refine enter Tryz.func117 O 36 O O ?_;refine CE (Vs:=[H]) (Ws.init (by simp [hH])) (Cs (Cr (V0 (Ya O) (Ln (Et (Cs (Cr (V0 (Ya O) (Ln (Et (Cs (Cs (Cr (V0 (Ym O) (V0 (Yn Kl O) ?_)))))))))))))));refine V0 (Ym O) (Ln (Et (Cb ?_)));refine CW (ι:=Nat) (λi=>[(11,.int .i64 (i:Int)),(3,.int .i64 (eC (ls.take i):Int))]) [(0,_),(2,_),(9,_),(10,_)] (λi=>i<=ls.length) (λi=>ls.length-i) 0 (Nat.zero_le _) (sc O (sc O (sc O (sc O (sc O (sc O sn)))))) ?_;intro i hi;refine Cs (Cr (V0 (bq O O) (Ln (Et (Cs ?_)))));refine Cc O (λad=>?_) (λad=>?_)
 ·have aw:i<ls.length:=by simpa using ad
  obtain ⟨x,hx⟩:∃x,ls[i]? = some x:=⟨_,List.getElem?_eq_getElem aw⟩;obtain ⟨pb,po,ha,bJ,nt⟩:=hm.aZ i x hx;have xS:=FA hx;have Qx:=FB ls (i+1);refine Ck (Et (Cs (Cb (Cs (Cr (V0 (Yo Kl O O ha (by omega)) (V0 (dm 0 fh O O (bJ)) (V0 (Ya O) (Ln (Et (Cs (Cr (V0 (Ym O) (V0 (Ym O) (V0 (Yn dY O) ?_)))))))))))))));refine V0 (Mo (a:=eC (ls.take i)) (b:=x.2.length) O O O O (by omega)) (V0 (Ya O) (Ln (Et (Cs (Cr (V0 (Ym O) (V0 (bq O O) (Ln (Et ?_)))))))));refine Cc O (λar=>?_) (λar=>?_)
  ·exfalso
   simp at ar;omega
  refine Ck (Eb (Et (Cr (V0 (Yi O O O (by omega)) (V0 (Ym O) (Ln ?_))))));rw [<-xS];exact Ea (i+1) (by omega) (by omega) (sc O (sc O (sc O (sc O (sc O (sc O sn)))))) (λ_ h=>h)
 have mL:i=ls.length:=by simp at ad; omega
 subst mL;rw [List.take_length];refine Ce (Ex (Ex (cf (Et (Cs (Cr (V0 (Ym O) ?_)))))));refine Lw (ι:=SP) [] _ Y O anj O O (λr=>.slice r.1 ([]:List Tx).length r.2) (λr=>[bo 9 1 d_ r.1 r.2 ([]:List Tx)]) (λ_=>True) [] (by simp) (λw hw=>(anl (eC ls) w hb).mono λe w' ⟨r,h1,h2⟩=>⟨r,h1,trivial,h2⟩) ?_;intro sZ _;refine V0 (Ya O) (Ln (Et (Cs (Cs (Cr (V0 (Ym O) (V0 (Yn Kl O) (V0 (Ym O) (Ln (Et (Cb ?_)))))))))));refine cU (ι:=Nat×Option Addr×Nat) (λg=>[(27,.int .i64 (g.1:Int)),(6,.slice g.2.1 ((ls.take g.1).flatMap (·.2)).length g.2.2)]) [(2,_),(25,_),(26,_)] (λg=>Ws w [] [bo 9 1 d_ g.2.1 g.2.2 ((ls.take g.1).flatMap (·.2))] [H]) (λg=>g.1<=ls.length) (λg=>ls.length-g.1) (0,sZ.1,sZ.2) (Nat.zero_le _) (sc O (sc O (sc O (sc O (sc O sn))))) (λ_ h=>h) ?_;intro g hi;refine Cs (Cr (V0 (bq O O) (Ln (Et (Cs ?_)))));refine Cc O (λay=>?_) (λay=>?_)
 ·have aw:g.1<ls.length:=by simpa using ay
  obtain ⟨x,hx⟩:∃x,ls[g.1]? = some x:=⟨_,List.getElem?_eq_getElem aw⟩;obtain ⟨pb,po,ha,bJ,nt⟩:=hm.aZ g.1 x hx;have xS:=FA hx;have Qx:=FB ls (g.1+1);refine Ck (Et (Cs (Cb (Cs (Cr (V0 (Yo Kl O O ha (by omega)) (V0 (dm 0 fh O O (bJ)) (V0 (Ya O) (Ln (Et (Cr (V0 (Ym O) (V0 (Ym O) ?_)))))))))))));refine WL.x1 (xs:=(ls.take g.1).flatMap (·.2)) (ys:=x.2) 0 (λ_=>H) Y O dn O O O (λw hw=>⟨hw.vs H (by simp),nt⟩) (λ_ _ _ _ h=>h) oz Zd (by rw [FC]; omega) (by rw [FC]; omega) λQy Qz=>?_;rw [show ((ls.take g.1).flatMap (·.2))++x.2=(ls.take (g.1+1)).flatMap (·.2) by rw [List.take_add_one,hx]; simp];refine V0 (Ya O) (Ln (Eb (Et (Cr (V0 (Yi O O O (by omega)) (V0 (Ym O) (Ln ?_)))))));exact Ea ((g.1+1,Qy,Qz):Nat×Option Addr×Nat) (by first | omega | (dsimp only; omega)) (by first | omega | (dsimp only; omega)) (sc O (sc O (sc O (sc O (sc O sn))))) (λ_ h=>h)
 have mL:g.1=ls.length:=by simp at ay; omega
 refine Ce (Ex (Ex (cf (Et (Cs (Cr (V0 (Ym O) (V0 (Ya O) (Ln (Et (az ?_)))))))))));refine R1 O O λw' hw=>?_;rw [mL,List.take_length] at hw;rw [mL,List.take_length];exact ⟨(g.2.1,g.2.2),O,hw.fr,hw.gv 0 O oz (λ_ _ _ _ h=>h)⟩
theorem anp (b4 b5:Nat) (m0:List Value) (zq:m0.length=5) (e0 Kn:Int) (w:World) (hw:Ws w (List.flatMap ak.ids [ab b4 (.cells m0.toArray 58 (0,0)),ab b5 (.cells #[.int .i64 e0] 29 (0,0))]) [ab b4 (.cells m0.toArray 58 (0,0)),ab b5 (.cells #[.int .i64 e0] 29 (0,0))] [] w) :
   CallsD Tryz.prog 112 #[.pointer (some ⟨b4,0,none⟩),.pointer (some ⟨b5,0,none⟩)] (.returning) w λe u2 w'=>u2 = .returning/\(e = .returned (.tuple #[])/\Ws w (List.flatMap ak.ids [ab b4 (.cells m0.toArray 58 (0,0)),ab b5 (.cells #[.int .i64 e0] 29 (0,0))]) [ab b4 (.cells m0.toArray 58 (0,0)),ab b5 (.cells #[.int .i64 e0] 29 (0,0))] [] w'):=by
 refine Da Tryz.func112 O 18 O O O O O (λ_=>rfl) (.inl ⟨O,O,O⟩) ?_;refine LW (W':=Ws w (List.flatMap ak.ids [ab b4 (.cells m0.toArray 58 (0,0)),ab b5 (.cells #[.int .i64 e0] 29 (0,0))]) [ab b4 (.cells m0.toArray 58 (0,0)),ab b5 (.cells #[.int .i64 e0] 29 (0,0))] []) (λ_ e=>by subst e; exact hw) (V0 (Ya O) (Ln (Et (Cs (Cr (V0 (Ym O) (V0 (adS Tryz.underlying199 Kb O) (V0 (Ym O) (V0 (Yx O O) (V0 (Yx O O) ?_))))))))));refine Al Y O Kb λb3=>?_;refine an 0 Y O O O ZS O O O (V0 (Ya O) (Ln (Et (Cs (Cr (V0 (Ym O) (Ln (Et ?_))))))));refine WC.CP O ?_;refine Cs (Cr (V0 (Ym O) (V0 (Tn PM O) (Ln (Et ?_)))));refine WC.CP O ?_;refine Ck ?_;refine E0 O λw' hw=>?_;exact ⟨O,Wd 1 hw⟩
theorem Ko (b4 b5:Nat) (m0:List Value) (zq:m0.length=5) (e0 Kn:Int) (w:World) (hw:Ws w (List.flatMap ak.ids [ab b4 (.cells m0.toArray 58 (0,0)),ab b5 (.cells #[.int .i64 e0] 29 (0,0))]) [ab b4 (.cells m0.toArray 58 (0,0)),ab b5 (.cells #[.int .i64 e0] 29 (0,0))] [] w) :
   CallsD Tryz.prog 112 #[.pointer (some ⟨b4,0,none⟩),.pointer (some ⟨b5,0,none⟩)] (.panicking (gm Kn)) w λe u2 w'=>u2 = .panicking [⟨.iface 199 (.agg #[.int .i64 Kn]),true,false⟩]/\(e = .returned (.tuple #[])/\Ws w (List.flatMap ak.ids [ab b4 (.cells m0.toArray 58 (0,0)),ab b5 (.cells #[.int .i64 e0] 29 (0,0))]) [ab b4 (.cells (eV jS k8).toArray 58 (0,0)),ab b5 (.cells #[.int .i64 Kn] 29 (0,0))] [] w'):=by
 refine Da Tryz.func112 O 18 O O O O O (λ_=>rfl) (.inr ⟨_,O,O,O⟩) ?_;refine LW (W':=Ws w (List.flatMap ak.ids [ab b4 (.cells m0.toArray 58 (0,0)),ab b5 (.cells #[.int .i64 e0] 29 (0,0))]) [ab b4 (.cells m0.toArray 58 (0,0)),ab b5 (.cells #[.int .i64 e0] 29 (0,0))] []) (λ_ e=>by subst e; exact hw) (V0 (Ya O) (Ln (Et (Cs (Cr (V0 (Ym O) (V0 (adR Tryz.underlying199 O) (V0 (Ym O) (V0 (Yx O O) (V0 (Yx O O) ?_))))))))));refine Al Y O Kb λb3=>?_;refine an 0 Y O O O ZS O O O (V0 (Ya O) (Ln (Et (Cs (Cr (V0 (Ym O) (Ln (Et ?_))))))));refine WC.L5 O ?_;refine WC.Hx (λ_=>true) [1,1] [(0,true),(1,true),(2,true),(3,false),(4,false)] mixed (by kernel_rfl) (by kernel_rfl) (λ_ _ _ d _ _ h=>by cases d<;>exact h) ?_;refine D0 O (bk [1,1]) (Yb tm Km O O) (D0 O (bk [1,1]) (Yf ank O) (D0 O (bk [1,1]) (Yd 0 O O O iU) ?_));refine De O (bk [1,1]) ?_;refine WL.S4 1 (.cells (eV jS k8).toArray 58 (0,0)) Y O O O tp O O (by simp [tY,zq]) (by simp [mg,dv,eV,jS,k8,zq,List.drop_eq_nil_of_le]) ?_;refine Ln (Ed ?_);refine De O (bk [1,1]) ?_;refine an 2 Y O O O oV O O O (Ln (Ed ?_));refine WD.nil (bk [1,1]) ?_;refine E0 O λw' hw=>?_;exact ⟨O,Wd 1 hw⟩
def vB (f:List UInt8×List aV) (r:SP):List Value:=[st f.1,.slice r.1 f.2.length r.2]
def B2 (H:View) (b o:Nat) (f:List UInt8×List aV):Prop:=∃r:SP,aT H b o (vB f r)/\Sl lQ 4 H r.1 r.2 f.2
abbrev XM:=List aV×Nat
def XM.cells (e:XM):List Value:=[.map (some e.2)]
theorem XM.a8 (e:XM):(XM.cells e).length=1:=rfl
def anq (H:View) (b o:Nat) (e:XM):Prop:=aT H b o (XM.cells e)
def B3 (J:View) (e:XM):Prop:=J e.2=some (bn st (gR e.1 0) e.1.length)
theorem B3.mv {A B:View} {e:XM} (hv:aL A B) (h:B3 A e):B3 B e:=hv _ _ h
def xj (u:List UInt8) (f:List UInt8×List aV):Bool:=(uk f.1 f.2==0)&&(f.1==u)
theorem QA:∀{us:List (List UInt8)} {fs:List (List UInt8×List aV)},qO us fs=true↔∀(k:Nat) u f,us[k]? = some u->fs[k]? = some f->xj u f=true
 | [],fs=>by simp [qO]
 | u::us,[]=>by simp [qO]
 | u::us,f::fs=>by
   have ih:=QA (us:=us) (fs:=fs);simp only [qO,Bool.and_eq_true]
   constructor
   · rintro ⟨h1,h2⟩ k u' f' hu hf
     cases k with
     | zero=>simp at hu hf; subst hu; subst hf; simp only [xj,Bool.and_eq_true]; exact h1
     | succ k=>exact ih.1 h2 k u' f' (by simpa using hu) (by simpa using hf)
   · intro h
     refine ⟨by have:=h 0 u f O O; simp only [xj,Bool.and_eq_true] at this; exact this,ih.2 λk u' f' hu hf=>h (k+1) u' f' (by simpa using hu) (by simpa using hf)⟩
theorem anr {n:List UInt8} {l:List aV} (h:uk n l=0):(l.map (·.name)).Nodup/\l.length<=16:=by
 unfold uk at h
 split at h
 · cases h
 · split at h
   · rename_i h1 h2
     simp only [Bool.and_eq_true,Bool.not_eq_true',Bool.or_eq_false_iff] at h2;exact ⟨qM.2 h2.2.1,by omega⟩
   · cases h
theorem ans {m:bc} {fs:List (List UInt8×List aV)} (h:¬(gQ m).2=0):cD m fs=(jS,(gQ m).2):=by rw [cD,if_pos h]
theorem ant {m:bc} {fs:List (List UInt8×List aV)} (h:(gQ m).2=0) (h1:¬fs.length=m.ae.length):cD m fs=(jS,8):=by rw [cD,if_neg (by simp [h]),if_pos h1]
theorem anu {m:bc} {fs:List (List UInt8×List aV)} (h:(gQ m).2=0) (h1:fs.length=m.ae.length) (h2:qO m.ae fs=false):cD m fs=(jS,1):=by rw [cD,if_neg (by simp [h]),if_neg (by simp [h1]),if_pos h2]
theorem QB {m:bc} {fs:List (List UInt8×List aV)} (h:(gQ m).2=0) (h1:fs.length=m.ae.length) (h2:qO m.ae fs=true) (h3:pE m fs≠0):cD m fs=(jS,pE m fs):=by rw [cD,if_neg (by simp [h]),if_neg (by simp [h1]),if_neg (by simp [h2]),if_pos h3]
theorem anv {m:bc} {fs:List (List UInt8×List aV)} (h:(gQ m).2=0) (h1:fs.length=m.ae.length) (h2:qO m.ae fs=true) (h3:pE m fs=0):cD m fs=(AY m fs,0):=by rw [cD,if_neg (by simp [h]),if_neg (by simp [h1]),if_neg (by simp [h2]),if_neg (by simp [h3])]
theorem anw {m:bc} (h:(gQ m).2=0):jw m=0/\eo ((ec m).map (·.name))=false/\eo m.ae=false:=by
 by_cases hc:jw m=0
 · by_cases h2:(eo ((ec m).map (·.name))||eo m.ae)=true
   · rw [Zp hc h2] at h; cases h
   · rw [Bool.not_eq_true,Bool.or_eq_false_iff] at h2
     exact ⟨hc,h2⟩
 · rw [Zo hc] at h; exact absurd h hc
theorem ZU {l:List (List UInt8)} {k:Nat} {x:List UInt8} (hx:l[k]? = some x) (hn:x ∉ l.take k):bn st (dN x (.int .i64 ((k+1:Nat):Int)) (fQ (l.take k) 0) k) (jc x (fQ (l.take k) 0) k)=bn st (fQ (l.take (k+1)) 0) (k+1):=by
 have aw:=(List.getElem?_eq_some_iff.1 hx).1
 have hl:(l.take k).length=k:=by simp; omega
 have h:=UE hn;rw [hl] at h;rw [h.1,h.2,lW hx];simp [hl]
theorem anx {l:List (List UInt8)} (h:l.Nodup) {k:Nat} {x:List UInt8} (hx:l[k]? = some x):x ∉ l.take k:=by
 intro hm;obtain ⟨j,hj⟩:=List.getElem?_of_mem hm
 have jQ:j<k:=by have:=(List.getElem?_eq_some_iff.1 hj).1; simp at this; omega
 rw [List.getElem?_take,if_pos jQ] at hj;have NK:=(List.getElem?_eq_some_iff.1 hj).1;have:=(List.getElem?_inj NK h).1 (hj.trans hx.symm);omega
theorem anz {nm:List UInt8} {l:List (List UInt8)} (h:(l6 nm l==0)=true):nm ∉ l:=by
 have:¬0<l6 nm l:=by simp at h; omega
 exact AZ.1 (P9 this)
theorem anA {l:List (List UInt8)} {k:Nat} {x:List UInt8} (hx:l[k]? = some x) (h:(l6 x (l.take k)==0)=false):eo l=true:=by
 have dt:¬l6 x (l.take k)=0:=by simpa using h
 have hp:0<l6 x (l.take k):=by
   unfold l6 at dt ⊢
   cases hi:idxOf x (l.take k) 0 with
   | none=>rw [hi] at dt; exact absurd rfl dt
   | some j=>simp only; omega
 obtain ⟨j,hj,_,aw⟩:=P8 hp;have h2:=(A0 hj).2
 have jQ:j<k:=by simp at aw; omega
 rw [Nat.sub_zero,List.getElem?_take,if_pos jQ] at h2;exact M7.2 ⟨k,j,(List.getElem?_eq_some_iff.1 hx).1,jQ,by rw [hx,h2]⟩
theorem anB {l:List (List UInt8)} {k:Nat} {x:List UInt8} (hx:l[k]? = some x) (hn:x ∉ l.take k) (h:(l.take k).Nodup):(l.take (k+1)).Nodup:=by
 rw [lW hx,List.nodup_append];exact ⟨h,by simp,λa ha b hb=>by rw [List.mem_singleton] at hb; subst hb; intro e; subst e; exact hn ha⟩
theorem ZV {m:bc} {fs:List (List UInt8×List aV)} {p:dC} (h:eo (p.params++p.av)=true):sy m fs p=6:=by rw [sy,if_pos h]; rfl
theorem QC {m:bc} {fs:List (List UInt8×List aV)} {p:dC} (h:eo (p.params++p.av)=false):sy m fs p=dV (gx m fs (p.params++p.av)) p.body:=by rw [sy,if_neg (by simp [h])]; rfl
structure GP where
 i:Nat
 es:List XP
 a:Option Addr
 c:Nat
 J:View
 lb:Value
def B4 (m:bc) (c:SP) (n:Nat) (p:SP):List Value:=[st m.nm,.slice c.1 m.ae.length c.2,.int .i64 (AS m),.slice p.1 n p.2,.slice none 0 0]
theorem anC:Enters Tryz.prog 111:=enters_of Tryz.func111 (by kernel_rfl) rfl
theorem jl:eQ Tryz.prog 58=some 5:=by kernel_rfl
theorem QD:dL Tryz.prog 182=some 2:=by kernel_rfl
theorem ZW:Enters Tryz.prog 114:=enters_of Tryz.func114 (by kernel_rfl) rfl
theorem anD:eR Tryz.prog 209=some [(0,1),(1,1),(2,1),(3,1)]:=by kernel_rfl
theorem anE:zeroOf Tryz.prog 209=some (.agg #[.map none,.map none,.slice none 0 0,.map none]):=by kernel_rfl
theorem anF:Enters Tryz.prog 116:=enters_of Tryz.func116 (by kernel_rfl) rfl
theorem FE:Enters Tryz.prog 112:=enters_of Tryz.func112 (by kernel_rfl) rfl
theorem ZX:eS Tryz.prog 207 205 (.map none) 1 8:=gW (by kernel_rfl)
theorem anG:cq Tryz.prog 207=some 1:=by kernel_rfl
theorem ZY:Enters Tryz.prog 66:=enters_of Tryz.func66 (by kernel_rfl) rfl
theorem ZZ:cq Tryz.prog 64=some 1:=by kernel_rfl
theorem anH:eS Tryz.prog 251 22 (.slice none 0 0) 1 24:=gW (by kernel_rfl)
theorem anI:Enters Tryz.prog 117:=enters_of Tryz.func117 (by kernel_rfl) rfl
theorem B5:aX Tryz.prog 58 3=some 3:=by kernel_rfl
theorem FF:dI Tryz.prog 55=true:=by kernel_rfl
theorem Z0:eR Tryz.prog 125=some [(0,1),(1,1),(2,1)]:=by kernel_rfl
theorem FG:zeroOf Tryz.prog 125=some (.agg #[.int .i64 0,.int .i64 0,.slice none 0 0]):=by kernel_rfl
theorem Z1:eS Tryz.prog 55 125 (.agg #[.int .i64 0,.int .i64 0,.slice none 0 0]) 3 40:=gW (by kernel_rfl)
theorem anJ:cq Tryz.prog 55=some 1:=by kernel_rfl
theorem QE:aX Tryz.prog 58 4=some 4:=by kernel_rfl
theorem FH (H HF:View) (ke ks:Nat) (r:lL) (m:bc) (fa:Option Addr) (fc:Nat) (fs:List (List UInt8×List aV)) (w:World) (hH:Le H w) (hHF:Le HF w) (hm:nz ke ks H r m) (QF:Sl B2 2 HF fa fc fs) (hb:wM m<=109951162777) :
   Calls Tryz.prog 100 #[.agg (gg m r).toArray,.slice fa fs.length fc] w λe w'=>∃r:kz,e = .returned (.tuple #[.agg (eV (cD m fs).1 r).toArray,.int .i64 (cD m fs).2])/\Ext w w'/\kA (ke+1) (ks+1) (nv w w') r (cD m fs).1:=by
 have auS:=QF.cap;have auT:=QF.max;refine Mr Tryz.func100 O 159 O O ?_;refine CE (Vs:=[HF,H]) (Ws.init (by simp [hHF,hH])) (Cs (Cr ?_));refine WL.box Y O O λb2=>?_;refine Al Y O tm λb4=>?_;refine bH 0 (.cells (eV jS k8).toArray 58 (0,0)) O O ?_;refine Al Y O J6 λb5=>?_;refine bH 0 (.cells #[.int .i64 0] 29 (0,0)) O O (Ln (Et (Cs (Cs (Cr (V0 (bA 2 O O mU O) ?_))))));refine Ld Y O anC O (λr:SP=>.tuple #[.agg #[st (gQ m).1.1,.slice r.1 (gQ m).1.2.length r.2],.int .i64 (gQ m).2]) (λH r=>Sl lQ 4 H r.1 r.2 (gQ m).1.2) (λw hw=>amh H ke ks r m w (hw.vs _ (by simp)) hm hb) ?_;intro ze oO JQ B6;refine V0 (Ym O) (V0 (Yx O O) (V0 (Yx O O) ?_));refine Al Y O vt λb6=>?_;refine an 0 Y O O O zx O O O (V0 (Ya O) (Ln (Et (Cs (Cr (V0 (Ym O) (V0 (jq O O) (Ln (Et ?_)))))))));refine Cc O (λad=>?_) (λad=>?_)
 ·have he:¬(gQ m).2=0:=by simpa using ad
  refine Cs (Cr (V0 (Yb tm Km O O) (V0 (Ym O) (an 2 Y O O O tp O O O (an 1 Y O O O oV O O O (Ln (Et (az (Er ?_)))))))));refine WE.Ay (gu O (cS 2 O O jl O) (gM 1 O O O iU)) λw' hw=>?_;rw [ans he];exact ⟨k8,O,hw.fr,AV _⟩
 have he:(gQ m).2=0:=by simpa using ad
 obtain ⟨ot,QG,FI⟩:=anw he;have ho:=Zi ot;have QG:=qM.2 QG;have FI:=qM.2 FI;have ep:=ho.ep;have xu:=hm.ae.max;have yu:=hm.ae.cap;have xp:=hm.procs.max;have yp:=hm.procs.cap;have hwM:wM m=1+m.nm.length+wN m.ae+wD m.decls+wP m.procs+cP m.main:=rfl;refine Ck (Et (Cs (Cs (Cr (V0 (Ym O) (V0 (Yn QD O) (V0 (Yf wJ O) (V0 (Yd 3 O O O fh) (V0 (Yn dY O) (V0 (jq O O) (Ln (Et ?_))))))))))));refine Cc O (λar=>?_) (λar=>?_)
 ·have A8:¬fs.length=m.ae.length:=by simp at ar; omega
  refine Cs (Cr (V0 (Yb tm Km O O) (an 2 Y O O O tp O O O (an 1 Y O O O oV O O O (Ln (Et (az (Er ?_))))))));refine WE.Ay (gu O (cS 2 O O jl O) (gM 1 O O O iU)) λw' hw=>?_;rw [ant he A8];exact ⟨k8,O,hw.fr,AV _⟩
 have vC:fs.length=m.ae.length:=by simp at ar; omega
 refine Ck (Et (Cs (Cr (V0 (C7 O) ?_))));refine WL.defer Y O ?_;refine Ln (Et (Cs (Cr (V0 (bA 3 O O mU O) ?_))));refine Ld Y O Zq O (λr:SP=>.tuple #[.slice r.1 (ec m).length r.2,.int .i64 (AS m)]) (λH r=>Sl lQ 4 H r.1 r.2 (ec m)) (λw hw=>Zm H ke ks r m w (hw.vs _ (by simp)) hm ho) ?_;intro F36 JI auU h36;refine V0 (Ym O) (V0 (Yx O O) (V0 (Yx O O) (V0 (Ya O) (V0 (Ya O) (Ln (Et (Cs (Cr (V0 (Ym O) ?_)))))))));refine Ld Y O ZW O (λb:Nat=>.map (some b)) (λH b=>H b=some (bn st (gR (ec m) 0) (ec m).length)) (λw hw=>Zx F36 JI.1 JI.2 (ec m) w (hw.vs _ (by simp)) h36 QG) ?_;intro zG s0 auV Z2;refine WL.ss st Y O λvr=>?_;refine bH 0 (bn st (fQ (m.ae.take 0) 0) 0) O O (V0 (Yb anE anD O O) ?_);refine WL.box Y O O λfu=>?_;refine LW (λ_ h=>h.fB 205 1) ?_;refine WL.v0 ?_;refine V0 (Ya O) (Ln (Et (Cs (Cs (Cr (V0 (Ym O) (V0 (Yn QD O) (V0 (Ym O) (Ln (Et (Cb ?_)))))))))));refine cU (ι:=GX XM) (λg=>[(46,.int .i64 (g.i:Int))]) [(2,_),(4,_),(5,_),(9,_),(10,_),(44,_),(45,_)] (λg=>Ws w [] [ab fu (.cells #[.map (some s0),.map (some vr),.slice g.a g.es.length g.c,.map none] 209 (0,0)),ab vr (bn st (fQ (m.ae.take g.i) 0) g.i),bo 205 1 XM.cells g.a g.c g.es,ab b5 (.cells #[.int .i64 0] 29 (0,0)),ab b4 (.cells (eV jS k8).toArray 58 (0,0)),ab b2 (.cells (gg m r).toArray 174 (0,0))] [g.J,zG,HF,H]) (λg=>g.i<=fs.length/\g.es.map (·.1)=(fs.take g.i).map (·.2)/\(∀(k:Nat) u f,k<g.i->m.ae[k]? = some u->fs[k]? = some f->xj u f=true)/\(eE w g.J/\Xs B3 g.J g.es)) (λg=>fs.length-g.i) ⟨0,[],none,0,v0⟩ ⟨Nat.zero_le _,O,λk u f hk=>absurd hk (Nat.not_lt_zero k),⟨wa w,Xs.nil _⟩⟩ (sc O (sc O (sc O (sc O (sc O (sc O (sc O (sc O sn)))))))) (λ_ h=>by have h:=h.ao 6 O; have h:=h.ao 6 O; have h:=h.ao 6 O; have h:=h.ao 3 O; have h:=h.ao 5 O; have h:=h.ao 5 O; have h:=Wt 6 h; have h:=Ws.bw h (a_:=[v0,zG,HF,H]) (by simp); exact h) ?_;intro g ⟨hi,kS,aE,⟨lY,hX⟩⟩;refine Cs (Cr (V0 (bq O O) (Ln (Et (Cs ?_)))));refine Cc O (λay=>?_) (λay=>?_)
 ·have aw:g.i<fs.length:=by simpa using ay
  obtain ⟨f,Kq⟩:∃f,fs[g.i]? = some f:=⟨_,List.getElem?_eq_getElem aw⟩;obtain ⟨pbf,pof,haf,rf,hrf,Z3⟩:=QF.aZ g.i f Kq;obtain ⟨u,yB⟩:∃u,m.ae[g.i]? = some u:=⟨_,List.getElem?_eq_getElem (by omega)⟩;obtain ⟨pbu,pou,hau,QH⟩:=hm.ae.aZ g.i u yB;have QH:aT H pbu (pou+g.i*1) (d_ u):=QH;have wg:=Kh kS hi;refine Ck (Et (Cs (Cb (Cs (Cr (V0 (Ym O) (V0 (Yo QD O O haf (by omega)) (V0 (cM 2 zy O O O (hrf)) ?_))))))));refine Al Y O vt λkf=>?_;refine V0 (Ya O) (an 0 Y O O O zx O O O (Ln (Et (Cs ?_))));refine WC.Hx (mq [.cell 4 58,.cell 5 29]) [] [(0,true),(1,false),(2,true),(3,true),(4,true),(5,true),(6,true),(7,true),(8,true),(9,true),(10,true),(11,true),(12,true),(13,false)] mixed (by kernel_rfl) (by kernel_rfl) (λ_ _ _ _ _ hd h=>qF (fn:=Tryz.f100) [.cell 4 58,.cell 5 29] O hd h) ?_;refine D0 O (λ_ h=>h) (bA 0 O O zy O) ?_;refine De O (λ_ h=>h) ?_;refine Lp Y O anF O (λw hw=>alT HF rf.1 rf.2 f.1 f.2 w (hw.vs _ (by simp)) Z3) (Ln (Ed (D0 O (λ_ h=>h) (aG O O) (D0 O (λ_ h=>h) (Ym O) ?_))));apply WD.and 8 O O O O O Y O (λ_ h=>h) O O O O
  ·intro de;refine Dq O (.g O O O) O (λ_ h=>h) (Yf PU O) (Dq O (.g O O O) O (λ_ h=>h) (Yd 0 O O O df) (Dq O (.g O O O) O (λ_ h=>h) (Yf wJ O) (Dq O (.g O O O) O (λ_ h=>h) (Yd 6 O O O fh) (Dq O (.g O O O) O (λ_ h=>h) (Ym O) (Dq O (.g O O O) O (λ_ h=>h) (Yo dY O O hau (by omega)) (Dq O (.g O O O) O (λ_ h=>h) (dm 3 df O O (QH 0 _ O)) (Dq O (.g O O O) O (λ_ h=>h) (CT O O) ?_)))))));exact Gi 8 (λ_ h=>h) O O O
  refine De O (λ_ h=>h) ?_;refine WL.lN (ι:=Unit) (κ:=Unit) Y O vx O (λ_=>.tuple #[]) (λ_=>xj u f=true) (λ_=>gm 1) (λ_=>xj u f=false) (λw hw=>vy _ _ w) ?_ ?_
  ·intro _ hp;refine Ep (Ep (WE.aQ (Ep (Ep (WE.aQ (Ep ?_))))));refine WE.front 4 O ?_;refine WE.front 5 O ?_;refine WE.sq FE (pw [_,_] _ [ab b4 (.cells (eV jS k8).toArray 58 (0,0)),ab b5 (.cells #[.int .i64 1] 29 (0,0))] O (λw hw=>Ko b4 b5 (eV jS k8) O 0 1 w hw)) (gu O (cS 0 O O jl O) (gM 1 O O O iU)) λw' hw=>?_
   have gK:qO m.ae fs=false:=by
     rw [Bool.eq_false_iff];intro h;have:=QA.1 h g.i u f yB Kq;rw [hp] at this; cases this
   rw [anu he vC gK];exact ⟨k8,O,hw.fr,AV _⟩
  intro _ anS;refine Ln (Ed ?_);refine WD.nil (λ_ h=>h) ?_;refine Et (Cs ?_);have Z4:xj u f=true:=anS;have Z5:=Z4;simp only [xj,Bool.and_eq_true,beq_iff_eq] at Z5;obtain ⟨hfe,QI⟩:=Z5;obtain ⟨QJ,nw⟩:=anr hfe
  have oh:f.1 ∉ m.ae.take g.i:=by rw [QI]; exact anx FI yB
  refine WC.Hx (mq [.cell 4 58,.cell 5 29]) [2] [(0,true),(1,true),(2,true),(3,true),(4,true),(5,true),(6,true),(7,true),(8,false)] mixed (by kernel_rfl) (by kernel_rfl) (λ_ _ _ _ _ hd h=>qF (fn:=Tryz.f100) [.cell 4 58,.cell 5 29] O hd h) ?_;refine D0 O (Wp 2) (Ym O) (D0 O (Wp 2) (aO O) (D0 O (Wp 2) (Yf ZG O) (D0 O (Wp 2) (Yd 1 O O O Fv) (D0 O (Wp 2) (Yf PU O) (D0 O (Wp 2) (Yd 0 O O O df) (D0 O (Wp 2) (Ym O) (D0 O (Wp 2) (Yi O O O (by omega)) ?_)))))));refine De O (Wp 2) ?_;refine WL.vX 2 jv Y jk e7 O O O O ?_;refine bH 2 (bn st (fQ (m.ae.take (g.i+1)) 0) (g.i+1)) O (by rw [QI]; exact ZU yB (QI▸oh)) (Ln (Ed ?_));refine WD.nil (Wp 2) ?_;refine Et ?_;refine CU (mq [.cell 4 58,.cell 5 29]) [3] [10,11,12] (.q false 0 (.q false 1 (.q false 2 (.q false 3 (.q true 4 (.q false 5 (.q true 6 (.e 7 (.e 8 (.e 9 .nil .stop) .stop) .stop)))))))) mixed (by kernel_rfl) (λ_ _ _ _ _ hd h=>qF (fn:=Tryz.f100) [.cell 4 58,.cell 5 29] O hd h) ?_;refine U0 O (Wp 3) (Ym O) (U0 O (Wp 3) (Ym O) (U0 O (Wp 3) (aO O) (U0 O (Wp 3) (Yf Qa O) (U0 O (Wp 3) (Yd 1 O O O ZH) (U0 O (Wp 3) (Yf Fl O) (U0 O (Wp 3) (Yd 0 O O O J9) ?_))))));refine Ue O (Wp 3) ?_ WU.stop;refine Ld Y O ZW O (λb:Nat=>.map (some b)) (λH b=>H b=some (bn st (gR f.2 0) f.2.length)) (λw hw=>Zx HF rf.1 rf.2 f.2 w (hw.vs _ (by simp)) Z3 QJ) ?_;intro F80 QK anU Qu;refine Ln (Eu ?_);refine Ue O (λ_ h=>(Wv 1 (Wo 3 h):)) ?_ WU.stop;refine Lb Y O ZX O O O O λb81=>?_;refine bH 0 (.cells (XM.cells (f.2,QK)).toArray 205 (0,0)) O (O) (Ln (Eu ?_));refine Ue O (λ_ h=>(Wv 1 (Wo 3 (Wd 1 h)):)) ?_ WU.stop;refine LA ((f.2,QK):XM) 4 0 Y O ZX O O O O O O (by omega) (by omega) λa82 c82=>?_;refine Ln (Eu ?_);refine WU.nil (λ_ h=>(Wv 1 (Wo 3 (Wd 1 h)):)) ?_;refine WS.e O ?_;refine V0 (aO O) (Ln (Es ?_));refine WS.e O ?_;refine V0 (Yf Qa O) (Ln (Es ?_));refine WS.e O ?_;refine an 2 Y O O O anG O O O (Ln (Es ?_));refine WS.nil ?_;refine Eb (Et ?_);refine WC.nA λJ80 anY anZ an0=>?_;refine Cr (V0 (Yi O O O (by omega)) (V0 (Ym O) (Ln ?_)))
  exact Ea (⟨g.i+1,g.es++[(f.2,QK)],a82,c82,J80⟩:GX XM) (by show _-(g.i+1)<_; omega) ⟨(by show g.i+1<=_; omega),Kg kS Kq O,λk u2 f2 hk FJ FL=>by
      rcases Nat.lt_succ_iff_lt_or_eq.1 hk with h | rfl
      · exact aE k u2 f2 h FJ FL
      · rw [yB] at FJ; rw [Kq] at FL; injection FJ with FJ; injection FL with FL; subst FJ; subst FL; exact Z4,⟨an0 _ anU lY,Xs.snoc (R:=B3) (λhv h=>B3.mv hv h) hX anZ anY Qu⟩⟩ (sc rfl (sc rfl (sc rfl (sc rfl (sc rfl (sc rfl (sc rfl (sc rfl sn)))))))) (λ_ h=>Wd 2 h)
 have tq:g.i=fs.length:=by simp at ay; omega
 have Kr:qO m.ae fs=true:=QA.2 λk u f hu hf=>aE k u f (by have:=(List.getElem?_eq_some_iff.1 hf).1; omega) hu hf;have Ks:=Ki kS tq
 have an1:m.ae.take g.i=m.ae:=by rw [tq,vC,List.take_length]
 have an2:g.i=m.ae.length:=by rw [tq,vC]
 rw [an1,an2];refine Ce (Ex (Ex (cf (Et (Cs ?_)))));refine WC.v_ (rd:=anq) 2 O XM.a8 (λ_ _ _ _ h=>h) λKF Z6=>?_;refine WC.Hx (mq [.cell 4 58,.cell 5 29]) [3] [(0,true),(1,true),(2,true),(3,true),(5,true),(4,false),(6,true),(7,false)] mixed (by kernel_rfl) (by kernel_rfl) (λ_ _ _ _ _ hd h=>qF (fn:=Tryz.f100) [.cell 4 58,.cell 5 29] O hd h) ?_;refine D0 O (Wp 3) (Yf Om O) (D0 O (Wp 3) (Yd 3 O O O df) (D0 O (Wp 3) (Yf wJ O) (D0 O (Wp 3) (Yd 3 O O O fh) (D0 O (Wp 3) (Ym O) ?_))));refine De O (Wp 3) ?_;refine Ld Y O ZY O (λr:SP=>.slice r.1 m.ae.length r.2) (λF r=>Sl rdStr 1 F r.1 r.2 m.ae) (λw hw=>ZT H r.a1 r.c1 m.ae w (hw.vs _ (by simp)) hm.ae (by omega)) ?_;intro QL tr an3 h90;refine Ln (Ed (D0 O (λ_ h=>(Wv 1 (Wo 3 h):)) (Yb tm Km O O) ?_));refine De O (λ_ h=>(Wv 1 (Wo 3 h):)) ?_;refine an 3 Y O O O tp O O O (Ln (Ed ?_));refine WD.nil (λ_ h=>(Wv 1 (Wo 3 h):)) ?_;refine Et (Cs (Cs (fo 3 (.cells (B4 m tr ([]:List XP).length (none,0)).toArray 58 (0,0)) O O ?_)));refine sh (λ_ h=>h.fB 125 3) ?_;refine sh (λ_ h=>h.v0) ?_;refine Cr (V0 (Yf yK O) (V0 (Yd 5 O O O Bv) (V0 (Yn u1 O) (V0 (Ym O) (Ln (Et (Cb ?_)))))));refine cU (ι:=GP) (λz=>[(96,.int .i64 (z.i:Int))]) [(2,_),(4,_),(5,_),(10,_),(94,_),(95,_)] (λz=>Ws w [] [ab fu (.cells #[.map (some s0),.map (some vr),.slice g.a g.es.length g.c,z.lb] 209 (0,0)),ab vr (bn st (fQ m.ae 0) m.ae.length),bo 125 3 XP.cells z.a z.c z.es,ab b5 (.cells #[.int .i64 0] 29 (0,0)),ab b4 (.cells (B4 m tr z.es.length (z.a,z.c)).toArray 58 (0,0)),ab b2 (.cells (gg m r).toArray 174 (0,0))] [z.J,QL,KF,g.J,zG,HF,H]) (λz=>z.i<=m.procs.length/\z.es.map (·.1)=(m.procs.take z.i).map (Dt m fs)/\hP (sy m fs) (m.procs.take z.i)=0/\(eE w z.J/\Xs (wj (ke+1) (ks+1)) z.J z.es)) (λz=>m.procs.length-z.i) ⟨0,[],none,0,v0,.map none⟩ ⟨Nat.zero_le _,O,O,⟨wa w,Xs.nil _⟩⟩ (sc O (sc O (sc O (sc O (sc O (sc O (sc O sn))))))) (λ_ h=>by have h:=h.ao 5 O; have h:=h.ao 5 O; have h:=h.ao 5 O; have h:=h.ao 3 O; have h:=h.ao 5 O; have h:=h.ao 5 O; have h:=Ws.bw h (a_:=[v0,QL,KF,g.J,zG,HF,H]) (by simp); exact h) ?_;intro z ⟨PS,QM,Kt,⟨Z7,Z8⟩⟩;refine Cs (Cr (V0 (bq O O) (Ln (Et (Cs ?_)))));refine Cc O (λaM=>?_) (λaM=>?_)
 ·have aw:z.i<m.procs.length:=by simpa using aM
  obtain ⟨p,lr⟩:∃q,m.procs[z.i]? = some q:=⟨_,List.getElem?_eq_getElem aw⟩;obtain ⟨yL,pop,ml,yM⟩:=hm.procs.aZ z.i p lr;obtain ⟨yN,yO,yP,yQ,BC,BD,bJ,j7,jh,kN⟩:=yM;have op:=okP (ho.procs p (List.mem_of_getElem? lr));have auZ:=op.ep;have Oi:=W5 lr;have hx1:=j7.max;have hy1:=j7.cap;have hx2:=jh.max;have Ku:=jh.cap;have au1:=Kh QM PS;refine Ck (Et (Cs (Cb (Cs (Cr (V0 (Yo u1 O O ml (by omega)) (V0 (cM 6 Bx O O O (bJ)) ?_)))))));refine Al Y O wK λyT=>?_;refine an 0 Y O O O By O O O (Ln (Et (Cs (Cr (V0 (Ym O) ?_)))));refine WL.ss st Y O λp3=>?_;refine bH 0 (bn st (fQ ((p.params++p.av).take 0) 0) 0) O O (V0 (aO O) (V0 (Yf Fu O) (an 2 Y O O O ZZ O O O (Ln (Et (Cs (Cs (Cr (V0 (Yf sT O) (V0 (Yd 1 O O O fh) (V0 (Yf Bz O) ?_)))))))))));refine V0 (Yd 1 O O O fh) ?_;refine Lb Y O anH O O O O λQN=>?_
  refine Ld Y O anI O (λr:SP=>.slice r.1 (p.params++p.av).length r.2) (λF r=>Sl rdStr 1 F r.1 r.2 (p.params++p.av)) (λw hw=>by
      have vA:Sl zF 1 (hv w) (some ⟨QN,0,none⟩) 2 [((yN,yO),p.params),((yP,yQ),p.av)]:=⟨by simp,by decide,by simp,λj x hj=>⟨QN,0,rfl,by
        match j,hj with
        | 0,hj=>simp only [List.getElem?_cons_zero,Option.some.injEq] at hj; subst hj; exact ⟨hw.gL 0 rfl rfl,j7.imp λb o x hx=>AJ (mm (hw.vs H (by simp))) b o x hx⟩
        | 1,hj=>simp only [List.getElem?_cons_succ,List.getElem?_cons_zero,Option.some.injEq] at hj; subst hj; exact ⟨hw.gL 0 rfl rfl,jh.imp λb o x hx=>AJ (mm (hw.vs H (by simp))) b o x hx⟩⟩⟩
      have hc:=ano (hv w) (some ⟨QN,0,none⟩) 2 _ w (iq w) vA (by simp [eC]; omega) (by simp);rw [show [((yN,yO),p.params),((yP,yQ),p.av)].flatMap (·.2)=p.params++p.av by simp] at hc
      exact hc) ?_
  intro Z9 Z' an5 QO;refine V0 (Yn dY O) (V0 (Ym O) (Ln (Et (Cb ?_))));refine cU (ι:=Nat) (λj=>[(111,.int .i64 (j:Int))]) [(2,_),(4,_),(5,_),(10,_),(14,_),(94,_),(95,_),(96,_),(109,_),(110,_)] (λj=>Ws w [] [ab fu (.cells #[.map (some s0),.map (some vr),.slice g.a g.es.length g.c,.map (some p3)] 209 (0,0)),ab p3 (bn st (fQ ((p.params++p.av).take j) 0) j),ab yT (.cells (MS p yN yO yP yQ BC BD).toArray 213 (0,0)),ab vr (bn st (fQ m.ae 0) m.ae.length),bo 125 3 XP.cells z.a z.c z.es,ab b5 (.cells #[.int .i64 0] 29 (0,0)),ab b4 (.cells (B4 m tr z.es.length (z.a,z.c)).toArray 58 (0,0)),ab b2 (.cells (gg m r).toArray 174 (0,0))] [Z9,z.J,QL,KF,g.J,zG,HF,H]) (λj=>j<=(p.params++p.av).length/\((p.params++p.av).take j).Nodup) (λj=>(p.params++p.av).length-j) 0 ⟨Nat.zero_le _,List.nodup_nil⟩ (sc O (sc O (sc O (sc O (sc O (sc O (sc O (sc O (sc O (sc O (sc O sn))))))))))) (λ_ h=>by exact (Wt 8 ((((((((h.f 8 O).f 8 O).f 8 O).f 8 O).f 8 O).f 7 O).f 7 O).f 8 O):)) ?_;intro j ⟨hj,tR⟩;refine Cs (Cr (V0 (bq O O) (Ln (Et (Cs ?_)))));refine Cc O (λaW=>?_) (λaW=>?_)
  ·have aw:j<(p.params++p.av).length:=by simp only [decide_eq_true_eq] at aW; omega
   obtain ⟨s,jr⟩:∃q,(p.params++p.av)[j]? = some q:=⟨_,List.getElem?_eq_getElem aw⟩;obtain ⟨zH,pos,has,mX⟩:=QO.aZ j s jr;have mX:aT Z9 zH (pos+j*1) (d_ s):=mX;have Mz:=QO.cap;have Z_:=QO.max;refine Ck (Et (Cs (Cb (Cs (Cr (V0 (Ym O) (V0 (Yo dY O O has (by omega)) (V0 (dm 0 df O O (mX 0 _ O)) (V0 (Ya O) (V0 (Ya O) (Ln (Et (Cs (Cr (V0 (Ym O) ?_)))))))))))))));refine V0 (aO O) (V0 (Yf Fu O) (V0 (Yd 0 O O O Fv) (V0 (Ym O) (V0 (AI 1 jv jk e7 nZ O O O) ?_))));rw [P7];refine V0 (aG O O) ?_;refine WL.lN (ι:=Unit) (κ:=Unit) Y O vx O (λ_=>.tuple #[]) (λ_=>(l6 s ((p.params++p.av).take j)==0)=true) (λ_=>gm 6) (λ_=>(l6 s ((p.params++p.av).take j)==0)=false) (λw hw=>vy _ _ w) ?_ ?_
   ·intro _ hp;refine Ep (WE.aQ (Ep (Ep (WE.aQ (Ep (WE.aQ (Ep ?_)))))));refine Ep (WE.aQ (Ep ?_));refine WE.front 5 O ?_;refine WE.front 6 O ?_;refine WE.sq FE (pw [_,_] _ [ab b4 (.cells (eV jS k8).toArray 58 (0,0)),ab b5 (.cells #[.int .i64 6] 29 (0,0))] O (λw hw=>Ko b4 b5 (B4 m tr z.es.length (z.a,z.c)) O 0 6 w hw)) (gu O (cS 0 O O jl O) (gM 1 O O O iU)) λw' hw=>?_;have ht:=anA jr hp
    have hE:pE m fs=6:=by rw [pE,Ds (sy m fs) lr Kt (by rw [ZV ht]; decide),ZV ht]; rfl
    rw [QB he vC Kr (by rw [hE]; decide),hE];exact ⟨k8,O,hw.fr,AV _⟩
   intro _ an6;have oh:=anz an6;refine Ln (Et (Cr (V0 (Ym O) (V0 (aO O) (V0 (Yf Fu O) (V0 (Yd 0 O O O Fv) (V0 (Ym O) (V0 (Ym O) (V0 (Yi O O O (by omega)) ?_)))))))));refine WL.vX 1 jv Y jk e7 O O O O ?_;refine bH 1 (bn st (fQ ((p.params++p.av).take (j+1)) 0) (j+1)) O (ZU jr oh) (Ln (Eb (Et (Cr (V0 (Yi O O O (by omega)) (V0 (Ym O) (Ln ?_)))))));exact Ea (j+1) (by omega) ⟨by omega,anB jr oh tR⟩ (sc O (sc O (sc O (sc O (sc O (sc O (sc O (sc O (sc O (sc O (sc O sn))))))))))) (λ_ h=>h)
  have hjn:j=(p.params++p.av).length:=by simp only [decide_eq_false_iff_not] at aW; omega
  have FM:eo (p.params++p.av)=false:=qM.1 (by rw [hjn,List.take_length] at tR; exact tR);rw [hjn,List.take_length];refine Ce (Ex (Ex (cf (Et ?_))));refine CU (mq [.cell 4 58,.cell 5 29]) [4] [15,16] (.q false 0 (.q true 1 (.q false 2 (.q true 3 (.q false 4 (.q false 5 (.q true 6 (.q false 7 (.q false 8 (.q false 9 (.q true 10 (.e 11 (.q false 12 (.e 13 (.e 14 .nil .stop) .stop)) .stop)))))))))))) mixed (by kernel_rfl) (λ_ _ _ _ _ hd h=>qF (fn:=Tryz.f100) [.cell 4 58,.cell 5 29] O hd h) ?_;refine U0 O (Wp 4) (Yf B5 O) (U0 O (Wp 4) (Yd 5 O O O FF) (U0 O (Wp 4) (Yf sT O) (U0 O (Wp 4) (Yd 2 O O O fh) (U0 O (Wp 4) (Yn dY O) (U0 O (Wp 4) (Yf Bz O) (U0 O (Wp 4) (Yd 2 O O O fh) (U0 O (Wp 4) (Yn dY O) ?_)))))));refine U0 O (Wp 4) (Ym O) (U0 O (Wp 4) (Yf On O) (U0 O (Wp 4) (Yd 2 O O O mO) ?_));refine Ue O (Wp 4) ?_ WU.stop
  refine WL.wc (ι:=SP) (κ:=Unit) Y O Kk O (λr=>.slice r.1 (iw (gx m fs (p.params++p.av)) p.body).length r.2) (λF r=>dV (gx m fs (p.params++p.av)) p.body=0/\Sl (gZ (ke+1) (ks+1)) 7 F r.1 r.2 (iw (gx m fs (p.params++p.av)) p.body)) (λ_=>gm (dV (gx m fs (p.params++p.av)) p.body)) (λ_=>dV (gx m fs (p.params++p.av)) p.body≠0) (λw hw=>by
      have hS:vv (hv w) fu (gx m fs (p.params++p.av)):=⟨⟨s0,vr,g.a,g.c,p3,⟨hw.gL 0 rfl rfl,hw.gL 0 rfl rfl,by show vc (hv w) fu 2=some (.slice g.a (fs.map (·.2)).length g.c); rw [<-Ks,List.length_map]; exact Hn (hw.nC 0 rfl) rfl,hw.gL 0 rfl rfl⟩,hw.vs zG (by simp) _ _ Z2,hw.nC 3 rfl,by show Sl P6 1 (hv w) g.a g.c (fs.map (·.2)); rw [<-Ks]; exact AW Z6 hX λb o e h1 h2=>⟨e.2,(mm (hw.vs KF (by simp))).cell (h1 0 _ rfl),hw.vs g.J (by simp) _ _ h2⟩,hw.nC 1 rfl⟩,FI,by show m.ae.length=(fs.map (·.2)).length; rw [List.length_map,vC],⟨ho.ep.1,by show (p.params++p.av).length<=7; rw [List.length_append]; omega⟩⟩
      exact ZR (hv w) H fu (gx m fs (p.params++p.av)) ke hS ks p.body BC BD w (iq w) (hw.vs H (by simp)) kN (by omega)) ?_ ?_
  ·intro _ hp;refine Ep (WE.aQ (Ep (Ep (WE.aQ (Ep ?_)))));refine WE.front 5 O ?_;refine WE.front 6 O ?_;refine WE.sq FE (pw [_,_] _ [ab b4 (.cells (eV jS k8).toArray 58 (0,0)),ab b5 (.cells #[.int .i64 (dV (gx m fs (p.params++p.av)) p.body)] 29 (0,0))] O (λw hw=>Ko b4 b5 (B4 m tr z.es.length (z.a,z.c)) O 0 (dV (gx m fs (p.params++p.av)) p.body) w hw)) (gu O (cS 0 O O jl O) (gM 1 O O O iU)) λw' hw=>?_
   have hE:pE m fs=dV (gx m fs (p.params++p.av)) p.body:=by rw [pE,Ds (sy m fs) lr Kt (by rw [QC FM]; exact hp),QC FM,uq hp]
   rw [QB he vC Kr (by rw [hE]; exact hp),hE];exact ⟨k8,O,hw.fr,AV _⟩
  intro au2 QP an7 ⟨an8,an9⟩;refine Ln (Eu (U0 O (λ_ h=>(Wv 1 (Wo 4 h):)) (Yb FG Z0 O O) ?_));refine Ue O (λ_ h=>(Wv 1 (Wo 4 h):)) ?_ WU.stop;refine Lb Y O Z1 O O O O λau3=>?_;refine bH 0 (.cells (XP.cells (Dt m fs p,QP)).toArray 125 (0,0)) O (O) (Ln (Eu ?_));refine Ue O (λ_ h=>(Wv 1 (Wo 4 (Wd 1 h)):)) ?_ WU.stop;refine LA (((Dt m fs p,QP):XP)) 5 0 Y O Z1 O O O O O O (by omega) (by omega) λa146 c146=>?_;refine Ln (Eu ?_);refine WU.nil (λ_ h=>(Wv 1 (Wo 4 (Wd 1 h)):)) ?_;refine WS.e O ?_;refine V0 (Yf B5 O) (Ln (Es ?_));refine WS.e O ?_;refine an 7 Y O O O anJ O O O (Ln (Es ?_));refine WS.nil ?_;refine Eb (Et ?_);refine WC.nA λJx jxa jxb jxf=>?_;refine WC.nA λaoa aob aoc aod=>?_;refine Cr (V0 (Yi O O O (by omega)) (V0 (Ym O) (Ln ?_)));exact Ea (⟨z.i+1,z.es++[(Dt m fs p,QP)],a146,c146,aoa,.map (some p3)⟩:GP) (by show _-(z.i+1)<_; omega) ⟨(by show z.i+1<=_; omega),Kg QM lr O,(by show hP (sy m fs) (m.procs.take (z.i+1))=0; rw [Na _ lr,Kt,mC,QC FM,an8]),⟨aod _ (jxf _ an7 an5) Z7,Xs.snoc (R:=wj _ _) (λhv h=>wj.mv hv h) Z8 aoc (aL.trans jxa aob) an9⟩⟩ (sc O (sc O (sc O (sc O (sc O (sc O (sc O sn))))))) (λ_ h=>by exact (Wt 6 ((((((h.f 8 O).f 8 O).f 8 O).f 8 O).f 8 O).f 6 O):))
 have hqi:z.i=m.procs.length:=by simp at aM; omega
 have aoe:=Ki QM hqi
 have aac:hP (sy m fs) m.procs=0:=by rw [<-Kt,hqi,List.take_length]
 have hU:AY m fs=⟨m.nm,m.ae,AS m,z.es.map (·.1),iw (gx m fs []) m.main⟩:=by rw [aoe]; rfl
 refine Ce (Ex (Ex (cf (Et (Cs (Cr (V0 (Ym O) ?_)))))));refine WL.ss st Y O λaof=>?_;refine V0 (aO O) (V0 (Yf Fu O) (an 1 Y O O O ZZ O O O (Ln (Et (Cs (Cr (V0 (Ym O) (V0 (Yf Oo O) (V0 (Yd 6 O O O mO) ?_)))))))))
 refine WL.wc (ι:=SP) (κ:=Unit) Y O Kk O (λr=>.slice r.1 (iw (gx m fs []) m.main).length r.2) (λF r=>dV (gx m fs []) m.main=0/\Sl (gZ (ke+1) (ks+1)) 7 F r.1 r.2 (iw (gx m fs []) m.main)) (λ_=>gm (dV (gx m fs []) m.main)) (λ_=>dV (gx m fs []) m.main≠0) (λw hw=>by
     have hS:vv (hv w) fu (gx m fs []):=⟨⟨s0,vr,g.a,g.c,aof,⟨hw.gL 1 rfl rfl,hw.gL 1 rfl rfl,by show vc (hv w) fu 2=some (.slice g.a (fs.map (·.2)).length g.c); rw [<-Ks,List.length_map]; exact Hn (hw.nC 1 rfl) rfl,hw.gL 1 rfl rfl⟩,hw.vs zG (by simp) _ _ Z2,hw.nC 2 rfl,by show Sl P6 1 (hv w) g.a g.c (fs.map (·.2)); rw [<-Ks]; exact AW Z6 hX λb o e h1 h2=>⟨e.2,(mm (hw.vs KF (by simp))).cell (h1 0 _ rfl),hw.vs g.J (by simp) _ _ h2⟩,hw.nC 0 rfl⟩,FI,by show m.ae.length=(fs.map (·.2)).length; rw [List.length_map,vC],⟨ho.ep.1,by show (0:Nat)<=7; omega⟩⟩
     exact ZR (hv w) H fu (gx m fs []) ke hS ks m.main r.a4 r.c4 w (iq w) (hw.vs H (by simp)) hm.main (by omega)) ?_ ?_
 ·intro _ hp;refine Ep ?_;refine WE.front 4 O ?_;refine WE.front 5 O ?_;refine WE.sq FE (pw [_,_] _ [ab b4 (.cells (eV jS k8).toArray 58 (0,0)),ab b5 (.cells #[.int .i64 (dV (gx m fs []) m.main)] 29 (0,0))] O (λw hw=>Ko b4 b5 (B4 m tr z.es.length (z.a,z.c)) O 0 (dV (gx m fs []) m.main) w hw)) (gu O (cS 0 O O jl O) (gM 1 O O O iU)) λw' hw=>?_
  have hE:pE m fs=dV (gx m fs []) m.main:=by rw [pE,aac,mC]
  rw [QB he vC Kr (by rw [hE]; exact hp),hE];exact ⟨k8,O,hw.fr,AV _⟩
 intro au5 Kv aog ⟨aoh,aoi⟩;refine V0 (Yf QE O) (an 5 Y O O O Qj O O O (Ln (Et (Cs ?_))));refine WC.pz (rd:=Uu) 3 O (λ_ hk=>by cases hk) XP.a8 (λ_ _ _ _ h=>h) λKP E' E_=>?_;refine fo 4 (.cells (eV (AY m fs) ⟨tr,(z.a,z.c),Kv⟩).toArray 58 (0,0)) O (by rw [hU]; show Obj.cells _ _ _=Obj.cells (eV _ _).toArray _ _; simp only [eV,List.length_map]; rfl) (Cr (V0 (bA 4 O O jl O) (an 4 Y O O O tp O O O (an 3 Y O O O oV O O O (Ln (Et (az ?_)))))));refine WE.front 3 O ?_;refine WE.front 4 O ?_;refine WE.Tj FE (pw [_,_] _ [ab b4 (.cells (eV (AY m fs) ⟨tr,(z.a,z.c),Kv⟩).toArray 58 (0,0)),ab b5 (.cells #[.int .i64 0] 29 (0,0))] O (λw hw=>anp b4 b5 (eV (AY m fs) ⟨tr,(z.a,z.c),Kv⟩) O 0 0 w hw)) (gu O (cS 0 O O jl O) (gM 1 O O O iU)) λw' hw=>?_;rw [anv he vC Kr (by rw [pE,aac,mC,aoh])];exact ⟨⟨tr,(z.a,z.c),Kv⟩,O,hw.fr,⟨vm h90 (bD hw (by simp) an3),by rw [hU]; exact aeb E_ (bD hw (by simp) E') (bD hw (by simp) Z7) Z8,yi aoi (bD hw (by simp) aog)⟩⟩
structure RAt where
 ma:lL
 fa:SP
 oa:SP
 na:SP
structure au6 (HS:View) (m:bc) (fs:List (List UInt8×List aV)) (ns:List (List UInt8)) (q:RAt):Prop where
 ae:Sl rdStr 1 HS q.ma.a1 q.ma.c1 m.ae
 wm:Sl B2 2 HS q.fa.1 q.fa.2 fs
 own:Sl lQ 4 HS q.oa.1 q.oa.2 (ec m)
 names:Sl rdStr 1 HS q.na.1 q.na.2 ns
 len:m.ae.length=fs.length
structure GQ where
 i:Nat
 es:List XP
 a:Option Addr
 c:Nat
 J:View
 ns:List (List UInt8)
 na:SP
theorem Ky {H N:View} (hv:aL H N) {a:Option Addr} {c:Nat} {l:List aV} (h:Sl lQ 4 H a c l):Sl lQ 4 N a c l:=h.imp λb o x hx=>ad4 hv b o x hx
def iD:bc:=(⟨[99,110,116],[],[(⟨1,[107],true,3⟩:bI),(⟨2,[115,117,109],true,0⟩:bI),(⟨3,[116],true,4⟩:bI)],[(⟨[100,111,119,110],true,[[110]],[[105]],[(aP.mk 1 [] [105] [(ax.mk 3 0 [] [110] [])] [] []),(aP.mk 5 [] [] [(ax.mk 3 0 [] [105] [])] [(aP.mk 1 [] [115,117,109] [(ax.mk 9 0 [] [] [(ax.mk 3 0 [] [115,117,109] []),(ax.mk 3 0 [] [105] [])])] [] []),(aP.mk 1 [] [105] [(ax.mk 10 0 [] [] [(ax.mk 3 0 [] [105] []),(ax.mk 1 1 [] [] [])])] [] [])] []),(aP.mk 6 [] [] [(ax.mk 3 0 [] [115,117,109] [])] [] [])]⟩:dC)],[]⟩:bc)
def p8:Tx:=[109,111,100,117,108,101,32,116,111,112,123,117,115,101,32,99,110,116,59,109,97,105,110,123,99,110,116,46,116,91,49,93,61,99,110,116,46,100,111,119,110,40,99,110,116,46,107,41,59,111,117,116,32,99,110,116,46,116,91,105,110,93,59,105,102,40,99,110,116,46,115,117,109,61,54,41,123,111,117,116,32,55,59,125,101,108,115,101,123,111,117,116,32,56,59,125,125,125]
def bj:bc:=(jW p8).1
def ei:List (List UInt8×List aV):=[(aC,vu)]
theorem aok:wM iD<=109951162777:=by decide +kernel
theorem Kz (s:Tx):wM (jW s).1<=73728:=by
 unfold jW
 split
 · show wM sP<=_; decide
 · rename_i h
   have h0:(dO s).2=0:=by simpa using h
   have hl:=(PK h0).len
   split
   · rename_i m hm
     split
     · have:=Wg hm
       simp at this
       show wM m<=_
       omega
     · show wM sP<=_; decide
   · show wM sP<=_; decide
theorem FN:eR Tryz.prog 222=some [(0,1),(1,1),(2,1),(3,1),(4,1),(5,1)]:=by kernel_rfl
theorem aol (w:World) :
   Calls Tryz.prog 101 #[] w λe w'=>∃r:lL,e = .returned (.agg (gg iD r).toArray)/\Ext w w'/\nz 7 6 (nv w w') r iD:=by
 refine enter Tryz.func101 O 33 O O ?_;refine CE (Vs:=[]) (Ws.init (by simp)) (Cs (Cr ?_));refine Al Y O vp λb0=>?_;refine Ln (Et (Cs (Cr (V0 (Yb sS JS O O) (V0 (Yb sS JS O O) (V0 (Yb sS JS O O) ?_))))));refine Lb Y O Pz O O O O λb4=>?_;refine LN (rd:=x') (f:=bI.cells) (m:=3) 0 [(⟨1,[107],true,3⟩:bI),(⟨2,[115,117,109],true,0⟩:bI),(⟨3,[116],true,4⟩:bI)] O O (λ_ hk=>by cases hk) bI.a8 (λ_ _ _ _ h=>h) (show 3<=3 by decide) (by decide) λH4 fH4 hH4=>?_;refine Lb Y O dn O O O O λb5=>?_;refine LN (rd:=rdStr) (f:=d_) (m:=1) 0 [[110]] O O (λ_ hk=>by cases hk) oz (λ_ _ _ _ h=>h) (show 1<=1 by decide) (by decide) λH5 fH5 hH5=>?_;refine Lb Y O dn O O O O λb6=>?_;refine LN (rd:=rdStr) (f:=d_) (m:=1) 0 [[105]] O O (λ_ hk=>by cases hk) oz (λ_ _ _ _ h=>h) (show 1<=1 by decide) (by decide) λH6 fH6 hH6=>?_;refine V0 (Yb iy nT O O) ?_;refine Lb Y O j_ O O O O λb8=>?_;refine LN (rd:=j8) (f:=XE.cells) (m:=1) 0 [((ax.mk 3 0 [] [110] []),none,0)] O O (λ_ hk=>by cases hk) XE.a8 (λ_ _ _ _ h=>h) (show 1<=1 by decide) (by decide) λH8 fH8 PA=>?_;refine V0 (Yb u0 FN O O) (V0 (Yb iy nT O O) ?_);refine Lb Y O j_ O O O O λrj=>?_;refine LN (rd:=j8) (f:=XE.cells) (m:=1) 0 [((ax.mk 3 0 [] [105] []),none,0)] O O (λ_ hk=>by cases hk) XE.a8 (λ_ _ _ _ h=>h) (show 1<=1 by decide) (by decide) λBU aot EZ=>?_;refine V0 (Yb iy nT O O) (V0 (Yb iy nT O O) ?_);refine Lb Y O j_ O O O O λyT=>?_;refine LN (rd:=j8) (f:=XE.cells) (m:=2) 0 [((ax.mk 3 0 [] [115,117,109] []),none,0),((ax.mk 3 0 [] [105] []),none,0)] O O (λ_ hk=>by cases hk) XE.a8 (λ_ _ _ _ h=>h) (show 2<=2 by decide) (by decide) λJX aou Fa=>?_;refine V0 (Yb iy nT O O) ?_;refine Lb Y O j_ O O O O λXB=>?_;refine LN (rd:=j8) (f:=XE.cells) (m:=1) 0 [((ax.mk 9 0 [] [] [(ax.mk 3 0 [] [115,117,109] []),(ax.mk 3 0 [] [105] [])]),(some ⟨yT,0,none⟩),2)] O O (λ_ hk=>by cases hk) XE.a8 (λ_ _ _ _ h=>h) (show 1<=1 by decide) (by decide) λH16 aov aow=>?_;refine V0 (Yb u0 FN O O) (V0 (Yb iy nT O O) (V0 (Yb iy nT O O) ?_));refine Lb Y O j_ O O O O λjJ=>?_;refine LN (rd:=j8) (f:=XE.cells) (m:=2) 0 [((ax.mk 3 0 [] [105] []),none,0),((ax.mk 1 1 [] [] []),none,0)] O O (λ_ hk=>by cases hk) XE.a8 (λ_ _ _ _ h=>h) (show 2<=2 by decide) (by decide) λH20 aox aoy=>?_;refine V0 (Yb iy nT O O) ?_;refine Lb Y O j_ O O O O λBX=>?_;refine LN (rd:=j8) (f:=XE.cells) (m:=1) 0 [((ax.mk 10 0 [] [] [(ax.mk 3 0 [] [105] []),(ax.mk 1 1 [] [] [])]),(some ⟨jJ,0,none⟩),2)] O O (λ_ hk=>by cases hk) XE.a8 (λ_ _ _ _ h=>h) (show 1<=1 by decide) (by decide) λH22 aoz aoA=>?_;refine V0 (Yb u0 FN O O) ?_;refine Lb Y O Jl O O O O λEB=>?_;refine LN (rd:=Jk) (f:=SX.cells) (m:=2) 0 [((aP.mk 1 [] [115,117,109] [(ax.mk 9 0 [] [] [(ax.mk 3 0 [] [115,117,109] []),(ax.mk 3 0 [] [105] [])])] [] []),(⟨((some ⟨XB,0,none⟩),1),(none,0),(none,0)⟩:sY)),((aP.mk 1 [] [105] [(ax.mk 10 0 [] [] [(ax.mk 3 0 [] [105] []),(ax.mk 1 1 [] [] [])])] [] []),(⟨((some ⟨BX,0,none⟩),1),(none,0),(none,0)⟩:sY))] O O (λ_ hk=>by cases hk) SX.a8 (λ_ _ _ _ h=>h) (show 2<=2 by decide) (by decide) λBI aoB EC=>?_
 refine V0 (Yb u0 FN O O) (V0 (Yb iy nT O O) ?_);refine Lb Y O j_ O O O O λE9=>?_;refine LN (rd:=j8) (f:=XE.cells) (m:=1) 0 [((ax.mk 3 0 [] [115,117,109] []),none,0)] O O (λ_ hk=>by cases hk) XE.a8 (λ_ _ _ _ h=>h) (show 1<=1 by decide) (by decide) λQQ aoC QR=>?_;refine V0 (Yb u0 FN O O) ?_;refine Lb Y O Jl O O O O λFb=>?_;refine LN (rd:=Jk) (f:=SX.cells) (m:=3) 0 [((aP.mk 1 [] [105] [(ax.mk 3 0 [] [110] [])] [] []),(⟨((some ⟨b8,0,none⟩),1),(none,0),(none,0)⟩:sY)),((aP.mk 5 [] [] [(ax.mk 3 0 [] [105] [])] [(aP.mk 1 [] [115,117,109] [(ax.mk 9 0 [] [] [(ax.mk 3 0 [] [115,117,109] []),(ax.mk 3 0 [] [105] [])])] [] []),(aP.mk 1 [] [105] [(ax.mk 10 0 [] [] [(ax.mk 3 0 [] [105] []),(ax.mk 1 1 [] [] [])])] [] [])] []),(⟨((some ⟨rj,0,none⟩),1),((some ⟨EB,0,none⟩),2),(none,0)⟩:sY)),((aP.mk 6 [] [] [(ax.mk 3 0 [] [115,117,109] [])] [] []),(⟨((some ⟨E9,0,none⟩),1),(none,0),(none,0)⟩:sY))] O O (λ_ hk=>by cases hk) SX.a8 (λ_ _ _ _ h=>h) (show 3<=3 by decide) (by decide) λH29 aoD aoE=>?_;refine V0 (Yb wK YY O O) ?_;refine Lb Y O Py O O O O λJD=>?_;refine LN (rd:=Pg) (f:=PX.cells) (m:=1) 0 [((⟨[100,111,119,110],true,[[110]],[[105]],[(aP.mk 1 [] [105] [(ax.mk 3 0 [] [110] [])] [] []),(aP.mk 5 [] [] [(ax.mk 3 0 [] [105] [])] [(aP.mk 1 [] [115,117,109] [(ax.mk 9 0 [] [] [(ax.mk 3 0 [] [115,117,109] []),(ax.mk 3 0 [] [105] [])])] [] []),(aP.mk 1 [] [105] [(ax.mk 10 0 [] [] [(ax.mk 3 0 [] [105] []),(ax.mk 1 1 [] [] [])])] [] [])] []),(aP.mk 6 [] [] [(ax.mk 3 0 [] [115,117,109] [])] [] [])]⟩:dC),(⟨((some ⟨b5,0,none⟩),1),((some ⟨b6,0,none⟩),1),((some ⟨Fb,0,none⟩),3)⟩:BV))] O O (λ_ hk=>by cases hk) PX.a8 (λ_ _ _ _ h=>h) (show 1<=1 by decide) (by decide) λH31 aoF aoG=>?_;refine V0 (Yb vp JW O O) (an 0 Y O O O xh O O O (Ln (Et (az ?_))));refine WE.S_ 0 O O O mU O λw' hw=>?_;exact ⟨⟨none,0,(some ⟨b4,0,none⟩),3,(some ⟨JD,0,none⟩),1,none,0⟩,O,hw.fr,⟨Sl.nil,(Ph hH4 (bD hw (by simp) fH4)),(YR aoG (bD hw (by simp) aoF) (aL.refl _) ((s5.nil _).snoc (aL.refl _) (aL.refl _) ⟨(vm hH5 (bD hw (by simp) fH5)),(vm hH6 (bD hw (by simp) fH6)),(OX aoE (bD hw (by simp) aoD) (aL.refl _) ((((ru.nil _ 5).snoc (aL.refl _) (aL.refl _) ⟨(j9 PA (bD hw (by simp) fH8) (aL.refl _) ((fY.nil _ 6).snoc (aL.refl _) (aL.refl _) Sl.nil)),Sl.nil,Sl.nil⟩).snoc (aL.refl _) (aL.refl _) ⟨(j9 EZ (bD hw (by simp) aot) (aL.refl _) ((fY.nil _ 6).snoc (aL.refl _) (aL.refl _) Sl.nil)),(OX EC (bD hw (by simp) aoB) (aL.refl _) (((ru.nil _ 4).snoc (aL.refl _) (aL.refl _) ⟨(j9 aow (bD hw (by simp) aov) (aL.refl _) ((fY.nil _ 6).snoc (aL.refl _) (aL.refl _) (j9 Fa (bD hw (by simp) aou) (aL.refl _) (((fY.nil _ 5).snoc (aL.refl _) (aL.refl _) Sl.nil).snoc (aL.refl _) (aL.refl _) Sl.nil)))),Sl.nil,Sl.nil⟩).snoc (aL.refl _) (aL.refl _) ⟨(j9 aoA (bD hw (by simp) aoz) (aL.refl _) ((fY.nil _ 6).snoc (aL.refl _) (aL.refl _) (j9 aoy (bD hw (by simp) aox) (aL.refl _) (((fY.nil _ 5).snoc (aL.refl _) (aL.refl _) Sl.nil).snoc (aL.refl _) (aL.refl _) Sl.nil)))),Sl.nil,Sl.nil⟩)),Sl.nil⟩).snoc (aL.refl _) (aL.refl _) ⟨(j9 QR (bD hw (by simp) aoC) (aL.refl _) ((fY.nil _ 6).snoc (aL.refl _) (aL.refl _) Sl.nil)),Sl.nil,Sl.nil⟩))⟩)),Sl.nil⟩⟩
theorem aoH (w:World) :
   Calls Tryz.prog 103 #[] w λe w'=>e = .returned (st p8)/\Ext w w':=by
 refine enter Tryz.func103 O 1 O O ?_;refine CE (Vs:=[]) (Ws.init (by simp)) (Cs (Cr (V0 (Ya O) (Ln (Et (Cs (Cr (V0 (Ya O) (Ln (Et (az ?_)))))))))));refine R1 O O λw' hw=>?_;exact ⟨O,hw.fr⟩
theorem KA:aX Tryz.prog 187 0=some 0:=by kernel_rfl
theorem KB:dI Tryz.prog 150=true:=by kernel_rfl
theorem KC:dL Tryz.prog 150=some 3:=by kernel_rfl
theorem KG:eQ Tryz.prog 152=some 3:=by kernel_rfl
theorem FO:zeroOf Tryz.prog 152=some (.agg #[.bool false,.int .i64 0,.slice none 0 0]):=by kernel_rfl
theorem KH:cq Tryz.prog 152=some 3:=by kernel_rfl
theorem aad:aX Tryz.prog 152 0=some 0:=by kernel_rfl
theorem aoI:aX Tryz.prog 152 1=some 1:=by kernel_rfl
theorem KI:aX Tryz.prog 152 2=some 2:=by kernel_rfl
theorem dA:dI Tryz.prog 25=true:=by kernel_rfl
theorem dK:dL Tryz.prog 25=some 1:=by kernel_rfl
theorem QS:aX Tryz.prog 187 1=some 1:=by kernel_rfl
theorem km:dI Tryz.prog 189=true:=by kernel_rfl
theorem kT:dL Tryz.prog 189=some 5:=by kernel_rfl
theorem KJ:Enters Tryz.prog 156:=enters_of Tryz.func156 (by kernel_rfl) rfl
theorem aae:Enters Tryz.prog 157:=enters_of Tryz.func157 (by kernel_rfl) rfl
theorem aaf:Enters Tryz.prog 158:=enters_of Tryz.func158 (by kernel_rfl) rfl
theorem aag:Enters Tryz.prog 155:=enters_of Tryz.func155 (by kernel_rfl) rfl
theorem KK (HV HK:View) (vb:Nat) (ka:Option Addr) (kc:Nat) (kn:List cF) (av:Int) (m pl n:Int) (w:World) (oY:Le HV w) (oZ:Le HK w) (h0:vc HV vb 0=some (.slice ka kn.length kc)) (h1:vc HV vb 1=some (.int .i64 av)) (ej:Sl pF 3 HK ka kc kn) (hn:0<=n/\n<=32) :
   Calls Tryz.prog 156 #[.pointer (some ⟨vb,0,none⟩),.int .i64 m,.int .i64 pl,.int .i64 n] w λe w'=>e = .returned (.bool (qP kn m pl n))/\Ext w w':=by
 have B7:=ej.cap;have B8:=ej.max;refine enter Tryz.func156 O 52 O O ?_;refine CE (Vs:=[HV,HK]) (Ws.init (by simp [oY,oZ])) (Cs (Cr (V0 (Ya O) (Ln (Et (Cs (Cs (Cr (V0 (Ym O) (V0 (bq O O) (V0 (Ym O) ?_)))))))))));apply Lo 7 O O O O Y O O O O O
 ·intro de;refine Vg (Ym O) (Vg (Ym O) (Vg (aO O) (Vg (Yf KA O) (Vg (dm 0 KB O O (h0)) (Vg (Yn KC O) (Vg (fm O O) ?_))))));exact Gt 7 O O O
 refine V0 (Ym O) ?_;apply Lo 2 O O O O Y O O O O O
 ·intro bK;refine Vg (Ym O) (Vg (bq O O) ?_);exact Gt 2 O O O
 refine V0 (Ym O) ?_;apply Lo 2 O O O O Y O O O O O
 ·intro hY;refine Vg (Ym O) (Vg (bZ O O) ?_);exact Gt 2 O O O
 refine Ln (Et ?_);refine Cc O (λad=>?_) (λad=>?_)
 ·refine Cs (Cr (V0 (Ya O) (Ln (Et (az (Er ?_))))));refine R1 O O λw' hw=>?_;exact ⟨by rw [aej n ad],hw.fr⟩
 have zI:A2 kn m pl=false:=ad;obtain ⟨⟨mi,rfl,nk⟩,Zv,JH⟩:=aek zI;obtain ⟨k,pj⟩:∃k,kn[mi]? = some k:=⟨_,List.getElem?_eq_getElem nk⟩;obtain ⟨KM,KN,B9,rk,QT,xk⟩:=ej.aZ mi k pj;have hpc:=xk.cap;have hpm:=xk.max;refine Ck (Et (Cs (Cs (Cr (V0 (Ym O) (V0 (aO O) (V0 (Yf KA O) (V0 (dm 0 KB O O (h0)) (V0 (Ym O) (V0 (Yo KC O O B9 nk) (V0 (cM 1 KG O O O (QT)) ?_)))))))))));refine Al Y O FO λb9=>?_;refine an 0 Y O O O KH O O O (Ln (Et (Cs (Cr (V0 (Yf aad O) (V0 (Yd 0 O O O yF) (Ln (Et ?_))))))));refine Cc O (λar=>?_) (λar=>?_)
 ·refine Cs (Cr (V0 (Ym O) (V0 (Ym O) (V0 (lH O O (by omega)) (V0 (Yf aoI O) (V0 (Yd 0 O O O aq) (V0 (ij O O) (V0 (Ya O) ?_))))))));refine Ln (Et (az (Er ?_)));refine R1 O O λw' hw=>?_;exact ⟨by rw [UG zI pj,if_pos ar],hw.fr⟩
 refine Ck (Et (Cs (Cr (V0 (Ym O) (V0 (aG O O) (V0 (Ym O) ?_))))));apply Lo 4 O O O O Y O O O O O
 ·intro mM;refine Vg (Ym O) (Vg (Ym O) (Vg (lH O O (by omega)) (Vg (ij O O) ?_)));exact Gt 4 O O O
 refine V0 (Ya O) (Ln (Et (az ?_)));refine R1 O O λw' hw=>?_;exact ⟨by rw [UG zI pj,if_neg (λe=>by have h:=ar.symm.trans e; cases h)],hw.fr⟩
theorem aai (HV HK:View) (vb:Nat) (ka:Option Addr) (kc:Nat) (kn:List cF) (av:Int) (m pl n:Int) (w:World) (oY:Le HV w) (oZ:Le HK w) (h0:vc HV vb 0=some (.slice ka kn.length kc)) (h1:vc HV vb 1=some (.int .i64 av)) (ej:Sl pF 3 HK ka kc kn)  :
   Calls Tryz.prog 158 #[.pointer (some ⟨vb,0,none⟩),.int .i64 m,.int .i64 pl,.int .i64 n] w λe w'=>e = .returned (.bool (ur kn m pl n))/\Ext w w':=by
 have B7:=ej.cap;have B8:=ej.max;refine enter Tryz.func158 O 54 O O ?_;refine CE (Vs:=[HV,HK]) (Ws.init (by simp [oY,oZ])) (Cs (Cr (V0 (Ya O) (Ln (Et (Cs (Cs (Cr (V0 (Ym O) (V0 (bq O O) (V0 (Ym O) ?_)))))))))));apply Lo 7 O O O O Y O O O O O
 ·intro de;refine Vg (Ym O) (Vg (Ym O) (Vg (aO O) (Vg (Yf KA O) (Vg (dm 0 KB O O (h0)) (Vg (Yn KC O) (Vg (fm O O) ?_))))));exact Gt 7 O O O
 refine V0 (Ym O) ?_;apply Lo 2 O O O O Y O O O O O
 ·intro bK;refine Vg (Ym O) (Vg (bq O O) ?_);exact Gt 2 O O O
 refine Ln (Et ?_);refine Cc O (λad=>?_) (λad=>?_)
 ·refine Cs (Cr (V0 (Ya O) (Ln (Et (az (Er ?_))))));refine R1 O O λw' hw=>?_;exact ⟨by rw [ael n ad],hw.fr⟩
 have zI:A3 kn m pl=false:=ad;obtain ⟨⟨mi,rfl,nk⟩,pi,rfl⟩:=aem zI;obtain ⟨k,pj⟩:∃k,kn[mi]? = some k:=⟨_,List.getElem?_eq_getElem nk⟩;obtain ⟨KM,KN,B9,rk,QT,xk⟩:=ej.aZ mi k pj;have hpc:=xk.cap;have hpm:=xk.max;refine Ck (Et (Cs (Cs (Cr (V0 (Ym O) (V0 (aO O) (V0 (Yf KA O) (V0 (dm 0 KB O O (h0)) (V0 (Ym O) (V0 (Yo KC O O B9 nk) (V0 (cM 1 KG O O O (QT)) ?_)))))))))));refine Al Y O FO λb9=>?_;refine an 0 Y O O O KH O O O (Ln (Et (Cs (Cr (V0 (Yf aad O) (V0 (Yd 0 O O O yF) (Ln (Et ?_))))))));refine Cc O (λar=>?_) (λar=>?_)
 ·refine Cs (Cr (V0 (Ym O) (V0 (Yf KI O) (V0 (Yd 0 O O O dA) (V0 (Yn dK O) (V0 (bq O O) (V0 (Ym O) ?_)))))));apply La 7 (x:=(k.parts[((pi:Int)).toNat]?).getD 0==n) O O O O Y O O O O O
  ·intro hY
   have n6:pi<k.parts.length:=by simpa using hY
   obtain ⟨y,bC⟩:∃y,k.parts[pi]? = some y:=⟨_,List.getElem?_eq_getElem n6⟩;obtain ⟨jY,jZ,fg,cY⟩:=xk.aZ pi y bC;have cY:aT HK jY (jZ+pi*1) (mD y):=cY
   have lA:(k.parts[pi]?).getD 0=y:=by rw [bC]; rfl
   refine Vg (Yf KI O) (Vg (Yd 0 O O O dA) (Vg (Ym O) (Vg (Yo dK O O fg n6) (Vg (dm 1 aq O O (cY 0 _ O)) (Vg (Ym O) (Vg (aG O O) ?_))))));rw [show (y==n)=((k.parts[((pi:Int)).toNat]?).getD 0==n) from by rw [Int.toNat_natCast,lA]];exact Gt 7 O O O
  refine V0 (Ya O) (Ln (Et (az (Er ?_))));refine R1 O O λw' hw=>?_;exact ⟨by rw [UH zI pj,if_pos ar],hw.fr⟩
 refine Ck (Et (Cs (Cr (V0 (Ym O) (V0 (bq O O) (V0 (Ym O) ?_))))));apply La 2 O O O O Y O O O O O
 ·intro mM;refine Vg (Ym O) (Vg (ij O O) ?_);exact Gt 2 O O O
 refine V0 (Ya O) (Ln (Et (az ?_)));refine R1 O O λw' hw=>?_;exact ⟨by rw [UH zI pj,if_neg (λe=>by have h:=ar.symm.trans e; cases h)],hw.fr⟩
theorem aaj (HV HK:View) (vb:Nat) (ka:Option Addr) (kc:Nat) (kn:List cF) (av:Int) (pl:Int) (w:World) (oY:Le HV w) (oZ:Le HK w) (h0:vc HV vb 0=some (.slice ka kn.length kc)) (h1:vc HV vb 1=some (.int .i64 av)) (ej:Sl pF 3 HK ka kc kn)  :
   Calls Tryz.prog 155 #[.pointer (some ⟨vb,0,none⟩),.int .i64 pl] w λe w'=>e = .returned (.bool (Nh av pl))/\Ext w w':=by
 have B7:=ej.cap;have B8:=ej.max;refine enter Tryz.func155 O 15 O O ?_;refine CE (Vs:=[HV,HK]) (Ws.init (by simp [oY,oZ])) (Cs (Cr (V0 (Ya O) (Ln (Et (Cs (Cr (V0 (Ym O) (V0 (fm O O) (V0 (Ym O) ?_))))))))));apply La 6 O O O O Y O O O O O
 ·intro de;refine Vg (Ym O) (Vg (Ym O) (Vg (aO O) (Vg (Yf QS O) (Vg (dm 0 aq O O (h1)) (Vg (bq O O) ?_)))));exact Gt 6 O O O
 refine V0 (Ya O) (Ln (Et (az ?_)));refine R1 O O λw' hw=>?_;exact ⟨O,hw.fr⟩
theorem aak (n:Int) (w:World) :
   Calls Tryz.prog 157 #[.int .i64 n] w λe w'=>e = .returned (.bool (Du n))/\Ext w w':=by
 refine enter Tryz.func157 O 9 O O ?_;refine CE (Vs:=[]) (Ws.init (by simp)) (Cs (Cr (V0 (Ya O) (Ln (Et (Cs (Cr (V0 (Ym O) (V0 (fm O O) (V0 (Ym O) ?_))))))))));apply La 2 O O O O Y O O O O O
 ·intro de;refine Vg (Ym O) (Vg (ij O O) ?_);exact Gt 2 O O O
 refine V0 (Ya O) (Ln (Et (az ?_)));refine R1 O O λw' hw=>?_;exact ⟨O,hw.fr⟩
theorem aoK (HV HK:View) (vb:Nat) (ka:Option Addr) (kc:Nat) (kn:List cF) (av:Int) (x:cv) (a:Option Addr) (c:Nat) (w:World) (oY:Le HV w) (oZ:Le HK w) (h0:vc HV vb 0=some (.slice ka kn.length kc)) (h1:vc HV vb 1=some (.int .i64 av)) (ej:Sl pF 3 HK ka kc kn)  :
   Calls Tryz.prog 159 #[.pointer (some ⟨vb,0,none⟩),.agg (qN x a c).toArray] w λe w'=>e = .returned (.bool (node1 kn av x.op x.n x.m x.pl x.args.length))/\Ext w w':=by
 have B7:=ej.cap;have B8:=ej.max;refine enter Tryz.func159 O 170 O O ?_;refine CE (Vs:=[HV,HK]) (Ws.init (by simp [oY,oZ])) (Cs (Cr ?_));refine WL.box Y O O λb3=>?_;refine V0 (Ya O) (Ln (Et (Cs (Cs (Cr (V0 (Yf tj O) (V0 (Yd 0 O O O km) (V0 (Yn kT O) (V0 (Ya O) (Ln (Et (Cs (Cr (V0 (Yf ti O) ?_))))))))))))));refine V0 (Yd 0 O O O aq) (Ln (Et (Cb (Cs (Cr (V0 (aG O O) (V0 (Ya O) (Ln (Et ?_)))))))));refine Cc O (λad=>?_) (λad=>?_)
 ·have ho:x.op=1:=by simpa using ad
  refine Cs (Cr (V0 (Yf n5 O) (V0 (Yd 0 O O O aq) (V0 (aG O O) (V0 (Ym O) ?_)))));apply La 3 O O O O Y O O O O O
  ·intro de;refine Vg (Yf l7 O) (Vg (Yd 0 O O O aq) (Vg (aG O O) ?_));exact Gt 3 O O O
  refine V0 (Ym O) ?_;apply La 2 O O O O Y O O O O O
  ·intro bK;refine Vg (Ym O) (Vg (aG O O) ?_);exact Gt 2 O O O
  refine V0 (Ym O) ?_;apply La 3 O O O O Y O O O O O
  ·intro hY;refine Vg (Yf n0 O) (Vg (Yd 0 O O O aq) (Vg (fm O O) ?_));exact Gt 3 O O O
  refine V0 (Ym O) ?_;apply La 3 O O O O Y O O O O O
  ·intro mM;refine Vg (Yf n0 O) (Vg (Yd 0 O O O aq) (Vg (ij O O) ?_));exact Gt 3 O O O
  refine V0 (Ya O) (Ln (Et (az (bR (Er ?_)))));refine R1 O O λw' hw=>?_;exact ⟨by rw [node1,if_pos ho],hw.fr⟩
 have gT:¬x.op=1:=by simpa using ad
 refine Cs (Cr (V0 (aG O O) (V0 (Ya O) (Ln (Et ?_)))));refine Cc O (λar=>?_) (λar=>?_)
 ·have ho:x.op=3:=by simpa using ar
  refine Cs (Cr (V0 (Yf n0 O) (V0 (Yd 0 O O O aq) (V0 (aG O O) (V0 (Ym O) ?_)))));apply La 2 O O O O Y O O O O O
  ·intro yG;refine Vg (Ym O) (Vg (aG O O) ?_);exact Gt 2 O O O
  refine V0 (Ym O) ?_;apply La 6 O O O O Y O O O O O
  ·intro pO;refine Vg (Ym O) (Vg (Yf n5 O) (Vg (Yd 0 O O O aq) (Vg (Yf l7 O) (Vg (Yd 0 O O O aq) (Lp (.g O O O) O KJ O (λw hw=>KK HV HK vb ka kc kn av x.m x.pl 1 w (hw.vs _ (by simp)) (hw.vs _ (by simp)) h0 h1 ej (by omega)) ?_)))));exact Gt 6 O O O
  refine V0 (Ya O) (Ln (Et (az (bR (Er ?_)))));refine R1 O O λw' hw=>?_;exact ⟨by rw [node1,if_neg gT,if_pos ho],hw.fr⟩
 have fw:¬x.op=3:=by simpa using ar
 refine Cs (Cr (V0 (aG O O) (V0 (Ya O) (Ln (Et ?_)))));refine Cc O (λay=>?_) (λay=>?_)
 ·have ho:x.op=4:=by simpa using ay
  refine Cs (Cr (V0 (Yf n0 O) (V0 (Yd 0 O O O aq) (Lp Y O aae O (λw hw=>aak _ w) (V0 (Ym O) ?_)))));apply La 2 O O O O Y O O O O O
  ·intro FP;refine Vg (Ym O) (Vg (aG O O) ?_);exact Gt 2 O O O
  refine V0 (Ym O) ?_;apply La 8 O O O O Y O O O O O
  ·intro FR
   have QU:0<=x.n/\x.n<=32:=by
     unfold Du at FR;simp at FR;omega
   refine Vg (Ym O) (Vg (Yf n5 O) (Vg (Yd 0 O O O aq) (Vg (Yf l7 O) (Vg (Yd 0 O O O aq) (Vg (Yf n0 O) (Vg (Yd 0 O O O aq) (Lp (.g O O O) O KJ O (λw hw=>KK HV HK vb ka kc kn av x.m x.pl x.n w (hw.vs _ (by simp)) (hw.vs _ (by simp)) h0 h1 ej QU) ?_)))))));exact Gt 8 O O O
  refine V0 (Ya O) (Ln (Et (az (bR (Er ?_)))));refine R1 O O λw' hw=>?_;exact ⟨by rw [node1,if_neg gT,if_neg fw,if_pos ho],hw.fr⟩
 have gE:¬x.op=4:=by simpa using ay
 refine Cs (Cr (V0 (aG O O) (V0 (Ya O) (Ln (Et ?_)))));refine Cc O (λaM=>?_) (λaM=>?_)
 ·have ho:x.op=5:=by simpa using aM
  refine Cs (Cr (V0 (Yf n0 O) (V0 (Yd 0 O O O aq) (V0 (aG O O) (V0 (Ym O) ?_)))));apply La 7 O O O O Y O O O O O
  ·intro hg8;refine Vg (Ym O) (Vg (Yf n5 O) (Vg (Yd 0 O O O aq) (Vg (Yf l7 O) (Vg (Yd 0 O O O aq) (Vg (Ym O) (Lp (.g O O O) O aaf O (λw hw=>aai HV HK vb ka kc kn av x.m x.pl x.args.length w (hw.vs _ (by simp)) (hw.vs _ (by simp)) h0 h1 ej) ?_))))));exact Gt 7 O O O
  refine V0 (Ya O) (Ln (Et (az (bR (Er ?_)))));refine R1 O O λw' hw=>?_;exact ⟨by rw [node1,if_neg gT,if_neg fw,if_neg gE,if_pos ho],hw.fr⟩
 have iB:¬x.op=5:=by simpa using aM
 refine Cs (Cr (V0 (aG O O) (V0 (Ya O) (Ln (Et ?_)))));refine Cc O (λaW=>?_) (λaW=>?_)
 ·have ho:x.op=16:=by simpa using aW
  refine Cs (Cr (V0 (Yf n5 O) (V0 (Yd 0 O O O aq) (V0 (aG O O) (V0 (Ym O) ?_)))));apply La 3 O O O O Y O O O O O
  ·intro QV;refine Vg (Yf n0 O) (Vg (Yd 0 O O O aq) (Vg (aG O O) ?_));exact Gt 3 O O O
  refine V0 (Ym O) ?_;apply La 2 O O O O Y O O O O O
  ·intro aam;refine Vg (Ym O) (Vg (aG O O) ?_);exact Gt 2 O O O
  refine V0 (Ym O) ?_;apply La 4 O O O O Y O O O O O
  ·intro aan;refine Vg (Ym O) (Vg (Yf l7 O) (Vg (Yd 0 O O O aq) (Lp (.g O O O) O aag O (λw hw=>aaj HV HK vb ka kc kn av x.pl w (hw.vs _ (by simp)) (hw.vs _ (by simp)) h0 h1 ej) ?_)));exact Gt 4 O O O
  refine V0 (Ya O) (Ln (Et (az (bR (Er ?_)))));refine R1 O O λw' hw=>?_;exact ⟨by rw [node1,if_neg gT,if_neg fw,if_neg gE,if_neg iB,if_pos ho],hw.fr⟩
 have lB:¬x.op=16:=by simpa using aW
 refine Cs (Cr (V0 (aG O O) (V0 (Ya O) (Ln (Et ?_)))));refine Cc O (λbl=>?_) (λbl=>?_)
 ·have ho:x.op=2:=by simpa using bl
  refine Cs (Cr (V0 (Yf n5 O) (V0 (Yd 0 O O O aq) (V0 (aG O O) (V0 (Ym O) ?_)))));apply La 3 O O O O Y O O O O O
  ·intro QW;refine Vg (Yf l7 O) (Vg (Yd 0 O O O aq) (Vg (aG O O) ?_));exact Gt 3 O O O
  refine V0 (Ym O) ?_;apply La 3 O O O O Y O O O O O
  ·intro aao;refine Vg (Yf n0 O) (Vg (Yd 0 O O O aq) (Vg (aG O O) ?_));exact Gt 3 O O O
  refine V0 (Ym O) ?_;apply La 2 O O O O Y O O O O O
  ·intro aap;refine Vg (Ym O) (Vg (aG O O) ?_);exact Gt 2 O O O
  refine V0 (Ya O) (Ln (Et (az (bR (Er ?_)))));refine R1 O O λw' hw=>?_;exact ⟨by rw [node1,if_neg gT,if_neg fw,if_neg gE,if_neg iB,if_neg lB,if_pos ho],hw.fr⟩
 have p_:¬x.op=2:=by simpa using bl
 refine Cs (Cr (V0 (aG O O) (V0 (Ya O) (Ln (Et ?_)))));refine Cc O (λbt=>?_) (λbt=>?_)
 ·have ho:x.op=6:=by simpa using bt
  refine Cs (Cr (V0 (Yf n5 O) (V0 (Yd 0 O O O aq) (V0 (aG O O) (V0 (Ym O) ?_)))));apply La 3 O O O O Y O O O O O
  ·intro aaq;refine Vg (Yf l7 O) (Vg (Yd 0 O O O aq) (Vg (aG O O) ?_));exact Gt 3 O O O
  refine V0 (Ym O) ?_;apply La 3 O O O O Y O O O O O
  ·intro FT;refine Vg (Yf n0 O) (Vg (Yd 0 O O O aq) (Vg (aG O O) ?_));exact Gt 3 O O O
  refine V0 (Ym O) ?_;apply La 2 O O O O Y O O O O O
  ·intro aar;refine Vg (Ym O) (Vg (aG O O) ?_);exact Gt 2 O O O
  refine V0 (Ya O) (Ln (Et (az (bR (Er ?_)))));refine R1 O O λw' hw=>?_;exact ⟨by rw [node1,if_neg gT,if_neg fw,if_neg gE,if_neg iB,if_neg lB,if_neg p_,if_pos ho],hw.fr⟩
 have xl:¬x.op=6:=by simpa using bt
 refine WC.Dg (ι:=Bool) (λbb=>[(3,.pointer (some ⟨b3,0,none⟩)),(5,.int .i64 (x.args.length:Int)),(143,.bool bb)]) (λbb=>Ws w [] [ab b3 (.cells (qN x a c).toArray 238 (0,0))] [HV,HK]) (λbb=>bb=decide (7<=x.op/\x.op<=15)) ?_ ?_
 ·refine Cs (Cr (V0 (aG O O) (V0 (Ya O) (Ln (Et ?_)))));refine Cc O (λbQ=>?_) (λbQ=>?_)
  ·refine Ck ?_
   exact Em (x.op==7) (by have h9:x.op=7:=(by simpa using bQ); rw [h9]; decide) (sc O (sc O (sc O sn))) (λ_ h=>by
     have h:=h.ao 0 rfl
     exact h)
  have BE:¬x.op=7:=by simpa using bQ
  refine Cs (Cr (V0 (aG O O) (V0 (Ya O) (Ln (Et ?_)))));refine Cc O (λcL=>?_) (λcL=>?_)
  ·refine Ck ?_
   exact Em (x.op==8) (by have h9:x.op=8:=(by simpa using cL); rw [h9]; decide) (sc O (sc O (sc O sn))) (λ_ h=>by
     have h:=h.ao 0 rfl
     exact h)
  have wQ:¬x.op=8:=by simpa using cL
  refine Cs (Cr (V0 (aG O O) (V0 (Ya O) (Ln (Et ?_)))));refine Cc O (λdk=>?_) (λdk=>?_)
  ·refine Ck ?_
   exact Em (x.op==9) (by have h9:x.op=9:=(by simpa using dk); rw [h9]; decide) (sc O (sc O (sc O sn))) (λ_ h=>by
     have h:=h.ao 0 rfl
     exact h)
  have hn9:¬x.op=9:=by simpa using dk
  refine Cs (Cr (V0 (aG O O) (V0 (Ya O) (Ln (Et ?_)))));refine Cc O (λe8=>?_) (λe8=>?_)
  ·refine Ck ?_
   exact Em (x.op==10) (by have h9:x.op=10:=(by simpa using e8); rw [h9]; decide) (sc O (sc O (sc O sn))) (λ_ h=>by
     have h:=h.ao 0 rfl
     exact h)
  have n8:¬x.op=10:=by simpa using e8
  refine Cs (Cr (V0 (aG O O) (V0 (Ya O) (Ln (Et ?_)))));refine Cc O (λgF=>?_) (λgF=>?_)
  ·refine Ck ?_
   exact Em (x.op==11) (by have h9:x.op=11:=(by simpa using gF); rw [h9]; decide) (sc O (sc O (sc O sn))) (λ_ h=>by
     have h:=h.ao 0 rfl
     exact h)
  have avb:¬x.op=11:=by simpa using gF
  refine Cs (Cr (V0 (aG O O) (V0 (Ya O) (Ln (Et ?_)))));refine Cc O (λgU=>?_) (λgU=>?_)
  ·refine Ck ?_
   exact Em (x.op==12) (by have h9:x.op=12:=(by simpa using gU); rw [h9]; decide) (sc O (sc O (sc O sn))) (λ_ h=>by
     have h:=h.ao 0 rfl
     exact h)
  have jj:¬x.op=12:=by simpa using gU
  refine Cs (Cr (V0 (aG O O) (V0 (Ya O) (Ln (Et ?_)))));refine Cc O (λzJ=>?_) (λzJ=>?_)
  ·refine Ck ?_
   exact Em (x.op==13) (by have h9:x.op=13:=(by simpa using zJ); rw [h9]; decide) (sc O (sc O (sc O sn))) (λ_ h=>by
     have h:=h.ao 0 rfl
     exact h)
  have B':¬x.op=13:=by simpa using zJ
  refine Cs (Cr (V0 (aG O O) (V0 (Ya O) (Ln (Et ?_)))));refine Cc O (λiW=>?_) (λiW=>?_)
  ·refine Ck ?_
   exact Em (x.op==14) (by have h9:x.op=14:=(by simpa using iW); rw [h9]; decide) (sc O (sc O (sc O sn))) (λ_ h=>by
     have h:=h.ao 0 rfl
     exact h)
  have iz:¬x.op=14:=by simpa using iW
  refine Cr (V0 (aG O O) (V0 (Ya O) (Ln ?_)))
  exact Em (x.op==15) (by rw [Bool.eq_iff_iff]; simp; omega) (sc O (sc O (sc O sn))) (λ_ h=>by
    have h:=h.ao 0 rfl
    exact h)
 intro bb FU;refine Cc O (λjK=>?_) (λjK=>?_)
 ·refine Cs (Cr (V0 (Yf n5 O) (V0 (Yd 0 O O O aq) (V0 (aG O O) (V0 (Ym O) ?_)))));apply La 3 O O O O Y O O O O O
  ·intro KO;refine Vg (Yf l7 O) (Vg (Yd 0 O O O aq) (Vg (aG O O) ?_));exact Gt 3 O O O
  refine V0 (Ym O) ?_;apply La 3 O O O O Y O O O O O
  ·intro avc;refine Vg (Yf n0 O) (Vg (Yd 0 O O O aq) (Vg (aG O O) ?_));exact Gt 3 O O O
  refine V0 (Ym O) ?_;apply La 2 O O O O Y O O O O O
  ·intro avd;refine Vg (Ym O) (Vg (aG O O) ?_);exact Gt 2 O O O
  refine V0 (Ya O) (Ln (Et (az (bR (Er ?_)))));refine R1 O O λw' hw=>?_;exact ⟨by rw [node1,if_neg gT,if_neg fw,if_neg gE,if_neg iB,if_neg lB,if_neg p_,if_neg xl,if_pos (of_decide_eq_true (FU.symm.trans jK))],hw.fr⟩
 refine Ck (Eb (Et (Cs (Cr (V0 (Ya O) (Ln (Et (az ?_))))))));refine R1 O O λw' hw=>?_;exact ⟨by rw [node1,if_neg gT,if_neg fw,if_neg gE,if_neg iB,if_neg lB,if_neg p_,if_neg xl,if_neg (of_decide_eq_false (FU.symm.trans jK))],hw.fr⟩
theorem aoL {a b:Nat} (ha:a<=9223372036854775807) (hb:b<=9223372036854775807):(IntKind.i64.wrap ((a:Int)+(b:Int))==0)=((a:Int)+(b:Int)==0):=by
 rw [Bool.eq_iff_iff];simp only [beq_iff_eq];rw [IntKind.wrap_i64];omega
theorem aoM:Enters Tryz.prog 159:=enters_of Tryz.func159 (by kernel_rfl) rfl
theorem aas:Enters Tryz.prog 125:=enters_of Tryz.func125 (by kernel_rfl) rfl
theorem n9:dI Tryz.prog 56=true:=by kernel_rfl
theorem tt:dL Tryz.prog 56=some 7:=by kernel_rfl
theorem KQ:aX Tryz.prog 191 0=some 0:=by kernel_rfl
theorem aoN:Enters Tryz.prog 124:=enters_of Tryz.func124 (by kernel_rfl) rfl
theorem KR:Enters Tryz.prog 106:=enters_of Tryz.func106 (by kernel_rfl) rfl
theorem aoO (HV HK:View) (vb:Nat) (ka:Option Addr) (kc:Nat) (kn:List cF) (av:Int) (H:View) (k:Nat) (l:List cv) (a:Option Addr) (c:Nat) (d:Nat) (w:World) (oY:Le HV w) (oZ:Le HK w) (h0:vc HV vb 0=some (.slice ka kn.length kc)) (h1:vc HV vb 1=some (.int .i64 av)) (ej:Sl pF 3 HK ka kc kn) (hH:Le H w) (hl:Sl (jA k) 5 H a c l) (hd:d<=7) :
   Calls Tryz.prog 125 #[.pointer (some ⟨vb,0,none⟩),.slice a l.length c,.int .i64 (d:Int)] w λe w'=>e = .returned (.bool (nF kn av l d))/\Ext w w':=by
 have B7:=ej.cap;have B8:=ej.max
 induction k using Nat.strongRecOn generalizing l a c d w
 rename_i k ih;have dQ:=hl.cap;have eB:=hl.max;refine enter Tryz.func125 O 33 O O ?_;refine CE (Vs:=[HV,HK,H]) (Ws.init (by simp [oY,oZ,hH])) (Cs (Cr (V0 (Ya O) (Ln (Et (Cs (Cs (Cr (V0 (Ym O) (V0 (Yn kT O) (V0 (Ym O) (Ln (Et (Cb ?_))))))))))))));refine CW (ι:=Nat) (λi=>[(11,.int .i64 (i:Int))]) [(0,_),(2,_),(9,_),(10,_)] (λi=>i<=l.length/\(l.take i).all (uu kn av · d)=true) (λi=>l.length-i) 0 ⟨Nat.zero_le _,O⟩ (sc O (sc O (sc O (sc O (sc O sn))))) ?_;intro i ⟨hi,cg⟩;refine Cs (Cr (V0 (bq O O) (Ln (Et (Cs ?_)))));refine Cc O (λad=>?_) (λad=>?_)
 ·have aw:i<l.length:=by simpa using ad
  obtain ⟨x,bP⟩:∃q,l[i]? = some q:=⟨_,List.getElem?_eq_getElem aw⟩;obtain ⟨hZ,h_,iE,ek⟩:=hl.aZ i x bP
  obtain ⟨k2,rfl⟩:∃k2,k=k2+1:=by
    cases k with
    | zero=>exact ek.elim
    | succ k2=>exact ⟨k2,rfl⟩
  obtain ⟨xa,xc,bJ,gq⟩:=ek;refine Ck (Et (Cs (Cb (Cs (Cr (V0 (Yo kT O O iE aw) (V0 (cM 2 kj O O O (bJ)) ?_)))))));refine Al Y O Fw λb8=>?_;refine an 0 Y O O O Kd O O O (Ln (Et (Cs (fo 0 (.cells (qN x xa xc).toArray 238 (0,0)) O O (Cr (V0 (Ym O) (V0 (bZ O O) (V0 (Ym O) ?_))))))));apply Lo 4 O O O O Y O O O O O
  ·intro de;refine Vg (Ym O) (Vg (bA 0 O O kj O) (Lp (.g O O O) O aoM O (λw hw=>aoK HV HK vb ka kc kn av x xa xc w (hw.vs _ (by simp)) (hw.vs _ (by simp)) h0 h1 ej) (Vg (eu O) ?_)));exact Gt 4 O O O
  refine V0 (Ym O) ?_;apply Lo 7 O O O O Y O O O O O
  ·intro bK
   have XV:d<=6:=by
     have h9:=(Bool.or_eq_false_iff.1 bK).1;simp at h9; omega
   refine Vg (Ym O) (Vg (Yf tj O) (Vg (Yd 0 O O O km) (Vg (Ym O) (Vg (Yi O O O (by omega)) (Lp (.g O O O) O aas O (λw hw=>ih k2 (by omega) x.args xa xc (d+1) w (hw.vs _ (by simp)) (hw.vs _ (by simp)) (hw.vs _ (by simp)) gq (by omega)) (Vg (eu O) ?_))))));exact Gt 7 O O O
  refine Ln (Et ?_);rw [aen];refine Cc O (λar=>?_) (λar=>?_)
  ·have hx:uu kn av x d=false:=by simpa using ar
   refine Cs (Cr (V0 (Ya O) (Ln (Et (az (bR (Er (Er (bR (Er ?_))))))))));refine R1 O O λw' hw=>?_;exact ⟨by rw [Ig,Dw bP hx],hw.fr⟩
  have hx:uu kn av x d=true:=by simpa using ar
  refine Ck (Eb (Et (Cr (V0 (Yi O O O (by omega)) (V0 (Ym O) (Ln ?_))))));exact Ea (i+1) (by omega) ⟨by omega,Dx bP cg hx⟩ (sc O (sc O (sc O (sc O (sc O sn))))) (λ_ h=>Wd 1 h)
 have cz:¬i<l.length:=by simpa using ad
 rw [List.take_of_length_le (by omega)] at cg;refine Ce (Ex (Ex (cf (Et (Cs (Cr (V0 (Ya O) (Ln (Et (az ?_))))))))));refine R1 O O λw' hw=>?_;exact ⟨by rw [Ig,cg],hw.fr⟩
theorem aoP (HV HK:View) (vb:Nat) (ka:Option Addr) (kc:Nat) (kn:List cF) (av:Int) (x:ck) (r:yh) (w:World) (oY:Le HV w) (oZ:Le HK w) (h0:vc HV vb 0=some (.slice ka kn.length kc)) (h1:vc HV vb 1=some (.int .i64 av)) (ej:Sl pF 3 HK ka kc kn) (Qc:x.body.length<=9223372036854775807) (Vc:x.other.length<=9223372036854775807) :
   Calls Tryz.prog 124 #[.pointer (some ⟨vb,0,none⟩),.agg (um x r).toArray] w λe w'=>e = .returned (.bool (nE kn av x.op x.n x.m x.pl x.args.length x.body.length x.other.length))/\Ext w w':=by
 have B7:=ej.cap;have B8:=ej.max;refine enter Tryz.func124 O 135 O O ?_;refine CE (Vs:=[HV,HK]) (Ws.init (by simp [oY,oZ])) (Cs (Cr ?_));refine WL.box Y O O λb3=>?_;refine V0 (Ya O) (Ln (Et (Cs ?_)));refine WC.xX [(0,true),(1,true),(2,true),(3,true),(4,true),(5,true),(6,true),(7,true),(8,true),(9,true),(10,true),(11,true),(12,true)] mixed (by kernel_rfl) (λ_ _ _ d _ h=>by cases d<;>exact h) ?_;refine D0 O (λ_ h=>h) (Yf rL O) (D0 O (λ_ h=>h) (Yd 0 O O O km) (D0 O (λ_ h=>h) (Yn kT O) (D0 O (λ_ h=>h) (Yf Fz O) (D0 O (λ_ h=>h) (Yd 0 O O O n9) (D0 O (λ_ h=>h) (Yn tt O) (D0 O (λ_ h=>h) (Yf zD O) (D0 O (λ_ h=>h) (Yd 0 O O O n9) ?_)))))));refine D0 O (λ_ h=>h) (Yn tt O) (D0 O (λ_ h=>h) (vO O O) (D0 O (λ_ h=>h) (aG O O) ?_));rw [aoL Qc Vc];refine D0 O (λ_ h=>h) (Ya O) (D0 O (λ_ h=>h) (Ya O) ?_);refine WD.nil (λ_ h=>h) ?_;refine Et (Cs (Cr (V0 (Yf oX O) (V0 (Yd 0 O O O aq) (V0 (aG O O) (V0 (Ym O) ?_))))));apply La 3 O O O O Y O O O O O
 ·intro de;refine Vg (Yf p7 O) (Vg (Yd 0 O O O aq) (Vg (aG O O) ?_));exact Gt 3 O O O
 refine V0 (Ym O) ?_;apply La 3 O O O O Y O O O O O
 ·intro bK;refine Vg (Yf zC O) (Vg (Yd 0 O O O aq) (Vg (aG O O) ?_));exact Gt 3 O O O
 refine V0 (Ya O) (Ln (Et (Cs (Cs (Cr (V0 (Yf KQ O) (V0 (Yd 0 O O O aq) (Ln (Et (Cb (Cs (Cr (V0 (aG O O) (V0 (Ya O) (Ln (Et ?_))))))))))))))));refine Cc O (λad=>?_) (λad=>?_)
 ·have ho:x.op=1:=by simpa using ad
  refine Cs (Cr (V0 (Ym O) (V0 (Ym O) ?_)));apply La 2 O O O O Y O O O O O
  ·intro hY;refine Vg (Ym O) (Vg (aG O O) ?_);exact Gt 2 O O O
  refine V0 (Ym O) ?_;apply La 3 O O O O Y O O O O O
  ·intro mM;refine Vg (Yf zC O) (Vg (Yd 0 O O O aq) (Vg (aG O O) ?_));exact Gt 3 O O O
  refine V0 (Ym O) ?_;apply La 17 O O O O Y O O O O O
  ·intro yG;refine Vg (Yf oX O) (Vg (Yd 0 O O O aq) (Vg (aG O O) (Vg (Ym O) ?_)));apply La 4 O O O O (.g O O O) O O O O O
   ·intro pO;refine Vg (Ym O) (Vg (Yf p7 O) (Vg (Yd 0 O O O aq) (Lp (.g O O O) O aag O (λw hw=>aaj HV HK vb ka kc kn av x.pl w (hw.vs _ (by simp)) (hw.vs _ (by simp)) h0 h1 ej) ?_)));exact Gt 4 O O O
   refine Vg (Ym O) ?_;apply Lo 6 O O O O (.g O O O) O O O O O
   ·intro FP;refine Vg (Ym O) (Vg (Yf oX O) (Vg (Yd 0 O O O aq) (Vg (Yf p7 O) (Vg (Yd 0 O O O aq) (Lp (.g O O O) O KJ O (λw hw=>KK HV HK vb ka kc kn av x.m x.pl 1 w (hw.vs _ (by simp)) (hw.vs _ (by simp)) h0 h1 ej (by omega)) ?_)))));exact Gt 6 O O O
   exact Gt 7 O O O
  refine V0 (Ya O) (Ln (Et (az (bR (Er ?_)))));refine R1 O O λw' hw=>?_;exact ⟨by rw [nE,if_pos ho],hw.fr⟩
 have gT:¬x.op=1:=by simpa using ad
 refine Cs (Cr (V0 (aG O O) (V0 (Ya O) (Ln (Et ?_)))));refine Cc O (λar=>?_) (λar=>?_)
 ·have ho:x.op=2:=by simpa using ar
  refine Cs (Cr (V0 (Ym O) (V0 (Ym O) ?_)));apply La 2 O O O O Y O O O O O
  ·intro FR;refine Vg (Ym O) (Vg (aG O O) ?_);exact Gt 2 O O O
  refine V0 (Ym O) ?_;apply La 3 O O O O Y O O O O O
  ·intro hg8;refine Vg (Yf zC O) (Vg (Yd 0 O O O aq) (Lp (.g O O O) O aae O (λw hw=>aak _ w) ?_));exact Gt 3 O O O
  refine V0 (Ym O) ?_;apply La 8 O O O O Y O O O O O
  ·intro QV
   have QU:0<=x.n/\x.n<=32:=by
     have h9:=(Bool.and_eq_true_iff.1 QV).2;unfold Du at h9;simp at h9;omega
   refine Vg (Ym O) (Vg (Yf oX O) (Vg (Yd 0 O O O aq) (Vg (Yf p7 O) (Vg (Yd 0 O O O aq) (Vg (Yf zC O) (Vg (Yd 0 O O O aq) (Lp (.g O O O) O KJ O (λw hw=>KK HV HK vb ka kc kn av x.m x.pl x.n w (hw.vs _ (by simp)) (hw.vs _ (by simp)) h0 h1 ej QU) ?_)))))));exact Gt 8 O O O
  refine V0 (Ya O) (Ln (Et (az (bR (Er ?_)))));refine R1 O O λw' hw=>?_;exact ⟨by rw [nE,if_neg gT,if_pos ho],hw.fr⟩
 have fw:¬x.op=2:=by simpa using ar
 refine Cs (Cr (V0 (aG O O) (V0 (Ya O) (Ln (Et ?_)))));refine Cc O (λay=>?_) (λay=>?_)
 ·have ho:x.op=3:=by simpa using ay
  refine Cs (Cr (V0 (Ym O) (V0 (Ym O) ?_)));apply La 3 O O O O Y O O O O O
  ·intro aam;refine Vg (Yf zC O) (Vg (Yd 0 O O O aq) (Vg (aG O O) ?_));exact Gt 3 O O O
  refine V0 (Ym O) ?_;apply La 7 O O O O Y O O O O O
  ·intro aan;refine Vg (Ym O) (Vg (Yf oX O) (Vg (Yd 0 O O O aq) (Vg (Yf p7 O) (Vg (Yd 0 O O O aq) (Vg (Ym O) (Lp (.g O O O) O aaf O (λw hw=>aai HV HK vb ka kc kn av x.m x.pl x.args.length w (hw.vs _ (by simp)) (hw.vs _ (by simp)) h0 h1 ej) ?_))))));exact Gt 7 O O O
  refine V0 (Ya O) (Ln (Et (az (bR (Er ?_)))));refine R1 O O λw' hw=>?_;exact ⟨by rw [nE,if_neg gT,if_neg fw,if_pos ho],hw.fr⟩
 have gE:¬x.op=3:=by simpa using ay
 refine Cs (Cr (V0 (aG O O) (V0 (Ya O) (Ln (Et ?_)))));refine Cc O (λaM=>?_) (λaM=>?_)
 ·have ho:x.op=4:=by simpa using aM
  refine Cs (Cr (V0 (Ym O) (V0 (Ym O) ?_)));apply La 2 O O O O Y O O O O O
  ·intro QW;refine Vg (Ym O) (Vg (aG O O) ?_);exact Gt 2 O O O
  refine V0 (Ya O) (Ln (Et (az (bR (Er ?_)))));refine R1 O O λw' hw=>?_;exact ⟨by rw [nE,if_neg gT,if_neg fw,if_neg gE,if_pos ho],hw.fr⟩
 have iB:¬x.op=4:=by simpa using aM
 refine Cs (Cr (V0 (aG O O) (V0 (Ya O) (Ln (Et ?_)))));refine Cc O (λaW=>?_) (λaW=>?_)
 ·have ho:x.op=5:=by simpa using aW
  refine Cs (Cr (V0 (Ym O) (V0 (Ym O) ?_)));apply La 2 O O O O Y O O O O O
  ·intro aao;refine Vg (Ym O) (Vg (aG O O) ?_);exact Gt 2 O O O
  refine V0 (Ym O) ?_;apply La 4 O O O O Y O O O O O
  ·intro aap;refine Vg (Yf zD O) (Vg (Yd 0 O O O n9) (Vg (Yn tt O) (Vg (aG O O) ?_)));exact Gt 4 O O O
  refine V0 (Ya O) (Ln (Et (az (bR (Er ?_)))));refine R1 O O λw' hw=>?_;exact ⟨by rw [nE,if_neg gT,if_neg fw,if_neg gE,if_neg iB,if_pos ho],hw.fr⟩
 have lB:¬x.op=5:=by simpa using aW
 refine WC.Dg (ι:=Bool) (λbb=>[(5,.int .i64 (x.args.length:Int)),(6,.bool ((x.body.length:Int)+(x.other.length:Int)==0)),(7,.bool (((x.m==0)&&(x.pl==0))&&(x.n==0))),(124,.bool bb)]) (λbb=>Ws w [] [ab b3 (.cells (um x r).toArray 191 (0,0))] [HV,HK]) (λbb=>bb=decide (x.op=6\/x.op=7)) ?_ ?_
 ·refine Cs (Cr (V0 (aG O O) (V0 (Ya O) (Ln (Et ?_)))));refine Cc O (λbl=>?_) (λbl=>?_)
  ·refine Ck ?_
   exact Em (x.op==6) (by have h9:x.op=6:=(by simpa using bl); rw [h9]; decide) (sc O (sc O (sc O (sc O sn)))) (λ_ h=>by
     have h:=h.ao 0 rfl
     exact h)
  have p_:¬x.op=6:=by simpa using bl
  refine Cr (V0 (aG O O) (V0 (Ya O) (Ln ?_)))
  exact Em (x.op==7) (by rw [Bool.eq_iff_iff]; simp; omega) (sc O (sc O (sc O (sc O sn)))) (λ_ h=>by
    have h:=h.ao 0 rfl
    exact h)
 intro bb FU;refine Cc O (λbt=>?_) (λbt=>?_)
 ·refine Cs (Cr (V0 (Ym O) (V0 (Ym O) ?_)));apply La 1 O O O O Y O O O O O
  ·intro aaq;refine Vg (Ym O) ?_;exact Gt 1 O O O
  refine V0 (Ym O) ?_;apply La 2 O O O O Y O O O O O
  ·intro FT;refine Vg (Ym O) (Vg (aG O O) ?_);exact Gt 2 O O O
  refine V0 (Ya O) (Ln (Et (az (bR (Er ?_)))));refine R1 O O λw' hw=>?_;exact ⟨by rw [nE,if_neg gT,if_neg fw,if_neg gE,if_neg iB,if_neg lB,if_pos (of_decide_eq_true (FU.symm.trans bt))],hw.fr⟩
 refine Ck (Eb (Et (Cs (Cr (V0 (Ya O) (Ln (Et (az ?_))))))));refine R1 O O λw' hw=>?_;exact ⟨by rw [nE,if_neg gT,if_neg fw,if_neg gE,if_neg iB,if_neg lB,if_neg (of_decide_eq_false (FU.symm.trans bt))],hw.fr⟩
theorem aat (HV HK:View) (vb:Nat) (ka:Option Addr) (kc:Nat) (kn:List cF) (av:Int) (H:View) (ke k:Nat) (l:List ck) (a:Option Addr) (c:Nat) (d:Nat) (w:World) (oY:Le HV w) (oZ:Le HK w) (h0:vc HV vb 0=some (.slice ka kn.length kc)) (h1:vc HV vb 1=some (.int .i64 av)) (ej:Sl pF 3 HK ka kc kn) (hH:Le H w) (hl:Sl (gZ ke k) 7 H a c l) (hd:d<=7) :
   Calls Tryz.prog 106 #[.pointer (some ⟨vb,0,none⟩),.slice a l.length c,.int .i64 (d:Int)] w λe w'=>e = .returned (.bool (iL kn av l d))/\Ext w w':=by
 have B7:=ej.cap;have B8:=ej.max
 induction k using Nat.strongRecOn generalizing l a c d w
 rename_i k ih;have dQ:=hl.cap;have eB:=hl.max;refine enter Tryz.func106 O 68 O O ?_;refine CE (Vs:=[HV,HK,H]) (Ws.init (by simp [oY,oZ,hH])) (Cs (Cr (V0 (Ya O) (Ln (Et (Cs (Cs (Cr (V0 (Ym O) (V0 (bZ O O) (V0 (Ym O) ?_)))))))))));apply Lo 3 O O O O Y O O O O O
 ·intro de;refine Vg (Ym O) (Vg (Yn tt O) (Vg (bZ O O) ?_));exact Gt 3 O O O
 refine Ln (Et ?_);refine Cc O (λad=>?_) (λad=>?_)
 ·refine Cs (Cr (V0 (Ya O) (Ln (Et (az (Er ?_))))));refine R1 O O λw' hw=>?_;exact ⟨by rw [aep kn av l d ad],hw.fr⟩
 have eZ:=aeq ad;refine Ck (Et (Cs (Cs (Cr (V0 (Ym O) (V0 (Yn tt O) (V0 (Ym O) (Ln (Et (Cb ?_))))))))));refine CW (ι:=Nat) (λi=>[(18,.int .i64 (i:Int))]) [(0,_),(2,_),(16,_),(17,_)] (λi=>i<=l.length/\(l.take i).all (sz kn av · d)=true) (λi=>l.length-i) 0 ⟨Nat.zero_le _,O⟩ (sc O (sc O (sc O (sc O (sc O sn))))) ?_;intro i ⟨hi,cg⟩;refine Cs (Cr (V0 (bq O O) (Ln (Et (Cs ?_)))));refine Cc O (λar=>?_) (λar=>?_)
 ·have aw:i<l.length:=by simpa using ar
  obtain ⟨x,bP⟩:∃q,l[i]? = some q:=⟨_,List.getElem?_eq_getElem aw⟩;obtain ⟨hZ,h_,iE,ek⟩:=hl.aZ i x bP
  obtain ⟨k2,rfl⟩:∃k2,k=k2+1:=by
    cases k with
    | zero=>exact ek.elim
    | succ k2=>exact ⟨k2,rfl⟩
  obtain ⟨r,bJ,j7,jh,kN⟩:=ek;have agY:=jh.cap;have max2:=jh.max;have agZ:=kN.cap;have ag0:=kN.max;refine Ck (Et (Cs (Cb (Cs (Cr (V0 (Yo tt O O iE aw) (V0 (cM 2 B1 O O O (bJ)) ?_)))))));refine Al Y O Fy λb8=>?_;refine an 0 Y O O O Kj O O O (Ln (Et (Cs (fo 0 (.cells (um x r).toArray 191 (0,0)) O O (Cr (V0 (Ym O) (V0 (bA 0 O O B1 O) (Lp Y O aoN O (λw hw=>aoP HV HK vb ka kc kn av x r w (hw.vs _ (by simp)) (hw.vs _ (by simp)) h0 h1 ej (by omega) (by omega)) (V0 (eu O) ?_)))))))));refine V0 (Ym O) ?_;apply Lo 5 O O O O Y O O O O O
  ·intro bK;refine Vg (Ym O) (Vg (Yf rL O) (Vg (Yd 0 O O O km) (Lp (.g O O O) O aas O (λw hw=>aoO HV HK vb ka kc kn av H ke x.args r.s1.1 r.s1.2 1 w (hw.vs _ (by simp)) (hw.vs _ (by simp)) h0 h1 ej (hw.vs _ (by simp)) j7 (by omega)) (Vg (eu O) ?_))));exact Gt 5 O O O
  refine V0 (Ym O) ?_;apply Lo 17 O O O O Y O O O O O
  ·intro hY;refine Vg (Yf KQ O) (Vg (Yd 0 O O O aq) (Vg (aG O O) (Vg (Ym O) ?_)));apply Lo 3 O O O O (.g O O O) O O O O O
   ·intro mM;refine Vg (Yf KQ O) (Vg (Yd 0 O O O aq) (Vg (aG O O) ?_));exact Gt 3 O O O
   refine Vg (Ym O) ?_;apply La 7 O O O O (.g O O O) O O O O O
   ·intro yG;refine Vg (Ym O) (Vg (Yf Fz O) (Vg (Yd 0 O O O n9) (Vg (Ym O) (Vg (Yi O O O (by omega)) (Lp (.g O O O) O KR O (λw hw=>ih k2 (by omega) x.body r.s2.1 r.s2.2 (d+1) w (hw.vs _ (by simp)) (hw.vs _ (by simp)) (hw.vs _ (by simp)) jh (by omega)) (Vg (eu O) ?_))))));exact Gt 7 O O O
   exact Gt 7 O O O
  refine V0 (Ym O) ?_;apply Lo 13 O O O O Y O O O O O
  ·intro pO;refine Vg (Yf zD O) (Vg (Yd 0 O O O n9) (Vg (Yn tt O) (Vg (bZ O O) (Vg (Ym O) ?_))));apply La 7 O O O O (.g O O O) O O O O O
   ·intro FP;refine Vg (Ym O) (Vg (Yf zD O) (Vg (Yd 0 O O O n9) (Vg (Ym O) (Vg (Yi O O O (by omega)) (Lp (.g O O O) O KR O (λw hw=>ih k2 (by omega) x.other r.s3.1 r.s3.2 (d+1) w (hw.vs _ (by simp)) (hw.vs _ (by simp)) (hw.vs _ (by simp)) kN (by omega)) (Vg (eu O) ?_))))));exact Gt 7 O O O
   exact Gt 6 O O O
  refine Ln (Et ?_);rw [aeo];refine Cc O (λay=>?_) (λay=>?_)
  ·have hx:sz kn av x d=false:=by simpa using ay
   refine Cs (Cr (V0 (Ya O) (Ln (Et (az (bR (Er (Er (bR (Er ?_))))))))));refine R1 O O λw' hw=>?_;exact ⟨by rw [UK kn av eZ,Dw bP hx],hw.fr⟩
  have hx:sz kn av x d=true:=by simpa using ay
  refine Ck (Eb (Et (Cr (V0 (Yi O O O (by omega)) (V0 (Ym O) (Ln ?_))))));exact Ea (i+1) (by omega) ⟨by omega,Dx bP cg hx⟩ (sc O (sc O (sc O (sc O (sc O sn))))) (λ_ h=>Wd 1 h)
 have cz:¬i<l.length:=by simpa using ar
 rw [List.take_of_length_le (by omega)] at cg;refine Ce (Ex (Ex (cf (Et (Cs (Cr (V0 (Ya O) (Ln (Et (az ?_))))))))));refine R1 O O λw' hw=>?_;exact ⟨by rw [UK kn av eZ,cg],hw.fr⟩
abbrev XK:=cF×(Option Addr×Nat)
def XK.cells (e:XK):List Value:=e.1.cells e.2
theorem XK.a8 (e:XK):(XK.cells e).length=3:=rfl
theorem XK.one (e:XK):(XK.cells e).all (·.oneCell')=true:=rfl
def KS (H:View) (b o:Nat) (e:XK):Prop:=aT H b o (XK.cells e)
def zK (J:View) (e:XK):Prop:=Sl jd 1 J e.2.1 e.2.2 e.1.parts
theorem zK.mv {A B:View} {e:XK} (hv:aL A B) (h:zK A e):zK B e:=h.imp λ_ _ _ r=>aT.mono hv r
def aau (H:View) (b o:Nat) (e:XK):Prop:=aT H b o (XK.cells e)/\zK H e
theorem aoQ {H:View} {a:Option Addr} {c:Nat} {l:List cF} (h:Sl pF 3 H a c l):∃ys:List XK,ys.map (·.1)=l/\Sl aau 3 H a c ys:=by
 obtain ⟨ys,h1,h2⟩:=VM (β:=Option Addr×Nat) (p:=λi x r=>∃b o,a=some ⟨b,o,none⟩/\aT H b (o+i*3) (cF.cells x r)/\Sl jd 1 H r.1 r.2 x.parts) l 0 λi x hx=>by
   obtain ⟨b,o,ha,r,hr,hm⟩:=h.aZ i x hx;exact ⟨r,b,o,ha,by rw [Nat.zero_add]; exact hr,hm⟩
 have hl:ys.length=l.length:=by rw [<-h1,List.length_map]
 refine ⟨ys,h1,by rw [hl]; exact h.cap,h.max,h.spot,λi y hy=>?_⟩;obtain ⟨b,o,ha,hr,hm⟩:=h2 i y hy;rw [Nat.zero_add] at hr;exact ⟨b,o,ha,hr,hm⟩
theorem aav {K N:View} {a:Option Addr} {c:Nat} {es:List XK} (h:Sl KS 3 K a c es) (hv:aL K N) (he:∀e ∈ es,zK N e):Sl pF 3 N a c (es.map (·.1)):=by
 refine ⟨by rw [List.length_map]; exact h.cap,h.max,h.spot,λi x hx=>?_⟩;rw [List.getElem?_map] at hx;obtain ⟨y,hy,rfl⟩:=Option.map_eq_some_iff.1 hx;obtain ⟨b,o,ha,hr⟩:=h.aZ i y hy;exact ⟨b,o,ha,y.2,aT.mono hv hr,he y (List.mem_of_getElem? hy)⟩
theorem aoR {u:ed} (h:A5 u=false):u.parts.length<=6/\u.ae.length<=3/\0<=u.data/\u.data<=512:=by
 unfold A5 at h;simp only [Bool.or_eq_false_iff,decide_eq_false_iff_not] at h;omega
theorem aoS {kn:List cF} {x:iJ} (h:(((decide (x.params<0)||decide (3<x.params))||decide (x.locals<0))||decide (4<x.locals))=true):pG kn x=false:=by unfold pG; rw [h]; rfl
theorem aoT {kn:List cF} {x:iJ} (h:(((decide (x.params<0)||decide (3<x.params))||decide (x.locals<0))||decide (4<x.locals))=false):pG kn x=iL kn (x.params+x.locals) x.body 1:=by unfold pG; rw [h]; rfl
theorem aoU (b:Bool):decide (1<(if b=true then (1:Int) else 0)+1)=b:=by cases b<;>decide
theorem KT:aX Tryz.prog 58 2=some 2:=by kernel_rfl
theorem aoV:eR Tryz.prog 152=some [(0,1),(1,1),(2,1)]:=by kernel_rfl
theorem zL:dL Tryz.prog 55=some 3:=by kernel_rfl
theorem KV:eQ Tryz.prog 125=some 3:=by kernel_rfl
theorem QX:cq Tryz.prog 125=some 3:=by kernel_rfl
theorem FV:aX Tryz.prog 125 0=some 0:=by kernel_rfl
theorem gG:eS Tryz.prog 25 3 (.int .i64 0) 1 8:=gW (by kernel_rfl)
theorem lC:cq Tryz.prog 25=some 1:=by kernel_rfl
theorem QY:aX Tryz.prog 58 0=some 0:=by kernel_rfl
theorem KX:aX Tryz.prog 58 1=some 1:=by kernel_rfl
theorem aoW:Enters Tryz.prog 82:=enters_of Tryz.func82 (by kernel_rfl) rfl
theorem QZ:eS Tryz.prog 150 152 (.agg #[.bool false,.int .i64 0,.slice none 0 0]) 3 40:=gW (by kernel_rfl)
theorem aoX:eR Tryz.prog 187=some [(0,1),(1,1)]:=by kernel_rfl
theorem aoY:zeroOf Tryz.prog 187=some (.agg #[.slice none 0 0,.int .i64 0]):=by kernel_rfl
theorem KY:aX Tryz.prog 125 1=some 1:=by kernel_rfl
theorem aaw:aX Tryz.prog 125 2=some 2:=by kernel_rfl
theorem aoZ (H:View) (ke k:Nat) (u:ed) (r:kz) (w:World) (hH:Le H w) (hu:kA ke k H r u) (hp:u.parts.length<=1048576) :
   Calls Tryz.prog 82 #[.agg (eV u r).toArray] w λe w'=>∃q:Option Addr×Nat,e = .returned (.agg ((gh u).cells q).toArray)/\Ext w w'/\Sl jd 1 (nv w w') q.1 q.2 (gh u).parts:=by
 have dQ:=hu.parts.cap;have eB:=hu.parts.max;refine enter Tryz.func82 O 25 O O ?_;refine CE (Vs:=[H]) (Ws.init (by simp [hH])) (Cs (Cr ?_));refine WL.box Y O O λb1=>?_;refine Al Y O FO λb2=>?_;refine Ln (Et (Cs (Cr (V0 (Yf KT O) (V0 (Yd 1 O O O aq) (V0 (Yb FO aoV O O) ?_))))));refine Al Y O FO λb3=>?_;refine an 0 Y O O O KH O O O (Ln (Et (Cs (Cs (fo 0 (.cells #[.bool true,.int .i64 u.data,.slice none 0 0] 152 (0,0)) O O (Cr (V0 (Yf B5 O) (V0 (Yd 2 O O O FF) (V0 (Yn zL O) (V0 (Ym O) ?_))))))))));refine LW (λ_ h=>h.fB 3 1) (Ln (Et (Cb ?_)));refine cU (ι:=Nat×(Option Addr×Nat)) (λg=>[(12,.int .i64 (g.1:Int))]) [(2,_),(3,_),(10,_),(11,_)] (λg=>Ws w [] [bo 3 1 mD g.2.1 g.2.2 ((u.parts.take g.1).map (·.params)),ab b3 (.cells #[.bool true,.int .i64 u.data,.slice g.2.1 ((u.parts.take g.1).map (·.params)).length g.2.2] 152 (0,0)),ab b2 (.cells #[.bool false,.int .i64 0,.slice none 0 0] 152 (0,0)),ab b1 (.cells (eV u r).toArray 58 (0,0))] [H]) (λg=>g.1<=u.parts.length) (λg=>u.parts.length-g.1) (0,(none,0)) (Nat.zero_le _) (sc O (sc O (sc O (sc O (sc O sn))))) (λ_ h=>h) ?_;intro g tq;refine Cs (Cr (V0 (bq O O) (Ln (Et (Cs ?_)))));refine Cc O (λad=>?_) (λad=>?_)
 ·have aw:g.1<u.parts.length:=by simpa using ad
  obtain ⟨x,bP⟩:∃q,u.parts[g.1]? = some q:=⟨_,List.getElem?_eq_getElem aw⟩;obtain ⟨hZ,h_,iE,ek⟩:=hu.parts.aZ g.1 x bP;obtain ⟨xr,bJ,gq⟩:=ek
  have hT:(u.parts.take (g.1+1)).map (·.params)=(u.parts.take g.1).map (·.params)++[x.params]:=by rw [List.take_add_one,bP]; simp
  have hL:((u.parts.take g.1).map (·.params)).length=g.1:=by simp; omega
  refine Ck (Et (Cs (Cb (Cs (Cr (V0 (Yo zL O O iE aw) (V0 (cM 0 KV O O O (bJ)) ?_)))))));refine Al Y O FG λb5=>?_;refine an 0 Y O O O QX O O O (Ln (Et (fo 0 (.cells (AT x xr).toArray 125 (0,0)) O O (Cr (V0 (Yf KI O) (V0 (Yd 2 O O O dA) (V0 (Yf FV O) (V0 (Yd 0 O O O aq) ?_))))))));refine Lb Y O gG O O O O λjJ=>?_;refine bH 0 (.cells (mD x.params).toArray 3 (0,0)) O (O) ?_;refine LA (x.params) 2 0 Y O gG O O O O O O (by omega) (by omega) λa21 c21=>?_;refine V0 (Yf KI O) (an 3 Y O O O lC O O O (Ln (Eb (Et (Cr (V0 (Yi O O O (by omega)) (V0 (Ym O) (LW (λ_ h=>h.fB 3 1) (Ln ?_)))))))));rw [<-hT];exact Ea ((g.1+1,(a21,c21)):Nat×(Option Addr×Nat)) (by show _-(g.1+1)<_; omega) (by show g.1+1<=_; omega) (sc O (sc O (sc O (sc O (sc O sn))))) (λ_ h=>Wd 3 h)
 have cz:g.1=u.parts.length:=by simp at ad; omega
 rw [cz,List.take_length];refine Ce (Ex (Ex (cf (Et (Cs (Cr (V0 (bA 1 O O KG O) (an 2 Y O O O KH O O O (Ln (Et (az ?_)))))))))));refine WE.S_ 2 O O O KG O λw' hw=>?_;exact ⟨g.2,O,hw.fr,hw.gv 0 O yj (λ_ _ _ _ h=>h)⟩
theorem ao0 (H HU:View) (ke k:Nat) (u:ed) (r:kz) (us:List cF) (ua:Option Addr) (uc:Nat) (w:World) (hH:Le H w) (hHU:Le HU w) (hu:kA ke k H r u) (hus:Sl pF 3 HU ua uc us) (hul:us.length<=1048576) :
   Calls Tryz.prog 83 #[.agg (eV u r).toArray,.slice ua us.length uc] w λe w'=>e = .returned (.bool (sA u us))/\Ext w w':=by
 have dQ:=hu.ae.cap;have eB:=hu.ae.max;have ao4:=hu.parts.cap;have ao5:=hu.parts.max;refine enter Tryz.func83 O 115 O O ?_;refine CE (Vs:=[H,HU]) (Ws.init (by simp [hH,hHU])) (Cs (Cr ?_));refine WL.box Y O O λb2=>?_;refine V0 (Ya O) (Ln (Et (Cs (Cr ?_))));refine WL.ss st Y O λrj=>?_;refine V0 (Yf QY O) (V0 (Yd 1 O O O df) ?_);refine WL.mu 0 jv Y jk e7 O O O O ?_;refine V0 (Ym O) (V0 (Ya O) (Ln (Et (Cs (Cs (Cr (V0 (Yf KX O) (V0 (Yd 1 O O O fh) (V0 (Yn dY O) (V0 (Ym O) (Ln (Et (Cb ?_)))))))))))));refine cU (ι:=Nat) (λi=>[(18,.int .i64 (i:Int))]) [(1,_),(2,_),(5,_),(16,_),(17,_)] (λi=>Ws w [] [ab rj (bn st (mE (u.nm::u.ae.take i) 0) (u.nm::u.ae.take i).length),ab b2 (.cells (eV u r).toArray 58 (0,0))] [H,HU]) (λi=>i<=u.ae.length/\(u.nm::u.ae.take i).Nodup/\(u.ae.take i).all dZ=true) (λi=>u.ae.length-i) 0 ⟨Nat.zero_le _,by simp,O⟩ (sc O (sc O (sc O (sc O (sc O (sc O sn)))))) (λ_ h=>h) ?_;intro i ⟨hi,rK,cg⟩;refine Cs (Cr (V0 (bq O O) (Ln (Et (Cs ?_)))));refine Cc O (λad=>?_) (λad=>?_)
 ·have aw:i<u.ae.length:=by simpa using ad
  obtain ⟨s,jr⟩:∃q,u.ae[i]? = some q:=⟨_,List.getElem?_eq_getElem aw⟩;obtain ⟨zH,pos,has,mX⟩:=hu.ae.aZ i s jr;have mX:aT H zH (pos+i*1) (d_ s):=mX;refine Ck (Et (Cs (Cb (Cs (Cr (V0 (Yo dY O O has aw) (V0 (dm 0 df O O (mX 0 _ O)) (V0 (Ya O) (Ln (Et (Cs (Cr (V0 (Ym O) (V0 (Ym O) (V0 (AI 0 jv jk e7 nZ O O O) ?_)))))))))))))));rw [aeA];refine V0 (lH O O (by split<;>omega)) ?_;refine WL.vX 0 jv Y jk e7 O O O O ?_;refine Ln (Et (Cs (Cr (V0 (Ym O) (V0 (Ym O) (V0 (AI 0 jv jk e7 nZ O O O) ?_))))));rw [A7];refine V0 (bZ O O) ?_;rw [aoU];refine V0 (Ym O) ?_;apply Lo 3 (x:=!(dZ s)) O O O O Y O O O O O
  ·intro de;refine Vg (Ym O) (Lp (.g O O O) O rb O (λw hw=>ra _ w) (Vg (eu O) ?_));exact Gt 3 O O O
  refine Ln (Et ?_);refine Cc O (λar=>?_) (λar=>?_)
  ·have KZ:(u.nm::u.ae.take i).contains s=true\/dZ s=false:=by
     have h9:=ar
     cases im:(u.nm::u.ae.take i).contains s with
     | true=>exact .inl rfl
     | false=>rw [im] at h9; exact .inr (by simpa using h9)
   refine Cs (Cr (V0 (Ya O) (Ln (Et (az (bR (Er (Er (bR (Er ?_))))))))));refine R1 O O λw' hw=>?_;exact ⟨by rw [sA,aeB jr KZ]; rfl,hw.fr⟩
  obtain ⟨im,hnb⟩:(u.nm::u.ae.take i).contains s=false/\dZ s=true:=by
    have h9:=Bool.or_eq_false_iff.1 ar;exact ⟨h9.1,by simpa using h9.2⟩
  have hT:(u.nm::u.ae.take i)++[s]=u.nm::u.ae.take (i+1):=by rw [List.take_add_one,jr]; simp
  rw [im,show ((if false=true then (1:Int) else 0)+1)=1 from rfl,(UU im).1,(UU im).2,hT]
  have FM:(u.nm::u.ae.take (i+1)).Nodup:=by
    rw [<-hT,List.nodup_append];refine ⟨rK,by simp,λa ha b hb e=>?_⟩;rw [List.mem_singleton] at hb; subst hb; subst e
    have h9:(u.nm::u.ae.take i).contains a=true:=by simpa using ha
    rw [im] at h9; cases h9
  refine Ck (Eb (Et (Cr (V0 (Yi O O O (by omega)) (V0 (Ym O) (Ln ?_))))));exact Ea (i+1) (by omega) ⟨by omega,FM,Dx jr cg hnb⟩ (sc O (sc O (sc O (sc O (sc O (sc O sn)))))) (λ_ h=>h)
 have cz:i=u.ae.length:=by simp at ad; omega
 rw [cz,List.take_length] at rK cg;refine Ce (Ex (Ex (cf (Et (Cs (Cs (Cr (V0 (Yf QY O) (V0 (Yd 1 O O O df) (Lp Y O rb O (λw hw=>ra _ w) (V0 (eu O) (V0 (Ym O) ?_))))))))))));apply Lo 4 O O O O Y O O O O O
 ·intro bK;refine Vg (Yf KX O) (Vg (Yd 1 O O O fh) (Vg (Yn dY O) (Vg (bZ O O) ?_)));exact Gt 4 O O O
 refine V0 (Ym O) ?_;apply Lo 3 O O O O Y O O O O O
 ·intro hY;refine Vg (Yf KT O) (Vg (Yd 1 O O O aq) (Vg (bq O O) ?_));exact Gt 3 O O O
 refine V0 (Ym O) ?_;apply Lo 3 O O O O Y O O O O O
 ·intro mM;refine Vg (Yf KT O) (Vg (Yd 1 O O O aq) (Vg (bZ O O) ?_));exact Gt 3 O O O
 refine V0 (Ym O) ?_;apply Lo 4 O O O O Y O O O O O
 ·intro yG;refine Vg (Yf B5 O) (Vg (Yd 1 O O O FF) (Vg (Yn zL O) (Vg (bZ O O) ?_)));exact Gt 4 O O O
 refine Ln (Et ?_);refine Cc O (λay=>?_) (λay=>?_)
 ·refine Cs (Cr (V0 (Ya O) (Ln (Et (az (Er ?_))))));refine R1 O O λw' hw=>?_;exact ⟨by rw [sA,show A5 u=true from ay]; simp,hw.fr⟩
 have hhd:A5 u=false:=ay;obtain ⟨hp6,hu3,hd0,wO⟩:=aoR hhd;refine Ck (Et (Cs ?_));obtain ⟨ys,HH,jP⟩:=aoQ hus
 have yf:ys.length=us.length:=by rw [<-HH,List.length_map]
 have hkl:∀q,([((gh u,q):XK)]++ys).length=(gh u::us).length:=λq=>by simp [yf]
 refine Cr (V0 (bA 1 O O jl O) ?_);refine Ld Y O aoW O (λq:Option Addr×Nat=>.agg ((gh u).cells q).toArray) (λF q=>Sl jd 1 F q.1 q.2 (gh u).parts) (λw hw=>aoZ H ke k u r w (hw.vs _ (by simp)) hu (by omega)) ?_;intro F63 BY avh og;refine Lb Y O QZ O O O O λb64=>?_;refine bH 0 (.cells (([(gh u,BY)]:List XK).flatMap XK.cells).toArray 152 (0,0)) O O (LW (λ_ h=>h.ou (f:=XK.cells) (xs:=[(gh u,BY)]) (c:=1) 0 O XK.a8 O (by decide)) (V0 (Ym O) ?_));refine WL.x1 (f:=XK.cells) (rd:=aau) (xs:=[((gh u,BY):XK)]) (ys:=ys) 0 (λ_=>HU) Y O QZ O (by show some (Value.slice ua us.length uc)=_; rw [<-yf]) O (λw hw=>⟨hw.vs HU (by simp),jP⟩) (λ_ _ _ _ h=>h.1) XK.a8 XK.one (by simp; omega) (by simp; omega) λxm xn=>?_;refine V0 (Yb aoY aoX O O) ?_;refine WL.box Y O O λJ4=>?_;refine bH 0 (.cells #[.slice xm (gh u::us).length xn,.int .i64 0] 187 (0,0)) O (congrArg (λn=>Obj.cells #[.slice xm n xn,.int .i64 0] 187 (0,0)) (hkl BY)) (V0 (Ya O) (Ln (Et (Cs (Cs ?_)))));refine WC.v_ (rd:=KS) 1 O XK.a8 (λ_ _ _ _ h=>h) λK hK=>?_
 have eU:∀w,Le K w->Le F63 w->Le HU w->Sl pF 3 (hv w) xm xn (gh u::us):=λw g1 g2 g3=>by
   have h9:=aav hK (mm g1) λe he=>by
     rcases List.mem_append.1 he with he | he
     · rw [List.mem_singleton] at he; subst he; exact zK.mv (mm g2) og
     · obtain ⟨q,hq⟩:=List.getElem?_of_mem he
       obtain ⟨_,_,_,_,h⟩:=jP.aZ q e hq;exact zK.mv (mm g3) h
   rw [List.map_append,HH] at h9;exact h9
 refine Cr (V0 (Yf B5 O) (V0 (Yd 2 O O O FF) (V0 (Yn zL O) (V0 (Ym O) (Ln (Et (Cb ?_)))))));refine cU (ι:=Nat×Int) (λg=>[(72,.int .i64 (g.1:Int))]) [(2,_),(8,_),(70,_),(71,_)] (λg=>Ws w [] [ab J4 (.cells #[.slice xm (gh u::us).length xn,.int .i64 g.2] 187 (0,0)),ab b2 (.cells (eV u r).toArray 58 (0,0))] [K,F63,H,HU]) (λg=>g.1<=u.parts.length/\(u.parts.take g.1).all (pG (gh u::us))=true) (λg=>u.parts.length-g.1) (0,0) ⟨Nat.zero_le _,O⟩ (sc O (sc O (sc O (sc O (sc O sn))))) (λ_ h=>(Wt 2 ((h.f 2 O).f 1 O):)) ?_;intro g ⟨tq,Q0⟩;refine Cs (Cr (V0 (bq O O) (Ln (Et (Cs ?_)))));refine Cc O (λaM=>?_) (λaM=>?_)
 ·have aw:g.1<u.parts.length:=by simpa using aM
  obtain ⟨x,bP⟩:∃q,u.parts[g.1]? = some q:=⟨_,List.getElem?_eq_getElem aw⟩;obtain ⟨hZ,h_,iE,ek⟩:=hu.parts.aZ g.1 x bP;obtain ⟨xr,bJ,gq⟩:=ek;refine Ck (Et (Cs (Cb (Cs (Cr (V0 (Yo zL O O iE aw) (V0 (cM 2 KV O O O (bJ)) ?_)))))));refine Al Y O FG λlz=>?_;refine an 0 Y O O O QX O O O (Ln (Et (Cs (Cs (fo 0 (.cells (AT x xr).toArray 125 (0,0)) O O (Cr (V0 (Yf FV O) (V0 (Yd 0 O O O aq) (V0 (bq O O) (V0 (Ym O) ?_))))))))));apply Lo 3 O O O O Y O O O O O
  ·intro pO;refine Vg (Yf FV O) (Vg (Yd 0 O O O aq) (Vg (bZ O O) ?_));exact Gt 3 O O O
  refine V0 (Ym O) ?_;apply Lo 3 O O O O Y O O O O O
  ·intro FP;refine Vg (Yf KY O) (Vg (Yd 0 O O O aq) (Vg (bq O O) ?_));exact Gt 3 O O O
  refine V0 (Ym O) ?_;apply Lo 3 O O O O Y O O O O O
  ·intro FR;refine Vg (Yf KY O) (Vg (Yd 0 O O O aq) (Vg (bZ O O) ?_));exact Gt 3 O O O
  refine Ln (Et ?_);refine Cc O (λaW=>?_) (λaW=>?_)
  ·have hx:pG (gh u::us) x=false:=aoS aW;refine Cs (Cr (V0 (Ya O) (Ln (Et (az (Er (bR (Er (Er (bR (Er ?_)))))))))));refine R1 O O λw' hw=>?_;exact ⟨by rw [sA,Dw bP hx]; simp,hw.fr⟩
  have hpx:=aoT (kn:=(gh u::us)) aW
  have zp:0<=x.params/\x.params<=3/\0<=x.locals/\x.locals<=4:=by
    simp only [Bool.or_eq_false_iff,decide_eq_false_iff_not] at aW; omega
  refine Ck (Et (Cs (Cr (V0 (Ym O) (V0 (Yf FV O) (V0 (Yd 0 O O O aq) (V0 (Yf KY O) (V0 (Yd 0 O O O aq) (V0 (lH O O (by omega)) (V0 (aO O) ?_))))))))));refine V0 (Yf QS O) (an 1 Y O O O bX O O O (Ln (Et (Cs (fo 1 (.cells #[.slice xm (gh u::us).length xn,.int .i64 (x.params+x.locals)] 187 (0,0)) O O (Cr (V0 (Ym O) (V0 (Yf aaw O) (V0 (Yd 0 O O O n9) ?_)))))))));refine Lp Y O KR O (λw hw=>aat (hv w) (hv w) J4 xm xn (gh u::us) (x.params+x.locals) H ke k x.body xr.1 xr.2 1 w (iq w) (iq w) (wb (hw.nC 1 O) O) (wb (hw.nC 1 O) O) (eU w (hw.vs _ (by simp)) (hw.vs _ (by simp)) (hw.vs _ (by simp))) (hw.vs _ (by simp)) gq (by omega)) (V0 (eu O) (Ln (Et ?_)));refine Cc O (λbl=>?_) (λbl=>?_)
  ·have hx:pG (gh u::us) x=false:=by rw [hpx]; simpa using bl
   refine Cs (Cr (V0 (Ya O) (Ln (Et (az (bR (Er (Er (bR (Er ?_))))))))));refine R1 O O λw' hw=>?_;exact ⟨by rw [sA,Dw bP hx]; simp,hw.fr⟩
  have hx:pG (gh u::us) x=true:=by rw [hpx]; simpa using bl
  refine Ck (Eb (Et (Cr (V0 (Yi O O O (by omega)) (V0 (Ym O) (Ln ?_))))));exact Ea ((g.1+1,x.params+x.locals):Nat×Int) (by show _-(g.1+1)<_; omega) ⟨(by show g.1+1<=_; omega),Dx bP Q0 hx⟩ (sc O (sc O (sc O (sc O (sc O sn))))) (λ_ h=>Wd 1 h)
 have Bt:¬g.1<u.parts.length:=by simpa using aM
 rw [List.take_of_length_le (by omega)] at Q0;refine Ce (Ex (Ex (cf (Et (Cs (Cr (V0 (Ym O) (V0 (aO O) (V0 (Yf QS O) (an 0 Y O O O bX O O O (Ln (Et (Cs (fo 0 (.cells #[.slice xm (gh u::us).length xn,.int .i64 0] 187 (0,0)) O O ?_))))))))))))));refine Cr (V0 (Ym O) (V0 (Yf QE O) (V0 (Yd 1 O O O n9) (Lp Y O KR O (λw hw=>aat (hv w) (hv w) J4 xm xn (gh u::us) 0 H ke k u.main r.s3.1 r.s3.2 1 w (iq w) (iq w) (wb (hw.nC 0 O) O) (wb (hw.nC 0 O) O) (eU w (hw.vs _ (by simp)) (hw.vs _ (by simp)) (hw.vs _ (by simp))) (hw.vs _ (by simp)) hu.main (by omega)) (V0 (Ya O) (Ln (Et (az ?_))))))));refine R1 O O λw' hw=>?_;exact ⟨by rw [sA,aeC rK cg,hhd,Q0]; rfl,hw.fr⟩
theorem aaA:dL Tryz.prog 49=some 5:=by kernel_rfl
theorem ao8:Enters Tryz.prog 83:=enters_of Tryz.func83 (by kernel_rfl) rfl
theorem l8:aX Tryz.prog 123 0=some 0:=by kernel_rfl
theorem mY:aX Tryz.prog 27 3=some 3:=by kernel_rfl
theorem gn:dI Tryz.prog 23=true:=by kernel_rfl
theorem gV:eS Tryz.prog 23 67 (.agg #[.int .i64 0,.int .i64 0,.int .i64 0]) 3 24:=gW (by kernel_rfl)
theorem K0:cq Tryz.prog 23=some 1:=by kernel_rfl
theorem ig:dL Tryz.prog 23=some 3:=by kernel_rfl
theorem FW:aX Tryz.prog 27 4=some 4:=by kernel_rfl
theorem K1:dI Tryz.prog 24=true:=by kernel_rfl
theorem ao9:eR Tryz.prog 70=some [(0,1),(1,1),(2,1)]:=by kernel_rfl
theorem K2:zeroOf Tryz.prog 70=some (.agg #[.int .i64 0,.int .i64 0,.int .i64 0]):=by kernel_rfl
theorem aaB:eS Tryz.prog 24 70 (.agg #[.int .i64 0,.int .i64 0,.int .i64 0]) 3 24:=gW (by kernel_rfl)
theorem ao':cq Tryz.prog 24=some 1:=by kernel_rfl
theorem B_:eQ Tryz.prog 67=some 3:=by kernel_rfl
theorem ko:Enters Tryz.prog 87:=enters_of Tryz.func87 (by kernel_rfl) rfl
theorem Q1:dI Tryz.prog 120=true:=by kernel_rfl
theorem f_:eR Tryz.prog 67=some [(0,1),(1,1),(2,1)]:=by kernel_rfl
theorem fk:zeroOf Tryz.prog 67=some (.agg #[.int .i64 0,.int .i64 0,.int .i64 0]):=by kernel_rfl
theorem Ca:Enters Tryz.prog 131:=enters_of Tryz.func131 (by kernel_rfl) rfl
theorem l9:aX Tryz.prog 67 1=some 1:=by kernel_rfl
theorem kq (sb:Nat) (K:gi) (t:a6) (H:View) (a:Option Addr) (c:Nat) (l:List aN) (w:World) (hl:Sl fH 3 H a c l) (hb:t.g.code.length+l.length<=1000000000010) (hw:Ws w (List.flatMap ak.ids (aS 123 67 70 sb K t)) (aS 123 67 70 sb K t) [H] w) :
   Calls Tryz.prog 87 #[.pointer (some ⟨sb,0,none⟩),.slice a l.length c] w λe w'=>∃q:SP,e = .returned (.tuple #[])/\Ws w (List.flatMap ak.ids (aS 123 67 70 sb K t)) (aS 123 67 70 sb K ⟨aK l t.g,q,t.fa⟩) [H] w':=by
 have dQ:=hl.cap;have eB:=hl.max;refine enter Tryz.func87 O 15 O O ?_;refine CE hw (Cr (V0 (Ym O) (V0 (Ym O) (V0 (aO O) (V0 (Yf l8 O) (V0 (Yf mY O) (V0 (Yd 0 O O O gn) ?_)))))));refine V0 (Ym O) ?_;refine WL.x1 (xs:=t.g.code) (ys:=l) 1 (λ_=>H) Y O gV O O O (λw hw=>⟨hw.vs H (by simp),hl⟩) (λ_ _ _ _ h=>h) aN.a8 aN.one (by omega) (by omega) λa11 c11=>?_;refine V0 (aO O) (V0 (Yf l8 O) (V0 (Yf mY O) (an 0 Y O O O K0 O O O (Ln ?_))));refine E0 O λw' hw=>?_;exact ⟨(a11,c11),O,hw⟩
theorem Cd (sb:Nat) (K:gi) (t:a6)  (i:aN) (kind m:Int) (w:World)  (hb:t.g.code.length+1<=1000000000000) (o3:t.g.fix.length+1<=1000000000000) (hw:Ws w (List.flatMap ak.ids (aS 123 67 70 sb K t)) (aS 123 67 70 sb K t) [] w) :
   Calls Tryz.prog 131 #[.pointer (some ⟨sb,0,none⟩),.agg i.cells.toArray,.int .i64 kind,.int .i64 m] w λe w'=>∃q:SP×SP,e = .returned (.int .i64 (t.g.code.length:Int))/\Ws w (List.flatMap ak.ids (aS 123 67 70 sb K t)) (aS 123 67 70 sb K ⟨au i kind m t.g,q.1,q.2⟩) [] w':=by
 refine enter Tryz.func131 O 36 O O ?_;refine CE hw (Cs (Cr ?_));refine WL.box Y O O λb5=>?_;refine V0 (Ya O) (Ln (Et (Cs (Cr (V0 (Ym O) (V0 (aO O) (V0 (Yf l8 O) (V0 (Yf mY O) (V0 (Yd 1 O O O gn) (V0 (Yn ig O) ?_))))))))));refine V0 (Ya O) (Ln (Et (Cs (Cr (V0 (Ym O) (V0 (Ym O) (V0 (aO O) (V0 (Yf l8 O) (V0 (Yf FW O) (V0 (Yd 1 O O O K1) ?_))))))))));refine V0 (Ym O) (V0 (Ym O) (V0 (Ym O) (V0 (Yb K2 ao9 O O) ?_)));refine Lb Y O aaB O O O O λvq=>?_;refine bH 0 (.cells (dS.cells ⟨(t.g.code.length:Int),kind,m⟩).toArray 70 (0,0)) O (O) ?_;refine LA ((⟨(t.g.code.length:Int),kind,m⟩:dS)) 4 0 Y O aaB O O O O O O (by omega) (by omega) λCf Cg=>?_;refine V0 (aO O) (V0 (Yf l8 O) (V0 (Yf FW O) (an 2 Y O O O ao' O O O (Ln (Et (Cs (fo 2 (sE 123 K (⟨⟨t.g.code,t.g.fix++[(⟨(t.g.code.length:Int),kind,m⟩:dS)]⟩,t.ca,(Cf,Cg)⟩:a6)) O O ?_)))))));refine sh (W':=Ws w (List.flatMap ak.ids (aS 123 67 70 sb K t)) ((aS 123 67 70 sb K (⟨⟨t.g.code,t.g.fix++[(⟨(t.g.code.length:Int),kind,m⟩:dS)]⟩,t.ca,(Cf,Cg)⟩:a6))++[ab b5 (.cells i.cells.toArray 67 (0,0))]) []) (λ_ h=>by exact (Wt 4 ((((h.f 1 O).f 4 O).f 4 O).f 4 O):)) ?_;refine Cr (V0 (Ym O) (V0 (bA 3 O O B_ O) ?_));refine Lb Y O gV O O O O λb33=>?_;refine WL.jy (rd:=fH) (f:=aN.cells) (k:=3) (m:=1) 0 [i] O O aN.a8 (λ_ _ _ _ h=>h) (by simp) (by decide) λH33 apc=>?_;refine Lw (ι:=SP) [_,_,_] _ Y O ko O O (λ_=>.tuple #[]) (λq=>(aS 123 67 70 sb K ⟨aK [i] (⟨⟨t.g.code,t.g.fix++[(⟨(t.g.code.length:Int),kind,m⟩:dS)]⟩,t.ca,(Cf,Cg)⟩:a6).g,q,(⟨⟨t.g.code,t.g.fix++[(⟨(t.g.code.length:Int),kind,m⟩:dS)]⟩,t.ca,(Cf,Cg)⟩:a6).fa⟩)) (λ_=>True) [H33] (by simp) (λw hw=>(kq sb K (⟨⟨t.g.code,t.g.fix++[(⟨(t.g.code.length:Int),kind,m⟩:dS)]⟩,t.ca,(Cf,Cg)⟩:a6) H33 (some ⟨b33,0,none⟩) 1 [i] w apc (by simp; omega) hw).mono λe w' ⟨q,h1,h2⟩=>⟨q,h1,trivial,h2⟩) ?_;intro yZ _;refine Ln (Et (Cs (Cr (V0 (Ym O) (V0 (Ya O) (Ln (Et (az ?_))))))));refine R1 O O λw' hw=>?_;exact ⟨(yZ,(Cf,Cg)),O,Wv 1 (Wt 3 hw)⟩
theorem zM (sb:Nat) (K:gi) (t:a6) (op:Int) (w:World) (hb:t.g.code.length+1<=1000000000000) (o3:t.g.fix.length+1<=1000000000000) (hw:Ws w (List.flatMap ak.ids (aS 123 67 70 sb K t)) (aS 123 67 70 sb K t) [] w) :
   Calls Tryz.prog 134 #[.pointer (some ⟨sb,0,none⟩),.int .i64 op] w λe w'=>∃q:(SP×SP)×Nat×Nat,e = .returned (.func (.func 162) #[] #[.pointer (some ⟨q.2.1,0,none⟩),.pointer (some ⟨q.2.2,0,none⟩)])/\Ws w (List.flatMap ak.ids (aS 123 67 70 sb K t)) ((aS 123 67 70 sb K ⟨au ⟨op,0,0⟩ 1 0 t.g,q.1.1,q.1.2⟩)++[ab q.2.1 (.cells #[.pointer (some ⟨sb,0,none⟩)] 120 (0,0)),ab q.2.2 (.cells #[.int .i64 (t.g.code.length:Int)] 3 (0,0))]) [] w':=by
 refine enter Tryz.func134 O 11 O O ?_;refine CE hw (Cs (Cr ?_));refine WL.box Y O O λb2=>?_;refine V0 (Ya O) (Ln (Et (Cs (Cr (V0 (Yd 0 O O O Q1) (V0 (Ym O) (V0 (Yb fk f_ O O) (Lf 3 O (Lf 3 O (Lf 3 O ?_))))))))));refine Lw (ι:=SP×SP) [_,_,_] _ Y O Ca O O (λ_=>.int .i64 (t.g.code.length:Int)) (λq=>(aS 123 67 70 sb K ⟨au ⟨op,0,0⟩ 1 0 t.g,q.1,q.2⟩)) (λ_=>True) [] (by simp) (λw hw=>(Cd sb K t  ⟨op,0,0⟩ 1 0 w  hb o3 hw).mono λe w' ⟨q,h1,h2⟩=>⟨q,h1,trivial,h2⟩) ?_;intro q9 _;refine Al Y O nZ λb5=>?_;refine an 0 Y O O O bX O O O (Ln (Et (Cs (Cr (V0 (C7 O) (V0 (Ya O) (Ln (Et (az ?_)))))))));refine R1 O O λw' hw=>?_;exact ⟨(q9,b2,b5),O,(by have h:=hw; have h:=h.ao 4 O; have h:=h.ao 4 O; have h:=h.ao 4 O; have h:=h.ao 4 O; exact h)⟩
theorem xo (sb:Nat) (K:gi) (t:a6) (p q_ n:Nat) (x:aN) (w:World) (hx:t.g.code[n]? = some x) (hw:Ws w (List.flatMap ak.ids ((aS 123 67 70 sb K t)++[ab p (.cells #[.pointer (some ⟨sb,0,none⟩)] 120 (0,0)),ab q_ (.cells #[.int .i64 (n:Int)] 3 (0,0))])) ((aS 123 67 70 sb K t)++[ab p (.cells #[.pointer (some ⟨sb,0,none⟩)] 120 (0,0)),ab q_ (.cells #[.int .i64 (n:Int)] 3 (0,0))]) [] w) :
   Calls Tryz.prog 162 #[.pointer (some ⟨p,0,none⟩),.pointer (some ⟨q_,0,none⟩)] w λe w'=>e = .returned (.tuple #[])/\Ws w (List.flatMap ak.ids ((aS 123 67 70 sb K t)++[ab p (.cells #[.pointer (some ⟨sb,0,none⟩)] 120 (0,0)),ab q_ (.cells #[.int .i64 (n:Int)] 3 (0,0))])) ((aS 123 67 70 sb K ⟨bU n t.g,t.ca,t.fa⟩)++[ab p (.cells #[.pointer (some ⟨sb,0,none⟩)] 120 (0,0)),ab q_ (.cells #[.int .i64 (n:Int)] 3 (0,0))]) [] w':=by
 have aw:=(List.getElem?_eq_some_iff.1 hx).1;refine enter Tryz.func162 O 16 O O ?_;refine CE hw ?_;refine WC.x0 1 O (by omega) λcb o4 FX xR=>?_;refine WC.nq 1 [(0,true),(1,true),(2,true),(3,true),(4,true),(5,true),(6,true),(7,true),(8,true),(9,true),(10,true),(11,true),(12,true),(13,true),(14,false)] mixed (by kernel_rfl) (λ_ _ _ d _ h=>by cases d<;>exact h) ?_;refine D0 O (Wp 1) (Yd 2 O O O Q1) (D0 O (Wp 1) (aO O) (D0 O (Wp 1) (Yf l8 O) (D0 O (Wp 1) (Yf mY O) (D0 O (Wp 1) (Yd 0 O O O gn) (D0 O (Wp 1) (Yd 3 O O O aq) (D0 O (Wp 1) (Yd 2 O O O Q1) (D0 O (Wp 1) (aO O) ?_)))))));refine D0 O (Wp 1) (Yf l8 O) (D0 O (Wp 1) (Yf mY O) (D0 O (Wp 1) (Yd 0 O O O gn) (D0 O (Wp 1) (Yn ig O) (D0 O (Wp 1) (Yo ig O O o4 aw) (D0 O (Wp 1) (Yf l9 O) ?_)))));refine De O (Wp 1) ?_;refine WL.storeT (y:=x) 1 n 1 (⟨x.op,(t.g.code.length:Int),x.b⟩:aN) Y O O O o4 O aN.a8 hx bX O O (by decide) O ?_;refine Ln (Ed ?_);refine WD.nil (Wp 1) ?_;refine E0 O λw' hw=>?_;rw [aeP hx];exact ⟨O,hw.px 0 O (show ab sb (sE 123 K t)=ab sb (sE 123 K ⟨{ t.g with code:=t.g.code.set n ⟨x.op,(t.g.code.length:Int),x.b⟩ },t.ca,t.fa⟩) by simp [sE])⟩
def FY (H:View) (sb:Nat) (K:gi) (k:Nat):Prop:=∀(x:cv) (a:Option Addr) (c:Nat) (t:a6) (w:World),Sl (jA k) 5 H a c x.args->Ba x->t.g.code.length+8*db x<=1000000000000->t.g.fix.length+8*db x<=1000000000000->
 Ws w (List.flatMap ak.ids (aS 123 67 70 sb K t)) (aS 123 67 70 sb K t) [H] w->Calls Tryz.prog 130 #[.pointer (some ⟨sb,0,none⟩),.agg (qN x a c).toArray] w λe w'=>∃q:SP×SP,e = .returned (.tuple #[])/\Ws w (List.flatMap ak.ids (aS 123 67 70 sb K t)) (aS 123 67 70 sb K ⟨ag x t.g,q.1,q.2⟩) [H] w'
theorem zN {l:List cv} {i:Nat} {x:cv} (h:l[i]? = some x):db x<=ft l:=by
 have:=A_ h; omega
theorem Q2 {l:List cv} {x y:cv} (h:l[0]? = some x) (h2:l[1]? = some y):db x+db y<=ft l:=by
 have h3:ft (l.take 1)=ft (l.take 0)+db x:=(A_ h).1;have h4:ft (l.take 2)=ft (l.take 1)+db y:=(A_ h2).1;have h5:ft (l.take 2)<=ft l:=(A_ h2).2;omega
theorem qa:Enters Tryz.prog 130:=enters_of Tryz.func130 (by kernel_rfl) rfl
theorem aaD:Enters Tryz.prog 161:=enters_of Tryz.func161 (by kernel_rfl) rfl
theorem aaE (sb:Nat) (K:gi) (t:a6) (H:View) (k:Nat) (l:List cv) (a:Option Addr) (c:Nat) (w:World) (hN:∀k2,k2<k->FY H sb K k2) (hl:Sl (jA k) 5 H a c l) (aE:Bb l) (hb:t.g.code.length+8*ft l<=1000000000000) (o3:t.g.fix.length+8*ft l<=1000000000000) (hw:Ws w (List.flatMap ak.ids (aS 123 67 70 sb K t)) (aS 123 67 70 sb K t) [H] w) :
   Calls Tryz.prog 161 #[.pointer (some ⟨sb,0,none⟩),.slice a l.length c] w λe w'=>∃q:SP×SP,e = .returned (.tuple #[])/\Ws w (List.flatMap ak.ids (aS 123 67 70 sb K t)) (aS 123 67 70 sb K ⟨ee l t.g,q.1,q.2⟩) [H] w':=by
 have dQ:=hl.cap;have eB:=hl.max;refine enter Tryz.func161 O 16 O O ?_;refine CE hw (Cs (Cr (V0 (Ym O) (V0 (Yn kT O) (V0 (Ym O) (Ln (Et (Cb ?_))))))));refine cU (ι:=Nat×SP×SP) (λg=>[(8,.int .i64 (g.1:Int))]) [(0,_),(6,_),(7,_)] (λg=>Ws w (List.flatMap ak.ids (aS 123 67 70 sb K t)) (aS 123 67 70 sb K ⟨ee (l.take g.1) t.g,g.2.1,g.2.2⟩) [H]) (λg=>g.1<=l.length) (λg=>l.length-g.1) (0,t.ca,t.fa) (Nat.zero_le _) (sc O (sc O (sc O (sc O sn)))) (λ_ h=>h) ?_;intro g tq;refine Cs (Cr (V0 (bq O O) (Ln (Et (Cs ?_)))));refine Cc O (λad=>?_) (λad=>?_)
 ·have aw:g.1<l.length:=by simpa using ad
  obtain ⟨x,bP⟩:∃q,l[g.1]? = some q:=⟨_,List.getElem?_eq_getElem aw⟩;obtain ⟨hZ,h_,iE,ek⟩:=hl.aZ g.1 x bP
  obtain ⟨k2,rfl⟩:∃k2,k=k2+1:=by
    cases k with
    | zero=>exact ek.elim
    | succ k2=>exact ⟨k2,rfl⟩
  obtain ⟨xa,xc,bJ,gq⟩:=ek;have hww:=A_ bP;have cQ:=Is (l.take g.1) t.g;have kU:=cQ.hi;have kV:=cQ.fG;refine Ck (Et (Cs (Cb (Cs (Cr (V0 (Yo kT O O iE aw) (V0 (cM 0 kj O O O (bJ)) ?_)))))));refine Al Y O Fw λb5=>?_;refine an 0 Y O O O Kd O O O (Ln (Et (fo 0 (.cells (qN x xa xc).toArray 238 (0,0)) O O (Cr (V0 (Ym O) (V0 (bA 0 O O kj O) (Lf 3 O (Lf 3 O ?_))))))));refine Lf 3 O ?_;refine Lw (ι:=SP×SP) [_,_,_] _ Y O qa O O (λ_=>.tuple #[]) (λq=>(aS 123 67 70 sb K ⟨ag x (⟨ee (l.take g.1) t.g,g.2.1,g.2.2⟩:a6).g,q.1,q.2⟩)) (λ_=>True) [H] (by simp) (λw hw=>(hN k2 (by omega) x xa xc (⟨ee (l.take g.1) t.g,g.2.1,g.2.2⟩:a6) w gq (aE.at_ bP) (by show (ee (l.take g.1) t.g).code.length+(8*db x)<=_; omega) (by show (ee (l.take g.1) t.g).fix.length+(8*db x)<=_; omega) hw).mono λe w' ⟨q,h1,h2⟩=>⟨q,h1,trivial,h2⟩) ?_;intro iR _;refine Ln (Eb (Et (Cr (V0 (Yi O O O (by omega)) (V0 (Ym O) (Ln ?_))))));rw [<-aeI bP];exact Ea ((g.1+1,iR):Nat×SP×SP) (by show _-(g.1+1)<_; omega) (by show g.1+1<=_; omega) (sc O (sc O (sc O (sc O sn)))) (λ_ h=>(Wt 3 h:))
 have cz:g.1=l.length:=by simp at ad; omega
 rw [cz,List.take_length];refine Ce (Ex (Ex (cf ?_)));refine E0 O λw' hw=>?_;exact ⟨g.2,O,hw⟩
theorem aaG (sb:Nat) (K:gi) (t:a6) (H:View) (k:Nat) (m pl:Int) (l:List cv) (a:Option Addr) (c:Nat) (w:World) (hN:∀k2,k2<k->FY H sb K k2) (hl:Sl (jA k) 5 H a c l) (aE:Bb l) (hb:t.g.code.length+8*(1+ft l)<=1000000000000) (o3:t.g.fix.length+8*(1+ft l)<=1000000000000) (hw:Ws w (List.flatMap ak.ids (aS 123 67 70 sb K t)) (aS 123 67 70 sb K t) [H] w) :
   Calls Tryz.prog 133 #[.pointer (some ⟨sb,0,none⟩),.int .i64 m,.int .i64 pl,.slice a l.length c] w λe w'=>∃q:SP×SP,e = .returned (.tuple #[])/\Ws w (List.flatMap ak.ids (aS 123 67 70 sb K t)) (aS 123 67 70 sb K ⟨au ⟨13,pl,0⟩ 2 m (ee l t.g),q.1,q.2⟩) [H] w':=by
 have cQ:=Is l t.g;have kU:=cQ.hi;have kV:=cQ.fG;refine enter Tryz.func133 O 16 O O ?_;refine CE hw (Cs (Cr (V0 (Ym O) (V0 (Ym O) ?_))));refine Lw (ι:=SP×SP) [_,_,_] _ Y O aaD O O (λ_=>.tuple #[]) (λq=>(aS 123 67 70 sb K ⟨ee l t.g,q.1,q.2⟩)) (λ_=>True) [H] (by simp) (λw hw=>(aaE sb K t H k l a c w hN hl aE (by omega) (by omega) hw).mono λe w' ⟨q,h1,h2⟩=>⟨q,h1,trivial,h2⟩) ?_;intro q10 _;refine Ln (Et (Cr (V0 (Ym O) (V0 (Ym O) (V0 (Yb fk f_ O O) (V0 (Ym O) ?_))))));refine Lw (ι:=SP×SP) [_,_,_] _ Y O Ca O O (λ_=>.int .i64 ((ee l t.g).code.length:Int)) (λq=>(aS 123 67 70 sb K ⟨au ⟨13,pl,0⟩ 2 m (ee l t.g),q.1,q.2⟩)) (λ_=>True) [] (by simp) (λw hw=>(Cd sb K (⟨ee l t.g,q10.1,q10.2⟩:a6)  ⟨13,pl,0⟩ 2 m w  (by show (ee l t.g).code.length+1<=_; omega) (by show (ee l t.g).fix.length+1<=_; omega) hw).mono λe w' ⟨q,h1,h2⟩=>⟨q,h1,trivial,h2⟩) ?_;intro zj _;refine Ln ?_;refine E0 O λw' hw=>?_;exact ⟨zj,O,hw⟩
theorem aaI (sb:Nat) (K:gi) (t:a6) (H:View) (k:Nat) (m pl n:Int) (x:cv) (a:Option Addr) (c:Nat) (w:World) (hN:FY H sb K k) (hl:Sl (jA k) 5 H a c x.args) (aE:Ba x) (hb:t.g.code.length+(8*db x+1)<=1000000000000) (o3:t.g.fix.length+(8*db x+1)<=1000000000000) (hw:Ws w (List.flatMap ak.ids (aS 123 67 70 sb K t)) (aS 123 67 70 sb K t) [H] w) :
   Calls Tryz.prog 132 #[.pointer (some ⟨sb,0,none⟩),.int .i64 m,.int .i64 pl,.int .i64 n,.agg (qN x a c).toArray] w λe w'=>∃q:SP×SP,e = .returned (.tuple #[])/\Ws w (List.flatMap ak.ids (aS 123 67 70 sb K t)) (aS 123 67 70 sb K ⟨au ⟨6,pl,n⟩ 3 m (ag x t.g),q.1,q.2⟩) [H] w':=by
 have cQ:=lU x t.g;have kU:=cQ.hi;have kV:=cQ.fG;refine enter Tryz.func132 O 19 O O ?_;refine CE hw (Cs (Cr ?_));refine WL.box Y O O λb9=>?_;refine Ln (Et (Cs (Cr (V0 (Ym O) (V0 (bA 0 O O kj O) (Lf 3 O (Lf 3 O (Lf 3 O ?_))))))));refine Lw (ι:=SP×SP) [_,_,_] _ Y O qa O O (λ_=>.tuple #[]) (λq=>(aS 123 67 70 sb K ⟨ag x t.g,q.1,q.2⟩)) (λ_=>True) [H] (by simp) (λw hw=>(hN x a c t w hl aE (by show (t.g).code.length+(8*db x)<=_; omega) (by show (t.g).fix.length+(8*db x)<=_; omega) hw).mono λe w' ⟨q,h1,h2⟩=>⟨q,h1,trivial,h2⟩) ?_;intro eh _;refine Ln (Et (Cr (V0 (Ym O) (V0 (Ym O) (V0 (Ym O) (V0 (Yb fk f_ O O) (V0 (Ym O) ?_)))))));refine Lw (ι:=SP×SP) [_,_,_] _ Y O Ca O O (λ_=>.int .i64 ((ag x t.g).code.length:Int)) (λq=>(aS 123 67 70 sb K ⟨au ⟨6,pl,n⟩ 3 m (ag x t.g),q.1,q.2⟩)) (λ_=>True) [] (by simp) (λw hw=>(Cd sb K (⟨ag x t.g,eh.1,eh.2⟩:a6)  ⟨6,pl,n⟩ 3 m w  (by show (ag x t.g).code.length+1<=_; omega) (by show (ag x t.g).fix.length+1<=_; omega) hw).mono λe w' ⟨q,h1,h2⟩=>⟨q,h1,trivial,h2⟩) ?_;intro zd _;refine Ln ?_;refine E0 O λw' hw=>?_;exact ⟨zd,O,Wt 3 hw⟩
theorem aaJ:Enters Tryz.prog 132:=enters_of Tryz.func132 (by kernel_rfl) rfl
theorem aaK:Enters Tryz.prog 133:=enters_of Tryz.func133 (by kernel_rfl) rfl
theorem zO:Enters Tryz.prog 134:=enters_of Tryz.func134 (by kernel_rfl) rfl
theorem xq:Enters Tryz.prog 162:=enters_of Tryz.func162 (by kernel_rfl) rfl
theorem apd (sb:Nat) (K:gi) (t:a6) (H:View) (k:Nat) (x:cv) (a:Option Addr) (c:Nat) (w:World) (hl:Sl (jA k) 5 H a c x.args) (aE:Ba x) (hb:t.g.code.length+8*db x<=1000000000000) (o3:t.g.fix.length+8*db x<=1000000000000) (hw:Ws w (List.flatMap ak.ids (aS 123 67 70 sb K t)) (aS 123 67 70 sb K t) [H] w) :
   Calls Tryz.prog 130 #[.pointer (some ⟨sb,0,none⟩),.agg (qN x a c).toArray] w λe w'=>∃q:SP×SP,e = .returned (.tuple #[])/\Ws w (List.flatMap ak.ids (aS 123 67 70 sb K t)) (aS 123 67 70 sb K ⟨ag x t.g,q.1,q.2⟩) [H] w':=by
 induction k using Nat.strongRecOn generalizing x a c t w
 rename_i k ih;have hN:∀k2,k2<k->FY H sb K k2:=λk2 h x a c t w h1 h2 h3 h4 h5=>ih k2 h t x a c w h1 h2 h3 h4 h5;have dQ:=hl.cap;have eB:=hl.max;have ZL:=aeM x;refine enter Tryz.func130 O 143 O O ?_;refine CE hw (Cs (Cr ?_));refine WL.box Y O O λb3=>?_;refine Ln (Et (Cs (Cr (V0 (Yf ti O) (V0 (Yd 0 O O O aq) (Ln (Et (Cb (Cs (Cr (V0 (aG O O) (V0 (Ya O) (Ln (Et ?_))))))))))))));refine Cc O (λad=>?_) (λad=>?_)
 ·have ho:x.op=1:=by simpa using ad
  refine Cr (V0 (Ym O) (V0 (Yf n0 O) (V0 (Yd 0 O O O aq) (V0 (Yb fk f_ O O) ?_))));refine Lb Y O gV O O O O λYU=>?_;refine WL.jy (rd:=fH) (f:=aN.cells) (k:=3) (m:=1) 0 [⟨1,x.n,0⟩] O O aN.a8 (λ_ _ _ _ h=>h) (by simp) (by decide) λH32 ape=>?_;refine Lf 3 O (Lf 3 O (Lf 3 O ?_));refine Lw (ι:=SP) [_,_,_] _ Y O ko O O (λ_=>.tuple #[]) (λq=>(aS 123 67 70 sb K ⟨aK [⟨1,x.n,0⟩] t.g,q,t.fa⟩)) (λ_=>True) [H32] (by simp) (λw hw=>(kq sb K t H32 (some ⟨YU,0,none⟩) 1 [⟨1,x.n,0⟩] w ape (by show (t.g).code.length+[⟨1,x.n,0⟩].length<=_; (try simp only [bE]); omega) hw).mono λe w' ⟨q,h1,h2⟩=>⟨q,h1,trivial,h2⟩) ?_;intro jI _;refine Ln (Eb ?_);refine E0 O λw' hw=>?_
  have hr:ag x t.g=aK [⟨1,x.n,0⟩] t.g:=by
    rw [sD,oF,if_pos ho]
  rw [hr];exact ⟨(jI,t.fa),O,Wv 1 (Wt 3 hw)⟩
 have gT:¬x.op=1:=by simpa using ad
 refine Cs (Cr (V0 (aG O O) (V0 (Ya O) (Ln (Et ?_)))));refine Cc O (λar=>?_) (λar=>?_)
 ·have ho:x.op=2:=by simpa using ar
  refine Cr (V0 (Ym O) (V0 (Yb fk f_ O O) ?_));refine Lb Y O gV O O O O λvd=>?_;refine WL.jy (rd:=fH) (f:=aN.cells) (k:=3) (m:=1) 0 [⟨18,0,0⟩] O O aN.a8 (λ_ _ _ _ h=>h) (by simp) (by decide) λE7 Pr=>?_;refine Lf 3 O (Lf 3 O (Lf 3 O ?_));refine Lw (ι:=SP) [_,_,_] _ Y O ko O O (λ_=>.tuple #[]) (λq=>(aS 123 67 70 sb K ⟨aK [⟨18,0,0⟩] t.g,q,t.fa⟩)) (λ_=>True) [E7] (by simp) (λw hw=>(kq sb K t E7 (some ⟨vd,0,none⟩) 1 [⟨18,0,0⟩] w Pr (by show (t.g).code.length+[⟨18,0,0⟩].length<=_; (try simp only [bE]); omega) hw).mono λe w' ⟨q,h1,h2⟩=>⟨q,h1,trivial,h2⟩) ?_;intro nV _;refine Ln (Eb ?_);refine E0 O λw' hw=>?_
  have hr:ag x t.g=aK [⟨18,0,0⟩] t.g:=by
    rw [sD,oF,if_neg gT,if_pos ho]
  rw [hr];exact ⟨(nV,t.fa),O,Wv 1 (Wt 3 hw)⟩
 have fw:¬x.op=2:=by simpa using ar
 refine Cs (Cr (V0 (aG O O) (V0 (Ya O) (Ln (Et ?_)))));refine Cc O (λay=>?_) (λay=>?_)
 ·have ho:x.op=16:=by simpa using ay
  refine Cr (V0 (Ym O) (V0 (Yf l7 O) (V0 (Yd 0 O O O aq) (V0 (Yb fk f_ O O) ?_))));refine Lb Y O gV O O O O λb46=>?_;refine WL.jy (rd:=fH) (f:=aN.cells) (k:=3) (m:=1) 0 [⟨2,x.pl,0⟩] O O aN.a8 (λ_ _ _ _ h=>h) (by simp) (by decide) λH46 apg=>?_;refine Lf 3 O (Lf 3 O (Lf 3 O ?_));refine Lw (ι:=SP) [_,_,_] _ Y O ko O O (λ_=>.tuple #[]) (λq=>(aS 123 67 70 sb K ⟨aK [⟨2,x.pl,0⟩] t.g,q,t.fa⟩)) (λ_=>True) [H46] (by simp) (λw hw=>(kq sb K t H46 (some ⟨b46,0,none⟩) 1 [⟨2,x.pl,0⟩] w apg (by show (t.g).code.length+[⟨2,x.pl,0⟩].length<=_; (try simp only [bE]); omega) hw).mono λe w' ⟨q,h1,h2⟩=>⟨q,h1,trivial,h2⟩) ?_;intro ie _;refine Ln (Eb ?_);refine E0 O λw' hw=>?_
  have hr:ag x t.g=aK [⟨2,x.pl,0⟩] t.g:=by
    rw [sD,oF,if_neg gT,if_neg fw,if_pos ho]
  rw [hr];exact ⟨(ie,t.fa),O,Wv 1 (Wt 3 hw)⟩
 have gE:¬x.op=16:=by simpa using ay
 refine Cs (Cr (V0 (aG O O) (V0 (Ya O) (Ln (Et ?_)))));refine Cc O (λaM=>?_) (λaM=>?_)
 ·have ho:x.op=3:=by simpa using aM
  refine Cr (V0 (Ym O) (V0 (Yf l7 O) (V0 (Yd 0 O O O aq) (V0 (Yb fk f_ O O) (V0 (Yf n5 O) (V0 (Yd 0 O O O aq) (Lf 3 O ?_)))))));refine Lf 3 O (Lf 3 O ?_);refine Lw (ι:=SP×SP) [_,_,_] _ Y O Ca O O (λ_=>.int .i64 (t.g.code.length:Int)) (λq=>(aS 123 67 70 sb K ⟨au ⟨4,x.pl,0⟩ 3 x.m t.g,q.1,q.2⟩)) (λ_=>True) [] (by simp) (λw hw=>(Cd sb K t  ⟨4,x.pl,0⟩ 3 x.m w  (by omega) (by omega) hw).mono λe w' ⟨q,h1,h2⟩=>⟨q,h1,trivial,h2⟩) ?_;intro q56 _;refine Ln (Eb ?_);refine E0 O λw' hw=>?_
  have hr:ag x t.g=au ⟨4,x.pl,0⟩ 3 x.m t.g:=by
    rw [sD,oF,if_neg gT,if_neg fw,if_neg gE,if_pos ho]
  rw [hr];exact ⟨(q56.1,q56.2),O,Wt 3 hw⟩
 have iB:¬x.op=3:=by simpa using aM
 refine Cs (Cr (V0 (aG O O) (V0 (Ya O) (Ln (Et ?_)))));refine Cc O (λaW=>?_) (λaW=>?_)
 ·have ho:x.op=4:=by simpa using aW
  refine Cs ?_;have wL:=aE.args.2.1 (by omega);obtain ⟨y,bC⟩:∃y,x.args[0]? = some y:=⟨_,List.getElem?_eq_getElem (by omega)⟩;obtain ⟨jY,jZ,fg,cY⟩:=hl.aZ 0 y bC
  obtain ⟨k2,rfl⟩:∃k2,k=k2+1:=by
    cases k with
    | zero=>exact cY.elim
    | succ k2=>exact ⟨k2,rfl⟩
  obtain ⟨ya,yc,lD,lE⟩:=cY;have jL:=hN k2 (by omega);have lF:=aE.args.1.at_ bC;have cQ:=lU y t.g;have kU:=cQ.hi;have kV:=cQ.fG;have xv:=cQ.lo;have Ch:=zN bC;refine CU (λ_=>true) [1,1,1] [] (.q false 0 (.q false 1 (.q true 2 (.q false 3 (.q true 4 (.q false 5 (.q true 6 (.q false 7 (.q true 8 (.q false 9 (.q true 10 (.e 11 .nil .stop)))))))))))) mixed (by kernel_rfl) (λ_ _ _ d _ _ h=>by cases d<;>exact h) ?_;refine U0 O (bk [1,1,1]) (Ym O) (U0 O (bk [1,1,1]) (Yf n5 O) (U0 O (bk [1,1,1]) (Yd 0 O O O aq) (U0 O (bk [1,1,1]) (Yf l7 O) (U0 O (bk [1,1,1]) (Yd 0 O O O aq) (U0 O (bk [1,1,1]) (Yf n0 O) (U0 O (bk [1,1,1]) (Yd 0 O O O aq) (U0 O (bk [1,1,1]) (Yf tj O) ?_)))))));refine U0 O (bk [1,1,1]) (Yd 0 O O O km) (U0 O (bk [1,1,1]) (Yo (i:=0) kT O O fg (by omega)) (U0 O (bk [1,1,1]) (cM 0 kj O O O (lD)) ?_));refine Ue O (bk [1,1,1]) ?_ WU.stop;refine Lf 3 O (Lf 3 O (Lf 3 O ?_));refine Lw (ι:=SP×SP) [_,_,_] _ Y O aaJ O O (λ_=>.tuple #[]) (λq=>(aS 123 67 70 sb K ⟨au ⟨6,x.pl,x.n⟩ 3 x.m (ag y t.g),q.1,q.2⟩)) (λ_=>True) [H] (by simp) (λw hw=>(aaI sb K t H k2 x.m x.pl x.n y ya yc w jL lE lF (by omega) (by omega) hw).mono λe w' ⟨q,h1,h2⟩=>⟨q,h1,trivial,h2⟩) ?_;intro zP _;refine Ln (Eu ?_);refine WU.nil (λ_ h=>(Wo 1 (Wo 1 (Wo 1 (h.f 3 O))):)) ?_;refine WS.nil ?_;refine Et (Cr (V0 (Ym O) (V0 (Yb fk f_ O O) ?_)));refine Lb Y O gV O O O O λb73=>?_;refine WL.jy (rd:=fH) (f:=aN.cells) (k:=3) (m:=1) 0 [⟨7,0,0⟩] O O aN.a8 (λ_ _ _ _ h=>h) (by simp) (by decide) λH73 api=>?_;refine Lw (ι:=SP) [_,_,_] _ Y O ko O O (λ_=>.tuple #[]) (λq=>(aS 123 67 70 sb K ⟨aK [⟨7,0,0⟩] (⟨(au ⟨6,x.pl,x.n⟩ 3 x.m (ag y t.g)),zP.1,zP.2⟩:a6).g,q,(⟨(au ⟨6,x.pl,x.n⟩ 3 x.m (ag y t.g)),zP.1,zP.2⟩:a6).fa⟩)) (λ_=>True) [H73] (by simp) (λw hw=>(kq sb K (⟨(au ⟨6,x.pl,x.n⟩ 3 x.m (ag y t.g)),zP.1,zP.2⟩:a6) H73 (some ⟨b73,0,none⟩) 1 [⟨7,0,0⟩] w api (by show ((au ⟨6,x.pl,x.n⟩ 3 x.m (ag y t.g))).code.length+[⟨7,0,0⟩].length<=_; (try simp only [bE]); omega) hw).mono λe w' ⟨q,h1,h2⟩=>⟨q,h1,trivial,h2⟩) ?_;intro zb _;refine Ln (Eb ?_);refine E0 O λw' hw=>?_
  have hr:ag x t.g=aK [⟨7,0,0⟩] (au ⟨6,x.pl,x.n⟩ 3 x.m (ag y t.g)):=by
    rw [sD,oF,if_neg gT,if_neg fw,if_neg gE,if_neg iB,if_pos ho];rw [nH bC]
  rw [hr];exact ⟨(zb,zP.2),O,Wv 1 (Wt 3 hw)⟩
 have lB:¬x.op=4:=by simpa using aW
 refine Cs (Cr (V0 (aG O O) (V0 (Ya O) (Ln (Et ?_)))));refine Cc O (λbl=>?_) (λbl=>?_)
 ·have ho:x.op=5:=by simpa using bl
  refine Cr (V0 (Ym O) (V0 (Yf n5 O) (V0 (Yd 0 O O O aq) (V0 (Yf l7 O) (V0 (Yd 0 O O O aq) (V0 (Yf tj O) (V0 (Yd 0 O O O km) ?_)))))));refine Lf 3 O (Lf 3 O (Lf 3 O ?_));refine Lw (ι:=SP×SP) [_,_,_] _ Y O aaK O O (λ_=>.tuple #[]) (λq=>(aS 123 67 70 sb K ⟨au ⟨13,x.pl,0⟩ 2 x.m (ee x.args t.g),q.1,q.2⟩)) (λ_=>True) [H] (by simp) (λw hw=>(aaG sb K t H k x.m x.pl x.args a c w hN hl aE.args.1 (by omega) (by omega) hw).mono λe w' ⟨q,h1,h2⟩=>⟨q,h1,trivial,h2⟩) ?_;intro q84 _;refine Ln (Eb ?_);refine E0 O λw' hw=>?_
  have hr:ag x t.g=au ⟨13,x.pl,0⟩ 2 x.m (ee x.args t.g):=by
    rw [sD,oF,if_neg gT,if_neg fw,if_neg gE,if_neg iB,if_neg lB,if_pos ho];rw [DH]
  rw [hr];exact ⟨(q84.1,q84.2),O,Wt 3 hw⟩
 have p_:¬x.op=5:=by simpa using bl
 refine Cs (Cs (Cr (V0 (aG O O) (V0 (Ya O) (Ln (Et ?_))))));refine Cc O (λbt=>?_) (λbt=>?_)
 ·have ho:x.op=7:=by simpa using bt
  refine Ck (Et ?_);refine Cc O (λbQ=>?_) (λbQ=>?_)
  ·refine Cs ?_;have K3:=aE.args.2.2.1 (by omega);obtain ⟨y,bC⟩:∃y,x.args[0]? = some y:=⟨_,List.getElem?_eq_getElem (by omega)⟩;obtain ⟨jY,jZ,fg,cY⟩:=hl.aZ 0 y bC;obtain ⟨z,kO⟩:∃y,x.args[1]? = some y:=⟨_,List.getElem?_eq_getElem (by omega)⟩;obtain ⟨Oj,Ok,yI,wI⟩:=hl.aZ 1 z kO
   obtain ⟨k2,rfl⟩:∃k2,k=k2+1:=by
     cases k with
     | zero=>exact cY.elim
     | succ k2=>exact ⟨k2,rfl⟩
   obtain ⟨ya,yc,lD,lE⟩:=cY;have jL:=hN k2 (by omega);have lF:=aE.args.1.at_ bC;have cQ:=lU y t.g;have kU:=cQ.hi;have kV:=cQ.fG;have xv:=cQ.lo;obtain ⟨za,zc,FZ,F0⟩:=wI;have F1:=aE.args.1.at_ kO;have hw2:=Q2 bC kO;have rQ:=lU z (au ⟨12,0,0⟩ 1 0 (ag y t.g));have uf:=rQ.hi;have yg:=rQ.fG;have F2:=rQ.lo;have zQ:=lU z (bU ((ag y t.g).code.length) (au ⟨11,0,0⟩ 1 0 (aK [⟨1,1,0⟩] (au ⟨12,0,0⟩ 1 0 (ag y t.g)))));have Q3:=zQ.hi;have Q4:=zQ.fG;have Q5:=zQ.lo;simp only [bE] at uf yg F2 Q3 Q4 Q5;refine Cr (V0 (Ym O) (V0 (Yf tj O) (V0 (Yd 0 O O O km) (V0 (Yo (i:=0) kT O O fg (by omega)) (V0 (cM 0 kj O O O (lD)) (Lf 3 O (Lf 3 O ?_)))))));refine Lf 3 O ?_;refine Lw (ι:=SP×SP) [_,_,_] _ Y O qa O O (λ_=>.tuple #[]) (λq=>(aS 123 67 70 sb K ⟨ag y t.g,q.1,q.2⟩)) (λ_=>True) [H] (by simp) (λw hw=>(jL y ya yc t w lE lF (by show (t.g).code.length+8*db y<=_; (try simp only [bE]); omega) (by show (t.g).fix.length+8*db y<=_; (try simp only [bE]); omega) hw).mono λe w' ⟨q,h1,h2⟩=>⟨q,h1,trivial,h2⟩) ?_;intro F3 _;refine Ln (Et (Cs (Cr (V0 (Ym O) ?_))));refine Lw (ι:=(SP×SP)×Nat×Nat) [_,_,_] _ Y O zO O O (λq=>.func (.func 162) #[] #[.pointer (some ⟨q.2.1,0,none⟩),.pointer (some ⟨q.2.2,0,none⟩)]) (λq=>(aS 123 67 70 sb K ⟨au ⟨12,0,0⟩ 1 0 (ag y t.g),q.1.1,q.1.2⟩)++[ab q.2.1 (.cells #[.pointer (some ⟨sb,0,none⟩)] 120 (0,0)),ab q.2.2 (.cells #[.int .i64 ((ag y t.g).code.length:Int)] 3 (0,0))]) (λ_=>True) [] (by simp) (λw hw=>(zM sb K (⟨(ag y t.g),F3.1,F3.2⟩:a6) 12 w (by show ((ag y t.g)).code.length+1<=_; (try simp only [bE]); omega) (by show ((ag y t.g)).fix.length+1<=_; (try simp only [bE]); omega) hw).mono λe w' ⟨q,h1,h2⟩=>⟨q,h1,trivial,h2⟩) ?_;intro kW _;refine V0 (Ya O) (Ln (Et (Cs (Cs (Cr (V0 (Yf ti O) (V0 (Yd 5 O O O aq) (V0 (aG O O) (Ln (Et ?_))))))))));refine Cc O (λcL=>?_) (λcL=>?_)
   ·exact absurd cL (by rw [ho]; decide)
   refine Ck (Et (Cs (Cs (Cr (V0 (Yf ti O) (V0 (Yd 5 O O O aq) (V0 (aG O O) (Ln (Et ?_)))))))));refine Cc O (λdk=>?_) (λdk=>?_)
   ·exact absurd dk (by rw [ho]; decide)
   refine Ck (Et (Cs (Cr (V0 (Ym O) (V0 (Yf tj O) (V0 (Yd 5 O O O km) (V0 (Yo (i:=1) kT O O yI (by omega)) (V0 (cM 0 kj O O O (FZ)) ?_))))))));refine Lw (ι:=SP×SP) [_,_,_] _ Y O qa O O (λ_=>.tuple #[]) (λq=>(aS 123 67 70 sb K ⟨ag z (au ⟨12,0,0⟩ 1 0 (ag y t.g)),q.1,q.2⟩)) (λ_=>True) [H] (by simp) (λw hw=>(jL z za zc (⟨(au ⟨12,0,0⟩ 1 0 (ag y t.g)),kW.1.1,kW.1.2⟩:a6) w F0 F1 (by show ((au ⟨12,0,0⟩ 1 0 (ag y t.g))).code.length+8*db z<=_; (try simp only [bE]); omega) (by show ((au ⟨12,0,0⟩ 1 0 (ag y t.g))).fix.length+8*db z<=_; (try simp only [bE]); omega) hw).mono λe w' ⟨q,h1,h2⟩=>⟨q,h1,trivial,h2⟩) ?_;intro l_ _;refine Ln (Et (Cs (Cr (V0 (Ym O) (V0 (Yb fk f_ O O) ?_)))));refine Lb Y O gV O O O O λapj=>?_;refine WL.jy (rd:=fH) (f:=aN.cells) (k:=3) (m:=1) 0 [⟨22,0,0⟩] O O aN.a8 (λ_ _ _ _ h=>h) (by simp) (by decide) λaaR apk=>?_;refine Lw (ι:=SP) [_,_,_] _ Y O ko O O (λ_=>.tuple #[]) (λq=>(aS 123 67 70 sb K ⟨aK [⟨22,0,0⟩] (⟨(ag z (au ⟨12,0,0⟩ 1 0 (ag y t.g))),l_.1,l_.2⟩:a6).g,q,(⟨(ag z (au ⟨12,0,0⟩ 1 0 (ag y t.g))),l_.1,l_.2⟩:a6).fa⟩)) (λ_=>True) [aaR] (by simp) (λw hw=>(kq sb K (⟨(ag z (au ⟨12,0,0⟩ 1 0 (ag y t.g))),l_.1,l_.2⟩:a6) aaR (some ⟨apj,0,none⟩) 1 [⟨22,0,0⟩] w apk (by show ((ag z (au ⟨12,0,0⟩ 1 0 (ag y t.g)))).code.length+[⟨22,0,0⟩].length<=_; (try simp only [bE]); omega) hw).mono λe w' ⟨q,h1,h2⟩=>⟨q,h1,trivial,h2⟩) ?_;intro apl _;refine Ln (Et (Cs (Cr (V0 (Ym O) ?_))));refine Lw (ι:=(SP×SP)×Nat×Nat) [_,_,_] _ Y O zO O O (λq=>.func (.func 162) #[] #[.pointer (some ⟨q.2.1,0,none⟩),.pointer (some ⟨q.2.2,0,none⟩)]) (λq=>(aS 123 67 70 sb K ⟨au ⟨11,0,0⟩ 1 0 (aK [⟨22,0,0⟩] (ag z (au ⟨12,0,0⟩ 1 0 (ag y t.g)))),q.1.1,q.1.2⟩)++[ab q.2.1 (.cells #[.pointer (some ⟨sb,0,none⟩)] 120 (0,0)),ab q.2.2 (.cells #[.int .i64 ((aK [⟨22,0,0⟩] (ag z (au ⟨12,0,0⟩ 1 0 (ag y t.g)))).code.length:Int)] 3 (0,0))]) (λ_=>True) [] (by simp) (λw hw=>(zM sb K (⟨(aK [⟨22,0,0⟩] (ag z (au ⟨12,0,0⟩ 1 0 (ag y t.g)))),apl,l_.2⟩:a6) 11 w (by show ((aK [⟨22,0,0⟩] (ag z (au ⟨12,0,0⟩ 1 0 (ag y t.g))))).code.length+1<=_; (try simp only [bE]); omega) (by show ((aK [⟨22,0,0⟩] (ag z (au ⟨12,0,0⟩ 1 0 (ag y t.g))))).fix.length+1<=_; (try simp only [bE]); omega) hw).mono λe w' ⟨q,h1,h2⟩=>⟨q,h1,trivial,h2⟩) ?_;intro jM _;refine V0 (Ya O) (Ln (Et (Cs (Cr (V0 (Ym O) (Lf 6 O (Lf 6 O (Lf 4 O (Lf 4 O (Lf 4 O ?_))))))))));refine WL.wv (ι:=Unit) [_,_,_,_,_] _ Y O xq O O O (λ_=>.tuple #[]) (λ_=>(aS 123 67 70 sb K ⟨bU ((ag y t.g).code.length) (au ⟨11,0,0⟩ 1 0 (aK [⟨22,0,0⟩] (ag z (au ⟨12,0,0⟩ 1 0 (ag y t.g))))),(⟨(au ⟨11,0,0⟩ 1 0 (aK [⟨22,0,0⟩] (ag z (au ⟨12,0,0⟩ 1 0 (ag y t.g))))),jM.1.1,jM.1.2⟩:a6).ca,(⟨(au ⟨11,0,0⟩ 1 0 (aK [⟨22,0,0⟩] (ag z (au ⟨12,0,0⟩ 1 0 (ag y t.g))))),jM.1.1,jM.1.2⟩:a6).fa⟩)++[ab kW.2.1 (.cells #[.pointer (some ⟨sb,0,none⟩)] 120 (0,0)),ab kW.2.2 (.cells #[.int .i64 ((ag y t.g).code.length:Int)] 3 (0,0))]) (λ_=>True) [] (by simp) (λw hw=>(xo sb K (⟨(au ⟨11,0,0⟩ 1 0 (aK [⟨22,0,0⟩] (ag z (au ⟨12,0,0⟩ 1 0 (ag y t.g))))),jM.1.1,jM.1.2⟩:a6) kW.2.1 kW.2.2 ((ag y t.g).code.length) _ w (List.getElem?_eq_getElem (by show (ag y t.g).code.length<((au ⟨11,0,0⟩ 1 0 (aK [⟨22,0,0⟩] (ag z (au ⟨12,0,0⟩ 1 0 (ag y t.g)))))).code.length; (try simp only [bE]); omega)) hw).mono λe w' h=>⟨(),h.1,trivial,h.2⟩) ?_
   intro _ _;refine Ln (Et (Cs (Cr (V0 (Ym O) (V0 (Yb fk f_ O O) ?_)))));refine Lb Y O gV O O O O λapm=>?_;refine WL.jy (rd:=fH) (f:=aN.cells) (k:=3) (m:=1) 0 [⟨1,0,0⟩] O O aN.a8 (λ_ _ _ _ h=>h) (by simp) (by decide) λaaS apn=>?_;refine Lw (ι:=SP) [_,_,_] _ Y O ko O O (λ_=>.tuple #[]) (λq=>(aS 123 67 70 sb K ⟨aK [⟨1,0,0⟩] (⟨(bU ((ag y t.g).code.length) (au ⟨11,0,0⟩ 1 0 (aK [⟨22,0,0⟩] (ag z (au ⟨12,0,0⟩ 1 0 (ag y t.g)))))),jM.1.1,jM.1.2⟩:a6).g,q,(⟨(bU ((ag y t.g).code.length) (au ⟨11,0,0⟩ 1 0 (aK [⟨22,0,0⟩] (ag z (au ⟨12,0,0⟩ 1 0 (ag y t.g)))))),jM.1.1,jM.1.2⟩:a6).fa⟩)) (λ_=>True) [aaS] (by simp) (λw hw=>(kq sb K (⟨(bU ((ag y t.g).code.length) (au ⟨11,0,0⟩ 1 0 (aK [⟨22,0,0⟩] (ag z (au ⟨12,0,0⟩ 1 0 (ag y t.g)))))),jM.1.1,jM.1.2⟩:a6) aaS (some ⟨apm,0,none⟩) 1 [⟨1,0,0⟩] w apn (by show ((bU ((ag y t.g).code.length) (au ⟨11,0,0⟩ 1 0 (aK [⟨22,0,0⟩] (ag z (au ⟨12,0,0⟩ 1 0 (ag y t.g))))))).code.length+[⟨1,0,0⟩].length<=_; (try simp only [bE]); omega) hw).mono λe w' ⟨q,h1,h2⟩=>⟨q,h1,trivial,h2⟩) ?_;intro K4 _;refine Ln (Et (Cr (V0 (Ym O) (Lf 6 O (Lf 6 O (Lf 4 O (Lf 4 O (Lf 4 O ?_))))))));refine WL.wv (ι:=Unit) [_,_,_,_,_] _ Y O xq O O O (λ_=>.tuple #[]) (λ_=>(aS 123 67 70 sb K ⟨bU ((aK [⟨22,0,0⟩] (ag z (au ⟨12,0,0⟩ 1 0 (ag y t.g)))).code.length) (aK [⟨1,0,0⟩] (bU ((ag y t.g).code.length) (au ⟨11,0,0⟩ 1 0 (aK [⟨22,0,0⟩] (ag z (au ⟨12,0,0⟩ 1 0 (ag y t.g))))))),(⟨(aK [⟨1,0,0⟩] (bU ((ag y t.g).code.length) (au ⟨11,0,0⟩ 1 0 (aK [⟨22,0,0⟩] (ag z (au ⟨12,0,0⟩ 1 0 (ag y t.g))))))),K4,jM.1.2⟩:a6).ca,(⟨(aK [⟨1,0,0⟩] (bU ((ag y t.g).code.length) (au ⟨11,0,0⟩ 1 0 (aK [⟨22,0,0⟩] (ag z (au ⟨12,0,0⟩ 1 0 (ag y t.g))))))),K4,jM.1.2⟩:a6).fa⟩)++[ab jM.2.1 (.cells #[.pointer (some ⟨sb,0,none⟩)] 120 (0,0)),ab jM.2.2 (.cells #[.int .i64 ((aK [⟨22,0,0⟩] (ag z (au ⟨12,0,0⟩ 1 0 (ag y t.g)))).code.length:Int)] 3 (0,0))]) (λ_=>True) [] (by simp) (λw hw=>(xo sb K (⟨(aK [⟨1,0,0⟩] (bU ((ag y t.g).code.length) (au ⟨11,0,0⟩ 1 0 (aK [⟨22,0,0⟩] (ag z (au ⟨12,0,0⟩ 1 0 (ag y t.g))))))),K4,jM.1.2⟩:a6) jM.2.1 jM.2.2 ((aK [⟨22,0,0⟩] (ag z (au ⟨12,0,0⟩ 1 0 (ag y t.g)))).code.length) _ w (List.getElem?_eq_getElem (by show (aK [⟨22,0,0⟩] (ag z (au ⟨12,0,0⟩ 1 0 (ag y t.g)))).code.length<((aK [⟨1,0,0⟩] (bU ((ag y t.g).code.length) (au ⟨11,0,0⟩ 1 0 (aK [⟨22,0,0⟩] (ag z (au ⟨12,0,0⟩ 1 0 (ag y t.g)))))))).code.length; (try simp only [bE]); omega)) hw).mono λe w' h=>⟨(),h.1,trivial,h.2⟩) ?_;intro _ _;refine Ln (Eb ?_);refine E0 O λw' hw=>?_
   have hr:ag x t.g=(bU ((aK [⟨22,0,0⟩] (ag z (au ⟨12,0,0⟩ 1 0 (ag y t.g)))).code.length) (aK [⟨1,0,0⟩] (bU ((ag y t.g).code.length) (au ⟨11,0,0⟩ 1 0 (aK [⟨22,0,0⟩] (ag z (au ⟨12,0,0⟩ 1 0 (ag y t.g)))))))):=by
     rw [sD,oF,if_neg gT,if_neg fw,if_neg gE,if_neg iB,if_neg lB,if_neg p_,if_pos ho];unfold Nr;rw [nH bC,nH kO]
   rw [hr];exact ⟨(K4,jM.1.2),O,Wv 2 (Wt 3 hw)⟩
  rw [bt] at bQ; cases bQ
 have xl:¬x.op=7:=by simpa using bt
 refine Cr (V0 (aG O O) (V0 (Ya O) (Ln (Et ?_))));refine Cc O (λbQ=>?_) (λbQ=>?_)
 ·have ho:x.op=8:=by simpa using bQ
  refine Cs ?_;have K3:=aE.args.2.2.1 (by omega);obtain ⟨y,bC⟩:∃y,x.args[0]? = some y:=⟨_,List.getElem?_eq_getElem (by omega)⟩;obtain ⟨jY,jZ,fg,cY⟩:=hl.aZ 0 y bC;obtain ⟨z,kO⟩:∃y,x.args[1]? = some y:=⟨_,List.getElem?_eq_getElem (by omega)⟩;obtain ⟨Oj,Ok,yI,wI⟩:=hl.aZ 1 z kO
  obtain ⟨k2,rfl⟩:∃k2,k=k2+1:=by
    cases k with
    | zero=>exact cY.elim
    | succ k2=>exact ⟨k2,rfl⟩
  obtain ⟨ya,yc,lD,lE⟩:=cY;have jL:=hN k2 (by omega);have lF:=aE.args.1.at_ bC;have cQ:=lU y t.g;have kU:=cQ.hi;have kV:=cQ.fG;have xv:=cQ.lo;obtain ⟨za,zc,FZ,F0⟩:=wI;have F1:=aE.args.1.at_ kO;have hw2:=Q2 bC kO;have rQ:=lU z (au ⟨12,0,0⟩ 1 0 (ag y t.g));have uf:=rQ.hi;have yg:=rQ.fG;have F2:=rQ.lo;have zQ:=lU z (bU ((ag y t.g).code.length) (au ⟨11,0,0⟩ 1 0 (aK [⟨1,1,0⟩] (au ⟨12,0,0⟩ 1 0 (ag y t.g)))));have Q3:=zQ.hi;have Q4:=zQ.fG;have Q5:=zQ.lo;simp only [bE] at uf yg F2 Q3 Q4 Q5;refine Cr (V0 (Ym O) (V0 (Yf tj O) (V0 (Yd 0 O O O km) (V0 (Yo (i:=0) kT O O fg (by omega)) (V0 (cM 0 kj O O O (lD)) (Lf 3 O (Lf 3 O ?_)))))));refine Lf 3 O ?_;refine Lw (ι:=SP×SP) [_,_,_] _ Y O qa O O (λ_=>.tuple #[]) (λq=>(aS 123 67 70 sb K ⟨ag y t.g,q.1,q.2⟩)) (λ_=>True) [H] (by simp) (λw hw=>(jL y ya yc t w lE lF (by show (t.g).code.length+8*db y<=_; (try simp only [bE]); omega) (by show (t.g).fix.length+8*db y<=_; (try simp only [bE]); omega) hw).mono λe w' ⟨q,h1,h2⟩=>⟨q,h1,trivial,h2⟩) ?_;intro F3 _;refine Ln (Et (Cs (Cr (V0 (Ym O) ?_))));refine Lw (ι:=(SP×SP)×Nat×Nat) [_,_,_] _ Y O zO O O (λq=>.func (.func 162) #[] #[.pointer (some ⟨q.2.1,0,none⟩),.pointer (some ⟨q.2.2,0,none⟩)]) (λq=>(aS 123 67 70 sb K ⟨au ⟨12,0,0⟩ 1 0 (ag y t.g),q.1.1,q.1.2⟩)++[ab q.2.1 (.cells #[.pointer (some ⟨sb,0,none⟩)] 120 (0,0)),ab q.2.2 (.cells #[.int .i64 ((ag y t.g).code.length:Int)] 3 (0,0))]) (λ_=>True) [] (by simp) (λw hw=>(zM sb K (⟨(ag y t.g),F3.1,F3.2⟩:a6) 12 w (by show ((ag y t.g)).code.length+1<=_; (try simp only [bE]); omega) (by show ((ag y t.g)).fix.length+1<=_; (try simp only [bE]); omega) hw).mono λe w' ⟨q,h1,h2⟩=>⟨q,h1,trivial,h2⟩) ?_;intro kW _;refine V0 (Ya O) (Ln (Et (Cs (Cs (Cr (V0 (Yf ti O) (V0 (Yd 5 O O O aq) (V0 (aG O O) (Ln (Et ?_))))))))));refine Cc O (λcL=>?_) (λcL=>?_)
  ·refine Cs (Cr (V0 (Ym O) (V0 (Yb fk f_ O O) ?_)));refine Lb Y O gV O O O O λp3=>?_;refine WL.jy (rd:=fH) (f:=aN.cells) (k:=3) (m:=1) 0 [⟨1,1,0⟩] O O aN.a8 (λ_ _ _ _ h=>h) (by simp) (by decide) λjG oR=>?_;refine Lw (ι:=SP) [_,_,_] _ Y O ko O O (λ_=>.tuple #[]) (λq=>(aS 123 67 70 sb K ⟨aK [⟨1,1,0⟩] (⟨(au ⟨12,0,0⟩ 1 0 (ag y t.g)),kW.1.1,kW.1.2⟩:a6).g,q,(⟨(au ⟨12,0,0⟩ 1 0 (ag y t.g)),kW.1.1,kW.1.2⟩:a6).fa⟩)) (λ_=>True) [jG] (by simp) (λw hw=>(kq sb K (⟨(au ⟨12,0,0⟩ 1 0 (ag y t.g)),kW.1.1,kW.1.2⟩:a6) jG (some ⟨p3,0,none⟩) 1 [⟨1,1,0⟩] w oR (by show ((au ⟨12,0,0⟩ 1 0 (ag y t.g))).code.length+[⟨1,1,0⟩].length<=_; (try simp only [bE]); omega) hw).mono λe w' ⟨q,h1,h2⟩=>⟨q,h1,trivial,h2⟩) ?_;intro oS _;refine Ln (Et (Cs (Cr (V0 (Ym O) ?_))));refine Lw (ι:=(SP×SP)×Nat×Nat) [_,_,_] _ Y O zO O O (λq=>.func (.func 162) #[] #[.pointer (some ⟨q.2.1,0,none⟩),.pointer (some ⟨q.2.2,0,none⟩)]) (λq=>(aS 123 67 70 sb K ⟨au ⟨11,0,0⟩ 1 0 (aK [⟨1,1,0⟩] (au ⟨12,0,0⟩ 1 0 (ag y t.g))),q.1.1,q.1.2⟩)++[ab q.2.1 (.cells #[.pointer (some ⟨sb,0,none⟩)] 120 (0,0)),ab q.2.2 (.cells #[.int .i64 ((aK [⟨1,1,0⟩] (au ⟨12,0,0⟩ 1 0 (ag y t.g))).code.length:Int)] 3 (0,0))]) (λ_=>True) [] (by simp) (λw hw=>(zM sb K (⟨(aK [⟨1,1,0⟩] (au ⟨12,0,0⟩ 1 0 (ag y t.g))),oS,kW.1.2⟩:a6) 11 w (by show ((aK [⟨1,1,0⟩] (au ⟨12,0,0⟩ 1 0 (ag y t.g)))).code.length+1<=_; (try simp only [bE]); omega) (by show ((aK [⟨1,1,0⟩] (au ⟨12,0,0⟩ 1 0 (ag y t.g)))).fix.length+1<=_; (try simp only [bE]); omega) hw).mono λe w' ⟨q,h1,h2⟩=>⟨q,h1,trivial,h2⟩) ?_;intro qc _;refine V0 (Ya O) (Ln (Et (Cs (Cr (V0 (Ym O) (Lf 6 O (Lf 6 O (Lf 4 O (Lf 4 O (Lf 4 O ?_))))))))));refine WL.wv (ι:=Unit) [_,_,_,_,_] _ Y O xq O O O (λ_=>.tuple #[]) (λ_=>(aS 123 67 70 sb K ⟨bU ((ag y t.g).code.length) (au ⟨11,0,0⟩ 1 0 (aK [⟨1,1,0⟩] (au ⟨12,0,0⟩ 1 0 (ag y t.g)))),(⟨(au ⟨11,0,0⟩ 1 0 (aK [⟨1,1,0⟩] (au ⟨12,0,0⟩ 1 0 (ag y t.g)))),qc.1.1,qc.1.2⟩:a6).ca,(⟨(au ⟨11,0,0⟩ 1 0 (aK [⟨1,1,0⟩] (au ⟨12,0,0⟩ 1 0 (ag y t.g)))),qc.1.1,qc.1.2⟩:a6).fa⟩)++[ab kW.2.1 (.cells #[.pointer (some ⟨sb,0,none⟩)] 120 (0,0)),ab kW.2.2 (.cells #[.int .i64 ((ag y t.g).code.length:Int)] 3 (0,0))]) (λ_=>True) [] (by simp) (λw hw=>(xo sb K (⟨(au ⟨11,0,0⟩ 1 0 (aK [⟨1,1,0⟩] (au ⟨12,0,0⟩ 1 0 (ag y t.g)))),qc.1.1,qc.1.2⟩:a6) kW.2.1 kW.2.2 ((ag y t.g).code.length) _ w (List.getElem?_eq_getElem (by show (ag y t.g).code.length<((au ⟨11,0,0⟩ 1 0 (aK [⟨1,1,0⟩] (au ⟨12,0,0⟩ 1 0 (ag y t.g))))).code.length; (try simp only [bE]); omega)) hw).mono λe w' h=>⟨(),h.1,trivial,h.2⟩) ?_;intro _ _;refine Ln (Et (Cr (V0 (Ym O) (V0 (Ya O) (Ln (Et (Cs (Cs (Cr (V0 (Yf ti O) (V0 (Yd 7 O O O aq) (V0 (aG O O) (Ln (Et ?_))))))))))))));refine Cc O (λdk=>?_) (λdk=>?_)
   ·refine Cs (Cr (V0 (Ym O) (V0 (Yf tj O) (V0 (Yd 7 O O O km) (V0 (Yo (i:=1) kT O O yI (by omega)) (V0 (cM 1 kj O O O (FZ)) ?_))))));refine Lw (ι:=SP×SP) [_,_,_] _ Y O qa O O (λ_=>.tuple #[]) (λq=>(aS 123 67 70 sb K ⟨ag z (bU ((ag y t.g).code.length) (au ⟨11,0,0⟩ 1 0 (aK [⟨1,1,0⟩] (au ⟨12,0,0⟩ 1 0 (ag y t.g))))),q.1,q.2⟩)) (λ_=>True) [H] (by simp) (λw hw=>(jL z za zc (⟨(bU ((ag y t.g).code.length) (au ⟨11,0,0⟩ 1 0 (aK [⟨1,1,0⟩] (au ⟨12,0,0⟩ 1 0 (ag y t.g))))),qc.1.1,qc.1.2⟩:a6) w F0 F1 (by show ((bU ((ag y t.g).code.length) (au ⟨11,0,0⟩ 1 0 (aK [⟨1,1,0⟩] (au ⟨12,0,0⟩ 1 0 (ag y t.g)))))).code.length+8*db z<=_; (try simp only [bE]); omega) (by show ((bU ((ag y t.g).code.length) (au ⟨11,0,0⟩ 1 0 (aK [⟨1,1,0⟩] (au ⟨12,0,0⟩ 1 0 (ag y t.g)))))).fix.length+8*db z<=_; (try simp only [bE]); omega) hw).mono λe w' ⟨q,h1,h2⟩=>⟨q,h1,trivial,h2⟩) ?_;intro iX _;refine Ln (Et (Cs (Cr (V0 (Ym O) (V0 (Yb fk f_ O O) ?_)))));refine Lb Y O gV O O O O λQ6=>?_;refine WL.jy (rd:=fH) (f:=aN.cells) (k:=3) (m:=1) 0 [⟨22,0,0⟩] O O aN.a8 (λ_ _ _ _ h=>h) (by simp) (by decide) λF4 Q7=>?_;refine Lw (ι:=SP) [_,_,_] _ Y O ko O O (λ_=>.tuple #[]) (λq=>(aS 123 67 70 sb K ⟨aK [⟨22,0,0⟩] (⟨(ag z (bU ((ag y t.g).code.length) (au ⟨11,0,0⟩ 1 0 (aK [⟨1,1,0⟩] (au ⟨12,0,0⟩ 1 0 (ag y t.g)))))),iX.1,iX.2⟩:a6).g,q,(⟨(ag z (bU ((ag y t.g).code.length) (au ⟨11,0,0⟩ 1 0 (aK [⟨1,1,0⟩] (au ⟨12,0,0⟩ 1 0 (ag y t.g)))))),iX.1,iX.2⟩:a6).fa⟩)) (λ_=>True) [F4] (by simp) (λw hw=>(kq sb K (⟨(ag z (bU ((ag y t.g).code.length) (au ⟨11,0,0⟩ 1 0 (aK [⟨1,1,0⟩] (au ⟨12,0,0⟩ 1 0 (ag y t.g)))))),iX.1,iX.2⟩:a6) F4 (some ⟨Q6,0,none⟩) 1 [⟨22,0,0⟩] w Q7 (by show ((ag z (bU ((ag y t.g).code.length) (au ⟨11,0,0⟩ 1 0 (aK [⟨1,1,0⟩] (au ⟨12,0,0⟩ 1 0 (ag y t.g))))))).code.length+[⟨22,0,0⟩].length<=_; (try simp only [bE]); omega) hw).mono λe w' ⟨q,h1,h2⟩=>⟨q,h1,trivial,h2⟩) ?_;intro Cj _;refine Ln (Et (Cs (Cr (V0 (Ym O) (Lf 6 O (Lf 6 O (Lf 4 O (Lf 4 O (Lf 4 O ?_)))))))));refine WL.wv (ι:=Unit) [_,_,_,_,_] _ Y O xq O O O (λ_=>.tuple #[]) (λ_=>(aS 123 67 70 sb K ⟨bU ((aK [⟨1,1,0⟩] (au ⟨12,0,0⟩ 1 0 (ag y t.g))).code.length) (aK [⟨22,0,0⟩] (ag z (bU ((ag y t.g).code.length) (au ⟨11,0,0⟩ 1 0 (aK [⟨1,1,0⟩] (au ⟨12,0,0⟩ 1 0 (ag y t.g))))))),(⟨(aK [⟨22,0,0⟩] (ag z (bU ((ag y t.g).code.length) (au ⟨11,0,0⟩ 1 0 (aK [⟨1,1,0⟩] (au ⟨12,0,0⟩ 1 0 (ag y t.g))))))),Cj,iX.2⟩:a6).ca,(⟨(aK [⟨22,0,0⟩] (ag z (bU ((ag y t.g).code.length) (au ⟨11,0,0⟩ 1 0 (aK [⟨1,1,0⟩] (au ⟨12,0,0⟩ 1 0 (ag y t.g))))))),Cj,iX.2⟩:a6).fa⟩)++[ab qc.2.1 (.cells #[.pointer (some ⟨sb,0,none⟩)] 120 (0,0)),ab qc.2.2 (.cells #[.int .i64 ((aK [⟨1,1,0⟩] (au ⟨12,0,0⟩ 1 0 (ag y t.g))).code.length:Int)] 3 (0,0))]) (λ_=>True) [] (by simp) (λw hw=>(xo sb K (⟨(aK [⟨22,0,0⟩] (ag z (bU ((ag y t.g).code.length) (au ⟨11,0,0⟩ 1 0 (aK [⟨1,1,0⟩] (au ⟨12,0,0⟩ 1 0 (ag y t.g))))))),Cj,iX.2⟩:a6) qc.2.1 qc.2.2 ((aK [⟨1,1,0⟩] (au ⟨12,0,0⟩ 1 0 (ag y t.g))).code.length) _ w (List.getElem?_eq_getElem (by show (aK [⟨1,1,0⟩] (au ⟨12,0,0⟩ 1 0 (ag y t.g))).code.length<((aK [⟨22,0,0⟩] (ag z (bU ((ag y t.g).code.length) (au ⟨11,0,0⟩ 1 0 (aK [⟨1,1,0⟩] (au ⟨12,0,0⟩ 1 0 (ag y t.g)))))))).code.length; (try simp only [bE]); omega)) hw).mono λe w' h=>⟨(),h.1,trivial,h.2⟩) ?_
    intro _ _;refine Ln (Et (az (Er (bR ?_))));refine WE.L8 O λw' hw=>?_
    have hr:ag x t.g=(bU ((aK [⟨1,1,0⟩] (au ⟨12,0,0⟩ 1 0 (ag y t.g))).code.length) (aK [⟨22,0,0⟩] (ag z (bU ((ag y t.g).code.length) (au ⟨11,0,0⟩ 1 0 (aK [⟨1,1,0⟩] (au ⟨12,0,0⟩ 1 0 (ag y t.g)))))))):=by
      rw [sD,oF,if_neg gT,if_neg fw,if_neg gE,if_neg iB,if_neg lB,if_neg p_,if_neg xl,if_pos ho];unfold Nt;rw [nH bC,nH kO]
    rw [hr];exact ⟨(Cj,iX.2),O,Wv 2 (Wt 3 hw)⟩
   exact absurd dk (by rw [ho]; decide)
  exact absurd cL (by rw [ho]; decide)
 have BE:¬x.op=8:=by simpa using bQ
 refine Cs ?_;have cQ:=Is x.args t.g;have kU:=cQ.hi;have kV:=cQ.fG;refine Cr (V0 (Ym O) (V0 (Yf tj O) (V0 (Yd 0 O O O km) (Lf 3 O (Lf 3 O (Lf 3 O ?_))))));refine Lw (ι:=SP×SP) [_,_,_] _ Y O aaD O O (λ_=>.tuple #[]) (λq=>(aS 123 67 70 sb K ⟨ee x.args t.g,q.1,q.2⟩)) (λ_=>True) [H] (by simp) (λw hw=>(aaE sb K t H k x.args a c w hN hl aE.args.1 (by omega) (by omega) hw).mono λe w' ⟨q,h1,h2⟩=>⟨q,h1,trivial,h2⟩) ?_;intro eh _;refine Ln (Et (Cs (Cr (V0 (Yf ti O) (V0 (Yd 3 O O O aq) (V0 (aG O O) (Ln (Et ?_))))))));refine Cc O (λe8=>?_) (λe8=>?_)
 ·have ho:x.op=6:=by simpa using e8
  refine Cr (V0 (Ym O) (V0 (Yb fk f_ O O) ?_));refine Lb Y O gV O O O O λrC=>?_;refine WL.jy (rd:=fH) (f:=aN.cells) (k:=3) (m:=1) 0 [⟨9,0,0⟩] O O aN.a8 (λ_ _ _ _ h=>h) (by simp) (by decide) λxf E3=>?_;refine Lw (ι:=SP) [_,_,_] _ Y O ko O O (λ_=>.tuple #[]) (λq=>(aS 123 67 70 sb K ⟨aK [⟨9,0,0⟩] (⟨(ee x.args t.g),eh.1,eh.2⟩:a6).g,q,(⟨(ee x.args t.g),eh.1,eh.2⟩:a6).fa⟩)) (λ_=>True) [xf] (by simp) (λw hw=>(kq sb K (⟨(ee x.args t.g),eh.1,eh.2⟩:a6) xf (some ⟨rC,0,none⟩) 1 [⟨9,0,0⟩] w E3 (by show ((ee x.args t.g)).code.length+[⟨9,0,0⟩].length<=_; (try simp only [bE]); omega) hw).mono λe w' ⟨q,h1,h2⟩=>⟨q,h1,trivial,h2⟩) ?_;intro jF _;refine Ln (Eb ?_);refine E0 O λw' hw=>?_
  have hr:ag x t.g=aK [⟨9,0,0⟩] (ee x.args t.g):=by
    rw [sD,oF,if_neg gT,if_neg fw,if_neg gE,if_neg iB,if_neg lB,if_neg p_,if_neg xl,if_neg BE,if_pos ho];rw [DH]
  rw [hr];exact ⟨(jF,eh.2),O,Wv 1 (Wt 3 hw)⟩
 have n8:¬x.op=6:=by simpa using e8
 refine Cr (V0 (Ym O) (V0 (Yf ti O) (V0 (Yd 3 O O O aq) (V0 (Yb fk f_ O O) ?_))));refine Lb Y O gV O O O O λEB=>?_;refine WL.jy (rd:=fH) (f:=aN.cells) (k:=3) (m:=1) 0 [⟨10,x.op,0⟩] O O aN.a8 (λ_ _ _ _ h=>h) (by simp) (by decide) λBI EC=>?_;refine Lw (ι:=SP) [_,_,_] _ Y O ko O O (λ_=>.tuple #[]) (λq=>(aS 123 67 70 sb K ⟨aK [⟨10,x.op,0⟩] (⟨(ee x.args t.g),eh.1,eh.2⟩:a6).g,q,(⟨(ee x.args t.g),eh.1,eh.2⟩:a6).fa⟩)) (λ_=>True) [BI] (by simp) (λw hw=>(kq sb K (⟨(ee x.args t.g),eh.1,eh.2⟩:a6) BI (some ⟨EB,0,none⟩) 1 [⟨10,x.op,0⟩] w EC (by show ((ee x.args t.g)).code.length+[⟨10,x.op,0⟩].length<=_; (try simp only [bE]); omega) hw).mono λe w' ⟨q,h1,h2⟩=>⟨q,h1,trivial,h2⟩) ?_;intro yW _;refine Ln (Eb ?_);refine E0 O λw' hw=>?_
 have hr:ag x t.g=aK [⟨10,x.op,0⟩] (ee x.args t.g):=by
   rw [sD,oF,if_neg gT,if_neg fw,if_neg gE,if_neg iB,if_neg lB,if_neg p_,if_neg xl,if_neg BE,if_neg n8,DH]
 rw [hr];exact ⟨(yW,eh.2),O,Wv 1 (Wt 3 hw)⟩
def aaT (H:View) (sb:Nat) (K:gi) (ke k:Nat):Prop:=∀(l:List ck) (a:Option Addr) (c:Nat) (t:a6) (w:World),Sl (gZ ke k) 7 H a c l->sF l->t.g.code.length+8*dR l<=1000000000000->t.g.fix.length+8*dR l<=1000000000000->
 Ws w (List.flatMap ak.ids (aS 123 67 70 sb K t)) (aS 123 67 70 sb K t) [H] w->Calls Tryz.prog 88 #[.pointer (some ⟨sb,0,none⟩),.slice a l.length c] w λe w'=>∃q:SP×SP,e = .returned (.tuple #[])/\Ws w (List.flatMap ak.ids (aS 123 67 70 sb K t)) (aS 123 67 70 sb K ⟨bx l t.g,q.1,q.2⟩) [H] w'
theorem K5:Enters Tryz.prog 88:=enters_of Tryz.func88 (by kernel_rfl) rfl
theorem apo:Enters Tryz.prog 108:=enters_of Tryz.func108 (by kernel_rfl) rfl
theorem apq (sb:Nat) (K:gi) (t:a6) (H:View) (ke k:Nat) (x:ck) (r:yh) (w:World) (hA:aaT H sb K ke k) (h1:Sl (jA ke) 5 H r.s1.1 r.s1.2 x.args) (h2:Sl (gZ ke k) 7 H r.s2.1 r.s2.2 x.body) (h3:Sl (gZ ke k) 7 H r.s3.1 r.s3.2 x.other) (aE:It x) (hb:t.g.code.length+8*qQ x<=1000000000000) (o3:t.g.fix.length+8*qQ x<=1000000000000) (hw:Ws w (List.flatMap ak.ids (aS 123 67 70 sb K t)) (aS 123 67 70 sb K t) [H] w) :
   Calls Tryz.prog 108 #[.pointer (some ⟨sb,0,none⟩),.agg (um x r).toArray] w λe w'=>∃q:SP×SP,e = .returned (.tuple #[])/\Ws w (List.flatMap ak.ids (aS 123 67 70 sb K t)) (aS 123 67 70 sb K ⟨lf x t.g,q.1,q.2⟩) [H] w':=by
 have hN:∀k2,FY H sb K k2:=λk2 x a c t w h1 h2 h3 h4 h5=>apd sb K t H k2 x a c w h1 h2 h3 h4 h5;have dQ:=h1.cap;have eB:=h1.max;have avj:=h3.cap;have avk:=h3.max;have ZL:=aeN x;refine enter Tryz.func108 O 155 O O ?_;refine CE hw (Cs (Cr ?_));refine WL.box Y O O λb3=>?_;refine Ln (Et (Cs (Cr (V0 (Yf KQ O) (V0 (Yd 0 O O O aq) (Ln (Et (Cb (Cs (Cr (V0 (aG O O) (V0 (Ya O) (Ln (Et ?_))))))))))))));refine Cc O (λad=>?_) (λad=>?_)
 ·have ho:x.op=1:=by simpa using ad
  refine Cs ?_;have wL:=aE.parts.2.2.2.1 (by omega);obtain ⟨y,bC⟩:∃y,x.args[0]? = some y:=⟨_,List.getElem?_eq_getElem (by omega)⟩;obtain ⟨jY,jZ,fg,cY⟩:=h1.aZ 0 y bC
  obtain ⟨k2,rfl⟩:∃k2,ke=k2+1:=by
    cases ke with
    | zero=>exact cY.elim
    | succ k2=>exact ⟨k2,rfl⟩
  obtain ⟨ya,yc,lD,lE⟩:=cY;have jL:=hN k2;have lF:=aE.parts.1.at_ bC;have Ch:=zN bC;have cQ:=lU y t.g;have kU:=cQ.hi;have kV:=cQ.fG;have xv:=cQ.lo;refine Cr (V0 (Ym O) (V0 (Yf rL O) (V0 (Yd 0 O O O km) (V0 (Yo (i:=0) kT O O fg (by omega)) (V0 (cM 0 kj O O O (lD)) (Lf 3 O (Lf 3 O ?_)))))));refine Lf 3 O ?_;refine Lw (ι:=SP×SP) [_,_,_] _ Y O qa O O (λ_=>.tuple #[]) (λq=>(aS 123 67 70 sb K ⟨ag y t.g,q.1,q.2⟩)) (λ_=>True) [H] (by simp) (λw hw=>(jL y ya yc t w lE lF (by show (t.g).code.length+8*db y<=_; (try simp only [bE]); omega) (by show (t.g).fix.length+8*db y<=_; (try simp only [bE]); omega) hw).mono λe w' ⟨q,h1,h2⟩=>⟨q,h1,trivial,h2⟩) ?_;intro kh _;refine Ln (Et (Cs (Cr (V0 (Yf oX O) (V0 (Yd 3 O O O aq) (V0 (bq O O) (Ln (Et ?_))))))));refine Cc O (λar=>?_) (λar=>?_)
  ·have hm:x.m<0:=by simpa using ar
   refine Cr (V0 (Ym O) (V0 (Yf p7 O) (V0 (Yd 3 O O O aq) (V0 (Yb fk f_ O O) ?_))));refine Lb Y O gV O O O O λYT=>?_;refine WL.jy (rd:=fH) (f:=aN.cells) (k:=3) (m:=1) 0 [⟨3,x.pl,0⟩] O O aN.a8 (λ_ _ _ _ h=>h) (by simp) (by decide) λH25 apr=>?_;refine Lw (ι:=SP) [_,_,_] _ Y O ko O O (λ_=>.tuple #[]) (λq=>(aS 123 67 70 sb K ⟨aK [⟨3,x.pl,0⟩] (⟨(ag y t.g),kh.1,kh.2⟩:a6).g,q,(⟨(ag y t.g),kh.1,kh.2⟩:a6).fa⟩)) (λ_=>True) [H25] (by simp) (λw hw=>(kq sb K (⟨(ag y t.g),kh.1,kh.2⟩:a6) H25 (some ⟨YT,0,none⟩) 1 [⟨3,x.pl,0⟩] w apr (by show ((ag y t.g)).code.length+[⟨3,x.pl,0⟩].length<=_; (try simp only [bE]); omega) hw).mono λe w' ⟨q,h1,h2⟩=>⟨q,h1,trivial,h2⟩) ?_;intro jH _;refine Ln (Eb ?_);refine E0 O λw' hw=>?_
   have hr:lf x t.g=aK [⟨3,x.pl,0⟩] (ag y t.g):=by
     rw [uw,pH,if_pos ho,if_pos hm,nH bC]
   rw [hr];exact ⟨(jH,kh.2),O,Wv 1 (Wt 3 hw)⟩
  have hm:¬x.m<0:=by simpa using ar
  refine Cr (V0 (Ym O) (V0 (Yf p7 O) (V0 (Yd 3 O O O aq) (V0 (Yb fk f_ O O) (V0 (Yf oX O) (V0 (Yd 3 O O O aq) ?_))))));refine Lw (ι:=SP×SP) [_,_,_] _ Y O Ca O O (λ_=>.int .i64 ((ag y t.g).code.length:Int)) (λq=>(aS 123 67 70 sb K ⟨au ⟨5,x.pl,0⟩ 3 x.m (ag y t.g),q.1,q.2⟩)) (λ_=>True) [] (by simp) (λw hw=>(Cd sb K (⟨(ag y t.g),kh.1,kh.2⟩:a6)  ⟨5,x.pl,0⟩ 3 x.m w  (by show ((ag y t.g)).code.length+1<=_; (try simp only [bE]); omega) (by show ((ag y t.g)).fix.length+1<=_; (try simp only [bE]); omega) hw).mono λe w' ⟨q,h1,h2⟩=>⟨q,h1,trivial,h2⟩) ?_;intro jI _;refine Ln (Eb ?_);refine E0 O λw' hw=>?_
  have hr:lf x t.g=au ⟨5,x.pl,0⟩ 3 x.m (ag y t.g):=by
    rw [uw,pH,if_pos ho,if_neg hm,nH bC]
  rw [hr];exact ⟨(jI.1,jI.2),O,Wt 3 hw⟩
 have fw:¬x.op=1:=by simpa using ad
 refine Cs (Cr (V0 (aG O O) (V0 (Ya O) (Ln (Et ?_)))));refine Cc O (λay=>?_) (λay=>?_)
 ·have ho:x.op=2:=by simpa using ay
  refine Cs ?_;have K3:=aE.parts.2.2.2.2.1 (by omega);obtain ⟨y,bC⟩:∃y,x.args[0]? = some y:=⟨_,List.getElem?_eq_getElem (by omega)⟩;obtain ⟨jY,jZ,fg,cY⟩:=h1.aZ 0 y bC;obtain ⟨z,kO⟩:∃y,x.args[1]? = some y:=⟨_,List.getElem?_eq_getElem (by omega)⟩;obtain ⟨Oj,Ok,yI,wI⟩:=h1.aZ 1 z kO
  obtain ⟨k2,rfl⟩:∃k2,ke=k2+1:=by
    cases ke with
    | zero=>exact cY.elim
    | succ k2=>exact ⟨k2,rfl⟩
  obtain ⟨ya,yc,lD,lE⟩:=cY;have jL:=hN k2;have lF:=aE.parts.1.at_ bC;have Ch:=zN bC;have cQ:=lU y t.g;have kU:=cQ.hi;have kV:=cQ.fG;have xv:=cQ.lo;obtain ⟨za,zc,FZ,F0⟩:=wI;have F1:=aE.parts.1.at_ kO;have hw2:=Q2 bC kO;have rQ:=lU z (au ⟨6,x.pl,x.n⟩ 3 x.m (ag y t.g));have uf:=rQ.hi;have yg:=rQ.fG;have F2:=rQ.lo
  try simp only [bE] at uf yg F2
  refine CU (λ_=>true) [1,1,1] [] (.q false 0 (.q false 1 (.q true 2 (.q false 3 (.q true 4 (.q false 5 (.q true 6 (.q false 7 (.q true 8 (.q false 9 (.q true 10 (.e 11 .nil .stop)))))))))))) mixed (by kernel_rfl) (λ_ _ _ d _ _ h=>by cases d<;>exact h) ?_;refine U0 O (bk [1,1,1]) (Ym O) (U0 O (bk [1,1,1]) (Yf oX O) (U0 O (bk [1,1,1]) (Yd 0 O O O aq) (U0 O (bk [1,1,1]) (Yf p7 O) (U0 O (bk [1,1,1]) (Yd 0 O O O aq) (U0 O (bk [1,1,1]) (Yf zC O) (U0 O (bk [1,1,1]) (Yd 0 O O O aq) (U0 O (bk [1,1,1]) (Yf rL O) ?_)))))));refine U0 O (bk [1,1,1]) (Yd 0 O O O km) (U0 O (bk [1,1,1]) (Yo (i:=0) kT O O fg (by omega)) (U0 O (bk [1,1,1]) (cM 0 kj O O O (lD)) ?_));refine Ue O (bk [1,1,1]) ?_ WU.stop;refine Lf 3 O (Lf 3 O (Lf 3 O ?_));refine Lw (ι:=SP×SP) [_,_,_] _ Y O aaJ O O (λ_=>.tuple #[]) (λq=>(aS 123 67 70 sb K ⟨au ⟨6,x.pl,x.n⟩ 3 x.m (ag y t.g),q.1,q.2⟩)) (λ_=>True) [H] (by simp) (λw hw=>(aaI sb K t H k2 x.m x.pl x.n y ya yc w jL lE lF (by omega) (by omega) hw).mono λe w' ⟨q,h1,h2⟩=>⟨q,h1,trivial,h2⟩) ?_;intro ie _;refine Ln (Eu ?_);refine WU.nil (λ_ h=>(Wo 1 (Wo 1 (Wo 1 (h.f 3 O))):)) ?_;refine WS.nil ?_;refine Et (Cs (Cr (V0 (Ym O) (V0 (Yf rL O) (V0 (Yd 3 O O O km) (V0 (Yo (i:=1) kT O O yI (by omega)) (V0 (cM 0 kj O O O (FZ)) ?_)))))));refine Lw (ι:=SP×SP) [_,_,_] _ Y O qa O O (λ_=>.tuple #[]) (λq=>(aS 123 67 70 sb K ⟨ag z (au ⟨6,x.pl,x.n⟩ 3 x.m (ag y t.g)),q.1,q.2⟩)) (λ_=>True) [H] (by simp) (λw hw=>(jL z za zc (⟨(au ⟨6,x.pl,x.n⟩ 3 x.m (ag y t.g)),ie.1,ie.2⟩:a6) w F0 F1 (by show ((au ⟨6,x.pl,x.n⟩ 3 x.m (ag y t.g))).code.length+8*db z<=_; (try simp only [bE]); omega) (by show ((au ⟨6,x.pl,x.n⟩ 3 x.m (ag y t.g))).fix.length+8*db z<=_; (try simp only [bE]); omega) hw).mono λe w' ⟨q,h1,h2⟩=>⟨q,h1,trivial,h2⟩) ?_;intro zR _;refine Ln (Et (Cr (V0 (Ym O) (V0 (Yb fk f_ O O) ?_))));refine Lb Y O gV O O O O λb56=>?_;refine WL.jy (rd:=fH) (f:=aN.cells) (k:=3) (m:=1) 0 [⟨8,0,0⟩] O O aN.a8 (λ_ _ _ _ h=>h) (by simp) (by decide) λH56 apt=>?_;refine Lw (ι:=SP) [_,_,_] _ Y O ko O O (λ_=>.tuple #[]) (λq=>(aS 123 67 70 sb K ⟨aK [⟨8,0,0⟩] (⟨(ag z (au ⟨6,x.pl,x.n⟩ 3 x.m (ag y t.g))),zR.1,zR.2⟩:a6).g,q,(⟨(ag z (au ⟨6,x.pl,x.n⟩ 3 x.m (ag y t.g))),zR.1,zR.2⟩:a6).fa⟩)) (λ_=>True) [H56] (by simp) (λw hw=>(kq sb K (⟨(ag z (au ⟨6,x.pl,x.n⟩ 3 x.m (ag y t.g))),zR.1,zR.2⟩:a6) H56 (some ⟨b56,0,none⟩) 1 [⟨8,0,0⟩] w apt (by show ((ag z (au ⟨6,x.pl,x.n⟩ 3 x.m (ag y t.g)))).code.length+[⟨8,0,0⟩].length<=_; (try simp only [bE]); omega) hw).mono λe w' ⟨q,h1,h2⟩=>⟨q,h1,trivial,h2⟩) ?_;intro p1 _;refine Ln (Eb ?_);refine E0 O λw' hw=>?_
  have hr:lf x t.g=aK [⟨8,0,0⟩] (ag z (au ⟨6,x.pl,x.n⟩ 3 x.m (ag y t.g))):=by
    rw [uw,pH,if_neg fw,if_pos ho,nH bC,nH kO]
  rw [hr];exact ⟨(p1,zR.2),O,Wv 1 (Wt 3 hw)⟩
 have gE:¬x.op=2:=by simpa using ay
 refine Cs (Cr (V0 (aG O O) (V0 (Ya O) (Ln (Et ?_)))));refine Cc O (λaM=>?_) (λaM=>?_)
 ·have ho:x.op=3:=by simpa using aM
  refine Cs ?_;have hgn:=Is x.args t.g;have kU:=hgn.hi;have kV:=hgn.fG;refine Cr (V0 (Ym O) (V0 (Yf oX O) (V0 (Yd 0 O O O aq) (V0 (Yf p7 O) (V0 (Yd 0 O O O aq) (V0 (Yf rL O) (V0 (Yd 0 O O O km) ?_)))))));refine Lf 3 O (Lf 3 O (Lf 3 O ?_));refine Lw (ι:=SP×SP) [_,_,_] _ Y O aaK O O (λ_=>.tuple #[]) (λq=>(aS 123 67 70 sb K ⟨au ⟨13,x.pl,0⟩ 2 x.m (ee x.args t.g),q.1,q.2⟩)) (λ_=>True) [H] (by simp) (λw hw=>(aaG sb K t H ke x.m x.pl x.args r.s1.1 r.s1.2 w (λk2 _=>hN k2) h1 aE.parts.1 (by omega) (by omega) hw).mono λe w' ⟨q,h1,h2⟩=>⟨q,h1,trivial,h2⟩) ?_;intro zS _;refine Ln (Et (Cr (V0 (Ym O) (V0 (Yb fk f_ O O) ?_))));refine Lb Y O gV O O O O λQ8=>?_;refine WL.jy (rd:=fH) (f:=aN.cells) (k:=3) (m:=1) 0 [⟨17,0,0⟩] O O aN.a8 (λ_ _ _ _ h=>h) (by simp) (by decide) λH70 apu=>?_;refine Lw (ι:=SP) [_,_,_] _ Y O ko O O (λ_=>.tuple #[]) (λq=>(aS 123 67 70 sb K ⟨aK [⟨17,0,0⟩] (⟨(au ⟨13,x.pl,0⟩ 2 x.m (ee x.args t.g)),zS.1,zS.2⟩:a6).g,q,(⟨(au ⟨13,x.pl,0⟩ 2 x.m (ee x.args t.g)),zS.1,zS.2⟩:a6).fa⟩)) (λ_=>True) [H70] (by simp) (λw hw=>(kq sb K (⟨(au ⟨13,x.pl,0⟩ 2 x.m (ee x.args t.g)),zS.1,zS.2⟩:a6) H70 (some ⟨Q8,0,none⟩) 1 [⟨17,0,0⟩] w apu (by show ((au ⟨13,x.pl,0⟩ 2 x.m (ee x.args t.g))).code.length+[⟨17,0,0⟩].length<=_; (try simp only [bE]); omega) hw).mono λe w' ⟨q,h1,h2⟩=>⟨q,h1,trivial,h2⟩) ?_;intro q71 _;refine Ln (Eb ?_);refine E0 O λw' hw=>?_
  have hr:lf x t.g=aK [⟨17,0,0⟩] (au ⟨13,x.pl,0⟩ 2 x.m (ee x.args t.g)):=by
    rw [uw,pH,if_neg fw,if_neg gE,if_pos ho,DH]
  rw [hr];exact ⟨(q71,zS.2),O,Wv 1 (Wt 3 hw)⟩
 have iB:¬x.op=3:=by simpa using aM
 refine Cs (Cr (V0 (aG O O) (V0 (Ya O) (Ln (Et ?_)))));refine Cc O (λaW=>?_) (λaW=>?_)
 ·have ho:x.op=4:=by simpa using aW
  refine Cs ?_;have wL:=aE.parts.2.2.2.1 (by omega);obtain ⟨y,bC⟩:∃y,x.args[0]? = some y:=⟨_,List.getElem?_eq_getElem (by omega)⟩;obtain ⟨jY,jZ,fg,cY⟩:=h1.aZ 0 y bC
  obtain ⟨k2,rfl⟩:∃k2,ke=k2+1:=by
    cases ke with
    | zero=>exact cY.elim
    | succ k2=>exact ⟨k2,rfl⟩
  obtain ⟨ya,yc,lD,lE⟩:=cY;have jL:=hN k2;have lF:=aE.parts.1.at_ bC;have Ch:=zN bC;have cQ:=lU y t.g;have kU:=cQ.hi;have kV:=cQ.fG;have xv:=cQ.lo;have zT:=ux x.body (au ⟨12,0,0⟩ 1 0 (ag y t.g));have D_:=zT.hi;have Ec:=zT.fG;have IX:=zT.lo
  try simp only [bE] at D_ Ec IX
  have o5:=ux x.other (bU ((ag y t.g).code.length) (au ⟨11,0,0⟩ 1 0 (bx x.body (au ⟨12,0,0⟩ 1 0 (ag y t.g)))));have K8:=o5.hi;have tv:=o5.fG;have ho3:=o5.lo
  try simp only [bE] at K8 tv ho3
  refine Cr (V0 (Ym O) (V0 (Yf rL O) (V0 (Yd 0 O O O km) (V0 (Yo (i:=0) kT O O fg (by omega)) (V0 (cM 0 kj O O O (lD)) (Lf 3 O (Lf 3 O ?_)))))));refine Lf 3 O ?_;refine Lw (ι:=SP×SP) [_,_,_] _ Y O qa O O (λ_=>.tuple #[]) (λq=>(aS 123 67 70 sb K ⟨ag y t.g,q.1,q.2⟩)) (λ_=>True) [H] (by simp) (λw hw=>(jL y ya yc t w lE lF (by show (t.g).code.length+8*db y<=_; (try simp only [bE]); omega) (by show (t.g).fix.length+8*db y<=_; (try simp only [bE]); omega) hw).mono λe w' ⟨q,h1,h2⟩=>⟨q,h1,trivial,h2⟩) ?_;intro Jj _;refine Ln (Et (Cs (Cr (V0 (Ym O) ?_))));refine Lw (ι:=(SP×SP)×Nat×Nat) [_,_,_] _ Y O zO O O (λq=>.func (.func 162) #[] #[.pointer (some ⟨q.2.1,0,none⟩),.pointer (some ⟨q.2.2,0,none⟩)]) (λq=>(aS 123 67 70 sb K ⟨au ⟨12,0,0⟩ 1 0 (ag y t.g),q.1.1,q.1.2⟩)++[ab q.2.1 (.cells #[.pointer (some ⟨sb,0,none⟩)] 120 (0,0)),ab q.2.2 (.cells #[.int .i64 ((ag y t.g).code.length:Int)] 3 (0,0))]) (λ_=>True) [] (by simp) (λw hw=>(zM sb K (⟨(ag y t.g),Jj.1,Jj.2⟩:a6) 12 w (by show ((ag y t.g)).code.length+1<=_; (try simp only [bE]); omega) (by show ((ag y t.g)).fix.length+1<=_; (try simp only [bE]); omega) hw).mono λe w' ⟨q,h1,h2⟩=>⟨q,h1,trivial,h2⟩) ?_;intro oQ _;refine V0 (Ya O) (Ln (Et (Cs (Cr (V0 (Ym O) (V0 (Yf Fz O) (V0 (Yd 5 O O O n9) ?_)))))));refine Lw (ι:=SP×SP) [_,_,_] _ Y O K5 O O (λ_=>.tuple #[]) (λq=>(aS 123 67 70 sb K ⟨bx x.body (au ⟨12,0,0⟩ 1 0 (ag y t.g)),q.1,q.2⟩)) (λ_=>True) [H] (by simp) (λw hw=>(hA x.body r.s2.1 r.s2.2 (⟨(au ⟨12,0,0⟩ 1 0 (ag y t.g)),oQ.1.1,oQ.1.2⟩:a6) w h2 (aE.parts.2.1 (by omega)) (by show ((au ⟨12,0,0⟩ 1 0 (ag y t.g))).code.length+8*dR x.body<=_; (try simp only [bE]); omega) (by show ((au ⟨12,0,0⟩ 1 0 (ag y t.g))).fix.length+8*dR x.body<=_; (try simp only [bE]); omega) hw).mono λe w' ⟨q,h1,h2⟩=>⟨q,h1,trivial,h2⟩) ?_;intro tw _;refine Ln (Et (Cs (Cs (Cr (V0 (Yf zD O) (V0 (Yd 5 O O O n9) (V0 (Yn tt O) (V0 (bZ O O) (Ln (Et ?_))))))))));refine Cc O (λbl=>?_) (λbl=>?_)
  ·have tx:0<x.other.length:=by simpa using bl
   refine Cs (Cr (V0 (Ym O) ?_));refine Lw (ι:=(SP×SP)×Nat×Nat) [_,_,_] _ Y O zO O O (λq=>.func (.func 162) #[] #[.pointer (some ⟨q.2.1,0,none⟩),.pointer (some ⟨q.2.2,0,none⟩)]) (λq=>(aS 123 67 70 sb K ⟨au ⟨11,0,0⟩ 1 0 (bx x.body (au ⟨12,0,0⟩ 1 0 (ag y t.g))),q.1.1,q.1.2⟩)++[ab q.2.1 (.cells #[.pointer (some ⟨sb,0,none⟩)] 120 (0,0)),ab q.2.2 (.cells #[.int .i64 ((bx x.body (au ⟨12,0,0⟩ 1 0 (ag y t.g))).code.length:Int)] 3 (0,0))]) (λ_=>True) [] (by simp) (λw hw=>(zM sb K (⟨(bx x.body (au ⟨12,0,0⟩ 1 0 (ag y t.g))),tw.1,tw.2⟩:a6) 11 w (by show ((bx x.body (au ⟨12,0,0⟩ 1 0 (ag y t.g)))).code.length+1<=_; (try simp only [bE]); omega) (by show ((bx x.body (au ⟨12,0,0⟩ 1 0 (ag y t.g)))).fix.length+1<=_; (try simp only [bE]); omega) hw).mono λe w' ⟨q,h1,h2⟩=>⟨q,h1,trivial,h2⟩) ?_;intro qd _;refine V0 (Ya O) (Ln (Et (Cs (Cr (V0 (Ym O) (Lf 6 O (Lf 6 O (Lf 4 O (Lf 4 O (Lf 4 O ?_))))))))));refine WL.wv (ι:=Unit) [_,_,_,_,_] _ Y O xq O O O (λ_=>.tuple #[]) (λ_=>(aS 123 67 70 sb K ⟨bU ((ag y t.g).code.length) (au ⟨11,0,0⟩ 1 0 (bx x.body (au ⟨12,0,0⟩ 1 0 (ag y t.g)))),(⟨(au ⟨11,0,0⟩ 1 0 (bx x.body (au ⟨12,0,0⟩ 1 0 (ag y t.g)))),qd.1.1,qd.1.2⟩:a6).ca,(⟨(au ⟨11,0,0⟩ 1 0 (bx x.body (au ⟨12,0,0⟩ 1 0 (ag y t.g)))),qd.1.1,qd.1.2⟩:a6).fa⟩)++[ab oQ.2.1 (.cells #[.pointer (some ⟨sb,0,none⟩)] 120 (0,0)),ab oQ.2.2 (.cells #[.int .i64 ((ag y t.g).code.length:Int)] 3 (0,0))]) (λ_=>True) [] (by simp) (λw hw=>(xo sb K (⟨(au ⟨11,0,0⟩ 1 0 (bx x.body (au ⟨12,0,0⟩ 1 0 (ag y t.g)))),qd.1.1,qd.1.2⟩:a6) oQ.2.1 oQ.2.2 ((ag y t.g).code.length) _ w (List.getElem?_eq_getElem (by show (ag y t.g).code.length<((au ⟨11,0,0⟩ 1 0 (bx x.body (au ⟨12,0,0⟩ 1 0 (ag y t.g))))).code.length; (try simp only [bE]); omega)) hw).mono λe w' h=>⟨(),h.1,trivial,h.2⟩) ?_;intro _ _;refine Ln (Et (Cs (Cr (V0 (Ym O) (V0 (Yf zD O) (V0 (Yd 7 O O O n9) ?_))))));refine Lw (ι:=SP×SP) [_,_,_] _ Y O K5 O O (λ_=>.tuple #[]) (λq=>(aS 123 67 70 sb K ⟨bx x.other (bU ((ag y t.g).code.length) (au ⟨11,0,0⟩ 1 0 (bx x.body (au ⟨12,0,0⟩ 1 0 (ag y t.g))))),q.1,q.2⟩)) (λ_=>True) [H] (by simp) (λw hw=>(hA x.other r.s3.1 r.s3.2 (⟨(bU ((ag y t.g).code.length) (au ⟨11,0,0⟩ 1 0 (bx x.body (au ⟨12,0,0⟩ 1 0 (ag y t.g))))),qd.1.1,qd.1.2⟩:a6) w h3 aE.parts.2.2.1 (by show ((bU ((ag y t.g).code.length) (au ⟨11,0,0⟩ 1 0 (bx x.body (au ⟨12,0,0⟩ 1 0 (ag y t.g)))))).code.length+8*dR x.other<=_; (try simp only [bE]); omega) (by show ((bU ((ag y t.g).code.length) (au ⟨11,0,0⟩ 1 0 (bx x.body (au ⟨12,0,0⟩ 1 0 (ag y t.g)))))).fix.length+8*dR x.other<=_; (try simp only [bE]); omega) hw).mono λe w' ⟨q,h1,h2⟩=>⟨q,h1,trivial,h2⟩) ?_;intro xw _;refine Ln (Et (Cr (V0 (Ym O) (V0 (Ya O) (Ln (Et (Cr (V0 (Ym O) (Lf 6 O (Lf 6 O (Lf 4 O ?_)))))))))));refine Lf 4 O (Lf 4 O ?_)
   refine WL.wv (ι:=Unit) [_,_,_,_,_] _ Y O xq O O O (λ_=>.tuple #[]) (λ_=>(aS 123 67 70 sb K ⟨bU ((bx x.body (au ⟨12,0,0⟩ 1 0 (ag y t.g))).code.length) (bx x.other (bU ((ag y t.g).code.length) (au ⟨11,0,0⟩ 1 0 (bx x.body (au ⟨12,0,0⟩ 1 0 (ag y t.g)))))),(⟨(bx x.other (bU ((ag y t.g).code.length) (au ⟨11,0,0⟩ 1 0 (bx x.body (au ⟨12,0,0⟩ 1 0 (ag y t.g)))))),xw.1,xw.2⟩:a6).ca,(⟨(bx x.other (bU ((ag y t.g).code.length) (au ⟨11,0,0⟩ 1 0 (bx x.body (au ⟨12,0,0⟩ 1 0 (ag y t.g)))))),xw.1,xw.2⟩:a6).fa⟩)++[ab qd.2.1 (.cells #[.pointer (some ⟨sb,0,none⟩)] 120 (0,0)),ab qd.2.2 (.cells #[.int .i64 ((bx x.body (au ⟨12,0,0⟩ 1 0 (ag y t.g))).code.length:Int)] 3 (0,0))]) (λ_=>True) [] (by simp) (λw hw=>(xo sb K (⟨(bx x.other (bU ((ag y t.g).code.length) (au ⟨11,0,0⟩ 1 0 (bx x.body (au ⟨12,0,0⟩ 1 0 (ag y t.g)))))),xw.1,xw.2⟩:a6) qd.2.1 qd.2.2 ((bx x.body (au ⟨12,0,0⟩ 1 0 (ag y t.g))).code.length) _ w (List.getElem?_eq_getElem (by show (bx x.body (au ⟨12,0,0⟩ 1 0 (ag y t.g))).code.length<((bx x.other (bU ((ag y t.g).code.length) (au ⟨11,0,0⟩ 1 0 (bx x.body (au ⟨12,0,0⟩ 1 0 (ag y t.g))))))).code.length; (try simp only [bE]); omega)) hw).mono λe w' h=>⟨(),h.1,trivial,h.2⟩) ?_;intro _ _;refine Ln (Eb ?_);refine E0 O λw' hw=>?_
   have hr:lf x t.g=bU ((bx x.body (au ⟨12,0,0⟩ 1 0 (ag y t.g))).code.length) (bx x.other (bU ((ag y t.g).code.length) (au ⟨11,0,0⟩ 1 0 (bx x.body (au ⟨12,0,0⟩ 1 0 (ag y t.g)))))):=by
     rw [uw,pH,if_neg fw,if_neg gE,if_neg iB,if_pos ho,nH bC];unfold Io;rw [if_pos tx]
   rw [hr];exact ⟨(xw.1,xw.2),O,Wt 3 hw⟩
  have tx:¬0<x.other.length:=by simpa using bl
  refine Ck (Et (Cr (V0 (Ym O) ?_)));refine WL.wv (ι:=Unit) [_,_,_,_,_] _ Y O xq O O O (λ_=>.tuple #[]) (λ_=>(aS 123 67 70 sb K ⟨bU ((ag y t.g).code.length) (bx x.body (au ⟨12,0,0⟩ 1 0 (ag y t.g))),(⟨(bx x.body (au ⟨12,0,0⟩ 1 0 (ag y t.g))),tw.1,tw.2⟩:a6).ca,(⟨(bx x.body (au ⟨12,0,0⟩ 1 0 (ag y t.g))),tw.1,tw.2⟩:a6).fa⟩)++[ab oQ.2.1 (.cells #[.pointer (some ⟨sb,0,none⟩)] 120 (0,0)),ab oQ.2.2 (.cells #[.int .i64 ((ag y t.g).code.length:Int)] 3 (0,0))]) (λ_=>True) [] (by simp) (λw hw=>(xo sb K (⟨(bx x.body (au ⟨12,0,0⟩ 1 0 (ag y t.g))),tw.1,tw.2⟩:a6) oQ.2.1 oQ.2.2 ((ag y t.g).code.length) _ w (List.getElem?_eq_getElem (by show (ag y t.g).code.length<((bx x.body (au ⟨12,0,0⟩ 1 0 (ag y t.g)))).code.length; (try simp only [bE]); omega)) hw).mono λe w' h=>⟨(),h.1,trivial,h.2⟩) ?_;intro _ _;refine Ln (Eb ?_);refine E0 O λw' hw=>?_
  have hr:lf x t.g=bU ((ag y t.g).code.length) (bx x.body (au ⟨12,0,0⟩ 1 0 (ag y t.g))):=by
    rw [uw,pH,if_neg fw,if_neg gE,if_neg iB,if_pos ho,nH bC];unfold Io;rw [if_neg tx]
  rw [hr];exact ⟨(tw.1,tw.2),O,Wt 3 hw⟩
 have lB:¬x.op=4:=by simpa using aW
 refine Cs (Cr (V0 (aG O O) (V0 (Ya O) (Ln (Et ?_)))));refine Cc O (λbt=>?_) (λbt=>?_)
 ·have ho:x.op=5:=by simpa using bt
  refine Cs (Cr (V0 (Ym O) (V0 (aO O) (V0 (Yf l8 O) (V0 (Yf mY O) (V0 (Yd 1 O O O gn) (V0 (Yn ig O) (V0 (Ya O) ?_))))))));refine Ln (Et (Cs ?_));have wL:=aE.parts.2.2.2.1 (by omega);obtain ⟨y,bC⟩:∃y,x.args[0]? = some y:=⟨_,List.getElem?_eq_getElem (by omega)⟩;obtain ⟨jY,jZ,fg,cY⟩:=h1.aZ 0 y bC
  obtain ⟨k2,rfl⟩:∃k2,ke=k2+1:=by
    cases ke with
    | zero=>exact cY.elim
    | succ k2=>exact ⟨k2,rfl⟩
  obtain ⟨ya,yc,lD,lE⟩:=cY;have jL:=hN k2;have lF:=aE.parts.1.at_ bC;have Ch:=zN bC;have cQ:=lU y t.g;have kU:=cQ.hi;have kV:=cQ.fG;have xv:=cQ.lo;have zT:=ux x.body (aK [⟨16,0,0⟩] (au ⟨12,0,0⟩ 1 0 (ag y t.g)));have D_:=zT.hi;have Ec:=zT.fG;have IX:=zT.lo
  try simp only [bE] at D_ Ec IX
  refine Cr (V0 (Ym O) (V0 (Yf rL O) (V0 (Yd 0 O O O km) (V0 (Yo (i:=0) kT O O fg (by omega)) (V0 (cM 0 kj O O O (lD)) (Lf 3 O (Lf 3 O ?_)))))));refine Lf 3 O ?_;refine Lw (ι:=SP×SP) [_,_,_] _ Y O qa O O (λ_=>.tuple #[]) (λq=>(aS 123 67 70 sb K ⟨ag y t.g,q.1,q.2⟩)) (λ_=>True) [H] (by simp) (λw hw=>(jL y ya yc t w lE lF (by show (t.g).code.length+8*db y<=_; (try simp only [bE]); omega) (by show (t.g).fix.length+8*db y<=_; (try simp only [bE]); omega) hw).mono λe w' ⟨q,h1,h2⟩=>⟨q,h1,trivial,h2⟩) ?_;intro aaY _;refine Ln (Et (Cs (Cr (V0 (Ym O) ?_))));refine Lw (ι:=(SP×SP)×Nat×Nat) [_,_,_] _ Y O zO O O (λq=>.func (.func 162) #[] #[.pointer (some ⟨q.2.1,0,none⟩),.pointer (some ⟨q.2.2,0,none⟩)]) (λq=>(aS 123 67 70 sb K ⟨au ⟨12,0,0⟩ 1 0 (ag y t.g),q.1.1,q.1.2⟩)++[ab q.2.1 (.cells #[.pointer (some ⟨sb,0,none⟩)] 120 (0,0)),ab q.2.2 (.cells #[.int .i64 ((ag y t.g).code.length:Int)] 3 (0,0))]) (λ_=>True) [] (by simp) (λw hw=>(zM sb K (⟨(ag y t.g),aaY.1,aaY.2⟩:a6) 12 w (by show ((ag y t.g)).code.length+1<=_; (try simp only [bE]); omega) (by show ((ag y t.g)).fix.length+1<=_; (try simp only [bE]); omega) hw).mono λe w' ⟨q,h1,h2⟩=>⟨q,h1,trivial,h2⟩) ?_;intro iX _;refine V0 (Ya O) (Ln (Et (Cs (Cr (V0 (Ym O) (V0 (Yb fk f_ O O) ?_))))));refine Lb Y O gV O O O O λQ6=>?_;refine WL.jy (rd:=fH) (f:=aN.cells) (k:=3) (m:=1) 0 [⟨16,0,0⟩] O O aN.a8 (λ_ _ _ _ h=>h) (by simp) (by decide) λF4 Q7=>?_;refine Lw (ι:=SP) [_,_,_] _ Y O ko O O (λ_=>.tuple #[]) (λq=>(aS 123 67 70 sb K ⟨aK [⟨16,0,0⟩] (⟨(au ⟨12,0,0⟩ 1 0 (ag y t.g)),iX.1.1,iX.1.2⟩:a6).g,q,(⟨(au ⟨12,0,0⟩ 1 0 (ag y t.g)),iX.1.1,iX.1.2⟩:a6).fa⟩)) (λ_=>True) [F4] (by simp) (λw hw=>(kq sb K (⟨(au ⟨12,0,0⟩ 1 0 (ag y t.g)),iX.1.1,iX.1.2⟩:a6) F4 (some ⟨Q6,0,none⟩) 1 [⟨16,0,0⟩] w Q7 (by show ((au ⟨12,0,0⟩ 1 0 (ag y t.g))).code.length+[⟨16,0,0⟩].length<=_; (try simp only [bE]); omega) hw).mono λe w' ⟨q,h1,h2⟩=>⟨q,h1,trivial,h2⟩) ?_;intro Cj _;refine Ln (Et (Cs (Cr (V0 (Ym O) (V0 (Yf Fz O) (V0 (Yd 5 O O O n9) ?_))))));refine Lw (ι:=SP×SP) [_,_,_] _ Y O K5 O O (λ_=>.tuple #[]) (λq=>(aS 123 67 70 sb K ⟨bx x.body (aK [⟨16,0,0⟩] (au ⟨12,0,0⟩ 1 0 (ag y t.g))),q.1,q.2⟩)) (λ_=>True) [H] (by simp) (λw hw=>(hA x.body r.s2.1 r.s2.2 (⟨(aK [⟨16,0,0⟩] (au ⟨12,0,0⟩ 1 0 (ag y t.g))),Cj,iX.1.2⟩:a6) w h2 (aE.parts.2.1 (by omega)) (by show ((aK [⟨16,0,0⟩] (au ⟨12,0,0⟩ 1 0 (ag y t.g)))).code.length+8*dR x.body<=_; (try simp only [bE]); omega) (by show ((aK [⟨16,0,0⟩] (au ⟨12,0,0⟩ 1 0 (ag y t.g)))).fix.length+8*dR x.body<=_; (try simp only [bE]); omega) hw).mono λe w' ⟨q,h1,h2⟩=>⟨q,h1,trivial,h2⟩) ?_;intro aaZ _;refine Ln (Et (Cs (Cr (V0 (Ym O) (V0 (Ym O) (V0 (Yb fk f_ O O) ?_))))));refine Lw (ι:=SP×SP) [_,_,_] _ Y O Ca O O (λ_=>.int .i64 ((bx x.body (aK [⟨16,0,0⟩] (au ⟨12,0,0⟩ 1 0 (ag y t.g)))).code.length:Int)) (λq=>(aS 123 67 70 sb K ⟨au ⟨11,(t.g.code.length:Int),0⟩ 1 0 (bx x.body (aK [⟨16,0,0⟩] (au ⟨12,0,0⟩ 1 0 (ag y t.g)))),q.1,q.2⟩)) (λ_=>True) [] (by simp) (λw hw=>(Cd sb K (⟨(bx x.body (aK [⟨16,0,0⟩] (au ⟨12,0,0⟩ 1 0 (ag y t.g)))),aaZ.1,aaZ.2⟩:a6)  ⟨11,(t.g.code.length:Int),0⟩ 1 0 w  (by show ((bx x.body (aK [⟨16,0,0⟩] (au ⟨12,0,0⟩ 1 0 (ag y t.g))))).code.length+1<=_; (try simp only [bE]); omega) (by show ((bx x.body (aK [⟨16,0,0⟩] (au ⟨12,0,0⟩ 1 0 (ag y t.g))))).fix.length+1<=_; (try simp only [bE]); omega) hw).mono λe w' ⟨q,h1,h2⟩=>⟨q,h1,trivial,h2⟩) ?_
  intro l_ _;refine Ln (Et (Cr (V0 (Ym O) ?_)));refine WL.wv (ι:=Unit) [_,_,_,_,_] _ Y O xq O O O (λ_=>.tuple #[]) (λ_=>(aS 123 67 70 sb K ⟨bU ((ag y t.g).code.length) (au ⟨11,(t.g.code.length:Int),0⟩ 1 0 (bx x.body (aK [⟨16,0,0⟩] (au ⟨12,0,0⟩ 1 0 (ag y t.g))))),(⟨(au ⟨11,(t.g.code.length:Int),0⟩ 1 0 (bx x.body (aK [⟨16,0,0⟩] (au ⟨12,0,0⟩ 1 0 (ag y t.g))))),l_.1,l_.2⟩:a6).ca,(⟨(au ⟨11,(t.g.code.length:Int),0⟩ 1 0 (bx x.body (aK [⟨16,0,0⟩] (au ⟨12,0,0⟩ 1 0 (ag y t.g))))),l_.1,l_.2⟩:a6).fa⟩)++[ab iX.2.1 (.cells #[.pointer (some ⟨sb,0,none⟩)] 120 (0,0)),ab iX.2.2 (.cells #[.int .i64 ((ag y t.g).code.length:Int)] 3 (0,0))]) (λ_=>True) [] (by simp) (λw hw=>(xo sb K (⟨(au ⟨11,(t.g.code.length:Int),0⟩ 1 0 (bx x.body (aK [⟨16,0,0⟩] (au ⟨12,0,0⟩ 1 0 (ag y t.g))))),l_.1,l_.2⟩:a6) iX.2.1 iX.2.2 ((ag y t.g).code.length) _ w (List.getElem?_eq_getElem (by show (ag y t.g).code.length<((au ⟨11,(t.g.code.length:Int),0⟩ 1 0 (bx x.body (aK [⟨16,0,0⟩] (au ⟨12,0,0⟩ 1 0 (ag y t.g)))))).code.length; (try simp only [bE]); omega)) hw).mono λe w' h=>⟨(),h.1,trivial,h.2⟩) ?_;intro _ _;refine Ln (Eb ?_);refine E0 O λw' hw=>?_
  have hr:lf x t.g=bU ((ag y t.g).code.length) (au ⟨11,(t.g.code.length:Int),0⟩ 1 0 (bx x.body (aK [⟨16,0,0⟩] (au ⟨12,0,0⟩ 1 0 (ag y t.g))))):=by
    rw [uw,pH,if_neg fw,if_neg gE,if_neg iB,if_neg lB,if_pos ho,nH bC]
    rfl
  rw [hr];exact ⟨(l_.1,l_.2),O,Wv 1 (Wt 3 hw)⟩
 have p_:¬x.op=5:=by simpa using bt
 refine Cs (Cr (V0 (aG O O) (V0 (Ya O) (Ln (Et ?_)))));refine Cc O (λbQ=>?_) (λbQ=>?_)
 ·have ho:x.op=6:=by simpa using bQ
  refine Cs ?_;have wL:=aE.parts.2.2.2.1 (by omega);obtain ⟨y,bC⟩:∃y,x.args[0]? = some y:=⟨_,List.getElem?_eq_getElem (by omega)⟩;obtain ⟨jY,jZ,fg,cY⟩:=h1.aZ 0 y bC
  obtain ⟨k2,rfl⟩:∃k2,ke=k2+1:=by
    cases ke with
    | zero=>exact cY.elim
    | succ k2=>exact ⟨k2,rfl⟩
  obtain ⟨ya,yc,lD,lE⟩:=cY;have jL:=hN k2;have lF:=aE.parts.1.at_ bC;have Ch:=zN bC;have cQ:=lU y t.g;have kU:=cQ.hi;have kV:=cQ.fG;have xv:=cQ.lo;refine Cr (V0 (Ym O) (V0 (Yf rL O) (V0 (Yd 0 O O O km) (V0 (Yo (i:=0) kT O O fg (by omega)) (V0 (cM 0 kj O O O (lD)) (Lf 3 O (Lf 3 O ?_)))))));refine Lf 3 O ?_;refine Lw (ι:=SP×SP) [_,_,_] _ Y O qa O O (λ_=>.tuple #[]) (λq=>(aS 123 67 70 sb K ⟨ag y t.g,q.1,q.2⟩)) (λ_=>True) [H] (by simp) (λw hw=>(jL y ya yc t w lE lF (by show (t.g).code.length+8*db y<=_; (try simp only [bE]); omega) (by show (t.g).fix.length+8*db y<=_; (try simp only [bE]); omega) hw).mono λe w' ⟨q,h1,h2⟩=>⟨q,h1,trivial,h2⟩) ?_;intro zU _;refine Ln (Et (Cr (V0 (Ym O) (V0 (Yb fk f_ O O) ?_))));refine Lb Y O gV O O O O λapx=>?_;refine WL.jy (rd:=fH) (f:=aN.cells) (k:=3) (m:=1) 0 [⟨15,0,0⟩] O O aN.a8 (λ_ _ _ _ h=>h) (by simp) (by decide) λaa0 apy=>?_;refine Lw (ι:=SP) [_,_,_] _ Y O ko O O (λ_=>.tuple #[]) (λq=>(aS 123 67 70 sb K ⟨aK [⟨15,0,0⟩] (⟨(ag y t.g),zU.1,zU.2⟩:a6).g,q,(⟨(ag y t.g),zU.1,zU.2⟩:a6).fa⟩)) (λ_=>True) [aa0] (by simp) (λw hw=>(kq sb K (⟨(ag y t.g),zU.1,zU.2⟩:a6) aa0 (some ⟨apx,0,none⟩) 1 [⟨15,0,0⟩] w apy (by show ((ag y t.g)).code.length+[⟨15,0,0⟩].length<=_; (try simp only [bE]); omega) hw).mono λe w' ⟨q,h1,h2⟩=>⟨q,h1,trivial,h2⟩) ?_;intro apz _;refine Ln (Eb ?_);refine E0 O λw' hw=>?_
  have hr:lf x t.g=aK [⟨15,0,0⟩] (ag y t.g):=by
    rw [uw,pH,if_neg fw,if_neg gE,if_neg iB,if_neg lB,if_neg p_,if_pos ho,nH bC]
  rw [hr];exact ⟨(apz,zU.2),O,Wv 1 (Wt 3 hw)⟩
 have xl:¬x.op=6:=by simpa using bQ
 refine Cs (Cr (V0 (aG O O) (V0 (Ya O) (Ln (Et ?_)))));refine Cc O (λcL=>?_) (λcL=>?_)
 ·have ho:x.op=7:=by simpa using cL
  refine Cs ?_;have wL:=aE.parts.2.2.2.1 (by omega);obtain ⟨y,bC⟩:∃y,x.args[0]? = some y:=⟨_,List.getElem?_eq_getElem (by omega)⟩;obtain ⟨jY,jZ,fg,cY⟩:=h1.aZ 0 y bC
  obtain ⟨k2,rfl⟩:∃k2,ke=k2+1:=by
    cases ke with
    | zero=>exact cY.elim
    | succ k2=>exact ⟨k2,rfl⟩
  obtain ⟨ya,yc,lD,lE⟩:=cY;have jL:=hN k2;have lF:=aE.parts.1.at_ bC;have Ch:=zN bC;have cQ:=lU y t.g;have kU:=cQ.hi;have kV:=cQ.fG;have xv:=cQ.lo;refine Cr (V0 (Ym O) (V0 (Yf rL O) (V0 (Yd 0 O O O km) (V0 (Yo (i:=0) kT O O fg (by omega)) (V0 (cM 0 kj O O O (lD)) (Lf 3 O (Lf 3 O ?_)))))));refine Lf 3 O ?_;refine Lw (ι:=SP×SP) [_,_,_] _ Y O qa O O (λ_=>.tuple #[]) (λq=>(aS 123 67 70 sb K ⟨ag y t.g,q.1,q.2⟩)) (λ_=>True) [H] (by simp) (λw hw=>(jL y ya yc t w lE lF (by show (t.g).code.length+8*db y<=_; (try simp only [bE]); omega) (by show (t.g).fix.length+8*db y<=_; (try simp only [bE]); omega) hw).mono λe w' ⟨q,h1,h2⟩=>⟨q,h1,trivial,h2⟩) ?_;intro zV _;refine Ln (Et (Cr (V0 (Ym O) (V0 (Yb fk f_ O O) ?_))));refine Lb Y O gV O O O O λapA=>?_;refine WL.jy (rd:=fH) (f:=aN.cells) (k:=3) (m:=1) 0 [⟨19,0,0⟩] O O aN.a8 (λ_ _ _ _ h=>h) (by simp) (by decide) λaa1 apB=>?_;refine Lw (ι:=SP) [_,_,_] _ Y O ko O O (λ_=>.tuple #[]) (λq=>(aS 123 67 70 sb K ⟨aK [⟨19,0,0⟩] (⟨(ag y t.g),zV.1,zV.2⟩:a6).g,q,(⟨(ag y t.g),zV.1,zV.2⟩:a6).fa⟩)) (λ_=>True) [aa1] (by simp) (λw hw=>(kq sb K (⟨(ag y t.g),zV.1,zV.2⟩:a6) aa1 (some ⟨apA,0,none⟩) 1 [⟨19,0,0⟩] w apB (by show ((ag y t.g)).code.length+[⟨19,0,0⟩].length<=_; (try simp only [bE]); omega) hw).mono λe w' ⟨q,h1,h2⟩=>⟨q,h1,trivial,h2⟩) ?_;intro apC _;refine Ln (Eb ?_);refine E0 O λw' hw=>?_
  have hr:lf x t.g=aK [⟨19,0,0⟩] (ag y t.g):=by
    rw [uw,pH,if_neg fw,if_neg gE,if_neg iB,if_neg lB,if_neg p_,if_neg xl,if_pos ho,nH bC]
  rw [hr];exact ⟨(apC,zV.2),O,Wv 1 (Wt 3 hw)⟩
 exfalso
 have BE:¬x.op=7:=by simpa using cL
 have fL:=aE.parts.2.2.2.2.2;omega
theorem apD (sb:Nat) (K:gi) (t:a6) (H:View) (ke k:Nat) (l:List ck) (a:Option Addr) (c:Nat) (w:World) (hl:Sl (gZ ke k) 7 H a c l) (aE:sF l) (hb:t.g.code.length+8*dR l<=1000000000000) (o3:t.g.fix.length+8*dR l<=1000000000000) (hw:Ws w (List.flatMap ak.ids (aS 123 67 70 sb K t)) (aS 123 67 70 sb K t) [H] w) :
   Calls Tryz.prog 88 #[.pointer (some ⟨sb,0,none⟩),.slice a l.length c] w λe w'=>∃q:SP×SP,e = .returned (.tuple #[])/\Ws w (List.flatMap ak.ids (aS 123 67 70 sb K t)) (aS 123 67 70 sb K ⟨bx l t.g,q.1,q.2⟩) [H] w':=by
 induction k using Nat.strongRecOn generalizing l a c t w
 rename_i k ih;have dQ:=hl.cap;have eB:=hl.max;refine enter Tryz.func88 O 16 O O ?_;refine CE hw (Cs (Cr (V0 (Ym O) (V0 (Yn tt O) (V0 (Ym O) (Ln (Et (Cb ?_))))))));refine cU (ι:=Nat×SP×SP) (λg=>[(8,.int .i64 (g.1:Int))]) [(0,_),(6,_),(7,_)] (λg=>Ws w (List.flatMap ak.ids (aS 123 67 70 sb K t)) (aS 123 67 70 sb K ⟨bx (l.take g.1) t.g,g.2.1,g.2.2⟩) [H]) (λg=>g.1<=l.length) (λg=>l.length-g.1) (0,t.ca,t.fa) (Nat.zero_le _) (sc O (sc O (sc O (sc O sn)))) (λ_ h=>h) ?_;intro g tq;refine Cs (Cr (V0 (bq O O) (Ln (Et (Cs ?_)))));refine Cc O (λad=>?_) (λad=>?_)
 ·have aw:g.1<l.length:=by simpa using ad
  obtain ⟨x,bP⟩:∃q,l[g.1]? = some q:=⟨_,List.getElem?_eq_getElem aw⟩;obtain ⟨hZ,h_,iE,ek⟩:=hl.aZ g.1 x bP
  obtain ⟨k2,rfl⟩:∃k2,k=k2+1:=by
    cases k with
    | zero=>exact ek.elim
    | succ k2=>exact ⟨k2,rfl⟩
  obtain ⟨r,bJ,h1,h2,h3⟩:=ek;have hww:=U4 bP;have cQ:=ux (l.take g.1) t.g;have kU:=cQ.hi;have kV:=cQ.fG;have hA:aaT H sb K ke k2:=λl a c t w h1 h2 h3 h4 h5=>ih k2 (by omega) t l a c w h1 h2 h3 h4 h5;refine Ck (Et (Cs (Cb (Cs (Cr (V0 (Yo tt O O iE aw) (V0 (cM 0 B1 O O O (bJ)) ?_)))))));refine Al Y O Fy λb5=>?_;refine an 0 Y O O O Kj O O O (Ln (Et (fo 0 (.cells (um x r).toArray 191 (0,0)) O O (Cr (V0 (Ym O) (V0 (bA 0 O O B1 O) (Lf 3 O (Lf 3 O ?_))))))));refine Lf 3 O ?_;refine Lw (ι:=SP×SP) [_,_,_] _ Y O apo O O (λ_=>.tuple #[]) (λq=>(aS 123 67 70 sb K ⟨lf x (bx (l.take g.1) t.g),q.1,q.2⟩)) (λ_=>True) [H] (by simp) (λw hw=>(apq sb K (⟨bx (l.take g.1) t.g,g.2.1,g.2.2⟩:a6) H ke k2 x r w hA h1 h2 h3 (aE.at_ bP) (by show (bx (l.take g.1) t.g).code.length+8*qQ x<=_; omega) (by show (bx (l.take g.1) t.g).fix.length+8*qQ x<=_; omega) hw).mono λe w' ⟨q,h1,h2⟩=>⟨q,h1,trivial,h2⟩) ?_;intro iR _;refine Ln (Eb (Et (Cr (V0 (Yi O O O (by omega)) (V0 (Ym O) (Ln ?_))))));rw [<-aeJ bP];exact Ea ((g.1+1,iR):Nat×SP×SP) (by show _-(g.1+1)<_; omega) (by show g.1+1<=_; omega) (sc O (sc O (sc O (sc O sn)))) (λ_ h=>(Wt 3 h:))
 have cz:g.1=l.length:=by simp at ad; omega
 rw [cz,List.take_length];refine Ce (Ex (Ex (cf ?_)));refine E0 O λw' hw=>?_;exact ⟨g.2,O,hw⟩
theorem Q9 (sb:Nat) (K:gi) (t:a6) (H:View) (ke k:Nat) (params locals:Int) (l:List ck) (a:Option Addr) (c:Nat) (w:World) (hl:Sl (gZ ke k) 7 H a c l) (aE:sF l) (hb:t.g.code.length+8*(1+dR l)<=1000000000000) (o3:t.g.fix.length+8*(1+dR l)<=1000000000000) (hw:Ws w (List.flatMap ak.ids (aS 123 67 70 sb K t)) (aS 123 67 70 sb K t) [H] w) :
   Calls Tryz.prog 67 #[.pointer (some ⟨sb,0,none⟩),.agg (AT ⟨params,locals,l⟩ (a,c)).toArray] w λe w'=>∃q:SP×SP,e = .returned (.int .i64 (t.g.code.length:Int))/\Ws w (List.flatMap ak.ids (aS 123 67 70 sb K t)) (aS 123 67 70 sb K ⟨lT params locals l t.g,q.1,q.2⟩) [H] w':=by
 have cQ:=ux l (aK [⟨14,params,locals⟩] t.g);have kU:=cQ.hi;have kV:=cQ.fG;simp only [bE] at kU kV;refine enter Tryz.func67 O 30 O O ?_;refine CE hw (Cs (Cr ?_));refine WL.box Y O O λb3=>?_;refine V0 (Ya O) (Ln (Et (Cs (Cr (V0 (Ym O) (V0 (aO O) (V0 (Yf l8 O) (V0 (Yf mY O) (V0 (Yd 1 O O O gn) (V0 (Yn ig O) ?_))))))))));refine V0 (Ya O) (Ln (Et (Cs (Cr (V0 (Ym O) (V0 (Yf FV O) (V0 (Yd 0 O O O aq) (V0 (Yf KY O) (V0 (Yd 0 O O O aq) (V0 (Yb fk f_ O O) ?_))))))))));refine Lb Y O gV O O O O λrC=>?_;refine WL.jy (rd:=fH) (f:=aN.cells) (k:=3) (m:=1) 0 [⟨14,params,locals⟩] O O aN.a8 (λ_ _ _ _ h=>h) (by simp) (by decide) λxf E3=>?_;refine Lf 3 O (Lf 3 O (Lf 3 O ?_));refine Lw (ι:=SP) [_,_,_] _ Y O ko O O (λ_=>.tuple #[]) (λq=>(aS 123 67 70 sb K ⟨aK [⟨14,params,locals⟩] t.g,q,t.fa⟩)) (λ_=>True) [xf] (by simp) (λw hw=>(kq sb K t xf (some ⟨rC,0,none⟩) 1 [⟨14,params,locals⟩] w E3 (by show (t.g).code.length+[⟨14,params,locals⟩].length<=_; (try simp only [bE]); omega) hw).mono λe w' ⟨q,h1,h2⟩=>⟨q,h1,trivial,h2⟩) ?_;intro jF _;refine Ln (Et (Cs (Cr (V0 (Ym O) (V0 (Yf aaw O) (V0 (Yd 3 O O O n9) ?_))))));refine Lw (ι:=SP×SP) [_,_,_] _ Y O K5 O O (λ_=>.tuple #[]) (λq=>(aS 123 67 70 sb K ⟨bx l (aK [⟨14,params,locals⟩] t.g),q.1,q.2⟩)) (λ_=>True) [H] (by simp) (λw hw=>((λl a c t w h1 h2 h3 h4 h5=>apD sb K t H ke k l a c w h1 h2 h3 h4 h5) l a c (⟨(aK [⟨14,params,locals⟩] t.g),jF,t.fa⟩:a6) w hl aE (by show ((aK [⟨14,params,locals⟩] t.g)).code.length+8*dR l<=_; (try simp only [bE]); omega) (by show ((aK [⟨14,params,locals⟩] t.g)).fix.length+8*dR l<=_; (try simp only [bE]); omega) hw).mono λe w' ⟨q,h1,h2⟩=>⟨q,h1,trivial,h2⟩) ?_;intro zW _;refine Ln (Et (Cs (Cr (V0 (Ym O) (V0 (Yb fk f_ O O) (V0 (Yb fk f_ O O) ?_))))));refine Lb Y O gV O O O O λE9=>?_;refine WL.jy (rd:=fH) (f:=aN.cells) (k:=3) (m:=2) 0 [⟨1,0,0⟩,⟨15,0,0⟩] O O aN.a8 (λ_ _ _ _ h=>h) (by simp) (by decide) λQQ QR=>?_;refine Lw (ι:=SP) [_,_,_] _ Y O ko O O (λ_=>.tuple #[]) (λq=>(aS 123 67 70 sb K ⟨aK [⟨1,0,0⟩,⟨15,0,0⟩] (⟨(bx l (aK [⟨14,params,locals⟩] t.g)),zW.1,zW.2⟩:a6).g,q,(⟨(bx l (aK [⟨14,params,locals⟩] t.g)),zW.1,zW.2⟩:a6).fa⟩)) (λ_=>True) [QQ] (by simp) (λw hw=>(kq sb K (⟨(bx l (aK [⟨14,params,locals⟩] t.g)),zW.1,zW.2⟩:a6) QQ (some ⟨E9,0,none⟩) 2 [⟨1,0,0⟩,⟨15,0,0⟩] w QR (by show ((bx l (aK [⟨14,params,locals⟩] t.g))).code.length+[⟨1,0,0⟩,⟨15,0,0⟩].length<=_; (try simp only [bE]); omega) hw).mono λe w' ⟨q,h1,h2⟩=>⟨q,h1,trivial,h2⟩) ?_;intro q28 _;refine Ln (Et (Cs (Cr (V0 (Ym O) (V0 (Ya O) (Ln (Et (az ?_))))))));refine R1 O O λw' hw=>?_;exact ⟨(q28,zW.2),O,Wv 2 (Wt 3 hw)⟩
def F5:XK:=(yk,(none,0))
theorem apF {H:View} {b n:Nat} (h:Sl KS 3 H (some ⟨b,0,none⟩) n (List.replicate n F5)) {N:View} (hv:aL H N):Sl pF 3 N (some ⟨b,0,none⟩) n (List.replicate n yk):=by
 have h9:=aav h hv λe he=>by
   have e1:e=F5:=List.eq_of_mem_replicate he;subst e1; exact Sl.nil
 rw [List.map_replicate] at h9;exact h9
theorem apG (H:View) (ke k:Nat) (u:ed) (r:kz) (w:World) (hH:Le H w) (hu:kA ke k H r u) (hul:u.ae.length<=1048576) :
   Calls Tryz.prog 65 #[.agg (eV u r).toArray] w λe w'=>e = .returned (.bool (DJ u))/\Ext w w':=by
 have dQ:=hu.ae.cap;have eB:=hu.ae.max;refine enter Tryz.func65 O 9 O O ?_;refine CE (Vs:=[H]) (Ws.init (by simp [hH])) (Cs (Cr ?_));refine WL.box Y O O λb1=>?_;refine V0 (Ya O) (Ln (Et (Cs ?_)));refine CU (λ_=>true) [] [] (.q true 0 (.q false 1 (.q true 2 (.q false 3 (.e 4 (.e 5 (.q false 6 .nil) .stop) .stop))))) mixed (by kernel_rfl) (λ_ _ _ d _ _ h=>by cases d<;>exact h) ?_;refine U0 O (λ_ h=>h) (bA 0 O O jl O) (U0 O (λ_ h=>h) (Yf KX O) (U0 O (λ_ h=>h) (Yd 0 O O O fh) (U0 O (λ_ h=>h) (Yn dY O) ?_)));refine Ue O (λ_ h=>h) ?_ WU.stop;refine WL.make Y O QZ O O (by omega) (by omega) (by omega) (by omega) λb7=>?_;refine bH 0 (.cells ((List.replicate u.ae.length F5).flatMap XK.cells).toArray 152 (0,0)) O (by rw [<-aeS (f:=XK.cells) (x:=F5) (zs:=(Value.agg #[.bool false,.int .i64 0,.slice none 0 0]).cells) O (by decide)]; rfl) ?_;refine WL.jy (rd:=KS) (f:=XK.cells) (k:=3) (m:=u.ae.length) 0 (List.replicate u.ae.length F5) O O XK.a8 (λ_ _ _ _ h=>h) (by simp) (by omega) λH7 Og=>?_;refine Ln (Eu ?_);refine Ue O (λ_ h=>(Wv 1 h:)) ?_ WU.stop
 refine Lp Y O ao8 O (λw hw=>by
   have FX:=ao0 H (hv w) ke k u r (List.replicate u.ae.length yk) (some ⟨b7,0,none⟩) u.ae.length w (hw.vs H (by simp)) (iq w) hu (apF Og (mm (hw.vs H7 (by simp)))) (by simp; omega);rw [List.length_replicate] at FX
   exact FX) ?_
 refine Ln (Eu (U0 O (λ_ h=>(Wv 1 h:)) (Ya O) ?_));refine WU.nil (λ_ h=>(Wv 1 h:)) ?_;refine WS.nil ?_;refine Et (az ?_);refine R1 O O λw' hw=>?_;exact ⟨O,hw.fr⟩
theorem rR:zeroOf Tryz.prog 27=some (.agg #[st [],.slice none 0 0,.int .i64 0,.slice none 0 0,.slice none 0 0,.slice none 0 0,.int .i64 0]):=by kernel_rfl
theorem apH:Enters Tryz.prog 65:=enters_of Tryz.func65 (by kernel_rfl) rfl
theorem Q_:eR Tryz.prog 27=some [(0,1),(1,1),(2,1),(3,1),(4,1),(5,1),(6,1)]:=by kernel_rfl
theorem tz:cq Tryz.prog 27=some 7:=by kernel_rfl
theorem o6:eQ Tryz.prog 27=some 7:=by kernel_rfl
theorem apI:eR Tryz.prog 123=some [(0,7)]:=by kernel_rfl
theorem apJ:zeroOf Tryz.prog 123=some (.agg #[st [],.slice none 0 0,.int .i64 0,.slice none 0 0,.slice none 0 0,.slice none 0 0,.int .i64 0]):=by kernel_rfl
theorem xx:aX Tryz.prog 27 5=some 5:=by kernel_rfl
theorem Ra:Enters Tryz.prog 67:=enters_of Tryz.func67 (by kernel_rfl) rfl
theorem K9:aX Tryz.prog 27 6=some 6:=by kernel_rfl
theorem apK (H:View) (ke k:Nat) (u:ed) (r:kz) (w:World) (hH:Le H w) (hu:kA ke k H r u) (Kc:DF u<=1048576) :
   Calls Tryz.prog 25 #[.agg (eV u r).toArray] w λe w'=>∃q:mG,e = .returned (.tuple #[.agg (Nz (kD u).1 q).toArray,.int .i64 (kD u).2])/\Ext w w'/\NA (nv w w') q (kD u).1:=by
 have dQ:=hu.ae.cap;have eB:=hu.ae.max;have ao4:=hu.parts.cap;have ao5:=hu.parts.max;have hwu:=aeU u;have M0:=Dj u.ae;have hwp:=U8 u.parts;refine enter Tryz.func25 O 64 O O ?_;refine CE (Vs:=[H]) (Ws.init (by simp [hH])) (Cs (Cr ?_));refine WL.box Y O O λb1=>?_;refine Al Y O rR λb2=>?_;refine V0 (Ya O) (Ln (Et (Cs (Cs (Cr (V0 (bA 1 O O jl O) (Lp Y O apH O (λw hw=>apG H ke k u r w (hw.vs H (by simp)) hu (by omega)) (V0 (eu O) (Ln (Et ?_))))))))));refine Cc O (λad=>?_) (λad=>?_)
 ·have hx:DJ u=false:=by simpa using ad
  refine Cs (Cr (V0 (Yb rR Q_ O O) (an 0 Y O O O tz O O O (V0 (Ya O) (Ln (Et (az (Er ?_))))))));refine WE.vT 0 O O O O o6 O λw' hw=>?_;rw [show kD u=(DI,1) from by rw [kD,if_pos hx]];exact ⟨NB,O,hw.fr,U5 _⟩
 have hx:DJ u=true:=by simpa using ad
 obtain ⟨fL,hom⟩:=aeV hx;refine Ck (Et (Cs ?_));refine CU (λ_=>true) [] [] (.q false 0 (.q true 1 (.q false 2 (.q true 3 (.q false 5 (.q true 6 (.e 4 (.q false 7 (.q false 8 (.e 9 (.q false 10 .nil) .stop))) .stop))))))) mixed (by kernel_rfl) (λ_ _ _ d _ _ h=>by cases d<;>exact h) ?_;refine U0 O (λ_ h=>h) (Yf QY O) (U0 O (λ_ h=>h) (Yd 1 O O O df) (U0 O (λ_ h=>h) (Yf KX O) (U0 O (λ_ h=>h) (Yd 1 O O O fh) (U0 O (λ_ h=>h) (Yf KT O) (U0 O (λ_ h=>h) (Yd 1 O O O aq) ?_)))));refine Ue O (λ_ h=>h) ?_ WU.stop;refine Ld Y O ZY O (λr:SP=>.slice r.1 u.ae.length r.2) (λF r=>Sl rdStr 1 F r.1 r.2 u.ae) (λw hw=>ZT H r.s1.1 r.s1.2 u.ae w (hw.vs H (by simp)) hu.ae (by omega)) ?_;intro F15 gk apN IL;refine Ln (Eu (U0 O (λ_ h=>(Wv 1 h:)) (Yb rR Q_ O O) (U0 O (λ_ h=>(Wv 1 h:)) (Yb apJ apI O O) ?_)));refine Ue O (λ_ h=>(Wv 1 h:)) ?_ WU.stop;refine WL.box Y O O λjJ=>?_;obtain ⟨sb,F'⟩:∃s,s=jJ:=⟨_,rfl⟩;subst F';refine bH 0 (sE 123 (⟨u.nm,.slice gk.1 u.ae.length gk.2,u.data,.slice none 0 0,.int .i64 0⟩:gi) ⟨⟨[],[]⟩,(none,0),(none,0)⟩) O O (LW (λ_ h=>h.fB 3 1) (LW (λ_ h=>h.fB 70 3) (LW (λ_ h=>h.fB 67 3) (Ln (Eu (U0 O (λ_ h=>(Wv 1 (Wd 4 h):)) (Ya O) ?_))))));refine WU.nil (λ_ h=>(Wv 1 (Wd 4 h):)) ?_;refine WS.nil ?_;refine Et (Cs (Cs (Cr (V0 (Yf B5 O) (V0 (Yd 5 O O O FF) (V0 (Yn zL O) (V0 (Ym O) (Ln (Et (Cb ?_))))))))));refine cU (ι:=Nat×(SP×SP)×SP) (λg=>[(24,.int .i64 (g.1:Int))]) [(1,_),(2,_),(3,_),(4,_),(22,_),(23,_)] (λg=>Ws w [] ((aS 123 67 70 sb (⟨u.nm,.slice gk.1 u.ae.length gk.2,u.data,.slice g.2.2.1 (bV (u.parts.take g.1) ⟨[],[]⟩).1.length g.2.2.2,.int .i64 0⟩:gi) ⟨(bV (u.parts.take g.1) ⟨[],[]⟩).2,g.2.1.1,g.2.1.2⟩)++[bo 3 1 pI g.2.2.1 g.2.2.2 (bV (u.parts.take g.1) ⟨[],[]⟩).1,ab b2 (.cells (Value.cells (.agg #[st [],.slice none 0 0,.int .i64 0,.slice none 0 0,.slice none 0 0,.slice none 0 0,.int .i64 0])) 27 (0,0)),ab b1 (.cells (eV u r).toArray 58 (0,0))]) [F15,H]) (λg=>g.1<=u.parts.length) (λg=>u.parts.length-g.1) (0,(((none,0),(none,0)),(none,0))) (Nat.zero_le _) (sc O (sc O (sc O (sc O (sc O (sc O (sc O sn))))))) (λ_ h=>by exact ((((((h.f 5 O).f 5 O).f 4 O).f 4 O).f 4 O).f 5 O:)) ?_;intro g tq;refine Cs (Cr (V0 (bq O O) (Ln (Et (Cs ?_)))));refine Cc O (λar=>?_) (λar=>?_)
 ·have aw:g.1<u.parts.length:=by simpa using ar
  obtain ⟨x,bP⟩:∃q,u.parts[g.1]? = some q:=⟨_,List.getElem?_eq_getElem aw⟩;obtain ⟨hZ,h_,iE,ek⟩:=hu.parts.aZ g.1 x bP;obtain ⟨xr,bJ,gq⟩:=ek;have hww:=U6 bP;have n6:=Nw (u.parts.take g.1) ⟨[],[]⟩
  have kU:(bV (u.parts.take g.1) ⟨[],[]⟩).2.code.length<=8*k9 (u.parts.take g.1):=by have h9:=n6.1.hi; simpa using h9
  have kV:(bV (u.parts.take g.1) ⟨[],[]⟩).2.fix.length<=8*k9 (u.parts.take g.1):=by have h9:=n6.1.fG; simpa using h9
  have wg:(bV (u.parts.take g.1) ⟨[],[]⟩).1.length=g.1:=by rw [n6.2,List.length_take]; omega
  have hwx:DE x=1+dR x.body:=rfl;have aE:=fL x (List.mem_of_getElem? bP);have hT:=aeT bP ⟨[],[]⟩
  have IV:(bV (u.parts.take (g.1+1)) ⟨[],[]⟩).1=(bV (u.parts.take g.1) ⟨[],[]⟩).1++[(bV (u.parts.take g.1) ⟨[],[]⟩).2.code.length]:=by rw [hT]
  have IW:(bV (u.parts.take (g.1+1)) ⟨[],[]⟩).2=(lT x.params x.locals x.body (bV (u.parts.take g.1) ⟨[],[]⟩).2):=by rw [hT]
  refine Ck (Et (Cs (Cb (Cs (Cr (V0 (Yo zL O O iE aw) (V0 (cM 1 KV O O O (bJ)) ?_)))))));refine Al Y O FG λb6=>?_;refine an 0 Y O O O QX O O O (Ln (Et (fo 0 (.cells (AT x xr).toArray 125 (0,0)) O O ?_)));refine CU (λ_=>true) [1,1,1,1] [14] (.q false 0 (.q false 1 (.q false 2 (.q false 3 (.q false 4 (.q false 6 (.q true 7 (.e 5 (.e 8 (.e 9 (.e 10 (.q false 11 (.q false 12 (.q false 13 .nil))) .stop) .stop) .stop) (.e 8 (.e 5 (.e 9 (.e 10 (.q false 11 (.q false 12 (.q false 13 .nil))) .stop) .stop) (.e 9 (.e 5 (.e 10 (.q false 11 (.q false 12 (.q false 13 .nil))) .stop) .stop) .stop)) .stop))))))))) mixed (by kernel_rfl) (λ_ _ _ d _ _ h=>by cases d<;>exact h) ?_;refine U0 O (bk [1,1,1,1]) (Ym O) (U0 O (bk [1,1,1,1]) (Ym O) (U0 O (bk [1,1,1,1]) (aO O) (U0 O (bk [1,1,1,1]) (Yf l8 O) (U0 O (bk [1,1,1,1]) (Yf xx O) (U0 O (bk [1,1,1,1]) (Ym O) (U0 O (bk [1,1,1,1]) (bA 0 O O KV O) ?_))))));refine Ue O (bk [1,1,1,1]) ?_ ?_
  ·refine V0 (Yd 1 O O O dA) (Ln (Eu ?_));refine Ue O (bk [1,1,1,1]) ?_ WU.stop;refine Lf 3 O (Lf 3 O (Lf 3 O ?_));refine Lw (ι:=SP×SP) [_,_,_] _ Y O Ra O O (λ_=>.int .i64 (((bV (u.parts.take g.1) ⟨[],[]⟩).2).code.length:Int)) (λq=>(aS 123 67 70 sb (⟨u.nm,.slice gk.1 u.ae.length gk.2,u.data,.slice g.2.2.1 (bV (u.parts.take g.1) ⟨[],[]⟩).1.length g.2.2.2,.int .i64 0⟩:gi) ⟨(lT x.params x.locals x.body (bV (u.parts.take g.1) ⟨[],[]⟩).2),q.1,q.2⟩)) (λ_=>True) [H] (by simp) (λw hw=>(Q9 sb (⟨u.nm,.slice gk.1 u.ae.length gk.2,u.data,.slice g.2.2.1 (bV (u.parts.take g.1) ⟨[],[]⟩).1.length g.2.2.2,.int .i64 0⟩:gi) (⟨(bV (u.parts.take g.1) ⟨[],[]⟩).2,g.2.1.1,g.2.1.2⟩:a6) H ke k x.params x.locals x.body xr.1 xr.2 w gq aE (by show ((bV (u.parts.take g.1) ⟨[],[]⟩).2).code.length+8*(1+dR x.body)<=_; omega) (by show ((bV (u.parts.take g.1) ⟨[],[]⟩).2).fix.length+8*(1+dR x.body)<=_; omega) hw).mono λe w' ⟨q,h1,h2⟩=>⟨q,h1,trivial,h2⟩) ?_;intro mT _;refine Ln (Eu ?_);refine Ue O (λ_ h=>by exact (Wo 1 (Wo 1 (Wo 1 (Wo 1 (((((((h.f 6 O).f 6 O).f 6 O).f 5 O).f 5 O).f 5 O).f 6 O)))):)) ?_ WU.stop;refine Lb Y O gG O O O O λb37=>?_;refine bH 0 (.cells (pI (bV (u.parts.take g.1) ⟨[],[]⟩).2.code.length).toArray 3 (0,0)) O (O) (Ln (Eu ?_));refine Ue O (λ_ h=>by exact (Wo 1 (Wo 1 (Wo 1 (Wo 1 (Wt 7 (((((((h.f 7 O).f 7 O).f 7 O).f 6 O).f 6 O).f 6 O).f 7 O))))):)) ?_ WU.stop;refine LA ((bV (u.parts.take g.1) ⟨[],[]⟩).2.code.length) 5 0 Y O gG O O O O O O (by omega) (by omega) λxy xz=>?_;refine Ln (Eu (U0 O (λ_ h=>by exact (Wo 1 (Wo 1 (Wo 1 (Wo 1 (Wt 7 (((((((h.f 7 O).f 7 O).f 7 O).f 6 O).f 6 O).f 6 O).f 7 O))))):)) (aO O) (U0 O (λ_ h=>by exact (Wo 1 (Wo 1 (Wo 1 (Wo 1 (Wt 7 (((((((h.f 7 O).f 7 O).f 7 O).f 6 O).f 6 O).f 6 O).f 7 O))))):)) (Yf l8 O) (U0 O (λ_ h=>by exact (Wo 1 (Wo 1 (Wo 1 (Wo 1 (Wt 7 (((((((h.f 7 O).f 7 O).f 7 O).f 6 O).f 6 O).f 6 O).f 7 O))))):)) (Yf xx O) ?_))));refine WU.nil (λ_ h=>by exact (Wo 1 (Wo 1 (Wo 1 (Wo 1 (Wt 7 (((((((h.f 7 O).f 7 O).f 7 O).f 6 O).f 6 O).f 6 O).f 7 O))))):)) ?_;refine WS.e O ?_;refine an 1 Y O O O lC O O O (Ln (Es ?_));refine WS.nil ?_;refine Eb (Et (Cr (V0 (Yi O O O (by omega)) (V0 (Ym O) (Ln ?_)))));rw [<-IV,<-IW];refine WE.nB 1 (sE 123 (⟨u.nm,.slice gk.1 u.ae.length gk.2,u.data,.slice xy (bV (u.parts.take (g.1+1)) ⟨[],[]⟩).1.length xz,.int .i64 0⟩:gi) ⟨(bV (u.parts.take (g.1+1)) ⟨[],[]⟩).2,mT.1,mT.2⟩) O O ?_;exact Ea ((g.1+1,(mT,(xy,xz))):Nat×(SP×SP)×SP) (by show _-(g.1+1)<_; omega) (by show g.1+1<=_; omega) (sc O (sc O (sc O (sc O (sc O (sc O (sc O sn))))))) (λ_ h=>by exact (Wt 6 ((((((h.f 7 O).f 7 O).f 7 O).f 6 O).f 6 O).f 6 O):))
  refine Ue O (bk [1,1,1,1]) ?_ WU.stop;refine Lf 3 O (Lf 3 O (Lf 3 O ?_));refine Lw (ι:=SP×SP) [_,_,_] _ Y O Ra O O (λ_=>.int .i64 (((bV (u.parts.take g.1) ⟨[],[]⟩).2).code.length:Int)) (λq=>(aS 123 67 70 sb (⟨u.nm,.slice gk.1 u.ae.length gk.2,u.data,.slice g.2.2.1 (bV (u.parts.take g.1) ⟨[],[]⟩).1.length g.2.2.2,.int .i64 0⟩:gi) ⟨(lT x.params x.locals x.body (bV (u.parts.take g.1) ⟨[],[]⟩).2),q.1,q.2⟩)) (λ_=>True) [H] (by simp) (λw hw=>(Q9 sb (⟨u.nm,.slice gk.1 u.ae.length gk.2,u.data,.slice g.2.2.1 (bV (u.parts.take g.1) ⟨[],[]⟩).1.length g.2.2.2,.int .i64 0⟩:gi) (⟨(bV (u.parts.take g.1) ⟨[],[]⟩).2,g.2.1.1,g.2.1.2⟩:a6) H ke k x.params x.locals x.body xr.1 xr.2 w gq aE (by show ((bV (u.parts.take g.1) ⟨[],[]⟩).2).code.length+8*(1+dR x.body)<=_; omega) (by show ((bV (u.parts.take g.1) ⟨[],[]⟩).2).fix.length+8*(1+dR x.body)<=_; omega) hw).mono λe w' ⟨q,h1,h2⟩=>⟨q,h1,trivial,h2⟩) ?_;intro mT _;refine Ln (Eu ?_);refine Ue O (λ_ h=>by exact (Wo 1 (Wo 1 (Wo 1 (Wo 1 (((((((h.f 6 O).f 6 O).f 6 O).f 5 O).f 5 O).f 5 O).f 6 O)))):)) ?_ ?_
  ·refine V0 (Yd 0 O O O dA) (Ln (Eu ?_));refine Ue O (λ_ h=>by exact (Wo 1 (Wo 1 (Wo 1 (Wo 1 (((((((h.f 6 O).f 6 O).f 6 O).f 5 O).f 5 O).f 5 O).f 6 O)))):)) ?_ WU.stop;refine Lb Y O gG O O O O λb37=>?_;refine bH 0 (.cells (pI (bV (u.parts.take g.1) ⟨[],[]⟩).2.code.length).toArray 3 (0,0)) O (O) (Ln (Eu ?_));refine Ue O (λ_ h=>by exact (Wo 1 (Wo 1 (Wo 1 (Wo 1 (Wt 7 (((((((h.f 7 O).f 7 O).f 7 O).f 6 O).f 6 O).f 6 O).f 7 O))))):)) ?_ WU.stop;refine LA ((bV (u.parts.take g.1) ⟨[],[]⟩).2.code.length) 5 0 Y O gG O O O O O O (by omega) (by omega) λxy xz=>?_;refine Ln (Eu (U0 O (λ_ h=>by exact (Wo 1 (Wo 1 (Wo 1 (Wo 1 (Wt 7 (((((((h.f 7 O).f 7 O).f 7 O).f 6 O).f 6 O).f 6 O).f 7 O))))):)) (aO O) (U0 O (λ_ h=>by exact (Wo 1 (Wo 1 (Wo 1 (Wo 1 (Wt 7 (((((((h.f 7 O).f 7 O).f 7 O).f 6 O).f 6 O).f 6 O).f 7 O))))):)) (Yf l8 O) (U0 O (λ_ h=>by exact (Wo 1 (Wo 1 (Wo 1 (Wo 1 (Wt 7 (((((((h.f 7 O).f 7 O).f 7 O).f 6 O).f 6 O).f 6 O).f 7 O))))):)) (Yf xx O) ?_))));refine WU.nil (λ_ h=>by exact (Wo 1 (Wo 1 (Wo 1 (Wo 1 (Wt 7 (((((((h.f 7 O).f 7 O).f 7 O).f 6 O).f 6 O).f 6 O).f 7 O))))):)) ?_;refine WS.e O ?_;refine an 1 Y O O O lC O O O (Ln (Es ?_));refine WS.nil ?_;refine Eb (Et (Cr (V0 (Yi O O O (by omega)) (V0 (Ym O) (Ln ?_)))));rw [<-IV,<-IW];refine WE.nB 1 (sE 123 (⟨u.nm,.slice gk.1 u.ae.length gk.2,u.data,.slice xy (bV (u.parts.take (g.1+1)) ⟨[],[]⟩).1.length xz,.int .i64 0⟩:gi) ⟨(bV (u.parts.take (g.1+1)) ⟨[],[]⟩).2,mT.1,mT.2⟩) O O ?_;exact Ea ((g.1+1,(mT,(xy,xz))):Nat×(SP×SP)×SP) (by show _-(g.1+1)<_; omega) (by show g.1+1<=_; omega) (sc O (sc O (sc O (sc O (sc O (sc O (sc O sn))))))) (λ_ h=>by exact (Wt 6 ((((((h.f 7 O).f 7 O).f 7 O).f 6 O).f 6 O).f 6 O):))
  refine Ue O (λ_ h=>by exact (Wo 1 (Wo 1 (Wo 1 (Wo 1 (((((((h.f 6 O).f 6 O).f 6 O).f 5 O).f 5 O).f 5 O).f 6 O)))):)) ?_ WU.stop;refine Lb Y O gG O O O O λb37=>?_;refine bH 0 (.cells (pI (bV (u.parts.take g.1) ⟨[],[]⟩).2.code.length).toArray 3 (0,0)) O (O) (Ln (Eu ?_));refine Ue O (λ_ h=>by exact (Wo 1 (Wo 1 (Wo 1 (Wo 1 (Wt 7 (((((((h.f 7 O).f 7 O).f 7 O).f 6 O).f 6 O).f 6 O).f 7 O))))):)) ?_ WU.stop;refine V0 (Yd 1 O O O dA) (Ln (Eu ?_));refine Ue O (λ_ h=>by exact (Wo 1 (Wo 1 (Wo 1 (Wo 1 (Wt 7 (((((((h.f 7 O).f 7 O).f 7 O).f 6 O).f 6 O).f 6 O).f 7 O))))):)) ?_ WU.stop;refine LA ((bV (u.parts.take g.1) ⟨[],[]⟩).2.code.length) 5 0 Y O gG O O O O O O (by omega) (by omega) λxy xz=>?_;refine Ln (Eu (U0 O (λ_ h=>by exact (Wo 1 (Wo 1 (Wo 1 (Wo 1 (Wt 7 (((((((h.f 7 O).f 7 O).f 7 O).f 6 O).f 6 O).f 6 O).f 7 O))))):)) (aO O) (U0 O (λ_ h=>by exact (Wo 1 (Wo 1 (Wo 1 (Wo 1 (Wt 7 (((((((h.f 7 O).f 7 O).f 7 O).f 6 O).f 6 O).f 6 O).f 7 O))))):)) (Yf l8 O) (U0 O (λ_ h=>by exact (Wo 1 (Wo 1 (Wo 1 (Wo 1 (Wt 7 (((((((h.f 7 O).f 7 O).f 7 O).f 6 O).f 6 O).f 6 O).f 7 O))))):)) (Yf xx O) ?_))));refine WU.nil (λ_ h=>by exact (Wo 1 (Wo 1 (Wo 1 (Wo 1 (Wt 7 (((((((h.f 7 O).f 7 O).f 7 O).f 6 O).f 6 O).f 6 O).f 7 O))))):)) ?_;refine WS.e O ?_;refine an 1 Y O O O lC O O O (Ln (Es ?_));refine WS.nil ?_;refine Eb (Et (Cr (V0 (Yi O O O (by omega)) (V0 (Ym O) (Ln ?_)))));rw [<-IV,<-IW];refine WE.nB 1 (sE 123 (⟨u.nm,.slice gk.1 u.ae.length gk.2,u.data,.slice xy (bV (u.parts.take (g.1+1)) ⟨[],[]⟩).1.length xz,.int .i64 0⟩:gi) ⟨(bV (u.parts.take (g.1+1)) ⟨[],[]⟩).2,mT.1,mT.2⟩) O O ?_;exact Ea ((g.1+1,(mT,(xy,xz))):Nat×(SP×SP)×SP) (by show _-(g.1+1)<_; omega) (by show g.1+1<=_; omega) (sc O (sc O (sc O (sc O (sc O (sc O (sc O sn))))))) (λ_ h=>by exact (Wt 6 ((((((h.f 7 O).f 7 O).f 7 O).f 6 O).f 6 O).f 6 O):))
 have cz:g.1=u.parts.length:=by simp at ar; omega
 rw [cz,List.take_length];have n6:=Nw u.parts ⟨[],[]⟩
 have kU:(bV u.parts ⟨[],[]⟩).2.code.length<=8*k9 u.parts:=by have h9:=n6.1.hi; simpa using h9
 have kV:(bV u.parts ⟨[],[]⟩).2.fix.length<=8*k9 u.parts:=by have h9:=n6.1.fG; simpa using h9
 refine Ce (Ex (Ex (cf (Et (Cs (Cr (V0 (Ym O) (V0 (Ym O) (V0 (Yf QE O) (V0 (Yd 5 O O O n9) (V0 (Yb FG Z0 O O) ?_)))))))))));refine Lw (ι:=SP×SP) [_,_,_] _ Y O Ra O O (λ_=>.int .i64 (((bV u.parts ⟨[],[]⟩).2).code.length:Int)) (λq=>(aS 123 67 70 sb (⟨u.nm,.slice gk.1 u.ae.length gk.2,u.data,.slice g.2.2.1 (bV u.parts ⟨[],[]⟩).1.length g.2.2.2,.int .i64 0⟩:gi) ⟨(lT 0 0 u.main (bV u.parts ⟨[],[]⟩).2),q.1,q.2⟩)) (λ_=>True) [H] (by simp) (λw hw=>(Q9 sb (⟨u.nm,.slice gk.1 u.ae.length gk.2,u.data,.slice g.2.2.1 (bV u.parts ⟨[],[]⟩).1.length g.2.2.2,.int .i64 0⟩:gi) (⟨(bV u.parts ⟨[],[]⟩).2,g.2.1.1,g.2.1.2⟩:a6) H ke k 0 0 u.main r.s3.1 r.s3.2 w hu.main hom (by show ((bV u.parts ⟨[],[]⟩).2).code.length+8*(1+dR u.main)<=_; omega) (by show ((bV u.parts ⟨[],[]⟩).2).fix.length+8*(1+dR u.main)<=_; omega) hw).mono λe w' ⟨q,h1,h2⟩=>⟨q,h1,trivial,h2⟩) ?_;intro s9 _;refine V0 (aO O) (V0 (Yf l8 O) (V0 (Yf K9 O) (an 0 Y O O O bX O O O (Ln (Et (Cs (Cs (fo 0 (sE 123 (⟨u.nm,.slice gk.1 u.ae.length gk.2,u.data,.slice g.2.2.1 (bV u.parts ⟨[],[]⟩).1.length g.2.2.2,.int .i64 ((bV u.parts ⟨[],[]⟩).2.code.length:Int)⟩:gi) ⟨(lT 0 0 u.main (bV u.parts ⟨[],[]⟩).2),s9.1,s9.2⟩) O O (Cr (V0 (Ym O) ?_))))))))));refine V0 (aO O) (V0 (Yf l8 O) (V0 (Yf mY O) (V0 (Yd 0 O O O gn) (V0 (Yn ig O) (V0 (bZ O O) (Ln (Et ?_)))))));refine Cc O (λay=>?_) (λay=>?_)
 ·have hlen:2048<(DK u).g.code.length:=by
    have h9:=ay;simp at h9
    show 2048<((lT 0 0 u.main (bV u.parts ⟨[],[]⟩).2)).code.length
    omega
  refine Cs (Cr (V0 (Yb rR Q_ O O) (an 4 Y O O O tz O O O (V0 (Ya O) (Ln (Et (az (Er ?_))))))));refine WE.vT 4 O O O O o6 O λw' hw=>?_;rw [show kD u=(DI,2) from by rw [kD,if_neg (by rw [hx]; decide),if_pos hlen]];exact ⟨NB,O,hw.fr,U5 _⟩
 have hlen:¬2048<(DK u).g.code.length:=by
   have h9:=ay;simp at h9
   show ¬2048<((lT 0 0 u.main (bV u.parts ⟨[],[]⟩).2)).code.length
   omega
 refine Ck (Et (Cs (Cr (V0 (Ym O) (V0 (aO O) (V0 (Yf l8 O) (V0 (bA 0 O O o6 O) (an 4 Y O O O tz O O O (V0 (Ya O) (Ln (Et (az ?_))))))))))));refine WE.vT 4 O O O O o6 O λw' hw=>?_;rw [show kD u=(DK u,0) from by rw [kD,if_neg (by rw [hx]; decide),if_neg hlen]];exact ⟨⟨gk,s9.1,s9.2,g.2.2⟩,O,hw.fr,IL.imp (λ_ _ _ h=>aT.mono (bD hw (by simp) apN) h),hw.gv 1 O aN.a8 (λ_ _ _ _ h=>h),hw.gv 2 O dS.a8 (λ_ _ _ _ h=>h),hw.gv 3 O Ny (λ_ _ _ _ h=>h)⟩
def K_ (ke k:Nat) (H:View) (b o:Nat) (u:ed):Prop:=∃r:kz,aT H b o (eV u r)/\kA ke k H r u
structure avo (us:List ed) (nu:Nat) (al:Bool) (kn:List cF):Prop where
 len:kn.length=nu+1
 far:al=true->∀mi,0<mi->mi<=nu->kn[mi]? = some yk
 avq:∀mi,mi<=nu->(al=true->mi=0)->∃u,us[mi]? = some u/\kn[mi]? = some (gh u)
abbrev XU:=ed×kz
def XU.cells (e:XU):List Value:=eV e.1 e.2
theorem XU.a8 (e:XU):(XU.cells e).length=5:=rfl
theorem XU.one (e:XU):(XU.cells e).all (·.oneCell')=true:=rfl
def F_ (H:View) (b o:Nat) (e:XU):Prop:=aT H b o (XU.cells e)
theorem Lc {ke k:Nat} {K N:View} {a:Option Addr} {c:Nat} {es:List XU} (h:Sl F_ 5 K a c es) (hv:aL K N) (he:∀e ∈ es,kA ke k N e.2 e.1):Sl (K_ ke k) 5 N a c (es.map (·.1)):=by
 refine ⟨by rw [List.length_map]; exact h.cap,h.max,h.spot,λi x hx=>?_⟩;rw [List.getElem?_map] at hx;obtain ⟨y,hy,rfl⟩:=Option.map_eq_some_iff.1 hx;obtain ⟨b,o,ha,hr⟩:=h.aZ i y hy;exact ⟨b,o,ha,y.2,aT.mono hv hr,he y (List.mem_of_getElem? hy)⟩
end Go.Proofs.YtplfmnkmlaolpaaGreatDoor
end
