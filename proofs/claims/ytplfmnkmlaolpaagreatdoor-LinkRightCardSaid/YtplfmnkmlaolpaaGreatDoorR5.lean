/- LinkRight: what is linked is a right image, as long as all its objects and one more for each, and one. -/
import Derived.Test.YtplfmnkmlaolpaaGreatDoorRows
import Derived.Test.YtplfmnkmlaolpaaGreatDoorR4
set_option linter.unusedVariables false
set_option linter.unusedSimpArgs false
section
namespace Go.Proofs.YtplfmnkmlaolpaaGreatDoor
open Go.Bw
abbrev Rb:List ed:=[(cD iD []).1,(cD bj ei).1]
theorem apO:Ho Tryz.prog 67=some [0,0,0]:=by kernel_rfl
theorem Lg:aX Tryz.prog 27 0=some 0:=by kernel_rfl
theorem Ga:aX Tryz.prog 27 1=some 1:=by kernel_rfl
theorem Rc:aX Tryz.prog 27 2=some 2:=by kernel_rfl
theorem Cm:dL Tryz.prog 24=some 3:=by kernel_rfl
theorem aa3:Enters Tryz.prog 53:=enters_of Tryz.func53 (by kernel_rfl) rfl
theorem Rd:eQ Tryz.prog 70=some 3:=by kernel_rfl
theorem apP:Enters Tryz.prog 101:=enters_of Tryz.func101 (by kernel_rfl) rfl
theorem Gb:Enters Tryz.prog 100:=enters_of Tryz.func100 (by kernel_rfl) rfl
theorem apQ:Enters Tryz.prog 103:=enters_of Tryz.func103 (by kernel_rfl) rfl
theorem apR:Enters Tryz.prog 102:=enters_of Tryz.func102 (by kernel_rfl) rfl
theorem aa4:Enters Tryz.prog 104:=enters_of Tryz.func104 (by kernel_rfl) rfl
theorem Re:eS Tryz.prog 182 180 (.agg #[st [],.slice none 0 0]) 2 40:=gW (by kernel_rfl)
theorem Lh:eS Tryz.prog 49 58 (.agg #[st [],.slice none 0 0,.int .i64 0,.slice none 0 0,.slice none 0 0]) 5 96:=gW (by kernel_rfl)
theorem aa5 (G:View) (w:World) (hG:Le G w) (hz:Laid G) :
   Calls Tryz.prog 71 #[] w λe w'=>∃q:SP,e = .returned (.slice q.1 2 q.2)/\Ext w w'/\Sl (K_ 8 7) 5 (nv w w') q.1 q.2 Rb:=by
 refine enter Tryz.func71 O 27 O O ?_;refine CE (Vs:=[G]) (Ws.init (by simp [hG])) (Cs (Cr (V0 (Ya O) (Ln (Et (Cs (Cr ?_)))))));refine Ld Y O apP O (λr:lL=>.agg (gg iD r).toArray) (λH r=>nz 7 6 H r iD) (λw hw=>aol w) ?_;intro F8 r8 hf8 h8
 refine Ld Y O Gb O (λr:kz=>.tuple #[.agg (eV (cD iD []).1 r).toArray,.int .i64 (cD iD []).2]) (λF r=>kA (7+1) (6+1) F r (cD iD []).1) (λw hw=>by
     skip
     exact FH F8 F8 7 6 r8 iD none 0 [] w (hw.vs _ (by simp)) (hw.vs _ (by simp)) h8 Sl.nil aok) ?_
 intro F9 r9 xA h9;refine V0 (Ym O) (V0 (Yx O O) (V0 (Yx O O) ?_));refine Al Y O tm λb1=>?_;refine an 0 Y O O O tp O O O (V0 (Ya O) (Ln (Et (Cs (Cr (Lp Y O apQ O (λw hw=>aoH w) ?_))))))
 refine Ld Y O apR O (λr:lL=>.tuple #[.agg (gg (bj) r).toArray,.int .i64 ((jW p8).2)]) (λH r=>nz 7 6 H r (bj)) (λw hw=>by
     have:=alK G (p8) w (hw.vs _ (by simp)) hz
     exact this) ?_
 intro Cn lu Rf lp;refine V0 (Ym O) (V0 (Yx O O) (V0 (Yx O O) ?_));refine Al Y O vp λb3=>?_;refine an 0 Y O O O xh O O O (V0 (Ya O) (Ln (Et (Cs ?_))));refine WC.acI (.q 0 (.e 1 (.e 2 (.e 3 (.q 4 (.q 5 (.q 6 (.e 7 (.e 8 (.e 9 .nil .stop) .stop) .stop)))) (.e 7 (.e 3 (.q 4 (.q 5 (.q 6 (.e 8 (.e 9 .nil .stop) .stop)))) .stop) .stop)) (.e 7 (.e 2 (.e 3 (.q 4 (.q 5 (.q 6 (.e 8 (.e 9 .nil .stop) .stop)))) .stop) .stop) .stop)) (.e 7 (.e 1 (.e 2 (.e 3 (.q 4 (.q 5 (.q 6 (.e 8 (.e 9 .nil .stop) .stop)))) .stop) .stop) .stop) .stop))) mixed (by kernel_rfl) (λ_ _ _ d _ h=>by cases d<;>exact h) ?_;refine WT.q O Y O (λ_ h=>h) (bA 0 O O mU O) ?_;refine WT.e O (λ_ h=>h) ?_ ?_
 ·refine Ld Y O aa4 O (λr:SP=>.agg #[st aC,.slice r.1 vu.length r.2]) (λF r=>Sl lQ 4 F r.1 r.2 vu) (λw hw=>Zw w) ?_;intro ze oO JQ B6;refine Ln (ja ?_);refine WT.e O (λ_ h=>(Wv 1 h:)) ?_ ?_
  ·refine Lb Y O Re O O O O λjJ=>?_;refine Ln (ja ?_);refine WT.e O (λ_ h=>(Wv 1 (Wd 1 h):)) ?_ ?_
   ·refine Ld Y O Gb O (λr:kz=>.tuple #[.agg (eV (cD bj ei).1 r).toArray,.int .i64 (cD bj ei).2]) (λF r=>kA (7+1) (6+1) F r (cD bj ei).1) (λw hw=>by
        have th:Sl B2 2 (hv w) (some ⟨jJ,0,none⟩) 1 ei:=⟨by decide,by decide,by simp,λj x hj=>⟨jJ,0,rfl,by
          match j,hj with
          | 0,hj=>simp only [ei,List.getElem?_cons_zero,Option.some.injEq] at hj; subst hj; exact ⟨oO,λk v hk=>by
              match k,hk with
              | 0,hk=>simp [vB] at hk; subst hk; exact hw.gL 0 rfl rfl
              | 1,hk=>simp [vB] at hk; subst hk; exact hw.gL 0 rfl rfl,Ky (mm (hw.vs ze (by simp))) B6⟩⟩⟩
        exact FH Cn (hv w) 7 6 lu bj (some ⟨jJ,0,none⟩) 1 ei w (hw.vs _ (by simp)) (iq w) lp th (by have:=Kz p8; show wM (jW p8).1<=_; omega)) ?_
    intro Rg kg zX rT;refine Ln (ja ?_);refine WT.q O Y O (λ_ h=>(Wv 2 (Wd 1 h):)) (Ym O) ?_;refine WT.q O Y O (λ_ h=>(Wv 2 (Wd 1 h):)) (Yx O O) ?_;refine WT.q O Y O (λ_ h=>(Wv 2 (Wd 1 h):)) (Yx O O) ?_;refine WT.e O (λ_ h=>(Wv 2 (Wd 1 h):)) ?_ WT.stop;refine Al Y O tm λb5=>?_;refine Ln (ja ?_);refine WT.e O (λ_ h=>(Wv 2 (Wd 2 h):)) ?_ WT.stop;refine an 0 Y O O O tp O O O (Ln (ja ?_));refine WT.e O (λ_ h=>(Wv 2 (Wd 2 h):)) ?_ WT.stop;refine V0 (Ya O) (Ln (ja ?_));refine WT.nil (λ_ h=>(Wv 2 (Wd 2 h):)) ?_;refine Et (Cs ?_);obtain ⟨cu,mZ⟩:∃c,c=(cD iD []).1:=⟨_,rfl⟩;obtain ⟨tu,m_⟩:∃c,c=(cD bj ei).1:=⟨_,rfl⟩;rw [<-mZ,<-m_];rw [<-mZ] at h9;rw [<-m_] at rT;refine Cr (V0 (bA 3 O O jl O) (V0 (bA 0 O O jl O) ?_));refine Lb Y O Lh O O O O λvq=>?_;refine bH 0 (.cells ((([(cu,r9),(tu,kg)]:List XU)).flatMap XU.cells).toArray 58 (0,0)) O O (LW (λ_ h=>h.ou (f:=XU.cells) (xs:=([(cu,r9),(tu,kg)]:List XU)) (c:=2) 0 O XU.a8 O (by decide)) (V0 (Ya O) (Ln (Et (az ?_)))));refine R1 O O λw' hw=>?_;have zY:=h9;refine ⟨(some ⟨vq,0,none⟩,2),O,hw.fr,?_⟩
    show Sl _ _ _ _ _ [(cD iD []).1,(cD bj ei).1]
    rw [<-mZ,<-m_];have h9:=hw.gv (rd:=F_) 0 rfl XU.a8 (λ_ _ _ _ h=>h)
    exact Lc (es:=[(cu,r9),(tu,kg)]) h9 (λ_ _ h=>h) λe he=>by
      simp only [List.mem_cons,List.not_mem_nil,or_false] at he
      rcases he with rfl | rfl
      · exact zY.mv (bD hw (by simp) xA)
      · exact rT.mv (bD hw (by simp) zX)
   refine WT.e O (λ_ h=>(Wv 1 (Wd 1 h):)) ?_ WT.stop;refine Al Y O tm λb5=>?_;refine Ln (ja ?_);refine WT.e O (λ_ h=>(Wv 1 (Wd 2 h):)) ?_ WT.stop
   refine Ld Y O Gb O (λr:kz=>.tuple #[.agg (eV (cD bj ei).1 r).toArray,.int .i64 (cD bj ei).2]) (λF r=>kA (7+1) (6+1) F r (cD bj ei).1) (λw hw=>by
       have th:Sl B2 2 (hv w) (some ⟨jJ,0,none⟩) 1 ei:=⟨by decide,by decide,by simp,λj x hj=>⟨jJ,0,rfl,by
         match j,hj with
         | 0,hj=>simp only [ei,List.getElem?_cons_zero,Option.some.injEq] at hj; subst hj; exact ⟨oO,λk v hk=>by
             match k,hk with
             | 0,hk=>simp [vB] at hk; subst hk; exact hw.gL 1 rfl rfl
             | 1,hk=>simp [vB] at hk; subst hk; exact hw.gL 1 rfl rfl,Ky (mm (hw.vs ze (by simp))) B6⟩⟩⟩
       exact FH Cn (hv w) 7 6 lu bj (some ⟨jJ,0,none⟩) 1 ei w (hw.vs _ (by simp)) (iq w) lp th (by have:=Kz p8; show wM (jW p8).1<=_; omega)) ?_
   intro Rg kg zX rT;refine Ln (ja ?_);refine WT.q O Y O (λ_ h=>(Wv 2 (Wd 2 h):)) (Ym O) ?_;refine WT.q O Y O (λ_ h=>(Wv 2 (Wd 2 h):)) (Yx O O) ?_;refine WT.q O Y O (λ_ h=>(Wv 2 (Wd 2 h):)) (Yx O O) ?_;refine WT.e O (λ_ h=>(Wv 2 (Wd 2 h):)) ?_ WT.stop;refine an 0 Y O O O tp O O O (Ln (ja ?_));refine WT.e O (λ_ h=>(Wv 2 (Wd 2 h):)) ?_ WT.stop;refine V0 (Ya O) (Ln (ja ?_));refine WT.nil (λ_ h=>(Wv 2 (Wd 2 h):)) ?_;refine Et (Cs ?_);obtain ⟨cu,mZ⟩:∃c,c=(cD iD []).1:=⟨_,rfl⟩;obtain ⟨tu,m_⟩:∃c,c=(cD bj ei).1:=⟨_,rfl⟩;rw [<-mZ,<-m_];rw [<-mZ] at h9;rw [<-m_] at rT;refine Cr (V0 (bA 3 O O jl O) (V0 (bA 0 O O jl O) ?_));refine Lb Y O Lh O O O O λvq=>?_;refine bH 0 (.cells ((([(cu,r9),(tu,kg)]:List XU)).flatMap XU.cells).toArray 58 (0,0)) O O (LW (λ_ h=>h.ou (f:=XU.cells) (xs:=([(cu,r9),(tu,kg)]:List XU)) (c:=2) 0 O XU.a8 O (by decide)) (V0 (Ya O) (Ln (Et (az ?_)))));refine R1 O O λw' hw=>?_;have zY:=h9;refine ⟨(some ⟨vq,0,none⟩,2),O,hw.fr,?_⟩
   show Sl _ _ _ _ _ [(cD iD []).1,(cD bj ei).1]
   rw [<-mZ,<-m_];have h9:=hw.gv (rd:=F_) 0 rfl XU.a8 (λ_ _ _ _ h=>h)
   exact Lc (es:=[(cu,r9),(tu,kg)]) h9 (λ_ _ h=>h) λe he=>by
     simp only [List.mem_cons,List.not_mem_nil,or_false] at he
     rcases he with rfl | rfl
     · exact zY.mv (bD hw (by simp) xA)
     · exact rT.mv (bD hw (by simp) zX)
  refine WT.e O (λ_ h=>(Wv 1 h:)) ?_ WT.stop;refine Al Y O tm λb5=>?_;refine Ln (ja ?_);refine WT.e O (λ_ h=>(Wv 1 (Wd 1 h):)) ?_ WT.stop;refine Lb Y O Re O O O O λjJ=>?_;refine Ln (ja ?_);refine WT.e O (λ_ h=>(Wv 1 (Wd 2 h):)) ?_ WT.stop
  refine Ld Y O Gb O (λr:kz=>.tuple #[.agg (eV (cD bj ei).1 r).toArray,.int .i64 (cD bj ei).2]) (λF r=>kA (7+1) (6+1) F r (cD bj ei).1) (λw hw=>by
      have th:Sl B2 2 (hv w) (some ⟨jJ,0,none⟩) 1 ei:=⟨by decide,by decide,by simp,λj x hj=>⟨jJ,0,rfl,by
        match j,hj with
        | 0,hj=>simp only [ei,List.getElem?_cons_zero,Option.some.injEq] at hj; subst hj; exact ⟨oO,λk v hk=>by
            match k,hk with
            | 0,hk=>simp [vB] at hk; subst hk; exact hw.gL 0 rfl rfl
            | 1,hk=>simp [vB] at hk; subst hk; exact hw.gL 0 rfl rfl,Ky (mm (hw.vs ze (by simp))) B6⟩⟩⟩
      exact FH Cn (hv w) 7 6 lu bj (some ⟨jJ,0,none⟩) 1 ei w (hw.vs _ (by simp)) (iq w) lp th (by have:=Kz p8; show wM (jW p8).1<=_; omega)) ?_
  intro Rg kg zX rT;refine Ln (ja ?_);refine WT.q O Y O (λ_ h=>(Wv 2 (Wd 2 h):)) (Ym O) ?_;refine WT.q O Y O (λ_ h=>(Wv 2 (Wd 2 h):)) (Yx O O) ?_;refine WT.q O Y O (λ_ h=>(Wv 2 (Wd 2 h):)) (Yx O O) ?_;refine WT.e O (λ_ h=>(Wv 2 (Wd 2 h):)) ?_ WT.stop;refine an 1 Y O O O tp O O O (Ln (ja ?_));refine WT.e O (λ_ h=>(Wv 2 (Wd 2 h):)) ?_ WT.stop;refine V0 (Ya O) (Ln (ja ?_));refine WT.nil (λ_ h=>(Wv 2 (Wd 2 h):)) ?_;refine Et (Cs ?_);obtain ⟨cu,mZ⟩:∃c,c=(cD iD []).1:=⟨_,rfl⟩;obtain ⟨tu,m_⟩:∃c,c=(cD bj ei).1:=⟨_,rfl⟩;rw [<-mZ,<-m_];rw [<-mZ] at h9;rw [<-m_] at rT;refine Cr (V0 (bA 3 O O jl O) (V0 (bA 1 O O jl O) ?_));refine Lb Y O Lh O O O O λvq=>?_;refine bH 0 (.cells ((([(cu,r9),(tu,kg)]:List XU)).flatMap XU.cells).toArray 58 (0,0)) O O (LW (λ_ h=>h.ou (f:=XU.cells) (xs:=([(cu,r9),(tu,kg)]:List XU)) (c:=2) 0 O XU.a8 O (by decide)) (V0 (Ya O) (Ln (Et (az ?_)))));refine R1 O O λw' hw=>?_;have zY:=h9;refine ⟨(some ⟨vq,0,none⟩,2),O,hw.fr,?_⟩
  show Sl _ _ _ _ _ [(cD iD []).1,(cD bj ei).1]
  rw [<-mZ,<-m_];have h9:=hw.gv (rd:=F_) 0 rfl XU.a8 (λ_ _ _ _ h=>h)
  exact Lc (es:=[(cu,r9),(tu,kg)]) h9 (λ_ _ h=>h) λe he=>by
    simp only [List.mem_cons,List.not_mem_nil,or_false] at he
    rcases he with rfl | rfl
    · exact zY.mv (bD hw (by simp) xA)
    · exact rT.mv (bD hw (by simp) zX)
 refine WT.e O (λ_ h=>h) ?_ WT.stop;refine Al Y O tm λb5=>?_;refine Ln (ja ?_);refine WT.e O (λ_ h=>(Wd 1 h:)) ?_ WT.stop;refine Ld Y O aa4 O (λr:SP=>.agg #[st aC,.slice r.1 vu.length r.2]) (λF r=>Sl lQ 4 F r.1 r.2 vu) (λw hw=>Zw w) ?_;intro ze oO JQ B6;refine Ln (ja ?_);refine WT.e O (λ_ h=>(Wv 1 (Wd 1 h):)) ?_ WT.stop;refine Lb Y O Re O O O O λjJ=>?_;refine Ln (ja ?_);refine WT.e O (λ_ h=>(Wv 1 (Wd 2 h):)) ?_ WT.stop
 refine Ld Y O Gb O (λr:kz=>.tuple #[.agg (eV (cD bj ei).1 r).toArray,.int .i64 (cD bj ei).2]) (λF r=>kA (7+1) (6+1) F r (cD bj ei).1) (λw hw=>by
     have th:Sl B2 2 (hv w) (some ⟨jJ,0,none⟩) 1 ei:=⟨by decide,by decide,by simp,λj x hj=>⟨jJ,0,rfl,by
       match j,hj with
       | 0,hj=>simp only [ei,List.getElem?_cons_zero,Option.some.injEq] at hj; subst hj; exact ⟨oO,λk v hk=>by
           match k,hk with
           | 0,hk=>simp [vB] at hk; subst hk; exact hw.gL 0 rfl rfl
           | 1,hk=>simp [vB] at hk; subst hk; exact hw.gL 0 rfl rfl,Ky (mm (hw.vs ze (by simp))) B6⟩⟩⟩
     exact FH Cn (hv w) 7 6 lu bj (some ⟨jJ,0,none⟩) 1 ei w (hw.vs _ (by simp)) (iq w) lp th (by have:=Kz p8; show wM (jW p8).1<=_; omega)) ?_
 intro Rg kg zX rT;refine Ln (ja ?_);refine WT.q O Y O (λ_ h=>(Wv 2 (Wd 2 h):)) (Ym O) ?_;refine WT.q O Y O (λ_ h=>(Wv 2 (Wd 2 h):)) (Yx O O) ?_;refine WT.q O Y O (λ_ h=>(Wv 2 (Wd 2 h):)) (Yx O O) ?_;refine WT.e O (λ_ h=>(Wv 2 (Wd 2 h):)) ?_ WT.stop;refine an 1 Y O O O tp O O O (Ln (ja ?_));refine WT.e O (λ_ h=>(Wv 2 (Wd 2 h):)) ?_ WT.stop;refine V0 (Ya O) (Ln (ja ?_));refine WT.nil (λ_ h=>(Wv 2 (Wd 2 h):)) ?_;refine Et (Cs ?_);obtain ⟨cu,mZ⟩:∃c,c=(cD iD []).1:=⟨_,rfl⟩;obtain ⟨tu,m_⟩:∃c,c=(cD bj ei).1:=⟨_,rfl⟩;rw [<-mZ,<-m_];rw [<-mZ] at h9;rw [<-m_] at rT;refine Cr (V0 (bA 3 O O jl O) (V0 (bA 1 O O jl O) ?_));refine Lb Y O Lh O O O O λvq=>?_;refine bH 0 (.cells ((([(cu,r9),(tu,kg)]:List XU)).flatMap XU.cells).toArray 58 (0,0)) O O (LW (λ_ h=>h.ou (f:=XU.cells) (xs:=([(cu,r9),(tu,kg)]:List XU)) (c:=2) 0 O XU.a8 O (by decide)) (V0 (Ya O) (Ln (Et (az ?_)))));refine R1 O O λw' hw=>?_;have zY:=h9;refine ⟨(some ⟨vq,0,none⟩,2),O,hw.fr,?_⟩
 show Sl _ _ _ _ _ [(cD iD []).1,(cD bj ei).1]
 rw [<-mZ,<-m_];have h9:=hw.gv (rd:=F_) 0 rfl XU.a8 (λ_ _ _ _ h=>h)
 exact Lc (es:=[(cu,r9),(tu,kg)]) h9 (λ_ _ h=>h) λe he=>by
   simp only [List.mem_cons,List.not_mem_nil,or_false] at he
   rcases he with rfl | rfl
   · exact zY.mv (bD hw (by simp) xA)
   · exact rT.mv (bD hw (by simp) zX)
theorem apS (nm s:List UInt8):dU s [((nm,.int .i64 1,0):cV (List UInt8))] (.int .i64 0) = .int .i64 ((([nm]:List (List UInt8)).count s:Nat):Int):=by
 by_cases h:nm=s
 · subst h; simp [dU,bG]
 · have h2:¬s=nm:=λe=>h e.symm
   simp [dU,bG,h,h2,List.count_cons]
theorem apT {seen:List (List UInt8)} {M:List (cV (List UInt8))} (h:∀s,dU s M (.int .i64 0) = .int .i64 ((seen.count s:Nat):Int)) (x:List UInt8) (c:Nat):∀s,dU s (dN x (.int .i64 (((seen.count x:Nat):Int)+1)) M c) (.int .i64 0) = .int .i64 (((seen++[x]).count s:Nat):Int):=by
 intro s
 by_cases e:s=x
 · subst e
   rw [A7,List.count_append];simp
 · rw [Im _ M c _ e,h s,List.count_append]
   have e2:¬x=s:=λk=>e k.symm;simp [List.count_cons,e2]
theorem Rh:cq Tryz.prog 67=some 3:=by kernel_rfl
theorem zZ:aX Tryz.prog 67 0=some 0:=by kernel_rfl
theorem Li:Enters Tryz.prog 30:=enters_of Tryz.func30 (by kernel_rfl) rfl
theorem Ri:cq Tryz.prog 70=some 3:=by kernel_rfl
theorem Co:aX Tryz.prog 70 0=some 0:=by kernel_rfl
theorem Rj:aX Tryz.prog 70 1=some 1:=by kernel_rfl
theorem z1:aX Tryz.prog 70 2=some 2:=by kernel_rfl
theorem Lj (H:View) (b n:Nat) (x:Int) (w:World) (hH:Le H w) (h0:vc H b 0=some (.int .i64 (n:Int))) :
   Calls Tryz.prog 30 #[.int .i64 x,.pointer (some ⟨b,0,none⟩)] w λe w'=>e = .returned (.bool (fI n x))/\Ext w w':=by
 refine enter Tryz.func30 O 11 O O ?_;refine CE (Vs:=[H]) (Ws.init (by simp [hH])) (Cs (Cr (V0 (Ya O) (Ln (Et (Cs (Cr (V0 (Ym O) (V0 (fm O O) (V0 (Ym O) ?_))))))))));apply La 3 O O O O Y O O O O O
 ·intro de;refine Vg (Ym O) (Vg (dm 0 aq O O (h0)) (Vg (bq O O) ?_));exact Gt 3 O O O
 refine V0 (Ya O) (Ln (Et (az ?_)));refine R1 O O λw' hw=>?_;exact ⟨O,hw.fr⟩
theorem apU (H:View) (o:aH) (q:mG) (w:World) (hH:Le H w) (hm:qU H q o) :
   Calls Tryz.prog 10 #[.agg (iM o q).toArray] w λe w'=>e = .returned (.int .i64 (gj o))/\Ext w w':=by
 have avr:=hm.ae.cap;have avs:=hm.ae.max;have avt:=hm.code.cap;have avu:=hm.code.max;have avv:=hm.fix.cap;have avw:=hm.fix.max;have avx:=hm.di.cap;have avy:=hm.di.max;refine enter Tryz.func10 O 191 O O ?_;refine CE (Vs:=[H]) (Ws.init (by simp [hH])) (Cs (Cr ?_));refine WL.box Y O O λb1=>?_;refine V0 (Ya O) (Ln (Et (Cs (Cr (V0 (Yf mY O) (V0 (Yd 0 O O O gn) (V0 (Yn ig O) ?_)))))));refine Al Y O nZ λb3=>?_;refine an 0 Y O O O bX O O O (Ln (Et (Cs (Cs (fo 0 (.cells ([.int .i64 (o.code.length:Int)]).toArray 3 (0,0)) O O (Cr (V0 (Yf Ga O) (V0 (Yd 1 O O O fh) (V0 (Yn dY O) (V0 (bZ O O) ?_))))))))));refine V0 (Ym O) ?_;apply Lo 4 O O O O Y O O O O O
 ·intro de;refine Vg (Yf xx O) (Vg (Yd 1 O O O dA) (Vg (Yn dK O) (Vg (bZ O O) ?_)));exact Gt 4 O O O
 refine V0 (Ym O) ?_;apply Lo 2 O O O O Y O O O O O
 ·intro bK;refine Vg (Yd 0 O O O aq) (Vg (bq O O) ?_);exact Gt 2 O O O
 refine V0 (Ym O) ?_;apply Lo 2 O O O O Y O O O O O
 ·intro hY;refine Vg (Yd 0 O O O aq) (Vg (bZ O O) ?_);exact Gt 2 O O O
 refine Ln (Et ?_);refine Cc O (λad=>?_) (λad=>?_)
 ·refine Cs (Cr (V0 (Ya O) (Ln (Et (az (Er ?_))))));refine R1 O O λw' hw=>?_;exact ⟨by rw [gj,if_pos (show sI o=true from ad)],hw.fr⟩
 have Gc:sI o=false:=ad
 have hU3:o.ae.length<=3:=by
   unfold sI at Gc;simp only [Bool.or_eq_false_iff,decide_eq_false_iff_not] at Gc;omega
 refine Ck (Et (Cs (Cr ?_)));refine WL.ss st Y O λvd=>?_;refine V0 (Yf Lg O) (V0 (Yd 2 O O O df) ?_);refine WL.mu 0 jv Y jk e7 O O O O ?_;refine V0 (Ym O) (V0 (Ya O) (Ln (Et (Cs (Cr (V0 (Yf Lg O) (V0 (Yd 2 O O O df) (Lp Y O rb O (λw hw=>ra _ w) (V0 (Ym O) ?_)))))))));apply La 3 O O O O Y O O O O O
 ·intro mM;refine Vg (Yf Rc O) (Vg (Yd 2 O O O aq) (Vg (fm O O) ?_));exact Gt 3 O O O
 refine V0 (Ym O) ?_;apply La 3 O O O O Y O O O O O
 ·intro yG;refine Vg (Yf Rc O) (Vg (Yd 2 O O O aq) (Vg (ij O O) ?_));exact Gt 3 O O O
 refine V0 (Ya O) (Ln (Et (Cs (Cs (Cr (V0 (Yf Ga O) (V0 (Yd 2 O O O fh) (V0 (Yn dY O) (V0 (Ym O) (Ln (Et (Cb ?_))))))))))));refine cU (ι:=Nat×List (cV (List UInt8))×Nat×Bool) (λg=>[(58,.int .i64 (g.1:Int)),(5,.bool g.2.2.2)]) [(1,_),(2,_),(3,_),(4,_),(56,_),(57,_)] (λg=>Ws w [] [ab vd (bn st g.2.1 g.2.2.1),ab b3 (.cells #[.int .i64 (o.code.length:Int)] 3 (0,0)),ab b1 (.cells (iM o q).toArray 27 (0,0))] [H]) (λg=>g.1<=o.ae.length/\(∀s,dU s g.2.1 (.int .i64 0) = .int .i64 (((o.nm::o.ae.take g.1).count s:Nat):Int))/\mH (o.nm::o.ae.take g.1) (o.ae.drop g.1) g.2.2.2=mH [o.nm] o.ae (uy o)) (λg=>o.ae.length-g.1) (0,[((o.nm,.int .i64 1,0):cV (List UInt8))],1,uy o) ⟨Nat.zero_le _,apS o.nm,O⟩ (sc O (sc O (sc O (sc O (sc O (sc O (sc O (sc O sn)))))))) (λ_ h=>h) ?_;intro g ⟨tq,hM,Gd⟩;refine Cs (Cr (V0 (bq O O) (Ln (Et (Cs ?_)))));refine Cc O (λar=>?_) (λar=>?_)
 ·have aw:g.1<o.ae.length:=by simpa using ar
  obtain ⟨s,jr⟩:∃q,o.ae[g.1]? = some q:=⟨_,List.getElem?_eq_getElem aw⟩;obtain ⟨zH,pos,has,mX⟩:=hm.ae.aZ g.1 s jr;have mX:aT H zH (pos+g.1*1) (d_ s):=mX
  have hT:(o.nm::o.ae.take g.1)++[s]=o.nm::o.ae.take (g.1+1):=by rw [List.take_add_one,jr]; simp
  have k6:((o.nm::o.ae.take g.1).count s:Nat)<=4:=by
    have h9:(o.nm::o.ae.take g.1).count s<=(o.nm::o.ae.take g.1).length:=List.count_le_length;simp at h9; omega
  refine Ck (Et (Cs (Cb (Cs (Cr (V0 (Yo dY O O has aw) (V0 (dm 0 df O O (mX 0 _ O)) (V0 (Ya O) (Ln (Et (Cs (Cr (V0 (Ym O) (V0 (Ym O) (V0 (AI 0 jv jk e7 nZ O O O) ?_)))))))))))))));rw [hM s];refine V0 (lH O O (by omega)) ?_;refine WL.vX 0 jv Y jk e7 O O O O ?_;refine Ln (Et (Cr (V0 (Ym O) (V0 (Ym O) ?_))));apply La 2 (x:=dZ s) O O O O Y O O O O O
  ·intro pO;refine Vg (Ym O) (Lp (.g O O O) O rb O (λw hw=>ra _ w) ?_);exact Gt 2 O O O
  refine V0 (Ym O) ?_;apply La 4 (x:=((((o.nm::o.ae.take g.1).count s:Nat):Int)+1==1)) O O O O Y O O O O O
  ·intro FP;refine Vg (Ym O) (Vg (Ym O) (Vg (AI 0 jv jk e7 nZ O O O) ?_));rw [A7];refine Vg (aG O O) ?_;exact Gt 4 O O O
  refine V0 (Ya O) (Ln (Eb (Et (Cr (V0 (Yi O O O (by omega)) (V0 (Ym O) (Ln ?_)))))));exact Ea ((g.1+1,_,_,((g.2.2.2&&dZ s)&&((((o.nm::o.ae.take g.1).count s:Nat):Int)+1==1))):Nat×List (cV (List UInt8))×Nat×Bool) (by show _-(g.1+1)<_; omega) ⟨(by show g.1+1<=_; omega),(by rw [<-hT]; exact apT hM s _),(afc (seen:=[o.nm]) jr _).symm.trans Gd⟩ (sc O (sc O (sc O (sc O (sc O (sc O (sc O (sc O sn)))))))) (λ_ h=>h)
 have cz:g.1=o.ae.length:=by simp at ar; omega
 rw [cz,List.drop_length] at Gd;have Gd:g.2.2.2=mH [o.nm] o.ae (uy o):=Gd;refine Ce (Ex (Ex (cf (Et (Cs (Cs (Cr (V0 (Yf mY O) (V0 (Yd 2 O O O gn) (V0 (Yn ig O) (V0 (Ym O) (Ln (Et (Cb ?_))))))))))))));refine cU (ι:=Nat×Bool) (λe1=>[(81,.int .i64 (e1.1:Int)),(5,.bool e1.2)]) [(1,_),(2,_),(3,_),(79,_),(80,_)] (λe1=>Ws w [] [ab vd (bn st g.2.1 g.2.2.1),ab b3 (.cells #[.int .i64 (o.code.length:Int)] 3 (0,0)),ab b1 (.cells (iM o q).toArray 27 (0,0))] [H]) (λe1=>e1.1<=o.code.length/\oH (o.code.drop e1.1) e1.2=oH o.code (mH [o.nm] o.ae (uy o))) (λe1=>o.code.length-e1.1) (0,g.2.2.2) ⟨Nat.zero_le _,(by rw [Gd]; rfl)⟩ (sc O (sc O (sc O (sc O (sc O (sc O (sc O sn))))))) (λ_ h=>h) ?_;intro e1 ⟨Ge,Gf⟩;refine Cs (Cr (V0 (bq O O) (Ln (Et (Cs ?_)))));refine Cc O (λay=>?_) (λay=>?_)
 ·have aw:e1.1<o.code.length:=by simpa using ay
  obtain ⟨x,bP⟩:∃q,o.code[e1.1]? = some q:=⟨_,List.getElem?_eq_getElem aw⟩;obtain ⟨hZ,h_,iE,ek⟩:=hm.code.aZ e1.1 x bP;have ek:aT H hZ (h_+e1.1*3) x.cells:=ek;refine Ck (Et (Cs (Cb (Cs (Cr (V0 (Yo ig O O iE aw) (V0 (cM 0 B_ O O O (ek)) ?_)))))));refine Al Y O fk λb9=>?_;refine an 0 Y O O O Rh O O O (Ln (Et (fo 0 (.cells (x.cells).toArray 67 (0,0)) O O (Cr (V0 (Ym O) (V0 (Ym O) ?_))))));apply La 3 O O O O Y O O O O O
  ·intro FR;refine Vg (Yf zZ O) (Vg (Yd 0 O O O aq) (Vg (fm O O) ?_));exact Gt 3 O O O
  refine V0 (Ym O) ?_;apply La 3 O O O O Y O O O O O
  ·intro hg8;refine Vg (Yf zZ O) (Vg (Yd 0 O O O aq) (Vg (ij O O) ?_));exact Gt 3 O O O
  refine V0 (Ya O) (Ln (Eb (Et (Cr (V0 (Yi O O O (by omega)) (V0 (Ym O) (Ln ?_)))))));exact Ea ((e1.1+1,_):Nat×Bool) (by show _-(e1.1+1)<_; omega) ⟨(by show e1.1+1<=_; omega),(afd bP _).symm.trans Gf⟩ (sc O (sc O (sc O (sc O (sc O (sc O (sc O sn))))))) (λ_ h=>Wd 1 h)
 have apV:e1.1=o.code.length:=by simp at ay; omega
 rw [apV,List.drop_length] at Gf;have Gf:e1.2=oH o.code (mH [o.nm] o.ae (uy o)):=Gf;refine Ce (Ex (Ex (cf (Et (Cs (Cr (V0 (C7 O) (V0 (Ya O) (Ln (Et (Cs (Cs (Cr (V0 (Yf xx O) (V0 (Yd 2 O O O dA) (V0 (Yn dK O) ?_))))))))))))))));refine V0 (Ym O) (Ln (Et (Cb ?_)));refine cU (ι:=Nat×Bool) (λe2=>[(101,.int .i64 (e2.1:Int)),(5,.bool e2.2)]) [(1,_),(2,_),(3,_),(10,_),(99,_),(100,_)] (λe2=>Ws w [] [ab vd (bn st g.2.1 g.2.2.1),ab b3 (.cells #[.int .i64 (o.code.length:Int)] 3 (0,0)),ab b1 (.cells (iM o q).toArray 27 (0,0))] [H]) (λe2=>e2.1<=o.di.length/\qV o.code.length (o.di.drop e2.1) e2.2=qV o.code.length o.di (oH o.code (mH [o.nm] o.ae (uy o)))) (λe2=>o.di.length-e2.1) (0,e1.2) ⟨Nat.zero_le _,(by rw [Gf]; rfl)⟩ (sc O (sc O (sc O (sc O (sc O (sc O (sc O (sc O sn)))))))) (λ_ h=>h) ?_;intro e2 ⟨A6,Gg⟩;refine Cs (Cr (V0 (bq O O) (Ln (Et (Cs ?_)))));refine Cc O (λaM=>?_) (λaM=>?_)
 ·have aw:e2.1<o.di.length:=by simpa using aM
  obtain ⟨x,bP⟩:∃q,o.di[e2.1]? = some q:=⟨_,List.getElem?_eq_getElem aw⟩;obtain ⟨hZ,h_,iE,ek⟩:=hm.di.aZ e2.1 x bP;have ek:aT H hZ (h_+e2.1*1) (mD x):=ek;refine Ck (Et (Cs (Cb (Cs (Cr (V0 (Yo dK O O iE aw) (V0 (dm 0 aq O O (ek 0 _ O)) (V0 (Ya O) (Ln (Et (Cr (V0 (Ym O) (V0 (Ym O) ?_)))))))))))));apply La 3 (x:=fI o.code.length x) O O O O Y O O O O O
  ·intro QV;refine Vg (Ym O) (Vg (Ym O) ?_);refine WL.Hk (.g O O O) O Li O O (λw hw=>Lj (hv w) b3 o.code.length (x) w (iq w) (wb (hw.nC 1 O) O)) ?_;exact Gt 3 O O O
  refine V0 (Ya O) (Ln (Eb (Et (Cr (V0 (Yi O O O (by omega)) (V0 (Ym O) (Ln ?_)))))));exact Ea ((e2.1+1,(e2.2&&fI o.code.length x)):Nat×Bool) (by show _-(e2.1+1)<_; omega) ⟨(by show e2.1+1<=_; omega),(afe bP _).symm.trans Gg⟩ (sc O (sc O (sc O (sc O (sc O (sc O (sc O (sc O sn)))))))) (λ_ h=>h)
 have wG:e2.1=o.di.length:=by simp at aM; omega
 rw [wG,List.drop_length] at Gg;have Gg:e2.2=qV o.code.length o.di (oH o.code (mH [o.nm] o.ae (uy o))):=Gg;refine Ce (Ex (Ex (cf (Et (Cs (Cr (V0 (Ya O) (Ln (Et (Cs (Cs (Cr (V0 (Yf FW O) (V0 (Yd 2 O O O K1) (V0 (Yn Cm O) (V0 (Ym O) ?_))))))))))))))));refine Ln (Et (Cb ?_));refine cU (ι:=Nat×Int×Bool) (λe3=>[(115,.int .i64 (e3.1:Int)),(13,.int .i64 e3.2.1),(5,.bool e3.2.2)]) [(1,_),(2,_),(3,_),(10,_),(113,_),(114,_)] (λe3=>Ws w [] [ab vd (bn st g.2.1 g.2.2.1),ab b3 (.cells #[.int .i64 (o.code.length:Int)] 3 (0,0)),ab b1 (.cells (iM o q).toArray 27 (0,0))] [H]) (λe3=>e3.1<=o.fix.length/\nI o.ae.length o.code (o.fix.drop e3.1) e3.2.1 e3.2.2=Bd o) (λe3=>o.fix.length-e3.1) (0,-1,e2.2) ⟨Nat.zero_le _,(by rw [Gg]; rfl)⟩ (sc O (sc O (sc O (sc O (sc O (sc O (sc O (sc O (sc O sn))))))))) (λ_ h=>h) ?_;intro e3 ⟨he3,Cp⟩;refine Cs (Cr (V0 (bq O O) (Ln (Et (Cs ?_)))));refine Cc O (λaW=>?_) (λaW=>?_)
 ·have aw:e3.1<o.fix.length:=by simpa using aW
  obtain ⟨x,bP⟩:∃q,o.fix[e3.1]? = some q:=⟨_,List.getElem?_eq_getElem aw⟩;obtain ⟨hZ,h_,iE,ek⟩:=hm.fix.aZ e3.1 x bP;have ek:aT H hZ (h_+e3.1*3) x.cells:=ek;have gX:=aff (U:=o.ae.length) (c:=o.code) bP e3.2.1 e3.2.2;rw [Cp] at gX;refine Ck (Et (Cs (Cb (Cs (Cr (V0 (Yo Cm O O iE aw) (V0 (cM 0 Rd O O O (ek)) ?_)))))));refine Al Y O K2 λb15=>?_;refine an 0 Y O O O Ri O O O (Ln (Et (Cs (fo 0 (.cells (x.cells).toArray 70 (0,0)) O O (Cr (V0 (Ym O) (V0 (Ym O) ?_)))))));apply La 4 O O O O Y O O O O O
  ·intro aam;refine Vg (Yf Co O) (Vg (Yd 0 O O O aq) (Vg (Ym O) (Vg (bZ O O) ?_)));exact Gt 4 O O O
  refine V0 (Ym O) ?_;apply La 4 (x:=fI o.code.length x.at_) O O O O Y O O O O O
  ·intro aan;refine Vg (Ym O) (Vg (Yf Co O) (Vg (Yd 0 O O O aq) ?_));refine WL.Hk (.g O O O) O Li O O (λw hw=>Lj (hv w) b3 o.code.length (x.at_) w (iq w) (wb (hw.nC 2 O) O)) ?_;exact Gt 4 O O O
  refine V0 (Ya O) (Ln (Et (Cs (Cs (Cr (V0 (Ym O) (V0 (eu O) (Ln (Et ?_)))))))));refine Cc O (λbl=>?_) (λbl=>?_)
  ·have KZ:((e3.2.2&&decide (e3.2.1<x.at_))&&fI o.code.length x.at_)=false:=by
     have h9:=bl
     cases hX:((e3.2.2&&decide (e3.2.1<x.at_))&&fI o.code.length x.at_) with
     | false=>rfl
     | true=>rw [hX] at h9; cases h9
   rw [if_pos KZ] at gX;refine Ce (Ex (L6 O (Ex (Ex (cf (Et (Cs (Cs (Cr (V0 (Ym O) (V0 (eu O) (V0 (Ym O) ?_))))))))))));apply Lo 5 (x:=!(fI o.code.length o.main)) O O O O Y O O O O O
   ·intro QW;refine Vg (Ym O) (Vg (Yf K9 O) (Vg (Yd 3 O O O aq) ?_));refine WL.Hk (.g O O O) O Li O O (λw hw=>Lj (hv w) b3 o.code.length (o.main) w (iq w) (wb (hw.nC 2 O) O)) ?_;refine Vg (eu O) ?_;exact Gt 5 O O O
   refine Ln (Et ?_);refine Cc O (λdk=>?_) (λdk=>?_)
   ·refine Cs (Cr (V0 (Ya O) (Ln (Et (az (Er ?_))))));refine R1 O O λw' hw=>?_;exact ⟨by rw [gj,Gc,if_neg (by decide),if_pos (by rw [gX]; rfl)],hw.fr⟩
   refine Ck (Et (Cs (Cr (V0 (Ya O) (Ln (Et (az ?_)))))));refine R1 O O λw' hw=>?_;rw [KZ] at dk;exact absurd dk (by simp)
  have Cq:((e3.2.2&&decide (e3.2.1<x.at_))&&fI o.code.length x.at_)=true:=by simpa using bl
  rw [if_neg (by rw [Cq]; decide)] at gX;obtain ⟨p,Rk,n6⟩:=uz (Bool.and_eq_true_iff.1 Cq).2
  have rV:x.at_.toNat=p:=by omega
  obtain ⟨y,bC⟩:∃y,o.code[p]? = some y:=⟨_,List.getElem?_eq_getElem n6⟩;obtain ⟨jY,jZ,fg,cY⟩:=hm.code.aZ p y bC;have cY:aT H jY (jZ+p*3) y.cells:=cY;rw [<-rV] at cY
  have vD:lg o.code x.at_=y.a:=by unfold lg; rw [rV,bC]; rfl
  rw [vD] at gX;refine Ck (Et (Cs (Cr (V0 (Yf Co O) (V0 (Yd 0 O O O aq) (V0 (Ya O) (Ln (Et (Cs (Cr (V0 (Yf mY O) (V0 (Yd 3 O O O gn) (V0 (Yf Co O) ?_)))))))))))));refine V0 (Yd 0 O O O aq) (V0 (Ar ig O O fg (by omega) (by omega)) (V0 (Yf l9 O) (V0 (dm 0 aq O O (cY 1 _ O)) (V0 (Ya O) (Ln (Et (Cs (Cr (V0 (Ym O) (V0 (fm O O) ?_))))))))));refine V0 (Ym O) ?_;apply La 2 O O O O Y O O O O O
  ·intro aao;refine Vg (Ym O) (Vg (ij O O) ?_);exact Gt 2 O O O
  refine V0 (Ya O) (Ln (Et (Cs (Cr (V0 (Yf Rj O) (V0 (Yd 0 O O O aq) (Ln (Et (Cb (Cs (Cr (V0 (aG O O) (V0 (Ya O) (Ln (Et ?_)))))))))))))));refine Cc O (λbt=>?_) (λbt=>?_)
  ·have jx:x.kind=1:=by simpa using bt
   refine Cr (V0 (Ym O) (V0 (Ym O) ?_));apply La 3 O O O O Y O O O O O
   ·intro aap;refine Vg (Yf z1 O) (Vg (Yd 0 O O O aq) (Vg (aG O O) ?_));exact Gt 3 O O O
   refine V0 (Ym O) ?_;apply La 3 O O O O Y O O O O O
   ·intro aaq;refine Vg (Ym O) (Vg (Yd 2 O O O aq) (Vg (ij O O) ?_));exact Gt 3 O O O
   refine V0 (Ya O) (Ln (Eb (Eb (Et (Cr (V0 (Yi O O O (by omega)) (V0 (Ym O) (Ln ?_))))))));exact Ea ((e3.1+1,x.at_,(((decide (0<=y.a)&&decide (y.a<=2048))&&(x.m==0))&&decide (y.a<=(o.code.length:Int)))):Nat×Int×Bool) (by show _-(e3.1+1)<_; omega) ⟨(by show e3.1+1<=_; omega),(congrArg (nI o.ae.length o.code (o.fix.drop (e3.1+1)) x.at_) (show (((decide (0<=y.a)&&decide (y.a<=2048))&&(x.m==0))&&decide (y.a<=(o.code.length:Int)))=jC o.ae.length o.code.length x.kind x.m y.a from ((by unfold jC; rw [if_pos jx])))).trans gX.symm⟩ (sc O (sc O (sc O (sc O (sc O (sc O (sc O (sc O (sc O sn))))))))) (λ_ h=>Wd 1 h)
  have jx:¬x.kind=1:=by simpa using bt
  refine Cs (Cs (Cr (V0 (aG O O) (V0 (Ya O) (Ln (Et ?_))))));refine Cc O (λbQ=>?_) (λbQ=>?_)
  ·have eI:x.kind=2:=by simpa using bQ
   refine Ck (Et ?_);refine Cc O (λcL=>?_) (λcL=>?_)
   ·refine Cr (V0 (Ym O) (V0 (Ym O) ?_));apply La 3 O O O O Y O O O O O
    ·intro FT;refine Vg (Yf z1 O) (Vg (Yd 0 O O O aq) (Vg (fm O O) ?_));exact Gt 3 O O O
    refine V0 (Ym O) ?_;apply La 6 O O O O Y O O O O O
    ·intro aar;refine Vg (Yf z1 O) (Vg (Yd 0 O O O aq) (Vg (Yf Ga O) (Vg (Yd 3 O O O fh) (Vg (Yn dY O) (Vg (ij O O) ?_)))));exact Gt 6 O O O
    refine V0 (Ya O) (Ln (Eb (Eb (Et (Cr (V0 (Yi O O O (by omega)) (V0 (Ym O) (Ln ?_))))))));exact Ea ((e3.1+1,x.at_,(((decide (0<=y.a)&&decide (y.a<=2048))&&decide (0<=x.m))&&decide (x.m<=(o.ae.length:Int)))):Nat×Int×Bool) (by show _-(e3.1+1)<_; omega) ⟨(by show e3.1+1<=_; omega),(congrArg (nI o.ae.length o.code (o.fix.drop (e3.1+1)) x.at_) (show (((decide (0<=y.a)&&decide (y.a<=2048))&&decide (0<=x.m))&&decide (x.m<=(o.ae.length:Int)))=jC o.ae.length o.code.length x.kind x.m y.a from ((by unfold jC; rw [if_neg jx,if_pos (.inl eI)])))).trans gX.symm⟩ (sc O (sc O (sc O (sc O (sc O (sc O (sc O (sc O (sc O sn))))))))) (λ_ h=>Wd 1 h)
   refine Cr (V0 (Ya O) (Ln (Eb (Eb (Et (Cr (V0 (Yi O O O (by omega)) (V0 (Ym O) (Ln ?_)))))))));exact Ea ((e3.1+1,x.at_,false):Nat×Int×Bool) (by show _-(e3.1+1)<_; omega) ⟨(by show e3.1+1<=_; omega),(congrArg (nI o.ae.length o.code (o.fix.drop (e3.1+1)) x.at_) (show false=jC o.ae.length o.code.length x.kind x.m y.a from ((by exact absurd (bQ.symm.trans cL) (by decide))))).trans gX.symm⟩ (sc O (sc O (sc O (sc O (sc O (sc O (sc O (sc O (sc O sn))))))))) (λ_ h=>Wd 1 h)
  have eI:¬x.kind=2:=by simpa using bQ
  refine Cr (V0 (aG O O) (V0 (Ya O) (Ln (Et ?_))));refine Cc O (λcL=>?_) (λcL=>?_)
  ·refine Cr (V0 (Ym O) (V0 (Ym O) ?_));apply La 3 O O O O Y O O O O O
   ·intro FT;refine Vg (Yf z1 O) (Vg (Yd 0 O O O aq) (Vg (fm O O) ?_));exact Gt 3 O O O
   refine V0 (Ym O) ?_;apply La 6 O O O O Y O O O O O
   ·intro aar;refine Vg (Yf z1 O) (Vg (Yd 0 O O O aq) (Vg (Yf Ga O) (Vg (Yd 3 O O O fh) (Vg (Yn dY O) (Vg (ij O O) ?_)))));exact Gt 6 O O O
   refine V0 (Ya O) (Ln (Eb (Eb (Et (Cr (V0 (Yi O O O (by omega)) (V0 (Ym O) (Ln ?_))))))));exact Ea ((e3.1+1,x.at_,(((decide (0<=y.a)&&decide (y.a<=2048))&&decide (0<=x.m))&&decide (x.m<=(o.ae.length:Int)))):Nat×Int×Bool) (by show _-(e3.1+1)<_; omega) ⟨(by show e3.1+1<=_; omega),(congrArg (nI o.ae.length o.code (o.fix.drop (e3.1+1)) x.at_) (show (((decide (0<=y.a)&&decide (y.a<=2048))&&decide (0<=x.m))&&decide (x.m<=(o.ae.length:Int)))=jC o.ae.length o.code.length x.kind x.m y.a from ((by unfold jC; rw [if_neg jx,if_pos (.inr (by simpa using cL))])))).trans gX.symm⟩ (sc O (sc O (sc O (sc O (sc O (sc O (sc O (sc O (sc O sn))))))))) (λ_ h=>Wd 1 h)
  refine Cr (V0 (Ya O) (Ln (Eb (Eb (Et (Cr (V0 (Yi O O O (by omega)) (V0 (Ym O) (Ln ?_)))))))));exact Ea ((e3.1+1,x.at_,false):Nat×Int×Bool) (by show _-(e3.1+1)<_; omega) ⟨(by show e3.1+1<=_; omega),(congrArg (nI o.ae.length o.code (o.fix.drop (e3.1+1)) x.at_) (show false=jC o.ae.length o.code.length x.kind x.m y.a from ((by unfold jC; rw [if_neg jx,if_neg (λh=>h.elim eI (by simpa using cL))])))).trans gX.symm⟩ (sc O (sc O (sc O (sc O (sc O (sc O (sc O (sc O (sc O sn))))))))) (λ_ h=>Wd 1 h)
 have Bt:e3.1=o.fix.length:=by simp at aW; omega
 rw [Bt,List.drop_length] at Cp;have Cp:e3.2.2=Bd o:=Cp;refine Ce (Ex (Ex (cf (Et (Cs (Cs (Cr (V0 (Ym O) (V0 (eu O) (V0 (Ym O) ?_))))))))));apply Lo 5 (x:=!(fI o.code.length o.main)) O O O O Y O O O O O
 ·intro QW;refine Vg (Ym O) (Vg (Yf K9 O) (Vg (Yd 2 O O O aq) ?_));refine WL.Hk (.g O O O) O Li O O (λw hw=>Lj (hv w) b3 o.code.length (o.main) w (iq w) (wb (hw.nC 1 O) O)) ?_;refine Vg (eu O) ?_;exact Gt 5 O O O
 refine Ln (Et ?_);refine Cc O (λdk=>?_) (λdk=>?_)
 ·refine Cs (Cr (V0 (Ya O) (Ln (Et (az (Er ?_))))));refine R1 O O λw' hw=>?_;exact ⟨by rw [gj,Gc,if_neg (by decide),<-Cp,if_pos dk],hw.fr⟩
 refine Ck (Et (Cs (Cr (V0 (Ya O) (Ln (Et (az ?_)))))));refine R1 O O λw' hw=>?_;exact ⟨by rw [gj,Gc,if_neg (by decide),<-Cp,if_neg (by rw [dk]; decide)],hw.fr⟩
theorem Vr (s:List UInt8):(Iv s).length=s.length+1:=rfl
theorem aa6 {c:List aN} {x:Int} {p:Nat} {y:aN} (h:x.toNat=p) (hy:c[p]? = some y):lg c x=y.a:=by unfold lg; rw [h,hy]; rfl
theorem Rl:aX Tryz.prog 67 2=some 2:=by kernel_rfl
theorem apW:Enters Tryz.prog 10:=enters_of Tryz.func10 (by kernel_rfl) rfl
abbrev XO:=aH×mG
def XO.cells (e:XO):List Value:=iM e.1 e.2
theorem XO.a8 (e:XO):(XO.cells e).length=7:=rfl
def Rm (H:View) (b o:Nat) (e:XO):Prop:=aT H b o (XO.cells e)
def tC (H:View) (b o:Nat) (x:aH):Prop:=∃q,aT H b o (iM x q)/\qU H q x
theorem Rn {H H':View} {q:mG} {o:aH} (h:qU H q o) (hv:aL H H'):qU H' q o:=⟨h.ae.imp λ_ _ _ r=>aT.mono hv r,h.code.imp λ_ _ _ r=>aT.mono hv r,h.fix.imp λ_ _ _ r=>aT.mono hv r,h.di.imp λ_ _ _ r=>aT.mono hv r⟩
theorem aa7 {K N:View} {a:Option Addr} {c:Nat} {es:List XO} (h:Sl Rm 7 K a c es) (hv:aL K N) (he:∀e ∈ es,qU N e.2 e.1):Sl tC 7 N a c (es.map (·.1)):=by
 refine ⟨by rw [List.length_map]; exact h.cap,h.max,h.spot,λi x hx=>?_⟩;rw [List.getElem?_map] at hx;obtain ⟨y,hy,rfl⟩:=Option.map_eq_some_iff.1 hx;obtain ⟨b,o,ha,hr⟩:=h.aZ i y hy;exact ⟨b,o,ha,y.2,aT.mono hv hr,he y (List.mem_of_getElem? hy)⟩
def kX:aH:=(kD (cD iD []).1).1.to
def jm:aH:=(kD (cD bj ei).1).1.to
theorem apX:DF (cD iD []).1<=1048576:=by decide +kernel
theorem apY:DF (cD bj ei).1<=1048576:=by decide +kernel
theorem aa8:Enters Tryz.prog 71:=enters_of Tryz.func71 (by kernel_rfl) rfl
theorem aa9:Enters Tryz.prog 25:=enters_of Tryz.func25 (by kernel_rfl) rfl
theorem aa':eS Tryz.prog 40 27 (.agg #[st [],.slice none 0 0,.int .i64 0,.slice none 0 0,.slice none 0 0,.slice none 0 0,.int .i64 0]) 7 128:=gW (by kernel_rfl)
theorem aa_ (H1 H2:View) (a1 a2:Option Addr) (c1 c2:Nat) (l:List Int) (w:World) (Ro:Le H1 w) (Rq:Le H2 w) (DN:Sl jd 1 H1 a1 c1 l) (qf:Sl jd 1 H2 a2 c2 l) :
   Calls Tryz.prog 53 #[.slice a1 l.length c1,.slice a2 l.length c2] w λe w'=>e = .returned (.bool true)/\Ext w w':=by
 have avB:=DN.cap;have avC:=DN.max;have avD:=qf.cap;have avE:=qf.max;refine enter Tryz.func53 O 26 O O ?_;refine CE (Vs:=[H1,H2]) (Ws.init (by simp [Ro,Rq])) (Cs (Cr (V0 (Ya O) (Ln (Et (Cs (Cs (Cr (V0 (Ym O) (V0 (Yn dK O) (V0 (Ym O) (V0 (Yn dK O) ?_))))))))))));refine V0 (Ug O O O) (Ln (Et ?_));refine WC.CP O ?_;refine Ck (Et (Cs (Cs (Cr (V0 (Ya O) (Ln (Et (Cb ?_))))))));refine CW (ι:=Nat) (λi=>[(5,.int .i64 (i:Int))]) [(0,_),(1,_)] (λi=>i<=l.length) (λi=>l.length-i) 0 (Nat.zero_le _) (sc O (sc O (sc O sn))) ?_;intro i hi;refine Cs (Cs (Cr (V0 (Ym O) (V0 (Ym O) (V0 (Yn dK O) (V0 (bq O O) (Ln (Et ?_))))))));refine Cc O (λar=>?_) (λar=>?_)
 ·have aw:i<l.length:=by simpa using ar
  obtain ⟨x,hx⟩:∃x,l[i]? = some x:=⟨_,List.getElem?_eq_getElem aw⟩;obtain ⟨pb,po,ha1,wh⟩:=DN.aZ i x hx;obtain ⟨qb,qo,t_,Dp⟩:=qf.aZ i x hx;have wh:aT H1 pb (po+i*1) (mD x):=wh;have Dp:aT H2 qb (qo+i*1) (mD x):=Dp;refine Ck (Et (Cs (Cb (Cs ?_))));refine WC.xX [(0,true),(1,true),(2,true),(3,true),(4,true),(5,true),(6,true),(7,true),(8,true)] mixed (by kernel_rfl) (λ_ _ _ d _ h=>by cases d<;>exact h) ?_;refine D0 O (λ_ h=>h) (Ym O) (D0 O (λ_ h=>h) (Ym O) (D0 O (λ_ h=>h) (Yo dK O O ha1 (by omega)) (D0 O (λ_ h=>h) (dm 0 aq O O (wh 0 _ O)) (D0 O (λ_ h=>h) (Ym O) (D0 O (λ_ h=>h) (Ym O) (D0 O (λ_ h=>h) (Yo dK O O t_ (by omega)) (D0 O (λ_ h=>h) (dm 1 aq O O (Dp 0 _ O)) ?_)))))));refine D0 O (λ_ h=>h) (Ug O O O) ?_;refine WD.nil (λ_ h=>h) ?_;refine Et ?_;refine WC.CP O ?_;refine Ck (Eb (Et (Cr (V0 (Ym O) (V0 (Yi O O O (by omega)) (V0 (Ya O) (Ln ?_)))))));exact Ea (i+1) (by omega) (by omega) (sc O (sc O (sc O sn))) (λ_ h=>h)
 refine Ce (Ex (Ex (cf (Et (Cs (Cr (V0 (Ya O) (Ln (Et (az ?_))))))))));refine R1 O O λw' hw=>?_;exact ⟨O,hw.fr⟩
theorem aba (H:View) (ke k:Nat) (u:ed) (r:kz) (w:World) (hH:Le H w) (hu:kA ke k H r u) (Kc:DF u<=1048576):Calls Tryz.prog 25 #[.agg (eV u r).toArray] w λe w'=>∃r:mG,e = .returned (.tuple #[.agg (iM (kD u).1.to r).toArray,.int .i64 (kD u).2])/\Ext w w'/\qU (nv w w') r (kD u).1.to:=
 (apK H ke k u r w hH hu Kc).mono λe w' ⟨r,he,hx,hr⟩=>⟨r,by rw [he,afa],hx,afb hr⟩
theorem Rr (G:View) (w:World) (hG:Le G w) (hz:Laid G) :
   Calls Tryz.prog 28 #[] w λe w'=>∃q:SP,e = .returned (.slice q.1 2 q.2)/\Ext w w'/\Sl tC 7 (nv w w') q.1 q.2 [kX,jm]:=by
 refine enter Tryz.func28 O 22 O O ?_;refine CE (Vs:=[G]) (Ws.init (by simp [hG])) (Cs (Cr (V0 (Ya O) (Ln (Et (Cs ?_))))));obtain ⟨o0,ho0⟩:∃c,c=(kD (cD iD []).1).1.to:=⟨_,rfl⟩;obtain ⟨o1,K8⟩:∃c,c=(kD (cD bj ei).1).1.to:=⟨_,rfl⟩;obtain ⟨e0,Gh⟩:∃c,c=(kD (cD iD []).1).2:=⟨_,rfl⟩;obtain ⟨e1,Ge⟩:∃c,c=(kD (cD bj ei).1).2:=⟨_,rfl⟩;refine Cr ?_;refine Ld Y O aa8 O (λq:SP=>.slice q.1 2 q.2) (λF q=>Sl (K_ 8 7) 5 F q.1 q.2 Rb) (λw hw=>aa5 G w (hw.vs _ (by simp)) hz) ?_;intro F6 r6 hf6 h6;obtain ⟨avF,avG,ap0,ur9,ap2,ap3⟩:=h6.aZ 0 _ rfl;have avH:=h6.cap;have avI:=h6.max;refine V0 (Yo (i:=0) aaA O O ap0 (by decide)) (V0 (cM 0 jl O O O (ap2)) ?_)
 refine Ld Y O aa9 O (λr:mG=>.tuple #[.agg (iM (o0) r).toArray,.int .i64 (e0)]) (λF r=>qU F r o0) (λw hw=>by
     have gH:=aba F6 8 7 (cD iD []).1 ur9 w (hw.vs _ (by simp)) ap3 apX;rw [<-ho0,<-Gh] at gH
     exact gH) ?_
 intro F9 r9 xA h9;refine V0 (Ym O) (V0 (Yx O O) (V0 (Yx O O) ?_));refine Al Y O rR λb1=>?_;refine an 0 Y O O O tz O O O (V0 (Ya O) (Ln (Et (Cs (Cr ?_)))));refine Ld Y O aa8 O (λq:SP=>.slice q.1 2 q.2) (λF q=>Sl (K_ 8 7) 5 F q.1 q.2 Rb) (λw hw=>aa5 G w (hw.vs _ (by simp)) hz) ?_;intro F13 r13 avK iP;obtain ⟨avL,avM,ap5,ap6,ap7,ap8⟩:=iP.aZ 1 _ rfl;have avN:=iP.cap;have avO:=iP.max;refine V0 (Yo (i:=1) aaA O O ap5 (by decide)) (V0 (cM 0 jl O O O (ap7)) ?_)
 refine Ld Y O aa9 O (λr:mG=>.tuple #[.agg (iM (o1) r).toArray,.int .i64 (e1)]) (λF r=>qU F r o1) (λw hw=>by
     have gH:=aba F13 8 7 (cD bj ei).1 ap6 w (hw.vs _ (by simp)) ap8 apY;rw [<-K8,<-Ge] at gH
     exact gH) ?_
 intro F16 cH ap9 zv;refine V0 (Ym O) (V0 (Yx O O) (V0 (Yx O O) ?_));refine Al Y O rR λb3=>?_;refine an 0 Y O O O tz O O O (V0 (Ya O) (Ln (Et (Cs (Cr (V0 (bA 1 O O o6 O) (V0 (bA 0 O O o6 O) ?_)))))));refine Lb Y O aa' O O O O λPv=>?_;refine bH 0 (.cells ((([(o0,r9),(o1,cH)]:List XO)).flatMap XO.cells).toArray 27 (0,0)) O O (LW (λ_ h=>h.ou (f:=XO.cells) (xs:=([(o0,r9),(o1,cH)]:List XO)) (c:=2) 0 O XO.a8 O (by decide)) (V0 (Ya O) (Ln (Et (az ?_)))));refine R1 O O λw' hw=>?_;refine ⟨(some ⟨Pv,0,none⟩,2),O,hw.fr,?_⟩;unfold kX jm;rw [<-ho0,<-K8];have hT:=hw.gv (rd:=Rm) 0 rfl XO.a8 (λ_ _ _ _ h=>h)
 exact aa7 (es:=[(o0,r9),(o1,cH)]) hT (λ_ _ h=>h) λe he=>by
   simp only [List.mem_cons,List.not_mem_nil,or_false] at he
   rcases he with rfl | rfl
   · exact Rn h9 (bD hw (by simp) xA)
   · exact Rn zv (bD hw (by simp) ap9)
theorem Rt:Enters Tryz.prog 28:=enters_of Tryz.func28 (by kernel_rfl) rfl
theorem jn:dL Tryz.prog 40=some 7:=by kernel_rfl
def Lk (p:Pl) (q:SP):List Value:=[.int .i64 p.code,.int .i64 p.data,.slice q.1 p.yl.length q.2]
abbrev iY:=Pl×SP
def iY.cells (e:iY):List Value:=Lk e.1 e.2
theorem iY.a8 (e:iY):(iY.cells e).length=3:=rfl
def abc (H:View) (b o:Nat) (e:iY):Prop:=aT H b o (iY.cells e)
def z6 (J:View) (e:iY):Prop:=Sl sG 1 J e.2.1 e.2.2 e.1.yl
theorem Ru {A B:View} {e:iY} (hv:aL A B) (h:z6 A e):z6 B e:=Sl.imp (λb o x h=>aT.mono hv h) h
def Ll (H:View) (b o:Nat) (p:Pl):Prop:=∃q:SP,aT H b o (Lk p q)/\Sl sG 1 H q.1 q.2 p.yl
theorem ap' {H J N:View} {c:Nat} {a:Option Addr} {es:List iY} (h:Sl abc 3 H a c es) (hv:aL H N) (hJ:aL J N) (mB:Xs z6 J es):Sl Ll 3 N a c (es.map (·.1)):=
 AW h mB λb o e h1 h2=>⟨e.2,aT.mono hv h1,Ru hJ h2⟩
def qg (l:List aH):List Pl:=if e_ l=0 then nJ l++[sK l] else []
theorem Gj {l:List aH} (h:¬e_ l=0):qg l=[]:=by rw [qg,if_neg h]
structure LGh where
 i:Nat
 es:List iY
 oa:SP
 J:View
theorem ap_ (l:List aH):(nJ l).take l.length=nJ l:=List.take_of_length_le (by rw [wy]; exact Nat.le_refl _)
theorem aqa {U n:Nat} {k m a:Int} (h:jC U n k m a=true) (hk:k=2):0<=a/\a<=2048/\0<=m/\m<=(U:Int):=by
 subst hk;unfold jC at h;rw [if_neg (by decide),if_pos (.inl rfl)] at h;simp only [Bool.and_eq_true,decide_eq_true_eq] at h;omega
theorem abe:eR Tryz.prog 105=some [(0,1),(1,1),(2,1)]:=by kernel_rfl
theorem Gl:zeroOf Tryz.prog 105=some (.agg #[.int .i64 0,.int .i64 0,.slice none 0 0]):=by kernel_rfl
theorem Rv:cq Tryz.prog 105=some 3:=by kernel_rfl
theorem xB:aX Tryz.prog 105 0=some 0:=by kernel_rfl
theorem Ct:aX Tryz.prog 105 1=some 1:=by kernel_rfl
theorem Lm:aX Tryz.prog 105 2=some 2:=by kernel_rfl
theorem Rw:eQ Tryz.prog 105=some 3:=by kernel_rfl
theorem Lq:eS Tryz.prog 101 105 (.agg #[.int .i64 0,.int .i64 0,.slice none 0 0]) 3 40:=gW (by kernel_rfl)
theorem xC:dL Tryz.prog 101=some 3:=by kernel_rfl
theorem abf (H:View) (a:Option Addr) (c:Nat) (l:List aH) (w:World) (hH:Le H w) (hm:Sl tC 7 H a c l) :
   Calls Tryz.prog 58 #[.slice a l.length c] w λe w'=>∃q:SP,e = .returned (.tuple #[.slice q.1 (qg l).length q.2,.int .i64 (e_ l)])/\Ext w w'/\Sl Ll 3 (nv w w') q.1 q.2 (qg l):=by
 have dQ:=hm.cap;have eB:=hm.max;refine enter Tryz.func58 O 163 O O ?_;refine CE (Vs:=[H]) (Ws.init (by simp [hH])) (Cs (Cr (V0 (Ya O) (V0 (Ya O) (Ln (Et (Cs (Cs (Cr (V0 (Ym O) (V0 (Yn jn O) (V0 (bq O O) ?_))))))))))));refine V0 (Ym O) ?_;apply Lo 3 O O O O Y O O O O O
 ·intro de;refine Vg (Ym O) (Vg (Yn jn O) (Vg (bZ O O) ?_));exact Gt 3 O O O
 refine Ln (Et ?_);refine Cc O (λad=>?_) (λad=>?_)
 ·have h4:l.length<1\/4<l.length:=by simp at ad; omega
  have hE:=Vy h4;refine Cs (Cr (V0 (Ya O) (V0 (Ya O) (Ln (Et (az (Er ?_)))))));refine WE.me O O O λw' hw=>?_;rw [Gj (by rw [hE]; decide),hE];exact ⟨(none,0),O,hw.fr,Sl.nil⟩
 have h4:¬(l.length<1\/4<l.length):=by simp at ad; omega
 refine Ck (Et (Cs (Cr ?_)));refine WL.ss st Y O λOH=>?_;refine V0 (Ya O) (Ln (Et (Cs (Cs (Cr (V0 (Ym O) (V0 (Yn jn O) (V0 (Ym O) (Ln (Et (Cb ?_)))))))))));refine cU (ι:=Nat×List (cV (List UInt8))×Nat) (λg0=>[(33,.int .i64 (g0.1:Int))]) [(0,_),(4,_),(31,_),(32,_)] (λg0=>Ws w [] [ab OH (bn st g0.2.1 g0.2.2)] [H]) (λg0=>g0.1<=l.length/\(∀o ∈ l.take g0.1,gj o=0)/\uL (dW l) g0.1 g0.2.1) (λg0=>l.length-g0.1) (0,[],0) ⟨Nat.zero_le _,by simp,uL.zero _⟩ (sc O (sc O (sc O (sc O (sc O sn))))) (λ_ h=>h) ?_;intro g0 ⟨de,cg,Lr⟩;refine Cs (Cr (V0 (bq O O) (Ln (Et (Cs ?_)))));refine Cc O (λar=>?_) (λar=>?_)
 ·have aw:g0.1<l.length:=by simpa using ar
  obtain ⟨o,dD⟩:∃q,l[g0.1]? = some q:=⟨_,List.getElem?_eq_getElem aw⟩;obtain ⟨Gm,Gn,rW,pt⟩:=hm.aZ g0.1 o dD;obtain ⟨qo,rY,dr⟩:=pt;have tG:=List.mem_of_getElem? dD;have Gp:=dr.ae.cap;have Gq:=dr.ae.max;have Gr:=dr.fix.cap;have Gu:=dr.fix.max;have Gv:=dr.code.cap;have Gw:=dr.code.max;refine Ck (Et (Cs (Cb (Cs (Cr (V0 (Yo jn O O rW aw) (V0 (cM 0 o6 O O O (rY)) ?_)))))));refine Al Y O rR λb6=>?_;refine an 0 Y O O O tz O O O (Ln (Et (Cs (Cs (fo 0 (.cells (iM o qo).toArray 27 (0,0)) O O (Cr (V0 (bA 0 O O o6 O) (Lp Y O apW O (λw hw=>apU H o qo w (hw.vs _ (by simp)) dr) (V0 (Ya O) (Ln (Et (Cs (Cr ?_)))))))))))));refine V0 (Ym O) (V0 (jq O O) (Ln (Et ?_)));refine Cc O (λay=>?_) (λay=>?_)
  ·have ot:¬gj o=0:=by simpa using ay
   have hE:=afx h4 dD cg ot;refine Cs (Cr (V0 (Ym O) (V0 (Ya O) (V0 (Ya O) (Ln (Et (az (Er (bR (Er (Er (bR (Er ?_)))))))))))));refine WE.me O O O λw' hw=>?_;rw [Gj (by rw [hE]; exact ot),hE];exact ⟨(none,0),O,hw.fr,Sl.nil⟩
  have ot:gj o=0:=by simpa using ay
  refine Ck (Et (Cr (V0 (Ym O) (V0 (Yf Lg O) (V0 (Yd 0 O O O df) (V0 (AI 1 jv jk e7 nZ O O O) ?_))))));rw [Lr.1 o.nm];refine V0 (lH O O (by have h9:((dW l).take g0.1).count o.nm<=((dW l).take g0.1).length:=List.count_le_length; rw [List.length_take,Bf] at h9; omega)) ?_;refine WL.vX 1 jv Y jk e7 O O O O ?_;refine Ln (Eb (Et (Cr (V0 (Yi O O O (by omega)) (V0 (Ym O) (Ln ?_))))));exact Ea ((g0.1+1,_,_):Nat×List (cV (List UInt8))×Nat) (by show _-(g0.1+1)<_; omega) ⟨(by show g0.1+1<=_; omega),Vu dD cg ot,Lr.step (Vx dD) _⟩ (sc O (sc O (sc O (sc O (sc O sn))))) (λ_ h=>Wd 1 h)
 have abg:g0.1=l.length:=by simp at ar; omega
 rw [abg,List.take_length] at cg;rw [abg,<-Bf l] at Lr;have Ls:=Lr.ep;refine Ce (Ex (Ex (cf (Et (Cs (Cs (Cr (V0 (Ym O) (V0 (Th 0 jk O O) (V0 (Ym O) (V0 (Yn jn O) (V0 (bq O O) (Ln (Et ?_))))))))))))));refine Cc O (λaM=>?_) (λaM=>?_)
 ·have Lt:eo (dW l)=true:=Ls.1 (by rw [Bf]; simp at aM; omega)
  have hE:e_ l=6:=by rw [Iz h4 cg,if_pos Lt]
  refine Cs (Cr (V0 (Ya O) (V0 (Ya O) (Ln (Et (az (Er ?_)))))));refine WE.me O O O λw' hw=>?_;rw [Gj (by rw [hE]; decide),hE];exact ⟨(none,0),O,hw.fr,Sl.nil⟩
 have Lt:eo (dW l)=false:=by
   cases ht:eo (dW l) with
   | false=>rfl
   | true=>have:=Ls.2 ht; rw [Bf] at this; simp at aM; omega
 have rK:=qM.2 Lt;have we:=Iz h4 cg;rw [Lt,if_neg (by decide)] at we;refine Ck (Et (Cs (Cr ?_)));refine WL.ss st Y O λFe=>?_;refine V0 (Ya O) (Ln (Et (Cs (Cr (V0 (Ym O) (V0 (Yn jn O) (V0 (Yi O O O (by omega)) (V0 (Yb Gl abe O O) ?_))))))));refine Al Y O Gl λb9=>?_;refine an 0 Y O O O Rv O O O (Ln (Et (Cs (Cr (V0 (Ya O) (Ln (Et (Cs (Cs (fo 0 (.cells #[.int .i64 ((l.length:Int)+1),.int .i64 0,.slice none 0 0] 105 (0,0)) O O ?_))))))))))
 have hk0:((l.length:Int)+1)=cX l 0:=by simp [cX,sJ]
 rw [hk0];refine fo 0 (.cells #[.int .i64 (cX l 0),.int .i64 (eJ l 0),.slice none 0 0] 105 (0,0)) O O ?_;refine sh (λ_ h=>h.fB 105 3) ?_;refine sh (λ_ h=>h.v0) ?_;refine Cr (V0 (Ym O) (V0 (Yn jn O) (V0 (Ym O) (Ln (Et (Cb ?_))))));refine cU (ι:=LGh) (λg=>[(60,.int .i64 (g.i:Int)),(10,.slice g.oa.1 g.es.length g.oa.2)]) [(0,_),(8,_),(9,_),(58,_),(59,_)] (λg=>Ws w [] [bo 105 3 iY.cells g.oa.1 g.oa.2 g.es,ab Fe (bn st (kC ((dW l).take g.i) 0) g.i),ab b9 (.cells #[.int .i64 (cX l g.i),.int .i64 (eJ l g.i),.slice none 0 0] 105 (0,0))] [g.J,H]) (λg=>g.i<=l.length/\g.es.map (·.1)=(nJ l).take g.i/\(eE w g.J/\Xs z6 g.J g.es)/\∀n o,n<g.i->l[n]? = some o->wx ((dW l).take n) o=true) (λg=>l.length-g.i) ⟨0,[],(none,0),v0⟩ ⟨Nat.zero_le _,O,⟨wa _,Xs.nil _⟩,λn o h=>absurd h (Nat.not_lt_zero _)⟩ (sc O (sc O (sc O (sc O (sc O (sc O (sc O sn))))))) (λ_ h=>by have h:=h.ao 1 O; have h:=h.ao 2 O; have h:=h.ao 2 O; have h:=Wt 3 h; have h:=Ws.bw h (a_:=[v0,H]) (by simp); exact h) ?_;intro g ⟨tq,kS,⟨hJf,hX⟩,abi⟩;refine Cs (Cr (V0 (bq O O) (Ln (Et (Cs ?_)))));refine Cc O (λaW=>?_) (λaW=>?_)
 ·have aw:g.i<l.length:=by simpa using aW
  obtain ⟨o,dD⟩:∃q,l[g.i]? = some q:=⟨_,List.getElem?_eq_getElem aw⟩;obtain ⟨Gm,Gn,rW,pt⟩:=hm.aZ g.i o dD;obtain ⟨qo,rY,dr⟩:=pt;have tG:=List.mem_of_getElem? dD;have Gp:=dr.ae.cap;have Gq:=dr.ae.max;have Gr:=dr.fix.cap;have Gu:=dr.fix.max;have Gv:=dr.code.cap;have Gw:=dr.code.max;have ot:=cg o tG;have tx:=DP ot;have hou:=tx.ae;have abj:=tx.code;have avR:=VC ot;have hnx:=Vx dD;have hnt:=aeX rK hnx
  have hnl:((dW l).take g.i).length=g.i:=by rw [List.length_take,Bf]; omega
  have hNS:(dW l).take (g.i+1)=((dW l).take g.i)++[o.nm]:=by rw [List.take_add_one,hnx]; rfl
  have Rx:=Bg h4 cg (k:=g.i) (by omega);have hdK:=DR h4 cg (k:=g.i) (by omega)
  have wg:g.es.length=g.i:=by rw [<-List.length_map,kS,List.length_take,wy]; omega
  refine Ck (Et (Cs (Cb (Cs (Cr (V0 (Ym O) (V0 (Yo jn O O rW aw) (V0 (cM 1 o6 O O O (rY)) ?_))))))));refine Al Y O rR λkf=>?_;refine V0 (Ya O) (an 0 Y O O O tz O O O (Ln (Et (Cs (fo 0 (.cells (iM o qo).toArray 27 (0,0)) O O (Cr (V0 (Yf xB O) (V0 (Yd 3 O O O aq) (V0 (Yf Ct O) ?_)))))))));refine V0 (Yd 3 O O O aq) (V0 (Ym O) ?_);refine Lb Y O gG O O O O λQ8=>?_;refine bH 0 (.cells ((([g.i]:List Nat)).flatMap pI).toArray 3 (0,0)) O O (LW (λ_ h=>h.ou (f:=pI) (xs:=([g.i]:List Nat)) (c:=1) 0 O Ny O (by decide)) (V0 (Yb Gl abe O O) ?_));refine Al Y O Gl λjE=>?_;refine an 0 Y O O O Rv O O O (Ln (Et (Cs (Cs (Cr (V0 (Yf Ga O) (V0 (Yd 2 O O O fh) (V0 (Yn dY O) (V0 (Ym O) (Ln (Et (Cb ?_))))))))))));refine cU (ι:=Nat×SP) (λqq=>[(75,.int .i64 (qq.1:Int))]) [(0,_),(8,_),(9,_),(10,_),(11,_),(12,_),(13,_),(58,_),(59,_),(60,_),(73,_),(74,_)] (λqq=>Ws w [] [bo 3 1 pI qq.2.1 qq.2.2 (g.i::(o.ae.take qq.1).map (uH ((dW l).take g.i))),ab jE (.cells #[.int .i64 (cX l g.i),.int .i64 (eJ l g.i),.slice qq.2.1 (g.i::(o.ae.take qq.1).map (uH ((dW l).take g.i))).length qq.2.2] 105 (0,0)),ab kf (.cells (iM o qo).toArray 27 (0,0)),bo 105 3 iY.cells g.oa.1 g.oa.2 g.es,ab Fe (bn st (kC ((dW l).take g.i) 0) g.i),ab b9 (.cells #[.int .i64 (cX l g.i),.int .i64 (eJ l g.i),.slice none 0 0] 105 (0,0))] [g.J,H]) (λqq=>qq.1<=o.ae.length/\((o.ae.take qq.1).all λs=>(idxOf s ((dW l).take g.i) 0).isSome)=true) (λqq=>o.ae.length-qq.1) (0,(some ⟨Q8,0,none⟩,1)) ⟨Nat.zero_le _,O⟩ (sc O (sc O (sc O (sc O (sc O (sc O (sc O (sc O (sc O (sc O (sc O (sc O (sc O sn))))))))))))) (λ_ h=>by exact ((((((h.f 5 O).f 5 O).f 5 O).f 5 O).f 4 O).f 5 O:)) ?_;intro qq ⟨hq,ej⟩;refine Cs (Cr (V0 (bq O O) (Ln (Et (Cs ?_)))));refine Cc O (λbl=>?_) (λbl=>?_)
  ·have aw:qq.1<o.ae.length:=by simpa using bl
   obtain ⟨s,jr⟩:∃q,o.ae[qq.1]? = some q:=⟨_,List.getElem?_eq_getElem aw⟩;obtain ⟨zH,pos,has,mX⟩:=dr.ae.aZ qq.1 s jr;have mX:aT H zH (pos+qq.1*1) (d_ s):=mX;refine Ck (Et (Cs (Cb (Cs (Cr (V0 (Yo dY O O has aw) (V0 (dm 1 df O O (mX 0 _ O)) (V0 (Ya O) (Ln (Et (Cs (Cr (V0 (Ym O) (V0 (Ym O) (V0 (ML 4 jv jk e7 nZ O O O) ?_)))))))))))))));rw [(UQ _ _).1,(UQ _ _).2];refine V0 (Ym O) (V0 (Yx O O) (V0 (Yx O O) (V0 (Ya O) (V0 (Ya O) (Ln (Et (Cs (Cs (Cr (V0 (Ym O) (V0 (eu O) ?_)))))))))));refine Ln (Et ?_);refine Cc O (λbt=>?_) (λbt=>?_)
   ·have gK:(idxOf s ((dW l).take g.i) 0).isSome=false:=by simpa using bt
    have hE:e_ l=9:=by
      rw [we,if_pos (NL dD ?_)];rw [Bool.not_eq_true',wx,List.all_eq_false];exact ⟨s,List.mem_of_getElem? jr,by rw [gK]; decide⟩
    refine Cs (Cr (V0 (Ya O) (V0 (Ya O) (Ln (Et (az (Er (bR (Er (Er (bR (Er (bR (Er (Er (bR (Er ?_)))))))))))))))));refine WE.me O O O λw' hw=>?_;rw [Gj (by rw [hE]; decide),hE];exact ⟨(none,0),O,hw.fr,Sl.nil⟩
   have Eo:(idxOf s ((dW l).take g.i) 0).isSome=true:=by simpa using bt
   refine Ck (Et (Cr (V0 (Yf Lm O) (V0 (Yd 1 O O O dA) (V0 (Ym O) ?_)))));refine Lb Y O gG O O O O λb90=>?_;refine bH 0 (.cells (pI (uH ((dW l).take g.i) s)).toArray 3 (0,0)) O (O) ?_;refine LA (uH ((dW l).take g.i) s) 1 0 Y O gG O O O O O O (by simp; omega) (by simp; omega) λa91 c91=>?_;rw [show (g.i::(o.ae.take qq.1).map (uH ((dW l).take g.i)))++[uH ((dW l).take g.i) s]=(g.i::(o.ae.take (qq.1+1)).map (uH ((dW l).take g.i))) by rw [List.take_add_one,jr]; simp];refine V0 (Yf Lm O) (an 2 Y O O O lC O O O (Ln (Eb (Et (Cr (V0 (Yi O O O (by omega)) (V0 (Ym O) (Ln ?_))))))));exact Ea ((qq.1+1,(a91,c91)):Nat×SP) (by show _-(qq.1+1)<_; omega) ⟨(by show qq.1+1<=_; omega),Dx jr ej Eo⟩ (sc O (sc O (sc O (sc O (sc O (sc O (sc O (sc O (sc O (sc O (sc O (sc O (sc O sn))))))))))))) (λ_ h=>Wd 1 h)
  have Xa:qq.1=o.ae.length:=by simp at bl; omega
  refine Ce (Ex (Ex (cf (Et (Cs ?_)))));have wG:qq.1=o.ae.length:=Xa;rw [wG,List.take_length] at ej ⊢;refine WC.pz (rd:=sG) 0 O (by simp) Ny (λ_ _ _ _ h=>h) λJX Rf Fa=>?_;refine WC.nA λJ1 J1a J1b J1f=>?_;refine Cr (V0 (Ym O) (V0 (Yf Lg O) (V0 (Yd 1 O O O df) (V0 (Ym O) ?_))));refine WL.vX 3 jv Y jk e7 O O O O ?_;refine Ln (Et (Cs ?_));rw [(U_ hnt hnl).1,(U_ hnt hnl).2,<-hNS];refine Cr (V0 (Yf xB O) (V0 (Yd 4 O O O aq) (V0 (Yf mY O) (V0 (Yd 1 O O O gn) (V0 (Yn ig O) (V0 (lH O O (by omega)) (V0 (Yf xB O) ?_)))))));refine an 4 Y O O O bX O O O (Ln (Et (Cs ?_)));rw [<-IA dD];refine Cr (V0 (Yf Ct O) (V0 (Yd 4 O O O aq) (V0 (Yf Rc O) (V0 (Yd 1 O O O aq) (V0 (lH O O (by omega)) (V0 (Yf Ct O) (an 4 Y O O O bX O O O ?_)))))));refine Ln (Et ?_);rw [<-afz dD];refine Cr (V0 (Ym O) (V0 (bA 0 O O Rw O) ?_));refine Lb Y O Lq O O O O λavT=>?_;refine bH 0 (.cells (iY.cells (qX l g.i o,qq.2)).toArray 105 (0,0)) O (O) ?_;refine LA (((qX l g.i o,qq.2):iY)) 3 0 Y O Lq O O O O O O (by omega) (by omega) λaqg aqh=>?_;refine V0 (Ya O) (Ln (Eb (Et (Cr (V0 (Yi O O O (by omega)) (V0 (Ym O) (Ln ?_)))))))
  exact Ea (⟨g.i+1,g.es++[(qX l g.i o,qq.2)],(aqg,aqh),J1⟩:LGh) (by show _-(g.i+1)<_; omega) ⟨by show g.i+1<=_; omega,by show (g.es++[(qX l g.i o,qq.2)]).map (·.1)=_; rw [List.map_append,kS,afA dD]; rfl,⟨J1f _ Rf hJf,Xs.snoc (R:=z6) (λhv h=>Ru hv h) hX J1b J1a Fa⟩,λn o9 hn h9=>by
      rcases Nat.lt_succ_iff_lt_or_eq.1 hn with h | h
      · exact abi n o9 h h9
      · subst h; rw [dD] at h9; injection h9 with h9; subst h9; exact ej⟩ (sc rfl (sc rfl (sc rfl (sc rfl (sc rfl (sc rfl (sc rfl sn))))))) (λ_ h=>Wd 3 h)
 have cz:g.i=l.length:=by simp at aW; omega
 rw [cz,ap_] at kS;rw [cz]
 have wg:g.es.length=l.length:=by rw [<-List.length_map,kS,wy]
 have abo:∀n o,l[n]? = some o->wx ((dW l).take n) o=true:=λn o hn=>abi n o (by have:=(List.getElem?_eq_some_iff.1 hn).1; omega) hn;rw [Iy (λn o hn=>by rw [abo n o hn]; rfl),if_neg (by decide)] at we;refine Ce (Ex (Ex (cf (Et (Cs (Cs ?_))))));refine WC.x0 0 O (by show 0<g.es.length; omega) λcb o4 FX xR=>?_;refine Cr (V0 (Ym O) (V0 (Yn jn O) (V0 (Ym O) (Ln (Et (Cb ?_))))));refine cU (ι:=Nat) (λj=>[(118,.int .i64 (j:Int))]) [(0,_),(9,_),(10,_),(116,_),(117,_)] (λj=>Ws w [] [bo 105 3 iY.cells g.oa.1 g.oa.2 g.es,ab Fe (bn st (kC ((dW l).take l.length) 0) l.length),ab b9 (.cells #[.int .i64 (cX l l.length),.int .i64 (eJ l l.length),.slice none 0 0] 105 (0,0))] [g.J,H]) (λj=>j<=l.length/\∀n o,n<j->l[n]? = some o->∀f ∈ o.fix,sL l n o f=false) (λj=>l.length-j) 0 ⟨Nat.zero_le _,λn o h=>absurd h (Nat.not_lt_zero _)⟩ (sc O (sc O (sc O (sc O (sc O (sc O sn)))))) (λ_ h=>h) ?_;intro j ⟨hj,lA⟩;refine Cs (Cr (V0 (bq O O) (Ln (Et (Cs ?_)))));refine Cc O (λbQ=>?_) (λbQ=>?_)
 ·have z7:j<l.length:=by simpa using bQ
  obtain ⟨o,dD⟩:∃q,l[j]? = some q:=⟨_,List.getElem?_eq_getElem z7⟩;obtain ⟨Gm,Gn,rW,pt⟩:=hm.aZ j o dD;obtain ⟨qo,rY,dr⟩:=pt;have tG:=List.mem_of_getElem? dD;have Gp:=dr.ae.cap;have Gq:=dr.ae.max;have Gr:=dr.fix.cap;have Gu:=dr.fix.max;have Gv:=dr.code.cap;have Gw:=dr.code.max;have ot:=cg o tG;have aE:=(yr ot).2;have tx:=DP ot;have abj:=tx.code;refine Ck (Et (Cs (Cb (Cs (Cr (V0 (Ym O) (V0 (Yo jn O O rW z7) (V0 (cM 1 o6 O O O (rY)) ?_))))))));refine Al Y O rR λEA=>?_;refine V0 (Ya O) (an 0 Y O O O tz O O O (Ln (Et (Cs (fo 0 (.cells (iM o qo).toArray 27 (0,0)) O O (Cr (V0 (Yf FW O) (V0 (Yd 0 O O O K1) (V0 (Yn Cm O) ?_)))))))));refine V0 (Ym O) (Ln (Et (Cb ?_)));refine cU (ι:=Nat) (λk=>[(126,.int .i64 (k:Int))]) [(0,_),(9,_),(10,_),(18,_),(19,_),(116,_),(117,_),(118,_),(124,_),(125,_)] (λk=>Ws w [] [ab EA (.cells (iM o qo).toArray 27 (0,0)),bo 105 3 iY.cells g.oa.1 g.oa.2 g.es,ab Fe (bn st (kC ((dW l).take l.length) 0) l.length),ab b9 (.cells #[.int .i64 (cX l l.length),.int .i64 (eJ l l.length),.slice none 0 0] 105 (0,0))] [g.J,H]) (λk=>k<=o.fix.length/\∀f ∈ o.fix.take k,sL l j o f=false) (λk=>o.fix.length-k) 0 ⟨Nat.zero_le _,by simp⟩ (sc O (sc O (sc O (sc O (sc O (sc O (sc O (sc O (sc O (sc O (sc O sn))))))))))) (λ_ h=>h) ?_;intro k ⟨hk,Ry⟩;refine Cs (Cr (V0 (bq O O) (Ln (Et (Cs ?_)))));refine Cc O (λcL=>?_) (λcL=>?_)
  ·have aw:k<o.fix.length:=by simpa using cL
   obtain ⟨x,bP⟩:∃q,o.fix[k]? = some q:=⟨_,List.getElem?_eq_getElem aw⟩;obtain ⟨hZ,h_,iE,ek⟩:=dr.fix.aZ k x bP;have ek:aT H hZ (h_+k*3) x.cells:=ek;refine Ck (Et (Cs (Cb (Cs (Cr (V0 (Yo Cm O O iE aw) (V0 (cM 1 Rd O O O (ek)) ?_)))))));refine Al Y O K2 λPv=>?_;refine an 0 Y O O O Ri O O O (Ln (Et (Cs (fo 0 (.cells (x.cells).toArray 70 (0,0)) O O ?_))));refine WC.xX [(0,true),(1,true),(2,true),(3,true),(4,true),(5,true),(6,true),(7,true),(8,true),(9,true),(10,true),(11,true),(12,true),(13,true),(14,true),(15,true),(16,true),(17,true),(18,true),(19,true),(20,true),(21,true),(22,true),(23,true),(24,true),(25,true),(26,true)] mixed (by kernel_rfl) (λ_ _ _ d _ h=>by cases d<;>exact h) ?_;refine D0 O (λ_ h=>h) (Yf Rj O) (D0 O (λ_ h=>h) (Yd 0 O O O aq) (D0 O (λ_ h=>h) (aG O O) (D0 O (λ_ h=>h) (Ym O) ?_)));apply WD.and 22 (x:=decide ((Be l (fR l j o x.m):Int)<=lg o.code x.at_)) O O O O O Y O (λ_ h=>h) O O O O
   ·intro bK
    have eI:x.kind=2:=by simpa using bK
    have Gx:=aE.fix x (List.mem_of_getElem? bP);obtain ⟨p,Rk,n6⟩:=uz Gx.1
    have rV:x.at_.toNat=p:=by omega
    obtain ⟨y,bC⟩:∃y,o.code[p]? = some y:=⟨_,List.getElem?_eq_getElem n6⟩;obtain ⟨jY,jZ,fg,cY⟩:=dr.code.aZ p y bC;have cY:aT H jY (jZ+p*3) y.cells:=cY;rw [<-rV] at cY;have vD:=aa6 rV bC
    have hrA:vc H jY (jZ+x.at_.toNat*3+1)=some (.int .i64 (lg o.code x.at_)):=by
      rw [vD];exact cY 1 _ O
    obtain ⟨Gy,hA1,RA,RB⟩:=aqa Gx.2 eI;obtain ⟨RC,Gz⟩:=VD z7 (abo j o dD) RA RB;obtain ⟨e,RD⟩:∃e,g.es[j]? = some e:=⟨_,List.getElem?_eq_getElem (by omega)⟩
    have Ge:e.1=qX l j o:=by
      have h8:(g.es.map (·.1))[j]? = some e.1:=by rw [List.getElem?_map,RD]; rfl
      rw [kS,NO dD] at h8
      injection h8 with h8
      exact h8.symm
    have RE:Sl sG 1 g.J e.2.1 e.2.2 (pL l j o):=by
      have h8:=hX e (List.mem_of_getElem? RD);unfold z6 at h8;rw [Ge] at h8;exact h8
    have avU:=RE.cap;have avV:=RE.max;have RF:=NQ l j o;have aqj:(qX l j o).yl.length=o.ae.length+1:=RF;obtain ⟨RG,RH,RI,z8⟩:=RE.aZ x.m.toNat _ RC;have z8:aT g.J RG (RH+x.m.toNat*1) (pI (fR l j o x.m)):=z8;obtain ⟨o2,tv⟩:∃o2,l[fR l j o x.m]? = some o2:=⟨_,List.getElem?_eq_getElem Gz⟩;obtain ⟨pb2,po2,t_,q2,Ee,Lu⟩:=hm.aZ _ o2 tv
    have RJ:Be l (fR l j o x.m)=o2.di.length:=by unfold Be; rw [tv]; rfl
    refine Dq O (.g O O O) O (λ_ h=>h) (Yf mY O) (Dq O (.g O O O) O (λ_ h=>h) (Yd 1 O O O gn) (Dq O (.g O O O) O (λ_ h=>h) (Yf Co O) (Dq O (.g O O O) O (λ_ h=>h) (Yd 0 O O O aq) (Dq O (.g O O O) O (λ_ h=>h) (Ar ig O O fg (by omega) (by omega)) (Dq O (.g O O O) O (λ_ h=>h) (Yf l9 O) (Dq O (.g O O O) O (λ_ h=>h) (dm 1 aq O O (hrA)) (Dq O (.g O O O) O (λ_ h=>h) (Ym O) ?_)))))));refine Dq O (.g O O O) O (λ_ h=>h) (Ym O) (Dq O (.g O O O) O (λ_ h=>h) (Ym O) (Dq O (.g O O O) O (λ_ h=>h) (Yo xC O O o4 (by omega)) (Dq O (.g O O O) O (λ_ h=>h) (Yf Lm O) (Dq O (.g O O O) O (λ_ h=>h) (qH (y:=e) 2 j 2 O O o4 O iY.a8 RD (by rw [show iY.cells e=Lk e.1 e.2 from O,Ge]; rfl) dA) (Dq O (.g O O O) O (λ_ h=>h) (Yf z1 O) (Dq O (.g O O O) O (λ_ h=>h) (Yd 0 O O O aq) (Dq O (.g O O O) O (λ_ h=>h) (Ar dK O O RI (by omega) (by omega)) ?_)))))));refine Dq O (.g O O O) O (λ_ h=>h) (dm 0 aq O O (z8 0 _ O)) (Dq O (.g O O O) O (λ_ h=>h) (Yo jn O O t_ Gz) (Dq O (.g O O O) O (λ_ h=>h) (Yf xx O) (Dq O (.g O O O) O (λ_ h=>h) (dm 1 dA O O (Ee 5 _ O)) (Dq O (.g O O O) O (λ_ h=>h) (Yn dK O) ?_))));rw [<-RJ];refine Dq O (.g O O O) O (λ_ h=>h) (fm O O) ?_;exact Gi 22 (λ_ h=>h) O O O
   refine WD.nil (λ_ h=>h) ?_;refine Et ?_;refine Cc O (λdk=>?_) (λdk=>?_)
   ·have BB:sL l j o x=true:=dk
    have hE:e_ l=5:=by
      rw [we,if_pos (NL (p:=λn o=>o.fix.any (sL l n o)) dD ?_)];rw [List.any_eq_true];exact ⟨x,List.mem_of_getElem? bP,BB⟩
    refine Cs (Cr (V0 (Ya O) (V0 (Ya O) (Ln (Et (az (bR (Er (Er (bR (bR (Er (Er (bR (Er ?_)))))))))))))));refine WE.me O O O λw' hw=>?_;rw [Gj (by rw [hE]; decide),hE];exact ⟨(none,0),O,hw.fr,Sl.nil⟩
   have BB:sL l j o x=false:=dk;refine Ck (Eb (Et (Cr (V0 (Yi O O O (by omega)) (V0 (Ym O) (Ln ?_))))));exact Ea (k+1) (by omega) ⟨by omega,Vu bP Ry BB⟩ (sc O (sc O (sc O (sc O (sc O (sc O (sc O (sc O (sc O (sc O (sc O sn))))))))))) (λ_ h=>Wd 1 h)
  have aqm:k=o.fix.length:=by simp at cL; omega
  rw [aqm,List.take_length] at Ry;refine Ce (Ex (Ex (cf (Eb (Et (Cr (V0 (Yi O O O (by omega)) (V0 (Ym O) (Ln ?_)))))))))
  exact Ea (j+1) (by omega) ⟨by omega,λn o9 hn h9=>by
      rcases Nat.lt_succ_iff_lt_or_eq.1 hn with h | h
      · exact lA n o9 h h9
      · subst h; rw [dD] at h9; injection h9 with h9; subst h9; exact Ry⟩ (sc rfl (sc rfl (sc rfl (sc rfl (sc rfl (sc rfl sn)))))) (λ_ h=>Wd 1 h)
 have avW:j=l.length:=by simp at bQ; omega
 have hE:e_ l=0:=by
   rw [we,Iy (λn o hn=>?_),if_neg (by decide)];rw [List.any_eq_false];intro f hf;rw [lA n o (by have:=(List.getElem?_eq_some_iff.1 hn).1; omega) hn f hf]
   decide
 refine Ce (Ex (Ex (cf (Et (Cs (Cr (V0 (Ym O) (V0 (bA 2 O O Rw O) ?_))))))));refine Lb Y O Lq O O O O λavX=>?_;refine bH 0 (.cells (iY.cells (sK l,((none,0):SP))).toArray 105 (0,0)) O (O) ?_;refine LA (((sK l,(none,0)):iY)) 1 0 Y O Lq O O O O O O (by omega) (by omega) λa162 c162=>?_;refine V0 (Ya O) (V0 (Ya O) (Ln (Et (az ?_))));refine WE.me O O O λw' hw=>?_
 have RL:qg l=(g.es++[(sK l,((none,0):SP))]).map (·.1):=by rw [qg,if_pos hE,List.map_append,kS]; rfl
 rw [hE,RL];have hT:=hw.gv (rd:=abc) 1 rfl iY.a8 (λ_ _ _ _ h=>h);exact ⟨(a162,c162),by rw [List.length_map],hw.fr,ap' (J:=g.J) hT (λ_ _ h=>h) (bD hw (by simp) hJf) (Xs.snoc (R:=z6) (λhv h=>Ru hv h) hX (λ_ _ h=>h) (λ_ _ h=>h) Sl.nil)⟩
theorem aN.aqn (x:aN):x.cells.all (·.oneCell')=true:=rfl
theorem RM {l:List aH} (h:¬e_ l=0):dX l=(([],0),e_ l):=by rw [dX,if_pos h]
theorem abq {l:List aH} (h:e_ l=0) (h2:2048<cX l l.length\/512<eJ l l.length):dX l=(([],0),2):=by rw [dX,if_neg (λe=>e h),if_pos h2]
theorem RO {l:List aH} (h:e_ l=0) (h2:¬(2048<cX l l.length\/512<eJ l l.length)):dX l=((uK l,eJ l l.length),0):=by rw [dX,if_neg (λe=>e h),if_neg h2]
theorem aqo {U n:Nat} {k m a:Int} (h:jC U n k m a=true):(k=1\/k=2\/k=3)/\0<=a/\a<=2048/\0<=m/\m<=(U:Int):=by
 unfold jC at h
 split at h
 · simp only [Bool.and_eq_true,decide_eq_true_eq,beq_iff_eq] at h
   omega
 · split at h
   · simp only [Bool.and_eq_true,decide_eq_true_eq] at h
     omega
   · cases h
theorem aqp (l:List aH):(oJ l).take l.length=oJ l:=List.take_of_length_le (by rw [IC]; exact Nat.le_refl _)
theorem aqq (l:List aH):oJ l++[(⟨20,0,0⟩:aN)]=fe l 0:=by unfold fe; rw [NT,List.append_nil]
theorem RP {l:List aH} {i:Nat} {o:aH} (h:l[i]? = some o):cX l i+(o.code.length:Int)<=cX l l.length:=by
 rw [<-IA h];have hi:=(List.getElem?_eq_some_iff.1 h).1
 have hm:∀k,i+1+k<=l.length->cX l (i+1)<=cX l (i+1+k):=λk=>by
   induction k with
   | zero=>intro _; exact Int.le_refl _
   | succ k ih=>
     intro hk;obtain ⟨q,hq⟩:∃q,l[i+1+k]? = some q:=⟨_,List.getElem?_eq_getElem (by omega)⟩;have:=ih (by omega);have h2:=IA hq
     show cX l (i+1)<=cX l (i+1+k+1)
     omega
 have:=hm (l.length-(i+1)) (by omega)
 rwa [show i+1+(l.length-(i+1))=l.length by omega] at this
theorem abr:Enters Tryz.prog 58:=enters_of Tryz.func58 (by kernel_rfl) rfl
theorem xD:zeroOf Tryz.prog 42=some (.agg #[.slice none 0 0,.int .i64 0]):=by kernel_rfl
theorem RQ:eR Tryz.prog 42=some [(0,1),(1,1)]:=by kernel_rfl
theorem z_:cq Tryz.prog 42=some 2:=by kernel_rfl
theorem xE:eQ Tryz.prog 42=some 2:=by kernel_rfl
theorem mb:aX Tryz.prog 42 0=some 0:=by kernel_rfl
theorem aqr (H:View) (a:Option Addr) (c:Nat) (l:List aH) (w:World) (hH:Le H w) (hm:Sl tC 7 H a c l) :
   Calls Tryz.prog 20 #[.slice a l.length c] w λe w'=>e = .returned (.int .i64 (e_ l))/\Ext w w':=by
 have dQ:=hm.cap;have eB:=hm.max;refine enter Tryz.func20 O 11 O O ?_;refine CE (Vs:=[H]) (Ws.init (by simp [hH])) (Cs (Cr (V0 (Ya O) (Ln (Et (Cs (Cr (V0 (Ym O) ?_))))))));refine Ld Y O abr O (λq:SP=>.tuple #[.slice q.1 (qg l).length q.2,.int .i64 (e_ l)]) (λF q=>Sl Ll 3 F q.1 q.2 (qg l)) (λw hw=>abf H a c l w (hw.vs _ (by simp)) hm) ?_;intro F7 r7 hf7 h7;refine V0 (Ym O) (V0 (Yx O O) (V0 (Yx O O) (V0 (Ya O) (V0 (Ya O) (Ln (Et (Cs (Cr (V0 (Ym O) (V0 (Ya O) ?_))))))))));refine Ln (Et (az ?_));refine R1 O O λw' hw=>?_;exact ⟨O,hw.fr⟩
theorem RR (H:View) (a:Option Addr) (c:Nat) (l:List aH) (w:World) (hH:Le H w) (hm:Sl tC 7 H a c l) :
   Calls Tryz.prog 17 #[.slice a l.length c] w λe w'=>∃q:SP,e = .returned (.tuple #[.agg #[.slice q.1 (dX l).1.1.length q.2,.int .i64 (dX l).1.2],.int .i64 (dX l).2])/\Ext w w'/\Sl fH 3 (nv w w') q.1 q.2 (dX l).1.1:=by
 have dQ:=hm.cap;have eB:=hm.max;refine enter Tryz.func17 O 160 O O ?_;refine CE (Vs:=[H]) (Ws.init (by simp [hH])) (Cs (Cr ?_));refine Al Y O xD λb2=>?_;refine V0 (Ya O) (Ln (Et (Cs (Cr (V0 (Ym O) ?_)))));refine Ld Y O abr O (λq:SP=>.tuple #[.slice q.1 (qg l).length q.2,.int .i64 (e_ l)]) (λF q=>Sl Ll 3 F q.1 q.2 (qg l)) (λw hw=>abf H a c l w (hw.vs _ (by simp)) hm) ?_;intro rB eO BS xF;refine V0 (Ym O) (V0 (Yx O O) (V0 (Yx O O) (V0 (Ya O) (V0 (Ya O) (Ln (Et (Cs (Cs (Cr (V0 (Ym O) (V0 (jq O O) ?_)))))))))));refine Ln (Et ?_);refine Cc O (λad=>?_) (λad=>?_)
 ·have hE:¬e_ l=0:=by simpa using ad
  refine Cs (Cr (V0 (Yb xD RQ O O) (V0 (Ym O) (an 0 Y O O O z_ O O O (V0 (Ya O) (Ln (Et (az (Er ?_)))))))));refine WE.dJ (gu O (cS 0 O O xE O) (iH O)) λw' hw=>?_;rw [RM hE];exact ⟨(none,0),O,hw.fr,Sl.nil⟩
 have hE:e_ l=0:=by simpa using ad
 have aE:=NM.1 hE
 have RL:qg l=nJ l++[sK l]:=by rw [qg,if_pos hE]
 rw [RL] at xF ⊢;have rZ:=xF.cap;have YN:=xF.max;have n6:=wy l;have Ls:=aE.ep;obtain ⟨pbe,poe,hae,qe,aqt,av0⟩:=xF.aZ l.length _ (afB l)
 have hll:(nJ l++[sK l]).length=l.length+1:=by simp [wy]
 refine Ck (Et (Cs (Cr (V0 (Ym O) (V0 (Ym O) (V0 (Yn jn O) (V0 (Yo (i:=l.length) xC O O hae (by omega)) (V0 (cM 0 Rw O O O (aqt)) ?_))))))));refine Al Y O Gl λb6=>?_;refine an 0 Y O O O Rv O O O (Ln (Et (Cs (Cs (fo 0 (.cells (Lk (sK l) qe).toArray 105 (0,0)) O O (Cr (V0 (Yf xB O) (V0 (Yd 0 O O O aq) (V0 (bZ O O) (V0 (Ym O) ?_))))))))));apply Lo 3 O O O O Y O O O O O
 ·intro de;refine Vg (Yf Ct O) (Vg (Yd 0 O O O aq) (Vg (bZ O O) ?_));exact Gt 3 O O O
 refine Ln (Et ?_);refine Cc O (λar=>?_) (λar=>?_)
 ·have h2:2048<cX l l.length\/512<eJ l l.length:=by
    have h9:=ar;simp only [Bool.or_eq_true,decide_eq_true_eq] at h9;exact h9
  refine Cs (Cr (V0 (Yb xD RQ O O) (an 1 Y O O O z_ O O O (V0 (Ya O) (Ln (Et (az (Er ?_))))))));refine WE.dJ (gu O (cS 1 O O xE O) (iH O)) λw' hw=>?_;rw [abq hE h2];exact ⟨(none,0),O,hw.fr,Sl.nil⟩
 have h2:¬(2048<cX l l.length\/512<eJ l l.length):=by
   have h9:=ar;simp only [Bool.or_eq_false_iff,decide_eq_false_iff_not] at h9;exact λh=>h.elim h9.1 h9.2
 refine Ck (Et (Cs (Cr (V0 (Yf Ct O) (V0 (Yd 0 O O O aq) (V0 (Yb xD RQ O O) ?_))))));refine Al Y O xD λb7=>?_;refine an 0 Y O O O z_ O O O (Ln (Et (Cs (Cs (fo 0 (.cells #[.slice none 0 0,.int .i64 (eJ l l.length)] 42 (0,0)) O O ?_)))));refine sh (λ_ h=>h.fB 67 3) ?_;refine Cr (V0 (Ym O) (V0 (Yn jn O) (V0 (Ym O) (Ln (Et (Cb ?_))))));refine cU (ι:=Nat×SP) (λg=>[(44,.int .i64 (g.1:Int))]) [(0,_),(2,_),(3,_),(4,_),(7,_),(42,_),(43,_)] (λg=>Ws w [] [bo 67 3 aN.cells g.2.1 g.2.2 ((oJ l).take g.1),ab b7 (.cells #[.slice g.2.1 ((oJ l).take g.1).length g.2.2,.int .i64 (eJ l l.length)] 42 (0,0)),ab b2 (.cells #[.slice none 0 0,.int .i64 0] 42 (0,0))] [rB,H]) (λg=>g.1<=l.length) (λg=>l.length-g.1) (0,(none,0)) (Nat.zero_le _) (sc O (sc O (sc O (sc O (sc O (sc O (sc O (sc O sn)))))))) (λ_ h=>(Wt 3 (((h.f 3 O).f 2 O).f 2 O):)) ?_;intro g hg;refine Cs (Cr (V0 (bq O O) (Ln (Et (Cs ?_)))));refine Cc O (λay=>?_) (λay=>?_)
 ·have aw:g.1<l.length:=by simpa using ay
  obtain ⟨o,dD⟩:∃q,l[g.1]? = some q:=⟨_,List.getElem?_eq_getElem aw⟩;obtain ⟨Gm,Gn,rW,pt⟩:=hm.aZ g.1 o dD;obtain ⟨qo,rY,dr⟩:=pt;have tG:=List.mem_of_getElem? dD;have Gp:=dr.ae.cap;have Gq:=dr.ae.max;have Gr:=dr.fix.cap;have Gu:=dr.fix.max;have Gv:=dr.code.cap;have Gw:=dr.code.max;obtain ⟨yL,pop,ml,qp,Lx,Ly⟩:=xF.aZ g.1 _ (NP dD);have Lz:vc rB yL (pop+g.1*3+0)=some (.int .i64 (cX l g.1)):=Lx 0 _ rfl;have Rx:=Bg aE.ep aE.mI (k:=g.1) (by omega);have hdK:=DR aE.ep aE.mI (k:=g.1) (by omega);have xR:=RP dD;have Z_:=(yr (aE.mI o tG)).2.main;obtain ⟨pm,hpm,av2⟩:=uz Z_
  have hhl:((oJ l).take g.1).length=g.1:=by rw [List.length_take,IC]; omega
  refine Ck (Et (Cs (Cb (Cs (Cr (V0 (Ym O) (V0 (Yo jn O O rW aw) (V0 (cM 1 o6 O O O (rY)) ?_))))))));refine Al Y O rR λb9=>?_;refine V0 (Ya O) (an 0 Y O O O tz O O O (Ln (Et (fo 0 (.cells (iM o qo).toArray 27 (0,0)) O O ?_))));refine CU (λ_=>true) [1] [13,14] (.q false 0 (.q true 1 (.q false 2 (.q false 3 (.q false 4 (.q false 5 (.q true 6 (.q false 7 (.q true 8 (.q false 9 (.q false 10 (.e 11 (.e 12 .nil .stop) .stop)))))))))))) mixed (by kernel_rfl) (λ_ _ _ d _ _ h=>by cases d<;>exact h) ?_;refine U0 O (Wp 1) (Yf mb O) (U0 O (Wp 1) (Yd 1 O O O gn) (U0 O (Wp 1) (Ym O) (U0 O (Wp 1) (Ym O) (U0 O (Wp 1) (Yo xC O O ml (by omega)) (U0 O (Wp 1) (Yf xB O) (U0 O (Wp 1) (dm 0 aq O O (Lz)) (U0 O (Wp 1) (Yf K9 O) ?_)))))));refine U0 O (Wp 1) (Yd 0 O O O aq) (U0 O (Wp 1) (lH O O (by omega)) (U0 O (Wp 1) (Yb fk f_ O O) ?_));refine Ue O (Wp 1) ?_ WU.stop;refine Lb Y O gV O O O O λb60=>?_;refine bH 0 (.cells (aN.cells ⟨13,cX l g.1+o.main,0⟩).toArray 67 (0,0)) O (O) (Ln (Eu ?_));refine Ue O (λ_ h=>(Wo 1 (Wd 1 h):)) ?_ WU.stop;refine LA ((⟨13,cX l g.1+o.main,0⟩:aN)) 2 0 Y O gV O O O O O O (by omega) (by omega) λa61 c61=>?_;rw [<-afH dD];refine Ln (Eu ?_);refine WU.nil (λ_ h=>(Wo 1 (Wd 1 h):)) ?_;refine WS.e O ?_;refine V0 (Yf mb O) (Ln (Es ?_));refine WS.e O ?_;refine an 3 Y O O O K0 O O O (Ln (Es ?_));refine WS.nil ?_;refine Eb (Et (Cr (V0 (Yi O O O (by omega)) (V0 (Ym O) (Ln ?_)))));exact Ea ((g.1+1,(a61,c61)):Nat×SP) (by show _-(g.1+1)<_; omega) (by show g.1+1<=_; omega) (sc O (sc O (sc O (sc O (sc O (sc O (sc O (sc O sn)))))))) (λ_ h=>Wd 2 h)
 have wG:g.1=l.length:=by simp at ay; omega
 rw [wG,aqp];have hhl:=IC l;refine Ce (Ex (Ex (cf (Et (Cs (Cr (V0 (Yf mb O) (V0 (Yd 1 O O O gn) (V0 (Yb fk f_ O O) ?_)))))))));refine Lb Y O gV O O O O λJe=>?_;refine bH 0 (.cells (aN.cells ⟨20,0,0⟩).toArray 67 (0,0)) O (O) ?_;refine LA ((⟨20,0,0⟩:aN)) 1 0 Y O gV O O O O O O (by omega) (by omega) λa68 c68=>?_;rw [aqq];refine V0 (Yf mb O) (an 2 Y O O O K0 O O O (Ln (Et (Cs (Cs (Cr (V0 (Ym O) (V0 (Yn jn O) (V0 (Ym O) (Ln (Et (Cb ?_))))))))))));refine cU (ι:=Nat×SP) (λe=>[(72,.int .i64 (e.1:Int))]) [(0,_),(2,_),(3,_),(4,_),(7,_),(70,_),(71,_)] (λe=>Ws w [] [bo 67 3 aN.cells e.2.1 e.2.2 (fe l e.1),ab b7 (.cells #[.slice e.2.1 (fe l e.1).length e.2.2,.int .i64 (eJ l l.length)] 42 (0,0)),ab b2 (.cells #[.slice none 0 0,.int .i64 0] 42 (0,0))] [rB,H]) (λe=>e.1<=l.length) (λe=>l.length-e.1) (0,(a68,c68)) (Nat.zero_le _) (sc O (sc O (sc O (sc O (sc O (sc O (sc O (sc O sn)))))))) (λ_ h=>(Wt 3 (((h.f 3 O).f 3 O).f 3 O):)) ?_;intro e he;refine Cs (Cr (V0 (bq O O) (Ln (Et (Cs ?_)))));refine Cc O (λaM=>?_) (λaM=>?_)
 ·have z7:e.1<l.length:=by simpa using aM
  obtain ⟨o,dD⟩:∃q,l[e.1]? = some q:=⟨_,List.getElem?_eq_getElem z7⟩;obtain ⟨Gm,Gn,rW,pt⟩:=hm.aZ e.1 o dD;obtain ⟨qo,rY,dr⟩:=pt;have tG:=List.mem_of_getElem? dD;have Gp:=dr.ae.cap;have Gq:=dr.ae.max;have Gr:=dr.fix.cap;have Gu:=dr.fix.max;have Gv:=dr.code.cap;have Gw:=dr.code.max;obtain ⟨yL,pop,ml,qp,Lx,Ly⟩:=xF.aZ e.1 _ (NP dD);have Lz:vc rB yL (pop+e.1*3+0)=some (.int .i64 (cX l e.1)):=Lx 0 _ rfl;have Rx:=Bg aE.ep aE.mI (k:=e.1) (by omega);have hdK:=DR aE.ep aE.mI (k:=e.1) (by omega);have xR:=RP dD;have xk:=VG (l:=l) (i:=e.1) (by omega);have hko:=(yr (aE.mI o tG)).2;have tx:=DP (aE.mI o tG);have abj:=tx.code;have av4:=Ly.cap;have av5:=Ly.max;have RF:=NQ l e.1 o;have aqj:(qX l e.1 o).yl.length=o.ae.length+1:=RF;refine Ck (Et (Cs (Cb (Cs (Cr (V0 (Ym O) (V0 (Yo jn O O rW z7) (V0 (cM 1 o6 O O O (rY)) ?_))))))));refine Al Y O rR λrj=>?_;refine V0 (Ya O) (an 0 Y O O O tz O O O (Ln (Et (Cs (fo 0 (.cells (iM o qo).toArray 27 (0,0)) O O (Cr (V0 (Yf mb O) (V0 (Yd 2 O O O gn) (V0 (Yf mY O) ?_)))))))));refine V0 (Yd 0 O O O gn) ?_;refine WL.x1 (f:=aN.cells) (rd:=fH) (xs:=fe l e.1) (ys:=o.code) 1 (λ_=>H) Y O gV O O O (λw hw=>⟨hw.vs H (by simp),dr.code⟩) (λ_ _ _ _ h=>h) aN.a8 aN.aqn (by omega) (by omega) λRS RT=>?_;refine V0 (Yf mb O) (an 2 Y O O O K0 O O O (Ln (Et (Cs (Cr (V0 (Yf FW O) (V0 (Yd 0 O O O K1) (V0 (Yn Cm O) (V0 (Ym O) (Ln (Et (Cb ?_))))))))))));refine cU (ι:=Nat) (λk=>[(86,.int .i64 (k:Int))]) [(0,_),(2,_),(3,_),(4,_),(7,_),(10,_),(70,_),(71,_),(72,_),(84,_),(85,_)] (λk=>Ws w [] [bo 67 3 aN.cells RS RT (fe l e.1++kF l e.1 o o.code (o.fix.take k)),ab rj (.cells (iM o qo).toArray 27 (0,0)),ab b7 (.cells #[.slice RS (fe l e.1++o.code).length RT,.int .i64 (eJ l l.length)] 42 (0,0)),ab b2 (.cells #[.slice none 0 0,.int .i64 0] 42 (0,0))] [rB,H]) (λk=>k<=o.fix.length) (λk=>o.fix.length-k) 0 (Nat.zero_le _) (sc O (sc O (sc O (sc O (sc O (sc O (sc O (sc O (sc O (sc O (sc O (sc O sn)))))))))))) (λ_ h=>((((h.f 3 O).f 3 O).f 2 O).f 3 O:)) ?_;intro k hk;refine Cs (Cr (V0 (bq O O) (Ln (Et (Cs ?_)))));refine Cc O (λaW=>?_) (λaW=>?_)
  ·have aw:k<o.fix.length:=by simpa using aW
   obtain ⟨x,bP⟩:∃q,o.fix[k]? = some q:=⟨_,List.getElem?_eq_getElem aw⟩;obtain ⟨hZ,h_,iE,ek⟩:=dr.fix.aZ k x bP;have ek:aT H hZ (h_+k*3) x.cells:=ek;have Gx:=hko.fix x (List.mem_of_getElem? bP);obtain ⟨av6,Gy,hA1,RA,RB⟩:=aqo Gx.2;obtain ⟨p,Rk,aqz⟩:=uz Gx.1
   have rV:x.at_.toNat=p:=by omega
   obtain ⟨y,bC⟩:∃y,o.code[p]? = some y:=⟨_,List.getElem?_eq_getElem aqz⟩;have vD:=aa6 rV bC;rw [vD] at Gy hA1
   have LB:(kF l e.1 o o.code (o.fix.take k))[p]? = some y:=by
     have h8:=afG (l:=l) (n:=e.1) hko bP;rw [rV] at h8;rw [h8,bC]
   have Cu:(fe l e.1++kF l e.1 o o.code (o.fix.take k))[(fe l e.1).length+p]? = some y:=by rw [List.getElem?_append_right (by omega),Nat.add_sub_cancel_left]; exact LB
   obtain ⟨RC,Gz⟩:=VD z7 (aE.known e.1 o dD) RA RB;obtain ⟨RG,RH,RI,z8⟩:=Ly.aZ x.m.toNat _ RC;have z8:aT rB RG (RH+x.m.toNat*1) (pI (fR l e.1 o x.m)):=z8;obtain ⟨o2,tv⟩:∃o2,l[fR l e.1 o x.m]? = some o2:=⟨_,List.getElem?_eq_getElem Gz⟩;obtain ⟨pb2,po2,t_,q2,Ee,Lu⟩:=hm.aZ _ o2 tv;obtain ⟨KM,KN,B9,qk,abu,av7⟩:=xF.aZ _ _ (NP tv);have aqA:vc rB KM (KN+fR l e.1 o x.m*3+0)=some (.int .i64 (cX l (fR l e.1 o x.m))):=abu 0 _ rfl;have aqB:vc rB KM (KN+fR l e.1 o x.m*3+1)=some (.int .i64 (eJ l (fR l e.1 o x.m))):=abu 1 _ rfl;have av8:=Bg aE.ep aE.mI (k:=fR l e.1 o x.m) (by omega);have av9:=DR aE.ep aE.mI (k:=fR l e.1 o x.m) (by omega);have hpn:(kF l e.1 o o.code (o.fix.take k)).length=o.code.length:=IB _ _ _ _ _;refine Ck (Et (Cs (Cb (Cs (Cr (V0 (Yo Cm O O iE aw) (V0 (cM 1 Rd O O O (ek)) ?_)))))));refine Al Y O K2 λjE=>?_;refine an 0 Y O O O Ri O O O (Ln (Et (Cs (fo 0 (.cells (x.cells).toArray 70 (0,0)) O O ?_))));refine WC.x0 1 O (by simp only [List.length_append]; omega) λcb o4 FX av_=>?_;refine WC.xX [(0,true),(1,true),(2,true),(3,true),(4,true),(5,true),(6,true),(7,true),(8,true),(9,true),(10,true),(11,true),(12,true)] mixed (by kernel_rfl) (λ_ _ _ d _ h=>by cases d<;>exact h) ?_;refine D0 O (λ_ h=>h) (Yf mb O) (D0 O (λ_ h=>h) (Yd 3 O O O gn) (D0 O (λ_ h=>h) (Ym O) (D0 O (λ_ h=>h) (Ym O) (D0 O (λ_ h=>h) (Yo xC O O ml (by omega)) (D0 O (λ_ h=>h) (Yf xB O) (D0 O (λ_ h=>h) (dm 0 aq O O (Lz)) (D0 O (λ_ h=>h) (Yf Co O) ?_)))))));refine D0 O (λ_ h=>h) (Yd 0 O O O aq) (D0 O (λ_ h=>h) (Mo (a:=(fe l e.1).length) (b:=p) O O xk.symm Rk (by omega)) (D0 O (λ_ h=>h) (Yo (i:=(fe l e.1).length+p) ig O O o4 (by simp only [List.length_append]; omega)) (D0 O (λ_ h=>h) (Yf l9 O) (D0 O (λ_ h=>h) (Ya O) ?_))));refine WD.nil (λ_ h=>h) ?_;refine Et (Cs ?_);refine WC.xX [(0,true),(1,true),(2,true),(3,true),(4,true),(5,true),(6,true),(7,true),(8,true),(9,true)] mixed (by kernel_rfl) (λ_ _ _ d _ h=>by cases d<;>exact h) ?_;refine D0 O (λ_ h=>h) (Ym O) (D0 O (λ_ h=>h) (Ym O) (D0 O (λ_ h=>h) (Yo xC O O ml (by omega)) (D0 O (λ_ h=>h) (Yf Lm O) (D0 O (λ_ h=>h) (dm 0 dA O O (Lx 2 _ O)) (D0 O (λ_ h=>h) (Yf z1 O) (D0 O (λ_ h=>h) (Yd 0 O O O aq) (D0 O (λ_ h=>h) (Ar dK O O RI (by omega) (by omega)) ?_)))))));refine D0 O (λ_ h=>h) (dm 0 aq O O (z8 0 _ O)) (D0 O (λ_ h=>h) (Ya O) ?_);refine WD.nil (λ_ h=>h) ?_;refine Et (Cs (Cr (V0 (Yf Rj O) (V0 (Yd 0 O O O aq) (Ln (Et (Cb (Cs (Cr (V0 (aG O O) (V0 (Ya O) (Ln (Et ?_)))))))))))));refine Cc O (λbl=>?_) (λbl=>?_)
   ·have jx:x.kind=1:=by simpa using bl
    refine CU (λ_=>true) [] [9,10] (.q false 0 (.q false 1 (.q true 2 (.q false 3 (.q false 4 (.q false 5 (.q false 6 (.q true 7 (.q false 8 .nil))))))))) mixed (by kernel_rfl) (λ_ _ _ d _ _ h=>by cases d<;>exact h) ?_;refine U0 O (λ_ h=>h) (Ym O) (U0 O (λ_ h=>h) (aO O) (U0 O (λ_ h=>h) (qH (y:=y) 1 ((fe l e.1).length+p) 1 O O o4 (by omega) aN.a8 Cu O aq) (U0 O (λ_ h=>h) (Ym O) (U0 O (λ_ h=>h) (Ym O) (U0 O (λ_ h=>h) (Yo xC O O ml (by omega)) (U0 O (λ_ h=>h) (Yf xB O) (U0 O (λ_ h=>h) (dm 0 aq O O (Lz)) ?_)))))));refine U0 O (λ_ h=>h) (lH O O (by omega)) ?_;refine WU.nil (λ_ h=>h) ?_;refine WS.e O ?_;refine V0 (aO O) (Ln (Es ?_));refine WS.e O ?_;refine WL.storeT (y:=y) 1 ((fe l e.1).length+p) 1 (⟨y.op,y.a+cX l e.1,y.b⟩) Y O O O o4 (by omega) aN.a8 Cu bX O O (by decide) O ?_
    have GB:sM l e.1 o x=y.a+cX l e.1:=by unfold sM; rw [vD]; rw [if_pos jx]
    rw [NV (l:=l) (n:=e.1) (o:=o) (c:=kF l e.1 o o.code (o.fix.take k)) (p:=p) (x:=y) (y.a+cX l e.1) LB,<-GB,<-rV,<-NS bP];refine Ln (Es ?_);refine WS.nil ?_;refine Eb (Eb (Et (Cr (V0 (Yi O O O (by omega)) (V0 (Ym O) (Ln ?_))))));exact Ea (k+1) (by omega) (by omega) (sc O (sc O (sc O (sc O (sc O (sc O (sc O (sc O (sc O (sc O (sc O (sc O sn)))))))))))) (λ_ h=>Wd 1 h)
   have jx:¬x.kind=1:=by simpa using bl
   refine Cs (Cr (V0 (aG O O) (V0 (Ya O) (Ln (Et ?_)))));refine Cc O (λbt=>?_) (λbt=>?_)
   ·have eI:x.kind=2:=by simpa using bt
    have Cq:=aE.bO e.1 o dD x (List.mem_of_getElem? bP)
    have RJ:Be l (fR l e.1 o x.m)=o2.di.length:=by unfold Be; rw [tv]; rfl
    have hAl:y.a.toNat<o2.di.length:=by
      unfold sL at Cq;rw [eI,RJ,vD] at Cq;simp at Cq;omega
    obtain ⟨v2,GC⟩:∃v,o2.di[y.a.toNat]? = some v:=⟨_,List.getElem?_eq_getElem hAl⟩;obtain ⟨pb4,po4,ha4,RU⟩:=Lu.di.aZ _ v2 GC;have RU:aT H pb4 (po4+y.a.toNat*1) (mD v2):=RU;have awa:=Lu.di.cap;have awb:=Lu.di.max
    have D2:NR l (fR l e.1 o x.m) y.a=v2:=by unfold NR; rw [tv,Option.bind_some,GC]; rfl
    have awc:0<=v2/\v2<=2048:=by
      have h7:=aE.mI o2 (List.mem_of_getElem? tv);obtain ⟨z,hz,hzl⟩:=uz ((yr h7).2.di v2 (List.mem_of_getElem? GC));have:=(DP h7).code;omega
    refine CU (λ_=>true) [] [17,18] (.q false 0 (.q false 1 (.q false 2 (.q false 3 (.q false 4 (.q true 5 (.q false 6 (.q false 7 (.q false 8 (.q false 9 (.q true 10 (.q false 11 (.q false 12 (.q true 13 (.q false 14 (.q true 15 (.q false 16 .nil))))))))))))))))) mixed (by kernel_rfl) (λ_ _ _ d _ _ h=>by cases d<;>exact h) ?_;refine U0 O (λ_ h=>h) (Ym O) (U0 O (λ_ h=>h) (Ym O) (U0 O (λ_ h=>h) (Ym O) (U0 O (λ_ h=>h) (Yo xC O O B9 (by omega)) (U0 O (λ_ h=>h) (Yf xB O) (U0 O (λ_ h=>h) (dm 0 aq O O (aqA)) (U0 O (λ_ h=>h) (Ym O) (U0 O (λ_ h=>h) (Ym O) ?_)))))));refine U0 O (λ_ h=>h) (Yo jn O O t_ Gz) (U0 O (λ_ h=>h) (Yf xx O) (U0 O (λ_ h=>h) (dm 1 dA O O (Ee 5 _ O)) (U0 O (λ_ h=>h) (Ym O) (U0 O (λ_ h=>h) (aO O) (U0 O (λ_ h=>h) (qH (y:=y) 1 ((fe l e.1).length+p) 1 O O o4 (by omega) aN.a8 Cu O aq) (U0 O (λ_ h=>h) (Ar dK O O ha4 (by omega) (by omega)) (U0 O (λ_ h=>h) (dm 1 aq O O (RU 0 _ O)) ?_)))))));refine U0 O (λ_ h=>h) (lH O O (by omega)) ?_;refine WU.nil (λ_ h=>h) ?_;refine WS.e O ?_;refine V0 (aO O) (Ln (Es ?_));refine WS.e O ?_;refine WL.storeT (y:=y) 1 ((fe l e.1).length+p) 1 (⟨y.op,cX l (fR l e.1 o x.m)+v2,y.b⟩) Y O O O o4 (by omega) aN.a8 Cu bX O O (by decide) O ?_
    have GB:sM l e.1 o x=cX l (fR l e.1 o x.m)+v2:=by unfold sM; rw [vD]; rw [if_neg jx,if_pos eI,D2]
    rw [NV (l:=l) (n:=e.1) (o:=o) (c:=kF l e.1 o o.code (o.fix.take k)) (p:=p) (x:=y) (cX l (fR l e.1 o x.m)+v2) LB,<-GB,<-rV,<-NS bP];refine Ln (Es ?_);refine WS.nil ?_;refine Eb (Eb (Et (Cr (V0 (Yi O O O (by omega)) (V0 (Ym O) (Ln ?_))))));exact Ea (k+1) (by omega) (by omega) (sc O (sc O (sc O (sc O (sc O (sc O (sc O (sc O (sc O (sc O (sc O (sc O sn)))))))))))) (λ_ h=>Wd 1 h)
   have eI:¬x.kind=2:=by simpa using bt
   refine Cs (Cr (V0 (aG O O) (V0 (Ya O) (Ln (Et ?_)))));refine Cc O (λbQ=>?_) (λbQ=>?_)
   ·have re:x.kind=3:=by simpa using bQ
    refine CU (λ_=>true) [] [9,10] (.q false 0 (.q false 1 (.q true 2 (.q false 3 (.q false 4 (.q false 5 (.q false 6 (.q true 7 (.q false 8 .nil))))))))) mixed (by kernel_rfl) (λ_ _ _ d _ _ h=>by cases d<;>exact h) ?_;refine U0 O (λ_ h=>h) (Ym O) (U0 O (λ_ h=>h) (aO O) (U0 O (λ_ h=>h) (qH (y:=y) 1 ((fe l e.1).length+p) 1 O O o4 (by omega) aN.a8 Cu O aq) (U0 O (λ_ h=>h) (Ym O) (U0 O (λ_ h=>h) (Ym O) (U0 O (λ_ h=>h) (Yo xC O O B9 (by omega)) (U0 O (λ_ h=>h) (Yf Ct O) (U0 O (λ_ h=>h) (dm 0 aq O O (aqB)) ?_)))))));refine U0 O (λ_ h=>h) (lH O O (by omega)) ?_;refine WU.nil (λ_ h=>h) ?_;refine WS.e O ?_;refine V0 (aO O) (Ln (Es ?_));refine WS.e O ?_;refine WL.storeT (y:=y) 1 ((fe l e.1).length+p) 1 (⟨y.op,y.a+eJ l (fR l e.1 o x.m),y.b⟩) Y O O O o4 (by omega) aN.a8 Cu bX O O (by decide) O ?_
    have GB:sM l e.1 o x=y.a+eJ l (fR l e.1 o x.m):=by unfold sM; rw [vD]; rw [if_neg jx,if_neg eI]
    rw [NV (l:=l) (n:=e.1) (o:=o) (c:=kF l e.1 o o.code (o.fix.take k)) (p:=p) (x:=y) (y.a+eJ l (fR l e.1 o x.m)) LB,<-GB,<-rV,<-NS bP];refine Ln (Es ?_);refine WS.nil ?_;refine Eb (Eb (Et (Cr (V0 (Yi O O O (by omega)) (V0 (Ym O) (Ln ?_))))));exact Ea (k+1) (by omega) (by omega) (sc O (sc O (sc O (sc O (sc O (sc O (sc O (sc O (sc O (sc O (sc O (sc O sn)))))))))))) (λ_ h=>Wd 1 h)
   have re:¬x.kind=3:=by simpa using bQ
   omega
  have aqG:k=o.fix.length:=by simp at aW; omega
  rw [aqG,List.take_length];have Hp:fe l e.1++kF l e.1 o o.code o.fix=fe l (e.1+1):=(VH dD).symm;rw [Hp]
  have D4:(fe l e.1++o.code).length=(fe l (e.1+1)).length:=by rw [VH dD,List.length_append,List.length_append]; unfold DS; rw [IB]
  rw [D4];refine Ce (Ex (Ex (cf (Eb (Et (Cr (V0 (Yi O O O (by omega)) (V0 (Ym O) (Ln ?_)))))))));exact Ea ((e.1+1,(RS,RT)):Nat×SP) (by show _-(e.1+1)<_; omega) (by show e.1+1<=_; omega) (sc O (sc O (sc O (sc O (sc O (sc O (sc O (sc O sn)))))))) (λ_ h=>(Wt 3 (((h.f 3 O).f 3 O).f 2 O):))
 have Bt:e.1=l.length:=by simp at aM; omega
 rw [Bt];have hM:=RO hE h2;refine Ce (Ex (Ex (cf (Et (Cs (Cr (V0 (bA 1 O O xE O) (an 2 Y O O O z_ O O O (V0 (Ya O) (Ln (Et (az ?_))))))))))));refine WE.dJ (gu O (cS 2 O O xE O) (iH O)) λw' hw=>?_;rw [hM];exact ⟨e.2,O,hw.fr,hw.gv 0 O aN.a8 (λ_ _ _ _ h=>h)⟩
end Go.Proofs.YtplfmnkmlaolpaaGreatDoor
end
section
namespace Go.Proofs.YtplfmnkmlaolpaaGreatDoor.Mch
open Go.Bw
structure iZ where
 op:Int
 a:Int
 b:Int
deriving DecidableEq
def iZ.cells (x:iZ):List Value:=[.int .i64 x.op,.int .i64 x.a,.int .i64 x.b]
def RV (H:View) (b o:Nat) (x:iZ):Prop:=aT H b o x.cells
def GG (i:iZ):Bool:=decide (i.op<1)||decide (22<i.op)
def nc (code:List iZ) (data:Int):Int:=
 if (decide ((code.length:Int)<1)||decide (2048<(code.length:Int)))=true then 2
 else if code.any GG=true then 4
 else if (decide (data<0)||decide (512<data))=true then 3 else 0
theorem any_false {α:Type} {p:α->Bool} {l:List α} (h:∀(j:Nat) (x:α),l[j]? = some x->p x=false):l.any p=false:=by
 rw [List.any_eq_false];intro x hx;obtain ⟨j,hj⟩:=List.getElem?_of_mem hx;simp [h j x hj]
theorem any_true {α:Type} {p:α->Bool} {l:List α} {j:Nat} {x:α} (hj:l[j]? = some x) (h:p x=true):l.any p=true:=List.any_eq_true.2 ⟨x,List.mem_of_getElem? hj,h⟩
theorem mb:aX Tryz.prog 42 0=some 0:=by kernel_rfl
theorem gn:dI Tryz.prog 23=true:=by kernel_rfl
theorem ig:dL Tryz.prog 23=some 3:=by kernel_rfl
theorem B_:eQ Tryz.prog 67=some 3:=by kernel_rfl
theorem fk:zeroOf Tryz.prog 67=some (.agg #[.int .i64 0,.int .i64 0,.int .i64 0]):=by kernel_rfl
theorem Rh:cq Tryz.prog 67=some 3:=by kernel_rfl
theorem zZ:aX Tryz.prog 67 0=some 0:=by kernel_rfl
theorem aq:dI Tryz.prog 3=true:=by kernel_rfl
theorem GH:aX Tryz.prog 42 1=some 1:=by kernel_rfl
theorem abv (H:View) (a:Option Addr) (c:Nat) (code:List iZ) (data:Int) (w:World) (hH:Le H w) (hm:Sl RV 3 H a c code) :
   Calls Tryz.prog 23 #[.agg #[.slice a code.length c,.int .i64 data]] w λe w'=>e = .returned (.int .i64 (nc code data))/\Ext w w':=by
 have dQ:=hm.cap;have eB:=hm.max;refine enter Tryz.func23 O 39 O O ?_;refine CE (Vs:=[H]) (Ws.init (by simp [hH])) (Cs (Cr ?_));refine WL.box Y O O λb1=>?_;refine V0 (Ya O) (Ln (Et (Cs (Cs (Cr (V0 (Yf mb O) (V0 (Yd 0 O O O gn) (V0 (Yn ig O) (V0 (bq O O) (V0 (Ym O) ?_))))))))));apply Lo 4 O O O O Y O O O O O
 ·intro de;refine Vg (Yf mb O) (Vg (Yd 0 O O O gn) (Vg (Yn ig O) (Vg (bZ O O) ?_)));exact Gt 4 O O O
 refine Ln (Et ?_);refine Cc O (λad=>?_) (λad=>?_)
 ·refine Cs (Cr (V0 (Ya O) (Ln (Et (az (Er ?_))))));refine R1 O O λw' hw=>?_;exact ⟨by rw [nc,if_pos ad],hw.fr⟩
 refine Ck (Et (Cs (Cs (Cr (V0 (Yf mb O) (V0 (Yd 0 O O O gn) (V0 (Yn ig O) (V0 (Ym O) (Ln (Et (Cb ?_)))))))))));refine CW (ι:=Nat) (λi=>[(18,.int .i64 (i:Int))]) [(1,_),(16,_),(17,_)] (λi=>i<=code.length/\∀j x,j<i->code[j]? = some x->GG x=false) (λi=>code.length-i) 0 ⟨Nat.zero_le _,by simp⟩ (sc O (sc O (sc O (sc O sn)))) ?_;intro i ⟨hi,cg⟩;refine Cs (Cr (V0 (bq O O) (Ln (Et (Cs ?_)))));refine Cc O (λar=>?_) (λar=>?_)
 ·have aw:i<code.length:=by simpa using ar
  obtain ⟨x,bP⟩:∃x,code[i]? = some x:=⟨_,List.getElem?_eq_getElem aw⟩;obtain ⟨pb,po,ha,bJ⟩:=hm.aZ i x bP;have bJ:aT H pb (po+i*3) x.cells:=bJ;refine Ck (Et (Cs (Cb (Cs (Cr (V0 (Yo ig O O (by assumption) (by omega)) (V0 (cM 0 B_ O O O (bJ)) ?_)))))));refine Al Y O fk λb4=>?_;refine an 0 Y O O O Rh O O O (Ln (Et (Cs (Cr (V0 (Yf zZ O) (V0 (Yd 0 O O O aq) (V0 (bq O O) (V0 (Ym O) ?_))))))));apply Lo 3 O O O O Y O O O O O
  ·intro bK;refine Vg (Yf zZ O) (Vg (Yd 0 O O O aq) (Vg (bZ O O) ?_));exact Gt 3 O O O
  refine Ln (Et ?_);refine Cc O (λay=>?_) (λay=>?_)
  ·refine Cs (Cr (V0 (Ya O) (Ln (Et (az (bR (Er (Er (bR (Er ?_))))))))));refine R1 O O λw' hw=>?_;exact ⟨by rw [nc,if_neg (by simp [ad]),if_pos (any_true bP ay)],hw.fr⟩
  refine Ck (Eb (Et (Cr (V0 (Yi O O O (by omega)) (V0 (Ym O) (Ln ?_))))));exact Ea (i+1) (by omega) ⟨by omega,λj x hj hx=>by rcases Nat.lt_succ_iff_lt_or_eq.1 hj with h | rfl; exact cg j x h hx; rw [bP] at hx; injection hx with hx; subst hx; exact ay⟩ (sc rfl (sc rfl (sc rfl (sc rfl sn)))) (λ_ h=>Wd 1 h)
 have cz:¬i<code.length:=by simpa using ar
 have abw:code.any GG=false:=any_false λj x hj=>cg j x (by have:=(List.getElem?_eq_some_iff.1 hj).1; omega) hj;refine Ce (Ex (Ex (cf (Et (Cs (Cs (Cr (V0 (Yf GH O) (V0 (Yd 0 O O O aq) (V0 (bq O O) (V0 (Ym O) ?_)))))))))));apply Lo 3 O O O O Y O O O O O
 ·intro hY;refine Vg (Yf GH O) (Vg (Yd 0 O O O aq) (Vg (bZ O O) ?_));exact Gt 3 O O O
 refine Ln (Et ?_);refine Cc O (λaM=>?_) (λaM=>?_)
 ·refine Cs (Cr (V0 (Ya O) (Ln (Et (az (Er ?_))))));refine R1 O O λw' hw=>?_;exact ⟨by rw [nc,if_neg (by simp [ad]),if_neg (by simp [abw]),if_pos aM],hw.fr⟩
 refine Ck (Et (Cs (Cr (V0 (Ya O) (Ln (Et (az ?_)))))));refine R1 O O λw' hw=>?_;exact ⟨by rw [nc,if_neg (by simp [ad]),if_neg (by simp [abw]),if_neg (by simp [aM])],hw.fr⟩
end Go.Proofs.YtplfmnkmlaolpaaGreatDoor.Mch
end
section
namespace Go.Proofs.YtplfmnkmlaolpaaGreatDoor.Mch
open Go.Bw
def o7 (b:Bool):Int:=if b=true then 1 else 0
def i' (op a b:Int):Int×Bool:=
 if (op==9)=true then (IntKind.i64.wrap (a+b),true) else if (op==10)=true then (IntKind.i64.wrap (a-b),true) else if (op==11)=true then (IntKind.i64.wrap (a*b),true)
 else if (op==14)=true then (o7 (a==b),true) else if (op==15)=true then (o7 (decide (a<b)),true) else (0,false)
theorem iZ.a8 (x:iZ):x.cells.length=3:=rfl
theorem LC:Enters Tryz.prog 93:=enters_of Tryz.func93 (by kernel_rfl) rfl
theorem LD (b:Bool) (w:World) :
   Calls Tryz.prog 93 #[.bool b] w λe w'=>e = .returned (.int .i64 (o7 b))/\Ext w w':=by
 refine enter Tryz.func93 O 4 O O ?_;refine CE (Vs:=[]) (Ws.init (by simp)) (Cs (Cr (V0 (Ya O) (Ln (Et (Cs (Cs (Cr (V0 (Ym O) (Ln (Et ?_)))))))))));refine Cc O (λad=>?_) (λad=>?_)
 ·refine Cs (Cr (V0 (Ya O) (Ln (Et (az (Er ?_))))));refine R1 O O λw' hw=>?_;exact ⟨by simp [o7, *],hw.fr⟩
 refine Ck (Et (Cs (Cr (V0 (Ya O) (Ln (Et (az ?_)))))));refine R1 O O λw' hw=>?_;exact ⟨by simp [o7, *],hw.fr⟩
theorem aqH (op a b:Int) (w:World) :
   Calls Tryz.prog 109 #[.int .i64 op,.int .i64 a,.int .i64 b] w λe w'=>e = .returned (.tuple #[.int .i64 (i' op a b).1,.bool (i' op a b).2])/\Ext w w':=by
 refine enter Tryz.func109 O 36 O O ?_;refine CE (Vs:=[]) (Ws.init (by simp)) (Cs (Cr (V0 (Ya O) (V0 (Ya O) (Ln (Et (Cs (Cs (Cr (V0 (Ym O) (Ln (Et (Cb (Cs (Cr (V0 (aG O O) ?_))))))))))))))));refine V0 (Ya O) (Ln (Et ?_));refine Cc O (λad=>?_) (λad=>?_)
 ·refine Cs (Cr (V0 (Ym O) (V0 (Ym O) (V0 (vO O O) (V0 (Ya O) (V0 (Ya O) (Ln (Et (az (bR (Er ?_)))))))))));refine WE.me O O O λw' hw=>?_;exact ⟨by simp [i', *],hw.fr⟩
 refine Cs (Cr (V0 (aG O O) (V0 (Ya O) (Ln (Et ?_)))));refine Cc O (λar=>?_) (λar=>?_)
 ·refine Cs (Cr (V0 (Ym O) (V0 (Ym O) (V0 (Mb O O) (V0 (Ya O) (V0 (Ya O) (Ln (Et (az (bR (Er ?_)))))))))));refine WE.me O O O λw' hw=>?_;exact ⟨by simp [i', *],hw.fr⟩
 refine Cs (Cr (V0 (aG O O) (V0 (Ya O) (Ln (Et ?_)))));refine Cc O (λay=>?_) (λay=>?_)
 ·refine Cs (Cr (V0 (Ym O) (V0 (Ym O) (V0 (ab9 O O) (V0 (Ya O) (V0 (Ya O) (Ln (Et (az (bR (Er ?_)))))))))));refine WE.me O O O λw' hw=>?_;exact ⟨by simp [i', *],hw.fr⟩
 refine Cs (Cr (V0 (aG O O) (V0 (Ya O) (Ln (Et ?_)))));refine Cc O (λaM=>?_) (λaM=>?_)
 ·refine Cs (Cr (V0 (Ym O) (V0 (Ym O) (V0 (aG O O) (Lp Y O LC O (λw hw=>LD _ w) (V0 (Ya O) (V0 (Ya O) (Ln (Et (az (bR (Er ?_))))))))))));refine WE.me O O O λw' hw=>?_;exact ⟨by simp [i', *],hw.fr⟩
 refine Cs (Cr (V0 (aG O O) (V0 (Ya O) (Ln (Et ?_)))));refine Cc O (λaW=>?_) (λaW=>?_)
 ·refine Cs (Cr (V0 (Ym O) (V0 (Ym O) (V0 (bq O O) (Lp Y O LC O (λw hw=>LD _ w) (V0 (Ya O) (V0 (Ya O) (Ln (Et (az (bR (Er ?_))))))))))));refine WE.me O O O λw' hw=>?_;exact ⟨by simp [i', *],hw.fr⟩
 refine Ck (Eb (Et (Cs (Cr (V0 (Ya O) (V0 (Ya O) (Ln (Et (az ?_)))))))));refine WE.me O O O λw' hw=>?_;exact ⟨by simp [i', *],hw.fr⟩
end Go.Proofs.YtplfmnkmlaolpaaGreatDoor.Mch
end
section
namespace Go.Proofs.YtplfmnkmlaolpaaGreatDoor.Mch
open Go.Bw
def iv (x:Int):List Value:=[.int .i64 x]
theorem fl (x:Int):(iv x).length=1:=rfl
structure cR where
 la:Option Addr
 lc:Nat
 loc:List Int
 back:Int
def cR.cells (f:cR):List Value:=[.slice f.la f.loc.length f.lc,.int .i64 f.back]
def cR.own (f:cR):ak:=bo 3 1 iv f.la f.lc f.loc
structure Pm where
 at_:Int
 o8:Int
 steps:Int
 stack:List Int
 aU:List (List Int×Int)
 bh:List Int
 out:List Int
 data:List Int
 bu:Int
structure aa where
 at_:Int
 o8:Int
 steps:Int
 stack:List Int
 aU:List cR
 bh:List Int
 out:List Int
 data:List Int
 bu:Int
 sa:Option Addr
 sc:Nat
 fa:Option Addr
 fc:Nat
 ia:Option Addr
 ic:Nat
 oa:Option Addr
 oc:Nat
 da:Option Addr
 dc:Nat
def cR.pu (f:cR):List Int×Int:=(f.loc,f.back)
def aa.pu (s:aa):Pm:=⟨s.at_,s.o8,s.steps,s.stack,s.aU.map cR.pu,s.bh,s.out,s.data,s.bu⟩
def aa.obj (s:aa):Obj:=.cells #[.int .i64 s.at_,.int .i64 s.o8,.int .i64 s.steps,.slice s.sa s.stack.reverse.length s.sc,.slice s.fa s.aU.reverse.length s.fc,.slice s.ia s.bh.length s.ic,.int .i64 0,.slice s.oa s.out.length s.oc,.slice s.da s.data.length s.dc,.int .i64 s.bu] 130 (0,0)
abbrev aa.own (b:Nat) (s:aa):List ak:=[ab b s.obj,bo 3 1 iv s.sa s.sc s.stack.reverse,bo 163 2 cR.cells s.fa s.fc s.aU.reverse,bo 3 1 iv s.oa s.oc s.out,bo 3 1 iv s.da s.dc s.data,dF (s.aU.map cR.own)]
inductive Rz (α:Type) where
 | ok (a:α) (m:Pm)
 | ov (e:Int) (m:Pm)
def Rz.bind {α β:Type} (r:Rz α) (f:α->Pm->Rz β):Rz β:=match r with
 | .ok a m=>f a m
 | .ov e m=>.ov e m
def bS (e:Int):List PanicEntry:=[⟨.iface 132 (.agg #[.int .i64 e]),false,false⟩]
def bj (m:Pm):Rz Int:=match m.stack with
 | []=>.ov 6 m
 | x::r=>.ok x { m with stack:=r }
def dB (n:Int) (m:Pm):Rz Unit:=if m.stack.length=2048 then .ov 6 m else .ok () { m with stack:=n::m.stack }
def qh (m:Pm):Rz Unit:=if m.bu=m.o8 then .ov 3 m else .ok () { m with bu:=IntKind.i64.wrap (m.bu+1) }
def lG (op:Int) (m:Pm):Rz Unit:=if (decide (op<9)||decide (15<op))=true then .ov 6 m else (bj m).bind λb m=>(bj m).bind λa m=>
 if (i' op a b).2=true then dB (i' op a b).1 m else if b=0 then .ov 1 m else dB (if op=13 then a.tmod b else IntKind.i64.wrap (a.tdiv b)) m
def r3 (a b:Int) (m:Pm):Rz Unit:=if ((((decide (a<0)||decide (b<0))||decide (2048<a))||decide (IntKind.i64.wrap (2048-a)<b))||decide ((m.stack.length:Int)<a))=true then .ov 6 m
 else .ok () { m with stack:=m.stack.drop a.toNat,aU:=match m.aU with | []=>[] | f::r=>((m.stack.take a.toNat).reverse++List.replicate b.toNat 0,f.2)::r }
def tH (to:Int) (m:Pm):Rz Unit:=(qh m).bind λ_ m=>if 24<m.aU.length then .ov 4 m else .ok () { m with aU:=([],m.at_)::m.aU,at_:=to }
def vE (m:Pm):Rz Unit:=if m.aU.length=1 then .ov 6 m else match m.aU with | []=>.ov 6 m | f::r=>.ok () { m with at_:=f.2,aU:=r }
def n_ (m:Pm):Int×Pm:=match m.bh with | []=>(0,m) | x::r=>(x,{ m with bh:=r })
def cy (at_:Int) (n:Nat):Bool:=decide (at_<0)||decide ((n:Int)<=at_)
theorem aqI:eR Tryz.prog 132=some [(0,1)]:=by kernel_rfl
theorem abx:zeroOf Tryz.prog 132=some (.agg #[.int .i64 0]):=by kernel_rfl
theorem aqJ:Tryz.prog.concrete 132=true:=by kernel_rfl
theorem nf (b:Bool) (e:Int) (w:World) :
   Calls Tryz.prog 69 #[.bool b,.int .i64 e] w λe' w'=>(∃_:Unit,e' = .returned (.tuple #[])/\b=false/\Ext w w')\/(∃_:Unit,e' = .panicked (bS e)/\b=true/\Ext w w'):=by
 refine enter Tryz.func69 O 8 O O ?_;refine CE (Vs:=[]) (Ws.init (by simp)) (Cs (Cr (V0 (Ym O) (Ln (Et ?_)))));refine Cc O (λad=>?_) (λad=>?_)
 ·refine Cr (V0 (Ym O) (V0 (Yb abx aqI O O) (V0 (qE aqJ O) ?_)));refine WL.panic Y O ?_;refine aJ λw' hw=>?_;exact .inr ⟨(),O,ad,hw.fr⟩
 refine Ck ?_;refine E0 O λw' hw=>?_;exact .inl ⟨(),O,ad,hw.fr⟩
end Go.Proofs.YtplfmnkmlaolpaaGreatDoor.Mch
end
section
namespace Go.Proofs.YtplfmnkmlaolpaaGreatDoor.Mch
open Go.Bw
def iF (H:View) (b o:Nat) (x:Int):Prop:=vc H b o=some (.int .i64 x)
theorem qi (H:View) (b o:Nat) (x:Int) (h:aT H b o (iv x)):iF H b o x:=h 0 _ rfl
theorem cR.a8 (f:cR):f.cells.length=2:=rfl
structure aa.bO (HI:View) (s:aa):Prop where
 bh:Sl iF 1 HI s.ia s.ic s.bh
 jo:s.stack.length<=2048
 i_:1<=s.aU.length/\s.aU.length<=25
 out:s.out.length<=200
 ix:s.data.length<=512
abbrev aa.aI (s:aa) (r:List Int):aa:={ s with stack:=r }
theorem aa.bO.stack {HI:View} {s:aa} (h:s.bO HI) {r:List Int} {sa:Option Addr} {sc:Nat} (hl:r.length<=2048):aa.bO HI { s with stack:=r,sa:=sa,sc:=sc }:=⟨h.bh,hl,h.i_,h.out,h.ix⟩
theorem dK:dL Tryz.prog 25=some 1:=by kernel_rfl
theorem kY:aX Tryz.prog 130 3=some 3:=by kernel_rfl
theorem dA:dI Tryz.prog 25=true:=by kernel_rfl
theorem ng:Enters Tryz.prog 69:=enters_of Tryz.func69 (by kernel_rfl) rfl
theorem mixed:Tryz.prog.follows .mixedOrders=true:=by kernel_rfl
theorem lC:cq Tryz.prog 25=some 1:=by kernel_rfl
theorem gG:eS Tryz.prog 25 3 (.int .i64 0) 1 8:=gW (by kernel_rfl)
theorem nh (bm:Nat) (s:aa) (HI:View)  (w:World) (hg:s.bO HI) (hw:Ws w ((aa.own bm s).flatMap ak.ids) (aa.own bm s) [HI] w) :
   Calls Tryz.prog 92 #[.pointer (some ⟨bm,0,none⟩)] w λe w'=>(∃r:Int×List Int,e = .returned (.int .i64 r.1)/\(bj s.pu = .ok r.1 (aa.aI s r.2).pu/\(aa.aI s r.2).bO HI)/\Ws w ((aa.own bm s).flatMap ak.ids) (aa.own bm (aa.aI s r.2)) [HI] w')\/(∃r:Int×aa,e = .panicked (bS r.1)/\bj s.pu = .ov r.1 r.2.pu/\Ws w ((aa.own bm s).flatMap ak.ids) (aa.own bm r.2) [HI] w'):=by
 have jN:s.stack.reverse.length=s.stack.length:=by simp
 have qj:s.aU.reverse.length=s.aU.length:=by simp
 have vF:=hg.jo;have o_:=hg.i_;have o5:=hg.out;have lA:=hg.ix;refine enter Tryz.func92 O 38 O O ?_;refine CE hw (Cs (Cr (V0 (Ya O) (Ln (Et (Cs (Cr (V0 (Ym O) (V0 (aO O) (V0 (Yf kY O) (V0 (Yd 0 O O O dA) ?_)))))))))));refine V0 (Yn dK O) (V0 (aG O O) ?_)
 refine bd (ι:=Unit) (κ:=Unit) [] _ Y O ng O O (λ_=>.tuple #[]) (λ_=>[]) (λ_=>(((s.stack.reverse.length:Nat):Int)==0)=false) (λ_=>bS 6) (λ_=>[]) (λ_=>(((s.stack.reverse.length:Nat):Int)==0)=true) ([]) (by simp) (λw hw=>(nf _ 6 w).mono λe w' h=>by
     rcases h with ⟨_,h1,h2,h3⟩ | ⟨_,h1,h2,h3⟩
     · exact .inl ⟨(),h1,h2,hw.ext h3⟩
     · exact .inr ⟨(),h1,h2,hw.ext h3⟩) ?_ ?_
 ·intro _ n8;refine Ep ?_;refine aJ λw' hw=>?_;refine .inr ⟨(6,s),O,?_,hw⟩
  have gX:s.stack=[]:=by
    cases h:s.stack with
    | nil=>rfl
    | cons x r=>
      rw [jN,h] at n8;simp at n8;omega
  unfold bj;rw [show s.pu.stack=[] from gX]
 intro _ n8;refine Ln (Et (Cs ?_))
 obtain ⟨x,r,gX⟩:∃x r,s.stack=x::r:=by
   cases h:s.stack with
   | nil=>rw [jN,h] at n8; cases n8
   | cons x r=>exact ⟨x,r,rfl⟩
 refine WC.x0 1 O (by rw [jN,gX]; simp) λsb F' hsc hsm=>?_
 have Dc:s.stack.length=r.length+1:=by rw [gX]; rfl
 refine CU (λ_=>true) [] [] (.q false 0 (.q false 1 (.q false 2 (.q true 3 (.q false 4 (.q false 5 (.q false 6 (.q true 7 (.q false 8 (.q false 9 (.q false 10 (.q true 11 (.q false 12 .nil))))))))))))) mixed (by kernel_rfl) (λ_ _ _ d _ _ h=>by cases d<;>exact h) ?_;refine U0 O (λ_ h=>h) (Ym O) (U0 O (λ_ h=>h) (aO O) (U0 O (λ_ h=>h) (Yf kY O) (U0 O (λ_ h=>h) (Yd 0 O O O dA) (U0 O (λ_ h=>h) (Ym O) (U0 O (λ_ h=>h) (aO O) (U0 O (λ_ h=>h) (Yf kY O) (U0 O (λ_ h=>h) (Yd 0 O O O dA) ?_)))))));refine U0 O (λ_ h=>h) (Yn dK O) (U0 O (λ_ h=>h) (qD ((r.length:Nat):Int) O O (by omega) (by omega)) (U0 O (λ_ h=>h) (Yo dK O O F' (by omega)) ?_));refine U0 O (λ_ h=>h) (qH (y:=x) 1 r.length 0 O O F' O fl (by rw [gX,List.reverse_cons,List.getElem?_append_right (by simp)]; simp) O aq) ?_;refine U0 O (λ_ h=>h) (Ya O) ?_;refine WU.nil (λ_ h=>h) ?_;refine WS.nil ?_;refine Et (Cs ?_);refine CU (λ_=>true) [] [14] (.q false 0 (.q false 1 (.q false 2 (.q false 3 (.q true 4 (.q false 5 (.q false 6 (.q false 7 (.q true 8 (.q false 9 (.q false 10 (.q false 11 (.q false 12 (.q false 13 .nil)))))))))))))) mixed (by kernel_rfl) (λ_ _ _ d _ _ h=>by cases d<;>exact h) ?_;refine U0 O (λ_ h=>h) (Ym O) (U0 O (λ_ h=>h) (Ym O) (U0 O (λ_ h=>h) (aO O) (U0 O (λ_ h=>h) (Yf kY O) (U0 O (λ_ h=>h) (Yd 0 O O O dA) (U0 O (λ_ h=>h) (Ym O) (U0 O (λ_ h=>h) (aO O) (U0 O (λ_ h=>h) (Yf kY O) ?_)))))));refine U0 O (λ_ h=>h) (Yd 0 O O O dA) (U0 O (λ_ h=>h) (Yn dK O) (U0 O (λ_ h=>h) (qD ((r.reverse.length:Nat):Int) O O (by simp; omega) (by simp; omega)) (U0 O (λ_ h=>h) (ue r.reverse.length dK O (λp hp=>by rw [F'] at hp; injection hp with hp; subst hp; rfl) O O (by simp; omega)) (U0 O (λ_ h=>h) (aO O) (U0 O (λ_ h=>h) (Yf kY O) ?_)))));refine WU.nil (λ_ h=>h) ?_;refine WS.e O ?_;refine an 0 Y O O O lC O O O ?_;refine WL.Db 1 r.reverse O fl (by simp [gX]) (by rw [gX]; simp) ?_;refine Ln (Es ?_);refine WS.nil ?_;refine Et (Cs (Cr (V0 (Ym O) (V0 (Ya O) (Ln (Et (az ?_)))))));refine R1 O O λw' hw=>?_;refine .inl ⟨(x,r),O,⟨?_,aa.bO.stack (r:=r) (sa:=s.sa) (sc:=s.sc) hg (by omega)⟩,hw⟩;unfold bj;rw [show s.pu.stack=x::r from gX]
 rfl
theorem ql (bm:Nat) (s:aa) (HI:View) (n:Int) (w:World) (hg:s.bO HI) (hw:Ws w ((aa.own bm s).flatMap ak.ids) (aa.own bm s) [HI] w) :
   Calls Tryz.prog 89 #[.pointer (some ⟨bm,0,none⟩),.int .i64 n] w λe w'=>(∃r:Unit×aa,e = .returned (.tuple #[])/\(dB n s.pu = .ok r.1 r.2.pu/\r.2.bO HI)/\Ws w ((aa.own bm s).flatMap ak.ids) (aa.own bm r.2) [HI] w')\/(∃r:Int×aa,e = .panicked (bS r.1)/\dB n s.pu = .ov r.1 r.2.pu/\Ws w ((aa.own bm s).flatMap ak.ids) (aa.own bm r.2) [HI] w'):=by
 have jN:s.stack.reverse.length=s.stack.length:=by simp
 have qj:s.aU.reverse.length=s.aU.length:=by simp
 have vF:=hg.jo;have o_:=hg.i_;have o5:=hg.out;have lA:=hg.ix;refine enter Tryz.func89 O 21 O O ?_;refine CE hw (Cs (Cr (V0 (Ym O) (V0 (aO O) (V0 (Yf kY O) (V0 (Yd 0 O O O dA) (V0 (Yn dK O) (V0 (aG O O) ?_))))))))
 refine bd (ι:=Unit) (κ:=Unit) [] _ Y O ng O O (λ_=>.tuple #[]) (λ_=>[]) (λ_=>(((s.stack.reverse.length:Nat):Int)==2048)=false) (λ_=>bS 6) (λ_=>[]) (λ_=>(((s.stack.reverse.length:Nat):Int)==2048)=true) ([]) (by simp) (λw hw=>(nf _ 6 w).mono λe w' h=>by
     rcases h with ⟨_,h1,h2,h3⟩ | ⟨_,h1,h2,h3⟩
     · exact .inl ⟨(),h1,h2,hw.ext h3⟩
     · exact .inr ⟨(),h1,h2,hw.ext h3⟩) ?_ ?_
 ·intro _ n8;refine Ep ?_;refine aJ λw' hw=>?_;exact .inr ⟨(6,s),O,by rw [dB,if_pos (show s.pu.stack.length=2048 from by rw [jN] at n8; simp at n8; show s.stack.length=2048; omega)],hw⟩
 intro _ n8;refine Ln (Et ?_)
 have dt:¬s.stack.length=2048:=by intro h; rw [jN,h] at n8; cases n8
 refine Cr (V0 (Ym O) (V0 (Ym O) (V0 (aO O) (V0 (Yf kY O) (V0 (Yd 0 O O O dA) (V0 (Ym O) ?_))))));refine Lb Y O gG O O O O λIY=>?_;refine LA n 2 0 Y O gG O O O O O O (by omega) (by omega) λa18 c18=>?_;rw [show s.stack.reverse++[n]=(n::s.stack).reverse by simp];refine V0 (aO O) (V0 (Yf kY O) (an 1 Y O O O lC O O O (Ln ?_)));refine E0 O λw' hw=>?_;exact .inl ⟨((),{ s with stack:=n::s.stack,sa:=a18,sc:=c18 }),O,⟨by rw [dB,if_neg (show ¬s.pu.stack.length=2048 from dt)]; rfl,hg.stack (by simp; omega)⟩,Wd 1 hw⟩
end Go.Proofs.YtplfmnkmlaolpaaGreatDoor.Mch
end
section
namespace Go.Proofs.YtplfmnkmlaolpaaGreatDoor.Mch
open Go.Bw
theorem vG:aX Tryz.prog 130 4=some 4:=by kernel_rfl
theorem Aa:dI Tryz.prog 128=true:=by kernel_rfl
theorem Cv:dL Tryz.prog 128=some 2:=by kernel_rfl
theorem pc:aX Tryz.prog 130 6=some 6:=by kernel_rfl
theorem Cw:aX Tryz.prog 51 3=some 3:=by kernel_rfl
theorem aqN:aX Tryz.prog 130 1=some 1:=by kernel_rfl
theorem bX:cq Tryz.prog 3=some 1:=by kernel_rfl
theorem nj:Enters Tryz.prog 92:=enters_of Tryz.func92 (by kernel_rfl) rfl
theorem aqO:Enters Tryz.prog 109:=enters_of Tryz.func109 (by kernel_rfl) rfl
theorem qm:Enters Tryz.prog 89:=enters_of Tryz.func89 (by kernel_rfl) rfl
theorem LF:aX Tryz.prog 130 5=some 5:=by kernel_rfl
theorem xG (a:Option Addr) (c n:Nat) (i:Int) (w:World) (ha:0<n->∃b o,a=some ⟨b,o,none⟩) :
   Calls Tryz.prog 90 #[.slice a n c,.int .i64 i] w λe w'=>(∃r:Nat×Nat,e = .returned (.pointer (some ⟨r.1,r.2+i.toNat*1,none⟩))/\(cy i n=false/\a=some ⟨r.1,r.2,none⟩)/\Ext w w')\/(∃_:Unit,e = .panicked (bS 6)/\cy i n=true/\Ext w w'):=by
 refine enter Tryz.func90 O 17 O O ?_;refine CE (Vs:=[]) (Ws.init (by simp)) (Cs (Cr (V0 (Ya O) (Ln (Et (Cs (Cr (V0 (Ym O) (V0 (bq O O) (V0 (Ym O) ?_))))))))));apply Lo 4 O O O O Y O O O O O
 ·intro de;refine Vg (Ym O) (Vg (Ym O) (Vg (Yn dK O) (Vg (fm O O) ?_)));exact Gt 4 O O O
 refine bd (ι:=Unit) (κ:=Unit) [] _ Y O ng O O (λ_=>.tuple #[]) (λ_=>[]) (λ_=>(cy i n)=false) (λ_=>bS 6) (λ_=>[]) (λ_=>(cy i n)=true) ([]) (by simp) (λw hw=>(nf _ 6 w).mono λe w' h=>by
     rcases h with ⟨_,h1,h2,h3⟩ | ⟨_,h1,h2,h3⟩
     · exact .inl ⟨(),h1,h2,hw.ext h3⟩
     · exact .inr ⟨(),h1,h2,hw.ext h3⟩) ?_ ?_
 ·intro _ B';refine Ep ?_;refine aJ λw' hw=>?_;exact .inr ⟨(),O,B',hw.fr⟩
 intro _ B';refine Ln (Et (Cs ?_))
 have ki:0<=i/\i<n:=by
   unfold cy at B';simp at B';omega
 obtain ⟨cb,co,rfl⟩:=ha (by omega);refine Cr (V0 (Ym O) (V0 (Ym O) (V0 (Md dK O O ki.1 ki.2) (V0 (Ya O) (Ln (Et (az ?_)))))));refine R1 O O λw' hw=>?_;exact .inl ⟨(cb,co),O,⟨B',O⟩,hw.fr⟩
theorem Cx (bm:Nat) (s:aa) (HI:View)  (w:World) (hg:s.bO HI) (hw:Ws w ((aa.own bm s).flatMap ak.ids) (aa.own bm s) [HI] w) :
   Calls Tryz.prog 91 #[.pointer (some ⟨bm,0,none⟩)] w λe w'=>∃r:Nat,e = .returned (.pointer (some ⟨r,0+(s.aU.length-1)*2,none⟩))/\s.fa=some ⟨r,0,none⟩/\Ws w ((aa.own bm s).flatMap ak.ids) (aa.own bm s) [HI] w':=by
 have jN:s.stack.reverse.length=s.stack.length:=by simp
 have qj:s.aU.reverse.length=s.aU.length:=by simp
 have vF:=hg.jo;have o_:=hg.i_;have o5:=hg.out;have lA:=hg.ix;refine enter Tryz.func91 O 14 O O ?_;refine CE hw (Cs (Cr (V0 (Ya O) (Ln (Et (Cs ?_))))));refine WC.x0 2 O (by omega) λfb o3 th ZI=>?_;refine CU (λ_=>true) [] [] (.q false 0 (.q false 1 (.q false 2 (.q true 3 (.q false 4 (.q false 5 (.q false 6 (.q true 7 (.q false 8 (.q false 9 (.q false 10 (.q false 11 .nil)))))))))))) mixed (by kernel_rfl) (λ_ _ _ d _ _ h=>by cases d<;>exact h) ?_;refine U0 O (λ_ h=>h) (Ym O) (U0 O (λ_ h=>h) (aO O) (U0 O (λ_ h=>h) (Yf vG O) (U0 O (λ_ h=>h) (Yd 0 O O O Aa) (U0 O (λ_ h=>h) (Ym O) (U0 O (λ_ h=>h) (aO O) (U0 O (λ_ h=>h) (Yf vG O) (U0 O (λ_ h=>h) (Yd 0 O O O Aa) ?_)))))));refine U0 O (λ_ h=>h) (Yn Cv O) (U0 O (λ_ h=>h) (qD ((s.aU.length-1:Nat):Int) O O (by rw [qj]; omega) (by omega)) (U0 O (λ_ h=>h) (Yo Cv O O o3 (by omega)) (U0 O (λ_ h=>h) (Ya O) ?_)));refine WU.nil (λ_ h=>h) ?_;refine WS.nil ?_;refine Et (az ?_);refine R1 O O λw' hw=>?_;exact ⟨fb,O,o3,hw⟩
theorem abz (bm:Nat) (s:aa) (HI:View)  (w:World) (hg:s.bO HI) (hw:Ws w ((aa.own bm s).flatMap ak.ids) (aa.own bm s) [HI] w) :
   Calls Tryz.prog 98 #[.pointer (some ⟨bm,0,none⟩)] w λe w'=>(∃r:Unit×aa,e = .returned (.tuple #[])/\(qh s.pu = .ok r.1 r.2.pu/\r.2.bO HI)/\Ws w ((aa.own bm s).flatMap ak.ids) (aa.own bm r.2) [HI] w')\/(∃r:Int×aa,e = .panicked (bS r.1)/\qh s.pu = .ov r.1 r.2.pu/\Ws w ((aa.own bm s).flatMap ak.ids) (aa.own bm r.2) [HI] w'):=by
 have jN:s.stack.reverse.length=s.stack.length:=by simp
 have qj:s.aU.reverse.length=s.aU.length:=by simp
 have vF:=hg.jo;have o_:=hg.i_;have o5:=hg.out;have lA:=hg.ix;refine enter Tryz.func98 O 22 O O ?_;refine CE hw (Cs ?_);refine CU (λ_=>true) [] [] (.q false 0 (.q false 1 (.q false 2 (.q false 3 (.q true 4 (.q false 5 (.q false 6 (.q false 7 (.q true 8 (.q false 9 (.e 10 .nil .stop))))))))))) mixed (by kernel_rfl) (λ_ _ _ d _ _ h=>by cases d<;>exact h) ?_;refine U0 O (λ_ h=>h) (Ym O) (U0 O (λ_ h=>h) (aO O) (U0 O (λ_ h=>h) (Yf pc O) (U0 O (λ_ h=>h) (Yf Cw O) (U0 O (λ_ h=>h) (Yd 0 O O O aq) (U0 O (λ_ h=>h) (Ym O) (U0 O (λ_ h=>h) (aO O) (U0 O (λ_ h=>h) (Yf aqN O) ?_)))))));refine U0 O (λ_ h=>h) (Yd 0 O O O aq) (U0 O (λ_ h=>h) (aG O O) ?_);refine Ue O (λ_ h=>h) ?_ WU.stop
 refine bd (ι:=Unit) (κ:=Unit) [] _ Y O ng O O (λ_=>.tuple #[]) (λ_=>[]) (λ_=>(s.bu==s.o8)=false) (λ_=>bS 3) (λ_=>[]) (λ_=>(s.bu==s.o8)=true) ([]) (by simp) (λw hw=>(nf _ 3 w).mono λe w' h=>by
     rcases h with ⟨_,h1,h2,h3⟩ | ⟨_,h1,h2,h3⟩
     · exact .inl ⟨(),h1,h2,hw.ext h3⟩
     · exact .inr ⟨(),h1,h2,hw.ext h3⟩) ?_ ?_
 ·intro _ jj;refine Ep (Ep ?_);refine aJ λw' hw=>?_;exact .inr ⟨(3,s),O,by rw [qh,if_pos (show s.pu.bu=s.pu.o8 from (by simpa using jj:s.bu=s.o8))],hw⟩
 intro _ jj;refine Ln (Eu ?_);refine WU.nil (λ_ h=>h) ?_;refine WS.nil ?_;refine Et ?_
 have dt:¬s.bu=s.o8:=by simpa using jj
 refine Cr (V0 (Ym O) (V0 (aO O) (V0 (Yf pc O) (V0 (Yf Cw O) (V0 (Yd 0 O O O aq) (V0 (vO O O) (V0 (aO O) ?_)))))));refine V0 (Yf pc O) (V0 (Yf Cw O) (an 0 Y O O O bX O O O (Ln ?_)));refine E0 O λw' hw=>?_;exact .inl ⟨((),{ s with bu:=IntKind.i64.wrap (s.bu+1) }),O,⟨by rw [qh,if_neg (show ¬s.pu.bu=s.pu.o8 from dt)]; rfl,⟨hg.bh,hg.jo,hg.i_,hg.out,hg.ix⟩⟩,hw⟩
theorem aqP (bm:Nat) (s:aa) (HI:View) (op:Int) (w:World) (hg:s.bO HI) (hw:Ws w ((aa.own bm s).flatMap ak.ids) (aa.own bm s) [HI] w) :
   Calls Tryz.prog 94 #[.pointer (some ⟨bm,0,none⟩),.int .i64 op] w λe w'=>(∃r:Unit×aa,e = .returned (.tuple #[])/\(lG op s.pu = .ok r.1 r.2.pu/\r.2.bO HI)/\Ws w ((aa.own bm s).flatMap ak.ids) (aa.own bm r.2) [HI] w')\/(∃r:Int×aa,e = .panicked (bS r.1)/\lG op s.pu = .ov r.1 r.2.pu/\Ws w ((aa.own bm s).flatMap ak.ids) (aa.own bm r.2) [HI] w'):=by
 have jN:s.stack.reverse.length=s.stack.length:=by simp
 have qj:s.aU.reverse.length=s.aU.length:=by simp
 have vF:=hg.jo;have o_:=hg.i_;have o5:=hg.out;have lA:=hg.ix;refine enter Tryz.func94 O 42 O O ?_;refine CE hw (Cs (Cr (V0 (Ym O) (V0 (bq O O) (V0 (Ym O) ?_)))));apply Lo 2 O O O O Y O O O O O
 ·intro de;refine Vg (Ym O) (Vg (bZ O O) ?_);exact Gt 2 O O O
 refine bd (ι:=Unit) (κ:=Unit) [] _ Y O ng O O (λ_=>.tuple #[]) (λ_=>[]) (λ_=>(decide (op<9)||decide (15<op))=false) (λ_=>bS 6) (λ_=>[]) (λ_=>(decide (op<9)||decide (15<op))=true) ([]) (by simp) (λw hw=>(nf _ 6 w).mono λe w' h=>by
     rcases h with ⟨_,h1,h2,h3⟩ | ⟨_,h1,h2,h3⟩
     · exact .inl ⟨(),h1,h2,hw.ext h3⟩
     · exact .inr ⟨(),h1,h2,hw.ext h3⟩) ?_ ?_
 ·intro _ iz;refine Ep ?_;refine aJ λw' hw=>?_;exact .inr ⟨(6,s),O,by rw [lG,if_pos iz],hw⟩
 intro _ iz;refine Ln (Et (Cs (Cr (V0 (Ym O) ?_))));refine bd (ι:=Int×List Int) (κ:=Int×aa) [_,_,_,_,_,_] _ Y O nj O O (λr=>.int .i64 r.1) (λr=>(aa.own bm (aa.aI s r.2))) (λr=>bj s.pu = .ok r.1 (aa.aI s r.2).pu/\(aa.aI s r.2).bO HI) (λr=>bS r.1) (λr=>(aa.own bm r.2)) (λr=>bj s.pu = .ov r.1 r.2.pu) ([HI]) (by simp) (λw hw=>nh bm s HI w hg hw) ?_ ?_
 ·intro cH tJ;refine Ep ?_;refine aJ λw' hw=>?_;exact .inr ⟨cH,O,by rw [lG,if_neg (by rw [iz]; simp),tJ]; rfl,hw⟩
 intro cH ⟨tJ,FT⟩;refine V0 (Ya O) (Ln (Et (Cs (Cr (V0 (Ym O) ?_)))));refine bd (ι:=Int×List Int) (κ:=Int×aa) [_,_,_,_,_,_] _ Y O nj O O (λr=>.int .i64 r.1) (λr=>(aa.own bm (aa.aI (aa.aI s cH.2) r.2))) (λr=>bj (aa.aI s cH.2).pu = .ok r.1 (aa.aI (aa.aI s cH.2) r.2).pu/\(aa.aI (aa.aI s cH.2) r.2).bO HI) (λr=>bS r.1) (λr=>(aa.own bm r.2)) (λr=>bj (aa.aI s cH.2).pu = .ov r.1 r.2.pu) ([HI]) (by simp) (λw hw=>nh bm (aa.aI s cH.2) HI w FT hw) ?_ ?_
 ·intro eO vH;refine Ep ?_;refine aJ λw' hw=>?_;exact .inr ⟨eO,O,by rw [lG,if_neg (by rw [iz]; simp),tJ]; show Rz.bind (bj (aa.aI s cH.2).pu) _=_; rw [vH]; rfl,hw⟩
 intro eO ⟨vH,KO⟩;refine V0 (Ya O) (Ln (Et (Cs (Cr (V0 (Ym O) (V0 (Ym O) (V0 (Ym O) (Lp Y O aqO O (λw hw=>aqH _ _ _ w) (V0 (Ym O) (V0 (Yx O O) ?_))))))))));refine V0 (Yx O O) (V0 (Ya O) (V0 (Ya O) (Ln (Et (Cs (Cs (Cr (V0 (Ym O) (V0 (eu O) (Ln (Et ?_)))))))))));refine Cc O (λad=>?_) (λad=>?_)
 ·have qf:(i' op eO.1 cH.1).2=false:=by simpa using ad
  refine Cs (Cr (V0 (Ym O) (V0 (aG O O) ?_)))
  refine bd (ι:=Unit) (κ:=Unit) [] _ Y O ng O O (λ_=>.tuple #[]) (λ_=>[]) (λ_=>(cH.1==0)=false) (λ_=>bS 1) (λ_=>[]) (λ_=>(cH.1==0)=true) ([]) (by simp) (λw hw=>(nf _ 1 w).mono λe w' h=>by
      rcases h with ⟨_,h1,h2,h3⟩ | ⟨_,h1,h2,h3⟩
      · exact .inl ⟨(),h1,h2,hw.ext h3⟩
      · exact .inr ⟨(),h1,h2,hw.ext h3⟩) ?_ ?_
  ·intro _ ED;refine Ep (Ep ?_);refine aJ λw' hw=>?_;refine .inr ⟨(1,aa.aI (aa.aI s cH.2) eO.2),O,?_,hw⟩;rw [lG,if_neg (by rw [iz]; simp),tJ]
   show Rz.bind (bj (aa.aI s cH.2).pu) _=_
   rw [vH]
   show (if (i' op eO.1 cH.1).2=true then _ else _)=_
   rw [qf,if_neg (by simp),if_pos (by simpa using ED)]
  intro _ ED;refine Ln (Et (Cs ?_))
  have Cy:¬cH.1=0:=by simpa using ED
  refine Cr (V0 (Ym O) (V0 (Ym O) (V0 (acD O O Cy) (V0 (Ya O) (Ln (Et (Cs (Cr (V0 (Ym O) (V0 (aG O O) ?_))))))))));refine Ln (Et ?_);refine Cc O (λar=>?_) (λar=>?_)
  ·have iP:op=13:=by simpa using ar
   refine Cr (V0 (Ym O) (V0 (Ym O) (V0 (acE O O Cy) (V0 (Ya O) (Ln (Et (Cr (V0 (Ym O) (V0 (Ym O) ?_)))))))));refine bd (ι:=Unit×aa) (κ:=Int×aa) [_,_,_,_,_,_] _ Y O qm O O (λr=>.tuple #[]) (λr=>(aa.own bm r.2)) (λr=>dB (eO.1.tmod cH.1) (aa.aI (aa.aI s cH.2) eO.2).pu = .ok r.1 r.2.pu/\r.2.bO HI) (λr=>bS r.1) (λr=>(aa.own bm r.2)) (λr=>dB (eO.1.tmod cH.1) (aa.aI (aa.aI s cH.2) eO.2).pu = .ov r.1 r.2.pu) ([HI]) (by simp) (λw hw=>ql bm (aa.aI (aa.aI s cH.2) eO.2) HI (eO.1.tmod cH.1) w KO hw) ?_ ?_
   ·intro cC mc;refine aJ λw' hw=>?_;refine .inr ⟨cC,O,?_,hw⟩;rw [lG,if_neg (by rw [iz]; simp),tJ]
    show Rz.bind (bj (aa.aI s cH.2).pu) _=_
    rw [vH]
    show (if (i' op eO.1 cH.1).2=true then _ else _)=_
    rw [qf,if_neg (by simp),if_neg Cy,if_pos iP];rw [mc]
   intro cC ⟨mc,vI⟩;refine Ln ?_;refine E0 O λw' hw=>?_;refine .inl ⟨((),cC.2),O,⟨?_,vI⟩,hw⟩;rw [lG,if_neg (by rw [iz]; simp),tJ]
   show Rz.bind (bj (aa.aI s cH.2).pu) _=_
   rw [vH]
   show (if (i' op eO.1 cH.1).2=true then _ else _)=_
   rw [qf,if_neg (by simp),if_neg Cy,if_pos iP];rw [mc]
  have iP:¬op=13:=by simpa using ar
  refine Ck (Et (Cr (V0 (Ym O) (V0 (Ym O) ?_))));refine bd (ι:=Unit×aa) (κ:=Int×aa) [_,_,_,_,_,_] _ Y O qm O O (λr=>.tuple #[]) (λr=>(aa.own bm r.2)) (λr=>dB (IntKind.i64.wrap (eO.1.tdiv cH.1)) (aa.aI (aa.aI s cH.2) eO.2).pu = .ok r.1 r.2.pu/\r.2.bO HI) (λr=>bS r.1) (λr=>(aa.own bm r.2)) (λr=>dB (IntKind.i64.wrap (eO.1.tdiv cH.1)) (aa.aI (aa.aI s cH.2) eO.2).pu = .ov r.1 r.2.pu) ([HI]) (by simp) (λw hw=>ql bm (aa.aI (aa.aI s cH.2) eO.2) HI (IntKind.i64.wrap (eO.1.tdiv cH.1)) w KO hw) ?_ ?_
  ·intro cC mc;refine aJ λw' hw=>?_;refine .inr ⟨cC,O,?_,hw⟩;rw [lG,if_neg (by rw [iz]; simp),tJ]
   show Rz.bind (bj (aa.aI s cH.2).pu) _=_
   rw [vH]
   show (if (i' op eO.1 cH.1).2=true then _ else _)=_
   rw [qf,if_neg (by simp),if_neg Cy,if_neg iP];rw [mc]
  intro cC ⟨mc,vI⟩;refine Ln ?_;refine E0 O λw' hw=>?_;refine .inl ⟨((),cC.2),O,⟨?_,vI⟩,hw⟩;rw [lG,if_neg (by rw [iz]; simp),tJ]
  show Rz.bind (bj (aa.aI s cH.2).pu) _=_
  rw [vH]
  show (if (i' op eO.1 cH.1).2=true then _ else _)=_
  rw [qf,if_neg (by simp),if_neg Cy,if_neg iP];rw [mc]
 have qf:(i' op eO.1 cH.1).2=true:=by simpa using ad
 refine Ck (Et (Cr (V0 (Ym O) (V0 (Ym O) ?_))));refine bd (ι:=Unit×aa) (κ:=Int×aa) [_,_,_,_,_,_] _ Y O qm O O (λr=>.tuple #[]) (λr=>(aa.own bm r.2)) (λr=>dB ((i' op eO.1 cH.1).1) (aa.aI (aa.aI s cH.2) eO.2).pu = .ok r.1 r.2.pu/\r.2.bO HI) (λr=>bS r.1) (λr=>(aa.own bm r.2)) (λr=>dB ((i' op eO.1 cH.1).1) (aa.aI (aa.aI s cH.2) eO.2).pu = .ov r.1 r.2.pu) ([HI]) (by simp) (λw hw=>ql bm (aa.aI (aa.aI s cH.2) eO.2) HI ((i' op eO.1 cH.1).1) w KO hw) ?_ ?_
 ·intro cC mc;refine aJ λw' hw=>?_;refine .inr ⟨cC,O,?_,hw⟩;rw [lG,if_neg (by rw [iz]; simp),tJ]
  show Rz.bind (bj (aa.aI s cH.2).pu) _=_
  rw [vH]
  show (if (i' op eO.1 cH.1).2=true then _ else _)=_
  rw [if_pos qf];rw [mc]
 intro cC ⟨mc,vI⟩;refine Ln ?_;refine E0 O λw' hw=>?_;refine .inl ⟨((),cC.2),O,⟨?_,vI⟩,hw⟩;rw [lG,if_neg (by rw [iz]; simp),tJ]
 show Rz.bind (bj (aa.aI s cH.2).pu) _=_
 rw [vH]
 show (if (i' op eO.1 cH.1).2=true then _ else _)=_
 rw [if_pos qf];rw [mc]
theorem aqQ (bm:Nat) (s:aa) (HI:View)  (w:World) (hg:s.bO HI) (hw:Ws w ((aa.own bm s).flatMap ak.ids) (aa.own bm s) [HI] w) :
   Calls Tryz.prog 99 #[.pointer (some ⟨bm,0,none⟩)] w λe w'=>(∃r:Int×aa,e = .returned (.int .i64 r.1)/\(Rz.ok (n_ s.pu).1 (n_ s.pu).2 = .ok r.1 r.2.pu/\r.2.bO HI)/\Ws w ((aa.own bm s).flatMap ak.ids) (aa.own bm r.2) [HI] w')\/(∃r:Int×aa,e = .panicked (bS r.1)/\Rz.ok (n_ s.pu).1 (n_ s.pu).2 = .ov r.1 r.2.pu/\Ws w ((aa.own bm s).flatMap ak.ids) (aa.own bm r.2) [HI] w'):=by
 have jN:s.stack.reverse.length=s.stack.length:=by simp
 have qj:s.aU.reverse.length=s.aU.length:=by simp
 have vF:=hg.jo;have o_:=hg.i_;have o5:=hg.out;have lA:=hg.ix;refine enter Tryz.func99 O 25 O O ?_;refine CE hw (Cs (Cr (V0 (Ya O) (Ln (Et (Cs (Cs (Cr (V0 (Ym O) (V0 (aO O) (V0 (Yf LF O) (V0 (Yd 0 O O O dA) ?_))))))))))));refine V0 (Yn dK O) (V0 (aG O O) (Ln (Et ?_)));refine Cc O (λad=>?_) (λad=>?_)
 ·have eZ:s.bh=[]:=by simpa using ad
  refine Cs (Cr (V0 (Ya O) (Ln (Et (az (Er ?_))))));refine R1 O O λw' hw=>?_;refine .inl ⟨(0,s),O,⟨?_,hg⟩,hw⟩;unfold n_;rw [show s.pu.bh=[] from eZ]
 obtain ⟨x,r,eZ⟩:∃x r,s.bh=x::r:=by
   cases h:s.bh with
   | nil=>rw [h] at ad; cases ad
   | cons x r=>exact ⟨x,r,rfl⟩
 obtain ⟨ib,io,Iu,bJ⟩:=hg.bh.aZ 0 x (by rw [eZ]; rfl);have bJ:vc HI ib (io+0*1)=some (.int .i64 x):=bJ
 have MB:s.bh.length=r.length+1:=by rw [eZ]; rfl
 have hic:=hg.bh.cap;refine Ck (Et (Cs (Cr (V0 (Ym O) (V0 (aO O) (V0 (Yf LF O) (V0 (Yd 0 O O O dA) (V0 (Yo (i:=0) dK O O Iu (by omega)) (V0 (dm 0 aq O O (bJ)) (V0 (Ya O) ?_))))))))));refine Ln (Et (Cs (Cr (V0 (Ym O) (V0 (Ym O) (V0 (aO O) (V0 (Yf LF O) (V0 (Yd 0 O O O dA) (V0 (Hy 1 dK O O O (by omega) hic) (V0 (aO O) ?_))))))))));refine V0 (Yf LF O) (an 0 Y O O O lC O O O (Ln (Et (Cs (Cr (V0 (Ym O) (V0 (Ya O) (Ln (Et (az ?_))))))))));refine R1 O O λw' hw=>?_;have hd:=hg.bh.drop 1 (by omega);rw [show s.bh.drop 1=r by rw [eZ]; rfl] at hd;rw [show s.bh.length-1=r.length by omega] at hw;refine .inl ⟨(x,{ s with bh:=r,ia:=_,ic:=s.ic-1 }),O,⟨?_,⟨hd,hg.jo,hg.i_,hg.out,hg.ix⟩⟩,hw⟩;unfold n_;rw [show s.pu.bh=x::r from eZ]
 rfl
end Go.Proofs.YtplfmnkmlaolpaaGreatDoor.Mch
end
section
namespace Go.Proofs.YtplfmnkmlaolpaaGreatDoor.Mch
open Go.Bw
theorem Cz:Enters Tryz.prog 91:=enters_of Tryz.func91 (by kernel_rfl) rfl
theorem aqS:aX Tryz.prog 163 1=some 1:=by kernel_rfl
theorem r_:aX Tryz.prog 130 0=some 0:=by kernel_rfl
theorem abA:cq Tryz.prog 128=some 1:=by kernel_rfl
theorem abB:Enters Tryz.prog 98:=enters_of Tryz.func98 (by kernel_rfl) rfl
theorem aqT:eR Tryz.prog 163=some [(0,1),(1,1)]:=by kernel_rfl
theorem aqU:zeroOf Tryz.prog 163=some (.agg #[.slice none 0 0,.int .i64 0]):=by kernel_rfl
theorem Ab:eS Tryz.prog 128 163 (.agg #[.slice none 0 0,.int .i64 0]) 2 32:=gW (by kernel_rfl)
theorem aqV (bm:Nat) (s:aa) (HI:View)  (w:World) (hg:s.bO HI) (hw:Ws w ((aa.own bm s).flatMap ak.ids) (aa.own bm s) [HI] w) :
   Calls Tryz.prog 97 #[.pointer (some ⟨bm,0,none⟩)] w λe w'=>(∃r:Unit×aa,e = .returned (.tuple #[])/\(vE s.pu = .ok r.1 r.2.pu/\r.2.bO HI)/\Ws w ((aa.own bm s).flatMap ak.ids) (aa.own bm r.2) [HI] w')\/(∃r:Int×aa,e = .panicked (bS r.1)/\vE s.pu = .ov r.1 r.2.pu/\Ws w ((aa.own bm s).flatMap ak.ids) (aa.own bm r.2) [HI] w'):=by
 have jN:s.stack.reverse.length=s.stack.length:=by simp
 have qj:s.aU.reverse.length=s.aU.length:=by simp
 have vF:=hg.jo;have o_:=hg.i_;have o5:=hg.out;have lA:=hg.ix;refine enter Tryz.func97 O 31 O O ?_;refine CE hw (Cs (Cr (V0 (Ym O) (V0 (aO O) (V0 (Yf vG O) (V0 (Yd 0 O O O Aa) (V0 (Yn Cv O) (V0 (aG O O) ?_))))))))
 refine bd (ι:=Unit) (κ:=Unit) [] _ Y O ng O O (λ_=>.tuple #[]) (λ_=>[]) (λ_=>(((s.aU.reverse.length:Nat):Int)==1)=false) (λ_=>bS 6) (λ_=>[]) (λ_=>(((s.aU.reverse.length:Nat):Int)==1)=true) ([]) (by simp) (λw hw=>(nf _ 6 w).mono λe w' h=>by
     rcases h with ⟨_,h1,h2,h3⟩ | ⟨_,h1,h2,h3⟩
     · exact .inl ⟨(),h1,h2,hw.ext h3⟩
     · exact .inr ⟨(),h1,h2,hw.ext h3⟩) ?_ ?_
 ·intro _ wQ;refine Ep ?_;refine aJ λw' hw=>?_;refine .inr ⟨(6,s),O,?_,hw⟩;rw [vE,if_pos (show s.pu.aU.length=1 by show (s.aU.map cR.pu).length=1; rw [qj] at wQ; simp at wQ; simp; omega)]
 intro _ wQ;refine Ln (Et (Cs ?_))
 have dt:¬s.aU.length=1:=by rw [qj] at wQ; simp at wQ; omega
 obtain ⟨f,r,ct⟩:∃f r,s.aU=f::r:=by
   cases h:s.aU with
   | nil=>rw [h] at o_; simp at o_
   | cons f r=>exact ⟨f,r,rfl⟩
 have nw:s.aU.length=r.length+1:=by rw [ct]; rfl
 refine WC.x0 2 O (by omega) λfb o3 th ZI=>?_;refine Cr (V0 (Ym O) (V0 (Ym O) ?_));refine Lw (ι:=Nat) [_,_,_,_,_,_] _ Y O Cz O O (λr=>.pointer (some ⟨r,0+(s.aU.length-1)*2,none⟩)) (λ_=>(aa.own bm s)) (λr=>s.fa=some ⟨r,0,none⟩) [HI] (by simp) (λw hw=>Cx bm s HI w hg hw) ?_;intro awe abC;refine V0 (aO O) (V0 (Yf aqS O) ?_);refine V0 (qH (y:=f) 2 r.length 1 O O abC (by rw [nw]; simp) cR.a8 (by rw [ct,List.reverse_cons,List.getElem?_append_right (by simp)]; simp) O aq) ?_;refine V0 (aO O) (V0 (Yf r_ O) (an 0 Y O O O bX O O O (Ln (Et ?_))));refine CU (λ_=>true) [] [14] (.q false 0 (.q false 1 (.q false 2 (.q false 3 (.q true 4 (.q false 5 (.q false 6 (.q false 7 (.q true 8 (.q false 9 (.q false 10 (.q false 11 (.q false 12 (.q false 13 .nil)))))))))))))) mixed (by kernel_rfl) (λ_ _ _ d _ _ h=>by cases d<;>exact h) ?_;refine U0 O (λ_ h=>h) (Ym O) (U0 O (λ_ h=>h) (Ym O) (U0 O (λ_ h=>h) (aO O) (U0 O (λ_ h=>h) (Yf vG O) (U0 O (λ_ h=>h) (Yd 0 O O O Aa) (U0 O (λ_ h=>h) (Ym O) (U0 O (λ_ h=>h) (aO O) (U0 O (λ_ h=>h) (Yf vG O) ?_)))))));refine U0 O (λ_ h=>h) (Yd 0 O O O Aa) (U0 O (λ_ h=>h) (Yn Cv O) (U0 O (λ_ h=>h) (qD ((r.reverse.length:Nat):Int) O O (by simp; omega) (by simp; omega)) (U0 O (λ_ h=>h) (ue r.reverse.length Cv O (λp hp=>by rw [abC] at hp; injection hp with hp; subst hp; rfl) O O (by simp; omega)) (U0 O (λ_ h=>h) (aO O) (U0 O (λ_ h=>h) (Yf vG O) ?_)))));refine WU.nil (λ_ h=>h) ?_;refine WS.e O ?_;refine an 0 Y O O O abA O O O ?_;refine WL.Db 2 r.reverse O cR.a8 (by simp [ct]) (by rw [ct]; simp) ?_;refine Ln (Es ?_);refine WS.nil ?_;refine E0 O λw' hw=>?_;have hw:=Ws.bF (L:=[_,_,_,_,_,_]) hw;rw [ct] at hw;have hw:=hw.adf 5 rfl;refine .inl ⟨((),{ s with at_:=f.back,aU:=r }),O,⟨?_,⟨hg.bh,hg.jo,⟨by show 1<=r.length; omega,by show r.length<=25; omega⟩,hg.out,hg.ix⟩⟩,hw⟩;unfold vE;rw [if_neg (show ¬s.pu.aU.length=1 by show ¬(s.aU.map cR.pu).length=1; simpa using dt),show s.pu.aU=f.pu::r.map cR.pu by show s.aU.map cR.pu=_; rw [ct]; rfl]
 rfl
theorem aqW (bm:Nat) (s:aa) (HI:View) (to:Int) (w:World) (hg:s.bO HI) (hw:Ws w ((aa.own bm s).flatMap ak.ids) (aa.own bm s) [HI] w) :
   Calls Tryz.prog 95 #[.pointer (some ⟨bm,0,none⟩),.int .i64 to] w λe w'=>(∃r:Unit×aa,e = .returned (.tuple #[])/\(tH to s.pu = .ok r.1 r.2.pu/\r.2.bO HI)/\Ws w ((aa.own bm s).flatMap ak.ids) (aa.own bm r.2) [HI] w')\/(∃r:Int×aa,e = .panicked (bS r.1)/\tH to s.pu = .ov r.1 r.2.pu/\Ws w ((aa.own bm s).flatMap ak.ids) (aa.own bm r.2) [HI] w'):=by
 have jN:s.stack.reverse.length=s.stack.length:=by simp
 have qj:s.aU.reverse.length=s.aU.length:=by simp
 have vF:=hg.jo;have o_:=hg.i_;have o5:=hg.out;have lA:=hg.ix;refine enter Tryz.func95 O 31 O O ?_;refine CE hw (Cs (Cr (V0 (Ym O) ?_)));refine bd (ι:=Unit×aa) (κ:=Int×aa) [_,_,_,_,_,_] _ Y O abB O O (λr=>.tuple #[]) (λr=>(aa.own bm r.2)) (λr=>qh s.pu = .ok r.1 r.2.pu/\r.2.bO HI) (λr=>bS r.1) (λr=>(aa.own bm r.2)) (λr=>qh s.pu = .ov r.1 r.2.pu) ([HI]) (by simp) (λw hw=>abz bm s HI  w hg hw) ?_ ?_
 ·intro r5 LG;refine Ep ?_;refine aJ λw' hw=>?_;exact .inr ⟨r5,O,by rw [tH,LG]; rfl,hw⟩
 intro r5 ⟨LG,pO⟩
 have abD:r5.2.aU.reverse.length=r5.2.aU.length:=by simp
 have awf:=pO.i_;refine Ln (Et (Cs (Cr (V0 (Ym O) (V0 (aO O) (V0 (Yf vG O) (V0 (Yd 0 O O O Aa) (V0 (Yn Cv O) (V0 (bZ O O) ?_)))))))))
 refine bd (ι:=Unit) (κ:=Unit) [] _ Y O ng O O (λ_=>.tuple #[]) (λ_=>[]) (λ_=>(decide (24<((r5.2.aU.reverse.length:Nat):Int)))=false) (λ_=>bS 4) (λ_=>[]) (λ_=>(decide (24<((r5.2.aU.reverse.length:Nat):Int)))=true) ([]) (by simp) (λw hw=>(nf _ 4 w).mono λe w' h=>by
     rcases h with ⟨_,h1,h2,h3⟩ | ⟨_,h1,h2,h3⟩
     · exact .inl ⟨(),h1,h2,hw.ext h3⟩
     · exact .inr ⟨(),h1,h2,hw.ext h3⟩) ?_ ?_
 ·intro _ jj;refine Ep ?_;refine aJ λw' hw=>?_;refine .inr ⟨(4,r5.2),O,?_,hw⟩;rw [tH,LG]
  show (if 24<r5.2.pu.aU.length then _ else _)=_
  rw [if_pos (show 24<r5.2.pu.aU.length by show 24<(r5.2.aU.map cR.pu).length; rw [abD] at jj; simp at jj; simp; omega)]
 intro _ jj;refine Ln (Et (Cs ?_))
 have hle:¬24<r5.2.aU.length:=by rw [abD] at jj; simp at jj; omega
 refine CU (λ_=>true) [2] [14] (.q false 0 (.q false 1 (.q false 2 (.q false 3 (.q true 4 (.q false 5 (.q false 6 (.q false 7 (.q true 8 (.q false 9 (.e 10 (.e 11 (.q false 12 (.q false 13 .nil)) .stop) .stop))))))))))) mixed (by kernel_rfl) (λ_ _ _ d _ _ h=>by cases d<;>exact h) ?_;refine U0 O (Wp 2) (Ym O) (U0 O (Wp 2) (Ym O) (U0 O (Wp 2) (aO O) (U0 O (Wp 2) (Yf vG O) (U0 O (Wp 2) (Yd 0 O O O Aa) (U0 O (Wp 2) (Ym O) (U0 O (Wp 2) (aO O) (U0 O (Wp 2) (Yf r_ O) ?_)))))));refine U0 O (Wp 2) (Yd 0 O O O aq) (U0 O (Wp 2) (Yb aqU aqT O O) ?_);refine Ue O (Wp 2) ?_ WU.stop;refine Lb Y O Ab O O O O λPW=>?_;refine Ln (Eu ?_);refine Ue O (λ_ h=>(Wo 2 (Wd 1 h):)) ?_ WU.stop;refine LA ⟨none,0,[],r5.2.at_⟩ 3 0 Y O Ab O O O O O O (by omega) (by omega) λa24 c24=>?_;rw [show r5.2.aU.reverse++[(⟨none,0,[],r5.2.at_⟩:cR)]=((⟨none,0,[],r5.2.at_⟩:cR)::r5.2.aU).reverse by simp];refine Ln (Eu (U0 O (λ_ h=>(Wo 2 (Wd 1 h):)) (aO O) (U0 O (λ_ h=>(Wo 2 (Wd 1 h):)) (Yf vG O) ?_)));refine WU.nil (λ_ h=>(Wo 2 (Wd 1 h):)) ?_;refine WS.e O ?_;refine an 1 Y O O O abA O O O (Ln (Es ?_));refine WS.nil ?_;refine Et (Cr (V0 (Ym O) (V0 (Ym O) (V0 (aO O) (V0 (Yf r_ O) (an 1 Y O O O bX O O O (Ln ?_)))))));refine E0 O λw' hw=>?_;have hw:=hw.ao 6 rfl;have hw:=hw.ao 6 rfl;have hw:=hw.ao 6 rfl;have hw:=hw.ao 6 rfl;have hw:=hw.ao 6 rfl;have hw:=hw.ao 6 rfl;have hw:=Ws.bF (L:=[_,_,_,_,_,_]) hw;have hw:=hw.TG 5 rfl 3 1;refine .inl ⟨((),{ r5.2 with at_:=to,aU:=⟨none,0,[],r5.2.at_⟩::r5.2.aU,fa:=a24,fc:=c24 }),O,⟨?_,⟨pO.bh,pO.jo,⟨by simp,by simp; omega⟩,pO.out,pO.ix⟩⟩,hw⟩;rw [tH,LG]
 show (if 24<r5.2.pu.aU.length then _ else _)=_
 rw [if_neg (show ¬24<r5.2.pu.aU.length by show ¬24<(r5.2.aU.map cR.pu).length; simpa using hle)]
 rfl
end Go.Proofs.YtplfmnkmlaolpaaGreatDoor.Mch
end
section
namespace Go.Proofs.YtplfmnkmlaolpaaGreatDoor.Mch
open Go.Bw
theorem abE (H:View) (b o:Nat) (x:Int) (h:iF H b o x):aT H b o (iv x):=λj v hj=>by
 match j,hj with
 | 0,hj=>simp [iv] at hj; subst hj; exact h
 | j+1,hj=>simp [iv] at hj
theorem abF (x:Int):(iv x).all (·.oneCell')=true:=rfl
def zF (H:View) (b o:Nat) (e:(Option Addr×Nat)×List Int):Prop:=vc H b o=some (.slice e.1.1 e.2.length e.1.2)/\Sl iF 1 H e.1.1 e.1.2 e.2
def eC (ls:List ((Option Addr×Nat)×List Int)):Nat:=(ls.map (·.2.length)).sum
theorem FA {ls:List ((Option Addr×Nat)×List Int)} {i:Nat} {x:(Option Addr×Nat)×List Int} (h:ls[i]? = some x):eC (ls.take (i+1))=eC (ls.take i)+x.2.length:=by
 simp [eC,List.take_add_one,h]
theorem FB (ls:List ((Option Addr×Nat)×List Int)) (i:Nat):eC (ls.take i)<=eC ls:=by
 have e:eC ls=eC (ls.take i)+eC (ls.drop i):=by
   unfold eC;rw [<-List.sum_append,<-List.map_append,List.take_append_drop]
 omega
theorem FC (ls:List ((Option Addr×Nat)×List Int)):(ls.flatMap (·.2)).length=eC ls:=by simp [eC,List.length_flatMap]
theorem RW (k:Nat):(madeCells (Value.int IntKind.i64 0).cells (k*1))=((List.replicate k (0:Int)).flatMap iv).toArray:=by
 rw [acn _ rfl]
 congr 1
 induction k with
 | zero=>rfl
 | succ k ih=>simp only [List.replicate_succ,List.flatMap_cons,iv]; rw [ih]; rfl
theorem RX (x y:cR) (r:List cR):(x::r).reverse.set r.length y=(y::r).reverse:=by simp [List.set_append]
theorem jX:Tryz.prog.underlying 3=some (.int .i64):=by kernel_rfl
theorem LH:dL Tryz.prog 112=some 1:=by kernel_rfl
theorem aqX:Enters Tryz.prog 135:=enters_of Tryz.func135 (by kernel_rfl) rfl
theorem GJ (H:View) (a:Option Addr) (c:Nat) (l:List Int) (w:World) (hH:Le H w) (hm:Sl iF 1 H a c l) (hb:l.length*8<=140737488355328) :
   Calls Tryz.prog 62 #[.slice a l.length c] w λe w'=>∃r:Option Addr×Nat,e = .returned (.slice r.1 l.length r.2)/\Ext w w'/\Sl iF 1 (nv w w') r.1 r.2 l:=by
 have dQ:=hm.cap;have eB:=hm.max;refine enter Tryz.func62 O 8 O O ?_;refine CE (Vs:=[H]) (Ws.init (by simp [hH])) (Cs (Cr (V0 (Ya O) (Ln (Et (Cs (Cs (Cr (V0 (Ym O) (V0 (Tb dK O) (Ln (Et ?_))))))))))));refine Cc O (λad=>?_) (λad=>?_)
 ·have vQ:l=[]:=by
    cases l with
    | nil=>rfl
    | cons x r=>obtain ⟨b,o,h,_⟩:=hm.aZ 0 x rfl; rw [h] at ad; cases ad
  refine Cs (Cr (V0 (Ya O) (Ln (Et (az (Er ?_))))));refine R1 O O λw' hw=>?_;subst vQ;exact ⟨(none,0),O,hw.fr,Sl.nil⟩
 refine Ck (Et (Cs (Cr ?_)));refine WL.Ml Y O gG O O O λb5=>?_;refine WL.Hm (size:=1) 0 O (Nat.le_refl 0) (Nat.zero_le _) O ?_;refine WL.Hq 0 ([]:List Int).length (([]:List Int).flatMap iv) O O O ?_;refine V0 (Ym O) ?_;refine WL.x1 (ys:=l) (xs:=[]) 0 (λ_=>H) Y O gG O O O (λw hw=>⟨hw.vs H (by simp),hm⟩) abE fl abF (by simp; omega) (by simp; omega) λa7 c7=>?_;refine V0 (Ya O) (Ln (Et (az ?_)));refine R1 O O λw' hw=>?_;exact ⟨(a7,c7),O,hw.fr,hw.gv 0 O fl qi⟩
theorem aqY (m:Nat) (w:World) (hm:m<=1048576) :
   Calls Tryz.prog 135 #[.slice none 0 0,.int .i64 (m:Int)] w λe w'=>∃r:Option Addr×Nat,e = .returned (.slice r.1 ([]:List Int).length r.2)/\Ws w [] [bo 3 1 iv r.1 r.2 ([]:List Int)] [] w':=by
 refine enter Tryz.func135 O 27 O O ?_;refine CE (Vs:=[]) (Ws.init (by simp)) (Cs (Cr (V0 (Ya O) (Ln (Et (Cs (Cs (Cr (V0 (Ym O) (V0 (bq O O) (Ln (Et ?_))))))))))));refine Cc O (λad=>?_) (λad=>?_)
 ·exfalso
  simp at ad;omega
 refine Ck (Et (Cs (Cs (Cr (V0 (Ym O) (V0 (Ym O) (V0 (HG dK O) (V0 (Ym O) (V0 (Yn dK O) (V0 (qD 0 O O (by simp) (by omega)) (V0 (qD (m:Int) O O (by simp) (by omega)) ?_)))))))))));refine V0 (Ya O) (Ln (Et (Cs (Cr (V0 (Ym O) (V0 (bZ O O) (Ln (Et ?_))))))));refine Cc O (λar=>?_) (λar=>?_)
 ·have h0:0<m:=by simp at ar; omega
  refine Cr (V0 (Ym O) (V0 (Ym O) (V0 (HG dK O) (V0 (ue 0 dK O (by simp) O O (Nat.zero_le _)) (V0 (Ym O) ?_)))));refine WL.TH m Y O gG jX O O h0 (by unfold maxLen; omega) (by omega) λBX FD anm ann Qv Qw=>?_;refine WL.Hm (m:=0) (cap:=FD) (size:=1) 0 O (Nat.zero_le _) Qv (by rw [Qw,Nat.mul_one]) ?_;refine WL.Hq 0 ([]:List Int).length (([]:List Int).flatMap iv) O O (by simp) ?_;refine V0 (Ym O) (V0 (Yn dK O) (V0 (ue ([]:List Int).length dK O (by simp) O O (Nat.zero_le _)) (V0 (Ya O) (Ln (Et (Cs (Cr (V0 (Ym O) (V0 (Ya O) (Ln (Et (az ?_))))))))))));refine R1 O O λw' hw=>?_;exact ⟨(some ⟨BX,0,none⟩,FD),O,hw⟩
 refine Ck (Et (Cs (Cr (V0 (Ym O) (V0 (Ya O) (Ln (Et (az ?_))))))));refine R1 O O λw' hw=>?_;exact ⟨(none,0),O,hw.fB 3 1⟩
theorem RY (H:View) (a:Option Addr) (c:Nat) (ls:List ((Option Addr×Nat)×List Int)) (w:World) (hH:Le H w) (hm:Sl zF 1 H a c ls) (hb:eC ls<=1048576) (vA:ls.length<=1048576) :
   Calls Tryz.prog 110 #[.slice a ls.length c] w λe w'=>∃r:Option Addr×Nat,e = .returned (.slice r.1 (ls.flatMap (·.2)).length r.2)/\Ws w [] [bo 3 1 iv r.1 r.2 (ls.flatMap (·.2))] [H] w':=by
 have dQ:=hm.cap;have eB:=hm.max;refine enter Tryz.func110 O 36 O O ?_;refine CE (Vs:=[H]) (Ws.init (by simp [hH])) (Cs (Cr (V0 (Ya O) (Ln (Et (Cs (Cr (V0 (Ya O) (Ln (Et (Cs (Cs (Cr (V0 (Ym O) (V0 (Yn LH O) ?_)))))))))))))));refine V0 (Ym O) (Ln (Et (Cb ?_)));refine CW (ι:=Nat) (λi=>[(11,.int .i64 (i:Int)),(3,.int .i64 (eC (ls.take i):Int))]) [(0,_),(2,_),(9,_),(10,_)] (λi=>i<=ls.length) (λi=>ls.length-i) 0 (Nat.zero_le _) (sc O (sc O (sc O (sc O (sc O (sc O sn)))))) ?_;intro i hi;refine Cs (Cr (V0 (bq O O) (Ln (Et (Cs ?_)))));refine Cc O (λad=>?_) (λad=>?_)
 ·have aw:i<ls.length:=by simpa using ad
  obtain ⟨x,hx⟩:∃x,ls[i]? = some x:=⟨_,List.getElem?_eq_getElem aw⟩;obtain ⟨pb,po,ha,bJ,nt⟩:=hm.aZ i x hx;have xS:=FA hx;have Qx:=FB ls (i+1);refine Ck (Et (Cs (Cb (Cs (Cr (V0 (Yo LH O O ha (by omega)) (V0 (dm 0 dA O O (bJ)) (V0 (Ya O) (Ln (Et (Cs (Cr (V0 (Ym O) (V0 (Ym O) (V0 (Yn dK O) ?_)))))))))))))));refine V0 (Mo (a:=eC (ls.take i)) (b:=x.2.length) O O O O (by omega)) (V0 (Ya O) (Ln (Et (Cs (Cr (V0 (Ym O) (V0 (bq O O) (Ln (Et ?_)))))))));refine Cc O (λar=>?_) (λar=>?_)
  ·exfalso
   simp at ar;omega
  refine Ck (Eb (Et (Cr (V0 (Yi O O O (by omega)) (V0 (Ym O) (Ln ?_))))));rw [<-xS];exact Ea (i+1) (by omega) (by omega) (sc O (sc O (sc O (sc O (sc O (sc O sn)))))) (λ_ h=>h)
 have mL:i=ls.length:=by simp at ad; omega
 subst mL;rw [List.take_length];refine Ce (Ex (Ex (cf (Et (Cs (Cr (V0 (Ym O) ?_)))))));refine Lw (ι:=Option Addr×Nat) [] _ Y O aqX O O (λr=>.slice r.1 ([]:List Int).length r.2) (λr=>[bo 3 1 iv r.1 r.2 ([]:List Int)]) (λ_=>True) [] (by simp) (λw hw=>(aqY (eC ls) w hb).mono λe w' ⟨r,h1,h2⟩=>⟨r,h1,trivial,h2⟩) ?_;intro sZ _;refine V0 (Ya O) (Ln (Et (Cs (Cs (Cr (V0 (Ym O) (V0 (Yn LH O) (V0 (Ym O) (Ln (Et (Cb ?_)))))))))));refine cU (ι:=Nat×Option Addr×Nat) (λg=>[(27,.int .i64 (g.1:Int)),(6,.slice g.2.1 ((ls.take g.1).flatMap (·.2)).length g.2.2)]) [(2,_),(25,_),(26,_)] (λg=>Ws w [] [bo 3 1 iv g.2.1 g.2.2 ((ls.take g.1).flatMap (·.2))] [H]) (λg=>g.1<=ls.length) (λg=>ls.length-g.1) (0,sZ.1,sZ.2) (Nat.zero_le _) (sc O (sc O (sc O (sc O (sc O sn))))) (λ_ h=>h) ?_;intro g hi;refine Cs (Cr (V0 (bq O O) (Ln (Et (Cs ?_)))));refine Cc O (λay=>?_) (λay=>?_)
 ·have aw:g.1<ls.length:=by simpa using ay
  obtain ⟨x,hx⟩:∃x,ls[g.1]? = some x:=⟨_,List.getElem?_eq_getElem aw⟩;obtain ⟨pb,po,ha,bJ,nt⟩:=hm.aZ g.1 x hx;have xS:=FA hx;have Qx:=FB ls (g.1+1);refine Ck (Et (Cs (Cb (Cs (Cr (V0 (Yo LH O O ha (by omega)) (V0 (dm 0 dA O O (bJ)) (V0 (Ya O) (Ln (Et (Cr (V0 (Ym O) (V0 (Ym O) ?_)))))))))))));refine WL.x1 (xs:=(ls.take g.1).flatMap (·.2)) (ys:=x.2) 0 (λ_=>H) Y O gG O O O (λw hw=>⟨hw.vs H (by simp),nt⟩) abE fl abF (by rw [FC]; omega) (by rw [FC]; omega) λQy Qz=>?_;rw [show ((ls.take g.1).flatMap (·.2))++x.2=(ls.take (g.1+1)).flatMap (·.2) by rw [List.take_add_one,hx]; simp];refine V0 (Ya O) (Ln (Eb (Et (Cr (V0 (Yi O O O (by omega)) (V0 (Ym O) (Ln ?_)))))));exact Ea ((g.1+1,Qy,Qz):Nat×Option Addr×Nat) (by first | omega | (dsimp only; omega)) (by first | omega | (dsimp only; omega)) (sc O (sc O (sc O (sc O (sc O sn))))) (λ_ h=>h)
 have mL:g.1=ls.length:=by simp at ay; omega
 refine Ce (Ex (Ex (cf (Et (Cs (Cr (V0 (Ym O) (V0 (Ya O) (Ln (Et (az ?_)))))))))));refine R1 O O λw' hw=>?_;rw [mL,List.take_length] at hw;rw [mL,List.take_length];exact ⟨(g.2.1,g.2.2),O,hw⟩
end Go.Proofs.YtplfmnkmlaolpaaGreatDoor.Mch
end
section
namespace Go.Proofs.YtplfmnkmlaolpaaGreatDoor.Mch
open Go.Bw
theorem RZ:eS Tryz.prog 112 25 (.slice none 0 0) 1 24:=gW (by kernel_rfl)
theorem R0:Enters Tryz.prog 110:=enters_of Tryz.func110 (by kernel_rfl) rfl
theorem GK:aX Tryz.prog 163 0=some 0:=by kernel_rfl
set_option maxHeartbeats 1000000 in
theorem aqZ (bm:Nat) (s:aa) (HI:View) (a b:Int) (w:World) (hg:s.bO HI) (hw:Ws w ((aa.own bm s).flatMap ak.ids) (aa.own bm s) [HI] w) :
   Calls Tryz.prog 96 #[.pointer (some ⟨bm,0,none⟩),.int .i64 a,.int .i64 b] w λe w'=>(∃r:Unit×aa,e = .returned (.tuple #[])/\(r3 a b s.pu = .ok r.1 r.2.pu/\r.2.bO HI)/\Ws w ((aa.own bm s).flatMap ak.ids) (aa.own bm r.2) [HI] w')\/(∃r:Int×aa,e = .panicked (bS r.1)/\r3 a b s.pu = .ov r.1 r.2.pu/\Ws w ((aa.own bm s).flatMap ak.ids) (aa.own bm r.2) [HI] w'):=by
 have jN:s.stack.reverse.length=s.stack.length:=by simp
 have qj:s.aU.reverse.length=s.aU.length:=by simp
 have vF:=hg.jo;have o_:=hg.i_;have o5:=hg.out;have lA:=hg.ix;refine enter Tryz.func96 O 63 O O ?_;refine CE hw (Cs (Cr (V0 (Ym O) (V0 (bq O O) (V0 (Ym O) ?_)))));apply Lo 2 O O O O Y O O O O O
 ·intro de;refine Vg (Ym O) (Vg (bq O O) ?_);exact Gt 2 O O O
 refine V0 (Ym O) ?_;apply Lo 2 O O O O Y O O O O O
 ·intro bK;refine Vg (Ym O) (Vg (bZ O O) ?_);exact Gt 2 O O O
 refine V0 (Ym O) ?_;apply Lo 4 O O O O Y O O O O O
 ·intro hY;refine Vg (Ym O) (Vg (Ym O) (Vg (Mb O O) (Vg (bZ O O) ?_)));exact Gt 4 O O O
 refine V0 (Ym O) ?_;apply Lo 7 O O O O Y O O O O O
 ·intro mM;refine Vg (Ym O) (Vg (Ym O) (Vg (aO O) (Vg (Yf kY O) (Vg (Yd 0 O O O dA) (Vg (Yn dK O) (Vg (bZ O O) ?_))))));exact Gt 7 O O O
 refine bd (ι:=Unit) (κ:=Unit) [] _ Y O ng O O (λ_=>.tuple #[]) (λ_=>[]) (λ_=>((((decide (a<0)||decide (b<0))||decide (2048<a))||decide (IntKind.i64.wrap (2048-a)<b))||decide (((s.stack.reverse.length:Nat):Int)<a))=false) (λ_=>bS 6) (λ_=>[]) (λ_=>((((decide (a<0)||decide (b<0))||decide (2048<a))||decide (IntKind.i64.wrap (2048-a)<b))||decide (((s.stack.reverse.length:Nat):Int)<a))=true) ([]) (by simp) (λw hw=>(nf _ 6 w).mono λe w' h=>by
     rcases h with ⟨_,h1,h2,h3⟩ | ⟨_,h1,h2,h3⟩
     · exact .inl ⟨(),h1,h2,hw.ext h3⟩
     · exact .inr ⟨(),h1,h2,hw.ext h3⟩) ?_ ?_
 ·intro _ nX;refine Ep ?_;refine aJ λw' hw=>?_;rw [jN] at nX;exact .inr ⟨(6,s),O,by rw [r3,show s.pu.stack.length=s.stack.length from O,if_pos nX],hw⟩
 intro _ nX;refine Ln (Et (Cs ?_))
 have aE:0<=a/\0<=b/\a<=2048/\b<=2048-a/\a<=s.stack.length:=by
   rw [jN] at nX;simp only [Bool.or_eq_false_iff,decide_eq_false_iff_not] at nX;obtain ⟨⟨⟨⟨h1,h2⟩,h3⟩,h4⟩,h5⟩:=nX;rw [G_ (by omega)] at h4;omega
 obtain ⟨f,r,ct⟩:∃f r,s.aU=f::r:=by
   cases h:s.aU with
   | nil=>rw [h] at o_; simp at o_
   | cons f r=>exact ⟨f,r,rfl⟩
 have nw:s.aU.length=r.length+1:=by rw [ct]; rfl
 refine Cr (V0 (Ym O) (V0 (aO O) (V0 (Yf kY O) (V0 (Yd 0 O O O dA) (V0 (Yn dK O) (V0 (Ym O) (V0 (qD (((s.stack.length-a.toNat):Nat):Int) O O (by rw [jN]; omega) (by omega)) ?_)))))));refine V0 (Ya O) (Ln (Et (Cs ?_)));refine WC.ade 1 O λjP hsc hsm=>?_;refine CU (λ_=>true) [] [14] (.q false 0 (.q false 2 (.q false 3 (.q false 4 (.q true 5 (.q false 6 (.q false 7 (.q false 8 (.e 1 (.e 9 (.e 10 (.e 11 (.q false 12 (.q false 13 .nil)) .stop) .stop) .stop) (.e 9 (.e 1 (.e 10 (.e 11 (.q false 12 (.q false 13 .nil)) .stop) .stop) (.e 10 (.e 1 (.e 11 (.q false 12 (.q false 13 .nil)) .stop) .stop) .stop)) .stop)))))))))) mixed (by kernel_rfl) (λ_ _ _ d _ _ h=>by cases d<;>exact h) ?_;refine U0 O (λ_ h=>h) (Ym O) (U0 O (λ_ h=>h) (Ym O) (U0 O (λ_ h=>h) (aO O) (U0 O (λ_ h=>h) (Yf kY O) (U0 O (λ_ h=>h) (Yd 0 O O O dA) (U0 O (λ_ h=>h) (Ym O) (U0 O (λ_ h=>h) (Hy (s.stack.length-a.toNat) dK O O O (by omega) hsc) (U0 O (λ_ h=>h) (Ym O) ?_)))))));refine Ue O (λ_ h=>h) ?_ ?_
 ·refine Lw (ι:=Nat) [_,_,_,_,_,_] _ Y O Cz O O (λr=>.pointer (some ⟨r,0+(s.aU.length-1)*2,none⟩)) (λ_=>(aa.own bm s)) (λr=>s.fa=some ⟨r,0,none⟩) [HI] (by simp) (λw hw=>Cx bm s HI w hg hw) ?_;intro abG GO;refine Ln (Eu ?_);refine Ue O (λ_ h=>h) ?_ WU.stop;refine WL.make Y O gG O O (by omega) (by omega) (by omega) (by omega) λpf=>?_;refine bH 0 (.cells ((List.replicate b.toNat (0:Int)).flatMap iv).toArray 3 (0,0)) O (by rw [RW]) (Ln (Eu ?_));refine Ue O (λ_ h=>(Wd 1 h:)) ?_ WU.stop;refine Lb Y O RZ O O O O λsd=>?_;refine Ln (Eu ?_);refine Ue O (λ_ h=>(Wd 2 h:)) ?_ WU.stop
  refine WL.Df (ι:=Option Addr×Nat) Y O R0 O (λr=>.slice r.1 ((s.stack.take a.toNat).reverse++List.replicate b.toNat 0).length r.2) (λr=>[bo 3 1 iv r.1 r.2 (((s.stack.take a.toNat).reverse++List.replicate b.toNat 0))]) (λ_=>True) (λw hw=>by
      have h1:Sl iF 1 (hv w) s.sa s.sc s.stack.reverse:=hw.Hw 3 rfl fl qi;have h1:=h1.drop (s.stack.length-a.toNat) (by omega)
      have h2:Sl iF 1 (hv w) (some ⟨pf,0,none⟩) b.toNat (List.replicate b.toNat (0:Int)):=⟨by simp,by omega,by simp,λj x hj=>⟨pf,0,rfl,hw.gL 1 rfl (by
        show ((List.replicate b.toNat (0:Int)).flatMap iv)[0+j*1]? = _
        have:=pk fl hj (j:=0) (by decide);rw [Nat.zero_add];rw [Nat.add_zero] at this
        rw [this]; rfl)⟩⟩
      have hlen:(s.stack.reverse.drop (s.stack.length-a.toNat)).length=s.stack.reverse.length-(s.stack.length-a.toNat):=by simp
      have GR:(List.replicate b.toNat (0:Int)).length=b.toNat:=by simp
      have vA:Sl zF 1 (hv w) (some ⟨sd,0,none⟩) 2 [((if s.sc-(s.stack.length-a.toNat)=0 then s.sa else s.sa.map (·.add ((s.stack.length-a.toNat)*1)),s.sc-(s.stack.length-a.toNat)),s.stack.reverse.drop (s.stack.length-a.toNat)),((some ⟨pf,0,none⟩,b.toNat),List.replicate b.toNat (0:Int))]:=⟨by simp,by decide,by simp,λj x hj=>⟨sd,0,rfl,by
        match j,hj with
        | 0,hj=>simp only [List.getElem?_cons_zero,Option.some.injEq] at hj; subst hj; exact ⟨by rw [hlen]; exact hw.gL 0 rfl rfl,h1⟩
        | 1,hj=>simp only [List.getElem?_cons_succ,List.getElem?_cons_zero,Option.some.injEq] at hj; subst hj; exact ⟨by rw [GR]; exact hw.gL 0 rfl rfl,h2⟩⟩⟩
      have nw:[((if s.sc-(s.stack.length-a.toNat)=0 then s.sa else s.sa.map (·.add ((s.stack.length-a.toNat)*1)),s.sc-(s.stack.length-a.toNat)),s.stack.reverse.drop (s.stack.length-a.toNat)),((some (⟨pf,0,none⟩:Addr),b.toNat),List.replicate b.toNat (0:Int))].flatMap (·.2)=((s.stack.take a.toNat).reverse++List.replicate b.toNat 0):=by
        simp only [List.flatMap_cons,List.flatMap_nil,List.append_nil];rw [List.drop_reverse,show s.stack.length-(s.stack.length-a.toNat)=a.toNat by omega]
      have hc:=RY (hv w) (some ⟨sd,0,none⟩) 2 _ w (iq w) vA (by simp [eC]; omega) (by simp);rw [nw] at hc
      exact hc.mono λe w' ⟨r,h3,h4⟩=>⟨r,h3,trivial,h4.bw (by simp)⟩) ?_
  intro dT _;refine Ln (Eu (U0 O (λ_ h=>(Wd 3 h:)) (aO O) (U0 O (λ_ h=>(Wd 3 h:)) (Yf GK O) ?_)));refine WU.nil (λ_ h=>(Wd 3 h:)) ?_;refine WS.e O ?_;refine WL.storeT (y:=f) 5 r.length 0 ({ f with la:=dT.1,lc:=dT.2,loc:=((s.stack.take a.toNat).reverse++List.replicate b.toNat 0) }) Y O O O GO (by rw [nw]; simp) cR.a8 (by rw [ct,List.reverse_cons,List.getElem?_append_right (by simp)]; simp) lC O O (by decide) O ?_;rw [show s.aU.reverse.set r.length { f with la:=dT.1,lc:=dT.2,loc:=((s.stack.take a.toNat).reverse++List.replicate b.toNat 0) }=({ f with la:=dT.1,lc:=dT.2,loc:=((s.stack.take a.toNat).reverse++List.replicate b.toNat 0) }::r).reverse by rw [ct,RX]];refine Ln (Es ?_);refine WS.nil ?_;refine Et (Cr (V0 (Ym O) (V0 (Ym O) (V0 (aO O) (V0 (Yf kY O) (V0 (Yd 3 O O O dA) (V0 (Ym O) (V0 (ue (s.stack.drop a.toNat).reverse.length dK O jP O (by simp) (by simp; omega)) ?_))))))));refine V0 (aO O) (V0 (Yf kY O) (an 3 Y O O O lC O O O ?_));refine WL.Db 4 (s.stack.drop a.toNat).reverse O fl (by simp) (by rw [List.take_reverse]; congr 2; simp; omega) ?_;refine Ln ?_;refine E0 O λw' hw=>?_;have hw:=hw.ao 7 rfl;have hw:=hw.ao 7 rfl;have hw:=hw.ao 7 rfl;have hw:=hw.ao 7 rfl;have hw:=hw.ao 7 rfl;have hw:=hw.ao 5 rfl;have hw:=hw.ao 8 rfl;have hw:=Ws.bF (L:=[_,_,_,_,_,_,_]) hw;rw [ct] at hw;have hw:=hw.AB;have hw:=Wd 1 hw;have hw:=hw.ao 1 rfl;have hw:=hw.AD;have hw:=hw.ao 5 rfl;have hw:=hw.ao 5 rfl;have hw:=hw.ao 5 rfl;have hw:=hw.ao 5 rfl;have hw:=hw.ao 5 rfl;have hw:=Ws.bF (L:=[_,_,_,_,_,_]) hw
  have ki:mg s.obj (0+3) (dv (.slice s.sa (s.stack.drop a.toNat).reverse.length s.sc))=aa.obj { s with stack:=s.stack.drop a.toNat,aU:={ f with la:=dT.1,lc:=dT.2,loc:=((s.stack.take a.toNat).reverse++List.replicate b.toNat 0) }::r }:=by
    unfold aa.obj;rw [show s.aU.reverse.length=({ f with la:=dT.1,lc:=dT.2,loc:=((s.stack.take a.toNat).reverse++List.replicate b.toNat 0) }::r).reverse.length by simp [ct]]
    rfl
  rw [ki] at hw;refine .inl ⟨((),{ s with stack:=s.stack.drop a.toNat,aU:={ f with la:=dT.1,lc:=dT.2,loc:=((s.stack.take a.toNat).reverse++List.replicate b.toNat 0) }::r }),O,⟨?_,⟨hg.bh,by show (s.stack.drop a.toNat).length<=2048; simp; omega,by show 1<=(r.length+1)/\r.length+1<=25; omega,hg.out,hg.ix⟩⟩,hw⟩;rw [jN] at nX;unfold r3;rw [if_neg (by rw [show s.pu.stack.length=s.stack.length from rfl,nX]; simp),show s.pu.aU=f.pu::r.map cR.pu by show s.aU.map cR.pu=_; rw [ct]; rfl]
  rfl
 refine Ue O (λ_ h=>h) ?_ WU.stop;refine WL.make Y O gG O O (by omega) (by omega) (by omega) (by omega) λpf=>?_;refine bH 0 (.cells ((List.replicate b.toNat (0:Int)).flatMap iv).toArray 3 (0,0)) O (by rw [RW]) (Ln (Eu ?_));refine Ue O (λ_ h=>(Wd 1 h:)) ?_ ?_
 ·refine Lf 6 O (Lf 6 O (Lf 6 O (Lf 6 O (Lf 6 O (Lf 6 O ?_)))));refine Lw (ι:=Nat) [_,_,_,_,_,_] _ Y O Cz O O (λr=>.pointer (some ⟨r,0+(s.aU.length-1)*2,none⟩)) (λ_=>(aa.own bm s)) (λr=>s.fa=some ⟨r,0,none⟩) [HI] (by simp) (λw hw=>Cx bm s HI w hg hw) ?_;intro abG GO;refine Ln (Eu ?_);refine Ue O (λ_ h=>(Wt 6 h:)) ?_ WU.stop;refine Lb Y O RZ O O O O λsd=>?_;refine Ln (Eu ?_);refine Ue O (λ_ h=>by exact (Wt 6 ((((((h.f 6 O).f 6 O).f 6 O).f 6 O).f 6 O).f 6 O):)) ?_ WU.stop
  refine WL.Df (ι:=Option Addr×Nat) Y O R0 O (λr=>.slice r.1 ((s.stack.take a.toNat).reverse++List.replicate b.toNat 0).length r.2) (λr=>[bo 3 1 iv r.1 r.2 (((s.stack.take a.toNat).reverse++List.replicate b.toNat 0))]) (λ_=>True) (λw hw=>by
      have h1:Sl iF 1 (hv w) s.sa s.sc s.stack.reverse:=hw.Hw 2 rfl fl qi;have h1:=h1.drop (s.stack.length-a.toNat) (by omega)
      have h2:Sl iF 1 (hv w) (some ⟨pf,0,none⟩) b.toNat (List.replicate b.toNat (0:Int)):=⟨by simp,by omega,by simp,λj x hj=>⟨pf,0,rfl,hw.gL 7 rfl (by
        show ((List.replicate b.toNat (0:Int)).flatMap iv)[0+j*1]? = _
        have:=pk fl hj (j:=0) (by decide);rw [Nat.zero_add];rw [Nat.add_zero] at this
        rw [this]; rfl)⟩⟩
      have hlen:(s.stack.reverse.drop (s.stack.length-a.toNat)).length=s.stack.reverse.length-(s.stack.length-a.toNat):=by simp
      have GR:(List.replicate b.toNat (0:Int)).length=b.toNat:=by simp
      have vA:Sl zF 1 (hv w) (some ⟨sd,0,none⟩) 2 [((if s.sc-(s.stack.length-a.toNat)=0 then s.sa else s.sa.map (·.add ((s.stack.length-a.toNat)*1)),s.sc-(s.stack.length-a.toNat)),s.stack.reverse.drop (s.stack.length-a.toNat)),((some ⟨pf,0,none⟩,b.toNat),List.replicate b.toNat (0:Int))]:=⟨by simp,by decide,by simp,λj x hj=>⟨sd,0,rfl,by
        match j,hj with
        | 0,hj=>simp only [List.getElem?_cons_zero,Option.some.injEq] at hj; subst hj; exact ⟨by rw [hlen]; exact hw.gL 0 rfl rfl,h1⟩
        | 1,hj=>simp only [List.getElem?_cons_succ,List.getElem?_cons_zero,Option.some.injEq] at hj; subst hj; exact ⟨by rw [GR]; exact hw.gL 0 rfl rfl,h2⟩⟩⟩
      have nw:[((if s.sc-(s.stack.length-a.toNat)=0 then s.sa else s.sa.map (·.add ((s.stack.length-a.toNat)*1)),s.sc-(s.stack.length-a.toNat)),s.stack.reverse.drop (s.stack.length-a.toNat)),((some (⟨pf,0,none⟩:Addr),b.toNat),List.replicate b.toNat (0:Int))].flatMap (·.2)=((s.stack.take a.toNat).reverse++List.replicate b.toNat 0):=by
        simp only [List.flatMap_cons,List.flatMap_nil,List.append_nil];rw [List.drop_reverse,show s.stack.length-(s.stack.length-a.toNat)=a.toNat by omega]
      have hc:=RY (hv w) (some ⟨sd,0,none⟩) 2 _ w (iq w) vA (by simp [eC]; omega) (by simp);rw [nw] at hc
      exact hc.mono λe w' ⟨r,h3,h4⟩=>⟨r,h3,trivial,h4.bw (by simp)⟩) ?_
  intro dT _;refine Ln (Eu (U0 O (λ_ h=>by exact (Wt 6 ((((((h.f 7 O).f 7 O).f 7 O).f 7 O).f 7 O).f 7 O):)) (aO O) (U0 O (λ_ h=>by exact (Wt 6 ((((((h.f 7 O).f 7 O).f 7 O).f 7 O).f 7 O).f 7 O):)) (Yf GK O) ?_)));refine WU.nil (λ_ h=>by exact (Wt 6 ((((((h.f 7 O).f 7 O).f 7 O).f 7 O).f 7 O).f 7 O):)) ?_;refine WS.e O ?_;refine WL.storeT (y:=f) 4 r.length 0 ({ f with la:=dT.1,lc:=dT.2,loc:=((s.stack.take a.toNat).reverse++List.replicate b.toNat 0) }) Y O O O GO (by rw [nw]; simp) cR.a8 (by rw [ct,List.reverse_cons,List.getElem?_append_right (by simp)]; simp) lC O O (by decide) O ?_;rw [show s.aU.reverse.set r.length { f with la:=dT.1,lc:=dT.2,loc:=((s.stack.take a.toNat).reverse++List.replicate b.toNat 0) }=({ f with la:=dT.1,lc:=dT.2,loc:=((s.stack.take a.toNat).reverse++List.replicate b.toNat 0) }::r).reverse by rw [ct,RX]];refine Ln (Es ?_);refine WS.nil ?_;refine Et (Cr (V0 (Ym O) (V0 (Ym O) (V0 (aO O) (V0 (Yf kY O) (V0 (Yd 2 O O O dA) (V0 (Ym O) (V0 (ue (s.stack.drop a.toNat).reverse.length dK O jP O (by simp) (by simp; omega)) ?_))))))));refine V0 (aO O) (V0 (Yf kY O) (an 2 Y O O O lC O O O ?_));refine WL.Db 3 (s.stack.drop a.toNat).reverse O fl (by simp) (by rw [List.take_reverse]; congr 2; simp; omega) ?_;refine Ln ?_;refine E0 O λw' hw=>?_;have hw:=hw.ao 6 rfl;have hw:=hw.ao 6 rfl;have hw:=hw.ao 6 rfl;have hw:=hw.ao 6 rfl;have hw:=hw.ao 6 rfl;have hw:=hw.ao 5 rfl;have hw:=hw.ao 7 rfl;have hw:=Ws.bF (L:=[_,_,_,_,_,_,_]) hw;rw [ct] at hw;have hw:=hw.AB;have hw:=Wd 1 hw;have hw:=hw.ao 1 rfl;have hw:=hw.AD;have hw:=hw.ao 5 rfl;have hw:=hw.ao 5 rfl;have hw:=hw.ao 5 rfl;have hw:=hw.ao 5 rfl;have hw:=hw.ao 5 rfl;have hw:=Ws.bF (L:=[_,_,_,_,_,_]) hw
  have ki:mg s.obj (0+3) (dv (.slice s.sa (s.stack.drop a.toNat).reverse.length s.sc))=aa.obj { s with stack:=s.stack.drop a.toNat,aU:={ f with la:=dT.1,lc:=dT.2,loc:=((s.stack.take a.toNat).reverse++List.replicate b.toNat 0) }::r }:=by
    unfold aa.obj;rw [show s.aU.reverse.length=({ f with la:=dT.1,lc:=dT.2,loc:=((s.stack.take a.toNat).reverse++List.replicate b.toNat 0) }::r).reverse.length by simp [ct]]
    rfl
  rw [ki] at hw;refine .inl ⟨((),{ s with stack:=s.stack.drop a.toNat,aU:={ f with la:=dT.1,lc:=dT.2,loc:=((s.stack.take a.toNat).reverse++List.replicate b.toNat 0) }::r }),O,⟨?_,⟨hg.bh,by show (s.stack.drop a.toNat).length<=2048; simp; omega,by show 1<=(r.length+1)/\r.length+1<=25; omega,hg.out,hg.ix⟩⟩,hw⟩;rw [jN] at nX;unfold r3;rw [if_neg (by rw [show s.pu.stack.length=s.stack.length from rfl,nX]; simp),show s.pu.aU=f.pu::r.map cR.pu by show s.aU.map cR.pu=_; rw [ct]; rfl]
  rfl
 refine Ue O (λ_ h=>(Wd 1 h:)) ?_ WU.stop;refine Lb Y O RZ O O O O λsd=>?_;refine Ln (Eu ?_);refine Ue O (λ_ h=>(Wd 2 h:)) ?_ WU.stop;refine Lf 7 O (Lf 7 O (Lf 7 O (Lf 7 O (Lf 7 O (Lf 7 O ?_)))));refine Lw (ι:=Nat) [_,_,_,_,_,_] _ Y O Cz O O (λr=>.pointer (some ⟨r,0+(s.aU.length-1)*2,none⟩)) (λ_=>(aa.own bm s)) (λr=>s.fa=some ⟨r,0,none⟩) [HI] (by simp) (λw hw=>Cx bm s HI w hg hw) ?_;intro abG GO;refine Ln (Eu ?_);refine Ue O (λ_ h=>(Wt 6 h:)) ?_ WU.stop
 refine WL.Df (ι:=Option Addr×Nat) Y O R0 O (λr=>.slice r.1 ((s.stack.take a.toNat).reverse++List.replicate b.toNat 0).length r.2) (λr=>[bo 3 1 iv r.1 r.2 (((s.stack.take a.toNat).reverse++List.replicate b.toNat 0))]) (λ_=>True) (λw hw=>by
     have h1:Sl iF 1 (hv w) s.sa s.sc s.stack.reverse:=hw.Hw 1 rfl fl qi;have h1:=h1.drop (s.stack.length-a.toNat) (by omega)
     have h2:Sl iF 1 (hv w) (some ⟨pf,0,none⟩) b.toNat (List.replicate b.toNat (0:Int)):=⟨by simp,by omega,by simp,λj x hj=>⟨pf,0,rfl,hw.gL 7 rfl (by
       show ((List.replicate b.toNat (0:Int)).flatMap iv)[0+j*1]? = _
       have:=pk fl hj (j:=0) (by decide);rw [Nat.zero_add];rw [Nat.add_zero] at this
       rw [this]; rfl)⟩⟩
     have hlen:(s.stack.reverse.drop (s.stack.length-a.toNat)).length=s.stack.reverse.length-(s.stack.length-a.toNat):=by simp
     have GR:(List.replicate b.toNat (0:Int)).length=b.toNat:=by simp
     have vA:Sl zF 1 (hv w) (some ⟨sd,0,none⟩) 2 [((if s.sc-(s.stack.length-a.toNat)=0 then s.sa else s.sa.map (·.add ((s.stack.length-a.toNat)*1)),s.sc-(s.stack.length-a.toNat)),s.stack.reverse.drop (s.stack.length-a.toNat)),((some ⟨pf,0,none⟩,b.toNat),List.replicate b.toNat (0:Int))]:=⟨by simp,by decide,by simp,λj x hj=>⟨sd,0,rfl,by
       match j,hj with
       | 0,hj=>simp only [List.getElem?_cons_zero,Option.some.injEq] at hj; subst hj; exact ⟨by rw [hlen]; exact hw.gL 6 rfl rfl,h1⟩
       | 1,hj=>simp only [List.getElem?_cons_succ,List.getElem?_cons_zero,Option.some.injEq] at hj; subst hj; exact ⟨by rw [GR]; exact hw.gL 6 rfl rfl,h2⟩⟩⟩
     have nw:[((if s.sc-(s.stack.length-a.toNat)=0 then s.sa else s.sa.map (·.add ((s.stack.length-a.toNat)*1)),s.sc-(s.stack.length-a.toNat)),s.stack.reverse.drop (s.stack.length-a.toNat)),((some (⟨pf,0,none⟩:Addr),b.toNat),List.replicate b.toNat (0:Int))].flatMap (·.2)=((s.stack.take a.toNat).reverse++List.replicate b.toNat 0):=by
       simp only [List.flatMap_cons,List.flatMap_nil,List.append_nil];rw [List.drop_reverse,show s.stack.length-(s.stack.length-a.toNat)=a.toNat by omega]
     have hc:=RY (hv w) (some ⟨sd,0,none⟩) 2 _ w (iq w) vA (by simp [eC]; omega) (by simp);rw [nw] at hc
     exact hc.mono λe w' ⟨r,h3,h4⟩=>⟨r,h3,trivial,h4.bw (by simp)⟩) ?_
 intro dT _;refine Ln (Eu (U0 O (λ_ h=>by exact (Wt 6 ((((((h.f 6 O).f 6 O).f 6 O).f 6 O).f 6 O).f 6 O):)) (aO O) (U0 O (λ_ h=>by exact (Wt 6 ((((((h.f 6 O).f 6 O).f 6 O).f 6 O).f 6 O).f 6 O):)) (Yf GK O) ?_)));refine WU.nil (λ_ h=>by exact (Wt 6 ((((((h.f 6 O).f 6 O).f 6 O).f 6 O).f 6 O).f 6 O):)) ?_;refine WS.e O ?_;refine WL.storeT (y:=f) 3 r.length 0 ({ f with la:=dT.1,lc:=dT.2,loc:=((s.stack.take a.toNat).reverse++List.replicate b.toNat 0) }) Y O O O GO (by rw [nw]; simp) cR.a8 (by rw [ct,List.reverse_cons,List.getElem?_append_right (by simp)]; simp) lC O O (by decide) O ?_;rw [show s.aU.reverse.set r.length { f with la:=dT.1,lc:=dT.2,loc:=((s.stack.take a.toNat).reverse++List.replicate b.toNat 0) }=({ f with la:=dT.1,lc:=dT.2,loc:=((s.stack.take a.toNat).reverse++List.replicate b.toNat 0) }::r).reverse by rw [ct,RX]];refine Ln (Es ?_);refine WS.nil ?_;refine Et (Cr (V0 (Ym O) (V0 (Ym O) (V0 (aO O) (V0 (Yf kY O) (V0 (Yd 1 O O O dA) (V0 (Ym O) (V0 (ue (s.stack.drop a.toNat).reverse.length dK O jP O (by simp) (by simp; omega)) ?_))))))));refine V0 (aO O) (V0 (Yf kY O) (an 1 Y O O O lC O O O ?_));refine WL.Db 2 (s.stack.drop a.toNat).reverse O fl (by simp) (by rw [List.take_reverse]; congr 2; simp; omega) ?_;refine Ln ?_;refine E0 O λw' hw=>?_;have hw:=hw.ao 6 rfl;have hw:=Ws.bF (L:=[_,_,_,_,_,_,_]) hw;rw [ct] at hw;have hw:=hw.AB;have hw:=Wd 1 hw;have hw:=hw.ao 1 rfl;have hw:=hw.AD;have hw:=hw.ao 5 rfl;have hw:=hw.ao 5 rfl;have hw:=hw.ao 5 rfl;have hw:=hw.ao 5 rfl;have hw:=hw.ao 5 rfl;have hw:=Ws.bF (L:=[_,_,_,_,_,_]) hw
 have ki:mg s.obj (0+3) (dv (.slice s.sa (s.stack.drop a.toNat).reverse.length s.sc))=aa.obj { s with stack:=s.stack.drop a.toNat,aU:={ f with la:=dT.1,lc:=dT.2,loc:=((s.stack.take a.toNat).reverse++List.replicate b.toNat 0) }::r }:=by
   unfold aa.obj;rw [show s.aU.reverse.length=({ f with la:=dT.1,lc:=dT.2,loc:=((s.stack.take a.toNat).reverse++List.replicate b.toNat 0) }::r).reverse.length by simp [ct]]
   rfl
 rw [ki] at hw;refine .inl ⟨((),{ s with stack:=s.stack.drop a.toNat,aU:={ f with la:=dT.1,lc:=dT.2,loc:=((s.stack.take a.toNat).reverse++List.replicate b.toNat 0) }::r }),O,⟨?_,⟨hg.bh,by show (s.stack.drop a.toNat).length<=2048; simp; omega,by show 1<=(r.length+1)/\r.length+1<=25; omega,hg.out,hg.ix⟩⟩,hw⟩;rw [jN] at nX;unfold r3;rw [if_neg (by rw [show s.pu.stack.length=s.stack.length from rfl,nX]; simp),show s.pu.aU=f.pu::r.map cR.pu by show s.aU.map cR.pu=_; rw [ct]; rfl]
 rfl
end Go.Proofs.YtplfmnkmlaolpaaGreatDoor.Mch
end
section
namespace Go.Proofs.YtplfmnkmlaolpaaGreatDoor.Mch
open Go.Bw
abbrev aa.ah (s:aa):aa:={ s with at_:=IntKind.i64.wrap (s.at_+1) }
def Pm.ah (m:Pm):Pm:={ m with at_:=IntKind.i64.wrap (m.at_+1) }
theorem aa.bO.at {HI:View} {s:aa} (h:s.bO HI) (a:Int):aa.bO HI { s with at_:=a }:=⟨h.bh,h.jo,h.i_,h.out,h.ix⟩
def CA (m:Pm):List Int:=match m.aU with | []=>[] | f::_=>f.1
def R2 (m:Pm) (k:Nat) (n:Int):Pm:={ m with aU:=match m.aU with | []=>[] | f::r=>(f.1.set k n,f.2)::r }
def bY (i:iZ) (m:Pm):Rz Unit:=
 if (i.op==1)=true then dB i.a m
 else if (i.op==2)=true then (if cy i.a (CA m).length=true then .ov 6 m else dB ((CA m)[i.a.toNat]?.getD 0) m)
 else if (i.op==3)=true then (bj m).bind λn m=>if cy i.a (CA m).length=true then .ov 6 m else .ok () (R2 m i.a.toNat n)
 else if (i.op==4)=true then (if cy i.a m.data.length=true then .ov 6 m else dB (m.data[i.a.toNat]?.getD 0) m)
 else if (i.op==5)=true then (bj m).bind λn m=>if cy i.a m.data.length=true then .ov 6 m else .ok () { m with data:=m.data.set i.a.toNat n }
 else if (i.op==6)=true then (bj m).bind λn m=>if (decide (n<0)||decide (i.b<=n))=true then .ov 2 m else dB (IntKind.i64.wrap (i.a+n)) m
 else if (i.op==7)=true then (bj m).bind λn m=>if cy n m.data.length=true then .ov 6 m else dB (m.data[n.toNat]?.getD 0) m
 else if (i.op==8)=true then (bj m).bind λn m=>(bj m).bind λk m=>if cy k m.data.length=true then .ov 6 m else .ok () { m with data:=m.data.set k.toNat n }
 else if (i.op==9)=true then (bj m).bind λn m=>dB (o7 (n==0)) m
 else if (i.op==22)=true then (bj m).bind λn m=>dB (o7 (n != 0)) m
 else if (i.op==10)=true then lG i.a m
 else if (i.op==11)=true then .ok () { m with at_:=i.a }
 else if (i.op==12)=true then (bj m).bind λn m=>if (n==0)=true then .ok () { m with at_:=i.a } else .ok () m
 else if (i.op==13)=true then tH i.a m
 else if (i.op==14)=true then r3 i.a i.b m
 else if (i.op==15)=true then vE m
 else if (i.op==16)=true then qh m
 else if (i.op==17)=true then (bj m).bind λ_ m=>.ok () m
 else if (i.op==18)=true then dB (n_ m).1 (n_ m).2
 else if (i.op==19)=true then (bj m).bind λn m=>if m.out.length=200 then .ov 5 m else .ok () { m with out:=m.out++[n] }
 else if (i.op==20)=true then .ov 0 m
 else .ok () m
def bT (i:iZ) (m:Pm):Rz Unit:=bY i m.ah
theorem aq0 {s:aa} {f:cR} {r:List cR} (ct:s.aU=f::r) (k:Nat) (n:Int):s.obj=aa.obj { s with aU:={ f with loc:=f.loc.set k n }::r }/\bo 163 2 cR.cells s.fa s.fc s.aU.reverse=bo 163 2 cR.cells s.fa s.fc ({ f with loc:=f.loc.set k n }::r).reverse:=by
 constructor
 · simp [aa.obj,ct]
 · simp [ct,cR.cells,bo]
theorem R3 (s:aa) (k:Nat) (n:Int):s.obj=aa.obj { s with data:=s.data.set k n }:=by simp [aa.obj]
theorem GV {s:aa} {f:cR} {r:List cR} (ct:s.aU=f::r):CA s.pu=f.loc:=by
 show (match s.aU.map cR.pu with | []=>[] | f::_=>f.1)=_
 rw [ct]; rfl
theorem aq1 {s:aa} {f:cR} {r:List cR} (ct:s.aU=f::r) (k:Nat) (n:Int):R2 s.pu k n=aa.pu { s with aU:={ f with loc:=f.loc.set k n }::r }:=by
 show ({ s.pu with aU:=match s.aU.map cR.pu with | []=>[] | f::r=>(f.1.set k n,f.2)::r }:Pm)=_
 rw [ct]; rfl
theorem abH {HI:View} {s:aa} (h:s.bO HI):∃f r,s.aU=f::r:=by
 have:=h.i_.1
 cases hs:s.aU with
 | nil=>rw [hs] at this; simp at this
 | cons f r=>exact ⟨f,r,rfl⟩
theorem abI {s:aa} {f:cR} {r:List cR} (ct:s.aU=f::r):s.aU.reverse[s.aU.length-1]? = some f:=by
 rw [ct,List.reverse_cons,List.getElem?_append_right (by simp)]; simp
theorem tK {i:Int} {n:Nat} (h:cy i n=false):0<=i/\i.toNat<n:=by
 unfold cy at h;simp at h;omega
theorem l9:aX Tryz.prog 67 1=some 1:=by kernel_rfl
theorem xH:Enters Tryz.prog 90:=enters_of Tryz.func90 (by kernel_rfl) rfl
theorem xI:aX Tryz.prog 51 2=some 2:=by kernel_rfl
theorem Rl:aX Tryz.prog 67 2=some 2:=by kernel_rfl
theorem aq2:Enters Tryz.prog 94:=enters_of Tryz.func94 (by kernel_rfl) rfl
theorem aq3:Enters Tryz.prog 95:=enters_of Tryz.func95 (by kernel_rfl) rfl
theorem aq4:Enters Tryz.prog 96:=enters_of Tryz.func96 (by kernel_rfl) rfl
theorem aq5:Enters Tryz.prog 97:=enters_of Tryz.func97 (by kernel_rfl) rfl
theorem aq6:Enters Tryz.prog 99:=enters_of Tryz.func99 (by kernel_rfl) rfl
theorem CB:aX Tryz.prog 51 1=some 1:=by kernel_rfl
set_option maxHeartbeats 4000000 in
theorem aq7 (bm:Nat) (s:aa) (HI:View) (i:iZ) (w:World) (hg:s.bO HI) (hw:Ws w ((aa.own bm s).flatMap ak.ids) (aa.own bm s) [HI] w) :
   Calls Tryz.prog 70 #[.pointer (some ⟨bm,0,none⟩),.agg #[.int .i64 i.op,.int .i64 i.a,.int .i64 i.b]] w λe w'=>(∃r:Unit×aa,e = .returned (.tuple #[])/\(bT i s.pu = .ok r.1 r.2.pu/\r.2.bO HI)/\Ws w ((aa.own bm s).flatMap ak.ids) (aa.own bm r.2) [HI] w')\/(∃r:Int×aa,e = .panicked (bS r.1)/\bT i s.pu = .ov r.1 r.2.pu/\Ws w ((aa.own bm s).flatMap ak.ids) (aa.own bm r.2) [HI] w'):=by
 have jN:s.stack.reverse.length=s.stack.length:=by simp
 have qj:s.aU.reverse.length=s.aU.length:=by simp
 have vF:=hg.jo;have o_:=hg.i_;have o5:=hg.out;have lA:=hg.ix;refine enter Tryz.func70 O 225 O O ?_;refine CE hw (Cs (Cr ?_));refine WL.box Y O O λb3=>?_;refine Ln (Et (Cs (Cr (V0 (Ym O) (V0 (aO O) (V0 (Yf r_ O) (V0 (Yd 1 O O O aq) (V0 (vO O O) (V0 (aO O) (V0 (Yf r_ O) ?_))))))))));refine an 1 Y O O O bX O O O (bH 1 (aa.obj (aa.ah s)) O O ?_);have bK:aa.bO HI (aa.ah s):=hg.at _;refine Ln (Et (Cs (Cr (V0 (Yf zZ O) (V0 (Yd 0 O O O aq) (Ln (Et (Cb (Cs (Cr (V0 (aG O O) (V0 (Ya O) (Ln (Et ?_))))))))))))));refine Cc O (λad=>?_) (λad=>?_)
 ·refine Cr (V0 (Ym O) (V0 (Yf l9 O) (V0 (Yd 0 O O O aq) (Lf 6 O (Lf 6 O (Lf 6 O (Lf 6 O ?_)))))));refine Lf 6 O (Lf 6 O ?_);refine bd (ι:=Unit×aa) (κ:=Int×aa) [_,_,_,_,_,_] _ Y O qm O O (λr=>.tuple #[]) (λr=>(aa.own bm r.2)) (λr=>dB i.a (aa.ah s).pu = .ok r.1 r.2.pu/\r.2.bO HI) (λr=>bS r.1) (λr=>(aa.own bm r.2)) (λr=>dB i.a (aa.ah s).pu = .ov r.1 r.2.pu) ([HI]) (by simp) (λw hw=>ql bm (aa.ah s) HI i.a w bK hw) ?_ ?_
  ·intro R4 R5;refine WE.aQ ?_;refine aJ λw' hw=>?_;have hw:=Ws.bF (L:=[_,_,_,_,_,_]) hw;refine .inr ⟨R4,O,?_,hw⟩;unfold bT bY;rw [show s.pu.ah=(aa.ah s).pu from rfl];simp only [ad,Bool.false_eq_true,if_false,if_true];exact R5
  intro R4 ⟨R5,aq8⟩;refine Ln (Eb ?_);refine E0 O λw' hw=>?_;have hw:=Ws.bF (L:=[_,_,_,_,_,_]) hw;refine .inl ⟨((),R4.2),O,⟨?_,aq8⟩,hw⟩;unfold bT bY;rw [show s.pu.ah=(aa.ah s).pu from rfl];simp only [ad,Bool.false_eq_true,if_false,if_true];exact R5
 refine Cs (Cr (V0 (aG O O) (V0 (Ya O) (Ln (Et ?_)))));refine Cc O (λar=>?_) (λar=>?_)
 ·obtain ⟨f,r,ct⟩:=abH bK;refine WC.fact (p:=0<f.loc.length->∃b o,f.la=some ⟨b,o,none⟩) (λw hw hp=>TI (As:=(aa.ah s).aU.map cR.own) hw 6 O (by rw [ct]; exact List.mem_cons_self) hp) λR6=>?_;have R7:=abI ct;refine CU (λ_=>true) [] [11] (.q false 0 (.q false 1 (.q false 6 (.q true 7 (.e 2 (.q false 3 (.q false 4 (.q true 5 (.e 8 (.q false 9 (.q true 10 .nil)) .stop)))) .stop))))) mixed (by kernel_rfl) (λ_ _ _ d _ _ h=>by cases d<;>exact h) ?_;refine U0 O (λ_ h=>h) (Ym O) (U0 O (λ_ h=>h) (Ym O) (U0 O (λ_ h=>h) (Yf l9 O) (U0 O (λ_ h=>h) (Yd 0 O O O aq) ?_)));refine Ue O (λ_ h=>h) ?_ WU.stop;refine Lf 6 O (Lf 6 O (Lf 6 O (Lf 6 O (Lf 6 O (Lf 6 O ?_)))));refine Lw (ι:=Nat) [_,_,_,_,_,_] _ Y O Cz O O (λr=>.pointer (some ⟨r,0+((aa.ah s).aU.length-1)*2,none⟩)) (λ_=>(aa.own bm (aa.ah s))) (λr=>(aa.ah s).fa=some ⟨r,0,none⟩) [HI] (by simp) (λw hw=>Cx bm (aa.ah s) HI w bK hw) ?_;intro awg aq9;refine Ln (Eu (U0 O (λ_ h=>(h.f 6 O:)) (aO O) (U0 O (λ_ h=>(h.f 6 O:)) (Yf GK O) (U0 O (λ_ h=>(h.f 6 O:)) (qH (y:=f) 3 (s.aU.length-1) 0 O O aq9 O cR.a8 R7 O dA) ?_))));refine Ue O (λ_ h=>(h.f 6 O:)) ?_ WU.stop
  refine bd (ι:=Nat×Nat) (κ:=Unit) [] _ Y O xH O O (λr=>.pointer (some ⟨r.1,r.2+(i.a).toNat*1,none⟩)) (λ_=>[]) (λr=>cy (i.a) (f.loc.length)=false/\f.la=some ⟨r.1,r.2,none⟩) (λ_=>bS 6) (λ_=>[]) (λ_=>cy (i.a) (f.loc.length)=true) ([]) (by simp) (λw hw=>(xG f.la _ (f.loc.length) (i.a) w R6).mono λe w' h=>by
      rcases h with ⟨r,h1,h2,h3⟩ | ⟨_,h1,h2,h3⟩
      · exact .inl ⟨r,h1,h2,hw.ext h3⟩
      · exact .inr ⟨(),h1,h2,hw.ext h3⟩) ?_ ?_
  ·intro _ GW;refine Ep (WE.aQ ?_);refine aJ λw' hw=>?_;have hw:=Ws.bF (L:=[_,_,_,_,_,_]) hw;refine .inr ⟨(6,(aa.ah s)),O,?_,hw⟩;unfold bT bY;rw [show s.pu.ah=(aa.ah s).pu from rfl];simp only [ad,ar,Bool.false_eq_true,if_false,if_true];rw [GV (s:=(aa.ah s)) ct,if_pos GW]
  intro EG ⟨GW,aq'⟩;obtain ⟨LI,R8⟩:∃x,f.loc[i.a.toNat]? = some x:=⟨_,List.getElem?_eq_getElem (tK GW).2⟩;refine Ln (Eu (U0 O (λ_ h=>(h.f 6 O:)) (aO O) (U0 O (λ_ h=>(h.f 6 O:)) (adk (xs:=f.loc) (y:=LI) 6 i.a.toNat 0 O O (by rw [ct]; exact List.mem_cons_self) aq' O fl R8 O aq) ?_)));refine WU.nil (λ_ h=>(h.f 6 O:)) ?_;refine WS.e O ?_;refine bd (ι:=Unit×aa) (κ:=Int×aa) [_,_,_,_,_,_] _ Y O qm O O (λr=>.tuple #[]) (λr=>(aa.own bm r.2)) (λr=>dB LI (aa.ah s).pu = .ok r.1 r.2.pu/\r.2.bO HI) (λr=>bS r.1) (λr=>(aa.own bm r.2)) (λr=>dB LI (aa.ah s).pu = .ov r.1 r.2.pu) ([HI]) (by simp) (λw hw=>ql bm (aa.ah s) HI LI w bK hw) ?_ ?_
  ·intro R9 R';refine Ep (WE.aQ ?_);refine aJ λw' hw=>?_;have hw:=Ws.bF (L:=[_,_,_,_,_,_]) hw;refine .inr ⟨R9,O,?_,hw⟩;unfold bT bY;rw [show s.pu.ah=(aa.ah s).pu from rfl];simp only [ad,ar,Bool.false_eq_true,if_false,if_true];rw [GV (s:=(aa.ah s)) ct,GW,if_neg (by simp),R8];exact R'
  intro R9 ⟨R',aq_⟩;refine Ln (Es ?_);refine WS.nil ?_;refine Eb ?_;refine E0 O λw' hw=>?_;have hw:=Ws.bF (L:=[_,_,_,_,_,_]) hw;refine .inl ⟨((),R9.2),O,⟨?_,aq_⟩,hw⟩;unfold bT bY;rw [show s.pu.ah=(aa.ah s).pu from rfl];simp only [ad,ar,Bool.false_eq_true,if_false,if_true];rw [GV (s:=(aa.ah s)) ct,GW,if_neg (by simp),R8];exact R'
 refine Cs (Cr (V0 (aG O O) (V0 (Ya O) (Ln (Et ?_)))));refine Cc O (λay=>?_) (λay=>?_)
 ·refine Cs (Cr (V0 (Ym O) (Lf 6 O (Lf 6 O (Lf 6 O (Lf 6 O (Lf 6 O (Lf 6 O ?_))))))));refine bd (ι:=Int×List Int) (κ:=Int×aa) [_,_,_,_,_,_] _ Y O nj O O (λr=>.int .i64 r.1) (λr=>(aa.own bm (aa.aI (aa.ah s) r.2))) (λr=>bj (aa.ah s).pu = .ok r.1 (aa.aI (aa.ah s) r.2).pu/\(aa.aI (aa.ah s) r.2).bO HI) (λr=>bS r.1) (λr=>(aa.own bm r.2)) (λr=>bj (aa.ah s).pu = .ov r.1 r.2.pu) ([HI]) (by simp) (λw hw=>nh bm (aa.ah s) HI w bK hw) ?_ ?_
  ·intro cC mc;refine Ep (WE.aQ ?_);refine aJ λw' hw=>?_;have hw:=Ws.bF (L:=[_,_,_,_,_,_]) hw;refine .inr ⟨cC,O,?_,hw⟩;unfold bT bY;rw [show s.pu.ah=(aa.ah s).pu from rfl];simp only [ad,ar,ay,Bool.false_eq_true,if_false,if_true];rw [mc]
   rfl
  intro cC ⟨mc,vI⟩;refine V0 (Ya O) (Ln (Et ?_));obtain ⟨f,r,ct⟩:=abH vI;refine WC.fact (p:=0<f.loc.length->∃b o,f.la=some ⟨b,o,none⟩) (λw hw hp=>TI (As:=(aa.aI (aa.ah s) cC.2).aU.map cR.own) hw 5 O (by rw [ct]; exact List.mem_cons_self) hp) λR6=>?_;have R7:=abI ct;refine CU (λ_=>true) [] [10] (.q false 0 (.q false 5 (.q true 6 (.q false 8 (.e 1 (.q false 2 (.q false 3 (.q true 4 (.e 7 (.q false 9 .nil) .stop)))) .stop))))) mixed (by kernel_rfl) (λ_ _ _ d _ _ h=>by cases d<;>exact h) ?_;refine U0 O (λ_ h=>h) (Ym O) (U0 O (λ_ h=>h) (Yf l9 O) (U0 O (λ_ h=>h) (Yd 6 O O O aq) (U0 O (λ_ h=>h) (Ym O) ?_)));refine Ue O (λ_ h=>h) ?_ WU.stop;refine Lw (ι:=Nat) [_,_,_,_,_,_] _ Y O Cz O O (λr=>.pointer (some ⟨r,0+((aa.aI (aa.ah s) cC.2).aU.length-1)*2,none⟩)) (λ_=>(aa.own bm (aa.aI (aa.ah s) cC.2))) (λr=>(aa.aI (aa.ah s) cC.2).fa=some ⟨r,0,none⟩) [HI] (by simp) (λw hw=>Cx bm (aa.aI (aa.ah s) cC.2) HI w vI hw) ?_;intro awh ara;refine Ln (Eu (U0 O (λ_ h=>h) (aO O) (U0 O (λ_ h=>h) (Yf GK O) (U0 O (λ_ h=>h) (qH (y:=f) 2 (s.aU.length-1) 0 O O ara O cR.a8 R7 O dA) ?_))));refine Ue O (λ_ h=>h) ?_ WU.stop
  refine bd (ι:=Nat×Nat) (κ:=Unit) [] _ Y O xH O O (λr=>.pointer (some ⟨r.1,r.2+(i.a).toNat*1,none⟩)) (λ_=>[]) (λr=>cy (i.a) (f.loc.length)=false/\f.la=some ⟨r.1,r.2,none⟩) (λ_=>bS 6) (λ_=>[]) (λ_=>cy (i.a) (f.loc.length)=true) ([]) (by simp) (λw hw=>(xG f.la _ (f.loc.length) (i.a) w R6).mono λe w' h=>by
      rcases h with ⟨r,h1,h2,h3⟩ | ⟨_,h1,h2,h3⟩
      · exact .inl ⟨r,h1,h2,hw.ext h3⟩
      · exact .inr ⟨(),h1,h2,hw.ext h3⟩) ?_ ?_
  ·intro _ LJ;refine Ep (WE.aQ ?_);refine aJ λw' hw=>?_;have hw:=Ws.bF (L:=[_,_,_,_,_,_]) hw;refine .inr ⟨(6,(aa.aI (aa.ah s) cC.2)),O,?_,hw⟩;unfold bT bY;rw [show s.pu.ah=(aa.ah s).pu from rfl];simp only [ad,ar,ay,Bool.false_eq_true,if_false,if_true];rw [mc]
   show (if cy i.a (CA (aa.aI (aa.ah s) cC.2).pu).length=true then _ else _)=_
   rw [GV (s:=(aa.aI (aa.ah s) cC.2)) ct,if_pos LJ]
  intro r49 ⟨LJ,arb⟩;obtain ⟨x49,ard⟩:∃x,f.loc[i.a.toNat]? = some x:=⟨_,List.getElem?_eq_getElem (tK LJ).2⟩;refine Ln (Eu (U0 O (λ_ h=>h) (aO O) ?_));refine WU.nil (λ_ h=>h) ?_;refine WS.e O ?_;refine WL.px (A':=dF (cR.own f::r.map cR.own)) 5 O (by rw [ct]; rfl) ?_;refine Lf 5 O ?_;refine WL.TE ?_;refine WL.storeT (y:=x49) 0 i.a.toNat 0 cC.1 Y O O O arb O fl ard bX O O (by decide) O ?_;refine WL.TF ?_;refine Ln (Es ?_);refine WS.nil ?_;refine Eb ?_;refine E0 O λw' hw=>?_;have hw:=hw.ao 5 rfl;have hw:=hw.ao 5 rfl;have hw:=hw.ao 5 rfl;have hw:=hw.ao 5 rfl;have hw:=hw.ao 5 rfl;have hw:=Ws.bF (L:=[_,_,_,_,_,_]) hw;have e:=aq0 (s:=(aa.aI (aa.ah s) cC.2)) ct i.a.toNat cC.1;have hw:=hw.px 0 rfl (congrArg (ab bm) e.1);have hw:=hw.px 2 rfl e.2;refine .inl ⟨((),{ (aa.aI (aa.ah s) cC.2) with aU:={ f with loc:=f.loc.set i.a.toNat cC.1 }::r }),O,⟨?_,⟨bK.bh,vI.jo,by have:=bK.i_; rw [show ((aa.ah s)).aU=f::r from ct] at this; exact this,bK.out,bK.ix⟩⟩,hw⟩;unfold bT bY;rw [show s.pu.ah=(aa.ah s).pu from rfl];simp only [ad,ar,ay,Bool.false_eq_true,if_false,if_true];rw [mc]
  show (if cy i.a (CA (aa.aI (aa.ah s) cC.2).pu).length=true then _ else _)=_
  rw [GV (s:=(aa.aI (aa.ah s) cC.2)) ct,LJ,if_neg (by simp)]
  show Rz.ok () (R2 (aa.aI (aa.ah s) cC.2).pu i.a.toNat cC.1)=_
  rw [aq1 (s:=(aa.aI (aa.ah s) cC.2)) ct]
 refine Cs (Cr (V0 (aG O O) (V0 (Ya O) (Ln (Et ?_)))));refine Cc O (λaM=>?_) (λaM=>?_)
 ·refine WC.fact (p:=0<s.data.length->∃b o,s.da=some ⟨b,o,none⟩) (λw hw hp=>HJ hw 5 O hp) λvJ=>?_;refine CU (λ_=>true) [] [11] (.q false 0 (.q false 1 (.q false 2 (.q false 3 (.q false 4 (.q true 5 (.q false 6 (.q true 7 (.e 8 (.q false 9 (.q true 10 .nil)) .stop))))))))) mixed (by kernel_rfl) (λ_ _ _ d _ _ h=>by cases d<;>exact h) ?_;refine U0 O (λ_ h=>h) (Ym O) (U0 O (λ_ h=>h) (Ym O) (U0 O (λ_ h=>h) (aO O) (U0 O (λ_ h=>h) (Yf pc O) (U0 O (λ_ h=>h) (Yf xI O) (U0 O (λ_ h=>h) (Yd 1 O O O dA) (U0 O (λ_ h=>h) (Yf l9 O) (U0 O (λ_ h=>h) (Yd 0 O O O aq) ?_)))))));refine Ue O (λ_ h=>h) ?_ WU.stop
  refine bd (ι:=Nat×Nat) (κ:=Unit) [] _ Y O xH O O (λr=>.pointer (some ⟨r.1,r.2+(i.a).toNat*1,none⟩)) (λ_=>[]) (λr=>cy (i.a) (s.data.length)=false/\s.da=some ⟨r.1,r.2,none⟩) (λ_=>bS 6) (λ_=>[]) (λ_=>cy (i.a) (s.data.length)=true) ([]) (by simp) (λw hw=>(xG s.da _ (s.data.length) (i.a) w vJ).mono λe w' h=>by
      rcases h with ⟨r,h1,h2,h3⟩ | ⟨_,h1,h2,h3⟩
      · exact .inl ⟨r,h1,h2,hw.ext h3⟩
      · exact .inr ⟨(),h1,h2,hw.ext h3⟩) ?_ ?_
  ·intro _ GY;refine Ep (WE.aQ ?_);refine aJ λw' hw=>?_;have hw:=hw.ao 6 rfl;have hw:=hw.ao 6 rfl;have hw:=hw.ao 6 rfl;have hw:=hw.ao 6 rfl;have hw:=hw.ao 6 rfl;have hw:=hw.ao 6 rfl;have hw:=Ws.bF (L:=[_,_,_,_,_,_]) hw;refine .inr ⟨(6,(aa.ah s)),O,?_,hw⟩;unfold bT bY;rw [show s.pu.ah=(aa.ah s).pu from rfl];simp only [ad,ar,ay,aM,Bool.false_eq_true,if_false,if_true]
   show (if cy i.a s.data.length=true then _ else _)=_
   rw [if_pos GY]
  intro OR ⟨GY,are⟩;obtain ⟨LK,R_⟩:∃x,s.data[i.a.toNat]? = some x:=⟨_,List.getElem?_eq_getElem (tK GY).2⟩;refine Ln (Eu (U0 O (λ_ h=>h) (aO O) (U0 O (λ_ h=>h) (qH (y:=LK) 5 i.a.toNat 0 O O are O fl R_ O aq) ?_)));refine WU.nil (λ_ h=>h) ?_;refine WS.e O ?_;refine Lf 6 O (Lf 6 O (Lf 6 O (Lf 6 O (Lf 6 O (Lf 6 O ?_)))));refine bd (ι:=Unit×aa) (κ:=Int×aa) [_,_,_,_,_,_] _ Y O qm O O (λr=>.tuple #[]) (λr=>(aa.own bm r.2)) (λr=>dB LK (aa.ah s).pu = .ok r.1 r.2.pu/\r.2.bO HI) (λr=>bS r.1) (λr=>(aa.own bm r.2)) (λr=>dB LK (aa.ah s).pu = .ov r.1 r.2.pu) ([HI]) (by simp) (λw hw=>ql bm (aa.ah s) HI LK w bK hw) ?_ ?_
  ·intro Fg Sa;refine Ep (WE.aQ ?_);refine aJ λw' hw=>?_;have hw:=Ws.bF (L:=[_,_,_,_,_,_]) hw;refine .inr ⟨Fg,O,?_,hw⟩;unfold bT bY;rw [show s.pu.ah=(aa.ah s).pu from rfl];simp only [ad,ar,ay,aM,Bool.false_eq_true,if_false,if_true]
   show (if cy i.a s.data.length=true then _ else _)=_
   rw [GY,if_neg (by simp)]
   show dB (s.data[i.a.toNat]?.getD 0) _=_
   rw [R_];exact Sa
  intro Fg ⟨Sa,arf⟩;refine Ln (Es ?_);refine WS.nil ?_;refine Eb ?_;refine E0 O λw' hw=>?_;have hw:=Ws.bF (L:=[_,_,_,_,_,_]) hw;refine .inl ⟨((),Fg.2),O,⟨?_,arf⟩,hw⟩;unfold bT bY;rw [show s.pu.ah=(aa.ah s).pu from rfl];simp only [ad,ar,ay,aM,Bool.false_eq_true,if_false,if_true]
  show (if cy i.a s.data.length=true then _ else _)=_
  rw [GY,if_neg (by simp)]
  show dB (s.data[i.a.toNat]?.getD 0) _=_
  rw [R_];exact Sa
 refine Cs (Cr (V0 (aG O O) (V0 (Ya O) (Ln (Et ?_)))));refine Cc O (λaW=>?_) (λaW=>?_)
 ·refine Cs (Cr (V0 (Ym O) (Lf 6 O (Lf 6 O (Lf 6 O (Lf 6 O (Lf 6 O (Lf 6 O ?_))))))));refine bd (ι:=Int×List Int) (κ:=Int×aa) [_,_,_,_,_,_] _ Y O nj O O (λr=>.int .i64 r.1) (λr=>(aa.own bm (aa.aI (aa.ah s) r.2))) (λr=>bj (aa.ah s).pu = .ok r.1 (aa.aI (aa.ah s) r.2).pu/\(aa.aI (aa.ah s) r.2).bO HI) (λr=>bS r.1) (λr=>(aa.own bm r.2)) (λr=>bj (aa.ah s).pu = .ov r.1 r.2.pu) ([HI]) (by simp) (λw hw=>nh bm (aa.ah s) HI w bK hw) ?_ ?_
  ·intro rI LL;refine Ep (WE.aQ ?_);refine aJ λw' hw=>?_;have hw:=Ws.bF (L:=[_,_,_,_,_,_]) hw;refine .inr ⟨rI,O,?_,hw⟩;unfold bT bY;rw [show s.pu.ah=(aa.ah s).pu from rfl];simp only [ad,ar,ay,aM,aW,Bool.false_eq_true,if_false,if_true];rw [LL]
   rfl
  intro rI ⟨LL,arh⟩;refine V0 (Ya O) (Ln (Et ?_));refine WC.fact (p:=0<s.data.length->∃b o,s.da=some ⟨b,o,none⟩) (λw hw hp=>HJ hw 4 O hp) λvJ=>?_;refine CU (λ_=>true) [] [10] (.q false 0 (.q false 1 (.q false 2 (.q false 3 (.q true 4 (.q false 5 (.q true 6 (.q false 8 (.e 7 (.q false 9 .nil) .stop))))))))) mixed (by kernel_rfl) (λ_ _ _ d _ _ h=>by cases d<;>exact h) ?_;refine U0 O (λ_ h=>h) (Ym O) (U0 O (λ_ h=>h) (aO O) (U0 O (λ_ h=>h) (Yf pc O) (U0 O (λ_ h=>h) (Yf xI O) (U0 O (λ_ h=>h) (Yd 0 O O O dA) (U0 O (λ_ h=>h) (Yf l9 O) (U0 O (λ_ h=>h) (Yd 6 O O O aq) (U0 O (λ_ h=>h) (Ym O) ?_)))))));refine Ue O (λ_ h=>h) ?_ WU.stop
  refine bd (ι:=Nat×Nat) (κ:=Unit) [] _ Y O xH O O (λr=>.pointer (some ⟨r.1,r.2+(i.a).toNat*1,none⟩)) (λ_=>[]) (λr=>cy (i.a) (s.data.length)=false/\s.da=some ⟨r.1,r.2,none⟩) (λ_=>bS 6) (λ_=>[]) (λ_=>cy (i.a) (s.data.length)=true) ([]) (by simp) (λw hw=>(xG s.da _ (s.data.length) (i.a) w vJ).mono λe w' h=>by
      rcases h with ⟨r,h1,h2,h3⟩ | ⟨_,h1,h2,h3⟩
      · exact .inl ⟨r,h1,h2,hw.ext h3⟩
      · exact .inr ⟨(),h1,h2,hw.ext h3⟩) ?_ ?_
  ·intro _ LM;refine Ep (WE.aQ ?_);refine aJ λw' hw=>?_;have hw:=Ws.bF (L:=[_,_,_,_,_,_]) hw;refine .inr ⟨(6,(aa.aI (aa.ah s) rI.2)),O,?_,hw⟩;unfold bT bY;rw [show s.pu.ah=(aa.ah s).pu from rfl];simp only [ad,ar,ay,aM,aW,Bool.false_eq_true,if_false,if_true];rw [LL]
   show (if cy i.a s.data.length=true then _ else _)=_
   rw [if_pos LM]
  intro r77 ⟨LM,ari⟩;obtain ⟨x77,ark⟩:∃x,s.data[i.a.toNat]? = some x:=⟨_,List.getElem?_eq_getElem (tK LM).2⟩;refine Ln (Eu (U0 O (λ_ h=>h) (aO O) ?_));refine WU.nil (λ_ h=>h) ?_;refine WS.e O ?_;refine WL.storeT (y:=x77) 4 i.a.toNat 0 rI.1 Y O O O ari O fl ark bX O O (by decide) O ?_;refine Ln (Es ?_);refine WS.nil ?_;refine Eb ?_;refine E0 O λw' hw=>?_;have hw:=Ws.bF (L:=[_,_,_,_,_,_]) hw;have hw:=hw.px 0 rfl (congrArg (ab bm) (R3 (aa.aI (aa.ah s) rI.2) i.a.toNat rI.1));refine .inl ⟨((),{ (aa.aI (aa.ah s) rI.2) with data:=s.data.set i.a.toNat rI.1 }),O,⟨?_,⟨bK.bh,arh.jo,bK.i_,bK.out,by show (s.data.set i.a.toNat rI.1).length<=512; simp; exact lA⟩⟩,hw⟩;unfold bT bY;rw [show s.pu.ah=(aa.ah s).pu from rfl];simp only [ad,ar,ay,aM,aW,Bool.false_eq_true,if_false,if_true];rw [LL]
  show (if cy i.a s.data.length=true then _ else _)=_
  rw [LM,if_neg (by simp)]
  rfl
 refine Cs (Cr (V0 (aG O O) (V0 (Ya O) (Ln (Et ?_)))));refine Cc O (λbl=>?_) (λbl=>?_)
 ·refine Cs (Cr (V0 (Ym O) (Lf 6 O (Lf 6 O (Lf 6 O (Lf 6 O (Lf 6 O (Lf 6 O ?_))))))));refine bd (ι:=Int×List Int) (κ:=Int×aa) [_,_,_,_,_,_] _ Y O nj O O (λr=>.int .i64 r.1) (λr=>(aa.own bm (aa.aI (aa.ah s) r.2))) (λr=>bj (aa.ah s).pu = .ok r.1 (aa.aI (aa.ah s) r.2).pu/\(aa.aI (aa.ah s) r.2).bO HI) (λr=>bS r.1) (λr=>(aa.own bm r.2)) (λr=>bj (aa.ah s).pu = .ov r.1 r.2.pu) ([HI]) (by simp) (λw hw=>nh bm (aa.ah s) HI w bK hw) ?_ ?_
  ·intro ku GZ;refine Ep (WE.aQ ?_);refine aJ λw' hw=>?_;have hw:=Ws.bF (L:=[_,_,_,_,_,_]) hw;refine .inr ⟨ku,O,?_,hw⟩;unfold bT bY;rw [show s.pu.ah=(aa.ah s).pu from rfl];simp only [ad,ar,ay,aM,aW,bl,Bool.false_eq_true,if_false,if_true];rw [GZ]
   rfl
  intro ku ⟨GZ,arl⟩;refine V0 (Ya O) (Ln (Et (Cs (Cr (V0 (Ym O) (V0 (bq O O) (V0 (Ym O) ?_)))))));apply Lo 4 O O O O Y O O O O O
  ·intro de;refine Vg (Ym O) (Vg (Yf Rl O) (Vg (Yd 6 O O O aq) (Vg (fm O O) ?_)));exact Gt 4 O O O
  refine bd (ι:=Unit) (κ:=Unit) [] _ Y O ng O O (λ_=>.tuple #[]) (λ_=>[]) (λ_=>(decide (ku.1<0)||decide (i.b<=ku.1))=false) (λ_=>bS 2) (λ_=>[]) (λ_=>(decide (ku.1<0)||decide (i.b<=ku.1))=true) ([]) (by simp) (λw hw=>(nf _ 2 w).mono λe w' h=>by
      rcases h with ⟨_,h1,h2,h3⟩ | ⟨_,h1,h2,h3⟩
      · exact .inl ⟨(),h1,h2,hw.ext h3⟩
      · exact .inr ⟨(),h1,h2,hw.ext h3⟩) ?_ ?_
  ·intro _ LO;refine Ep (WE.aQ ?_);refine aJ λw' hw=>?_;have hw:=Ws.bF (L:=[_,_,_,_,_,_]) hw;refine .inr ⟨(2,(aa.aI (aa.ah s) ku.2)),O,?_,hw⟩;unfold bT bY;rw [show s.pu.ah=(aa.ah s).pu from rfl];simp only [ad,ar,ay,aM,aW,bl,Bool.false_eq_true,if_false,if_true];rw [GZ]
   show (if (decide (ku.1<0)||decide (i.b<=ku.1))=true then _ else _)=_
   rw [if_pos LO]
  intro _ LO;refine Ln (Et (Cr (V0 (Ym O) (V0 (Yf l9 O) (V0 (Yd 6 O O O aq) (V0 (Ym O) (V0 (vO O O) ?_)))))));refine bd (ι:=Unit×aa) (κ:=Int×aa) [_,_,_,_,_,_] _ Y O qm O O (λr=>.tuple #[]) (λr=>(aa.own bm r.2)) (λr=>dB (IntKind.i64.wrap (i.a+ku.1)) (aa.aI (aa.ah s) ku.2).pu = .ok r.1 r.2.pu/\r.2.bO HI) (λr=>bS r.1) (λr=>(aa.own bm r.2)) (λr=>dB (IntKind.i64.wrap (i.a+ku.1)) (aa.aI (aa.ah s) ku.2).pu = .ov r.1 r.2.pu) ([HI]) (by simp) (λw hw=>ql bm (aa.aI (aa.ah s) ku.2) HI (IntKind.i64.wrap (i.a+ku.1)) w arl hw) ?_ ?_
  ·intro Sb Sc;refine WE.aQ ?_;refine aJ λw' hw=>?_;have hw:=Ws.bF (L:=[_,_,_,_,_,_]) hw;refine .inr ⟨Sb,O,?_,hw⟩;unfold bT bY;rw [show s.pu.ah=(aa.ah s).pu from rfl];simp only [ad,ar,ay,aM,aW,bl,Bool.false_eq_true,if_false,if_true];rw [GZ]
   show (if (decide (ku.1<0)||decide (i.b<=ku.1))=true then _ else _)=_
   rw [LO,if_neg (by simp)];exact Sc
  intro Sb ⟨Sc,arn⟩;refine Ln (Eb ?_);refine E0 O λw' hw=>?_;have hw:=Ws.bF (L:=[_,_,_,_,_,_]) hw;refine .inl ⟨((),Sb.2),O,⟨?_,arn⟩,hw⟩;unfold bT bY;rw [show s.pu.ah=(aa.ah s).pu from rfl];simp only [ad,ar,ay,aM,aW,bl,Bool.false_eq_true,if_false,if_true];rw [GZ]
  show (if (decide (ku.1<0)||decide (i.b<=ku.1))=true then _ else _)=_
  rw [LO,if_neg (by simp)];exact Sc
 refine Cs (Cr (V0 (aG O O) (V0 (Ya O) (Ln (Et ?_)))));refine Cc O (λbt=>?_) (λbt=>?_)
 ·refine WC.fact (p:=0<s.data.length->∃b o,s.da=some ⟨b,o,none⟩) (λw hw hp=>HJ hw 5 O hp) λvJ=>?_;refine CU (λ_=>true) [1,1] [11] (.q false 0 (.q false 1 (.q false 2 (.q false 3 (.q false 4 (.q false 6 (.e 5 (.e 7 (.e 8 (.q false 9 (.q true 10 .nil)) .stop) .stop) (.e 7 (.e 5 (.e 8 (.q false 9 (.q true 10 .nil)) .stop) .stop) .stop)))))))) mixed (by kernel_rfl) (λ_ _ _ d _ _ h=>by cases d<;>exact h) ?_;refine U0 O (bk [1,1]) (Ym O) (U0 O (bk [1,1]) (Ym O) (U0 O (bk [1,1]) (aO O) (U0 O (bk [1,1]) (Yf pc O) (U0 O (bk [1,1]) (Yf xI O) (U0 O (bk [1,1]) (Ym O) ?_)))));refine Ue O (bk [1,1]) ?_ ?_
  ·refine V0 (Yd 1 O O O dA) (Ln (Eu ?_));refine Ue O (bk [1,1]) ?_ WU.stop;refine Lf 6 O (Lf 6 O (Lf 6 O (Lf 6 O (Lf 6 O (Lf 6 O ?_)))));refine bd (ι:=Int×List Int) (κ:=Int×aa) [_,_,_,_,_,_] _ Y O nj O O (λr=>.int .i64 r.1) (λr=>(aa.own bm (aa.aI (aa.ah s) r.2))) (λr=>bj (aa.ah s).pu = .ok r.1 (aa.aI (aa.ah s) r.2).pu/\(aa.aI (aa.ah s) r.2).bO HI) (λr=>bS r.1) (λr=>(aa.own bm r.2)) (λr=>bj (aa.ah s).pu = .ov r.1 r.2.pu) ([HI]) (by simp) (λw hw=>nh bm (aa.ah s) HI w bK hw) ?_ ?_
   ·intro eD se;refine Ep (WE.aQ ?_);refine aJ λw' hw=>?_;have hw:=Ws.bF (L:=[_,_,_,_,_,_]) hw;refine .inr ⟨eD,O,?_,hw⟩;unfold bT bY;rw [show s.pu.ah=(aa.ah s).pu from rfl];simp only [ad,ar,ay,aM,aW,bl,bt,Bool.false_eq_true,if_false,if_true];rw [se]
    rfl
   intro eD ⟨se,Sd⟩;refine Ln (Eu ?_);refine Ue O (λ_ h=>(Wo 1 (Wo 1 (h.f 6 O)):)) ?_ WU.stop
   refine bd (ι:=Nat×Nat) (κ:=Unit) [] _ Y O xH O O (λr=>.pointer (some ⟨r.1,r.2+(eD.1).toNat*1,none⟩)) (λ_=>[]) (λr=>cy (eD.1) (s.data.length)=false/\s.da=some ⟨r.1,r.2,none⟩) (λ_=>bS 6) (λ_=>[]) (λ_=>cy (eD.1) (s.data.length)=true) ([]) (by simp) (λw hw=>(xG s.da _ (s.data.length) (eD.1) w vJ).mono λe w' h=>by
       rcases h with ⟨r,h1,h2,h3⟩ | ⟨_,h1,h2,h3⟩
       · exact .inl ⟨r,h1,h2,hw.ext h3⟩
       · exact .inr ⟨(),h1,h2,hw.ext h3⟩) ?_ ?_
   ·intro _ sf;refine Ep (WE.aQ ?_);refine aJ λw' hw=>?_;have hw:=Ws.bF (L:=[_,_,_,_,_,_]) hw;refine .inr ⟨(6,(aa.aI (aa.ah s) eD.2)),O,?_,hw⟩;unfold bT bY;rw [show s.pu.ah=(aa.ah s).pu from rfl];simp only [ad,ar,ay,aM,aW,bl,bt,Bool.false_eq_true,if_false,if_true];rw [se]
    show (if cy eD.1 s.data.length=true then _ else _)=_
    rw [if_pos sf]
   intro Z' ⟨sf,Se⟩;obtain ⟨vK,Ac⟩:∃x,s.data[eD.1.toNat]? = some x:=⟨_,List.getElem?_eq_getElem (tK sf).2⟩;refine Ln (Eu (U0 O (λ_ h=>(Wo 1 (Wo 1 (h.f 6 O)):)) (aO O) (U0 O (λ_ h=>(Wo 1 (Wo 1 (h.f 6 O)):)) (qH (y:=vK) 3 eD.1.toNat 0 O O Se O fl Ac O aq) ?_)));refine WU.nil (λ_ h=>(Wo 1 (Wo 1 (h.f 6 O)):)) ?_;refine WS.e O ?_;refine bd (ι:=Unit×aa) (κ:=Int×aa) [_,_,_,_,_,_] _ Y O qm O O (λr=>.tuple #[]) (λr=>(aa.own bm r.2)) (λr=>dB vK (aa.aI (aa.ah s) eD.2).pu = .ok r.1 r.2.pu/\r.2.bO HI) (λr=>bS r.1) (λr=>(aa.own bm r.2)) (λr=>dB vK (aa.aI (aa.ah s) eD.2).pu = .ov r.1 r.2.pu) ([HI]) (by simp) (λw hw=>ql bm (aa.aI (aa.ah s) eD.2) HI vK w Sd hw) ?_ ?_
   ·intro Ad Ae;refine Ep (WE.aQ ?_);refine aJ λw' hw=>?_;have hw:=Ws.bF (L:=[_,_,_,_,_,_]) hw;refine .inr ⟨Ad,O,?_,hw⟩;unfold bT bY;rw [show s.pu.ah=(aa.ah s).pu from rfl];simp only [ad,ar,ay,aM,aW,bl,bt,Bool.false_eq_true,if_false,if_true];rw [se]
    show (if cy eD.1 s.data.length=true then _ else _)=_
    rw [sf,if_neg (by simp)]
    show dB (s.data[eD.1.toNat]?.getD 0) _=_
    rw [Ac];exact Ae
   intro Ad ⟨Ae,Sf⟩;refine Ln (Es ?_);refine WS.nil ?_;refine Eb ?_;refine E0 O λw' hw=>?_;have hw:=Ws.bF (L:=[_,_,_,_,_,_]) hw;refine .inl ⟨((),Ad.2),O,⟨?_,Sf⟩,hw⟩;unfold bT bY;rw [show s.pu.ah=(aa.ah s).pu from rfl];simp only [ad,ar,ay,aM,aW,bl,bt,Bool.false_eq_true,if_false,if_true];rw [se]
   show (if cy eD.1 s.data.length=true then _ else _)=_
   rw [sf,if_neg (by simp)]
   show dB (s.data[eD.1.toNat]?.getD 0) _=_
   rw [Ac];exact Ae
  refine Ue O (bk [1,1]) ?_ WU.stop;refine Lf 6 O (Lf 6 O (Lf 6 O (Lf 6 O (Lf 6 O (Lf 6 O ?_)))));refine bd (ι:=Int×List Int) (κ:=Int×aa) [_,_,_,_,_,_] _ Y O nj O O (λr=>.int .i64 r.1) (λr=>(aa.own bm (aa.aI (aa.ah s) r.2))) (λr=>bj (aa.ah s).pu = .ok r.1 (aa.aI (aa.ah s) r.2).pu/\(aa.aI (aa.ah s) r.2).bO HI) (λr=>bS r.1) (λr=>(aa.own bm r.2)) (λr=>bj (aa.ah s).pu = .ov r.1 r.2.pu) ([HI]) (by simp) (λw hw=>nh bm (aa.ah s) HI w bK hw) ?_ ?_
  ·intro eD se;refine Ep (WE.aQ ?_);refine aJ λw' hw=>?_;have hw:=Ws.bF (L:=[_,_,_,_,_,_]) hw;refine .inr ⟨eD,O,?_,hw⟩;unfold bT bY;rw [show s.pu.ah=(aa.ah s).pu from rfl];simp only [ad,ar,ay,aM,aW,bl,bt,Bool.false_eq_true,if_false,if_true];rw [se]
   rfl
  intro eD ⟨se,Sd⟩;refine Ln (Eu ?_);refine Ue O (λ_ h=>(Wo 1 (Wo 1 (h.f 6 O)):)) ?_ WU.stop;refine V0 (Yd 0 O O O dA) (Ln (Eu ?_));refine Ue O (λ_ h=>(Wo 1 (Wo 1 (h.f 6 O)):)) ?_ WU.stop
  refine bd (ι:=Nat×Nat) (κ:=Unit) [] _ Y O xH O O (λr=>.pointer (some ⟨r.1,r.2+(eD.1).toNat*1,none⟩)) (λ_=>[]) (λr=>cy (eD.1) (s.data.length)=false/\s.da=some ⟨r.1,r.2,none⟩) (λ_=>bS 6) (λ_=>[]) (λ_=>cy (eD.1) (s.data.length)=true) ([]) (by simp) (λw hw=>(xG s.da _ (s.data.length) (eD.1) w vJ).mono λe w' h=>by
      rcases h with ⟨r,h1,h2,h3⟩ | ⟨_,h1,h2,h3⟩
      · exact .inl ⟨r,h1,h2,hw.ext h3⟩
      · exact .inr ⟨(),h1,h2,hw.ext h3⟩) ?_ ?_
  ·intro _ sf;refine Ep (WE.aQ ?_);refine aJ λw' hw=>?_;have hw:=Ws.bF (L:=[_,_,_,_,_,_]) hw;refine .inr ⟨(6,(aa.aI (aa.ah s) eD.2)),O,?_,hw⟩;unfold bT bY;rw [show s.pu.ah=(aa.ah s).pu from rfl];simp only [ad,ar,ay,aM,aW,bl,bt,Bool.false_eq_true,if_false,if_true];rw [se]
   show (if cy eD.1 s.data.length=true then _ else _)=_
   rw [if_pos sf]
  intro Z' ⟨sf,Se⟩;obtain ⟨vK,Ac⟩:∃x,s.data[eD.1.toNat]? = some x:=⟨_,List.getElem?_eq_getElem (tK sf).2⟩;refine Ln (Eu (U0 O (λ_ h=>(Wo 1 (Wo 1 (h.f 6 O)):)) (aO O) (U0 O (λ_ h=>(Wo 1 (Wo 1 (h.f 6 O)):)) (qH (y:=vK) 3 eD.1.toNat 0 O O Se O fl Ac O aq) ?_)));refine WU.nil (λ_ h=>(Wo 1 (Wo 1 (h.f 6 O)):)) ?_;refine WS.e O ?_;refine bd (ι:=Unit×aa) (κ:=Int×aa) [_,_,_,_,_,_] _ Y O qm O O (λr=>.tuple #[]) (λr=>(aa.own bm r.2)) (λr=>dB vK (aa.aI (aa.ah s) eD.2).pu = .ok r.1 r.2.pu/\r.2.bO HI) (λr=>bS r.1) (λr=>(aa.own bm r.2)) (λr=>dB vK (aa.aI (aa.ah s) eD.2).pu = .ov r.1 r.2.pu) ([HI]) (by simp) (λw hw=>ql bm (aa.aI (aa.ah s) eD.2) HI vK w Sd hw) ?_ ?_
  ·intro Ad Ae;refine Ep (WE.aQ ?_);refine aJ λw' hw=>?_;have hw:=Ws.bF (L:=[_,_,_,_,_,_]) hw;refine .inr ⟨Ad,O,?_,hw⟩;unfold bT bY;rw [show s.pu.ah=(aa.ah s).pu from rfl];simp only [ad,ar,ay,aM,aW,bl,bt,Bool.false_eq_true,if_false,if_true];rw [se]
   show (if cy eD.1 s.data.length=true then _ else _)=_
   rw [sf,if_neg (by simp)]
   show dB (s.data[eD.1.toNat]?.getD 0) _=_
   rw [Ac];exact Ae
  intro Ad ⟨Ae,Sf⟩;refine Ln (Es ?_);refine WS.nil ?_;refine Eb ?_;refine E0 O λw' hw=>?_;have hw:=Ws.bF (L:=[_,_,_,_,_,_]) hw;refine .inl ⟨((),Ad.2),O,⟨?_,Sf⟩,hw⟩;unfold bT bY;rw [show s.pu.ah=(aa.ah s).pu from rfl];simp only [ad,ar,ay,aM,aW,bl,bt,Bool.false_eq_true,if_false,if_true];rw [se]
  show (if cy eD.1 s.data.length=true then _ else _)=_
  rw [sf,if_neg (by simp)]
  show dB (s.data[eD.1.toNat]?.getD 0) _=_
  rw [Ac];exact Ae
 refine Cs (Cr (V0 (aG O O) (V0 (Ya O) (Ln (Et ?_)))));refine Cc O (λbQ=>?_) (λbQ=>?_)
 ·refine Cs (Cr (V0 (Ym O) (Lf 6 O (Lf 6 O (Lf 6 O (Lf 6 O (Lf 6 O (Lf 6 O ?_))))))));refine bd (ι:=Int×List Int) (κ:=Int×aa) [_,_,_,_,_,_] _ Y O nj O O (λr=>.int .i64 r.1) (λr=>(aa.own bm (aa.aI (aa.ah s) r.2))) (λr=>bj (aa.ah s).pu = .ok r.1 (aa.aI (aa.ah s) r.2).pu/\(aa.aI (aa.ah s) r.2).bO HI) (λr=>bS r.1) (λr=>(aa.own bm r.2)) (λr=>bj (aa.ah s).pu = .ov r.1 r.2.pu) ([HI]) (by simp) (λw hw=>nh bm (aa.ah s) HI w bK hw) ?_ ?_
  ·intro eP xJ;refine Ep (WE.aQ ?_);refine aJ λw' hw=>?_;have hw:=Ws.bF (L:=[_,_,_,_,_,_]) hw;refine .inr ⟨eP,O,?_,hw⟩;unfold bT bY;rw [show s.pu.ah=(aa.ah s).pu from rfl];simp only [ad,ar,ay,aM,aW,bl,bt,bQ,Bool.false_eq_true,if_false,if_true];rw [xJ]
   rfl
  intro eP ⟨xJ,abJ⟩;refine V0 (Ya O) (Ln (Et ?_));refine WC.fact (p:=0<s.data.length->∃b o,s.da=some ⟨b,o,none⟩) (λw hw hp=>HJ hw 4 O hp) λvJ=>?_;refine CU (λ_=>true) [0,0] [10] (.q false 0 (.q false 1 (.q false 2 (.q false 3 (.q false 5 (.q false 8 (.e 4 (.e 6 (.e 7 (.q false 9 .nil) .stop) .stop) (.e 6 (.e 4 (.e 7 (.q false 9 .nil) .stop) .stop) .stop)))))))) mixed (by kernel_rfl) (λ_ _ _ d _ _ h=>by cases d<;>exact h) ?_;refine U0 O (bk [0,0]) (Ym O) (U0 O (bk [0,0]) (aO O) (U0 O (bk [0,0]) (Yf pc O) (U0 O (bk [0,0]) (Yf xI O) (U0 O (bk [0,0]) (Ym O) (U0 O (bk [0,0]) (Ym O) ?_)))));refine Ue O (bk [0,0]) ?_ ?_
  ·refine V0 (Yd 0 O O O dA) (Ln (Eu ?_));refine Ue O (bk [0,0]) ?_ WU.stop;refine bd (ι:=Int×List Int) (κ:=Int×aa) [_,_,_,_,_,_] _ Y O nj O O (λr=>.int .i64 r.1) (λr=>(aa.own bm (aa.aI (aa.aI (aa.ah s) eP.2) r.2))) (λr=>bj (aa.aI (aa.ah s) eP.2).pu = .ok r.1 (aa.aI (aa.aI (aa.ah s) eP.2) r.2).pu/\(aa.aI (aa.aI (aa.ah s) eP.2) r.2).bO HI) (λr=>bS r.1) (λr=>(aa.own bm r.2)) (λr=>bj (aa.aI (aa.ah s) eP.2).pu = .ov r.1 r.2.pu) ([HI]) (by simp) (λw hw=>nh bm (aa.aI (aa.ah s) eP.2) HI w abJ hw) ?_ ?_
   ·intro eY vL;refine Ep (WE.aQ ?_);refine aJ λw' hw=>?_;have hw:=Ws.bF (L:=[_,_,_,_,_,_]) hw;refine .inr ⟨eY,O,?_,hw⟩;unfold bT bY;rw [show s.pu.ah=(aa.ah s).pu from rfl];simp only [ad,ar,ay,aM,aW,bl,bt,bQ,Bool.false_eq_true,if_false,if_true];rw [xJ]
    show Rz.bind (bj (aa.aI (aa.ah s) eP.2).pu) _=_
    rw [vL]
    rfl
   intro eY ⟨vL,Sg⟩;refine Ln (Eu ?_);refine Ue O (bk [0,0]) ?_ WU.stop
   refine bd (ι:=Nat×Nat) (κ:=Unit) [] _ Y O xH O O (λr=>.pointer (some ⟨r.1,r.2+(eY.1).toNat*1,none⟩)) (λ_=>[]) (λr=>cy (eY.1) (s.data.length)=false/\s.da=some ⟨r.1,r.2,none⟩) (λ_=>bS 6) (λ_=>[]) (λ_=>cy (eY.1) (s.data.length)=true) ([]) (by simp) (λw hw=>(xG s.da _ (s.data.length) (eY.1) w vJ).mono λe w' h=>by
       rcases h with ⟨r,h1,h2,h3⟩ | ⟨_,h1,h2,h3⟩
       · exact .inl ⟨r,h1,h2,hw.ext h3⟩
       · exact .inr ⟨(),h1,h2,hw.ext h3⟩) ?_ ?_
   ·intro _ vM;refine Ep (WE.aQ ?_);refine aJ λw' hw=>?_;have hw:=Ws.bF (L:=[_,_,_,_,_,_]) hw;refine .inr ⟨(6,(aa.aI (aa.aI (aa.ah s) eP.2) eY.2)),O,?_,hw⟩;unfold bT bY;rw [show s.pu.ah=(aa.ah s).pu from rfl];simp only [ad,ar,ay,aM,aW,bl,bt,bQ,Bool.false_eq_true,if_false,if_true];rw [xJ]
    show Rz.bind (bj (aa.aI (aa.ah s) eP.2).pu) _=_
    rw [vL]
    show (if cy eY.1 s.data.length=true then _ else _)=_
    rw [if_pos vM]
   intro aro ⟨vM,Si⟩;obtain ⟨Sj,Sk⟩:∃x,s.data[eY.1.toNat]? = some x:=⟨_,List.getElem?_eq_getElem (tK vM).2⟩;refine Ln (Eu (U0 O (bk [0,0]) (aO O) ?_));refine WU.nil (bk [0,0]) ?_;refine WS.e O ?_;refine WL.storeT (y:=Sj) 4 eY.1.toNat 0 eP.1 Y O O O Si O fl Sk bX O O (by decide) O ?_;refine Ln (Es ?_);refine WS.nil ?_;refine Eb ?_;refine E0 O λw' hw=>?_;have hw:=Ws.bF (L:=[_,_,_,_,_,_]) hw;have hw:=hw.px 0 rfl (congrArg (ab bm) (R3 (aa.aI (aa.aI (aa.ah s) eP.2) eY.2) eY.1.toNat eP.1));refine .inl ⟨((),{ (aa.aI (aa.aI (aa.ah s) eP.2) eY.2) with data:=s.data.set eY.1.toNat eP.1 }),O,⟨?_,⟨bK.bh,Sg.jo,bK.i_,bK.out,by show (s.data.set eY.1.toNat eP.1).length<=512; simp; exact lA⟩⟩,hw⟩;unfold bT bY;rw [show s.pu.ah=(aa.ah s).pu from rfl];simp only [ad,ar,ay,aM,aW,bl,bt,bQ,Bool.false_eq_true,if_false,if_true];rw [xJ]
   show Rz.bind (bj (aa.aI (aa.ah s) eP.2).pu) _=_
   rw [vL]
   show (if cy eY.1 s.data.length=true then _ else _)=_
   rw [vM,if_neg (by simp)]
   rfl
  refine Ue O (bk [0,0]) ?_ WU.stop;refine bd (ι:=Int×List Int) (κ:=Int×aa) [_,_,_,_,_,_] _ Y O nj O O (λr=>.int .i64 r.1) (λr=>(aa.own bm (aa.aI (aa.aI (aa.ah s) eP.2) r.2))) (λr=>bj (aa.aI (aa.ah s) eP.2).pu = .ok r.1 (aa.aI (aa.aI (aa.ah s) eP.2) r.2).pu/\(aa.aI (aa.aI (aa.ah s) eP.2) r.2).bO HI) (λr=>bS r.1) (λr=>(aa.own bm r.2)) (λr=>bj (aa.aI (aa.ah s) eP.2).pu = .ov r.1 r.2.pu) ([HI]) (by simp) (λw hw=>nh bm (aa.aI (aa.ah s) eP.2) HI w abJ hw) ?_ ?_
  ·intro eY vL;refine Ep (WE.aQ ?_);refine aJ λw' hw=>?_;have hw:=Ws.bF (L:=[_,_,_,_,_,_]) hw;refine .inr ⟨eY,O,?_,hw⟩;unfold bT bY;rw [show s.pu.ah=(aa.ah s).pu from rfl];simp only [ad,ar,ay,aM,aW,bl,bt,bQ,Bool.false_eq_true,if_false,if_true];rw [xJ]
   show Rz.bind (bj (aa.aI (aa.ah s) eP.2).pu) _=_
   rw [vL]
   rfl
  intro eY ⟨vL,Sg⟩;refine Ln (Eu ?_);refine Ue O (bk [0,0]) ?_ WU.stop;refine V0 (Yd 0 O O O dA) (Ln (Eu ?_));refine Ue O (bk [0,0]) ?_ WU.stop
  refine bd (ι:=Nat×Nat) (κ:=Unit) [] _ Y O xH O O (λr=>.pointer (some ⟨r.1,r.2+(eY.1).toNat*1,none⟩)) (λ_=>[]) (λr=>cy (eY.1) (s.data.length)=false/\s.da=some ⟨r.1,r.2,none⟩) (λ_=>bS 6) (λ_=>[]) (λ_=>cy (eY.1) (s.data.length)=true) ([]) (by simp) (λw hw=>(xG s.da _ (s.data.length) (eY.1) w vJ).mono λe w' h=>by
      rcases h with ⟨r,h1,h2,h3⟩ | ⟨_,h1,h2,h3⟩
      · exact .inl ⟨r,h1,h2,hw.ext h3⟩
      · exact .inr ⟨(),h1,h2,hw.ext h3⟩) ?_ ?_
  ·intro _ vM;refine Ep (WE.aQ ?_);refine aJ λw' hw=>?_;have hw:=Ws.bF (L:=[_,_,_,_,_,_]) hw;refine .inr ⟨(6,(aa.aI (aa.aI (aa.ah s) eP.2) eY.2)),O,?_,hw⟩;unfold bT bY;rw [show s.pu.ah=(aa.ah s).pu from rfl];simp only [ad,ar,ay,aM,aW,bl,bt,bQ,Bool.false_eq_true,if_false,if_true];rw [xJ]
   show Rz.bind (bj (aa.aI (aa.ah s) eP.2).pu) _=_
   rw [vL]
   show (if cy eY.1 s.data.length=true then _ else _)=_
   rw [if_pos vM]
  intro aro ⟨vM,Si⟩;obtain ⟨Sj,Sk⟩:∃x,s.data[eY.1.toNat]? = some x:=⟨_,List.getElem?_eq_getElem (tK vM).2⟩;refine Ln (Eu (U0 O (bk [0,0]) (aO O) ?_));refine WU.nil (bk [0,0]) ?_;refine WS.e O ?_;refine WL.storeT (y:=Sj) 4 eY.1.toNat 0 eP.1 Y O O O Si O fl Sk bX O O (by decide) O ?_;refine Ln (Es ?_);refine WS.nil ?_;refine Eb ?_;refine E0 O λw' hw=>?_;have hw:=Ws.bF (L:=[_,_,_,_,_,_]) hw;have hw:=hw.px 0 rfl (congrArg (ab bm) (R3 (aa.aI (aa.aI (aa.ah s) eP.2) eY.2) eY.1.toNat eP.1));refine .inl ⟨((),{ (aa.aI (aa.aI (aa.ah s) eP.2) eY.2) with data:=s.data.set eY.1.toNat eP.1 }),O,⟨?_,⟨bK.bh,Sg.jo,bK.i_,bK.out,by show (s.data.set eY.1.toNat eP.1).length<=512; simp; exact lA⟩⟩,hw⟩;unfold bT bY;rw [show s.pu.ah=(aa.ah s).pu from rfl];simp only [ad,ar,ay,aM,aW,bl,bt,bQ,Bool.false_eq_true,if_false,if_true];rw [xJ]
  show Rz.bind (bj (aa.aI (aa.ah s) eP.2).pu) _=_
  rw [vL]
  show (if cy eY.1 s.data.length=true then _ else _)=_
  rw [vM,if_neg (by simp)]
  rfl
 refine Cs (Cr (V0 (aG O O) (V0 (Ya O) (Ln (Et ?_)))));refine Cc O (λcL=>?_) (λcL=>?_)
 ·refine Cr (V0 (Ym O) (V0 (Ym O) (Lf 6 O (Lf 6 O (Lf 6 O (Lf 6 O (Lf 6 O ?_)))))));refine Lf 6 O ?_;refine bd (ι:=Int×List Int) (κ:=Int×aa) [_,_,_,_,_,_] _ Y O nj O O (λr=>.int .i64 r.1) (λr=>(aa.own bm (aa.aI (aa.ah s) r.2))) (λr=>bj (aa.ah s).pu = .ok r.1 (aa.aI (aa.ah s) r.2).pu/\(aa.aI (aa.ah s) r.2).bO HI) (λr=>bS r.1) (λr=>(aa.own bm r.2)) (λr=>bj (aa.ah s).pu = .ov r.1 r.2.pu) ([HI]) (by simp) (λw hw=>nh bm (aa.ah s) HI w bK hw) ?_ ?_
  ·intro xK LP;refine WE.aQ ?_;refine aJ λw' hw=>?_;have hw:=Ws.bF (L:=[_,_,_,_,_,_]) hw;refine .inr ⟨xK,O,?_,hw⟩;unfold bT bY;rw [show s.pu.ah=(aa.ah s).pu from rfl];simp only [ad,ar,ay,aM,aW,bl,bt,bQ,cL,Bool.false_eq_true,if_false,if_true];rw [LP]
   rfl
  intro xK ⟨LP,arp⟩;refine V0 (aG O O) (Lp Y O LC O (λw hw=>LD _ w) ?_);refine bd (ι:=Unit×aa) (κ:=Int×aa) [_,_,_,_,_,_] _ Y O qm O O (λr=>.tuple #[]) (λr=>(aa.own bm r.2)) (λr=>dB (o7 (xK.1==0)) (aa.aI (aa.ah s) xK.2).pu = .ok r.1 r.2.pu/\r.2.bO HI) (λr=>bS r.1) (λr=>(aa.own bm r.2)) (λr=>dB (o7 (xK.1==0)) (aa.aI (aa.ah s) xK.2).pu = .ov r.1 r.2.pu) ([HI]) (by simp) (λw hw=>ql bm (aa.aI (aa.ah s) xK.2) HI (o7 (xK.1==0)) w arp hw) ?_ ?_
  ·intro Sn So;refine WE.aQ ?_;refine aJ λw' hw=>?_;have hw:=Ws.bF (L:=[_,_,_,_,_,_]) hw;refine .inr ⟨Sn,O,?_,hw⟩;unfold bT bY;rw [show s.pu.ah=(aa.ah s).pu from rfl];simp only [ad,ar,ay,aM,aW,bl,bt,bQ,cL,Bool.false_eq_true,if_false,if_true];rw [LP];exact So
  intro Sn ⟨So,arq⟩;refine Ln (Eb ?_);refine E0 O λw' hw=>?_;have hw:=Ws.bF (L:=[_,_,_,_,_,_]) hw;refine .inl ⟨((),Sn.2),O,⟨?_,arq⟩,hw⟩;unfold bT bY;rw [show s.pu.ah=(aa.ah s).pu from rfl];simp only [ad,ar,ay,aM,aW,bl,bt,bQ,cL,Bool.false_eq_true,if_false,if_true];rw [LP];exact So
 refine Cs (Cr (V0 (aG O O) (V0 (Ya O) (Ln (Et ?_)))));refine Cc O (λdk=>?_) (λdk=>?_)
 ·refine Cr (V0 (Ym O) (V0 (Ym O) (Lf 6 O (Lf 6 O (Lf 6 O (Lf 6 O (Lf 6 O ?_)))))));refine Lf 6 O ?_;refine bd (ι:=Int×List Int) (κ:=Int×aa) [_,_,_,_,_,_] _ Y O nj O O (λr=>.int .i64 r.1) (λr=>(aa.own bm (aa.aI (aa.ah s) r.2))) (λr=>bj (aa.ah s).pu = .ok r.1 (aa.aI (aa.ah s) r.2).pu/\(aa.aI (aa.ah s) r.2).bO HI) (λr=>bS r.1) (λr=>(aa.own bm r.2)) (λr=>bj (aa.ah s).pu = .ov r.1 r.2.pu) ([HI]) (by simp) (λw hw=>nh bm (aa.ah s) HI w bK hw) ?_ ?_
  ·intro xL LQ;refine WE.aQ ?_;refine aJ λw' hw=>?_;have hw:=Ws.bF (L:=[_,_,_,_,_,_]) hw;refine .inr ⟨xL,O,?_,hw⟩;unfold bT bY;rw [show s.pu.ah=(aa.ah s).pu from rfl];simp only [ad,ar,ay,aM,aW,bl,bt,bQ,cL,dk,Bool.false_eq_true,if_false,if_true];rw [LQ]
   rfl
  intro xL ⟨LQ,ars⟩;refine V0 (jq O O) (Lp Y O LC O (λw hw=>LD _ w) ?_);refine bd (ι:=Unit×aa) (κ:=Int×aa) [_,_,_,_,_,_] _ Y O qm O O (λr=>.tuple #[]) (λr=>(aa.own bm r.2)) (λr=>dB (o7 (xL.1 != 0)) (aa.aI (aa.ah s) xL.2).pu = .ok r.1 r.2.pu/\r.2.bO HI) (λr=>bS r.1) (λr=>(aa.own bm r.2)) (λr=>dB (o7 (xL.1 != 0)) (aa.aI (aa.ah s) xL.2).pu = .ov r.1 r.2.pu) ([HI]) (by simp) (λw hw=>ql bm (aa.aI (aa.ah s) xL.2) HI (o7 (xL.1 != 0)) w ars hw) ?_ ?_
  ·intro Sp Sq;refine WE.aQ ?_;refine aJ λw' hw=>?_;have hw:=Ws.bF (L:=[_,_,_,_,_,_]) hw;refine .inr ⟨Sp,O,?_,hw⟩;unfold bT bY;rw [show s.pu.ah=(aa.ah s).pu from rfl];simp only [ad,ar,ay,aM,aW,bl,bt,bQ,cL,dk,Bool.false_eq_true,if_false,if_true];rw [LQ];exact Sq
  intro Sp ⟨Sq,art⟩;refine Ln (Eb ?_);refine E0 O λw' hw=>?_;have hw:=Ws.bF (L:=[_,_,_,_,_,_]) hw;refine .inl ⟨((),Sp.2),O,⟨?_,art⟩,hw⟩;unfold bT bY;rw [show s.pu.ah=(aa.ah s).pu from rfl];simp only [ad,ar,ay,aM,aW,bl,bt,bQ,cL,dk,Bool.false_eq_true,if_false,if_true];rw [LQ];exact Sq
 refine Cs (Cr (V0 (aG O O) (V0 (Ya O) (Ln (Et ?_)))));refine Cc O (λe8=>?_) (λe8=>?_)
 ·refine Cr (V0 (Ym O) (V0 (Yf l9 O) (V0 (Yd 0 O O O aq) (Lf 6 O (Lf 6 O (Lf 6 O (Lf 6 O ?_)))))));refine Lf 6 O (Lf 6 O ?_);refine bd (ι:=Unit×aa) (κ:=Int×aa) [_,_,_,_,_,_] _ Y O aq2 O O (λr=>.tuple #[]) (λr=>(aa.own bm r.2)) (λr=>lG i.a (aa.ah s).pu = .ok r.1 r.2.pu/\r.2.bO HI) (λr=>bS r.1) (λr=>(aa.own bm r.2)) (λr=>lG i.a (aa.ah s).pu = .ov r.1 r.2.pu) ([HI]) (by simp) (λw hw=>aqP bm (aa.ah s) HI i.a w bK hw) ?_ ?_
  ·intro Sr Ss;refine WE.aQ ?_;refine aJ λw' hw=>?_;have hw:=Ws.bF (L:=[_,_,_,_,_,_]) hw;refine .inr ⟨Sr,O,?_,hw⟩;unfold bT bY;rw [show s.pu.ah=(aa.ah s).pu from rfl];simp only [ad,ar,ay,aM,aW,bl,bt,bQ,cL,dk,e8,Bool.false_eq_true,if_false,if_true];exact Ss
  intro Sr ⟨Ss,aru⟩;refine Ln (Eb ?_);refine E0 O λw' hw=>?_;have hw:=Ws.bF (L:=[_,_,_,_,_,_]) hw;refine .inl ⟨((),Sr.2),O,⟨?_,aru⟩,hw⟩;unfold bT bY;rw [show s.pu.ah=(aa.ah s).pu from rfl];simp only [ad,ar,ay,aM,aW,bl,bt,bQ,cL,dk,e8,Bool.false_eq_true,if_false,if_true];exact Ss
 refine Cs (Cr (V0 (aG O O) (V0 (Ya O) (Ln (Et ?_)))));refine Cc O (λgF=>?_) (λgF=>?_)
 ·refine Cr (V0 (Ym O) (V0 (Yf l9 O) (V0 (Yd 0 O O O aq) (V0 (aO O) (V0 (Yf r_ O) (an 1 Y O O O bX O O O (Ln (Eb ?_))))))));refine E0 O λw' hw=>?_;have hw:=hw.ao 6 rfl;have hw:=hw.ao 6 rfl;have hw:=hw.ao 6 rfl;have hw:=hw.ao 6 rfl;have hw:=hw.ao 6 rfl;have hw:=hw.ao 6 rfl;have hw:=Ws.bF (L:=[_,_,_,_,_,_]) hw;refine .inl ⟨((),{ (aa.ah s) with at_:=i.a }),O,⟨?_,bK.at i.a⟩,hw⟩;unfold bT bY;rw [show s.pu.ah=(aa.ah s).pu from rfl];simp only [ad,ar,ay,aM,aW,bl,bt,bQ,cL,dk,e8,gF,Bool.false_eq_true,if_false,if_true]
  all_goals rfl
 refine Cs (Cr (V0 (aG O O) (V0 (Ya O) (Ln (Et ?_)))));refine Cc O (λgU=>?_) (λgU=>?_)
 ·refine Cs (Cr (V0 (Ym O) (Lf 6 O (Lf 6 O (Lf 6 O (Lf 6 O (Lf 6 O (Lf 6 O ?_))))))));refine bd (ι:=Int×List Int) (κ:=Int×aa) [_,_,_,_,_,_] _ Y O nj O O (λr=>.int .i64 r.1) (λr=>(aa.own bm (aa.aI (aa.ah s) r.2))) (λr=>bj (aa.ah s).pu = .ok r.1 (aa.aI (aa.ah s) r.2).pu/\(aa.aI (aa.ah s) r.2).bO HI) (λr=>bS r.1) (λr=>(aa.own bm r.2)) (λr=>bj (aa.ah s).pu = .ov r.1 r.2.pu) ([HI]) (by simp) (λw hw=>nh bm (aa.ah s) HI w bK hw) ?_ ?_
  ·intro CD LR;refine Ep (WE.aQ ?_);refine aJ λw' hw=>?_;have hw:=Ws.bF (L:=[_,_,_,_,_,_]) hw;refine .inr ⟨CD,O,?_,hw⟩;unfold bT bY;rw [show s.pu.ah=(aa.ah s).pu from rfl];simp only [ad,ar,ay,aM,aW,bl,bt,bQ,cL,dk,e8,gF,gU,Bool.false_eq_true,if_false,if_true];rw [LR]
   rfl
  intro CD ⟨LR,abK⟩;refine V0 (aG O O) (Ln (Et ?_));refine Cc O (λzJ=>?_) (λzJ=>?_)
  ·refine Cr (V0 (Ym O) (V0 (Yf l9 O) (V0 (Yd 6 O O O aq) (V0 (aO O) (V0 (Yf r_ O) (an 0 Y O O O bX O O O (Ln (Eb ?_))))))));refine E0 O λw' hw=>?_;have hw:=Ws.bF (L:=[_,_,_,_,_,_]) hw;refine .inl ⟨((),{ (aa.aI (aa.ah s) CD.2) with at_:=i.a }),O,⟨?_,abK.at _⟩,hw⟩;unfold bT bY;rw [show s.pu.ah=(aa.ah s).pu from rfl];simp only [ad,ar,ay,aM,aW,bl,bt,bQ,cL,dk,e8,gF,gU,Bool.false_eq_true,if_false,if_true];rw [LR]
   show (if (CD.1==0)=true then _ else _)=_
   rw [zJ]
   rfl
  refine Ck (Eb ?_);refine E0 O λw' hw=>?_;have hw:=Ws.bF (L:=[_,_,_,_,_,_]) hw;refine .inl ⟨((),(aa.aI (aa.ah s) CD.2)),O,⟨?_,abK⟩,hw⟩;unfold bT bY;rw [show s.pu.ah=(aa.ah s).pu from rfl];simp only [ad,ar,ay,aM,aW,bl,bt,bQ,cL,dk,e8,gF,gU,Bool.false_eq_true,if_false,if_true];rw [LR]
  show (if (CD.1==0)=true then _ else _)=_
  rw [zJ]
  rfl
 refine Cs (Cr (V0 (aG O O) (V0 (Ya O) (Ln (Et ?_)))));refine Cc O (λiW=>?_) (λiW=>?_)
 ·refine Cr (V0 (Ym O) (V0 (Yf l9 O) (V0 (Yd 0 O O O aq) (Lf 6 O (Lf 6 O (Lf 6 O (Lf 6 O ?_)))))));refine Lf 6 O (Lf 6 O ?_);refine bd (ι:=Unit×aa) (κ:=Int×aa) [_,_,_,_,_,_] _ Y O aq3 O O (λr=>.tuple #[]) (λr=>(aa.own bm r.2)) (λr=>tH i.a (aa.ah s).pu = .ok r.1 r.2.pu/\r.2.bO HI) (λr=>bS r.1) (λr=>(aa.own bm r.2)) (λr=>tH i.a (aa.ah s).pu = .ov r.1 r.2.pu) ([HI]) (by simp) (λw hw=>aqW bm (aa.ah s) HI i.a w bK hw) ?_ ?_
  ·intro St Su;refine WE.aQ ?_;refine aJ λw' hw=>?_;have hw:=Ws.bF (L:=[_,_,_,_,_,_]) hw;refine .inr ⟨St,O,?_,hw⟩;unfold bT bY;rw [show s.pu.ah=(aa.ah s).pu from rfl];simp only [ad,ar,ay,aM,aW,bl,bt,bQ,cL,dk,e8,gF,gU,iW,Bool.false_eq_true,if_false,if_true];exact Su
  intro St ⟨Su,arv⟩;refine Ln (Eb ?_);refine E0 O λw' hw=>?_;have hw:=Ws.bF (L:=[_,_,_,_,_,_]) hw;refine .inl ⟨((),St.2),O,⟨?_,arv⟩,hw⟩;unfold bT bY;rw [show s.pu.ah=(aa.ah s).pu from rfl];simp only [ad,ar,ay,aM,aW,bl,bt,bQ,cL,dk,e8,gF,gU,iW,Bool.false_eq_true,if_false,if_true];exact Su
 refine Cs (Cr (V0 (aG O O) (V0 (Ya O) (Ln (Et ?_)))));refine Cc O (λjK=>?_) (λjK=>?_)
 ·refine Cr (V0 (Ym O) (V0 (Yf l9 O) (V0 (Yd 0 O O O aq) (V0 (Yf Rl O) (V0 (Yd 0 O O O aq) (Lf 6 O (Lf 6 O ?_)))))));refine Lf 6 O (Lf 6 O (Lf 6 O (Lf 6 O ?_)));refine bd (ι:=Unit×aa) (κ:=Int×aa) [_,_,_,_,_,_] _ Y O aq4 O O (λr=>.tuple #[]) (λr=>(aa.own bm r.2)) (λr=>r3 i.a i.b (aa.ah s).pu = .ok r.1 r.2.pu/\r.2.bO HI) (λr=>bS r.1) (λr=>(aa.own bm r.2)) (λr=>r3 i.a i.b (aa.ah s).pu = .ov r.1 r.2.pu) ([HI]) (by simp) (λw hw=>aqZ bm (aa.ah s) HI i.a i.b w bK hw) ?_ ?_
  ·intro Sv Sw;refine WE.aQ ?_;refine aJ λw' hw=>?_;have hw:=Ws.bF (L:=[_,_,_,_,_,_]) hw;refine .inr ⟨Sv,O,?_,hw⟩;unfold bT bY;rw [show s.pu.ah=(aa.ah s).pu from rfl];simp only [ad,ar,ay,aM,aW,bl,bt,bQ,cL,dk,e8,gF,gU,iW,jK,Bool.false_eq_true,if_false,if_true];exact Sw
  intro Sv ⟨Sw,arw⟩;refine Ln (Eb ?_);refine E0 O λw' hw=>?_;have hw:=Ws.bF (L:=[_,_,_,_,_,_]) hw;refine .inl ⟨((),Sv.2),O,⟨?_,arw⟩,hw⟩;unfold bT bY;rw [show s.pu.ah=(aa.ah s).pu from rfl];simp only [ad,ar,ay,aM,aW,bl,bt,bQ,cL,dk,e8,gF,gU,iW,jK,Bool.false_eq_true,if_false,if_true];exact Sw
 refine Cs (Cr (V0 (aG O O) (V0 (Ya O) (Ln (Et ?_)))));refine Cc O (λoe=>?_) (λoe=>?_)
 ·refine Cr (V0 (Ym O) (Lf 6 O (Lf 6 O (Lf 6 O (Lf 6 O (Lf 6 O (Lf 6 O ?_)))))));refine bd (ι:=Unit×aa) (κ:=Int×aa) [_,_,_,_,_,_] _ Y O aq5 O O (λr=>.tuple #[]) (λr=>(aa.own bm r.2)) (λr=>vE (aa.ah s).pu = .ok r.1 r.2.pu/\r.2.bO HI) (λr=>bS r.1) (λr=>(aa.own bm r.2)) (λr=>vE (aa.ah s).pu = .ov r.1 r.2.pu) ([HI]) (by simp) (λw hw=>aqV bm (aa.ah s) HI  w bK hw) ?_ ?_
  ·intro Sx Sy;refine WE.aQ ?_;refine aJ λw' hw=>?_;have hw:=Ws.bF (L:=[_,_,_,_,_,_]) hw;refine .inr ⟨Sx,O,?_,hw⟩;unfold bT bY;rw [show s.pu.ah=(aa.ah s).pu from rfl];simp only [ad,ar,ay,aM,aW,bl,bt,bQ,cL,dk,e8,gF,gU,iW,jK,oe,Bool.false_eq_true,if_false,if_true];exact Sy
  intro Sx ⟨Sy,arx⟩;refine Ln (Eb ?_);refine E0 O λw' hw=>?_;have hw:=Ws.bF (L:=[_,_,_,_,_,_]) hw;refine .inl ⟨((),Sx.2),O,⟨?_,arx⟩,hw⟩;unfold bT bY;rw [show s.pu.ah=(aa.ah s).pu from rfl];simp only [ad,ar,ay,aM,aW,bl,bt,bQ,cL,dk,e8,gF,gU,iW,jK,oe,Bool.false_eq_true,if_false,if_true];exact Sy
 refine Cs (Cr (V0 (aG O O) (V0 (Ya O) (Ln (Et ?_)))));refine Cc O (λqn=>?_) (λqn=>?_)
 ·refine Cr (V0 (Ym O) (Lf 6 O (Lf 6 O (Lf 6 O (Lf 6 O (Lf 6 O (Lf 6 O ?_)))))));refine bd (ι:=Unit×aa) (κ:=Int×aa) [_,_,_,_,_,_] _ Y O abB O O (λr=>.tuple #[]) (λr=>(aa.own bm r.2)) (λr=>qh (aa.ah s).pu = .ok r.1 r.2.pu/\r.2.bO HI) (λr=>bS r.1) (λr=>(aa.own bm r.2)) (λr=>qh (aa.ah s).pu = .ov r.1 r.2.pu) ([HI]) (by simp) (λw hw=>abz bm (aa.ah s) HI  w bK hw) ?_ ?_
  ·intro Sz SA;refine WE.aQ ?_;refine aJ λw' hw=>?_;have hw:=Ws.bF (L:=[_,_,_,_,_,_]) hw;refine .inr ⟨Sz,O,?_,hw⟩;unfold bT bY;rw [show s.pu.ah=(aa.ah s).pu from rfl];simp only [ad,ar,ay,aM,aW,bl,bt,bQ,cL,dk,e8,gF,gU,iW,jK,oe,qn,Bool.false_eq_true,if_false,if_true];exact SA
  intro Sz ⟨SA,ary⟩;refine Ln (Eb ?_);refine E0 O λw' hw=>?_;have hw:=Ws.bF (L:=[_,_,_,_,_,_]) hw;refine .inl ⟨((),Sz.2),O,⟨?_,ary⟩,hw⟩;unfold bT bY;rw [show s.pu.ah=(aa.ah s).pu from rfl];simp only [ad,ar,ay,aM,aW,bl,bt,bQ,cL,dk,e8,gF,gU,iW,jK,oe,qn,Bool.false_eq_true,if_false,if_true];exact SA
 refine Cs (Cr (V0 (aG O O) (V0 (Ya O) (Ln (Et ?_)))));refine Cc O (λrZ=>?_) (λrZ=>?_)
 ·refine Cr (V0 (Ym O) (Lf 6 O (Lf 6 O (Lf 6 O (Lf 6 O (Lf 6 O (Lf 6 O ?_)))))));refine bd (ι:=Int×List Int) (κ:=Int×aa) [_,_,_,_,_,_] _ Y O nj O O (λr=>.int .i64 r.1) (λr=>(aa.own bm (aa.aI (aa.ah s) r.2))) (λr=>bj (aa.ah s).pu = .ok r.1 (aa.aI (aa.ah s) r.2).pu/\(aa.aI (aa.ah s) r.2).bO HI) (λr=>bS r.1) (λr=>(aa.own bm r.2)) (λr=>bj (aa.ah s).pu = .ov r.1 r.2.pu) ([HI]) (by simp) (λw hw=>nh bm (aa.ah s) HI w bK hw) ?_ ?_
  ·intro SB SC;refine WE.aQ ?_;refine aJ λw' hw=>?_;have hw:=Ws.bF (L:=[_,_,_,_,_,_]) hw;refine .inr ⟨SB,O,?_,hw⟩;unfold bT bY;rw [show s.pu.ah=(aa.ah s).pu from rfl];simp only [ad,ar,ay,aM,aW,bl,bt,bQ,cL,dk,e8,gF,gU,iW,jK,oe,qn,rZ,Bool.false_eq_true,if_false,if_true];rw [SC]
   rfl
  intro SB ⟨SC,arz⟩;refine Ln (Eb ?_);refine E0 O λw' hw=>?_;have hw:=Ws.bF (L:=[_,_,_,_,_,_]) hw;refine .inl ⟨((),(aa.aI (aa.ah s) SB.2)),O,⟨?_,arz⟩,hw⟩;unfold bT bY;rw [show s.pu.ah=(aa.ah s).pu from rfl];simp only [ad,ar,ay,aM,aW,bl,bt,bQ,cL,dk,e8,gF,gU,iW,jK,oe,qn,rZ,Bool.false_eq_true,if_false,if_true];rw [SC]
  rfl
 refine Cs (Cr (V0 (aG O O) (V0 (Ya O) (Ln (Et ?_)))));refine Cc O (λxM=>?_) (λxM=>?_)
 ·refine Cr (V0 (Ym O) (V0 (Ym O) (Lf 6 O (Lf 6 O (Lf 6 O (Lf 6 O (Lf 6 O ?_)))))));refine Lf 6 O ?_;refine bd (ι:=Int×aa) (κ:=Int×aa) [_,_,_,_,_,_] _ Y O aq6 O O (λr=>.int .i64 r.1) (λr=>(aa.own bm r.2)) (λr=>Rz.ok (n_ (aa.ah s).pu).1 (n_ (aa.ah s).pu).2 = .ok r.1 r.2.pu/\r.2.bO HI) (λr=>bS r.1) (λr=>(aa.own bm r.2)) (λr=>Rz.ok (n_ (aa.ah s).pu).1 (n_ (aa.ah s).pu).2 = .ov r.1 r.2.pu) ([HI]) (by simp) (λw hw=>aqQ bm (aa.ah s) HI  w bK hw) ?_ ?_
  ·intro Af LS;refine WE.aQ ?_;refine aJ λw' hw=>?_;cases LS
  intro Af ⟨LS,arA⟩;refine bd (ι:=Unit×aa) (κ:=Int×aa) [_,_,_,_,_,_] _ Y O qm O O (λr=>.tuple #[]) (λr=>(aa.own bm r.2)) (λr=>dB Af.1 Af.2.pu = .ok r.1 r.2.pu/\r.2.bO HI) (λr=>bS r.1) (λr=>(aa.own bm r.2)) (λr=>dB Af.1 Af.2.pu = .ov r.1 r.2.pu) ([HI]) (by simp) (λw hw=>ql bm Af.2 HI Af.1 w arA hw) ?_ ?_
  ·intro SD SE;refine WE.aQ ?_;refine aJ λw' hw=>?_;have hw:=Ws.bF (L:=[_,_,_,_,_,_]) hw;refine .inr ⟨SD,O,?_,hw⟩;unfold bT bY;rw [show s.pu.ah=(aa.ah s).pu from rfl];simp only [ad,ar,ay,aM,aW,bl,bt,bQ,cL,dk,e8,gF,gU,iW,jK,oe,qn,rZ,xM,Bool.false_eq_true,if_false,if_true]
   injection LS with e1 e2
   rw [e1,e2];exact SE
  intro SD ⟨SE,arB⟩;refine Ln (Eb ?_);refine E0 O λw' hw=>?_;have hw:=Ws.bF (L:=[_,_,_,_,_,_]) hw;refine .inl ⟨((),SD.2),O,⟨?_,arB⟩,hw⟩;unfold bT bY;rw [show s.pu.ah=(aa.ah s).pu from rfl];simp only [ad,ar,ay,aM,aW,bl,bt,bQ,cL,dk,e8,gF,gU,iW,jK,oe,qn,rZ,xM,Bool.false_eq_true,if_false,if_true]
  injection LS with e1 e2
  rw [e1,e2];exact SE
 refine Cs (Cr (V0 (aG O O) (V0 (Ya O) (Ln (Et ?_)))));refine Cc O (λCF=>?_) (λCF=>?_)
 ·refine Cs (Cr (V0 (Ym O) (Lf 6 O (Lf 6 O (Lf 6 O (Lf 6 O (Lf 6 O (Lf 6 O ?_))))))));refine bd (ι:=Int×List Int) (κ:=Int×aa) [_,_,_,_,_,_] _ Y O nj O O (λr=>.int .i64 r.1) (λr=>(aa.own bm (aa.aI (aa.ah s) r.2))) (λr=>bj (aa.ah s).pu = .ok r.1 (aa.aI (aa.ah s) r.2).pu/\(aa.aI (aa.ah s) r.2).bO HI) (λr=>bS r.1) (λr=>(aa.own bm r.2)) (λr=>bj (aa.ah s).pu = .ov r.1 r.2.pu) ([HI]) (by simp) (λw hw=>nh bm (aa.ah s) HI w bK hw) ?_ ?_
  ·intro Ah LU;refine Ep (WE.aQ ?_);refine aJ λw' hw=>?_;have hw:=Ws.bF (L:=[_,_,_,_,_,_]) hw;refine .inr ⟨Ah,O,?_,hw⟩;unfold bT bY;rw [show s.pu.ah=(aa.ah s).pu from rfl];simp only [ad,ar,ay,aM,aW,bl,bt,bQ,cL,dk,e8,gF,gU,iW,jK,oe,qn,rZ,xM,CF,Bool.false_eq_true,if_false,if_true];rw [LU]
   rfl
  intro Ah ⟨LU,arC⟩;refine V0 (Ya O) (Ln (Et (Cs (Cr (V0 (Ym O) (V0 (aO O) (V0 (Yf pc O) (V0 (Yf CB O) (V0 (Yd 0 O O O dA) (V0 (Yn dK O) ?_))))))))));refine V0 (aG O O) ?_
  refine bd (ι:=Unit) (κ:=Unit) [] _ Y O ng O O (λ_=>.tuple #[]) (λ_=>[]) (λ_=>(((s.out.length:Nat):Int)==200)=false) (λ_=>bS 5) (λ_=>[]) (λ_=>(((s.out.length:Nat):Int)==200)=true) ([]) (by simp) (λw hw=>(nf _ 5 w).mono λe w' h=>by
      rcases h with ⟨_,h1,h2,h3⟩ | ⟨_,h1,h2,h3⟩
      · exact .inl ⟨(),h1,h2,hw.ext h3⟩
      · exact .inr ⟨(),h1,h2,hw.ext h3⟩) ?_ ?_
  ·intro _ SG;refine Ep (WE.aQ ?_);refine aJ λw' hw=>?_;have hw:=Ws.bF (L:=[_,_,_,_,_,_]) hw;refine .inr ⟨(5,(aa.aI (aa.ah s) Ah.2)),O,?_,hw⟩;unfold bT bY;rw [show s.pu.ah=(aa.ah s).pu from rfl];simp only [ad,ar,ay,aM,aW,bl,bt,bQ,cL,dk,e8,gF,gU,iW,jK,oe,qn,rZ,xM,CF,Bool.false_eq_true,if_false,if_true];rw [LU]
   show (if s.out.length=200 then _ else _)=_
   rw [if_pos (by simp at SG; omega)]
  intro _ SG;refine Ln (Et ?_)
  have gK:¬s.out.length=200:=by simp at SG; omega
  refine Cr (V0 (Ym O) (V0 (Ym O) (V0 (aO O) (V0 (Yf pc O) (V0 (Yf CB O) (V0 (Yd 0 O O O dA) (V0 (Ym O) ?_)))))));refine Lb Y O gG O O O O λawk=>?_;refine LA (xs:=s.out) Ah.1 4 0 Y O gG O O O O O O (by omega) (by omega) λa218 c218=>?_;refine V0 (aO O) (V0 (Yf pc O) (V0 (Yf CB O) (an 1 Y O O O lC O O O (Ln (Eb ?_)))));refine E0 O λw' hw=>?_;have hw:=hw.ao 6 rfl;have hw:=hw.ao 6 rfl;have hw:=hw.ao 6 rfl;have hw:=hw.ao 6 rfl;have hw:=hw.ao 6 rfl;have hw:=hw.ao 6 rfl;have hw:=Ws.bF (L:=[_,_,_,_,_,_]) hw;refine .inl ⟨((),{ (aa.aI (aa.ah s) Ah.2) with out:=s.out++[Ah.1],oa:=a218,oc:=c218 }),O,⟨?_,⟨bK.bh,arC.jo,bK.i_,by show (s.out++[Ah.1]).length<=200; simp; omega,bK.ix⟩⟩,hw⟩;unfold bT bY;rw [show s.pu.ah=(aa.ah s).pu from rfl];simp only [ad,ar,ay,aM,aW,bl,bt,bQ,cL,dk,e8,gF,gU,iW,jK,oe,qn,rZ,xM,CF,Bool.false_eq_true,if_false,if_true];rw [LU]
  show (if s.out.length=200 then _ else _)=_
  rw [if_neg gK]
  rfl
 refine Cs (Cr (V0 (aG O O) (V0 (Ya O) (Ln (Et ?_)))));refine Cc O (λSH=>?_) (λSH=>?_)
 ·refine Cr ?_
  refine bd (ι:=Unit) (κ:=Unit) [] _ Y O ng O O (λ_=>.tuple #[]) (λ_=>[]) (λ_=>(true)=false) (λ_=>bS 0) (λ_=>[]) (λ_=>(true)=true) ([]) (by simp) (λw hw=>(nf _ 0 w).mono λe w' h=>by
      rcases h with ⟨_,h1,h2,h3⟩ | ⟨_,h1,h2,h3⟩
      · exact .inl ⟨(),h1,h2,hw.ext h3⟩
      · exact .inr ⟨(),h1,h2,hw.ext h3⟩) ?_ ?_
  ·intro _ abL;refine WE.aQ ?_;refine aJ λw' hw=>?_;have hw:=hw.ao 6 rfl;have hw:=hw.ao 6 rfl;have hw:=hw.ao 6 rfl;have hw:=hw.ao 6 rfl;have hw:=hw.ao 6 rfl;have hw:=hw.ao 6 rfl;have hw:=Ws.bF (L:=[_,_,_,_,_,_]) hw;refine .inr ⟨(0,(aa.ah s)),O,?_,hw⟩;unfold bT bY;rw [show s.pu.ah=(aa.ah s).pu from rfl];simp only [ad,ar,ay,aM,aW,bl,bt,bQ,cL,dk,e8,gF,gU,iW,jK,oe,qn,rZ,xM,CF,SH,Bool.false_eq_true,if_false,if_true]
   all_goals rfl
  intro _ abL;refine Ln (Eb ?_);refine E0 O λw' hw=>?_;cases abL
 refine Ck (Eb ?_);refine E0 O λw' hw=>?_;have hw:=hw.ao 6 rfl;have hw:=hw.ao 6 rfl;have hw:=hw.ao 6 rfl;have hw:=hw.ao 6 rfl;have hw:=hw.ao 6 rfl;have hw:=hw.ao 6 rfl;have hw:=Ws.bF (L:=[_,_,_,_,_,_]) hw;refine .inl ⟨((),(aa.ah s)),O,⟨?_,bK⟩,hw⟩;unfold bT bY;rw [show s.pu.ah=(aa.ah s).pu from rfl];simp only [ad,ar,ay,aM,aW,bl,bt,bQ,cL,dk,e8,gF,gU,iW,jK,oe,qn,rZ,xM,CF,SH,Bool.false_eq_true,if_false,if_true]
 all_goals rfl
end Go.Proofs.YtplfmnkmlaolpaaGreatDoor.Mch
end
section
namespace Go.Proofs.YtplfmnkmlaolpaaGreatDoor.Mch
open Go.Bw
theorem arD {P:Program} {l:List (Nat×Value)} {W:World->Prop} {d:Option Tmp} {ty:TypeId} {pos:String} {af:Array Edge} {g:Option (Nat×Bool)} {x:Operand} {t u:TypeId} {v:Value} (h:∀(w:World) (v:Value),(Instr.typeAssert (.iface t v) u t true).run P w = .ok (.tuple #[v,.bool true]) w) (hx:aB l x=some (.iface t v)) :
   Yl P l W ⟨d,.typeAssert x u t true,ty,pos,af,g⟩ (.tuple #[v,.bool true]):=λρ w aF _=>by
 simp only [execOp,aF x _ hx,Sem.run_bind,h w v,Result.andThen_ok,Sem.run_pure]
def arE (e:Int) (s:aa):Obj:=.cells #[.int .i64 e,.slice s.oa s.out.length s.oc,.slice s.da s.data.length s.dc,.int .i64 s.bu] 51 (0,0)
theorem arF:∀(w:World) (v:Value),(Instr.typeAssert (.iface 132 v) 20 132 true).run Tryz.prog w = .ok (.tuple #[v,.bool true]) w:=λw v=>by kernel_rfl
theorem tL:eQ Tryz.prog 51=some 4:=by kernel_rfl
theorem arG:cq Tryz.prog 132=some 1:=by kernel_rfl
theorem sg:dI Tryz.prog 127=true:=by kernel_rfl
theorem arH:aX Tryz.prog 132 0=some 0:=by kernel_rfl
theorem LV:aX Tryz.prog 51 0=some 0:=by kernel_rfl
theorem LX:aX Tryz.prog 130 2=some 2:=by kernel_rfl
theorem CG:cq Tryz.prog 51=some 4:=by kernel_rfl
theorem oV:cq Tryz.prog 29=some 1:=by kernel_rfl
theorem LY (bp b8 b9 lz bm:Nat) (s:aa) (x:Int) (v80 G0 G1 G2 v9 v10:Value) (w:World) (hw:Ws w ([ab bp (.cells #[.pointer (some ⟨bm,0,none⟩)] 127 (0,0)),ab b8 (.cells #[v80,G0,G1,G2] 51 (0,0)),ab b9 (.cells #[v9] 3 (0,0)),ab lz (.cells #[v10] 29 (0,0)),ab bm s.obj].flatMap ak.ids) [ab bp (.cells #[.pointer (some ⟨bm,0,none⟩)] 127 (0,0)),ab b8 (.cells #[v80,G0,G1,G2] 51 (0,0)),ab b9 (.cells #[v9] 3 (0,0)),ab lz (.cells #[v10] 29 (0,0)),ab bm s.obj] [] w) :
   CallsD Tryz.prog 68 #[.pointer (some ⟨bp,0,none⟩),.pointer (some ⟨b8,0,none⟩),.pointer (some ⟨b9,0,none⟩),.pointer (some ⟨lz,0,none⟩)] (.panicking [⟨.iface 132 (.agg #[.int .i64 x]),false,false⟩]) w λe u2 w'=>u2 = .panicking [⟨.iface 132 (.agg #[.int .i64 x]),true,false⟩]/\(e = .returned (.tuple #[])/\Ws w ([ab bp (.cells #[.pointer (some ⟨bm,0,none⟩)] 127 (0,0)),ab b8 (.cells #[v80,G0,G1,G2] 51 (0,0)),ab b9 (.cells #[v9] 3 (0,0)),ab lz (.cells #[v10] 29 (0,0)),ab bm s.obj].flatMap ak.ids) [ab bp (.cells #[.pointer (some ⟨bm,0,none⟩)] 127 (0,0)),ab b8 (arE x s),ab b9 (.cells #[.int .i64 s.steps] 3 (0,0)),ab lz (.cells #[.int .i64 0] 29 (0,0)),ab bm (mg s.obj 6 [.int .i64 x])] [] w'):=by
 refine Da Tryz.func68 O 31 O O O O O (λ_=>rfl) (.inr ⟨_,O,O,O⟩) ?_;refine LW (W':=Ws w ([ab bp (.cells #[.pointer (some ⟨bm,0,none⟩)] 127 (0,0)),ab b8 (.cells #[v80,G0,G1,G2] 51 (0,0)),ab b9 (.cells #[v9] 3 (0,0)),ab lz (.cells #[v10] 29 (0,0)),ab bm s.obj].flatMap ak.ids) [ab bp (.cells #[.pointer (some ⟨bm,0,none⟩)] 127 (0,0)),ab b8 (.cells #[v80,G0,G1,G2] 51 (0,0)),ab b9 (.cells #[v9] 3 (0,0)),ab lz (.cells #[v10] 29 (0,0)),ab bm s.obj] []) (λ_ e=>by subst e; exact hw) ?_;refine V0 (Ya O) (Ln (Et (Cs (Cr (V0 (Ym O) (V0 (arD arF O) (V0 (Ym O) (V0 (Yx O O) (V0 (Yx O O) ?_)))))))));refine Al Y O abx λb5=>?_;refine an 0 Y O O O arG O O O (V0 (Ya O) (Ln (Et (Cs (Cr (V0 (Ym O) (Ln (Et ?_))))))));refine WC.L5 O ?_;refine Cs (Cr (V0 (Yd 1 O O O sg) (V0 (Yf arH O) (V0 (Yd 0 O O (v:=.int .i64 x) O aq) (V0 (aO O) (V0 (Yf pc O) (V0 (Yf LV O) (an 5 Y O O O bX O O O ?_))))))));refine bH 5 (mg s.obj 6 [.int .i64 x]) O O (Ln (Et ?_));refine CU (λ_=>true) [] [8,9,10] (.q true 0 (.q false 1 (.q false 2 (.q true 3 (.q true 4 (.q false 5 (.q false 6 (.q true 7 .nil)))))))) mixed (by kernel_rfl) (λ_ _ _ d _ _ h=>by cases d<;>exact h) ?_;refine U0 O (λ_ h=>h) (Yd 1 O O O sg) (U0 O (λ_ h=>h) (aO O) (U0 O (λ_ h=>h) (Yf pc O) ?_))
 refine U0 O (λ_ h=>h) (Me tL O (cs:=[.int .i64 x,.slice s.oa s.out.length s.oc,.slice s.da s.data.length s.dc,.int .i64 s.bu]) O (λw hw j v hv=>by
   refine cell_of_heap (hw.kn _ (du (i:=5) O)) ?_
   match j,hv with
   | 0,hv=>exact hv
   | 1,hv=>exact hv
   | 2,hv=>exact hv
   | 3,hv=>exact hv)) ?_
 refine U0 O (λ_ h=>h) (Yd 1 O O O sg) (U0 O (λ_ h=>h) (aO O) (U0 O (λ_ h=>h) (Yf LX O) (U0 O (λ_ h=>h) (Yd 5 O O O aq) ?_)));refine WU.nil (λ_ h=>h) ?_;refine WS.e O ?_;refine an 2 Y O O O CG O O O (Ln (Es ?_));refine WS.e O ?_;refine an 3 Y O O O bX O O O (Ln (Es ?_));refine WS.e O ?_;refine an 4 Y O O O oV O O O (Ln (Es ?_));refine WS.nil ?_;refine E0 O λw' hw=>?_;exact ⟨O,Wd 1 hw⟩
end Go.Proofs.YtplfmnkmlaolpaaGreatDoor.Mch
end
section
namespace Go.Proofs.YtplfmnkmlaolpaaGreatDoor.Mch
open Go.Bw
def Rz.st {α:Type} (r:Rz α):Pm:=match r with | .ok _ m=>m | .ov _ m=>m
def Pm.kp (m:Pm):Int×Int:=(m.o8,m.steps)
theorem Rz.G3 {α β:Type} {r:Rz α} {f:α->Pm->Rz β} {v:Int×Int} (h1:r.st.kp=v) (h2:∀a m,m.kp=v->(f a m).st.kp=v):(r.bind f).st.kp=v:=by
 cases r with
 | ok a m=>exact h2 a m h1
 | ov e m=>exact h1
theorem SI {α:Type} {c:Prop} [Decidable c] {a b:Rz α} {v:Int×Int} (ha:a.st.kp=v) (hb:b.st.kp=v):(if c then a else b).st.kp=v:=by
 split
 · exact ha
 · exact hb
theorem LZ (m:Pm):(bj m).st.kp=m.kp:=by unfold bj; split<;>rfl
theorem G4 (n:Int) (m:Pm):(dB n m).st.kp=m.kp:=by unfold dB; split<;>rfl
theorem abM (m:Pm):(qh m).st.kp=m.kp:=by unfold qh; split<;>rfl
theorem arI (op:Int) (m:Pm):(lG op m).st.kp=m.kp:=by
 unfold lG
 split
 · rfl
 · refine Rz.G3 (LZ m) λb m1 h1=>Rz.G3 (by rw [LZ,h1]) λa m2 h2=>?_
   split
   · rw [G4,h2]
   · split
     · exact h2
     · rw [G4,h2]
theorem arJ (a b:Int) (m:Pm):(r3 a b m).st.kp=m.kp:=by unfold r3; split<;>rfl
theorem arK (to:Int) (m:Pm):(tH to m).st.kp=m.kp:=by
 unfold tH;refine Rz.G3 (abM m) λ_ m1 h1=>?_
 split
 · exact h1
 · exact h1
theorem arL (m:Pm):(vE m).st.kp=m.kp:=by
 unfold vE
 split
 · rfl
 · split<;>rfl
theorem abN (m:Pm):(n_ m).2.kp=m.kp:=by unfold n_; split<;>rfl
theorem arM (i:iZ) (m:Pm):(bT i m).st.kp=m.kp:=by
 have h0:m.ah.kp=m.kp:=rfl;rw [<-h0];unfold bT
 generalize m.ah=m
 unfold bY
 repeat' apply SI
 all_goals first
   | rfl
   | exact G4 _ _
   | exact arI _ _
   | exact arK _ _
   | exact arJ _ _ _
   | exact arL _
   | exact abM _
   | (rw [G4,abN]; done)
   | exact abN _
   | (split<;>rfl)
   | (refine Rz.G3 (LZ m) λn m1 h1=>?_
      repeat' apply SI
      all_goals first
        | exact h1
        | (rw [G4,h1]; done)
        | (refine Rz.G3 (by rw [LZ,h1]) λk m2 h2=>?_
           repeat' apply SI
           all_goals exact h2))
def Pm.tk (m:Pm):Pm:={ m with steps:=IntKind.i64.wrap (m.steps+1) }
def iterM (code:List iZ) (eW:Int) (m:Pm):Rz Unit:=if (m.steps==eW)=true then .ov 7 m else if cy m.at_ code.length=true then .ov 6 m.tk else bT (code[m.at_.toNat]?.getD ⟨0,0,0⟩) m.tk
def runK (code:List iZ) (eW:Int):Nat->Pm->Int×Pm
 | 0,m=>(7,m)
 | k+1,m=>match iterM code eW m with
   | .ov e m'=>(e,m')
   | .ok _ m'=>runK code eW k m'
theorem arN {code:List iZ} {eW:Int} {m m':Pm} (hl:eW<=134217728) (h0:0<=m.steps) (h1:m.steps<=eW) (h:iterM code eW m = .ok () m'):m'.steps=m.steps+1/\m.steps<eW:=by
 unfold iterM at h
 split at h
 · cases h
 · rename_i dt
   have aw:m.steps<eW:=by simp at dt; omega
   split at h
   · cases h
   · have hk:=arM (code[m.at_.toNat]?.getD ⟨0,0,0⟩) m.tk
     rw [h] at hk;have e:m'.steps=m.tk.steps:=congrArg Prod.snd hk;refine ⟨?_,aw⟩;rw [e]
     show IntKind.i64.wrap (m.steps+1)=_
     rw [G_ (by omega)]
structure oE where
 fin:Int
 out:List Int
 data:List Int
 bu:Int
deriving DecidableEq
def abO (bu:Int) (bh:List Int) (data:Int):Pm:=⟨0,bu,0,[],[([],0)],bh,[],List.replicate data.toNat 0,0⟩
def qs (code:List iZ) (data:Int) (bh:List Int) (bu steps:Int):Int:=
 if nc code data=0 then if 64<bh.length then 2 else if (((decide (bu<0)||decide (2000<bu))||decide (steps<0))||decide (134217728<steps))=true then 3 else 0 else nc code data
def gI (code:List iZ) (data:Int) (bh:List Int) (bu steps:Int):oE×Int:=
 if qs code data bh bu steps=0 then
   let r:=runK code steps (steps.toNat+1) (abO bu bh data)
   (⟨r.1,r.2.out,r.2.data,r.2.bu⟩,r.2.steps)
 else (⟨0,[],[],0⟩,0)
end Go.Proofs.YtplfmnkmlaolpaaGreatDoor.Mch
end
section
namespace Go.Proofs.YtplfmnkmlaolpaaGreatDoor.Mch
open Go.Bw
abbrev aa.tk (s:aa):aa:={ s with steps:=IntKind.i64.wrap (s.steps+1) }
theorem aa.bO.tk {HI:View} {s:aa} (h:s.bO HI):aa.bO HI (aa.tk s):=⟨h.bh,h.jo,h.i_,h.out,h.ix⟩
theorem arO {code:List iZ} {data:Int} (h:nc code data=0):0<=data/\data<=512:=by
 unfold nc at h
 split at h
 · cases h
 · split at h
   · cases h
   · split at h
     · cases h
     · rename_i hd; simp at hd; omega
theorem G5:madeCells (Value.agg #[.slice none 0 0,.int .i64 0]).cells ((1:Int).toNat*2) = #[.slice none 0 0,.int .i64 0]:=by kernel_rfl
theorem L0 {code:List iZ} {eW:Int} {m m':Pm} {e:Int} (k:Nat) (h:iterM code eW m = .ov e m'):runK code eW (k+1) m=(e,m'):=by simp [runK,h]
theorem arP {code:List iZ} {eW:Int} {m m':Pm} (k:Nat) (h:iterM code eW m = .ok () m'):runK code eW (k+1) m=runK code eW k m':=by simp [runK,h]
theorem Ai:zeroOf Tryz.prog 51=some (.agg #[.int .i64 0,.slice none 0 0,.slice none 0 0,.int .i64 0]):=by kernel_rfl
theorem nZ:zeroOf Tryz.prog 3=some (.int .i64 0):=by kernel_rfl
theorem J6:zeroOf Tryz.prog 29=some (.int .i64 0):=by kernel_rfl
theorem xE:eQ Tryz.prog 42=some 2:=by kernel_rfl
theorem SJ:Enters Tryz.prog 23:=enters_of Tryz.func23 (by kernel_rfl) rfl
theorem G6:eR Tryz.prog 51=some [(0,1),(1,1),(2,1),(3,1)]:=by kernel_rfl
theorem iU:dI Tryz.prog 29=true:=by kernel_rfl
theorem G7:Enters Tryz.prog 62:=enters_of Tryz.func62 (by kernel_rfl) rfl
theorem CH:eR Tryz.prog 130=some [(0,1),(1,1),(2,1),(3,1),(4,1),(5,1),(6,4)]:=by kernel_rfl
theorem CI:zeroOf Tryz.prog 130=some (.agg #[.int .i64 0,.int .i64 0,.int .i64 0,.slice none 0 0,.slice none 0 0,.slice none 0 0,.int .i64 0,.slice none 0 0,.slice none 0 0,.int .i64 0]):=by kernel_rfl
theorem Aj:zeroOf Tryz.prog 127=some (.pointer none):=by kernel_rfl
theorem xN:cq Tryz.prog 127=some 1:=by kernel_rfl
theorem L3:Enters Tryz.prog 68:=enters_of Tryz.func68 (by kernel_rfl) rfl
theorem arQ:Enters Tryz.prog 70:=enters_of Tryz.func70 (by kernel_rfl) rfl
set_option maxHeartbeats 4000000 in
theorem arR (H:View) (a:Option Addr) (c:Nat) (code:List iZ) (data:Int) (Hi:View) (ai:Option Addr) (ci:Nat) (bh:List Int) (bu steps:Int) (w:World) (hH:Le H w) (hm:Sl RV 3 H a c code) (hHi:Le Hi w) (nk:Sl iF 1 Hi ai ci bh) :
   Calls Tryz.prog 26 #[.agg #[.slice a code.length c,.int .i64 data],.slice ai bh.length ci,.int .i64 bu,.int .i64 steps] w λe w'=>∃r:(Option Addr×Nat)×(Option Addr×Nat),e = .returned (.tuple #[.agg #[.int .i64 (gI code data bh bu steps).1.fin,.slice r.1.1 (gI code data bh bu steps).1.out.length r.1.2,.slice r.2.1 (gI code data bh bu steps).1.data.length r.2.2,.int .i64 (gI code data bh bu steps).1.bu],.int .i64 (gI code data bh bu steps).2,.int .i64 (qs code data bh bu steps)])/\Ext w w'/\Sl iF 1 (nv w w') r.1.1 r.1.2 (gI code data bh bu steps).1.out/\Sl iF 1 (nv w w') r.2.1 r.2.2 (gI code data bh bu steps).1.data:=by
 have dQ:=hm.cap;have eB:=hm.max;have awl:=nk.cap;have awm:=nk.max;refine Mr Tryz.func26 O 92 O O ?_;refine CE (Vs:=[H,Hi]) (Ws.init (by simp [hH,hHi])) (Cs (Cr ?_));refine WL.box Y O O λb4=>?_;refine Al Y O Ai λb8=>?_;refine Al Y O nZ λb9=>?_;refine Al Y O J6 λlz=>?_;refine Ln (Et (Cs (Cs (Cr (V0 (bA 3 O O xE O) (Lp Y O SJ O (λw hw=>abv H a c code data w (hw.vs _ (by simp)) hm) (V0 (Ya O) (Ln (Et (Cs (Cr (V0 (Ym O) (V0 (jq O O) (Ln (Et ?_)))))))))))))));refine Cc O (λad=>?_) (λad=>?_)
 ·have hz:¬nc code data=0:=by simpa using ad
  refine Cs (Cr (V0 (Yb Ai G6 O O) (V0 (Ym O) (an 2 Y O O O CG O O O (an 1 Y O O O bX O O O (an 0 Y O O O oV O O O (Ln (Et (az (Er ?_))))))))));refine WE.Ay (xZ O (cS 2 O O tL O) (gM 1 O O O aq) (gM 0 O O O iU)) λw' hw=>?_
  have hE:(qs code data bh bu steps)=nc code data:=by unfold qs; rw [if_neg hz]
  have hM:(gI code data bh bu steps)=(⟨0,[],[],0⟩,0):=by unfold gI; rw [hE]; simp [hz]
  rw [hM,hE];exact ⟨((none,0),(none,0)),O,hw.fr,Sl.nil,Sl.nil⟩
 have hz:nc code data=0:=by simpa using ad
 have hd:=arO hz;refine Ck (Et (Cs (Cs (Cr (V0 (Ym O) (V0 (Yn dK O) (V0 (bZ O O) (Ln (Et ?_)))))))));refine Cc O (λar=>?_) (λar=>?_)
 ·have hl:64<bh.length:=by simp at ar; omega
  refine Cs (Cr (V0 (Yb Ai G6 O O) (an 2 Y O O O CG O O O (an 1 Y O O O bX O O O (an 0 Y O O O oV O O O (Ln (Et (az (Er ?_)))))))));refine WE.Ay (xZ O (cS 2 O O tL O) (gM 1 O O O aq) (gM 0 O O O iU)) λw' hw=>?_
  have hE:(qs code data bh bu steps)=2:=by unfold qs; rw [if_pos hz,if_pos hl]
  have hM:(gI code data bh bu steps)=(⟨0,[],[],0⟩,0):=by unfold gI; rw [hE]; simp
  rw [hM,hE];exact ⟨((none,0),(none,0)),O,hw.fr,Sl.nil,Sl.nil⟩
 have hl:¬64<bh.length:=by simp at ar; omega
 refine Ck (Et (Cs (Cs (Cr (V0 (Ym O) (V0 (bq O O) (V0 (Ym O) ?_)))))));apply Lo 2 O O O O Y O O O O O
 ·intro de;refine Vg (Ym O) (Vg (bZ O O) ?_);exact Gt 2 O O O
 refine V0 (Ym O) ?_;apply Lo 2 O O O O Y O O O O O
 ·intro bK;refine Vg (Ym O) (Vg (bq O O) ?_);exact Gt 2 O O O
 refine V0 (Ym O) ?_;apply Lo 2 O O O O Y O O O O O
 ·intro hY;refine Vg (Ym O) (Vg (bZ O O) ?_);exact Gt 2 O O O
 refine Ln (Et ?_);refine Cc O (λay=>?_) (λay=>?_)
 ·refine Cs (Cr (V0 (Yb Ai G6 O O) (an 2 Y O O O CG O O O (an 1 Y O O O bX O O O (an 0 Y O O O oV O O O (Ln (Et (az (Er ?_)))))))));refine WE.Ay (xZ O (cS 2 O O tL O) (gM 1 O O O aq) (gM 0 O O O iU)) λw' hw=>?_
  have hE:(qs code data bh bu steps)=3:=by unfold qs; rw [if_pos hz,if_neg hl,if_pos ay]
  have hM:(gI code data bh bu steps)=(⟨0,[],[],0⟩,0):=by unfold gI; rw [hE]; simp
  rw [hM,hE];exact ⟨((none,0),(none,0)),O,hw.fr,Sl.nil,Sl.nil⟩
 have hE:(qs code data bh bu steps)=0:=by unfold qs; rw [if_pos hz,if_neg hl,ay]; simp
 have hts:0<=bu/\bu<=2000/\0<=steps/\steps<=134217728:=by simp at ay; omega
 refine Ck (Et ?_);refine WC.Dg (ι:=(Nat×Nat×Nat)×(View×Option Addr×Nat)) (λq=>[(3,.int .i64 steps),(4,.pointer (some ⟨b4,0,none⟩)),(8,.pointer (some ⟨b8,0,none⟩)),(9,.pointer (some ⟨b9,0,none⟩)),(10,.pointer (some ⟨lz,0,none⟩)),(12,.pointer (some ⟨q.1.2.2,0,none⟩))]) (λq=>Ws w [] [ab q.1.2.2 (.cells #[.pointer (some ⟨q.1.2.1,0,none⟩)] 127 (0,0)),ab q.1.2.1 (.cells #[.int .i64 0,.int .i64 bu,.int .i64 0,.slice none 0 0,.slice (some ⟨q.1.1,0,none⟩) 1 1,.slice q.2.2.1 bh.length q.2.2.2,.int .i64 0,.slice none 0 0,.slice none 0 0,.int .i64 0] 130 (0,0)),ab q.1.1 (.cells #[.slice none 0 0,.int .i64 0] 163 (0,0)),ab lz (.cells (Value.cells (.int .i64 0)) 29 (0,0)),ab b9 (.cells (Value.cells (.int .i64 0)) 3 (0,0)),ab b8 (.cells (Value.cells (.agg #[.int .i64 0,.slice none 0 0,.slice none 0 0,.int .i64 0])) 51 (0,0)),ab b4 (.cells (Value.agg #[.slice a code.length c,.int .i64 data]).cells 42 (0,0))] [q.2.1,H]) (λq=>Sl iF 1 q.2.1 q.2.2.1 q.2.2.2 bh) ?_ ?_
 ·refine CU (mq [.cell 8 51,.cell 9 3,.cell 10 29]) [] [7] (.q false 0 (.q false 2 (.e 1 (.e 3 (.q false 4 (.e 5 (.e 6 .nil .stop) (.e 6 (.e 5 .nil .stop) .stop))) (.e 6 (.e 3 (.q false 4 (.e 5 .nil .stop)) .stop) .stop)) (.e 3 (.e 1 (.q false 4 (.e 5 (.e 6 .nil .stop) (.e 6 (.e 5 .nil .stop) .stop))) (.e 6 (.e 1 (.q false 4 (.e 5 .nil .stop)) .stop) .stop)) (.e 6 (.e 1 (.e 3 (.q false 4 (.e 5 .nil .stop)) .stop) (.e 3 (.e 1 (.q false 4 (.e 5 .nil .stop)) .stop) .stop)) .stop))))) mixed (by kernel_rfl) (λ_ _ _ _ _ hd h=>qF (fn:=Tryz.f26) [.cell 8 51,.cell 9 3,.cell 10 29] O hd h) ?_;refine U0 O (λ_ h=>h) (Ym O) (U0 O (λ_ h=>h) (Ym O) ?_);refine Ue O (λ_ h=>h) ?_ ?_
  ·refine WL.make Y O Ab O O (by omega) (by omega) (by omega) (by omega) λqt=>?_;refine bH 0 (.cells #[.slice none 0 0,.int .i64 0] 163 (0,0)) O (by rw [G5]) (Ln (Eu ?_));refine Ue O (λ_ h=>(Wd 1 h:)) ?_ ?_
   ·refine Ld Y O G7 O (λr:Option Addr×Nat=>.slice r.1 bh.length r.2) (λK r=>Sl iF 1 K r.1 r.2 bh) (λw hw=>GJ Hi ai ci bh w (hw.vs _ (by simp)) nk (by omega)) ?_;intro jO cC L4 qu;refine Ln (Eu (U0 O (λ_ h=>(Wv 1 (Wd 1 h):)) (Yb CI CH O O) ?_));refine Ue O (λ_ h=>(Wv 1 (Wd 1 h):)) ?_ ?_
    ·refine WL.box Y O O λfu=>?_;refine Ln (Eu ?_);refine Ue O (λ_ h=>(Wv 1 (Wd 2 h):)) ?_ WU.stop;refine Al Y O Aj λkf=>?_;refine Ln (Eu ?_);refine WU.nil (λ_ h=>(Wv 1 (Wd 3 h):)) ?_;refine WS.e O ?_;refine an 0 Y O O O xN O O O (Ln (Es ?_));refine WS.nil ?_
     exact Em ((qt,fu,kf),jO,cC.1,cC.2) qu (sc O (sc O (sc O (sc O (sc O (sc O sn)))))) (λ_ h=>by
       have h:=h.ao 6 rfl;have h:=h.ao 6 rfl;have h:=h.ao 6 rfl;have h:=h.ao 6 rfl;have h:=h.ao 6 rfl;have h:=h.ao 6 rfl;have h:=h.ao 6 rfl;have h:=Ws.bw h (a_:=[jO,H]) (by simp)
       exact h)
    refine Ue O (λ_ h=>(Wv 1 (Wd 1 h):)) ?_ WU.stop;refine Al Y O Aj λkf=>?_;refine Ln (Eu ?_);refine Ue O (λ_ h=>(Wv 1 (Wd 2 h):)) ?_ WU.stop;refine WL.box Y O O λfu=>?_;refine Ln (Eu ?_);refine WU.nil (λ_ h=>(Wv 1 (Wd 3 h):)) ?_;refine WS.e O ?_;refine an 1 Y O O O xN O O O (Ln (Es ?_));refine WS.nil ?_
    exact Em ((qt,fu,kf),jO,cC.1,cC.2) qu (sc O (sc O (sc O (sc O (sc O (sc O sn)))))) (λ_ h=>by
      have h:=h.ao 6 rfl;have h:=h.ao 6 rfl;have h:=h.ao 6 rfl;have h:=h.ao 6 rfl;have h:=h.ao 6 rfl;have h:=h.ao 5 rfl;have h:=h.ao 6 rfl;have h:=Ws.bw h (a_:=[jO,H]) (by simp)
      exact h)
   refine Ue O (λ_ h=>(Wd 1 h:)) ?_ WU.stop;refine Al Y O Aj λkf=>?_;refine Ln (Eu ?_);refine Ue O (λ_ h=>(Wd 2 h:)) ?_ WU.stop;refine Ld Y O G7 O (λr:Option Addr×Nat=>.slice r.1 bh.length r.2) (λK r=>Sl iF 1 K r.1 r.2 bh) (λw hw=>GJ Hi ai ci bh w (hw.vs _ (by simp)) nk (by omega)) ?_;intro jO cC L4 qu;refine Ln (Eu (U0 O (λ_ h=>(Wv 1 (Wd 2 h):)) (Yb CI CH O O) ?_));refine Ue O (λ_ h=>(Wv 1 (Wd 2 h):)) ?_ WU.stop;refine WL.box Y O O λfu=>?_;refine Ln (Eu ?_);refine WU.nil (λ_ h=>(Wv 1 (Wd 3 h):)) ?_;refine WS.e O ?_;refine an 1 Y O O O xN O O O (Ln (Es ?_));refine WS.nil ?_
   exact Em ((qt,fu,kf),jO,cC.1,cC.2) qu (sc O (sc O (sc O (sc O (sc O (sc O sn)))))) (λ_ h=>by
     have h:=h.ao 6 rfl;have h:=h.ao 6 rfl;have h:=h.ao 6 rfl;have h:=h.ao 6 rfl;have h:=h.ao 6 rfl;have h:=h.ao 5 rfl;have h:=h.ao 6 rfl;have h:=Ws.bw h (a_:=[jO,H]) (by simp)
     exact h)
  refine Ue O (λ_ h=>h) ?_ ?_
  ·refine Ld Y O G7 O (λr:Option Addr×Nat=>.slice r.1 bh.length r.2) (λK r=>Sl iF 1 K r.1 r.2 bh) (λw hw=>GJ Hi ai ci bh w (hw.vs _ (by simp)) nk (by omega)) ?_;intro jO cC L4 qu;refine Ln (Eu ?_);refine Ue O (λ_ h=>(Wv 1 h:)) ?_ ?_
   ·refine WL.make Y O Ab O O (by omega) (by omega) (by omega) (by omega) λqt=>?_;refine bH 0 (.cells #[.slice none 0 0,.int .i64 0] 163 (0,0)) O (by rw [G5]) (Ln (Eu (U0 O (λ_ h=>(Wv 1 (Wd 1 h):)) (Yb CI CH O O) ?_)));refine Ue O (λ_ h=>(Wv 1 (Wd 1 h):)) ?_ ?_
    ·refine WL.box Y O O λfu=>?_;refine Ln (Eu ?_);refine Ue O (λ_ h=>(Wv 1 (Wd 2 h):)) ?_ WU.stop;refine Al Y O Aj λkf=>?_;refine Ln (Eu ?_);refine WU.nil (λ_ h=>(Wv 1 (Wd 3 h):)) ?_;refine WS.e O ?_;refine an 0 Y O O O xN O O O (Ln (Es ?_));refine WS.nil ?_
     exact Em ((qt,fu,kf),jO,cC.1,cC.2) qu (sc O (sc O (sc O (sc O (sc O (sc O sn)))))) (λ_ h=>by
       have h:=h.ao 6 rfl;have h:=h.ao 6 rfl;have h:=h.ao 6 rfl;have h:=h.ao 6 rfl;have h:=h.ao 6 rfl;have h:=h.ao 6 rfl;have h:=h.ao 6 rfl;have h:=Ws.bw h (a_:=[jO,H]) (by simp)
       exact h)
    refine Ue O (λ_ h=>(Wv 1 (Wd 1 h):)) ?_ WU.stop;refine Al Y O Aj λkf=>?_;refine Ln (Eu ?_);refine Ue O (λ_ h=>(Wv 1 (Wd 2 h):)) ?_ WU.stop;refine WL.box Y O O λfu=>?_;refine Ln (Eu ?_);refine WU.nil (λ_ h=>(Wv 1 (Wd 3 h):)) ?_;refine WS.e O ?_;refine an 1 Y O O O xN O O O (Ln (Es ?_));refine WS.nil ?_
    exact Em ((qt,fu,kf),jO,cC.1,cC.2) qu (sc O (sc O (sc O (sc O (sc O (sc O sn)))))) (λ_ h=>by
      have h:=h.ao 6 rfl;have h:=h.ao 6 rfl;have h:=h.ao 6 rfl;have h:=h.ao 6 rfl;have h:=h.ao 6 rfl;have h:=h.ao 5 rfl;have h:=h.ao 6 rfl;have h:=Ws.bw h (a_:=[jO,H]) (by simp)
      exact h)
   refine Ue O (λ_ h=>(Wv 1 h:)) ?_ WU.stop;refine Al Y O Aj λkf=>?_;refine Ln (Eu ?_);refine Ue O (λ_ h=>(Wv 1 (Wd 1 h):)) ?_ WU.stop;refine WL.make Y O Ab O O (by omega) (by omega) (by omega) (by omega) λqt=>?_;refine bH 0 (.cells #[.slice none 0 0,.int .i64 0] 163 (0,0)) O (by rw [G5]) (Ln (Eu (U0 O (λ_ h=>(Wv 1 (Wd 2 h):)) (Yb CI CH O O) ?_)));refine Ue O (λ_ h=>(Wv 1 (Wd 2 h):)) ?_ WU.stop;refine WL.box Y O O λfu=>?_;refine Ln (Eu ?_);refine WU.nil (λ_ h=>(Wv 1 (Wd 3 h):)) ?_;refine WS.e O ?_;refine an 2 Y O O O xN O O O (Ln (Es ?_));refine WS.nil ?_
   exact Em ((qt,fu,kf),jO,cC.1,cC.2) qu (sc O (sc O (sc O (sc O (sc O (sc O sn)))))) (λ_ h=>by
     have h:=h.ao 6 rfl;have h:=h.ao 6 rfl;have h:=h.ao 6 rfl;have h:=h.ao 6 rfl;have h:=h.ao 5 rfl;have h:=h.ao 5 rfl;have h:=h.ao 6 rfl;have h:=Ws.bw h (a_:=[jO,H]) (by simp)
     exact h)
  refine Ue O (λ_ h=>h) ?_ WU.stop;refine Al Y O Aj λkf=>?_;refine Ln (Eu ?_);refine Ue O (λ_ h=>(Wd 1 h:)) ?_ ?_
  ·refine WL.make Y O Ab O O (by omega) (by omega) (by omega) (by omega) λqt=>?_;refine bH 0 (.cells #[.slice none 0 0,.int .i64 0] 163 (0,0)) O (by rw [G5]) (Ln (Eu ?_));refine Ue O (λ_ h=>(Wd 2 h:)) ?_ WU.stop;refine Ld Y O G7 O (λr:Option Addr×Nat=>.slice r.1 bh.length r.2) (λK r=>Sl iF 1 K r.1 r.2 bh) (λw hw=>GJ Hi ai ci bh w (hw.vs _ (by simp)) nk (by omega)) ?_;intro jO cC L4 qu;refine Ln (Eu (U0 O (λ_ h=>(Wv 1 (Wd 2 h):)) (Yb CI CH O O) ?_));refine Ue O (λ_ h=>(Wv 1 (Wd 2 h):)) ?_ WU.stop;refine WL.box Y O O λfu=>?_;refine Ln (Eu ?_);refine WU.nil (λ_ h=>(Wv 1 (Wd 3 h):)) ?_;refine WS.e O ?_;refine an 2 Y O O O xN O O O (Ln (Es ?_));refine WS.nil ?_
   exact Em ((qt,fu,kf),jO,cC.1,cC.2) qu (sc O (sc O (sc O (sc O (sc O (sc O sn)))))) (λ_ h=>by
     have h:=h.ao 6 rfl;have h:=h.ao 6 rfl;have h:=h.ao 6 rfl;have h:=h.ao 6 rfl;have h:=h.ao 5 rfl;have h:=h.ao 5 rfl;have h:=h.ao 6 rfl;have h:=Ws.bw h (a_:=[jO,H]) (by simp)
     exact h)
  refine Ue O (λ_ h=>(Wd 1 h:)) ?_ WU.stop;refine Ld Y O G7 O (λr:Option Addr×Nat=>.slice r.1 bh.length r.2) (λK r=>Sl iF 1 K r.1 r.2 bh) (λw hw=>GJ Hi ai ci bh w (hw.vs _ (by simp)) nk (by omega)) ?_;intro jO cC L4 qu;refine Ln (Eu ?_);refine Ue O (λ_ h=>(Wv 1 (Wd 1 h):)) ?_ WU.stop;refine WL.make Y O Ab O O (by omega) (by omega) (by omega) (by omega) λqt=>?_;refine bH 0 (.cells #[.slice none 0 0,.int .i64 0] 163 (0,0)) O (by rw [G5]) (Ln (Eu (U0 O (λ_ h=>(Wv 1 (Wd 2 h):)) (Yb CI CH O O) ?_)));refine Ue O (λ_ h=>(Wv 1 (Wd 2 h):)) ?_ WU.stop;refine WL.box Y O O λfu=>?_;refine Ln (Eu ?_);refine WU.nil (λ_ h=>(Wv 1 (Wd 3 h):)) ?_;refine WS.e O ?_;refine an 2 Y O O O xN O O O (Ln (Es ?_));refine WS.nil ?_
  exact Em ((qt,fu,kf),jO,cC.1,cC.2) qu (sc O (sc O (sc O (sc O (sc O (sc O sn)))))) (λ_ h=>by
    have h:=h.ao 6 rfl;have h:=h.ao 6 rfl;have h:=h.ao 6 rfl;have h:=h.ao 6 rfl;have h:=h.ao 5 rfl;have h:=h.ao 5 rfl;have h:=h.ao 6 rfl;have h:=Ws.bw h (a_:=[jO,H]) (by simp)
    exact h)
 intro q hK;refine Cs ?_;refine CU (mq [.cell 8 51,.cell 9 3,.cell 10 29]) [] [7] (.q true 0 (.q false 1 (.q true 2 (.e 3 (.q false 4 (.q false 5 (.q false 6 .nil))) .stop)))) mixed (by kernel_rfl) (λ_ _ _ _ _ hd h=>qF (fn:=Tryz.f26) [.cell 8 51,.cell 9 3,.cell 10 29] O hd h) ?_;refine U0 O (λ_ h=>h) (Yd 0 O O O sg) (U0 O (λ_ h=>h) (Yf GH O) (U0 O (λ_ h=>h) (Yd 6 O O O aq) ?_));refine Ue O (λ_ h=>h) ?_ WU.stop;refine WL.make Y O gG O O (by omega) (by omega) (by omega) (by omega) λwZ=>?_;refine bH 0 (.cells ((List.replicate data.toNat (0:Int)).flatMap iv).toArray 3 (0,0)) O (by rw [RW]) (Ln (Eu (U0 O (λ_ h=>(Wd 1 h:)) (aO O) (U0 O (λ_ h=>(Wd 1 h:)) (Yf pc O) (U0 O (λ_ h=>(Wd 1 h:)) (Yf xI O) ?_)))));refine WU.nil (λ_ h=>(Wd 1 h:)) ?_;refine WS.e O ?_;refine an 2 Y O O O lC O O O (Ln (Es ?_));refine WS.nil ?_;refine Et (Cs (Cr (V0 (C7 O) ?_)));refine WL.defer Y O ?_;refine Ln (Et (Cb ?_))
 refine cU (ι:=aa) (λs=>[]) [(3,_),(4,_),(8,_),(9,_),(10,_),(12,_)] (λs=>Ws w [] (aa.own q.1.2.1 s++[ab q.1.2.2 (.cells #[.pointer (some ⟨q.1.2.1,0,none⟩)] 127 (0,0)),ab lz (.cells (Value.cells (.int .i64 0)) 29 (0,0)),ab b9 (.cells (Value.cells (.int .i64 0)) 3 (0,0)),ab b8 (.cells (Value.cells (.agg #[.int .i64 0,.slice none 0 0,.slice none 0 0,.int .i64 0])) 51 (0,0)),ab b4 (.cells (Value.agg #[.slice a code.length c,.int .i64 data]).cells 42 (0,0))]) [q.2.1,H]) (λs=>s.bO q.2.1/\0<=s.steps/\s.steps<=steps/\runK code steps ((steps-s.steps).toNat+1) s.pu=runK code steps (steps.toNat+1) (abO bu bh data)) (λs=>(steps-s.steps).toNat) ({ at_:=0,o8:=bu,steps:=0,stack:=[],aU:=[⟨none,0,[],0⟩],bh:=bh,out:=[],data:=List.replicate data.toNat 0,bu:=0,sa:=none,sc:=0,fa:=some ⟨q.1.1,0,none⟩,fc:=1,ia:=q.2.2.1,ic:=q.2.2.2,oa:=none,oc:=0,da:=some ⟨wZ,0,none⟩,dc:=data.toNat }:aa) ⟨⟨hK,by simp,by simp,by simp,by simp; omega⟩,Int.le_refl _,hts.2.2.1,by simp; rfl⟩ (sc O (sc O (sc O (sc O (sc O (sc O sn)))))) (λ_ h=>by
   have h:=h.ou (f:=iv) (c:=data.toNat) 0 rfl fl (by simp) (by unfold maxLen; omega);have h:=h.ou (f:=cR.cells) (xs:=[⟨none,0,[],0⟩]) (c:=1) 3 rfl cR.a8 rfl (by decide);have h:=h.px 2 rfl (show _=ab q.1.2.1 (aa.obj ({ at_:=0,o8:=bu,steps:=0,stack:=[],aU:=[⟨none,0,[],0⟩],bh:=bh,out:=[],data:=List.replicate data.toNat 0,bu:=0,sa:=none,sc:=0,fa:=some ⟨q.1.1,0,none⟩,fc:=1,ia:=q.2.2.1,ic:=q.2.2.2,oa:=none,oc:=0,da:=some ⟨wZ,0,none⟩,dc:=data.toNat }:aa)) by simp [aa.obj,mg,dv]);have h:=h.fB 3 1;have h:=h.fB 3 1;have h:=h.ac0;have h:=h.TG 0 rfl 3 1;have h:=h.ao 0 rfl;have h:=h.ao 3 rfl;have h:=h.ao 2 rfl;have h:=h.ao 6 rfl;have h:=h.ao 4 rfl;have h:=h.ao 6 rfl
   exact h) ?_
 intro s ⟨de,arT,arU,dM⟩;refine Cb (Cs (Cr (V0 (Yd 6 O O O sg) (V0 (aO O) (V0 (Yf LX O) (V0 (Yd 0 O O O aq) (V0 (Ym O) (V0 (aG O O) ?_))))))))
 refine bd (ι:=Unit) (κ:=Unit) [] _ Y O ng O O (λ_=>.tuple #[]) (λ_=>[]) (λ_=>(s.steps==steps)=false) (λ_=>bS 7) (λ_=>[]) (λ_=>(s.steps==steps)=true) ([]) (by simp) (λw hw=>(nf _ 7 w).mono λe w' h=>by
     rcases h with ⟨_,h1,h2,h3⟩ | ⟨_,h1,h2,h3⟩
     · exact .inl ⟨(),h1,h2,hw.ext h3⟩
     · exact .inr ⟨(),h1,h2,hw.ext h3⟩) ?_ ?_
 ·intro _ CJ;refine Ep (WE.aQ (Ep (WE.aQ ?_)));refine WE.front 0 O ?_;refine WE.front 7 O ?_;refine WE.front 8 O ?_;refine WE.front 9 O ?_;refine WE.front 9 O ?_;refine WE.sq L3 (pw [_,_,_,_,_] _ _ O (λw hw=>LY q.1.2.2 b8 b9 lz q.1.2.1 s 7 _ _ _ _ _ _ w hw)) (xZ O (cS 1 O O tL O) (gM 2 O O O aq) (gM 3 O O O iU)) λw' hw=>?_
  have tQ:iterM code steps s.pu = .ov 7 s.pu:=by unfold iterM; rw [if_pos (show (s.pu.steps==steps)=true from CJ)]
  have hM:(gI code data bh bu steps)=(⟨7,s.out,s.data,s.bu⟩,s.steps):=by
    unfold gI;rw [if_pos hE,<-dM,L0 _ tQ]
    rfl
  rw [hM,hE];exact ⟨((s.oa,s.oc),(s.da,s.dc)),O,hw.fr,hw.gv 7 O fl qi,hw.gv 8 O fl qi⟩
 intro _ CJ;refine Ln (Et (Cs (Cr (V0 (Yd 6 O O O sg) (V0 (aO O) (V0 (Yf LX O) (V0 (Yd 0 O O O aq) (V0 (vO O O) (V0 (aO O) (V0 (Yf LX O) ?_))))))))));refine an 0 Y O O O bX O O O (bH 0 (aa.obj (aa.tk s)) O O (Ln (Et (Cs ?_))))
 rcases Int.lt_or_le s.at_ 0 with hA | hA
 ·skip
  refine CU (mq [.cell 8 51,.cell 9 3,.cell 10 29]) [] [] (.q true 0 (.q false 1 (.q false 2 (.q true 3 (.q false 4 (.q false 5 (.q false 6 (.q false 7 (.q false 8 (.q false 9 (.q false 10 (.q false 11 (.q false 12 (.q false 13 (.q false 14 (.e 15 .nil .stop)))))))))))))))) mixed (by kernel_rfl) (λ_ _ _ _ _ hd h=>qF (fn:=Tryz.f26) [.cell 8 51,.cell 9 3,.cell 10 29] O hd h) ?_;refine U0 O (λ_ h=>h) (Yd 6 O O O sg) (U0 O (λ_ h=>h) (aO O) (U0 O (λ_ h=>h) (Yf r_ O) (U0 O (λ_ h=>h) (Yd 0 O O O aq) (U0 O (λ_ h=>h) (adl O O hA) (U0 O (λ_ h=>h) (Ym O) ?_)))));refine WU.skip O O O O O O (λ_ h=>h) ?_;refine WU.skip O O O O O O (λ_ h=>h) ?_;refine WU.skip O O O O O O (λ_ h=>h) ?_;refine WU.skip O O O O O O (λ_ h=>h) ?_;refine WU.skip O O O O O O (λ_ h=>h) ?_;refine WU.skip O O O O O O (λ_ h=>h) ?_;refine WU.skip O O O O O O (λ_ h=>h) ?_;refine WU.skip O O O O O O (λ_ h=>h) ?_;refine U0 O (λ_ h=>h) (SU O O O) ?_;refine Ue O (λ_ h=>h) ?_ WU.stop
  refine bd (ι:=Unit) (κ:=Unit) [] _ Y O ng O O (λ_=>.tuple #[]) (λ_=>[]) (λ_=>(true)=false) (λ_=>bS 6) (λ_=>[]) (λ_=>(true)=true) ([]) (by simp) (λw hw=>(nf _ 6 w).mono λe w' h=>by
      rcases h with ⟨_,h1,h2,h3⟩ | ⟨_,h1,h2,h3⟩
      · exact .inl ⟨(),h1,h2,hw.ext h3⟩
      · exact .inr ⟨(),h1,h2,hw.ext h3⟩) ?_ ?_
  ·intro _ CL;refine Ep (Ep (WE.aQ (Ep (WE.aQ ?_))));refine WE.front 0 O ?_;refine WE.front 7 O ?_;refine WE.front 8 O ?_;refine WE.front 9 O ?_;refine WE.front 9 O ?_;refine WE.sq L3 (pw [_,_,_,_,_] _ _ O (λw hw=>LY q.1.2.2 b8 b9 lz q.1.2.1 (aa.tk s) 6 _ _ _ _ _ _ w hw)) (xZ O (cS 1 O O tL O) (gM 2 O O O aq) (gM 3 O O O iU)) λw' hw=>?_
   have tQ:iterM code steps s.pu = .ov 6 (aa.tk s).pu:=by
     unfold iterM;rw [if_neg (show ¬(s.pu.steps==steps)=true by rw [show s.pu.steps=s.steps from rfl,CJ]; simp),if_pos (show cy s.pu.at_ code.length=true by show cy s.at_ code.length=true; unfold cy; simp [hA])]
     rfl
   have hM:(gI code data bh bu steps)=(⟨6,(aa.tk s).out,(aa.tk s).data,(aa.tk s).bu⟩,(aa.tk s).steps):=by
     unfold gI;rw [if_pos hE,<-dM,L0 _ tQ]
     rfl
   rw [hM,hE];exact ⟨(((aa.tk s).oa,(aa.tk s).oc),((aa.tk s).da,(aa.tk s).dc)),O,hw.fr,hw.gv 7 O fl qi,hw.gv 8 O fl qi⟩
  intro _ CL;cases CL
 skip
 refine CU (mq [.cell 8 51,.cell 9 3,.cell 10 29]) [] [] (.q true 0 (.q false 1 (.q false 2 (.q true 3 (.q false 4 (.q false 5 (.q true 6 (.q false 7 (.q false 8 (.q true 9 (.q false 10 (.q true 11 (.q false 12 (.q false 13 (.q false 14 (.e 15 .nil .stop)))))))))))))))) mixed (by kernel_rfl) (λ_ _ _ _ _ hd h=>qF (fn:=Tryz.f26) [.cell 8 51,.cell 9 3,.cell 10 29] O hd h) ?_;refine U0 O (λ_ h=>h) (Yd 6 O O O sg) (U0 O (λ_ h=>h) (aO O) (U0 O (λ_ h=>h) (Yf r_ O) (U0 O (λ_ h=>h) (Yd 0 O O O aq) (U0 O (λ_ h=>h) (adm O O hA) (U0 O (λ_ h=>h) (Ym O) ?_)))));refine Uq O (.g O O O) O (λ_ h=>h) (Yd 6 O O O sg) ?_;refine Uq O (.g O O O) O (λ_ h=>h) (aO O) ?_;refine Uq O (.g O O O) O (λ_ h=>h) (Yf r_ O) ?_;refine Uq O (.g O O O) O (λ_ h=>h) (Yd 0 O O O aq) ?_;refine Uq O (.g O O O) O (λ_ h=>h) (Yf mb O) ?_;refine Uq O (.g O O O) O (λ_ h=>h) (Yd 10 O O O gn) ?_;refine Uq O (.g O O O) O (λ_ h=>h) (Yn ig O) ?_;refine Uq O (.g O O O) O (λ_ h=>h) (fm O O) ?_;refine U0 O (λ_ h=>h) (SU O O O) ?_;refine Ue O (λ_ h=>h) ?_ WU.stop
 refine bd (ι:=Unit) (κ:=Unit) [] _ Y O ng O O (λ_=>.tuple #[]) (λ_=>[]) (λ_=>(decide ((code.length:Int)<=s.at_))=false) (λ_=>bS 6) (λ_=>[]) (λ_=>(decide ((code.length:Int)<=s.at_))=true) ([]) (by simp) (λw hw=>(nf _ 6 w).mono λe w' h=>by
     rcases h with ⟨_,h1,h2,h3⟩ | ⟨_,h1,h2,h3⟩
     · exact .inl ⟨(),h1,h2,hw.ext h3⟩
     · exact .inr ⟨(),h1,h2,hw.ext h3⟩) ?_ ?_
 ·intro _ CL;refine Ep (Ep (WE.aQ (Ep (WE.aQ ?_))));refine WE.front 0 O ?_;refine WE.front 7 O ?_;refine WE.front 8 O ?_;refine WE.front 9 O ?_;refine WE.front 9 O ?_;refine WE.sq L3 (pw [_,_,_,_,_] _ _ O (λw hw=>LY q.1.2.2 b8 b9 lz q.1.2.1 (aa.tk s) 6 _ _ _ _ _ _ w hw)) (xZ O (cS 1 O O tL O) (gM 2 O O O aq) (gM 3 O O O iU)) λw' hw=>?_
  have tQ:iterM code steps s.pu = .ov 6 (aa.tk s).pu:=by
    unfold iterM;rw [if_neg (show ¬(s.pu.steps==steps)=true by rw [show s.pu.steps=s.steps from rfl,CJ]; simp),if_pos (show cy s.pu.at_ code.length=true by show cy s.at_ code.length=true; unfold cy; simp; exact Or.inr (by simpa using CL))]
    rfl
  have hM:(gI code data bh bu steps)=(⟨6,(aa.tk s).out,(aa.tk s).data,(aa.tk s).bu⟩,(aa.tk s).steps):=by
    unfold gI;rw [if_pos hE,<-dM,L0 _ tQ]
    rfl
  rw [hM,hE];exact ⟨(((aa.tk s).oa,(aa.tk s).oc),((aa.tk s).da,(aa.tk s).dc)),O,hw.fr,hw.gv 7 O fl qi,hw.gv 8 O fl qi⟩
 intro _ CL
 have ki:cy s.at_ code.length=false:=by unfold cy; rw [CL]; simp; omega
 refine Ln (Eu ?_);refine WU.nil (λ_ h=>h) ?_;refine WS.nil ?_;refine Et ?_;obtain ⟨x,hx⟩:∃x,code[s.at_.toNat]? = some x:=⟨_,List.getElem?_eq_getElem (tK ki).2⟩;obtain ⟨pb,po,ha,bJ⟩:=hm.aZ _ x hx;have bJ:aT H pb (po+s.at_.toNat*3) x.cells:=bJ;have aw:=(tK ki).2;refine CU (mq [.cell 8 51,.cell 9 3,.cell 10 29]) [] [9] (.q true 0 (.q false 1 (.q true 2 (.q true 3 (.q false 4 (.q false 5 (.q true 6 (.q false 7 (.q true 8 .nil))))))))) mixed (by kernel_rfl) (λ_ _ _ _ _ hd h=>qF (fn:=Tryz.f26) [.cell 8 51,.cell 9 3,.cell 10 29] O hd h) ?_;refine U0 O (λ_ h=>h) (Yd 6 O O O sg) (U0 O (λ_ h=>h) (Yf mb O) (U0 O (λ_ h=>h) (Yd 10 O O O gn) (U0 O (λ_ h=>h) (Yd 6 O O O sg) (U0 O (λ_ h=>h) (aO O) (U0 O (λ_ h=>h) (Yf r_ O) (U0 O (λ_ h=>h) (Yd 0 O O O aq) (U0 O (λ_ h=>h) (Ar ig O O ha hA (by show s.at_<(code.length:Int); omega)) ?_)))))));refine U0 O (λ_ h=>h) (cM 1 B_ O O O (bJ)) ?_;refine WU.nil (λ_ h=>h) ?_;refine WS.e O ?_;refine bd (ι:=Unit×aa) (κ:=Int×aa) [_,_,_,_,_,_] _ Y O arQ O O (λr=>.tuple #[]) (λr=>(aa.own q.1.2.1 r.2)) (λr=>bT x (aa.tk s).pu = .ok r.1 r.2.pu/\r.2.bO q.2.1) (λr=>bS r.1) (λr=>(aa.own q.1.2.1 r.2)) (λr=>bT x (aa.tk s).pu = .ov r.1 r.2.pu) ([q.2.1]) (by simp) (λw hw=>aq7 q.1.2.1 (aa.tk s) q.2.1 x w de.tk hw) ?_ ?_
 ·intro kx SK;refine Ep (WE.aQ (Ep (WE.aQ ?_)));refine WE.front 0 O ?_;refine WE.front 7 O ?_;refine WE.front 8 O ?_;refine WE.front 9 O ?_;refine WE.front 9 O ?_;refine WE.sq L3 (pw [_,_,_,_,_] _ _ O (λw hw=>LY q.1.2.2 b8 b9 lz q.1.2.1 kx.2 kx.1 _ _ _ _ _ _ w hw)) (xZ O (cS 1 O O tL O) (gM 2 O O O aq) (gM 3 O O O iU)) λw' hw=>?_
  have tQ:iterM code steps s.pu = .ov kx.1 kx.2.pu:=by
    unfold iterM;rw [if_neg (show ¬(s.pu.steps==steps)=true by rw [show s.pu.steps=s.steps from rfl,CJ]; simp),if_neg (show ¬cy s.pu.at_ code.length=true by show ¬cy s.at_ code.length=true; rw [ki]; simp),show code[s.pu.at_.toNat]? = some x from hx];exact SK
  have hM:(gI code data bh bu steps)=(⟨kx.1,kx.2.out,kx.2.data,kx.2.bu⟩,kx.2.steps):=by
    unfold gI;rw [if_pos hE,<-dM,L0 _ tQ]
    rfl
  rw [hM,hE];exact ⟨((kx.2.oa,kx.2.oc),(kx.2.da,kx.2.dc)),O,hw.fr,hw.gv 7 O fl qi,hw.gv 8 O fl qi⟩
 intro kx ⟨SK,arV⟩;refine Ln (Es ?_);refine WS.nil ?_;refine Eb ?_
 have tQ:iterM code steps s.pu = .ok () kx.2.pu:=by
   unfold iterM;rw [if_neg (show ¬(s.pu.steps==steps)=true by rw [show s.pu.steps=s.steps from rfl,CJ]; simp),if_neg (show ¬cy s.pu.at_ code.length=true by show ¬cy s.at_ code.length=true; rw [ki]; simp),show code[s.pu.at_.toNat]? = some x from hx];exact SK
 have gX:kx.2.steps=s.steps+1/\s.steps<steps:=arN (m:=s.pu) (m':=kx.2.pu) hts.2.2.2 arT arU tQ
 exact Ea kx.2 (by omega) ⟨arV,by omega,by omega,by
     rw [<-dM,arP _ tQ,show (steps-s.steps).toNat=(steps-kx.2.steps).toNat+1 by omega]⟩ (sc rfl (sc rfl (sc rfl (sc rfl (sc rfl (sc rfl sn)))))) (λ_ h=>h)
end Go.Proofs.YtplfmnkmlaolpaaGreatDoor.Mch
end
section
namespace Go.Proofs.YtplfmnkmlaolpaaGreatDoor
open Go.Bw
def toI (x:aN):Mch.iZ:=⟨x.op,x.a,x.b⟩
theorem abQ {H:View} {a:Option Addr} {c:Nat} {l:List aN} (h:Sl fH 3 H a c l):Sl Mch.RV 3 H a c (l.map toI):=by
 refine ⟨by rw [List.length_map]; exact h.cap,h.max,h.spot,λi x hx=>?_⟩;rw [List.getElem?_map] at hx;obtain ⟨y,hy,rfl⟩:=Option.map_eq_some_iff.1 hx;exact h.aZ i y hy
theorem arW {H:View} {a:Option Addr} {c:Nat} {l:List Int} (h:Sl jd 1 H a c l):Sl Mch.iF 1 H a c l:=h.imp λb o x h=>h 0 _ rfl
theorem abR {H:View} {a:Option Addr} {c:Nat} {l:List Int} (h:Sl Mch.iF 1 H a c l):Sl jd 1 H a c l:=h.imp λb o x h k v hk=>by
 match k,hk with
 | 0,hk=>cases hk; exact h
def tI9 (x:aN):Int×Int×Int:=(x.op,x.a,x.b)
theorem arX {o:Option aN} {a:Int×Int×Int} (h:o.map tI9=some a):o=some ⟨a.1,a.2.1,a.2.2⟩:=by
 cases o with
 | none=>cases h
 | some x=>simp only [Option.map_some,Option.some.injEq] at h; subst h; rfl
theorem arY {x:(List aN×Int)×Int} {d e:Int} (h1:x.1.2=d) (h2:x.2=e):x=((x.1.1,d),e):=by
 obtain ⟨⟨c,d'⟩,e'⟩:=x;subst h1 h2
 rfl
theorem arZ {x:Mch.oE×Int} {a:Int} {b c:List Int} {t:Int} (h1:x.1.fin=a) (h2:x.1.out=b) (h3:x.1.data=c) (h4:x.1.bu=t):x=((⟨a,b,c,t⟩:Mch.oE),x.2):=by
 obtain ⟨⟨_,_,_,_⟩,_⟩:=x;subst h1 h2 h3 h4
 rfl
theorem ar0:(dX [kX,jm]).2=0:=by decide +kernel
theorem ar1:e_ [kX,jm]=0:=by decide +kernel
theorem ar2:(dX [kX,jm]).1.2=5:=by decide +kernel
theorem ar3:dX [jm]=(([],0),9):=RM (l:=[jm]) (by decide +kernel) |>.trans (by rw [show e_ [jm]=9 by decide +kernel])
theorem ar4:((dX [kX,jm]).1.1[0]?).map tI9=some (13,22,0):=by decide +kernel
theorem ar5:((dX [kX,jm]).1.1[2]?).map (·.op)=some 20:=by decide +kernel
theorem ar6:3<=(dX [kX,jm]).1.1.length:=by decide +kernel
theorem ar7:Mch.qs ((dX [kX,jm]).1.1.map toI) 5 [1] 9 999=0:=by decide +kernel
theorem ar8:(Mch.gI ((dX [kX,jm]).1.1.map toI) 5 [1] 9 999).1.fin=0:=by decide +kernel
theorem ar9:(Mch.gI ((dX [kX,jm]).1.1.map toI) 5 [1] 9 999).1.out=[6,7]:=by decide +kernel
theorem ar':(Mch.gI ((dX [kX,jm]).1.1.map toI) 5 [1] 9 999).1.data=[6,0,6,0,0]:=by decide +kernel
theorem ar_:(Mch.gI ((dX [kX,jm]).1.1.map toI) 5 [1] 9 999).1.bu=6:=by decide +kernel
theorem asa:∃(o0 o1:aH) (code:List aN) (y2:aN) (DB:Int),[kX,jm]=[o0,o1]/\dX [o0,o1]=((code,5),0)/\e_ [o0,o1]=0/\dX [o1]=(([],0),9)/\code[0]? = some ⟨13,22,0⟩/\code[2]? = some y2/\y2.op=20/\3<=code.length/\Mch.qs (code.map toI) 5 [1] 9 999=0/\Mch.gI (code.map toI) 5 [1] 9 999=((⟨0,[6,7],[6,0,6,0,0],6⟩:Mch.oE),DB):=by
 obtain ⟨y2,hy,Ku⟩:∃y2,(dX [kX,jm]).1.1[2]? = some y2/\y2.op=20:=by
   have h:=ar5
   cases hx:(dX [kX,jm]).1.1[2]? with
   | none=>rw [hx] at h; cases h
   | some y=>rw [hx] at h; exact ⟨y,rfl,by simpa using h⟩
 exact ⟨kX,jm,(dX [kX,jm]).1.1,y2,_,O,arY ar2 ar0,ar1,ar3,arX ar4,hy,Ku,ar6,ar7,arZ ar8 ar9 ar' ar_⟩
theorem SL {l:List aH} (h:(dX l).2=0):e_ l=0/\¬(2048<cX l l.length\/512<eJ l l.length):=by
 by_cases h1:e_ l=0
 · refine ⟨h1,λh2=>?_⟩
   rw [abq h1 h2] at h;cases h
 · rw [RM h1] at h
   exact absurd h h1
theorem asb {l:List aH} (h:(dX l).2=0):Mch.nc ((dX l).1.1.map toI) (dX l).1.2=0:=by
 obtain ⟨h1,h2⟩:=SL h;have aE:=NM.1 h1;rw [RO h1 h2];have hd:=DR aE.ep aE.mI (Nat.le_refl _);have hc:=Bg aE.ep aE.mI (Nat.le_refl _);have hl:=VK l
 have hp:1<=cX l l.length:=by unfold cX; omega
 have e1:(decide ((((uK l).map toI).length:Int)<1)||decide (2048<(((uK l).map toI).length:Int)))=false:=by
   rw [List.length_map,hl];simp only [Bool.or_eq_false_iff,decide_eq_false_iff_not];omega
 have e2:((uK l).map toI).any Mch.GG=false:=by
   rw [List.any_eq_false];intro x hx;obtain ⟨y,hy,rfl⟩:=List.mem_map.1 hx;have:=afJ aE.mI y hy;unfold Mch.GG toI;simp only [Bool.or_eq_true,decide_eq_true_eq];unfold qT at this;omega
 have e3:(decide (eJ l l.length<0)||decide (512<eJ l l.length))=false:=by
   simp only [Bool.or_eq_false_iff,decide_eq_false_iff_not];omega
 show Mch.nc ((uK l).map toI) (eJ l l.length)=0
 unfold Mch.nc;rw [e1,e2,e3]
 rfl
theorem asc {l:List aH} (h:(dX l).2=0):(((dX l).1.1.length:Nat):Int)=cX l l.length:=by
 obtain ⟨h1,h2⟩:=SL h;rw [RO h1 h2];exact VK l
theorem LV:aX Tryz.prog 51 0=some 0:=by kernel_rfl
theorem Cw:aX Tryz.prog 51 3=some 3:=by kernel_rfl
theorem CB:aX Tryz.prog 51 1=some 1:=by kernel_rfl
theorem xI:aX Tryz.prog 51 2=some 2:=by kernel_rfl
theorem SM:Enters Tryz.prog 17:=enters_of Tryz.func17 (by kernel_rfl) rfl
theorem asd:Enters Tryz.prog 26:=enters_of Tryz.func26 (by kernel_rfl) rfl
theorem Ai:zeroOf Tryz.prog 51=some (.agg #[.int .i64 0,.slice none 0 0,.slice none 0 0,.int .i64 0]):=by kernel_rfl
theorem CG:cq Tryz.prog 51=some 4:=by kernel_rfl
theorem ase:Enters Tryz.prog 20:=enters_of Tryz.func20 (by kernel_rfl) rfl
theorem GH:aX Tryz.prog 42 1=some 1:=by kernel_rfl
theorem tL:eQ Tryz.prog 51=some 4:=by kernel_rfl
theorem G6:eR Tryz.prog 51=some [(0,1),(1,1),(2,1),(3,1)]:=by kernel_rfl
theorem asf:Enters Tryz.prog 27:=enters_of Tryz.func27 (by kernel_rfl) rfl
theorem asg (H1 H2:View) (R:Mch.oE) (r1 r2:SP×SP) (w:World) (Ro:Le H1 w) (Rq:Le H2 w) (h1:Sl jd 1 H1 r1.1.1 r1.1.2 R.out/\Sl jd 1 H1 r1.2.1 r1.2.2 R.data) (h2:Sl jd 1 H2 r2.1.1 r2.1.2 R.out/\Sl jd 1 H2 r2.2.1 r2.2.2 R.data) :
   Calls Tryz.prog 27 #[.agg #[.int .i64 R.fin,.slice r1.1.1 R.out.length r1.1.2,.slice r1.2.1 R.data.length r1.2.2,.int .i64 R.bu],.agg #[.int .i64 R.fin,.slice r2.1.1 R.out.length r2.1.2,.slice r2.2.1 R.data.length r2.2.2,.int .i64 R.bu]] w λe w'=>e = .returned (.bool true)/\Ext w w':=by
 refine enter Tryz.func27 O 31 O O ?_;refine CE (Vs:=[H1,H2]) (Ws.init (by simp [Ro,Rq])) (Cs (Cr ?_));refine WL.box Y O O λb2=>?_;refine WL.box Y O O λb3=>?_;refine V0 (Ya O) (Ln (Et (Cs (Cr (V0 (Yf LV O) (V0 (Yd 1 O O O aq) (V0 (Yf LV O) (V0 (Yd 0 O O O aq) (V0 (sw O O O) (V0 (Ym O) ?_))))))))));apply La 5 (x:=true) O O O O Y O O O O O
 ·intro de;refine Vg (Yf Cw O) (Vg (Yd 1 O O O aq) (Vg (Yf Cw O) (Vg (Yd 0 O O O aq) (Vg (sw O O O) ?_))));exact Gt 5 O O O
 refine V0 (Ym O) ?_;apply La 5 (x:=true) O O O O Y O O O O O
 ·intro bK;refine Vg (Yf CB O) (Vg (Yd 1 O O O dA) (Vg (Yf CB O) (Vg (Yd 0 O O O dA) (Lp (.g O O O) O aa3 O (λw hw=>aa_ H1 H2 r1.1.1 r2.1.1 r1.1.2 r2.1.2 R.out w (hw.vs _ (by simp)) (hw.vs _ (by simp)) h1.1 h2.1) ?_))));exact Gt 5 O O O
 refine V0 (Ym O) ?_;apply La 5 (x:=true) O O O O Y O O O O O
 ·intro hY;refine Vg (Yf xI O) (Vg (Yd 1 O O O dA) (Vg (Yf xI O) (Vg (Yd 0 O O O dA) (Lp (.g O O O) O aa3 O (λw hw=>aa_ H1 H2 r1.2.1 r2.2.1 r1.2.2 r2.2.2 R.data w (hw.vs _ (by simp)) (hw.vs _ (by simp)) h1.2 h2.2) ?_))));exact Gt 5 O O O
 refine V0 (Ya O) (Ln (Et (az ?_)));refine R1 O O λw' hw=>?_;exact ⟨O,hw.fr⟩
theorem abT (G:View) (w:World) (hG:Le G w) (hz:Laid G) :
   Calls Tryz.prog 19 #[] w λe w'=>e = .returned (.bool true)/\Ext w w':=by
 refine enter Tryz.func19 O 71 O O ?_;refine CE (Vs:=[G]) (Ws.init (by simp [hG])) (Cs (Cr (V0 (Ya O) (Ln (Et (Cs ?_))))));obtain ⟨o0,o1,code,y2,DB,ki,K3,hle,wL,ad,ay,Ku,hlen,PE,hmr⟩:=asa;refine Cr ?_
 refine Ld Y O Rt O (λq:SP=>.slice q.1 2 q.2) (λF q=>Sl tC 7 F q.1 q.2 [o0,o1]) (λw hw=>by
     have gH:=Rr G w (hw.vs _ (by simp)) hz;rw [ki] at gH
     exact gH) ?_
 intro F9 r9 xA h9
 refine Ld Y O SM O (λq:SP=>.tuple #[.agg #[.slice q.1 (code).length q.2,.int .i64 5],.int .i64 0]) (λF q=>Sl fH 3 F q.1 q.2 code) (λw hw=>by
     have gH:=RR F9 r9.1 r9.2 [o0,o1] w (hw.vs _ (by simp)) h9;rw [K3] at gH
     exact gH) ?_
 intro SN r10 awn eH;obtain ⟨asi,asj,asl,SO⟩:=eH.aZ 0 _ ad;obtain ⟨asm,asn,aso,SQ⟩:=eH.aZ 2 _ ay;have awo:=eH.cap;have awp:=eH.max;have SQ:aT SN asm (asn+2*3) y2.cells:=SQ;have SO:aT SN asi (asj+0*3) (aN.cells ⟨13,22,0⟩):=SO;refine V0 (Ym O) (V0 (Yx O O) (V0 (Yx O O) ?_));refine Al Y O xD λb1=>?_;refine an 0 Y O O O z_ O O O (V0 (Ya O) (Ln (Et (Cs (Cr ?_)))))
 refine Ld Y O Rt O (λq:SP=>.slice q.1 2 q.2) (λF q=>Sl tC 7 F q.1 q.2 [o0,o1]) (λw hw=>by
     have gH:=Rr G w (hw.vs _ (by simp)) hz;rw [ki] at gH
     exact gH) ?_
 intro Cn lu Rf lp;obtain ⟨awq,awr,asp,iR,asq,pU⟩:=lp.aZ 1 _ rfl;have aws:=lp.cap;have awt:=lp.max;refine V0 (Yo (i:=1) jn O O asp (by decide)) (V0 (cM 0 o6 O O O (asq)) ?_);refine Lb Y O aa' O O O O λIY=>?_;refine bH 0 (.cells ((([(o1,iR)]:List XO)).flatMap XO.cells).toArray 27 (0,0)) O O (LW (λ_ h=>h.ou (f:=XO.cells) (xs:=([(o1,iR)]:List XO)) (c:=1) 0 O XO.a8 O (by decide)) ?_)
 refine Ld Y O SM O (λq:SP=>.tuple #[.agg #[.slice q.1 (([]:List aN)).length q.2,.int .i64 0],.int .i64 9]) (λF q=>Sl fH 3 F q.1 q.2 ([]:List aN)) (λw hw=>by
     have h9:=RR (hv w) (some ⟨IY,0,none⟩) 1 [o1] w (iq w) (aa7 (es:=[(o1,iR)]) (hw.Hw (rd:=Rm) 0 rfl XO.a8 (λ_ _ _ _ h=>h)) (λ_ _ h=>h) λe he=>by
       rw [List.mem_singleton] at he;subst he
       exact Rn pU (mm (hw.vs Cn (by simp))))
     rw [wL] at h9
     exact h9) ?_
 intro rB eO BS xF;refine V0 (Ym O) (V0 (Yx O O) (V0 (Yx O O) ?_));refine Al Y O xD λb3=>?_;refine an 0 Y O O O z_ O O O (V0 (Ya O) (Ln (Et (Cs (Cr (V0 (bA 2 O O xE O) ?_))))));refine Lb Y O gG O O O O λPW=>?_;refine bH 0 (.cells ((([1]:List Int)).flatMap mD).toArray 3 (0,0)) O O (LW (λ_ h=>h.ou (f:=mD) (xs:=([1]:List Int)) (c:=1) 0 O yj O (by decide)) ?_);refine WL.v_ (rd:=jd) 0 O yj (λ_ _ _ _ h=>h) λH23 ass=>?_
 refine Ld Y O asd O (λr:SP×SP=>.tuple #[.agg #[.int .i64 (⟨0,[6,7],[6,0,6,0,0],6⟩:Mch.oE).fin,.slice r.1.1 (⟨0,[6,7],[6,0,6,0,0],6⟩:Mch.oE).out.length r.1.2,.slice r.2.1 (⟨0,[6,7],[6,0,6,0,0],6⟩:Mch.oE).data.length r.2.2,.int .i64 (⟨0,[6,7],[6,0,6,0,0],6⟩:Mch.oE).bu],.int .i64 DB,.int .i64 0]) (λF r=>Sl jd 1 F r.1.1 r.1.2 (⟨0,[6,7],[6,0,6,0,0],6⟩:Mch.oE).out/\Sl jd 1 F r.2.1 r.2.2 (⟨0,[6,7],[6,0,6,0,0],6⟩:Mch.oE).data) (λw hw=>by
     have gH:=Mch.arR SN r10.1 r10.2 (code.map toI) 5 H23 (some ⟨PW,0,none⟩) 1 [1] 9 999 w (hw.vs _ (by simp)) (abQ eH) (hw.vs _ (by simp)) (arW ass);rw [PE,hmr,List.length_map] at gH
     exact gH.mono λe w' ⟨r,k1,k2,k3,k4⟩=>⟨r,k1,k2,abR k3,abR k4⟩) ?_
 intro F24 sZ awu h24;refine V0 (Ym O) (V0 (Yx O O) (V0 (Yx O O) (V0 (Yx O O) ?_)));refine Al Y O Ai λb5=>?_;refine an 0 Y O O O CG O O O (V0 (Ya O) (V0 (Ya O) (Ln (Et (Cs (Cr ?_))))))
 refine Ld Y O Rt O (λq:SP=>.slice q.1 2 q.2) (λF q=>Sl tC 7 F q.1 q.2 [o0,o1]) (λw hw=>by
     have gH:=Rr G w (hw.vs _ (by simp)) hz;rw [ki] at gH
     exact gH) ?_
 intro F28 r28 awv h28
 refine Lp Y O ase O (λw hw=>by
     have gH:=aqr F28 r28.1 r28.2 [o0,o1] w (hw.vs _ (by simp)) h28;rw [hle] at gH
     exact gH) ?_
 refine V0 (sw O O O) (V0 (Ym O) ?_);apply La 2 (x:=true) O O O O Y O O O O O
 ·intro de;refine Vg (Ym O) (Vg (sw O O O) ?_);exact Gt 2 O O O
 refine V0 (Ym O) ?_;apply La 2 (x:=true) O O O O Y O O O O O
 ·intro bK;refine Vg (Ym O) (Vg (sw O O O) ?_);exact Gt 2 O O O
 refine V0 (Ym O) ?_;apply La 2 (x:=true) O O O O Y O O O O O
 ·intro hY;refine Vg (Ym O) (Vg (sw O O O) ?_);exact Gt 2 O O O
 refine V0 (Ym O) ?_;apply La 3 (x:=true) O O O O Y O O O O O
 ·intro mM;refine Vg (Yf GH O) (Vg (Yd 3 O O O aq) (Vg (sw O O O) ?_));exact Gt 3 O O O
 refine V0 (Ym O) ?_;apply La 6 (x:=true) O O O O Y O O O O O
 ·intro yG;refine Vg (Yf mb O) (Vg (Yd 3 O O O gn) (Vg (Yo (i:=0) ig O O asl (by show 0<code.length; omega)) (Vg (cM 5 B_ O O O (SO)) (Vg (Yb fk f_ O O) (Vg (acC (r:=true) apO O O O) ?_)))));exact Gt 6 O O O
 refine V0 (Ym O) ?_;apply La 6 (x:=true) O O O O Y O O O O O
 ·intro pO;refine Vg (Yf mb O) (Vg (Yd 3 O O O gn) (Vg (Yo (i:=2) ig O O aso (by show 2<code.length; omega)) (Vg (Yf zZ O) (Vg (dm 5 aq O O (SQ 0 _ O)) (Vg (sw O O Ku) ?_)))));exact Gt 6 O O O
 refine V0 (Ym O) ?_;apply La 5 (x:=true) O O O O Y O O O O O
 ·intro FP;refine Vg (bA 0 O O tL O) ?_;refine Lb (.g O O O) O gG O O O O λb66=>?_;refine bH 0 (.cells ((([6,7]:List Int)).flatMap mD).toArray 3 (0,0)) O O (LW (λ_ h=>h.ou (f:=mD) (xs:=([6,7]:List Int)) (c:=2) 0 O yj O (by decide)) ?_);refine WL.v_ (rd:=jd) 0 O yj (λ_ _ _ _ h=>h) λH66 asz=>?_;refine Lb (.g O O O) O gG O O O O λJe=>?_;refine bH 0 (.cells ((([6,0,6,0,0]:List Int)).flatMap mD).toArray 3 (0,0)) O O (LW (λ_ h=>h.ou (f:=mD) (xs:=([6,0,6,0,0]:List Int)) (c:=5) 0 O yj O (by decide)) ?_);refine WL.v_ (rd:=jd) 0 O yj (λ_ _ _ _ h=>h) λX2 OT=>?_;refine Vg (Yb Ai G6 O O) (Lp (.g O O O) O asf O (λw hw=>asg F24 (hv w) (⟨0,[6,7],[6,0,6,0,0],6⟩:Mch.oE) sZ ((some ⟨b66,0,none⟩,2),(some ⟨Je,0,none⟩,5)) w (hw.vs _ (by simp)) (iq w) h24 ⟨asz.imp λb o x h=>aT.mono (mm (hw.vs H66 (by simp))) h,OT.imp λb o x h=>aT.mono (mm (hw.vs X2 (by simp))) h⟩) ?_);refine WL.wk ?_ (Gt 5 O O O);exact λ_ h=>Ws.bw (h) (λ_ hm=>List.mem_append_right [_,_] hm)
 refine V0 (Ya O) (Ln (Et (az ?_)));refine R1 O O λw' hw=>?_;exact ⟨O,hw.fr⟩
theorem asA (l:List aH):((l.length+1:Nat):Int)=cX l 0:=by simp [cX,sJ]
theorem abW:Enters Tryz.prog 19:=enters_of Tryz.func19 (by kernel_rfl) rfl
theorem SJ:Enters Tryz.prog 23:=enters_of Tryz.func23 (by kernel_rfl) rfl
theorem asB (G H:View) (a:Option Addr) (c:Nat) (l:List aH) (w:World) (hG:Le G w) (hz:Laid G) (hH:Le H w) (hm:Sl tC 7 H a c l) :
   Calls Tryz.prog 7 #[.slice a l.length c] w λe w'=>e = .returned (.bool true)/\Ext w w':=by
 have dQ:=hm.cap;have eB:=hm.max;refine enter Tryz.func7 O 45 O O ?_;refine CE (Vs:=[G,H]) (Ws.init (by simp [hG,hH])) (Cs (Cr (V0 (Ya O) (Ln (Et (Cs (Cr (V0 (Ym O) ?_))))))));refine Ld Y O SM O (λq:SP=>.tuple #[.agg #[.slice q.1 ((dX l).1.1).length q.2,.int .i64 (dX l).1.2],.int .i64 (dX l).2]) (λF q=>Sl fH 3 F q.1 q.2 (dX l).1.1) (λw hw=>RR H a c l w (hw.vs _ (by simp)) hm) ?_;intro F9 r9 xA h9;refine V0 (Ym O) (V0 (Yx O O) (V0 (Yx O O) ?_));refine Al Y O xD λb3=>?_;refine an 0 Y O O O z_ O O O (V0 (Ya O) (Ln (Et (Cs (Cs (Cr (V0 (Ym O) (V0 (jq O O) (Ln (Et ?_))))))))));refine Cc O (λad=>?_) (λad=>?_)
 ·refine Cs (Cr (Lp Y O abW O (λw hw=>abT G w (hw.vs _ (by simp)) hz) (V0 (Ya O) (Ln (Et (az (Er ?_)))))));refine R1 O O λw' hw=>?_;exact ⟨O,hw.fr⟩
 have Gh:(dX l).2=0:=by simpa using ad
 obtain ⟨hE,h2⟩:=SL Gh;have aE:=NM.1 hE;have Ls:=aE.ep;refine Ck (Et (Cs (Cr (V0 (Ym O) (V0 (Yn jn O) (V0 (Yi O O O (by omega)) (V0 (Ya O) (Ln (Et (Cs (Cs ?_)))))))))));rw [asA];refine Cr (V0 (Ya O) (Ln (Et (Cb ?_))));refine CW (ι:=Nat) (λi=>[(6,.int .i64 (i:Int)),(5,.int .i64 (cX l i))]) [(0,_),(2,_),(3,_)] (λi=>i<=l.length) (λi=>l.length-i) 0 (Nat.zero_le _) (sc O (sc O (sc O (sc O (sc O sn))))) ?_;intro i hi;refine Cs (Cs (Cr (V0 (Ym O) (V0 (Ym O) (V0 (Yn jn O) (V0 (bq O O) (Ln (Et ?_))))))));refine Cc O (λar=>?_) (λar=>?_)
 ·have aw:i<l.length:=by simpa using ar
  obtain ⟨o,dD⟩:∃q,l[i]? = some q:=⟨_,List.getElem?_eq_getElem aw⟩;obtain ⟨Gm,Gn,rW,pt⟩:=hm.aZ i o dD;obtain ⟨qo,rY,dr⟩:=pt;have tG:=List.mem_of_getElem? dD;have Gp:=dr.ae.cap;have Gq:=dr.ae.max;have Gr:=dr.fix.cap;have Gu:=dr.fix.max;have Gv:=dr.code.cap;have Gw:=dr.code.max;have xR:=RP dD;have Rx:=Bg aE.ep aE.mI (k:=i) (by omega);refine Ck (Et (Cs (Cb (Cr (V0 (Ym O) (V0 (Ym O) (V0 (Ym O) (V0 (Yo jn O O rW aw) (V0 (Yf mY O) (V0 (dm 2 gn O O (rY 3 _ O)) (V0 (Yn ig O) ?_)))))))))));refine V0 (lH O O (by omega)) ?_;rw [<-IA dD];refine V0 (Ya O) (Ln (Eb (Et (Cr (V0 (Ym O) (V0 (Yi O O O (by omega)) (V0 (Ya O) (Ln ?_))))))));exact Ea (i+1) (by omega) (by omega) (sc O (sc O (sc O (sc O (sc O sn))))) (λ_ h=>h)
 have cz:i=l.length:=by simp at ar; omega
 rw [cz];refine Ce (Ex (Ex (cf (Et (Cs (Cr (Lp Y O abW O (λw hw=>abT G w (hw.vs _ (by simp)) hz) (V0 (Ym O) ?_))))))));apply La 3 (x:=true) O O O O Y O O O O O
 ·intro de;refine Vg (bA 0 O O xE O) ?_
  refine Lp (.g O O O) O SJ O (λw hw=>by
      have gH:=Mch.abv F9 r9.1 r9.2 ((dX l).1.1.map toI) (dX l).1.2 w (hw.vs _ (by simp)) (abQ h9);rw [asb Gh,List.length_map] at gH
      exact gH) ?_
  refine Vg (sw O O O) ?_;exact Gt 3 O O O
 refine V0 (Ym O) ?_;apply La 5 (x:=true) O O O O Y O O O O O
 ·intro bK;refine Vg (Yf mb O) (Vg (Yd 0 O O O gn) (Vg (Yn ig O) (Vg (Ym O) (Vg (sw O O (asc Gh)) ?_))));exact Gt 5 O O O
 refine V0 (Ya O) (Ln (Et (az ?_)));refine R1 O O λw' hw=>?_;exact ⟨O,hw.fr⟩
end Go.Proofs.YtplfmnkmlaolpaaGreatDoor
end
