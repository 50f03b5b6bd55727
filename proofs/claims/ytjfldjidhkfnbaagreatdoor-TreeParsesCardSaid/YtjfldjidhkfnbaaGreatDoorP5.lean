/- The law TreeParses: whatever text comes in, the call returns true and leaves it as it reads; the library's listed variables hold what the program's text lays. -/
import Derived.Test.YtjfldjidhkfnbaaGreatDoorP4
set_option linter.unusedVariables false
set_option linter.unusedSimpArgs false
section
namespace Go.Proofs.YtjfldjidhkfnbaaGreatDoor
open Go.Bw
set_option linter.unusedVariables false
set_option linter.unusedSimpArgs false
theorem lookB_no {l:List TStmt} {lv d:Nat} (h:¬6<d):lookB l lv d=(((lv==2)&&decide (10<l.length))||lookSs l lv d):=by unfold lookB blkL; rw [if_neg h]
def LookB (H:View) (ke k lv:Nat):Prop:=∀(l:List TStmt) (a:Option Addr) (n d:Nat) (w:World),Le H w→d≤7→Sl (RdS ke k) 6 H a n l→Calls Tryz.prog 41 #[.slice a l.length n,.int .i64 (lv:Int),.int .i64 (d:Int)] w fun e w'=>e = .returned (.bool (lookB l lv d))∧Ext w w'
theorem str_one (s:Tx):(strC s).all (·.oneCell')=true:=rfl
theorem modL_end {m:TMod} {lv:Nat} (h0:(((lv==2)&&((decide (3<m.uses.length)||decide (10<m.decls.length))||decide (6<m.procs.length)))||badN lv m.nm)=false) (h1:m.uses.any (badN lv)=false) (h2:m.decls.any (declL lv)=false) (h3:m.procs.any (procL lv)=false):modL m lv=lookB m.main lv 1:=by
 unfold modL; rw [h0,h1,h2,h3]; rfl
theorem modL_0 {m:TMod} {lv:Nat} (h0:(((lv==2)&&((decide (3<m.uses.length)||decide (10<m.decls.length))||decide (6<m.procs.length)))||badN lv m.nm)=true):modL m lv=true:=by unfold modL; rw [h0]; rfl
theorem modL_1 {m:TMod} {lv:Nat} (h:m.uses.any (badN lv)=true):modL m lv=true:=by unfold modL; rw [h]; simp
theorem modL_2 {m:TMod} {lv:Nat} (h:m.decls.any (declL lv)=true):modL m lv=true:=by unfold modL; rw [h]; simp
theorem modL_3 {m:TMod} {lv:Nat} (h:m.procs.any (procL lv)=true):modL m lv=true:=by unfold modL; rw [h]; simp
theorem en41:Enters Tryz.prog 41:=enters_of Tryz.func41 (by kernel_rfl) rfl
theorem en88:Enters Tryz.prog 88:=enters_of Tryz.func88 (by kernel_rfl) rfl
theorem en90:Enters Tryz.prog 90:=enters_of Tryz.func90 (by kernel_rfl) rfl
theorem en70:Enters Tryz.prog 70:=enters_of Tryz.func70 (by kernel_rfl) rfl
theorem en23:Enters Tryz.prog 23:=enters_of Tryz.func23 (by kernel_rfl) rfl
theorem stmtLook_any (H:View) (ke k:Nat) (x:TStmt) (a:Option Addr) (n:Nat) (a2:Option Addr) (n2:Nat) (a3:Option Addr) (n3 lv d:Nat) (w:World) (hH:Le H w) (hlv:1≤lv∧lv≤3) (hd0:d≤6) (hB:LookB H ke k lv) (hs1:Sl (RdE ke) 5 H a n x.args) (hs2:Sl (RdS ke k) 6 H a2 n2 x.body) (hs3:Sl (RdS ke k) 6 H a3 n3 x.other) :
   Calls Tryz.prog 70 #[.agg #[.int .i64 x.op,st x.mod,st x.nm,.slice a x.args.length n,.slice a2 x.body.length n2,.slice a3 x.other.length n3],.int .i64 (lv:Int),.int .i64 (d:Int)] w fun e w'=>e = .returned (.bool (lookS x lv d))∧Ext w w':=by
 have hcap:=hs1.cap
 have hmax:=hs1.max
 have hcap2:=hs2.cap
 have hcap3:=hs3.cap
 have hmax2:=hs2.max
 have hmax3:=hs3.max
 have hE:=lookS_eq x lv d
 refine enter Tryz.func70 rfl 144 rfl rfl ?_
 refine CWd (W':=Ws w [] [] [H]) (fun _ e=>by subst e; exact Ws.init (by simp [hH])) ?_
 refine Cs (Cr ?_)
 refine WL.box (.inl rfl) rfl rfl fun b3=>?_
 refine V0 (Ya rfl) ?_
 refine Ln (Et (Cs (Cs (Cr ?_))))
 refine V0 (Ym rfl) ?_
 refine Ln (Et (Cb (Cs (Cr ?_))))
 refine V0 (yl_eq rfl rfl) ?_
 refine V0 (Ya rfl) ?_
 refine Ln (Et ?_)
 refine Cc rfl (fun hc0=>?_) (fun hc0=>?_)
 ·
  have hl:lv=1:=by simp at hc0; omega
  subst hl
  refine Cs (Cr ?_)
  refine V0 (Yf fo43_0 rfl) ?_
  refine V0 (Yd 0 rfl rfl rfl na3) ?_
  refine Lp (.inl rfl) rfl en40 rfl (fun w hw=>within_any _ _ _ w) ?_
  refine V0 (yl_not rfl) ?_
  refine Ln (Et ?_)
  refine Cc rfl (fun hc1=>?_) (fun hc1=>?_)
  ·
   have hy:lvS 1 x.op x.mod x.nm x.args.length x.body.length x.other.length=true:=hc1
   refine Cs (Cr ?_)
   refine V0 (Ya rfl) ?_
   refine Ln (Et (Crt (Ebr (Er ?_))))
   refine WE.ret1 rfl rfl fun w' hw=>?_
   exact ⟨by rw [hE,hy]; rfl,hw.fr⟩
  ·
   have hno:lvS 1 x.op x.mod x.nm x.args.length x.body.length x.other.length=false:=hc1
   refine Ck (Eb (Et (Cs (Cs (Cr ?_)))))
   refine V0 (Ya rfl) ?_
   refine Ln (Et (Cb ?_))
   refine CW (ι:=Nat) (fun i=>[(7,.int .i64 (i:Int))]) [(1,_),(2,_),(3,_)] (fun i=>i≤x.args.length∧∀j y,j<i→x.args[j]? = some y→lookE y 1 1=false) (fun i=>x.args.length-i) 0 ⟨Nat.zero_le _,by simp⟩ (sc rfl (sc rfl (sc rfl (sc rfl sn)))) ?_
   intro i ⟨hi,hall⟩
   refine Cs (Cs (Cr ?_))
   refine V0 (Ym rfl) ?_
   refine V0 (Yf fo43_3 rfl) ?_
   refine V0 (Yd 0 rfl rfl rfl na41) ?_
   refine V0 (Yn es41 rfl) ?_
   refine V0 (yl_lt rfl rfl) ?_
   refine Ln (Et ?_)
   refine Cc rfl (fun hc6=>?_) (fun hc6=>?_)
   ·
    have hlt:i<x.args.length:=by simpa using hc6
    obtain ⟨y,hyi⟩:∃q,x.args[i]? = some q:=⟨_,List.getElem?_eq_getElem hlt⟩
    obtain ⟨pby,poy,hay,hry⟩:=hs1.elt i y hyi
    obtain ⟨k2,rfl⟩:∃k2,ke=k2+1:=by
      cases ke with
      | zero=>exact hry.elim
      | succ k2=>exact ⟨k2,rfl⟩
    obtain ⟨ya,yn,hrow,hsub⟩:=hry
    refine Ck (Et (Cs (Cb (Cs (Cr ?_)))))
    refine V0 (Yf fo43_3 rfl) ?_
    refine V0 (Yd 0 rfl rfl rfl na41) ?_
    refine V0 (Ym rfl) ?_
    refine V0 (Yo es41 rfl rfl hay (by omega)) ?_
    refine V0 (yl_lda 0 ag81 rfl rfl rfl (hrow)) ?_
    refine V0 (Ym rfl) ?_
    refine Lp (.inl rfl) rfl en91 rfl (fun w hw=>exprLook_any H k2 y ya yn _ 1 w (hw.vs _ (by simp)) hlv (by omega) hsub) ?_
    refine Ln (Et ?_)
    refine Cc rfl (fun hc7=>?_) (fun hc7=>?_)
    ·
     refine Cs (Cr ?_)
     refine V0 (Ya rfl) ?_
     refine Ln (Et (Crt (Ebr (Er (Er ?_)))))
     refine Ebr (Er ?_)
     refine WE.ret1 rfl rfl fun w' hw=>?_
     exact ⟨by rw [hE,lookEs_any,any_at hyi hc7,Bool.or_true,Bool.true_or],hw.fr⟩
    ·
     refine Ck (Eb (Et (Cr ?_)))
     refine V0 (Ym rfl) ?_
     refine V0 (Yi rfl rfl rfl (by omega)) ?_
     refine V0 (Ya rfl) ?_
     refine Ln ?_
     exact Ea (i+1) (by omega) ⟨by omega,fun j z hj hz=>by rcases Nat.lt_succ_iff_lt_or_eq.1 hj with h | rfl; exact hall j z h hz; rw [hyi] at hz; injection hz with hz; subst hz; exact hc7⟩ (sc rfl (sc rfl (sc rfl (sc rfl sn)))) (fun _ h=>h)
   ·
    have hge:¬i<x.args.length:=by simpa using hc6
    have hnn:lookEs x.args 1 1=false:=by rw [lookEs_any]; exact any_false fun j y hj=>hall j y (by have:=(List.getElem?_eq_some_iff.1 hj).1; omega) hj
    refine Ce (Ex (Ex (Ebh (Et (Cs ?_)))))
    refine Cr ?_
    refine V0 (Yf fo43_0 rfl) ?_
    refine V0 (Yd 0 rfl rfl rfl na3) ?_
    refine V0 (yl_eq rfl rfl) ?_
    refine V0 (Ym rfl) ?_
    apply WL.or 3 rfl rfl rfl rfl (.inl rfl) rfl rfl rfl rfl rfl
    ·
     intro hg0
     refine Lv (.g rfl rfl rfl) rfl (Yf fo43_0 rfl) ?_
     refine Lv (.g rfl rfl rfl) rfl (Yd 0 rfl rfl rfl na3) ?_
     refine Lv (.g rfl rfl rfl) rfl (yl_eq rfl rfl) ?_
     exact Gt 3 rfl rfl rfl
    refine V0 (Ya rfl) ?_
    refine Ln (Et (Cs (Cr ?_)))
    refine V0 (Ym rfl) ?_
    refine V0 (Ym rfl) ?_
    apply WL.or 4 rfl rfl rfl rfl (.inl rfl) rfl rfl rfl rfl rfl
    ·
     intro hg1
     refine Lv (.g rfl rfl rfl) rfl (Yf fo43_4 rfl) ?_
     refine Lv (.g rfl rfl rfl) rfl (Yd 0 rfl rfl rfl na25) ?_
     refine Lv (.g rfl rfl rfl) rfl (Yn es25 rfl) ?_
     refine Lv (.g rfl rfl rfl) rfl (yl_gt rfl rfl) ?_
     rw [int_lt0]
     exact Gt 4 rfl rfl rfl
    refine V0 (Ym rfl) ?_
    apply WL.and 6 rfl rfl rfl rfl (.inl rfl) rfl rfl rfl rfl rfl
    ·
     intro hg2
     refine Lv (.g rfl rfl rfl) rfl (Yf fo43_4 rfl) ?_
     refine Lv (.g rfl rfl rfl) rfl (Yd 0 rfl rfl rfl na25) ?_
     refine Lv (.g rfl rfl rfl) rfl (Ym rfl) ?_
     refine Lv (.g rfl rfl rfl) rfl (Ym rfl) ?_
     refine Lv (.g rfl rfl rfl) rfl (Yi rfl rfl rfl (by omega)) ?_
     refine Lp (.g rfl rfl rfl) rfl en41 rfl (fun w hw=>hB x.body a2 n2 (d+1) w (hw.vs _ (by simp)) (by omega) hs2) ?_
     exact Gt 6 rfl rfl rfl
    refine V0 (Ym rfl) ?_
    apply WL.or 12 rfl rfl rfl rfl (.inl rfl) rfl rfl rfl rfl rfl
    ·
     intro hg3
     refine Lv (.g rfl rfl rfl) rfl (Yf fo43_5 rfl) ?_
     refine Lv (.g rfl rfl rfl) rfl (Yd 0 rfl rfl rfl na25) ?_
     refine Lv (.g rfl rfl rfl) rfl (Yn es25 rfl) ?_
     refine Lv (.g rfl rfl rfl) rfl (yl_gt rfl rfl) ?_
     rw [int_lt0]
     refine Lv (.g rfl rfl rfl) rfl (Ym rfl) ?_
     apply WL.and 6 rfl rfl rfl rfl (.g rfl rfl rfl) rfl rfl rfl rfl rfl
     ·
      intro hg4
      refine Lv (.g rfl rfl rfl) rfl (Yf fo43_5 rfl) ?_
      refine Lv (.g rfl rfl rfl) rfl (Yd 0 rfl rfl rfl na25) ?_
      refine Lv (.g rfl rfl rfl) rfl (Ym rfl) ?_
      refine Lv (.g rfl rfl rfl) rfl (Ym rfl) ?_
      refine Lv (.g rfl rfl rfl) rfl (Yi rfl rfl rfl (by omega)) ?_
      refine Lp (.g rfl rfl rfl) rfl en41 rfl (fun w hw=>hB x.other a3 n3 (d+1) w (hw.vs _ (by simp)) (by omega) hs3) ?_
      exact Gt 6 rfl rfl rfl
     exact Gt 6 rfl rfl rfl
    refine V0 (Ya rfl) ?_
    refine Ln (Et (Crt ?_))
    refine WE.ret1 rfl rfl fun w' hw=>?_
    exact ⟨by rw [hE,hno,hnn]; rfl,hw.fr⟩
 ·
  have hl1:¬lv=1:=by simp at hc0; omega
  refine Cs (Cr ?_)
  refine V0 (yl_eq rfl rfl) ?_
  refine V0 (Ya rfl) ?_
  refine Ln (Et ?_)
  refine Cc rfl (fun hc2=>?_) (fun hc2=>?_)
  ·
   have hl:lv=2:=by simp at hc2; omega
   subst hl
   refine Cs (Cr ?_)
   refine V0 (Yf fo43_3 rfl) ?_
   refine V0 (Yd 0 rfl rfl rfl na41) ?_
   refine V0 (Yn es41 rfl) ?_
   refine V0 (yl_gt rfl rfl) ?_
   rw [int_lt3]
   refine Ln (Et ?_)
   refine Cc rfl (fun hc3=>?_) (fun hc3=>?_)
   ·
    have hy:lvS 2 x.op x.mod x.nm x.args.length x.body.length x.other.length=true:=hc3
    refine Cs (Cr ?_)
    refine V0 (Ya rfl) ?_
    refine Ln (Et (Crt (Ebr (Er ?_))))
    refine WE.ret1 rfl rfl fun w' hw=>?_
    exact ⟨by rw [hE,hy]; rfl,hw.fr⟩
   ·
    have hno:lvS 2 x.op x.mod x.nm x.args.length x.body.length x.other.length=false:=hc3
    refine Ck (Eb (Et (Cs (Cs (Cr ?_)))))
    refine V0 (Ya rfl) ?_
    refine Ln (Et (Cb ?_))
    refine CW (ι:=Nat) (fun i=>[(7,.int .i64 (i:Int))]) [(1,_),(2,_),(3,_)] (fun i=>i≤x.args.length∧∀j y,j<i→x.args[j]? = some y→lookE y 2 1=false) (fun i=>x.args.length-i) 0 ⟨Nat.zero_le _,by simp⟩ (sc rfl (sc rfl (sc rfl (sc rfl sn)))) ?_
    intro i ⟨hi,hall⟩
    refine Cs (Cs (Cr ?_))
    refine V0 (Ym rfl) ?_
    refine V0 (Yf fo43_3 rfl) ?_
    refine V0 (Yd 0 rfl rfl rfl na41) ?_
    refine V0 (Yn es41 rfl) ?_
    refine V0 (yl_lt rfl rfl) ?_
    refine Ln (Et ?_)
    refine Cc rfl (fun hc6=>?_) (fun hc6=>?_)
    ·
     have hlt:i<x.args.length:=by simpa using hc6
     obtain ⟨y,hyi⟩:∃q,x.args[i]? = some q:=⟨_,List.getElem?_eq_getElem hlt⟩
     obtain ⟨pby,poy,hay,hry⟩:=hs1.elt i y hyi
     obtain ⟨k2,rfl⟩:∃k2,ke=k2+1:=by
       cases ke with
       | zero=>exact hry.elim
       | succ k2=>exact ⟨k2,rfl⟩
     obtain ⟨ya,yn,hrow,hsub⟩:=hry
     refine Ck (Et (Cs (Cb (Cs (Cr ?_)))))
     refine V0 (Yf fo43_3 rfl) ?_
     refine V0 (Yd 0 rfl rfl rfl na41) ?_
     refine V0 (Ym rfl) ?_
     refine V0 (Yo es41 rfl rfl hay (by omega)) ?_
     refine V0 (yl_lda 0 ag81 rfl rfl rfl (hrow)) ?_
     refine V0 (Ym rfl) ?_
     refine Lp (.inl rfl) rfl en91 rfl (fun w hw=>exprLook_any H k2 y ya yn _ 1 w (hw.vs _ (by simp)) hlv (by omega) hsub) ?_
     refine Ln (Et ?_)
     refine Cc rfl (fun hc7=>?_) (fun hc7=>?_)
     ·
      refine Cs (Cr ?_)
      refine V0 (Ya rfl) ?_
      refine Ln (Et (Crt (Ebr (Er (Er ?_)))))
      refine Ebr (Er ?_)
      refine WE.ret1 rfl rfl fun w' hw=>?_
      exact ⟨by rw [hE,lookEs_any,any_at hyi hc7,Bool.or_true,Bool.true_or],hw.fr⟩
     ·
      refine Ck (Eb (Et (Cr ?_)))
      refine V0 (Ym rfl) ?_
      refine V0 (Yi rfl rfl rfl (by omega)) ?_
      refine V0 (Ya rfl) ?_
      refine Ln ?_
      exact Ea (i+1) (by omega) ⟨by omega,fun j z hj hz=>by rcases Nat.lt_succ_iff_lt_or_eq.1 hj with h | rfl; exact hall j z h hz; rw [hyi] at hz; injection hz with hz; subst hz; exact hc7⟩ (sc rfl (sc rfl (sc rfl (sc rfl sn)))) (fun _ h=>h)
    ·
     have hge:¬i<x.args.length:=by simpa using hc6
     have hnn:lookEs x.args 2 1=false:=by rw [lookEs_any]; exact any_false fun j y hj=>hall j y (by have:=(List.getElem?_eq_some_iff.1 hj).1; omega) hj
     refine Ce (Ex (Ex (Ebh (Et (Cs ?_)))))
     refine Cr ?_
     refine V0 (Yf fo43_0 rfl) ?_
     refine V0 (Yd 0 rfl rfl rfl na3) ?_
     refine V0 (yl_eq rfl rfl) ?_
     refine V0 (Ym rfl) ?_
     apply WL.or 3 rfl rfl rfl rfl (.inl rfl) rfl rfl rfl rfl rfl
     ·
      intro hg0
      refine Lv (.g rfl rfl rfl) rfl (Yf fo43_0 rfl) ?_
      refine Lv (.g rfl rfl rfl) rfl (Yd 0 rfl rfl rfl na3) ?_
      refine Lv (.g rfl rfl rfl) rfl (yl_eq rfl rfl) ?_
      exact Gt 3 rfl rfl rfl
     refine V0 (Ya rfl) ?_
     refine Ln (Et (Cs (Cr ?_)))
     refine V0 (Ym rfl) ?_
     refine V0 (Ym rfl) ?_
     apply WL.or 4 rfl rfl rfl rfl (.inl rfl) rfl rfl rfl rfl rfl
     ·
      intro hg1
      refine Lv (.g rfl rfl rfl) rfl (Yf fo43_4 rfl) ?_
      refine Lv (.g rfl rfl rfl) rfl (Yd 0 rfl rfl rfl na25) ?_
      refine Lv (.g rfl rfl rfl) rfl (Yn es25 rfl) ?_
      refine Lv (.g rfl rfl rfl) rfl (yl_gt rfl rfl) ?_
      rw [int_lt0]
      exact Gt 4 rfl rfl rfl
     refine V0 (Ym rfl) ?_
     apply WL.and 6 rfl rfl rfl rfl (.inl rfl) rfl rfl rfl rfl rfl
     ·
      intro hg2
      refine Lv (.g rfl rfl rfl) rfl (Yf fo43_4 rfl) ?_
      refine Lv (.g rfl rfl rfl) rfl (Yd 0 rfl rfl rfl na25) ?_
      refine Lv (.g rfl rfl rfl) rfl (Ym rfl) ?_
      refine Lv (.g rfl rfl rfl) rfl (Ym rfl) ?_
      refine Lv (.g rfl rfl rfl) rfl (Yi rfl rfl rfl (by omega)) ?_
      refine Lp (.g rfl rfl rfl) rfl en41 rfl (fun w hw=>hB x.body a2 n2 (d+1) w (hw.vs _ (by simp)) (by omega) hs2) ?_
      exact Gt 6 rfl rfl rfl
     refine V0 (Ym rfl) ?_
     apply WL.or 12 rfl rfl rfl rfl (.inl rfl) rfl rfl rfl rfl rfl
     ·
      intro hg3
      refine Lv (.g rfl rfl rfl) rfl (Yf fo43_5 rfl) ?_
      refine Lv (.g rfl rfl rfl) rfl (Yd 0 rfl rfl rfl na25) ?_
      refine Lv (.g rfl rfl rfl) rfl (Yn es25 rfl) ?_
      refine Lv (.g rfl rfl rfl) rfl (yl_gt rfl rfl) ?_
      rw [int_lt0]
      refine Lv (.g rfl rfl rfl) rfl (Ym rfl) ?_
      apply WL.and 6 rfl rfl rfl rfl (.g rfl rfl rfl) rfl rfl rfl rfl rfl
      ·
       intro hg4
       refine Lv (.g rfl rfl rfl) rfl (Yf fo43_5 rfl) ?_
       refine Lv (.g rfl rfl rfl) rfl (Yd 0 rfl rfl rfl na25) ?_
       refine Lv (.g rfl rfl rfl) rfl (Ym rfl) ?_
       refine Lv (.g rfl rfl rfl) rfl (Ym rfl) ?_
       refine Lv (.g rfl rfl rfl) rfl (Yi rfl rfl rfl (by omega)) ?_
       refine Lp (.g rfl rfl rfl) rfl en41 rfl (fun w hw=>hB x.other a3 n3 (d+1) w (hw.vs _ (by simp)) (by omega) hs3) ?_
       exact Gt 6 rfl rfl rfl
      exact Gt 6 rfl rfl rfl
     refine V0 (Ya rfl) ?_
     refine Ln (Et (Crt ?_))
     refine WE.ret1 rfl rfl fun w' hw=>?_
     exact ⟨by rw [hE,hno,hnn]; rfl,hw.fr⟩
  ·
   have hl2:¬lv=2:=by simp at hc2; omega
   refine Cs (Cr ?_)
   refine V0 (yl_eq rfl rfl) ?_
   refine V0 (Ya rfl) ?_
   refine Ln (Et ?_)
   refine Cc rfl (fun hc4=>?_) (fun hc4=>?_)
   ·
    have hl:lv=3:=by simp at hc4; omega
    subst hl
    refine Cs ?_
    refine WC.draws0 [(0,true),(1,true),(2,false),(3,true),(4,true),(5,true),(6,true),(7,true),(8,false),(9,true),(10,true),(11,true),(12,true),(13,true),(14,false),(15,true),(16,true),(17,true),(18,true),(19,true),(20,true),(21,true),(22,true),(23,true),(24,true),(25,true),(26,true),(27,true),(28,true),(29,true),(30,false),(31,true),(32,true),(33,true),(34,true),(35,true),(36,true),(37,true),(38,false),(39,true),(40,true),(41,true),(42,true),(43,true),(44,true),(45,true),(46,true),(47,true),(48,true),(49,true),(50,true),(51,true),(52,true),(53,true),(54,true),(55,true),(56,true),(57,true),(58,true),(59,true),(60,true),(61,true),(62,true),(63,true),(64,true),(65,true),(66,true),(67,true),(68,true)] mixed (by kernel_rfl) (fun _ _ _ d _ h=>by cases d<;>exact h) ?_
    refine Dq rfl (.inl rfl) rfl (fun _ h=>h) (Yf fo43_0 rfl) ?_
    refine Dq rfl (.inl rfl) rfl (fun _ h=>h) (Yd 0 rfl rfl rfl na3) ?_
    refine De rfl (fun _ h=>h) ?_
    refine Lp (.inl rfl) rfl en88 rfl (fun w hw=>stmtRef_any _ w) ?_
    refine Ln (Ed ?_)
    refine Dq rfl (.inl rfl) rfl (fun _ h=>h) (Ym rfl) ?_
    apply WD.and 6 rfl rfl rfl rfl rfl (.inl rfl) rfl (fun _ h=>h) rfl rfl rfl rfl
    ·
     intro hg5
     refine Dq rfl (.g rfl rfl rfl) rfl (fun _ h=>h) (Yf fo43_1 rfl) ?_
     refine Dq rfl (.g rfl rfl rfl) rfl (fun _ h=>h) (Yd 0 rfl rfl rfl na9) ?_
     refine Dq rfl (.g rfl rfl rfl) rfl (fun _ h=>h) (Yf fo43_2 rfl) ?_
     refine Dq rfl (.g rfl rfl rfl) rfl (fun _ h=>h) (Yd 0 rfl rfl rfl na9) ?_
     refine De rfl (fun _ h=>h) ?_
     refine Lp (.g rfl rfl rfl) rfl en89 rfl (fun w hw=>refFine_any _ _ w) ?_
     refine Ln (Ed ?_)
     refine Dq rfl (.g rfl rfl rfl) rfl (fun _ h=>h) (yl_not rfl) ?_
     exact Gi 6 (fun _ h=>h) rfl rfl rfl
    refine Dq rfl (.inl rfl) rfl (fun _ h=>h) (Ym rfl) ?_
    apply WD.or 14 (x:=(!within_ x.op 1 3&&(!(x.mod==[])||!(x.nm==[])))) rfl rfl rfl rfl rfl (.inl rfl) rfl (fun _ h=>h) rfl rfl rfl rfl
    ·
     intro hg6
     refine Dq rfl (.g rfl rfl rfl) rfl (fun _ h=>h) (Yf fo43_0 rfl) ?_
     refine Dq rfl (.g rfl rfl rfl) rfl (fun _ h=>h) (Yd 0 rfl rfl rfl na3) ?_
     refine De rfl (fun _ h=>h) ?_
     refine Lp (.g rfl rfl rfl) rfl en88 rfl (fun w hw=>stmtRef_any _ w) ?_
     refine Ln (Ed ?_)
     refine Dq rfl (.g rfl rfl rfl) rfl (fun _ h=>h) (yl_not rfl) ?_
     refine Dq rfl (.g rfl rfl rfl) rfl (fun _ h=>h) (Ym rfl) ?_
     apply WD.and 8 rfl rfl rfl rfl rfl (.g rfl rfl rfl) rfl (fun _ h=>h) rfl rfl rfl rfl
     ·
      intro hg7
      refine Dq rfl (.g rfl rfl rfl) rfl (fun _ h=>h) (Yf fo43_1 rfl) ?_
      refine Dq rfl (.g rfl rfl rfl) rfl (fun _ h=>h) (Yd 0 rfl rfl rfl na9) ?_
      refine Dq rfl (.g rfl rfl rfl) rfl (fun _ h=>h) (yl_nes rfl rfl) ?_
      refine Dq rfl (.g rfl rfl rfl) rfl (fun _ h=>h) (Ym rfl) ?_
      apply WD.or 3 rfl rfl rfl rfl rfl (.g rfl rfl rfl) rfl (fun _ h=>h) rfl rfl rfl rfl
      ·
       intro hg8
       refine Dq rfl (.g rfl rfl rfl) rfl (fun _ h=>h) (Yf fo43_2 rfl) ?_
       refine Dq rfl (.g rfl rfl rfl) rfl (fun _ h=>h) (Yd 0 rfl rfl rfl na9) ?_
       refine Dq rfl (.g rfl rfl rfl) rfl (fun _ h=>h) (yl_nes rfl rfl) ?_
       exact Gi 3 (fun _ h=>h) rfl rfl rfl
      exact Gi 5 (fun _ h=>h) rfl rfl rfl
     exact Gi 6 (fun _ h=>h) rfl rfl rfl
    refine Dq rfl (.inl rfl) rfl (fun _ h=>h) (Ym rfl) ?_
    apply WD.or 13 rfl rfl rfl rfl rfl (.inl rfl) rfl (fun _ h=>h) rfl rfl rfl rfl
    ·
     intro hg9
     refine Dq rfl (.g rfl rfl rfl) rfl (fun _ h=>h) (Yf fo43_0 rfl) ?_
     refine Dq rfl (.g rfl rfl rfl) rfl (fun _ h=>h) (Yd 0 rfl rfl rfl na3) ?_
     refine De rfl (fun _ h=>h) ?_
     refine Lp (.g rfl rfl rfl) rfl en90 rfl (fun w hw=>stmtArgs_any _ w) ?_
     refine Ln (Ed ?_)
     refine Dq rfl (.g rfl rfl rfl) rfl (fun _ h=>h) (yl_ge rfl rfl) ?_
     refine Dq rfl (.g rfl rfl rfl) rfl (fun _ h=>h) (Ym rfl) ?_
     apply WD.and 7 rfl rfl rfl rfl rfl (.g rfl rfl rfl) rfl (fun _ h=>h) rfl rfl rfl rfl
     ·
      intro hg10
      refine Dq rfl (.g rfl rfl rfl) rfl (fun _ h=>h) (Yf fo43_3 rfl) ?_
      refine Dq rfl (.g rfl rfl rfl) rfl (fun _ h=>h) (Yd 0 rfl rfl rfl na41) ?_
      refine Dq rfl (.g rfl rfl rfl) rfl (fun _ h=>h) (Yn es41 rfl) ?_
      refine Dq rfl (.g rfl rfl rfl) rfl (fun _ h=>h) (Yf fo43_0 rfl) ?_
      refine Dq rfl (.g rfl rfl rfl) rfl (fun _ h=>h) (Yd 0 rfl rfl rfl na3) ?_
      refine De rfl (fun _ h=>h) ?_
      refine Lp (.g rfl rfl rfl) rfl en90 rfl (fun w hw=>stmtArgs_any _ w) ?_
      refine Ln (Ed ?_)
      refine Dq rfl (.g rfl rfl rfl) rfl (fun _ h=>h) (yl_ne rfl rfl) ?_
      exact Gi 7 (fun _ h=>h) rfl rfl rfl
     exact Gi 6 (fun _ h=>h) rfl rfl rfl
    refine Dq rfl (.inl rfl) rfl (fun _ h=>h) (Ym rfl) ?_
    apply WD.or 14 (x:=((!(x.op==4)&&!(x.op==5))&&decide (0<x.body.length))) rfl rfl rfl rfl rfl (.inl rfl) rfl (fun _ h=>h) rfl rfl rfl rfl
    ·
     intro hg11
     refine Dq rfl (.g rfl rfl rfl) rfl (fun _ h=>h) (Yf fo43_0 rfl) ?_
     refine Dq rfl (.g rfl rfl rfl) rfl (fun _ h=>h) (Yd 0 rfl rfl rfl na3) ?_
     refine Dq rfl (.g rfl rfl rfl) rfl (fun _ h=>h) (yl_ne rfl rfl) ?_
     refine Dq rfl (.g rfl rfl rfl) rfl (fun _ h=>h) (Ym rfl) ?_
     apply WD.and 3 rfl rfl rfl rfl rfl (.g rfl rfl rfl) rfl (fun _ h=>h) rfl rfl rfl rfl
     ·
      intro hg12
      refine Dq rfl (.g rfl rfl rfl) rfl (fun _ h=>h) (Yf fo43_0 rfl) ?_
      refine Dq rfl (.g rfl rfl rfl) rfl (fun _ h=>h) (Yd 0 rfl rfl rfl na3) ?_
      refine Dq rfl (.g rfl rfl rfl) rfl (fun _ h=>h) (yl_ne rfl rfl) ?_
      exact Gi 3 (fun _ h=>h) rfl rfl rfl
     refine Dq rfl (.g rfl rfl rfl) rfl (fun _ h=>h) (Ym rfl) ?_
     apply WD.and 4 rfl rfl rfl rfl rfl (.g rfl rfl rfl) rfl (fun _ h=>h) rfl rfl rfl rfl
     ·
      intro hg13
      refine Dq rfl (.g rfl rfl rfl) rfl (fun _ h=>h) (Yf fo43_4 rfl) ?_
      refine Dq rfl (.g rfl rfl rfl) rfl (fun _ h=>h) (Yd 0 rfl rfl rfl na25) ?_
      refine Dq rfl (.g rfl rfl rfl) rfl (fun _ h=>h) (Yn es25 rfl) ?_
      refine Dq rfl (.g rfl rfl rfl) rfl (fun _ h=>h) (yl_gt rfl rfl) ?_
      rw [int_lt0]
      exact Gi 4 (fun _ h=>h) rfl rfl rfl
     exact Gi 7 (fun _ h=>h) rfl rfl rfl
    refine Dq rfl (.inl rfl) rfl (fun _ h=>h) (Ym rfl) ?_
    apply WD.or 9 rfl rfl rfl rfl rfl (.inl rfl) rfl (fun _ h=>h) rfl rfl rfl rfl
    ·
     intro hg14
     refine Dq rfl (.g rfl rfl rfl) rfl (fun _ h=>h) (Yf fo43_0 rfl) ?_
     refine Dq rfl (.g rfl rfl rfl) rfl (fun _ h=>h) (Yd 0 rfl rfl rfl na3) ?_
     refine Dq rfl (.g rfl rfl rfl) rfl (fun _ h=>h) (yl_ne rfl rfl) ?_
     refine Dq rfl (.g rfl rfl rfl) rfl (fun _ h=>h) (Ym rfl) ?_
     apply WD.and 4 rfl rfl rfl rfl rfl (.g rfl rfl rfl) rfl (fun _ h=>h) rfl rfl rfl rfl
     ·
      intro hg15
      refine Dq rfl (.g rfl rfl rfl) rfl (fun _ h=>h) (Yf fo43_5 rfl) ?_
      refine Dq rfl (.g rfl rfl rfl) rfl (fun _ h=>h) (Yd 0 rfl rfl rfl na25) ?_
      refine Dq rfl (.g rfl rfl rfl) rfl (fun _ h=>h) (Yn es25 rfl) ?_
      refine Dq rfl (.g rfl rfl rfl) rfl (fun _ h=>h) (yl_gt rfl rfl) ?_
      rw [int_lt0]
      exact Gi 4 (fun _ h=>h) rfl rfl rfl
     exact Gi 5 (fun _ h=>h) rfl rfl rfl
    refine WD.nil (fun _ h=>h) ?_
    refine Et ?_
    refine Cc rfl (fun hc5=>?_) (fun hc5=>?_)
    ·
     have hy:lvS 3 x.op x.mod x.nm x.args.length x.body.length x.other.length=true:=hc5
     refine Cs (Cr ?_)
     refine V0 (Ya rfl) ?_
     refine Ln (Et (Crt (Ebr (Er ?_))))
     refine WE.ret1 rfl rfl fun w' hw=>?_
     exact ⟨by rw [hE,hy]; rfl,hw.fr⟩
    ·
     have hno:lvS 3 x.op x.mod x.nm x.args.length x.body.length x.other.length=false:=hc5
     refine Ck (Eb (Et (Cs (Cs (Cr ?_)))))
     refine V0 (Ya rfl) ?_
     refine Ln (Et (Cb ?_))
     refine CW (ι:=Nat) (fun i=>[(7,.int .i64 (i:Int))]) [(1,_),(2,_),(3,_)] (fun i=>i≤x.args.length∧∀j y,j<i→x.args[j]? = some y→lookE y 3 1=false) (fun i=>x.args.length-i) 0 ⟨Nat.zero_le _,by simp⟩ (sc rfl (sc rfl (sc rfl (sc rfl sn)))) ?_
     intro i ⟨hi,hall⟩
     refine Cs (Cs (Cr ?_))
     refine V0 (Ym rfl) ?_
     refine V0 (Yf fo43_3 rfl) ?_
     refine V0 (Yd 0 rfl rfl rfl na41) ?_
     refine V0 (Yn es41 rfl) ?_
     refine V0 (yl_lt rfl rfl) ?_
     refine Ln (Et ?_)
     refine Cc rfl (fun hc6=>?_) (fun hc6=>?_)
     ·
      have hlt:i<x.args.length:=by simpa using hc6
      obtain ⟨y,hyi⟩:∃q,x.args[i]? = some q:=⟨_,List.getElem?_eq_getElem hlt⟩
      obtain ⟨pby,poy,hay,hry⟩:=hs1.elt i y hyi
      obtain ⟨k2,rfl⟩:∃k2,ke=k2+1:=by
        cases ke with
        | zero=>exact hry.elim
        | succ k2=>exact ⟨k2,rfl⟩
      obtain ⟨ya,yn,hrow,hsub⟩:=hry
      refine Ck (Et (Cs (Cb (Cs (Cr ?_)))))
      refine V0 (Yf fo43_3 rfl) ?_
      refine V0 (Yd 0 rfl rfl rfl na41) ?_
      refine V0 (Ym rfl) ?_
      refine V0 (Yo es41 rfl rfl hay (by omega)) ?_
      refine V0 (yl_lda 0 ag81 rfl rfl rfl (hrow)) ?_
      refine V0 (Ym rfl) ?_
      refine Lp (.inl rfl) rfl en91 rfl (fun w hw=>exprLook_any H k2 y ya yn _ 1 w (hw.vs _ (by simp)) hlv (by omega) hsub) ?_
      refine Ln (Et ?_)
      refine Cc rfl (fun hc7=>?_) (fun hc7=>?_)
      ·
       refine Cs (Cr ?_)
       refine V0 (Ya rfl) ?_
       refine Ln (Et (Crt (Ebr (Er (Er ?_)))))
       refine Ebr (Er ?_)
       refine WE.ret1 rfl rfl fun w' hw=>?_
       exact ⟨by rw [hE,lookEs_any,any_at hyi hc7,Bool.or_true,Bool.true_or],hw.fr⟩
      ·
       refine Ck (Eb (Et (Cr ?_)))
       refine V0 (Ym rfl) ?_
       refine V0 (Yi rfl rfl rfl (by omega)) ?_
       refine V0 (Ya rfl) ?_
       refine Ln ?_
       exact Ea (i+1) (by omega) ⟨by omega,fun j z hj hz=>by rcases Nat.lt_succ_iff_lt_or_eq.1 hj with h | rfl; exact hall j z h hz; rw [hyi] at hz; injection hz with hz; subst hz; exact hc7⟩ (sc rfl (sc rfl (sc rfl (sc rfl sn)))) (fun _ h=>h)
     ·
      have hge:¬i<x.args.length:=by simpa using hc6
      have hnn:lookEs x.args 3 1=false:=by rw [lookEs_any]; exact any_false fun j y hj=>hall j y (by have:=(List.getElem?_eq_some_iff.1 hj).1; omega) hj
      refine Ce (Ex (Ex (Ebh (Et (Cs ?_)))))
      refine Cr ?_
      refine V0 (Yf fo43_0 rfl) ?_
      refine V0 (Yd 0 rfl rfl rfl na3) ?_
      refine V0 (yl_eq rfl rfl) ?_
      refine V0 (Ym rfl) ?_
      apply WL.or 3 rfl rfl rfl rfl (.inl rfl) rfl rfl rfl rfl rfl
      ·
       intro hg0
       refine Lv (.g rfl rfl rfl) rfl (Yf fo43_0 rfl) ?_
       refine Lv (.g rfl rfl rfl) rfl (Yd 0 rfl rfl rfl na3) ?_
       refine Lv (.g rfl rfl rfl) rfl (yl_eq rfl rfl) ?_
       exact Gt 3 rfl rfl rfl
      refine V0 (Ya rfl) ?_
      refine Ln (Et (Cs (Cr ?_)))
      refine V0 (Ym rfl) ?_
      refine V0 (Ym rfl) ?_
      apply WL.or 4 rfl rfl rfl rfl (.inl rfl) rfl rfl rfl rfl rfl
      ·
       intro hg1
       refine Lv (.g rfl rfl rfl) rfl (Yf fo43_4 rfl) ?_
       refine Lv (.g rfl rfl rfl) rfl (Yd 0 rfl rfl rfl na25) ?_
       refine Lv (.g rfl rfl rfl) rfl (Yn es25 rfl) ?_
       refine Lv (.g rfl rfl rfl) rfl (yl_gt rfl rfl) ?_
       rw [int_lt0]
       exact Gt 4 rfl rfl rfl
      refine V0 (Ym rfl) ?_
      apply WL.and 6 rfl rfl rfl rfl (.inl rfl) rfl rfl rfl rfl rfl
      ·
       intro hg2
       refine Lv (.g rfl rfl rfl) rfl (Yf fo43_4 rfl) ?_
       refine Lv (.g rfl rfl rfl) rfl (Yd 0 rfl rfl rfl na25) ?_
       refine Lv (.g rfl rfl rfl) rfl (Ym rfl) ?_
       refine Lv (.g rfl rfl rfl) rfl (Ym rfl) ?_
       refine Lv (.g rfl rfl rfl) rfl (Yi rfl rfl rfl (by omega)) ?_
       refine Lp (.g rfl rfl rfl) rfl en41 rfl (fun w hw=>hB x.body a2 n2 (d+1) w (hw.vs _ (by simp)) (by omega) hs2) ?_
       exact Gt 6 rfl rfl rfl
      refine V0 (Ym rfl) ?_
      apply WL.or 12 rfl rfl rfl rfl (.inl rfl) rfl rfl rfl rfl rfl
      ·
       intro hg3
       refine Lv (.g rfl rfl rfl) rfl (Yf fo43_5 rfl) ?_
       refine Lv (.g rfl rfl rfl) rfl (Yd 0 rfl rfl rfl na25) ?_
       refine Lv (.g rfl rfl rfl) rfl (Yn es25 rfl) ?_
       refine Lv (.g rfl rfl rfl) rfl (yl_gt rfl rfl) ?_
       rw [int_lt0]
       refine Lv (.g rfl rfl rfl) rfl (Ym rfl) ?_
       apply WL.and 6 rfl rfl rfl rfl (.g rfl rfl rfl) rfl rfl rfl rfl rfl
       ·
        intro hg4
        refine Lv (.g rfl rfl rfl) rfl (Yf fo43_5 rfl) ?_
        refine Lv (.g rfl rfl rfl) rfl (Yd 0 rfl rfl rfl na25) ?_
        refine Lv (.g rfl rfl rfl) rfl (Ym rfl) ?_
        refine Lv (.g rfl rfl rfl) rfl (Ym rfl) ?_
        refine Lv (.g rfl rfl rfl) rfl (Yi rfl rfl rfl (by omega)) ?_
        refine Lp (.g rfl rfl rfl) rfl en41 rfl (fun w hw=>hB x.other a3 n3 (d+1) w (hw.vs _ (by simp)) (by omega) hs3) ?_
        exact Gt 6 rfl rfl rfl
       exact Gt 6 rfl rfl rfl
      refine V0 (Ya rfl) ?_
      refine Ln (Et (Crt ?_))
      refine WE.ret1 rfl rfl fun w' hw=>?_
      exact ⟨by rw [hE,hno,hnn]; rfl,hw.fr⟩
   ·
    exact (show False by simp at hc4; omega).elim
theorem blockLook_any (H:View) (ke lv:Nat) (hlv:1≤lv∧lv≤3) (k:Nat) (l:List TStmt) (a:Option Addr) (n d:Nat) (w:World) (hH:Le H w) (hd0:d≤7) (hm:Sl (RdS ke k) 6 H a n l) :
   Calls Tryz.prog 41 #[.slice a l.length n,.int .i64 (lv:Int),.int .i64 (d:Int)] w fun e w'=>e = .returned (.bool (lookB l lv d))∧Ext w w':=by
 induction k using Nat.strongRecOn generalizing l a n d w
 rename_i k ih
 have hcap:=hm.cap
 have hmax:=hm.max
 refine enter Tryz.func41 rfl 32 rfl rfl ?_
 refine CWd (W':=Ws w [] [] [H]) (fun _ e=>by subst e; exact Ws.init (by simp [hH])) ?_
 refine Cs (Cr ?_)
 refine V0 (Ya rfl) ?_
 refine Ln (Et (Cs (Cs (Cr ?_))))
 refine V0 (Ym rfl) ?_
 refine V0 (yl_gt rfl rfl) ?_
 refine Ln (Et ?_)
 refine Cc rfl (fun hc0=>?_) (fun hc0=>?_)
 ·
  have hd:6<d:=by simp at hc0; omega
  refine Cs (Cr ?_)
  refine V0 (Ym rfl) ?_
  refine V0 (yl_eq rfl rfl) ?_
  rw [show ((lv:Int)==2)=(lv==2) from lv_eq lv 2]
  refine V0 (Ya rfl) ?_
  refine Ln (Et (Crt (Er ?_)))
  refine WE.ret1 rfl rfl fun w' hw=>?_
  exact ⟨by unfold lookB blkL; rw [if_pos hd],hw.fr⟩
 ·
  have hd:¬6<d:=by simp at hc0; omega
  have hE:=lookB_no (l:=l) (lv:=lv) hd
  refine Ck (Et (Cs (Cs (Cr ?_))))
  refine V0 (Ym rfl) ?_
  refine V0 (yl_eq rfl rfl) ?_
  rw [show ((lv:Int)==2)=(lv==2) from lv_eq lv 2]
  refine V0 (Ym rfl) ?_
  apply WL.and 3 rfl rfl rfl rfl (.inl rfl) rfl rfl rfl rfl rfl
  ·
   intro hg0
   refine Lv (.g rfl rfl rfl) rfl (Ym rfl) ?_
   refine Lv (.g rfl rfl rfl) rfl (Yn es25 rfl) ?_
   refine Lv (.g rfl rfl rfl) rfl (yl_gt rfl rfl) ?_
   rw [int_lt10]
   exact Gt 3 rfl rfl rfl
  refine Ln (Et ?_)
  refine Cc rfl (fun hc1=>?_) (fun hc1=>?_)
  ·
   refine Cs (Cr ?_)
   refine V0 (Ya rfl) ?_
   refine Ln (Et (Crt (Er ?_)))
   refine WE.ret1 rfl rfl fun w' hw=>?_
   exact ⟨by rw [hE,hc1]; rfl,hw.fr⟩
  ·
   refine Ck (Et (Cs (Cs (Cr ?_))))
   refine V0 (Ya rfl) ?_
   refine Ln (Et (Cb ?_))
   refine CW (ι:=Nat) (fun i=>[(7,.int .i64 (i:Int))]) [(0,_),(1,_),(2,_)] (fun i=>i≤l.length∧∀j y,j<i→l[j]? = some y→lookS y lv d=false) (fun i=>l.length-i) 0 ⟨Nat.zero_le _,by simp⟩ (sc rfl (sc rfl (sc rfl (sc rfl sn)))) ?_
   intro i ⟨hi,hall⟩
   refine Cs (Cs (Cr ?_))
   refine V0 (Ym rfl) ?_
   refine V0 (Ym rfl) ?_
   refine V0 (Yn es25 rfl) ?_
   refine V0 (yl_lt rfl rfl) ?_
   refine Ln (Et ?_)
   refine Cc rfl (fun hc2=>?_) (fun hc2=>?_)
   ·
    have hlt:i<l.length:=by simpa using hc2
    obtain ⟨y,hyi⟩:∃q,l[i]? = some q:=⟨_,List.getElem?_eq_getElem hlt⟩
    obtain ⟨pby,poy,hay,hry⟩:=hm.elt i y hyi
    obtain ⟨k2,rfl⟩:∃k2,k=k2+1:=by
      cases k with
      | zero=>exact hry.elim
      | succ k2=>exact ⟨k2,rfl⟩
    obtain ⟨ya,yn,y2,m2,y3,m3,hrow,hs1,hs2,hs3⟩:=hry
    refine Ck (Et (Cs (Cb (Cs (Cr ?_)))))
    refine V0 (Ym rfl) ?_
    refine V0 (Ym rfl) ?_
    refine V0 (Yo es25 rfl rfl hay (by omega)) ?_
    refine V0 (yl_lda 0 ag43 rfl rfl rfl (hrow)) ?_
    refine V0 (Ym rfl) ?_
    refine V0 (Ym rfl) ?_
    refine Lp (.inl rfl) rfl en70 rfl (fun w hw=>stmtLook_any H ke k2 y ya yn y2 m2 y3 m3 lv d w (hw.vs _ (by simp)) hlv (by omega) (fun l a n d w h1 h2 h3=>ih k2 (by omega) l a n d w h1 h2 h3) hs1 hs2 hs3) ?_
    refine Ln (Et ?_)
    refine Cc rfl (fun hc3=>?_) (fun hc3=>?_)
    ·
     refine Cs (Cr ?_)
     refine V0 (Ya rfl) ?_
     refine Ln (Et (Crt (Ebr (Er (Er ?_)))))
     refine Ebr (Er ?_)
     refine WE.ret1 rfl rfl fun w' hw=>?_
     exact ⟨by rw [hE,lookSs_any,any_at hyi hc3,Bool.or_true],hw.fr⟩
    ·
     refine Ck (Eb (Et (Cr ?_)))
     refine V0 (Ym rfl) ?_
     refine V0 (Yi rfl rfl rfl (by omega)) ?_
     refine V0 (Ya rfl) ?_
     refine Ln ?_
     exact Ea (i+1) (by omega) ⟨by omega,fun j z hj hz=>by rcases Nat.lt_succ_iff_lt_or_eq.1 hj with h | rfl; exact hall j z h hz; rw [hyi] at hz; injection hz with hz; subst hz; exact hc3⟩ (sc rfl (sc rfl (sc rfl (sc rfl sn)))) (fun _ h=>h)
   ·
    have hge:¬i<l.length:=by simpa using hc2
    have hnn:lookSs l lv d=false:=by rw [lookSs_any]; exact any_false fun j y hj=>hall j y (by have:=(List.getElem?_eq_some_iff.1 hj).1; omega) hj
    refine Ce (Ex (Ex (Ebh (Et (Cs ?_)))))
    refine Cr ?_
    refine V0 (Ya rfl) ?_
    refine Ln (Et (Crt ?_))
    refine WE.ret1 rfl rfl fun w' hw=>?_
    exact ⟨by rw [hE,hc1,hnn]; rfl,hw.fr⟩
theorem moduleLook_any (H:View) (ke ks:Nat) (r:MAt) (m:TMod) (lv:Nat) (w:World) (hlv:1≤lv∧lv≤3) (hH:Le H w) (hm:RdM ke ks H r m) (hb:wM m≤109951162777) :
   Calls Tryz.prog 23 #[.agg (modV m r).toArray,.int .i64 (lv:Int)] w fun e w'=>e = .returned (.bool (modL m lv))∧Ext w w':=by
 have cu:=hm.uses.cap
 have xu:=hm.uses.max
 have cd:=hm.decls.cap
 have xd:=hm.decls.max
 have cp:=hm.procs.cap
 have xp:=hm.procs.max
 have hwM:wM m=1+m.nm.length+wN m.uses+wD m.decls+wP m.procs+wSs m.main:=rfl
 refine enter Tryz.func23 rfl 189 rfl rfl ?_
 refine CWd (W':=Ws w [] [] [H]) (fun _ e=>by subst e; exact Ws.init (by simp [hH])) ?_
 refine Cs (Cr ?_)
 refine WL.box (.inl rfl) rfl rfl fun b2=>?_
 refine V0 (Ya rfl) ?_
 refine Ln (Et (Cs (Cs (Cr ?_))))
 refine V0 (Ym rfl) ?_
 refine V0 (yl_eq rfl rfl) ?_
 rw [show ((lv:Int)==2)=(lv==2) from lv_eq lv 2]
 refine V0 (Ym rfl) ?_
 apply WL.and 16 rfl rfl rfl rfl (.inl rfl) rfl rfl rfl rfl rfl
 ·
  intro hg0
  refine Lv (.g rfl rfl rfl) rfl (Yf fo27_1 rfl) ?_
  refine Lv (.g rfl rfl rfl) rfl (Yd 0 rfl rfl rfl na22) ?_
  refine Lv (.g rfl rfl rfl) rfl (Yn es22 rfl) ?_
  refine Lv (.g rfl rfl rfl) rfl (yl_gt rfl rfl) ?_
  rw [int_lt3]
  refine Lv (.g rfl rfl rfl) rfl (Ym rfl) ?_
  apply WL.or 4 rfl rfl rfl rfl (.g rfl rfl rfl) rfl rfl rfl rfl rfl
  ·
   intro hg1
   refine Lv (.g rfl rfl rfl) rfl (Yf fo27_2 rfl) ?_
   refine Lv (.g rfl rfl rfl) rfl (Yd 0 rfl rfl rfl na23) ?_
   refine Lv (.g rfl rfl rfl) rfl (Yn es23 rfl) ?_
   refine Lv (.g rfl rfl rfl) rfl (yl_gt rfl rfl) ?_
   rw [int_lt10]
   exact Gt 4 rfl rfl rfl
  refine Lv (.g rfl rfl rfl) rfl (Ym rfl) ?_
  apply WL.or 4 rfl rfl rfl rfl (.g rfl rfl rfl) rfl rfl rfl rfl rfl
  ·
   intro hg2
   refine Lv (.g rfl rfl rfl) rfl (Yf fo27_3 rfl) ?_
   refine Lv (.g rfl rfl rfl) rfl (Yd 0 rfl rfl rfl na24) ?_
   refine Lv (.g rfl rfl rfl) rfl (Yn es24 rfl) ?_
   refine Lv (.g rfl rfl rfl) rfl (yl_gt rfl rfl) ?_
   rw [int_lt6]
   exact Gt 4 rfl rfl rfl
  exact Gt 8 rfl rfl rfl
 refine V0 (Ym rfl) ?_
 apply WL.or 8 rfl rfl rfl rfl (.inl rfl) rfl rfl rfl rfl rfl
 ·
  intro hg3
  refine Lv (.g rfl rfl rfl) rfl (Ym rfl) ?_
  refine Lv (.g rfl rfl rfl) rfl (yl_eq rfl rfl) ?_
  rw [show ((lv:Int)==3)=(lv==3) from lv_eq lv 3]
  refine Lv (.g rfl rfl rfl) rfl (Ym rfl) ?_
  apply WL.and 4 rfl rfl rfl rfl (.g rfl rfl rfl) rfl rfl rfl rfl rfl
  ·
   intro hg4
   refine Lv (.g rfl rfl rfl) rfl (Yf fo27_0 rfl) ?_
   refine Lv (.g rfl rfl rfl) rfl (Yd 0 rfl rfl rfl na9) ?_
   refine Lp (.g rfl rfl rfl) rfl en39 rfl (fun w hw=>isNAME_any _ w) ?_
   refine Lv (.g rfl rfl rfl) rfl (yl_not rfl) ?_
   exact Gt 4 rfl rfl rfl
  exact Gt 4 rfl rfl rfl
 refine Ln (Et ?_)
 refine Cc rfl (fun hc0=>?_) (fun hc0=>?_)
 ·
  refine Cs (Cr ?_)
  refine V0 (Ya rfl) ?_
  refine Ln (Et (Crt (Er ?_)))
  refine WE.ret1 rfl rfl fun w' hw=>?_
  exact ⟨by rw [modL_0 hc0],hw.fr⟩
 ·
  refine Ck (Et (Cs (Cs (Cr ?_))))
  refine V0 (Ya rfl) ?_
  refine Ln (Et (Cb ?_))
  refine CW (ι:=Nat) (fun i=>[(5,.int .i64 (i:Int))]) [(1,_),(2,_)] (fun i=>i≤m.uses.length∧∀j z,j<i→m.uses[j]? = some z→badN lv z=false) (fun i=>m.uses.length-i) 0 ⟨Nat.zero_le _,by simp⟩ (sc rfl (sc rfl (sc rfl sn))) ?_
  intro i ⟨hii,hallu⟩
  refine Cs (Cs (Cr ?_))
  refine V0 (Ym rfl) ?_
  refine V0 (Yf fo27_1 rfl) ?_
  refine V0 (Yd 0 rfl rfl rfl na22) ?_
  refine V0 (Yn es22 rfl) ?_
  refine V0 (yl_lt rfl rfl) ?_
  refine Ln (Et ?_)
  refine Cc rfl (fun hc1=>?_) (fun hc1=>?_)
  ·
   have hlt:i<m.uses.length:=by simpa using hc1
   obtain ⟨u,hui⟩:∃x,m.uses[i]? = some x:=⟨_,List.getElem?_eq_getElem hlt⟩
   obtain ⟨pbu,pou,ha,hrow⟩:=hm.uses.elt i u hui
   have hrow:RdC H pbu (pou+i*1) (strC u):=hrow
   refine Ck (Et (Cs (Cb (Cs (Cr ?_)))))
   refine V0 (Ym rfl) ?_
   refine V0 (yl_eq rfl rfl) ?_
   rw [show ((lv:Int)==3)=(lv==3) from lv_eq lv 3]
   refine V0 (Ym rfl) ?_
   apply WL.and 7 rfl rfl rfl rfl (.inl rfl) rfl rfl rfl rfl rfl
   ·
    intro hg5
    refine Lv (.g rfl rfl rfl) rfl (Yf fo27_1 rfl) ?_
    refine Lv (.g rfl rfl rfl) rfl (Yd 0 rfl rfl rfl na22) ?_
    refine Lv (.g rfl rfl rfl) rfl (Ym rfl) ?_
    refine Lv (.g rfl rfl rfl) rfl (Yo es22 rfl rfl ha (by omega)) ?_
    refine Lv (.g rfl rfl rfl) rfl (yl_ld 0 na9 rfl rfl (hrow 0 _ rfl)) ?_
    refine Lp (.g rfl rfl rfl) rfl en39 rfl (fun w hw=>isNAME_any _ w) ?_
    refine Lv (.g rfl rfl rfl) rfl (yl_not rfl) ?_
    exact Gt 7 rfl rfl rfl
   refine Ln (Et ?_)
   refine Cc rfl (fun hc2=>?_) (fun hc2=>?_)
   ·
    refine Cs (Cr ?_)
    refine V0 (Ya rfl) ?_
    refine Ln (Et (Crt (Ebr (Er (Er ?_)))))
    refine Ebr (Er ?_)
    refine WE.ret1 rfl rfl fun w' hw=>?_
    exact ⟨by rw [modL_1 (any_at hui hc2)],hw.fr⟩
   ·
    refine Ck (Eb (Et (Cr ?_)))
    refine V0 (Ym rfl) ?_
    refine V0 (Yi rfl rfl rfl (by omega)) ?_
    refine V0 (Ya rfl) ?_
    refine Ln ?_
    exact Ea (i+1) (by omega) ⟨by omega,fun j z hj hz=>by rcases Nat.lt_succ_iff_lt_or_eq.1 hj with h | rfl; exact hallu j z h hz; rw [hui] at hz; injection hz with hz; subst hz; exact hc2⟩ (sc rfl (sc rfl (sc rfl sn))) (fun _ h=>h)
  ·
   have hgeu:¬i<m.uses.length:=by simpa using hc1
   have hanyu:m.uses.any (badN lv)=false:=any_false fun j z hj=>hallu j z (by have:=(List.getElem?_eq_some_iff.1 hj).1; omega) hj
   refine Ce (Ex (Ex (Ebh (Et (Cs ?_)))))
   refine Cs (Cr ?_)
   refine V0 (Ya rfl) ?_
   refine Ln (Et (Cb ?_))
   refine CW (ι:=Nat) (fun p=>[(6,.int .i64 (p:Int))]) [(1,_),(2,_)] (fun p=>p≤m.decls.length∧∀j z,j<p→m.decls[j]? = some z→declL lv z=false) (fun p=>m.decls.length-p) 0 ⟨Nat.zero_le _,by simp⟩ (sc rfl (sc rfl (sc rfl sn))) ?_
   intro p ⟨hip,halld⟩
   refine Cs (Cs (Cr ?_))
   refine V0 (Ym rfl) ?_
   refine V0 (Yf fo27_2 rfl) ?_
   refine V0 (Yd 0 rfl rfl rfl na23) ?_
   refine V0 (Yn es23 rfl) ?_
   refine V0 (yl_lt rfl rfl) ?_
   refine Ln (Et ?_)
   refine Cc rfl (fun hc3=>?_) (fun hc3=>?_)
   ·
    have hlt:p<m.decls.length:=by simpa using hc3
    obtain ⟨d,hdi⟩:∃q,m.decls[p]? = some q:=⟨_,List.getElem?_eq_getElem hlt⟩
    obtain ⟨pbd,pod,had,hrd⟩:=hm.decls.elt p d hdi
    have hrd:RdC H pbd (pod+p*4) d.cells:=hrd
    refine Ck (Et (Cs (Cb (Cs (Cr ?_)))))
    refine V0 (Yf fo27_2 rfl) ?_
    refine V0 (Yd 0 rfl rfl rfl na23) ?_
    refine V0 (Ym rfl) ?_
    refine V0 (Yo es23 rfl rfl had (by omega)) ?_
    refine V0 (yl_lda 0 ag53 rfl rfl rfl (hrd)) ?_
    refine WL.alloc (.inl rfl) rfl zr53 fun b7=>?_
    refine Lst 0 (.inl rfl) rfl rfl rfl sz53 rfl rfl rfl ?_
    refine Ln (Et (Cs (Cs (Cr ?_))))
    refine V0 (Ym rfl) ?_
    refine V0 (yl_eq rfl rfl) ?_
    rw [show ((lv:Int)==1)=(lv==1) from lv_eq lv 1]
    refine V0 (Ym rfl) ?_
    apply WL.and 4 rfl rfl rfl rfl (.inl rfl) rfl rfl rfl rfl rfl
    ·
     intro hg6
     refine Lv (.g rfl rfl rfl) rfl (Yf fo53_0 rfl) ?_
     refine Lv (.g rfl rfl rfl) rfl (Yd 0 rfl rfl rfl na3) ?_
     refine Lp (.g rfl rfl rfl) rfl en40 rfl (fun w hw=>within_any _ _ _ w) ?_
     refine Lv (.g rfl rfl rfl) rfl (yl_not rfl) ?_
     exact Gt 4 rfl rfl rfl
    refine Ln (Et ?_)
    refine Cc rfl (fun hc4=>?_) (fun hc4=>?_)
    ·
     have h4_:((lv==1)&&!within_ d.kind 1 3)=true:=hc4
     have hbad:declL lv d=true:=by unfold declL; rw [h4_]; rfl
     refine Cs (Cr ?_)
     refine V0 (Ya rfl) ?_
     refine Ln (Et (Crt (Er (Ebr (Er ?_)))))
     refine Er (Ebr (Er ?_))
     refine WE.ret1 rfl rfl fun w' hw=>?_
     exact ⟨by rw [modL_2 (any_at hdi hbad)],hw.fr⟩
    ·
     have h4_:((lv==1)&&!within_ d.kind 1 3)=false:=hc4
     refine Ck (Et (Cs (Cr ?_)))
     refine V0 (Ym rfl) ?_
     refine V0 (yl_eq rfl rfl) ?_
     rw [show ((lv:Int)==3)=(lv==3) from lv_eq lv 3]
     refine V0 (Ym rfl) ?_
     apply WL.and 36 (x:=((((!nameT d.nm||((d.kind==1)&&!within_ d.n 0 1099511627775))||((d.kind==2)&&!(d.n==0)))||((d.kind==3)&&!within_ d.n 1 32)))) rfl rfl rfl rfl (.inl rfl) rfl rfl rfl rfl rfl
     ·
      intro hg7
      refine Lv (.g rfl rfl rfl) rfl (Yf fo53_1 rfl) ?_
      refine Lv (.g rfl rfl rfl) rfl (Yd 0 rfl rfl rfl na9) ?_
      refine Lp (.g rfl rfl rfl) rfl en39 rfl (fun w hw=>isNAME_any _ w) ?_
      refine Lv (.g rfl rfl rfl) rfl (yl_not rfl) ?_
      refine Lv (.g rfl rfl rfl) rfl (Ym rfl) ?_
      apply WL.or 9 rfl rfl rfl rfl (.g rfl rfl rfl) rfl rfl rfl rfl rfl
      ·
       intro hg8
       refine Lv (.g rfl rfl rfl) rfl (Yf fo53_0 rfl) ?_
       refine Lv (.g rfl rfl rfl) rfl (Yd 0 rfl rfl rfl na3) ?_
       refine Lv (.g rfl rfl rfl) rfl (yl_eq rfl rfl) ?_
       refine Lv (.g rfl rfl rfl) rfl (Ym rfl) ?_
       apply WL.and 4 rfl rfl rfl rfl (.g rfl rfl rfl) rfl rfl rfl rfl rfl
       ·
        intro hg9
        refine Lv (.g rfl rfl rfl) rfl (Yf fo53_3 rfl) ?_
        refine Lv (.g rfl rfl rfl) rfl (Yd 0 rfl rfl rfl na3) ?_
        refine Lp (.g rfl rfl rfl) rfl en40 rfl (fun w hw=>within_any _ _ _ w) ?_
        refine Lv (.g rfl rfl rfl) rfl (yl_not rfl) ?_
        exact Gt 4 rfl rfl rfl
       exact Gt 5 rfl rfl rfl
      refine Lv (.g rfl rfl rfl) rfl (Ym rfl) ?_
      apply WL.or 8 rfl rfl rfl rfl (.g rfl rfl rfl) rfl rfl rfl rfl rfl
      ·
       intro hg10
       refine Lv (.g rfl rfl rfl) rfl (Yf fo53_0 rfl) ?_
       refine Lv (.g rfl rfl rfl) rfl (Yd 0 rfl rfl rfl na3) ?_
       refine Lv (.g rfl rfl rfl) rfl (yl_eq rfl rfl) ?_
       refine Lv (.g rfl rfl rfl) rfl (Ym rfl) ?_
       apply WL.and 3 rfl rfl rfl rfl (.g rfl rfl rfl) rfl rfl rfl rfl rfl
       ·
        intro hg11
        refine Lv (.g rfl rfl rfl) rfl (Yf fo53_3 rfl) ?_
        refine Lv (.g rfl rfl rfl) rfl (Yd 0 rfl rfl rfl na3) ?_
        refine Lv (.g rfl rfl rfl) rfl (yl_ne rfl rfl) ?_
        exact Gt 3 rfl rfl rfl
       exact Gt 5 rfl rfl rfl
      refine Lv (.g rfl rfl rfl) rfl (Ym rfl) ?_
      apply WL.or 9 rfl rfl rfl rfl (.g rfl rfl rfl) rfl rfl rfl rfl rfl
      ·
       intro hg12
       refine Lv (.g rfl rfl rfl) rfl (Yf fo53_0 rfl) ?_
       refine Lv (.g rfl rfl rfl) rfl (Yd 0 rfl rfl rfl na3) ?_
       refine Lv (.g rfl rfl rfl) rfl (yl_eq rfl rfl) ?_
       refine Lv (.g rfl rfl rfl) rfl (Ym rfl) ?_
       apply WL.and 4 rfl rfl rfl rfl (.g rfl rfl rfl) rfl rfl rfl rfl rfl
       ·
        intro hg13
        refine Lv (.g rfl rfl rfl) rfl (Yf fo53_3 rfl) ?_
        refine Lv (.g rfl rfl rfl) rfl (Yd 0 rfl rfl rfl na3) ?_
        refine Lp (.g rfl rfl rfl) rfl en40 rfl (fun w hw=>within_any _ _ _ w) ?_
        refine Lv (.g rfl rfl rfl) rfl (yl_not rfl) ?_
        exact Gt 4 rfl rfl rfl
       exact Gt 5 rfl rfl rfl
      exact Gt 10 rfl rfl rfl
     refine Ln (Et ?_)
     refine Cc rfl (fun hc5=>?_) (fun hc5=>?_)
     ·
      have h5_:((lv==3)&&(((!nameT d.nm||((d.kind==1)&&!within_ d.n 0 1099511627775))||((d.kind==2)&&!(d.n==0)))||((d.kind==3)&&!within_ d.n 1 32)))=true:=hc5
      have hbad:declL lv d=true:=by unfold declL; rw [h5_,Bool.or_true]
      refine Cs (Cr ?_)
      refine V0 (Ya rfl) ?_
      refine Ln (Et (Crt (Ebr (Er (Er ?_)))))
      refine Ebr (Er ?_)
      refine WE.ret1 rfl rfl fun w' hw=>?_
      exact ⟨by rw [modL_2 (any_at hdi hbad)],hw.fr⟩
     ·
      have h5_:((lv==3)&&(((!nameT d.nm||((d.kind==1)&&!within_ d.n 0 1099511627775))||((d.kind==2)&&!(d.n==0)))||((d.kind==3)&&!within_ d.n 1 32)))=false:=hc5
      have hbad:declL lv d=false:=by unfold declL; rw [h4_,h5_]; rfl
      refine Ck (Eb (Et (Cr ?_)))
      refine V0 (Ym rfl) ?_
      refine V0 (Yi rfl rfl rfl (by omega)) ?_
      refine V0 (Ya rfl) ?_
      refine Ln ?_
      exact Ea (p+1) (by omega) ⟨by omega,fun j z hj hz=>by rcases Nat.lt_succ_iff_lt_or_eq.1 hj with h | rfl; exact halld j z h hz; rw [hdi] at hz; injection hz with hz; subst hz; exact hbad⟩ (sc rfl (sc rfl (sc rfl sn))) (fun _ h=>Ws.drop (L:=[_]) h)
   ·
    have hged:¬p<m.decls.length:=by simpa using hc3
    have hanyd:m.decls.any (declL lv)=false:=any_false fun j z hj=>halld j z (by have:=(List.getElem?_eq_some_iff.1 hj).1; omega) hj
    refine Ce (Ex (Ex (Ebh (Et (Cs ?_)))))
    refine Cs (Cr ?_)
    refine V0 (Ya rfl) ?_
    refine Ln (Et (Cb ?_))
    refine CW (ι:=Nat) (fun jj=>[(8,.int .i64 (jj:Int))]) [(1,_),(2,_)] (fun jj=>jj≤m.procs.length∧∀j z,j<jj→m.procs[j]? = some z→procL lv z=false) (fun jj=>m.procs.length-jj) 0 ⟨Nat.zero_le _,by simp⟩ (sc rfl (sc rfl (sc rfl sn))) ?_
    intro jj ⟨hijj,hallp⟩
    refine Cs (Cs (Cr ?_))
    refine V0 (Ym rfl) ?_
    refine V0 (Yf fo27_3 rfl) ?_
    refine V0 (Yd 0 rfl rfl rfl na24) ?_
    refine V0 (Yn es24 rfl) ?_
    refine V0 (yl_lt rfl rfl) ?_
    refine Ln (Et ?_)
    refine Cc rfl (fun hc6=>?_) (fun hc6=>?_)
    ·
     have hlt:jj<m.procs.length:=by simpa using hc6
     obtain ⟨p,hpi⟩:∃q,m.procs[jj]? = some q:=⟨_,List.getElem?_eq_getElem hlt⟩
     obtain ⟨pbp,pop,hap,hrp⟩:=hm.procs.elt jj p hpi
     obtain ⟨pa1,pc1,pa2,pc2,pa3,pc3,hrow,hs1,hs2,hs3⟩:=hrp
     have hup:=wP_upto hpi
     have q5:=wN_len p.params
     have q6:=wN_len p.locs
     have c1_:=hs1.cap
     have x1_:=hs1.max
     have c2_:=hs2.cap
     have x2_:=hs2.max
     refine Ck (Et (Cs (Cb (Cs (Cr ?_)))))
     refine V0 (Yf fo27_3 rfl) ?_
     refine V0 (Yd 0 rfl rfl rfl na24) ?_
     refine V0 (Ym rfl) ?_
     refine V0 (Yo es24 rfl rfl hap (by omega)) ?_
     refine V0 (yl_lda 0 ag56 rfl rfl rfl (hrow)) ?_
     refine WL.alloc (.inl rfl) rfl zr56 fun b9=>?_
     refine Lst 0 (.inl rfl) rfl rfl rfl sz56 rfl rfl rfl ?_
     refine Ln (Et (Cs (Cs (Cr ?_))))
     refine V0 (Ym rfl) ?_
     refine V0 (yl_eq rfl rfl) ?_
     rw [show ((lv:Int)==2)=(lv==2) from lv_eq lv 2]
     refine V0 (Ym rfl) ?_
     apply WL.and 10 rfl rfl rfl rfl (.inl rfl) rfl rfl rfl rfl rfl
     ·
      intro hg14
      refine Lv (.g rfl rfl rfl) rfl (Yf fo56_2 rfl) ?_
      refine Lv (.g rfl rfl rfl) rfl (Yd 0 rfl rfl rfl na22) ?_
      refine Lv (.g rfl rfl rfl) rfl (Yn es22 rfl) ?_
      refine Lv (.g rfl rfl rfl) rfl (yl_gt rfl rfl) ?_
      rw [int_lt3]
      refine Lv (.g rfl rfl rfl) rfl (Ym rfl) ?_
      apply WL.or 4 rfl rfl rfl rfl (.g rfl rfl rfl) rfl rfl rfl rfl rfl
      ·
       intro hg15
       refine Lv (.g rfl rfl rfl) rfl (Yf fo56_3 rfl) ?_
       refine Lv (.g rfl rfl rfl) rfl (Yd 0 rfl rfl rfl na22) ?_
       refine Lv (.g rfl rfl rfl) rfl (Yn es22 rfl) ?_
       refine Lv (.g rfl rfl rfl) rfl (yl_gt rfl rfl) ?_
       rw [int_lt4]
       exact Gt 4 rfl rfl rfl
      exact Gt 6 rfl rfl rfl
     refine V0 (Ym rfl) ?_
     apply WL.or 8 rfl rfl rfl rfl (.inl rfl) rfl rfl rfl rfl rfl
     ·
      intro hg16
      refine Lv (.g rfl rfl rfl) rfl (Ym rfl) ?_
      refine Lv (.g rfl rfl rfl) rfl (yl_eq rfl rfl) ?_
      rw [show ((lv:Int)==3)=(lv==3) from lv_eq lv 3]
      refine Lv (.g rfl rfl rfl) rfl (Ym rfl) ?_
      apply WL.and 4 rfl rfl rfl rfl (.g rfl rfl rfl) rfl rfl rfl rfl rfl
      ·
       intro hg17
       refine Lv (.g rfl rfl rfl) rfl (Yf fo56_0 rfl) ?_
       refine Lv (.g rfl rfl rfl) rfl (Yd 0 rfl rfl rfl na9) ?_
       refine Lp (.g rfl rfl rfl) rfl en39 rfl (fun w hw=>isNAME_any _ w) ?_
       refine Lv (.g rfl rfl rfl) rfl (yl_not rfl) ?_
       exact Gt 4 rfl rfl rfl
      exact Gt 4 rfl rfl rfl
     refine V0 (Ym rfl) ?_
     apply WL.or 4 rfl rfl rfl rfl (.inl rfl) rfl rfl rfl rfl rfl
     ·
      intro hg18
      refine Lv (.g rfl rfl rfl) rfl (Yf fo56_4 rfl) ?_
      refine Lv (.g rfl rfl rfl) rfl (Yd 0 rfl rfl rfl na25) ?_
      refine Lv (.g rfl rfl rfl) rfl (Ym rfl) ?_
      refine Lp (.g rfl rfl rfl) rfl en41 rfl (fun w hw=>blockLook_any H ke lv hlv ks p.body pa3 pc3 1 w (hw.vs _ (by simp)) (by omega) hs3) ?_
      exact Gt 4 rfl rfl rfl
     refine Ln (Et ?_)
     refine Cc rfl (fun hc7=>?_) (fun hc7=>?_)
     ·
      have h7_:((((lv==2)&&(decide (3<p.params.length)||decide (4<p.locs.length)))||badN lv p.nm)||lookB p.body lv 1)=true:=hc7
      have hbad:procL lv p=true:=by unfold procL; rw [h7_]; rfl
      refine Cs (Cr ?_)
      refine V0 (Ya rfl) ?_
      refine Ln (Et (Crt (Er (Ebr (Er ?_)))))
      refine Er (Ebr (Er ?_))
      refine WE.ret1 rfl rfl fun w' hw=>?_
      exact ⟨by rw [modL_3 (any_at hpi hbad)],hw.fr⟩
     ·
      have h7_:((((lv==2)&&(decide (3<p.params.length)||decide (4<p.locs.length)))||badN lv p.nm)||lookB p.body lv 1)=false:=hc7
      refine Ck (Et (Cs ?_))
      refine WC.draws0 [(1,true),(2,true),(4,true),(5,true),(0,false),(3,false),(6,false),(7,true)] mixed (by kernel_rfl) (fun _ _ _ d _ h=>by cases d<;>exact h) ?_
      refine Dq rfl (.inl rfl) rfl (fun _ h=>h) (Yf fo56_2 rfl) ?_
      refine Dq rfl (.inl rfl) rfl (fun _ h=>h) (Yd 0 rfl rfl rfl na22) ?_
      refine Dq rfl (.inl rfl) rfl (fun _ h=>h) (Yf fo56_3 rfl) ?_
      refine Dq rfl (.inl rfl) rfl (fun _ h=>h) (Yd 0 rfl rfl rfl na22) ?_
      refine De rfl (fun _ h=>h) ?_
      refine WL.bslice (.inl rfl) rfl el22 rfl rfl rfl fun b162=>?_
      refine WL.asOsl (size:=1) 0 rfl (Nat.le_refl 0) (Nat.zero_le _) rfl ?_
      refine WL.reosl 0 ([]:List Tx).length (([]:List Tx).flatMap strC) rfl rfl rfl ?_
      refine Ln (Ed ?_)
      refine De rfl (fun _ h=>by have h:=Ws.drop (L:=[_]) (L':=_) h; exact h) ?_
      refine WL.appendL (ys:=p.params) (xs:=[]) 0 (fun _=>H) (.inl rfl) rfl el22 rfl rfl rfl (fun w hw=>⟨hw.vs H (by simp),hs1⟩) (fun _ _ _ _ h=>h) strC_len str_one (by simp; omega) (by simp; omega) fun a165 c165=>?_
      refine Ln (Ed ?_)
      refine De rfl (fun _ h=>by have h:=Ws.drop (L:=[_]) (L':=_) h; exact h) ?_
      refine WL.appendL (ys:=p.locs) (xs:=[]++p.params) 0 (fun _=>H) (.inl rfl) rfl el22 rfl rfl rfl (fun w hw=>⟨hw.vs H (by simp),hs2⟩) (fun _ _ _ _ h=>h) strC_len str_one (by simp; omega) (by simp; omega) fun a168 c168=>?_
      refine Ln (Ed ?_)
      refine Dq rfl (.inl rfl) rfl (fun _ h=>by have h:=Ws.drop (L:=[_]) (L':=_) h; exact h) (Ya rfl) ?_
      refine WD.nil (fun _ h=>by have h:=Ws.drop (L:=[_]) (L':=_) h; exact h) ?_
      refine Et (Cs ?_)
      refine WC.oslview (rd:=rdStr) 0 rfl strC_len (fun _ _ _ _ h=>h) fun HA hHA=>?_
      have hHA:Sl rdStr 1 HA a168 c168 (p.params++p.locs):=hHA
      have hcA:=hHA.cap
      have hxA:=hHA.max
      refine Cr ?_
      refine V0 (Ya rfl) ?_
      refine Ln (Et (Cb ?_))
      refine CW (ι:=Nat) (fun e=>[(11,.int .i64 (e:Int))]) [(1,_),(2,_),(8,_),(10,_)] (fun e=>e≤(p.params++p.locs).length∧∀j z,j<e→(p.params++p.locs)[j]? = some z→badN lv z=false) (fun e=>(p.params++p.locs).length-e) 0 ⟨Nat.zero_le _,by simp⟩ (sc rfl (sc rfl (sc rfl (sc rfl (sc rfl sn))))) ?_
      intro e ⟨hie,halls⟩
      refine Cs (Cs (Cr ?_))
      refine V0 (Ym rfl) ?_
      refine V0 (Ym rfl) ?_
      refine V0 (Yn es22 rfl) ?_
      refine V0 (yl_lt rfl rfl) ?_
      refine Ln (Et ?_)
      refine Cc rfl (fun hc8=>?_) (fun hc8=>?_)
      ·
       have hlt:e<(p.params++p.locs).length:=by simp only [List.length_append]; simp at hc8; omega
       obtain ⟨s,hsi⟩:∃x,(p.params++p.locs)[e]? = some x:=⟨_,List.getElem?_eq_getElem hlt⟩
       obtain ⟨pbs,pos,ha,hrow⟩:=hHA.elt e s hsi
       have hrow:RdC HA pbs (pos+e*1) (strC s):=hrow
       refine Ck (Et (Cs (Cb (Cs (Cr ?_)))))
       refine V0 (Ym rfl) ?_
       refine V0 (yl_eq rfl rfl) ?_
       rw [show ((lv:Int)==3)=(lv==3) from lv_eq lv 3]
       refine V0 (Ym rfl) ?_
       apply WL.and 6 rfl rfl rfl rfl (.inl rfl) rfl rfl rfl rfl rfl
       ·
        intro hg19
        refine Lv (.g rfl rfl rfl) rfl (Ym rfl) ?_
        refine Lv (.g rfl rfl rfl) rfl (Ym rfl) ?_
        refine Lv (.g rfl rfl rfl) rfl (Yo es22 rfl rfl ha (by simp at hlt ⊢; omega)) ?_
        refine Lv (.g rfl rfl rfl) rfl (yl_ld 0 na9 rfl rfl (hrow 0 _ rfl)) ?_
        refine Lp (.g rfl rfl rfl) rfl en39 rfl (fun w hw=>isNAME_any _ w) ?_
        refine Lv (.g rfl rfl rfl) rfl (yl_not rfl) ?_
        exact Gt 6 rfl rfl rfl
       refine Ln (Et ?_)
       refine Cc rfl (fun hc9=>?_) (fun hc9=>?_)
       ·
        have hbad:procL lv p=true:=by unfold procL; rw [any_at hsi hc9,Bool.or_true]
        refine Cs (Cr ?_)
        refine V0 (Ya rfl) ?_
        refine Ln (Et (Crt (Ebr (Er (Er ?_)))))
        refine Ebr (Ebr (Er (Er (Ebr (Er ?_)))))
        refine WE.ret1 rfl rfl fun w' hw=>?_
        exact ⟨by rw [modL_3 (any_at hpi hbad)],hw.fr⟩
       ·
        refine Ck (Eb (Et (Cr ?_)))
        refine V0 (Ym rfl) ?_
        refine V0 (Yi rfl rfl rfl (by omega)) ?_
        refine V0 (Ya rfl) ?_
        refine Ln ?_
        exact Ea (e+1) (by omega) ⟨by omega,fun j z hj hz=>by rcases Nat.lt_succ_iff_lt_or_eq.1 hj with h | rfl; exact halls j z h hz; rw [hsi] at hz; injection hz with hz; subst hz; exact hc9⟩ (sc rfl (sc rfl (sc rfl (sc rfl (sc rfl sn))))) (fun _ h=>h)
      ·
       have hges:¬e<(p.params++p.locs).length:=by simp only [List.length_append]; simp at hc8; omega
       have hanys:(p.params++p.locs).any (badN lv)=false:=any_false fun j z hj=>halls j z (by have:=(List.getElem?_eq_some_iff.1 hj).1; omega) hj
       have hbad:procL lv p=false:=by unfold procL; rw [hanys,h7_]; rfl
       refine Ce (Ex (Ex (Ebh (Eb (Et ?_)))))
       refine Cr ?_
       refine V0 (Ym rfl) ?_
       refine V0 (Yi rfl rfl rfl (by omega)) ?_
       refine V0 (Ya rfl) ?_
       refine Ln ?_
       exact Ea (jj+1) (by omega) ⟨by omega,fun j z hj hz=>by rcases Nat.lt_succ_iff_lt_or_eq.1 hj with h | rfl; exact hallp j z h hz; rw [hpi] at hz; injection hz with hz; subst hz; exact hbad⟩ (sc rfl (sc rfl (sc rfl sn))) (fun _ h=>Ws.drops (Ws.drop (L:=[_]) h) (fun _ hm=>List.mem_append_right [_] hm))
    ·
     have hgep:¬jj<m.procs.length:=by simpa using hc6
     have hanyp:m.procs.any (procL lv)=false:=any_false fun j z hj=>hallp j z (by have:=(List.getElem?_eq_some_iff.1 hj).1; omega) hj
     refine Ce (Ex (Ex (Ebh (Et (Cs ?_)))))
     refine Cr ?_
     refine V0 (Yf fo27_4 rfl) ?_
     refine V0 (Yd 0 rfl rfl rfl na25) ?_
     refine V0 (Ym rfl) ?_
     refine Lp (.inl rfl) rfl en41 rfl (fun w hw=>blockLook_any H ke lv hlv ks m.main r.a4 r.c4 1 w (hw.vs _ (by simp)) (by omega) hm.main) ?_
     refine V0 (Ya rfl) ?_
     refine Ln (Et (Crt ?_))
     refine WE.ret1 rfl rfl fun w' hw=>?_
     exact ⟨by rw [modL_end hc0 hanyu hanyd hanyp],hw.fr⟩
theorem checkModule_any (H:View) (ke ks:Nat) (r:MAt) (m:TMod) (w:World) (hH:Le H w) (hm:RdM ke ks H r m) (hb:wM m≤109951162777) :
   Calls Tryz.prog 8 #[.agg (modV m r).toArray] w fun e w'=>e = .returned (.int .i64 (checkL m))∧Ext w w':=by
 refine enter Tryz.func8 rfl 12 rfl rfl ?_
 refine CWd (W':=Ws w [] [] [H]) (fun _ e=>by subst e; exact Ws.init (by simp [hH])) ?_
 refine Cs (Cr ?_)
 refine WL.box (.inl rfl) rfl rfl fun b1=>?_
 refine V0 (Ya rfl) ?_
 refine Ln (Et (Cs (Cb (Cs (Cr ?_)))))
 refine V0 (Yda 0 rfl rfl ag27 rfl) ?_
 refine Lp (.inl rfl) rfl en23 rfl (fun w hw=>moduleLook_any H ke ks r m 1 w (by omega) (hw.vs _ (by simp)) hm hb) ?_
 refine V0 (Ya rfl) ?_
 refine Ln (Et ?_)
 refine Cc rfl (fun hc0=>?_) (fun hc0=>?_)
 ·
  refine Cs (Cr ?_)
  refine V0 (Ya rfl) ?_
  refine Ln (Et (Crt (Ebr (Er ?_))))
  refine WE.ret1 rfl rfl fun w' hw=>?_
  exact ⟨by rw [checkL,if_pos hc0],hw.fr⟩
 ·
  refine Cs (Cr ?_)
  refine V0 (Yda 0 rfl rfl ag27 rfl) ?_
  refine Lp (.inl rfl) rfl en23 rfl (fun w hw=>moduleLook_any H ke ks r m 2 w (by omega) (hw.vs _ (by simp)) hm hb) ?_
  refine V0 (Ya rfl) ?_
  refine Ln (Et ?_)
  refine Cc rfl (fun hc1=>?_) (fun hc1=>?_)
  ·
   refine Cs (Cr ?_)
   refine V0 (Ya rfl) ?_
   refine Ln (Et (Crt (Ebr (Er ?_))))
   refine WE.ret1 rfl rfl fun w' hw=>?_
   exact ⟨by rw [checkL,if_neg (by rw [hc0]; decide),if_pos hc1],hw.fr⟩
  ·
   refine Cs (Cr ?_)
   refine V0 (Yda 0 rfl rfl ag27 rfl) ?_
   refine Lp (.inl rfl) rfl en23 rfl (fun w hw=>moduleLook_any H ke ks r m 3 w (by omega) (hw.vs _ (by simp)) hm hb) ?_
   refine V0 (Ya rfl) ?_
   refine Ln (Et ?_)
   refine Cc rfl (fun hc2=>?_) (fun hc2=>?_)
   ·
    refine Cs (Cr ?_)
    refine V0 (Ya rfl) ?_
    refine Ln (Et (Crt (Ebr (Er ?_))))
    refine WE.ret1 rfl rfl fun w' hw=>?_
    exact ⟨by rw [checkL,if_neg (by rw [hc0]; decide),if_neg (by rw [hc1]; decide),if_pos hc2],hw.fr⟩
   ·
    refine Ck (Eb (Et (Cs (Cr ?_))))
    refine V0 (Ya rfl) ?_
    refine Ln (Et (Crt ?_))
    refine WE.ret1 rfl rfl fun w' hw=>?_
    exact ⟨by rw [checkL,if_neg (by rw [hc0]; decide),if_neg (by rw [hc1]; decide),if_neg (by rw [hc2]; decide)],hw.fr⟩
end Go.Proofs.YtjfldjidhkfnbaaGreatDoor
end
section
namespace Go.Proofs.YtjfldjidhkfnbaaGreatDoor
open Go.Bw
set_option linter.unusedVariables false
set_option linter.unusedSimpArgs false
theorem TE_eq (x:TExpr):exprT x=exprTO x.op x.n x.mod x.nm (exprTs x.args):=by cases x; rw [exprT]; rfl
theorem TS_eq (x:TStmt):stmtT x=stmtTO x.op x.mod x.nm (exprTs x.args) (stmtTs x.body) x.other.length (stmtTs x.other):=by cases x; rw [stmtT]; rfl
theorem exprTs_len:∀l:List TExpr,(exprTs l).length=l.length
 | []=>rfl
 | x::r=>by unfold exprTs; simp [exprTs_len r]
theorem exprTs_get:∀{l:List TExpr} {i:Nat} {y:TExpr},l[i]? = some y→(exprTs l)[i]? = some (exprT y)
 | [],i,y,h=>by simp at h
 | x::r,0,y,h=>by simp at h; subst h; rfl
 | x::r,i+1,y,h=>by
   have:=exprTs_get (l:=r) (i:=i) (y:=y) (by simpa using h)
   unfold exprTs
   simpa using this
theorem atT_get {l:List TExpr} {i:Nat} {y:TExpr} (h:l[i]? = some y):atT (exprTs l) i=exprT y:=by unfold atT; rw [exprTs_get h]; rfl
theorem refT_t {mod nm:Tx} (h:(mod==[])=true):refT mod nm=nm:=by unfold refT; rw [if_pos h]
theorem refT_f {mod nm:Tx} (h:(mod==[])=false):refT mod nm=mod++[32,46,32]++nm:=by unfold refT; rw [if_neg (by rw [h]; decide)]
theorem TE1 {x:TExpr} (h:x.op=1) (h0:0≤x.n):exprT x=Lib.decDigits x.n.toNat:=by rw [TE_eq,exprTO,if_pos h,itoa_pos h0]
theorem TE2 {x:TExpr} (h:x.op=2):exprT x=[105,110]:=by rw [TE_eq,exprTO,if_neg (by omega),if_pos h]; rfl
theorem TE3 {x:TExpr} (h:x.op=3):exprT x=refT x.mod x.nm:=by rw [TE_eq,exprTO,if_neg (by omega),if_neg (by omega),if_pos h]
theorem TE4 {x y:TExpr} (h:x.op=4) (hy:x.args[0]? = some y):exprT x=refT x.mod x.nm++[32,91,32]++exprT y++[32,93]:=by rw [TE_eq,exprTO,if_neg (by omega),if_neg (by omega),if_neg (by omega),if_pos h,atT_get hy]
theorem TE5 {x:TExpr} (h:x.op=5):exprT x=refT x.mod x.nm++[32,40]++argsT (exprTs x.args)++[32,41]:=by rw [TE_eq,exprTO,if_neg (by omega),if_neg (by omega),if_neg (by omega),if_neg (by omega),if_pos h]
theorem TE6 {x y:TExpr} (h:x.op=6) (hy:x.args[0]? = some y):exprT x=[33,32]++exprT y:=by rw [TE_eq,exprTO,if_neg (by omega),if_neg (by omega),if_neg (by omega),if_neg (by omega),if_neg (by omega),if_pos h,atT_get hy]
theorem TE7 {x y z:TExpr} (h:7≤x.op) (hy:x.args[0]? = some y) (hz:x.args[1]? = some z):exprT x=[40,32]++exprT y++[32]++opW x.op++[32]++exprT z++[32,41]:=by rw [TE_eq,exprTO,if_neg (by omega),if_neg (by omega),if_neg (by omega),if_neg (by omega),if_neg (by omega),if_neg (by omega),atT_get hy,atT_get hz]
theorem argsT_snoc (x:Tx):∀l:List Tx,l≠[]→argsT (l++[x])=argsT l++[32,44]++[32]++x
 | [],h=>absurd rfl h
 | [y],_=>by simp [argsT]
 | y::z::r,_=>by
   have:=argsT_snoc x (z::r) (by simp)
   show [32]++y++[32,44]++argsT ((z::r)++[x])=[32]++y++[32,44]++argsT (z::r)++[32,44]++[32]++x
   rw [this]
   simp
theorem argsT_take0 {l:List Tx} {x:Tx} {i:Nat} (h:l[i]? = some x) (hi:i=0):argsT (l.take (i+1))=argsT (l.take i)++[32]++x:=by
 subst hi
 rw [take_snoc h]
 simp [argsT]
theorem argsT_takeS {l:List Tx} {x:Tx} {i:Nat} (h:l[i]? = some x) (hi:0<i):argsT (l.take (i+1))=argsT (l.take i)++[32,44]++[32]++x:=by
 have hlt:=(List.getElem?_eq_some_iff.1 h).1
 rw [take_snoc h,argsT_snoc]
 intro h2
 have h3:(l.take i).length=i:=by rw [List.length_take]; omega
 rw [h2,List.length_nil] at h3
 omega
theorem argsT_le (l:List Tx) (i:Nat):(argsT (l.take i)).length≤(argsT l).length:=by
 have key:∀(a b:List Tx),(argsT a).length≤(argsT (a++b)).length:=by
   intro a b
   induction a with
   | nil=>simp [argsT]
   | cons x r ih=>
     cases r with
     | nil=>cases b with
       | nil=>simp
       | cons y b=>simp only [List.cons_append,List.nil_append,argsT,List.length_append,List.length_cons,List.length_nil]; omega
     | cons y r=>simp only [List.cons_append,List.nil_append,argsT,List.length_append,List.length_cons,List.length_nil] at ih ⊢; omega
 have:=key (l.take i) (l.drop i)
 rwa [List.take_append_drop] at this
theorem opW_get {op:Int} (h:7≤op∧op≤15):opsL[(op-7).toNat]? = some (opW op):=by
 have:op=7∨op=8∨op=9∨op=10∨op=11∨op=12∨op=13∨op=14∨op=15:=by omega
 rcases this with rfl | rfl | rfl | rfl | rfl | rfl | rfl | rfl | rfl<;>rfl
theorem TS1 {x:TStmt} {y:TExpr} (h:x.op=1) (hy:x.args[0]? = some y):stmtT x=refT x.mod x.nm++[32,61,32]++exprT y++[32,59]:=by rw [TS_eq,stmtTO,if_pos h,atT_get hy]
theorem TS2 {x:TStmt} {y z:TExpr} (h:x.op=2) (hy:x.args[0]? = some y) (hz:x.args[1]? = some z):stmtT x=refT x.mod x.nm++[32,91,32]++exprT y++[32,93,32,61,32]++exprT z++[32,59]:=by rw [TS_eq,stmtTO,if_neg (by omega),if_pos h,atT_get hy,atT_get hz]
theorem TS3 {x:TStmt} (h:x.op=3):stmtT x=refT x.mod x.nm++[32,40]++argsT (exprTs x.args)++[32,41,32,59]:=by rw [TS_eq,stmtTO,if_neg (by omega),if_neg (by omega),if_pos h]
theorem TS4 {x:TStmt} {y:TExpr} (h:x.op=4) (hy:x.args[0]? = some y) (ho:0<x.other.length):stmtT x=[105,102,32]++exprT y++[32]++blockT x.body++[32,101,108,115,101,32]++blockT x.other:=by
 rw [TS_eq,stmtTO,if_neg (by omega),if_neg (by omega),if_neg (by omega),if_pos h,if_pos ho,atT_get hy]; simp [blockT,w_if,w_else]
theorem TS40 {x:TStmt} {y:TExpr} (h:x.op=4) (hy:x.args[0]? = some y) (ho:¬0<x.other.length):stmtT x=[105,102,32]++exprT y++[32]++blockT x.body:=by
 rw [TS_eq,stmtTO,if_neg (by omega),if_neg (by omega),if_neg (by omega),if_pos h,if_neg ho,atT_get hy]; simp [blockT,w_if]
theorem TS5 {x:TStmt} {y:TExpr} (h:x.op=5) (hy:x.args[0]? = some y):stmtT x=[119,104,105,108,101,32]++exprT y++[32]++blockT x.body:=by
 rw [TS_eq,stmtTO,if_neg (by omega),if_neg (by omega),if_neg (by omega),if_neg (by omega),if_pos h,atT_get hy]; simp [blockT,w_while]
theorem TS6 {x:TStmt} {y:TExpr} (h:x.op=6) (hy:x.args[0]? = some y):stmtT x=[114,101,116,117,114,110,32]++exprT y++[32,59]:=by
 rw [TS_eq,stmtTO,if_neg (by omega),if_neg (by omega),if_neg (by omega),if_neg (by omega),if_neg (by omega),if_pos h,atT_get hy]; simp [w_return]
theorem TS7 {x:TStmt} {y:TExpr} (h:x.op=7) (hy:x.args[0]? = some y):stmtT x=[111,117,116,32]++exprT y++[32,59]:=by
 rw [TS_eq,stmtTO,if_neg (by omega),if_neg (by omega),if_neg (by omega),if_neg (by omega),if_neg (by omega),if_neg (by omega),atT_get hy]; simp [w_out]
theorem stmtTs_app:∀a b:List TStmt,stmtTs (a++b)=stmtTs a++stmtTs b
 | [],b=>by simp [stmtTs]
 | x::a,b=>by
   rw [List.cons_append,show ∀q,stmtTs (x::q)=stmtT x++[32]++stmtTs q from fun q=>by rw [stmtTs],stmtTs_app a b,show ∀q,stmtTs (x::q)=stmtT x++[32]++stmtTs q from fun q=>by rw [stmtTs]]; simp only [List.append_assoc]
theorem stmtTs_take {l:List TStmt} {i:Nat} {x:TStmt} (h:l[i]? = some x):stmtTs (l.take (i+1))=stmtTs (l.take i)++stmtT x++[32]:=by
 rw [take_snoc h,stmtTs_app]; simp [stmtTs]
theorem stmtTs_le (l:List TStmt) (i:Nat):(stmtTs (l.take i)).length≤(stmtTs l).length:=by
 conv=>rhs; rw [←List.take_append_drop i l,stmtTs_app,List.length_append]
 omega
theorem stmtT_part {l:List TStmt} {i:Nat} {x:TStmt} (h:l[i]? = some x):(stmtTs (l.take i)).length+(stmtT x).length+1≤(stmtTs l).length:=by
 have:=stmtTs_le l (i+1)
 rw [stmtTs_take h,List.length_append,List.length_append] at this
 exact this
theorem blockT_len (l:List TStmt):(blockT l).length=(stmtTs l).length+3:=by
 unfold blockT blkT
 simp only [List.length_append,List.length_cons,List.length_nil]; omega
def TxE (H:View) (k:Nat):Prop:=∀(x:TExpr) (a:Option Addr) (n d:Nat) (w:World),Le H w→Sl (RdE k) 5 H a n x.args→(cntE x d).tot=0→(exprT x).length≤9223372036854775807→Calls Tryz.prog 75 #[.agg #[.int .i64 x.op,.int .i64 x.n,st x.mod,st x.nm,.slice a x.args.length n]] w fun e w'=>e = .returned (st (exprT x))∧Ext w w'
def TxB (H:View) (ke k:Nat):Prop:=∀(l:List TStmt) (a:Option Addr) (n d:Nat) (w:World),Le H w→Sl (RdS ke k) 6 H a n l→(cntB l d).tot=0→(blockT l).length≤9223372036854775807→Calls Tryz.prog 28 #[.slice a l.length n] w fun e w'=>e = .returned (st (blockT l))∧Ext w w'
theorem en75:Enters Tryz.prog 75:=enters_of Tryz.func75 (by kernel_rfl) rfl
theorem en74:Enters Tryz.prog 74:=enters_of Tryz.func74 (by kernel_rfl) rfl
theorem en76:Enters Tryz.prog 76:=enters_of Tryz.func76 (by kernel_rfl) rfl
theorem en101:Enters Tryz.prog 101:=enters_of Tryz.func101 (by kernel_rfl) rfl
theorem en28:Enters Tryz.prog 28:=enters_of Tryz.func28 (by kernel_rfl) rfl
theorem en46:Enters Tryz.prog 46:=enters_of Tryz.func46 (by kernel_rfl) rfl
theorem refText_any (mod nm:Tx) (w:World) (hl:(refT mod nm).length≤9223372036854775807) :
   Calls Tryz.prog 74 #[st mod,st nm] w fun e w'=>e = .returned (st (refT mod nm))∧Ext w w':=by
 refine enter Tryz.func74 rfl 12 rfl rfl ?_
 refine CWd (W':=Ws w [] [] []) (fun _ e=>by subst e; exact Ws.init (by simp)) ?_
 refine Cs (Cr ?_)
 refine V0 (Ya rfl) ?_
 refine Ln (Et (Cs (Cs (Cr ?_))))
 refine V0 (Ym rfl) ?_
 refine V0 (yl_eqs rfl rfl) ?_
 refine Ln (Et ?_)
 refine Cc rfl (fun hc0=>?_) (fun hc0=>?_)
 ·
  have HE:=refT_t (nm:=nm) hc0
  refine Cs (Cr ?_)
  refine V0 (Ym rfl) ?_
  refine V0 (Ya rfl) ?_
  refine Ln (Et (Crt (Er ?_)))
  refine WE.ret1 rfl rfl fun w' hw=>?_
  exact ⟨by rw [HE],hw.fr⟩
 ·
  have HE:=refT_f (nm:=nm) hc0
  have hN:=congrArg List.length HE
  simp only [List.length_append,List.length_cons,List.length_nil] at hN
  refine Ck (Et (Cs (Cr ?_)))
  refine V0 (Ym rfl) ?_
  refine V0 (yl_cats (b:=[32,46,32]) rfl rfl (by (try simp only [List.length_append,List.length_cons,List.length_nil]); omega)) ?_
  refine V0 (Ym rfl) ?_
  refine V0 (yl_cats rfl rfl (by (try simp only [List.length_append,List.length_cons,List.length_nil]); omega)) ?_
  refine V0 (Ya rfl) ?_
  refine Ln (Et (Crt ?_))
  refine WE.ret1 rfl rfl fun w' hw=>?_
  exact ⟨by rw [HE],hw.fr⟩
theorem opSign_any (op:Int) (h:7≤op∧op≤15) (w:World) :
   Calls Tryz.prog 101 #[.int .i64 op] w fun e w'=>e = .returned (st (opW op))∧Ext w w':=by
 refine enter Tryz.func101 rfl 8 rfl rfl ?_
 refine CWd (W':=Ws w [] [] []) (fun _ e=>by subst e; exact Ws.init (by simp)) ?_
 refine Cs (Cr ?_)
 refine V0 (Ya rfl) ?_
 refine Ln (Et (Cs (Cr ?_)))
 refine Lb (.inl rfl) rfl el22 rfl rfl rfl rfl fun b3=>?_
 refine Lsv (T:=9) (m:=9) 0 [[38],[124],[43],[45],[42],[47],[37],[61],[60]] rfl rfl (show 9≤9 by decide) (by decide) fun H3 hH3=>?_
 obtain ⟨pb,po,ha,hrow⟩:=hH3.elt (op-7).toNat (opW op) (opW_get h)
 have hrow:RdC H3 pb (po+(op-7).toNat*1) (strC (opW op)):=hrow
 refine V0 (Ym rfl) ?_
 refine V0 (yl_subv (((op-7).toNat:Nat):Int) rfl rfl (by omega) (by omega)) ?_
 refine V0 (Yo (i:=(op-7).toNat) es22 rfl rfl ha (by first | omega | (simp only [List.length_cons,List.length_nil]; omega))) ?_
 refine V0 (yl_ld 0 na9 rfl rfl (hrow 0 _ rfl)) ?_
 refine V0 (Ya rfl) ?_
 refine Ln (Et (Crt ?_))
 refine WE.ret1 rfl rfl fun w' hw=>?_
 exact ⟨rfl,hw.fr⟩
theorem argsText_any (H:View) (k:Nat) (hE:∀k2,k2<k→TxE H k2) (xs:List TExpr) (a:Option Addr) (n d:Nat) (w:World) (hH:Le H w) (hm:Sl (RdE k) 5 H a n xs) (hc:(cntEs xs d).tot=0) (hl:(argsT (exprTs xs)).length≤9223372036854775807) :
   Calls Tryz.prog 76 #[.slice a xs.length n] w fun e w'=>e = .returned (st (argsT (exprTs xs)))∧Ext w w':=by
 have hcap:=hm.cap
 have hmax:=hm.max
 have hlx:=exprTs_len xs
 refine enter Tryz.func76 rfl 24 rfl rfl ?_
 refine CWd (W':=Ws w [] [] [H]) (fun _ e=>by subst e; exact Ws.init (by simp [hH])) ?_
 refine Cs (Cr ?_)
 refine V0 (Ya rfl) ?_
 refine Ln (Et (Cs (Cr ?_)))
 refine V0 (Ya rfl) ?_
 refine Ln (Et (Cs (Cs (Cr ?_))))
 refine V0 (Ya rfl) ?_
 refine Ln (Et (Cb ?_))
 refine CW (ι:=Nat) (fun i=>[(4,.int .i64 (i:Int)),(3,st (argsT ((exprTs xs).take i)))]) [(0,_),(2,_)] (fun i=>i≤xs.length) (fun i=>xs.length-i) 0 (Nat.zero_le _) (sc rfl (sc rfl (sc rfl (sc rfl sn)))) ?_
 intro i hi
 refine Cs (Cs (Cr ?_))
 refine V0 (Ym rfl) ?_
 refine V0 (Ym rfl) ?_
 refine V0 (Yn es41 rfl) ?_
 refine V0 (yl_lt rfl rfl) ?_
 refine Ln (Et ?_)
 refine Cc rfl (fun hc0=>?_) (fun hc0=>?_)
 ·
  have hlt:i<xs.length:=by simpa using hc0
  have hlt:i<xs.length:=by simpa using hc0
  obtain ⟨y,hyi⟩:∃q,xs[i]? = some q:=⟨_,List.getElem?_eq_getElem hlt⟩
  obtain ⟨pby,poy,hay,hry⟩:=hm.elt i y hyi
  obtain ⟨k2,rfl⟩:∃k2,k=k2+1:=by
    cases k with
    | zero=>exact hry.elim
    | succ k2=>exact ⟨k2,rfl⟩
  obtain ⟨ya,yn,hrowy,hsuby⟩:=hry
  have hcy:=cntEs_get hc hyi
  have hgy:=exprTs_get hyi
  have hle:=argsT_le (exprTs xs) (i+1)
  refine Ck (Et (Cs (Cb (Cs (Cs ?_)))))
  refine Cr ?_
  refine V0 (Ym rfl) ?_
  refine V0 (yl_gt rfl rfl) ?_
  refine Ln (Et ?_)
  refine Cc rfl (fun hc1=>?_) (fun hc1=>?_)
  ·
   have HC:=argsT_takeS hgy (by simp at hc1; omega)
   rw [HC] at hle
   simp only [List.length_append,List.length_cons,List.length_nil] at hle
   refine Cr ?_
   refine V0 (Ym rfl) ?_
   refine V0 (yl_cats (b:=[32,44]) rfl rfl (by (try simp only [List.length_append,List.length_cons,List.length_nil]); omega)) ?_
   refine V0 (Ya rfl) ?_
   refine Ln (Et (Cr ?_))
   refine V0 (Ym rfl) ?_
   refine V0 (yl_cats (b:=[32]) rfl rfl (by (try simp only [List.length_append,List.length_cons,List.length_nil]); omega)) ?_
   refine V0 (Ym rfl) ?_
   refine V0 (Ym rfl) ?_
   refine V0 (Yo es41 rfl rfl hay (by omega)) ?_
   refine V0 (yl_lda 0 ag81 rfl rfl rfl (hrowy)) ?_
   refine Lp (.inl rfl) rfl en75 rfl (fun w hw=>hE k2 (by omega) y ya yn d w (hw.vs _ (by simp)) hsuby hcy (by omega)) ?_
   refine V0 (yl_cats rfl rfl (by (try simp only [List.length_append,List.length_cons,List.length_nil]); omega)) ?_
   refine V0 (Ya rfl) ?_
   refine Ln (Eb (Et (Cr ?_)))
   refine V0 (Ym rfl) ?_
   refine V0 (Yi rfl rfl rfl (by omega)) ?_
   refine V0 (Ya rfl) ?_
   refine Ln ?_
   rw [←HC]
   exact Ea (i+1) (by omega) (by omega) (sc rfl (sc rfl (sc rfl (sc rfl sn)))) (fun _ h=>h)
  ·
   have HC:=argsT_take0 hgy (by simp at hc1; omega)
   rw [HC] at hle
   simp only [List.length_append,List.length_cons,List.length_nil] at hle
   refine Ck (Et (Cr ?_))
   refine V0 (Ym rfl) ?_
   refine V0 (yl_cats (b:=[32]) rfl rfl (by (try simp only [List.length_append,List.length_cons,List.length_nil]); omega)) ?_
   refine V0 (Ym rfl) ?_
   refine V0 (Ym rfl) ?_
   refine V0 (Yo es41 rfl rfl hay (by omega)) ?_
   refine V0 (yl_lda 0 ag81 rfl rfl rfl (hrowy)) ?_
   refine Lp (.inl rfl) rfl en75 rfl (fun w hw=>hE k2 (by omega) y ya yn d w (hw.vs _ (by simp)) hsuby hcy (by omega)) ?_
   refine V0 (yl_cats rfl rfl (by (try simp only [List.length_append,List.length_cons,List.length_nil]); omega)) ?_
   refine V0 (Ya rfl) ?_
   refine Ln (Eb (Et (Cr ?_)))
   refine V0 (Ym rfl) ?_
   refine V0 (Yi rfl rfl rfl (by omega)) ?_
   refine V0 (Ya rfl) ?_
   refine Ln ?_
   rw [←HC]
   exact Ea (i+1) (by omega) (by omega) (sc rfl (sc rfl (sc rfl (sc rfl sn)))) (fun _ h=>h)
 ·
  have hge:¬i<xs.length:=by simpa using hc0
  have hT:argsT ((exprTs xs).take i)=argsT (exprTs xs):=by rw [List.take_of_length_le (by omega)]
  refine Ce (Ex (Ex (Ebh (Et (Cs ?_)))))
  refine Cr ?_
  refine V0 (Ym rfl) ?_
  refine V0 (Ya rfl) ?_
  refine Ln (Et (Crt ?_))
  refine WE.ret1 rfl rfl fun w' hw=>?_
  exact ⟨by rw [hT],hw.fr⟩
theorem exprText_any (H:View) (k:Nat) (x:TExpr) (a:Option Addr) (n d:Nat) (w:World) (hH:Le H w) (hm:Sl (RdE k) 5 H a n x.args) (hcx:(cntE x d).tot=0) (hl:(exprT x).length≤9223372036854775807) :
   Calls Tryz.prog 75 #[.agg #[.int .i64 x.op,.int .i64 x.n,st x.mod,st x.nm,.slice a x.args.length n]] w fun e w'=>e = .returned (st (exprT x))∧Ext w w':=by
 induction k using Nat.strongRecOn generalizing x a n d w
 rename_i k ih
 have hE:∀k2,k2<k→TxE H k2:=fun k2 hk x a n d w h0 h1 h2 h3=>ih k2 hk x a n d w h0 h1 h2 h3
 have hcap:=hm.cap
 have hmax:=hm.max
 have ho:=okE' hcx
 have hkk:=ho.kind
 refine enter Tryz.func75 rfl 74 rfl rfl ?_
 refine CWd (W':=Ws w [] [] [H]) (fun _ e=>by subst e; exact Ws.init (by simp [hH])) ?_
 refine Cs (Cr ?_)
 refine WL.box (.inl rfl) rfl rfl fun b1=>?_
 refine V0 (Ya rfl) ?_
 refine Ln (Et (Cs (Cs (Cr ?_))))
 refine V0 (Yf fo81_0 rfl) ?_
 refine V0 (Yd 0 rfl rfl rfl na3) ?_
 refine Ln (Et (Cb (Cs (Cr ?_))))
 refine V0 (yl_eq rfl rfl) ?_
 refine V0 (Ya rfl) ?_
 refine Ln (Et ?_)
 refine Cc rfl (fun hc0=>?_) (fun hc0=>?_)
 ·
  have hk:x.op=1:=by simpa using hc0
  have hnb:=numBad1 (n:=x.n) (by have:=ho.num; rwa [hk] at this)
  have hn0:0≤x.n:=hnb.1
  have HE:=TE1 hk hn0
  refine Cs (Cr ?_)
  refine V0 (Yf fo81_1 rfl) ?_
  refine V0 (Yd 0 rfl rfl rfl na3) ?_
  refine Lp (.inl rfl) rfl en27 rfl (fun w hw=>by
      have:=digits_any x.n.toNat w (by omega)
      rw [Int.toNat_of_nonneg hn0] at this
      exact this) ?_
  refine V0 (Ya rfl) ?_
  refine Ln (Et (Crt (Ebr (Er ?_))))
  refine WE.ret1 rfl rfl fun w' hw=>?_
  exact ⟨by rw [HE],hw.fr⟩
 ·
  have h1:¬x.op=1:=by simpa using hc0
  refine Cs (Cr ?_)
  refine V0 (yl_eq rfl rfl) ?_
  refine V0 (Ya rfl) ?_
  refine Ln (Et ?_)
  refine Cc rfl (fun hc1=>?_) (fun hc1=>?_)
  ·
   have hk:x.op=2:=by simpa using hc1
   have HE:exprT x=[105,110]:=TE2 hk
   have HE2:st (exprT x) = .string { data:=#[105,110] }:=by rw [HE]; rfl
   refine Cs (Cr ?_)
   refine V0 (Ya rfl) ?_
   refine Ln (Et (Crt (Ebr (Er ?_))))
   refine WE.ret1 rfl rfl fun w' hw=>?_
   exact ⟨by rw [HE2],hw.fr⟩
  ·
   have h2:¬x.op=2:=by simpa using hc1
   refine Cs (Cr ?_)
   refine V0 (yl_eq rfl rfl) ?_
   refine V0 (Ya rfl) ?_
   refine Ln (Et ?_)
   refine Cc rfl (fun hc2=>?_) (fun hc2=>?_)
   ·
    have hk:x.op=3:=by simpa using hc2
    have HE:=TE3 hk
    have hN:=congrArg List.length HE
    refine Cs (Cr ?_)
    refine V0 (Yf fo81_2 rfl) ?_
    refine V0 (Yd 0 rfl rfl rfl na9) ?_
    refine V0 (Yf fo81_3 rfl) ?_
    refine V0 (Yd 0 rfl rfl rfl na9) ?_
    refine Lp (.inl rfl) rfl en74 rfl (fun w hw=>refText_any _ _ w (by omega)) ?_
    refine V0 (Ya rfl) ?_
    refine Ln (Et (Crt (Ebr (Er ?_))))
    refine WE.ret1 rfl rfl fun w' hw=>?_
    exact ⟨by rw [HE],hw.fr⟩
   ·
    have h3:¬x.op=3:=by simpa using hc2
    refine Cs (Cr ?_)
    refine V0 (yl_eq rfl rfl) ?_
    refine V0 (Ya rfl) ?_
    refine Ln (Et ?_)
    refine Cc rfl (fun hc3=>?_) (fun hc3=>?_)
    ·
     have hk:x.op=4:=by simpa using hc3
     have hlen:=ho.len1 (.inl hk)
     obtain ⟨y,hyi⟩:∃y,x.args[0]? = some y:=get0 hlen (by decide)
     obtain ⟨pby,poy,hay,hry⟩:=hm.elt 0 y hyi
     obtain ⟨k2,rfl⟩:∃k2,k=k2+1:=by
       cases k with
       | zero=>exact hry.elim
       | succ k2=>exact ⟨k2,rfl⟩
     obtain ⟨ya,yn,hrowy,hsuby⟩:=hry
     have hcy:=cntEs_get ho.sub hyi
     have HE:=TE4 hk hyi
     have hN:=congrArg List.length HE
     simp only [List.length_append,List.length_cons,List.length_nil] at hN
     refine Cs ?_
     refine WC.draws0 [(0,true),(1,true),(2,true),(3,true),(6,true),(7,true),(8,true),(9,true),(4,false),(5,true),(10,false),(11,true),(12,true),(13,true)] mixed (by kernel_rfl) (fun _ _ _ d _ h=>by cases d<;>exact h) ?_
     refine Dq rfl (.inl rfl) rfl (fun _ h=>h) (Yf fo81_2 rfl) ?_
     refine Dq rfl (.inl rfl) rfl (fun _ h=>h) (Yd 0 rfl rfl rfl na9) ?_
     refine Dq rfl (.inl rfl) rfl (fun _ h=>h) (Yf fo81_3 rfl) ?_
     refine Dq rfl (.inl rfl) rfl (fun _ h=>h) (Yd 0 rfl rfl rfl na9) ?_
     refine Dq rfl (.inl rfl) rfl (fun _ h=>h) (Yf fo81_4 rfl) ?_
     refine Dq rfl (.inl rfl) rfl (fun _ h=>h) (Yd 0 rfl rfl rfl na41) ?_
     refine Dq rfl (.inl rfl) rfl (fun _ h=>h) (Yo (i:=0) es41 rfl rfl hay (by omega)) ?_
     refine Dq rfl (.inl rfl) rfl (fun _ h=>h) (yl_lda 0 ag81 rfl rfl rfl (hrowy)) ?_
     refine De rfl (fun _ h=>h) ?_
     refine Lp (.inl rfl) rfl en74 rfl (fun w hw=>refText_any _ _ w (by omega)) ?_
     refine Ln (Ed ?_)
     refine Dq rfl (.inl rfl) rfl (fun _ h=>h) (yl_cats (b:=[32,91,32]) rfl rfl (by (try simp only [List.length_append,List.length_cons,List.length_nil]); omega)) ?_
     refine De rfl (fun _ h=>h) ?_
     refine Lp (.inl rfl) rfl en75 rfl (fun w hw=>hE k2 (by omega) y ya yn (d+1) w (hw.vs _ (by simp)) hsuby hcy (by omega)) ?_
     refine Ln (Ed ?_)
     refine Dq rfl (.inl rfl) rfl (fun _ h=>h) (yl_cats rfl rfl (by (try simp only [List.length_append,List.length_cons,List.length_nil]); omega)) ?_
     refine Dq rfl (.inl rfl) rfl (fun _ h=>h) (yl_cats (b:=[32,93]) rfl rfl (by (try simp only [List.length_append,List.length_cons,List.length_nil]); omega)) ?_
     refine Dq rfl (.inl rfl) rfl (fun _ h=>h) (Ya rfl) ?_
     refine WD.nil (fun _ h=>h) ?_
     refine Et (Crt (Ebr (Er ?_)))
     refine WE.ret1 rfl rfl fun w' hw=>?_
     exact ⟨by rw [HE],hw.fr⟩
    ·
     have h4:¬x.op=4:=by simpa using hc3
     refine Cs (Cr ?_)
     refine V0 (yl_eq rfl rfl) ?_
     refine V0 (Ya rfl) ?_
     refine Ln (Et ?_)
     refine Cc rfl (fun hc4=>?_) (fun hc4=>?_)
     ·
      have hk:x.op=5:=by simpa using hc4
      have HE:=TE5 hk
      have hN:=congrArg List.length HE
      simp only [List.length_append,List.length_cons,List.length_nil] at hN
      refine Cs ?_
      refine WC.draws0 [(0,true),(1,true),(2,true),(3,true),(6,true),(7,true),(4,false),(5,true),(8,false),(9,true),(10,true),(11,true)] mixed (by kernel_rfl) (fun _ _ _ d _ h=>by cases d<;>exact h) ?_
      refine Dq rfl (.inl rfl) rfl (fun _ h=>h) (Yf fo81_2 rfl) ?_
      refine Dq rfl (.inl rfl) rfl (fun _ h=>h) (Yd 0 rfl rfl rfl na9) ?_
      refine Dq rfl (.inl rfl) rfl (fun _ h=>h) (Yf fo81_3 rfl) ?_
      refine Dq rfl (.inl rfl) rfl (fun _ h=>h) (Yd 0 rfl rfl rfl na9) ?_
      refine Dq rfl (.inl rfl) rfl (fun _ h=>h) (Yf fo81_4 rfl) ?_
      refine Dq rfl (.inl rfl) rfl (fun _ h=>h) (Yd 0 rfl rfl rfl na41) ?_
      refine De rfl (fun _ h=>h) ?_
      refine Lp (.inl rfl) rfl en74 rfl (fun w hw=>refText_any _ _ w (by omega)) ?_
      refine Ln (Ed ?_)
      refine Dq rfl (.inl rfl) rfl (fun _ h=>h) (yl_cats (b:=[32,40]) rfl rfl (by (try simp only [List.length_append,List.length_cons,List.length_nil]); omega)) ?_
      refine De rfl (fun _ h=>h) ?_
      refine Lp (.inl rfl) rfl en76 rfl (fun w hw=>argsText_any H k hE x.args a n (d+1) w (hw.vs _ (by simp)) hm ho.sub (by omega)) ?_
      refine Ln (Ed ?_)
      refine Dq rfl (.inl rfl) rfl (fun _ h=>h) (yl_cats rfl rfl (by (try simp only [List.length_append,List.length_cons,List.length_nil]); omega)) ?_
      refine Dq rfl (.inl rfl) rfl (fun _ h=>h) (yl_cats (b:=[32,41]) rfl rfl (by (try simp only [List.length_append,List.length_cons,List.length_nil]); omega)) ?_
      refine Dq rfl (.inl rfl) rfl (fun _ h=>h) (Ya rfl) ?_
      refine WD.nil (fun _ h=>h) ?_
      refine Et (Crt (Ebr (Er ?_)))
      refine WE.ret1 rfl rfl fun w' hw=>?_
      exact ⟨by rw [HE],hw.fr⟩
     ·
      have h5:¬x.op=5:=by simpa using hc4
      refine Cs (Cr ?_)
      refine V0 (yl_eq rfl rfl) ?_
      refine V0 (Ya rfl) ?_
      refine Ln (Et ?_)
      refine Cc rfl (fun hc5=>?_) (fun hc5=>?_)
      ·
       have hk:x.op=6:=by simpa using hc5
       have hlen:=ho.len1 (.inr hk)
       obtain ⟨y,hyi⟩:∃y,x.args[0]? = some y:=get0 hlen (by decide)
       obtain ⟨pby,poy,hay,hry⟩:=hm.elt 0 y hyi
       obtain ⟨k2,rfl⟩:∃k2,k=k2+1:=by
         cases k with
         | zero=>exact hry.elim
         | succ k2=>exact ⟨k2,rfl⟩
       obtain ⟨ya,yn,hrowy,hsuby⟩:=hry
       have hcy:=cntEs_get ho.sub hyi
       have HE:=TE6 hk hyi
       have hN:=congrArg List.length HE
       simp only [List.length_append,List.length_cons,List.length_nil] at hN
       refine Cs (Cr ?_)
       refine V0 (Yf fo81_4 rfl) ?_
       refine V0 (Yd 0 rfl rfl rfl na41) ?_
       refine V0 (Yo (i:=0) es41 rfl rfl hay (by omega)) ?_
       refine V0 (yl_lda 0 ag81 rfl rfl rfl (hrowy)) ?_
       refine Lp (.inl rfl) rfl en75 rfl (fun w hw=>hE k2 (by omega) y ya yn (d+1) w (hw.vs _ (by simp)) hsuby hcy (by omega)) ?_
       refine V0 (yl_cats (a:=[33,32]) rfl rfl (by (try simp only [List.length_append,List.length_cons,List.length_nil]); omega)) ?_
       refine V0 (Ya rfl) ?_
       refine Ln (Et (Crt (Ebr (Er ?_))))
       refine WE.ret1 rfl rfl fun w' hw=>?_
       exact ⟨by rw [HE],hw.fr⟩
      ·
       have h6:¬x.op=6:=by simpa using hc5
       have hop:7≤x.op∧x.op≤15:=by omega
       have hlen:=ho.len2 hop.1
       obtain ⟨y,hyi⟩:∃y,x.args[0]? = some y:=get0 hlen (by decide)
       obtain ⟨z,hzi⟩:∃y,x.args[1]? = some y:=get0 hlen (by decide)
       obtain ⟨pby,poy,hay,hry⟩:=hm.elt 0 y hyi
       obtain ⟨pbz,poz,haz,hrz⟩:=hm.elt 1 z hzi
       obtain ⟨k2,rfl⟩:∃k2,k=k2+1:=by
         cases k with
         | zero=>exact hry.elim
         | succ k2=>exact ⟨k2,rfl⟩
       obtain ⟨ya,yn,hrowy,hsuby⟩:=hry
       obtain ⟨za,zn,hrowz,hsubz⟩:=hrz
       have hcy:=cntEs_get ho.sub hyi
       have hcz:=cntEs_get ho.sub hzi
       have HE:=TE7 hop.1 hyi hzi
       have hN:=congrArg List.length HE
       simp only [List.length_append,List.length_cons,List.length_nil] at hN
       refine Ck (Eb (Et (Cs ?_)))
       refine WC.draws0 [(0,true),(1,true),(2,true),(3,true),(7,true),(8,true),(12,true),(13,true),(14,true),(15,true),(4,false),(5,true),(6,true),(9,false),(10,true),(11,true),(16,false),(17,true),(18,true),(19,true)] mixed (by kernel_rfl) (fun _ _ _ d _ h=>by cases d<;>exact h) ?_
       refine Dq rfl (.inl rfl) rfl (fun _ h=>h) (Yf fo81_4 rfl) ?_
       refine Dq rfl (.inl rfl) rfl (fun _ h=>h) (Yd 0 rfl rfl rfl na41) ?_
       refine Dq rfl (.inl rfl) rfl (fun _ h=>h) (Yo (i:=0) es41 rfl rfl hay (by omega)) ?_
       refine Dq rfl (.inl rfl) rfl (fun _ h=>h) (yl_lda 0 ag81 rfl rfl rfl (hrowy)) ?_
       refine Dq rfl (.inl rfl) rfl (fun _ h=>h) (Yf fo81_0 rfl) ?_
       refine Dq rfl (.inl rfl) rfl (fun _ h=>h) (Yd 0 rfl rfl rfl na3) ?_
       refine Dq rfl (.inl rfl) rfl (fun _ h=>h) (Yf fo81_4 rfl) ?_
       refine Dq rfl (.inl rfl) rfl (fun _ h=>h) (Yd 0 rfl rfl rfl na41) ?_
       refine Dq rfl (.inl rfl) rfl (fun _ h=>h) (Yo (i:=1) es41 rfl rfl haz (by omega)) ?_
       refine Dq rfl (.inl rfl) rfl (fun _ h=>h) (yl_lda 0 ag81 rfl rfl rfl (hrowz)) ?_
       refine De rfl (fun _ h=>h) ?_
       refine Lp (.inl rfl) rfl en75 rfl (fun w hw=>hE k2 (by omega) y ya yn (d+1) w (hw.vs _ (by simp)) hsuby hcy (by omega)) ?_
       refine Ln (Ed ?_)
       refine Dq rfl (.inl rfl) rfl (fun _ h=>h) (yl_cats (a:=[40,32]) rfl rfl (by (try simp only [List.length_append,List.length_cons,List.length_nil]); omega)) ?_
       refine Dq rfl (.inl rfl) rfl (fun _ h=>h) (yl_cats (b:=[32]) rfl rfl (by (try simp only [List.length_append,List.length_cons,List.length_nil]); omega)) ?_
       refine De rfl (fun _ h=>h) ?_
       refine Lp (.inl rfl) rfl en101 rfl (fun w hw=>opSign_any _ hop w) ?_
       refine Ln (Ed ?_)
       refine Dq rfl (.inl rfl) rfl (fun _ h=>h) (yl_cats rfl rfl (by (try simp only [List.length_append,List.length_cons,List.length_nil]); omega)) ?_
       refine Dq rfl (.inl rfl) rfl (fun _ h=>h) (yl_cats (b:=[32]) rfl rfl (by (try simp only [List.length_append,List.length_cons,List.length_nil]); omega)) ?_
       refine De rfl (fun _ h=>h) ?_
       refine Lp (.inl rfl) rfl en75 rfl (fun w hw=>hE k2 (by omega) z za zn (d+1) w (hw.vs _ (by simp)) hsubz hcz (by omega)) ?_
       refine Ln (Ed ?_)
       refine Dq rfl (.inl rfl) rfl (fun _ h=>h) (yl_cats rfl rfl (by (try simp only [List.length_append,List.length_cons,List.length_nil]); omega)) ?_
       refine Dq rfl (.inl rfl) rfl (fun _ h=>h) (yl_cats (b:=[32,41]) rfl rfl (by (try simp only [List.length_append,List.length_cons,List.length_nil]); omega)) ?_
       refine Dq rfl (.inl rfl) rfl (fun _ h=>h) (Ya rfl) ?_
       refine WD.nil (fun _ h=>h) ?_
       refine Et (Crt ?_)
       refine WE.ret1 rfl rfl fun w' hw=>?_
       exact ⟨by rw [HE],hw.fr⟩
theorem pubText_any (b:Bool) (w:World) :
   Calls Tryz.prog 26 #[.bool b] w fun e w'=>e = .returned (st (pubT b))∧Ext w w':=by
 refine enter Tryz.func26 rfl 4 rfl rfl ?_
 refine CWd (W':=Ws w [] [] []) (fun _ e=>by subst e; exact Ws.init (by simp)) ?_
 refine Cs (Cr ?_)
 refine V0 (Ya rfl) ?_
 refine Ln (Et (Cs (Cs (Cr ?_))))
 refine V0 (Ym rfl) ?_
 refine Ln (Et ?_)
 refine Cc rfl (fun hc0=>?_) (fun hc0=>?_)
 ·
  subst hc0
  refine Cs (Cr ?_)
  refine V0 (Ya rfl) ?_
  refine Ln (Et (Crt (Er ?_)))
  refine WE.ret1 rfl rfl fun w' hw=>?_
  exact ⟨rfl,hw.fr⟩
 ·
  subst hc0
  refine Ck (Et (Cs (Cr ?_)))
  refine V0 (Ya rfl) ?_
  refine Ln (Et (Crt ?_))
  refine WE.ret1 rfl rfl fun w' hw=>?_
  exact ⟨rfl,hw.fr⟩
theorem stmtText_any (H:View) (ke k:Nat) (hB:TxB H ke k) (x:TStmt) (a:Option Addr) (n:Nat) (a2:Option Addr) (n2:Nat) (a3:Option Addr) (n3 d:Nat) (w:World) (hH:Le H w) (hs1:Sl (RdE ke) 5 H a n x.args) (hs2:Sl (RdS ke k) 6 H a2 n2 x.body) (hs3:Sl (RdS ke k) 6 H a3 n3 x.other) (hcx:(cntS x d).tot=0) (hl:(stmtT x).length≤9223372036854775807) :
   Calls Tryz.prog 46 #[.agg #[.int .i64 x.op,st x.mod,st x.nm,.slice a x.args.length n,.slice a2 x.body.length n2,.slice a3 x.other.length n3]] w fun e w'=>e = .returned (st (stmtT x))∧Ext w w':=by
 have hcap:=hs1.cap
 have hmax:=hs1.max
 have ho:=okS' hcx
 have hkk:=ho.kind
 refine enter Tryz.func46 rfl 109 rfl rfl ?_
 refine CWd (W':=Ws w [] [] [H]) (fun _ e=>by subst e; exact Ws.init (by simp [hH])) ?_
 refine Cs (Cr ?_)
 refine WL.box (.inl rfl) rfl rfl fun b1=>?_
 refine V0 (Ya rfl) ?_
 refine Ln (Et (Cs (Cs (Cr ?_))))
 refine V0 (Yf fo43_0 rfl) ?_
 refine V0 (Yd 0 rfl rfl rfl na3) ?_
 refine Ln (Et (Cb (Cs (Cr ?_))))
 refine V0 (yl_eq rfl rfl) ?_
 refine V0 (Ya rfl) ?_
 refine Ln (Et ?_)
 refine Cc rfl (fun hc0=>?_) (fun hc0=>?_)
 ·
  have hk:x.op=1:=by simpa using hc0
  have hlen:=okS_one ho (by omega) (by omega)
  obtain ⟨y,hyi⟩:∃y,x.args[0]? = some y:=get0 hlen (by decide)
  obtain ⟨pby,poy,hay,hry⟩:=hs1.elt 0 y hyi
  obtain ⟨k2,rfl⟩:∃k2,ke=k2+1:=by
    cases ke with
    | zero=>exact hry.elim
    | succ k2=>exact ⟨k2,rfl⟩
  obtain ⟨ya,yn,hrowy,hsuby⟩:=hry
  have hcy:=cntEs_get ho.exprs hyi
  have HE:=TS1 hk hyi
  have hN:=congrArg List.length HE
  simp only [List.length_append,List.length_cons,List.length_nil] at hN
  refine Cs ?_
  refine WC.draws0 [(0,true),(1,true),(2,true),(3,true),(6,true),(7,true),(8,true),(9,true),(4,false),(5,true),(10,false),(11,true),(12,true),(13,true)] mixed (by kernel_rfl) (fun _ _ _ d _ h=>by cases d<;>exact h) ?_
  refine Dq rfl (.inl rfl) rfl (fun _ h=>h) (Yf fo43_1 rfl) ?_
  refine Dq rfl (.inl rfl) rfl (fun _ h=>h) (Yd 0 rfl rfl rfl na9) ?_
  refine Dq rfl (.inl rfl) rfl (fun _ h=>h) (Yf fo43_2 rfl) ?_
  refine Dq rfl (.inl rfl) rfl (fun _ h=>h) (Yd 0 rfl rfl rfl na9) ?_
  refine Dq rfl (.inl rfl) rfl (fun _ h=>h) (Yf fo43_3 rfl) ?_
  refine Dq rfl (.inl rfl) rfl (fun _ h=>h) (Yd 0 rfl rfl rfl na41) ?_
  refine Dq rfl (.inl rfl) rfl (fun _ h=>h) (Yo (i:=0) es41 rfl rfl hay (by omega)) ?_
  refine Dq rfl (.inl rfl) rfl (fun _ h=>h) (yl_lda 0 ag81 rfl rfl rfl (hrowy)) ?_
  refine De rfl (fun _ h=>h) ?_
  refine Lp (.inl rfl) rfl en74 rfl (fun w hw=>refText_any _ _ w (by omega)) ?_
  refine Ln (Ed ?_)
  refine Dq rfl (.inl rfl) rfl (fun _ h=>h) (yl_cats (b:=[32,61,32]) rfl rfl (by (try simp only [List.length_append,List.length_cons,List.length_nil]); omega)) ?_
  refine De rfl (fun _ h=>h) ?_
  refine Lp (.inl rfl) rfl en75 rfl (fun w hw=>exprText_any H k2 y ya yn 1 w (hw.vs _ (by simp)) hsuby hcy (by omega)) ?_
  refine Ln (Ed ?_)
  refine Dq rfl (.inl rfl) rfl (fun _ h=>h) (yl_cats rfl rfl (by (try simp only [List.length_append,List.length_cons,List.length_nil]); omega)) ?_
  refine Dq rfl (.inl rfl) rfl (fun _ h=>h) (yl_cats (b:=[32,59]) rfl rfl (by (try simp only [List.length_append,List.length_cons,List.length_nil]); omega)) ?_
  refine Dq rfl (.inl rfl) rfl (fun _ h=>h) (Ya rfl) ?_
  refine WD.nil (fun _ h=>h) ?_
  refine Et (Crt (Ebr (Er ?_)))
  refine WE.ret1 rfl rfl fun w' hw=>?_
  exact ⟨by rw [HE],hw.fr⟩
 ·
  have h1:¬x.op=1:=by simpa using hc0
  refine Cs (Cr ?_)
  refine V0 (yl_eq rfl rfl) ?_
  refine V0 (Ya rfl) ?_
  refine Ln (Et ?_)
  refine Cc rfl (fun hc1=>?_) (fun hc1=>?_)
  ·
   have hk:x.op=2:=by simpa using hc1
   have hlen:=okS_two ho (by omega)
   obtain ⟨y,hyi⟩:∃y,x.args[0]? = some y:=get0 hlen (by decide)
   obtain ⟨z,hzi⟩:∃y,x.args[1]? = some y:=get0 hlen (by decide)
   obtain ⟨pby,poy,hay,hry⟩:=hs1.elt 0 y hyi
   obtain ⟨pbz,poz,haz,hrz⟩:=hs1.elt 1 z hzi
   obtain ⟨k2,rfl⟩:∃k2,ke=k2+1:=by
     cases ke with
     | zero=>exact hry.elim
     | succ k2=>exact ⟨k2,rfl⟩
   obtain ⟨ya,yn,hrowy,hsuby⟩:=hry
   obtain ⟨za,zn,hrowz,hsubz⟩:=hrz
   have hcy:=cntEs_get ho.exprs hyi
   have hcz:=cntEs_get ho.exprs hzi
   have HE:=TS2 hk hyi hzi
   have hN:=congrArg List.length HE
   simp only [List.length_append,List.length_cons,List.length_nil] at hN
   refine Cs ?_
   refine WC.draws0 [(0,true),(1,true),(2,true),(3,true),(6,true),(7,true),(8,true),(9,true),(13,true),(14,true),(15,true),(16,true),(4,false),(5,true),(10,false),(11,true),(12,true),(17,false),(18,true),(19,true),(20,true)] mixed (by kernel_rfl) (fun _ _ _ d _ h=>by cases d<;>exact h) ?_
   refine Dq rfl (.inl rfl) rfl (fun _ h=>h) (Yf fo43_1 rfl) ?_
   refine Dq rfl (.inl rfl) rfl (fun _ h=>h) (Yd 0 rfl rfl rfl na9) ?_
   refine Dq rfl (.inl rfl) rfl (fun _ h=>h) (Yf fo43_2 rfl) ?_
   refine Dq rfl (.inl rfl) rfl (fun _ h=>h) (Yd 0 rfl rfl rfl na9) ?_
   refine Dq rfl (.inl rfl) rfl (fun _ h=>h) (Yf fo43_3 rfl) ?_
   refine Dq rfl (.inl rfl) rfl (fun _ h=>h) (Yd 0 rfl rfl rfl na41) ?_
   refine Dq rfl (.inl rfl) rfl (fun _ h=>h) (Yo (i:=0) es41 rfl rfl hay (by omega)) ?_
   refine Dq rfl (.inl rfl) rfl (fun _ h=>h) (yl_lda 0 ag81 rfl rfl rfl (hrowy)) ?_
   refine Dq rfl (.inl rfl) rfl (fun _ h=>h) (Yf fo43_3 rfl) ?_
   refine Dq rfl (.inl rfl) rfl (fun _ h=>h) (Yd 0 rfl rfl rfl na41) ?_
   refine Dq rfl (.inl rfl) rfl (fun _ h=>h) (Yo (i:=1) es41 rfl rfl haz (by omega)) ?_
   refine Dq rfl (.inl rfl) rfl (fun _ h=>h) (yl_lda 0 ag81 rfl rfl rfl (hrowz)) ?_
   refine De rfl (fun _ h=>h) ?_
   refine Lp (.inl rfl) rfl en74 rfl (fun w hw=>refText_any _ _ w (by omega)) ?_
   refine Ln (Ed ?_)
   refine Dq rfl (.inl rfl) rfl (fun _ h=>h) (yl_cats (b:=[32,91,32]) rfl rfl (by (try simp only [List.length_append,List.length_cons,List.length_nil]); omega)) ?_
   refine De rfl (fun _ h=>h) ?_
   refine Lp (.inl rfl) rfl en75 rfl (fun w hw=>exprText_any H k2 y ya yn 1 w (hw.vs _ (by simp)) hsuby hcy (by omega)) ?_
   refine Ln (Ed ?_)
   refine Dq rfl (.inl rfl) rfl (fun _ h=>h) (yl_cats rfl rfl (by (try simp only [List.length_append,List.length_cons,List.length_nil]); omega)) ?_
   refine Dq rfl (.inl rfl) rfl (fun _ h=>h) (yl_cats (b:=[32,93,32,61,32]) rfl rfl (by (try simp only [List.length_append,List.length_cons,List.length_nil]); omega)) ?_
   refine De rfl (fun _ h=>h) ?_
   refine Lp (.inl rfl) rfl en75 rfl (fun w hw=>exprText_any H k2 z za zn 1 w (hw.vs _ (by simp)) hsubz hcz (by omega)) ?_
   refine Ln (Ed ?_)
   refine Dq rfl (.inl rfl) rfl (fun _ h=>h) (yl_cats rfl rfl (by (try simp only [List.length_append,List.length_cons,List.length_nil]); omega)) ?_
   refine Dq rfl (.inl rfl) rfl (fun _ h=>h) (yl_cats (b:=[32,59]) rfl rfl (by (try simp only [List.length_append,List.length_cons,List.length_nil]); omega)) ?_
   refine Dq rfl (.inl rfl) rfl (fun _ h=>h) (Ya rfl) ?_
   refine WD.nil (fun _ h=>h) ?_
   refine Et (Crt (Ebr (Er ?_)))
   refine WE.ret1 rfl rfl fun w' hw=>?_
   exact ⟨by rw [HE],hw.fr⟩
  ·
   have h2:¬x.op=2:=by simpa using hc1
   refine Cs (Cr ?_)
   refine V0 (yl_eq rfl rfl) ?_
   refine V0 (Ya rfl) ?_
   refine Ln (Et ?_)
   refine Cc rfl (fun hc2=>?_) (fun hc2=>?_)
   ·
    have hk:x.op=3:=by simpa using hc2
    have HE:=TS3 hk
    have hN:=congrArg List.length HE
    simp only [List.length_append,List.length_cons,List.length_nil] at hN
    refine Cs ?_
    refine WC.draws0 [(0,true),(1,true),(2,true),(3,true),(6,true),(7,true),(4,false),(5,true),(8,false),(9,true),(10,true),(11,true)] mixed (by kernel_rfl) (fun _ _ _ d _ h=>by cases d<;>exact h) ?_
    refine Dq rfl (.inl rfl) rfl (fun _ h=>h) (Yf fo43_1 rfl) ?_
    refine Dq rfl (.inl rfl) rfl (fun _ h=>h) (Yd 0 rfl rfl rfl na9) ?_
    refine Dq rfl (.inl rfl) rfl (fun _ h=>h) (Yf fo43_2 rfl) ?_
    refine Dq rfl (.inl rfl) rfl (fun _ h=>h) (Yd 0 rfl rfl rfl na9) ?_
    refine Dq rfl (.inl rfl) rfl (fun _ h=>h) (Yf fo43_3 rfl) ?_
    refine Dq rfl (.inl rfl) rfl (fun _ h=>h) (Yd 0 rfl rfl rfl na41) ?_
    refine De rfl (fun _ h=>h) ?_
    refine Lp (.inl rfl) rfl en74 rfl (fun w hw=>refText_any _ _ w (by omega)) ?_
    refine Ln (Ed ?_)
    refine Dq rfl (.inl rfl) rfl (fun _ h=>h) (yl_cats (b:=[32,40]) rfl rfl (by (try simp only [List.length_append,List.length_cons,List.length_nil]); omega)) ?_
    refine De rfl (fun _ h=>h) ?_
    refine Lp (.inl rfl) rfl en76 rfl (fun w hw=>argsText_any H ke (fun k2 _ x a n d w h0 h1 h2 h3=>exprText_any H k2 x a n d w h0 h1 h2 h3) x.args a n 1 w (hw.vs _ (by simp)) hs1 ho.exprs (by omega)) ?_
    refine Ln (Ed ?_)
    refine Dq rfl (.inl rfl) rfl (fun _ h=>h) (yl_cats rfl rfl (by (try simp only [List.length_append,List.length_cons,List.length_nil]); omega)) ?_
    refine Dq rfl (.inl rfl) rfl (fun _ h=>h) (yl_cats (b:=[32,41,32,59]) rfl rfl (by (try simp only [List.length_append,List.length_cons,List.length_nil]); omega)) ?_
    refine Dq rfl (.inl rfl) rfl (fun _ h=>h) (Ya rfl) ?_
    refine WD.nil (fun _ h=>h) ?_
    refine Et (Crt (Ebr (Er ?_)))
    refine WE.ret1 rfl rfl fun w' hw=>?_
    exact ⟨by rw [HE],hw.fr⟩
   ·
    have h3:¬x.op=3:=by simpa using hc2
    refine Cs (Cr ?_)
    refine V0 (yl_eq rfl rfl) ?_
    refine V0 (Ya rfl) ?_
    refine Ln (Et ?_)
    refine Cc rfl (fun hc3=>?_) (fun hc3=>?_)
    ·
     have hk4:x.op=4:=by simpa using hc3
     have hlen:=okS_one ho (by omega) (by omega)
     obtain ⟨y,hyi⟩:∃y,x.args[0]? = some y:=get0 hlen (by decide)
     obtain ⟨pby,poy,hay,hry⟩:=hs1.elt 0 y hyi
     obtain ⟨k2,rfl⟩:∃k2,ke=k2+1:=by
       cases ke with
       | zero=>exact hry.elim
       | succ k2=>exact ⟨k2,rfl⟩
     obtain ⟨ya,yn,hrowy,hsuby⟩:=hry
     have hcy:=cntEs_get ho.exprs hyi
     have hcb:(cntB x.body (d+1)).tot=0:=ho.body (by simp [inner,hk4])
     have hN0:(stmtT x).length=(if 0<x.other.length then 6+(blockT x.other).length else 0)+(4+(exprT y).length+(blockT x.body).length):=by
       by_cases ho2:0<x.other.length
       · rw [TS4 hk4 hyi ho2,if_pos ho2]; simp only [List.length_append,List.length_cons,List.length_nil]; omega
       · rw [TS40 hk4 hyi ho2,if_neg ho2]; simp only [List.length_append,List.length_cons,List.length_nil]; omega
     refine Cs ?_
     refine WC.draws0 [(0,true),(1,true),(2,true),(3,true),(7,true),(8,true),(4,false),(5,true),(6,true),(9,false),(10,true),(11,true)] mixed (by kernel_rfl) (fun _ _ _ d _ h=>by cases d<;>exact h) ?_
     refine Dq rfl (.inl rfl) rfl (fun _ h=>h) (Yf fo43_3 rfl) ?_
     refine Dq rfl (.inl rfl) rfl (fun _ h=>h) (Yd 0 rfl rfl rfl na41) ?_
     refine Dq rfl (.inl rfl) rfl (fun _ h=>h) (Yo (i:=0) es41 rfl rfl hay (by omega)) ?_
     refine Dq rfl (.inl rfl) rfl (fun _ h=>h) (yl_lda 0 ag81 rfl rfl rfl (hrowy)) ?_
     refine Dq rfl (.inl rfl) rfl (fun _ h=>h) (Yf fo43_4 rfl) ?_
     refine Dq rfl (.inl rfl) rfl (fun _ h=>h) (Yd 0 rfl rfl rfl na25) ?_
     refine De rfl (fun _ h=>h) ?_
     refine Lp (.inl rfl) rfl en75 rfl (fun w hw=>exprText_any H k2 y ya yn 1 w (hw.vs _ (by simp)) hsuby hcy (by omega)) ?_
     refine Ln (Ed ?_)
     refine Dq rfl (.inl rfl) rfl (fun _ h=>h) (yl_cats (a:=[105,102,32]) rfl rfl (by (try simp only [List.length_append,List.length_cons,List.length_nil]); omega)) ?_
     refine Dq rfl (.inl rfl) rfl (fun _ h=>h) (yl_cats (b:=[32]) rfl rfl (by (try simp only [List.length_append,List.length_cons,List.length_nil]); omega)) ?_
     refine De rfl (fun _ h=>h) ?_
     refine Lp (.inl rfl) rfl en28 rfl (fun w hw=>hB x.body a2 n2 (d+1) w (hw.vs _ (by simp)) hs2 hcb (by omega)) ?_
     refine Ln (Ed ?_)
     refine Dq rfl (.inl rfl) rfl (fun _ h=>h) (yl_cats rfl rfl (by (try simp only [List.length_append,List.length_cons,List.length_nil]); omega)) ?_
     refine Dq rfl (.inl rfl) rfl (fun _ h=>h) (Ya rfl) ?_
     refine WD.nil (fun _ h=>h) ?_
     refine Et (Cs (Cs (Cr ?_)))
     refine V0 (Yf fo43_5 rfl) ?_
     refine V0 (Yd 0 rfl rfl rfl na25) ?_
     refine V0 (Yn es25 rfl) ?_
     refine V0 (yl_gt rfl rfl) ?_
     rw [int_lt0]
     refine Ln (Et ?_)
     refine Cc rfl (fun hc4=>?_) (fun hc4=>?_)
     ·
      have hol:0<x.other.length:=by simpa using hc4
      have HE:=TS4 hk4 hyi hol
      rw [if_pos hol] at hN0
      have hco:(cntB x.other (d+1)).tot=0:=ho.other hol
      refine Cr ?_
      refine V0 (Ym rfl) ?_
      refine V0 (yl_cats (b:=[32,101,108,115,101,32]) rfl rfl (by (try simp only [List.length_append,List.length_cons,List.length_nil]); omega)) ?_
      refine V0 (Yf fo43_5 rfl) ?_
      refine V0 (Yd 0 rfl rfl rfl na25) ?_
      refine Lp (.inl rfl) rfl en28 rfl (fun w hw=>hB x.other a3 n3 (d+1) w (hw.vs _ (by simp)) hs3 hco (by omega)) ?_
      refine V0 (yl_cats rfl rfl (by (try simp only [List.length_append,List.length_cons,List.length_nil]); omega)) ?_
      refine V0 (Ya rfl) ?_
      refine Ln (Et (Cs (Cr ?_)))
      refine V0 (Ym rfl) ?_
      refine V0 (Ya rfl) ?_
      refine Ln (Et (Crt (Ebr (Er ?_))))
      refine WE.ret1 rfl rfl fun w' hw=>?_
      exact ⟨by rw [HE],hw.fr⟩
     ·
      have hol:¬0<x.other.length:=by simpa using hc4
      have HE:=TS40 hk4 hyi hol
      refine Ck (Et (Cs (Cr ?_)))
      refine V0 (Ym rfl) ?_
      refine V0 (Ya rfl) ?_
      refine Ln (Et (Crt (Ebr (Er ?_))))
      refine WE.ret1 rfl rfl fun w' hw=>?_
      exact ⟨by rw [HE],hw.fr⟩
    ·
     have h4:¬x.op=4:=by simpa using hc3
     refine Cs (Cr ?_)
     refine V0 (yl_eq rfl rfl) ?_
     refine V0 (Ya rfl) ?_
     refine Ln (Et ?_)
     refine Cc rfl (fun hc5=>?_) (fun hc5=>?_)
     ·
      have hk5:x.op=5:=by simpa using hc5
      have hlen:=okS_one ho (by omega) (by omega)
      obtain ⟨y,hyi⟩:∃y,x.args[0]? = some y:=get0 hlen (by decide)
      obtain ⟨pby,poy,hay,hry⟩:=hs1.elt 0 y hyi
      obtain ⟨k2,rfl⟩:∃k2,ke=k2+1:=by
        cases ke with
        | zero=>exact hry.elim
        | succ k2=>exact ⟨k2,rfl⟩
      obtain ⟨ya,yn,hrowy,hsuby⟩:=hry
      have hcy:=cntEs_get ho.exprs hyi
      have hcb:(cntB x.body (d+1)).tot=0:=ho.body (by simp [inner,hk5])
      have HE:=TS5 hk5 hyi
      have hN:=congrArg List.length HE
      simp only [List.length_append,List.length_cons,List.length_nil] at hN
      refine Cs ?_
      refine WC.draws0 [(0,true),(1,true),(2,true),(3,true),(7,true),(8,true),(4,false),(5,true),(6,true),(9,false),(10,true),(11,true)] mixed (by kernel_rfl) (fun _ _ _ d _ h=>by cases d<;>exact h) ?_
      refine Dq rfl (.inl rfl) rfl (fun _ h=>h) (Yf fo43_3 rfl) ?_
      refine Dq rfl (.inl rfl) rfl (fun _ h=>h) (Yd 0 rfl rfl rfl na41) ?_
      refine Dq rfl (.inl rfl) rfl (fun _ h=>h) (Yo (i:=0) es41 rfl rfl hay (by omega)) ?_
      refine Dq rfl (.inl rfl) rfl (fun _ h=>h) (yl_lda 0 ag81 rfl rfl rfl (hrowy)) ?_
      refine Dq rfl (.inl rfl) rfl (fun _ h=>h) (Yf fo43_4 rfl) ?_
      refine Dq rfl (.inl rfl) rfl (fun _ h=>h) (Yd 0 rfl rfl rfl na25) ?_
      refine De rfl (fun _ h=>h) ?_
      refine Lp (.inl rfl) rfl en75 rfl (fun w hw=>exprText_any H k2 y ya yn 1 w (hw.vs _ (by simp)) hsuby hcy (by omega)) ?_
      refine Ln (Ed ?_)
      refine Dq rfl (.inl rfl) rfl (fun _ h=>h) (yl_cats (a:=[119,104,105,108,101,32]) rfl rfl (by (try simp only [List.length_append,List.length_cons,List.length_nil]); omega)) ?_
      refine Dq rfl (.inl rfl) rfl (fun _ h=>h) (yl_cats (b:=[32]) rfl rfl (by (try simp only [List.length_append,List.length_cons,List.length_nil]); omega)) ?_
      refine De rfl (fun _ h=>h) ?_
      refine Lp (.inl rfl) rfl en28 rfl (fun w hw=>hB x.body a2 n2 (d+1) w (hw.vs _ (by simp)) hs2 hcb (by omega)) ?_
      refine Ln (Ed ?_)
      refine Dq rfl (.inl rfl) rfl (fun _ h=>h) (yl_cats rfl rfl (by (try simp only [List.length_append,List.length_cons,List.length_nil]); omega)) ?_
      refine Dq rfl (.inl rfl) rfl (fun _ h=>h) (Ya rfl) ?_
      refine WD.nil (fun _ h=>h) ?_
      refine Et (Crt (Ebr (Er ?_)))
      refine WE.ret1 rfl rfl fun w' hw=>?_
      exact ⟨by rw [HE],hw.fr⟩
     ·
      have h5:¬x.op=5:=by simpa using hc5
      refine Cs (Cr ?_)
      refine V0 (yl_eq rfl rfl) ?_
      refine V0 (Ya rfl) ?_
      refine Ln (Et ?_)
      refine Cc rfl (fun hc6=>?_) (fun hc6=>?_)
      ·
       have hk:x.op=6:=by simpa using hc6
       have hlen:=okS_one ho (by omega) (by omega)
       obtain ⟨y,hyi⟩:∃y,x.args[0]? = some y:=get0 hlen (by decide)
       obtain ⟨pby,poy,hay,hry⟩:=hs1.elt 0 y hyi
       obtain ⟨k2,rfl⟩:∃k2,ke=k2+1:=by
         cases ke with
         | zero=>exact hry.elim
         | succ k2=>exact ⟨k2,rfl⟩
       obtain ⟨ya,yn,hrowy,hsuby⟩:=hry
       have hcy:=cntEs_get ho.exprs hyi
       have HE:=TS6 hk hyi
       have hN:=congrArg List.length HE
       simp only [List.length_append,List.length_cons,List.length_nil] at hN
       refine Cs (Cr ?_)
       refine V0 (Yf fo43_3 rfl) ?_
       refine V0 (Yd 0 rfl rfl rfl na41) ?_
       refine V0 (Yo (i:=0) es41 rfl rfl hay (by omega)) ?_
       refine V0 (yl_lda 0 ag81 rfl rfl rfl (hrowy)) ?_
       refine Lp (.inl rfl) rfl en75 rfl (fun w hw=>exprText_any H k2 y ya yn 1 w (hw.vs _ (by simp)) hsuby hcy (by omega)) ?_
       refine V0 (yl_cats (a:=[114,101,116,117,114,110,32]) rfl rfl (by (try simp only [List.length_append,List.length_cons,List.length_nil]); omega)) ?_
       refine V0 (yl_cats (b:=[32,59]) rfl rfl (by (try simp only [List.length_append,List.length_cons,List.length_nil]); omega)) ?_
       refine V0 (Ya rfl) ?_
       refine Ln (Et (Crt (Ebr (Er ?_))))
       refine WE.ret1 rfl rfl fun w' hw=>?_
       exact ⟨by rw [HE],hw.fr⟩
      ·
       have h6:¬x.op=6:=by simpa using hc6
       have hk:x.op=7:=by omega
       have hlen:=okS_one ho (by omega) (by omega)
       obtain ⟨y,hyi⟩:∃y,x.args[0]? = some y:=get0 hlen (by decide)
       obtain ⟨pby,poy,hay,hry⟩:=hs1.elt 0 y hyi
       obtain ⟨k2,rfl⟩:∃k2,ke=k2+1:=by
         cases ke with
         | zero=>exact hry.elim
         | succ k2=>exact ⟨k2,rfl⟩
       obtain ⟨ya,yn,hrowy,hsuby⟩:=hry
       have hcy:=cntEs_get ho.exprs hyi
       have HE:=TS7 hk hyi
       have hN:=congrArg List.length HE
       simp only [List.length_append,List.length_cons,List.length_nil] at hN
       refine Ck (Eb (Et (Cs (Cr ?_))))
       refine V0 (Yf fo43_3 rfl) ?_
       refine V0 (Yd 0 rfl rfl rfl na41) ?_
       refine V0 (Yo (i:=0) es41 rfl rfl hay (by omega)) ?_
       refine V0 (yl_lda 0 ag81 rfl rfl rfl (hrowy)) ?_
       refine Lp (.inl rfl) rfl en75 rfl (fun w hw=>exprText_any H k2 y ya yn 1 w (hw.vs _ (by simp)) hsuby hcy (by omega)) ?_
       refine V0 (yl_cats (a:=[111,117,116,32]) rfl rfl (by (try simp only [List.length_append,List.length_cons,List.length_nil]); omega)) ?_
       refine V0 (yl_cats (b:=[32,59]) rfl rfl (by (try simp only [List.length_append,List.length_cons,List.length_nil]); omega)) ?_
       refine V0 (Ya rfl) ?_
       refine Ln (Et (Crt ?_))
       refine WE.ret1 rfl rfl fun w' hw=>?_
       exact ⟨by rw [HE],hw.fr⟩
theorem blockText_any (H:View) (ke k:Nat) (l:List TStmt) (a:Option Addr) (n d:Nat) (w:World) (hH:Le H w) (hm:Sl (RdS ke k) 6 H a n l) (hcx:(cntB l d).tot=0) (hl:(blockT l).length≤9223372036854775807) :
   Calls Tryz.prog 28 #[.slice a l.length n] w fun e w'=>e = .returned (st (blockT l))∧Ext w w':=by
 induction k using Nat.strongRecOn generalizing l a n d w
 rename_i k ih
 have hcap:=hm.cap
 have hmax:=hm.max
 have hc3:(cntSs l d).tot=0:=(blkC0 hcx).2.2
 have hN:=blockT_len l
 refine enter Tryz.func28 rfl 21 rfl rfl ?_
 refine CWd (W':=Ws w [] [] [H]) (fun _ e=>by subst e; exact Ws.init (by simp [hH])) ?_
 refine Cs (Cr ?_)
 refine V0 (Ya rfl) ?_
 refine Ln (Et (Cs (Cr ?_)))
 refine V0 (Ya rfl) ?_
 refine Ln (Et (Cs (Cs (Cr ?_))))
 refine V0 (Ya rfl) ?_
 refine Ln (Et (Cb ?_))
 refine CW (ι:=Nat) (fun i=>[(4,.int .i64 (i:Int)),(3,st ([123,32]++stmtTs (l.take i)))]) [(0,_),(2,_)] (fun i=>i≤l.length) (fun i=>l.length-i) 0 (Nat.zero_le _) (sc rfl (sc rfl (sc rfl (sc rfl sn)))) ?_
 intro i hi
 refine Cs (Cs (Cr ?_))
 refine V0 (Ym rfl) ?_
 refine V0 (Ym rfl) ?_
 refine V0 (Yn es25 rfl) ?_
 refine V0 (yl_lt rfl rfl) ?_
 refine Ln (Et ?_)
 refine Cc rfl (fun hc0=>?_) (fun hc0=>?_)
 ·
  have hlt:i<l.length:=by simpa using hc0
  obtain ⟨y,hyi⟩:∃q,l[i]? = some q:=⟨_,List.getElem?_eq_getElem hlt⟩
  obtain ⟨pby,poy,hay,hry⟩:=hm.elt i y hyi
  obtain ⟨k2,rfl⟩:∃k2,k=k2+1:=by
    cases k with
    | zero=>exact hry.elim
    | succ k2=>exact ⟨k2,rfl⟩
  obtain ⟨ya,yn,y2,m2,y3,m3,hrow,hs1,hs2,hs3⟩:=hry
  have hcy:=cntSs_get hc3 hyi
  have hpt:=stmtT_part hyi
  have HC:[123,32]++stmtTs (l.take i)++stmtT y++[32]=[123,32]++stmtTs (l.take (i+1)):=by rw [stmtTs_take hyi]; simp
  refine Ck (Et (Cs (Cb (Cr ?_))))
  refine V0 (Ym rfl) ?_
  refine V0 (Ym rfl) ?_
  refine V0 (Ym rfl) ?_
  refine V0 (Yo es25 rfl rfl hay (by omega)) ?_
  refine V0 (yl_lda 0 ag43 rfl rfl rfl (hrow)) ?_
  refine Lp (.inl rfl) rfl en46 rfl (fun w hw=>stmtText_any H ke k2 (fun l a n d w h0 h1 h2 h3=>ih k2 (by omega) l a n d w h0 h1 h2 h3) y ya yn y2 m2 y3 m3 d w (hw.vs _ (by simp)) hs1 hs2 hs3 hcy (by omega)) ?_
  refine V0 (yl_cats rfl rfl (by (try simp only [List.length_append,List.length_cons,List.length_nil]); omega)) ?_
  refine V0 (yl_cats (b:=[32]) rfl rfl (by (try simp only [List.length_append,List.length_cons,List.length_nil]); omega)) ?_
  refine V0 (Ya rfl) ?_
  refine Ln (Eb (Et (Cr ?_)))
  refine V0 (Ym rfl) ?_
  refine V0 (Yi rfl rfl rfl (by omega)) ?_
  refine V0 (Ya rfl) ?_
  refine Ln ?_
  rw [HC]
  exact Ea (i+1) (by omega) (by omega) (sc rfl (sc rfl (sc rfl (sc rfl sn)))) (fun _ h=>h)
 ·
  have hge:¬i<l.length:=by simpa using hc0
  have hT:[123,32]++stmtTs (l.take i)++[125]=blockT l:=by rw [List.take_of_length_le (by omega)]; rfl
  have hle:=stmtTs_le l i
  refine Ce (Ex (Ex (Ebh (Et (Cs ?_)))))
  refine Cr ?_
  refine V0 (Ym rfl) ?_
  refine V0 (yl_cats (b:=[125]) rfl rfl (by (try simp only [List.length_append,List.length_cons,List.length_nil]); omega)) ?_
  refine V0 (Ya rfl) ?_
  refine Ln (Et (Crt ?_))
  refine WE.ret1 rfl rfl fun w' hw=>?_
  exact ⟨by rw [hT],hw.fr⟩
end Go.Proofs.YtjfldjidhkfnbaaGreatDoor
end
section
namespace Go.Proofs.YtjfldjidhkfnbaaGreatDoor
open Go.Bw
set_option linter.unusedVariables false
set_option linter.unusedSimpArgs false
theorem TD1 {d:TDecl} (h:d.kind=1) (h0:0≤d.n):declT d=pubT d.pub++([99,111,110,115,116,32]++d.nm++[32,61,32]++Lib.decDigits d.n.toNat++[32,59,32]):=by rw [declT,declTO,if_pos h,itoa_pos h0]; simp [w_const]
theorem TD2 {d:TDecl} (h:d.kind=2):declT d=pubT d.pub++([118,97,114,32]++d.nm++[32,59,32]):=by rw [declT,declTO,if_neg (by omega),if_pos h]; simp [w_var]
theorem TD3 {d:TDecl} (h1:¬d.kind=1) (h2:¬d.kind=2) (h0:0≤d.n):declT d=pubT d.pub++([97,114,114,97,121,32]++d.nm++[32,91,32]++Lib.decDigits d.n.toNat++[32,93,32,59,32]):=by rw [declT,declTO,if_neg h1,if_neg h2,itoa_pos h0]; simp [w_array]
theorem procT_eq (p:TProc):procT p=pubT p.pub++[112,114,111,99,32]++p.nm++[32,40]++argsT p.params++[32,41,32]++p.locs.flatMap locT++blockT p.body++[32]:=by unfold procT; simp [w_proc]
theorem modT_eq (m:TMod):modT m=[109,111,100,117,108,101,32]++m.nm++[32,123,32]++m.uses.flatMap useT++m.decls.flatMap declT++m.procs.flatMap procT++[109,97,105,110,32]++blockT m.main++[32,125]:=by unfold modT; simp [w_module,w_main]
theorem useT_len (u:Tx):(useT u).length=u.length+7:=by unfold useT w_use; simp only [List.length_append,List.length_cons,List.length_nil]; omega
theorem locT_len (u:Tx):(locT u).length=u.length+9:=by unfold locT w_local; simp only [List.length_append,List.length_cons,List.length_nil]; omega
theorem flatAll {α:Type} {f:α→Tx} {l:List α} {i:Nat} (h:¬i<l.length):(l.take i).flatMap f=l.flatMap f:=by rw [List.take_of_length_le (by omega)]
theorem en26:Enters Tryz.prog 26:=enters_of Tryz.func26 (by kernel_rfl) rfl
theorem moduleText_any (H:View) (ke ks:Nat) (r:MAt) (m:TMod) (w:World) (hH:Le H w) (hm:RdM ke ks H r m) (ht:(modC m).tot=0) (hl:(modT m).length≤9223372036854775807) :
   Calls Tryz.prog 10 #[.agg (modV m r).toArray] w fun e w'=>e = .returned (st (modT m))∧Ext w w':=by
 have hom:=okM ht
 have hN:=congrArg List.length (modT_eq m)
 simp only [List.length_append,List.length_cons,List.length_nil] at hN
 have cu:=hm.uses.cap
 have xu:=hm.uses.max
 have cd:=hm.decls.cap
 have xd:=hm.decls.max
 have cp:=hm.procs.cap
 have xp:=hm.procs.max
 refine enter Tryz.func10 rfl 154 rfl rfl ?_
 refine CWd (W':=Ws w [] [] [H]) (fun _ e=>by subst e; exact Ws.init (by simp [hH])) ?_
 refine Cs (Cr ?_)
 refine WL.box (.inl rfl) rfl rfl fun b1=>?_
 refine V0 (Ya rfl) ?_
 refine Ln (Et (Cs (Cr ?_)))
 refine V0 (Yf fo27_0 rfl) ?_
 refine V0 (Yd 0 rfl rfl rfl na9) ?_
 refine V0 (yl_cats (a:=[109,111,100,117,108,101,32]) rfl rfl (by (try simp only [List.length_append,List.length_cons,List.length_nil]); omega)) ?_
 refine V0 (yl_cats (b:=[32,123,32]) rfl rfl (by (try simp only [List.length_append,List.length_cons,List.length_nil]); omega)) ?_
 refine V0 (Ya rfl) ?_
 refine Ln (Et (Cs (Cs (Cr ?_))))
 refine V0 (Ya rfl) ?_
 refine Ln (Et (Cb ?_))
 refine CW (ι:=Nat×Tx) (fun g=>[(4,.int .i64 (g.1:Int)),(3,st g.2)]) [(1,_),(2,_)] (fun g=>g.1≤m.uses.length∧g.2=[109,111,100,117,108,101,32]++m.nm++[32,123,32]++(m.uses.take g.1).flatMap useT) (fun g=>m.uses.length-g.1) (0,[109,111,100,117,108,101,32]++m.nm++[32,123,32]) ⟨Nat.zero_le _,by simp [argsT]⟩ (sc rfl (sc rfl (sc rfl (sc rfl sn)))) ?_
 intro g ⟨hig,hTg⟩
 have hLg:=congrArg List.length hTg
 simp only [List.length_append,List.length_cons,List.length_nil] at hLg
 refine Cs (Cs (Cr ?_))
 refine V0 (Ym rfl) ?_
 refine V0 (Yf fo27_1 rfl) ?_
 refine V0 (Yd 0 rfl rfl rfl na22) ?_
 refine V0 (Yn es22 rfl) ?_
 refine V0 (yl_lt rfl rfl) ?_
 refine Ln (Et ?_)
 refine Cc rfl (fun hc0=>?_) (fun hc0=>?_)
 ·
  have hlt:g.1<m.uses.length:=by simpa using hc0
  obtain ⟨u,hui⟩:∃x,m.uses[g.1]? = some x:=⟨_,List.getElem?_eq_getElem hlt⟩
  obtain ⟨pbu,pou,ha,hrow⟩:=hm.uses.elt g.1 u hui
  have hrow:RdC H pbu (pou+g.1*1) (strC u):=hrow
  have hpt:=flat_part (f:=useT) hui
  rw [useT_len] at hpt
  refine Ck (Et (Cs (Cb (Cr ?_))))
  refine V0 (Ym rfl) ?_
  refine V0 (yl_cats (b:=[117,115,101,32]) rfl rfl (by (try simp only [List.length_append,List.length_cons,List.length_nil]); omega)) ?_
  refine V0 (Yf fo27_1 rfl) ?_
  refine V0 (Yd 0 rfl rfl rfl na22) ?_
  refine V0 (Ym rfl) ?_
  refine V0 (Yo es22 rfl rfl ha (by omega)) ?_
  refine V0 (yl_ld 0 na9 rfl rfl (hrow 0 _ rfl)) ?_
  refine V0 (yl_cats rfl rfl (by (try simp only [List.length_append,List.length_cons,List.length_nil]); omega)) ?_
  refine V0 (yl_cats (b:=[32,59,32]) rfl rfl (by (try simp only [List.length_append,List.length_cons,List.length_nil]); omega)) ?_
  refine V0 (Ya rfl) ?_
  refine Ln (Eb (Et (Cr ?_)))
  refine V0 (Ym rfl) ?_
  refine V0 (Yi rfl rfl rfl (by omega)) ?_
  refine V0 (Ya rfl) ?_
  refine Ln ?_
  exact Ea ((g.1+1,g.2++[117,115,101,32]++u++[32,59,32]):Nat×Tx) (by show m.uses.length-(g.1+1)<m.uses.length-g.1; omega) ⟨by show g.1+1≤m.uses.length; omega,by show _=_++(m.uses.take (g.1+1)).flatMap useT; rw [flat_snoc hui,hTg]; simp [useT,w_use]⟩ (sc rfl (sc rfl (sc rfl (sc rfl sn)))) (fun _ h=>h)
 ·
  have hge:¬g.1<m.uses.length:=by simpa using hc0
  rw [flatAll hge] at hTg hLg
  refine Ce (Ex (Ex (Ebh (Et (Cs ?_)))))
  refine Cs (Cr ?_)
  refine V0 (Ya rfl) ?_
  refine Ln (Et (Cb ?_))
  refine CW (ι:=Nat×Tx) (fun g1=>[(5,.int .i64 (g1.1:Int)),(3,st g1.2)]) [(1,_),(2,_)] (fun g1=>g1.1≤m.decls.length∧g1.2=([109,111,100,117,108,101,32]++m.nm++[32,123,32]++m.uses.flatMap useT)++(m.decls.take g1.1).flatMap declT) (fun g1=>m.decls.length-g1.1) (0,g.2) ⟨Nat.zero_le _,by simp [argsT,hTg]⟩ (sc rfl (sc rfl (sc rfl (sc rfl sn)))) ?_
  intro g1 ⟨hig1,hTg1⟩
  have hLg1:=congrArg List.length hTg1
  simp only [List.length_append,List.length_cons,List.length_nil] at hLg1
  refine Cs (Cs (Cr ?_))
  refine V0 (Ym rfl) ?_
  refine V0 (Yf fo27_2 rfl) ?_
  refine V0 (Yd 0 rfl rfl rfl na23) ?_
  refine V0 (Yn es23 rfl) ?_
  refine V0 (yl_lt rfl rfl) ?_
  refine Ln (Et ?_)
  refine Cc rfl (fun hc1=>?_) (fun hc1=>?_)
  ·
   have hlt:g1.1<m.decls.length:=by simpa using hc1
   obtain ⟨d,hdi⟩:∃q,m.decls[g1.1]? = some q:=⟨_,List.getElem?_eq_getElem hlt⟩
   obtain ⟨pbd,pod,had,hrd⟩:=hm.decls.elt g1.1 d hdi
   have hrd:RdC H pbd (pod+g1.1*4) d.cells:=hrd
   have hd:=okD (hom.decls d (List.mem_of_getElem? hdi))
   have hpt:=flat_part (f:=declT) hdi
   have hdl:(pubT d.pub).length≤(declT d).length:=by unfold declT; rw [List.length_append]; omega
   refine Ck (Et (Cs (Cb (Cs (Cr ?_)))))
   refine V0 (Yf fo27_2 rfl) ?_
   refine V0 (Yd 0 rfl rfl rfl na23) ?_
   refine V0 (Ym rfl) ?_
   refine V0 (Yo es23 rfl rfl had (by omega)) ?_
   refine V0 (yl_lda 0 ag53 rfl rfl rfl (hrd)) ?_
   refine WL.alloc (.inl rfl) rfl zr53 fun b6=>?_
   refine Lst 0 (.inl rfl) rfl rfl rfl sz53 rfl rfl rfl ?_
   refine Ln (Et (Cs (Cr ?_)))
   refine V0 (Ym rfl) ?_
   refine V0 (Yf fo53_2 rfl) ?_
   refine V0 (Yd 0 rfl rfl rfl na4) ?_
   refine Lp (.inl rfl) rfl en26 rfl (fun w hw=>pubText_any _ w) ?_
   refine V0 (yl_cats rfl rfl (by (try simp only [List.length_append,List.length_cons,List.length_nil]); omega)) ?_
   refine V0 (Ya rfl) ?_
   refine Ln (Et (Cs (Cr ?_)))
   refine V0 (Yf fo53_0 rfl) ?_
   refine V0 (Yd 0 rfl rfl rfl na3) ?_
   refine Ln (Et (Cb (Cs (Cr ?_))))
   refine V0 (yl_eq rfl rfl) ?_
   refine V0 (Ya rfl) ?_
   refine Ln (Et ?_)
   refine Cc rfl (fun hc2=>?_) (fun hc2=>?_)
   ·
    have hk:d.kind=1:=by simpa using hc2
    have hn0:0≤d.n:=(hd.n1 hk).1
    have hdm:d.n≤1099511627775:=(hd.n1 hk).2
    have HD:=TD1 hk hn0
    have hDl:=congrArg List.length HD
    simp only [List.length_append,List.length_cons,List.length_nil] at hDl
    refine WC.draws0 [(0,true),(1,true),(2,true),(3,true),(4,true),(5,true),(6,true),(7,true),(8,false),(9,true),(10,true),(11,true)] mixed (by kernel_rfl) (fun _ _ _ d _ h=>by cases d<;>exact h) ?_
    refine Dq rfl (.inl rfl) rfl (fun _ h=>h) (Ym rfl) ?_
    refine Dq rfl (.inl rfl) rfl (fun _ h=>h) (yl_cats (b:=[99,111,110,115,116,32]) rfl rfl (by (try simp only [List.length_append,List.length_cons,List.length_nil]); omega)) ?_
    refine Dq rfl (.inl rfl) rfl (fun _ h=>h) (Yf fo53_1 rfl) ?_
    refine Dq rfl (.inl rfl) rfl (fun _ h=>h) (Yd 0 rfl rfl rfl na9) ?_
    refine Dq rfl (.inl rfl) rfl (fun _ h=>h) (yl_cats rfl rfl (by (try simp only [List.length_append,List.length_cons,List.length_nil]); omega)) ?_
    refine Dq rfl (.inl rfl) rfl (fun _ h=>h) (yl_cats (b:=[32,61,32]) rfl rfl (by (try simp only [List.length_append,List.length_cons,List.length_nil]); omega)) ?_
    refine Dq rfl (.inl rfl) rfl (fun _ h=>h) (Yf fo53_3 rfl) ?_
    refine Dq rfl (.inl rfl) rfl (fun _ h=>h) (Yd 0 rfl rfl rfl na3) ?_
    refine De rfl (fun _ h=>h) ?_
    refine Lp (.inl rfl) rfl en27 rfl (fun w hw=>by
        have:=digits_any d.n.toNat w (by omega)
        rw [Int.toNat_of_nonneg hn0] at this
        exact this) ?_
    refine Ln (Ed ?_)
    refine Dq rfl (.inl rfl) rfl (fun _ h=>h) (yl_cats rfl rfl (by (try simp only [List.length_append,List.length_cons,List.length_nil]); omega)) ?_
    refine Dq rfl (.inl rfl) rfl (fun _ h=>h) (yl_cats (b:=[32,59,32]) rfl rfl (by (try simp only [List.length_append,List.length_cons,List.length_nil]); omega)) ?_
    refine Dq rfl (.inl rfl) rfl (fun _ h=>h) (Ya rfl) ?_
    refine WD.nil (fun _ h=>h) ?_
    refine Eb (Eb (Et (Cr ?_)))
    refine V0 (Ym rfl) ?_
    refine V0 (Yi rfl rfl rfl (by omega)) ?_
    refine V0 (Ya rfl) ?_
    refine Ln ?_
    exact Ea ((g1.1+1,g1.2++pubT d.pub++[99,111,110,115,116,32]++d.nm++[32,61,32]++Lib.decDigits d.n.toNat++[32,59,32]):Nat×Tx) (by show m.decls.length-(g1.1+1)<m.decls.length-g1.1; omega) ⟨by show g1.1+1≤m.decls.length; omega,by show _=_++(m.decls.take (g1.1+1)).flatMap declT; rw [flat_snoc hdi,HD,hTg1]; simp⟩ (sc rfl (sc rfl (sc rfl (sc rfl sn)))) (fun _ h=>Ws.drop (L:=[_]) h)
   ·
    have h1:¬d.kind=1:=by simpa using hc2
    refine Cs (Cr ?_)
    refine V0 (yl_eq rfl rfl) ?_
    refine V0 (Ya rfl) ?_
    refine Ln (Et ?_)
    refine Cc rfl (fun hc3=>?_) (fun hc3=>?_)
    ·
     have hk:d.kind=2:=by simpa using hc3
     have HD:=TD2 hk
     have hDl:=congrArg List.length HD
     simp only [List.length_append,List.length_cons,List.length_nil] at hDl
     refine Cr ?_
     refine V0 (Ym rfl) ?_
     refine V0 (yl_cats (b:=[118,97,114,32]) rfl rfl (by (try simp only [List.length_append,List.length_cons,List.length_nil]); omega)) ?_
     refine V0 (Yf fo53_1 rfl) ?_
     refine V0 (Yd 0 rfl rfl rfl na9) ?_
     refine V0 (yl_cats rfl rfl (by (try simp only [List.length_append,List.length_cons,List.length_nil]); omega)) ?_
     refine V0 (yl_cats (b:=[32,59,32]) rfl rfl (by (try simp only [List.length_append,List.length_cons,List.length_nil]); omega)) ?_
     refine V0 (Ya rfl) ?_
     refine Ln (Eb (Eb (Et (Cr ?_))))
     refine V0 (Ym rfl) ?_
     refine V0 (Yi rfl rfl rfl (by omega)) ?_
     refine V0 (Ya rfl) ?_
     refine Ln ?_
     exact Ea ((g1.1+1,g1.2++pubT d.pub++[118,97,114,32]++d.nm++[32,59,32]):Nat×Tx) (by show m.decls.length-(g1.1+1)<m.decls.length-g1.1; omega) ⟨by show g1.1+1≤m.decls.length; omega,by show _=_++(m.decls.take (g1.1+1)).flatMap declT; rw [flat_snoc hdi,HD,hTg1]; simp⟩ (sc rfl (sc rfl (sc rfl (sc rfl sn)))) (fun _ h=>Ws.drop (L:=[_]) h)
    ·
     have h2:¬d.kind=2:=by simpa using hc3
     have hk:d.kind=3:=by have:=hd.kind; omega
     have hn0:0≤d.n:=by have:=hd.n3 hk; omega
     have hdm:d.n≤1099511627775:=by have:=hd.n3 hk; omega
     have HD:=TD3 h1 h2 hn0
     have hDl:=congrArg List.length HD
     simp only [List.length_append,List.length_cons,List.length_nil] at hDl
     refine WC.draws0 [(0,true),(1,true),(2,true),(3,true),(4,true),(5,true),(6,true),(7,true),(8,false),(9,true),(10,true),(11,true)] mixed (by kernel_rfl) (fun _ _ _ d _ h=>by cases d<;>exact h) ?_
     refine Dq rfl (.inl rfl) rfl (fun _ h=>h) (Ym rfl) ?_
     refine Dq rfl (.inl rfl) rfl (fun _ h=>h) (yl_cats (b:=[97,114,114,97,121,32]) rfl rfl (by (try simp only [List.length_append,List.length_cons,List.length_nil]); omega)) ?_
     refine Dq rfl (.inl rfl) rfl (fun _ h=>h) (Yf fo53_1 rfl) ?_
     refine Dq rfl (.inl rfl) rfl (fun _ h=>h) (Yd 0 rfl rfl rfl na9) ?_
     refine Dq rfl (.inl rfl) rfl (fun _ h=>h) (yl_cats rfl rfl (by (try simp only [List.length_append,List.length_cons,List.length_nil]); omega)) ?_
     refine Dq rfl (.inl rfl) rfl (fun _ h=>h) (yl_cats (b:=[32,91,32]) rfl rfl (by (try simp only [List.length_append,List.length_cons,List.length_nil]); omega)) ?_
     refine Dq rfl (.inl rfl) rfl (fun _ h=>h) (Yf fo53_3 rfl) ?_
     refine Dq rfl (.inl rfl) rfl (fun _ h=>h) (Yd 0 rfl rfl rfl na3) ?_
     refine De rfl (fun _ h=>h) ?_
     refine Lp (.inl rfl) rfl en27 rfl (fun w hw=>by
         have:=digits_any d.n.toNat w (by omega)
         rw [Int.toNat_of_nonneg hn0] at this
         exact this) ?_
     refine Ln (Ed ?_)
     refine Dq rfl (.inl rfl) rfl (fun _ h=>h) (yl_cats rfl rfl (by (try simp only [List.length_append,List.length_cons,List.length_nil]); omega)) ?_
     refine Dq rfl (.inl rfl) rfl (fun _ h=>h) (yl_cats (b:=[32,93,32,59,32]) rfl rfl (by (try simp only [List.length_append,List.length_cons,List.length_nil]); omega)) ?_
     refine Dq rfl (.inl rfl) rfl (fun _ h=>h) (Ya rfl) ?_
     refine WD.nil (fun _ h=>h) ?_
     refine Eb (Eb (Et (Cr ?_)))
     refine V0 (Ym rfl) ?_
     refine V0 (Yi rfl rfl rfl (by omega)) ?_
     refine V0 (Ya rfl) ?_
     refine Ln ?_
     exact Ea ((g1.1+1,g1.2++pubT d.pub++[97,114,114,97,121,32]++d.nm++[32,91,32]++Lib.decDigits d.n.toNat++[32,93,32,59,32]):Nat×Tx) (by show m.decls.length-(g1.1+1)<m.decls.length-g1.1; omega) ⟨by show g1.1+1≤m.decls.length; omega,by show _=_++(m.decls.take (g1.1+1)).flatMap declT; rw [flat_snoc hdi,HD,hTg1]; simp⟩ (sc rfl (sc rfl (sc rfl (sc rfl sn)))) (fun _ h=>Ws.drop (L:=[_]) h)
  ·
   have hge1:¬g1.1<m.decls.length:=by simpa using hc1
   rw [flatAll hge1] at hTg1 hLg1
   refine Ce (Ex (Ex (Ebh (Et (Cs ?_)))))
   refine Cs (Cr ?_)
   refine V0 (Ya rfl) ?_
   refine Ln (Et (Cb ?_))
   refine CW (ι:=Nat×Tx) (fun j=>[(7,.int .i64 (j.1:Int)),(3,st j.2)]) [(1,_),(2,_)] (fun j=>j.1≤m.procs.length∧j.2=(([109,111,100,117,108,101,32]++m.nm++[32,123,32]++m.uses.flatMap useT)++m.decls.flatMap declT)++(m.procs.take j.1).flatMap procT) (fun j=>m.procs.length-j.1) (0,g1.2) ⟨Nat.zero_le _,by simp [argsT,hTg1]⟩ (sc rfl (sc rfl (sc rfl (sc rfl sn)))) ?_
   intro j ⟨hij,hTj⟩
   have hLj:=congrArg List.length hTj
   simp only [List.length_append,List.length_cons,List.length_nil] at hLj
   refine Cs (Cs (Cr ?_))
   refine V0 (Ym rfl) ?_
   refine V0 (Yf fo27_3 rfl) ?_
   refine V0 (Yd 0 rfl rfl rfl na24) ?_
   refine V0 (Yn es24 rfl) ?_
   refine V0 (yl_lt rfl rfl) ?_
   refine Ln (Et ?_)
   refine Cc rfl (fun hc4=>?_) (fun hc4=>?_)
   ·
    have hlt:j.1<m.procs.length:=by simpa using hc4
    obtain ⟨p,hpi⟩:∃q,m.procs[j.1]? = some q:=⟨_,List.getElem?_eq_getElem hlt⟩
    obtain ⟨pbp,pop,hap,hrp⟩:=hm.procs.elt j.1 p hpi
    obtain ⟨pa1,pc1,pa2,pc2,pa3,pc3,hrow,hs1,hs2,hs3⟩:=hrp
    have hp:=okP (hom.procs p (List.mem_of_getElem? hpi))
    have hpt:=flat_part (f:=procT) hpi
    have hPl:=congrArg List.length (procT_eq p)
    simp only [List.length_append,List.length_cons,List.length_nil] at hPl
    have c1_:=hs1.cap
    have x1_:=hs1.max
    have c2_:=hs2.cap
    have x2_:=hs2.max
    refine Ck (Et (Cs (Cb (Cs (Cr ?_)))))
    refine V0 (Yf fo27_3 rfl) ?_
    refine V0 (Yd 0 rfl rfl rfl na24) ?_
    refine V0 (Ym rfl) ?_
    refine V0 (Yo es24 rfl rfl hap (by omega)) ?_
    refine V0 (yl_lda 0 ag56 rfl rfl rfl (hrow)) ?_
    refine WL.alloc (.inl rfl) rfl zr56 fun b8=>?_
    refine Lst 0 (.inl rfl) rfl rfl rfl sz56 rfl rfl rfl ?_
    refine Ln (Et (Cs ?_))
    refine WC.draws0 [(0,true),(1,true),(2,true),(6,true),(7,true),(3,false),(4,true),(5,true),(8,true),(9,true),(10,true)] mixed (by kernel_rfl) (fun _ _ _ d _ h=>by cases d<;>exact h) ?_
    refine Dq rfl (.inl rfl) rfl (fun _ h=>h) (Ym rfl) ?_
    refine Dq rfl (.inl rfl) rfl (fun _ h=>h) (Yf fo56_1 rfl) ?_
    refine Dq rfl (.inl rfl) rfl (fun _ h=>h) (Yd 0 rfl rfl rfl na4) ?_
    refine Dq rfl (.inl rfl) rfl (fun _ h=>h) (Yf fo56_0 rfl) ?_
    refine Dq rfl (.inl rfl) rfl (fun _ h=>h) (Yd 0 rfl rfl rfl na9) ?_
    refine De rfl (fun _ h=>h) ?_
    refine Lp (.inl rfl) rfl en26 rfl (fun w hw=>pubText_any _ w) ?_
    refine Ln (Ed ?_)
    refine Dq rfl (.inl rfl) rfl (fun _ h=>h) (yl_cats rfl rfl (by (try simp only [List.length_append,List.length_cons,List.length_nil]); omega)) ?_
    refine Dq rfl (.inl rfl) rfl (fun _ h=>h) (yl_cats (b:=[112,114,111,99,32]) rfl rfl (by (try simp only [List.length_append,List.length_cons,List.length_nil]); omega)) ?_
    refine Dq rfl (.inl rfl) rfl (fun _ h=>h) (yl_cats rfl rfl (by (try simp only [List.length_append,List.length_cons,List.length_nil]); omega)) ?_
    refine Dq rfl (.inl rfl) rfl (fun _ h=>h) (yl_cats (b:=[32,40]) rfl rfl (by (try simp only [List.length_append,List.length_cons,List.length_nil]); omega)) ?_
    refine Dq rfl (.inl rfl) rfl (fun _ h=>h) (Ya rfl) ?_
    refine WD.nil (fun _ h=>h) ?_
    refine Et (Cs (Cs (Cr ?_)))
    refine V0 (Ya rfl) ?_
    refine Ln (Et (Cb ?_))
    refine CW (ι:=Nat×Tx) (fun e=>[(9,.int .i64 (e.1:Int)),(3,st e.2)]) [(1,_),(2,_),(7,_),(8,_)] (fun e=>e.1≤p.params.length∧e.2=(j.2++pubT p.pub++[112,114,111,99,32]++p.nm++[32,40])++argsT (p.params.take e.1)) (fun e=>p.params.length-e.1) (0,(j.2++pubT p.pub++[112,114,111,99,32]++p.nm++[32,40])) ⟨Nat.zero_le _,by simp [argsT]⟩ (sc rfl (sc rfl (sc rfl (sc rfl (sc rfl (sc rfl sn)))))) ?_
    intro e ⟨hie,hTe⟩
    have hLe:=congrArg List.length hTe
    simp only [List.length_append,List.length_cons,List.length_nil] at hLe
    refine Cs (Cs (Cr ?_))
    refine V0 (Ym rfl) ?_
    refine V0 (Yf fo56_2 rfl) ?_
    refine V0 (Yd 0 rfl rfl rfl na22) ?_
    refine V0 (Yn es22 rfl) ?_
    refine V0 (yl_lt rfl rfl) ?_
    refine Ln (Et ?_)
    refine Cc rfl (fun hc5=>?_) (fun hc5=>?_)
    ·
     have hlt:e.1<p.params.length:=by simpa using hc5
     obtain ⟨s,hsi⟩:∃x,p.params[e.1]? = some x:=⟨_,List.getElem?_eq_getElem hlt⟩
     obtain ⟨pbs,pos,ha,hrow⟩:=hs1.elt e.1 s hsi
     have hrow:RdC H pbs (pos+e.1*1) (strC s):=hrow
     have hle:=argsT_le p.params (e.1+1)
     refine Ck (Et (Cs (Cb (Cs (Cs ?_)))))
     refine Cr ?_
     refine V0 (Ym rfl) ?_
     refine V0 (yl_gt rfl rfl) ?_
     refine Ln (Et ?_)
     refine Cc rfl (fun hc6=>?_) (fun hc6=>?_)
     ·
      have HC:=argsT_takeS hsi (by simp at hc6; omega)
      rw [HC] at hle
      simp only [List.length_append,List.length_cons,List.length_nil] at hle
      refine Cr ?_
      refine V0 (Ym rfl) ?_
      refine V0 (yl_cats (b:=[32,44]) rfl rfl (by (try simp only [List.length_append,List.length_cons,List.length_nil]); omega)) ?_
      refine V0 (Ya rfl) ?_
      refine Ln (Et (Cr ?_))
      refine V0 (Ym rfl) ?_
      refine V0 (yl_cats (b:=[32]) rfl rfl (by (try simp only [List.length_append,List.length_cons,List.length_nil]); omega)) ?_
      refine V0 (Yf fo56_2 rfl) ?_
      refine V0 (Yd 0 rfl rfl rfl na22) ?_
      refine V0 (Ym rfl) ?_
      refine V0 (Yo es22 rfl rfl ha (by omega)) ?_
      refine V0 (yl_ld 0 na9 rfl rfl (hrow 0 _ rfl)) ?_
      refine V0 (yl_cats rfl rfl (by (try simp only [List.length_append,List.length_cons,List.length_nil]); omega)) ?_
      refine V0 (Ya rfl) ?_
      refine Ln (Eb (Et (Cr ?_)))
      refine V0 (Ym rfl) ?_
      refine V0 (Yi rfl rfl rfl (by omega)) ?_
      refine V0 (Ya rfl) ?_
      refine Ln ?_
      exact Ea ((e.1+1,e.2++[32,44]++[32]++s):Nat×Tx) (by show p.params.length-(e.1+1)<p.params.length-e.1; omega) ⟨by show e.1+1≤p.params.length; omega,by show _=_++argsT (p.params.take (e.1+1)); rw [HC,hTe]; simp⟩ (sc rfl (sc rfl (sc rfl (sc rfl (sc rfl (sc rfl sn)))))) (fun _ h=>h)
     ·
      have HC:=argsT_take0 hsi (by simp at hc6; omega)
      rw [HC] at hle
      simp only [List.length_append,List.length_cons,List.length_nil] at hle
      refine Ck (Et (Cr ?_))
      refine V0 (Ym rfl) ?_
      refine V0 (yl_cats (b:=[32]) rfl rfl (by (try simp only [List.length_append,List.length_cons,List.length_nil]); omega)) ?_
      refine V0 (Yf fo56_2 rfl) ?_
      refine V0 (Yd 0 rfl rfl rfl na22) ?_
      refine V0 (Ym rfl) ?_
      refine V0 (Yo es22 rfl rfl ha (by omega)) ?_
      refine V0 (yl_ld 0 na9 rfl rfl (hrow 0 _ rfl)) ?_
      refine V0 (yl_cats rfl rfl (by (try simp only [List.length_append,List.length_cons,List.length_nil]); omega)) ?_
      refine V0 (Ya rfl) ?_
      refine Ln (Eb (Et (Cr ?_)))
      refine V0 (Ym rfl) ?_
      refine V0 (Yi rfl rfl rfl (by omega)) ?_
      refine V0 (Ya rfl) ?_
      refine Ln ?_
      exact Ea ((e.1+1,e.2++[32]++s):Nat×Tx) (by show p.params.length-(e.1+1)<p.params.length-e.1; omega) ⟨by show e.1+1≤p.params.length; omega,by show _=_++argsT (p.params.take (e.1+1)); rw [HC,hTe]; simp⟩ (sc rfl (sc rfl (sc rfl (sc rfl (sc rfl (sc rfl sn)))))) (fun _ h=>h)
    ·
     have hge3:¬e.1<p.params.length:=by simpa using hc5
     rw [show p.params.take e.1=p.params from List.take_of_length_le (by omega)] at hTe hLe
     refine Ce (Ex (Ex (Ebh (Et (Cs ?_)))))
     refine Cr ?_
     refine V0 (Ym rfl) ?_
     refine V0 (yl_cats (b:=[32,41,32]) rfl rfl (by (try simp only [List.length_append,List.length_cons,List.length_nil]); omega)) ?_
     refine V0 (Ya rfl) ?_
     refine Ln (Et (Cs (Cs (Cr ?_))))
     refine V0 (Ya rfl) ?_
     refine Ln (Et (Cb ?_))
     refine CW (ι:=Nat×Tx) (fun f=>[(10,.int .i64 (f.1:Int)),(3,st f.2)]) [(1,_),(2,_),(7,_),(8,_)] (fun f=>f.1≤p.locs.length∧f.2=((j.2++pubT p.pub++[112,114,111,99,32]++p.nm++[32,40])++argsT p.params++[32,41,32])++(p.locs.take f.1).flatMap locT) (fun f=>p.locs.length-f.1) (0,e.2++[32,41,32]) ⟨Nat.zero_le _,by simp [argsT,hTe]⟩ (sc rfl (sc rfl (sc rfl (sc rfl (sc rfl (sc rfl sn)))))) ?_
     intro f ⟨hif,hTf⟩
     have hLf:=congrArg List.length hTf
     simp only [List.length_append,List.length_cons,List.length_nil] at hLf
     refine Cs (Cs (Cr ?_))
     refine V0 (Ym rfl) ?_
     refine V0 (Yf fo56_3 rfl) ?_
     refine V0 (Yd 0 rfl rfl rfl na22) ?_
     refine V0 (Yn es22 rfl) ?_
     refine V0 (yl_lt rfl rfl) ?_
     refine Ln (Et ?_)
     refine Cc rfl (fun hc7=>?_) (fun hc7=>?_)
     ·
      have hlt:f.1<p.locs.length:=by simpa using hc7
      obtain ⟨s,hsi⟩:∃x,p.locs[f.1]? = some x:=⟨_,List.getElem?_eq_getElem hlt⟩
      obtain ⟨pbs,pos,ha,hrow⟩:=hs2.elt f.1 s hsi
      have hrow:RdC H pbs (pos+f.1*1) (strC s):=hrow
      have hpt2:=flat_part (f:=locT) hsi
      rw [locT_len] at hpt2
      refine Ck (Et (Cs (Cb (Cr ?_))))
      refine V0 (Ym rfl) ?_
      refine V0 (yl_cats (b:=[108,111,99,97,108,32]) rfl rfl (by (try simp only [List.length_append,List.length_cons,List.length_nil]); omega)) ?_
      refine V0 (Yf fo56_3 rfl) ?_
      refine V0 (Yd 0 rfl rfl rfl na22) ?_
      refine V0 (Ym rfl) ?_
      refine V0 (Yo es22 rfl rfl ha (by omega)) ?_
      refine V0 (yl_ld 0 na9 rfl rfl (hrow 0 _ rfl)) ?_
      refine V0 (yl_cats rfl rfl (by (try simp only [List.length_append,List.length_cons,List.length_nil]); omega)) ?_
      refine V0 (yl_cats (b:=[32,59,32]) rfl rfl (by (try simp only [List.length_append,List.length_cons,List.length_nil]); omega)) ?_
      refine V0 (Ya rfl) ?_
      refine Ln (Eb (Et (Cr ?_)))
      refine V0 (Ym rfl) ?_
      refine V0 (Yi rfl rfl rfl (by omega)) ?_
      refine V0 (Ya rfl) ?_
      refine Ln ?_
      exact Ea ((f.1+1,f.2++[108,111,99,97,108,32]++s++[32,59,32]):Nat×Tx) (by show p.locs.length-(f.1+1)<p.locs.length-f.1; omega) ⟨by show f.1+1≤p.locs.length; omega,by show _=_++(p.locs.take (f.1+1)).flatMap locT; rw [flat_snoc hsi,hTf]; simp [locT,w_local]⟩ (sc rfl (sc rfl (sc rfl (sc rfl (sc rfl (sc rfl sn)))))) (fun _ h=>h)
     ·
      have hge4:¬f.1<p.locs.length:=by simpa using hc7
      rw [flatAll hge4] at hTf hLf
      refine Ce (Ex (Ex (Ebh (Et (Cr ?_)))))
      refine V0 (Ym rfl) ?_
      refine V0 (Yf fo56_4 rfl) ?_
      refine V0 (Yd 0 rfl rfl rfl na25) ?_
      refine Lp (.inl rfl) rfl en28 rfl (fun w hw=>blockText_any H ke ks p.body pa3 pc3 1 w (hw.vs _ (by simp)) hs3 hp.body (by omega)) ?_
      refine V0 (yl_cats rfl rfl (by (try simp only [List.length_append,List.length_cons,List.length_nil]); omega)) ?_
      refine V0 (yl_cats (b:=[32]) rfl rfl (by (try simp only [List.length_append,List.length_cons,List.length_nil]); omega)) ?_
      refine V0 (Ya rfl) ?_
      refine Ln (Eb (Et (Cr ?_)))
      refine V0 (Ym rfl) ?_
      refine V0 (Yi rfl rfl rfl (by omega)) ?_
      refine V0 (Ya rfl) ?_
      refine Ln ?_
      exact Ea ((j.1+1,f.2++blockT p.body++[32]):Nat×Tx) (by show m.procs.length-(j.1+1)<m.procs.length-j.1; omega) ⟨by show j.1+1≤m.procs.length; omega,by show _=_++(m.procs.take (j.1+1)).flatMap procT; rw [flat_snoc hpi,procT_eq,hTf,hTj]; simp⟩ (sc rfl (sc rfl (sc rfl (sc rfl sn)))) (fun _ h=>Ws.drop (L:=[_]) h)
   ·
    have hge2:¬j.1<m.procs.length:=by simpa using hc4
    rw [flatAll hge2] at hTj hLj
    refine Ce (Ex (Ex (Ebh (Et (Cs ?_)))))
    refine Cr ?_
    refine V0 (Ym rfl) ?_
    refine V0 (yl_cats (b:=[109,97,105,110,32]) rfl rfl (by (try simp only [List.length_append,List.length_cons,List.length_nil]); omega)) ?_
    refine V0 (Yf fo27_4 rfl) ?_
    refine V0 (Yd 0 rfl rfl rfl na25) ?_
    refine Lp (.inl rfl) rfl en28 rfl (fun w hw=>blockText_any H ke ks m.main r.a4 r.c4 1 w (hw.vs _ (by simp)) hm.main hom.main (by omega)) ?_
    refine V0 (yl_cats rfl rfl (by (try simp only [List.length_append,List.length_cons,List.length_nil]); omega)) ?_
    refine V0 (yl_cats (b:=[32,125]) rfl rfl (by (try simp only [List.length_append,List.length_cons,List.length_nil]); omega)) ?_
    refine V0 (Ya rfl) ?_
    refine Ln (Et (Crt ?_))
    refine WE.ret1 rfl rfl fun w' hw=>?_
    exact ⟨by rw [hTj,←modT_eq],hw.fr⟩
end Go.Proofs.YtjfldjidhkfnbaaGreatDoor
end
section
namespace Go.Proofs.YtjfldjidhkfnbaaGreatDoor
open Go.Bw
set_option linter.unusedVariables false
set_option linter.unusedSimpArgs false
abbrev eyeL (gb:Nat) (r:Option Addr×Nat) (l:Tk):List Asr:=[blk gb (.cells #[.slice r.1 l.length r.2] 105 (0,0))]
def asks (s:Tx) (l:Tk):Bool:=(l.head?.map fun t=>(!(t.kind==2)&&(t.text==s))).getD false
theorem asks_t {s:Tx} {l:Tk} (h:asks s l=true):∃t r,l=t::r∧takT s l=some r:=by
 cases l with
 | nil=>cases h
 | cons t r=>exact ⟨t,r,rfl,by simp only [takT]; rw [if_pos (by simpa [asks] using h)]⟩
theorem asks_f {s:Tx} {l:Tk} (h:asks s l=false):takT s l=none:=by
 cases l with
 | nil=>rfl
 | cons t r=>simp only [takT]; rw [if_neg (by have h2:(!(t.kind==2)&&(t.text==s))=false:=h; simp only [h2]; decide)]
theorem takE_t {s:Tx} {l q:Tk} (h:takT s l=some q):takE s l=q:=by unfold takE; rw [h]; rfl
theorem takE_f {s:Tx} {l:Tk} (h:takT s l=none):takE s l=l:=by unfold takE; rw [h]; rfl
theorem takT_len {s:Tx} {l q:Tk} (h:takT s l=some q):q.length+1=l.length:=by
 cases l with
 | nil=>cases h
 | cons t r=>
   simp only [takT] at h
   split at h
   · injection h with h; subst h; rfl
   · cases h
theorem namE_c {t:Tok} {r:Tk} (h:t.kind=1):namE (t::r)=(t.text,r):=by simp only [namE]; rw [if_pos h]
theorem namE_n {l:Tk} (h:l=[]∨∃t r,l=t::r∧¬t.kind=1):namE l=([],l):=by
 rcases h with rfl | ⟨t,r,rfl,h⟩
 · rfl
 · simp only [namE]; rw [if_neg h]
theorem numE_c {t:Tok} {r:Tk} (h:t.kind=2):numE (t::r)=(t.n,r):=by simp only [numE]; rw [if_pos h]
theorem numE_n {l:Tk} (h:l=[]∨∃t r,l=t::r∧¬t.kind=2):numE l=(0,l):=by
 rcases h with rfl | ⟨t,r,rfl,h⟩
 · rfl
 · simp only [numE]; rw [if_neg h]
theorem fo105_0:fieldOff Tryz.prog 105 0=some 0:=by kernel_rfl
theorem en84:Enters Tryz.prog 84:=enters_of Tryz.func84 (by kernel_rfl) rfl
theorem en61:Enters Tryz.prog 61:=enters_of Tryz.func61 (by kernel_rfl) rfl
theorem en60:Enters Tryz.prog 60:=enters_of Tryz.func60 (by kernel_rfl) rfl
theorem is_any (gb:Nat) (HT:View) (r:Option Addr×Nat) (l:Tk) (s:Tx) (w:World) (hm:Sl rdTok 3 HT r.1 r.2 l) (hw:Ws w (List.flatMap Asr.ids (eyeL gb r l)) (eyeL gb r l) [HT] w) :
   Calls Tryz.prog 84 #[.pointer (some ⟨gb,0,none⟩),st s] w fun e w'=>e = .returned (.bool (asks s l))∧Ws w (List.flatMap Asr.ids (eyeL gb r l)) (eyeL gb r l) [HT] w':=by
 have hcap:=hm.cap
 have hmax:=hm.max
 refine enter Tryz.func84 rfl 32 rfl rfl ?_
 refine CWd (W':=Ws w (List.flatMap Asr.ids (eyeL gb r l)) (eyeL gb r l) [HT]) (fun _ e=>by subst e; exact hw) ?_
 refine Cs (Cr ?_)
 refine V0 (Ya rfl) ?_
 refine Ln (Et (Cs (Cr ?_)))
 refine V0 (Ym rfl) ?_
 refine V0 (yl_nil rfl) ?_
 refine V0 (Yf fo105_0 rfl) ?_
 refine V0 (Yd 0 rfl rfl rfl na61) ?_
 refine V0 (Yn es61 rfl) ?_
 refine V0 (yl_gt rfl rfl) ?_
 refine V0 (Ym rfl) ?_
 apply WL.and 8 (x:=((l.head?.map fun t=>!(t.kind==2)).getD false)) rfl rfl rfl rfl (.inl rfl) rfl rfl rfl rfl rfl
 ·
  intro hg0
  obtain ⟨t,r0,rfl⟩:∃t r0,l=t::r0:=by
    cases l with
    | nil=>simp at hg0
    | cons t r0=>exact ⟨t,r0,rfl⟩
  obtain ⟨pbt,pot,hat,hrt⟩:=hm.elt 0 t rfl
  have hrt:RdC HT pbt (pot+0*3) t.cells:=hrt
  refine Lv (.g rfl rfl rfl) rfl (Ym rfl) ?_
  refine Lv (.g rfl rfl rfl) rfl (yl_nil rfl) ?_
  refine Lv (.g rfl rfl rfl) rfl (Yf fo105_0 rfl) ?_
  refine Lv (.g rfl rfl rfl) rfl (Yd 0 rfl rfl rfl na61) ?_
  refine Lv (.g rfl rfl rfl) rfl (Yo (i:=0) es61 rfl rfl hat (by simp)) ?_
  refine Lv (.g rfl rfl rfl) rfl (Yf fo66_0 rfl) ?_
  refine Lv (.g rfl rfl rfl) rfl (yl_ld 0 na3 rfl rfl (hrt 0 _ rfl)) ?_
  refine Lv (.g rfl rfl rfl) rfl (yl_ne rfl rfl) ?_
  exact Gt 8 rfl rfl rfl
 refine V0 (Ym rfl) ?_
 apply WL.and 9 (x:=((l.head?.map fun t=>t.text==s).getD false)) rfl rfl rfl rfl (.inl rfl) rfl rfl rfl rfl rfl
 ·
  intro hg1
  obtain ⟨t,r0,rfl⟩:∃t r0,l=t::r0:=by
    cases l with
    | nil=>cases hg1
    | cons t r0=>exact ⟨t,r0,rfl⟩
  obtain ⟨pbt,pot,hat,hrt⟩:=hm.elt 0 t rfl
  have hrt:RdC HT pbt (pot+0*3) t.cells:=hrt
  refine Lv (.g rfl rfl rfl) rfl (Ym rfl) ?_
  refine Lv (.g rfl rfl rfl) rfl (yl_nil rfl) ?_
  refine Lv (.g rfl rfl rfl) rfl (Yf fo105_0 rfl) ?_
  refine Lv (.g rfl rfl rfl) rfl (Yd 0 rfl rfl rfl na61) ?_
  refine Lv (.g rfl rfl rfl) rfl (Yo (i:=0) es61 rfl rfl hat (by simp)) ?_
  refine Lv (.g rfl rfl rfl) rfl (Yf fo66_2 rfl) ?_
  refine Lv (.g rfl rfl rfl) rfl (yl_ld 0 na9 rfl rfl (hrt 2 _ rfl)) ?_
  refine Lv (.g rfl rfl rfl) rfl (Ym rfl) ?_
  refine Lv (.g rfl rfl rfl) rfl (yl_eqs rfl rfl) ?_
  exact Gt 9 rfl rfl rfl
 refine V0 (Ya rfl) ?_
 refine Ln (Et (Crt ?_))
 refine WE.ret1 rfl rfl fun w' hw=>?_
 refine ⟨?_,hw⟩
 cases l with
 | nil=>rfl
 | cons t r0=>simp [asks]
theorem take_any (gb:Nat) (HT:View) (r:Option Addr×Nat) (l:Tk) (s:Tx) (w:World) (hm:Sl rdTok 3 HT r.1 r.2 l) (hw:Ws w (List.flatMap Asr.ids (eyeL gb r l)) (eyeL gb r l) [HT] w) :
   Calls Tryz.prog 60 #[.pointer (some ⟨gb,0,none⟩),st s] w fun e w'=>∃i:Bool×(Option Addr×Nat)×Tk,e = .returned (.bool i.1)∧((i.1=true→takT s l=some i.2.2)∧(i.1=false→takT s l=none∧l=i.2.2)∧i.2.2=takE s l∧i.1=(takT s l).isSome∧Sl rdTok 3 HT i.2.1.1 i.2.1.2 i.2.2)∧Ws w (List.flatMap Asr.ids (eyeL gb r l)) (eyeL gb i.2.1 i.2.2) [HT] w':=by
 have hcap:=hm.cap
 have hmax:=hm.max
 have hd1:=hm.drop 1
 refine enter Tryz.func60 rfl 17 rfl rfl ?_
 refine CWd (W':=Ws w (List.flatMap Asr.ids (eyeL gb r l)) (eyeL gb r l) [HT]) (fun _ e=>by subst e; exact hw) ?_
 refine Cs (Cr ?_)
 refine V0 (Ya rfl) ?_
 refine Ln (Et (Cs (Cs (Cr ?_))))
 refine V0 (Ym rfl) ?_
 refine V0 (Ym rfl) ?_
 refine Lf 0 rfl ?_
 refine Lw (ι:=Unit) [_] _ (.inl rfl) rfl en84 rfl rfl (fun _=>.bool (asks s l)) (fun _=>eyeL gb r l) (fun _=>True) [HT] (by simp) (fun w hw=>(is_any gb HT r l s w hm hw).mono fun e w' ⟨h1,h2⟩=>⟨(),h1,trivial,h2⟩) ?_
 intro _ _
 refine V0 (yl_not rfl) ?_
 refine Ln (Et ?_)
 refine Cc rfl (fun hc0=>?_) (fun hc0=>?_)
 ·
  have hno:=asks_f (s:=s) (l:=l) (by simpa using hc0)
  refine Cs (Cr ?_)
  refine V0 (Ya rfl) ?_
  refine Ln (Et (Crt (Er ?_)))
  refine WE.ret1 rfl rfl fun w' hw=>?_
  exact ⟨(false,r,l),rfl,⟨fun h=>(by cases h),fun _=>⟨hno,rfl⟩,(takE_f hno).symm,by rw [hno]; rfl,hm⟩,hw⟩
 ·
  obtain ⟨t,r0,rfl,hyes⟩:=asks_t (s:=s) (l:=l) (by simpa using hc0)
  have hd1:=hd1 (by simp)
  refine Ck (Et (Cs (Cr ?_)))
  refine V0 (Ym rfl) ?_
  refine V0 (Ym rfl) ?_
  refine V0 (yl_nil rfl) ?_
  refine V0 (Yf fo105_0 rfl) ?_
  refine V0 (Yd 0 rfl rfl rfl na61) ?_
  refine V0 (yl_slln 1 es61 rfl rfl rfl (by simp) hcap) ?_
  refine V0 (yl_nil rfl) ?_
  refine V0 (Yf fo105_0 rfl) ?_
  refine Lst 0 (.inl rfl) rfl rfl rfl sz61 rfl rfl rfl ?_
  refine Ln (Et (Cs (Cr ?_)))
  refine V0 (Ya rfl) ?_
  refine Ln (Et (Crt ?_))
  refine WE.ret1 rfl rfl fun w' hw=>?_
  exact ⟨(true,(if r.2-1=0 then r.1 else r.1.map (·.add (1*3)),r.2-1),r0),rfl,⟨fun _=>hyes,fun h=>(by cases h),(takE_t hyes).symm,by rw [hyes]; rfl,hd1⟩,hw⟩
theorem ename_any (gb:Nat) (HT:View) (r:Option Addr×Nat) (l:Tk) (w:World) (hm:Sl rdTok 3 HT r.1 r.2 l) (hw:Ws w (List.flatMap Asr.ids (eyeL gb r l)) (eyeL gb r l) [HT] w) :
   Calls Tryz.prog 61 #[.pointer (some ⟨gb,0,none⟩)] w fun e w'=>∃(s:Tx) (r2:Option Addr×Nat) (q:Tk),e = .returned (st s)∧namE l=(s,q)∧Sl rdTok 3 HT r2.1 r2.2 q∧Ws w (List.flatMap Asr.ids (eyeL gb r l)) (eyeL gb r2 q) [HT] w':=by
 have hcap:=hm.cap
 have hmax:=hm.max
 have hd1:=hm.drop 1
 refine enter Tryz.func61 rfl 36 rfl rfl ?_
 refine CWd (W':=Ws w (List.flatMap Asr.ids (eyeL gb r l)) (eyeL gb r l) [HT]) (fun _ e=>by subst e; exact hw) ?_
 refine Cs (Cr ?_)
 refine V0 (Ya rfl) ?_
 refine Ln (Et (Cs (Cs (Cr ?_))))
 refine V0 (Ym rfl) ?_
 refine V0 (yl_nil rfl) ?_
 refine V0 (Yf fo105_0 rfl) ?_
 refine V0 (Yd 0 rfl rfl rfl na61) ?_
 refine V0 (Yn es61 rfl) ?_
 refine V0 (yl_eq rfl rfl) ?_
 refine V0 (Ym rfl) ?_
 apply WL.or 8 (x:=(!((l.head?.map fun t=>t.kind==1).getD false))) rfl rfl rfl rfl (.inl rfl) rfl rfl rfl rfl rfl
 ·
  intro hg0
  obtain ⟨t,r0,rfl⟩:∃t r0,l=t::r0:=by
    cases l with
    | nil=>simp at hg0
    | cons t r0=>exact ⟨t,r0,rfl⟩
  obtain ⟨pbt,pot,hat,hrt⟩:=hm.elt 0 t rfl
  have hrt:RdC HT pbt (pot+0*3) t.cells:=hrt
  refine Lv (.g rfl rfl rfl) rfl (Ym rfl) ?_
  refine Lv (.g rfl rfl rfl) rfl (yl_nil rfl) ?_
  refine Lv (.g rfl rfl rfl) rfl (Yf fo105_0 rfl) ?_
  refine Lv (.g rfl rfl rfl) rfl (Yd 0 rfl rfl rfl na61) ?_
  refine Lv (.g rfl rfl rfl) rfl (Yo (i:=0) es61 rfl rfl hat (by simp)) ?_
  refine Lv (.g rfl rfl rfl) rfl (Yf fo66_0 rfl) ?_
  refine Lv (.g rfl rfl rfl) rfl (yl_ld 0 na3 rfl rfl (hrt 0 _ rfl)) ?_
  refine Lv (.g rfl rfl rfl) rfl (yl_ne rfl rfl) ?_
  exact Gt 8 rfl rfl rfl
 refine Ln (Et ?_)
 refine Cc rfl (fun hc0=>?_) (fun hc0=>?_)
 ·
  have hno:namE l=([],l):=namE_n (by
    cases l with
    | nil=>exact .inl rfl
    | cons t r0=>exact .inr ⟨t,r0,rfl,fun h=>by simp [h] at hc0; omega⟩)
  refine Cs (Cr ?_)
  refine V0 (Ya rfl) ?_
  refine Ln (Et (Crt (Er ?_)))
  refine WE.ret1 rfl rfl fun w' hw=>?_
  exact ⟨[],r,l,rfl,hno,hm,hw⟩
 ·
  obtain ⟨t,r0,rfl⟩:∃t r0,l=t::r0:=by
    cases l with
    | nil=>simp at hc0
    | cons t r0=>exact ⟨t,r0,rfl⟩
  obtain ⟨pbt,pot,hat,hrt⟩:=hm.elt 0 t rfl
  have hrt:RdC HT pbt (pot+0*3) t.cells:=hrt
  have hk:t.kind=1:=by simp at hc0; exact hc0.2
  have hyes:=namE_c (r:=r0) hk
  have hd1:=hd1 (by simp)
  refine Ck (Et (Cs (Cr ?_)))
  refine V0 (Ym rfl) ?_
  refine V0 (yl_nil rfl) ?_
  refine V0 (Yf fo105_0 rfl) ?_
  refine V0 (Yd 0 rfl rfl rfl na61) ?_
  refine V0 (Yo (i:=0) es61 rfl rfl hat (by simp)) ?_
  refine V0 (Yf fo66_2 rfl) ?_
  refine V0 (yl_ld 0 na9 rfl rfl (hrt 2 _ rfl)) ?_
  refine V0 (Ya rfl) ?_
  refine Ln (Et (Cs (Cr ?_)))
  refine V0 (Ym rfl) ?_
  refine V0 (Ym rfl) ?_
  refine V0 (yl_nil rfl) ?_
  refine V0 (Yf fo105_0 rfl) ?_
  refine V0 (Yd 0 rfl rfl rfl na61) ?_
  refine V0 (yl_slln 1 es61 rfl rfl rfl (by simp) hcap) ?_
  refine V0 (yl_nil rfl) ?_
  refine V0 (Yf fo105_0 rfl) ?_
  refine Lst 0 (.inl rfl) rfl rfl rfl sz61 rfl rfl rfl ?_
  refine Ln (Et (Cs (Cr ?_)))
  refine V0 (Ym rfl) ?_
  refine V0 (Ya rfl) ?_
  refine Ln (Et (Crt ?_))
  refine WE.ret1 rfl rfl fun w' hw=>?_
  exact ⟨_,(if r.2-1=0 then r.1 else r.1.map (·.add (1*3)),r.2-1),r0,rfl,hyes,hd1,hw⟩
theorem enum_any (gb:Nat) (HT:View) (r:Option Addr×Nat) (l:Tk) (w:World) (hm:Sl rdTok 3 HT r.1 r.2 l) (hw:Ws w (List.flatMap Asr.ids (eyeL gb r l)) (eyeL gb r l) [HT] w) :
   Calls Tryz.prog 62 #[.pointer (some ⟨gb,0,none⟩)] w fun e w'=>∃(n:Int) (r2:Option Addr×Nat) (q:Tk),e = .returned (.int .i64 n)∧numE l=(n,q)∧Sl rdTok 3 HT r2.1 r2.2 q∧Ws w (List.flatMap Asr.ids (eyeL gb r l)) (eyeL gb r2 q) [HT] w':=by
 have hcap:=hm.cap
 have hmax:=hm.max
 have hd1:=hm.drop 1
 refine enter Tryz.func62 rfl 36 rfl rfl ?_
 refine CWd (W':=Ws w (List.flatMap Asr.ids (eyeL gb r l)) (eyeL gb r l) [HT]) (fun _ e=>by subst e; exact hw) ?_
 refine Cs (Cr ?_)
 refine V0 (Ya rfl) ?_
 refine Ln (Et (Cs (Cs (Cr ?_))))
 refine V0 (Ym rfl) ?_
 refine V0 (yl_nil rfl) ?_
 refine V0 (Yf fo105_0 rfl) ?_
 refine V0 (Yd 0 rfl rfl rfl na61) ?_
 refine V0 (Yn es61 rfl) ?_
 refine V0 (yl_eq rfl rfl) ?_
 refine V0 (Ym rfl) ?_
 apply WL.or 8 (x:=(!((l.head?.map fun t=>t.kind==2).getD false))) rfl rfl rfl rfl (.inl rfl) rfl rfl rfl rfl rfl
 ·
  intro hg0
  obtain ⟨t,r0,rfl⟩:∃t r0,l=t::r0:=by
    cases l with
    | nil=>simp at hg0
    | cons t r0=>exact ⟨t,r0,rfl⟩
  obtain ⟨pbt,pot,hat,hrt⟩:=hm.elt 0 t rfl
  have hrt:RdC HT pbt (pot+0*3) t.cells:=hrt
  refine Lv (.g rfl rfl rfl) rfl (Ym rfl) ?_
  refine Lv (.g rfl rfl rfl) rfl (yl_nil rfl) ?_
  refine Lv (.g rfl rfl rfl) rfl (Yf fo105_0 rfl) ?_
  refine Lv (.g rfl rfl rfl) rfl (Yd 0 rfl rfl rfl na61) ?_
  refine Lv (.g rfl rfl rfl) rfl (Yo (i:=0) es61 rfl rfl hat (by simp)) ?_
  refine Lv (.g rfl rfl rfl) rfl (Yf fo66_0 rfl) ?_
  refine Lv (.g rfl rfl rfl) rfl (yl_ld 0 na3 rfl rfl (hrt 0 _ rfl)) ?_
  refine Lv (.g rfl rfl rfl) rfl (yl_ne rfl rfl) ?_
  exact Gt 8 rfl rfl rfl
 refine Ln (Et ?_)
 refine Cc rfl (fun hc0=>?_) (fun hc0=>?_)
 ·
  have hno:numE l=(0,l):=numE_n (by
    cases l with
    | nil=>exact .inl rfl
    | cons t r0=>exact .inr ⟨t,r0,rfl,fun h=>by simp [h] at hc0; omega⟩)
  refine Cs (Cr ?_)
  refine V0 (Ya rfl) ?_
  refine Ln (Et (Crt (Er ?_)))
  refine WE.ret1 rfl rfl fun w' hw=>?_
  exact ⟨0,r,l,rfl,hno,hm,hw⟩
 ·
  obtain ⟨t,r0,rfl⟩:∃t r0,l=t::r0:=by
    cases l with
    | nil=>simp at hc0
    | cons t r0=>exact ⟨t,r0,rfl⟩
  obtain ⟨pbt,pot,hat,hrt⟩:=hm.elt 0 t rfl
  have hrt:RdC HT pbt (pot+0*3) t.cells:=hrt
  have hk:t.kind=2:=by simp at hc0; exact hc0.2
  have hyes:=numE_c (r:=r0) hk
  have hd1:=hd1 (by simp)
  refine Ck (Et (Cs (Cr ?_)))
  refine V0 (Ym rfl) ?_
  refine V0 (yl_nil rfl) ?_
  refine V0 (Yf fo105_0 rfl) ?_
  refine V0 (Yd 0 rfl rfl rfl na61) ?_
  refine V0 (Yo (i:=0) es61 rfl rfl hat (by simp)) ?_
  refine V0 (Yf fo66_1 rfl) ?_
  refine V0 (yl_ld 0 na3 rfl rfl (hrt 1 _ rfl)) ?_
  refine V0 (Ya rfl) ?_
  refine Ln (Et (Cs (Cr ?_)))
  refine V0 (Ym rfl) ?_
  refine V0 (Ym rfl) ?_
  refine V0 (yl_nil rfl) ?_
  refine V0 (Yf fo105_0 rfl) ?_
  refine V0 (Yd 0 rfl rfl rfl na61) ?_
  refine V0 (yl_slln 1 es61 rfl rfl rfl (by simp) hcap) ?_
  refine V0 (yl_nil rfl) ?_
  refine V0 (Yf fo105_0 rfl) ?_
  refine Lst 0 (.inl rfl) rfl rfl rfl sz61 rfl rfl rfl ?_
  refine Ln (Et (Cs (Cr ?_)))
  refine V0 (Ym rfl) ?_
  refine V0 (Ya rfl) ?_
  refine Ln (Et (Crt ?_))
  refine WE.ret1 rfl rfl fun w' hw=>?_
  exact ⟨_,(if r.2-1=0 then r.1 else r.1.map (·.add (1*3)),r.2-1),r0,rfl,hyes,hd1,hw⟩
theorem eref_any (gb:Nat) (HT:View) (r:Option Addr×Nat) (l:Tk) (w:World) (hm:Sl rdTok 3 HT r.1 r.2 l) (hw:Ws w (List.flatMap Asr.ids (eyeL gb r l)) (eyeL gb r l) [HT] w) :
   Calls Tryz.prog 107 #[.pointer (some ⟨gb,0,none⟩)] w fun e w'=>∃(p:Tx×Tx) (r2:Option Addr×Nat) (q:Tk),e = .returned (.tuple #[st p.1,st p.2])∧refE l=(p,q)∧Sl rdTok 3 HT r2.1 r2.2 q∧Ws w (List.flatMap Asr.ids (eyeL gb r l)) (eyeL gb r2 q) [HT] w':=by
 refine enter Tryz.func107 rfl 13 rfl rfl ?_
 refine CWd (W':=Ws w (List.flatMap Asr.ids (eyeL gb r l)) (eyeL gb r l) [HT]) (fun _ e=>by subst e; exact hw) ?_
 refine Cs (Cr ?_)
 refine V0 (Ya rfl) ?_
 refine V0 (Ya rfl) ?_
 refine Ln (Et (Cs (Cr ?_)))
 refine V0 (Ym rfl) ?_
 refine Lf 0 rfl ?_
 refine Lw (ι:=(Tx)×(Option Addr×Nat)×Tk) [_] _ (.inl rfl) rfl en61 rfl rfl (fun i=>st i.1) (fun i=>eyeL gb i.2.1 (i.2.2)) (fun i=>namE (l)=(i.1,i.2.2)∧Sl rdTok 3 HT i.2.1.1 i.2.1.2 i.2.2) [HT] (by simp) (fun w hw=>(ename_any gb HT r (l) w hm hw).mono fun e w' ⟨t,r2,q,h1,h2,h3,h4⟩=>⟨(t,r2,q),h1,⟨h2,h3⟩,h4⟩) ?_
 intro ⟨s6,r6,q6⟩ ⟨hq6,hm6⟩
 simp only at hq6
 refine V0 (Ya rfl) ?_
 refine Ln (Et (Cs (Cs (Cr ?_))))
 refine V0 (Ym rfl) ?_
 refine Lf 0 rfl ?_
 refine Lw (ι:=Bool×(Option Addr×Nat)×Tk) [_] _ (.inl rfl) rfl en60 rfl rfl (fun i=>.bool i.1) (fun i=>eyeL gb i.2.1 (i.2.2)) (fun i=>(i.1=true→takT [46] (q6)=some i.2.2)∧(i.1=false→takT [46] (q6)=none∧q6=i.2.2)∧i.2.2=takE [46] (q6)∧i.1=(takT [46] (q6)).isSome∧Sl rdTok 3 HT i.2.1.1 i.2.1.2 i.2.2) [HT] (by simp) (fun w hw=>take_any gb HT r6 (q6) [46] w hm6 hw) ?_
 intro ⟨b8,r8,q8⟩ ⟨h8t,h8f,hq8,hb8,hm8⟩
 simp only at hq8 hb8
 refine Ln (Et ?_)
 refine Cc rfl (fun hc0=>?_) (fun hc0=>?_)
 ·
  have ht8:takT _ _=some q8:=h8t hc0
  refine Cs (Cr ?_)
  refine V0 (Ym rfl) ?_
  refine V0 (Ym rfl) ?_
  refine Lf 0 rfl ?_
  refine Lw (ι:=(Tx)×(Option Addr×Nat)×Tk) [_] _ (.inl rfl) rfl en61 rfl rfl (fun i=>st i.1) (fun i=>eyeL gb i.2.1 (i.2.2)) (fun i=>namE (q8)=(i.1,i.2.2)∧Sl rdTok 3 HT i.2.1.1 i.2.1.2 i.2.2) [HT] (by simp) (fun w hw=>(ename_any gb HT r8 (q8) w hm8 hw).mono fun e w' ⟨t,r2,q,h1,h2,h3,h4⟩=>⟨(t,r2,q),h1,⟨h2,h3⟩,h4⟩) ?_
  intro ⟨s11,r11,q11⟩ ⟨hq11,hm11⟩
  simp only at hq11
  refine V0 (Ya rfl) ?_
  refine V0 (Ya rfl) ?_
  refine Ln (Et (Crt (Er ?_)))
  refine WE.ret2 rfl rfl rfl fun w' hw=>?_
  exact ⟨(s6,s11),r11,q11,rfl,by unfold refE; rw [hq6]; simp only; rw [ht8]; simp only; rw [hq11],hm11,hw⟩
 ·
  obtain ⟨hn8,hl8⟩:=h8f hc0
  simp only at hl8
  refine Ck (Et (Cs (Cr ?_)))
  refine V0 (Ym rfl) ?_
  refine V0 (Ya rfl) ?_
  refine V0 (Ya rfl) ?_
  refine Ln (Et (Crt ?_))
  refine WE.ret2 rfl rfl rfl fun w' hw=>?_
  exact ⟨([],s6),r8,q8,rfl,by unfold refE; rw [hq6]; simp only; rw [hn8]; simp only; rw [hl8],hm8,hw⟩
end Go.Proofs.YtjfldjidhkfnbaaGreatDoor
end
section
namespace Go.Proofs.YtjfldjidhkfnbaaGreatDoor
open Go.Bw
set_option linter.unusedVariables false
set_option linter.unusedSimpArgs false
def EyeE (HT:View) (f:Nat):Prop:=∀(gb:Nat) (r:Option Addr×Nat) (l:Tk) (d:Nat) (w:World),f+d=8→Sl rdTok 3 HT r.1 r.2 l→Ws w (List.flatMap Asr.ids (eyeL gb r l)) (eyeL gb r l) [HT] w→
 Calls Tryz.prog 106 #[.pointer (some ⟨gb,0,none⟩),.int .i64 (d:Int)] w fun e w'=>∃(x:TExpr) (s:Option Addr×Nat) (r2:Option Addr×Nat) (q:Tk),e = .returned (.agg #[.int .i64 (x).op,.int .i64 (x).n,st (x).mod,st (x).nm,.slice s.1 (x).args.length s.2])∧exprE f l=(x,q)∧Sl (RdE f) 5 (nv w w') s.1 s.2 x.args∧Sl rdTok 3 HT r2.1 r2.2 q∧Ws w (List.flatMap Asr.ids (eyeL gb r l)) (eyeL gb r2 q) [HT] w'
structure GE where
 es:List XE
 a:Option Addr
 c:Nat
 J:View
 r:Option Addr×Nat
 q:Tk
 more:Bool
theorem listE_1 {pe:Tk→TExpr×Tk} {l r:Tk} (h:takT [41] l=some r):listE pe l=([],r):=by unfold listE; rw [h]
theorem listE_2 {pe:Tk→TExpr×Tk} {l q:Tk} {xs:List TExpr} (h:takT [41] l=none) (h2:listL pe 4 l=(xs,q)):listE pe l=(xs,takE [41] q):=by unfold listE; rw [h,h2]
theorem listL_1 {pe:Tk→TExpr×Tk} {n:Nat} {l q r:Tk} {x:TExpr} (h:pe l=(x,q)) (h2:takT [44] q=some r):listL pe (n+1) l=(x::(listL pe n r).1,(listL pe n r).2):=by rw [listL,h]; simp only; rw [h2]
theorem listL_2 {pe:Tk→TExpr×Tk} {n:Nat} {l q:Tk} {x:TExpr} (h:pe l=(x,q)) (h2:takT [44] q=none):listL pe (n+1) l=([x],q):=by rw [listL,h]; simp only; rw [h2]
theorem opE_hit {i:Nat} {k:Int} {w:Tx} {l q:Tk} (h:opsL[i]? = some w) (hq:takT w l=some q):opE (opsL.drop i) k l=(k,q):=by rw [drop_get h,opE,hq]
theorem opE_miss {i:Nat} {k:Int} {w:Tx} {l:Tk} (h:opsL[i]? = some w) (hq:takT w l=none):opE (opsL.drop i) k l=opE (opsL.drop (i+1)) (k+1) l:=by rw [drop_get h,opE,hq]
theorem en106:Enters Tryz.prog 106:=enters_of Tryz.func106 (by kernel_rfl) rfl
theorem elist_any (gb:Nat) (HT:View) (r:Option Addr×Nat) (l:Tk) (f d:Nat) (w:World) (hE:EyeE HT f) (hfd:f+d=8) (hm:Sl rdTok 3 HT r.1 r.2 l) (hw:Ws w (List.flatMap Asr.ids (eyeL gb r l)) (eyeL gb r l) [HT] w) :
   Calls Tryz.prog 108 #[.pointer (some ⟨gb,0,none⟩),.int .i64 (d:Int)] w fun e w'=>∃(xs:List TExpr) (s:Option Addr×Nat) (r2:Option Addr×Nat) (q:Tk),e = .returned (.slice s.1 xs.length s.2)∧listE (exprE f) l=(xs,q)∧Sl (RdE (f+1)) 5 (nv w w') s.1 s.2 xs∧Sl rdTok 3 HT r2.1 r2.2 q∧Ws w (List.flatMap Asr.ids (eyeL gb r l)) (eyeL gb r2 q) [HT] w':=by
 refine enter Tryz.func108 rfl 26 rfl rfl ?_
 refine CWd (W':=Ws w (List.flatMap Asr.ids (eyeL gb r l)) (eyeL gb r l) [HT]) (fun _ e=>by subst e; exact hw) ?_
 refine Cs (Cr ?_)
 refine V0 (Ya rfl) ?_
 refine Ln (Et (Cs (Cr ?_)))
 refine V0 (Ya rfl) ?_
 refine LW (fun _ h=>h.osl_nil 81 5) ?_
 refine WL.v0 ?_
 refine Ln (Et (Cs (Cs (Cr ?_))))
 refine V0 (Ym rfl) ?_
 refine Lf 1 rfl ?_
 refine Lw (ι:=Bool×(Option Addr×Nat)×Tk) [_] _ (.inl rfl) rfl en60 rfl rfl (fun i=>.bool i.1) (fun i=>eyeL gb i.2.1 (i.2.2)) (fun i=>(i.1=true→takT [41] (l)=some i.2.2)∧(i.1=false→takT [41] (l)=none∧l=i.2.2)∧i.2.2=takE [41] (l)∧i.1=(takT [41] (l)).isSome∧Sl rdTok 3 HT i.2.1.1 i.2.1.2 i.2.2) [HT] (by simp) (fun w hw=>take_any gb HT r (l) [41] w hm hw) ?_
 intro ⟨b8,r8,q8⟩ ⟨h8t,h8f,hq8,hb8,hm8⟩
 simp only at hq8 hb8
 refine Ln (Et ?_)
 refine Cc rfl (fun hc0=>?_) (fun hc0=>?_)
 ·
  have ht8:takT _ _=some q8:=h8t hc0
  refine Cs (Cr ?_)
  refine V0 (Ya rfl) ?_
  refine Ln (Et (Crt (Er ?_)))
  refine WE.ret1 rfl rfl fun w' hw=>?_
  exact ⟨[],(none,0),r8,q8,rfl,listE_1 ht8,Sl.nil,hm8,Ws.drops (Ws.keep (L:=[_]) hw) (fun _ hm=>List.mem_append_right [_] hm)⟩
 ·
  obtain ⟨hn8,hl8⟩:=h8f hc0
  simp only at hl8
  refine Ck (Et (Cs (Cs (Cr ?_))))
  refine V0 (Ya rfl) ?_
  refine Ln (Et (Cb ?_))
  refine CK (ι:=GE) (fun g=>[(5,.slice g.a g.es.length g.c),(6,.bool g.more)]) [(0,_),(1,_),(4,_)] (fun g=>Ws w (List.flatMap Asr.ids (eyeL gb r l)) (eyeL gb g.r g.q++[osT 81 5 XE.cells g.a g.c g.es]) [g.J,HT]) (fun g=>g.es.length≤4∧Sl rdTok 3 HT g.r.1 g.r.2 g.q∧(Fresh w g.J∧XEs g.J f g.es)∧listL (exprE f) 4 l=(if g.more=true then (g.es.map (·.1)++(listL (exprE f) (4-g.es.length) g.q).1,(listL (exprE f) (4-g.es.length) g.q).2) else (g.es.map (·.1),g.q))) (fun g=>(if g.more=true then 1 else 0)+(4-g.es.length)) ⟨[],none,0,v0,r8,q8,true⟩ ⟨Nat.zero_le _,hm8,⟨v0_fresh w,XEs.nil _ _⟩,by simp only [←hl8]; simp⟩ (sc rfl (sc rfl (sc rfl (sc rfl (sc rfl sn))))) (fun _ h=>by have h:=h.fronti 1 rfl; have h:=h.fronti 1 rfl; have h:=Ws.drops h (Vs':=[v0,HT]) (by simp); exact h) ?_
  intro g ⟨hle4,hmg,⟨hfJ,hXE⟩,hA⟩
  refine Cs (Cs (Cr ?_))
  refine V0 (Ym rfl) ?_
  refine V0 (Ym rfl) ?_
  apply WL.and 3 (x:=decide ((g.es.length:Int)≤3)) rfl rfl rfl rfl (.inl rfl) rfl rfl rfl rfl rfl
  ·
   intro hg0
   refine Lv (.g rfl rfl rfl) rfl (Ym rfl) ?_
   refine Lv (.g rfl rfl rfl) rfl (Yn es41 rfl) ?_
   refine Lv (.g rfl rfl rfl) rfl (yl_le rfl rfl) ?_
   exact Gt 3 rfl rfl rfl
  refine Ln (Et ?_)
  refine Cc rfl (fun hc1=>?_) (fun hc1=>?_)
  ·
   have hmo:g.more=true∧g.es.length≤3:=by simp at hc1; exact ⟨hc1.1,by omega⟩
   obtain ⟨n,hn⟩:∃n,4-g.es.length=n+1:=⟨3-g.es.length,by omega⟩
   rw [if_pos hmo.1,hn] at hA
   refine Ck (Et (Cs (Cb (Cr ?_))))
   refine V0 (Ym rfl) ?_
   refine V0 (Ym rfl) ?_
   refine V0 (Ym rfl) ?_
   refine Lf 0 rfl ?_
   refine Lwd (ι:=((TExpr)×(Option Addr×Nat))×(Option Addr×Nat)×Tk) [_] _ (.inl rfl) rfl en106 rfl rfl (fun i=>.agg #[.int .i64 (i.1.1).op,.int .i64 (i.1.1).n,st (i.1.1).mod,st (i.1.1).nm,.slice i.1.2.1 (i.1.1).args.length i.1.2.2]) (fun i=>eyeL gb i.2.1 (i.2.2)) (fun F i=>exprE f (g.q)=(i.1.1,i.2.2)∧Sl (RdE f) 5 F i.1.2.1 i.1.2.2 i.1.1.args∧Sl rdTok 3 HT i.2.1.1 i.2.1.2 i.2.2) ([HT]) (by simp) (fun _ _ h=>h) (fun w hw=>(hE gb g.r (g.q) d w (by omega) hmg hw).mono fun e w' ⟨x,s,r2,q,h1,h2,h3,h4,h5⟩=>⟨((x,s),r2,q),h1,⟨h2,h3,h4⟩,h5⟩) ?_
   intro F20 ⟨⟨x20,s20⟩,r20,q20⟩ hf20 ⟨hq20,hx20,hm20⟩
   simp only at hq20
   refine WL.vjoin fun J20 j20a j20b j20f=>?_
   refine Lb (.inl rfl) rfl el41 rfl rfl rfl rfl fun b21=>?_
   refine Lrb 0 (.cells (XE.cells (x20,s20.1,s20.2)).toArray 81 (0,0)) rfl rfl ?_
   refine LA ((x20,s20.1,s20.2):XE) 2 0 (.inl rfl) rfl el41 rfl rfl rfl rfl rfl rfl (by omega) (by omega) fun a22 c22=>?_
   refine V0 (Ya rfl) ?_
   refine Ln (Eb (Et (Cr ?_)))
   refine V0 (Ym rfl) ?_
   refine Lf 1 rfl ?_
   refine Lw (ι:=Bool×(Option Addr×Nat)×Tk) [_] _ (.inl rfl) rfl en60 rfl rfl (fun i=>.bool i.1) (fun i=>eyeL gb i.2.1 (i.2.2)) (fun i=>(i.1=true→takT [44] (q20)=some i.2.2)∧(i.1=false→takT [44] (q20)=none∧q20=i.2.2)∧i.2.2=takE [44] (q20)∧i.1=(takT [44] (q20)).isSome∧Sl rdTok 3 HT i.2.1.1 i.2.1.2 i.2.2) [HT] (by simp) (fun w hw=>take_any gb HT r20 (q20) [44] w hm20 hw) ?_
   intro ⟨b16,r16,q16⟩ ⟨h16t,h16f,hq16,hb16,hm16⟩
   simp only at hq16 hb16
   refine V0 (Ya rfl) ?_
   refine Ln ?_
   exact Ea (⟨g.es++[(x20,s20.1,s20.2)],a22,c22,J20,r16,q16,b16⟩:GE) (by show (if b16=true then 1 else 0)+(4-(g.es++[(x20,s20.1,s20.2)]).length)<(if g.more=true then 1 else 0)+(4-g.es.length); rw [if_pos hmo.1,List.length_append,List.length_singleton]; split<;>omega) ⟨by simp; omega,hm16,⟨j20f _ hf20 hfJ,XEs.snoc hXE j20b j20a hx20⟩,by
       have e1:4-(g.es++[((x20,s20.1,s20.2):XE)]).length=n:=by simp; omega
       show listL (exprE f) 4 l=if b16=true then ((g.es++[((x20,s20.1,s20.2):XE)]).map (·.1)++(listL (exprE f) (4-(g.es++[((x20,s20.1,s20.2):XE)]).length) q16).1,(listL (exprE f) (4-(g.es++[((x20,s20.1,s20.2):XE)]).length) q16).2) else ((g.es++[((x20,s20.1,s20.2):XE)]).map (·.1),q16)
       rw [e1,hA]
       cases hb:b16 with
       | true=>rw [listL_1 hq20 (h16t hb)]; simp
       | false=>rw [listL_2 hq20 (h16f hb).1]; simp; exact (h16f hb).2⟩ (sc rfl (sc rfl (sc rfl (sc rfl (sc rfl sn))))) (fun _ h=>by
       have h:=h.fronti 2 rfl
       have h:=h.fronti 1 rfl
       have h:=Ws.keep (L:=[_,_]) h
       have h:=Ws.drops h (Vs':=[J20,HT]) (by simp)
       exact h)
  ·
   have hmo:¬(g.more=true∧g.es.length≤3):=by
     rintro ⟨h1,h2⟩
     simp [h1] at hc1
     omega
   have hL:listL (exprE f) 4 l=(g.es.map (·.1),g.q):=by
     cases hmr:g.more with
     | false=>rw [hmr] at hA; exact hA
     | true=>
       rw [hmr,if_pos rfl,show 4-g.es.length=0 by have:¬g.es.length≤3:=fun h=>hmo ⟨hmr,h⟩; omega] at hA
       rw [hA]; simp [listL]
   refine Ce (Ex (Ex (Ebh (Et (Cs ?_)))))
   refine Cr ?_
   refine V0 (Ym rfl) ?_
   refine Lf 0 rfl ?_
   refine Lw (ι:=Bool×(Option Addr×Nat)×Tk) [_] _ (.inl rfl) rfl en60 rfl rfl (fun i=>.bool i.1) (fun i=>eyeL gb i.2.1 (i.2.2)) (fun i=>(i.1=true→takT [41] (g.q)=some i.2.2)∧(i.1=false→takT [41] (g.q)=none∧g.q=i.2.2)∧i.2.2=takE [41] (g.q)∧i.1=(takT [41] (g.q)).isSome∧Sl rdTok 3 HT i.2.1.1 i.2.1.2 i.2.2) [HT] (by simp) (fun w hw=>take_any gb HT g.r (g.q) [41] w hmg hw) ?_
   intro ⟨b24,r24,q24⟩ ⟨h24t,h24f,hq24,hb24,hm24⟩
   simp only at hq24 hb24
   refine Ln (Et (Cs ?_))
   refine WC.oslN (rd:=rdXE) 1 rfl (fun k hk=>by simp [glassL,blk] at hk; subst hk; simp [outOf,glassL,blk,osl]) XE.cells_len (fun _ _ _ _ h=>h) fun K9 fK9 hK9=>?_
   refine Cr ?_
   refine V0 (Ym rfl) ?_
   refine V0 (Ya rfl) ?_
   refine Ln (Et (Crt ?_))
   refine WE.ret1 rfl rfl fun w' hw=>?_
   exact ⟨g.es.map (·.1),(g.a,g.c),r24,q24,by rw [List.length_map],by rw [listE_2 hn8 hL]; rw [hq24],slE_of hK9 (nv_vs hw (by simp) fK9) (nv_vs hw (by simp) hfJ) hXE,hm24,(Ws.drops hw (fun _ hm=>List.mem_append_right [_,_] hm))⟩
end Go.Proofs.YtjfldjidhkfnbaaGreatDoor
end
section
namespace Go.Proofs.YtjfldjidhkfnbaaGreatDoor
open Go.Bw
set_option linter.unusedVariables false
set_option linter.unusedSimpArgs false
structure GO where
 j:Nat
 o:Int
 r:Option Addr×Nat
 q:Tk
theorem restE_1 {pe:Tk→TExpr×Tk} {l q:Tk} (h:takT [105,110] l=some q):restE pe l=(TExpr.mk 2 0 [] [] [],q):=by unfold restE; rw [show w_in=[105,110] from rfl,h]
theorem restE_2 {pe:Tk→TExpr×Tk} {l q:Tk} (h1:takT [105,110] l=none) (h:takT [33] l=some q):restE pe l=(TExpr.mk 6 0 [] [] [(pe q).1],(pe q).2):=by unfold restE; rw [show w_in=[105,110] from rfl,h1]; simp only; rw [h]
theorem restE_3 {pe:Tk→TExpr×Tk} {l q:Tk} (h1:takT [105,110] l=none) (h2:takT [33] l=none) (h:takT [40] l=some q):restE pe l=twoE pe q:=by unfold restE; rw [show w_in=[105,110] from rfl,h1]; simp only; rw [h2]; simp only; rw [h]
theorem restE_4 {pe:Tk→TExpr×Tk} {l q:Tk} {p:Tx×Tx} (h1:takT [105,110] l=none) (h2:takT [33] l=none) (h:takT [40] l=none) (h4:refE l=(p,q)):restE pe l=tailE pe p.1 p.2 q:=by unfold restE; rw [show w_in=[105,110] from rfl,h1]; simp only; rw [h2]; simp only; rw [h,h4]
theorem tailE_1 {pe:Tk→TExpr×Tk} {mod nm:Tx} {l q:Tk} (h:takT [91] l=some q):tailE pe mod nm l=(TExpr.mk 4 0 mod nm [(pe q).1],takE [93] (pe q).2):=by unfold tailE; rw [h]
theorem tailE_2 {pe:Tk→TExpr×Tk} {mod nm:Tx} {l q:Tk} (h1:takT [91] l=none) (h:takT [40] l=some q):tailE pe mod nm l=(TExpr.mk 5 0 mod nm (listE pe q).1,(listE pe q).2):=by unfold tailE; rw [h1]; simp only; rw [h]
theorem tailE_3 {pe:Tk→TExpr×Tk} {mod nm:Tx} {l:Tk} (h1:takT [91] l=none) (h:takT [40] l=none):tailE pe mod nm l=(TExpr.mk 3 0 mod nm [],l):=by unfold tailE; rw [h1]; simp only; rw [h]
theorem twoE_is {pe:Tk→TExpr×Tk} {l q1 q2 q3:Tk} {a b:TExpr} {o:Int} (h1:pe l=(a,q1)) (h2:opE opsL 7 q1=(o,q2)) (h3:pe q2=(b,q3)):twoE pe l=(TExpr.mk o 0 [] [] [a,b],takE [41] q3):=by unfold twoE; rw [h1]; simp only; rw [h2]; simp only; rw [h3]
theorem exprE_0 {f d:Nat} {l:Tk} (hf:f+d=8) (h:7<d∨l=[]):exprE f l=(TExpr.mk 0 0 [] [] [],l):=by
 rcases h with h | rfl
 · obtain rfl:f=0:=by omega
   rfl
 · cases f<;>rfl
theorem exprE_num {f:Nat} {t:Tok} {r:Tk} (h:t.kind=2):exprE (f+1) (t::r)=(TExpr.mk 1 t.n [] [] [],r):=by rw [exprE,if_pos h]
theorem exprE_rest {f:Nat} {t:Tok} {r:Tk} (h:¬t.kind=2):exprE (f+1) (t::r)=restE (exprE f) (t::r):=by rw [exprE,if_neg h]
theorem en62:Enters Tryz.prog 62:=enters_of Tryz.func62 (by kernel_rfl) rfl
theorem en107:Enters Tryz.prog 107:=enters_of Tryz.func107 (by kernel_rfl) rfl
theorem en108:Enters Tryz.prog 108:=enters_of Tryz.func108 (by kernel_rfl) rfl
theorem eexpr_any (HT:View) (f:Nat) (gb:Nat) (r:Option Addr×Nat) (l:Tk) (d:Nat) (w:World) (hfd:f+d=8) (hm:Sl rdTok 3 HT r.1 r.2 l) (hw:Ws w (List.flatMap Asr.ids (eyeL gb r l)) (eyeL gb r l) [HT] w) :
   Calls Tryz.prog 106 #[.pointer (some ⟨gb,0,none⟩),.int .i64 (d:Int)] w fun e w'=>∃(x:TExpr) (s:Option Addr×Nat) (r2:Option Addr×Nat) (q:Tk),e = .returned (.agg #[.int .i64 (x).op,.int .i64 (x).n,st (x).mod,st (x).nm,.slice s.1 (x).args.length s.2])∧exprE f l=(x,q)∧Sl (RdE f) 5 (nv w w') s.1 s.2 x.args∧Sl rdTok 3 HT r2.1 r2.2 q∧Ws w (List.flatMap Asr.ids (eyeL gb r l)) (eyeL gb r2 q) [HT] w':=by
 induction f using Nat.strongRecOn generalizing gb r l d w
 rename_i f ih
 have hcap:=hm.cap
 have hmax:=hm.max
 refine enter Tryz.func106 rfl 107 rfl rfl ?_
 refine CWd (W':=Ws w (List.flatMap Asr.ids (eyeL gb r l)) (eyeL gb r l) [HT]) (fun _ e=>by subst e; exact hw) ?_
 refine Cs (Cr ?_)
 refine WL.alloc (.inl rfl) rfl zr81 fun b4=>?_
 refine Lrb 0 (.cells (exprV (TExpr.mk 0 0 [] [] []) none 0).toArray 81 (0,0)) rfl rfl ?_
 refine Ln (Et (Cs (Cs (Cr ?_))))
 refine V0 (Ym rfl) ?_
 refine V0 (yl_gt rfl rfl) ?_
 refine V0 (Ym rfl) ?_
 apply WL.or 6 rfl rfl rfl rfl (.inl rfl) rfl rfl rfl rfl rfl
 ·
  intro hg0
  refine Lv (.g rfl rfl rfl) rfl (Ym rfl) ?_
  refine Lv (.g rfl rfl rfl) rfl (yl_nil rfl) ?_
  refine Lv (.g rfl rfl rfl) rfl (Yf fo105_0 rfl) ?_
  refine Lv (.g rfl rfl rfl) rfl (Yd 1 rfl rfl rfl na61) ?_
  refine Lv (.g rfl rfl rfl) rfl (Yn es61 rfl) ?_
  refine Lv (.g rfl rfl rfl) rfl (yl_eq rfl rfl) ?_
  exact Gt 6 rfl rfl rfl
 refine Ln (Et ?_)
 refine Cc rfl (fun hc0=>?_) (fun hc0=>?_)
 ·
  have hno:exprE f l=(TExpr.mk 0 0 [] [] [],l):=exprE_0 hfd (by
    simp at hc0
    rcases hc0 with h | h
    · left; omega
    · right; exact h)
  refine Cs (Cr ?_)
  refine V0 (Yb zr81 pl81 rfl rfl) ?_
  refine Lst 0 (.inl rfl) rfl rfl rfl sz81 rfl rfl rfl ?_
  refine Ln (Et (Crt (Er ?_)))
  refine WE.retR (rs_1 rfl (rv_agg 0 rfl rfl ag81 rfl)) fun w' hw=>?_
  exact ⟨TExpr.mk 0 0 [] [] [],(none,0),r,l,rfl,hno,Sl.nil,hm,Ws.drop (L:=[_]) hw⟩
 ·
  have hd6:¬7<d:=by
    intro h
    have h2:(7:Int)<(d:Int):=by omega
    simp [h2] at hc0
  obtain ⟨f,rfl⟩:∃k,f=k+1:=⟨f-1,by omega⟩
  obtain ⟨t0,r0,rfl⟩:∃t r,l=t::r:=by
    cases l with
    | nil=>simp at hc0
    | cons t r=>exact ⟨t,r,rfl⟩
  obtain ⟨pbt,pot,hat,hrt⟩:=hm.elt 0 t0 rfl
  have hrt:RdC HT pbt (pot+0*3) t0.cells:=hrt
  have hE:EyeE HT f:=fun gb r l d w h1 h2 h3=>ih f (by omega) gb r l d w h1 h2 h3
  refine Ck (Et (Cs (Cb (Cs (Cr ?_)))))
  refine V0 (Ym rfl) ?_
  refine V0 (yl_nil rfl) ?_
  refine V0 (Yf fo105_0 rfl) ?_
  refine V0 (Yd 1 rfl rfl rfl na61) ?_
  refine V0 (Yo (i:=0) es61 rfl rfl hat (by simp)) ?_
  refine V0 (Yf fo66_0 rfl) ?_
  refine V0 (yl_ld 0 na3 rfl rfl (hrt 0 _ rfl)) ?_
  refine V0 (yl_eq rfl rfl) ?_
  refine V0 (Ya rfl) ?_
  refine Ln (Et ?_)
  refine Cc rfl (fun hc1=>?_) (fun hc1=>?_)
  ·
   have hk:t0.kind=2:=by simpa using hc1
   refine Cs (Cr ?_)
   refine V0 (Ym rfl) ?_
   refine Lf 1 rfl ?_
   refine Lw (ι:=(Int)×(Option Addr×Nat)×Tk) [_] _ (.inl rfl) rfl en62 rfl rfl (fun i=>.int .i64 i.1) (fun i=>eyeL gb i.2.1 (i.2.2)) (fun i=>numE ((t0::r0))=(i.1,i.2.2)∧Sl rdTok 3 HT i.2.1.1 i.2.1.2 i.2.2) [HT] (by simp) (fun w hw=>(enum_any gb HT r ((t0::r0)) w hm hw).mono fun e w' ⟨t,r2,q,h1,h2,h3,h4⟩=>⟨(t,r2,q),h1,⟨h2,h3⟩,h4⟩) ?_
   intro ⟨n31,r31,q31⟩ ⟨hq31,hm31⟩
   simp only at hq31
   rw [numE_c hk] at hq31
   injection hq31 with hn31 hq31
   subst hn31
   subst hq31
   refine V0 (Yb zr81 pl81 rfl rfl) ?_
   refine Lst 1 (.inl rfl) rfl rfl rfl sz81 rfl rfl rfl ?_
   refine Ln (Et (Crt (Ebr (Er ?_))))
   refine WE.retR (rs_1 rfl (rv_agg 1 rfl rfl ag81 rfl)) fun w' hw=>?_
   exact ⟨TExpr.mk 1 t0.n [] [] [],(none,0),r31,r0,rfl,exprE_num hk,Sl.nil,hm31,Ws.keep (L:=[_]) hw⟩
  ·
   have hk:¬t0.kind=2:=by simpa using hc1
   have hR:=exprE_rest (f:=f) (r:=r0) hk
   refine Cs (Cr ?_)
   refine V0 (Ym rfl) ?_
   refine Lf 1 rfl ?_
   refine Lw (ι:=Bool×(Option Addr×Nat)×Tk) [_] _ (.inl rfl) rfl en60 rfl rfl (fun i=>.bool i.1) (fun i=>eyeL gb i.2.1 (i.2.2)) (fun i=>(i.1=true→takT [105,110] ((t0::r0))=some i.2.2)∧(i.1=false→takT [105,110] ((t0::r0))=none∧(t0::r0)=i.2.2)∧i.2.2=takE [105,110] ((t0::r0))∧i.1=(takT [105,110] ((t0::r0))).isSome∧Sl rdTok 3 HT i.2.1.1 i.2.1.2 i.2.2) [HT] (by simp) (fun w hw=>take_any gb HT r ((t0::r0)) [105,110] w hm hw) ?_
   intro ⟨b35,r35,q35⟩ ⟨h35t,h35f,hq35,hb35,hm35⟩
   simp only at hq35 hb35
   refine V0 (Ya rfl) ?_
   refine Ln (Et ?_)
   refine Cc rfl (fun hc2=>?_) (fun hc2=>?_)
   ·
    have ht35:takT _ _=some q35:=h35t hc2
    refine Cs (Cr ?_)
    refine V0 (Yb zr81 pl81 rfl rfl) ?_
    refine Lst 1 (.inl rfl) rfl rfl rfl sz81 rfl rfl rfl ?_
    refine Ln (Et (Crt (Ebr (Er ?_))))
    refine WE.retR (rs_1 rfl (rv_agg 1 rfl rfl ag81 rfl)) fun w' hw=>?_
    exact ⟨TExpr.mk 2 0 [] [] [],(none,0),r35,q35,rfl,by rw [hR,restE_1 ht35],Sl.nil,hm35,Ws.keep (L:=[_]) hw⟩
   ·
    obtain ⟨hn35,hl35⟩:=h35f hc2
    simp only at hl35
    refine Cs (Cr ?_)
    refine V0 (Ym rfl) ?_
    refine Lf 0 rfl ?_
    refine Lw (ι:=Bool×(Option Addr×Nat)×Tk) [_] _ (.inl rfl) rfl en60 rfl rfl (fun i=>.bool i.1) (fun i=>eyeL gb i.2.1 (i.2.2)) (fun i=>(i.1=true→takT [33] (q35)=some i.2.2)∧(i.1=false→takT [33] (q35)=none∧q35=i.2.2)∧i.2.2=takE [33] (q35)∧i.1=(takT [33] (q35)).isSome∧Sl rdTok 3 HT i.2.1.1 i.2.1.2 i.2.2) [HT] (by simp) (fun w hw=>take_any gb HT r35 (q35) [33] w hm35 hw) ?_
    intro ⟨b39,r39,q39⟩ ⟨h39t,h39f,hq39,hb39,hm39⟩
    simp only at hq39 hb39
    refine V0 (Ya rfl) ?_
    refine Ln (Et ?_)
    refine Cc rfl (fun hc3=>?_) (fun hc3=>?_)
    ·
     have ht39:takT _ _=some q39:=h39t hc3
     refine Cs (Cr ?_)
     refine V0 (Ym rfl) ?_
     refine V0 (Ym rfl) ?_
     refine V0 (Yi rfl rfl rfl (by omega)) ?_
     refine Lf 0 rfl ?_
     refine Lwd (ι:=((TExpr)×(Option Addr×Nat))×(Option Addr×Nat)×Tk) [_] _ (.inl rfl) rfl en106 rfl rfl (fun i=>.agg #[.int .i64 (i.1.1).op,.int .i64 (i.1.1).n,st (i.1.1).mod,st (i.1.1).nm,.slice i.1.2.1 (i.1.1).args.length i.1.2.2]) (fun i=>eyeL gb i.2.1 (i.2.2)) (fun F i=>exprE f (q39)=(i.1.1,i.2.2)∧Sl (RdE f) 5 F i.1.2.1 i.1.2.2 i.1.1.args∧Sl rdTok 3 HT i.2.1.1 i.2.1.2 i.2.2) ([HT]) (by simp) (fun _ _ h=>h) (fun w hw=>(hE gb r39 (q39) (d+1) w (by omega) hm39 hw).mono fun e w' ⟨x,s,r2,q,h1,h2,h3,h4,h5⟩=>⟨((x,s),r2,q),h1,⟨h2,h3,h4⟩,h5⟩) ?_
     intro F43 ⟨⟨x43,s43⟩,r43,q43⟩ hf43 ⟨hq43,hx43,hm43⟩
     simp only at hq43
     refine Lb (.inl rfl) rfl el41 rfl rfl rfl rfl fun b44=>?_
     refine LN (rd:=rdXE) (f:=XE.cells) (m:=1) 0 [(x43,s43.1,s43.2)] rfl rfl (fun k hk=>by simp [glassL,blk] at hk; subst hk; simp [outOf,glassL,blk,osl]) XE.cells_len (fun _ _ _ _ h=>h) (show 1≤1 by decide) (by decide) fun H44 fH44 hH44=>?_
     refine V0 (Yb zr81 pl81 rfl rfl) ?_
     refine Lst 1 (.inl rfl) rfl rfl rfl sz81 rfl rfl rfl ?_
     refine Ln (Et (Crt (Ebr (Er ?_))))
     refine WE.retR (rs_1 rfl (rv_agg 1 rfl rfl ag81 rfl)) fun w' hw=>?_
     exact ⟨TExpr.mk 6 0 [] [] [x43],(some ⟨b44,0,none⟩,1),r43,q43,rfl,by rw [hR,hl35,restE_2 (hl35▸hn35) ht39,hq43],slE_of hH44 (nv_vs hw (by simp) fH44) (nv_vs hw (by simp) hf43) ((XEs.nil F43 f).snoc (VLe.refl _) (VLe.refl _) hx43),hm43,Ws.drops (Ws.keep (L:=[_]) hw) (fun _ hm=>List.mem_append_right [_,_] hm)⟩
    ·
     obtain ⟨hn39,hl39⟩:=h39f hc3
     simp only at hl39
     refine Cs (Cr ?_)
     refine V0 (Ym rfl) ?_
     refine Lf 0 rfl ?_
     refine Lw (ι:=Bool×(Option Addr×Nat)×Tk) [_] _ (.inl rfl) rfl en60 rfl rfl (fun i=>.bool i.1) (fun i=>eyeL gb i.2.1 (i.2.2)) (fun i=>(i.1=true→takT [40] (q39)=some i.2.2)∧(i.1=false→takT [40] (q39)=none∧q39=i.2.2)∧i.2.2=takE [40] (q39)∧i.1=(takT [40] (q39)).isSome∧Sl rdTok 3 HT i.2.1.1 i.2.1.2 i.2.2) [HT] (by simp) (fun w hw=>take_any gb HT r39 (q39) [40] w hm39 hw) ?_
     intro ⟨b48,r48,q48⟩ ⟨h48t,h48f,hq48,hb48,hm48⟩
     simp only at hq48 hb48
     refine V0 (Ya rfl) ?_
     refine Ln (Et ?_)
     refine Cc rfl (fun hc4=>?_) (fun hc4=>?_)
     ·
      have ht48:takT _ _=some q48:=h48t hc4
      refine Cs (Cr ?_)
      refine V0 (Ym rfl) ?_
      refine V0 (Ym rfl) ?_
      refine V0 (Yi rfl rfl rfl (by omega)) ?_
      refine Lf 0 rfl ?_
      refine Lwd (ι:=((TExpr)×(Option Addr×Nat))×(Option Addr×Nat)×Tk) [_] _ (.inl rfl) rfl en106 rfl rfl (fun i=>.agg #[.int .i64 (i.1.1).op,.int .i64 (i.1.1).n,st (i.1.1).mod,st (i.1.1).nm,.slice i.1.2.1 (i.1.1).args.length i.1.2.2]) (fun i=>eyeL gb i.2.1 (i.2.2)) (fun F i=>exprE f (q48)=(i.1.1,i.2.2)∧Sl (RdE f) 5 F i.1.2.1 i.1.2.2 i.1.1.args∧Sl rdTok 3 HT i.2.1.1 i.2.1.2 i.2.2) ([HT]) (by simp) (fun _ _ h=>h) (fun w hw=>(hE gb r48 (q48) (d+1) w (by omega) hm48 hw).mono fun e w' ⟨x,s,r2,q,h1,h2,h3,h4,h5⟩=>⟨((x,s),r2,q),h1,⟨h2,h3,h4⟩,h5⟩) ?_
      intro F52 ⟨⟨x52,s52⟩,r52,q52⟩ hf52 ⟨hq52,hx52,hm52⟩
      simp only at hq52
      refine WL.alloc (.inl rfl) rfl zr81 fun b5=>?_
      refine Lst 0 (.inl rfl) rfl rfl rfl sz81 rfl rfl rfl ?_
      refine Ln (Et (Cs (Cr ?_)))
      refine V0 (Ya rfl) ?_
      refine Ln (Et (Cs (Cs (Cr ?_))))
      refine V0 (Ya rfl) ?_
      refine Ln (Et (Cb ?_))
      refine CK (ι:=GO) (fun g=>[(7,.int .i64 (g.j:Int)),(6,.int .i64 g.o)]) [(0,_),(1,_),(4,_),(5,_)] (fun g=>Ws w (List.flatMap Asr.ids (eyeL gb r (t0::r0))) (eyeL gb g.r g.q++[blk b5 (.cells (XE.cells (x52,s52.1,s52.2)).toArray 81 (0,0)),blk b4 (.cells (exprV (TExpr.mk 0 0 [] [] []) none 0).toArray 81 (0,0))]) [F52,HT]) (fun g=>(7≤g.j∧g.j≤16)∧((g.o=0∧g.q=q52∧opE opsL 7 q52=opE (opsL.drop (g.j-7)) (g.j:Int) q52)∨(g.o≠0∧opE opsL 7 q52=(g.o,g.q)))∧Sl rdTok 3 HT g.r.1 g.r.2 g.q) (fun g=>16-g.j) ⟨7,0,r52,q52⟩ ⟨⟨Nat.le_refl 7,(show 7≤16 by decide)⟩,.inl ⟨rfl,rfl,rfl⟩,hm52⟩ (sc rfl (sc rfl (sc rfl (sc rfl (sc rfl (sc rfl sn)))))) (fun _ h=>by have h:=h.fronti 2 rfl; have h:=h.fronti 1 rfl; have h:=h.fronti 2 rfl; exact h) ?_
      intro g ⟨hi,hA,hmg⟩
      refine Cs (Cs (Cr ?_))
      refine V0 (Ym rfl) ?_
      refine V0 (yl_le rfl rfl) ?_
      refine V0 (Ym rfl) ?_
      apply WL.and 2 rfl rfl rfl rfl (.inl rfl) rfl rfl rfl rfl rfl
      ·
       intro hg1
       refine Lv (.g rfl rfl rfl) rfl (Ym rfl) ?_
       refine Lv (.g rfl rfl rfl) rfl (yl_eq rfl rfl) ?_
       exact Gt 2 rfl rfl rfl
      refine Ln (Et ?_)
      refine Cc rfl (fun hc5=>?_) (fun hc5=>?_)
      ·
       have ho0:g.j≤15∧g.o=0:=by simp at hc5; exact ⟨by omega,hc5.2⟩
       have hop:7≤(g.j:Int)∧(g.j:Int)≤15:=by omega
       obtain ⟨hgq,hA⟩:g.q=q52∧opE opsL 7 q52=opE (opsL.drop (g.j-7)) (g.j:Int) q52:=by
         rcases hA with ⟨_,h1,h2⟩ | ⟨h1,_⟩
         · exact ⟨h1,h2⟩
         · exact absurd ho0.2 h1
       have hog:=opW_get hop
       have hjt:((g.j:Int)-7).toNat=g.j-7:=by omega
       rw [hjt] at hog
       refine Ck (Et (Cs (Cb (Cs (Cr ?_)))))
       refine V0 (Ym rfl) ?_
       refine V0 (Ym rfl) ?_
       refine Lp (.inl rfl) rfl en101 rfl (fun w hw=>opSign_any _ hop w) ?_
       refine Lf 0 rfl ?_
       refine Lw (ι:=Bool×(Option Addr×Nat)×Tk) [_] _ (.inl rfl) rfl en60 rfl rfl (fun i=>.bool i.1) (fun i=>eyeL gb i.2.1 (i.2.2)) (fun i=>(i.1=true→takT (opW (g.j:Int)) (g.q)=some i.2.2)∧(i.1=false→takT (opW (g.j:Int)) (g.q)=none∧g.q=i.2.2)∧i.2.2=takE (opW (g.j:Int)) (g.q)∧i.1=(takT (opW (g.j:Int)) (g.q)).isSome∧Sl rdTok 3 HT i.2.1.1 i.2.1.2 i.2.2) [HT] (by simp) (fun w hw=>take_any gb HT g.r (g.q) (opW (g.j:Int)) w hmg hw) ?_
       intro ⟨b64,r64,q64⟩ ⟨h64t,h64f,hq64,hb64,hm64⟩
       simp only at hq64 hb64
       refine Ln (Et ?_)
       refine Cc rfl (fun hc6=>?_) (fun hc6=>?_)
       ·
        have ht64:takT _ _=some q64:=h64t hc6
        refine Cr ?_
        refine V0 (Ym rfl) ?_
        refine V0 (Ya rfl) ?_
        refine Ln (Eb (Et (Cr ?_)))
        refine V0 (Ym rfl) ?_
        refine V0 (Yi rfl rfl rfl (by omega)) ?_
        refine V0 (Ya rfl) ?_
        refine Ln ?_
        exact Ea (⟨g.j+1,(g.j:Int),r64,q64⟩:GO) (by show 16-(g.j+1)<16-g.j; omega) ⟨by show 7≤g.j+1∧g.j+1≤16; omega,.inr ⟨by show (g.j:Int)≠0; omega,by show opE opsL 7 q52=((g.j:Int),q64); rw [hA]; rw [hgq] at ht64; exact opE_hit hog ht64⟩,hm64⟩ (sc rfl (sc rfl (sc rfl (sc rfl (sc rfl (sc rfl sn)))))) (fun _ h=>h)
       ·
        obtain ⟨hn64,hl64⟩:=h64f hc6
        simp only at hl64
        refine Ck (Eb (Et (Cr ?_)))
        refine V0 (Ym rfl) ?_
        refine V0 (Yi rfl rfl rfl (by omega)) ?_
        refine V0 (Ya rfl) ?_
        refine Ln ?_
        exact Ea (⟨g.j+1,g.o,r64,q64⟩:GO) (by show 16-(g.j+1)<16-g.j; omega) ⟨by show 7≤g.j+1∧g.j+1≤16; omega,.inl ⟨ho0.2,by show q64=q52; rw [←hl64,hgq],by
            show opE opsL 7 q52=opE (opsL.drop (g.j+1-7)) ((g.j+1:Nat):Int) q52
            rw [hA]
            rw [hgq] at hn64
            rw [opE_miss hog hn64,show g.j-7+1=g.j+1-7 by omega,show ((g.j:Int)+1)=((g.j+1:Nat):Int) by omega]⟩,hm64⟩ (sc rfl (sc rfl (sc rfl (sc rfl (sc rfl (sc rfl sn)))))) (fun _ h=>h)
      ·
       have hop:opE opsL 7 q52=(g.o,g.q):=by
         rcases hA with ⟨h0,h1,h2⟩ | ⟨_,h1⟩
         · have h16:g.j=16:=by
             simp [h0] at hc5
             omega
           rw [h2,h16,h1,h0]; rfl
         · exact h1
       refine Ce (Ex (Ex (Ebh (Et (Cs ?_)))))
       refine Cr ?_
       refine V0 (Ym rfl) ?_
       refine V0 (Ym rfl) ?_
       refine V0 (Yi rfl rfl rfl (by omega)) ?_
       refine Lf 0 rfl ?_
       refine Lwd (ι:=((TExpr)×(Option Addr×Nat))×(Option Addr×Nat)×Tk) [_] _ (.inl rfl) rfl en106 rfl rfl (fun i=>.agg #[.int .i64 (i.1.1).op,.int .i64 (i.1.1).n,st (i.1.1).mod,st (i.1.1).nm,.slice i.1.2.1 (i.1.1).args.length i.1.2.2]) (fun i=>eyeL gb i.2.1 (i.2.2)) (fun F i=>exprE f (g.q)=(i.1.1,i.2.2)∧Sl (RdE f) 5 F i.1.2.1 i.1.2.2 i.1.1.args∧Sl rdTok 3 HT i.2.1.1 i.2.1.2 i.2.2) ([HT]) (by simp) (fun _ _ h=>h) (fun w hw=>(hE gb g.r (g.q) (d+1) w (by omega) hmg hw).mono fun e w' ⟨x,s,r2,q,h1,h2,h3,h4,h5⟩=>⟨((x,s),r2,q),h1,⟨h2,h3,h4⟩,h5⟩) ?_
       intro F69 ⟨⟨x69,s69⟩,r69,q69⟩ hf69 ⟨hq69,hx69,hm69⟩
       simp only at hq69
       refine WL.vjoin fun J69 j69a j69b j69f=>?_
       refine WL.alloc (.inl rfl) rfl zr81 fun b8=>?_
       refine Lst 0 (.inl rfl) rfl rfl rfl sz81 rfl rfl rfl ?_
       refine Ln (Et (Cs (Cr ?_)))
       refine V0 (Ym rfl) ?_
       refine Lf 1 rfl ?_
       refine Lw (ι:=Bool×(Option Addr×Nat)×Tk) [_] _ (.inl rfl) rfl en60 rfl rfl (fun i=>.bool i.1) (fun i=>eyeL gb i.2.1 (i.2.2)) (fun i=>(i.1=true→takT [41] (q69)=some i.2.2)∧(i.1=false→takT [41] (q69)=none∧q69=i.2.2)∧i.2.2=takE [41] (q69)∧i.1=(takT [41] (q69)).isSome∧Sl rdTok 3 HT i.2.1.1 i.2.1.2 i.2.2) [HT] (by simp) (fun w hw=>take_any gb HT r69 (q69) [41] w hm69 hw) ?_
       intro ⟨b71,r71,q71⟩ ⟨h71t,h71f,hq71,hb71,hm71⟩
       simp only at hq71 hb71
       refine Ln (Et (Cs (Cr ?_)))
       refine V0 (Ym rfl) ?_
       refine V0 (Yda 2 rfl rfl ag81 rfl) ?_
       refine V0 (Yda 1 rfl rfl ag81 rfl) ?_
       refine Lb (.inl rfl) rfl el41 rfl rfl rfl rfl fun b75=>?_
       refine LN (rd:=rdXE) (f:=XE.cells) (m:=2) 0 [(x52,s52.1,s52.2),(x69,s69.1,s69.2)] rfl rfl (fun k hk=>by simp [glassL,blk] at hk; subst hk; simp [outOf,glassL,blk,osl]) XE.cells_len (fun _ _ _ _ h=>h) (show 2≤2 by decide) (by decide) fun H75 fH75 hH75=>?_
       refine V0 (Yb zr81 pl81 rfl rfl) ?_
       refine Lst 3 (.inl rfl) rfl rfl rfl sz81 rfl rfl rfl ?_
       refine Ln (Et (Crt (Ebr (Er ?_))))
       refine WE.retR (rs_1 rfl (rv_agg 3 rfl rfl ag81 rfl)) fun w' hw=>?_
       exact ⟨TExpr.mk g.o 0 [] [] [x52,x69],(some ⟨b75,0,none⟩,2),r71,q71,rfl,by rw [hR,hl35,hl39,restE_3 (hl39▸hl35▸hn35) (hl39▸hn39) ht48,twoE_is hq52 hop hq69,hq71],slE_of hH75 (nv_vs hw (by simp) fH75) (nv_vs hw (by simp) (j69f _ hf69 hf52)) (((XEs.nil J69 f).snoc (VLe.refl _) j69b hx52).snoc (VLe.refl _) j69a hx69),hm71,Ws.drops (Ws.keep (L:=[_]) hw) (fun _ hm=>List.mem_append_right [_,_] hm)⟩
     ·
      obtain ⟨hn48,hl48⟩:=h48f hc4
      simp only at hl48
      have hz48:takT [40] q48=none:=by rw [←hl48]; exact hn48
      have hz39:takT [33] q48=none:=by rw [←hl48,←hl39]; exact hn39
      have hz35:takT [105,110] q48=none:=by rw [←hl48,←hl39,←hl35]; exact hn35
      have hR0:exprE (f+1) (t0::r0)=restE (exprE f) q48:=by rw [hR,hl35,hl39,hl48]
      refine Ck (Eb (Et (Cs (Cr ?_))))
      refine WL.alloc (.inl rfl) rfl zr81 fun b9=>?_
      refine Lrb 0 (.cells (exprV (TExpr.mk 0 0 [] [] []) none 0).toArray 81 (0,0)) rfl rfl ?_
      refine Ln (Et (Cs (Cr ?_)))
      refine V0 (Ym rfl) ?_
      refine Lf 1 rfl ?_
      refine Lw (ι:=(Tx×Tx)×(Option Addr×Nat)×Tk) [_] _ (.inl rfl) rfl en107 rfl rfl (fun i=>.tuple #[st i.1.1,st i.1.2]) (fun i=>eyeL gb i.2.1 (i.2.2)) (fun i=>refE (q48)=(i.1,i.2.2)∧Sl rdTok 3 HT i.2.1.1 i.2.1.2 i.2.2) [HT] (by simp) (fun w hw=>(eref_any gb HT r48 (q48) w hm48 hw).mono fun e w' ⟨t,r2,q,h1,h2,h3,h4⟩=>⟨(t,r2,q),h1,⟨h2,h3⟩,h4⟩) ?_
      intro ⟨p79,r79,q79⟩ ⟨hq79,hm79⟩
      simp only at hq79
      refine V0 (Ym rfl) ?_
      refine V0 (Yx rfl rfl) ?_
      refine V0 (Yx rfl rfl) ?_
      refine V0 (Yf fo81_2 rfl) ?_
      refine Lst 1 (.inl rfl) rfl rfl rfl sz9 rfl rfl rfl ?_
      refine V0 (Yf fo81_3 rfl) ?_
      refine Lst 1 (.inl rfl) rfl rfl rfl sz9 rfl rfl rfl ?_
      refine Ln (Et (Cs (Cb (Cs (Cr ?_)))))
      refine V0 (Ym rfl) ?_
      refine Lf 0 rfl ?_
      refine Lw (ι:=Bool×(Option Addr×Nat)×Tk) [_] _ (.inl rfl) rfl en60 rfl rfl (fun i=>.bool i.1) (fun i=>eyeL gb i.2.1 (i.2.2)) (fun i=>(i.1=true→takT [91] (q79)=some i.2.2)∧(i.1=false→takT [91] (q79)=none∧q79=i.2.2)∧i.2.2=takE [91] (q79)∧i.1=(takT [91] (q79)).isSome∧Sl rdTok 3 HT i.2.1.1 i.2.1.2 i.2.2) [HT] (by simp) (fun w hw=>take_any gb HT r79 (q79) [91] w hm79 hw) ?_
      intro ⟨b87,r87,q87⟩ ⟨h87t,h87f,hq87,hb87,hm87⟩
      simp only at hq87 hb87
      refine V0 (Ya rfl) ?_
      refine Ln (Et ?_)
      refine Cc rfl (fun hc7=>?_) (fun hc7=>?_)
      ·
       have ht87:takT _ _=some q87:=h87t hc7
       refine Cs (Cr ?_)
       refine V0 (Yf fo81_0 rfl) ?_
       refine Lst 1 (.inl rfl) rfl rfl rfl sz3 rfl rfl rfl ?_
       refine Ln (Et (Cs (Cr ?_)))
       refine V0 (Ym rfl) ?_
       refine V0 (Ym rfl) ?_
       refine V0 (Yi rfl rfl rfl (by omega)) ?_
       refine Lf 0 rfl ?_
       refine Lwd (ι:=((TExpr)×(Option Addr×Nat))×(Option Addr×Nat)×Tk) [_] _ (.inl rfl) rfl en106 rfl rfl (fun i=>.agg #[.int .i64 (i.1.1).op,.int .i64 (i.1.1).n,st (i.1.1).mod,st (i.1.1).nm,.slice i.1.2.1 (i.1.1).args.length i.1.2.2]) (fun i=>eyeL gb i.2.1 (i.2.2)) (fun F i=>exprE f (q87)=(i.1.1,i.2.2)∧Sl (RdE f) 5 F i.1.2.1 i.1.2.2 i.1.1.args∧Sl rdTok 3 HT i.2.1.1 i.2.1.2 i.2.2) ([HT]) (by simp) (fun _ _ h=>h) (fun w hw=>(hE gb r87 (q87) (d+1) w (by omega) hm87 hw).mono fun e w' ⟨x,s,r2,q,h1,h2,h3,h4,h5⟩=>⟨((x,s),r2,q),h1,⟨h2,h3,h4⟩,h5⟩) ?_
       intro F92 ⟨⟨x92,s92⟩,r92,q92⟩ hf92 ⟨hq92,hx92,hm92⟩
       simp only at hq92
       refine Lb (.inl rfl) rfl el41 rfl rfl rfl rfl fun b93=>?_
       refine LN (rd:=rdXE) (f:=XE.cells) (m:=1) 0 [(x92,s92.1,s92.2)] rfl rfl (fun k hk=>by simp [glassL,blk] at hk; subst hk; simp [outOf,glassL,blk,osl]) XE.cells_len (fun _ _ _ _ h=>h) (show 1≤1 by decide) (by decide) fun H93 fH93 hH93=>?_
       refine V0 (Yf fo81_4 rfl) ?_
       refine Lst 1 (.inl rfl) rfl rfl rfl sz41 rfl rfl rfl ?_
       refine Ln (Et (Cr ?_))
       refine V0 (Ym rfl) ?_
       refine Lf 0 rfl ?_
       refine Lw (ι:=Bool×(Option Addr×Nat)×Tk) [_] _ (.inl rfl) rfl en60 rfl rfl (fun i=>.bool i.1) (fun i=>eyeL gb i.2.1 (i.2.2)) (fun i=>(i.1=true→takT [93] (q92)=some i.2.2)∧(i.1=false→takT [93] (q92)=none∧q92=i.2.2)∧i.2.2=takE [93] (q92)∧i.1=(takT [93] (q92)).isSome∧Sl rdTok 3 HT i.2.1.1 i.2.1.2 i.2.2) [HT] (by simp) (fun w hw=>take_any gb HT r92 (q92) [93] w hm92 hw) ?_
       intro ⟨b96,r96,q96⟩ ⟨h96t,h96f,hq96,hb96,hm96⟩
       simp only at hq96 hb96
       refine Ln (Eb (Et (Cs (Cr ?_))))
       refine V0 (Yda 1 rfl rfl ag81 rfl) ?_
       refine Lst 2 (.inl rfl) rfl rfl rfl sz81 rfl rfl rfl ?_
       refine Ln (Et (Crt ?_))
       refine WE.retR (rs_1 rfl (rv_agg 2 rfl rfl ag81 rfl)) fun w' hw=>?_
       exact ⟨TExpr.mk 4 0 p79.1 p79.2 [x92],(some ⟨b93,0,none⟩,1),r96,q96,rfl,by rw [hR0,restE_4 hz35 hz39 hz48 hq79,tailE_1 ht87,hq92,hq96],slE_of hH93 (nv_vs hw (by simp) fH93) (nv_vs hw (by simp) hf92) ((XEs.nil F92 f).snoc (VLe.refl _) (VLe.refl _) hx92),hm96,Ws.drops (Ws.keep (L:=[_]) hw) (fun _ hm=>List.mem_append_right [_,_] hm)⟩
      ·
       obtain ⟨hn87,hl87⟩:=h87f hc7
       simp only at hl87
       refine Cs (Cr ?_)
       refine V0 (Ym rfl) ?_
       refine Lf 0 rfl ?_
       refine Lw (ι:=Bool×(Option Addr×Nat)×Tk) [_] _ (.inl rfl) rfl en60 rfl rfl (fun i=>.bool i.1) (fun i=>eyeL gb i.2.1 (i.2.2)) (fun i=>(i.1=true→takT [40] (q87)=some i.2.2)∧(i.1=false→takT [40] (q87)=none∧q87=i.2.2)∧i.2.2=takE [40] (q87)∧i.1=(takT [40] (q87)).isSome∧Sl rdTok 3 HT i.2.1.1 i.2.1.2 i.2.2) [HT] (by simp) (fun w hw=>take_any gb HT r87 (q87) [40] w hm87 hw) ?_
       intro ⟨b99,r99,q99⟩ ⟨h99t,h99f,hq99,hb99,hm99⟩
       simp only at hq99 hb99
       refine V0 (Ya rfl) ?_
       refine Ln (Et ?_)
       refine Cc rfl (fun hc8=>?_) (fun hc8=>?_)
       ·
        have ht99:takT _ _=some q99:=h99t hc8
        refine Cs (Cr ?_)
        refine V0 (Yf fo81_0 rfl) ?_
        refine Lst 1 (.inl rfl) rfl rfl rfl sz3 rfl rfl rfl ?_
        refine Ln (Et (Cr ?_))
        refine V0 (Ym rfl) ?_
        refine V0 (Ym rfl) ?_
        refine V0 (Yi rfl rfl rfl (by omega)) ?_
        refine Lf 0 rfl ?_
        refine Lwd (ι:=((List TExpr)×(Option Addr×Nat))×(Option Addr×Nat)×Tk) [_] _ (.inl rfl) rfl en108 rfl rfl (fun i=>.slice i.1.2.1 i.1.1.length i.1.2.2) (fun i=>eyeL gb i.2.1 (i.2.2)) (fun F i=>listE (exprE f) (q99)=(i.1.1,i.2.2)∧Sl (RdE (f+1)) 5 F i.1.2.1 i.1.2.2 i.1.1∧Sl rdTok 3 HT i.2.1.1 i.2.1.2 i.2.2) ([HT]) (by simp) (fun _ _ h=>h) (fun w hw=>(elist_any gb HT r99 (q99) f (d+1) w hE (by omega) hm99 hw).mono fun e w' ⟨x,s,r2,q,h1,h2,h3,h4,h5⟩=>⟨((x,s),r2,q),h1,⟨h2,h3,h4⟩,h5⟩) ?_
        intro F104 ⟨⟨xs104,s104⟩,r104,q104⟩ hf104 ⟨hq104,hx104,hm104⟩
        simp only at hq104
        refine V0 (Yf fo81_4 rfl) ?_
        refine Lst 1 (.inl rfl) rfl rfl rfl sz41 rfl rfl rfl ?_
        refine Ln (Eb (Et (Cs (Cr ?_))))
        refine V0 (Yda 1 rfl rfl ag81 rfl) ?_
        refine Lst 2 (.inl rfl) rfl rfl rfl sz81 rfl rfl rfl ?_
        refine Ln (Et (Crt ?_))
        refine WE.retR (rs_1 rfl (rv_agg 2 rfl rfl ag81 rfl)) fun w' hw=>?_
        exact ⟨TExpr.mk 5 0 p79.1 p79.2 xs104,s104,r104,q104,rfl,by rw [hR0,restE_4 hz35 hz39 hz48 hq79,hl87,tailE_2 (hl87▸hn87) ht99,hq104],slE_mv hx104 (nv_vs hw (by simp) hf104),hm104,Ws.drops (Ws.keep (L:=[_]) hw) (fun _ hm=>List.mem_append_right [_] hm)⟩
       ·
        obtain ⟨hn99,hl99⟩:=h99f hc8
        simp only at hl99
        refine Cr ?_
        refine V0 (Yf fo81_0 rfl) ?_
        refine Lst 1 (.inl rfl) rfl rfl rfl sz3 rfl rfl rfl ?_
        refine Ln (Eb (Et (Cs (Cr ?_))))
        refine V0 (Yda 1 rfl rfl ag81 rfl) ?_
        refine Lst 2 (.inl rfl) rfl rfl rfl sz81 rfl rfl rfl ?_
        refine Ln (Et (Crt ?_))
        refine WE.retR (rs_1 rfl (rv_agg 2 rfl rfl ag81 rfl)) fun w' hw=>?_
        exact ⟨TExpr.mk 3 0 p79.1 p79.2 [],(none,0),r99,q99,rfl,by rw [hR0,restE_4 hz35 hz39 hz48 hq79,hl87,hl99,tailE_3 (hl99▸hl87▸hn87) (hl99▸hn99)],Sl.nil,hm99,Ws.keep (L:=[_]) hw⟩
end Go.Proofs.YtjfldjidhkfnbaaGreatDoor
end
section
namespace Go.Proofs.YtjfldjidhkfnbaaGreatDoor
open Go.Bw
set_option linter.unusedVariables false
set_option linter.unusedSimpArgs false
structure SlS8 (f:Nat) (N:View) (x:TStmt) (p:SAt):Prop where
 args:Sl (RdE 8) 5 N p.s1.1 p.s1.2 x.args
 body:Sl (RdS 8 f) 6 N p.s2.1 p.s2.2 x.body
 other:Sl (RdS 8 f) 6 N p.s3.1 p.s3.2 x.other
theorem slS8_mv {H N:View} {f c:Nat} {a:Option Addr} {l:List TStmt} (h:Sl (RdS 8 f) 6 H a c l) (hv:VLe H N):Sl (RdS 8 f) 6 N a c l:=h.imp fun b o y hy=>RdS_mono hv (Nat.le_refl _) (Nat.le_refl _) b o y hy
theorem SlS8.mv {f:Nat} {H N:View} {x:TStmt} {p:SAt} (h:SlS8 f H x p) (hv:VLe H N):SlS8 f N x p:=⟨slE_mv h.args hv,slS8_mv h.body hv,slS8_mv h.other hv⟩
def SXs8 (J:View) (f:Nat) (es:List SX):Prop:=∀e ∈ es,SlS8 f J e.1 e.2
theorem SXs8.nil (J:View) (f:Nat):SXs8 J f []:=by intro e h; simp at h
theorem SXs8.snoc {J J1 J2:View} {f:Nat} {es:List SX} {e:SX} (h:SXs8 J f es) (h1:VLe J J2) (h2:VLe J1 J2) (he:SlS8 f J1 e.1 e.2):SXs8 J2 f (es++[e]):=by
 intro x hx
 rcases List.mem_append.1 hx with hx | hx
 · exact (h x hx).mv h1
 · rw [List.mem_singleton] at hx
   subst hx
   exact he.mv h2
theorem slS8_of {H J N:View} {f c:Nat} {a:Option Addr} {es:List SX} (h:Sl rdSX 6 H a c es) (hv:VLe H N) (hJ:VLe J N) (hes:SXs8 J f es):Sl (RdS 8 (f+1)) 6 N a c (es.map (·.1)):=by
 refine ⟨by simpa using h.cap,h.max,h.spot,fun i x hx=>?_⟩
 rw [List.getElem?_map] at hx
 obtain ⟨e,he,rfl⟩:=Option.map_eq_some_iff.1 hx
 obtain ⟨b,o,h1,h2⟩:=h.elt i e he
 have h3:=(hes e (List.mem_of_getElem? he)).mv hJ
 exact ⟨b,o,h1,e.2.s1.1,e.2.s1.2,e.2.s2.1,e.2.s2.2,e.2.s3.1,e.2.s3.2,RdC.mono hv h2,h3.args,h3.body,h3.other⟩
def EyeB (HT:View) (f:Nat):Prop:=∀(gb:Nat) (r:Option Addr×Nat) (l:Tk) (d:Nat) (w:World),f+d=7→Sl rdTok 3 HT r.1 r.2 l→Ws w (List.flatMap Asr.ids (eyeL gb r l)) (eyeL gb r l) [HT] w→
 Calls Tryz.prog 63 #[.pointer (some ⟨gb,0,none⟩),.int .i64 (d:Int)] w fun e w'=>∃(x:List TStmt) (s:Option Addr×Nat) (r2:Option Addr×Nat) (q:Tk),e = .returned (.slice s.1 x.length s.2)∧blockE f l=(x,q)∧Sl (RdS 8 f) 6 (nv w w') s.1 s.2 x∧Sl rdTok 3 HT r2.1 r2.2 q∧Ws w (List.flatMap Asr.ids (eyeL gb r l)) (eyeL gb r2 q) [HT] w'
variable {pb:Tk→List TStmt×Tk} {l r q1 q2 q3 q4:Tk} {x y:TExpr} {b o:List TStmt} {p:Tx×Tx} {xs:List TExpr}
theorem stmtE_0 (h:takT [105,102] l=some r) (h1:exprE 7 r=(x,q1)) (h2:pb q1=(b,q2)) (h3:takT [101,108,115,101] q2=some q3) (h4:pb q3=(o,q4)):stmtE pb l=(TStmt.mk 4 [] [] [x] b o,q4):=by
 unfold stmtE; rw [show w_if=[105,102] from rfl,h]; simp only; rw [h1]; simp only; rw [h2]; simp only; rw [show w_else=[101,108,115,101] from rfl,h3]; simp only; rw [h4]
theorem stmtE_1 (h:takT [105,102] l=some r) (h1:exprE 7 r=(x,q1)) (h2:pb q1=(b,q2)) (h3:takT [101,108,115,101] q2=none):stmtE pb l=(TStmt.mk 4 [] [] [x] b [],q2):=by
 unfold stmtE; rw [show w_if=[105,102] from rfl,h]; simp only; rw [h1]; simp only; rw [h2]; simp only; rw [show w_else=[101,108,115,101] from rfl,h3]
theorem stmtE_2 (n1:takT [105,102] l=none) (h:takT [119,104,105,108,101] l=some r) (h1:exprE 7 r=(x,q1)) (h2:pb q1=(b,q2)):stmtE pb l=(TStmt.mk 5 [] [] [x] b [],q2):=by
 unfold stmtE; rw [show w_if=[105,102] from rfl,n1]; simp only; rw [show w_while=[119,104,105,108,101] from rfl,h]; simp only; rw [h1]; simp only; rw [h2]
theorem stmtE_3 (n1:takT [105,102] l=none) (n2:takT [119,104,105,108,101] l=none) (h:takT [114,101,116,117,114,110] l=some r) (h1:exprE 7 r=(x,q1)):stmtE pb l=(TStmt.mk 6 [] [] [x] [] [],takE [59] q1):=by
 unfold stmtE; rw [show w_if=[105,102] from rfl,n1]; simp only; rw [show w_while=[119,104,105,108,101] from rfl,n2]; simp only; rw [show w_return=[114,101,116,117,114,110] from rfl,h]; simp only; rw [h1]
theorem stmtE_4 (n1:takT [105,102] l=none) (n2:takT [119,104,105,108,101] l=none) (n3:takT [114,101,116,117,114,110] l=none) (h:takT [111,117,116] l=some r) (h1:exprE 7 r=(x,q1)):stmtE pb l=(TStmt.mk 7 [] [] [x] [] [],takE [59] q1):=by
 unfold stmtE; rw [show w_if=[105,102] from rfl,n1]; simp only; rw [show w_while=[119,104,105,108,101] from rfl,n2]; simp only; rw [show w_return=[114,101,116,117,114,110] from rfl,n3]; simp only; rw [show w_out=[111,117,116] from rfl,h]; simp only; rw [h1]
def simE (p:Tx×Tx) (q1:Tk):TStmt×Tk:=match takT [40] q1 with
     | some r=>(TStmt.mk 3 p.1 p.2 (listE (exprE 7) r).1 [] [],takE [59] (listE (exprE 7) r).2)
     | none=>match takT [91] q1 with
       | some r=>(TStmt.mk 2 p.1 p.2 [(exprE 7 r).1,(exprE 7 (takE [61] (takE [93] (exprE 7 r).2))).1] [] [],takE [59] (exprE 7 (takE [61] (takE [93] (exprE 7 r).2))).2)
       | none=>(TStmt.mk 1 p.1 p.2 [(exprE 7 (takE [61] q1)).1] [] [],takE [59] (exprE 7 (takE [61] q1)).2)
theorem stmtE_r (n1:takT [105,102] l=none) (n2:takT [119,104,105,108,101] l=none) (n3:takT [114,101,116,117,114,110] l=none) (n4:takT [111,117,116] l=none) (hr:refE l=(p,q1)):stmtE pb l=simE p q1:=by
 unfold stmtE simE; rw [show w_if=[105,102] from rfl,n1]; simp only; rw [show w_while=[119,104,105,108,101] from rfl,n2]; simp only; rw [show w_return=[114,101,116,117,114,110] from rfl,n3]; simp only; rw [show w_out=[111,117,116] from rfl,n4]; simp only; rw [hr]; rfl
theorem simE_5 (h:takT [40] q1=some r) (h1:listE (exprE 7) r=(xs,q2)):simE p q1=(TStmt.mk 3 p.1 p.2 xs [] [],takE [59] q2):=by unfold simE; rw [h]; simp only; rw [h1]
theorem simE_6 (n5:takT [40] q1=none) (h:takT [91] q1=some r) (h1:exprE 7 r=(x,q2)) (h2:exprE 7 (takE [61] (takE [93] q2))=(y,q3)):simE p q1=(TStmt.mk 2 p.1 p.2 [x,y] [] [],takE [59] q3):=by unfold simE; rw [n5]; simp only; rw [h]; simp only; rw [h1]; simp only; rw [h2]
theorem simE_7 (n5:takT [40] q1=none) (n6:takT [91] q1=none) (h1:exprE 7 (takE [61] q1)=(x,q2)):simE p q1=(TStmt.mk 1 p.1 p.2 [x] [] [],takE [59] q2):=by unfold simE; rw [n5]; simp only; rw [n6]; simp only; rw [h1]
variable {ps:Tk→TStmt×Tk} {s:TStmt} {n:Nat}
theorem stmtsE_0:stmtsE ps 0 l=([],takE [125] l):=rfl
theorem stmtsE_1 (h:takT [125] l=some r):stmtsE ps n l=([],r):=by
 cases n with
 | zero=>rw [stmtsE_0,takE_t h]
 | succ n=>rw [stmtsE,h]
theorem stmtsE_2 (h:takT [125] l=none) (h0:l.length=0):stmtsE ps n l=([],l):=by
 cases n with
 | zero=>rw [stmtsE_0,takE_f h]
 | succ n=>rw [stmtsE,h]; simp only; rw [if_pos h0]
theorem stmtsE_3 (h:takT [125] l=none) (h0:¬l.length=0) (hs:ps l=(s,q1)) (hl:q1.length=l.length):stmtsE ps (n+1) l=([s],q1):=by
 rw [stmtsE,h]; simp only; rw [if_neg h0,hs]; simp only; rw [if_pos hl]
theorem stmtsE_4 (h:takT [125] l=none) (h0:¬l.length=0) (hs:ps l=(s,q1)) (hl:¬q1.length=l.length):stmtsE ps (n+1) l=(s::(stmtsE ps n q1).1,(stmtsE ps n q1).2):=by
 rw [stmtsE,h]; simp only; rw [if_neg h0,hs]; simp only; rw [if_neg hl]
theorem blockE_0 {f d:Nat} (hf:f+d=7) (h:6<d):blockE f l=([],l):=by
 obtain rfl:f=0:=by omega
 rfl
theorem blockE_1 {f:Nat} (h:takT [123] l=none):blockE f l=([],l):=by
 cases f with
 | zero=>rfl
 | succ f=>rw [blockE,h]
theorem blockE_2 {f:Nat} (h:takT [123] l=some r):blockE (f+1) l=stmtsE (stmtE (blockE f)) 11 r:=by rw [blockE,h]
theorem pl43:placesP Tryz.prog 43=some [(0,1),(1,1),(2,1),(3,1),(4,1),(5,1)]:=by kernel_rfl
theorem en63:Enters Tryz.prog 63:=enters_of Tryz.func63 (by kernel_rfl) rfl
theorem estmt_any (gb:Nat) (HT:View) (r:Option Addr×Nat) (l:Tk) (f d:Nat) (w:World) (hB:EyeB HT f) (hfd:f+(d+1)=7) (hm:Sl rdTok 3 HT r.1 r.2 l) (hw:Ws w (List.flatMap Asr.ids (eyeL gb r l)) (eyeL gb r l) [HT] w) :
   Calls Tryz.prog 85 #[.pointer (some ⟨gb,0,none⟩),.int .i64 (d:Int)] w fun e w'=>∃(x:TStmt) (p:SAt) (r2:Option Addr×Nat) (q:Tk),e = .returned (.agg #[.int .i64 (x).op,st (x).mod,st (x).nm,.slice (p).s1.1 (x).args.length (p).s1.2,.slice (p).s2.1 (x).body.length (p).s2.2,.slice (p).s3.1 (x).other.length (p).s3.2])∧stmtE (blockE f) l=(x,q)∧SlS8 f (nv w w') x p∧Sl rdTok 3 HT r2.1 r2.2 q∧Ws w (List.flatMap Asr.ids (eyeL gb r l)) (eyeL gb r2 q) [HT] w':=by
 refine enter Tryz.func85 rfl 103 rfl rfl ?_
 refine CWd (W':=Ws w (List.flatMap Asr.ids (eyeL gb r l)) (eyeL gb r l) [HT]) (fun _ e=>by subst e; exact hw) ?_
 refine Cs (Cr ?_)
 refine WL.alloc (.inl rfl) rfl zr43 fun b4=>?_
 refine Lrb 0 (.cells (stmtV (TStmt.mk 0 [] [] [] [] []) none 0 none 0 none 0).toArray 43 (0,0)) rfl rfl ?_
 refine Ln (Et (Cs (Cb (Cs (Cr ?_)))))
 refine V0 (Ym rfl) ?_
 refine Lf 1 rfl ?_
 refine Lw (ι:=Bool×(Option Addr×Nat)×Tk) [_] _ (.inl rfl) rfl en60 rfl rfl (fun i=>.bool i.1) (fun i=>eyeL gb i.2.1 (i.2.2)) (fun i=>(i.1=true→takT [105,102] (l)=some i.2.2)∧(i.1=false→takT [105,102] (l)=none∧l=i.2.2)∧i.2.2=takE [105,102] (l)∧i.1=(takT [105,102] (l)).isSome∧Sl rdTok 3 HT i.2.1.1 i.2.1.2 i.2.2) [HT] (by simp) (fun w hw=>take_any gb HT r (l) [105,102] w hm hw) ?_
 intro ⟨b13,r13,q13⟩ ⟨h13t,h13f,hq13,hb13,hm13⟩
 simp only at hq13 hb13
 refine V0 (Ya rfl) ?_
 refine Ln (Et ?_)
 refine Cc rfl (fun hc0=>?_) (fun hc0=>?_)
 ·
  have ht13:takT _ _=some q13:=h13t hc0
  refine Cs (Cr ?_)
  refine V0 (Ym rfl) ?_
  refine Lf 0 rfl ?_
  refine Lwd (ι:=((TExpr)×(Option Addr×Nat))×(Option Addr×Nat)×Tk) [_] _ (.inl rfl) rfl en106 rfl rfl (fun i=>.agg #[.int .i64 (i.1.1).op,.int .i64 (i.1.1).n,st (i.1.1).mod,st (i.1.1).nm,.slice i.1.2.1 (i.1.1).args.length i.1.2.2]) (fun i=>eyeL gb i.2.1 (i.2.2)) (fun F i=>exprE 7 (q13)=(i.1.1,i.2.2)∧Sl (RdE 7) 5 F i.1.2.1 i.1.2.2 i.1.1.args∧Sl rdTok 3 HT i.2.1.1 i.2.1.2 i.2.2) ([HT]) (by simp) (fun _ _ h=>h) (fun w hw=>((fun gb r l d w h1 h2 h3=>eexpr_any HT 7 gb r l d w h1 h2 h3) gb r13 (q13) 1 w (by omega) hm13 hw).mono fun e w' ⟨x,s,r2,q,h1,h2,h3,h4,h5⟩=>⟨((x,s),r2,q),h1,⟨h2,h3,h4⟩,h5⟩) ?_
  intro F15 ⟨⟨x15,s15⟩,r15,q15⟩ hf15 ⟨hq15,hx15,hm15⟩
  simp only at hq15
  refine Lb (.inl rfl) rfl el41 rfl rfl rfl rfl fun b16=>?_
  refine LN (rd:=rdXE) (f:=XE.cells) (m:=1) 0 [(x15,s15.1,s15.2)] rfl rfl (fun k hk=>by simp [glassL,blk] at hk; subst hk; simp [outOf,glassL,blk,osl]) XE.cells_len (fun _ _ _ _ h=>h) (show 1≤1 by decide) (by decide) fun H16 fH16 hH16=>?_
  refine V0 (Yb zr43 pl43 rfl rfl) ?_
  refine WL.alloc (.inl rfl) rfl zr43 fun b5=>?_
  refine Lrb 0 (.cells (stmtV (TStmt.mk 0 [] [] [] [] []) none 0 none 0 none 0).toArray 43 (0,0)) rfl rfl ?_
  refine Lst 0 (.inl rfl) rfl rfl rfl sz43 rfl rfl rfl ?_
  refine Ln (Et (Cs (Cr ?_)))
  refine V0 (Ym rfl) ?_
  refine V0 (Ym rfl) ?_
  refine V0 (Yi rfl rfl rfl (by omega)) ?_
  refine Lf 1 rfl ?_
  refine Lwd (ι:=((List TStmt)×(Option Addr×Nat))×(Option Addr×Nat)×Tk) [_] _ (.inl rfl) rfl en63 rfl rfl (fun i=>.slice i.1.2.1 i.1.1.length i.1.2.2) (fun i=>eyeL gb i.2.1 (i.2.2)) (fun F i=>blockE f (q15)=(i.1.1,i.2.2)∧Sl (RdS 8 f) 6 F i.1.2.1 i.1.2.2 i.1.1∧Sl rdTok 3 HT i.2.1.1 i.2.1.2 i.2.2) ([HT]) (by simp) (fun _ _ h=>h) (fun w hw=>(hB gb r15 (q15) (d+1) w (by omega) hm15 hw).mono fun e w' ⟨x,s,r2,q,h1,h2,h3,h4,h5⟩=>⟨((x,s),r2,q),h1,⟨h2,h3,h4⟩,h5⟩) ?_
  intro F21 ⟨⟨b_21,s21⟩,r21,q21⟩ hf21 ⟨hq21,hx21,hm21⟩
  simp only at hq21
  refine V0 (Yf fo43_4 rfl) ?_
  refine Lst 1 (.inl rfl) rfl rfl rfl sz25 rfl rfl rfl ?_
  refine Ln (Et (Cs (Cs (Cr ?_))))
  refine V0 (Ym rfl) ?_
  refine Lf 0 rfl ?_
  refine Lw (ι:=Bool×(Option Addr×Nat)×Tk) [_] _ (.inl rfl) rfl en60 rfl rfl (fun i=>.bool i.1) (fun i=>eyeL gb i.2.1 (i.2.2)) (fun i=>(i.1=true→takT [101,108,115,101] (q21)=some i.2.2)∧(i.1=false→takT [101,108,115,101] (q21)=none∧q21=i.2.2)∧i.2.2=takE [101,108,115,101] (q21)∧i.1=(takT [101,108,115,101] (q21)).isSome∧Sl rdTok 3 HT i.2.1.1 i.2.1.2 i.2.2) [HT] (by simp) (fun w hw=>take_any gb HT r21 (q21) [101,108,115,101] w hm21 hw) ?_
  intro ⟨b24,r24,q24⟩ ⟨h24t,h24f,hq24,hb24,hm24⟩
  simp only at hq24 hb24
  refine Ln (Et ?_)
  refine Cc rfl (fun hc1=>?_) (fun hc1=>?_)
  ·
   have ht24:takT _ _=some q24:=h24t hc1
   refine Cr ?_
   refine V0 (Ym rfl) ?_
   refine V0 (Ym rfl) ?_
   refine V0 (Yi rfl rfl rfl (by omega)) ?_
   refine Lf 0 rfl ?_
   refine Lwd (ι:=((List TStmt)×(Option Addr×Nat))×(Option Addr×Nat)×Tk) [_] _ (.inl rfl) rfl en63 rfl rfl (fun i=>.slice i.1.2.1 i.1.1.length i.1.2.2) (fun i=>eyeL gb i.2.1 (i.2.2)) (fun F i=>blockE f (q24)=(i.1.1,i.2.2)∧Sl (RdS 8 f) 6 F i.1.2.1 i.1.2.2 i.1.1∧Sl rdTok 3 HT i.2.1.1 i.2.1.2 i.2.2) ([HT]) (by simp) (fun _ _ h=>h) (fun w hw=>(hB gb r24 (q24) (d+1) w (by omega) hm24 hw).mono fun e w' ⟨x,s,r2,q,h1,h2,h3,h4,h5⟩=>⟨((x,s),r2,q),h1,⟨h2,h3,h4⟩,h5⟩) ?_
   intro F28 ⟨⟨b_28,s28⟩,r28,q28⟩ hf28 ⟨hq28,hx28,hm28⟩
   simp only at hq28
   refine V0 (Yf fo43_5 rfl) ?_
   refine Lst 1 (.inl rfl) rfl rfl rfl sz25 rfl rfl rfl ?_
   refine Ln (Et (Cs (Cr ?_)))
   refine V0 (Yda 1 rfl rfl ag43 rfl) ?_
   refine Lst 2 (.inl rfl) rfl rfl rfl sz43 rfl rfl rfl ?_
   refine Ln (Et (Crt (Ebr (Er ?_))))
   refine WE.retR (rs_1 rfl (rv_agg 2 rfl rfl ag43 rfl)) fun w' hw=>?_
   exact ⟨TStmt.mk 4 [] [] [x15] b_21 b_28,⟨(some ⟨b16,0,none⟩,1),s21,s28⟩,r28,q28,rfl,by exact stmtE_0 ht13 hq15 hq21 ht24 hq28,⟨(slE_of hH16 (nv_vs hw (by simp) fH16) (nv_vs hw (by simp) hf15) ((XEs.nil F15 7).snoc (VLe.refl _) (VLe.refl _) hx15)),(slS8_mv hx21 (nv_vs hw (by simp) hf21)),(slS8_mv hx28 (nv_vs hw (by simp) hf28))⟩,hm28,Ws.drops (Ws.keep (L:=[_]) hw) (fun _ hm=>List.mem_append_right [_,_,_,_] hm)⟩
  ·
   obtain ⟨hn24,hl24⟩:=h24f hc1
   simp only at hl24
   refine Ck (Et (Cs (Cr ?_)))
   refine V0 (Yda 1 rfl rfl ag43 rfl) ?_
   refine Lst 2 (.inl rfl) rfl rfl rfl sz43 rfl rfl rfl ?_
   refine Ln (Et (Crt (Ebr (Er ?_))))
   refine WE.retR (rs_1 rfl (rv_agg 2 rfl rfl ag43 rfl)) fun w' hw=>?_
   exact ⟨TStmt.mk 4 [] [] [x15] b_21 [],⟨(some ⟨b16,0,none⟩,1),s21,((none,0):Option Addr×Nat)⟩,r24,q24,rfl,by rw [stmtE_1 ht13 hq15 hq21 hn24,hl24],⟨(slE_of hH16 (nv_vs hw (by simp) fH16) (nv_vs hw (by simp) hf15) ((XEs.nil F15 7).snoc (VLe.refl _) (VLe.refl _) hx15)),(slS8_mv hx21 (nv_vs hw (by simp) hf21)),Sl.nil⟩,hm24,Ws.drops (Ws.keep (L:=[_]) hw) (fun _ hm=>List.mem_append_right [_,_,_] hm)⟩
 ·
  obtain ⟨hn13,hl13⟩:=h13f hc0
  simp only at hl13
  have hz13:takT [105,102] q13=none:=by rw [←hl13]; exact hn13
  have hS:stmtE (blockE f) l=stmtE (blockE f) q13:=by rw [hl13]
  refine Cs (Cr ?_)
  refine V0 (Ym rfl) ?_
  refine Lf 0 rfl ?_
  refine Lw (ι:=Bool×(Option Addr×Nat)×Tk) [_] _ (.inl rfl) rfl en60 rfl rfl (fun i=>.bool i.1) (fun i=>eyeL gb i.2.1 (i.2.2)) (fun i=>(i.1=true→takT [119,104,105,108,101] (q13)=some i.2.2)∧(i.1=false→takT [119,104,105,108,101] (q13)=none∧q13=i.2.2)∧i.2.2=takE [119,104,105,108,101] (q13)∧i.1=(takT [119,104,105,108,101] (q13)).isSome∧Sl rdTok 3 HT i.2.1.1 i.2.1.2 i.2.2) [HT] (by simp) (fun w hw=>take_any gb HT r13 (q13) [119,104,105,108,101] w hm13 hw) ?_
  intro ⟨b33,r33,q33⟩ ⟨h33t,h33f,hq33,hb33,hm33⟩
  simp only at hq33 hb33
  refine V0 (Ya rfl) ?_
  refine Ln (Et ?_)
  refine Cc rfl (fun hc2=>?_) (fun hc2=>?_)
  ·
   have ht33:takT _ _=some q33:=h33t hc2
   refine Cs (Cr ?_)
   refine V0 (Ym rfl) ?_
   refine Lf 0 rfl ?_
   refine Lwd (ι:=((TExpr)×(Option Addr×Nat))×(Option Addr×Nat)×Tk) [_] _ (.inl rfl) rfl en106 rfl rfl (fun i=>.agg #[.int .i64 (i.1.1).op,.int .i64 (i.1.1).n,st (i.1.1).mod,st (i.1.1).nm,.slice i.1.2.1 (i.1.1).args.length i.1.2.2]) (fun i=>eyeL gb i.2.1 (i.2.2)) (fun F i=>exprE 7 (q33)=(i.1.1,i.2.2)∧Sl (RdE 7) 5 F i.1.2.1 i.1.2.2 i.1.1.args∧Sl rdTok 3 HT i.2.1.1 i.2.1.2 i.2.2) ([HT]) (by simp) (fun _ _ h=>h) (fun w hw=>((fun gb r l d w h1 h2 h3=>eexpr_any HT 7 gb r l d w h1 h2 h3) gb r33 (q33) 1 w (by omega) hm33 hw).mono fun e w' ⟨x,s,r2,q,h1,h2,h3,h4,h5⟩=>⟨((x,s),r2,q),h1,⟨h2,h3,h4⟩,h5⟩) ?_
   intro F35 ⟨⟨x35,s35⟩,r35,q35⟩ hf35 ⟨hq35,hx35,hm35⟩
   simp only at hq35
   refine Lb (.inl rfl) rfl el41 rfl rfl rfl rfl fun b36=>?_
   refine LN (rd:=rdXE) (f:=XE.cells) (m:=1) 0 [(x35,s35.1,s35.2)] rfl rfl (fun k hk=>by simp [glassL,blk] at hk; subst hk; simp [outOf,glassL,blk,osl]) XE.cells_len (fun _ _ _ _ h=>h) (show 1≤1 by decide) (by decide) fun H36 fH36 hH36=>?_
   refine V0 (Yb zr43 pl43 rfl rfl) ?_
   refine WL.alloc (.inl rfl) rfl zr43 fun b6=>?_
   refine Lrb 0 (.cells (stmtV (TStmt.mk 0 [] [] [] [] []) none 0 none 0 none 0).toArray 43 (0,0)) rfl rfl ?_
   refine Lst 0 (.inl rfl) rfl rfl rfl sz43 rfl rfl rfl ?_
   refine Ln (Et (Cs (Cr ?_)))
   refine V0 (Ym rfl) ?_
   refine V0 (Ym rfl) ?_
   refine V0 (Yi rfl rfl rfl (by omega)) ?_
   refine Lf 1 rfl ?_
   refine Lwd (ι:=((List TStmt)×(Option Addr×Nat))×(Option Addr×Nat)×Tk) [_] _ (.inl rfl) rfl en63 rfl rfl (fun i=>.slice i.1.2.1 i.1.1.length i.1.2.2) (fun i=>eyeL gb i.2.1 (i.2.2)) (fun F i=>blockE f (q35)=(i.1.1,i.2.2)∧Sl (RdS 8 f) 6 F i.1.2.1 i.1.2.2 i.1.1∧Sl rdTok 3 HT i.2.1.1 i.2.1.2 i.2.2) ([HT]) (by simp) (fun _ _ h=>h) (fun w hw=>(hB gb r35 (q35) (d+1) w (by omega) hm35 hw).mono fun e w' ⟨x,s,r2,q,h1,h2,h3,h4,h5⟩=>⟨((x,s),r2,q),h1,⟨h2,h3,h4⟩,h5⟩) ?_
   intro F41 ⟨⟨b_41,s41⟩,r41,q41⟩ hf41 ⟨hq41,hx41,hm41⟩
   simp only at hq41
   refine V0 (Yf fo43_4 rfl) ?_
   refine Lst 1 (.inl rfl) rfl rfl rfl sz25 rfl rfl rfl ?_
   refine Ln (Et (Cs (Cr ?_)))
   refine V0 (Yda 1 rfl rfl ag43 rfl) ?_
   refine Lst 2 (.inl rfl) rfl rfl rfl sz43 rfl rfl rfl ?_
   refine Ln (Et (Crt (Ebr (Er ?_))))
   refine WE.retR (rs_1 rfl (rv_agg 2 rfl rfl ag43 rfl)) fun w' hw=>?_
   exact ⟨TStmt.mk 5 [] [] [x35] b_41 [],⟨(some ⟨b36,0,none⟩,1),s41,((none,0):Option Addr×Nat)⟩,r41,q41,rfl,by rw [hS,stmtE_2 hz13 ht33 hq35 hq41],⟨(slE_of hH36 (nv_vs hw (by simp) fH36) (nv_vs hw (by simp) hf35) ((XEs.nil F35 7).snoc (VLe.refl _) (VLe.refl _) hx35)),(slS8_mv hx41 (nv_vs hw (by simp) hf41)),Sl.nil⟩,hm41,Ws.drops (Ws.keep (L:=[_]) hw) (fun _ hm=>List.mem_append_right [_,_,_] hm)⟩
  ·
   obtain ⟨hn33,hl33⟩:=h33f hc2
   simp only at hl33
   clear hz13 hS
   have hz13:takT [105,102] q33=none:=by rw [←hl33,←hl13]; exact hn13
   have hz33:takT [119,104,105,108,101] q33=none:=by rw [←hl33]; exact hn33
   have hS:stmtE (blockE f) l=stmtE (blockE f) q33:=by rw [hl13,hl33]
   refine Cs (Cr ?_)
   refine V0 (Ym rfl) ?_
   refine Lf 0 rfl ?_
   refine Lw (ι:=Bool×(Option Addr×Nat)×Tk) [_] _ (.inl rfl) rfl en60 rfl rfl (fun i=>.bool i.1) (fun i=>eyeL gb i.2.1 (i.2.2)) (fun i=>(i.1=true→takT [114,101,116,117,114,110] (q33)=some i.2.2)∧(i.1=false→takT [114,101,116,117,114,110] (q33)=none∧q33=i.2.2)∧i.2.2=takE [114,101,116,117,114,110] (q33)∧i.1=(takT [114,101,116,117,114,110] (q33)).isSome∧Sl rdTok 3 HT i.2.1.1 i.2.1.2 i.2.2) [HT] (by simp) (fun w hw=>take_any gb HT r33 (q33) [114,101,116,117,114,110] w hm33 hw) ?_
   intro ⟨b46,r46,q46⟩ ⟨h46t,h46f,hq46,hb46,hm46⟩
   simp only at hq46 hb46
   refine V0 (Ya rfl) ?_
   refine Ln (Et ?_)
   refine Cc rfl (fun hc3=>?_) (fun hc3=>?_)
   ·
    have ht46:takT _ _=some q46:=h46t hc3
    refine Cs (Cr ?_)
    refine V0 (Ym rfl) ?_
    refine Lf 0 rfl ?_
    refine Lwd (ι:=((TExpr)×(Option Addr×Nat))×(Option Addr×Nat)×Tk) [_] _ (.inl rfl) rfl en106 rfl rfl (fun i=>.agg #[.int .i64 (i.1.1).op,.int .i64 (i.1.1).n,st (i.1.1).mod,st (i.1.1).nm,.slice i.1.2.1 (i.1.1).args.length i.1.2.2]) (fun i=>eyeL gb i.2.1 (i.2.2)) (fun F i=>exprE 7 (q46)=(i.1.1,i.2.2)∧Sl (RdE 7) 5 F i.1.2.1 i.1.2.2 i.1.1.args∧Sl rdTok 3 HT i.2.1.1 i.2.1.2 i.2.2) ([HT]) (by simp) (fun _ _ h=>h) (fun w hw=>((fun gb r l d w h1 h2 h3=>eexpr_any HT 7 gb r l d w h1 h2 h3) gb r46 (q46) 1 w (by omega) hm46 hw).mono fun e w' ⟨x,s,r2,q,h1,h2,h3,h4,h5⟩=>⟨((x,s),r2,q),h1,⟨h2,h3,h4⟩,h5⟩) ?_
    intro F48 ⟨⟨x48,s48⟩,r48,q48⟩ hf48 ⟨hq48,hx48,hm48⟩
    simp only at hq48
    refine Lb (.inl rfl) rfl el41 rfl rfl rfl rfl fun b49=>?_
    refine LN (rd:=rdXE) (f:=XE.cells) (m:=1) 0 [(x48,s48.1,s48.2)] rfl rfl (fun k hk=>by simp [glassL,blk] at hk; subst hk; simp [outOf,glassL,blk,osl]) XE.cells_len (fun _ _ _ _ h=>h) (show 1≤1 by decide) (by decide) fun H49 fH49 hH49=>?_
    refine V0 (Yb zr43 pl43 rfl rfl) ?_
    refine WL.alloc (.inl rfl) rfl zr43 fun b7=>?_
    refine Lrb 0 (.cells (stmtV (TStmt.mk 0 [] [] [] [] []) none 0 none 0 none 0).toArray 43 (0,0)) rfl rfl ?_
    refine Lst 0 (.inl rfl) rfl rfl rfl sz43 rfl rfl rfl ?_
    refine Ln (Et (Cs (Cr ?_)))
    refine V0 (Ym rfl) ?_
    refine Lf 1 rfl ?_
    refine Lw (ι:=Bool×(Option Addr×Nat)×Tk) [_] _ (.inl rfl) rfl en60 rfl rfl (fun i=>.bool i.1) (fun i=>eyeL gb i.2.1 (i.2.2)) (fun i=>(i.1=true→takT [59] (q48)=some i.2.2)∧(i.1=false→takT [59] (q48)=none∧q48=i.2.2)∧i.2.2=takE [59] (q48)∧i.1=(takT [59] (q48)).isSome∧Sl rdTok 3 HT i.2.1.1 i.2.1.2 i.2.2) [HT] (by simp) (fun w hw=>take_any gb HT r48 (q48) [59] w hm48 hw) ?_
    intro ⟨b52,r52,q52⟩ ⟨h52t,h52f,hq52,hb52,hm52⟩
    simp only at hq52 hb52
    refine Ln (Et (Cs (Cr ?_)))
    refine V0 (Yda 1 rfl rfl ag43 rfl) ?_
    refine Lst 2 (.inl rfl) rfl rfl rfl sz43 rfl rfl rfl ?_
    refine Ln (Et (Crt (Ebr (Er ?_))))
    refine WE.retR (rs_1 rfl (rv_agg 2 rfl rfl ag43 rfl)) fun w' hw=>?_
    exact ⟨TStmt.mk 6 [] [] [x48] [] [],⟨(some ⟨b49,0,none⟩,1),((none,0):Option Addr×Nat),((none,0):Option Addr×Nat)⟩,r52,q52,rfl,by rw [hS,stmtE_3 hz13 hz33 ht46 hq48,hq52],⟨(slE_of hH49 (nv_vs hw (by simp) fH49) (nv_vs hw (by simp) hf48) ((XEs.nil F48 7).snoc (VLe.refl _) (VLe.refl _) hx48)),Sl.nil,Sl.nil⟩,hm52,Ws.drops (Ws.keep (L:=[_]) hw) (fun _ hm=>List.mem_append_right [_,_] hm)⟩
   ·
    obtain ⟨hn46,hl46⟩:=h46f hc3
    simp only at hl46
    clear hz13 hz33 hS
    have hz13:takT [105,102] q46=none:=by rw [←hl46,←hl33,←hl13]; exact hn13
    have hz33:takT [119,104,105,108,101] q46=none:=by rw [←hl46,←hl33]; exact hn33
    have hz46:takT [114,101,116,117,114,110] q46=none:=by rw [←hl46]; exact hn46
    have hS:stmtE (blockE f) l=stmtE (blockE f) q46:=by rw [hl13,hl33,hl46]
    refine Cs (Cr ?_)
    refine V0 (Ym rfl) ?_
    refine Lf 0 rfl ?_
    refine Lw (ι:=Bool×(Option Addr×Nat)×Tk) [_] _ (.inl rfl) rfl en60 rfl rfl (fun i=>.bool i.1) (fun i=>eyeL gb i.2.1 (i.2.2)) (fun i=>(i.1=true→takT [111,117,116] (q46)=some i.2.2)∧(i.1=false→takT [111,117,116] (q46)=none∧q46=i.2.2)∧i.2.2=takE [111,117,116] (q46)∧i.1=(takT [111,117,116] (q46)).isSome∧Sl rdTok 3 HT i.2.1.1 i.2.1.2 i.2.2) [HT] (by simp) (fun w hw=>take_any gb HT r46 (q46) [111,117,116] w hm46 hw) ?_
    intro ⟨b56,r56,q56⟩ ⟨h56t,h56f,hq56,hb56,hm56⟩
    simp only at hq56 hb56
    refine V0 (Ya rfl) ?_
    refine Ln (Et ?_)
    refine Cc rfl (fun hc4=>?_) (fun hc4=>?_)
    ·
     have ht56:takT _ _=some q56:=h56t hc4
     refine Cs (Cr ?_)
     refine V0 (Ym rfl) ?_
     refine Lf 0 rfl ?_
     refine Lwd (ι:=((TExpr)×(Option Addr×Nat))×(Option Addr×Nat)×Tk) [_] _ (.inl rfl) rfl en106 rfl rfl (fun i=>.agg #[.int .i64 (i.1.1).op,.int .i64 (i.1.1).n,st (i.1.1).mod,st (i.1.1).nm,.slice i.1.2.1 (i.1.1).args.length i.1.2.2]) (fun i=>eyeL gb i.2.1 (i.2.2)) (fun F i=>exprE 7 (q56)=(i.1.1,i.2.2)∧Sl (RdE 7) 5 F i.1.2.1 i.1.2.2 i.1.1.args∧Sl rdTok 3 HT i.2.1.1 i.2.1.2 i.2.2) ([HT]) (by simp) (fun _ _ h=>h) (fun w hw=>((fun gb r l d w h1 h2 h3=>eexpr_any HT 7 gb r l d w h1 h2 h3) gb r56 (q56) 1 w (by omega) hm56 hw).mono fun e w' ⟨x,s,r2,q,h1,h2,h3,h4,h5⟩=>⟨((x,s),r2,q),h1,⟨h2,h3,h4⟩,h5⟩) ?_
     intro F58 ⟨⟨x58,s58⟩,r58,q58⟩ hf58 ⟨hq58,hx58,hm58⟩
     simp only at hq58
     refine Lb (.inl rfl) rfl el41 rfl rfl rfl rfl fun b59=>?_
     refine LN (rd:=rdXE) (f:=XE.cells) (m:=1) 0 [(x58,s58.1,s58.2)] rfl rfl (fun k hk=>by simp [glassL,blk] at hk; subst hk; simp [outOf,glassL,blk,osl]) XE.cells_len (fun _ _ _ _ h=>h) (show 1≤1 by decide) (by decide) fun H59 fH59 hH59=>?_
     refine V0 (Yb zr43 pl43 rfl rfl) ?_
     refine WL.alloc (.inl rfl) rfl zr43 fun b8=>?_
     refine Lrb 0 (.cells (stmtV (TStmt.mk 0 [] [] [] [] []) none 0 none 0 none 0).toArray 43 (0,0)) rfl rfl ?_
     refine Lst 0 (.inl rfl) rfl rfl rfl sz43 rfl rfl rfl ?_
     refine Ln (Et (Cs (Cr ?_)))
     refine V0 (Ym rfl) ?_
     refine Lf 1 rfl ?_
     refine Lw (ι:=Bool×(Option Addr×Nat)×Tk) [_] _ (.inl rfl) rfl en60 rfl rfl (fun i=>.bool i.1) (fun i=>eyeL gb i.2.1 (i.2.2)) (fun i=>(i.1=true→takT [59] (q58)=some i.2.2)∧(i.1=false→takT [59] (q58)=none∧q58=i.2.2)∧i.2.2=takE [59] (q58)∧i.1=(takT [59] (q58)).isSome∧Sl rdTok 3 HT i.2.1.1 i.2.1.2 i.2.2) [HT] (by simp) (fun w hw=>take_any gb HT r58 (q58) [59] w hm58 hw) ?_
     intro ⟨b62,r62,q62⟩ ⟨h62t,h62f,hq62,hb62,hm62⟩
     simp only at hq62 hb62
     refine Ln (Et (Cs (Cr ?_)))
     refine V0 (Yda 1 rfl rfl ag43 rfl) ?_
     refine Lst 2 (.inl rfl) rfl rfl rfl sz43 rfl rfl rfl ?_
     refine Ln (Et (Crt (Ebr (Er ?_))))
     refine WE.retR (rs_1 rfl (rv_agg 2 rfl rfl ag43 rfl)) fun w' hw=>?_
     exact ⟨TStmt.mk 7 [] [] [x58] [] [],⟨(some ⟨b59,0,none⟩,1),((none,0):Option Addr×Nat),((none,0):Option Addr×Nat)⟩,r62,q62,rfl,by rw [hS,stmtE_4 hz13 hz33 hz46 ht56 hq58,hq62],⟨(slE_of hH59 (nv_vs hw (by simp) fH59) (nv_vs hw (by simp) hf58) ((XEs.nil F58 7).snoc (VLe.refl _) (VLe.refl _) hx58)),Sl.nil,Sl.nil⟩,hm62,Ws.drops (Ws.keep (L:=[_]) hw) (fun _ hm=>List.mem_append_right [_,_] hm)⟩
    ·
     obtain ⟨hn56,hl56⟩:=h56f hc4
     simp only at hl56
     clear hz13 hz33 hz46 hS
     have hz13:takT [105,102] q56=none:=by rw [←hl56,←hl46,←hl33,←hl13]; exact hn13
     have hz33:takT [119,104,105,108,101] q56=none:=by rw [←hl56,←hl46,←hl33]; exact hn33
     have hz46:takT [114,101,116,117,114,110] q56=none:=by rw [←hl56,←hl46]; exact hn46
     have hz56:takT [111,117,116] q56=none:=by rw [←hl56]; exact hn56
     have hS:stmtE (blockE f) l=stmtE (blockE f) q56:=by rw [hl13,hl33,hl46,hl56]
     refine Ck (Eb (Et (Cs (Cr ?_))))
     refine WL.alloc (.inl rfl) rfl zr43 fun b9=>?_
     refine Lrb 0 (.cells (stmtV (TStmt.mk 0 [] [] [] [] []) none 0 none 0 none 0).toArray 43 (0,0)) rfl rfl ?_
     refine Ln (Et (Cs (Cr ?_)))
     refine V0 (Ym rfl) ?_
     refine Lf 1 rfl ?_
     refine Lw (ι:=(Tx×Tx)×(Option Addr×Nat)×Tk) [_] _ (.inl rfl) rfl en107 rfl rfl (fun i=>.tuple #[st i.1.1,st i.1.2]) (fun i=>eyeL gb i.2.1 (i.2.2)) (fun i=>refE (q56)=(i.1,i.2.2)∧Sl rdTok 3 HT i.2.1.1 i.2.1.2 i.2.2) [HT] (by simp) (fun w hw=>(eref_any gb HT r56 (q56) w hm56 hw).mono fun e w' ⟨t,r2,q,h1,h2,h3,h4⟩=>⟨(t,r2,q),h1,⟨h2,h3⟩,h4⟩) ?_
     intro ⟨p66,r66,q66⟩ ⟨hq66,hm66⟩
     simp only at hq66
     refine V0 (Ym rfl) ?_
     refine V0 (Yx rfl rfl) ?_
     refine V0 (Yx rfl rfl) ?_
     refine V0 (Yf fo43_1 rfl) ?_
     refine Lst 1 (.inl rfl) rfl rfl rfl sz9 rfl rfl rfl ?_
     refine V0 (Yf fo43_2 rfl) ?_
     refine Lst 1 (.inl rfl) rfl rfl rfl sz9 rfl rfl rfl ?_
     refine Ln (Et (Cs (Cb (Cs (Cr ?_)))))
     refine V0 (Ym rfl) ?_
     refine Lf 0 rfl ?_
     refine Lw (ι:=Bool×(Option Addr×Nat)×Tk) [_] _ (.inl rfl) rfl en60 rfl rfl (fun i=>.bool i.1) (fun i=>eyeL gb i.2.1 (i.2.2)) (fun i=>(i.1=true→takT [40] (q66)=some i.2.2)∧(i.1=false→takT [40] (q66)=none∧q66=i.2.2)∧i.2.2=takE [40] (q66)∧i.1=(takT [40] (q66)).isSome∧Sl rdTok 3 HT i.2.1.1 i.2.1.2 i.2.2) [HT] (by simp) (fun w hw=>take_any gb HT r66 (q66) [40] w hm66 hw) ?_
     intro ⟨b80,r80,q80⟩ ⟨h80t,h80f,hq80,hb80,hm80⟩
     simp only at hq80 hb80
     refine V0 (Ya rfl) ?_
     refine Ln (Et ?_)
     refine Cc rfl (fun hc5=>?_) (fun hc5=>?_)
     ·
      have ht80:takT _ _=some q80:=h80t hc5
      have hR:=stmtE_r (pb:=blockE f) hz13 hz33 hz46 hz56 hq66
      refine Cs (Cr ?_)
      refine V0 (Yf fo43_0 rfl) ?_
      refine Lst 1 (.inl rfl) rfl rfl rfl sz3 rfl rfl rfl ?_
      refine Ln (Et (Cr ?_))
      refine V0 (Ym rfl) ?_
      refine Lf 0 rfl ?_
      refine Lwd (ι:=((List TExpr)×(Option Addr×Nat))×(Option Addr×Nat)×Tk) [_] _ (.inl rfl) rfl en108 rfl rfl (fun i=>.slice i.1.2.1 i.1.1.length i.1.2.2) (fun i=>eyeL gb i.2.1 (i.2.2)) (fun F i=>listE (exprE 7) (q80)=(i.1.1,i.2.2)∧Sl (RdE (7+1)) 5 F i.1.2.1 i.1.2.2 i.1.1∧Sl rdTok 3 HT i.2.1.1 i.2.1.2 i.2.2) ([HT]) (by simp) (fun _ _ h=>h) (fun w hw=>(elist_any gb HT r80 (q80) 7 (1) w (fun gb r l d w h1 h2 h3=>eexpr_any HT 7 gb r l d w h1 h2 h3) (by omega) hm80 hw).mono fun e w' ⟨x,s,r2,q,h1,h2,h3,h4,h5⟩=>⟨((x,s),r2,q),h1,⟨h2,h3,h4⟩,h5⟩) ?_
      intro F83 ⟨⟨xs83,s83⟩,r83,q83⟩ hf83 ⟨hq83,hx83,hm83⟩
      simp only at hq83
      refine V0 (Yf fo43_3 rfl) ?_
      refine Lst 1 (.inl rfl) rfl rfl rfl sz41 rfl rfl rfl ?_
      refine Ln (Eb (Et (Cs (Cr ?_))))
      refine V0 (Ym rfl) ?_
      refine Lf 0 rfl ?_
      refine Lw (ι:=Bool×(Option Addr×Nat)×Tk) [_] _ (.inl rfl) rfl en60 rfl rfl (fun i=>.bool i.1) (fun i=>eyeL gb i.2.1 (i.2.2)) (fun i=>(i.1=true→takT [59] (q83)=some i.2.2)∧(i.1=false→takT [59] (q83)=none∧q83=i.2.2)∧i.2.2=takE [59] (q83)∧i.1=(takT [59] (q83)).isSome∧Sl rdTok 3 HT i.2.1.1 i.2.1.2 i.2.2) [HT] (by simp) (fun w hw=>take_any gb HT r83 (q83) [59] w hm83 hw) ?_
      intro ⟨b101,r101,q101⟩ ⟨h101t,h101f,hq101,hb101,hm101⟩
      simp only at hq101 hb101
      refine Ln (Et (Cs (Cr ?_)))
      refine V0 (Yda 1 rfl rfl ag43 rfl) ?_
      refine Lst 2 (.inl rfl) rfl rfl rfl sz43 rfl rfl rfl ?_
      refine Ln (Et (Crt ?_))
      refine WE.retR (rs_1 rfl (rv_agg 2 rfl rfl ag43 rfl)) fun w' hw=>?_
      exact ⟨TStmt.mk 3 p66.1 p66.2 xs83 [] [],⟨s83,((none,0):Option Addr×Nat),((none,0):Option Addr×Nat)⟩,r101,q101,rfl,by rw [hS,hR,simE_5 ht80 hq83,hq101],⟨(slE_mv hx83 (nv_vs hw (by simp) hf83)),Sl.nil,Sl.nil⟩,hm101,Ws.drops (Ws.keep (L:=[_]) hw) (fun _ hm=>List.mem_append_right [_] hm)⟩
     ·
      obtain ⟨hn80,hl80⟩:=h80f hc5
      simp only at hl80
      have hR:=stmtE_r (pb:=blockE f) hz13 hz33 hz46 hz56 hq66
      refine Cs (Cr ?_)
      refine V0 (Ym rfl) ?_
      refine Lf 0 rfl ?_
      refine Lw (ι:=Bool×(Option Addr×Nat)×Tk) [_] _ (.inl rfl) rfl en60 rfl rfl (fun i=>.bool i.1) (fun i=>eyeL gb i.2.1 (i.2.2)) (fun i=>(i.1=true→takT [91] (q80)=some i.2.2)∧(i.1=false→takT [91] (q80)=none∧q80=i.2.2)∧i.2.2=takE [91] (q80)∧i.1=(takT [91] (q80)).isSome∧Sl rdTok 3 HT i.2.1.1 i.2.1.2 i.2.2) [HT] (by simp) (fun w hw=>take_any gb HT r80 (q80) [91] w hm80 hw) ?_
      intro ⟨b87,r87,q87⟩ ⟨h87t,h87f,hq87,hb87,hm87⟩
      simp only at hq87 hb87
      refine V0 (Ya rfl) ?_
      refine Ln (Et ?_)
      refine Cc rfl (fun hc6=>?_) (fun hc6=>?_)
      ·
       have ht87:takT _ _=some q87:=h87t hc6
       refine Cs (Cr ?_)
       refine V0 (Yf fo43_0 rfl) ?_
       refine Lst 1 (.inl rfl) rfl rfl rfl sz3 rfl rfl rfl ?_
       refine Ln (Et (Cs (Cr ?_)))
       refine V0 (Ym rfl) ?_
       refine Lf 0 rfl ?_
       refine Lwd (ι:=((TExpr)×(Option Addr×Nat))×(Option Addr×Nat)×Tk) [_] _ (.inl rfl) rfl en106 rfl rfl (fun i=>.agg #[.int .i64 (i.1.1).op,.int .i64 (i.1.1).n,st (i.1.1).mod,st (i.1.1).nm,.slice i.1.2.1 (i.1.1).args.length i.1.2.2]) (fun i=>eyeL gb i.2.1 (i.2.2)) (fun F i=>exprE 7 (q87)=(i.1.1,i.2.2)∧Sl (RdE 7) 5 F i.1.2.1 i.1.2.2 i.1.1.args∧Sl rdTok 3 HT i.2.1.1 i.2.1.2 i.2.2) ([HT]) (by simp) (fun _ _ h=>h) (fun w hw=>((fun gb r l d w h1 h2 h3=>eexpr_any HT 7 gb r l d w h1 h2 h3) gb r87 (q87) 1 w (by omega) hm87 hw).mono fun e w' ⟨x,s,r2,q,h1,h2,h3,h4,h5⟩=>⟨((x,s),r2,q),h1,⟨h2,h3,h4⟩,h5⟩) ?_
       intro F90 ⟨⟨x90,s90⟩,r90,q90⟩ hf90 ⟨hq90,hx90,hm90⟩
       simp only at hq90
       refine WL.alloc (.inl rfl) rfl zr81 fun b10=>?_
       refine Lst 0 (.inl rfl) rfl rfl rfl sz81 rfl rfl rfl ?_
       refine Ln (Et (Cs (Cr ?_)))
       refine V0 (Ym rfl) ?_
       refine Lf 1 rfl ?_
       refine Lw (ι:=Bool×(Option Addr×Nat)×Tk) [_] _ (.inl rfl) rfl en60 rfl rfl (fun i=>.bool i.1) (fun i=>eyeL gb i.2.1 (i.2.2)) (fun i=>(i.1=true→takT [93] (q90)=some i.2.2)∧(i.1=false→takT [93] (q90)=none∧q90=i.2.2)∧i.2.2=takE [93] (q90)∧i.1=(takT [93] (q90)).isSome∧Sl rdTok 3 HT i.2.1.1 i.2.1.2 i.2.2) [HT] (by simp) (fun w hw=>take_any gb HT r90 (q90) [93] w hm90 hw) ?_
       intro ⟨b92,r92,q92⟩ ⟨h92t,h92f,hq92,hb92,hm92⟩
       simp only at hq92 hb92
       refine Ln (Et (Cs (Cr ?_)))
       refine V0 (Ym rfl) ?_
       refine Lf 0 rfl ?_
       refine Lw (ι:=Bool×(Option Addr×Nat)×Tk) [_] _ (.inl rfl) rfl en60 rfl rfl (fun i=>.bool i.1) (fun i=>eyeL gb i.2.1 (i.2.2)) (fun i=>(i.1=true→takT [61] (q92)=some i.2.2)∧(i.1=false→takT [61] (q92)=none∧q92=i.2.2)∧i.2.2=takE [61] (q92)∧i.1=(takT [61] (q92)).isSome∧Sl rdTok 3 HT i.2.1.1 i.2.1.2 i.2.2) [HT] (by simp) (fun w hw=>take_any gb HT r92 (q92) [61] w hm92 hw) ?_
       intro ⟨b94,r94,q94⟩ ⟨h94t,h94f,hq94,hb94,hm94⟩
       simp only at hq94 hb94
       refine Ln (Et ?_)
       refine CU (fun _=>true) [2,0] [5] (.q true 0 (.q false 1 (.e 2 (.e 3 (.q false 4 .nil) .stop) .stop))) mixed (by kernel_rfl) (fun _ _ _ d _ _ h=>by cases d<;>exact h) ?_
       refine Uq rfl (.inl rfl) rfl (fun _ h=>by have h:=Ws.out 2 h; have h:=Ws.out 0 h; exact h) (Yda 0 rfl rfl ag81 rfl) ?_
       refine Uq rfl (.inl rfl) rfl (fun _ h=>by have h:=Ws.out 2 h; have h:=Ws.out 0 h; exact h) (Ym rfl) ?_
       refine Ue rfl (fun _ h=>by have h:=Ws.out 2 h; have h:=Ws.out 0 h; exact h) ?_ WU.stop
       refine Lf 0 rfl ?_
       refine Lwd (ι:=((TExpr)×(Option Addr×Nat))×(Option Addr×Nat)×Tk) [_] _ (.inl rfl) rfl en106 rfl rfl (fun i=>.agg #[.int .i64 (i.1.1).op,.int .i64 (i.1.1).n,st (i.1.1).mod,st (i.1.1).nm,.slice i.1.2.1 (i.1.1).args.length i.1.2.2]) (fun i=>eyeL gb i.2.1 (i.2.2)) (fun F i=>exprE 7 (q94)=(i.1.1,i.2.2)∧Sl (RdE 7) 5 F i.1.2.1 i.1.2.2 i.1.1.args∧Sl rdTok 3 HT i.2.1.1 i.2.1.2 i.2.2) ([HT]) (by simp) (fun _ _ h=>h) (fun w hw=>((fun gb r l d w h1 h2 h3=>eexpr_any HT 7 gb r l d w h1 h2 h3) gb r94 (q94) 1 w (by omega) hm94 hw).mono fun e w' ⟨x,s,r2,q,h1,h2,h3,h4,h5⟩=>⟨((x,s),r2,q),h1,⟨h2,h3,h4⟩,h5⟩) ?_
       intro F97 ⟨⟨x97,s97⟩,r97,q97⟩ hf97 ⟨hq97,hx97,hm97⟩
       simp only at hq97
       refine Ln (Eu ?_)
       refine Ue rfl (fun _ h=>by have h:=Ws.out 2 h; have h:=Ws.out 0 h; have h:=Ws.drops h (fun _ hm=>List.mem_append_right [_] hm); exact h) ?_ WU.stop
       refine Lb (.inl rfl) rfl el41 rfl rfl rfl rfl fun b98=>?_
       refine LN (rd:=rdXE) (f:=XE.cells) (m:=2) 0 [(x90,s90.1,s90.2),(x97,s97.1,s97.2)] rfl rfl (fun k hk=>by simp [glassL,blk] at hk; subst hk; simp [outOf,glassL,blk,osl]) XE.cells_len (fun _ _ _ _ h=>h) (show 2≤2 by decide) (by decide) fun H98 fH98 hH98=>?_
       refine Ln (Eu ?_)
       refine Uq rfl (.inl rfl) rfl (fun _ h=>by have h:=Ws.out 2 h; have h:=Ws.out 0 h; have h:=Ws.drops h (fun _ hm=>List.mem_append_right [_,_] hm); exact h) (Yf fo43_3 rfl) ?_
       refine WU.nil (fun _ h=>by have h:=Ws.out 2 h; have h:=Ws.out 0 h; have h:=Ws.drops h (fun _ hm=>List.mem_append_right [_,_] hm); exact h) ?_
       refine WS.e rfl ?_
       refine Lst 2 (.inl rfl) rfl rfl rfl sz41 rfl rfl rfl ?_
       refine Ln (Es ?_)
       refine WS.nil ?_
       refine Eb (Et (Cs (Cr ?_)))
       refine V0 (Ym rfl) ?_
       refine Lf 0 rfl ?_
       refine Lw (ι:=Bool×(Option Addr×Nat)×Tk) [_] _ (.inl rfl) rfl en60 rfl rfl (fun i=>.bool i.1) (fun i=>eyeL gb i.2.1 (i.2.2)) (fun i=>(i.1=true→takT [59] (q97)=some i.2.2)∧(i.1=false→takT [59] (q97)=none∧q97=i.2.2)∧i.2.2=takE [59] (q97)∧i.1=(takT [59] (q97)).isSome∧Sl rdTok 3 HT i.2.1.1 i.2.1.2 i.2.2) [HT] (by simp) (fun w hw=>take_any gb HT r97 (q97) [59] w hm97 hw) ?_
       intro ⟨b101,r101,q101⟩ ⟨h101t,h101f,hq101,hb101,hm101⟩
       simp only at hq101 hb101
       refine Ln (Et (Cs (Cr ?_)))
       refine V0 (Yda 2 rfl rfl ag43 rfl) ?_
       refine Lst 3 (.inl rfl) rfl rfl rfl sz43 rfl rfl rfl ?_
       refine Ln (Et (Crt ?_))
       refine WE.retR (rs_1 rfl (rv_agg 3 rfl rfl ag43 rfl)) fun w' hw=>?_
       exact ⟨TStmt.mk 2 p66.1 p66.2 [x90,x97] [] [],⟨(some ⟨b98,0,none⟩,2),((none,0):Option Addr×Nat),((none,0):Option Addr×Nat)⟩,r101,q101,rfl,by rw [hq92] at hq94; rw [hq94] at hq97; rw [hS,hR,simE_6 hn80 (hl80▸ht87) hq90 hq97,hq101],⟨(slE_of hH98 (nv_vs hw (by simp) fH98) (VLe.refl _) (((XEs.nil (nv w w') 7).snoc (VLe.refl _) (nv_vs hw (by simp) hf90) hx90).snoc (VLe.refl _) (nv_vs hw (by simp) hf97) hx97)),Sl.nil,Sl.nil⟩,hm101,Ws.drops (Ws.keep (L:=[_]) hw) (fun _ hm=>List.mem_append_right [_,_,_] hm)⟩
      ·
       obtain ⟨hn87,hl87⟩:=h87f hc6
       simp only at hl87
       refine Cs (Cr ?_)
       refine V0 (Yf fo43_0 rfl) ?_
       refine Lst 1 (.inl rfl) rfl rfl rfl sz3 rfl rfl rfl ?_
       refine Ln (Et (Cs (Cr ?_)))
       refine V0 (Ym rfl) ?_
       refine Lf 0 rfl ?_
       refine Lw (ι:=Bool×(Option Addr×Nat)×Tk) [_] _ (.inl rfl) rfl en60 rfl rfl (fun i=>.bool i.1) (fun i=>eyeL gb i.2.1 (i.2.2)) (fun i=>(i.1=true→takT [61] (q87)=some i.2.2)∧(i.1=false→takT [61] (q87)=none∧q87=i.2.2)∧i.2.2=takE [61] (q87)∧i.1=(takT [61] (q87)).isSome∧Sl rdTok 3 HT i.2.1.1 i.2.1.2 i.2.2) [HT] (by simp) (fun w hw=>take_any gb HT r87 (q87) [61] w hm87 hw) ?_
       intro ⟨b73,r73,q73⟩ ⟨h73t,h73f,hq73,hb73,hm73⟩
       simp only at hq73 hb73
       refine Ln (Et (Cr ?_))
       refine V0 (Ym rfl) ?_
       refine Lf 0 rfl ?_
       refine Lwd (ι:=((TExpr)×(Option Addr×Nat))×(Option Addr×Nat)×Tk) [_] _ (.inl rfl) rfl en106 rfl rfl (fun i=>.agg #[.int .i64 (i.1.1).op,.int .i64 (i.1.1).n,st (i.1.1).mod,st (i.1.1).nm,.slice i.1.2.1 (i.1.1).args.length i.1.2.2]) (fun i=>eyeL gb i.2.1 (i.2.2)) (fun F i=>exprE 7 (q73)=(i.1.1,i.2.2)∧Sl (RdE 7) 5 F i.1.2.1 i.1.2.2 i.1.1.args∧Sl rdTok 3 HT i.2.1.1 i.2.1.2 i.2.2) ([HT]) (by simp) (fun _ _ h=>h) (fun w hw=>((fun gb r l d w h1 h2 h3=>eexpr_any HT 7 gb r l d w h1 h2 h3) gb r73 (q73) 1 w (by omega) hm73 hw).mono fun e w' ⟨x,s,r2,q,h1,h2,h3,h4,h5⟩=>⟨((x,s),r2,q),h1,⟨h2,h3,h4⟩,h5⟩) ?_
       intro F75 ⟨⟨x75,s75⟩,r75,q75⟩ hf75 ⟨hq75,hx75,hm75⟩
       simp only at hq75
       refine Lb (.inl rfl) rfl el41 rfl rfl rfl rfl fun b76=>?_
       refine LN (rd:=rdXE) (f:=XE.cells) (m:=1) 0 [(x75,s75.1,s75.2)] rfl rfl (fun k hk=>by simp [glassL,blk] at hk; subst hk; simp [outOf,glassL,blk,osl]) XE.cells_len (fun _ _ _ _ h=>h) (show 1≤1 by decide) (by decide) fun H76 fH76 hH76=>?_
       refine V0 (Yf fo43_3 rfl) ?_
       refine Lst 1 (.inl rfl) rfl rfl rfl sz41 rfl rfl rfl ?_
       refine Ln (Eb (Et (Cs (Cr ?_))))
       refine V0 (Ym rfl) ?_
       refine Lf 0 rfl ?_
       refine Lw (ι:=Bool×(Option Addr×Nat)×Tk) [_] _ (.inl rfl) rfl en60 rfl rfl (fun i=>.bool i.1) (fun i=>eyeL gb i.2.1 (i.2.2)) (fun i=>(i.1=true→takT [59] (q75)=some i.2.2)∧(i.1=false→takT [59] (q75)=none∧q75=i.2.2)∧i.2.2=takE [59] (q75)∧i.1=(takT [59] (q75)).isSome∧Sl rdTok 3 HT i.2.1.1 i.2.1.2 i.2.2) [HT] (by simp) (fun w hw=>take_any gb HT r75 (q75) [59] w hm75 hw) ?_
       intro ⟨b101,r101,q101⟩ ⟨h101t,h101f,hq101,hb101,hm101⟩
       simp only at hq101 hb101
       refine Ln (Et (Cs (Cr ?_)))
       refine V0 (Yda 1 rfl rfl ag43 rfl) ?_
       refine Lst 2 (.inl rfl) rfl rfl rfl sz43 rfl rfl rfl ?_
       refine Ln (Et (Crt ?_))
       refine WE.retR (rs_1 rfl (rv_agg 2 rfl rfl ag43 rfl)) fun w' hw=>?_
       exact ⟨TStmt.mk 1 p66.1 p66.2 [x75] [] [],⟨(some ⟨b76,0,none⟩,1),((none,0):Option Addr×Nat),((none,0):Option Addr×Nat)⟩,r101,q101,rfl,by rw [hq73,←hl87,←hl80] at hq75; rw [hS,hR,simE_7 hn80 (by rw [hl80]; exact hn87) hq75,hq101],⟨(slE_of hH76 (nv_vs hw (by simp) fH76) (nv_vs hw (by simp) hf75) ((XEs.nil F75 7).snoc (VLe.refl _) (VLe.refl _) hx75)),Sl.nil,Sl.nil⟩,hm101,Ws.drops (Ws.keep (L:=[_]) hw) (fun _ hm=>List.mem_append_right [_,_] hm)⟩
end Go.Proofs.YtjfldjidhkfnbaaGreatDoor
end
section
namespace Go.Proofs.YtjfldjidhkfnbaaGreatDoor
open Go.Bw
set_option linter.unusedVariables false
set_option linter.unusedSimpArgs false
theorem decT {d:Nat} (h:6<d):decide ((6:Int)<(d:Int))=true:=by simp; omega
theorem decF {d:Nat} (h:¬6<d):decide ((6:Int)<(d:Int))=false:=by simp; omega
theorem en85:Enters Tryz.prog 85:=enters_of Tryz.func85 (by kernel_rfl) rfl
theorem eblock_any (HT:View) (f:Nat) (gb:Nat) (r:Option Addr×Nat) (l:Tk) (d:Nat) (w:World) (hfd:f+d=7) (hm:Sl rdTok 3 HT r.1 r.2 l) (hw:Ws w (List.flatMap Asr.ids (eyeL gb r l)) (eyeL gb r l) [HT] w) :
   Calls Tryz.prog 63 #[.pointer (some ⟨gb,0,none⟩),.int .i64 (d:Int)] w fun e w'=>∃(x:List TStmt) (s:Option Addr×Nat) (r2:Option Addr×Nat) (q:Tk),e = .returned (.slice s.1 x.length s.2)∧blockE f l=(x,q)∧Sl (RdS 8 f) 6 (nv w w') s.1 s.2 x∧Sl rdTok 3 HT r2.1 r2.2 q∧Ws w (List.flatMap Asr.ids (eyeL gb r l)) (eyeL gb r2 q) [HT] w':=by
 induction f using Nat.strongRecOn generalizing gb r l d w
 rename_i f ih
 refine enter Tryz.func63 rfl 49 rfl rfl ?_
 refine CWd (W':=Ws w (List.flatMap Asr.ids (eyeL gb r l)) (eyeL gb r l) [HT]) (fun _ e=>by subst e; exact hw) ?_
 refine Cs (Cr ?_)
 refine V0 (Ya rfl) ?_
 refine Ln (Et (Cs (Cr ?_)))
 refine V0 (Ya rfl) ?_
 refine LW (fun _ h=>h.osl_nil 43 6) ?_
 refine WL.v0 ?_
 refine Ln (Et (Cs (Cs ?_)))
 by_cases hsp2:6<d
 ·
  have hspv2:decide ((6:Int)<(d:Int))=true:=decT hsp2
  refine Cr ?_
  refine V0 (Ym rfl) ?_
  refine V0 (yl_gt rfl rfl) ?_
  refine V0 (Ym rfl) ?_
  rw [hspv2]
  refine WL.skip rfl rfl rfl rfl rfl ?_
  refine WL.skip rfl rfl rfl rfl rfl ?_
  refine WL.skip rfl rfl rfl rfl rfl ?_
  refine V0 (yl_pickt rfl rfl) ?_
  refine Ln (Et ?_)
  refine Cc rfl (fun hc0=>?_) (fun hc0=>?_)
  ·
   refine Cs (Cr ?_)
   refine V0 (Ya rfl) ?_
   refine Ln (Et (Crt (Er ?_)))
   refine WE.ret1 rfl rfl fun w' hw=>?_
   exact ⟨[],(none,0),r,l,rfl,blockE_0 hfd hsp2,Sl.nil,hm,Ws.drop (L:=[_]) (Ws.drops hw (fun _ hm=>List.mem_append_right [_] hm))⟩
  ·
   cases hc0
 ·
  have hspv2:decide ((6:Int)<(d:Int))=false:=decF hsp2
  obtain ⟨f,rfl⟩:∃k,f=k+1:=⟨f-1,by omega⟩
  have hB:EyeB HT f:=fun gb r l d w h1 h2 h3=>ih f (by omega) gb r l d w h1 h2 h3
  refine Cr ?_
  refine V0 (Ym rfl) ?_
  refine V0 (yl_gt rfl rfl) ?_
  refine V0 (Ym rfl) ?_
  rw [hspv2]
  refine Lv (.g rfl rfl rfl) rfl (Ym rfl) ?_
  refine Lf 1 rfl ?_
  refine Lw (ι:=Bool×(Option Addr×Nat)×Tk) [_] _ (.g rfl rfl rfl) rfl en60 rfl rfl (fun i=>.bool i.1) (fun i=>eyeL gb i.2.1 (i.2.2)) (fun i=>(i.1=true→takT [123] (l)=some i.2.2)∧(i.1=false→takT [123] (l)=none∧l=i.2.2)∧i.2.2=takE [123] (l)∧i.1=(takT [123] (l)).isSome∧Sl rdTok 3 HT i.2.1.1 i.2.1.2 i.2.2) [HT] (by simp) (fun w hw=>take_any gb HT r (l) [123] w hm hw) ?_
  intro ⟨b11,r11,q11⟩ ⟨h11t,h11f,hq11,hb11,hm11⟩
  simp only at hq11 hb11
  refine Lv (.g rfl rfl rfl) rfl (yl_not rfl) ?_
  refine V0 (yl_pickf rfl rfl) ?_
  refine Ln (Et ?_)
  refine Cc rfl (fun hc0=>?_) (fun hc0=>?_)
  ·
   obtain ⟨hn11,hl11⟩:=h11f (by simpa using hc0)
   simp only at hl11
   refine Cs (Cr ?_)
   refine V0 (Ya rfl) ?_
   refine Ln (Et (Crt (Er ?_)))
   refine WE.ret1 rfl rfl fun w' hw=>?_
   exact ⟨[],(none,0),r11,q11,rfl,by rw [blockE_1 hn11,hl11],Sl.nil,hm11,Ws.drops (Ws.keep (L:=[_]) hw) (fun _ hm=>List.mem_append_right [_] hm)⟩
  ·
   have ht11:takT _ _=some q11:=h11t (by simpa using hc0)
   refine Ck (Et (Cs (Cb ?_)))
   refine CK (ι:=GS) (fun g=>[(5,.slice g.a g.es.length g.c)]) [(0,_),(1,_),(4,_)] (fun g=>Ws w (List.flatMap Asr.ids (eyeL gb r l)) (eyeL gb g.r g.q++[osT 43 6 SX.cells g.a g.c g.es]) [g.J,HT]) (fun g=>g.es.length≤11∧Sl rdTok 3 HT g.r.1 g.r.2 g.q∧(Fresh w g.J∧SXs8 g.J f g.es)∧stmtsE (stmtE (blockE f)) 11 q11=(g.es.map (·.1)++(stmtsE (stmtE (blockE f)) (11-g.es.length) g.q).1,(stmtsE (stmtE (blockE f)) (11-g.es.length) g.q).2)) (fun g=>11-g.es.length) ⟨[],none,0,v0,r11,q11⟩ ⟨Nat.zero_le _,hm11,⟨v0_fresh w,SXs8.nil _ _⟩,by simp⟩ (sc rfl (sc rfl (sc rfl (sc rfl sn)))) (fun _ h=>by have h:=h.fronti 1 rfl; have h:=h.fronti 1 rfl; have h:=Ws.drops h (Vs':=[v0,HT]) (by simp); exact h) ?_
   intro g ⟨hle,hmg,⟨hfJ,hXE⟩,hA⟩
   refine Cs (Cs (Cr ?_))
   refine V0 (Ym rfl) ?_
   refine Lf 0 rfl ?_
   refine Lw (ι:=Bool×(Option Addr×Nat)×Tk) [_] _ (.inl rfl) rfl en60 rfl rfl (fun i=>.bool i.1) (fun i=>eyeL gb i.2.1 (i.2.2)) (fun i=>(i.1=true→takT [125] (g.q)=some i.2.2)∧(i.1=false→takT [125] (g.q)=none∧g.q=i.2.2)∧i.2.2=takE [125] (g.q)∧i.1=(takT [125] (g.q)).isSome∧Sl rdTok 3 HT i.2.1.1 i.2.1.2 i.2.2) [HT] (by simp) (fun w hw=>take_any gb HT g.r (g.q) [125] w hmg hw) ?_
   intro ⟨b15,r15,q15⟩ ⟨h15t,h15f,hq15,hb15,hm15⟩
   simp only at hq15 hb15
   refine V0 (yl_not rfl) ?_
   refine V0 (Ym rfl) ?_
   apply WL.and 6 rfl rfl rfl rfl (.inl rfl) rfl rfl rfl rfl rfl
   ·
    intro hg0
    refine Lv (.g rfl rfl rfl) rfl (Ym rfl) ?_
    refine Lv (.g rfl rfl rfl) rfl (yl_nil rfl) ?_
    refine Lv (.g rfl rfl rfl) rfl (Yf fo105_0 rfl) ?_
    refine Lv (.g rfl rfl rfl) rfl (Yd 0 rfl rfl rfl na61) ?_
    refine Lv (.g rfl rfl rfl) rfl (Yn es61 rfl) ?_
    refine Lv (.g rfl rfl rfl) rfl (yl_gt rfl rfl) ?_
    exact Gt 6 rfl rfl rfl
   refine V0 (Ym rfl) ?_
   apply WL.and 3 rfl rfl rfl rfl (.inl rfl) rfl rfl rfl rfl rfl
   ·
    intro hg1
    refine Lv (.g rfl rfl rfl) rfl (Ym rfl) ?_
    refine Lv (.g rfl rfl rfl) rfl (Yn es25 rfl) ?_
    refine Lv (.g rfl rfl rfl) rfl (yl_le rfl rfl) ?_
    exact Gt 3 rfl rfl rfl
   refine Ln (Et ?_)
   refine Cc rfl (fun hc1=>?_) (fun hc1=>?_)
   ·
    have hcs:b15=false∧0<q15.length∧g.es.length≤10:=by simp at hc1; exact ⟨hc1.1.1,by omega,by omega⟩
    obtain ⟨hz15,hl15⟩:=h15f hcs.1
    simp only at hl15
    obtain ⟨n,hn⟩:∃n,11-g.es.length=n+1:=⟨10-g.es.length,by omega⟩
    rw [hl15] at hz15 hA
    have hz0:¬q15.length=0:=by omega
    refine Ck (Et (Cb (Cs (Cr ?_))))
    refine V0 (Ym rfl) ?_
    refine V0 (yl_nil rfl) ?_
    refine V0 (Yf fo105_0 rfl) ?_
    refine V0 (Yd 0 rfl rfl rfl na61) ?_
    refine V0 (Yn es61 rfl) ?_
    refine V0 (Ya rfl) ?_
    refine Ln (Et (Cs (Cr ?_)))
    refine V0 (Ym rfl) ?_
    refine V0 (Ym rfl) ?_
    refine V0 (Ym rfl) ?_
    refine Lf 0 rfl ?_
    refine Lwd (ι:=(TStmt×SAt)×(Option Addr×Nat)×Tk) [_] _ (.inl rfl) rfl en85 rfl rfl (fun i=>.agg #[.int .i64 (i.1.1).op,st (i.1.1).mod,st (i.1.1).nm,.slice (i.1.2).s1.1 (i.1.1).args.length (i.1.2).s1.2,.slice (i.1.2).s2.1 (i.1.1).body.length (i.1.2).s2.2,.slice (i.1.2).s3.1 (i.1.1).other.length (i.1.2).s3.2]) (fun i=>eyeL gb i.2.1 (i.2.2)) (fun F i=>stmtE (blockE f) (q15)=(i.1.1,i.2.2)∧SlS8 f F i.1.1 i.1.2∧Sl rdTok 3 HT i.2.1.1 i.2.1.2 i.2.2) ([HT]) (by simp) (fun _ _ h=>h) (fun w hw=>(estmt_any gb HT r15 (q15) f d w hB (by omega) hm15 hw).mono fun e w' ⟨x,s,r2,q,h1,h2,h3,h4,h5⟩=>⟨((x,s),r2,q),h1,⟨h2,h3,h4⟩,h5⟩) ?_
    intro F38 ⟨⟨x38,s38⟩,r38,q38⟩ hf38 ⟨hq38,hx38,hm38⟩
    simp only at hq38
    refine WL.vjoin fun J38 j38a j38b j38f=>?_
    refine Lb (.inl rfl) rfl el25 rfl rfl rfl rfl fun b39=>?_
    refine Lrb 0 (.cells (SX.cells (x38,s38)).toArray 43 (0,0)) rfl rfl ?_
    refine LA ((x38,s38):SX) 2 0 (.inl rfl) rfl el25 rfl rfl rfl rfl rfl rfl (by omega) (by omega) fun a40 c40=>?_
    refine V0 (Ya rfl) ?_
    refine Ln (Et (Cs (Cr ?_)))
    refine V0 (Ym rfl) ?_
    refine V0 (yl_nil rfl) ?_
    refine V0 (Yf fo105_0 rfl) ?_
    refine V0 (Yd 1 rfl rfl rfl na61) ?_
    refine V0 (Yn es61 rfl) ?_
    refine V0 (Ym rfl) ?_
    refine V0 (yl_eq rfl rfl) ?_
    refine Ln (Et ?_)
    refine Cc rfl (fun hc2=>?_) (fun hc2=>?_)
    ·
     refine Ce (Ebm rfl (Ex (Ebh (Et (Cs ?_)))))
     refine WC.oslN (rd:=rdSX) 2 rfl (fun k hk=>by simp [glassL,blk] at hk; subst hk; simp [outOf,glassL,blk,osl]) SX.cells_len (fun _ _ _ _ h=>h) fun K8 fK8 hK8=>?_
     refine Cr ?_
     refine V0 (Ym rfl) ?_
     refine V0 (Ya rfl) ?_
     refine Ln (Et (Crt ?_))
     refine WE.ret1 rfl rfl fun w' hw=>?_
     exact ⟨(g.es++[(x38,s38)]).map (·.1),(a40,c40),r38,q38,by rw [List.length_map],by rw [blockE_2 ht11,hA,hn,stmtsE_3 hz15 hz0 hq38 (by simp at hc2; omega)]; simp,slS8_of hK8 (nv_vs hw (by simp) fK8) (nv_vs hw (by simp) (j38f _ hf38 hfJ)) (SXs8.snoc hXE j38b j38a hx38),hm38,Ws.drop (L:=[_]) (Ws.drops hw (fun _ hm=>List.mem_append_right [_,_] hm))⟩
    ·
     have hne:¬q38.length=q15.length:=by simp at hc2; omega
     refine Ck (Eb ?_)
     exact Ea (⟨g.es++[(x38,s38)],a40,c40,J38,r38,q38⟩:GS) (by show 11-(g.es++[(x38,s38)]).length<11-g.es.length; simp; omega) ⟨by simp; omega,hm38,⟨j38f _ hf38 hfJ,SXs8.snoc hXE j38b j38a hx38⟩,by
         have e1:11-(g.es++[((x38,s38):SX)]).length=n:=by simp; omega
         show stmtsE (stmtE (blockE f)) 11 q11=((g.es++[((x38,s38):SX)]).map (·.1)++(stmtsE (stmtE (blockE f)) (11-(g.es++[((x38,s38):SX)]).length) q38).1,(stmtsE (stmtE (blockE f)) (11-(g.es++[((x38,s38):SX)]).length) q38).2)
         rw [e1,hA,hn,stmtsE_4 hz15 hz0 hq38 hne]; simp⟩ (sc rfl (sc rfl (sc rfl (sc rfl sn)))) (fun _ h=>by
         have h:=h.fronti 2 rfl
         have h:=h.fronti 2 rfl
         have h:=Ws.keep (L:=[_,_]) h
         have h:=Ws.drops h (Vs':=[J38,HT]) (by simp)
         exact h)
   ·
    have hE0:stmtsE (stmtE (blockE f)) (11-g.es.length) g.q=([],q15):=by
      cases hb:b15 with
      | true=>exact stmtsE_1 (h15t hb)
      | false=>
        obtain ⟨hz15,hl15⟩:=h15f hb
        simp only at hl15
        by_cases h0:g.q.length=0
        · rw [stmtsE_2 hz15 h0,hl15]
        · have:¬g.es.length≤10:=by
            intro h10
            have h1:0<q15.length:=by rw [←hl15]; omega
            have h2:(g.es.length:Int)≤10:=by omega
            have h3:(0:Int)<(q15.length:Int):=by omega
            simp [hb,h2] at hc1
            rw [hc1] at h1; simp at h1
          rw [show 11-g.es.length=0 by omega,stmtsE_0,hq15]
    refine Ce (Ex (Ex (Ebh (Et (Cs ?_)))))
    refine WC.oslN (rd:=rdSX) 1 rfl (fun k hk=>by simp [glassL,blk] at hk; subst hk; simp [outOf,glassL,blk,osl]) SX.cells_len (fun _ _ _ _ h=>h) fun K8 fK8 hK8=>?_
    refine Cr ?_
    refine V0 (Ym rfl) ?_
    refine V0 (Ya rfl) ?_
    refine Ln (Et (Crt ?_))
    refine WE.ret1 rfl rfl fun w' hw=>?_
    exact ⟨g.es.map (·.1),(g.a,g.c),r15,q15,by rw [List.length_map],by rw [blockE_2 ht11,hA,hE0]; simp,slS8_of hK8 (nv_vs hw (by simp) fK8) (nv_vs hw (by simp) hfJ) hXE,hm15,(Ws.drops hw (fun _ hm=>List.mem_append_right [_,_] hm))⟩
end Go.Proofs.YtjfldjidhkfnbaaGreatDoor
end
