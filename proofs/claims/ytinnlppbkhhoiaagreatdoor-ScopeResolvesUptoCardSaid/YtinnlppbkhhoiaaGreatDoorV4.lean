/- scope.Resolve answers as the document says, errors too, where what is handed in has a bulk of at most 1048576 (the second form, over the tied card). -/
import Derived.Lib.AppendZeros
import Derived.Test.YtinnlppbkhhoiaaGreatDoorV3
set_option linter.unusedVariables false
set_option linter.unusedSimpArgs false
section
namespace Go.Proofs.YtinnlppbkhhoiaaGreatDoor
open Go.Bw
set_option linter.unusedVariables false
set_option linter.unusedSimpArgs false
theorem lookB_no {l:List TStmt} {lv d:Nat} (h:¬6<d):lookB l lv d=(((lv==2)&&decide (10<l.length))||lookSs l lv d):=by unfold lookB blkL; rw [if_neg h]
def LookB (H:View) (ke k lv:Nat):Prop:=∀(l:List TStmt) (a:Option Addr) (n d:Nat) (w:World),Le H w→d≤7→Sl (RdS ke k) 6 H a n l→Calls Tryz.prog 65 #[.slice a l.length n,.int .i64 (lv:Int),.int .i64 (d:Int)] w fun e w'=>e = .returned (.bool (lookB l lv d))∧Ext w w'
theorem str_one (s:Tx):(strC s).all (·.oneCell')=true:=rfl
theorem modL_end {m:TMod} {lv:Nat} (h0:(((lv==2)&&((decide (3<m.uses.length)||decide (10<m.decls.length))||decide (6<m.procs.length)))||badN lv m.nm)=false) (h1:m.uses.any (badN lv)=false) (h2:m.decls.any (declL lv)=false) (h3:m.procs.any (procL lv)=false):modL m lv=lookB m.main lv 1:=by
 unfold modL; rw [h0,h1,h2,h3]; rfl
theorem modL_0 {m:TMod} {lv:Nat} (h0:(((lv==2)&&((decide (3<m.uses.length)||decide (10<m.decls.length))||decide (6<m.procs.length)))||badN lv m.nm)=true):modL m lv=true:=by unfold modL; rw [h0]; rfl
theorem modL_1 {m:TMod} {lv:Nat} (h:m.uses.any (badN lv)=true):modL m lv=true:=by unfold modL; rw [h]; simp
theorem modL_2 {m:TMod} {lv:Nat} (h:m.decls.any (declL lv)=true):modL m lv=true:=by unfold modL; rw [h]; simp
theorem modL_3 {m:TMod} {lv:Nat} (h:m.procs.any (procL lv)=true):modL m lv=true:=by unfold modL; rw [h]; simp
theorem en65:Enters Tryz.prog 65:=enters_of Tryz.func65 (by kernel_rfl) rfl
theorem en77:Enters Tryz.prog 77:=enters_of Tryz.func77 (by kernel_rfl) rfl
theorem en101:Enters Tryz.prog 101:=enters_of Tryz.func101 (by kernel_rfl) rfl
theorem en85:Enters Tryz.prog 85:=enters_of Tryz.func85 (by kernel_rfl) rfl
theorem en49:Enters Tryz.prog 49:=enters_of Tryz.func49 (by kernel_rfl) rfl
theorem stmtLook_any (H:View) (ke k:Nat) (x:TStmt) (a:Option Addr) (n:Nat) (a2:Option Addr) (n2:Nat) (a3:Option Addr) (n3 lv d:Nat) (w:World) (hH:Le H w) (hlv:1≤lv∧lv≤3) (hd0:d≤6) (hB:LookB H ke k lv) (hs1:Sl (RdE ke) 5 H a n x.args) (hs2:Sl (RdS ke k) 6 H a2 n2 x.body) (hs3:Sl (RdS ke k) 6 H a3 n3 x.other) :
   Calls Tryz.prog 85 #[.agg #[.int .i64 x.op,st x.mod,st x.nm,.slice a x.args.length n,.slice a2 x.body.length n2,.slice a3 x.other.length n3],.int .i64 (lv:Int),.int .i64 (d:Int)] w fun e w'=>e = .returned (.bool (lookS x lv d))∧Ext w w':=by
 have hcap:=hs1.cap
 have hmax:=hs1.max
 have hcap2:=hs2.cap
 have hcap3:=hs3.cap
 have hmax2:=hs2.max
 have hmax3:=hs3.max
 have hE:=lookS_eq x lv d
 refine enter Tryz.func85 rfl 144 rfl rfl ?_
 refine CWd (W':=Ws w [] [] [H]) (fun _ e=>by subst e; exact Ws.init (by simp [hH])) ?_
 refine Cs (Cr ?_)
 refine WL.box (.inl rfl) rfl rfl fun b3=>?_
 refine V0 (Ya rfl) ?_
 refine Ln (Et (Cs (Cs (Cr ?_))))
 refine V0 (Ym rfl) ?_
 refine Ln (Et (Cb (Cs (Cr ?_))))
 refine V0 (yl_eq rfl rfl) ?_
 refine V0 (Ya rfl) ?_
 refine Ln (Et ?_)
 refine Cc rfl (fun hc0=>?_) (fun hc0=>?_)
 ·
  have hl:lv=1:=by simp at hc0; omega
  subst hl
  refine Cs (Cr ?_)
  refine V0 (Yf fo118_0 rfl) ?_
  refine V0 (Yd 0 rfl rfl rfl na3) ?_
  refine Lp (.inl rfl) rfl en30 rfl (fun w hw=>within_any _ _ _ w) ?_
  refine V0 (yl_not rfl) ?_
  refine Ln (Et ?_)
  refine Cc rfl (fun hc1=>?_) (fun hc1=>?_)
  ·
   have hy:lvS 1 x.op x.mod x.nm x.args.length x.body.length x.other.length=true:=hc1
   refine Cs (Cr ?_)
   refine V0 (Ya rfl) ?_
   refine Ln (Et (Crt (Ebr (Er ?_))))
   refine WE.ret1 rfl rfl fun w' hw=>?_
   exact ⟨by rw [hE,hy]; rfl,hw.fr⟩
  ·
   have hno:lvS 1 x.op x.mod x.nm x.args.length x.body.length x.other.length=false:=hc1
   refine Ck (Eb (Et (Cs (Cs (Cr ?_)))))
   refine V0 (Ya rfl) ?_
   refine Ln (Et (Cb ?_))
   refine CW (ι:=Nat) (fun i=>[(7,.int .i64 (i:Int))]) [(1,_),(2,_),(3,_)] (fun i=>i≤x.args.length∧∀j y,j<i→x.args[j]? = some y→lookE y 1 1=false) (fun i=>x.args.length-i) 0 ⟨Nat.zero_le _,by simp⟩ (sc rfl (sc rfl (sc rfl (sc rfl sn)))) ?_
   intro i ⟨hi,hall⟩
   refine Cs (Cs (Cr ?_))
   refine V0 (Ym rfl) ?_
   refine V0 (Yf fo118_3 rfl) ?_
   refine V0 (Yd 0 rfl rfl rfl na114) ?_
   refine V0 (Yn es114 rfl) ?_
   refine V0 (yl_lt rfl rfl) ?_
   refine Ln (Et ?_)
   refine Cc rfl (fun hc6=>?_) (fun hc6=>?_)
   ·
    have hlt:i<x.args.length:=by simpa using hc6
    obtain ⟨y,hyi⟩:∃q,x.args[i]? = some q:=⟨_,List.getElem?_eq_getElem hlt⟩
    obtain ⟨pby,poy,hay,hry⟩:=hs1.elt i y hyi
    obtain ⟨k2,rfl⟩:∃k2,ke=k2+1:=by
      cases ke with
      | zero=>exact hry.elim
      | succ k2=>exact ⟨k2,rfl⟩
    obtain ⟨ya,yn,hrow,hsub⟩:=hry
    refine Ck (Et (Cs (Cb (Cs (Cr ?_)))))
    refine V0 (Yf fo118_3 rfl) ?_
    refine V0 (Yd 0 rfl rfl rfl na114) ?_
    refine V0 (Ym rfl) ?_
    refine V0 (Yo es114 rfl rfl hay (by omega)) ?_
    refine V0 (yl_lda 0 ag116 rfl rfl rfl (hrow)) ?_
    refine V0 (Ym rfl) ?_
    refine Lp (.inl rfl) rfl en102 rfl (fun w hw=>exprLook_any H k2 y ya yn _ 1 w (hw.vs _ (by simp)) hlv (by omega) hsub) ?_
    refine Ln (Et ?_)
    refine Cc rfl (fun hc7=>?_) (fun hc7=>?_)
    ·
     refine Cs (Cr ?_)
     refine V0 (Ya rfl) ?_
     refine Ln (Et (Crt (Ebr (Er (Er ?_)))))
     refine Ebr (Er ?_)
     refine WE.ret1 rfl rfl fun w' hw=>?_
     exact ⟨by rw [hE,lookEs_any,any_at hyi hc7,Bool.or_true,Bool.true_or],hw.fr⟩
    ·
     refine Ck (Eb (Et (Cr ?_)))
     refine V0 (Ym rfl) ?_
     refine V0 (Yi rfl rfl rfl (by omega)) ?_
     refine V0 (Ya rfl) ?_
     refine Ln ?_
     exact Ea (i+1) (by omega) ⟨by omega,fun j z hj hz=>by rcases Nat.lt_succ_iff_lt_or_eq.1 hj with h | rfl; exact hall j z h hz; rw [hyi] at hz; injection hz with hz; subst hz; exact hc7⟩ (sc rfl (sc rfl (sc rfl (sc rfl sn)))) (fun _ h=>h)
   ·
    have hge:¬i<x.args.length:=by simpa using hc6
    have hnn:lookEs x.args 1 1=false:=by rw [lookEs_any]; exact any_false fun j y hj=>hall j y (by have:=(List.getElem?_eq_some_iff.1 hj).1; omega) hj
    refine Ce (Ex (Ex (Ebh (Et (Cs ?_)))))
    refine Cr ?_
    refine V0 (Yf fo118_0 rfl) ?_
    refine V0 (Yd 0 rfl rfl rfl na3) ?_
    refine V0 (yl_eq rfl rfl) ?_
    refine V0 (Ym rfl) ?_
    apply WL.or 3 rfl rfl rfl rfl (.inl rfl) rfl rfl rfl rfl rfl
    ·
     intro hg0
     refine Lv (.g rfl rfl rfl) rfl (Yf fo118_0 rfl) ?_
     refine Lv (.g rfl rfl rfl) rfl (Yd 0 rfl rfl rfl na3) ?_
     refine Lv (.g rfl rfl rfl) rfl (yl_eq rfl rfl) ?_
     exact Gt 3 rfl rfl rfl
    refine V0 (Ya rfl) ?_
    refine Ln (Et (Cs (Cr ?_)))
    refine V0 (Ym rfl) ?_
    refine V0 (Ym rfl) ?_
    apply WL.or 4 rfl rfl rfl rfl (.inl rfl) rfl rfl rfl rfl rfl
    ·
     intro hg1
     refine Lv (.g rfl rfl rfl) rfl (Yf fo118_4 rfl) ?_
     refine Lv (.g rfl rfl rfl) rfl (Yd 0 rfl rfl rfl na25) ?_
     refine Lv (.g rfl rfl rfl) rfl (Yn es25 rfl) ?_
     refine Lv (.g rfl rfl rfl) rfl (yl_gt rfl rfl) ?_
     rw [int_lt0]
     exact Gt 4 rfl rfl rfl
    refine V0 (Ym rfl) ?_
    apply WL.and 6 rfl rfl rfl rfl (.inl rfl) rfl rfl rfl rfl rfl
    ·
     intro hg2
     refine Lv (.g rfl rfl rfl) rfl (Yf fo118_4 rfl) ?_
     refine Lv (.g rfl rfl rfl) rfl (Yd 0 rfl rfl rfl na25) ?_
     refine Lv (.g rfl rfl rfl) rfl (Ym rfl) ?_
     refine Lv (.g rfl rfl rfl) rfl (Ym rfl) ?_
     refine Lv (.g rfl rfl rfl) rfl (Yi rfl rfl rfl (by omega)) ?_
     refine Lp (.g rfl rfl rfl) rfl en65 rfl (fun w hw=>hB x.body a2 n2 (d+1) w (hw.vs _ (by simp)) (by omega) hs2) ?_
     exact Gt 6 rfl rfl rfl
    refine V0 (Ym rfl) ?_
    apply WL.or 12 rfl rfl rfl rfl (.inl rfl) rfl rfl rfl rfl rfl
    ·
     intro hg3
     refine Lv (.g rfl rfl rfl) rfl (Yf fo118_5 rfl) ?_
     refine Lv (.g rfl rfl rfl) rfl (Yd 0 rfl rfl rfl na25) ?_
     refine Lv (.g rfl rfl rfl) rfl (Yn es25 rfl) ?_
     refine Lv (.g rfl rfl rfl) rfl (yl_gt rfl rfl) ?_
     rw [int_lt0]
     refine Lv (.g rfl rfl rfl) rfl (Ym rfl) ?_
     apply WL.and 6 rfl rfl rfl rfl (.g rfl rfl rfl) rfl rfl rfl rfl rfl
     ·
      intro hg4
      refine Lv (.g rfl rfl rfl) rfl (Yf fo118_5 rfl) ?_
      refine Lv (.g rfl rfl rfl) rfl (Yd 0 rfl rfl rfl na25) ?_
      refine Lv (.g rfl rfl rfl) rfl (Ym rfl) ?_
      refine Lv (.g rfl rfl rfl) rfl (Ym rfl) ?_
      refine Lv (.g rfl rfl rfl) rfl (Yi rfl rfl rfl (by omega)) ?_
      refine Lp (.g rfl rfl rfl) rfl en65 rfl (fun w hw=>hB x.other a3 n3 (d+1) w (hw.vs _ (by simp)) (by omega) hs3) ?_
      exact Gt 6 rfl rfl rfl
     exact Gt 6 rfl rfl rfl
    refine V0 (Ya rfl) ?_
    refine Ln (Et (Crt ?_))
    refine WE.ret1 rfl rfl fun w' hw=>?_
    exact ⟨by rw [hE,hno,hnn]; rfl,hw.fr⟩
 ·
  have hl1:¬lv=1:=by simp at hc0; omega
  refine Cs (Cr ?_)
  refine V0 (yl_eq rfl rfl) ?_
  refine V0 (Ya rfl) ?_
  refine Ln (Et ?_)
  refine Cc rfl (fun hc2=>?_) (fun hc2=>?_)
  ·
   have hl:lv=2:=by simp at hc2; omega
   subst hl
   refine Cs (Cr ?_)
   refine V0 (Yf fo118_3 rfl) ?_
   refine V0 (Yd 0 rfl rfl rfl na114) ?_
   refine V0 (Yn es114 rfl) ?_
   refine V0 (yl_gt rfl rfl) ?_
   rw [int_lt3]
   refine Ln (Et ?_)
   refine Cc rfl (fun hc3=>?_) (fun hc3=>?_)
   ·
    have hy:lvS 2 x.op x.mod x.nm x.args.length x.body.length x.other.length=true:=hc3
    refine Cs (Cr ?_)
    refine V0 (Ya rfl) ?_
    refine Ln (Et (Crt (Ebr (Er ?_))))
    refine WE.ret1 rfl rfl fun w' hw=>?_
    exact ⟨by rw [hE,hy]; rfl,hw.fr⟩
   ·
    have hno:lvS 2 x.op x.mod x.nm x.args.length x.body.length x.other.length=false:=hc3
    refine Ck (Eb (Et (Cs (Cs (Cr ?_)))))
    refine V0 (Ya rfl) ?_
    refine Ln (Et (Cb ?_))
    refine CW (ι:=Nat) (fun i=>[(7,.int .i64 (i:Int))]) [(1,_),(2,_),(3,_)] (fun i=>i≤x.args.length∧∀j y,j<i→x.args[j]? = some y→lookE y 2 1=false) (fun i=>x.args.length-i) 0 ⟨Nat.zero_le _,by simp⟩ (sc rfl (sc rfl (sc rfl (sc rfl sn)))) ?_
    intro i ⟨hi,hall⟩
    refine Cs (Cs (Cr ?_))
    refine V0 (Ym rfl) ?_
    refine V0 (Yf fo118_3 rfl) ?_
    refine V0 (Yd 0 rfl rfl rfl na114) ?_
    refine V0 (Yn es114 rfl) ?_
    refine V0 (yl_lt rfl rfl) ?_
    refine Ln (Et ?_)
    refine Cc rfl (fun hc6=>?_) (fun hc6=>?_)
    ·
     have hlt:i<x.args.length:=by simpa using hc6
     obtain ⟨y,hyi⟩:∃q,x.args[i]? = some q:=⟨_,List.getElem?_eq_getElem hlt⟩
     obtain ⟨pby,poy,hay,hry⟩:=hs1.elt i y hyi
     obtain ⟨k2,rfl⟩:∃k2,ke=k2+1:=by
       cases ke with
       | zero=>exact hry.elim
       | succ k2=>exact ⟨k2,rfl⟩
     obtain ⟨ya,yn,hrow,hsub⟩:=hry
     refine Ck (Et (Cs (Cb (Cs (Cr ?_)))))
     refine V0 (Yf fo118_3 rfl) ?_
     refine V0 (Yd 0 rfl rfl rfl na114) ?_
     refine V0 (Ym rfl) ?_
     refine V0 (Yo es114 rfl rfl hay (by omega)) ?_
     refine V0 (yl_lda 0 ag116 rfl rfl rfl (hrow)) ?_
     refine V0 (Ym rfl) ?_
     refine Lp (.inl rfl) rfl en102 rfl (fun w hw=>exprLook_any H k2 y ya yn _ 1 w (hw.vs _ (by simp)) hlv (by omega) hsub) ?_
     refine Ln (Et ?_)
     refine Cc rfl (fun hc7=>?_) (fun hc7=>?_)
     ·
      refine Cs (Cr ?_)
      refine V0 (Ya rfl) ?_
      refine Ln (Et (Crt (Ebr (Er (Er ?_)))))
      refine Ebr (Er ?_)
      refine WE.ret1 rfl rfl fun w' hw=>?_
      exact ⟨by rw [hE,lookEs_any,any_at hyi hc7,Bool.or_true,Bool.true_or],hw.fr⟩
     ·
      refine Ck (Eb (Et (Cr ?_)))
      refine V0 (Ym rfl) ?_
      refine V0 (Yi rfl rfl rfl (by omega)) ?_
      refine V0 (Ya rfl) ?_
      refine Ln ?_
      exact Ea (i+1) (by omega) ⟨by omega,fun j z hj hz=>by rcases Nat.lt_succ_iff_lt_or_eq.1 hj with h | rfl; exact hall j z h hz; rw [hyi] at hz; injection hz with hz; subst hz; exact hc7⟩ (sc rfl (sc rfl (sc rfl (sc rfl sn)))) (fun _ h=>h)
    ·
     have hge:¬i<x.args.length:=by simpa using hc6
     have hnn:lookEs x.args 2 1=false:=by rw [lookEs_any]; exact any_false fun j y hj=>hall j y (by have:=(List.getElem?_eq_some_iff.1 hj).1; omega) hj
     refine Ce (Ex (Ex (Ebh (Et (Cs ?_)))))
     refine Cr ?_
     refine V0 (Yf fo118_0 rfl) ?_
     refine V0 (Yd 0 rfl rfl rfl na3) ?_
     refine V0 (yl_eq rfl rfl) ?_
     refine V0 (Ym rfl) ?_
     apply WL.or 3 rfl rfl rfl rfl (.inl rfl) rfl rfl rfl rfl rfl
     ·
      intro hg0
      refine Lv (.g rfl rfl rfl) rfl (Yf fo118_0 rfl) ?_
      refine Lv (.g rfl rfl rfl) rfl (Yd 0 rfl rfl rfl na3) ?_
      refine Lv (.g rfl rfl rfl) rfl (yl_eq rfl rfl) ?_
      exact Gt 3 rfl rfl rfl
     refine V0 (Ya rfl) ?_
     refine Ln (Et (Cs (Cr ?_)))
     refine V0 (Ym rfl) ?_
     refine V0 (Ym rfl) ?_
     apply WL.or 4 rfl rfl rfl rfl (.inl rfl) rfl rfl rfl rfl rfl
     ·
      intro hg1
      refine Lv (.g rfl rfl rfl) rfl (Yf fo118_4 rfl) ?_
      refine Lv (.g rfl rfl rfl) rfl (Yd 0 rfl rfl rfl na25) ?_
      refine Lv (.g rfl rfl rfl) rfl (Yn es25 rfl) ?_
      refine Lv (.g rfl rfl rfl) rfl (yl_gt rfl rfl) ?_
      rw [int_lt0]
      exact Gt 4 rfl rfl rfl
     refine V0 (Ym rfl) ?_
     apply WL.and 6 rfl rfl rfl rfl (.inl rfl) rfl rfl rfl rfl rfl
     ·
      intro hg2
      refine Lv (.g rfl rfl rfl) rfl (Yf fo118_4 rfl) ?_
      refine Lv (.g rfl rfl rfl) rfl (Yd 0 rfl rfl rfl na25) ?_
      refine Lv (.g rfl rfl rfl) rfl (Ym rfl) ?_
      refine Lv (.g rfl rfl rfl) rfl (Ym rfl) ?_
      refine Lv (.g rfl rfl rfl) rfl (Yi rfl rfl rfl (by omega)) ?_
      refine Lp (.g rfl rfl rfl) rfl en65 rfl (fun w hw=>hB x.body a2 n2 (d+1) w (hw.vs _ (by simp)) (by omega) hs2) ?_
      exact Gt 6 rfl rfl rfl
     refine V0 (Ym rfl) ?_
     apply WL.or 12 rfl rfl rfl rfl (.inl rfl) rfl rfl rfl rfl rfl
     ·
      intro hg3
      refine Lv (.g rfl rfl rfl) rfl (Yf fo118_5 rfl) ?_
      refine Lv (.g rfl rfl rfl) rfl (Yd 0 rfl rfl rfl na25) ?_
      refine Lv (.g rfl rfl rfl) rfl (Yn es25 rfl) ?_
      refine Lv (.g rfl rfl rfl) rfl (yl_gt rfl rfl) ?_
      rw [int_lt0]
      refine Lv (.g rfl rfl rfl) rfl (Ym rfl) ?_
      apply WL.and 6 rfl rfl rfl rfl (.g rfl rfl rfl) rfl rfl rfl rfl rfl
      ·
       intro hg4
       refine Lv (.g rfl rfl rfl) rfl (Yf fo118_5 rfl) ?_
       refine Lv (.g rfl rfl rfl) rfl (Yd 0 rfl rfl rfl na25) ?_
       refine Lv (.g rfl rfl rfl) rfl (Ym rfl) ?_
       refine Lv (.g rfl rfl rfl) rfl (Ym rfl) ?_
       refine Lv (.g rfl rfl rfl) rfl (Yi rfl rfl rfl (by omega)) ?_
       refine Lp (.g rfl rfl rfl) rfl en65 rfl (fun w hw=>hB x.other a3 n3 (d+1) w (hw.vs _ (by simp)) (by omega) hs3) ?_
       exact Gt 6 rfl rfl rfl
      exact Gt 6 rfl rfl rfl
     refine V0 (Ya rfl) ?_
     refine Ln (Et (Crt ?_))
     refine WE.ret1 rfl rfl fun w' hw=>?_
     exact ⟨by rw [hE,hno,hnn]; rfl,hw.fr⟩
  ·
   have hl2:¬lv=2:=by simp at hc2; omega
   refine Cs (Cr ?_)
   refine V0 (yl_eq rfl rfl) ?_
   refine V0 (Ya rfl) ?_
   refine Ln (Et ?_)
   refine Cc rfl (fun hc4=>?_) (fun hc4=>?_)
   ·
    have hl:lv=3:=by simp at hc4; omega
    subst hl
    refine Cs ?_
    refine WC.draws0 [(0,true),(1,true),(2,false),(3,true),(4,true),(5,true),(6,true),(7,true),(8,false),(9,true),(10,true),(11,true),(12,true),(13,true),(14,false),(15,true),(16,true),(17,true),(18,true),(19,true),(20,true),(21,true),(22,true),(23,true),(24,true),(25,true),(26,true),(27,true),(28,true),(29,true),(30,false),(31,true),(32,true),(33,true),(34,true),(35,true),(36,true),(37,true),(38,false),(39,true),(40,true),(41,true),(42,true),(43,true),(44,true),(45,true),(46,true),(47,true),(48,true),(49,true),(50,true),(51,true),(52,true),(53,true),(54,true),(55,true),(56,true),(57,true),(58,true),(59,true),(60,true),(61,true),(62,true),(63,true),(64,true),(65,true),(66,true),(67,true),(68,true)] mixed (by kernel_rfl) (fun _ _ _ d _ h=>by cases d<;>exact h) ?_
    refine Dq rfl (.inl rfl) rfl (fun _ h=>h) (Yf fo118_0 rfl) ?_
    refine Dq rfl (.inl rfl) rfl (fun _ h=>h) (Yd 0 rfl rfl rfl na3) ?_
    refine De rfl (fun _ h=>h) ?_
    refine Lp (.inl rfl) rfl en77 rfl (fun w hw=>stmtRef_any _ w) ?_
    refine Ln (Ed ?_)
    refine Dq rfl (.inl rfl) rfl (fun _ h=>h) (Ym rfl) ?_
    apply WD.and 6 rfl rfl rfl rfl rfl (.inl rfl) rfl (fun _ h=>h) rfl rfl rfl rfl
    ·
     intro hg5
     refine Dq rfl (.g rfl rfl rfl) rfl (fun _ h=>h) (Yf fo118_1 rfl) ?_
     refine Dq rfl (.g rfl rfl rfl) rfl (fun _ h=>h) (Yd 0 rfl rfl rfl na9) ?_
     refine Dq rfl (.g rfl rfl rfl) rfl (fun _ h=>h) (Yf fo118_2 rfl) ?_
     refine Dq rfl (.g rfl rfl rfl) rfl (fun _ h=>h) (Yd 0 rfl rfl rfl na9) ?_
     refine De rfl (fun _ h=>h) ?_
     refine Lp (.g rfl rfl rfl) rfl en100 rfl (fun w hw=>refFine_any _ _ w) ?_
     refine Ln (Ed ?_)
     refine Dq rfl (.g rfl rfl rfl) rfl (fun _ h=>h) (yl_not rfl) ?_
     exact Gi 6 (fun _ h=>h) rfl rfl rfl
    refine Dq rfl (.inl rfl) rfl (fun _ h=>h) (Ym rfl) ?_
    apply WD.or 14 (x:=(!within_ x.op 1 3&&(!(x.mod==[])||!(x.nm==[])))) rfl rfl rfl rfl rfl (.inl rfl) rfl (fun _ h=>h) rfl rfl rfl rfl
    ·
     intro hg6
     refine Dq rfl (.g rfl rfl rfl) rfl (fun _ h=>h) (Yf fo118_0 rfl) ?_
     refine Dq rfl (.g rfl rfl rfl) rfl (fun _ h=>h) (Yd 0 rfl rfl rfl na3) ?_
     refine De rfl (fun _ h=>h) ?_
     refine Lp (.g rfl rfl rfl) rfl en77 rfl (fun w hw=>stmtRef_any _ w) ?_
     refine Ln (Ed ?_)
     refine Dq rfl (.g rfl rfl rfl) rfl (fun _ h=>h) (yl_not rfl) ?_
     refine Dq rfl (.g rfl rfl rfl) rfl (fun _ h=>h) (Ym rfl) ?_
     apply WD.and 8 rfl rfl rfl rfl rfl (.g rfl rfl rfl) rfl (fun _ h=>h) rfl rfl rfl rfl
     ·
      intro hg7
      refine Dq rfl (.g rfl rfl rfl) rfl (fun _ h=>h) (Yf fo118_1 rfl) ?_
      refine Dq rfl (.g rfl rfl rfl) rfl (fun _ h=>h) (Yd 0 rfl rfl rfl na9) ?_
      refine Dq rfl (.g rfl rfl rfl) rfl (fun _ h=>h) (yl_nes rfl rfl) ?_
      refine Dq rfl (.g rfl rfl rfl) rfl (fun _ h=>h) (Ym rfl) ?_
      apply WD.or 3 rfl rfl rfl rfl rfl (.g rfl rfl rfl) rfl (fun _ h=>h) rfl rfl rfl rfl
      ·
       intro hg8
       refine Dq rfl (.g rfl rfl rfl) rfl (fun _ h=>h) (Yf fo118_2 rfl) ?_
       refine Dq rfl (.g rfl rfl rfl) rfl (fun _ h=>h) (Yd 0 rfl rfl rfl na9) ?_
       refine Dq rfl (.g rfl rfl rfl) rfl (fun _ h=>h) (yl_nes rfl rfl) ?_
       exact Gi 3 (fun _ h=>h) rfl rfl rfl
      exact Gi 5 (fun _ h=>h) rfl rfl rfl
     exact Gi 6 (fun _ h=>h) rfl rfl rfl
    refine Dq rfl (.inl rfl) rfl (fun _ h=>h) (Ym rfl) ?_
    apply WD.or 13 rfl rfl rfl rfl rfl (.inl rfl) rfl (fun _ h=>h) rfl rfl rfl rfl
    ·
     intro hg9
     refine Dq rfl (.g rfl rfl rfl) rfl (fun _ h=>h) (Yf fo118_0 rfl) ?_
     refine Dq rfl (.g rfl rfl rfl) rfl (fun _ h=>h) (Yd 0 rfl rfl rfl na3) ?_
     refine De rfl (fun _ h=>h) ?_
     refine Lp (.g rfl rfl rfl) rfl en101 rfl (fun w hw=>stmtArgs_any _ w) ?_
     refine Ln (Ed ?_)
     refine Dq rfl (.g rfl rfl rfl) rfl (fun _ h=>h) (yl_ge rfl rfl) ?_
     refine Dq rfl (.g rfl rfl rfl) rfl (fun _ h=>h) (Ym rfl) ?_
     apply WD.and 7 rfl rfl rfl rfl rfl (.g rfl rfl rfl) rfl (fun _ h=>h) rfl rfl rfl rfl
     ·
      intro hg10
      refine Dq rfl (.g rfl rfl rfl) rfl (fun _ h=>h) (Yf fo118_3 rfl) ?_
      refine Dq rfl (.g rfl rfl rfl) rfl (fun _ h=>h) (Yd 0 rfl rfl rfl na114) ?_
      refine Dq rfl (.g rfl rfl rfl) rfl (fun _ h=>h) (Yn es114 rfl) ?_
      refine Dq rfl (.g rfl rfl rfl) rfl (fun _ h=>h) (Yf fo118_0 rfl) ?_
      refine Dq rfl (.g rfl rfl rfl) rfl (fun _ h=>h) (Yd 0 rfl rfl rfl na3) ?_
      refine De rfl (fun _ h=>h) ?_
      refine Lp (.g rfl rfl rfl) rfl en101 rfl (fun w hw=>stmtArgs_any _ w) ?_
      refine Ln (Ed ?_)
      refine Dq rfl (.g rfl rfl rfl) rfl (fun _ h=>h) (yl_ne rfl rfl) ?_
      exact Gi 7 (fun _ h=>h) rfl rfl rfl
     exact Gi 6 (fun _ h=>h) rfl rfl rfl
    refine Dq rfl (.inl rfl) rfl (fun _ h=>h) (Ym rfl) ?_
    apply WD.or 14 (x:=((!(x.op==4)&&!(x.op==5))&&decide (0<x.body.length))) rfl rfl rfl rfl rfl (.inl rfl) rfl (fun _ h=>h) rfl rfl rfl rfl
    ·
     intro hg11
     refine Dq rfl (.g rfl rfl rfl) rfl (fun _ h=>h) (Yf fo118_0 rfl) ?_
     refine Dq rfl (.g rfl rfl rfl) rfl (fun _ h=>h) (Yd 0 rfl rfl rfl na3) ?_
     refine Dq rfl (.g rfl rfl rfl) rfl (fun _ h=>h) (yl_ne rfl rfl) ?_
     refine Dq rfl (.g rfl rfl rfl) rfl (fun _ h=>h) (Ym rfl) ?_
     apply WD.and 3 rfl rfl rfl rfl rfl (.g rfl rfl rfl) rfl (fun _ h=>h) rfl rfl rfl rfl
     ·
      intro hg12
      refine Dq rfl (.g rfl rfl rfl) rfl (fun _ h=>h) (Yf fo118_0 rfl) ?_
      refine Dq rfl (.g rfl rfl rfl) rfl (fun _ h=>h) (Yd 0 rfl rfl rfl na3) ?_
      refine Dq rfl (.g rfl rfl rfl) rfl (fun _ h=>h) (yl_ne rfl rfl) ?_
      exact Gi 3 (fun _ h=>h) rfl rfl rfl
     refine Dq rfl (.g rfl rfl rfl) rfl (fun _ h=>h) (Ym rfl) ?_
     apply WD.and 4 rfl rfl rfl rfl rfl (.g rfl rfl rfl) rfl (fun _ h=>h) rfl rfl rfl rfl
     ·
      intro hg13
      refine Dq rfl (.g rfl rfl rfl) rfl (fun _ h=>h) (Yf fo118_4 rfl) ?_
      refine Dq rfl (.g rfl rfl rfl) rfl (fun _ h=>h) (Yd 0 rfl rfl rfl na25) ?_
      refine Dq rfl (.g rfl rfl rfl) rfl (fun _ h=>h) (Yn es25 rfl) ?_
      refine Dq rfl (.g rfl rfl rfl) rfl (fun _ h=>h) (yl_gt rfl rfl) ?_
      rw [int_lt0]
      exact Gi 4 (fun _ h=>h) rfl rfl rfl
     exact Gi 7 (fun _ h=>h) rfl rfl rfl
    refine Dq rfl (.inl rfl) rfl (fun _ h=>h) (Ym rfl) ?_
    apply WD.or 9 rfl rfl rfl rfl rfl (.inl rfl) rfl (fun _ h=>h) rfl rfl rfl rfl
    ·
     intro hg14
     refine Dq rfl (.g rfl rfl rfl) rfl (fun _ h=>h) (Yf fo118_0 rfl) ?_
     refine Dq rfl (.g rfl rfl rfl) rfl (fun _ h=>h) (Yd 0 rfl rfl rfl na3) ?_
     refine Dq rfl (.g rfl rfl rfl) rfl (fun _ h=>h) (yl_ne rfl rfl) ?_
     refine Dq rfl (.g rfl rfl rfl) rfl (fun _ h=>h) (Ym rfl) ?_
     apply WD.and 4 rfl rfl rfl rfl rfl (.g rfl rfl rfl) rfl (fun _ h=>h) rfl rfl rfl rfl
     ·
      intro hg15
      refine Dq rfl (.g rfl rfl rfl) rfl (fun _ h=>h) (Yf fo118_5 rfl) ?_
      refine Dq rfl (.g rfl rfl rfl) rfl (fun _ h=>h) (Yd 0 rfl rfl rfl na25) ?_
      refine Dq rfl (.g rfl rfl rfl) rfl (fun _ h=>h) (Yn es25 rfl) ?_
      refine Dq rfl (.g rfl rfl rfl) rfl (fun _ h=>h) (yl_gt rfl rfl) ?_
      rw [int_lt0]
      exact Gi 4 (fun _ h=>h) rfl rfl rfl
     exact Gi 5 (fun _ h=>h) rfl rfl rfl
    refine WD.nil (fun _ h=>h) ?_
    refine Et ?_
    refine Cc rfl (fun hc5=>?_) (fun hc5=>?_)
    ·
     have hy:lvS 3 x.op x.mod x.nm x.args.length x.body.length x.other.length=true:=hc5
     refine Cs (Cr ?_)
     refine V0 (Ya rfl) ?_
     refine Ln (Et (Crt (Ebr (Er ?_))))
     refine WE.ret1 rfl rfl fun w' hw=>?_
     exact ⟨by rw [hE,hy]; rfl,hw.fr⟩
    ·
     have hno:lvS 3 x.op x.mod x.nm x.args.length x.body.length x.other.length=false:=hc5
     refine Ck (Eb (Et (Cs (Cs (Cr ?_)))))
     refine V0 (Ya rfl) ?_
     refine Ln (Et (Cb ?_))
     refine CW (ι:=Nat) (fun i=>[(7,.int .i64 (i:Int))]) [(1,_),(2,_),(3,_)] (fun i=>i≤x.args.length∧∀j y,j<i→x.args[j]? = some y→lookE y 3 1=false) (fun i=>x.args.length-i) 0 ⟨Nat.zero_le _,by simp⟩ (sc rfl (sc rfl (sc rfl (sc rfl sn)))) ?_
     intro i ⟨hi,hall⟩
     refine Cs (Cs (Cr ?_))
     refine V0 (Ym rfl) ?_
     refine V0 (Yf fo118_3 rfl) ?_
     refine V0 (Yd 0 rfl rfl rfl na114) ?_
     refine V0 (Yn es114 rfl) ?_
     refine V0 (yl_lt rfl rfl) ?_
     refine Ln (Et ?_)
     refine Cc rfl (fun hc6=>?_) (fun hc6=>?_)
     ·
      have hlt:i<x.args.length:=by simpa using hc6
      obtain ⟨y,hyi⟩:∃q,x.args[i]? = some q:=⟨_,List.getElem?_eq_getElem hlt⟩
      obtain ⟨pby,poy,hay,hry⟩:=hs1.elt i y hyi
      obtain ⟨k2,rfl⟩:∃k2,ke=k2+1:=by
        cases ke with
        | zero=>exact hry.elim
        | succ k2=>exact ⟨k2,rfl⟩
      obtain ⟨ya,yn,hrow,hsub⟩:=hry
      refine Ck (Et (Cs (Cb (Cs (Cr ?_)))))
      refine V0 (Yf fo118_3 rfl) ?_
      refine V0 (Yd 0 rfl rfl rfl na114) ?_
      refine V0 (Ym rfl) ?_
      refine V0 (Yo es114 rfl rfl hay (by omega)) ?_
      refine V0 (yl_lda 0 ag116 rfl rfl rfl (hrow)) ?_
      refine V0 (Ym rfl) ?_
      refine Lp (.inl rfl) rfl en102 rfl (fun w hw=>exprLook_any H k2 y ya yn _ 1 w (hw.vs _ (by simp)) hlv (by omega) hsub) ?_
      refine Ln (Et ?_)
      refine Cc rfl (fun hc7=>?_) (fun hc7=>?_)
      ·
       refine Cs (Cr ?_)
       refine V0 (Ya rfl) ?_
       refine Ln (Et (Crt (Ebr (Er (Er ?_)))))
       refine Ebr (Er ?_)
       refine WE.ret1 rfl rfl fun w' hw=>?_
       exact ⟨by rw [hE,lookEs_any,any_at hyi hc7,Bool.or_true,Bool.true_or],hw.fr⟩
      ·
       refine Ck (Eb (Et (Cr ?_)))
       refine V0 (Ym rfl) ?_
       refine V0 (Yi rfl rfl rfl (by omega)) ?_
       refine V0 (Ya rfl) ?_
       refine Ln ?_
       exact Ea (i+1) (by omega) ⟨by omega,fun j z hj hz=>by rcases Nat.lt_succ_iff_lt_or_eq.1 hj with h | rfl; exact hall j z h hz; rw [hyi] at hz; injection hz with hz; subst hz; exact hc7⟩ (sc rfl (sc rfl (sc rfl (sc rfl sn)))) (fun _ h=>h)
     ·
      have hge:¬i<x.args.length:=by simpa using hc6
      have hnn:lookEs x.args 3 1=false:=by rw [lookEs_any]; exact any_false fun j y hj=>hall j y (by have:=(List.getElem?_eq_some_iff.1 hj).1; omega) hj
      refine Ce (Ex (Ex (Ebh (Et (Cs ?_)))))
      refine Cr ?_
      refine V0 (Yf fo118_0 rfl) ?_
      refine V0 (Yd 0 rfl rfl rfl na3) ?_
      refine V0 (yl_eq rfl rfl) ?_
      refine V0 (Ym rfl) ?_
      apply WL.or 3 rfl rfl rfl rfl (.inl rfl) rfl rfl rfl rfl rfl
      ·
       intro hg0
       refine Lv (.g rfl rfl rfl) rfl (Yf fo118_0 rfl) ?_
       refine Lv (.g rfl rfl rfl) rfl (Yd 0 rfl rfl rfl na3) ?_
       refine Lv (.g rfl rfl rfl) rfl (yl_eq rfl rfl) ?_
       exact Gt 3 rfl rfl rfl
      refine V0 (Ya rfl) ?_
      refine Ln (Et (Cs (Cr ?_)))
      refine V0 (Ym rfl) ?_
      refine V0 (Ym rfl) ?_
      apply WL.or 4 rfl rfl rfl rfl (.inl rfl) rfl rfl rfl rfl rfl
      ·
       intro hg1
       refine Lv (.g rfl rfl rfl) rfl (Yf fo118_4 rfl) ?_
       refine Lv (.g rfl rfl rfl) rfl (Yd 0 rfl rfl rfl na25) ?_
       refine Lv (.g rfl rfl rfl) rfl (Yn es25 rfl) ?_
       refine Lv (.g rfl rfl rfl) rfl (yl_gt rfl rfl) ?_
       rw [int_lt0]
       exact Gt 4 rfl rfl rfl
      refine V0 (Ym rfl) ?_
      apply WL.and 6 rfl rfl rfl rfl (.inl rfl) rfl rfl rfl rfl rfl
      ·
       intro hg2
       refine Lv (.g rfl rfl rfl) rfl (Yf fo118_4 rfl) ?_
       refine Lv (.g rfl rfl rfl) rfl (Yd 0 rfl rfl rfl na25) ?_
       refine Lv (.g rfl rfl rfl) rfl (Ym rfl) ?_
       refine Lv (.g rfl rfl rfl) rfl (Ym rfl) ?_
       refine Lv (.g rfl rfl rfl) rfl (Yi rfl rfl rfl (by omega)) ?_
       refine Lp (.g rfl rfl rfl) rfl en65 rfl (fun w hw=>hB x.body a2 n2 (d+1) w (hw.vs _ (by simp)) (by omega) hs2) ?_
       exact Gt 6 rfl rfl rfl
      refine V0 (Ym rfl) ?_
      apply WL.or 12 rfl rfl rfl rfl (.inl rfl) rfl rfl rfl rfl rfl
      ·
       intro hg3
       refine Lv (.g rfl rfl rfl) rfl (Yf fo118_5 rfl) ?_
       refine Lv (.g rfl rfl rfl) rfl (Yd 0 rfl rfl rfl na25) ?_
       refine Lv (.g rfl rfl rfl) rfl (Yn es25 rfl) ?_
       refine Lv (.g rfl rfl rfl) rfl (yl_gt rfl rfl) ?_
       rw [int_lt0]
       refine Lv (.g rfl rfl rfl) rfl (Ym rfl) ?_
       apply WL.and 6 rfl rfl rfl rfl (.g rfl rfl rfl) rfl rfl rfl rfl rfl
       ·
        intro hg4
        refine Lv (.g rfl rfl rfl) rfl (Yf fo118_5 rfl) ?_
        refine Lv (.g rfl rfl rfl) rfl (Yd 0 rfl rfl rfl na25) ?_
        refine Lv (.g rfl rfl rfl) rfl (Ym rfl) ?_
        refine Lv (.g rfl rfl rfl) rfl (Ym rfl) ?_
        refine Lv (.g rfl rfl rfl) rfl (Yi rfl rfl rfl (by omega)) ?_
        refine Lp (.g rfl rfl rfl) rfl en65 rfl (fun w hw=>hB x.other a3 n3 (d+1) w (hw.vs _ (by simp)) (by omega) hs3) ?_
        exact Gt 6 rfl rfl rfl
       exact Gt 6 rfl rfl rfl
      refine V0 (Ya rfl) ?_
      refine Ln (Et (Crt ?_))
      refine WE.ret1 rfl rfl fun w' hw=>?_
      exact ⟨by rw [hE,hno,hnn]; rfl,hw.fr⟩
   ·
    exact (show False by simp at hc4; omega).elim
theorem blockLook_any (H:View) (ke lv:Nat) (hlv:1≤lv∧lv≤3) (k:Nat) (l:List TStmt) (a:Option Addr) (n d:Nat) (w:World) (hH:Le H w) (hd0:d≤7) (hm:Sl (RdS ke k) 6 H a n l) :
   Calls Tryz.prog 65 #[.slice a l.length n,.int .i64 (lv:Int),.int .i64 (d:Int)] w fun e w'=>e = .returned (.bool (lookB l lv d))∧Ext w w':=by
 induction k using Nat.strongRecOn generalizing l a n d w
 rename_i k ih
 have hcap:=hm.cap
 have hmax:=hm.max
 refine enter Tryz.func65 rfl 32 rfl rfl ?_
 refine CWd (W':=Ws w [] [] [H]) (fun _ e=>by subst e; exact Ws.init (by simp [hH])) ?_
 refine Cs (Cr ?_)
 refine V0 (Ya rfl) ?_
 refine Ln (Et (Cs (Cs (Cr ?_))))
 refine V0 (Ym rfl) ?_
 refine V0 (yl_gt rfl rfl) ?_
 refine Ln (Et ?_)
 refine Cc rfl (fun hc0=>?_) (fun hc0=>?_)
 ·
  have hd:6<d:=by simp at hc0; omega
  refine Cs (Cr ?_)
  refine V0 (Ym rfl) ?_
  refine V0 (yl_eq rfl rfl) ?_
  rw [show ((lv:Int)==2)=(lv==2) from lv_eq lv 2]
  refine V0 (Ya rfl) ?_
  refine Ln (Et (Crt (Er ?_)))
  refine WE.ret1 rfl rfl fun w' hw=>?_
  exact ⟨by unfold lookB blkL; rw [if_pos hd],hw.fr⟩
 ·
  have hd:¬6<d:=by simp at hc0; omega
  have hE:=lookB_no (l:=l) (lv:=lv) hd
  refine Ck (Et (Cs (Cs (Cr ?_))))
  refine V0 (Ym rfl) ?_
  refine V0 (yl_eq rfl rfl) ?_
  rw [show ((lv:Int)==2)=(lv==2) from lv_eq lv 2]
  refine V0 (Ym rfl) ?_
  apply WL.and 3 rfl rfl rfl rfl (.inl rfl) rfl rfl rfl rfl rfl
  ·
   intro hg0
   refine Lv (.g rfl rfl rfl) rfl (Ym rfl) ?_
   refine Lv (.g rfl rfl rfl) rfl (Yn es25 rfl) ?_
   refine Lv (.g rfl rfl rfl) rfl (yl_gt rfl rfl) ?_
   rw [int_lt10]
   exact Gt 3 rfl rfl rfl
  refine Ln (Et ?_)
  refine Cc rfl (fun hc1=>?_) (fun hc1=>?_)
  ·
   refine Cs (Cr ?_)
   refine V0 (Ya rfl) ?_
   refine Ln (Et (Crt (Er ?_)))
   refine WE.ret1 rfl rfl fun w' hw=>?_
   exact ⟨by rw [hE,hc1]; rfl,hw.fr⟩
  ·
   refine Ck (Et (Cs (Cs (Cr ?_))))
   refine V0 (Ya rfl) ?_
   refine Ln (Et (Cb ?_))
   refine CW (ι:=Nat) (fun i=>[(7,.int .i64 (i:Int))]) [(0,_),(1,_),(2,_)] (fun i=>i≤l.length∧∀j y,j<i→l[j]? = some y→lookS y lv d=false) (fun i=>l.length-i) 0 ⟨Nat.zero_le _,by simp⟩ (sc rfl (sc rfl (sc rfl (sc rfl sn)))) ?_
   intro i ⟨hi,hall⟩
   refine Cs (Cs (Cr ?_))
   refine V0 (Ym rfl) ?_
   refine V0 (Ym rfl) ?_
   refine V0 (Yn es25 rfl) ?_
   refine V0 (yl_lt rfl rfl) ?_
   refine Ln (Et ?_)
   refine Cc rfl (fun hc2=>?_) (fun hc2=>?_)
   ·
    have hlt:i<l.length:=by simpa using hc2
    obtain ⟨y,hyi⟩:∃q,l[i]? = some q:=⟨_,List.getElem?_eq_getElem hlt⟩
    obtain ⟨pby,poy,hay,hry⟩:=hm.elt i y hyi
    obtain ⟨k2,rfl⟩:∃k2,k=k2+1:=by
      cases k with
      | zero=>exact hry.elim
      | succ k2=>exact ⟨k2,rfl⟩
    obtain ⟨ya,yn,y2,m2,y3,m3,hrow,hs1,hs2,hs3⟩:=hry
    refine Ck (Et (Cs (Cb (Cs (Cr ?_)))))
    refine V0 (Ym rfl) ?_
    refine V0 (Ym rfl) ?_
    refine V0 (Yo es25 rfl rfl hay (by omega)) ?_
    refine V0 (yl_lda 0 ag118 rfl rfl rfl (hrow)) ?_
    refine V0 (Ym rfl) ?_
    refine V0 (Ym rfl) ?_
    refine Lp (.inl rfl) rfl en85 rfl (fun w hw=>stmtLook_any H ke k2 y ya yn y2 m2 y3 m3 lv d w (hw.vs _ (by simp)) hlv (by omega) (fun l a n d w h1 h2 h3=>ih k2 (by omega) l a n d w h1 h2 h3) hs1 hs2 hs3) ?_
    refine Ln (Et ?_)
    refine Cc rfl (fun hc3=>?_) (fun hc3=>?_)
    ·
     refine Cs (Cr ?_)
     refine V0 (Ya rfl) ?_
     refine Ln (Et (Crt (Ebr (Er (Er ?_)))))
     refine Ebr (Er ?_)
     refine WE.ret1 rfl rfl fun w' hw=>?_
     exact ⟨by rw [hE,lookSs_any,any_at hyi hc3,Bool.or_true],hw.fr⟩
    ·
     refine Ck (Eb (Et (Cr ?_)))
     refine V0 (Ym rfl) ?_
     refine V0 (Yi rfl rfl rfl (by omega)) ?_
     refine V0 (Ya rfl) ?_
     refine Ln ?_
     exact Ea (i+1) (by omega) ⟨by omega,fun j z hj hz=>by rcases Nat.lt_succ_iff_lt_or_eq.1 hj with h | rfl; exact hall j z h hz; rw [hyi] at hz; injection hz with hz; subst hz; exact hc3⟩ (sc rfl (sc rfl (sc rfl (sc rfl sn)))) (fun _ h=>h)
   ·
    have hge:¬i<l.length:=by simpa using hc2
    have hnn:lookSs l lv d=false:=by rw [lookSs_any]; exact any_false fun j y hj=>hall j y (by have:=(List.getElem?_eq_some_iff.1 hj).1; omega) hj
    refine Ce (Ex (Ex (Ebh (Et (Cs ?_)))))
    refine Cr ?_
    refine V0 (Ya rfl) ?_
    refine Ln (Et (Crt ?_))
    refine WE.ret1 rfl rfl fun w' hw=>?_
    exact ⟨by rw [hE,hc1,hnn]; rfl,hw.fr⟩
theorem moduleLook_any (H:View) (ke ks:Nat) (r:MAt) (m:TMod) (lv:Nat) (w:World) (hlv:1≤lv∧lv≤3) (hH:Le H w) (hm:RdM ke ks H r m) (hb:wM m≤109951162777) :
   Calls Tryz.prog 49 #[.agg (modV m r).toArray,.int .i64 (lv:Int)] w fun e w'=>e = .returned (.bool (modL m lv))∧Ext w w':=by
 have cu:=hm.uses.cap
 have xu:=hm.uses.max
 have cd:=hm.decls.cap
 have xd:=hm.decls.max
 have cp:=hm.procs.cap
 have xp:=hm.procs.max
 have hwM:wM m=1+m.nm.length+wN m.uses+wD m.decls+wP m.procs+wSs m.main:=rfl
 refine enter Tryz.func49 rfl 189 rfl rfl ?_
 refine CWd (W':=Ws w [] [] [H]) (fun _ e=>by subst e; exact Ws.init (by simp [hH])) ?_
 refine Cs (Cr ?_)
 refine WL.box (.inl rfl) rfl rfl fun b2=>?_
 refine V0 (Ya rfl) ?_
 refine Ln (Et (Cs (Cs (Cr ?_))))
 refine V0 (Ym rfl) ?_
 refine V0 (yl_eq rfl rfl) ?_
 rw [show ((lv:Int)==2)=(lv==2) from lv_eq lv 2]
 refine V0 (Ym rfl) ?_
 apply WL.and 16 rfl rfl rfl rfl (.inl rfl) rfl rfl rfl rfl rfl
 ·
  intro hg0
  refine Lv (.g rfl rfl rfl) rfl (Yf fo27_1 rfl) ?_
  refine Lv (.g rfl rfl rfl) rfl (Yd 0 rfl rfl rfl na22) ?_
  refine Lv (.g rfl rfl rfl) rfl (Yn es22 rfl) ?_
  refine Lv (.g rfl rfl rfl) rfl (yl_gt rfl rfl) ?_
  rw [int_lt3]
  refine Lv (.g rfl rfl rfl) rfl (Ym rfl) ?_
  apply WL.or 4 rfl rfl rfl rfl (.g rfl rfl rfl) rfl rfl rfl rfl rfl
  ·
   intro hg1
   refine Lv (.g rfl rfl rfl) rfl (Yf fo27_2 rfl) ?_
   refine Lv (.g rfl rfl rfl) rfl (Yd 0 rfl rfl rfl na23) ?_
   refine Lv (.g rfl rfl rfl) rfl (Yn es23 rfl) ?_
   refine Lv (.g rfl rfl rfl) rfl (yl_gt rfl rfl) ?_
   rw [int_lt10]
   exact Gt 4 rfl rfl rfl
  refine Lv (.g rfl rfl rfl) rfl (Ym rfl) ?_
  apply WL.or 4 rfl rfl rfl rfl (.g rfl rfl rfl) rfl rfl rfl rfl rfl
  ·
   intro hg2
   refine Lv (.g rfl rfl rfl) rfl (Yf fo27_3 rfl) ?_
   refine Lv (.g rfl rfl rfl) rfl (Yd 0 rfl rfl rfl na24) ?_
   refine Lv (.g rfl rfl rfl) rfl (Yn es24 rfl) ?_
   refine Lv (.g rfl rfl rfl) rfl (yl_gt rfl rfl) ?_
   rw [int_lt6]
   exact Gt 4 rfl rfl rfl
  exact Gt 8 rfl rfl rfl
 refine V0 (Ym rfl) ?_
 apply WL.or 8 rfl rfl rfl rfl (.inl rfl) rfl rfl rfl rfl rfl
 ·
  intro hg3
  refine Lv (.g rfl rfl rfl) rfl (Ym rfl) ?_
  refine Lv (.g rfl rfl rfl) rfl (yl_eq rfl rfl) ?_
  rw [show ((lv:Int)==3)=(lv==3) from lv_eq lv 3]
  refine Lv (.g rfl rfl rfl) rfl (Ym rfl) ?_
  apply WL.and 4 rfl rfl rfl rfl (.g rfl rfl rfl) rfl rfl rfl rfl rfl
  ·
   intro hg4
   refine Lv (.g rfl rfl rfl) rfl (Yf fo27_0 rfl) ?_
   refine Lv (.g rfl rfl rfl) rfl (Yd 0 rfl rfl rfl na9) ?_
   refine Lp (.g rfl rfl rfl) rfl en64 rfl (fun w hw=>isNAME_any _ w) ?_
   refine Lv (.g rfl rfl rfl) rfl (yl_not rfl) ?_
   exact Gt 4 rfl rfl rfl
  exact Gt 4 rfl rfl rfl
 refine Ln (Et ?_)
 refine Cc rfl (fun hc0=>?_) (fun hc0=>?_)
 ·
  refine Cs (Cr ?_)
  refine V0 (Ya rfl) ?_
  refine Ln (Et (Crt (Er ?_)))
  refine WE.ret1 rfl rfl fun w' hw=>?_
  exact ⟨by rw [modL_0 hc0],hw.fr⟩
 ·
  refine Ck (Et (Cs (Cs (Cr ?_))))
  refine V0 (Ya rfl) ?_
  refine Ln (Et (Cb ?_))
  refine CW (ι:=Nat) (fun i=>[(5,.int .i64 (i:Int))]) [(1,_),(2,_)] (fun i=>i≤m.uses.length∧∀j z,j<i→m.uses[j]? = some z→badN lv z=false) (fun i=>m.uses.length-i) 0 ⟨Nat.zero_le _,by simp⟩ (sc rfl (sc rfl (sc rfl sn))) ?_
  intro i ⟨hii,hallu⟩
  refine Cs (Cs (Cr ?_))
  refine V0 (Ym rfl) ?_
  refine V0 (Yf fo27_1 rfl) ?_
  refine V0 (Yd 0 rfl rfl rfl na22) ?_
  refine V0 (Yn es22 rfl) ?_
  refine V0 (yl_lt rfl rfl) ?_
  refine Ln (Et ?_)
  refine Cc rfl (fun hc1=>?_) (fun hc1=>?_)
  ·
   have hlt:i<m.uses.length:=by simpa using hc1
   obtain ⟨u,hui⟩:∃x,m.uses[i]? = some x:=⟨_,List.getElem?_eq_getElem hlt⟩
   obtain ⟨pbu,pou,ha,hrow⟩:=hm.uses.elt i u hui
   have hrow:RdC H pbu (pou+i*1) (strC u):=hrow
   refine Ck (Et (Cs (Cb (Cs (Cr ?_)))))
   refine V0 (Ym rfl) ?_
   refine V0 (yl_eq rfl rfl) ?_
   rw [show ((lv:Int)==3)=(lv==3) from lv_eq lv 3]
   refine V0 (Ym rfl) ?_
   apply WL.and 7 rfl rfl rfl rfl (.inl rfl) rfl rfl rfl rfl rfl
   ·
    intro hg5
    refine Lv (.g rfl rfl rfl) rfl (Yf fo27_1 rfl) ?_
    refine Lv (.g rfl rfl rfl) rfl (Yd 0 rfl rfl rfl na22) ?_
    refine Lv (.g rfl rfl rfl) rfl (Ym rfl) ?_
    refine Lv (.g rfl rfl rfl) rfl (Yo es22 rfl rfl ha (by omega)) ?_
    refine Lv (.g rfl rfl rfl) rfl (yl_ld 0 na9 rfl rfl (hrow 0 _ rfl)) ?_
    refine Lp (.g rfl rfl rfl) rfl en64 rfl (fun w hw=>isNAME_any _ w) ?_
    refine Lv (.g rfl rfl rfl) rfl (yl_not rfl) ?_
    exact Gt 7 rfl rfl rfl
   refine Ln (Et ?_)
   refine Cc rfl (fun hc2=>?_) (fun hc2=>?_)
   ·
    refine Cs (Cr ?_)
    refine V0 (Ya rfl) ?_
    refine Ln (Et (Crt (Ebr (Er (Er ?_)))))
    refine Ebr (Er ?_)
    refine WE.ret1 rfl rfl fun w' hw=>?_
    exact ⟨by rw [modL_1 (any_at hui hc2)],hw.fr⟩
   ·
    refine Ck (Eb (Et (Cr ?_)))
    refine V0 (Ym rfl) ?_
    refine V0 (Yi rfl rfl rfl (by omega)) ?_
    refine V0 (Ya rfl) ?_
    refine Ln ?_
    exact Ea (i+1) (by omega) ⟨by omega,fun j z hj hz=>by rcases Nat.lt_succ_iff_lt_or_eq.1 hj with h | rfl; exact hallu j z h hz; rw [hui] at hz; injection hz with hz; subst hz; exact hc2⟩ (sc rfl (sc rfl (sc rfl sn))) (fun _ h=>h)
  ·
   have hgeu:¬i<m.uses.length:=by simpa using hc1
   have hanyu:m.uses.any (badN lv)=false:=any_false fun j z hj=>hallu j z (by have:=(List.getElem?_eq_some_iff.1 hj).1; omega) hj
   refine Ce (Ex (Ex (Ebh (Et (Cs ?_)))))
   refine Cs (Cr ?_)
   refine V0 (Ya rfl) ?_
   refine Ln (Et (Cb ?_))
   refine CW (ι:=Nat) (fun p=>[(6,.int .i64 (p:Int))]) [(1,_),(2,_)] (fun p=>p≤m.decls.length∧∀j z,j<p→m.decls[j]? = some z→declL lv z=false) (fun p=>m.decls.length-p) 0 ⟨Nat.zero_le _,by simp⟩ (sc rfl (sc rfl (sc rfl sn))) ?_
   intro p ⟨hip,halld⟩
   refine Cs (Cs (Cr ?_))
   refine V0 (Ym rfl) ?_
   refine V0 (Yf fo27_2 rfl) ?_
   refine V0 (Yd 0 rfl rfl rfl na23) ?_
   refine V0 (Yn es23 rfl) ?_
   refine V0 (yl_lt rfl rfl) ?_
   refine Ln (Et ?_)
   refine Cc rfl (fun hc3=>?_) (fun hc3=>?_)
   ·
    have hlt:p<m.decls.length:=by simpa using hc3
    obtain ⟨d,hdi⟩:∃q,m.decls[p]? = some q:=⟨_,List.getElem?_eq_getElem hlt⟩
    obtain ⟨pbd,pod,had,hrd⟩:=hm.decls.elt p d hdi
    have hrd:RdC H pbd (pod+p*4) d.cells:=hrd
    refine Ck (Et (Cs (Cb (Cs (Cr ?_)))))
    refine V0 (Yf fo27_2 rfl) ?_
    refine V0 (Yd 0 rfl rfl rfl na23) ?_
    refine V0 (Ym rfl) ?_
    refine V0 (Yo es23 rfl rfl had (by omega)) ?_
    refine V0 (yl_lda 0 ag109 rfl rfl rfl (hrd)) ?_
    refine WL.alloc (.inl rfl) rfl zr109 fun b7=>?_
    refine Lst 0 (.inl rfl) rfl rfl rfl sz109 rfl rfl rfl ?_
    refine Ln (Et (Cs (Cs (Cr ?_))))
    refine V0 (Ym rfl) ?_
    refine V0 (yl_eq rfl rfl) ?_
    rw [show ((lv:Int)==1)=(lv==1) from lv_eq lv 1]
    refine V0 (Ym rfl) ?_
    apply WL.and 4 rfl rfl rfl rfl (.inl rfl) rfl rfl rfl rfl rfl
    ·
     intro hg6
     refine Lv (.g rfl rfl rfl) rfl (Yf fo109_0 rfl) ?_
     refine Lv (.g rfl rfl rfl) rfl (Yd 0 rfl rfl rfl na3) ?_
     refine Lp (.g rfl rfl rfl) rfl en30 rfl (fun w hw=>within_any _ _ _ w) ?_
     refine Lv (.g rfl rfl rfl) rfl (yl_not rfl) ?_
     exact Gt 4 rfl rfl rfl
    refine Ln (Et ?_)
    refine Cc rfl (fun hc4=>?_) (fun hc4=>?_)
    ·
     have h4_:((lv==1)&&!within_ d.kind 1 3)=true:=hc4
     have hbad:declL lv d=true:=by unfold declL; rw [h4_]; rfl
     refine Cs (Cr ?_)
     refine V0 (Ya rfl) ?_
     refine Ln (Et (Crt (Er (Ebr (Er ?_)))))
     refine Er (Ebr (Er ?_))
     refine WE.ret1 rfl rfl fun w' hw=>?_
     exact ⟨by rw [modL_2 (any_at hdi hbad)],hw.fr⟩
    ·
     have h4_:((lv==1)&&!within_ d.kind 1 3)=false:=hc4
     refine Ck (Et (Cs (Cr ?_)))
     refine V0 (Ym rfl) ?_
     refine V0 (yl_eq rfl rfl) ?_
     rw [show ((lv:Int)==3)=(lv==3) from lv_eq lv 3]
     refine V0 (Ym rfl) ?_
     apply WL.and 36 (x:=((((!nameT d.nm||((d.kind==1)&&!within_ d.n 0 1099511627775))||((d.kind==2)&&!(d.n==0)))||((d.kind==3)&&!within_ d.n 1 32)))) rfl rfl rfl rfl (.inl rfl) rfl rfl rfl rfl rfl
     ·
      intro hg7
      refine Lv (.g rfl rfl rfl) rfl (Yf fo109_1 rfl) ?_
      refine Lv (.g rfl rfl rfl) rfl (Yd 0 rfl rfl rfl na9) ?_
      refine Lp (.g rfl rfl rfl) rfl en64 rfl (fun w hw=>isNAME_any _ w) ?_
      refine Lv (.g rfl rfl rfl) rfl (yl_not rfl) ?_
      refine Lv (.g rfl rfl rfl) rfl (Ym rfl) ?_
      apply WL.or 9 rfl rfl rfl rfl (.g rfl rfl rfl) rfl rfl rfl rfl rfl
      ·
       intro hg8
       refine Lv (.g rfl rfl rfl) rfl (Yf fo109_0 rfl) ?_
       refine Lv (.g rfl rfl rfl) rfl (Yd 0 rfl rfl rfl na3) ?_
       refine Lv (.g rfl rfl rfl) rfl (yl_eq rfl rfl) ?_
       refine Lv (.g rfl rfl rfl) rfl (Ym rfl) ?_
       apply WL.and 4 rfl rfl rfl rfl (.g rfl rfl rfl) rfl rfl rfl rfl rfl
       ·
        intro hg9
        refine Lv (.g rfl rfl rfl) rfl (Yf fo109_3 rfl) ?_
        refine Lv (.g rfl rfl rfl) rfl (Yd 0 rfl rfl rfl na3) ?_
        refine Lp (.g rfl rfl rfl) rfl en30 rfl (fun w hw=>within_any _ _ _ w) ?_
        refine Lv (.g rfl rfl rfl) rfl (yl_not rfl) ?_
        exact Gt 4 rfl rfl rfl
       exact Gt 5 rfl rfl rfl
      refine Lv (.g rfl rfl rfl) rfl (Ym rfl) ?_
      apply WL.or 8 rfl rfl rfl rfl (.g rfl rfl rfl) rfl rfl rfl rfl rfl
      ·
       intro hg10
       refine Lv (.g rfl rfl rfl) rfl (Yf fo109_0 rfl) ?_
       refine Lv (.g rfl rfl rfl) rfl (Yd 0 rfl rfl rfl na3) ?_
       refine Lv (.g rfl rfl rfl) rfl (yl_eq rfl rfl) ?_
       refine Lv (.g rfl rfl rfl) rfl (Ym rfl) ?_
       apply WL.and 3 rfl rfl rfl rfl (.g rfl rfl rfl) rfl rfl rfl rfl rfl
       ·
        intro hg11
        refine Lv (.g rfl rfl rfl) rfl (Yf fo109_3 rfl) ?_
        refine Lv (.g rfl rfl rfl) rfl (Yd 0 rfl rfl rfl na3) ?_
        refine Lv (.g rfl rfl rfl) rfl (yl_ne rfl rfl) ?_
        exact Gt 3 rfl rfl rfl
       exact Gt 5 rfl rfl rfl
      refine Lv (.g rfl rfl rfl) rfl (Ym rfl) ?_
      apply WL.or 9 rfl rfl rfl rfl (.g rfl rfl rfl) rfl rfl rfl rfl rfl
      ·
       intro hg12
       refine Lv (.g rfl rfl rfl) rfl (Yf fo109_0 rfl) ?_
       refine Lv (.g rfl rfl rfl) rfl (Yd 0 rfl rfl rfl na3) ?_
       refine Lv (.g rfl rfl rfl) rfl (yl_eq rfl rfl) ?_
       refine Lv (.g rfl rfl rfl) rfl (Ym rfl) ?_
       apply WL.and 4 rfl rfl rfl rfl (.g rfl rfl rfl) rfl rfl rfl rfl rfl
       ·
        intro hg13
        refine Lv (.g rfl rfl rfl) rfl (Yf fo109_3 rfl) ?_
        refine Lv (.g rfl rfl rfl) rfl (Yd 0 rfl rfl rfl na3) ?_
        refine Lp (.g rfl rfl rfl) rfl en30 rfl (fun w hw=>within_any _ _ _ w) ?_
        refine Lv (.g rfl rfl rfl) rfl (yl_not rfl) ?_
        exact Gt 4 rfl rfl rfl
       exact Gt 5 rfl rfl rfl
      exact Gt 10 rfl rfl rfl
     refine Ln (Et ?_)
     refine Cc rfl (fun hc5=>?_) (fun hc5=>?_)
     ·
      have h5_:((lv==3)&&(((!nameT d.nm||((d.kind==1)&&!within_ d.n 0 1099511627775))||((d.kind==2)&&!(d.n==0)))||((d.kind==3)&&!within_ d.n 1 32)))=true:=hc5
      have hbad:declL lv d=true:=by unfold declL; rw [h5_,Bool.or_true]
      refine Cs (Cr ?_)
      refine V0 (Ya rfl) ?_
      refine Ln (Et (Crt (Ebr (Er (Er ?_)))))
      refine Ebr (Er ?_)
      refine WE.ret1 rfl rfl fun w' hw=>?_
      exact ⟨by rw [modL_2 (any_at hdi hbad)],hw.fr⟩
     ·
      have h5_:((lv==3)&&(((!nameT d.nm||((d.kind==1)&&!within_ d.n 0 1099511627775))||((d.kind==2)&&!(d.n==0)))||((d.kind==3)&&!within_ d.n 1 32)))=false:=hc5
      have hbad:declL lv d=false:=by unfold declL; rw [h4_,h5_]; rfl
      refine Ck (Eb (Et (Cr ?_)))
      refine V0 (Ym rfl) ?_
      refine V0 (Yi rfl rfl rfl (by omega)) ?_
      refine V0 (Ya rfl) ?_
      refine Ln ?_
      exact Ea (p+1) (by omega) ⟨by omega,fun j z hj hz=>by rcases Nat.lt_succ_iff_lt_or_eq.1 hj with h | rfl; exact halld j z h hz; rw [hdi] at hz; injection hz with hz; subst hz; exact hbad⟩ (sc rfl (sc rfl (sc rfl sn))) (fun _ h=>Ws.drop (L:=[_]) h)
   ·
    have hged:¬p<m.decls.length:=by simpa using hc3
    have hanyd:m.decls.any (declL lv)=false:=any_false fun j z hj=>halld j z (by have:=(List.getElem?_eq_some_iff.1 hj).1; omega) hj
    refine Ce (Ex (Ex (Ebh (Et (Cs ?_)))))
    refine Cs (Cr ?_)
    refine V0 (Ya rfl) ?_
    refine Ln (Et (Cb ?_))
    refine CW (ι:=Nat) (fun jj=>[(8,.int .i64 (jj:Int))]) [(1,_),(2,_)] (fun jj=>jj≤m.procs.length∧∀j z,j<jj→m.procs[j]? = some z→procL lv z=false) (fun jj=>m.procs.length-jj) 0 ⟨Nat.zero_le _,by simp⟩ (sc rfl (sc rfl (sc rfl sn))) ?_
    intro jj ⟨hijj,hallp⟩
    refine Cs (Cs (Cr ?_))
    refine V0 (Ym rfl) ?_
    refine V0 (Yf fo27_3 rfl) ?_
    refine V0 (Yd 0 rfl rfl rfl na24) ?_
    refine V0 (Yn es24 rfl) ?_
    refine V0 (yl_lt rfl rfl) ?_
    refine Ln (Et ?_)
    refine Cc rfl (fun hc6=>?_) (fun hc6=>?_)
    ·
     have hlt:jj<m.procs.length:=by simpa using hc6
     obtain ⟨p,hpi⟩:∃q,m.procs[jj]? = some q:=⟨_,List.getElem?_eq_getElem hlt⟩
     obtain ⟨pbp,pop,hap,hrp⟩:=hm.procs.elt jj p hpi
     obtain ⟨pa1,pc1,pa2,pc2,pa3,pc3,hrow,hs1,hs2,hs3⟩:=hrp
     have hup:=wP_upto hpi
     have q5:=wN_len p.params
     have q6:=wN_len p.locs
     have c1_:=hs1.cap
     have x1_:=hs1.max
     have c2_:=hs2.cap
     have x2_:=hs2.max
     refine Ck (Et (Cs (Cb (Cs (Cr ?_)))))
     refine V0 (Yf fo27_3 rfl) ?_
     refine V0 (Yd 0 rfl rfl rfl na24) ?_
     refine V0 (Ym rfl) ?_
     refine V0 (Yo es24 rfl rfl hap (by omega)) ?_
     refine V0 (yl_lda 0 ag86 rfl rfl rfl (hrow)) ?_
     refine WL.alloc (.inl rfl) rfl zr86 fun b9=>?_
     refine Lst 0 (.inl rfl) rfl rfl rfl sz86 rfl rfl rfl ?_
     refine Ln (Et (Cs (Cs (Cr ?_))))
     refine V0 (Ym rfl) ?_
     refine V0 (yl_eq rfl rfl) ?_
     rw [show ((lv:Int)==2)=(lv==2) from lv_eq lv 2]
     refine V0 (Ym rfl) ?_
     apply WL.and 10 rfl rfl rfl rfl (.inl rfl) rfl rfl rfl rfl rfl
     ·
      intro hg14
      refine Lv (.g rfl rfl rfl) rfl (Yf fo86_2 rfl) ?_
      refine Lv (.g rfl rfl rfl) rfl (Yd 0 rfl rfl rfl na22) ?_
      refine Lv (.g rfl rfl rfl) rfl (Yn es22 rfl) ?_
      refine Lv (.g rfl rfl rfl) rfl (yl_gt rfl rfl) ?_
      rw [int_lt3]
      refine Lv (.g rfl rfl rfl) rfl (Ym rfl) ?_
      apply WL.or 4 rfl rfl rfl rfl (.g rfl rfl rfl) rfl rfl rfl rfl rfl
      ·
       intro hg15
       refine Lv (.g rfl rfl rfl) rfl (Yf fo86_3 rfl) ?_
       refine Lv (.g rfl rfl rfl) rfl (Yd 0 rfl rfl rfl na22) ?_
       refine Lv (.g rfl rfl rfl) rfl (Yn es22 rfl) ?_
       refine Lv (.g rfl rfl rfl) rfl (yl_gt rfl rfl) ?_
       rw [int_lt4]
       exact Gt 4 rfl rfl rfl
      exact Gt 6 rfl rfl rfl
     refine V0 (Ym rfl) ?_
     apply WL.or 8 rfl rfl rfl rfl (.inl rfl) rfl rfl rfl rfl rfl
     ·
      intro hg16
      refine Lv (.g rfl rfl rfl) rfl (Ym rfl) ?_
      refine Lv (.g rfl rfl rfl) rfl (yl_eq rfl rfl) ?_
      rw [show ((lv:Int)==3)=(lv==3) from lv_eq lv 3]
      refine Lv (.g rfl rfl rfl) rfl (Ym rfl) ?_
      apply WL.and 4 rfl rfl rfl rfl (.g rfl rfl rfl) rfl rfl rfl rfl rfl
      ·
       intro hg17
       refine Lv (.g rfl rfl rfl) rfl (Yf fo86_0 rfl) ?_
       refine Lv (.g rfl rfl rfl) rfl (Yd 0 rfl rfl rfl na9) ?_
       refine Lp (.g rfl rfl rfl) rfl en64 rfl (fun w hw=>isNAME_any _ w) ?_
       refine Lv (.g rfl rfl rfl) rfl (yl_not rfl) ?_
       exact Gt 4 rfl rfl rfl
      exact Gt 4 rfl rfl rfl
     refine V0 (Ym rfl) ?_
     apply WL.or 4 rfl rfl rfl rfl (.inl rfl) rfl rfl rfl rfl rfl
     ·
      intro hg18
      refine Lv (.g rfl rfl rfl) rfl (Yf fo86_4 rfl) ?_
      refine Lv (.g rfl rfl rfl) rfl (Yd 0 rfl rfl rfl na25) ?_
      refine Lv (.g rfl rfl rfl) rfl (Ym rfl) ?_
      refine Lp (.g rfl rfl rfl) rfl en65 rfl (fun w hw=>blockLook_any H ke lv hlv ks p.body pa3 pc3 1 w (hw.vs _ (by simp)) (by omega) hs3) ?_
      exact Gt 4 rfl rfl rfl
     refine Ln (Et ?_)
     refine Cc rfl (fun hc7=>?_) (fun hc7=>?_)
     ·
      have h7_:((((lv==2)&&(decide (3<p.params.length)||decide (4<p.locs.length)))||badN lv p.nm)||lookB p.body lv 1)=true:=hc7
      have hbad:procL lv p=true:=by unfold procL; rw [h7_]; rfl
      refine Cs (Cr ?_)
      refine V0 (Ya rfl) ?_
      refine Ln (Et (Crt (Er (Ebr (Er ?_)))))
      refine Er (Ebr (Er ?_))
      refine WE.ret1 rfl rfl fun w' hw=>?_
      exact ⟨by rw [modL_3 (any_at hpi hbad)],hw.fr⟩
     ·
      have h7_:((((lv==2)&&(decide (3<p.params.length)||decide (4<p.locs.length)))||badN lv p.nm)||lookB p.body lv 1)=false:=hc7
      refine Ck (Et (Cs ?_))
      refine WC.draws0 [(1,true),(2,true),(4,true),(5,true),(0,false),(3,false),(6,false),(7,true)] mixed (by kernel_rfl) (fun _ _ _ d _ h=>by cases d<;>exact h) ?_
      refine Dq rfl (.inl rfl) rfl (fun _ h=>h) (Yf fo86_2 rfl) ?_
      refine Dq rfl (.inl rfl) rfl (fun _ h=>h) (Yd 0 rfl rfl rfl na22) ?_
      refine Dq rfl (.inl rfl) rfl (fun _ h=>h) (Yf fo86_3 rfl) ?_
      refine Dq rfl (.inl rfl) rfl (fun _ h=>h) (Yd 0 rfl rfl rfl na22) ?_
      refine De rfl (fun _ h=>h) ?_
      refine WL.bslice (.inl rfl) rfl el22 rfl rfl rfl fun b162=>?_
      refine WL.asOsl (size:=1) 0 rfl (Nat.le_refl 0) (Nat.zero_le _) rfl ?_
      refine WL.reosl 0 ([]:List Tx).length (([]:List Tx).flatMap strC) rfl rfl rfl ?_
      refine Ln (Ed ?_)
      refine De rfl (fun _ h=>by have h:=Ws.drop (L:=[_]) (L':=_) h; exact h) ?_
      refine WL.appendL (ys:=p.params) (xs:=[]) 0 (fun _=>H) (.inl rfl) rfl el22 rfl rfl rfl (fun w hw=>⟨hw.vs H (by simp),hs1⟩) (fun _ _ _ _ h=>h) strC_len str_one (by simp; omega) (by simp; omega) fun a165 c165=>?_
      refine Ln (Ed ?_)
      refine De rfl (fun _ h=>by have h:=Ws.drop (L:=[_]) (L':=_) h; exact h) ?_
      refine WL.appendL (ys:=p.locs) (xs:=[]++p.params) 0 (fun _=>H) (.inl rfl) rfl el22 rfl rfl rfl (fun w hw=>⟨hw.vs H (by simp),hs2⟩) (fun _ _ _ _ h=>h) strC_len str_one (by simp; omega) (by simp; omega) fun a168 c168=>?_
      refine Ln (Ed ?_)
      refine Dq rfl (.inl rfl) rfl (fun _ h=>by have h:=Ws.drop (L:=[_]) (L':=_) h; exact h) (Ya rfl) ?_
      refine WD.nil (fun _ h=>by have h:=Ws.drop (L:=[_]) (L':=_) h; exact h) ?_
      refine Et (Cs ?_)
      refine WC.oslview (rd:=rdStr) 0 rfl strC_len (fun _ _ _ _ h=>h) fun HA hHA=>?_
      have hHA:Sl rdStr 1 HA a168 c168 (p.params++p.locs):=hHA
      have hcA:=hHA.cap
      have hxA:=hHA.max
      refine Cr ?_
      refine V0 (Ya rfl) ?_
      refine Ln (Et (Cb ?_))
      refine CW (ι:=Nat) (fun e=>[(11,.int .i64 (e:Int))]) [(1,_),(2,_),(8,_),(10,_)] (fun e=>e≤(p.params++p.locs).length∧∀j z,j<e→(p.params++p.locs)[j]? = some z→badN lv z=false) (fun e=>(p.params++p.locs).length-e) 0 ⟨Nat.zero_le _,by simp⟩ (sc rfl (sc rfl (sc rfl (sc rfl (sc rfl sn))))) ?_
      intro e ⟨hie,halls⟩
      refine Cs (Cs (Cr ?_))
      refine V0 (Ym rfl) ?_
      refine V0 (Ym rfl) ?_
      refine V0 (Yn es22 rfl) ?_
      refine V0 (yl_lt rfl rfl) ?_
      refine Ln (Et ?_)
      refine Cc rfl (fun hc8=>?_) (fun hc8=>?_)
      ·
       have hlt:e<(p.params++p.locs).length:=by simp only [List.length_append]; simp at hc8; omega
       obtain ⟨s,hsi⟩:∃x,(p.params++p.locs)[e]? = some x:=⟨_,List.getElem?_eq_getElem hlt⟩
       obtain ⟨pbs,pos,ha,hrow⟩:=hHA.elt e s hsi
       have hrow:RdC HA pbs (pos+e*1) (strC s):=hrow
       refine Ck (Et (Cs (Cb (Cs (Cr ?_)))))
       refine V0 (Ym rfl) ?_
       refine V0 (yl_eq rfl rfl) ?_
       rw [show ((lv:Int)==3)=(lv==3) from lv_eq lv 3]
       refine V0 (Ym rfl) ?_
       apply WL.and 6 rfl rfl rfl rfl (.inl rfl) rfl rfl rfl rfl rfl
       ·
        intro hg19
        refine Lv (.g rfl rfl rfl) rfl (Ym rfl) ?_
        refine Lv (.g rfl rfl rfl) rfl (Ym rfl) ?_
        refine Lv (.g rfl rfl rfl) rfl (Yo es22 rfl rfl ha (by simp at hlt ⊢; omega)) ?_
        refine Lv (.g rfl rfl rfl) rfl (yl_ld 0 na9 rfl rfl (hrow 0 _ rfl)) ?_
        refine Lp (.g rfl rfl rfl) rfl en64 rfl (fun w hw=>isNAME_any _ w) ?_
        refine Lv (.g rfl rfl rfl) rfl (yl_not rfl) ?_
        exact Gt 6 rfl rfl rfl
       refine Ln (Et ?_)
       refine Cc rfl (fun hc9=>?_) (fun hc9=>?_)
       ·
        have hbad:procL lv p=true:=by unfold procL; rw [any_at hsi hc9,Bool.or_true]
        refine Cs (Cr ?_)
        refine V0 (Ya rfl) ?_
        refine Ln (Et (Crt (Ebr (Er (Er ?_)))))
        refine Ebr (Ebr (Er (Er (Ebr (Er ?_)))))
        refine WE.ret1 rfl rfl fun w' hw=>?_
        exact ⟨by rw [modL_3 (any_at hpi hbad)],hw.fr⟩
       ·
        refine Ck (Eb (Et (Cr ?_)))
        refine V0 (Ym rfl) ?_
        refine V0 (Yi rfl rfl rfl (by omega)) ?_
        refine V0 (Ya rfl) ?_
        refine Ln ?_
        exact Ea (e+1) (by omega) ⟨by omega,fun j z hj hz=>by rcases Nat.lt_succ_iff_lt_or_eq.1 hj with h | rfl; exact halls j z h hz; rw [hsi] at hz; injection hz with hz; subst hz; exact hc9⟩ (sc rfl (sc rfl (sc rfl (sc rfl (sc rfl sn))))) (fun _ h=>h)
      ·
       have hges:¬e<(p.params++p.locs).length:=by simp only [List.length_append]; simp at hc8; omega
       have hanys:(p.params++p.locs).any (badN lv)=false:=any_false fun j z hj=>halls j z (by have:=(List.getElem?_eq_some_iff.1 hj).1; omega) hj
       have hbad:procL lv p=false:=by unfold procL; rw [hanys,h7_]; rfl
       refine Ce (Ex (Ex (Ebh (Eb (Et ?_)))))
       refine Cr ?_
       refine V0 (Ym rfl) ?_
       refine V0 (Yi rfl rfl rfl (by omega)) ?_
       refine V0 (Ya rfl) ?_
       refine Ln ?_
       exact Ea (jj+1) (by omega) ⟨by omega,fun j z hj hz=>by rcases Nat.lt_succ_iff_lt_or_eq.1 hj with h | rfl; exact hallp j z h hz; rw [hpi] at hz; injection hz with hz; subst hz; exact hbad⟩ (sc rfl (sc rfl (sc rfl sn))) (fun _ h=>Ws.drops (Ws.drop (L:=[_]) h) (fun _ hm=>List.mem_append_right [_] hm))
    ·
     have hgep:¬jj<m.procs.length:=by simpa using hc6
     have hanyp:m.procs.any (procL lv)=false:=any_false fun j z hj=>hallp j z (by have:=(List.getElem?_eq_some_iff.1 hj).1; omega) hj
     refine Ce (Ex (Ex (Ebh (Et (Cs ?_)))))
     refine Cr ?_
     refine V0 (Yf fo27_4 rfl) ?_
     refine V0 (Yd 0 rfl rfl rfl na25) ?_
     refine V0 (Ym rfl) ?_
     refine Lp (.inl rfl) rfl en65 rfl (fun w hw=>blockLook_any H ke lv hlv ks m.main r.a4 r.c4 1 w (hw.vs _ (by simp)) (by omega) hm.main) ?_
     refine V0 (Ya rfl) ?_
     refine Ln (Et (Crt ?_))
     refine WE.ret1 rfl rfl fun w' hw=>?_
     exact ⟨by rw [modL_end hc0 hanyu hanyd hanyp],hw.fr⟩
theorem checkModule_any (H:View) (ke ks:Nat) (r:MAt) (m:TMod) (w:World) (hH:Le H w) (hm:RdM ke ks H r m) (hb:wM m≤109951162777) :
   Calls Tryz.prog 20 #[.agg (modV m r).toArray] w fun e w'=>e = .returned (.int .i64 (checkL m))∧Ext w w':=by
 refine enter Tryz.func20 rfl 12 rfl rfl ?_
 refine CWd (W':=Ws w [] [] [H]) (fun _ e=>by subst e; exact Ws.init (by simp [hH])) ?_
 refine Cs (Cr ?_)
 refine WL.box (.inl rfl) rfl rfl fun b1=>?_
 refine V0 (Ya rfl) ?_
 refine Ln (Et (Cs (Cb (Cs (Cr ?_)))))
 refine V0 (Yda 0 rfl rfl ag27 rfl) ?_
 refine Lp (.inl rfl) rfl en49 rfl (fun w hw=>moduleLook_any H ke ks r m 1 w (by omega) (hw.vs _ (by simp)) hm hb) ?_
 refine V0 (Ya rfl) ?_
 refine Ln (Et ?_)
 refine Cc rfl (fun hc0=>?_) (fun hc0=>?_)
 ·
  refine Cs (Cr ?_)
  refine V0 (Ya rfl) ?_
  refine Ln (Et (Crt (Ebr (Er ?_))))
  refine WE.ret1 rfl rfl fun w' hw=>?_
  exact ⟨by rw [checkL,if_pos hc0],hw.fr⟩
 ·
  refine Cs (Cr ?_)
  refine V0 (Yda 0 rfl rfl ag27 rfl) ?_
  refine Lp (.inl rfl) rfl en49 rfl (fun w hw=>moduleLook_any H ke ks r m 2 w (by omega) (hw.vs _ (by simp)) hm hb) ?_
  refine V0 (Ya rfl) ?_
  refine Ln (Et ?_)
  refine Cc rfl (fun hc1=>?_) (fun hc1=>?_)
  ·
   refine Cs (Cr ?_)
   refine V0 (Ya rfl) ?_
   refine Ln (Et (Crt (Ebr (Er ?_))))
   refine WE.ret1 rfl rfl fun w' hw=>?_
   exact ⟨by rw [checkL,if_neg (by rw [hc0]; decide),if_pos hc1],hw.fr⟩
  ·
   refine Cs (Cr ?_)
   refine V0 (Yda 0 rfl rfl ag27 rfl) ?_
   refine Lp (.inl rfl) rfl en49 rfl (fun w hw=>moduleLook_any H ke ks r m 3 w (by omega) (hw.vs _ (by simp)) hm hb) ?_
   refine V0 (Ya rfl) ?_
   refine Ln (Et ?_)
   refine Cc rfl (fun hc2=>?_) (fun hc2=>?_)
   ·
    refine Cs (Cr ?_)
    refine V0 (Ya rfl) ?_
    refine Ln (Et (Crt (Ebr (Er ?_))))
    refine WE.ret1 rfl rfl fun w' hw=>?_
    exact ⟨by rw [checkL,if_neg (by rw [hc0]; decide),if_neg (by rw [hc1]; decide),if_pos hc2],hw.fr⟩
   ·
    refine Ck (Eb (Et (Cs (Cr ?_))))
    refine V0 (Ya rfl) ?_
    refine Ln (Et (Crt ?_))
    refine WE.ret1 rfl rfl fun w' hw=>?_
    exact ⟨by rw [checkL,if_neg (by rw [hc0]; decide),if_neg (by rw [hc1]; decide),if_neg (by rw [hc2]; decide)],hw.fr⟩
end Go.Proofs.YtinnlppbkhhoiaaGreatDoor
end
section
namespace Go.Proofs.YtinnlppbkhhoiaaGreatDoor
open Go.Bw
set_option linter.unusedVariables false
set_option linter.unusedSimpArgs false
theorem sameTexts_eq (H1 H2:View) (a1 a2:Option Addr) (c1 c2:Nat) (l:List Tx) (w:World) (hH1:Le H1 w) (hH2:Le H2 w) (hm1:Sl rdStr 1 H1 a1 c1 l) (hm2:Sl rdStr 1 H2 a2 c2 l) :
   Calls Tryz.prog 39 #[.slice a1 l.length c1,.slice a2 l.length c2] w fun e w'=>e = .returned (.bool true)∧Ext w w':=by
 have hcap1:=hm1.cap
 have hmax1:=hm1.max
 have hcap2:=hm2.cap
 have hmax2:=hm2.max
 refine enter Tryz.func39 rfl 26 rfl rfl ?_
 refine CWd (W':=Ws w [] [] [H1,H2]) (fun _ e=>by subst e; exact Ws.init (by simp [hH1,hH2])) ?_
 refine Cs (Cr ?_)
 refine V0 (Ya rfl) ?_
 refine Ln (Et (Cs (Cs (Cr ?_))))
 refine V0 (Ym rfl) ?_
 refine V0 (Yn es22 rfl) ?_
 refine V0 (Ym rfl) ?_
 refine V0 (Yn es22 rfl) ?_
 refine V0 (yl_neY rfl rfl rfl) ?_
 refine Ln (Et ?_)
 refine WC.condf rfl ?_
 refine Ck (Et (Cs (Cs (Cr ?_))))
 refine V0 (Ya rfl) ?_
 refine Ln (Et (Cb ?_))
 refine CW (ι:=Nat) (fun i=>[(5,.int .i64 (i:Int))]) [(0,_),(1,_)] (fun i=>i≤l.length) (fun i=>l.length-i) 0 (Nat.zero_le _) (sc rfl (sc rfl (sc rfl sn))) ?_
 intro i hi
 refine Cs (Cs (Cr ?_))
 refine V0 (Ym rfl) ?_
 refine V0 (Ym rfl) ?_
 refine V0 (Yn es22 rfl) ?_
 refine V0 (yl_lt rfl rfl) ?_
 refine Ln (Et ?_)
 refine Cc rfl (fun hc1=>?_) (fun hc1=>?_)
 ·
  have hlt:i<l.length:=by simpa using hc1
  obtain ⟨x,hx⟩:∃x,l[i]? = some x:=⟨_,List.getElem?_eq_getElem hlt⟩
  obtain ⟨pb,po,ha1,hr1⟩:=hm1.elt i x hx
  obtain ⟨qb,qo,ha2,hr2⟩:=hm2.elt i x hx
  have hr1:RdC H1 pb (po+i*1) (strC x):=hr1
  have hr2:RdC H2 qb (qo+i*1) (strC x):=hr2
  refine Ck (Et (Cs (Cb (Cs ?_))))
  refine WC.draws0 [(0,true),(1,true),(2,true),(3,true),(4,true),(5,true),(6,true),(7,true),(8,true)] mixed (by kernel_rfl) (fun _ _ _ d _ h=>by cases d<;>exact h) ?_
  refine Dq rfl (.inl rfl) rfl (fun _ h=>h) (Ym rfl) ?_
  refine Dq rfl (.inl rfl) rfl (fun _ h=>h) (Ym rfl) ?_
  refine Dq rfl (.inl rfl) rfl (fun _ h=>h) (Yo es22 rfl rfl ha1 (by omega)) ?_
  refine Dq rfl (.inl rfl) rfl (fun _ h=>h) (yl_ld 0 na9 rfl rfl (hr1 0 _ rfl)) ?_
  refine Dq rfl (.inl rfl) rfl (fun _ h=>h) (Ym rfl) ?_
  refine Dq rfl (.inl rfl) rfl (fun _ h=>h) (Ym rfl) ?_
  refine Dq rfl (.inl rfl) rfl (fun _ h=>h) (Yo es22 rfl rfl ha2 (by omega)) ?_
  refine Dq rfl (.inl rfl) rfl (fun _ h=>h) (yl_ld 1 na9 rfl rfl (hr2 0 _ rfl)) ?_
  refine Dq rfl (.inl rfl) rfl (fun _ h=>h) (yl_nesY rfl rfl rfl) ?_
  refine WD.nil (fun _ h=>h) ?_
  refine Et ?_
  refine WC.condf rfl ?_
  refine Ck (Eb (Et (Cr ?_)))
  refine V0 (Ym rfl) ?_
  refine V0 (Yi rfl rfl rfl (by omega)) ?_
  refine V0 (Ya rfl) ?_
  refine Ln ?_
  exact Ea (i+1) (by omega) (by omega) (sc rfl (sc rfl (sc rfl sn))) (fun _ h=>h)
 ·
  refine Ce (Ex (Ex (Ebh (Et (Cs ?_)))))
  refine Cr ?_
  refine V0 (Ya rfl) ?_
  refine Ln (Et (Crt ?_))
  refine WE.ret1 rfl rfl fun w' hw=>?_
  exact ⟨rfl,hw.fr⟩
end Go.Proofs.YtinnlppbkhhoiaaGreatDoor
end
section
namespace Go.Proofs.YtinnlppbkhhoiaaGreatDoor
open Go.Bw
set_option linter.unusedVariables false
set_option linter.unusedSimpArgs false
abbrev SP:=Option Addr×Nat
def mnamed:FItem→List UInt8:=fun x=>x.name
abbrev IEnt:=List UInt8×Int×Nat
def iv (M:List IEnt):List MEnt:=M.map fun e=>(e.1,.int .i64 e.2.1,e.2.2)
def ifind (k:List UInt8):List IEnt→Nat→Option (Nat×Int)
 | [],_=>none
 | e::r,i=>if (k==e.1)=true then some (i,e.2.1) else ifind k r (i+1)
def iget (k:List UInt8) (M:List IEnt):Int:=match ifind k M 0 with | some (_,n)=>n | none=>0
def iput (k:List UInt8) (n:Int) (M:List IEnt) (c:Nat):List IEnt:=match ifind k M 0 with
 | some (i,_)=>M.modify i fun e=>(k,n,e.2.2)
 | none=>M++[(k,n,c)]
def iclock (k:List UInt8) (M:List IEnt) (c:Nat):Nat:=match ifind k M 0 with | some _=>c | none=>c+1
theorem mfind_iv (k:List UInt8):∀(M:List IEnt) (i:Nat),mfind k (iv M) i=(ifind k M i).map fun r=>(r.1,.int .i64 r.2)
 | [],_=>rfl
 | e::r,i=>by
   simp only [iv,List.map_cons,mfind,ifind]
   cases (k==e.1)
   · simp only [Bool.false_eq_true,if_false]
     exact mfind_iv k r (i+1)
   · simp
theorem mget_iv (k:List UInt8) (M:List IEnt):mget k (iv M) (.int .i64 0) = .int .i64 (iget k M):=by
 unfold mget iget
 rw [mfind_iv]
 cases ifind k M 0<;>rfl
theorem mput_iv (k:List UInt8) (n:Int) (M:List IEnt) (c:Nat):mput k (.int .i64 n) (iv M) c=iv (iput k n M c):=by
 unfold mput iput
 rw [mfind_iv]
 cases ifind k M 0 with
 | none=>simp [iv]
 | some r=>
   simp only [Option.map_some]
   apply List.ext_getElem?
   intro i
   simp only [iv,List.getElem?_modify,List.getElem?_map]
   cases M[i]? with
   | none=>simp
   | some e=>by_cases h:r.1=i<;>simp [h]
theorem mclock_iv (k:List UInt8) (M:List IEnt) (c:Nat):mclock k (iv M) c=iclock k M c:=by
 unfold mclock iclock
 rw [mfind_iv]
 cases ifind k M 0<;>rfl
def keysOf (M:List IEnt):List (List UInt8):=M.map (·.1)
theorem ifind_none {k:List UInt8}:∀{M:List IEnt} {i:Nat},ifind k M i=none↔k ∉ keysOf M
 | [],_=>by simp [ifind,keysOf]
 | e::r,i=>by
   simp only [ifind,keysOf,List.map_cons,List.mem_cons,not_or]
   by_cases h:k=e.1
   · simp [h]
   · have:=ifind_none (k:=k) (M:=r) (i:=i+1)
     simp [h,keysOf] at this ⊢
     exact this
theorem ifind_at {k:List UInt8}:∀{M:List IEnt} {i j:Nat} {n:Int},ifind k M i=some (j,n)→i≤j∧(M[j-i]?).map (·.1)=some k
 | [],_,_,_,h=>by simp [ifind] at h
 | e::r,i,j,n,h=>by
   simp only [ifind] at h
   split at h
   · rename_i hk
     injection h with h; injection h with h1 h2
     subst h1
     simp at hk
     simp [hk]
   · obtain ⟨h1,h2⟩:=ifind_at h
     refine ⟨by omega,?_⟩
     have:j-i=(j-(i+1))+1:=by omega
     rw [this]; simpa using h2
theorem keys_put (k:List UInt8) (n:Int) (M:List IEnt) (c:Nat):keysOf (iput k n M c)=if k ∈ keysOf M then keysOf M else keysOf M++[k]:=by
 unfold iput
 cases h:ifind k M 0 with
 | none=>rw [if_neg (ifind_none.1 h)]; simp [keysOf]
 | some r=>
   obtain ⟨j,v⟩:=r
   have hk:=(ifind_at h).2
   have hm:k ∈ keysOf M:=by
     cases Classical.em (k ∈ keysOf M) with
     | inl h1=>exact h1
     | inr h1=>rw [ifind_none.2 h1] at h; cases h
   rw [if_pos hm]
   apply List.ext_getElem?
   intro i
   simp only [keysOf,List.getElem?_map,List.getElem?_modify]
   cases he:M[i]? with
   | none=>simp
   | some e=>
     by_cases hj:j=i
     · subst hj; simp only [Nat.sub_zero,he] at hk; simp at hk; simp [hk]
     · simp [hj]
def aState (l:List (List UInt8)):Nat→List IEnt×Nat
 | 0=>([],0)
 | i+1=>(iput (l[i]?.getD []) (IntKind.i64.wrap (iget (l[i]?.getD []) (aState l i).1+1)) (aState l i).1 (aState l i).2,iclock (l[i]?.getD []) (aState l i).1 (aState l i).2)
theorem aState_mem (l:List (List UInt8)) (k:List UInt8):∀i,k ∈ keysOf (aState l i).1↔∃j,j<i∧l[j]?.getD []=k
 | 0=>by simp [aState,keysOf]
 | i+1=>by
   have ih:=aState_mem l k i
   simp only [aState,keys_put]
   have step:(∃j,j<i+1∧l[j]?.getD []=k)↔(∃j,j<i∧l[j]?.getD []=k)∨l[i]?.getD []=k:=by
     constructor
     · rintro ⟨j,hj,e⟩
       rcases Nat.lt_succ_iff_lt_or_eq.1 hj with h | rfl
       · exact .inl ⟨j,h,e⟩
       · exact .inr e
     · rintro (⟨j,hj,e⟩ | e)
       · exact ⟨j,by omega,e⟩
       · exact ⟨i,by omega,e⟩
   rw [step,←ih]
   split
   · rename_i hm
     constructor
     · exact .inl
     · rintro (h | h)
       · exact h
       · rw [←h]; exact hm
   · simp [eq_comm]
theorem aState_len (l:List (List UInt8)):∀i,(keysOf (aState l i).1).length≤i∧((keysOf (aState l i).1).length<i↔∃i2,i2<i∧∃j,j<i2∧l[j]?.getD []=l[i2]?.getD [])
 | 0=>by simp [aState,keysOf]
 | i+1=>by
   obtain ⟨h1,h2⟩:=aState_len l i
   have hm:=aState_mem l (l[i]?.getD []) i
   simp only [aState,keys_put]
   split
   · rename_i hk
     obtain ⟨j,hj,e⟩:=hm.1 hk
     exact ⟨by omega,⟨fun _=>⟨i,by omega,j,hj,e⟩,fun _=>by omega⟩⟩
   · rename_i hk
     refine ⟨by simp; omega,?_⟩
     rw [List.length_append,List.length_singleton]
     constructor
     · intro h
       obtain ⟨i2,a,b⟩:=h2.1 (by omega)
       exact ⟨i2,by omega,b⟩
     · rintro ⟨i2,hi2,j,hj,e⟩
       rcases Nat.lt_succ_iff_lt_or_eq.1 hi2 with h | rfl
       · have:=h2.2 ⟨i2,h,j,hj,e⟩; omega
       · exact absurd (hm.2 ⟨j,hj,e⟩) hk
theorem alike_twice (l:List (List UInt8)):decide (((aState l l.length).1.length:Int)<(l.length:Int))=twiceB l:=by
 have h:=(aState_len l l.length).2
 simp only [keysOf,List.length_map] at h
 rw [Bool.eq_iff_iff]
 unfold twiceB
 simp only [decide_eq_true_eq,List.any_eq_true,List.mem_range,beq_iff_eq]
 constructor
 · intro hlt
   obtain ⟨i,hi,j,hj,e⟩:=h.1 (by omega)
   exact ⟨i,hi,j,hj,e.symm⟩
 · rintro ⟨i,hi,j,hj,e⟩
   have:=h.2 ⟨i,hi,j,hj,e.symm⟩
   omega
theorem um79:Tryz.prog.underlying 79=some (.map 9 3):=by kernel_rfl
theorem zr3:zeroOf Tryz.prog 3=some (.int .i64 0):=by kernel_rfl
theorem fo55_0:fieldOff Tryz.prog 55 0=some 0:=by kernel_rfl
theorem fo55_3:fieldOff Tryz.prog 55 3=some 3:=by kernel_rfl
theorem fo55_1:fieldOff Tryz.prog 55 1=some 1:=by kernel_rfl
theorem fo55_2:fieldOff Tryz.prog 55 2=some 2:=by kernel_rfl
theorem fo30_1:fieldOff Tryz.prog 30 1=some 1:=by kernel_rfl
theorem na28:nonAgg Tryz.prog 28=true:=by kernel_rfl
theorem es28:elemSz Tryz.prog 28=some 4:=by kernel_rfl
theorem ag55:aggOf Tryz.prog 55=some 4:=by kernel_rfl
theorem zr55:zeroOf Tryz.prog 55=some (.agg #[.int .i64 0,.int .i64 0,.int .i64 0,st []]):=by kernel_rfl
theorem sz55:sizeP Tryz.prog 55=some 4:=by kernel_rfl
theorem en27:Enters Tryz.prog 27:=enters_of Tryz.func27 (by kernel_rfl) rfl
theorem en19:Enters Tryz.prog 19:=enters_of Tryz.func19 (by kernel_rfl) rfl
theorem fo30_0:fieldOff Tryz.prog 30 0=some 0:=by kernel_rfl
theorem en22:Enters Tryz.prog 22:=enters_of Tryz.func22 (by kernel_rfl) rfl
theorem twice_any (H:View) (a:Option Addr) (c:Nat) (l:List (List UInt8)) (w:World) (hH:Le H w) (hm:Sl rdStr 1 H a c l) :
   Calls Tryz.prog 22 #[.slice a l.length c] w fun e w'=>e = .returned (.bool (twiceB l))∧Ext w w':=by
 have hcap:=hm.cap
 have hmax:=hm.max
 refine enter Tryz.func22 rfl 25 rfl rfl ?_
 refine CWd (W':=Ws w [] [] [H]) (fun _ e=>by subst e; exact Ws.init (by simp [hH])) ?_
 refine Cs (Cr ?_)
 refine V0 (Ya rfl) ?_
 refine Ln (Et (Cs (Cs (Cr ?_))))
 refine V0 (Ya rfl) ?_
 refine Ln (Et (Cb ?_))
 refine CW (ι:=Nat) (fun i=>[(3,.int .i64 (i:Int))]) [(0,_)] (fun i=>i≤l.length∧∀i2,i2<i→∀j,j<i2→(l[i2]?.getD []==l[j]?.getD [])=false) (fun i=>l.length-i) 0 ⟨Nat.zero_le _,by simp⟩ (sc rfl (sc rfl sn)) ?_
 intro i ⟨hi,hall⟩
 refine Cs (Cs (Cr ?_))
 refine V0 (Ym rfl) ?_
 refine V0 (Ym rfl) ?_
 refine V0 (Yn es22 rfl) ?_
 refine V0 (yl_lt rfl rfl) ?_
 refine Ln (Et ?_)
 refine Cc rfl (fun hc0=>?_) (fun hc0=>?_)
 ·
  have hlt:i<l.length:=by simpa using hc0
  obtain ⟨pb,po,ha,hrow0⟩:=hm.elt i (l[i]?.getD []) (by rw [List.getElem?_eq_getElem hlt]; rfl)
  have hrow:vc H pb (po+i*1)=some (st (l[i]?.getD [])):=hrow0 0 _ rfl
  refine Ck (Et (Cs (Cb (Cs (Cr ?_)))))
  refine V0 (Ya rfl) ?_
  refine Ln (Et (Cb ?_))
  refine CW (ι:=Nat) (fun j=>[(4,.int .i64 (j:Int))]) [(0,_),(3,_)] (fun j=>j≤i∧∀j2,j2<j→(l[i]?.getD []==l[j2]?.getD [])=false) (fun j=>i-j) 0 ⟨Nat.zero_le _,by simp⟩ (sc rfl (sc rfl (sc rfl sn))) ?_
  intro j ⟨hj,hin⟩
  refine Cs (Cs (Cr ?_))
  refine V0 (Ym rfl) ?_
  refine V0 (Ym rfl) ?_
  refine V0 (yl_lt rfl rfl) ?_
  refine Ln (Et ?_)
  refine Cc rfl (fun hc1=>?_) (fun hc1=>?_)
  ·
   have hjt:j<i:=by simpa using hc1
   obtain ⟨qb,qo,ha2,hrow0⟩:=hm.elt j (l[j]?.getD []) (by rw [List.getElem?_eq_getElem (by omega)]; rfl)
   have hrow2:vc H qb (qo+j*1)=some (st (l[j]?.getD [])):=hrow0 0 _ rfl
   refine Ck (Et (Cs (Cb (Cs ?_))))
   refine WC.draws0 [(0,true),(1,true),(2,true),(3,true),(4,true),(5,true),(6,true),(7,true),(8,true)] mixed (by kernel_rfl) (fun _ _ _ d _ h=>by cases d<;>exact h) ?_
   refine Dq rfl (.inl rfl) rfl (fun _ h=>h) (Ym rfl) ?_
   refine Dq rfl (.inl rfl) rfl (fun _ h=>h) (Ym rfl) ?_
   refine Dq rfl (.inl rfl) rfl (fun _ h=>h) (Yo es22 rfl rfl ha (by omega)) ?_
   refine Dq rfl (.inl rfl) rfl (fun _ h=>h) (yl_ld 0 na9 rfl rfl (hrow)) ?_
   refine Dq rfl (.inl rfl) rfl (fun _ h=>h) (Ym rfl) ?_
   refine Dq rfl (.inl rfl) rfl (fun _ h=>h) (Ym rfl) ?_
   refine Dq rfl (.inl rfl) rfl (fun _ h=>h) (Yo es22 rfl rfl ha2 (by omega)) ?_
   refine Dq rfl (.inl rfl) rfl (fun _ h=>h) (yl_ld 0 na9 rfl rfl (hrow2)) ?_
   refine Dq rfl (.inl rfl) rfl (fun _ h=>h) (yl_eqs rfl rfl) ?_
   refine WD.nil (fun _ h=>h) ?_
   refine Et ?_
   refine Cc rfl (fun hc2=>?_) (fun hc2=>?_)
   ·
    refine Cs (Cr ?_)
    refine V0 (Ya rfl) ?_
    refine Ln (Et (Crt (Ebr (Er (Er ?_)))))
    refine Ebr (Ebr (Er (Er (Ebr (Er ?_)))))
    refine WE.ret1 rfl rfl fun w' hw=>?_
    exact ⟨by rw [twice_yes hlt hjt hc2],hw.fr⟩
   ·
    refine Ck (Eb (Et (Cr ?_)))
    refine V0 (Ym rfl) ?_
    refine V0 (Yi rfl rfl rfl (by omega)) ?_
    refine V0 (Ya rfl) ?_
    refine Ln ?_
    exact Ea (j+1) (by omega) ⟨by omega,fun j2 h2=>by rcases Nat.lt_succ_iff_lt_or_eq.1 h2 with h | rfl; exact hin j2 h; exact hc2⟩ (sc rfl (sc rfl (sc rfl sn))) (fun _ h=>h)
  ·
   refine Ce (Ex (Ex (Ebh (Eb (Et ?_)))))
   refine Cr ?_
   refine V0 (Ym rfl) ?_
   refine V0 (Yi rfl rfl rfl (by omega)) ?_
   refine V0 (Ya rfl) ?_
   refine Ln ?_
   exact Ea (i+1) (by omega) ⟨by omega,fun i2 h2 j2 hj2=>by rcases Nat.lt_succ_iff_lt_or_eq.1 h2 with h | rfl; exact hall i2 h j2 hj2; exact hin j2 (by simp at hc1; omega)⟩ (sc rfl (sc rfl sn)) (fun _ h=>h)
 ·
  refine Ce (Ex (Ex (Ebh (Et (Cs ?_)))))
  refine Cr ?_
  refine V0 (Ya rfl) ?_
  refine Ln (Et (Crt ?_))
  refine WE.ret1 rfl rfl fun w' hw=>?_
  exact ⟨by rw [twice_no fun i2 h2=>hall i2 (by simp at hc0; omega)],hw.fr⟩
theorem alike_any (H:View) (a:Option Addr) (c:Nat) (l:List (List UInt8)) (w:World) (hH:Le H w) (hm:Sl rdStr 1 H a c l) :
   Calls Tryz.prog 19 #[.slice a l.length c] w fun e w'=>e = .returned (.bool (twiceB l))∧Ext w w':=by
 have hcap:=hm.cap
 have hmax:=hm.max
 refine enter Tryz.func19 rfl 23 rfl rfl ?_
 refine CWd (W':=Ws w [] [] [H]) (fun _ e=>by subst e; exact Ws.init (by simp [hH])) ?_
 refine Cs (Cr ?_)
 refine V0 (Ya rfl) ?_
 refine Ln (Et (Cs (Cr ?_)))
 refine WL.mkmap (.inl rfl) rfl fun b6=>?_
 refine V0 (Ya rfl) ?_
 refine Ln (Et (Cs (Cs (Cr ?_))))
 refine V0 (Ym rfl) ?_
 refine V0 (Yn es22 rfl) ?_
 refine V0 (Ym rfl) ?_
 refine Ln (Et (Cb ?_))
 refine CK (ι:=Nat) (fun i=>[(9,.int .i64 (i:Int))]) [(0,_),(2,_),(3,_),(7,_),(8,_)] (fun i=>Ws w [] [blk b6 (mobj (iv (aState l i).1) (aState l i).2)] [H]) (fun i=>i≤l.length) (fun i=>l.length-i) 0 (Nat.zero_le _) (sc rfl (sc rfl (sc rfl (sc rfl (sc rfl (sc rfl sn)))))) (fun _ h=>h) ?_
 intro i hi
 refine Cs (Cr ?_)
 refine V0 (yl_lt rfl rfl) ?_
 refine Ln (Et (Cs ?_))
 refine Cc rfl (fun hc0=>?_) (fun hc0=>?_)
 ·
  have hlt:i<l.length:=by simpa using hc0
  obtain ⟨pb,po,ha,hrow0⟩:=hm.elt i (l[i]?.getD []) (by rw [List.getElem?_eq_getElem hlt]; rfl)
  have hrow:vc H pb (po+i*1)=some (st (l[i]?.getD [])):=hrow0 0 _ rfl
  refine Ck (Et (Cs (Cb (Cs (Cr ?_)))))
  refine V0 (Yo es22 rfl rfl ha (by omega)) ?_
  refine V0 (yl_ld 0 na9 rfl rfl (hrow)) ?_
  refine V0 (Ya rfl) ?_
  refine Ln (Et (Cr ?_))
  refine V0 (Ym rfl) ?_
  refine V0 (Ym rfl) ?_
  refine V0 (yl_mlook 0 um79 us9 zr3 rfl rfl rfl) ?_
  rw [mget_iv]
  refine V0 (yl_addw rfl rfl) ?_
  refine WL.mset 0 (.inl rfl) um79 us9 rfl rfl rfl rfl ?_
  rw [mput_iv,mclock_iv]
  refine Ln (Eb (Et (Cr ?_)))
  refine V0 (Yi rfl rfl rfl (by omega)) ?_
  refine V0 (Ym rfl) ?_
  refine Ln ?_
  exact Ea (i+1) (by omega) (by omega) (sc rfl (sc rfl (sc rfl (sc rfl (sc rfl (sc rfl sn)))))) (fun _ h=>h)
 ·
  have hie:i=l.length:=by simp at hc0; omega
  subst hie
  refine Ce (Ex (Ex (Ebh (Et (Cs ?_)))))
  refine Cr ?_
  refine V0 (Ym rfl) ?_
  refine V0 (yl_mlen 0 um79 rfl rfl) ?_
  refine V0 (Ym rfl) ?_
  refine V0 (Yn es22 rfl) ?_
  refine V0 (yl_lt rfl rfl) ?_
  refine V0 (Ya rfl) ?_
  refine Ln (Et (Crt ?_))
  refine WE.ret1 rfl rfl fun w' hw=>?_
  exact ⟨by rw [←alike_twice]; simp [iv],hw.fr⟩
theorem item_any (x:FItem) (w:World) :
   Calls Tryz.prog 27 #[.agg #[.int .i64 x.kind,.int .i64 x.n,.int .i64 x.pl,st x.name]] w fun e w'=>e = .returned (.bool (itemOk x))∧Ext w w':=by
 refine enter Tryz.func27 rfl 42 rfl rfl ?_
 refine CWd (W':=Ws w [] [] []) (fun _ e=>by subst e; exact Ws.init (by simp)) ?_
 refine Cs (Cr ?_)
 refine WL.box (.inl rfl) rfl rfl fun b1=>?_
 refine V0 (Ya rfl) ?_
 refine Ln (Et (Cs (Cr ?_)))
 refine V0 (Ya rfl) ?_
 refine V0 (Ya rfl) ?_
 refine Ln (Et (Cs (Cr ?_)))
 refine V0 (Ya rfl) ?_
 refine Ln (Et (Cs (Cs (Cr ?_))))
 refine V0 (Yf fo55_0 rfl) ?_
 refine V0 (Yd 0 rfl rfl rfl na3) ?_
 refine Ln (Et (Cb (Cs (Cr ?_))))
 refine V0 (yl_eq rfl rfl) ?_
 refine V0 (Ya rfl) ?_
 refine Ln (Et ?_)
 refine Cc rfl (fun hc0=>?_) (fun hc0=>?_)
 ·
  refine Cr ?_
  refine V0 (Ya rfl) ?_
  refine Ln (Eb (Et (Cs (Cr ?_))))
  refine V0 (Yf fo55_3 rfl) ?_
  refine V0 (Yd 0 rfl rfl rfl na9) ?_
  refine Lp (.inl rfl) rfl en28 rfl (fun w hw=>lexName_any _ w) ?_
  refine V0 (Ym rfl) ?_
  apply WL.and 4 rfl rfl rfl rfl (.inl rfl) rfl rfl rfl rfl rfl
  ·
   intro hg0
   refine Lv (.g rfl rfl rfl) rfl (Yf fo55_1 rfl) ?_
   refine Lv (.g rfl rfl rfl) rfl (Yd 0 rfl rfl rfl na3) ?_
   refine Lv (.g rfl rfl rfl) rfl (Ym rfl) ?_
   refine Lv (.g rfl rfl rfl) rfl (yl_ge rfl rfl) ?_
   exact Gt 4 rfl rfl rfl
  refine V0 (Ym rfl) ?_
  apply WL.and 4 rfl rfl rfl rfl (.inl rfl) rfl rfl rfl rfl rfl
  ·
   intro hg1
   refine Lv (.g rfl rfl rfl) rfl (Yf fo55_1 rfl) ?_
   refine Lv (.g rfl rfl rfl) rfl (Yd 0 rfl rfl rfl na3) ?_
   refine Lv (.g rfl rfl rfl) rfl (Ym rfl) ?_
   refine Lv (.g rfl rfl rfl) rfl (yl_le rfl rfl) ?_
   exact Gt 4 rfl rfl rfl
  refine V0 (Ym rfl) ?_
  apply WL.and 3 rfl rfl rfl rfl (.inl rfl) rfl rfl rfl rfl rfl
  ·
   intro hg2
   refine Lv (.g rfl rfl rfl) rfl (Yf fo55_2 rfl) ?_
   refine Lv (.g rfl rfl rfl) rfl (Yd 0 rfl rfl rfl na3) ?_
   refine Lv (.g rfl rfl rfl) rfl (yl_ge rfl rfl) ?_
   exact Gt 3 rfl rfl rfl
  refine V0 (Ym rfl) ?_
  apply WL.and 4 rfl rfl rfl rfl (.inl rfl) rfl rfl rfl rfl rfl
  ·
   intro hg3
   refine Lv (.g rfl rfl rfl) rfl (Yf fo55_2 rfl) ?_
   refine Lv (.g rfl rfl rfl) rfl (Yd 0 rfl rfl rfl na3) ?_
   refine Lv (.g rfl rfl rfl) rfl (Ym rfl) ?_
   refine Lv (.g rfl rfl rfl) rfl (yl_le rfl rfl) ?_
   exact Gt 4 rfl rfl rfl
  refine V0 (Ya rfl) ?_
  refine Ln (Et (Crt ?_))
  refine WE.ret1 rfl rfl fun w' hw=>?_
  have hk:x.kind=1:=by simpa using hc0
  exact ⟨by rw [item_kind (by simp [hk])],hw.fr⟩
 ·
  refine Cs (Cr ?_)
  refine V0 (yl_eq rfl rfl) ?_
  refine V0 (Ya rfl) ?_
  refine Ln (Et ?_)
  refine Cc rfl (fun hc1=>?_) (fun hc1=>?_)
  ·
   refine Cr ?_
   refine V0 (Ya rfl) ?_
   refine Ln (Eb (Et (Cs (Cr ?_))))
   refine V0 (Yf fo55_3 rfl) ?_
   refine V0 (Yd 0 rfl rfl rfl na9) ?_
   refine Lp (.inl rfl) rfl en28 rfl (fun w hw=>lexName_any _ w) ?_
   refine V0 (Ym rfl) ?_
   apply WL.and 4 rfl rfl rfl rfl (.inl rfl) rfl rfl rfl rfl rfl
   ·
    intro hg0
    refine Lv (.g rfl rfl rfl) rfl (Yf fo55_1 rfl) ?_
    refine Lv (.g rfl rfl rfl) rfl (Yd 0 rfl rfl rfl na3) ?_
    refine Lv (.g rfl rfl rfl) rfl (Ym rfl) ?_
    refine Lv (.g rfl rfl rfl) rfl (yl_ge rfl rfl) ?_
    exact Gt 4 rfl rfl rfl
   refine V0 (Ym rfl) ?_
   apply WL.and 4 rfl rfl rfl rfl (.inl rfl) rfl rfl rfl rfl rfl
   ·
    intro hg1
    refine Lv (.g rfl rfl rfl) rfl (Yf fo55_1 rfl) ?_
    refine Lv (.g rfl rfl rfl) rfl (Yd 0 rfl rfl rfl na3) ?_
    refine Lv (.g rfl rfl rfl) rfl (Ym rfl) ?_
    refine Lv (.g rfl rfl rfl) rfl (yl_le rfl rfl) ?_
    exact Gt 4 rfl rfl rfl
   refine V0 (Ym rfl) ?_
   apply WL.and 3 rfl rfl rfl rfl (.inl rfl) rfl rfl rfl rfl rfl
   ·
    intro hg2
    refine Lv (.g rfl rfl rfl) rfl (Yf fo55_2 rfl) ?_
    refine Lv (.g rfl rfl rfl) rfl (Yd 0 rfl rfl rfl na3) ?_
    refine Lv (.g rfl rfl rfl) rfl (yl_ge rfl rfl) ?_
    exact Gt 3 rfl rfl rfl
   refine V0 (Ym rfl) ?_
   apply WL.and 4 rfl rfl rfl rfl (.inl rfl) rfl rfl rfl rfl rfl
   ·
    intro hg3
    refine Lv (.g rfl rfl rfl) rfl (Yf fo55_2 rfl) ?_
    refine Lv (.g rfl rfl rfl) rfl (Yd 0 rfl rfl rfl na3) ?_
    refine Lv (.g rfl rfl rfl) rfl (Ym rfl) ?_
    refine Lv (.g rfl rfl rfl) rfl (yl_le rfl rfl) ?_
    exact Gt 4 rfl rfl rfl
   refine V0 (Ya rfl) ?_
   refine Ln (Et (Crt ?_))
   refine WE.ret1 rfl rfl fun w' hw=>?_
   have hk:x.kind=2:=by simpa using hc1
   exact ⟨by rw [item_kind (by simp [hk])],hw.fr⟩
  ·
   refine Cs (Cr ?_)
   refine V0 (yl_eq rfl rfl) ?_
   refine V0 (Ya rfl) ?_
   refine Ln (Et ?_)
   refine Cc rfl (fun hc2=>?_) (fun hc2=>?_)
   ·
    refine Cr ?_
    refine V0 (Ya rfl) ?_
    refine V0 (Ya rfl) ?_
    refine Ln (Eb (Et (Cs (Cr ?_))))
    refine V0 (Yf fo55_3 rfl) ?_
    refine V0 (Yd 0 rfl rfl rfl na9) ?_
    refine Lp (.inl rfl) rfl en28 rfl (fun w hw=>lexName_any _ w) ?_
    refine V0 (Ym rfl) ?_
    apply WL.and 4 rfl rfl rfl rfl (.inl rfl) rfl rfl rfl rfl rfl
    ·
     intro hg0
     refine Lv (.g rfl rfl rfl) rfl (Yf fo55_1 rfl) ?_
     refine Lv (.g rfl rfl rfl) rfl (Yd 0 rfl rfl rfl na3) ?_
     refine Lv (.g rfl rfl rfl) rfl (Ym rfl) ?_
     refine Lv (.g rfl rfl rfl) rfl (yl_ge rfl rfl) ?_
     exact Gt 4 rfl rfl rfl
    refine V0 (Ym rfl) ?_
    apply WL.and 4 rfl rfl rfl rfl (.inl rfl) rfl rfl rfl rfl rfl
    ·
     intro hg1
     refine Lv (.g rfl rfl rfl) rfl (Yf fo55_1 rfl) ?_
     refine Lv (.g rfl rfl rfl) rfl (Yd 0 rfl rfl rfl na3) ?_
     refine Lv (.g rfl rfl rfl) rfl (Ym rfl) ?_
     refine Lv (.g rfl rfl rfl) rfl (yl_le rfl rfl) ?_
     exact Gt 4 rfl rfl rfl
    refine V0 (Ym rfl) ?_
    apply WL.and 3 rfl rfl rfl rfl (.inl rfl) rfl rfl rfl rfl rfl
    ·
     intro hg2
     refine Lv (.g rfl rfl rfl) rfl (Yf fo55_2 rfl) ?_
     refine Lv (.g rfl rfl rfl) rfl (Yd 0 rfl rfl rfl na3) ?_
     refine Lv (.g rfl rfl rfl) rfl (yl_ge rfl rfl) ?_
     exact Gt 3 rfl rfl rfl
    refine V0 (Ym rfl) ?_
    apply WL.and 4 rfl rfl rfl rfl (.inl rfl) rfl rfl rfl rfl rfl
    ·
     intro hg3
     refine Lv (.g rfl rfl rfl) rfl (Yf fo55_2 rfl) ?_
     refine Lv (.g rfl rfl rfl) rfl (Yd 0 rfl rfl rfl na3) ?_
     refine Lv (.g rfl rfl rfl) rfl (Ym rfl) ?_
     refine Lv (.g rfl rfl rfl) rfl (yl_le rfl rfl) ?_
     exact Gt 4 rfl rfl rfl
    refine V0 (Ya rfl) ?_
    refine Ln (Et (Crt ?_))
    refine WE.ret1 rfl rfl fun w' hw=>?_
    have hk:x.kind=3:=by simpa using hc2
    exact ⟨by rw [item_kind (by simp [hk])],hw.fr⟩
   ·
    refine Cs (Cr ?_)
    refine V0 (yl_eq rfl rfl) ?_
    refine V0 (Ya rfl) ?_
    refine Ln (Et ?_)
    refine Cc rfl (fun hc3=>?_) (fun hc3=>?_)
    ·
     refine Cr ?_
     refine V0 (Ya rfl) ?_
     refine Ln (Eb (Et (Cs (Cr ?_))))
     refine V0 (Yf fo55_3 rfl) ?_
     refine V0 (Yd 0 rfl rfl rfl na9) ?_
     refine Lp (.inl rfl) rfl en28 rfl (fun w hw=>lexName_any _ w) ?_
     refine V0 (Ym rfl) ?_
     apply WL.and 4 rfl rfl rfl rfl (.inl rfl) rfl rfl rfl rfl rfl
     ·
      intro hg0
      refine Lv (.g rfl rfl rfl) rfl (Yf fo55_1 rfl) ?_
      refine Lv (.g rfl rfl rfl) rfl (Yd 0 rfl rfl rfl na3) ?_
      refine Lv (.g rfl rfl rfl) rfl (Ym rfl) ?_
      refine Lv (.g rfl rfl rfl) rfl (yl_ge rfl rfl) ?_
      exact Gt 4 rfl rfl rfl
     refine V0 (Ym rfl) ?_
     apply WL.and 4 rfl rfl rfl rfl (.inl rfl) rfl rfl rfl rfl rfl
     ·
      intro hg1
      refine Lv (.g rfl rfl rfl) rfl (Yf fo55_1 rfl) ?_
      refine Lv (.g rfl rfl rfl) rfl (Yd 0 rfl rfl rfl na3) ?_
      refine Lv (.g rfl rfl rfl) rfl (Ym rfl) ?_
      refine Lv (.g rfl rfl rfl) rfl (yl_le rfl rfl) ?_
      exact Gt 4 rfl rfl rfl
     refine V0 (Ym rfl) ?_
     apply WL.and 3 rfl rfl rfl rfl (.inl rfl) rfl rfl rfl rfl rfl
     ·
      intro hg2
      refine Lv (.g rfl rfl rfl) rfl (Yf fo55_2 rfl) ?_
      refine Lv (.g rfl rfl rfl) rfl (Yd 0 rfl rfl rfl na3) ?_
      refine Lv (.g rfl rfl rfl) rfl (yl_ge rfl rfl) ?_
      exact Gt 3 rfl rfl rfl
     refine V0 (Ym rfl) ?_
     apply WL.and 4 rfl rfl rfl rfl (.inl rfl) rfl rfl rfl rfl rfl
     ·
      intro hg3
      refine Lv (.g rfl rfl rfl) rfl (Yf fo55_2 rfl) ?_
      refine Lv (.g rfl rfl rfl) rfl (Yd 0 rfl rfl rfl na3) ?_
      refine Lv (.g rfl rfl rfl) rfl (Ym rfl) ?_
      refine Lv (.g rfl rfl rfl) rfl (yl_le rfl rfl) ?_
      exact Gt 4 rfl rfl rfl
     refine V0 (Ya rfl) ?_
     refine Ln (Et (Crt ?_))
     refine WE.ret1 rfl rfl fun w' hw=>?_
     have hk:x.kind=4:=by simpa using hc3
     exact ⟨by rw [item_kind (by simp [hk])],hw.fr⟩
    ·
     refine Cs (Cr ?_)
     refine V0 (Ya rfl) ?_
     refine Ln (Et (Crt (Ebr (Er ?_))))
     refine WE.ret1 rfl rfl fun w' hw=>?_
     simp at hc0 hc1 hc2 hc3
     exact ⟨by rw [item_none hc0 hc1 hc2 hc3],hw.fr⟩
theorem scopeCheck_any (H:View) (a:Option Addr) (c:Nat) (name:List UInt8) (items:List FItem) (w:World) (hH:Le H w) (hm:Sl rdItem 4 H a c items) :
   Calls Tryz.prog 10 #[.agg #[st name,.slice a items.length c]] w fun e w'=>e = .returned (.int .i64 (faceE name items))∧Ext w w':=by
 have hcap:=hm.cap
 have hmax:=hm.max
 refine enter Tryz.func10 rfl 34 rfl rfl ?_
 refine CWd (W':=Ws w [] [] [H]) (fun _ e=>by subst e; exact Ws.init (by simp [hH])) ?_
 refine Cs (Cr ?_)
 refine WL.box (.inl rfl) rfl rfl fun b1=>?_
 refine V0 (Ya rfl) ?_
 refine Ln (Et (Cs (Cs (Cr ?_))))
 refine V0 (Yf fo30_1 rfl) ?_
 refine V0 (Yd 0 rfl rfl rfl na28) ?_
 refine V0 (Yn es28 rfl) ?_
 refine V0 (yl_gt rfl rfl) ?_
 refine Ln (Et ?_)
 refine Cc rfl (fun hc0=>?_) (fun hc0=>?_)
 ·
  have h16:16<items.length:=by simp at hc0; omega
  refine Cs (Cr ?_)
  refine V0 (Ya rfl) ?_
  refine Ln (Et (Crt (Er ?_)))
  refine WE.ret1 rfl rfl fun w' hw=>?_
  exact ⟨by rw [faceE,if_pos h16],hw.fr⟩
 ·
  have h16:¬16<items.length:=by simp at hc0; omega
  refine Ck (Et (Cs (Cr ?_)))
  refine V0 (Ya rfl) ?_
  refine LW (fun _ h=>h.osl_nil 9 1) ?_
  refine Ln (Et (Cs (Cs (Cr ?_))))
  refine V0 (Yf fo30_1 rfl) ?_
  refine V0 (Yd 1 rfl rfl rfl na28) ?_
  refine V0 (Yn es28 rfl) ?_
  refine V0 (Ym rfl) ?_
  refine Ln (Et (Cb ?_))
  refine CK (ι:=Nat×Option Addr×Nat) (fun g=>[(13,.int .i64 (g.1:Int)),(3,.slice g.2.1 ((items.take g.1).map (·.name)).length g.2.2)]) [(1,_),(11,_),(12,_)] (fun g=>Ws w [] [osT 9 1 strC g.2.1 g.2.2 ((items.take g.1).map (·.name)),blk b1 (.cells (Value.agg #[st name,.slice a items.length c]).cells 30 (0,0))] [H]) (fun g=>g.1≤items.length∧∀j x,j<g.1→items[j]? = some x→itemOk x=true) (fun g=>items.length-g.1) (0,none,0) ⟨Nat.zero_le _,by simp⟩ (sc rfl (sc rfl (sc rfl (sc rfl (sc rfl sn))))) (fun _ h=>h) ?_
  intro g ⟨hi,hall⟩
  refine Cs (Cr ?_)
  refine V0 (yl_lt rfl rfl) ?_
  refine Ln (Et (Cs ?_))
  refine Cc rfl (fun hc1=>?_) (fun hc1=>?_)
  ·
   have hlt:g.1<items.length:=by simpa using hc1
   obtain ⟨x,hx⟩:∃x,items[g.1]? = some x:=⟨_,List.getElem?_eq_getElem hlt⟩
   obtain ⟨pb,po,ha,hrow⟩:=hm.elt g.1 x hx
   have hrow:RdC H pb (po+g.1*4) x.cells:=hrow
   have hT:(items.take (g.1+1)).map (·.name)=(items.take g.1).map (·.name)++[x.name]:=by rw [List.take_add_one,hx]; simp
   have hL:((items.take g.1).map (·.name)).length=g.1:=by simp; omega
   refine Ck (Et (Cs (Cb (Cs (Cr ?_)))))
   refine V0 (Yo es28 rfl rfl ha (by omega)) ?_
   refine V0 (yl_lda 0 ag55 rfl rfl rfl (hrow)) ?_
   refine WL.alloc (.inl rfl) rfl zr55 fun b5=>?_
   refine Lst 0 (.inl rfl) rfl rfl rfl sz55 rfl rfl rfl ?_
   refine Ln (Et (Cs (Cs (Cr ?_))))
   refine V0 (Yda 0 rfl rfl ag55 rfl) ?_
   refine Lp (.inl rfl) rfl en27 rfl (fun w hw=>item_any x w) ?_
   refine V0 (yl_not rfl) ?_
   refine Ln (Et ?_)
   refine Cc rfl (fun hc2=>?_) (fun hc2=>?_)
   ·
    have hno:=fall_no hx (by simpa using hc2)
    refine Cs (Cr ?_)
    refine V0 (Ya rfl) ?_
    refine Ln (Et (Crt (Er (Ebr (Er ?_)))))
    refine Er (Ebr (Er ?_))
    refine WE.ret1 rfl rfl fun w' hw=>?_
    exact ⟨by rw [faceE,if_neg h16,hno]; rfl,hw.fr⟩
   ·
    have hok:itemOk x=true:=by simpa using hc2
    refine Ck (Et (Cr ?_))
    refine V0 (Ym rfl) ?_
    refine V0 (Yf fo55_3 rfl) ?_
    refine V0 (Yd 0 rfl rfl rfl na9) ?_
    refine Lb (.inl rfl) rfl el22 rfl rfl rfl rfl fun b23=>?_
    refine Lrb 0 (.cells (strC x.name).toArray 9 (0,0)) rfl (rfl) ?_
    refine LA (x.name) 2 0 (.inl rfl) rfl el22 rfl rfl rfl rfl rfl rfl (by omega) (by omega) fun a24 c24=>?_
    refine V0 (Ya rfl) ?_
    refine Ln (Eb (Et (Cr ?_)))
    refine V0 (Yi rfl rfl rfl (by omega)) ?_
    refine V0 (Ym rfl) ?_
    refine Ln ?_
    rw [←hT]
    exact Ea ((g.1+1,a24,c24):Nat×Option Addr×Nat) (by first | omega | (dsimp only; omega)) ⟨by first | omega | (dsimp only; omega),fun j y hj hy=>by
        rcases Nat.lt_succ_iff_lt_or_eq.1 hj with h | h
        · exact hall j y h hy
        · subst h; rw [hx] at hy; injection hy with hy; subst hy; exact hok⟩ (sc rfl (sc rfl (sc rfl (sc rfl (sc rfl sn))))) (fun _ h=>Ws.drop (L:=[_,_]) h)
  ·
   have hie:g.1=items.length:=by simp at hc1; omega
   rw [hie,List.take_length]
   refine Ce (Ex (Ex (Ebh (Et (Cs ?_)))))
   refine Cs ?_
   refine WC.oslview (rd:=rdStr) 0 rfl strC_len (fun _ _ _ _ h=>h) fun HN hHN=>?_
   refine Cr ?_
   refine V0 (Ym rfl) ?_
   refine Lp (.inl rfl) rfl en19 rfl (fun w hw=>by
       have:=alike_any HN g.2.1 g.2.2 (items.map (·.name)) w (hw.vs _ (by simp)) hHN
       exact this) ?_
   refine V0 (Ym rfl) ?_
   apply WL.or 4 rfl rfl rfl rfl (.inl rfl) rfl rfl rfl rfl rfl
   ·
    intro hg0
    refine Lv (.g rfl rfl rfl) rfl (Yf fo30_0 rfl) ?_
    refine Lv (.g rfl rfl rfl) rfl (Yd 0 rfl rfl rfl na9) ?_
    refine Lp (.g rfl rfl rfl) rfl en28 rfl (fun w hw=>lexName_any _ w) ?_
    refine Lv (.g rfl rfl rfl) rfl (yl_not rfl) ?_
    exact Gt 4 rfl rfl rfl
   refine Ln (Et ?_)
   refine Cc rfl (fun hc3=>?_) (fun hc3=>?_)
   ·
    refine Cs (Cr ?_)
    refine V0 (Ya rfl) ?_
    refine Ln (Et (Crt (Er ?_)))
    refine WE.ret1 rfl rfl fun w' hw=>?_
    have hy:=fall_yes fun j y hy=>hall j y (by have:=(List.getElem?_eq_some_iff.1 hy).1; omega) hy
    exact ⟨by rw [faceE,if_neg h16,hy,hc3]; rfl,hw.fr⟩
   ·
    refine Ck (Et (Cs (Cr ?_)))
    refine V0 (Ya rfl) ?_
    refine Ln (Et (Crt ?_))
    refine WE.ret1 rfl rfl fun w' hw=>?_
    have hy:=fall_yes fun j y hy=>hall j y (by have:=(List.getElem?_eq_some_iff.1 hy).1; omega) hy
    exact ⟨by rw [faceE,if_neg h16,hy,hc3]; rfl,hw.fr⟩
theorem checkFace_any (H:View) (a:Option Addr) (c:Nat) (name:List UInt8) (items:List FItem) (w:World) (hH:Le H w) (hm:Sl rdItem 4 H a c items) :
   Calls Tryz.prog 11 #[.agg #[st name,.slice a items.length c]] w fun e w'=>e = .returned (.int .i64 (faceE name items))∧Ext w w':=by
 have hcap:=hm.cap
 have hmax:=hm.max
 refine enter Tryz.func11 rfl 98 rfl rfl ?_
 refine CWd (W':=Ws w [] [] [H]) (fun _ e=>by subst e; exact Ws.init (by simp [hH])) ?_
 refine Cs (Cr ?_)
 refine WL.box (.inl rfl) rfl rfl fun b1=>?_
 refine V0 (Ya rfl) ?_
 refine Ln (Et (Cs (Cs (Cr ?_))))
 refine V0 (Yf fo30_1 rfl) ?_
 refine V0 (Yd 0 rfl rfl rfl na28) ?_
 refine V0 (Yn es28 rfl) ?_
 refine V0 (yl_gt rfl rfl) ?_
 refine Ln (Et ?_)
 refine Cc rfl (fun hc0=>?_) (fun hc0=>?_)
 ·
  have h16:16<items.length:=by simp at hc0; omega
  refine Cs (Cr ?_)
  refine V0 (Ya rfl) ?_
  refine Ln (Et (Crt (Er ?_)))
  refine WE.ret1 rfl rfl fun w' hw=>?_
  exact ⟨by rw [faceE,if_pos h16],hw.fr⟩
 ·
  have h16:¬16<items.length:=by simp at hc0; omega
  refine Ck (Et (Cs (Cs (Cr ?_))))
  refine V0 (Yf fo30_0 rfl) ?_
  refine V0 (Yd 0 rfl rfl rfl na9) ?_
  refine Lp (.inl rfl) rfl en29 rfl (fun w hw=>isName_any _ w) ?_
  refine V0 (yl_not rfl) ?_
  refine Ln (Et ?_)
  refine Cc rfl (fun hc1=>?_) (fun hc1=>?_)
  ·
   refine Cs (Cr ?_)
   refine V0 (Ya rfl) ?_
   refine Ln (Et (Crt (Er ?_)))
   refine WE.ret1 rfl rfl fun w' hw=>?_
   have hn:nameB name=false:=by simpa using hc1
   exact ⟨by rw [faceE,if_neg h16,hn]; simp,hw.fr⟩
  ·
   refine Ck (Et (Cs (Cr ?_)))
   refine V0 (Ya rfl) ?_
   refine LW (fun _ h=>h.osl_nil 9 1) ?_
   refine Ln (Et (Cs (Cs (Cr ?_))))
   refine V0 (Ya rfl) ?_
   refine Ln (Et (Cb ?_))
   refine CK (ι:=Nat×Option Addr×Nat) (fun g=>[(4,.int .i64 (g.1:Int)),(3,.slice g.2.1 ((items.take g.1).map (·.name)).length g.2.2)]) [(1,_)] (fun g=>Ws w [] [osT 9 1 strC g.2.1 g.2.2 ((items.take g.1).map (·.name)),blk b1 (.cells (Value.agg #[st name,.slice a items.length c]).cells 30 (0,0))] [H]) (fun g=>g.1≤items.length∧∀j x,j<g.1→items[j]? = some x→itemOk x=true) (fun g=>items.length-g.1) (0,none,0) ⟨Nat.zero_le _,by simp⟩ (sc rfl (sc rfl (sc rfl sn))) (fun _ h=>h) ?_
   intro g ⟨hi,hall⟩
   refine Cs (Cs (Cr ?_))
   refine V0 (Ym rfl) ?_
   refine V0 (Yf fo30_1 rfl) ?_
   refine V0 (Yd 1 rfl rfl rfl na28) ?_
   refine V0 (Yn es28 rfl) ?_
   refine V0 (yl_lt rfl rfl) ?_
   refine Ln (Et ?_)
   refine Cc rfl (fun hc2=>?_) (fun hc2=>?_)
   ·
    have hlt:g.1<items.length:=by simpa using hc2
    obtain ⟨x,hx⟩:∃x,items[g.1]? = some x:=⟨_,List.getElem?_eq_getElem hlt⟩
    obtain ⟨pb,po,ha,hrow⟩:=hm.elt g.1 x hx
    have hrow:RdC H pb (po+g.1*4) x.cells:=hrow
    have hT:(items.take (g.1+1)).map (·.name)=(items.take g.1).map (·.name)++[x.name]:=by rw [List.take_add_one,hx]; simp
    have hL:((items.take g.1).map (·.name)).length=g.1:=by simp; omega
    refine Ck (Et (Cs (Cb (Cs (Cr ?_)))))
    refine V0 (Yf fo30_1 rfl) ?_
    refine V0 (Yd 1 rfl rfl rfl na28) ?_
    refine V0 (Ym rfl) ?_
    refine V0 (Yo es28 rfl rfl ha (by omega)) ?_
    refine V0 (yl_lda 0 ag55 rfl rfl rfl (hrow)) ?_
    refine WL.alloc (.inl rfl) rfl zr55 fun b5=>?_
    refine Lst 0 (.inl rfl) rfl rfl rfl sz55 rfl rfl rfl ?_
    refine Ln (Et (Cs (Cr ?_)))
    refine V0 (Ym rfl) ?_
    refine V0 (Yf fo55_3 rfl) ?_
    refine V0 (Yd 0 rfl rfl rfl na9) ?_
    refine Lb (.inl rfl) rfl el22 rfl rfl rfl rfl fun b30=>?_
    refine Lrb 0 (.cells (strC x.name).toArray 9 (0,0)) rfl (rfl) ?_
    refine LA (x.name) 2 0 (.inl rfl) rfl el22 rfl rfl rfl rfl rfl rfl (by omega) (by omega) fun a31 c31=>?_
    refine V0 (Ya rfl) ?_
    refine Ln (Et (Cs (Cr ?_)))
    refine V0 (Ya rfl) ?_
    refine Ln (Et (Cs (Cr ?_)))
    refine V0 (Yf fo55_3 rfl) ?_
    refine V0 (Yd 1 rfl rfl rfl na9) ?_
    refine Lp (.inl rfl) rfl en29 rfl (fun w hw=>isName_any _ w) ?_
    refine V0 (yl_not rfl) ?_
    refine V0 (Ym rfl) ?_
    apply WL.or 4 rfl rfl rfl rfl (.inl rfl) rfl rfl rfl rfl rfl
    ·
     intro hg0
     refine Lv (.g rfl rfl rfl) rfl (Yf fo55_0 rfl) ?_
     refine Lv (.g rfl rfl rfl) rfl (Yd 1 rfl rfl rfl na3) ?_
     refine Lp (.g rfl rfl rfl) rfl en30 rfl (fun w hw=>within_any _ _ _ w) ?_
     refine Lv (.g rfl rfl rfl) rfl (yl_not rfl) ?_
     exact Gt 4 rfl rfl rfl
    refine V0 (Ym rfl) ?_
    apply WL.or 4 rfl rfl rfl rfl (.inl rfl) rfl rfl rfl rfl rfl
    ·
     intro hg1
     refine Lv (.g rfl rfl rfl) rfl (Yf fo55_1 rfl) ?_
     refine Lv (.g rfl rfl rfl) rfl (Yd 1 rfl rfl rfl na3) ?_
     refine Lp (.g rfl rfl rfl) rfl en30 rfl (fun w hw=>within_any _ _ _ w) ?_
     refine Lv (.g rfl rfl rfl) rfl (yl_not rfl) ?_
     exact Gt 4 rfl rfl rfl
    refine V0 (Ym rfl) ?_
    apply WL.or 5 rfl rfl rfl rfl (.inl rfl) rfl rfl rfl rfl rfl
    ·
     intro hg2
     refine Lv (.g rfl rfl rfl) rfl (Yf fo55_2 rfl) ?_
     refine Lv (.g rfl rfl rfl) rfl (Yd 1 rfl rfl rfl na3) ?_
     refine Lv (.g rfl rfl rfl) rfl (Ym rfl) ?_
     refine Lp (.g rfl rfl rfl) rfl en30 rfl (fun w hw=>within_any _ _ _ w) ?_
     refine Lv (.g rfl rfl rfl) rfl (yl_not rfl) ?_
     exact Gt 5 rfl rfl rfl
    refine V0 (Ym rfl) ?_
    apply WL.or 8 rfl rfl rfl rfl (.inl rfl) rfl rfl rfl rfl rfl
    ·
     intro hg3
     refine Lv (.g rfl rfl rfl) rfl (Yf fo55_0 rfl) ?_
     refine Lv (.g rfl rfl rfl) rfl (Yd 1 rfl rfl rfl na3) ?_
     refine Lv (.g rfl rfl rfl) rfl (yl_eq rfl rfl) ?_
     refine Lv (.g rfl rfl rfl) rfl (Ym rfl) ?_
     apply WL.and 3 rfl rfl rfl rfl (.g rfl rfl rfl) rfl rfl rfl rfl rfl
     ·
      intro hg4
      refine Lv (.g rfl rfl rfl) rfl (Yf fo55_2 rfl) ?_
      refine Lv (.g rfl rfl rfl) rfl (Yd 1 rfl rfl rfl na3) ?_
      refine Lv (.g rfl rfl rfl) rfl (yl_ne rfl rfl) ?_
      exact Gt 3 rfl rfl rfl
     exact Gt 5 rfl rfl rfl
    refine V0 (Ym rfl) ?_
    apply WL.or 8 rfl rfl rfl rfl (.inl rfl) rfl rfl rfl rfl rfl
    ·
     intro hg5
     refine Lv (.g rfl rfl rfl) rfl (Yf fo55_0 rfl) ?_
     refine Lv (.g rfl rfl rfl) rfl (Yd 1 rfl rfl rfl na3) ?_
     refine Lv (.g rfl rfl rfl) rfl (yl_eq rfl rfl) ?_
     refine Lv (.g rfl rfl rfl) rfl (Ym rfl) ?_
     apply WL.and 3 rfl rfl rfl rfl (.g rfl rfl rfl) rfl rfl rfl rfl rfl
     ·
      intro hg6
      refine Lv (.g rfl rfl rfl) rfl (Yf fo55_1 rfl) ?_
      refine Lv (.g rfl rfl rfl) rfl (Yd 1 rfl rfl rfl na3) ?_
      refine Lv (.g rfl rfl rfl) rfl (yl_ne rfl rfl) ?_
      exact Gt 3 rfl rfl rfl
     exact Gt 5 rfl rfl rfl
    refine V0 (Ym rfl) ?_
    apply WL.or 9 rfl rfl rfl rfl (.inl rfl) rfl rfl rfl rfl rfl
    ·
     intro hg7
     refine Lv (.g rfl rfl rfl) rfl (Yf fo55_0 rfl) ?_
     refine Lv (.g rfl rfl rfl) rfl (Yd 1 rfl rfl rfl na3) ?_
     refine Lv (.g rfl rfl rfl) rfl (yl_eq rfl rfl) ?_
     refine Lv (.g rfl rfl rfl) rfl (Ym rfl) ?_
     apply WL.and 4 rfl rfl rfl rfl (.g rfl rfl rfl) rfl rfl rfl rfl rfl
     ·
      intro hg8
      refine Lv (.g rfl rfl rfl) rfl (Yf fo55_1 rfl) ?_
      refine Lv (.g rfl rfl rfl) rfl (Yd 1 rfl rfl rfl na3) ?_
      refine Lp (.g rfl rfl rfl) rfl en30 rfl (fun w hw=>within_any _ _ _ w) ?_
      refine Lv (.g rfl rfl rfl) rfl (yl_not rfl) ?_
      exact Gt 4 rfl rfl rfl
     exact Gt 5 rfl rfl rfl
    refine V0 (Ym rfl) ?_
    apply WL.or 8 rfl rfl rfl rfl (.inl rfl) rfl rfl rfl rfl rfl
    ·
     intro hg9
     refine Lv (.g rfl rfl rfl) rfl (Yf fo55_0 rfl) ?_
     refine Lv (.g rfl rfl rfl) rfl (Yd 1 rfl rfl rfl na3) ?_
     refine Lv (.g rfl rfl rfl) rfl (yl_eq rfl rfl) ?_
     refine Lv (.g rfl rfl rfl) rfl (Ym rfl) ?_
     apply WL.and 3 rfl rfl rfl rfl (.g rfl rfl rfl) rfl rfl rfl rfl rfl
     ·
      intro hg10
      refine Lv (.g rfl rfl rfl) rfl (Yf fo55_1 rfl) ?_
      refine Lv (.g rfl rfl rfl) rfl (Yd 1 rfl rfl rfl na3) ?_
      refine Lv (.g rfl rfl rfl) rfl (yl_gt rfl rfl) ?_
      exact Gt 3 rfl rfl rfl
     exact Gt 5 rfl rfl rfl
    refine Ln (Et ?_)
    refine Cc rfl (fun hc3=>?_) (fun hc3=>?_)
    ·
     have hok:itemOk x=false:=congrArg Bool.not hc3
     have hno:=fall_no hx hok
     refine Cs (Cr ?_)
     refine V0 (Ya rfl) ?_
     refine Ln (Et (Crt (Ebr (Er (Er ?_)))))
     refine Ebr (Er ?_)
     refine WE.ret1 rfl rfl fun w' hw=>?_
     exact ⟨by rw [faceE,if_neg h16,hno]; rfl,hw.fr⟩
    ·
     have hok:itemOk x=true:=congrArg Bool.not hc3
     refine Ck (Eb (Et (Cr ?_)))
     refine V0 (Ym rfl) ?_
     refine V0 (Yi rfl rfl rfl (by omega)) ?_
     refine V0 (Ya rfl) ?_
     refine Ln ?_
     rw [←hT]
     exact Ea ((g.1+1,a31,c31):Nat×Option Addr×Nat) (by first | omega | (dsimp only; omega)) ⟨by first | omega | (dsimp only; omega),fun j y hj hy=>by
         rcases Nat.lt_succ_iff_lt_or_eq.1 hj with h | h
         · exact hall j y h hy
         · subst h; rw [hx] at hy; injection hy with hy; subst hy; exact hok⟩ (sc rfl (sc rfl (sc rfl sn))) (fun _ h=>Ws.drop (L:=[_,_]) h)
   ·
    have hie:g.1=items.length:=by simp at hc2; omega
    rw [hie,List.take_length]
    refine Ce (Ex (Ex (Ebh (Et (Cs ?_)))))
    refine Cs ?_
    refine WC.oslview (rd:=rdStr) 0 rfl strC_len (fun _ _ _ _ h=>h) fun HN hHN=>?_
    refine Cr ?_
    refine V0 (Ym rfl) ?_
    refine Lp (.inl rfl) rfl en22 rfl (fun w hw=>by
        have:=twice_any HN g.2.1 g.2.2 (items.map (·.name)) w (hw.vs _ (by simp)) hHN
        exact this) ?_
    refine Ln (Et ?_)
    refine Cc rfl (fun hc4=>?_) (fun hc4=>?_)
    ·
     refine Cs (Cr ?_)
     refine V0 (Ya rfl) ?_
     refine Ln (Et (Crt (Er ?_)))
     refine WE.ret1 rfl rfl fun w' hw=>?_
     have hy:=fall_yes fun j y hy=>hall j y (by have:=(List.getElem?_eq_some_iff.1 hy).1; omega) hy
     exact ⟨by rw [faceE,if_neg h16,hy,hc4]; rfl,hw.fr⟩
    ·
     refine Ck (Et (Cs (Cr ?_)))
     refine V0 (Ya rfl) ?_
     refine Ln (Et (Crt ?_))
     refine WE.ret1 rfl rfl fun w' hw=>?_
     have hn:nameB name=true:=by simpa using hc1
     have hy:=fall_yes fun j y hy=>hall j y (by have:=(List.getElem?_eq_some_iff.1 hy).1; omega) hy
     exact ⟨by rw [faceE,if_neg h16,hy,hc4,hn]; rfl,hw.fr⟩
end Go.Proofs.YtinnlppbkhhoiaaGreatDoor
end
section
namespace Go.Proofs.YtinnlppbkhhoiaaGreatDoor
open Go.Bw
set_option linter.unusedVariables false
set_option linter.unusedSimpArgs false
theorem mOk {m:TMod} (h:checkM m=0):OkM m:=okM (checkM_tot.1 h)
theorem dSz_bd {d:TDecl} (h:OkD d):0≤dSz d∧dSz d≤32:=by
 unfold dSz
 have h3:=h.n3
 split
 · omega
 · split
   · rename_i hk; have:=h3 hk; omega
   · omega
theorem dSum_bd:∀{l:List TDecl},(∀d ∈ l,(declC d).tot=0)→0≤dSum l∧dSum l≤32*(l.length:Int)
 | [],_=>by simp [dSum]
 | d::l,h=>by
   have h1:=dSz_bd (okD (h d (by simp)))
   have h2:=dSum_bd (l:=l) fun x hx=>h x (List.mem_cons_of_mem _ hx)
   simp only [dSum,List.length_cons]
   omega
theorem dSum_take {m:TMod} (ho:OkM m) (i:Nat):0≤dSum (m.decls.take i)∧dSum (m.decls.take i)≤320:=by
 have h:=dSum_bd (l:=m.decls.take i) fun d hd=>ho.decls d (List.mem_of_mem_take hd)
 have h1:=ho.few.2.1
 have h2:((m.decls.take i).length:Int)≤10:=by rw [List.length_take]; omega
 omega
theorem item_1 {d:TDecl} {a:Int} (h:d.kind=1):FItem.cells (declItem a d)=[.int .i64 d.kind,.int .i64 d.n,.int .i64 0,st d.nm]:=by rw [declItem,if_pos h]; rfl
theorem item_n {d:TDecl} {a:Int} (h:¬d.kind=1):FItem.cells (declItem a d)=[.int .i64 d.kind,.int .i64 d.n,.int .i64 a,st d.nm]:=by rw [declItem,if_neg h]; rfl
theorem dSz_1 {d:TDecl} (h:d.kind=1):dSz d=0:=by rw [dSz,if_neg (by omega),if_neg (by omega)]
theorem dSz_2 {d:TDecl} (h:d.kind=2):dSz d=1:=by rw [dSz,if_pos h]
theorem dSz_3 {d:TDecl} (h:d.kind=3):dSz d=d.n:=by rw [dSz,if_neg (by omega),if_pos h]
theorem pl55:placesP Tryz.prog 55=some [(0,1),(1,1),(2,1),(3,1)]:=by kernel_rfl
theorem el28:EltOk Tryz.prog 28 55 (.agg #[.int .i64 0,.int .i64 0,.int .i64 0,st []]) 4 40:=eltOk_of (by kernel_rfl)
theorem items_any (H:View) (ke ks:Nat) (r:MAt) (m:TMod) (w:World) (hH:Le H w) (hm:RdM ke ks H r m) (ho:OkM m) :
   Calls Tryz.prog 17 #[.agg (modV m r).toArray] w fun e w'=>∃r:SP,e = .returned (.tuple #[.slice r.1 (itemsM m).length r.2,.int .i64 (dataM m)])∧Ext w w'∧Sl rdItem 4 (nv w w') r.1 r.2 (itemsM m):=by
 have few:=ho.few
 have xd:=hm.decls.max
 have yd:=hm.decls.cap
 have xp:=hm.procs.max
 have yp:=hm.procs.cap
 refine enter Tryz.func17 rfl 67 rfl rfl ?_
 refine CWd (W':=Ws w [] [] [H]) (fun _ e=>by subst e; exact Ws.init (by simp [hH])) ?_
 refine Cs (Cr ?_)
 refine WL.box (.inl rfl) rfl rfl fun b1=>?_
 refine V0 (Ya rfl) ?_
 refine V0 (Ya rfl) ?_
 refine Ln (Et (Cs (Cr ?_)))
 refine V0 (Ya rfl) ?_
 refine LW (fun _ h=>h.osl_nil 55 4) ?_
 refine Ln (Et (Cs (Cr ?_)))
 refine V0 (Ya rfl) ?_
 refine Ln (Et (Cs (Cs (Cr ?_))))
 refine V0 (Yf fo27_2 rfl) ?_
 refine V0 (Yd 1 rfl rfl rfl na23) ?_
 refine V0 (Yn es23 rfl) ?_
 refine V0 (Ym rfl) ?_
 refine Ln (Et (Cb ?_))
 refine CK (ι:=Nat×Option Addr×Nat) (fun g=>[(14,.int .i64 (g.1:Int)),(4,.slice g.2.1 (declsI (m.decls.take g.1) 0).length g.2.2),(5,.int .i64 (dSum (m.decls.take g.1)))]) [(1,_),(2,_),(3,_),(12,_),(13,_)] (fun g=>Ws w [] [osT 55 4 FItem.cells g.2.1 g.2.2 (declsI (m.decls.take g.1) 0),blk b1 (.cells (modV m r).toArray 27 (0,0))] [H]) (fun g=>g.1≤m.decls.length) (fun g=>m.decls.length-g.1) (0,none,0) (Nat.zero_le _) (sc rfl (sc rfl (sc rfl (sc rfl (sc rfl (sc rfl (sc rfl (sc rfl sn)))))))) (fun _ h=>h) ?_
 intro g hi
 refine Cs (Cr ?_)
 refine V0 (yl_lt rfl rfl) ?_
 refine Ln (Et (Cs ?_))
 refine Cc rfl (fun hc0=>?_) (fun hc0=>?_)
 ·
  have hlt:g.1<m.decls.length:=by simpa using hc0
  obtain ⟨d,hdi⟩:∃q,m.decls[g.1]? = some q:=⟨_,List.getElem?_eq_getElem hlt⟩
  obtain ⟨pbd,pod,had,hrd⟩:=hm.decls.elt g.1 d hdi
  have hrd:RdC H pbd (pod+g.1*4) d.cells:=hrd
  have od:=okD (ho.decls d (List.mem_of_getElem? hdi))
  have hTk:m.decls.take (g.1+1)=m.decls.take g.1++[d]:=take_snoc hdi
  have hI:declsI (m.decls.take (g.1+1)) 0=declsI (m.decls.take g.1) 0++[declItem (dSum (m.decls.take g.1)) d]:=by rw [hTk,declsI_snoc,Int.zero_add]
  have hS:dSum (m.decls.take (g.1+1))=dSum (m.decls.take g.1)+dSz d:=by rw [hTk,dSum_snoc]
  have hbd:=dSum_take ho g.1
  have hbd2:=dSum_take ho (g.1+1)
  have hlD:(declsI (m.decls.take g.1) 0).length=g.1:=by rw [declsI_len,List.length_take]; omega
  have hn3:=od.n3
  refine Ck (Et (Cs (Cb (Cs (Cr ?_)))))
  refine V0 (Yo es23 rfl rfl had (by omega)) ?_
  refine V0 (yl_lda 0 ag109 rfl rfl rfl (hrd)) ?_
  refine WL.alloc (.inl rfl) rfl zr109 fun b7=>?_
  refine Lst 0 (.inl rfl) rfl rfl rfl sz109 rfl rfl rfl ?_
  refine Ln (Et (Cs (Cr ?_)))
  refine V0 (Yf fo109_0 rfl) ?_
  refine V0 (Yd 0 rfl rfl rfl na3) ?_
  refine V0 (Yf fo109_3 rfl) ?_
  refine V0 (Yd 0 rfl rfl rfl na3) ?_
  refine V0 (Yf fo109_1 rfl) ?_
  refine V0 (Yd 0 rfl rfl rfl na9) ?_
  refine V0 (Yb zr55 pl55 rfl rfl) ?_
  refine WL.alloc (.inl rfl) rfl zr55 fun b8=>?_
  refine Lst 0 (.inl rfl) rfl rfl rfl sz55 rfl rfl rfl ?_
  refine Ln (Et (Cs (Cs (Cr ?_))))
  refine V0 (Yf fo109_0 rfl) ?_
  refine V0 (Yd 1 rfl rfl rfl na3) ?_
  refine Ln (Et (Cb (Cs (Cr ?_))))
  refine V0 (yl_eq rfl rfl) ?_
  refine V0 (Ya rfl) ?_
  refine Ln (Et ?_)
  refine Cc rfl (fun hc1=>?_) (fun hc1=>?_)
  ·
   have hk2:d.kind=2:=by simpa using hc1
   have hz:=dSz_2 hk2
   refine Cs (Cr ?_)
   refine V0 (Ym rfl) ?_
   refine V0 (Yf fo55_2 rfl) ?_
   refine Lst 0 (.inl rfl) rfl rfl rfl sz3 rfl rfl rfl ?_
   refine Ln (Et (Cr ?_))
   refine V0 (Ym rfl) ?_
   refine V0 (yl_addv (dSum (m.decls.take (g.1+1))) rfl rfl (by rw [hS,hz]) (by omega)) ?_
   refine V0 (Ya rfl) ?_
   refine Ln (Eb (Et (Cr ?_)))
   refine V0 (Ym rfl) ?_
   refine V0 (Yda 0 rfl rfl ag55 rfl) ?_
   refine Lb (.inl rfl) rfl el28 rfl rfl rfl rfl fun b43=>?_
   refine Lrb 0 (.cells (FItem.cells (declItem (dSum (m.decls.take g.1)) d)).toArray 55 (0,0)) rfl (by rw [item_n (by omega)]; rfl) ?_
   refine LA (declItem (dSum (m.decls.take g.1)) d) 3 0 (.inl rfl) rfl el28 rfl rfl rfl rfl rfl rfl (by omega) (by omega) fun a44 c44=>?_
   refine V0 (Ya rfl) ?_
   refine Ln (Eb (Et (Cr ?_)))
   refine V0 (Yi rfl rfl rfl (by omega)) ?_
   refine V0 (Ym rfl) ?_
   refine Ln ?_
   rw [←hI]
   exact Ea ((g.1+1,a44,c44):Nat×Option Addr×Nat) (by first | omega | (dsimp only; omega)) (by first | omega | (dsimp only; omega)) (sc rfl (sc rfl (sc rfl (sc rfl (sc rfl (sc rfl (sc rfl (sc rfl sn)))))))) (fun _ h=>Ws.drop (L:=[_,_,_]) h)
  ·
   have hk2:¬d.kind=2:=by simpa using hc1
   refine Cs (Cr ?_)
   refine V0 (yl_eq rfl rfl) ?_
   refine V0 (Ya rfl) ?_
   refine Ln (Et ?_)
   refine Cc rfl (fun hc2=>?_) (fun hc2=>?_)
   ·
    have hk3:d.kind=3:=by simpa using hc2
    have hz:=dSz_3 hk3
    refine Cs (Cr ?_)
    refine V0 (Ym rfl) ?_
    refine V0 (Yf fo55_2 rfl) ?_
    refine Lst 0 (.inl rfl) rfl rfl rfl sz3 rfl rfl rfl ?_
    refine Ln (Et (Cr ?_))
    refine V0 (Ym rfl) ?_
    refine V0 (Yf fo109_3 rfl) ?_
    refine V0 (Yd 1 rfl rfl rfl na3) ?_
    refine V0 (yl_addv (dSum (m.decls.take (g.1+1))) rfl rfl (by rw [hS,hz]) (by omega)) ?_
    refine V0 (Ya rfl) ?_
    refine Ln (Eb (Et (Cr ?_)))
    refine V0 (Ym rfl) ?_
    refine V0 (Yda 0 rfl rfl ag55 rfl) ?_
    refine Lb (.inl rfl) rfl el28 rfl rfl rfl rfl fun b43=>?_
    refine Lrb 0 (.cells (FItem.cells (declItem (dSum (m.decls.take g.1)) d)).toArray 55 (0,0)) rfl (by rw [item_n (by omega)]; rfl) ?_
    refine LA (declItem (dSum (m.decls.take g.1)) d) 3 0 (.inl rfl) rfl el28 rfl rfl rfl rfl rfl rfl (by omega) (by omega) fun a44 c44=>?_
    refine V0 (Ya rfl) ?_
    refine Ln (Eb (Et (Cr ?_)))
    refine V0 (Yi rfl rfl rfl (by omega)) ?_
    refine V0 (Ym rfl) ?_
    refine Ln ?_
    rw [←hI]
    exact Ea ((g.1+1,a44,c44):Nat×Option Addr×Nat) (by first | omega | (dsimp only; omega)) (by first | omega | (dsimp only; omega)) (sc rfl (sc rfl (sc rfl (sc rfl (sc rfl (sc rfl (sc rfl (sc rfl sn)))))))) (fun _ h=>Ws.drop (L:=[_,_,_]) h)
   ·
    have hk3:¬d.kind=3:=by simpa using hc2
    have hk1:d.kind=1:=by have:=od.kind; omega
    have hz:=dSz_1 hk1
    have hS0:dSum (m.decls.take (g.1+1))=dSum (m.decls.take g.1):=by rw [hS,hz]; omega
    refine Ck (Eb (Et (Cr ?_)))
    refine V0 (Ym rfl) ?_
    refine V0 (Yda 0 rfl rfl ag55 rfl) ?_
    refine Lb (.inl rfl) rfl el28 rfl rfl rfl rfl fun b43=>?_
    refine Lrb 0 (.cells (FItem.cells (declItem (dSum (m.decls.take g.1)) d)).toArray 55 (0,0)) rfl (by rw [item_1 hk1]; rfl) ?_
    refine LA (declItem (dSum (m.decls.take g.1)) d) 3 0 (.inl rfl) rfl el28 rfl rfl rfl rfl rfl rfl (by omega) (by omega) fun a44 c44=>?_
    refine V0 (Ya rfl) ?_
    refine Ln (Eb (Et (Cr ?_)))
    refine V0 (Yi rfl rfl rfl (by omega)) ?_
    refine V0 (Ym rfl) ?_
    refine Ln ?_
    rw [←hI]
    rw [←hS0]
    exact Ea ((g.1+1,a44,c44):Nat×Option Addr×Nat) (by first | omega | (dsimp only; omega)) (by first | omega | (dsimp only; omega)) (sc rfl (sc rfl (sc rfl (sc rfl (sc rfl (sc rfl (sc rfl (sc rfl sn)))))))) (fun _ h=>Ws.drop (L:=[_,_,_]) h)
 ·
  have hge:g.1=m.decls.length:=by simp at hc0; omega
  rw [hge,List.take_length]
  clear hge hc0 hi
  refine Ce (Ex (Ex (Ebh (Et (Cs ?_)))))
  refine Cs (Cr ?_)
  refine V0 (Yf fo27_3 rfl) ?_
  refine V0 (Yd 1 rfl rfl rfl na24) ?_
  refine V0 (Yn es24 rfl) ?_
  refine V0 (Ym rfl) ?_
  refine Ln (Et (Cb ?_))
  rw [show declsI m.decls 0=declsI m.decls 0++procsI (m.procs.take 0) 0 by simp [procsI]]
  refine CK (ι:=Nat×Option Addr×Nat) (fun g=>[(49,.int .i64 (g.1:Int)),(4,.slice g.2.1 (declsI m.decls 0++procsI (m.procs.take g.1) 0).length g.2.2)]) [(2,_),(3,_),(5,_),(47,_),(48,_)] (fun g=>Ws w [] [osT 55 4 FItem.cells g.2.1 g.2.2 (declsI m.decls 0++procsI (m.procs.take g.1) 0),blk b1 (.cells (modV m r).toArray 27 (0,0))] [H]) (fun g=>g.1≤m.procs.length) (fun g=>m.procs.length-g.1) (0,g.2.1,g.2.2) (Nat.zero_le _) (sc rfl (sc rfl (sc rfl (sc rfl (sc rfl (sc rfl (sc rfl sn))))))) (fun _ h=>h) ?_
  clear g
  intro g hi
  refine Cs (Cr ?_)
  refine V0 (yl_lt rfl rfl) ?_
  refine Ln (Et (Cs ?_))
  refine Cc rfl (fun hc3=>?_) (fun hc3=>?_)
  ·
   have hlt:g.1<m.procs.length:=by simpa using hc3
   obtain ⟨p,hpi⟩:∃q,m.procs[g.1]? = some q:=⟨_,List.getElem?_eq_getElem hlt⟩
   obtain ⟨pbp,pop,hap,hrp⟩:=hm.procs.elt g.1 p hpi
   obtain ⟨pa1,pc1,pa2,pc2,pa3,pc3,hrow,hs1,hs2,hs3⟩:=hrp
   have hx1:=hs1.max
   have hy1:=hs1.cap
   have hTp:m.procs.take (g.1+1)=m.procs.take g.1++[p]:=take_snoc hpi
   have hI:declsI m.decls 0++procsI (m.procs.take (g.1+1)) 0=(declsI m.decls 0++procsI (m.procs.take g.1) 0)++[procItem g.1 p]:=by
     rw [hTp,procsI_snoc,List.append_assoc,Nat.zero_add,List.length_take,Nat.min_eq_left (by omega)]
   have hlI:(declsI m.decls 0++procsI (m.procs.take g.1) 0).length≤16:=by rw [List.length_append,declsI_len,procsI_len,List.length_take]; omega
   refine Ck (Et (Cs (Cb (Cs (Cr ?_)))))
   refine V0 (Ym rfl) ?_
   refine V0 (Yo es24 rfl rfl hap (by omega)) ?_
   refine V0 (yl_lda 0 ag86 rfl rfl rfl (hrow)) ?_
   refine WL.alloc (.inl rfl) rfl zr86 fun b10=>?_
   refine V0 (Ya rfl) ?_
   refine Lst 0 (.inl rfl) rfl rfl rfl sz86 rfl rfl rfl ?_
   refine Ln (Et (Cr ?_))
   refine V0 (Ym rfl) ?_
   refine V0 (Yf fo86_2 rfl) ?_
   refine V0 (Yd 0 rfl rfl rfl na22) ?_
   refine V0 (Yn es22 rfl) ?_
   refine V0 (Ym rfl) ?_
   refine V0 (Yf fo86_0 rfl) ?_
   refine V0 (Yd 0 rfl rfl rfl na9) ?_
   refine V0 (Yb zr55 pl55 rfl rfl) ?_
   refine Lb (.inl rfl) rfl el28 rfl rfl rfl rfl fun b62=>?_
   refine Lrb 0 (.cells (FItem.cells (procItem g.1 p)).toArray 55 (0,0)) rfl (rfl) ?_
   refine LA (procItem g.1 p) 2 0 (.inl rfl) rfl el28 rfl rfl rfl rfl rfl rfl (by omega) (by omega) fun a63 c63=>?_
   refine V0 (Ya rfl) ?_
   refine Ln (Eb (Et (Cr ?_)))
   refine V0 (Yi rfl rfl rfl (by omega)) ?_
   refine V0 (Ym rfl) ?_
   refine Ln ?_
   rw [←hI]
   exact Ea ((g.1+1,a63,c63):Nat×Option Addr×Nat) (by first | omega | (dsimp only; omega)) (by first | omega | (dsimp only; omega)) (sc rfl (sc rfl (sc rfl (sc rfl (sc rfl (sc rfl (sc rfl sn))))))) (fun _ h=>Ws.drop (L:=[_,_]) h)
  ·
   have hge:g.1=m.procs.length:=by simp at hc3; omega
   rw [hge,List.take_length]
   refine Ce (Ex (Ex (Ebh (Et (Cs ?_)))))
   refine Cr ?_
   refine V0 (Ym rfl) ?_
   refine V0 (Ym rfl) ?_
   refine V0 (Ya rfl) ?_
   refine V0 (Ya rfl) ?_
   refine Ln (Et (Crt ?_))
   refine WE.ret2 rfl rfl rfl fun w' hw=>?_
   exact ⟨(g.2.1,g.2.2),rfl,hw.fr,hw.slT 0 rfl FItem.cells_len (fun _ _ _ _ h=>h)⟩
end Go.Proofs.YtinnlppbkhhoiaaGreatDoor
end
section
namespace Go.Proofs.YtinnlppbkhhoiaaGreatDoor
open Go.Bw
set_option linter.unusedVariables false
set_option linter.unusedSimpArgs false
theorem pubs_at {m:TMod} {i:Nat} {p:TProc} (h:m.procs[i]? = some p):m.decls.map (·.pub)++(m.procs.take (i+1)).map (·.pub)=(m.decls.map (·.pub)++(m.procs.take i).map (·.pub))++[p.pub]:=by rw [take_snoc h]; simp
theorem pubsD_at {m:TMod} {i:Nat} {d:TDecl} (h:m.decls[i]? = some d):(m.decls.take (i+1)).map (·.pub)=(m.decls.take i).map (·.pub)++[d.pub]:=by rw [take_snoc h]; simp
theorem faceM_err {m:TMod} (h:¬checkM m=0):faceM m=(([],[]),checkM m):=by rw [faceM,if_pos h]
theorem faceM_twice {m:TMod} (h:checkM m=0) (h2:(twiceB ((itemsM m).map (·.name))||twiceB m.uses)=true):faceM m=(([],[]),6):=by rw [faceM,if_neg (by simp [h]),if_pos h2]
theorem faceM_ok {m:TMod} (h:checkM m=0) (h2:(twiceB ((itemsM m).map (·.name))||twiceB m.uses)=false):faceM m=((m.nm,pubI (itemsM m) (pubsM m)),0):=by rw [faceM,if_neg (by simp [h]),if_neg (by simp [h2])]
def FQ (m:TMod) (i:Nat):List FItem:=pubI ((itemsM m).take i) ((pubsM m).take i)
theorem FQ_all (m:TMod):FQ m (itemsM m).length=pubI (itemsM m) (pubsM m):=by
 unfold FQ
 rw [List.take_length,itemsM_len,←pubsM_len,List.take_length]
theorem FQ_step {m:TMod} {i:Nat} {x:FItem} {p:Bool} (h1:(itemsM m)[i]? = some x) (h2:(pubsM m)[i]? = some p):FQ m (i+1)=FQ m i++(if p=true then [x] else []):=pubI_take (by rw [itemsM_len,pubsM_len]) h1 h2
theorem FQ_le (m:TMod) (i:Nat):(FQ m i).length≤i:=by
 have:=pubI_le ((itemsM m).take i) ((pubsM m).take i)
 simp at this
 show (pubI _ _).length≤i
 omega
structure GF where
 i:Nat
 n:SP
 f:SP
theorem fo109_2:fieldOff Tryz.prog 109 2=some 2:=by kernel_rfl
theorem el52:EltOk Tryz.prog 52 4 (.bool false) 1 1:=eltOk_of (by kernel_rfl)
theorem fo86_1:fieldOff Tryz.prog 86 1=some 1:=by kernel_rfl
theorem zr30:zeroOf Tryz.prog 30=some (.agg #[st [],.slice none 0 0]):=by kernel_rfl
theorem pl30:placesP Tryz.prog 30=some [(0,1),(1,1)]:=by kernel_rfl
theorem sz30:sizeP Tryz.prog 30=some 2:=by kernel_rfl
theorem ag30:aggOf Tryz.prog 30=some 2:=by kernel_rfl
theorem en17:Enters Tryz.prog 17:=enters_of Tryz.func17 (by kernel_rfl) rfl
theorem en18:Enters Tryz.prog 18:=enters_of Tryz.func18 (by kernel_rfl) rfl
theorem es52:elemSz Tryz.prog 52=some 1:=by kernel_rfl
theorem sz28:sizeP Tryz.prog 28=some 1:=by kernel_rfl
theorem pubs_any (H:View) (ke ks:Nat) (r:MAt) (m:TMod) (w:World) (hH:Le H w) (hm:RdM ke ks H r m) (ho:OkM m) :
   Calls Tryz.prog 18 #[.agg (modV m r).toArray] w fun e w'=>∃r:SP,e = .returned (.slice r.1 (pubsM m).length r.2)∧Ext w w'∧Sl rdBool 1 (nv w w') r.1 r.2 (pubsM m):=by
 have few:=ho.few
 have xd:=hm.decls.max
 have yd:=hm.decls.cap
 have xp:=hm.procs.max
 have yp:=hm.procs.cap
 refine enter Tryz.func18 rfl 35 rfl rfl ?_
 refine CWd (W':=Ws w [] [] [H]) (fun _ e=>by subst e; exact Ws.init (by simp [hH])) ?_
 refine Cs (Cr ?_)
 refine WL.box (.inl rfl) rfl rfl fun b1=>?_
 refine V0 (Ya rfl) ?_
 refine Ln (Et (Cs (Cr ?_)))
 refine V0 (Ya rfl) ?_
 refine LW (fun _ h=>h.osl_nil 4 1) ?_
 refine Ln (Et (Cs (Cs (Cr ?_))))
 refine V0 (Yf fo27_2 rfl) ?_
 refine V0 (Yd 1 rfl rfl rfl na23) ?_
 refine V0 (Yn es23 rfl) ?_
 refine V0 (Ym rfl) ?_
 refine Ln (Et (Cb ?_))
 refine CK (ι:=Nat×Option Addr×Nat) (fun g=>[(11,.int .i64 (g.1:Int)),(3,.slice g.2.1 ((m.decls.take g.1).map (·.pub)).length g.2.2)]) [(1,_),(2,_),(9,_),(10,_)] (fun g=>Ws w [] [osT 4 1 boolC g.2.1 g.2.2 ((m.decls.take g.1).map (·.pub)),blk b1 (.cells (modV m r).toArray 27 (0,0))] [H]) (fun g=>g.1≤m.decls.length) (fun g=>m.decls.length-g.1) (0,none,0) (Nat.zero_le _) (sc rfl (sc rfl (sc rfl (sc rfl (sc rfl (sc rfl sn)))))) (fun _ h=>h) ?_
 intro g hi
 refine Cs (Cr ?_)
 refine V0 (yl_lt rfl rfl) ?_
 refine Ln (Et (Cs ?_))
 refine Cc rfl (fun hc0=>?_) (fun hc0=>?_)
 ·
  have hlt:g.1<m.decls.length:=by simpa using hc0
  obtain ⟨d,hdi⟩:∃q,m.decls[g.1]? = some q:=⟨_,List.getElem?_eq_getElem hlt⟩
  obtain ⟨pbd,pod,had,hrd⟩:=hm.decls.elt g.1 d hdi
  have hrd:RdC H pbd (pod+g.1*4) d.cells:=hrd
  have hI:=pubsD_at hdi
  have hl:((m.decls.take g.1).map (·.pub)).length=g.1:=by simp; omega
  refine Ck (Et (Cs (Cb (Cs (Cr ?_)))))
  refine V0 (Yo es23 rfl rfl had (by omega)) ?_
  refine V0 (yl_lda 0 ag109 rfl rfl rfl (hrd)) ?_
  refine WL.alloc (.inl rfl) rfl zr109 fun b5=>?_
  refine Lst 0 (.inl rfl) rfl rfl rfl sz109 rfl rfl rfl ?_
  refine Ln (Et (Cr ?_))
  refine V0 (Ym rfl) ?_
  refine V0 (Yf fo109_2 rfl) ?_
  refine V0 (Yd 0 rfl rfl rfl na4) ?_
  refine Lb (.inl rfl) rfl el52 rfl rfl rfl rfl fun b18=>?_
  refine Lrb 0 (.cells (boolC d.pub).toArray 4 (0,0)) rfl (rfl) ?_
  refine LA (d.pub) 2 0 (.inl rfl) rfl el52 rfl rfl rfl rfl rfl rfl (by omega) (by omega) fun a19 c19=>?_
  refine V0 (Ya rfl) ?_
  refine Ln (Eb (Et (Cr ?_)))
  refine V0 (Yi rfl rfl rfl (by omega)) ?_
  refine V0 (Ym rfl) ?_
  refine Ln ?_
  rw [←hI]
  exact Ea ((g.1+1,a19,c19):Nat×Option Addr×Nat) (by first | omega | (dsimp only; omega)) (by first | omega | (dsimp only; omega)) (sc rfl (sc rfl (sc rfl (sc rfl (sc rfl (sc rfl sn)))))) (fun _ h=>Ws.drop (L:=[_,_]) h)
 ·
  have hge:g.1=m.decls.length:=by simp at hc0; omega
  rw [hge,List.take_length]
  clear hge hc0 hi
  refine Ce (Ex (Ex (Ebh (Et (Cs ?_)))))
  refine Cs (Cr ?_)
  refine V0 (Yf fo27_3 rfl) ?_
  refine V0 (Yd 1 rfl rfl rfl na24) ?_
  refine V0 (Yn es24 rfl) ?_
  refine V0 (Ym rfl) ?_
  refine Ln (Et (Cb ?_))
  rw [show m.decls.map (·.pub)=m.decls.map (·.pub)++(m.procs.take 0).map (·.pub) by simp]
  refine CK (ι:=Nat×Option Addr×Nat) (fun g=>[(24,.int .i64 (g.1:Int)),(3,.slice g.2.1 (m.decls.map (·.pub)++(m.procs.take g.1).map (·.pub)).length g.2.2)]) [(2,_),(22,_),(23,_)] (fun g=>Ws w [] [osT 4 1 boolC g.2.1 g.2.2 (m.decls.map (·.pub)++(m.procs.take g.1).map (·.pub)),blk b1 (.cells (modV m r).toArray 27 (0,0))] [H]) (fun g=>g.1≤m.procs.length) (fun g=>m.procs.length-g.1) (0,g.2.1,g.2.2) (Nat.zero_le _) (sc rfl (sc rfl (sc rfl (sc rfl (sc rfl sn))))) (fun _ h=>h) ?_
  clear g
  intro g hi
  refine Cs (Cr ?_)
  refine V0 (yl_lt rfl rfl) ?_
  refine Ln (Et (Cs ?_))
  refine Cc rfl (fun hc1=>?_) (fun hc1=>?_)
  ·
   have hlt:g.1<m.procs.length:=by simpa using hc1
   obtain ⟨p,hpi⟩:∃q,m.procs[g.1]? = some q:=⟨_,List.getElem?_eq_getElem hlt⟩
   obtain ⟨pbp,pop,hap,hrp⟩:=hm.procs.elt g.1 p hpi
   obtain ⟨pa1,pc1,pa2,pc2,pa3,pc3,hrow,hs1,hs2,hs3⟩:=hrp
   have hI:=pubs_at hpi
   have hl:(m.decls.map (·.pub)++(m.procs.take g.1).map (·.pub)).length≤16:=by simp; omega
   refine Ck (Et (Cs (Cb (Cs (Cr ?_)))))
   refine V0 (Yo es24 rfl rfl hap (by omega)) ?_
   refine V0 (yl_lda 0 ag86 rfl rfl rfl (hrow)) ?_
   refine WL.alloc (.inl rfl) rfl zr86 fun b7=>?_
   refine Lst 0 (.inl rfl) rfl rfl rfl sz86 rfl rfl rfl ?_
   refine Ln (Et (Cr ?_))
   refine V0 (Ym rfl) ?_
   refine V0 (Yf fo86_1 rfl) ?_
   refine V0 (Yd 0 rfl rfl rfl na4) ?_
   refine Lb (.inl rfl) rfl el52 rfl rfl rfl rfl fun b31=>?_
   refine Lrb 0 (.cells (boolC p.pub).toArray 4 (0,0)) rfl (rfl) ?_
   refine LA (p.pub) 2 0 (.inl rfl) rfl el52 rfl rfl rfl rfl rfl rfl (by omega) (by omega) fun a32 c32=>?_
   refine V0 (Ya rfl) ?_
   refine Ln (Eb (Et (Cr ?_)))
   refine V0 (Yi rfl rfl rfl (by omega)) ?_
   refine V0 (Ym rfl) ?_
   refine Ln ?_
   rw [←hI]
   exact Ea ((g.1+1,a32,c32):Nat×Option Addr×Nat) (by first | omega | (dsimp only; omega)) (by first | omega | (dsimp only; omega)) (sc rfl (sc rfl (sc rfl (sc rfl (sc rfl sn))))) (fun _ h=>Ws.drop (L:=[_,_]) h)
  ·
   have hge:g.1=m.procs.length:=by simp at hc1; omega
   rw [hge,List.take_length]
   refine Ce (Ex (Ex (Ebh (Et (Cs ?_)))))
   refine Cr ?_
   refine V0 (Ym rfl) ?_
   refine V0 (Ya rfl) ?_
   refine Ln (Et (Crt ?_))
   refine WE.ret1 rfl rfl fun w' hw=>?_
   exact ⟨(g.2.1,g.2.2),rfl,hw.fr,hw.slT 0 rfl boolC_len (fun _ _ _ _ h=>h)⟩
theorem face_any (H:View) (ke ks:Nat) (r:MAt) (m:TMod) (w:World) (hH:Le H w) (hm:RdM ke ks H r m) (hb:wM m≤109951162777) :
   Calls Tryz.prog 6 #[.agg (modV m r).toArray] w fun e w'=>∃r:SP,e = .returned (.tuple #[.agg #[st (faceM m).1.1,.slice r.1 (faceM m).1.2.length r.2],.int .i64 (faceM m).2])∧Ext w w'∧Sl rdItem 4 (nv w w') r.1 r.2 (faceM m).1.2:=by
 refine enter Tryz.func6 rfl 60 rfl rfl ?_
 refine CWd (W':=Ws w [] [] [H]) (fun _ e=>by subst e; exact Ws.init (by simp [hH])) ?_
 refine Cs (Cr ?_)
 refine WL.box (.inl rfl) rfl rfl fun b1=>?_
 refine WL.alloc (.inl rfl) rfl zr30 fun b2=>?_
 refine V0 (Ya rfl) ?_
 refine Ln (Et (Cs (Cs (Cr ?_))))
 refine V0 (Yda 1 rfl rfl ag27 rfl) ?_
 refine Lp (.inl rfl) rfl en16 rfl (fun w hw=>treeCheck_any H ke ks r m w (hw.vs _ (by simp)) hm (by omega)) ?_
 refine V0 (Ya rfl) ?_
 refine Ln (Et (Cs (Cr ?_)))
 refine V0 (Ym rfl) ?_
 refine V0 (yl_ne rfl rfl) ?_
 refine Ln (Et ?_)
 refine Cc rfl (fun hc0=>?_) (fun hc0=>?_)
 ·
  have he:¬checkM m=0:=by simpa using hc0
  refine Cs (Cr ?_)
  refine V0 (Yb zr30 pl30 rfl rfl) ?_
  refine V0 (Ym rfl) ?_
  refine Lst 0 (.inl rfl) rfl rfl rfl sz30 rfl rfl rfl ?_
  refine V0 (Ya rfl) ?_
  refine Ln (Et (Crt (Er ?_)))
  refine WE.retc2 0 rfl rfl rfl rfl ag30 rfl fun w' hw=>?_
  rw [faceM_err he]
  exact ⟨(none,0),rfl,hw.fr,Sl.nil⟩
 ·
  have he:checkM m=0:=by simpa using hc0
  have ho:=mOk he
  have few:=ho.few
  have xd:=hm.decls.max
  have yd:=hm.decls.cap
  have xp:=hm.procs.max
  have yp:=hm.procs.cap
  have il:=itemsM_len m
  have pl:=pubsM_len m
  refine Ck (Et (Cs (Cr ?_)))
  refine V0 (Yda 1 rfl rfl ag27 rfl) ?_
  refine Ld (.inl rfl) rfl en17 rfl (fun r:SP=>.tuple #[.slice r.1 (itemsM m).length r.2,.int .i64 (dataM m)]) (fun H r=>Sl rdItem 4 H r.1 r.2 (itemsM m)) (fun w hw=>items_any H ke ks r m w (hw.vs _ (by simp)) hm ho) ?_
  intro F20 r20 hf20 h20
  refine V0 (Ym rfl) ?_
  refine V0 (Yx rfl rfl) ?_
  refine V0 (Yx rfl rfl) ?_
  refine V0 (Ya rfl) ?_
  refine V0 (Ya rfl) ?_
  refine Ln (Et (Cs (Cr ?_)))
  refine V0 (Yf fo27_0 rfl) ?_
  refine V0 (Yd 1 rfl rfl rfl na9) ?_
  refine V0 (Yb zr30 pl30 rfl rfl) ?_
  refine LW (fun _ h=>h.osl_nil 55 4) ?_
  refine WL.alloc (.inl rfl) rfl zr30 fun b7=>?_
  refine Lst 0 (.inl rfl) rfl rfl rfl sz30 rfl rfl rfl ?_
  refine Ln (Et (Cs (Cr ?_)))
  refine V0 (Ya rfl) ?_
  refine LW (fun _ h=>h.osl_nil 9 1) ?_
  refine Ln (Et (Cs (Cr ?_)))
  refine V0 (Yda 4 rfl rfl ag27 rfl) ?_
  refine Ld (.inl rfl) rfl en18 rfl (fun r:SP=>.slice r.1 (pubsM m).length r.2) (fun H r=>Sl rdBool 1 H r.1 r.2 (pubsM m)) (fun w hw=>pubs_any H ke ks r m w (hw.vs _ (by simp)) hm ho) ?_
  intro F27 r27 hf27 h27
  have x20:=h20.max
  have y20:=h20.cap
  have x27:=h27.max
  have y27:=h27.cap
  refine V0 (Ya rfl) ?_
  refine Ln (Et (Cs (Cs (Cr ?_))))
  refine V0 (Ym rfl) ?_
  refine V0 (Yn es28 rfl) ?_
  refine V0 (Ym rfl) ?_
  refine Ln (Et (Cb ?_))
  refine CK (ι:=GF) (fun g=>[(30,.int .i64 (g.i:Int)),(8,.slice g.n.1 (((itemsM m).take g.i).map mnamed).length g.n.2)]) [(1,_),(2,_),(3,_),(7,_),(9,_),(28,_),(29,_)] (fun g=>Ws w [] [blk b7 (.cells #[st m.nm,.slice g.f.1 (FQ m g.i).length g.f.2] 30 (0,0)),osT 9 1 strC g.n.1 g.n.2 (((itemsM m).take g.i).map mnamed),osT 55 4 FItem.cells g.f.1 g.f.2 (FQ m g.i),blk b2 (.cells #[st [],.slice none 0 0] 30 (0,0)),blk b1 (.cells (modV m r).toArray 27 (0,0))] [F27,F20,H]) (fun g=>g.i≤(itemsM m).length) (fun g=>(itemsM m).length-g.i) ⟨0,(none,0),(none,0)⟩ (Nat.zero_le _) (sc rfl (sc rfl (sc rfl (sc rfl (sc rfl (sc rfl (sc rfl (sc rfl (sc rfl sn))))))))) (fun _ h=>by have h:=h.fronti 4 rfl; have h:=h.fronti 4 rfl; have h:=h.fronti 4 rfl; have h:=h.fronti 3 rfl; have h:=h.fronti 4 rfl; exact h) ?_
  intro g hi
  refine Cs (Cr ?_)
  refine V0 (yl_lt rfl rfl) ?_
  refine Ln (Et (Cs ?_))
  refine Cc rfl (fun hc1=>?_) (fun hc1=>?_)
  ·
   have hlt:g.i<(itemsM m).length:=by simpa using hc1
   obtain ⟨x,hx⟩:∃x,(itemsM m)[g.i]? = some x:=⟨_,List.getElem?_eq_getElem hlt⟩
   obtain ⟨pb,po,ha,hrow⟩:=h20.elt g.i x hx
   have hrow:RdC F20 pb (po+g.i*4) x.cells:=hrow
   obtain ⟨pv,hpv⟩:∃p,(pubsM m)[g.i]? = some p:=⟨_,List.getElem?_eq_getElem (by rw [pubsM_len,←itemsM_len]; exact hlt)⟩
   obtain ⟨qb,qo,hqa,hrq⟩:=h27.elt g.i pv hpv
   have hrq:RdC F27 qb (qo+g.i*1) (boolC pv):=hrq
   have hT:((itemsM m).take (g.i+1)).map mnamed=((itemsM m).take g.i).map mnamed++[x.name]:=by rw [List.take_add_one,hx]; simp [mnamed]
   have hL:(((itemsM m).take g.i).map mnamed).length=g.i:=by simp; omega
   have hQ:=FQ_step hx hpv
   have hQl:=FQ_le m g.i
   refine Ck (Et (Cs (Cb (Cs (Cr ?_)))))
   refine V0 (Ym rfl) ?_
   refine V0 (Yo es28 rfl rfl ha (by omega)) ?_
   refine V0 (yl_lda 1 ag55 rfl rfl rfl (hrow)) ?_
   refine WL.alloc (.inl rfl) rfl zr55 fun b11=>?_
   refine V0 (Ya rfl) ?_
   refine Lst 0 (.inl rfl) rfl rfl rfl sz55 rfl rfl rfl ?_
   refine Ln (Et (Cs (Cr ?_)))
   refine V0 (Ym rfl) ?_
   refine V0 (Yf fo55_3 rfl) ?_
   refine V0 (Yd 0 rfl rfl rfl na9) ?_
   refine Lb (.inl rfl) rfl el22 rfl rfl rfl rfl fun b38=>?_
   refine Lrb 0 (.cells (strC x.name).toArray 9 (0,0)) rfl (rfl) ?_
   refine LA ((x.name:List UInt8)) 3 0 (.inl rfl) rfl el22 rfl rfl rfl rfl rfl rfl (by omega) (by omega) fun a39 c39=>?_
   refine V0 (Ya rfl) ?_
   refine Ln (Et (Cs (Cr ?_)))
   refine V0 (Ym rfl) ?_
   refine V0 (Ym rfl) ?_
   refine V0 (Yo es52 rfl rfl hqa (by omega)) ?_
   refine V0 (yl_ld 0 na4 rfl rfl (hrq 0 _ rfl)) ?_
   refine Ln (Et ?_)
   refine Cc rfl (fun hc2=>?_) (fun hc2=>?_)
   ·
    have hp1:pv=true:=by simpa using hc2
    have hQ1:FQ m (g.i+1)=FQ m g.i++[x]:=by rw [hQ,if_pos hp1]
    refine Cr ?_
    refine V0 (Yf fo30_1 rfl) ?_
    refine V0 (Yd 2 rfl rfl rfl na28) ?_
    refine V0 (Yda 1 rfl rfl ag55 rfl) ?_
    refine Lb (.inl rfl) rfl el28 rfl rfl rfl rfl fun b47=>?_
    refine Lrb 0 (.cells (FItem.cells x).toArray 55 (0,0)) rfl (rfl) ?_
    refine LA (x) 5 0 (.inl rfl) rfl el28 rfl rfl rfl rfl rfl rfl (by omega) (by omega) fun a48 c48=>?_
    refine V0 (Yf fo30_1 rfl) ?_
    refine Lst 3 (.inl rfl) rfl rfl rfl sz28 rfl rfl rfl ?_
    refine Ln (Eb (Et (Cr ?_)))
    refine V0 (Yi rfl rfl rfl (by omega)) ?_
    refine V0 (Ym rfl) ?_
    refine Ln ?_
    rw [←hT]
    rw [←hQ1]
    exact Ea (⟨g.i+1,(a39,c39),(a48,c48)⟩:GF) (by first | omega | (dsimp only; omega)) (by first | omega | (dsimp only; omega)) (sc rfl (sc rfl (sc rfl (sc rfl (sc rfl (sc rfl (sc rfl (sc rfl (sc rfl sn))))))))) (fun _ h=>Ws.drop (L:=[_,_,_]) h)
   ·
    have hp0:¬pv=true:=by simpa using hc2
    have hQ0:FQ m (g.i+1)=FQ m g.i:=by rw [hQ,if_neg hp0,List.append_nil]
    refine Ck (Eb (Et (Cr ?_)))
    refine V0 (Yi rfl rfl rfl (by omega)) ?_
    refine V0 (Ym rfl) ?_
    refine Ln ?_
    rw [←hT]
    rw [←hQ0]
    exact Ea (⟨g.i+1,(a39,c39),g.f⟩:GF) (by first | omega | (dsimp only; omega)) (by first | omega | (dsimp only; omega)) (sc rfl (sc rfl (sc rfl (sc rfl (sc rfl (sc rfl (sc rfl (sc rfl (sc rfl sn))))))))) (fun _ h=>Ws.drop (L:=[_,_]) h)
  ·
   have hge:g.i=(itemsM m).length:=by simp at hc1; omega
   have hAll:=FQ_all m
   refine Ce (Ex (Ex (Ebh (Et (Cs ?_)))))
   refine Cs ?_
   rw [hge,List.take_length]
   refine WC.oslview (rd:=rdStr) 1 rfl strC_len (fun _ _ _ _ h=>h) fun HN hHN=>?_
   refine Cr ?_
   refine V0 (Ym rfl) ?_
   refine Lp (.inl rfl) rfl en19 rfl (fun w hw=>by
       have:=alike_any HN g.n.1 g.n.2 ((itemsM m).map mnamed) w (hw.vs _ (by simp)) hHN
       exact this) ?_
   refine V0 (Ym rfl) ?_
   apply WL.or 3 rfl rfl rfl rfl (.inl rfl) rfl rfl rfl rfl rfl
   ·
    intro hg0
    refine Lv (.g rfl rfl rfl) rfl (Yf fo27_1 rfl) ?_
    refine Lv (.g rfl rfl rfl) rfl (Yd 3 rfl rfl rfl na22) ?_
    refine Lp (.g rfl rfl rfl) rfl en19 rfl (fun w hw=>alike_any H r.a1 r.c1 m.uses w (hw.vs _ (by simp)) hm.uses) ?_
    exact Gt 3 rfl rfl rfl
   refine Ln (Et ?_)
   refine Cc rfl (fun hc3=>?_) (fun hc3=>?_)
   ·
    have h6:(twiceB ((itemsM m).map (·.name))||twiceB m.uses)=true:=hc3
    refine Cs (Cr ?_)
    refine V0 (Yb zr30 pl30 rfl rfl) ?_
    refine Lst 2 (.inl rfl) rfl rfl rfl sz30 rfl rfl rfl ?_
    refine V0 (Ya rfl) ?_
    refine Ln (Et (Crt (Er ?_)))
    refine WE.retc2 2 rfl rfl rfl rfl ag30 rfl fun w' hw=>?_
    rw [faceM_twice he h6]
    exact ⟨(none,0),rfl,hw.fr,Sl.nil⟩
   ·
    have h6:(twiceB ((itemsM m).map (·.name))||twiceB m.uses)=false:=hc3
    refine Ck (Et (Cs (Cr ?_)))
    refine V0 (Yda 0 rfl rfl ag30 rfl) ?_
    refine Lst 2 (.inl rfl) rfl rfl rfl sz30 rfl rfl rfl ?_
    refine V0 (Ya rfl) ?_
    refine Ln (Et (Crt ?_))
    refine WE.retc2 2 rfl rfl rfl rfl ag30 rfl fun w' hw=>?_
    rw [faceM_ok he h6]
    rw [hAll] at hw ⊢
    exact ⟨g.f,rfl,hw.fr,hw.slT 1 rfl FItem.cells_len (fun _ _ _ _ h=>h)⟩
end Go.Proofs.YtinnlppbkhhoiaaGreatDoor
end
section
namespace Go.Proofs.YtinnlppbkhhoiaaGreatDoor
open Go.Bw
set_option linter.unusedVariables false
set_option linter.unusedSimpArgs false
structure GI where
 i:Nat
 s:SP
 p:SP
def cntN:List UInt8:=[99,110,116]
def cntI:List FItem:=[⟨1,3,0,[107]⟩,⟨2,0,0,[115,117,109]⟩,⟨3,4,1,[116]⟩,⟨4,1,0,[100,111,119,110]⟩]
theorem nodup_take {l:List FItem} {i:Nat} {x:FItem} (h:(l.map (·.name)).Nodup) (hx:l[i]? = some x):x.name ∉ (l.take i).map (·.name):=by
 intro hm
 have hlt:i<l.length:=(List.getElem?_eq_some_iff.1 hx).1
 obtain ⟨j,hj⟩:=List.getElem?_of_mem hm
 rw [List.getElem?_map] at hj
 obtain ⟨y,hy,e⟩:=Option.map_eq_some_iff.1 hj
 have hji:j<i:=by have:=(List.getElem?_eq_some_iff.1 hy).1; simp at this; omega
 rw [List.getElem?_take,if_pos hji] at hy
 have e2:(l.map (·.name))[j]? = (l.map (·.name))[i]?:=by rw [List.getElem?_map,List.getElem?_map,hy,hx]; simp [e]
 have:=(List.getElem?_inj (by simpa using (List.getElem?_eq_some_iff.1 hy).1) h).1 e2
 omega
theorem en20:Enters Tryz.prog 20:=enters_of Tryz.func20 (by kernel_rfl) rfl
theorem en21:Enters Tryz.prog 21:=enters_of Tryz.func21 (by kernel_rfl) rfl
theorem fl55:flatSt Tryz.prog 55=some [0,0,0,1]:=by kernel_rfl
theorem um77:Tryz.prog.underlying 77=some (.map 9 55):=by kernel_rfl
theorem itemsOf_any (H:View) (ke ks:Nat) (r:MAt) (m:TMod) (w:World) (hH:Le H w) (hm:RdM ke ks H r m) (ho:OkM m) :
   Calls Tryz.prog 21 #[.agg (modV m r).toArray] w fun e w'=>∃r:SP×SP,e = .returned (.tuple #[.slice r.1.1 (itemsM m).length r.1.2,.slice r.2.1 (pubsM m).length r.2.2,.int .i64 (dataM m)])∧Ext w w'∧Sl rdItem 4 (nv w w') r.1.1 r.1.2 (itemsM m)∧Sl rdBool 1 (nv w w') r.2.1 r.2.2 (pubsM m):=by
 have few:=ho.few
 have xd:=hm.decls.max
 have yd:=hm.decls.cap
 have xp:=hm.procs.max
 have yp:=hm.procs.cap
 refine enter Tryz.func21 rfl 94 rfl rfl ?_
 refine CWd (W':=Ws w [] [] [H]) (fun _ e=>by subst e; exact Ws.init (by simp [hH])) ?_
 refine Cs (Cr ?_)
 refine WL.box (.inl rfl) rfl rfl fun b1=>?_
 refine V0 (Ya rfl) ?_
 refine V0 (Ya rfl) ?_
 refine V0 (Ya rfl) ?_
 refine Ln (Et (Cs (Cr ?_)))
 refine V0 (Ya rfl) ?_
 refine LW (fun _ h=>h.osl_nil 55 4) ?_
 refine Ln (Et (Cs (Cr ?_)))
 refine V0 (Ya rfl) ?_
 refine LW (fun _ h=>h.osl_nil 4 1) ?_
 refine Ln (Et (Cs (Cr ?_)))
 refine V0 (Ya rfl) ?_
 refine Ln (Et (Cs (Cs (Cr ?_))))
 refine V0 (Ya rfl) ?_
 refine Ln (Et (Cb ?_))
 refine CK (ι:=GI) (fun g=>[(8,.int .i64 (g.i:Int)),(5,.slice g.s.1 (declsI (m.decls.take g.i) 0).length g.s.2),(6,.slice g.p.1 ((m.decls.take g.i).map (·.pub)).length g.p.2),(7,.int .i64 (dSum (m.decls.take g.i)))]) [(1,_),(2,_),(3,_),(4,_)] (fun g=>Ws w [] [osT 55 4 FItem.cells g.s.1 g.s.2 (declsI (m.decls.take g.i) 0),osT 4 1 boolC g.p.1 g.p.2 ((m.decls.take g.i).map (·.pub)),blk b1 (.cells (modV m r).toArray 27 (0,0))] [H]) (fun g=>g.i≤m.decls.length) (fun g=>m.decls.length-g.i) ⟨0,(none,0),(none,0)⟩ (Nat.zero_le _) (sc rfl (sc rfl (sc rfl (sc rfl (sc rfl (sc rfl (sc rfl (sc rfl sn)))))))) (fun _ h=>by have h:=h.fronti 2 rfl; have h:=h.fronti 1 rfl; have h:=h.fronti 2 rfl; exact h) ?_
 intro g hi
 refine Cs (Cs (Cr ?_))
 refine V0 (Ym rfl) ?_
 refine V0 (Yf fo27_2 rfl) ?_
 refine V0 (Yd 2 rfl rfl rfl na23) ?_
 refine V0 (Yn es23 rfl) ?_
 refine V0 (yl_lt rfl rfl) ?_
 refine Ln (Et ?_)
 refine Cc rfl (fun hc0=>?_) (fun hc0=>?_)
 ·
  have hlt:g.i<m.decls.length:=by simpa using hc0
  obtain ⟨d,hdi⟩:∃q,m.decls[g.i]? = some q:=⟨_,List.getElem?_eq_getElem hlt⟩
  obtain ⟨pbd,pod,had,hrd⟩:=hm.decls.elt g.i d hdi
  have hrd:RdC H pbd (pod+g.i*4) d.cells:=hrd
  have od:=okD (ho.decls d (List.mem_of_getElem? hdi))
  have hTk:m.decls.take (g.i+1)=m.decls.take g.i++[d]:=take_snoc hdi
  have hI:declsI (m.decls.take (g.i+1)) 0=declsI (m.decls.take g.i) 0++[declItem (dSum (m.decls.take g.i)) d]:=by rw [hTk,declsI_snoc,Int.zero_add]
  have hS:dSum (m.decls.take (g.i+1))=dSum (m.decls.take g.i)+dSz d:=by rw [hTk,dSum_snoc]
  have hbd:=dSum_take ho g.i
  have hbd2:=dSum_take ho (g.i+1)
  have hlD:(declsI (m.decls.take g.i) 0).length=g.i:=by rw [declsI_len,List.length_take]; omega
  have hn3:=od.n3
  have hI2:=pubsD_at hdi
  have hlP:((m.decls.take g.i).map (·.pub)).length=g.i:=by simp; omega
  refine Ck (Et (Cs (Cb (Cs (Cr ?_)))))
  refine V0 (Yf fo27_2 rfl) ?_
  refine V0 (Yd 2 rfl rfl rfl na23) ?_
  refine V0 (Ym rfl) ?_
  refine V0 (Yo es23 rfl rfl had (by omega)) ?_
  refine V0 (yl_lda 0 ag109 rfl rfl rfl (hrd)) ?_
  refine WL.alloc (.inl rfl) rfl zr109 fun b9=>?_
  refine Lst 0 (.inl rfl) rfl rfl rfl sz109 rfl rfl rfl ?_
  refine Ln (Et (Cs (Cr ?_)))
  refine V0 (Yf fo109_0 rfl) ?_
  refine V0 (Yd 0 rfl rfl rfl na3) ?_
  refine V0 (Yf fo109_3 rfl) ?_
  refine V0 (Yd 0 rfl rfl rfl na3) ?_
  refine V0 (Yf fo109_1 rfl) ?_
  refine V0 (Yd 0 rfl rfl rfl na9) ?_
  refine V0 (Yb zr55 pl55 rfl rfl) ?_
  refine WL.alloc (.inl rfl) rfl zr55 fun b10=>?_
  refine Lst 0 (.inl rfl) rfl rfl rfl sz55 rfl rfl rfl ?_
  refine Ln (Et (Cs (Cs (Cr ?_))))
  refine V0 (Yf fo109_0 rfl) ?_
  refine V0 (Yd 1 rfl rfl rfl na3) ?_
  refine V0 (yl_ne rfl rfl) ?_
  refine Ln (Et ?_)
  refine Cc rfl (fun hc1=>?_) (fun hc1=>?_)
  ·
   have hk1:¬d.kind=1:=by simpa using hc1
   refine Cr ?_
   refine V0 (Ym rfl) ?_
   refine V0 (Yf fo55_2 rfl) ?_
   refine Lst 0 (.inl rfl) rfl rfl rfl sz3 rfl rfl rfl ?_
   refine Ln (Et (Cs (Cs (Cr ?_))))
   refine V0 (Yf fo109_0 rfl) ?_
   refine V0 (Yd 1 rfl rfl rfl na3) ?_
   refine V0 (yl_eq rfl rfl) ?_
   refine Ln (Et ?_)
   refine Cc rfl (fun hc2=>?_) (fun hc2=>?_)
   ·
    have hk2:d.kind=2:=by simpa using hc2
    have hz:=dSz_2 hk2
    refine Cr ?_
    refine V0 (Ym rfl) ?_
    refine V0 (yl_addv (dSum (m.decls.take (g.i+1))) rfl rfl (by rw [hS,hz]) (by omega)) ?_
    refine V0 (Ya rfl) ?_
    refine Ln (Et (Cs (Cs (Cr ?_))))
    refine V0 (Yf fo109_0 rfl) ?_
    refine V0 (Yd 1 rfl rfl rfl na3) ?_
    refine V0 (yl_eq rfl rfl) ?_
    refine Ln (Et ?_)
    refine Cc rfl (fun hc3=>?_) (fun hc3=>?_)
    ·
     exact (show False by simp at hc3; omega).elim
    ·
     refine Ck (Et (Cs (Cr ?_)))
     refine V0 (Ym rfl) ?_
     refine V0 (Yda 0 rfl rfl ag55 rfl) ?_
     refine Lb (.inl rfl) rfl el28 rfl rfl rfl rfl fun b50=>?_
     refine Lrb 0 (.cells (FItem.cells (declItem (dSum (m.decls.take g.i)) d)).toArray 55 (0,0)) rfl (by rw [item_n hk1]; rfl) ?_
     refine LA (declItem (dSum (m.decls.take g.i)) d) 3 0 (.inl rfl) rfl el28 rfl rfl rfl rfl rfl rfl (by omega) (by omega) fun a51 c51=>?_
     refine V0 (Ya rfl) ?_
     refine Ln (Et (Cr ?_))
     refine V0 (Ym rfl) ?_
     refine V0 (Yf fo109_2 rfl) ?_
     refine V0 (Yd 2 rfl rfl rfl na4) ?_
     refine Lb (.inl rfl) rfl el52 rfl rfl rfl rfl fun b55=>?_
     refine Lrb 0 (.cells (boolC d.pub).toArray 4 (0,0)) rfl (rfl) ?_
     refine LA (d.pub) 5 0 (.inl rfl) rfl el52 rfl rfl rfl rfl rfl rfl (by omega) (by omega) fun a56 c56=>?_
     refine V0 (Ya rfl) ?_
     refine Ln (Eb (Et (Cr ?_)))
     refine V0 (Ym rfl) ?_
     refine V0 (Yi rfl rfl rfl (by omega)) ?_
     refine V0 (Ya rfl) ?_
     refine Ln ?_
     rw [←hI]
     rw [←hI2]
     exact Ea (⟨g.i+1,(a51,c51),(a56,c56)⟩:GI) (by first | omega | (dsimp only; omega)) (by first | omega | (dsimp only; omega)) (sc rfl (sc rfl (sc rfl (sc rfl (sc rfl (sc rfl (sc rfl (sc rfl sn)))))))) (fun _ h=>Ws.drop (L:=[_,_,_,_]) h)
   ·
    have hk2:¬d.kind=2:=by simpa using hc2
    refine Ck (Et (Cs (Cs (Cr ?_))))
    refine V0 (Yf fo109_0 rfl) ?_
    refine V0 (Yd 1 rfl rfl rfl na3) ?_
    refine V0 (yl_eq rfl rfl) ?_
    refine Ln (Et ?_)
    refine Cc rfl (fun hc3=>?_) (fun hc3=>?_)
    ·
     have hk3:d.kind=3:=by simpa using hc3
     have hz:=dSz_3 hk3
     refine Cr ?_
     refine V0 (Ym rfl) ?_
     refine V0 (Yf fo109_3 rfl) ?_
     refine V0 (Yd 1 rfl rfl rfl na3) ?_
     refine V0 (yl_addv (dSum (m.decls.take (g.i+1))) rfl rfl (by rw [hS,hz]) (by omega)) ?_
     refine V0 (Ya rfl) ?_
     refine Ln (Et (Cs (Cr ?_)))
     refine V0 (Ym rfl) ?_
     refine V0 (Yda 0 rfl rfl ag55 rfl) ?_
     refine Lb (.inl rfl) rfl el28 rfl rfl rfl rfl fun b50=>?_
     refine Lrb 0 (.cells (FItem.cells (declItem (dSum (m.decls.take g.i)) d)).toArray 55 (0,0)) rfl (by rw [item_n hk1]; rfl) ?_
     refine LA (declItem (dSum (m.decls.take g.i)) d) 3 0 (.inl rfl) rfl el28 rfl rfl rfl rfl rfl rfl (by omega) (by omega) fun a51 c51=>?_
     refine V0 (Ya rfl) ?_
     refine Ln (Et (Cr ?_))
     refine V0 (Ym rfl) ?_
     refine V0 (Yf fo109_2 rfl) ?_
     refine V0 (Yd 2 rfl rfl rfl na4) ?_
     refine Lb (.inl rfl) rfl el52 rfl rfl rfl rfl fun b55=>?_
     refine Lrb 0 (.cells (boolC d.pub).toArray 4 (0,0)) rfl (rfl) ?_
     refine LA (d.pub) 5 0 (.inl rfl) rfl el52 rfl rfl rfl rfl rfl rfl (by omega) (by omega) fun a56 c56=>?_
     refine V0 (Ya rfl) ?_
     refine Ln (Eb (Et (Cr ?_)))
     refine V0 (Ym rfl) ?_
     refine V0 (Yi rfl rfl rfl (by omega)) ?_
     refine V0 (Ya rfl) ?_
     refine Ln ?_
     rw [←hI]
     rw [←hI2]
     exact Ea (⟨g.i+1,(a51,c51),(a56,c56)⟩:GI) (by first | omega | (dsimp only; omega)) (by first | omega | (dsimp only; omega)) (sc rfl (sc rfl (sc rfl (sc rfl (sc rfl (sc rfl (sc rfl (sc rfl sn)))))))) (fun _ h=>Ws.drop (L:=[_,_,_,_]) h)
    ·
     exact (show False by have:=od.kind; simp at hc3; omega).elim
  ·
   have hk1:d.kind=1:=by simpa using hc1
   have hz:=dSz_1 hk1
   have hS0:dSum (m.decls.take (g.i+1))=dSum (m.decls.take g.i):=by rw [hS,hz]; omega
   refine Ck (Et (Cs (Cs (Cr ?_))))
   refine V0 (Yf fo109_0 rfl) ?_
   refine V0 (Yd 1 rfl rfl rfl na3) ?_
   refine V0 (yl_eq rfl rfl) ?_
   refine Ln (Et ?_)
   refine Cc rfl (fun hc2=>?_) (fun hc2=>?_)
   ·
    exact (show False by simp at hc2; omega).elim
   ·
    have hk2:¬d.kind=2:=by simpa using hc2
    refine Ck (Et (Cs (Cs (Cr ?_))))
    refine V0 (Yf fo109_0 rfl) ?_
    refine V0 (Yd 1 rfl rfl rfl na3) ?_
    refine V0 (yl_eq rfl rfl) ?_
    refine Ln (Et ?_)
    refine Cc rfl (fun hc3=>?_) (fun hc3=>?_)
    ·
     exact (show False by simp at hc3; omega).elim
    ·
     refine Ck (Et (Cs (Cr ?_)))
     refine V0 (Ym rfl) ?_
     refine V0 (Yda 0 rfl rfl ag55 rfl) ?_
     refine Lb (.inl rfl) rfl el28 rfl rfl rfl rfl fun b50=>?_
     refine Lrb 0 (.cells (FItem.cells (declItem (dSum (m.decls.take g.i)) d)).toArray 55 (0,0)) rfl (by rw [item_1 hk1]; rfl) ?_
     refine LA (declItem (dSum (m.decls.take g.i)) d) 3 0 (.inl rfl) rfl el28 rfl rfl rfl rfl rfl rfl (by omega) (by omega) fun a51 c51=>?_
     refine V0 (Ya rfl) ?_
     refine Ln (Et (Cr ?_))
     refine V0 (Ym rfl) ?_
     refine V0 (Yf fo109_2 rfl) ?_
     refine V0 (Yd 2 rfl rfl rfl na4) ?_
     refine Lb (.inl rfl) rfl el52 rfl rfl rfl rfl fun b55=>?_
     refine Lrb 0 (.cells (boolC d.pub).toArray 4 (0,0)) rfl (rfl) ?_
     refine LA (d.pub) 5 0 (.inl rfl) rfl el52 rfl rfl rfl rfl rfl rfl (by omega) (by omega) fun a56 c56=>?_
     refine V0 (Ya rfl) ?_
     refine Ln (Eb (Et (Cr ?_)))
     refine V0 (Ym rfl) ?_
     refine V0 (Yi rfl rfl rfl (by omega)) ?_
     refine V0 (Ya rfl) ?_
     refine Ln ?_
     rw [←hI]
     rw [←hI2]
     rw [←hS0]
     exact Ea (⟨g.i+1,(a51,c51),(a56,c56)⟩:GI) (by first | omega | (dsimp only; omega)) (by first | omega | (dsimp only; omega)) (sc rfl (sc rfl (sc rfl (sc rfl (sc rfl (sc rfl (sc rfl (sc rfl sn)))))))) (fun _ h=>Ws.drop (L:=[_,_,_,_]) h)
 ·
  have hge:g.i=m.decls.length:=by simp at hc0; omega
  rw [hge,List.take_length]
  clear hge hc0 hi
  refine Ce (Ex (Ex (Ebh (Et (Cs ?_)))))
  refine Cs (Cr ?_)
  refine V0 (Ya rfl) ?_
  refine Ln (Et (Cb ?_))
  rw [show declsI m.decls 0=declsI m.decls 0++procsI (m.procs.take 0) 0 by simp [procsI]]
  rw [show m.decls.map (·.pub)=m.decls.map (·.pub)++(m.procs.take 0).map (·.pub) by simp]
  refine CK (ι:=GI) (fun g=>[(11,.int .i64 (g.i:Int)),(5,.slice g.s.1 (declsI m.decls 0++procsI (m.procs.take g.i) 0).length g.s.2),(6,.slice g.p.1 (m.decls.map (·.pub)++(m.procs.take g.i).map (·.pub)).length g.p.2)]) [(1,_),(2,_),(3,_),(4,_),(7,_)] (fun g=>Ws w [] [osT 55 4 FItem.cells g.s.1 g.s.2 (declsI m.decls 0++procsI (m.procs.take g.i) 0),osT 4 1 boolC g.p.1 g.p.2 (m.decls.map (·.pub)++(m.procs.take g.i).map (·.pub)),blk b1 (.cells (modV m r).toArray 27 (0,0))] [H]) (fun g=>g.i≤m.procs.length) (fun g=>m.procs.length-g.i) ⟨0,g.s,g.p⟩ (Nat.zero_le _) (sc rfl (sc rfl (sc rfl (sc rfl (sc rfl (sc rfl (sc rfl (sc rfl sn)))))))) (fun _ h=>h) ?_
  clear g
  intro g hi
  refine Cs (Cs (Cr ?_))
  refine V0 (Ym rfl) ?_
  refine V0 (Yf fo27_3 rfl) ?_
  refine V0 (Yd 2 rfl rfl rfl na24) ?_
  refine V0 (Yn es24 rfl) ?_
  refine V0 (yl_lt rfl rfl) ?_
  refine Ln (Et ?_)
  refine Cc rfl (fun hc4=>?_) (fun hc4=>?_)
  ·
   have hlt:g.i<m.procs.length:=by simpa using hc4
   obtain ⟨p,hpi⟩:∃q,m.procs[g.i]? = some q:=⟨_,List.getElem?_eq_getElem hlt⟩
   obtain ⟨pbp,pop,hap,hrp⟩:=hm.procs.elt g.i p hpi
   obtain ⟨pa1,pc1,pa2,pc2,pa3,pc3,hrow,hs1,hs2,hs3⟩:=hrp
   have hx1:=hs1.max
   have hy1:=hs1.cap
   have hTp:m.procs.take (g.i+1)=m.procs.take g.i++[p]:=take_snoc hpi
   have hI:declsI m.decls 0++procsI (m.procs.take (g.i+1)) 0=(declsI m.decls 0++procsI (m.procs.take g.i) 0)++[procItem g.i p]:=by
     rw [hTp,procsI_snoc,List.append_assoc,Nat.zero_add,List.length_take,Nat.min_eq_left (by omega)]
   have hlI:(declsI m.decls 0++procsI (m.procs.take g.i) 0).length≤16:=by rw [List.length_append,declsI_len,procsI_len,List.length_take]; omega
   have hI2:=pubs_at hpi
   have hlP:(m.decls.map (·.pub)++(m.procs.take g.i).map (·.pub)).length≤16:=by simp; omega
   refine Ck (Et (Cs (Cb (Cs ?_))))
   refine WC.draws1 0 [(0,true),(1,true),(2,true),(3,true),(4,true),(5,true),(6,true),(7,true),(8,true),(9,true),(10,true),(11,true),(12,true),(13,true),(14,true),(15,true),(16,false),(17,false),(18,true)] mixed (by kernel_rfl) (fun _ _ _ d _ h=>by cases d<;>exact h) ?_
   refine Dq rfl (.inl rfl) rfl (fun _ h=>by have h:=Ws.out 0 h; exact h) (Ym rfl) ?_
   refine Dq rfl (.inl rfl) rfl (fun _ h=>by have h:=Ws.out 0 h; exact h) (Yf fo27_3 rfl) ?_
   refine Dq rfl (.inl rfl) rfl (fun _ h=>by have h:=Ws.out 0 h; exact h) (Yd 1 rfl rfl rfl na24) ?_
   refine Dq rfl (.inl rfl) rfl (fun _ h=>by have h:=Ws.out 0 h; exact h) (Ym rfl) ?_
   refine Dq rfl (.inl rfl) rfl (fun _ h=>by have h:=Ws.out 0 h; exact h) (Yo es24 rfl rfl hap (by omega)) ?_
   refine Dq rfl (.inl rfl) rfl (fun _ h=>by have h:=Ws.out 0 h; exact h) (Yf fo86_2 rfl) ?_
   refine Dq rfl (.inl rfl) rfl (fun _ h=>by have h:=Ws.out 0 h; exact h) (yl_ld 0 na22 rfl rfl (hrow 2 _ rfl)) ?_
   refine Dq rfl (.inl rfl) rfl (fun _ h=>by have h:=Ws.out 0 h; exact h) (Yn es22 rfl) ?_
   refine Dq rfl (.inl rfl) rfl (fun _ h=>by have h:=Ws.out 0 h; exact h) (Ym rfl) ?_
   refine Dq rfl (.inl rfl) rfl (fun _ h=>by have h:=Ws.out 0 h; exact h) (Yf fo27_3 rfl) ?_
   refine Dq rfl (.inl rfl) rfl (fun _ h=>by have h:=Ws.out 0 h; exact h) (Yd 1 rfl rfl rfl na24) ?_
   refine Dq rfl (.inl rfl) rfl (fun _ h=>by have h:=Ws.out 0 h; exact h) (Ym rfl) ?_
   refine Dq rfl (.inl rfl) rfl (fun _ h=>by have h:=Ws.out 0 h; exact h) (Yo es24 rfl rfl hap (by omega)) ?_
   refine Dq rfl (.inl rfl) rfl (fun _ h=>by have h:=Ws.out 0 h; exact h) (Yf fo86_0 rfl) ?_
   refine Dq rfl (.inl rfl) rfl (fun _ h=>by have h:=Ws.out 0 h; exact h) (yl_ld 0 na9 rfl rfl (hrow 0 _ rfl)) ?_
   refine Dq rfl (.inl rfl) rfl (fun _ h=>by have h:=Ws.out 0 h; exact h) (Yb zr55 pl55 rfl rfl) ?_
   refine De rfl (fun _ h=>by have h:=Ws.out 0 h; exact h) ?_
   refine Lb (.inl rfl) rfl el28 rfl rfl rfl rfl fun b80=>?_
   refine Lrb 0 (.cells (FItem.cells (procItem g.i p)).toArray 55 (0,0)) rfl (rfl) ?_
   refine Ln (Ed ?_)
   refine De rfl (fun _ h=>by have h:=Ws.drop (L:=[_]) (L':=_) h; have h:=Ws.out 0 h; exact h) ?_
   refine LA (procItem g.i p) 1 0 (.inl rfl) rfl el28 rfl rfl rfl rfl rfl rfl (by omega) (by omega) fun a81 c81=>?_
   refine Ln (Ed ?_)
   refine Dq rfl (.inl rfl) rfl (fun _ h=>by have h:=Ws.drop (L:=[_]) (L':=_) h; have h:=Ws.out 0 h; exact h) (Ya rfl) ?_
   refine WD.nil (fun _ h=>by have h:=Ws.drop (L:=[_]) (L':=_) h; have h:=Ws.out 0 h; exact h) ?_
   refine Et (Cr ?_)
   refine V0 (Ym rfl) ?_
   refine V0 (Yf fo27_3 rfl) ?_
   refine V0 (Yd 3 rfl rfl rfl na24) ?_
   refine V0 (Ym rfl) ?_
   refine V0 (Yo es24 rfl rfl hap (by omega)) ?_
   refine V0 (Yf fo86_1 rfl) ?_
   refine V0 (yl_ld 0 na4 rfl rfl (hrow 1 _ rfl)) ?_
   refine Lb (.inl rfl) rfl el52 rfl rfl rfl rfl fun b89=>?_
   refine Lrb 0 (.cells (boolC p.pub).toArray 4 (0,0)) rfl (rfl) ?_
   refine LA (p.pub) 3 0 (.inl rfl) rfl el52 rfl rfl rfl rfl rfl rfl (by omega) (by omega) fun a90 c90=>?_
   refine V0 (Ya rfl) ?_
   refine Ln (Eb (Et (Cr ?_)))
   refine V0 (Ym rfl) ?_
   refine V0 (Yi rfl rfl rfl (by omega)) ?_
   refine V0 (Ya rfl) ?_
   refine Ln ?_
   rw [←hI]
   rw [←hI2]
   exact Ea (⟨g.i+1,(a81,c81),(a90,c90)⟩:GI) (by first | omega | (dsimp only; omega)) (by first | omega | (dsimp only; omega)) (sc rfl (sc rfl (sc rfl (sc rfl (sc rfl (sc rfl (sc rfl (sc rfl sn)))))))) (fun _ h=>Ws.drop (L:=[_,_]) h)
  ·
   have hge:g.i=m.procs.length:=by simp at hc4; omega
   rw [hge,List.take_length]
   refine Ce (Ex (Ex (Ebh (Et (Cs ?_)))))
   refine Cr ?_
   refine V0 (Ym rfl) ?_
   refine V0 (Ym rfl) ?_
   refine V0 (Ym rfl) ?_
   refine V0 (Ya rfl) ?_
   refine V0 (Ya rfl) ?_
   refine V0 (Ya rfl) ?_
   refine Ln (Et (Crt ?_))
   refine WE.ret3 rfl rfl rfl rfl fun w' hw=>?_
   exact ⟨(g.s,g.p),rfl,hw.fr,hw.slT 0 rfl FItem.cells_len (fun _ _ _ _ h=>h),hw.slT 1 rfl boolC_len (fun _ _ _ _ h=>h)⟩
theorem faceOf_any (H:View) (ke ks:Nat) (r:MAt) (m:TMod) (w:World) (hH:Le H w) (hm:RdM ke ks H r m) (hb:wM m≤109951162777) :
   Calls Tryz.prog 7 #[.agg (modV m r).toArray] w fun e w'=>∃r:SP,e = .returned (.tuple #[.agg #[st (faceM m).1.1,.slice r.1 (faceM m).1.2.length r.2],.int .i64 (faceM m).2])∧Ext w w'∧Sl rdItem 4 (nv w w') r.1 r.2 (faceM m).1.2:=by
 refine enter Tryz.func7 rfl 62 rfl rfl ?_
 refine CWd (W':=Ws w [] [] [H]) (fun _ e=>by subst e; exact Ws.init (by simp [hH])) ?_
 refine Cs (Cr ?_)
 refine WL.box (.inl rfl) rfl rfl fun b1=>?_
 refine WL.alloc (.inl rfl) rfl zr30 fun b2=>?_
 refine V0 (Ya rfl) ?_
 refine Ln (Et (Cs (Cs (Cr ?_))))
 refine V0 (Yda 1 rfl rfl ag27 rfl) ?_
 refine Lp (.inl rfl) rfl en20 rfl (fun w hw=>by
     have:=checkModule_any H ke ks r m w (hw.vs _ (by simp)) hm hb
     rw [←check_same] at this
     exact this) ?_
 refine V0 (Ya rfl) ?_
 refine Ln (Et (Cs (Cr ?_)))
 refine V0 (Ym rfl) ?_
 refine V0 (yl_ne rfl rfl) ?_
 refine Ln (Et ?_)
 refine Cc rfl (fun hc0=>?_) (fun hc0=>?_)
 ·
  have he:¬checkM m=0:=by simpa using hc0
  refine Cs (Cr ?_)
  refine V0 (Yb zr30 pl30 rfl rfl) ?_
  refine V0 (Ym rfl) ?_
  refine Lst 0 (.inl rfl) rfl rfl rfl sz30 rfl rfl rfl ?_
  refine V0 (Ya rfl) ?_
  refine Ln (Et (Crt (Er ?_)))
  refine WE.retc2 0 rfl rfl rfl rfl ag30 rfl fun w' hw=>?_
  rw [faceM_err he]
  exact ⟨(none,0),rfl,hw.fr,Sl.nil⟩
 ·
  have he:checkM m=0:=by simpa using hc0
  have ho:=mOk he
  have few:=ho.few
  have xd:=hm.decls.max
  have yd:=hm.decls.cap
  have xp:=hm.procs.max
  have yp:=hm.procs.cap
  have il:=itemsM_len m
  have pl:=pubsM_len m
  refine Ck (Et (Cs (Cr ?_)))
  refine V0 (Yda 1 rfl rfl ag27 rfl) ?_
  refine Ld (.inl rfl) rfl en21 rfl (fun r:SP×SP=>.tuple #[.slice r.1.1 (itemsM m).length r.1.2,.slice r.2.1 (pubsM m).length r.2.2,.int .i64 (dataM m)]) (fun H r=>Sl rdItem 4 H r.1.1 r.1.2 (itemsM m)∧Sl rdBool 1 H r.2.1 r.2.2 (pubsM m)) (fun w hw=>itemsOf_any H ke ks r m w (hw.vs _ (by simp)) hm ho) ?_
  intro F19 r19 hf19 ⟨h19,h19b⟩
  have x20:=h19.max
  have y20:=h19.cap
  have x27:=h19b.max
  have y27:=h19b.cap
  refine V0 (Ym rfl) ?_
  refine V0 (Yx rfl rfl) ?_
  refine V0 (Yx rfl rfl) ?_
  refine V0 (Yx rfl rfl) ?_
  refine V0 (Ya rfl) ?_
  refine V0 (Ya rfl) ?_
  refine V0 (Ya rfl) ?_
  refine Ln (Et (Cs (Cr ?_)))
  refine V0 (Ya rfl) ?_
  refine LW (fun _ h=>h.osl_nil 9 1) ?_
  refine Ln (Et (Cs (Cr ?_)))
  refine V0 (Yf fo27_0 rfl) ?_
  refine V0 (Yd 2 rfl rfl rfl na9) ?_
  refine LW (fun _ h=>h.osl_nil 55 4) ?_
  refine V0 (Yb zr30 pl30 rfl rfl) ?_
  refine WL.alloc (.inl rfl) rfl zr30 fun b9=>?_
  refine Lst 0 (.inl rfl) rfl rfl rfl sz30 rfl rfl rfl ?_
  refine Ln (Et (Cs (Cs (Cr ?_))))
  refine V0 (Ya rfl) ?_
  refine Ln (Et (Cb ?_))
  refine CK (ι:=GF) (fun g=>[(10,.int .i64 (g.i:Int)),(8,.slice g.n.1 (((itemsM m).take g.i).map mnamed).length g.n.2)]) [(1,_),(2,_),(3,_),(5,_),(6,_),(9,_)] (fun g=>Ws w [] [blk b9 (.cells #[st m.nm,.slice g.f.1 (FQ m g.i).length g.f.2] 30 (0,0)),osT 9 1 strC g.n.1 g.n.2 (((itemsM m).take g.i).map mnamed),osT 55 4 FItem.cells g.f.1 g.f.2 (FQ m g.i),blk b2 (.cells #[st [],.slice none 0 0] 30 (0,0)),blk b1 (.cells (modV m r).toArray 27 (0,0))] [F19,H]) (fun g=>g.i≤(itemsM m).length) (fun g=>(itemsM m).length-g.i) ⟨0,(none,0),(none,0)⟩ (Nat.zero_le _) (sc rfl (sc rfl (sc rfl (sc rfl (sc rfl (sc rfl (sc rfl (sc rfl sn)))))))) (fun _ h=>by have h:=h.fronti 4 rfl; have h:=h.fronti 4 rfl; have h:=h.fronti 3 rfl; have h:=h.fronti 4 rfl; have h:=h.fronti 4 rfl; exact h) ?_
  intro g hi
  refine Cs (Cs (Cr ?_))
  refine V0 (Ym rfl) ?_
  refine V0 (Ym rfl) ?_
  refine V0 (Yn es28 rfl) ?_
  refine V0 (yl_lt rfl rfl) ?_
  refine Ln (Et ?_)
  refine Cc rfl (fun hc1=>?_) (fun hc1=>?_)
  ·
   have hlt:g.i<(itemsM m).length:=by simpa using hc1
   obtain ⟨x,hx⟩:∃x,(itemsM m)[g.i]? = some x:=⟨_,List.getElem?_eq_getElem hlt⟩
   obtain ⟨pb,po,ha,hrow⟩:=h19.elt g.i x hx
   have hrow:RdC F19 pb (po+g.i*4) x.cells:=hrow
   obtain ⟨pv,hpv⟩:∃p,(pubsM m)[g.i]? = some p:=⟨_,List.getElem?_eq_getElem (by rw [pubsM_len,←itemsM_len]; exact hlt)⟩
   obtain ⟨qb,qo,hqa,hrq⟩:=h19b.elt g.i pv hpv
   have hrq:RdC F19 qb (qo+g.i*1) (boolC pv):=hrq
   have hT:((itemsM m).take (g.i+1)).map mnamed=((itemsM m).take g.i).map mnamed++[x.name]:=by rw [List.take_add_one,hx]; simp [mnamed]
   have hL:(((itemsM m).take g.i).map mnamed).length=g.i:=by simp; omega
   have hQ:=FQ_step hx hpv
   have hQl:=FQ_le m g.i
   refine Ck (Et (Cs (Cb (Cs (Cr ?_)))))
   refine V0 (Ym rfl) ?_
   refine V0 (Ym rfl) ?_
   refine V0 (Ym rfl) ?_
   refine V0 (Yo es28 rfl rfl ha (by omega)) ?_
   refine V0 (Yf fo55_3 rfl) ?_
   refine V0 (yl_ld 0 na9 rfl rfl (hrow 3 _ rfl)) ?_
   refine Lb (.inl rfl) rfl el22 rfl rfl rfl rfl fun b38=>?_
   refine Lrb 0 (.cells (strC x.name).toArray 9 (0,0)) rfl (rfl) ?_
   refine LA ((x.name:List UInt8)) 2 0 (.inl rfl) rfl el22 rfl rfl rfl rfl rfl rfl (by omega) (by omega) fun a39 c39=>?_
   refine V0 (Ya rfl) ?_
   refine Ln (Et (Cs (Cr ?_)))
   refine V0 (Ym rfl) ?_
   refine V0 (Ym rfl) ?_
   refine V0 (Yo es52 rfl rfl hqa (by omega)) ?_
   refine V0 (yl_ld 0 na4 rfl rfl (hrq 0 _ rfl)) ?_
   refine Ln (Et ?_)
   refine Cc rfl (fun hc2=>?_) (fun hc2=>?_)
   ·
    have hp1:pv=true:=by simpa using hc2
    have hQ1:FQ m (g.i+1)=FQ m g.i++[x]:=by rw [hQ,if_pos hp1]
    refine CU (fun _=>true) [3] [8,9] (.q false 0 (.q true 1 (.q false 2 (.q false 3 (.q false 4 (.q true 5 (.e 6 (.e 7 .nil .stop) .stop))))))) mixed (by kernel_rfl) (fun _ _ _ d _ _ h=>by cases d<;>exact h) ?_
    refine Uq rfl (.inl rfl) rfl (fun _ h=>by have h:=Ws.out 3 h; exact h) (Yf fo30_1 rfl) ?_
    refine Uq rfl (.inl rfl) rfl (fun _ h=>by have h:=Ws.out 3 h; exact h) (Yd 1 rfl rfl rfl na28) ?_
    refine Uq rfl (.inl rfl) rfl (fun _ h=>by have h:=Ws.out 3 h; exact h) (Ym rfl) ?_
    refine Uq rfl (.inl rfl) rfl (fun _ h=>by have h:=Ws.out 3 h; exact h) (Ym rfl) ?_
    refine Uq rfl (.inl rfl) rfl (fun _ h=>by have h:=Ws.out 3 h; exact h) (Yo es28 rfl rfl ha (by omega)) ?_
    refine Uq rfl (.inl rfl) rfl (fun _ h=>by have h:=Ws.out 3 h; exact h) (yl_lda 0 ag55 rfl rfl rfl (hrow)) ?_
    refine Ue rfl (fun _ h=>by have h:=Ws.out 3 h; exact h) ?_ WU.stop
    refine Lb (.inl rfl) rfl el28 rfl rfl rfl rfl fun b50=>?_
    refine Lrb 0 (.cells (FItem.cells x).toArray 55 (0,0)) rfl (rfl) ?_
    refine Ln (Eu ?_)
    refine Ue rfl (fun _ h=>by have h:=Ws.drop (L:=[_]) (L':=_) h; have h:=Ws.out 3 h; exact h) ?_ WU.stop
    refine LA (x) 4 0 (.inl rfl) rfl el28 rfl rfl rfl rfl rfl rfl (by omega) (by omega) fun a51 c51=>?_
    refine Ln (Eu ?_)
    refine WU.nil (fun _ h=>by have h:=Ws.drop (L:=[_]) (L':=_) h; have h:=Ws.out 3 h; exact h) ?_
    refine WS.e rfl ?_
    refine V0 (Yf fo30_1 rfl) ?_
    refine Ln (Es ?_)
    refine WS.e rfl ?_
    refine Lst 2 (.inl rfl) rfl rfl rfl sz28 rfl rfl rfl ?_
    refine Ln (Es ?_)
    refine WS.nil ?_
    refine Eb (Et (Cr ?_))
    refine V0 (Ym rfl) ?_
    refine V0 (Yi rfl rfl rfl (by omega)) ?_
    refine V0 (Ya rfl) ?_
    refine Ln ?_
    rw [←hT]
    rw [←hQ1]
    exact Ea (⟨g.i+1,(a39,c39),(a51,c51)⟩:GF) (by first | omega | (dsimp only; omega)) (by first | omega | (dsimp only; omega)) (sc rfl (sc rfl (sc rfl (sc rfl (sc rfl (sc rfl (sc rfl (sc rfl sn)))))))) (fun _ h=>Ws.drop (L:=[_,_]) h)
   ·
    have hp0:¬pv=true:=by simpa using hc2
    have hQ0:FQ m (g.i+1)=FQ m g.i:=by rw [hQ,if_neg hp0,List.append_nil]
    refine Ck (Eb (Et (Cr ?_)))
    refine V0 (Ym rfl) ?_
    refine V0 (Yi rfl rfl rfl (by omega)) ?_
    refine V0 (Ya rfl) ?_
    refine Ln ?_
    rw [←hT]
    rw [←hQ0]
    exact Ea (⟨g.i+1,(a39,c39),g.f⟩:GF) (by first | omega | (dsimp only; omega)) (by first | omega | (dsimp only; omega)) (sc rfl (sc rfl (sc rfl (sc rfl (sc rfl (sc rfl (sc rfl (sc rfl sn)))))))) (fun _ h=>Ws.drop (L:=[_]) h)
  ·
   have hge:g.i=(itemsM m).length:=by simp at hc1; omega
   have hAll:=FQ_all m
   refine Ce (Ex (Ex (Ebh (Et (Cs ?_)))))
   refine Cs ?_
   rw [hge,List.take_length]
   refine WC.oslview (rd:=rdStr) 1 rfl strC_len (fun _ _ _ _ h=>h) fun HN hHN=>?_
   refine Cr ?_
   refine V0 (Yf fo27_1 rfl) ?_
   refine V0 (Yd 3 rfl rfl rfl na22) ?_
   refine Lp (.inl rfl) rfl en22 rfl (fun w hw=>twice_any H r.a1 r.c1 m.uses w (hw.vs _ (by simp)) hm.uses) ?_
   refine V0 (Ym rfl) ?_
   apply WL.or 2 rfl rfl rfl rfl (.inl rfl) rfl rfl rfl rfl rfl
   ·
    intro hg0
    refine Lv (.g rfl rfl rfl) rfl (Ym rfl) ?_
    refine Lp (.g rfl rfl rfl) rfl en22 rfl (fun w hw=>by
        have:=twice_any HN g.n.1 g.n.2 ((itemsM m).map mnamed) w (hw.vs _ (by simp)) hHN
        exact this) ?_
    exact Gt 2 rfl rfl rfl
   refine Ln (Et ?_)
   refine Cc rfl (fun hc3=>?_) (fun hc3=>?_)
   ·
    have h6:(twiceB ((itemsM m).map (·.name))||twiceB m.uses)=true:=by rw [Bool.or_comm]; exact hc3
    refine Cs (Cr ?_)
    refine V0 (Yb zr30 pl30 rfl rfl) ?_
    refine Lst 2 (.inl rfl) rfl rfl rfl sz30 rfl rfl rfl ?_
    refine V0 (Ya rfl) ?_
    refine Ln (Et (Crt (Er ?_)))
    refine WE.retc2 2 rfl rfl rfl rfl ag30 rfl fun w' hw=>?_
    rw [faceM_twice he h6]
    exact ⟨(none,0),rfl,hw.fr,Sl.nil⟩
   ·
    have h6:(twiceB ((itemsM m).map (·.name))||twiceB m.uses)=false:=by rw [Bool.or_comm]; exact hc3
    refine Ck (Et (Cs (Cr ?_)))
    refine V0 (Yda 0 rfl rfl ag30 rfl) ?_
    refine Lst 2 (.inl rfl) rfl rfl rfl sz30 rfl rfl rfl ?_
    refine V0 (Ya rfl) ?_
    refine Ln (Et (Crt ?_))
    refine WE.retc2 2 rfl rfl rfl rfl ag30 rfl fun w' hw=>?_
    rw [faceM_ok he h6]
    rw [hAll] at hw ⊢
    exact ⟨g.f,rfl,hw.fr,hw.slT 1 rfl FItem.cells_len (fun _ _ _ _ h=>h)⟩
theorem sameFaces_eq (H1 H2:View) (a1 a2:Option Addr) (c1 c2:Nat) (n1:List UInt8) (l1:List FItem) (w:World) (hH1:Le H1 w) (hH2:Le H2 w) (hm1:Sl rdItem 4 H1 a1 c1 l1) (hm2:Sl rdItem 4 H2 a2 c2 l1) :
   Calls Tryz.prog 9 #[.agg #[st n1,.slice a1 l1.length c1],.agg #[st n1,.slice a2 l1.length c2]] w fun e w'=>e = .returned (.bool true)∧Ext w w':=by
 have hcap1:=hm1.cap
 have hmax1:=hm1.max
 have hcap2:=hm2.cap
 have hmax2:=hm2.max
 refine enter Tryz.func9 rfl 38 rfl rfl ?_
 refine CWd (W':=Ws w [] [] [H1,H2]) (fun _ e=>by subst e; exact Ws.init (by simp [hH1,hH2])) ?_
 refine Cs (Cr ?_)
 refine WL.box (.inl rfl) rfl rfl fun b2=>?_
 refine WL.box (.inl rfl) rfl rfl fun b3=>?_
 refine V0 (Ya rfl) ?_
 refine Ln (Et (Cs (Cs (Cr ?_))))
 refine V0 (Yf fo30_0 rfl) ?_
 refine V0 (Yd 1 rfl rfl rfl na9) ?_
 refine V0 (Yf fo30_0 rfl) ?_
 refine V0 (Yd 0 rfl rfl rfl na9) ?_
 refine V0 (yl_nesY rfl rfl rfl) ?_
 refine V0 (Ym rfl) ?_
 apply WL.or 7 (x:=false) rfl rfl rfl rfl (.inl rfl) rfl rfl rfl rfl rfl
 ·
  intro hg0
  refine Lv (.g rfl rfl rfl) rfl (Yf fo30_1 rfl) ?_
  refine Lv (.g rfl rfl rfl) rfl (Yd 1 rfl rfl rfl na28) ?_
  refine Lv (.g rfl rfl rfl) rfl (Yn es28 rfl) ?_
  refine Lv (.g rfl rfl rfl) rfl (Yf fo30_1 rfl) ?_
  refine Lv (.g rfl rfl rfl) rfl (Yd 0 rfl rfl rfl na28) ?_
  refine Lv (.g rfl rfl rfl) rfl (Yn es28 rfl) ?_
  refine Lv (.g rfl rfl rfl) rfl (yl_neY rfl rfl rfl) ?_
  exact Gt 7 rfl rfl rfl
 refine Ln (Et ?_)
 refine WC.condf rfl ?_
 refine Ck (Et (Cs (Cs (Cr ?_))))
 refine V0 (Ya rfl) ?_
 refine Ln (Et (Cb ?_))
 refine CW (ι:=Nat) (fun i=>[(5,.int .i64 (i:Int))]) [(2,_),(3,_)] (fun i=>i≤l1.length) (fun i=>l1.length-i) 0 (Nat.zero_le _) (sc rfl (sc rfl (sc rfl sn))) ?_
 intro i hi
 refine Cs (Cs (Cr ?_))
 refine V0 (Ym rfl) ?_
 refine V0 (Yf fo30_1 rfl) ?_
 refine V0 (Yd 1 rfl rfl rfl na28) ?_
 refine V0 (Yn es28 rfl) ?_
 refine V0 (yl_lt rfl rfl) ?_
 refine Ln (Et ?_)
 refine Cc rfl (fun hc1=>?_) (fun hc1=>?_)
 ·
  have hlt:i<l1.length:=by simpa using hc1
  obtain ⟨x,hx⟩:∃x,l1[i]? = some x:=⟨_,List.getElem?_eq_getElem hlt⟩
  obtain ⟨pb,po,ha1,hrow1⟩:=hm1.elt i x hx
  obtain ⟨qb,qo,ha2,hrow2⟩:=hm2.elt i x hx
  have hrow1:RdC H1 pb (po+i*4) x.cells:=hrow1
  have hrow2:RdC H2 qb (qo+i*4) x.cells:=hrow2
  refine Ck (Et (Cs (Cb (Cs ?_))))
  refine WC.draws0 [(0,true),(1,true),(2,true),(3,true),(4,true),(5,true),(6,true),(7,true),(8,true),(9,true),(10,true)] mixed (by kernel_rfl) (fun _ _ _ d _ h=>by cases d<;>exact h) ?_
  refine Dq rfl (.inl rfl) rfl (fun _ h=>h) (Yf fo30_1 rfl) ?_
  refine Dq rfl (.inl rfl) rfl (fun _ h=>h) (Yd 1 rfl rfl rfl na28) ?_
  refine Dq rfl (.inl rfl) rfl (fun _ h=>h) (Ym rfl) ?_
  refine Dq rfl (.inl rfl) rfl (fun _ h=>h) (Yo es28 rfl rfl ha1 (by omega)) ?_
  refine Dq rfl (.inl rfl) rfl (fun _ h=>h) (yl_lda 0 ag55 rfl rfl rfl (hrow1)) ?_
  refine Dq rfl (.inl rfl) rfl (fun _ h=>h) (Yf fo30_1 rfl) ?_
  refine Dq rfl (.inl rfl) rfl (fun _ h=>h) (Yd 0 rfl rfl rfl na28) ?_
  refine Dq rfl (.inl rfl) rfl (fun _ h=>h) (Ym rfl) ?_
  refine Dq rfl (.inl rfl) rfl (fun _ h=>h) (Yo es28 rfl rfl ha2 (by omega)) ?_
  refine Dq rfl (.inl rfl) rfl (fun _ h=>h) (yl_lda 1 ag55 rfl rfl rfl (hrow2)) ?_
  refine Dq rfl (.inl rfl) rfl (fun _ h=>h) (yl_nest fl55 rfl rfl rfl) ?_
  refine WD.nil (fun _ h=>h) ?_
  refine Et ?_
  refine Cc rfl (fun hc2=>?_) (fun hc2=>?_)
  ·
   exact (show False by simp at hc2).elim
  ·
   refine Ck (Eb (Et (Cr ?_)))
   refine V0 (Ym rfl) ?_
   refine V0 (Yi rfl rfl rfl (by omega)) ?_
   refine V0 (Ya rfl) ?_
   refine Ln ?_
   exact Ea (i+1) (by omega) (by omega) (sc rfl (sc rfl (sc rfl sn))) (fun _ h=>h)
 ·
  refine Ce (Ex (Ex (Ebh (Et (Cs ?_)))))
  refine Cr ?_
  refine V0 (Ya rfl) ?_
  refine Ln (Et (Crt ?_))
  refine WE.ret1 rfl rfl fun w' hw=>?_
  exact ⟨rfl,hw.fr⟩
theorem counted_any (w:World) :
   Calls Tryz.prog 26 #[] w fun e w'=>∃r:SP,e = .returned (.agg #[st cntN,.slice r.1 cntI.length r.2])∧Ext w w'∧Sl rdItem 4 (nv w w') r.1 r.2 cntI:=by
 refine enter Tryz.func26 rfl 7 rfl rfl ?_
 refine CWd (W':=Ws w [] [] []) (fun _ e=>by subst e; exact Ws.init (by simp)) ?_
 refine Cs (Cr ?_)
 refine WL.alloc (.inl rfl) rfl zr30 fun b0=>?_
 refine Ln (Et (Cs (Cr ?_)))
 refine V0 (Yb zr55 pl55 rfl rfl) ?_
 refine V0 (Yb zr55 pl55 rfl rfl) ?_
 refine V0 (Yb zr55 pl55 rfl rfl) ?_
 refine V0 (Yb zr55 pl55 rfl rfl) ?_
 refine Lb (.inl rfl) rfl el28 rfl rfl rfl rfl fun b5=>?_
 refine V0 (Yb zr30 pl30 rfl rfl) ?_
 refine Lst 1 (.inl rfl) rfl rfl rfl sz30 rfl rfl rfl ?_
 refine Ln (Et (Crt ?_))
 refine WE.retR (rs_1 rfl (rv_agg 1 rfl rfl ag30 rfl)) fun w' hw=>?_
 exact ⟨(some ⟨b5,0,none⟩,4),rfl,hw.fr,⟨show cntI.length≤4 by decide,show 4≤9223372036854775807 by decide,by simp,fun j x hj=>⟨b5,0,rfl,fun k v hk=>hw.nvc 0 rfl (by
     have:k<4:=(List.getElem?_eq_some_iff.1 hk).1
     show (cntI.flatMap FItem.cells)[0+j*4+k]? = some v
     rw [Nat.zero_add,flat_get FItem.cells_len hj this]; exact hk)⟩⟩⟩
theorem tableOf_any (H:View) (a:Option Addr) (c:Nat) (l:List FItem) (w:World) (hH:Le H w) (hm:Sl rdItem 4 H a c l) (hnd:(l.map (·.name)).Nodup) :
   Calls Tryz.prog 32 #[.slice a l.length c] w fun e w'=>∃b:Nat,e = .returned (.map (some b))∧Ext w w'∧(nv w w') b=some (gobj st (tabI l 0) l.length):=by
 have hcap:=hm.cap
 have hmax:=hm.max
 refine enter Tryz.func32 rfl 19 rfl rfl ?_
 refine CWd (W':=Ws w [] [] [H]) (fun _ e=>by subst e; exact Ws.init (by simp [hH])) ?_
 refine Cs (Cr ?_)
 refine V0 (Ya rfl) ?_
 refine Ln (Et (Cs (Cr ?_)))
 refine WL.gmk st (.inl rfl) rfl fun b6=>?_
 refine Lrb 0 (gobj st (tabI (l.take 0) 0) (l.take 0).length) rfl rfl ?_
 refine V0 (Ya rfl) ?_
 refine Ln (Et (Cs (Cs (Cr ?_))))
 refine V0 (Ym rfl) ?_
 refine V0 (Yn es28 rfl) ?_
 refine V0 (Ym rfl) ?_
 refine Ln (Et (Cb ?_))
 refine CK (ι:=Nat) (fun i=>[(9,.int .i64 (i:Int))]) [(2,_),(3,_),(7,_),(8,_)] (fun i=>Ws w [] [blk b6 (gobj st (tabI (l.take i) 0) (l.take i).length)] [H]) (fun i=>i≤l.length) (fun i=>l.length-i) 0 (Nat.zero_le _) (sc rfl (sc rfl (sc rfl (sc rfl (sc rfl sn))))) (fun _ h=>h) ?_
 intro i hi
 refine Cs (Cr ?_)
 refine V0 (yl_lt rfl rfl) ?_
 refine Ln (Et (Cs ?_))
 refine Cc rfl (fun hc0=>?_) (fun hc0=>?_)
 ·
  have hlt:i<l.length:=by simpa using hc0
  obtain ⟨x,hxi⟩:∃x,l[i]? = some x:=⟨_,List.getElem?_eq_getElem hlt⟩
  obtain ⟨pbx,pox,ha,hrow⟩:=hm.elt i x hxi
  have hrow:RdC H pbx (pox+i*4) x.cells:=hrow
  have hput:=tabI_put (nodup_take hnd hxi)
  refine Ck (Et (Cs (Cb (Cs (Cr ?_)))))
  refine V0 (Yo es28 rfl rfl ha (by omega)) ?_
  refine V0 (yl_lda 0 ag55 rfl rfl rfl (hrow)) ?_
  refine WL.alloc (.inl rfl) rfl zr55 fun b5=>?_
  refine Lst 0 (.inl rfl) rfl rfl rfl sz55 rfl rfl rfl ?_
  refine Ln (Et (Cr ?_))
  refine V0 (Ym rfl) ?_
  refine V0 (Yf fo55_3 rfl) ?_
  refine V0 (Yd 0 rfl rfl rfl na9) ?_
  refine V0 (Yda 0 rfl rfl ag55 rfl) ?_
  refine WL.gset 1 keyStr (.inl rfl) um77 us9 rfl rfl rfl rfl ?_
  refine Ln (Eb (Et (Cr ?_)))
  refine V0 (Yi rfl rfl rfl (by omega)) ?_
  refine V0 (Ym rfl) ?_
  refine Ln ?_
  refine WE.reblk 1 (gobj st (tabI (l.take (i+1)) 0) (l.take (i+1)).length) rfl (by rw [take_snoc hxi,←hput.1,←hput.2]; rfl) ?_
  exact Ea (i+1) (by omega) (by omega) (sc rfl (sc rfl (sc rfl (sc rfl (sc rfl sn))))) (fun _ h=>Ws.drop (L:=[_]) h)
 ·
  have hge:i=l.length:=by simp at hc0; omega
  rw [hge,List.take_length]
  refine Ce (Ex (Ex (Ebh (Et (Cs ?_)))))
  refine Cr ?_
  refine V0 (Ym rfl) ?_
  refine V0 (Ya rfl) ?_
  refine Ln (Et (Crt ?_))
  refine WE.ret1 rfl rfl fun w' hw=>?_
  exact ⟨b6,rfl,hw.fr,hw.nvb 0 rfl⟩
end Go.Proofs.YtinnlppbkhhoiaaGreatDoor
end
section
namespace Go.Proofs.YtinnlppbkhhoiaaGreatDoor
open Go.Bw
set_option linter.unusedVariables false
set_option linter.unusedSimpArgs false
def refd (e:Int):List PanicEntry:=[⟨.iface 73 (.agg #[.int .i64 e]),false,false⟩]
def rdTab (H:View) (b o:Nat) (l:List FItem):Prop:=∃tb:Nat,vc H b o=some (.map (some tb))∧H tb=some (gobj st (tabI l 0) l.length)
structure Slv (H:View) (sb:Nat) (σ:Scp):Prop where
 at_:∃(ob ub:Nat) (fa:Option Addr) (fc lb:Nat),(vc H sb 0=some (.map (some ob))∧vc H sb 1=some (.map (some ub))∧vc H sb 2=some (.slice fa σ.faces.length fc)∧vc H sb 3=some (.map (some lb)))∧H ob=some (gobj st (tabI σ.own 0) σ.own.length)∧H ub=some (gobj st (tabL σ.uses 0) σ.uses.length)∧Sl rdTab 1 H fa fc σ.faces∧H lb=some (gobj st (tabL σ.locs 0) σ.locs.length)
 nd:σ.uses.Nodup
 len:σ.uses.length=σ.faces.length
 few:σ.uses.length≤3∧σ.locs.length≤7
def noItem:FItem:=⟨0,0,0,[]⟩
def posN (nm:List UInt8) (l:List (List UInt8)):Int:=match idxOf nm l 0 with | some k=>((k+1:Nat):Int) | none=>0
theorem posN_get (nm:List UInt8) (l:List (List UInt8)):gget nm (tabL l 0) (.int .i64 0) = .int .i64 (posN nm l):=tabL_get nm l
theorem posN_pos {nm:List UInt8} {l:List (List UInt8)} (h:0<posN nm l):∃k:Nat,idxOf nm l 0=some k∧posN nm l=((k+1:Nat):Int)∧k<l.length:=by
 unfold posN at h ⊢
 cases hk:idxOf nm l 0 with
 | none=>rw [hk] at h; exact absurd h (by decide)
 | some k=>exact ⟨k,rfl,rfl,by have:=(idxOf_le hk).2; exact (List.getElem?_eq_some_iff.1 this).1⟩
theorem posN_no {nm:List UInt8} {l:List (List UInt8)} (h:¬0<posN nm l):idxOf nm l 0=none:=by
 unfold posN at h
 cases hk:idxOf nm l 0 with
 | none=>rfl
 | some k=>rw [hk] at h; exact absurd (by simp only; omega) h
def itemN (nm:List UInt8) (l:List FItem):FItem:=(findI nm l).getD noItem
theorem itemN_get (nm:List UInt8) (l:List FItem):gget nm (tabI l 0) (.agg #[.int .i64 0,.int .i64 0,.int .i64 0,st []]) = .agg (itemN nm l).cells.toArray:=by
 rw [(tabI_get nm l _).1]
 unfold itemN
 cases findI nm l<;>rfl
theorem itemN_has (nm:List UInt8) (l:List FItem):ghas nm (tabI l 0)=(findI nm l).isSome:=(tabI_get nm l (.bool false)).2
theorem itemN_some {nm:List UInt8} {l:List FItem} (h:(findI nm l).isSome=true):findI nm l=some (itemN nm l):=by
 unfold itemN
 cases hf:findI nm l with
 | none=>rw [hf] at h; cases h
 | some x=>rfl
theorem itemN_none {nm:List UInt8} {l:List FItem} (h:(findI nm l).isSome=false):findI nm l=none:=by
 cases hf:findI nm l with
 | none=>rfl
 | some x=>rw [hf] at h; cases h
theorem find_loc {σ:Scp} {nm:List UInt8} {k:Nat} (h:idxOf nm σ.locs 0=some k):findT σ [] nm=some (-1,locItem k):=by rw [findT,if_pos rfl,h]
theorem find_own {σ:Scp} {nm:List UInt8} (h:idxOf nm σ.locs 0=none):findT σ [] nm=(findI nm σ.own).map fun x=>(0,x):=by rw [findT,if_pos rfl,h]
theorem find_use {σ:Scp} {mod nm:List UInt8} (h:¬mod=[]) (hn:σ.uses.Nodup) (hl:σ.uses.length=σ.faces.length) {k:Nat} {f:List FItem} (hk:idxOf mod σ.uses 0=some k) (hf:σ.faces[k]? = some f):findT σ mod nm=(findI nm f).map fun x=>(((k+1:Nat):Int),x):=by
 rw [findT,if_neg h,findU_at hn hl,hk]
 simp [hf]
theorem find_no {σ:Scp} {mod nm:List UInt8} (h:¬mod=[]) (hk:idxOf mod σ.uses 0=none):findT σ mod nm=none:=by
 rw [findT,if_neg h,findU_none (idxOf_none.1 hk)]
theorem findU_m {mod nm:List UInt8}:∀{us:List (List UInt8)} {fs:List (List FItem)} {s:Nat} {m:Int} {x:FItem},findU mod nm us fs s=some (m,x)→0≤m
 | [],_,_,_,_,h=>by simp [findU] at h
 | u::us,[],_,_,_,h=>by simp [findU] at h
 | u::us,f::fs,s,m,x,h=>by
   rw [findU] at h
   split at h
   · split at h
     · injection h with h; injection h with h1 h2; omega
     · exact findU_m h
   · exact findU_m h
theorem findT_m {σ:Scp} {mod nm:List UInt8} {m:Int} {x:FItem} (h:findT σ mod nm=some (m,x)):m = -1∨0≤m:=by
 unfold findT at h
 split at h
 · split at h
   · injection h with h; injection h with h1 h2; exact .inl h1.symm
   · cases hf:findI nm σ.own with
     | none=>rw [hf] at h; cases h
     | some y=>rw [hf] at h; injection h with h; injection h with h1 h2; right; omega
 · exact .inr (findU_m h)
def plErr (σ:Scp) (mod nm:List UInt8) (kind args:Int):Int:=match findT σ mod nm with
 | none=>5
 | some (m,it)=>if ¬(0≤m∧it.kind=kind) then 7 else if kind=4∧¬it.n=args then 8 else 0
theorem pl_none {σ:Scp} {mod nm:List UInt8} {kind args:Int} (h:findT σ mod nm=none):plErr σ mod nm kind args=5:=by unfold plErr; rw [h]
theorem pl_some {σ:Scp} {mod nm:List UInt8} {kind args m:Int} {it:FItem} (h:findT σ mod nm=some (m,it)):plErr σ mod nm kind args=if ¬(0≤m∧it.kind=kind) then 7 else if kind=4∧¬it.n=args then 8 else 0:=by unfold plErr; rw [h]
def ScNodes (HS:View) (sb:Nat) (σ:Scp) (k:Nat):Prop:=∀(HE:View) (l:List TExpr) (a:Option Addr) (c:Nat) (w:World),Le HS w→Le HE w→Sl (RdE k) 5 HE a c l→wEs l≤109951162777→
 Calls Tryz.prog 76 #[.pointer (some ⟨sb,0,none⟩),.slice a l.length c] w fun e w'=>(∃r:SP,e = .returned (.slice r.1 (nodesT σ l).length r.2)∧Ext w w'∧errEs σ l=0∧Sl (RdN (k+1)) 5 (nv w w') r.1 r.2 (nodesT σ l))∨(∃_:Unit,e = .panicked (refd (errEs σ l))∧Ext w w'∧errEs σ l≠0)
theorem pl73:placesP Tryz.prog 73=some [(0,1)]:=by kernel_rfl
theorem zr73:zeroOf Tryz.prog 73=some (.agg #[.int .i64 0]):=by kernel_rfl
theorem co73:Tryz.prog.concrete 73=true:=by kernel_rfl
theorem fo82_3:fieldOff Tryz.prog 82 3=some 3:=by kernel_rfl
theorem na79:nonAgg Tryz.prog 79=true:=by kernel_rfl
theorem fo82_0:fieldOff Tryz.prog 82 0=some 0:=by kernel_rfl
theorem na77:nonAgg Tryz.prog 77=true:=by kernel_rfl
theorem en33:Enters Tryz.prog 33:=enters_of Tryz.func33 (by kernel_rfl) rfl
theorem fo82_1:fieldOff Tryz.prog 82 1=some 1:=by kernel_rfl
theorem fo82_2:fieldOff Tryz.prog 82 2=some 2:=by kernel_rfl
theorem na80:nonAgg Tryz.prog 80=true:=by kernel_rfl
theorem es80:elemSz Tryz.prog 80=some 1:=by kernel_rfl
theorem scMust_any (b:Bool) (n:Int) (w:World) :
   Calls Tryz.prog 33 #[.bool b,.int .i64 n] w fun e w'=>(∃_:Unit,e = .returned (.tuple #[])∧Ext w w'∧b=true)∨(∃_:Unit,e = .panicked (refd n)∧Ext w w'∧b=false):=by
 refine enter Tryz.func33 rfl 9 rfl rfl ?_
 refine CWd (W':=Ws w [] [] []) (fun _ e=>by subst e; exact Ws.init (by simp)) ?_
 refine Cs (Cr ?_)
 refine V0 (Ym rfl) ?_
 refine V0 (yl_not rfl) ?_
 refine Ln (Et ?_)
 refine Cc rfl (fun hc0=>?_) (fun hc0=>?_)
 ·
  refine Cr ?_
  refine V0 (Ym rfl) ?_
  refine V0 (Yb zr73 pl73 rfl rfl) ?_
  refine V0 (yl_mki co73 rfl) ?_
  refine WL.panic (.inl rfl) rfl ?_
  refine Epp fun w' hw=>?_
  exact .inr ⟨(),rfl,hw.fr,by simpa using hc0⟩
 ·
  refine Ck ?_
  refine WE.end0 rfl fun w' hw=>?_
  exact .inl ⟨(),rfl,hw.fr,by simpa using hc0⟩
theorem scFind_any (HS:View) (sb:Nat) (σ:Scp) (w:World) (hHS:Le HS w) (hS:Slv HS sb σ) (mod nm:List UInt8) :
   Calls Tryz.prog 74 #[.pointer (some ⟨sb,0,none⟩),st mod,st nm] w fun e w'=>(∃i:Int×FItem,e = .returned (.tuple #[.int .i64 i.1,.agg i.2.cells.toArray])∧Ext w w'∧findT σ mod nm=some i)∨(∃_:Unit,e = .panicked (refd 5)∧Ext w w'∧findT σ mod nm=none):=by
 obtain ⟨⟨ob,ub,fa,fc,lb,⟨h0,h1,h2,h3⟩,hob,hub,hfs,hlb⟩,hnd,hlen,few⟩:=hS
 refine enter Tryz.func74 rfl 65 rfl rfl ?_
 refine CWd (W':=Ws w [] [] [HS]) (fun _ e=>by subst e; exact Ws.init (by simp [hHS])) ?_
 refine Cs (Cr ?_)
 refine V0 (Ya rfl) ?_
 refine WL.alloc (.inl rfl) rfl zr55 fun b7=>?_
 refine Ln (Et (Cs (Cs (Cr ?_))))
 refine V0 (Ym rfl) ?_
 refine V0 (yl_eqs rfl rfl) ?_
 refine Ln (Et ?_)
 refine Cc rfl (fun hc0=>?_) (fun hc0=>?_)
 ·
  obtain rfl:mod=[]:=by simpa using hc0
  refine Cs (Cs (Cr ?_))
  refine V0 (Ym rfl) ?_
  refine V0 (yl_nil rfl) ?_
  refine V0 (Yf fo82_3 rfl) ?_
  refine V0 (yl_ld 0 na79 rfl rfl (h3)) ?_
  refine V0 (Ym rfl) ?_
  refine V0 (yl_glookv 0 rfl keyStr um79 us9 zr3 rfl rfl (hlb)) ?_
  rw [posN_get]
  refine V0 (Ya rfl) ?_
  refine Ln (Et (Cs (Cr ?_)))
  refine V0 (Ym rfl) ?_
  refine V0 (yl_gt rfl rfl) ?_
  refine Ln (Et ?_)
  refine Cc rfl (fun hc1=>?_) (fun hc1=>?_)
  ·
   obtain ⟨k,hk,hk2,hk3⟩:=posN_pos (nm:=nm) (l:=σ.locs) (by simpa using hc1)
   refine Cs (Cr ?_)
   refine V0 (Ym rfl) ?_
   refine V0 (yl_subv (k:Int) rfl rfl (by rw [hk2]; omega) (by omega)) ?_
   refine V0 (Yb zr55 pl55 rfl rfl) ?_
   refine V0 (Ya rfl) ?_
   refine Lst 0 (.inl rfl) rfl rfl rfl sz55 rfl rfl rfl ?_
   refine Ln (Et (Crt (Er (Er ?_))))
   refine WE.retR (rs_2 rfl (rv_tmp rfl) (rv_agg 0 rfl rfl ag55 rfl)) fun w' hw=>?_
   exact .inl ⟨(-1,locItem k),rfl,hw.fr,find_loc hk⟩
  ·
   have hk:=posN_no (nm:=nm) (l:=σ.locs) (by simpa using hc1)
   refine Ck (Et (Cs (Cr ?_)))
   refine V0 (Ym rfl) ?_
   refine V0 (yl_nil rfl) ?_
   refine V0 (Yf fo82_0 rfl) ?_
   refine V0 (yl_ld 0 na77 rfl rfl (h0)) ?_
   refine V0 (Ym rfl) ?_
   refine V0 (yl_glook2v 0 rfl keyStr um77 us9 zr55 rfl rfl (hob)) ?_
   rw [itemN_get,itemN_has]
   refine V0 (Ym rfl) ?_
   refine V0 (Yx rfl rfl) ?_
   refine V0 (Yx rfl rfl) ?_
   refine WL.alloc (.inl rfl) rfl zr55 fun b9=>?_
   refine Lst 0 (.inl rfl) rfl rfl rfl sz55 rfl rfl rfl ?_
   refine V0 (Ya rfl) ?_
   refine Ln (Et (Cs (Cr ?_)))
   refine V0 (Ym rfl) ?_
   refine WL.callpx (ι:=Unit) (κ:=Unit) (.inl rfl) rfl en33 rfl (fun _=>.tuple #[]) (fun _=>(findI nm σ.own).isSome=true) (fun _=>refd 5) (fun _=>(findI nm σ.own).isSome=false) (fun w hw=>scMust_any _ _ w) ?_ ?_
   ·
    intro _ hp
    refine Ep ?_
    refine Ep ?_
    refine Epp fun w' hw=>?_
    exact .inr ⟨(),rfl,hw.fr,by rw [find_own hk,itemN_none hp]; rfl⟩
   intro _ hm37
   refine Ln (Et (Cs ?_))
   refine WC.draws1 1 [(0,true),(1,true),(2,false)] mixed (by kernel_rfl) (fun _ _ _ d _ h=>by cases d<;>exact h) ?_
   refine Dq rfl (.inl rfl) rfl (fun _ h=>by have h:=Ws.out 1 h; exact h) (Yda 0 rfl rfl ag55 rfl) ?_
   refine Dq rfl (.inl rfl) rfl (fun _ h=>by have h:=Ws.out 1 h; exact h) (Ya rfl) ?_
   refine De rfl (fun _ h=>by have h:=Ws.out 1 h; exact h) ?_
   refine Lst 1 (.inl rfl) rfl rfl rfl sz55 rfl rfl rfl ?_
   refine Ln (Ed ?_)
   refine WD.nil (fun _ h=>by have h:=Ws.out 1 h; exact h) ?_
   refine Et (Crt (Er ?_))
   refine WE.retR (rs_2 rfl (rv_tmp rfl) (rv_agg 1 rfl rfl ag55 rfl)) fun w' hw=>?_
   exact .inl ⟨(0,itemN nm σ.own),rfl,hw.fr,by rw [find_own hk,itemN_some hm37]; rfl⟩
 ·
  have hmod:¬mod=[]:=by simpa using hc0
  refine Ck (Et (Cs (Cr ?_)))
  refine V0 (Ym rfl) ?_
  refine V0 (yl_nil rfl) ?_
  refine V0 (Yf fo82_1 rfl) ?_
  refine V0 (yl_ld 0 na79 rfl rfl (h1)) ?_
  refine V0 (Ym rfl) ?_
  refine V0 (yl_glookv 0 rfl keyStr um79 us9 zr3 rfl rfl (hub)) ?_
  rw [posN_get]
  refine V0 (Ya rfl) ?_
  refine Ln (Et (Cs (Cr ?_)))
  refine V0 (Ym rfl) ?_
  refine V0 (yl_gt rfl rfl) ?_
  refine WL.callpx (ι:=Unit) (κ:=Unit) (.inl rfl) rfl en33 rfl (fun _=>.tuple #[]) (fun _=>decide (0<posN mod σ.uses)=true) (fun _=>refd 5) (fun _=>decide (0<posN mod σ.uses)=false) (fun w hw=>scMust_any _ _ w) ?_ ?_
  ·
   intro _ hp
   refine Ep ?_
   refine Epp fun w' hw=>?_
   exact .inr ⟨(),rfl,hw.fr,find_no hmod (posN_no (by simpa using hp))⟩
  intro _ hm47
  obtain ⟨k,hk,hk2,hk3⟩:=posN_pos (nm:=mod) (l:=σ.uses) (by simpa using hm47)
  obtain ⟨f,hf⟩:∃f,σ.faces[k]? = some f:=⟨_,List.getElem?_eq_getElem (by omega)⟩
  obtain ⟨pb,po,ha,tb,htb,htm⟩:=hfs.elt k f hf
  have hfc:=hfs.cap
  have hfm:=hfs.max
  refine Ln (Et (Cs (Cr ?_)))
  refine V0 (Ym rfl) ?_
  refine V0 (yl_nil rfl) ?_
  refine V0 (Yf fo82_2 rfl) ?_
  refine V0 (yl_ld 0 na80 rfl rfl (h2)) ?_
  refine V0 (Ym rfl) ?_
  refine V0 (yl_subv (k:Int) rfl rfl (by rw [hk2]; omega) (by omega)) ?_
  refine V0 (Yo es80 rfl rfl ha (by omega)) ?_
  refine V0 (yl_ld 0 na77 rfl rfl (htb)) ?_
  refine V0 (Ym rfl) ?_
  refine V0 (yl_glook2v 0 rfl keyStr um77 us9 zr55 rfl rfl (htm)) ?_
  rw [itemN_get,itemN_has]
  refine V0 (Ym rfl) ?_
  refine V0 (Yx rfl rfl) ?_
  refine V0 (Yx rfl rfl) ?_
  refine WL.alloc (.inl rfl) rfl zr55 fun b12=>?_
  refine Lst 0 (.inl rfl) rfl rfl rfl sz55 rfl rfl rfl ?_
  refine V0 (Ya rfl) ?_
  refine Ln (Et (Cs (Cr ?_)))
  refine V0 (Ym rfl) ?_
  refine WL.callpx (ι:=Unit) (κ:=Unit) (.inl rfl) rfl en33 rfl (fun _=>.tuple #[]) (fun _=>(findI nm f).isSome=true) (fun _=>refd 5) (fun _=>(findI nm f).isSome=false) (fun w hw=>scMust_any _ _ w) ?_ ?_
  ·
   intro _ hp
   refine Ep ?_
   refine Epp fun w' hw=>?_
   exact .inr ⟨(),rfl,hw.fr,by rw [find_use hmod hnd hlen hk hf,itemN_none hp]; rfl⟩
  intro _ hm62
  refine Ln (Et (Cs ?_))
  refine WC.draws1 1 [(0,true),(1,true),(2,true),(3,false)] mixed (by kernel_rfl) (fun _ _ _ d _ h=>by cases d<;>exact h) ?_
  refine Dq rfl (.inl rfl) rfl (fun _ h=>by have h:=Ws.out 1 h; exact h) (Ym rfl) ?_
  refine Dq rfl (.inl rfl) rfl (fun _ h=>by have h:=Ws.out 1 h; exact h) (Yda 0 rfl rfl ag55 rfl) ?_
  refine Dq rfl (.inl rfl) rfl (fun _ h=>by have h:=Ws.out 1 h; exact h) (Ya rfl) ?_
  refine De rfl (fun _ h=>by have h:=Ws.out 1 h; exact h) ?_
  refine Lst 1 (.inl rfl) rfl rfl rfl sz55 rfl rfl rfl ?_
  refine Ln (Ed ?_)
  refine WD.nil (fun _ h=>by have h:=Ws.out 1 h; exact h) ?_
  refine Et (Crt ?_)
  refine WE.retR (rs_2 rfl (rv_tmp rfl) (rv_agg 1 rfl rfl ag55 rfl)) fun w' hw=>?_
  rw [hk2] at *
  exact .inl ⟨(((k+1:Nat):Int),itemN nm f),rfl,hw.fr,by rw [find_use hmod hnd hlen hk hf,itemN_some hm62]; rfl⟩
end Go.Proofs.YtinnlppbkhhoiaaGreatDoor
end
section
namespace Go.Proofs.YtinnlppbkhhoiaaGreatDoor
open Go.Bw
set_option linter.unusedVariables false
set_option linter.unusedSimpArgs false
theorem resE_3 {σ:Scp} {n m:Int} {it:FItem} {mod nm:List UInt8} {len:Nat} (h:findT σ mod nm=some (m,it)):resE σ 3 n mod nm len=if m = -1 then ⟨16,n,0,it.pl,0⟩ else if it.kind=1 then ⟨1,it.n,0,0,0⟩ else if it.kind=2 then ⟨3,n,m,it.pl,0⟩ else ⟨3,n,0,0,7⟩:=by
 unfold resE
 rw [if_pos (by decide),h]
 simp
theorem resE_no {σ:Scp} {op n:Int} {mod nm:List UInt8} {len:Nat} (ho:op=3∨op=4∨op=5) (h:findT σ mod nm=none):resE σ op n mod nm len=⟨op,n,0,0,5⟩:=by
 unfold resE
 rw [if_pos (by unfold within_; simp; omega),h]
theorem resE_0 {σ:Scp} {op n:Int} {mod nm:List UInt8} {len:Nat} (h3:¬op=3) (h4:¬op=4) (h5:¬op=5):resE σ op n mod nm len=⟨op,n,0,0,0⟩:=by
 unfold resE
 rw [if_neg (by unfold within_; simp; omega)]
theorem resE_4e {σ:Scp} {n:Int} {mod nm:List UInt8} {len:Nat} (h:plErr σ mod nm 3 0≠0):(resE σ 4 n mod nm len).e=plErr σ mod nm 3 0:=by
 cases hf:findT σ mod nm with
 | none=>rw [resE_no (by simp) hf,pl_none hf]
 | some i=>
   obtain ⟨m,it⟩:=i
   have hm:=findT_m hf
   rw [pl_some hf] at h ⊢
   unfold resE
   rw [if_pos (by decide),hf]
   by_cases h1:m = -1
   · simp [h1]
   · by_cases h2:it.kind=3
     · exact absurd (by rw [if_neg (by omega),if_neg (by omega)]) h
     · simp [h1,h2]
theorem resE_4 {σ:Scp} {n m:Int} {it:FItem} {mod nm:List UInt8} {len:Nat} (hf:findT σ mod nm=some (m,it)) (h:plErr σ mod nm 3 0=0):resE σ 4 n mod nm len=⟨4,it.n,m,it.pl,0⟩:=by
 rw [pl_some hf] at h
 have hm:=findT_m hf
 have h1:0≤m∧it.kind=3:=by
   by_cases hc:0≤m∧it.kind=3
   · exact hc
   · rw [if_pos hc] at h; cases h
 unfold resE
 rw [if_pos (by decide),hf]
 simp [h1.2,show ¬m = -1 by omega]
theorem resE_5e {σ:Scp} {n:Int} {mod nm:List UInt8} {len:Nat} (h:plErr σ mod nm 4 (len:Int)≠0):(resE σ 5 n mod nm len).e=plErr σ mod nm 4 (len:Int):=by
 cases hf:findT σ mod nm with
 | none=>rw [resE_no (by simp) hf,pl_none hf]
 | some i=>
   obtain ⟨m,it⟩:=i
   have hm:=findT_m hf
   rw [pl_some hf] at h ⊢
   unfold resE
   rw [if_pos (by decide),hf]
   by_cases h1:m = -1
   · simp [h1]
   · by_cases h2:it.kind=4
     · by_cases h3:it.n=(len:Int)
       · exact absurd (by rw [if_neg (by omega),if_neg (by omega)]) h
       · simp [h1,h2,h3,show 0≤m by omega]
     · simp [h1,h2]
theorem resE_5 {σ:Scp} {n m:Int} {it:FItem} {mod nm:List UInt8} {len:Nat} (hf:findT σ mod nm=some (m,it)) (h:plErr σ mod nm 4 (len:Int)=0):resE σ 5 n mod nm len=⟨5,n,m,it.pl,0⟩:=by
 rw [pl_some hf] at h
 have hm:=findT_m hf
 have h1:0≤m∧it.kind=4:=by
   by_cases hc:0≤m∧it.kind=4
   · exact hc
   · rw [if_pos hc] at h; cases h
 have h2:it.n=(len:Int):=by
   rw [if_neg (fun hc=>hc h1)] at h
   by_cases hc:it.n=(len:Int)
   · exact hc
   · rw [if_pos ⟨rfl,hc⟩] at h; cases h
 unfold resE
 rw [if_pos (by decide),hf]
 simp [h1.2,h2,show ¬m = -1 by omega]
theorem resS_no {σ:Scp} {op:Int} {mod nm:List UInt8} {len:Nat} (ho:op=1∨op=2∨op=3) (h:findT σ mod nm=none):resS σ op mod nm len=⟨op,0,0,0,5⟩:=by
 unfold resS
 rw [if_pos (by unfold within_; simp; omega),h]
theorem resS_0 {σ:Scp} {op:Int} {mod nm:List UInt8} {len:Nat} (h1:¬op=1) (h2:¬op=2) (h3:¬op=3):resS σ op mod nm len=⟨op,0,0,0,0⟩:=by
 unfold resS
 rw [if_neg (by unfold within_; simp; omega)]
theorem resS_1 {σ:Scp} {m:Int} {it:FItem} {mod nm:List UInt8} {len:Nat} (h:findT σ mod nm=some (m,it)):resS σ 1 mod nm len=if m = -1∨it.kind=2 then ⟨1,0,m,it.pl,0⟩ else ⟨1,0,0,0,7⟩:=by
 unfold resS
 rw [if_pos (by decide),h]
 by_cases h1:m = -1∨it.kind=2
 · simp [h1]
 · simp [h1,show ¬m = -1 from fun e=>h1 (.inl e)]
theorem resS_2e {σ:Scp} {mod nm:List UInt8} {len:Nat} (h:plErr σ mod nm 3 0≠0):(resS σ 2 mod nm len).e=plErr σ mod nm 3 0:=by
 cases hf:findT σ mod nm with
 | none=>rw [resS_no (by simp) hf,pl_none hf]
 | some i=>
   obtain ⟨m,it⟩:=i
   have hm:=findT_m hf
   rw [pl_some hf] at h ⊢
   unfold resS
   rw [if_pos (by decide),hf]
   by_cases h1:m = -1
   · simp [h1]
   · by_cases h2:it.kind=3
     · exact absurd (by rw [if_neg (by omega),if_neg (by omega)]) h
     · simp [h1,h2]
theorem resS_2 {σ:Scp} {m:Int} {it:FItem} {mod nm:List UInt8} {len:Nat} (hf:findT σ mod nm=some (m,it)) (h:plErr σ mod nm 3 0=0):resS σ 2 mod nm len=⟨2,it.n,m,it.pl,0⟩:=by
 rw [pl_some hf] at h
 have hm:=findT_m hf
 have h1:0≤m∧it.kind=3:=by
   by_cases hc:0≤m∧it.kind=3
   · exact hc
   · rw [if_pos hc] at h; cases h
 unfold resS
 rw [if_pos (by decide),hf]
 simp [h1.2,show ¬m = -1 by omega]
theorem resS_3e {σ:Scp} {mod nm:List UInt8} {len:Nat} (h:plErr σ mod nm 4 (len:Int)≠0):(resS σ 3 mod nm len).e=plErr σ mod nm 4 (len:Int):=by
 cases hf:findT σ mod nm with
 | none=>rw [resS_no (by simp) hf,pl_none hf]
 | some i=>
   obtain ⟨m,it⟩:=i
   have hm:=findT_m hf
   rw [pl_some hf] at h ⊢
   unfold resS
   rw [if_pos (by decide),hf]
   by_cases h1:m = -1
   · simp [h1]
   · by_cases h2:it.kind=4
     · by_cases h3:it.n=(len:Int)
       · exact absurd (by rw [if_neg (by omega),if_neg (by omega)]) h
       · simp [h1,h2,h3,show 0≤m by omega]
     · simp [h1,h2]
theorem resS_3 {σ:Scp} {m:Int} {it:FItem} {mod nm:List UInt8} {len:Nat} (hf:findT σ mod nm=some (m,it)) (h:plErr σ mod nm 4 (len:Int)=0):resS σ 3 mod nm len=⟨3,0,m,it.pl,0⟩:=by
 rw [pl_some hf] at h
 have hm:=findT_m hf
 have h1:0≤m∧it.kind=4:=by
   by_cases hc:0≤m∧it.kind=4
   · exact hc
   · rw [if_pos hc] at h; cases h
 have h2:it.n=(len:Int):=by
   rw [if_neg (fun hc=>hc h1)] at h
   by_cases hc:it.n=(len:Int)
   · exact hc
   · rw [if_pos ⟨rfl,hc⟩] at h; cases h
 unfold resS
 rw [if_pos (by decide),hf]
 simp [h1.2,h2,show ¬m = -1 by omega]
structure GX (X:Type) where
 i:Nat
 es:List X
 a:Option Addr
 c:Nat
 J:View
theorem en74:Enters Tryz.prog 74:=enters_of Tryz.func74 (by kernel_rfl) rfl
theorem zr158:zeroOf Tryz.prog 158=some (.agg #[.int .i64 0,.int .i64 0,.int .i64 0,.int .i64 0,.slice none 0 0]):=by kernel_rfl
theorem pl158:placesP Tryz.prog 158=some [(0,1),(1,1),(2,1),(3,1),(4,1)]:=by kernel_rfl
theorem sz158:sizeP Tryz.prog 158=some 5:=by kernel_rfl
theorem fo158_0:fieldOff Tryz.prog 158 0=some 0:=by kernel_rfl
theorem fo158_3:fieldOff Tryz.prog 158 3=some 3:=by kernel_rfl
theorem fo158_1:fieldOff Tryz.prog 158 1=some 1:=by kernel_rfl
theorem fo158_2:fieldOff Tryz.prog 158 2=some 2:=by kernel_rfl
theorem en75:Enters Tryz.prog 75:=enters_of Tryz.func75 (by kernel_rfl) rfl
theorem en76:Enters Tryz.prog 76:=enters_of Tryz.func76 (by kernel_rfl) rfl
theorem fo158_4:fieldOff Tryz.prog 158 4=some 4:=by kernel_rfl
theorem sz66:sizeP Tryz.prog 66=some 1:=by kernel_rfl
theorem ag158:aggOf Tryz.prog 158=some 5:=by kernel_rfl
theorem scPlace_any (HS:View) (sb:Nat) (σ:Scp) (w:World) (hHS:Le HS w) (hS:Slv HS sb σ) (mod nm:List UInt8) (kind args:Int) :
   Calls Tryz.prog 75 #[.pointer (some ⟨sb,0,none⟩),st mod,st nm,.int .i64 kind,.int .i64 args] w fun e w'=>(∃i:Int×FItem,e = .returned (.tuple #[.int .i64 i.1,.agg i.2.cells.toArray])∧Ext w w'∧findT σ mod nm=some i∧plErr σ mod nm kind args=0)∨(∃_:Unit,e = .panicked (refd (plErr σ mod nm kind args))∧Ext w w'∧plErr σ mod nm kind args≠0):=by
 refine enter Tryz.func75 rfl 41 rfl rfl ?_
 refine CWd (W':=Ws w [] [] [HS]) (fun _ e=>by subst e; exact Ws.init (by simp [hHS])) ?_
 refine Cs (Cr ?_)
 refine V0 (Ya rfl) ?_
 refine WL.alloc (.inl rfl) rfl zr55 fun b11=>?_
 refine Ln (Et (Cs (Cr ?_)))
 refine V0 (Ym rfl) ?_
 refine V0 (Ym rfl) ?_
 refine V0 (Ym rfl) ?_
 refine WL.callpx (ι:=Int×FItem) (κ:=Unit) (.inl rfl) rfl en74 rfl (fun i=>.tuple #[.int .i64 i.1,.agg i.2.cells.toArray]) (fun i=>findT σ mod nm=some i) (fun _=>refd 5) (fun _=>findT σ mod nm=none) (fun w hw=>scFind_any HS sb σ w (hw.vs _ (by simp)) hS mod nm) ?_ ?_
 ·
  intro _ hp
  refine Ep ?_
  refine Epp fun w' hw=>?_
  rw [pl_none hp]
  exact .inr ⟨(),rfl,hw.fr,by decide⟩
 intro ⟨m18,it18⟩ hf18
 have hs18:=pl_some (kind:=kind) (args:=args) hf18
 refine V0 (Ym rfl) ?_
 refine V0 (Yx rfl rfl) ?_
 refine V0 (Yx rfl rfl) ?_
 refine WL.alloc (.inl rfl) rfl zr55 fun b13=>?_
 refine V0 (Ya rfl) ?_
 refine Lst 0 (.inl rfl) rfl rfl rfl sz55 rfl rfl rfl ?_
 refine Ln (Et (Cs (Cr ?_)))
 refine V0 (Ym rfl) ?_
 refine V0 (yl_ge rfl rfl) ?_
 refine V0 (Ym rfl) ?_
 apply WL.and 4 rfl rfl rfl rfl (.inl rfl) rfl rfl rfl rfl rfl
 ·
  intro hg0
  refine Lv (.g rfl rfl rfl) rfl (Yf fo55_0 rfl) ?_
  refine Lv (.g rfl rfl rfl) rfl (Yd 0 rfl rfl rfl na3) ?_
  refine Lv (.g rfl rfl rfl) rfl (Ym rfl) ?_
  refine Lv (.g rfl rfl rfl) rfl (yl_eq rfl rfl) ?_
  exact Gt 4 rfl rfl rfl
 refine WL.callpx (ι:=Unit) (κ:=Unit) (.inl rfl) rfl en33 rfl (fun _=>.tuple #[]) (fun _=>_=true) (fun _=>refd _) (fun _=>_=false) (fun w hw=>scMust_any _ _ w) ?_ ?_
 ·
  intro _ hp
  refine Ep ?_
  refine Epp fun w' hw=>?_
  have h7:¬(0≤m18∧it18.kind=kind):=by rintro ⟨h1,h2⟩; simp [h1,h2] at hp
  rw [if_pos h7] at hs18
  rw [hs18]
  exact .inr ⟨(),rfl,hw.fr,by decide⟩
 intro _ hm29
 have h7:0≤m18∧it18.kind=kind:=by simpa using hm29
 rw [if_neg (fun hc=>hc h7)] at hs18
 refine Ln (Et (Cs (Cr ?_)))
 refine V0 (Ym rfl) ?_
 refine V0 (yl_ne rfl rfl) ?_
 refine V0 (Ym rfl) ?_
 apply WL.or 4 rfl rfl rfl rfl (.inl rfl) rfl rfl rfl rfl rfl
 ·
  intro hg1
  refine Lv (.g rfl rfl rfl) rfl (Yf fo55_1 rfl) ?_
  refine Lv (.g rfl rfl rfl) rfl (Yd 0 rfl rfl rfl na3) ?_
  refine Lv (.g rfl rfl rfl) rfl (Ym rfl) ?_
  refine Lv (.g rfl rfl rfl) rfl (yl_eq rfl rfl) ?_
  exact Gt 4 rfl rfl rfl
 refine WL.callpx (ι:=Unit) (κ:=Unit) (.inl rfl) rfl en33 rfl (fun _=>.tuple #[]) (fun _=>_=true) (fun _=>refd _) (fun _=>_=false) (fun w hw=>scMust_any _ _ w) ?_ ?_
 ·
  intro _ hp
  refine Ep ?_
  refine Epp fun w' hw=>?_
  have h8:kind=4∧¬it18.n=args:=by simpa using hp
  rw [if_pos h8] at hs18
  rw [hs18]
  exact .inr ⟨(),rfl,hw.fr,by decide⟩
 intro _ hm38
 refine Ln (Et (Cs ?_))
 refine WC.draws1 1 [(0,true),(1,true),(2,true),(3,false)] mixed (by kernel_rfl) (fun _ _ _ d _ h=>by cases d<;>exact h) ?_
 refine Dq rfl (.inl rfl) rfl (fun _ h=>by have h:=Ws.out 1 h; exact h) (Ym rfl) ?_
 refine Dq rfl (.inl rfl) rfl (fun _ h=>by have h:=Ws.out 1 h; exact h) (Yda 0 rfl rfl ag55 rfl) ?_
 refine Dq rfl (.inl rfl) rfl (fun _ h=>by have h:=Ws.out 1 h; exact h) (Ya rfl) ?_
 refine De rfl (fun _ h=>by have h:=Ws.out 1 h; exact h) ?_
 refine Lst 1 (.inl rfl) rfl rfl rfl sz55 rfl rfl rfl ?_
 refine Ln (Ed ?_)
 refine WD.nil (fun _ h=>by have h:=Ws.out 1 h; exact h) ?_
 refine Et (Crt ?_)
 refine WE.retR (rs_2 rfl (rv_tmp rfl) (rv_agg 1 rfl rfl ag55 rfl)) fun w' hw=>?_
 have h8:¬(kind=4∧¬it18.n=args):=by rintro ⟨h1,h2⟩; simp [h1,h2] at hm38
 rw [if_neg h8] at hs18
 exact .inl ⟨(m18,it18),rfl,hw.fr,hf18,hs18⟩
theorem scNode_any (HS HE:View) (sb:Nat) (σ:Scp) (k:Nat) (x:TExpr) (a:Option Addr) (c:Nat) (w:World) (hHS:Le HS w) (hHE:Le HE w) (hS:Slv HS sb σ) (hN:ScNodes HS sb σ k) (hm:Sl (RdE k) 5 HE a c x.args) (hwt:wE x≤109951162777) :
   Calls Tryz.prog 92 #[.pointer (some ⟨sb,0,none⟩),.agg (exprV x a c).toArray] w fun e w'=>(∃r:SP,e = .returned (.agg (nodeV (nodeT σ x) r.1 r.2).toArray)∧Ext w w'∧errE σ x=0∧SlN (k+1) (nv w w') (nodeT σ x,r))∨(∃_:Unit,e = .panicked (refd (errE σ x))∧Ext w w'∧errE σ x≠0):=by
 have hwe:=wE_eq x
 have hcap:=hm.cap
 have hmax:=hm.max
 refine enter Tryz.func92 rfl 98 rfl rfl ?_
 refine CWd (W':=Ws w [] [] [HE,HS]) (fun _ e=>by subst e; exact Ws.init (by simp [hHE,hHS])) ?_
 refine Cs (Cr ?_)
 refine WL.box (.inl rfl) rfl rfl fun b3=>?_
 refine WL.alloc (.inl rfl) rfl zr158 fun b4=>?_
 refine Ln (Et (Cs (Cr ?_)))
 refine V0 (Yf fo116_0 rfl) ?_
 refine V0 (Yd 1 rfl rfl rfl na3) ?_
 refine V0 (Yf fo116_1 rfl) ?_
 refine V0 (Yd 1 rfl rfl rfl na3) ?_
 refine V0 (Yb zr158 pl158 rfl rfl) ?_
 refine WL.alloc (.inl rfl) rfl zr158 fun b5=>?_
 refine Lst 0 (.inl rfl) rfl rfl rfl sz158 rfl rfl rfl ?_
 refine Ln (Et ?_)
 refine WC.cutE (ι:=Unit) (fun _u=>[(0,.pointer (some ⟨sb,0,none⟩)),(3,.pointer (some ⟨b3,0,none⟩)),(4,.pointer (some ⟨b4,0,none⟩)),(5,.pointer (some ⟨b5,0,none⟩))]) (fun _u=>Ws w [] [blk b5 (.cells #[.int .i64 (resE σ x.op x.n x.mod x.nm x.args.length).op,.int .i64 (resE σ x.op x.n x.mod x.nm x.args.length).n,.int .i64 (resE σ x.op x.n x.mod x.nm x.args.length).m,.int .i64 (resE σ x.op x.n x.mod x.nm x.args.length).pl,.slice none 0 0] 158 (0,0)),blk b4 (.cells #[.int .i64 0,.int .i64 0,.int .i64 0,.int .i64 0,.slice none 0 0] 158 (0,0)),blk b3 (.cells (exprV x a c).toArray 116 (0,0))] [HE,HS]) (fun _u=>(resE σ x.op x.n x.mod x.nm x.args.length).e=0) ?_ ?_
 ·
  refine Cs (Cr ?_)
  refine V0 (Yf fo116_0 rfl) ?_
  refine V0 (Yd 2 rfl rfl rfl na3) ?_
  refine Ln (Et (Cb (Cs (Cr ?_))))
  refine V0 (yl_eq rfl rfl) ?_
  refine V0 (Ya rfl) ?_
  refine Ln (Et ?_)
  refine Cc rfl (fun hc0=>?_) (fun hc0=>?_)
  ·
   have hop:x.op=3:=by simpa using hc0
   refine Cs (Cr ?_)
   refine V0 (Ym rfl) ?_
   refine V0 (Yf fo116_2 rfl) ?_
   refine V0 (Yd 2 rfl rfl rfl na9) ?_
   refine V0 (Yf fo116_3 rfl) ?_
   refine V0 (Yd 2 rfl rfl rfl na9) ?_
   refine WL.callpx (ι:=Int×FItem) (κ:=Unit) (.inl rfl) rfl en74 rfl (fun i=>.tuple #[.int .i64 i.1,.agg i.2.cells.toArray]) (fun i=>findT σ x.mod x.nm=some i) (fun _=>refd 5) (fun _=>findT σ x.mod x.nm=none) (fun w hw=>scFind_any HS sb σ w (hw.vs _ (by simp)) hS x.mod x.nm) ?_ ?_
   ·
    intro _ hp
    refine Ep ?_
    refine WE.block_panic ?_
    refine Ep ?_
    refine Epp fun w' hw=>?_
    have he:errE σ x=5:=by rw [errE_eq,resE_no (by omega) hp]; rfl
    rw [he]
    exact .inr ⟨(),rfl,hw.fr,by decide⟩
   intro ⟨m27,it27⟩ hf27
   have hr3:=resE_3 (n:=x.n) (len:=x.args.length) hf27
   have hmm:=findT_m hf27
   rw [←hop] at hr3
   refine V0 (Ym rfl) ?_
   refine V0 (Yx rfl rfl) ?_
   refine V0 (Yx rfl rfl) ?_
   refine WL.alloc (.inl rfl) rfl zr55 fun b7=>?_
   refine V0 (Ya rfl) ?_
   refine Lst 0 (.inl rfl) rfl rfl rfl sz55 rfl rfl rfl ?_
   refine Ln (Et (Cb (Cs (Cr ?_))))
   refine V0 (Ym rfl) ?_
   refine V0 (yl_lt rfl rfl) ?_
   refine V0 (Ya rfl) ?_
   refine Ln (Et ?_)
   refine Cc rfl (fun hc1=>?_) (fun hc1=>?_)
   ·
    have hneg:m27 = -1:=by simp at hc1; omega
    have hres:(resE σ x.op x.n x.mod x.nm x.args.length)=⟨16,x.n,0,it27.pl,0⟩:=by rw [hr3,if_pos hneg]
    refine WC.draws1 1 [(0,true),(1,true),(2,true),(3,false),(4,false),(5,false)] mixed (by kernel_rfl) (fun _ _ _ d _ h=>by cases d<;>exact h) ?_
    refine Dq rfl (.inl rfl) rfl (fun _ h=>by have h:=Ws.out 1 h; exact h) (Yf fo55_2 rfl) ?_
    refine Dq rfl (.inl rfl) rfl (fun _ h=>by have h:=Ws.out 1 h; exact h) (Yd 0 rfl rfl rfl na3) ?_
    refine Dq rfl (.inl rfl) rfl (fun _ h=>by have h:=Ws.out 1 h; exact h) (Yf fo158_0 rfl) ?_
    refine De rfl (fun _ h=>by have h:=Ws.out 1 h; exact h) ?_
    refine Lst 1 (.inl rfl) rfl rfl rfl sz3 rfl rfl rfl ?_
    refine Ln (Ed ?_)
    refine De rfl (fun _ h=>by have h:=Ws.out 1 h; exact h) ?_
    refine V0 (Yf fo158_3 rfl) ?_
    refine Ln (Ed ?_)
    refine De rfl (fun _ h=>by have h:=Ws.out 1 h; exact h) ?_
    refine Lst 1 (.inl rfl) rfl rfl rfl sz3 rfl rfl rfl ?_
    refine Ln (Ed ?_)
    refine WD.nil (fun _ h=>by have h:=Ws.out 1 h; exact h) ?_
    refine Eb (Eb ?_)
    refine WE.reblk 1 (.cells #[.int .i64 (resE σ x.op x.n x.mod x.nm x.args.length).op,.int .i64 (resE σ x.op x.n x.mod x.nm x.args.length).n,.int .i64 (resE σ x.op x.n x.mod x.nm x.args.length).m,.int .i64 (resE σ x.op x.n x.mod x.nm x.args.length).pl,.slice none 0 0] 158 (0,0)) rfl (by rw [hres]; rfl) ?_
    exact WE.meetE () (by rw [hres]) (sc rfl (sc rfl (sc rfl (sc rfl sn)))) (fun _ h=>by
      have h:=h.fronti 3 rfl
      have h:=h.fronti 3 rfl
      have h:=h.fronti 3 rfl
      have h:=Ws.keep (L:=[_,_,_]) h
      exact h)
   ·
    have hneg:¬m27 = -1:=by simp at hc1; omega
    rw [if_neg hneg] at hr3
    refine Cs (Cr ?_)
    refine V0 (Yf fo55_0 rfl) ?_
    refine V0 (Yd 0 rfl rfl rfl na3) ?_
    refine V0 (yl_eq rfl rfl) ?_
    refine V0 (Ya rfl) ?_
    refine Ln (Et ?_)
    refine Cc rfl (fun hc2=>?_) (fun hc2=>?_)
    ·
     have hk1:it27.kind=1:=by simpa using hc2
     have hres:(resE σ x.op x.n x.mod x.nm x.args.length)=⟨1,it27.n,0,0,0⟩:=by rw [hr3,if_pos hk1]
     refine WC.draws1 1 [(0,true),(1,true),(2,true),(3,false),(4,false),(5,false)] mixed (by kernel_rfl) (fun _ _ _ d _ h=>by cases d<;>exact h) ?_
     refine Dq rfl (.inl rfl) rfl (fun _ h=>by have h:=Ws.out 1 h; exact h) (Yf fo55_1 rfl) ?_
     refine Dq rfl (.inl rfl) rfl (fun _ h=>by have h:=Ws.out 1 h; exact h) (Yd 0 rfl rfl rfl na3) ?_
     refine Dq rfl (.inl rfl) rfl (fun _ h=>by have h:=Ws.out 1 h; exact h) (Yf fo158_0 rfl) ?_
     refine De rfl (fun _ h=>by have h:=Ws.out 1 h; exact h) ?_
     refine Lst 1 (.inl rfl) rfl rfl rfl sz3 rfl rfl rfl ?_
     refine Ln (Ed ?_)
     refine De rfl (fun _ h=>by have h:=Ws.out 1 h; exact h) ?_
     refine V0 (Yf fo158_1 rfl) ?_
     refine Ln (Ed ?_)
     refine De rfl (fun _ h=>by have h:=Ws.out 1 h; exact h) ?_
     refine Lst 1 (.inl rfl) rfl rfl rfl sz3 rfl rfl rfl ?_
     refine Ln (Ed ?_)
     refine WD.nil (fun _ h=>by have h:=Ws.out 1 h; exact h) ?_
     refine Eb (Eb ?_)
     refine WE.reblk 1 (.cells #[.int .i64 (resE σ x.op x.n x.mod x.nm x.args.length).op,.int .i64 (resE σ x.op x.n x.mod x.nm x.args.length).n,.int .i64 (resE σ x.op x.n x.mod x.nm x.args.length).m,.int .i64 (resE σ x.op x.n x.mod x.nm x.args.length).pl,.slice none 0 0] 158 (0,0)) rfl (by rw [hres]; rfl) ?_
     exact WE.meetE () (by rw [hres]) (sc rfl (sc rfl (sc rfl (sc rfl sn)))) (fun _ h=>by
       have h:=h.fronti 3 rfl
       have h:=h.fronti 3 rfl
       have h:=h.fronti 3 rfl
       have h:=Ws.keep (L:=[_,_,_]) h
       exact h)
    ·
     have hk1:¬it27.kind=1:=by simpa using hc2
     rw [if_neg hk1] at hr3
     refine Cs (Cr ?_)
     refine V0 (Yf fo55_0 rfl) ?_
     refine V0 (Yd 0 rfl rfl rfl na3) ?_
     refine V0 (yl_eq rfl rfl) ?_
     refine WL.callpx (ι:=Unit) (κ:=Unit) (.inl rfl) rfl en33 rfl (fun _=>.tuple #[]) (fun _=>_=true) (fun _=>refd _) (fun _=>_=false) (fun w hw=>scMust_any _ _ w) ?_ ?_
     ·
      intro _ hp
      refine Ep ?_
      refine WE.block_panic ?_
      refine WE.block_panic ?_
      refine Ep ?_
      refine Epp fun w' hw=>?_
      have hk2:¬it27.kind=2:=by simpa using hp
      rw [if_neg hk2] at hr3
      have he:errE σ x=7:=by rw [errE_eq,hr3]; rfl
      rw [he]
      exact .inr ⟨(),rfl,hw.fr,by decide⟩
     intro _ hm33
     have hk2:it27.kind=2:=by simpa using hm33
     have hres:(resE σ x.op x.n x.mod x.nm x.args.length)=⟨x.op,x.n,m27,it27.pl,0⟩:=by rw [hr3,if_pos hk2,hop]
     refine Ln (Et ?_)
     refine WC.draws1 1 [(0,true),(1,true),(2,true),(3,true),(4,false),(5,false),(6,false)] mixed (by kernel_rfl) (fun _ _ _ d _ h=>by cases d<;>exact h) ?_
     refine Dq rfl (.inl rfl) rfl (fun _ h=>by have h:=Ws.out 1 h; exact h) (Ym rfl) ?_
     refine Dq rfl (.inl rfl) rfl (fun _ h=>by have h:=Ws.out 1 h; exact h) (Yf fo55_2 rfl) ?_
     refine Dq rfl (.inl rfl) rfl (fun _ h=>by have h:=Ws.out 1 h; exact h) (Yd 0 rfl rfl rfl na3) ?_
     refine Dq rfl (.inl rfl) rfl (fun _ h=>by have h:=Ws.out 1 h; exact h) (Yf fo158_2 rfl) ?_
     refine De rfl (fun _ h=>by have h:=Ws.out 1 h; exact h) ?_
     refine Lst 1 (.inl rfl) rfl rfl rfl sz3 rfl rfl rfl ?_
     refine Ln (Ed ?_)
     refine De rfl (fun _ h=>by have h:=Ws.out 1 h; exact h) ?_
     refine V0 (Yf fo158_3 rfl) ?_
     refine Ln (Ed ?_)
     refine De rfl (fun _ h=>by have h:=Ws.out 1 h; exact h) ?_
     refine Lst 1 (.inl rfl) rfl rfl rfl sz3 rfl rfl rfl ?_
     refine Ln (Ed ?_)
     refine WD.nil (fun _ h=>by have h:=Ws.out 1 h; exact h) ?_
     refine Eb (Eb ?_)
     refine WE.reblk 1 (.cells #[.int .i64 (resE σ x.op x.n x.mod x.nm x.args.length).op,.int .i64 (resE σ x.op x.n x.mod x.nm x.args.length).n,.int .i64 (resE σ x.op x.n x.mod x.nm x.args.length).m,.int .i64 (resE σ x.op x.n x.mod x.nm x.args.length).pl,.slice none 0 0] 158 (0,0)) rfl (by rw [hres]; rfl) ?_
     exact WE.meetE () (by rw [hres]) (sc rfl (sc rfl (sc rfl (sc rfl sn)))) (fun _ h=>by
       have h:=h.fronti 3 rfl
       have h:=h.fronti 3 rfl
       have h:=h.fronti 3 rfl
       have h:=Ws.keep (L:=[_,_,_]) h
       exact h)
  ·
   have h3:¬x.op=3:=by simpa using hc0
   refine Cs (Cr ?_)
   refine V0 (yl_eq rfl rfl) ?_
   refine V0 (Ya rfl) ?_
   refine Ln (Et ?_)
   refine Cc rfl (fun hc3=>?_) (fun hc3=>?_)
   ·
    have hop:x.op=4:=by simpa using hc3
    refine Cs (Cr ?_)
    refine V0 (Ym rfl) ?_
    refine V0 (Yf fo116_2 rfl) ?_
    refine V0 (Yd 2 rfl rfl rfl na9) ?_
    refine V0 (Yf fo116_3 rfl) ?_
    refine V0 (Yd 2 rfl rfl rfl na9) ?_
    refine WL.callpx (ι:=Int×FItem) (κ:=Unit) (.inl rfl) rfl en75 rfl (fun i=>.tuple #[.int .i64 i.1,.agg i.2.cells.toArray]) (fun i=>findT σ x.mod x.nm=some i∧plErr σ x.mod x.nm 3 0=0) (fun _=>refd (plErr σ x.mod x.nm 3 0)) (fun _=>plErr σ x.mod x.nm 3 0≠0) (fun w hw=>scPlace_any HS sb σ w (hw.vs _ (by simp)) hS x.mod x.nm 3 0) ?_ ?_
    ·
     intro _ hp
     refine Ep ?_
     refine WE.block_panic ?_
     refine Ep ?_
     refine Epp fun w' hw=>?_
     have he:errE σ x=plErr σ x.mod x.nm 3 0:=by rw [errE_eq,hop,resE_4e hp,er_ne hp]
     rw [he]
     exact .inr ⟨(),rfl,hw.fr,hp⟩
    intro ⟨m62,it62⟩ ⟨hf62,hq62⟩
    have hres:(resE σ x.op x.n x.mod x.nm x.args.length)=⟨x.op,it62.n,m62,it62.pl,0⟩:=by rw [hop]; exact resE_4 hf62 hq62
    refine V0 (Ym rfl) ?_
    refine V0 (Yx rfl rfl) ?_
    refine V0 (Yx rfl rfl) ?_
    refine WL.alloc (.inl rfl) rfl zr55 fun b9=>?_
    refine V0 (Ya rfl) ?_
    refine Lst 0 (.inl rfl) rfl rfl rfl sz55 rfl rfl rfl ?_
    refine Ln (Et ?_)
    refine WC.draws1 1 [(0,true),(1,true),(2,true),(3,true),(4,true),(5,true),(6,false),(7,false),(8,false),(9,false),(10,false)] mixed (by kernel_rfl) (fun _ _ _ d _ h=>by cases d<;>exact h) ?_
    refine Dq rfl (.inl rfl) rfl (fun _ h=>by have h:=Ws.out 1 h; exact h) (Ym rfl) ?_
    refine Dq rfl (.inl rfl) rfl (fun _ h=>by have h:=Ws.out 1 h; exact h) (Yf fo55_2 rfl) ?_
    refine Dq rfl (.inl rfl) rfl (fun _ h=>by have h:=Ws.out 1 h; exact h) (Yd 0 rfl rfl rfl na3) ?_
    refine Dq rfl (.inl rfl) rfl (fun _ h=>by have h:=Ws.out 1 h; exact h) (Yf fo55_1 rfl) ?_
    refine Dq rfl (.inl rfl) rfl (fun _ h=>by have h:=Ws.out 1 h; exact h) (Yd 0 rfl rfl rfl na3) ?_
    refine Dq rfl (.inl rfl) rfl (fun _ h=>by have h:=Ws.out 1 h; exact h) (Yf fo158_2 rfl) ?_
    refine De rfl (fun _ h=>by have h:=Ws.out 1 h; exact h) ?_
    refine Lst 1 (.inl rfl) rfl rfl rfl sz3 rfl rfl rfl ?_
    refine Ln (Ed ?_)
    refine De rfl (fun _ h=>by have h:=Ws.out 1 h; exact h) ?_
    refine V0 (Yf fo158_3 rfl) ?_
    refine Ln (Ed ?_)
    refine De rfl (fun _ h=>by have h:=Ws.out 1 h; exact h) ?_
    refine Lst 1 (.inl rfl) rfl rfl rfl sz3 rfl rfl rfl ?_
    refine Ln (Ed ?_)
    refine De rfl (fun _ h=>by have h:=Ws.out 1 h; exact h) ?_
    refine V0 (Yf fo158_1 rfl) ?_
    refine Ln (Ed ?_)
    refine De rfl (fun _ h=>by have h:=Ws.out 1 h; exact h) ?_
    refine Lst 1 (.inl rfl) rfl rfl rfl sz3 rfl rfl rfl ?_
    refine Ln (Ed ?_)
    refine WD.nil (fun _ h=>by have h:=Ws.out 1 h; exact h) ?_
    refine Eb ?_
    refine WE.reblk 1 (.cells #[.int .i64 (resE σ x.op x.n x.mod x.nm x.args.length).op,.int .i64 (resE σ x.op x.n x.mod x.nm x.args.length).n,.int .i64 (resE σ x.op x.n x.mod x.nm x.args.length).m,.int .i64 (resE σ x.op x.n x.mod x.nm x.args.length).pl,.slice none 0 0] 158 (0,0)) rfl (by rw [hres]; rfl) ?_
    exact WE.meetE () (by rw [hres]) (sc rfl (sc rfl (sc rfl (sc rfl sn)))) (fun _ h=>by
      have h:=h.fronti 3 rfl
      have h:=h.fronti 3 rfl
      have h:=h.fronti 3 rfl
      have h:=Ws.keep (L:=[_,_,_]) h
      exact h)
   ·
    have h4:¬x.op=4:=by simpa using hc3
    refine Cs (Cr ?_)
    refine V0 (yl_eq rfl rfl) ?_
    refine V0 (Ya rfl) ?_
    refine Ln (Et ?_)
    refine Cc rfl (fun hc4=>?_) (fun hc4=>?_)
    ·
     have hop:x.op=5:=by simpa using hc4
     refine Cs (Cr ?_)
     refine V0 (Ym rfl) ?_
     refine V0 (Yf fo116_2 rfl) ?_
     refine V0 (Yd 2 rfl rfl rfl na9) ?_
     refine V0 (Yf fo116_3 rfl) ?_
     refine V0 (Yd 2 rfl rfl rfl na9) ?_
     refine V0 (Yf fo116_4 rfl) ?_
     refine V0 (Yd 2 rfl rfl rfl na114) ?_
     refine V0 (Yn es114 rfl) ?_
     refine WL.callpx (ι:=Int×FItem) (κ:=Unit) (.inl rfl) rfl en75 rfl (fun i=>.tuple #[.int .i64 i.1,.agg i.2.cells.toArray]) (fun i=>findT σ x.mod x.nm=some i∧plErr σ x.mod x.nm 4 (x.args.length:Int)=0) (fun _=>refd (plErr σ x.mod x.nm 4 (x.args.length:Int))) (fun _=>plErr σ x.mod x.nm 4 (x.args.length:Int)≠0) (fun w hw=>scPlace_any HS sb σ w (hw.vs _ (by simp)) hS x.mod x.nm 4 (x.args.length:Int)) ?_ ?_
     ·
      intro _ hp
      refine Ep ?_
      refine WE.block_panic ?_
      refine Ep ?_
      refine Epp fun w' hw=>?_
      have he:errE σ x=plErr σ x.mod x.nm 4 (x.args.length:Int):=by rw [errE_eq,hop,resE_5e hp,er_ne hp]
      rw [he]
      exact .inr ⟨(),rfl,hw.fr,hp⟩
     intro ⟨m84,it84⟩ ⟨hf84,hq84⟩
     have hres:(resE σ x.op x.n x.mod x.nm x.args.length)=⟨x.op,x.n,m84,it84.pl,0⟩:=by rw [hop]; exact resE_5 hf84 hq84
     refine V0 (Ym rfl) ?_
     refine V0 (Yx rfl rfl) ?_
     refine V0 (Yx rfl rfl) ?_
     refine WL.alloc (.inl rfl) rfl zr55 fun b11=>?_
     refine V0 (Ya rfl) ?_
     refine Lst 0 (.inl rfl) rfl rfl rfl sz55 rfl rfl rfl ?_
     refine Ln (Et ?_)
     refine WC.draws1 1 [(0,true),(1,true),(2,true),(3,true),(4,false),(5,false),(6,false)] mixed (by kernel_rfl) (fun _ _ _ d _ h=>by cases d<;>exact h) ?_
     refine Dq rfl (.inl rfl) rfl (fun _ h=>by have h:=Ws.out 1 h; exact h) (Ym rfl) ?_
     refine Dq rfl (.inl rfl) rfl (fun _ h=>by have h:=Ws.out 1 h; exact h) (Yf fo55_2 rfl) ?_
     refine Dq rfl (.inl rfl) rfl (fun _ h=>by have h:=Ws.out 1 h; exact h) (Yd 0 rfl rfl rfl na3) ?_
     refine Dq rfl (.inl rfl) rfl (fun _ h=>by have h:=Ws.out 1 h; exact h) (Yf fo158_2 rfl) ?_
     refine De rfl (fun _ h=>by have h:=Ws.out 1 h; exact h) ?_
     refine Lst 1 (.inl rfl) rfl rfl rfl sz3 rfl rfl rfl ?_
     refine Ln (Ed ?_)
     refine De rfl (fun _ h=>by have h:=Ws.out 1 h; exact h) ?_
     refine V0 (Yf fo158_3 rfl) ?_
     refine Ln (Ed ?_)
     refine De rfl (fun _ h=>by have h:=Ws.out 1 h; exact h) ?_
     refine Lst 1 (.inl rfl) rfl rfl rfl sz3 rfl rfl rfl ?_
     refine Ln (Ed ?_)
     refine WD.nil (fun _ h=>by have h:=Ws.out 1 h; exact h) ?_
     refine Eb ?_
     refine WE.reblk 1 (.cells #[.int .i64 (resE σ x.op x.n x.mod x.nm x.args.length).op,.int .i64 (resE σ x.op x.n x.mod x.nm x.args.length).n,.int .i64 (resE σ x.op x.n x.mod x.nm x.args.length).m,.int .i64 (resE σ x.op x.n x.mod x.nm x.args.length).pl,.slice none 0 0] 158 (0,0)) rfl (by rw [hres]; rfl) ?_
     exact WE.meetE () (by rw [hres]) (sc rfl (sc rfl (sc rfl (sc rfl sn)))) (fun _ h=>by
       have h:=h.fronti 3 rfl
       have h:=h.fronti 3 rfl
       have h:=h.fronti 3 rfl
       have h:=Ws.keep (L:=[_,_,_]) h
       exact h)
    ·
     have h5:¬x.op=5:=by simpa using hc4
     have hres:(resE σ x.op x.n x.mod x.nm x.args.length)=⟨x.op,x.n,0,0,0⟩:=resE_0 h3 h4 h5
     refine Ck (Eb ?_)
     refine WE.reblk 0 (.cells #[.int .i64 (resE σ x.op x.n x.mod x.nm x.args.length).op,.int .i64 (resE σ x.op x.n x.mod x.nm x.args.length).n,.int .i64 (resE σ x.op x.n x.mod x.nm x.args.length).m,.int .i64 (resE σ x.op x.n x.mod x.nm x.args.length).pl,.slice none 0 0] 158 (0,0)) rfl (by rw [hres]; rfl) ?_
     exact WE.meetE () (by rw [hres]) (sc rfl (sc rfl (sc rfl (sc rfl sn)))) (fun _ h=>by
       have h:=h.fronti 2 rfl
       have h:=h.fronti 2 rfl
       have h:=h.fronti 2 rfl
       exact h)
 intro _ hR0
 refine Cs (Cr ?_)
 refine V0 (Ym rfl) ?_
 refine V0 (Yf fo116_4 rfl) ?_
 refine V0 (Yd 2 rfl rfl rfl na114) ?_
 refine WL.calldx (ι:=SP) (κ:=Unit) (.inl rfl) rfl en76 rfl (fun r=>.slice r.1 (nodesT σ x.args).length r.2) (fun F r=>errEs σ x.args=0∧Sl (RdN (k+1)) 5 F r.1 r.2 (nodesT σ x.args)) (fun _=>refd (errEs σ x.args)) (fun _=>errEs σ x.args≠0) (fun w hw=>hN HE x.args a c w (hw.vs _ (by simp)) (hw.vs _ (by simp)) hm (by omega)) ?_ ?_
 ·
  intro _ hp
  refine Ep ?_
  refine Epp fun w' hw=>?_
  have he:errE σ x=errEs σ x.args:=by rw [errE_eq,hR0,er_0]
  rw [he]
  exact .inr ⟨(),rfl,hw.fr,hp⟩
 intro F95 r95 hfr95 ⟨he95,h95⟩
 refine V0 (Yf fo158_4 rfl) ?_
 refine Lst 0 (.inl rfl) rfl rfl rfl sz66 rfl rfl rfl ?_
 refine Ln (Et (Cs (Cr ?_)))
 refine V0 (Yda 0 rfl rfl ag158 rfl) ?_
 refine Lst 1 (.inl rfl) rfl rfl rfl sz158 rfl rfl rfl ?_
 refine Ln (Et (Crt ?_))
 refine WE.retR (rs_1 rfl (rv_agg 1 rfl rfl ag158 rfl)) fun w' hw=>?_
 rw [nodeT_eq]
 exact .inl ⟨r95,rfl,hw.fr,by rw [errE_eq,hR0,er_0,he95],slN_mv h95 (nv_vs hw (by simp) hfr95)⟩
end Go.Proofs.YtinnlppbkhhoiaaGreatDoor
end
section
namespace Go.Proofs.YtinnlppbkhhoiaaGreatDoor
open Go.Bw
set_option linter.unusedVariables false
set_option linter.unusedSimpArgs false
def ScActs (HS:View) (sb:Nat) (σ:Scp) (ke k:Nat):Prop:=∀(HE:View) (l:List TStmt) (a:Option Addr) (c:Nat) (w:World),Le HS w→Le HE w→Sl (RdS ke k) 6 HE a c l→wSs l≤109951162777→
 Calls Tryz.prog 36 #[.pointer (some ⟨sb,0,none⟩),.slice a l.length c] w fun e w'=>(∃r:SP,e = .returned (.slice r.1 (actsT σ l).length r.2)∧Ext w w'∧errSs σ l=0∧Sl (RdA (ke+1) (k+1)) 7 (nv w w') r.1 r.2 (actsT σ l))∨(∃_:Unit,e = .panicked (refd (errSs σ l))∧Ext w w'∧errSs σ l≠0)
theorem map_snoc {X T S:Type} {f:X→T} {g:S→T} {es:List X} {l:List S} {i:Nat} {x:S} {e:X} (h:es.map f=(l.take i).map g) (hx:l[i]? = some x) (he:f e=g x):(es++[e]).map f=(l.take (i+1)).map g:=by
 rw [take_snoc hx]; simp [h,he]
theorem map_len {X T S:Type} {f:X→T} {g:S→T} {es:List X} {l:List S} {i:Nat} (h:es.map f=(l.take i).map g) (hi:i≤l.length):es.length=i:=by
 have:=congrArg List.length h
 simpa [Nat.min_eq_left hi] using this
theorem map_all {X T S:Type} {f:X→T} {g:S→T} {es:List X} {l:List S} {i:Nat} (h:es.map f=(l.take i).map g) (hi:i=l.length):es.map f=l.map g:=by subst hi; simpa using h
theorem en92:Enters Tryz.prog 92:=enters_of Tryz.func92 (by kernel_rfl) rfl
theorem el66:EltOk Tryz.prog 66 158 (.agg #[.int .i64 0,.int .i64 0,.int .i64 0,.int .i64 0,.slice none 0 0]) 5 56:=eltOk_of (by kernel_rfl)
theorem zr68:zeroOf Tryz.prog 68=some (.agg #[.int .i64 0,.int .i64 0,.int .i64 0,.int .i64 0,.slice none 0 0,.slice none 0 0,.slice none 0 0]):=by kernel_rfl
theorem pl68:placesP Tryz.prog 68=some [(0,1),(1,1),(2,1),(3,1),(4,1),(5,1),(6,1)]:=by kernel_rfl
theorem sz68:sizeP Tryz.prog 68=some 7:=by kernel_rfl
theorem fo68_2:fieldOff Tryz.prog 68 2=some 2:=by kernel_rfl
theorem fo68_3:fieldOff Tryz.prog 68 3=some 3:=by kernel_rfl
theorem fo68_1:fieldOff Tryz.prog 68 1=some 1:=by kernel_rfl
theorem fo68_4:fieldOff Tryz.prog 68 4=some 4:=by kernel_rfl
theorem en36:Enters Tryz.prog 36:=enters_of Tryz.func36 (by kernel_rfl) rfl
theorem fo68_5:fieldOff Tryz.prog 68 5=some 5:=by kernel_rfl
theorem sz40:sizeP Tryz.prog 40=some 1:=by kernel_rfl
theorem fo68_6:fieldOff Tryz.prog 68 6=some 6:=by kernel_rfl
theorem ag68:aggOf Tryz.prog 68=some 7:=by kernel_rfl
theorem en57:Enters Tryz.prog 57:=enters_of Tryz.func57 (by kernel_rfl) rfl
theorem el40:EltOk Tryz.prog 40 68 (.agg #[.int .i64 0,.int .i64 0,.int .i64 0,.int .i64 0,.slice none 0 0,.slice none 0 0,.slice none 0 0]) 7 104:=eltOk_of (by kernel_rfl)
theorem scNodes_any (HS HE:View) (sb:Nat) (σ:Scp) (hS:Slv HS sb σ) (k:Nat) (l:List TExpr) (a:Option Addr) (c:Nat) (w:World) (hHS:Le HS w) (hHE:Le HE w) (hm:Sl (RdE k) 5 HE a c l) (hwt:wEs l≤109951162777) :
   Calls Tryz.prog 76 #[.pointer (some ⟨sb,0,none⟩),.slice a l.length c] w fun e w'=>(∃r:SP,e = .returned (.slice r.1 (nodesT σ l).length r.2)∧Ext w w'∧errEs σ l=0∧Sl (RdN (k+1)) 5 (nv w w') r.1 r.2 (nodesT σ l))∨(∃_:Unit,e = .panicked (refd (errEs σ l))∧Ext w w'∧errEs σ l≠0):=by
 induction k using Nat.strongRecOn generalizing HE l a c w
 rename_i k ih
 have hcap:=hm.cap
 have hmax:=hm.max
 have hlw:=wEs_len l
 refine enter Tryz.func76 rfl 22 rfl rfl ?_
 refine CWd (W':=Ws w [] [] [HE,HS]) (fun _ e=>by subst e; exact Ws.init (by simp [hHE,hHS])) ?_
 refine Cs (Cr ?_)
 refine V0 (Ya rfl) ?_
 refine Ln (Et (Cs (Cr ?_)))
 refine V0 (Ya rfl) ?_
 refine LW (fun _ h=>h.osl_nil 158 5) ?_
 refine WL.v0 ?_
 refine Ln (Et (Cs (Cs (Cr ?_))))
 refine V0 (Ym rfl) ?_
 refine V0 (Yn es114 rfl) ?_
 refine V0 (Ym rfl) ?_
 refine Ln (Et (Cb ?_))
 refine CK (ι:=GX XN) (fun g=>[(10,.int .i64 (g.i:Int)),(5,.slice g.a g.es.length g.c)]) [(0,_),(4,_),(8,_),(9,_)] (fun g=>Ws w [] [osT 158 5 XN.cells g.a g.c g.es] [g.J,HE,HS]) (fun g=>g.i≤l.length∧g.es.map (·.1)=(l.take g.i).map (nodeT σ)∧ers (errE σ) (l.take g.i)=0∧(Fresh w g.J∧Xs (SlN k) g.J g.es)) (fun g=>l.length-g.i) ⟨0,[],none,0,v0⟩ ⟨Nat.zero_le _,rfl,rfl,⟨v0_fresh w,Xs.nil _⟩⟩ (sc rfl (sc rfl (sc rfl (sc rfl (sc rfl (sc rfl sn)))))) (fun _ h=>by have h:=Ws.drops h (Vs':=[v0,HE,HS]) (by simp); exact h) ?_
 intro g ⟨hi,hmap,hers,⟨hfJ,hX⟩⟩
 refine Cs (Cr ?_)
 refine V0 (yl_lt rfl rfl) ?_
 refine Ln (Et (Cs ?_))
 refine Cc rfl (fun hc0=>?_) (fun hc0=>?_)
 ·
  have hlt:g.i<l.length:=by simpa using hc0
  obtain ⟨y,hyi⟩:∃q,l[g.i]? = some q:=⟨_,List.getElem?_eq_getElem hlt⟩
  obtain ⟨pby,poy,hay,hry⟩:=hm.elt g.i y hyi
  obtain ⟨k2,rfl⟩:∃k2,k=k2+1:=by
    cases k with
    | zero=>exact hry.elim
    | succ k2=>exact ⟨k2,rfl⟩
  obtain ⟨ya,yn,hrow,hsub⟩:=hry
  have hel:=map_len hmap hi
  refine Ck (Et (Cs (Cb (Cs (Cr ?_)))))
  refine V0 (Yo es114 rfl rfl hay (by omega)) ?_
  refine V0 (yl_lda 1 ag116 rfl rfl rfl (hrow)) ?_
  refine WL.alloc (.inl rfl) rfl zr116 fun b7=>?_
  refine Lst 0 (.inl rfl) rfl rfl rfl sz116 rfl rfl rfl ?_
  refine Ln (Et (Cr ?_))
  refine V0 (Ym rfl) ?_
  refine V0 (Ym rfl) ?_
  refine V0 (Yda 0 rfl rfl ag116 rfl) ?_
  refine WL.calldx (ι:=SP) (κ:=Unit) (.inl rfl) rfl en92 rfl (fun r=>.agg (nodeV (nodeT σ y) r.1 r.2).toArray) (fun F r=>errE σ y=0∧SlN (k2+1) F (nodeT σ y,r)) (fun _=>refd (errE σ y)) (fun _=>errE σ y≠0) (fun w hw=>scNode_any HS HE sb σ k2 y ya yn w (hw.vs _ (by simp)) (hw.vs _ (by simp)) hS (fun HE l a c w h1 h2 h3 h4=>ih k2 (by omega) HE l a c w h1 h2 h3 h4) hsub (by have:=wEs_mem hyi; omega)) ?_ ?_
  ·
   intro _ hp
   refine WE.block_panic ?_
   refine Ep ?_
   refine Ep ?_
   refine WE.block_panic ?_
   refine Ep ?_
   refine Epp fun w' hw=>?_
   have he:errEs σ l=errE σ y:=by rw [errEs_ers,ers_hit (errE σ) hyi hers hp]
   rw [he]
   exact .inr ⟨(),rfl,hw.fr,hp⟩
  intro F17 r17 hfr17 ⟨he17,h17⟩
  refine WL.vjoin fun J17 j17a j17b j17f=>?_
  refine Lb (.inl rfl) rfl el66 rfl rfl rfl rfl fun b18=>?_
  refine Lrb 0 (.cells (XN.cells (nodeT σ y,r17)).toArray 158 (0,0)) rfl (rfl) ?_
  refine LA (((nodeT σ y,r17):XN)) 2 0 (.inl rfl) rfl el66 rfl rfl rfl rfl rfl rfl (by omega) (by omega) fun a19 c19=>?_
  refine V0 (Ya rfl) ?_
  refine Ln (Eb (Et (Cr ?_)))
  refine V0 (Yi rfl rfl rfl (by omega)) ?_
  refine V0 (Ym rfl) ?_
  refine Ln ?_
  exact Ea (⟨g.i+1,g.es++[(nodeT σ y,r17)],a19,c19,J17⟩:GX XN) (by show _-(g.i+1)<_; omega) ⟨(by show g.i+1≤_; omega),map_snoc hmap hyi rfl,by show ers (errE σ) (l.take (g.i+1))=0; rw [ers_take (errE σ) hyi,hers,er_0,he17],⟨j17f _ hfr17 hfJ,Xs.snoc (R:=SlN _) (fun hv h=>SlN.mv hv h) hX j17b j17a h17⟩⟩ (sc rfl (sc rfl (sc rfl (sc rfl (sc rfl (sc rfl sn)))))) (fun _ h=>Ws.drop (L:=[_,_]) h)
 ·
  have hge:g.i=l.length:=by simp at hc0; omega
  refine Ce (Ex (Ex (Ebh (Et (Cs ?_)))))
  refine WC.oslN (rd:=rdXN) 0 rfl (fun _ hk=>by cases hk) XN.cells_len (fun _ _ _ _ h=>h) fun K7 fK7 hK7=>?_
  refine Cr ?_
  refine V0 (Ym rfl) ?_
  refine V0 (Ya rfl) ?_
  refine Ln (Et (Crt ?_))
  refine WE.ret1 rfl rfl fun w' hw=>?_
  have hz:errEs σ l=0:=by rw [errEs_ers,←hers,hge,List.take_length]
  have hall:=map_all hmap hge
  rw [←nodesT_map] at hall
  rw [←hall]
  exact .inl ⟨(g.a,g.c),by rw [List.length_map],hw.fr,hz,slN_of hK7 (nv_vs hw (by simp) fK7) (nv_vs hw (by simp) hfJ) hX⟩
theorem scNodes_all (HS:View) (sb:Nat) (σ:Scp) (hS:Slv HS sb σ) (k:Nat):ScNodes HS sb σ k:=by
 intro HE l a c w hHS hHE hm hwt
 exact scNodes_any HS HE sb σ hS k l a c w hHS hHE hm hwt
theorem scAct_any (HS HE:View) (sb:Nat) (σ:Scp) (ke k:Nat) (x:TStmt) (a:Option Addr) (c:Nat) (a2:Option Addr) (c2:Nat) (a3:Option Addr) (c3:Nat) (w:World) (hHS:Le HS w) (hHE:Le HE w) (hS:Slv HS sb σ) (hN:ScNodes HS sb σ ke) (hA:ScActs HS sb σ ke k) (hm:Sl (RdE ke) 5 HE a c x.args) (hs2:Sl (RdS ke k) 6 HE a2 c2 x.body) (hs3:Sl (RdS ke k) 6 HE a3 c3 x.other) (hwt:wS x≤109951162777) :
   Calls Tryz.prog 57 #[.pointer (some ⟨sb,0,none⟩),.agg (stmtV x a c a2 c2 a3 c3).toArray] w fun e w'=>(∃r:AAt,e = .returned (.agg (actV (actT σ x) r).toArray)∧Ext w w'∧errS σ x=0∧SlA (ke+1) (k+1) (nv w w') (actT σ x,r))∨(∃_:Unit,e = .panicked (refd (errS σ x))∧Ext w w'∧errS σ x≠0):=by
 have hws:=wS_eq x
 have hcap:=hm.cap
 have hmax:=hm.max
 refine enter Tryz.func57 rfl 88 rfl rfl ?_
 refine CWd (W':=Ws w [] [] [HE,HS]) (fun _ e=>by subst e; exact Ws.init (by simp [hHE,hHS])) ?_
 refine Cs (Cr ?_)
 refine WL.box (.inl rfl) rfl rfl fun b3=>?_
 refine WL.alloc (.inl rfl) rfl zr68 fun b4=>?_
 refine Ln (Et (Cs (Cr ?_)))
 refine V0 (Yf fo118_0 rfl) ?_
 refine V0 (Yd 1 rfl rfl rfl na3) ?_
 refine V0 (Yb zr68 pl68 rfl rfl) ?_
 refine WL.alloc (.inl rfl) rfl zr68 fun b5=>?_
 refine Lst 0 (.inl rfl) rfl rfl rfl sz68 rfl rfl rfl ?_
 refine Ln (Et (Cs (Cr ?_)))
 refine WL.alloc (.inl rfl) rfl zr55 fun b6=>?_
 refine Ln (Et ?_)
 refine WC.cutE (ι:=Unit) (fun _u=>[(0,.pointer (some ⟨sb,0,none⟩)),(3,.pointer (some ⟨b3,0,none⟩)),(4,.pointer (some ⟨b4,0,none⟩)),(5,.pointer (some ⟨b5,0,none⟩))]) (fun _u=>Ws w [] [blk b5 (.cells #[.int .i64 (resS σ x.op x.mod x.nm x.args.length).op,.int .i64 (resS σ x.op x.mod x.nm x.args.length).n,.int .i64 (resS σ x.op x.mod x.nm x.args.length).m,.int .i64 (resS σ x.op x.mod x.nm x.args.length).pl,.slice none 0 0,.slice none 0 0,.slice none 0 0] 68 (0,0)),blk b4 (.cells #[.int .i64 0,.int .i64 0,.int .i64 0,.int .i64 0,.slice none 0 0,.slice none 0 0,.slice none 0 0] 68 (0,0)),blk b3 (.cells (stmtV x a c a2 c2 a3 c3).toArray 118 (0,0))] [HE,HS]) (fun _u=>(resS σ x.op x.mod x.nm x.args.length).e=0) ?_ ?_
 ·
  refine Cs (Cr ?_)
  refine V0 (Yf fo118_0 rfl) ?_
  refine V0 (Yd 3 rfl rfl rfl na3) ?_
  refine Ln (Et (Cb (Cs (Cr ?_))))
  refine V0 (yl_eq rfl rfl) ?_
  refine V0 (Ya rfl) ?_
  refine Ln (Et ?_)
  refine Cc rfl (fun hc0=>?_) (fun hc0=>?_)
  ·
   have hop:x.op=1:=by simpa using hc0
   refine Cs (Cr ?_)
   refine V0 (Ym rfl) ?_
   refine V0 (Yf fo118_1 rfl) ?_
   refine V0 (Yd 3 rfl rfl rfl na9) ?_
   refine V0 (Yf fo118_2 rfl) ?_
   refine V0 (Yd 3 rfl rfl rfl na9) ?_
   refine WL.callpx (ι:=Int×FItem) (κ:=Unit) (.inl rfl) rfl en74 rfl (fun i=>.tuple #[.int .i64 i.1,.agg i.2.cells.toArray]) (fun i=>findT σ x.mod x.nm=some i) (fun _=>refd 5) (fun _=>findT σ x.mod x.nm=none) (fun w hw=>scFind_any HS sb σ w (hw.vs _ (by simp)) hS x.mod x.nm) ?_ ?_
   ·
    intro _ hp
    refine Ep ?_
    refine WE.block_panic ?_
    refine Ep ?_
    refine Epp fun w' hw=>?_
    have he:errS σ x=5:=by rw [errS_eq,resS_no (by omega) hp]; rfl
    rw [he]
    exact .inr ⟨(),rfl,hw.fr,by decide⟩
   intro ⟨m20,it20⟩ hf20
   have hr1:=resS_1 (len:=x.args.length) hf20
   have hmm:=findT_m hf20
   refine V0 (Ym rfl) ?_
   refine V0 (Yx rfl rfl) ?_
   refine V0 (Yx rfl rfl) ?_
   refine V0 (Yf fo68_2 rfl) ?_
   refine Lst 1 (.inl rfl) rfl rfl rfl sz3 rfl rfl rfl ?_
   refine Lst 0 (.inl rfl) rfl rfl rfl sz55 rfl rfl rfl ?_
   refine Ln (Et (Cs (Cr ?_)))
   refine V0 (Yf fo68_2 rfl) ?_
   refine V0 (Yd 1 rfl rfl rfl na3) ?_
   refine V0 (yl_lt rfl rfl) ?_
   refine V0 (Ym rfl) ?_
   apply WL.or 3 rfl rfl rfl rfl (.inl rfl) rfl rfl rfl rfl rfl
   ·
    intro hg0
    refine Lv (.g rfl rfl rfl) rfl (Yf fo55_0 rfl) ?_
    refine Lv (.g rfl rfl rfl) rfl (Yd 0 rfl rfl rfl na3) ?_
    refine Lv (.g rfl rfl rfl) rfl (yl_eq rfl rfl) ?_
    exact Gt 3 rfl rfl rfl
   refine WL.callpx (ι:=Unit) (κ:=Unit) (.inl rfl) rfl en33 rfl (fun _=>.tuple #[]) (fun _=>_=true) (fun _=>refd _) (fun _=>_=false) (fun w hw=>scMust_any _ _ w) ?_ ?_
   ·
    intro _ hp
    refine Ep ?_
    refine WE.block_panic ?_
    refine Ep ?_
    refine Epp fun w' hw=>?_
    have hk2:¬(m20 = -1∨it20.kind=2):=by simp at hp; omega
    rw [if_neg hk2] at hr1
    have he:errS σ x=7:=by rw [errS_eq,hop,hr1]; rfl
    rw [he]
    exact .inr ⟨(),rfl,hw.fr,by decide⟩
   intro _ hm32
   have hk2:m20 = -1∨it20.kind=2:=by
     simp at hm32
     omega
   have hres:(resS σ x.op x.mod x.nm x.args.length)=⟨x.op,0,m20,it20.pl,0⟩:=by rw [hop]; rw [hr1,if_pos hk2]
   refine Ln (Et (Cr ?_))
   refine V0 (Yf fo55_2 rfl) ?_
   refine V0 (Yd 0 rfl rfl rfl na3) ?_
   refine V0 (Yf fo68_3 rfl) ?_
   refine Lst 1 (.inl rfl) rfl rfl rfl sz3 rfl rfl rfl ?_
   refine Ln (Eb ?_)
   refine WE.reblk 1 (.cells #[.int .i64 (resS σ x.op x.mod x.nm x.args.length).op,.int .i64 (resS σ x.op x.mod x.nm x.args.length).n,.int .i64 (resS σ x.op x.mod x.nm x.args.length).m,.int .i64 (resS σ x.op x.mod x.nm x.args.length).pl,.slice none 0 0,.slice none 0 0,.slice none 0 0] 68 (0,0)) rfl (by rw [hres]; rfl) ?_
   exact WE.meetE () (by rw [hres]) (sc rfl (sc rfl (sc rfl (sc rfl sn)))) (fun _ h=>by
     have h:=h.fronti 3 rfl
     have h:=h.fronti 3 rfl
     have h:=h.fronti 3 rfl
     have h:=Ws.keep (L:=[_,_,_]) h
     exact h)
  ·
   have h1:¬x.op=1:=by simpa using hc0
   refine Cs (Cr ?_)
   refine V0 (yl_eq rfl rfl) ?_
   refine V0 (Ya rfl) ?_
   refine Ln (Et ?_)
   refine Cc rfl (fun hc1=>?_) (fun hc1=>?_)
   ·
    have hop:x.op=2:=by simpa using hc1
    refine Cs (Cr ?_)
    refine V0 (Ym rfl) ?_
    refine V0 (Yf fo118_1 rfl) ?_
    refine V0 (Yd 3 rfl rfl rfl na9) ?_
    refine V0 (Yf fo118_2 rfl) ?_
    refine V0 (Yd 3 rfl rfl rfl na9) ?_
    refine WL.callpx (ι:=Int×FItem) (κ:=Unit) (.inl rfl) rfl en75 rfl (fun i=>.tuple #[.int .i64 i.1,.agg i.2.cells.toArray]) (fun i=>findT σ x.mod x.nm=some i∧plErr σ x.mod x.nm 3 0=0) (fun _=>refd (plErr σ x.mod x.nm 3 0)) (fun _=>plErr σ x.mod x.nm 3 0≠0) (fun w hw=>scPlace_any HS sb σ w (hw.vs _ (by simp)) hS x.mod x.nm 3 0) ?_ ?_
    ·
     intro _ hp
     refine Ep ?_
     refine WE.block_panic ?_
     refine Ep ?_
     refine Epp fun w' hw=>?_
     have he:errS σ x=plErr σ x.mod x.nm 3 0:=by rw [errS_eq,hop,resS_2e hp,er_ne hp]
     rw [he]
     exact .inr ⟨(),rfl,hw.fr,hp⟩
    intro ⟨m44,it44⟩ ⟨hf44,hq44⟩
    have hres:(resS σ x.op x.mod x.nm x.args.length)=⟨x.op,it44.n,m44,it44.pl,0⟩:=by rw [hop]; exact resS_2 hf44 hq44
    refine V0 (Ym rfl) ?_
    refine V0 (Yx rfl rfl) ?_
    refine V0 (Yx rfl rfl) ?_
    refine V0 (Yf fo68_2 rfl) ?_
    refine Lst 1 (.inl rfl) rfl rfl rfl sz3 rfl rfl rfl ?_
    refine Lst 0 (.inl rfl) rfl rfl rfl sz55 rfl rfl rfl ?_
    refine Ln (Et ?_)
    refine WC.draws1 1 [(0,true),(1,true),(2,true),(3,true),(4,true),(5,false),(6,false),(7,false)] mixed (by kernel_rfl) (fun _ _ _ d _ h=>by cases d<;>exact h) ?_
    refine Dq rfl (.inl rfl) rfl (fun _ h=>by have h:=Ws.out 1 h; exact h) (Yf fo55_2 rfl) ?_
    refine Dq rfl (.inl rfl) rfl (fun _ h=>by have h:=Ws.out 1 h; exact h) (Yd 0 rfl rfl rfl na3) ?_
    refine Dq rfl (.inl rfl) rfl (fun _ h=>by have h:=Ws.out 1 h; exact h) (Yf fo55_1 rfl) ?_
    refine Dq rfl (.inl rfl) rfl (fun _ h=>by have h:=Ws.out 1 h; exact h) (Yd 0 rfl rfl rfl na3) ?_
    refine Dq rfl (.inl rfl) rfl (fun _ h=>by have h:=Ws.out 1 h; exact h) (Yf fo68_3 rfl) ?_
    refine De rfl (fun _ h=>by have h:=Ws.out 1 h; exact h) ?_
    refine Lst 1 (.inl rfl) rfl rfl rfl sz3 rfl rfl rfl ?_
    refine Ln (Ed ?_)
    refine De rfl (fun _ h=>by have h:=Ws.out 1 h; exact h) ?_
    refine V0 (Yf fo68_1 rfl) ?_
    refine Ln (Ed ?_)
    refine De rfl (fun _ h=>by have h:=Ws.out 1 h; exact h) ?_
    refine Lst 1 (.inl rfl) rfl rfl rfl sz3 rfl rfl rfl ?_
    refine Ln (Ed ?_)
    refine WD.nil (fun _ h=>by have h:=Ws.out 1 h; exact h) ?_
    refine Eb ?_
    refine WE.reblk 1 (.cells #[.int .i64 (resS σ x.op x.mod x.nm x.args.length).op,.int .i64 (resS σ x.op x.mod x.nm x.args.length).n,.int .i64 (resS σ x.op x.mod x.nm x.args.length).m,.int .i64 (resS σ x.op x.mod x.nm x.args.length).pl,.slice none 0 0,.slice none 0 0,.slice none 0 0] 68 (0,0)) rfl (by rw [hres]; rfl) ?_
    exact WE.meetE () (by rw [hres]) (sc rfl (sc rfl (sc rfl (sc rfl sn)))) (fun _ h=>by
      have h:=h.fronti 3 rfl
      have h:=h.fronti 3 rfl
      have h:=h.fronti 3 rfl
      have h:=Ws.keep (L:=[_,_,_]) h
      exact h)
   ·
    have h2:¬x.op=2:=by simpa using hc1
    refine Cs (Cr ?_)
    refine V0 (yl_eq rfl rfl) ?_
    refine V0 (Ya rfl) ?_
    refine Ln (Et ?_)
    refine Cc rfl (fun hc2=>?_) (fun hc2=>?_)
    ·
     have hop:x.op=3:=by simpa using hc2
     refine Cs (Cr ?_)
     refine V0 (Ym rfl) ?_
     refine V0 (Yf fo118_1 rfl) ?_
     refine V0 (Yd 3 rfl rfl rfl na9) ?_
     refine V0 (Yf fo118_2 rfl) ?_
     refine V0 (Yd 3 rfl rfl rfl na9) ?_
     refine V0 (Yf fo118_3 rfl) ?_
     refine V0 (Yd 3 rfl rfl rfl na114) ?_
     refine V0 (Yn es114 rfl) ?_
     refine WL.callpx (ι:=Int×FItem) (κ:=Unit) (.inl rfl) rfl en75 rfl (fun i=>.tuple #[.int .i64 i.1,.agg i.2.cells.toArray]) (fun i=>findT σ x.mod x.nm=some i∧plErr σ x.mod x.nm 4 (x.args.length:Int)=0) (fun _=>refd (plErr σ x.mod x.nm 4 (x.args.length:Int))) (fun _=>plErr σ x.mod x.nm 4 (x.args.length:Int)≠0) (fun w hw=>scPlace_any HS sb σ w (hw.vs _ (by simp)) hS x.mod x.nm 4 (x.args.length:Int)) ?_ ?_
     ·
      intro _ hp
      refine Ep ?_
      refine WE.block_panic ?_
      refine Ep ?_
      refine Epp fun w' hw=>?_
      have he:errS σ x=plErr σ x.mod x.nm 4 (x.args.length:Int):=by rw [errS_eq,hop,resS_3e hp,er_ne hp]
      rw [he]
      exact .inr ⟨(),rfl,hw.fr,hp⟩
     intro ⟨m65,it65⟩ ⟨hf65,hq65⟩
     have hres:(resS σ x.op x.mod x.nm x.args.length)=⟨x.op,0,m65,it65.pl,0⟩:=by rw [hop]; exact resS_3 hf65 hq65
     refine V0 (Ym rfl) ?_
     refine V0 (Yx rfl rfl) ?_
     refine V0 (Yx rfl rfl) ?_
     refine V0 (Yf fo68_2 rfl) ?_
     refine Lst 1 (.inl rfl) rfl rfl rfl sz3 rfl rfl rfl ?_
     refine Lst 0 (.inl rfl) rfl rfl rfl sz55 rfl rfl rfl ?_
     refine Ln (Et (Cr ?_))
     refine V0 (Yf fo55_2 rfl) ?_
     refine V0 (Yd 0 rfl rfl rfl na3) ?_
     refine V0 (Yf fo68_3 rfl) ?_
     refine Lst 1 (.inl rfl) rfl rfl rfl sz3 rfl rfl rfl ?_
     refine Ln (Eb ?_)
     refine WE.reblk 1 (.cells #[.int .i64 (resS σ x.op x.mod x.nm x.args.length).op,.int .i64 (resS σ x.op x.mod x.nm x.args.length).n,.int .i64 (resS σ x.op x.mod x.nm x.args.length).m,.int .i64 (resS σ x.op x.mod x.nm x.args.length).pl,.slice none 0 0,.slice none 0 0,.slice none 0 0] 68 (0,0)) rfl (by rw [hres]; rfl) ?_
     exact WE.meetE () (by rw [hres]) (sc rfl (sc rfl (sc rfl (sc rfl sn)))) (fun _ h=>by
       have h:=h.fronti 3 rfl
       have h:=h.fronti 3 rfl
       have h:=h.fronti 3 rfl
       have h:=Ws.keep (L:=[_,_,_]) h
       exact h)
    ·
     have h3:¬x.op=3:=by simpa using hc2
     have hres:(resS σ x.op x.mod x.nm x.args.length)=⟨x.op,0,0,0,0⟩:=resS_0 h1 h2 h3
     refine Ck (Eb ?_)
     refine WE.reblk 1 (.cells #[.int .i64 (resS σ x.op x.mod x.nm x.args.length).op,.int .i64 (resS σ x.op x.mod x.nm x.args.length).n,.int .i64 (resS σ x.op x.mod x.nm x.args.length).m,.int .i64 (resS σ x.op x.mod x.nm x.args.length).pl,.slice none 0 0,.slice none 0 0,.slice none 0 0] 68 (0,0)) rfl (by rw [hres]; rfl) ?_
     exact WE.meetE () (by rw [hres]) (sc rfl (sc rfl (sc rfl (sc rfl sn)))) (fun _ h=>by
       have h:=h.fronti 3 rfl
       have h:=h.fronti 3 rfl
       have h:=h.fronti 3 rfl
       have h:=Ws.keep (L:=[_,_,_]) h
       exact h)
 intro _ hR0
 refine Cs (Cr ?_)
 refine V0 (Ym rfl) ?_
 refine V0 (Yf fo118_3 rfl) ?_
 refine V0 (Yd 2 rfl rfl rfl na114) ?_
 refine WL.calldx (ι:=SP) (κ:=Unit) (.inl rfl) rfl en76 rfl (fun r=>.slice r.1 (nodesT σ x.args).length r.2) (fun F r=>errEs σ x.args=0∧Sl (RdN (ke+1)) 5 F r.1 r.2 (nodesT σ x.args)) (fun _=>refd (errEs σ x.args)) (fun _=>errEs σ x.args≠0) (fun w hw=>hN HE x.args a c w (hw.vs _ (by simp)) (hw.vs _ (by simp)) hm (by omega)) ?_ ?_
 ·
  intro _ hp
  refine Ep ?_
  refine Epp fun w' hw=>?_
  have he:errS σ x=errEs σ x.args:=by rw [errS_eq,hR0,er_0,er_ne hp]
  rw [he]
  exact .inr ⟨(),rfl,hw.fr,hp⟩
 intro F75 r75 hfr75 ⟨he75,h75⟩
 refine V0 (Yf fo68_4 rfl) ?_
 refine Lst 0 (.inl rfl) rfl rfl rfl sz66 rfl rfl rfl ?_
 refine Ln (Et (Cs ?_))
 refine WC.draws1 0 [(0,true),(1,true),(2,true),(4,true),(5,true),(6,true),(3,false),(8,true),(7,false),(9,false),(10,false),(11,false)] mixed (by kernel_rfl) (fun _ _ _ d _ h=>by cases d<;>exact h) ?_
 refine Dq rfl (.inl rfl) rfl (fun _ h=>by have h:=Ws.out 0 h; exact h) (Ym rfl) ?_
 refine Dq rfl (.inl rfl) rfl (fun _ h=>by have h:=Ws.out 0 h; exact h) (Yf fo118_4 rfl) ?_
 refine Dq rfl (.inl rfl) rfl (fun _ h=>by have h:=Ws.out 0 h; exact h) (Yd 1 rfl rfl rfl na25) ?_
 refine Dq rfl (.inl rfl) rfl (fun _ h=>by have h:=Ws.out 0 h; exact h) (Ym rfl) ?_
 refine Dq rfl (.inl rfl) rfl (fun _ h=>by have h:=Ws.out 0 h; exact h) (Yf fo118_5 rfl) ?_
 refine Dq rfl (.inl rfl) rfl (fun _ h=>by have h:=Ws.out 0 h; exact h) (Yd 1 rfl rfl rfl na25) ?_
 refine De rfl (fun _ h=>by have h:=Ws.out 0 h; exact h) ?_
 refine WL.calldx (ι:=SP) (κ:=Unit) (.inl rfl) rfl en36 rfl (fun r=>.slice r.1 (actsT σ x.body).length r.2) (fun F r=>errSs σ x.body=0∧Sl (RdA (ke+1) (k+1)) 7 F r.1 r.2 (actsT σ x.body)) (fun _=>refd (errSs σ x.body)) (fun _=>errSs σ x.body≠0) (fun w hw=>hA HE x.body a2 c2 w (hw.vs _ (by simp)) (hw.vs _ (by simp)) hs2 (by omega)) ?_ ?_
 ·
  intro _ hp
  refine Ep ?_
  refine Ep ?_
  refine Epp fun w' hw=>?_
  have he:errS σ x=errSs σ x.body:=by rw [errS_eq,hR0,er_0,he75,er_0,er_ne hp]
  rw [he]
  exact .inr ⟨(),rfl,hw.fr,hp⟩
 intro F80 r80 hfr80 ⟨he80,h80⟩
 refine Ln (Ed ?_)
 refine Dq rfl (.inl rfl) rfl (fun _ h=>by have h:=Ws.out 0 h; have h:=Ws.drops h (fun _ hm=>List.mem_append_right [_] hm); exact h) (Yf fo68_5 rfl) ?_
 refine De rfl (fun _ h=>by have h:=Ws.out 0 h; have h:=Ws.drops h (fun _ hm=>List.mem_append_right [_] hm); exact h) ?_
 refine WL.calldx (ι:=SP) (κ:=Unit) (.inl rfl) rfl en36 rfl (fun r=>.slice r.1 (actsT σ x.other).length r.2) (fun F r=>errSs σ x.other=0∧Sl (RdA (ke+1) (k+1)) 7 F r.1 r.2 (actsT σ x.other)) (fun _=>refd (errSs σ x.other)) (fun _=>errSs σ x.other≠0) (fun w hw=>hA HE x.other a3 c3 w (hw.vs _ (by simp)) (hw.vs _ (by simp)) hs3 (by omega)) ?_ ?_
 ·
  intro _ hp
  refine Ep ?_
  refine Ep ?_
  refine Epp fun w' hw=>?_
  have he:errS σ x=errSs σ x.other:=by rw [errS_eq,hR0,er_0,he75,er_0,he80,er_0]
  rw [he]
  exact .inr ⟨(),rfl,hw.fr,hp⟩
 intro F84 r84 hfr84 ⟨he84,h84⟩
 refine Ln (Ed ?_)
 refine De rfl (fun _ h=>by have h:=Ws.out 0 h; have h:=Ws.drops h (fun _ hm=>List.mem_append_right [_,_] hm); exact h) ?_
 refine Lst 0 (.inl rfl) rfl rfl rfl sz40 rfl rfl rfl ?_
 refine Ln (Ed ?_)
 refine De rfl (fun _ h=>by have h:=Ws.out 0 h; have h:=Ws.drops h (fun _ hm=>List.mem_append_right [_,_] hm); exact h) ?_
 refine V0 (Yf fo68_6 rfl) ?_
 refine Ln (Ed ?_)
 refine De rfl (fun _ h=>by have h:=Ws.out 0 h; have h:=Ws.drops h (fun _ hm=>List.mem_append_right [_,_] hm); exact h) ?_
 refine Lst 0 (.inl rfl) rfl rfl rfl sz40 rfl rfl rfl ?_
 refine Ln (Ed ?_)
 refine WD.nil (fun _ h=>by have h:=Ws.out 0 h; have h:=Ws.drops h (fun _ hm=>List.mem_append_right [_,_] hm); exact h) ?_
 refine Et (Cs (Cr ?_))
 refine V0 (Yda 0 rfl rfl ag68 rfl) ?_
 refine Lst 1 (.inl rfl) rfl rfl rfl sz68 rfl rfl rfl ?_
 refine Ln (Et (Crt ?_))
 refine WE.retR (rs_1 rfl (rv_agg 1 rfl rfl ag68 rfl)) fun w' hw=>?_
 rw [actT_eq]
 exact .inl ⟨⟨r75,r80,r84⟩,rfl,hw.fr,by rw [errS_eq,hR0,he75,he80,he84]; rfl,slN_mv h75 (nv_vs hw (by simp) hfr75),slA_mv h80 (nv_vs hw (by simp) hfr80),slA_mv h84 (nv_vs hw (by simp) hfr84)⟩
theorem scActs_any (HS HE:View) (sb:Nat) (σ:Scp) (ke:Nat) (hS:Slv HS sb σ) (k:Nat) (l:List TStmt) (a:Option Addr) (c:Nat) (w:World) (hHS:Le HS w) (hHE:Le HE w) (hm:Sl (RdS ke k) 6 HE a c l) (hwt:wSs l≤109951162777) :
   Calls Tryz.prog 36 #[.pointer (some ⟨sb,0,none⟩),.slice a l.length c] w fun e w'=>(∃r:SP,e = .returned (.slice r.1 (actsT σ l).length r.2)∧Ext w w'∧errSs σ l=0∧Sl (RdA (ke+1) (k+1)) 7 (nv w w') r.1 r.2 (actsT σ l))∨(∃_:Unit,e = .panicked (refd (errSs σ l))∧Ext w w'∧errSs σ l≠0):=by
 induction k using Nat.strongRecOn generalizing HE l a c w
 rename_i k ih
 have hcap:=hm.cap
 have hmax:=hm.max
 have hlw:=wSs_len l
 refine enter Tryz.func36 rfl 22 rfl rfl ?_
 refine CWd (W':=Ws w [] [] [HE,HS]) (fun _ e=>by subst e; exact Ws.init (by simp [hHE,hHS])) ?_
 refine Cs (Cr ?_)
 refine V0 (Ya rfl) ?_
 refine Ln (Et (Cs (Cr ?_)))
 refine V0 (Ya rfl) ?_
 refine LW (fun _ h=>h.osl_nil 68 7) ?_
 refine WL.v0 ?_
 refine Ln (Et (Cs (Cs (Cr ?_))))
 refine V0 (Ym rfl) ?_
 refine V0 (Yn es25 rfl) ?_
 refine V0 (Ym rfl) ?_
 refine Ln (Et (Cb ?_))
 refine CK (ι:=GX XA) (fun g=>[(10,.int .i64 (g.i:Int)),(5,.slice g.a g.es.length g.c)]) [(0,_),(4,_),(8,_),(9,_)] (fun g=>Ws w [] [osT 68 7 XA.cells g.a g.c g.es] [g.J,HE,HS]) (fun g=>g.i≤l.length∧g.es.map (·.1)=(l.take g.i).map (actT σ)∧ers (errS σ) (l.take g.i)=0∧(Fresh w g.J∧Xs (SlA (ke+1) k) g.J g.es)) (fun g=>l.length-g.i) ⟨0,[],none,0,v0⟩ ⟨Nat.zero_le _,rfl,rfl,⟨v0_fresh w,Xs.nil _⟩⟩ (sc rfl (sc rfl (sc rfl (sc rfl (sc rfl (sc rfl sn)))))) (fun _ h=>by have h:=Ws.drops h (Vs':=[v0,HE,HS]) (by simp); exact h) ?_
 intro g ⟨hi,hmap,hers,⟨hfJ,hX⟩⟩
 refine Cs (Cr ?_)
 refine V0 (yl_lt rfl rfl) ?_
 refine Ln (Et (Cs ?_))
 refine Cc rfl (fun hc0=>?_) (fun hc0=>?_)
 ·
  have hlt:g.i<l.length:=by simpa using hc0
  obtain ⟨y,hyi⟩:∃q,l[g.i]? = some q:=⟨_,List.getElem?_eq_getElem hlt⟩
  obtain ⟨pby,poy,hay,hry⟩:=hm.elt g.i y hyi
  obtain ⟨k2,rfl⟩:∃k2,k=k2+1:=by
    cases k with
    | zero=>exact hry.elim
    | succ k2=>exact ⟨k2,rfl⟩
  obtain ⟨ya,yn,y2,m2,y3,m3,hrow,hs1,hs2,hs3⟩:=hry
  have hel:=map_len hmap hi
  refine Ck (Et (Cs (Cb (Cs (Cr ?_)))))
  refine V0 (Yo es25 rfl rfl hay (by omega)) ?_
  refine V0 (yl_lda 1 ag118 rfl rfl rfl (hrow)) ?_
  refine WL.alloc (.inl rfl) rfl zr118 fun b7=>?_
  refine Lst 0 (.inl rfl) rfl rfl rfl sz118 rfl rfl rfl ?_
  refine Ln (Et (Cr ?_))
  refine V0 (Ym rfl) ?_
  refine V0 (Ym rfl) ?_
  refine V0 (Yda 0 rfl rfl ag118 rfl) ?_
  refine WL.calldx (ι:=AAt) (κ:=Unit) (.inl rfl) rfl en57 rfl (fun r=>.agg (actV (actT σ y) r).toArray) (fun F r=>errS σ y=0∧SlA (ke+1) (k2+1) F (actT σ y,r)) (fun _=>refd (errS σ y)) (fun _=>errS σ y≠0) (fun w hw=>scAct_any HS HE sb σ ke k2 y ya yn y2 m2 y3 m3 w (hw.vs _ (by simp)) (hw.vs _ (by simp)) hS (scNodes_all HS sb σ hS ke) (fun HE l a c w h1 h2 h3 h4=>ih k2 (by omega) HE l a c w h1 h2 h3 h4) hs1 hs2 hs3 (by have:=wSs_mem hyi; omega)) ?_ ?_
  ·
   intro _ hp
   refine WE.block_panic ?_
   refine Ep ?_
   refine Ep ?_
   refine WE.block_panic ?_
   refine Ep ?_
   refine Epp fun w' hw=>?_
   have he:errSs σ l=errS σ y:=by rw [errSs_ers,ers_hit (errS σ) hyi hers hp]
   rw [he]
   exact .inr ⟨(),rfl,hw.fr,hp⟩
  intro F17 r17 hfr17 ⟨he17,h17⟩
  refine WL.vjoin fun J17 j17a j17b j17f=>?_
  refine Lb (.inl rfl) rfl el40 rfl rfl rfl rfl fun b18=>?_
  refine Lrb 0 (.cells (XA.cells (actT σ y,r17)).toArray 68 (0,0)) rfl (rfl) ?_
  refine LA (((actT σ y,r17):XA)) 2 0 (.inl rfl) rfl el40 rfl rfl rfl rfl rfl rfl (by omega) (by omega) fun a19 c19=>?_
  refine V0 (Ya rfl) ?_
  refine Ln (Eb (Et (Cr ?_)))
  refine V0 (Yi rfl rfl rfl (by omega)) ?_
  refine V0 (Ym rfl) ?_
  refine Ln ?_
  exact Ea (⟨g.i+1,g.es++[(actT σ y,r17)],a19,c19,J17⟩:GX XA) (by show _-(g.i+1)<_; omega) ⟨(by show g.i+1≤_; omega),map_snoc hmap hyi rfl,by show ers (errS σ) (l.take (g.i+1))=0; rw [ers_take (errS σ) hyi,hers,er_0,he17],⟨j17f _ hfr17 hfJ,Xs.snoc (R:=SlA _ _) (fun hv h=>SlA.mv hv h) hX j17b j17a h17⟩⟩ (sc rfl (sc rfl (sc rfl (sc rfl (sc rfl (sc rfl sn)))))) (fun _ h=>Ws.drop (L:=[_,_]) h)
 ·
  have hge:g.i=l.length:=by simp at hc0; omega
  refine Ce (Ex (Ex (Ebh (Et (Cs ?_)))))
  refine WC.oslN (rd:=rdXA) 0 rfl (fun _ hk=>by cases hk) XA.cells_len (fun _ _ _ _ h=>h) fun K7 fK7 hK7=>?_
  refine Cr ?_
  refine V0 (Ym rfl) ?_
  refine V0 (Ya rfl) ?_
  refine Ln (Et (Crt ?_))
  refine WE.ret1 rfl rfl fun w' hw=>?_
  have hz:errSs σ l=0:=by rw [errSs_ers,←hers,hge,List.take_length]
  have hall:=map_all hmap hge
  rw [←actsT_map] at hall
  rw [←hall]
  exact .inl ⟨(g.a,g.c),by rw [List.length_map],hw.fr,hz,slA_of hK7 (nv_vs hw (by simp) fK7) (nv_vs hw (by simp) hfJ) hX⟩
end Go.Proofs.YtinnlppbkhhoiaaGreatDoor
end
section
namespace Go.Proofs.YtinnlppbkhhoiaaGreatDoor
open Go.Bw
set_option linter.unusedVariables false
set_option linter.unusedSimpArgs false
def rdS (H:View) (b o:Nat) (e:SP×List Tx):Prop:=vc H b o=some (.slice e.1.1 e.2.length e.1.2)∧Sl rdStr 1 H e.1.1 e.1.2 e.2
def totL (ls:List ((Option Addr×Nat)×List Tx)):Nat:=(ls.map (·.2.length)).sum
theorem totL_take {ls:List ((Option Addr×Nat)×List Tx)} {i:Nat} {x:(Option Addr×Nat)×List Tx} (h:ls[i]? = some x):totL (ls.take (i+1))=totL (ls.take i)+x.2.length:=by
 simp [totL,List.take_add_one,h]
theorem totL_le (ls:List ((Option Addr×Nat)×List Tx)) (i:Nat):totL (ls.take i)≤totL ls:=by
 have e:totL ls=totL (ls.take i)+totL (ls.drop i):=by
   unfold totL
   rw [←List.sum_append,←List.map_append,List.take_append_drop]
 omega
theorem totL_flat (ls:List ((Option Addr×Nat)×List Tx)):(ls.flatMap (·.2)).length=totL ls:=by simp [totL,List.length_flatMap]
theorem es128:elemSz Tryz.prog 128=some 1:=by kernel_rfl
theorem en56:Enters Tryz.prog 56:=enters_of Tryz.func56 (by kernel_rfl) rfl
theorem sz73:sizeP Tryz.prog 73=some 1:=by kernel_rfl
theorem pl42:placesP Tryz.prog 42=some [(0,1),(1,1),(2,1),(3,1),(4,1)]:=by kernel_rfl
theorem zr42:zeroOf Tryz.prog 42=some (.agg #[st [],.slice none 0 0,.int .i64 0,.slice none 0 0,.slice none 0 0]):=by kernel_rfl
theorem fo73_0:fieldOff Tryz.prog 73 0=some 0:=by kernel_rfl
theorem sz42:sizeP Tryz.prog 42=some 5:=by kernel_rfl
theorem cloneS_any (H:View) (a:Option Addr) (c:Nat) (l:List Tx) (w:World) (hH:Le H w) (hm:Sl rdStr 1 H a c l) (hb:l.length≤1048576) :
   Calls Tryz.prog 34 #[.slice a l.length c] w fun e w'=>∃r:SP,e = .returned (.slice r.1 l.length r.2)∧Ext w w'∧Sl rdStr 1 (nv w w') r.1 r.2 l:=by
 have hcap:=hm.cap
 have hmax:=hm.max
 refine enter Tryz.func34 rfl 8 rfl rfl ?_
 refine CWd (W':=Ws w [] [] [H]) (fun _ e=>by subst e; exact Ws.init (by simp [hH])) ?_
 refine Cs (Cr ?_)
 refine V0 (Ya rfl) ?_
 refine Ln (Et (Cs (Cs (Cr ?_))))
 refine V0 (Ym rfl) ?_
 refine V0 (yl_eqnil es22 rfl) ?_
 refine Ln (Et ?_)
 refine Cc rfl (fun hc0=>?_) (fun hc0=>?_)
 ·
  have hnil:l=[]:=by
    cases l with
    | nil=>rfl
    | cons x r=>obtain ⟨b,o,h,_⟩:=hm.elt 0 x rfl; rw [h] at hc0; cases hc0
  refine Cs (Cr ?_)
  refine V0 (Ya rfl) ?_
  refine Ln (Et (Crt (Er ?_)))
  refine WE.ret1 rfl rfl fun w' hw=>?_
  subst hnil
  exact ⟨(none,0),rfl,hw.fr,Sl.nil⟩
 ·
  refine Ck (Et (Cs (Cr ?_)))
  refine WL.bslice (.inl rfl) rfl el22 rfl rfl rfl fun b5=>?_
  refine WL.asOsl (size:=1) 0 rfl (Nat.le_refl 0) (Nat.zero_le _) rfl ?_
  refine WL.reosl 0 ([]:List Tx).length (([]:List Tx).flatMap strC) rfl rfl rfl ?_
  refine V0 (Ym rfl) ?_
  refine WL.appendL (ys:=l) (xs:=[]) 0 (fun _=>H) (.inl rfl) rfl el22 rfl rfl rfl (fun w hw=>⟨hw.vs H (by simp),hm⟩) (fun _ _ _ _ h=>h) strC_len str_one (by simp; omega) (by simp; omega) fun a7 c7=>?_
  refine V0 (Ya rfl) ?_
  refine Ln (Et (Crt ?_))
  refine WE.ret1 rfl rfl fun w' hw=>?_
  exact ⟨(a7,c7),rfl,hw.fr,hw.slT 0 rfl strC_len (fun _ _ _ _ h=>h)⟩
theorem growS_any (m:Nat) (w:World) (hm:m≤1048576) :
   Calls Tryz.prog 56 #[.slice none 0 0,.int .i64 (m:Int)] w fun e w'=>∃r:SP,e = .returned (.slice r.1 ([]:List Tx).length r.2)∧Ws w [] [osT 9 1 strC r.1 r.2 ([]:List Tx)] [] w':=by
 refine enter Tryz.func56 rfl 27 rfl rfl ?_
 refine CWd (W':=Ws w [] [] []) (fun _ e=>by subst e; exact Ws.init (by simp)) ?_
 refine Cs (Cr ?_)
 refine V0 (Ya rfl) ?_
 refine Ln (Et (Cs (Cs (Cr ?_))))
 refine V0 (Ym rfl) ?_
 refine V0 (yl_lt rfl rfl) ?_
 refine Ln (Et ?_)
 refine Cc rfl (fun hc0=>?_) (fun hc0=>?_)
 ·
  exfalso
  simp at hc0
  omega
 ·
  refine Ck (Et (Cs (Cs (Cr ?_))))
  refine V0 (Ym rfl) ?_
  refine V0 (Ym rfl) ?_
  refine V0 (yl_cap es22 rfl) ?_
  refine V0 (Ym rfl) ?_
  refine V0 (Yn es22 rfl) ?_
  refine V0 (yl_subv 0 rfl rfl (by simp) (by omega)) ?_
  refine V0 (yl_subv (m:Int) rfl rfl (by simp) (by omega)) ?_
  refine V0 (Ya rfl) ?_
  refine Ln (Et (Cs (Cr ?_)))
  refine V0 (Ym rfl) ?_
  refine V0 (yl_gt rfl rfl) ?_
  refine Ln (Et ?_)
  refine Cc rfl (fun hc1=>?_) (fun hc1=>?_)
  ·
   have h0:0<m:=by simp at hc1; omega
   refine Cr ?_
   refine V0 (Ym rfl) ?_
   refine V0 (Ym rfl) ?_
   refine V0 (yl_cap es22 rfl) ?_
   refine V0 (yl_slhn 0 es22 rfl (by simp) rfl rfl (Nat.zero_le _)) ?_
   refine V0 (Ym rfl) ?_
   refine WL.zeros m (.inl rfl) rfl el22 ui3 rfl rfl h0 (by unfold maxLen; omega) (by omega) fun b22 c22 cur22 hc22 hcm22 hcs22=>?_
   refine WL.asOsl (m:=0) (cap:=c22) (size:=1) 0 rfl (Nat.zero_le _) hcm22 (by rw [hcs22,Nat.mul_one]) ?_
   refine WL.reosl 0 ([]:List Tx).length (([]:List Tx).flatMap strC) rfl rfl (by simp) ?_
   refine V0 (Ym rfl) ?_
   refine V0 (Yn es22 rfl) ?_
   refine V0 (yl_slhn ([]:List Tx).length es22 rfl (by simp) rfl rfl (Nat.zero_le _)) ?_
   refine V0 (Ya rfl) ?_
   refine Ln (Et (Cs (Cr ?_)))
   refine V0 (Ym rfl) ?_
   refine V0 (Ya rfl) ?_
   refine Ln (Et (Crt ?_))
   refine WE.ret1 rfl rfl fun w' hw=>?_
   exact ⟨(some ⟨b22,0,none⟩,c22),rfl,hw⟩
  ·
   refine Ck (Et (Cs (Cr ?_)))
   refine V0 (Ym rfl) ?_
   refine V0 (Ya rfl) ?_
   refine Ln (Et (Crt ?_))
   refine WE.ret1 rfl rfl fun w' hw=>?_
   exact ⟨(none,0),rfl,hw.osl_nil 9 1⟩
theorem concatS_any (H:View) (a:Option Addr) (c:Nat) (ls:List (SP×List Tx)) (w:World) (hH:Le H w) (hm:Sl rdS 1 H a c ls) (hb:totL ls≤1048576) (hls:ls.length≤1048576) :
   Calls Tryz.prog 35 #[.slice a ls.length c] w fun e w'=>∃r:SP,e = .returned (.slice r.1 (ls.flatMap (·.2)).length r.2)∧Ext w w'∧Sl rdStr 1 (nv w w') r.1 r.2 (ls.flatMap (·.2)):=by
 have hcap:=hm.cap
 have hmax:=hm.max
 refine enter Tryz.func35 rfl 36 rfl rfl ?_
 refine CWd (W':=Ws w [] [] [H]) (fun _ e=>by subst e; exact Ws.init (by simp [hH])) ?_
 refine Cs (Cr ?_)
 refine V0 (Ya rfl) ?_
 refine Ln (Et (Cs (Cr ?_)))
 refine V0 (Ya rfl) ?_
 refine Ln (Et (Cs (Cs (Cr ?_))))
 refine V0 (Ym rfl) ?_
 refine V0 (Yn es128 rfl) ?_
 refine V0 (Ym rfl) ?_
 refine Ln (Et (Cb ?_))
 refine CW (ι:=Nat) (fun i=>[(11,.int .i64 (i:Int)),(3,.int .i64 (totL (ls.take i):Int))]) [(0,_),(2,_),(9,_),(10,_)] (fun i=>i≤ls.length) (fun i=>ls.length-i) 0 (Nat.zero_le _) (sc rfl (sc rfl (sc rfl (sc rfl (sc rfl (sc rfl sn)))))) ?_
 intro i hi
 refine Cs (Cr ?_)
 refine V0 (yl_lt rfl rfl) ?_
 refine Ln (Et (Cs ?_))
 refine Cc rfl (fun hc0=>?_) (fun hc0=>?_)
 ·
  have hlt:i<ls.length:=by simpa using hc0
  obtain ⟨x,hx⟩:∃x,ls[i]? = some x:=⟨_,List.getElem?_eq_getElem hlt⟩
  obtain ⟨pb,po,ha,hrow,hxs⟩:=hm.elt i x hx
  have htk:=totL_take hx
  have htl:=totL_le ls (i+1)
  refine Ck (Et (Cs (Cb (Cs (Cr ?_)))))
  refine V0 (Yo es128 rfl rfl ha (by omega)) ?_
  refine V0 (yl_ld 0 na22 rfl rfl (hrow)) ?_
  refine V0 (Ya rfl) ?_
  refine Ln (Et (Cs (Cr ?_)))
  refine V0 (Ym rfl) ?_
  refine V0 (Ym rfl) ?_
  refine V0 (Yn es22 rfl) ?_
  refine V0 (yl_addn (a:=totL (ls.take i)) (b:=x.2.length) rfl rfl rfl rfl (by omega)) ?_
  refine V0 (Ya rfl) ?_
  refine Ln (Et (Cs (Cr ?_)))
  refine V0 (Ym rfl) ?_
  refine V0 (yl_lt rfl rfl) ?_
  refine Ln (Et ?_)
  refine Cc rfl (fun hc1=>?_) (fun hc1=>?_)
  ·
   exfalso
   simp at hc1
   omega
  ·
   refine Ck (Eb (Et (Cr ?_)))
   refine V0 (Yi rfl rfl rfl (by omega)) ?_
   refine V0 (Ym rfl) ?_
   refine Ln ?_
   rw [←htk]
   exact Ea (i+1) (by omega) (by omega) (sc rfl (sc rfl (sc rfl (sc rfl (sc rfl (sc rfl sn)))))) (fun _ h=>h)
 ·
  have hie:i=ls.length:=by simp at hc0; omega
  subst hie
  rw [List.take_length]
  refine Ce (Ex (Ex (Ebh (Et (Cs ?_)))))
  refine Cr ?_
  refine V0 (Ym rfl) ?_
  refine Lw (ι:=SP) [] _ (.inl rfl) rfl en56 rfl rfl (fun r=>.slice r.1 ([]:List Tx).length r.2) (fun r=>[osT 9 1 strC r.1 r.2 ([]:List Tx)]) (fun _=>True) [] (by simp) (fun w hw=>(growS_any (totL ls) w hb).mono fun e w' ⟨r,h1,h2⟩=>⟨r,h1,trivial,h2⟩) ?_
  intro r24 _
  refine V0 (Ya rfl) ?_
  refine Ln (Et (Cs (Cs (Cr ?_))))
  refine V0 (Ym rfl) ?_
  refine V0 (Yn es128 rfl) ?_
  refine V0 (Ym rfl) ?_
  refine Ln (Et (Cb ?_))
  refine CK (ι:=Nat×Option Addr×Nat) (fun g=>[(27,.int .i64 (g.1:Int)),(6,.slice g.2.1 ((ls.take g.1).flatMap (·.2)).length g.2.2)]) [(2,_),(25,_),(26,_)] (fun g=>Ws w [] [osT 9 1 strC g.2.1 g.2.2 ((ls.take g.1).flatMap (·.2))] [H]) (fun g=>g.1≤ls.length) (fun g=>ls.length-g.1) (0,r24.1,r24.2) (Nat.zero_le _) (sc rfl (sc rfl (sc rfl (sc rfl (sc rfl sn))))) (fun _ h=>h) ?_
  intro g hi
  refine Cs (Cr ?_)
  refine V0 (yl_lt rfl rfl) ?_
  refine Ln (Et (Cs ?_))
  refine Cc rfl (fun hc2=>?_) (fun hc2=>?_)
  ·
   have hlt:g.1<ls.length:=by simpa using hc2
   obtain ⟨x,hx⟩:∃x,ls[g.1]? = some x:=⟨_,List.getElem?_eq_getElem hlt⟩
   obtain ⟨pb,po,ha,hrow,hxs⟩:=hm.elt g.1 x hx
   have htk:=totL_take hx
   have htl:=totL_le ls (g.1+1)
   refine Ck (Et (Cs (Cb (Cs (Cr ?_)))))
   refine V0 (Yo es128 rfl rfl ha (by omega)) ?_
   refine V0 (yl_ld 0 na22 rfl rfl (hrow)) ?_
   refine V0 (Ya rfl) ?_
   refine Ln (Et (Cr ?_))
   refine V0 (Ym rfl) ?_
   refine V0 (Ym rfl) ?_
   refine WL.appendL (xs:=(ls.take g.1).flatMap (·.2)) (ys:=x.2) 0 (fun _=>H) (.inl rfl) rfl el22 rfl rfl rfl (fun w hw=>⟨hw.vs H (by simp),hxs⟩) (fun _ _ _ _ h=>h) strC_len str_one (by rw [totL_flat]; omega) (by rw [totL_flat]; omega) fun a33 c33=>?_
   rw [show ((ls.take g.1).flatMap (·.2))++x.2=(ls.take (g.1+1)).flatMap (·.2) by rw [List.take_add_one,hx]; simp]
   refine V0 (Ya rfl) ?_
   refine Ln (Eb (Et (Cr ?_)))
   refine V0 (Yi rfl rfl rfl (by omega)) ?_
   refine V0 (Ym rfl) ?_
   refine Ln ?_
   exact Ea ((g.1+1,a33,c33):Nat×Option Addr×Nat) (by first | omega | (dsimp only; omega)) (by first | omega | (dsimp only; omega)) (sc rfl (sc rfl (sc rfl (sc rfl (sc rfl sn))))) (fun _ h=>h)
  ·
   have hie:g.1=ls.length:=by simp at hc2; omega
   refine Ce (Ex (Ex (Ebh (Et (Cs ?_)))))
   refine Cr ?_
   refine V0 (Ym rfl) ?_
   refine V0 (Ya rfl) ?_
   refine Ln (Et (Crt ?_))
   refine WE.ret1 rfl rfl fun w' hw=>?_
   rw [hie,List.take_length] at hw
   rw [hie,List.take_length]
   exact ⟨(g.2.1,g.2.2),rfl,hw.fr,hw.slT 0 rfl strC_len (fun _ _ _ _ h=>h)⟩
theorem resolve1_ret (b4 b5:Nat) (m0:List Value) (hm0:m0.length=5) (e0 er_:Int) (w:World) (hw:Ws w (List.flatMap Asr.ids [blk b4 (.cells m0.toArray 42 (0,0)),blk b5 (.cells #[.int .i64 e0] 31 (0,0))]) [blk b4 (.cells m0.toArray 42 (0,0)),blk b5 (.cells #[.int .i64 e0] 31 (0,0))] [] w) :
   CallsD Tryz.prog 31 #[.pointer (some ⟨b4,0,none⟩),.pointer (some ⟨b5,0,none⟩)] (.returning) w fun e u2 w'=>u2 = .returning∧(e = .returned (.tuple #[])∧Ws w (List.flatMap Asr.ids [blk b4 (.cells m0.toArray 42 (0,0)),blk b5 (.cells #[.int .i64 e0] 31 (0,0))]) [blk b4 (.cells m0.toArray 42 (0,0)),blk b5 (.cells #[.int .i64 e0] 31 (0,0))] [] w'):=by
 refine closD Tryz.func31 rfl 18 rfl rfl rfl rfl rfl (fun _=>rfl) (.inl ⟨rfl,rfl,rfl⟩) ?_
 refine LW (W':=Ws w (List.flatMap Asr.ids [blk b4 (.cells m0.toArray 42 (0,0)),blk b5 (.cells #[.int .i64 e0] 31 (0,0))]) [blk b4 (.cells m0.toArray 42 (0,0)),blk b5 (.cells #[.int .i64 e0] 31 (0,0))] []) (fun _ e=>by subst e; exact hw) ?_
 refine V0 (Ya rfl) ?_
 refine Ln (Et (Cs (Cr ?_)))
 refine V0 (Ym rfl) ?_
 refine V0 (yl_taN Tryz.underlying73 zr73 rfl) ?_
 refine V0 (Ym rfl) ?_
 refine V0 (Yx rfl rfl) ?_
 refine V0 (Yx rfl rfl) ?_
 refine WL.alloc (.inl rfl) rfl zr73 fun b3=>?_
 refine Lst 0 (.inl rfl) rfl rfl rfl sz73 rfl rfl rfl ?_
 refine V0 (Ya rfl) ?_
 refine Ln (Et (Cs (Cr ?_)))
 refine V0 (Ym rfl) ?_
 refine Ln (Et ?_)
 refine WC.condf rfl ?_
 refine Cs (Cr ?_)
 refine V0 (Ym rfl) ?_
 refine V0 (yl_nein uif20 rfl) ?_
 refine Ln (Et ?_)
 refine WC.condf rfl ?_
 refine Ck ?_
 refine WE.end0 rfl fun w' hw=>?_
 exact ⟨rfl,Ws.drop (L:=[_]) hw⟩
theorem resolve1_pan (b4 b5:Nat) (m0:List Value) (hm0:m0.length=5) (e0 er_:Int) (w:World) (hw:Ws w (List.flatMap Asr.ids [blk b4 (.cells m0.toArray 42 (0,0)),blk b5 (.cells #[.int .i64 e0] 31 (0,0))]) [blk b4 (.cells m0.toArray 42 (0,0)),blk b5 (.cells #[.int .i64 e0] 31 (0,0))] [] w) :
   CallsD Tryz.prog 31 #[.pointer (some ⟨b4,0,none⟩),.pointer (some ⟨b5,0,none⟩)] (.panicking (refd er_)) w fun e u2 w'=>u2 = .panicking [⟨.iface 73 (.agg #[.int .i64 er_]),true,false⟩]∧(e = .returned (.tuple #[])∧Ws w (List.flatMap Asr.ids [blk b4 (.cells m0.toArray 42 (0,0)),blk b5 (.cells #[.int .i64 e0] 31 (0,0))]) [blk b4 (.cells (unitV noUnit noUAt).toArray 42 (0,0)),blk b5 (.cells #[.int .i64 er_] 31 (0,0))] [] w'):=by
 refine closD Tryz.func31 rfl 18 rfl rfl rfl rfl rfl (fun _=>rfl) (.inr ⟨_,rfl,rfl,rfl⟩) ?_
 refine LW (W':=Ws w (List.flatMap Asr.ids [blk b4 (.cells m0.toArray 42 (0,0)),blk b5 (.cells #[.int .i64 e0] 31 (0,0))]) [blk b4 (.cells m0.toArray 42 (0,0)),blk b5 (.cells #[.int .i64 e0] 31 (0,0))] []) (fun _ e=>by subst e; exact hw) ?_
 refine V0 (Ya rfl) ?_
 refine Ln (Et (Cs (Cr ?_)))
 refine V0 (Ym rfl) ?_
 refine V0 (yl_taY Tryz.underlying73 rfl) ?_
 refine V0 (Ym rfl) ?_
 refine V0 (Yx rfl rfl) ?_
 refine V0 (Yx rfl rfl) ?_
 refine WL.alloc (.inl rfl) rfl zr73 fun b3=>?_
 refine Lst 0 (.inl rfl) rfl rfl rfl sz73 rfl rfl rfl ?_
 refine V0 (Ya rfl) ?_
 refine Ln (Et (Cs (Cr ?_)))
 refine V0 (Ym rfl) ?_
 refine Ln (Et ?_)
 refine WC.condt rfl ?_
 refine WC.drawsK (fun _=>true) [1,1] [(0,true),(1,true),(2,true),(3,false),(4,false)] mixed (by kernel_rfl) (by kernel_rfl) (fun _ _ _ d _ _ h=>by cases d<;>exact h) ?_
 refine Dq rfl (.inl rfl) rfl (fun _ h=>by have h:=Ws.out 1 h; have h:=Ws.out 1 h; exact h) (Yb zr42 pl42 rfl rfl) ?_
 refine Dq rfl (.inl rfl) rfl (fun _ h=>by have h:=Ws.out 1 h; have h:=Ws.out 1 h; exact h) (Yf fo73_0 rfl) ?_
 refine Dq rfl (.inl rfl) rfl (fun _ h=>by have h:=Ws.out 1 h; have h:=Ws.out 1 h; exact h) (Yd 0 rfl rfl rfl na31) ?_
 refine De rfl (fun _ h=>by have h:=Ws.out 1 h; have h:=Ws.out 1 h; exact h) ?_
 refine WL.storeAs 1 (.cells (unitV noUnit noUAt).toArray 42 (0,0)) (.inl rfl) rfl rfl rfl sz42 rfl rfl (by simp [stOk,hm0]) (by simp [setIn,vcells,unitV,noUnit,noUAt,hm0,List.drop_eq_nil_of_le]) ?_
 refine Ln (Ed ?_)
 refine De rfl (fun _ h=>by have h:=Ws.out 1 h; have h:=Ws.out 1 h; exact h) ?_
 refine Lst 2 (.inl rfl) rfl rfl rfl sz31 rfl rfl rfl ?_
 refine Ln (Ed ?_)
 refine WD.nil (fun _ h=>by have h:=Ws.out 1 h; have h:=Ws.out 1 h; exact h) ?_
 refine WE.end0 rfl fun w' hw=>?_
 exact ⟨rfl,Ws.drop (L:=[_]) hw⟩
end Go.Proofs.YtinnlppbkhhoiaaGreatDoor
end
