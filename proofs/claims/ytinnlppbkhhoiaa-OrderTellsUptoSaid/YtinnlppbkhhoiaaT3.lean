/- The order of modules and what a module needs are as the document says, errors too, where what is handed in has a bulk of at most 1048576 (the second form). -/
import Derived.Test.YtinnlppbkhhoiaaT2
set_option linter.unusedVariables false
set_option linter.unusedSimpArgs false
section
namespace Go.Proofs.Ytinnlppbkhhoiaa
open Go.Bw
set_option linter.unusedVariables false
set_option linter.unusedSimpArgs false
theorem lookB_no {l:List TStmt} {lv d:Nat} (h:¬6<d):lookB l lv d=(((lv==2)&&decide (10<l.length))||lookSs l lv d):=by unfold lookB blkL; rw [if_neg h]
def LookB (H:View) (ke k lv:Nat):Prop:=∀(l:List TStmt) (a:Option Addr) (n d:Nat) (w:World),Le H w→d≤7→Sl (RdS ke k) 6 H a n l→Calls Try.prog 75 #[.slice a l.length n,.int .i64 (lv:Int),.int .i64 (d:Int)] w fun e w'=>e = .returned (.bool (lookB l lv d))∧Ext w w'
theorem str_one (s:Tx):(strC s).all (·.oneCell')=true:=rfl
theorem modL_end {m:TMod} {lv:Nat} (h0:(((lv==2)&&((decide (3<m.uses.length)||decide (10<m.decls.length))||decide (6<m.procs.length)))||badN lv m.nm)=false) (h1:m.uses.any (badN lv)=false) (h2:m.decls.any (declL lv)=false) (h3:m.procs.any (procL lv)=false):modL m lv=lookB m.main lv 1:=by
 unfold modL; rw [h0,h1,h2,h3]; rfl
theorem modL_0 {m:TMod} {lv:Nat} (h0:(((lv==2)&&((decide (3<m.uses.length)||decide (10<m.decls.length))||decide (6<m.procs.length)))||badN lv m.nm)=true):modL m lv=true:=by unfold modL; rw [h0]; rfl
theorem modL_1 {m:TMod} {lv:Nat} (h:m.uses.any (badN lv)=true):modL m lv=true:=by unfold modL; rw [h]; simp
theorem modL_2 {m:TMod} {lv:Nat} (h:m.decls.any (declL lv)=true):modL m lv=true:=by unfold modL; rw [h]; simp
theorem modL_3 {m:TMod} {lv:Nat} (h:m.procs.any (procL lv)=true):modL m lv=true:=by unfold modL; rw [h]; simp
theorem en75:Enters Try.prog 75:=enters_of Try.func75 (by kernel_rfl) rfl
theorem en91:Enters Try.prog 91:=enters_of Try.func91 (by kernel_rfl) rfl
theorem en93:Enters Try.prog 93:=enters_of Try.func93 (by kernel_rfl) rfl
theorem en85:Enters Try.prog 85:=enters_of Try.func85 (by kernel_rfl) rfl
theorem ag39:aggOf Try.prog 39=some 5:=by kernel_rfl
theorem en55:Enters Try.prog 55:=enters_of Try.func55 (by kernel_rfl) rfl
theorem stmtLook_any (H:View) (ke k:Nat) (x:TStmt) (a:Option Addr) (n:Nat) (a2:Option Addr) (n2:Nat) (a3:Option Addr) (n3 lv d:Nat) (w:World) (hH:Le H w) (hlv:1≤lv∧lv≤3) (hd0:d≤6) (hB:LookB H ke k lv) (hs1:Sl (RdE ke) 5 H a n x.args) (hs2:Sl (RdS ke k) 6 H a2 n2 x.body) (hs3:Sl (RdS ke k) 6 H a3 n3 x.other) :
   Calls Try.prog 85 #[.agg #[.int .i64 x.op,st x.mod,st x.nm,.slice a x.args.length n,.slice a2 x.body.length n2,.slice a3 x.other.length n3],.int .i64 (lv:Int),.int .i64 (d:Int)] w fun e w'=>e = .returned (.bool (lookS x lv d))∧Ext w w':=by
 have hcap:=hs1.cap
 have hmax:=hs1.max
 have hcap2:=hs2.cap
 have hcap3:=hs3.cap
 have hmax2:=hs2.max
 have hmax3:=hs3.max
 have hE:=lookS_eq x lv d
 refine enter Try.func85 rfl 144 rfl rfl ?_
 refine CWd (W':=Ws w [] [] [H]) (fun _ e=>by subst e; exact Ws.init (by simp [hH])) ?_
 refine Cs (Cr ?_)
 refine WL.box (.inl rfl) rfl rfl fun b3=>?_
 refine V0 (Ya rfl) ?_
 refine Ln (Et (Cs (Cs (Cr ?_))))
 refine V0 (Ym rfl) ?_
 refine Ln (Et (Cb (Cs (Cr ?_))))
 refine V0 (yl_eq rfl rfl) ?_
 refine V0 (Ya rfl) ?_
 refine Ln (Et ?_)
 refine Cc rfl (fun hc0=>?_) (fun hc0=>?_)
 ·
  have hl:lv=1:=by simp at hc0; omega
  subst hl
  refine Cs (Cr ?_)
  refine V0 (Yf fo104_0 rfl) ?_
  refine V0 (Yd 0 rfl rfl rfl na3) ?_
  refine Lp (.inl rfl) rfl en74 rfl (fun w hw=>within_any _ _ _ w) ?_
  refine V0 (yl_not rfl) ?_
  refine Ln (Et ?_)
  refine Cc rfl (fun hc1=>?_) (fun hc1=>?_)
  ·
   have hy:lvS 1 x.op x.mod x.nm x.args.length x.body.length x.other.length=true:=hc1
   refine Cs (Cr ?_)
   refine V0 (Ya rfl) ?_
   refine Ln (Et (Crt (Ebr (Er ?_))))
   refine WE.ret1 rfl rfl fun w' hw=>?_
   exact ⟨by rw [hE,hy]; rfl,hw.fr⟩
  ·
   have hno:lvS 1 x.op x.mod x.nm x.args.length x.body.length x.other.length=false:=hc1
   refine Ck (Eb (Et (Cs (Cs (Cr ?_)))))
   refine V0 (Ya rfl) ?_
   refine Ln (Et (Cb ?_))
   refine CW (ι:=Nat) (fun i=>[(7,.int .i64 (i:Int))]) [(1,_),(2,_),(3,_)] (fun i=>i≤x.args.length∧∀j y,j<i→x.args[j]? = some y→lookE y 1 1=false) (fun i=>x.args.length-i) 0 ⟨Nat.zero_le _,by simp⟩ (sc rfl (sc rfl (sc rfl (sc rfl sn)))) ?_
   intro i ⟨hi,hall⟩
   refine Cs (Cs (Cr ?_))
   refine V0 (Ym rfl) ?_
   refine V0 (Yf fo104_3 rfl) ?_
   refine V0 (Yd 0 rfl rfl rfl na102) ?_
   refine V0 (Yn es102 rfl) ?_
   refine V0 (yl_lt rfl rfl) ?_
   refine Ln (Et ?_)
   refine Cc rfl (fun hc6=>?_) (fun hc6=>?_)
   ·
    have hlt:i<x.args.length:=by simpa using hc6
    obtain ⟨y,hyi⟩:∃q,x.args[i]? = some q:=⟨_,List.getElem?_eq_getElem hlt⟩
    obtain ⟨pby,poy,hay,hry⟩:=hs1.elt i y hyi
    obtain ⟨k2,rfl⟩:∃k2,ke=k2+1:=by
      cases ke with
      | zero=>exact hry.elim
      | succ k2=>exact ⟨k2,rfl⟩
    obtain ⟨ya,yn,hrow,hsub⟩:=hry
    refine Ck (Et (Cs (Cb (Cs (Cr ?_)))))
    refine V0 (Yf fo104_3 rfl) ?_
    refine V0 (Yd 0 rfl rfl rfl na102) ?_
    refine V0 (Ym rfl) ?_
    refine V0 (Yo es102 rfl rfl hay (by omega)) ?_
    refine V0 (yl_lda 0 ag108 rfl rfl rfl (hrow)) ?_
    refine V0 (Ym rfl) ?_
    refine Lp (.inl rfl) rfl en94 rfl (fun w hw=>exprLook_any H k2 y ya yn _ 1 w (hw.vs _ (by simp)) hlv (by omega) hsub) ?_
    refine Ln (Et ?_)
    refine Cc rfl (fun hc7=>?_) (fun hc7=>?_)
    ·
     refine Cs (Cr ?_)
     refine V0 (Ya rfl) ?_
     refine Ln (Et (Crt (Ebr (Er (Er ?_)))))
     refine Ebr (Er ?_)
     refine WE.ret1 rfl rfl fun w' hw=>?_
     exact ⟨by rw [hE,lookEs_any,any_at hyi hc7,Bool.or_true,Bool.true_or],hw.fr⟩
    ·
     refine Ck (Eb (Et (Cr ?_)))
     refine V0 (Ym rfl) ?_
     refine V0 (Yi rfl rfl rfl (by omega)) ?_
     refine V0 (Ya rfl) ?_
     refine Ln ?_
     exact Ea (i+1) (by omega) ⟨by omega,fun j z hj hz=>by rcases Nat.lt_succ_iff_lt_or_eq.1 hj with h | rfl; exact hall j z h hz; rw [hyi] at hz; injection hz with hz; subst hz; exact hc7⟩ (sc rfl (sc rfl (sc rfl (sc rfl sn)))) (fun _ h=>h)
   ·
    have hge:¬i<x.args.length:=by simpa using hc6
    have hnn:lookEs x.args 1 1=false:=by rw [lookEs_any]; exact any_false fun j y hj=>hall j y (by have:=(List.getElem?_eq_some_iff.1 hj).1; omega) hj
    refine Ce (Ex (Ex (Ebh (Et (Cs ?_)))))
    refine Cr ?_
    refine V0 (Yf fo104_0 rfl) ?_
    refine V0 (Yd 0 rfl rfl rfl na3) ?_
    refine V0 (yl_eq rfl rfl) ?_
    refine V0 (Ym rfl) ?_
    apply WL.or 3 rfl rfl rfl rfl (.inl rfl) rfl rfl rfl rfl rfl
    ·
     intro hg0
     refine Lv (.g rfl rfl rfl) rfl (Yf fo104_0 rfl) ?_
     refine Lv (.g rfl rfl rfl) rfl (Yd 0 rfl rfl rfl na3) ?_
     refine Lv (.g rfl rfl rfl) rfl (yl_eq rfl rfl) ?_
     exact Gt 3 rfl rfl rfl
    refine V0 (Ya rfl) ?_
    refine Ln (Et (Cs (Cr ?_)))
    refine V0 (Ym rfl) ?_
    refine V0 (Ym rfl) ?_
    apply WL.or 4 rfl rfl rfl rfl (.inl rfl) rfl rfl rfl rfl rfl
    ·
     intro hg1
     refine Lv (.g rfl rfl rfl) rfl (Yf fo104_4 rfl) ?_
     refine Lv (.g rfl rfl rfl) rfl (Yd 0 rfl rfl rfl na37) ?_
     refine Lv (.g rfl rfl rfl) rfl (Yn es37 rfl) ?_
     refine Lv (.g rfl rfl rfl) rfl (yl_gt rfl rfl) ?_
     rw [int_lt0]
     exact Gt 4 rfl rfl rfl
    refine V0 (Ym rfl) ?_
    apply WL.and 6 rfl rfl rfl rfl (.inl rfl) rfl rfl rfl rfl rfl
    ·
     intro hg2
     refine Lv (.g rfl rfl rfl) rfl (Yf fo104_4 rfl) ?_
     refine Lv (.g rfl rfl rfl) rfl (Yd 0 rfl rfl rfl na37) ?_
     refine Lv (.g rfl rfl rfl) rfl (Ym rfl) ?_
     refine Lv (.g rfl rfl rfl) rfl (Ym rfl) ?_
     refine Lv (.g rfl rfl rfl) rfl (Yi rfl rfl rfl (by omega)) ?_
     refine Lp (.g rfl rfl rfl) rfl en75 rfl (fun w hw=>hB x.body a2 n2 (d+1) w (hw.vs _ (by simp)) (by omega) hs2) ?_
     exact Gt 6 rfl rfl rfl
    refine V0 (Ym rfl) ?_
    apply WL.or 12 rfl rfl rfl rfl (.inl rfl) rfl rfl rfl rfl rfl
    ·
     intro hg3
     refine Lv (.g rfl rfl rfl) rfl (Yf fo104_5 rfl) ?_
     refine Lv (.g rfl rfl rfl) rfl (Yd 0 rfl rfl rfl na37) ?_
     refine Lv (.g rfl rfl rfl) rfl (Yn es37 rfl) ?_
     refine Lv (.g rfl rfl rfl) rfl (yl_gt rfl rfl) ?_
     rw [int_lt0]
     refine Lv (.g rfl rfl rfl) rfl (Ym rfl) ?_
     apply WL.and 6 rfl rfl rfl rfl (.g rfl rfl rfl) rfl rfl rfl rfl rfl
     ·
      intro hg4
      refine Lv (.g rfl rfl rfl) rfl (Yf fo104_5 rfl) ?_
      refine Lv (.g rfl rfl rfl) rfl (Yd 0 rfl rfl rfl na37) ?_
      refine Lv (.g rfl rfl rfl) rfl (Ym rfl) ?_
      refine Lv (.g rfl rfl rfl) rfl (Ym rfl) ?_
      refine Lv (.g rfl rfl rfl) rfl (Yi rfl rfl rfl (by omega)) ?_
      refine Lp (.g rfl rfl rfl) rfl en75 rfl (fun w hw=>hB x.other a3 n3 (d+1) w (hw.vs _ (by simp)) (by omega) hs3) ?_
      exact Gt 6 rfl rfl rfl
     exact Gt 6 rfl rfl rfl
    refine V0 (Ya rfl) ?_
    refine Ln (Et (Crt ?_))
    refine WE.ret1 rfl rfl fun w' hw=>?_
    exact ⟨by rw [hE,hno,hnn]; rfl,hw.fr⟩
 ·
  have hl1:¬lv=1:=by simp at hc0; omega
  refine Cs (Cr ?_)
  refine V0 (yl_eq rfl rfl) ?_
  refine V0 (Ya rfl) ?_
  refine Ln (Et ?_)
  refine Cc rfl (fun hc2=>?_) (fun hc2=>?_)
  ·
   have hl:lv=2:=by simp at hc2; omega
   subst hl
   refine Cs (Cr ?_)
   refine V0 (Yf fo104_3 rfl) ?_
   refine V0 (Yd 0 rfl rfl rfl na102) ?_
   refine V0 (Yn es102 rfl) ?_
   refine V0 (yl_gt rfl rfl) ?_
   rw [int_lt3]
   refine Ln (Et ?_)
   refine Cc rfl (fun hc3=>?_) (fun hc3=>?_)
   ·
    have hy:lvS 2 x.op x.mod x.nm x.args.length x.body.length x.other.length=true:=hc3
    refine Cs (Cr ?_)
    refine V0 (Ya rfl) ?_
    refine Ln (Et (Crt (Ebr (Er ?_))))
    refine WE.ret1 rfl rfl fun w' hw=>?_
    exact ⟨by rw [hE,hy]; rfl,hw.fr⟩
   ·
    have hno:lvS 2 x.op x.mod x.nm x.args.length x.body.length x.other.length=false:=hc3
    refine Ck (Eb (Et (Cs (Cs (Cr ?_)))))
    refine V0 (Ya rfl) ?_
    refine Ln (Et (Cb ?_))
    refine CW (ι:=Nat) (fun i=>[(7,.int .i64 (i:Int))]) [(1,_),(2,_),(3,_)] (fun i=>i≤x.args.length∧∀j y,j<i→x.args[j]? = some y→lookE y 2 1=false) (fun i=>x.args.length-i) 0 ⟨Nat.zero_le _,by simp⟩ (sc rfl (sc rfl (sc rfl (sc rfl sn)))) ?_
    intro i ⟨hi,hall⟩
    refine Cs (Cs (Cr ?_))
    refine V0 (Ym rfl) ?_
    refine V0 (Yf fo104_3 rfl) ?_
    refine V0 (Yd 0 rfl rfl rfl na102) ?_
    refine V0 (Yn es102 rfl) ?_
    refine V0 (yl_lt rfl rfl) ?_
    refine Ln (Et ?_)
    refine Cc rfl (fun hc6=>?_) (fun hc6=>?_)
    ·
     have hlt:i<x.args.length:=by simpa using hc6
     obtain ⟨y,hyi⟩:∃q,x.args[i]? = some q:=⟨_,List.getElem?_eq_getElem hlt⟩
     obtain ⟨pby,poy,hay,hry⟩:=hs1.elt i y hyi
     obtain ⟨k2,rfl⟩:∃k2,ke=k2+1:=by
       cases ke with
       | zero=>exact hry.elim
       | succ k2=>exact ⟨k2,rfl⟩
     obtain ⟨ya,yn,hrow,hsub⟩:=hry
     refine Ck (Et (Cs (Cb (Cs (Cr ?_)))))
     refine V0 (Yf fo104_3 rfl) ?_
     refine V0 (Yd 0 rfl rfl rfl na102) ?_
     refine V0 (Ym rfl) ?_
     refine V0 (Yo es102 rfl rfl hay (by omega)) ?_
     refine V0 (yl_lda 0 ag108 rfl rfl rfl (hrow)) ?_
     refine V0 (Ym rfl) ?_
     refine Lp (.inl rfl) rfl en94 rfl (fun w hw=>exprLook_any H k2 y ya yn _ 1 w (hw.vs _ (by simp)) hlv (by omega) hsub) ?_
     refine Ln (Et ?_)
     refine Cc rfl (fun hc7=>?_) (fun hc7=>?_)
     ·
      refine Cs (Cr ?_)
      refine V0 (Ya rfl) ?_
      refine Ln (Et (Crt (Ebr (Er (Er ?_)))))
      refine Ebr (Er ?_)
      refine WE.ret1 rfl rfl fun w' hw=>?_
      exact ⟨by rw [hE,lookEs_any,any_at hyi hc7,Bool.or_true,Bool.true_or],hw.fr⟩
     ·
      refine Ck (Eb (Et (Cr ?_)))
      refine V0 (Ym rfl) ?_
      refine V0 (Yi rfl rfl rfl (by omega)) ?_
      refine V0 (Ya rfl) ?_
      refine Ln ?_
      exact Ea (i+1) (by omega) ⟨by omega,fun j z hj hz=>by rcases Nat.lt_succ_iff_lt_or_eq.1 hj with h | rfl; exact hall j z h hz; rw [hyi] at hz; injection hz with hz; subst hz; exact hc7⟩ (sc rfl (sc rfl (sc rfl (sc rfl sn)))) (fun _ h=>h)
    ·
     have hge:¬i<x.args.length:=by simpa using hc6
     have hnn:lookEs x.args 2 1=false:=by rw [lookEs_any]; exact any_false fun j y hj=>hall j y (by have:=(List.getElem?_eq_some_iff.1 hj).1; omega) hj
     refine Ce (Ex (Ex (Ebh (Et (Cs ?_)))))
     refine Cr ?_
     refine V0 (Yf fo104_0 rfl) ?_
     refine V0 (Yd 0 rfl rfl rfl na3) ?_
     refine V0 (yl_eq rfl rfl) ?_
     refine V0 (Ym rfl) ?_
     apply WL.or 3 rfl rfl rfl rfl (.inl rfl) rfl rfl rfl rfl rfl
     ·
      intro hg0
      refine Lv (.g rfl rfl rfl) rfl (Yf fo104_0 rfl) ?_
      refine Lv (.g rfl rfl rfl) rfl (Yd 0 rfl rfl rfl na3) ?_
      refine Lv (.g rfl rfl rfl) rfl (yl_eq rfl rfl) ?_
      exact Gt 3 rfl rfl rfl
     refine V0 (Ya rfl) ?_
     refine Ln (Et (Cs (Cr ?_)))
     refine V0 (Ym rfl) ?_
     refine V0 (Ym rfl) ?_
     apply WL.or 4 rfl rfl rfl rfl (.inl rfl) rfl rfl rfl rfl rfl
     ·
      intro hg1
      refine Lv (.g rfl rfl rfl) rfl (Yf fo104_4 rfl) ?_
      refine Lv (.g rfl rfl rfl) rfl (Yd 0 rfl rfl rfl na37) ?_
      refine Lv (.g rfl rfl rfl) rfl (Yn es37 rfl) ?_
      refine Lv (.g rfl rfl rfl) rfl (yl_gt rfl rfl) ?_
      rw [int_lt0]
      exact Gt 4 rfl rfl rfl
     refine V0 (Ym rfl) ?_
     apply WL.and 6 rfl rfl rfl rfl (.inl rfl) rfl rfl rfl rfl rfl
     ·
      intro hg2
      refine Lv (.g rfl rfl rfl) rfl (Yf fo104_4 rfl) ?_
      refine Lv (.g rfl rfl rfl) rfl (Yd 0 rfl rfl rfl na37) ?_
      refine Lv (.g rfl rfl rfl) rfl (Ym rfl) ?_
      refine Lv (.g rfl rfl rfl) rfl (Ym rfl) ?_
      refine Lv (.g rfl rfl rfl) rfl (Yi rfl rfl rfl (by omega)) ?_
      refine Lp (.g rfl rfl rfl) rfl en75 rfl (fun w hw=>hB x.body a2 n2 (d+1) w (hw.vs _ (by simp)) (by omega) hs2) ?_
      exact Gt 6 rfl rfl rfl
     refine V0 (Ym rfl) ?_
     apply WL.or 12 rfl rfl rfl rfl (.inl rfl) rfl rfl rfl rfl rfl
     ·
      intro hg3
      refine Lv (.g rfl rfl rfl) rfl (Yf fo104_5 rfl) ?_
      refine Lv (.g rfl rfl rfl) rfl (Yd 0 rfl rfl rfl na37) ?_
      refine Lv (.g rfl rfl rfl) rfl (Yn es37 rfl) ?_
      refine Lv (.g rfl rfl rfl) rfl (yl_gt rfl rfl) ?_
      rw [int_lt0]
      refine Lv (.g rfl rfl rfl) rfl (Ym rfl) ?_
      apply WL.and 6 rfl rfl rfl rfl (.g rfl rfl rfl) rfl rfl rfl rfl rfl
      ·
       intro hg4
       refine Lv (.g rfl rfl rfl) rfl (Yf fo104_5 rfl) ?_
       refine Lv (.g rfl rfl rfl) rfl (Yd 0 rfl rfl rfl na37) ?_
       refine Lv (.g rfl rfl rfl) rfl (Ym rfl) ?_
       refine Lv (.g rfl rfl rfl) rfl (Ym rfl) ?_
       refine Lv (.g rfl rfl rfl) rfl (Yi rfl rfl rfl (by omega)) ?_
       refine Lp (.g rfl rfl rfl) rfl en75 rfl (fun w hw=>hB x.other a3 n3 (d+1) w (hw.vs _ (by simp)) (by omega) hs3) ?_
       exact Gt 6 rfl rfl rfl
      exact Gt 6 rfl rfl rfl
     refine V0 (Ya rfl) ?_
     refine Ln (Et (Crt ?_))
     refine WE.ret1 rfl rfl fun w' hw=>?_
     exact ⟨by rw [hE,hno,hnn]; rfl,hw.fr⟩
  ·
   have hl2:¬lv=2:=by simp at hc2; omega
   refine Cs (Cr ?_)
   refine V0 (yl_eq rfl rfl) ?_
   refine V0 (Ya rfl) ?_
   refine Ln (Et ?_)
   refine Cc rfl (fun hc4=>?_) (fun hc4=>?_)
   ·
    have hl:lv=3:=by simp at hc4; omega
    subst hl
    refine Cs ?_
    refine WC.draws0 [(0,true),(1,true),(2,false),(3,true),(4,true),(5,true),(6,true),(7,true),(8,false),(9,true),(10,true),(11,true),(12,true),(13,true),(14,false),(15,true),(16,true),(17,true),(18,true),(19,true),(20,true),(21,true),(22,true),(23,true),(24,true),(25,true),(26,true),(27,true),(28,true),(29,true),(30,false),(31,true),(32,true),(33,true),(34,true),(35,true),(36,true),(37,true),(38,false),(39,true),(40,true),(41,true),(42,true),(43,true),(44,true),(45,true),(46,true),(47,true),(48,true),(49,true),(50,true),(51,true),(52,true),(53,true),(54,true),(55,true),(56,true),(57,true),(58,true),(59,true),(60,true),(61,true),(62,true),(63,true),(64,true),(65,true),(66,true),(67,true),(68,true)] mixed (by kernel_rfl) (fun _ _ _ d _ h=>by cases d<;>exact h) ?_
    refine Dq rfl (.inl rfl) rfl (fun _ h=>h) (Yf fo104_0 rfl) ?_
    refine Dq rfl (.inl rfl) rfl (fun _ h=>h) (Yd 0 rfl rfl rfl na3) ?_
    refine De rfl (fun _ h=>h) ?_
    refine Lp (.inl rfl) rfl en91 rfl (fun w hw=>stmtRef_any _ w) ?_
    refine Ln (Ed ?_)
    refine Dq rfl (.inl rfl) rfl (fun _ h=>h) (Ym rfl) ?_
    apply WD.and 6 rfl rfl rfl rfl rfl (.inl rfl) rfl (fun _ h=>h) rfl rfl rfl rfl
    ·
     intro hg5
     refine Dq rfl (.g rfl rfl rfl) rfl (fun _ h=>h) (Yf fo104_1 rfl) ?_
     refine Dq rfl (.g rfl rfl rfl) rfl (fun _ h=>h) (Yd 0 rfl rfl rfl na9) ?_
     refine Dq rfl (.g rfl rfl rfl) rfl (fun _ h=>h) (Yf fo104_2 rfl) ?_
     refine Dq rfl (.g rfl rfl rfl) rfl (fun _ h=>h) (Yd 0 rfl rfl rfl na9) ?_
     refine De rfl (fun _ h=>h) ?_
     refine Lp (.g rfl rfl rfl) rfl en92 rfl (fun w hw=>refFine_any _ _ w) ?_
     refine Ln (Ed ?_)
     refine Dq rfl (.g rfl rfl rfl) rfl (fun _ h=>h) (yl_not rfl) ?_
     exact Gi 6 (fun _ h=>h) rfl rfl rfl
    refine Dq rfl (.inl rfl) rfl (fun _ h=>h) (Ym rfl) ?_
    apply WD.or 14 (x:=(!within_ x.op 1 3&&(!(x.mod==[])||!(x.nm==[])))) rfl rfl rfl rfl rfl (.inl rfl) rfl (fun _ h=>h) rfl rfl rfl rfl
    ·
     intro hg6
     refine Dq rfl (.g rfl rfl rfl) rfl (fun _ h=>h) (Yf fo104_0 rfl) ?_
     refine Dq rfl (.g rfl rfl rfl) rfl (fun _ h=>h) (Yd 0 rfl rfl rfl na3) ?_
     refine De rfl (fun _ h=>h) ?_
     refine Lp (.g rfl rfl rfl) rfl en91 rfl (fun w hw=>stmtRef_any _ w) ?_
     refine Ln (Ed ?_)
     refine Dq rfl (.g rfl rfl rfl) rfl (fun _ h=>h) (yl_not rfl) ?_
     refine Dq rfl (.g rfl rfl rfl) rfl (fun _ h=>h) (Ym rfl) ?_
     apply WD.and 8 rfl rfl rfl rfl rfl (.g rfl rfl rfl) rfl (fun _ h=>h) rfl rfl rfl rfl
     ·
      intro hg7
      refine Dq rfl (.g rfl rfl rfl) rfl (fun _ h=>h) (Yf fo104_1 rfl) ?_
      refine Dq rfl (.g rfl rfl rfl) rfl (fun _ h=>h) (Yd 0 rfl rfl rfl na9) ?_
      refine Dq rfl (.g rfl rfl rfl) rfl (fun _ h=>h) (yl_nes rfl rfl) ?_
      refine Dq rfl (.g rfl rfl rfl) rfl (fun _ h=>h) (Ym rfl) ?_
      apply WD.or 3 rfl rfl rfl rfl rfl (.g rfl rfl rfl) rfl (fun _ h=>h) rfl rfl rfl rfl
      ·
       intro hg8
       refine Dq rfl (.g rfl rfl rfl) rfl (fun _ h=>h) (Yf fo104_2 rfl) ?_
       refine Dq rfl (.g rfl rfl rfl) rfl (fun _ h=>h) (Yd 0 rfl rfl rfl na9) ?_
       refine Dq rfl (.g rfl rfl rfl) rfl (fun _ h=>h) (yl_nes rfl rfl) ?_
       exact Gi 3 (fun _ h=>h) rfl rfl rfl
      exact Gi 5 (fun _ h=>h) rfl rfl rfl
     exact Gi 6 (fun _ h=>h) rfl rfl rfl
    refine Dq rfl (.inl rfl) rfl (fun _ h=>h) (Ym rfl) ?_
    apply WD.or 13 rfl rfl rfl rfl rfl (.inl rfl) rfl (fun _ h=>h) rfl rfl rfl rfl
    ·
     intro hg9
     refine Dq rfl (.g rfl rfl rfl) rfl (fun _ h=>h) (Yf fo104_0 rfl) ?_
     refine Dq rfl (.g rfl rfl rfl) rfl (fun _ h=>h) (Yd 0 rfl rfl rfl na3) ?_
     refine De rfl (fun _ h=>h) ?_
     refine Lp (.g rfl rfl rfl) rfl en93 rfl (fun w hw=>stmtArgs_any _ w) ?_
     refine Ln (Ed ?_)
     refine Dq rfl (.g rfl rfl rfl) rfl (fun _ h=>h) (yl_ge rfl rfl) ?_
     refine Dq rfl (.g rfl rfl rfl) rfl (fun _ h=>h) (Ym rfl) ?_
     apply WD.and 7 rfl rfl rfl rfl rfl (.g rfl rfl rfl) rfl (fun _ h=>h) rfl rfl rfl rfl
     ·
      intro hg10
      refine Dq rfl (.g rfl rfl rfl) rfl (fun _ h=>h) (Yf fo104_3 rfl) ?_
      refine Dq rfl (.g rfl rfl rfl) rfl (fun _ h=>h) (Yd 0 rfl rfl rfl na102) ?_
      refine Dq rfl (.g rfl rfl rfl) rfl (fun _ h=>h) (Yn es102 rfl) ?_
      refine Dq rfl (.g rfl rfl rfl) rfl (fun _ h=>h) (Yf fo104_0 rfl) ?_
      refine Dq rfl (.g rfl rfl rfl) rfl (fun _ h=>h) (Yd 0 rfl rfl rfl na3) ?_
      refine De rfl (fun _ h=>h) ?_
      refine Lp (.g rfl rfl rfl) rfl en93 rfl (fun w hw=>stmtArgs_any _ w) ?_
      refine Ln (Ed ?_)
      refine Dq rfl (.g rfl rfl rfl) rfl (fun _ h=>h) (yl_ne rfl rfl) ?_
      exact Gi 7 (fun _ h=>h) rfl rfl rfl
     exact Gi 6 (fun _ h=>h) rfl rfl rfl
    refine Dq rfl (.inl rfl) rfl (fun _ h=>h) (Ym rfl) ?_
    apply WD.or 14 (x:=((!(x.op==4)&&!(x.op==5))&&decide (0<x.body.length))) rfl rfl rfl rfl rfl (.inl rfl) rfl (fun _ h=>h) rfl rfl rfl rfl
    ·
     intro hg11
     refine Dq rfl (.g rfl rfl rfl) rfl (fun _ h=>h) (Yf fo104_0 rfl) ?_
     refine Dq rfl (.g rfl rfl rfl) rfl (fun _ h=>h) (Yd 0 rfl rfl rfl na3) ?_
     refine Dq rfl (.g rfl rfl rfl) rfl (fun _ h=>h) (yl_ne rfl rfl) ?_
     refine Dq rfl (.g rfl rfl rfl) rfl (fun _ h=>h) (Ym rfl) ?_
     apply WD.and 3 rfl rfl rfl rfl rfl (.g rfl rfl rfl) rfl (fun _ h=>h) rfl rfl rfl rfl
     ·
      intro hg12
      refine Dq rfl (.g rfl rfl rfl) rfl (fun _ h=>h) (Yf fo104_0 rfl) ?_
      refine Dq rfl (.g rfl rfl rfl) rfl (fun _ h=>h) (Yd 0 rfl rfl rfl na3) ?_
      refine Dq rfl (.g rfl rfl rfl) rfl (fun _ h=>h) (yl_ne rfl rfl) ?_
      exact Gi 3 (fun _ h=>h) rfl rfl rfl
     refine Dq rfl (.g rfl rfl rfl) rfl (fun _ h=>h) (Ym rfl) ?_
     apply WD.and 4 rfl rfl rfl rfl rfl (.g rfl rfl rfl) rfl (fun _ h=>h) rfl rfl rfl rfl
     ·
      intro hg13
      refine Dq rfl (.g rfl rfl rfl) rfl (fun _ h=>h) (Yf fo104_4 rfl) ?_
      refine Dq rfl (.g rfl rfl rfl) rfl (fun _ h=>h) (Yd 0 rfl rfl rfl na37) ?_
      refine Dq rfl (.g rfl rfl rfl) rfl (fun _ h=>h) (Yn es37 rfl) ?_
      refine Dq rfl (.g rfl rfl rfl) rfl (fun _ h=>h) (yl_gt rfl rfl) ?_
      rw [int_lt0]
      exact Gi 4 (fun _ h=>h) rfl rfl rfl
     exact Gi 7 (fun _ h=>h) rfl rfl rfl
    refine Dq rfl (.inl rfl) rfl (fun _ h=>h) (Ym rfl) ?_
    apply WD.or 9 rfl rfl rfl rfl rfl (.inl rfl) rfl (fun _ h=>h) rfl rfl rfl rfl
    ·
     intro hg14
     refine Dq rfl (.g rfl rfl rfl) rfl (fun _ h=>h) (Yf fo104_0 rfl) ?_
     refine Dq rfl (.g rfl rfl rfl) rfl (fun _ h=>h) (Yd 0 rfl rfl rfl na3) ?_
     refine Dq rfl (.g rfl rfl rfl) rfl (fun _ h=>h) (yl_ne rfl rfl) ?_
     refine Dq rfl (.g rfl rfl rfl) rfl (fun _ h=>h) (Ym rfl) ?_
     apply WD.and 4 rfl rfl rfl rfl rfl (.g rfl rfl rfl) rfl (fun _ h=>h) rfl rfl rfl rfl
     ·
      intro hg15
      refine Dq rfl (.g rfl rfl rfl) rfl (fun _ h=>h) (Yf fo104_5 rfl) ?_
      refine Dq rfl (.g rfl rfl rfl) rfl (fun _ h=>h) (Yd 0 rfl rfl rfl na37) ?_
      refine Dq rfl (.g rfl rfl rfl) rfl (fun _ h=>h) (Yn es37 rfl) ?_
      refine Dq rfl (.g rfl rfl rfl) rfl (fun _ h=>h) (yl_gt rfl rfl) ?_
      rw [int_lt0]
      exact Gi 4 (fun _ h=>h) rfl rfl rfl
     exact Gi 5 (fun _ h=>h) rfl rfl rfl
    refine WD.nil (fun _ h=>h) ?_
    refine Et ?_
    refine Cc rfl (fun hc5=>?_) (fun hc5=>?_)
    ·
     have hy:lvS 3 x.op x.mod x.nm x.args.length x.body.length x.other.length=true:=hc5
     refine Cs (Cr ?_)
     refine V0 (Ya rfl) ?_
     refine Ln (Et (Crt (Ebr (Er ?_))))
     refine WE.ret1 rfl rfl fun w' hw=>?_
     exact ⟨by rw [hE,hy]; rfl,hw.fr⟩
    ·
     have hno:lvS 3 x.op x.mod x.nm x.args.length x.body.length x.other.length=false:=hc5
     refine Ck (Eb (Et (Cs (Cs (Cr ?_)))))
     refine V0 (Ya rfl) ?_
     refine Ln (Et (Cb ?_))
     refine CW (ι:=Nat) (fun i=>[(7,.int .i64 (i:Int))]) [(1,_),(2,_),(3,_)] (fun i=>i≤x.args.length∧∀j y,j<i→x.args[j]? = some y→lookE y 3 1=false) (fun i=>x.args.length-i) 0 ⟨Nat.zero_le _,by simp⟩ (sc rfl (sc rfl (sc rfl (sc rfl sn)))) ?_
     intro i ⟨hi,hall⟩
     refine Cs (Cs (Cr ?_))
     refine V0 (Ym rfl) ?_
     refine V0 (Yf fo104_3 rfl) ?_
     refine V0 (Yd 0 rfl rfl rfl na102) ?_
     refine V0 (Yn es102 rfl) ?_
     refine V0 (yl_lt rfl rfl) ?_
     refine Ln (Et ?_)
     refine Cc rfl (fun hc6=>?_) (fun hc6=>?_)
     ·
      have hlt:i<x.args.length:=by simpa using hc6
      obtain ⟨y,hyi⟩:∃q,x.args[i]? = some q:=⟨_,List.getElem?_eq_getElem hlt⟩
      obtain ⟨pby,poy,hay,hry⟩:=hs1.elt i y hyi
      obtain ⟨k2,rfl⟩:∃k2,ke=k2+1:=by
        cases ke with
        | zero=>exact hry.elim
        | succ k2=>exact ⟨k2,rfl⟩
      obtain ⟨ya,yn,hrow,hsub⟩:=hry
      refine Ck (Et (Cs (Cb (Cs (Cr ?_)))))
      refine V0 (Yf fo104_3 rfl) ?_
      refine V0 (Yd 0 rfl rfl rfl na102) ?_
      refine V0 (Ym rfl) ?_
      refine V0 (Yo es102 rfl rfl hay (by omega)) ?_
      refine V0 (yl_lda 0 ag108 rfl rfl rfl (hrow)) ?_
      refine V0 (Ym rfl) ?_
      refine Lp (.inl rfl) rfl en94 rfl (fun w hw=>exprLook_any H k2 y ya yn _ 1 w (hw.vs _ (by simp)) hlv (by omega) hsub) ?_
      refine Ln (Et ?_)
      refine Cc rfl (fun hc7=>?_) (fun hc7=>?_)
      ·
       refine Cs (Cr ?_)
       refine V0 (Ya rfl) ?_
       refine Ln (Et (Crt (Ebr (Er (Er ?_)))))
       refine Ebr (Er ?_)
       refine WE.ret1 rfl rfl fun w' hw=>?_
       exact ⟨by rw [hE,lookEs_any,any_at hyi hc7,Bool.or_true,Bool.true_or],hw.fr⟩
      ·
       refine Ck (Eb (Et (Cr ?_)))
       refine V0 (Ym rfl) ?_
       refine V0 (Yi rfl rfl rfl (by omega)) ?_
       refine V0 (Ya rfl) ?_
       refine Ln ?_
       exact Ea (i+1) (by omega) ⟨by omega,fun j z hj hz=>by rcases Nat.lt_succ_iff_lt_or_eq.1 hj with h | rfl; exact hall j z h hz; rw [hyi] at hz; injection hz with hz; subst hz; exact hc7⟩ (sc rfl (sc rfl (sc rfl (sc rfl sn)))) (fun _ h=>h)
     ·
      have hge:¬i<x.args.length:=by simpa using hc6
      have hnn:lookEs x.args 3 1=false:=by rw [lookEs_any]; exact any_false fun j y hj=>hall j y (by have:=(List.getElem?_eq_some_iff.1 hj).1; omega) hj
      refine Ce (Ex (Ex (Ebh (Et (Cs ?_)))))
      refine Cr ?_
      refine V0 (Yf fo104_0 rfl) ?_
      refine V0 (Yd 0 rfl rfl rfl na3) ?_
      refine V0 (yl_eq rfl rfl) ?_
      refine V0 (Ym rfl) ?_
      apply WL.or 3 rfl rfl rfl rfl (.inl rfl) rfl rfl rfl rfl rfl
      ·
       intro hg0
       refine Lv (.g rfl rfl rfl) rfl (Yf fo104_0 rfl) ?_
       refine Lv (.g rfl rfl rfl) rfl (Yd 0 rfl rfl rfl na3) ?_
       refine Lv (.g rfl rfl rfl) rfl (yl_eq rfl rfl) ?_
       exact Gt 3 rfl rfl rfl
      refine V0 (Ya rfl) ?_
      refine Ln (Et (Cs (Cr ?_)))
      refine V0 (Ym rfl) ?_
      refine V0 (Ym rfl) ?_
      apply WL.or 4 rfl rfl rfl rfl (.inl rfl) rfl rfl rfl rfl rfl
      ·
       intro hg1
       refine Lv (.g rfl rfl rfl) rfl (Yf fo104_4 rfl) ?_
       refine Lv (.g rfl rfl rfl) rfl (Yd 0 rfl rfl rfl na37) ?_
       refine Lv (.g rfl rfl rfl) rfl (Yn es37 rfl) ?_
       refine Lv (.g rfl rfl rfl) rfl (yl_gt rfl rfl) ?_
       rw [int_lt0]
       exact Gt 4 rfl rfl rfl
      refine V0 (Ym rfl) ?_
      apply WL.and 6 rfl rfl rfl rfl (.inl rfl) rfl rfl rfl rfl rfl
      ·
       intro hg2
       refine Lv (.g rfl rfl rfl) rfl (Yf fo104_4 rfl) ?_
       refine Lv (.g rfl rfl rfl) rfl (Yd 0 rfl rfl rfl na37) ?_
       refine Lv (.g rfl rfl rfl) rfl (Ym rfl) ?_
       refine Lv (.g rfl rfl rfl) rfl (Ym rfl) ?_
       refine Lv (.g rfl rfl rfl) rfl (Yi rfl rfl rfl (by omega)) ?_
       refine Lp (.g rfl rfl rfl) rfl en75 rfl (fun w hw=>hB x.body a2 n2 (d+1) w (hw.vs _ (by simp)) (by omega) hs2) ?_
       exact Gt 6 rfl rfl rfl
      refine V0 (Ym rfl) ?_
      apply WL.or 12 rfl rfl rfl rfl (.inl rfl) rfl rfl rfl rfl rfl
      ·
       intro hg3
       refine Lv (.g rfl rfl rfl) rfl (Yf fo104_5 rfl) ?_
       refine Lv (.g rfl rfl rfl) rfl (Yd 0 rfl rfl rfl na37) ?_
       refine Lv (.g rfl rfl rfl) rfl (Yn es37 rfl) ?_
       refine Lv (.g rfl rfl rfl) rfl (yl_gt rfl rfl) ?_
       rw [int_lt0]
       refine Lv (.g rfl rfl rfl) rfl (Ym rfl) ?_
       apply WL.and 6 rfl rfl rfl rfl (.g rfl rfl rfl) rfl rfl rfl rfl rfl
       ·
        intro hg4
        refine Lv (.g rfl rfl rfl) rfl (Yf fo104_5 rfl) ?_
        refine Lv (.g rfl rfl rfl) rfl (Yd 0 rfl rfl rfl na37) ?_
        refine Lv (.g rfl rfl rfl) rfl (Ym rfl) ?_
        refine Lv (.g rfl rfl rfl) rfl (Ym rfl) ?_
        refine Lv (.g rfl rfl rfl) rfl (Yi rfl rfl rfl (by omega)) ?_
        refine Lp (.g rfl rfl rfl) rfl en75 rfl (fun w hw=>hB x.other a3 n3 (d+1) w (hw.vs _ (by simp)) (by omega) hs3) ?_
        exact Gt 6 rfl rfl rfl
       exact Gt 6 rfl rfl rfl
      refine V0 (Ya rfl) ?_
      refine Ln (Et (Crt ?_))
      refine WE.ret1 rfl rfl fun w' hw=>?_
      exact ⟨by rw [hE,hno,hnn]; rfl,hw.fr⟩
   ·
    exact (show False by simp at hc4; omega).elim
theorem blockLook_any (H:View) (ke lv:Nat) (hlv:1≤lv∧lv≤3) (k:Nat) (l:List TStmt) (a:Option Addr) (n d:Nat) (w:World) (hH:Le H w) (hd0:d≤7) (hm:Sl (RdS ke k) 6 H a n l) :
   Calls Try.prog 75 #[.slice a l.length n,.int .i64 (lv:Int),.int .i64 (d:Int)] w fun e w'=>e = .returned (.bool (lookB l lv d))∧Ext w w':=by
 induction k using Nat.strongRecOn generalizing l a n d w
 rename_i k ih
 have hcap:=hm.cap
 have hmax:=hm.max
 refine enter Try.func75 rfl 32 rfl rfl ?_
 refine CWd (W':=Ws w [] [] [H]) (fun _ e=>by subst e; exact Ws.init (by simp [hH])) ?_
 refine Cs (Cr ?_)
 refine V0 (Ya rfl) ?_
 refine Ln (Et (Cs (Cs (Cr ?_))))
 refine V0 (Ym rfl) ?_
 refine V0 (yl_gt rfl rfl) ?_
 refine Ln (Et ?_)
 refine Cc rfl (fun hc0=>?_) (fun hc0=>?_)
 ·
  have hd:6<d:=by simp at hc0; omega
  refine Cs (Cr ?_)
  refine V0 (Ym rfl) ?_
  refine V0 (yl_eq rfl rfl) ?_
  rw [show ((lv:Int)==2)=(lv==2) from lv_eq lv 2]
  refine V0 (Ya rfl) ?_
  refine Ln (Et (Crt (Er ?_)))
  refine WE.ret1 rfl rfl fun w' hw=>?_
  exact ⟨by unfold lookB blkL; rw [if_pos hd],hw.fr⟩
 ·
  have hd:¬6<d:=by simp at hc0; omega
  have hE:=lookB_no (l:=l) (lv:=lv) hd
  refine Ck (Et (Cs (Cs (Cr ?_))))
  refine V0 (Ym rfl) ?_
  refine V0 (yl_eq rfl rfl) ?_
  rw [show ((lv:Int)==2)=(lv==2) from lv_eq lv 2]
  refine V0 (Ym rfl) ?_
  apply WL.and 3 rfl rfl rfl rfl (.inl rfl) rfl rfl rfl rfl rfl
  ·
   intro hg0
   refine Lv (.g rfl rfl rfl) rfl (Ym rfl) ?_
   refine Lv (.g rfl rfl rfl) rfl (Yn es37 rfl) ?_
   refine Lv (.g rfl rfl rfl) rfl (yl_gt rfl rfl) ?_
   rw [int_lt10]
   exact Gt 3 rfl rfl rfl
  refine Ln (Et ?_)
  refine Cc rfl (fun hc1=>?_) (fun hc1=>?_)
  ·
   refine Cs (Cr ?_)
   refine V0 (Ya rfl) ?_
   refine Ln (Et (Crt (Er ?_)))
   refine WE.ret1 rfl rfl fun w' hw=>?_
   exact ⟨by rw [hE,hc1]; rfl,hw.fr⟩
  ·
   refine Ck (Et (Cs (Cs (Cr ?_))))
   refine V0 (Ya rfl) ?_
   refine Ln (Et (Cb ?_))
   refine CW (ι:=Nat) (fun i=>[(7,.int .i64 (i:Int))]) [(0,_),(1,_),(2,_)] (fun i=>i≤l.length∧∀j y,j<i→l[j]? = some y→lookS y lv d=false) (fun i=>l.length-i) 0 ⟨Nat.zero_le _,by simp⟩ (sc rfl (sc rfl (sc rfl (sc rfl sn)))) ?_
   intro i ⟨hi,hall⟩
   refine Cs (Cs (Cr ?_))
   refine V0 (Ym rfl) ?_
   refine V0 (Ym rfl) ?_
   refine V0 (Yn es37 rfl) ?_
   refine V0 (yl_lt rfl rfl) ?_
   refine Ln (Et ?_)
   refine Cc rfl (fun hc2=>?_) (fun hc2=>?_)
   ·
    have hlt:i<l.length:=by simpa using hc2
    obtain ⟨y,hyi⟩:∃q,l[i]? = some q:=⟨_,List.getElem?_eq_getElem hlt⟩
    obtain ⟨pby,poy,hay,hry⟩:=hm.elt i y hyi
    obtain ⟨k2,rfl⟩:∃k2,k=k2+1:=by
      cases k with
      | zero=>exact hry.elim
      | succ k2=>exact ⟨k2,rfl⟩
    obtain ⟨ya,yn,y2,m2,y3,m3,hrow,hs1,hs2,hs3⟩:=hry
    refine Ck (Et (Cs (Cb (Cs (Cr ?_)))))
    refine V0 (Ym rfl) ?_
    refine V0 (Ym rfl) ?_
    refine V0 (Yo es37 rfl rfl hay (by omega)) ?_
    refine V0 (yl_lda 0 ag104 rfl rfl rfl (hrow)) ?_
    refine V0 (Ym rfl) ?_
    refine V0 (Ym rfl) ?_
    refine Lp (.inl rfl) rfl en85 rfl (fun w hw=>stmtLook_any H ke k2 y ya yn y2 m2 y3 m3 lv d w (hw.vs _ (by simp)) hlv (by omega) (fun l a n d w h1 h2 h3=>ih k2 (by omega) l a n d w h1 h2 h3) hs1 hs2 hs3) ?_
    refine Ln (Et ?_)
    refine Cc rfl (fun hc3=>?_) (fun hc3=>?_)
    ·
     refine Cs (Cr ?_)
     refine V0 (Ya rfl) ?_
     refine Ln (Et (Crt (Ebr (Er (Er ?_)))))
     refine Ebr (Er ?_)
     refine WE.ret1 rfl rfl fun w' hw=>?_
     exact ⟨by rw [hE,lookSs_any,any_at hyi hc3,Bool.or_true],hw.fr⟩
    ·
     refine Ck (Eb (Et (Cr ?_)))
     refine V0 (Ym rfl) ?_
     refine V0 (Yi rfl rfl rfl (by omega)) ?_
     refine V0 (Ya rfl) ?_
     refine Ln ?_
     exact Ea (i+1) (by omega) ⟨by omega,fun j z hj hz=>by rcases Nat.lt_succ_iff_lt_or_eq.1 hj with h | rfl; exact hall j z h hz; rw [hyi] at hz; injection hz with hz; subst hz; exact hc3⟩ (sc rfl (sc rfl (sc rfl (sc rfl sn)))) (fun _ h=>h)
   ·
    have hge:¬i<l.length:=by simpa using hc2
    have hnn:lookSs l lv d=false:=by rw [lookSs_any]; exact any_false fun j y hj=>hall j y (by have:=(List.getElem?_eq_some_iff.1 hj).1; omega) hj
    refine Ce (Ex (Ex (Ebh (Et (Cs ?_)))))
    refine Cr ?_
    refine V0 (Ya rfl) ?_
    refine Ln (Et (Crt ?_))
    refine WE.ret1 rfl rfl fun w' hw=>?_
    exact ⟨by rw [hE,hc1,hnn]; rfl,hw.fr⟩
theorem moduleLook_any (H:View) (ke ks:Nat) (r:MAt) (m:TMod) (lv:Nat) (w:World) (hlv:1≤lv∧lv≤3) (hH:Le H w) (hm:RdM ke ks H r m) (hb:wM m≤109951162777) :
   Calls Try.prog 55 #[.agg (modV m r).toArray,.int .i64 (lv:Int)] w fun e w'=>e = .returned (.bool (modL m lv))∧Ext w w':=by
 have cu:=hm.uses.cap
 have xu:=hm.uses.max
 have cd:=hm.decls.cap
 have xd:=hm.decls.max
 have cp:=hm.procs.cap
 have xp:=hm.procs.max
 have hwM:wM m=1+m.nm.length+wN m.uses+wD m.decls+wP m.procs+wSs m.main:=rfl
 refine enter Try.func55 rfl 189 rfl rfl ?_
 refine CWd (W':=Ws w [] [] [H]) (fun _ e=>by subst e; exact Ws.init (by simp [hH])) ?_
 refine Cs (Cr ?_)
 refine WL.box (.inl rfl) rfl rfl fun b2=>?_
 refine V0 (Ya rfl) ?_
 refine Ln (Et (Cs (Cs (Cr ?_))))
 refine V0 (Ym rfl) ?_
 refine V0 (yl_eq rfl rfl) ?_
 rw [show ((lv:Int)==2)=(lv==2) from lv_eq lv 2]
 refine V0 (Ym rfl) ?_
 apply WL.and 16 rfl rfl rfl rfl (.inl rfl) rfl rfl rfl rfl rfl
 ·
  intro hg0
  refine Lv (.g rfl rfl rfl) rfl (Yf fo39_1 rfl) ?_
  refine Lv (.g rfl rfl rfl) rfl (Yd 0 rfl rfl rfl na27) ?_
  refine Lv (.g rfl rfl rfl) rfl (Yn es27 rfl) ?_
  refine Lv (.g rfl rfl rfl) rfl (yl_gt rfl rfl) ?_
  rw [int_lt3]
  refine Lv (.g rfl rfl rfl) rfl (Ym rfl) ?_
  apply WL.or 4 rfl rfl rfl rfl (.g rfl rfl rfl) rfl rfl rfl rfl rfl
  ·
   intro hg1
   refine Lv (.g rfl rfl rfl) rfl (Yf fo39_2 rfl) ?_
   refine Lv (.g rfl rfl rfl) rfl (Yd 0 rfl rfl rfl na35) ?_
   refine Lv (.g rfl rfl rfl) rfl (Yn es35 rfl) ?_
   refine Lv (.g rfl rfl rfl) rfl (yl_gt rfl rfl) ?_
   rw [int_lt10]
   exact Gt 4 rfl rfl rfl
  refine Lv (.g rfl rfl rfl) rfl (Ym rfl) ?_
  apply WL.or 4 rfl rfl rfl rfl (.g rfl rfl rfl) rfl rfl rfl rfl rfl
  ·
   intro hg2
   refine Lv (.g rfl rfl rfl) rfl (Yf fo39_3 rfl) ?_
   refine Lv (.g rfl rfl rfl) rfl (Yd 0 rfl rfl rfl na36) ?_
   refine Lv (.g rfl rfl rfl) rfl (Yn es36 rfl) ?_
   refine Lv (.g rfl rfl rfl) rfl (yl_gt rfl rfl) ?_
   rw [int_lt6]
   exact Gt 4 rfl rfl rfl
  exact Gt 8 rfl rfl rfl
 refine V0 (Ym rfl) ?_
 apply WL.or 8 rfl rfl rfl rfl (.inl rfl) rfl rfl rfl rfl rfl
 ·
  intro hg3
  refine Lv (.g rfl rfl rfl) rfl (Ym rfl) ?_
  refine Lv (.g rfl rfl rfl) rfl (yl_eq rfl rfl) ?_
  rw [show ((lv:Int)==3)=(lv==3) from lv_eq lv 3]
  refine Lv (.g rfl rfl rfl) rfl (Ym rfl) ?_
  apply WL.and 4 rfl rfl rfl rfl (.g rfl rfl rfl) rfl rfl rfl rfl rfl
  ·
   intro hg4
   refine Lv (.g rfl rfl rfl) rfl (Yf fo39_0 rfl) ?_
   refine Lv (.g rfl rfl rfl) rfl (Yd 0 rfl rfl rfl na9) ?_
   refine Lp (.g rfl rfl rfl) rfl en73 rfl (fun w hw=>isNAME_any _ w) ?_
   refine Lv (.g rfl rfl rfl) rfl (yl_not rfl) ?_
   exact Gt 4 rfl rfl rfl
  exact Gt 4 rfl rfl rfl
 refine Ln (Et ?_)
 refine Cc rfl (fun hc0=>?_) (fun hc0=>?_)
 ·
  refine Cs (Cr ?_)
  refine V0 (Ya rfl) ?_
  refine Ln (Et (Crt (Er ?_)))
  refine WE.ret1 rfl rfl fun w' hw=>?_
  exact ⟨by rw [modL_0 hc0],hw.fr⟩
 ·
  refine Ck (Et (Cs (Cs (Cr ?_))))
  refine V0 (Ya rfl) ?_
  refine Ln (Et (Cb ?_))
  refine CW (ι:=Nat) (fun i=>[(5,.int .i64 (i:Int))]) [(1,_),(2,_)] (fun i=>i≤m.uses.length∧∀j z,j<i→m.uses[j]? = some z→badN lv z=false) (fun i=>m.uses.length-i) 0 ⟨Nat.zero_le _,by simp⟩ (sc rfl (sc rfl (sc rfl sn))) ?_
  intro i ⟨hii,hallu⟩
  refine Cs (Cs (Cr ?_))
  refine V0 (Ym rfl) ?_
  refine V0 (Yf fo39_1 rfl) ?_
  refine V0 (Yd 0 rfl rfl rfl na27) ?_
  refine V0 (Yn es27 rfl) ?_
  refine V0 (yl_lt rfl rfl) ?_
  refine Ln (Et ?_)
  refine Cc rfl (fun hc1=>?_) (fun hc1=>?_)
  ·
   have hlt:i<m.uses.length:=by simpa using hc1
   obtain ⟨u,hui⟩:∃x,m.uses[i]? = some x:=⟨_,List.getElem?_eq_getElem hlt⟩
   obtain ⟨pbu,pou,ha,hrow⟩:=hm.uses.elt i u hui
   have hrow:RdC H pbu (pou+i*1) (strC u):=hrow
   refine Ck (Et (Cs (Cb (Cs (Cr ?_)))))
   refine V0 (Ym rfl) ?_
   refine V0 (yl_eq rfl rfl) ?_
   rw [show ((lv:Int)==3)=(lv==3) from lv_eq lv 3]
   refine V0 (Ym rfl) ?_
   apply WL.and 7 rfl rfl rfl rfl (.inl rfl) rfl rfl rfl rfl rfl
   ·
    intro hg5
    refine Lv (.g rfl rfl rfl) rfl (Yf fo39_1 rfl) ?_
    refine Lv (.g rfl rfl rfl) rfl (Yd 0 rfl rfl rfl na27) ?_
    refine Lv (.g rfl rfl rfl) rfl (Ym rfl) ?_
    refine Lv (.g rfl rfl rfl) rfl (Yo es27 rfl rfl ha (by omega)) ?_
    refine Lv (.g rfl rfl rfl) rfl (yl_ld 0 na9 rfl rfl (hrow 0 _ rfl)) ?_
    refine Lp (.g rfl rfl rfl) rfl en73 rfl (fun w hw=>isNAME_any _ w) ?_
    refine Lv (.g rfl rfl rfl) rfl (yl_not rfl) ?_
    exact Gt 7 rfl rfl rfl
   refine Ln (Et ?_)
   refine Cc rfl (fun hc2=>?_) (fun hc2=>?_)
   ·
    refine Cs (Cr ?_)
    refine V0 (Ya rfl) ?_
    refine Ln (Et (Crt (Ebr (Er (Er ?_)))))
    refine Ebr (Er ?_)
    refine WE.ret1 rfl rfl fun w' hw=>?_
    exact ⟨by rw [modL_1 (any_at hui hc2)],hw.fr⟩
   ·
    refine Ck (Eb (Et (Cr ?_)))
    refine V0 (Ym rfl) ?_
    refine V0 (Yi rfl rfl rfl (by omega)) ?_
    refine V0 (Ya rfl) ?_
    refine Ln ?_
    exact Ea (i+1) (by omega) ⟨by omega,fun j z hj hz=>by rcases Nat.lt_succ_iff_lt_or_eq.1 hj with h | rfl; exact hallu j z h hz; rw [hui] at hz; injection hz with hz; subst hz; exact hc2⟩ (sc rfl (sc rfl (sc rfl sn))) (fun _ h=>h)
  ·
   have hgeu:¬i<m.uses.length:=by simpa using hc1
   have hanyu:m.uses.any (badN lv)=false:=any_false fun j z hj=>hallu j z (by have:=(List.getElem?_eq_some_iff.1 hj).1; omega) hj
   refine Ce (Ex (Ex (Ebh (Et (Cs ?_)))))
   refine Cs (Cr ?_)
   refine V0 (Ya rfl) ?_
   refine Ln (Et (Cb ?_))
   refine CW (ι:=Nat) (fun p=>[(6,.int .i64 (p:Int))]) [(1,_),(2,_)] (fun p=>p≤m.decls.length∧∀j z,j<p→m.decls[j]? = some z→declL lv z=false) (fun p=>m.decls.length-p) 0 ⟨Nat.zero_le _,by simp⟩ (sc rfl (sc rfl (sc rfl sn))) ?_
   intro p ⟨hip,halld⟩
   refine Cs (Cs (Cr ?_))
   refine V0 (Ym rfl) ?_
   refine V0 (Yf fo39_2 rfl) ?_
   refine V0 (Yd 0 rfl rfl rfl na35) ?_
   refine V0 (Yn es35 rfl) ?_
   refine V0 (yl_lt rfl rfl) ?_
   refine Ln (Et ?_)
   refine Cc rfl (fun hc3=>?_) (fun hc3=>?_)
   ·
    have hlt:p<m.decls.length:=by simpa using hc3
    obtain ⟨d,hdi⟩:∃q,m.decls[p]? = some q:=⟨_,List.getElem?_eq_getElem hlt⟩
    obtain ⟨pbd,pod,had,hrd⟩:=hm.decls.elt p d hdi
    have hrd:RdC H pbd (pod+p*4) d.cells:=hrd
    refine Ck (Et (Cs (Cb (Cs (Cr ?_)))))
    refine V0 (Yf fo39_2 rfl) ?_
    refine V0 (Yd 0 rfl rfl rfl na35) ?_
    refine V0 (Ym rfl) ?_
    refine V0 (Yo es35 rfl rfl had (by omega)) ?_
    refine V0 (yl_lda 0 ag80 rfl rfl rfl (hrd)) ?_
    refine WL.alloc (.inl rfl) rfl zr80 fun b7=>?_
    refine Lst 0 (.inl rfl) rfl rfl rfl sz80 rfl rfl rfl ?_
    refine Ln (Et (Cs (Cs (Cr ?_))))
    refine V0 (Ym rfl) ?_
    refine V0 (yl_eq rfl rfl) ?_
    rw [show ((lv:Int)==1)=(lv==1) from lv_eq lv 1]
    refine V0 (Ym rfl) ?_
    apply WL.and 4 rfl rfl rfl rfl (.inl rfl) rfl rfl rfl rfl rfl
    ·
     intro hg6
     refine Lv (.g rfl rfl rfl) rfl (Yf fo80_0 rfl) ?_
     refine Lv (.g rfl rfl rfl) rfl (Yd 0 rfl rfl rfl na3) ?_
     refine Lp (.g rfl rfl rfl) rfl en74 rfl (fun w hw=>within_any _ _ _ w) ?_
     refine Lv (.g rfl rfl rfl) rfl (yl_not rfl) ?_
     exact Gt 4 rfl rfl rfl
    refine Ln (Et ?_)
    refine Cc rfl (fun hc4=>?_) (fun hc4=>?_)
    ·
     have h4_:((lv==1)&&!within_ d.kind 1 3)=true:=hc4
     have hbad:declL lv d=true:=by unfold declL; rw [h4_]; rfl
     refine Cs (Cr ?_)
     refine V0 (Ya rfl) ?_
     refine Ln (Et (Crt (Er (Ebr (Er ?_)))))
     refine Er (Ebr (Er ?_))
     refine WE.ret1 rfl rfl fun w' hw=>?_
     exact ⟨by rw [modL_2 (any_at hdi hbad)],hw.fr⟩
    ·
     have h4_:((lv==1)&&!within_ d.kind 1 3)=false:=hc4
     refine Ck (Et (Cs (Cr ?_)))
     refine V0 (Ym rfl) ?_
     refine V0 (yl_eq rfl rfl) ?_
     rw [show ((lv:Int)==3)=(lv==3) from lv_eq lv 3]
     refine V0 (Ym rfl) ?_
     apply WL.and 36 (x:=((((!nameT d.nm||((d.kind==1)&&!within_ d.n 0 1099511627775))||((d.kind==2)&&!(d.n==0)))||((d.kind==3)&&!within_ d.n 1 32)))) rfl rfl rfl rfl (.inl rfl) rfl rfl rfl rfl rfl
     ·
      intro hg7
      refine Lv (.g rfl rfl rfl) rfl (Yf fo80_1 rfl) ?_
      refine Lv (.g rfl rfl rfl) rfl (Yd 0 rfl rfl rfl na9) ?_
      refine Lp (.g rfl rfl rfl) rfl en73 rfl (fun w hw=>isNAME_any _ w) ?_
      refine Lv (.g rfl rfl rfl) rfl (yl_not rfl) ?_
      refine Lv (.g rfl rfl rfl) rfl (Ym rfl) ?_
      apply WL.or 9 rfl rfl rfl rfl (.g rfl rfl rfl) rfl rfl rfl rfl rfl
      ·
       intro hg8
       refine Lv (.g rfl rfl rfl) rfl (Yf fo80_0 rfl) ?_
       refine Lv (.g rfl rfl rfl) rfl (Yd 0 rfl rfl rfl na3) ?_
       refine Lv (.g rfl rfl rfl) rfl (yl_eq rfl rfl) ?_
       refine Lv (.g rfl rfl rfl) rfl (Ym rfl) ?_
       apply WL.and 4 rfl rfl rfl rfl (.g rfl rfl rfl) rfl rfl rfl rfl rfl
       ·
        intro hg9
        refine Lv (.g rfl rfl rfl) rfl (Yf fo80_3 rfl) ?_
        refine Lv (.g rfl rfl rfl) rfl (Yd 0 rfl rfl rfl na3) ?_
        refine Lp (.g rfl rfl rfl) rfl en74 rfl (fun w hw=>within_any _ _ _ w) ?_
        refine Lv (.g rfl rfl rfl) rfl (yl_not rfl) ?_
        exact Gt 4 rfl rfl rfl
       exact Gt 5 rfl rfl rfl
      refine Lv (.g rfl rfl rfl) rfl (Ym rfl) ?_
      apply WL.or 8 rfl rfl rfl rfl (.g rfl rfl rfl) rfl rfl rfl rfl rfl
      ·
       intro hg10
       refine Lv (.g rfl rfl rfl) rfl (Yf fo80_0 rfl) ?_
       refine Lv (.g rfl rfl rfl) rfl (Yd 0 rfl rfl rfl na3) ?_
       refine Lv (.g rfl rfl rfl) rfl (yl_eq rfl rfl) ?_
       refine Lv (.g rfl rfl rfl) rfl (Ym rfl) ?_
       apply WL.and 3 rfl rfl rfl rfl (.g rfl rfl rfl) rfl rfl rfl rfl rfl
       ·
        intro hg11
        refine Lv (.g rfl rfl rfl) rfl (Yf fo80_3 rfl) ?_
        refine Lv (.g rfl rfl rfl) rfl (Yd 0 rfl rfl rfl na3) ?_
        refine Lv (.g rfl rfl rfl) rfl (yl_ne rfl rfl) ?_
        exact Gt 3 rfl rfl rfl
       exact Gt 5 rfl rfl rfl
      refine Lv (.g rfl rfl rfl) rfl (Ym rfl) ?_
      apply WL.or 9 rfl rfl rfl rfl (.g rfl rfl rfl) rfl rfl rfl rfl rfl
      ·
       intro hg12
       refine Lv (.g rfl rfl rfl) rfl (Yf fo80_0 rfl) ?_
       refine Lv (.g rfl rfl rfl) rfl (Yd 0 rfl rfl rfl na3) ?_
       refine Lv (.g rfl rfl rfl) rfl (yl_eq rfl rfl) ?_
       refine Lv (.g rfl rfl rfl) rfl (Ym rfl) ?_
       apply WL.and 4 rfl rfl rfl rfl (.g rfl rfl rfl) rfl rfl rfl rfl rfl
       ·
        intro hg13
        refine Lv (.g rfl rfl rfl) rfl (Yf fo80_3 rfl) ?_
        refine Lv (.g rfl rfl rfl) rfl (Yd 0 rfl rfl rfl na3) ?_
        refine Lp (.g rfl rfl rfl) rfl en74 rfl (fun w hw=>within_any _ _ _ w) ?_
        refine Lv (.g rfl rfl rfl) rfl (yl_not rfl) ?_
        exact Gt 4 rfl rfl rfl
       exact Gt 5 rfl rfl rfl
      exact Gt 10 rfl rfl rfl
     refine Ln (Et ?_)
     refine Cc rfl (fun hc5=>?_) (fun hc5=>?_)
     ·
      have h5_:((lv==3)&&(((!nameT d.nm||((d.kind==1)&&!within_ d.n 0 1099511627775))||((d.kind==2)&&!(d.n==0)))||((d.kind==3)&&!within_ d.n 1 32)))=true:=hc5
      have hbad:declL lv d=true:=by unfold declL; rw [h5_,Bool.or_true]
      refine Cs (Cr ?_)
      refine V0 (Ya rfl) ?_
      refine Ln (Et (Crt (Ebr (Er (Er ?_)))))
      refine Ebr (Er ?_)
      refine WE.ret1 rfl rfl fun w' hw=>?_
      exact ⟨by rw [modL_2 (any_at hdi hbad)],hw.fr⟩
     ·
      have h5_:((lv==3)&&(((!nameT d.nm||((d.kind==1)&&!within_ d.n 0 1099511627775))||((d.kind==2)&&!(d.n==0)))||((d.kind==3)&&!within_ d.n 1 32)))=false:=hc5
      have hbad:declL lv d=false:=by unfold declL; rw [h4_,h5_]; rfl
      refine Ck (Eb (Et (Cr ?_)))
      refine V0 (Ym rfl) ?_
      refine V0 (Yi rfl rfl rfl (by omega)) ?_
      refine V0 (Ya rfl) ?_
      refine Ln ?_
      exact Ea (p+1) (by omega) ⟨by omega,fun j z hj hz=>by rcases Nat.lt_succ_iff_lt_or_eq.1 hj with h | rfl; exact halld j z h hz; rw [hdi] at hz; injection hz with hz; subst hz; exact hbad⟩ (sc rfl (sc rfl (sc rfl sn))) (fun _ h=>Ws.drop (L:=[_]) h)
   ·
    have hged:¬p<m.decls.length:=by simpa using hc3
    have hanyd:m.decls.any (declL lv)=false:=any_false fun j z hj=>halld j z (by have:=(List.getElem?_eq_some_iff.1 hj).1; omega) hj
    refine Ce (Ex (Ex (Ebh (Et (Cs ?_)))))
    refine Cs (Cr ?_)
    refine V0 (Ya rfl) ?_
    refine Ln (Et (Cb ?_))
    refine CW (ι:=Nat) (fun jj=>[(8,.int .i64 (jj:Int))]) [(1,_),(2,_)] (fun jj=>jj≤m.procs.length∧∀j z,j<jj→m.procs[j]? = some z→procL lv z=false) (fun jj=>m.procs.length-jj) 0 ⟨Nat.zero_le _,by simp⟩ (sc rfl (sc rfl (sc rfl sn))) ?_
    intro jj ⟨hijj,hallp⟩
    refine Cs (Cs (Cr ?_))
    refine V0 (Ym rfl) ?_
    refine V0 (Yf fo39_3 rfl) ?_
    refine V0 (Yd 0 rfl rfl rfl na36) ?_
    refine V0 (Yn es36 rfl) ?_
    refine V0 (yl_lt rfl rfl) ?_
    refine Ln (Et ?_)
    refine Cc rfl (fun hc6=>?_) (fun hc6=>?_)
    ·
     have hlt:jj<m.procs.length:=by simpa using hc6
     obtain ⟨p,hpi⟩:∃q,m.procs[jj]? = some q:=⟨_,List.getElem?_eq_getElem hlt⟩
     obtain ⟨pbp,pop,hap,hrp⟩:=hm.procs.elt jj p hpi
     obtain ⟨pa1,pc1,pa2,pc2,pa3,pc3,hrow,hs1,hs2,hs3⟩:=hrp
     have hup:=wP_upto hpi
     have q5:=wN_len p.params
     have q6:=wN_len p.locs
     have c1_:=hs1.cap
     have x1_:=hs1.max
     have c2_:=hs2.cap
     have x2_:=hs2.max
     refine Ck (Et (Cs (Cb (Cs (Cr ?_)))))
     refine V0 (Yf fo39_3 rfl) ?_
     refine V0 (Yd 0 rfl rfl rfl na36) ?_
     refine V0 (Ym rfl) ?_
     refine V0 (Yo es36 rfl rfl hap (by omega)) ?_
     refine V0 (yl_lda 0 ag83 rfl rfl rfl (hrow)) ?_
     refine WL.alloc (.inl rfl) rfl zr83 fun b9=>?_
     refine Lst 0 (.inl rfl) rfl rfl rfl sz83 rfl rfl rfl ?_
     refine Ln (Et (Cs (Cs (Cr ?_))))
     refine V0 (Ym rfl) ?_
     refine V0 (yl_eq rfl rfl) ?_
     rw [show ((lv:Int)==2)=(lv==2) from lv_eq lv 2]
     refine V0 (Ym rfl) ?_
     apply WL.and 10 rfl rfl rfl rfl (.inl rfl) rfl rfl rfl rfl rfl
     ·
      intro hg14
      refine Lv (.g rfl rfl rfl) rfl (Yf fo83_2 rfl) ?_
      refine Lv (.g rfl rfl rfl) rfl (Yd 0 rfl rfl rfl na27) ?_
      refine Lv (.g rfl rfl rfl) rfl (Yn es27 rfl) ?_
      refine Lv (.g rfl rfl rfl) rfl (yl_gt rfl rfl) ?_
      rw [int_lt3]
      refine Lv (.g rfl rfl rfl) rfl (Ym rfl) ?_
      apply WL.or 4 rfl rfl rfl rfl (.g rfl rfl rfl) rfl rfl rfl rfl rfl
      ·
       intro hg15
       refine Lv (.g rfl rfl rfl) rfl (Yf fo83_3 rfl) ?_
       refine Lv (.g rfl rfl rfl) rfl (Yd 0 rfl rfl rfl na27) ?_
       refine Lv (.g rfl rfl rfl) rfl (Yn es27 rfl) ?_
       refine Lv (.g rfl rfl rfl) rfl (yl_gt rfl rfl) ?_
       rw [int_lt4]
       exact Gt 4 rfl rfl rfl
      exact Gt 6 rfl rfl rfl
     refine V0 (Ym rfl) ?_
     apply WL.or 8 rfl rfl rfl rfl (.inl rfl) rfl rfl rfl rfl rfl
     ·
      intro hg16
      refine Lv (.g rfl rfl rfl) rfl (Ym rfl) ?_
      refine Lv (.g rfl rfl rfl) rfl (yl_eq rfl rfl) ?_
      rw [show ((lv:Int)==3)=(lv==3) from lv_eq lv 3]
      refine Lv (.g rfl rfl rfl) rfl (Ym rfl) ?_
      apply WL.and 4 rfl rfl rfl rfl (.g rfl rfl rfl) rfl rfl rfl rfl rfl
      ·
       intro hg17
       refine Lv (.g rfl rfl rfl) rfl (Yf fo83_0 rfl) ?_
       refine Lv (.g rfl rfl rfl) rfl (Yd 0 rfl rfl rfl na9) ?_
       refine Lp (.g rfl rfl rfl) rfl en73 rfl (fun w hw=>isNAME_any _ w) ?_
       refine Lv (.g rfl rfl rfl) rfl (yl_not rfl) ?_
       exact Gt 4 rfl rfl rfl
      exact Gt 4 rfl rfl rfl
     refine V0 (Ym rfl) ?_
     apply WL.or 4 rfl rfl rfl rfl (.inl rfl) rfl rfl rfl rfl rfl
     ·
      intro hg18
      refine Lv (.g rfl rfl rfl) rfl (Yf fo83_4 rfl) ?_
      refine Lv (.g rfl rfl rfl) rfl (Yd 0 rfl rfl rfl na37) ?_
      refine Lv (.g rfl rfl rfl) rfl (Ym rfl) ?_
      refine Lp (.g rfl rfl rfl) rfl en75 rfl (fun w hw=>blockLook_any H ke lv hlv ks p.body pa3 pc3 1 w (hw.vs _ (by simp)) (by omega) hs3) ?_
      exact Gt 4 rfl rfl rfl
     refine Ln (Et ?_)
     refine Cc rfl (fun hc7=>?_) (fun hc7=>?_)
     ·
      have h7_:((((lv==2)&&(decide (3<p.params.length)||decide (4<p.locs.length)))||badN lv p.nm)||lookB p.body lv 1)=true:=hc7
      have hbad:procL lv p=true:=by unfold procL; rw [h7_]; rfl
      refine Cs (Cr ?_)
      refine V0 (Ya rfl) ?_
      refine Ln (Et (Crt (Er (Ebr (Er ?_)))))
      refine Er (Ebr (Er ?_))
      refine WE.ret1 rfl rfl fun w' hw=>?_
      exact ⟨by rw [modL_3 (any_at hpi hbad)],hw.fr⟩
     ·
      have h7_:((((lv==2)&&(decide (3<p.params.length)||decide (4<p.locs.length)))||badN lv p.nm)||lookB p.body lv 1)=false:=hc7
      refine Ck (Et (Cs ?_))
      refine WC.draws0 [(1,true),(2,true),(4,true),(5,true),(0,false),(3,false),(6,false),(7,true)] mixed (by kernel_rfl) (fun _ _ _ d _ h=>by cases d<;>exact h) ?_
      refine Dq rfl (.inl rfl) rfl (fun _ h=>h) (Yf fo83_2 rfl) ?_
      refine Dq rfl (.inl rfl) rfl (fun _ h=>h) (Yd 0 rfl rfl rfl na27) ?_
      refine Dq rfl (.inl rfl) rfl (fun _ h=>h) (Yf fo83_3 rfl) ?_
      refine Dq rfl (.inl rfl) rfl (fun _ h=>h) (Yd 0 rfl rfl rfl na27) ?_
      refine De rfl (fun _ h=>h) ?_
      refine WL.bslice (.inl rfl) rfl el27 rfl rfl rfl fun b162=>?_
      refine WL.asOsl (size:=1) 0 rfl (Nat.le_refl 0) (Nat.zero_le _) rfl ?_
      refine WL.reosl 0 ([]:List Tx).length (([]:List Tx).flatMap strC) rfl rfl rfl ?_
      refine Ln (Ed ?_)
      refine De rfl (fun _ h=>by have h:=Ws.drop (L:=[_]) (L':=_) h; exact h) ?_
      refine WL.appendL (ys:=p.params) (xs:=[]) 0 (fun _=>H) (.inl rfl) rfl el27 rfl rfl rfl (fun w hw=>⟨hw.vs H (by simp),hs1⟩) (fun _ _ _ _ h=>h) strC_len str_one (by simp; omega) (by simp; omega) fun a165 c165=>?_
      refine Ln (Ed ?_)
      refine De rfl (fun _ h=>by have h:=Ws.drop (L:=[_]) (L':=_) h; exact h) ?_
      refine WL.appendL (ys:=p.locs) (xs:=[]++p.params) 0 (fun _=>H) (.inl rfl) rfl el27 rfl rfl rfl (fun w hw=>⟨hw.vs H (by simp),hs2⟩) (fun _ _ _ _ h=>h) strC_len str_one (by simp; omega) (by simp; omega) fun a168 c168=>?_
      refine Ln (Ed ?_)
      refine Dq rfl (.inl rfl) rfl (fun _ h=>by have h:=Ws.drop (L:=[_]) (L':=_) h; exact h) (Ya rfl) ?_
      refine WD.nil (fun _ h=>by have h:=Ws.drop (L:=[_]) (L':=_) h; exact h) ?_
      refine Et (Cs ?_)
      refine WC.oslview (rd:=rdStr) 0 rfl strC_len (fun _ _ _ _ h=>h) fun HA hHA=>?_
      have hHA:Sl rdStr 1 HA a168 c168 (p.params++p.locs):=hHA
      have hcA:=hHA.cap
      have hxA:=hHA.max
      refine Cr ?_
      refine V0 (Ya rfl) ?_
      refine Ln (Et (Cb ?_))
      refine CW (ι:=Nat) (fun e=>[(11,.int .i64 (e:Int))]) [(1,_),(2,_),(8,_),(10,_)] (fun e=>e≤(p.params++p.locs).length∧∀j z,j<e→(p.params++p.locs)[j]? = some z→badN lv z=false) (fun e=>(p.params++p.locs).length-e) 0 ⟨Nat.zero_le _,by simp⟩ (sc rfl (sc rfl (sc rfl (sc rfl (sc rfl sn))))) ?_
      intro e ⟨hie,halls⟩
      refine Cs (Cs (Cr ?_))
      refine V0 (Ym rfl) ?_
      refine V0 (Ym rfl) ?_
      refine V0 (Yn es27 rfl) ?_
      refine V0 (yl_lt rfl rfl) ?_
      refine Ln (Et ?_)
      refine Cc rfl (fun hc8=>?_) (fun hc8=>?_)
      ·
       have hlt:e<(p.params++p.locs).length:=by simp only [List.length_append]; simp at hc8; omega
       obtain ⟨s,hsi⟩:∃x,(p.params++p.locs)[e]? = some x:=⟨_,List.getElem?_eq_getElem hlt⟩
       obtain ⟨pbs,pos,ha,hrow⟩:=hHA.elt e s hsi
       have hrow:RdC HA pbs (pos+e*1) (strC s):=hrow
       refine Ck (Et (Cs (Cb (Cs (Cr ?_)))))
       refine V0 (Ym rfl) ?_
       refine V0 (yl_eq rfl rfl) ?_
       rw [show ((lv:Int)==3)=(lv==3) from lv_eq lv 3]
       refine V0 (Ym rfl) ?_
       apply WL.and 6 rfl rfl rfl rfl (.inl rfl) rfl rfl rfl rfl rfl
       ·
        intro hg19
        refine Lv (.g rfl rfl rfl) rfl (Ym rfl) ?_
        refine Lv (.g rfl rfl rfl) rfl (Ym rfl) ?_
        refine Lv (.g rfl rfl rfl) rfl (Yo es27 rfl rfl ha (by simp at hlt ⊢; omega)) ?_
        refine Lv (.g rfl rfl rfl) rfl (yl_ld 0 na9 rfl rfl (hrow 0 _ rfl)) ?_
        refine Lp (.g rfl rfl rfl) rfl en73 rfl (fun w hw=>isNAME_any _ w) ?_
        refine Lv (.g rfl rfl rfl) rfl (yl_not rfl) ?_
        exact Gt 6 rfl rfl rfl
       refine Ln (Et ?_)
       refine Cc rfl (fun hc9=>?_) (fun hc9=>?_)
       ·
        have hbad:procL lv p=true:=by unfold procL; rw [any_at hsi hc9,Bool.or_true]
        refine Cs (Cr ?_)
        refine V0 (Ya rfl) ?_
        refine Ln (Et (Crt (Ebr (Er (Er ?_)))))
        refine Ebr (Ebr (Er (Er (Ebr (Er ?_)))))
        refine WE.ret1 rfl rfl fun w' hw=>?_
        exact ⟨by rw [modL_3 (any_at hpi hbad)],hw.fr⟩
       ·
        refine Ck (Eb (Et (Cr ?_)))
        refine V0 (Ym rfl) ?_
        refine V0 (Yi rfl rfl rfl (by omega)) ?_
        refine V0 (Ya rfl) ?_
        refine Ln ?_
        exact Ea (e+1) (by omega) ⟨by omega,fun j z hj hz=>by rcases Nat.lt_succ_iff_lt_or_eq.1 hj with h | rfl; exact halls j z h hz; rw [hsi] at hz; injection hz with hz; subst hz; exact hc9⟩ (sc rfl (sc rfl (sc rfl (sc rfl (sc rfl sn))))) (fun _ h=>h)
      ·
       have hges:¬e<(p.params++p.locs).length:=by simp only [List.length_append]; simp at hc8; omega
       have hanys:(p.params++p.locs).any (badN lv)=false:=any_false fun j z hj=>halls j z (by have:=(List.getElem?_eq_some_iff.1 hj).1; omega) hj
       have hbad:procL lv p=false:=by unfold procL; rw [hanys,h7_]; rfl
       refine Ce (Ex (Ex (Ebh (Eb (Et ?_)))))
       refine Cr ?_
       refine V0 (Ym rfl) ?_
       refine V0 (Yi rfl rfl rfl (by omega)) ?_
       refine V0 (Ya rfl) ?_
       refine Ln ?_
       exact Ea (jj+1) (by omega) ⟨by omega,fun j z hj hz=>by rcases Nat.lt_succ_iff_lt_or_eq.1 hj with h | rfl; exact hallp j z h hz; rw [hpi] at hz; injection hz with hz; subst hz; exact hbad⟩ (sc rfl (sc rfl (sc rfl sn))) (fun _ h=>Ws.drops (Ws.drop (L:=[_]) h) (fun _ hm=>List.mem_append_right [_] hm))
    ·
     have hgep:¬jj<m.procs.length:=by simpa using hc6
     have hanyp:m.procs.any (procL lv)=false:=any_false fun j z hj=>hallp j z (by have:=(List.getElem?_eq_some_iff.1 hj).1; omega) hj
     refine Ce (Ex (Ex (Ebh (Et (Cs ?_)))))
     refine Cr ?_
     refine V0 (Yf fo39_4 rfl) ?_
     refine V0 (Yd 0 rfl rfl rfl na37) ?_
     refine V0 (Ym rfl) ?_
     refine Lp (.inl rfl) rfl en75 rfl (fun w hw=>blockLook_any H ke lv hlv ks m.main r.a4 r.c4 1 w (hw.vs _ (by simp)) (by omega) hm.main) ?_
     refine V0 (Ya rfl) ?_
     refine Ln (Et (Crt ?_))
     refine WE.ret1 rfl rfl fun w' hw=>?_
     exact ⟨by rw [modL_end hc0 hanyu hanyd hanyp],hw.fr⟩
theorem checkModule_any (H:View) (ke ks:Nat) (r:MAt) (m:TMod) (w:World) (hH:Le H w) (hm:RdM ke ks H r m) (hb:wM m≤109951162777) :
   Calls Try.prog 35 #[.agg (modV m r).toArray] w fun e w'=>e = .returned (.int .i64 (checkL m))∧Ext w w':=by
 refine enter Try.func35 rfl 12 rfl rfl ?_
 refine CWd (W':=Ws w [] [] [H]) (fun _ e=>by subst e; exact Ws.init (by simp [hH])) ?_
 refine Cs (Cr ?_)
 refine WL.box (.inl rfl) rfl rfl fun b1=>?_
 refine V0 (Ya rfl) ?_
 refine Ln (Et (Cs (Cb (Cs (Cr ?_)))))
 refine V0 (Yda 0 rfl rfl ag39 rfl) ?_
 refine Lp (.inl rfl) rfl en55 rfl (fun w hw=>moduleLook_any H ke ks r m 1 w (by omega) (hw.vs _ (by simp)) hm hb) ?_
 refine V0 (Ya rfl) ?_
 refine Ln (Et ?_)
 refine Cc rfl (fun hc0=>?_) (fun hc0=>?_)
 ·
  refine Cs (Cr ?_)
  refine V0 (Ya rfl) ?_
  refine Ln (Et (Crt (Ebr (Er ?_))))
  refine WE.ret1 rfl rfl fun w' hw=>?_
  exact ⟨by rw [checkL,if_pos hc0],hw.fr⟩
 ·
  refine Cs (Cr ?_)
  refine V0 (Yda 0 rfl rfl ag39 rfl) ?_
  refine Lp (.inl rfl) rfl en55 rfl (fun w hw=>moduleLook_any H ke ks r m 2 w (by omega) (hw.vs _ (by simp)) hm hb) ?_
  refine V0 (Ya rfl) ?_
  refine Ln (Et ?_)
  refine Cc rfl (fun hc1=>?_) (fun hc1=>?_)
  ·
   refine Cs (Cr ?_)
   refine V0 (Ya rfl) ?_
   refine Ln (Et (Crt (Ebr (Er ?_))))
   refine WE.ret1 rfl rfl fun w' hw=>?_
   exact ⟨by rw [checkL,if_neg (by rw [hc0]; decide),if_pos hc1],hw.fr⟩
  ·
   refine Cs (Cr ?_)
   refine V0 (Yda 0 rfl rfl ag39 rfl) ?_
   refine Lp (.inl rfl) rfl en55 rfl (fun w hw=>moduleLook_any H ke ks r m 3 w (by omega) (hw.vs _ (by simp)) hm hb) ?_
   refine V0 (Ya rfl) ?_
   refine Ln (Et ?_)
   refine Cc rfl (fun hc2=>?_) (fun hc2=>?_)
   ·
    refine Cs (Cr ?_)
    refine V0 (Ya rfl) ?_
    refine Ln (Et (Crt (Ebr (Er ?_))))
    refine WE.ret1 rfl rfl fun w' hw=>?_
    exact ⟨by rw [checkL,if_neg (by rw [hc0]; decide),if_neg (by rw [hc1]; decide),if_pos hc2],hw.fr⟩
   ·
    refine Ck (Eb (Et (Cs (Cr ?_))))
    refine V0 (Ya rfl) ?_
    refine Ln (Et (Crt ?_))
    refine WE.ret1 rfl rfl fun w' hw=>?_
    exact ⟨by rw [checkL,if_neg (by rw [hc0]; decide),if_neg (by rw [hc1]; decide),if_neg (by rw [hc2]; decide)],hw.fr⟩
end Go.Proofs.Ytinnlppbkhhoiaa
end
section
namespace Go.Proofs.Ytinnlppbkhhoiaa
open Go.Bw
set_option linter.unusedVariables false
set_option linter.unusedSimpArgs false
abbrev SP:=Option Addr×Nat
theorem twice_any (H:View) (a:Option Addr) (c:Nat) (l:List (List UInt8)) (w:World) (hH:Le H w) (hm:Sl rdStr 1 H a c l) :
   Calls Try.prog 36 #[.slice a l.length c] w fun e w'=>e = .returned (.bool (twiceB l))∧Ext w w':=by
 have hcap:=hm.cap
 have hmax:=hm.max
 refine enter Try.func36 rfl 25 rfl rfl ?_
 refine CWd (W':=Ws w [] [] [H]) (fun _ e=>by subst e; exact Ws.init (by simp [hH])) ?_
 refine Cs (Cr ?_)
 refine V0 (Ya rfl) ?_
 refine Ln (Et (Cs (Cs (Cr ?_))))
 refine V0 (Ya rfl) ?_
 refine Ln (Et (Cb ?_))
 refine CW (ι:=Nat) (fun i=>[(3,.int .i64 (i:Int))]) [(0,_)] (fun i=>i≤l.length∧∀i2,i2<i→∀j,j<i2→(l[i2]?.getD []==l[j]?.getD [])=false) (fun i=>l.length-i) 0 ⟨Nat.zero_le _,by simp⟩ (sc rfl (sc rfl sn)) ?_
 intro i ⟨hi,hall⟩
 refine Cs (Cs (Cr ?_))
 refine V0 (Ym rfl) ?_
 refine V0 (Ym rfl) ?_
 refine V0 (Yn es27 rfl) ?_
 refine V0 (yl_lt rfl rfl) ?_
 refine Ln (Et ?_)
 refine Cc rfl (fun hc0=>?_) (fun hc0=>?_)
 ·
  have hlt:i<l.length:=by simpa using hc0
  obtain ⟨pb,po,ha,hrow0⟩:=hm.elt i (l[i]?.getD []) (by rw [List.getElem?_eq_getElem hlt]; rfl)
  have hrow:vc H pb (po+i*1)=some (st (l[i]?.getD [])):=hrow0 0 _ rfl
  refine Ck (Et (Cs (Cb (Cs (Cr ?_)))))
  refine V0 (Ya rfl) ?_
  refine Ln (Et (Cb ?_))
  refine CW (ι:=Nat) (fun j=>[(4,.int .i64 (j:Int))]) [(0,_),(3,_)] (fun j=>j≤i∧∀j2,j2<j→(l[i]?.getD []==l[j2]?.getD [])=false) (fun j=>i-j) 0 ⟨Nat.zero_le _,by simp⟩ (sc rfl (sc rfl (sc rfl sn))) ?_
  intro j ⟨hj,hin⟩
  refine Cs (Cs (Cr ?_))
  refine V0 (Ym rfl) ?_
  refine V0 (Ym rfl) ?_
  refine V0 (yl_lt rfl rfl) ?_
  refine Ln (Et ?_)
  refine Cc rfl (fun hc1=>?_) (fun hc1=>?_)
  ·
   have hjt:j<i:=by simpa using hc1
   obtain ⟨qb,qo,ha2,hrow0⟩:=hm.elt j (l[j]?.getD []) (by rw [List.getElem?_eq_getElem (by omega)]; rfl)
   have hrow2:vc H qb (qo+j*1)=some (st (l[j]?.getD [])):=hrow0 0 _ rfl
   refine Ck (Et (Cs (Cb (Cs ?_))))
   refine WC.draws0 [(0,true),(1,true),(2,true),(3,true),(4,true),(5,true),(6,true),(7,true),(8,true)] mixed (by kernel_rfl) (fun _ _ _ d _ h=>by cases d<;>exact h) ?_
   refine Dq rfl (.inl rfl) rfl (fun _ h=>h) (Ym rfl) ?_
   refine Dq rfl (.inl rfl) rfl (fun _ h=>h) (Ym rfl) ?_
   refine Dq rfl (.inl rfl) rfl (fun _ h=>h) (Yo es27 rfl rfl ha (by omega)) ?_
   refine Dq rfl (.inl rfl) rfl (fun _ h=>h) (yl_ld 0 na9 rfl rfl (hrow)) ?_
   refine Dq rfl (.inl rfl) rfl (fun _ h=>h) (Ym rfl) ?_
   refine Dq rfl (.inl rfl) rfl (fun _ h=>h) (Ym rfl) ?_
   refine Dq rfl (.inl rfl) rfl (fun _ h=>h) (Yo es27 rfl rfl ha2 (by omega)) ?_
   refine Dq rfl (.inl rfl) rfl (fun _ h=>h) (yl_ld 0 na9 rfl rfl (hrow2)) ?_
   refine Dq rfl (.inl rfl) rfl (fun _ h=>h) (yl_eqs rfl rfl) ?_
   refine WD.nil (fun _ h=>h) ?_
   refine Et ?_
   refine Cc rfl (fun hc2=>?_) (fun hc2=>?_)
   ·
    refine Cs (Cr ?_)
    refine V0 (Ya rfl) ?_
    refine Ln (Et (Crt (Ebr (Er (Er ?_)))))
    refine Ebr (Ebr (Er (Er (Ebr (Er ?_)))))
    refine WE.ret1 rfl rfl fun w' hw=>?_
    exact ⟨by rw [twice_yes hlt hjt hc2],hw.fr⟩
   ·
    refine Ck (Eb (Et (Cr ?_)))
    refine V0 (Ym rfl) ?_
    refine V0 (Yi rfl rfl rfl (by omega)) ?_
    refine V0 (Ya rfl) ?_
    refine Ln ?_
    exact Ea (j+1) (by omega) ⟨by omega,fun j2 h2=>by rcases Nat.lt_succ_iff_lt_or_eq.1 h2 with h | rfl; exact hin j2 h; exact hc2⟩ (sc rfl (sc rfl (sc rfl sn))) (fun _ h=>h)
  ·
   refine Ce (Ex (Ex (Ebh (Eb (Et ?_)))))
   refine Cr ?_
   refine V0 (Ym rfl) ?_
   refine V0 (Yi rfl rfl rfl (by omega)) ?_
   refine V0 (Ya rfl) ?_
   refine Ln ?_
   exact Ea (i+1) (by omega) ⟨by omega,fun i2 h2 j2 hj2=>by rcases Nat.lt_succ_iff_lt_or_eq.1 h2 with h | rfl; exact hall i2 h j2 hj2; exact hin j2 (by simp at hc1; omega)⟩ (sc rfl (sc rfl sn)) (fun _ h=>h)
 ·
  refine Ce (Ex (Ex (Ebh (Et (Cs ?_)))))
  refine Cr ?_
  refine V0 (Ya rfl) ?_
  refine Ln (Et (Crt ?_))
  refine WE.ret1 rfl rfl fun w' hw=>?_
  exact ⟨by rw [twice_no fun i2 h2=>hall i2 (by simp at hc0; omega)],hw.fr⟩
end Go.Proofs.Ytinnlppbkhhoiaa
end
section
namespace Go.Proofs.Ytinnlppbkhhoiaa
open Go.Bw
set_option linter.unusedVariables false
set_option linter.unusedSimpArgs false
def rdMod (ke ks:Nat) (H:View) (b o:Nat) (m:TMod):Prop:=∃r:MAt,RdC H b o (modV m r)∧RdM ke ks H r m
structure GO where
 i:Nat
 M:List (GEnt (List UInt8))
 c:Nat
theorem orderE_many {l:List TMod} (h:4<l.length):orderE l=2:=by rw [orderE,if_pos h]
theorem orderE_mod {l:List TMod} {i:Nat} {m:TMod} (h4:¬4<l.length) (hi:l[i]? = some m) (h0:∀x ∈ l.take i,checkM x=0) (h:¬checkM m=0):orderE l=checkM m:=by
 rw [orderE,if_neg h4,ers_hit checkM hi (ers_zero.2 h0) h,er_ne h]
theorem orderE_rest {l:List TMod} (h4:¬4<l.length) (h0:∀x ∈ l,checkM x=0):orderE l=if twiceB (namesL l)=true then 6 else if usesOk l=true then 0 else 5:=by
 rw [orderE,if_neg h4,ers_zero.2 h0,er_0]
theorem mem_take_snoc {α:Type} {l:List α} {i:Nat} {x:α} {p:α→Prop} (hx:l[i]? = some x) (h:∀y ∈ l.take i,p y) (hp:p x):∀y ∈ l.take (i+1),p y:=by
 intro y hy
 rw [take_snoc hx] at hy
 rcases List.mem_append.1 hy with hy | hy
 · exact h y hy
 · rw [List.mem_singleton] at hy; subst hy; exact hp
theorem usesOk_no {l:List TMod} {m:TMod} {s:List UInt8} (hm:m ∈ l) (hs:s ∈ m.uses) (h:(placeL l s).isSome=false):usesOk l=false:=by
 unfold usesOk
 rw [List.all_eq_false]
 refine ⟨m,hm,?_⟩
 rw [Bool.not_eq_true,List.all_eq_false]
 exact ⟨s,hs,by simp [h]⟩
theorem usesOk_yes {l:List TMod} (h:∀m ∈ l,∀s ∈ m.uses,(placeL l s).isSome=true):usesOk l=true:=List.all_eq_true.2 fun m hm=>List.all_eq_true.2 fun s hs=>h m hm s hs
theorem es22:elemSz Try.prog 22=some 5:=by kernel_rfl
theorem pl53:placesP Try.prog 53=some [(0,1),(1,1)]:=by kernel_rfl
theorem zr53:zeroOf Try.prog 53=some (.agg #[.slice none 0 0,.map none]):=by kernel_rfl
theorem zr39:zeroOf Try.prog 39=some (.agg #[st [],.slice none 0 0,.slice none 0 0,.slice none 0 0,.slice none 0 0]):=by kernel_rfl
theorem sz39:sizeP Try.prog 39=some 5:=by kernel_rfl
theorem en27:Enters Try.prog 27:=enters_of Try.func27 (by kernel_rfl) rfl
theorem fo53_1:fieldOff Try.prog 53 1=some 1:=by kernel_rfl
theorem na51:nonAgg Try.prog 51=true:=by kernel_rfl
theorem um51:Try.prog.underlying 51=some (.map 9 3):=by kernel_rfl
theorem zr3:zeroOf Try.prog 3=some (.int .i64 0):=by kernel_rfl
theorem orderOf_any (H:View) (ke ks:Nat) (a:Option Addr) (c:Nat) (l:List TMod) (w:World) (hH:Le H w) (hm:Sl (rdMod ke ks) 5 H a c l) (hb:∀m ∈ l,wM m≤109951162777) :
   Calls Try.prog 15 #[.slice a l.length c] w fun e w'=>∃r:Nat×Nat,e = .returned (.tuple #[.pointer (if orderE l=0 then some ⟨r.1,0,none⟩ else none),.int .i64 (orderE l)])∧Ext w w'∧(orderE l=0→vc (nv w w') r.1 1=some (.map (some r.2))∧(nv w w') r.2=some (gobj st (tabZ (namesL l) 0) l.length)):=by
 have hcap:=hm.cap
 have hmax:=hm.max
 refine enter Try.func15 rfl 76 rfl rfl ?_
 refine CWd (W':=Ws w [] [] [H]) (fun _ e=>by subst e; exact Ws.init (by simp [hH])) ?_
 refine Cs (Cr ?_)
 refine V0 (Ya rfl) ?_
 refine V0 (Ya rfl) ?_
 refine Ln (Et (Cs (Cs (Cr ?_))))
 refine V0 (Ym rfl) ?_
 refine V0 (Yn es22 rfl) ?_
 refine V0 (yl_gt rfl rfl) ?_
 refine Ln (Et ?_)
 refine Cc rfl (fun hc0=>?_) (fun hc0=>?_)
 ·
  have h4:4<l.length:=by simp at hc0; omega
  refine Cs (Cr ?_)
  refine V0 (Ya rfl) ?_
  refine V0 (Ya rfl) ?_
  refine Ln (Et (Crt (Er ?_)))
  refine WE.ret2 rfl rfl rfl fun w' hw=>?_
  rw [orderE_many h4]
  exact ⟨(0,0),rfl,hw.fr,fun h=>by cases h⟩
 ·
  have h4:¬4<l.length:=by simp at hc0; omega
  refine Ck (Et (Cs (Cr ?_)))
  refine V0 (Ym rfl) ?_
  refine WL.gmk st (.inl rfl) rfl fun b18=>?_
  refine V0 (Yb zr53 pl53 rfl rfl) ?_
  refine WL.box (.inl rfl) rfl rfl fun b20=>?_
  refine V0 (Ya rfl) ?_
  refine Ln (Et (Cs (Cs (Cr ?_))))
  refine V0 (Ym rfl) ?_
  refine V0 (Yn es22 rfl) ?_
  refine V0 (Ym rfl) ?_
  refine Ln (Et (Cb ?_))
  refine CK (ι:=GO) (fun g=>[(23,.int .i64 (g.i:Int))]) [(0,_),(4,_),(21,_),(22,_)] (fun g=>Ws w [] [blk b20 (.cells #[.slice a l.length c,.map (some b18)] 53 (0,0)),blk b18 (gobj st g.M g.c)] [H]) (fun g=>g.i≤l.length∧(∀m ∈ l.take g.i,checkM m=0)∧TabState (namesL l) g.i g.M g.c) (fun g=>l.length-g.i) ⟨0,[],0⟩ ⟨Nat.zero_le _,by simp,.inl ⟨by simp,rfl,rfl⟩⟩ (sc rfl (sc rfl (sc rfl (sc rfl (sc rfl sn))))) (fun _ h=>h) ?_
  intro g ⟨hi,hall,hT⟩
  refine Cs (Cr ?_)
  refine V0 (yl_lt rfl rfl) ?_
  refine Ln (Et (Cs ?_))
  refine Cc rfl (fun hc1=>?_) (fun hc1=>?_)
  ·
   have hlt:g.i<l.length:=by simpa using hc1
   obtain ⟨m,hmi⟩:∃q,l[g.i]? = some q:=⟨_,List.getElem?_eq_getElem hlt⟩
   obtain ⟨pbm,pom,ham,hrm⟩:=hm.elt g.i m hmi
   obtain ⟨rm,hrowm,hrdm⟩:=hrm
   have hmemm:=List.mem_of_getElem? hmi
   have hbwm:=hb m hmemm
   have hnm:=names_get hmi
   refine Ck (Et (Cs (Cb (Cs (Cr ?_)))))
   refine V0 (Ym rfl) ?_
   refine V0 (Yo es22 rfl rfl ham (by omega)) ?_
   refine V0 (yl_lda 0 ag39 rfl rfl rfl (hrowm)) ?_
   refine WL.alloc (.inl rfl) rfl zr39 fun b6=>?_
   refine V0 (Ya rfl) ?_
   refine Lst 0 (.inl rfl) rfl rfl rfl sz39 rfl rfl rfl ?_
   refine Ln (Et (Cs (Cs (Cr ?_))))
   refine V0 (Yda 0 rfl rfl ag39 rfl) ?_
   refine Lp (.inl rfl) rfl en27 rfl (fun w hw=>treeCheck_any H ke ks rm m w (hw.vs _ (by simp)) hrdm (by omega)) ?_
   refine V0 (Ya rfl) ?_
   refine Ln (Et (Cs (Cr ?_)))
   refine V0 (Ym rfl) ?_
   refine V0 (yl_ne rfl rfl) ?_
   refine Ln (Et ?_)
   refine Cc rfl (fun hc2=>?_) (fun hc2=>?_)
   ·
    have hck:¬checkM m=0:=by simpa using hc2
    refine Cs (Cr ?_)
    refine V0 (Ym rfl) ?_
    refine V0 (Ya rfl) ?_
    refine V0 (Ya rfl) ?_
    refine Ln (Et (Crt (Er (Ebr (Er ?_)))))
    refine Er (Ebr (Er ?_))
    refine WE.ret2 rfl rfl rfl fun w' hw=>?_
    rw [orderE_mod h4 hmi hall hck]
    exact ⟨(0,0),by rw [if_neg hck],hw.fr,fun h=>absurd h hck⟩
   ·
    have hck:checkM m=0:=by simpa using hc2
    refine Ck (Et ?_)
    refine WC.draws1 2 [(0,true),(1,true),(2,true),(3,true),(4,true),(5,true),(6,true),(7,false)] mixed (by kernel_rfl) (fun _ _ _ d _ h=>by cases d<;>exact h) ?_
    refine Dq rfl (.inl rfl) rfl (fun _ h=>by have h:=Ws.out 2 h; exact h) (Ym rfl) ?_
    refine Dq rfl (.inl rfl) rfl (fun _ h=>by have h:=Ws.out 2 h; exact h) (yl_nil rfl) ?_
    refine Dq rfl (.inl rfl) rfl (fun _ h=>by have h:=Ws.out 2 h; exact h) (Yf fo53_1 rfl) ?_
    refine Dq rfl (.inl rfl) rfl (fun _ h=>by have h:=Ws.out 2 h; exact h) (Yd 1 rfl rfl rfl na51) ?_
    refine Dq rfl (.inl rfl) rfl (fun _ h=>by have h:=Ws.out 2 h; exact h) (Yf fo39_0 rfl) ?_
    refine Dq rfl (.inl rfl) rfl (fun _ h=>by have h:=Ws.out 2 h; exact h) (Yd 0 rfl rfl rfl na9) ?_
    refine Dq rfl (.inl rfl) rfl (fun _ h=>by have h:=Ws.out 2 h; exact h) (Ym rfl) ?_
    refine De rfl (fun _ h=>by have h:=Ws.out 2 h; exact h) ?_
    refine WL.gset 2 keyStr (.inl rfl) um51 us9 rfl rfl rfl rfl ?_
    refine Ln (Ed ?_)
    refine WD.nil (fun _ h=>by have h:=Ws.out 2 h; exact h) ?_
    refine Eb (Et (Cr ?_))
    refine V0 (Yi rfl rfl rfl (by omega)) ?_
    refine V0 (Ym rfl) ?_
    refine Ln ?_
    exact Ea (⟨g.i+1,gput m.nm (.int .i64 (g.i:Int)) g.M g.c,gclock m.nm g.M g.c⟩:GO) (by show _-(g.i+1)<_; omega) ⟨(by show g.i+1≤_; omega),mem_take_snoc hmi hall hck,tabState_step hT hnm⟩ (sc rfl (sc rfl (sc rfl (sc rfl (sc rfl sn))))) (fun _ h=>Ws.drop (L:=[_]) h)
  ·
   have hge:g.i=l.length:=by simp at hc1; omega
   rw [hge,List.take_length] at hall
   refine Ce (Ex (Ex (Ebh (Et (Cs ?_)))))
   refine Cs (Cr ?_)
   refine V0 (Ym rfl) ?_
   refine V0 (yl_nil rfl) ?_
   refine V0 (Yf fo53_1 rfl) ?_
   refine V0 (Yd 0 rfl rfl rfl na51) ?_
   refine V0 (yl_mlen 1 um51 rfl rfl) ?_
   refine V0 (Ym rfl) ?_
   refine V0 (Yn es22 rfl) ?_
   refine V0 (yl_lt rfl rfl) ?_
   refine Ln (Et ?_)
   refine Cc rfl (fun hc3=>?_) (fun hc3=>?_)
   ·
    have hlen:g.M.length<l.length:=by simp at hc3; omega
    have htw:twiceB (namesL l)=true:=by
      rcases hT with ⟨h1,h2,h3⟩ | ⟨h1,h2⟩
      · rw [h2,tabZ_len] at hlen; simp [names_len] at hlen; omega
      · rw [hge,←names_len l,List.take_length] at h1
        rw [nodup_twice] at h1; simpa using h1
    refine Cs (Cr ?_)
    refine V0 (Ya rfl) ?_
    refine V0 (Ya rfl) ?_
    refine Ln (Et (Crt (Er ?_)))
    refine WE.ret2 rfl rfl rfl fun w' hw=>?_
    rw [orderE_rest h4 hall,htw]
    exact ⟨(0,0),rfl,hw.fr,fun h=>by cases h⟩
   ·
    have hlen:¬g.M.length<l.length:=by simp at hc3; omega
    obtain ⟨hnd,hM,hcc⟩:(namesL l).Nodup∧g.M=tabZ (namesL l) 0∧g.c=l.length:=by
      rcases hT with ⟨h1,h2,h3⟩ | ⟨h1,h2⟩
      · rw [hge,←names_len l,List.take_length] at h1
        rw [hge,←names_len l,List.take_length] at h2
        exact ⟨h1,h2,by omega⟩
      · omega
    have htw:=nodup_twice.1 hnd
    rw [hM,hcc]
    have hrest:=orderE_rest h4 hall
    rw [htw] at hrest
    refine Ck (Et (Cs (Cs (Cr ?_))))
    refine V0 (Ym rfl) ?_
    refine V0 (Yn es22 rfl) ?_
    refine V0 (Ym rfl) ?_
    refine Ln (Et (Cb ?_))
    refine CW (ι:=Nat) (fun i=>[(51,.int .i64 (i:Int))]) [(4,_),(49,_),(50,_)] (fun i=>i≤l.length∧∀m ∈ l.take i,∀s ∈ m.uses,(placeL l s).isSome=true) (fun i=>l.length-i) 0 ⟨Nat.zero_le _,by simp⟩ (sc rfl (sc rfl (sc rfl (sc rfl sn)))) ?_
    intro i ⟨hi2,hall2⟩
    refine Cs (Cr ?_)
    refine V0 (yl_lt rfl rfl) ?_
    refine Ln (Et (Cs ?_))
    refine Cc rfl (fun hc4=>?_) (fun hc4=>?_)
    ·
     have hlt:i<l.length:=by simpa using hc4
     obtain ⟨n,hni⟩:∃q,l[i]? = some q:=⟨_,List.getElem?_eq_getElem hlt⟩
     obtain ⟨pbn,pon,han,hrn⟩:=hm.elt i n hni
     obtain ⟨rn,hrown,hrdn⟩:=hrn
     have hmemn:=List.mem_of_getElem? hni
     have hbwn:=hb n hmemn
     have hku:=hrdn.uses.cap
     have hkm:=hrdn.uses.max
     refine Ck (Et (Cs (Cb (Cs (Cr ?_)))))
     refine V0 (Yo es22 rfl rfl han (by omega)) ?_
     refine V0 (yl_lda 0 ag39 rfl rfl rfl (hrown)) ?_
     refine WL.alloc (.inl rfl) rfl zr39 fun b9=>?_
     refine Lst 0 (.inl rfl) rfl rfl rfl sz39 rfl rfl rfl ?_
     refine Ln (Et (Cs (Cr ?_)))
     refine V0 (Yf fo39_1 rfl) ?_
     refine V0 (Yd 0 rfl rfl rfl na27) ?_
     refine V0 (Yn es27 rfl) ?_
     refine V0 (Ym rfl) ?_
     refine Ln (Et (Cb ?_))
     refine CW (ι:=Nat) (fun k=>[(58,.int .i64 (k:Int))]) [(4,_),(49,_),(50,_),(51,_),(56,_),(57,_)] (fun k=>k≤n.uses.length∧∀s ∈ n.uses.take k,(placeL l s).isSome=true) (fun k=>n.uses.length-k) 0 ⟨Nat.zero_le _,by simp⟩ (sc rfl (sc rfl (sc rfl (sc rfl (sc rfl (sc rfl (sc rfl sn))))))) ?_
     intro k ⟨hk,halls⟩
     refine Cs (Cr ?_)
     refine V0 (yl_lt rfl rfl) ?_
     refine Ln (Et (Cs ?_))
     refine Cc rfl (fun hc5=>?_) (fun hc5=>?_)
     ·
      have hlt:k<n.uses.length:=by simpa using hc5
      obtain ⟨s,hsi⟩:∃q,n.uses[k]? = some q:=⟨_,List.getElem?_eq_getElem hlt⟩
      obtain ⟨pbs,pos,has,hrs⟩:=hrdn.uses.elt k s hsi
      have hrs:RdC H pbs (pos+k*1) (strC s):=hrs
      refine Ck (Et (Cs (Cb (Cs (Cr ?_)))))
      refine V0 (Yo es27 rfl rfl has (by omega)) ?_
      refine V0 (yl_ld 0 na9 rfl rfl (hrs 0 _ rfl)) ?_
      refine V0 (Ya rfl) ?_
      refine Ln (Et (Cs (Cr ?_)))
      refine V0 (Ym rfl) ?_
      refine V0 (yl_nil rfl) ?_
      refine V0 (Yf fo53_1 rfl) ?_
      refine V0 (Yd 1 rfl rfl rfl na51) ?_
      refine V0 (Ym rfl) ?_
      refine V0 (yl_glook2 2 keyStr um51 us9 zr3 rfl rfl rfl) ?_
      rw [(tabZ_get _ _).1,(tabZ_get _ _).2]
      refine V0 (Ym rfl) ?_
      refine V0 (Yx rfl rfl) ?_
      refine V0 (Yx rfl rfl) ?_
      refine V0 (Ya rfl) ?_
      refine V0 (Ya rfl) ?_
      refine Ln (Et (Cs (Cr ?_)))
      refine V0 (Ym rfl) ?_
      refine V0 (yl_not rfl) ?_
      refine Ln (Et ?_)
      refine Cc rfl (fun hc6=>?_) (fun hc6=>?_)
      ·
       have hno:(placeL l s).isSome=false:=by simpa [placeL] using hc6
       refine Cs (Cr ?_)
       refine V0 (Ya rfl) ?_
       refine V0 (Ya rfl) ?_
       refine Ln (Et (Crt (Ebr (Er (Er ?_)))))
       refine Ebr (Ebr (Er (Er (Ebr (Er ?_)))))
       refine WE.ret2 rfl rfl rfl fun w' hw=>?_
       rw [hrest,usesOk_no hmemn (List.mem_of_getElem? hsi) hno]
       exact ⟨(0,0),rfl,hw.fr,fun h=>by cases h⟩
      ·
       have hyes:(placeL l s).isSome=true:=by simpa [placeL] using hc6
       refine Ck (Eb (Et (Cr ?_)))
       refine V0 (Yi rfl rfl rfl (by omega)) ?_
       refine V0 (Ym rfl) ?_
       refine Ln ?_
       exact Ea (k+1) (by omega) ⟨by omega,mem_take_snoc hsi halls hyes⟩ (sc rfl (sc rfl (sc rfl (sc rfl (sc rfl (sc rfl (sc rfl sn))))))) (fun _ h=>h)
     ·
      have hge3:k=n.uses.length:=by simp at hc5; omega
      rw [hge3,List.take_length] at halls
      refine Ce (Ex (Ex (Ebh (Eb (Et ?_)))))
      refine Cr ?_
      refine V0 (Yi rfl rfl rfl (by omega)) ?_
      refine V0 (Ym rfl) ?_
      refine Ln ?_
      exact Ea (i+1) (by omega) ⟨by omega,mem_take_snoc hni hall2 halls⟩ (sc rfl (sc rfl (sc rfl (sc rfl sn)))) (fun _ h=>Ws.drop (L:=[_]) h)
    ·
     have hge2:¬i<l.length:=by simpa using hc4
     have hall3:∀m ∈ l,∀s ∈ m.uses,(placeL l s).isSome=true:=fun m hm=>hall2 m (by rw [List.take_of_length_le (by omega)]; exact hm)
     have he0:orderE l=0:=by rw [hrest,usesOk_yes hall3]; rfl
     refine Ce (Ex (Ex (Ebh (Et (Cs ?_)))))
     refine Cr ?_
     refine V0 (Ym rfl) ?_
     refine V0 (Ya rfl) ?_
     refine V0 (Ya rfl) ?_
     refine Ln (Et (Crt ?_))
     refine WE.ret2 rfl rfl rfl fun w' hw=>?_
     rw [he0]
     exact ⟨(b20,b18),rfl,hw.fr,fun _=>⟨hw.nvc 0 rfl rfl,hw.nvb 1 rfl⟩⟩
end Go.Proofs.Ytinnlppbkhhoiaa
end
section
namespace Go.Proofs.Ytinnlppbkhhoiaa
open Go.Bw
set_option linter.unusedVariables false
set_option linter.unusedSimpArgs false
def ixC (i:Nat):List Value:=[.int .i64 (i:Int)]
theorem ixC_len (i:Nat):(ixC i).length=1:=rfl
def rdIx (H:View) (b o:Nat) (i:Nat):Prop:=RdC H b o (ixC i)
def lenK (x:Nat):Int:=if x=0 then 0 else if x=1 then 1 else if x≤3 then 2 else 3
def eAt (d:List Nat) (j:Nat):Nat:=d.getD j 0
theorem eAt_get {d:List Nat} {j:Nat} (h:j<d.length):d[j]? = some (eAt d j):=by simp [eAt,List.getD,List.getElem?_eq_getElem h]
def ixD (l:List TMod) (d:List Nat) (ss:List Tx):Int:=if ss.all (doneS l d)=true then -1 else ((ss.findIdx fun s=>!doneS l d s:Nat):Int)
theorem ixD_yes {l:List TMod} {d:List Nat} {ss:List Tx} (h:∀s ∈ ss,doneS l d s=true):ixD l d ss = -1:=by rw [ixD,if_pos (List.all_eq_true.2 h)]
theorem ixD_no {l:List TMod} {d:List Nat} {ss:List Tx} {i:Nat} {s:Tx} (hi:ss[i]? = some s) (hall:∀s ∈ ss.take i,doneS l d s=true) (h:doneS l d s=false):ixD l d ss=(i:Int):=by
 have hlt:=(List.getElem?_eq_some_iff.1 hi).1
 have hs:=(List.getElem?_eq_some_iff.1 hi).2
 rw [ixD,if_neg (fun h2=>by rw [List.all_eq_true] at h2; rw [h2 s (List.mem_of_getElem? hi)] at h; cases h)]
 congr 1
 rw [List.findIdx_eq hlt]
 refine ⟨by rw [hs,h]; rfl,fun j hj=>?_⟩
 rw [hall _ (by rw [List.mem_take_iff_getElem]; exact ⟨j,by omega,rfl⟩)]
 rfl
theorem ixD_ge (l:List TMod) (d:List Nat) (ss:List Tx):decide (ixD l d ss≥0) = !ss.all (doneS l d):=by
 unfold ixD
 by_cases h:ss.all (doneS l d)=true
 · rw [if_pos h,h]; rfl
 · rw [if_neg h,Bool.eq_false_iff.2 h]; simp
structure GI where
 i:Nat
 d:List Nat
theorem sorted_lt {l:List TMod} (hn:(namesL l).Nodup) {d:List Nat} (hd:∀x ∈ d,x<l.length) (hnd:d.Nodup) {i j a b:Nat} (ha:d[i]? = some a) (hb:d[j]? = some b) (hij:i≠j) (h:¬cmpT (nmAt l a) (nmAt l b)<0):ltN l b a:=by
 have hne:nmAt l a≠nmAt l b:=fun e=>by
   have:=nm_inj hn (hd a (List.mem_of_getElem? ha)) (hd b (List.mem_of_getElem? hb)) e
   subst this
   exact hij ((List.getElem?_inj (List.getElem?_eq_some_iff.1 ha).1 hnd).1 (ha.trans hb.symm))
 rcases ltT_tri _ _ hne with h1 | h1
 · exact absurd (cmpT_neg.2 h1) h
 · exact h1
theorem sortedUp_le {R:Nat→Nat→Prop} {d:List Nat} {i j:Nat} (h:SortedUp R d i) (hj:d.length≤i):SortedUp R d j:=fun x y a b h1 h2 ha hb=>h x y a b h1 (by have:=(List.getElem?_eq_some_iff.1 hb).1; omega) ha hb
theorem sortedUp_one {R:Nat→Nat→Prop} {d:List Nat}:SortedUp R d 1:=fun x y a b h1 h2=>by omega
theorem en30:Enters Try.prog 30:=enters_of Try.func30 (by kernel_rfl) rfl
theorem ui96:Try.prog.underlying 96=some (.int .u64):=by kernel_rfl
theorem ui5:Try.prog.underlying 5=some (.int .u8):=by kernel_rfl
theorem en52:Enters Try.prog 52:=enters_of Try.func52 (by kernel_rfl) rfl
theorem na22:nonAgg Try.prog 22=true:=by kernel_rfl
theorem en18:Enters Try.prog 18:=enters_of Try.func18 (by kernel_rfl) rfl
theorem es23:elemSz Try.prog 23=some 1:=by kernel_rfl
theorem en17:Enters Try.prog 17:=enters_of Try.func17 (by kernel_rfl) rfl
theorem isNaNS_any (s:Tx) (w:World) :
   Calls Try.prog 30 #[st s] w fun e w'=>e = .returned (.bool false)∧Ext w w':=by
 refine enter Try.func30 rfl 6 rfl rfl ?_
 refine CWd (W':=Ws w [] [] []) (fun _ e=>by subst e; exact Ws.init (by simp)) ?_
 refine Cs (Cr ?_)
 refine V0 (Ya rfl) ?_
 refine Ln (Et (Cs (Cr ?_)))
 refine V0 (Ym rfl) ?_
 refine V0 (Ym rfl) ?_
 refine V0 (yl_nesY rfl rfl rfl) ?_
 refine V0 (Ya rfl) ?_
 refine Ln (Et (Crt ?_))
 refine WE.ret1 rfl rfl fun w' hw=>?_
 exact ⟨rfl,hw.fr⟩
theorem compareS_any (s t:Tx) (w:World) :
   Calls Try.prog 18 #[st s,st t] w fun e w'=>e = .returned (.int .i64 (cmpT s t))∧Ext w w':=by
 refine enter Try.func18 rfl 20 rfl rfl ?_
 refine CWd (W':=Ws w [] [] []) (fun _ e=>by subst e; exact Ws.init (by simp)) ?_
 refine Cs (Cr ?_)
 refine V0 (Ya rfl) ?_
 refine Ln (Et (Cs (Cr ?_)))
 refine V0 (Ym rfl) ?_
 refine Lp (.inl rfl) rfl en30 rfl (fun w hw=>isNaNS_any _ w) ?_
 refine V0 (Ya rfl) ?_
 refine Ln (Et (Cs (Cr ?_)))
 refine V0 (Ym rfl) ?_
 refine Lp (.inl rfl) rfl en30 rfl (fun w hw=>isNaNS_any _ w) ?_
 refine V0 (Ya rfl) ?_
 refine Ln (Et (Cs (Cs (Cr ?_))))
 refine V0 (Ym rfl) ?_
 refine Ln (Et ?_)
 refine WC.condf rfl ?_
 refine Ck (Et (Cs (Cs (Cr ?_))))
 refine V0 (Ym rfl) ?_
 refine Ln (Et ?_)
 refine WC.condf rfl ?_
 refine Ck (Et (Cs (Cs (Cr ?_))))
 refine V0 (Ym rfl) ?_
 refine V0 (Ym rfl) ?_
 refine V0 (yl_lts rfl rfl) ?_
 refine Ln (Et ?_)
 refine Cc rfl (fun hc3=>?_) (fun hc3=>?_)
 ·
  refine Cs (Cr ?_)
  refine V0 (Ya rfl) ?_
  refine Ln (Et (Crt (Er ?_)))
  refine WE.ret1 rfl rfl fun w' hw=>?_
  have h:ltT s t=true:=hc3
  exact ⟨by rw [cmpT,if_pos h],hw.fr⟩
 ·
  refine Ck (Et (Cs (Cs (Cr ?_))))
  refine V0 (Ym rfl) ?_
  refine V0 (Ym rfl) ?_
  refine V0 (yl_gts rfl rfl) ?_
  refine Ln (Et ?_)
  refine Cc rfl (fun hc4=>?_) (fun hc4=>?_)
  ·
   refine Cs (Cr ?_)
   refine V0 (Ya rfl) ?_
   refine Ln (Et (Crt (Er ?_)))
   refine WE.ret1 rfl rfl fun w' hw=>?_
   have h:¬ltT s t=true:=by rw [Bool.not_eq_true]; exact hc3
   have h2:(!(ltT s t||s==t))=true:=hc4
   exact ⟨by rw [cmpT,if_neg h,if_pos h2],hw.fr⟩
  ·
   refine Ck (Et (Cs (Cr ?_)))
   refine V0 (Ya rfl) ?_
   refine Ln (Et (Crt ?_))
   refine WE.ret1 rfl rfl fun w' hw=>?_
   have h:¬ltT s t=true:=by rw [Bool.not_eq_true]; exact hc3
   have h2:¬(!(ltT s t||s==t))=true:=by rw [Bool.not_eq_true]; exact hc4
   exact ⟨by rw [cmpT,if_neg h,if_neg h2],hw.fr⟩
theorem len64_any (x:Nat) (w:World) (hx:x≤4) :
   Calls Try.prog 52 #[.int .u64 (x:Int)] w fun e w'=>e = .returned (.int .i64 (lenK x))∧Ext w w':=by
 have hwr:IntKind.u8.wrap (x:Int)=(x:Int):=by rcases (show x=0∨x=1∨x=2∨x=3∨x=4 by omega) with rfl | rfl | rfl | rfl | rfl<;>rfl
 refine enter Try.func52 rfl 25 rfl rfl ?_
 refine CWd (W':=Ws w [] [] []) (fun _ e=>by subst e; exact Ws.init (by simp)) ?_
 refine Cs (Cr ?_)
 refine V0 (Ya rfl) ?_
 refine Ln (Et (Cs (Cs (Cr ?_))))
 refine V0 (Ym rfl) ?_
 refine V0 (yl_ge rfl rfl) ?_
 refine Ln (Et ?_)
 refine Cc rfl (fun hc0=>?_) (fun hc0=>?_)
 ·
  exfalso
  simp at hc0
  omega
 ·
  refine Ck (Et (Cs (Cs (Cr ?_))))
  refine V0 (Ym rfl) ?_
  refine V0 (yl_ge rfl rfl) ?_
  refine Ln (Et ?_)
  refine Cc rfl (fun hc1=>?_) (fun hc1=>?_)
  ·
   exfalso
   simp at hc1
   omega
  ·
   refine Ck (Et (Cs (Cs (Cr ?_))))
   refine V0 (Ym rfl) ?_
   refine V0 (yl_ge rfl rfl) ?_
   refine Ln (Et ?_)
   refine Cc rfl (fun hc2=>?_) (fun hc2=>?_)
   ·
    exfalso
    simp at hc2
    omega
   ·
    refine Ck (Et (Cs (Cr ?_)))
    refine V0 (Ym rfl) ?_
    refine V0 (Ym rfl) ?_
    refine V0 (yl_cvi ui96 ui5 rfl) ?_
    rw [hwr]
    refine V0 (yl_idxk us9 rfl rfl (show _=some (UInt8.ofNat (lenK x).toNat) by rcases (show x=0∨x=1∨x=2∨x=3∨x=4 by omega) with rfl | rfl | rfl | rfl | rfl<;>rfl)) ?_
    refine V0 (yl_cvi ui5 ui3 rfl) ?_
    refine V0 (yl_addw rfl rfl) ?_
    refine V0 (Ya rfl) ?_
    refine Ln (Et (Crt ?_))
    refine WE.ret1 rfl rfl fun w' hw=>?_
    exact ⟨by rcases (show x=0∨x=1∨x=2∨x=3∨x=4 by omega) with rfl | rfl | rfl | rfl | rfl<;>rfl,hw.fr⟩
theorem bitsLen_any (x:Nat) (w:World) (hx:x≤4) :
   Calls Try.prog 29 #[.int .u64 (x:Int)] w fun e w'=>e = .returned (.int .i64 (lenK x))∧Ext w w':=by
 refine enter Try.func29 rfl 8 rfl rfl ?_
 refine CWd (W':=Ws w [] [] []) (fun _ e=>by subst e; exact Ws.init (by simp)) ?_
 refine Cs (Cr ?_)
 refine V0 (Ya rfl) ?_
 refine Ln (Et (Cs ?_))
 refine WC.condf rfl ?_
 refine Ck (Et (Cs (Cr ?_)))
 refine V0 (Ym rfl) ?_
 refine Lp (.inl rfl) rfl en52 rfl (fun w hw=>len64_any x w hx) ?_
 refine V0 (Ya rfl) ?_
 refine Ln (Et (Crt ?_))
 refine WE.ret1 rfl rfl fun w' hw=>?_
 exact ⟨rfl,hw.fr⟩
theorem sort1_any (H Hm:View) (ke ks b1:Nat) (am:Option Addr) (cm:Nat) (l:List TMod) (h1:vc H b1 0=some (.slice am l.length cm)) (hm:Sl (rdMod ke ks) 5 Hm am cm l) (i j:Nat) (w:World) (hH:Le H w) (hHm:Le Hm w) (hi:i<l.length) (hj:j<l.length) :
   Calls Try.prog 17 #[.int .i64 (i:Int),.int .i64 (j:Int),.pointer (some ⟨b1,0,none⟩)] w fun e w'=>e = .returned (.int .i64 (cmpT (nmAt l i) (nmAt l j)))∧Ext w w':=by
 obtain ⟨mi,hmii⟩:∃m,l[i]? = some m:=⟨_,List.getElem?_eq_getElem hi⟩
 obtain ⟨pbx,pox,hax,rx,hrowx,hrdx⟩:=hm.elt i mi hmii
 have hnx:=nmAt_get hmii
 obtain ⟨mj,hmji⟩:∃m,l[j]? = some m:=⟨_,List.getElem?_eq_getElem hj⟩
 obtain ⟨pby,poy,hay,ry,hrowy,hrdy⟩:=hm.elt j mj hmji
 have hny:=nmAt_get hmji
 refine enter Try.func17 rfl 17 rfl rfl ?_
 refine CWd (W':=Ws w [] [] [H,Hm]) (fun _ e=>by subst e; exact Ws.init (by simp [hH,hHm])) ?_
 refine Cs (Cr ?_)
 refine V0 (Ya rfl) ?_
 refine Ln (Et (Cs ?_))
 refine WC.draws0 [(0,true),(1,true),(2,true),(3,true),(4,true),(5,true),(6,true),(7,true),(8,true),(9,true),(10,false),(11,true)] mixed (by kernel_rfl) (fun _ _ _ d _ h=>by cases d<;>exact h) ?_
 refine Dq rfl (.inl rfl) rfl (fun _ h=>h) (yl_ld 0 na22 rfl rfl (h1)) ?_
 refine Dq rfl (.inl rfl) rfl (fun _ h=>h) (Ym rfl) ?_
 refine Dq rfl (.inl rfl) rfl (fun _ h=>h) (Yo es22 rfl rfl hax hi) ?_
 refine Dq rfl (.inl rfl) rfl (fun _ h=>h) (Yf fo39_0 rfl) ?_
 refine Dq rfl (.inl rfl) rfl (fun _ h=>h) (yl_ld 1 na9 rfl rfl (hrowx 0 _ rfl)) ?_
 refine Dq rfl (.inl rfl) rfl (fun _ h=>h) (yl_ld 0 na22 rfl rfl (h1)) ?_
 refine Dq rfl (.inl rfl) rfl (fun _ h=>h) (Ym rfl) ?_
 refine Dq rfl (.inl rfl) rfl (fun _ h=>h) (Yo es22 rfl rfl hay hj) ?_
 refine Dq rfl (.inl rfl) rfl (fun _ h=>h) (Yf fo39_0 rfl) ?_
 refine Dq rfl (.inl rfl) rfl (fun _ h=>h) (yl_ld 1 na9 rfl rfl (hrowy 0 _ rfl)) ?_
 refine De rfl (fun _ h=>h) ?_
 refine Lp (.inl rfl) rfl en18 rfl (fun w hw=>compareS_any _ _ w) ?_
 refine Ln (Ed ?_)
 refine Dq rfl (.inl rfl) rfl (fun _ h=>h) (Ya rfl) ?_
 refine WD.nil (fun _ h=>h) ?_
 refine Et (Crt ?_)
 refine WE.ret1 rfl rfl fun w' hw=>?_
 exact ⟨by rw [hnx,hny],hw.fr⟩
theorem insSort_any (H Hm:View) (ke ks b1:Nat) (am:Option Addr) (cm:Nat) (l:List TMod) (h1:vc H b1 0=some (.slice am l.length cm)) (hm:Sl (rdMod ke ks) 5 Hm am cm l) (a:Option Addr) (c:Nat) (d0:List Nat) (hn:(namesL l).Nodup) (hd:∀x ∈ d0,x<l.length) (hnd:d0.Nodup) (h4:d0.length≤4) (w:World) (hw:Ws w (List.flatMap Asr.ids [osT 3 1 ixC a c d0]) [osT 3 1 ixC a c d0] [H,Hm] w) :
   Calls Try.prog 43 #[.slice a d0.length c,.int .i64 0,.int .i64 (d0.length:Int),.func (.func 17) #[] #[.pointer (some ⟨b1,0,none⟩)]] w fun e w'=>∃d:List Nat,e = .returned (.tuple #[])∧(d.Perm d0∧SortedUp (ltN l) d d.length)∧Ws w (List.flatMap Asr.ids [osT 3 1 ixC a c d0]) [osT 3 1 ixC a c d] [H,Hm] w':=by
 refine enter Try.func43 rfl 53 rfl rfl ?_
 refine CWd (W':=Ws w (List.flatMap Asr.ids [osT 3 1 ixC a c d0]) [osT 3 1 ixC a c d0] [H,Hm]) (fun _ e=>by subst e; exact hw) ?_
 refine Cs (Cr ?_)
 refine V0 (Ym rfl) ?_
 refine V0 (yl_addn (a:=0) (b:=1) rfl rfl rfl rfl (by omega)) ?_
 refine V0 (Ya rfl) ?_
 refine Ln (Et (Cb ?_))
 refine CK (ι:=GI) (fun g=>[(8,.int .i64 (g.i:Int))]) [(0,_),(1,_),(2,_),(3,_)] (fun g=>Ws w (List.flatMap Asr.ids [osT 3 1 ixC a c d0]) [osT 3 1 ixC a c g.d] [H,Hm]) (fun g=>g.d.Perm d0∧SortedUp (ltN l) g.d g.i) (fun g=>d0.length-g.i) ⟨1,d0⟩ ⟨List.Perm.refl _,sortedUp_one⟩ (sc rfl (sc rfl (sc rfl (sc rfl (sc rfl sn))))) (fun _ h=>h) ?_
 intro g ⟨hp,hs⟩
 refine Cs (Cs (Cr ?_))
 refine V0 (Ym rfl) ?_
 refine V0 (Ym rfl) ?_
 refine V0 (yl_lt rfl rfl) ?_
 refine Ln (Et ?_)
 refine Cc rfl (fun hc0=>?_) (fun hc0=>?_)
 ·
  have hlt:g.i<d0.length:=by simpa using hc0
  have hpl:=hp.length_eq
  refine Ck (Et (Cs (Cb (Cs (Cr ?_)))))
  refine V0 (Ym rfl) ?_
  refine V0 (Ya rfl) ?_
  refine Ln (Et (Cb ?_))
  refine CK (ι:=GI) (fun q=>[(9,.int .i64 (q.i:Int))]) [(0,_),(1,_),(2,_),(3,_),(8,_)] (fun q=>Ws w (List.flatMap Asr.ids [osT 3 1 ixC a c d0]) [osT 3 1 ixC a c q.d] [H,Hm]) (fun q=>InsInv (ltN l) d0 q.d g.i q.i) (fun q=>q.i) ⟨g.i,g.d⟩ (ins_start hp (by rw [hpl]; exact hlt) hs) (sc rfl (sc rfl (sc rfl (sc rfl (sc rfl (sc rfl sn)))))) (fun _ h=>h) ?_
  intro q hq
  refine Cs (Cs ?_)
  have hql:q.d.length=d0.length:=hq.perm.length_eq
  have hqi:=hq.ji
  have hqx:∀x ∈ q.d,x<l.length:=fun x hx=>hd x (hq.perm.subset hx)
  have hqn:q.d.Nodup:=hq.perm.nodup_iff.2 hnd
  have hj9:=eAt_get (d:=q.d) (j:=q.i) (by omega)
  have hj8:=eAt_get (d:=q.d) (j:=q.i-1) (by omega)
  refine WC.shapeT 0 rfl (by omega) fun xb hxb hxc hxm=>?_
  refine WC.draws0 [(0,true),(1,true),(2,true),(3,true),(4,true),(5,true),(6,true),(7,true),(8,true),(9,true),(10,true),(11,true),(12,true),(13,true),(14,false),(15,true),(16,true)] mixed (by kernel_rfl) (fun _ _ _ d _ h=>by cases d<;>exact h) ?_
  refine Dq rfl (.inl rfl) rfl (fun _ h=>h) (Ym rfl) ?_
  refine Dq rfl (.inl rfl) rfl (fun _ h=>h) (Ym rfl) ?_
  refine Dq rfl (.inl rfl) rfl (fun _ h=>h) (yl_gt rfl rfl) ?_
  refine Dq rfl (.inl rfl) rfl (fun _ h=>h) (Ym rfl) ?_
  apply WD.and 12 (x:=decide (cmpT (nmAt l (eAt q.d q.i)) (nmAt l (eAt q.d (q.i-1)))<0)) rfl rfl rfl rfl rfl (.inl rfl) rfl (fun _ h=>h) rfl rfl rfl rfl
  ·
   intro hg0
   have hg:0<q.i:=by simpa using hg0
   refine Dq rfl (.g rfl rfl rfl) rfl (fun _ h=>h) (Ym rfl) ?_
   refine Dq rfl (.g rfl rfl rfl) rfl (fun _ h=>h) (Ym rfl) ?_
   refine Dq rfl (.g rfl rfl rfl) rfl (fun _ h=>h) (Ym rfl) ?_
   refine Dq rfl (.g rfl rfl rfl) rfl (fun _ h=>h) (Yo es23 rfl rfl hxb (by omega)) ?_
   refine Dq rfl (.g rfl rfl rfl) rfl (fun _ h=>h) (yl_ldT (y:=(eAt q.d q.i)) 0 q.i 0 rfl rfl hxb rfl ixC_len hj9 rfl na3) ?_
   refine Dq rfl (.g rfl rfl rfl) rfl (fun _ h=>h) (Ym rfl) ?_
   refine Dq rfl (.g rfl rfl rfl) rfl (fun _ h=>h) (Ym rfl) ?_
   refine Dq rfl (.g rfl rfl rfl) rfl (fun _ h=>h) (yl_subv ((q.i-1:Nat):Int) rfl rfl (by omega) (by omega)) ?_
   refine Dq rfl (.g rfl rfl rfl) rfl (fun _ h=>h) (Yo es23 rfl rfl hxb (by omega)) ?_
   refine Dq rfl (.g rfl rfl rfl) rfl (fun _ h=>h) (yl_ldT (y:=(eAt q.d (q.i-1))) 0 (q.i-1) 0 rfl rfl hxb rfl ixC_len hj8 rfl na3) ?_
   refine De rfl (fun _ h=>h) ?_
   refine WL.callvp (.g rfl rfl rfl) rfl en17 rfl rfl (fun w hw=>sort1_any H Hm ke ks b1 am cm l h1 hm (eAt q.d q.i) (eAt q.d (q.i-1)) w (hw.vs _ (by simp)) (hw.vs _ (by simp)) (hqx _ (List.mem_of_getElem? hj9)) (hqx _ (List.mem_of_getElem? hj8))) ?_
   refine Ln (Ed ?_)
   refine Dq rfl (.g rfl rfl rfl) rfl (fun _ h=>h) (yl_lt rfl rfl) ?_
   exact Gi 12 (fun _ h=>h) rfl rfl rfl
  refine WD.nil (fun _ h=>h) ?_
  refine Et ?_
  refine Cc rfl (fun hc1=>?_) (fun hc1=>?_)
  ·
   obtain ⟨hg,hlt8⟩:0<q.i∧cmpT (nmAt l (eAt q.d q.i)) (nmAt l (eAt q.d (q.i-1)))<0:=by simpa using hc1
   have hj8s:(q.d.set q.i (eAt q.d (q.i-1)))[q.i-1]? = some (eAt q.d (q.i-1)):=by rw [List.getElem?_set_ne (by omega)]; exact hj8
   have hsp:q.i-1+1=q.i:=by omega
   have hqs:InsInv (ltN l) d0 ((q.d.set q.i (eAt q.d (q.i-1))).set (q.i-1) (eAt q.d q.i)) g.i (q.i-1):=by
     have h:=ins_swap (j:=q.i-1) (a:=(eAt q.d q.i)) (b:=(eAt q.d (q.i-1))) (by rw [hsp]; exact hq) (by rw [hsp]; exact hj9) hj8 (cmpT_neg.1 hlt8)
     rw [hsp] at h; exact h
   refine Ck (Et (Cs (Cb ?_)))
   refine CU (fun _=>true) [] [15,16,17] (.q false 0 (.q false 1 (.q false 2 (.q false 3 (.q false 4 (.q false 5 (.q false 6 (.q false 7 (.q false 8 (.q true 9 (.q false 10 (.q false 11 (.q false 12 (.q true 13 (.q false 14 .nil))))))))))))))) mixed (by kernel_rfl) (fun _ _ _ d _ _ h=>by cases d<;>exact h) ?_
   refine Uq rfl (.inl rfl) rfl (fun _ h=>h) (Ym rfl) ?_
   refine Uq rfl (.inl rfl) rfl (fun _ h=>h) (Ym rfl) ?_
   refine Uq rfl (.inl rfl) rfl (fun _ h=>h) (Ym rfl) ?_
   refine Uq rfl (.inl rfl) rfl (fun _ h=>h) (Ym rfl) ?_
   refine Uq rfl (.inl rfl) rfl (fun _ h=>h) (yl_subv ((q.i-1:Nat):Int) rfl rfl (by omega) (by omega)) ?_
   refine Uq rfl (.inl rfl) rfl (fun _ h=>h) (Ym rfl) ?_
   refine Uq rfl (.inl rfl) rfl (fun _ h=>h) (Ym rfl) ?_
   refine Uq rfl (.inl rfl) rfl (fun _ h=>h) (yl_subv ((q.i-1:Nat):Int) rfl rfl (by omega) (by omega)) ?_
   refine Uq rfl (.inl rfl) rfl (fun _ h=>h) (Yo es23 rfl rfl hxb (by omega)) ?_
   refine Uq rfl (.inl rfl) rfl (fun _ h=>h) (yl_ldT (y:=(eAt q.d (q.i-1))) 0 (q.i-1) 0 rfl rfl hxb rfl ixC_len hj8 rfl na3) ?_
   refine Uq rfl (.inl rfl) rfl (fun _ h=>h) (Ym rfl) ?_
   refine Uq rfl (.inl rfl) rfl (fun _ h=>h) (Ym rfl) ?_
   refine Uq rfl (.inl rfl) rfl (fun _ h=>h) (Yo es23 rfl rfl hxb (by omega)) ?_
   refine Uq rfl (.inl rfl) rfl (fun _ h=>h) (yl_ldT (y:=(eAt q.d q.i)) 0 q.i 0 rfl rfl hxb rfl ixC_len hj9 rfl na3) ?_
   refine Uq rfl (.inl rfl) rfl (fun _ h=>h) (Yo es23 rfl rfl hxb (by omega)) ?_
   refine WU.nil (fun _ h=>h) ?_
   refine WS.e rfl ?_
   refine WL.storeT (y:=(eAt q.d q.i)) 0 q.i 0 (eAt q.d (q.i-1)) (.inl rfl) rfl rfl rfl hxb rfl ixC_len hj9 sz3 rfl rfl (by decide) rfl ?_
   refine Ln (Es ?_)
   refine WS.e rfl ?_
   refine V0 (Yo es23 rfl rfl hxb (by omega)) ?_
   refine Ln (Es ?_)
   refine WS.e rfl ?_
   refine WL.storeT (y:=(eAt q.d (q.i-1))) 0 (q.i-1) 0 (eAt q.d q.i) (.inl rfl) rfl rfl rfl hxb rfl ixC_len hj8s sz3 rfl rfl (by decide) rfl ?_
   refine Ln (Es ?_)
   refine WS.nil ?_
   refine Eb (Et (Cr ?_))
   refine V0 (Ym rfl) ?_
   refine V0 (yl_subv ((q.i-1:Nat):Int) rfl rfl (by omega) (by omega)) ?_
   refine V0 (Ya rfl) ?_
   refine Ln ?_
   exact Ea (⟨q.i-1,(q.d.set q.i (eAt q.d (q.i-1))).set (q.i-1) (eAt q.d q.i)⟩:GI) (by show q.i-1<q.i; omega) hqs (sc rfl (sc rfl (sc rfl (sc rfl (sc rfl (sc rfl sn)))))) (fun _ h=>h)
  ·
   have hsn:SortedUp (ltN l) q.d (g.i+1):=by
     by_cases hz:q.i=0
     · rw [hz] at hq; exact ins_end0 hq
     · have hnl:¬cmpT (nmAt l (eAt q.d q.i)) (nmAt l (eAt q.d (q.i-1)))<0:=fun h=>by simp [h] at hc1; omega
       have hsp:q.i-1+1=q.i:=by omega
       exact ins_end (R:=ltN l) (d0:=d0) (i:=g.i) (fun a b c h1 h2=>ltT_trans _ _ _ h1 h2) (j:=q.i-1) (a:=(eAt q.d q.i)) (b:=(eAt q.d (q.i-1))) (by rw [hsp]; exact hq) (by rw [hsp]; exact hj9) hj8 (sorted_lt hn hqx hqn hj9 hj8 (by omega) hnl)
   refine Ce (Ex (Ex (Ebh (Eb (Et ?_)))))
   refine Cr ?_
   refine V0 (Ym rfl) ?_
   refine V0 (Yi rfl rfl rfl (by omega)) ?_
   refine V0 (Ya rfl) ?_
   refine Ln ?_
   exact Ea (⟨g.i+1,q.d⟩:GI) (by show _-(g.i+1)<_; omega) ⟨hq.perm,hsn⟩ (sc rfl (sc rfl (sc rfl (sc rfl (sc rfl sn))))) (fun _ h=>h)
 ·
  have hge:d0.length≤g.i:=by simp at hc0; omega
  refine Ce (Ex (Ex (Ebh ?_)))
  refine WE.end0 rfl fun w' hw=>?_
  exact ⟨g.d,rfl,⟨hp,sortedUp_le hs (by rw [hp.length_eq]; exact hge)⟩,hw⟩
end Go.Proofs.Ytinnlppbkhhoiaa
end
section
namespace Go.Proofs.Ytinnlppbkhhoiaa
open Go.Bw
set_option linter.unusedVariables false
set_option linter.unusedSimpArgs false
theorem wrapU {x:Nat} (h:x≤4):IntKind.u64.wrap (x:Int)=(x:Int):=by rcases (show x=0∨x=1∨x=2∨x=3∨x=4 by omega) with rfl | rfl | rfl | rfl | rfl<;>rfl
theorem doneS_at {l:List TMod} {d:List Nat} {s:Tx} (h:(placeL l s).isSome=true):((if d.contains ((idxOf s (namesL l) 0).getD 0)=true then (1:Int) else 0)==0) = !doneS l d s:=by
 obtain ⟨j,hj⟩:=Option.isSome_iff_exists.1 h
 have hj2:idxOf s (namesL l) 0=some j:=hj
 rw [hj2]
 unfold doneS
 rw [hj]
 show ((if d.contains j=true then (1:Int) else 0)==0) = !d.contains j
 cases d.contains j<;>rfl
theorem en43:Enters Try.prog 43:=enters_of Try.func43 (by kernel_rfl) rfl
theorem ui67:Try.prog.underlying 67=some (.int .u64):=by kernel_rfl
theorem en29:Enters Try.prog 29:=enters_of Try.func29 (by kernel_rfl) rfl
theorem en28:Enters Try.prog 28:=enters_of Try.func28 (by kernel_rfl) rfl
theorem na49:nonAgg Try.prog 49=true:=by kernel_rfl
theorem na44:nonAgg Try.prog 44=true:=by kernel_rfl
theorem um49:Try.prog.underlying 49=some (.map 3 3):=by kernel_rfl
theorem en20:Enters Try.prog 20:=enters_of Try.func20 (by kernel_rfl) rfl
theorem en31:Enters Try.prog 31:=enters_of Try.func31 (by kernel_rfl) rfl
theorem pdqsort_any (H Hm:View) (ke ks b1:Nat) (am:Option Addr) (cm:Nat) (l:List TMod) (h1:vc H b1 0=some (.slice am l.length cm)) (hm:Sl (rdMod ke ks) 5 Hm am cm l) (a:Option Addr) (c:Nat) (d0:List Nat) (hn:(namesL l).Nodup) (hd:∀x ∈ d0,x<l.length) (hnd:d0.Nodup) (h4:d0.length≤4) (lim:Int) (w:World) (hw:Ws w (List.flatMap Asr.ids [osT 3 1 ixC a c d0]) [osT 3 1 ixC a c d0] [H,Hm] w) :
   Calls Try.prog 28 #[.slice a d0.length c,.int .i64 0,.int .i64 (d0.length:Int),.int .i64 lim,.func (.func 17) #[] #[.pointer (some ⟨b1,0,none⟩)]] w fun e w'=>∃d:List Nat,e = .returned (.tuple #[])∧(d.Perm d0∧SortedUp (ltN l) d d.length)∧Ws w (List.flatMap Asr.ids [osT 3 1 ixC a c d0]) [osT 3 1 ixC a c d] [H,Hm] w':=by
 refine enter Try.func28 rfl 148 rfl rfl ?_
 refine CWd (W':=Ws w (List.flatMap Asr.ids [osT 3 1 ixC a c d0]) [osT 3 1 ixC a c d0] [H,Hm]) (fun _ e=>by subst e; exact hw) ?_
 refine Cs (Cr ?_)
 refine V0 (Ya rfl) ?_
 refine Ln (Et (Cs (Cr ?_)))
 refine V0 (Ya rfl) ?_
 refine Ln (Et (Cb ?_))
 refine CW (ι:=Unit) (fun g=>[]) [(0,_),(1,_),(2,_),(4,_)] (fun g=>True) (fun g=>0) () trivial (sc rfl (sc rfl (sc rfl (sc rfl sn)))) ?_
 intro g _
 refine Cb (Cs (Cr ?_))
 refine V0 (Ym rfl) ?_
 refine V0 (Ym rfl) ?_
 refine V0 (yl_subv (d0.length:Int) rfl rfl (by omega) (by omega)) ?_
 refine V0 (Ya rfl) ?_
 refine Ln (Et (Cs (Cs (Cr ?_))))
 refine V0 (Ym rfl) ?_
 refine V0 (yl_le rfl rfl) ?_
 refine Ln (Et ?_)
 refine Cc rfl (fun hc0=>?_) (fun hc0=>?_)
 ·
  refine Cs (Cr ?_)
  refine V0 (Ym rfl) ?_
  refine V0 (Ym rfl) ?_
  refine V0 (Ym rfl) ?_
  refine V0 (Ym rfl) ?_
  refine Lf 0 rfl ?_
  refine Lw (ι:=List Nat) [_] _ (.inl rfl) rfl en43 rfl rfl (fun _=>.tuple #[]) (fun d=>[osT 3 1 ixC a c d]) (fun d=>d.Perm d0∧SortedUp (ltN l) d d.length) [H,Hm] (by simp) (fun w hw=>insSort_any H Hm ke ks b1 am cm l h1 hm a c d0 hn hd hnd h4 w hw) ?_
  intro d hdr
  refine Ln (Et (Crt (Er (Ebr (Er ?_)))))
  refine Ebr ?_
  refine WE.ret0 rfl fun w' hw=>?_
  exact ⟨d,rfl,hdr,hw⟩
 ·
  exfalso
  simp at hc0
  omega
theorem sortFunc_any (H Hm:View) (ke ks b1:Nat) (am:Option Addr) (cm:Nat) (l:List TMod) (h1:vc H b1 0=some (.slice am l.length cm)) (hm:Sl (rdMod ke ks) 5 Hm am cm l) (a:Option Addr) (c:Nat) (d0:List Nat) (hn:(namesL l).Nodup) (hd:∀x ∈ d0,x<l.length) (hnd:d0.Nodup) (h4:d0.length≤4) (w:World) (hw:Ws w (List.flatMap Asr.ids [osT 3 1 ixC a c d0]) [osT 3 1 ixC a c d0] [H,Hm] w) :
   Calls Try.prog 16 #[.slice a d0.length c,.func (.func 17) #[] #[.pointer (some ⟨b1,0,none⟩)]] w fun e w'=>∃d:List Nat,e = .returned (.tuple #[])∧(d.Perm d0∧SortedUp (ltN l) d d.length)∧Ws w (List.flatMap Asr.ids [osT 3 1 ixC a c d0]) [osT 3 1 ixC a c d] [H,Hm] w':=by
 refine enter Try.func16 rfl 14 rfl rfl ?_
 refine CWd (W':=Ws w (List.flatMap Asr.ids [osT 3 1 ixC a c d0]) [osT 3 1 ixC a c d0] [H,Hm]) (fun _ e=>by subst e; exact hw) ?_
 refine Cs (Cr ?_)
 refine V0 (Ym rfl) ?_
 refine V0 (Yn es23 rfl) ?_
 refine V0 (Ya rfl) ?_
 refine Ln (Et (Cr ?_))
 refine V0 (Ym rfl) ?_
 refine V0 (Ym rfl) ?_
 refine V0 (Ym rfl) ?_
 refine V0 (yl_cvi ui3 ui67 rfl) ?_
 rw [wrapU h4]
 refine Lp (.inl rfl) rfl en29 rfl (fun w hw=>bitsLen_any _ w h4) ?_
 refine V0 (Ym rfl) ?_
 refine Lf 0 rfl ?_
 refine Lw (ι:=List Nat) [_] _ (.inl rfl) rfl en28 rfl rfl (fun _=>.tuple #[]) (fun d=>[osT 3 1 ixC a c d]) (fun d=>d.Perm d0∧SortedUp (ltN l) d d.length) [H,Hm] (by simp) (fun w hw=>pdqsort_any H Hm ke ks b1 am cm l h1 hm a c d0 hn hd hnd h4 _ w hw) ?_
 intro d hdr
 refine Ln ?_
 refine WE.end0 rfl fun w' hw=>?_
 exact ⟨d,rfl,hdr,hw⟩
theorem sort2_any (H8 Hd H4 Hg:View) (b8 b33 b4 gp gm:Nat) (l:List TMod) (d:List Nat) (h8:vc H8 b8 0=some (.map (some b33))) (hd:Hd b33=some (gobj (fun n:Int=>Value.int .i64 n) (tabD d 0) d.length)) (h4:vc H4 b4 0=some (.pointer (some ⟨gp,0,none⟩))) (hg1:vc Hg gp 1=some (.map (some gm))) (hg2:Hg gm=some (gobj st (tabZ (namesL l) 0) l.length)) (s:Tx) (w:World) (hH8:Le H8 w) (hHd:Le Hd w) (hH4:Le H4 w) (hHg:Le Hg w) (hs:(placeL l s).isSome=true) :
   Calls Try.prog 20 #[st s,.pointer (some ⟨b8,0,none⟩),.pointer (some ⟨b4,0,none⟩)] w fun e w'=>e = .returned (.bool (!doneS l d s))∧Ext w w':=by
 refine enter Try.func20 rfl 14 rfl rfl ?_
 refine CWd (W':=Ws w [] [] [H8,Hd,H4,Hg]) (fun _ e=>by subst e; exact Ws.init (by simp [hH8,hHd,hH4,hHg])) ?_
 refine Cs (Cr ?_)
 refine V0 (Ya rfl) ?_
 refine Ln (Et (Cs ?_))
 refine WC.draws0 [(0,true),(1,true),(2,true),(3,true),(4,true),(5,true),(6,true),(7,true),(8,true),(9,true)] mixed (by kernel_rfl) (fun _ _ _ d _ h=>by cases d<;>exact h) ?_
 refine Dq rfl (.inl rfl) rfl (fun _ h=>h) (yl_ld 0 na49 rfl rfl (h8)) ?_
 refine Dq rfl (.inl rfl) rfl (fun _ h=>h) (yl_ld 2 na44 rfl rfl (h4)) ?_
 refine Dq rfl (.inl rfl) rfl (fun _ h=>h) (yl_nil rfl) ?_
 refine Dq rfl (.inl rfl) rfl (fun _ h=>h) (Yf fo53_1 rfl) ?_
 refine Dq rfl (.inl rfl) rfl (fun _ h=>h) (yl_ld 3 na51 rfl rfl (hg1)) ?_
 refine Dq rfl (.inl rfl) rfl (fun _ h=>h) (Ym rfl) ?_
 refine Dq rfl (.inl rfl) rfl (fun _ h=>h) (yl_glookv 3 rfl keyStr um51 us9 zr3 rfl rfl (hg2)) ?_
 rw [(tabZ_get _ _).1]
 refine Dq rfl (.inl rfl) rfl (fun _ h=>h) (yl_glookv 1 rfl keyInt um49 ui3 zr3 rfl rfl (hd)) ?_
 rw [tabD_get]
 refine Dq rfl (.inl rfl) rfl (fun _ h=>h) (yl_eq rfl rfl) ?_
 refine Dq rfl (.inl rfl) rfl (fun _ h=>h) (Ya rfl) ?_
 refine WD.nil (fun _ h=>h) ?_
 refine Et (Crt ?_)
 refine WE.ret1 rfl rfl fun w' hw=>?_
 exact ⟨by rw [←doneS_at hs],hw.fr⟩
theorem indexFunc_any (H:View) (ax:Option Addr) (cs:Nat) (ss:List Tx) (hss:Sl rdStr 1 H ax cs ss) (H8 Hd H4 Hg:View) (b8 b33 b4 gp gm:Nat) (l:List TMod) (d:List Nat) (h8:vc H8 b8 0=some (.map (some b33))) (hd:Hd b33=some (gobj (fun n:Int=>Value.int .i64 n) (tabD d 0) d.length)) (h4:vc H4 b4 0=some (.pointer (some ⟨gp,0,none⟩))) (hg1:vc Hg gp 1=some (.map (some gm))) (hg2:Hg gm=some (gobj st (tabZ (namesL l) 0) l.length)) (w:World) (hH:Le H w) (hH8:Le H8 w) (hHd:Le Hd w) (hH4:Le H4 w) (hHg:Le Hg w) (hpl:∀s ∈ ss,(placeL l s).isSome=true) :
   Calls Try.prog 31 #[.slice ax ss.length cs,.func (.func 20) #[] #[.pointer (some ⟨b8,0,none⟩),.pointer (some ⟨b4,0,none⟩)]] w fun e w'=>e = .returned (.int .i64 (ixD l d ss))∧Ext w w':=by
 have hsc:=hss.cap
 have hsm:=hss.max
 refine enter Try.func31 rfl 19 rfl rfl ?_
 refine CWd (W':=Ws w [] [] [H,H8,Hd,H4,Hg]) (fun _ e=>by subst e; exact Ws.init (by simp [hH,hH8,hHd,hH4,hHg])) ?_
 refine Cs (Cr ?_)
 refine V0 (Ya rfl) ?_
 refine Ln (Et (Cs (Cs (Cr ?_))))
 refine V0 (Ym rfl) ?_
 refine V0 (Yn es27 rfl) ?_
 refine V0 (Ym rfl) ?_
 refine Ln (Et (Cb ?_))
 refine CW (ι:=Nat) (fun i=>[(8,.int .i64 (i:Int))]) [(0,_),(1,_),(7,_)] (fun i=>i≤ss.length∧∀s ∈ ss.take i,doneS l d s=true) (fun i=>ss.length-i) 0 ⟨Nat.zero_le _,by simp⟩ (sc rfl (sc rfl (sc rfl (sc rfl sn)))) ?_
 intro i ⟨hi,hall⟩
 refine Cs (Cr ?_)
 refine V0 (yl_lt rfl rfl) ?_
 refine Ln (Et (Cs ?_))
 refine Cc rfl (fun hc0=>?_) (fun hc0=>?_)
 ·
  have hlt:i<ss.length:=by simpa using hc0
  obtain ⟨s,hsi⟩:∃q,ss[i]? = some q:=⟨_,List.getElem?_eq_getElem hlt⟩
  obtain ⟨pbs,pos,has,hrs⟩:=hss.elt i s hsi
  have hrs:RdC H pbs (pos+i*1) (strC s):=hrs
  refine Ck (Et (Cs (Cb (Cs (Cr ?_)))))
  refine V0 (Ym rfl) ?_
  refine V0 (Ya rfl) ?_
  refine Ln (Et (Cs (Cr ?_)))
  refine V0 (Ym rfl) ?_
  refine V0 (Ym rfl) ?_
  refine V0 (Ym rfl) ?_
  refine V0 (Yo es27 rfl rfl has (by omega)) ?_
  refine V0 (yl_ld 0 na9 rfl rfl (hrs 0 _ rfl)) ?_
  refine WL.callvp (.inl rfl) rfl en20 rfl rfl (fun w hw=>sort2_any H8 Hd H4 Hg b8 b33 b4 gp gm l d h8 hd h4 hg1 hg2 s w (hw.vs _ (by simp)) (hw.vs _ (by simp)) (hw.vs _ (by simp)) (hw.vs _ (by simp)) (hpl s (List.mem_of_getElem? hsi))) ?_
  refine Ln (Et ?_)
  refine Cc rfl (fun hc1=>?_) (fun hc1=>?_)
  ·
   have hf:doneS l d s=false:=by simpa using hc1
   refine Cs (Cr ?_)
   refine V0 (Ym rfl) ?_
   refine V0 (Ya rfl) ?_
   refine Ln (Et (Crt (Ebr (Er (Er ?_)))))
   refine Ebr (Er ?_)
   refine WE.ret1 rfl rfl fun w' hw=>?_
   exact ⟨by rw [ixD_no hsi hall hf],hw.fr⟩
  ·
   have hf:doneS l d s=true:=by simpa using hc1
   refine Ck (Eb (Et (Cr ?_)))
   refine V0 (Yi rfl rfl rfl (by omega)) ?_
   refine V0 (Ym rfl) ?_
   refine Ln ?_
   exact Ea (i+1) (by omega) ⟨by omega,mem_take_snoc hsi hall hf⟩ (sc rfl (sc rfl (sc rfl (sc rfl sn)))) (fun _ h=>h)
 ·
  have hge:¬i<ss.length:=by simpa using hc0
  rw [List.take_of_length_le (by omega)] at hall
  refine Ce (Ex (Ex (Ebh (Et (Cs ?_)))))
  refine Cr ?_
  refine V0 (Ya rfl) ?_
  refine Ln (Et (Crt ?_))
  refine WE.ret1 rfl rfl fun w' hw=>?_
  exact ⟨by rw [ixD_yes hall],hw.fr⟩
theorem containsFunc_any (H:View) (ax:Option Addr) (cs:Nat) (ss:List Tx) (hss:Sl rdStr 1 H ax cs ss) (H8 Hd H4 Hg:View) (b8 b33 b4 gp gm:Nat) (l:List TMod) (d:List Nat) (h8:vc H8 b8 0=some (.map (some b33))) (hd:Hd b33=some (gobj (fun n:Int=>Value.int .i64 n) (tabD d 0) d.length)) (h4:vc H4 b4 0=some (.pointer (some ⟨gp,0,none⟩))) (hg1:vc Hg gp 1=some (.map (some gm))) (hg2:Hg gm=some (gobj st (tabZ (namesL l) 0) l.length)) (w:World) (hH:Le H w) (hH8:Le H8 w) (hHd:Le Hd w) (hH4:Le H4 w) (hHg:Le Hg w) (hpl:∀s ∈ ss,(placeL l s).isSome=true) :
   Calls Try.prog 19 #[.slice ax ss.length cs,.func (.func 20) #[] #[.pointer (some ⟨b8,0,none⟩),.pointer (some ⟨b4,0,none⟩)]] w fun e w'=>e = .returned (.bool (!ss.all (doneS l d)))∧Ext w w':=by
 refine enter Try.func19 rfl 9 rfl rfl ?_
 refine CWd (W':=Ws w [] [] [H,H8,Hd,H4,Hg]) (fun _ e=>by subst e; exact Ws.init (by simp [hH,hH8,hHd,hH4,hHg])) ?_
 refine Cs (Cr ?_)
 refine V0 (Ya rfl) ?_
 refine Ln (Et (Cs (Cr ?_)))
 refine V0 (Ym rfl) ?_
 refine V0 (Ym rfl) ?_
 refine Lp (.inl rfl) rfl en31 rfl (fun w hw=>indexFunc_any H ax cs ss hss H8 Hd H4 Hg b8 b33 b4 gp gm l d h8 hd h4 hg1 hg2 w (hw.vs _ (by simp)) (hw.vs _ (by simp)) (hw.vs _ (by simp)) (hw.vs _ (by simp)) (hw.vs _ (by simp)) hpl) ?_
 refine V0 (yl_ge rfl rfl) ?_
 refine V0 (Ya rfl) ?_
 refine Ln (Et (Crt ?_))
 refine WE.ret1 rfl rfl fun w' hw=>?_
 exact ⟨by rw [←ixD_ge],hw.fr⟩
end Go.Proofs.Ytinnlppbkhhoiaa
end
section
namespace Go.Proofs.Ytinnlppbkhhoiaa
open Go.Bw
set_option linter.unusedVariables false
set_option linter.unusedSimpArgs false
def SortR (l:List TMod) (r:List Nat×Int):Prop:=(¬orderE l=0∧r=([],orderE l))∨(orderE l=0∧∃d,Ended l d∧r=sortV l d)
theorem sortR_eq {l:List TMod} {r r':List Nat×Int} (h:SortR l r) (h':SortR l r'):r=r':=by
 rcases h with ⟨h1,rfl⟩ | ⟨h1,d,hd,rfl⟩
 · rcases h' with ⟨_,rfl⟩ | ⟨h2,_⟩
   · rfl
   · exact absurd h2 h1
 · rcases h' with ⟨h2,_⟩ | ⟨_,d',hd',rfl⟩
   · exact absurd h1 h2
   · rw [ended_eq hd hd']
structure GQ where
 out:List Nat
 s:SP
theorem ready_of {l:List TMod} {d:List Nat} {x:Nat} {u:List Tx} (h:usesAt l x=u):(decide ((if d.contains x=true then (1:Int) else 0) > 0)||!u.all (doneS l d)) = !readyB l d x:=by
 unfold readyB
 rw [h]
 cases d.contains x<;>simp
theorem en15:Enters Try.prog 15:=enters_of Try.func15 (by kernel_rfl) rfl
theorem zr44:zeroOf Try.prog 44=some (.pointer none):=by kernel_rfl
theorem sz44:sizeP Try.prog 44=some 1:=by kernel_rfl
theorem el23:EltOk Try.prog 23 3 (.int .i64 0) 1 8:=eltOk_of (by kernel_rfl)
theorem en16:Enters Try.prog 16:=enters_of Try.func16 (by kernel_rfl) rfl
theorem zr49:zeroOf Try.prog 49=some (.map none):=by kernel_rfl
theorem sz49:sizeP Try.prog 49=some 1:=by kernel_rfl
theorem en19:Enters Try.prog 19:=enters_of Try.func19 (by kernel_rfl) rfl
theorem sort_any (H:View) (ke ks:Nat) (a:Option Addr) (c:Nat) (l:List TMod) (w:World) (hH:Le H w) (hm:Sl (rdMod ke ks) 5 H a c l) (hb:∀m ∈ l,wM m≤109951162777) :
   Calls Try.prog 6 #[.slice a l.length c] w fun e w'=>∃r:SP×List Nat×Int,e = .returned (.tuple #[.slice r.1.1 r.2.1.length r.1.2,.int .i64 r.2.2])∧Ext w w'∧Sl rdIx 1 (nv w w') r.1.1 r.1.2 r.2.1∧SortR l r.2:=by
 have hcap:=hm.cap
 have hmax:=hm.max
 refine enter Try.func6 rfl 68 rfl rfl ?_
 refine CWd (W':=Ws w [] [] [H]) (fun _ e=>by subst e; exact Ws.init (by simp [hH])) ?_
 refine Cs (Cr ?_)
 refine WL.box (.inl rfl) rfl rfl fun b1=>?_
 refine V0 (Ya rfl) ?_
 refine V0 (Ya rfl) ?_
 refine Ln (Et ?_)
 refine WC.scope ?_
 refine Cs (Cr ?_)
 refine V0 (Yd 0 rfl rfl rfl na22) ?_
 refine Ld (.inl rfl) rfl en15 rfl (fun r:Nat×Nat=>.tuple #[.pointer (if orderE l=0 then some ⟨r.1,0,none⟩ else none),.int .i64 (orderE l)]) (fun Hg r=>orderE l=0→vc Hg r.1 1=some (.map (some r.2))∧Hg r.2=some (gobj st (tabZ (namesL l) 0) l.length)) (fun w hw=>orderOf_any H ke ks a c l w (hw.vs _ (by simp)) hm hb) ?_
 intro Hg r14 hfg hr14
 refine V0 (Ym rfl) ?_
 refine V0 (Yx rfl rfl) ?_
 refine V0 (Yx rfl rfl) ?_
 refine WL.alloc (.inl rfl) rfl zr44 fun b4=>?_
 refine Lst 0 (.inl rfl) rfl rfl rfl sz44 rfl rfl rfl ?_
 refine V0 (Ya rfl) ?_
 refine Ln (Et (Cs (Cs (Cr ?_))))
 refine V0 (Ym rfl) ?_
 refine V0 (yl_ne rfl rfl) ?_
 refine Ln (Et ?_)
 refine Cc rfl (fun hc0=>?_) (fun hc0=>?_)
 ·
  have hne:¬orderE l=0:=by simpa using hc0
  refine Cs (Cr ?_)
  refine V0 (Ym rfl) ?_
  refine V0 (Ya rfl) ?_
  refine V0 (Ya rfl) ?_
  refine Ln (Et (Crt (Er ?_)))
  refine WE.scope_ret ?_
  refine WE.ret2 rfl rfl rfl fun w' hw=>?_
  exact ⟨((none,0),[],orderE l),rfl,hw.fr,Sl.nil,.inl ⟨hne,rfl⟩⟩
 ·
  have he0:orderE l=0:=by simpa using hc0
  have ho:=orderE_zero.1 he0
  obtain ⟨hg1,hg2⟩:=hr14 he0
  refine Ck (Et (Cs ?_))
  refine Crb 0 (.cells #[.pointer (some ⟨r14.1,0,none⟩)] 44 (0,0)) rfl (by rw [he0]; rfl) ?_
  refine WC.blkH 0 rfl fun H4 hH4=>?_
  have hv4:vc H4 b4 0=some (.pointer (some ⟨r14.1,0,none⟩)):=vc_blk hH4 rfl
  refine WC.blkH 0 rfl fun H1 hH1=>?_
  have hv1:vc H1 b1 0=some (.slice a l.length c):=vc_blk hH1 rfl
  refine Cr ?_
  refine V0 (Ya rfl) ?_
  refine LW (fun _ h=>h.osl_nil 3 1) ?_
  refine Ln (Et (Cs (Cs (Cr ?_))))
  refine V0 (yl_ld 0 na22 rfl rfl (hv1)) ?_
  refine V0 (Yn es22 rfl) ?_
  refine V0 (Ym rfl) ?_
  refine Ln (Et (Cb ?_))
  refine CK (ι:=Nat×SP) (fun g=>[(22,.int .i64 (g.1:Int)),(6,.slice g.2.1 (List.range g.1).length g.2.2)]) [(1,_),(2,_),(3,_),(4,_),(21,_)] (fun g=>Ws w [] [osT 3 1 ixC g.2.1 g.2.2 (List.range g.1)] [H1,H4,Hg,H]) (fun g=>g.1≤l.length) (fun g=>l.length-g.1) (0,(none,0)) (Nat.zero_le _) (sc rfl (sc rfl (sc rfl (sc rfl (sc rfl (sc rfl (sc rfl sn))))))) (fun _ h=>h) ?_
  intro g hgi
  refine Cs (Cr ?_)
  refine V0 (yl_lt rfl rfl) ?_
  refine Ln (Et (Cs ?_))
  refine Cc rfl (fun hc1=>?_) (fun hc1=>?_)
  ·
   have hlt0:g.1<l.length:=by simpa using hc1
   have hrl:=List.length_range (n:=g.1)
   have hfew:=ho.few
   refine Ck (Et (Cs (Cb (Cs (Cr ?_)))))
   refine V0 (Ym rfl) ?_
   refine V0 (Ya rfl) ?_
   refine Ln (Et (Cr ?_))
   refine V0 (Ym rfl) ?_
   refine V0 (Ym rfl) ?_
   refine Lb (.inl rfl) rfl el23 rfl rfl rfl rfl fun b27=>?_
   refine Lrb 0 (.cells (ixC g.1).toArray 3 (0,0)) rfl (rfl) ?_
   refine LA (g.1) 1 0 (.inl rfl) rfl el23 rfl rfl rfl rfl rfl rfl (by omega) (by omega) fun a28 c28=>?_
   refine V0 (Ya rfl) ?_
   refine Ln (Eb (Et (Cr ?_)))
   refine V0 (Yi rfl rfl rfl (by omega)) ?_
   refine V0 (Ym rfl) ?_
   refine Ln ?_
   rw [←List.range_succ]
   exact Ea ((g.1+1,(a28,c28)):Nat×SP) (by show _-(g.1+1)<_; omega) (by show g.1+1≤_; omega) (sc rfl (sc rfl (sc rfl (sc rfl (sc rfl (sc rfl (sc rfl sn))))))) (fun _ h=>Ws.drop (L:=[_]) h)
  ·
   have hge:g.1=l.length:=by simp at hc1; omega
   rw [hge]
   refine Ce (Ex (Ex (Ebh (Et (Cs ?_)))))
   refine Cr ?_
   refine V0 (Ym rfl) ?_
   refine V0 (yl_func rfl) ?_
   refine Lf 0 rfl ?_
   refine Lw (ι:=List Nat) [_] _ (.inl rfl) rfl en16 rfl rfl (fun _=>.tuple #[]) (fun d=>[osT 3 1 ixC g.2.1 g.2.2 d]) (fun d=>d.Perm (List.range l.length)∧SortedUp (ltN l) d d.length) [H1,H] (by simp) (fun w hw=>sortFunc_any H1 H ke ks b1 a c l hv1 hm g.2.1 g.2.2 (List.range l.length) ho.nd (by simp) List.nodup_range (by simpa using ho.few) w hw) ?_
   intro d hdr
   have hdl:(List.range l.length).length=d.length:=hdr.1.length_eq.symm
   have hdl2:d.length=l.length:=by rw [←hdl,List.length_range]
   rw [hdl]
   refine WL.oslview (rd:=rdIx) 0 rfl ixC_len (fun _ _ _ _ h=>h) fun H6 hH6=>?_
   refine Ln (Et (Cs (Cr ?_)))
   refine WL.gmk (fun n:Int=>Value.int .i64 n) (.inl rfl) rfl fun b33=>?_
   refine WL.alloc (.inl rfl) rfl zr49 fun b8=>?_
   refine Lst 0 (.inl rfl) rfl rfl rfl sz49 rfl rfl rfl ?_
   refine Ln (Et (Cs ?_))
   refine WC.blkH 0 rfl fun H8 hH8=>?_
   have hv8:vc H8 b8 0=some (.map (some b33)):=vc_blk hH8 rfl
   refine Cr ?_
   refine V0 (Ya rfl) ?_
   refine LW (fun _ h=>h.osl_nil 3 1) ?_
   refine Ln (Et (Cs ?_))
   refine WC.label ?_
   refine Et (Cs (Cb ?_))
   refine CK (ι:=GQ) (fun q=>[(9,.slice q.s.1 q.out.length q.s.2)]) [(1,_),(4,_),(6,_),(8,_)] (fun q=>Ws w [] [osT 3 1 ixC q.s.1 q.s.2 q.out,blk b33 (gobj (fun n:Int=>Value.int .i64 n) (tabD q.out 0) q.out.length)] [H8,H6,H1,H4,Hg,H]) (fun q=>Greedy l q.out) (fun q=>l.length-q.out.length) ⟨[],(none,0)⟩ Greedy.nil (sc rfl (sc rfl (sc rfl (sc rfl (sc rfl sn))))) (fun _ h=>h) ?_
   intro q hgr
   refine Cs (Cs (Cr ?_))
   refine V0 (Ym rfl) ?_
   refine V0 (Yn es23 rfl) ?_
   refine V0 (yl_ld 2 na22 rfl rfl (hv1)) ?_
   refine V0 (Yn es22 rfl) ?_
   refine V0 (yl_lt rfl rfl) ?_
   refine Ln (Et ?_)
   refine Cc rfl (fun hc2=>?_) (fun hc2=>?_)
   ·
    have hlt2:q.out.length<l.length:=by simpa using hc2
    have hfew:=ho.few
    refine Ck (Et (Cb (Cs (Cs (Cr ?_)))))
    refine V0 (Ym rfl) ?_
    refine V0 (Yn es23 rfl) ?_
    refine V0 (Ym rfl) ?_
    refine Ln (Et (Cb ?_))
    refine CW (ι:=Nat) (fun k=>[(41,.int .i64 (k:Int))]) [(1,_),(4,_),(6,_),(8,_),(9,_),(39,_),(40,_)] (fun k=>k≤d.length∧∀y e,y<k→d[y]? = some e→readyB l q.out e=false) (fun k=>d.length-k) 0 ⟨Nat.zero_le _,fun y e h=>by omega⟩ (sc rfl (sc rfl (sc rfl (sc rfl (sc rfl (sc rfl (sc rfl (sc rfl sn)))))))) ?_
    intro k ⟨hk,hno⟩
    refine Cs (Cr ?_)
    refine V0 (yl_lt rfl rfl) ?_
    refine Ln (Et (Cs ?_))
    refine Cc rfl (fun hc3=>?_) (fun hc3=>?_)
    ·
     have hlt:k<d.length:=by simpa using hc3
     obtain ⟨x,hxi⟩:∃q,d[k]? = some q:=⟨_,List.getElem?_eq_getElem hlt⟩
     obtain ⟨pbx,pox,hax,hrx⟩:=hH6.elt k x hxi
     have hrx:RdC H6 pbx (pox+k*1) (ixC x):=hrx
     have hxl:x<l.length:=by simpa using hdr.1.subset (List.mem_of_getElem? hxi)
     obtain ⟨mx,hmxi⟩:∃m,l[x]? = some m:=⟨_,List.getElem?_eq_getElem hxl⟩
     obtain ⟨pbz,poz,haz,rz,hrowz,hrdz⟩:=hm.elt x mx hmxi
     have hnz:=nmAt_get hmxi
     have hux:=usesAt_get hmxi
     refine Ck (Et (Cs (Cb (Cs (Cr ?_)))))
     refine V0 (Yo es23 rfl rfl hax (by omega)) ?_
     refine V0 (yl_ld 1 na3 rfl rfl (hrx 0 _ rfl)) ?_
     refine V0 (Ya rfl) ?_
     refine Ln (Et (Cs (Cs (Cr ?_))))
     refine V0 (yl_ld 0 na49 rfl rfl (hv8)) ?_
     refine V0 (Ym rfl) ?_
     refine V0 (yl_glook 1 keyInt um49 ui3 zr3 rfl rfl rfl) ?_
     rw [tabD_get]
     refine V0 (yl_gt rfl rfl) ?_
     refine V0 (Ym rfl) ?_
     apply WL.or 7 (x:=!mx.uses.all (doneS l q.out)) rfl rfl rfl rfl (.inl rfl) rfl rfl rfl rfl rfl
     ·
      intro hg0
      refine Lv (.g rfl rfl rfl) rfl (yl_ld 2 na22 rfl rfl (hv1)) ?_
      refine Lv (.g rfl rfl rfl) rfl (Ym rfl) ?_
      refine Lv (.g rfl rfl rfl) rfl (Yo es22 rfl rfl haz hxl) ?_
      refine Lv (.g rfl rfl rfl) rfl (Yf fo39_1 rfl) ?_
      refine Lv (.g rfl rfl rfl) rfl (yl_ld 5 na27 rfl rfl (hrowz 1 _ rfl)) ?_
      refine Lv (.g rfl rfl rfl) rfl (yl_func rfl) ?_
      refine Lp (.g rfl rfl rfl) rfl en19 rfl (fun w hw=>containsFunc_any H rz.a1 rz.c1 mx.uses hrdz.uses H8 (bv b33 (gobj (fun n:Int=>Value.int .i64 n) (tabD q.out 0) q.out.length)) H4 Hg b8 b33 b4 r14.1 r14.2 l q.out hv8 (by simp [bv]) hv4 hg1 hg2 w (hw.vs _ (by simp)) (hw.vs _ (by simp)) ((hw.blkview 1 rfl).vs _ (by simp)) (hw.vs _ (by simp)) (hw.vs _ (by simp)) (fun s hs=>by obtain ⟨j,hj⟩:=ho.uses mx (List.mem_of_getElem? hmxi) s hs; rw [hj]; rfl)) ?_
      exact Gt 7 rfl rfl rfl
     refine Ln (Et ?_)
     refine Cc rfl (fun hc4=>?_) (fun hc4=>?_)
     ·
      have hnr:readyB l q.out x=false:=by rw [ready_of hux] at hc4; simpa using hc4
      refine Ce (Ex (Ebh (Et (Cr ?_))))
      refine V0 (Yi rfl rfl rfl (by omega)) ?_
      refine V0 (Ym rfl) ?_
      refine Ln ?_
      exact Ea (k+1) (by omega) ⟨by omega,fun y e hy he=>by
          rcases Nat.lt_succ_iff_lt_or_eq.1 hy with h | h
          · exact hno y e h he
          · subst h; rw [hxi] at he; injection he with he; subst he; exact hnr⟩ (sc rfl (sc rfl (sc rfl (sc rfl (sc rfl (sc rfl (sc rfl (sc rfl sn)))))))) (fun _ h=>h)
     ·
      have hrd1:readyB l q.out x=true:=by rw [ready_of hux] at hc4; simpa using hc4
      have hnc:q.out.contains x=false:=by unfold readyB at hrd1; revert hrd1; cases q.out.contains x<;>simp
      have hbest:Best l q.out x:=best_of hdr.1 hdr.2 hxi hrd1 (fun y e hy he=>hno y e hy he)
      refine Ck (Et (Cs (Cr ?_)))
      refine V0 (yl_ld 0 na49 rfl rfl (hv8)) ?_
      refine V0 (Ym rfl) ?_
      refine V0 (yl_glook 1 keyInt um49 ui3 zr3 rfl rfl rfl) ?_
      rw [tabD_get,hnc,if_neg (by decide)]
      refine V0 ((show Yl _ _ _ _ (.int .i64 1) from yl_addn (a:=0) (b:=1) rfl rfl rfl rfl (by omega))) ?_
      refine WL.gset 1 keyInt (.inl rfl) um49 ui3 rfl rfl rfl rfl ?_
      rw [(tabD_put hnc).1,(tabD_put hnc).2]
      refine Ln (Et (Cs (Cr ?_)))
      refine V0 (Ym rfl) ?_
      refine V0 (Ym rfl) ?_
      refine Lb (.inl rfl) rfl el23 rfl rfl rfl rfl fun b64=>?_
      refine Lrb 0 (.cells (ixC x).toArray 3 (0,0)) rfl (rfl) ?_
      refine LA (x) 1 0 (.inl rfl) rfl el23 rfl rfl rfl rfl rfl rfl (by omega) (by omega) fun a65 c65=>?_
      refine V0 (Ya rfl) ?_
      refine Ln (Et (Ce (Ebm rfl (Ex (Ex ?_)))))
      refine Ebm rfl (Ex (Ebh ?_))
      exact Ea (⟨q.out++[x],(a65,c65)⟩:GQ) (by show _-(q.out++[x]).length<_; simp; omega) (.snoc hgr hbest) (sc rfl (sc rfl (sc rfl (sc rfl (sc rfl sn))))) (fun _ h=>Ws.drop (L:=[_]) h)
    ·
     have hge3:k=d.length:=by simp at hc3; omega
     have hnor:=noReady_of hdr.1 (fun y e hy=>hno y e (by have:=(List.getElem?_eq_some_iff.1 hy).1; omega) hy)
     refine Ce (Ex (Ex (Ebh (Et (Cs ?_)))))
     refine Cr ?_
     refine V0 (Ya rfl) ?_
     refine V0 (Ya rfl) ?_
     refine Ln (Et (Crt (Ebr (Er (Ebr ?_)))))
     refine Er ?_
     refine WE.scope_ret ?_
     refine WE.ret2 rfl rfl rfl fun w' hw=>?_
     exact ⟨((none,0),[],9),rfl,hw.fr,Sl.nil,.inr ⟨he0,q.out,⟨hgr,.inr hnor⟩,by rw [sortV,if_neg (by omega)]⟩⟩
   ·
    have hle:q.out.length=l.length:=by
      have h1:=nodup_le (greedy_lt hgr).2 (greedy_lt hgr).1
      simp at hc2
      omega
    refine Ce (Ex (Ex (Ebh (Et (Cs ?_)))))
    refine Cr ?_
    refine V0 (Ym rfl) ?_
    refine V0 (Ya rfl) ?_
    refine V0 (Ya rfl) ?_
    refine Ln (Et (Crt ?_))
    refine WE.scope_ret ?_
    refine WE.ret2 rfl rfl rfl fun w' hw=>?_
    exact ⟨(q.s,q.out,0),rfl,hw.fr,hw.slT 0 rfl ixC_len (fun _ _ _ _ h=>h),.inr ⟨he0,q.out,⟨hgr,.inl hle⟩,by rw [sortV,if_pos hle]⟩⟩
end Go.Proofs.Ytinnlppbkhhoiaa
end
section
namespace Go.Proofs.Ytinnlppbkhhoiaa
open Go.Bw
set_option linter.unusedVariables false
set_option linter.unusedSimpArgs false
open Go Go.RowKit Go.Maps Go.Sort Go.Shelf
open Go.Sort
def NeedR (l:List TMod) (nm:Tx) (r:List Tx×Int):Prop:=(¬orderE l=0∧r=([],orderE l))∨(orderE l=0∧placeL l nm=none∧r=([],5))∨(orderE l=0∧¬placeL l nm=none∧∃ns,r=(ns,0)∧SortedT ns∧∀s,s ∈ ns↔Go.Bw.Reach l nm s)
theorem needR_eq {l:List TMod} {nm:Tx} {r r':List Tx×Int} (h:NeedR l nm r) (h':NeedR l nm r'):r=r':=by
 rcases h with ⟨h1,rfl⟩ | ⟨h1,h2,rfl⟩ | ⟨h1,h2,ns,rfl,h3,h4⟩<;>rcases h' with ⟨k1,rfl⟩ | ⟨k1,k2,rfl⟩ | ⟨k1,k2,ns',rfl,k3,k4⟩
 · rfl
 · exact absurd k1 h1
 · exact absurd k1 h1
 · exact absurd h1 k1
 · rfl
 · exact absurd h2 k2
 · exact absurd h1 k1
 · exact absurd k2 h2
 · rw [sortedT_eq h3 k3 fun s=>(h4 s).trans (k4 s).symm]
structure GNd where
 nx:List Tx
 s:SP
 M:List (GEnt Tx)
 k:Nat
 p:Nat
theorem flat_strC (xs:List Tx):xs.flatMap strC=xs.map st:=by rw [List.map_eq_flatMap]; rfl
theorem toXs {P:Program} {ops:Array Oper} {Q:Exit→Act→World→Prop} {n:Nat} {ds:List Deferred} {l:List (Nat×Value)} {w0:World} {F:List Nat} {L:List Asr} {Vs:List View} {rest:List Oper} {e c:Nat} {a:Option Addr} {xs:List Tx} (i:Nat) (hL:L[i]? = some (osT e 1 strC a c xs))
   (h:WL P ops Q n ds l (Ws w0 F (L.set i (osX e (.slice a xs.length c) (xs.map st))) Vs) rest):WL P ops Q n ds l (Ws w0 F L Vs) rest:=
 WL.toX i (by rw [hL]; show some (osl e 1 _ _ (xs.flatMap strC))=_; rw [flat_strC]) (by simp) h
def msT (ks:List Tx):List Tx:=ks.mergeSort fun x y=>decide (x≤y)
theorem cloneO_any (H:View) (a:Option Addr) (c:Nat) (l:List Tx) (w:World) (hH:Le H w) (hm:Sl rdStr 1 H a c l) (hb:l.length≤1048576) :
   Calls Try.prog 21 #[.slice a l.length c] w fun e w'=>∃r:SP,e = .returned (.slice r.1 l.length r.2)∧Ws w [] [osT 9 1 strC r.1 r.2 l] [H] w':=by
 have hcap:=hm.cap
 have hmax:=hm.max
 refine enter Try.func21 rfl 8 rfl rfl ?_
 refine CWd (W':=Ws w [] [] [H]) (fun _ e=>by subst e; exact Ws.init (by simp [hH])) ?_
 refine Cs (Cr ?_)
 refine V0 (Ya rfl) ?_
 refine Ln (Et (Cs (Cs (Cr ?_))))
 refine V0 (Ym rfl) ?_
 refine V0 (yl_eqnil es27 rfl) ?_
 refine Ln (Et ?_)
 refine Cc rfl (fun hc0=>?_) (fun hc0=>?_)
 ·
  have hnil:l=[]:=by
    cases l with
    | nil=>rfl
    | cons x r=>obtain ⟨b,o,h,_⟩:=hm.elt 0 x rfl; rw [h] at hc0; cases hc0
  refine Cs (Cr ?_)
  refine V0 (Ya rfl) ?_
  refine Ln (Et (Crt (Er ?_)))
  refine WE.ret1 rfl rfl fun w' hw=>?_
  subst hnil
  exact ⟨(none,0),rfl,hw.osl_nil 9 1⟩
 ·
  refine Ck (Et (Cs (Cr ?_)))
  refine WL.bslice (.inl rfl) rfl el27 rfl rfl rfl fun b5=>?_
  refine WL.asOsl (size:=1) 0 rfl (Nat.le_refl 0) (Nat.zero_le _) rfl ?_
  refine WL.reosl 0 ([]:List Tx).length (([]:List Tx).flatMap strC) rfl rfl rfl ?_
  refine V0 (Ym rfl) ?_
  refine WL.appendL (ys:=l) (xs:=[]) 0 (fun _=>H) (.inl rfl) rfl el27 rfl rfl rfl (fun w hw=>⟨hw.vs H (by simp),hm⟩) (fun _ _ _ _ h=>h) strC_len str_one (by simp; omega) (by simp; omega) fun a7 c7=>?_
  refine V0 (Ya rfl) ?_
  refine Ln (Et (Crt ?_))
  refine WE.ret1 rfl rfl fun w' hw=>?_
  exact ⟨(a7,c7),rfl,hw⟩
theorem keys_any (b31:Nat) (w:World) :
   Calls Try.prog 23 #[.map (some b31)] w fun e w'=>∃kb:Nat,e = .returned (.func (.func 34) #[] #[.pointer (some ⟨kb,0,none⟩)])∧Ws w [] [blk kb (.cells #[.map (some b31)] 51 (0,0))] [] w':=by
 refine enter Try.func23 rfl 4 rfl rfl ?_
 refine CWd (W':=Ws w [] [] []) (fun _ e=>by subst e; exact Ws.init (by simp)) ?_
 refine Cs (Cr ?_)
 refine WL.box (.inl rfl) rfl rfl fun b1=>?_
 refine V0 (Ya rfl) ?_
 refine Ln (Et (Cs (Cr ?_)))
 refine V0 (yl_func rfl) ?_
 refine V0 (Ya rfl) ?_
 refine Ln (Et (Crt ?_))
 refine WE.ret1 rfl rfl fun w' hw=>?_
 exact ⟨b1,rfl,hw⟩
theorem sorts_any (m:Nat):AnyZ.SortsIn Try.prog Try.sorted22_ren Fence.wide m:=
 ⟨fun blk off cap ss W hH hblk hsz=>callsIn_wide.2 (AnyM.slices_Sort_string Try.sort33 blk off cap ss W hH hblk hsz),fun p cap W=>callsIn_wide.2 (AnyM.slices_Sort_string_none Try.sort33 p cap W)⟩
theorem sortedKeys_any (kb b31 k:Nat) (M:List (GEnt Tx)) (w:World) (hkb:w.heap[kb]? = some (.cells #[.map (some b31)] 51 (0,0))) (hb:w.heap[b31]? = some (gobj st M k)) (h:MapOk M k) (h16:M.length≤16) :
   Calls Try.prog 22 #[.func (.func 34) #[] #[.pointer (some ⟨kb,0,none⟩)]] w fun e w'=>∃v,e = .returned v∧Ext w w'∧w'.ownsRow w.heap.size 9 1 v (msT (M.map (·.1))).length ((msT (M.map (·.1))).flatMap strC):=by
 obtain ⟨D0,hown,hperm,hsz⟩:=ownsMap_gobj (k:=9) us9 h hb
 have hseq:SeqGives Fence.wide 2 Try.prog 34 #[.pointer (some ⟨kb,0,none⟩)] encStr (fun ss=>ss.Perm (strKeys D0)) (Maps.size D0) w:=
   AnyZ.keys_gives (ρ:=Try.keys23_ren) { Try.keys23 with } Fence.wide _ trivial rfl (by omega) kb b31 _ D0 w (lt_of_heap hkb) (cell_of_heap hkb rfl) hown
 have hs:=AnyZ.sorted_in Try.sorted22 Fence.wide 5 trivial trivial trivial trivial rfl (by omega) (sorts_any _) (enters_of Try.func33 (by kernel_rfl) rfl) 34 #[.pointer (some ⟨kb,0,none⟩)] trivial (enters_of Try.func34 (by kernel_rfl) rfl) _ _ (by rw [hsz]; unfold maxLen; omega) (by rw [hsz]; omega) _ hseq
 refine ((callsIn_wide (n:=5)).1 hs).mono fun e w' ⟨v,ss,he,hS,hrow,_,hbl⟩=>⟨v,he,Ext.of_below hbl,?_⟩
 have hp:=hS.trans hperm
 have hm:ss.mergeSort (fun x y=>decide (x≤y))=msT (M.map (·.1)):=mergeSort_of_perm hp
 rw [hm] at hrow
 have hl:ss.length=(msT (M.map (·.1))).length:=by rw [←hm,List.length_mergeSort]
 rw [hl] at hrow
 rw [flat_strC]
 exact hrow
end Go.Proofs.Ytinnlppbkhhoiaa
end
section
namespace Go.Proofs.Ytinnlppbkhhoiaa
open Go.Bw
set_option linter.unusedVariables false
set_option linter.unusedSimpArgs false
theorem needs_arith {l:List TMod} {p:Nat} {ks r u:List Tx} {x:Tx} (h:p+(r.length+1)+remN l ks≤15) (hrs:remN l ks=remN l (ks++[x])+u.length):p+1+(r++u).length+remN l (ks++[x])≤15∧(r++u).length+remN l (ks++[x])<r.length+1+remN l ks:=by
 rw [List.length_append]
 omega
theorem nodup_sub_le {α:Type} [DecidableEq α]:∀{a b:List α},a.Nodup→(∀s ∈ a,s ∈ b)→a.length≤b.length
 | [],_,_,_=>Nat.zero_le _
 | x::r,b,hn,h=>by
   obtain ⟨h1,h2⟩:=List.nodup_cons.1 hn
   have h3:=nodup_sub_le (b:=b.erase x) h2 fun s hs=>(List.mem_erase_of_ne (fun e=>h1 (by rw [←e]; exact hs))).2 (h s (by simp [hs]))
   rw [List.length_erase_of_mem (h x (by simp))] at h3
   have:=List.length_pos_of_mem (h x (by simp))
   simp only [List.length_cons]
   omega
theorem sortedT_ms {ks:List Tx} (hn:ks.Nodup):SortedT (msT ks)∧∀s,s ∈ msT ks↔s ∈ ks:=sortedT_merge hn
theorem few_uses {l:List TMod} (ho:OrdOk l):∀m ∈ l,m.uses.length≤3:=fun m hm=>(okM (checkM_tot.1 (ho.mods m hm))).few.1
theorem reach_len {l:List TMod} (ho:OrdOk l) (hb:∀m ∈ l,wM m≤109951162777) {a s:Tx} (h:Go.Bw.Reach l a s):s.length≤maxLen:=by
 obtain ⟨j,hj⟩:=reach_place ho h
 obtain ⟨hlt,hnm⟩:=placeL_at hj
 rw [nmAt_get (List.getElem?_eq_getElem hlt)] at hnm
 have:=hb _ (List.getElem_mem hlt)
 unfold wM at this
 rw [←hnm]
 unfold maxLen
 omega
theorem needs_map {l:List TMod} (ho:OrdOk l) (hb:∀m ∈ l,wM m≤109951162777) {nm:Tx} {M:List (GEnt Tx)} {k p:Nat} (h:NeedSt M k p) (hw:NeedW l nm (M.map (·.1)) []):MapOk M k∧M.length≤16:=by
 have h4:M.length≤l.length:=by
   have h1:(M.map (·.1)).length≤(namesL l).length:=by
     refine nodup_sub_le h.nd fun s hs=>?_
     obtain ⟨j,hj⟩:=reach_place ho ((hw.fin s).1 hs)
     obtain ⟨hlt,hnm⟩:=placeL_at hj
     rw [←hnm,nmAt_get (List.getElem?_eq_getElem hlt)]
     exact List.mem_of_getElem? (names_get (List.getElem?_eq_getElem hlt))
   simpa [namesL] using h1
 have h5:=ho.few
 exact ⟨⟨h.nd,fun e he=>reach_len ho hb ((hw.fin e.1).1 (List.mem_map.2 ⟨e,he,rfl⟩)),by unfold maxLen; omega,h.born,h.clock⟩,by omega⟩
theorem en21:Enters Try.prog 21:=enters_of Try.func21 (by kernel_rfl) rfl
theorem en23:Enters Try.prog 23:=enters_of Try.func23 (by kernel_rfl) rfl
theorem en22:Enters Try.prog 22:=enters_of Try.func22 (by kernel_rfl) rfl
theorem needs_any (H:View) (ke ks:Nat) (a:Option Addr) (c:Nat) (l:List TMod) (nm:Tx) (w:World) (hH:Le H w) (hm:Sl (rdMod ke ks) 5 H a c l) (hb:∀m ∈ l,wM m≤109951162777) :
   Calls Try.prog 7 #[.slice a l.length c,st nm] w fun e w'=>∃r:SP×List Tx×Int,e = .returned (.tuple #[.slice r.1.1 r.2.1.length r.1.2,.int .i64 r.2.2])∧Ext w w'∧Sl rdStr 1 (nv w w') r.1.1 r.1.2 r.2.1∧NeedR l nm r.2:=by
 have hcap:=hm.cap
 have hmax:=hm.max
 refine enter Try.func7 rfl 72 rfl rfl ?_
 refine CWd (W':=Ws w [] [] [H]) (fun _ e=>by subst e; exact Ws.init (by simp [hH])) ?_
 refine Cs (Cr ?_)
 refine V0 (Ya rfl) ?_
 refine V0 (Ya rfl) ?_
 refine Ln (Et (Cs (Cr ?_)))
 refine V0 (Ym rfl) ?_
 refine Ld (.inl rfl) rfl en15 rfl (fun r:Nat×Nat=>.tuple #[.pointer (if orderE l=0 then some ⟨r.1,0,none⟩ else none),.int .i64 (orderE l)]) (fun Hg r=>orderE l=0→vc Hg r.1 1=some (.map (some r.2))∧Hg r.2=some (gobj st (tabZ (namesL l) 0) l.length)) (fun w hw=>orderOf_any H ke ks a c l w (hw.vs _ (by simp)) hm hb) ?_
 intro Hg r14 hfg hr14
 refine V0 (Ym rfl) ?_
 refine V0 (Yx rfl rfl) ?_
 refine V0 (Yx rfl rfl) ?_
 refine V0 (Ya rfl) ?_
 refine V0 (Ya rfl) ?_
 refine Ln (Et (Cs (Cs (Cr ?_))))
 refine V0 (Ym rfl) ?_
 refine V0 (yl_ne rfl rfl) ?_
 refine Ln (Et ?_)
 refine Cc rfl (fun hc0=>?_) (fun hc0=>?_)
 ·
  have hne:¬orderE l=0:=by simpa using hc0
  refine Cs (Cr ?_)
  refine V0 (Ym rfl) ?_
  refine V0 (Ya rfl) ?_
  refine V0 (Ya rfl) ?_
  refine Ln (Et (Crt (Er ?_)))
  refine WE.ret2 rfl rfl rfl fun w' hw=>?_
  exact ⟨((none,0),[],orderE l),rfl,hw.fr,Sl.nil,.inl ⟨hne,rfl⟩⟩
 ·
  have he0:orderE l=0:=by simpa using hc0
  have ho:=orderE_zero.1 he0
  obtain ⟨hg1,hg2⟩:=hr14 he0
  refine Ck (Et (Cs ?_))
  rw [if_pos he0]
  refine Cr ?_
  refine V0 (Ym rfl) ?_
  refine V0 (yl_nil rfl) ?_
  refine V0 (Yf fo53_1 rfl) ?_
  refine V0 (yl_ld 0 na51 rfl rfl (hg1)) ?_
  refine V0 (Ym rfl) ?_
  refine V0 (yl_glook2v 0 rfl keyStr um51 us9 zr3 rfl rfl (hg2)) ?_
  rw [(tabZ_get _ _).1,(tabZ_get _ _).2]
  refine V0 (Ym rfl) ?_
  refine V0 (Yx rfl rfl) ?_
  refine V0 (Yx rfl rfl) ?_
  refine V0 (Ya rfl) ?_
  refine V0 (Ya rfl) ?_
  refine Ln (Et (Cs (Cs (Cr ?_))))
  refine V0 (Ym rfl) ?_
  refine V0 (yl_not rfl) ?_
  refine Ln (Et ?_)
  refine Cc rfl (fun hc1=>?_) (fun hc1=>?_)
  ·
   have hnone:placeL l nm=none:=by
     have h9:(idxOf nm (namesL l) 0).isSome=false:=by simpa using hc1
     simpa [placeL] using h9
   refine Cs (Cr ?_)
   refine V0 (Ya rfl) ?_
   refine V0 (Ya rfl) ?_
   refine Ln (Et (Crt (Er ?_)))
   refine WE.ret2 rfl rfl rfl fun w' hw=>?_
   exact ⟨((none,0),[],5),rfl,hw.fr,Sl.nil,.inr (.inl ⟨he0,hnone,rfl⟩)⟩
  ·
   have hsome:(placeL l nm).isSome=true:=by simpa [placeL] using hc1
   obtain ⟨i0,hi0⟩:=Option.isSome_iff_exists.1 hsome
   have hil:=(placeL_at hi0).1
   obtain ⟨mi0,hmi0i⟩:∃m,l[i0]? = some m:=⟨_,List.getElem?_eq_getElem hil⟩
   obtain ⟨pbz,poz,haz,rz,hrowz,hrdz⟩:=hm.elt i0 mi0 hmi0i
   have hnz:=nmAt_get hmi0i
   have hus:usesN l nm=mi0.uses:=by unfold usesN; rw [hi0]; exact usesAt_get hmi0i
   have hf3:=few_uses ho
   have hu3:=hf3 _ (List.mem_of_getElem? hmi0i)
   have hfew:=ho.few
   have hrem:=remN_le hf3 []
   have hstart:NeedW l nm [] mi0.uses:=hus▸needW_start l nm
   refine Ck (Et (Cs ?_))
   rw [show idxOf nm (namesL l) 0=some i0 from hi0,Option.getD_some]
   refine Cr ?_
   refine WL.gmk st (.inl rfl) rfl fun b31=>?_
   refine V0 (Ya rfl) ?_
   refine Ln (Et (Cs (Cs (Cr ?_))))
   refine V0 (Ym rfl) ?_
   refine V0 (Ym rfl) ?_
   refine V0 (Yo es22 rfl rfl haz hil) ?_
   refine V0 (Yf fo39_1 rfl) ?_
   refine V0 (yl_ld 1 na27 rfl rfl (hrowz 1 _ rfl)) ?_
   refine Lw (ι:=SP) [] _ (.inl rfl) rfl en21 rfl rfl (fun r=>.slice r.1 mi0.uses.length r.2) (fun r=>[osT 9 1 strC r.1 r.2 mi0.uses]) (fun _=>True) [H] (by simp) (fun w hw=>(cloneO_any H rz.a1 rz.c1 mi0.uses w (hw.vs _ (by simp)) hrdz.uses (by omega)).mono fun e w' ⟨r,h1,h2⟩=>⟨r,h1,trivial,h2⟩) ?_
   intro r37 _
   refine toXs 0 rfl ?_
   refine V0 (Ya rfl) ?_
   refine Ln (Et (Cb ?_))
   refine CK (ι:=GNd) (fun g=>[(11,.slice g.s.1 g.nx.length g.s.2)]) [(0,_),(4,_),(5,_),(6,_),(10,_)] (fun g=>Ws w [] [osX 9 (.slice g.s.1 g.nx.length g.s.2) (g.nx.map st),blk b31 (gobj st g.M g.k)] [Hg,H]) (fun g=>NeedSt g.M g.k g.p∧NeedW l nm (g.M.map (·.1)) g.nx∧g.p+g.nx.length+remN l (g.M.map (·.1))≤15) (fun g=>g.nx.length+remN l (g.M.map (·.1))) ⟨mi0.uses,r37,[],0,0⟩ ⟨needSt_nil,hstart,by show 0+mi0.uses.length+remN l []≤15; omega⟩ (sc rfl (sc rfl (sc rfl (sc rfl (sc rfl (sc rfl sn)))))) (fun _ h=>h) ?_
   intro g ⟨hst,hwk,hbd⟩
   refine Cs (Cs (Cr ?_))
   refine V0 (Ym rfl) ?_
   refine V0 (Yn es27 rfl) ?_
   refine V0 (yl_gt rfl rfl) ?_
   refine Ln (Et ?_)
   refine Cc rfl (fun hc2=>?_) (fun hc2=>?_)
   ·
    obtain ⟨x,r,hnx⟩:∃x r,g.nx=x::r:=by
      cases h:g.nx with
      | nil=>rw [h] at hc2; cases hc2
      | cons x r=>exact ⟨x,r,rfl⟩
    rw [hnx] at hwk hbd
    have hnl:(x::r).length=r.length+1:=rfl
    have hnl2:g.nx.length=r.length+1:=by rw [hnx]; rfl
    refine Ck (Et (Cs (Cb (Cs ?_))))
    refine WC.shapeX 0 rfl fun hxc hxm hxa=>?_
    obtain ⟨xb,xo,hxa⟩:=hxa (by rw [List.length_map]; omega)
    obtain ⟨n,hnp,hget,hn0⟩:=hst.cnt x _ rfl
    have hput:=hst.put hnp hn0
    refine Cr ?_
    refine V0 (Ym rfl) ?_
    refine V0 (Ym rfl) ?_
    refine V0 (Yo (i:=0) es27 rfl rfl hxa (by omega)) ?_
    refine V0 (yl_ldX (v:=st x) 0 0 rfl rfl hxa (by omega) (by rw [hnx]; rfl) na9) ?_
    refine V0 (yl_glook 1 keyStr um51 us9 zr3 rfl rfl rfl) ?_
    rw [hget]
    refine V0 (Yi rfl rfl rfl (by omega)) ?_
    refine WL.gset 1 keyStr (.inl rfl) um51 us9 rfl rfl rfl rfl ?_
    refine Ln (Et (Cs (Cr ?_)))
    refine V0 (Ym rfl) ?_
    refine V0 (Ym rfl) ?_
    refine V0 (Yo (i:=0) es27 rfl rfl hxa (by omega)) ?_
    refine V0 (yl_ldX (v:=st x) 0 0 rfl rfl hxa (by omega) (by rw [hnx]; rfl) na9) ?_
    refine V0 (yl_glook 1 keyStr um51 us9 zr3 rfl rfl rfl) ?_
    rw [gget_gput]
    refine V0 (yl_eq rfl rfl) ?_
    refine Ln (Et ?_)
    refine Cc rfl (fun hc3=>?_) (fun hc3=>?_)
    ·
     have hz:n=0:=by
       have h9:=eq_of_beq hc3
       omega
     have hxn:=hn0.1 hz
     have hrx:=hwk.sound x (.inr (by simp))
     obtain ⟨j,hj⟩:=reach_place ho hrx
     have hjl:=(placeL_at hj).1
     obtain ⟨mj,hmji⟩:∃m,l[j]? = some m:=⟨_,List.getElem?_eq_getElem hjl⟩
     obtain ⟨pby,poy,hay,ry,hrowy,hrdy⟩:=hm.elt j mj hmji
     have hny:=nmAt_get hmji
     have huj:usesN l x=mj.uses:=by unfold usesN; rw [hj]; exact usesAt_get hmji
     have huj2:=usesAt_get hmji
     have hf3:=few_uses ho _ (List.mem_of_getElem? hmji)
     have hrs:=remN_step ho.nd hj hxn
     rw [huj2] at hrs
     have hky:(gput x (.int .i64 ((n+1:Nat):Int)) g.M g.k).map (·.1)=g.M.map (·.1)++[x]:=by rw [hput.2,if_pos hz]
     have hnext:NeedSt (gput x (.int .i64 ((n+1:Nat):Int)) g.M g.k) (gclock x g.M g.k) (g.p+1)∧NeedW l nm ((gput x (.int .i64 ((n+1:Nat):Int)) g.M g.k).map (·.1)) (r++mj.uses)∧g.p+1+(r++mj.uses).length+remN l ((gput x (.int .i64 ((n+1:Nat):Int)) g.M g.k).map (·.1))≤15:=by
       rw [hky]
       exact ⟨hput.1,huj▸hwk.new,(needs_arith hbd hrs).1⟩
     have hmun:(r++mj.uses).length+remN l ((gput x (.int .i64 ((n+1:Nat):Int)) g.M g.k).map (·.1))<g.nx.length+remN l (g.M.map (·.1)):=by
       rw [hky,hnl2]
       exact (needs_arith hbd hrs).2
     refine CU (fun _=>true) [] [13,14] (.q false 0 (.q false 1 (.q false 2 (.q false 3 (.q false 4 (.q true 5 (.q false 6 (.q false 7 (.q true 8 (.q true 9 (.q false 10 (.q false 11 (.q true 12 .nil))))))))))))) mixed (by kernel_rfl) (fun _ _ _ d _ _ h=>by cases d<;>exact h) ?_
     refine Uq rfl (.inl rfl) rfl (fun _ h=>h) (Ym rfl) ?_
     refine Uq rfl (.inl rfl) rfl (fun _ h=>h) (Ym rfl) ?_
     refine Uq rfl (.inl rfl) rfl (fun _ h=>h) (Ym rfl) ?_
     refine Uq rfl (.inl rfl) rfl (fun _ h=>h) (yl_nil rfl) ?_
     refine Uq rfl (.inl rfl) rfl (fun _ h=>h) (Yf fo53_1 rfl) ?_
     refine Uq rfl (.inl rfl) rfl (fun _ h=>h) (yl_ld 0 na51 rfl rfl (hg1)) ?_
     refine Uq rfl (.inl rfl) rfl (fun _ h=>h) (Ym rfl) ?_
     refine Uq rfl (.inl rfl) rfl (fun _ h=>h) (Yo (i:=0) es27 rfl rfl hxa (by omega)) ?_
     refine Uq rfl (.inl rfl) rfl (fun _ h=>h) (yl_ldX (v:=st x) 0 0 rfl rfl hxa (by omega) (by rw [hnx]; rfl) na9) ?_
     refine Uq rfl (.inl rfl) rfl (fun _ h=>h) (yl_glookv 0 rfl keyStr um51 us9 zr3 rfl rfl (hg2)) ?_
     rw [(tabZ_get _ _).1,show idxOf x (namesL l) 0=some j from hj,Option.getD_some]
     refine Uq rfl (.inl rfl) rfl (fun _ h=>h) (Yo es22 rfl rfl hay hjl) ?_
     refine Uq rfl (.inl rfl) rfl (fun _ h=>h) (Yf fo39_1 rfl) ?_
     refine Uq rfl (.inl rfl) rfl (fun _ h=>h) (yl_ld 1 na27 rfl rfl (hrowy 1 _ rfl)) ?_
     refine WU.nil (fun _ h=>h) ?_
     refine WS.e rfl ?_
     refine WL.appendX (f:=st) (rd:=rdStr) (xs:=g.nx) (ys:=mj.uses) 0 (fun _=>H) (.inl rfl) rfl el27 rfl rfl rfl (fun w hw=>⟨hw.vs H (by simp),hrdy.uses⟩) (fun _ _ _ _ h=>h 0 _ rfl) (fun _=>rfl) (by omega) (by omega) fun a68 c68=>?_
     refine Ln (Es ?_)
     refine WS.e rfl ?_
     refine V0 (Ya rfl) ?_
     refine Ln (Es ?_)
     refine WS.nil ?_
     refine Eb (Et (Cr ?_))
     refine V0 (Ym rfl) ?_
     refine WL.popX2 (f:=st) 0 (show g.nx++mj.uses=x::(r++mj.uses) by first | exact hnx | (rw [hnx]; rfl)) (.inl rfl) rfl es27 rfl rfl rfl rfl fun a42 c42=>?_
     refine V0 (Ya rfl) ?_
     refine Ln ?_
     exact Ea (⟨r++mj.uses,(a42,c42),(gput x (.int .i64 ((n+1:Nat):Int)) g.M g.k),(gclock x g.M g.k),g.p+1⟩:GNd) hmun hnext (sc rfl (sc rfl (sc rfl (sc rfl (sc rfl (sc rfl sn)))))) (fun _ h=>h)
    ·
     have hz:¬n=0:=fun h=>by subst h; cases hc3
     have hxy:x ∈ g.M.map (·.1):=Classical.byContradiction fun h=>hz (hn0.2 h)
     have hky:(gput x (.int .i64 ((n+1:Nat):Int)) g.M g.k).map (·.1)=g.M.map (·.1):=by rw [hput.2,if_neg hz]
     have hnext:NeedSt (gput x (.int .i64 ((n+1:Nat):Int)) g.M g.k) (gclock x g.M g.k) (g.p+1)∧NeedW l nm ((gput x (.int .i64 ((n+1:Nat):Int)) g.M g.k).map (·.1)) (r)∧g.p+1+(r).length+remN l ((gput x (.int .i64 ((n+1:Nat):Int)) g.M g.k).map (·.1))≤15:=by
       rw [hky]
       exact ⟨hput.1,hwk.old hxy,by omega⟩
     have hmun:(r).length+remN l ((gput x (.int .i64 ((n+1:Nat):Int)) g.M g.k).map (·.1))<g.nx.length+remN l (g.M.map (·.1)):=by
       rw [hky,hnx]
       omega
     refine Ck (Eb (Et (Cr ?_)))
     refine V0 (Ym rfl) ?_
     refine WL.popX2 (f:=st) 0 (show g.nx=x::r by first | exact hnx | (rw [hnx]; rfl)) (.inl rfl) rfl es27 rfl rfl rfl rfl fun a42 c42=>?_
     refine V0 (Ya rfl) ?_
     refine Ln ?_
     exact Ea (⟨r,(a42,c42),(gput x (.int .i64 ((n+1:Nat):Int)) g.M g.k),(gclock x g.M g.k),g.p+1⟩:GNd) hmun hnext (sc rfl (sc rfl (sc rfl (sc rfl (sc rfl (sc rfl sn)))))) (fun _ h=>h)
   ·
    have hnil:g.nx=[]:=by
      cases h:g.nx with
      | nil=>rfl
      | cons x r=>exact absurd (show (0:Nat)<g.nx.length by rw [h]; simp) (by simpa using hc2)
    rw [hnil] at hwk
    have hmok:=needs_map ho hb hst hwk
    refine Ce (Ex (Ex (Ebh (Et (Cs ?_)))))
    refine Cr ?_
    refine V0 (Ym rfl) ?_
    refine Lw (ι:=Nat) [] _ (.inl rfl) rfl en23 rfl rfl (fun kb=>.func (.func 34) #[] #[.pointer (some ⟨kb,0,none⟩)]) (fun kb=>[blk kb (.cells #[.map (some b31)] 51 (0,0))]) (fun _=>True) [] (by simp) (fun w hw=>(keys_any b31 w).mono fun e w' ⟨kb,h1,h2⟩=>⟨kb,h1,trivial,h2⟩) ?_
    intro kb _
    refine WL.callo (.inl rfl) rfl en22 rfl (fun w hw=>sortedKeys_any kb b31 g.k g.M w (hw.kn _ (mem_of_idx (i:=0) rfl)) (hw.kn _ (mem_of_idx (i:=2) rfl)) hmok.1 hmok.2) ?_
    intro v71 hv71
    refine WL.slcm 0 (m:=(msT (g.M.map (·.1))).length) (xs:=(msT (g.M.map (·.1))).flatMap strC) (e:=9) (size:=1) (v:=v71) rfl fun a71 c71 hv=>?_
    subst hv
    refine V0 (Ya rfl) ?_
    refine V0 (Ya rfl) ?_
    refine Ln (Et (Crt ?_))
    refine WE.ret2 rfl rfl rfl fun w' hw=>?_
    exact ⟨((a71,c71),msT (g.M.map (·.1)),0),rfl,hw.fr,hw.slT 0 rfl strC_len (fun _ _ _ _ h=>h),.inr (.inr ⟨he0,(by rw [hi0]; simp),_,rfl,(sortedT_ms hst.nd).1,fun s=>((sortedT_ms hst.nd).2 s).trans (hwk.fin s)⟩)⟩
end Go.Proofs.Ytinnlppbkhhoiaa
end
section
namespace Go.Proofs.Ytinnlppbkhhoiaa
open Go.Bw
set_option linter.unusedVariables false
set_option linter.unusedSimpArgs false
def plI (l:List TMod) (s:Tx):Int:=match placeL l s with | some j=>(j:Int) | none=>-1
theorem idxOf_first {s:Tx}:∀{ls:List Tx} {i k:Nat},ls[i]? = some s→s ∉ ls.take i→idxOf s ls k=some (k+i)
 | [],i,k,h,_=>by simp at h
 | x::r,0,k,h,_=>by
   have:x=s:=by simpa using h
   rw [idxOf,if_pos this]; rfl
 | x::r,i+1,k,h,hn=>by
   rw [List.take_succ_cons,List.mem_cons,not_or] at hn
   rw [idxOf,if_neg (fun e=>hn.1 e.symm),idxOf_first (by simpa using h) hn.2]
   congr 1
   omega
theorem plI_hit {l:List TMod} {s:Tx} {i:Nat} {m:TMod} (hi:l[i]? = some m) (hs:m.nm=s) (hno:∀x ∈ l.take i,¬x.nm=s):plI l s=(i:Int):=by
 have h:=idxOf_first (s:=s) (k:=0) (by rw [names_get hi,hs]) (fun h=>by
   unfold namesL at h
   rw [←List.map_take] at h
   obtain ⟨x,hx,e⟩:=List.mem_map.1 h
   exact hno x hx e)
 unfold plI placeL
 rw [h,Nat.zero_add]
theorem plI_none {l:List TMod} {s:Tx} (hno:∀x ∈ l,¬x.nm=s):plI l s = -1:=by
 have h:placeL l s=none:=idxOf_none.2 fun h=>by
   obtain ⟨x,hx,e⟩:=List.mem_map.1 h
   exact hno x hx e
 unfold plI
 rw [h]
theorem plI_some {l:List TMod} {s:Tx} {j:Nat} (h:placeL l s=some j):plI l s=(j:Int):=by unfold plI; rw [h]
theorem plI_neg {l:List TMod} {s:Tx}:decide (plI l s<0) = !(placeL l s).isSome:=by
 unfold plI
 cases placeL l s with
 | none=>rfl
 | some j=>
   have h:¬((j:Int)<0):=by omega
   simp [h]
theorem en35:Enters Try.prog 35:=enters_of Try.func35 (by kernel_rfl) rfl
theorem en36:Enters Try.prog 36:=enters_of Try.func36 (by kernel_rfl) rfl
theorem en25:Enters Try.prog 25:=enters_of Try.func25 (by kernel_rfl) rfl
theorem moduleNamed_any (H:View) (ke ks:Nat) (a:Option Addr) (c:Nat) (l:List TMod) (s:Tx) (w:World) (hH:Le H w) (hm:Sl (rdMod ke ks) 5 H a c l) :
   Calls Try.prog 25 #[.slice a l.length c,st s] w fun e w'=>e = .returned (.int .i64 (plI l s))∧Ext w w':=by
 have hcap:=hm.cap
 have hmax:=hm.max
 refine enter Try.func25 rfl 20 rfl rfl ?_
 refine CWd (W':=Ws w [] [] [H]) (fun _ e=>by subst e; exact Ws.init (by simp [hH])) ?_
 refine Cs (Cr ?_)
 refine V0 (Ya rfl) ?_
 refine Ln (Et (Cs (Cs (Cr ?_))))
 refine V0 (Ya rfl) ?_
 refine Ln (Et (Cb ?_))
 refine CW (ι:=Nat) (fun i=>[(5,.int .i64 (i:Int))]) [(0,_),(1,_)] (fun i=>i≤l.length∧∀x ∈ l.take i,¬x.nm=s) (fun i=>l.length-i) 0 ⟨Nat.zero_le _,by simp⟩ (sc rfl (sc rfl (sc rfl sn))) ?_
 intro i ⟨hi,hall⟩
 refine Cs (Cs (Cr ?_))
 refine V0 (Ym rfl) ?_
 refine V0 (Ym rfl) ?_
 refine V0 (Yn es22 rfl) ?_
 refine V0 (yl_lt rfl rfl) ?_
 refine Ln (Et ?_)
 refine Cc rfl (fun hc0=>?_) (fun hc0=>?_)
 ·
  have hlt:i<l.length:=by simpa using hc0
  obtain ⟨m,hmi⟩:∃q,l[i]? = some q:=⟨_,List.getElem?_eq_getElem hlt⟩
  obtain ⟨pbm,pom,ham,hrm⟩:=hm.elt i m hmi
  obtain ⟨rm,hrowm,hrdm⟩:=hrm
  refine Ck (Et (Cs (Cb (Cs (Cr ?_)))))
  refine V0 (Ym rfl) ?_
  refine V0 (Ym rfl) ?_
  refine V0 (Yo es22 rfl rfl ham (by omega)) ?_
  refine V0 (Yf fo39_0 rfl) ?_
  refine V0 (yl_ld 0 na9 rfl rfl (hrowm 0 _ rfl)) ?_
  refine V0 (Ym rfl) ?_
  refine V0 (yl_eqs rfl rfl) ?_
  refine Ln (Et ?_)
  refine Cc rfl (fun hc1=>?_) (fun hc1=>?_)
  ·
   have hs:m.nm=s:=by simpa using hc1
   refine Cs (Cr ?_)
   refine V0 (Ym rfl) ?_
   refine V0 (Ya rfl) ?_
   refine Ln (Et (Crt (Ebr (Er (Er ?_)))))
   refine Ebr (Er ?_)
   refine WE.ret1 rfl rfl fun w' hw=>?_
   exact ⟨by rw [plI_hit hmi hs hall],hw.fr⟩
  ·
   have hs:¬m.nm=s:=by simpa using hc1
   refine Ck (Eb (Et (Cr ?_)))
   refine V0 (Ym rfl) ?_
   refine V0 (Yi rfl rfl rfl (by omega)) ?_
   refine V0 (Ya rfl) ?_
   refine Ln ?_
   exact Ea (i+1) (by omega) ⟨by omega,mem_take_snoc hmi hall hs⟩ (sc rfl (sc rfl (sc rfl sn))) (fun _ h=>h)
 ·
  have hge:¬i<l.length:=by simpa using hc0
  rw [List.take_of_length_le (by omega)] at hall
  refine Ce (Ex (Ex (Ebh (Et (Cs ?_)))))
  refine Cr ?_
  refine V0 (Ya rfl) ?_
  refine Ln (Et (Crt ?_))
  refine WE.ret1 rfl rfl fun w' hw=>?_
  exact ⟨by rw [plI_none hall],hw.fr⟩
theorem orderError_any (H:View) (ke ks:Nat) (a:Option Addr) (c:Nat) (l:List TMod) (w:World) (hH:Le H w) (hm:Sl (rdMod ke ks) 5 H a c l) (hb:∀m ∈ l,wM m≤109951162777) :
   Calls Try.prog 24 #[.slice a l.length c] w fun e w'=>e = .returned (.int .i64 (orderE l))∧Ext w w':=by
 have hcap:=hm.cap
 have hmax:=hm.max
 refine enter Try.func24 rfl 62 rfl rfl ?_
 refine CWd (W':=Ws w [] [] [H]) (fun _ e=>by subst e; exact Ws.init (by simp [hH])) ?_
 refine Cs (Cr ?_)
 refine V0 (Ya rfl) ?_
 refine Ln (Et (Cs (Cs (Cr ?_))))
 refine V0 (Ym rfl) ?_
 refine V0 (Yn es22 rfl) ?_
 refine V0 (yl_gt rfl rfl) ?_
 refine Ln (Et ?_)
 refine Cc rfl (fun hc0=>?_) (fun hc0=>?_)
 ·
  have h4:4<l.length:=by simp at hc0; omega
  refine Cs (Cr ?_)
  refine V0 (Ya rfl) ?_
  refine Ln (Et (Crt (Er ?_)))
  refine WE.ret1 rfl rfl fun w' hw=>?_
  exact ⟨by rw [orderE_many h4],hw.fr⟩
 ·
  have h4:¬4<l.length:=by simp at hc0; omega
  refine Ck (Et (Cs (Cr ?_)))
  refine V0 (Ya rfl) ?_
  refine LW (fun _ h=>h.osl_nil 9 1) ?_
  refine Ln (Et (Cs (Cs (Cr ?_))))
  refine V0 (Ya rfl) ?_
  refine Ln (Et (Cb ?_))
  refine CK (ι:=Nat×SP) (fun g=>[(4,.int .i64 (g.1:Int)),(3,.slice g.2.1 ((l.take g.1).map (·.nm)).length g.2.2)]) [(0,_)] (fun g=>Ws w [] [osT 9 1 strC g.2.1 g.2.2 ((l.take g.1).map (·.nm))] [H]) (fun g=>g.1≤l.length∧∀m ∈ l.take g.1,checkM m=0) (fun g=>l.length-g.1) (0,(none,0)) ⟨Nat.zero_le _,by simp⟩ (sc rfl (sc rfl (sc rfl sn))) (fun _ h=>h) ?_
  intro g ⟨hi,hall⟩
  refine Cs (Cs (Cr ?_))
  refine V0 (Ym rfl) ?_
  refine V0 (Ym rfl) ?_
  refine V0 (Yn es22 rfl) ?_
  refine V0 (yl_lt rfl rfl) ?_
  refine Ln (Et ?_)
  refine Cc rfl (fun hc1=>?_) (fun hc1=>?_)
  ·
   have hlt:g.1<l.length:=by simpa using hc1
   obtain ⟨m,hmi⟩:∃q,l[g.1]? = some q:=⟨_,List.getElem?_eq_getElem hlt⟩
   obtain ⟨pbm,pom,ham,hrm⟩:=hm.elt g.1 m hmi
   obtain ⟨rm,hrowm,hrdm⟩:=hrm
   have hmemm:=List.mem_of_getElem? hmi
   have hbwm:=hb m hmemm
   have hT:(l.take (g.1+1)).map (·.nm)=(l.take g.1).map (·.nm)++[m.nm]:=by rw [take_snoc hmi]; simp
   have hnl:((l.take g.1).map (·.nm)).length=g.1:=by simp; omega
   refine Ck (Et (Cs (Cb (Cs (Cs ?_)))))
   refine Cr ?_
   refine V0 (Ym rfl) ?_
   refine V0 (Ym rfl) ?_
   refine V0 (Yo es22 rfl rfl ham (by omega)) ?_
   refine V0 (yl_lda 0 ag39 rfl rfl rfl (hrowm)) ?_
   refine Lp (.inl rfl) rfl en35 rfl (fun w hw=>checkModule_any H ke ks rm m w (hw.vs _ (by simp)) hrdm (by omega)) ?_
   refine V0 (Ya rfl) ?_
   refine Ln (Et (Cs (Cr ?_)))
   refine V0 (Ym rfl) ?_
   refine V0 (yl_ne rfl rfl) ?_
   refine Ln (Et ?_)
   refine Cc rfl (fun hc2=>?_) (fun hc2=>?_)
   ·
    have hck:¬checkM m=0:=by rw [check_same]; simpa using hc2
    refine Cs (Cr ?_)
    refine V0 (Ym rfl) ?_
    refine V0 (Ya rfl) ?_
    refine Ln (Et (Crt (Er (Ebr (Er ?_)))))
    refine Er (Ebr (Er ?_))
    refine WE.ret1 rfl rfl fun w' hw=>?_
    exact ⟨by rw [orderE_mod h4 hmi hall hck,check_same],hw.fr⟩
   ·
    have hck:checkM m=0:=by rw [check_same]; simpa using hc2
    refine Ck (Et (Cr ?_))
    refine V0 (Ym rfl) ?_
    refine V0 (Ym rfl) ?_
    refine V0 (Ym rfl) ?_
    refine V0 (Yo es22 rfl rfl ham (by omega)) ?_
    refine V0 (Yf fo39_0 rfl) ?_
    refine V0 (yl_ld 0 na9 rfl rfl (hrowm 0 _ rfl)) ?_
    refine Lb (.inl rfl) rfl el27 rfl rfl rfl rfl fun b31=>?_
    refine Lrb 0 (.cells (strC m.nm).toArray 9 (0,0)) rfl (rfl) ?_
    refine LA ((m.nm:Tx)) 1 0 (.inl rfl) rfl el27 rfl rfl rfl rfl rfl rfl (by omega) (by omega) fun a32 c32=>?_
    refine V0 (Ya rfl) ?_
    refine Ln (Eb (Et (Cr ?_)))
    refine V0 (Ym rfl) ?_
    refine V0 (Yi rfl rfl rfl (by omega)) ?_
    refine V0 (Ya rfl) ?_
    refine Ln ?_
    rw [←hT]
    exact Ea ((g.1+1,(a32,c32)):Nat×SP) (by show _-(g.1+1)<_; omega) ⟨(by show g.1+1≤_; omega),mem_take_snoc hmi hall hck⟩ (sc rfl (sc rfl (sc rfl sn))) (fun _ h=>Ws.drop (L:=[_]) h)
  ·
   have hge:g.1=l.length:=by simp at hc1; omega
   rw [hge,List.take_length] at hall
   rw [hge,List.take_length]
   refine Ce (Ex (Ex (Ebh (Et (Cs ?_)))))
   refine Cs ?_
   refine WC.oslview (rd:=rdStr) 0 rfl strC_len (fun _ _ _ _ h=>h) fun HN hHN=>?_
   refine Cr ?_
   refine V0 (Ym rfl) ?_
   refine Lp (.inl rfl) rfl en36 rfl (fun w hw=>by
       have:=twice_any HN g.2.1 g.2.2 (namesL l) w (hw.vs _ (by simp)) hHN
       exact this) ?_
   refine Ln (Et ?_)
   refine Cc rfl (fun hc3=>?_) (fun hc3=>?_)
   ·
    have htw:twiceB (namesL l)=true:=hc3
    refine Cs (Cr ?_)
    refine V0 (Ya rfl) ?_
    refine Ln (Et (Crt (Er ?_)))
    refine WE.ret1 rfl rfl fun w' hw=>?_
    exact ⟨by rw [orderE_rest h4 hall,htw]; rfl,hw.fr⟩
   ·
    have htw:twiceB (namesL l)=false:=hc3
    have hrest:=orderE_rest h4 hall
    rw [htw] at hrest
    refine Ck (Et (Cs (Cs (Cr ?_))))
    refine V0 (Ya rfl) ?_
    refine Ln (Et (Cb ?_))
    refine CW (ι:=Nat) (fun i=>[(6,.int .i64 (i:Int))]) [(0,_)] (fun i=>i≤l.length∧∀m ∈ l.take i,∀s ∈ m.uses,(placeL l s).isSome=true) (fun i=>l.length-i) 0 ⟨Nat.zero_le _,by simp⟩ (sc rfl (sc rfl sn)) ?_
    intro i ⟨hi2,hall2⟩
    refine Cs (Cs (Cr ?_))
    refine V0 (Ym rfl) ?_
    refine V0 (Ym rfl) ?_
    refine V0 (Yn es22 rfl) ?_
    refine V0 (yl_lt rfl rfl) ?_
    refine Ln (Et ?_)
    refine Cc rfl (fun hc4=>?_) (fun hc4=>?_)
    ·
     have hlt:i<l.length:=by simpa using hc4
     obtain ⟨n,hni⟩:∃q,l[i]? = some q:=⟨_,List.getElem?_eq_getElem hlt⟩
     obtain ⟨pbn,pon,han,hrn⟩:=hm.elt i n hni
     obtain ⟨rn,hrown,hrdn⟩:=hrn
     have hmemn:=List.mem_of_getElem? hni
     have hbwn:=hb n hmemn
     have hku:=hrdn.uses.cap
     have hkm:=hrdn.uses.max
     refine Ck (Et (Cs (Cb (Cs (Cr ?_)))))
     refine V0 (Ya rfl) ?_
     refine Ln (Et (Cb ?_))
     refine CW (ι:=Nat) (fun k=>[(7,.int .i64 (k:Int))]) [(0,_),(6,_)] (fun k=>k≤n.uses.length∧∀s ∈ n.uses.take k,(placeL l s).isSome=true) (fun k=>n.uses.length-k) 0 ⟨Nat.zero_le _,by simp⟩ (sc rfl (sc rfl (sc rfl sn))) ?_
     intro k ⟨hk,halls⟩
     refine Cs (Cs (Cr ?_))
     refine V0 (Ym rfl) ?_
     refine V0 (Ym rfl) ?_
     refine V0 (Ym rfl) ?_
     refine V0 (Yo es22 rfl rfl han (by omega)) ?_
     refine V0 (Yf fo39_1 rfl) ?_
     refine V0 (yl_ld 1 na27 rfl rfl (hrown 1 _ rfl)) ?_
     refine V0 (Yn es27 rfl) ?_
     refine V0 (yl_lt rfl rfl) ?_
     refine Ln (Et ?_)
     refine Cc rfl (fun hc5=>?_) (fun hc5=>?_)
     ·
      have hlt:k<n.uses.length:=by simpa using hc5
      obtain ⟨s,hsi⟩:∃q,n.uses[k]? = some q:=⟨_,List.getElem?_eq_getElem hlt⟩
      obtain ⟨pbs,pos,has,hrs⟩:=hrdn.uses.elt k s hsi
      have hrs:RdC H pbs (pos+k*1) (strC s):=hrs
      refine Ck (Et (Cs (Cb (Cs (Cr ?_)))))
      refine V0 (Ym rfl) ?_
      refine V0 (Ym rfl) ?_
      refine V0 (Ym rfl) ?_
      refine V0 (Yo es22 rfl rfl han (by omega)) ?_
      refine V0 (Yf fo39_1 rfl) ?_
      refine V0 (yl_ld 1 na27 rfl rfl (hrown 1 _ rfl)) ?_
      refine V0 (Ym rfl) ?_
      refine V0 (Yo es27 rfl rfl has (by omega)) ?_
      refine V0 (yl_ld 1 na9 rfl rfl (hrs 0 _ rfl)) ?_
      refine Lp (.inl rfl) rfl en25 rfl (fun w hw=>moduleNamed_any H ke ks a c l s w (hw.vs _ (by simp)) hm) ?_
      refine V0 (yl_lt rfl rfl) ?_
      rw [plI_neg]
      refine Ln (Et ?_)
      refine Cc rfl (fun hc6=>?_) (fun hc6=>?_)
      ·
       have hno:(placeL l s).isSome=false:=by simpa using hc6
       refine Cs (Cr ?_)
       refine V0 (Ya rfl) ?_
       refine Ln (Et (Crt (Ebr (Er (Er ?_)))))
       refine Ebr (Ebr (Er (Er (Ebr (Er ?_)))))
       refine WE.ret1 rfl rfl fun w' hw=>?_
       exact ⟨by rw [hrest,usesOk_no hmemn (List.mem_of_getElem? hsi) hno]; rfl,hw.fr⟩
      ·
       have hyes:(placeL l s).isSome=true:=by simpa using hc6
       refine Ck (Eb (Et (Cr ?_)))
       refine V0 (Ym rfl) ?_
       refine V0 (Yi rfl rfl rfl (by omega)) ?_
       refine V0 (Ya rfl) ?_
       refine Ln ?_
       exact Ea (k+1) (by omega) ⟨by omega,mem_take_snoc hsi halls hyes⟩ (sc rfl (sc rfl (sc rfl sn))) (fun _ h=>h)
     ·
      have hge3:¬k<n.uses.length:=by simpa using hc5
      rw [List.take_of_length_le (by omega)] at halls
      refine Ce (Ex (Ex (Ebh (Eb (Et ?_)))))
      refine Cr ?_
      refine V0 (Ym rfl) ?_
      refine V0 (Yi rfl rfl rfl (by omega)) ?_
      refine V0 (Ya rfl) ?_
      refine Ln ?_
      exact Ea (i+1) (by omega) ⟨by omega,mem_take_snoc hni hall2 halls⟩ (sc rfl (sc rfl sn)) (fun _ h=>h)
    ·
     have hge2:¬i<l.length:=by simpa using hc4
     have hall3:∀m ∈ l,∀s ∈ m.uses,(placeL l s).isSome=true:=fun m hm=>hall2 m (by rw [List.take_of_length_le (by omega)]; exact hm)
     have he0:orderE l=0:=by rw [hrest,usesOk_yes hall3]; rfl
     refine Ce (Ex (Ex (Ebh (Et (Cs ?_)))))
     refine Cr ?_
     refine V0 (Ya rfl) ?_
     refine Ln (Et (Crt ?_))
     refine WE.ret1 rfl rfl fun w' hw=>?_
     exact ⟨by rw [he0],hw.fr⟩
theorem sameInts_eqO (H1 H2:View) (a1 a2:Option Addr) (c1 c2:Nat) (l:List Nat) (w:World) (hH1:Le H1 w) (hH2:Le H2 w) (hm1:Sl rdIx 1 H1 a1 c1 l) (hm2:Sl rdIx 1 H2 a2 c2 l) :
   Calls Try.prog 11 #[.slice a1 l.length c1,.slice a2 l.length c2] w fun e w'=>e = .returned (.bool true)∧Ext w w':=by
 have hcap:=hm1.cap
 have hmax:=hm1.max
 refine enter Try.func11 rfl 26 rfl rfl ?_
 refine CWd (W':=Ws w [] [] [H1,H2]) (fun _ e=>by subst e; exact Ws.init (by simp [hH1,hH2])) ?_
 refine Cs (Cr ?_)
 refine V0 (Ya rfl) ?_
 refine Ln (Et (Cs (Cs (Cr ?_))))
 refine V0 (Ym rfl) ?_
 refine V0 (Yn es23 rfl) ?_
 refine V0 (Ym rfl) ?_
 refine V0 (Yn es23 rfl) ?_
 refine V0 (yl_ne rfl rfl) ?_
 refine Ln (Et ?_)
 refine Cc rfl (fun hc0=>?_) (fun hc0=>?_)
 ·
  exfalso
  simp at hc0
 ·
  refine Ck (Et (Cs (Cs (Cr ?_))))
  refine V0 (Ya rfl) ?_
  refine Ln (Et (Cb ?_))
  refine CW (ι:=Nat) (fun i=>[(5,.int .i64 (i:Int))]) [(0,_),(1,_)] (fun i=>i≤l.length) (fun i=>l.length-i) 0 (Nat.zero_le _) (sc rfl (sc rfl (sc rfl sn))) ?_
  intro i hi
  refine Cs (Cs (Cr ?_))
  refine V0 (Ym rfl) ?_
  refine V0 (Ym rfl) ?_
  refine V0 (Yn es23 rfl) ?_
  refine V0 (yl_lt rfl rfl) ?_
  refine Ln (Et ?_)
  refine Cc rfl (fun hc1=>?_) (fun hc1=>?_)
  ·
   have hlt:i<l.length:=by simpa using hc1
   obtain ⟨x,hx⟩:∃x,l[i]? = some x:=⟨_,List.getElem?_eq_getElem hlt⟩
   obtain ⟨pb,po,ha,hrow⟩:=hm1.elt i x hx
   obtain ⟨qb,qo,hqa,hrq⟩:=hm2.elt i x hx
   refine Ck (Et (Cs (Cb (Cs ?_))))
   refine WC.draws0 [(0,true),(1,true),(2,true),(3,true),(4,true),(5,true),(6,true),(7,true),(8,true)] mixed (by kernel_rfl) (fun _ _ _ d _ h=>by cases d<;>exact h) ?_
   refine Dq rfl (.inl rfl) rfl (fun _ h=>h) (Ym rfl) ?_
   refine Dq rfl (.inl rfl) rfl (fun _ h=>h) (Ym rfl) ?_
   refine Dq rfl (.inl rfl) rfl (fun _ h=>h) (Yo es23 rfl rfl ha (by omega)) ?_
   refine Dq rfl (.inl rfl) rfl (fun _ h=>h) (yl_ld 0 na3 rfl rfl (hrow 0 _ rfl)) ?_
   refine Dq rfl (.inl rfl) rfl (fun _ h=>h) (Ym rfl) ?_
   refine Dq rfl (.inl rfl) rfl (fun _ h=>h) (Ym rfl) ?_
   refine Dq rfl (.inl rfl) rfl (fun _ h=>h) (Yo es23 rfl rfl hqa (by omega)) ?_
   refine Dq rfl (.inl rfl) rfl (fun _ h=>h) (yl_ld 1 na3 rfl rfl (hrq 0 _ rfl)) ?_
   refine Dq rfl (.inl rfl) rfl (fun _ h=>h) (yl_ne rfl rfl) ?_
   refine WD.nil (fun _ h=>h) ?_
   refine Et ?_
   refine Cc rfl (fun hc2=>?_) (fun hc2=>?_)
   ·
    exfalso
    simp at hc2
   ·
    refine Ck (Eb (Et (Cr ?_)))
    refine V0 (Ym rfl) ?_
    refine V0 (Yi rfl rfl rfl (by omega)) ?_
    refine V0 (Ya rfl) ?_
    refine Ln ?_
    exact Ea (i+1) (by omega) (by omega) (sc rfl (sc rfl (sc rfl sn))) (fun _ h=>h)
  ·
   refine Ce (Ex (Ex (Ebh (Et (Cs ?_)))))
   refine Cr ?_
   refine V0 (Ya rfl) ?_
   refine Ln (Et (Crt ?_))
   refine WE.ret1 rfl rfl fun w' hw=>?_
   exact ⟨rfl,hw.fr⟩
theorem sameTexts_eqO (H1 H2:View) (a1 a2:Option Addr) (c1 c2:Nat) (l:List Tx) (w:World) (hH1:Le H1 w) (hH2:Le H2 w) (hm1:Sl rdStr 1 H1 a1 c1 l) (hm2:Sl rdStr 1 H2 a2 c2 l) :
   Calls Try.prog 12 #[.slice a1 l.length c1,.slice a2 l.length c2] w fun e w'=>e = .returned (.bool true)∧Ext w w':=by
 have hcap:=hm1.cap
 have hmax:=hm1.max
 refine enter Try.func12 rfl 26 rfl rfl ?_
 refine CWd (W':=Ws w [] [] [H1,H2]) (fun _ e=>by subst e; exact Ws.init (by simp [hH1,hH2])) ?_
 refine Cs (Cr ?_)
 refine V0 (Ya rfl) ?_
 refine Ln (Et (Cs (Cs (Cr ?_))))
 refine V0 (Ym rfl) ?_
 refine V0 (Yn es27 rfl) ?_
 refine V0 (Ym rfl) ?_
 refine V0 (Yn es27 rfl) ?_
 refine V0 (yl_ne rfl rfl) ?_
 refine Ln (Et ?_)
 refine Cc rfl (fun hc0=>?_) (fun hc0=>?_)
 ·
  exfalso
  simp at hc0
 ·
  refine Ck (Et (Cs (Cs (Cr ?_))))
  refine V0 (Ya rfl) ?_
  refine Ln (Et (Cb ?_))
  refine CW (ι:=Nat) (fun i=>[(5,.int .i64 (i:Int))]) [(0,_),(1,_)] (fun i=>i≤l.length) (fun i=>l.length-i) 0 (Nat.zero_le _) (sc rfl (sc rfl (sc rfl sn))) ?_
  intro i hi
  refine Cs (Cs (Cr ?_))
  refine V0 (Ym rfl) ?_
  refine V0 (Ym rfl) ?_
  refine V0 (Yn es27 rfl) ?_
  refine V0 (yl_lt rfl rfl) ?_
  refine Ln (Et ?_)
  refine Cc rfl (fun hc1=>?_) (fun hc1=>?_)
  ·
   have hlt:i<l.length:=by simpa using hc1
   obtain ⟨x,hx⟩:∃x,l[i]? = some x:=⟨_,List.getElem?_eq_getElem hlt⟩
   obtain ⟨pb,po,ha,hrow⟩:=hm1.elt i x hx
   obtain ⟨qb,qo,hqa,hrq⟩:=hm2.elt i x hx
   refine Ck (Et (Cs (Cb (Cs ?_))))
   refine WC.draws0 [(0,true),(1,true),(2,true),(3,true),(4,true),(5,true),(6,true),(7,true),(8,true)] mixed (by kernel_rfl) (fun _ _ _ d _ h=>by cases d<;>exact h) ?_
   refine Dq rfl (.inl rfl) rfl (fun _ h=>h) (Ym rfl) ?_
   refine Dq rfl (.inl rfl) rfl (fun _ h=>h) (Ym rfl) ?_
   refine Dq rfl (.inl rfl) rfl (fun _ h=>h) (Yo es27 rfl rfl ha (by omega)) ?_
   refine Dq rfl (.inl rfl) rfl (fun _ h=>h) (yl_ld 0 na9 rfl rfl (hrow 0 _ rfl)) ?_
   refine Dq rfl (.inl rfl) rfl (fun _ h=>h) (Ym rfl) ?_
   refine Dq rfl (.inl rfl) rfl (fun _ h=>h) (Ym rfl) ?_
   refine Dq rfl (.inl rfl) rfl (fun _ h=>h) (Yo es27 rfl rfl hqa (by omega)) ?_
   refine Dq rfl (.inl rfl) rfl (fun _ h=>h) (yl_ld 1 na9 rfl rfl (hrq 0 _ rfl)) ?_
   refine Dq rfl (.inl rfl) rfl (fun _ h=>h) (yl_nes rfl rfl) ?_
   refine WD.nil (fun _ h=>h) ?_
   refine Et ?_
   refine Cc rfl (fun hc2=>?_) (fun hc2=>?_)
   ·
    exfalso
    simp at hc2
   ·
    refine Ck (Eb (Et (Cr ?_)))
    refine V0 (Ym rfl) ?_
    refine V0 (Yi rfl rfl rfl (by omega)) ?_
    refine V0 (Ya rfl) ?_
    refine Ln ?_
    exact Ea (i+1) (by omega) (by omega) (sc rfl (sc rfl (sc rfl sn))) (fun _ h=>h)
  ·
   refine Ce (Ex (Ex (Ebh (Et (Cs ?_)))))
   refine Cr ?_
   refine V0 (Ya rfl) ?_
   refine Ln (Et (Crt ?_))
   refine WE.ret1 rfl rfl fun w' hw=>?_
   exact ⟨rfl,hw.fr⟩
end Go.Proofs.Ytinnlppbkhhoiaa
end
section
namespace Go.Proofs.Ytinnlppbkhhoiaa
open Go.Bw
set_option linter.unusedVariables false
set_option linter.unusedSimpArgs false
def plB (n:Nat) (out:List Nat):List Bool:=(List.range n).map fun j=>out.contains j
theorem plB_len (n:Nat) (out:List Nat):(plB n out).length=n:=by simp [plB]
theorem plB_get {n j:Nat} (out:List Nat) (h:j<n):(plB n out)[j]? = some (out.contains j):=by
 unfold plB
 rw [List.getElem?_map,List.getElem?_range h]
 rfl
theorem plB_nil (n:Nat):List.replicate n false=plB n []:=by
 apply List.ext_getElem?
 intro j
 by_cases h:j<n
 · rw [plB_get [] h,List.getElem?_replicate,if_pos h]; rfl
 · rw [List.getElem?_eq_none (by simpa using h),List.getElem?_eq_none (by rw [plB_len]; omega)]
theorem plB_set {n b:Nat} (out:List Nat) (h:b<n):(plB n out).set b true=plB n (out++[b]):=by
 apply List.ext_getElem?
 intro j
 rw [List.getElem?_set]
 by_cases hj:j<n
 · rw [plB_get _ hj,plB_get _ hj,plB_len]
   by_cases e:b=j
   · subst e; simp [h]
   · rw [if_neg e]
     congr 1
     have:¬j=b:=fun e2=>e e2.symm
     simp [this]
 · rw [if_neg (by omega),List.getElem?_eq_none (by rw [plB_len]; omega),List.getElem?_eq_none (by rw [plB_len]; omega)]
theorem boolC_len1 (b:Bool):(boolC b).length=1:=rfl
theorem toBools {P:Program} {ops:Array Oper} {Q:Exit→Act→World→Prop} {n:Nat} {ds:List Deferred} {l:List (Nat×Value)} {w0:World} {F:List Nat} {L:List Asr} {Vs:List View} {rest:List Oper} {e b k:Nat} (i:Nat) (hL:L[i]? = some (blk b (.cells (madeCells (Value.bool false).cells (k*1)) e (0,0)))) (hk:k≤maxLen)
   (h:WL P ops Q n ds l (Ws w0 F (L.set i (osT e 1 boolC (some ⟨b,0,none⟩) k (plB k []))) Vs) rest):WL P ops Q n ds l (Ws w0 F L Vs) rest:=
 LW (fun _ hw=>Ws.osT_blk hw i (by
   rw [hL,madeCells_one _ rfl,←plB_nil]
   congr 4
   induction k with
   | zero=>rfl
   | succ k _=>simp [List.flatMap_replicate,boolC]) boolC_len1 (plB_len k []) hk) h
def bestI:Option Nat→Int
 | none=>-1
 | some x=>(x:Int)
def BestTo (l:List TMod) (d:List Nat) (i:Nat):Option Nat→Prop
 | none=>∀j,j<i→readyB l d j=false
 | some x=>x<i∧readyB l d x=true∧∀j,j<i→readyB l d j=true→j=x∨ltT (nmAt l x) (nmAt l j)=true
theorem bestTo_skip {l:List TMod} {d:List Nat} {i:Nat}:∀{b:Option Nat},BestTo l d i b→readyB l d i=false→BestTo l d (i+1) b
 | none,h,hr=>fun j hj=>by
   rcases Nat.lt_succ_iff_lt_or_eq.1 hj with h2 | h2
   · exact h j h2
   · subst h2; exact hr
 | some x,⟨h1,h2,h3⟩,hr=>⟨by omega,h2,fun j hj hjr=>by
   rcases Nat.lt_succ_iff_lt_or_eq.1 hj with h4 | h4
   · exact h3 j h4 hjr
   · subst h4; rw [hr] at hjr; cases hjr⟩
theorem bestTo_first {l:List TMod} {d:List Nat} {i:Nat} (h:BestTo l d i none) (hr:readyB l d i=true):BestTo l d (i+1) (some i):=⟨by omega,hr,fun j hj hjr=>by
 rcases Nat.lt_succ_iff_lt_or_eq.1 hj with h4 | h4
 · rw [h j h4] at hjr; cases hjr
 · exact .inl h4⟩
theorem bestTo_less {l:List TMod} {d:List Nat} {i x:Nat} (h:BestTo l d i (some x)) (hr:readyB l d i=true) (hlt:ltT (nmAt l i) (nmAt l x)=true):BestTo l d (i+1) (some i):=⟨by omega,hr,fun j hj hjr=>by
 rcases Nat.lt_succ_iff_lt_or_eq.1 hj with h4 | h4
 · rcases h.2.2 j h4 hjr with h5 | h5
   · subst h5; exact .inr hlt
   · exact .inr (ltT_trans _ _ _ hlt h5)
 · exact .inl h4⟩
theorem bestTo_keep {l:List TMod} (hn:(namesL l).Nodup) {d:List Nat} {i x:Nat} (hi:i<l.length) (h:BestTo l d i (some x)) (hlt:ltT (nmAt l i) (nmAt l x)=false):BestTo l d (i+1) (some x):=⟨by have:=h.1; omega,h.2.1,fun j hj hjr=>by
 rcases Nat.lt_succ_iff_lt_or_eq.1 hj with h4 | h4
 · exact h.2.2 j h4 hjr
 · subst h4
   rcases ltT_tri (nmAt l j) (nmAt l x) (fun e=>by have:=nm_inj hn hi (by have:=h.1; omega) e; have:=h.1; omega) with h5 | h5
   · rw [hlt] at h5; cases h5
   · exact .inr h5⟩
theorem doneS_some {l:List TMod} {d:List Nat} {s:Tx} {j:Nat} (h:placeL l s=some j):doneS l d s=d.contains j:=by unfold doneS; rw [h]
theorem all_step {a c:Bool} {p:Tx→Bool} {u:List Tx} {k:Nat} {s:Tx} (hs:u[k]? = some s) (hc:p s=c):((a&&(u.take k).all p)&&c)=(a&&(u.take (k+1)).all p):=by
 rw [take_snoc hs,List.all_append,Bool.and_assoc]
 simp [hc]
theorem sort_cases (l:List TMod) (d:List Nat) (i:Nat) (b:Option Nat):readyB l d i=false∨(readyB l d i=true∧b=none)∨∃x,readyB l d i=true∧b=some x:=by
 cases readyB l d i with
 | false=>exact .inl rfl
 | true=>cases b with
   | none=>exact .inr (.inl ⟨rfl,rfl⟩)
   | some x=>exact .inr (.inr ⟨x,rfl,rfl⟩)
theorem en24:Enters Try.prog 24:=enters_of Try.func24 (by kernel_rfl) rfl
theorem el41:EltOk Try.prog 41 4 (.bool false) 1 1:=eltOk_of (by kernel_rfl)
theorem es41:elemSz Try.prog 41=some 1:=by kernel_rfl
theorem sz4:sizeP Try.prog 4=some 1:=by kernel_rfl
theorem sortOf_any (H:View) (ke ks:Nat) (a:Option Addr) (c:Nat) (l:List TMod) (w:World) (hH:Le H w) (hm:Sl (rdMod ke ks) 5 H a c l) (hb:∀m ∈ l,wM m≤109951162777) :
   Calls Try.prog 8 #[.slice a l.length c] w fun e w'=>∃r:SP×List Nat×Int,e = .returned (.tuple #[.slice r.1.1 r.2.1.length r.1.2,.int .i64 r.2.2])∧Ext w w'∧Sl rdIx 1 (nv w w') r.1.1 r.1.2 r.2.1∧SortR l r.2:=by
 have hcap:=hm.cap
 have hmax:=hm.max
 refine enter Try.func8 rfl 90 rfl rfl ?_
 refine CWd (W':=Ws w [] [] [H]) (fun _ e=>by subst e; exact Ws.init (by simp [hH])) ?_
 refine Cs (Cr ?_)
 refine V0 (Ya rfl) ?_
 refine V0 (Ya rfl) ?_
 refine Ln (Et (Cs (Cs (Cr ?_))))
 refine V0 (Ym rfl) ?_
 refine Lp (.inl rfl) rfl en24 rfl (fun w hw=>orderError_any H ke ks a c l w (hw.vs _ (by simp)) hm hb) ?_
 refine V0 (Ya rfl) ?_
 refine Ln (Et (Cs (Cr ?_)))
 refine V0 (Ym rfl) ?_
 refine V0 (yl_ne rfl rfl) ?_
 refine Ln (Et ?_)
 refine Cc rfl (fun hc0=>?_) (fun hc0=>?_)
 ·
  have hne:¬orderE l=0:=by simpa using hc0
  refine Cs (Cr ?_)
  refine V0 (Ym rfl) ?_
  refine V0 (Ya rfl) ?_
  refine V0 (Ya rfl) ?_
  refine Ln (Et (Crt (Er ?_)))
  refine WE.ret2 rfl rfl rfl fun w' hw=>?_
  exact ⟨((none,0),[],orderE l),rfl,hw.fr,Sl.nil,.inl ⟨hne,rfl⟩⟩
 ·
  have he0:orderE l=0:=by simpa using hc0
  have ho:=orderE_zero.1 he0
  have hfew:=ho.few
  refine Ck (Et (Cs (Cr ?_)))
  refine V0 (Ya rfl) ?_
  refine LW (fun _ h=>h.osl_nil 3 1) ?_
  refine Ln (Et (Cs (Cr ?_)))
  refine V0 (Ym rfl) ?_
  refine V0 (Yn es22 rfl) ?_
  refine WL.make (.inl rfl) rfl el41 rfl rfl (by omega) (by omega) (by omega) (by omega) fun b18=>?_
  refine toBools 0 rfl (by unfold maxLen; omega) ?_
  refine V0 (Ya rfl) ?_
  refine Ln (Et (Cs (Cb ?_)))
  refine CK (ι:=GQ) (fun q=>[(5,.slice q.s.1 q.out.length q.s.2)]) [(0,_),(6,_)] (fun q=>Ws w [] [osT 3 1 ixC q.s.1 q.s.2 q.out,osT 4 1 boolC (some ⟨b18,0,none⟩) l.length (plB l.length q.out)] [H]) (fun q=>Greedy l q.out) (fun q=>l.length-q.out.length) ⟨[],(none,0)⟩ Greedy.nil (sc rfl (sc rfl (sc rfl sn))) (fun _ h=>by have h:=h.fronti 1 rfl; exact h) ?_
  intro q hgr
  refine Cs (Cs (Cr ?_))
  refine V0 (Ym rfl) ?_
  refine V0 (Yn es23 rfl) ?_
  refine V0 (Ym rfl) ?_
  refine V0 (Yn es22 rfl) ?_
  refine V0 (yl_lt rfl rfl) ?_
  refine Ln (Et ?_)
  refine Cc rfl (fun hc1=>?_) (fun hc1=>?_)
  ·
   have hlt2:q.out.length<l.length:=by simpa using hc1
   refine Ck (Et (Cb (Cs (Cr ?_))))
   refine V0 (Ya rfl) ?_
   refine Ln (Et (Cs (Cs (Cr ?_))))
   refine V0 (Ya rfl) ?_
   refine Ln (Et (Cb ?_))
   refine CW (ι:=Nat×Option Nat) (fun g=>[(8,.int .i64 (g.1:Int)),(7,.int .i64 (bestI g.2))]) [(0,_),(5,_),(6,_)] (fun g=>g.1≤l.length∧BestTo l q.out g.1 g.2) (fun g=>l.length-g.1) (0,none) ⟨Nat.zero_le _,fun j h=>by omega⟩ (sc rfl (sc rfl (sc rfl (sc rfl (sc rfl sn))))) ?_
   intro g ⟨hgi0,hbt⟩
   refine Cs (Cs (Cr ?_))
   refine V0 (Ym rfl) ?_
   refine V0 (Ym rfl) ?_
   refine V0 (Yn es22 rfl) ?_
   refine V0 (yl_lt rfl rfl) ?_
   refine Ln (Et ?_)
   refine Cc rfl (fun hc2=>?_) (fun hc2=>?_)
   ·
    have hlt3:g.1<l.length:=by simpa using hc2
    have hlt:g.1<l.length:=by simpa using hc2
    obtain ⟨m,hmi⟩:∃q,l[g.1]? = some q:=⟨_,List.getElem?_eq_getElem hlt⟩
    obtain ⟨pbm,pom,ham,hrm⟩:=hm.elt g.1 m hmi
    obtain ⟨rm,hrowm,hrdm⟩:=hrm
    have hmemm:=List.mem_of_getElem? hmi
    have hbwm:=hb m hmemm
    have hus:=usesAt_get hmi
    have hnmi:=nmAt_get hmi
    have hku:=hrdm.uses.cap
    have hkm:=hrdm.uses.max
    refine Ck (Et (Cs (Cb (Cs (Cr ?_)))))
    refine V0 (Ym rfl) ?_
    refine V0 (Ym rfl) ?_
    refine V0 (yl_iak es41 rfl rfl (by omega)) ?_
    refine V0 (yl_ldT (y:=q.out.contains g.1) 1 g.1 0 rfl rfl rfl (by omega) boolC_len1 (plB_get _ hlt3) rfl na4) ?_
    refine V0 (yl_not rfl) ?_
    refine V0 (Ya rfl) ?_
    refine Ln (Et (Cs (Cs (Cr ?_))))
    refine V0 (Ya rfl) ?_
    refine Ln (Et (Cb ?_))
    rw [show (!q.out.contains g.1)=(!q.out.contains g.1&&(m.uses.take 0).all (doneS l q.out)) by simp]
    refine CW (ι:=Nat) (fun k=>[(10,.int .i64 (k:Int)),(9,.bool (!q.out.contains g.1&&(m.uses.take k).all (doneS l q.out)))]) [(0,_),(5,_),(6,_),(7,_),(8,_)] (fun k=>k≤m.uses.length) (fun k=>m.uses.length-k) 0 (Nat.zero_le _) (sc rfl (sc rfl (sc rfl (sc rfl (sc rfl (sc rfl (sc rfl sn))))))) ?_
    intro k hk
    refine Cs (Cs (Cr ?_))
    refine V0 (Ym rfl) ?_
    refine V0 (Ym rfl) ?_
    refine V0 (Ym rfl) ?_
    refine V0 (Yo es22 rfl rfl ham (by omega)) ?_
    refine V0 (Yf fo39_1 rfl) ?_
    refine V0 (yl_ld 0 na27 rfl rfl (hrowm 1 _ rfl)) ?_
    refine V0 (Yn es27 rfl) ?_
    refine V0 (yl_lt rfl rfl) ?_
    refine Ln (Et ?_)
    refine Cc rfl (fun hc3=>?_) (fun hc3=>?_)
    ·
     have hlt:k<m.uses.length:=by simpa using hc3
     obtain ⟨s,hsi⟩:∃q,m.uses[k]? = some q:=⟨_,List.getElem?_eq_getElem hlt⟩
     obtain ⟨pbs,pos,has,hrs⟩:=hrdm.uses.elt k s hsi
     have hrs:RdC H pbs (pos+k*1) (strC s):=hrs
     obtain ⟨j,hj⟩:=ho.uses m hmemm s (List.mem_of_getElem? hsi)
     have hjl:=(placeL_at hj).1
     refine Ck (Et (Cs (Cb (Cr ?_))))
     refine V0 (Ym rfl) ?_
     refine V0 (Ym rfl) ?_
     apply WL.and 13 (x:=q.out.contains j) rfl rfl rfl rfl (.inl rfl) rfl rfl rfl rfl rfl
     ·
      intro hg0
      refine Lv (.g rfl rfl rfl) rfl (Ym rfl) ?_
      refine Lv (.g rfl rfl rfl) rfl (Ym rfl) ?_
      refine Lv (.g rfl rfl rfl) rfl (Ym rfl) ?_
      refine Lv (.g rfl rfl rfl) rfl (Ym rfl) ?_
      refine Lv (.g rfl rfl rfl) rfl (Yo es22 rfl rfl ham (by omega)) ?_
      refine Lv (.g rfl rfl rfl) rfl (Yf fo39_1 rfl) ?_
      refine Lv (.g rfl rfl rfl) rfl (yl_ld 0 na27 rfl rfl (hrowm 1 _ rfl)) ?_
      refine Lv (.g rfl rfl rfl) rfl (Ym rfl) ?_
      refine Lv (.g rfl rfl rfl) rfl (Yo es27 rfl rfl has (by omega)) ?_
      refine Lv (.g rfl rfl rfl) rfl (yl_ld 0 na9 rfl rfl (hrs 0 _ rfl)) ?_
      refine Lp (.g rfl rfl rfl) rfl en25 rfl (fun w hw=>moduleNamed_any H ke ks a c l s w (hw.vs _ (by simp)) hm) ?_
      rw [plI_some hj]
      refine Lv (.g rfl rfl rfl) rfl (yl_iak es41 rfl rfl (by omega)) ?_
      refine Lv (.g rfl rfl rfl) rfl (yl_ldT (y:=q.out.contains j) 1 j 0 rfl rfl rfl (by omega) boolC_len1 (plB_get _ hjl) rfl na4) ?_
      exact Gt 13 rfl rfl rfl
     refine V0 (Ya rfl) ?_
     refine Ln (Eb (Et (Cr ?_)))
     refine V0 (Ym rfl) ?_
     refine V0 (Yi rfl rfl rfl (by omega)) ?_
     refine V0 (Ya rfl) ?_
     refine Ln ?_
     rw [all_step hsi (doneS_some hj)]
     exact Ea (k+1) (by omega) (by omega) (sc rfl (sc rfl (sc rfl (sc rfl (sc rfl (sc rfl (sc rfl sn))))))) (fun _ h=>h)
    ·
     have hge3:¬k<m.uses.length:=by simpa using hc3
     have hrb:(!q.out.contains g.1&&(m.uses.take k).all (doneS l q.out))=readyB l q.out g.1:=by unfold readyB; rw [hus,List.take_of_length_le (by omega)]
     refine Ce (Ex (Ex (Ebh (Et (Cs ?_)))))
     rw [hrb]
     rcases sort_cases l q.out g.1 g.2 with hr0 | ⟨hr1,hb0⟩ | ⟨x,hr1,hbx⟩
     ·
      rw [hr0]
      refine WC.drawsK (fun _=>true) [] [(0,true),(1,true),(2,true),(3,true),(4,true),(5,true),(6,true),(7,true),(8,true),(9,true),(10,true),(11,true),(12,true),(13,true),(14,true),(15,true),(16,true),(17,true)] mixed (by kernel_rfl) (by kernel_rfl) (fun _ _ _ d _ _ h=>by cases d<;>exact h) ?_
      refine Dq rfl (.inl rfl) rfl (fun _ h=>h) (Ym rfl) ?_
      refine Dq rfl (.inl rfl) rfl (fun _ h=>h) (Ym rfl) ?_
      refine WD.skip rfl rfl rfl rfl rfl rfl (fun _ h=>h) ?_
      refine WD.skip rfl rfl rfl rfl rfl rfl (fun _ h=>h) ?_
      refine WD.skip rfl rfl rfl rfl rfl rfl (fun _ h=>h) ?_
      refine WD.skipU rfl rfl rfl rfl rfl rfl (fun _ h=>h) ?_
      refine WD.skipU rfl rfl rfl rfl rfl rfl (fun _ h=>h) ?_
      refine WD.skipU rfl rfl rfl rfl rfl rfl (fun _ h=>h) ?_
      refine WD.skipU rfl rfl rfl rfl rfl rfl (fun _ h=>h) ?_
      refine WD.skipU rfl rfl rfl rfl rfl rfl (fun _ h=>h) ?_
      refine WD.skipU rfl rfl rfl rfl rfl rfl (fun _ h=>h) ?_
      refine WD.skipU rfl rfl rfl rfl rfl rfl (fun _ h=>h) ?_
      refine WD.skipU rfl rfl rfl rfl rfl rfl (fun _ h=>h) ?_
      refine WD.skipU rfl rfl rfl rfl rfl rfl (fun _ h=>h) ?_
      refine WD.skipU rfl rfl rfl rfl rfl rfl (fun _ h=>h) ?_
      refine WD.skipU rfl rfl rfl rfl rfl rfl (fun _ h=>h) ?_
      refine WD.skip rfl rfl rfl rfl rfl rfl (fun _ h=>h) ?_
      refine Dq rfl (.inl rfl) rfl (fun _ h=>h) (yl_pick rfl rfl rfl) ?_
      refine WD.nil (fun _ h=>h) ?_
      refine Et ?_
      refine Cc rfl (fun hc4=>?_) (fun hc4=>?_)
      ·
       cases hc4
      ·
       refine Ck (Eb (Et (Cr ?_)))
       refine V0 (Ym rfl) ?_
       refine V0 (Yi rfl rfl rfl (by omega)) ?_
       refine V0 (Ya rfl) ?_
       refine Ln ?_
       exact Ea ((g.1+1,g.2):Nat×Option Nat) (by show _-(g.1+1)<_; omega) ⟨(by show g.1+1≤_; omega),bestTo_skip hbt hr0⟩ (sc rfl (sc rfl (sc rfl (sc rfl (sc rfl sn))))) (fun _ h=>h)
     ·
      rw [hr1,hb0]
      refine WC.drawsK (fun _=>true) [] [(0,true),(1,true),(2,true),(3,true),(4,true),(5,true),(6,true),(7,true),(8,true),(9,true),(10,true),(11,true),(12,true),(13,true),(14,true),(15,true),(16,true),(17,true)] mixed (by kernel_rfl) (by kernel_rfl) (fun _ _ _ d _ _ h=>by cases d<;>exact h) ?_
      refine Dq rfl (.inl rfl) rfl (fun _ h=>h) (Ym rfl) ?_
      refine Dq rfl (.inl rfl) rfl (fun _ h=>h) (Ym rfl) ?_
      refine Dq rfl (.g rfl rfl rfl) rfl (fun _ h=>h) (Ym rfl) ?_
      refine Dq rfl (.g rfl rfl rfl) rfl (fun _ h=>h) (yl_ltT rfl rfl (by decide)) ?_
      refine Dq rfl (.g rfl rfl rfl) rfl (fun _ h=>h) (Ym rfl) ?_
      refine WD.skip rfl rfl rfl rfl rfl rfl (fun _ h=>h) ?_
      refine WD.skip rfl rfl rfl rfl rfl rfl (fun _ h=>h) ?_
      refine WD.skip rfl rfl rfl rfl rfl rfl (fun _ h=>h) ?_
      refine WD.skip rfl rfl rfl rfl rfl rfl (fun _ h=>h) ?_
      refine WD.skip rfl rfl rfl rfl rfl rfl (fun _ h=>h) ?_
      refine WD.skip rfl rfl rfl rfl rfl rfl (fun _ h=>h) ?_
      refine WD.skip rfl rfl rfl rfl rfl rfl (fun _ h=>h) ?_
      refine WD.skip rfl rfl rfl rfl rfl rfl (fun _ h=>h) ?_
      refine WD.skip rfl rfl rfl rfl rfl rfl (fun _ h=>h) ?_
      refine WD.skip rfl rfl rfl rfl rfl rfl (fun _ h=>h) ?_
      refine WD.skip rfl rfl rfl rfl rfl rfl (fun _ h=>h) ?_
      refine Dq rfl (.g rfl rfl rfl) rfl (fun _ h=>h) (yl_pick rfl rfl rfl) ?_
      refine Dq rfl (.inl rfl) rfl (fun _ h=>h) (yl_pick rfl rfl rfl) ?_
      refine WD.nil (fun _ h=>h) ?_
      refine Et ?_
      refine Cc rfl (fun hc4=>?_) (fun hc4=>?_)
      ·
       refine Cr ?_
       refine V0 (Ym rfl) ?_
       refine V0 (Ya rfl) ?_
       refine Ln (Eb (Et (Cr ?_)))
       refine V0 (Ym rfl) ?_
       refine V0 (Yi rfl rfl rfl (by omega)) ?_
       refine V0 (Ya rfl) ?_
       refine Ln ?_
       exact Ea ((g.1+1,some g.1):Nat×Option Nat) (by show _-(g.1+1)<_; omega) ⟨(by show g.1+1≤_; omega),bestTo_first (hb0▸hbt) hr1⟩ (sc rfl (sc rfl (sc rfl (sc rfl (sc rfl sn))))) (fun _ h=>h)
      ·
       cases hc4
     ·
      rw [hr1,hbx]
      rw [hbx] at hbt
      have hxl:x<l.length:=by have:=hbt.1; omega
      obtain ⟨mx,hmxi⟩:∃m,l[x]? = some m:=⟨_,List.getElem?_eq_getElem hxl⟩
      obtain ⟨pbx,pox,hax,rx,hrowx,hrdx⟩:=hm.elt x mx hmxi
      have hnx:=nmAt_get hmxi
      refine WC.drawsK (fun _=>true) [] [(0,true),(1,true),(2,true),(3,true),(4,true),(5,true),(6,true),(7,true),(8,true),(9,true),(10,true),(11,true),(12,true),(13,true),(14,true),(15,true),(16,true),(17,true)] mixed (by kernel_rfl) (by kernel_rfl) (fun _ _ _ d _ _ h=>by cases d<;>exact h) ?_
      refine Dq rfl (.inl rfl) rfl (fun _ h=>h) (Ym rfl) ?_
      refine Dq rfl (.inl rfl) rfl (fun _ h=>h) (Ym rfl) ?_
      refine Dq rfl (.g rfl rfl rfl) rfl (fun _ h=>h) (Ym rfl) ?_
      refine Dq rfl (.g rfl rfl rfl) rfl (fun _ h=>h) (yl_ltF rfl rfl (by show (0:Int)≤((x:Nat):Int); omega)) ?_
      refine Dq rfl (.g rfl rfl rfl) rfl (fun _ h=>h) (Ym rfl) ?_
      refine Dq rfl (.g rfl rfl rfl) rfl (fun _ h=>h) (Ym rfl) ?_
      refine Dq rfl (.g rfl rfl rfl) rfl (fun _ h=>h) (Ym rfl) ?_
      refine Dq rfl (.g rfl rfl rfl) rfl (fun _ h=>h) (Yo es22 rfl rfl ham (by omega)) ?_
      refine Dq rfl (.g rfl rfl rfl) rfl (fun _ h=>h) (Yf fo39_0 rfl) ?_
      refine Dq rfl (.g rfl rfl rfl) rfl (fun _ h=>h) (yl_ld 0 na9 rfl rfl (hrowm 0 _ rfl)) ?_
      refine Dq rfl (.g rfl rfl rfl) rfl (fun _ h=>h) (Ym rfl) ?_
      refine Dq rfl (.g rfl rfl rfl) rfl (fun _ h=>h) (Ym rfl) ?_
      refine Dq rfl (.g rfl rfl rfl) rfl (fun _ h=>h) (Yo (i:=x) es22 rfl rfl hax hxl) ?_
      refine Dq rfl (.g rfl rfl rfl) rfl (fun _ h=>h) (Yf fo39_0 rfl) ?_
      refine Dq rfl (.g rfl rfl rfl) rfl (fun _ h=>h) (yl_ld 0 na9 rfl rfl (hrowx 0 _ rfl)) ?_
      refine Dq rfl (.g rfl rfl rfl) rfl (fun _ h=>h) (yl_lts rfl rfl) ?_
      refine Dq rfl (.g rfl rfl rfl) rfl (fun _ h=>h) (yl_pick rfl rfl rfl) ?_
      refine Dq rfl (.inl rfl) rfl (fun _ h=>h) (yl_pick rfl rfl rfl) ?_
      refine WD.nil (fun _ h=>h) ?_
      refine Et ?_
      refine Cc rfl (fun hc4=>?_) (fun hc4=>?_)
      ·
       have hless:ltT (nmAt l g.1) (nmAt l x)=true:=by rw [hnmi,hnx]; exact hc4
       refine Cr ?_
       refine V0 (Ym rfl) ?_
       refine V0 (Ya rfl) ?_
       refine Ln (Eb (Et (Cr ?_)))
       refine V0 (Ym rfl) ?_
       refine V0 (Yi rfl rfl rfl (by omega)) ?_
       refine V0 (Ya rfl) ?_
       refine Ln ?_
       exact Ea ((g.1+1,some g.1):Nat×Option Nat) (by show _-(g.1+1)<_; omega) ⟨(by show g.1+1≤_; omega),bestTo_less hbt hr1 hless⟩ (sc rfl (sc rfl (sc rfl (sc rfl (sc rfl sn))))) (fun _ h=>h)
      ·
       have hless:ltT (nmAt l g.1) (nmAt l x)=false:=by rw [hnmi,hnx]; exact hc4
       refine Ck (Eb (Et (Cr ?_)))
       refine V0 (Ym rfl) ?_
       refine V0 (Yi rfl rfl rfl (by omega)) ?_
       refine V0 (Ya rfl) ?_
       refine Ln ?_
       exact Ea ((g.1+1,some x):Nat×Option Nat) (by show _-(g.1+1)<_; omega) ⟨(by show g.1+1≤_; omega),bestTo_keep ho.nd hlt3 hbt hless⟩ (sc rfl (sc rfl (sc rfl (sc rfl (sc rfl sn))))) (fun _ h=>h)
   ·
    have hgi:g.1=l.length:=by simp at hc2; omega
    refine Ce (Ex (Ex (Ebh (Et (Cs ?_)))))
    refine Cs (Cr ?_)
    refine V0 (Ym rfl) ?_
    refine V0 (yl_lt rfl rfl) ?_
    refine Ln (Et ?_)
    refine Cc rfl (fun hc5=>?_) (fun hc5=>?_)
    ·
     have hb0:g.2=none:=by
       cases h:g.2 with
       | none=>rfl
       | some x=>
         rw [h] at hc5
         have h9:((x:Nat):Int)<0:=of_decide_eq_true hc5
         omega
     rw [hb0,hgi] at hbt
     have hnor:NoReady l q.out:=fun j hj=>hbt j hj
     refine Cs (Cr ?_)
     refine V0 (Ya rfl) ?_
     refine V0 (Ya rfl) ?_
     refine Ln (Et (Crt (Er (Ebr (Er ?_)))))
     refine Ebr (Er ?_)
     refine WE.ret2 rfl rfl rfl fun w' hw=>?_
     exact ⟨((none,0),[],9),rfl,hw.fr,Sl.nil,.inr ⟨he0,q.out,⟨hgr,.inr hnor⟩,by rw [sortV,if_neg (by omega)]⟩⟩
    ·
     obtain ⟨b,hbb⟩:∃b,g.2=some b:=by
       cases h:g.2 with
       | none=>rw [h] at hc5; cases hc5
       | some x=>exact ⟨x,rfl⟩
     rw [hbb,hgi] at hbt
     obtain ⟨hbl,hbr,hbm⟩:=hbt
     have hbest:Best l q.out b:=⟨hbl,hbr,hbm⟩
     rw [hbb]
     refine Ck (Et (Cs (Cr ?_)))
     refine V0 (Ym rfl) ?_
     refine V0 (Ym rfl) ?_
     refine V0 (yl_iak es41 rfl rfl (i:=b) (by omega)) ?_
     refine WL.storeT (y:=q.out.contains b) 1 b 0 true (.inl rfl) rfl rfl rfl rfl (by omega) boolC_len1 (plB_get _ hbl) sz4 rfl rfl (by decide) rfl ?_
     rw [plB_set q.out hbl]
     refine Ln (Et (Cr ?_))
     refine V0 (Ym rfl) ?_
     refine V0 (Ym rfl) ?_
     refine Lb (.inl rfl) rfl el23 rfl rfl rfl rfl fun b87=>?_
     refine Lrb 0 (.cells (ixC b).toArray 3 (0,0)) rfl (rfl) ?_
     refine LA (b) 1 0 (.inl rfl) rfl el23 rfl rfl rfl rfl rfl rfl (by omega) (by omega) fun a88 c88=>?_
     refine V0 (Ya rfl) ?_
     refine Ln (Eb ?_)
     exact Ea (⟨q.out++[b],(a88,c88)⟩:GQ) (by show _-(q.out++[b]).length<_; simp; omega) (.snoc hgr hbest) (sc rfl (sc rfl (sc rfl sn))) (fun _ h=>Ws.drop (L:=[_]) h)
  ·
   have hle:q.out.length=l.length:=by
     have h1:=nodup_le (greedy_lt hgr).2 (greedy_lt hgr).1
     simp at hc1
     omega
   refine Ce (Ex (Ex (Ebh (Et (Cs ?_)))))
   refine Cr ?_
   refine V0 (Ym rfl) ?_
   refine V0 (Ya rfl) ?_
   refine V0 (Ya rfl) ?_
   refine Ln (Et (Crt ?_))
   refine WE.ret2 rfl rfl rfl fun w' hw=>?_
   exact ⟨(q.s,q.out,0),rfl,hw.fr,hw.slT 0 rfl ixC_len (fun _ _ _ _ h=>h),.inr ⟨he0,q.out,⟨hgr,.inl hle⟩,by rw [sortV,if_pos hle]⟩⟩
end Go.Proofs.Ytinnlppbkhhoiaa
end
section
namespace Go.Proofs.Ytinnlppbkhhoiaa
open Go.Bw
set_option linter.unusedVariables false
set_option linter.unusedSimpArgs false
theorem gt_lt {a b:Tx} (h:(!(Op.bytesLess a b||a==b))=true):ltR b a:=by
 have h2:¬ltT a b=true∧¬a=b:=by simpa [ltT] using h
 rcases ltT_tri a b h2.2 with h3 | h3
 · exact absurd h3 h2.1
 · exact h3
theorem ngt_le {a b:Tx} (h:(!(Op.bytesLess a b||a==b))=false) (hne:¬a=b):ltR a b:=by
 have h2:Op.bytesLess a b=false→a=b:=by simpa using h
 cases hx:ltT a b with
 | true=>exact hx
 | false=>exact absurd (h2 hx) hne
theorem mk_get {l:List TMod} {S:List Bool} (h:S.length=l.length) {j:Nat} (hj:j<l.length):∃y,S[j]? = some y:=⟨_,List.getElem?_eq_getElem (by omega)⟩
theorem mk_start (l:List TMod) (nm:Tx):RoundsM l nm (plB l.length []) 0:=⟨⟨plB_len _ _,fun j hj=>by
 have hlt:j<l.length:=by have:=(List.getElem?_eq_some_iff.1 hj).1; rw [plB_len] at this; exact this
 rw [plB_get [] hlt] at hj
 cases hj⟩,.inr (Nat.zero_le _)⟩
theorem sz9:sizeP Try.prog 9=some 1:=by kernel_rfl
theorem needsOf_any (H:View) (ke ks:Nat) (a:Option Addr) (c:Nat) (l:List TMod) (nm:Tx) (w:World) (hH:Le H w) (hm:Sl (rdMod ke ks) 5 H a c l) (hb:∀m ∈ l,wM m≤109951162777) :
   Calls Try.prog 9 #[.slice a l.length c,st nm] w fun e w'=>∃r:SP×List Tx×Int,e = .returned (.tuple #[.slice r.1.1 r.2.1.length r.1.2,.int .i64 r.2.2])∧Ext w w'∧Sl rdStr 1 (nv w w') r.1.1 r.1.2 r.2.1∧NeedR l nm r.2:=by
 have hcap:=hm.cap
 have hmax:=hm.max
 refine enter Try.func9 rfl 133 rfl rfl ?_
 refine CWd (W':=Ws w [] [] [H]) (fun _ e=>by subst e; exact Ws.init (by simp [hH])) ?_
 refine Cs (Cr ?_)
 refine V0 (Ya rfl) ?_
 refine V0 (Ya rfl) ?_
 refine Ln (Et (Cs (Cs (Cr ?_))))
 refine V0 (Ym rfl) ?_
 refine Lp (.inl rfl) rfl en24 rfl (fun w hw=>orderError_any H ke ks a c l w (hw.vs _ (by simp)) hm hb) ?_
 refine V0 (Ya rfl) ?_
 refine Ln (Et (Cs (Cr ?_)))
 refine V0 (Ym rfl) ?_
 refine V0 (yl_ne rfl rfl) ?_
 refine Ln (Et ?_)
 refine Cc rfl (fun hc0=>?_) (fun hc0=>?_)
 ·
  have hne:¬orderE l=0:=by simpa using hc0
  refine Cs (Cr ?_)
  refine V0 (Ym rfl) ?_
  refine V0 (Ya rfl) ?_
  refine V0 (Ya rfl) ?_
  refine Ln (Et (Crt (Er ?_)))
  refine WE.ret2 rfl rfl rfl fun w' hw=>?_
  exact ⟨((none,0),[],orderE l),rfl,hw.fr,Sl.nil,.inl ⟨hne,rfl⟩⟩
 ·
  have he0:orderE l=0:=by simpa using hc0
  have ho:=orderE_zero.1 he0
  have hfew:=ho.few
  refine Ck (Et (Cs (Cs (Cr ?_))))
  refine V0 (Ym rfl) ?_
  refine V0 (Ym rfl) ?_
  refine Lp (.inl rfl) rfl en25 rfl (fun w hw=>moduleNamed_any H ke ks a c l nm w (hw.vs _ (by simp)) hm) ?_
  refine V0 (yl_lt rfl rfl) ?_
  rw [plI_neg]
  refine Ln (Et ?_)
  refine Cc rfl (fun hc1=>?_) (fun hc1=>?_)
  ·
   have hnone:placeL l nm=none:=by simpa using hc1
   refine Cs (Cr ?_)
   refine V0 (Ya rfl) ?_
   refine V0 (Ya rfl) ?_
   refine Ln (Et (Crt (Er ?_)))
   refine WE.ret2 rfl rfl rfl fun w' hw=>?_
   exact ⟨((none,0),[],5),rfl,hw.fr,Sl.nil,.inr (.inl ⟨he0,hnone,rfl⟩)⟩
  ·
   have hsome:¬placeL l nm=none:=fun h=>by rw [h] at hc1; cases hc1
   refine Ck (Et (Cs (Cr ?_)))
   refine V0 (Ym rfl) ?_
   refine V0 (Yn es22 rfl) ?_
   refine WL.make (.inl rfl) rfl el41 rfl rfl (by omega) (by omega) (by omega) (by omega) fun b27=>?_
   refine toBools 0 rfl (by unfold maxLen; omega) ?_
   have hst0:=mk_start l nm
   refine V0 (Ya rfl) ?_
   refine Ln (Et (Cs (Cs (Cr ?_))))
   refine V0 (Ya rfl) ?_
   refine Ln (Et (Cb ?_))
   refine CK (ι:=Nat×List Bool) (fun g=>[(8,.int .i64 (g.1:Int))]) [(0,_),(1,_),(4,_),(5,_),(7,_)] (fun g=>Ws w [] [osT 4 1 boolC (some ⟨b27,0,none⟩) l.length g.2] [H]) (fun g=>g.1≤l.length+1∧RoundsM l nm g.2 g.1) (fun g=>l.length+1-g.1) (0,plB l.length []) ⟨Nat.zero_le _,hst0⟩ (sc rfl (sc rfl (sc rfl (sc rfl (sc rfl (sc rfl sn)))))) (fun _ h=>h) ?_
   intro g ⟨hgi,hrs⟩
   refine Cs (Cs (Cr ?_))
   refine V0 (Ym rfl) ?_
   refine V0 (Ym rfl) ?_
   refine V0 (Yn es22 rfl) ?_
   refine V0 (yl_le rfl rfl) ?_
   refine Ln (Et ?_)
   refine Cc rfl (fun hc2=>?_) (fun hc2=>?_)
   ·
    have hle2:g.1≤l.length:=by simp at hc2; omega
    refine Ck (Et (Cs (Cb (Cs (Cr ?_)))))
    refine V0 (Ya rfl) ?_
    refine Ln (Et (Cb ?_))
    refine CK (ι:=Nat×List Bool) (fun rr=>[(9,.int .i64 (rr.1:Int))]) [(0,_),(1,_),(4,_),(5,_),(7,_),(8,_)] (fun rr=>Ws w [] [osT 4 1 boolC (some ⟨b27,0,none⟩) l.length rr.2] [H]) (fun rr=>rr.1≤l.length∧RoundM l nm g.2 rr.2 rr.1) (fun rr=>l.length-rr.1) (0,g.2) ⟨Nat.zero_le _,round_start hrs.1⟩ (sc rfl (sc rfl (sc rfl (sc rfl (sc rfl (sc rfl (sc rfl sn))))))) (fun _ h=>h) ?_
    intro rr ⟨hqi0,hrd⟩
    refine Cs (Cs (Cr ?_))
    refine V0 (Ym rfl) ?_
    refine V0 (Ym rfl) ?_
    refine V0 (Yn es22 rfl) ?_
    refine V0 (yl_lt rfl rfl) ?_
    refine Ln (Et ?_)
    refine Cc rfl (fun hc3=>?_) (fun hc3=>?_)
    ·
     have hlt3:rr.1<l.length:=by simpa using hc3
     have hlt:rr.1<l.length:=by simpa using hc3
     obtain ⟨m,hmi⟩:∃q,l[rr.1]? = some q:=⟨_,List.getElem?_eq_getElem hlt⟩
     obtain ⟨pbm,pom,ham,hrm⟩:=hm.elt rr.1 m hmi
     obtain ⟨rm,hrowm,hrdm⟩:=hrm
     have hmemm:=List.mem_of_getElem? hmi
     have hbwm:=hb m hmemm
     have hus:=usesAt_get hmi
     have hnmi:=nmAt_get hmi
     have hku:=hrdm.uses.cap
     have hkm:=hrdm.uses.max
     refine Ck (Et (Cs (Cb (Cs (Cr ?_)))))
     refine V0 (Ya rfl) ?_
     refine Ln (Et (Cb ?_))
     refine CK (ι:=Nat×List Bool) (fun r=>[(10,.int .i64 (r.1:Int))]) [(0,_),(1,_),(4,_),(5,_),(7,_),(8,_),(9,_)] (fun r=>Ws w [] [osT 4 1 boolC (some ⟨b27,0,none⟩) l.length r.2] [H]) (fun r=>RoundM l nm g.2 r.2 rr.1∧r.1≤m.uses.length∧∀s ∈ m.uses.take r.1,metM l r.2 s) (fun r=>m.uses.length-r.1) (0,rr.2) ⟨hrd,Nat.zero_le _,by simp⟩ (sc rfl (sc rfl (sc rfl (sc rfl (sc rfl (sc rfl (sc rfl (sc rfl sn)))))))) (fun _ h=>h) ?_
     intro r ⟨hrk,hrl,hall⟩
     refine Cs (Cs ?_)
     obtain ⟨y,hy⟩:=mk_get hrk.ok.len hlt3
     refine Cr ?_
     refine V0 (Ym rfl) ?_
     refine V0 (Ym rfl) ?_
     refine V0 (Ym rfl) ?_
     refine V0 (Yo es22 rfl rfl ham (by omega)) ?_
     refine V0 (Yf fo39_1 rfl) ?_
     refine V0 (yl_ld 0 na27 rfl rfl (hrowm 1 _ rfl)) ?_
     refine V0 (Yn es27 rfl) ?_
     refine V0 (yl_lt rfl rfl) ?_
     refine V0 (Ym rfl) ?_
     apply WL.and 13 (x:=(y||m.nm==nm)) rfl rfl rfl rfl (.inl rfl) rfl rfl rfl rfl rfl
     ·
      intro hg0
      refine Lv (.g rfl rfl rfl) rfl (Ym rfl) ?_
      refine Lv (.g rfl rfl rfl) rfl (Ym rfl) ?_
      refine Lv (.g rfl rfl rfl) rfl (yl_iak es41 rfl rfl (by omega)) ?_
      refine Lv (.g rfl rfl rfl) rfl (yl_ldT (y:=y) 0 rr.1 0 rfl rfl rfl (by omega) boolC_len1 hy rfl na4) ?_
      refine Lv (.g rfl rfl rfl) rfl (Ym rfl) ?_
      apply WL.or 7 (x:=(m.nm==nm)) rfl rfl rfl rfl (.g rfl rfl rfl) rfl rfl rfl rfl rfl
      ·
       intro hg1
       refine Lv (.g rfl rfl rfl) rfl (Ym rfl) ?_
       refine Lv (.g rfl rfl rfl) rfl (Ym rfl) ?_
       refine Lv (.g rfl rfl rfl) rfl (Yo es22 rfl rfl ham (by omega)) ?_
       refine Lv (.g rfl rfl rfl) rfl (Yf fo39_0 rfl) ?_
       refine Lv (.g rfl rfl rfl) rfl (yl_ld 0 na9 rfl rfl (hrowm 0 _ rfl)) ?_
       refine Lv (.g rfl rfl rfl) rfl (Ym rfl) ?_
       refine Lv (.g rfl rfl rfl) rfl (yl_eqs rfl rfl) ?_
       exact Gt 7 rfl rfl rfl
      exact Gt 6 rfl rfl rfl
     refine Ln (Et ?_)
     refine Cc rfl (fun hc4=>?_) (fun hc4=>?_)
     ·
      have hand:(r.1<m.uses.length)∧(y=true∨m.nm=nm):=by simpa using hc4
      have hc44:decide ((r.1:Int)<(m.uses.length:Int))=true:=by simpa using hand.1
      have hlt:r.1<m.uses.length:=by simpa using hc44
      obtain ⟨s,hsi⟩:∃q,m.uses[r.1]? = some q:=⟨_,List.getElem?_eq_getElem hlt⟩
      obtain ⟨pbs,pos,has,hrs⟩:=hrdm.uses.elt r.1 s hsi
      have hrs2:RdC H pbs (pos+r.1*1) (strC s):=hrs
      obtain ⟨j,hj⟩:=ho.uses m hmemm s (List.mem_of_getElem? hsi)
      have hjl:=(placeL_at hj).1
      have hact:actM l nm r.2 rr.1:=by
        rcases hand.2 with h | h
        · subst h; exact .inl hy
        · exact .inr (by rw [hnmi]; exact h)
      obtain ⟨z,hz⟩:=mk_get hrk.ok.len hjl
      have hmark:=hrk.mark hlt3 hact (by rw [hus]; exact List.mem_of_getElem? hsi) hj ho.nd
      have hnx:∀u ∈ m.uses.take (r.1+1),metM l (r.2.set j true) u:=mem_take_snoc hsi (fun u hu=>(hall u hu).sub (SubM.set _ _)) hmark.2
      refine Ck (Et (Cs (Cb (Cr ?_))))
      refine V0 (Ym rfl) ?_
      refine V0 (Ym rfl) ?_
      refine V0 (Ym rfl) ?_
      refine V0 (Ym rfl) ?_
      refine V0 (Yo es22 rfl rfl ham (by omega)) ?_
      refine V0 (Yf fo39_1 rfl) ?_
      refine V0 (yl_ld 0 na27 rfl rfl (hrowm 1 _ rfl)) ?_
      refine V0 (Ym rfl) ?_
      refine V0 (Yo es27 rfl rfl has (by omega)) ?_
      refine V0 (yl_ld 0 na9 rfl rfl (hrs2 0 _ rfl)) ?_
      refine Lp (.inl rfl) rfl en25 rfl (fun w hw=>moduleNamed_any H ke ks a c l s w (hw.vs _ (by simp)) hm) ?_
      rw [plI_some hj]
      refine V0 (yl_iak es41 rfl rfl (by omega)) ?_
      refine WL.storeT (y:=z) 0 j 0 true (.inl rfl) rfl rfl rfl rfl (by omega) boolC_len1 hz sz4 rfl rfl (by decide) rfl ?_
      refine Ln (Eb (Et (Cr ?_)))
      refine V0 (Ym rfl) ?_
      refine V0 (Yi rfl rfl rfl (by omega)) ?_
      refine V0 (Ya rfl) ?_
      refine Ln ?_
      exact Ea ((r.1+1,r.2.set j true):Nat×List Bool) (by show _-(r.1+1)<_; omega) ⟨hmark.1,(by show r.1+1≤_; omega),hnx⟩ (sc rfl (sc rfl (sc rfl (sc rfl (sc rfl (sc rfl (sc rfl (sc rfl sn)))))))) (fun _ h=>h)
     ·
      have hor:¬(r.1<m.uses.length∧(y=true∨m.nm=nm)):=fun h=>by simp [h.1] at hc4; rcases h.2 with h2 | h2<;>simp [h2] at hc4
      have hnext:=hrk.next fun ha=>by
        intro s hs
        rw [hus] at hs
        by_cases hk:r.1<m.uses.length
        · refine absurd ⟨hk,?_⟩ hor
          rcases ha with h | h
          · have:=hrk.sub _ h; rw [hy] at this; injection this with this; exact .inl this
          · exact .inr (by rw [←hnmi]; exact h)
        · rw [List.take_of_length_le (by omega)] at hall
          exact hall s hs
      refine Ce (Ex (Ex (Ebh (Eb (Et ?_)))))
      refine Cr ?_
      refine V0 (Ym rfl) ?_
      refine V0 (Yi rfl rfl rfl (by omega)) ?_
      refine V0 (Ya rfl) ?_
      refine Ln ?_
      exact Ea ((rr.1+1,r.2):Nat×List Bool) (by show _-(rr.1+1)<_; omega) ⟨(by show rr.1+1≤_; omega),hnext⟩ (sc rfl (sc rfl (sc rfl (sc rfl (sc rfl (sc rfl (sc rfl sn))))))) (fun _ h=>h)
    ·
     have hqi:rr.1=l.length:=by simp at hc3; omega
     rw [hqi] at hrd
     refine Ce (Ex (Ex (Ebh (Eb (Et ?_)))))
     refine Cr ?_
     refine V0 (Ym rfl) ?_
     refine V0 (Yi rfl rfl rfl (by omega)) ?_
     refine V0 (Ya rfl) ?_
     refine Ln ?_
     exact Ea ((g.1+1,rr.2):Nat×List Bool) (by show _-(g.1+1)<_; omega) ⟨(by show g.1+1≤_; omega),rounds_step hrs hrd⟩ (sc rfl (sc rfl (sc rfl (sc rfl (sc rfl (sc rfl sn)))))) (fun _ h=>h)
   ·
    have hge2:g.1=l.length+1:=by simp at hc2; omega
    rw [hge2] at hrs
    have hcl:=rounds_end hrs
    have hmk:=hrs.1
    have hmkl:=hmk.len
    refine Ce (Ex (Ex (Ebh (Et (Cs ?_)))))
    refine Cr ?_
    refine V0 (Ya rfl) ?_
    refine LW (fun _ h=>h.osl_nil 9 1) ?_
    refine Ln (Et (Cs (Cs (Cr ?_))))
    refine V0 (Ya rfl) ?_
    refine Ln (Et (Cb ?_))
    refine CK (ι:=Nat×SP×List Tx) (fun p=>[(12,.int .i64 (p.1:Int)),(11,.slice p.2.1.1 p.2.2.length p.2.1.2)]) [(0,_),(4,_),(5,_),(7,_)] (fun p=>Ws w [] [osT 9 1 strC p.2.1.1 p.2.1.2 p.2.2,osT 4 1 boolC (some ⟨b27,0,none⟩) l.length g.2] [H]) (fun p=>p.1≤l.length∧NamesM l g.2 p.1 p.2.2) (fun p=>l.length-p.1) (0,(none,0),[]) ⟨Nat.zero_le _,names_nil l g.2⟩ (sc rfl (sc rfl (sc rfl (sc rfl (sc rfl (sc rfl sn)))))) (fun _ h=>h) ?_
    intro p ⟨hpi0,hnm⟩
    refine Cs (Cs (Cr ?_))
    refine V0 (Ym rfl) ?_
    refine V0 (Ym rfl) ?_
    refine V0 (Yn es22 rfl) ?_
    refine V0 (yl_lt rfl rfl) ?_
    refine Ln (Et ?_)
    refine Cc rfl (fun hc5=>?_) (fun hc5=>?_)
    ·
     have hlt:p.1<l.length:=by simpa using hc5
     obtain ⟨n,hni⟩:∃q,l[p.1]? = some q:=⟨_,List.getElem?_eq_getElem hlt⟩
     obtain ⟨pbn,pon,han,hrn⟩:=hm.elt p.1 n hni
     obtain ⟨rn,hrown,hrdn⟩:=hrn
     have hmemn:=List.mem_of_getElem? hni
     have hbwn:=hb n hmemn
     have hlt5:p.1<l.length:=hlt
     have hnn:=nmAt_get hni
     have hpl:=hnm.perm.length_eq
     have hpl2:=mkNames_len l g.2 p.1
     refine Ck (Et (Cs (Cb (Cs ?_))))
     obtain ⟨y3,hy3⟩:=mk_get hmkl hlt5
     refine Cr ?_
     refine V0 (Ym rfl) ?_
     refine V0 (Ym rfl) ?_
     refine V0 (yl_iak es41 rfl rfl (by omega)) ?_
     refine V0 (yl_ldT (y:=y3) 1 p.1 0 rfl rfl rfl (by omega) boolC_len1 hy3 rfl na4) ?_
     refine Ln (Et ?_)
     refine Cc rfl (fun hc6=>?_) (fun hc6=>?_)
     ·
      have hy4:y3=true:=hc6
      subst hy4
      have hal:(p.2.2++[n.nm]).length=p.2.2.length+1:=by simp
      refine Cs (Cr ?_)
      refine V0 (Ym rfl) ?_
      refine V0 (Ym rfl) ?_
      refine V0 (Ym rfl) ?_
      refine V0 (Yo es22 rfl rfl han (by omega)) ?_
      refine V0 (Yf fo39_0 rfl) ?_
      refine V0 (yl_ld 0 na9 rfl rfl (hrown 0 _ rfl)) ?_
      refine Lb (.inl rfl) rfl el27 rfl rfl rfl rfl fun b93=>?_
      refine Lrb 0 (.cells (strC n.nm).toArray 9 (0,0)) rfl (rfl) ?_
      refine LA ((n.nm:Tx)) 1 0 (.inl rfl) rfl el27 rfl rfl rfl rfl rfl rfl (by omega) (by omega) fun a94 c94=>?_
      refine V0 (Ya rfl) ?_
      refine Ln (Et (Cs (Cr ?_)))
      refine V0 (Ym rfl) ?_
      refine V0 (Yn es27 rfl) ?_
      refine V0 (yl_subv ((p.2.2.length:Nat):Int) rfl rfl (by omega) (by omega)) ?_
      refine V0 (Ya rfl) ?_
      refine Ln (Et (Cb ?_))
      refine CK (ι:=Nat×List Tx) (fun v=>[(13,.int .i64 (v.1:Int))]) [(0,_),(4,_),(5,_),(7,_),(11,_),(12,_)] (fun v=>Ws w [] [osT 9 1 strC a94 c94 v.2,osT 4 1 boolC (some ⟨b27,0,none⟩) l.length g.2] [H]) (fun v=>InsInv ltR (p.2.2++[n.nm]) v.2 p.2.2.length v.1) (fun v=>v.1) (p.2.2.length,p.2.2++[n.nm]) (hnn▸names_start hnm hy3) (sc rfl (sc rfl (sc rfl (sc rfl (sc rfl (sc rfl (sc rfl sn))))))) (fun _ h=>by have h:=h.fronti 2 rfl; have h:=h.fronti 2 rfl; have h:=Ws.keep (L:=[_,_]) h; exact h) ?_
      intro v hv
      refine Cs (Cs ?_)
      have hvl:v.2.length=p.2.2.length+1:=by rw [hv.perm.length_eq]; exact hal
      have hvj:=hv.ji
      have hvn:v.2.Nodup:=hv.perm.nodup_iff.2 (by
        have h9:=mkNames_nodup ho.nd (S:=g.2) (i:=p.1+1) (by omega)
        rw [mkNames_take hy3,hnn] at h9
        exact (List.Perm.append_right _ hnm.perm).nodup_iff.2 h9)
      obtain ⟨A9,hA9⟩:∃x,v.2[v.1]? = some x:=⟨_,List.getElem?_eq_getElem (by omega)⟩
      obtain ⟨B9,hB9⟩:∃x,v.2[v.1-1]? = some x:=⟨_,List.getElem?_eq_getElem (by omega)⟩
      refine WC.shapeT 0 rfl (by omega) fun xb hxb hxc hxm=>?_
      refine WC.draws0 [(0,true),(1,true),(2,true),(3,true),(4,true),(5,true),(6,true),(7,true),(8,true),(9,true),(10,true),(11,true),(12,true),(13,true)] mixed (by kernel_rfl) (fun _ _ _ d _ h=>by cases d<;>exact h) ?_
      refine Dq rfl (.inl rfl) rfl (fun _ h=>h) (Ym rfl) ?_
      refine Dq rfl (.inl rfl) rfl (fun _ h=>h) (yl_gt rfl rfl) ?_
      refine Dq rfl (.inl rfl) rfl (fun _ h=>h) (Ym rfl) ?_
      apply WD.and 10 (x:=(!(Op.bytesLess B9 A9||B9==A9))) rfl rfl rfl rfl rfl (.inl rfl) rfl (fun _ h=>h) rfl rfl rfl rfl
      ·
       intro hg2
       have hg:0<v.1:=by simpa using hg2
       refine Dq rfl (.g rfl rfl rfl) rfl (fun _ h=>h) (Ym rfl) ?_
       refine Dq rfl (.g rfl rfl rfl) rfl (fun _ h=>h) (Ym rfl) ?_
       refine Dq rfl (.g rfl rfl rfl) rfl (fun _ h=>h) (yl_subv ((v.1-1:Nat):Int) rfl rfl (by omega) (by omega)) ?_
       refine Dq rfl (.g rfl rfl rfl) rfl (fun _ h=>h) (Yo es27 rfl rfl hxb (by omega)) ?_
       refine Dq rfl (.g rfl rfl rfl) rfl (fun _ h=>h) (yl_ldT (y:=B9) 0 (v.1-1) 0 rfl rfl hxb rfl strC_len hB9 rfl na9) ?_
       refine Dq rfl (.g rfl rfl rfl) rfl (fun _ h=>h) (Ym rfl) ?_
       refine Dq rfl (.g rfl rfl rfl) rfl (fun _ h=>h) (Ym rfl) ?_
       refine Dq rfl (.g rfl rfl rfl) rfl (fun _ h=>h) (Yo es27 rfl rfl hxb (by omega)) ?_
       refine Dq rfl (.g rfl rfl rfl) rfl (fun _ h=>h) (yl_ldT (y:=A9) 0 v.1 0 rfl rfl hxb rfl strC_len hA9 rfl na9) ?_
       refine Dq rfl (.g rfl rfl rfl) rfl (fun _ h=>h) (yl_gts rfl rfl) ?_
       exact Gi 10 (fun _ h=>h) rfl rfl rfl
      refine WD.nil (fun _ h=>h) ?_
      refine Et ?_
      refine Cc rfl (fun hc7=>?_) (fun hc7=>?_)
      ·
       obtain ⟨hg,hgt⟩:0<v.1∧(!(Op.bytesLess B9 A9||B9==A9))=true:=by
         have h9:=Bool.and_eq_true_iff.1 hc7
         exact ⟨by simpa using h9.1,h9.2⟩
       have hlt7:=gt_lt hgt
       have hsp:v.1-1+1=v.1:=by omega
       have hA8:(v.2.set (v.1-1) A9)[v.1]? = some A9:=by rw [List.getElem?_set_ne (by omega)]; exact hA9
       have hqs:InsInv ltR (p.2.2++[n.nm]) ((v.2.set (v.1-1) A9).set v.1 B9) p.2.2.length (v.1-1):=by
         have h:=ins_swap (R:=ltR) (d0:=p.2.2++[n.nm]) (i:=p.2.2.length) (j:=v.1-1) (a:=A9) (b:=B9) (by rw [hsp]; exact hv) (by rw [hsp]; exact hA9) hB9 hlt7
         rw [hsp,List.set_comm _ _ (by omega)] at h
         exact h
       refine Ck (Et (Cs (Cb (Cs ?_))))
       refine WC.draws0 [(0,true),(1,true),(2,true),(3,true),(4,true),(5,true),(6,true),(7,true),(8,true),(9,true),(10,true)] mixed (by kernel_rfl) (fun _ _ _ d _ h=>by cases d<;>exact h) ?_
       refine Dq rfl (.inl rfl) rfl (fun _ h=>h) (Ym rfl) ?_
       refine Dq rfl (.inl rfl) rfl (fun _ h=>h) (Ym rfl) ?_
       refine Dq rfl (.inl rfl) rfl (fun _ h=>h) (yl_subv ((v.1-1:Nat):Int) rfl rfl (by omega) (by omega)) ?_
       refine Dq rfl (.inl rfl) rfl (fun _ h=>h) (Yo es27 rfl rfl hxb (by omega)) ?_
       refine Dq rfl (.inl rfl) rfl (fun _ h=>h) (yl_ldT (y:=B9) 0 (v.1-1) 0 rfl rfl hxb rfl strC_len hB9 rfl na9) ?_
       refine Dq rfl (.inl rfl) rfl (fun _ h=>h) (Ym rfl) ?_
       refine Dq rfl (.inl rfl) rfl (fun _ h=>h) (Ym rfl) ?_
       refine Dq rfl (.inl rfl) rfl (fun _ h=>h) (Yo es27 rfl rfl hxb (by omega)) ?_
       refine Dq rfl (.inl rfl) rfl (fun _ h=>h) (yl_ldT (y:=A9) 0 v.1 0 rfl rfl hxb rfl strC_len hA9 rfl na9) ?_
       refine Dq rfl (.inl rfl) rfl (fun _ h=>h) (Ya rfl) ?_
       refine Dq rfl (.inl rfl) rfl (fun _ h=>h) (Ya rfl) ?_
       refine WD.nil (fun _ h=>h) ?_
       refine Et (Cs (Cr ?_))
       refine V0 (Ym rfl) ?_
       refine V0 (Ym rfl) ?_
       refine V0 (yl_subv ((v.1-1:Nat):Int) rfl rfl (by omega) (by omega)) ?_
       refine V0 (Ym rfl) ?_
       refine V0 (Yo es27 rfl rfl hxb (by omega)) ?_
       refine WL.storeT (y:=B9) 0 (v.1-1) 0 A9 (.inl rfl) rfl rfl rfl hxb rfl strC_len hB9 sz9 rfl rfl (by decide) rfl ?_
       refine Ln (Et (Cr ?_))
       refine V0 (Ym rfl) ?_
       refine V0 (Ym rfl) ?_
       refine V0 (Ym rfl) ?_
       refine V0 (Yo es27 rfl rfl hxb (by omega)) ?_
       refine WL.storeT (y:=A9) 0 v.1 0 B9 (.inl rfl) rfl rfl rfl hxb rfl strC_len hA8 sz9 rfl rfl (by decide) rfl ?_
       refine Ln (Eb (Et (Cr ?_)))
       refine V0 (Ym rfl) ?_
       refine V0 (yl_subv ((v.1-1:Nat):Int) rfl rfl (by omega) (by omega)) ?_
       refine V0 (Ya rfl) ?_
       refine Ln ?_
       exact Ea ((v.1-1,(v.2.set (v.1-1) A9).set v.1 B9):Nat×List Tx) (by show v.1-1<_; omega) hqs (sc rfl (sc rfl (sc rfl (sc rfl (sc rfl (sc rfl (sc rfl sn))))))) (fun _ h=>h)
      ·
       have hsn:SortedUp ltR v.2 (p.2.2.length+1):=by
         by_cases hz:v.1=0
         · rw [hz] at hv; exact ins_end0 hv
         · have hng:(!(Op.bytesLess B9 A9||B9==A9))=false:=by
             rcases Bool.and_eq_false_iff.1 hc7 with h | h
             · simp at h; omega
             · exact h
           have hne9:¬B9=A9:=fun e=>by
             subst e
             have:=(List.getElem?_inj (by omega) hvn).1 (hB9.trans hA9.symm)
             omega
           have hsp:v.1-1+1=v.1:=by omega
           exact ins_end (R:=ltR) (d0:=p.2.2++[n.nm]) (i:=p.2.2.length) (fun a b c h1 h2=>ltT_trans _ _ _ h1 h2) (j:=v.1-1) (a:=A9) (b:=B9) (by rw [hsp]; exact hv) (by rw [hsp]; exact hA9) hB9 (ngt_le hng hne9)
       have hnx3:=names_next hnm hy3 (by rw [hnn]; exact hv.perm) hsn
       rw [show (p.2.2++[n.nm]).length=v.2.length from hv.perm.length_eq.symm]
       refine Ce (Ex (Ex (Ebh (Eb (Et ?_)))))
       refine Cr ?_
       refine V0 (Ym rfl) ?_
       refine V0 (Yi rfl rfl rfl (by omega)) ?_
       refine V0 (Ya rfl) ?_
       refine Ln ?_
       exact Ea ((p.1+1,(a94,c94),v.2):Nat×SP×List Tx) (by show _-(p.1+1)<_; omega) ⟨(by show p.1+1≤_; omega),hnx3⟩ (sc rfl (sc rfl (sc rfl (sc rfl (sc rfl (sc rfl sn)))))) (fun _ h=>h)
     ·
      have hy4:y3=false:=hc6
      subst hy4
      refine Ck (Eb (Et (Cr ?_)))
      refine V0 (Ym rfl) ?_
      refine V0 (Yi rfl rfl rfl (by omega)) ?_
      refine V0 (Ya rfl) ?_
      refine Ln ?_
      exact Ea ((p.1+1,p.2):Nat×SP×List Tx) (by show _-(p.1+1)<_; omega) ⟨(by show p.1+1≤_; omega),names_skip hnm hy3⟩ (sc rfl (sc rfl (sc rfl (sc rfl (sc rfl (sc rfl sn)))))) (fun _ h=>h)
    ·
     have hpi:p.1=l.length:=by simp at hc5; omega
     rw [hpi] at hnm
     refine Ce (Ex (Ex (Ebh (Et (Cs ?_)))))
     refine Cr ?_
     refine V0 (Ym rfl) ?_
     refine V0 (Ya rfl) ?_
     refine V0 (Ya rfl) ?_
     refine Ln (Et (Crt ?_))
     refine WE.ret2 rfl rfl rfl fun w' hw=>?_
     exact ⟨(p.2.1,p.2.2,0),rfl,hw.fr,hw.slT 0 rfl strC_len (fun _ _ _ _ h=>h),.inr (.inr ⟨he0,hsome,_,rfl,hnm.sorted,fun s=>(hnm.perm.mem_iff).trans ((mem_mkNames ho.nd hmkl s).trans (marks_reach ho.nd hmk hcl s))⟩)⟩
end Go.Proofs.Ytinnlppbkhhoiaa
end
section
namespace Go.Proofs.Ytinnlppbkhhoiaa
open Go.Bw
set_option linter.unusedVariables false
set_option linter.unusedSimpArgs false
abbrev UX:=Tx×List Tx×SP
def UX.mod (x:UX):TMod:=⟨x.1,x.2.1,[],[],[]⟩
def UX.cells (x:UX):List Value:=[st x.1,.slice x.2.2.1 x.2.1.length x.2.2.2,.slice none 0 0,.slice none 0 0,.slice none 0 0]
theorem UX.cells_len (x:UX):x.cells.length=5:=rfl
def rdUX (H:View) (b o:Nat) (x:UX):Prop:=RdC H b o x.cells
def UXs (H:View) (l:List UX):Prop:=∀x ∈ l,Sl rdStr 1 H x.2.2.1 x.2.2.2 x.2.1
theorem UXs.nil {H:View}:UXs H []:=fun x h=>by simp at h
theorem UXs.cons {H:View} {n:Tx} {u:List Tx} {a:Option Addr} {c:Nat} {r:List UX} (h:Sl rdStr 1 H a c u) (t:UXs H r):UXs H ((n,u,(a,c))::r):=fun x hx=>by
 rcases List.mem_cons.1 hx with e | hx
 · subst e; exact h
 · exact t x hx
theorem slM_of {K H:View} {a:Option Addr} {c:Nat} {l:List UX} (h:Sl rdUX 5 K a c l) (hv:VLe K H) (hu:UXs H l):Sl (rdMod 7 6) 5 H a c (l.map UX.mod):=by
 refine ⟨by rw [List.length_map]; exact h.cap,h.max,h.spot,fun i x hx=>?_⟩
 rw [List.getElem?_map] at hx
 obtain ⟨y,hy,rfl⟩:=Option.map_eq_some_iff.1 hx
 obtain ⟨b,o,ha,hr⟩:=h.elt i y hy
 exact ⟨b,o,ha,⟨y.2.2.1,y.2.2.2,none,0,none,0,none,0⟩,RdC.mono hv hr,hu y (List.mem_of_getElem? hy),Sl.nil,Sl.nil,Sl.nil⟩
def threeL:List TMod:=[⟨[99],[[98],[97]],[],[],[]⟩,⟨[98],[[97]],[],[],[]⟩,⟨[97],[],[],[],[]⟩]
def twoL:List TMod:=[⟨[97],[[98]],[],[],[]⟩,⟨[98],[[97]],[],[],[]⟩]
theorem three_E:orderE threeL=0:=by decide +kernel
theorem two_E:orderE twoL=0:=by decide +kernel
theorem three_w:∀m ∈ threeL,wM m≤109951162777:=by decide +kernel
theorem two_w:∀m ∈ twoL,wM m≤109951162777:=by decide +kernel
theorem three_sort:SortR threeL ([2,1,0],0):=by
 refine .inr ⟨three_E,[2,1,0],⟨?_,.inl rfl⟩,rfl⟩
 have h1:Greedy threeL ([]++[2]):=.snoc .nil ⟨by decide,by decide +kernel,by decide +kernel⟩
 have h2:Greedy threeL ([2]++[1]):=.snoc h1 ⟨by decide,by decide +kernel,by decide +kernel⟩
 have h3:Greedy threeL ([2,1]++[0]):=.snoc h2 ⟨by decide,by decide +kernel,by decide +kernel⟩
 exact h3
theorem two_sort:SortR twoL ([],9):=.inr ⟨two_E,[],⟨.nil,.inr (by show ∀i,i<twoL.length→readyB twoL [] i=false; decide +kernel)⟩,rfl⟩
theorem three_need:NeedR threeL [99] ([[97],[98]],0):=by
 refine .inr (.inr ⟨three_E,by decide +kernel,_,rfl,by unfold SortedT; decide +kernel,fun s=>?_⟩)
 refine ClosedN.iff (S:=fun s=>s ∈ [[97],[98]]) ⟨by decide +kernel,fun b hb=>?_,fun s hs=>?_⟩ s
 · rcases List.mem_cons.1 hb with e | hb
   · subst e; decide +kernel
   · rw [List.mem_singleton] at hb; subst hb; decide +kernel
 · refine .base ?_
   rcases List.mem_cons.1 hs with e | hs
   · subst e; decide +kernel
   · rw [List.mem_singleton] at hs; subst hs; decide +kernel
theorem pl39:placesP Try.prog 39=some [(0,1),(1,1),(2,1),(3,1),(4,1)]:=by kernel_rfl
theorem el22:EltOk Try.prog 22 39 (.agg #[st [],.slice none 0 0,.slice none 0 0,.slice none 0 0,.slice none 0 0]) 5 112:=eltOk_of (by kernel_rfl)
theorem en26:Enters Try.prog 26:=enters_of Try.func26 (by kernel_rfl) rfl
theorem en6:Enters Try.prog 6:=enters_of Try.func6 (by kernel_rfl) rfl
theorem en7:Enters Try.prog 7:=enters_of Try.func7 (by kernel_rfl) rfl
theorem en11:Enters Try.prog 11:=enters_of Try.func11 (by kernel_rfl) rfl
theorem en12:Enters Try.prog 12:=enters_of Try.func12 (by kernel_rfl) rfl
theorem three_any (w:World) :
   Calls Try.prog 26 #[] w fun e w'=>∃r:SP,e = .returned (.slice r.1 threeL.length r.2)∧Ext w w'∧Sl (rdMod 7 6) 5 (nv w w') r.1 r.2 threeL:=by
 refine enter Try.func26 rfl 7 rfl rfl ?_
 refine CWd (W':=Ws w [] [] []) (fun _ e=>by subst e; exact Ws.init (by simp)) ?_
 refine Cs (Cr ?_)
 refine V0 (Ya rfl) ?_
 refine Ln (Et (Cs (Cr ?_)))
 refine Lb (.inl rfl) rfl el27 rfl rfl rfl rfl fun b1=>?_
 refine LN (rd:=rdStr) (f:=strC) (m:=2) 0 [[98],[97]] rfl rfl (fun _ hk=>by cases hk) strC_len (fun _ _ _ _ h=>h) (show 2≤2 by decide) (by decide) fun H1 fH1 hH1=>?_
 refine V0 (Yb zr39 pl39 rfl rfl) ?_
 refine Lb (.inl rfl) rfl el27 rfl rfl rfl rfl fun b3=>?_
 refine LN (rd:=rdStr) (f:=strC) (m:=1) 0 [[97]] rfl rfl (fun _ hk=>by cases hk) strC_len (fun _ _ _ _ h=>h) (show 1≤1 by decide) (by decide) fun H3 fH3 hH3=>?_
 refine V0 (Yb zr39 pl39 rfl rfl) ?_
 refine V0 (Yb zr39 pl39 rfl rfl) ?_
 refine Lb (.inl rfl) rfl el22 rfl rfl rfl rfl fun b6=>?_
 refine LN (rd:=rdUX) (f:=UX.cells) (m:=3) 0 [(([99],[[98],[97]],((some ⟨b1,0,none⟩),2)):UX),(([98],[[97]],((some ⟨b3,0,none⟩),1)):UX),(([97],[],(none,0)):UX)] rfl rfl (fun _ hk=>by cases hk) UX.cells_len (fun _ _ _ _ h=>h) (show 3≤3 by decide) (by decide) fun H6 fH6 hH6=>?_
 refine V0 (Ya rfl) ?_
 refine Ln (Et (Crt ?_))
 refine WE.ret1 rfl rfl fun w' hw=>?_
 exact ⟨(some ⟨b6,0,none⟩,3),rfl,hw.fr,(slM_of hH6 (nv_vs hw (by simp) fH6) (UXs.cons (slStr_mv hH1 (nv_vs hw (by simp) fH1)) (UXs.cons (slStr_mv hH3 (nv_vs hw (by simp) fH3)) (UXs.cons Sl.nil UXs.nil))))⟩
theorem orderBegun_any (w:World) :
   Calls Try.prog 10 #[] w fun e w'=>e = .returned (.bool true)∧Ext w w':=by
 refine enter Try.func10 rfl 46 rfl rfl ?_
 refine CWd (W':=Ws w [] [] []) (fun _ e=>by subst e; exact Ws.init (by simp)) ?_
 refine Cs (Cr ?_)
 refine V0 (Ya rfl) ?_
 refine Ln (Et (Cs (Cr ?_)))
 refine Ld (.inl rfl) rfl en26 rfl (fun r:SP=>.slice r.1 threeL.length r.2) (fun H r=>Sl (rdMod 7 6) 5 H r.1 r.2 threeL) (fun w hw=>three_any w) ?_
 intro F8 r8 hf8 h8
 refine Ld (.inl rfl) rfl en6 rfl (fun r:SP×List Nat×Int=>.tuple #[.slice r.1.1 r.2.1.length r.1.2,.int .i64 r.2.2]) (fun F r=>Sl rdIx 1 F r.1.1 r.1.2 r.2.1∧SortR threeL r.2) (fun w hw=>sort_any F8 7 6 r8.1 r8.2 threeL w (hw.vs _ (by simp)) h8 three_w) ?_
 intro F9 r9 hf9 h9
 obtain ⟨s9,q9⟩:=r9
 obtain ⟨hs9,hq9⟩:=h9
 have hx9:=sortR_eq hq9 three_sort
 dsimp only at hx9
 subst hx9
 refine V0 (Ym rfl) ?_
 refine V0 (Yx rfl rfl) ?_
 refine V0 (Yx rfl rfl) ?_
 refine V0 (Ya rfl) ?_
 refine V0 (Ya rfl) ?_
 refine Ln (Et (Cs (Cr ?_)))
 refine Ld (.inl rfl) rfl en26 rfl (fun r:SP=>.slice r.1 threeL.length r.2) (fun H r=>Sl (rdMod 7 6) 5 H r.1 r.2 threeL) (fun w hw=>three_any w) ?_
 intro F13 r13 hf13 h13
 refine Ld (.inl rfl) rfl en7 rfl (fun r:SP×List Tx×Int=>.tuple #[.slice r.1.1 r.2.1.length r.1.2,.int .i64 r.2.2]) (fun F r=>Sl rdStr 1 F r.1.1 r.1.2 r.2.1∧NeedR threeL [99] r.2) (fun w hw=>needs_any F13 7 6 r13.1 r13.2 threeL [99] w (hw.vs _ (by simp)) h13 three_w) ?_
 intro F14 r14 hf14 h14
 obtain ⟨s14,q14⟩:=r14
 obtain ⟨hs14,hq14⟩:=h14
 have hx14:=needR_eq hq14 three_need
 dsimp only at hx14
 subst hx14
 refine V0 (Ym rfl) ?_
 refine V0 (Yx rfl rfl) ?_
 refine V0 (Yx rfl rfl) ?_
 refine V0 (Ya rfl) ?_
 refine V0 (Ya rfl) ?_
 refine Ln (Et (Cs (Cr ?_)))
 refine Lb (.inl rfl) rfl el27 rfl rfl rfl rfl fun b18=>?_
 refine LN (rd:=rdStr) (f:=strC) (m:=1) 0 [[98]] rfl rfl (fun _ hk=>by cases hk) strC_len (fun _ _ _ _ h=>h) (show 1≤1 by decide) (by decide) fun H18 fH18 hH18=>?_
 refine V0 (Yb zr39 pl39 rfl rfl) ?_
 refine Lb (.inl rfl) rfl el27 rfl rfl rfl rfl fun b20=>?_
 refine LN (rd:=rdStr) (f:=strC) (m:=1) 0 [[97]] rfl rfl (fun _ hk=>by cases hk) strC_len (fun _ _ _ _ h=>h) (show 1≤1 by decide) (by decide) fun H20 fH20 hH20=>?_
 refine V0 (Yb zr39 pl39 rfl rfl) ?_
 refine Lb (.inl rfl) rfl el22 rfl rfl rfl rfl fun b22=>?_
 refine LN (rd:=rdUX) (f:=UX.cells) (m:=2) 0 [(([97],[[98]],((some ⟨b18,0,none⟩),1)):UX),(([98],[[97]],((some ⟨b20,0,none⟩),1)):UX)] rfl rfl (fun _ hk=>by cases hk) UX.cells_len (fun _ _ _ _ h=>h) (show 2≤2 by decide) (by decide) fun H22 fH22 hH22=>?_
 have hM22:∀w0 w,Ws w0 [] [] [H22,H20,H18,F14,F13,F9,F8] w→Sl (rdMod 7 6) 5 (hv w) (some ⟨b22,0,none⟩) 2 twoL:=fun w0 w hw=>(slM_of hH22 (hv_of (hw.vs _ (by simp))) (UXs.cons (slStr_mv hH18 (hv_of (hw.vs _ (by simp)))) (UXs.cons (slStr_mv hH20 (hv_of (hw.vs _ (by simp)))) UXs.nil)))
 refine Ld (.inl rfl) rfl en6 rfl (fun r:SP×List Nat×Int=>.tuple #[.slice r.1.1 r.2.1.length r.1.2,.int .i64 r.2.2]) (fun F r=>Sl rdIx 1 F r.1.1 r.1.2 r.2.1∧SortR twoL r.2) (fun w hw=>sort_any (hv w) 7 6 (some ⟨b22,0,none⟩) 2 twoL w (hv_le w) (hM22 _ w hw) two_w) ?_
 intro F23 r23 hf23 h23
 obtain ⟨s23,q23⟩:=r23
 obtain ⟨hs23,hq23⟩:=h23
 have hx23:=sortR_eq hq23 two_sort
 dsimp only at hx23
 subst hx23
 refine V0 (Ym rfl) ?_
 refine V0 (Yx rfl rfl) ?_
 refine V0 (Yx rfl rfl) ?_
 refine V0 (Ya rfl) ?_
 refine V0 (Ya rfl) ?_
 refine Ln (Et (Cs (Cr ?_)))
 refine V0 (Ym rfl) ?_
 refine V0 (yl_eqiY rfl rfl rfl) ?_
 refine V0 (Ym rfl) ?_
 apply WL.and 2 (x:=true) rfl rfl rfl rfl (.inl rfl) rfl rfl rfl rfl rfl
 ·
  intro hg0
  refine Lv (.g rfl rfl rfl) rfl (Ym rfl) ?_
  refine Lv (.g rfl rfl rfl) rfl (yl_eqiY rfl rfl rfl) ?_
  exact Gt 2 rfl rfl rfl
 refine V0 (Ym rfl) ?_
 apply WL.and 2 (x:=true) rfl rfl rfl rfl (.inl rfl) rfl rfl rfl rfl rfl
 ·
  intro hg1
  refine Lv (.g rfl rfl rfl) rfl (Ym rfl) ?_
  refine Lv (.g rfl rfl rfl) rfl (yl_eqiY rfl rfl rfl) ?_
  exact Gt 2 rfl rfl rfl
 refine V0 (Ym rfl) ?_
 apply WL.and 3 (x:=true) rfl rfl rfl rfl (.inl rfl) rfl rfl rfl rfl rfl
 ·
  intro hg2
  refine Lv (.g rfl rfl rfl) rfl (Ym rfl) ?_
  refine Lb (.g rfl rfl rfl) rfl el23 rfl rfl rfl rfl fun b38=>?_
  refine WL.blksl (rd:=rdIx) (f:=ixC) (k:=1) (m:=3) 0 [2,1,0] rfl rfl ixC_len (fun _ _ _ _ h=>h) (by decide) (by decide) fun H38 hH38=>?_
  refine Lp (.g rfl rfl rfl) rfl en11 rfl (fun w hw=>sameInts_eqO F9 H38 s9.1 (some ⟨b38,0,none⟩) s9.2 3 [2,1,0] w (hw.vs _ (by simp)) (hw.vs _ (by simp)) hs9 hH38) ?_
  refine WL.wk ?_ (Gt 3 rfl rfl rfl)
  exact fun _ h=>Ws.drops (h) (fun _ hm=>List.mem_append_right [_] hm)
 refine V0 (Ym rfl) ?_
 apply WL.and 3 (x:=true) rfl rfl rfl rfl (.inl rfl) rfl rfl rfl rfl rfl
 ·
  intro hg3
  refine Lv (.g rfl rfl rfl) rfl (Ym rfl) ?_
  refine Lb (.g rfl rfl rfl) rfl el27 rfl rfl rfl rfl fun b43=>?_
  refine WL.blksl (rd:=rdStr) (f:=strC) (k:=1) (m:=2) 0 [[97],[98]] rfl rfl strC_len (fun _ _ _ _ h=>h) (by decide) (by decide) fun H43 hH43=>?_
  refine Lp (.g rfl rfl rfl) rfl en12 rfl (fun w hw=>sameTexts_eqO F14 H43 s14.1 (some ⟨b43,0,none⟩) s14.2 2 [[97],[98]] w (hw.vs _ (by simp)) (hw.vs _ (by simp)) hs14 hH43) ?_
  refine WL.wk ?_ (Gt 3 rfl rfl rfl)
  exact fun _ h=>Ws.drops (h) (fun _ hm=>List.mem_append_right [_] hm)
 refine V0 (Ya rfl) ?_
 refine Ln (Et (Crt ?_))
 refine WE.ret1 rfl rfl fun w' hw=>?_
 exact ⟨rfl,hw.fr⟩
end Go.Proofs.Ytinnlppbkhhoiaa
end
section
namespace Go.Proofs.Ytinnlppbkhhoiaa
open Go.Bw
set_option linter.unusedVariables false
set_option linter.unusedSimpArgs false
theorem en8:Enters Try.prog 8:=enters_of Try.func8 (by kernel_rfl) rfl
theorem en9:Enters Try.prog 9:=enters_of Try.func9 (by kernel_rfl) rfl
theorem en10:Enters Try.prog 10:=enters_of Try.func10 (by kernel_rfl) rfl
theorem orderTells_any (H:View) (ke ks:Nat) (a:Option Addr) (c:Nat) (l:List TMod) (nm:Tx) (w:World) (hH:Le H w) (hm:Sl (rdMod ke ks) 5 H a c l) (hb:∀m ∈ l,wM m≤109951162777) :
   Calls Try.prog 3 #[.slice a l.length c,st nm] w fun e w'=>e = .returned (.bool true)∧Ext w w':=by
 have hcap:=hm.cap
 have hmax:=hm.max
 refine enter Try.func3 rfl 56 rfl rfl ?_
 refine CWd (W':=Ws w [] [] [H]) (fun _ e=>by subst e; exact Ws.init (by simp [hH])) ?_
 refine Cs (Cr ?_)
 refine V0 (Ya rfl) ?_
 refine Ln (Et (Cs (Cr ?_)))
 refine V0 (Ym rfl) ?_
 refine Ld (.inl rfl) rfl en6 rfl (fun r:SP×List Nat×Int=>.tuple #[.slice r.1.1 r.2.1.length r.1.2,.int .i64 r.2.2]) (fun F r=>Sl rdIx 1 F r.1.1 r.1.2 r.2.1∧SortR l r.2) (fun w hw=>sort_any H ke ks a c l w (hw.vs _ (by simp)) hm hb) ?_
 intro F15 r15 hf15 h15
 obtain ⟨s15,q15⟩:=r15
 obtain ⟨hs15,hq15⟩:=h15
 dsimp only at hs15 hq15
 refine V0 (Ym rfl) ?_
 refine V0 (Yx rfl rfl) ?_
 refine V0 (Yx rfl rfl) ?_
 refine V0 (Ya rfl) ?_
 refine V0 (Ya rfl) ?_
 refine Ln (Et (Cs (Cr ?_)))
 refine V0 (Ym rfl) ?_
 refine V0 (Ym rfl) ?_
 refine Ld (.inl rfl) rfl en7 rfl (fun r:SP×List Tx×Int=>.tuple #[.slice r.1.1 r.2.1.length r.1.2,.int .i64 r.2.2]) (fun F r=>Sl rdStr 1 F r.1.1 r.1.2 r.2.1∧NeedR l nm r.2) (fun w hw=>needs_any H ke ks a c l nm w (hw.vs _ (by simp)) hm hb) ?_
 intro F21 r21 hf21 h21
 obtain ⟨s21,q21⟩:=r21
 obtain ⟨hs21,hq21⟩:=h21
 dsimp only at hs21 hq21
 refine V0 (Ym rfl) ?_
 refine V0 (Yx rfl rfl) ?_
 refine V0 (Yx rfl rfl) ?_
 refine V0 (Ya rfl) ?_
 refine V0 (Ya rfl) ?_
 refine Ln (Et (Cs (Cr ?_)))
 refine V0 (Ym rfl) ?_
 refine Ld (.inl rfl) rfl en8 rfl (fun r:SP×List Nat×Int=>.tuple #[.slice r.1.1 r.2.1.length r.1.2,.int .i64 r.2.2]) (fun F r=>Sl rdIx 1 F r.1.1 r.1.2 r.2.1∧SortR l r.2) (fun w hw=>sortOf_any H ke ks a c l w (hw.vs _ (by simp)) hm hb) ?_
 intro F26 r26 hf26 h26
 obtain ⟨s26,q26⟩:=r26
 obtain ⟨hs26,hq26⟩:=h26
 dsimp only at hs26 hq26
 have hx26:=sortR_eq hq26 hq15
 subst hx26
 refine V0 (Ym rfl) ?_
 refine V0 (Yx rfl rfl) ?_
 refine V0 (Yx rfl rfl) ?_
 refine V0 (Ya rfl) ?_
 refine V0 (Ya rfl) ?_
 refine Ln (Et (Cs (Cr ?_)))
 refine V0 (Ym rfl) ?_
 refine V0 (Ym rfl) ?_
 refine Ld (.inl rfl) rfl en9 rfl (fun r:SP×List Tx×Int=>.tuple #[.slice r.1.1 r.2.1.length r.1.2,.int .i64 r.2.2]) (fun F r=>Sl rdStr 1 F r.1.1 r.1.2 r.2.1∧NeedR l nm r.2) (fun w hw=>needsOf_any H ke ks a c l nm w (hw.vs _ (by simp)) hm hb) ?_
 intro F32 r32 hf32 h32
 obtain ⟨s32,q32⟩:=r32
 obtain ⟨hs32,hq32⟩:=h32
 dsimp only at hs32 hq32
 have hx32:=needR_eq hq32 hq21
 subst hx32
 refine V0 (Ym rfl) ?_
 refine V0 (Yx rfl rfl) ?_
 refine V0 (Yx rfl rfl) ?_
 refine V0 (Ya rfl) ?_
 refine V0 (Ya rfl) ?_
 refine Ln (Et (Cs (Cr ?_)))
 refine Lp (.inl rfl) rfl en10 rfl (fun w hw=>orderBegun_any w) ?_
 refine V0 (Ym rfl) ?_
 apply WL.and 3 (x:=true) rfl rfl rfl rfl (.inl rfl) rfl rfl rfl rfl rfl
 ·
  intro hg0
  refine Lv (.g rfl rfl rfl) rfl (Ym rfl) ?_
  refine Lv (.g rfl rfl rfl) rfl (Ym rfl) ?_
  refine Lv (.g rfl rfl rfl) rfl (yl_eqiY rfl rfl rfl) ?_
  exact Gt 3 rfl rfl rfl
 refine V0 (Ym rfl) ?_
 apply WL.and 3 (x:=true) rfl rfl rfl rfl (.inl rfl) rfl rfl rfl rfl rfl
 ·
  intro hg1
  refine Lv (.g rfl rfl rfl) rfl (Ym rfl) ?_
  refine Lv (.g rfl rfl rfl) rfl (Ym rfl) ?_
  refine Lv (.g rfl rfl rfl) rfl (yl_eqiY rfl rfl rfl) ?_
  exact Gt 3 rfl rfl rfl
 refine V0 (Ym rfl) ?_
 apply WL.and 3 (x:=true) rfl rfl rfl rfl (.inl rfl) rfl rfl rfl rfl rfl
 ·
  intro hg2
  refine Lv (.g rfl rfl rfl) rfl (Ym rfl) ?_
  refine Lv (.g rfl rfl rfl) rfl (Ym rfl) ?_
  refine Lp (.g rfl rfl rfl) rfl en11 rfl (fun w hw=>sameInts_eqO F15 F26 s15.1 s26.1 s15.2 s26.2 q26.1 w (hw.vs _ (by simp)) (hw.vs _ (by simp)) hs15 hs26) ?_
  exact Gt 3 rfl rfl rfl
 refine V0 (Ym rfl) ?_
 apply WL.and 3 (x:=true) rfl rfl rfl rfl (.inl rfl) rfl rfl rfl rfl rfl
 ·
  intro hg3
  refine Lv (.g rfl rfl rfl) rfl (Ym rfl) ?_
  refine Lv (.g rfl rfl rfl) rfl (Ym rfl) ?_
  refine Lp (.g rfl rfl rfl) rfl en12 rfl (fun w hw=>sameTexts_eqO F21 F32 s21.1 s32.1 s21.2 s32.2 q32.1 w (hw.vs _ (by simp)) (hw.vs _ (by simp)) hs21 hs32) ?_
  exact Gt 3 rfl rfl rfl
 refine V0 (Ya rfl) ?_
 refine Ln (Et (Crt ?_))
 refine WE.ret1 rfl rfl fun w' hw=>?_
 exact ⟨rfl,hw.fr⟩
end Go.Proofs.Ytinnlppbkhhoiaa
end
