/- tree.Show answers as the document says, errors too, for modules whose bulk is at most 1048576 (the second form, over the tied card). -/
import Derived.Test.YtjfldjidhkfnbaaGreatDoorS4
set_option linter.unusedVariables false
set_option linter.unusedSimpArgs false
section
namespace Go.Proofs.YtjfldjidhkfnbaaGreatDoor
open Go.Bw
set_option linter.unusedVariables false
set_option linter.unusedSimpArgs false
theorem TE_eq (x:TExpr):exprT x=exprTO x.op x.n x.mod x.nm (exprTs x.args):=by cases x; rw [exprT]; rfl
theorem TS_eq (x:TStmt):stmtT x=stmtTO x.op x.mod x.nm (exprTs x.args) (stmtTs x.body) x.other.length (stmtTs x.other):=by cases x; rw [stmtT]; rfl
theorem exprTs_len:∀l:List TExpr,(exprTs l).length=l.length
 | []=>rfl
 | x::r=>by unfold exprTs; simp [exprTs_len r]
theorem exprTs_get:∀{l:List TExpr} {i:Nat} {y:TExpr},l[i]? = some y→(exprTs l)[i]? = some (exprT y)
 | [],i,y,h=>by simp at h
 | x::r,0,y,h=>by simp at h; subst h; rfl
 | x::r,i+1,y,h=>by
   have:=exprTs_get (l:=r) (i:=i) (y:=y) (by simpa using h)
   unfold exprTs
   simpa using this
theorem atT_get {l:List TExpr} {i:Nat} {y:TExpr} (h:l[i]? = some y):atT (exprTs l) i=exprT y:=by unfold atT; rw [exprTs_get h]; rfl
theorem refT_t {mod nm:Tx} (h:(mod==[])=true):refT mod nm=nm:=by unfold refT; rw [if_pos h]
theorem refT_f {mod nm:Tx} (h:(mod==[])=false):refT mod nm=mod++[32,46,32]++nm:=by unfold refT; rw [if_neg (by rw [h]; decide)]
theorem TE1 {x:TExpr} (h:x.op=1) (h0:0≤x.n):exprT x=Lib.decDigits x.n.toNat:=by rw [TE_eq,exprTO,if_pos h,itoa_pos h0]
theorem TE2 {x:TExpr} (h:x.op=2):exprT x=[105,110]:=by rw [TE_eq,exprTO,if_neg (by omega),if_pos h]; rfl
theorem TE3 {x:TExpr} (h:x.op=3):exprT x=refT x.mod x.nm:=by rw [TE_eq,exprTO,if_neg (by omega),if_neg (by omega),if_pos h]
theorem TE4 {x y:TExpr} (h:x.op=4) (hy:x.args[0]? = some y):exprT x=refT x.mod x.nm++[32,91,32]++exprT y++[32,93]:=by rw [TE_eq,exprTO,if_neg (by omega),if_neg (by omega),if_neg (by omega),if_pos h,atT_get hy]
theorem TE5 {x:TExpr} (h:x.op=5):exprT x=refT x.mod x.nm++[32,40]++argsT (exprTs x.args)++[32,41]:=by rw [TE_eq,exprTO,if_neg (by omega),if_neg (by omega),if_neg (by omega),if_neg (by omega),if_pos h]
theorem TE6 {x y:TExpr} (h:x.op=6) (hy:x.args[0]? = some y):exprT x=[33,32]++exprT y:=by rw [TE_eq,exprTO,if_neg (by omega),if_neg (by omega),if_neg (by omega),if_neg (by omega),if_neg (by omega),if_pos h,atT_get hy]
theorem TE7 {x y z:TExpr} (h:7≤x.op) (hy:x.args[0]? = some y) (hz:x.args[1]? = some z):exprT x=[40,32]++exprT y++[32]++opW x.op++[32]++exprT z++[32,41]:=by rw [TE_eq,exprTO,if_neg (by omega),if_neg (by omega),if_neg (by omega),if_neg (by omega),if_neg (by omega),if_neg (by omega),atT_get hy,atT_get hz]
theorem argsT_snoc (x:Tx):∀l:List Tx,l≠[]→argsT (l++[x])=argsT l++[32,44]++[32]++x
 | [],h=>absurd rfl h
 | [y],_=>by simp [argsT]
 | y::z::r,_=>by
   have:=argsT_snoc x (z::r) (by simp)
   show [32]++y++[32,44]++argsT ((z::r)++[x])=[32]++y++[32,44]++argsT (z::r)++[32,44]++[32]++x
   rw [this]
   simp
theorem argsT_take0 {l:List Tx} {x:Tx} {i:Nat} (h:l[i]? = some x) (hi:i=0):argsT (l.take (i+1))=argsT (l.take i)++[32]++x:=by
 subst hi
 rw [take_snoc h]
 simp [argsT]
theorem argsT_takeS {l:List Tx} {x:Tx} {i:Nat} (h:l[i]? = some x) (hi:0<i):argsT (l.take (i+1))=argsT (l.take i)++[32,44]++[32]++x:=by
 have hlt:=(List.getElem?_eq_some_iff.1 h).1
 rw [take_snoc h,argsT_snoc]
 intro h2
 have h3:(l.take i).length=i:=by rw [List.length_take]; omega
 rw [h2,List.length_nil] at h3
 omega
theorem argsT_le (l:List Tx) (i:Nat):(argsT (l.take i)).length≤(argsT l).length:=by
 have key:∀(a b:List Tx),(argsT a).length≤(argsT (a++b)).length:=by
   intro a b
   induction a with
   | nil=>simp [argsT]
   | cons x r ih=>
     cases r with
     | nil=>cases b with
       | nil=>simp
       | cons y b=>simp only [List.cons_append,List.nil_append,argsT,List.length_append,List.length_cons,List.length_nil]; omega
     | cons y r=>simp only [List.cons_append,List.nil_append,argsT,List.length_append,List.length_cons,List.length_nil] at ih ⊢; omega
 have:=key (l.take i) (l.drop i)
 rwa [List.take_append_drop] at this
theorem opW_get {op:Int} (h:7≤op∧op≤15):opsL[(op-7).toNat]? = some (opW op):=by
 have:op=7∨op=8∨op=9∨op=10∨op=11∨op=12∨op=13∨op=14∨op=15:=by omega
 rcases this with rfl | rfl | rfl | rfl | rfl | rfl | rfl | rfl | rfl<;>rfl
theorem TS1 {x:TStmt} {y:TExpr} (h:x.op=1) (hy:x.args[0]? = some y):stmtT x=refT x.mod x.nm++[32,61,32]++exprT y++[32,59]:=by rw [TS_eq,stmtTO,if_pos h,atT_get hy]
theorem TS2 {x:TStmt} {y z:TExpr} (h:x.op=2) (hy:x.args[0]? = some y) (hz:x.args[1]? = some z):stmtT x=refT x.mod x.nm++[32,91,32]++exprT y++[32,93,32,61,32]++exprT z++[32,59]:=by rw [TS_eq,stmtTO,if_neg (by omega),if_pos h,atT_get hy,atT_get hz]
theorem TS3 {x:TStmt} (h:x.op=3):stmtT x=refT x.mod x.nm++[32,40]++argsT (exprTs x.args)++[32,41,32,59]:=by rw [TS_eq,stmtTO,if_neg (by omega),if_neg (by omega),if_pos h]
theorem TS4 {x:TStmt} {y:TExpr} (h:x.op=4) (hy:x.args[0]? = some y) (ho:0<x.other.length):stmtT x=[105,102,32]++exprT y++[32]++blockT x.body++[32,101,108,115,101,32]++blockT x.other:=by
 rw [TS_eq,stmtTO,if_neg (by omega),if_neg (by omega),if_neg (by omega),if_pos h,if_pos ho,atT_get hy]; simp [blockT,w_if,w_else]
theorem TS40 {x:TStmt} {y:TExpr} (h:x.op=4) (hy:x.args[0]? = some y) (ho:¬0<x.other.length):stmtT x=[105,102,32]++exprT y++[32]++blockT x.body:=by
 rw [TS_eq,stmtTO,if_neg (by omega),if_neg (by omega),if_neg (by omega),if_pos h,if_neg ho,atT_get hy]; simp [blockT,w_if]
theorem TS5 {x:TStmt} {y:TExpr} (h:x.op=5) (hy:x.args[0]? = some y):stmtT x=[119,104,105,108,101,32]++exprT y++[32]++blockT x.body:=by
 rw [TS_eq,stmtTO,if_neg (by omega),if_neg (by omega),if_neg (by omega),if_neg (by omega),if_pos h,atT_get hy]; simp [blockT,w_while]
theorem TS6 {x:TStmt} {y:TExpr} (h:x.op=6) (hy:x.args[0]? = some y):stmtT x=[114,101,116,117,114,110,32]++exprT y++[32,59]:=by
 rw [TS_eq,stmtTO,if_neg (by omega),if_neg (by omega),if_neg (by omega),if_neg (by omega),if_neg (by omega),if_pos h,atT_get hy]; simp [w_return]
theorem TS7 {x:TStmt} {y:TExpr} (h:x.op=7) (hy:x.args[0]? = some y):stmtT x=[111,117,116,32]++exprT y++[32,59]:=by
 rw [TS_eq,stmtTO,if_neg (by omega),if_neg (by omega),if_neg (by omega),if_neg (by omega),if_neg (by omega),if_neg (by omega),atT_get hy]; simp [w_out]
theorem stmtTs_app:∀a b:List TStmt,stmtTs (a++b)=stmtTs a++stmtTs b
 | [],b=>by simp [stmtTs]
 | x::a,b=>by
   rw [List.cons_append,show ∀q,stmtTs (x::q)=stmtT x++[32]++stmtTs q from fun q=>by rw [stmtTs],stmtTs_app a b,show ∀q,stmtTs (x::q)=stmtT x++[32]++stmtTs q from fun q=>by rw [stmtTs]]; simp only [List.append_assoc]
theorem stmtTs_take {l:List TStmt} {i:Nat} {x:TStmt} (h:l[i]? = some x):stmtTs (l.take (i+1))=stmtTs (l.take i)++stmtT x++[32]:=by
 rw [take_snoc h,stmtTs_app]; simp [stmtTs]
theorem stmtTs_le (l:List TStmt) (i:Nat):(stmtTs (l.take i)).length≤(stmtTs l).length:=by
 conv=>rhs; rw [←List.take_append_drop i l,stmtTs_app,List.length_append]
 omega
theorem stmtT_part {l:List TStmt} {i:Nat} {x:TStmt} (h:l[i]? = some x):(stmtTs (l.take i)).length+(stmtT x).length+1≤(stmtTs l).length:=by
 have:=stmtTs_le l (i+1)
 rw [stmtTs_take h,List.length_append,List.length_append] at this
 exact this
theorem blockT_len (l:List TStmt):(blockT l).length=(stmtTs l).length+3:=by
 unfold blockT blkT
 simp only [List.length_append,List.length_cons,List.length_nil]; omega
def TxE (H:View) (k:Nat):Prop:=∀(x:TExpr) (a:Option Addr) (n d:Nat) (w:World),Le H w→Sl (RdE k) 5 H a n x.args→(cntE x d).tot=0→(exprT x).length≤9223372036854775807→Calls Tryz.prog 75 #[.agg #[.int .i64 x.op,.int .i64 x.n,st x.mod,st x.nm,.slice a x.args.length n]] w fun e w'=>e = .returned (st (exprT x))∧Ext w w'
def TxB (H:View) (ke k:Nat):Prop:=∀(l:List TStmt) (a:Option Addr) (n d:Nat) (w:World),Le H w→Sl (RdS ke k) 6 H a n l→(cntB l d).tot=0→(blockT l).length≤9223372036854775807→Calls Tryz.prog 28 #[.slice a l.length n] w fun e w'=>e = .returned (st (blockT l))∧Ext w w'
theorem en75:Enters Tryz.prog 75:=enters_of Tryz.func75 (by kernel_rfl) rfl
theorem en74:Enters Tryz.prog 74:=enters_of Tryz.func74 (by kernel_rfl) rfl
theorem en76:Enters Tryz.prog 76:=enters_of Tryz.func76 (by kernel_rfl) rfl
theorem en101:Enters Tryz.prog 101:=enters_of Tryz.func101 (by kernel_rfl) rfl
theorem en28:Enters Tryz.prog 28:=enters_of Tryz.func28 (by kernel_rfl) rfl
theorem en46:Enters Tryz.prog 46:=enters_of Tryz.func46 (by kernel_rfl) rfl
theorem refText_any (mod nm:Tx) (w:World) (hl:(refT mod nm).length≤9223372036854775807) :
   Calls Tryz.prog 74 #[st mod,st nm] w fun e w'=>e = .returned (st (refT mod nm))∧Ext w w':=by
 refine enter Tryz.func74 rfl 12 rfl rfl ?_
 refine CWd (W':=Ws w [] [] []) (fun _ e=>by subst e; exact Ws.init (by simp)) ?_
 refine Cs (Cr ?_)
 refine V0 (Ya rfl) ?_
 refine Ln (Et (Cs (Cs (Cr ?_))))
 refine V0 (Ym rfl) ?_
 refine V0 (yl_eqs rfl rfl) ?_
 refine Ln (Et ?_)
 refine Cc rfl (fun hc0=>?_) (fun hc0=>?_)
 ·
  have HE:=refT_t (nm:=nm) hc0
  refine Cs (Cr ?_)
  refine V0 (Ym rfl) ?_
  refine V0 (Ya rfl) ?_
  refine Ln (Et (Crt (Er ?_)))
  refine WE.ret1 rfl rfl fun w' hw=>?_
  exact ⟨by rw [HE],hw.fr⟩
 ·
  have HE:=refT_f (nm:=nm) hc0
  have hN:=congrArg List.length HE
  simp only [List.length_append,List.length_cons,List.length_nil] at hN
  refine Ck (Et (Cs (Cr ?_)))
  refine V0 (Ym rfl) ?_
  refine V0 (yl_cats (b:=[32,46,32]) rfl rfl (by (try simp only [List.length_append,List.length_cons,List.length_nil]); omega)) ?_
  refine V0 (Ym rfl) ?_
  refine V0 (yl_cats rfl rfl (by (try simp only [List.length_append,List.length_cons,List.length_nil]); omega)) ?_
  refine V0 (Ya rfl) ?_
  refine Ln (Et (Crt ?_))
  refine WE.ret1 rfl rfl fun w' hw=>?_
  exact ⟨by rw [HE],hw.fr⟩
theorem opSign_any (op:Int) (h:7≤op∧op≤15) (w:World) :
   Calls Tryz.prog 101 #[.int .i64 op] w fun e w'=>e = .returned (st (opW op))∧Ext w w':=by
 refine enter Tryz.func101 rfl 8 rfl rfl ?_
 refine CWd (W':=Ws w [] [] []) (fun _ e=>by subst e; exact Ws.init (by simp)) ?_
 refine Cs (Cr ?_)
 refine V0 (Ya rfl) ?_
 refine Ln (Et (Cs (Cr ?_)))
 refine Lb (.inl rfl) rfl el22 rfl rfl rfl rfl fun b3=>?_
 refine Lsv (T:=9) (m:=9) 0 [[38],[124],[43],[45],[42],[47],[37],[61],[60]] rfl rfl (show 9≤9 by decide) (by decide) fun H3 hH3=>?_
 obtain ⟨pb,po,ha,hrow⟩:=hH3.elt (op-7).toNat (opW op) (opW_get h)
 have hrow:RdC H3 pb (po+(op-7).toNat*1) (strC (opW op)):=hrow
 refine V0 (Ym rfl) ?_
 refine V0 (yl_subv (((op-7).toNat:Nat):Int) rfl rfl (by omega) (by omega)) ?_
 refine V0 (Yo (i:=(op-7).toNat) es22 rfl rfl ha (by first | omega | (simp only [List.length_cons,List.length_nil]; omega))) ?_
 refine V0 (yl_ld 0 na9 rfl rfl (hrow 0 _ rfl)) ?_
 refine V0 (Ya rfl) ?_
 refine Ln (Et (Crt ?_))
 refine WE.ret1 rfl rfl fun w' hw=>?_
 exact ⟨rfl,hw.fr⟩
theorem argsText_any (H:View) (k:Nat) (hE:∀k2,k2<k→TxE H k2) (xs:List TExpr) (a:Option Addr) (n d:Nat) (w:World) (hH:Le H w) (hm:Sl (RdE k) 5 H a n xs) (hc:(cntEs xs d).tot=0) (hl:(argsT (exprTs xs)).length≤9223372036854775807) :
   Calls Tryz.prog 76 #[.slice a xs.length n] w fun e w'=>e = .returned (st (argsT (exprTs xs)))∧Ext w w':=by
 have hcap:=hm.cap
 have hmax:=hm.max
 have hlx:=exprTs_len xs
 refine enter Tryz.func76 rfl 24 rfl rfl ?_
 refine CWd (W':=Ws w [] [] [H]) (fun _ e=>by subst e; exact Ws.init (by simp [hH])) ?_
 refine Cs (Cr ?_)
 refine V0 (Ya rfl) ?_
 refine Ln (Et (Cs (Cr ?_)))
 refine V0 (Ya rfl) ?_
 refine Ln (Et (Cs (Cs (Cr ?_))))
 refine V0 (Ya rfl) ?_
 refine Ln (Et (Cb ?_))
 refine CW (ι:=Nat) (fun i=>[(4,.int .i64 (i:Int)),(3,st (argsT ((exprTs xs).take i)))]) [(0,_),(2,_)] (fun i=>i≤xs.length) (fun i=>xs.length-i) 0 (Nat.zero_le _) (sc rfl (sc rfl (sc rfl (sc rfl sn)))) ?_
 intro i hi
 refine Cs (Cs (Cr ?_))
 refine V0 (Ym rfl) ?_
 refine V0 (Ym rfl) ?_
 refine V0 (Yn es41 rfl) ?_
 refine V0 (yl_lt rfl rfl) ?_
 refine Ln (Et ?_)
 refine Cc rfl (fun hc0=>?_) (fun hc0=>?_)
 ·
  have hlt:i<xs.length:=by simpa using hc0
  have hlt:i<xs.length:=by simpa using hc0
  obtain ⟨y,hyi⟩:∃q,xs[i]? = some q:=⟨_,List.getElem?_eq_getElem hlt⟩
  obtain ⟨pby,poy,hay,hry⟩:=hm.elt i y hyi
  obtain ⟨k2,rfl⟩:∃k2,k=k2+1:=by
    cases k with
    | zero=>exact hry.elim
    | succ k2=>exact ⟨k2,rfl⟩
  obtain ⟨ya,yn,hrowy,hsuby⟩:=hry
  have hcy:=cntEs_get hc hyi
  have hgy:=exprTs_get hyi
  have hle:=argsT_le (exprTs xs) (i+1)
  refine Ck (Et (Cs (Cb (Cs (Cs ?_)))))
  refine Cr ?_
  refine V0 (Ym rfl) ?_
  refine V0 (yl_gt rfl rfl) ?_
  refine Ln (Et ?_)
  refine Cc rfl (fun hc1=>?_) (fun hc1=>?_)
  ·
   have HC:=argsT_takeS hgy (by simp at hc1; omega)
   rw [HC] at hle
   simp only [List.length_append,List.length_cons,List.length_nil] at hle
   refine Cr ?_
   refine V0 (Ym rfl) ?_
   refine V0 (yl_cats (b:=[32,44]) rfl rfl (by (try simp only [List.length_append,List.length_cons,List.length_nil]); omega)) ?_
   refine V0 (Ya rfl) ?_
   refine Ln (Et (Cr ?_))
   refine V0 (Ym rfl) ?_
   refine V0 (yl_cats (b:=[32]) rfl rfl (by (try simp only [List.length_append,List.length_cons,List.length_nil]); omega)) ?_
   refine V0 (Ym rfl) ?_
   refine V0 (Ym rfl) ?_
   refine V0 (Yo es41 rfl rfl hay (by omega)) ?_
   refine V0 (yl_lda 0 ag81 rfl rfl rfl (hrowy)) ?_
   refine Lp (.inl rfl) rfl en75 rfl (fun w hw=>hE k2 (by omega) y ya yn d w (hw.vs _ (by simp)) hsuby hcy (by omega)) ?_
   refine V0 (yl_cats rfl rfl (by (try simp only [List.length_append,List.length_cons,List.length_nil]); omega)) ?_
   refine V0 (Ya rfl) ?_
   refine Ln (Eb (Et (Cr ?_)))
   refine V0 (Ym rfl) ?_
   refine V0 (Yi rfl rfl rfl (by omega)) ?_
   refine V0 (Ya rfl) ?_
   refine Ln ?_
   rw [←HC]
   exact Ea (i+1) (by omega) (by omega) (sc rfl (sc rfl (sc rfl (sc rfl sn)))) (fun _ h=>h)
  ·
   have HC:=argsT_take0 hgy (by simp at hc1; omega)
   rw [HC] at hle
   simp only [List.length_append,List.length_cons,List.length_nil] at hle
   refine Ck (Et (Cr ?_))
   refine V0 (Ym rfl) ?_
   refine V0 (yl_cats (b:=[32]) rfl rfl (by (try simp only [List.length_append,List.length_cons,List.length_nil]); omega)) ?_
   refine V0 (Ym rfl) ?_
   refine V0 (Ym rfl) ?_
   refine V0 (Yo es41 rfl rfl hay (by omega)) ?_
   refine V0 (yl_lda 0 ag81 rfl rfl rfl (hrowy)) ?_
   refine Lp (.inl rfl) rfl en75 rfl (fun w hw=>hE k2 (by omega) y ya yn d w (hw.vs _ (by simp)) hsuby hcy (by omega)) ?_
   refine V0 (yl_cats rfl rfl (by (try simp only [List.length_append,List.length_cons,List.length_nil]); omega)) ?_
   refine V0 (Ya rfl) ?_
   refine Ln (Eb (Et (Cr ?_)))
   refine V0 (Ym rfl) ?_
   refine V0 (Yi rfl rfl rfl (by omega)) ?_
   refine V0 (Ya rfl) ?_
   refine Ln ?_
   rw [←HC]
   exact Ea (i+1) (by omega) (by omega) (sc rfl (sc rfl (sc rfl (sc rfl sn)))) (fun _ h=>h)
 ·
  have hge:¬i<xs.length:=by simpa using hc0
  have hT:argsT ((exprTs xs).take i)=argsT (exprTs xs):=by rw [List.take_of_length_le (by omega)]
  refine Ce (Ex (Ex (Ebh (Et (Cs ?_)))))
  refine Cr ?_
  refine V0 (Ym rfl) ?_
  refine V0 (Ya rfl) ?_
  refine Ln (Et (Crt ?_))
  refine WE.ret1 rfl rfl fun w' hw=>?_
  exact ⟨by rw [hT],hw.fr⟩
theorem exprText_any (H:View) (k:Nat) (x:TExpr) (a:Option Addr) (n d:Nat) (w:World) (hH:Le H w) (hm:Sl (RdE k) 5 H a n x.args) (hcx:(cntE x d).tot=0) (hl:(exprT x).length≤9223372036854775807) :
   Calls Tryz.prog 75 #[.agg #[.int .i64 x.op,.int .i64 x.n,st x.mod,st x.nm,.slice a x.args.length n]] w fun e w'=>e = .returned (st (exprT x))∧Ext w w':=by
 induction k using Nat.strongRecOn generalizing x a n d w
 rename_i k ih
 have hE:∀k2,k2<k→TxE H k2:=fun k2 hk x a n d w h0 h1 h2 h3=>ih k2 hk x a n d w h0 h1 h2 h3
 have hcap:=hm.cap
 have hmax:=hm.max
 have ho:=okE' hcx
 have hkk:=ho.kind
 refine enter Tryz.func75 rfl 74 rfl rfl ?_
 refine CWd (W':=Ws w [] [] [H]) (fun _ e=>by subst e; exact Ws.init (by simp [hH])) ?_
 refine Cs (Cr ?_)
 refine WL.box (.inl rfl) rfl rfl fun b1=>?_
 refine V0 (Ya rfl) ?_
 refine Ln (Et (Cs (Cs (Cr ?_))))
 refine V0 (Yf fo81_0 rfl) ?_
 refine V0 (Yd 0 rfl rfl rfl na3) ?_
 refine Ln (Et (Cb (Cs (Cr ?_))))
 refine V0 (yl_eq rfl rfl) ?_
 refine V0 (Ya rfl) ?_
 refine Ln (Et ?_)
 refine Cc rfl (fun hc0=>?_) (fun hc0=>?_)
 ·
  have hk:x.op=1:=by simpa using hc0
  have hnb:=numBad1 (n:=x.n) (by have:=ho.num; rwa [hk] at this)
  have hn0:0≤x.n:=hnb.1
  have HE:=TE1 hk hn0
  refine Cs (Cr ?_)
  refine V0 (Yf fo81_1 rfl) ?_
  refine V0 (Yd 0 rfl rfl rfl na3) ?_
  refine Lp (.inl rfl) rfl en27 rfl (fun w hw=>by
      have:=digits_any x.n.toNat w (by omega)
      rw [Int.toNat_of_nonneg hn0] at this
      exact this) ?_
  refine V0 (Ya rfl) ?_
  refine Ln (Et (Crt (Ebr (Er ?_))))
  refine WE.ret1 rfl rfl fun w' hw=>?_
  exact ⟨by rw [HE],hw.fr⟩
 ·
  have h1:¬x.op=1:=by simpa using hc0
  refine Cs (Cr ?_)
  refine V0 (yl_eq rfl rfl) ?_
  refine V0 (Ya rfl) ?_
  refine Ln (Et ?_)
  refine Cc rfl (fun hc1=>?_) (fun hc1=>?_)
  ·
   have hk:x.op=2:=by simpa using hc1
   have HE:exprT x=[105,110]:=TE2 hk
   have HE2:st (exprT x) = .string { data:=#[105,110] }:=by rw [HE]; rfl
   refine Cs (Cr ?_)
   refine V0 (Ya rfl) ?_
   refine Ln (Et (Crt (Ebr (Er ?_))))
   refine WE.ret1 rfl rfl fun w' hw=>?_
   exact ⟨by rw [HE2],hw.fr⟩
  ·
   have h2:¬x.op=2:=by simpa using hc1
   refine Cs (Cr ?_)
   refine V0 (yl_eq rfl rfl) ?_
   refine V0 (Ya rfl) ?_
   refine Ln (Et ?_)
   refine Cc rfl (fun hc2=>?_) (fun hc2=>?_)
   ·
    have hk:x.op=3:=by simpa using hc2
    have HE:=TE3 hk
    have hN:=congrArg List.length HE
    refine Cs (Cr ?_)
    refine V0 (Yf fo81_2 rfl) ?_
    refine V0 (Yd 0 rfl rfl rfl na9) ?_
    refine V0 (Yf fo81_3 rfl) ?_
    refine V0 (Yd 0 rfl rfl rfl na9) ?_
    refine Lp (.inl rfl) rfl en74 rfl (fun w hw=>refText_any _ _ w (by omega)) ?_
    refine V0 (Ya rfl) ?_
    refine Ln (Et (Crt (Ebr (Er ?_))))
    refine WE.ret1 rfl rfl fun w' hw=>?_
    exact ⟨by rw [HE],hw.fr⟩
   ·
    have h3:¬x.op=3:=by simpa using hc2
    refine Cs (Cr ?_)
    refine V0 (yl_eq rfl rfl) ?_
    refine V0 (Ya rfl) ?_
    refine Ln (Et ?_)
    refine Cc rfl (fun hc3=>?_) (fun hc3=>?_)
    ·
     have hk:x.op=4:=by simpa using hc3
     have hlen:=ho.len1 (.inl hk)
     obtain ⟨y,hyi⟩:∃y,x.args[0]? = some y:=get0 hlen (by decide)
     obtain ⟨pby,poy,hay,hry⟩:=hm.elt 0 y hyi
     obtain ⟨k2,rfl⟩:∃k2,k=k2+1:=by
       cases k with
       | zero=>exact hry.elim
       | succ k2=>exact ⟨k2,rfl⟩
     obtain ⟨ya,yn,hrowy,hsuby⟩:=hry
     have hcy:=cntEs_get ho.sub hyi
     have HE:=TE4 hk hyi
     have hN:=congrArg List.length HE
     simp only [List.length_append,List.length_cons,List.length_nil] at hN
     refine Cs ?_
     refine WC.draws0 [(0,true),(1,true),(2,true),(3,true),(6,true),(7,true),(8,true),(9,true),(4,false),(5,true),(10,false),(11,true),(12,true),(13,true)] mixed (by kernel_rfl) (fun _ _ _ d _ h=>by cases d<;>exact h) ?_
     refine Dq rfl (.inl rfl) rfl (fun _ h=>h) (Yf fo81_2 rfl) ?_
     refine Dq rfl (.inl rfl) rfl (fun _ h=>h) (Yd 0 rfl rfl rfl na9) ?_
     refine Dq rfl (.inl rfl) rfl (fun _ h=>h) (Yf fo81_3 rfl) ?_
     refine Dq rfl (.inl rfl) rfl (fun _ h=>h) (Yd 0 rfl rfl rfl na9) ?_
     refine Dq rfl (.inl rfl) rfl (fun _ h=>h) (Yf fo81_4 rfl) ?_
     refine Dq rfl (.inl rfl) rfl (fun _ h=>h) (Yd 0 rfl rfl rfl na41) ?_
     refine Dq rfl (.inl rfl) rfl (fun _ h=>h) (Yo (i:=0) es41 rfl rfl hay (by omega)) ?_
     refine Dq rfl (.inl rfl) rfl (fun _ h=>h) (yl_lda 0 ag81 rfl rfl rfl (hrowy)) ?_
     refine De rfl (fun _ h=>h) ?_
     refine Lp (.inl rfl) rfl en74 rfl (fun w hw=>refText_any _ _ w (by omega)) ?_
     refine Ln (Ed ?_)
     refine Dq rfl (.inl rfl) rfl (fun _ h=>h) (yl_cats (b:=[32,91,32]) rfl rfl (by (try simp only [List.length_append,List.length_cons,List.length_nil]); omega)) ?_
     refine De rfl (fun _ h=>h) ?_
     refine Lp (.inl rfl) rfl en75 rfl (fun w hw=>hE k2 (by omega) y ya yn (d+1) w (hw.vs _ (by simp)) hsuby hcy (by omega)) ?_
     refine Ln (Ed ?_)
     refine Dq rfl (.inl rfl) rfl (fun _ h=>h) (yl_cats rfl rfl (by (try simp only [List.length_append,List.length_cons,List.length_nil]); omega)) ?_
     refine Dq rfl (.inl rfl) rfl (fun _ h=>h) (yl_cats (b:=[32,93]) rfl rfl (by (try simp only [List.length_append,List.length_cons,List.length_nil]); omega)) ?_
     refine Dq rfl (.inl rfl) rfl (fun _ h=>h) (Ya rfl) ?_
     refine WD.nil (fun _ h=>h) ?_
     refine Et (Crt (Ebr (Er ?_)))
     refine WE.ret1 rfl rfl fun w' hw=>?_
     exact ⟨by rw [HE],hw.fr⟩
    ·
     have h4:¬x.op=4:=by simpa using hc3
     refine Cs (Cr ?_)
     refine V0 (yl_eq rfl rfl) ?_
     refine V0 (Ya rfl) ?_
     refine Ln (Et ?_)
     refine Cc rfl (fun hc4=>?_) (fun hc4=>?_)
     ·
      have hk:x.op=5:=by simpa using hc4
      have HE:=TE5 hk
      have hN:=congrArg List.length HE
      simp only [List.length_append,List.length_cons,List.length_nil] at hN
      refine Cs ?_
      refine WC.draws0 [(0,true),(1,true),(2,true),(3,true),(6,true),(7,true),(4,false),(5,true),(8,false),(9,true),(10,true),(11,true)] mixed (by kernel_rfl) (fun _ _ _ d _ h=>by cases d<;>exact h) ?_
      refine Dq rfl (.inl rfl) rfl (fun _ h=>h) (Yf fo81_2 rfl) ?_
      refine Dq rfl (.inl rfl) rfl (fun _ h=>h) (Yd 0 rfl rfl rfl na9) ?_
      refine Dq rfl (.inl rfl) rfl (fun _ h=>h) (Yf fo81_3 rfl) ?_
      refine Dq rfl (.inl rfl) rfl (fun _ h=>h) (Yd 0 rfl rfl rfl na9) ?_
      refine Dq rfl (.inl rfl) rfl (fun _ h=>h) (Yf fo81_4 rfl) ?_
      refine Dq rfl (.inl rfl) rfl (fun _ h=>h) (Yd 0 rfl rfl rfl na41) ?_
      refine De rfl (fun _ h=>h) ?_
      refine Lp (.inl rfl) rfl en74 rfl (fun w hw=>refText_any _ _ w (by omega)) ?_
      refine Ln (Ed ?_)
      refine Dq rfl (.inl rfl) rfl (fun _ h=>h) (yl_cats (b:=[32,40]) rfl rfl (by (try simp only [List.length_append,List.length_cons,List.length_nil]); omega)) ?_
      refine De rfl (fun _ h=>h) ?_
      refine Lp (.inl rfl) rfl en76 rfl (fun w hw=>argsText_any H k hE x.args a n (d+1) w (hw.vs _ (by simp)) hm ho.sub (by omega)) ?_
      refine Ln (Ed ?_)
      refine Dq rfl (.inl rfl) rfl (fun _ h=>h) (yl_cats rfl rfl (by (try simp only [List.length_append,List.length_cons,List.length_nil]); omega)) ?_
      refine Dq rfl (.inl rfl) rfl (fun _ h=>h) (yl_cats (b:=[32,41]) rfl rfl (by (try simp only [List.length_append,List.length_cons,List.length_nil]); omega)) ?_
      refine Dq rfl (.inl rfl) rfl (fun _ h=>h) (Ya rfl) ?_
      refine WD.nil (fun _ h=>h) ?_
      refine Et (Crt (Ebr (Er ?_)))
      refine WE.ret1 rfl rfl fun w' hw=>?_
      exact ⟨by rw [HE],hw.fr⟩
     ·
      have h5:¬x.op=5:=by simpa using hc4
      refine Cs (Cr ?_)
      refine V0 (yl_eq rfl rfl) ?_
      refine V0 (Ya rfl) ?_
      refine Ln (Et ?_)
      refine Cc rfl (fun hc5=>?_) (fun hc5=>?_)
      ·
       have hk:x.op=6:=by simpa using hc5
       have hlen:=ho.len1 (.inr hk)
       obtain ⟨y,hyi⟩:∃y,x.args[0]? = some y:=get0 hlen (by decide)
       obtain ⟨pby,poy,hay,hry⟩:=hm.elt 0 y hyi
       obtain ⟨k2,rfl⟩:∃k2,k=k2+1:=by
         cases k with
         | zero=>exact hry.elim
         | succ k2=>exact ⟨k2,rfl⟩
       obtain ⟨ya,yn,hrowy,hsuby⟩:=hry
       have hcy:=cntEs_get ho.sub hyi
       have HE:=TE6 hk hyi
       have hN:=congrArg List.length HE
       simp only [List.length_append,List.length_cons,List.length_nil] at hN
       refine Cs (Cr ?_)
       refine V0 (Yf fo81_4 rfl) ?_
       refine V0 (Yd 0 rfl rfl rfl na41) ?_
       refine V0 (Yo (i:=0) es41 rfl rfl hay (by omega)) ?_
       refine V0 (yl_lda 0 ag81 rfl rfl rfl (hrowy)) ?_
       refine Lp (.inl rfl) rfl en75 rfl (fun w hw=>hE k2 (by omega) y ya yn (d+1) w (hw.vs _ (by simp)) hsuby hcy (by omega)) ?_
       refine V0 (yl_cats (a:=[33,32]) rfl rfl (by (try simp only [List.length_append,List.length_cons,List.length_nil]); omega)) ?_
       refine V0 (Ya rfl) ?_
       refine Ln (Et (Crt (Ebr (Er ?_))))
       refine WE.ret1 rfl rfl fun w' hw=>?_
       exact ⟨by rw [HE],hw.fr⟩
      ·
       have h6:¬x.op=6:=by simpa using hc5
       have hop:7≤x.op∧x.op≤15:=by omega
       have hlen:=ho.len2 hop.1
       obtain ⟨y,hyi⟩:∃y,x.args[0]? = some y:=get0 hlen (by decide)
       obtain ⟨z,hzi⟩:∃y,x.args[1]? = some y:=get0 hlen (by decide)
       obtain ⟨pby,poy,hay,hry⟩:=hm.elt 0 y hyi
       obtain ⟨pbz,poz,haz,hrz⟩:=hm.elt 1 z hzi
       obtain ⟨k2,rfl⟩:∃k2,k=k2+1:=by
         cases k with
         | zero=>exact hry.elim
         | succ k2=>exact ⟨k2,rfl⟩
       obtain ⟨ya,yn,hrowy,hsuby⟩:=hry
       obtain ⟨za,zn,hrowz,hsubz⟩:=hrz
       have hcy:=cntEs_get ho.sub hyi
       have hcz:=cntEs_get ho.sub hzi
       have HE:=TE7 hop.1 hyi hzi
       have hN:=congrArg List.length HE
       simp only [List.length_append,List.length_cons,List.length_nil] at hN
       refine Ck (Eb (Et (Cs ?_)))
       refine WC.draws0 [(0,true),(1,true),(2,true),(3,true),(7,true),(8,true),(12,true),(13,true),(14,true),(15,true),(4,false),(5,true),(6,true),(9,false),(10,true),(11,true),(16,false),(17,true),(18,true),(19,true)] mixed (by kernel_rfl) (fun _ _ _ d _ h=>by cases d<;>exact h) ?_
       refine Dq rfl (.inl rfl) rfl (fun _ h=>h) (Yf fo81_4 rfl) ?_
       refine Dq rfl (.inl rfl) rfl (fun _ h=>h) (Yd 0 rfl rfl rfl na41) ?_
       refine Dq rfl (.inl rfl) rfl (fun _ h=>h) (Yo (i:=0) es41 rfl rfl hay (by omega)) ?_
       refine Dq rfl (.inl rfl) rfl (fun _ h=>h) (yl_lda 0 ag81 rfl rfl rfl (hrowy)) ?_
       refine Dq rfl (.inl rfl) rfl (fun _ h=>h) (Yf fo81_0 rfl) ?_
       refine Dq rfl (.inl rfl) rfl (fun _ h=>h) (Yd 0 rfl rfl rfl na3) ?_
       refine Dq rfl (.inl rfl) rfl (fun _ h=>h) (Yf fo81_4 rfl) ?_
       refine Dq rfl (.inl rfl) rfl (fun _ h=>h) (Yd 0 rfl rfl rfl na41) ?_
       refine Dq rfl (.inl rfl) rfl (fun _ h=>h) (Yo (i:=1) es41 rfl rfl haz (by omega)) ?_
       refine Dq rfl (.inl rfl) rfl (fun _ h=>h) (yl_lda 0 ag81 rfl rfl rfl (hrowz)) ?_
       refine De rfl (fun _ h=>h) ?_
       refine Lp (.inl rfl) rfl en75 rfl (fun w hw=>hE k2 (by omega) y ya yn (d+1) w (hw.vs _ (by simp)) hsuby hcy (by omega)) ?_
       refine Ln (Ed ?_)
       refine Dq rfl (.inl rfl) rfl (fun _ h=>h) (yl_cats (a:=[40,32]) rfl rfl (by (try simp only [List.length_append,List.length_cons,List.length_nil]); omega)) ?_
       refine Dq rfl (.inl rfl) rfl (fun _ h=>h) (yl_cats (b:=[32]) rfl rfl (by (try simp only [List.length_append,List.length_cons,List.length_nil]); omega)) ?_
       refine De rfl (fun _ h=>h) ?_
       refine Lp (.inl rfl) rfl en101 rfl (fun w hw=>opSign_any _ hop w) ?_
       refine Ln (Ed ?_)
       refine Dq rfl (.inl rfl) rfl (fun _ h=>h) (yl_cats rfl rfl (by (try simp only [List.length_append,List.length_cons,List.length_nil]); omega)) ?_
       refine Dq rfl (.inl rfl) rfl (fun _ h=>h) (yl_cats (b:=[32]) rfl rfl (by (try simp only [List.length_append,List.length_cons,List.length_nil]); omega)) ?_
       refine De rfl (fun _ h=>h) ?_
       refine Lp (.inl rfl) rfl en75 rfl (fun w hw=>hE k2 (by omega) z za zn (d+1) w (hw.vs _ (by simp)) hsubz hcz (by omega)) ?_
       refine Ln (Ed ?_)
       refine Dq rfl (.inl rfl) rfl (fun _ h=>h) (yl_cats rfl rfl (by (try simp only [List.length_append,List.length_cons,List.length_nil]); omega)) ?_
       refine Dq rfl (.inl rfl) rfl (fun _ h=>h) (yl_cats (b:=[32,41]) rfl rfl (by (try simp only [List.length_append,List.length_cons,List.length_nil]); omega)) ?_
       refine Dq rfl (.inl rfl) rfl (fun _ h=>h) (Ya rfl) ?_
       refine WD.nil (fun _ h=>h) ?_
       refine Et (Crt ?_)
       refine WE.ret1 rfl rfl fun w' hw=>?_
       exact ⟨by rw [HE],hw.fr⟩
theorem pubText_any (b:Bool) (w:World) :
   Calls Tryz.prog 26 #[.bool b] w fun e w'=>e = .returned (st (pubT b))∧Ext w w':=by
 refine enter Tryz.func26 rfl 4 rfl rfl ?_
 refine CWd (W':=Ws w [] [] []) (fun _ e=>by subst e; exact Ws.init (by simp)) ?_
 refine Cs (Cr ?_)
 refine V0 (Ya rfl) ?_
 refine Ln (Et (Cs (Cs (Cr ?_))))
 refine V0 (Ym rfl) ?_
 refine Ln (Et ?_)
 refine Cc rfl (fun hc0=>?_) (fun hc0=>?_)
 ·
  subst hc0
  refine Cs (Cr ?_)
  refine V0 (Ya rfl) ?_
  refine Ln (Et (Crt (Er ?_)))
  refine WE.ret1 rfl rfl fun w' hw=>?_
  exact ⟨rfl,hw.fr⟩
 ·
  subst hc0
  refine Ck (Et (Cs (Cr ?_)))
  refine V0 (Ya rfl) ?_
  refine Ln (Et (Crt ?_))
  refine WE.ret1 rfl rfl fun w' hw=>?_
  exact ⟨rfl,hw.fr⟩
theorem stmtText_any (H:View) (ke k:Nat) (hB:TxB H ke k) (x:TStmt) (a:Option Addr) (n:Nat) (a2:Option Addr) (n2:Nat) (a3:Option Addr) (n3 d:Nat) (w:World) (hH:Le H w) (hs1:Sl (RdE ke) 5 H a n x.args) (hs2:Sl (RdS ke k) 6 H a2 n2 x.body) (hs3:Sl (RdS ke k) 6 H a3 n3 x.other) (hcx:(cntS x d).tot=0) (hl:(stmtT x).length≤9223372036854775807) :
   Calls Tryz.prog 46 #[.agg #[.int .i64 x.op,st x.mod,st x.nm,.slice a x.args.length n,.slice a2 x.body.length n2,.slice a3 x.other.length n3]] w fun e w'=>e = .returned (st (stmtT x))∧Ext w w':=by
 have hcap:=hs1.cap
 have hmax:=hs1.max
 have ho:=okS' hcx
 have hkk:=ho.kind
 refine enter Tryz.func46 rfl 109 rfl rfl ?_
 refine CWd (W':=Ws w [] [] [H]) (fun _ e=>by subst e; exact Ws.init (by simp [hH])) ?_
 refine Cs (Cr ?_)
 refine WL.box (.inl rfl) rfl rfl fun b1=>?_
 refine V0 (Ya rfl) ?_
 refine Ln (Et (Cs (Cs (Cr ?_))))
 refine V0 (Yf fo43_0 rfl) ?_
 refine V0 (Yd 0 rfl rfl rfl na3) ?_
 refine Ln (Et (Cb (Cs (Cr ?_))))
 refine V0 (yl_eq rfl rfl) ?_
 refine V0 (Ya rfl) ?_
 refine Ln (Et ?_)
 refine Cc rfl (fun hc0=>?_) (fun hc0=>?_)
 ·
  have hk:x.op=1:=by simpa using hc0
  have hlen:=okS_one ho (by omega) (by omega)
  obtain ⟨y,hyi⟩:∃y,x.args[0]? = some y:=get0 hlen (by decide)
  obtain ⟨pby,poy,hay,hry⟩:=hs1.elt 0 y hyi
  obtain ⟨k2,rfl⟩:∃k2,ke=k2+1:=by
    cases ke with
    | zero=>exact hry.elim
    | succ k2=>exact ⟨k2,rfl⟩
  obtain ⟨ya,yn,hrowy,hsuby⟩:=hry
  have hcy:=cntEs_get ho.exprs hyi
  have HE:=TS1 hk hyi
  have hN:=congrArg List.length HE
  simp only [List.length_append,List.length_cons,List.length_nil] at hN
  refine Cs ?_
  refine WC.draws0 [(0,true),(1,true),(2,true),(3,true),(6,true),(7,true),(8,true),(9,true),(4,false),(5,true),(10,false),(11,true),(12,true),(13,true)] mixed (by kernel_rfl) (fun _ _ _ d _ h=>by cases d<;>exact h) ?_
  refine Dq rfl (.inl rfl) rfl (fun _ h=>h) (Yf fo43_1 rfl) ?_
  refine Dq rfl (.inl rfl) rfl (fun _ h=>h) (Yd 0 rfl rfl rfl na9) ?_
  refine Dq rfl (.inl rfl) rfl (fun _ h=>h) (Yf fo43_2 rfl) ?_
  refine Dq rfl (.inl rfl) rfl (fun _ h=>h) (Yd 0 rfl rfl rfl na9) ?_
  refine Dq rfl (.inl rfl) rfl (fun _ h=>h) (Yf fo43_3 rfl) ?_
  refine Dq rfl (.inl rfl) rfl (fun _ h=>h) (Yd 0 rfl rfl rfl na41) ?_
  refine Dq rfl (.inl rfl) rfl (fun _ h=>h) (Yo (i:=0) es41 rfl rfl hay (by omega)) ?_
  refine Dq rfl (.inl rfl) rfl (fun _ h=>h) (yl_lda 0 ag81 rfl rfl rfl (hrowy)) ?_
  refine De rfl (fun _ h=>h) ?_
  refine Lp (.inl rfl) rfl en74 rfl (fun w hw=>refText_any _ _ w (by omega)) ?_
  refine Ln (Ed ?_)
  refine Dq rfl (.inl rfl) rfl (fun _ h=>h) (yl_cats (b:=[32,61,32]) rfl rfl (by (try simp only [List.length_append,List.length_cons,List.length_nil]); omega)) ?_
  refine De rfl (fun _ h=>h) ?_
  refine Lp (.inl rfl) rfl en75 rfl (fun w hw=>exprText_any H k2 y ya yn 1 w (hw.vs _ (by simp)) hsuby hcy (by omega)) ?_
  refine Ln (Ed ?_)
  refine Dq rfl (.inl rfl) rfl (fun _ h=>h) (yl_cats rfl rfl (by (try simp only [List.length_append,List.length_cons,List.length_nil]); omega)) ?_
  refine Dq rfl (.inl rfl) rfl (fun _ h=>h) (yl_cats (b:=[32,59]) rfl rfl (by (try simp only [List.length_append,List.length_cons,List.length_nil]); omega)) ?_
  refine Dq rfl (.inl rfl) rfl (fun _ h=>h) (Ya rfl) ?_
  refine WD.nil (fun _ h=>h) ?_
  refine Et (Crt (Ebr (Er ?_)))
  refine WE.ret1 rfl rfl fun w' hw=>?_
  exact ⟨by rw [HE],hw.fr⟩
 ·
  have h1:¬x.op=1:=by simpa using hc0
  refine Cs (Cr ?_)
  refine V0 (yl_eq rfl rfl) ?_
  refine V0 (Ya rfl) ?_
  refine Ln (Et ?_)
  refine Cc rfl (fun hc1=>?_) (fun hc1=>?_)
  ·
   have hk:x.op=2:=by simpa using hc1
   have hlen:=okS_two ho (by omega)
   obtain ⟨y,hyi⟩:∃y,x.args[0]? = some y:=get0 hlen (by decide)
   obtain ⟨z,hzi⟩:∃y,x.args[1]? = some y:=get0 hlen (by decide)
   obtain ⟨pby,poy,hay,hry⟩:=hs1.elt 0 y hyi
   obtain ⟨pbz,poz,haz,hrz⟩:=hs1.elt 1 z hzi
   obtain ⟨k2,rfl⟩:∃k2,ke=k2+1:=by
     cases ke with
     | zero=>exact hry.elim
     | succ k2=>exact ⟨k2,rfl⟩
   obtain ⟨ya,yn,hrowy,hsuby⟩:=hry
   obtain ⟨za,zn,hrowz,hsubz⟩:=hrz
   have hcy:=cntEs_get ho.exprs hyi
   have hcz:=cntEs_get ho.exprs hzi
   have HE:=TS2 hk hyi hzi
   have hN:=congrArg List.length HE
   simp only [List.length_append,List.length_cons,List.length_nil] at hN
   refine Cs ?_
   refine WC.draws0 [(0,true),(1,true),(2,true),(3,true),(6,true),(7,true),(8,true),(9,true),(13,true),(14,true),(15,true),(16,true),(4,false),(5,true),(10,false),(11,true),(12,true),(17,false),(18,true),(19,true),(20,true)] mixed (by kernel_rfl) (fun _ _ _ d _ h=>by cases d<;>exact h) ?_
   refine Dq rfl (.inl rfl) rfl (fun _ h=>h) (Yf fo43_1 rfl) ?_
   refine Dq rfl (.inl rfl) rfl (fun _ h=>h) (Yd 0 rfl rfl rfl na9) ?_
   refine Dq rfl (.inl rfl) rfl (fun _ h=>h) (Yf fo43_2 rfl) ?_
   refine Dq rfl (.inl rfl) rfl (fun _ h=>h) (Yd 0 rfl rfl rfl na9) ?_
   refine Dq rfl (.inl rfl) rfl (fun _ h=>h) (Yf fo43_3 rfl) ?_
   refine Dq rfl (.inl rfl) rfl (fun _ h=>h) (Yd 0 rfl rfl rfl na41) ?_
   refine Dq rfl (.inl rfl) rfl (fun _ h=>h) (Yo (i:=0) es41 rfl rfl hay (by omega)) ?_
   refine Dq rfl (.inl rfl) rfl (fun _ h=>h) (yl_lda 0 ag81 rfl rfl rfl (hrowy)) ?_
   refine Dq rfl (.inl rfl) rfl (fun _ h=>h) (Yf fo43_3 rfl) ?_
   refine Dq rfl (.inl rfl) rfl (fun _ h=>h) (Yd 0 rfl rfl rfl na41) ?_
   refine Dq rfl (.inl rfl) rfl (fun _ h=>h) (Yo (i:=1) es41 rfl rfl haz (by omega)) ?_
   refine Dq rfl (.inl rfl) rfl (fun _ h=>h) (yl_lda 0 ag81 rfl rfl rfl (hrowz)) ?_
   refine De rfl (fun _ h=>h) ?_
   refine Lp (.inl rfl) rfl en74 rfl (fun w hw=>refText_any _ _ w (by omega)) ?_
   refine Ln (Ed ?_)
   refine Dq rfl (.inl rfl) rfl (fun _ h=>h) (yl_cats (b:=[32,91,32]) rfl rfl (by (try simp only [List.length_append,List.length_cons,List.length_nil]); omega)) ?_
   refine De rfl (fun _ h=>h) ?_
   refine Lp (.inl rfl) rfl en75 rfl (fun w hw=>exprText_any H k2 y ya yn 1 w (hw.vs _ (by simp)) hsuby hcy (by omega)) ?_
   refine Ln (Ed ?_)
   refine Dq rfl (.inl rfl) rfl (fun _ h=>h) (yl_cats rfl rfl (by (try simp only [List.length_append,List.length_cons,List.length_nil]); omega)) ?_
   refine Dq rfl (.inl rfl) rfl (fun _ h=>h) (yl_cats (b:=[32,93,32,61,32]) rfl rfl (by (try simp only [List.length_append,List.length_cons,List.length_nil]); omega)) ?_
   refine De rfl (fun _ h=>h) ?_
   refine Lp (.inl rfl) rfl en75 rfl (fun w hw=>exprText_any H k2 z za zn 1 w (hw.vs _ (by simp)) hsubz hcz (by omega)) ?_
   refine Ln (Ed ?_)
   refine Dq rfl (.inl rfl) rfl (fun _ h=>h) (yl_cats rfl rfl (by (try simp only [List.length_append,List.length_cons,List.length_nil]); omega)) ?_
   refine Dq rfl (.inl rfl) rfl (fun _ h=>h) (yl_cats (b:=[32,59]) rfl rfl (by (try simp only [List.length_append,List.length_cons,List.length_nil]); omega)) ?_
   refine Dq rfl (.inl rfl) rfl (fun _ h=>h) (Ya rfl) ?_
   refine WD.nil (fun _ h=>h) ?_
   refine Et (Crt (Ebr (Er ?_)))
   refine WE.ret1 rfl rfl fun w' hw=>?_
   exact ⟨by rw [HE],hw.fr⟩
  ·
   have h2:¬x.op=2:=by simpa using hc1
   refine Cs (Cr ?_)
   refine V0 (yl_eq rfl rfl) ?_
   refine V0 (Ya rfl) ?_
   refine Ln (Et ?_)
   refine Cc rfl (fun hc2=>?_) (fun hc2=>?_)
   ·
    have hk:x.op=3:=by simpa using hc2
    have HE:=TS3 hk
    have hN:=congrArg List.length HE
    simp only [List.length_append,List.length_cons,List.length_nil] at hN
    refine Cs ?_
    refine WC.draws0 [(0,true),(1,true),(2,true),(3,true),(6,true),(7,true),(4,false),(5,true),(8,false),(9,true),(10,true),(11,true)] mixed (by kernel_rfl) (fun _ _ _ d _ h=>by cases d<;>exact h) ?_
    refine Dq rfl (.inl rfl) rfl (fun _ h=>h) (Yf fo43_1 rfl) ?_
    refine Dq rfl (.inl rfl) rfl (fun _ h=>h) (Yd 0 rfl rfl rfl na9) ?_
    refine Dq rfl (.inl rfl) rfl (fun _ h=>h) (Yf fo43_2 rfl) ?_
    refine Dq rfl (.inl rfl) rfl (fun _ h=>h) (Yd 0 rfl rfl rfl na9) ?_
    refine Dq rfl (.inl rfl) rfl (fun _ h=>h) (Yf fo43_3 rfl) ?_
    refine Dq rfl (.inl rfl) rfl (fun _ h=>h) (Yd 0 rfl rfl rfl na41) ?_
    refine De rfl (fun _ h=>h) ?_
    refine Lp (.inl rfl) rfl en74 rfl (fun w hw=>refText_any _ _ w (by omega)) ?_
    refine Ln (Ed ?_)
    refine Dq rfl (.inl rfl) rfl (fun _ h=>h) (yl_cats (b:=[32,40]) rfl rfl (by (try simp only [List.length_append,List.length_cons,List.length_nil]); omega)) ?_
    refine De rfl (fun _ h=>h) ?_
    refine Lp (.inl rfl) rfl en76 rfl (fun w hw=>argsText_any H ke (fun k2 _ x a n d w h0 h1 h2 h3=>exprText_any H k2 x a n d w h0 h1 h2 h3) x.args a n 1 w (hw.vs _ (by simp)) hs1 ho.exprs (by omega)) ?_
    refine Ln (Ed ?_)
    refine Dq rfl (.inl rfl) rfl (fun _ h=>h) (yl_cats rfl rfl (by (try simp only [List.length_append,List.length_cons,List.length_nil]); omega)) ?_
    refine Dq rfl (.inl rfl) rfl (fun _ h=>h) (yl_cats (b:=[32,41,32,59]) rfl rfl (by (try simp only [List.length_append,List.length_cons,List.length_nil]); omega)) ?_
    refine Dq rfl (.inl rfl) rfl (fun _ h=>h) (Ya rfl) ?_
    refine WD.nil (fun _ h=>h) ?_
    refine Et (Crt (Ebr (Er ?_)))
    refine WE.ret1 rfl rfl fun w' hw=>?_
    exact ⟨by rw [HE],hw.fr⟩
   ·
    have h3:¬x.op=3:=by simpa using hc2
    refine Cs (Cr ?_)
    refine V0 (yl_eq rfl rfl) ?_
    refine V0 (Ya rfl) ?_
    refine Ln (Et ?_)
    refine Cc rfl (fun hc3=>?_) (fun hc3=>?_)
    ·
     have hk4:x.op=4:=by simpa using hc3
     have hlen:=okS_one ho (by omega) (by omega)
     obtain ⟨y,hyi⟩:∃y,x.args[0]? = some y:=get0 hlen (by decide)
     obtain ⟨pby,poy,hay,hry⟩:=hs1.elt 0 y hyi
     obtain ⟨k2,rfl⟩:∃k2,ke=k2+1:=by
       cases ke with
       | zero=>exact hry.elim
       | succ k2=>exact ⟨k2,rfl⟩
     obtain ⟨ya,yn,hrowy,hsuby⟩:=hry
     have hcy:=cntEs_get ho.exprs hyi
     have hcb:(cntB x.body (d+1)).tot=0:=ho.body (by simp [inner,hk4])
     have hN0:(stmtT x).length=(if 0<x.other.length then 6+(blockT x.other).length else 0)+(4+(exprT y).length+(blockT x.body).length):=by
       by_cases ho2:0<x.other.length
       · rw [TS4 hk4 hyi ho2,if_pos ho2]; simp only [List.length_append,List.length_cons,List.length_nil]; omega
       · rw [TS40 hk4 hyi ho2,if_neg ho2]; simp only [List.length_append,List.length_cons,List.length_nil]; omega
     refine Cs ?_
     refine WC.draws0 [(0,true),(1,true),(2,true),(3,true),(7,true),(8,true),(4,false),(5,true),(6,true),(9,false),(10,true),(11,true)] mixed (by kernel_rfl) (fun _ _ _ d _ h=>by cases d<;>exact h) ?_
     refine Dq rfl (.inl rfl) rfl (fun _ h=>h) (Yf fo43_3 rfl) ?_
     refine Dq rfl (.inl rfl) rfl (fun _ h=>h) (Yd 0 rfl rfl rfl na41) ?_
     refine Dq rfl (.inl rfl) rfl (fun _ h=>h) (Yo (i:=0) es41 rfl rfl hay (by omega)) ?_
     refine Dq rfl (.inl rfl) rfl (fun _ h=>h) (yl_lda 0 ag81 rfl rfl rfl (hrowy)) ?_
     refine Dq rfl (.inl rfl) rfl (fun _ h=>h) (Yf fo43_4 rfl) ?_
     refine Dq rfl (.inl rfl) rfl (fun _ h=>h) (Yd 0 rfl rfl rfl na25) ?_
     refine De rfl (fun _ h=>h) ?_
     refine Lp (.inl rfl) rfl en75 rfl (fun w hw=>exprText_any H k2 y ya yn 1 w (hw.vs _ (by simp)) hsuby hcy (by omega)) ?_
     refine Ln (Ed ?_)
     refine Dq rfl (.inl rfl) rfl (fun _ h=>h) (yl_cats (a:=[105,102,32]) rfl rfl (by (try simp only [List.length_append,List.length_cons,List.length_nil]); omega)) ?_
     refine Dq rfl (.inl rfl) rfl (fun _ h=>h) (yl_cats (b:=[32]) rfl rfl (by (try simp only [List.length_append,List.length_cons,List.length_nil]); omega)) ?_
     refine De rfl (fun _ h=>h) ?_
     refine Lp (.inl rfl) rfl en28 rfl (fun w hw=>hB x.body a2 n2 (d+1) w (hw.vs _ (by simp)) hs2 hcb (by omega)) ?_
     refine Ln (Ed ?_)
     refine Dq rfl (.inl rfl) rfl (fun _ h=>h) (yl_cats rfl rfl (by (try simp only [List.length_append,List.length_cons,List.length_nil]); omega)) ?_
     refine Dq rfl (.inl rfl) rfl (fun _ h=>h) (Ya rfl) ?_
     refine WD.nil (fun _ h=>h) ?_
     refine Et (Cs (Cs (Cr ?_)))
     refine V0 (Yf fo43_5 rfl) ?_
     refine V0 (Yd 0 rfl rfl rfl na25) ?_
     refine V0 (Yn es25 rfl) ?_
     refine V0 (yl_gt rfl rfl) ?_
     rw [int_lt0]
     refine Ln (Et ?_)
     refine Cc rfl (fun hc4=>?_) (fun hc4=>?_)
     ·
      have hol:0<x.other.length:=by simpa using hc4
      have HE:=TS4 hk4 hyi hol
      rw [if_pos hol] at hN0
      have hco:(cntB x.other (d+1)).tot=0:=ho.other hol
      refine Cr ?_
      refine V0 (Ym rfl) ?_
      refine V0 (yl_cats (b:=[32,101,108,115,101,32]) rfl rfl (by (try simp only [List.length_append,List.length_cons,List.length_nil]); omega)) ?_
      refine V0 (Yf fo43_5 rfl) ?_
      refine V0 (Yd 0 rfl rfl rfl na25) ?_
      refine Lp (.inl rfl) rfl en28 rfl (fun w hw=>hB x.other a3 n3 (d+1) w (hw.vs _ (by simp)) hs3 hco (by omega)) ?_
      refine V0 (yl_cats rfl rfl (by (try simp only [List.length_append,List.length_cons,List.length_nil]); omega)) ?_
      refine V0 (Ya rfl) ?_
      refine Ln (Et (Cs (Cr ?_)))
      refine V0 (Ym rfl) ?_
      refine V0 (Ya rfl) ?_
      refine Ln (Et (Crt (Ebr (Er ?_))))
      refine WE.ret1 rfl rfl fun w' hw=>?_
      exact ⟨by rw [HE],hw.fr⟩
     ·
      have hol:¬0<x.other.length:=by simpa using hc4
      have HE:=TS40 hk4 hyi hol
      refine Ck (Et (Cs (Cr ?_)))
      refine V0 (Ym rfl) ?_
      refine V0 (Ya rfl) ?_
      refine Ln (Et (Crt (Ebr (Er ?_))))
      refine WE.ret1 rfl rfl fun w' hw=>?_
      exact ⟨by rw [HE],hw.fr⟩
    ·
     have h4:¬x.op=4:=by simpa using hc3
     refine Cs (Cr ?_)
     refine V0 (yl_eq rfl rfl) ?_
     refine V0 (Ya rfl) ?_
     refine Ln (Et ?_)
     refine Cc rfl (fun hc5=>?_) (fun hc5=>?_)
     ·
      have hk5:x.op=5:=by simpa using hc5
      have hlen:=okS_one ho (by omega) (by omega)
      obtain ⟨y,hyi⟩:∃y,x.args[0]? = some y:=get0 hlen (by decide)
      obtain ⟨pby,poy,hay,hry⟩:=hs1.elt 0 y hyi
      obtain ⟨k2,rfl⟩:∃k2,ke=k2+1:=by
        cases ke with
        | zero=>exact hry.elim
        | succ k2=>exact ⟨k2,rfl⟩
      obtain ⟨ya,yn,hrowy,hsuby⟩:=hry
      have hcy:=cntEs_get ho.exprs hyi
      have hcb:(cntB x.body (d+1)).tot=0:=ho.body (by simp [inner,hk5])
      have HE:=TS5 hk5 hyi
      have hN:=congrArg List.length HE
      simp only [List.length_append,List.length_cons,List.length_nil] at hN
      refine Cs ?_
      refine WC.draws0 [(0,true),(1,true),(2,true),(3,true),(7,true),(8,true),(4,false),(5,true),(6,true),(9,false),(10,true),(11,true)] mixed (by kernel_rfl) (fun _ _ _ d _ h=>by cases d<;>exact h) ?_
      refine Dq rfl (.inl rfl) rfl (fun _ h=>h) (Yf fo43_3 rfl) ?_
      refine Dq rfl (.inl rfl) rfl (fun _ h=>h) (Yd 0 rfl rfl rfl na41) ?_
      refine Dq rfl (.inl rfl) rfl (fun _ h=>h) (Yo (i:=0) es41 rfl rfl hay (by omega)) ?_
      refine Dq rfl (.inl rfl) rfl (fun _ h=>h) (yl_lda 0 ag81 rfl rfl rfl (hrowy)) ?_
      refine Dq rfl (.inl rfl) rfl (fun _ h=>h) (Yf fo43_4 rfl) ?_
      refine Dq rfl (.inl rfl) rfl (fun _ h=>h) (Yd 0 rfl rfl rfl na25) ?_
      refine De rfl (fun _ h=>h) ?_
      refine Lp (.inl rfl) rfl en75 rfl (fun w hw=>exprText_any H k2 y ya yn 1 w (hw.vs _ (by simp)) hsuby hcy (by omega)) ?_
      refine Ln (Ed ?_)
      refine Dq rfl (.inl rfl) rfl (fun _ h=>h) (yl_cats (a:=[119,104,105,108,101,32]) rfl rfl (by (try simp only [List.length_append,List.length_cons,List.length_nil]); omega)) ?_
      refine Dq rfl (.inl rfl) rfl (fun _ h=>h) (yl_cats (b:=[32]) rfl rfl (by (try simp only [List.length_append,List.length_cons,List.length_nil]); omega)) ?_
      refine De rfl (fun _ h=>h) ?_
      refine Lp (.inl rfl) rfl en28 rfl (fun w hw=>hB x.body a2 n2 (d+1) w (hw.vs _ (by simp)) hs2 hcb (by omega)) ?_
      refine Ln (Ed ?_)
      refine Dq rfl (.inl rfl) rfl (fun _ h=>h) (yl_cats rfl rfl (by (try simp only [List.length_append,List.length_cons,List.length_nil]); omega)) ?_
      refine Dq rfl (.inl rfl) rfl (fun _ h=>h) (Ya rfl) ?_
      refine WD.nil (fun _ h=>h) ?_
      refine Et (Crt (Ebr (Er ?_)))
      refine WE.ret1 rfl rfl fun w' hw=>?_
      exact ⟨by rw [HE],hw.fr⟩
     ·
      have h5:¬x.op=5:=by simpa using hc5
      refine Cs (Cr ?_)
      refine V0 (yl_eq rfl rfl) ?_
      refine V0 (Ya rfl) ?_
      refine Ln (Et ?_)
      refine Cc rfl (fun hc6=>?_) (fun hc6=>?_)
      ·
       have hk:x.op=6:=by simpa using hc6
       have hlen:=okS_one ho (by omega) (by omega)
       obtain ⟨y,hyi⟩:∃y,x.args[0]? = some y:=get0 hlen (by decide)
       obtain ⟨pby,poy,hay,hry⟩:=hs1.elt 0 y hyi
       obtain ⟨k2,rfl⟩:∃k2,ke=k2+1:=by
         cases ke with
         | zero=>exact hry.elim
         | succ k2=>exact ⟨k2,rfl⟩
       obtain ⟨ya,yn,hrowy,hsuby⟩:=hry
       have hcy:=cntEs_get ho.exprs hyi
       have HE:=TS6 hk hyi
       have hN:=congrArg List.length HE
       simp only [List.length_append,List.length_cons,List.length_nil] at hN
       refine Cs (Cr ?_)
       refine V0 (Yf fo43_3 rfl) ?_
       refine V0 (Yd 0 rfl rfl rfl na41) ?_
       refine V0 (Yo (i:=0) es41 rfl rfl hay (by omega)) ?_
       refine V0 (yl_lda 0 ag81 rfl rfl rfl (hrowy)) ?_
       refine Lp (.inl rfl) rfl en75 rfl (fun w hw=>exprText_any H k2 y ya yn 1 w (hw.vs _ (by simp)) hsuby hcy (by omega)) ?_
       refine V0 (yl_cats (a:=[114,101,116,117,114,110,32]) rfl rfl (by (try simp only [List.length_append,List.length_cons,List.length_nil]); omega)) ?_
       refine V0 (yl_cats (b:=[32,59]) rfl rfl (by (try simp only [List.length_append,List.length_cons,List.length_nil]); omega)) ?_
       refine V0 (Ya rfl) ?_
       refine Ln (Et (Crt (Ebr (Er ?_))))
       refine WE.ret1 rfl rfl fun w' hw=>?_
       exact ⟨by rw [HE],hw.fr⟩
      ·
       have h6:¬x.op=6:=by simpa using hc6
       have hk:x.op=7:=by omega
       have hlen:=okS_one ho (by omega) (by omega)
       obtain ⟨y,hyi⟩:∃y,x.args[0]? = some y:=get0 hlen (by decide)
       obtain ⟨pby,poy,hay,hry⟩:=hs1.elt 0 y hyi
       obtain ⟨k2,rfl⟩:∃k2,ke=k2+1:=by
         cases ke with
         | zero=>exact hry.elim
         | succ k2=>exact ⟨k2,rfl⟩
       obtain ⟨ya,yn,hrowy,hsuby⟩:=hry
       have hcy:=cntEs_get ho.exprs hyi
       have HE:=TS7 hk hyi
       have hN:=congrArg List.length HE
       simp only [List.length_append,List.length_cons,List.length_nil] at hN
       refine Ck (Eb (Et (Cs (Cr ?_))))
       refine V0 (Yf fo43_3 rfl) ?_
       refine V0 (Yd 0 rfl rfl rfl na41) ?_
       refine V0 (Yo (i:=0) es41 rfl rfl hay (by omega)) ?_
       refine V0 (yl_lda 0 ag81 rfl rfl rfl (hrowy)) ?_
       refine Lp (.inl rfl) rfl en75 rfl (fun w hw=>exprText_any H k2 y ya yn 1 w (hw.vs _ (by simp)) hsuby hcy (by omega)) ?_
       refine V0 (yl_cats (a:=[111,117,116,32]) rfl rfl (by (try simp only [List.length_append,List.length_cons,List.length_nil]); omega)) ?_
       refine V0 (yl_cats (b:=[32,59]) rfl rfl (by (try simp only [List.length_append,List.length_cons,List.length_nil]); omega)) ?_
       refine V0 (Ya rfl) ?_
       refine Ln (Et (Crt ?_))
       refine WE.ret1 rfl rfl fun w' hw=>?_
       exact ⟨by rw [HE],hw.fr⟩
theorem blockText_any (H:View) (ke k:Nat) (l:List TStmt) (a:Option Addr) (n d:Nat) (w:World) (hH:Le H w) (hm:Sl (RdS ke k) 6 H a n l) (hcx:(cntB l d).tot=0) (hl:(blockT l).length≤9223372036854775807) :
   Calls Tryz.prog 28 #[.slice a l.length n] w fun e w'=>e = .returned (st (blockT l))∧Ext w w':=by
 induction k using Nat.strongRecOn generalizing l a n d w
 rename_i k ih
 have hcap:=hm.cap
 have hmax:=hm.max
 have hc3:(cntSs l d).tot=0:=(blkC0 hcx).2.2
 have hN:=blockT_len l
 refine enter Tryz.func28 rfl 21 rfl rfl ?_
 refine CWd (W':=Ws w [] [] [H]) (fun _ e=>by subst e; exact Ws.init (by simp [hH])) ?_
 refine Cs (Cr ?_)
 refine V0 (Ya rfl) ?_
 refine Ln (Et (Cs (Cr ?_)))
 refine V0 (Ya rfl) ?_
 refine Ln (Et (Cs (Cs (Cr ?_))))
 refine V0 (Ya rfl) ?_
 refine Ln (Et (Cb ?_))
 refine CW (ι:=Nat) (fun i=>[(4,.int .i64 (i:Int)),(3,st ([123,32]++stmtTs (l.take i)))]) [(0,_),(2,_)] (fun i=>i≤l.length) (fun i=>l.length-i) 0 (Nat.zero_le _) (sc rfl (sc rfl (sc rfl (sc rfl sn)))) ?_
 intro i hi
 refine Cs (Cs (Cr ?_))
 refine V0 (Ym rfl) ?_
 refine V0 (Ym rfl) ?_
 refine V0 (Yn es25 rfl) ?_
 refine V0 (yl_lt rfl rfl) ?_
 refine Ln (Et ?_)
 refine Cc rfl (fun hc0=>?_) (fun hc0=>?_)
 ·
  have hlt:i<l.length:=by simpa using hc0
  obtain ⟨y,hyi⟩:∃q,l[i]? = some q:=⟨_,List.getElem?_eq_getElem hlt⟩
  obtain ⟨pby,poy,hay,hry⟩:=hm.elt i y hyi
  obtain ⟨k2,rfl⟩:∃k2,k=k2+1:=by
    cases k with
    | zero=>exact hry.elim
    | succ k2=>exact ⟨k2,rfl⟩
  obtain ⟨ya,yn,y2,m2,y3,m3,hrow,hs1,hs2,hs3⟩:=hry
  have hcy:=cntSs_get hc3 hyi
  have hpt:=stmtT_part hyi
  have HC:[123,32]++stmtTs (l.take i)++stmtT y++[32]=[123,32]++stmtTs (l.take (i+1)):=by rw [stmtTs_take hyi]; simp
  refine Ck (Et (Cs (Cb (Cr ?_))))
  refine V0 (Ym rfl) ?_
  refine V0 (Ym rfl) ?_
  refine V0 (Ym rfl) ?_
  refine V0 (Yo es25 rfl rfl hay (by omega)) ?_
  refine V0 (yl_lda 0 ag43 rfl rfl rfl (hrow)) ?_
  refine Lp (.inl rfl) rfl en46 rfl (fun w hw=>stmtText_any H ke k2 (fun l a n d w h0 h1 h2 h3=>ih k2 (by omega) l a n d w h0 h1 h2 h3) y ya yn y2 m2 y3 m3 d w (hw.vs _ (by simp)) hs1 hs2 hs3 hcy (by omega)) ?_
  refine V0 (yl_cats rfl rfl (by (try simp only [List.length_append,List.length_cons,List.length_nil]); omega)) ?_
  refine V0 (yl_cats (b:=[32]) rfl rfl (by (try simp only [List.length_append,List.length_cons,List.length_nil]); omega)) ?_
  refine V0 (Ya rfl) ?_
  refine Ln (Eb (Et (Cr ?_)))
  refine V0 (Ym rfl) ?_
  refine V0 (Yi rfl rfl rfl (by omega)) ?_
  refine V0 (Ya rfl) ?_
  refine Ln ?_
  rw [HC]
  exact Ea (i+1) (by omega) (by omega) (sc rfl (sc rfl (sc rfl (sc rfl sn)))) (fun _ h=>h)
 ·
  have hge:¬i<l.length:=by simpa using hc0
  have hT:[123,32]++stmtTs (l.take i)++[125]=blockT l:=by rw [List.take_of_length_le (by omega)]; rfl
  have hle:=stmtTs_le l i
  refine Ce (Ex (Ex (Ebh (Et (Cs ?_)))))
  refine Cr ?_
  refine V0 (Ym rfl) ?_
  refine V0 (yl_cats (b:=[125]) rfl rfl (by (try simp only [List.length_append,List.length_cons,List.length_nil]); omega)) ?_
  refine V0 (Ya rfl) ?_
  refine Ln (Et (Crt ?_))
  refine WE.ret1 rfl rfl fun w' hw=>?_
  exact ⟨by rw [hT],hw.fr⟩
end Go.Proofs.YtjfldjidhkfnbaaGreatDoor
end
section
namespace Go.Proofs.YtjfldjidhkfnbaaGreatDoor
open Go.Bw
set_option linter.unusedVariables false
set_option linter.unusedSimpArgs false
theorem TD1 {d:TDecl} (h:d.kind=1) (h0:0≤d.n):declT d=pubT d.pub++([99,111,110,115,116,32]++d.nm++[32,61,32]++Lib.decDigits d.n.toNat++[32,59,32]):=by rw [declT,declTO,if_pos h,itoa_pos h0]; simp [w_const]
theorem TD2 {d:TDecl} (h:d.kind=2):declT d=pubT d.pub++([118,97,114,32]++d.nm++[32,59,32]):=by rw [declT,declTO,if_neg (by omega),if_pos h]; simp [w_var]
theorem TD3 {d:TDecl} (h1:¬d.kind=1) (h2:¬d.kind=2) (h0:0≤d.n):declT d=pubT d.pub++([97,114,114,97,121,32]++d.nm++[32,91,32]++Lib.decDigits d.n.toNat++[32,93,32,59,32]):=by rw [declT,declTO,if_neg h1,if_neg h2,itoa_pos h0]; simp [w_array]
theorem procT_eq (p:TProc):procT p=pubT p.pub++[112,114,111,99,32]++p.nm++[32,40]++argsT p.params++[32,41,32]++p.locs.flatMap locT++blockT p.body++[32]:=by unfold procT; simp [w_proc]
theorem modT_eq (m:TMod):modT m=[109,111,100,117,108,101,32]++m.nm++[32,123,32]++m.uses.flatMap useT++m.decls.flatMap declT++m.procs.flatMap procT++[109,97,105,110,32]++blockT m.main++[32,125]:=by unfold modT; simp [w_module,w_main]
theorem useT_len (u:Tx):(useT u).length=u.length+7:=by unfold useT w_use; simp only [List.length_append,List.length_cons,List.length_nil]; omega
theorem locT_len (u:Tx):(locT u).length=u.length+9:=by unfold locT w_local; simp only [List.length_append,List.length_cons,List.length_nil]; omega
theorem flatAll {α:Type} {f:α→Tx} {l:List α} {i:Nat} (h:¬i<l.length):(l.take i).flatMap f=l.flatMap f:=by rw [List.take_of_length_le (by omega)]
theorem en26:Enters Tryz.prog 26:=enters_of Tryz.func26 (by kernel_rfl) rfl
theorem moduleText_any (H:View) (ke ks:Nat) (r:MAt) (m:TMod) (w:World) (hH:Le H w) (hm:RdM ke ks H r m) (ht:(modC m).tot=0) (hl:(modT m).length≤9223372036854775807) :
   Calls Tryz.prog 10 #[.agg (modV m r).toArray] w fun e w'=>e = .returned (st (modT m))∧Ext w w':=by
 have hom:=okM ht
 have hN:=congrArg List.length (modT_eq m)
 simp only [List.length_append,List.length_cons,List.length_nil] at hN
 have cu:=hm.uses.cap
 have xu:=hm.uses.max
 have cd:=hm.decls.cap
 have xd:=hm.decls.max
 have cp:=hm.procs.cap
 have xp:=hm.procs.max
 refine enter Tryz.func10 rfl 154 rfl rfl ?_
 refine CWd (W':=Ws w [] [] [H]) (fun _ e=>by subst e; exact Ws.init (by simp [hH])) ?_
 refine Cs (Cr ?_)
 refine WL.box (.inl rfl) rfl rfl fun b1=>?_
 refine V0 (Ya rfl) ?_
 refine Ln (Et (Cs (Cr ?_)))
 refine V0 (Yf fo27_0 rfl) ?_
 refine V0 (Yd 0 rfl rfl rfl na9) ?_
 refine V0 (yl_cats (a:=[109,111,100,117,108,101,32]) rfl rfl (by (try simp only [List.length_append,List.length_cons,List.length_nil]); omega)) ?_
 refine V0 (yl_cats (b:=[32,123,32]) rfl rfl (by (try simp only [List.length_append,List.length_cons,List.length_nil]); omega)) ?_
 refine V0 (Ya rfl) ?_
 refine Ln (Et (Cs (Cs (Cr ?_))))
 refine V0 (Ya rfl) ?_
 refine Ln (Et (Cb ?_))
 refine CW (ι:=Nat×Tx) (fun g=>[(4,.int .i64 (g.1:Int)),(3,st g.2)]) [(1,_),(2,_)] (fun g=>g.1≤m.uses.length∧g.2=[109,111,100,117,108,101,32]++m.nm++[32,123,32]++(m.uses.take g.1).flatMap useT) (fun g=>m.uses.length-g.1) (0,[109,111,100,117,108,101,32]++m.nm++[32,123,32]) ⟨Nat.zero_le _,by simp [argsT]⟩ (sc rfl (sc rfl (sc rfl (sc rfl sn)))) ?_
 intro g ⟨hig,hTg⟩
 have hLg:=congrArg List.length hTg
 simp only [List.length_append,List.length_cons,List.length_nil] at hLg
 refine Cs (Cs (Cr ?_))
 refine V0 (Ym rfl) ?_
 refine V0 (Yf fo27_1 rfl) ?_
 refine V0 (Yd 0 rfl rfl rfl na22) ?_
 refine V0 (Yn es22 rfl) ?_
 refine V0 (yl_lt rfl rfl) ?_
 refine Ln (Et ?_)
 refine Cc rfl (fun hc0=>?_) (fun hc0=>?_)
 ·
  have hlt:g.1<m.uses.length:=by simpa using hc0
  obtain ⟨u,hui⟩:∃x,m.uses[g.1]? = some x:=⟨_,List.getElem?_eq_getElem hlt⟩
  obtain ⟨pbu,pou,ha,hrow⟩:=hm.uses.elt g.1 u hui
  have hrow:RdC H pbu (pou+g.1*1) (strC u):=hrow
  have hpt:=flat_part (f:=useT) hui
  rw [useT_len] at hpt
  refine Ck (Et (Cs (Cb (Cr ?_))))
  refine V0 (Ym rfl) ?_
  refine V0 (yl_cats (b:=[117,115,101,32]) rfl rfl (by (try simp only [List.length_append,List.length_cons,List.length_nil]); omega)) ?_
  refine V0 (Yf fo27_1 rfl) ?_
  refine V0 (Yd 0 rfl rfl rfl na22) ?_
  refine V0 (Ym rfl) ?_
  refine V0 (Yo es22 rfl rfl ha (by omega)) ?_
  refine V0 (yl_ld 0 na9 rfl rfl (hrow 0 _ rfl)) ?_
  refine V0 (yl_cats rfl rfl (by (try simp only [List.length_append,List.length_cons,List.length_nil]); omega)) ?_
  refine V0 (yl_cats (b:=[32,59,32]) rfl rfl (by (try simp only [List.length_append,List.length_cons,List.length_nil]); omega)) ?_
  refine V0 (Ya rfl) ?_
  refine Ln (Eb (Et (Cr ?_)))
  refine V0 (Ym rfl) ?_
  refine V0 (Yi rfl rfl rfl (by omega)) ?_
  refine V0 (Ya rfl) ?_
  refine Ln ?_
  exact Ea ((g.1+1,g.2++[117,115,101,32]++u++[32,59,32]):Nat×Tx) (by show m.uses.length-(g.1+1)<m.uses.length-g.1; omega) ⟨by show g.1+1≤m.uses.length; omega,by show _=_++(m.uses.take (g.1+1)).flatMap useT; rw [flat_snoc hui,hTg]; simp [useT,w_use]⟩ (sc rfl (sc rfl (sc rfl (sc rfl sn)))) (fun _ h=>h)
 ·
  have hge:¬g.1<m.uses.length:=by simpa using hc0
  rw [flatAll hge] at hTg hLg
  refine Ce (Ex (Ex (Ebh (Et (Cs ?_)))))
  refine Cs (Cr ?_)
  refine V0 (Ya rfl) ?_
  refine Ln (Et (Cb ?_))
  refine CW (ι:=Nat×Tx) (fun g1=>[(5,.int .i64 (g1.1:Int)),(3,st g1.2)]) [(1,_),(2,_)] (fun g1=>g1.1≤m.decls.length∧g1.2=([109,111,100,117,108,101,32]++m.nm++[32,123,32]++m.uses.flatMap useT)++(m.decls.take g1.1).flatMap declT) (fun g1=>m.decls.length-g1.1) (0,g.2) ⟨Nat.zero_le _,by simp [argsT,hTg]⟩ (sc rfl (sc rfl (sc rfl (sc rfl sn)))) ?_
  intro g1 ⟨hig1,hTg1⟩
  have hLg1:=congrArg List.length hTg1
  simp only [List.length_append,List.length_cons,List.length_nil] at hLg1
  refine Cs (Cs (Cr ?_))
  refine V0 (Ym rfl) ?_
  refine V0 (Yf fo27_2 rfl) ?_
  refine V0 (Yd 0 rfl rfl rfl na23) ?_
  refine V0 (Yn es23 rfl) ?_
  refine V0 (yl_lt rfl rfl) ?_
  refine Ln (Et ?_)
  refine Cc rfl (fun hc1=>?_) (fun hc1=>?_)
  ·
   have hlt:g1.1<m.decls.length:=by simpa using hc1
   obtain ⟨d,hdi⟩:∃q,m.decls[g1.1]? = some q:=⟨_,List.getElem?_eq_getElem hlt⟩
   obtain ⟨pbd,pod,had,hrd⟩:=hm.decls.elt g1.1 d hdi
   have hrd:RdC H pbd (pod+g1.1*4) d.cells:=hrd
   have hd:=okD (hom.decls d (List.mem_of_getElem? hdi))
   have hpt:=flat_part (f:=declT) hdi
   have hdl:(pubT d.pub).length≤(declT d).length:=by unfold declT; rw [List.length_append]; omega
   refine Ck (Et (Cs (Cb (Cs (Cr ?_)))))
   refine V0 (Yf fo27_2 rfl) ?_
   refine V0 (Yd 0 rfl rfl rfl na23) ?_
   refine V0 (Ym rfl) ?_
   refine V0 (Yo es23 rfl rfl had (by omega)) ?_
   refine V0 (yl_lda 0 ag53 rfl rfl rfl (hrd)) ?_
   refine WL.alloc (.inl rfl) rfl zr53 fun b6=>?_
   refine Lst 0 (.inl rfl) rfl rfl rfl sz53 rfl rfl rfl ?_
   refine Ln (Et (Cs (Cr ?_)))
   refine V0 (Ym rfl) ?_
   refine V0 (Yf fo53_2 rfl) ?_
   refine V0 (Yd 0 rfl rfl rfl na4) ?_
   refine Lp (.inl rfl) rfl en26 rfl (fun w hw=>pubText_any _ w) ?_
   refine V0 (yl_cats rfl rfl (by (try simp only [List.length_append,List.length_cons,List.length_nil]); omega)) ?_
   refine V0 (Ya rfl) ?_
   refine Ln (Et (Cs (Cr ?_)))
   refine V0 (Yf fo53_0 rfl) ?_
   refine V0 (Yd 0 rfl rfl rfl na3) ?_
   refine Ln (Et (Cb (Cs (Cr ?_))))
   refine V0 (yl_eq rfl rfl) ?_
   refine V0 (Ya rfl) ?_
   refine Ln (Et ?_)
   refine Cc rfl (fun hc2=>?_) (fun hc2=>?_)
   ·
    have hk:d.kind=1:=by simpa using hc2
    have hn0:0≤d.n:=(hd.n1 hk).1
    have hdm:d.n≤1099511627775:=(hd.n1 hk).2
    have HD:=TD1 hk hn0
    have hDl:=congrArg List.length HD
    simp only [List.length_append,List.length_cons,List.length_nil] at hDl
    refine WC.draws0 [(0,true),(1,true),(2,true),(3,true),(4,true),(5,true),(6,true),(7,true),(8,false),(9,true),(10,true),(11,true)] mixed (by kernel_rfl) (fun _ _ _ d _ h=>by cases d<;>exact h) ?_
    refine Dq rfl (.inl rfl) rfl (fun _ h=>h) (Ym rfl) ?_
    refine Dq rfl (.inl rfl) rfl (fun _ h=>h) (yl_cats (b:=[99,111,110,115,116,32]) rfl rfl (by (try simp only [List.length_append,List.length_cons,List.length_nil]); omega)) ?_
    refine Dq rfl (.inl rfl) rfl (fun _ h=>h) (Yf fo53_1 rfl) ?_
    refine Dq rfl (.inl rfl) rfl (fun _ h=>h) (Yd 0 rfl rfl rfl na9) ?_
    refine Dq rfl (.inl rfl) rfl (fun _ h=>h) (yl_cats rfl rfl (by (try simp only [List.length_append,List.length_cons,List.length_nil]); omega)) ?_
    refine Dq rfl (.inl rfl) rfl (fun _ h=>h) (yl_cats (b:=[32,61,32]) rfl rfl (by (try simp only [List.length_append,List.length_cons,List.length_nil]); omega)) ?_
    refine Dq rfl (.inl rfl) rfl (fun _ h=>h) (Yf fo53_3 rfl) ?_
    refine Dq rfl (.inl rfl) rfl (fun _ h=>h) (Yd 0 rfl rfl rfl na3) ?_
    refine De rfl (fun _ h=>h) ?_
    refine Lp (.inl rfl) rfl en27 rfl (fun w hw=>by
        have:=digits_any d.n.toNat w (by omega)
        rw [Int.toNat_of_nonneg hn0] at this
        exact this) ?_
    refine Ln (Ed ?_)
    refine Dq rfl (.inl rfl) rfl (fun _ h=>h) (yl_cats rfl rfl (by (try simp only [List.length_append,List.length_cons,List.length_nil]); omega)) ?_
    refine Dq rfl (.inl rfl) rfl (fun _ h=>h) (yl_cats (b:=[32,59,32]) rfl rfl (by (try simp only [List.length_append,List.length_cons,List.length_nil]); omega)) ?_
    refine Dq rfl (.inl rfl) rfl (fun _ h=>h) (Ya rfl) ?_
    refine WD.nil (fun _ h=>h) ?_
    refine Eb (Eb (Et (Cr ?_)))
    refine V0 (Ym rfl) ?_
    refine V0 (Yi rfl rfl rfl (by omega)) ?_
    refine V0 (Ya rfl) ?_
    refine Ln ?_
    exact Ea ((g1.1+1,g1.2++pubT d.pub++[99,111,110,115,116,32]++d.nm++[32,61,32]++Lib.decDigits d.n.toNat++[32,59,32]):Nat×Tx) (by show m.decls.length-(g1.1+1)<m.decls.length-g1.1; omega) ⟨by show g1.1+1≤m.decls.length; omega,by show _=_++(m.decls.take (g1.1+1)).flatMap declT; rw [flat_snoc hdi,HD,hTg1]; simp⟩ (sc rfl (sc rfl (sc rfl (sc rfl sn)))) (fun _ h=>Ws.drop (L:=[_]) h)
   ·
    have h1:¬d.kind=1:=by simpa using hc2
    refine Cs (Cr ?_)
    refine V0 (yl_eq rfl rfl) ?_
    refine V0 (Ya rfl) ?_
    refine Ln (Et ?_)
    refine Cc rfl (fun hc3=>?_) (fun hc3=>?_)
    ·
     have hk:d.kind=2:=by simpa using hc3
     have HD:=TD2 hk
     have hDl:=congrArg List.length HD
     simp only [List.length_append,List.length_cons,List.length_nil] at hDl
     refine Cr ?_
     refine V0 (Ym rfl) ?_
     refine V0 (yl_cats (b:=[118,97,114,32]) rfl rfl (by (try simp only [List.length_append,List.length_cons,List.length_nil]); omega)) ?_
     refine V0 (Yf fo53_1 rfl) ?_
     refine V0 (Yd 0 rfl rfl rfl na9) ?_
     refine V0 (yl_cats rfl rfl (by (try simp only [List.length_append,List.length_cons,List.length_nil]); omega)) ?_
     refine V0 (yl_cats (b:=[32,59,32]) rfl rfl (by (try simp only [List.length_append,List.length_cons,List.length_nil]); omega)) ?_
     refine V0 (Ya rfl) ?_
     refine Ln (Eb (Eb (Et (Cr ?_))))
     refine V0 (Ym rfl) ?_
     refine V0 (Yi rfl rfl rfl (by omega)) ?_
     refine V0 (Ya rfl) ?_
     refine Ln ?_
     exact Ea ((g1.1+1,g1.2++pubT d.pub++[118,97,114,32]++d.nm++[32,59,32]):Nat×Tx) (by show m.decls.length-(g1.1+1)<m.decls.length-g1.1; omega) ⟨by show g1.1+1≤m.decls.length; omega,by show _=_++(m.decls.take (g1.1+1)).flatMap declT; rw [flat_snoc hdi,HD,hTg1]; simp⟩ (sc rfl (sc rfl (sc rfl (sc rfl sn)))) (fun _ h=>Ws.drop (L:=[_]) h)
    ·
     have h2:¬d.kind=2:=by simpa using hc3
     have hk:d.kind=3:=by have:=hd.kind; omega
     have hn0:0≤d.n:=by have:=hd.n3 hk; omega
     have hdm:d.n≤1099511627775:=by have:=hd.n3 hk; omega
     have HD:=TD3 h1 h2 hn0
     have hDl:=congrArg List.length HD
     simp only [List.length_append,List.length_cons,List.length_nil] at hDl
     refine WC.draws0 [(0,true),(1,true),(2,true),(3,true),(4,true),(5,true),(6,true),(7,true),(8,false),(9,true),(10,true),(11,true)] mixed (by kernel_rfl) (fun _ _ _ d _ h=>by cases d<;>exact h) ?_
     refine Dq rfl (.inl rfl) rfl (fun _ h=>h) (Ym rfl) ?_
     refine Dq rfl (.inl rfl) rfl (fun _ h=>h) (yl_cats (b:=[97,114,114,97,121,32]) rfl rfl (by (try simp only [List.length_append,List.length_cons,List.length_nil]); omega)) ?_
     refine Dq rfl (.inl rfl) rfl (fun _ h=>h) (Yf fo53_1 rfl) ?_
     refine Dq rfl (.inl rfl) rfl (fun _ h=>h) (Yd 0 rfl rfl rfl na9) ?_
     refine Dq rfl (.inl rfl) rfl (fun _ h=>h) (yl_cats rfl rfl (by (try simp only [List.length_append,List.length_cons,List.length_nil]); omega)) ?_
     refine Dq rfl (.inl rfl) rfl (fun _ h=>h) (yl_cats (b:=[32,91,32]) rfl rfl (by (try simp only [List.length_append,List.length_cons,List.length_nil]); omega)) ?_
     refine Dq rfl (.inl rfl) rfl (fun _ h=>h) (Yf fo53_3 rfl) ?_
     refine Dq rfl (.inl rfl) rfl (fun _ h=>h) (Yd 0 rfl rfl rfl na3) ?_
     refine De rfl (fun _ h=>h) ?_
     refine Lp (.inl rfl) rfl en27 rfl (fun w hw=>by
         have:=digits_any d.n.toNat w (by omega)
         rw [Int.toNat_of_nonneg hn0] at this
         exact this) ?_
     refine Ln (Ed ?_)
     refine Dq rfl (.inl rfl) rfl (fun _ h=>h) (yl_cats rfl rfl (by (try simp only [List.length_append,List.length_cons,List.length_nil]); omega)) ?_
     refine Dq rfl (.inl rfl) rfl (fun _ h=>h) (yl_cats (b:=[32,93,32,59,32]) rfl rfl (by (try simp only [List.length_append,List.length_cons,List.length_nil]); omega)) ?_
     refine Dq rfl (.inl rfl) rfl (fun _ h=>h) (Ya rfl) ?_
     refine WD.nil (fun _ h=>h) ?_
     refine Eb (Eb (Et (Cr ?_)))
     refine V0 (Ym rfl) ?_
     refine V0 (Yi rfl rfl rfl (by omega)) ?_
     refine V0 (Ya rfl) ?_
     refine Ln ?_
     exact Ea ((g1.1+1,g1.2++pubT d.pub++[97,114,114,97,121,32]++d.nm++[32,91,32]++Lib.decDigits d.n.toNat++[32,93,32,59,32]):Nat×Tx) (by show m.decls.length-(g1.1+1)<m.decls.length-g1.1; omega) ⟨by show g1.1+1≤m.decls.length; omega,by show _=_++(m.decls.take (g1.1+1)).flatMap declT; rw [flat_snoc hdi,HD,hTg1]; simp⟩ (sc rfl (sc rfl (sc rfl (sc rfl sn)))) (fun _ h=>Ws.drop (L:=[_]) h)
  ·
   have hge1:¬g1.1<m.decls.length:=by simpa using hc1
   rw [flatAll hge1] at hTg1 hLg1
   refine Ce (Ex (Ex (Ebh (Et (Cs ?_)))))
   refine Cs (Cr ?_)
   refine V0 (Ya rfl) ?_
   refine Ln (Et (Cb ?_))
   refine CW (ι:=Nat×Tx) (fun j=>[(7,.int .i64 (j.1:Int)),(3,st j.2)]) [(1,_),(2,_)] (fun j=>j.1≤m.procs.length∧j.2=(([109,111,100,117,108,101,32]++m.nm++[32,123,32]++m.uses.flatMap useT)++m.decls.flatMap declT)++(m.procs.take j.1).flatMap procT) (fun j=>m.procs.length-j.1) (0,g1.2) ⟨Nat.zero_le _,by simp [argsT,hTg1]⟩ (sc rfl (sc rfl (sc rfl (sc rfl sn)))) ?_
   intro j ⟨hij,hTj⟩
   have hLj:=congrArg List.length hTj
   simp only [List.length_append,List.length_cons,List.length_nil] at hLj
   refine Cs (Cs (Cr ?_))
   refine V0 (Ym rfl) ?_
   refine V0 (Yf fo27_3 rfl) ?_
   refine V0 (Yd 0 rfl rfl rfl na24) ?_
   refine V0 (Yn es24 rfl) ?_
   refine V0 (yl_lt rfl rfl) ?_
   refine Ln (Et ?_)
   refine Cc rfl (fun hc4=>?_) (fun hc4=>?_)
   ·
    have hlt:j.1<m.procs.length:=by simpa using hc4
    obtain ⟨p,hpi⟩:∃q,m.procs[j.1]? = some q:=⟨_,List.getElem?_eq_getElem hlt⟩
    obtain ⟨pbp,pop,hap,hrp⟩:=hm.procs.elt j.1 p hpi
    obtain ⟨pa1,pc1,pa2,pc2,pa3,pc3,hrow,hs1,hs2,hs3⟩:=hrp
    have hp:=okP (hom.procs p (List.mem_of_getElem? hpi))
    have hpt:=flat_part (f:=procT) hpi
    have hPl:=congrArg List.length (procT_eq p)
    simp only [List.length_append,List.length_cons,List.length_nil] at hPl
    have c1_:=hs1.cap
    have x1_:=hs1.max
    have c2_:=hs2.cap
    have x2_:=hs2.max
    refine Ck (Et (Cs (Cb (Cs (Cr ?_)))))
    refine V0 (Yf fo27_3 rfl) ?_
    refine V0 (Yd 0 rfl rfl rfl na24) ?_
    refine V0 (Ym rfl) ?_
    refine V0 (Yo es24 rfl rfl hap (by omega)) ?_
    refine V0 (yl_lda 0 ag56 rfl rfl rfl (hrow)) ?_
    refine WL.alloc (.inl rfl) rfl zr56 fun b8=>?_
    refine Lst 0 (.inl rfl) rfl rfl rfl sz56 rfl rfl rfl ?_
    refine Ln (Et (Cs ?_))
    refine WC.draws0 [(0,true),(1,true),(2,true),(6,true),(7,true),(3,false),(4,true),(5,true),(8,true),(9,true),(10,true)] mixed (by kernel_rfl) (fun _ _ _ d _ h=>by cases d<;>exact h) ?_
    refine Dq rfl (.inl rfl) rfl (fun _ h=>h) (Ym rfl) ?_
    refine Dq rfl (.inl rfl) rfl (fun _ h=>h) (Yf fo56_1 rfl) ?_
    refine Dq rfl (.inl rfl) rfl (fun _ h=>h) (Yd 0 rfl rfl rfl na4) ?_
    refine Dq rfl (.inl rfl) rfl (fun _ h=>h) (Yf fo56_0 rfl) ?_
    refine Dq rfl (.inl rfl) rfl (fun _ h=>h) (Yd 0 rfl rfl rfl na9) ?_
    refine De rfl (fun _ h=>h) ?_
    refine Lp (.inl rfl) rfl en26 rfl (fun w hw=>pubText_any _ w) ?_
    refine Ln (Ed ?_)
    refine Dq rfl (.inl rfl) rfl (fun _ h=>h) (yl_cats rfl rfl (by (try simp only [List.length_append,List.length_cons,List.length_nil]); omega)) ?_
    refine Dq rfl (.inl rfl) rfl (fun _ h=>h) (yl_cats (b:=[112,114,111,99,32]) rfl rfl (by (try simp only [List.length_append,List.length_cons,List.length_nil]); omega)) ?_
    refine Dq rfl (.inl rfl) rfl (fun _ h=>h) (yl_cats rfl rfl (by (try simp only [List.length_append,List.length_cons,List.length_nil]); omega)) ?_
    refine Dq rfl (.inl rfl) rfl (fun _ h=>h) (yl_cats (b:=[32,40]) rfl rfl (by (try simp only [List.length_append,List.length_cons,List.length_nil]); omega)) ?_
    refine Dq rfl (.inl rfl) rfl (fun _ h=>h) (Ya rfl) ?_
    refine WD.nil (fun _ h=>h) ?_
    refine Et (Cs (Cs (Cr ?_)))
    refine V0 (Ya rfl) ?_
    refine Ln (Et (Cb ?_))
    refine CW (ι:=Nat×Tx) (fun e=>[(9,.int .i64 (e.1:Int)),(3,st e.2)]) [(1,_),(2,_),(7,_),(8,_)] (fun e=>e.1≤p.params.length∧e.2=(j.2++pubT p.pub++[112,114,111,99,32]++p.nm++[32,40])++argsT (p.params.take e.1)) (fun e=>p.params.length-e.1) (0,(j.2++pubT p.pub++[112,114,111,99,32]++p.nm++[32,40])) ⟨Nat.zero_le _,by simp [argsT]⟩ (sc rfl (sc rfl (sc rfl (sc rfl (sc rfl (sc rfl sn)))))) ?_
    intro e ⟨hie,hTe⟩
    have hLe:=congrArg List.length hTe
    simp only [List.length_append,List.length_cons,List.length_nil] at hLe
    refine Cs (Cs (Cr ?_))
    refine V0 (Ym rfl) ?_
    refine V0 (Yf fo56_2 rfl) ?_
    refine V0 (Yd 0 rfl rfl rfl na22) ?_
    refine V0 (Yn es22 rfl) ?_
    refine V0 (yl_lt rfl rfl) ?_
    refine Ln (Et ?_)
    refine Cc rfl (fun hc5=>?_) (fun hc5=>?_)
    ·
     have hlt:e.1<p.params.length:=by simpa using hc5
     obtain ⟨s,hsi⟩:∃x,p.params[e.1]? = some x:=⟨_,List.getElem?_eq_getElem hlt⟩
     obtain ⟨pbs,pos,ha,hrow⟩:=hs1.elt e.1 s hsi
     have hrow:RdC H pbs (pos+e.1*1) (strC s):=hrow
     have hle:=argsT_le p.params (e.1+1)
     refine Ck (Et (Cs (Cb (Cs (Cs ?_)))))
     refine Cr ?_
     refine V0 (Ym rfl) ?_
     refine V0 (yl_gt rfl rfl) ?_
     refine Ln (Et ?_)
     refine Cc rfl (fun hc6=>?_) (fun hc6=>?_)
     ·
      have HC:=argsT_takeS hsi (by simp at hc6; omega)
      rw [HC] at hle
      simp only [List.length_append,List.length_cons,List.length_nil] at hle
      refine Cr ?_
      refine V0 (Ym rfl) ?_
      refine V0 (yl_cats (b:=[32,44]) rfl rfl (by (try simp only [List.length_append,List.length_cons,List.length_nil]); omega)) ?_
      refine V0 (Ya rfl) ?_
      refine Ln (Et (Cr ?_))
      refine V0 (Ym rfl) ?_
      refine V0 (yl_cats (b:=[32]) rfl rfl (by (try simp only [List.length_append,List.length_cons,List.length_nil]); omega)) ?_
      refine V0 (Yf fo56_2 rfl) ?_
      refine V0 (Yd 0 rfl rfl rfl na22) ?_
      refine V0 (Ym rfl) ?_
      refine V0 (Yo es22 rfl rfl ha (by omega)) ?_
      refine V0 (yl_ld 0 na9 rfl rfl (hrow 0 _ rfl)) ?_
      refine V0 (yl_cats rfl rfl (by (try simp only [List.length_append,List.length_cons,List.length_nil]); omega)) ?_
      refine V0 (Ya rfl) ?_
      refine Ln (Eb (Et (Cr ?_)))
      refine V0 (Ym rfl) ?_
      refine V0 (Yi rfl rfl rfl (by omega)) ?_
      refine V0 (Ya rfl) ?_
      refine Ln ?_
      exact Ea ((e.1+1,e.2++[32,44]++[32]++s):Nat×Tx) (by show p.params.length-(e.1+1)<p.params.length-e.1; omega) ⟨by show e.1+1≤p.params.length; omega,by show _=_++argsT (p.params.take (e.1+1)); rw [HC,hTe]; simp⟩ (sc rfl (sc rfl (sc rfl (sc rfl (sc rfl (sc rfl sn)))))) (fun _ h=>h)
     ·
      have HC:=argsT_take0 hsi (by simp at hc6; omega)
      rw [HC] at hle
      simp only [List.length_append,List.length_cons,List.length_nil] at hle
      refine Ck (Et (Cr ?_))
      refine V0 (Ym rfl) ?_
      refine V0 (yl_cats (b:=[32]) rfl rfl (by (try simp only [List.length_append,List.length_cons,List.length_nil]); omega)) ?_
      refine V0 (Yf fo56_2 rfl) ?_
      refine V0 (Yd 0 rfl rfl rfl na22) ?_
      refine V0 (Ym rfl) ?_
      refine V0 (Yo es22 rfl rfl ha (by omega)) ?_
      refine V0 (yl_ld 0 na9 rfl rfl (hrow 0 _ rfl)) ?_
      refine V0 (yl_cats rfl rfl (by (try simp only [List.length_append,List.length_cons,List.length_nil]); omega)) ?_
      refine V0 (Ya rfl) ?_
      refine Ln (Eb (Et (Cr ?_)))
      refine V0 (Ym rfl) ?_
      refine V0 (Yi rfl rfl rfl (by omega)) ?_
      refine V0 (Ya rfl) ?_
      refine Ln ?_
      exact Ea ((e.1+1,e.2++[32]++s):Nat×Tx) (by show p.params.length-(e.1+1)<p.params.length-e.1; omega) ⟨by show e.1+1≤p.params.length; omega,by show _=_++argsT (p.params.take (e.1+1)); rw [HC,hTe]; simp⟩ (sc rfl (sc rfl (sc rfl (sc rfl (sc rfl (sc rfl sn)))))) (fun _ h=>h)
    ·
     have hge3:¬e.1<p.params.length:=by simpa using hc5
     rw [show p.params.take e.1=p.params from List.take_of_length_le (by omega)] at hTe hLe
     refine Ce (Ex (Ex (Ebh (Et (Cs ?_)))))
     refine Cr ?_
     refine V0 (Ym rfl) ?_
     refine V0 (yl_cats (b:=[32,41,32]) rfl rfl (by (try simp only [List.length_append,List.length_cons,List.length_nil]); omega)) ?_
     refine V0 (Ya rfl) ?_
     refine Ln (Et (Cs (Cs (Cr ?_))))
     refine V0 (Ya rfl) ?_
     refine Ln (Et (Cb ?_))
     refine CW (ι:=Nat×Tx) (fun f=>[(10,.int .i64 (f.1:Int)),(3,st f.2)]) [(1,_),(2,_),(7,_),(8,_)] (fun f=>f.1≤p.locs.length∧f.2=((j.2++pubT p.pub++[112,114,111,99,32]++p.nm++[32,40])++argsT p.params++[32,41,32])++(p.locs.take f.1).flatMap locT) (fun f=>p.locs.length-f.1) (0,e.2++[32,41,32]) ⟨Nat.zero_le _,by simp [argsT,hTe]⟩ (sc rfl (sc rfl (sc rfl (sc rfl (sc rfl (sc rfl sn)))))) ?_
     intro f ⟨hif,hTf⟩
     have hLf:=congrArg List.length hTf
     simp only [List.length_append,List.length_cons,List.length_nil] at hLf
     refine Cs (Cs (Cr ?_))
     refine V0 (Ym rfl) ?_
     refine V0 (Yf fo56_3 rfl) ?_
     refine V0 (Yd 0 rfl rfl rfl na22) ?_
     refine V0 (Yn es22 rfl) ?_
     refine V0 (yl_lt rfl rfl) ?_
     refine Ln (Et ?_)
     refine Cc rfl (fun hc7=>?_) (fun hc7=>?_)
     ·
      have hlt:f.1<p.locs.length:=by simpa using hc7
      obtain ⟨s,hsi⟩:∃x,p.locs[f.1]? = some x:=⟨_,List.getElem?_eq_getElem hlt⟩
      obtain ⟨pbs,pos,ha,hrow⟩:=hs2.elt f.1 s hsi
      have hrow:RdC H pbs (pos+f.1*1) (strC s):=hrow
      have hpt2:=flat_part (f:=locT) hsi
      rw [locT_len] at hpt2
      refine Ck (Et (Cs (Cb (Cr ?_))))
      refine V0 (Ym rfl) ?_
      refine V0 (yl_cats (b:=[108,111,99,97,108,32]) rfl rfl (by (try simp only [List.length_append,List.length_cons,List.length_nil]); omega)) ?_
      refine V0 (Yf fo56_3 rfl) ?_
      refine V0 (Yd 0 rfl rfl rfl na22) ?_
      refine V0 (Ym rfl) ?_
      refine V0 (Yo es22 rfl rfl ha (by omega)) ?_
      refine V0 (yl_ld 0 na9 rfl rfl (hrow 0 _ rfl)) ?_
      refine V0 (yl_cats rfl rfl (by (try simp only [List.length_append,List.length_cons,List.length_nil]); omega)) ?_
      refine V0 (yl_cats (b:=[32,59,32]) rfl rfl (by (try simp only [List.length_append,List.length_cons,List.length_nil]); omega)) ?_
      refine V0 (Ya rfl) ?_
      refine Ln (Eb (Et (Cr ?_)))
      refine V0 (Ym rfl) ?_
      refine V0 (Yi rfl rfl rfl (by omega)) ?_
      refine V0 (Ya rfl) ?_
      refine Ln ?_
      exact Ea ((f.1+1,f.2++[108,111,99,97,108,32]++s++[32,59,32]):Nat×Tx) (by show p.locs.length-(f.1+1)<p.locs.length-f.1; omega) ⟨by show f.1+1≤p.locs.length; omega,by show _=_++(p.locs.take (f.1+1)).flatMap locT; rw [flat_snoc hsi,hTf]; simp [locT,w_local]⟩ (sc rfl (sc rfl (sc rfl (sc rfl (sc rfl (sc rfl sn)))))) (fun _ h=>h)
     ·
      have hge4:¬f.1<p.locs.length:=by simpa using hc7
      rw [flatAll hge4] at hTf hLf
      refine Ce (Ex (Ex (Ebh (Et (Cr ?_)))))
      refine V0 (Ym rfl) ?_
      refine V0 (Yf fo56_4 rfl) ?_
      refine V0 (Yd 0 rfl rfl rfl na25) ?_
      refine Lp (.inl rfl) rfl en28 rfl (fun w hw=>blockText_any H ke ks p.body pa3 pc3 1 w (hw.vs _ (by simp)) hs3 hp.body (by omega)) ?_
      refine V0 (yl_cats rfl rfl (by (try simp only [List.length_append,List.length_cons,List.length_nil]); omega)) ?_
      refine V0 (yl_cats (b:=[32]) rfl rfl (by (try simp only [List.length_append,List.length_cons,List.length_nil]); omega)) ?_
      refine V0 (Ya rfl) ?_
      refine Ln (Eb (Et (Cr ?_)))
      refine V0 (Ym rfl) ?_
      refine V0 (Yi rfl rfl rfl (by omega)) ?_
      refine V0 (Ya rfl) ?_
      refine Ln ?_
      exact Ea ((j.1+1,f.2++blockT p.body++[32]):Nat×Tx) (by show m.procs.length-(j.1+1)<m.procs.length-j.1; omega) ⟨by show j.1+1≤m.procs.length; omega,by show _=_++(m.procs.take (j.1+1)).flatMap procT; rw [flat_snoc hpi,procT_eq,hTf,hTj]; simp⟩ (sc rfl (sc rfl (sc rfl (sc rfl sn)))) (fun _ h=>Ws.drop (L:=[_]) h)
   ·
    have hge2:¬j.1<m.procs.length:=by simpa using hc4
    rw [flatAll hge2] at hTj hLj
    refine Ce (Ex (Ex (Ebh (Et (Cs ?_)))))
    refine Cr ?_
    refine V0 (Ym rfl) ?_
    refine V0 (yl_cats (b:=[109,97,105,110,32]) rfl rfl (by (try simp only [List.length_append,List.length_cons,List.length_nil]); omega)) ?_
    refine V0 (Yf fo27_4 rfl) ?_
    refine V0 (Yd 0 rfl rfl rfl na25) ?_
    refine Lp (.inl rfl) rfl en28 rfl (fun w hw=>blockText_any H ke ks m.main r.a4 r.c4 1 w (hw.vs _ (by simp)) hm.main hom.main (by omega)) ?_
    refine V0 (yl_cats rfl rfl (by (try simp only [List.length_append,List.length_cons,List.length_nil]); omega)) ?_
    refine V0 (yl_cats (b:=[32,125]) rfl rfl (by (try simp only [List.length_append,List.length_cons,List.length_nil]); omega)) ?_
    refine V0 (Ya rfl) ?_
    refine Ln (Et (Crt ?_))
    refine WE.ret1 rfl rfl fun w' hw=>?_
    exact ⟨by rw [hTj,←modT_eq],hw.fr⟩
end Go.Proofs.YtjfldjidhkfnbaaGreatDoor
end
section
namespace Go.Proofs.YtjfldjidhkfnbaaGreatDoor
open Go.Bw
set_option linter.unusedVariables false
set_option linter.unusedSimpArgs false
def asks (s:Tx) (l:Tk):Bool:=(l.head?.map fun t=>(!(t.kind==2)&&(t.text==s))).getD false
end Go.Proofs.YtjfldjidhkfnbaaGreatDoor
end
section
namespace Go.Proofs.YtjfldjidhkfnbaaGreatDoor
open Go.Bw
set_option linter.unusedVariables false
set_option linter.unusedSimpArgs false
structure GE where
 es:List XE
 a:Option Addr
 c:Nat
 J:View
 r:Option Addr×Nat
 q:Tk
 more:Bool
end Go.Proofs.YtjfldjidhkfnbaaGreatDoor
end
section
namespace Go.Proofs.YtjfldjidhkfnbaaGreatDoor
open Go.Bw
set_option linter.unusedVariables false
set_option linter.unusedSimpArgs false
structure GO where
 j:Nat
 o:Int
 r:Option Addr×Nat
 q:Tk
end Go.Proofs.YtjfldjidhkfnbaaGreatDoor
end
section
namespace Go.Proofs.YtjfldjidhkfnbaaGreatDoor
open Go.Bw
set_option linter.unusedVariables false
set_option linter.unusedSimpArgs false
structure SlS8 (f:Nat) (N:View) (x:TStmt) (p:SAt):Prop where
 args:Sl (RdE 8) 5 N p.s1.1 p.s1.2 x.args
 body:Sl (RdS 8 f) 6 N p.s2.1 p.s2.2 x.body
 other:Sl (RdS 8 f) 6 N p.s3.1 p.s3.2 x.other
theorem slS8_mv {H N:View} {f c:Nat} {a:Option Addr} {l:List TStmt} (h:Sl (RdS 8 f) 6 H a c l) (hv:VLe H N):Sl (RdS 8 f) 6 N a c l:=h.imp fun b o y hy=>RdS_mono hv (Nat.le_refl _) (Nat.le_refl _) b o y hy
theorem SlS8.mv {f:Nat} {H N:View} {x:TStmt} {p:SAt} (h:SlS8 f H x p) (hv:VLe H N):SlS8 f N x p:=⟨slE_mv h.args hv,slS8_mv h.body hv,slS8_mv h.other hv⟩
def SXs8 (J:View) (f:Nat) (es:List SX):Prop:=∀e ∈ es,SlS8 f J e.1 e.2
theorem SXs8.nil (J:View) (f:Nat):SXs8 J f []:=by intro e h; simp at h
theorem SXs8.snoc {J J1 J2:View} {f:Nat} {es:List SX} {e:SX} (h:SXs8 J f es) (h1:VLe J J2) (h2:VLe J1 J2) (he:SlS8 f J1 e.1 e.2):SXs8 J2 f (es++[e]):=by
 intro x hx
 rcases List.mem_append.1 hx with hx | hx
 · exact (h x hx).mv h1
 · rw [List.mem_singleton] at hx
   subst hx
   exact he.mv h2
theorem slS8_of {H J N:View} {f c:Nat} {a:Option Addr} {es:List SX} (h:Sl rdSX 6 H a c es) (hv:VLe H N) (hJ:VLe J N) (hes:SXs8 J f es):Sl (RdS 8 (f+1)) 6 N a c (es.map (·.1)):=by
 refine ⟨by simpa using h.cap,h.max,h.spot,fun i x hx=>?_⟩
 rw [List.getElem?_map] at hx
 obtain ⟨e,he,rfl⟩:=Option.map_eq_some_iff.1 hx
 obtain ⟨b,o,h1,h2⟩:=h.elt i e he
 have h3:=(hes e (List.mem_of_getElem? he)).mv hJ
 exact ⟨b,o,h1,e.2.s1.1,e.2.s1.2,e.2.s2.1,e.2.s2.2,e.2.s3.1,e.2.s3.2,RdC.mono hv h2,h3.args,h3.body,h3.other⟩
variable {pb:Tk→List TStmt×Tk} {l r q1 q2 q3 q4:Tk} {x y:TExpr} {b o:List TStmt} {p:Tx×Tx} {xs:List TExpr}
variable {ps:Tk→TStmt×Tk} {s:TStmt} {n:Nat}
theorem pl43:placesP Tryz.prog 43=some [(0,1),(1,1),(2,1),(3,1),(4,1),(5,1)]:=by kernel_rfl
end Go.Proofs.YtjfldjidhkfnbaaGreatDoor
end
section
namespace Go.Proofs.YtjfldjidhkfnbaaGreatDoor
open Go.Bw
set_option linter.unusedVariables false
set_option linter.unusedSimpArgs false
structure SlP8 (N:View) (x:TProc) (p:PAt):Prop where
 params:Sl rdStr 1 N p.s1.1 p.s1.2 x.params
 locs:Sl rdStr 1 N p.s2.1 p.s2.2 x.locs
 body:Sl (RdS 8 6) 6 N p.s3.1 p.s3.2 x.body
theorem SlP8.mv {H N:View} {x:TProc} {p:PAt} (h:SlP8 H x p) (hv:VLe H N):SlP8 N x p:=⟨slStr_mv h.params hv,slStr_mv h.locs hv,slS8_mv h.body hv⟩
def PXs8 (J:View) (es:List PX):Prop:=∀e ∈ es,SlP8 J e.1 e.2
theorem PXs8.nil (J:View):PXs8 J []:=by intro e h; simp at h
theorem PXs8.snoc {J J1 J2:View} {es:List PX} {e:PX} (h:PXs8 J es) (h1:VLe J J2) (h2:VLe J1 J2) (he:SlP8 J1 e.1 e.2):PXs8 J2 (es++[e]):=by
 intro x hx
 rcases List.mem_append.1 hx with hx | hx
 · exact (h x hx).mv h1
 · rw [List.mem_singleton] at hx
   subst hx
   exact he.mv h2
theorem slP8_of {H J N:View} {c:Nat} {a:Option Addr} {es:List PX} (h:Sl rdPX 5 H a c es) (hv:VLe H N) (hJ:VLe J N) (hes:PXs8 J es):Sl (RdP 8 6) 5 N a c (es.map (·.1)):=by
 refine ⟨by simpa using h.cap,h.max,h.spot,fun i x hx=>?_⟩
 rw [List.getElem?_map] at hx
 obtain ⟨e,he,rfl⟩:=Option.map_eq_some_iff.1 hx
 obtain ⟨b,o,h1,h2⟩:=h.elt i e he
 have h3:=(hes e (List.mem_of_getElem? he)).mv hJ
 exact ⟨b,o,h1,e.2.s1.1,e.2.s1.2,e.2.s2.1,e.2.s2.2,e.2.s3.1,e.2.s3.2,RdC.mono hv h2,h3.params,h3.locs,h3.body⟩
structure GD2 where
 ds:List TDecl
 a:Option Addr
 c:Nat
 go:Bool
 pub:Bool
 r:Option Addr×Nat
 q:Tk
structure GH where
 ps:List Tx
 a:Option Addr
 c:Nat
 more:Bool
 r:Option Addr×Nat
 q:Tk
theorem modT_lim {m:TMod} (h:checkL m=0) (hb:wM m≤109951162777):(modC m).tot=0∧(modT m).length≤9223372036854775807:=by
 have h1:checkM m=0:=by rw [check_same]; exact h
 have h2:=checkM_tot.1 h1
 have h3:=J_len h1 (by have:=modW_le m; omega)
 rw [←modT_J h2] at h3
 exact ⟨h2,by omega⟩
theorem en8:Enters Tryz.prog 8:=enters_of Tryz.func8 (by kernel_rfl) rfl
theorem en10:Enters Tryz.prog 10:=enters_of Tryz.func10 (by kernel_rfl) rfl
end Go.Proofs.YtjfldjidhkfnbaaGreatDoor
end
section
namespace Go.Proofs.YtjfldjidhkfnbaaGreatDoor
open Go.Bw
set_option linter.unusedVariables false
set_option linter.unusedSimpArgs false
theorem en65:Enters Tryz.prog 65:=enters_of Tryz.func65 (by kernel_rfl) rfl
theorem en35:Enters Tryz.prog 35:=enters_of Tryz.func35 (by kernel_rfl) rfl
theorem fl53:flatSt Tryz.prog 53=some [0,1,2,0]:=by kernel_rfl
theorem ub4:Tryz.prog.underlying 4=some .bool:=by kernel_rfl
theorem en34:Enters Tryz.prog 34:=enters_of Tryz.func34 (by kernel_rfl) rfl
theorem sameTexts_eq (H1 H2:View) (a1 a2:Option Addr) (c1 c2:Nat) (l:List Tx) (w:World) (hH1:Le H1 w) (hH2:Le H2 w) (hm1:Sl rdStr 1 H1 a1 c1 l) (hm2:Sl rdStr 1 H2 a2 c2 l) :
   Calls Tryz.prog 34 #[.slice a1 l.length c1,.slice a2 l.length c2] w fun e w'=>e = .returned (.bool true)∧Ext w w':=by
 have hcap1:=hm1.cap
 have hmax1:=hm1.max
 have hcap2:=hm2.cap
 have hmax2:=hm2.max
 refine enter Tryz.func34 rfl 26 rfl rfl ?_
 refine CWd (W':=Ws w [] [] [H1,H2]) (fun _ e=>by subst e; exact Ws.init (by simp [hH1,hH2])) ?_
 refine Cs (Cr ?_)
 refine V0 (Ya rfl) ?_
 refine Ln (Et (Cs (Cs (Cr ?_))))
 refine V0 (Ym rfl) ?_
 refine V0 (Yn es22 rfl) ?_
 refine V0 (Ym rfl) ?_
 refine V0 (Yn es22 rfl) ?_
 refine V0 (yl_neY rfl rfl rfl) ?_
 refine Ln (Et ?_)
 refine WC.condf rfl ?_
 refine Ck (Et (Cs (Cs (Cr ?_))))
 refine V0 (Ya rfl) ?_
 refine Ln (Et (Cb ?_))
 refine CW (ι:=Nat) (fun i=>[(5,.int .i64 (i:Int))]) [(0,_),(1,_)] (fun i=>i≤l.length) (fun i=>l.length-i) 0 (Nat.zero_le _) (sc rfl (sc rfl (sc rfl sn))) ?_
 intro i hi
 refine Cs (Cs (Cr ?_))
 refine V0 (Ym rfl) ?_
 refine V0 (Ym rfl) ?_
 refine V0 (Yn es22 rfl) ?_
 refine V0 (yl_lt rfl rfl) ?_
 refine Ln (Et ?_)
 refine Cc rfl (fun hc1=>?_) (fun hc1=>?_)
 ·
  have hlt:i<l.length:=by simpa using hc1
  obtain ⟨x,hx⟩:∃x,l[i]? = some x:=⟨_,List.getElem?_eq_getElem hlt⟩
  obtain ⟨pb,po,ha1,hr1⟩:=hm1.elt i x hx
  obtain ⟨qb,qo,ha2,hr2⟩:=hm2.elt i x hx
  have hr1:RdC H1 pb (po+i*1) (strC x):=hr1
  have hr2:RdC H2 qb (qo+i*1) (strC x):=hr2
  refine Ck (Et (Cs (Cb (Cs ?_))))
  refine WC.draws0 [(0,true),(1,true),(2,true),(3,true),(4,true),(5,true),(6,true),(7,true),(8,true)] mixed (by kernel_rfl) (fun _ _ _ d _ h=>by cases d<;>exact h) ?_
  refine Dq rfl (.inl rfl) rfl (fun _ h=>h) (Ym rfl) ?_
  refine Dq rfl (.inl rfl) rfl (fun _ h=>h) (Ym rfl) ?_
  refine Dq rfl (.inl rfl) rfl (fun _ h=>h) (Yo es22 rfl rfl ha1 (by omega)) ?_
  refine Dq rfl (.inl rfl) rfl (fun _ h=>h) (yl_ld 0 na9 rfl rfl (hr1 0 _ rfl)) ?_
  refine Dq rfl (.inl rfl) rfl (fun _ h=>h) (Ym rfl) ?_
  refine Dq rfl (.inl rfl) rfl (fun _ h=>h) (Ym rfl) ?_
  refine Dq rfl (.inl rfl) rfl (fun _ h=>h) (Yo es22 rfl rfl ha2 (by omega)) ?_
  refine Dq rfl (.inl rfl) rfl (fun _ h=>h) (yl_ld 1 na9 rfl rfl (hr2 0 _ rfl)) ?_
  refine Dq rfl (.inl rfl) rfl (fun _ h=>h) (yl_nesY rfl rfl rfl) ?_
  refine WD.nil (fun _ h=>h) ?_
  refine Et ?_
  refine WC.condf rfl ?_
  refine Ck (Eb (Et (Cr ?_)))
  refine V0 (Ym rfl) ?_
  refine V0 (Yi rfl rfl rfl (by omega)) ?_
  refine V0 (Ya rfl) ?_
  refine Ln ?_
  exact Ea (i+1) (by omega) (by omega) (sc rfl (sc rfl (sc rfl sn))) (fun _ h=>h)
 ·
  refine Ce (Ex (Ex (Ebh (Et (Cs ?_)))))
  refine Cr ?_
  refine V0 (Ya rfl) ?_
  refine Ln (Et (Crt ?_))
  refine WE.ret1 rfl rfl fun w' hw=>?_
  exact ⟨rfl,hw.fr⟩
theorem sameExprs_eq (H1 H2:View) (a1 a2:Option Addr) (c1 c2:Nat) (k j:Nat) (l:List TExpr) (w:World) (hH1:Le H1 w) (hH2:Le H2 w) (hm1:Sl (RdE k) 5 H1 a1 c1 l) (hm2:Sl (RdE j) 5 H2 a2 c2 l) :
   Calls Tryz.prog 65 #[.slice a1 l.length c1,.slice a2 l.length c2] w fun e w'=>e = .returned (.bool true)∧Ext w w':=by
 induction k using Nat.strongRecOn generalizing j a1 c1 a2 c2 l w
 rename_i k ih
 have hcap1:=hm1.cap
 have hmax1:=hm1.max
 have hcap2:=hm2.cap
 have hmax2:=hm2.max
 refine enter Tryz.func65 rfl 81 rfl rfl ?_
 refine CWd (W':=Ws w [] [] [H1,H2]) (fun _ e=>by subst e; exact Ws.init (by simp [hH1,hH2])) ?_
 refine Cs (Cr ?_)
 refine V0 (Ya rfl) ?_
 refine Ln (Et (Cs (Cs (Cr ?_))))
 refine V0 (Ym rfl) ?_
 refine V0 (Yn es41 rfl) ?_
 refine V0 (Ym rfl) ?_
 refine V0 (Yn es41 rfl) ?_
 refine V0 (yl_neY rfl rfl rfl) ?_
 refine Ln (Et ?_)
 refine WC.condf rfl ?_
 refine Ck (Et (Cs (Cs (Cr ?_))))
 refine V0 (Ya rfl) ?_
 refine Ln (Et (Cb ?_))
 refine CW (ι:=Nat) (fun i=>[(5,.int .i64 (i:Int))]) [(0,_),(1,_)] (fun i=>i≤l.length) (fun i=>l.length-i) 0 (Nat.zero_le _) (sc rfl (sc rfl (sc rfl sn))) ?_
 intro i hi
 refine Cs (Cs (Cr ?_))
 refine V0 (Ym rfl) ?_
 refine V0 (Ym rfl) ?_
 refine V0 (Yn es41 rfl) ?_
 refine V0 (yl_lt rfl rfl) ?_
 refine Ln (Et ?_)
 refine Cc rfl (fun hc1=>?_) (fun hc1=>?_)
 ·
  have hlt:i<l.length:=by simpa using hc1
  obtain ⟨x,hx⟩:∃x,l[i]? = some x:=⟨_,List.getElem?_eq_getElem hlt⟩
  obtain ⟨pb,po,ha1,hr1⟩:=hm1.elt i x hx
  obtain ⟨qb,qo,ha2,hr2⟩:=hm2.elt i x hx
  obtain ⟨k2,rfl⟩:∃k2,k=k2+1:=by
    cases k with
    | zero=>exact hr1.elim
    | succ k2=>exact ⟨k2,rfl⟩
  obtain ⟨j2,rfl⟩:∃k2,j=k2+1:=by
    cases j with
    | zero=>exact hr2.elim
    | succ k2=>exact ⟨k2,rfl⟩
  obtain ⟨u1,n1,hr1,hs1⟩:=hr1
  obtain ⟨u2,n2,hr2,hs2⟩:=hr2
  refine Ck (Et (Cs (Cb (Cs ?_))))
  refine WC.draws0 [(0,true),(1,true),(2,true),(3,true),(4,true),(5,true),(6,true),(7,true),(8,true),(9,true),(10,true),(11,true),(12,true),(13,true),(14,true),(15,true),(16,true),(17,true),(18,true),(19,true),(20,true),(21,true),(22,true),(23,true),(24,true),(25,true),(26,true),(27,true),(28,true),(29,true),(30,true),(31,true),(32,true),(33,true),(34,true),(35,true),(36,true),(37,true),(38,true),(39,true),(40,true),(41,true),(42,true),(43,true),(44,true),(45,true),(46,true),(47,true),(48,true),(49,true),(50,true),(51,true),(52,true),(53,true),(54,true),(55,true),(56,true),(57,true),(58,true),(59,true),(60,true),(61,false),(62,true),(63,true)] mixed (by kernel_rfl) (fun _ _ _ d _ h=>by cases d<;>exact h) ?_
  refine Dq rfl (.inl rfl) rfl (fun _ h=>h) (Ym rfl) ?_
  refine Dq rfl (.inl rfl) rfl (fun _ h=>h) (Ym rfl) ?_
  refine Dq rfl (.inl rfl) rfl (fun _ h=>h) (Yo es41 rfl rfl ha1 (by omega)) ?_
  refine Dq rfl (.inl rfl) rfl (fun _ h=>h) (Yf fo81_0 rfl) ?_
  refine Dq rfl (.inl rfl) rfl (fun _ h=>h) (yl_ld 0 na3 rfl rfl (hr1 0 _ rfl)) ?_
  refine Dq rfl (.inl rfl) rfl (fun _ h=>h) (Ym rfl) ?_
  refine Dq rfl (.inl rfl) rfl (fun _ h=>h) (Ym rfl) ?_
  refine Dq rfl (.inl rfl) rfl (fun _ h=>h) (Yo es41 rfl rfl ha2 (by omega)) ?_
  refine Dq rfl (.inl rfl) rfl (fun _ h=>h) (Yf fo81_0 rfl) ?_
  refine Dq rfl (.inl rfl) rfl (fun _ h=>h) (yl_ld 1 na3 rfl rfl (hr2 0 _ rfl)) ?_
  refine Dq rfl (.inl rfl) rfl (fun _ h=>h) (yl_neY rfl rfl rfl) ?_
  refine Dq rfl (.inl rfl) rfl (fun _ h=>h) (Ym rfl) ?_
  apply WD.or 11 rfl rfl rfl rfl rfl (.inl rfl) rfl (fun _ h=>h) rfl rfl rfl rfl
  ·
   intro hg0
   refine Dq rfl (.g rfl rfl rfl) rfl (fun _ h=>h) (Ym rfl) ?_
   refine Dq rfl (.g rfl rfl rfl) rfl (fun _ h=>h) (Ym rfl) ?_
   refine Dq rfl (.g rfl rfl rfl) rfl (fun _ h=>h) (Yo es41 rfl rfl ha1 (by omega)) ?_
   refine Dq rfl (.g rfl rfl rfl) rfl (fun _ h=>h) (Yf fo81_1 rfl) ?_
   refine Dq rfl (.g rfl rfl rfl) rfl (fun _ h=>h) (yl_ld 0 na3 rfl rfl (hr1 1 _ rfl)) ?_
   refine Dq rfl (.g rfl rfl rfl) rfl (fun _ h=>h) (Ym rfl) ?_
   refine Dq rfl (.g rfl rfl rfl) rfl (fun _ h=>h) (Ym rfl) ?_
   refine Dq rfl (.g rfl rfl rfl) rfl (fun _ h=>h) (Yo es41 rfl rfl ha2 (by omega)) ?_
   refine Dq rfl (.g rfl rfl rfl) rfl (fun _ h=>h) (Yf fo81_1 rfl) ?_
   refine Dq rfl (.g rfl rfl rfl) rfl (fun _ h=>h) (yl_ld 1 na3 rfl rfl (hr2 1 _ rfl)) ?_
   refine Dq rfl (.g rfl rfl rfl) rfl (fun _ h=>h) (yl_neY rfl rfl rfl) ?_
   exact Gi 11 (fun _ h=>h) rfl rfl rfl
  refine Dq rfl (.inl rfl) rfl (fun _ h=>h) (Ym rfl) ?_
  apply WD.or 11 rfl rfl rfl rfl rfl (.inl rfl) rfl (fun _ h=>h) rfl rfl rfl rfl
  ·
   intro hg1
   refine Dq rfl (.g rfl rfl rfl) rfl (fun _ h=>h) (Ym rfl) ?_
   refine Dq rfl (.g rfl rfl rfl) rfl (fun _ h=>h) (Ym rfl) ?_
   refine Dq rfl (.g rfl rfl rfl) rfl (fun _ h=>h) (Yo es41 rfl rfl ha1 (by omega)) ?_
   refine Dq rfl (.g rfl rfl rfl) rfl (fun _ h=>h) (Yf fo81_2 rfl) ?_
   refine Dq rfl (.g rfl rfl rfl) rfl (fun _ h=>h) (yl_ld 0 na9 rfl rfl (hr1 2 _ rfl)) ?_
   refine Dq rfl (.g rfl rfl rfl) rfl (fun _ h=>h) (Ym rfl) ?_
   refine Dq rfl (.g rfl rfl rfl) rfl (fun _ h=>h) (Ym rfl) ?_
   refine Dq rfl (.g rfl rfl rfl) rfl (fun _ h=>h) (Yo es41 rfl rfl ha2 (by omega)) ?_
   refine Dq rfl (.g rfl rfl rfl) rfl (fun _ h=>h) (Yf fo81_2 rfl) ?_
   refine Dq rfl (.g rfl rfl rfl) rfl (fun _ h=>h) (yl_ld 1 na9 rfl rfl (hr2 2 _ rfl)) ?_
   refine Dq rfl (.g rfl rfl rfl) rfl (fun _ h=>h) (yl_nesY rfl rfl rfl) ?_
   exact Gi 11 (fun _ h=>h) rfl rfl rfl
  refine Dq rfl (.inl rfl) rfl (fun _ h=>h) (Ym rfl) ?_
  apply WD.or 11 rfl rfl rfl rfl rfl (.inl rfl) rfl (fun _ h=>h) rfl rfl rfl rfl
  ·
   intro hg2
   refine Dq rfl (.g rfl rfl rfl) rfl (fun _ h=>h) (Ym rfl) ?_
   refine Dq rfl (.g rfl rfl rfl) rfl (fun _ h=>h) (Ym rfl) ?_
   refine Dq rfl (.g rfl rfl rfl) rfl (fun _ h=>h) (Yo es41 rfl rfl ha1 (by omega)) ?_
   refine Dq rfl (.g rfl rfl rfl) rfl (fun _ h=>h) (Yf fo81_3 rfl) ?_
   refine Dq rfl (.g rfl rfl rfl) rfl (fun _ h=>h) (yl_ld 0 na9 rfl rfl (hr1 3 _ rfl)) ?_
   refine Dq rfl (.g rfl rfl rfl) rfl (fun _ h=>h) (Ym rfl) ?_
   refine Dq rfl (.g rfl rfl rfl) rfl (fun _ h=>h) (Ym rfl) ?_
   refine Dq rfl (.g rfl rfl rfl) rfl (fun _ h=>h) (Yo es41 rfl rfl ha2 (by omega)) ?_
   refine Dq rfl (.g rfl rfl rfl) rfl (fun _ h=>h) (Yf fo81_3 rfl) ?_
   refine Dq rfl (.g rfl rfl rfl) rfl (fun _ h=>h) (yl_ld 1 na9 rfl rfl (hr2 3 _ rfl)) ?_
   refine Dq rfl (.g rfl rfl rfl) rfl (fun _ h=>h) (yl_nesY rfl rfl rfl) ?_
   exact Gi 11 (fun _ h=>h) rfl rfl rfl
  refine Dq rfl (.inl rfl) rfl (fun _ h=>h) (Ym rfl) ?_
  apply WD.or 12 (x:=false) rfl rfl rfl rfl rfl (.inl rfl) rfl (fun _ h=>h) rfl rfl rfl rfl
  ·
   intro hg3
   refine Dq rfl (.g rfl rfl rfl) rfl (fun _ h=>h) (Ym rfl) ?_
   refine Dq rfl (.g rfl rfl rfl) rfl (fun _ h=>h) (Ym rfl) ?_
   refine Dq rfl (.g rfl rfl rfl) rfl (fun _ h=>h) (Yo es41 rfl rfl ha1 (by omega)) ?_
   refine Dq rfl (.g rfl rfl rfl) rfl (fun _ h=>h) (Yf fo81_4 rfl) ?_
   refine Dq rfl (.g rfl rfl rfl) rfl (fun _ h=>h) (yl_ld 0 na41 rfl rfl (hr1 4 _ rfl)) ?_
   refine Dq rfl (.g rfl rfl rfl) rfl (fun _ h=>h) (Ym rfl) ?_
   refine Dq rfl (.g rfl rfl rfl) rfl (fun _ h=>h) (Ym rfl) ?_
   refine Dq rfl (.g rfl rfl rfl) rfl (fun _ h=>h) (Yo es41 rfl rfl ha2 (by omega)) ?_
   refine Dq rfl (.g rfl rfl rfl) rfl (fun _ h=>h) (Yf fo81_4 rfl) ?_
   refine Dq rfl (.g rfl rfl rfl) rfl (fun _ h=>h) (yl_ld 1 na41 rfl rfl (hr2 4 _ rfl)) ?_
   refine De rfl (fun _ h=>h) ?_
   refine Lp (.g rfl rfl rfl) rfl en65 rfl (fun w hw=>ih k2 (by omega) u1 u2 n1 n2 j2 x.args w (hw.vs _ (by simp)) (hw.vs _ (by simp)) hs1 hs2) ?_
   refine Ln (Ed ?_)
   refine Dq rfl (.g rfl rfl rfl) rfl (fun _ h=>h) (yl_not rfl) ?_
   exact Gi 12 (fun _ h=>h) rfl rfl rfl
  refine WD.nil (fun _ h=>h) ?_
  refine Et ?_
  refine WC.condf rfl ?_
  refine Ck (Eb (Et (Cr ?_)))
  refine V0 (Ym rfl) ?_
  refine V0 (Yi rfl rfl rfl (by omega)) ?_
  refine V0 (Ya rfl) ?_
  refine Ln ?_
  exact Ea (i+1) (by omega) (by omega) (sc rfl (sc rfl (sc rfl sn))) (fun _ h=>h)
 ·
  refine Ce (Ex (Ex (Ebh (Et (Cs ?_)))))
  refine Cr ?_
  refine V0 (Ya rfl) ?_
  refine Ln (Et (Crt ?_))
  refine WE.ret1 rfl rfl fun w' hw=>?_
  exact ⟨rfl,hw.fr⟩
theorem sameBlocks_eq (H1 H2:View) (a1 a2:Option Addr) (c1 c2:Nat) (ke1 ke2 k j:Nat) (l:List TStmt) (w:World) (hH1:Le H1 w) (hH2:Le H2 w) (hm1:Sl (RdS ke1 k) 6 H1 a1 c1 l) (hm2:Sl (RdS ke2 j) 6 H2 a2 c2 l) :
   Calls Tryz.prog 35 #[.slice a1 l.length c1,.slice a2 l.length c2] w fun e w'=>e = .returned (.bool true)∧Ext w w':=by
 induction k using Nat.strongRecOn generalizing j a1 c1 a2 c2 l w
 rename_i k ih
 have hcap1:=hm1.cap
 have hmax1:=hm1.max
 have hcap2:=hm2.cap
 have hmax2:=hm2.max
 refine enter Tryz.func35 rfl 96 rfl rfl ?_
 refine CWd (W':=Ws w [] [] [H1,H2]) (fun _ e=>by subst e; exact Ws.init (by simp [hH1,hH2])) ?_
 refine Cs (Cr ?_)
 refine V0 (Ya rfl) ?_
 refine Ln (Et (Cs (Cs (Cr ?_))))
 refine V0 (Ym rfl) ?_
 refine V0 (Yn es25 rfl) ?_
 refine V0 (Ym rfl) ?_
 refine V0 (Yn es25 rfl) ?_
 refine V0 (yl_neY rfl rfl rfl) ?_
 refine Ln (Et ?_)
 refine WC.condf rfl ?_
 refine Ck (Et (Cs (Cs (Cr ?_))))
 refine V0 (Ya rfl) ?_
 refine Ln (Et (Cb ?_))
 refine CW (ι:=Nat) (fun i=>[(5,.int .i64 (i:Int))]) [(0,_),(1,_)] (fun i=>i≤l.length) (fun i=>l.length-i) 0 (Nat.zero_le _) (sc rfl (sc rfl (sc rfl sn))) ?_
 intro i hi
 refine Cs (Cs (Cr ?_))
 refine V0 (Ym rfl) ?_
 refine V0 (Ym rfl) ?_
 refine V0 (Yn es25 rfl) ?_
 refine V0 (yl_lt rfl rfl) ?_
 refine Ln (Et ?_)
 refine Cc rfl (fun hc1=>?_) (fun hc1=>?_)
 ·
  have hlt:i<l.length:=by simpa using hc1
  obtain ⟨x,hx⟩:∃x,l[i]? = some x:=⟨_,List.getElem?_eq_getElem hlt⟩
  obtain ⟨pb,po,ha1,hr1⟩:=hm1.elt i x hx
  obtain ⟨qb,qo,ha2,hr2⟩:=hm2.elt i x hx
  obtain ⟨k2,rfl⟩:∃k2,k=k2+1:=by
    cases k with
    | zero=>exact hr1.elim
    | succ k2=>exact ⟨k2,rfl⟩
  obtain ⟨j2,rfl⟩:∃k2,j=k2+1:=by
    cases j with
    | zero=>exact hr2.elim
    | succ k2=>exact ⟨k2,rfl⟩
  obtain ⟨u1,n1,u2,n2,u3,n3,hr1,hs1,hs2,hs3⟩:=hr1
  obtain ⟨v1,m1,v2,m2,v3,m3,hr2,ht1,ht2,ht3⟩:=hr2
  refine Ck (Et (Cs (Cb (Cs ?_))))
  refine WC.draws0 [(0,true),(1,true),(2,true),(3,true),(4,true),(5,true),(6,true),(7,true),(8,true),(9,true),(10,true),(11,true),(12,true),(13,true),(14,true),(15,true),(16,true),(17,true),(18,true),(19,true),(20,true),(21,true),(22,true),(23,true),(24,true),(25,true),(26,true),(27,true),(28,true),(29,true),(30,true),(31,true),(32,true),(33,true),(34,true),(35,true),(36,true),(37,true),(38,true),(39,true),(40,true),(41,true),(42,true),(43,true),(44,true),(45,true),(46,true),(47,true),(48,false),(49,true),(50,true),(51,true),(52,true),(53,true),(54,true),(55,true),(56,true),(57,true),(58,true),(59,true),(60,true),(61,true),(62,false),(63,true),(64,true),(65,true),(66,true),(67,true),(68,true),(69,true),(70,true),(71,true),(72,true),(73,true),(74,true),(75,true),(76,false),(77,true),(78,true)] mixed (by kernel_rfl) (fun _ _ _ d _ h=>by cases d<;>exact h) ?_
  refine Dq rfl (.inl rfl) rfl (fun _ h=>h) (Ym rfl) ?_
  refine Dq rfl (.inl rfl) rfl (fun _ h=>h) (Ym rfl) ?_
  refine Dq rfl (.inl rfl) rfl (fun _ h=>h) (Yo es25 rfl rfl ha1 (by omega)) ?_
  refine Dq rfl (.inl rfl) rfl (fun _ h=>h) (Yf fo43_0 rfl) ?_
  refine Dq rfl (.inl rfl) rfl (fun _ h=>h) (yl_ld 0 na3 rfl rfl (hr1 0 _ rfl)) ?_
  refine Dq rfl (.inl rfl) rfl (fun _ h=>h) (Ym rfl) ?_
  refine Dq rfl (.inl rfl) rfl (fun _ h=>h) (Ym rfl) ?_
  refine Dq rfl (.inl rfl) rfl (fun _ h=>h) (Yo es25 rfl rfl ha2 (by omega)) ?_
  refine Dq rfl (.inl rfl) rfl (fun _ h=>h) (Yf fo43_0 rfl) ?_
  refine Dq rfl (.inl rfl) rfl (fun _ h=>h) (yl_ld 1 na3 rfl rfl (hr2 0 _ rfl)) ?_
  refine Dq rfl (.inl rfl) rfl (fun _ h=>h) (yl_neY rfl rfl rfl) ?_
  refine Dq rfl (.inl rfl) rfl (fun _ h=>h) (Ym rfl) ?_
  apply WD.or 11 rfl rfl rfl rfl rfl (.inl rfl) rfl (fun _ h=>h) rfl rfl rfl rfl
  ·
   intro hg0
   refine Dq rfl (.g rfl rfl rfl) rfl (fun _ h=>h) (Ym rfl) ?_
   refine Dq rfl (.g rfl rfl rfl) rfl (fun _ h=>h) (Ym rfl) ?_
   refine Dq rfl (.g rfl rfl rfl) rfl (fun _ h=>h) (Yo es25 rfl rfl ha1 (by omega)) ?_
   refine Dq rfl (.g rfl rfl rfl) rfl (fun _ h=>h) (Yf fo43_1 rfl) ?_
   refine Dq rfl (.g rfl rfl rfl) rfl (fun _ h=>h) (yl_ld 0 na9 rfl rfl (hr1 1 _ rfl)) ?_
   refine Dq rfl (.g rfl rfl rfl) rfl (fun _ h=>h) (Ym rfl) ?_
   refine Dq rfl (.g rfl rfl rfl) rfl (fun _ h=>h) (Ym rfl) ?_
   refine Dq rfl (.g rfl rfl rfl) rfl (fun _ h=>h) (Yo es25 rfl rfl ha2 (by omega)) ?_
   refine Dq rfl (.g rfl rfl rfl) rfl (fun _ h=>h) (Yf fo43_1 rfl) ?_
   refine Dq rfl (.g rfl rfl rfl) rfl (fun _ h=>h) (yl_ld 1 na9 rfl rfl (hr2 1 _ rfl)) ?_
   refine Dq rfl (.g rfl rfl rfl) rfl (fun _ h=>h) (yl_nesY rfl rfl rfl) ?_
   exact Gi 11 (fun _ h=>h) rfl rfl rfl
  refine Dq rfl (.inl rfl) rfl (fun _ h=>h) (Ym rfl) ?_
  apply WD.or 11 rfl rfl rfl rfl rfl (.inl rfl) rfl (fun _ h=>h) rfl rfl rfl rfl
  ·
   intro hg1
   refine Dq rfl (.g rfl rfl rfl) rfl (fun _ h=>h) (Ym rfl) ?_
   refine Dq rfl (.g rfl rfl rfl) rfl (fun _ h=>h) (Ym rfl) ?_
   refine Dq rfl (.g rfl rfl rfl) rfl (fun _ h=>h) (Yo es25 rfl rfl ha1 (by omega)) ?_
   refine Dq rfl (.g rfl rfl rfl) rfl (fun _ h=>h) (Yf fo43_2 rfl) ?_
   refine Dq rfl (.g rfl rfl rfl) rfl (fun _ h=>h) (yl_ld 0 na9 rfl rfl (hr1 2 _ rfl)) ?_
   refine Dq rfl (.g rfl rfl rfl) rfl (fun _ h=>h) (Ym rfl) ?_
   refine Dq rfl (.g rfl rfl rfl) rfl (fun _ h=>h) (Ym rfl) ?_
   refine Dq rfl (.g rfl rfl rfl) rfl (fun _ h=>h) (Yo es25 rfl rfl ha2 (by omega)) ?_
   refine Dq rfl (.g rfl rfl rfl) rfl (fun _ h=>h) (Yf fo43_2 rfl) ?_
   refine Dq rfl (.g rfl rfl rfl) rfl (fun _ h=>h) (yl_ld 1 na9 rfl rfl (hr2 2 _ rfl)) ?_
   refine Dq rfl (.g rfl rfl rfl) rfl (fun _ h=>h) (yl_nesY rfl rfl rfl) ?_
   exact Gi 11 (fun _ h=>h) rfl rfl rfl
  refine Dq rfl (.inl rfl) rfl (fun _ h=>h) (Ym rfl) ?_
  apply WD.or 12 (x:=false) rfl rfl rfl rfl rfl (.inl rfl) rfl (fun _ h=>h) rfl rfl rfl rfl
  ·
   intro hg2
   refine Dq rfl (.g rfl rfl rfl) rfl (fun _ h=>h) (Ym rfl) ?_
   refine Dq rfl (.g rfl rfl rfl) rfl (fun _ h=>h) (Ym rfl) ?_
   refine Dq rfl (.g rfl rfl rfl) rfl (fun _ h=>h) (Yo es25 rfl rfl ha1 (by omega)) ?_
   refine Dq rfl (.g rfl rfl rfl) rfl (fun _ h=>h) (Yf fo43_3 rfl) ?_
   refine Dq rfl (.g rfl rfl rfl) rfl (fun _ h=>h) (yl_ld 0 na41 rfl rfl (hr1 3 _ rfl)) ?_
   refine Dq rfl (.g rfl rfl rfl) rfl (fun _ h=>h) (Ym rfl) ?_
   refine Dq rfl (.g rfl rfl rfl) rfl (fun _ h=>h) (Ym rfl) ?_
   refine Dq rfl (.g rfl rfl rfl) rfl (fun _ h=>h) (Yo es25 rfl rfl ha2 (by omega)) ?_
   refine Dq rfl (.g rfl rfl rfl) rfl (fun _ h=>h) (Yf fo43_3 rfl) ?_
   refine Dq rfl (.g rfl rfl rfl) rfl (fun _ h=>h) (yl_ld 1 na41 rfl rfl (hr2 3 _ rfl)) ?_
   refine De rfl (fun _ h=>h) ?_
   refine Lp (.g rfl rfl rfl) rfl en65 rfl (fun w hw=>sameExprs_eq H1 H2 u1 v1 n1 m1 ke1 ke2 x.args w (hw.vs _ (by simp)) (hw.vs _ (by simp)) hs1 ht1) ?_
   refine Ln (Ed ?_)
   refine Dq rfl (.g rfl rfl rfl) rfl (fun _ h=>h) (yl_not rfl) ?_
   exact Gi 12 (fun _ h=>h) rfl rfl rfl
  refine Dq rfl (.inl rfl) rfl (fun _ h=>h) (Ym rfl) ?_
  apply WD.or 12 (x:=false) rfl rfl rfl rfl rfl (.inl rfl) rfl (fun _ h=>h) rfl rfl rfl rfl
  ·
   intro hg3
   refine Dq rfl (.g rfl rfl rfl) rfl (fun _ h=>h) (Ym rfl) ?_
   refine Dq rfl (.g rfl rfl rfl) rfl (fun _ h=>h) (Ym rfl) ?_
   refine Dq rfl (.g rfl rfl rfl) rfl (fun _ h=>h) (Yo es25 rfl rfl ha1 (by omega)) ?_
   refine Dq rfl (.g rfl rfl rfl) rfl (fun _ h=>h) (Yf fo43_4 rfl) ?_
   refine Dq rfl (.g rfl rfl rfl) rfl (fun _ h=>h) (yl_ld 0 na25 rfl rfl (hr1 4 _ rfl)) ?_
   refine Dq rfl (.g rfl rfl rfl) rfl (fun _ h=>h) (Ym rfl) ?_
   refine Dq rfl (.g rfl rfl rfl) rfl (fun _ h=>h) (Ym rfl) ?_
   refine Dq rfl (.g rfl rfl rfl) rfl (fun _ h=>h) (Yo es25 rfl rfl ha2 (by omega)) ?_
   refine Dq rfl (.g rfl rfl rfl) rfl (fun _ h=>h) (Yf fo43_4 rfl) ?_
   refine Dq rfl (.g rfl rfl rfl) rfl (fun _ h=>h) (yl_ld 1 na25 rfl rfl (hr2 4 _ rfl)) ?_
   refine De rfl (fun _ h=>h) ?_
   refine Lp (.g rfl rfl rfl) rfl en35 rfl (fun w hw=>ih k2 (by omega) u2 v2 n2 m2 j2 x.body w (hw.vs _ (by simp)) (hw.vs _ (by simp)) hs2 ht2) ?_
   refine Ln (Ed ?_)
   refine Dq rfl (.g rfl rfl rfl) rfl (fun _ h=>h) (yl_not rfl) ?_
   exact Gi 12 (fun _ h=>h) rfl rfl rfl
  refine Dq rfl (.inl rfl) rfl (fun _ h=>h) (Ym rfl) ?_
  apply WD.or 12 (x:=false) rfl rfl rfl rfl rfl (.inl rfl) rfl (fun _ h=>h) rfl rfl rfl rfl
  ·
   intro hg4
   refine Dq rfl (.g rfl rfl rfl) rfl (fun _ h=>h) (Ym rfl) ?_
   refine Dq rfl (.g rfl rfl rfl) rfl (fun _ h=>h) (Ym rfl) ?_
   refine Dq rfl (.g rfl rfl rfl) rfl (fun _ h=>h) (Yo es25 rfl rfl ha1 (by omega)) ?_
   refine Dq rfl (.g rfl rfl rfl) rfl (fun _ h=>h) (Yf fo43_5 rfl) ?_
   refine Dq rfl (.g rfl rfl rfl) rfl (fun _ h=>h) (yl_ld 0 na25 rfl rfl (hr1 5 _ rfl)) ?_
   refine Dq rfl (.g rfl rfl rfl) rfl (fun _ h=>h) (Ym rfl) ?_
   refine Dq rfl (.g rfl rfl rfl) rfl (fun _ h=>h) (Ym rfl) ?_
   refine Dq rfl (.g rfl rfl rfl) rfl (fun _ h=>h) (Yo es25 rfl rfl ha2 (by omega)) ?_
   refine Dq rfl (.g rfl rfl rfl) rfl (fun _ h=>h) (Yf fo43_5 rfl) ?_
   refine Dq rfl (.g rfl rfl rfl) rfl (fun _ h=>h) (yl_ld 1 na25 rfl rfl (hr2 5 _ rfl)) ?_
   refine De rfl (fun _ h=>h) ?_
   refine Lp (.g rfl rfl rfl) rfl en35 rfl (fun w hw=>ih k2 (by omega) u3 v3 n3 m3 j2 x.other w (hw.vs _ (by simp)) (hw.vs _ (by simp)) hs3 ht3) ?_
   refine Ln (Ed ?_)
   refine Dq rfl (.g rfl rfl rfl) rfl (fun _ h=>h) (yl_not rfl) ?_
   exact Gi 12 (fun _ h=>h) rfl rfl rfl
  refine WD.nil (fun _ h=>h) ?_
  refine Et ?_
  refine WC.condf rfl ?_
  refine Ck (Eb (Et (Cr ?_)))
  refine V0 (Ym rfl) ?_
  refine V0 (Yi rfl rfl rfl (by omega)) ?_
  refine V0 (Ya rfl) ?_
  refine Ln ?_
  exact Ea (i+1) (by omega) (by omega) (sc rfl (sc rfl (sc rfl sn))) (fun _ h=>h)
 ·
  refine Ce (Ex (Ex (Ebh (Et (Cs ?_)))))
  refine Cr ?_
  refine V0 (Ya rfl) ?_
  refine Ln (Et (Crt ?_))
  refine WE.ret1 rfl rfl fun w' hw=>?_
  exact ⟨rfl,hw.fr⟩
theorem sameModules_eq (H1 H2:View) (ke1 ke2 ks1 ks2:Nat) (r1 r2:MAt) (m:TMod) (w:World) (hH1:Le H1 w) (hH2:Le H2 w) (hm1:RdM ke1 ks1 H1 r1 m) (hm2:RdM ke2 ks2 H2 r2 m) :
   Calls Tryz.prog 13 #[.agg (modV m r1).toArray,.agg (modV m r2).toArray] w fun e w'=>e = .returned (.bool true)∧Ext w w':=by
 have cd1:=hm1.decls.cap
 have xd1:=hm1.decls.max
 have cd2:=hm2.decls.cap
 have xd2:=hm2.decls.max
 have cp1:=hm1.procs.cap
 have xp1:=hm1.procs.max
 have cp2:=hm2.procs.cap
 have xp2:=hm2.procs.max
 refine enter Tryz.func13 rfl 119 rfl rfl ?_
 refine CWd (W':=Ws w [] [] [H1,H2]) (fun _ e=>by subst e; exact Ws.init (by simp [hH1,hH2])) ?_
 refine Cs (Cr ?_)
 refine WL.box (.inl rfl) rfl rfl fun b2=>?_
 refine WL.box (.inl rfl) rfl rfl fun b3=>?_
 refine V0 (Ya rfl) ?_
 refine Ln (Et (Cs (Cs (Cr ?_))))
 refine V0 (Yf fo27_0 rfl) ?_
 refine V0 (Yd 1 rfl rfl rfl na9) ?_
 refine V0 (Yf fo27_0 rfl) ?_
 refine V0 (Yd 0 rfl rfl rfl na9) ?_
 refine V0 (yl_nesY rfl rfl rfl) ?_
 refine V0 (Ym rfl) ?_
 apply WL.or 6 (x:=false) rfl rfl rfl rfl (.inl rfl) rfl rfl rfl rfl rfl
 ·
  intro hg0
  refine Lv (.g rfl rfl rfl) rfl (Yf fo27_1 rfl) ?_
  refine Lv (.g rfl rfl rfl) rfl (Yd 1 rfl rfl rfl na22) ?_
  refine Lv (.g rfl rfl rfl) rfl (Yf fo27_1 rfl) ?_
  refine Lv (.g rfl rfl rfl) rfl (Yd 0 rfl rfl rfl na22) ?_
  refine Lp (.g rfl rfl rfl) rfl en34 rfl (fun w hw=>sameTexts_eq H1 H2 r1.a1 r2.a1 r1.c1 r2.c1 m.uses w (hw.vs _ (by simp)) (hw.vs _ (by simp)) hm1.uses hm2.uses) ?_
  refine Lv (.g rfl rfl rfl) rfl (yl_not rfl) ?_
  exact Gt 6 rfl rfl rfl
 refine V0 (Ym rfl) ?_
 apply WL.or 7 (x:=false) rfl rfl rfl rfl (.inl rfl) rfl rfl rfl rfl rfl
 ·
  intro hg1
  refine Lv (.g rfl rfl rfl) rfl (Yf fo27_2 rfl) ?_
  refine Lv (.g rfl rfl rfl) rfl (Yd 1 rfl rfl rfl na23) ?_
  refine Lv (.g rfl rfl rfl) rfl (Yn es23 rfl) ?_
  refine Lv (.g rfl rfl rfl) rfl (Yf fo27_2 rfl) ?_
  refine Lv (.g rfl rfl rfl) rfl (Yd 0 rfl rfl rfl na23) ?_
  refine Lv (.g rfl rfl rfl) rfl (Yn es23 rfl) ?_
  refine Lv (.g rfl rfl rfl) rfl (yl_neY rfl rfl rfl) ?_
  exact Gt 7 rfl rfl rfl
 refine V0 (Ym rfl) ?_
 apply WL.or 7 (x:=false) rfl rfl rfl rfl (.inl rfl) rfl rfl rfl rfl rfl
 ·
  intro hg2
  refine Lv (.g rfl rfl rfl) rfl (Yf fo27_3 rfl) ?_
  refine Lv (.g rfl rfl rfl) rfl (Yd 1 rfl rfl rfl na24) ?_
  refine Lv (.g rfl rfl rfl) rfl (Yn es24 rfl) ?_
  refine Lv (.g rfl rfl rfl) rfl (Yf fo27_3 rfl) ?_
  refine Lv (.g rfl rfl rfl) rfl (Yd 0 rfl rfl rfl na24) ?_
  refine Lv (.g rfl rfl rfl) rfl (Yn es24 rfl) ?_
  refine Lv (.g rfl rfl rfl) rfl (yl_neY rfl rfl rfl) ?_
  exact Gt 7 rfl rfl rfl
 refine V0 (Ym rfl) ?_
 apply WL.or 6 (x:=false) rfl rfl rfl rfl (.inl rfl) rfl rfl rfl rfl rfl
 ·
  intro hg3
  refine Lv (.g rfl rfl rfl) rfl (Yf fo27_4 rfl) ?_
  refine Lv (.g rfl rfl rfl) rfl (Yd 1 rfl rfl rfl na25) ?_
  refine Lv (.g rfl rfl rfl) rfl (Yf fo27_4 rfl) ?_
  refine Lv (.g rfl rfl rfl) rfl (Yd 0 rfl rfl rfl na25) ?_
  refine Lp (.g rfl rfl rfl) rfl en35 rfl (fun w hw=>sameBlocks_eq H1 H2 r1.a4 r2.a4 r1.c4 r2.c4 ke1 ke2 ks1 ks2 m.main w (hw.vs _ (by simp)) (hw.vs _ (by simp)) hm1.main hm2.main) ?_
  refine Lv (.g rfl rfl rfl) rfl (yl_not rfl) ?_
  exact Gt 6 rfl rfl rfl
 refine Ln (Et ?_)
 refine WC.condf rfl ?_
 refine Ck (Et (Cs (Cs (Cr ?_))))
 refine V0 (Ya rfl) ?_
 refine Ln (Et (Cb ?_))
 refine CK (ι:=Nat) (fun i=>[(5,.int .i64 (i:Int))]) [(2,_),(3,_)] (fun i=>Ws w [] [blk b3 (.cells (modV m r2).toArray 27 (0,0)),blk b2 (.cells (modV m r1).toArray 27 (0,0))] [H1,H2]) (fun i=>i≤m.decls.length) (fun i=>m.decls.length-i) 0 (Nat.zero_le _) (sc rfl (sc rfl (sc rfl sn))) (fun _ h=>h) ?_
 intro i hi
 refine Cs (Cs (Cr ?_))
 refine V0 (Ym rfl) ?_
 refine V0 (Yf fo27_2 rfl) ?_
 refine V0 (Yd 1 rfl rfl rfl na23) ?_
 refine V0 (Yn es23 rfl) ?_
 refine V0 (yl_lt rfl rfl) ?_
 refine Ln (Et ?_)
 refine Cc rfl (fun hc1=>?_) (fun hc1=>?_)
 ·
  have hlt:i<m.decls.length:=by simpa using hc1
  obtain ⟨x,hx⟩:∃x,m.decls[i]? = some x:=⟨_,List.getElem?_eq_getElem hlt⟩
  obtain ⟨pb,po,ha1,hr1⟩:=hm1.decls.elt i x hx
  obtain ⟨qb,qo,ha2,hr2⟩:=hm2.decls.elt i x hx
  have hr1:RdC H1 pb (po+i*4) x.cells:=hr1
  have hr2:RdC H2 qb (qo+i*4) x.cells:=hr2
  refine Ck (Et (Cs (Cb (Cs ?_))))
  refine WC.draws0 [(0,true),(1,true),(2,true),(3,true),(4,true),(5,true),(6,true),(7,true),(8,true),(9,true),(10,true)] mixed (by kernel_rfl) (fun _ _ _ d _ h=>by cases d<;>exact h) ?_
  refine Dq rfl (.inl rfl) rfl (fun _ h=>h) (Yf fo27_2 rfl) ?_
  refine Dq rfl (.inl rfl) rfl (fun _ h=>h) (Yd 1 rfl rfl rfl na23) ?_
  refine Dq rfl (.inl rfl) rfl (fun _ h=>h) (Ym rfl) ?_
  refine Dq rfl (.inl rfl) rfl (fun _ h=>h) (Yo es23 rfl rfl ha1 (by omega)) ?_
  refine Dq rfl (.inl rfl) rfl (fun _ h=>h) (yl_lda 0 ag53 rfl rfl rfl (hr1)) ?_
  refine Dq rfl (.inl rfl) rfl (fun _ h=>h) (Yf fo27_2 rfl) ?_
  refine Dq rfl (.inl rfl) rfl (fun _ h=>h) (Yd 0 rfl rfl rfl na23) ?_
  refine Dq rfl (.inl rfl) rfl (fun _ h=>h) (Ym rfl) ?_
  refine Dq rfl (.inl rfl) rfl (fun _ h=>h) (Yo es23 rfl rfl ha2 (by omega)) ?_
  refine Dq rfl (.inl rfl) rfl (fun _ h=>h) (yl_lda 1 ag53 rfl rfl rfl (hr2)) ?_
  refine Dq rfl (.inl rfl) rfl (fun _ h=>h) (yl_nestY fl53 rfl rfl rfl rfl) ?_
  refine WD.nil (fun _ h=>h) ?_
  refine Et ?_
  refine WC.condf rfl ?_
  refine Ck (Eb (Et (Cr ?_)))
  refine V0 (Ym rfl) ?_
  refine V0 (Yi rfl rfl rfl (by omega)) ?_
  refine V0 (Ya rfl) ?_
  refine Ln ?_
  exact Ea (i+1) (by omega) (by omega) (sc rfl (sc rfl (sc rfl sn))) (fun _ h=>h)
 ·
  refine Ce (Ex (Ex (Ebh (Et (Cs ?_)))))
  refine Cs (Cr ?_)
  refine V0 (Ya rfl) ?_
  refine Ln (Et (Cb ?_))
  refine CK (ι:=Nat) (fun j=>[(6,.int .i64 (j:Int))]) [(2,_),(3,_)] (fun j=>Ws w [] [blk b3 (.cells (modV m r2).toArray 27 (0,0)),blk b2 (.cells (modV m r1).toArray 27 (0,0))] [H1,H2]) (fun j=>j≤m.procs.length) (fun j=>m.procs.length-j) 0 (Nat.zero_le _) (sc rfl (sc rfl (sc rfl sn))) (fun _ h=>h) ?_
  intro j hi
  refine Cs (Cs (Cr ?_))
  refine V0 (Ym rfl) ?_
  refine V0 (Yf fo27_3 rfl) ?_
  refine V0 (Yd 1 rfl rfl rfl na24) ?_
  refine V0 (Yn es24 rfl) ?_
  refine V0 (yl_lt rfl rfl) ?_
  refine Ln (Et ?_)
  refine Cc rfl (fun hc3=>?_) (fun hc3=>?_)
  ·
   have hlt:j<m.procs.length:=by simpa using hc3
   obtain ⟨x,hx⟩:∃x,m.procs[j]? = some x:=⟨_,List.getElem?_eq_getElem hlt⟩
   obtain ⟨pb,po,ha1,hr1⟩:=hm1.procs.elt j x hx
   obtain ⟨qb,qo,ha2,hr2⟩:=hm2.procs.elt j x hx
   obtain ⟨u1,n1,u2,n2,u3,n3,hr1,hs1,hs2,hs3⟩:=hr1
   obtain ⟨v1,m1,v2,m2,v3,m3,hr2,ht1,ht2,ht3⟩:=hr2
   refine Ck (Et (Cs (Cb (Cs ?_))))
   refine WC.drawt0 (.q 0 (.q 1 (.q 2 (.q 3 (.q 4 (.q 5 (.q 6 (.q 7 (.q 8 (.q 9 (.e 10 (.e 11 (.e 12 (.e 13 .nil .stop) .stop) .stop) (.e 11 (.e 10 (.e 12 (.e 13 .nil .stop) .stop) .stop) .stop)))))))))))) mixed (by kernel_rfl) (fun _ _ _ d _ h=>by cases d<;>exact h) ?_
   refine WT.q rfl (.inl rfl) rfl (fun _ h=>h) (Yf fo27_3 rfl) ?_
   refine WT.q rfl (.inl rfl) rfl (fun _ h=>h) (Yd 1 rfl rfl rfl na24) ?_
   refine WT.q rfl (.inl rfl) rfl (fun _ h=>h) (Ym rfl) ?_
   refine WT.q rfl (.inl rfl) rfl (fun _ h=>h) (Yo es24 rfl rfl ha1 (by omega)) ?_
   refine WT.q rfl (.inl rfl) rfl (fun _ h=>h) (yl_lda 0 ag56 rfl rfl rfl (hr1)) ?_
   refine WT.q rfl (.inl rfl) rfl (fun _ h=>h) (Yf fo27_3 rfl) ?_
   refine WT.q rfl (.inl rfl) rfl (fun _ h=>h) (Yd 0 rfl rfl rfl na24) ?_
   refine WT.q rfl (.inl rfl) rfl (fun _ h=>h) (Ym rfl) ?_
   refine WT.q rfl (.inl rfl) rfl (fun _ h=>h) (Yo es24 rfl rfl ha2 (by omega)) ?_
   refine WT.q rfl (.inl rfl) rfl (fun _ h=>h) (yl_lda 1 ag56 rfl rfl rfl (hr2)) ?_
   refine WT.e rfl (fun _ h=>h) ?_ ?_
   ·
    refine WL.alloc (.inl rfl) rfl zr56 fun b7=>?_
    refine Ln (Ett ?_)
    refine WT.e rfl (fun _ h=>by have h:=Ws.drop (L:=[_]) (L':=_) h; exact h) ?_ WT.stop
    refine WL.alloc (.inl rfl) rfl zr56 fun b8=>?_
    refine Ln (Ett ?_)
    refine WT.e rfl (fun _ h=>by have h:=Ws.drop (L:=[_,_]) (L':=_) h; exact h) ?_ WT.stop
    refine Lst 1 (.inl rfl) rfl rfl rfl sz56 rfl rfl rfl ?_
    refine Ln (Ett ?_)
    refine WT.e rfl (fun _ h=>by have h:=Ws.drop (L:=[_,_]) (L':=_) h; exact h) ?_ WT.stop
    refine Lst 0 (.inl rfl) rfl rfl rfl sz56 rfl rfl rfl ?_
    refine Ln (Ett ?_)
    refine WT.nil (fun _ h=>by have h:=Ws.drop (L:=[_,_]) (L':=_) h; exact h) ?_
    refine Et (Cs ?_)
    refine Crb 1 (.cells (procV x u1 n1 u2 n2 u3 n3).toArray 56 (0,0)) rfl rfl ?_
    refine Crb 0 (.cells (procV x v1 m1 v2 m2 v3 m3).toArray 56 (0,0)) rfl rfl ?_
    refine Cr ?_
    refine V0 (Yf fo56_0 rfl) ?_
    refine V0 (Yd 1 rfl rfl rfl na9) ?_
    refine V0 (Yf fo56_0 rfl) ?_
    refine V0 (Yd 0 rfl rfl rfl na9) ?_
    refine V0 (yl_nesY rfl rfl rfl) ?_
    refine V0 (Ym rfl) ?_
    apply WL.or 5 (x:=false) rfl rfl rfl rfl (.inl rfl) rfl rfl rfl rfl rfl
    ·
     intro hg4
     refine Lv (.g rfl rfl rfl) rfl (Yf fo56_1 rfl) ?_
     refine Lv (.g rfl rfl rfl) rfl (Yd 1 rfl rfl rfl na4) ?_
     refine Lv (.g rfl rfl rfl) rfl (Yf fo56_1 rfl) ?_
     refine Lv (.g rfl rfl rfl) rfl (Yd 0 rfl rfl rfl na4) ?_
     refine Lv (.g rfl rfl rfl) rfl (yl_nebY ub4 rfl rfl rfl) ?_
     exact Gt 5 rfl rfl rfl
    refine V0 (Ym rfl) ?_
    apply WL.or 6 (x:=false) rfl rfl rfl rfl (.inl rfl) rfl rfl rfl rfl rfl
    ·
     intro hg5
     refine Lv (.g rfl rfl rfl) rfl (Yf fo56_2 rfl) ?_
     refine Lv (.g rfl rfl rfl) rfl (Yd 1 rfl rfl rfl na22) ?_
     refine Lv (.g rfl rfl rfl) rfl (Yf fo56_2 rfl) ?_
     refine Lv (.g rfl rfl rfl) rfl (Yd 0 rfl rfl rfl na22) ?_
     refine Lp (.g rfl rfl rfl) rfl en34 rfl (fun w hw=>sameTexts_eq H1 H2 u1 v1 n1 m1 x.params w (hw.vs _ (by simp)) (hw.vs _ (by simp)) hs1 ht1) ?_
     refine Lv (.g rfl rfl rfl) rfl (yl_not rfl) ?_
     exact Gt 6 rfl rfl rfl
    refine V0 (Ym rfl) ?_
    apply WL.or 6 (x:=false) rfl rfl rfl rfl (.inl rfl) rfl rfl rfl rfl rfl
    ·
     intro hg6
     refine Lv (.g rfl rfl rfl) rfl (Yf fo56_3 rfl) ?_
     refine Lv (.g rfl rfl rfl) rfl (Yd 1 rfl rfl rfl na22) ?_
     refine Lv (.g rfl rfl rfl) rfl (Yf fo56_3 rfl) ?_
     refine Lv (.g rfl rfl rfl) rfl (Yd 0 rfl rfl rfl na22) ?_
     refine Lp (.g rfl rfl rfl) rfl en34 rfl (fun w hw=>sameTexts_eq H1 H2 u2 v2 n2 m2 x.locs w (hw.vs _ (by simp)) (hw.vs _ (by simp)) hs2 ht2) ?_
     refine Lv (.g rfl rfl rfl) rfl (yl_not rfl) ?_
     exact Gt 6 rfl rfl rfl
    refine V0 (Ym rfl) ?_
    apply WL.or 6 (x:=false) rfl rfl rfl rfl (.inl rfl) rfl rfl rfl rfl rfl
    ·
     intro hg7
     refine Lv (.g rfl rfl rfl) rfl (Yf fo56_4 rfl) ?_
     refine Lv (.g rfl rfl rfl) rfl (Yd 1 rfl rfl rfl na25) ?_
     refine Lv (.g rfl rfl rfl) rfl (Yf fo56_4 rfl) ?_
     refine Lv (.g rfl rfl rfl) rfl (Yd 0 rfl rfl rfl na25) ?_
     refine Lp (.g rfl rfl rfl) rfl en35 rfl (fun w hw=>sameBlocks_eq H1 H2 u3 v3 n3 m3 ke1 ke2 ks1 ks2 x.body w (hw.vs _ (by simp)) (hw.vs _ (by simp)) hs3 ht3) ?_
     refine Lv (.g rfl rfl rfl) rfl (yl_not rfl) ?_
     exact Gt 6 rfl rfl rfl
    refine Ln (Et ?_)
    refine WC.condf rfl ?_
    refine Ck (Eb (Et (Cr ?_)))
    refine V0 (Ym rfl) ?_
    refine V0 (Yi rfl rfl rfl (by omega)) ?_
    refine V0 (Ya rfl) ?_
    refine Ln ?_
    exact Ea (j+1) (by omega) (by omega) (sc rfl (sc rfl (sc rfl sn))) (fun _ h=>by
        have h:=h.fronti 3 rfl
        have h:=h.fronti 3 rfl
        have h:=Ws.keep (L:=[_,_]) h
        have h:=Ws.drops h (Vs':=[H1,H2]) (by simp)
        exact h)
   refine WT.e rfl (fun _ h=>h) ?_ WT.stop
   refine WL.alloc (.inl rfl) rfl zr56 fun b8=>?_
   refine Ln (Ett ?_)
   refine WT.e rfl (fun _ h=>by have h:=Ws.drop (L:=[_]) (L':=_) h; exact h) ?_ WT.stop
   refine WL.alloc (.inl rfl) rfl zr56 fun b7=>?_
   refine Ln (Ett ?_)
   refine WT.e rfl (fun _ h=>by have h:=Ws.drop (L:=[_,_]) (L':=_) h; exact h) ?_ WT.stop
   refine Lst 0 (.inl rfl) rfl rfl rfl sz56 rfl rfl rfl ?_
   refine Ln (Ett ?_)
   refine WT.e rfl (fun _ h=>by have h:=Ws.drop (L:=[_,_]) (L':=_) h; exact h) ?_ WT.stop
   refine Lst 1 (.inl rfl) rfl rfl rfl sz56 rfl rfl rfl ?_
   refine Ln (Ett ?_)
   refine WT.nil (fun _ h=>by have h:=Ws.drop (L:=[_,_]) (L':=_) h; exact h) ?_
   refine Et (Cs ?_)
   refine Crb 0 (.cells (procV x u1 n1 u2 n2 u3 n3).toArray 56 (0,0)) rfl rfl ?_
   refine Crb 1 (.cells (procV x v1 m1 v2 m2 v3 m3).toArray 56 (0,0)) rfl rfl ?_
   refine Cr ?_
   refine V0 (Yf fo56_0 rfl) ?_
   refine V0 (Yd 0 rfl rfl rfl na9) ?_
   refine V0 (Yf fo56_0 rfl) ?_
   refine V0 (Yd 1 rfl rfl rfl na9) ?_
   refine V0 (yl_nesY rfl rfl rfl) ?_
   refine V0 (Ym rfl) ?_
   apply WL.or 5 (x:=false) rfl rfl rfl rfl (.inl rfl) rfl rfl rfl rfl rfl
   ·
    intro hg4
    refine Lv (.g rfl rfl rfl) rfl (Yf fo56_1 rfl) ?_
    refine Lv (.g rfl rfl rfl) rfl (Yd 0 rfl rfl rfl na4) ?_
    refine Lv (.g rfl rfl rfl) rfl (Yf fo56_1 rfl) ?_
    refine Lv (.g rfl rfl rfl) rfl (Yd 1 rfl rfl rfl na4) ?_
    refine Lv (.g rfl rfl rfl) rfl (yl_nebY ub4 rfl rfl rfl) ?_
    exact Gt 5 rfl rfl rfl
   refine V0 (Ym rfl) ?_
   apply WL.or 6 (x:=false) rfl rfl rfl rfl (.inl rfl) rfl rfl rfl rfl rfl
   ·
    intro hg5
    refine Lv (.g rfl rfl rfl) rfl (Yf fo56_2 rfl) ?_
    refine Lv (.g rfl rfl rfl) rfl (Yd 0 rfl rfl rfl na22) ?_
    refine Lv (.g rfl rfl rfl) rfl (Yf fo56_2 rfl) ?_
    refine Lv (.g rfl rfl rfl) rfl (Yd 1 rfl rfl rfl na22) ?_
    refine Lp (.g rfl rfl rfl) rfl en34 rfl (fun w hw=>sameTexts_eq H1 H2 u1 v1 n1 m1 x.params w (hw.vs _ (by simp)) (hw.vs _ (by simp)) hs1 ht1) ?_
    refine Lv (.g rfl rfl rfl) rfl (yl_not rfl) ?_
    exact Gt 6 rfl rfl rfl
   refine V0 (Ym rfl) ?_
   apply WL.or 6 (x:=false) rfl rfl rfl rfl (.inl rfl) rfl rfl rfl rfl rfl
   ·
    intro hg6
    refine Lv (.g rfl rfl rfl) rfl (Yf fo56_3 rfl) ?_
    refine Lv (.g rfl rfl rfl) rfl (Yd 0 rfl rfl rfl na22) ?_
    refine Lv (.g rfl rfl rfl) rfl (Yf fo56_3 rfl) ?_
    refine Lv (.g rfl rfl rfl) rfl (Yd 1 rfl rfl rfl na22) ?_
    refine Lp (.g rfl rfl rfl) rfl en34 rfl (fun w hw=>sameTexts_eq H1 H2 u2 v2 n2 m2 x.locs w (hw.vs _ (by simp)) (hw.vs _ (by simp)) hs2 ht2) ?_
    refine Lv (.g rfl rfl rfl) rfl (yl_not rfl) ?_
    exact Gt 6 rfl rfl rfl
   refine V0 (Ym rfl) ?_
   apply WL.or 6 (x:=false) rfl rfl rfl rfl (.inl rfl) rfl rfl rfl rfl rfl
   ·
    intro hg7
    refine Lv (.g rfl rfl rfl) rfl (Yf fo56_4 rfl) ?_
    refine Lv (.g rfl rfl rfl) rfl (Yd 0 rfl rfl rfl na25) ?_
    refine Lv (.g rfl rfl rfl) rfl (Yf fo56_4 rfl) ?_
    refine Lv (.g rfl rfl rfl) rfl (Yd 1 rfl rfl rfl na25) ?_
    refine Lp (.g rfl rfl rfl) rfl en35 rfl (fun w hw=>sameBlocks_eq H1 H2 u3 v3 n3 m3 ke1 ke2 ks1 ks2 x.body w (hw.vs _ (by simp)) (hw.vs _ (by simp)) hs3 ht3) ?_
    refine Lv (.g rfl rfl rfl) rfl (yl_not rfl) ?_
    exact Gt 6 rfl rfl rfl
   refine Ln (Et ?_)
   refine WC.condf rfl ?_
   refine Ck (Eb (Et (Cr ?_)))
   refine V0 (Ym rfl) ?_
   refine V0 (Yi rfl rfl rfl (by omega)) ?_
   refine V0 (Ya rfl) ?_
   refine Ln ?_
   exact Ea (j+1) (by omega) (by omega) (sc rfl (sc rfl (sc rfl sn))) (fun _ h=>by
       have h:=h.fronti 3 rfl
       have h:=h.fronti 3 rfl
       have h:=Ws.keep (L:=[_,_]) h
       have h:=Ws.drops h (Vs':=[H1,H2]) (by simp)
       exact h)
  ·
   refine Ce (Ex (Ex (Ebh (Et (Cs ?_)))))
   refine Cr ?_
   refine V0 (Ya rfl) ?_
   refine Ln (Et (Crt ?_))
   refine WE.ret1 rfl rfl fun w' hw=>?_
   exact ⟨rfl,hw.fr⟩
end Go.Proofs.YtjfldjidhkfnbaaGreatDoor
end
section
namespace Go.Proofs.YtjfldjidhkfnbaaGreatDoor
open Go.Bw
set_option linter.unusedVariables false
set_option linter.unusedSimpArgs false
def cntM:TMod:=(⟨[99,110,116],[],[(⟨1,[107],true,3⟩:TDecl),(⟨2,[115,117,109],true,0⟩:TDecl),(⟨3,[116],true,4⟩:TDecl)],[(⟨[100,111,119,110],true,[[110]],[[105]],[(TStmt.mk 1 [] [105] [(TExpr.mk 3 0 [] [110] [])] [] []),(TStmt.mk 5 [] [] [(TExpr.mk 3 0 [] [105] [])] [(TStmt.mk 1 [] [115,117,109] [(TExpr.mk 9 0 [] [] [(TExpr.mk 3 0 [] [115,117,109] []),(TExpr.mk 3 0 [] [105] [])])] [] []),(TStmt.mk 1 [] [105] [(TExpr.mk 10 0 [] [] [(TExpr.mk 3 0 [] [105] []),(TExpr.mk 1 1 [] [] [])])] [] [])] []),(TStmt.mk 6 [] [] [(TExpr.mk 3 0 [] [115,117,109] [])] [] [])]⟩:TProc)],[]⟩:TMod)
def cntS:Tx:=[109,111,100,117,108,101,32,99,110,116,32,123,32,112,117,98,32,99,111,110,115,116,32,107,32,61,32,51,32,59,32,112,117,98,32,118,97,114,32,115,117,109,32,59,32,112,117,98,32,97,114,114,97,121,32,116,32,91,32,52,32,93,32,59,32,112,117,98,32,112,114,111,99,32,100,111,119,110,32,40,32,110,32,41,32,108,111,99,97,108,32,105,32,59,32,123,32,105,32,61,32,110,32,59,32,119,104,105,108,101,32,105,32,123,32,115,117,109,32,61,32,40,32,115,117,109,32,43,32,105,32,41,32,59,32,105,32,61,32,40,32,105,32,45,32,49,32,41,32,59,32,125,32,114,101,116,117,114,110,32,115,117,109,32,59,32,125,32,109,97,105,110,32,123,32,125,32,125]
def topS:Tx:=[109,111,100,117,108,101,32,116,111,112,123,117,115,101,32,99,110,116,59,109,97,105,110,123,99,110,116,46,116,91,49,93,61,99,110,116,46,100,111,119,110,40,99,110,116,46,107,41,59,111,117,116,32,99,110,116,46,116,91,105,110,93,59,105,102,40,99,110,116,46,115,117,109,61,54,41,123,111,117,116,32,55,59,125,101,108,115,101,123,111,117,116,32,56,59,125,125,125]
def badS:Tx:=[109,111,100,117,108,101,32,120,32,123,32,109,97,105,110,32,123,32,105,102,32,49,32,123,32,125,32,101,108,115,101,32,123,32,125,32,125,32,125]
theorem cnt_show:showM cntM=(cntS,0):=by decide +kernel
theorem cnt_w:wM cntM≤109951162777:=by decide +kernel
theorem cnt_check:checkM cntM=0:=by decide +kernel
theorem cnt_parse:parseM cntS=(cntM,0):=by
 have h:J (modW cntM)=cntS:=by decide +kernel
 rw [←h]
 exact parse_show cnt_check (by rw [h]; decide +kernel)
theorem bad_parse:(parseM badS).2=1:=by decide +kernel
theorem top_parse:(parseM topS).2=0:=by decide +kernel
theorem top_len:(parseM topS).1.main.length=3:=by decide +kernel
theorem top_mod:((parseM topS).1.main[0]?).map TStmt.mod=some [99,110,116]:=by decide +kernel
theorem top_first:∃x,(parseM topS).1.main[0]? = some x∧x.mod=[99,110,116]:=by
 have h:=top_mod
 cases hx:(parseM topS).1.main[0]? with
 | none=>rw [hx] at h; cases h
 | some x=>rw [hx] at h; exact ⟨x,rfl,by simpa using h⟩
theorem en14:Enters Tryz.prog 14:=enters_of Tryz.func14 (by kernel_rfl) rfl
theorem en9:Enters Tryz.prog 9:=enters_of Tryz.func9 (by kernel_rfl) rfl
theorem en11:Enters Tryz.prog 11:=enters_of Tryz.func11 (by kernel_rfl) rfl
theorem en15:Enters Tryz.prog 15:=enters_of Tryz.func15 (by kernel_rfl) rfl
theorem en16:Enters Tryz.prog 16:=enters_of Tryz.func16 (by kernel_rfl) rfl
theorem en13:Enters Tryz.prog 13:=enters_of Tryz.func13 (by kernel_rfl) rfl
theorem counter_any (w:World) :
   Calls Tryz.prog 14 #[] w fun e w'=>∃r:MAt,e = .returned (.agg (modV cntM r).toArray)∧Ext w w'∧RdM 8 6 (nv w w') r cntM:=by
 refine enter Tryz.func14 rfl 33 rfl rfl ?_
 refine CWd (W':=Ws w [] [] []) (fun _ e=>by subst e; exact Ws.init (by simp)) ?_
 refine Cs (Cr ?_)
 refine WL.alloc (.inl rfl) rfl zr27 fun b0=>?_
 refine Ln (Et (Cs (Cr ?_)))
 refine V0 (Yb zr53 pl53 rfl rfl) ?_
 refine V0 (Yb zr53 pl53 rfl rfl) ?_
 refine V0 (Yb zr53 pl53 rfl rfl) ?_
 refine Lb (.inl rfl) rfl el23 rfl rfl rfl rfl fun b4=>?_
 refine LN (rd:=rdDecl) (f:=TDecl.cells) (m:=3) 0 [(⟨1,[107],true,3⟩:TDecl),(⟨2,[115,117,109],true,0⟩:TDecl),(⟨3,[116],true,4⟩:TDecl)] rfl rfl (fun _ hk=>by cases hk) TDecl.cells_len (fun _ _ _ _ h=>h) (show 3≤3 by decide) (by decide) fun H4 fH4 hH4=>?_
 refine Lb (.inl rfl) rfl el22 rfl rfl rfl rfl fun b5=>?_
 refine LN (rd:=rdStr) (f:=strC) (m:=1) 0 [[110]] rfl rfl (fun _ hk=>by cases hk) strC_len (fun _ _ _ _ h=>h) (show 1≤1 by decide) (by decide) fun H5 fH5 hH5=>?_
 refine Lb (.inl rfl) rfl el22 rfl rfl rfl rfl fun b6=>?_
 refine LN (rd:=rdStr) (f:=strC) (m:=1) 0 [[105]] rfl rfl (fun _ hk=>by cases hk) strC_len (fun _ _ _ _ h=>h) (show 1≤1 by decide) (by decide) fun H6 fH6 hH6=>?_
 refine V0 (Yb zr81 pl81 rfl rfl) ?_
 refine Lb (.inl rfl) rfl el41 rfl rfl rfl rfl fun b8=>?_
 refine LN (rd:=rdXE) (f:=XE.cells) (m:=1) 0 [((TExpr.mk 3 0 [] [110] []),none,0)] rfl rfl (fun _ hk=>by cases hk) XE.cells_len (fun _ _ _ _ h=>h) (show 1≤1 by decide) (by decide) fun H8 fH8 hH8=>?_
 refine V0 (Yb zr43 pl43 rfl rfl) ?_
 refine V0 (Yb zr81 pl81 rfl rfl) ?_
 refine Lb (.inl rfl) rfl el41 rfl rfl rfl rfl fun b11=>?_
 refine LN (rd:=rdXE) (f:=XE.cells) (m:=1) 0 [((TExpr.mk 3 0 [] [105] []),none,0)] rfl rfl (fun _ hk=>by cases hk) XE.cells_len (fun _ _ _ _ h=>h) (show 1≤1 by decide) (by decide) fun H11 fH11 hH11=>?_
 refine V0 (Yb zr81 pl81 rfl rfl) ?_
 refine V0 (Yb zr81 pl81 rfl rfl) ?_
 refine Lb (.inl rfl) rfl el41 rfl rfl rfl rfl fun b14=>?_
 refine LN (rd:=rdXE) (f:=XE.cells) (m:=2) 0 [((TExpr.mk 3 0 [] [115,117,109] []),none,0),((TExpr.mk 3 0 [] [105] []),none,0)] rfl rfl (fun _ hk=>by cases hk) XE.cells_len (fun _ _ _ _ h=>h) (show 2≤2 by decide) (by decide) fun H14 fH14 hH14=>?_
 refine V0 (Yb zr81 pl81 rfl rfl) ?_
 refine Lb (.inl rfl) rfl el41 rfl rfl rfl rfl fun b16=>?_
 refine LN (rd:=rdXE) (f:=XE.cells) (m:=1) 0 [((TExpr.mk 9 0 [] [] [(TExpr.mk 3 0 [] [115,117,109] []),(TExpr.mk 3 0 [] [105] [])]),(some ⟨b14,0,none⟩),2)] rfl rfl (fun _ hk=>by cases hk) XE.cells_len (fun _ _ _ _ h=>h) (show 1≤1 by decide) (by decide) fun H16 fH16 hH16=>?_
 refine V0 (Yb zr43 pl43 rfl rfl) ?_
 refine V0 (Yb zr81 pl81 rfl rfl) ?_
 refine V0 (Yb zr81 pl81 rfl rfl) ?_
 refine Lb (.inl rfl) rfl el41 rfl rfl rfl rfl fun b20=>?_
 refine LN (rd:=rdXE) (f:=XE.cells) (m:=2) 0 [((TExpr.mk 3 0 [] [105] []),none,0),((TExpr.mk 1 1 [] [] []),none,0)] rfl rfl (fun _ hk=>by cases hk) XE.cells_len (fun _ _ _ _ h=>h) (show 2≤2 by decide) (by decide) fun H20 fH20 hH20=>?_
 refine V0 (Yb zr81 pl81 rfl rfl) ?_
 refine Lb (.inl rfl) rfl el41 rfl rfl rfl rfl fun b22=>?_
 refine LN (rd:=rdXE) (f:=XE.cells) (m:=1) 0 [((TExpr.mk 10 0 [] [] [(TExpr.mk 3 0 [] [105] []),(TExpr.mk 1 1 [] [] [])]),(some ⟨b20,0,none⟩),2)] rfl rfl (fun _ hk=>by cases hk) XE.cells_len (fun _ _ _ _ h=>h) (show 1≤1 by decide) (by decide) fun H22 fH22 hH22=>?_
 refine V0 (Yb zr43 pl43 rfl rfl) ?_
 refine Lb (.inl rfl) rfl el25 rfl rfl rfl rfl fun b24=>?_
 refine LN (rd:=rdSX) (f:=SX.cells) (m:=2) 0 [((TStmt.mk 1 [] [115,117,109] [(TExpr.mk 9 0 [] [] [(TExpr.mk 3 0 [] [115,117,109] []),(TExpr.mk 3 0 [] [105] [])])] [] []),(⟨((some ⟨b16,0,none⟩),1),(none,0),(none,0)⟩:SAt)),((TStmt.mk 1 [] [105] [(TExpr.mk 10 0 [] [] [(TExpr.mk 3 0 [] [105] []),(TExpr.mk 1 1 [] [] [])])] [] []),(⟨((some ⟨b22,0,none⟩),1),(none,0),(none,0)⟩:SAt))] rfl rfl (fun _ hk=>by cases hk) SX.cells_len (fun _ _ _ _ h=>h) (show 2≤2 by decide) (by decide) fun H24 fH24 hH24=>?_
 refine V0 (Yb zr43 pl43 rfl rfl) ?_
 refine V0 (Yb zr81 pl81 rfl rfl) ?_
 refine Lb (.inl rfl) rfl el41 rfl rfl rfl rfl fun b27=>?_
 refine LN (rd:=rdXE) (f:=XE.cells) (m:=1) 0 [((TExpr.mk 3 0 [] [115,117,109] []),none,0)] rfl rfl (fun _ hk=>by cases hk) XE.cells_len (fun _ _ _ _ h=>h) (show 1≤1 by decide) (by decide) fun H27 fH27 hH27=>?_
 refine V0 (Yb zr43 pl43 rfl rfl) ?_
 refine Lb (.inl rfl) rfl el25 rfl rfl rfl rfl fun b29=>?_
 refine LN (rd:=rdSX) (f:=SX.cells) (m:=3) 0 [((TStmt.mk 1 [] [105] [(TExpr.mk 3 0 [] [110] [])] [] []),(⟨((some ⟨b8,0,none⟩),1),(none,0),(none,0)⟩:SAt)),((TStmt.mk 5 [] [] [(TExpr.mk 3 0 [] [105] [])] [(TStmt.mk 1 [] [115,117,109] [(TExpr.mk 9 0 [] [] [(TExpr.mk 3 0 [] [115,117,109] []),(TExpr.mk 3 0 [] [105] [])])] [] []),(TStmt.mk 1 [] [105] [(TExpr.mk 10 0 [] [] [(TExpr.mk 3 0 [] [105] []),(TExpr.mk 1 1 [] [] [])])] [] [])] []),(⟨((some ⟨b11,0,none⟩),1),((some ⟨b24,0,none⟩),2),(none,0)⟩:SAt)),((TStmt.mk 6 [] [] [(TExpr.mk 3 0 [] [115,117,109] [])] [] []),(⟨((some ⟨b27,0,none⟩),1),(none,0),(none,0)⟩:SAt))] rfl rfl (fun _ hk=>by cases hk) SX.cells_len (fun _ _ _ _ h=>h) (show 3≤3 by decide) (by decide) fun H29 fH29 hH29=>?_
 refine V0 (Yb zr56 pl56 rfl rfl) ?_
 refine Lb (.inl rfl) rfl el24 rfl rfl rfl rfl fun b31=>?_
 refine LN (rd:=rdPX) (f:=PX.cells) (m:=1) 0 [((⟨[100,111,119,110],true,[[110]],[[105]],[(TStmt.mk 1 [] [105] [(TExpr.mk 3 0 [] [110] [])] [] []),(TStmt.mk 5 [] [] [(TExpr.mk 3 0 [] [105] [])] [(TStmt.mk 1 [] [115,117,109] [(TExpr.mk 9 0 [] [] [(TExpr.mk 3 0 [] [115,117,109] []),(TExpr.mk 3 0 [] [105] [])])] [] []),(TStmt.mk 1 [] [105] [(TExpr.mk 10 0 [] [] [(TExpr.mk 3 0 [] [105] []),(TExpr.mk 1 1 [] [] [])])] [] [])] []),(TStmt.mk 6 [] [] [(TExpr.mk 3 0 [] [115,117,109] [])] [] [])]⟩:TProc),(⟨((some ⟨b5,0,none⟩),1),((some ⟨b6,0,none⟩),1),((some ⟨b29,0,none⟩),3)⟩:PAt))] rfl rfl (fun _ hk=>by cases hk) PX.cells_len (fun _ _ _ _ h=>h) (show 1≤1 by decide) (by decide) fun H31 fH31 hH31=>?_
 refine V0 (Yb zr27 pl27 rfl rfl) ?_
 refine Lst 0 (.inl rfl) rfl rfl rfl sz27 rfl rfl rfl ?_
 refine Ln (Et (Crt ?_))
 refine WE.retc1 0 rfl rfl rfl ag27 rfl fun w' hw=>?_
 exact ⟨⟨none,0,(some ⟨b4,0,none⟩),3,(some ⟨b31,0,none⟩),1,none,0⟩,rfl,hw.fr,⟨Sl.nil,(slDecl_mv hH4 (nv_vs hw (by simp) fH4)),(slP8_of hH31 (nv_vs hw (by simp) fH31) (VLe.refl _) ((PXs8.nil _).snoc (VLe.refl _) (VLe.refl _) ⟨(slStr_mv hH5 (nv_vs hw (by simp) fH5)),(slStr_mv hH6 (nv_vs hw (by simp) fH6)),(slS8_of hH29 (nv_vs hw (by simp) fH29) (VLe.refl _) ((((SXs8.nil _ 5).snoc (VLe.refl _) (VLe.refl _) ⟨(slE_of hH8 (nv_vs hw (by simp) fH8) (VLe.refl _) ((XEs.nil _ 7).snoc (VLe.refl _) (VLe.refl _) Sl.nil)),Sl.nil,Sl.nil⟩).snoc (VLe.refl _) (VLe.refl _) ⟨(slE_of hH11 (nv_vs hw (by simp) fH11) (VLe.refl _) ((XEs.nil _ 7).snoc (VLe.refl _) (VLe.refl _) Sl.nil)),(slS8_of hH24 (nv_vs hw (by simp) fH24) (VLe.refl _) (((SXs8.nil _ 4).snoc (VLe.refl _) (VLe.refl _) ⟨(slE_of hH16 (nv_vs hw (by simp) fH16) (VLe.refl _) ((XEs.nil _ 7).snoc (VLe.refl _) (VLe.refl _) (slE_of hH14 (nv_vs hw (by simp) fH14) (VLe.refl _) (((XEs.nil _ 6).snoc (VLe.refl _) (VLe.refl _) Sl.nil).snoc (VLe.refl _) (VLe.refl _) Sl.nil)))),Sl.nil,Sl.nil⟩).snoc (VLe.refl _) (VLe.refl _) ⟨(slE_of hH22 (nv_vs hw (by simp) fH22) (VLe.refl _) ((XEs.nil _ 7).snoc (VLe.refl _) (VLe.refl _) (slE_of hH20 (nv_vs hw (by simp) fH20) (VLe.refl _) (((XEs.nil _ 6).snoc (VLe.refl _) (VLe.refl _) Sl.nil).snoc (VLe.refl _) (VLe.refl _) Sl.nil)))),Sl.nil,Sl.nil⟩)),Sl.nil⟩).snoc (VLe.refl _) (VLe.refl _) ⟨(slE_of hH27 (nv_vs hw (by simp) fH27) (VLe.refl _) ((XEs.nil _ 7).snoc (VLe.refl _) (VLe.refl _) Sl.nil)),Sl.nil,Sl.nil⟩))⟩)),Sl.nil⟩⟩
theorem countText_any (w:World) :
   Calls Tryz.prog 16 #[] w fun e w'=>e = .returned (st cntS)∧Ext w w':=by
 refine enter Tryz.func16 rfl 1 rfl rfl ?_
 refine CWd (W':=Ws w [] [] []) (fun _ e=>by subst e; exact Ws.init (by simp)) ?_
 refine Cs (Cr ?_)
 refine V0 (Ya rfl) ?_
 refine Ln (Et (Cs (Cr ?_)))
 refine V0 (Ya rfl) ?_
 refine Ln (Et (Crt ?_))
 refine WE.ret1 rfl rfl fun w' hw=>?_
 exact ⟨rfl,hw.fr⟩
theorem topText_any (w:World) :
   Calls Tryz.prog 15 #[] w fun e w'=>e = .returned (st topS)∧Ext w w':=by
 refine enter Tryz.func15 rfl 1 rfl rfl ?_
 refine CWd (W':=Ws w [] [] []) (fun _ e=>by subst e; exact Ws.init (by simp)) ?_
 refine Cs (Cr ?_)
 refine V0 (Ya rfl) ?_
 refine Ln (Et (Cs (Cr ?_)))
 refine V0 (Ya rfl) ?_
 refine Ln (Et (Crt ?_))
 refine WE.ret1 rfl rfl fun w' hw=>?_
 exact ⟨rfl,hw.fr⟩
theorem treeBegun_any (G:View) (w:World) (hG:Le G w) (hz:Laid G) :
   Calls Tryz.prog 6 #[] w fun e w'=>e = .returned (.bool true)∧Ext w w':=by
 refine enter Tryz.func6 rfl 71 rfl rfl ?_
 refine CWd (W':=Ws w [] [] [G]) (fun _ e=>by subst e; exact Ws.init (by simp [hG])) ?_
 refine Cs (Cr ?_)
 refine V0 (Ya rfl) ?_
 refine Ln (Et (Cs (Cr ?_)))
 refine Ld (.inl rfl) rfl en14 rfl (fun r:MAt=>.agg (modV cntM r).toArray) (fun H r=>RdM 8 6 H r cntM) (fun w hw=>counter_any w) ?_
 intro F10 r10 hf10 h10
 refine Lp (.inl rfl) rfl en9 rfl (fun w hw=>by
     have:=treeShow_any G F10 8 6 r10 cntM w (hw.vs _ (by simp)) hz (hw.vs _ (by simp)) h10 cnt_w
     rw [cnt_show] at this
     exact this) ?_
 refine V0 (Ym rfl) ?_
 refine V0 (Yx rfl rfl) ?_
 refine V0 (Yx rfl rfl) ?_
 refine V0 (Ya rfl) ?_
 refine V0 (Ya rfl) ?_
 refine Ln (Et (Cs (Cr ?_)))
 refine V0 (Ym rfl) ?_
 refine Ld (.inl rfl) rfl en11 rfl (fun r:MAt=>.tuple #[.agg (modV (cntM) r).toArray,.int .i64 (0)]) (fun H r=>RdM 7 6 H r (cntM)) (fun w hw=>by
     have:=treeParse_any G (cntS) w (hw.vs _ (by simp)) hz
     rw [cnt_parse] at this
     exact this) ?_
 intro F16 r16 hf16 h16
 refine V0 (Ym rfl) ?_
 refine V0 (Yx rfl rfl) ?_
 refine V0 (Yx rfl rfl) ?_
 refine WL.alloc (.inl rfl) rfl zr27 fun b3=>?_
 refine Lst 0 (.inl rfl) rfl rfl rfl sz27 rfl rfl rfl ?_
 refine V0 (Ya rfl) ?_
 refine Ln (Et (Cs (Cr ?_)))
 refine Ld (.inl rfl) rfl en11 rfl (fun r:MAt=>.tuple #[.agg (modV ((parseM badS).1) r).toArray,.int .i64 (1)]) (fun H r=>RdM 7 6 H r ((parseM badS).1)) (fun w hw=>by
     have:=treeParse_any G (badS) w (hw.vs _ (by simp)) hz
     rw [bad_parse] at this
     exact this) ?_
 intro F20 r20 hf20 h20
 refine V0 (Ym rfl) ?_
 refine V0 (Yx rfl rfl) ?_
 refine V0 (Yx rfl rfl) ?_
 refine WL.alloc (.inl rfl) rfl zr27 fun b5=>?_
 refine Lst 0 (.inl rfl) rfl rfl rfl sz27 rfl rfl rfl ?_
 refine V0 (Ya rfl) ?_
 refine Ln (Et (Cs (Cr ?_)))
 refine Lp (.inl rfl) rfl en15 rfl (fun w hw=>topText_any w) ?_
 refine Ld (.inl rfl) rfl en11 rfl (fun r:MAt=>.tuple #[.agg (modV ((parseM topS).1) r).toArray,.int .i64 (0)]) (fun H r=>RdM 7 6 H r ((parseM topS).1)) (fun w hw=>by
     have:=treeParse_any G (topS) w (hw.vs _ (by simp)) hz
     rw [top_parse] at this
     exact this) ?_
 intro F25 r25 hf25 h25
 refine V0 (Ym rfl) ?_
 refine V0 (Yx rfl rfl) ?_
 refine V0 (Yx rfl rfl) ?_
 refine WL.alloc (.inl rfl) rfl zr27 fun b7=>?_
 refine Lst 0 (.inl rfl) rfl rfl rfl sz27 rfl rfl rfl ?_
 refine V0 (Ya rfl) ?_
 refine Ln (Et (Cs ?_))
 obtain ⟨tx,htx0,htx⟩:=top_first
 obtain ⟨pb,po,ha,u1,n1,u2,n2,u3,n3,hr,hs1,hs2,hs3⟩:=h25.main.elt 0 tx htx0
 have htl:=top_len
 have htc:=h25.main.cap
 have htm:=h25.main.max
 refine WC.draws0 [(0,false),(1,false),(2,true),(3,true),(4,true),(5,true),(6,true),(7,true),(8,true),(9,true),(10,true),(11,true),(12,true),(13,true),(14,true),(15,true),(16,true),(17,true),(18,true),(19,true),(20,true),(21,false),(22,true),(23,true),(24,true),(25,true),(26,false),(27,false),(28,true),(29,true),(30,true),(31,true),(32,true),(33,true),(34,true),(35,true),(36,true),(37,true),(38,true),(39,true),(40,true),(41,true),(42,true),(43,true)] mixed (by kernel_rfl) (fun _ _ _ d _ h=>by cases d<;>exact h) ?_
 refine De rfl (fun _ h=>h) ?_
 refine Ld (.inl rfl) rfl en14 rfl (fun r:MAt=>.agg (modV cntM r).toArray) (fun H r=>RdM 8 6 H r cntM) (fun w hw=>counter_any w) ?_
 intro F28 r28 hf28 h28
 refine Ln (Ed ?_)
 refine De rfl (fun _ h=>by have h:=Ws.drops h (fun _ hm=>List.mem_append_right [_] hm); exact h) ?_
 refine Lp (.inl rfl) rfl en7 rfl (fun w hw=>by
     have:=treeCheck_any F28 8 6 r28 cntM w (hw.vs _ (by simp)) h28 (by have:=cnt_w; omega)
     rw [cnt_check] at this
     exact this) ?_
 refine Ln (Ed ?_)
 refine Dq rfl (.inl rfl) rfl (fun _ h=>by have h:=Ws.drops h (fun _ hm=>List.mem_append_right [_] hm); exact h) (yl_eqiY rfl rfl rfl) ?_
 refine Dq rfl (.inl rfl) rfl (fun _ h=>by have h:=Ws.drops h (fun _ hm=>List.mem_append_right [_] hm); exact h) (Ym rfl) ?_
 apply WD.and 2 (x:=true) rfl rfl rfl rfl rfl (.inl rfl) rfl (fun _ h=>by have h:=Ws.drops h (fun _ hm=>List.mem_append_right [_] hm); exact h) rfl rfl rfl rfl
 ·
  intro hg0
  refine Dq rfl (.g rfl rfl rfl) rfl (fun _ h=>by have h:=Ws.drops h (fun _ hm=>List.mem_append_right [_] hm); exact h) (Ym rfl) ?_
  refine Dq rfl (.g rfl rfl rfl) rfl (fun _ h=>by have h:=Ws.drops h (fun _ hm=>List.mem_append_right [_] hm); exact h) (yl_eqiY rfl rfl rfl) ?_
  exact Gi 2 (fun _ h=>by have h:=Ws.drops h (fun _ hm=>List.mem_append_right [_] hm); exact h) rfl rfl rfl
 refine Dq rfl (.inl rfl) rfl (fun _ h=>by have h:=Ws.drops h (fun _ hm=>List.mem_append_right [_] hm); exact h) (Ym rfl) ?_
 apply WD.and 2 (x:=true) rfl rfl rfl rfl rfl (.inl rfl) rfl (fun _ h=>by have h:=Ws.drops h (fun _ hm=>List.mem_append_right [_] hm); exact h) rfl rfl rfl rfl
 ·
  intro hg1
  refine Dq rfl (.g rfl rfl rfl) rfl (fun _ h=>by have h:=Ws.drops h (fun _ hm=>List.mem_append_right [_] hm); exact h) (Ym rfl) ?_
  refine Dq rfl (.g rfl rfl rfl) rfl (fun _ h=>by have h:=Ws.drops h (fun _ hm=>List.mem_append_right [_] hm); exact h) (yl_eqiY rfl rfl rfl) ?_
  exact Gi 2 (fun _ h=>by have h:=Ws.drops h (fun _ hm=>List.mem_append_right [_] hm); exact h) rfl rfl rfl
 refine Dq rfl (.inl rfl) rfl (fun _ h=>by have h:=Ws.drops h (fun _ hm=>List.mem_append_right [_] hm); exact h) (Ym rfl) ?_
 apply WD.and 2 (x:=true) rfl rfl rfl rfl rfl (.inl rfl) rfl (fun _ h=>by have h:=Ws.drops h (fun _ hm=>List.mem_append_right [_] hm); exact h) rfl rfl rfl rfl
 ·
  intro hg2
  refine Dq rfl (.g rfl rfl rfl) rfl (fun _ h=>by have h:=Ws.drops h (fun _ hm=>List.mem_append_right [_] hm); exact h) (Ym rfl) ?_
  refine Dq rfl (.g rfl rfl rfl) rfl (fun _ h=>by have h:=Ws.drops h (fun _ hm=>List.mem_append_right [_] hm); exact h) (yl_eqiY rfl rfl rfl) ?_
  exact Gi 2 (fun _ h=>by have h:=Ws.drops h (fun _ hm=>List.mem_append_right [_] hm); exact h) rfl rfl rfl
 refine Dq rfl (.inl rfl) rfl (fun _ h=>by have h:=Ws.drops h (fun _ hm=>List.mem_append_right [_] hm); exact h) (Ym rfl) ?_
 apply WD.and 2 (x:=true) rfl rfl rfl rfl rfl (.inl rfl) rfl (fun _ h=>by have h:=Ws.drops h (fun _ hm=>List.mem_append_right [_] hm); exact h) rfl rfl rfl rfl
 ·
  intro hg3
  refine Dq rfl (.g rfl rfl rfl) rfl (fun _ h=>by have h:=Ws.drops h (fun _ hm=>List.mem_append_right [_] hm); exact h) (Ym rfl) ?_
  refine Dq rfl (.g rfl rfl rfl) rfl (fun _ h=>by have h:=Ws.drops h (fun _ hm=>List.mem_append_right [_] hm); exact h) (yl_eqiY rfl rfl rfl) ?_
  exact Gi 2 (fun _ h=>by have h:=Ws.drops h (fun _ hm=>List.mem_append_right [_] hm); exact h) rfl rfl rfl
 refine Dq rfl (.inl rfl) rfl (fun _ h=>by have h:=Ws.drops h (fun _ hm=>List.mem_append_right [_] hm); exact h) (Ym rfl) ?_
 apply WD.and 3 (x:=true) rfl rfl rfl rfl rfl (.inl rfl) rfl (fun _ h=>by have h:=Ws.drops h (fun _ hm=>List.mem_append_right [_] hm); exact h) rfl rfl rfl rfl
 ·
  intro hg4
  refine Dq rfl (.g rfl rfl rfl) rfl (fun _ h=>by have h:=Ws.drops h (fun _ hm=>List.mem_append_right [_] hm); exact h) (Ym rfl) ?_
  refine De rfl (fun _ h=>by have h:=Ws.drops h (fun _ hm=>List.mem_append_right [_] hm); exact h) ?_
  refine Lp (.g rfl rfl rfl) rfl en16 rfl (fun w hw=>countText_any w) ?_
  refine Ln (Ed ?_)
  refine Dq rfl (.g rfl rfl rfl) rfl (fun _ h=>by have h:=Ws.drops h (fun _ hm=>List.mem_append_right [_] hm); exact h) (yl_eqsY rfl rfl rfl) ?_
  exact Gi 3 (fun _ h=>by have h:=Ws.drops h (fun _ hm=>List.mem_append_right [_] hm); exact h) rfl rfl rfl
 refine Dq rfl (.inl rfl) rfl (fun _ h=>by have h:=Ws.drops h (fun _ hm=>List.mem_append_right [_] hm); exact h) (Ym rfl) ?_
 apply WD.and 3 (x:=true) rfl rfl rfl rfl rfl (.inl rfl) rfl (fun _ h=>by have h:=Ws.drops h (fun _ hm=>List.mem_append_right [_] hm); exact h) rfl rfl rfl rfl
 ·
  intro hg5
  refine Dq rfl (.g rfl rfl rfl) rfl (fun _ h=>by have h:=Ws.drops h (fun _ hm=>List.mem_append_right [_] hm); exact h) (Yda 2 rfl rfl ag27 rfl) ?_
  refine De rfl (fun _ h=>by have h:=Ws.drops h (fun _ hm=>List.mem_append_right [_] hm); exact h) ?_
  refine Ld (.g rfl rfl rfl) rfl en14 rfl (fun r:MAt=>.agg (modV cntM r).toArray) (fun H r=>RdM 8 6 H r cntM) (fun w hw=>counter_any w) ?_
  intro F54 r54 hf54 h54
  refine Ln (Ed ?_)
  refine De rfl (fun _ h=>by have h:=Ws.drops h (fun _ hm=>List.mem_append_right [_,_] hm); exact h) ?_
  refine Lp (.g rfl rfl rfl) rfl en13 rfl (fun w hw=>sameModules_eq F16 F54 7 8 6 6 r16 r54 cntM w (hw.vs _ (by simp)) (hw.vs _ (by simp)) h16 h54) ?_
  refine Ln (Ed ?_)
  refine WD.wk (W':=Ws _ _ [_,_,_] [_,_,_,_,_,_]) (fun _ h=>Ws.drops (h) (fun _ hm=>List.mem_append_right [_] hm)) ?_
  exact Gi 3 (fun _ h=>by have h:=Ws.drops h (fun _ hm=>List.mem_append_right [_] hm); exact h) rfl rfl rfl
 refine Dq rfl (.inl rfl) rfl (fun _ h=>by have h:=Ws.drops h (fun _ hm=>List.mem_append_right [_] hm); exact h) (Ym rfl) ?_
 apply WD.and 4 (x:=true) rfl rfl rfl rfl rfl (.inl rfl) rfl (fun _ h=>by have h:=Ws.drops h (fun _ hm=>List.mem_append_right [_] hm); exact h) rfl rfl rfl rfl
 ·
  intro hg6
  refine Dq rfl (.g rfl rfl rfl) rfl (fun _ h=>by have h:=Ws.drops h (fun _ hm=>List.mem_append_right [_] hm); exact h) (Yf fo27_4 rfl) ?_
  refine Dq rfl (.g rfl rfl rfl) rfl (fun _ h=>by have h:=Ws.drops h (fun _ hm=>List.mem_append_right [_] hm); exact h) (Yd 0 rfl rfl rfl na25) ?_
  refine Dq rfl (.g rfl rfl rfl) rfl (fun _ h=>by have h:=Ws.drops h (fun _ hm=>List.mem_append_right [_] hm); exact h) (Yn es25 rfl) ?_
  refine Dq rfl (.g rfl rfl rfl) rfl (fun _ h=>by have h:=Ws.drops h (fun _ hm=>List.mem_append_right [_] hm); exact h) (yl_eqiY rfl rfl (by rw [top_len]; rfl)) ?_
  exact Gi 4 (fun _ h=>by have h:=Ws.drops h (fun _ hm=>List.mem_append_right [_] hm); exact h) rfl rfl rfl
 refine Dq rfl (.inl rfl) rfl (fun _ h=>by have h:=Ws.drops h (fun _ hm=>List.mem_append_right [_] hm); exact h) (Ym rfl) ?_
 apply WD.and 6 (x:=true) rfl rfl rfl rfl rfl (.inl rfl) rfl (fun _ h=>by have h:=Ws.drops h (fun _ hm=>List.mem_append_right [_] hm); exact h) rfl rfl rfl rfl
 ·
  intro hg7
  refine Dq rfl (.g rfl rfl rfl) rfl (fun _ h=>by have h:=Ws.drops h (fun _ hm=>List.mem_append_right [_] hm); exact h) (Yf fo27_4 rfl) ?_
  refine Dq rfl (.g rfl rfl rfl) rfl (fun _ h=>by have h:=Ws.drops h (fun _ hm=>List.mem_append_right [_] hm); exact h) (Yd 0 rfl rfl rfl na25) ?_
  refine Dq rfl (.g rfl rfl rfl) rfl (fun _ h=>by have h:=Ws.drops h (fun _ hm=>List.mem_append_right [_] hm); exact h) (Yo (i:=0) es25 rfl rfl ha (by rw [htl]; decide)) ?_
  refine Dq rfl (.g rfl rfl rfl) rfl (fun _ h=>by have h:=Ws.drops h (fun _ hm=>List.mem_append_right [_] hm); exact h) (Yf fo43_1 rfl) ?_
  refine Dq rfl (.g rfl rfl rfl) rfl (fun _ h=>by have h:=Ws.drops h (fun _ hm=>List.mem_append_right [_] hm); exact h) (yl_ld 0 na9 rfl rfl (hr 1 _ rfl)) ?_
  refine Dq rfl (.g rfl rfl rfl) rfl (fun _ h=>by have h:=Ws.drops h (fun _ hm=>List.mem_append_right [_] hm); exact h) (yl_eqsY rfl rfl htx) ?_
  exact Gi 6 (fun _ h=>by have h:=Ws.drops h (fun _ hm=>List.mem_append_right [_] hm); exact h) rfl rfl rfl
 refine Dq rfl (.inl rfl) rfl (fun _ h=>by have h:=Ws.drops h (fun _ hm=>List.mem_append_right [_] hm); exact h) (Ya rfl) ?_
 refine WD.nil (fun _ h=>by have h:=Ws.drops h (fun _ hm=>List.mem_append_right [_] hm); exact h) ?_
 refine Et (Crt ?_)
 refine WE.ret1 rfl rfl fun w' hw=>?_
 exact ⟨rfl,hw.fr⟩
end Go.Proofs.YtjfldjidhkfnbaaGreatDoor
end
section
namespace Go.Proofs.YtjfldjidhkfnbaaGreatDoor
open Go.Bw
set_option linter.unusedVariables false
set_option linter.unusedSimpArgs false
theorem show_eq {m:TMod} (h:checkL m=0):(showM m).1=modT m:=by
 have h1:checkM m=0:=by rw [check_same]; exact h
 rw [showM,if_pos h1]
 exact (modT_J (checkM_tot.1 h1)).symm
theorem show_err {m:TMod}:(showM m).2=checkL m:=by
 rw [showM,←check_same]
 split
 · rename_i h; exact h.symm
 · rfl
theorem show_bad {m:TMod} (h:¬checkL m=0):(showM m).1=[]:=by
 rw [showM,if_neg (by rw [check_same]; exact h)]
theorem modT_lim' {m:TMod} (h:checkL m=0) (hb:wM m≤109951162777):(modC m).tot=0∧(modT m).length≤9223372036854775807:=modT_lim h hb
theorem en6:Enters Tryz.prog 6:=enters_of Tryz.func6 (by kernel_rfl) rfl
theorem treeShows_any (G H:View) (ke ks:Nat) (q:MAt) (m:TMod) (w:World) (hG:Le G w) (hz:Laid G) (hH:Le H w) (hm:RdM ke ks H q m) (hb:wM m≤109951162777) :
   Calls Tryz.prog 4 #[.agg (modV m q).toArray] w fun e w'=>e = .returned (.bool true)∧Ext w w':=by
 refine enter Tryz.func4 rfl 29 rfl rfl ?_
 refine CWd (W':=Ws w [] [] [G,H]) (fun _ e=>by subst e; exact Ws.init (by simp [hG,hH])) ?_
 refine Cs (Cr ?_)
 refine WL.box (.inl rfl) rfl rfl fun b1=>?_
 refine V0 (Ya rfl) ?_
 refine Ln (Et (Cs (Cr ?_)))
 refine V0 (Yda 0 rfl rfl ag27 rfl) ?_
 refine Lp (.inl rfl) rfl en9 rfl (fun w hw=>treeShow_any G H ke ks q m w (hw.vs _ (by simp)) hz (hw.vs _ (by simp)) hm hb) ?_
 refine V0 (Ym rfl) ?_
 refine V0 (Yx rfl rfl) ?_
 refine V0 (Yx rfl rfl) ?_
 refine V0 (Ya rfl) ?_
 refine V0 (Ya rfl) ?_
 refine Ln (Et (Cs (Cr ?_)))
 refine V0 (Yda 0 rfl rfl ag27 rfl) ?_
 refine Lp (.inl rfl) rfl en8 rfl (fun w hw=>checkModule_any H ke ks q m w (hw.vs _ (by simp)) hm hb) ?_
 refine V0 (Ya rfl) ?_
 refine Ln (Et (Cs (Cr ?_)))
 refine V0 (Ya rfl) ?_
 refine Ln (Et (Cs (Cs (Cr ?_))))
 refine V0 (Ym rfl) ?_
 refine V0 (yl_eq rfl rfl) ?_
 refine Ln (Et ?_)
 refine Cc rfl (fun hc0=>?_) (fun hc0=>?_)
 ·
  have hc:checkL m=0:=by simpa using hc0
  obtain ⟨htot,hlim⟩:=modT_lim' hc hb
  have hSh:=show_eq hc
  refine Cr ?_
  refine V0 (Yda 0 rfl rfl ag27 rfl) ?_
  refine Lp (.inl rfl) rfl en10 rfl (fun w hw=>moduleText_any H ke ks q m w (hw.vs _ (by simp)) hm htot hlim) ?_
  refine V0 (Ya rfl) ?_
  refine Ln (Et (Cs (Cr ?_)))
  refine Lp (.inl rfl) rfl en6 rfl (fun w hw=>treeBegun_any G w (hw.vs _ (by simp)) hz) ?_
  refine V0 (Ym rfl) ?_
  apply WL.and 3 (x:=true) rfl rfl rfl rfl (.inl rfl) rfl rfl rfl rfl rfl
  ·
   intro hg0
   refine Lv (.g rfl rfl rfl) rfl (Ym rfl) ?_
   refine Lv (.g rfl rfl rfl) rfl (Ym rfl) ?_
   refine Lv (.g rfl rfl rfl) rfl (yl_eqiY rfl rfl show_err) ?_
   exact Gt 3 rfl rfl rfl
  refine V0 (Ym rfl) ?_
  apply WL.and 3 (x:=true) rfl rfl rfl rfl (.inl rfl) rfl rfl rfl rfl rfl
  ·
   intro hg1
   refine Lv (.g rfl rfl rfl) rfl (Ym rfl) ?_
   refine Lv (.g rfl rfl rfl) rfl (Ym rfl) ?_
   refine Lv (.g rfl rfl rfl) rfl (yl_eqsY rfl rfl hSh) ?_
   exact Gt 3 rfl rfl rfl
  refine V0 (Ya rfl) ?_
  refine Ln (Et (Crt ?_))
  refine WE.ret1 rfl rfl fun w' hw=>?_
  exact ⟨rfl,hw.fr⟩
 ·
  have hc:¬checkL m=0:=by simpa using hc0
  have hSh:=show_bad hc
  refine Ck (Et (Cs (Cr ?_)))
  refine Lp (.inl rfl) rfl en6 rfl (fun w hw=>treeBegun_any G w (hw.vs _ (by simp)) hz) ?_
  refine V0 (Ym rfl) ?_
  apply WL.and 3 (x:=true) rfl rfl rfl rfl (.inl rfl) rfl rfl rfl rfl rfl
  ·
   intro hg0
   refine Lv (.g rfl rfl rfl) rfl (Ym rfl) ?_
   refine Lv (.g rfl rfl rfl) rfl (Ym rfl) ?_
   refine Lv (.g rfl rfl rfl) rfl (yl_eqiY rfl rfl show_err) ?_
   exact Gt 3 rfl rfl rfl
  refine V0 (Ym rfl) ?_
  apply WL.and 3 (x:=true) rfl rfl rfl rfl (.inl rfl) rfl rfl rfl rfl rfl
  ·
   intro hg1
   refine Lv (.g rfl rfl rfl) rfl (Ym rfl) ?_
   refine Lv (.g rfl rfl rfl) rfl (Ym rfl) ?_
   refine Lv (.g rfl rfl rfl) rfl (yl_eqsY rfl rfl hSh) ?_
   exact Gt 3 rfl rfl rfl
  refine V0 (Ya rfl) ?_
  refine Ln (Et (Crt ?_))
  refine WE.ret1 rfl rfl fun w' hw=>?_
  exact ⟨rfl,hw.fr⟩
end Go.Proofs.YtjfldjidhkfnbaaGreatDoor
end
