/- tree.Show answers as the document says, errors too, for modules whose bulk is at most 1048576 (the second form, over the tied card). -/
import Derived.Test.YtjfldjidhkfnbaaGreatDoorS2
set_option linter.unusedVariables false
set_option linter.unusedSimpArgs false
section
namespace Go.Proofs.YtjfldjidhkfnbaaGreatDoor
open Go.Bw
set_option linter.unusedVariables false
set_option linter.unusedSimpArgs false
theorem wD_take:∀(l:List TDecl) (i:Nat),wD (l.take i)≤wD l
 | [],i=>by simp
 | x::r,0=>by simp [wD]
 | x::r,i+1=>by have:=wD_take r i; simp only [List.take_succ_cons,wD]; omega
theorem wP_take:∀(l:List TProc) (i:Nat),wP (l.take i)≤wP l
 | [],i=>by simp
 | x::r,0=>by simp [wP]
 | x::r,i+1=>by have:=wP_take r i; simp only [List.take_succ_cons,wP]; omega
theorem wP_upto {l:List TProc} {i:Nat} {p:TProc} (h:l[i]? = some p):wP (l.take i)+(1+p.nm.length+wN p.params+wN p.locs+wSs p.body)≤wP l:=by
 have h2:=wP_take l (i+1)
 rw [take_snoc h] at h2
 have:∀a b:List TProc,wP (a++b)=wP a+wP b:=by
   intro a b
   induction a with
   | nil=>simp [wP]
   | cons y a ih=>simp only [List.cons_append,wP,ih]; omega
 rw [this] at h2
 simp only [wP] at h2
 omega
theorem declsC_app:∀a b:List TDecl,declsC (a++b)=declsC a+declsC b
 | [],b=>by apply Cnt.ext'<;>simp [Cnt.add_f,Cnt.add_m,Cnt.add_k,declsC,c0]
 | x::a,b=>by
   rw [List.cons_append,show ∀q,declsC (x::q)=declC x+declsC q from fun _=>rfl,declsC_app a b,show ∀q,declsC (x::q)=declC x+declsC q from fun _=>rfl,Cnt.add_assoc']
theorem declsC_take {l:List TDecl} {i:Nat} {s:TDecl} (h:l[i]? = some s):declsC (l.take (i+1))=declsC (l.take i)+declC s:=by rw [take_snoc h,declsC_app]; rfl
theorem procsC_app:∀a b:List TProc,procsC (a++b)=procsC a+procsC b
 | [],b=>by apply Cnt.ext'<;>simp [Cnt.add_f,Cnt.add_m,Cnt.add_k,procsC,c0]
 | x::a,b=>by
   rw [List.cons_append,show ∀q,procsC (x::q)=procC x+procsC q from fun _=>rfl,procsC_app a b,show ∀q,procsC (x::q)=procC x+procsC q from fun _=>rfl,Cnt.add_assoc']
theorem procsC_take {l:List TProc} {i:Nat} {s:TProc} (h:l[i]? = some s):procsC (l.take (i+1))=procsC (l.take i)+procC s:=by rw [take_snoc h,procsC_app]; rfl
theorem int_lt4 (n:Nat):decide ((4:Int)<(n:Int))=decide (4<n):=by rw [Bool.eq_iff_iff]; simp; omega
theorem int_lt6 (n:Nat):decide ((6:Int)<(n:Int))=decide (6<n):=by rw [Bool.eq_iff_iff]; simp; omega
def eN (i:Nat):Nat:=if i=0 then 4 else if i=1 then 2 else 1
def cE (c:Cnt) (i:Nat):Nat:=if i=0 then c.k else if i=1 then c.m else c.f
theorem eN_get {i:Nat} (h:i<3):(#[.int .i64 4,.int .i64 2,.int .i64 1]:Array Value)[i]? = some (.int .i64 (eN i:Int)):=by
 match i,h with
 | 0,_=>rfl
 | 1,_=>rfl
 | 2,_=>rfl
theorem eN_lt (i:Nat):eN i<10:=by unfold eN; split; omega; split<;>omega
theorem found_get {c:Cnt} {be bs i:Nat} (h:i<3) {T:TypeId} {fz:Nat×Nat}:cellIn (.cells #[.int .i64 0,.int .i64 (c.f:Int),.int .i64 (c.m:Int),.int .i64 0,.int .i64 (c.k:Int),.int .i64 0,.int .i64 0,.int .i64 0,.int .i64 0,.int .i64 0,.map (some be),.map (some bs)] T fz) (0+0+eN i*1)=some (.int .i64 (cE c i:Int)):=by
 match i,h with
 | 0,_=>rfl
 | 1,_=>rfl
 | 2,_=>rfl
theorem err_at {c:Cnt} {i:Nat} (h:i<3) (h0:∀j,j<i→cE c j=0) (h1:0<cE c i):(eN i:Int)=errC c:=by
 match i,h,h0,h1 with
 | 0,_,_,h1=>unfold errC; rw [if_pos (show 0<c.k from h1)]; rfl
 | 1,_,h0,h1=>have:=h0 0 (by omega); unfold errC; rw [if_neg (by simp [cE] at this; omega),if_pos (show 0<c.m from h1)]; rfl
 | 2,_,h0,h1=>have a:=h0 0 (by omega); have b:=h0 1 (by omega); unfold errC; rw [if_neg (by simp [cE] at a; omega),if_neg (by simp [cE] at b; omega),if_pos (show 0<c.f from h1)]; rfl
theorem err_none {c:Cnt} (h:∀j,j<3→cE c j=0):errC c=0:=by
 have a:=h 0 (by omega); have b:=h 1 (by omega); have d:=h 2 (by omega)
 simp [cE] at a b d
 unfold errC
 rw [if_neg (by omega),if_neg (by omega),if_neg (by omega)]
theorem en17:Enters Tryz.prog 17:=enters_of Tryz.func17 (by kernel_rfl) rfl
theorem en18:Enters Tryz.prog 18:=enters_of Tryz.func18 (by kernel_rfl) rfl
theorem pl49:placesP Tryz.prog 49=some [(0,10),(10,1),(11,1)]:=by kernel_rfl
theorem zr49:zeroOf Tryz.prog 49=some (.agg #[.int .i64 0,.int .i64 0,.int .i64 0,.int .i64 0,.int .i64 0,.int .i64 0,.int .i64 0,.int .i64 0,.int .i64 0,.int .i64 0,.map none,.map none]):=by kernel_rfl
theorem fo27_0:fieldOff Tryz.prog 27 0=some 0:=by kernel_rfl
theorem fo27_1:fieldOff Tryz.prog 27 1=some 1:=by kernel_rfl
theorem na22:nonAgg Tryz.prog 22=true:=by kernel_rfl
theorem fo27_2:fieldOff Tryz.prog 27 2=some 2:=by kernel_rfl
theorem na23:nonAgg Tryz.prog 23=true:=by kernel_rfl
theorem es23:elemSz Tryz.prog 23=some 4:=by kernel_rfl
theorem fo27_3:fieldOff Tryz.prog 27 3=some 3:=by kernel_rfl
theorem na24:nonAgg Tryz.prog 24=true:=by kernel_rfl
theorem es24:elemSz Tryz.prog 24=some 5:=by kernel_rfl
theorem ag53:aggOf Tryz.prog 53=some 4:=by kernel_rfl
theorem zr53:zeroOf Tryz.prog 53=some (.agg #[.int .i64 0,st [],.bool false,.int .i64 0]):=by kernel_rfl
theorem sz53:sizeP Tryz.prog 53=some 4:=by kernel_rfl
theorem en21:Enters Tryz.prog 21:=enters_of Tryz.func21 (by kernel_rfl) rfl
theorem ag56:aggOf Tryz.prog 56=some 5:=by kernel_rfl
theorem zr56:zeroOf Tryz.prog 56=some (.agg #[st [],.bool false,.slice none 0 0,.slice none 0 0,.slice none 0 0]):=by kernel_rfl
theorem sz56:sizeP Tryz.prog 56=some 5:=by kernel_rfl
theorem fo56_0:fieldOff Tryz.prog 56 0=some 0:=by kernel_rfl
theorem fo56_2:fieldOff Tryz.prog 56 2=some 2:=by kernel_rfl
theorem fo56_3:fieldOff Tryz.prog 56 3=some 3:=by kernel_rfl
theorem fo56_4:fieldOff Tryz.prog 56 4=some 4:=by kernel_rfl
theorem fo27_4:fieldOff Tryz.prog 27 4=some 4:=by kernel_rfl
theorem ar58:arrP Tryz.prog 58=some (3,1):=by kernel_rfl
theorem zr58:zeroOf Tryz.prog 58=some (.agg #[.int .i64 0,.int .i64 0,.int .i64 0]):=by kernel_rfl
theorem ara58:arr1 Tryz.prog 58=some 3:=by kernel_rfl
theorem treeCheck_any (H:View) (ke ks:Nat) (r:MAt) (m:TMod) (w:World) (hH:Le H w) (hm:RdM ke ks H r m) (hb:wM m≤9007199254740992) :
   Calls Tryz.prog 7 #[.agg (modV m r).toArray] w fun e w'=>e = .returned (.int .i64 (checkM m))∧Ext w w':=by
 have hb1:=cntN1_le m.nm
 have hb2:=cntN_le m.uses
 have hb3:=noteM_tot ((decide (3<m.uses.length)||decide (10<m.decls.length))||decide (6<m.procs.length))
 have hb4:=declsC_le m.decls
 have hb5:=procsC_le m.procs
 have hb6:=cntB_le m.main 1
 have hwM:wM m=1+m.nm.length+wN m.uses+wD m.decls+wP m.procs+wSs m.main:=rfl
 have hz:c0.tot=0:=rfl
 have hl1:=wN_len m.uses
 have cu:=hm.uses.cap
 have xu:=hm.uses.max
 have cd:=hm.decls.cap
 have xd:=hm.decls.max
 have cp:=hm.procs.cap
 have xp:=hm.procs.max
 have hbd:∀i,(declsC (m.decls.take i)).tot≤8*wD m.decls:=fun i=>by have:=declsC_le (m.decls.take i); have:=wD_take m.decls i; omega
 have hbp:∀i,(procsC (m.procs.take i)).tot≤8*wP m.procs:=fun i=>by have:=procsC_le (m.procs.take i); have:=wP_take m.procs i; omega
 have hk1:(c0+cntN [m.nm]).tot+16+m.uses.length≤1152921504606846976:=by simp only [Cnt.tot_add]; omega
 have hk2:(c0+cntN [m.nm]+cntN m.uses).tot+16+m.uses.length≤1152921504606846976:=by simp only [Cnt.tot_add]; omega
 have hk3:(c0+cntN [m.nm]+cntN m.uses+noteM ((decide (3<m.uses.length)||decide (10<m.decls.length))||decide (6<m.procs.length))).tot+16+m.uses.length≤1152921504606846976:=by simp only [Cnt.tot_add]; omega
 have hk4:(c0+cntN [m.nm]+cntN m.uses+noteM ((decide (3<m.uses.length)||decide (10<m.decls.length))||decide (6<m.procs.length))+declsC m.decls).tot+16+m.uses.length≤1152921504606846976:=by simp only [Cnt.tot_add]; omega
 have hk5:(c0+cntN [m.nm]+cntN m.uses+noteM ((decide (3<m.uses.length)||decide (10<m.decls.length))||decide (6<m.procs.length))+declsC m.decls+procsC m.procs).tot+16+8*wSs m.main≤1152921504606846976:=by simp only [Cnt.tot_add]; omega
 refine enter Tryz.func7 rfl 106 rfl rfl ?_
 refine CWd (W':=Ws w [] [] [H]) (fun _ e=>by subst e; exact Ws.init (by simp [hH])) ?_
 refine Cs (Cr ?_)
 refine WL.box (.inl rfl) rfl rfl fun b1=>?_
 refine V0 (Ya rfl) ?_
 refine Ln (Et (Cs (Cr ?_)))
 refine WL.calln (ι:=Nat) (.inl rfl) rfl en17 rfl (fun b=>.map (some b)) (fun b=>[blk b (gobj kI (exprsK 9) 15)]) (fun _=>True) (fun w hw=>(exprs_any w).mono fun e w' h=>by
     obtain ⟨b,h1,h2⟩:=h
     exact ⟨b,h1,trivial,h2⟩) ?_
 intro be _
 refine WL.calln (ι:=Nat) (.inl rfl) rfl en18 rfl (fun b=>.map (some b)) (fun b=>[blk b (gobj kI stmtsK 7)]) (fun _=>True) (fun w hw=>(stmts_any w).mono fun e w' h=>by
     obtain ⟨b,h1,h2⟩:=h
     exact ⟨b,h1,trivial,h2⟩) ?_
 intro bs _
 refine V0 (Yb zr49 pl49 rfl rfl) ?_
 refine WL.box (.inl rfl) rfl rfl fun b13=>?_
 refine Lrb 0 (.cells #[.int .i64 0,.int .i64 ((c0).f:Int),.int .i64 ((c0).m:Int),.int .i64 0,.int .i64 ((c0).k:Int),.int .i64 0,.int .i64 0,.int .i64 0,.int .i64 0,.int .i64 0,.map (some be),.map (some bs)] 49 (0,0)) rfl rfl ?_
 refine V0 (Ya rfl) ?_
 refine Ln (Et (Cs (Cr ?_)))
 refine V0 (Ym rfl) ?_
 refine V0 (Yf fo27_0 rfl) ?_
 refine V0 (Yd 3 rfl rfl rfl na9) ?_
 refine Lb (.inl rfl) rfl el22 rfl rfl rfl rfl fun b17=>?_
 refine Lsv (T:=9) (m:=1) 0 [m.nm] rfl rfl (show 1≤1 by decide) (by decide) fun H17 hH17=>?_
 refine Lf 0 rfl ?_
 refine WL.callw0 [_] _ [blk b13 (.cells #[.int .i64 0,.int .i64 ((c0+cntN [m.nm]).f:Int),.int .i64 ((c0+cntN [m.nm]).m:Int),.int .i64 0,.int .i64 ((c0+cntN [m.nm]).k:Int),.int .i64 0,.int .i64 0,.int .i64 0,.int .i64 0,.int .i64 0,.map (some be),.map (some bs)] 49 (0,0))] (.inl rfl) rfl en19 rfl rfl [H17] (by simp) (fun w hw=>names_any b13 be bs H17 _ _ [m.nm] (c0) w hH17 (by show c0.tot+1≤_; omega) hw) ?_
 refine Ln (Et (Cs (Cr ?_)))
 refine V0 (Ym rfl) ?_
 refine V0 (Yf fo27_1 rfl) ?_
 refine V0 (Yd 3 rfl rfl rfl na22) ?_
 refine Lf 0 rfl ?_
 refine WL.callw0 [_] _ [blk b13 (.cells #[.int .i64 0,.int .i64 ((c0+cntN [m.nm]+cntN m.uses).f:Int),.int .i64 ((c0+cntN [m.nm]+cntN m.uses).m:Int),.int .i64 0,.int .i64 ((c0+cntN [m.nm]+cntN m.uses).k:Int),.int .i64 0,.int .i64 0,.int .i64 0,.int .i64 0,.int .i64 0,.map (some be),.map (some bs)] 49 (0,0))] (.inl rfl) rfl en19 rfl rfl [H] (by simp) (fun w hw=>names_any b13 be bs H r.a1 r.c1 m.uses (c0+cntN [m.nm]) w hm.uses (by omega) hw) ?_
 refine Ln (Et (Cs (Cr ?_)))
 refine V0 (Ym rfl) ?_
 refine V0 (Yf fo27_1 rfl) ?_
 refine V0 (Yd 3 rfl rfl rfl na22) ?_
 refine V0 (Yn es22 rfl) ?_
 refine V0 (yl_gt rfl rfl) ?_
 rw [int_lt3]
 refine V0 (Ym rfl) ?_
 apply WL.or 4 rfl rfl rfl rfl (.inl rfl) rfl rfl rfl rfl rfl
 ·
  intro hg0
  refine Lv (.g rfl rfl rfl) rfl (Yf fo27_2 rfl) ?_
  refine Lv (.g rfl rfl rfl) rfl (Yd 3 rfl rfl rfl na23) ?_
  refine Lv (.g rfl rfl rfl) rfl (Yn es23 rfl) ?_
  refine Lv (.g rfl rfl rfl) rfl (yl_gt rfl rfl) ?_
  rw [int_lt10]
  exact Gt 4 rfl rfl rfl
 refine V0 (Ym rfl) ?_
 apply WL.or 4 rfl rfl rfl rfl (.inl rfl) rfl rfl rfl rfl rfl
 ·
  intro hg1
  refine Lv (.g rfl rfl rfl) rfl (Yf fo27_3 rfl) ?_
  refine Lv (.g rfl rfl rfl) rfl (Yd 3 rfl rfl rfl na24) ?_
  refine Lv (.g rfl rfl rfl) rfl (Yn es24 rfl) ?_
  refine Lv (.g rfl rfl rfl) rfl (yl_gt rfl rfl) ?_
  rw [int_lt6]
  exact Gt 4 rfl rfl rfl
 refine Lf 0 rfl ?_
 refine WL.callw0 [_] _ [blk b13 (.cells #[.int .i64 0,.int .i64 ((c0+cntN [m.nm]+cntN m.uses+noteM ((decide (3<m.uses.length)||decide (10<m.decls.length))||decide (6<m.procs.length))).f:Int),.int .i64 ((c0+cntN [m.nm]+cntN m.uses+noteM ((decide (3<m.uses.length)||decide (10<m.decls.length))||decide (6<m.procs.length))).m:Int),.int .i64 0,.int .i64 ((c0+cntN [m.nm]+cntN m.uses+noteM ((decide (3<m.uses.length)||decide (10<m.decls.length))||decide (6<m.procs.length))).k:Int),.int .i64 0,.int .i64 0,.int .i64 0,.int .i64 0,.int .i64 0,.map (some be),.map (some bs)] 49 (0,0))] (.inl rfl) rfl en20 rfl rfl [] (by simp) (fun w hw=>note2_any b13 be bs (c0+cntN [m.nm]+cntN m.uses) ((decide (3<m.uses.length)||decide (10<m.decls.length))||decide (6<m.procs.length)) w (by omega) hw) ?_
 refine Ln (Et (Cs (Cs (Cr ?_))))
 refine V0 (Yf fo27_2 rfl) ?_
 refine V0 (Yd 3 rfl rfl rfl na23) ?_
 refine V0 (Yn es23 rfl) ?_
 refine V0 (Ym rfl) ?_
 refine Ln (Et (Cb ?_))
 refine CK (ι:=Nat) (fun i=>[(44,.int .i64 (i:Int))]) [(1,_),(2,_),(3,_),(42,_),(43,_)] (fun i=>Ws w [] [blk b13 (.cells #[.int .i64 0,.int .i64 ((c0+cntN [m.nm]+cntN m.uses+noteM ((decide (3<m.uses.length)||decide (10<m.decls.length))||decide (6<m.procs.length))+declsC (m.decls.take i)).f:Int),.int .i64 ((c0+cntN [m.nm]+cntN m.uses+noteM ((decide (3<m.uses.length)||decide (10<m.decls.length))||decide (6<m.procs.length))+declsC (m.decls.take i)).m:Int),.int .i64 0,.int .i64 ((c0+cntN [m.nm]+cntN m.uses+noteM ((decide (3<m.uses.length)||decide (10<m.decls.length))||decide (6<m.procs.length))+declsC (m.decls.take i)).k:Int),.int .i64 0,.int .i64 0,.int .i64 0,.int .i64 0,.int .i64 0,.map (some be),.map (some bs)] 49 (0,0)),blk be (gobj kI (exprsK 9) 15),blk bs (gobj kI stmtsK 7),blk b1 (.cells (modV m r).toArray 27 (0,0))] [H]) (fun i=>i≤m.decls.length) (fun i=>m.decls.length-i) 0 (Nat.zero_le _) (sc rfl (sc rfl (sc rfl (sc rfl (sc rfl (sc rfl sn)))))) (fun _ h=>by have h:=h.fronti 3 rfl; have h:=h.fronti 2 rfl; have h:=h.fronti 3 rfl; have h:=h.fronti 3 rfl; have h:=Ws.drops h (Vs':=[H]) (by simp); exact h) ?_
 intro i hi
 refine Cs (Cr ?_)
 refine V0 (yl_lt rfl rfl) ?_
 refine Ln (Et (Cs ?_))
 refine Cc rfl (fun hc0=>?_) (fun hc0=>?_)
 ·
  have hlt:i<m.decls.length:=by simpa using hc0
  obtain ⟨d,hdi⟩:∃q,m.decls[i]? = some q:=⟨_,List.getElem?_eq_getElem hlt⟩
  obtain ⟨pbd,pod,had,hrd⟩:=hm.decls.elt i d hdi
  have hrd:RdC H pbd (pod+i*4) d.cells:=hrd
  have e2:c0+cntN [m.nm]+cntN m.uses+noteM ((decide (3<m.uses.length)||decide (10<m.decls.length))||decide (6<m.procs.length))+declsC (m.decls.take i)+declC d=c0+cntN [m.nm]+cntN m.uses+noteM ((decide (3<m.uses.length)||decide (10<m.decls.length))||decide (6<m.procs.length))+declsC (m.decls.take (i+1)):=by rw [declsC_take hdi,←Cnt.add_assoc']
  have hbi:=hbd i
  have hki:(c0+cntN [m.nm]+cntN m.uses+noteM ((decide (3<m.uses.length)||decide (10<m.decls.length))||decide (6<m.procs.length))+declsC (m.decls.take i)).tot+4≤4611686018427387904:=by simp only [Cnt.tot_add]; omega
  refine Ck (Et (Cs (Cb (Cs (Cr ?_)))))
  refine V0 (Yo es23 rfl rfl had (by omega)) ?_
  refine V0 (yl_lda 0 ag53 rfl rfl rfl (hrd)) ?_
  refine WL.alloc (.inl rfl) rfl zr53 fun b5=>?_
  refine Lst 0 (.inl rfl) rfl rfl rfl sz53 rfl rfl rfl ?_
  refine Ln (Et (Cr ?_))
  refine V0 (Ym rfl) ?_
  refine V0 (Yda 0 rfl rfl ag53 rfl) ?_
  refine Lf 1 rfl ?_
  refine WL.callw0 [_] _ [blk b13 (.cells #[.int .i64 0,.int .i64 ((c0+cntN [m.nm]+cntN m.uses+noteM ((decide (3<m.uses.length)||decide (10<m.decls.length))||decide (6<m.procs.length))+declsC (m.decls.take i)+declC d).f:Int),.int .i64 ((c0+cntN [m.nm]+cntN m.uses+noteM ((decide (3<m.uses.length)||decide (10<m.decls.length))||decide (6<m.procs.length))+declsC (m.decls.take i)+declC d).m:Int),.int .i64 0,.int .i64 ((c0+cntN [m.nm]+cntN m.uses+noteM ((decide (3<m.uses.length)||decide (10<m.decls.length))||decide (6<m.procs.length))+declsC (m.decls.take i)+declC d).k:Int),.int .i64 0,.int .i64 0,.int .i64 0,.int .i64 0,.int .i64 0,.map (some be),.map (some bs)] 49 (0,0))] (.inl rfl) rfl en21 rfl rfl [] (by simp) (fun w hw=>vdecl_any b13 be bs d (c0+cntN [m.nm]+cntN m.uses+noteM ((decide (3<m.uses.length)||decide (10<m.decls.length))||decide (6<m.procs.length))+declsC (m.decls.take i)) w (by omega) hw) ?_
  refine Ln (Eb (Et (Cr ?_)))
  refine V0 (Yi rfl rfl rfl (by omega)) ?_
  refine V0 (Ym rfl) ?_
  refine Ln ?_
  rw [e2]
  exact Ea (i+1) (by omega) (by omega) (sc rfl (sc rfl (sc rfl (sc rfl (sc rfl (sc rfl sn)))))) (fun _ h=>by have h:=h.fronti 4 rfl; have h:=h.fronti 4 rfl; have h:=h.fronti 4 rfl; have h:=h.fronti 3 rfl; have h:=Ws.keep (L:=[_,_,_,_]) h; exact h)
 ·
  have hge:¬i<m.decls.length:=by simpa using hc0
  rw [List.take_of_length_le (by omega)]
  refine Ce (Ex (Ex (Ebh (Et (Cs ?_)))))
  refine Cs (Cr ?_)
  refine V0 (Yf fo27_3 rfl) ?_
  refine V0 (Yd 3 rfl rfl rfl na24) ?_
  refine V0 (Yn es24 rfl) ?_
  refine V0 (Ym rfl) ?_
  refine Ln (Et (Cb ?_))
  refine CK (ι:=Nat) (fun j=>[(55,.int .i64 (j:Int))]) [(1,_),(2,_),(3,_),(53,_),(54,_)] (fun j=>Ws w [] [blk b13 (.cells #[.int .i64 0,.int .i64 ((c0+cntN [m.nm]+cntN m.uses+noteM ((decide (3<m.uses.length)||decide (10<m.decls.length))||decide (6<m.procs.length))+declsC m.decls+procsC (m.procs.take j)).f:Int),.int .i64 ((c0+cntN [m.nm]+cntN m.uses+noteM ((decide (3<m.uses.length)||decide (10<m.decls.length))||decide (6<m.procs.length))+declsC m.decls+procsC (m.procs.take j)).m:Int),.int .i64 0,.int .i64 ((c0+cntN [m.nm]+cntN m.uses+noteM ((decide (3<m.uses.length)||decide (10<m.decls.length))||decide (6<m.procs.length))+declsC m.decls+procsC (m.procs.take j)).k:Int),.int .i64 0,.int .i64 0,.int .i64 0,.int .i64 0,.int .i64 0,.map (some be),.map (some bs)] 49 (0,0)),blk be (gobj kI (exprsK 9) 15),blk bs (gobj kI stmtsK 7),blk b1 (.cells (modV m r).toArray 27 (0,0))] [H]) (fun j=>j≤m.procs.length) (fun j=>m.procs.length-j) 0 (Nat.zero_le _) (sc rfl (sc rfl (sc rfl (sc rfl (sc rfl (sc rfl sn)))))) (fun _ h=>h) ?_
  intro j hj
  refine Cs (Cr ?_)
  refine V0 (yl_lt rfl rfl) ?_
  refine Ln (Et (Cs ?_))
  refine Cc rfl (fun hc1=>?_) (fun hc1=>?_)
  ·
   have hlt:j<m.procs.length:=by simpa using hc1
   obtain ⟨p,hpi⟩:∃q,m.procs[j]? = some q:=⟨_,List.getElem?_eq_getElem hlt⟩
   obtain ⟨pbp,pop,hap,hrp⟩:=hm.procs.elt j p hpi
   obtain ⟨pa1,pc1,pa2,pc2,pa3,pc3,hrow,hs1,hs2,hs3⟩:=hrp
   have hup:=wP_upto hpi
   have hbj:=hbp j
   have hle:=procsC_le (m.procs.take j)
   have q1:=cntN1_le p.nm
   have q2:=cntN_le p.params
   have q3:=cntN_le p.locs
   have q4:=noteM_tot (decide (3<p.params.length)||decide (4<p.locs.length))
   have q5:=wN_len p.params
   have q6:=wN_len p.locs
   have c1_:=hs1.cap
   have x1_:=hs1.max
   have c2_:=hs2.cap
   have x2_:=hs2.max
   have e3:c0+cntN [m.nm]+cntN m.uses+noteM ((decide (3<m.uses.length)||decide (10<m.decls.length))||decide (6<m.procs.length))+declsC m.decls+procsC (m.procs.take j)+cntN [p.nm]+cntN p.params+cntN p.locs+noteM (decide (3<p.params.length)||decide (4<p.locs.length))+cntB p.body 1=c0+cntN [m.nm]+cntN m.uses+noteM ((decide (3<m.uses.length)||decide (10<m.decls.length))||decide (6<m.procs.length))+declsC m.decls+procsC (m.procs.take (j+1)):=by rw [procsC_take hpi,procC]; simp only [Cnt.add_assoc']
   have hq0:(c0+cntN [m.nm]+cntN m.uses+noteM ((decide (3<m.uses.length)||decide (10<m.decls.length))||decide (6<m.procs.length))+declsC m.decls+procsC (m.procs.take j)).tot+16+p.params.length+p.locs.length+8*wSs p.body≤1152921504606846976:=by simp only [Cnt.tot_add]; omega
   have hq1:(c0+cntN [m.nm]+cntN m.uses+noteM ((decide (3<m.uses.length)||decide (10<m.decls.length))||decide (6<m.procs.length))+declsC m.decls+procsC (m.procs.take j)+cntN [p.nm]).tot+16+p.params.length+p.locs.length+8*wSs p.body≤1152921504606846976:=by simp only [Cnt.tot_add]; omega
   have hq2:(c0+cntN [m.nm]+cntN m.uses+noteM ((decide (3<m.uses.length)||decide (10<m.decls.length))||decide (6<m.procs.length))+declsC m.decls+procsC (m.procs.take j)+cntN [p.nm]+cntN p.params).tot+16+p.params.length+p.locs.length+8*wSs p.body≤1152921504606846976:=by simp only [Cnt.tot_add]; omega
   have hq3:(c0+cntN [m.nm]+cntN m.uses+noteM ((decide (3<m.uses.length)||decide (10<m.decls.length))||decide (6<m.procs.length))+declsC m.decls+procsC (m.procs.take j)+cntN [p.nm]+cntN p.params+cntN p.locs).tot+16+p.params.length+p.locs.length+8*wSs p.body≤1152921504606846976:=by simp only [Cnt.tot_add]; omega
   have hq4:(c0+cntN [m.nm]+cntN m.uses+noteM ((decide (3<m.uses.length)||decide (10<m.decls.length))||decide (6<m.procs.length))+declsC m.decls+procsC (m.procs.take j)+cntN [p.nm]+cntN p.params+cntN p.locs+noteM (decide (3<p.params.length)||decide (4<p.locs.length))).tot+16+p.params.length+p.locs.length+8*wSs p.body≤1152921504606846976:=by simp only [Cnt.tot_add]; omega
   refine Ck (Et (Cs (Cb (Cs (Cr ?_)))))
   refine V0 (Yo es24 rfl rfl hap (by omega)) ?_
   refine V0 (yl_lda 0 ag56 rfl rfl rfl (hrow)) ?_
   refine WL.alloc (.inl rfl) rfl zr56 fun b7=>?_
   refine Lst 0 (.inl rfl) rfl rfl rfl sz56 rfl rfl rfl ?_
   refine Ln (Et (Cs (Cr ?_)))
   refine V0 (Ym rfl) ?_
   refine V0 (Yf fo56_0 rfl) ?_
   refine V0 (Yd 0 rfl rfl rfl na9) ?_
   refine Lb (.inl rfl) rfl el22 rfl rfl rfl rfl fun b62=>?_
   refine Lsv (T:=9) (m:=1) 0 [p.nm] rfl rfl (show 1≤1 by decide) (by decide) fun H62 hH62=>?_
   refine Lf 1 rfl ?_
   refine WL.callw0 [_] _ [blk b13 (.cells #[.int .i64 0,.int .i64 ((c0+cntN [m.nm]+cntN m.uses+noteM ((decide (3<m.uses.length)||decide (10<m.decls.length))||decide (6<m.procs.length))+declsC m.decls+procsC (m.procs.take j)+cntN [p.nm]).f:Int),.int .i64 ((c0+cntN [m.nm]+cntN m.uses+noteM ((decide (3<m.uses.length)||decide (10<m.decls.length))||decide (6<m.procs.length))+declsC m.decls+procsC (m.procs.take j)+cntN [p.nm]).m:Int),.int .i64 0,.int .i64 ((c0+cntN [m.nm]+cntN m.uses+noteM ((decide (3<m.uses.length)||decide (10<m.decls.length))||decide (6<m.procs.length))+declsC m.decls+procsC (m.procs.take j)+cntN [p.nm]).k:Int),.int .i64 0,.int .i64 0,.int .i64 0,.int .i64 0,.int .i64 0,.map (some be),.map (some bs)] 49 (0,0))] (.inl rfl) rfl en19 rfl rfl [H62] (by simp) (fun w hw=>names_any b13 be bs H62 _ _ [p.nm] (c0+cntN [m.nm]+cntN m.uses+noteM ((decide (3<m.uses.length)||decide (10<m.decls.length))||decide (6<m.procs.length))+declsC m.decls+procsC (m.procs.take j)) w hH62 (by show (c0+cntN [m.nm]+cntN m.uses+noteM ((decide (3<m.uses.length)||decide (10<m.decls.length))||decide (6<m.procs.length))+declsC m.decls+procsC (m.procs.take j)).tot+1≤_; omega) hw) ?_
   refine Ln (Et (Cs (Cr ?_)))
   refine V0 (Ym rfl) ?_
   refine V0 (Yf fo56_2 rfl) ?_
   refine V0 (Yd 1 rfl rfl rfl na22) ?_
   refine Lf 0 rfl ?_
   refine WL.callw0 [_] _ [blk b13 (.cells #[.int .i64 0,.int .i64 ((c0+cntN [m.nm]+cntN m.uses+noteM ((decide (3<m.uses.length)||decide (10<m.decls.length))||decide (6<m.procs.length))+declsC m.decls+procsC (m.procs.take j)+cntN [p.nm]+cntN p.params).f:Int),.int .i64 ((c0+cntN [m.nm]+cntN m.uses+noteM ((decide (3<m.uses.length)||decide (10<m.decls.length))||decide (6<m.procs.length))+declsC m.decls+procsC (m.procs.take j)+cntN [p.nm]+cntN p.params).m:Int),.int .i64 0,.int .i64 ((c0+cntN [m.nm]+cntN m.uses+noteM ((decide (3<m.uses.length)||decide (10<m.decls.length))||decide (6<m.procs.length))+declsC m.decls+procsC (m.procs.take j)+cntN [p.nm]+cntN p.params).k:Int),.int .i64 0,.int .i64 0,.int .i64 0,.int .i64 0,.int .i64 0,.map (some be),.map (some bs)] 49 (0,0))] (.inl rfl) rfl en19 rfl rfl [H] (by simp) (fun w hw=>names_any b13 be bs H pa1 pc1 p.params (c0+cntN [m.nm]+cntN m.uses+noteM ((decide (3<m.uses.length)||decide (10<m.decls.length))||decide (6<m.procs.length))+declsC m.decls+procsC (m.procs.take j)+cntN [p.nm]) w hs1 (by omega) hw) ?_
   refine Ln (Et (Cs (Cr ?_)))
   refine V0 (Ym rfl) ?_
   refine V0 (Yf fo56_3 rfl) ?_
   refine V0 (Yd 1 rfl rfl rfl na22) ?_
   refine Lf 0 rfl ?_
   refine WL.callw0 [_] _ [blk b13 (.cells #[.int .i64 0,.int .i64 ((c0+cntN [m.nm]+cntN m.uses+noteM ((decide (3<m.uses.length)||decide (10<m.decls.length))||decide (6<m.procs.length))+declsC m.decls+procsC (m.procs.take j)+cntN [p.nm]+cntN p.params+cntN p.locs).f:Int),.int .i64 ((c0+cntN [m.nm]+cntN m.uses+noteM ((decide (3<m.uses.length)||decide (10<m.decls.length))||decide (6<m.procs.length))+declsC m.decls+procsC (m.procs.take j)+cntN [p.nm]+cntN p.params+cntN p.locs).m:Int),.int .i64 0,.int .i64 ((c0+cntN [m.nm]+cntN m.uses+noteM ((decide (3<m.uses.length)||decide (10<m.decls.length))||decide (6<m.procs.length))+declsC m.decls+procsC (m.procs.take j)+cntN [p.nm]+cntN p.params+cntN p.locs).k:Int),.int .i64 0,.int .i64 0,.int .i64 0,.int .i64 0,.int .i64 0,.map (some be),.map (some bs)] 49 (0,0))] (.inl rfl) rfl en19 rfl rfl [H] (by simp) (fun w hw=>names_any b13 be bs H pa2 pc2 p.locs (c0+cntN [m.nm]+cntN m.uses+noteM ((decide (3<m.uses.length)||decide (10<m.decls.length))||decide (6<m.procs.length))+declsC m.decls+procsC (m.procs.take j)+cntN [p.nm]+cntN p.params) w hs2 (by omega) hw) ?_
   refine Ln (Et (Cs (Cr ?_)))
   refine V0 (Ym rfl) ?_
   refine V0 (Yf fo56_2 rfl) ?_
   refine V0 (Yd 1 rfl rfl rfl na22) ?_
   refine V0 (Yn es22 rfl) ?_
   refine V0 (yl_gt rfl rfl) ?_
   rw [int_lt3]
   refine V0 (Ym rfl) ?_
   apply WL.or 4 rfl rfl rfl rfl (.inl rfl) rfl rfl rfl rfl rfl
   ·
    intro hg2
    refine Lv (.g rfl rfl rfl) rfl (Yf fo56_3 rfl) ?_
    refine Lv (.g rfl rfl rfl) rfl (Yd 1 rfl rfl rfl na22) ?_
    refine Lv (.g rfl rfl rfl) rfl (Yn es22 rfl) ?_
    refine Lv (.g rfl rfl rfl) rfl (yl_gt rfl rfl) ?_
    rw [int_lt4]
    exact Gt 4 rfl rfl rfl
   refine Lf 0 rfl ?_
   refine WL.callw0 [_] _ [blk b13 (.cells #[.int .i64 0,.int .i64 ((c0+cntN [m.nm]+cntN m.uses+noteM ((decide (3<m.uses.length)||decide (10<m.decls.length))||decide (6<m.procs.length))+declsC m.decls+procsC (m.procs.take j)+cntN [p.nm]+cntN p.params+cntN p.locs+noteM (decide (3<p.params.length)||decide (4<p.locs.length))).f:Int),.int .i64 ((c0+cntN [m.nm]+cntN m.uses+noteM ((decide (3<m.uses.length)||decide (10<m.decls.length))||decide (6<m.procs.length))+declsC m.decls+procsC (m.procs.take j)+cntN [p.nm]+cntN p.params+cntN p.locs+noteM (decide (3<p.params.length)||decide (4<p.locs.length))).m:Int),.int .i64 0,.int .i64 ((c0+cntN [m.nm]+cntN m.uses+noteM ((decide (3<m.uses.length)||decide (10<m.decls.length))||decide (6<m.procs.length))+declsC m.decls+procsC (m.procs.take j)+cntN [p.nm]+cntN p.params+cntN p.locs+noteM (decide (3<p.params.length)||decide (4<p.locs.length))).k:Int),.int .i64 0,.int .i64 0,.int .i64 0,.int .i64 0,.int .i64 0,.map (some be),.map (some bs)] 49 (0,0))] (.inl rfl) rfl en20 rfl rfl [] (by simp) (fun w hw=>note2_any b13 be bs (c0+cntN [m.nm]+cntN m.uses+noteM ((decide (3<m.uses.length)||decide (10<m.decls.length))||decide (6<m.procs.length))+declsC m.decls+procsC (m.procs.take j)+cntN [p.nm]+cntN p.params+cntN p.locs) (decide (3<p.params.length)||decide (4<p.locs.length)) w (by omega) hw) ?_
   refine Ln (Et (Cr ?_))
   refine V0 (Ym rfl) ?_
   refine V0 (Yf fo56_4 rfl) ?_
   refine V0 (Yd 1 rfl rfl rfl na25) ?_
   refine Lf 3 rfl ?_
   refine Lf 3 rfl ?_
   refine Lf 2 rfl ?_
   refine WL.callw0 [_,_,_] _ [blk b13 (.cells #[.int .i64 0,.int .i64 ((c0+cntN [m.nm]+cntN m.uses+noteM ((decide (3<m.uses.length)||decide (10<m.decls.length))||decide (6<m.procs.length))+declsC m.decls+procsC (m.procs.take j)+cntN [p.nm]+cntN p.params+cntN p.locs+noteM (decide (3<p.params.length)||decide (4<p.locs.length))+cntB p.body 1).f:Int),.int .i64 ((c0+cntN [m.nm]+cntN m.uses+noteM ((decide (3<m.uses.length)||decide (10<m.decls.length))||decide (6<m.procs.length))+declsC m.decls+procsC (m.procs.take j)+cntN [p.nm]+cntN p.params+cntN p.locs+noteM (decide (3<p.params.length)||decide (4<p.locs.length))+cntB p.body 1).m:Int),.int .i64 0,.int .i64 ((c0+cntN [m.nm]+cntN m.uses+noteM ((decide (3<m.uses.length)||decide (10<m.decls.length))||decide (6<m.procs.length))+declsC m.decls+procsC (m.procs.take j)+cntN [p.nm]+cntN p.params+cntN p.locs+noteM (decide (3<p.params.length)||decide (4<p.locs.length))+cntB p.body 1).k:Int),.int .i64 0,.int .i64 0,.int .i64 0,.int .i64 0,.int .i64 0,.map (some be),.map (some bs)] 49 (0,0)),blk be (gobj kI (exprsK 9) 15),blk bs (gobj kI stmtsK 7)] (.inl rfl) rfl en22 rfl rfl [H] (by simp) (fun w hw=>vblock_any b13 be bs H ke ks (p.body) pa3 pc3 1 (c0+cntN [m.nm]+cntN m.uses+noteM ((decide (3<m.uses.length)||decide (10<m.decls.length))||decide (6<m.procs.length))+declsC m.decls+procsC (m.procs.take j)+cntN [p.nm]+cntN p.params+cntN p.locs+noteM (decide (3<p.params.length)||decide (4<p.locs.length))) w hs3 (by omega) hw) ?_
   refine Ln (Eb (Et (Cr ?_)))
   refine V0 (Yi rfl rfl rfl (by omega)) ?_
   refine V0 (Ym rfl) ?_
   refine Ln ?_
   rw [e3]
   exact Ea (j+1) (by omega) (by omega) (sc rfl (sc rfl (sc rfl (sc rfl (sc rfl (sc rfl sn)))))) (fun _ h=>by have h:=h.fronti 4 rfl; have h:=h.fronti 3 rfl; have h:=h.fronti 3 rfl; have h:=h.fronti 3 rfl; have h:=Ws.keep (L:=[_,_,_,_]) h; have h:=Ws.drops h (fun _ hm=>List.mem_append_right [_] hm); exact h)
  ·
   have hge2:¬j<m.procs.length:=by simpa using hc1
   rw [List.take_of_length_le (by omega)]
   refine Ce (Ex (Ex (Ebh (Et (Cs ?_)))))
   refine Cr ?_
   refine V0 (Ym rfl) ?_
   refine V0 (Yf fo27_4 rfl) ?_
   refine V0 (Yd 3 rfl rfl rfl na25) ?_
   refine Lf 2 rfl ?_
   refine Lf 2 rfl ?_
   refine Lf 2 rfl ?_
   refine WL.callw0 [_,_,_] _ [blk b13 (.cells #[.int .i64 0,.int .i64 ((c0+cntN [m.nm]+cntN m.uses+noteM ((decide (3<m.uses.length)||decide (10<m.decls.length))||decide (6<m.procs.length))+declsC m.decls+procsC m.procs+cntB m.main 1).f:Int),.int .i64 ((c0+cntN [m.nm]+cntN m.uses+noteM ((decide (3<m.uses.length)||decide (10<m.decls.length))||decide (6<m.procs.length))+declsC m.decls+procsC m.procs+cntB m.main 1).m:Int),.int .i64 0,.int .i64 ((c0+cntN [m.nm]+cntN m.uses+noteM ((decide (3<m.uses.length)||decide (10<m.decls.length))||decide (6<m.procs.length))+declsC m.decls+procsC m.procs+cntB m.main 1).k:Int),.int .i64 0,.int .i64 0,.int .i64 0,.int .i64 0,.int .i64 0,.map (some be),.map (some bs)] 49 (0,0)),blk be (gobj kI (exprsK 9) 15),blk bs (gobj kI stmtsK 7)] (.inl rfl) rfl en22 rfl rfl [H] (by simp) (fun w hw=>vblock_any b13 be bs H ke ks (m.main) r.a4 r.c4 1 (c0+cntN [m.nm]+cntN m.uses+noteM ((decide (3<m.uses.length)||decide (10<m.decls.length))||decide (6<m.procs.length))+declsC m.decls+procsC m.procs) w hm.main (by omega) hw) ?_
   refine Ln (Et (Cs (Cs (Cr ?_))))
   refine V0 (yl_builda zr58 ar58 rfl rfl) ?_
   refine V0 (Ym rfl) ?_
   refine Ln (Et (Cb ?_))
   refine CK (ι:=Nat) (fun i=>[(94,.int .i64 (i:Int))]) [(3,_),(93,_)] (fun i=>Ws w [] [blk b13 (.cells #[.int .i64 0,.int .i64 ((c0+cntN [m.nm]+cntN m.uses+noteM ((decide (3<m.uses.length)||decide (10<m.decls.length))||decide (6<m.procs.length))+declsC m.decls+procsC m.procs+cntB m.main 1).f:Int),.int .i64 ((c0+cntN [m.nm]+cntN m.uses+noteM ((decide (3<m.uses.length)||decide (10<m.decls.length))||decide (6<m.procs.length))+declsC m.decls+procsC m.procs+cntB m.main 1).m:Int),.int .i64 0,.int .i64 ((c0+cntN [m.nm]+cntN m.uses+noteM ((decide (3<m.uses.length)||decide (10<m.decls.length))||decide (6<m.procs.length))+declsC m.decls+procsC m.procs+cntB m.main 1).k:Int),.int .i64 0,.int .i64 0,.int .i64 0,.int .i64 0,.int .i64 0,.map (some be),.map (some bs)] 49 (0,0)),blk be (gobj kI (exprsK 9) 15),blk bs (gobj kI stmtsK 7),blk b1 (.cells (modV m r).toArray 27 (0,0))] [H]) (fun i=>i≤3∧∀j,j<i→cE (c0+cntN [m.nm]+cntN m.uses+noteM ((decide (3<m.uses.length)||decide (10<m.decls.length))||decide (6<m.procs.length))+declsC m.decls+procsC m.procs+cntB m.main 1) j=0) (fun i=>3-i) 0 ⟨Nat.zero_le _,by simp⟩ (sc rfl (sc rfl (sc rfl sn))) (fun _ h=>h) ?_
   intro i ⟨hi,hall⟩
   refine Cs (Cr ?_)
   refine V0 (yl_lt rfl rfl) ?_
   refine Ln (Et (Cs ?_))
   refine Cc rfl (fun hc2=>?_) (fun hc2=>?_)
   ·
    have hlt:i<3:=by simp at hc2; omega
    refine Ck (Et (Cs (Cb (Cs (Cr ?_)))))
    refine V0 (yl_ixa (i:=i) ara58 rfl rfl hlt (eN_get hlt)) ?_
    refine V0 (Ya rfl) ?_
    refine Ln (Et (Cs (Cr ?_)))
    refine V0 (Ym rfl) ?_
    refine V0 (Ym rfl) ?_
    refine V0 (yl_nil rfl) ?_
    refine V0 (Yf fo49_0 rfl) ?_
    refine V0 (yl_iar (i:=eN i) ar47 rfl rfl (eN_lt i)) ?_
    refine V0 (Yd 0 rfl rfl (found_get hlt) na3) ?_
    refine V0 (yl_gt rfl rfl) ?_
    refine Ln (Et ?_)
    refine Cc rfl (fun hc3=>?_) (fun hc3=>?_)
    ·
     have hpos:0<cE (c0+cntN [m.nm]+cntN m.uses+noteM ((decide (3<m.uses.length)||decide (10<m.decls.length))||decide (6<m.procs.length))+declsC m.decls+procsC m.procs+cntB m.main 1) i:=by simpa using hc3
     refine Cs (Cr ?_)
     refine V0 (Ym rfl) ?_
     refine V0 (Ya rfl) ?_
     refine Ln (Et (Crt (Ebr (Er (Er ?_)))))
     refine Ebr (Er ?_)
     refine WE.ret1 rfl rfl fun w' hw=>?_
     refine ⟨?_,hw.fr⟩
     rw [err_at hlt hall hpos,show c0+cntN [m.nm]+cntN m.uses+noteM ((decide (3<m.uses.length)||decide (10<m.decls.length))||decide (6<m.procs.length))+declsC m.decls+procsC m.procs+cntB m.main 1=modC m by rw [modC,c0_add]]
     rfl
    ·
     have hzero:cE (c0+cntN [m.nm]+cntN m.uses+noteM ((decide (3<m.uses.length)||decide (10<m.decls.length))||decide (6<m.procs.length))+declsC m.decls+procsC m.procs+cntB m.main 1) i=0:=by simp at hc3; omega
     refine Ck (Eb (Et (Cr ?_)))
     refine V0 (Yi rfl rfl rfl (by omega)) ?_
     refine V0 (Ym rfl) ?_
     refine Ln ?_
     exact Ea (i+1) (by omega) ⟨by omega,fun j hj=>by rcases Nat.lt_succ_iff_lt_or_eq.1 hj with h | rfl; exact hall j h; exact hzero⟩ (sc rfl (sc rfl (sc rfl sn))) (fun _ h=>h)
   ·
    have hge3:¬i<3:=by simp at hc2; omega
    refine Ce (Ex (Ex (Ebh (Et (Cs ?_)))))
    refine Cr ?_
    refine V0 (Ya rfl) ?_
    refine Ln (Et (Crt ?_))
    refine WE.ret1 rfl rfl fun w' hw=>?_
    refine ⟨?_,hw.fr⟩
    rw [checkM,show modC m=c0+cntN [m.nm]+cntN m.uses+noteM ((decide (3<m.uses.length)||decide (10<m.decls.length))||decide (6<m.procs.length))+declsC m.decls+procsC m.procs+cntB m.main 1 by rw [modC,c0_add],err_none fun j hj=>hall j (by omega)]
end Go.Proofs.YtjfldjidhkfnbaaGreatDoor
end
section
namespace Go.Proofs.YtjfldjidhkfnbaaGreatDoor
open Go.Bw
set_option linter.unusedVariables false
set_option linter.unusedSimpArgs false
abbrev penL (pb:Nat) (r:Option Addr×Nat) (l:List Tok):List Asr:=[blk pb (.cells #[.slice r.1 l.length r.2] 63 (0,0)),osT 66 3 Tok.cells r.1 r.2 l]
theorem nameB_len {s:Tx} (h:nameB s=true):s.length≤8:=by
 simp only [nameB,Bool.and_eq_true,decide_eq_true_eq] at h; exact h.1.1.2
theorem nameT_len {s:Tx} (h:nameT s=true):s.length≤4096:=by have:=nameB_len (nameT_B h); omega
theorem good_len {s:Tx} (h:goodW s):s.length≤4096:=by have:=tokTxt_len h.1.1 h.1.2; rw [h.2] at this; omega
theorem badName_len {mod nm:Tx} (h:badName true mod nm=false):mod.length≤4096∧nm.length≤4096:=by
 obtain ⟨h1,h2⟩:=badName_ref h
 refine ⟨?_,nameT_len h2⟩
 rcases h1 with rfl | h1
 · exact Nat.zero_le _
 · exact nameT_len h1
theorem itoa_len {n:Int} (h0:0≤n) (h1:n≤1099511627775):(Lib.itoa n).length≤4096:=good_len (good_num h0 h1)
theorem atoiK_t {s:Tx} (h:atoiK s=true):putTok s=⟨2,atoiV s,[]⟩:=by
 unfold putTok atoiV
 unfold atoiK at h
 cases hs:Lib.atoiAll s with
 | ok v=>rfl
 | _=>rw [hs] at h; cases h
theorem atoiK_f {s:Tx} (h:atoiK s=false):putTok s=if nameB s=true then ⟨1,0,s⟩ else ⟨3,0,s⟩:=by
 unfold putTok
 unfold atoiK at h
 cases hs:Lib.atoiAll s with
 | ok v=>rw [hs] at h; cases h
 | _=>rfl
theorem TW_len (l:List Tx):(TW l).length=l.length:=by simp [TW]
theorem TW_take {ws:List Tx} {i:Nat} {x:Tx} (h:ws[i]? = some x):TW (ws.take (i+1))=TW (ws.take i)++[putTok x]:=by rw [take_snoc h,TW_app]; rfl
theorem okE' {x:TExpr} {d:Nat} (h:(cntE x d).tot=0):OkE x.op x.n x.mod x.nm x.args d:=by cases x; exact okE h
theorem exprW_eq (x:TExpr):exprW x=exprO x.op x.n x.mod x.nm (exprWs x.args):=by cases x; exact exprW_mk _ _ _ _ _
theorem at_get:∀{l:List TExpr} {i:Nat} {y:TExpr},l[i]? = some y→at_ (exprWs l) i=exprW y
 | [],i,y,h=>by simp at h
 | x::r,0,y,h=>by simp at h; subst h; rfl
 | x::r,i+1,y,h=>by
   have:=at_get (l:=r) (i:=i) (y:=y) (by simpa using h)
   unfold exprWs at_
   unfold at_ at this
   simpa using this
theorem get0 {α:Type} {l:List α} {k i:Nat} (h:l.length=k) (hi:i<k):∃y,l[i]? = some y:=⟨_,List.getElem?_eq_getElem (by omega)⟩
theorem cntEs_get {d i:Nat} {y:TExpr}:∀{l:List TExpr},(cntEs l d).tot=0→l[i]? = some y→(cntE y d).tot=0
 | [],_,h=>by simp at h
 | x::r,h0,h=>by
   obtain ⟨h1,h2⟩:=okEs h0
   cases i with
   | zero=>simp at h; subst h; exact h1
   | succ i=>exact cntEs_get (i:=i) h2 (by simpa using h)
theorem okE_ref {op n:Int} {mod nm:Tx} {args:List TExpr} {d:Nat} (h:OkE op n mod nm args d) (hk:3≤op∧op≤5):badName true mod nm=false:=(badName_E h.name).1 hk
theorem HE1 {x:TExpr} (h:x.op=1):exprW x=[Lib.itoa x.n]:=by rw [exprW_eq,exprO,if_pos h]
theorem HE2 {x:TExpr} (h:x.op=2):exprW x=[[105,110]]:=by rw [exprW_eq,exprO,if_neg (by omega),if_pos h]; rfl
theorem HE3 {x:TExpr} (h:x.op=3):exprW x=refW x.mod x.nm:=by rw [exprW_eq,exprO,if_neg (by omega),if_neg (by omega),if_pos h]
theorem HE4 {x y:TExpr} (h:x.op=4) (hy:x.args[0]? = some y):exprW x=refW x.mod x.nm++[[91]]++exprW y++[[93]]:=by rw [exprW_eq,exprO,if_neg (by omega),if_neg (by omega),if_neg (by omega),if_pos h,at_get hy]
theorem HE5 {x:TExpr} (h:x.op=5):exprW x=refW x.mod x.nm++argsW (exprWs x.args):=by rw [exprW_eq,exprO,if_neg (by omega),if_neg (by omega),if_neg (by omega),if_neg (by omega),if_pos h]
theorem HE6 {x y:TExpr} (h:x.op=6) (hy:x.args[0]? = some y):exprW x=[[33]]++exprW y:=by rw [exprW_eq,exprO,if_neg (by omega),if_neg (by omega),if_neg (by omega),if_neg (by omega),if_neg (by omega),if_pos h,at_get hy]
theorem HE7 {x y z:TExpr} (h:7≤x.op) (hy:x.args[0]? = some y) (hz:x.args[1]? = some z):exprW x=[[40]]++exprW y++[opW x.op]++exprW z++[[41]]:=by rw [exprW_eq,exprO,if_neg (by omega),if_neg (by omega),if_neg (by omega),if_neg (by omega),if_neg (by omega),if_neg (by omega),at_get hy,at_get hz]
theorem ops_get {op:Int} (h:7≤op∧op≤15):((opsL.map st).toArray)[(op-7).toNat]? = some (st (opW op)):=by
 have:op=7∨op=8∨op=9∨op=10∨op=11∨op=12∨op=13∨op=14∨op=15:=by omega
 rcases this with rfl | rfl | rfl | rfl | rfl | rfl | rfl | rfl | rfl<;>rfl
theorem opW_len (op:Int) (h:7≤op∧op≤15):(opW op).length≤4096:=good_len (good_op h)
theorem exprWs_get:∀{l:List TExpr} {i:Nat} {y:TExpr},l[i]? = some y→(exprWs l)[i]? = some (exprW y)
 | [],i,y,h=>by simp at h
 | x::r,0,y,h=>by simp at h; subst h; rfl
 | x::r,i+1,y,h=>by
   have:=exprWs_get (l:=r) (i:=i) (y:=y) (by simpa using h)
   unfold exprWs
   simpa using this
theorem comma_snoc (x:List Tx):∀l:List (List Tx),l≠[]→commaW (l++[x])=commaW l++[[44]]++x
 | [],h=>absurd rfl h
 | [y],_=>by simp [commaW]
 | y::z::r,_=>by
   have:=comma_snoc x (z::r) (by simp)
   show y++[[44]]++commaW ((z::r)++[x])=y++[[44]]++commaW (z::r)++[[44]]++x
   rw [this]
   simp
theorem comma_take0 {l:List (List Tx)} {x:List Tx} {i:Nat} (h:l[i]? = some x) (hi:i=0):commaW (l.take (i+1))=commaW (l.take i)++x:=by
 subst hi
 rw [take_snoc h]
 simp [commaW]
theorem comma_takeS {l:List (List Tx)} {x:List Tx} {i:Nat} (h:l[i]? = some x) (hi:0<i):commaW (l.take (i+1))=commaW (l.take i)++[[44]]++x:=by
 have hlt:=(List.getElem?_eq_some_iff.1 h).1
 rw [take_snoc h,comma_snoc]
 intro h2
 have h3:(l.take i).length=i:=by rw [List.length_take]; omega
 rw [h2,List.length_nil] at h3
 omega
theorem comma_le (l:List (List Tx)) (i:Nat):(commaW (l.take i)).length≤(commaW l).length:=by
 have key:∀(a b:List (List Tx)),(commaW a).length≤(commaW (a++b)).length:=by
   intro a b
   induction a with
   | nil=>simp [commaW]
   | cons x r ih=>
     cases r with
     | nil=>cases b with
       | nil=>simp
       | cons y b=>simp only [List.cons_append,List.nil_append,commaW,List.length_append]; omega
     | cons y r=>simp only [List.cons_append,commaW,List.length_append] at ih ⊢; omega
 have:=key (l.take i) (l.drop i)
 rwa [List.take_append_drop] at this
theorem fo63_0:fieldOff Tryz.prog 63 0=some 0:=by kernel_rfl
theorem na61:nonAgg Tryz.prog 61=true:=by kernel_rfl
theorem sz61:sizeP Tryz.prog 61=some 1:=by kernel_rfl
theorem put_any (pb:Nat) (G H:View) (r:Option Addr×Nat) (l:List Tok) (a:Option Addr) (n:Nat) (ws:List Tx) (w:World) (hz:Laid G) (hm:Sl rdStr 1 H a n ws) (hl:l.length+ws.length≤1099511627776) (hs:∀s ∈ ws,s.length≤4096) (hw:Ws w (List.flatMap Asr.ids (penL pb r l)) (penL pb r l) [G,H] w) :
   Calls Tryz.prog 42 #[.pointer (some ⟨pb,0,none⟩),.slice a ws.length n] w fun e w'=>∃r2:Option Addr×Nat,e = .returned (.tuple #[])∧Ws w (List.flatMap Asr.ids (penL pb r l)) (penL pb r2 (l++TW (ws))) [G,H] w':=by
 have hcap:=hm.cap
 have hmax:=hm.max
 refine enter Tryz.func42 rfl 40 rfl rfl ?_
 refine CWd (W':=Ws w (List.flatMap Asr.ids (penL pb r l)) (penL pb r l) [G,H]) (fun _ e=>by subst e; exact hw) ?_
 refine Cs (Cr ?_)
 refine V0 (Ym rfl) ?_
 refine V0 (Yn es22 rfl) ?_
 refine V0 (Ym rfl) ?_
 refine Ln (Et (Cb ?_))
 refine CK (ι:=Nat×(Option Addr×Nat)) (fun g=>[(11,.int .i64 (g.1:Int))]) [(0,_),(9,_),(10,_)] (fun g=>Ws w (List.flatMap Asr.ids (penL pb r l)) (penL pb g.2 (l++TW (ws.take g.1))) [G,H]) (fun g=>g.1≤ws.length) (fun g=>ws.length-g.1) (0,r) (Nat.zero_le _) (sc rfl (sc rfl (sc rfl (sc rfl sn)))) (fun _ h=>by simpa [TW] using h) ?_
 intro g hi
 refine Cs (Cr ?_)
 refine V0 (yl_lt rfl rfl) ?_
 refine Ln (Et (Cs ?_))
 refine Cc rfl (fun hc0=>?_) (fun hc0=>?_)
 ·
  have hlt:g.1<ws.length:=by simpa using hc0
  obtain ⟨x,hxi⟩:∃x,ws[g.1]? = some x:=⟨_,List.getElem?_eq_getElem hlt⟩
  obtain ⟨pbx,pox,ha,hrow⟩:=hm.elt g.1 x hxi
  have hrow:RdC H pbx (pox+g.1*1) (strC x):=hrow
  have hsx:=hs x (List.mem_of_getElem? hxi)
  have hlen:(l++TW (ws.take g.1)).length+1≤1099511627776:=by
    rw [List.length_append,TW_len]
    simp
    omega
  have e2:l++TW (ws.take g.1)++[putTok x]=l++TW (ws.take (g.1+1)):=by rw [TW_take hxi,List.append_assoc]
  refine Ck (Et (Cs (Cb (Cs (Cr ?_)))))
  refine V0 (Yo es22 rfl rfl (by assumption) (by omega)) ?_
  refine V0 (yl_ld 1 na9 rfl rfl (hrow 0 _ rfl)) ?_
  refine V0 (Ya rfl) ?_
  refine Ln (Et (Cs (Cr ?_)))
  refine V0 (Ym rfl) ?_
  refine V0 (Yb zr66 pl66 rfl rfl) ?_
  refine WL.alloc (.inl rfl) rfl zr66 fun b6=>?_
  refine Lst 0 (.inl rfl) rfl rfl rfl sz66 rfl rfl rfl ?_
  refine Ln (Et (Cs (Cs (Cr ?_))))
  refine V0 (Ym rfl) ?_
  refine Ld (.inl rfl) rfl en71 rfl (fun r:Value=>.tuple #[.int .i64 (atoiV x),r]) (fun _ r=>ErrIs r (atoiK x)) (fun w hw=>atoi_any G x hsx w (hw.vs _ (by simp)) hz) ?_
  intro F19 r19 hf19 h19
  refine V0 (Ym rfl) ?_
  refine V0 (Yx rfl rfl) ?_
  refine V0 (Yx rfl rfl) ?_
  refine V0 (Ya rfl) ?_
  refine V0 (Ya rfl) ?_
  refine Ln (Et (Cs (Cr ?_)))
  refine V0 (Ym rfl) ?_
  refine V0 (yl_eqnr (atoiK x) uif113 rfl h19) ?_
  refine Ln (Et ?_)
  refine Cc rfl (fun hc1=>?_) (fun hc1=>?_)
  ·
   have hk:=atoiK_t hc1
   refine Cr ?_
   refine V0 (Ym rfl) ?_
   refine V0 (Yb zr66 pl66 rfl rfl) ?_
   refine Lst 0 (.inl rfl) rfl rfl rfl sz66 rfl rfl rfl ?_
   refine Ln (Et ?_)
   refine Crb 0 (.cells (putTok x).cells.toArray 66 (0,0)) rfl (by rw [hk]; rfl) ?_
   refine CU (fun _=>true) [1,1] [10] (.q false 0 (.q false 1 (.q false 2 (.q false 3 (.q true 5 (.e 4 (.e 6 (.e 7 (.q false 8 (.q false 9 .nil)) .stop) .stop) (.e 6 (.e 4 (.e 7 (.q false 8 (.q false 9 .nil)) .stop) .stop) .stop))))))) mixed (by kernel_rfl) (fun _ _ _ d _ _ h=>by cases d<;>exact h) ?_
   refine Uq rfl (.inl rfl) rfl (fun _ h=>by have h:=Ws.out 1 h; have h:=Ws.out 1 h; exact h) (Ym rfl) ?_
   refine Uq rfl (.inl rfl) rfl (fun _ h=>by have h:=Ws.out 1 h; have h:=Ws.out 1 h; exact h) (Ym rfl) ?_
   refine Uq rfl (.inl rfl) rfl (fun _ h=>by have h:=Ws.out 1 h; have h:=Ws.out 1 h; exact h) (yl_nil rfl) ?_
   refine Uq rfl (.inl rfl) rfl (fun _ h=>by have h:=Ws.out 1 h; have h:=Ws.out 1 h; exact h) (Yf fo63_0 rfl) ?_
   refine Uq rfl (.inl rfl) rfl (fun _ h=>by have h:=Ws.out 1 h; have h:=Ws.out 1 h; exact h) (Yda 0 rfl rfl ag66 rfl) ?_
   refine Ue rfl (fun _ h=>by have h:=Ws.out 1 h; have h:=Ws.out 1 h; exact h) ?_ ?_
   ·
    refine V0 (Yd 1 rfl rfl rfl na61) ?_
    refine Ln (Eu ?_)
    refine Ue rfl (fun _ h=>by have h:=Ws.out 1 h; have h:=Ws.out 1 h; exact h) ?_ WU.stop
    refine Lb (.inl rfl) rfl el61 rfl rfl rfl rfl fun b35=>?_
    refine Ln (Eu ?_)
    refine Ue rfl (fun _ h=>by have h:=Ws.drop (L:=[_]) (L':=_) h; have h:=Ws.out 1 h; have h:=Ws.out 1 h; exact h) ?_ WU.stop
    refine LA (putTok x) 3 0 (.inl rfl) rfl el61 rfl rfl rfl rfl rfl rfl (by omega) (by omega) fun a36 c36=>?_
    refine Ln (Eu ?_)
    refine Uq rfl (.inl rfl) rfl (fun _ h=>by have h:=Ws.drop (L:=[_]) (L':=_) h; have h:=Ws.out 1 h; have h:=Ws.out 1 h; exact h) (yl_nil rfl) ?_
    refine Uq rfl (.inl rfl) rfl (fun _ h=>by have h:=Ws.drop (L:=[_]) (L':=_) h; have h:=Ws.out 1 h; have h:=Ws.out 1 h; exact h) (Yf fo63_0 rfl) ?_
    refine WU.nil (fun _ h=>by have h:=Ws.drop (L:=[_]) (L':=_) h; have h:=Ws.out 1 h; have h:=Ws.out 1 h; exact h) ?_
    refine WS.e rfl ?_
    refine Lst 2 (.inl rfl) rfl rfl rfl sz61 rfl rfl rfl ?_
    refine Ln (Es ?_)
    refine WS.nil ?_
    refine Eb (Et (Cr ?_))
    refine V0 (Yi rfl rfl rfl (by omega)) ?_
    refine V0 (Ym rfl) ?_
    refine Ln ?_
    rw [e2]
    exact Ea ((g.1+1,a36,c36):Nat×(Option Addr×Nat)) (by show ws.length-(g.1+1)<ws.length-g.1; omega) (by show g.1+1≤ws.length; omega) (sc rfl (sc rfl (sc rfl (sc rfl sn)))) (fun _ h=>Ws.drops (Ws.drop (L:=[_,_]) h) (fun _ hm=>List.mem_append_right [_] hm))
   refine Ue rfl (fun _ h=>by have h:=Ws.out 1 h; have h:=Ws.out 1 h; exact h) ?_ WU.stop
   refine Lb (.inl rfl) rfl el61 rfl rfl rfl rfl fun b35=>?_
   refine Ln (Eu ?_)
   refine Ue rfl (fun _ h=>by have h:=Ws.drop (L:=[_]) (L':=_) h; have h:=Ws.out 1 h; have h:=Ws.out 1 h; exact h) ?_ WU.stop
   refine V0 (Yd 2 rfl rfl rfl na61) ?_
   refine Ln (Eu ?_)
   refine Ue rfl (fun _ h=>by have h:=Ws.drop (L:=[_]) (L':=_) h; have h:=Ws.out 1 h; have h:=Ws.out 1 h; exact h) ?_ WU.stop
   refine LA (putTok x) 3 0 (.inl rfl) rfl el61 rfl rfl rfl rfl rfl rfl (by omega) (by omega) fun a36 c36=>?_
   refine Ln (Eu ?_)
   refine Uq rfl (.inl rfl) rfl (fun _ h=>by have h:=Ws.drop (L:=[_]) (L':=_) h; have h:=Ws.out 1 h; have h:=Ws.out 1 h; exact h) (yl_nil rfl) ?_
   refine Uq rfl (.inl rfl) rfl (fun _ h=>by have h:=Ws.drop (L:=[_]) (L':=_) h; have h:=Ws.out 1 h; have h:=Ws.out 1 h; exact h) (Yf fo63_0 rfl) ?_
   refine WU.nil (fun _ h=>by have h:=Ws.drop (L:=[_]) (L':=_) h; have h:=Ws.out 1 h; have h:=Ws.out 1 h; exact h) ?_
   refine WS.e rfl ?_
   refine Lst 2 (.inl rfl) rfl rfl rfl sz61 rfl rfl rfl ?_
   refine Ln (Es ?_)
   refine WS.nil ?_
   refine Eb (Et (Cr ?_))
   refine V0 (Yi rfl rfl rfl (by omega)) ?_
   refine V0 (Ym rfl) ?_
   refine Ln ?_
   rw [e2]
   exact Ea ((g.1+1,a36,c36):Nat×(Option Addr×Nat)) (by show ws.length-(g.1+1)<ws.length-g.1; omega) (by show g.1+1≤ws.length; omega) (sc rfl (sc rfl (sc rfl (sc rfl sn)))) (fun _ h=>Ws.drops (Ws.drop (L:=[_,_]) h) (fun _ hm=>List.mem_append_right [_] hm))
  ·
   have hk:=atoiK_f hc1
   refine Cs (Cr ?_)
   refine V0 (Ym rfl) ?_
   refine Lp (.inl rfl) rfl en66 rfl (fun w hw=>lexName_any x w) ?_
   refine Ln (Et ?_)
   refine Cc rfl (fun hc2=>?_) (fun hc2=>?_)
   ·
    rw [if_pos hc2] at hk
    refine Cr ?_
    refine V0 (Yf fo66_0 rfl) ?_
    refine Lst 0 (.inl rfl) rfl rfl rfl sz3 rfl rfl rfl ?_
    refine Ln (Et ?_)
    refine Crb 0 (.cells (putTok x).cells.toArray 66 (0,0)) rfl (by rw [hk]; rfl) ?_
    refine CU (fun _=>true) [1,1] [10] (.q false 0 (.q false 1 (.q false 2 (.q false 3 (.q true 5 (.e 4 (.e 6 (.e 7 (.q false 8 (.q false 9 .nil)) .stop) .stop) (.e 6 (.e 4 (.e 7 (.q false 8 (.q false 9 .nil)) .stop) .stop) .stop))))))) mixed (by kernel_rfl) (fun _ _ _ d _ _ h=>by cases d<;>exact h) ?_
    refine Uq rfl (.inl rfl) rfl (fun _ h=>by have h:=Ws.out 1 h; have h:=Ws.out 1 h; exact h) (Ym rfl) ?_
    refine Uq rfl (.inl rfl) rfl (fun _ h=>by have h:=Ws.out 1 h; have h:=Ws.out 1 h; exact h) (Ym rfl) ?_
    refine Uq rfl (.inl rfl) rfl (fun _ h=>by have h:=Ws.out 1 h; have h:=Ws.out 1 h; exact h) (yl_nil rfl) ?_
    refine Uq rfl (.inl rfl) rfl (fun _ h=>by have h:=Ws.out 1 h; have h:=Ws.out 1 h; exact h) (Yf fo63_0 rfl) ?_
    refine Uq rfl (.inl rfl) rfl (fun _ h=>by have h:=Ws.out 1 h; have h:=Ws.out 1 h; exact h) (Yda 0 rfl rfl ag66 rfl) ?_
    refine Ue rfl (fun _ h=>by have h:=Ws.out 1 h; have h:=Ws.out 1 h; exact h) ?_ ?_
    ·
     refine V0 (Yd 1 rfl rfl rfl na61) ?_
     refine Ln (Eu ?_)
     refine Ue rfl (fun _ h=>by have h:=Ws.out 1 h; have h:=Ws.out 1 h; exact h) ?_ WU.stop
     refine Lb (.inl rfl) rfl el61 rfl rfl rfl rfl fun b35=>?_
     refine Ln (Eu ?_)
     refine Ue rfl (fun _ h=>by have h:=Ws.drop (L:=[_]) (L':=_) h; have h:=Ws.out 1 h; have h:=Ws.out 1 h; exact h) ?_ WU.stop
     refine LA (putTok x) 3 0 (.inl rfl) rfl el61 rfl rfl rfl rfl rfl rfl (by omega) (by omega) fun a36 c36=>?_
     refine Ln (Eu ?_)
     refine Uq rfl (.inl rfl) rfl (fun _ h=>by have h:=Ws.drop (L:=[_]) (L':=_) h; have h:=Ws.out 1 h; have h:=Ws.out 1 h; exact h) (yl_nil rfl) ?_
     refine Uq rfl (.inl rfl) rfl (fun _ h=>by have h:=Ws.drop (L:=[_]) (L':=_) h; have h:=Ws.out 1 h; have h:=Ws.out 1 h; exact h) (Yf fo63_0 rfl) ?_
     refine WU.nil (fun _ h=>by have h:=Ws.drop (L:=[_]) (L':=_) h; have h:=Ws.out 1 h; have h:=Ws.out 1 h; exact h) ?_
     refine WS.e rfl ?_
     refine Lst 2 (.inl rfl) rfl rfl rfl sz61 rfl rfl rfl ?_
     refine Ln (Es ?_)
     refine WS.nil ?_
     refine Eb (Et (Cr ?_))
     refine V0 (Yi rfl rfl rfl (by omega)) ?_
     refine V0 (Ym rfl) ?_
     refine Ln ?_
     rw [e2]
     exact Ea ((g.1+1,a36,c36):Nat×(Option Addr×Nat)) (by show ws.length-(g.1+1)<ws.length-g.1; omega) (by show g.1+1≤ws.length; omega) (sc rfl (sc rfl (sc rfl (sc rfl sn)))) (fun _ h=>Ws.drops (Ws.drop (L:=[_,_]) h) (fun _ hm=>List.mem_append_right [_] hm))
    refine Ue rfl (fun _ h=>by have h:=Ws.out 1 h; have h:=Ws.out 1 h; exact h) ?_ WU.stop
    refine Lb (.inl rfl) rfl el61 rfl rfl rfl rfl fun b35=>?_
    refine Ln (Eu ?_)
    refine Ue rfl (fun _ h=>by have h:=Ws.drop (L:=[_]) (L':=_) h; have h:=Ws.out 1 h; have h:=Ws.out 1 h; exact h) ?_ WU.stop
    refine V0 (Yd 2 rfl rfl rfl na61) ?_
    refine Ln (Eu ?_)
    refine Ue rfl (fun _ h=>by have h:=Ws.drop (L:=[_]) (L':=_) h; have h:=Ws.out 1 h; have h:=Ws.out 1 h; exact h) ?_ WU.stop
    refine LA (putTok x) 3 0 (.inl rfl) rfl el61 rfl rfl rfl rfl rfl rfl (by omega) (by omega) fun a36 c36=>?_
    refine Ln (Eu ?_)
    refine Uq rfl (.inl rfl) rfl (fun _ h=>by have h:=Ws.drop (L:=[_]) (L':=_) h; have h:=Ws.out 1 h; have h:=Ws.out 1 h; exact h) (yl_nil rfl) ?_
    refine Uq rfl (.inl rfl) rfl (fun _ h=>by have h:=Ws.drop (L:=[_]) (L':=_) h; have h:=Ws.out 1 h; have h:=Ws.out 1 h; exact h) (Yf fo63_0 rfl) ?_
    refine WU.nil (fun _ h=>by have h:=Ws.drop (L:=[_]) (L':=_) h; have h:=Ws.out 1 h; have h:=Ws.out 1 h; exact h) ?_
    refine WS.e rfl ?_
    refine Lst 2 (.inl rfl) rfl rfl rfl sz61 rfl rfl rfl ?_
    refine Ln (Es ?_)
    refine WS.nil ?_
    refine Eb (Et (Cr ?_))
    refine V0 (Yi rfl rfl rfl (by omega)) ?_
    refine V0 (Ym rfl) ?_
    refine Ln ?_
    rw [e2]
    exact Ea ((g.1+1,a36,c36):Nat×(Option Addr×Nat)) (by show ws.length-(g.1+1)<ws.length-g.1; omega) (by show g.1+1≤ws.length; omega) (sc rfl (sc rfl (sc rfl (sc rfl sn)))) (fun _ h=>Ws.drops (Ws.drop (L:=[_,_]) h) (fun _ hm=>List.mem_append_right [_] hm))
   ·
    rw [if_neg (by simpa using hc2)] at hk
    refine Ck (Et ?_)
    refine Crb 0 (.cells (putTok x).cells.toArray 66 (0,0)) rfl (by rw [hk]; rfl) ?_
    refine CU (fun _=>true) [1,1] [10] (.q false 0 (.q false 1 (.q false 2 (.q false 3 (.q true 5 (.e 4 (.e 6 (.e 7 (.q false 8 (.q false 9 .nil)) .stop) .stop) (.e 6 (.e 4 (.e 7 (.q false 8 (.q false 9 .nil)) .stop) .stop) .stop))))))) mixed (by kernel_rfl) (fun _ _ _ d _ _ h=>by cases d<;>exact h) ?_
    refine Uq rfl (.inl rfl) rfl (fun _ h=>by have h:=Ws.out 1 h; have h:=Ws.out 1 h; exact h) (Ym rfl) ?_
    refine Uq rfl (.inl rfl) rfl (fun _ h=>by have h:=Ws.out 1 h; have h:=Ws.out 1 h; exact h) (Ym rfl) ?_
    refine Uq rfl (.inl rfl) rfl (fun _ h=>by have h:=Ws.out 1 h; have h:=Ws.out 1 h; exact h) (yl_nil rfl) ?_
    refine Uq rfl (.inl rfl) rfl (fun _ h=>by have h:=Ws.out 1 h; have h:=Ws.out 1 h; exact h) (Yf fo63_0 rfl) ?_
    refine Uq rfl (.inl rfl) rfl (fun _ h=>by have h:=Ws.out 1 h; have h:=Ws.out 1 h; exact h) (Yda 0 rfl rfl ag66 rfl) ?_
    refine Ue rfl (fun _ h=>by have h:=Ws.out 1 h; have h:=Ws.out 1 h; exact h) ?_ ?_
    ·
     refine V0 (Yd 1 rfl rfl rfl na61) ?_
     refine Ln (Eu ?_)
     refine Ue rfl (fun _ h=>by have h:=Ws.out 1 h; have h:=Ws.out 1 h; exact h) ?_ WU.stop
     refine Lb (.inl rfl) rfl el61 rfl rfl rfl rfl fun b35=>?_
     refine Ln (Eu ?_)
     refine Ue rfl (fun _ h=>by have h:=Ws.drop (L:=[_]) (L':=_) h; have h:=Ws.out 1 h; have h:=Ws.out 1 h; exact h) ?_ WU.stop
     refine LA (putTok x) 3 0 (.inl rfl) rfl el61 rfl rfl rfl rfl rfl rfl (by omega) (by omega) fun a36 c36=>?_
     refine Ln (Eu ?_)
     refine Uq rfl (.inl rfl) rfl (fun _ h=>by have h:=Ws.drop (L:=[_]) (L':=_) h; have h:=Ws.out 1 h; have h:=Ws.out 1 h; exact h) (yl_nil rfl) ?_
     refine Uq rfl (.inl rfl) rfl (fun _ h=>by have h:=Ws.drop (L:=[_]) (L':=_) h; have h:=Ws.out 1 h; have h:=Ws.out 1 h; exact h) (Yf fo63_0 rfl) ?_
     refine WU.nil (fun _ h=>by have h:=Ws.drop (L:=[_]) (L':=_) h; have h:=Ws.out 1 h; have h:=Ws.out 1 h; exact h) ?_
     refine WS.e rfl ?_
     refine Lst 2 (.inl rfl) rfl rfl rfl sz61 rfl rfl rfl ?_
     refine Ln (Es ?_)
     refine WS.nil ?_
     refine Eb (Et (Cr ?_))
     refine V0 (Yi rfl rfl rfl (by omega)) ?_
     refine V0 (Ym rfl) ?_
     refine Ln ?_
     rw [e2]
     exact Ea ((g.1+1,a36,c36):Nat×(Option Addr×Nat)) (by show ws.length-(g.1+1)<ws.length-g.1; omega) (by show g.1+1≤ws.length; omega) (sc rfl (sc rfl (sc rfl (sc rfl sn)))) (fun _ h=>Ws.drops (Ws.drop (L:=[_,_]) h) (fun _ hm=>List.mem_append_right [_] hm))
    refine Ue rfl (fun _ h=>by have h:=Ws.out 1 h; have h:=Ws.out 1 h; exact h) ?_ WU.stop
    refine Lb (.inl rfl) rfl el61 rfl rfl rfl rfl fun b35=>?_
    refine Ln (Eu ?_)
    refine Ue rfl (fun _ h=>by have h:=Ws.drop (L:=[_]) (L':=_) h; have h:=Ws.out 1 h; have h:=Ws.out 1 h; exact h) ?_ WU.stop
    refine V0 (Yd 2 rfl rfl rfl na61) ?_
    refine Ln (Eu ?_)
    refine Ue rfl (fun _ h=>by have h:=Ws.drop (L:=[_]) (L':=_) h; have h:=Ws.out 1 h; have h:=Ws.out 1 h; exact h) ?_ WU.stop
    refine LA (putTok x) 3 0 (.inl rfl) rfl el61 rfl rfl rfl rfl rfl rfl (by omega) (by omega) fun a36 c36=>?_
    refine Ln (Eu ?_)
    refine Uq rfl (.inl rfl) rfl (fun _ h=>by have h:=Ws.drop (L:=[_]) (L':=_) h; have h:=Ws.out 1 h; have h:=Ws.out 1 h; exact h) (yl_nil rfl) ?_
    refine Uq rfl (.inl rfl) rfl (fun _ h=>by have h:=Ws.drop (L:=[_]) (L':=_) h; have h:=Ws.out 1 h; have h:=Ws.out 1 h; exact h) (Yf fo63_0 rfl) ?_
    refine WU.nil (fun _ h=>by have h:=Ws.drop (L:=[_]) (L':=_) h; have h:=Ws.out 1 h; have h:=Ws.out 1 h; exact h) ?_
    refine WS.e rfl ?_
    refine Lst 2 (.inl rfl) rfl rfl rfl sz61 rfl rfl rfl ?_
    refine Ln (Es ?_)
    refine WS.nil ?_
    refine Eb (Et (Cr ?_))
    refine V0 (Yi rfl rfl rfl (by omega)) ?_
    refine V0 (Ym rfl) ?_
    refine Ln ?_
    rw [e2]
    exact Ea ((g.1+1,a36,c36):Nat×(Option Addr×Nat)) (by show ws.length-(g.1+1)<ws.length-g.1; omega) (by show g.1+1≤ws.length; omega) (sc rfl (sc rfl (sc rfl (sc rfl sn)))) (fun _ h=>Ws.drops (Ws.drop (L:=[_,_]) h) (fun _ hm=>List.mem_append_right [_] hm))
 ·
  have hge:¬g.1<ws.length:=by simpa using hc0
  refine Ce (Ex (Ex (Ebh ?_)))
  refine WE.end0 rfl fun w' hw=>?_
  rw [List.take_of_length_le (by omega)] at hw
  exact ⟨g.2,rfl,hw⟩
end Go.Proofs.YtjfldjidhkfnbaaGreatDoor
end
section
namespace Go.Proofs.YtjfldjidhkfnbaaGreatDoor
open Go.Bw
set_option linter.unusedVariables false
set_option linter.unusedSimpArgs false
def PenE (G H:View) (k:Nat):Prop:=∀(pb:Nat) (r:Option Addr×Nat) (l:List Tok) (x:TExpr) (a:Option Addr) (n d:Nat) (w:World),Sl (RdE k) 5 H a n x.args→(cntE x d).tot=0→l.length+(exprW x).length≤1099511627776→
 Ws w (List.flatMap Asr.ids (penL pb r l)) (penL pb r l) [G,H] w→Calls Tryz.prog 94 #[.pointer (some ⟨pb,0,none⟩),.agg #[.int .i64 x.op,.int .i64 x.n,st x.mod,st x.nm,.slice a x.args.length n]] w fun e w'=>
   ∃r2:Option Addr×Nat,e = .returned (.tuple #[])∧Ws w (List.flatMap Asr.ids (penL pb r l)) (penL pb r2 (l++TW (exprW x))) [G,H] w'
def PenB (G H:View) (ke k:Nat):Prop:=∀(pb:Nat) (r:Option Addr×Nat) (l:List Tok) (b:List TStmt) (a:Option Addr) (n d:Nat) (w:World),Sl (RdS ke k) 6 H a n b→(cntB b d).tot=0→l.length+(blockW b).length≤1099511627776→
 Ws w (List.flatMap Asr.ids (penL pb r l)) (penL pb r l) [G,H] w→Calls Tryz.prog 44 #[.pointer (some ⟨pb,0,none⟩),.slice a b.length n] w fun e w'=>
   ∃r2:Option Addr×Nat,e = .returned (.tuple #[])∧Ws w (List.flatMap Asr.ids (penL pb r l)) (penL pb r2 (l++TW (blockW b))) [G,H] w'
theorem refW_t {mod nm:Tx} (h:(mod==[])=true):refW mod nm=[nm]:=by unfold refW; rw [if_pos h]
theorem refW_f {mod nm:Tx} (h:(mod==[])=false):refW mod nm=[mod,[46],nm]:=by unfold refW; rw [if_neg (by rw [h]; decide)]
theorem blockW_eq (l:List TStmt):blockW l=[[123]]++stmtWs l++[[125]]:=rfl
theorem okS' {x:TStmt} {d:Nat} (h:(cntS x d).tot=0):OkS x.op x.mod x.nm x.args x.body x.other d:=by cases x; exact okS h
theorem stmtW_eq (x:TStmt):stmtW x=stmtO x.op x.mod x.nm (exprWs x.args) (stmtWs x.body) x.other.length (stmtWs x.other):=by cases x; exact stmtW_mk _ _ _ _ _ _
theorem HS4 {x:TStmt} {y:TExpr} (h:x.op=4) (hy:x.args[0]? = some y) (ho:0<x.other.length):stmtW x=[w_if]++exprW y++blockW x.body++[w_else]++blockW x.other:=by
 rw [stmtW_eq,stmtO,if_pos (.inl h),if_neg (by omega),if_pos ho,at_get hy]; simp [blockW]
theorem HS40 {x:TStmt} {y:TExpr} (h:x.op=4) (hy:x.args[0]? = some y) (ho:¬0<x.other.length):stmtW x=[w_if]++exprW y++blockW x.body:=by
 rw [stmtW_eq,stmtO,if_pos (.inl h),if_neg (by omega),if_neg ho,at_get hy]; simp [blockW]
theorem HS5 {x:TStmt} {y:TExpr} (h:x.op=5) (hy:x.args[0]? = some y) (ho:¬0<x.other.length):stmtW x=[w_while]++exprW y++blockW x.body:=by
 rw [stmtW_eq,stmtO,if_pos (.inr h),if_pos h,if_neg ho,at_get hy]; simp [blockW]
theorem HS6 {x:TStmt} {y:TExpr} (h:x.op=6) (hy:x.args[0]? = some y):stmtW x=[w_return]++exprW y++[[59]]:=by
 rw [stmtW_eq,stmtO,if_neg (by omega),if_pos h,at_get hy]
theorem HS7 {x:TStmt} {y:TExpr} (h:x.op=7) (hy:x.args[0]? = some y):stmtW x=[w_out]++exprW y++[[59]]:=by
 rw [stmtW_eq,stmtO,if_neg (by omega),if_neg (by omega),if_pos h,at_get hy]
theorem HS3 {x:TStmt} (h:x.op=3):stmtW x=refW x.mod x.nm++argsW (exprWs x.args)++[[59]]:=by
 rw [stmtW_eq,stmtO,if_neg (by omega),if_neg (by omega),if_neg (by omega),if_pos h]
theorem HS1 {x:TStmt} {y:TExpr} (h:x.op=1) (hy:x.args[0]? = some y):stmtW x=refW x.mod x.nm++[[61]]++exprW y++[[59]]:=by
 rw [stmtW_eq,stmtO,if_neg (by omega),if_neg (by omega),if_neg (by omega),if_neg (by omega),if_pos h,at_get hy]
theorem HS2 {x:TStmt} {y z:TExpr} (h:x.op=2) (hy:x.args[0]? = some y) (hz:x.args[1]? = some z):stmtW x=refW x.mod x.nm++[[91]]++exprW y++[[93],[61]]++exprW z++[[59]]:=by
 rw [stmtW_eq,stmtO,if_neg (by omega),if_neg (by omega),if_neg (by omega),if_neg (by omega),if_neg (by omega),if_pos h,at_get hy,at_get hz]
theorem stmtWs_app:∀a b:List TStmt,stmtWs (a++b)=stmtWs a++stmtWs b
 | [],b=>by simp [stmtWs]
 | x::a,b=>by
   rw [List.cons_append,show ∀q,stmtWs (x::q)=stmtW x++stmtWs q from fun q=>by rw [stmtWs],stmtWs_app a b,show ∀q,stmtWs (x::q)=stmtW x++stmtWs q from fun q=>by rw [stmtWs],List.append_assoc]
theorem stmtWs_take {l:List TStmt} {i:Nat} {x:TStmt} (h:l[i]? = some x):stmtWs (l.take (i+1))=stmtWs (l.take i)++stmtW x:=by
 rw [take_snoc h,stmtWs_app]; simp [stmtWs]
theorem stmtWs_le (l:List TStmt) (i:Nat):(stmtWs (l.take i)).length≤(stmtWs l).length:=by
 conv=>rhs; rw [←List.take_append_drop i l,stmtWs_app,List.length_append]
 omega
theorem cntSs_get {d i:Nat} {y:TStmt}:∀{l:List TStmt},(cntSs l d).tot=0→l[i]? = some y→(cntS y d).tot=0
 | [],_,h=>by simp at h
 | x::r,h0,h=>by
   obtain ⟨h1,h2⟩:=okSs h0
   cases i with
   | zero=>simp at h; subst h; exact h1
   | succ i=>exact cntSs_get (i:=i) h2 (by simpa using h)
theorem okS_ref {op:Int} {mod nm:Tx} {args:List TExpr} {body other:List TStmt} {d:Nat} (h:OkS op mod nm args body other d) (hk:1≤op∧op≤3):badName true mod nm=false:=(badName_S h.name).1 hk
theorem okS_one {op:Int} {mod nm:Tx} {args:List TExpr} {body other:List TStmt} {d:Nat} (h:OkS op mod nm args body other d) (h3:op≠3) (h2:op≠2):args.length=1:=by rw [h.len h3,if_neg h2]
theorem okS_two {op:Int} {mod nm:Tx} {args:List TExpr} {body other:List TStmt} {d:Nat} (h:OkS op mod nm args body other d) (h2:op=2):args.length=2:=by rw [h.len (by omega),if_pos h2]
theorem stmt_part {l:List TStmt} {i:Nat} {x:TStmt} (h:l[i]? = some x):(stmtWs (l.take i)).length+(stmtW x).length≤(stmtWs l).length:=by
 have:=stmtWs_le l (i+1)
 rw [stmtWs_take h,List.length_append] at this
 exact this
theorem en42:Enters Tryz.prog 42:=enters_of Tryz.func42 (by kernel_rfl) rfl
theorem en94:Enters Tryz.prog 94:=enters_of Tryz.func94 (by kernel_rfl) rfl
theorem en95:Enters Tryz.prog 95:=enters_of Tryz.func95 (by kernel_rfl) rfl
theorem en96:Enters Tryz.prog 96:=enters_of Tryz.func96 (by kernel_rfl) rfl
theorem en116:Enters Tryz.prog 116:=enters_of Tryz.func116 (by kernel_rfl) rfl
theorem ara150:arr1 Tryz.prog 150=some 9:=by kernel_rfl
theorem zr150:zeroOf Tryz.prog 150=some (.agg #[st [],st [],st [],st [],st [],st [],st [],st [],st []]):=by kernel_rfl
theorem ar150:arrP Tryz.prog 150=some (9,1):=by kernel_rfl
theorem sz150:sizeP Tryz.prog 150=some 9:=by kernel_rfl
theorem ag150:aggOf Tryz.prog 150=some 9:=by kernel_rfl
theorem ref_any (pb:Nat) (G H:View) (r:Option Addr×Nat) (l:List Tok) (mod nm:Tx) (w:World) (hz:Laid G) (hb:badName true mod nm=false) (hl:l.length+(refW mod nm).length≤1099511627776) (hw:Ws w (List.flatMap Asr.ids (penL pb r l)) (penL pb r l) [G,H] w) :
   Calls Tryz.prog 95 #[.pointer (some ⟨pb,0,none⟩),st mod,st nm] w fun e w'=>∃r2:Option Addr×Nat,e = .returned (.tuple #[])∧Ws w (List.flatMap Asr.ids (penL pb r l)) (penL pb r2 (l++TW (refW mod nm))) [G,H] w':=by
 have hnl:=badName_len hb
 refine enter Tryz.func95 rfl 16 rfl rfl ?_
 refine CWd (W':=Ws w (List.flatMap Asr.ids (penL pb r l)) (penL pb r l) [G,H]) (fun _ e=>by subst e; exact hw) ?_
 refine Cs (Cs (Cr ?_))
 refine V0 (Ym rfl) ?_
 refine V0 (yl_nes rfl rfl) ?_
 refine Ln (Et ?_)
 refine Cc rfl (fun hc0=>?_) (fun hc0=>?_)
 ·
  have HE:=refW_f (nm:=nm) (by simpa using hc0)
  have hN:=congrArg List.length HE
  try simp at hN
  refine Cr ?_
  refine V0 (Ym rfl) ?_
  refine V0 (Ym rfl) ?_
  refine Lb (.inl rfl) rfl el22 rfl rfl rfl rfl fun b10=>?_
  refine Lsv (T:=9) (m:=2) 0 [mod,[46]] rfl rfl (show 2≤2 by decide) (by decide) fun H10 hH10=>?_
  refine Lf 1 rfl ?_
  refine Lf 1 rfl ?_
  refine Lw (ι:=Option Addr×Nat) [_,_] _ (.inl rfl) rfl en42 rfl rfl (fun _=>.tuple #[]) (fun r=>penL pb r (l++TW ([mod,[46]]))) (fun _=>True) [G,H10] (by simp) (fun w hw=>(put_any pb G H10 r (l) _ _ [mod,[46]] w hz hH10 (by first | omega | (simp only [List.length_append,TW_len,List.length_cons,List.length_nil]; omega)) (List.forall_mem_cons.2 ⟨hnl.1,(List.forall_mem_cons.2 ⟨(by decide:List.length ([46]:Tx)≤4096),(List.forall_mem_nil _)⟩)⟩) hw).mono fun e w' ⟨r2,h1,h2⟩=>⟨r2,h1,trivial,h2⟩) ?_
  intro r11 _
  refine Ln (Et (Cr ?_))
  refine V0 (Ym rfl) ?_
  refine V0 (Ym rfl) ?_
  refine Lb (.inl rfl) rfl el22 rfl rfl rfl rfl fun b14=>?_
  refine Lsv (T:=9) (m:=1) 0 [nm] rfl rfl (show 1≤1 by decide) (by decide) fun H14 hH14=>?_
  refine Lf 1 rfl ?_
  refine Lf 1 rfl ?_
  refine Lw (ι:=Option Addr×Nat) [_,_] _ (.inl rfl) rfl en42 rfl rfl (fun _=>.tuple #[]) (fun r=>penL pb r (l++TW ([mod,[46]])++TW ([nm]))) (fun _=>True) [G,H14] (by simp) (fun w hw=>(put_any pb G H14 r11 (l++TW ([mod,[46]])) _ _ [nm] w hz hH14 (by first | omega | (simp only [List.length_append,TW_len,List.length_cons,List.length_nil]; omega)) (List.forall_mem_cons.2 ⟨hnl.2,(List.forall_mem_nil _)⟩) hw).mono fun e w' ⟨r2,h1,h2⟩=>⟨r2,h1,trivial,h2⟩) ?_
  intro r15 _
  refine Ln ?_
  refine WE.end0 rfl fun w' hw=>?_
  rw [show l++TW ([mod,[46]])++TW ([nm])=l++TW (refW mod nm) by rw [HE]; try simp [TW]] at hw
  exact ⟨r15,rfl,(Ws.drops hw (fun _ hm=>List.mem_append_right [_,_] hm))⟩
 ·
  have HE:=refW_t (nm:=nm) (by simpa using hc0)
  have hN:=congrArg List.length HE
  try simp at hN
  refine Ck (Et (Cr ?_))
  refine V0 (Ym rfl) ?_
  refine V0 (Ym rfl) ?_
  refine Lb (.inl rfl) rfl el22 rfl rfl rfl rfl fun b14=>?_
  refine Lsv (T:=9) (m:=1) 0 [nm] rfl rfl (show 1≤1 by decide) (by decide) fun H14 hH14=>?_
  refine Lf 1 rfl ?_
  refine Lf 1 rfl ?_
  refine Lw (ι:=Option Addr×Nat) [_,_] _ (.inl rfl) rfl en42 rfl rfl (fun _=>.tuple #[]) (fun r=>penL pb r (l++TW ([nm]))) (fun _=>True) [G,H14] (by simp) (fun w hw=>(put_any pb G H14 r (l) _ _ [nm] w hz hH14 (by first | omega | (simp only [List.length_append,TW_len,List.length_cons,List.length_nil]; omega)) (List.forall_mem_cons.2 ⟨hnl.2,(List.forall_mem_nil _)⟩) hw).mono fun e w' ⟨r2,h1,h2⟩=>⟨r2,h1,trivial,h2⟩) ?_
  intro r15 _
  refine Ln ?_
  refine WE.end0 rfl fun w' hw=>?_
  rw [show l++TW ([nm])=l++TW (refW mod nm) by rw [HE]; try simp [TW]] at hw
  exact ⟨r15,rfl,(Ws.drops hw (fun _ hm=>List.mem_append_right [_] hm))⟩
theorem penArgs_any (pb:Nat) (G H:View) (r:Option Addr×Nat) (l:List Tok) (k:Nat) (hE:∀k2,k2<k→PenE G H k2) (xs:List TExpr) (a:Option Addr) (n d:Nat) (w:World) (hz:Laid G) (hm:Sl (RdE k) 5 H a n xs) (hc:(cntEs xs d).tot=0) (hl:l.length+(argsW (exprWs xs)).length≤1099511627776) (hw:Ws w (List.flatMap Asr.ids (penL pb r l)) (penL pb r l) [G,H] w) :
   Calls Tryz.prog 96 #[.pointer (some ⟨pb,0,none⟩),.slice a xs.length n] w fun e w'=>∃r2:Option Addr×Nat,e = .returned (.tuple #[])∧Ws w (List.flatMap Asr.ids (penL pb r l)) (penL pb r2 (l++TW (argsW (exprWs xs)))) [G,H] w':=by
 have hcap:=hm.cap
 have hmax:=hm.max
 simp [argsW] at hl
 have hlx:=exprWs_len xs
 refine enter Tryz.func96 rfl 28 rfl rfl ?_
 refine CWd (W':=Ws w (List.flatMap Asr.ids (penL pb r l)) (penL pb r l) [G,H]) (fun _ e=>by subst e; exact hw) ?_
 refine Cs (Cr ?_)
 refine V0 (Ym rfl) ?_
 refine Lb (.inl rfl) rfl el22 rfl rfl rfl rfl fun b7=>?_
 refine Lsv (T:=9) (m:=1) 0 [[40]] rfl rfl (show 1≤1 by decide) (by decide) fun H7 hH7=>?_
 refine Lf 1 rfl ?_
 refine Lf 1 rfl ?_
 refine Lw (ι:=Option Addr×Nat) [_,_] _ (.inl rfl) rfl en42 rfl rfl (fun _=>.tuple #[]) (fun r=>penL pb r (l++TW ([[40]]))) (fun _=>True) [G,H7] (by simp) (fun w hw=>(put_any pb G H7 r (l) _ _ [[40]] w hz hH7 (by first | omega | (simp only [List.length_append,TW_len,List.length_cons,List.length_nil]; omega)) (List.forall_mem_cons.2 ⟨(by decide:List.length ([40]:Tx)≤4096),(List.forall_mem_nil _)⟩) hw).mono fun e w' ⟨r2,h1,h2⟩=>⟨r2,h1,trivial,h2⟩) ?_
 intro r8 _
 refine Ln (Et (Cs (Cs (Cr ?_))))
 refine V0 (Ym rfl) ?_
 refine V0 (Yn es41 rfl) ?_
 refine V0 (Ym rfl) ?_
 refine Ln (Et (Cb ?_))
 refine CK (ι:=Nat×(Option Addr×Nat)) (fun g=>[(11,.int .i64 (g.1:Int))]) [(0,_),(9,_),(10,_)] (fun g=>Ws w (List.flatMap Asr.ids (penL pb r l)) (penL pb g.2 (l++TW ([[40]])++TW (commaW ((exprWs xs).take g.1)))) [G,H]) (fun g=>g.1≤xs.length) (fun g=>xs.length-g.1) (0,r8) (Nat.zero_le _) (sc rfl (sc rfl (sc rfl (sc rfl sn)))) (fun _ h=>by
     have h:=Ws.drops h (Vs':=[G,H]) (by simp)
     simpa [TW,commaW,penL,outOf] using h) ?_
 intro g hi
 refine Cs (Cr ?_)
 refine V0 (yl_lt rfl rfl) ?_
 refine Ln (Et (Cs ?_))
 refine Cc rfl (fun hc0=>?_) (fun hc0=>?_)
 ·
  have hlt:g.1<xs.length:=by simpa using hc0
  have hlt:g.1<xs.length:=by simpa using hc0
  obtain ⟨y,hyi⟩:∃q,xs[g.1]? = some q:=⟨_,List.getElem?_eq_getElem hlt⟩
  obtain ⟨pby,poy,hay,hry⟩:=hm.elt g.1 y hyi
  obtain ⟨k2,rfl⟩:∃k2,k=k2+1:=by
    cases k with
    | zero=>exact hry.elim
    | succ k2=>exact ⟨k2,rfl⟩
  obtain ⟨ya,yn,hrowy,hsuby⟩:=hry
  have hcy:=cntEs_get hc hyi
  have hgy:=exprWs_get hyi
  have hle:=comma_le (exprWs xs) (g.1+1)
  refine Ck (Et (Cs (Cb (Cs (Cr ?_)))))
  refine V0 (Ym rfl) ?_
  refine V0 (Yo es41 rfl rfl hay (by omega)) ?_
  refine V0 (yl_lda 1 ag81 rfl rfl rfl (hrowy)) ?_
  refine WL.alloc (.inl rfl) rfl zr81 fun b5=>?_
  refine V0 (Ya rfl) ?_
  refine Lst 0 (.inl rfl) rfl rfl rfl sz81 rfl rfl rfl ?_
  refine Ln (Et (Cs (Cs (Cr ?_))))
  refine V0 (Ym rfl) ?_
  refine V0 (yl_gt rfl rfl) ?_
  refine Ln (Et ?_)
  refine Cc rfl (fun hc1=>?_) (fun hc1=>?_)
  ·
   have HC:=comma_takeS hgy (by simp at hc1; omega)
   rw [HC] at hle
   simp at hle
   refine Cr ?_
   refine V0 (Ym rfl) ?_
   refine Lb (.inl rfl) rfl el22 rfl rfl rfl rfl fun b19=>?_
   refine Lsv (T:=9) (m:=1) 0 [[44]] rfl rfl (show 1≤1 by decide) (by decide) fun H19 hH19=>?_
   refine Lf 2 rfl ?_
   refine Lf 2 rfl ?_
   refine Lw (ι:=Option Addr×Nat) [_,_] _ (.inl rfl) rfl en42 rfl rfl (fun _=>.tuple #[]) (fun r=>penL pb r (l++TW ([[40]])++TW (commaW ((exprWs xs).take g.1))++TW ([[44]]))) (fun _=>True) [G,H19] (by simp) (fun w hw=>(put_any pb G H19 g.2 (l++TW ([[40]])++TW (commaW ((exprWs xs).take g.1))) _ _ [[44]] w hz hH19 (by first | omega | (simp only [List.length_append,TW_len,List.length_cons,List.length_nil]; omega)) (List.forall_mem_cons.2 ⟨(by decide:List.length ([44]:Tx)≤4096),(List.forall_mem_nil _)⟩) hw).mono fun e w' ⟨r2,h1,h2⟩=>⟨r2,h1,trivial,h2⟩) ?_
   intro r20 _
   refine Ln (Et (Cr ?_))
   refine V0 (Ym rfl) ?_
   refine V0 (Yda 2 rfl rfl ag81 rfl) ?_
   refine Lf 1 rfl ?_
   refine Lf 1 rfl ?_
   refine Lw (ι:=Option Addr×Nat) [_,_] _ (.inl rfl) rfl en94 rfl rfl (fun _=>.tuple #[]) (fun r=>penL pb r (l++TW ([[40]])++TW (commaW ((exprWs xs).take g.1))++TW ([[44]])++TW (exprW y))) (fun _=>True) [G,H] (by simp) (fun w hw=>(hE k2 (by omega) pb r20 (l++TW ([[40]])++TW (commaW ((exprWs xs).take g.1))++TW ([[44]])) y ya yn (d) w hsuby hcy (by first | omega | (simp only [List.length_append,TW_len,List.length_cons,List.length_nil]; omega)) hw).mono fun e w' ⟨r2,h1,h2⟩=>⟨r2,h1,trivial,h2⟩) ?_
   intro r23 _
   refine Ln (Eb (Et (Cr ?_)))
   refine V0 (Yi rfl rfl rfl (by omega)) ?_
   refine V0 (Ym rfl) ?_
   refine Ln ?_
   rw [show l++TW ([[40]])++TW (commaW ((exprWs xs).take g.1))++TW ([[44]])++TW (exprW y)=l++TW ([[40]])++TW (commaW ((exprWs xs).take (g.1+1))) by rw [HC]; simp [TW]]
   exact Ea ((g.1+1,r23):Nat×(Option Addr×Nat)) (by show xs.length-(g.1+1)<xs.length-g.1; omega) (by show g.1+1≤xs.length; omega) (sc rfl (sc rfl (sc rfl (sc rfl sn)))) (fun _ h=>by have h:=h.fronti 1 rfl; have h:=h.fronti 1 rfl; have h:=Ws.keep (L:=[_,_]) h; have h:=Ws.drops h (fun _ hm=>List.mem_append_right [_] hm); exact h)
  ·
   have HC:=comma_take0 hgy (by simp at hc1; omega)
   rw [HC] at hle
   simp at hle
   refine Ck (Et (Cr ?_))
   refine V0 (Ym rfl) ?_
   refine V0 (Yda 0 rfl rfl ag81 rfl) ?_
   refine Lf 2 rfl ?_
   refine Lf 2 rfl ?_
   refine Lw (ι:=Option Addr×Nat) [_,_] _ (.inl rfl) rfl en94 rfl rfl (fun _=>.tuple #[]) (fun r=>penL pb r (l++TW ([[40]])++TW (commaW ((exprWs xs).take g.1))++TW (exprW y))) (fun _=>True) [G,H] (by simp) (fun w hw=>(hE k2 (by omega) pb g.2 (l++TW ([[40]])++TW (commaW ((exprWs xs).take g.1))) y ya yn (d) w hsuby hcy (by first | omega | (simp only [List.length_append,TW_len,List.length_cons,List.length_nil]; omega)) hw).mono fun e w' ⟨r2,h1,h2⟩=>⟨r2,h1,trivial,h2⟩) ?_
   intro r23 _
   refine Ln (Eb (Et (Cr ?_)))
   refine V0 (Yi rfl rfl rfl (by omega)) ?_
   refine V0 (Ym rfl) ?_
   refine Ln ?_
   rw [show l++TW ([[40]])++TW (commaW ((exprWs xs).take g.1))++TW (exprW y)=l++TW ([[40]])++TW (commaW ((exprWs xs).take (g.1+1))) by rw [HC]; simp [TW]]
   exact Ea ((g.1+1,r23):Nat×(Option Addr×Nat)) (by show xs.length-(g.1+1)<xs.length-g.1; omega) (by show g.1+1≤xs.length; omega) (sc rfl (sc rfl (sc rfl (sc rfl sn)))) (fun _ h=>by have h:=h.fronti 1 rfl; have h:=h.fronti 1 rfl; have h:=Ws.keep (L:=[_,_]) h; exact h)
 ·
  have hge:¬g.1<xs.length:=by simpa using hc0
  have hle:=comma_le (exprWs xs) g.1
  refine Ce (Ex (Ex (Ebh (Et (Cr ?_)))))
  refine V0 (Ym rfl) ?_
  refine Lb (.inl rfl) rfl el22 rfl rfl rfl rfl fun b26=>?_
  refine Lsv (T:=9) (m:=1) 0 [[41]] rfl rfl (show 1≤1 by decide) (by decide) fun H26 hH26=>?_
  refine Lf 1 rfl ?_
  refine Lf 1 rfl ?_
  refine Lw (ι:=Option Addr×Nat) [_,_] _ (.inl rfl) rfl en42 rfl rfl (fun _=>.tuple #[]) (fun r=>penL pb r (l++TW ([[40]])++TW (commaW ((exprWs xs).take g.1))++TW ([[41]]))) (fun _=>True) [G,H26] (by simp) (fun w hw=>(put_any pb G H26 g.2 (l++TW ([[40]])++TW (commaW ((exprWs xs).take g.1))) _ _ [[41]] w hz hH26 (by first | omega | (simp only [List.length_append,TW_len,List.length_cons,List.length_nil]; omega)) (List.forall_mem_cons.2 ⟨(by decide:List.length ([41]:Tx)≤4096),(List.forall_mem_nil _)⟩) hw).mono fun e w' ⟨r2,h1,h2⟩=>⟨r2,h1,trivial,h2⟩) ?_
  intro r27 _
  refine Ln ?_
  refine WE.end0 rfl fun w' hw=>?_
  rw [show l++TW ([[40]])++TW (commaW ((exprWs xs).take g.1))++TW ([[41]])=l++TW (argsW (exprWs xs)) by rw [List.take_of_length_le (by omega)]; simp [TW,argsW]] at hw
  exact ⟨r27,rfl,(Ws.drops hw (fun _ hm=>List.mem_append_right [_] hm))⟩
theorem ops_any (w:World) :
   Calls Tryz.prog 116 #[] w fun e w'=>e = .returned (.agg (opsL.map st).toArray)∧Ext w w':=by
 refine enter Tryz.func116 rfl 2 rfl rfl ?_
 refine CWd (W':=Ws w [] [] []) (fun _ e=>by subst e; exact Ws.init (by simp)) ?_
 refine Cs (Cr ?_)
 refine WL.alloc (.inl rfl) rfl zr150 fun b0=>?_
 refine Ln (Et (Cs (Cr ?_)))
 refine V0 (yl_builda zr150 ar150 rfl rfl) ?_
 refine Lst 0 (.inl rfl) rfl rfl rfl sz150 rfl rfl rfl ?_
 refine Ln (Et (Crt ?_))
 refine WE.retR (rs_1 rfl (rv_agg 0 rfl rfl ag150 rfl)) fun w' hw=>?_
 exact ⟨rfl,hw.fr⟩
theorem penExpr_any (G H:View) (hz:Laid G) (k:Nat) (pb:Nat) (r:Option Addr×Nat) (l:List Tok) (x:TExpr) (a:Option Addr) (n d:Nat) (w:World) (hm:Sl (RdE k) 5 H a n x.args) (hcx:(cntE x d).tot=0) (hl:l.length+(exprW x).length≤1099511627776) (hw:Ws w (List.flatMap Asr.ids (penL pb r l)) (penL pb r l) [G,H] w) :
   Calls Tryz.prog 94 #[.pointer (some ⟨pb,0,none⟩),.agg #[.int .i64 x.op,.int .i64 x.n,st x.mod,st x.nm,.slice a x.args.length n]] w fun e w'=>∃r2:Option Addr×Nat,e = .returned (.tuple #[])∧Ws w (List.flatMap Asr.ids (penL pb r l)) (penL pb r2 (l++TW (exprW x))) [G,H] w':=by
 induction k using Nat.strongRecOn generalizing pb r l x a n d w
 rename_i k ih
 have hE:∀k2,k2<k→PenE G H k2:=fun k2 hk pb r l x a n d w h1 h2 h3 h4=>ih k2 hk pb r l x a n d w h1 h2 h3 h4
 have hcap:=hm.cap
 have hmax:=hm.max
 have ho:=okE' hcx
 have hkk:=ho.kind
 refine enter Tryz.func94 rfl 96 rfl rfl ?_
 refine CWd (W':=Ws w (List.flatMap Asr.ids (penL pb r l)) (penL pb r l) [G,H]) (fun _ e=>by subst e; exact hw) ?_
 refine Cs (Cr ?_)
 refine WL.box (.inl rfl) rfl rfl fun b3=>?_
 refine Ln (Et (Cs (Cr ?_)))
 refine V0 (Yf fo81_0 rfl) ?_
 refine V0 (Yd 0 rfl rfl rfl na3) ?_
 refine Ln (Et (Cb (Cs (Cr ?_))))
 refine V0 (yl_eq rfl rfl) ?_
 refine V0 (Ya rfl) ?_
 refine Ln (Et ?_)
 refine Cc rfl (fun hc0=>?_) (fun hc0=>?_)
 ·
  have hk:x.op=1:=by simpa using hc0
  have HE:=HE1 hk
  have hN:=congrArg List.length HE
  try simp at hN
  have hnb:=numBad1 (n:=x.n) (by have:=ho.num; rwa [hk] at this)
  refine Cr ?_
  refine V0 (Ym rfl) ?_
  refine V0 (Yf fo81_1 rfl) ?_
  refine V0 (Yd 0 rfl rfl rfl na3) ?_
  refine Lp (.inl rfl) rfl en25 rfl (fun w hw=>itoa_any G x.n (by omega) (by omega) w (hw.vs _ (by simp)) hz) ?_
  refine Lb (.inl rfl) rfl el22 rfl rfl rfl rfl fun b38=>?_
  refine Lsv (T:=9) (m:=1) 0 [Lib.itoa x.n] rfl rfl (show 1≤1 by decide) (by decide) fun H38 hH38=>?_
  refine Lf 2 rfl ?_
  refine Lf 2 rfl ?_
  refine Lw (ι:=Option Addr×Nat) [_,_] _ (.inl rfl) rfl en42 rfl rfl (fun _=>.tuple #[]) (fun r=>penL pb r (l++TW ([Lib.itoa x.n]))) (fun _=>True) [G,H38] (by simp) (fun w hw=>(put_any pb G H38 r (l) _ _ [Lib.itoa x.n] w hz hH38 (by first | omega | (simp only [List.length_append,TW_len,List.length_cons,List.length_nil]; omega)) (List.forall_mem_cons.2 ⟨(itoa_len hnb.1 hnb.2),(List.forall_mem_nil _)⟩) hw).mono fun e w' ⟨r2,h1,h2⟩=>⟨r2,h1,trivial,h2⟩) ?_
  intro r39 _
  refine Ln (Eb ?_)
  refine WE.end0 rfl fun w' hw=>?_
  rw [show l++TW ([Lib.itoa x.n])=l++TW (exprW x) by rw [HE]; try simp [TW]] at hw
  exact ⟨r39,rfl,Ws.drops (Ws.keep (L:=[_,_]) hw) (fun _ hm=>List.mem_append_right [_] hm)⟩
 ·
  have h1:¬x.op=1:=by simpa using hc0
  refine Cs (Cr ?_)
  refine V0 (yl_eq rfl rfl) ?_
  refine V0 (Ya rfl) ?_
  refine Ln (Et ?_)
  refine Cc rfl (fun hc1=>?_) (fun hc1=>?_)
  ·
   have hk:x.op=2:=by simpa using hc1
   have HE:=HE2 hk
   have hN:=congrArg List.length HE
   try simp at hN
   refine Cr ?_
   refine V0 (Ym rfl) ?_
   refine Lb (.inl rfl) rfl el22 rfl rfl rfl rfl fun b43=>?_
   refine Lsv (T:=9) (m:=1) 0 [[105,110]] rfl rfl (show 1≤1 by decide) (by decide) fun H43 hH43=>?_
   refine Lf 2 rfl ?_
   refine Lf 2 rfl ?_
   refine Lw (ι:=Option Addr×Nat) [_,_] _ (.inl rfl) rfl en42 rfl rfl (fun _=>.tuple #[]) (fun r=>penL pb r (l++TW ([[105,110]]))) (fun _=>True) [G,H43] (by simp) (fun w hw=>(put_any pb G H43 r (l) _ _ [[105,110]] w hz hH43 (by first | omega | (simp only [List.length_append,TW_len,List.length_cons,List.length_nil]; omega)) (List.forall_mem_cons.2 ⟨(by decide:List.length ([105,110]:Tx)≤4096),(List.forall_mem_nil _)⟩) hw).mono fun e w' ⟨r2,h1,h2⟩=>⟨r2,h1,trivial,h2⟩) ?_
   intro r44 _
   refine Ln (Eb ?_)
   refine WE.end0 rfl fun w' hw=>?_
   rw [show l++TW ([[105,110]])=l++TW (exprW x) by rw [HE]; try simp [TW]] at hw
   exact ⟨r44,rfl,Ws.drops (Ws.keep (L:=[_,_]) hw) (fun _ hm=>List.mem_append_right [_] hm)⟩
  ·
   have h2:¬x.op=2:=by simpa using hc1
   refine Cs (Cr ?_)
   refine V0 (yl_eq rfl rfl) ?_
   refine V0 (Ya rfl) ?_
   refine Ln (Et ?_)
   refine Cc rfl (fun hc2=>?_) (fun hc2=>?_)
   ·
    have hk:x.op=3:=by simpa using hc2
    have HE:=HE3 hk
    have hN:=congrArg List.length HE
    try simp at hN
    have hrf:=okE_ref ho (by omega)
    refine Cr ?_
    refine V0 (Ym rfl) ?_
    refine V0 (Yf fo81_2 rfl) ?_
    refine V0 (Yd 0 rfl rfl rfl na9) ?_
    refine V0 (Yf fo81_3 rfl) ?_
    refine V0 (Yd 0 rfl rfl rfl na9) ?_
    refine Lf 2 rfl ?_
    refine Lf 2 rfl ?_
    refine Lw (ι:=Option Addr×Nat) [_,_] _ (.inl rfl) rfl en95 rfl rfl (fun _=>.tuple #[]) (fun r=>penL pb r (l++TW (refW x.mod x.nm))) (fun _=>True) [G,H] (by simp) (fun w hw=>(ref_any pb G H r (l) x.mod x.nm w hz hrf (by first | omega | (simp only [List.length_append,TW_len,List.length_cons,List.length_nil]; omega)) hw).mono fun e w' ⟨r2,h1,h2⟩=>⟨r2,h1,trivial,h2⟩) ?_
    intro r52 _
    refine Ln (Eb ?_)
    refine WE.end0 rfl fun w' hw=>?_
    rw [show l++TW (refW x.mod x.nm)=l++TW (exprW x) by rw [HE]; try simp [TW]] at hw
    exact ⟨r52,rfl,Ws.keep (L:=[_,_]) hw⟩
   ·
    have h3:¬x.op=3:=by simpa using hc2
    refine Cs (Cr ?_)
    refine V0 (yl_eq rfl rfl) ?_
    refine V0 (Ya rfl) ?_
    refine Ln (Et ?_)
    refine Cc rfl (fun hc3=>?_) (fun hc3=>?_)
    ·
     have hk:x.op=4:=by simpa using hc3
     have hrf:=okE_ref ho (by omega)
     have hlen:=ho.len1 (.inl hk)
     obtain ⟨y,hyi⟩:∃y,x.args[0]? = some y:=get0 hlen (by decide)
     obtain ⟨pby,poy,hay,hry⟩:=hm.elt 0 y hyi
     obtain ⟨k2,rfl⟩:∃k2,k=k2+1:=by
       cases k with
       | zero=>exact hry.elim
       | succ k2=>exact ⟨k2,rfl⟩
     obtain ⟨ya,yn,hrowy,hsuby⟩:=hry
     have hcy:=cntEs_get ho.sub hyi
     have HE:=HE4 hk hyi
     have hN:=congrArg List.length HE
     try simp at hN
     refine Cs (Cr ?_)
     refine V0 (Ym rfl) ?_
     refine V0 (Yf fo81_2 rfl) ?_
     refine V0 (Yd 0 rfl rfl rfl na9) ?_
     refine V0 (Yf fo81_3 rfl) ?_
     refine V0 (Yd 0 rfl rfl rfl na9) ?_
     refine Lf 2 rfl ?_
     refine Lf 2 rfl ?_
     refine Lw (ι:=Option Addr×Nat) [_,_] _ (.inl rfl) rfl en95 rfl rfl (fun _=>.tuple #[]) (fun r=>penL pb r (l++TW (refW x.mod x.nm))) (fun _=>True) [G,H] (by simp) (fun w hw=>(ref_any pb G H r (l) x.mod x.nm w hz hrf (by first | omega | (simp only [List.length_append,TW_len,List.length_cons,List.length_nil]; omega)) hw).mono fun e w' ⟨r2,h1,h2⟩=>⟨r2,h1,trivial,h2⟩) ?_
     intro r60 _
     refine Ln (Et (Cs (Cr ?_)))
     refine V0 (Ym rfl) ?_
     refine Lb (.inl rfl) rfl el22 rfl rfl rfl rfl fun b62=>?_
     refine Lsv (T:=9) (m:=1) 0 [[91]] rfl rfl (show 1≤1 by decide) (by decide) fun H62 hH62=>?_
     refine Lf 1 rfl ?_
     refine Lf 1 rfl ?_
     refine Lw (ι:=Option Addr×Nat) [_,_] _ (.inl rfl) rfl en42 rfl rfl (fun _=>.tuple #[]) (fun r=>penL pb r (l++TW (refW x.mod x.nm)++TW ([[91]]))) (fun _=>True) [G,H62] (by simp) (fun w hw=>(put_any pb G H62 r60 (l++TW (refW x.mod x.nm)) _ _ [[91]] w hz hH62 (by first | omega | (simp only [List.length_append,TW_len,List.length_cons,List.length_nil]; omega)) (List.forall_mem_cons.2 ⟨(by decide:List.length ([91]:Tx)≤4096),(List.forall_mem_nil _)⟩) hw).mono fun e w' ⟨r2,h1,h2⟩=>⟨r2,h1,trivial,h2⟩) ?_
     intro r63 _
     refine Ln (Et (Cs (Cr ?_)))
     refine V0 (Ym rfl) ?_
     refine V0 (Yf fo81_4 rfl) ?_
     refine V0 (Yd 2 rfl rfl rfl na41) ?_
     refine V0 (Yo (i:=0) es41 rfl rfl hay (by omega)) ?_
     refine V0 (yl_lda 2 ag81 rfl rfl rfl (hrowy)) ?_
     refine Lf 1 rfl ?_
     refine Lf 1 rfl ?_
     refine Lw (ι:=Option Addr×Nat) [_,_] _ (.inl rfl) rfl en94 rfl rfl (fun _=>.tuple #[]) (fun r=>penL pb r (l++TW (refW x.mod x.nm)++TW ([[91]])++TW (exprW y))) (fun _=>True) [G,H] (by simp) (fun w hw=>(hE k2 (by omega) pb r63 (l++TW (refW x.mod x.nm)++TW ([[91]])) y ya yn (d+1) w hsuby hcy (by first | omega | (simp only [List.length_append,TW_len,List.length_cons,List.length_nil]; omega)) hw).mono fun e w' ⟨r2,h1,h2⟩=>⟨r2,h1,trivial,h2⟩) ?_
     intro r69 _
     refine Ln (Et (Cr ?_))
     refine V0 (Ym rfl) ?_
     refine Lb (.inl rfl) rfl el22 rfl rfl rfl rfl fun b71=>?_
     refine Lsv (T:=9) (m:=1) 0 [[93]] rfl rfl (show 1≤1 by decide) (by decide) fun H71 hH71=>?_
     refine Lf 1 rfl ?_
     refine Lf 1 rfl ?_
     refine Lw (ι:=Option Addr×Nat) [_,_] _ (.inl rfl) rfl en42 rfl rfl (fun _=>.tuple #[]) (fun r=>penL pb r (l++TW (refW x.mod x.nm)++TW ([[91]])++TW (exprW y)++TW ([[93]]))) (fun _=>True) [G,H71] (by simp) (fun w hw=>(put_any pb G H71 r69 (l++TW (refW x.mod x.nm)++TW ([[91]])++TW (exprW y)) _ _ [[93]] w hz hH71 (by first | omega | (simp only [List.length_append,TW_len,List.length_cons,List.length_nil]; omega)) (List.forall_mem_cons.2 ⟨(by decide:List.length ([93]:Tx)≤4096),(List.forall_mem_nil _)⟩) hw).mono fun e w' ⟨r2,h1,h2⟩=>⟨r2,h1,trivial,h2⟩) ?_
     intro r72 _
     refine Ln (Eb ?_)
     refine WE.end0 rfl fun w' hw=>?_
     rw [show l++TW (refW x.mod x.nm)++TW ([[91]])++TW (exprW y)++TW ([[93]])=l++TW (exprW x) by rw [HE]; try simp [TW]] at hw
     exact ⟨r72,rfl,Ws.drops (Ws.keep (L:=[_,_]) hw) (fun _ hm=>List.mem_append_right [_,_] hm)⟩
    ·
     have h4:¬x.op=4:=by simpa using hc3
     refine Cs (Cr ?_)
     refine V0 (yl_eq rfl rfl) ?_
     refine V0 (Ya rfl) ?_
     refine Ln (Et ?_)
     refine Cc rfl (fun hc4=>?_) (fun hc4=>?_)
     ·
      have hk:x.op=5:=by simpa using hc4
      have hrf:=okE_ref ho (by omega)
      have HE:=HE5 hk
      have hN:=congrArg List.length HE
      try simp at hN
      refine Cs (Cr ?_)
      refine V0 (Ym rfl) ?_
      refine V0 (Yf fo81_2 rfl) ?_
      refine V0 (Yd 0 rfl rfl rfl na9) ?_
      refine V0 (Yf fo81_3 rfl) ?_
      refine V0 (Yd 0 rfl rfl rfl na9) ?_
      refine Lf 2 rfl ?_
      refine Lf 2 rfl ?_
      refine Lw (ι:=Option Addr×Nat) [_,_] _ (.inl rfl) rfl en95 rfl rfl (fun _=>.tuple #[]) (fun r=>penL pb r (l++TW (refW x.mod x.nm))) (fun _=>True) [G,H] (by simp) (fun w hw=>(ref_any pb G H r (l) x.mod x.nm w hz hrf (by first | omega | (simp only [List.length_append,TW_len,List.length_cons,List.length_nil]; omega)) hw).mono fun e w' ⟨r2,h1,h2⟩=>⟨r2,h1,trivial,h2⟩) ?_
      intro r80 _
      refine Ln (Et (Cr ?_))
      refine V0 (Ym rfl) ?_
      refine V0 (Yf fo81_4 rfl) ?_
      refine V0 (Yd 2 rfl rfl rfl na41) ?_
      refine Lf 1 rfl ?_
      refine Lf 1 rfl ?_
      refine Lw (ι:=Option Addr×Nat) [_,_] _ (.inl rfl) rfl en96 rfl rfl (fun _=>.tuple #[]) (fun r=>penL pb r (l++TW (refW x.mod x.nm)++TW (argsW (exprWs x.args)))) (fun _=>True) [G,H] (by simp) (fun w hw=>(penArgs_any pb G H r80 (l++TW (refW x.mod x.nm)) k hE x.args a n (d+1) w hz hm ho.sub (by first | omega | (simp only [List.length_append,TW_len,List.length_cons,List.length_nil]; omega)) hw).mono fun e w' ⟨r2,h1,h2⟩=>⟨r2,h1,trivial,h2⟩) ?_
      intro r84 _
      refine Ln (Eb ?_)
      refine WE.end0 rfl fun w' hw=>?_
      rw [show l++TW (refW x.mod x.nm)++TW (argsW (exprWs x.args))=l++TW (exprW x) by rw [HE]; try simp [TW]] at hw
      exact ⟨r84,rfl,Ws.keep (L:=[_,_]) hw⟩
     ·
      have h5:¬x.op=5:=by simpa using hc4
      refine Cs (Cr ?_)
      refine V0 (yl_eq rfl rfl) ?_
      refine V0 (Ya rfl) ?_
      refine Ln (Et ?_)
      refine Cc rfl (fun hc5=>?_) (fun hc5=>?_)
      ·
       have hk:x.op=6:=by simpa using hc5
       have hlen:=ho.len1 (.inr hk)
       obtain ⟨y,hyi⟩:∃y,x.args[0]? = some y:=get0 hlen (by decide)
       obtain ⟨pby,poy,hay,hry⟩:=hm.elt 0 y hyi
       obtain ⟨k2,rfl⟩:∃k2,k=k2+1:=by
         cases k with
         | zero=>exact hry.elim
         | succ k2=>exact ⟨k2,rfl⟩
       obtain ⟨ya,yn,hrowy,hsuby⟩:=hry
       have hcy:=cntEs_get ho.sub hyi
       have HE:=HE6 hk hyi
       have hN:=congrArg List.length HE
       try simp at hN
       refine Cs (Cr ?_)
       refine V0 (Ym rfl) ?_
       refine Lb (.inl rfl) rfl el22 rfl rfl rfl rfl fun b88=>?_
       refine Lsv (T:=9) (m:=1) 0 [[33]] rfl rfl (show 1≤1 by decide) (by decide) fun H88 hH88=>?_
       refine Lf 2 rfl ?_
       refine Lf 2 rfl ?_
       refine Lw (ι:=Option Addr×Nat) [_,_] _ (.inl rfl) rfl en42 rfl rfl (fun _=>.tuple #[]) (fun r=>penL pb r (l++TW ([[33]]))) (fun _=>True) [G,H88] (by simp) (fun w hw=>(put_any pb G H88 r (l) _ _ [[33]] w hz hH88 (by first | omega | (simp only [List.length_append,TW_len,List.length_cons,List.length_nil]; omega)) (List.forall_mem_cons.2 ⟨(by decide:List.length ([33]:Tx)≤4096),(List.forall_mem_nil _)⟩) hw).mono fun e w' ⟨r2,h1,h2⟩=>⟨r2,h1,trivial,h2⟩) ?_
       intro r89 _
       refine Ln (Et (Cr ?_))
       refine V0 (Ym rfl) ?_
       refine V0 (Yf fo81_4 rfl) ?_
       refine V0 (Yd 2 rfl rfl rfl na41) ?_
       refine V0 (Yo (i:=0) es41 rfl rfl hay (by omega)) ?_
       refine V0 (yl_lda 2 ag81 rfl rfl rfl (hrowy)) ?_
       refine Lf 1 rfl ?_
       refine Lf 1 rfl ?_
       refine Lw (ι:=Option Addr×Nat) [_,_] _ (.inl rfl) rfl en94 rfl rfl (fun _=>.tuple #[]) (fun r=>penL pb r (l++TW ([[33]])++TW (exprW y))) (fun _=>True) [G,H] (by simp) (fun w hw=>(hE k2 (by omega) pb r89 (l++TW ([[33]])) y ya yn (d+1) w hsuby hcy (by first | omega | (simp only [List.length_append,TW_len,List.length_cons,List.length_nil]; omega)) hw).mono fun e w' ⟨r2,h1,h2⟩=>⟨r2,h1,trivial,h2⟩) ?_
       intro r95 _
       refine Ln (Eb ?_)
       refine WE.end0 rfl fun w' hw=>?_
       rw [show l++TW ([[33]])++TW (exprW y)=l++TW (exprW x) by rw [HE]; try simp [TW]] at hw
       exact ⟨r95,rfl,Ws.drops (Ws.keep (L:=[_,_]) hw) (fun _ hm=>List.mem_append_right [_] hm)⟩
      ·
       have h6:¬x.op=6:=by simpa using hc5
       have hop:7≤x.op∧x.op≤15:=by omega
       have hlen:=ho.len2 hop.1
       obtain ⟨y,hyi⟩:∃y,x.args[0]? = some y:=get0 hlen (by decide)
       obtain ⟨z,hzi⟩:∃y,x.args[1]? = some y:=get0 hlen (by decide)
       obtain ⟨pby,poy,hay,hry⟩:=hm.elt 0 y hyi
       obtain ⟨pbz,poz,haz,hrz⟩:=hm.elt 1 z hzi
       obtain ⟨k2,rfl⟩:∃k2,k=k2+1:=by
         cases k with
         | zero=>exact hry.elim
         | succ k2=>exact ⟨k2,rfl⟩
       obtain ⟨ya,yn,hrowy,hsuby⟩:=hry
       obtain ⟨za,zn,hrowz,hsubz⟩:=hrz
       have hcy:=cntEs_get ho.sub hyi
       have hcz:=cntEs_get ho.sub hzi
       have HE:=HE7 hop.1 hyi hzi
       have hN:=congrArg List.length HE
       try simp at hN
       refine Cs (Cr ?_)
       refine V0 (Ym rfl) ?_
       refine Lb (.inl rfl) rfl el22 rfl rfl rfl rfl fun b7=>?_
       refine Lsv (T:=9) (m:=1) 0 [[40]] rfl rfl (show 1≤1 by decide) (by decide) fun H7 hH7=>?_
       refine Lf 2 rfl ?_
       refine Lf 2 rfl ?_
       refine Lw (ι:=Option Addr×Nat) [_,_] _ (.inl rfl) rfl en42 rfl rfl (fun _=>.tuple #[]) (fun r=>penL pb r (l++TW ([[40]]))) (fun _=>True) [G,H7] (by simp) (fun w hw=>(put_any pb G H7 r (l) _ _ [[40]] w hz hH7 (by first | omega | (simp only [List.length_append,TW_len,List.length_cons,List.length_nil]; omega)) (List.forall_mem_cons.2 ⟨(by decide:List.length ([40]:Tx)≤4096),(List.forall_mem_nil _)⟩) hw).mono fun e w' ⟨r2,h1,h2⟩=>⟨r2,h1,trivial,h2⟩) ?_
       intro r8 _
       refine Ln (Et (Cs (Cr ?_)))
       refine V0 (Ym rfl) ?_
       refine V0 (Yf fo81_4 rfl) ?_
       refine V0 (Yd 2 rfl rfl rfl na41) ?_
       refine V0 (Yo (i:=0) es41 rfl rfl hay (by omega)) ?_
       refine V0 (yl_lda 2 ag81 rfl rfl rfl (hrowy)) ?_
       refine Lf 1 rfl ?_
       refine Lf 1 rfl ?_
       refine Lw (ι:=Option Addr×Nat) [_,_] _ (.inl rfl) rfl en94 rfl rfl (fun _=>.tuple #[]) (fun r=>penL pb r (l++TW ([[40]])++TW (exprW y))) (fun _=>True) [G,H] (by simp) (fun w hw=>(hE k2 (by omega) pb r8 (l++TW ([[40]])) y ya yn (d+1) w hsuby hcy (by first | omega | (simp only [List.length_append,TW_len,List.length_cons,List.length_nil]; omega)) hw).mono fun e w' ⟨r2,h1,h2⟩=>⟨r2,h1,trivial,h2⟩) ?_
       intro r14 _
       refine Ln (Et (Cs ?_))
       refine WC.drawsK (fun _=>true) [0,0] [(0,true),(2,true),(3,true),(4,true),(1,false),(5,true),(6,false),(7,false)] mixed (by kernel_rfl) (by kernel_rfl) (fun _ _ _ d _ _ h=>by cases d<;>exact h) ?_
       refine Dq rfl (.inl rfl) rfl (fun _ h=>by have h:=Ws.out 0 h; have h:=Ws.out 0 h; exact h) (Ym rfl) ?_
       refine Dq rfl (.inl rfl) rfl (fun _ h=>by have h:=Ws.out 0 h; have h:=Ws.out 0 h; exact h) (Yf fo81_0 rfl) ?_
       refine Dq rfl (.inl rfl) rfl (fun _ h=>by have h:=Ws.out 0 h; have h:=Ws.out 0 h; exact h) (Yd 0 rfl rfl rfl na3) ?_
       refine Dq rfl (.inl rfl) rfl (fun _ h=>by have h:=Ws.out 0 h; have h:=Ws.out 0 h; exact h) (yl_subv (((x.op-7).toNat:Nat):Int) rfl rfl (by omega) (by omega)) ?_
       refine De rfl (fun _ h=>by have h:=Ws.out 0 h; have h:=Ws.out 0 h; exact h) ?_
       refine Lp (.inl rfl) rfl en116 rfl (fun w hw=>ops_any w) ?_
       refine Ln (Ed ?_)
       refine Dq rfl (.inl rfl) rfl (fun _ h=>by have h:=Ws.out 0 h; have h:=Ws.out 0 h; exact h) (yl_ixa (i:=(x.op-7).toNat) ara150 rfl rfl (by omega) (ops_get hop)) ?_
       refine De rfl (fun _ h=>by have h:=Ws.out 0 h; have h:=Ws.out 0 h; exact h) ?_
       refine Lb (.inl rfl) rfl el22 rfl rfl rfl rfl fun b21=>?_
       refine Lsv (T:=9) (m:=1) 0 [opW x.op] rfl rfl (show 1≤1 by decide) (by decide) fun H21 hH21=>?_
       refine Ln (Ed ?_)
       refine De rfl (fun _ h=>by have h:=Ws.out 0 h; have h:=Ws.out 0 h; have h:=Ws.drops h (fun _ hm=>List.mem_append_right [_] hm); exact h) ?_
       refine Lf 1 rfl ?_
       refine Lf 1 rfl ?_
       refine Lw (ι:=Option Addr×Nat) [_,_] _ (.inl rfl) rfl en42 rfl rfl (fun _=>.tuple #[]) (fun r=>penL pb r (l++TW ([[40]])++TW (exprW y)++TW ([opW x.op]))) (fun _=>True) [G,H21] (by simp) (fun w hw=>(put_any pb G H21 r14 (l++TW ([[40]])++TW (exprW y)) _ _ [opW x.op] w hz hH21 (by first | omega | (simp only [List.length_append,TW_len,List.length_cons,List.length_nil]; omega)) (List.forall_mem_cons.2 ⟨(opW_len _ hop),(List.forall_mem_nil _)⟩) hw).mono fun e w' ⟨r2,h1,h2⟩=>⟨r2,h1,trivial,h2⟩) ?_
       intro r22 _
       refine Ln (Ed ?_)
       refine WD.nil (fun _ h=>by have h:=Ws.out 0 h; have h:=Ws.out 0 h; have h:=Ws.drops h (fun _ hm=>List.mem_append_right [_] hm); exact h) ?_
       refine Et (Cs (Cr ?_))
       refine V0 (Ym rfl) ?_
       refine V0 (Yf fo81_4 rfl) ?_
       refine V0 (Yd 2 rfl rfl rfl na41) ?_
       refine V0 (Yo (i:=1) es41 rfl rfl haz (by omega)) ?_
       refine V0 (yl_lda 3 ag81 rfl rfl rfl (hrowz)) ?_
       refine Lf 1 rfl ?_
       refine Lf 1 rfl ?_
       refine Lw (ι:=Option Addr×Nat) [_,_] _ (.inl rfl) rfl en94 rfl rfl (fun _=>.tuple #[]) (fun r=>penL pb r (l++TW ([[40]])++TW (exprW y)++TW ([opW x.op])++TW (exprW z))) (fun _=>True) [G,H] (by simp) (fun w hw=>(hE k2 (by omega) pb r22 (l++TW ([[40]])++TW (exprW y)++TW ([opW x.op])) z za zn (d+1) w hsubz hcz (by first | omega | (simp only [List.length_append,TW_len,List.length_cons,List.length_nil]; omega)) hw).mono fun e w' ⟨r2,h1,h2⟩=>⟨r2,h1,trivial,h2⟩) ?_
       intro r28 _
       refine Ln (Et (Cr ?_))
       refine V0 (Ym rfl) ?_
       refine Lb (.inl rfl) rfl el22 rfl rfl rfl rfl fun b30=>?_
       refine Lsv (T:=9) (m:=1) 0 [[41]] rfl rfl (show 1≤1 by decide) (by decide) fun H30 hH30=>?_
       refine Lf 1 rfl ?_
       refine Lf 1 rfl ?_
       refine Lw (ι:=Option Addr×Nat) [_,_] _ (.inl rfl) rfl en42 rfl rfl (fun _=>.tuple #[]) (fun r=>penL pb r (l++TW ([[40]])++TW (exprW y)++TW ([opW x.op])++TW (exprW z)++TW ([[41]]))) (fun _=>True) [G,H30] (by simp) (fun w hw=>(put_any pb G H30 r28 (l++TW ([[40]])++TW (exprW y)++TW ([opW x.op])++TW (exprW z)) _ _ [[41]] w hz hH30 (by first | omega | (simp only [List.length_append,TW_len,List.length_cons,List.length_nil]; omega)) (List.forall_mem_cons.2 ⟨(by decide:List.length ([41]:Tx)≤4096),(List.forall_mem_nil _)⟩) hw).mono fun e w' ⟨r2,h1,h2⟩=>⟨r2,h1,trivial,h2⟩) ?_
       intro r31 _
       refine Ln (Eb ?_)
       refine WE.end0 rfl fun w' hw=>?_
       rw [show l++TW ([[40]])++TW (exprW y)++TW ([opW x.op])++TW (exprW z)++TW ([[41]])=l++TW (exprW x) by rw [HE]; try simp [TW]] at hw
       exact ⟨r31,rfl,Ws.drops (Ws.keep (L:=[_,_]) hw) (fun _ hm=>List.mem_append_right [_,_,_] hm)⟩
end Go.Proofs.YtjfldjidhkfnbaaGreatDoor
end
section
namespace Go.Proofs.YtjfldjidhkfnbaaGreatDoor
open Go.Bw
set_option linter.unusedVariables false
set_option linter.unusedSimpArgs false
theorem HS45 {x:TStmt} {y:TExpr} (h:x.op=4∨x.op=5) (hy:x.args[0]? = some y):1+(exprW y).length+(blockW x.body).length≤(stmtW x).length:=by
 rw [stmtW_eq,stmtO,if_pos h,at_get hy]
 simp only [List.length_append,List.length_cons,List.length_nil,blockW]
 omega
theorem flat_snoc {α β:Type} {f:α→List β} {l:List α} {i:Nat} {x:α} (h:l[i]? = some x):(l.take (i+1)).flatMap f=(l.take i).flatMap f++f x:=by rw [take_snoc h]; simp
theorem flat_part {α β:Type} {f:α→List β} {l:List α} {i:Nat} {x:α} (h:l[i]? = some x):((l.take i).flatMap f).length+(f x).length≤(l.flatMap f).length:=by
 conv=>rhs; rw [←List.take_append_drop (i+1) l]
 rw [List.flatMap_append,List.length_append,flat_snoc h,List.length_append]
 omega
theorem HD1 {d:TDecl} (h:d.kind=1):declW d=pubW d.pub++[[99,111,110,115,116],d.nm,[61],Lib.itoa d.n]++[[59]]:=by rw [declW,declO,if_pos h]; rfl
theorem HD2 {d:TDecl} (h:d.kind=2):declW d=pubW d.pub++[[118,97,114],d.nm]++[[59]]:=by rw [declW,declO,if_neg (by omega),if_pos h]; rfl
theorem HD3 {d:TDecl} (h:d.kind=3):declW d=pubW d.pub++[[97,114,114,97,121],d.nm,[91],Lib.itoa d.n,[93]]++[[59]]:=by rw [declW,declO,if_neg (by omega),if_neg (by omega),if_pos h]; rfl
theorem map1_get {l:List Tx} {i:Nat} {x:Tx} (h:l[i]? = some x):(l.map fun s=>[s])[i]? = some [x]:=by rw [List.getElem?_map,h]; rfl
theorem modW_len (m:TMod):(modW m).length=3+(m.uses.flatMap useW).length+(m.decls.flatMap declW).length+(m.procs.flatMap procW).length+1+(blockW m.main).length+1:=by
 unfold modW
 simp only [List.length_append,List.length_cons,List.length_nil]
theorem procW_len (p:TProc):(procW p).length=(pubW p.pub).length+3+(commaW (p.params.map fun s=>[s])).length+1+(p.locs.flatMap locW).length+(blockW p.body).length:=by
 unfold procW
 simp only [List.length_append,List.length_cons,List.length_nil]
theorem en44:Enters Tryz.prog 44:=enters_of Tryz.func44 (by kernel_rfl) rfl
theorem en72:Enters Tryz.prog 72:=enters_of Tryz.func72 (by kernel_rfl) rfl
theorem penStmt_any (pb:Nat) (G H:View) (r:Option Addr×Nat) (l:List Tok) (ke k:Nat) (hX:∀k,PenE G H k) (hB:PenB G H ke k) (x:TStmt) (a:Option Addr) (n:Nat) (a2:Option Addr) (n2:Nat) (a3:Option Addr) (n3 d:Nat) (w:World) (hz:Laid G) (hs1:Sl (RdE ke) 5 H a n x.args) (hs2:Sl (RdS ke k) 6 H a2 n2 x.body) (hs3:Sl (RdS ke k) 6 H a3 n3 x.other) (hcx:(cntS x d).tot=0) (hl:l.length+(stmtW x).length≤1099511627776) (hw:Ws w (List.flatMap Asr.ids (penL pb r l)) (penL pb r l) [G,H] w) :
   Calls Tryz.prog 72 #[.pointer (some ⟨pb,0,none⟩),.agg #[.int .i64 x.op,st x.mod,st x.nm,.slice a x.args.length n,.slice a2 x.body.length n2,.slice a3 x.other.length n3]] w fun e w'=>∃r2:Option Addr×Nat,e = .returned (.tuple #[])∧Ws w (List.flatMap Asr.ids (penL pb r l)) (penL pb r2 (l++TW (stmtW x))) [G,H] w':=by
 have hcap:=hs1.cap
 have hmax:=hs1.max
 have ho:=okS' hcx
 have hkk:=ho.kind
 refine enter Tryz.func72 rfl 118 rfl rfl ?_
 refine CWd (W':=Ws w (List.flatMap Asr.ids (penL pb r l)) (penL pb r l) [G,H]) (fun _ e=>by subst e; exact hw) ?_
 refine Cs (Cr ?_)
 refine WL.box (.inl rfl) rfl rfl fun b3=>?_
 refine Ln (Et (Cs (Cs (Cr ?_))))
 refine V0 (Yf fo43_0 rfl) ?_
 refine V0 (Yd 0 rfl rfl rfl na3) ?_
 refine Ln (Et (Cb (Cs (Cs (Cr ?_)))))
 refine V0 (yl_eq rfl rfl) ?_
 refine V0 (Ya rfl) ?_
 refine Ln (Et ?_)
 refine Cc rfl (fun hc0=>?_) (fun hc0=>?_)
 ·
  have hk4:x.op=4:=by simpa using hc0
  refine Ck (Et ?_)
  refine Cc rfl (fun hc1=>?_) (fun hc1=>?_)
  ·
   have hlen:=okS_one ho (by omega) (by omega)
   obtain ⟨y,hyi⟩:∃y,x.args[0]? = some y:=get0 hlen (by decide)
   obtain ⟨pby,poy,hay,hry⟩:=hs1.elt 0 y hyi
   obtain ⟨k2,rfl⟩:∃k2,ke=k2+1:=by
     cases ke with
     | zero=>exact hry.elim
     | succ k2=>exact ⟨k2,rfl⟩
   obtain ⟨ya,yn,hrowy,hsuby⟩:=hry
   have hcy:=cntEs_get ho.exprs hyi
   have hN:=HS45 (x:=x) (by omega) hyi
   have hcb:(cntB x.body (d+1)).tot=0:=ho.body (by simp [inner,hk4])
   refine Cs (Cr ?_)
   refine V0 (Ya rfl) ?_
   refine Ln (Et (Cs (Cs (Cr ?_))))
   refine V0 (Yf fo43_0 rfl) ?_
   refine V0 (Yd 0 rfl rfl rfl na3) ?_
   refine V0 (yl_eq rfl rfl) ?_
   refine Ln (Et ?_)
   refine Cc rfl (fun hc2=>?_) (fun hc2=>?_)
   ·
    simp [hk4] at hc2
   ·
    refine Ck (Et (Cs (Cr ?_)))
    refine V0 (Ym rfl) ?_
    refine V0 (Ym rfl) ?_
    refine Lb (.inl rfl) rfl el22 rfl rfl rfl rfl fun b15=>?_
    refine Lsv (T:=9) (m:=1) 0 [w_if] rfl rfl (show 1≤1 by decide) (by decide) fun H15 hH15=>?_
    refine Lf 2 rfl ?_
    refine Lf 2 rfl ?_
    refine Lw (ι:=Option Addr×Nat) [_,_] _ (.inl rfl) rfl en42 rfl rfl (fun _=>.tuple #[]) (fun r=>penL pb r (l++TW ([w_if]))) (fun _=>True) [G,H15] (by simp) (fun w hw=>(put_any pb G H15 r (l) _ _ [w_if] w hz hH15 (by first | omega | (simp only [List.length_append,TW_len,List.length_cons,List.length_nil]; omega)) (List.forall_mem_cons.2 ⟨(by decide:List.length w_if≤4096),(List.forall_mem_nil _)⟩) hw).mono fun e w' ⟨r2,h1,h2⟩=>⟨r2,h1,trivial,h2⟩) ?_
    intro r16 _
    refine Ln (Et (Cs (Cr ?_)))
    refine V0 (Ym rfl) ?_
    refine V0 (Yf fo43_3 rfl) ?_
    refine V0 (Yd 2 rfl rfl rfl na41) ?_
    refine V0 (Yo (i:=0) es41 rfl rfl hay (by omega)) ?_
    refine V0 (yl_lda 2 ag81 rfl rfl rfl (hrowy)) ?_
    refine Lf 1 rfl ?_
    refine Lf 1 rfl ?_
    refine Lw (ι:=Option Addr×Nat) [_,_] _ (.inl rfl) rfl en94 rfl rfl (fun _=>.tuple #[]) (fun r=>penL pb r (l++TW ([w_if])++TW (exprW y))) (fun _=>True) [G,H] (by simp) (fun w hw=>(hX k2 pb r16 (l++TW ([w_if])) y ya yn 1 w hsuby hcy (by first | omega | (simp only [List.length_append,TW_len,List.length_cons,List.length_nil]; omega)) hw).mono fun e w' ⟨r2,h1,h2⟩=>⟨r2,h1,trivial,h2⟩) ?_
    intro r22 _
    refine Ln (Et (Cs (Cr ?_)))
    refine V0 (Ym rfl) ?_
    refine V0 (Yf fo43_4 rfl) ?_
    refine V0 (Yd 2 rfl rfl rfl na25) ?_
    refine Lf 1 rfl ?_
    refine Lf 1 rfl ?_
    refine Lw (ι:=Option Addr×Nat) [_,_] _ (.inl rfl) rfl en44 rfl rfl (fun _=>.tuple #[]) (fun r=>penL pb r (l++TW ([w_if])++TW (exprW y)++TW (blockW x.body))) (fun _=>True) [G,H] (by simp) (fun w hw=>(hB pb r22 (l++TW ([w_if])++TW (exprW y)) x.body a2 n2 (d+1) w hs2 hcb (by first | omega | (simp only [List.length_append,TW_len,List.length_cons,List.length_nil]; omega)) hw).mono fun e w' ⟨r2,h1,h2⟩=>⟨r2,h1,trivial,h2⟩) ?_
    intro r26 _
    refine Ln (Et (Cs (Cs (Cr ?_))))
    refine V0 (Yf fo43_5 rfl) ?_
    refine V0 (Yd 2 rfl rfl rfl na25) ?_
    refine V0 (Yn es25 rfl) ?_
    refine V0 (yl_gt rfl rfl) ?_
    rw [int_lt0]
    refine Ln (Et ?_)
    refine Cc rfl (fun hc3=>?_) (fun hc3=>?_)
    ·
     have hol:0<x.other.length:=by simpa using hc3
     have HE:=HS4 hk4 hyi hol
     have hN2:=congrArg List.length HE
     simp at hN2
     have hco:(cntB x.other (d+1)).tot=0:=ho.other hol
     refine Cs (Cr ?_)
     refine V0 (Ym rfl) ?_
     refine Lb (.inl rfl) rfl el22 rfl rfl rfl rfl fun b32=>?_
     refine Lsv (T:=9) (m:=1) 0 [[101,108,115,101]] rfl rfl (show 1≤1 by decide) (by decide) fun H32 hH32=>?_
     refine Lf 1 rfl ?_
     refine Lf 1 rfl ?_
     refine Lw (ι:=Option Addr×Nat) [_,_] _ (.inl rfl) rfl en42 rfl rfl (fun _=>.tuple #[]) (fun r=>penL pb r (l++TW ([w_if])++TW (exprW y)++TW (blockW x.body)++TW ([[101,108,115,101]]))) (fun _=>True) [G,H32] (by simp) (fun w hw=>(put_any pb G H32 r26 (l++TW ([w_if])++TW (exprW y)++TW (blockW x.body)) _ _ [[101,108,115,101]] w hz hH32 (by first | omega | (simp only [List.length_append,TW_len,List.length_cons,List.length_nil]; omega)) (List.forall_mem_cons.2 ⟨(by decide:List.length ([101,108,115,101]:Tx)≤4096),(List.forall_mem_nil _)⟩) hw).mono fun e w' ⟨r2,h1,h2⟩=>⟨r2,h1,trivial,h2⟩) ?_
     intro r33 _
     refine Ln (Et (Cr ?_))
     refine V0 (Ym rfl) ?_
     refine V0 (Yf fo43_5 rfl) ?_
     refine V0 (Yd 2 rfl rfl rfl na25) ?_
     refine Lf 1 rfl ?_
     refine Lf 1 rfl ?_
     refine Lw (ι:=Option Addr×Nat) [_,_] _ (.inl rfl) rfl en44 rfl rfl (fun _=>.tuple #[]) (fun r=>penL pb r (l++TW ([w_if])++TW (exprW y)++TW (blockW x.body)++TW ([[101,108,115,101]])++TW (blockW x.other))) (fun _=>True) [G,H] (by simp) (fun w hw=>(hB pb r33 (l++TW ([w_if])++TW (exprW y)++TW (blockW x.body)++TW ([[101,108,115,101]])) x.other a3 n3 (d+1) w hs3 hco (by first | omega | (simp only [List.length_append,TW_len,List.length_cons,List.length_nil]; omega)) hw).mono fun e w' ⟨r2,h1,h2⟩=>⟨r2,h1,trivial,h2⟩) ?_
     intro r37 _
     refine Ln (Et (Crt (Ebr (Er ?_))))
     refine WE.ret0 rfl fun w' hw=>?_
     rw [show l++TW ([w_if])++TW (exprW y)++TW (blockW x.body)++TW ([[101,108,115,101]])++TW (blockW x.other)=l++TW (stmtW x) by rw [HE]; try simp [TW,w_if,w_else,w_while,w_return,w_out]] at hw
     exact ⟨r37,rfl,Ws.drops (Ws.keep (L:=[_,_]) hw) (fun _ hm=>List.mem_append_right [_,_] hm)⟩
    ·
     have hol:¬0<x.other.length:=by simpa using hc3
     have HE:=HS40 hk4 hyi hol
     refine Ck (Et (Crt (Ebr (Er ?_))))
     refine WE.ret0 rfl fun w' hw=>?_
     rw [show l++TW ([w_if])++TW (exprW y)++TW (blockW x.body)=l++TW (stmtW x) by rw [HE]; try simp [TW,w_if,w_else,w_while,w_return,w_out]] at hw
     exact ⟨r26,rfl,Ws.drops (Ws.keep (L:=[_,_]) hw) (fun _ hm=>List.mem_append_right [_] hm)⟩
  ·
   simp [hk4] at hc1
 ·
  have h4:¬x.op=4:=by simpa using hc0
  refine Cr ?_
  refine V0 (yl_eq rfl rfl) ?_
  refine V0 (Ya rfl) ?_
  refine Ln (Et ?_)
  refine Cc rfl (fun hc1=>?_) (fun hc1=>?_)
  ·
   have hk5:x.op=5:=by simpa using hc1
   have hlen:=okS_one ho (by omega) (by omega)
   obtain ⟨y,hyi⟩:∃y,x.args[0]? = some y:=get0 hlen (by decide)
   obtain ⟨pby,poy,hay,hry⟩:=hs1.elt 0 y hyi
   obtain ⟨k2,rfl⟩:∃k2,ke=k2+1:=by
     cases ke with
     | zero=>exact hry.elim
     | succ k2=>exact ⟨k2,rfl⟩
   obtain ⟨ya,yn,hrowy,hsuby⟩:=hry
   have hcy:=cntEs_get ho.exprs hyi
   have hN:=HS45 (x:=x) (by omega) hyi
   have hcb:(cntB x.body (d+1)).tot=0:=ho.body (by simp [inner,hk5])
   refine Cs (Cr ?_)
   refine V0 (Ya rfl) ?_
   refine Ln (Et (Cs (Cs (Cr ?_))))
   refine V0 (Yf fo43_0 rfl) ?_
   refine V0 (Yd 0 rfl rfl rfl na3) ?_
   refine V0 (yl_eq rfl rfl) ?_
   refine Ln (Et ?_)
   refine Cc rfl (fun hc2=>?_) (fun hc2=>?_)
   ·
    refine Cr ?_
    refine V0 (Ya rfl) ?_
    refine Ln (Et (Cs (Cr ?_)))
    refine V0 (Ym rfl) ?_
    refine V0 (Ym rfl) ?_
    refine Lb (.inl rfl) rfl el22 rfl rfl rfl rfl fun b15=>?_
    refine Lsv (T:=9) (m:=1) 0 [w_while] rfl rfl (show 1≤1 by decide) (by decide) fun H15 hH15=>?_
    refine Lf 2 rfl ?_
    refine Lf 2 rfl ?_
    refine Lw (ι:=Option Addr×Nat) [_,_] _ (.inl rfl) rfl en42 rfl rfl (fun _=>.tuple #[]) (fun r=>penL pb r (l++TW ([w_while]))) (fun _=>True) [G,H15] (by simp) (fun w hw=>(put_any pb G H15 r (l) _ _ [w_while] w hz hH15 (by first | omega | (simp only [List.length_append,TW_len,List.length_cons,List.length_nil]; omega)) (List.forall_mem_cons.2 ⟨(by decide:List.length w_while≤4096),(List.forall_mem_nil _)⟩) hw).mono fun e w' ⟨r2,h1,h2⟩=>⟨r2,h1,trivial,h2⟩) ?_
    intro r16 _
    refine Ln (Et (Cs (Cr ?_)))
    refine V0 (Ym rfl) ?_
    refine V0 (Yf fo43_3 rfl) ?_
    refine V0 (Yd 2 rfl rfl rfl na41) ?_
    refine V0 (Yo (i:=0) es41 rfl rfl hay (by omega)) ?_
    refine V0 (yl_lda 2 ag81 rfl rfl rfl (hrowy)) ?_
    refine Lf 1 rfl ?_
    refine Lf 1 rfl ?_
    refine Lw (ι:=Option Addr×Nat) [_,_] _ (.inl rfl) rfl en94 rfl rfl (fun _=>.tuple #[]) (fun r=>penL pb r (l++TW ([w_while])++TW (exprW y))) (fun _=>True) [G,H] (by simp) (fun w hw=>(hX k2 pb r16 (l++TW ([w_while])) y ya yn 1 w hsuby hcy (by first | omega | (simp only [List.length_append,TW_len,List.length_cons,List.length_nil]; omega)) hw).mono fun e w' ⟨r2,h1,h2⟩=>⟨r2,h1,trivial,h2⟩) ?_
    intro r22 _
    refine Ln (Et (Cs (Cr ?_)))
    refine V0 (Ym rfl) ?_
    refine V0 (Yf fo43_4 rfl) ?_
    refine V0 (Yd 2 rfl rfl rfl na25) ?_
    refine Lf 1 rfl ?_
    refine Lf 1 rfl ?_
    refine Lw (ι:=Option Addr×Nat) [_,_] _ (.inl rfl) rfl en44 rfl rfl (fun _=>.tuple #[]) (fun r=>penL pb r (l++TW ([w_while])++TW (exprW y)++TW (blockW x.body))) (fun _=>True) [G,H] (by simp) (fun w hw=>(hB pb r22 (l++TW ([w_while])++TW (exprW y)) x.body a2 n2 (d+1) w hs2 hcb (by first | omega | (simp only [List.length_append,TW_len,List.length_cons,List.length_nil]; omega)) hw).mono fun e w' ⟨r2,h1,h2⟩=>⟨r2,h1,trivial,h2⟩) ?_
    intro r26 _
    refine Ln (Et (Cs (Cs (Cr ?_))))
    refine V0 (Yf fo43_5 rfl) ?_
    refine V0 (Yd 2 rfl rfl rfl na25) ?_
    refine V0 (Yn es25 rfl) ?_
    refine V0 (yl_gt rfl rfl) ?_
    rw [int_lt0]
    refine Ln (Et ?_)
    refine Cc rfl (fun hc3=>?_) (fun hc3=>?_)
    ·
     have:=ho.noBody.2 (by omega)
     rw [this] at hc3
     simp at hc3
    ·
     have hol:¬0<x.other.length:=by simpa using hc3
     have HE:=HS5 hk5 hyi hol
     refine Ck (Et (Crt (Ebr (Er ?_))))
     refine WE.ret0 rfl fun w' hw=>?_
     rw [show l++TW ([w_while])++TW (exprW y)++TW (blockW x.body)=l++TW (stmtW x) by rw [HE]; try simp [TW,w_if,w_else,w_while,w_return,w_out]] at hw
     exact ⟨r26,rfl,Ws.drops (Ws.keep (L:=[_,_]) hw) (fun _ hm=>List.mem_append_right [_] hm)⟩
   ·
    simp [hk5] at hc2
  ·
   have h5:¬x.op=5:=by simpa using hc1
   refine Cs (Cr ?_)
   refine V0 (yl_eq rfl rfl) ?_
   refine V0 (Ya rfl) ?_
   refine Ln (Et ?_)
   refine Cc rfl (fun hc4=>?_) (fun hc4=>?_)
   ·
    have hk:x.op=6:=by simpa using hc4
    have hlen:=okS_one ho (by omega) (by omega)
    obtain ⟨y,hyi⟩:∃y,x.args[0]? = some y:=get0 hlen (by decide)
    obtain ⟨pby,poy,hay,hry⟩:=hs1.elt 0 y hyi
    obtain ⟨k2,rfl⟩:∃k2,ke=k2+1:=by
      cases ke with
      | zero=>exact hry.elim
      | succ k2=>exact ⟨k2,rfl⟩
    obtain ⟨ya,yn,hrowy,hsuby⟩:=hry
    have hcy:=cntEs_get ho.exprs hyi
    have HE:=HS6 hk hyi
    have hN:=congrArg List.length HE
    try simp at hN
    refine Cs (Cr ?_)
    refine V0 (Ym rfl) ?_
    refine Lb (.inl rfl) rfl el22 rfl rfl rfl rfl fun b41=>?_
    refine Lsv (T:=9) (m:=1) 0 [[114,101,116,117,114,110]] rfl rfl (show 1≤1 by decide) (by decide) fun H41 hH41=>?_
    refine Lf 2 rfl ?_
    refine Lf 2 rfl ?_
    refine Lw (ι:=Option Addr×Nat) [_,_] _ (.inl rfl) rfl en42 rfl rfl (fun _=>.tuple #[]) (fun r=>penL pb r (l++TW ([[114,101,116,117,114,110]]))) (fun _=>True) [G,H41] (by simp) (fun w hw=>(put_any pb G H41 r (l) _ _ [[114,101,116,117,114,110]] w hz hH41 (by first | omega | (simp only [List.length_append,TW_len,List.length_cons,List.length_nil]; omega)) (List.forall_mem_cons.2 ⟨(by decide:List.length ([114,101,116,117,114,110]:Tx)≤4096),(List.forall_mem_nil _)⟩) hw).mono fun e w' ⟨r2,h1,h2⟩=>⟨r2,h1,trivial,h2⟩) ?_
    intro r42 _
    refine Ln (Et (Cr ?_))
    refine V0 (Ym rfl) ?_
    refine V0 (Yf fo43_3 rfl) ?_
    refine V0 (Yd 2 rfl rfl rfl na41) ?_
    refine V0 (Yo (i:=0) es41 rfl rfl hay (by omega)) ?_
    refine V0 (yl_lda 2 ag81 rfl rfl rfl (hrowy)) ?_
    refine Lf 1 rfl ?_
    refine Lf 1 rfl ?_
    refine Lw (ι:=Option Addr×Nat) [_,_] _ (.inl rfl) rfl en94 rfl rfl (fun _=>.tuple #[]) (fun r=>penL pb r (l++TW ([[114,101,116,117,114,110]])++TW (exprW y))) (fun _=>True) [G,H] (by simp) (fun w hw=>(hX k2 pb r42 (l++TW ([[114,101,116,117,114,110]])) y ya yn 1 w hsuby hcy (by first | omega | (simp only [List.length_append,TW_len,List.length_cons,List.length_nil]; omega)) hw).mono fun e w' ⟨r2,h1,h2⟩=>⟨r2,h1,trivial,h2⟩) ?_
    intro r48 _
    refine Ln (Eb (Et (Cr ?_)))
    refine V0 (Ym rfl) ?_
    refine Lb (.inl rfl) rfl el22 rfl rfl rfl rfl fun b116=>?_
    refine Lsv (T:=9) (m:=1) 0 [[59]] rfl rfl (show 1≤1 by decide) (by decide) fun H116 hH116=>?_
    refine Lf 1 rfl ?_
    refine Lf 1 rfl ?_
    refine Lw (ι:=Option Addr×Nat) [_,_] _ (.inl rfl) rfl en42 rfl rfl (fun _=>.tuple #[]) (fun r=>penL pb r (l++TW ([[114,101,116,117,114,110]])++TW (exprW y)++TW ([[59]]))) (fun _=>True) [G,H116] (by simp) (fun w hw=>(put_any pb G H116 r48 (l++TW ([[114,101,116,117,114,110]])++TW (exprW y)) _ _ [[59]] w hz hH116 (by first | omega | (simp only [List.length_append,TW_len,List.length_cons,List.length_nil]; omega)) (List.forall_mem_cons.2 ⟨(by decide:List.length ([59]:Tx)≤4096),(List.forall_mem_nil _)⟩) hw).mono fun e w' ⟨r2,h1,h2⟩=>⟨r2,h1,trivial,h2⟩) ?_
    intro r117 _
    refine Ln ?_
    refine WE.end0 rfl fun w' hw=>?_
    rw [show l++TW ([[114,101,116,117,114,110]])++TW (exprW y)++TW ([[59]])=l++TW (stmtW x) by rw [HE]; try simp [TW,w_if,w_else,w_while,w_return,w_out]] at hw
    exact ⟨r117,rfl,Ws.drops (Ws.keep (L:=[_,_]) hw) (fun _ hm=>List.mem_append_right [_,_] hm)⟩
   ·
    have h6:¬x.op=6:=by simpa using hc4
    refine Cs (Cr ?_)
    refine V0 (yl_eq rfl rfl) ?_
    refine V0 (Ya rfl) ?_
    refine Ln (Et ?_)
    refine Cc rfl (fun hc5=>?_) (fun hc5=>?_)
    ·
     have hk:x.op=7:=by simpa using hc5
     have hlen:=okS_one ho (by omega) (by omega)
     obtain ⟨y,hyi⟩:∃y,x.args[0]? = some y:=get0 hlen (by decide)
     obtain ⟨pby,poy,hay,hry⟩:=hs1.elt 0 y hyi
     obtain ⟨k2,rfl⟩:∃k2,ke=k2+1:=by
       cases ke with
       | zero=>exact hry.elim
       | succ k2=>exact ⟨k2,rfl⟩
     obtain ⟨ya,yn,hrowy,hsuby⟩:=hry
     have hcy:=cntEs_get ho.exprs hyi
     have HE:=HS7 hk hyi
     have hN:=congrArg List.length HE
     try simp at hN
     refine Cs (Cr ?_)
     refine V0 (Ym rfl) ?_
     refine Lb (.inl rfl) rfl el22 rfl rfl rfl rfl fun b52=>?_
     refine Lsv (T:=9) (m:=1) 0 [[111,117,116]] rfl rfl (show 1≤1 by decide) (by decide) fun H52 hH52=>?_
     refine Lf 2 rfl ?_
     refine Lf 2 rfl ?_
     refine Lw (ι:=Option Addr×Nat) [_,_] _ (.inl rfl) rfl en42 rfl rfl (fun _=>.tuple #[]) (fun r=>penL pb r (l++TW ([[111,117,116]]))) (fun _=>True) [G,H52] (by simp) (fun w hw=>(put_any pb G H52 r (l) _ _ [[111,117,116]] w hz hH52 (by first | omega | (simp only [List.length_append,TW_len,List.length_cons,List.length_nil]; omega)) (List.forall_mem_cons.2 ⟨(by decide:List.length ([111,117,116]:Tx)≤4096),(List.forall_mem_nil _)⟩) hw).mono fun e w' ⟨r2,h1,h2⟩=>⟨r2,h1,trivial,h2⟩) ?_
     intro r53 _
     refine Ln (Et (Cr ?_))
     refine V0 (Ym rfl) ?_
     refine V0 (Yf fo43_3 rfl) ?_
     refine V0 (Yd 2 rfl rfl rfl na41) ?_
     refine V0 (Yo (i:=0) es41 rfl rfl hay (by omega)) ?_
     refine V0 (yl_lda 2 ag81 rfl rfl rfl (hrowy)) ?_
     refine Lf 1 rfl ?_
     refine Lf 1 rfl ?_
     refine Lw (ι:=Option Addr×Nat) [_,_] _ (.inl rfl) rfl en94 rfl rfl (fun _=>.tuple #[]) (fun r=>penL pb r (l++TW ([[111,117,116]])++TW (exprW y))) (fun _=>True) [G,H] (by simp) (fun w hw=>(hX k2 pb r53 (l++TW ([[111,117,116]])) y ya yn 1 w hsuby hcy (by first | omega | (simp only [List.length_append,TW_len,List.length_cons,List.length_nil]; omega)) hw).mono fun e w' ⟨r2,h1,h2⟩=>⟨r2,h1,trivial,h2⟩) ?_
     intro r59 _
     refine Ln (Eb (Et (Cr ?_)))
     refine V0 (Ym rfl) ?_
     refine Lb (.inl rfl) rfl el22 rfl rfl rfl rfl fun b116=>?_
     refine Lsv (T:=9) (m:=1) 0 [[59]] rfl rfl (show 1≤1 by decide) (by decide) fun H116 hH116=>?_
     refine Lf 1 rfl ?_
     refine Lf 1 rfl ?_
     refine Lw (ι:=Option Addr×Nat) [_,_] _ (.inl rfl) rfl en42 rfl rfl (fun _=>.tuple #[]) (fun r=>penL pb r (l++TW ([[111,117,116]])++TW (exprW y)++TW ([[59]]))) (fun _=>True) [G,H116] (by simp) (fun w hw=>(put_any pb G H116 r59 (l++TW ([[111,117,116]])++TW (exprW y)) _ _ [[59]] w hz hH116 (by first | omega | (simp only [List.length_append,TW_len,List.length_cons,List.length_nil]; omega)) (List.forall_mem_cons.2 ⟨(by decide:List.length ([59]:Tx)≤4096),(List.forall_mem_nil _)⟩) hw).mono fun e w' ⟨r2,h1,h2⟩=>⟨r2,h1,trivial,h2⟩) ?_
     intro r117 _
     refine Ln ?_
     refine WE.end0 rfl fun w' hw=>?_
     rw [show l++TW ([[111,117,116]])++TW (exprW y)++TW ([[59]])=l++TW (stmtW x) by rw [HE]; try simp [TW,w_if,w_else,w_while,w_return,w_out]] at hw
     exact ⟨r117,rfl,Ws.drops (Ws.keep (L:=[_,_]) hw) (fun _ hm=>List.mem_append_right [_,_] hm)⟩
    ·
     have h7:¬x.op=7:=by simpa using hc5
     refine Cs (Cr ?_)
     refine V0 (yl_eq rfl rfl) ?_
     refine V0 (Ya rfl) ?_
     refine Ln (Et ?_)
     refine Cc rfl (fun hc6=>?_) (fun hc6=>?_)
     ·
      have hk:x.op=3:=by simpa using hc6
      have hrf:=okS_ref ho (by omega)
      have HE:=HS3 hk
      have hN:=congrArg List.length HE
      try simp at hN
      refine Cs (Cr ?_)
      refine V0 (Ym rfl) ?_
      refine V0 (Yf fo43_1 rfl) ?_
      refine V0 (Yd 0 rfl rfl rfl na9) ?_
      refine V0 (Yf fo43_2 rfl) ?_
      refine V0 (Yd 0 rfl rfl rfl na9) ?_
      refine Lf 2 rfl ?_
      refine Lf 2 rfl ?_
      refine Lw (ι:=Option Addr×Nat) [_,_] _ (.inl rfl) rfl en95 rfl rfl (fun _=>.tuple #[]) (fun r=>penL pb r (l++TW (refW x.mod x.nm))) (fun _=>True) [G,H] (by simp) (fun w hw=>(ref_any pb G H r (l) x.mod x.nm w hz hrf (by first | omega | (simp only [List.length_append,TW_len,List.length_cons,List.length_nil]; omega)) hw).mono fun e w' ⟨r2,h1,h2⟩=>⟨r2,h1,trivial,h2⟩) ?_
      intro r67 _
      refine Ln (Et (Cr ?_))
      refine V0 (Ym rfl) ?_
      refine V0 (Yf fo43_3 rfl) ?_
      refine V0 (Yd 2 rfl rfl rfl na41) ?_
      refine Lf 1 rfl ?_
      refine Lf 1 rfl ?_
      refine Lw (ι:=Option Addr×Nat) [_,_] _ (.inl rfl) rfl en96 rfl rfl (fun _=>.tuple #[]) (fun r=>penL pb r (l++TW (refW x.mod x.nm)++TW (argsW (exprWs x.args)))) (fun _=>True) [G,H] (by simp) (fun w hw=>(penArgs_any pb G H r67 (l++TW (refW x.mod x.nm)) ke (fun k2 _=>hX k2) x.args a n 1 w hz hs1 ho.exprs (by first | omega | (simp only [List.length_append,TW_len,List.length_cons,List.length_nil]; omega)) hw).mono fun e w' ⟨r2,h1,h2⟩=>⟨r2,h1,trivial,h2⟩) ?_
      intro r71 _
      refine Ln (Eb (Et (Cr ?_)))
      refine V0 (Ym rfl) ?_
      refine Lb (.inl rfl) rfl el22 rfl rfl rfl rfl fun b116=>?_
      refine Lsv (T:=9) (m:=1) 0 [[59]] rfl rfl (show 1≤1 by decide) (by decide) fun H116 hH116=>?_
      refine Lf 1 rfl ?_
      refine Lf 1 rfl ?_
      refine Lw (ι:=Option Addr×Nat) [_,_] _ (.inl rfl) rfl en42 rfl rfl (fun _=>.tuple #[]) (fun r=>penL pb r (l++TW (refW x.mod x.nm)++TW (argsW (exprWs x.args))++TW ([[59]]))) (fun _=>True) [G,H116] (by simp) (fun w hw=>(put_any pb G H116 r71 (l++TW (refW x.mod x.nm)++TW (argsW (exprWs x.args))) _ _ [[59]] w hz hH116 (by first | omega | (simp only [List.length_append,TW_len,List.length_cons,List.length_nil]; omega)) (List.forall_mem_cons.2 ⟨(by decide:List.length ([59]:Tx)≤4096),(List.forall_mem_nil _)⟩) hw).mono fun e w' ⟨r2,h1,h2⟩=>⟨r2,h1,trivial,h2⟩) ?_
      intro r117 _
      refine Ln ?_
      refine WE.end0 rfl fun w' hw=>?_
      rw [show l++TW (refW x.mod x.nm)++TW (argsW (exprWs x.args))++TW ([[59]])=l++TW (stmtW x) by rw [HE]; try simp [TW,w_if,w_else,w_while,w_return,w_out]] at hw
      exact ⟨r117,rfl,Ws.drops (Ws.keep (L:=[_,_]) hw) (fun _ hm=>List.mem_append_right [_] hm)⟩
     ·
      have h3:¬x.op=3:=by simpa using hc6
      refine Cs (Cr ?_)
      refine V0 (yl_eq rfl rfl) ?_
      refine V0 (Ya rfl) ?_
      refine Ln (Et ?_)
      refine Cc rfl (fun hc7=>?_) (fun hc7=>?_)
      ·
       have hk:x.op=1:=by simpa using hc7
       have hrf:=okS_ref ho (by omega)
       have hlen:=okS_one ho (by omega) (by omega)
       obtain ⟨y,hyi⟩:∃y,x.args[0]? = some y:=get0 hlen (by decide)
       obtain ⟨pby,poy,hay,hry⟩:=hs1.elt 0 y hyi
       obtain ⟨k2,rfl⟩:∃k2,ke=k2+1:=by
         cases ke with
         | zero=>exact hry.elim
         | succ k2=>exact ⟨k2,rfl⟩
       obtain ⟨ya,yn,hrowy,hsuby⟩:=hry
       have hcy:=cntEs_get ho.exprs hyi
       have HE:=HS1 hk hyi
       have hN:=congrArg List.length HE
       try simp at hN
       refine Cs (Cr ?_)
       refine V0 (Ym rfl) ?_
       refine V0 (Yf fo43_1 rfl) ?_
       refine V0 (Yd 0 rfl rfl rfl na9) ?_
       refine V0 (Yf fo43_2 rfl) ?_
       refine V0 (Yd 0 rfl rfl rfl na9) ?_
       refine Lf 2 rfl ?_
       refine Lf 2 rfl ?_
       refine Lw (ι:=Option Addr×Nat) [_,_] _ (.inl rfl) rfl en95 rfl rfl (fun _=>.tuple #[]) (fun r=>penL pb r (l++TW (refW x.mod x.nm))) (fun _=>True) [G,H] (by simp) (fun w hw=>(ref_any pb G H r (l) x.mod x.nm w hz hrf (by first | omega | (simp only [List.length_append,TW_len,List.length_cons,List.length_nil]; omega)) hw).mono fun e w' ⟨r2,h1,h2⟩=>⟨r2,h1,trivial,h2⟩) ?_
       intro r79 _
       refine Ln (Et (Cs (Cr ?_)))
       refine V0 (Ym rfl) ?_
       refine Lb (.inl rfl) rfl el22 rfl rfl rfl rfl fun b81=>?_
       refine Lsv (T:=9) (m:=1) 0 [[61]] rfl rfl (show 1≤1 by decide) (by decide) fun H81 hH81=>?_
       refine Lf 1 rfl ?_
       refine Lf 1 rfl ?_
       refine Lw (ι:=Option Addr×Nat) [_,_] _ (.inl rfl) rfl en42 rfl rfl (fun _=>.tuple #[]) (fun r=>penL pb r (l++TW (refW x.mod x.nm)++TW ([[61]]))) (fun _=>True) [G,H81] (by simp) (fun w hw=>(put_any pb G H81 r79 (l++TW (refW x.mod x.nm)) _ _ [[61]] w hz hH81 (by first | omega | (simp only [List.length_append,TW_len,List.length_cons,List.length_nil]; omega)) (List.forall_mem_cons.2 ⟨(by decide:List.length ([61]:Tx)≤4096),(List.forall_mem_nil _)⟩) hw).mono fun e w' ⟨r2,h1,h2⟩=>⟨r2,h1,trivial,h2⟩) ?_
       intro r82 _
       refine Ln (Et (Cr ?_))
       refine V0 (Ym rfl) ?_
       refine V0 (Yf fo43_3 rfl) ?_
       refine V0 (Yd 2 rfl rfl rfl na41) ?_
       refine V0 (Yo (i:=0) es41 rfl rfl hay (by omega)) ?_
       refine V0 (yl_lda 2 ag81 rfl rfl rfl (hrowy)) ?_
       refine Lf 1 rfl ?_
       refine Lf 1 rfl ?_
       refine Lw (ι:=Option Addr×Nat) [_,_] _ (.inl rfl) rfl en94 rfl rfl (fun _=>.tuple #[]) (fun r=>penL pb r (l++TW (refW x.mod x.nm)++TW ([[61]])++TW (exprW y))) (fun _=>True) [G,H] (by simp) (fun w hw=>(hX k2 pb r82 (l++TW (refW x.mod x.nm)++TW ([[61]])) y ya yn 1 w hsuby hcy (by first | omega | (simp only [List.length_append,TW_len,List.length_cons,List.length_nil]; omega)) hw).mono fun e w' ⟨r2,h1,h2⟩=>⟨r2,h1,trivial,h2⟩) ?_
       intro r88 _
       refine Ln (Eb (Et (Cr ?_)))
       refine V0 (Ym rfl) ?_
       refine Lb (.inl rfl) rfl el22 rfl rfl rfl rfl fun b116=>?_
       refine Lsv (T:=9) (m:=1) 0 [[59]] rfl rfl (show 1≤1 by decide) (by decide) fun H116 hH116=>?_
       refine Lf 1 rfl ?_
       refine Lf 1 rfl ?_
       refine Lw (ι:=Option Addr×Nat) [_,_] _ (.inl rfl) rfl en42 rfl rfl (fun _=>.tuple #[]) (fun r=>penL pb r (l++TW (refW x.mod x.nm)++TW ([[61]])++TW (exprW y)++TW ([[59]]))) (fun _=>True) [G,H116] (by simp) (fun w hw=>(put_any pb G H116 r88 (l++TW (refW x.mod x.nm)++TW ([[61]])++TW (exprW y)) _ _ [[59]] w hz hH116 (by first | omega | (simp only [List.length_append,TW_len,List.length_cons,List.length_nil]; omega)) (List.forall_mem_cons.2 ⟨(by decide:List.length ([59]:Tx)≤4096),(List.forall_mem_nil _)⟩) hw).mono fun e w' ⟨r2,h1,h2⟩=>⟨r2,h1,trivial,h2⟩) ?_
       intro r117 _
       refine Ln ?_
       refine WE.end0 rfl fun w' hw=>?_
       rw [show l++TW (refW x.mod x.nm)++TW ([[61]])++TW (exprW y)++TW ([[59]])=l++TW (stmtW x) by rw [HE]; try simp [TW,w_if,w_else,w_while,w_return,w_out]] at hw
       exact ⟨r117,rfl,Ws.drops (Ws.keep (L:=[_,_]) hw) (fun _ hm=>List.mem_append_right [_,_] hm)⟩
      ·
       have h1:¬x.op=1:=by simpa using hc7
       refine Cs (Cr ?_)
       refine V0 (yl_eq rfl rfl) ?_
       refine V0 (Ya rfl) ?_
       refine Ln (Et ?_)
       refine Cc rfl (fun hc8=>?_) (fun hc8=>?_)
       ·
        have hk:x.op=2:=by simpa using hc8
        have hrf:=okS_ref ho (by omega)
        have hlen:=okS_two ho (by omega)
        obtain ⟨y,hyi⟩:∃y,x.args[0]? = some y:=get0 hlen (by decide)
        obtain ⟨z,hzi⟩:∃y,x.args[1]? = some y:=get0 hlen (by decide)
        obtain ⟨pby,poy,hay,hry⟩:=hs1.elt 0 y hyi
        obtain ⟨pbz,poz,haz,hrz⟩:=hs1.elt 1 z hzi
        obtain ⟨k2,rfl⟩:∃k2,ke=k2+1:=by
          cases ke with
          | zero=>exact hry.elim
          | succ k2=>exact ⟨k2,rfl⟩
        obtain ⟨ya,yn,hrowy,hsuby⟩:=hry
        obtain ⟨za,zn,hrowz,hsubz⟩:=hrz
        have hcy:=cntEs_get ho.exprs hyi
        have hcz:=cntEs_get ho.exprs hzi
        have HE:=HS2 hk hyi hzi
        have hN:=congrArg List.length HE
        try simp at hN
        refine Cs (Cr ?_)
        refine V0 (Ym rfl) ?_
        refine V0 (Yf fo43_1 rfl) ?_
        refine V0 (Yd 0 rfl rfl rfl na9) ?_
        refine V0 (Yf fo43_2 rfl) ?_
        refine V0 (Yd 0 rfl rfl rfl na9) ?_
        refine Lf 2 rfl ?_
        refine Lf 2 rfl ?_
        refine Lw (ι:=Option Addr×Nat) [_,_] _ (.inl rfl) rfl en95 rfl rfl (fun _=>.tuple #[]) (fun r=>penL pb r (l++TW (refW x.mod x.nm))) (fun _=>True) [G,H] (by simp) (fun w hw=>(ref_any pb G H r (l) x.mod x.nm w hz hrf (by first | omega | (simp only [List.length_append,TW_len,List.length_cons,List.length_nil]; omega)) hw).mono fun e w' ⟨r2,h1,h2⟩=>⟨r2,h1,trivial,h2⟩) ?_
        intro r96 _
        refine Ln (Et (Cs (Cr ?_)))
        refine V0 (Ym rfl) ?_
        refine Lb (.inl rfl) rfl el22 rfl rfl rfl rfl fun b98=>?_
        refine Lsv (T:=9) (m:=1) 0 [[91]] rfl rfl (show 1≤1 by decide) (by decide) fun H98 hH98=>?_
        refine Lf 1 rfl ?_
        refine Lf 1 rfl ?_
        refine Lw (ι:=Option Addr×Nat) [_,_] _ (.inl rfl) rfl en42 rfl rfl (fun _=>.tuple #[]) (fun r=>penL pb r (l++TW (refW x.mod x.nm)++TW ([[91]]))) (fun _=>True) [G,H98] (by simp) (fun w hw=>(put_any pb G H98 r96 (l++TW (refW x.mod x.nm)) _ _ [[91]] w hz hH98 (by first | omega | (simp only [List.length_append,TW_len,List.length_cons,List.length_nil]; omega)) (List.forall_mem_cons.2 ⟨(by decide:List.length ([91]:Tx)≤4096),(List.forall_mem_nil _)⟩) hw).mono fun e w' ⟨r2,h1,h2⟩=>⟨r2,h1,trivial,h2⟩) ?_
        intro r99 _
        refine Ln (Et (Cs (Cr ?_)))
        refine V0 (Ym rfl) ?_
        refine V0 (Yf fo43_3 rfl) ?_
        refine V0 (Yd 2 rfl rfl rfl na41) ?_
        refine V0 (Yo (i:=0) es41 rfl rfl hay (by omega)) ?_
        refine V0 (yl_lda 2 ag81 rfl rfl rfl (hrowy)) ?_
        refine Lf 1 rfl ?_
        refine Lf 1 rfl ?_
        refine Lw (ι:=Option Addr×Nat) [_,_] _ (.inl rfl) rfl en94 rfl rfl (fun _=>.tuple #[]) (fun r=>penL pb r (l++TW (refW x.mod x.nm)++TW ([[91]])++TW (exprW y))) (fun _=>True) [G,H] (by simp) (fun w hw=>(hX k2 pb r99 (l++TW (refW x.mod x.nm)++TW ([[91]])) y ya yn 1 w hsuby hcy (by first | omega | (simp only [List.length_append,TW_len,List.length_cons,List.length_nil]; omega)) hw).mono fun e w' ⟨r2,h1,h2⟩=>⟨r2,h1,trivial,h2⟩) ?_
        intro r105 _
        refine Ln (Et (Cs (Cr ?_)))
        refine V0 (Ym rfl) ?_
        refine Lb (.inl rfl) rfl el22 rfl rfl rfl rfl fun b107=>?_
        refine Lsv (T:=9) (m:=2) 0 [[93],[61]] rfl rfl (show 2≤2 by decide) (by decide) fun H107 hH107=>?_
        refine Lf 1 rfl ?_
        refine Lf 1 rfl ?_
        refine Lw (ι:=Option Addr×Nat) [_,_] _ (.inl rfl) rfl en42 rfl rfl (fun _=>.tuple #[]) (fun r=>penL pb r (l++TW (refW x.mod x.nm)++TW ([[91]])++TW (exprW y)++TW ([[93],[61]]))) (fun _=>True) [G,H107] (by simp) (fun w hw=>(put_any pb G H107 r105 (l++TW (refW x.mod x.nm)++TW ([[91]])++TW (exprW y)) _ _ [[93],[61]] w hz hH107 (by first | omega | (simp only [List.length_append,TW_len,List.length_cons,List.length_nil]; omega)) (List.forall_mem_cons.2 ⟨(by decide:List.length ([93]:Tx)≤4096),(List.forall_mem_cons.2 ⟨(by decide:List.length ([61]:Tx)≤4096),(List.forall_mem_nil _)⟩)⟩) hw).mono fun e w' ⟨r2,h1,h2⟩=>⟨r2,h1,trivial,h2⟩) ?_
        intro r108 _
        refine Ln (Et (Cr ?_))
        refine V0 (Ym rfl) ?_
        refine V0 (Yf fo43_3 rfl) ?_
        refine V0 (Yd 2 rfl rfl rfl na41) ?_
        refine V0 (Yo (i:=1) es41 rfl rfl haz (by omega)) ?_
        refine V0 (yl_lda 3 ag81 rfl rfl rfl (hrowz)) ?_
        refine Lf 1 rfl ?_
        refine Lf 1 rfl ?_
        refine Lw (ι:=Option Addr×Nat) [_,_] _ (.inl rfl) rfl en94 rfl rfl (fun _=>.tuple #[]) (fun r=>penL pb r (l++TW (refW x.mod x.nm)++TW ([[91]])++TW (exprW y)++TW ([[93],[61]])++TW (exprW z))) (fun _=>True) [G,H] (by simp) (fun w hw=>(hX k2 pb r108 (l++TW (refW x.mod x.nm)++TW ([[91]])++TW (exprW y)++TW ([[93],[61]])) z za zn 1 w hsubz hcz (by first | omega | (simp only [List.length_append,TW_len,List.length_cons,List.length_nil]; omega)) hw).mono fun e w' ⟨r2,h1,h2⟩=>⟨r2,h1,trivial,h2⟩) ?_
        intro r114 _
        refine Ln (Eb (Et (Cr ?_)))
        refine V0 (Ym rfl) ?_
        refine Lb (.inl rfl) rfl el22 rfl rfl rfl rfl fun b116=>?_
        refine Lsv (T:=9) (m:=1) 0 [[59]] rfl rfl (show 1≤1 by decide) (by decide) fun H116 hH116=>?_
        refine Lf 1 rfl ?_
        refine Lf 1 rfl ?_
        refine Lw (ι:=Option Addr×Nat) [_,_] _ (.inl rfl) rfl en42 rfl rfl (fun _=>.tuple #[]) (fun r=>penL pb r (l++TW (refW x.mod x.nm)++TW ([[91]])++TW (exprW y)++TW ([[93],[61]])++TW (exprW z)++TW ([[59]]))) (fun _=>True) [G,H116] (by simp) (fun w hw=>(put_any pb G H116 r114 (l++TW (refW x.mod x.nm)++TW ([[91]])++TW (exprW y)++TW ([[93],[61]])++TW (exprW z)) _ _ [[59]] w hz hH116 (by first | omega | (simp only [List.length_append,TW_len,List.length_cons,List.length_nil]; omega)) (List.forall_mem_cons.2 ⟨(by decide:List.length ([59]:Tx)≤4096),(List.forall_mem_nil _)⟩) hw).mono fun e w' ⟨r2,h1,h2⟩=>⟨r2,h1,trivial,h2⟩) ?_
        intro r117 _
        refine Ln ?_
        refine WE.end0 rfl fun w' hw=>?_
        rw [show l++TW (refW x.mod x.nm)++TW ([[91]])++TW (exprW y)++TW ([[93],[61]])++TW (exprW z)++TW ([[59]])=l++TW (stmtW x) by rw [HE]; try simp [TW,w_if,w_else,w_while,w_return,w_out]] at hw
        exact ⟨r117,rfl,Ws.drops (Ws.keep (L:=[_,_]) hw) (fun _ hm=>List.mem_append_right [_,_,_] hm)⟩
       ·
        exact (show False by simp at hc8; omega).elim
theorem penBlock_any (G H:View) (hz:Laid G) (hX:∀k,PenE G H k) (ke k:Nat) (pb:Nat) (r:Option Addr×Nat) (l:List Tok) (b:List TStmt) (a:Option Addr) (n d:Nat) (w:World) (hm:Sl (RdS ke k) 6 H a n b) (hcx:(cntB b d).tot=0) (hl:l.length+(blockW b).length≤1099511627776) (hw:Ws w (List.flatMap Asr.ids (penL pb r l)) (penL pb r l) [G,H] w) :
   Calls Tryz.prog 44 #[.pointer (some ⟨pb,0,none⟩),.slice a b.length n] w fun e w'=>∃r2:Option Addr×Nat,e = .returned (.tuple #[])∧Ws w (List.flatMap Asr.ids (penL pb r l)) (penL pb r2 (l++TW (blockW b))) [G,H] w':=by
 induction k using Nat.strongRecOn generalizing pb r l b a n d w
 rename_i k ih
 have hcap:=hm.cap
 have hmax:=hm.max
 have hc3:(cntSs b d).tot=0:=(blkC0 hcx).2.2
 have HE:=blockW_eq b
 have hN:=congrArg List.length HE
 try simp at hN
 refine enter Tryz.func44 rfl 22 rfl rfl ?_
 refine CWd (W':=Ws w (List.flatMap Asr.ids (penL pb r l)) (penL pb r l) [G,H]) (fun _ e=>by subst e; exact hw) ?_
 refine Cs (Cr ?_)
 refine V0 (Ym rfl) ?_
 refine Lb (.inl rfl) rfl el22 rfl rfl rfl rfl fun b7=>?_
 refine Lsv (T:=9) (m:=1) 0 [[123]] rfl rfl (show 1≤1 by decide) (by decide) fun H7 hH7=>?_
 refine Lf 1 rfl ?_
 refine Lf 1 rfl ?_
 refine Lw (ι:=Option Addr×Nat) [_,_] _ (.inl rfl) rfl en42 rfl rfl (fun _=>.tuple #[]) (fun r=>penL pb r (l++TW ([[123]]))) (fun _=>True) [G,H7] (by simp) (fun w hw=>(put_any pb G H7 r (l) _ _ [[123]] w hz hH7 (by first | omega | (simp only [List.length_append,TW_len,List.length_cons,List.length_nil]; omega)) (List.forall_mem_cons.2 ⟨(by decide:List.length ([123]:Tx)≤4096),(List.forall_mem_nil _)⟩) hw).mono fun e w' ⟨r2,h1,h2⟩=>⟨r2,h1,trivial,h2⟩) ?_
 intro r8 _
 refine Ln (Et (Cs (Cs (Cr ?_))))
 refine V0 (Ym rfl) ?_
 refine V0 (Yn es25 rfl) ?_
 refine V0 (Ym rfl) ?_
 refine Ln (Et (Cb ?_))
 refine CK (ι:=Nat×(Option Addr×Nat)) (fun g=>[(11,.int .i64 (g.1:Int))]) [(0,_),(9,_),(10,_)] (fun g=>Ws w (List.flatMap Asr.ids (penL pb r l)) (penL pb g.2 (l++TW ([[123]])++TW (stmtWs (b.take g.1)))) [G,H]) (fun g=>g.1≤b.length) (fun g=>b.length-g.1) (0,r8) (Nat.zero_le _) (sc rfl (sc rfl (sc rfl (sc rfl sn)))) (fun _ h=>by have h:=h.fronti 1 rfl; have h:=h.fronti 1 rfl; have h:=Ws.drops h (Vs':=[G,H]) (by simp); show Ws w _ (penL pb r8 (l++TW ([[123]])++TW (stmtWs (b.take 0)))) [G,H] _; rw [show TW (stmtWs (b.take 0))=[] from rfl,List.append_nil]; exact h) ?_
 intro g hig
 refine Cs (Cr ?_)
 refine V0 (yl_lt rfl rfl) ?_
 refine Ln (Et (Cs ?_))
 refine Cc rfl (fun hc0=>?_) (fun hc0=>?_)
 ·
  have hlt:g.1<b.length:=by simpa using hc0
  have hlt:g.1<b.length:=by simpa using hc0
  obtain ⟨y,hyi⟩:∃q,b[g.1]? = some q:=⟨_,List.getElem?_eq_getElem hlt⟩
  obtain ⟨pby,poy,hay,hry⟩:=hm.elt g.1 y hyi
  obtain ⟨k2,rfl⟩:∃k2,k=k2+1:=by
    cases k with
    | zero=>exact hry.elim
    | succ k2=>exact ⟨k2,rfl⟩
  obtain ⟨ya,yn,y2,m2,y3,m3,hrow,hs1,hs2,hs3⟩:=hry
  have hcy:=cntSs_get hc3 hyi
  have hpt:=stmt_part hyi
  have hB:PenB G H ke k2:=fun pb r l x a n d w h1 h2 h3 h4=>ih k2 (by omega) pb r l x a n d w h1 h2 h3 h4
  refine Ck (Et (Cs (Cb (Cs (Cr ?_)))))
  refine V0 (Yo es25 rfl rfl hay (by omega)) ?_
  refine V0 (yl_lda 1 ag43 rfl rfl rfl (hrow)) ?_
  refine WL.alloc (.inl rfl) rfl zr43 fun b5=>?_
  refine Lst 0 (.inl rfl) rfl rfl rfl sz43 rfl rfl rfl ?_
  refine Ln (Et (Cr ?_))
  refine V0 (Ym rfl) ?_
  refine V0 (Yda 0 rfl rfl ag43 rfl) ?_
  refine Lf 2 rfl ?_
  refine Lf 2 rfl ?_
  refine Lw (ι:=Option Addr×Nat) [_,_] _ (.inl rfl) rfl en72 rfl rfl (fun _=>.tuple #[]) (fun r=>penL pb r (l++TW ([[123]])++TW (stmtWs (b.take g.1))++TW (stmtW y))) (fun _=>True) [G,H] (by simp) (fun w hw=>(penStmt_any pb G H g.2 (l++TW ([[123]])++TW (stmtWs (b.take g.1))) ke k2 hX hB y ya yn y2 m2 y3 m3 d w hz hs1 hs2 hs3 hcy (by first | omega | (simp only [List.length_append,TW_len,List.length_cons,List.length_nil]; omega)) hw).mono fun e w' ⟨r2,h1,h2⟩=>⟨r2,h1,trivial,h2⟩) ?_
  intro r17 _
  refine Ln (Eb (Et (Cr ?_)))
  refine V0 (Yi rfl rfl rfl (by omega)) ?_
  refine V0 (Ym rfl) ?_
  refine Ln ?_
  rw [show l++TW ([[123]])++TW (stmtWs (b.take g.1))++TW (stmtW y)=l++TW ([[123]])++TW (stmtWs (b.take (g.1+1))) by rw [stmtWs_take hyi]; simp [TW]]
  exact Ea ((g.1+1,r17):Nat×(Option Addr×Nat)) (by show b.length-(g.1+1)<b.length-g.1; omega) (by show g.1+1≤b.length; omega) (sc rfl (sc rfl (sc rfl (sc rfl sn)))) (fun _ h=>by have h:=h.fronti 1 rfl; have h:=h.fronti 1 rfl; have h:=Ws.keep (L:=[_,_]) h; exact h)
 ·
  have hge:¬g.1<b.length:=by simpa using hc0
  have hle:=stmtWs_le b g.1
  refine Ce (Ex (Ex (Ebh (Et (Cr ?_)))))
  refine V0 (Ym rfl) ?_
  refine Lb (.inl rfl) rfl el22 rfl rfl rfl rfl fun b20=>?_
  refine Lsv (T:=9) (m:=1) 0 [[125]] rfl rfl (show 1≤1 by decide) (by decide) fun H20 hH20=>?_
  refine Lf 1 rfl ?_
  refine Lf 1 rfl ?_
  refine Lw (ι:=Option Addr×Nat) [_,_] _ (.inl rfl) rfl en42 rfl rfl (fun _=>.tuple #[]) (fun r=>penL pb r (l++TW ([[123]])++TW (stmtWs (b.take g.1))++TW ([[125]]))) (fun _=>True) [G,H20] (by simp) (fun w hw=>(put_any pb G H20 g.2 (l++TW ([[123]])++TW (stmtWs (b.take g.1))) _ _ [[125]] w hz hH20 (by first | omega | (simp only [List.length_append,TW_len,List.length_cons,List.length_nil]; omega)) (List.forall_mem_cons.2 ⟨(by decide:List.length ([125]:Tx)≤4096),(List.forall_mem_nil _)⟩) hw).mono fun e w' ⟨r2,h1,h2⟩=>⟨r2,h1,trivial,h2⟩) ?_
  intro r21 _
  refine Ln ?_
  refine WE.end0 rfl fun w' hw=>?_
  rw [show l++TW ([[123]])++TW (stmtWs (b.take g.1))++TW ([[125]])=l++TW (blockW b) by rw [List.take_of_length_le (by omega),HE]; simp [TW]] at hw
  exact ⟨r21,rfl,(Ws.drops hw (fun _ hm=>List.mem_append_right [_] hm))⟩
theorem penPub_any (pb:Nat) (G H:View) (r:Option Addr×Nat) (l:List Tok) (b:Bool) (w:World) (hz:Laid G) (hl:l.length+1≤1099511627776) (hw:Ws w (List.flatMap Asr.ids (penL pb r l)) (penL pb r l) [G,H] w) :
   Calls Tryz.prog 43 #[.pointer (some ⟨pb,0,none⟩),.bool b] w fun e w'=>∃r2:Option Addr×Nat,e = .returned (.tuple #[])∧Ws w (List.flatMap Asr.ids (penL pb r l)) (penL pb r2 (l++TW (pubW b))) [G,H] w':=by
 refine enter Tryz.func43 rfl 8 rfl rfl ?_
 refine CWd (W':=Ws w (List.flatMap Asr.ids (penL pb r l)) (penL pb r l) [G,H]) (fun _ e=>by subst e; exact hw) ?_
 refine Cs (Cr ?_)
 refine V0 (Ym rfl) ?_
 refine Ln (Et ?_)
 refine Cc rfl (fun hc0=>?_) (fun hc0=>?_)
 ·
  subst hc0
  refine Cr ?_
  refine V0 (Ym rfl) ?_
  refine Lb (.inl rfl) rfl el22 rfl rfl rfl rfl fun b6=>?_
  refine Lsv (T:=9) (m:=1) 0 [[112,117,98]] rfl rfl (show 1≤1 by decide) (by decide) fun H6 hH6=>?_
  refine Lf 1 rfl ?_
  refine Lf 1 rfl ?_
  refine Lw (ι:=Option Addr×Nat) [_,_] _ (.inl rfl) rfl en42 rfl rfl (fun _=>.tuple #[]) (fun r=>penL pb r (l++TW ([[112,117,98]]))) (fun _=>True) [G,H6] (by simp) (fun w hw=>(put_any pb G H6 r (l) _ _ [[112,117,98]] w hz hH6 (by first | omega | (simp only [List.length_append,TW_len,List.length_cons,List.length_nil]; omega)) (List.forall_mem_cons.2 ⟨(by decide:List.length ([112,117,98]:Tx)≤4096),(List.forall_mem_nil _)⟩) hw).mono fun e w' ⟨r2,h1,h2⟩=>⟨r2,h1,trivial,h2⟩) ?_
  intro r7 _
  refine Ln ?_
  refine WE.end0 rfl fun w' hw=>?_
  exact ⟨r7,rfl,(Ws.drops hw (fun _ hm=>List.mem_append_right [_] hm))⟩
 ·
  subst hc0
  refine Ck ?_
  refine WE.end0 rfl fun w' hw=>?_
  have e:l++TW (pubW false)=l:=by simp [TW,pubW]
  exact ⟨r,rfl,by rw [e]; exact hw⟩
end Go.Proofs.YtjfldjidhkfnbaaGreatDoor
end
section
namespace Go.Proofs.YtjfldjidhkfnbaaGreatDoor
open Go.Bw
set_option linter.unusedVariables false
set_option linter.unusedSimpArgs false
def sg (l:List Tx):List (List Tx):=l.map fun s=>[s]
theorem sg_get {l:List Tx} {i:Nat} {x:Tx} (h:l[i]? = some x):(sg l)[i]? = some [x]:=map1_get h
theorem sg_len (l:List Tx):(sg l).length=l.length:=by simp [sg]
theorem procW_sg (p:TProc):procW p=pubW p.pub++[w_proc,p.nm,[40]]++commaW (sg p.params)++[[41]]++p.locs.flatMap locW++blockW p.body:=rfl
theorem procW_lsg (p:TProc):(procW p).length=(pubW p.pub).length+3+(commaW (sg p.params)).length+1+(p.locs.flatMap locW).length+(blockW p.body).length:=procW_len p
theorem putTok_txt {m:TMod} (h:(modC m).tot=0):joinT (TW (modW m))=J (modW m):=joinT_put (good_mod h)
theorem joinT_take_len (l:List Tok) (i:Nat) (hok:AllOk l) (hl:l.length≤1099511627776):(joinT (l.take i)).length≤15393162788864:=by
 have:=joinT_len (l.take i) fun t ht=>hok t (List.mem_of_mem_take ht)
 have h2:(l.take i).length≤l.length:=by simp; omega
 omega
theorem J_len {m:TMod} (h:checkM m=0) (hl:(modW m).length≤1099511627776):(J (modW m)).length≤15393162788864:=by
 have ht:=checkM_tot.1 h
 rw [←putTok_txt ht]
 have:=joinT_len (TW (modW m)) (TW_ok ht)
 rw [TW_len] at this
 omega
theorem fo53_2:fieldOff Tryz.prog 53 2=some 2:=by kernel_rfl
theorem en43:Enters Tryz.prog 43:=enters_of Tryz.func43 (by kernel_rfl) rfl
theorem fo56_1:fieldOff Tryz.prog 56 1=some 1:=by kernel_rfl
theorem penModule_any (pb:Nat) (G H:View) (r:Option Addr×Nat) (l:List Tok) (ke ks:Nat) (q:MAt) (m:TMod) (w:World) (hz:Laid G) (hm:RdM ke ks H q m) (ht:(modC m).tot=0) (hl:l.length+(modW m).length≤1099511627776) (hw:Ws w (List.flatMap Asr.ids (penL pb r l)) (penL pb r l) [G,H] w) :
   Calls Tryz.prog 24 #[.pointer (some ⟨pb,0,none⟩),.agg (modV m q).toArray] w fun e w'=>∃r2:Option Addr×Nat,e = .returned (.tuple #[])∧Ws w (List.flatMap Asr.ids (penL pb r l)) (penL pb r2 (l++TW (modW m))) [G,H] w':=by
 have hom:=okM ht
 have hN:=modW_len m
 have cu:=hm.uses.cap
 have xu:=hm.uses.max
 have cd:=hm.decls.cap
 have xd:=hm.decls.max
 have cp:=hm.procs.cap
 have xp:=hm.procs.max
 have hB:∀k,PenB G H ke k:=fun k pb r l x a n d w h1 h2 h3 h4=>penBlock_any G H hz (fun k pb r l x a n d w h1 h2 h3 h4=>penExpr_any G H hz k pb r l x a n d w h1 h2 h3 h4) ke k pb r l x a n d w h1 h2 h3 h4
 refine enter Tryz.func24 rfl 139 rfl rfl ?_
 refine CWd (W':=Ws w (List.flatMap Asr.ids (penL pb r l)) (penL pb r l) [G,H]) (fun _ e=>by subst e; exact hw) ?_
 refine Cs (Cr ?_)
 refine WL.box (.inl rfl) rfl rfl fun b3=>?_
 refine Ln (Et (Cs (Cr ?_)))
 refine V0 (Ym rfl) ?_
 refine V0 (Yf fo27_0 rfl) ?_
 refine V0 (Yd 0 rfl rfl rfl na9) ?_
 refine Lb (.inl rfl) rfl el22 rfl rfl rfl rfl fun b17=>?_
 refine Lsv (T:=9) (m:=3) 0 [[109,111,100,117,108,101],m.nm,[123]] rfl rfl (show 3≤3 by decide) (by decide) fun H17 hH17=>?_
 refine Lf 2 rfl ?_
 refine Lf 2 rfl ?_
 refine Lw (ι:=Option Addr×Nat) [_,_] _ (.inl rfl) rfl en42 rfl rfl (fun _=>.tuple #[]) (fun r=>penL pb r (l++TW ([[109,111,100,117,108,101],m.nm,[123]]))) (fun _=>True) [G,H17] (by simp) (fun w hw=>(put_any pb G H17 r (l) _ _ [[109,111,100,117,108,101],m.nm,[123]] w hz hH17 (by first | omega | (simp only [List.length_append,TW_len,List.length_cons,List.length_nil]; omega)) (List.forall_mem_cons.2 ⟨(by decide:List.length ([109,111,100,117,108,101]:Tx)≤4096),(List.forall_mem_cons.2 ⟨(nameT_len hom.name),(List.forall_mem_cons.2 ⟨(by decide:List.length ([123]:Tx)≤4096),(List.forall_mem_nil _)⟩)⟩)⟩) hw).mono fun e w' ⟨r2,h1,h2⟩=>⟨r2,h1,trivial,h2⟩) ?_
 intro r18 _
 refine Ln (Et (Cs (Cs (Cr ?_))))
 refine V0 (Yf fo27_1 rfl) ?_
 refine V0 (Yd 2 rfl rfl rfl na22) ?_
 refine V0 (Yn es22 rfl) ?_
 refine V0 (Ym rfl) ?_
 refine Ln (Et (Cb ?_))
 refine CK (ι:=Nat×(Option Addr×Nat)) (fun g=>[(22,.int .i64 (g.1:Int))]) [(0,_),(3,_),(20,_),(21,_)] (fun g=>Ws w (List.flatMap Asr.ids (penL pb r l)) (penL pb g.2 (l++TW ([[109,111,100,117,108,101],m.nm,[123]])++TW ((m.uses.take g.1).flatMap useW))++[blk b3 (.cells (modV m q).toArray 27 (0,0))]) [G,H]) (fun g=>g.1≤m.uses.length) (fun g=>m.uses.length-g.1) (0,r18) (Nat.zero_le _) (sc rfl (sc rfl (sc rfl (sc rfl (sc rfl sn))))) (fun _ h=>by have h:=h.fronti 2 rfl; have h:=h.fronti 2 rfl; have h:=h.fronti 2 rfl; have h:=Ws.drops h (Vs':=[G,H]) (by simp); show Ws w _ (penL pb r18 (l++TW ([[109,111,100,117,108,101],m.nm,[123]])++TW ((m.uses.take 0).flatMap useW))++[blk b3 (.cells (modV m q).toArray 27 (0,0))]) [G,H] _; rw [show TW ((m.uses.take 0).flatMap useW)=[] from rfl,List.append_nil]; exact h) ?_
 intro g hig
 refine Cs (Cr ?_)
 refine V0 (yl_lt rfl rfl) ?_
 refine Ln (Et (Cs ?_))
 refine Cc rfl (fun hc0=>?_) (fun hc0=>?_)
 ·
  have hlt:g.1<m.uses.length:=by simpa using hc0
  obtain ⟨u,hui⟩:∃x,m.uses[g.1]? = some x:=⟨_,List.getElem?_eq_getElem hlt⟩
  obtain ⟨pbu,pou,ha,hrow⟩:=hm.uses.elt g.1 u hui
  have hrow:RdC H pbu (pou+g.1*1) (strC u):=hrow
  have hu:=hom.uses u (List.mem_of_getElem? hui)
  have hpt:=flat_part (f:=useW) hui
  simp only [useW,List.length_cons,List.length_nil] at hpt
  refine Ck (Et (Cs (Cb (Cs (Cr ?_)))))
  refine V0 (Yo es22 rfl rfl ha (by omega)) ?_
  refine V0 (yl_ld 1 na9 rfl rfl (hrow 0 _ rfl)) ?_
  refine V0 (Ya rfl) ?_
  refine Ln (Et (Cr ?_))
  refine V0 (Ym rfl) ?_
  refine V0 (Ym rfl) ?_
  refine Lb (.inl rfl) rfl el22 rfl rfl rfl rfl fun b28=>?_
  refine Lsv (T:=9) (m:=3) 0 [[117,115,101],u,[59]] rfl rfl (show 3≤3 by decide) (by decide) fun H28 hH28=>?_
  refine Lf 1 rfl ?_
  refine Lf 1 rfl ?_
  refine Lw (ι:=Option Addr×Nat) [_,_] _ (.inl rfl) rfl en42 rfl rfl (fun _=>.tuple #[]) (fun r=>penL pb r (l++TW ([[109,111,100,117,108,101],m.nm,[123]])++TW ((m.uses.take g.1).flatMap useW)++TW ([[117,115,101],u,[59]]))) (fun _=>True) [G,H28] (by simp) (fun w hw=>(put_any pb G H28 g.2 (l++TW ([[109,111,100,117,108,101],m.nm,[123]])++TW ((m.uses.take g.1).flatMap useW)) _ _ [[117,115,101],u,[59]] w hz hH28 (by first | omega | (simp only [List.length_append,TW_len,List.length_cons,List.length_nil]; omega)) (List.forall_mem_cons.2 ⟨(by decide:List.length ([117,115,101]:Tx)≤4096),(List.forall_mem_cons.2 ⟨(nameT_len hu),(List.forall_mem_cons.2 ⟨(by decide:List.length ([59]:Tx)≤4096),(List.forall_mem_nil _)⟩)⟩)⟩) hw).mono fun e w' ⟨r2,h1,h2⟩=>⟨r2,h1,trivial,h2⟩) ?_
  intro r29 _
  refine Ln (Eb (Et (Cr ?_)))
  refine V0 (Yi rfl rfl rfl (by omega)) ?_
  refine V0 (Ym rfl) ?_
  refine Ln ?_
  rw [show l++TW ([[109,111,100,117,108,101],m.nm,[123]])++TW ((m.uses.take g.1).flatMap useW)++TW ([[117,115,101],u,[59]])=l++TW ([[109,111,100,117,108,101],m.nm,[123]])++TW ((m.uses.take (g.1+1)).flatMap useW) by rw [flat_snoc hui]; simp [TW,useW,locW,w_use,w_pub,w_local,w_proc,w_main,w_module]]
  exact Ea ((g.1+1,r29):Nat×(Option Addr×Nat)) (by show m.uses.length-(g.1+1)<m.uses.length-g.1; omega) (by show g.1+1≤m.uses.length; omega) (sc rfl (sc rfl (sc rfl (sc rfl (sc rfl sn))))) (fun _ h=>Ws.drops (h) (fun _ hm=>List.mem_append_right [_] hm))
 ·
  have hge:¬g.1<m.uses.length:=by simpa using hc0
  rw [List.take_of_length_le (by omega)]
  refine Ce (Ex (Ex (Ebh (Et (Cs ?_)))))
  refine Cs (Cr ?_)
  refine V0 (Yf fo27_2 rfl) ?_
  refine V0 (Yd 2 rfl rfl rfl na23) ?_
  refine V0 (Yn es23 rfl) ?_
  refine V0 (Ym rfl) ?_
  refine Ln (Et (Cb ?_))
  refine CK (ι:=Nat×(Option Addr×Nat)) (fun v=>[(34,.int .i64 (v.1:Int))]) [(0,_),(3,_),(32,_),(33,_)] (fun v=>Ws w (List.flatMap Asr.ids (penL pb r l)) (penL pb v.2 (l++TW ([[109,111,100,117,108,101],m.nm,[123]])++TW (m.uses.flatMap useW)++TW ((m.decls.take v.1).flatMap declW))++[blk b3 (.cells (modV m q).toArray 27 (0,0))]) [G,H]) (fun v=>v.1≤m.decls.length) (fun v=>m.decls.length-v.1) (0,g.2) (Nat.zero_le _) (sc rfl (sc rfl (sc rfl (sc rfl (sc rfl sn))))) (fun _ h=>by have h:=h.fronti 2 rfl; have h:=h.fronti 2 rfl; have h:=h.fronti 2 rfl; show Ws w _ (penL pb g.2 (l++TW ([[109,111,100,117,108,101],m.nm,[123]])++TW (m.uses.flatMap useW)++TW ((m.decls.take 0).flatMap declW))++[blk b3 (.cells (modV m q).toArray 27 (0,0))]) [G,H] _; rw [show TW ((m.decls.take 0).flatMap declW)=[] from rfl,List.append_nil]; exact h) ?_
  intro v hiv
  refine Cs (Cr ?_)
  refine V0 (yl_lt rfl rfl) ?_
  refine Ln (Et (Cs ?_))
  refine Cc rfl (fun hc1=>?_) (fun hc1=>?_)
  ·
   have hlt:v.1<m.decls.length:=by simpa using hc1
   have hlt:v.1<m.decls.length:=by simpa using hc1
   obtain ⟨d,hdi⟩:∃q,m.decls[v.1]? = some q:=⟨_,List.getElem?_eq_getElem hlt⟩
   obtain ⟨pbd,pod,had,hrd⟩:=hm.decls.elt v.1 d hdi
   have hrd:RdC H pbd (pod+v.1*4) d.cells:=hrd
   have hd:=okD (hom.decls d (List.mem_of_getElem? hdi))
   have hpt:=flat_part (f:=declW) hdi
   have hpl:(pubW d.pub).length≤1:=by cases d.pub<;>decide
   have hdl:(pubW d.pub).length+1≤(declW d).length:=by unfold declW; simp only [List.length_append,List.length_cons,List.length_nil]; omega
   refine Ck (Et (Cs (Cb (Cs (Cr ?_)))))
   refine V0 (Yo es23 rfl rfl had (by omega)) ?_
   refine V0 (yl_lda 1 ag53 rfl rfl rfl (hrd)) ?_
   refine WL.alloc (.inl rfl) rfl zr53 fun b7=>?_
   refine Lst 0 (.inl rfl) rfl rfl rfl sz53 rfl rfl rfl ?_
   refine Ln (Et (Cs (Cr ?_)))
   refine V0 (Ym rfl) ?_
   refine V0 (Yf fo53_2 rfl) ?_
   refine V0 (Yd 0 rfl rfl rfl na4) ?_
   refine Lf 2 rfl ?_
   refine Lf 2 rfl ?_
   refine Lw (ι:=Option Addr×Nat) [_,_] _ (.inl rfl) rfl en43 rfl rfl (fun _=>.tuple #[]) (fun r=>penL pb r (l++TW ([[109,111,100,117,108,101],m.nm,[123]])++TW (m.uses.flatMap useW)++TW ((m.decls.take v.1).flatMap declW)++TW (pubW d.pub))) (fun _=>True) [G,H] (by simp) (fun w hw=>(penPub_any pb G H v.2 (l++TW ([[109,111,100,117,108,101],m.nm,[123]])++TW (m.uses.flatMap useW)++TW ((m.decls.take v.1).flatMap declW)) d.pub w hz (by first | omega | (simp only [List.length_append,TW_len,List.length_cons,List.length_nil]; omega)) hw).mono fun e w' ⟨r2,h1,h2⟩=>⟨r2,h1,trivial,h2⟩) ?_
   intro r41 _
   refine Ln (Et (Cs (Cs (Cr ?_))))
   refine V0 (Yf fo53_0 rfl) ?_
   refine V0 (Yd 2 rfl rfl rfl na3) ?_
   refine Ln (Et (Cb (Cs (Cr ?_))))
   refine V0 (yl_eq rfl rfl) ?_
   refine V0 (Ya rfl) ?_
   refine Ln (Et ?_)
   refine Cc rfl (fun hc2=>?_) (fun hc2=>?_)
   ·
    have hk:d.kind=1:=by simpa using hc2
    have hdn:=hd.n1 hk
    have HD:=HD1 hk
    have hDl:=congrArg List.length HD
    simp at hDl
    refine WC.drawsK (fun _=>true) [0,0] [(0,true),(1,true),(2,true),(3,true),(4,true),(5,false),(6,false),(7,false)] mixed (by kernel_rfl) (by kernel_rfl) (fun _ _ _ d _ _ h=>by cases d<;>exact h) ?_
    refine Dq rfl (.inl rfl) rfl (fun _ h=>by have h:=Ws.out 0 h; have h:=Ws.out 0 h; exact h) (Ym rfl) ?_
    refine Dq rfl (.inl rfl) rfl (fun _ h=>by have h:=Ws.out 0 h; have h:=Ws.out 0 h; exact h) (Yf fo53_1 rfl) ?_
    refine Dq rfl (.inl rfl) rfl (fun _ h=>by have h:=Ws.out 0 h; have h:=Ws.out 0 h; exact h) (Yd 0 rfl rfl rfl na9) ?_
    refine Dq rfl (.inl rfl) rfl (fun _ h=>by have h:=Ws.out 0 h; have h:=Ws.out 0 h; exact h) (Yf fo53_3 rfl) ?_
    refine Dq rfl (.inl rfl) rfl (fun _ h=>by have h:=Ws.out 0 h; have h:=Ws.out 0 h; exact h) (Yd 0 rfl rfl rfl na3) ?_
    refine De rfl (fun _ h=>by have h:=Ws.out 0 h; have h:=Ws.out 0 h; exact h) ?_
    refine Lp (.inl rfl) rfl en25 rfl (fun w hw=>itoa_any G d.n (by omega) (by omega) w (hw.vs _ (by simp)) hz) ?_
    refine Ln (Ed ?_)
    refine De rfl (fun _ h=>by have h:=Ws.out 0 h; have h:=Ws.out 0 h; exact h) ?_
    refine Lb (.inl rfl) rfl el22 rfl rfl rfl rfl fun b52=>?_
    refine Lsv (T:=9) (m:=4) 0 [[99,111,110,115,116],d.nm,[61],Lib.itoa d.n] rfl rfl (show 4≤4 by decide) (by decide) fun H52 hH52=>?_
    refine Ln (Ed ?_)
    refine De rfl (fun _ h=>by have h:=Ws.out 0 h; have h:=Ws.out 0 h; have h:=Ws.drops h (fun _ hm=>List.mem_append_right [_] hm); exact h) ?_
    refine Lf 1 rfl ?_
    refine Lf 1 rfl ?_
    refine Lw (ι:=Option Addr×Nat) [_,_] _ (.inl rfl) rfl en42 rfl rfl (fun _=>.tuple #[]) (fun r=>penL pb r (l++TW ([[109,111,100,117,108,101],m.nm,[123]])++TW (m.uses.flatMap useW)++TW ((m.decls.take v.1).flatMap declW)++TW (pubW d.pub)++TW ([[99,111,110,115,116],d.nm,[61],Lib.itoa d.n]))) (fun _=>True) [G,H52] (by simp) (fun w hw=>(put_any pb G H52 r41 (l++TW ([[109,111,100,117,108,101],m.nm,[123]])++TW (m.uses.flatMap useW)++TW ((m.decls.take v.1).flatMap declW)++TW (pubW d.pub)) _ _ [[99,111,110,115,116],d.nm,[61],Lib.itoa d.n] w hz hH52 (by first | omega | (simp only [List.length_append,TW_len,List.length_cons,List.length_nil]; omega)) (List.forall_mem_cons.2 ⟨(by decide:List.length ([99,111,110,115,116]:Tx)≤4096),(List.forall_mem_cons.2 ⟨(nameT_len hd.name),(List.forall_mem_cons.2 ⟨(by decide:List.length ([61]:Tx)≤4096),(List.forall_mem_cons.2 ⟨(itoa_len hdn.1 hdn.2),(List.forall_mem_nil _)⟩)⟩)⟩)⟩) hw).mono fun e w' ⟨r2,h1,h2⟩=>⟨r2,h1,trivial,h2⟩) ?_
    intro r53 _
    refine Ln (Ed ?_)
    refine WD.nil (fun _ h=>by have h:=Ws.out 0 h; have h:=Ws.out 0 h; have h:=Ws.drops h (fun _ hm=>List.mem_append_right [_] hm); exact h) ?_
    refine Eb (Et (Cr ?_))
    refine V0 (Ym rfl) ?_
    refine Lb (.inl rfl) rfl el22 rfl rfl rfl rfl fun b72=>?_
    refine Lsv (T:=9) (m:=1) 0 [[59]] rfl rfl (show 1≤1 by decide) (by decide) fun H72 hH72=>?_
    refine Lf 1 rfl ?_
    refine Lf 1 rfl ?_
    refine Lw (ι:=Option Addr×Nat) [_,_] _ (.inl rfl) rfl en42 rfl rfl (fun _=>.tuple #[]) (fun r=>penL pb r (l++TW ([[109,111,100,117,108,101],m.nm,[123]])++TW (m.uses.flatMap useW)++TW ((m.decls.take v.1).flatMap declW)++TW (pubW d.pub)++TW ([[99,111,110,115,116],d.nm,[61],Lib.itoa d.n])++TW ([[59]]))) (fun _=>True) [G,H72] (by simp) (fun w hw=>(put_any pb G H72 r53 (l++TW ([[109,111,100,117,108,101],m.nm,[123]])++TW (m.uses.flatMap useW)++TW ((m.decls.take v.1).flatMap declW)++TW (pubW d.pub)++TW ([[99,111,110,115,116],d.nm,[61],Lib.itoa d.n])) _ _ [[59]] w hz hH72 (by first | omega | (simp only [List.length_append,TW_len,List.length_cons,List.length_nil]; omega)) (List.forall_mem_cons.2 ⟨(by decide:List.length ([59]:Tx)≤4096),(List.forall_mem_nil _)⟩) hw).mono fun e w' ⟨r2,h1,h2⟩=>⟨r2,h1,trivial,h2⟩) ?_
    intro r73 _
    refine Ln (Eb (Et (Cr ?_)))
    refine V0 (Yi rfl rfl rfl (by omega)) ?_
    refine V0 (Ym rfl) ?_
    refine Ln ?_
    rw [show l++TW ([[109,111,100,117,108,101],m.nm,[123]])++TW (m.uses.flatMap useW)++TW ((m.decls.take v.1).flatMap declW)++TW (pubW d.pub)++TW ([[99,111,110,115,116],d.nm,[61],Lib.itoa d.n])++TW ([[59]])=l++TW ([[109,111,100,117,108,101],m.nm,[123]])++TW (m.uses.flatMap useW)++TW ((m.decls.take (v.1+1)).flatMap declW) by rw [flat_snoc hdi,HD]; simp [TW,useW,locW,w_use,w_pub,w_local,w_proc,w_main,w_module]]
    exact Ea ((v.1+1,r73):Nat×(Option Addr×Nat)) (by show m.decls.length-(v.1+1)<m.decls.length-v.1; omega) (by show v.1+1≤m.decls.length; omega) (sc rfl (sc rfl (sc rfl (sc rfl (sc rfl sn))))) (fun _ h=>by have h:=h.fronti 3 rfl; have h:=h.fronti 2 rfl; have h:=h.fronti 2 rfl; have h:=Ws.keep (L:=[_,_,_]) h; have h:=Ws.drops h (fun _ hm=>List.mem_append_right [_,_] hm); exact h)
   ·
    have h1:¬d.kind=1:=by simpa using hc2
    refine Cs (Cr ?_)
    refine V0 (yl_eq rfl rfl) ?_
    refine V0 (Ya rfl) ?_
    refine Ln (Et ?_)
    refine Cc rfl (fun hc3=>?_) (fun hc3=>?_)
    ·
     have hk:d.kind=2:=by simpa using hc3
     have HD:=HD2 hk
     have hDl:=congrArg List.length HD
     simp at hDl
     refine Cr ?_
     refine V0 (Ym rfl) ?_
     refine V0 (Yf fo53_1 rfl) ?_
     refine V0 (Yd 2 rfl rfl rfl na9) ?_
     refine Lb (.inl rfl) rfl el22 rfl rfl rfl rfl fun b59=>?_
     refine Lsv (T:=9) (m:=2) 0 [[118,97,114],d.nm] rfl rfl (show 2≤2 by decide) (by decide) fun H59 hH59=>?_
     refine Lf 1 rfl ?_
     refine Lf 1 rfl ?_
     refine Lw (ι:=Option Addr×Nat) [_,_] _ (.inl rfl) rfl en42 rfl rfl (fun _=>.tuple #[]) (fun r=>penL pb r (l++TW ([[109,111,100,117,108,101],m.nm,[123]])++TW (m.uses.flatMap useW)++TW ((m.decls.take v.1).flatMap declW)++TW (pubW d.pub)++TW ([[118,97,114],d.nm]))) (fun _=>True) [G,H59] (by simp) (fun w hw=>(put_any pb G H59 r41 (l++TW ([[109,111,100,117,108,101],m.nm,[123]])++TW (m.uses.flatMap useW)++TW ((m.decls.take v.1).flatMap declW)++TW (pubW d.pub)) _ _ [[118,97,114],d.nm] w hz hH59 (by first | omega | (simp only [List.length_append,TW_len,List.length_cons,List.length_nil]; omega)) (List.forall_mem_cons.2 ⟨(by decide:List.length ([118,97,114]:Tx)≤4096),(List.forall_mem_cons.2 ⟨(nameT_len hd.name),(List.forall_mem_nil _)⟩)⟩) hw).mono fun e w' ⟨r2,h1,h2⟩=>⟨r2,h1,trivial,h2⟩) ?_
     intro r60 _
     refine Ln (Eb (Et (Cr ?_)))
     refine V0 (Ym rfl) ?_
     refine Lb (.inl rfl) rfl el22 rfl rfl rfl rfl fun b72=>?_
     refine Lsv (T:=9) (m:=1) 0 [[59]] rfl rfl (show 1≤1 by decide) (by decide) fun H72 hH72=>?_
     refine Lf 1 rfl ?_
     refine Lf 1 rfl ?_
     refine Lw (ι:=Option Addr×Nat) [_,_] _ (.inl rfl) rfl en42 rfl rfl (fun _=>.tuple #[]) (fun r=>penL pb r (l++TW ([[109,111,100,117,108,101],m.nm,[123]])++TW (m.uses.flatMap useW)++TW ((m.decls.take v.1).flatMap declW)++TW (pubW d.pub)++TW ([[118,97,114],d.nm])++TW ([[59]]))) (fun _=>True) [G,H72] (by simp) (fun w hw=>(put_any pb G H72 r60 (l++TW ([[109,111,100,117,108,101],m.nm,[123]])++TW (m.uses.flatMap useW)++TW ((m.decls.take v.1).flatMap declW)++TW (pubW d.pub)++TW ([[118,97,114],d.nm])) _ _ [[59]] w hz hH72 (by first | omega | (simp only [List.length_append,TW_len,List.length_cons,List.length_nil]; omega)) (List.forall_mem_cons.2 ⟨(by decide:List.length ([59]:Tx)≤4096),(List.forall_mem_nil _)⟩) hw).mono fun e w' ⟨r2,h1,h2⟩=>⟨r2,h1,trivial,h2⟩) ?_
     intro r73 _
     refine Ln (Eb (Et (Cr ?_)))
     refine V0 (Yi rfl rfl rfl (by omega)) ?_
     refine V0 (Ym rfl) ?_
     refine Ln ?_
     rw [show l++TW ([[109,111,100,117,108,101],m.nm,[123]])++TW (m.uses.flatMap useW)++TW ((m.decls.take v.1).flatMap declW)++TW (pubW d.pub)++TW ([[118,97,114],d.nm])++TW ([[59]])=l++TW ([[109,111,100,117,108,101],m.nm,[123]])++TW (m.uses.flatMap useW)++TW ((m.decls.take (v.1+1)).flatMap declW) by rw [flat_snoc hdi,HD]; simp [TW,useW,locW,w_use,w_pub,w_local,w_proc,w_main,w_module]]
     exact Ea ((v.1+1,r73):Nat×(Option Addr×Nat)) (by show m.decls.length-(v.1+1)<m.decls.length-v.1; omega) (by show v.1+1≤m.decls.length; omega) (sc rfl (sc rfl (sc rfl (sc rfl (sc rfl sn))))) (fun _ h=>by have h:=h.fronti 3 rfl; have h:=h.fronti 2 rfl; have h:=h.fronti 2 rfl; have h:=Ws.keep (L:=[_,_,_]) h; have h:=Ws.drops h (fun _ hm=>List.mem_append_right [_,_] hm); exact h)
    ·
     have h2:¬d.kind=2:=by simpa using hc3
     refine Cs (Cr ?_)
     refine V0 (yl_eq rfl rfl) ?_
     refine V0 (Ya rfl) ?_
     refine Ln (Et ?_)
     refine Cc rfl (fun hc4=>?_) (fun hc4=>?_)
     ·
      have hk:d.kind=3:=by simpa using hc4
      have hdn:0≤d.n∧d.n≤1099511627775:=by have:=hd.n3 hk; omega
      have HD:=HD3 hk
      have hDl:=congrArg List.length HD
      simp at hDl
      refine WC.drawsK (fun _=>true) [0,0] [(0,true),(1,true),(2,true),(3,true),(4,true),(5,false),(6,false),(7,false)] mixed (by kernel_rfl) (by kernel_rfl) (fun _ _ _ d _ _ h=>by cases d<;>exact h) ?_
      refine Dq rfl (.inl rfl) rfl (fun _ h=>by have h:=Ws.out 0 h; have h:=Ws.out 0 h; exact h) (Ym rfl) ?_
      refine Dq rfl (.inl rfl) rfl (fun _ h=>by have h:=Ws.out 0 h; have h:=Ws.out 0 h; exact h) (Yf fo53_1 rfl) ?_
      refine Dq rfl (.inl rfl) rfl (fun _ h=>by have h:=Ws.out 0 h; have h:=Ws.out 0 h; exact h) (Yd 0 rfl rfl rfl na9) ?_
      refine Dq rfl (.inl rfl) rfl (fun _ h=>by have h:=Ws.out 0 h; have h:=Ws.out 0 h; exact h) (Yf fo53_3 rfl) ?_
      refine Dq rfl (.inl rfl) rfl (fun _ h=>by have h:=Ws.out 0 h; have h:=Ws.out 0 h; exact h) (Yd 0 rfl rfl rfl na3) ?_
      refine De rfl (fun _ h=>by have h:=Ws.out 0 h; have h:=Ws.out 0 h; exact h) ?_
      refine Lp (.inl rfl) rfl en25 rfl (fun w hw=>itoa_any G d.n (by omega) (by omega) w (hw.vs _ (by simp)) hz) ?_
      refine Ln (Ed ?_)
      refine De rfl (fun _ h=>by have h:=Ws.out 0 h; have h:=Ws.out 0 h; exact h) ?_
      refine Lb (.inl rfl) rfl el22 rfl rfl rfl rfl fun b69=>?_
      refine Lsv (T:=9) (m:=5) 0 [[97,114,114,97,121],d.nm,[91],Lib.itoa d.n,[93]] rfl rfl (show 5≤5 by decide) (by decide) fun H69 hH69=>?_
      refine Ln (Ed ?_)
      refine De rfl (fun _ h=>by have h:=Ws.out 0 h; have h:=Ws.out 0 h; have h:=Ws.drops h (fun _ hm=>List.mem_append_right [_] hm); exact h) ?_
      refine Lf 1 rfl ?_
      refine Lf 1 rfl ?_
      refine Lw (ι:=Option Addr×Nat) [_,_] _ (.inl rfl) rfl en42 rfl rfl (fun _=>.tuple #[]) (fun r=>penL pb r (l++TW ([[109,111,100,117,108,101],m.nm,[123]])++TW (m.uses.flatMap useW)++TW ((m.decls.take v.1).flatMap declW)++TW (pubW d.pub)++TW ([[97,114,114,97,121],d.nm,[91],Lib.itoa d.n,[93]]))) (fun _=>True) [G,H69] (by simp) (fun w hw=>(put_any pb G H69 r41 (l++TW ([[109,111,100,117,108,101],m.nm,[123]])++TW (m.uses.flatMap useW)++TW ((m.decls.take v.1).flatMap declW)++TW (pubW d.pub)) _ _ [[97,114,114,97,121],d.nm,[91],Lib.itoa d.n,[93]] w hz hH69 (by first | omega | (simp only [List.length_append,TW_len,List.length_cons,List.length_nil]; omega)) (List.forall_mem_cons.2 ⟨(by decide:List.length ([97,114,114,97,121]:Tx)≤4096),(List.forall_mem_cons.2 ⟨(nameT_len hd.name),(List.forall_mem_cons.2 ⟨(by decide:List.length ([91]:Tx)≤4096),(List.forall_mem_cons.2 ⟨(itoa_len hdn.1 hdn.2),(List.forall_mem_cons.2 ⟨(by decide:List.length ([93]:Tx)≤4096),(List.forall_mem_nil _)⟩)⟩)⟩)⟩)⟩) hw).mono fun e w' ⟨r2,h1,h2⟩=>⟨r2,h1,trivial,h2⟩) ?_
      intro r70 _
      refine Ln (Ed ?_)
      refine WD.nil (fun _ h=>by have h:=Ws.out 0 h; have h:=Ws.out 0 h; have h:=Ws.drops h (fun _ hm=>List.mem_append_right [_] hm); exact h) ?_
      refine Eb (Et (Cr ?_))
      refine V0 (Ym rfl) ?_
      refine Lb (.inl rfl) rfl el22 rfl rfl rfl rfl fun b72=>?_
      refine Lsv (T:=9) (m:=1) 0 [[59]] rfl rfl (show 1≤1 by decide) (by decide) fun H72 hH72=>?_
      refine Lf 1 rfl ?_
      refine Lf 1 rfl ?_
      refine Lw (ι:=Option Addr×Nat) [_,_] _ (.inl rfl) rfl en42 rfl rfl (fun _=>.tuple #[]) (fun r=>penL pb r (l++TW ([[109,111,100,117,108,101],m.nm,[123]])++TW (m.uses.flatMap useW)++TW ((m.decls.take v.1).flatMap declW)++TW (pubW d.pub)++TW ([[97,114,114,97,121],d.nm,[91],Lib.itoa d.n,[93]])++TW ([[59]]))) (fun _=>True) [G,H72] (by simp) (fun w hw=>(put_any pb G H72 r70 (l++TW ([[109,111,100,117,108,101],m.nm,[123]])++TW (m.uses.flatMap useW)++TW ((m.decls.take v.1).flatMap declW)++TW (pubW d.pub)++TW ([[97,114,114,97,121],d.nm,[91],Lib.itoa d.n,[93]])) _ _ [[59]] w hz hH72 (by first | omega | (simp only [List.length_append,TW_len,List.length_cons,List.length_nil]; omega)) (List.forall_mem_cons.2 ⟨(by decide:List.length ([59]:Tx)≤4096),(List.forall_mem_nil _)⟩) hw).mono fun e w' ⟨r2,h1,h2⟩=>⟨r2,h1,trivial,h2⟩) ?_
      intro r73 _
      refine Ln (Eb (Et (Cr ?_)))
      refine V0 (Yi rfl rfl rfl (by omega)) ?_
      refine V0 (Ym rfl) ?_
      refine Ln ?_
      rw [show l++TW ([[109,111,100,117,108,101],m.nm,[123]])++TW (m.uses.flatMap useW)++TW ((m.decls.take v.1).flatMap declW)++TW (pubW d.pub)++TW ([[97,114,114,97,121],d.nm,[91],Lib.itoa d.n,[93]])++TW ([[59]])=l++TW ([[109,111,100,117,108,101],m.nm,[123]])++TW (m.uses.flatMap useW)++TW ((m.decls.take (v.1+1)).flatMap declW) by rw [flat_snoc hdi,HD]; simp [TW,useW,locW,w_use,w_pub,w_local,w_proc,w_main,w_module]]
      exact Ea ((v.1+1,r73):Nat×(Option Addr×Nat)) (by show m.decls.length-(v.1+1)<m.decls.length-v.1; omega) (by show v.1+1≤m.decls.length; omega) (sc rfl (sc rfl (sc rfl (sc rfl (sc rfl sn))))) (fun _ h=>by have h:=h.fronti 3 rfl; have h:=h.fronti 2 rfl; have h:=h.fronti 2 rfl; have h:=Ws.keep (L:=[_,_,_]) h; have h:=Ws.drops h (fun _ hm=>List.mem_append_right [_,_] hm); exact h)
     ·
      exact (show False by have:=hd.kind; simp at hc4; omega).elim
  ·
   have hge1:¬v.1<m.decls.length:=by simpa using hc1
   rw [List.take_of_length_le (by omega)]
   refine Ce (Ex (Ex (Ebh (Et (Cs ?_)))))
   refine Cs (Cr ?_)
   refine V0 (Yf fo27_3 rfl) ?_
   refine V0 (Yd 2 rfl rfl rfl na24) ?_
   refine V0 (Yn es24 rfl) ?_
   refine V0 (Ym rfl) ?_
   refine Ln (Et (Cb ?_))
   refine CK (ι:=Nat×(Option Addr×Nat)) (fun j=>[(78,.int .i64 (j.1:Int))]) [(0,_),(3,_),(76,_),(77,_)] (fun j=>Ws w (List.flatMap Asr.ids (penL pb r l)) (penL pb j.2 (l++TW ([[109,111,100,117,108,101],m.nm,[123]])++TW (m.uses.flatMap useW)++TW (m.decls.flatMap declW)++TW ((m.procs.take j.1).flatMap procW))++[blk b3 (.cells (modV m q).toArray 27 (0,0))]) [G,H]) (fun j=>j.1≤m.procs.length) (fun j=>m.procs.length-j.1) (0,v.2) (Nat.zero_le _) (sc rfl (sc rfl (sc rfl (sc rfl (sc rfl sn))))) (fun _ h=>by have h:=h.fronti 2 rfl; have h:=h.fronti 2 rfl; have h:=h.fronti 2 rfl; show Ws w _ (penL pb v.2 (l++TW ([[109,111,100,117,108,101],m.nm,[123]])++TW (m.uses.flatMap useW)++TW (m.decls.flatMap declW)++TW ((m.procs.take 0).flatMap procW))++[blk b3 (.cells (modV m q).toArray 27 (0,0))]) [G,H] _; rw [show TW ((m.procs.take 0).flatMap procW)=[] from rfl,List.append_nil]; exact h) ?_
   intro j hij
   refine Cs (Cr ?_)
   refine V0 (yl_lt rfl rfl) ?_
   refine Ln (Et (Cs ?_))
   refine Cc rfl (fun hc5=>?_) (fun hc5=>?_)
   ·
    have hlt:j.1<m.procs.length:=by simpa using hc5
    have hlt:j.1<m.procs.length:=by simpa using hc5
    obtain ⟨p,hpi⟩:∃q,m.procs[j.1]? = some q:=⟨_,List.getElem?_eq_getElem hlt⟩
    obtain ⟨pbp,pop,hap,hrp⟩:=hm.procs.elt j.1 p hpi
    obtain ⟨pa1,pc1,pa2,pc2,pa3,pc3,hrow,hs1,hs2,hs3⟩:=hrp
    have hp:=okP (hom.procs p (List.mem_of_getElem? hpi))
    have hpt:=flat_part (f:=procW) hpi
    have hpl:(pubW p.pub).length≤1:=by cases p.pub<;>decide
    have hPl:=procW_lsg p
    have c1_:=hs1.cap
    have x1_:=hs1.max
    have c2_:=hs2.cap
    have x2_:=hs2.max
    refine Ck (Et (Cs (Cb (Cs (Cr ?_)))))
    refine V0 (Yo es24 rfl rfl hap (by omega)) ?_
    refine V0 (yl_lda 1 ag56 rfl rfl rfl (hrow)) ?_
    refine WL.alloc (.inl rfl) rfl zr56 fun b9=>?_
    refine Lst 0 (.inl rfl) rfl rfl rfl sz56 rfl rfl rfl ?_
    refine Ln (Et (Cs (Cr ?_)))
    refine V0 (Ym rfl) ?_
    refine V0 (Yf fo56_1 rfl) ?_
    refine V0 (Yd 0 rfl rfl rfl na4) ?_
    refine Lf 2 rfl ?_
    refine Lf 2 rfl ?_
    refine Lw (ι:=Option Addr×Nat) [_,_] _ (.inl rfl) rfl en43 rfl rfl (fun _=>.tuple #[]) (fun r=>penL pb r (l++TW ([[109,111,100,117,108,101],m.nm,[123]])++TW (m.uses.flatMap useW)++TW (m.decls.flatMap declW)++TW ((m.procs.take j.1).flatMap procW)++TW (pubW p.pub))) (fun _=>True) [G,H] (by simp) (fun w hw=>(penPub_any pb G H j.2 (l++TW ([[109,111,100,117,108,101],m.nm,[123]])++TW (m.uses.flatMap useW)++TW (m.decls.flatMap declW)++TW ((m.procs.take j.1).flatMap procW)) p.pub w hz (by first | omega | (simp only [List.length_append,TW_len,List.length_cons,List.length_nil]; omega)) hw).mono fun e w' ⟨r2,h1,h2⟩=>⟨r2,h1,trivial,h2⟩) ?_
    intro r85 _
    refine Ln (Et (Cs (Cr ?_)))
    refine V0 (Ym rfl) ?_
    refine V0 (Yf fo56_0 rfl) ?_
    refine V0 (Yd 2 rfl rfl rfl na9) ?_
    refine Lb (.inl rfl) rfl el22 rfl rfl rfl rfl fun b89=>?_
    refine Lsv (T:=9) (m:=3) 0 [[112,114,111,99],p.nm,[40]] rfl rfl (show 3≤3 by decide) (by decide) fun H89 hH89=>?_
    refine Lf 1 rfl ?_
    refine Lf 1 rfl ?_
    refine Lw (ι:=Option Addr×Nat) [_,_] _ (.inl rfl) rfl en42 rfl rfl (fun _=>.tuple #[]) (fun r=>penL pb r (l++TW ([[109,111,100,117,108,101],m.nm,[123]])++TW (m.uses.flatMap useW)++TW (m.decls.flatMap declW)++TW ((m.procs.take j.1).flatMap procW)++TW (pubW p.pub)++TW ([[112,114,111,99],p.nm,[40]]))) (fun _=>True) [G,H89] (by simp) (fun w hw=>(put_any pb G H89 r85 (l++TW ([[109,111,100,117,108,101],m.nm,[123]])++TW (m.uses.flatMap useW)++TW (m.decls.flatMap declW)++TW ((m.procs.take j.1).flatMap procW)++TW (pubW p.pub)) _ _ [[112,114,111,99],p.nm,[40]] w hz hH89 (by first | omega | (simp only [List.length_append,TW_len,List.length_cons,List.length_nil]; omega)) (List.forall_mem_cons.2 ⟨(by decide:List.length ([112,114,111,99]:Tx)≤4096),(List.forall_mem_cons.2 ⟨(nameT_len hp.name),(List.forall_mem_cons.2 ⟨(by decide:List.length ([40]:Tx)≤4096),(List.forall_mem_nil _)⟩)⟩)⟩) hw).mono fun e w' ⟨r2,h1,h2⟩=>⟨r2,h1,trivial,h2⟩) ?_
    intro r90 _
    refine Ln (Et (Cs (Cs (Cr ?_))))
    refine V0 (Yf fo56_2 rfl) ?_
    refine V0 (Yd 2 rfl rfl rfl na22) ?_
    refine V0 (Yn es22 rfl) ?_
    refine V0 (Ym rfl) ?_
    refine Ln (Et (Cb ?_))
    refine CK (ι:=Nat×(Option Addr×Nat)) (fun e=>[(94,.int .i64 (e.1:Int))]) [(0,_),(3,_),(9,_),(76,_),(77,_),(78,_),(92,_),(93,_)] (fun e=>Ws w (List.flatMap Asr.ids (penL pb r l)) (penL pb e.2 (l++TW ([[109,111,100,117,108,101],m.nm,[123]])++TW (m.uses.flatMap useW)++TW (m.decls.flatMap declW)++TW ((m.procs.take j.1).flatMap procW)++TW (pubW p.pub)++TW ([[112,114,111,99],p.nm,[40]])++TW (commaW ((sg p.params).take e.1)))++[blk b9 (.cells (procV p pa1 pc1 pa2 pc2 pa3 pc3).toArray 56 (0,0)),blk b3 (.cells (modV m q).toArray 27 (0,0))]) [G,H]) (fun e=>e.1≤p.params.length) (fun e=>p.params.length-e.1) (0,r90) (Nat.zero_le _) (sc rfl (sc rfl (sc rfl (sc rfl (sc rfl (sc rfl (sc rfl (sc rfl (sc rfl sn))))))))) (fun _ h=>by have h:=h.fronti 3 rfl; have h:=h.fronti 3 rfl; have h:=h.fronti 3 rfl; have h:=h.fronti 3 rfl; have h:=Ws.drops h (Vs':=[G,H]) (by simp); show Ws w _ (penL pb r90 (l++TW ([[109,111,100,117,108,101],m.nm,[123]])++TW (m.uses.flatMap useW)++TW (m.decls.flatMap declW)++TW ((m.procs.take j.1).flatMap procW)++TW (pubW p.pub)++TW ([[112,114,111,99],p.nm,[40]])++TW (commaW ((sg p.params).take 0)))++[blk b9 (.cells (procV p pa1 pc1 pa2 pc2 pa3 pc3).toArray 56 (0,0)),blk b3 (.cells (modV m q).toArray 27 (0,0))]) [G,H] _; rw [show TW (commaW ((sg p.params).take 0))=[] from rfl,List.append_nil]; exact h) ?_
    intro e hie
    refine Cs (Cr ?_)
    refine V0 (yl_lt rfl rfl) ?_
    refine Ln (Et (Cs ?_))
    refine Cc rfl (fun hc6=>?_) (fun hc6=>?_)
    ·
     have hlt:e.1<p.params.length:=by simpa using hc6
     obtain ⟨s,hsi⟩:∃x,p.params[e.1]? = some x:=⟨_,List.getElem?_eq_getElem hlt⟩
     obtain ⟨pbs,pos,ha,hrow⟩:=hs1.elt e.1 s hsi
     have hrow:RdC H pbs (pos+e.1*1) (strC s):=hrow
     have hsn:=hp.params s (List.mem_of_getElem? hsi)
     have hgy:=sg_get hsi
     have hle:=comma_le (sg p.params) (e.1+1)
     refine Ck (Et (Cs (Cb (Cs (Cr ?_)))))
     refine V0 (Ym rfl) ?_
     refine V0 (Yo es22 rfl rfl ha (by omega)) ?_
     refine V0 (yl_ld 1 na9 rfl rfl (hrow 0 _ rfl)) ?_
     refine V0 (Ya rfl) ?_
     refine V0 (Ya rfl) ?_
     refine Ln (Et (Cs (Cs (Cr ?_))))
     refine V0 (Ym rfl) ?_
     refine V0 (yl_gt rfl rfl) ?_
     refine Ln (Et ?_)
     refine Cc rfl (fun hc7=>?_) (fun hc7=>?_)
     ·
      have HC:=comma_takeS hgy (by simp at hc7; omega)
      rw [HC] at hle
      simp only [List.length_append,List.length_cons,List.length_nil] at hle
      refine Cr ?_
      refine V0 (Ym rfl) ?_
      refine Lb (.inl rfl) rfl el22 rfl rfl rfl rfl fun b102=>?_
      refine Lsv (T:=9) (m:=1) 0 [[44]] rfl rfl (show 1≤1 by decide) (by decide) fun H102 hH102=>?_
      refine Lf 1 rfl ?_
      refine Lf 1 rfl ?_
      refine Lw (ι:=Option Addr×Nat) [_,_] _ (.inl rfl) rfl en42 rfl rfl (fun _=>.tuple #[]) (fun r=>penL pb r (l++TW ([[109,111,100,117,108,101],m.nm,[123]])++TW (m.uses.flatMap useW)++TW (m.decls.flatMap declW)++TW ((m.procs.take j.1).flatMap procW)++TW (pubW p.pub)++TW ([[112,114,111,99],p.nm,[40]])++TW (commaW ((sg p.params).take e.1))++TW ([[44]]))) (fun _=>True) [G,H102] (by simp) (fun w hw=>(put_any pb G H102 e.2 (l++TW ([[109,111,100,117,108,101],m.nm,[123]])++TW (m.uses.flatMap useW)++TW (m.decls.flatMap declW)++TW ((m.procs.take j.1).flatMap procW)++TW (pubW p.pub)++TW ([[112,114,111,99],p.nm,[40]])++TW (commaW ((sg p.params).take e.1))) _ _ [[44]] w hz hH102 (by first | omega | (simp only [List.length_append,TW_len,List.length_cons,List.length_nil]; omega)) (List.forall_mem_cons.2 ⟨(by decide:List.length ([44]:Tx)≤4096),(List.forall_mem_nil _)⟩) hw).mono fun e w' ⟨r2,h1,h2⟩=>⟨r2,h1,trivial,h2⟩) ?_
      intro r103 _
      refine Ln (Et (Cr ?_))
      refine V0 (Ym rfl) ?_
      refine V0 (Ym rfl) ?_
      refine Lb (.inl rfl) rfl el22 rfl rfl rfl rfl fun b106=>?_
      refine Lsv (T:=9) (m:=1) 0 [s] rfl rfl (show 1≤1 by decide) (by decide) fun H106 hH106=>?_
      refine Lf 1 rfl ?_
      refine Lf 1 rfl ?_
      refine Lw (ι:=Option Addr×Nat) [_,_] _ (.inl rfl) rfl en42 rfl rfl (fun _=>.tuple #[]) (fun r=>penL pb r (l++TW ([[109,111,100,117,108,101],m.nm,[123]])++TW (m.uses.flatMap useW)++TW (m.decls.flatMap declW)++TW ((m.procs.take j.1).flatMap procW)++TW (pubW p.pub)++TW ([[112,114,111,99],p.nm,[40]])++TW (commaW ((sg p.params).take e.1))++TW ([[44]])++TW ([s]))) (fun _=>True) [G,H106] (by simp) (fun w hw=>(put_any pb G H106 r103 (l++TW ([[109,111,100,117,108,101],m.nm,[123]])++TW (m.uses.flatMap useW)++TW (m.decls.flatMap declW)++TW ((m.procs.take j.1).flatMap procW)++TW (pubW p.pub)++TW ([[112,114,111,99],p.nm,[40]])++TW (commaW ((sg p.params).take e.1))++TW ([[44]])) _ _ [s] w hz hH106 (by first | omega | (simp only [List.length_append,TW_len,List.length_cons,List.length_nil]; omega)) (List.forall_mem_cons.2 ⟨(nameT_len hsn),(List.forall_mem_nil _)⟩) hw).mono fun e w' ⟨r2,h1,h2⟩=>⟨r2,h1,trivial,h2⟩) ?_
      intro r107 _
      refine Ln (Eb (Et (Cr ?_)))
      refine V0 (Yi rfl rfl rfl (by omega)) ?_
      refine V0 (Ym rfl) ?_
      refine Ln ?_
      rw [show l++TW ([[109,111,100,117,108,101],m.nm,[123]])++TW (m.uses.flatMap useW)++TW (m.decls.flatMap declW)++TW ((m.procs.take j.1).flatMap procW)++TW (pubW p.pub)++TW ([[112,114,111,99],p.nm,[40]])++TW (commaW ((sg p.params).take e.1))++TW ([[44]])++TW ([s])=l++TW ([[109,111,100,117,108,101],m.nm,[123]])++TW (m.uses.flatMap useW)++TW (m.decls.flatMap declW)++TW ((m.procs.take j.1).flatMap procW)++TW (pubW p.pub)++TW ([[112,114,111,99],p.nm,[40]])++TW (commaW ((sg p.params).take (e.1+1))) by rw [HC]; simp [TW,useW,locW,w_use,w_pub,w_local,w_proc,w_main,w_module]]
      exact Ea ((e.1+1,r107):Nat×(Option Addr×Nat)) (by show p.params.length-(e.1+1)<p.params.length-e.1; omega) (by show e.1+1≤p.params.length; omega) (sc rfl (sc rfl (sc rfl (sc rfl (sc rfl (sc rfl (sc rfl (sc rfl (sc rfl sn))))))))) (fun _ h=>Ws.drops (h) (fun _ hm=>List.mem_append_right [_,_] hm))
     ·
      have HC:=comma_take0 hgy (by simp at hc7; omega)
      rw [HC] at hle
      simp only [List.length_append,List.length_cons,List.length_nil] at hle
      refine Ck (Et (Cr ?_))
      refine V0 (Ym rfl) ?_
      refine V0 (Ym rfl) ?_
      refine Lb (.inl rfl) rfl el22 rfl rfl rfl rfl fun b106=>?_
      refine Lsv (T:=9) (m:=1) 0 [s] rfl rfl (show 1≤1 by decide) (by decide) fun H106 hH106=>?_
      refine Lf 1 rfl ?_
      refine Lf 1 rfl ?_
      refine Lw (ι:=Option Addr×Nat) [_,_] _ (.inl rfl) rfl en42 rfl rfl (fun _=>.tuple #[]) (fun r=>penL pb r (l++TW ([[109,111,100,117,108,101],m.nm,[123]])++TW (m.uses.flatMap useW)++TW (m.decls.flatMap declW)++TW ((m.procs.take j.1).flatMap procW)++TW (pubW p.pub)++TW ([[112,114,111,99],p.nm,[40]])++TW (commaW ((sg p.params).take e.1))++TW ([s]))) (fun _=>True) [G,H106] (by simp) (fun w hw=>(put_any pb G H106 e.2 (l++TW ([[109,111,100,117,108,101],m.nm,[123]])++TW (m.uses.flatMap useW)++TW (m.decls.flatMap declW)++TW ((m.procs.take j.1).flatMap procW)++TW (pubW p.pub)++TW ([[112,114,111,99],p.nm,[40]])++TW (commaW ((sg p.params).take e.1))) _ _ [s] w hz hH106 (by first | omega | (simp only [List.length_append,TW_len,List.length_cons,List.length_nil]; omega)) (List.forall_mem_cons.2 ⟨(nameT_len hsn),(List.forall_mem_nil _)⟩) hw).mono fun e w' ⟨r2,h1,h2⟩=>⟨r2,h1,trivial,h2⟩) ?_
      intro r107 _
      refine Ln (Eb (Et (Cr ?_)))
      refine V0 (Yi rfl rfl rfl (by omega)) ?_
      refine V0 (Ym rfl) ?_
      refine Ln ?_
      rw [show l++TW ([[109,111,100,117,108,101],m.nm,[123]])++TW (m.uses.flatMap useW)++TW (m.decls.flatMap declW)++TW ((m.procs.take j.1).flatMap procW)++TW (pubW p.pub)++TW ([[112,114,111,99],p.nm,[40]])++TW (commaW ((sg p.params).take e.1))++TW ([s])=l++TW ([[109,111,100,117,108,101],m.nm,[123]])++TW (m.uses.flatMap useW)++TW (m.decls.flatMap declW)++TW ((m.procs.take j.1).flatMap procW)++TW (pubW p.pub)++TW ([[112,114,111,99],p.nm,[40]])++TW (commaW ((sg p.params).take (e.1+1))) by rw [HC]; simp [TW,useW,locW,w_use,w_pub,w_local,w_proc,w_main,w_module]]
      exact Ea ((e.1+1,r107):Nat×(Option Addr×Nat)) (by show p.params.length-(e.1+1)<p.params.length-e.1; omega) (by show e.1+1≤p.params.length; omega) (sc rfl (sc rfl (sc rfl (sc rfl (sc rfl (sc rfl (sc rfl (sc rfl (sc rfl sn))))))))) (fun _ h=>Ws.drops (h) (fun _ hm=>List.mem_append_right [_] hm))
    ·
     have hge3:¬e.1<p.params.length:=by simpa using hc6
     rw [List.take_of_length_le (l:=sg p.params) (by rw [sg_len]; omega)]
     refine Ce (Ex (Ex (Ebh (Et (Cs ?_)))))
     refine Cr ?_
     refine V0 (Ym rfl) ?_
     refine Lb (.inl rfl) rfl el22 rfl rfl rfl rfl fun b110=>?_
     refine Lsv (T:=9) (m:=1) 0 [[41]] rfl rfl (show 1≤1 by decide) (by decide) fun H110 hH110=>?_
     refine Lf 1 rfl ?_
     refine Lf 1 rfl ?_
     refine Lw (ι:=Option Addr×Nat) [_,_] _ (.inl rfl) rfl en42 rfl rfl (fun _=>.tuple #[]) (fun r=>penL pb r (l++TW ([[109,111,100,117,108,101],m.nm,[123]])++TW (m.uses.flatMap useW)++TW (m.decls.flatMap declW)++TW ((m.procs.take j.1).flatMap procW)++TW (pubW p.pub)++TW ([[112,114,111,99],p.nm,[40]])++TW (commaW (sg p.params))++TW ([[41]]))) (fun _=>True) [G,H110] (by simp) (fun w hw=>(put_any pb G H110 e.2 (l++TW ([[109,111,100,117,108,101],m.nm,[123]])++TW (m.uses.flatMap useW)++TW (m.decls.flatMap declW)++TW ((m.procs.take j.1).flatMap procW)++TW (pubW p.pub)++TW ([[112,114,111,99],p.nm,[40]])++TW (commaW (sg p.params))) _ _ [[41]] w hz hH110 (by first | omega | (simp only [List.length_append,TW_len,List.length_cons,List.length_nil]; omega)) (List.forall_mem_cons.2 ⟨(by decide:List.length ([41]:Tx)≤4096),(List.forall_mem_nil _)⟩) hw).mono fun e w' ⟨r2,h1,h2⟩=>⟨r2,h1,trivial,h2⟩) ?_
     intro r111 _
     refine Ln (Et (Cs (Cs (Cr ?_))))
     refine V0 (Yf fo56_3 rfl) ?_
     refine V0 (Yd 2 rfl rfl rfl na22) ?_
     refine V0 (Yn es22 rfl) ?_
     refine V0 (Ym rfl) ?_
     refine Ln (Et (Cb ?_))
     refine CK (ι:=Nat×(Option Addr×Nat)) (fun f=>[(115,.int .i64 (f.1:Int))]) [(0,_),(3,_),(9,_),(76,_),(77,_),(78,_),(113,_),(114,_)] (fun f=>Ws w (List.flatMap Asr.ids (penL pb r l)) (penL pb f.2 (l++TW ([[109,111,100,117,108,101],m.nm,[123]])++TW (m.uses.flatMap useW)++TW (m.decls.flatMap declW)++TW ((m.procs.take j.1).flatMap procW)++TW (pubW p.pub)++TW ([[112,114,111,99],p.nm,[40]])++TW (commaW (sg p.params))++TW ([[41]])++TW ((p.locs.take f.1).flatMap locW))++[blk b9 (.cells (procV p pa1 pc1 pa2 pc2 pa3 pc3).toArray 56 (0,0)),blk b3 (.cells (modV m q).toArray 27 (0,0))]) [G,H]) (fun f=>f.1≤p.locs.length) (fun f=>p.locs.length-f.1) (0,r111) (Nat.zero_le _) (sc rfl (sc rfl (sc rfl (sc rfl (sc rfl (sc rfl (sc rfl (sc rfl (sc rfl sn))))))))) (fun _ h=>by have h:=h.fronti 3 rfl; have h:=h.fronti 3 rfl; have h:=h.fronti 3 rfl; have h:=h.fronti 3 rfl; have h:=Ws.drops h (Vs':=[G,H]) (by simp); show Ws w _ (penL pb r111 (l++TW ([[109,111,100,117,108,101],m.nm,[123]])++TW (m.uses.flatMap useW)++TW (m.decls.flatMap declW)++TW ((m.procs.take j.1).flatMap procW)++TW (pubW p.pub)++TW ([[112,114,111,99],p.nm,[40]])++TW (commaW (sg p.params))++TW ([[41]])++TW ((p.locs.take 0).flatMap locW))++[blk b9 (.cells (procV p pa1 pc1 pa2 pc2 pa3 pc3).toArray 56 (0,0)),blk b3 (.cells (modV m q).toArray 27 (0,0))]) [G,H] _; rw [show TW ((p.locs.take 0).flatMap locW)=[] from rfl,List.append_nil]; exact h) ?_
     intro f hif
     refine Cs (Cr ?_)
     refine V0 (yl_lt rfl rfl) ?_
     refine Ln (Et (Cs ?_))
     refine Cc rfl (fun hc8=>?_) (fun hc8=>?_)
     ·
      have hlt:f.1<p.locs.length:=by simpa using hc8
      obtain ⟨s,hsi⟩:∃x,p.locs[f.1]? = some x:=⟨_,List.getElem?_eq_getElem hlt⟩
      obtain ⟨pbs,pos,ha,hrow⟩:=hs2.elt f.1 s hsi
      have hrow:RdC H pbs (pos+f.1*1) (strC s):=hrow
      have hsn:=hp.locs s (List.mem_of_getElem? hsi)
      have hpt2:=flat_part (f:=locW) hsi
      simp only [locW,List.length_cons,List.length_nil] at hpt2
      refine Ck (Et (Cs (Cb (Cs (Cr ?_)))))
      refine V0 (Yo es22 rfl rfl ha (by omega)) ?_
      refine V0 (yl_ld 1 na9 rfl rfl (hrow 0 _ rfl)) ?_
      refine V0 (Ya rfl) ?_
      refine Ln (Et (Cr ?_))
      refine V0 (Ym rfl) ?_
      refine V0 (Ym rfl) ?_
      refine Lb (.inl rfl) rfl el22 rfl rfl rfl rfl fun b121=>?_
      refine Lsv (T:=9) (m:=3) 0 [[108,111,99,97,108],s,[59]] rfl rfl (show 3≤3 by decide) (by decide) fun H121 hH121=>?_
      refine Lf 1 rfl ?_
      refine Lf 1 rfl ?_
      refine Lw (ι:=Option Addr×Nat) [_,_] _ (.inl rfl) rfl en42 rfl rfl (fun _=>.tuple #[]) (fun r=>penL pb r (l++TW ([[109,111,100,117,108,101],m.nm,[123]])++TW (m.uses.flatMap useW)++TW (m.decls.flatMap declW)++TW ((m.procs.take j.1).flatMap procW)++TW (pubW p.pub)++TW ([[112,114,111,99],p.nm,[40]])++TW (commaW (sg p.params))++TW ([[41]])++TW ((p.locs.take f.1).flatMap locW)++TW ([[108,111,99,97,108],s,[59]]))) (fun _=>True) [G,H121] (by simp) (fun w hw=>(put_any pb G H121 f.2 (l++TW ([[109,111,100,117,108,101],m.nm,[123]])++TW (m.uses.flatMap useW)++TW (m.decls.flatMap declW)++TW ((m.procs.take j.1).flatMap procW)++TW (pubW p.pub)++TW ([[112,114,111,99],p.nm,[40]])++TW (commaW (sg p.params))++TW ([[41]])++TW ((p.locs.take f.1).flatMap locW)) _ _ [[108,111,99,97,108],s,[59]] w hz hH121 (by first | omega | (simp only [List.length_append,TW_len,List.length_cons,List.length_nil]; omega)) (List.forall_mem_cons.2 ⟨(by decide:List.length ([108,111,99,97,108]:Tx)≤4096),(List.forall_mem_cons.2 ⟨(nameT_len hsn),(List.forall_mem_cons.2 ⟨(by decide:List.length ([59]:Tx)≤4096),(List.forall_mem_nil _)⟩)⟩)⟩) hw).mono fun e w' ⟨r2,h1,h2⟩=>⟨r2,h1,trivial,h2⟩) ?_
      intro r122 _
      refine Ln (Eb (Et (Cr ?_)))
      refine V0 (Yi rfl rfl rfl (by omega)) ?_
      refine V0 (Ym rfl) ?_
      refine Ln ?_
      rw [show l++TW ([[109,111,100,117,108,101],m.nm,[123]])++TW (m.uses.flatMap useW)++TW (m.decls.flatMap declW)++TW ((m.procs.take j.1).flatMap procW)++TW (pubW p.pub)++TW ([[112,114,111,99],p.nm,[40]])++TW (commaW (sg p.params))++TW ([[41]])++TW ((p.locs.take f.1).flatMap locW)++TW ([[108,111,99,97,108],s,[59]])=l++TW ([[109,111,100,117,108,101],m.nm,[123]])++TW (m.uses.flatMap useW)++TW (m.decls.flatMap declW)++TW ((m.procs.take j.1).flatMap procW)++TW (pubW p.pub)++TW ([[112,114,111,99],p.nm,[40]])++TW (commaW (sg p.params))++TW ([[41]])++TW ((p.locs.take (f.1+1)).flatMap locW) by rw [flat_snoc hsi]; simp [TW,useW,locW,w_use,w_pub,w_local,w_proc,w_main,w_module]]
      exact Ea ((f.1+1,r122):Nat×(Option Addr×Nat)) (by show p.locs.length-(f.1+1)<p.locs.length-f.1; omega) (by show f.1+1≤p.locs.length; omega) (sc rfl (sc rfl (sc rfl (sc rfl (sc rfl (sc rfl (sc rfl (sc rfl (sc rfl sn))))))))) (fun _ h=>Ws.drops (h) (fun _ hm=>List.mem_append_right [_] hm))
     ·
      have hge4:¬f.1<p.locs.length:=by simpa using hc8
      rw [List.take_of_length_le (l:=p.locs) (by omega)]
      refine Ce (Ex (Ex (Ebh (Et (Cr ?_)))))
      refine V0 (Ym rfl) ?_
      refine V0 (Yf fo56_4 rfl) ?_
      refine V0 (Yd 2 rfl rfl rfl na25) ?_
      refine Lf 1 rfl ?_
      refine Lf 1 rfl ?_
      refine Lw (ι:=Option Addr×Nat) [_,_] _ (.inl rfl) rfl en44 rfl rfl (fun _=>.tuple #[]) (fun r=>penL pb r (l++TW ([[109,111,100,117,108,101],m.nm,[123]])++TW (m.uses.flatMap useW)++TW (m.decls.flatMap declW)++TW ((m.procs.take j.1).flatMap procW)++TW (pubW p.pub)++TW ([[112,114,111,99],p.nm,[40]])++TW (commaW (sg p.params))++TW ([[41]])++TW (p.locs.flatMap locW)++TW (blockW p.body))) (fun _=>True) [G,H] (by simp) (fun w hw=>(hB ks pb f.2 (l++TW ([[109,111,100,117,108,101],m.nm,[123]])++TW (m.uses.flatMap useW)++TW (m.decls.flatMap declW)++TW ((m.procs.take j.1).flatMap procW)++TW (pubW p.pub)++TW ([[112,114,111,99],p.nm,[40]])++TW (commaW (sg p.params))++TW ([[41]])++TW (p.locs.flatMap locW)) p.body pa3 pc3 1 w hs3 hp.body (by first | omega | (simp only [List.length_append,TW_len,List.length_cons,List.length_nil]; omega)) hw).mono fun e w' ⟨r2,h1,h2⟩=>⟨r2,h1,trivial,h2⟩) ?_
      intro r127 _
      refine Ln (Eb (Et (Cr ?_)))
      refine V0 (Yi rfl rfl rfl (by omega)) ?_
      refine V0 (Ym rfl) ?_
      refine Ln ?_
      rw [show l++TW ([[109,111,100,117,108,101],m.nm,[123]])++TW (m.uses.flatMap useW)++TW (m.decls.flatMap declW)++TW ((m.procs.take j.1).flatMap procW)++TW (pubW p.pub)++TW ([[112,114,111,99],p.nm,[40]])++TW (commaW (sg p.params))++TW ([[41]])++TW (p.locs.flatMap locW)++TW (blockW p.body)=l++TW ([[109,111,100,117,108,101],m.nm,[123]])++TW (m.uses.flatMap useW)++TW (m.decls.flatMap declW)++TW ((m.procs.take (j.1+1)).flatMap procW) by rw [flat_snoc hpi,procW_sg]; simp [TW,useW,locW,w_use,w_pub,w_local,w_proc,w_main,w_module]]
      exact Ea ((j.1+1,r127):Nat×(Option Addr×Nat)) (by show m.procs.length-(j.1+1)<m.procs.length-j.1; omega) (by show j.1+1≤m.procs.length; omega) (sc rfl (sc rfl (sc rfl (sc rfl (sc rfl sn))))) (fun _ h=>by have h:=h.fronti 3 rfl; have h:=h.fronti 2 rfl; have h:=h.fronti 2 rfl; have h:=Ws.keep (L:=[_,_,_]) h; exact h)
   ·
    have hge2:¬j.1<m.procs.length:=by simpa using hc5
    rw [List.take_of_length_le (by omega)]
    refine Ce (Ex (Ex (Ebh (Et (Cs ?_)))))
    refine Cr ?_
    refine V0 (Ym rfl) ?_
    refine Lb (.inl rfl) rfl el22 rfl rfl rfl rfl fun b130=>?_
    refine Lsv (T:=9) (m:=1) 0 [[109,97,105,110]] rfl rfl (show 1≤1 by decide) (by decide) fun H130 hH130=>?_
    refine Lf 1 rfl ?_
    refine Lf 1 rfl ?_
    refine Lw (ι:=Option Addr×Nat) [_,_] _ (.inl rfl) rfl en42 rfl rfl (fun _=>.tuple #[]) (fun r=>penL pb r (l++TW ([[109,111,100,117,108,101],m.nm,[123]])++TW (m.uses.flatMap useW)++TW (m.decls.flatMap declW)++TW (m.procs.flatMap procW)++TW ([[109,97,105,110]]))) (fun _=>True) [G,H130] (by simp) (fun w hw=>(put_any pb G H130 j.2 (l++TW ([[109,111,100,117,108,101],m.nm,[123]])++TW (m.uses.flatMap useW)++TW (m.decls.flatMap declW)++TW (m.procs.flatMap procW)) _ _ [[109,97,105,110]] w hz hH130 (by first | omega | (simp only [List.length_append,TW_len,List.length_cons,List.length_nil]; omega)) (List.forall_mem_cons.2 ⟨(by decide:List.length ([109,97,105,110]:Tx)≤4096),(List.forall_mem_nil _)⟩) hw).mono fun e w' ⟨r2,h1,h2⟩=>⟨r2,h1,trivial,h2⟩) ?_
    intro r131 _
    refine Ln (Et (Cs (Cr ?_)))
    refine V0 (Ym rfl) ?_
    refine V0 (Yf fo27_4 rfl) ?_
    refine V0 (Yd 2 rfl rfl rfl na25) ?_
    refine Lf 1 rfl ?_
    refine Lf 1 rfl ?_
    refine Lw (ι:=Option Addr×Nat) [_,_] _ (.inl rfl) rfl en44 rfl rfl (fun _=>.tuple #[]) (fun r=>penL pb r (l++TW ([[109,111,100,117,108,101],m.nm,[123]])++TW (m.uses.flatMap useW)++TW (m.decls.flatMap declW)++TW (m.procs.flatMap procW)++TW ([[109,97,105,110]])++TW (blockW m.main))) (fun _=>True) [G,H] (by simp) (fun w hw=>(hB ks pb r131 (l++TW ([[109,111,100,117,108,101],m.nm,[123]])++TW (m.uses.flatMap useW)++TW (m.decls.flatMap declW)++TW (m.procs.flatMap procW)++TW ([[109,97,105,110]])) m.main q.a4 q.c4 1 w hm.main hom.main (by first | omega | (simp only [List.length_append,TW_len,List.length_cons,List.length_nil]; omega)) hw).mono fun e w' ⟨r2,h1,h2⟩=>⟨r2,h1,trivial,h2⟩) ?_
    intro r135 _
    refine Ln (Et (Cr ?_))
    refine V0 (Ym rfl) ?_
    refine Lb (.inl rfl) rfl el22 rfl rfl rfl rfl fun b137=>?_
    refine Lsv (T:=9) (m:=1) 0 [[125]] rfl rfl (show 1≤1 by decide) (by decide) fun H137 hH137=>?_
    refine Lf 1 rfl ?_
    refine Lf 1 rfl ?_
    refine Lw (ι:=Option Addr×Nat) [_,_] _ (.inl rfl) rfl en42 rfl rfl (fun _=>.tuple #[]) (fun r=>penL pb r (l++TW ([[109,111,100,117,108,101],m.nm,[123]])++TW (m.uses.flatMap useW)++TW (m.decls.flatMap declW)++TW (m.procs.flatMap procW)++TW ([[109,97,105,110]])++TW (blockW m.main)++TW ([[125]]))) (fun _=>True) [G,H137] (by simp) (fun w hw=>(put_any pb G H137 r135 (l++TW ([[109,111,100,117,108,101],m.nm,[123]])++TW (m.uses.flatMap useW)++TW (m.decls.flatMap declW)++TW (m.procs.flatMap procW)++TW ([[109,97,105,110]])++TW (blockW m.main)) _ _ [[125]] w hz hH137 (by first | omega | (simp only [List.length_append,TW_len,List.length_cons,List.length_nil]; omega)) (List.forall_mem_cons.2 ⟨(by decide:List.length ([125]:Tx)≤4096),(List.forall_mem_nil _)⟩) hw).mono fun e w' ⟨r2,h1,h2⟩=>⟨r2,h1,trivial,h2⟩) ?_
    intro r138 _
    refine Ln ?_
    refine WE.end0 rfl fun w' hw=>?_
    rw [show l++TW ([[109,111,100,117,108,101],m.nm,[123]])++TW (m.uses.flatMap useW)++TW (m.decls.flatMap declW)++TW (m.procs.flatMap procW)++TW ([[109,97,105,110]])++TW (blockW m.main)++TW ([[125]])=l++TW (modW m) by unfold modW; simp [TW,useW,locW,w_use,w_pub,w_local,w_proc,w_main,w_module]] at hw
    exact ⟨r138,rfl,Ws.drops (Ws.keep (L:=[_,_]) hw) (fun _ hm=>List.mem_append_right [_,_] hm)⟩
end Go.Proofs.YtjfldjidhkfnbaaGreatDoor
end
section
namespace Go.Proofs.YtjfldjidhkfnbaaGreatDoor
open Go.Bw
set_option linter.unusedVariables false
set_option linter.unusedSimpArgs false
theorem refW_le (mod nm:Tx):(refW mod nm).length≤3:=by unfold refW; split<;>simp
theorem comma_sum:∀l:List (List Tx),(commaW l).length≤(l.map fun x=>x.length+1).sum
 | []=>Nat.zero_le _
 | [x]=>by simp [commaW]
 | x::y::r=>by
   have:=comma_sum (y::r)
   simp only [commaW,List.length_append,List.map_cons,List.sum_cons,List.length_cons,List.length_nil] at this ⊢
   omega
theorem at_sum:∀(l:List (List Tx)),(at_ l 0).length+(at_ l 1).length≤(l.map fun x=>x.length+1).sum
 | []=>by simp [at_]
 | [x]=>by simp [at_]
 | x::y::r=>by simp [at_]; omega
theorem exprO_le (op n:Int) (mod nm:Tx) (A:List (List Tx)):(exprO op n mod nm A).length≤5+(A.map fun x=>x.length+1).sum:=by
 have h1:=refW_le mod nm; have h2:=comma_sum A; have h3:=at_sum A
 unfold exprO argsW
 repeat' split
 all_goals (try simp only [List.length_append,List.length_cons,List.length_nil])
 all_goals omega
mutual
theorem exprW_le:∀x:TExpr,(exprW x).length+1≤7*wE x
 | .mk op n mod nm args=>by
   have h1:=exprO_le op n mod nm (exprWs args); have h2:=exprWs_le args
   rw [exprW,wE]
   omega
theorem exprWs_le:∀l:List TExpr,((exprWs l).map fun x=>x.length+1).sum≤7*wEs l
 | []=>by simp [exprWs]
 | x::r=>by
   have h1:=exprW_le x; have h2:=exprWs_le r
   rw [exprWs,wEs,List.map_cons,List.sum_cons]
   omega
end
theorem stmtO_le (op:Int) (mod nm:Tx) (A:List (List Tx)) (b:List Tx) (ol:Nat) (o:List Tx):(stmtO op mod nm A b ol o).length≤8+(A.map fun x=>x.length+1).sum+b.length+o.length:=by
 have h1:=refW_le mod nm; have h2:=comma_sum A; have h3:=at_sum A
 unfold stmtO argsW blkW
 repeat' split
 all_goals (try simp only [List.length_append,List.length_cons,List.length_nil])
 all_goals omega
mutual
theorem stmtW_le:∀x:TStmt,(stmtW x).length+1≤9*wS x
 | .mk op mod nm args body other=>by
   have h1:=stmtO_le op mod nm (exprWs args) (stmtWs body) other.length (stmtWs other); have h2:=exprWs_le args; have h3:=stmtWs_le9 body; have h4:=stmtWs_le9 other
   rw [stmtW,wS]
   omega
theorem stmtWs_le9:∀l:List TStmt,(stmtWs l).length≤9*wSs l
 | []=>by simp [stmtWs]
 | x::r=>by
   have h1:=stmtW_le x; have h2:=stmtWs_le9 r
   rw [stmtWs,wSs,List.length_append]
   omega
end
theorem uses_le:∀l:List Tx,(l.flatMap useW).length≤9*wN l
 | []=>by simp
 | x::r=>by
   have:=uses_le r
   rw [List.flatMap_cons,List.length_append,wN]
   simp only [useW,List.length_cons,List.length_nil]
   omega
theorem locs_le:∀l:List Tx,(l.flatMap locW).length≤9*wN l
 | []=>by simp
 | x::r=>by
   have:=locs_le r
   rw [List.flatMap_cons,List.length_append,wN]
   simp only [locW,List.length_cons,List.length_nil]
   omega
theorem pubW_le (b:Bool):(pubW b).length≤1:=by cases b<;>decide
theorem decls_le:∀l:List TDecl,(l.flatMap declW).length≤9*wD l
 | []=>by simp
 | x::r=>by
   have:=decls_le r; have:=pubW_le x.pub
   have h:(declO x).length≤5:=by
     unfold declO
     split
     · simp
     · split
       · simp
       · split<;>simp
   rw [List.flatMap_cons,List.length_append,wD,declW]
   simp only [List.length_append,List.length_cons,List.length_nil]
   omega
theorem sg_le (l:List Tx):(commaW (sg l)).length≤9*wN l:=by
 have h:=comma_sum (sg l)
 have:((sg l).map fun x=>x.length+1).sum≤9*wN l:=by
   unfold sg
   induction l with
   | nil=>simp
   | cons x r ih=>
     have:=ih (comma_sum _)
     simp only [List.map_cons,List.sum_cons,List.length_cons,List.length_nil,wN] at this ⊢
     omega
 omega
theorem block_le (l:List TStmt):(blockW l).length≤2+9*wSs l:=by
 have:=stmtWs_le9 l
 unfold blockW blkW
 simp only [List.length_append,List.length_cons,List.length_nil]
 omega
theorem procs_le:∀l:List TProc,(l.flatMap procW).length≤9*wP l
 | []=>by simp
 | x::r=>by
   have:=procs_le r; have:=pubW_le x.pub; have:=procW_lsg x; have:=sg_le x.params; have:=locs_le x.locs; have:=block_le x.body
   rw [List.flatMap_cons,List.length_append,wP]
   omega
theorem modW_le (m:TMod):(modW m).length≤9*wM m:=by
 have:=modW_len m; have:=uses_le m.uses; have:=decls_le m.decls; have:=procs_le m.procs; have:=block_le m.main
 unfold wM
 omega
theorem tok_num {t:Tok} (h:okTok t) (hk:t.kind=2):0≤t.n∧t.n≤1099511627775:=by
 have:=h.2
 unfold tokOk at this
 rw [if_neg (by omega),if_pos hk] at this
 simp at this
 exact this.2
theorem ag27:aggOf Tryz.prog 27=some 5:=by kernel_rfl
theorem en7:Enters Tryz.prog 7:=enters_of Tryz.func7 (by kernel_rfl) rfl
theorem pl63:placesP Tryz.prog 63=some [(0,1)]:=by kernel_rfl
theorem zr63:zeroOf Tryz.prog 63=some (.agg #[.slice none 0 0]):=by kernel_rfl
theorem en24:Enters Tryz.prog 24:=enters_of Tryz.func24 (by kernel_rfl) rfl
theorem treeShow_any (G H:View) (ke ks:Nat) (q:MAt) (m:TMod) (w:World) (hG:Le G w) (hz:Laid G) (hH:Le H w) (hm:RdM ke ks H q m) (hb:wM m≤109951162777) :
   Calls Tryz.prog 9 #[.agg (modV m q).toArray] w fun e w'=>e = .returned (.tuple #[st (showM m).1,.int .i64 (showM m).2])∧Ext w w':=by
 have hmw:=modW_le m
 refine enter Tryz.func9 rfl 47 rfl rfl ?_
 refine CWd (W':=Ws w [] [] [G,H]) (fun _ e=>by subst e; exact Ws.init (by simp [hG,hH])) ?_
 refine Cs (Cr ?_)
 refine WL.box (.inl rfl) rfl rfl fun b1=>?_
 refine V0 (Ya rfl) ?_
 refine V0 (Ya rfl) ?_
 refine Ln (Et (Cs (Cs (Cr ?_))))
 refine V0 (Yda 0 rfl rfl ag27 rfl) ?_
 refine Lp (.inl rfl) rfl en7 rfl (fun w hw=>treeCheck_any H ke ks q m w (hw.vs _ (by simp)) hm (by omega)) ?_
 refine V0 (Ya rfl) ?_
 refine Ln (Et (Cs (Cr ?_)))
 refine V0 (Ym rfl) ?_
 refine V0 (yl_ne rfl rfl) ?_
 refine Ln (Et ?_)
 refine Cc rfl (fun hc0=>?_) (fun hc0=>?_)
 ·
  have hc:¬checkM m=0:=by simpa using hc0
  have hS:showM m=([],checkM m):=by rw [showM,if_neg hc]
  refine Cs (Cr ?_)
  refine V0 (Ym rfl) ?_
  refine V0 (Ya rfl) ?_
  refine V0 (Ya rfl) ?_
  refine Ln (Et (Crt (Er ?_)))
  refine WE.ret2 rfl rfl rfl fun w' hw=>?_
  rw [hS]
  exact ⟨rfl,hw.fr⟩
 ·
  have hc:checkM m=0:=by simpa using hc0
  have hS:showM m=(J (modW m),0):=by rw [showM,if_pos hc]
  have ht:=checkM_tot.1 hc
  refine Ck (Et (Cs (Cr ?_)))
  refine V0 (Yb zr63 pl63 rfl rfl) ?_
  refine WL.box (.inl rfl) rfl rfl fun b15=>?_
  refine LW (fun _ h=>h.osl_nil 66 3) ?_
  refine V0 (Ya rfl) ?_
  refine Ln (Et (Cs (Cr ?_)))
  refine V0 (Ym rfl) ?_
  refine V0 (Yda 2 rfl rfl ag27 rfl) ?_
  refine Lf 0 rfl ?_
  refine Lf 1 rfl ?_
  refine Lw (ι:=Option Addr×Nat) [_,_] _ (.inl rfl) rfl en24 rfl rfl (fun _=>.tuple #[]) (fun r=>penL b15 r (([]:List Tok)++TW (modW m))) (fun _=>True) [G,H] (by simp) (fun w hw=>(penModule_any b15 G H ((none,0):Option Addr×Nat) (([]:List Tok)) ke ks q m w hz hm ht (by simp; omega) hw).mono fun e w' ⟨r2,h1,h2⟩=>⟨r2,h1,trivial,h2⟩) ?_
  intro r18 _
  refine Ln (Et (Cs (Cr ?_)))
  refine V0 (Ya rfl) ?_
  refine Ln (Et (Cs (Cs (Cr ?_))))
  refine V0 (Ym rfl) ?_
  refine V0 (yl_nil rfl) ?_
  refine V0 (Yf fo63_0 rfl) ?_
  refine V0 (Yd 0 rfl rfl rfl na61) ?_
  refine WL.oslview (rd:=rdTok) 1 rfl Tok.cells_len (fun _ _ _ _ h=>h) fun HP hHP=>?_
  have hHP:Sl rdTok 3 HP r18.1 r18.2 (TW (modW m)):=hHP
  have hcap:=hHP.cap
  have hmax:=hHP.max
  refine V0 (Yn es61 rfl) ?_
  refine V0 (Ym rfl) ?_
  refine Ln (Et (Cb ?_))
  refine CK (ι:=Nat) (fun i=>[(24,.int .i64 (i:Int)),(6,st (joinT ((TW (modW m)).take i)))]) [(2,_),(3,_),(22,_),(23,_)] (fun i=>Ws w [] [blk b15 (.cells #[.slice r18.1 (([]:List Tok)++TW (modW m)).length r18.2] 63 (0,0)),blk b1 (.cells (modV m q).toArray 27 (0,0))] [HP,G,H]) (fun i=>i≤(TW (modW m)).length) (fun i=>(TW (modW m)).length-i) 0 (Nat.zero_le _) (sc rfl (sc rfl (sc rfl (sc rfl (sc rfl (sc rfl sn)))))) (fun _ h=>h) ?_
  intro i hi
  refine Cs (Cr ?_)
  refine V0 (yl_lt rfl rfl) ?_
  refine Ln (Et (Cs ?_))
  refine Cc rfl (fun hc1=>?_) (fun hc1=>?_)
  ·
   have hlt:i<(TW (modW m)).length:=by simpa using hc1
   obtain ⟨x,hxi⟩:∃x,(TW (modW m))[i]? = some x:=⟨_,List.getElem?_eq_getElem hlt⟩
   obtain ⟨pbx,pox,ha,hrow⟩:=hHP.elt i x hxi
   have hrow:RdC HP pbx (pox+i*3) x.cells:=hrow
   have hok:=TW_ok ht
   have hxm:=hok x (List.mem_of_getElem? hxi)
   have hxl:=tokTxt_len hxm.1 hxm.2
   have hjl:=joinT_take_len (TW (modW m)) i hok (by rw [TW_len]; omega)
   refine Ck (Et (Cs (Cb (Cs (Cr ?_)))))
   refine V0 (Ym rfl) ?_
   refine V0 (Yo es61 rfl rfl ha (by show i<(TW (modW m)).length; omega)) ?_
   refine V0 (yl_lda 0 ag66 rfl rfl rfl (hrow)) ?_
   refine WL.alloc (.inl rfl) rfl zr66 fun b8=>?_
   refine V0 (Ya rfl) ?_
   refine Lst 0 (.inl rfl) rfl rfl rfl sz66 rfl rfl rfl ?_
   refine Ln (Et (Cs (Cs (Cr ?_))))
   refine V0 (Ym rfl) ?_
   refine V0 (yl_gt rfl rfl) ?_
   refine Ln (Et ?_)
   refine Cc rfl (fun hc2=>?_) (fun hc2=>?_)
   ·
    have hi0:0<i:=by simp at hc2; omega
    have hj:joinT ((TW (modW m)).take i)++[32]++tokTxt x=joinT ((TW (modW m)).take (i+1)):=by
      rw [take_snoc hxi,joinT_snoc]
      intro h
      have h2:((TW (modW m)).take i).length=i:=by rw [List.length_take]; omega
      rw [h] at h2
      simp at h2
      omega
    refine Cr ?_
    refine V0 (Ym rfl) ?_
    refine V0 (yl_cats (b:=[32]) rfl rfl (show _+1≤_ by omega)) ?_
    refine V0 (Ya rfl) ?_
    refine Ln (Et (Cs (Cr ?_)))
    refine V0 (Yf fo66_0 rfl) ?_
    refine V0 (Yd 0 rfl rfl rfl na3) ?_
    refine V0 (yl_eq rfl rfl) ?_
    refine Ln (Et ?_)
    refine Cc rfl (fun hc3=>?_) (fun hc3=>?_)
    ·
     have hk:x.kind=2:=by simpa using hc3
     obtain ⟨hn0,hn1⟩:=tok_num hxm hk
     rw [tokTxt,if_pos hk] at hj hxl
     refine Cr ?_
     refine V0 (Ym rfl) ?_
     refine V0 (Yf fo66_1 rfl) ?_
     refine V0 (Yd 0 rfl rfl rfl na3) ?_
     refine Lp (.inl rfl) rfl en25 rfl (fun w hw=>itoa_any G x.n (by omega) (by omega) w (hw.vs _ (by simp)) hz) ?_
     refine V0 (yl_cats rfl rfl (by first | omega | (simp only [List.length_append,List.length_cons,List.length_nil]; omega))) ?_
     refine V0 (Ya rfl) ?_
     refine Ln (Eb (Et (Cr ?_)))
     refine V0 (Yi rfl rfl rfl (by omega)) ?_
     refine V0 (Ym rfl) ?_
     refine Ln ?_
     rw [hj]
     exact Ea (i+1) (by omega) (by omega) (sc rfl (sc rfl (sc rfl (sc rfl (sc rfl (sc rfl sn)))))) (fun _ h=>Ws.drop (L:=[_]) h)
    ·
     have hk:¬x.kind=2:=by simpa using hc3
     rw [tokTxt,if_neg hk] at hj hxl
     refine Cr ?_
     refine V0 (Ym rfl) ?_
     refine V0 (Yf fo66_2 rfl) ?_
     refine V0 (Yd 0 rfl rfl rfl na9) ?_
     refine V0 (yl_cats rfl rfl (by first | omega | (simp only [List.length_append,List.length_cons,List.length_nil]; omega))) ?_
     refine V0 (Ya rfl) ?_
     refine Ln (Eb (Et (Cr ?_)))
     refine V0 (Yi rfl rfl rfl (by omega)) ?_
     refine V0 (Ym rfl) ?_
     refine Ln ?_
     rw [hj]
     exact Ea (i+1) (by omega) (by omega) (sc rfl (sc rfl (sc rfl (sc rfl (sc rfl (sc rfl sn)))))) (fun _ h=>Ws.drop (L:=[_]) h)
   ·
    have hi0:i=0:=by simp at hc2; omega
    have hj:joinT ((TW (modW m)).take i)++tokTxt x=joinT ((TW (modW m)).take (i+1)):=by
      rw [take_snoc hxi]
      subst hi0
      simp [joinT,Lib.join,List.intercalate]
    refine Ck (Et (Cs (Cr ?_)))
    refine V0 (Yf fo66_0 rfl) ?_
    refine V0 (Yd 0 rfl rfl rfl na3) ?_
    refine V0 (yl_eq rfl rfl) ?_
    refine Ln (Et ?_)
    refine Cc rfl (fun hc3=>?_) (fun hc3=>?_)
    ·
     have hk:x.kind=2:=by simpa using hc3
     obtain ⟨hn0,hn1⟩:=tok_num hxm hk
     rw [tokTxt,if_pos hk] at hj hxl
     refine Cr ?_
     refine V0 (Ym rfl) ?_
     refine V0 (Yf fo66_1 rfl) ?_
     refine V0 (Yd 0 rfl rfl rfl na3) ?_
     refine Lp (.inl rfl) rfl en25 rfl (fun w hw=>itoa_any G x.n (by omega) (by omega) w (hw.vs _ (by simp)) hz) ?_
     refine V0 (yl_cats rfl rfl (by first | omega | (simp only [List.length_append,List.length_cons,List.length_nil]; omega))) ?_
     refine V0 (Ya rfl) ?_
     refine Ln (Eb (Et (Cr ?_)))
     refine V0 (Yi rfl rfl rfl (by omega)) ?_
     refine V0 (Ym rfl) ?_
     refine Ln ?_
     rw [hj]
     exact Ea (i+1) (by omega) (by omega) (sc rfl (sc rfl (sc rfl (sc rfl (sc rfl (sc rfl sn)))))) (fun _ h=>Ws.drop (L:=[_]) h)
    ·
     have hk:¬x.kind=2:=by simpa using hc3
     rw [tokTxt,if_neg hk] at hj hxl
     refine Cr ?_
     refine V0 (Ym rfl) ?_
     refine V0 (Yf fo66_2 rfl) ?_
     refine V0 (Yd 0 rfl rfl rfl na9) ?_
     refine V0 (yl_cats rfl rfl (by first | omega | (simp only [List.length_append,List.length_cons,List.length_nil]; omega))) ?_
     refine V0 (Ya rfl) ?_
     refine Ln (Eb (Et (Cr ?_)))
     refine V0 (Yi rfl rfl rfl (by omega)) ?_
     refine V0 (Ym rfl) ?_
     refine Ln ?_
     rw [hj]
     exact Ea (i+1) (by omega) (by omega) (sc rfl (sc rfl (sc rfl (sc rfl (sc rfl (sc rfl sn)))))) (fun _ h=>Ws.drop (L:=[_]) h)
  ·
   have hge:¬i<(TW (modW m)).length:=by simpa using hc1
   have hT:joinT ((TW (modW m)).take i)=J (modW m):=by rw [List.take_of_length_le (by omega),putTok_txt ht]
   refine Ce (Ex (Ex (Ebh (Et (Cs ?_)))))
   refine Cr ?_
   refine V0 (Ym rfl) ?_
   refine V0 (Ya rfl) ?_
   refine V0 (Ya rfl) ?_
   refine Ln (Et (Crt ?_))
   refine WE.ret2 rfl rfl rfl fun w' hw=>?_
   rw [hS,←hT]
   exact ⟨rfl,hw.fr⟩
end Go.Proofs.YtjfldjidhkfnbaaGreatDoor
end
section
namespace Go.Proofs.YtjfldjidhkfnbaaGreatDoor
open Go.Bw
set_option linter.unusedVariables false
set_option linter.unusedSimpArgs false
abbrev glassL (gb:Nat) (r:Option Addr×Nat) (l:Tk):List Asr:=[blk gb (.cells #[.slice r.1 l.length r.2] 73 (0,0))]
def brk:List PanicEntry:=[⟨.iface 75 (.agg #[]),false,false⟩]
def mustT:List Tx→Tk→Option Tk
 | [],l=>some l
 | w::ws,l=>(hasT w l).bind (mustT ws)
theorem must1 (w:Tx) (l:Tk):mustT [w] l=hasT w l:=by unfold mustT; cases hasT w l<;>rfl
theorem must2 (v w:Tx) (l:Tk):mustT [v,w] l=(hasT v l).bind (hasT w):=by
 unfold mustT
 cases hasT v l with
 | none=>rfl
 | some q=>exact must1 w q
theorem mustT_ok:∀{ws:List Tx} {l r:Tk},AllOk l→mustT ws l=some r→AllOk r
 | [],l,r,hl,h=>by injection h with h; subst h; exact hl
 | w::ws,l,r,hl,h=>by
   obtain ⟨q,h1,h2⟩:=Option.bind_eq_some_iff.1 h
   exact mustT_ok (hasT_ok hl h1) h2
theorem hasT_cons (s:Tx) (t:Tok) (r:Tk):hasT s (t::r)=if (t.text==s)=true then some r else none:=rfl
theorem hasT_len {s:Tx} {l q:Tk} (h:hasT s l=some q):q.length+1=l.length:=by
 cases l with
 | nil=>cases h
 | cons t r=>
   rw [hasT_cons] at h
   split at h
   · injection h with h; subst h; rfl
   · cases h
theorem mustT_cons_some {w:Tx} {ws:List Tx} {l q:Tk} (h:hasT w l=some q):mustT (w::ws) l=mustT ws q:=by show (hasT w l).bind (mustT ws)=_; rw [h]; rfl
theorem mustT_cons_none {w:Tx} {ws:List Tx} {l:Tk} (h:hasT w l=none):mustT (w::ws) l=none:=by show (hasT w l).bind (mustT ws)=_; rw [h]; rfl
structure TOk (l:Tk):Prop where
 all:AllOk l
 len:l.length≤4096
theorem tEats {l r:Tk} {ws:List Tx} (h:TOk l) (e:Eats l ws r):TOk r:=⟨e.ok,by have:=h.len; rw [e.2,List.length_append] at this; omega⟩
theorem tHas {s:Tx} {l r:Tk} (h:TOk l) (e:hasT s l=some r):TOk r:=⟨hasT_ok h.all e,by have:=hasT_len e; have:=h.len; omega⟩
theorem mustT_len:∀{ws:List Tx} {l q:Tk},mustT ws l=some q→q.length+ws.length=l.length
 | [],l,q,h=>by injection h with h; subst h; rfl
 | w::ws,l,q,h=>by
   obtain ⟨q1,h1,h2⟩:=Option.bind_eq_some_iff.1 h
   have:=hasT_len h1; have:=mustT_len h2
   simp only [List.length_cons]
   omega
theorem tMust {ws:List Tx} {l r:Tk} (h:TOk l) (e:mustT ws l=some r):TOk r:=⟨mustT_ok h.all e,by have:=mustT_len e; have:=h.len; omega⟩
theorem tNam {l r:Tk} {a:Tx} (h:TOk l) (e:namP l=some (a,r)):TOk r:=tEats h (namP_eats h.all e).1
theorem tNum {l r:Tk} {a:Int} (h:TOk l) (e:numP l=some (a,r)):TOk r:=tEats h (numP_eats h.all e)
theorem tRef {l r:Tk} {p:Tx×Tx} (h:TOk l) (e:refP l=some (p,r)):TOk r:=tEats h (refP_eats (mod:=p.1) (nm:=p.2) h.all e)
theorem tExpr {l r:Tk} {f:Nat} {x:TExpr} (h:TOk l) (e:exprP f l=some (x,r)):TOk r:=tEats h (exprP_eats f l x r h.all e)
theorem expr_len {l r:Tk} {f:Nat} {x:TExpr} (h:TOk l) (e:exprP f l=some (x,r)):r.length+1≤l.length:=by
 have h1:=(exprP_eats f l x r h.all e).2
 have h2:=exprW_ne x
 rw [h1]
 cases hw:exprW x with
 | nil=>exact absurd hw h2
 | cons y t=>simp
theorem drop_get {ws:List Tx} {i:Nat} {x:Tx} (h:ws[i]? = some x):ws.drop i=x::ws.drop (i+1):=by
 obtain ⟨hi,e⟩:=List.getElem?_eq_some_iff.1 h
 rw [←e]
 exact List.drop_eq_getElem_cons hi
theorem fo73_0:fieldOff Tryz.prog 73 0=some 0:=by kernel_rfl
theorem en52:Enters Tryz.prog 52:=enters_of Tryz.func52 (by kernel_rfl) rfl
theorem pl75:placesP Tryz.prog 75=some []:=by kernel_rfl
theorem zr75:zeroOf Tryz.prog 75=some (.agg #[]):=by kernel_rfl
theorem co75:Tryz.prog.concrete 75=true:=by kernel_rfl
theorem en78:Enters Tryz.prog 78:=enters_of Tryz.func78 (by kernel_rfl) rfl
theorem fld66_2:fld1 Tryz.prog 66 2=some 2:=by kernel_rfl
theorem fld66_1:fld1 Tryz.prog 66 1=some 1:=by kernel_rfl
theorem en51:Enters Tryz.prog 51:=enters_of Tryz.func51 (by kernel_rfl) rfl
theorem has_any (gb:Nat) (HT:View) (r:Option Addr×Nat) (l:Tk) (s:Tx) (w:World) (hm:Sl rdTok 3 HT r.1 r.2 l) (hw:Ws w (List.flatMap Asr.ids (glassL gb r l)) (glassL gb r l) [HT] w) :
   Calls Tryz.prog 52 #[.pointer (some ⟨gb,0,none⟩),st s] w fun e w'=>∃i:Bool×(Option Addr×Nat)×Tk,e = .returned (.bool i.1)∧((i.1=true→hasT s l=some i.2.2)∧(i.1=false→hasT s l=none∧l=i.2.2)∧Sl rdTok 3 HT i.2.1.1 i.2.1.2 i.2.2)∧Ws w (List.flatMap Asr.ids (glassL gb r l)) (glassL gb i.2.1 i.2.2) [HT] w':=by
 have hcap:=hm.cap
 have hmax:=hm.max
 have hd1:=hm.drop 1
 refine enter Tryz.func52 rfl 33 rfl rfl ?_
 refine CWd (W':=Ws w (List.flatMap Asr.ids (glassL gb r l)) (glassL gb r l) [HT]) (fun _ e=>by subst e; exact hw) ?_
 refine Cs (Cr ?_)
 refine V0 (Ya rfl) ?_
 refine Ln (Et (Cs (Cr ?_)))
 refine V0 (Ym rfl) ?_
 refine V0 (yl_nil rfl) ?_
 refine V0 (Yf fo73_0 rfl) ?_
 refine V0 (Yd 0 rfl rfl rfl na61) ?_
 refine V0 (Yn es61 rfl) ?_
 refine V0 (yl_gt rfl rfl) ?_
 refine V0 (Ym rfl) ?_
 apply WL.and 9 (x:=((l.head?.map fun t=>t.text==s).getD false)) rfl rfl rfl rfl (.inl rfl) rfl rfl rfl rfl rfl
 ·
  intro hg0
  obtain ⟨t,r0,rfl⟩:∃t r0,l=t::r0:=by
    cases l with
    | nil=>simp at hg0
    | cons t r0=>exact ⟨t,r0,rfl⟩
  obtain ⟨pbt,pot,hat,hrt⟩:=hm.elt 0 t rfl
  have hrt:RdC HT pbt (pot+0*3) t.cells:=hrt
  refine Lv (.g rfl rfl rfl) rfl (Ym rfl) ?_
  refine Lv (.g rfl rfl rfl) rfl (yl_nil rfl) ?_
  refine Lv (.g rfl rfl rfl) rfl (Yf fo73_0 rfl) ?_
  refine Lv (.g rfl rfl rfl) rfl (Yd 0 rfl rfl rfl na61) ?_
  refine Lv (.g rfl rfl rfl) rfl (Yo (i:=0) es61 rfl rfl hat (by simp)) ?_
  refine Lv (.g rfl rfl rfl) rfl (Yf fo66_2 rfl) ?_
  refine Lv (.g rfl rfl rfl) rfl (yl_ld 0 na9 rfl rfl (hrt 2 _ rfl)) ?_
  refine Lv (.g rfl rfl rfl) rfl (Ym rfl) ?_
  refine Lv (.g rfl rfl rfl) rfl (yl_eqs rfl rfl) ?_
  exact Gt 9 rfl rfl rfl
 refine V0 (Ya rfl) ?_
 refine Ln (Et (Cs (Cs (Cr ?_))))
 refine V0 (Ym rfl) ?_
 refine Ln (Et ?_)
 refine Cc rfl (fun hc0=>?_) (fun hc0=>?_)
 ·
  obtain ⟨t,r0,rfl⟩:∃t r0,l=t::r0:=by
    cases l with
    | nil=>simp at hc0
    | cons t r0=>exact ⟨t,r0,rfl⟩
  have heq:(t.text==s)=true:=by simpa using hc0
  have hd1:=hd1 (by simp)
  refine Cr ?_
  refine V0 (Ym rfl) ?_
  refine V0 (Ym rfl) ?_
  refine V0 (yl_nil rfl) ?_
  refine V0 (Yf fo73_0 rfl) ?_
  refine V0 (Yd 0 rfl rfl rfl na61) ?_
  refine V0 (yl_slln 1 es61 rfl rfl rfl (by simp) hcap) ?_
  refine V0 (yl_nil rfl) ?_
  refine V0 (Yf fo73_0 rfl) ?_
  refine Lst 0 (.inl rfl) rfl rfl rfl sz61 rfl rfl rfl ?_
  refine Ln (Et (Cs (Cr ?_)))
  refine V0 (Ym rfl) ?_
  refine V0 (Ya rfl) ?_
  refine Ln (Et (Crt ?_))
  refine WE.ret1 rfl rfl fun w' hw=>?_
  exact ⟨(true,(if r.2-1=0 then r.1 else r.1.map (·.add (1*3)),r.2-1),r0),by rw [hc0],⟨fun _=>by rw [hasT_cons,if_pos heq],fun h=>(by cases h),hd1⟩,hw⟩
 ·
  have hno:hasT s l=none:=by
    cases l with
    | nil=>rfl
    | cons t r0=>rw [hasT_cons,if_neg]; intro h; simp [h] at hc0
  refine Ck (Et (Cs (Cr ?_)))
  refine V0 (Ym rfl) ?_
  refine V0 (Ya rfl) ?_
  refine Ln (Et (Crt ?_))
  refine WE.ret1 rfl rfl fun w' hw=>?_
  exact ⟨(false,r,l),by rw [hc0],⟨fun h=>(by cases h),fun _=>⟨hno,rfl⟩,hm⟩,hw⟩
theorem must_any (gb:Nat) (HT:View) (r:Option Addr×Nat) (l:Tk) (H:View) (a:Option Addr) (n:Nat) (ws:List Tx) (w:World) (hs:Sl rdStr 1 H a n ws) (hm:Sl rdTok 3 HT r.1 r.2 l) (hw:Ws w (List.flatMap Asr.ids (glassL gb r l)) (glassL gb r l) [HT,H] w) :
   Calls Tryz.prog 50 #[.pointer (some ⟨gb,0,none⟩),.slice a ws.length n] w fun e w'=>(∃(r2:Option Addr×Nat) (q:Tk),e = .returned (.tuple #[])∧mustT ws l=some q∧Sl rdTok 3 HT r2.1 r2.2 q∧Ws w (List.flatMap Asr.ids (glassL gb r l)) (glassL gb r2 q) [HT,H] w')∨(∃(r2:Option Addr×Nat) (q:Tk),e = .panicked brk∧mustT ws l=none∧Ws w (List.flatMap Asr.ids (glassL gb r l)) (glassL gb r2 q) [HT,H] w'):=by
 have hcap:=hs.cap
 have hmax:=hs.max
 refine enter Tryz.func50 rfl 19 rfl rfl ?_
 refine CWd (W':=Ws w (List.flatMap Asr.ids (glassL gb r l)) (glassL gb r l) [HT,H]) (fun _ e=>by subst e; exact hw) ?_
 refine Cs (Cr ?_)
 refine V0 (Ym rfl) ?_
 refine V0 (Yn es22 rfl) ?_
 refine V0 (Ym rfl) ?_
 refine Ln (Et (Cb ?_))
 refine CK (ι:=Nat×(Option Addr×Nat)×Tk) (fun g=>[(8,.int .i64 (g.1:Int))]) [(0,_),(6,_),(7,_)] (fun g=>Ws w (List.flatMap Asr.ids (glassL gb r l)) (glassL gb g.2.1 g.2.2) [HT,H]) (fun g=>g.1≤ws.length∧mustT ws l=mustT (ws.drop g.1) g.2.2∧Sl rdTok 3 HT g.2.1.1 g.2.1.2 g.2.2) (fun g=>ws.length-g.1) (0,r,l) ⟨Nat.zero_le _,rfl,hm⟩ (sc rfl (sc rfl (sc rfl (sc rfl sn)))) (fun _ h=>h) ?_
 intro g ⟨hi,hR,hmg⟩
 refine Cs (Cr ?_)
 refine V0 (yl_lt rfl rfl) ?_
 refine Ln (Et (Cs ?_))
 refine Cc rfl (fun hc0=>?_) (fun hc0=>?_)
 ·
  have hlt:g.1<ws.length:=by simpa using hc0
  obtain ⟨x,hxi⟩:∃x,ws[g.1]? = some x:=⟨_,List.getElem?_eq_getElem hlt⟩
  obtain ⟨pbx,pox,ha,hrow⟩:=hs.elt g.1 x hxi
  have hrow:RdC H pbx (pox+g.1*1) (strC x):=hrow
  have hdr:=drop_get hxi
  refine Ck (Et (Cs (Cb (Cs (Cr ?_)))))
  refine V0 (Yo es22 rfl rfl (by assumption) (by omega)) ?_
  refine V0 (yl_ld 1 na9 rfl rfl (hrow 0 _ rfl)) ?_
  refine V0 (Ya rfl) ?_
  refine Ln (Et (Cs (Cr ?_)))
  refine V0 (Ym rfl) ?_
  refine V0 (Ym rfl) ?_
  refine Lf 0 rfl ?_
  refine Lw (ι:=Bool×(Option Addr×Nat)×Tk) [_] _ (.inl rfl) rfl en52 rfl rfl (fun i=>.bool i.1) (fun i=>glassL gb i.2.1 i.2.2) (fun i=>(i.1=true→hasT x g.2.2=some i.2.2)∧(i.1=false→hasT x g.2.2=none∧g.2.2=i.2.2)∧Sl rdTok 3 HT i.2.1.1 i.2.1.2 i.2.2) [HT] (by simp) (fun w hw=>has_any gb HT g.2.1 g.2.2 x w hmg hw) ?_
  intro ⟨b14,r14,q14⟩ ⟨h14t,h14f,hm14⟩
  refine V0 (yl_not rfl) ?_
  refine Ln (Et ?_)
  refine Cc rfl (fun hc1=>?_) (fun hc1=>?_)
  ·
   obtain ⟨hn14,hl14⟩:=h14f (by simpa using hc1)
   refine Cr ?_
   refine V0 (Yb zr75 pl75 rfl rfl) ?_
   refine V0 (yl_mki co75 rfl) ?_
   refine WL.panic (.inl rfl) rfl ?_
   refine WE.block_panic ?_
   refine Ep ?_
   refine Ep ?_
   refine WE.block_panic ?_
   refine Epp fun w' hw=>?_
   exact .inr ⟨r14,q14,rfl,by rw [hR,hdr,mustT_cons_none hn14],(by have h:=hw; exact h)⟩
  ·
   have hq14:=h14t (by simpa using hc1)
   refine Ck (Eb (Et (Cr ?_)))
   refine V0 (Yi rfl rfl rfl (by omega)) ?_
   refine V0 (Ym rfl) ?_
   refine Ln ?_
   exact Ea ((g.1+1,r14,q14):Nat×(Option Addr×Nat)×Tk) (by show ws.length-(g.1+1)<ws.length-g.1; omega) ⟨by show g.1+1≤ws.length; omega,by rw [hR,hdr,mustT_cons_some hq14],hm14⟩ (sc rfl (sc rfl (sc rfl (sc rfl sn)))) (fun _ h=>h)
 ·
  have hge:¬g.1<ws.length:=by simpa using hc0
  rw [List.drop_eq_nil_of_le (by omega)] at hR
  refine Ce (Ex (Ex (Ebh ?_)))
  refine WE.end0 rfl fun w' hw=>?_
  exact .inl ⟨g.2.1,g.2.2,rfl,by rw [hR]; rfl,hmg,hw⟩
theorem next_any (gb:Nat) (HT:View) (r:Option Addr×Nat) (l:Tk) (k:Int) (w:World) (hm:Sl rdTok 3 HT r.1 r.2 l) (hw:Ws w (List.flatMap Asr.ids (glassL gb r l)) (glassL gb r l) [HT] w) :
   Calls Tryz.prog 78 #[.pointer (some ⟨gb,0,none⟩),.int .i64 k] w fun e w'=>(∃(t:Tok) (r2:Option Addr×Nat) (q:Tk),e = .returned (.agg #[.int .i64 t.kind,.int .i64 t.n,st t.text])∧nextT k l=some (t,q)∧Sl rdTok 3 HT r2.1 r2.2 q∧Ws w (List.flatMap Asr.ids (glassL gb r l)) (glassL gb r2 q) [HT] w')∨(∃(r2:Option Addr×Nat) (q:Tk),e = .panicked brk∧nextT k l=none∧Ws w (List.flatMap Asr.ids (glassL gb r l)) (glassL gb r2 q) [HT] w'):=by
 have hcap:=hm.cap
 have hmax:=hm.max
 have hd1:=hm.drop 1
 refine enter Tryz.func78 rfl 40 rfl rfl ?_
 refine CWd (W':=Ws w (List.flatMap Asr.ids (glassL gb r l)) (glassL gb r l) [HT]) (fun _ e=>by subst e; exact hw) ?_
 refine Cs (Cr ?_)
 refine WL.alloc (.inl rfl) rfl zr66 fun b4=>?_
 refine Ln (Et (Cs (Cs (Cr ?_))))
 refine V0 (Ym rfl) ?_
 refine V0 (yl_nil rfl) ?_
 refine V0 (Yf fo73_0 rfl) ?_
 refine V0 (Yd 1 rfl rfl rfl na61) ?_
 refine V0 (Yn es61 rfl) ?_
 refine V0 (yl_eq rfl rfl) ?_
 refine V0 (Ym rfl) ?_
 apply WL.or 9 (x:=(!((l.head?.map fun t=>t.kind==k).getD false))) rfl rfl rfl rfl (.inl rfl) rfl rfl rfl rfl rfl
 ·
  intro hg0
  obtain ⟨t,r0,rfl⟩:∃t r0,l=t::r0:=by
    cases l with
    | nil=>simp at hg0
    | cons t r0=>exact ⟨t,r0,rfl⟩
  obtain ⟨pbt,pot,hat,hrt⟩:=hm.elt 0 t rfl
  have hrt:RdC HT pbt (pot+0*3) t.cells:=hrt
  refine Lv (.g rfl rfl rfl) rfl (Ym rfl) ?_
  refine Lv (.g rfl rfl rfl) rfl (yl_nil rfl) ?_
  refine Lv (.g rfl rfl rfl) rfl (Yf fo73_0 rfl) ?_
  refine Lv (.g rfl rfl rfl) rfl (Yd 1 rfl rfl rfl na61) ?_
  refine Lv (.g rfl rfl rfl) rfl (Yo (i:=0) es61 rfl rfl hat (by simp)) ?_
  refine Lv (.g rfl rfl rfl) rfl (Yf fo66_0 rfl) ?_
  refine Lv (.g rfl rfl rfl) rfl (yl_ld 0 na3 rfl rfl (hrt 0 _ rfl)) ?_
  refine Lv (.g rfl rfl rfl) rfl (Ym rfl) ?_
  refine Lv (.g rfl rfl rfl) rfl (yl_ne rfl rfl) ?_
  exact Gt 9 rfl rfl rfl
 refine Ln (Et ?_)
 refine Cc rfl (fun hc0=>?_) (fun hc0=>?_)
 ·
  have hno:nextT k l=none:=by
    cases l with
    | nil=>rfl
    | cons t r0=>
      simp only [nextT]
      rw [if_neg]
      intro h
      simp [h] at hc0
      omega
  refine Cr ?_
  refine V0 (Yb zr75 pl75 rfl rfl) ?_
  refine V0 (yl_mki co75 rfl) ?_
  refine WL.panic (.inl rfl) rfl ?_
  refine Ep ?_
  refine Epp fun w' hw=>?_
  exact .inr ⟨r,l,rfl,hno,(by have h:=hw; have h:=h.fronti 1 rfl; have h:=Ws.keep (L:=[_]) h; exact h)⟩
 ·
  obtain ⟨t,r0,rfl⟩:∃t r0,l=t::r0:=by
    cases l with
    | nil=>simp at hc0
    | cons t r0=>exact ⟨t,r0,rfl⟩
  have hk:t.kind=k:=by simp at hc0; exact hc0.2
  have hyes:nextT k (t::r0)=some (t,r0):=by simp only [nextT]; rw [if_pos hk]
  have hd1:=hd1 (by simp)
  obtain ⟨pbt,pot,hat,hrt⟩:=hm.elt 0 t rfl
  have hrt:RdC HT pbt (pot+0*3) t.cells:=hrt
  refine Ck (Et (Cs (Cr ?_)))
  refine V0 (Ym rfl) ?_
  refine V0 (yl_nil rfl) ?_
  refine V0 (Yf fo73_0 rfl) ?_
  refine V0 (Yd 1 rfl rfl rfl na61) ?_
  refine V0 (Yo (i:=0) es61 rfl rfl hat (by simp)) ?_
  refine V0 (yl_lda 0 ag66 rfl rfl rfl (hrt)) ?_
  refine WL.alloc (.inl rfl) rfl zr66 fun b5=>?_
  refine Lst 0 (.inl rfl) rfl rfl rfl sz66 rfl rfl rfl ?_
  refine Ln (Et (Cs (Cr ?_)))
  refine V0 (Ym rfl) ?_
  refine V0 (Ym rfl) ?_
  refine V0 (yl_nil rfl) ?_
  refine V0 (Yf fo73_0 rfl) ?_
  refine V0 (Yd 2 rfl rfl rfl na61) ?_
  refine V0 (yl_slln 1 es61 rfl rfl rfl (by simp) hcap) ?_
  refine V0 (yl_nil rfl) ?_
  refine V0 (Yf fo73_0 rfl) ?_
  refine Lst 2 (.inl rfl) rfl rfl rfl sz61 rfl rfl rfl ?_
  refine Ln (Et (Cs (Cr ?_)))
  refine V0 (Yda 0 rfl rfl ag66 rfl) ?_
  refine Lst 1 (.inl rfl) rfl rfl rfl sz66 rfl rfl rfl ?_
  refine Ln (Et (Crt ?_))
  refine WE.retR (rs_1 rfl (rv_agg 1 rfl rfl ag66 rfl)) fun w' hw=>?_
  exact .inl ⟨t,(if r.2-1=0 then r.1 else r.1.map (·.add (1*3)),r.2-1),r0,rfl,hyes,hd1,Ws.drop (L:=[_,_]) hw⟩
theorem gname_any (gb:Nat) (HT:View) (r:Option Addr×Nat) (l:Tk) (w:World) (hm:Sl rdTok 3 HT r.1 r.2 l) (hw:Ws w (List.flatMap Asr.ids (glassL gb r l)) (glassL gb r l) [HT] w) :
   Calls Tryz.prog 51 #[.pointer (some ⟨gb,0,none⟩)] w fun e w'=>(∃(s:Tx) (r2:Option Addr×Nat) (q:Tk),e = .returned (st s)∧namP l=some (s,q)∧Sl rdTok 3 HT r2.1 r2.2 q∧Ws w (List.flatMap Asr.ids (glassL gb r l)) (glassL gb r2 q) [HT] w')∨(∃(r2:Option Addr×Nat) (q:Tk),e = .panicked brk∧namP l=none∧Ws w (List.flatMap Asr.ids (glassL gb r l)) (glassL gb r2 q) [HT] w'):=by
 refine enter Tryz.func51 rfl 13 rfl rfl ?_
 refine CWd (W':=Ws w (List.flatMap Asr.ids (glassL gb r l)) (glassL gb r l) [HT]) (fun _ e=>by subst e; exact hw) ?_
 refine Cs (Cr ?_)
 refine V0 (Ya rfl) ?_
 refine Ln (Et (Cs (Cr ?_)))
 refine V0 (Ym rfl) ?_
 refine Lf 0 rfl ?_
 refine Lwx (ι:=Tok×(Option Addr×Nat)×Tk) (κ:=(Option Addr×Nat)×Tk) [_] _ (.inl rfl) rfl en78 rfl rfl (fun i=>.agg #[.int .i64 i.1.kind,.int .i64 i.1.n,st i.1.text]) (fun i=>glassL gb i.2.1 i.2.2) (fun i=>nextT 1 l=some (i.1,i.2.2)∧Sl rdTok 3 HT i.2.1.1 i.2.1.2 i.2.2) (fun _=>brk) (fun i=>glassL gb i.1 i.2) (fun _=>nextT 1 l=none) ([HT]) (by simp) (fun w hw=>(next_any gb HT r l 1 w hm hw).mono fun e w' h=>by
     rcases h with ⟨t,r2,q,h1,h2,h3,h4⟩ | ⟨r2,q,h1,h2,h3⟩
     · exact .inl ⟨(t,r2,q),h1,⟨h2,h3⟩,h4⟩
     · exact .inr ⟨(r2,q),h1,h2,h3⟩) ?_ ?_
 ·
  intro ⟨rp,qp⟩ hp
  refine Ep ?_
  refine Epp fun w' hw=>?_
  exact .inr ⟨rp,qp,rfl,by unfold namP; rw [hp]; rfl,(by have h:=hw; exact h)⟩
 intro ⟨t5,r5,q5⟩ ⟨hq5,hm5⟩
 refine V0 (yl_field fld66_2 rfl rfl) ?_
 refine V0 (Ya rfl) ?_
 refine Ln (Et (Cs (Cs (Cr ?_))))
 refine V0 (Ym rfl) ?_
 refine Lp (.inl rfl) rfl en36 rfl (fun w hw=>treeName_any _ w) ?_
 refine V0 (yl_not rfl) ?_
 refine Ln (Et ?_)
 refine Cc rfl (fun hc0=>?_) (fun hc0=>?_)
 ·
  have hno:namP l=none:=by unfold namP; rw [hq5]; simp only [Option.bind_some]; rw [if_neg (by simpa using hc0)]
  refine Cr ?_
  refine V0 (Yb zr75 pl75 rfl rfl) ?_
  refine V0 (yl_mki co75 rfl) ?_
  refine WL.panic (.inl rfl) rfl ?_
  refine Ep ?_
  refine Epp fun w' hw=>?_
  exact .inr ⟨r5,q5,rfl,hno,(by have h:=hw; exact h)⟩
 ·
  have hyes:namP l=some (t5.text,q5):=by unfold namP; rw [hq5]; simp only [Option.bind_some]; rw [if_pos (by simpa using hc0)]
  refine Ck (Et (Cs (Cr ?_)))
  refine V0 (Ym rfl) ?_
  refine V0 (Ya rfl) ?_
  refine Ln (Et (Crt ?_))
  refine WE.ret1 rfl rfl fun w' hw=>?_
  exact .inl ⟨t5.text,r5,q5,rfl,hyes,hm5,hw⟩
theorem gnum_any (gb:Nat) (HT:View) (r:Option Addr×Nat) (l:Tk) (w:World) (hm:Sl rdTok 3 HT r.1 r.2 l) (hw:Ws w (List.flatMap Asr.ids (glassL gb r l)) (glassL gb r l) [HT] w) :
   Calls Tryz.prog 79 #[.pointer (some ⟨gb,0,none⟩)] w fun e w'=>(∃(n:Int) (r2:Option Addr×Nat) (q:Tk),e = .returned (.int .i64 n)∧numP l=some (n,q)∧Sl rdTok 3 HT r2.1 r2.2 q∧Ws w (List.flatMap Asr.ids (glassL gb r l)) (glassL gb r2 q) [HT] w')∨(∃(r2:Option Addr×Nat) (q:Tk),e = .panicked brk∧numP l=none∧Ws w (List.flatMap Asr.ids (glassL gb r l)) (glassL gb r2 q) [HT] w'):=by
 refine enter Tryz.func79 rfl 6 rfl rfl ?_
 refine CWd (W':=Ws w (List.flatMap Asr.ids (glassL gb r l)) (glassL gb r l) [HT]) (fun _ e=>by subst e; exact hw) ?_
 refine Cs (Cr ?_)
 refine V0 (Ya rfl) ?_
 refine Ln (Et (Cs (Cr ?_)))
 refine V0 (Ym rfl) ?_
 refine Lf 0 rfl ?_
 refine Lwx (ι:=Tok×(Option Addr×Nat)×Tk) (κ:=(Option Addr×Nat)×Tk) [_] _ (.inl rfl) rfl en78 rfl rfl (fun i=>.agg #[.int .i64 i.1.kind,.int .i64 i.1.n,st i.1.text]) (fun i=>glassL gb i.2.1 i.2.2) (fun i=>nextT 2 l=some (i.1,i.2.2)∧Sl rdTok 3 HT i.2.1.1 i.2.1.2 i.2.2) (fun _=>brk) (fun i=>glassL gb i.1 i.2) (fun _=>nextT 2 l=none) ([HT]) (by simp) (fun w hw=>(next_any gb HT r l 2 w hm hw).mono fun e w' h=>by
     rcases h with ⟨t,r2,q,h1,h2,h3,h4⟩ | ⟨r2,q,h1,h2,h3⟩
     · exact .inl ⟨(t,r2,q),h1,⟨h2,h3⟩,h4⟩
     · exact .inr ⟨(r2,q),h1,h2,h3⟩) ?_ ?_
 ·
  intro ⟨rp,qp⟩ hp
  refine Ep ?_
  refine Epp fun w' hw=>?_
  exact .inr ⟨rp,qp,rfl,by unfold numP; rw [hp]; rfl,(by have h:=hw; exact h)⟩
 intro ⟨t4,r4,q4⟩ ⟨hq4,hm4⟩
 refine V0 (yl_field fld66_1 rfl rfl) ?_
 refine V0 (Ya rfl) ?_
 refine Ln (Et (Crt ?_))
 refine WE.ret1 rfl rfl fun w' hw=>?_
 exact .inl ⟨t4.n,r4,q4,rfl,by unfold numP; rw [hq4]; rfl,hm4,hw⟩
theorem gref_any (gb:Nat) (HT:View) (r:Option Addr×Nat) (l:Tk) (w:World) (hok:TOk l) (hm:Sl rdTok 3 HT r.1 r.2 l) (hw:Ws w (List.flatMap Asr.ids (glassL gb r l)) (glassL gb r l) [HT] w) :
   Calls Tryz.prog 104 #[.pointer (some ⟨gb,0,none⟩)] w fun e w'=>(∃(p:Tx×Tx) (r2:Option Addr×Nat) (q:Tk),e = .returned (.tuple #[st p.1,st p.2])∧refP l=some (p,q)∧Sl rdTok 3 HT r2.1 r2.2 q∧Ws w (List.flatMap Asr.ids (glassL gb r l)) (glassL gb r2 q) [HT] w')∨(∃(r2:Option Addr×Nat) (q:Tk),e = .panicked brk∧refP l=none∧Ws w (List.flatMap Asr.ids (glassL gb r l)) (glassL gb r2 q) [HT] w'):=by
 refine enter Tryz.func104 rfl 13 rfl rfl ?_
 refine CWd (W':=Ws w (List.flatMap Asr.ids (glassL gb r l)) (glassL gb r l) [HT]) (fun _ e=>by subst e; exact hw) ?_
 refine Cs (Cr ?_)
 refine V0 (Ya rfl) ?_
 refine V0 (Ya rfl) ?_
 refine Ln (Et (Cs (Cr ?_)))
 refine V0 (Ym rfl) ?_
 refine Lf 0 rfl ?_
 refine Lwx (ι:=(Tx)×(Option Addr×Nat)×Tk) (κ:=(Option Addr×Nat)×Tk) [_] _ (.inl rfl) rfl en51 rfl rfl (fun i=>st i.1) (fun i=>glassL gb i.2.1 i.2.2) (fun i=>namP l=some (i.1,i.2.2)∧Sl rdTok 3 HT i.2.1.1 i.2.1.2 i.2.2) (fun _=>brk) (fun i=>glassL gb i.1 i.2) (fun _=>namP l=none) ([HT]) (by simp) (fun w hw=>(gname_any gb HT r l w hm hw).mono fun e w' h=>by
     rcases h with ⟨t,r2,q,h1,h2,h3,h4⟩ | ⟨r2,q,h1,h2,h3⟩
     · exact .inl ⟨(t,r2,q),h1,⟨h2,h3⟩,h4⟩
     · exact .inr ⟨(r2,q),h1,h2,h3⟩) ?_ ?_
 ·
  intro ⟨rp,qp⟩ hp
  refine Ep ?_
  refine Epp fun w' hw=>?_
  exact .inr ⟨rp,qp,rfl,by unfold refP; rw [hp]; rfl,(by have h:=hw; exact h)⟩
 intro ⟨s6,r6,q6⟩ ⟨hq6,hm6⟩
 have ok6:=tNam hok hq6
 refine V0 (Ya rfl) ?_
 refine Ln (Et (Cs (Cs (Cr ?_))))
 refine V0 (Ym rfl) ?_
 refine Lf 0 rfl ?_
 refine Lw (ι:=Bool×(Option Addr×Nat)×Tk) [_] _ (.inl rfl) rfl en52 rfl rfl (fun i=>.bool i.1) (fun i=>glassL gb i.2.1 i.2.2) (fun i=>(i.1=true→hasT [46] q6=some i.2.2)∧(i.1=false→hasT [46] q6=none∧q6=i.2.2)∧Sl rdTok 3 HT i.2.1.1 i.2.1.2 i.2.2) [HT] (by simp) (fun w hw=>has_any gb HT r6 q6 [46] w hm6 hw) ?_
 intro ⟨b8,r8,q8⟩ ⟨h8t,h8f,hm8⟩
 refine Ln (Et ?_)
 refine Cc rfl (fun hc0=>?_) (fun hc0=>?_)
 ·
  have hq8:=h8t hc0
  have ok8:=tHas ok6 hq8
  refine Cs (Cr ?_)
  refine V0 (Ym rfl) ?_
  refine V0 (Ym rfl) ?_
  refine Lf 0 rfl ?_
  refine Lwx (ι:=(Tx)×(Option Addr×Nat)×Tk) (κ:=(Option Addr×Nat)×Tk) [_] _ (.inl rfl) rfl en51 rfl rfl (fun i=>st i.1) (fun i=>glassL gb i.2.1 i.2.2) (fun i=>namP q8=some (i.1,i.2.2)∧Sl rdTok 3 HT i.2.1.1 i.2.1.2 i.2.2) (fun _=>brk) (fun i=>glassL gb i.1 i.2) (fun _=>namP q8=none) ([HT]) (by simp) (fun w hw=>(gname_any gb HT r8 q8 w hm8 hw).mono fun e w' h=>by
      rcases h with ⟨t,r2,q,h1,h2,h3,h4⟩ | ⟨r2,q,h1,h2,h3⟩
      · exact .inl ⟨(t,r2,q),h1,⟨h2,h3⟩,h4⟩
      · exact .inr ⟨(r2,q),h1,h2,h3⟩) ?_ ?_
  ·
   intro ⟨rp,qp⟩ hp
   refine Ep ?_
   refine Ep ?_
   refine Epp fun w' hw=>?_
   exact .inr ⟨rp,qp,rfl,by unfold refP; rw [hq6]; simp only [Option.bind_some]; rw [hq8]; simp only; rw [hp]; rfl,(by have h:=hw; exact h)⟩
  intro ⟨s11,r11,q11⟩ ⟨hq11,hm11⟩
  have ok11:=tNam ok8 hq11
  refine V0 (Ya rfl) ?_
  refine V0 (Ya rfl) ?_
  refine Ln (Et (Crt (Er ?_)))
  refine WE.ret2 rfl rfl rfl fun w' hw=>?_
  exact .inl ⟨(s6,s11),r11,q11,rfl,by unfold refP; rw [hq6]; simp only [Option.bind_some]; rw [hq8]; simp only; rw [hq11]; rfl,hm11,hw⟩
 ·
  obtain ⟨hn8,hl8⟩:=h8f hc0
  subst hl8
  refine Ck (Et (Cs (Cr ?_)))
  refine V0 (Ym rfl) ?_
  refine V0 (Ya rfl) ?_
  refine V0 (Ya rfl) ?_
  refine Ln (Et (Crt ?_))
  refine WE.ret2 rfl rfl rfl fun w' hw=>?_
  exact .inl ⟨([],s6),r8,q6,rfl,by unfold refP; rw [hq6]; simp only [Option.bind_some]; rw [hn8],hm8,hw⟩
end Go.Proofs.YtjfldjidhkfnbaaGreatDoor
end
section
namespace Go.Proofs.YtjfldjidhkfnbaaGreatDoor
open Go.Bw
set_option linter.unusedVariables false
set_option linter.unusedSimpArgs false
abbrev XE:=TExpr×Option Addr×Nat
def XE.cells (e:XE):List Value:=exprV e.1 e.2.1 e.2.2
theorem XE.cells_len (e:XE):(XE.cells e).length=5:=rfl
theorem XE.one (e:XE):(XE.cells e).all (·.oneCell')=true:=rfl
def rdXE (H:View) (b o:Nat) (e:XE):Prop:=RdC H b o (XE.cells e)
def XEs (J:View) (f:Nat) (es:List XE):Prop:=∀e ∈ es,Sl (RdE f) 5 J e.2.1 e.2.2 e.1.args
theorem XEs.nil (J:View) (f:Nat):XEs J f []:=by intro e h; simp at h
theorem XEs.snoc {J J1 J2:View} {f:Nat} {es:List XE} {e:XE} (h:XEs J f es) (h1:VLe J J2) (h2:VLe J1 J2) (he:Sl (RdE f) 5 J1 e.2.1 e.2.2 e.1.args):XEs J2 f (es++[e]):=by
 intro x hx
 rcases List.mem_append.1 hx with hx | hx
 · exact (h x hx).imp fun b o y hy=>RdE_mono h1 (Nat.le_refl _) b o y hy
 · rw [List.mem_singleton] at hx
   subst hx
   exact he.imp fun b o y hy=>RdE_mono h2 (Nat.le_refl _) b o y hy
theorem slE_of {H J N:View} {f c:Nat} {a:Option Addr} {es:List XE} (h:Sl rdXE 5 H a c es) (hv:VLe H N) (hJ:VLe J N) (hes:XEs J f es):Sl (RdE (f+1)) 5 N a c (es.map (·.1)):=by
 refine ⟨by simpa using h.cap,h.max,h.spot,fun i x hx=>?_⟩
 rw [List.getElem?_map] at hx
 obtain ⟨e,he,rfl⟩:=Option.map_eq_some_iff.1 hx
 obtain ⟨b,o,h1,h2⟩:=h.elt i e he
 exact ⟨b,o,h1,e.2.1,e.2.2,RdC.mono hv h2,(hes e (List.mem_of_getElem? he)).imp fun b o y hy=>RdE_mono hJ (Nat.le_refl _) b o y hy⟩
theorem slE_mv {H N:View} {f c:Nat} {a:Option Addr} {l:List TExpr} (h:Sl (RdE f) 5 H a c l) (hv:VLe H N):Sl (RdE f) 5 N a c l:=h.imp fun b o y hy=>RdE_mono hv (Nat.le_refl _) b o y hy
structure GA where
 es:List XE
 a:Option Addr
 c:Nat
 J:View
 r:Option Addr×Nat
 q:Tk
def GlassE (HT:View) (f:Nat):Prop:=∀(gb:Nat) (r:Option Addr×Nat) (l:Tk) (d:Nat) (w:World),f+d=7→TOk l→Sl rdTok 3 HT r.1 r.2 l→Ws w (List.flatMap Asr.ids (glassL gb r l)) (glassL gb r l) [HT] w→
 Calls Tryz.prog 103 #[.pointer (some ⟨gb,0,none⟩),.int .i64 (d:Int)] w fun e w'=>(∃(x:TExpr) (s:Option Addr×Nat) (r2:Option Addr×Nat) (q:Tk),e = .returned (.agg #[.int .i64 (x).op,.int .i64 (x).n,st (x).mod,st (x).nm,.slice s.1 (x).args.length s.2])∧exprP f l=some (x,q)∧Sl (RdE f) 5 (nv w w') s.1 s.2 x.args∧Sl rdTok 3 HT r2.1 r2.2 q∧Ws w (List.flatMap Asr.ids (glassL gb r l)) (glassL gb r2 q) [HT] w')∨(∃(r2:Option Addr×Nat) (q:Tk),e = .panicked brk∧exprP f l=none∧Ws w (List.flatMap Asr.ids (glassL gb r l)) (glassL gb r2 q) [HT] w')
theorem argsL_some {pe:Tk→Option (TExpr×Tk)} {n:Nat} {l q q2:Tk} {x:TExpr} (h1:pe l=some (x,q)) (h2:hasT [41] q=some q2):argsL pe (n+1) l=some ([x],q2):=by rw [argsL,h1]; simp only [Option.bind_some]; rw [h2]
theorem argsL_more {pe:Tk→Option (TExpr×Tk)} {n:Nat} {l q q2:Tk} {x:TExpr} (h1:pe l=some (x,q)) (h2:hasT [41] q=none) (h3:hasT [44] q=some q2):argsL pe (n+1) l=(argsL pe n q2).map fun p=>(x::p.1,p.2):=by rw [argsL,h1]; simp only [Option.bind_some]; rw [h2]; simp only; rw [h3]
theorem argsL_bad {pe:Tk→Option (TExpr×Tk)} {n:Nat} {l q:Tk} {x:TExpr} (h1:pe l=some (x,q)) (h2:hasT [41] q=none) (h3:hasT [44] q=none):argsL pe (n+1) l=none:=by rw [argsL,h1]; simp only [Option.bind_some]; rw [h2]; simp only; rw [h3]
theorem argsL_no {pe:Tk→Option (TExpr×Tk)} {n:Nat} {l:Tk} (h1:pe l=none):argsL pe (n+1) l=none:=by rw [argsL,h1]; rfl
theorem opP_hit:∀(ws:List Tx) (i k:Nat) (w:Tx) (l q:Tk),ws[i]? = some w→(∀j v,j<i→ws[j]? = some v→hasT v l=none)→hasT w l=some q→opP ws k l=some (k+i,q)
 | [],i,k,w,l,q,h,_,_=>by simp at h
 | v::ws,0,k,w,l,q,h,_,hq=>by
   simp at h; subst h
   rw [opP,hq]; rfl
 | v::ws,i+1,k,w,l,q,h,hn,hq=>by
   rw [opP,hn 0 v (by omega) rfl]
   simp only
   rw [opP_hit ws i (k+1) w l q (by simpa using h) (fun j u hj hu=>hn (j+1) u (by omega) (by simpa using hu)) hq]
   congr 2
   omega
theorem opP_miss:∀(ws:List Tx) (k:Nat) (l:Tk),(∀w ∈ ws,hasT w l=none)→opP ws k l=none
 | [],_,_,_=>rfl
 | w::ws,k,l,h=>by
   rw [opP,h w (by simp)]
   exact opP_miss ws (k+1) l fun v hv=>h v (List.mem_cons_of_mem _ hv)
theorem opsA_get {i:Nat} {w:Tx} (h:opsL[i]? = some w):((opsL.map st).toArray)[i]? = some (st w):=by
 rw [List.getElem?_toArray,List.getElem?_map,h]; rfl
theorem en103:Enters Tryz.prog 103:=enters_of Tryz.func103 (by kernel_rfl) rfl
theorem el41:EltOk Tryz.prog 41 81 (.agg #[.int .i64 0,.int .i64 0,st [],st [],.slice none 0 0]) 5 72:=eltOk_of (by kernel_rfl)
theorem en50:Enters Tryz.prog 50:=enters_of Tryz.func50 (by kernel_rfl) rfl
theorem gargs_any (gb:Nat) (HT:View) (r:Option Addr×Nat) (l:Tk) (f d:Nat) (w:World) (hE:GlassE HT f) (hfd:f+d=7) (hok:TOk l) (hm:Sl rdTok 3 HT r.1 r.2 l) (hw:Ws w (List.flatMap Asr.ids (glassL gb r l)) (glassL gb r l) [HT] w) :
   Calls Tryz.prog 105 #[.pointer (some ⟨gb,0,none⟩),.int .i64 (d:Int)] w fun e w'=>(∃(xs:List TExpr) (s:Option Addr×Nat) (r2:Option Addr×Nat) (q:Tk),e = .returned (.slice s.1 xs.length s.2)∧argsP (exprP f) l=some (xs,q)∧Sl (RdE (f+1)) 5 (nv w w') s.1 s.2 xs∧Sl rdTok 3 HT r2.1 r2.2 q∧Ws w (List.flatMap Asr.ids (glassL gb r l)) (glassL gb r2 q) [HT] w')∨(∃(r2:Option Addr×Nat) (q:Tk),e = .panicked brk∧argsP (exprP f) l=none∧Ws w (List.flatMap Asr.ids (glassL gb r l)) (glassL gb r2 q) [HT] w'):=by
 refine enter Tryz.func105 rfl 21 rfl rfl ?_
 refine CWd (W':=Ws w (List.flatMap Asr.ids (glassL gb r l)) (glassL gb r l) [HT]) (fun _ e=>by subst e; exact hw) ?_
 refine Cs (Cr ?_)
 refine V0 (Ya rfl) ?_
 refine Ln (Et (Cs (Cr ?_)))
 refine V0 (Ya rfl) ?_
 refine LW (fun _ h=>h.osl_nil 81 5) ?_
 refine WL.v0 ?_
 refine Ln (Et (Cs (Cs (Cr ?_))))
 refine V0 (Ym rfl) ?_
 refine Lf 1 rfl ?_
 refine Lw (ι:=Bool×(Option Addr×Nat)×Tk) [_] _ (.inl rfl) rfl en52 rfl rfl (fun i=>.bool i.1) (fun i=>glassL gb i.2.1 i.2.2) (fun i=>(i.1=true→hasT [41] l=some i.2.2)∧(i.1=false→hasT [41] l=none∧l=i.2.2)∧Sl rdTok 3 HT i.2.1.1 i.2.1.2 i.2.2) [HT] (by simp) (fun w hw=>has_any gb HT r l [41] w hm hw) ?_
 intro ⟨b7,r7,q7⟩ ⟨h7t,h7f,hm7⟩
 refine Ln (Et ?_)
 refine Cc rfl (fun hc0=>?_) (fun hc0=>?_)
 ·
  have hq7:=h7t hc0
  have ok7:=tHas hok hq7
  refine Cs (Cr ?_)
  refine V0 (Ym rfl) ?_
  refine V0 (Ya rfl) ?_
  refine Ln (Et (Crt (Er ?_)))
  refine WE.ret1 rfl rfl fun w' hw=>?_
  exact .inl ⟨[],(none,0),r7,q7,rfl,by rw [argsP,hq7],Sl.nil,hm7,Ws.drops (Ws.keep (L:=[_]) hw) (fun _ hm=>List.mem_append_right [_] hm)⟩
 ·
  obtain ⟨hn7,hl7⟩:=h7f hc0
  subst hl7
  refine Ck (Et (Cb ?_))
  refine CK (ι:=GA) (fun g=>[(5,.slice g.a g.es.length g.c)]) [(0,_),(1,_)] (fun g=>Ws w (List.flatMap Asr.ids (glassL gb r l)) (glassL gb g.r g.q++[osT 81 5 XE.cells g.a g.c g.es]) [g.J,HT]) (fun g=>(g.es.length+g.q.length≤l.length∧TOk g.q)∧Sl rdTok 3 HT g.r.1 g.r.2 g.q∧(Fresh w g.J∧XEs g.J f g.es)∧∃n,g.q.length<n∧argsP (exprP f) l=(argsL (exprP f) n g.q).map fun p=>(g.es.map (·.1)++p.1,p.2)) (fun g=>g.q.length) ⟨[],none,0,v0,r7,l⟩ ⟨⟨by simp,hok⟩,hm7,⟨v0_fresh w,XEs.nil _ _⟩,l.length+1,by simp,by rw [argsP,hn7]; simp⟩ (sc rfl (sc rfl (sc rfl sn))) (fun _ h=>by have h:=h.fronti 1 rfl; have h:=h.fronti 1 rfl; have h:=Ws.drops h (Vs':=[v0,HT]) (by simp); exact h) ?_
  intro g ⟨⟨hlen,hokg⟩,hmg,⟨hfJ,hXE⟩,hA⟩
  refine Cb (Cs (Cr ?_))
  refine V0 (Ym rfl) ?_
  refine V0 (Ym rfl) ?_
  refine V0 (Ym rfl) ?_
  refine Lf 0 rfl ?_
  refine Lwy (ι:=(TExpr×(Option Addr×Nat))×(Option Addr×Nat)×Tk) (κ:=(Option Addr×Nat)×Tk) [_] _ (.inl rfl) rfl en103 rfl rfl (fun i=>.agg #[.int .i64 (i.1.1).op,.int .i64 (i.1.1).n,st (i.1.1).mod,st (i.1.1).nm,.slice i.1.2.1 (i.1.1).args.length i.1.2.2]) (fun i=>glassL gb i.2.1 i.2.2) (fun F i=>exprP f g.q=some (i.1.1,i.2.2)∧Sl (RdE f) 5 F i.1.2.1 i.1.2.2 i.1.1.args∧Sl rdTok 3 HT i.2.1.1 i.2.1.2 i.2.2) (fun _=>brk) (fun i=>glassL gb i.1 i.2) (fun _=>exprP f g.q=none) ([HT]) (by simp) (fun _ _ h=>h) (fun w hw=>(hE gb g.r g.q d w hfd hokg hmg hw).mono fun e w' h=>by
      rcases h with ⟨x,s,r2,q,h1,h2,h3,h4,h5⟩ | ⟨r2,q,h1,h2,h3⟩
      · exact .inl ⟨((x,s),r2,q),h1,⟨h2,h3,h4⟩,h5⟩
      · exact .inr ⟨(r2,q),h1,h2,h3⟩) ?_ ?_
  ·
   intro ⟨rp,qp⟩ hp
   refine Ep ?_
   refine WE.block_panic ?_
   refine Ep ?_
   refine WE.block_panic ?_
   refine Epp fun w' hw=>?_
   obtain ⟨n,hn,hA⟩:=hA
   obtain ⟨n,rfl⟩:∃k,n=k+1:=⟨n-1,by omega⟩
   exact .inr ⟨rp,qp,rfl,by rw [hA,argsL_no hp]; rfl,(by have h:=hw; have h:=Ws.keep (L:=[_]) h; have h:=Ws.drops h (Vs':=[HT]) (by simp); exact h)⟩
  intro F12 ⟨⟨x12,s12⟩,r12,q12⟩ hf12 ⟨hq12,hx12,hm12⟩
  have ok12:TOk q12:=tExpr hokg hq12
  have le12:q12.length+1≤List.length (g.q):=expr_len hokg hq12
  refine WL.vjoin fun J12 j12a j12b j12f=>?_
  refine Lb (.inl rfl) rfl el41 rfl rfl rfl rfl fun b13=>?_
  refine Lrb 0 (.cells (XE.cells (x12,s12.1,s12.2)).toArray 81 (0,0)) rfl rfl ?_
  refine LA ((x12,s12.1,s12.2):XE) 2 0 (.inl rfl) rfl el41 rfl rfl rfl rfl rfl rfl (by have:=hok.len; omega) (by have:=hok.len; omega) fun a14 c14=>?_
  refine V0 (Ya rfl) ?_
  refine Ln (Et (Cs (Cs (Cr ?_))))
  refine V0 (Ym rfl) ?_
  refine Lf 1 rfl ?_
  refine Lw (ι:=Bool×(Option Addr×Nat)×Tk) [_] _ (.inl rfl) rfl en52 rfl rfl (fun i=>.bool i.1) (fun i=>glassL gb i.2.1 i.2.2) (fun i=>(i.1=true→hasT [41] q12=some i.2.2)∧(i.1=false→hasT [41] q12=none∧q12=i.2.2)∧Sl rdTok 3 HT i.2.1.1 i.2.1.2 i.2.2) [HT] (by simp) (fun w hw=>has_any gb HT r12 q12 [41] w hm12 hw) ?_
  intro ⟨b16,r16,q16⟩ ⟨h16t,h16f,hm16⟩
  refine Ln (Et ?_)
  refine Cc rfl (fun hc1=>?_) (fun hc1=>?_)
  ·
   have hq16:=h16t hc1
   have ok16:=tHas ok12 hq16
   obtain ⟨n,hn,hA⟩:=hA
   obtain ⟨n,rfl⟩:∃k,n=k+1:=⟨n-1,by omega⟩
   refine Cs ?_
   refine WC.oslN (rd:=rdXE) 2 rfl (fun k hk=>by simp [glassL,blk] at hk; subst hk; simp [outOf,glassL,blk,osl]) XE.cells_len (fun _ _ _ _ h=>h) fun K6 fK6 hK6=>?_
   refine Cr ?_
   refine V0 (Ym rfl) ?_
   refine V0 (Ya rfl) ?_
   refine Ln (Et (Crt (Er (Ebr (Er ?_)))))
   refine Ebr ?_
   refine WE.ret1 rfl rfl fun w' hw=>?_
   exact .inl ⟨(g.es++[(x12,s12.1,s12.2)]).map (·.1),(a14,c14),r16,q16,by rw [List.length_map],by rw [hA,argsL_some hq12 hq16]; simp,slE_of hK6 (nv_vs hw (by simp) fK6) (nv_vs hw (by simp) (j12f _ hf12 hfJ)) (XEs.snoc hXE j12b j12a hx12),hm16,Ws.drops (Ws.keep (L:=[_]) hw) (fun _ hm=>List.mem_append_right [_,_] hm)⟩
  ·
   obtain ⟨hn16,hl16⟩:=h16f hc1
   subst hl16
   obtain ⟨n,hn,hA⟩:=hA
   obtain ⟨n,rfl⟩:∃k,n=k+1:=⟨n-1,by omega⟩
   refine Ck (Et (Cr ?_))
   refine V0 (Ym rfl) ?_
   refine Lb (.inl rfl) rfl el22 rfl rfl rfl rfl fun b19=>?_
   refine Lsv (T:=9) (m:=1) 0 [[44]] rfl rfl (show 1≤1 by decide) (by decide) fun H19 hH19=>?_
   refine Lf 0 rfl ?_
   refine Lwx (ι:=(Option Addr×Nat)×Tk) (κ:=(Option Addr×Nat)×Tk) [_] _ (.inl rfl) rfl en50 rfl rfl (fun _=>.tuple #[]) (fun i=>glassL gb i.1 i.2) (fun i=>mustT [[44]] q12=some i.2∧Sl rdTok 3 HT i.1.1 i.1.2 i.2) (fun _=>brk) (fun i=>glassL gb i.1 i.2) (fun _=>mustT [[44]] q12=none) ([HT,H19]) (by simp) (fun w hw=>(must_any gb HT r16 q12 H19 _ _ [[44]] w hH19 hm16 hw).mono fun e w' h=>by
       rcases h with ⟨r2,q,h1,h2,h3,h4⟩ | ⟨r2,q,h1,h2,h3⟩
       · exact .inl ⟨(r2,q),h1,⟨h2,h3⟩,h4⟩
       · exact .inr ⟨(r2,q),h1,h2,h3⟩) ?_ ?_
   ·
    intro ⟨rp,qp⟩ hp
    refine WE.block_panic ?_
    refine Ep ?_
    refine WE.block_panic ?_
    refine Epp fun w' hw=>?_
    exact .inr ⟨rp,qp,rfl,by rw [hA,argsL_bad hq12 hn16 ((must1 _ _).symm.trans hp)]; rfl,(by have h:=hw; have h:=Ws.keep (L:=[_]) h; have h:=Ws.drops h (Vs':=[HT]) (by simp); exact h)⟩
   intro ⟨r20,q20⟩ ⟨hq20,hm20⟩
   have ok20:=tMust ok12 hq20
   refine Ln (Eb ?_)
   exact Ea (⟨g.es++[(x12,s12.1,s12.2)],a14,c14,J12,r20,q20⟩:GA) (by have:=mustT_len hq20; simp at this; show q20.length<g.q.length; omega) ⟨⟨by have:=mustT_len hq20; simp at this ⊢; omega,ok20⟩,hm20,⟨j12f _ hf12 hfJ,XEs.snoc hXE j12b j12a hx12⟩,n,(show q20.length<n by have:=mustT_len hq20; simp at this; omega),by rw [hA,argsL_more hq12 hn16 ((must1 _ _).symm.trans hq20)]; simp [Function.comp_def]⟩ (sc rfl (sc rfl (sc rfl sn))) (fun _ h=>by
       have h:=h.fronti 2 rfl
       have h:=h.fronti 1 rfl
       have h:=Ws.keep (L:=[_,_]) h
       have h:=Ws.drops h (Vs':=[J12,HT]) (by simp)
       exact h)
end Go.Proofs.YtjfldjidhkfnbaaGreatDoor
end
section
namespace Go.Proofs.YtjfldjidhkfnbaaGreatDoor
open Go.Bw
set_option linter.unusedVariables false
set_option linter.unusedSimpArgs false
theorem restP_1 {pe:Tk→Option (TExpr×Tk)} {l q:Tk} (h:hasT [105,110] l=some q):restP pe l=some (TExpr.mk 2 0 [] [] [],q):=by unfold restP; rw [show w_in=[105,110] from rfl,h]
theorem restP_2 {pe:Tk→Option (TExpr×Tk)} {l q:Tk} (h1:hasT [105,110] l=none) (h:hasT [33] l=some q):restP pe l=(pe q).map fun x=>(TExpr.mk 6 0 [] [] [x.1],x.2):=by unfold restP; rw [show w_in=[105,110] from rfl,h1]; simp only; rw [h]
theorem restP_3 {pe:Tk→Option (TExpr×Tk)} {l q:Tk} (h1:hasT [105,110] l=none) (h2:hasT [33] l=none) (h:hasT [40] l=some q):restP pe l=twoP pe q:=by unfold restP; rw [show w_in=[105,110] from rfl,h1]; simp only; rw [h2]; simp only; rw [h]
theorem restP_4 {pe:Tk→Option (TExpr×Tk)} {l:Tk} (h1:hasT [105,110] l=none) (h2:hasT [33] l=none) (h:hasT [40] l=none):restP pe l=(refP l).bind fun p=>tailP pe p.1.1 p.1.2 p.2:=by unfold restP; rw [show w_in=[105,110] from rfl,h1]; simp only; rw [h2]; simp only; rw [h]
theorem tailP_1 {pe:Tk→Option (TExpr×Tk)} {mod nm:Tx} {l q:Tk} (h:hasT [91] l=some q):tailP pe mod nm l=(pe q).bind fun x=>(hasT [93] x.2).map fun r=>(TExpr.mk 4 0 mod nm [x.1],r):=by unfold tailP; rw [h]
theorem tailP_2 {pe:Tk→Option (TExpr×Tk)} {mod nm:Tx} {l q:Tk} (h1:hasT [91] l=none) (h:hasT [40] l=some q):tailP pe mod nm l=(argsP pe q).map fun q=>(TExpr.mk 5 0 mod nm q.1,q.2):=by unfold tailP; rw [h1]; simp only; rw [h]
theorem tailP_3 {pe:Tk→Option (TExpr×Tk)} {mod nm:Tx} {l:Tk} (h1:hasT [91] l=none) (h:hasT [40] l=none):tailP pe mod nm l=some (TExpr.mk 3 0 mod nm [],l):=by unfold tailP; rw [h1]; simp only; rw [h]
theorem exprP_none {f d:Nat} {l:Tk} (hf:f+d=7) (h:6<d∨l=[]):exprP f l=none:=by
 rcases h with h | rfl
 · obtain rfl:f=0:=by omega
   rfl
 · cases f<;>rfl
theorem exprP_num {f:Nat} {t:Tok} {r:Tk} (h:t.kind=2):exprP (f+1) (t::r)=some (TExpr.mk 1 t.n [] [] [],r):=by rw [exprP,if_pos h]
theorem exprP_rest {f:Nat} {t:Tok} {r:Tk} (h:¬t.kind=2):exprP (f+1) (t::r)=restP (exprP f) (t::r):=by rw [exprP,if_neg h]
theorem numP_cons {t:Tok} {r:Tk} (h:t.kind=2):numP (t::r)=some (t.n,r):=by simp [numP,nextT,h]
theorem pl81:placesP Tryz.prog 81=some [(0,1),(1,1),(2,1),(3,1),(4,1)]:=by kernel_rfl
theorem en79:Enters Tryz.prog 79:=enters_of Tryz.func79 (by kernel_rfl) rfl
theorem en123:Enters Tryz.prog 123:=enters_of Tryz.func123 (by kernel_rfl) rfl
theorem en104:Enters Tryz.prog 104:=enters_of Tryz.func104 (by kernel_rfl) rfl
theorem sz41:sizeP Tryz.prog 41=some 1:=by kernel_rfl
theorem en105:Enters Tryz.prog 105:=enters_of Tryz.func105 (by kernel_rfl) rfl
theorem gtwo_any (gb:Nat) (HT:View) (r:Option Addr×Nat) (l:Tk) (f d:Nat) (w:World) (hE:GlassE HT f) (hfd:f+d=7) (hok:TOk l) (hm:Sl rdTok 3 HT r.1 r.2 l) (hw:Ws w (List.flatMap Asr.ids (glassL gb r l)) (glassL gb r l) [HT] w) :
   Calls Tryz.prog 123 #[.pointer (some ⟨gb,0,none⟩),.int .i64 (d:Int)] w fun e w'=>(∃(x:TExpr) (s:Option Addr×Nat) (r2:Option Addr×Nat) (q:Tk),e = .returned (.agg #[.int .i64 (x).op,.int .i64 (x).n,st (x).mod,st (x).nm,.slice s.1 (x).args.length s.2])∧twoP (exprP f) l=some (x,q)∧Sl (RdE (f+1)) 5 (nv w w') s.1 s.2 x.args∧Sl rdTok 3 HT r2.1 r2.2 q∧Ws w (List.flatMap Asr.ids (glassL gb r l)) (glassL gb r2 q) [HT] w')∨(∃(r2:Option Addr×Nat) (q:Tk),e = .panicked brk∧twoP (exprP f) l=none∧Ws w (List.flatMap Asr.ids (glassL gb r l)) (glassL gb r2 q) [HT] w'):=by
 refine enter Tryz.func123 rfl 35 rfl rfl ?_
 refine CWd (W':=Ws w (List.flatMap Asr.ids (glassL gb r l)) (glassL gb r l) [HT]) (fun _ e=>by subst e; exact hw) ?_
 refine Cs (Cr ?_)
 refine WL.alloc (.inl rfl) rfl zr81 fun b4=>?_
 refine Lrb 0 (.cells (exprV (TExpr.mk 0 0 [] [] []) none 0).toArray 81 (0,0)) rfl rfl ?_
 refine Ln (Et (Cs (Cr ?_)))
 refine V0 (Ym rfl) ?_
 refine V0 (Ym rfl) ?_
 refine Lf 1 rfl ?_
 refine Lwy (ι:=(TExpr×(Option Addr×Nat))×(Option Addr×Nat)×Tk) (κ:=(Option Addr×Nat)×Tk) [_] _ (.inl rfl) rfl en103 rfl rfl (fun i=>.agg #[.int .i64 (i.1.1).op,.int .i64 (i.1.1).n,st (i.1.1).mod,st (i.1.1).nm,.slice i.1.2.1 (i.1.1).args.length i.1.2.2]) (fun i=>glassL gb i.2.1 i.2.2) (fun F i=>exprP f l=some (i.1.1,i.2.2)∧Sl (RdE f) 5 F i.1.2.1 i.1.2.2 i.1.1.args∧Sl rdTok 3 HT i.2.1.1 i.2.1.2 i.2.2) (fun _=>brk) (fun i=>glassL gb i.1 i.2) (fun _=>exprP f l=none) ([HT]) (by simp) (fun _ _ h=>h) (fun w hw=>(hE gb r l d w hfd hok hm hw).mono fun e w' h=>by
     rcases h with ⟨x,s,r2,q,h1,h2,h3,h4,h5⟩ | ⟨r2,q,h1,h2,h3⟩
     · exact .inl ⟨((x,s),r2,q),h1,⟨h2,h3,h4⟩,h5⟩
     · exact .inr ⟨(r2,q),h1,h2,h3⟩) ?_ ?_
 ·
  intro ⟨rp,qp⟩ hp
  refine Ep ?_
  refine Epp fun w' hw=>?_
  exact .inr ⟨rp,qp,rfl,by rw [twoP,hp]; rfl,(by have h:=hw; have h:=Ws.keep (L:=[_]) h; exact h)⟩
 intro F11 ⟨⟨x11,s11⟩,r11,q11⟩ hf11 ⟨hq11,hx11,hm11⟩
 have ok11:TOk q11:=tExpr hok hq11
 have le11:q11.length+1≤List.length (l):=expr_len hok hq11
 refine WL.alloc (.inl rfl) rfl zr81 fun b5=>?_
 refine Lst 0 (.inl rfl) rfl rfl rfl sz81 rfl rfl rfl ?_
 refine Ln (Et (Cs (Cs (Cr ?_))))
 refine Lp (.inl rfl) rfl en116 rfl (fun w hw=>ops_any w) ?_
 refine V0 (Ym rfl) ?_
 refine Ln (Et (Cb ?_))
 refine CK (ι:=Nat×(Option Addr×Nat)) (fun g=>[(13,.int .i64 (g.1:Int))]) [(0,_),(1,_),(4,_),(5,_),(12,_)] (fun g=>Ws w (List.flatMap Asr.ids (glassL gb r l)) (glassL gb g.2 q11++[blk b5 (.cells (XE.cells (x11,s11.1,s11.2)).toArray 81 (0,0)),blk b4 (.cells (exprV (TExpr.mk 0 0 [] [] []) none 0).toArray 81 (0,0))]) [F11,HT]) (fun g=>g.1≤9∧(∀j v,j<g.1→opsL[j]? = some v→hasT v q11=none)∧Sl rdTok 3 HT g.2.1 g.2.2 q11) (fun g=>9-g.1) (0,r11) ⟨Nat.zero_le _,by simp,hm11⟩ (sc rfl (sc rfl (sc rfl (sc rfl (sc rfl (sc rfl sn)))))) (fun _ h=>by have h:=h.fronti 2 rfl; have h:=h.fronti 1 rfl; have h:=h.fronti 2 rfl; exact h) ?_
 intro g ⟨hi,hall,hmg⟩
 refine Cs (Cr ?_)
 refine V0 (yl_lt rfl rfl) ?_
 refine Ln (Et (Cs ?_))
 refine Cc rfl (fun hc0=>?_) (fun hc0=>?_)
 ·
  have hlt:g.1<9:=by simp at hc0; omega
  obtain ⟨o,hoi⟩:∃o,opsL[g.1]? = some o:=⟨_,List.getElem?_eq_getElem (by show g.1<9; exact hlt)⟩
  refine Ck (Et (Cs (Cb (Cs (Cr ?_)))))
  refine V0 (Ym rfl) ?_
  refine V0 (yl_ixa (i:=g.1) ara150 rfl rfl hlt (opsA_get hoi)) ?_
  refine V0 (Ya rfl) ?_
  refine V0 (Ya rfl) ?_
  refine Ln (Et (Cs (Cr ?_)))
  refine V0 (Ym rfl) ?_
  refine V0 (Ym rfl) ?_
  refine Lf 0 rfl ?_
  refine Lw (ι:=Bool×(Option Addr×Nat)×Tk) [_] _ (.inl rfl) rfl en52 rfl rfl (fun i=>.bool i.1) (fun i=>glassL gb i.2.1 i.2.2) (fun i=>(i.1=true→hasT o q11=some i.2.2)∧(i.1=false→hasT o q11=none∧q11=i.2.2)∧Sl rdTok 3 HT i.2.1.1 i.2.1.2 i.2.2) [HT] (by simp) (fun w hw=>has_any gb HT g.2 q11 o w hmg hw) ?_
  intro ⟨b19,r19,q19⟩ ⟨h19t,h19f,hm19⟩
  refine Ln (Et ?_)
  refine Cc rfl (fun hc1=>?_) (fun hc1=>?_)
  ·
   have hq19:=h19t hc1
   have ok19:=tHas ok11 hq19
   have hop:opP opsL 0 q11=some (g.1,q19):=by rw [opP_hit opsL g.1 0 o q11 q19 hoi hall hq19,Nat.zero_add]
   refine Cs (Cr ?_)
   refine V0 (Ym rfl) ?_
   refine V0 (Ym rfl) ?_
   refine Lf 0 rfl ?_
   refine Lwy (ι:=(TExpr×(Option Addr×Nat))×(Option Addr×Nat)×Tk) (κ:=(Option Addr×Nat)×Tk) [_] _ (.inl rfl) rfl en103 rfl rfl (fun i=>.agg #[.int .i64 (i.1.1).op,.int .i64 (i.1.1).n,st (i.1.1).mod,st (i.1.1).nm,.slice i.1.2.1 (i.1.1).args.length i.1.2.2]) (fun i=>glassL gb i.2.1 i.2.2) (fun F i=>exprP f q19=some (i.1.1,i.2.2)∧Sl (RdE f) 5 F i.1.2.1 i.1.2.2 i.1.1.args∧Sl rdTok 3 HT i.2.1.1 i.2.1.2 i.2.2) (fun _=>brk) (fun i=>glassL gb i.1 i.2) (fun _=>exprP f q19=none) ([HT]) (by simp) (fun _ _ h=>h) (fun w hw=>(hE gb r19 q19 d w hfd ok19 hm19 hw).mono fun e w' h=>by
       rcases h with ⟨x,s,r2,q,h1,h2,h3,h4,h5⟩ | ⟨r2,q,h1,h2,h3⟩
       · exact .inl ⟨((x,s),r2,q),h1,⟨h2,h3,h4⟩,h5⟩
       · exact .inr ⟨(r2,q),h1,h2,h3⟩) ?_ ?_
   ·
    intro ⟨rp,qp⟩ hp
    refine Ep ?_
    refine WE.block_panic ?_
    refine Ep ?_
    refine Ep ?_
    refine WE.block_panic ?_
    refine Ep ?_
    refine Epp fun w' hw=>?_
    exact .inr ⟨rp,qp,rfl,by rw [twoP,hq11]; simp only [Option.bind_some]; rw [hop]; simp only [Option.bind_some]; rw [hp]; rfl,(by have h:=hw; have h:=Ws.keep (L:=[_]) h; have h:=Ws.drops h (Vs':=[HT]) (by simp); exact h)⟩
   intro F22 ⟨⟨x22,s22⟩,r22,q22⟩ hf22 ⟨hq22,hx22,hm22⟩
   have ok22:TOk q22:=tExpr ok19 hq22
   have le22:q22.length+1≤List.length (q19):=expr_len ok19 hq22
   refine WL.vjoin fun J22 j22a j22b j22f=>?_
   refine WL.alloc (.inl rfl) rfl zr81 fun b8=>?_
   refine Lst 0 (.inl rfl) rfl rfl rfl sz81 rfl rfl rfl ?_
   refine Ln (Et (Cs (Cr ?_)))
   refine V0 (Ym rfl) ?_
   refine Lb (.inl rfl) rfl el22 rfl rfl rfl rfl fun b24=>?_
   refine Lsv (T:=9) (m:=1) 0 [[41]] rfl rfl (show 1≤1 by decide) (by decide) fun H24 hH24=>?_
   refine Lf 1 rfl ?_
   refine Lwx (ι:=(Option Addr×Nat)×Tk) (κ:=(Option Addr×Nat)×Tk) [_] _ (.inl rfl) rfl en50 rfl rfl (fun _=>.tuple #[]) (fun i=>glassL gb i.1 i.2) (fun i=>mustT [[41]] q22=some i.2∧Sl rdTok 3 HT i.1.1 i.1.2 i.2) (fun _=>brk) (fun i=>glassL gb i.1 i.2) (fun _=>mustT [[41]] q22=none) ([HT,H24]) (by simp) (fun w hw=>(must_any gb HT r22 q22 H24 _ _ [[41]] w hH24 hm22 hw).mono fun e w' h=>by
       rcases h with ⟨r2,q,h1,h2,h3,h4⟩ | ⟨r2,q,h1,h2,h3⟩
       · exact .inl ⟨(r2,q),h1,⟨h2,h3⟩,h4⟩
       · exact .inr ⟨(r2,q),h1,h2,h3⟩) ?_ ?_
   ·
    intro ⟨rp,qp⟩ hp
    refine Ep ?_
    refine WE.block_panic ?_
    refine Ep ?_
    refine Ep ?_
    refine WE.block_panic ?_
    refine Ep ?_
    refine Epp fun w' hw=>?_
    exact .inr ⟨rp,qp,rfl,by rw [twoP,hq11]; simp only [Option.bind_some]; rw [hop]; simp only [Option.bind_some]; rw [hq22]; simp only [Option.bind_some]; rw [←must1,hp]; rfl,(by have h:=hw; have h:=Ws.keep (L:=[_]) h; have h:=Ws.drops h (Vs':=[HT]) (by simp); exact h)⟩
   intro ⟨r25,q25⟩ ⟨hq25,hm25⟩
   have ok25:=tMust ok22 hq25
   refine Ln (Et (Cs (Cr ?_)))
   refine V0 (Ym rfl) ?_
   refine V0 (yl_addv ((7:Int)+(g.1:Int)) rfl rfl rfl (by omega)) ?_
   refine V0 (Yda 2 rfl rfl ag81 rfl) ?_
   refine V0 (Yda 1 rfl rfl ag81 rfl) ?_
   refine Lb (.inl rfl) rfl el41 rfl rfl rfl rfl fun b30=>?_
   refine LN (rd:=rdXE) (f:=XE.cells) (m:=2) 0 [(x11,s11.1,s11.2),(x22,s22.1,s22.2)] rfl rfl (fun k hk=>by simp [glassL,blk] at hk; subst hk; simp [outOf,glassL,blk,osl]) XE.cells_len (fun _ _ _ _ h=>h) (show 2≤2 by decide) (by decide) fun H30 fH30 hH30=>?_
   refine V0 (Yb zr81 pl81 rfl rfl) ?_
   refine Lst 3 (.inl rfl) rfl rfl rfl sz81 rfl rfl rfl ?_
   refine Ln (Et (Crt (Ebr (Er (Er ?_)))))
   refine Ebr (Er ?_)
   refine WE.retR (rs_1 rfl (rv_agg 3 rfl rfl ag81 rfl)) fun w' hw=>?_
   exact .inl ⟨TExpr.mk (7+(g.1:Int)) 0 [] [] [x11,x22],(some ⟨b30,0,none⟩,2),r25,q25,rfl,by rw [twoP,hq11]; simp only [Option.bind_some]; rw [hop]; simp only [Option.bind_some]; rw [hq22]; simp only [Option.bind_some]; rw [←must1,hq25]; rfl,slE_of hH30 (nv_vs hw (by simp) fH30) (nv_vs hw (by simp) (j22f _ hf22 hf11)) (((XEs.nil J22 f).snoc (VLe.refl _) j22b hx11).snoc (VLe.refl _) j22a hx22),hm25,Ws.drops (Ws.keep (L:=[_]) hw) (fun _ hm=>List.mem_append_right [_,_,_] hm)⟩
  ·
   obtain ⟨hn19,hl19⟩:=h19f hc1
   subst hl19
   refine Ck (Eb (Et (Cr ?_)))
   refine V0 (Yi rfl rfl rfl (by omega)) ?_
   refine V0 (Ym rfl) ?_
   refine Ln ?_
   exact Ea ((g.1+1,r19):Nat×(Option Addr×Nat)) (by show 9-(g.1+1)<9-g.1; omega) ⟨by show g.1+1≤9; omega,fun j v hj hv=>by
       rcases Nat.lt_succ_iff_lt_or_eq.1 hj with h | rfl
       · exact hall j v h hv
       · rw [hoi] at hv; injection hv with hv; subst hv; exact hn19,hm19⟩ (sc rfl (sc rfl (sc rfl (sc rfl (sc rfl (sc rfl sn)))))) (fun _ h=>h)
 ·
  have hge:¬g.1<9:=by simp at hc0; omega
  have hmiss:opP opsL 0 q11=none:=opP_miss _ _ _ fun v hv=>by
    obtain ⟨j,hj⟩:=List.getElem?_of_mem hv
    exact hall j v (by have:=(List.getElem?_eq_some_iff.1 hj).1; have:opsL.length=9:=rfl; omega) hj
  refine Ce (Ex (Ex (Ebh (Et (Cr ?_)))))
  refine V0 (Yb zr75 pl75 rfl rfl) ?_
  refine V0 (yl_mki co75 rfl) ?_
  refine WL.panic (.inl rfl) rfl ?_
  refine Epp fun w' hw=>?_
  exact .inr ⟨g.2,q11,rfl,by rw [twoP,hq11]; simp only [Option.bind_some]; rw [hmiss]; rfl,(by have h:=hw; have h:=Ws.keep (L:=[_]) h; have h:=Ws.drops h (Vs':=[HT]) (by simp); exact h)⟩
theorem gexpr_any (HT:View) (f:Nat) (gb:Nat) (r:Option Addr×Nat) (l:Tk) (d:Nat) (w:World) (hfd:f+d=7) (hok:TOk l) (hm:Sl rdTok 3 HT r.1 r.2 l) (hw:Ws w (List.flatMap Asr.ids (glassL gb r l)) (glassL gb r l) [HT] w) :
   Calls Tryz.prog 103 #[.pointer (some ⟨gb,0,none⟩),.int .i64 (d:Int)] w fun e w'=>(∃(x:TExpr) (s:Option Addr×Nat) (r2:Option Addr×Nat) (q:Tk),e = .returned (.agg #[.int .i64 (x).op,.int .i64 (x).n,st (x).mod,st (x).nm,.slice s.1 (x).args.length s.2])∧exprP f l=some (x,q)∧Sl (RdE f) 5 (nv w w') s.1 s.2 x.args∧Sl rdTok 3 HT r2.1 r2.2 q∧Ws w (List.flatMap Asr.ids (glassL gb r l)) (glassL gb r2 q) [HT] w')∨(∃(r2:Option Addr×Nat) (q:Tk),e = .panicked brk∧exprP f l=none∧Ws w (List.flatMap Asr.ids (glassL gb r l)) (glassL gb r2 q) [HT] w'):=by
 induction f using Nat.strongRecOn generalizing gb r l d w
 rename_i f ih
 have hcap:=hm.cap
 have hmax:=hm.max
 refine enter Tryz.func103 rfl 83 rfl rfl ?_
 refine CWd (W':=Ws w (List.flatMap Asr.ids (glassL gb r l)) (glassL gb r l) [HT]) (fun _ e=>by subst e; exact hw) ?_
 refine Cs (Cr ?_)
 refine WL.alloc (.inl rfl) rfl zr81 fun b4=>?_
 refine Lrb 0 (.cells (exprV (TExpr.mk 0 0 [] [] []) none 0).toArray 81 (0,0)) rfl rfl ?_
 refine Ln (Et (Cs (Cs (Cr ?_))))
 refine V0 (Ym rfl) ?_
 refine V0 (yl_gt rfl rfl) ?_
 refine V0 (Ym rfl) ?_
 apply WL.or 6 rfl rfl rfl rfl (.inl rfl) rfl rfl rfl rfl rfl
 ·
  intro hg0
  refine Lv (.g rfl rfl rfl) rfl (Ym rfl) ?_
  refine Lv (.g rfl rfl rfl) rfl (yl_nil rfl) ?_
  refine Lv (.g rfl rfl rfl) rfl (Yf fo73_0 rfl) ?_
  refine Lv (.g rfl rfl rfl) rfl (Yd 1 rfl rfl rfl na61) ?_
  refine Lv (.g rfl rfl rfl) rfl (Yn es61 rfl) ?_
  refine Lv (.g rfl rfl rfl) rfl (yl_eq rfl rfl) ?_
  exact Gt 6 rfl rfl rfl
 refine Ln (Et ?_)
 refine Cc rfl (fun hc0=>?_) (fun hc0=>?_)
 ·
  have hno:exprP f l=none:=exprP_none hfd (by
    simp at hc0
    rcases hc0 with h | h
    · left; omega
    · right; exact h)
  refine Cr ?_
  refine V0 (Yb zr75 pl75 rfl rfl) ?_
  refine V0 (yl_mki co75 rfl) ?_
  refine WL.panic (.inl rfl) rfl ?_
  refine Ep ?_
  refine Epp fun w' hw=>?_
  exact .inr ⟨r,l,rfl,hno,(by have h:=hw; have h:=h.fronti 1 rfl; have h:=Ws.keep (L:=[_]) h; exact h)⟩
 ·
  have hd6:¬6<d:=by
    intro h
    have h2:(6:Int)<(d:Int):=by omega
    simp [h2] at hc0
  obtain ⟨f,rfl⟩:∃k,f=k+1:=⟨f-1,by omega⟩
  obtain ⟨t0,r0,rfl⟩:∃t r,l=t::r:=by
    cases l with
    | nil=>simp at hc0
    | cons t r=>exact ⟨t,r,rfl⟩
  obtain ⟨pbt,pot,hat,hrt⟩:=hm.elt 0 t0 rfl
  have hrt:RdC HT pbt (pot+0*3) t0.cells:=hrt
  have hE:GlassE HT f:=fun gb r l d w h1 h2 h3 h4=>ih f (by omega) gb r l d w h1 h2 h3 h4
  refine Ck (Et (Cs (Cb (Cs (Cr ?_)))))
  refine V0 (Ym rfl) ?_
  refine V0 (yl_nil rfl) ?_
  refine V0 (Yf fo73_0 rfl) ?_
  refine V0 (Yd 1 rfl rfl rfl na61) ?_
  refine V0 (Yo (i:=0) es61 rfl rfl hat (by simp)) ?_
  refine V0 (Yf fo66_0 rfl) ?_
  refine V0 (yl_ld 0 na3 rfl rfl (hrt 0 _ rfl)) ?_
  refine V0 (yl_eq rfl rfl) ?_
  refine V0 (Ya rfl) ?_
  refine Ln (Et ?_)
  refine Cc rfl (fun hc1=>?_) (fun hc1=>?_)
  ·
   have hk:t0.kind=2:=by simpa using hc1
   refine Cs (Cr ?_)
   refine V0 (Ym rfl) ?_
   refine Lf 1 rfl ?_
   refine Lwx (ι:=(Int)×(Option Addr×Nat)×Tk) (κ:=(Option Addr×Nat)×Tk) [_] _ (.inl rfl) rfl en79 rfl rfl (fun i=>.int .i64 i.1) (fun i=>glassL gb i.2.1 i.2.2) (fun i=>numP (t0::r0)=some (i.1,i.2.2)∧Sl rdTok 3 HT i.2.1.1 i.2.1.2 i.2.2) (fun _=>brk) (fun i=>glassL gb i.1 i.2) (fun _=>numP (t0::r0)=none) ([HT]) (by simp) (fun w hw=>(gnum_any gb HT r (t0::r0) w hm hw).mono fun e w' h=>by
       rcases h with ⟨t,r2,q,h1,h2,h3,h4⟩ | ⟨r2,q,h1,h2,h3⟩
       · exact .inl ⟨(t,r2,q),h1,⟨h2,h3⟩,h4⟩
       · exact .inr ⟨(r2,q),h1,h2,h3⟩) ?_ ?_
   ·
    intro ⟨rp,qp⟩ hp
    refine Ep ?_
    refine WE.block_panic ?_
    refine Ep ?_
    refine Epp fun w' hw=>?_
    rw [numP_cons hk] at hp
    cases hp
   intro ⟨n30,r30,q30⟩ ⟨hq30,hm30⟩
   have ok30:=tNum hok hq30
   refine V0 (Yb zr81 pl81 rfl rfl) ?_
   rw [numP_cons hk] at hq30
   injection hq30 with hq30
   injection hq30 with hn30 hq30
   subst hn30
   subst hq30
   refine Lst 1 (.inl rfl) rfl rfl rfl sz81 rfl rfl rfl ?_
   refine Ln (Et (Crt (Ebr (Er ?_))))
   refine WE.retR (rs_1 rfl (rv_agg 1 rfl rfl ag81 rfl)) fun w' hw=>?_
   exact .inl ⟨TExpr.mk 1 t0.n [] [] [],(none,0),r30,r0,rfl,exprP_num hk,Sl.nil,hm30,Ws.keep (L:=[_]) hw⟩
  ·
   have hk:¬t0.kind=2:=by simpa using hc1
   have hR:=exprP_rest (f:=f) (r:=r0) hk
   refine Cs (Cr ?_)
   refine V0 (Ym rfl) ?_
   refine Lf 1 rfl ?_
   refine Lw (ι:=Bool×(Option Addr×Nat)×Tk) [_] _ (.inl rfl) rfl en52 rfl rfl (fun i=>.bool i.1) (fun i=>glassL gb i.2.1 i.2.2) (fun i=>(i.1=true→hasT [105,110] (t0::r0)=some i.2.2)∧(i.1=false→hasT [105,110] (t0::r0)=none∧(t0::r0)=i.2.2)∧Sl rdTok 3 HT i.2.1.1 i.2.1.2 i.2.2) [HT] (by simp) (fun w hw=>has_any gb HT r (t0::r0) [105,110] w hm hw) ?_
   intro ⟨b34,r34,q34⟩ ⟨h34t,h34f,hm34⟩
   refine V0 (Ya rfl) ?_
   refine Ln (Et ?_)
   refine Cc rfl (fun hc2=>?_) (fun hc2=>?_)
   ·
    have hq34:=h34t hc2
    have ok34:=tHas hok hq34
    refine Cs (Cr ?_)
    refine V0 (Yb zr81 pl81 rfl rfl) ?_
    refine Lst 1 (.inl rfl) rfl rfl rfl sz81 rfl rfl rfl ?_
    refine Ln (Et (Crt (Ebr (Er ?_))))
    refine WE.retR (rs_1 rfl (rv_agg 1 rfl rfl ag81 rfl)) fun w' hw=>?_
    exact .inl ⟨TExpr.mk 2 0 [] [] [],(none,0),r34,q34,rfl,by rw [hR,restP_1 hq34],Sl.nil,hm34,Ws.keep (L:=[_]) hw⟩
   ·
    obtain ⟨hn34,hl34⟩:=h34f hc2
    subst hl34
    refine Cs (Cr ?_)
    refine V0 (Ym rfl) ?_
    refine Lf 0 rfl ?_
    refine Lw (ι:=Bool×(Option Addr×Nat)×Tk) [_] _ (.inl rfl) rfl en52 rfl rfl (fun i=>.bool i.1) (fun i=>glassL gb i.2.1 i.2.2) (fun i=>(i.1=true→hasT [33] (t0::r0)=some i.2.2)∧(i.1=false→hasT [33] (t0::r0)=none∧(t0::r0)=i.2.2)∧Sl rdTok 3 HT i.2.1.1 i.2.1.2 i.2.2) [HT] (by simp) (fun w hw=>has_any gb HT r34 (t0::r0) [33] w hm34 hw) ?_
    intro ⟨b38,r38,q38⟩ ⟨h38t,h38f,hm38⟩
    refine V0 (Ya rfl) ?_
    refine Ln (Et ?_)
    refine Cc rfl (fun hc3=>?_) (fun hc3=>?_)
    ·
     have hq38:=h38t hc3
     have ok38:=tHas hok hq38
     refine Cs (Cr ?_)
     refine V0 (Ym rfl) ?_
     refine V0 (Ym rfl) ?_
     refine V0 (Yi rfl rfl rfl (by omega)) ?_
     refine Lf 0 rfl ?_
     refine Lwy (ι:=(TExpr×(Option Addr×Nat))×(Option Addr×Nat)×Tk) (κ:=(Option Addr×Nat)×Tk) [_] _ (.inl rfl) rfl en103 rfl rfl (fun i=>.agg #[.int .i64 (i.1.1).op,.int .i64 (i.1.1).n,st (i.1.1).mod,st (i.1.1).nm,.slice i.1.2.1 (i.1.1).args.length i.1.2.2]) (fun i=>glassL gb i.2.1 i.2.2) (fun F i=>exprP f q38=some (i.1.1,i.2.2)∧Sl (RdE f) 5 F i.1.2.1 i.1.2.2 i.1.1.args∧Sl rdTok 3 HT i.2.1.1 i.2.1.2 i.2.2) (fun _=>brk) (fun i=>glassL gb i.1 i.2) (fun _=>exprP f q38=none) ([HT]) (by simp) (fun _ _ h=>h) (fun w hw=>(hE gb r38 q38 (d+1) w (by omega) ok38 hm38 hw).mono fun e w' h=>by
         rcases h with ⟨x,s,r2,q,h1,h2,h3,h4,h5⟩ | ⟨r2,q,h1,h2,h3⟩
         · exact .inl ⟨((x,s),r2,q),h1,⟨h2,h3,h4⟩,h5⟩
         · exact .inr ⟨(r2,q),h1,h2,h3⟩) ?_ ?_
     ·
      intro ⟨rp,qp⟩ hp
      refine Ep ?_
      refine WE.block_panic ?_
      refine Ep ?_
      refine Epp fun w' hw=>?_
      exact .inr ⟨rp,qp,rfl,by rw [hR,restP_2 hn34 hq38,hp]; rfl,(by have h:=hw; have h:=Ws.keep (L:=[_]) h; exact h)⟩
     intro F42 ⟨⟨x42,s42⟩,r42,q42⟩ hf42 ⟨hq42,hx42,hm42⟩
     have ok42:TOk q42:=tExpr ok38 hq42
     have le42:q42.length+1≤List.length (q38):=expr_len ok38 hq42
     refine Lb (.inl rfl) rfl el41 rfl rfl rfl rfl fun b43=>?_
     refine LN (rd:=rdXE) (f:=XE.cells) (m:=1) 0 [(x42,s42.1,s42.2)] rfl rfl (fun k hk=>by simp [glassL,blk] at hk; subst hk; simp [outOf,glassL,blk,osl]) XE.cells_len (fun _ _ _ _ h=>h) (show 1≤1 by decide) (by decide) fun H43 fH43 hH43=>?_
     refine V0 (Yb zr81 pl81 rfl rfl) ?_
     refine Lst 1 (.inl rfl) rfl rfl rfl sz81 rfl rfl rfl ?_
     refine Ln (Et (Crt (Ebr (Er ?_))))
     refine WE.retR (rs_1 rfl (rv_agg 1 rfl rfl ag81 rfl)) fun w' hw=>?_
     exact .inl ⟨TExpr.mk 6 0 [] [] [x42],(some ⟨b43,0,none⟩,1),r42,q42,rfl,by rw [hR,restP_2 hn34 hq38,hq42]; rfl,slE_of hH43 (nv_vs hw (by simp) fH43) (nv_vs hw (by simp) hf42) ((XEs.nil F42 f).snoc (VLe.refl _) (VLe.refl _) hx42),hm42,Ws.drops (Ws.keep (L:=[_]) hw) (fun _ hm=>List.mem_append_right [_,_] hm)⟩
    ·
     obtain ⟨hn38,hl38⟩:=h38f hc3
     subst hl38
     refine Cs (Cr ?_)
     refine V0 (Ym rfl) ?_
     refine Lf 0 rfl ?_
     refine Lw (ι:=Bool×(Option Addr×Nat)×Tk) [_] _ (.inl rfl) rfl en52 rfl rfl (fun i=>.bool i.1) (fun i=>glassL gb i.2.1 i.2.2) (fun i=>(i.1=true→hasT [40] (t0::r0)=some i.2.2)∧(i.1=false→hasT [40] (t0::r0)=none∧(t0::r0)=i.2.2)∧Sl rdTok 3 HT i.2.1.1 i.2.1.2 i.2.2) [HT] (by simp) (fun w hw=>has_any gb HT r38 (t0::r0) [40] w hm38 hw) ?_
     intro ⟨b47,r47,q47⟩ ⟨h47t,h47f,hm47⟩
     refine V0 (Ya rfl) ?_
     refine Ln (Et ?_)
     refine Cc rfl (fun hc4=>?_) (fun hc4=>?_)
     ·
      have hq47:=h47t hc4
      have ok47:=tHas hok hq47
      refine Cs (Cr ?_)
      refine V0 (Ym rfl) ?_
      refine V0 (Ym rfl) ?_
      refine V0 (Yi rfl rfl rfl (by omega)) ?_
      refine Lf 0 rfl ?_
      refine Lwy (ι:=((TExpr)×(Option Addr×Nat))×(Option Addr×Nat)×Tk) (κ:=(Option Addr×Nat)×Tk) [_] _ (.inl rfl) rfl en123 rfl rfl (fun i=>.agg #[.int .i64 (i.1.1).op,.int .i64 (i.1.1).n,st (i.1.1).mod,st (i.1.1).nm,.slice i.1.2.1 (i.1.1).args.length i.1.2.2]) (fun i=>glassL gb i.2.1 i.2.2) (fun F i=>twoP (exprP f) q47=some (i.1.1,i.2.2)∧Sl (RdE (f+1)) 5 F i.1.2.1 i.1.2.2 i.1.1.args∧Sl rdTok 3 HT i.2.1.1 i.2.1.2 i.2.2) (fun _=>brk) (fun i=>glassL gb i.1 i.2) (fun _=>twoP (exprP f) q47=none) ([HT]) (by simp) (fun _ _ h=>h) (fun w hw=>(gtwo_any gb HT r47 q47 f (d+1) w hE (by omega) ok47 hm47 hw).mono fun e w' h=>by
          rcases h with ⟨x,s,r2,q,h1,h2,h3,h4,h5⟩ | ⟨r2,q,h1,h2,h3⟩
          · exact .inl ⟨((x,s),r2,q),h1,⟨h2,h3,h4⟩,h5⟩
          · exact .inr ⟨(r2,q),h1,h2,h3⟩) ?_ ?_
      ·
       intro ⟨rp,qp⟩ hp
       refine Ep ?_
       refine WE.block_panic ?_
       refine Ep ?_
       refine Epp fun w' hw=>?_
       exact .inr ⟨rp,qp,rfl,by rw [hR,restP_3 hn34 hn38 hq47,hp],(by have h:=hw; have h:=Ws.keep (L:=[_]) h; exact h)⟩
      intro F51 ⟨⟨x51,s51⟩,r51,q51⟩ hf51 ⟨hq51,hx51,hm51⟩
      refine Lst 1 (.inl rfl) rfl rfl rfl sz81 rfl rfl rfl ?_
      refine Ln (Et (Crt (Ebr (Er ?_))))
      refine WE.retR (rs_1 rfl (rv_agg 1 rfl rfl ag81 rfl)) fun w' hw=>?_
      exact .inl ⟨x51,s51,r51,q51,rfl,by rw [hR,restP_3 hn34 hn38 hq47,hq51],slE_mv hx51 (nv_vs hw (by simp) hf51),hm51,Ws.drops (Ws.keep (L:=[_]) hw) (fun _ hm=>List.mem_append_right [_] hm)⟩
     ·
      obtain ⟨hn47,hl47⟩:=h47f hc4
      subst hl47
      refine Ck (Eb (Et (Cs (Cr ?_))))
      refine V0 (Ym rfl) ?_
      refine Lf 0 rfl ?_
      refine Lwx (ι:=(Tx×Tx)×(Option Addr×Nat)×Tk) (κ:=(Option Addr×Nat)×Tk) [_] _ (.inl rfl) rfl en104 rfl rfl (fun i=>.tuple #[st i.1.1,st i.1.2]) (fun i=>glassL gb i.2.1 i.2.2) (fun i=>refP (t0::r0)=some (i.1,i.2.2)∧Sl rdTok 3 HT i.2.1.1 i.2.1.2 i.2.2) (fun _=>brk) (fun i=>glassL gb i.1 i.2) (fun _=>refP (t0::r0)=none) ([HT]) (by simp) (fun w hw=>(gref_any gb HT r47 (t0::r0) w hok hm47 hw).mono fun e w' h=>by
          rcases h with ⟨t,r2,q,h1,h2,h3,h4⟩ | ⟨r2,q,h1,h2,h3⟩
          · exact .inl ⟨(t,r2,q),h1,⟨h2,h3⟩,h4⟩
          · exact .inr ⟨(r2,q),h1,h2,h3⟩) ?_ ?_
      ·
       intro ⟨rp,qp⟩ hp
       refine Ep ?_
       refine Epp fun w' hw=>?_
       exact .inr ⟨rp,qp,rfl,by rw [hR,restP_4 hn34 hn38 hn47,hp]; rfl,(by have h:=hw; have h:=Ws.keep (L:=[_]) h; exact h)⟩
      intro ⟨p54,r54,q54⟩ ⟨hq54,hm54⟩
      have ok54:=tRef hok hq54
      refine V0 (Ym rfl) ?_
      refine V0 (Yx rfl rfl) ?_
      refine V0 (Yx rfl rfl) ?_
      refine V0 (Ya rfl) ?_
      refine V0 (Ya rfl) ?_
      refine Ln (Et (Cs (Cr ?_)))
      refine V0 (Ym rfl) ?_
      refine V0 (Ym rfl) ?_
      refine V0 (Yb zr81 pl81 rfl rfl) ?_
      refine WL.alloc (.inl rfl) rfl zr81 fun b7=>?_
      refine Lst 0 (.inl rfl) rfl rfl rfl sz81 rfl rfl rfl ?_
      refine Ln (Et (Cs (Cb (Cs (Cr ?_)))))
      refine V0 (Ym rfl) ?_
      refine Lf 1 rfl ?_
      refine Lw (ι:=Bool×(Option Addr×Nat)×Tk) [_] _ (.inl rfl) rfl en52 rfl rfl (fun i=>.bool i.1) (fun i=>glassL gb i.2.1 i.2.2) (fun i=>(i.1=true→hasT [91] q54=some i.2.2)∧(i.1=false→hasT [91] q54=none∧q54=i.2.2)∧Sl rdTok 3 HT i.2.1.1 i.2.1.2 i.2.2) [HT] (by simp) (fun w hw=>has_any gb HT r54 q54 [91] w hm54 hw) ?_
      intro ⟨b62,r62,q62⟩ ⟨h62t,h62f,hm62⟩
      refine V0 (Ya rfl) ?_
      refine Ln (Et ?_)
      refine Cc rfl (fun hc5=>?_) (fun hc5=>?_)
      ·
       have hq62:=h62t hc5
       have ok62:=tHas ok54 hq62
       refine Cs (Cr ?_)
       refine V0 (Ym rfl) ?_
       refine V0 (Ym rfl) ?_
       refine V0 (Yi rfl rfl rfl (by omega)) ?_
       refine Lf 0 rfl ?_
       refine Lwy (ι:=(TExpr×(Option Addr×Nat))×(Option Addr×Nat)×Tk) (κ:=(Option Addr×Nat)×Tk) [_] _ (.inl rfl) rfl en103 rfl rfl (fun i=>.agg #[.int .i64 (i.1.1).op,.int .i64 (i.1.1).n,st (i.1.1).mod,st (i.1.1).nm,.slice i.1.2.1 (i.1.1).args.length i.1.2.2]) (fun i=>glassL gb i.2.1 i.2.2) (fun F i=>exprP f q62=some (i.1.1,i.2.2)∧Sl (RdE f) 5 F i.1.2.1 i.1.2.2 i.1.1.args∧Sl rdTok 3 HT i.2.1.1 i.2.1.2 i.2.2) (fun _=>brk) (fun i=>glassL gb i.1 i.2) (fun _=>exprP f q62=none) ([HT]) (by simp) (fun _ _ h=>h) (fun w hw=>(hE gb r62 q62 (d+1) w (by omega) ok62 hm62 hw).mono fun e w' h=>by
           rcases h with ⟨x,s,r2,q,h1,h2,h3,h4,h5⟩ | ⟨r2,q,h1,h2,h3⟩
           · exact .inl ⟨((x,s),r2,q),h1,⟨h2,h3,h4⟩,h5⟩
           · exact .inr ⟨(r2,q),h1,h2,h3⟩) ?_ ?_
       ·
        intro ⟨rp,qp⟩ hp
        refine Ep ?_
        refine WE.block_panic ?_
        refine Ep ?_
        refine Epp fun w' hw=>?_
        exact .inr ⟨rp,qp,rfl,by rw [hR,restP_4 hn34 hn38 hn47,hq54]; simp only [Option.bind_some]; rw [tailP_1 hq62,hp]; rfl,(by have h:=hw; have h:=Ws.keep (L:=[_]) h; exact h)⟩
       intro F66 ⟨⟨x66,s66⟩,r66,q66⟩ hf66 ⟨hq66,hx66,hm66⟩
       have ok66:TOk q66:=tExpr ok62 hq66
       have le66:q66.length+1≤List.length (q62):=expr_len ok62 hq66
       refine Lb (.inl rfl) rfl el41 rfl rfl rfl rfl fun b67=>?_
       refine LN (rd:=rdXE) (f:=XE.cells) (m:=1) 0 [(x66,s66.1,s66.2)] rfl rfl (fun k hk=>by simp [glassL,blk] at hk; subst hk; simp [outOf,glassL,blk,osl]) XE.cells_len (fun _ _ _ _ h=>h) (show 1≤1 by decide) (by decide) fun H67 fH67 hH67=>?_
       refine V0 (Yf fo81_0 rfl) ?_
       refine Lst 1 (.inl rfl) rfl rfl rfl sz3 rfl rfl rfl ?_
       refine V0 (Yf fo81_4 rfl) ?_
       refine Lst 1 (.inl rfl) rfl rfl rfl sz41 rfl rfl rfl ?_
       refine Ln (Et (Cr ?_))
       refine V0 (Ym rfl) ?_
       refine Lb (.inl rfl) rfl el22 rfl rfl rfl rfl fun b71=>?_
       refine Lsv (T:=9) (m:=1) 0 [[93]] rfl rfl (show 1≤1 by decide) (by decide) fun H71 hH71=>?_
       refine Lf 0 rfl ?_
       refine Lwx (ι:=(Option Addr×Nat)×Tk) (κ:=(Option Addr×Nat)×Tk) [_] _ (.inl rfl) rfl en50 rfl rfl (fun _=>.tuple #[]) (fun i=>glassL gb i.1 i.2) (fun i=>mustT [[93]] q66=some i.2∧Sl rdTok 3 HT i.1.1 i.1.2 i.2) (fun _=>brk) (fun i=>glassL gb i.1 i.2) (fun _=>mustT [[93]] q66=none) ([HT,H71]) (by simp) (fun w hw=>(must_any gb HT r66 q66 H71 _ _ [[93]] w hH71 hm66 hw).mono fun e w' h=>by
           rcases h with ⟨r2,q,h1,h2,h3,h4⟩ | ⟨r2,q,h1,h2,h3⟩
           · exact .inl ⟨(r2,q),h1,⟨h2,h3⟩,h4⟩
           · exact .inr ⟨(r2,q),h1,h2,h3⟩) ?_ ?_
       ·
        intro ⟨rp,qp⟩ hp
        refine WE.block_panic ?_
        refine Ep ?_
        refine Epp fun w' hw=>?_
        exact .inr ⟨rp,qp,rfl,by rw [hR,restP_4 hn34 hn38 hn47,hq54]; simp only [Option.bind_some]; rw [tailP_1 hq62,hq66]; simp only [Option.bind_some]; rw [←must1,hp]; rfl,(by have h:=hw; have h:=Ws.keep (L:=[_]) h; have h:=Ws.drops h (Vs':=[HT]) (by simp); exact h)⟩
       intro ⟨r72,q72⟩ ⟨hq72,hm72⟩
       have ok72:=tMust ok66 hq72
       refine Ln (Eb (Et (Cs (Cr ?_))))
       refine V0 (Yda 1 rfl rfl ag81 rfl) ?_
       refine Lst 2 (.inl rfl) rfl rfl rfl sz81 rfl rfl rfl ?_
       refine Ln (Et (Crt ?_))
       refine WE.retR (rs_1 rfl (rv_agg 2 rfl rfl ag81 rfl)) fun w' hw=>?_
       exact .inl ⟨TExpr.mk 4 0 p54.1 p54.2 [x66],(some ⟨b67,0,none⟩,1),r72,q72,rfl,by rw [hR,restP_4 hn34 hn38 hn47,hq54]; simp only [Option.bind_some]; rw [tailP_1 hq62,hq66]; simp only [Option.bind_some]; rw [←must1,hq72]; rfl,slE_of hH67 (nv_vs hw (by simp) fH67) (nv_vs hw (by simp) hf66) ((XEs.nil F66 f).snoc (VLe.refl _) (VLe.refl _) hx66),hm72,Ws.drops (Ws.keep (L:=[_]) hw) (fun _ hm=>List.mem_append_right [_,_,_] hm)⟩
      ·
       obtain ⟨hn62,hl62⟩:=h62f hc5
       subst hl62
       refine Cs (Cr ?_)
       refine V0 (Ym rfl) ?_
       refine Lf 0 rfl ?_
       refine Lw (ι:=Bool×(Option Addr×Nat)×Tk) [_] _ (.inl rfl) rfl en52 rfl rfl (fun i=>.bool i.1) (fun i=>glassL gb i.2.1 i.2.2) (fun i=>(i.1=true→hasT [40] q54=some i.2.2)∧(i.1=false→hasT [40] q54=none∧q54=i.2.2)∧Sl rdTok 3 HT i.2.1.1 i.2.1.2 i.2.2) [HT] (by simp) (fun w hw=>has_any gb HT r62 q54 [40] w hm62 hw) ?_
       intro ⟨b75,r75,q75⟩ ⟨h75t,h75f,hm75⟩
       refine V0 (Ya rfl) ?_
       refine Ln (Et ?_)
       refine Cc rfl (fun hc6=>?_) (fun hc6=>?_)
       ·
        have hq75:=h75t hc6
        have ok75:=tHas ok54 hq75
        refine Cr ?_
        refine V0 (Ym rfl) ?_
        refine V0 (Ym rfl) ?_
        refine V0 (Yi rfl rfl rfl (by omega)) ?_
        refine Lf 0 rfl ?_
        refine Lwy (ι:=((List TExpr)×(Option Addr×Nat))×(Option Addr×Nat)×Tk) (κ:=(Option Addr×Nat)×Tk) [_] _ (.inl rfl) rfl en105 rfl rfl (fun i=>.slice i.1.2.1 i.1.1.length i.1.2.2) (fun i=>glassL gb i.2.1 i.2.2) (fun F i=>argsP (exprP f) q75=some (i.1.1,i.2.2)∧Sl (RdE (f+1)) 5 F i.1.2.1 i.1.2.2 i.1.1∧Sl rdTok 3 HT i.2.1.1 i.2.1.2 i.2.2) (fun _=>brk) (fun i=>glassL gb i.1 i.2) (fun _=>argsP (exprP f) q75=none) ([HT]) (by simp) (fun _ _ h=>h) (fun w hw=>(gargs_any gb HT r75 q75 f (d+1) w hE (by omega) ok75 hm75 hw).mono fun e w' h=>by
            rcases h with ⟨x,s,r2,q,h1,h2,h3,h4,h5⟩ | ⟨r2,q,h1,h2,h3⟩
            · exact .inl ⟨((x,s),r2,q),h1,⟨h2,h3,h4⟩,h5⟩
            · exact .inr ⟨(r2,q),h1,h2,h3⟩) ?_ ?_
        ·
         intro ⟨rp,qp⟩ hp
         refine WE.block_panic ?_
         refine Ep ?_
         refine Epp fun w' hw=>?_
         exact .inr ⟨rp,qp,rfl,by rw [hR,restP_4 hn34 hn38 hn47,hq54]; simp only [Option.bind_some]; rw [tailP_2 hn62 hq75,hp]; rfl,(by have h:=hw; have h:=Ws.keep (L:=[_]) h; exact h)⟩
        intro F79 ⟨⟨xs79,s79⟩,r79,q79⟩ hf79 ⟨hq79,hx79,hm79⟩
        refine V0 (Yf fo81_0 rfl) ?_
        refine Lst 1 (.inl rfl) rfl rfl rfl sz3 rfl rfl rfl ?_
        refine V0 (Yf fo81_4 rfl) ?_
        refine Lst 1 (.inl rfl) rfl rfl rfl sz41 rfl rfl rfl ?_
        refine Ln (Eb (Et (Cs (Cr ?_))))
        refine V0 (Yda 1 rfl rfl ag81 rfl) ?_
        refine Lst 2 (.inl rfl) rfl rfl rfl sz81 rfl rfl rfl ?_
        refine Ln (Et (Crt ?_))
        refine WE.retR (rs_1 rfl (rv_agg 2 rfl rfl ag81 rfl)) fun w' hw=>?_
        exact .inl ⟨TExpr.mk 5 0 p54.1 p54.2 xs79,s79,r79,q79,rfl,by rw [hR,restP_4 hn34 hn38 hn47,hq54]; simp only [Option.bind_some]; rw [tailP_2 hn62 hq75,hq79]; rfl,slE_mv hx79 (nv_vs hw (by simp) hf79),hm79,Ws.drops (Ws.keep (L:=[_]) hw) (fun _ hm=>List.mem_append_right [_] hm)⟩
       ·
        obtain ⟨hn75,hl75⟩:=h75f hc6
        subst hl75
        refine Ck (Eb (Et (Cs (Cr ?_))))
        refine V0 (Yda 1 rfl rfl ag81 rfl) ?_
        refine Lst 2 (.inl rfl) rfl rfl rfl sz81 rfl rfl rfl ?_
        refine Ln (Et (Crt ?_))
        refine WE.retR (rs_1 rfl (rv_agg 2 rfl rfl ag81 rfl)) fun w' hw=>?_
        exact .inl ⟨TExpr.mk 3 0 p54.1 p54.2 [],(none,0),r75,q54,rfl,by rw [hR,restP_4 hn34 hn38 hn47,hq54]; simp only [Option.bind_some]; rw [tailP_3 hn62 hn75],Sl.nil,hm75,Ws.keep (L:=[_]) hw⟩
end Go.Proofs.YtjfldjidhkfnbaaGreatDoor
end
