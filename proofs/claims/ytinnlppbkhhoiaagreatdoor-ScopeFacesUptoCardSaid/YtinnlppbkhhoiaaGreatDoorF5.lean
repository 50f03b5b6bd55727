/- scope.Face and scope.Check answer as the document says, errors too, where what is handed in has a bulk of at most 1048576 (the second form, over the tied card). -/
import Derived.Test.YtinnlppbkhhoiaaGreatDoorF4
set_option linter.unusedVariables false
set_option linter.unusedSimpArgs false
section
namespace Go.Proofs.YtinnlppbkhhoiaaGreatDoor
open Go.Bw
set_option linter.unusedVariables false
set_option linter.unusedSimpArgs false
theorem es40:elemSz Tryz.prog 40=some 7:=by kernel_rfl
theorem na40:nonAgg Tryz.prog 40=true:=by kernel_rfl
theorem fo42_2:fieldOff Tryz.prog 42 2=some 2:=by kernel_rfl
theorem es39:elemSz Tryz.prog 39=some 3:=by kernel_rfl
theorem fo65_1:fieldOff Tryz.prog 65 1=some 1:=by kernel_rfl
end Go.Proofs.YtinnlppbkhhoiaaGreatDoor
end
section
namespace Go.Proofs.YtinnlppbkhhoiaaGreatDoor
open Go.Bw
set_option linter.unusedVariables false
set_option linter.unusedSimpArgs false
def cntM:TMod:=(⟨[99,110,116],[],[(⟨1,[107],true,3⟩:TDecl),(⟨2,[115,117,109],true,0⟩:TDecl),(⟨3,[116],true,4⟩:TDecl)],[(⟨[100,111,119,110],true,[[110]],[[105]],[(TStmt.mk 1 [] [105] [(TExpr.mk 3 0 [] [110] [])] [] []),(TStmt.mk 5 [] [] [(TExpr.mk 3 0 [] [105] [])] [(TStmt.mk 1 [] [115,117,109] [(TExpr.mk 9 0 [] [] [(TExpr.mk 3 0 [] [115,117,109] []),(TExpr.mk 3 0 [] [105] [])])] [] []),(TStmt.mk 1 [] [105] [(TExpr.mk 10 0 [] [] [(TExpr.mk 3 0 [] [105] []),(TExpr.mk 1 1 [] [] [])])] [] [])] []),(TStmt.mk 6 [] [] [(TExpr.mk 3 0 [] [115,117,109] [])] [] [])]⟩:TProc)],[]⟩:TMod)
def topS:Tx:=[109,111,100,117,108,101,32,116,111,112,123,117,115,101,32,99,110,116,59,109,97,105,110,123,99,110,116,46,116,91,49,93,61,99,110,116,46,100,111,119,110,40,99,110,116,46,107,41,59,111,117,116,32,99,110,116,46,116,91,105,110,93,59,105,102,40,99,110,116,46,115,117,109,61,54,41,123,111,117,116,32,55,59,125,101,108,115,101,123,111,117,116,32,56,59,125,125,125]
def topM:TMod:=(parseM topS).1
def fsC:List (List UInt8×List FItem):=[(cntN,cntI)]
theorem cnt_w:wM cntM≤109951162777:=by decide +kernel
theorem top_parse:(parseM topS).2=0:=by decide +kernel
theorem cnt_face:faceM cntM=((cntN,cntI),0):=by decide +kernel
theorem cnt_fe:faceE cntN cntI=0:=by decide +kernel
theorem cnt_res:(resolveM cntM []).2=0:=by decide +kernel
theorem cnt_data:(resolveM cntM []).1.data=5:=by decide +kernel
theorem cnt_parts:(resolveM cntM []).1.parts.length=1:=by decide +kernel
theorem cnt_loc:((resolveM cntM []).1.parts[0]?).map (·.locals)=some 1:=by decide +kernel
theorem top_res:(resolveM topM fsC).2=0:=by decide +kernel
theorem top_res8:(resolveM topM []).2=8:=by decide +kernel
theorem top_len:(resolveM topM fsC).1.main.length=3:=by decide +kernel
theorem top_first0:((resolveM topM fsC).1.main[0]?).map (fun a=>(a.m,a.pl,a.n))=some (1,1,4):=by decide +kernel
theorem cnt_part:∃p,(resolveM cntM []).1.parts[0]? = some p∧p.locals=1:=by
 have h:=cnt_loc
 cases hx:(resolveM cntM []).1.parts[0]? with
 | none=>rw [hx] at h; cases h
 | some p=>rw [hx] at h; exact ⟨p,rfl,by simpa using h⟩
theorem top_act:∃a,(resolveM topM fsC).1.main[0]? = some a∧a.m=1∧a.pl=1∧a.n=4:=by
 have h:=top_first0
 cases hx:(resolveM topM fsC).1.main[0]? with
 | none=>rw [hx] at h; cases h
 | some a=>rw [hx] at h; exact ⟨a,rfl,by simpa using h⟩
theorem parseM_w (s:Tx):wM (parseM s).1≤73728:=by
 unfold parseM
 split
 · show wM noMod≤_; decide
 · rename_i h
   have h0:(lexR s).2=0:=by simpa using h
   have hl:=(lexR_tok h0).len
   split
   · rename_i m hm
     split
     · have:=modP_w hm
       simp at this
       show wM m≤_
       omega
     · show wM noMod≤_; decide
   · show wM noMod≤_; decide
theorem pl118:placesP Tryz.prog 118=some [(0,1),(1,1),(2,1),(3,1),(4,1),(5,1)]:=by kernel_rfl
theorem en23:Enters Tryz.prog 23:=enters_of Tryz.func23 (by kernel_rfl) rfl
theorem en12:Enters Tryz.prog 12:=enters_of Tryz.func12 (by kernel_rfl) rfl
theorem en25:Enters Tryz.prog 25:=enters_of Tryz.func25 (by kernel_rfl) rfl
theorem en24:Enters Tryz.prog 24:=enters_of Tryz.func24 (by kernel_rfl) rfl
theorem en26:Enters Tryz.prog 26:=enters_of Tryz.func26 (by kernel_rfl) rfl
theorem el38:EltOk Tryz.prog 38 30 (.agg #[st [],.slice none 0 0]) 2 40:=eltOk_of (by kernel_rfl)
theorem en9:Enters Tryz.prog 9:=enters_of Tryz.func9 (by kernel_rfl) rfl
theorem en8:Enters Tryz.prog 8:=enters_of Tryz.func8 (by kernel_rfl) rfl
theorem counter_any (w:World) :
   Calls Tryz.prog 23 #[] w fun e w'=>∃r:MAt,e = .returned (.agg (modV cntM r).toArray)∧Ext w w'∧RdM 7 6 (nv w w') r cntM:=by
 refine enter Tryz.func23 rfl 33 rfl rfl ?_
 refine CWd (W':=Ws w [] [] []) (fun _ e=>by subst e; exact Ws.init (by simp)) ?_
 refine Cs (Cr ?_)
 refine WL.alloc (.inl rfl) rfl zr27 fun b0=>?_
 refine Ln (Et (Cs (Cr ?_)))
 refine V0 (Yb zr109 pl109 rfl rfl) ?_
 refine V0 (Yb zr109 pl109 rfl rfl) ?_
 refine V0 (Yb zr109 pl109 rfl rfl) ?_
 refine Lb (.inl rfl) rfl el23 rfl rfl rfl rfl fun b4=>?_
 refine LN (rd:=rdDecl) (f:=TDecl.cells) (m:=3) 0 [(⟨1,[107],true,3⟩:TDecl),(⟨2,[115,117,109],true,0⟩:TDecl),(⟨3,[116],true,4⟩:TDecl)] rfl rfl (fun _ hk=>by cases hk) TDecl.cells_len (fun _ _ _ _ h=>h) (show 3≤3 by decide) (by decide) fun H4 fH4 hH4=>?_
 refine Lb (.inl rfl) rfl el22 rfl rfl rfl rfl fun b5=>?_
 refine LN (rd:=rdStr) (f:=strC) (m:=1) 0 [[110]] rfl rfl (fun _ hk=>by cases hk) strC_len (fun _ _ _ _ h=>h) (show 1≤1 by decide) (by decide) fun H5 fH5 hH5=>?_
 refine Lb (.inl rfl) rfl el22 rfl rfl rfl rfl fun b6=>?_
 refine LN (rd:=rdStr) (f:=strC) (m:=1) 0 [[105]] rfl rfl (fun _ hk=>by cases hk) strC_len (fun _ _ _ _ h=>h) (show 1≤1 by decide) (by decide) fun H6 fH6 hH6=>?_
 refine V0 (Yb zr116 pl116 rfl rfl) ?_
 refine Lb (.inl rfl) rfl el114 rfl rfl rfl rfl fun b8=>?_
 refine LN (rd:=rdXE) (f:=XE.cells) (m:=1) 0 [((TExpr.mk 3 0 [] [110] []),none,0)] rfl rfl (fun _ hk=>by cases hk) XE.cells_len (fun _ _ _ _ h=>h) (show 1≤1 by decide) (by decide) fun H8 fH8 hH8=>?_
 refine V0 (Yb zr118 pl118 rfl rfl) ?_
 refine V0 (Yb zr116 pl116 rfl rfl) ?_
 refine Lb (.inl rfl) rfl el114 rfl rfl rfl rfl fun b11=>?_
 refine LN (rd:=rdXE) (f:=XE.cells) (m:=1) 0 [((TExpr.mk 3 0 [] [105] []),none,0)] rfl rfl (fun _ hk=>by cases hk) XE.cells_len (fun _ _ _ _ h=>h) (show 1≤1 by decide) (by decide) fun H11 fH11 hH11=>?_
 refine V0 (Yb zr116 pl116 rfl rfl) ?_
 refine V0 (Yb zr116 pl116 rfl rfl) ?_
 refine Lb (.inl rfl) rfl el114 rfl rfl rfl rfl fun b14=>?_
 refine LN (rd:=rdXE) (f:=XE.cells) (m:=2) 0 [((TExpr.mk 3 0 [] [115,117,109] []),none,0),((TExpr.mk 3 0 [] [105] []),none,0)] rfl rfl (fun _ hk=>by cases hk) XE.cells_len (fun _ _ _ _ h=>h) (show 2≤2 by decide) (by decide) fun H14 fH14 hH14=>?_
 refine V0 (Yb zr116 pl116 rfl rfl) ?_
 refine Lb (.inl rfl) rfl el114 rfl rfl rfl rfl fun b16=>?_
 refine LN (rd:=rdXE) (f:=XE.cells) (m:=1) 0 [((TExpr.mk 9 0 [] [] [(TExpr.mk 3 0 [] [115,117,109] []),(TExpr.mk 3 0 [] [105] [])]),(some ⟨b14,0,none⟩),2)] rfl rfl (fun _ hk=>by cases hk) XE.cells_len (fun _ _ _ _ h=>h) (show 1≤1 by decide) (by decide) fun H16 fH16 hH16=>?_
 refine V0 (Yb zr118 pl118 rfl rfl) ?_
 refine V0 (Yb zr116 pl116 rfl rfl) ?_
 refine V0 (Yb zr116 pl116 rfl rfl) ?_
 refine Lb (.inl rfl) rfl el114 rfl rfl rfl rfl fun b20=>?_
 refine LN (rd:=rdXE) (f:=XE.cells) (m:=2) 0 [((TExpr.mk 3 0 [] [105] []),none,0),((TExpr.mk 1 1 [] [] []),none,0)] rfl rfl (fun _ hk=>by cases hk) XE.cells_len (fun _ _ _ _ h=>h) (show 2≤2 by decide) (by decide) fun H20 fH20 hH20=>?_
 refine V0 (Yb zr116 pl116 rfl rfl) ?_
 refine Lb (.inl rfl) rfl el114 rfl rfl rfl rfl fun b22=>?_
 refine LN (rd:=rdXE) (f:=XE.cells) (m:=1) 0 [((TExpr.mk 10 0 [] [] [(TExpr.mk 3 0 [] [105] []),(TExpr.mk 1 1 [] [] [])]),(some ⟨b20,0,none⟩),2)] rfl rfl (fun _ hk=>by cases hk) XE.cells_len (fun _ _ _ _ h=>h) (show 1≤1 by decide) (by decide) fun H22 fH22 hH22=>?_
 refine V0 (Yb zr118 pl118 rfl rfl) ?_
 refine Lb (.inl rfl) rfl el25 rfl rfl rfl rfl fun b24=>?_
 refine LN (rd:=rdSX) (f:=SX.cells) (m:=2) 0 [((TStmt.mk 1 [] [115,117,109] [(TExpr.mk 9 0 [] [] [(TExpr.mk 3 0 [] [115,117,109] []),(TExpr.mk 3 0 [] [105] [])])] [] []),(⟨((some ⟨b16,0,none⟩),1),(none,0),(none,0)⟩:SAt)),((TStmt.mk 1 [] [105] [(TExpr.mk 10 0 [] [] [(TExpr.mk 3 0 [] [105] []),(TExpr.mk 1 1 [] [] [])])] [] []),(⟨((some ⟨b22,0,none⟩),1),(none,0),(none,0)⟩:SAt))] rfl rfl (fun _ hk=>by cases hk) SX.cells_len (fun _ _ _ _ h=>h) (show 2≤2 by decide) (by decide) fun H24 fH24 hH24=>?_
 refine V0 (Yb zr118 pl118 rfl rfl) ?_
 refine V0 (Yb zr116 pl116 rfl rfl) ?_
 refine Lb (.inl rfl) rfl el114 rfl rfl rfl rfl fun b27=>?_
 refine LN (rd:=rdXE) (f:=XE.cells) (m:=1) 0 [((TExpr.mk 3 0 [] [115,117,109] []),none,0)] rfl rfl (fun _ hk=>by cases hk) XE.cells_len (fun _ _ _ _ h=>h) (show 1≤1 by decide) (by decide) fun H27 fH27 hH27=>?_
 refine V0 (Yb zr118 pl118 rfl rfl) ?_
 refine Lb (.inl rfl) rfl el25 rfl rfl rfl rfl fun b29=>?_
 refine LN (rd:=rdSX) (f:=SX.cells) (m:=3) 0 [((TStmt.mk 1 [] [105] [(TExpr.mk 3 0 [] [110] [])] [] []),(⟨((some ⟨b8,0,none⟩),1),(none,0),(none,0)⟩:SAt)),((TStmt.mk 5 [] [] [(TExpr.mk 3 0 [] [105] [])] [(TStmt.mk 1 [] [115,117,109] [(TExpr.mk 9 0 [] [] [(TExpr.mk 3 0 [] [115,117,109] []),(TExpr.mk 3 0 [] [105] [])])] [] []),(TStmt.mk 1 [] [105] [(TExpr.mk 10 0 [] [] [(TExpr.mk 3 0 [] [105] []),(TExpr.mk 1 1 [] [] [])])] [] [])] []),(⟨((some ⟨b11,0,none⟩),1),((some ⟨b24,0,none⟩),2),(none,0)⟩:SAt)),((TStmt.mk 6 [] [] [(TExpr.mk 3 0 [] [115,117,109] [])] [] []),(⟨((some ⟨b27,0,none⟩),1),(none,0),(none,0)⟩:SAt))] rfl rfl (fun _ hk=>by cases hk) SX.cells_len (fun _ _ _ _ h=>h) (show 3≤3 by decide) (by decide) fun H29 fH29 hH29=>?_
 refine V0 (Yb zr86 pl86 rfl rfl) ?_
 refine Lb (.inl rfl) rfl el24 rfl rfl rfl rfl fun b31=>?_
 refine LN (rd:=rdPX) (f:=PX.cells) (m:=1) 0 [((⟨[100,111,119,110],true,[[110]],[[105]],[(TStmt.mk 1 [] [105] [(TExpr.mk 3 0 [] [110] [])] [] []),(TStmt.mk 5 [] [] [(TExpr.mk 3 0 [] [105] [])] [(TStmt.mk 1 [] [115,117,109] [(TExpr.mk 9 0 [] [] [(TExpr.mk 3 0 [] [115,117,109] []),(TExpr.mk 3 0 [] [105] [])])] [] []),(TStmt.mk 1 [] [105] [(TExpr.mk 10 0 [] [] [(TExpr.mk 3 0 [] [105] []),(TExpr.mk 1 1 [] [] [])])] [] [])] []),(TStmt.mk 6 [] [] [(TExpr.mk 3 0 [] [115,117,109] [])] [] [])]⟩:TProc),(⟨((some ⟨b5,0,none⟩),1),((some ⟨b6,0,none⟩),1),((some ⟨b29,0,none⟩),3)⟩:PAt))] rfl rfl (fun _ hk=>by cases hk) PX.cells_len (fun _ _ _ _ h=>h) (show 1≤1 by decide) (by decide) fun H31 fH31 hH31=>?_
 refine V0 (Yb zr27 pl27 rfl rfl) ?_
 refine Lst 0 (.inl rfl) rfl rfl rfl sz27 rfl rfl rfl ?_
 refine Ln (Et (Crt ?_))
 refine WE.retc1 0 rfl rfl rfl ag27 rfl fun w' hw=>?_
 exact ⟨⟨none,0,(some ⟨b4,0,none⟩),3,(some ⟨b31,0,none⟩),1,none,0⟩,rfl,hw.fr,⟨Sl.nil,(slDecl_mv hH4 (nv_vs hw (by simp) fH4)),(slP_of hH31 (nv_vs hw (by simp) fH31) (VLe.refl _) ((PXs.nil _).snoc (VLe.refl _) (VLe.refl _) ⟨(slStr_mv hH5 (nv_vs hw (by simp) fH5)),(slStr_mv hH6 (nv_vs hw (by simp) fH6)),(slS_of hH29 (nv_vs hw (by simp) fH29) (VLe.refl _) ((((SXs.nil _ 5).snoc (VLe.refl _) (VLe.refl _) ⟨(slE_of hH8 (nv_vs hw (by simp) fH8) (VLe.refl _) ((XEs.nil _ 6).snoc (VLe.refl _) (VLe.refl _) Sl.nil)),Sl.nil,Sl.nil⟩).snoc (VLe.refl _) (VLe.refl _) ⟨(slE_of hH11 (nv_vs hw (by simp) fH11) (VLe.refl _) ((XEs.nil _ 6).snoc (VLe.refl _) (VLe.refl _) Sl.nil)),(slS_of hH24 (nv_vs hw (by simp) fH24) (VLe.refl _) (((SXs.nil _ 4).snoc (VLe.refl _) (VLe.refl _) ⟨(slE_of hH16 (nv_vs hw (by simp) fH16) (VLe.refl _) ((XEs.nil _ 6).snoc (VLe.refl _) (VLe.refl _) (slE_of hH14 (nv_vs hw (by simp) fH14) (VLe.refl _) (((XEs.nil _ 5).snoc (VLe.refl _) (VLe.refl _) Sl.nil).snoc (VLe.refl _) (VLe.refl _) Sl.nil)))),Sl.nil,Sl.nil⟩).snoc (VLe.refl _) (VLe.refl _) ⟨(slE_of hH22 (nv_vs hw (by simp) fH22) (VLe.refl _) ((XEs.nil _ 6).snoc (VLe.refl _) (VLe.refl _) (slE_of hH20 (nv_vs hw (by simp) fH20) (VLe.refl _) (((XEs.nil _ 5).snoc (VLe.refl _) (VLe.refl _) Sl.nil).snoc (VLe.refl _) (VLe.refl _) Sl.nil)))),Sl.nil,Sl.nil⟩)),Sl.nil⟩).snoc (VLe.refl _) (VLe.refl _) ⟨(slE_of hH27 (nv_vs hw (by simp) fH27) (VLe.refl _) ((XEs.nil _ 6).snoc (VLe.refl _) (VLe.refl _) Sl.nil)),Sl.nil,Sl.nil⟩))⟩)),Sl.nil⟩⟩
theorem topText_any (w:World) :
   Calls Tryz.prog 25 #[] w fun e w'=>e = .returned (st topS)∧Ext w w':=by
 refine enter Tryz.func25 rfl 1 rfl rfl ?_
 refine CWd (W':=Ws w [] [] []) (fun _ e=>by subst e; exact Ws.init (by simp)) ?_
 refine Cs (Cr ?_)
 refine V0 (Ya rfl) ?_
 refine Ln (Et (Cs (Cr ?_)))
 refine V0 (Ya rfl) ?_
 refine Ln (Et (Crt ?_))
 refine WE.ret1 rfl rfl fun w' hw=>?_
 exact ⟨rfl,hw.fr⟩
theorem scopeBegun_any (G:View) (w:World) (hG:Le G w) (hz:Laid G) :
   Calls Tryz.prog 8 #[] w fun e w'=>e = .returned (.bool true)∧Ext w w':=by
 refine enter Tryz.func8 rfl 115 rfl rfl ?_
 refine CWd (W':=Ws w [] [] [G]) (fun _ e=>by subst e; exact Ws.init (by simp [hG])) ?_
 refine Cs (Cr ?_)
 refine V0 (Ya rfl) ?_
 refine Ln (Et (Cs (Cr ?_)))
 refine Ld (.inl rfl) rfl en23 rfl (fun r:MAt=>.agg (modV cntM r).toArray) (fun H r=>RdM 7 6 H r cntM) (fun w hw=>counter_any w) ?_
 intro F12 r12 hf12 h12
 refine Ld (.inl rfl) rfl en6 rfl (fun r:SP=>.tuple #[.agg #[st cntN,.slice r.1 cntI.length r.2],.int .i64 0]) (fun H r=>Sl rdItem 4 H r.1 r.2 cntI) (fun w hw=>by
     have:=face_any F12 7 6 r12 cntM w (hw.vs _ (by simp)) h12 cnt_w
     rw [cnt_face] at this
     exact this) ?_
 intro F13 r13 hf13 h13
 refine V0 (Ym rfl) ?_
 refine V0 (Yx rfl rfl) ?_
 refine V0 (Yx rfl rfl) ?_
 refine WL.alloc (.inl rfl) rfl zr30 fun b1=>?_
 refine Lst 0 (.inl rfl) rfl rfl rfl sz30 rfl rfl rfl ?_
 refine V0 (Ya rfl) ?_
 refine Ln (Et (Cs (Cr ?_)))
 refine Ld (.inl rfl) rfl en23 rfl (fun r:MAt=>.agg (modV cntM r).toArray) (fun H r=>RdM 7 6 H r cntM) (fun w hw=>counter_any w) ?_
 intro F17 r17 hf17 h17
 refine Ld (.inl rfl) rfl en12 rfl (fun r:UAt=>.tuple #[.agg (unitV (resolveM cntM []).1 r).toArray,.int .i64 (resolveM cntM []).2]) (fun F r=>RdU (7+1) (6+1) F r (resolveM cntM []).1) (fun w hw=>by
     skip
     exact resolve_any F17 F17 7 6 r17 cntM none 0 [] w (hw.vs _ (by simp)) (hw.vs _ (by simp)) h17 Sl.nil cnt_w) ?_
 intro F18 r18 hf18 h18
 refine V0 (Ym rfl) ?_
 refine V0 (Yx rfl rfl) ?_
 refine V0 (Yx rfl rfl) ?_
 refine WL.alloc (.inl rfl) rfl zr42 fun b3=>?_
 refine Lst 0 (.inl rfl) rfl rfl rfl sz42 rfl rfl rfl ?_
 refine V0 (Ya rfl) ?_
 refine Ln (Et (Cs (Cr ?_)))
 refine Lp (.inl rfl) rfl en25 rfl (fun w hw=>topText_any w) ?_
 refine Ld (.inl rfl) rfl en24 rfl (fun r:MAt=>.tuple #[.agg (modV (topM) r).toArray,.int .i64 ((parseM topS).2)]) (fun H r=>RdM 7 6 H r (topM)) (fun w hw=>by
     have:=treeParse_any G (topS) w (hw.vs _ (by simp)) hz
     exact this) ?_
 intro F23 r23 hf23 h23
 refine V0 (Ym rfl) ?_
 refine V0 (Yx rfl rfl) ?_
 refine V0 (Yx rfl rfl) ?_
 refine WL.alloc (.inl rfl) rfl zr27 fun b5=>?_
 refine Lst 0 (.inl rfl) rfl rfl rfl sz27 rfl rfl rfl ?_
 refine V0 (Ya rfl) ?_
 refine Ln (Et ?_)
 refine WC.cutE (ι:=Nat×UAt×View) (fun q0=>[(1,.pointer (some ⟨b1,0,none⟩)),(2,.int .i64 0),(3,.pointer (some ⟨b3,0,none⟩)),(4,.int .i64 (resolveM cntM []).2),(5,.pointer (some ⟨b5,0,none⟩)),(6,.int .i64 (parseM topS).2),(7,.pointer (some ⟨q0.1,0,none⟩)),(8,.int .i64 (resolveM topM fsC).2)]) (fun q0=>Ws w [] [blk q0.1 (.cells (unitV (resolveM topM fsC).1 q0.2.1).toArray 42 (0,0)),blk b5 (.cells (modV topM r23).toArray 27 (0,0)),blk b3 (.cells (unitV (resolveM cntM []).1 r18).toArray 42 (0,0)),blk b1 (.cells #[st cntN,.slice r13.1 cntI.length r13.2] 30 (0,0))] [q0.2.2,F23,F18,F13,G]) (fun q0=>RdU 8 7 q0.2.2 q0.2.1 (resolveM topM fsC).1) ?_ ?_
 ·
  refine WC.drawt0 (.q 0 (.e 1 (.e 2 (.e 3 (.q 4 (.q 5 (.q 6 (.e 7 (.e 8 (.e 9 .nil .stop) .stop) .stop)))) (.e 7 (.e 3 (.q 4 (.q 5 (.q 6 (.e 8 (.e 9 .nil .stop) .stop)))) .stop) .stop)) (.e 7 (.e 2 (.e 3 (.q 4 (.q 5 (.q 6 (.e 8 (.e 9 .nil .stop) .stop)))) .stop) .stop) .stop)) (.e 7 (.e 1 (.e 2 (.e 3 (.q 4 (.q 5 (.q 6 (.e 8 (.e 9 .nil .stop) .stop)))) .stop) .stop) .stop) .stop))) mixed (by kernel_rfl) (fun _ _ _ d _ h=>by cases d<;>exact h) ?_
  refine WT.q rfl (.inl rfl) rfl (fun _ h=>h) (Yda 0 rfl rfl ag27 rfl) ?_
  refine WT.e rfl (fun _ h=>h) ?_ ?_
  ·
   refine Ld (.inl rfl) rfl en26 rfl (fun r:SP=>.agg #[st cntN,.slice r.1 cntI.length r.2]) (fun F r=>Sl rdItem 4 F r.1 r.2 cntI) (fun w hw=>counted_any w) ?_
   intro F28 r28 hf28 h28
   refine Ln (Ett ?_)
   refine WT.e rfl (fun _ h=>by have h:=Ws.drops h (fun _ hm=>List.mem_append_right [_] hm); exact h) ?_ ?_
   ·
    refine Lb (.inl rfl) rfl el38 rfl rfl rfl rfl fun b29=>?_
    refine Ln (Ett ?_)
    refine WT.e rfl (fun _ h=>by have h:=Ws.drop (L:=[_]) (L':=_) h; have h:=Ws.drops h (fun _ hm=>List.mem_append_right [_] hm); exact h) ?_ ?_
    ·
     refine Ld (.inl rfl) rfl en12 rfl (fun r:UAt=>.tuple #[.agg (unitV (resolveM topM fsC).1 r).toArray,.int .i64 (resolveM topM fsC).2]) (fun F r=>RdU (7+1) (6+1) F r (resolveM topM fsC).1) (fun w hw=>by
         have hfc:Sl rdFace 2 (hv w) (some ⟨b29,0,none⟩) 1 fsC:=⟨by decide,by decide,by simp,fun j x hj=>⟨b29,0,rfl,by
           match j,hj with
           | 0,hj=>simp only [fsC,List.getElem?_cons_zero,Option.some.injEq] at hj; subst hj; exact ⟨r28,fun k v hk=>by
               match k,hk with
               | 0,hk=>simp [faceV] at hk; subst hk; exact hw.hvb 0 rfl rfl
               | 1,hk=>simp [faceV] at hk; subst hk; exact hw.hvb 0 rfl rfl,slItem_mv (hv_of (hw.vs F28 (by simp))) h28⟩⟩⟩
         exact resolve_any F23 (hv w) 7 6 r23 topM (some ⟨b29,0,none⟩) 1 fsC w (hw.vs _ (by simp)) (hv_le w) h23 hfc (by have:=parseM_w topS; show wM (parseM topS).1≤_; omega)) ?_
     intro F30 r30 hf30 h30
     refine Ln (Ett ?_)
     refine WT.q rfl (.inl rfl) rfl (fun _ h=>by have h:=Ws.drop (L:=[_]) (L':=_) h; have h:=Ws.drops h (fun _ hm=>List.mem_append_right [_,_] hm); exact h) (Ym rfl) ?_
     refine WT.q rfl (.inl rfl) rfl (fun _ h=>by have h:=Ws.drop (L:=[_]) (L':=_) h; have h:=Ws.drops h (fun _ hm=>List.mem_append_right [_,_] hm); exact h) (Yx rfl rfl) ?_
     refine WT.q rfl (.inl rfl) rfl (fun _ h=>by have h:=Ws.drop (L:=[_]) (L':=_) h; have h:=Ws.drops h (fun _ hm=>List.mem_append_right [_,_] hm); exact h) (Yx rfl rfl) ?_
     refine WT.e rfl (fun _ h=>by have h:=Ws.drop (L:=[_]) (L':=_) h; have h:=Ws.drops h (fun _ hm=>List.mem_append_right [_,_] hm); exact h) ?_ WT.stop
     refine WL.alloc (.inl rfl) rfl zr42 fun b7=>?_
     refine Ln (Ett ?_)
     refine WT.e rfl (fun _ h=>by have h:=Ws.drop (L:=[_,_]) (L':=_) h; have h:=Ws.drops h (fun _ hm=>List.mem_append_right [_,_] hm); exact h) ?_ WT.stop
     refine Lst 0 (.inl rfl) rfl rfl rfl sz42 rfl rfl rfl ?_
     refine Ln (Ett ?_)
     refine WT.e rfl (fun _ h=>by have h:=Ws.drop (L:=[_,_]) (L':=_) h; have h:=Ws.drops h (fun _ hm=>List.mem_append_right [_,_] hm); exact h) ?_ WT.stop
     refine V0 (Ya rfl) ?_
     refine Ln (Ett ?_)
     refine WT.nil (fun _ h=>by have h:=Ws.drop (L:=[_,_]) (L':=_) h; have h:=Ws.drops h (fun _ hm=>List.mem_append_right [_,_] hm); exact h) ?_
     exact WE.meetE (b7,r30,F30) h30 (sc rfl (sc rfl (sc rfl (sc rfl (sc rfl (sc rfl (sc rfl (sc rfl sn)))))))) (fun _ h=>by
       have h:=h.fronti 4 rfl
       have h:=h.fronti 4 rfl
       have h:=h.fronti 4 rfl
       have h:=h.fronti 3 rfl
       have h:=Ws.keep (L:=[_,_,_,_]) h
       have h:=Ws.drops h (Vs':=[F30,F23,F18,F13,G]) (by simp)
       exact h)
    refine WT.e rfl (fun _ h=>by have h:=Ws.drop (L:=[_]) (L':=_) h; have h:=Ws.drops h (fun _ hm=>List.mem_append_right [_] hm); exact h) ?_ WT.stop
    refine WL.alloc (.inl rfl) rfl zr42 fun b7=>?_
    refine Ln (Ett ?_)
    refine WT.e rfl (fun _ h=>by have h:=Ws.drop (L:=[_,_]) (L':=_) h; have h:=Ws.drops h (fun _ hm=>List.mem_append_right [_] hm); exact h) ?_ WT.stop
    refine Ld (.inl rfl) rfl en12 rfl (fun r:UAt=>.tuple #[.agg (unitV (resolveM topM fsC).1 r).toArray,.int .i64 (resolveM topM fsC).2]) (fun F r=>RdU (7+1) (6+1) F r (resolveM topM fsC).1) (fun w hw=>by
        have hfc:Sl rdFace 2 (hv w) (some ⟨b29,0,none⟩) 1 fsC:=⟨by decide,by decide,by simp,fun j x hj=>⟨b29,0,rfl,by
          match j,hj with
          | 0,hj=>simp only [fsC,List.getElem?_cons_zero,Option.some.injEq] at hj; subst hj; exact ⟨r28,fun k v hk=>by
              match k,hk with
              | 0,hk=>simp [faceV] at hk; subst hk; exact hw.hvb 1 rfl rfl
              | 1,hk=>simp [faceV] at hk; subst hk; exact hw.hvb 1 rfl rfl,slItem_mv (hv_of (hw.vs F28 (by simp))) h28⟩⟩⟩
        exact resolve_any F23 (hv w) 7 6 r23 topM (some ⟨b29,0,none⟩) 1 fsC w (hw.vs _ (by simp)) (hv_le w) h23 hfc (by have:=parseM_w topS; show wM (parseM topS).1≤_; omega)) ?_
    intro F30 r30 hf30 h30
    refine Ln (Ett ?_)
    refine WT.q rfl (.inl rfl) rfl (fun _ h=>by have h:=Ws.drop (L:=[_,_]) (L':=_) h; have h:=Ws.drops h (fun _ hm=>List.mem_append_right [_,_] hm); exact h) (Ym rfl) ?_
    refine WT.q rfl (.inl rfl) rfl (fun _ h=>by have h:=Ws.drop (L:=[_,_]) (L':=_) h; have h:=Ws.drops h (fun _ hm=>List.mem_append_right [_,_] hm); exact h) (Yx rfl rfl) ?_
    refine WT.q rfl (.inl rfl) rfl (fun _ h=>by have h:=Ws.drop (L:=[_,_]) (L':=_) h; have h:=Ws.drops h (fun _ hm=>List.mem_append_right [_,_] hm); exact h) (Yx rfl rfl) ?_
    refine WT.e rfl (fun _ h=>by have h:=Ws.drop (L:=[_,_]) (L':=_) h; have h:=Ws.drops h (fun _ hm=>List.mem_append_right [_,_] hm); exact h) ?_ WT.stop
    refine Lst 0 (.inl rfl) rfl rfl rfl sz42 rfl rfl rfl ?_
    refine Ln (Ett ?_)
    refine WT.e rfl (fun _ h=>by have h:=Ws.drop (L:=[_,_]) (L':=_) h; have h:=Ws.drops h (fun _ hm=>List.mem_append_right [_,_] hm); exact h) ?_ WT.stop
    refine V0 (Ya rfl) ?_
    refine Ln (Ett ?_)
    refine WT.nil (fun _ h=>by have h:=Ws.drop (L:=[_,_]) (L':=_) h; have h:=Ws.drops h (fun _ hm=>List.mem_append_right [_,_] hm); exact h) ?_
    exact WE.meetE (b7,r30,F30) h30 (sc rfl (sc rfl (sc rfl (sc rfl (sc rfl (sc rfl (sc rfl (sc rfl sn)))))))) (fun _ h=>by
      have h:=h.fronti 4 rfl
      have h:=h.fronti 4 rfl
      have h:=h.fronti 4 rfl
      have h:=h.fronti 3 rfl
      have h:=Ws.keep (L:=[_,_,_,_]) h
      have h:=Ws.drops h (Vs':=[F30,F23,F18,F13,G]) (by simp)
      exact h)
   refine WT.e rfl (fun _ h=>by have h:=Ws.drops h (fun _ hm=>List.mem_append_right [_] hm); exact h) ?_ WT.stop
   refine WL.alloc (.inl rfl) rfl zr42 fun b7=>?_
   refine Ln (Ett ?_)
   refine WT.e rfl (fun _ h=>by have h:=Ws.drop (L:=[_]) (L':=_) h; have h:=Ws.drops h (fun _ hm=>List.mem_append_right [_] hm); exact h) ?_ WT.stop
   refine Lb (.inl rfl) rfl el38 rfl rfl rfl rfl fun b29=>?_
   refine Ln (Ett ?_)
   refine WT.e rfl (fun _ h=>by have h:=Ws.drop (L:=[_,_]) (L':=_) h; have h:=Ws.drops h (fun _ hm=>List.mem_append_right [_] hm); exact h) ?_ WT.stop
   refine Ld (.inl rfl) rfl en12 rfl (fun r:UAt=>.tuple #[.agg (unitV (resolveM topM fsC).1 r).toArray,.int .i64 (resolveM topM fsC).2]) (fun F r=>RdU (7+1) (6+1) F r (resolveM topM fsC).1) (fun w hw=>by
       have hfc:Sl rdFace 2 (hv w) (some ⟨b29,0,none⟩) 1 fsC:=⟨by decide,by decide,by simp,fun j x hj=>⟨b29,0,rfl,by
         match j,hj with
         | 0,hj=>simp only [fsC,List.getElem?_cons_zero,Option.some.injEq] at hj; subst hj; exact ⟨r28,fun k v hk=>by
             match k,hk with
             | 0,hk=>simp [faceV] at hk; subst hk; exact hw.hvb 0 rfl rfl
             | 1,hk=>simp [faceV] at hk; subst hk; exact hw.hvb 0 rfl rfl,slItem_mv (hv_of (hw.vs F28 (by simp))) h28⟩⟩⟩
       exact resolve_any F23 (hv w) 7 6 r23 topM (some ⟨b29,0,none⟩) 1 fsC w (hw.vs _ (by simp)) (hv_le w) h23 hfc (by have:=parseM_w topS; show wM (parseM topS).1≤_; omega)) ?_
   intro F30 r30 hf30 h30
   refine Ln (Ett ?_)
   refine WT.q rfl (.inl rfl) rfl (fun _ h=>by have h:=Ws.drop (L:=[_,_]) (L':=_) h; have h:=Ws.drops h (fun _ hm=>List.mem_append_right [_,_] hm); exact h) (Ym rfl) ?_
   refine WT.q rfl (.inl rfl) rfl (fun _ h=>by have h:=Ws.drop (L:=[_,_]) (L':=_) h; have h:=Ws.drops h (fun _ hm=>List.mem_append_right [_,_] hm); exact h) (Yx rfl rfl) ?_
   refine WT.q rfl (.inl rfl) rfl (fun _ h=>by have h:=Ws.drop (L:=[_,_]) (L':=_) h; have h:=Ws.drops h (fun _ hm=>List.mem_append_right [_,_] hm); exact h) (Yx rfl rfl) ?_
   refine WT.e rfl (fun _ h=>by have h:=Ws.drop (L:=[_,_]) (L':=_) h; have h:=Ws.drops h (fun _ hm=>List.mem_append_right [_,_] hm); exact h) ?_ WT.stop
   refine Lst 1 (.inl rfl) rfl rfl rfl sz42 rfl rfl rfl ?_
   refine Ln (Ett ?_)
   refine WT.e rfl (fun _ h=>by have h:=Ws.drop (L:=[_,_]) (L':=_) h; have h:=Ws.drops h (fun _ hm=>List.mem_append_right [_,_] hm); exact h) ?_ WT.stop
   refine V0 (Ya rfl) ?_
   refine Ln (Ett ?_)
   refine WT.nil (fun _ h=>by have h:=Ws.drop (L:=[_,_]) (L':=_) h; have h:=Ws.drops h (fun _ hm=>List.mem_append_right [_,_] hm); exact h) ?_
   exact WE.meetE (b7,r30,F30) h30 (sc rfl (sc rfl (sc rfl (sc rfl (sc rfl (sc rfl (sc rfl (sc rfl sn)))))))) (fun _ h=>by
     have h:=h.fronti 4 rfl
     have h:=h.fronti 4 rfl
     have h:=h.fronti 4 rfl
     have h:=h.fronti 4 rfl
     have h:=Ws.keep (L:=[_,_,_,_]) h
     have h:=Ws.drops h (Vs':=[F30,F23,F18,F13,G]) (by simp)
     exact h)
  refine WT.e rfl (fun _ h=>h) ?_ WT.stop
  refine WL.alloc (.inl rfl) rfl zr42 fun b7=>?_
  refine Ln (Ett ?_)
  refine WT.e rfl (fun _ h=>by have h:=Ws.drop (L:=[_]) (L':=_) h; exact h) ?_ WT.stop
  refine Ld (.inl rfl) rfl en26 rfl (fun r:SP=>.agg #[st cntN,.slice r.1 cntI.length r.2]) (fun F r=>Sl rdItem 4 F r.1 r.2 cntI) (fun w hw=>counted_any w) ?_
  intro F28 r28 hf28 h28
  refine Ln (Ett ?_)
  refine WT.e rfl (fun _ h=>by have h:=Ws.drop (L:=[_]) (L':=_) h; have h:=Ws.drops h (fun _ hm=>List.mem_append_right [_] hm); exact h) ?_ WT.stop
  refine Lb (.inl rfl) rfl el38 rfl rfl rfl rfl fun b29=>?_
  refine Ln (Ett ?_)
  refine WT.e rfl (fun _ h=>by have h:=Ws.drop (L:=[_,_]) (L':=_) h; have h:=Ws.drops h (fun _ hm=>List.mem_append_right [_] hm); exact h) ?_ WT.stop
  refine Ld (.inl rfl) rfl en12 rfl (fun r:UAt=>.tuple #[.agg (unitV (resolveM topM fsC).1 r).toArray,.int .i64 (resolveM topM fsC).2]) (fun F r=>RdU (7+1) (6+1) F r (resolveM topM fsC).1) (fun w hw=>by
      have hfc:Sl rdFace 2 (hv w) (some ⟨b29,0,none⟩) 1 fsC:=⟨by decide,by decide,by simp,fun j x hj=>⟨b29,0,rfl,by
        match j,hj with
        | 0,hj=>simp only [fsC,List.getElem?_cons_zero,Option.some.injEq] at hj; subst hj; exact ⟨r28,fun k v hk=>by
            match k,hk with
            | 0,hk=>simp [faceV] at hk; subst hk; exact hw.hvb 0 rfl rfl
            | 1,hk=>simp [faceV] at hk; subst hk; exact hw.hvb 0 rfl rfl,slItem_mv (hv_of (hw.vs F28 (by simp))) h28⟩⟩⟩
      exact resolve_any F23 (hv w) 7 6 r23 topM (some ⟨b29,0,none⟩) 1 fsC w (hw.vs _ (by simp)) (hv_le w) h23 hfc (by have:=parseM_w topS; show wM (parseM topS).1≤_; omega)) ?_
  intro F30 r30 hf30 h30
  refine Ln (Ett ?_)
  refine WT.q rfl (.inl rfl) rfl (fun _ h=>by have h:=Ws.drop (L:=[_,_]) (L':=_) h; have h:=Ws.drops h (fun _ hm=>List.mem_append_right [_,_] hm); exact h) (Ym rfl) ?_
  refine WT.q rfl (.inl rfl) rfl (fun _ h=>by have h:=Ws.drop (L:=[_,_]) (L':=_) h; have h:=Ws.drops h (fun _ hm=>List.mem_append_right [_,_] hm); exact h) (Yx rfl rfl) ?_
  refine WT.q rfl (.inl rfl) rfl (fun _ h=>by have h:=Ws.drop (L:=[_,_]) (L':=_) h; have h:=Ws.drops h (fun _ hm=>List.mem_append_right [_,_] hm); exact h) (Yx rfl rfl) ?_
  refine WT.e rfl (fun _ h=>by have h:=Ws.drop (L:=[_,_]) (L':=_) h; have h:=Ws.drops h (fun _ hm=>List.mem_append_right [_,_] hm); exact h) ?_ WT.stop
  refine Lst 1 (.inl rfl) rfl rfl rfl sz42 rfl rfl rfl ?_
  refine Ln (Ett ?_)
  refine WT.e rfl (fun _ h=>by have h:=Ws.drop (L:=[_,_]) (L':=_) h; have h:=Ws.drops h (fun _ hm=>List.mem_append_right [_,_] hm); exact h) ?_ WT.stop
  refine V0 (Ya rfl) ?_
  refine Ln (Ett ?_)
  refine WT.nil (fun _ h=>by have h:=Ws.drop (L:=[_,_]) (L':=_) h; have h:=Ws.drops h (fun _ hm=>List.mem_append_right [_,_] hm); exact h) ?_
  exact WE.meetE (b7,r30,F30) h30 (sc rfl (sc rfl (sc rfl (sc rfl (sc rfl (sc rfl (sc rfl (sc rfl sn)))))))) (fun _ h=>by
    have h:=h.fronti 4 rfl
    have h:=h.fronti 4 rfl
    have h:=h.fronti 4 rfl
    have h:=h.fronti 4 rfl
    have h:=Ws.keep (L:=[_,_,_,_]) h
    have h:=Ws.drops h (Vs':=[F30,F23,F18,F13,G]) (by simp)
    exact h)
 intro ⟨b7,r30,F30⟩ h30
 refine Cs (Cr ?_)
 refine V0 (Yda 1 rfl rfl ag27 rfl) ?_
 refine Ld (.inl rfl) rfl en12 rfl (fun r:UAt=>.tuple #[.agg (unitV (resolveM topM []).1 r).toArray,.int .i64 (resolveM topM []).2]) (fun F r=>RdU (7+1) (6+1) F r (resolveM topM []).1) (fun w hw=>by
     skip
     exact resolve_any F23 F23 7 6 r23 topM none 0 [] w (hw.vs _ (by simp)) (hw.vs _ (by simp)) h23 Sl.nil (by have:=parseM_w topS; show wM (parseM topS).1≤_; omega)) ?_
 intro F35 r35 hf35 h35
 refine V0 (Ym rfl) ?_
 refine V0 (Yx rfl rfl) ?_
 refine V0 (Yx rfl rfl) ?_
 refine WL.alloc (.inl rfl) rfl zr42 fun b9=>?_
 refine Lst 0 (.inl rfl) rfl rfl rfl sz42 rfl rfl rfl ?_
 refine V0 (Ya rfl) ?_
 refine Ln (Et (Cs ?_))
 obtain ⟨tp,htp0,htp⟩:=cnt_part
 obtain ⟨pb,po,hap,rp,hrp,hsp⟩:=h18.parts.elt 0 tp htp0
 obtain ⟨ta,hta0,hta1,hta2,hta3⟩:=top_act
 obtain ⟨qb,qo,haa,ra,hra,hsa,hsb,hsc⟩:=h30.main.elt 0 ta hta0
 have hpl:=cnt_parts
 have hml:=top_len
 have hpc:=h18.parts.cap
 have hpm:=h18.parts.max
 have hmc:=h30.main.cap
 have hmm:=h30.main.max
 refine WC.draws0 [(0,true),(1,true),(2,true),(3,true),(4,true),(5,true),(6,true),(7,true),(8,true),(9,true),(10,true),(11,true),(12,true),(13,true),(14,true),(15,true),(16,true),(17,true),(18,true),(19,true),(20,false),(21,false),(22,true),(23,true),(24,true),(25,false),(26,true),(27,true),(28,true),(29,true),(30,true),(31,true),(32,true),(33,true),(34,true),(35,true),(36,true),(37,true),(38,true),(39,true),(40,true),(41,true),(42,true),(43,true),(44,true),(45,true),(46,true),(47,true),(48,true),(49,true),(50,true),(51,true),(52,true),(53,true),(54,true),(55,true),(56,true),(57,true),(58,true),(59,true),(60,true),(61,true),(62,true),(63,true),(64,true),(65,true),(66,true),(67,true),(68,true),(69,true),(70,true),(71,true),(72,true),(73,true),(74,true),(75,true),(76,true),(77,true)] mixed (by kernel_rfl) (fun _ _ _ d _ h=>by cases d<;>exact h) ?_
 refine Dq rfl (.inl rfl) rfl (fun _ h=>h) (Ym rfl) ?_
 refine Dq rfl (.inl rfl) rfl (fun _ h=>h) (yl_eqiY rfl rfl rfl) ?_
 refine Dq rfl (.inl rfl) rfl (fun _ h=>h) (Ym rfl) ?_
 apply WD.and 2 (x:=true) rfl rfl rfl rfl rfl (.inl rfl) rfl (fun _ h=>h) rfl rfl rfl rfl
 ·
  intro hg0
  refine Dq rfl (.g rfl rfl rfl) rfl (fun _ h=>h) (Ym rfl) ?_
  refine Dq rfl (.g rfl rfl rfl) rfl (fun _ h=>h) (yl_eqiY rfl rfl cnt_res) ?_
  exact Gi 2 (fun _ h=>h) rfl rfl rfl
 refine Dq rfl (.inl rfl) rfl (fun _ h=>h) (Ym rfl) ?_
 apply WD.and 2 (x:=true) rfl rfl rfl rfl rfl (.inl rfl) rfl (fun _ h=>h) rfl rfl rfl rfl
 ·
  intro hg1
  refine Dq rfl (.g rfl rfl rfl) rfl (fun _ h=>h) (Ym rfl) ?_
  refine Dq rfl (.g rfl rfl rfl) rfl (fun _ h=>h) (yl_eqiY rfl rfl top_parse) ?_
  exact Gi 2 (fun _ h=>h) rfl rfl rfl
 refine Dq rfl (.inl rfl) rfl (fun _ h=>h) (Ym rfl) ?_
 apply WD.and 2 (x:=true) rfl rfl rfl rfl rfl (.inl rfl) rfl (fun _ h=>h) rfl rfl rfl rfl
 ·
  intro hg2
  refine Dq rfl (.g rfl rfl rfl) rfl (fun _ h=>h) (Ym rfl) ?_
  refine Dq rfl (.g rfl rfl rfl) rfl (fun _ h=>h) (yl_eqiY rfl rfl top_res) ?_
  exact Gi 2 (fun _ h=>h) rfl rfl rfl
 refine Dq rfl (.inl rfl) rfl (fun _ h=>h) (Ym rfl) ?_
 apply WD.and 2 (x:=true) rfl rfl rfl rfl rfl (.inl rfl) rfl (fun _ h=>h) rfl rfl rfl rfl
 ·
  intro hg3
  refine Dq rfl (.g rfl rfl rfl) rfl (fun _ h=>h) (Ym rfl) ?_
  refine Dq rfl (.g rfl rfl rfl) rfl (fun _ h=>h) (yl_eqiY rfl rfl top_res8) ?_
  exact Gi 2 (fun _ h=>h) rfl rfl rfl
 refine Dq rfl (.inl rfl) rfl (fun _ h=>h) (Ym rfl) ?_
 apply WD.and 3 (x:=true) rfl rfl rfl rfl rfl (.inl rfl) rfl (fun _ h=>h) rfl rfl rfl rfl
 ·
  intro hg4
  refine Dq rfl (.g rfl rfl rfl) rfl (fun _ h=>h) (Yda 4 rfl rfl ag30 rfl) ?_
  refine De rfl (fun _ h=>h) ?_
  refine Ld (.g rfl rfl rfl) rfl en26 rfl (fun r:SP=>.agg #[st cntN,.slice r.1 cntI.length r.2]) (fun F r=>Sl rdItem 4 F r.1 r.2 cntI) (fun w hw=>counted_any w) ?_
  intro F58 r58 hf58 h58
  refine Ln (Ed ?_)
  refine De rfl (fun _ h=>by have h:=Ws.drops h (fun _ hm=>List.mem_append_right [_] hm); exact h) ?_
  refine Lp (.g rfl rfl rfl) rfl en9 rfl (fun w hw=>sameFaces_eq F13 F58 r13.1 r58.1 r13.2 r58.2 cntN cntI w (hw.vs _ (by simp)) (hw.vs _ (by simp)) h13 h58) ?_
  refine Ln (Ed ?_)
  refine WD.wk (W':=Ws _ _ [_,_,_,_,_] [_,_,_,_,_,_]) (fun _ h=>Ws.drops (h) (fun _ hm=>List.mem_append_right [_] hm)) ?_
  exact Gi 3 (fun _ h=>h) rfl rfl rfl
 refine Dq rfl (.inl rfl) rfl (fun _ h=>h) (Ym rfl) ?_
 apply WD.and 3 (x:=true) rfl rfl rfl rfl rfl (.inl rfl) rfl (fun _ h=>h) rfl rfl rfl rfl
 ·
  intro hg5
  refine Dq rfl (.g rfl rfl rfl) rfl (fun _ h=>h) (Yda 4 rfl rfl ag30 rfl) ?_
  refine De rfl (fun _ h=>h) ?_
  refine Lp (.g rfl rfl rfl) rfl en10 rfl (fun w hw=>scopeCheck_any F13 r13.1 r13.2 cntN cntI w (hw.vs _ (by simp)) h13) ?_
  refine Ln (Ed ?_)
  refine Dq rfl (.g rfl rfl rfl) rfl (fun _ h=>h) (yl_eqiY rfl rfl cnt_fe) ?_
  exact Gi 3 (fun _ h=>h) rfl rfl rfl
 refine Dq rfl (.inl rfl) rfl (fun _ h=>h) (Ym rfl) ?_
 apply WD.and 3 (x:=true) rfl rfl rfl rfl rfl (.inl rfl) rfl (fun _ h=>h) rfl rfl rfl rfl
 ·
  intro hg6
  refine Dq rfl (.g rfl rfl rfl) rfl (fun _ h=>h) (Yf fo42_2 rfl) ?_
  refine Dq rfl (.g rfl rfl rfl) rfl (fun _ h=>h) (Yd 3 rfl rfl rfl na3) ?_
  refine Dq rfl (.g rfl rfl rfl) rfl (fun _ h=>h) (yl_eqiY rfl rfl cnt_data) ?_
  exact Gi 3 (fun _ h=>h) rfl rfl rfl
 refine Dq rfl (.inl rfl) rfl (fun _ h=>h) (Ym rfl) ?_
 apply WD.and 4 (x:=true) rfl rfl rfl rfl rfl (.inl rfl) rfl (fun _ h=>h) rfl rfl rfl rfl
 ·
  intro hg7
  refine Dq rfl (.g rfl rfl rfl) rfl (fun _ h=>h) (Yf fo42_3 rfl) ?_
  refine Dq rfl (.g rfl rfl rfl) rfl (fun _ h=>h) (Yd 3 rfl rfl rfl na39) ?_
  refine Dq rfl (.g rfl rfl rfl) rfl (fun _ h=>h) (Yn es39 rfl) ?_
  refine Dq rfl (.g rfl rfl rfl) rfl (fun _ h=>h) (yl_eqiY rfl rfl (by rw [cnt_parts]; rfl)) ?_
  exact Gi 4 (fun _ h=>h) rfl rfl rfl
 refine Dq rfl (.inl rfl) rfl (fun _ h=>h) (Ym rfl) ?_
 apply WD.and 6 (x:=true) rfl rfl rfl rfl rfl (.inl rfl) rfl (fun _ h=>h) rfl rfl rfl rfl
 ·
  intro hg8
  refine Dq rfl (.g rfl rfl rfl) rfl (fun _ h=>h) (Yf fo42_3 rfl) ?_
  refine Dq rfl (.g rfl rfl rfl) rfl (fun _ h=>h) (Yd 3 rfl rfl rfl na39) ?_
  refine Dq rfl (.g rfl rfl rfl) rfl (fun _ h=>h) (Yo (i:=0) es39 rfl rfl hap (by rw [hpl]; decide)) ?_
  refine Dq rfl (.g rfl rfl rfl) rfl (fun _ h=>h) (Yf fo65_1 rfl) ?_
  refine Dq rfl (.g rfl rfl rfl) rfl (fun _ h=>h) (yl_ld 3 na3 rfl rfl (hrp 1 _ rfl)) ?_
  refine Dq rfl (.g rfl rfl rfl) rfl (fun _ h=>h) (yl_eqiY rfl rfl htp) ?_
  exact Gi 6 (fun _ h=>h) rfl rfl rfl
 refine Dq rfl (.inl rfl) rfl (fun _ h=>h) (Ym rfl) ?_
 apply WD.and 4 (x:=true) rfl rfl rfl rfl rfl (.inl rfl) rfl (fun _ h=>h) rfl rfl rfl rfl
 ·
  intro hg9
  refine Dq rfl (.g rfl rfl rfl) rfl (fun _ h=>h) (Yf fo42_4 rfl) ?_
  refine Dq rfl (.g rfl rfl rfl) rfl (fun _ h=>h) (Yd 1 rfl rfl rfl na40) ?_
  refine Dq rfl (.g rfl rfl rfl) rfl (fun _ h=>h) (Yn es40 rfl) ?_
  refine Dq rfl (.g rfl rfl rfl) rfl (fun _ h=>h) (yl_eqiY rfl rfl (by rw [top_len]; rfl)) ?_
  exact Gi 4 (fun _ h=>h) rfl rfl rfl
 refine Dq rfl (.inl rfl) rfl (fun _ h=>h) (Ym rfl) ?_
 apply WD.and 6 (x:=true) rfl rfl rfl rfl rfl (.inl rfl) rfl (fun _ h=>h) rfl rfl rfl rfl
 ·
  intro hg10
  refine Dq rfl (.g rfl rfl rfl) rfl (fun _ h=>h) (Yf fo42_4 rfl) ?_
  refine Dq rfl (.g rfl rfl rfl) rfl (fun _ h=>h) (Yd 1 rfl rfl rfl na40) ?_
  refine Dq rfl (.g rfl rfl rfl) rfl (fun _ h=>h) (Yo (i:=0) es40 rfl rfl haa (by rw [hml]; decide)) ?_
  refine Dq rfl (.g rfl rfl rfl) rfl (fun _ h=>h) (Yf fo68_2 rfl) ?_
  refine Dq rfl (.g rfl rfl rfl) rfl (fun _ h=>h) (yl_ld 1 na3 rfl rfl (hra 2 _ rfl)) ?_
  refine Dq rfl (.g rfl rfl rfl) rfl (fun _ h=>h) (yl_eqiY rfl rfl hta1) ?_
  exact Gi 6 (fun _ h=>h) rfl rfl rfl
 refine Dq rfl (.inl rfl) rfl (fun _ h=>h) (Ym rfl) ?_
 apply WD.and 6 (x:=true) rfl rfl rfl rfl rfl (.inl rfl) rfl (fun _ h=>h) rfl rfl rfl rfl
 ·
  intro hg11
  refine Dq rfl (.g rfl rfl rfl) rfl (fun _ h=>h) (Yf fo42_4 rfl) ?_
  refine Dq rfl (.g rfl rfl rfl) rfl (fun _ h=>h) (Yd 1 rfl rfl rfl na40) ?_
  refine Dq rfl (.g rfl rfl rfl) rfl (fun _ h=>h) (Yo (i:=0) es40 rfl rfl haa (by rw [hml]; decide)) ?_
  refine Dq rfl (.g rfl rfl rfl) rfl (fun _ h=>h) (Yf fo68_3 rfl) ?_
  refine Dq rfl (.g rfl rfl rfl) rfl (fun _ h=>h) (yl_ld 1 na3 rfl rfl (hra 3 _ rfl)) ?_
  refine Dq rfl (.g rfl rfl rfl) rfl (fun _ h=>h) (yl_eqiY rfl rfl hta2) ?_
  exact Gi 6 (fun _ h=>h) rfl rfl rfl
 refine Dq rfl (.inl rfl) rfl (fun _ h=>h) (Ym rfl) ?_
 apply WD.and 6 (x:=true) rfl rfl rfl rfl rfl (.inl rfl) rfl (fun _ h=>h) rfl rfl rfl rfl
 ·
  intro hg12
  refine Dq rfl (.g rfl rfl rfl) rfl (fun _ h=>h) (Yf fo42_4 rfl) ?_
  refine Dq rfl (.g rfl rfl rfl) rfl (fun _ h=>h) (Yd 1 rfl rfl rfl na40) ?_
  refine Dq rfl (.g rfl rfl rfl) rfl (fun _ h=>h) (Yo (i:=0) es40 rfl rfl haa (by rw [hml]; decide)) ?_
  refine Dq rfl (.g rfl rfl rfl) rfl (fun _ h=>h) (Yf fo68_1 rfl) ?_
  refine Dq rfl (.g rfl rfl rfl) rfl (fun _ h=>h) (yl_ld 1 na3 rfl rfl (hra 1 _ rfl)) ?_
  refine Dq rfl (.g rfl rfl rfl) rfl (fun _ h=>h) (yl_eqiY rfl rfl hta3) ?_
  exact Gi 6 (fun _ h=>h) rfl rfl rfl
 refine Dq rfl (.inl rfl) rfl (fun _ h=>h) (Ya rfl) ?_
 refine WD.nil (fun _ h=>h) ?_
 refine Et (Crt ?_)
 refine WE.ret1 rfl rfl fun w' hw=>?_
 exact ⟨rfl,hw.fr⟩
theorem scopeFaces_any (G H HF:View) (ke ks:Nat) (q:MAt) (m:TMod) (w:World) (hG:Le G w) (hz:Laid G) (hH:Le H w) (hHF:Le HF w) (hm:RdM ke ks H q m) (hb:wM m≤109951162777) (f:List UInt8×List FItem) (r:SP) (hf:Sl rdItem 4 HF r.1 r.2 f.2) :
   Calls Tryz.prog 3 #[.agg (modV m q).toArray,.agg (faceV f r).toArray] w fun e w'=>e = .returned (.bool true)∧Ext w w':=by
 refine enter Tryz.func3 rfl 37 rfl rfl ?_
 refine CWd (W':=Ws w [] [] [G,H,HF]) (fun _ e=>by subst e; exact Ws.init (by simp [hG,hH,hHF])) ?_
 refine Cs (Cr ?_)
 refine WL.box (.inl rfl) rfl rfl fun b2=>?_
 refine WL.box (.inl rfl) rfl rfl fun b3=>?_
 refine V0 (Ya rfl) ?_
 refine Ln (Et (Cs (Cr ?_)))
 refine V0 (Yda 1 rfl rfl ag27 rfl) ?_
 refine Ld (.inl rfl) rfl en6 rfl (fun r:SP=>.tuple #[.agg #[st (faceM m).1.1,.slice r.1 (faceM m).1.2.length r.2],.int .i64 (faceM m).2]) (fun H r=>Sl rdItem 4 H r.1 r.2 (faceM m).1.2) (fun w hw=>face_any H ke ks q m w (hw.vs _ (by simp)) hm hb) ?_
 intro F11 r11 hf11 h11
 refine V0 (Ym rfl) ?_
 refine V0 (Yx rfl rfl) ?_
 refine V0 (Yx rfl rfl) ?_
 refine WL.alloc (.inl rfl) rfl zr30 fun b5=>?_
 refine Lst 0 (.inl rfl) rfl rfl rfl sz30 rfl rfl rfl ?_
 refine V0 (Ya rfl) ?_
 refine Ln (Et (Cs (Cr ?_)))
 refine V0 (Yda 2 rfl rfl ag27 rfl) ?_
 refine Ld (.inl rfl) rfl en7 rfl (fun r:SP=>.tuple #[.agg #[st (faceM m).1.1,.slice r.1 (faceM m).1.2.length r.2],.int .i64 (faceM m).2]) (fun H r=>Sl rdItem 4 H r.1 r.2 (faceM m).1.2) (fun w hw=>faceOf_any H ke ks q m w (hw.vs _ (by simp)) hm hb) ?_
 intro F16 r16 hf16 h16
 refine V0 (Ym rfl) ?_
 refine V0 (Yx rfl rfl) ?_
 refine V0 (Yx rfl rfl) ?_
 refine WL.alloc (.inl rfl) rfl zr30 fun b7=>?_
 refine Lst 0 (.inl rfl) rfl rfl rfl sz30 rfl rfl rfl ?_
 refine V0 (Ya rfl) ?_
 refine Ln (Et (Cs ?_))
 refine WC.draws0 [(0,false),(1,true),(2,true),(3,true),(4,true),(5,true),(6,true),(7,true),(8,true),(9,false),(10,true),(11,true),(12,true),(14,true),(13,false),(15,false),(16,true),(17,true),(18,true)] mixed (by kernel_rfl) (fun _ _ _ d _ h=>by cases d<;>exact h) ?_
 refine De rfl (fun _ h=>h) ?_
 refine Lp (.inl rfl) rfl en8 rfl (fun w hw=>scopeBegun_any G w (hw.vs _ (by simp)) hz) ?_
 refine Ln (Ed ?_)
 refine Dq rfl (.inl rfl) rfl (fun _ h=>h) (Ym rfl) ?_
 apply WD.and 3 (x:=true) rfl rfl rfl rfl rfl (.inl rfl) rfl (fun _ h=>h) rfl rfl rfl rfl
 ·
  intro hg0
  refine Dq rfl (.g rfl rfl rfl) rfl (fun _ h=>h) (Ym rfl) ?_
  refine Dq rfl (.g rfl rfl rfl) rfl (fun _ h=>h) (Ym rfl) ?_
  refine Dq rfl (.g rfl rfl rfl) rfl (fun _ h=>h) (yl_eqiY rfl rfl rfl) ?_
  exact Gi 3 (fun _ h=>h) rfl rfl rfl
 refine Dq rfl (.inl rfl) rfl (fun _ h=>h) (Ym rfl) ?_
 apply WD.and 3 (x:=true) rfl rfl rfl rfl rfl (.inl rfl) rfl (fun _ h=>h) rfl rfl rfl rfl
 ·
  intro hg1
  refine Dq rfl (.g rfl rfl rfl) rfl (fun _ h=>h) (Yda 1 rfl rfl ag30 rfl) ?_
  refine Dq rfl (.g rfl rfl rfl) rfl (fun _ h=>h) (Yda 0 rfl rfl ag30 rfl) ?_
  refine De rfl (fun _ h=>h) ?_
  refine Lp (.g rfl rfl rfl) rfl en9 rfl (fun w hw=>sameFaces_eq F11 F16 r11.1 r16.1 r11.2 r16.2 (faceM m).1.1 (faceM m).1.2 w (hw.vs _ (by simp)) (hw.vs _ (by simp)) h11 h16) ?_
  refine Ln (Ed ?_)
  exact Gi 3 (fun _ h=>h) rfl rfl rfl
 refine Dq rfl (.inl rfl) rfl (fun _ h=>h) (Ym rfl) ?_
 apply WD.and 5 (x:=true) rfl rfl rfl rfl rfl (.inl rfl) rfl (fun _ h=>h) rfl rfl rfl rfl
 ·
  intro hg2
  refine Dq rfl (.g rfl rfl rfl) rfl (fun _ h=>h) (Yda 2 rfl rfl ag30 rfl) ?_
  refine Dq rfl (.g rfl rfl rfl) rfl (fun _ h=>h) (Yda 2 rfl rfl ag30 rfl) ?_
  refine De rfl (fun _ h=>h) ?_
  refine Lp (.g rfl rfl rfl) rfl en10 rfl (fun w hw=>scopeCheck_any HF r.1 r.2 f.1 f.2 w (hw.vs _ (by simp)) hf) ?_
  refine Ln (Ed ?_)
  refine De rfl (fun _ h=>h) ?_
  refine Lp (.g rfl rfl rfl) rfl en11 rfl (fun w hw=>checkFace_any HF r.1 r.2 f.1 f.2 w (hw.vs _ (by simp)) hf) ?_
  refine Ln (Ed ?_)
  refine Dq rfl (.g rfl rfl rfl) rfl (fun _ h=>h) (yl_eqiY rfl rfl rfl) ?_
  exact Gi 5 (fun _ h=>h) rfl rfl rfl
 refine Dq rfl (.inl rfl) rfl (fun _ h=>h) (Ya rfl) ?_
 refine WD.nil (fun _ h=>h) ?_
 refine Et (Crt ?_)
 refine WE.ret1 rfl rfl fun w' hw=>?_
 exact ⟨rfl,hw.fr⟩
end Go.Proofs.YtinnlppbkhhoiaaGreatDoor
end
