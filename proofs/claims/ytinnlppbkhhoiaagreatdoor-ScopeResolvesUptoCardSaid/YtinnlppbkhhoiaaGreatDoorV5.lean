/- scope.Resolve answers as the document says, errors too, where what is handed in has a bulk of at most 1048576 (the second form, over the tied card). -/
import Derived.Test.YtinnlppbkhhoiaaGreatDoorV4
set_option linter.unusedVariables false
set_option linter.unusedSimpArgs false
section
namespace Go.Proofs.YtinnlppbkhhoiaaGreatDoor
open Go.Bw
set_option linter.unusedVariables false
set_option linter.unusedSimpArgs false
def faceV (f:List UInt8×List FItem) (r:SP):List Value:=[st f.1,.slice r.1 f.2.length r.2]
def rdFace (H:View) (b o:Nat) (f:List UInt8×List FItem):Prop:=∃r:SP,RdC H b o (faceV f r)∧Sl rdItem 4 H r.1 r.2 f.2
abbrev XM:=List FItem×Nat
def XM.cells (e:XM):List Value:=[.map (some e.2)]
theorem XM.cells_len (e:XM):(XM.cells e).length=1:=rfl
def rdXM (H:View) (b o:Nat) (e:XM):Prop:=RdC H b o (XM.cells e)
def IsTab (J:View) (e:XM):Prop:=J e.2=some (gobj st (tabI e.1 0) e.1.length)
theorem IsTab.mv {A B:View} {e:XM} (hv:VLe A B) (h:IsTab A e):IsTab B e:=hv _ _ h
def okFace (u:List UInt8) (f:List UInt8×List FItem):Bool:=(faceE f.1 f.2==0)&&(f.1==u)
theorem facesOk_iff:∀{us:List (List UInt8)} {fs:List (List UInt8×List FItem)},facesOk us fs=true↔∀(k:Nat) u f,us[k]? = some u→fs[k]? = some f→okFace u f=true
 | [],fs=>by simp [facesOk]
 | u::us,[]=>by simp [facesOk]
 | u::us,f::fs=>by
   have ih:=facesOk_iff (us:=us) (fs:=fs)
   simp only [facesOk,Bool.and_eq_true]
   constructor
   · rintro ⟨h1,h2⟩ k u' f' hu hf
     cases k with
     | zero=>simp at hu hf; subst hu; subst hf; simp only [okFace,Bool.and_eq_true]; exact h1
     | succ k=>exact ih.1 h2 k u' f' (by simpa using hu) (by simpa using hf)
   · intro h
     refine ⟨by have:=h 0 u f rfl rfl; simp only [okFace,Bool.and_eq_true] at this; exact this,ih.2 fun k u' f' hu hf=>h (k+1) u' f' (by simpa using hu) (by simpa using hf)⟩
theorem face_nodup {n:List UInt8} {l:List FItem} (h:faceE n l=0):(l.map (·.name)).Nodup∧l.length≤16:=by
 unfold faceE at h
 split at h
 · cases h
 · split at h
   · rename_i h1 h2
     simp only [Bool.and_eq_true,Bool.not_eq_true',Bool.or_eq_false_iff] at h2
     exact ⟨nodup_twice.2 h2.2.1,by omega⟩
   · cases h
theorem res_face {m:TMod} {fs:List (List UInt8×List FItem)} (h:¬(faceM m).2=0):resolveM m fs=(noUnit,(faceM m).2):=by rw [resolveM,if_pos h]
theorem res_cnt {m:TMod} {fs:List (List UInt8×List FItem)} (h:(faceM m).2=0) (h1:¬fs.length=m.uses.length):resolveM m fs=(noUnit,8):=by rw [resolveM,if_neg (by simp [h]),if_pos h1]
theorem res_faces {m:TMod} {fs:List (List UInt8×List FItem)} (h:(faceM m).2=0) (h1:fs.length=m.uses.length) (h2:facesOk m.uses fs=false):resolveM m fs=(noUnit,1):=by rw [resolveM,if_neg (by simp [h]),if_neg (by simp [h1]),if_pos h2]
theorem res_err {m:TMod} {fs:List (List UInt8×List FItem)} (h:(faceM m).2=0) (h1:fs.length=m.uses.length) (h2:facesOk m.uses fs=true) (h3:errU m fs≠0):resolveM m fs=(noUnit,errU m fs):=by rw [resolveM,if_neg (by simp [h]),if_neg (by simp [h1]),if_neg (by simp [h2]),if_pos h3]
theorem res_ok {m:TMod} {fs:List (List UInt8×List FItem)} (h:(faceM m).2=0) (h1:fs.length=m.uses.length) (h2:facesOk m.uses fs=true) (h3:errU m fs=0):resolveM m fs=(unitT m fs,0):=by rw [resolveM,if_neg (by simp [h]),if_neg (by simp [h1]),if_neg (by simp [h2]),if_neg (by simp [h3])]
theorem face_zero {m:TMod} (h:(faceM m).2=0):checkM m=0∧twiceB ((itemsM m).map (·.name))=false∧twiceB m.uses=false:=by
 by_cases hc:checkM m=0
 · by_cases h2:(twiceB ((itemsM m).map (·.name))||twiceB m.uses)=true
   · rw [faceM_twice hc h2] at h; cases h
   · rw [Bool.not_eq_true,Bool.or_eq_false_iff] at h2
     exact ⟨hc,h2⟩
 · rw [faceM_err hc] at h; exact absurd h hc
theorem tab_step {l:List (List UInt8)} {k:Nat} {x:List UInt8} (hx:l[k]? = some x) (hn:x ∉ l.take k):gobj st (gput x (.int .i64 ((k+1:Nat):Int)) (tabL (l.take k) 0) k) (gclock x (tabL (l.take k) 0) k)=gobj st (tabL (l.take (k+1)) 0) (k+1):=by
 have hlt:=(List.getElem?_eq_some_iff.1 hx).1
 have hl:(l.take k).length=k:=by simp; omega
 have h:=tabL_put hn
 rw [hl] at h
 rw [h.1,h.2,take_snoc hx]
 simp [hl]
theorem nodup_at {l:List (List UInt8)} (h:l.Nodup) {k:Nat} {x:List UInt8} (hx:l[k]? = some x):x ∉ l.take k:=by
 intro hm
 obtain ⟨j,hj⟩:=List.getElem?_of_mem hm
 have hjk:j<k:=by have:=(List.getElem?_eq_some_iff.1 hj).1; simp at this; omega
 rw [List.getElem?_take,if_pos hjk] at hj
 have hjl:=(List.getElem?_eq_some_iff.1 hj).1
 have:=(List.getElem?_inj hjl h).1 (hj.trans hx.symm)
 omega
theorem pos_zero {nm:List UInt8} {l:List (List UInt8)} (h:(posN nm l==0)=true):nm ∉ l:=by
 have:¬0<posN nm l:=by simp at h; omega
 exact idxOf_none.1 (posN_no this)
theorem pos_twice {l:List (List UInt8)} {k:Nat} {x:List UInt8} (hx:l[k]? = some x) (h:(posN x (l.take k)==0)=false):twiceB l=true:=by
 have hne:¬posN x (l.take k)=0:=by simpa using h
 have hp:0<posN x (l.take k):=by
   unfold posN at hne ⊢
   cases hi:idxOf x (l.take k) 0 with
   | none=>rw [hi] at hne; exact absurd rfl hne
   | some j=>simp only; omega
 obtain ⟨j,hj,_,hlt⟩:=posN_pos hp
 have h2:=(idxOf_le hj).2
 have hjk:j<k:=by simp at hlt; omega
 rw [Nat.sub_zero,List.getElem?_take,if_pos hjk] at h2
 exact twice_iff.2 ⟨k,j,(List.getElem?_eq_some_iff.1 hx).1,hjk,by rw [hx,h2]⟩
theorem nodup_grow {l:List (List UInt8)} {k:Nat} {x:List UInt8} (hx:l[k]? = some x) (hn:x ∉ l.take k) (h:(l.take k).Nodup):(l.take (k+1)).Nodup:=by
 rw [take_snoc hx,List.nodup_append]
 exact ⟨h,by simp,fun a ha b hb=>by rw [List.mem_singleton] at hb; subst hb; intro e; subst e; exact hn ha⟩
theorem errP_twice {m:TMod} {fs:List (List UInt8×List FItem)} {p:TProc} (h:twiceB (p.params++p.locs)=true):errP m fs p=6:=by rw [errP,if_pos h]; rfl
theorem errP_body {m:TMod} {fs:List (List UInt8×List FItem)} {p:TProc} (h:twiceB (p.params++p.locs)=false):errP m fs p=errSs (scpM m fs (p.params++p.locs)) p.body:=by rw [errP,if_neg (by simp [h])]; rfl
structure GP where
 i:Nat
 es:List XP
 a:Option Addr
 c:Nat
 J:View
 lb:Value
def partU (m:TMod) (c:SP) (n:Nat) (p:SP):List Value:=[st m.nm,.slice c.1 m.uses.length c.2,.int .i64 (dataM m),.slice p.1 n p.2,.slice none 0 0]
theorem en6:Enters Tryz.prog 6:=enters_of Tryz.func6 (by kernel_rfl) rfl
theorem ag42:aggOf Tryz.prog 42=some 5:=by kernel_rfl
theorem es38:elemSz Tryz.prog 38=some 2:=by kernel_rfl
theorem en32:Enters Tryz.prog 32:=enters_of Tryz.func32 (by kernel_rfl) rfl
theorem pl82:placesP Tryz.prog 82=some [(0,1),(1,1),(2,1),(3,1)]:=by kernel_rfl
theorem zr82:zeroOf Tryz.prog 82=some (.agg #[.map none,.map none,.slice none 0 0,.map none]):=by kernel_rfl
theorem en10:Enters Tryz.prog 10:=enters_of Tryz.func10 (by kernel_rfl) rfl
theorem en31:Enters Tryz.prog 31:=enters_of Tryz.func31 (by kernel_rfl) rfl
theorem el80:EltOk Tryz.prog 80 77 (.map none) 1 8:=eltOk_of (by kernel_rfl)
theorem sz80:sizeP Tryz.prog 80=some 1:=by kernel_rfl
theorem en34:Enters Tryz.prog 34:=enters_of Tryz.func34 (by kernel_rfl) rfl
theorem sz79:sizeP Tryz.prog 79=some 1:=by kernel_rfl
theorem el128:EltOk Tryz.prog 128 22 (.slice none 0 0) 1 24:=eltOk_of (by kernel_rfl)
theorem en35:Enters Tryz.prog 35:=enters_of Tryz.func35 (by kernel_rfl) rfl
theorem fo42_3:fieldOff Tryz.prog 42 3=some 3:=by kernel_rfl
theorem na39:nonAgg Tryz.prog 39=true:=by kernel_rfl
theorem pl65:placesP Tryz.prog 65=some [(0,1),(1,1),(2,1)]:=by kernel_rfl
theorem zr65:zeroOf Tryz.prog 65=some (.agg #[.int .i64 0,.int .i64 0,.slice none 0 0]):=by kernel_rfl
theorem el39:EltOk Tryz.prog 39 65 (.agg #[.int .i64 0,.int .i64 0,.slice none 0 0]) 3 40:=eltOk_of (by kernel_rfl)
theorem sz39:sizeP Tryz.prog 39=some 1:=by kernel_rfl
theorem fo42_4:fieldOff Tryz.prog 42 4=some 4:=by kernel_rfl
theorem resolve_any (H HF:View) (ke ks:Nat) (r:MAt) (m:TMod) (fa:Option Addr) (fc:Nat) (fs:List (List UInt8×List FItem)) (w:World) (hH:Le H w) (hHF:Le HF w) (hm:RdM ke ks H r m) (hmf:Sl rdFace 2 HF fa fc fs) (hb:wM m≤109951162777) :
   Calls Tryz.prog 12 #[.agg (modV m r).toArray,.slice fa fs.length fc] w fun e w'=>∃r:UAt,e = .returned (.tuple #[.agg (unitV (resolveM m fs).1 r).toArray,.int .i64 (resolveM m fs).2])∧Ext w w'∧RdU (ke+1) (ks+1) (nv w w') r (resolveM m fs).1:=by
 have hfcap:=hmf.cap
 have hfmax:=hmf.max
 refine enterD Tryz.func12 rfl 159 rfl rfl ?_
 refine CWd (W':=Ws w [] [] [HF,H]) (fun _ e=>by subst e; exact Ws.init (by simp [hHF,hH])) ?_
 refine Cs (Cr ?_)
 refine WL.box (.inl rfl) rfl rfl fun b2=>?_
 refine WL.alloc (.inl rfl) rfl zr42 fun b4=>?_
 refine Lrb 0 (.cells (unitV noUnit noUAt).toArray 42 (0,0)) rfl rfl ?_
 refine WL.alloc (.inl rfl) rfl zr31 fun b5=>?_
 refine Lrb 0 (.cells #[.int .i64 0] 31 (0,0)) rfl rfl ?_
 refine Ln (Et (Cs (Cs (Cr ?_))))
 refine V0 (Yda 2 rfl rfl ag27 rfl) ?_
 refine Ld (.inl rfl) rfl en6 rfl (fun r:SP=>.tuple #[.agg #[st (faceM m).1.1,.slice r.1 (faceM m).1.2.length r.2],.int .i64 (faceM m).2]) (fun H r=>Sl rdItem 4 H r.1 r.2 (faceM m).1.2) (fun w hw=>face_any H ke ks r m w (hw.vs _ (by simp)) hm hb) ?_
 intro F19 r19 hf19 h19
 refine V0 (Ym rfl) ?_
 refine V0 (Yx rfl rfl) ?_
 refine V0 (Yx rfl rfl) ?_
 refine WL.alloc (.inl rfl) rfl zr30 fun b6=>?_
 refine Lst 0 (.inl rfl) rfl rfl rfl sz30 rfl rfl rfl ?_
 refine V0 (Ya rfl) ?_
 refine Ln (Et (Cs (Cr ?_)))
 refine V0 (Ym rfl) ?_
 refine V0 (yl_ne rfl rfl) ?_
 refine Ln (Et ?_)
 refine Cc rfl (fun hc0=>?_) (fun hc0=>?_)
 ·
  have he:¬(faceM m).2=0:=by simpa using hc0
  refine Cs (Cr ?_)
  refine V0 (Yb zr42 pl42 rfl rfl) ?_
  refine V0 (Ym rfl) ?_
  refine Lst 2 (.inl rfl) rfl rfl rfl sz42 rfl rfl rfl ?_
  refine Lst 1 (.inl rfl) rfl rfl rfl sz31 rfl rfl rfl ?_
  refine Ln (Et (Crt (Er ?_)))
  refine WE.retD0 (rs_2 rfl (rv_agg 2 rfl rfl ag42 rfl) (rv_one 1 rfl rfl rfl na31)) fun w' hw=>?_
  rw [res_face he]
  exact ⟨noUAt,rfl,hw.fr,noUnit_rd _⟩
 ·
  have he:(faceM m).2=0:=by simpa using hc0
  obtain ⟨hck,hndI,hndU⟩:=face_zero he
  have ho:=mOk hck
  have hndI:=nodup_twice.2 hndI
  have hndU:=nodup_twice.2 hndU
  have few:=ho.few
  have xu:=hm.uses.max
  have yu:=hm.uses.cap
  have xp:=hm.procs.max
  have yp:=hm.procs.cap
  have hwM:wM m=1+m.nm.length+wN m.uses+wD m.decls+wP m.procs+wSs m.main:=rfl
  refine Ck (Et (Cs (Cs (Cr ?_))))
  refine V0 (Ym rfl) ?_
  refine V0 (Yn es38 rfl) ?_
  refine V0 (Yf fo27_1 rfl) ?_
  refine V0 (Yd 3 rfl rfl rfl na22) ?_
  refine V0 (Yn es22 rfl) ?_
  refine V0 (yl_ne rfl rfl) ?_
  refine Ln (Et ?_)
  refine Cc rfl (fun hc1=>?_) (fun hc1=>?_)
  ·
   have hcnt:¬fs.length=m.uses.length:=by simp at hc1; omega
   refine Cs (Cr ?_)
   refine V0 (Yb zr42 pl42 rfl rfl) ?_
   refine Lst 2 (.inl rfl) rfl rfl rfl sz42 rfl rfl rfl ?_
   refine Lst 1 (.inl rfl) rfl rfl rfl sz31 rfl rfl rfl ?_
   refine Ln (Et (Crt (Er ?_)))
   refine WE.retD0 (rs_2 rfl (rv_agg 2 rfl rfl ag42 rfl) (rv_one 1 rfl rfl rfl na31)) fun w' hw=>?_
   rw [res_cnt he hcnt]
   exact ⟨noUAt,rfl,hw.fr,noUnit_rd _⟩
  ·
   have hcount:fs.length=m.uses.length:=by simp at hc1; omega
   refine Ck (Et (Cs (Cr ?_)))
   refine V0 (yl_func rfl) ?_
   refine WL.defer (.inl rfl) rfl ?_
   refine Ln (Et (Cs (Cr ?_)))
   refine V0 (Yda 3 rfl rfl ag27 rfl) ?_
   refine Ld (.inl rfl) rfl en17 rfl (fun r:SP=>.tuple #[.slice r.1 (itemsM m).length r.2,.int .i64 (dataM m)]) (fun H r=>Sl rdItem 4 H r.1 r.2 (itemsM m)) (fun w hw=>items_any H ke ks r m w (hw.vs _ (by simp)) hm ho) ?_
   intro F36 r36 hf36 h36
   refine V0 (Ym rfl) ?_
   refine V0 (Yx rfl rfl) ?_
   refine V0 (Yx rfl rfl) ?_
   refine V0 (Ya rfl) ?_
   refine V0 (Ya rfl) ?_
   refine Ln (Et (Cs (Cr ?_)))
   refine V0 (Ym rfl) ?_
   refine Ld (.inl rfl) rfl en32 rfl (fun b:Nat=>.map (some b)) (fun H b=>H b=some (gobj st (tabI (itemsM m) 0) (itemsM m).length)) (fun w hw=>tableOf_any F36 r36.1 r36.2 (itemsM m) w (hw.vs _ (by simp)) h36 hndI) ?_
   intro F40 b40 hf40 h40
   refine WL.gmk st (.inl rfl) rfl fun b41=>?_
   refine Lrb 0 (gobj st (tabL (m.uses.take 0) 0) 0) rfl rfl ?_
   refine V0 (Yb zr82 pl82 rfl rfl) ?_
   refine WL.box (.inl rfl) rfl rfl fun b43=>?_
   refine LW (fun _ h=>h.osl_nil 77 1) ?_
   refine WL.v0 ?_
   refine V0 (Ya rfl) ?_
   refine Ln (Et (Cs (Cs (Cr ?_))))
   refine V0 (Ym rfl) ?_
   refine V0 (Yn es38 rfl) ?_
   refine V0 (Ym rfl) ?_
   refine Ln (Et (Cb ?_))
   refine CK (ι:=GX XM) (fun g=>[(46,.int .i64 (g.i:Int))]) [(2,_),(4,_),(5,_),(9,_),(10,_),(44,_),(45,_)] (fun g=>Ws w [] [blk b43 (.cells #[.map (some b40),.map (some b41),.slice g.a g.es.length g.c,.map none] 82 (0,0)),blk b41 (gobj st (tabL (m.uses.take g.i) 0) g.i),osT 77 1 XM.cells g.a g.c g.es,blk b5 (.cells #[.int .i64 0] 31 (0,0)),blk b4 (.cells (unitV noUnit noUAt).toArray 42 (0,0)),blk b2 (.cells (modV m r).toArray 27 (0,0))] [g.J,F40,HF,H]) (fun g=>g.i≤fs.length∧g.es.map (·.1)=(fs.take g.i).map (·.2)∧(∀(k:Nat) u f,k<g.i→m.uses[k]? = some u→fs[k]? = some f→okFace u f=true)∧(Fresh w g.J∧Xs IsTab g.J g.es)) (fun g=>fs.length-g.i) ⟨0,[],none,0,v0⟩ ⟨Nat.zero_le _,rfl,fun k u f hk=>absurd hk (Nat.not_lt_zero k),⟨v0_fresh w,Xs.nil _⟩⟩ (sc rfl (sc rfl (sc rfl (sc rfl (sc rfl (sc rfl (sc rfl (sc rfl sn)))))))) (fun _ h=>by have h:=h.fronti 6 rfl; have h:=h.fronti 6 rfl; have h:=h.fronti 6 rfl; have h:=h.fronti 3 rfl; have h:=h.fronti 5 rfl; have h:=h.fronti 5 rfl; have h:=Ws.keep (L:=[_,_,_,_,_,_]) h; have h:=Ws.drops h (Vs':=[v0,F40,HF,H]) (by simp); exact h) ?_
   intro g ⟨hi,hmap,hok,⟨hfJ,hX⟩⟩
   refine Cs (Cr ?_)
   refine V0 (yl_lt rfl rfl) ?_
   refine Ln (Et (Cs ?_))
   refine Cc rfl (fun hc2=>?_) (fun hc2=>?_)
   ·
    have hlt:g.i<fs.length:=by simpa using hc2
    obtain ⟨f,hfi⟩:∃f,fs[g.i]? = some f:=⟨_,List.getElem?_eq_getElem hlt⟩
    obtain ⟨pbf,pof,haf,rf,hrf,hitf⟩:=hmf.elt g.i f hfi
    obtain ⟨u,hui⟩:∃u,m.uses[g.i]? = some u:=⟨_,List.getElem?_eq_getElem (by omega)⟩
    obtain ⟨pbu,pou,hau,hru⟩:=hm.uses.elt g.i u hui
    have hru:RdC H pbu (pou+g.i*1) (strC u):=hru
    have hel:=map_len hmap hi
    refine Ck (Et (Cs (Cb (Cs (Cr ?_)))))
    refine V0 (Ym rfl) ?_
    refine V0 (Yo es38 rfl rfl haf (by omega)) ?_
    refine V0 (yl_lda 2 ag30 rfl rfl rfl (hrf)) ?_
    refine WL.alloc (.inl rfl) rfl zr30 fun b12=>?_
    refine V0 (Ya rfl) ?_
    refine Lst 0 (.inl rfl) rfl rfl rfl sz30 rfl rfl rfl ?_
    refine Ln (Et (Cs ?_))
    refine WC.drawsK (noRes [.cell 4 42,.cell 5 31]) [] [(0,true),(1,false),(2,true),(3,true),(4,true),(5,true),(6,true),(7,true),(8,true),(9,true),(10,true),(11,true),(12,true),(13,false)] mixed (by kernel_rfl) (by kernel_rfl) (fun _ _ _ _ _ hd h=>bodyD_put (fn:=Tryz.f12) [.cell 4 42,.cell 5 31] rfl hd h) ?_
    refine Dq rfl (.inl rfl) rfl (fun _ h=>h) (Yda 0 rfl rfl ag30 rfl) ?_
    refine De rfl (fun _ h=>h) ?_
    refine Lp (.inl rfl) rfl en10 rfl (fun w hw=>scopeCheck_any HF rf.1 rf.2 f.1 f.2 w (hw.vs _ (by simp)) hitf) ?_
    refine Ln (Ed ?_)
    refine Dq rfl (.inl rfl) rfl (fun _ h=>h) (yl_eq rfl rfl) ?_
    refine Dq rfl (.inl rfl) rfl (fun _ h=>h) (Ym rfl) ?_
    apply WD.and 8 rfl rfl rfl rfl rfl (.inl rfl) rfl (fun _ h=>h) rfl rfl rfl rfl
    ·
     intro hg0
     refine Dq rfl (.g rfl rfl rfl) rfl (fun _ h=>h) (Yf fo30_0 rfl) ?_
     refine Dq rfl (.g rfl rfl rfl) rfl (fun _ h=>h) (Yd 0 rfl rfl rfl na9) ?_
     refine Dq rfl (.g rfl rfl rfl) rfl (fun _ h=>h) (Yf fo27_1 rfl) ?_
     refine Dq rfl (.g rfl rfl rfl) rfl (fun _ h=>h) (Yd 6 rfl rfl rfl na22) ?_
     refine Dq rfl (.g rfl rfl rfl) rfl (fun _ h=>h) (Ym rfl) ?_
     refine Dq rfl (.g rfl rfl rfl) rfl (fun _ h=>h) (Yo es22 rfl rfl hau (by omega)) ?_
     refine Dq rfl (.g rfl rfl rfl) rfl (fun _ h=>h) (yl_ld 3 na9 rfl rfl (hru 0 _ rfl)) ?_
     refine Dq rfl (.g rfl rfl rfl) rfl (fun _ h=>h) (yl_eqs rfl rfl) ?_
     exact Gi 8 (fun _ h=>h) rfl rfl rfl
    refine De rfl (fun _ h=>h) ?_
    refine WL.callpx (ι:=Unit) (κ:=Unit) (.inl rfl) rfl en33 rfl (fun _=>.tuple #[]) (fun _=>okFace u f=true) (fun _=>refd 1) (fun _=>okFace u f=false) (fun w hw=>scMust_any _ _ w) ?_ ?_
    ·
     intro _ hp
     refine Ep ?_
     refine Ep ?_
     refine WE.block_panic ?_
     refine Ep ?_
     refine Ep ?_
     refine WE.block_panic ?_
     refine Ep ?_
     refine WE.front 4 rfl ?_
     refine WE.front 5 rfl ?_
     refine WE.panD en31 (closW [_,_] _ [blk b4 (.cells (unitV noUnit noUAt).toArray 42 (0,0)),blk b5 (.cells #[.int .i64 1] 31 (0,0))] rfl (fun w hw=>resolve1_pan b4 b5 (unitV noUnit noUAt) rfl 0 1 w hw)) (rs_2 rfl (rv_agg 0 rfl rfl ag42 rfl) (rv_one 1 rfl rfl rfl na31)) fun w' hw=>?_
     have hno:facesOk m.uses fs=false:=by
       rw [Bool.eq_false_iff]
       intro h
       have:=facesOk_iff.1 h g.i u f hui hfi
       rw [hp] at this; cases this
     rw [res_faces he hcount hno]
     exact ⟨noUAt,rfl,hw.fr,noUnit_rd _⟩
    intro _ hm64
    refine Ln (Ed ?_)
    refine WD.nil (fun _ h=>h) ?_
    refine Et (Cs ?_)
    have hof:okFace u f=true:=hm64
    have hof2:=hof
    simp only [okFace,Bool.and_eq_true,beq_iff_eq] at hof2
    obtain ⟨hfe,hfu⟩:=hof2
    obtain ⟨hfn,hfl⟩:=face_nodup hfe
    have hnot:f.1 ∉ m.uses.take g.i:=by rw [hfu]; exact nodup_at hndU hui
    refine WC.drawsK (noRes [.cell 4 42,.cell 5 31]) [2] [(0,true),(1,true),(2,true),(3,true),(4,true),(5,true),(6,true),(7,true),(8,false)] mixed (by kernel_rfl) (by kernel_rfl) (fun _ _ _ _ _ hd h=>bodyD_put (fn:=Tryz.f12) [.cell 4 42,.cell 5 31] rfl hd h) ?_
    refine Dq rfl (.inl rfl) rfl (fun _ h=>by have h:=Ws.out 2 h; exact h) (Ym rfl) ?_
    refine Dq rfl (.inl rfl) rfl (fun _ h=>by have h:=Ws.out 2 h; exact h) (yl_nil rfl) ?_
    refine Dq rfl (.inl rfl) rfl (fun _ h=>by have h:=Ws.out 2 h; exact h) (Yf fo82_1 rfl) ?_
    refine Dq rfl (.inl rfl) rfl (fun _ h=>by have h:=Ws.out 2 h; exact h) (Yd 1 rfl rfl rfl na79) ?_
    refine Dq rfl (.inl rfl) rfl (fun _ h=>by have h:=Ws.out 2 h; exact h) (Yf fo30_0 rfl) ?_
    refine Dq rfl (.inl rfl) rfl (fun _ h=>by have h:=Ws.out 2 h; exact h) (Yd 0 rfl rfl rfl na9) ?_
    refine Dq rfl (.inl rfl) rfl (fun _ h=>by have h:=Ws.out 2 h; exact h) (Ym rfl) ?_
    refine Dq rfl (.inl rfl) rfl (fun _ h=>by have h:=Ws.out 2 h; exact h) (Yi rfl rfl rfl (by omega)) ?_
    refine De rfl (fun _ h=>by have h:=Ws.out 2 h; exact h) ?_
    refine WL.gset 2 keyStr (.inl rfl) um79 us9 rfl rfl rfl rfl ?_
    refine Lrb 2 (gobj st (tabL (m.uses.take (g.i+1)) 0) (g.i+1)) rfl (by rw [hfu]; exact tab_step hui (hfu▸hnot)) ?_
    refine Ln (Ed ?_)
    refine WD.nil (fun _ h=>by have h:=Ws.out 2 h; exact h) ?_
    refine Et ?_
    refine CU (noRes [.cell 4 42,.cell 5 31]) [3] [10,11,12] (.q false 0 (.q false 1 (.q false 2 (.q false 3 (.q true 4 (.q false 5 (.q true 6 (.e 7 (.e 8 (.e 9 .nil .stop) .stop) .stop)))))))) mixed (by kernel_rfl) (fun _ _ _ _ _ hd h=>bodyD_put (fn:=Tryz.f12) [.cell 4 42,.cell 5 31] rfl hd h) ?_
    refine Uq rfl (.inl rfl) rfl (fun _ h=>by have h:=Ws.out 3 h; exact h) (Ym rfl) ?_
    refine Uq rfl (.inl rfl) rfl (fun _ h=>by have h:=Ws.out 3 h; exact h) (Ym rfl) ?_
    refine Uq rfl (.inl rfl) rfl (fun _ h=>by have h:=Ws.out 3 h; exact h) (yl_nil rfl) ?_
    refine Uq rfl (.inl rfl) rfl (fun _ h=>by have h:=Ws.out 3 h; exact h) (Yf fo82_2 rfl) ?_
    refine Uq rfl (.inl rfl) rfl (fun _ h=>by have h:=Ws.out 3 h; exact h) (Yd 1 rfl rfl rfl na80) ?_
    refine Uq rfl (.inl rfl) rfl (fun _ h=>by have h:=Ws.out 3 h; exact h) (Yf fo30_1 rfl) ?_
    refine Uq rfl (.inl rfl) rfl (fun _ h=>by have h:=Ws.out 3 h; exact h) (Yd 0 rfl rfl rfl na28) ?_
    refine Ue rfl (fun _ h=>by have h:=Ws.out 3 h; exact h) ?_ WU.stop
    refine Ld (.inl rfl) rfl en32 rfl (fun b:Nat=>.map (some b)) (fun H b=>H b=some (gobj st (tabI f.2 0) f.2.length)) (fun w hw=>tableOf_any HF rf.1 rf.2 f.2 w (hw.vs _ (by simp)) hitf hfn) ?_
    intro F80 b80 hf80 h80
    refine Ln (Eu ?_)
    refine Ue rfl (fun _ h=>by have h:=Ws.out 3 h; have h:=Ws.drops h (fun _ hm=>List.mem_append_right [_] hm); exact h) ?_ WU.stop
    refine Lb (.inl rfl) rfl el80 rfl rfl rfl rfl fun b81=>?_
    refine Lrb 0 (.cells (XM.cells (f.2,b80)).toArray 77 (0,0)) rfl (rfl) ?_
    refine Ln (Eu ?_)
    refine Ue rfl (fun _ h=>by have h:=Ws.drop (L:=[_]) (L':=_) h; have h:=Ws.out 3 h; have h:=Ws.drops h (fun _ hm=>List.mem_append_right [_] hm); exact h) ?_ WU.stop
    refine LA ((f.2,b80):XM) 4 0 (.inl rfl) rfl el80 rfl rfl rfl rfl rfl rfl (by omega) (by omega) fun a82 c82=>?_
    refine Ln (Eu ?_)
    refine WU.nil (fun _ h=>by have h:=Ws.drop (L:=[_]) (L':=_) h; have h:=Ws.out 3 h; have h:=Ws.drops h (fun _ hm=>List.mem_append_right [_] hm); exact h) ?_
    refine WS.e rfl ?_
    refine V0 (yl_nil rfl) ?_
    refine Ln (Es ?_)
    refine WS.e rfl ?_
    refine V0 (Yf fo82_2 rfl) ?_
    refine Ln (Es ?_)
    refine WS.e rfl ?_
    refine Lst 2 (.inl rfl) rfl rfl rfl sz80 rfl rfl rfl ?_
    refine Ln (Es ?_)
    refine WS.nil ?_
    refine Eb (Et ?_)
    refine WC.vjoin fun J80 j80a j80b j80f=>?_
    refine Cr ?_
    refine V0 (Yi rfl rfl rfl (by omega)) ?_
    refine V0 (Ym rfl) ?_
    refine Ln ?_
    exact Ea (⟨g.i+1,g.es++[(f.2,b80)],a82,c82,J80⟩:GX XM) (by show _-(g.i+1)<_; omega) ⟨(by show g.i+1≤_; omega),map_snoc hmap hfi rfl,fun k u2 f2 hk hu2 hf2=>by
        rcases Nat.lt_succ_iff_lt_or_eq.1 hk with h | rfl
        · exact hok k u2 f2 h hu2 hf2
        · rw [hui] at hu2; rw [hfi] at hf2; injection hu2 with hu2; injection hf2 with hf2; subst hu2; subst hf2; exact hof,⟨j80f _ hf80 hfJ,Xs.snoc (R:=IsTab) (fun hv h=>IsTab.mv hv h) hX j80b j80a h80⟩⟩ (sc rfl (sc rfl (sc rfl (sc rfl (sc rfl (sc rfl (sc rfl (sc rfl sn)))))))) (fun _ h=>Ws.drop (L:=[_,_]) h)
   ·
    have hgi:g.i=fs.length:=by simp at hc2; omega
    have hfok:facesOk m.uses fs=true:=facesOk_iff.2 fun k u f hu hf=>hok k u f (by have:=(List.getElem?_eq_some_iff.1 hf).1; omega) hu hf
    have hmapF:=map_all hmap hgi
    have huall:m.uses.take g.i=m.uses:=by rw [hgi,hcount,List.take_length]
    have hglen:g.i=m.uses.length:=by rw [hgi,hcount]
    rw [huall,hglen]
    refine Ce (Ex (Ex (Ebh (Et (Cs ?_)))))
    refine WC.oslview (rd:=rdXM) 2 rfl XM.cells_len (fun _ _ _ _ h=>h) fun KF hKF=>?_
    refine WC.drawsK (noRes [.cell 4 42,.cell 5 31]) [3] [(0,true),(1,true),(2,true),(3,true),(5,true),(4,false),(6,true),(7,false)] mixed (by kernel_rfl) (by kernel_rfl) (fun _ _ _ _ _ hd h=>bodyD_put (fn:=Tryz.f12) [.cell 4 42,.cell 5 31] rfl hd h) ?_
    refine Dq rfl (.inl rfl) rfl (fun _ h=>by have h:=Ws.out 3 h; exact h) (Yf fo27_0 rfl) ?_
    refine Dq rfl (.inl rfl) rfl (fun _ h=>by have h:=Ws.out 3 h; exact h) (Yd 3 rfl rfl rfl na9) ?_
    refine Dq rfl (.inl rfl) rfl (fun _ h=>by have h:=Ws.out 3 h; exact h) (Yf fo27_1 rfl) ?_
    refine Dq rfl (.inl rfl) rfl (fun _ h=>by have h:=Ws.out 3 h; exact h) (Yd 3 rfl rfl rfl na22) ?_
    refine Dq rfl (.inl rfl) rfl (fun _ h=>by have h:=Ws.out 3 h; exact h) (Ym rfl) ?_
    refine De rfl (fun _ h=>by have h:=Ws.out 3 h; exact h) ?_
    refine Ld (.inl rfl) rfl en34 rfl (fun r:SP=>.slice r.1 m.uses.length r.2) (fun F r=>Sl rdStr 1 F r.1 r.2 m.uses) (fun w hw=>cloneS_any H r.a1 r.c1 m.uses w (hw.vs _ (by simp)) hm.uses (by omega)) ?_
    intro F90 r90 hf90 h90
    refine Ln (Ed ?_)
    refine Dq rfl (.inl rfl) rfl (fun _ h=>by have h:=Ws.out 3 h; have h:=Ws.drops h (fun _ hm=>List.mem_append_right [_] hm); exact h) (Yb zr42 pl42 rfl rfl) ?_
    refine De rfl (fun _ h=>by have h:=Ws.out 3 h; have h:=Ws.drops h (fun _ hm=>List.mem_append_right [_] hm); exact h) ?_
    refine Lst 3 (.inl rfl) rfl rfl rfl sz42 rfl rfl rfl ?_
    refine Ln (Ed ?_)
    refine WD.nil (fun _ h=>by have h:=Ws.out 3 h; have h:=Ws.drops h (fun _ hm=>List.mem_append_right [_] hm); exact h) ?_
    refine Et (Cs (Cs ?_))
    refine Crb 3 (.cells (partU m r90 ([]:List XP).length (none,0)).toArray 42 (0,0)) rfl rfl ?_
    refine CWd (fun _ h=>h.osl_nil 65 3) ?_
    refine CWd (fun _ h=>h.v0) ?_
    refine Cr ?_
    refine V0 (Yf fo27_3 rfl) ?_
    refine V0 (Yd 5 rfl rfl rfl na24) ?_
    refine V0 (Yn es24 rfl) ?_
    refine V0 (Ym rfl) ?_
    refine Ln (Et (Cb ?_))
    refine CK (ι:=GP) (fun z=>[(96,.int .i64 (z.i:Int))]) [(2,_),(4,_),(5,_),(10,_),(94,_),(95,_)] (fun z=>Ws w [] [blk b43 (.cells #[.map (some b40),.map (some b41),.slice g.a g.es.length g.c,z.lb] 82 (0,0)),blk b41 (gobj st (tabL m.uses 0) m.uses.length),osT 65 3 XP.cells z.a z.c z.es,blk b5 (.cells #[.int .i64 0] 31 (0,0)),blk b4 (.cells (partU m r90 z.es.length (z.a,z.c)).toArray 42 (0,0)),blk b2 (.cells (modV m r).toArray 27 (0,0))] [z.J,F90,KF,g.J,F40,HF,H]) (fun z=>z.i≤m.procs.length∧z.es.map (·.1)=(m.procs.take z.i).map (partT m fs)∧ers (errP m fs) (m.procs.take z.i)=0∧(Fresh w z.J∧Xs (SlPt (ke+1) (ks+1)) z.J z.es)) (fun z=>m.procs.length-z.i) ⟨0,[],none,0,v0,.map none⟩ ⟨Nat.zero_le _,rfl,rfl,⟨v0_fresh w,Xs.nil _⟩⟩ (sc rfl (sc rfl (sc rfl (sc rfl (sc rfl (sc rfl (sc rfl sn))))))) (fun _ h=>by have h:=h.fronti 5 rfl; have h:=h.fronti 5 rfl; have h:=h.fronti 5 rfl; have h:=h.fronti 3 rfl; have h:=h.fronti 5 rfl; have h:=h.fronti 5 rfl; have h:=Ws.drops h (Vs':=[v0,F90,KF,g.J,F40,HF,H]) (by simp); exact h) ?_
    intro z ⟨hi2,hmap2,hers2,⟨hfJ2,hX2⟩⟩
    refine Cs (Cr ?_)
    refine V0 (yl_lt rfl rfl) ?_
    refine Ln (Et (Cs ?_))
    refine Cc rfl (fun hc3=>?_) (fun hc3=>?_)
    ·
     have hlt:z.i<m.procs.length:=by simpa using hc3
     obtain ⟨p,hpi⟩:∃q,m.procs[z.i]? = some q:=⟨_,List.getElem?_eq_getElem hlt⟩
     obtain ⟨pbp,pop,hap,hrp⟩:=hm.procs.elt z.i p hpi
     obtain ⟨pa1,pc1,pa2,pc2,pa3,pc3,hrow,hs1,hs2,hs3⟩:=hrp
     have op:=okP (ho.procs p (List.mem_of_getElem? hpi))
     have pfew:=op.few
     have hup:=wP_upto hpi
     have hx1:=hs1.max
     have hy1:=hs1.cap
     have hx2:=hs2.max
     have hy2:=hs2.cap
     have hel2:=map_len hmap2 hi2
     refine Ck (Et (Cs (Cb (Cs (Cr ?_)))))
     refine V0 (Yo es24 rfl rfl hap (by omega)) ?_
     refine V0 (yl_lda 6 ag86 rfl rfl rfl (hrow)) ?_
     refine WL.alloc (.inl rfl) rfl zr86 fun b14=>?_
     refine Lst 0 (.inl rfl) rfl rfl rfl sz86 rfl rfl rfl ?_
     refine Ln (Et (Cs (Cr ?_)))
     refine V0 (Ym rfl) ?_
     refine WL.gmk st (.inl rfl) rfl fun b101=>?_
     refine Lrb 0 (gobj st (tabL ((p.params++p.locs).take 0) 0) 0) rfl rfl ?_
     refine V0 (yl_nil rfl) ?_
     refine V0 (Yf fo82_3 rfl) ?_
     refine Lst 2 (.inl rfl) rfl rfl rfl sz79 rfl rfl rfl ?_
     refine Ln (Et (Cs (Cs (Cr ?_))))
     refine V0 (Yf fo86_2 rfl) ?_
     refine V0 (Yd 1 rfl rfl rfl na22) ?_
     refine V0 (Yf fo86_3 rfl) ?_
     refine V0 (Yd 1 rfl rfl rfl na22) ?_
     refine Lb (.inl rfl) rfl el128 rfl rfl rfl rfl fun b108=>?_
     refine Ld (.inl rfl) rfl en35 rfl (fun r:SP=>.slice r.1 (p.params++p.locs).length r.2) (fun F r=>Sl rdStr 1 F r.1 r.2 (p.params++p.locs)) (fun w hw=>by
         have hls:Sl rdS 1 (hv w) (some ⟨b108,0,none⟩) 2 [((pa1,pc1),p.params),((pa2,pc2),p.locs)]:=⟨by simp,by decide,by simp,fun j x hj=>⟨b108,0,rfl,by
           match j,hj with
           | 0,hj=>simp only [List.getElem?_cons_zero,Option.some.injEq] at hj; subst hj; exact ⟨hw.hvb 0 rfl rfl,hs1.imp fun b o x hx=>rdStr_mono (hv_of (hw.vs H (by simp))) b o x hx⟩
           | 1,hj=>simp only [List.getElem?_cons_succ,List.getElem?_cons_zero,Option.some.injEq] at hj; subst hj; exact ⟨hw.hvb 0 rfl rfl,hs2.imp fun b o x hx=>rdStr_mono (hv_of (hw.vs H (by simp))) b o x hx⟩⟩⟩
         have hc:=concatS_any (hv w) (some ⟨b108,0,none⟩) 2 _ w (hv_le w) hls (by simp [totL]; omega) (by simp)
         rw [show [((pa1,pc1),p.params),((pa2,pc2),p.locs)].flatMap (·.2)=p.params++p.locs by simp] at hc
         exact hc) ?_
     intro F109 r109 hf109 h109
     refine V0 (Yn es22 rfl) ?_
     refine V0 (Ym rfl) ?_
     refine Ln (Et (Cb ?_))
     refine CK (ι:=Nat) (fun j=>[(111,.int .i64 (j:Int))]) [(2,_),(4,_),(5,_),(10,_),(14,_),(94,_),(95,_),(96,_),(109,_),(110,_)] (fun j=>Ws w [] [blk b43 (.cells #[.map (some b40),.map (some b41),.slice g.a g.es.length g.c,.map (some b101)] 82 (0,0)),blk b101 (gobj st (tabL ((p.params++p.locs).take j) 0) j),blk b14 (.cells (procV p pa1 pc1 pa2 pc2 pa3 pc3).toArray 86 (0,0)),blk b41 (gobj st (tabL m.uses 0) m.uses.length),osT 65 3 XP.cells z.a z.c z.es,blk b5 (.cells #[.int .i64 0] 31 (0,0)),blk b4 (.cells (partU m r90 z.es.length (z.a,z.c)).toArray 42 (0,0)),blk b2 (.cells (modV m r).toArray 27 (0,0))] [F109,z.J,F90,KF,g.J,F40,HF,H]) (fun j=>j≤(p.params++p.locs).length∧((p.params++p.locs).take j).Nodup) (fun j=>(p.params++p.locs).length-j) 0 ⟨Nat.zero_le _,List.nodup_nil⟩ (sc rfl (sc rfl (sc rfl (sc rfl (sc rfl (sc rfl (sc rfl (sc rfl (sc rfl (sc rfl (sc rfl sn))))))))))) (fun _ h=>by have h:=h.fronti 8 rfl; have h:=h.fronti 8 rfl; have h:=h.fronti 8 rfl; have h:=h.fronti 8 rfl; have h:=h.fronti 8 rfl; have h:=h.fronti 7 rfl; have h:=h.fronti 7 rfl; have h:=h.fronti 8 rfl; have h:=Ws.keep (L:=[_,_,_,_,_,_,_,_]) h; exact h) ?_
     intro j ⟨hj,hnj⟩
     refine Cs (Cr ?_)
     refine V0 (yl_lt rfl rfl) ?_
     refine Ln (Et (Cs ?_))
     refine Cc rfl (fun hc4=>?_) (fun hc4=>?_)
     ·
      have hlt:j<(p.params++p.locs).length:=by simp only [decide_eq_true_eq] at hc4; omega
      obtain ⟨s,hsi⟩:∃q,(p.params++p.locs)[j]? = some q:=⟨_,List.getElem?_eq_getElem hlt⟩
      obtain ⟨pbs,pos,has,hrs⟩:=h109.elt j s hsi
      have hrs:RdC F109 pbs (pos+j*1) (strC s):=hrs
      have hcn:=h109.cap
      have hmn:=h109.max
      refine Ck (Et (Cs (Cb (Cs (Cr ?_)))))
      refine V0 (Ym rfl) ?_
      refine V0 (Yo es22 rfl rfl has (by omega)) ?_
      refine V0 (yl_ld 0 na9 rfl rfl (hrs 0 _ rfl)) ?_
      refine V0 (Ya rfl) ?_
      refine V0 (Ya rfl) ?_
      refine Ln (Et (Cs (Cr ?_)))
      refine V0 (Ym rfl) ?_
      refine V0 (yl_nil rfl) ?_
      refine V0 (Yf fo82_3 rfl) ?_
      refine V0 (Yd 0 rfl rfl rfl na79) ?_
      refine V0 (Ym rfl) ?_
      refine V0 (yl_glook 1 keyStr um79 us9 zr3 rfl rfl rfl) ?_
      rw [posN_get]
      refine V0 (yl_eq rfl rfl) ?_
      refine WL.callpx (ι:=Unit) (κ:=Unit) (.inl rfl) rfl en33 rfl (fun _=>.tuple #[]) (fun _=>(posN s ((p.params++p.locs).take j)==0)=true) (fun _=>refd 6) (fun _=>(posN s ((p.params++p.locs).take j)==0)=false) (fun w hw=>scMust_any _ _ w) ?_ ?_
      ·
       intro _ hp
       refine Ep ?_
       refine WE.block_panic ?_
       refine Ep ?_
       refine Ep ?_
       refine WE.block_panic ?_
       refine Ep ?_
       refine WE.block_panic ?_
       refine Ep ?_
       refine Ep ?_
       refine WE.block_panic ?_
       refine Ep ?_
       refine WE.front 5 rfl ?_
       refine WE.front 6 rfl ?_
       refine WE.panD en31 (closW [_,_] _ [blk b4 (.cells (unitV noUnit noUAt).toArray 42 (0,0)),blk b5 (.cells #[.int .i64 6] 31 (0,0))] rfl (fun w hw=>resolve1_pan b4 b5 (partU m r90 z.es.length (z.a,z.c)) rfl 0 6 w hw)) (rs_2 rfl (rv_agg 0 rfl rfl ag42 rfl) (rv_one 1 rfl rfl rfl na31)) fun w' hw=>?_
       have ht:=pos_twice hsi hp
       have hE:errU m fs=6:=by rw [errU,ers_hit (errP m fs) hpi hers2 (by rw [errP_twice ht]; decide),errP_twice ht]; rfl
       rw [res_err he hcount hfok (by rw [hE]; decide),hE]
       exact ⟨noUAt,rfl,hw.fr,noUnit_rd _⟩
      intro _ hm123
      have hnot:=pos_zero hm123
      refine Ln (Et (Cr ?_))
      refine V0 (Ym rfl) ?_
      refine V0 (yl_nil rfl) ?_
      refine V0 (Yf fo82_3 rfl) ?_
      refine V0 (Yd 0 rfl rfl rfl na79) ?_
      refine V0 (Ym rfl) ?_
      refine V0 (Ym rfl) ?_
      refine V0 (Yi rfl rfl rfl (by omega)) ?_
      refine WL.gset 1 keyStr (.inl rfl) um79 us9 rfl rfl rfl rfl ?_
      refine Lrb 1 (gobj st (tabL ((p.params++p.locs).take (j+1)) 0) (j+1)) rfl (tab_step hsi hnot) ?_
      refine Ln (Eb (Et (Cr ?_)))
      refine V0 (Yi rfl rfl rfl (by omega)) ?_
      refine V0 (Ym rfl) ?_
      refine Ln ?_
      exact Ea (j+1) (by omega) ⟨by omega,nodup_grow hsi hnot hnj⟩ (sc rfl (sc rfl (sc rfl (sc rfl (sc rfl (sc rfl (sc rfl (sc rfl (sc rfl (sc rfl (sc rfl sn))))))))))) (fun _ h=>h)
     ·
      have hjn:j=(p.params++p.locs).length:=by simp only [decide_eq_false_iff_not] at hc4; omega
      have hnd2:twiceB (p.params++p.locs)=false:=nodup_twice.1 (by rw [hjn,List.take_length] at hnj; exact hnj)
      rw [hjn,List.take_length]
      refine Ce (Ex (Ex (Ebh (Et ?_))))
      refine CU (noRes [.cell 4 42,.cell 5 31]) [4] [15,16] (.q false 0 (.q true 1 (.q false 2 (.q true 3 (.q false 4 (.q false 5 (.q true 6 (.q false 7 (.q false 8 (.q false 9 (.q true 10 (.e 11 (.q false 12 (.e 13 (.e 14 .nil .stop) .stop)) .stop)))))))))))) mixed (by kernel_rfl) (fun _ _ _ _ _ hd h=>bodyD_put (fn:=Tryz.f12) [.cell 4 42,.cell 5 31] rfl hd h) ?_
      refine Uq rfl (.inl rfl) rfl (fun _ h=>by have h:=Ws.out 4 h; exact h) (Yf fo42_3 rfl) ?_
      refine Uq rfl (.inl rfl) rfl (fun _ h=>by have h:=Ws.out 4 h; exact h) (Yd 5 rfl rfl rfl na39) ?_
      refine Uq rfl (.inl rfl) rfl (fun _ h=>by have h:=Ws.out 4 h; exact h) (Yf fo86_2 rfl) ?_
      refine Uq rfl (.inl rfl) rfl (fun _ h=>by have h:=Ws.out 4 h; exact h) (Yd 2 rfl rfl rfl na22) ?_
      refine Uq rfl (.inl rfl) rfl (fun _ h=>by have h:=Ws.out 4 h; exact h) (Yn es22 rfl) ?_
      refine Uq rfl (.inl rfl) rfl (fun _ h=>by have h:=Ws.out 4 h; exact h) (Yf fo86_3 rfl) ?_
      refine Uq rfl (.inl rfl) rfl (fun _ h=>by have h:=Ws.out 4 h; exact h) (Yd 2 rfl rfl rfl na22) ?_
      refine Uq rfl (.inl rfl) rfl (fun _ h=>by have h:=Ws.out 4 h; exact h) (Yn es22 rfl) ?_
      refine Uq rfl (.inl rfl) rfl (fun _ h=>by have h:=Ws.out 4 h; exact h) (Ym rfl) ?_
      refine Uq rfl (.inl rfl) rfl (fun _ h=>by have h:=Ws.out 4 h; exact h) (Yf fo86_4 rfl) ?_
      refine Uq rfl (.inl rfl) rfl (fun _ h=>by have h:=Ws.out 4 h; exact h) (Yd 2 rfl rfl rfl na25) ?_
      refine Ue rfl (fun _ h=>by have h:=Ws.out 4 h; exact h) ?_ WU.stop
      refine WL.calldx (ι:=SP) (κ:=Unit) (.inl rfl) rfl en36 rfl (fun r=>.slice r.1 (actsT (scpM m fs (p.params++p.locs)) p.body).length r.2) (fun F r=>errSs (scpM m fs (p.params++p.locs)) p.body=0∧Sl (RdA (ke+1) (ks+1)) 7 F r.1 r.2 (actsT (scpM m fs (p.params++p.locs)) p.body)) (fun _=>refd (errSs (scpM m fs (p.params++p.locs)) p.body)) (fun _=>errSs (scpM m fs (p.params++p.locs)) p.body≠0) (fun w hw=>by
          have hS:Slv (hv w) b43 (scpM m fs (p.params++p.locs)):=⟨⟨b40,b41,g.a,g.c,b101,⟨hw.hvb 0 rfl rfl,hw.hvb 0 rfl rfl,by show vc (hv w) b43 2=some (.slice g.a (fs.map (·.2)).length g.c); rw [←hmapF,List.length_map]; exact hv_blk (hw.hvw 0 rfl) rfl,hw.hvb 0 rfl rfl⟩,hw.vs F40 (by simp) _ _ h40,hw.hvw 3 rfl,by show Sl rdTab 1 (hv w) g.a g.c (fs.map (·.2)); rw [←hmapF]; exact slX_of hKF hX fun b o e h1 h2=>⟨e.2,(hv_of (hw.vs KF (by simp))).cell (h1 0 _ rfl),hw.vs g.J (by simp) _ _ h2⟩,hw.hvw 1 rfl⟩,hndU,by show m.uses.length=(fs.map (·.2)).length; rw [List.length_map,hcount],⟨ho.few.1,by show (p.params++p.locs).length≤7; rw [List.length_append]; omega⟩⟩
          exact scActs_any (hv w) H b43 (scpM m fs (p.params++p.locs)) ke hS ks p.body pa3 pc3 w (hv_le w) (hw.vs H (by simp)) hs3 (by omega)) ?_ ?_
      ·
       intro _ hp
       refine Ep ?_
       refine WE.block_panic ?_
       refine Ep ?_
       refine Ep ?_
       refine WE.block_panic ?_
       refine Ep ?_
       refine WE.front 5 rfl ?_
       refine WE.front 6 rfl ?_
       refine WE.panD en31 (closW [_,_] _ [blk b4 (.cells (unitV noUnit noUAt).toArray 42 (0,0)),blk b5 (.cells #[.int .i64 (errSs (scpM m fs (p.params++p.locs)) p.body)] 31 (0,0))] rfl (fun w hw=>resolve1_pan b4 b5 (partU m r90 z.es.length (z.a,z.c)) rfl 0 (errSs (scpM m fs (p.params++p.locs)) p.body) w hw)) (rs_2 rfl (rv_agg 0 rfl rfl ag42 rfl) (rv_one 1 rfl rfl rfl na31)) fun w' hw=>?_
       have hE:errU m fs=errSs (scpM m fs (p.params++p.locs)) p.body:=by rw [errU,ers_hit (errP m fs) hpi hers2 (by rw [errP_body hnd2]; exact hp),errP_body hnd2,er_ne hp]
       rw [res_err he hcount hfok (by rw [hE]; exact hp),hE]
       exact ⟨noUAt,rfl,hw.fr,noUnit_rd _⟩
      intro F143 r143 hfr143 ⟨he143,h143⟩
      refine Ln (Eu ?_)
      refine Uq rfl (.inl rfl) rfl (fun _ h=>by have h:=Ws.out 4 h; have h:=Ws.drops h (fun _ hm=>List.mem_append_right [_] hm); exact h) (Yb zr65 pl65 rfl rfl) ?_
      refine Ue rfl (fun _ h=>by have h:=Ws.out 4 h; have h:=Ws.drops h (fun _ hm=>List.mem_append_right [_] hm); exact h) ?_ WU.stop
      refine Lb (.inl rfl) rfl el39 rfl rfl rfl rfl fun b145=>?_
      refine Lrb 0 (.cells (XP.cells (partT m fs p,r143)).toArray 65 (0,0)) rfl (rfl) ?_
      refine Ln (Eu ?_)
      refine Ue rfl (fun _ h=>by have h:=Ws.drop (L:=[_]) (L':=_) h; have h:=Ws.out 4 h; have h:=Ws.drops h (fun _ hm=>List.mem_append_right [_] hm); exact h) ?_ WU.stop
      refine LA (((partT m fs p,r143):XP)) 5 0 (.inl rfl) rfl el39 rfl rfl rfl rfl rfl rfl (by omega) (by omega) fun a146 c146=>?_
      refine Ln (Eu ?_)
      refine WU.nil (fun _ h=>by have h:=Ws.drop (L:=[_]) (L':=_) h; have h:=Ws.out 4 h; have h:=Ws.drops h (fun _ hm=>List.mem_append_right [_] hm); exact h) ?_
      refine WS.e rfl ?_
      refine V0 (Yf fo42_3 rfl) ?_
      refine Ln (Es ?_)
      refine WS.e rfl ?_
      refine Lst 7 (.inl rfl) rfl rfl rfl sz39 rfl rfl rfl ?_
      refine Ln (Es ?_)
      refine WS.nil ?_
      refine Eb (Et ?_)
      refine WC.vjoin fun Jx jxa jxb jxf=>?_
      refine WC.vjoin fun J143 j143a j143b j143f=>?_
      refine Cr ?_
      refine V0 (Yi rfl rfl rfl (by omega)) ?_
      refine V0 (Ym rfl) ?_
      refine Ln ?_
      exact Ea (⟨z.i+1,z.es++[(partT m fs p,r143)],a146,c146,J143,.map (some b101)⟩:GP) (by show _-(z.i+1)<_; omega) ⟨(by show z.i+1≤_; omega),map_snoc hmap2 hpi rfl,(by show ers (errP m fs) (m.procs.take (z.i+1))=0; rw [ers_take _ hpi,hers2,er_0,errP_body hnd2,he143]),⟨j143f _ (jxf _ hfr143 hf109) hfJ2,Xs.snoc (R:=SlPt _ _) (fun hv h=>SlPt.mv hv h) hX2 j143b (VLe.trans jxa j143a) h143⟩⟩ (sc rfl (sc rfl (sc rfl (sc rfl (sc rfl (sc rfl (sc rfl sn))))))) (fun _ h=>by have h:=h.fronti 8 rfl; have h:=h.fronti 8 rfl; have h:=h.fronti 8 rfl; have h:=h.fronti 8 rfl; have h:=h.fronti 8 rfl; have h:=h.fronti 6 rfl; have h:=Ws.keep (L:=[_,_,_,_,_,_]) h; exact h)
    ·
     have hqi:z.i=m.procs.length:=by simp at hc3; omega
     have hall2:=map_all hmap2 hqi
     have hers3:ers (errP m fs) m.procs=0:=by rw [←hers2,hqi,List.take_length]
     have hU:unitT m fs=⟨m.nm,m.uses,dataM m,z.es.map (·.1),actsT (scpM m fs []) m.main⟩:=by rw [hall2]; rfl
     refine Ce (Ex (Ex (Ebh (Et (Cs ?_)))))
     refine Cr ?_
     refine V0 (Ym rfl) ?_
     refine WL.gmk st (.inl rfl) rfl fun b150=>?_
     refine V0 (yl_nil rfl) ?_
     refine V0 (Yf fo82_3 rfl) ?_
     refine Lst 1 (.inl rfl) rfl rfl rfl sz79 rfl rfl rfl ?_
     refine Ln (Et (Cs (Cr ?_)))
     refine V0 (Ym rfl) ?_
     refine V0 (Yf fo27_4 rfl) ?_
     refine V0 (Yd 6 rfl rfl rfl na25) ?_
     refine WL.calldx (ι:=SP) (κ:=Unit) (.inl rfl) rfl en36 rfl (fun r=>.slice r.1 (actsT (scpM m fs []) m.main).length r.2) (fun F r=>errSs (scpM m fs []) m.main=0∧Sl (RdA (ke+1) (ks+1)) 7 F r.1 r.2 (actsT (scpM m fs []) m.main)) (fun _=>refd (errSs (scpM m fs []) m.main)) (fun _=>errSs (scpM m fs []) m.main≠0) (fun w hw=>by
         have hS:Slv (hv w) b43 (scpM m fs []):=⟨⟨b40,b41,g.a,g.c,b150,⟨hw.hvb 1 rfl rfl,hw.hvb 1 rfl rfl,by show vc (hv w) b43 2=some (.slice g.a (fs.map (·.2)).length g.c); rw [←hmapF,List.length_map]; exact hv_blk (hw.hvw 1 rfl) rfl,hw.hvb 1 rfl rfl⟩,hw.vs F40 (by simp) _ _ h40,hw.hvw 2 rfl,by show Sl rdTab 1 (hv w) g.a g.c (fs.map (·.2)); rw [←hmapF]; exact slX_of hKF hX fun b o e h1 h2=>⟨e.2,(hv_of (hw.vs KF (by simp))).cell (h1 0 _ rfl),hw.vs g.J (by simp) _ _ h2⟩,hw.hvw 0 rfl⟩,hndU,by show m.uses.length=(fs.map (·.2)).length; rw [List.length_map,hcount],⟨ho.few.1,by show (0:Nat)≤7; omega⟩⟩
         exact scActs_any (hv w) H b43 (scpM m fs []) ke hS ks m.main r.a4 r.c4 w (hv_le w) (hw.vs H (by simp)) hm.main (by omega)) ?_ ?_
     ·
      intro _ hp
      refine Ep ?_
      refine WE.front 4 rfl ?_
      refine WE.front 5 rfl ?_
      refine WE.panD en31 (closW [_,_] _ [blk b4 (.cells (unitV noUnit noUAt).toArray 42 (0,0)),blk b5 (.cells #[.int .i64 (errSs (scpM m fs []) m.main)] 31 (0,0))] rfl (fun w hw=>resolve1_pan b4 b5 (partU m r90 z.es.length (z.a,z.c)) rfl 0 (errSs (scpM m fs []) m.main) w hw)) (rs_2 rfl (rv_agg 0 rfl rfl ag42 rfl) (rv_one 1 rfl rfl rfl na31)) fun w' hw=>?_
      have hE:errU m fs=errSs (scpM m fs []) m.main:=by rw [errU,hers3,er_0]
      rw [res_err he hcount hfok (by rw [hE]; exact hp),hE]
      exact ⟨noUAt,rfl,hw.fr,noUnit_rd _⟩
     intro F156 r156 hfr156 ⟨he156,h156⟩
     refine V0 (Yf fo42_4 rfl) ?_
     refine Lst 5 (.inl rfl) rfl rfl rfl sz40 rfl rfl rfl ?_
     refine Ln (Et (Cs ?_))
     refine WC.oslN (rd:=rdXP) 3 rfl (fun _ hk=>by cases hk) XP.cells_len (fun _ _ _ _ h=>h) fun KP fKP hKP=>?_
     refine Crb 4 (.cells (unitV (unitT m fs) ⟨r90,(z.a,z.c),r156⟩).toArray 42 (0,0)) rfl (by rw [hU]; show Obj.cells _ _ _=Obj.cells (unitV _ _).toArray _ _; simp only [unitV,List.length_map]; rfl) ?_
     refine Cr ?_
     refine V0 (Yda 4 rfl rfl ag42 rfl) ?_
     refine Lst 4 (.inl rfl) rfl rfl rfl sz42 rfl rfl rfl ?_
     refine Lst 3 (.inl rfl) rfl rfl rfl sz31 rfl rfl rfl ?_
     refine Ln (Et (Crt ?_))
     refine WE.front 3 rfl ?_
     refine WE.front 4 rfl ?_
     refine WE.retD en31 (closW [_,_] _ [blk b4 (.cells (unitV (unitT m fs) ⟨r90,(z.a,z.c),r156⟩).toArray 42 (0,0)),blk b5 (.cells #[.int .i64 0] 31 (0,0))] rfl (fun w hw=>resolve1_ret b4 b5 (unitV (unitT m fs) ⟨r90,(z.a,z.c),r156⟩) rfl 0 0 w hw)) (rs_2 rfl (rv_agg 0 rfl rfl ag42 rfl) (rv_one 1 rfl rfl rfl na31)) fun w' hw=>?_
     rw [res_ok he hcount hfok (by rw [errU,hers3,er_0,he156])]
     exact ⟨⟨r90,(z.a,z.c),r156⟩,rfl,hw.fr,⟨slStr_mv h90 (nv_vs hw (by simp) hf90),by rw [hU]; exact slPt_of hKP (nv_vs hw (by simp) fKP) (nv_vs hw (by simp) hfJ2) hX2,slA_mv h156 (nv_vs hw (by simp) hfr156)⟩⟩
end Go.Proofs.YtinnlppbkhhoiaaGreatDoor
end
section
namespace Go.Proofs.YtinnlppbkhhoiaaGreatDoor
open Go.Bw
set_option linter.unusedVariables false
set_option linter.unusedSimpArgs false
structure RAt where
 ma:MAt
 fa:SP
 oa:SP
 na:SP
def rsV (m:TMod) (fs:List (List UInt8×List FItem)) (ns:List (List UInt8)) (q:RAt) (E:Int):List Value:=
 [st m.nm,.slice q.ma.a1 m.uses.length q.ma.c1,.slice q.ma.a2 m.decls.length q.ma.c2,.slice q.ma.a3 m.procs.length q.ma.c3,.slice q.ma.a4 m.main.length q.ma.c4,.slice q.fa.1 fs.length q.fa.2,.slice q.oa.1 (itemsM m).length q.oa.2,.slice q.na.1 ns.length q.na.2,.int .i64 E]
abbrev rsB (sb:Nat) (m:TMod) (fs:List (List UInt8×List FItem)) (ns:List (List UInt8)) (q:RAt) (E:Int):Asr:=blk sb (.cells (rsV m fs ns q E).toArray 91 (0,0))
structure RsIn (HS:View) (m:TMod) (fs:List (List UInt8×List FItem)) (ns:List (List UInt8)) (q:RAt):Prop where
 uses:Sl rdStr 1 HS q.ma.a1 q.ma.c1 m.uses
 faces:Sl rdFace 2 HS q.fa.1 q.fa.2 fs
 own:Sl rdItem 4 HS q.oa.1 q.oa.2 (itemsM m)
 names:Sl rdStr 1 HS q.na.1 q.na.2 ns
 len:m.uses.length=fs.length
def refFind (σ:Scp) (mod nm:List UInt8):Int×FItem×Bool:=match findT σ mod nm with | some (m,it)=>(m,it,true) | none=>(0,noItem,false)
theorem rf_some {σ:Scp} {mod nm:List UInt8} {m:Int} {it:FItem} (h:findT σ mod nm=some (m,it)):refFind σ mod nm=(m,it,true):=by rw [refFind,h]
theorem rf_none {σ:Scp} {mod nm:List UInt8} (h:findT σ mod nm=none):refFind σ mod nm=(0,noItem,false):=by rw [refFind,h]
theorem idx_some {nm:List UInt8}:∀{l:List (List UInt8)} {s i:Nat},(∀j x,j<i→l[j]? = some x→x≠nm)→l[i]? = some nm→idxOf nm l s=some (s+i)
 | [],_,_,_,h=>by simp at h
 | y::l,s,0,_,h=>by simp at h; rw [idxOf,if_pos h]; rfl
 | y::l,s,i+1,hn,h=>by
   rw [idxOf,if_neg (hn 0 y (by omega) rfl),idx_some (i:=i) (fun j x hj hx=>hn (j+1) x (by omega) (by simpa using hx)) (by simpa using h)]
   congr 1; omega
theorem idx_no {nm:List UInt8} {l:List (List UInt8)} {s:Nat} (hn:∀j x,j<l.length→l[j]? = some x→x≠nm):idxOf nm l s=none:=
 idxOf_none.2 fun hm=>by
   obtain ⟨j,hj⟩:=List.getElem?_of_mem hm
   exact hn j nm (List.getElem?_eq_some_iff.1 hj).1 hj rfl
theorem findI_hit {nm:List UInt8}:∀{l:List FItem} {i:Nat} {x:FItem},(∀j y,j<i→l[j]? = some y→y.name≠nm)→l[i]? = some x→x.name=nm→findI nm l=some x
 | [],_,_,_,h,_=>by simp at h
 | y::l,0,x,_,h,hx=>by simp at h; subst h; rw [findI,if_pos hx]
 | y::l,i+1,x,hn,h,hx=>by
   rw [findI,if_neg (hn 0 y (by omega) rfl),findI_hit (i:=i) (fun j z hj hz=>hn (j+1) z (by omega) (by simpa using hz)) (by simpa using h) hx]
theorem findI_no {nm:List UInt8} {l:List FItem} (hn:∀j y,j<l.length→l[j]? = some y→y.name≠nm):findI nm l=none:=
 findI_none.2 fun hm=>by
   obtain ⟨y,hy,e⟩:=List.mem_map.1 hm
   obtain ⟨j,hj⟩:=List.getElem?_of_mem hy
   exact hn j y (List.getElem?_eq_some_iff.1 hj).1 hj e
def noUse (mod nm:List UInt8) (us:List (List UInt8)) (fs:List (List FItem)) (k:Nat):Prop:=∀j u f,j<k→us[j]? = some u→fs[j]? = some f→u=mod→findI nm f=none
theorem findU_hit {mod nm:List UInt8}:∀{us:List (List UInt8)} {fs:List (List FItem)} {s k:Nat} {f:List FItem} {x:FItem},noUse mod nm us fs k→us[k]? = some mod→fs[k]? = some f→findI nm f=some x→findU mod nm us fs s=some (((s+k+1:Nat):Int),x)
 | [],_,_,_,_,_,_,h,_,_=>by simp at h
 | u::us,[],_,_,_,_,_,_,h,_=>by simp at h
 | u::us,g::fs,s,0,f,x,_,h1,h2,h3=>by
   simp at h1 h2; subst h1; subst h2
   rw [findU,if_pos rfl,h3]
 | u::us,g::fs,s,k+1,f,x,hn,h1,h2,h3=>by
   have ih:=findU_hit (s:=s+1) (k:=k) (fun j u' f' hj hu hf=>hn (j+1) u' f' (by omega) (by simpa using hu) (by simpa using hf)) (by simpa using h1) (by simpa using h2) h3
   rw [findU]
   rw [show s+1+k+1=s+(k+1)+1 by omega] at ih
   split
   · rename_i hu
     rw [hn 0 u g (by omega) rfl rfl hu]
     exact ih
   · exact ih
theorem findU_miss {mod nm:List UInt8}:∀{us:List (List UInt8)} {fs:List (List FItem)} {s:Nat},noUse mod nm us fs us.length→findU mod nm us fs s=none
 | [],_,_,_=>by simp [findU]
 | u::us,[],_,_=>by simp [findU]
 | u::us,g::fs,s,hn=>by
   have ih:=findU_miss (us:=us) (fs:=fs) (s:=s+1) (fun j u' f' hj hu hf=>hn (j+1) u' f' (by simp; omega) (by simpa using hu) (by simpa using hf))
   rw [findU]
   split
   · rename_i hu
     rw [hn 0 u g (by simp) rfl rfl hu]
     exact ih
   · exact ih
theorem noUse_step {mod nm:List UInt8} {us:List (List UInt8)} {fs:List (List FItem)} {k:Nat} {u:List UInt8} {f:List FItem} (h:noUse mod nm us fs k) (hu:us[k]? = some u) (hf:fs[k]? = some f) (hh:u=mod→findI nm f=none):noUse mod nm us fs (k+1):=by
 intro j u' f' hj h1 h2 h3
 rcases Nat.lt_succ_iff_lt_or_eq.1 hj with h' | rfl
 · exact h j u' f' h' h1 h2 h3
 · rw [hu] at h1; rw [hf] at h2; injection h1 with h1; injection h2 with h2; subst h1; subst h2; exact hh h3
theorem resE_some {σ:Scp} {op n:Int} {mod nm:List UInt8} {len:Nat} {m:Int} {it:FItem} (hR:within_ op 3 5=true) (hf:findT σ mod nm=some (m,it)):resE σ op n mod nm len =
     if m = -1 then ⟨16,n,0,it.pl,if op=3 then 0 else 7⟩
     else if op=3∧it.kind=1 then ⟨1,it.n,0,0,0⟩
     else if op=3∧it.kind=2 then ⟨op,n,m,it.pl,0⟩
     else if op=4∧it.kind=3 then ⟨op,it.n,m,it.pl,0⟩
     else if op=5∧it.kind=4 then ⟨op,n,m,it.pl,if it.n=(len:Int) then 0 else 8⟩
     else ⟨op,n,0,0,7⟩:=by rw [resE,if_pos hR,hf]
theorem resE_none {σ:Scp} {op n:Int} {mod nm:List UInt8} {len:Nat} (hR:within_ op 3 5=true) (hf:findT σ mod nm=none):resE σ op n mod nm len=⟨op,n,0,0,5⟩:=by rw [resE,if_pos hR,hf]
theorem resE_not {σ:Scp} {op n:Int} {mod nm:List UInt8} {len:Nat} (hR:within_ op 3 5=false):resE σ op n mod nm len=⟨op,n,0,0,0⟩:=by rw [resE,if_neg (by simp [hR])]
theorem resS_some {σ:Scp} {op:Int} {mod nm:List UInt8} {len:Nat} {m:Int} {it:FItem} (hR:within_ op 1 3=true) (hf:findT σ mod nm=some (m,it)):resS σ op mod nm len =
     if op=1∧(m = -1∨it.kind=2) then ⟨op,0,m,it.pl,0⟩
     else if m = -1 then ⟨op,0,0,0,7⟩
     else if op=2∧it.kind=3 then ⟨op,it.n,m,it.pl,0⟩
     else if op=3∧it.kind=4 then ⟨op,0,m,it.pl,if it.n=(len:Int) then 0 else 8⟩
     else ⟨op,0,0,0,7⟩:=by rw [resS,if_pos hR,hf]
theorem resS_none {σ:Scp} {op:Int} {mod nm:List UInt8} {len:Nat} (hR:within_ op 1 3=true) (hf:findT σ mod nm=none):resS σ op mod nm len=⟨op,0,0,0,5⟩:=by rw [resS,if_pos hR,hf]
theorem resS_not {σ:Scp} {op:Int} {mod nm:List UInt8} {len:Nat} (hR:within_ op 1 3=false):resS σ op mod nm len=⟨op,0,0,0,0⟩:=by rw [resS,if_neg (by simp [hR])]
theorem fo91_4:fieldOff Tryz.prog 91 4=some 8:=by kernel_rfl
theorem fo91_3:fieldOff Tryz.prog 91 3=some 7:=by kernel_rfl
theorem fo91_2:fieldOff Tryz.prog 91 2=some 6:=by kernel_rfl
theorem fo91_0:fieldOff Tryz.prog 91 0=some 0:=by kernel_rfl
theorem fo91_1:fieldOff Tryz.prog 91 1=some 5:=by kernel_rfl
theorem na38:nonAgg Tryz.prog 38=true:=by kernel_rfl
theorem rsFail_any (HS:View) (sb:Nat) (m:TMod) (fs:List (List UInt8×List FItem)) (ns:List (List UInt8)) (q:RAt) (E n:Int) (w:World) (hw:Ws w [sb] [rsB sb m fs ns q (E)] [HS] w) :
   Calls Tryz.prog 37 #[.pointer (some ⟨sb,0,none⟩),.int .i64 n] w fun e w'=>e = .returned (.tuple #[])∧Ws w [sb] [rsB sb m fs ns q (er E n)] [HS] w':=by
 refine enter Tryz.func37 rfl 13 rfl rfl ?_
 refine CWd (W':=Ws w [sb] [rsB sb m fs ns q (E)] [HS]) (fun _ e=>by subst e; exact hw) ?_
 refine Cs (Cr ?_)
 refine V0 (Ym rfl) ?_
 refine V0 (yl_nil rfl) ?_
 refine V0 (Yf fo91_4 rfl) ?_
 refine V0 (Yd 0 rfl rfl rfl na31) ?_
 refine V0 (yl_eq rfl rfl) ?_
 refine Ln (Et ?_)
 refine Cc rfl (fun hc0=>?_) (fun hc0=>?_)
 ·
  have h0:E=0:=by simpa using hc0
  refine Cr ?_
  refine V0 (Ym rfl) ?_
  refine V0 (Ym rfl) ?_
  refine V0 (yl_nil rfl) ?_
  refine V0 (Yf fo91_4 rfl) ?_
  refine Lst 0 (.inl rfl) rfl rfl rfl sz31 rfl rfl rfl ?_
  refine Ln ?_
  refine WE.end0 rfl fun w' hw=>?_
  have h:=hw.reL 0 rfl (show _=rsB sb m fs ns q (er E n) by rw [h0]; rfl)
  exact ⟨rfl,h⟩
 ·
  have h0:¬E=0:=by simpa using hc0
  refine Ck ?_
  refine WE.end0 rfl fun w' hw=>?_
  have h:=hw.reL 0 rfl (show _=rsB sb m fs ns q (er E n) by rw [er_ne h0])
  exact ⟨rfl,h⟩
theorem rsFind_any (HB HS:View) (sb:Nat) (m:TMod) (fs:List (List UInt8×List FItem)) (ns:List (List UInt8)) (q:RAt) (E:Int) (mod nm:List UInt8) (w:World) (hHB:Le HB w) (hHS:Le HS w) (hb:HB sb=some (.cells (rsV m fs ns q E).toArray 91 (0,0))) (hr:RsIn HS m fs ns q) :
   Calls Tryz.prog 78 #[.pointer (some ⟨sb,0,none⟩),st mod,st nm] w fun e w'=>e = .returned (.tuple #[.int .i64 (refFind (scpM m fs ns) mod nm).1,.agg (refFind (scpM m fs ns) mod nm).2.1.cells.toArray,.bool (refFind (scpM m fs ns) mod nm).2.2])∧Ext w w':=by
 have h1:vc HB sb 1=some (.slice q.ma.a1 m.uses.length q.ma.c1):=vc_blk hb rfl
 have h5:vc HB sb 5=some (.slice q.fa.1 fs.length q.fa.2):=vc_blk hb rfl
 have h6:vc HB sb 6=some (.slice q.oa.1 (itemsM m).length q.oa.2):=vc_blk hb rfl
 have h7:vc HB sb 7=some (.slice q.na.1 ns.length q.na.2):=vc_blk hb rfl
 have k1:=hr.uses.cap
 have k2:=hr.uses.max
 have k3:=hr.faces.cap
 have k4:=hr.faces.max
 have k5:=hr.own.cap
 have k6:=hr.own.max
 have k7:=hr.names.cap
 have k8:=hr.names.max
 have hlen:=hr.len
 refine enter Tryz.func78 rfl 125 rfl rfl ?_
 refine CWd (W':=Ws w [] [] [HB,HS]) (fun _ e=>by subst e; exact Ws.init (by simp [hHB,hHS])) ?_
 refine Cs (Cr ?_)
 refine V0 (Ya rfl) ?_
 refine WL.alloc (.inl rfl) rfl zr55 fun b7=>?_
 refine V0 (Ya rfl) ?_
 refine Ln (Et (Cs (Cs (Cr ?_))))
 refine V0 (Ym rfl) ?_
 refine V0 (yl_eqs rfl rfl) ?_
 refine Ln (Et ?_)
 refine Cc rfl (fun hc0=>?_) (fun hc0=>?_)
 ·
  obtain rfl:mod=[]:=by simpa using hc0
  refine Cs (Cs (Cr ?_))
  refine V0 (Ya rfl) ?_
  refine Ln (Et (Cb ?_))
  refine CW (ι:=Nat) (fun a=>[(9,.int .i64 (a:Int))]) [(0,_),(1,_),(2,_),(7,_)] (fun a=>a≤ns.length∧∀j y,j<a→ns[j]? = some y→y≠nm) (fun a=>ns.length-a) 0 ⟨Nat.zero_le _,fun j y hj=>absurd hj (Nat.not_lt_zero j)⟩ (sc rfl (sc rfl (sc rfl (sc rfl (sc rfl sn))))) ?_
  intro a ⟨hia,hnoa⟩
  refine Cs (Cs (Cr ?_))
  refine V0 (Ym rfl) ?_
  refine V0 (Ym rfl) ?_
  refine V0 (yl_nil rfl) ?_
  refine V0 (Yf fo91_3 rfl) ?_
  refine V0 (yl_ld 0 na22 rfl rfl (h7)) ?_
  refine V0 (Yn es22 rfl) ?_
  refine V0 (yl_lt rfl rfl) ?_
  refine Ln (Et ?_)
  refine Cc rfl (fun hc1=>?_) (fun hc1=>?_)
  ·
   have hlt:a<ns.length:=by simpa using hc1
   obtain ⟨x,hxi⟩:∃q,ns[a]? = some q:=⟨_,List.getElem?_eq_getElem hlt⟩
   obtain ⟨pbx,pox,hax,hrx⟩:=hr.names.elt a x hxi
   have hrx:RdC HS pbx (pox+a*1) (strC x):=hrx
   refine Ck (Et (Cs (Cb (Cs (Cr ?_)))))
   refine V0 (Ym rfl) ?_
   refine V0 (yl_nil rfl) ?_
   refine V0 (Yf fo91_3 rfl) ?_
   refine V0 (yl_ld 0 na22 rfl rfl (h7)) ?_
   refine V0 (Ym rfl) ?_
   refine V0 (Yo es22 rfl rfl hax (by omega)) ?_
   refine V0 (yl_ld 1 na9 rfl rfl (hrx 0 _ rfl)) ?_
   refine V0 (Ym rfl) ?_
   refine V0 (yl_eqs rfl rfl) ?_
   refine Ln (Et ?_)
   refine Cc rfl (fun hc2=>?_) (fun hc2=>?_)
   ·
    have hxe:x=nm:=by simpa using hc2
    subst hxe
    have hfd:findT (scpM m fs ns) [] x=some (-1,locItem a):=find_loc (σ:=scpM m fs ns) (by have:=idx_some (s:=0) hnoa hxi; rw [Nat.zero_add] at this; exact this)
    refine Cs (Cr ?_)
    refine V0 (Ym rfl) ?_
    refine V0 (Yb zr55 pl55 rfl rfl) ?_
    refine V0 (Ya rfl) ?_
    refine Lst 0 (.inl rfl) rfl rfl rfl sz55 rfl rfl rfl ?_
    refine V0 (Ya rfl) ?_
    refine Ln (Et (Crt (Ebr (Er (Er ?_)))))
    refine Ebr (Er (Er ?_))
    refine WE.retR (rs_3 rfl (rv_tmp rfl) (rv_agg 0 rfl rfl ag55 rfl) (rv_tmp rfl)) fun w' hw=>?_
    rw [rf_some hfd]
    exact ⟨rfl,hw.fr⟩
   ·
    have hnea:x≠nm:=by simpa using hc2
    refine Ck (Eb (Et (Cr ?_)))
    refine V0 (Ym rfl) ?_
    refine V0 (Yi rfl rfl rfl (by omega)) ?_
    refine V0 (Ya rfl) ?_
    refine Ln ?_
    exact Ea (a+1) (by omega) ⟨by omega,fun j y hj hy=>by rcases Nat.lt_succ_iff_lt_or_eq.1 hj with h | rfl; exact hnoa j y h hy; rw [hxi] at hy; injection hy with hy; subst hy; exact hnea⟩ (sc rfl (sc rfl (sc rfl (sc rfl (sc rfl sn))))) (fun _ h=>h)
  ·
   have hge:¬a<ns.length:=by simpa using hc1
   have hidx:idxOf nm ns 0=none:=idx_no fun j y hj hy=>hnoa j y (by omega) hy
   refine Ce (Ex (Ex (Ebh (Et (Cs ?_)))))
   refine Cs (Cr ?_)
   refine V0 (Ya rfl) ?_
   refine Ln (Et (Cb ?_))
   refine CW (ι:=Nat) (fun b=>[(10,.int .i64 (b:Int))]) [(0,_),(1,_),(2,_),(7,_)] (fun b=>b≤(itemsM m).length∧∀j y,j<b→(itemsM m)[j]? = some y→y.name≠nm) (fun b=>(itemsM m).length-b) 0 ⟨Nat.zero_le _,fun j y hj=>absurd hj (Nat.not_lt_zero j)⟩ (sc rfl (sc rfl (sc rfl (sc rfl (sc rfl sn))))) ?_
   intro b ⟨hib,hnob⟩
   refine Cs (Cs (Cr ?_))
   refine V0 (Ym rfl) ?_
   refine V0 (Ym rfl) ?_
   refine V0 (yl_nil rfl) ?_
   refine V0 (Yf fo91_2 rfl) ?_
   refine V0 (yl_ld 0 na28 rfl rfl (h6)) ?_
   refine V0 (Yn es28 rfl) ?_
   refine V0 (yl_lt rfl rfl) ?_
   refine Ln (Et ?_)
   refine Cc rfl (fun hc3=>?_) (fun hc3=>?_)
   ·
    have hlt:b<(itemsM m).length:=by simpa using hc3
    obtain ⟨x,hxi⟩:∃q,(itemsM m)[b]? = some q:=⟨_,List.getElem?_eq_getElem hlt⟩
    obtain ⟨pbx,pox,hax,hrx⟩:=hr.own.elt b x hxi
    have hrx:RdC HS pbx (pox+b*4) x.cells:=hrx
    refine Ck (Et (Cs (Cb (Cs (Cr ?_)))))
    refine V0 (Ym rfl) ?_
    refine V0 (yl_nil rfl) ?_
    refine V0 (Yf fo91_2 rfl) ?_
    refine V0 (yl_ld 0 na28 rfl rfl (h6)) ?_
    refine V0 (Ym rfl) ?_
    refine V0 (Yo es28 rfl rfl hax (by omega)) ?_
    refine V0 (Yf fo55_3 rfl) ?_
    refine V0 (yl_ld 1 na9 rfl rfl (hrx 3 _ rfl)) ?_
    refine V0 (Ym rfl) ?_
    refine V0 (yl_eqs rfl rfl) ?_
    refine Ln (Et ?_)
    refine Cc rfl (fun hc4=>?_) (fun hc4=>?_)
    ·
     have hxe:x.name=nm:=by simpa using hc4
     have hfd:findT (scpM m fs ns) [] nm=some (0,x):=by rw [find_own (σ:=scpM m fs ns) hidx]; show (findI nm (itemsM m)).map _=_; rw [findI_hit hnob hxi hxe]; rfl
     refine Cs ?_
     refine WC.draws1 0 [(0,true),(1,true),(2,true),(3,true),(4,true),(5,true),(6,true),(7,true),(8,false),(9,false)] mixed (by kernel_rfl) (fun _ _ _ d _ h=>by cases d<;>exact h) ?_
     refine Dq rfl (.inl rfl) rfl (fun _ h=>by have h:=Ws.out 0 h; exact h) (Ym rfl) ?_
     refine Dq rfl (.inl rfl) rfl (fun _ h=>by have h:=Ws.out 0 h; exact h) (yl_nil rfl) ?_
     refine Dq rfl (.inl rfl) rfl (fun _ h=>by have h:=Ws.out 0 h; exact h) (Yf fo91_2 rfl) ?_
     refine Dq rfl (.inl rfl) rfl (fun _ h=>by have h:=Ws.out 0 h; exact h) (yl_ld 0 na28 rfl rfl (h6)) ?_
     refine Dq rfl (.inl rfl) rfl (fun _ h=>by have h:=Ws.out 0 h; exact h) (Ym rfl) ?_
     refine Dq rfl (.inl rfl) rfl (fun _ h=>by have h:=Ws.out 0 h; exact h) (Yo es28 rfl rfl hax (by omega)) ?_
     refine Dq rfl (.inl rfl) rfl (fun _ h=>by have h:=Ws.out 0 h; exact h) (yl_lda 1 ag55 rfl rfl rfl (hrx)) ?_
     refine Dq rfl (.inl rfl) rfl (fun _ h=>by have h:=Ws.out 0 h; exact h) (Ya rfl) ?_
     refine De rfl (fun _ h=>by have h:=Ws.out 0 h; exact h) ?_
     refine Lst 0 (.inl rfl) rfl rfl rfl sz55 rfl rfl rfl ?_
     refine Ln (Ed ?_)
     refine De rfl (fun _ h=>by have h:=Ws.out 0 h; exact h) ?_
     refine V0 (Ya rfl) ?_
     refine Ln (Ed ?_)
     refine WD.nil (fun _ h=>by have h:=Ws.out 0 h; exact h) ?_
     refine Et (Crt (Ebr (Er (Er (Ebr ?_)))))
     refine Er (Er ?_)
     refine WE.retR (rs_3 rfl (rv_tmp rfl) (rv_agg 0 rfl rfl ag55 rfl) (rv_tmp rfl)) fun w' hw=>?_
     rw [rf_some hfd]
     exact ⟨rfl,hw.fr⟩
    ·
     have hneb:x.name≠nm:=by simpa using hc4
     refine Ck (Eb (Et (Cr ?_)))
     refine V0 (Ym rfl) ?_
     refine V0 (Yi rfl rfl rfl (by omega)) ?_
     refine V0 (Ya rfl) ?_
     refine Ln ?_
     exact Ea (b+1) (by omega) ⟨by omega,fun j y hj hy=>by rcases Nat.lt_succ_iff_lt_or_eq.1 hj with h | rfl; exact hnob j y h hy; rw [hxi] at hy; injection hy with hy; subst hy; exact hneb⟩ (sc rfl (sc rfl (sc rfl (sc rfl (sc rfl sn))))) (fun _ h=>h)
   ·
    have hge2:¬b<(itemsM m).length:=by simpa using hc3
    have hfd:findT (scpM m fs ns) [] nm=none:=by rw [find_own (σ:=scpM m fs ns) hidx]; show (findI nm (itemsM m)).map _=none; rw [findI_no fun j y hj hy=>hnob j y (by omega) hy]; rfl
    refine Ce (Ex (Ex (Ebh (Et (Cs ?_)))))
    refine Cr ?_
    refine V0 (Yb zr55 pl55 rfl rfl) ?_
    refine V0 (Ya rfl) ?_
    refine Lst 0 (.inl rfl) rfl rfl rfl sz55 rfl rfl rfl ?_
    refine V0 (Ya rfl) ?_
    refine Ln (Et (Crt (Er ?_)))
    refine WE.retR (rs_3 rfl (rv_tmp rfl) (rv_agg 0 rfl rfl ag55 rfl) (rv_tmp rfl)) fun w' hw=>?_
    rw [rf_none hfd]
    exact ⟨rfl,hw.fr⟩
 ·
  have hmod:¬mod=[]:=by simpa using hc0
  refine Ck (Et (Cs (Cs (Cr ?_))))
  refine V0 (Ya rfl) ?_
  refine Ln (Et (Cb ?_))
  refine CW (ι:=Nat) (fun k=>[(11,.int .i64 (k:Int))]) [(0,_),(1,_),(2,_),(7,_)] (fun k=>k≤m.uses.length∧noUse mod nm m.uses (fs.map (·.2)) k) (fun k=>m.uses.length-k) 0 ⟨Nat.zero_le _,fun j u f hj=>absurd hj (Nat.not_lt_zero j)⟩ (sc rfl (sc rfl (sc rfl (sc rfl (sc rfl sn))))) ?_
  intro k ⟨hik,hnu⟩
  refine Cs (Cs (Cr ?_))
  refine V0 (Ym rfl) ?_
  refine V0 (Ym rfl) ?_
  refine V0 (yl_nil rfl) ?_
  refine V0 (Yf fo91_0 rfl) ?_
  refine V0 (Yf fo27_1 rfl) ?_
  refine V0 (yl_ld 0 na22 rfl rfl (h1)) ?_
  refine V0 (Yn es22 rfl) ?_
  refine V0 (yl_lt rfl rfl) ?_
  refine Ln (Et ?_)
  refine Cc rfl (fun hc5=>?_) (fun hc5=>?_)
  ·
   have hlt:k<m.uses.length:=by simpa using hc5
   obtain ⟨u,hui⟩:∃q,m.uses[k]? = some q:=⟨_,List.getElem?_eq_getElem hlt⟩
   obtain ⟨pbu,pou,hau,hru⟩:=hr.uses.elt k u hui
   have hru:RdC HS pbu (pou+k*1) (strC u):=hru
   obtain ⟨f,hfi⟩:∃f,fs[k]? = some f:=⟨_,List.getElem?_eq_getElem (by omega)⟩
   obtain ⟨pbf,pof,haf,rf,hrf,hitf⟩:=hr.faces.elt k f hfi
   have c1:=hitf.cap
   have c2:=hitf.max
   have hf2:(fs.map (·.2))[k]? = some f.2:=by rw [List.getElem?_map,hfi]; rfl
   refine Ck (Et (Cs (Cb (Cs (Cr ?_)))))
   refine V0 (Ya rfl) ?_
   refine Ln (Et (Cb ?_))
   refine CW (ι:=Nat) (fun d=>[(12,.int .i64 (d:Int))]) [(0,_),(1,_),(2,_),(7,_),(11,_)] (fun d=>d≤f.2.length∧∀j y,j<d→f.2[j]? = some y→y.name≠nm) (fun d=>f.2.length-d) 0 ⟨Nat.zero_le _,fun j y hj=>absurd hj (Nat.not_lt_zero j)⟩ (sc rfl (sc rfl (sc rfl (sc rfl (sc rfl (sc rfl sn)))))) ?_
   intro d ⟨hid,hnod⟩
   refine Cs (Cs (Cr ?_))
   refine V0 (Ym rfl) ?_
   refine V0 (yl_nil rfl) ?_
   refine V0 (Yf fo91_0 rfl) ?_
   refine V0 (Yf fo27_1 rfl) ?_
   refine V0 (yl_ld 0 na22 rfl rfl (h1)) ?_
   refine V0 (Ym rfl) ?_
   refine V0 (Yo es22 rfl rfl hau (by omega)) ?_
   refine V0 (yl_ld 1 na9 rfl rfl (hru 0 _ rfl)) ?_
   refine V0 (Ym rfl) ?_
   refine V0 (yl_eqs rfl rfl) ?_
   refine V0 (Ym rfl) ?_
   apply WL.and 11 rfl rfl rfl rfl (.inl rfl) rfl rfl rfl rfl rfl
   ·
    intro hg0
    refine Lv (.g rfl rfl rfl) rfl (Ym rfl) ?_
    refine Lv (.g rfl rfl rfl) rfl (Ym rfl) ?_
    refine Lv (.g rfl rfl rfl) rfl (yl_nil rfl) ?_
    refine Lv (.g rfl rfl rfl) rfl (Yf fo91_1 rfl) ?_
    refine Lv (.g rfl rfl rfl) rfl (yl_ld 0 na38 rfl rfl (h5)) ?_
    refine Lv (.g rfl rfl rfl) rfl (Ym rfl) ?_
    refine Lv (.g rfl rfl rfl) rfl (Yo es38 rfl rfl haf (by omega)) ?_
    refine Lv (.g rfl rfl rfl) rfl (Yf fo30_1 rfl) ?_
    refine Lv (.g rfl rfl rfl) rfl (yl_ld 1 na28 rfl rfl (hrf 1 _ rfl)) ?_
    refine Lv (.g rfl rfl rfl) rfl (Yn es28 rfl) ?_
    refine Lv (.g rfl rfl rfl) rfl (yl_lt rfl rfl) ?_
    exact Gt 11 rfl rfl rfl
   refine Ln (Et ?_)
   refine Cc rfl (fun hc6=>?_) (fun hc6=>?_)
   ·
    have h6_:u=mod∧d<f.2.length:=by simp at hc6; omega
    obtain ⟨x,hxi⟩:∃x,f.2[d]? = some x:=⟨_,List.getElem?_eq_getElem h6_.2⟩
    obtain ⟨pbx,pox,hax,hrx⟩:=hitf.elt d x hxi
    have hrx:RdC HS pbx (pox+d*4) x.cells:=hrx
    have hltd:=h6_.2
    refine Ck (Et (Cs (Cb (Cs (Cr ?_)))))
    refine V0 (Ym rfl) ?_
    refine V0 (yl_nil rfl) ?_
    refine V0 (Yf fo91_1 rfl) ?_
    refine V0 (yl_ld 0 na38 rfl rfl (h5)) ?_
    refine V0 (Ym rfl) ?_
    refine V0 (Yo es38 rfl rfl haf (by omega)) ?_
    refine V0 (Yf fo30_1 rfl) ?_
    refine V0 (yl_ld 1 na28 rfl rfl (hrf 1 _ rfl)) ?_
    refine V0 (Ym rfl) ?_
    refine V0 (Yo es28 rfl rfl hax (by omega)) ?_
    refine V0 (Yf fo55_3 rfl) ?_
    refine V0 (yl_ld 1 na9 rfl rfl (hrx 3 _ rfl)) ?_
    refine V0 (Ym rfl) ?_
    refine V0 (yl_eqs rfl rfl) ?_
    refine Ln (Et ?_)
    refine Cc rfl (fun hc7=>?_) (fun hc7=>?_)
    ·
     have hxe:x.name=nm:=by simpa using hc7
     have hfd:findT (scpM m fs ns) mod nm=some (((k+1:Nat):Int),x):=by rw [findT,if_neg hmod]; have:=findU_hit (s:=0) hnu (h6_.1▸hui) hf2 (findI_hit hnod hxi hxe); rw [Nat.zero_add] at this; exact this
     refine Cs ?_
     refine WC.draws1 0 [(0,true),(1,true),(2,true),(3,true),(4,true),(5,true),(6,true),(7,true),(8,true),(9,true),(10,true),(11,true),(12,true),(13,true),(14,false),(15,false)] mixed (by kernel_rfl) (fun _ _ _ d _ h=>by cases d<;>exact h) ?_
     refine Dq rfl (.inl rfl) rfl (fun _ h=>by have h:=Ws.out 0 h; exact h) (Ym rfl) ?_
     refine Dq rfl (.inl rfl) rfl (fun _ h=>by have h:=Ws.out 0 h; exact h) (Yi rfl rfl rfl (by omega)) ?_
     refine Dq rfl (.inl rfl) rfl (fun _ h=>by have h:=Ws.out 0 h; exact h) (Ym rfl) ?_
     refine Dq rfl (.inl rfl) rfl (fun _ h=>by have h:=Ws.out 0 h; exact h) (yl_nil rfl) ?_
     refine Dq rfl (.inl rfl) rfl (fun _ h=>by have h:=Ws.out 0 h; exact h) (Yf fo91_1 rfl) ?_
     refine Dq rfl (.inl rfl) rfl (fun _ h=>by have h:=Ws.out 0 h; exact h) (yl_ld 0 na38 rfl rfl (h5)) ?_
     refine Dq rfl (.inl rfl) rfl (fun _ h=>by have h:=Ws.out 0 h; exact h) (Ym rfl) ?_
     refine Dq rfl (.inl rfl) rfl (fun _ h=>by have h:=Ws.out 0 h; exact h) (Yo es38 rfl rfl haf (by omega)) ?_
     refine Dq rfl (.inl rfl) rfl (fun _ h=>by have h:=Ws.out 0 h; exact h) (Yf fo30_1 rfl) ?_
     refine Dq rfl (.inl rfl) rfl (fun _ h=>by have h:=Ws.out 0 h; exact h) (yl_ld 1 na28 rfl rfl (hrf 1 _ rfl)) ?_
     refine Dq rfl (.inl rfl) rfl (fun _ h=>by have h:=Ws.out 0 h; exact h) (Ym rfl) ?_
     refine Dq rfl (.inl rfl) rfl (fun _ h=>by have h:=Ws.out 0 h; exact h) (Yo es28 rfl rfl hax (by omega)) ?_
     refine Dq rfl (.inl rfl) rfl (fun _ h=>by have h:=Ws.out 0 h; exact h) (yl_lda 1 ag55 rfl rfl rfl (hrx)) ?_
     refine Dq rfl (.inl rfl) rfl (fun _ h=>by have h:=Ws.out 0 h; exact h) (Ya rfl) ?_
     refine De rfl (fun _ h=>by have h:=Ws.out 0 h; exact h) ?_
     refine Lst 0 (.inl rfl) rfl rfl rfl sz55 rfl rfl rfl ?_
     refine Ln (Ed ?_)
     refine De rfl (fun _ h=>by have h:=Ws.out 0 h; exact h) ?_
     refine V0 (Ya rfl) ?_
     refine Ln (Ed ?_)
     refine WD.nil (fun _ h=>by have h:=Ws.out 0 h; exact h) ?_
     refine Et (Crt (Ebr (Er (Er (Ebr ?_)))))
     refine Ebr (Er (Er (Ebr (Er ?_))))
     refine WE.retR (rs_3 rfl (rv_tmp rfl) (rv_agg 0 rfl rfl ag55 rfl) (rv_tmp rfl)) fun w' hw=>?_
     rw [rf_some hfd]
     exact ⟨rfl,hw.fr⟩
    ·
     have hned:x.name≠nm:=by simpa using hc7
     refine Ck (Eb (Et (Cr ?_)))
     refine V0 (Ym rfl) ?_
     refine V0 (Yi rfl rfl rfl (by omega)) ?_
     refine V0 (Ya rfl) ?_
     refine Ln ?_
     exact Ea (d+1) (by omega) ⟨by omega,fun j y hj hy=>by rcases Nat.lt_succ_iff_lt_or_eq.1 hj with h | rfl; exact hnod j y h hy; rw [hxi] at hy; injection hy with hy; subst hy; exact hned⟩ (sc rfl (sc rfl (sc rfl (sc rfl (sc rfl (sc rfl sn)))))) (fun _ h=>h)
   ·
    have hstop:u=mod→findI nm f.2=none:=fun hu=>findI_no fun j y hj hy=>hnod j y (by simp [hu] at hc6; omega) hy
    refine Ce (Ex (Ex (Ebh (Eb (Et ?_)))))
    refine Cr ?_
    refine V0 (Ym rfl) ?_
    refine V0 (Yi rfl rfl rfl (by omega)) ?_
    refine V0 (Ya rfl) ?_
    refine Ln ?_
    exact Ea (k+1) (by omega) ⟨by omega,noUse_step hnu hui hf2 hstop⟩ (sc rfl (sc rfl (sc rfl (sc rfl (sc rfl sn))))) (fun _ h=>h)
  ·
   have hge:k=m.uses.length:=by simp at hc5; omega
   have hfd:findT (scpM m fs ns) mod nm=none:=by rw [findT,if_neg hmod]; exact findU_miss (hge▸hnu)
   refine Ce (Ex (Ex (Ebh (Et (Cs ?_)))))
   refine Cr ?_
   refine V0 (Yb zr55 pl55 rfl rfl) ?_
   refine V0 (Ya rfl) ?_
   refine Lst 0 (.inl rfl) rfl rfl rfl sz55 rfl rfl rfl ?_
   refine V0 (Ya rfl) ?_
   refine Ln (Et (Crt ?_))
   refine WE.retR (rs_3 rfl (rv_tmp rfl) (rv_agg 0 rfl rfl ag55 rfl) (rv_tmp rfl)) fun w' hw=>?_
   rw [rf_none hfd]
   exact ⟨rfl,hw.fr⟩
end Go.Proofs.YtinnlppbkhhoiaaGreatDoor
end
section
namespace Go.Proofs.YtinnlppbkhhoiaaGreatDoor
open Go.Bw
set_option linter.unusedVariables false
set_option linter.unusedSimpArgs false
def RsNodes (HS:View) (sb:Nat) (m:TMod) (fs:List (List UInt8×List FItem)) (ns:List (List UInt8)) (q:RAt) (k:Nat):Prop:=∀(l:List TExpr) (a:Option Addr) (c:Nat) (E:Int) (w:World),Sl (RdE k) 5 HS a c l→wEs l≤109951162777→Ws w [sb] [rsB sb m fs ns q E] [HS] w→
 Calls Tryz.prog 79 #[.pointer (some ⟨sb,0,none⟩),.slice a l.length c] w fun e w'=>∃r:SP,e = .returned (.slice r.1 (nodesT (scpM m fs ns) l).length r.2)∧Sl (RdN (k+1)) 5 (nv w w') r.1 r.2 (nodesT (scpM m fs ns) l)∧Ws w [sb] [rsB sb m fs ns q (er E (errEs (scpM m fs ns) l))] [HS] w'
def RsActs (HS:View) (sb:Nat) (m:TMod) (fs:List (List UInt8×List FItem)) (ns:List (List UInt8)) (q:RAt) (ke k:Nat):Prop:=∀(l:List TStmt) (a:Option Addr) (c:Nat) (E:Int) (w:World),Sl (RdS ke k) 6 HS a c l→wSs l≤109951162777→Ws w [sb] [rsB sb m fs ns q E] [HS] w→
 Calls Tryz.prog 38 #[.pointer (some ⟨sb,0,none⟩),.slice a l.length c] w fun e w'=>∃r:SP,e = .returned (.slice r.1 (actsT (scpM m fs ns) l).length r.2)∧Sl (RdA (ke+1) (k+1)) 7 (nv w w') r.1 r.2 (actsT (scpM m fs ns) l)∧Ws w [sb] [rsB sb m fs ns q (er E (errSs (scpM m fs ns) l))] [HS] w'
theorem en78:Enters Tryz.prog 78:=enters_of Tryz.func78 (by kernel_rfl) rfl
theorem en37:Enters Tryz.prog 37:=enters_of Tryz.func37 (by kernel_rfl) rfl
theorem en79:Enters Tryz.prog 79:=enters_of Tryz.func79 (by kernel_rfl) rfl
theorem en93:Enters Tryz.prog 93:=enters_of Tryz.func93 (by kernel_rfl) rfl
theorem en38:Enters Tryz.prog 38:=enters_of Tryz.func38 (by kernel_rfl) rfl
theorem en58:Enters Tryz.prog 58:=enters_of Tryz.func58 (by kernel_rfl) rfl
theorem rsExpr_any (HS:View) (sb:Nat) (m:TMod) (fs:List (List UInt8×List FItem)) (ns:List (List UInt8)) (q:RAt) (E:Int) (k:Nat) (x:TExpr) (a:Option Addr) (c:Nat) (w:World) (hr:RsIn HS m fs ns q) (hN:RsNodes HS sb m fs ns q k) (hm:Sl (RdE k) 5 HS a c x.args) (hwt:wE x≤109951162777) (hw:Ws w [sb] [rsB sb m fs ns q (E)] [HS] w) :
   Calls Tryz.prog 93 #[.pointer (some ⟨sb,0,none⟩),.agg (exprV x a c).toArray] w fun e w'=>∃r:SP,e = .returned (.agg (nodeV (nodeT (scpM m fs ns) x) r.1 r.2).toArray)∧SlN (k+1) (nv w w') (nodeT (scpM m fs ns) x,r)∧Ws w [sb] [rsB sb m fs ns q (er E (errE (scpM m fs ns) x))] [HS] w':=by
 have hwe:=wE_eq x
 have hcap:=hm.cap
 have hmax:=hm.max
 refine enter Tryz.func93 rfl 118 rfl rfl ?_
 refine CWd (W':=Ws w [sb] [rsB sb m fs ns q (E)] [HS]) (fun _ e=>by subst e; exact hw) ?_
 refine Cs (Cr ?_)
 refine WL.box (.inl rfl) rfl rfl fun b3=>?_
 refine WL.alloc (.inl rfl) rfl zr158 fun b4=>?_
 refine Ln (Et (Cs (Cr ?_)))
 refine V0 (Yf fo116_0 rfl) ?_
 refine V0 (Yd 1 rfl rfl rfl na3) ?_
 refine V0 (Yf fo116_1 rfl) ?_
 refine V0 (Yd 1 rfl rfl rfl na3) ?_
 refine V0 (Yb zr158 pl158 rfl rfl) ?_
 refine WL.alloc (.inl rfl) rfl zr158 fun b5=>?_
 refine Lst 0 (.inl rfl) rfl rfl rfl sz158 rfl rfl rfl ?_
 refine Ln (Et ?_)
 refine WC.cutE (ι:=Unit) (fun _u=>[(0,.pointer (some ⟨sb,0,none⟩)),(3,.pointer (some ⟨b3,0,none⟩)),(4,.pointer (some ⟨b4,0,none⟩)),(5,.pointer (some ⟨b5,0,none⟩))]) (fun _u=>Ws w [sb] [blk b5 (.cells #[.int .i64 (resE (scpM m fs ns) x.op x.n x.mod x.nm x.args.length).op,.int .i64 (resE (scpM m fs ns) x.op x.n x.mod x.nm x.args.length).n,.int .i64 (resE (scpM m fs ns) x.op x.n x.mod x.nm x.args.length).m,.int .i64 (resE (scpM m fs ns) x.op x.n x.mod x.nm x.args.length).pl,.slice none 0 0] 158 (0,0)),blk b4 (.cells #[.int .i64 0,.int .i64 0,.int .i64 0,.int .i64 0,.slice none 0 0] 158 (0,0)),blk b3 (.cells (exprV x a c).toArray 116 (0,0)),rsB sb m fs ns q (er E (resE (scpM m fs ns) x.op x.n x.mod x.nm x.args.length).e)] [HS]) (fun _u=>True) ?_ ?_
 ·
  refine Cs (Cr ?_)
  refine V0 (Yf fo116_0 rfl) ?_
  refine V0 (Yd 2 rfl rfl rfl na3) ?_
  refine Lp (.inl rfl) rfl en110 rfl (fun w hw=>exprRef_any _ w) ?_
  refine Ln (Et ?_)
  refine Cc rfl (fun hc0=>?_) (fun hc0=>?_)
  ·
   have hR:within_ x.op 3 5=true:=hc0
   refine Cs (Cr ?_)
   refine V0 (Ym rfl) ?_
   refine V0 (Yf fo116_2 rfl) ?_
   refine V0 (Yd 2 rfl rfl rfl na9) ?_
   refine V0 (Yf fo116_3 rfl) ?_
   refine V0 (Yd 2 rfl rfl rfl na9) ?_
   refine Lp (.inl rfl) rfl en78 rfl (fun w hw=>rsFind_any (hv w) HS sb m fs ns q E x.mod x.nm w (hv_le w) (hw.vs _ (by simp)) (hw.hvw 3 rfl) hr) ?_
   refine V0 (Ym rfl) ?_
   refine V0 (Yx rfl rfl) ?_
   refine V0 (Yx rfl rfl) ?_
   refine V0 (Yx rfl rfl) ?_
   refine WL.alloc (.inl rfl) rfl zr55 fun b7=>?_
   refine V0 (Ya rfl) ?_
   refine Lst 0 (.inl rfl) rfl rfl rfl sz55 rfl rfl rfl ?_
   refine V0 (Ya rfl) ?_
   refine Ln (Et (Cb (Cs (Cr ?_))))
   refine V0 (Ym rfl) ?_
   refine V0 (yl_not rfl) ?_
   refine V0 (Ya rfl) ?_
   refine Ln (Et ?_)
   refine Cc rfl (fun hc1=>?_) (fun hc1=>?_)
   ·
    have hfd:findT (scpM m fs ns) x.mod x.nm=none:=by
      cases hfd:findT (scpM m fs ns) x.mod x.nm with
      | none=>rfl
      | some i=>rw [rf_some hfd] at hc1; cases hc1
    have hres:(resE (scpM m fs ns) x.op x.n x.mod x.nm x.args.length)=⟨x.op,x.n,0,0,5⟩:=resE_none hR hfd
    refine Cr ?_
    refine V0 (Ym rfl) ?_
    refine Lf 4 rfl ?_
    refine WL.callw0 [_] _ [rsB sb m fs ns q (er (E) 5)] (.inl rfl) rfl en37 rfl rfl [HS] (by simp) (fun w hw=>rsFail_any HS sb m fs ns q (E) 5 w hw) ?_
    refine Ln (Eb ?_)
    refine WE.reblk 2 (.cells #[.int .i64 (resE (scpM m fs ns) x.op x.n x.mod x.nm x.args.length).op,.int .i64 (resE (scpM m fs ns) x.op x.n x.mod x.nm x.args.length).n,.int .i64 (resE (scpM m fs ns) x.op x.n x.mod x.nm x.args.length).m,.int .i64 (resE (scpM m fs ns) x.op x.n x.mod x.nm x.args.length).pl,.slice none 0 0] 158 (0,0)) rfl (by rw [hres]; rfl) ?_
    refine WE.reblk 0 (.cells (rsV m fs ns q (er E (resE (scpM m fs ns) x.op x.n x.mod x.nm x.args.length).e)).toArray 91 (0,0)) rfl (by rw [hres]<;>first | rfl | rw [er_r]) ?_
    exact WE.meetE () trivial (sc rfl (sc rfl (sc rfl (sc rfl sn)))) (fun _ h=>by
      have h:=h.fronti 0 rfl
      have h:=h.fronti 4 rfl
      have h:=h.fronti 4 rfl
      have h:=h.fronti 4 rfl
      have h:=Ws.keep (L:=[_,_,_,_]) h
      exact h)
   ·
    obtain ⟨m1,it,hfd⟩:∃m1 it,findT (scpM m fs ns) x.mod x.nm=some (m1,it):=by
      cases hfd:findT (scpM m fs ns) x.mod x.nm with
      | none=>rw [rf_none hfd] at hc1; cases hc1
      | some i=>exact ⟨i.1,i.2,rfl⟩
    have hr1:=resE_some (n:=x.n) (len:=x.args.length) hR hfd
    rw [rf_some hfd]
    refine Cs (Cr ?_)
    refine V0 (Ym rfl) ?_
    refine V0 (yl_eq rfl rfl) ?_
    refine V0 (Ya rfl) ?_
    refine Ln (Et ?_)
    refine Cc rfl (fun hc2=>?_) (fun hc2=>?_)
    ·
     have hneg:m1 = -1:=by simpa using hc2
     rw [if_pos hneg] at hr1
     refine Cs ?_
     refine WC.draws1 1 [(0,true),(1,true),(2,true),(3,false),(4,false),(5,false)] mixed (by kernel_rfl) (fun _ _ _ d _ h=>by cases d<;>exact h) ?_
     refine Dq rfl (.inl rfl) rfl (fun _ h=>by have h:=Ws.out 1 h; exact h) (Yf fo55_2 rfl) ?_
     refine Dq rfl (.inl rfl) rfl (fun _ h=>by have h:=Ws.out 1 h; exact h) (Yd 0 rfl rfl rfl na3) ?_
     refine Dq rfl (.inl rfl) rfl (fun _ h=>by have h:=Ws.out 1 h; exact h) (Yf fo158_0 rfl) ?_
     refine De rfl (fun _ h=>by have h:=Ws.out 1 h; exact h) ?_
     refine Lst 1 (.inl rfl) rfl rfl rfl sz3 rfl rfl rfl ?_
     refine Ln (Ed ?_)
     refine De rfl (fun _ h=>by have h:=Ws.out 1 h; exact h) ?_
     refine V0 (Yf fo158_3 rfl) ?_
     refine Ln (Ed ?_)
     refine De rfl (fun _ h=>by have h:=Ws.out 1 h; exact h) ?_
     refine Lst 1 (.inl rfl) rfl rfl rfl sz3 rfl rfl rfl ?_
     refine Ln (Ed ?_)
     refine WD.nil (fun _ h=>by have h:=Ws.out 1 h; exact h) ?_
     refine Et (Cs (Cr ?_))
     refine V0 (Yf fo116_0 rfl) ?_
     refine V0 (Yd 3 rfl rfl rfl na3) ?_
     refine V0 (yl_ne rfl rfl) ?_
     refine Ln (Et ?_)
     refine Cc rfl (fun hc3=>?_) (fun hc3=>?_)
     ·
      have ho3:¬x.op=3:=by simpa using hc3
      have hres:(resE (scpM m fs ns) x.op x.n x.mod x.nm x.args.length)=⟨16,x.n,0,it.pl,7⟩:=by rw [hr1,if_neg ho3]
      refine Cr ?_
      refine V0 (Ym rfl) ?_
      refine Lf 4 rfl ?_
      refine WL.callw0 [_] _ [rsB sb m fs ns q (er (E) 7)] (.inl rfl) rfl en37 rfl rfl [HS] (by simp) (fun w hw=>rsFail_any HS sb m fs ns q (E) 7 w hw) ?_
      refine Ln (Eb ?_)
      refine WE.reblk 2 (.cells #[.int .i64 (resE (scpM m fs ns) x.op x.n x.mod x.nm x.args.length).op,.int .i64 (resE (scpM m fs ns) x.op x.n x.mod x.nm x.args.length).n,.int .i64 (resE (scpM m fs ns) x.op x.n x.mod x.nm x.args.length).m,.int .i64 (resE (scpM m fs ns) x.op x.n x.mod x.nm x.args.length).pl,.slice none 0 0] 158 (0,0)) rfl (by rw [hres]; rfl) ?_
      refine WE.reblk 0 (.cells (rsV m fs ns q (er E (resE (scpM m fs ns) x.op x.n x.mod x.nm x.args.length).e)).toArray 91 (0,0)) rfl (by rw [hres]<;>first | rfl | rw [er_r]) ?_
      exact WE.meetE () trivial (sc rfl (sc rfl (sc rfl (sc rfl sn)))) (fun _ h=>by
        have h:=h.fronti 0 rfl
        have h:=h.fronti 4 rfl
        have h:=h.fronti 4 rfl
        have h:=h.fronti 4 rfl
        have h:=Ws.keep (L:=[_,_,_,_]) h
        exact h)
     ·
      have ho3:x.op=3:=by simpa using hc3
      have hres:(resE (scpM m fs ns) x.op x.n x.mod x.nm x.args.length)=⟨16,x.n,0,it.pl,0⟩:=by rw [hr1,if_pos ho3]
      refine Ck (Eb ?_)
      refine WE.reblk 1 (.cells #[.int .i64 (resE (scpM m fs ns) x.op x.n x.mod x.nm x.args.length).op,.int .i64 (resE (scpM m fs ns) x.op x.n x.mod x.nm x.args.length).n,.int .i64 (resE (scpM m fs ns) x.op x.n x.mod x.nm x.args.length).m,.int .i64 (resE (scpM m fs ns) x.op x.n x.mod x.nm x.args.length).pl,.slice none 0 0] 158 (0,0)) rfl (by rw [hres]; rfl) ?_
      refine WE.reblk 4 (.cells (rsV m fs ns q (er E (resE (scpM m fs ns) x.op x.n x.mod x.nm x.args.length).e)).toArray 91 (0,0)) rfl (by rw [hres]<;>first | rfl | rw [er_r]) ?_
      exact WE.meetE () trivial (sc rfl (sc rfl (sc rfl (sc rfl sn)))) (fun _ h=>by
        have h:=h.fronti 4 rfl
        have h:=h.fronti 4 rfl
        have h:=h.fronti 4 rfl
        have h:=h.fronti 4 rfl
        have h:=Ws.keep (L:=[_,_,_,_]) h
        exact h)
    ·
     have hneg:¬m1 = -1:=by simpa using hc2
     rw [if_neg hneg] at hr1
     refine Cs (Cr ?_)
     refine V0 (Yf fo116_0 rfl) ?_
     refine V0 (Yd 3 rfl rfl rfl na3) ?_
     refine V0 (yl_eq rfl rfl) ?_
     refine V0 (Ym rfl) ?_
     apply WL.and 3 rfl rfl rfl rfl (.inl rfl) rfl rfl rfl rfl rfl
     ·
      intro hg0
      refine Lv (.g rfl rfl rfl) rfl (Yf fo55_0 rfl) ?_
      refine Lv (.g rfl rfl rfl) rfl (Yd 0 rfl rfl rfl na3) ?_
      refine Lv (.g rfl rfl rfl) rfl (yl_eq rfl rfl) ?_
      exact Gt 3 rfl rfl rfl
     refine V0 (Ya rfl) ?_
     refine Ln (Et ?_)
     refine Cc rfl (fun hc4=>?_) (fun hc4=>?_)
     ·
      have hk:x.op=3∧it.kind=1:=by simpa using hc4
      rw [if_pos hk] at hr1
      have hres:=hr1
      refine WC.draws1 1 [(0,true),(1,true),(2,true),(3,false),(4,false),(5,false)] mixed (by kernel_rfl) (fun _ _ _ d _ h=>by cases d<;>exact h) ?_
      refine Dq rfl (.inl rfl) rfl (fun _ h=>by have h:=Ws.out 1 h; exact h) (Yf fo55_1 rfl) ?_
      refine Dq rfl (.inl rfl) rfl (fun _ h=>by have h:=Ws.out 1 h; exact h) (Yd 0 rfl rfl rfl na3) ?_
      refine Dq rfl (.inl rfl) rfl (fun _ h=>by have h:=Ws.out 1 h; exact h) (Yf fo158_0 rfl) ?_
      refine De rfl (fun _ h=>by have h:=Ws.out 1 h; exact h) ?_
      refine Lst 1 (.inl rfl) rfl rfl rfl sz3 rfl rfl rfl ?_
      refine Ln (Ed ?_)
      refine De rfl (fun _ h=>by have h:=Ws.out 1 h; exact h) ?_
      refine V0 (Yf fo158_1 rfl) ?_
      refine Ln (Ed ?_)
      refine De rfl (fun _ h=>by have h:=Ws.out 1 h; exact h) ?_
      refine Lst 1 (.inl rfl) rfl rfl rfl sz3 rfl rfl rfl ?_
      refine Ln (Ed ?_)
      refine WD.nil (fun _ h=>by have h:=Ws.out 1 h; exact h) ?_
      refine Eb ?_
      refine WE.reblk 1 (.cells #[.int .i64 (resE (scpM m fs ns) x.op x.n x.mod x.nm x.args.length).op,.int .i64 (resE (scpM m fs ns) x.op x.n x.mod x.nm x.args.length).n,.int .i64 (resE (scpM m fs ns) x.op x.n x.mod x.nm x.args.length).m,.int .i64 (resE (scpM m fs ns) x.op x.n x.mod x.nm x.args.length).pl,.slice none 0 0] 158 (0,0)) rfl (by rw [hres]; rfl) ?_
      refine WE.reblk 4 (.cells (rsV m fs ns q (er E (resE (scpM m fs ns) x.op x.n x.mod x.nm x.args.length).e)).toArray 91 (0,0)) rfl (by rw [hres]<;>first | rfl | rw [er_r]) ?_
      exact WE.meetE () trivial (sc rfl (sc rfl (sc rfl (sc rfl sn)))) (fun _ h=>by
        have h:=h.fronti 4 rfl
        have h:=h.fronti 4 rfl
        have h:=h.fronti 4 rfl
        have h:=h.fronti 4 rfl
        have h:=Ws.keep (L:=[_,_,_,_]) h
        exact h)
     ·
      have hk:¬(x.op=3∧it.kind=1):=by simpa using hc4
      rw [if_neg hk] at hr1
      refine Cs (Cr ?_)
      refine V0 (Yf fo116_0 rfl) ?_
      refine V0 (Yd 3 rfl rfl rfl na3) ?_
      refine V0 (yl_eq rfl rfl) ?_
      refine V0 (Ym rfl) ?_
      apply WL.and 3 rfl rfl rfl rfl (.inl rfl) rfl rfl rfl rfl rfl
      ·
       intro hg1
       refine Lv (.g rfl rfl rfl) rfl (Yf fo55_0 rfl) ?_
       refine Lv (.g rfl rfl rfl) rfl (Yd 0 rfl rfl rfl na3) ?_
       refine Lv (.g rfl rfl rfl) rfl (yl_eq rfl rfl) ?_
       exact Gt 3 rfl rfl rfl
      refine V0 (Ya rfl) ?_
      refine Ln (Et ?_)
      refine Cc rfl (fun hc5=>?_) (fun hc5=>?_)
      ·
       have hk2:x.op=3∧it.kind=2:=by simpa using hc5
       rw [if_pos hk2] at hr1
       have hres:=hr1
       refine WC.draws1 1 [(0,true),(1,true),(2,true),(3,true),(4,false),(5,false),(6,false)] mixed (by kernel_rfl) (fun _ _ _ d _ h=>by cases d<;>exact h) ?_
       refine Dq rfl (.inl rfl) rfl (fun _ h=>by have h:=Ws.out 1 h; exact h) (Ym rfl) ?_
       refine Dq rfl (.inl rfl) rfl (fun _ h=>by have h:=Ws.out 1 h; exact h) (Yf fo55_2 rfl) ?_
       refine Dq rfl (.inl rfl) rfl (fun _ h=>by have h:=Ws.out 1 h; exact h) (Yd 0 rfl rfl rfl na3) ?_
       refine Dq rfl (.inl rfl) rfl (fun _ h=>by have h:=Ws.out 1 h; exact h) (Yf fo158_2 rfl) ?_
       refine De rfl (fun _ h=>by have h:=Ws.out 1 h; exact h) ?_
       refine Lst 1 (.inl rfl) rfl rfl rfl sz3 rfl rfl rfl ?_
       refine Ln (Ed ?_)
       refine De rfl (fun _ h=>by have h:=Ws.out 1 h; exact h) ?_
       refine V0 (Yf fo158_3 rfl) ?_
       refine Ln (Ed ?_)
       refine De rfl (fun _ h=>by have h:=Ws.out 1 h; exact h) ?_
       refine Lst 1 (.inl rfl) rfl rfl rfl sz3 rfl rfl rfl ?_
       refine Ln (Ed ?_)
       refine WD.nil (fun _ h=>by have h:=Ws.out 1 h; exact h) ?_
       refine Eb ?_
       refine WE.reblk 1 (.cells #[.int .i64 (resE (scpM m fs ns) x.op x.n x.mod x.nm x.args.length).op,.int .i64 (resE (scpM m fs ns) x.op x.n x.mod x.nm x.args.length).n,.int .i64 (resE (scpM m fs ns) x.op x.n x.mod x.nm x.args.length).m,.int .i64 (resE (scpM m fs ns) x.op x.n x.mod x.nm x.args.length).pl,.slice none 0 0] 158 (0,0)) rfl (by rw [hres]; rfl) ?_
       refine WE.reblk 4 (.cells (rsV m fs ns q (er E (resE (scpM m fs ns) x.op x.n x.mod x.nm x.args.length).e)).toArray 91 (0,0)) rfl (by rw [hres]<;>first | rfl | rw [er_r]) ?_
       exact WE.meetE () trivial (sc rfl (sc rfl (sc rfl (sc rfl sn)))) (fun _ h=>by
         have h:=h.fronti 4 rfl
         have h:=h.fronti 4 rfl
         have h:=h.fronti 4 rfl
         have h:=h.fronti 4 rfl
         have h:=Ws.keep (L:=[_,_,_,_]) h
         exact h)
      ·
       have hk2:¬(x.op=3∧it.kind=2):=by simpa using hc5
       rw [if_neg hk2] at hr1
       refine Cs (Cr ?_)
       refine V0 (Yf fo116_0 rfl) ?_
       refine V0 (Yd 3 rfl rfl rfl na3) ?_
       refine V0 (yl_eq rfl rfl) ?_
       refine V0 (Ym rfl) ?_
       apply WL.and 3 rfl rfl rfl rfl (.inl rfl) rfl rfl rfl rfl rfl
       ·
        intro hg2
        refine Lv (.g rfl rfl rfl) rfl (Yf fo55_0 rfl) ?_
        refine Lv (.g rfl rfl rfl) rfl (Yd 0 rfl rfl rfl na3) ?_
        refine Lv (.g rfl rfl rfl) rfl (yl_eq rfl rfl) ?_
        exact Gt 3 rfl rfl rfl
       refine V0 (Ya rfl) ?_
       refine Ln (Et ?_)
       refine Cc rfl (fun hc6=>?_) (fun hc6=>?_)
       ·
        have hk3:x.op=4∧it.kind=3:=by simpa using hc6
        rw [if_pos hk3] at hr1
        have hres:=hr1
        refine WC.draws1 1 [(0,true),(1,true),(2,true),(3,true),(4,true),(5,true),(6,false),(7,false),(8,false),(9,false),(10,false)] mixed (by kernel_rfl) (fun _ _ _ d _ h=>by cases d<;>exact h) ?_
        refine Dq rfl (.inl rfl) rfl (fun _ h=>by have h:=Ws.out 1 h; exact h) (Ym rfl) ?_
        refine Dq rfl (.inl rfl) rfl (fun _ h=>by have h:=Ws.out 1 h; exact h) (Yf fo55_2 rfl) ?_
        refine Dq rfl (.inl rfl) rfl (fun _ h=>by have h:=Ws.out 1 h; exact h) (Yd 0 rfl rfl rfl na3) ?_
        refine Dq rfl (.inl rfl) rfl (fun _ h=>by have h:=Ws.out 1 h; exact h) (Yf fo55_1 rfl) ?_
        refine Dq rfl (.inl rfl) rfl (fun _ h=>by have h:=Ws.out 1 h; exact h) (Yd 0 rfl rfl rfl na3) ?_
        refine Dq rfl (.inl rfl) rfl (fun _ h=>by have h:=Ws.out 1 h; exact h) (Yf fo158_2 rfl) ?_
        refine De rfl (fun _ h=>by have h:=Ws.out 1 h; exact h) ?_
        refine Lst 1 (.inl rfl) rfl rfl rfl sz3 rfl rfl rfl ?_
        refine Ln (Ed ?_)
        refine De rfl (fun _ h=>by have h:=Ws.out 1 h; exact h) ?_
        refine V0 (Yf fo158_3 rfl) ?_
        refine Ln (Ed ?_)
        refine De rfl (fun _ h=>by have h:=Ws.out 1 h; exact h) ?_
        refine Lst 1 (.inl rfl) rfl rfl rfl sz3 rfl rfl rfl ?_
        refine Ln (Ed ?_)
        refine De rfl (fun _ h=>by have h:=Ws.out 1 h; exact h) ?_
        refine V0 (Yf fo158_1 rfl) ?_
        refine Ln (Ed ?_)
        refine De rfl (fun _ h=>by have h:=Ws.out 1 h; exact h) ?_
        refine Lst 1 (.inl rfl) rfl rfl rfl sz3 rfl rfl rfl ?_
        refine Ln (Ed ?_)
        refine WD.nil (fun _ h=>by have h:=Ws.out 1 h; exact h) ?_
        refine Eb ?_
        refine WE.reblk 1 (.cells #[.int .i64 (resE (scpM m fs ns) x.op x.n x.mod x.nm x.args.length).op,.int .i64 (resE (scpM m fs ns) x.op x.n x.mod x.nm x.args.length).n,.int .i64 (resE (scpM m fs ns) x.op x.n x.mod x.nm x.args.length).m,.int .i64 (resE (scpM m fs ns) x.op x.n x.mod x.nm x.args.length).pl,.slice none 0 0] 158 (0,0)) rfl (by rw [hres]; rfl) ?_
        refine WE.reblk 4 (.cells (rsV m fs ns q (er E (resE (scpM m fs ns) x.op x.n x.mod x.nm x.args.length).e)).toArray 91 (0,0)) rfl (by rw [hres]<;>first | rfl | rw [er_r]) ?_
        exact WE.meetE () trivial (sc rfl (sc rfl (sc rfl (sc rfl sn)))) (fun _ h=>by
          have h:=h.fronti 4 rfl
          have h:=h.fronti 4 rfl
          have h:=h.fronti 4 rfl
          have h:=h.fronti 4 rfl
          have h:=Ws.keep (L:=[_,_,_,_]) h
          exact h)
       ·
        have hk3:¬(x.op=4∧it.kind=3):=by simpa using hc6
        rw [if_neg hk3] at hr1
        refine Cs (Cr ?_)
        refine V0 (Yf fo116_0 rfl) ?_
        refine V0 (Yd 3 rfl rfl rfl na3) ?_
        refine V0 (yl_eq rfl rfl) ?_
        refine V0 (Ym rfl) ?_
        apply WL.and 3 rfl rfl rfl rfl (.inl rfl) rfl rfl rfl rfl rfl
        ·
         intro hg3
         refine Lv (.g rfl rfl rfl) rfl (Yf fo55_0 rfl) ?_
         refine Lv (.g rfl rfl rfl) rfl (Yd 0 rfl rfl rfl na3) ?_
         refine Lv (.g rfl rfl rfl) rfl (yl_eq rfl rfl) ?_
         exact Gt 3 rfl rfl rfl
        refine V0 (Ya rfl) ?_
        refine Ln (Et ?_)
        refine Cc rfl (fun hc7=>?_) (fun hc7=>?_)
        ·
         have hk4:x.op=5∧it.kind=4:=by simpa using hc7
         rw [if_pos hk4] at hr1
         refine Cs ?_
         refine WC.draws1 1 [(0,true),(1,true),(2,true),(3,true),(4,false),(5,false),(6,false)] mixed (by kernel_rfl) (fun _ _ _ d _ h=>by cases d<;>exact h) ?_
         refine Dq rfl (.inl rfl) rfl (fun _ h=>by have h:=Ws.out 1 h; exact h) (Ym rfl) ?_
         refine Dq rfl (.inl rfl) rfl (fun _ h=>by have h:=Ws.out 1 h; exact h) (Yf fo55_2 rfl) ?_
         refine Dq rfl (.inl rfl) rfl (fun _ h=>by have h:=Ws.out 1 h; exact h) (Yd 0 rfl rfl rfl na3) ?_
         refine Dq rfl (.inl rfl) rfl (fun _ h=>by have h:=Ws.out 1 h; exact h) (Yf fo158_2 rfl) ?_
         refine De rfl (fun _ h=>by have h:=Ws.out 1 h; exact h) ?_
         refine Lst 1 (.inl rfl) rfl rfl rfl sz3 rfl rfl rfl ?_
         refine Ln (Ed ?_)
         refine De rfl (fun _ h=>by have h:=Ws.out 1 h; exact h) ?_
         refine V0 (Yf fo158_3 rfl) ?_
         refine Ln (Ed ?_)
         refine De rfl (fun _ h=>by have h:=Ws.out 1 h; exact h) ?_
         refine Lst 1 (.inl rfl) rfl rfl rfl sz3 rfl rfl rfl ?_
         refine Ln (Ed ?_)
         refine WD.nil (fun _ h=>by have h:=Ws.out 1 h; exact h) ?_
         refine Et (Cs (Cr ?_))
         refine V0 (Yf fo55_1 rfl) ?_
         refine V0 (Yd 0 rfl rfl rfl na3) ?_
         refine V0 (Yf fo116_4 rfl) ?_
         refine V0 (Yd 3 rfl rfl rfl na114) ?_
         refine V0 (Yn es114 rfl) ?_
         refine V0 (yl_ne rfl rfl) ?_
         refine Ln (Et ?_)
         refine Cc rfl (fun hc8=>?_) (fun hc8=>?_)
         ·
          have hn8:¬it.n=(x.args.length:Int):=by simpa using hc8
          rw [if_neg hn8] at hr1
          have hres:=hr1
          refine Cr ?_
          refine V0 (Ym rfl) ?_
          refine Lf 4 rfl ?_
          refine WL.callw0 [_] _ [rsB sb m fs ns q (er (E) 8)] (.inl rfl) rfl en37 rfl rfl [HS] (by simp) (fun w hw=>rsFail_any HS sb m fs ns q (E) 8 w hw) ?_
          refine Ln (Eb ?_)
          refine WE.reblk 2 (.cells #[.int .i64 (resE (scpM m fs ns) x.op x.n x.mod x.nm x.args.length).op,.int .i64 (resE (scpM m fs ns) x.op x.n x.mod x.nm x.args.length).n,.int .i64 (resE (scpM m fs ns) x.op x.n x.mod x.nm x.args.length).m,.int .i64 (resE (scpM m fs ns) x.op x.n x.mod x.nm x.args.length).pl,.slice none 0 0] 158 (0,0)) rfl (by rw [hres]; rfl) ?_
          refine WE.reblk 0 (.cells (rsV m fs ns q (er E (resE (scpM m fs ns) x.op x.n x.mod x.nm x.args.length).e)).toArray 91 (0,0)) rfl (by rw [hres]<;>first | rfl | rw [er_r]) ?_
          exact WE.meetE () trivial (sc rfl (sc rfl (sc rfl (sc rfl sn)))) (fun _ h=>by
            have h:=h.fronti 0 rfl
            have h:=h.fronti 4 rfl
            have h:=h.fronti 4 rfl
            have h:=h.fronti 4 rfl
            have h:=Ws.keep (L:=[_,_,_,_]) h
            exact h)
         ·
          have hn8:it.n=(x.args.length:Int):=by simpa using hc8
          rw [if_pos hn8] at hr1
          have hres:=hr1
          refine Ck (Eb ?_)
          refine WE.reblk 1 (.cells #[.int .i64 (resE (scpM m fs ns) x.op x.n x.mod x.nm x.args.length).op,.int .i64 (resE (scpM m fs ns) x.op x.n x.mod x.nm x.args.length).n,.int .i64 (resE (scpM m fs ns) x.op x.n x.mod x.nm x.args.length).m,.int .i64 (resE (scpM m fs ns) x.op x.n x.mod x.nm x.args.length).pl,.slice none 0 0] 158 (0,0)) rfl (by rw [hres]; rfl) ?_
          refine WE.reblk 4 (.cells (rsV m fs ns q (er E (resE (scpM m fs ns) x.op x.n x.mod x.nm x.args.length).e)).toArray 91 (0,0)) rfl (by rw [hres]<;>first | rfl | rw [er_r]) ?_
          exact WE.meetE () trivial (sc rfl (sc rfl (sc rfl (sc rfl sn)))) (fun _ h=>by
            have h:=h.fronti 4 rfl
            have h:=h.fronti 4 rfl
            have h:=h.fronti 4 rfl
            have h:=h.fronti 4 rfl
            have h:=Ws.keep (L:=[_,_,_,_]) h
            exact h)
        ·
         have hk4:¬(x.op=5∧it.kind=4):=by simpa using hc7
         rw [if_neg hk4] at hr1
         have hres:=hr1
         refine Cr ?_
         refine V0 (Ym rfl) ?_
         refine Lf 4 rfl ?_
         refine WL.callw0 [_] _ [rsB sb m fs ns q (er (E) 7)] (.inl rfl) rfl en37 rfl rfl [HS] (by simp) (fun w hw=>rsFail_any HS sb m fs ns q (E) 7 w hw) ?_
         refine Ln (Eb ?_)
         refine WE.reblk 2 (.cells #[.int .i64 (resE (scpM m fs ns) x.op x.n x.mod x.nm x.args.length).op,.int .i64 (resE (scpM m fs ns) x.op x.n x.mod x.nm x.args.length).n,.int .i64 (resE (scpM m fs ns) x.op x.n x.mod x.nm x.args.length).m,.int .i64 (resE (scpM m fs ns) x.op x.n x.mod x.nm x.args.length).pl,.slice none 0 0] 158 (0,0)) rfl (by rw [hres]; rfl) ?_
         refine WE.reblk 0 (.cells (rsV m fs ns q (er E (resE (scpM m fs ns) x.op x.n x.mod x.nm x.args.length).e)).toArray 91 (0,0)) rfl (by rw [hres]<;>first | rfl | rw [er_r]) ?_
         exact WE.meetE () trivial (sc rfl (sc rfl (sc rfl (sc rfl sn)))) (fun _ h=>by
           have h:=h.fronti 0 rfl
           have h:=h.fronti 4 rfl
           have h:=h.fronti 4 rfl
           have h:=h.fronti 4 rfl
           have h:=Ws.keep (L:=[_,_,_,_]) h
           exact h)
  ·
   have hR:within_ x.op 3 5=false:=hc0
   have hres:(resE (scpM m fs ns) x.op x.n x.mod x.nm x.args.length)=⟨x.op,x.n,0,0,0⟩:=resE_not hR
   refine Ck ?_
   refine WE.reblk 0 (.cells #[.int .i64 (resE (scpM m fs ns) x.op x.n x.mod x.nm x.args.length).op,.int .i64 (resE (scpM m fs ns) x.op x.n x.mod x.nm x.args.length).n,.int .i64 (resE (scpM m fs ns) x.op x.n x.mod x.nm x.args.length).m,.int .i64 (resE (scpM m fs ns) x.op x.n x.mod x.nm x.args.length).pl,.slice none 0 0] 158 (0,0)) rfl (by rw [hres]; rfl) ?_
   refine WE.reblk 3 (.cells (rsV m fs ns q (er E (resE (scpM m fs ns) x.op x.n x.mod x.nm x.args.length).e)).toArray 91 (0,0)) rfl (by rw [hres]<;>first | rfl | rw [er_r]) ?_
   exact WE.meetE () trivial (sc rfl (sc rfl (sc rfl (sc rfl sn)))) (fun _ h=>by
     have h:=h.fronti 3 rfl
     have h:=h.fronti 3 rfl
     have h:=h.fronti 3 rfl
     have h:=h.fronti 3 rfl
     exact h)
 intro _ _
 refine Cs (Cr ?_)
 refine V0 (Ym rfl) ?_
 refine V0 (Yf fo116_4 rfl) ?_
 refine V0 (Yd 2 rfl rfl rfl na114) ?_
 refine Lf 3 rfl ?_
 refine Lwd (ι:=SP) [_] _ (.inl rfl) rfl en79 rfl rfl (fun r=>.slice r.1 (nodesT (scpM m fs ns) x.args).length r.2) (fun _=>[rsB sb m fs ns q (er (er E (resE (scpM m fs ns) x.op x.n x.mod x.nm x.args.length).e) (errEs (scpM m fs ns) x.args))]) (fun F r=>Sl (RdN (k+1)) 5 F r.1 r.2 (nodesT (scpM m fs ns) x.args)) ([HS]) (by simp) (fun _ _ h=>h) (fun w hw=>hN x.args a c _ w hm (by omega) hw) ?_
 intro F115 r115 hfr115 h115
 refine V0 (Yf fo158_4 rfl) ?_
 refine Lst 1 (.inl rfl) rfl rfl rfl sz66 rfl rfl rfl ?_
 refine Ln (Et (Cs (Cr ?_)))
 refine V0 (Yda 1 rfl rfl ag158 rfl) ?_
 refine Lst 2 (.inl rfl) rfl rfl rfl sz158 rfl rfl rfl ?_
 refine Ln (Et (Crt ?_))
 refine WE.retR (rs_1 rfl (rv_agg 2 rfl rfl ag158 rfl)) fun w' hw=>?_
 rw [nodeT_eq]
 have h:=hw
 rw [er_assoc,←errE_eq] at h
 exact ⟨r115,rfl,slN_mv h115 (nv_vs hw (by simp) hfr115),(Ws.drops (Vs':=[HS]) (Ws.keep (L:=[_]) (h)) (by simp))⟩
theorem rsExprs_any (HS:View) (sb:Nat) (m:TMod) (fs:List (List UInt8×List FItem)) (ns:List (List UInt8)) (q:RAt) (E:Int) (hr:RsIn HS m fs ns q) (k:Nat) (l:List TExpr) (a:Option Addr) (c:Nat) (w:World) (hm:Sl (RdE k) 5 HS a c l) (hwt:wEs l≤109951162777) (hw:Ws w [sb] [rsB sb m fs ns q (E)] [HS] w) :
   Calls Tryz.prog 79 #[.pointer (some ⟨sb,0,none⟩),.slice a l.length c] w fun e w'=>∃r:SP,e = .returned (.slice r.1 (nodesT (scpM m fs ns) l).length r.2)∧Sl (RdN (k+1)) 5 (nv w w') r.1 r.2 (nodesT (scpM m fs ns) l)∧Ws w [sb] [rsB sb m fs ns q (er E (errEs (scpM m fs ns) l))] [HS] w':=by
 induction k using Nat.strongRecOn generalizing l a c E w
 rename_i k ih
 have hcap:=hm.cap
 have hmax:=hm.max
 have hlw:=wEs_len l
 refine enter Tryz.func79 rfl 23 rfl rfl ?_
 refine CWd (W':=Ws w [sb] [rsB sb m fs ns q (E)] [HS]) (fun _ e=>by subst e; exact hw) ?_
 refine Cs (Cr ?_)
 refine V0 (Ya rfl) ?_
 refine Ln (Et (Cs (Cr ?_)))
 refine V0 (Ya rfl) ?_
 refine LW (fun _ h=>h.osl_nil 158 5) ?_
 refine WL.v0 ?_
 refine Ln (Et (Cs (Cs (Cr ?_))))
 refine V0 (Ya rfl) ?_
 refine Ln (Et (Cb ?_))
 refine Crb 1 (.cells (rsV m fs ns q (er E (ers (errE (scpM m fs ns)) (l.take 0)))).toArray 91 (0,0)) rfl (by rw [show ers (errE (scpM m fs ns)) (l.take 0)=0 from rfl,er_r]) ?_
 refine CK (ι:=GX XN) (fun g=>[(6,.int .i64 (g.i:Int)),(5,.slice g.a g.es.length g.c)]) [(0,_),(1,_),(4,_)] (fun g=>Ws w [sb] [osT 158 5 XN.cells g.a g.c g.es,rsB sb m fs ns q (er E (ers (errE (scpM m fs ns)) (l.take g.i)))] [g.J,HS]) (fun g=>g.i≤l.length∧g.es.map (·.1)=(l.take g.i).map (nodeT (scpM m fs ns))∧(Fresh w g.J∧Xs (SlN k) g.J g.es)) (fun g=>l.length-g.i) ⟨0,[],none,0,v0⟩ ⟨Nat.zero_le _,rfl,⟨v0_fresh w,Xs.nil _⟩⟩ (sc rfl (sc rfl (sc rfl (sc rfl (sc rfl sn))))) (fun _ h=>by have h:=h.fronti 1 rfl; have h:=h.fronti 1 rfl; have h:=Ws.drops h (Vs':=[v0,HS]) (by simp); exact h) ?_
 intro g ⟨hi,hmap,⟨hfJ,hX⟩⟩
 refine Cs (Cs (Cr ?_))
 refine V0 (Ym rfl) ?_
 refine V0 (Ym rfl) ?_
 refine V0 (Yn es114 rfl) ?_
 refine V0 (yl_lt rfl rfl) ?_
 refine Ln (Et ?_)
 refine Cc rfl (fun hc0=>?_) (fun hc0=>?_)
 ·
  have hlt:g.i<l.length:=by simpa using hc0
  obtain ⟨y,hyi⟩:∃q,l[g.i]? = some q:=⟨_,List.getElem?_eq_getElem hlt⟩
  obtain ⟨pby,poy,hay,hry⟩:=hm.elt g.i y hyi
  obtain ⟨k2,rfl⟩:∃k2,k=k2+1:=by
    cases k with
    | zero=>exact hry.elim
    | succ k2=>exact ⟨k2,rfl⟩
  obtain ⟨ya,yn,hrow,hsub⟩:=hry
  have hel:=map_len hmap hi
  refine Ck (Et (Cs (Cb (Cr ?_))))
  refine V0 (Ym rfl) ?_
  refine V0 (Ym rfl) ?_
  refine V0 (Ym rfl) ?_
  refine V0 (Ym rfl) ?_
  refine V0 (Yo es114 rfl rfl hay (by omega)) ?_
  refine V0 (yl_lda 1 ag116 rfl rfl rfl (hrow)) ?_
  refine Lf 1 rfl ?_
  refine Lwd (ι:=SP) [_] _ (.inl rfl) rfl en93 rfl rfl (fun r=>.agg (nodeV (nodeT (scpM m fs ns) y) r.1 r.2).toArray) (fun _=>[rsB sb m fs ns q (er (er E (ers (errE (scpM m fs ns)) (l.take g.i))) (errE (scpM m fs ns) y))]) (fun F r=>SlN (k2+1) F (nodeT (scpM m fs ns) y,r)) ([HS]) (by simp) (fun _ _ h=>h) (fun w hw=>rsExpr_any HS sb m fs ns q _ k2 y ya yn w hr (fun l a c E w h1 h2 h3=>ih k2 (by omega) E l a c w h1 h2 h3) hsub (by have:=wEs_mem hyi; omega) hw) ?_
  intro F19 r19 hfr19 h19
  refine WL.vjoin fun J19 j19a j19b j19f=>?_
  refine Lb (.inl rfl) rfl el66 rfl rfl rfl rfl fun b20=>?_
  refine Lrb 0 (.cells (XN.cells (nodeT (scpM m fs ns) y,r19)).toArray 158 (0,0)) rfl (rfl) ?_
  refine LA (((nodeT (scpM m fs ns) y,r19):XN)) 2 0 (.inl rfl) rfl el66 rfl rfl rfl rfl rfl rfl (by omega) (by omega) fun a21 c21=>?_
  refine V0 (Ya rfl) ?_
  refine Ln (Eb (Et (Cr ?_)))
  refine V0 (Ym rfl) ?_
  refine V0 (Yi rfl rfl rfl (by omega)) ?_
  refine V0 (Ya rfl) ?_
  refine Ln ?_
  rw [er_assoc,←ers_take (errE (scpM m fs ns)) hyi]
  exact Ea (⟨g.i+1,g.es++[(nodeT (scpM m fs ns) y,r19)],a21,c21,J19⟩:GX XN) (by show _-(g.i+1)<_; omega) ⟨(by show g.i+1≤_; omega),map_snoc hmap hyi rfl,⟨j19f _ hfr19 hfJ,Xs.snoc (R:=SlN _) (fun hv h=>SlN.mv hv h) hX j19b j19a h19⟩⟩ (sc rfl (sc rfl (sc rfl (sc rfl (sc rfl sn))))) (fun _ h=>by have h:=h.fronti 1 rfl; have h:=h.fronti 2 rfl; have h:=Ws.keep (L:=[_,_]) h; exact h)
 ·
  have hge:g.i=l.length:=by simp at hc0; omega
  refine Ce (Ex (Ex (Ebh (Et (Cs ?_)))))
  refine WC.oslN (rd:=rdXN) 0 rfl (fun k hk=>by simp at hk; subst hk; simp [outOf,blk,osl]) XN.cells_len (fun _ _ _ _ h=>h) fun K6 fK6 hK6=>?_
  refine Cr ?_
  refine V0 (Ym rfl) ?_
  refine V0 (Ya rfl) ?_
  refine Ln (Et (Crt ?_))
  refine WE.ret1 rfl rfl fun w' hw=>?_
  have hall:=map_all hmap hge
  rw [←nodesT_map] at hall
  rw [←hall]
  have h:=hw
  rw [hge,List.take_length,←errEs_ers] at h
  exact ⟨(g.a,g.c),by rw [List.length_map],slN_of hK6 (nv_vs hw (by simp) fK6) (nv_vs hw (by simp) hfJ) hX,(Ws.drops (Vs':=[HS]) (Ws.keep (L:=[_]) (h)) (by simp))⟩
theorem rsNodes_all (HS:View) (sb:Nat) (m:TMod) (fs:List (List UInt8×List FItem)) (ns:List (List UInt8)) (q:RAt) (hr:RsIn HS m fs ns q) (k:Nat):RsNodes HS sb m fs ns q k:=by
 intro l a c E w hm hwt hw
 exact rsExprs_any HS sb m fs ns q E hr k l a c w hm hwt hw
theorem rsStmt_any (HS:View) (sb:Nat) (m:TMod) (fs:List (List UInt8×List FItem)) (ns:List (List UInt8)) (q:RAt) (E:Int) (ke k:Nat) (x:TStmt) (a:Option Addr) (c:Nat) (a2:Option Addr) (c2:Nat) (a3:Option Addr) (c3:Nat) (w:World) (hr:RsIn HS m fs ns q) (hN:RsNodes HS sb m fs ns q ke) (hA:RsActs HS sb m fs ns q ke k) (hm:Sl (RdE ke) 5 HS a c x.args) (hs2:Sl (RdS ke k) 6 HS a2 c2 x.body) (hs3:Sl (RdS ke k) 6 HS a3 c3 x.other) (hwt:wS x≤109951162777) (hw:Ws w [sb] [rsB sb m fs ns q (E)] [HS] w) :
   Calls Tryz.prog 58 #[.pointer (some ⟨sb,0,none⟩),.agg (stmtV x a c a2 c2 a3 c3).toArray] w fun e w'=>∃r:AAt,e = .returned (.agg (actV (actT (scpM m fs ns) x) r).toArray)∧SlA (ke+1) (k+1) (nv w w') (actT (scpM m fs ns) x,r)∧Ws w [sb] [rsB sb m fs ns q (er E (errS (scpM m fs ns) x))] [HS] w':=by
 have hws:=wS_eq x
 have hcap:=hm.cap
 have hmax:=hm.max
 refine enter Tryz.func58 rfl 110 rfl rfl ?_
 refine CWd (W':=Ws w [sb] [rsB sb m fs ns q (E)] [HS]) (fun _ e=>by subst e; exact hw) ?_
 refine Cs (Cr ?_)
 refine WL.box (.inl rfl) rfl rfl fun b3=>?_
 refine WL.alloc (.inl rfl) rfl zr68 fun b4=>?_
 refine Ln (Et (Cs (Cr ?_)))
 refine V0 (Yf fo118_0 rfl) ?_
 refine V0 (Yd 1 rfl rfl rfl na3) ?_
 refine V0 (Yb zr68 pl68 rfl rfl) ?_
 refine WL.alloc (.inl rfl) rfl zr68 fun b5=>?_
 refine Lst 0 (.inl rfl) rfl rfl rfl sz68 rfl rfl rfl ?_
 refine Ln (Et ?_)
 refine WC.cutE (ι:=Unit) (fun _u=>[(0,.pointer (some ⟨sb,0,none⟩)),(3,.pointer (some ⟨b3,0,none⟩)),(4,.pointer (some ⟨b4,0,none⟩)),(5,.pointer (some ⟨b5,0,none⟩))]) (fun _u=>Ws w [sb] [blk b5 (.cells #[.int .i64 (resS (scpM m fs ns) x.op x.mod x.nm x.args.length).op,.int .i64 (resS (scpM m fs ns) x.op x.mod x.nm x.args.length).n,.int .i64 (resS (scpM m fs ns) x.op x.mod x.nm x.args.length).m,.int .i64 (resS (scpM m fs ns) x.op x.mod x.nm x.args.length).pl,.slice none 0 0,.slice none 0 0,.slice none 0 0] 68 (0,0)),blk b4 (.cells #[.int .i64 0,.int .i64 0,.int .i64 0,.int .i64 0,.slice none 0 0,.slice none 0 0,.slice none 0 0] 68 (0,0)),blk b3 (.cells (stmtV x a c a2 c2 a3 c3).toArray 118 (0,0)),rsB sb m fs ns q (er E (resS (scpM m fs ns) x.op x.mod x.nm x.args.length).e)] [HS]) (fun _u=>True) ?_ ?_
 ·
  refine Cs (Cr ?_)
  refine V0 (Yf fo118_0 rfl) ?_
  refine V0 (Yd 2 rfl rfl rfl na3) ?_
  refine Lp (.inl rfl) rfl en77 rfl (fun w hw=>stmtRef_any _ w) ?_
  refine Ln (Et ?_)
  refine Cc rfl (fun hc0=>?_) (fun hc0=>?_)
  ·
   have hR:within_ x.op 1 3=true:=hc0
   refine Cs (Cr ?_)
   refine V0 (Ym rfl) ?_
   refine V0 (Yf fo118_1 rfl) ?_
   refine V0 (Yd 2 rfl rfl rfl na9) ?_
   refine V0 (Yf fo118_2 rfl) ?_
   refine V0 (Yd 2 rfl rfl rfl na9) ?_
   refine Lp (.inl rfl) rfl en78 rfl (fun w hw=>rsFind_any (hv w) HS sb m fs ns q E x.mod x.nm w (hv_le w) (hw.vs _ (by simp)) (hw.hvw 3 rfl) hr) ?_
   refine V0 (Ym rfl) ?_
   refine V0 (Yx rfl rfl) ?_
   refine V0 (Yx rfl rfl) ?_
   refine V0 (Yx rfl rfl) ?_
   refine WL.alloc (.inl rfl) rfl zr55 fun b7=>?_
   refine V0 (Ya rfl) ?_
   refine Lst 0 (.inl rfl) rfl rfl rfl sz55 rfl rfl rfl ?_
   refine V0 (Ya rfl) ?_
   refine Ln (Et (Cb (Cs (Cr ?_))))
   refine V0 (Ym rfl) ?_
   refine V0 (yl_not rfl) ?_
   refine V0 (Ya rfl) ?_
   refine Ln (Et ?_)
   refine Cc rfl (fun hc1=>?_) (fun hc1=>?_)
   ·
    have hfd:findT (scpM m fs ns) x.mod x.nm=none:=by
      cases hfd:findT (scpM m fs ns) x.mod x.nm with
      | none=>rfl
      | some i=>rw [rf_some hfd] at hc1; cases hc1
    have hres:(resS (scpM m fs ns) x.op x.mod x.nm x.args.length)=⟨x.op,0,0,0,5⟩:=resS_none hR hfd
    refine Cr ?_
    refine V0 (Ym rfl) ?_
    refine Lf 4 rfl ?_
    refine WL.callw0 [_] _ [rsB sb m fs ns q (er (E) 5)] (.inl rfl) rfl en37 rfl rfl [HS] (by simp) (fun w hw=>rsFail_any HS sb m fs ns q (E) 5 w hw) ?_
    refine Ln (Eb ?_)
    refine WE.reblk 2 (.cells #[.int .i64 (resS (scpM m fs ns) x.op x.mod x.nm x.args.length).op,.int .i64 (resS (scpM m fs ns) x.op x.mod x.nm x.args.length).n,.int .i64 (resS (scpM m fs ns) x.op x.mod x.nm x.args.length).m,.int .i64 (resS (scpM m fs ns) x.op x.mod x.nm x.args.length).pl,.slice none 0 0,.slice none 0 0,.slice none 0 0] 68 (0,0)) rfl (by rw [hres]; rfl) ?_
    refine WE.reblk 0 (.cells (rsV m fs ns q (er E (resS (scpM m fs ns) x.op x.mod x.nm x.args.length).e)).toArray 91 (0,0)) rfl (by rw [hres]<;>first | rfl | rw [er_r]) ?_
    exact WE.meetE () trivial (sc rfl (sc rfl (sc rfl (sc rfl sn)))) (fun _ h=>by
      have h:=h.fronti 0 rfl
      have h:=h.fronti 4 rfl
      have h:=h.fronti 4 rfl
      have h:=h.fronti 4 rfl
      have h:=Ws.keep (L:=[_,_,_,_]) h
      exact h)
   ·
    obtain ⟨m1,it,hfd⟩:∃m1 it,findT (scpM m fs ns) x.mod x.nm=some (m1,it):=by
      cases hfd:findT (scpM m fs ns) x.mod x.nm with
      | none=>rw [rf_none hfd] at hc1; cases hc1
      | some i=>exact ⟨i.1,i.2,rfl⟩
    have hr1:=resS_some (len:=x.args.length) hR hfd
    rw [rf_some hfd]
    refine Cs (Cr ?_)
    refine V0 (Yf fo118_0 rfl) ?_
    refine V0 (Yd 3 rfl rfl rfl na3) ?_
    refine V0 (yl_eq rfl rfl) ?_
    refine V0 (Ym rfl) ?_
    apply WL.and 7 (x:=((m1==-1)||(it.kind==2))) rfl rfl rfl rfl (.inl rfl) rfl rfl rfl rfl rfl
    ·
     intro hg0
     refine Lv (.g rfl rfl rfl) rfl (Ym rfl) ?_
     refine Lv (.g rfl rfl rfl) rfl (yl_eq rfl rfl) ?_
     refine Lv (.g rfl rfl rfl) rfl (Ym rfl) ?_
     apply WL.or 3 rfl rfl rfl rfl (.g rfl rfl rfl) rfl rfl rfl rfl rfl
     ·
      intro hg1
      refine Lv (.g rfl rfl rfl) rfl (Yf fo55_0 rfl) ?_
      refine Lv (.g rfl rfl rfl) rfl (Yd 0 rfl rfl rfl na3) ?_
      refine Lv (.g rfl rfl rfl) rfl (yl_eq rfl rfl) ?_
      exact Gt 3 rfl rfl rfl
     exact Gt 4 rfl rfl rfl
    refine V0 (Ya rfl) ?_
    refine Ln (Et ?_)
    refine Cc rfl (fun hc2=>?_) (fun hc2=>?_)
    ·
     have hk:x.op=1∧(m1 = -1∨it.kind=2):=by simpa using hc2
     rw [if_pos hk] at hr1
     have hres:=hr1
     refine WC.draws1 1 [(0,true),(1,true),(2,true),(3,true),(4,false),(5,false),(6,false)] mixed (by kernel_rfl) (fun _ _ _ d _ h=>by cases d<;>exact h) ?_
     refine Dq rfl (.inl rfl) rfl (fun _ h=>by have h:=Ws.out 1 h; exact h) (Ym rfl) ?_
     refine Dq rfl (.inl rfl) rfl (fun _ h=>by have h:=Ws.out 1 h; exact h) (Yf fo55_2 rfl) ?_
     refine Dq rfl (.inl rfl) rfl (fun _ h=>by have h:=Ws.out 1 h; exact h) (Yd 0 rfl rfl rfl na3) ?_
     refine Dq rfl (.inl rfl) rfl (fun _ h=>by have h:=Ws.out 1 h; exact h) (Yf fo68_2 rfl) ?_
     refine De rfl (fun _ h=>by have h:=Ws.out 1 h; exact h) ?_
     refine Lst 1 (.inl rfl) rfl rfl rfl sz3 rfl rfl rfl ?_
     refine Ln (Ed ?_)
     refine De rfl (fun _ h=>by have h:=Ws.out 1 h; exact h) ?_
     refine V0 (Yf fo68_3 rfl) ?_
     refine Ln (Ed ?_)
     refine De rfl (fun _ h=>by have h:=Ws.out 1 h; exact h) ?_
     refine Lst 1 (.inl rfl) rfl rfl rfl sz3 rfl rfl rfl ?_
     refine Ln (Ed ?_)
     refine WD.nil (fun _ h=>by have h:=Ws.out 1 h; exact h) ?_
     refine Eb ?_
     refine WE.reblk 1 (.cells #[.int .i64 (resS (scpM m fs ns) x.op x.mod x.nm x.args.length).op,.int .i64 (resS (scpM m fs ns) x.op x.mod x.nm x.args.length).n,.int .i64 (resS (scpM m fs ns) x.op x.mod x.nm x.args.length).m,.int .i64 (resS (scpM m fs ns) x.op x.mod x.nm x.args.length).pl,.slice none 0 0,.slice none 0 0,.slice none 0 0] 68 (0,0)) rfl (by rw [hres]; rfl) ?_
     refine WE.reblk 4 (.cells (rsV m fs ns q (er E (resS (scpM m fs ns) x.op x.mod x.nm x.args.length).e)).toArray 91 (0,0)) rfl (by rw [hres]<;>first | rfl | rw [er_r]) ?_
     exact WE.meetE () trivial (sc rfl (sc rfl (sc rfl (sc rfl sn)))) (fun _ h=>by
       have h:=h.fronti 4 rfl
       have h:=h.fronti 4 rfl
       have h:=h.fronti 4 rfl
       have h:=h.fronti 4 rfl
       have h:=Ws.keep (L:=[_,_,_,_]) h
       exact h)
    ·
     have hk:¬(x.op=1∧(m1 = -1∨it.kind=2)):=by simpa using hc2
     rw [if_neg hk] at hr1
     refine Cs (Cr ?_)
     refine V0 (Ym rfl) ?_
     refine V0 (yl_eq rfl rfl) ?_
     refine V0 (Ya rfl) ?_
     refine Ln (Et ?_)
     refine Cc rfl (fun hc3=>?_) (fun hc3=>?_)
     ·
      have hneg:m1 = -1:=by simpa using hc3
      rw [if_pos hneg] at hr1
      have hres:=hr1
      refine Cr ?_
      refine V0 (Ym rfl) ?_
      refine Lf 4 rfl ?_
      refine WL.callw0 [_] _ [rsB sb m fs ns q (er (E) 7)] (.inl rfl) rfl en37 rfl rfl [HS] (by simp) (fun w hw=>rsFail_any HS sb m fs ns q (E) 7 w hw) ?_
      refine Ln (Eb ?_)
      refine WE.reblk 2 (.cells #[.int .i64 (resS (scpM m fs ns) x.op x.mod x.nm x.args.length).op,.int .i64 (resS (scpM m fs ns) x.op x.mod x.nm x.args.length).n,.int .i64 (resS (scpM m fs ns) x.op x.mod x.nm x.args.length).m,.int .i64 (resS (scpM m fs ns) x.op x.mod x.nm x.args.length).pl,.slice none 0 0,.slice none 0 0,.slice none 0 0] 68 (0,0)) rfl (by rw [hres]; rfl) ?_
      refine WE.reblk 0 (.cells (rsV m fs ns q (er E (resS (scpM m fs ns) x.op x.mod x.nm x.args.length).e)).toArray 91 (0,0)) rfl (by rw [hres]<;>first | rfl | rw [er_r]) ?_
      exact WE.meetE () trivial (sc rfl (sc rfl (sc rfl (sc rfl sn)))) (fun _ h=>by
        have h:=h.fronti 0 rfl
        have h:=h.fronti 4 rfl
        have h:=h.fronti 4 rfl
        have h:=h.fronti 4 rfl
        have h:=Ws.keep (L:=[_,_,_,_]) h
        exact h)
     ·
      have hneg:¬m1 = -1:=by simpa using hc3
      rw [if_neg hneg] at hr1
      refine Cs (Cr ?_)
      refine V0 (Yf fo118_0 rfl) ?_
      refine V0 (Yd 3 rfl rfl rfl na3) ?_
      refine V0 (yl_eq rfl rfl) ?_
      refine V0 (Ym rfl) ?_
      apply WL.and 3 rfl rfl rfl rfl (.inl rfl) rfl rfl rfl rfl rfl
      ·
       intro hg2
       refine Lv (.g rfl rfl rfl) rfl (Yf fo55_0 rfl) ?_
       refine Lv (.g rfl rfl rfl) rfl (Yd 0 rfl rfl rfl na3) ?_
       refine Lv (.g rfl rfl rfl) rfl (yl_eq rfl rfl) ?_
       exact Gt 3 rfl rfl rfl
      refine V0 (Ya rfl) ?_
      refine Ln (Et ?_)
      refine Cc rfl (fun hc4=>?_) (fun hc4=>?_)
      ·
       have hk3:x.op=2∧it.kind=3:=by simpa using hc4
       rw [if_pos hk3] at hr1
       have hres:=hr1
       refine WC.draws1 1 [(0,true),(1,true),(2,true),(3,true),(4,true),(5,true),(6,false),(7,false),(8,false),(9,false),(10,false)] mixed (by kernel_rfl) (fun _ _ _ d _ h=>by cases d<;>exact h) ?_
       refine Dq rfl (.inl rfl) rfl (fun _ h=>by have h:=Ws.out 1 h; exact h) (Ym rfl) ?_
       refine Dq rfl (.inl rfl) rfl (fun _ h=>by have h:=Ws.out 1 h; exact h) (Yf fo55_2 rfl) ?_
       refine Dq rfl (.inl rfl) rfl (fun _ h=>by have h:=Ws.out 1 h; exact h) (Yd 0 rfl rfl rfl na3) ?_
       refine Dq rfl (.inl rfl) rfl (fun _ h=>by have h:=Ws.out 1 h; exact h) (Yf fo55_1 rfl) ?_
       refine Dq rfl (.inl rfl) rfl (fun _ h=>by have h:=Ws.out 1 h; exact h) (Yd 0 rfl rfl rfl na3) ?_
       refine Dq rfl (.inl rfl) rfl (fun _ h=>by have h:=Ws.out 1 h; exact h) (Yf fo68_2 rfl) ?_
       refine De rfl (fun _ h=>by have h:=Ws.out 1 h; exact h) ?_
       refine Lst 1 (.inl rfl) rfl rfl rfl sz3 rfl rfl rfl ?_
       refine Ln (Ed ?_)
       refine De rfl (fun _ h=>by have h:=Ws.out 1 h; exact h) ?_
       refine V0 (Yf fo68_3 rfl) ?_
       refine Ln (Ed ?_)
       refine De rfl (fun _ h=>by have h:=Ws.out 1 h; exact h) ?_
       refine Lst 1 (.inl rfl) rfl rfl rfl sz3 rfl rfl rfl ?_
       refine Ln (Ed ?_)
       refine De rfl (fun _ h=>by have h:=Ws.out 1 h; exact h) ?_
       refine V0 (Yf fo68_1 rfl) ?_
       refine Ln (Ed ?_)
       refine De rfl (fun _ h=>by have h:=Ws.out 1 h; exact h) ?_
       refine Lst 1 (.inl rfl) rfl rfl rfl sz3 rfl rfl rfl ?_
       refine Ln (Ed ?_)
       refine WD.nil (fun _ h=>by have h:=Ws.out 1 h; exact h) ?_
       refine Eb ?_
       refine WE.reblk 1 (.cells #[.int .i64 (resS (scpM m fs ns) x.op x.mod x.nm x.args.length).op,.int .i64 (resS (scpM m fs ns) x.op x.mod x.nm x.args.length).n,.int .i64 (resS (scpM m fs ns) x.op x.mod x.nm x.args.length).m,.int .i64 (resS (scpM m fs ns) x.op x.mod x.nm x.args.length).pl,.slice none 0 0,.slice none 0 0,.slice none 0 0] 68 (0,0)) rfl (by rw [hres]; rfl) ?_
       refine WE.reblk 4 (.cells (rsV m fs ns q (er E (resS (scpM m fs ns) x.op x.mod x.nm x.args.length).e)).toArray 91 (0,0)) rfl (by rw [hres]<;>first | rfl | rw [er_r]) ?_
       exact WE.meetE () trivial (sc rfl (sc rfl (sc rfl (sc rfl sn)))) (fun _ h=>by
         have h:=h.fronti 4 rfl
         have h:=h.fronti 4 rfl
         have h:=h.fronti 4 rfl
         have h:=h.fronti 4 rfl
         have h:=Ws.keep (L:=[_,_,_,_]) h
         exact h)
      ·
       have hk3:¬(x.op=2∧it.kind=3):=by simpa using hc4
       rw [if_neg hk3] at hr1
       refine Cs (Cr ?_)
       refine V0 (Yf fo118_0 rfl) ?_
       refine V0 (Yd 3 rfl rfl rfl na3) ?_
       refine V0 (yl_eq rfl rfl) ?_
       refine V0 (Ym rfl) ?_
       apply WL.and 3 rfl rfl rfl rfl (.inl rfl) rfl rfl rfl rfl rfl
       ·
        intro hg3
        refine Lv (.g rfl rfl rfl) rfl (Yf fo55_0 rfl) ?_
        refine Lv (.g rfl rfl rfl) rfl (Yd 0 rfl rfl rfl na3) ?_
        refine Lv (.g rfl rfl rfl) rfl (yl_eq rfl rfl) ?_
        exact Gt 3 rfl rfl rfl
       refine V0 (Ya rfl) ?_
       refine Ln (Et ?_)
       refine Cc rfl (fun hc5=>?_) (fun hc5=>?_)
       ·
        have hk4:x.op=3∧it.kind=4:=by simpa using hc5
        rw [if_pos hk4] at hr1
        refine Cs ?_
        refine WC.draws1 1 [(0,true),(1,true),(2,true),(3,true),(4,false),(5,false),(6,false)] mixed (by kernel_rfl) (fun _ _ _ d _ h=>by cases d<;>exact h) ?_
        refine Dq rfl (.inl rfl) rfl (fun _ h=>by have h:=Ws.out 1 h; exact h) (Ym rfl) ?_
        refine Dq rfl (.inl rfl) rfl (fun _ h=>by have h:=Ws.out 1 h; exact h) (Yf fo55_2 rfl) ?_
        refine Dq rfl (.inl rfl) rfl (fun _ h=>by have h:=Ws.out 1 h; exact h) (Yd 0 rfl rfl rfl na3) ?_
        refine Dq rfl (.inl rfl) rfl (fun _ h=>by have h:=Ws.out 1 h; exact h) (Yf fo68_2 rfl) ?_
        refine De rfl (fun _ h=>by have h:=Ws.out 1 h; exact h) ?_
        refine Lst 1 (.inl rfl) rfl rfl rfl sz3 rfl rfl rfl ?_
        refine Ln (Ed ?_)
        refine De rfl (fun _ h=>by have h:=Ws.out 1 h; exact h) ?_
        refine V0 (Yf fo68_3 rfl) ?_
        refine Ln (Ed ?_)
        refine De rfl (fun _ h=>by have h:=Ws.out 1 h; exact h) ?_
        refine Lst 1 (.inl rfl) rfl rfl rfl sz3 rfl rfl rfl ?_
        refine Ln (Ed ?_)
        refine WD.nil (fun _ h=>by have h:=Ws.out 1 h; exact h) ?_
        refine Et (Cs (Cr ?_))
        refine V0 (Yf fo55_1 rfl) ?_
        refine V0 (Yd 0 rfl rfl rfl na3) ?_
        refine V0 (Yf fo118_3 rfl) ?_
        refine V0 (Yd 3 rfl rfl rfl na114) ?_
        refine V0 (Yn es114 rfl) ?_
        refine V0 (yl_ne rfl rfl) ?_
        refine Ln (Et ?_)
        refine Cc rfl (fun hc6=>?_) (fun hc6=>?_)
        ·
         have hn8:¬it.n=(x.args.length:Int):=by simpa using hc6
         rw [if_neg hn8] at hr1
         have hres:=hr1
         refine Cr ?_
         refine V0 (Ym rfl) ?_
         refine Lf 4 rfl ?_
         refine WL.callw0 [_] _ [rsB sb m fs ns q (er (E) 8)] (.inl rfl) rfl en37 rfl rfl [HS] (by simp) (fun w hw=>rsFail_any HS sb m fs ns q (E) 8 w hw) ?_
         refine Ln (Eb ?_)
         refine WE.reblk 2 (.cells #[.int .i64 (resS (scpM m fs ns) x.op x.mod x.nm x.args.length).op,.int .i64 (resS (scpM m fs ns) x.op x.mod x.nm x.args.length).n,.int .i64 (resS (scpM m fs ns) x.op x.mod x.nm x.args.length).m,.int .i64 (resS (scpM m fs ns) x.op x.mod x.nm x.args.length).pl,.slice none 0 0,.slice none 0 0,.slice none 0 0] 68 (0,0)) rfl (by rw [hres]; rfl) ?_
         refine WE.reblk 0 (.cells (rsV m fs ns q (er E (resS (scpM m fs ns) x.op x.mod x.nm x.args.length).e)).toArray 91 (0,0)) rfl (by rw [hres]<;>first | rfl | rw [er_r]) ?_
         exact WE.meetE () trivial (sc rfl (sc rfl (sc rfl (sc rfl sn)))) (fun _ h=>by
           have h:=h.fronti 0 rfl
           have h:=h.fronti 4 rfl
           have h:=h.fronti 4 rfl
           have h:=h.fronti 4 rfl
           have h:=Ws.keep (L:=[_,_,_,_]) h
           exact h)
        ·
         have hn8:it.n=(x.args.length:Int):=by simpa using hc6
         rw [if_pos hn8] at hr1
         have hres:=hr1
         refine Ck (Eb ?_)
         refine WE.reblk 1 (.cells #[.int .i64 (resS (scpM m fs ns) x.op x.mod x.nm x.args.length).op,.int .i64 (resS (scpM m fs ns) x.op x.mod x.nm x.args.length).n,.int .i64 (resS (scpM m fs ns) x.op x.mod x.nm x.args.length).m,.int .i64 (resS (scpM m fs ns) x.op x.mod x.nm x.args.length).pl,.slice none 0 0,.slice none 0 0,.slice none 0 0] 68 (0,0)) rfl (by rw [hres]; rfl) ?_
         refine WE.reblk 4 (.cells (rsV m fs ns q (er E (resS (scpM m fs ns) x.op x.mod x.nm x.args.length).e)).toArray 91 (0,0)) rfl (by rw [hres]<;>first | rfl | rw [er_r]) ?_
         exact WE.meetE () trivial (sc rfl (sc rfl (sc rfl (sc rfl sn)))) (fun _ h=>by
           have h:=h.fronti 4 rfl
           have h:=h.fronti 4 rfl
           have h:=h.fronti 4 rfl
           have h:=h.fronti 4 rfl
           have h:=Ws.keep (L:=[_,_,_,_]) h
           exact h)
       ·
        have hk4:¬(x.op=3∧it.kind=4):=by simpa using hc5
        rw [if_neg hk4] at hr1
        have hres:=hr1
        refine Cr ?_
        refine V0 (Ym rfl) ?_
        refine Lf 4 rfl ?_
        refine WL.callw0 [_] _ [rsB sb m fs ns q (er (E) 7)] (.inl rfl) rfl en37 rfl rfl [HS] (by simp) (fun w hw=>rsFail_any HS sb m fs ns q (E) 7 w hw) ?_
        refine Ln (Eb ?_)
        refine WE.reblk 2 (.cells #[.int .i64 (resS (scpM m fs ns) x.op x.mod x.nm x.args.length).op,.int .i64 (resS (scpM m fs ns) x.op x.mod x.nm x.args.length).n,.int .i64 (resS (scpM m fs ns) x.op x.mod x.nm x.args.length).m,.int .i64 (resS (scpM m fs ns) x.op x.mod x.nm x.args.length).pl,.slice none 0 0,.slice none 0 0,.slice none 0 0] 68 (0,0)) rfl (by rw [hres]; rfl) ?_
        refine WE.reblk 0 (.cells (rsV m fs ns q (er E (resS (scpM m fs ns) x.op x.mod x.nm x.args.length).e)).toArray 91 (0,0)) rfl (by rw [hres]<;>first | rfl | rw [er_r]) ?_
        exact WE.meetE () trivial (sc rfl (sc rfl (sc rfl (sc rfl sn)))) (fun _ h=>by
          have h:=h.fronti 0 rfl
          have h:=h.fronti 4 rfl
          have h:=h.fronti 4 rfl
          have h:=h.fronti 4 rfl
          have h:=Ws.keep (L:=[_,_,_,_]) h
          exact h)
  ·
   have hR:within_ x.op 1 3=false:=hc0
   have hres:(resS (scpM m fs ns) x.op x.mod x.nm x.args.length)=⟨x.op,0,0,0,0⟩:=resS_not hR
   refine Ck ?_
   refine WE.reblk 0 (.cells #[.int .i64 (resS (scpM m fs ns) x.op x.mod x.nm x.args.length).op,.int .i64 (resS (scpM m fs ns) x.op x.mod x.nm x.args.length).n,.int .i64 (resS (scpM m fs ns) x.op x.mod x.nm x.args.length).m,.int .i64 (resS (scpM m fs ns) x.op x.mod x.nm x.args.length).pl,.slice none 0 0,.slice none 0 0,.slice none 0 0] 68 (0,0)) rfl (by rw [hres]; rfl) ?_
   refine WE.reblk 3 (.cells (rsV m fs ns q (er E (resS (scpM m fs ns) x.op x.mod x.nm x.args.length).e)).toArray 91 (0,0)) rfl (by rw [hres]<;>first | rfl | rw [er_r]) ?_
   exact WE.meetE () trivial (sc rfl (sc rfl (sc rfl (sc rfl sn)))) (fun _ h=>by
     have h:=h.fronti 3 rfl
     have h:=h.fronti 3 rfl
     have h:=h.fronti 3 rfl
     have h:=h.fronti 3 rfl
     exact h)
 intro _ _
 refine Cs (Cr ?_)
 refine V0 (Ym rfl) ?_
 refine V0 (Yf fo118_3 rfl) ?_
 refine V0 (Yd 2 rfl rfl rfl na114) ?_
 refine Lf 3 rfl ?_
 refine Lwd (ι:=SP) [_] _ (.inl rfl) rfl en79 rfl rfl (fun r=>.slice r.1 (nodesT (scpM m fs ns) x.args).length r.2) (fun _=>[rsB sb m fs ns q (er (er E (resS (scpM m fs ns) x.op x.mod x.nm x.args.length).e) (errEs (scpM m fs ns) x.args))]) (fun F r=>Sl (RdN (ke+1)) 5 F r.1 r.2 (nodesT (scpM m fs ns) x.args)) ([HS]) (by simp) (fun _ _ h=>h) (fun w hw=>hN x.args a c _ w hm (by omega) hw) ?_
 intro F97 r97 hfr97 h97
 refine V0 (Yf fo68_4 rfl) ?_
 refine Lst 1 (.inl rfl) rfl rfl rfl sz66 rfl rfl rfl ?_
 refine Ln (Et (Cs (Cr ?_)))
 refine V0 (Ym rfl) ?_
 refine V0 (Yf fo118_4 rfl) ?_
 refine V0 (Yd 3 rfl rfl rfl na25) ?_
 refine Lf 0 rfl ?_
 refine Lwd (ι:=SP) [_] _ (.inl rfl) rfl en38 rfl rfl (fun r=>.slice r.1 (actsT (scpM m fs ns) x.body).length r.2) (fun _=>[rsB sb m fs ns q (er (er (er E (resS (scpM m fs ns) x.op x.mod x.nm x.args.length).e) (errEs (scpM m fs ns) x.args)) (errSs (scpM m fs ns) x.body))]) (fun F r=>Sl (RdA (ke+1) (k+1)) 7 F r.1 r.2 (actsT (scpM m fs ns) x.body)) ([HS]) (by simp) (fun _ _ h=>h) (fun w hw=>hA x.body a2 c2 _ w hs2 (by omega) hw) ?_
 intro F102 r102 hfr102 h102
 refine V0 (Yf fo68_5 rfl) ?_
 refine Lst 1 (.inl rfl) rfl rfl rfl sz40 rfl rfl rfl ?_
 refine Ln (Et (Cs (Cr ?_)))
 refine V0 (Ym rfl) ?_
 refine V0 (Yf fo118_5 rfl) ?_
 refine V0 (Yd 3 rfl rfl rfl na25) ?_
 refine Lf 0 rfl ?_
 refine Lwd (ι:=SP) [_] _ (.inl rfl) rfl en38 rfl rfl (fun r=>.slice r.1 (actsT (scpM m fs ns) x.other).length r.2) (fun _=>[rsB sb m fs ns q (er (er (er (er E (resS (scpM m fs ns) x.op x.mod x.nm x.args.length).e) (errEs (scpM m fs ns) x.args)) (errSs (scpM m fs ns) x.body)) (errSs (scpM m fs ns) x.other))]) (fun F r=>Sl (RdA (ke+1) (k+1)) 7 F r.1 r.2 (actsT (scpM m fs ns) x.other)) ([HS]) (by simp) (fun _ _ h=>h) (fun w hw=>hA x.other a3 c3 _ w hs3 (by omega) hw) ?_
 intro F107 r107 hfr107 h107
 refine V0 (Yf fo68_6 rfl) ?_
 refine Lst 1 (.inl rfl) rfl rfl rfl sz40 rfl rfl rfl ?_
 refine Ln (Et (Cs (Cr ?_)))
 refine V0 (Yda 1 rfl rfl ag68 rfl) ?_
 refine Lst 2 (.inl rfl) rfl rfl rfl sz68 rfl rfl rfl ?_
 refine Ln (Et (Crt ?_))
 refine WE.retR (rs_1 rfl (rv_agg 2 rfl rfl ag68 rfl)) fun w' hw=>?_
 rw [actT_eq]
 have h:=hw
 rw [er_assoc,er_assoc,er_assoc,←errS_eq] at h
 exact ⟨⟨r97,r102,r107⟩,rfl,⟨slN_mv h97 (nv_vs hw (by simp) hfr97),slA_mv h102 (nv_vs hw (by simp) hfr102),slA_mv h107 (nv_vs hw (by simp) hfr107)⟩,(Ws.drops (Vs':=[HS]) (Ws.keep (L:=[_]) (h)) (by simp))⟩
theorem rsBlock_any (HS:View) (sb:Nat) (m:TMod) (fs:List (List UInt8×List FItem)) (ns:List (List UInt8)) (q:RAt) (E:Int) (ke:Nat) (hr:RsIn HS m fs ns q) (k:Nat) (l:List TStmt) (a:Option Addr) (c:Nat) (w:World) (hm:Sl (RdS ke k) 6 HS a c l) (hwt:wSs l≤109951162777) (hw:Ws w [sb] [rsB sb m fs ns q (E)] [HS] w) :
   Calls Tryz.prog 38 #[.pointer (some ⟨sb,0,none⟩),.slice a l.length c] w fun e w'=>∃r:SP,e = .returned (.slice r.1 (actsT (scpM m fs ns) l).length r.2)∧Sl (RdA (ke+1) (k+1)) 7 (nv w w') r.1 r.2 (actsT (scpM m fs ns) l)∧Ws w [sb] [rsB sb m fs ns q (er E (errSs (scpM m fs ns) l))] [HS] w':=by
 induction k using Nat.strongRecOn generalizing l a c E w
 rename_i k ih
 have hcap:=hm.cap
 have hmax:=hm.max
 have hlw:=wSs_len l
 refine enter Tryz.func38 rfl 23 rfl rfl ?_
 refine CWd (W':=Ws w [sb] [rsB sb m fs ns q (E)] [HS]) (fun _ e=>by subst e; exact hw) ?_
 refine Cs (Cr ?_)
 refine V0 (Ya rfl) ?_
 refine Ln (Et (Cs (Cr ?_)))
 refine V0 (Ya rfl) ?_
 refine LW (fun _ h=>h.osl_nil 68 7) ?_
 refine WL.v0 ?_
 refine Ln (Et (Cs (Cs (Cr ?_))))
 refine V0 (Ya rfl) ?_
 refine Ln (Et (Cb ?_))
 refine Crb 1 (.cells (rsV m fs ns q (er E (ers (errS (scpM m fs ns)) (l.take 0)))).toArray 91 (0,0)) rfl (by rw [show ers (errS (scpM m fs ns)) (l.take 0)=0 from rfl,er_r]) ?_
 refine CK (ι:=GX XA) (fun g=>[(6,.int .i64 (g.i:Int)),(5,.slice g.a g.es.length g.c)]) [(0,_),(1,_),(4,_)] (fun g=>Ws w [sb] [osT 68 7 XA.cells g.a g.c g.es,rsB sb m fs ns q (er E (ers (errS (scpM m fs ns)) (l.take g.i)))] [g.J,HS]) (fun g=>g.i≤l.length∧g.es.map (·.1)=(l.take g.i).map (actT (scpM m fs ns))∧(Fresh w g.J∧Xs (SlA (ke+1) k) g.J g.es)) (fun g=>l.length-g.i) ⟨0,[],none,0,v0⟩ ⟨Nat.zero_le _,rfl,⟨v0_fresh w,Xs.nil _⟩⟩ (sc rfl (sc rfl (sc rfl (sc rfl (sc rfl sn))))) (fun _ h=>by have h:=h.fronti 1 rfl; have h:=h.fronti 1 rfl; have h:=Ws.drops h (Vs':=[v0,HS]) (by simp); exact h) ?_
 intro g ⟨hi,hmap,⟨hfJ,hX⟩⟩
 refine Cs (Cs (Cr ?_))
 refine V0 (Ym rfl) ?_
 refine V0 (Ym rfl) ?_
 refine V0 (Yn es25 rfl) ?_
 refine V0 (yl_lt rfl rfl) ?_
 refine Ln (Et ?_)
 refine Cc rfl (fun hc0=>?_) (fun hc0=>?_)
 ·
  have hlt:g.i<l.length:=by simpa using hc0
  obtain ⟨y,hyi⟩:∃q,l[g.i]? = some q:=⟨_,List.getElem?_eq_getElem hlt⟩
  obtain ⟨pby,poy,hay,hry⟩:=hm.elt g.i y hyi
  obtain ⟨k2,rfl⟩:∃k2,k=k2+1:=by
    cases k with
    | zero=>exact hry.elim
    | succ k2=>exact ⟨k2,rfl⟩
  obtain ⟨ya,yn,y2,m2,y3,m3,hrow,hs1,hs2,hs3⟩:=hry
  have hel:=map_len hmap hi
  refine Ck (Et (Cs (Cb (Cr ?_))))
  refine V0 (Ym rfl) ?_
  refine V0 (Ym rfl) ?_
  refine V0 (Ym rfl) ?_
  refine V0 (Ym rfl) ?_
  refine V0 (Yo es25 rfl rfl hay (by omega)) ?_
  refine V0 (yl_lda 1 ag118 rfl rfl rfl (hrow)) ?_
  refine Lf 1 rfl ?_
  refine Lwd (ι:=AAt) [_] _ (.inl rfl) rfl en58 rfl rfl (fun r=>.agg (actV (actT (scpM m fs ns) y) r).toArray) (fun _=>[rsB sb m fs ns q (er (er E (ers (errS (scpM m fs ns)) (l.take g.i))) (errS (scpM m fs ns) y))]) (fun F r=>SlA (ke+1) (k2+1) F (actT (scpM m fs ns) y,r)) ([HS]) (by simp) (fun _ _ h=>h) (fun w hw=>rsStmt_any HS sb m fs ns q _ ke k2 y ya yn y2 m2 y3 m3 w hr (rsNodes_all HS sb m fs ns q hr ke) (fun l a c E w h1 h2 h3=>ih k2 (by omega) E l a c w h1 h2 h3) hs1 hs2 hs3 (by have:=wSs_mem hyi; omega) hw) ?_
  intro F19 r19 hfr19 h19
  refine WL.vjoin fun J19 j19a j19b j19f=>?_
  refine Lb (.inl rfl) rfl el40 rfl rfl rfl rfl fun b20=>?_
  refine Lrb 0 (.cells (XA.cells (actT (scpM m fs ns) y,r19)).toArray 68 (0,0)) rfl (rfl) ?_
  refine LA (((actT (scpM m fs ns) y,r19):XA)) 2 0 (.inl rfl) rfl el40 rfl rfl rfl rfl rfl rfl (by omega) (by omega) fun a21 c21=>?_
  refine V0 (Ya rfl) ?_
  refine Ln (Eb (Et (Cr ?_)))
  refine V0 (Ym rfl) ?_
  refine V0 (Yi rfl rfl rfl (by omega)) ?_
  refine V0 (Ya rfl) ?_
  refine Ln ?_
  rw [er_assoc,←ers_take (errS (scpM m fs ns)) hyi]
  exact Ea (⟨g.i+1,g.es++[(actT (scpM m fs ns) y,r19)],a21,c21,J19⟩:GX XA) (by show _-(g.i+1)<_; omega) ⟨(by show g.i+1≤_; omega),map_snoc hmap hyi rfl,⟨j19f _ hfr19 hfJ,Xs.snoc (R:=SlA _ _) (fun hv h=>SlA.mv hv h) hX j19b j19a h19⟩⟩ (sc rfl (sc rfl (sc rfl (sc rfl (sc rfl sn))))) (fun _ h=>by have h:=h.fronti 1 rfl; have h:=h.fronti 2 rfl; have h:=Ws.keep (L:=[_,_]) h; exact h)
 ·
  have hge:g.i=l.length:=by simp at hc0; omega
  refine Ce (Ex (Ex (Ebh (Et (Cs ?_)))))
  refine WC.oslN (rd:=rdXA) 0 rfl (fun k hk=>by simp at hk; subst hk; simp [outOf,blk,osl]) XA.cells_len (fun _ _ _ _ h=>h) fun K6 fK6 hK6=>?_
  refine Cr ?_
  refine V0 (Ym rfl) ?_
  refine V0 (Ya rfl) ?_
  refine Ln (Et (Crt ?_))
  refine WE.ret1 rfl rfl fun w' hw=>?_
  have hall:=map_all hmap hge
  rw [←actsT_map] at hall
  rw [←hall]
  have h:=hw
  rw [hge,List.take_length,←errSs_ers] at h
  exact ⟨(g.a,g.c),by rw [List.length_map],slA_of hK6 (nv_vs hw (by simp) fK6) (nv_vs hw (by simp) hfJ) hX,(Ws.drops (Vs':=[HS]) (Ws.keep (L:=[_]) (h)) (by simp))⟩
end Go.Proofs.YtinnlppbkhhoiaaGreatDoor
end
section
namespace Go.Proofs.YtinnlppbkhhoiaaGreatDoor
open Go.Bw
set_option linter.unusedVariables false
set_option linter.unusedSimpArgs false
structure GQ where
 i:Nat
 es:List XP
 a:Option Addr
 c:Nat
 J:View
 ns:List (List UInt8)
 na:SP
theorem rsIn_of {H HF F HS:View} {ke ks:Nat} {r:MAt} {m:TMod} {fs:List (List UInt8×List FItem)} {fa:Option Addr} {fc:Nat} {oa:SP} {ns:List (List UInt8)} {na:SP} (hm:RdM ke ks HS r m) (hf:Sl rdFace 2 HS fa fc fs) (ho:Sl rdItem 4 HS oa.1 oa.2 (itemsM m)) (hn:Sl rdStr 1 HS na.1 na.2 ns) (hl:fs.length=m.uses.length):RsIn HS m fs ns ⟨r,(fa,fc),oa,na⟩:=⟨hm.uses,hf,ho,hn,hl.symm⟩
theorem rdFace_mv {H N:View} (hv:VLe H N) {a:Option Addr} {c:Nat} {l:List (List UInt8×List FItem)} (h:Sl rdFace 2 H a c l):Sl rdFace 2 N a c l:=h.imp fun b o f ⟨r,h1,h2⟩=>⟨r,RdC.mono hv h1,h2.imp fun b o x hx=>rdItem_mono hv b o x hx⟩
theorem slItem_mv {H N:View} (hv:VLe H N) {a:Option Addr} {c:Nat} {l:List FItem} (h:Sl rdItem 4 H a c l):Sl rdItem 4 N a c l:=h.imp fun b o x hx=>rdItem_mono hv b o x hx
theorem en7:Enters Tryz.prog 7:=enters_of Tryz.func7 (by kernel_rfl) rfl
theorem en11:Enters Tryz.prog 11:=enters_of Tryz.func11 (by kernel_rfl) rfl
theorem pl91:placesP Tryz.prog 91=some [(0,5),(5,1),(6,1),(7,1),(8,1)]:=by kernel_rfl
theorem zr91:zeroOf Tryz.prog 91=some (.agg #[st [],.slice none 0 0,.slice none 0 0,.slice none 0 0,.slice none 0 0,.slice none 0 0,.slice none 0 0,.slice none 0 0,.int .i64 0]):=by kernel_rfl
theorem resolveOf_any (H HF:View) (ke ks:Nat) (r:MAt) (m:TMod) (fa:Option Addr) (fc:Nat) (fs:List (List UInt8×List FItem)) (w:World) (hH:Le H w) (hHF:Le HF w) (hm:RdM ke ks H r m) (hmf:Sl rdFace 2 HF fa fc fs) (hb:wM m≤109951162777) :
   Calls Tryz.prog 13 #[.agg (modV m r).toArray,.slice fa fs.length fc] w fun e w'=>∃r:UAt,e = .returned (.tuple #[.agg (unitV (resolveM m fs).1 r).toArray,.int .i64 (resolveM m fs).2])∧Ext w w'∧RdU (ke+1) (ks+1) (nv w w') r (resolveM m fs).1:=by
 have hfcap:=hmf.cap
 have hfmax:=hmf.max
 refine enter Tryz.func13 rfl 141 rfl rfl ?_
 refine CWd (W':=Ws w [] [] [HF,H]) (fun _ e=>by subst e; exact Ws.init (by simp [hHF,hH])) ?_
 refine Cs (Cr ?_)
 refine WL.box (.inl rfl) rfl rfl fun b2=>?_
 refine WL.alloc (.inl rfl) rfl zr42 fun b4=>?_
 refine Lrb 0 (.cells (unitV noUnit noUAt).toArray 42 (0,0)) rfl rfl ?_
 refine V0 (Ya rfl) ?_
 refine Ln (Et (Cs (Cs (Cr ?_))))
 refine V0 (Yda 1 rfl rfl ag27 rfl) ?_
 refine Ld (.inl rfl) rfl en7 rfl (fun r:SP=>.tuple #[.agg #[st (faceM m).1.1,.slice r.1 (faceM m).1.2.length r.2],.int .i64 (faceM m).2]) (fun H r=>Sl rdItem 4 H r.1 r.2 (faceM m).1.2) (fun w hw=>faceOf_any H ke ks r m w (hw.vs _ (by simp)) hm hb) ?_
 intro F18 r18 hf18 h18
 refine V0 (Ym rfl) ?_
 refine V0 (Yx rfl rfl) ?_
 refine V0 (Yx rfl rfl) ?_
 refine WL.alloc (.inl rfl) rfl zr30 fun b6=>?_
 refine Lst 0 (.inl rfl) rfl rfl rfl sz30 rfl rfl rfl ?_
 refine V0 (Ya rfl) ?_
 refine Ln (Et (Cs (Cr ?_)))
 refine V0 (Ym rfl) ?_
 refine V0 (yl_ne rfl rfl) ?_
 refine Ln (Et ?_)
 refine Cc rfl (fun hc0=>?_) (fun hc0=>?_)
 ·
  have he:¬(faceM m).2=0:=by simpa using hc0
  refine Cs (Cr ?_)
  refine V0 (Yb zr42 pl42 rfl rfl) ?_
  refine V0 (Ym rfl) ?_
  refine Lst 1 (.inl rfl) rfl rfl rfl sz42 rfl rfl rfl ?_
  refine V0 (Ya rfl) ?_
  refine Ln (Et (Crt (Er ?_)))
  refine WE.retc2 1 rfl rfl rfl rfl ag42 rfl fun w' hw=>?_
  rw [res_face he]
  exact ⟨noUAt,rfl,hw.fr,noUnit_rd _⟩
 ·
  have he:(faceM m).2=0:=by simpa using hc0
  obtain ⟨hck,hndI,hndU⟩:=face_zero he
  have ho:=mOk hck
  have few:=ho.few
  have xu:=hm.uses.max
  have yu:=hm.uses.cap
  have xp:=hm.procs.max
  have yp:=hm.procs.cap
  have hwM:wM m=1+m.nm.length+wN m.uses+wD m.decls+wP m.procs+wSs m.main:=rfl
  refine Ck (Et (Cs (Cs (Cr ?_))))
  refine V0 (Ym rfl) ?_
  refine V0 (Yn es38 rfl) ?_
  refine V0 (Yf fo27_1 rfl) ?_
  refine V0 (Yd 2 rfl rfl rfl na22) ?_
  refine V0 (Yn es22 rfl) ?_
  refine V0 (yl_ne rfl rfl) ?_
  refine Ln (Et ?_)
  refine Cc rfl (fun hc1=>?_) (fun hc1=>?_)
  ·
   have hcnt:¬fs.length=m.uses.length:=by simp at hc1; omega
   refine Cs (Cr ?_)
   refine V0 (Yb zr42 pl42 rfl rfl) ?_
   refine Lst 1 (.inl rfl) rfl rfl rfl sz42 rfl rfl rfl ?_
   refine V0 (Ya rfl) ?_
   refine Ln (Et (Crt (Er ?_)))
   refine WE.retc2 1 rfl rfl rfl rfl ag42 rfl fun w' hw=>?_
   rw [res_cnt he hcnt]
   exact ⟨noUAt,rfl,hw.fr,noUnit_rd _⟩
  ·
   have hcount:fs.length=m.uses.length:=by simp at hc1; omega
   refine Ck (Et (Cs (Cs (Cr ?_))))
   refine V0 (Ya rfl) ?_
   refine Ln (Et (Cb ?_))
   refine CW (ι:=Nat) (fun i=>[(8,.int .i64 (i:Int))]) [(1,_),(2,_),(4,_)] (fun i=>i≤fs.length∧∀(k:Nat) u f,k<i→m.uses[k]? = some u→fs[k]? = some f→okFace u f=true) (fun i=>fs.length-i) 0 ⟨Nat.zero_le _,fun k u f hk=>absurd hk (Nat.not_lt_zero k)⟩ (sc rfl (sc rfl (sc rfl (sc rfl sn)))) ?_
   intro i ⟨hi,hok⟩
   refine Cs (Cs (Cr ?_))
   refine V0 (Ym rfl) ?_
   refine V0 (Ym rfl) ?_
   refine V0 (Yn es38 rfl) ?_
   refine V0 (yl_lt rfl rfl) ?_
   refine Ln (Et ?_)
   refine Cc rfl (fun hc2=>?_) (fun hc2=>?_)
   ·
    have hlt:i<fs.length:=by simpa using hc2
    obtain ⟨f,hfi⟩:∃f,fs[i]? = some f:=⟨_,List.getElem?_eq_getElem hlt⟩
    obtain ⟨pbf,pof,haf,rf,hrf,hitf⟩:=hmf.elt i f hfi
    obtain ⟨u,hui⟩:∃u,m.uses[i]? = some u:=⟨_,List.getElem?_eq_getElem (by omega)⟩
    obtain ⟨pbu,pou,hau,hru⟩:=hm.uses.elt i u hui
    have hru:RdC H pbu (pou+i*1) (strC u):=hru
    refine Ck (Et (Cs (Cb (Cs ?_))))
    refine WC.draws0 [(0,true),(1,true),(2,true),(3,true),(4,false),(5,true),(6,true),(7,true),(8,true),(9,true),(10,true),(11,true),(12,true),(13,true),(14,true),(15,true),(16,true),(17,true),(18,true)] mixed (by kernel_rfl) (fun _ _ _ d _ h=>by cases d<;>exact h) ?_
    refine Dq rfl (.inl rfl) rfl (fun _ h=>h) (Ym rfl) ?_
    refine Dq rfl (.inl rfl) rfl (fun _ h=>h) (Ym rfl) ?_
    refine Dq rfl (.inl rfl) rfl (fun _ h=>h) (Yo es38 rfl rfl haf (by omega)) ?_
    refine Dq rfl (.inl rfl) rfl (fun _ h=>h) (yl_lda 1 ag30 rfl rfl rfl (hrf)) ?_
    refine De rfl (fun _ h=>h) ?_
    refine Lp (.inl rfl) rfl en11 rfl (fun w hw=>checkFace_any HF rf.1 rf.2 f.1 f.2 w (hw.vs _ (by simp)) hitf) ?_
    refine Ln (Ed ?_)
    refine Dq rfl (.inl rfl) rfl (fun _ h=>h) (yl_ne rfl rfl) ?_
    refine Dq rfl (.inl rfl) rfl (fun _ h=>h) (Ym rfl) ?_
    apply WD.or 11 rfl rfl rfl rfl rfl (.inl rfl) rfl (fun _ h=>h) rfl rfl rfl rfl
    ·
     intro hg0
     refine Dq rfl (.g rfl rfl rfl) rfl (fun _ h=>h) (Ym rfl) ?_
     refine Dq rfl (.g rfl rfl rfl) rfl (fun _ h=>h) (Ym rfl) ?_
     refine Dq rfl (.g rfl rfl rfl) rfl (fun _ h=>h) (Yo es38 rfl rfl haf (by omega)) ?_
     refine Dq rfl (.g rfl rfl rfl) rfl (fun _ h=>h) (Yf fo30_0 rfl) ?_
     refine Dq rfl (.g rfl rfl rfl) rfl (fun _ h=>h) (yl_ld 1 na9 rfl rfl (hrf 0 _ rfl)) ?_
     refine Dq rfl (.g rfl rfl rfl) rfl (fun _ h=>h) (Yf fo27_1 rfl) ?_
     refine Dq rfl (.g rfl rfl rfl) rfl (fun _ h=>h) (Yd 2 rfl rfl rfl na22) ?_
     refine Dq rfl (.g rfl rfl rfl) rfl (fun _ h=>h) (Ym rfl) ?_
     refine Dq rfl (.g rfl rfl rfl) rfl (fun _ h=>h) (Yo es22 rfl rfl hau (by omega)) ?_
     refine Dq rfl (.g rfl rfl rfl) rfl (fun _ h=>h) (yl_ld 2 na9 rfl rfl (hru 0 _ rfl)) ?_
     refine Dq rfl (.g rfl rfl rfl) rfl (fun _ h=>h) (yl_nes rfl rfl) ?_
     exact Gi 11 (fun _ h=>h) rfl rfl rfl
    refine WD.nil (fun _ h=>h) ?_
    refine Et ?_
    refine Cc rfl (fun hc3=>?_) (fun hc3=>?_)
    ·
     have hnf:okFace u f=false:=by
       have h3:(!(faceE f.1 f.2==0)||!(f.1==u))=true:=hc3
       unfold okFace
       revert h3
       cases (faceE f.1 f.2==0)<;>cases (f.1==u)<;>simp
     have hno:facesOk m.uses fs=false:=by
       rw [Bool.eq_false_iff]
       intro h
       have:=facesOk_iff.1 h i u f hui hfi
       rw [hnf] at this; cases this
     refine Cs (Cr ?_)
     refine V0 (Yb zr42 pl42 rfl rfl) ?_
     refine Lst 1 (.inl rfl) rfl rfl rfl sz42 rfl rfl rfl ?_
     refine V0 (Ya rfl) ?_
     refine Ln (Et (Crt (Ebr (Er (Er ?_)))))
     refine Ebr (Er ?_)
     refine WE.retc2 1 rfl rfl rfl rfl ag42 rfl fun w' hw=>?_
     rw [res_faces he hcount hno]
     exact ⟨noUAt,rfl,hw.fr,noUnit_rd _⟩
    ·
     have hof:okFace u f=true:=by
       have h3:(!(faceE f.1 f.2==0)||!(f.1==u))=false:=hc3
       unfold okFace
       revert h3
       cases (faceE f.1 f.2==0)<;>cases (f.1==u)<;>simp
     refine Ck (Eb (Et (Cr ?_)))
     refine V0 (Ym rfl) ?_
     refine V0 (Yi rfl rfl rfl (by omega)) ?_
     refine V0 (Ya rfl) ?_
     refine Ln ?_
     exact Ea (i+1) (by omega) ⟨by omega,fun k u2 f2 hk hu2 hf2=>by
         rcases Nat.lt_succ_iff_lt_or_eq.1 hk with h | rfl
         · exact hok k u2 f2 h hu2 hf2
         · rw [hui] at hu2; rw [hfi] at hf2; injection hu2 with hu2; injection hf2 with hf2; subst hu2; subst hf2; exact hof⟩ (sc rfl (sc rfl (sc rfl (sc rfl sn)))) (fun _ h=>h)
   ·
    have hgi:i=fs.length:=by simp at hc2; omega
    have hfok:facesOk m.uses fs=true:=facesOk_iff.2 fun k u f hu hf=>hok k u f (by have:=(List.getElem?_eq_some_iff.1 hf).1; omega) hu hf
    refine Ce (Ex (Ex (Ebh (Et (Cs ?_)))))
    refine Cr ?_
    refine V0 (Yda 2 rfl rfl ag27 rfl) ?_
    refine Ld (.inl rfl) rfl en21 rfl (fun r:SP×SP=>.tuple #[.slice r.1.1 (itemsM m).length r.1.2,.slice r.2.1 (pubsM m).length r.2.2,.int .i64 (dataM m)]) (fun H r=>Sl rdItem 4 H r.1.1 r.1.2 (itemsM m)∧Sl rdBool 1 H r.2.1 r.2.2 (pubsM m)) (fun w hw=>itemsOf_any H ke ks r m w (hw.vs _ (by simp)) hm ho) ?_
    intro F60 r60 hf60 ⟨h60,h60b⟩
    refine V0 (Ym rfl) ?_
    refine V0 (Yx rfl rfl) ?_
    refine V0 (Yx rfl rfl) ?_
    refine V0 (Yx rfl rfl) ?_
    refine V0 (Ya rfl) ?_
    refine V0 (Ya rfl) ?_
    refine V0 (Ya rfl) ?_
    refine Ln (Et (Cs (Cr ?_)))
    refine V0 (Yda 2 rfl rfl ag27 rfl) ?_
    refine V0 (Ym rfl) ?_
    refine V0 (Ym rfl) ?_
    refine V0 (Yb zr91 pl91 rfl rfl) ?_
    refine WL.box (.inl rfl) rfl rfl fun b68=>?_
    refine Lrb 0 (.cells (rsV m fs [] ⟨r,(fa,fc),r60.1,(none,0)⟩ 0).toArray 91 (0,0)) rfl rfl ?_
    refine WL.vjoin fun J1 j1a j1b _=>?_
    refine WL.vjoin fun J2 j2a j2b _=>?_
    refine WL.vjoin fun HS j3a j3b _=>?_
    have hm2:=rdM_mv hm j3b
    have hmf2:=rdFace_mv (VLe.trans j2b j3a) hmf
    have h60c:=slItem_mv (VLe.trans (VLe.trans j1a j2a) j3a) h60
    refine V0 (Ya rfl) ?_
    refine Ln (Et ?_)
    refine WC.cutE (ι:=SP×Nat) (fun q0=>[(2,.pointer (some ⟨b2,0,none⟩)),(4,.pointer (some ⟨b4,0,none⟩)),(12,.pointer (some ⟨b68,0,none⟩)),(13,.pointer (some ⟨q0.2,0,none⟩))]) (fun q0=>Ws w [] [osT 9 1 strC q0.1.1 q0.1.2 (m.uses),rsB b68 m fs [] ⟨r,(fa,fc),r60.1,(none,0)⟩ (0),blk q0.2 (.cells (partU m q0.1 ([]:List XP).length (none,0)).toArray 42 (0,0)),blk b4 (.cells (unitV noUnit noUAt).toArray 42 (0,0)),blk b2 (.cells (modV m r).toArray 27 (0,0))] [HS]) (fun q0=>True) ?_ ?_
    ·
     refine WC.drawt0 (.q 0 (.q 1 (.q 3 (.q 4 (.q 6 (.e 2 (.e 5 (.q 7 (.e 8 (.e 9 .nil .stop) .stop)) (.e 8 (.e 5 (.q 7 (.e 9 .nil .stop)) .stop) .stop)) (.e 8 (.e 2 (.e 5 (.q 7 (.e 9 .nil .stop)) .stop) .stop) .stop))))))) mixed (by kernel_rfl) (fun _ _ _ d _ h=>by cases d<;>exact h) ?_
     refine WT.q rfl (.inl rfl) rfl (fun _ h=>h) (Yf fo27_0 rfl) ?_
     refine WT.q rfl (.inl rfl) rfl (fun _ h=>h) (Yd 3 rfl rfl rfl na9) ?_
     refine WT.q rfl (.inl rfl) rfl (fun _ h=>h) (Yf fo27_1 rfl) ?_
     refine WT.q rfl (.inl rfl) rfl (fun _ h=>h) (Yd 3 rfl rfl rfl na22) ?_
     refine WT.q rfl (.inl rfl) rfl (fun _ h=>h) (Ym rfl) ?_
     refine WT.e rfl (fun _ h=>h) ?_ ?_
     ·
      refine WL.bslice (.inl rfl) rfl el22 rfl rfl rfl fun b71=>?_
      refine WL.asOsl (size:=1) 0 rfl (Nat.le_refl 0) (Nat.zero_le _) rfl ?_
      refine WL.reosl 0 ([]:List Tx).length (([]:List Tx).flatMap strC) rfl rfl rfl ?_
      refine Ln (Ett ?_)
      refine WT.e rfl (fun _ h=>by have h:=Ws.drop (L:=[_]) (L':=_) h; exact h) ?_ ?_
      ·
       refine WL.appendL (ys:=m.uses) (xs:=[]) 0 (fun _=>HS) (.inl rfl) rfl el22 rfl rfl rfl (fun w hw=>⟨hw.vs HS (by simp),hm2.uses⟩) (fun _ _ _ _ h=>h) strC_len str_one (by simp; omega) (by simp; omega) fun a74 c74=>?_
       refine Ln (Ett ?_)
       refine WT.q rfl (.inl rfl) rfl (fun _ h=>by have h:=Ws.drop (L:=[_]) (L':=_) h; exact h) (Yb zr42 pl42 rfl rfl) ?_
       refine WT.e rfl (fun _ h=>by have h:=Ws.drop (L:=[_]) (L':=_) h; exact h) ?_ WT.stop
       refine WL.alloc (.inl rfl) rfl zr42 fun b13=>?_
       refine Ln (Ett ?_)
       refine WT.e rfl (fun _ h=>by have h:=Ws.drop (L:=[_,_]) (L':=_) h; exact h) ?_ WT.stop
       refine Lst 0 (.inl rfl) rfl rfl rfl sz42 rfl rfl rfl ?_
       refine Ln (Ett ?_)
       refine WT.nil (fun _ h=>by have h:=Ws.drop (L:=[_,_]) (L':=_) h; exact h) ?_
       exact WE.meetE ((a74,c74),b13) trivial (sc rfl (sc rfl (sc rfl (sc rfl sn)))) (fun _ h=>by
         have h:=h.fronti 5 rfl
         have h:=h.fronti 5 rfl
         have h:=h.fronti 2 rfl
         have h:=h.fronti 4 rfl
         have h:=h.fronti 4 rfl
         have h:=Ws.keep (L:=[_,_,_,_,_]) h
         exact h)
      refine WT.e rfl (fun _ h=>by have h:=Ws.drop (L:=[_]) (L':=_) h; exact h) ?_ WT.stop
      refine WL.alloc (.inl rfl) rfl zr42 fun b13=>?_
      refine Ln (Ett ?_)
      refine WT.e rfl (fun _ h=>by have h:=Ws.drop (L:=[_,_]) (L':=_) h; exact h) ?_ WT.stop
      refine WL.appendL (ys:=m.uses) (xs:=[]) 1 (fun _=>HS) (.inl rfl) rfl el22 rfl rfl rfl (fun w hw=>⟨hw.vs HS (by simp),hm2.uses⟩) (fun _ _ _ _ h=>h) strC_len str_one (by simp; omega) (by simp; omega) fun a74 c74=>?_
      refine Ln (Ett ?_)
      refine WT.q rfl (.inl rfl) rfl (fun _ h=>by have h:=Ws.drop (L:=[_,_]) (L':=_) h; exact h) (Yb zr42 pl42 rfl rfl) ?_
      refine WT.e rfl (fun _ h=>by have h:=Ws.drop (L:=[_,_]) (L':=_) h; exact h) ?_ WT.stop
      refine Lst 0 (.inl rfl) rfl rfl rfl sz42 rfl rfl rfl ?_
      refine Ln (Ett ?_)
      refine WT.nil (fun _ h=>by have h:=Ws.drop (L:=[_,_]) (L':=_) h; exact h) ?_
      exact WE.meetE ((a74,c74),b13) trivial (sc rfl (sc rfl (sc rfl (sc rfl sn)))) (fun _ h=>by
        have h:=h.fronti 5 rfl
        have h:=h.fronti 5 rfl
        have h:=h.fronti 2 rfl
        have h:=h.fronti 4 rfl
        have h:=h.fronti 4 rfl
        have h:=Ws.keep (L:=[_,_,_,_,_]) h
        exact h)
     refine WT.e rfl (fun _ h=>h) ?_ WT.stop
     refine WL.alloc (.inl rfl) rfl zr42 fun b13=>?_
     refine Ln (Ett ?_)
     refine WT.e rfl (fun _ h=>by have h:=Ws.drop (L:=[_]) (L':=_) h; exact h) ?_ WT.stop
     refine WL.bslice (.inl rfl) rfl el22 rfl rfl rfl fun b71=>?_
     refine WL.asOsl (size:=1) 0 rfl (Nat.le_refl 0) (Nat.zero_le _) rfl ?_
     refine WL.reosl 0 ([]:List Tx).length (([]:List Tx).flatMap strC) rfl rfl rfl ?_
     refine Ln (Ett ?_)
     refine WT.e rfl (fun _ h=>by have h:=Ws.drop (L:=[_,_]) (L':=_) h; exact h) ?_ WT.stop
     refine WL.appendL (ys:=m.uses) (xs:=[]) 0 (fun _=>HS) (.inl rfl) rfl el22 rfl rfl rfl (fun w hw=>⟨hw.vs HS (by simp),hm2.uses⟩) (fun _ _ _ _ h=>h) strC_len str_one (by simp; omega) (by simp; omega) fun a74 c74=>?_
     refine Ln (Ett ?_)
     refine WT.q rfl (.inl rfl) rfl (fun _ h=>by have h:=Ws.drop (L:=[_,_]) (L':=_) h; exact h) (Yb zr42 pl42 rfl rfl) ?_
     refine WT.e rfl (fun _ h=>by have h:=Ws.drop (L:=[_,_]) (L':=_) h; exact h) ?_ WT.stop
     refine Lst 1 (.inl rfl) rfl rfl rfl sz42 rfl rfl rfl ?_
     refine Ln (Ett ?_)
     refine WT.nil (fun _ h=>by have h:=Ws.drop (L:=[_,_]) (L':=_) h; exact h) ?_
     exact WE.meetE ((a74,c74),b13) trivial (sc rfl (sc rfl (sc rfl (sc rfl sn)))) (fun _ h=>by
       have h:=h.fronti 5 rfl
       have h:=h.fronti 5 rfl
       have h:=h.fronti 3 rfl
       have h:=h.fronti 4 rfl
       have h:=h.fronti 4 rfl
       have h:=Ws.keep (L:=[_,_,_,_,_]) h
       exact h)
    intro ⟨u,b13⟩ _
    refine Cs (Cs ?_)
    refine WC.oslN (rd:=rdStr) 0 rfl (fun _ hk=>by cases hk) strC_len (fun _ _ _ _ h=>h) fun KU fKU hKU=>?_
    refine CWd (fun _ h=>h.osl_nil 65 3) ?_
    refine CWd (fun _ h=>h.v0) ?_
    refine Cr ?_
    refine V0 (Ya rfl) ?_
    refine Ln (Et (Cb ?_))
    refine CK (ι:=GQ) (fun z=>[(14,.int .i64 (z.i:Int))]) [(2,_),(4,_),(12,_),(13,_)] (fun z=>Ws w [] [rsB b68 m fs z.ns ⟨r,(fa,fc),r60.1,z.na⟩ (ers (errP m fs) (m.procs.take z.i)),blk b13 (.cells (partU m u z.es.length (z.a,z.c)).toArray 42 (0,0)),osT 65 3 XP.cells z.a z.c z.es,blk b4 (.cells (unitV noUnit noUAt).toArray 42 (0,0)),blk b2 (.cells (modV m r).toArray 27 (0,0))] [z.J,KU,HS]) (fun z=>z.i≤m.procs.length∧z.es.map (·.1)=(m.procs.take z.i).map (partT m fs)∧(Fresh w z.J∧Xs (SlPt (ke+1) (ks+1)) z.J z.es)) (fun z=>m.procs.length-z.i) ⟨0,[],none,0,v0,[],(none,0)⟩ ⟨Nat.zero_le _,rfl,⟨v0_fresh w,Xs.nil _⟩⟩ (sc rfl (sc rfl (sc rfl (sc rfl (sc rfl sn))))) (fun _ h=>by have h:=h.fronti 4 rfl; have h:=h.fronti 4 rfl; have h:=h.fronti 2 rfl; have h:=h.fronti 4 rfl; have h:=h.fronti 4 rfl; have h:=Ws.drops h (Vs':=[v0,KU,HS]) (by simp); exact h) ?_
    intro z ⟨hi2,hmap2,⟨hfJ2,hX2⟩⟩
    refine Cs (Cs (Cr ?_))
    refine V0 (Ym rfl) ?_
    refine V0 (Yf fo27_3 rfl) ?_
    refine V0 (Yd 4 rfl rfl rfl na24) ?_
    refine V0 (Yn es24 rfl) ?_
    refine V0 (yl_lt rfl rfl) ?_
    refine Ln (Et ?_)
    refine Cc rfl (fun hc4=>?_) (fun hc4=>?_)
    ·
     have hlt:z.i<m.procs.length:=by simpa using hc4
     obtain ⟨p,hpi⟩:∃q,m.procs[z.i]? = some q:=⟨_,List.getElem?_eq_getElem hlt⟩
     obtain ⟨pbp,pop,hap,hrp⟩:=hm2.procs.elt z.i p hpi
     obtain ⟨pa1,pc1,pa2,pc2,pa3,pc3,hrow,hs1,hs2,hs3⟩:=hrp
     have op:=okP (ho.procs p (List.mem_of_getElem? hpi))
     have pfew:=op.few
     have hup:=wP_upto hpi
     have hx1:=hs1.max
     have hy1:=hs1.cap
     have hx2:=hs2.max
     have hy2:=hs2.cap
     have hel2:=map_len hmap2 hi2
     refine Ck (Et (Cs (Cb (Cs (Cr ?_)))))
     refine V0 (Yf fo27_3 rfl) ?_
     refine V0 (Yd 4 rfl rfl rfl na24) ?_
     refine V0 (Ym rfl) ?_
     refine V0 (Yo es24 rfl rfl hap (by omega)) ?_
     refine V0 (yl_lda 2 ag86 rfl rfl rfl (hrow)) ?_
     refine WL.alloc (.inl rfl) rfl zr86 fun b15=>?_
     refine Lst 0 (.inl rfl) rfl rfl rfl sz86 rfl rfl rfl ?_
     refine Ln (Et (Cs ?_))
     refine CU (fun _=>true) [] [8,9,10] (.q false 0 (.q false 2 (.q true 3 (.q false 5 (.q true 6 (.e 1 (.e 4 (.e 7 .nil .stop) .stop) .stop)))))) mixed (by kernel_rfl) (fun _ _ _ d _ _ h=>by cases d<;>exact h) ?_
     refine Uq rfl (.inl rfl) rfl (fun _ h=>h) (Ym rfl) ?_
     refine Uq rfl (.inl rfl) rfl (fun _ h=>h) (Yf fo86_2 rfl) ?_
     refine Uq rfl (.inl rfl) rfl (fun _ h=>h) (Yd 0 rfl rfl rfl na22) ?_
     refine Uq rfl (.inl rfl) rfl (fun _ h=>h) (Yf fo86_3 rfl) ?_
     refine Uq rfl (.inl rfl) rfl (fun _ h=>h) (Yd 0 rfl rfl rfl na22) ?_
     refine Ue rfl (fun _ h=>h) ?_ WU.stop
     refine WL.bslice (.inl rfl) rfl el22 rfl rfl rfl fun b90=>?_
     refine WL.asOsl (size:=1) 0 rfl (Nat.le_refl 0) (Nat.zero_le _) rfl ?_
     refine WL.reosl 0 ([]:List Tx).length (([]:List Tx).flatMap strC) rfl rfl rfl ?_
     refine Ln (Eu ?_)
     refine Ue rfl (fun _ h=>by have h:=Ws.drop (L:=[_]) (L':=_) h; exact h) ?_ WU.stop
     refine WL.appendL (ys:=p.params) (xs:=[]) 0 (fun _=>HS) (.inl rfl) rfl el22 rfl rfl rfl (fun w hw=>⟨hw.vs HS (by simp),hs1⟩) (fun _ _ _ _ h=>h) strC_len str_one (by simp; omega) (by simp; omega) fun a93 c93=>?_
     refine Ln (Eu ?_)
     refine Ue rfl (fun _ h=>by have h:=Ws.drop (L:=[_]) (L':=_) h; exact h) ?_ WU.stop
     refine WL.appendL (ys:=p.locs) (xs:=[]++p.params) 0 (fun _=>HS) (.inl rfl) rfl el22 rfl rfl rfl (fun w hw=>⟨hw.vs HS (by simp),hs2⟩) (fun _ _ _ _ h=>h) strC_len str_one (by simp; omega) (by simp; omega) fun a96 c96=>?_
     refine Ln (Eu ?_)
     refine WU.nil (fun _ h=>by have h:=Ws.drop (L:=[_]) (L':=_) h; exact h) ?_
     refine WS.e rfl ?_
     refine V0 (yl_nil rfl) ?_
     refine Ln (Es ?_)
     refine WS.e rfl ?_
     refine V0 (Yf fo91_3 rfl) ?_
     refine Ln (Es ?_)
     refine WS.e rfl ?_
     refine Lst 2 (.inl rfl) rfl rfl rfl sz22 rfl rfl rfl ?_
     refine Ln (Es ?_)
     refine WS.nil ?_
     refine Et ?_
     refine WC.oslview (rd:=rdStr) 0 rfl strC_len (fun _ _ _ _ h=>h) fun HA hHA=>?_
     have hHA:Sl rdStr 1 HA a96 c96 (p.params++p.locs):=hHA
     refine CWd (fun _ h=>Ws.drops h (Vs':=[HA,HS,z.J,KU,HS]) (by simp)) ?_
     refine WC.vjoin fun HQ k1a k1b _=>?_
     have hHA2:=slStr_mv hHA k1a
     have hrz:RsIn HQ m fs (p.params++p.locs) ⟨r,(fa,fc),r60.1,(a96,c96)⟩:=rsIn_of (H:=H) (HF:=HF) (F:=H) (rdM_mv hm2 k1b) (rdFace_mv k1b hmf2) (slItem_mv k1b h60c) hHA2 hcount
     have hs3q:Sl (RdS ke ks) 6 HQ pa3 pc3 p.body:=hs3.imp fun b o x hx=>RdS_mono k1b (Nat.le_refl _) (Nat.le_refl _) b o x hx
     refine Crb 1 (.cells (rsV m fs (p.params++p.locs) ⟨r,(fa,fc),r60.1,(a96,c96)⟩ (ers (errP m fs) (m.procs.take z.i))).toArray 91 (0,0)) rfl rfl ?_
     refine WC.cutE (ι:=Unit) (fun _u=>[(2,.pointer (some ⟨b2,0,none⟩)),(4,.pointer (some ⟨b4,0,none⟩)),(12,.pointer (some ⟨b68,0,none⟩)),(13,.pointer (some ⟨b13,0,none⟩)),(14,.int .i64 (z.i:Int)),(15,.pointer (some ⟨b15,0,none⟩))]) (fun _u=>Ws w [] [rsB b68 m fs (p.params++p.locs) ⟨r,(fa,fc),r60.1,(a96,c96)⟩ (er (ers (errP m fs) (m.procs.take z.i)) (if twiceB (p.params++p.locs)=true then 6 else 0)),blk b13 (.cells (partU m u z.es.length (z.a,z.c)).toArray 42 (0,0)),osT 65 3 XP.cells z.a z.c z.es,blk b15 (.cells (procV p pa1 pc1 pa2 pc2 pa3 pc3).toArray 86 (0,0)),blk b4 (.cells (unitV noUnit noUAt).toArray 42 (0,0)),blk b2 (.cells (modV m r).toArray 27 (0,0))] [HQ,z.J,KU,HS]) (fun _u=>True) ?_ ?_
     ·
      refine Cs (Cr ?_)
      refine V0 (Ym rfl) ?_
      refine V0 (yl_nil rfl) ?_
      refine V0 (Yf fo91_3 rfl) ?_
      refine V0 (Yd 1 rfl rfl rfl na22) ?_
      refine Lp (.inl rfl) rfl en22 rfl (fun w hw=>twice_any HQ a96 c96 (p.params++p.locs) w (hw.vs _ (by simp)) hHA2) ?_
      refine Ln (Et ?_)
      refine Cc rfl (fun hc5=>?_) (fun hc5=>?_)
      ·
       have h6:twiceB (p.params++p.locs)=true:=hc5
       refine Cr ?_
       refine V0 (Ym rfl) ?_
       refine Lf 1 rfl ?_
       refine WL.callw0 [_] _ [rsB b68 m fs (p.params++p.locs) ⟨r,(fa,fc),r60.1,(a96,c96)⟩ (er (ers (errP m fs) (m.procs.take z.i)) 6)] (.inl rfl) rfl en37 rfl rfl [HQ] (by simp) (fun w hw=>rsFail_any HQ b68 m fs (p.params++p.locs) ⟨r,(fa,fc),r60.1,(a96,c96)⟩ (ers (errP m fs) (m.procs.take z.i)) 6 w hw) ?_
       refine Ln ?_
       refine WE.reblk 0 (.cells (rsV m fs (p.params++p.locs) ⟨r,(fa,fc),r60.1,(a96,c96)⟩ (er (ers (errP m fs) (m.procs.take z.i)) (if twiceB (p.params++p.locs)=true then 6 else 0))).toArray 91 (0,0)) rfl (by rw [h6]<;>first | rfl | (simp only [Bool.false_eq_true,if_false,if_true,er_r])) ?_
       exact WE.meetE () trivial (sc rfl (sc rfl (sc rfl (sc rfl (sc rfl (sc rfl sn)))))) (fun _ h=>by
         have h:=h.fronti 5 rfl
         have h:=h.fronti 5 rfl
         have h:=h.fronti 3 rfl
         have h:=h.fronti 5 rfl
         have h:=h.fronti 5 rfl
         have h:=h.fronti 5 rfl
         exact h)
      ·
       have h6:twiceB (p.params++p.locs)=false:=hc5
       refine Ck ?_
       refine WE.reblk 1 (.cells (rsV m fs (p.params++p.locs) ⟨r,(fa,fc),r60.1,(a96,c96)⟩ (er (ers (errP m fs) (m.procs.take z.i)) (if twiceB (p.params++p.locs)=true then 6 else 0))).toArray 91 (0,0)) rfl (by rw [h6]<;>first | rfl | (simp only [Bool.false_eq_true,if_false,if_true,er_r])) ?_
       exact WE.meetE () trivial (sc rfl (sc rfl (sc rfl (sc rfl (sc rfl (sc rfl sn)))))) (fun _ h=>by
         have h:=h.fronti 5 rfl
         have h:=h.fronti 5 rfl
         have h:=h.fronti 2 rfl
         have h:=h.fronti 5 rfl
         have h:=h.fronti 5 rfl
         have h:=h.fronti 5 rfl
         exact h)
     intro _ _
     refine CU (fun _=>true) [2,0] [15,16] (.q false 0 (.q true 1 (.q false 2 (.q true 3 (.q false 4 (.q false 5 (.q true 6 (.q false 7 (.q false 8 (.q false 9 (.q true 10 (.e 11 (.q false 12 (.e 13 (.e 14 .nil .stop) .stop)) .stop)))))))))))) mixed (by kernel_rfl) (fun _ _ _ d _ _ h=>by cases d<;>exact h) ?_
     refine Uq rfl (.inl rfl) rfl (fun _ h=>by have h:=Ws.out 2 h; have h:=Ws.out 0 h; exact h) (Yf fo42_3 rfl) ?_
     refine Uq rfl (.inl rfl) rfl (fun _ h=>by have h:=Ws.out 2 h; have h:=Ws.out 0 h; exact h) (Yd 0 rfl rfl rfl na39) ?_
     refine Uq rfl (.inl rfl) rfl (fun _ h=>by have h:=Ws.out 2 h; have h:=Ws.out 0 h; exact h) (Yf fo86_2 rfl) ?_
     refine Uq rfl (.inl rfl) rfl (fun _ h=>by have h:=Ws.out 2 h; have h:=Ws.out 0 h; exact h) (Yd 1 rfl rfl rfl na22) ?_
     refine Uq rfl (.inl rfl) rfl (fun _ h=>by have h:=Ws.out 2 h; have h:=Ws.out 0 h; exact h) (Yn es22 rfl) ?_
     refine Uq rfl (.inl rfl) rfl (fun _ h=>by have h:=Ws.out 2 h; have h:=Ws.out 0 h; exact h) (Yf fo86_3 rfl) ?_
     refine Uq rfl (.inl rfl) rfl (fun _ h=>by have h:=Ws.out 2 h; have h:=Ws.out 0 h; exact h) (Yd 1 rfl rfl rfl na22) ?_
     refine Uq rfl (.inl rfl) rfl (fun _ h=>by have h:=Ws.out 2 h; have h:=Ws.out 0 h; exact h) (Yn es22 rfl) ?_
     refine Uq rfl (.inl rfl) rfl (fun _ h=>by have h:=Ws.out 2 h; have h:=Ws.out 0 h; exact h) (Ym rfl) ?_
     refine Uq rfl (.inl rfl) rfl (fun _ h=>by have h:=Ws.out 2 h; have h:=Ws.out 0 h; exact h) (Yf fo86_4 rfl) ?_
     refine Uq rfl (.inl rfl) rfl (fun _ h=>by have h:=Ws.out 2 h; have h:=Ws.out 0 h; exact h) (Yd 1 rfl rfl rfl na25) ?_
     refine Ue rfl (fun _ h=>by have h:=Ws.out 2 h; have h:=Ws.out 0 h; exact h) ?_ WU.stop
     refine Lf 0 rfl ?_
     refine Lwd (ι:=SP) [_] _ (.inl rfl) rfl en38 rfl rfl (fun r=>.slice r.1 (actsT (scpM m fs (p.params++p.locs)) p.body).length r.2) (fun _=>[rsB b68 m fs (p.params++p.locs) ⟨r,(fa,fc),r60.1,(a96,c96)⟩ (er (er (ers (errP m fs) (m.procs.take z.i)) (if twiceB (p.params++p.locs)=true then 6 else 0)) (errSs (scpM m fs (p.params++p.locs)) p.body))]) (fun F r=>Sl (RdA (ke+1) (ks+1)) 7 F r.1 r.2 (actsT (scpM m fs (p.params++p.locs)) p.body)) ([HQ]) (by simp) (fun _ _ h=>h) (fun w hw=>rsBlock_any HQ b68 m fs (p.params++p.locs) ⟨r,(fa,fc),r60.1,(a96,c96)⟩ (er (ers (errP m fs) (m.procs.take z.i)) (if twiceB (p.params++p.locs)=true then 6 else 0)) ke hrz ks p.body pa3 pc3 w hs3q (by omega) hw) ?_
     intro F117 r117 hfr117 h117
     refine Ln (Eu ?_)
     refine Uq rfl (.inl rfl) rfl (fun _ h=>by have h:=Ws.out 2 h; have h:=Ws.out 0 h; have h:=Ws.drops h (fun _ hm=>List.mem_append_right [_] hm); exact h) (Yb zr65 pl65 rfl rfl) ?_
     refine Ue rfl (fun _ h=>by have h:=Ws.out 2 h; have h:=Ws.out 0 h; have h:=Ws.drops h (fun _ hm=>List.mem_append_right [_] hm); exact h) ?_ WU.stop
     refine Lb (.inl rfl) rfl el39 rfl rfl rfl rfl fun b119=>?_
     refine Lrb 0 (.cells (XP.cells (partT m fs p,r117)).toArray 65 (0,0)) rfl (rfl) ?_
     refine Ln (Eu ?_)
     refine Ue rfl (fun _ h=>by have h:=Ws.drop (L:=[_]) (L':=_) h; have h:=Ws.out 2 h; have h:=Ws.out 0 h; have h:=Ws.drops h (fun _ hm=>List.mem_append_right [_] hm); exact h) ?_ WU.stop
     refine LA (((partT m fs p,r117):XP)) 3 0 (.inl rfl) rfl el39 rfl rfl rfl rfl rfl rfl (by omega) (by omega) fun a120 c120=>?_
     refine Ln (Eu ?_)
     refine WU.nil (fun _ h=>by have h:=Ws.drop (L:=[_]) (L':=_) h; have h:=Ws.out 2 h; have h:=Ws.out 0 h; have h:=Ws.drops h (fun _ hm=>List.mem_append_right [_] hm); exact h) ?_
     refine WS.e rfl ?_
     refine V0 (Yf fo42_3 rfl) ?_
     refine Ln (Es ?_)
     refine WS.e rfl ?_
     refine Lst 2 (.inl rfl) rfl rfl rfl sz39 rfl rfl rfl ?_
     refine Ln (Es ?_)
     refine WS.nil ?_
     refine Eb (Et ?_)
     refine CWd (fun _ h=>Ws.drops h (Vs':=[F117,z.J,KU,HS]) (by simp)) ?_
     refine WC.vjoin fun J117 j117a j117b j117f=>?_
     refine Cr ?_
     refine V0 (Ym rfl) ?_
     refine V0 (Yi rfl rfl rfl (by omega)) ?_
     refine V0 (Ya rfl) ?_
     refine Ln ?_
     rw [er_assoc,show er (if twiceB (p.params++p.locs)=true then 6 else 0) (errSs (scpM m fs (p.params++p.locs)) p.body)=errP m fs p from rfl,←ers_take (errP m fs) hpi]
     exact Ea (⟨z.i+1,z.es++[(partT m fs p,r117)],a120,c120,J117,(p.params++p.locs),(a96,c96)⟩:GQ) (by show _-(z.i+1)<_; omega) ⟨(by show z.i+1≤_; omega),map_snoc hmap2 hpi rfl,⟨j117f _ hfr117 hfJ2,Xs.snoc (R:=SlPt _ _) (fun hv h=>SlPt.mv hv h) hX2 j117b j117a h117⟩⟩ (sc rfl (sc rfl (sc rfl (sc rfl (sc rfl sn))))) (fun _ h=>by have h:=h.fronti 6 rfl; have h:=h.fronti 6 rfl; have h:=h.fronti 5 rfl; have h:=h.fronti 5 rfl; have h:=h.fronti 5 rfl; have h:=Ws.keep (L:=[_,_,_,_,_]) h; exact h)
    ·
     have hqi:z.i=m.procs.length:=by simp at hc4; omega
     have hall2:=map_all hmap2 hqi
     have hers3:ers (errP m fs) (m.procs.take z.i)=ers (errP m fs) m.procs:=by rw [hqi,List.take_length]
     have hU:unitT m fs=⟨m.nm,m.uses,dataM m,z.es.map (·.1),actsT (scpM m fs []) m.main⟩:=by rw [hall2]; rfl
     refine Ce (Ex (Ex (Ebh (Et (Cs ?_)))))
     refine Cr ?_
     refine V0 (Ym rfl) ?_
     refine V0 (yl_nil rfl) ?_
     refine V0 (Yf fo91_3 rfl) ?_
     refine Lst 0 (.inl rfl) rfl rfl rfl sz22 rfl rfl rfl ?_
     refine Ln (Et (Cs ?_))
     refine Crb 0 (.cells (rsV m fs [] ⟨r,(fa,fc),r60.1,(none,0)⟩ (ers (errP m fs) (m.procs.take z.i))).toArray 91 (0,0)) rfl rfl ?_
     rw [hers3]
     refine Cr ?_
     refine V0 (Ym rfl) ?_
     refine V0 (Yf fo27_4 rfl) ?_
     refine V0 (Yd 4 rfl rfl rfl na25) ?_
     refine Lf 0 rfl ?_
     refine Lwd (ι:=SP) [_] _ (.inl rfl) rfl en38 rfl rfl (fun r=>.slice r.1 (actsT (scpM m fs []) m.main).length r.2) (fun _=>[rsB b68 m fs [] ⟨r,(fa,fc),r60.1,(none,0)⟩ (er (ers (errP m fs) m.procs) (errSs (scpM m fs []) m.main))]) (fun F r=>Sl (RdA (ke+1) (ks+1)) 7 F r.1 r.2 (actsT (scpM m fs []) m.main)) ([HS]) (by simp) (fun _ _ h=>h) (fun w hw=>rsBlock_any HS b68 m fs [] ⟨r,(fa,fc),r60.1,(none,0)⟩ (ers (errP m fs) m.procs) ke (rsIn_of (H:=H) (HF:=HF) (F:=H) hm2 hmf2 h60c Sl.nil hcount) ks m.main r.a4 r.c4 w hm2.main (by omega) hw) ?_
     intro F128 r128 hfr128 h128
     refine V0 (Yf fo42_4 rfl) ?_
     refine Lst 1 (.inl rfl) rfl rfl rfl sz40 rfl rfl rfl ?_
     refine Ln (Et (Cs (Cs (Cr ?_))))
     refine V0 (Ym rfl) ?_
     refine V0 (yl_nil rfl) ?_
     refine V0 (Yf fo91_4 rfl) ?_
     refine V0 (Yd 0 rfl rfl rfl na31) ?_
     refine V0 (yl_ne rfl rfl) ?_
     refine Ln (Et ?_)
     refine Cc rfl (fun hc6=>?_) (fun hc6=>?_)
     ·
      have hE:errU m fs≠0:=by unfold errU; simpa using hc6
      refine Cs ?_
      refine WC.draws1 3 [(0,true),(1,true),(2,true),(3,true),(4,true),(5,false),(6,false)] mixed (by kernel_rfl) (fun _ _ _ d _ h=>by cases d<;>exact h) ?_
      refine Dq rfl (.inl rfl) rfl (fun _ h=>by have h:=Ws.out 3 h; exact h) (Yb zr42 pl42 rfl rfl) ?_
      refine Dq rfl (.inl rfl) rfl (fun _ h=>by have h:=Ws.out 3 h; exact h) (Ym rfl) ?_
      refine Dq rfl (.inl rfl) rfl (fun _ h=>by have h:=Ws.out 3 h; exact h) (yl_nil rfl) ?_
      refine Dq rfl (.inl rfl) rfl (fun _ h=>by have h:=Ws.out 3 h; exact h) (Yf fo91_4 rfl) ?_
      refine Dq rfl (.inl rfl) rfl (fun _ h=>by have h:=Ws.out 3 h; exact h) (Yd 0 rfl rfl rfl na31) ?_
      refine De rfl (fun _ h=>by have h:=Ws.out 3 h; exact h) ?_
      refine Lst 3 (.inl rfl) rfl rfl rfl sz42 rfl rfl rfl ?_
      refine Ln (Ed ?_)
      refine De rfl (fun _ h=>by have h:=Ws.out 3 h; exact h) ?_
      refine V0 (Ya rfl) ?_
      refine Ln (Ed ?_)
      refine WD.nil (fun _ h=>by have h:=Ws.out 3 h; exact h) ?_
      refine Et (Crt (Er ?_))
      refine WE.retc2 3 rfl rfl rfl rfl ag42 rfl fun w' hw=>?_
      rw [res_err he hcount hfok hE]
      exact ⟨noUAt,rfl,hw.fr,noUnit_rd _⟩
     ·
      have hE:errU m fs=0:=by unfold errU; simpa using hc6
      refine Ck (Et (Cs ?_))
      refine WC.oslN (rd:=rdXP) 2 rfl (fun _ hk=>by cases hk) XP.cells_len (fun _ _ _ _ h=>h) fun KP fKP hKP=>?_
      refine Crb 1 (.cells (unitV (unitT m fs) ⟨u,(z.a,z.c),r128⟩).toArray 42 (0,0)) rfl (by rw [hU]; show Obj.cells _ _ _=Obj.cells (unitV _ _).toArray _ _; simp only [unitV,List.length_map]; rfl) ?_
      refine Cr ?_
      refine V0 (Yda 1 rfl rfl ag42 rfl) ?_
      refine Lst 2 (.inl rfl) rfl rfl rfl sz42 rfl rfl rfl ?_
      refine V0 (Ya rfl) ?_
      refine Ln (Et (Crt ?_))
      refine WE.retc2 2 rfl rfl rfl rfl ag42 rfl fun w' hw=>?_
      rw [res_ok he hcount hfok hE]
      exact ⟨⟨u,(z.a,z.c),r128⟩,rfl,hw.fr,⟨slStr_mv hKU (nv_vs hw (by simp) fKU),by rw [hU]; exact slPt_of hKP (nv_vs hw (by simp) fKP) (nv_vs hw (by simp) hfJ2) hX2,slA_mv h128 (nv_vs hw (by simp) hfr128)⟩⟩
end Go.Proofs.YtinnlppbkhhoiaaGreatDoor
end
section
namespace Go.Proofs.YtinnlppbkhhoiaaGreatDoor
open Go.Bw
set_option linter.unusedVariables false
set_option linter.unusedSimpArgs false
theorem es66:elemSz Tryz.prog 66=some 5:=by kernel_rfl
theorem na66:nonAgg Tryz.prog 66=true:=by kernel_rfl
theorem en59:Enters Tryz.prog 59:=enters_of Tryz.func59 (by kernel_rfl) rfl
theorem es40:elemSz Tryz.prog 40=some 7:=by kernel_rfl
theorem fo68_0:fieldOff Tryz.prog 68 0=some 0:=by kernel_rfl
theorem na40:nonAgg Tryz.prog 40=true:=by kernel_rfl
theorem en40:Enters Tryz.prog 40:=enters_of Tryz.func40 (by kernel_rfl) rfl
theorem fo42_0:fieldOff Tryz.prog 42 0=some 0:=by kernel_rfl
theorem fo42_1:fieldOff Tryz.prog 42 1=some 1:=by kernel_rfl
theorem en39:Enters Tryz.prog 39:=enters_of Tryz.func39 (by kernel_rfl) rfl
theorem fo42_2:fieldOff Tryz.prog 42 2=some 2:=by kernel_rfl
theorem es39:elemSz Tryz.prog 39=some 3:=by kernel_rfl
theorem fo65_0:fieldOff Tryz.prog 65 0=some 0:=by kernel_rfl
theorem fo65_1:fieldOff Tryz.prog 65 1=some 1:=by kernel_rfl
theorem fo65_2:fieldOff Tryz.prog 65 2=some 2:=by kernel_rfl
theorem sameNodes_eq (H1 H2:View) (a1 a2:Option Addr) (c1 c2:Nat) (k j:Nat) (l:List TNode) (w:World) (hH1:Le H1 w) (hH2:Le H2 w) (hm1:Sl (RdN k) 5 H1 a1 c1 l) (hm2:Sl (RdN j) 5 H2 a2 c2 l) :
   Calls Tryz.prog 59 #[.slice a1 l.length c1,.slice a2 l.length c2] w fun e w'=>e = .returned (.bool true)∧Ext w w':=by
 induction k using Nat.strongRecOn generalizing j a1 c1 a2 c2 l w
 rename_i k ih
 have hcap1:=hm1.cap
 have hmax1:=hm1.max
 have hcap2:=hm2.cap
 have hmax2:=hm2.max
 refine enter Tryz.func59 rfl 81 rfl rfl ?_
 refine CWd (W':=Ws w [] [] [H1,H2]) (fun _ e=>by subst e; exact Ws.init (by simp [hH1,hH2])) ?_
 refine Cs (Cr ?_)
 refine V0 (Ya rfl) ?_
 refine Ln (Et (Cs (Cs (Cr ?_))))
 refine V0 (Ym rfl) ?_
 refine V0 (Yn es66 rfl) ?_
 refine V0 (Ym rfl) ?_
 refine V0 (Yn es66 rfl) ?_
 refine V0 (yl_neY rfl rfl rfl) ?_
 refine Ln (Et ?_)
 refine WC.condf rfl ?_
 refine Ck (Et (Cs (Cs (Cr ?_))))
 refine V0 (Ya rfl) ?_
 refine Ln (Et (Cb ?_))
 refine CW (ι:=Nat) (fun i=>[(5,.int .i64 (i:Int))]) [(0,_),(1,_)] (fun i=>i≤l.length) (fun i=>l.length-i) 0 (Nat.zero_le _) (sc rfl (sc rfl (sc rfl sn))) ?_
 intro i hi
 refine Cs (Cs (Cr ?_))
 refine V0 (Ym rfl) ?_
 refine V0 (Ym rfl) ?_
 refine V0 (Yn es66 rfl) ?_
 refine V0 (yl_lt rfl rfl) ?_
 refine Ln (Et ?_)
 refine Cc rfl (fun hc1=>?_) (fun hc1=>?_)
 ·
  have hlt:i<l.length:=by simpa using hc1
  obtain ⟨x,hx⟩:∃x,l[i]? = some x:=⟨_,List.getElem?_eq_getElem hlt⟩
  obtain ⟨pb,po,ha1,hr1⟩:=hm1.elt i x hx
  obtain ⟨qb,qo,ha2,hr2⟩:=hm2.elt i x hx
  obtain ⟨k2,rfl⟩:∃k2,k=k2+1:=by
    cases k with
    | zero=>exact hr1.elim
    | succ k2=>exact ⟨k2,rfl⟩
  obtain ⟨j2,rfl⟩:∃k2,j=k2+1:=by
    cases j with
    | zero=>exact hr2.elim
    | succ k2=>exact ⟨k2,rfl⟩
  obtain ⟨u1,n1,hr1,hs1⟩:=hr1
  obtain ⟨u2,n2,hr2,hs2⟩:=hr2
  refine Ck (Et (Cs (Cb (Cs ?_))))
  refine WC.draws0 [(0,true),(1,true),(2,true),(3,true),(4,true),(5,true),(6,true),(7,true),(8,true),(9,true),(10,true),(11,true),(12,true),(13,true),(14,true),(15,true),(16,true),(17,true),(18,true),(19,true),(20,true),(21,true),(22,true),(23,true),(24,true),(25,true),(26,true),(27,true),(28,true),(29,true),(30,true),(31,true),(32,true),(33,true),(34,true),(35,true),(36,true),(37,true),(38,true),(39,true),(40,true),(41,true),(42,true),(43,true),(44,true),(45,true),(46,true),(47,true),(48,true),(49,true),(50,true),(51,true),(52,true),(53,true),(54,true),(55,true),(56,true),(57,true),(58,true),(59,true),(60,true),(61,false),(62,true),(63,true)] mixed (by kernel_rfl) (fun _ _ _ d _ h=>by cases d<;>exact h) ?_
  refine Dq rfl (.inl rfl) rfl (fun _ h=>h) (Ym rfl) ?_
  refine Dq rfl (.inl rfl) rfl (fun _ h=>h) (Ym rfl) ?_
  refine Dq rfl (.inl rfl) rfl (fun _ h=>h) (Yo es66 rfl rfl ha1 (by omega)) ?_
  refine Dq rfl (.inl rfl) rfl (fun _ h=>h) (Yf fo158_0 rfl) ?_
  refine Dq rfl (.inl rfl) rfl (fun _ h=>h) (yl_ld 0 na3 rfl rfl (hr1 0 _ rfl)) ?_
  refine Dq rfl (.inl rfl) rfl (fun _ h=>h) (Ym rfl) ?_
  refine Dq rfl (.inl rfl) rfl (fun _ h=>h) (Ym rfl) ?_
  refine Dq rfl (.inl rfl) rfl (fun _ h=>h) (Yo es66 rfl rfl ha2 (by omega)) ?_
  refine Dq rfl (.inl rfl) rfl (fun _ h=>h) (Yf fo158_0 rfl) ?_
  refine Dq rfl (.inl rfl) rfl (fun _ h=>h) (yl_ld 1 na3 rfl rfl (hr2 0 _ rfl)) ?_
  refine Dq rfl (.inl rfl) rfl (fun _ h=>h) (yl_neY rfl rfl rfl) ?_
  refine Dq rfl (.inl rfl) rfl (fun _ h=>h) (Ym rfl) ?_
  apply WD.or 11 (x:=false) rfl rfl rfl rfl rfl (.inl rfl) rfl (fun _ h=>h) rfl rfl rfl rfl
  ·
   intro hg0
   refine Dq rfl (.g rfl rfl rfl) rfl (fun _ h=>h) (Ym rfl) ?_
   refine Dq rfl (.g rfl rfl rfl) rfl (fun _ h=>h) (Ym rfl) ?_
   refine Dq rfl (.g rfl rfl rfl) rfl (fun _ h=>h) (Yo es66 rfl rfl ha1 (by omega)) ?_
   refine Dq rfl (.g rfl rfl rfl) rfl (fun _ h=>h) (Yf fo158_1 rfl) ?_
   refine Dq rfl (.g rfl rfl rfl) rfl (fun _ h=>h) (yl_ld 0 na3 rfl rfl (hr1 1 _ rfl)) ?_
   refine Dq rfl (.g rfl rfl rfl) rfl (fun _ h=>h) (Ym rfl) ?_
   refine Dq rfl (.g rfl rfl rfl) rfl (fun _ h=>h) (Ym rfl) ?_
   refine Dq rfl (.g rfl rfl rfl) rfl (fun _ h=>h) (Yo es66 rfl rfl ha2 (by omega)) ?_
   refine Dq rfl (.g rfl rfl rfl) rfl (fun _ h=>h) (Yf fo158_1 rfl) ?_
   refine Dq rfl (.g rfl rfl rfl) rfl (fun _ h=>h) (yl_ld 1 na3 rfl rfl (hr2 1 _ rfl)) ?_
   refine Dq rfl (.g rfl rfl rfl) rfl (fun _ h=>h) (yl_neY rfl rfl rfl) ?_
   exact Gi 11 (fun _ h=>h) rfl rfl rfl
  refine Dq rfl (.inl rfl) rfl (fun _ h=>h) (Ym rfl) ?_
  apply WD.or 11 (x:=false) rfl rfl rfl rfl rfl (.inl rfl) rfl (fun _ h=>h) rfl rfl rfl rfl
  ·
   intro hg1
   refine Dq rfl (.g rfl rfl rfl) rfl (fun _ h=>h) (Ym rfl) ?_
   refine Dq rfl (.g rfl rfl rfl) rfl (fun _ h=>h) (Ym rfl) ?_
   refine Dq rfl (.g rfl rfl rfl) rfl (fun _ h=>h) (Yo es66 rfl rfl ha1 (by omega)) ?_
   refine Dq rfl (.g rfl rfl rfl) rfl (fun _ h=>h) (Yf fo158_2 rfl) ?_
   refine Dq rfl (.g rfl rfl rfl) rfl (fun _ h=>h) (yl_ld 0 na3 rfl rfl (hr1 2 _ rfl)) ?_
   refine Dq rfl (.g rfl rfl rfl) rfl (fun _ h=>h) (Ym rfl) ?_
   refine Dq rfl (.g rfl rfl rfl) rfl (fun _ h=>h) (Ym rfl) ?_
   refine Dq rfl (.g rfl rfl rfl) rfl (fun _ h=>h) (Yo es66 rfl rfl ha2 (by omega)) ?_
   refine Dq rfl (.g rfl rfl rfl) rfl (fun _ h=>h) (Yf fo158_2 rfl) ?_
   refine Dq rfl (.g rfl rfl rfl) rfl (fun _ h=>h) (yl_ld 1 na3 rfl rfl (hr2 2 _ rfl)) ?_
   refine Dq rfl (.g rfl rfl rfl) rfl (fun _ h=>h) (yl_neY rfl rfl rfl) ?_
   exact Gi 11 (fun _ h=>h) rfl rfl rfl
  refine Dq rfl (.inl rfl) rfl (fun _ h=>h) (Ym rfl) ?_
  apply WD.or 11 (x:=false) rfl rfl rfl rfl rfl (.inl rfl) rfl (fun _ h=>h) rfl rfl rfl rfl
  ·
   intro hg2
   refine Dq rfl (.g rfl rfl rfl) rfl (fun _ h=>h) (Ym rfl) ?_
   refine Dq rfl (.g rfl rfl rfl) rfl (fun _ h=>h) (Ym rfl) ?_
   refine Dq rfl (.g rfl rfl rfl) rfl (fun _ h=>h) (Yo es66 rfl rfl ha1 (by omega)) ?_
   refine Dq rfl (.g rfl rfl rfl) rfl (fun _ h=>h) (Yf fo158_3 rfl) ?_
   refine Dq rfl (.g rfl rfl rfl) rfl (fun _ h=>h) (yl_ld 0 na3 rfl rfl (hr1 3 _ rfl)) ?_
   refine Dq rfl (.g rfl rfl rfl) rfl (fun _ h=>h) (Ym rfl) ?_
   refine Dq rfl (.g rfl rfl rfl) rfl (fun _ h=>h) (Ym rfl) ?_
   refine Dq rfl (.g rfl rfl rfl) rfl (fun _ h=>h) (Yo es66 rfl rfl ha2 (by omega)) ?_
   refine Dq rfl (.g rfl rfl rfl) rfl (fun _ h=>h) (Yf fo158_3 rfl) ?_
   refine Dq rfl (.g rfl rfl rfl) rfl (fun _ h=>h) (yl_ld 1 na3 rfl rfl (hr2 3 _ rfl)) ?_
   refine Dq rfl (.g rfl rfl rfl) rfl (fun _ h=>h) (yl_neY rfl rfl rfl) ?_
   exact Gi 11 (fun _ h=>h) rfl rfl rfl
  refine Dq rfl (.inl rfl) rfl (fun _ h=>h) (Ym rfl) ?_
  apply WD.or 12 (x:=false) rfl rfl rfl rfl rfl (.inl rfl) rfl (fun _ h=>h) rfl rfl rfl rfl
  ·
   intro hg3
   refine Dq rfl (.g rfl rfl rfl) rfl (fun _ h=>h) (Ym rfl) ?_
   refine Dq rfl (.g rfl rfl rfl) rfl (fun _ h=>h) (Ym rfl) ?_
   refine Dq rfl (.g rfl rfl rfl) rfl (fun _ h=>h) (Yo es66 rfl rfl ha1 (by omega)) ?_
   refine Dq rfl (.g rfl rfl rfl) rfl (fun _ h=>h) (Yf fo158_4 rfl) ?_
   refine Dq rfl (.g rfl rfl rfl) rfl (fun _ h=>h) (yl_ld 0 na66 rfl rfl (hr1 4 _ rfl)) ?_
   refine Dq rfl (.g rfl rfl rfl) rfl (fun _ h=>h) (Ym rfl) ?_
   refine Dq rfl (.g rfl rfl rfl) rfl (fun _ h=>h) (Ym rfl) ?_
   refine Dq rfl (.g rfl rfl rfl) rfl (fun _ h=>h) (Yo es66 rfl rfl ha2 (by omega)) ?_
   refine Dq rfl (.g rfl rfl rfl) rfl (fun _ h=>h) (Yf fo158_4 rfl) ?_
   refine Dq rfl (.g rfl rfl rfl) rfl (fun _ h=>h) (yl_ld 1 na66 rfl rfl (hr2 4 _ rfl)) ?_
   refine De rfl (fun _ h=>h) ?_
   refine Lp (.g rfl rfl rfl) rfl en59 rfl (fun w hw=>ih k2 (by omega) u1 u2 n1 n2 j2 x.args w (hw.vs _ (by simp)) (hw.vs _ (by simp)) hs1 hs2) ?_
   refine Ln (Ed ?_)
   refine Dq rfl (.g rfl rfl rfl) rfl (fun _ h=>h) (yl_not rfl) ?_
   exact Gi 12 (fun _ h=>h) rfl rfl rfl
  refine WD.nil (fun _ h=>h) ?_
  refine Et ?_
  refine WC.condf rfl ?_
  refine Ck (Eb (Et (Cr ?_)))
  refine V0 (Ym rfl) ?_
  refine V0 (Yi rfl rfl rfl (by omega)) ?_
  refine V0 (Ya rfl) ?_
  refine Ln ?_
  exact Ea (i+1) (by omega) (by omega) (sc rfl (sc rfl (sc rfl sn))) (fun _ h=>h)
 ·
  refine Ce (Ex (Ex (Ebh (Et (Cs ?_)))))
  refine Cr ?_
  refine V0 (Ya rfl) ?_
  refine Ln (Et (Crt ?_))
  refine WE.ret1 rfl rfl fun w' hw=>?_
  exact ⟨rfl,hw.fr⟩
theorem sameActs_eq (H1 H2:View) (a1 a2:Option Addr) (c1 c2:Nat) (ke1 ke2 k j:Nat) (l:List TAct) (w:World) (hH1:Le H1 w) (hH2:Le H2 w) (hm1:Sl (RdA ke1 k) 7 H1 a1 c1 l) (hm2:Sl (RdA ke2 j) 7 H2 a2 c2 l) :
   Calls Tryz.prog 40 #[.slice a1 l.length c1,.slice a2 l.length c2] w fun e w'=>e = .returned (.bool true)∧Ext w w':=by
 induction k using Nat.strongRecOn generalizing j a1 c1 a2 c2 l w
 rename_i k ih
 have hcap1:=hm1.cap
 have hmax1:=hm1.max
 have hcap2:=hm2.cap
 have hmax2:=hm2.max
 refine enter Tryz.func40 rfl 109 rfl rfl ?_
 refine CWd (W':=Ws w [] [] [H1,H2]) (fun _ e=>by subst e; exact Ws.init (by simp [hH1,hH2])) ?_
 refine Cs (Cr ?_)
 refine V0 (Ya rfl) ?_
 refine Ln (Et (Cs (Cs (Cr ?_))))
 refine V0 (Ym rfl) ?_
 refine V0 (Yn es40 rfl) ?_
 refine V0 (Ym rfl) ?_
 refine V0 (Yn es40 rfl) ?_
 refine V0 (yl_neY rfl rfl rfl) ?_
 refine Ln (Et ?_)
 refine WC.condf rfl ?_
 refine Ck (Et (Cs (Cs (Cr ?_))))
 refine V0 (Ya rfl) ?_
 refine Ln (Et (Cb ?_))
 refine CW (ι:=Nat) (fun i=>[(5,.int .i64 (i:Int))]) [(0,_),(1,_)] (fun i=>i≤l.length) (fun i=>l.length-i) 0 (Nat.zero_le _) (sc rfl (sc rfl (sc rfl sn))) ?_
 intro i hi
 refine Cs (Cs (Cr ?_))
 refine V0 (Ym rfl) ?_
 refine V0 (Ym rfl) ?_
 refine V0 (Yn es40 rfl) ?_
 refine V0 (yl_lt rfl rfl) ?_
 refine Ln (Et ?_)
 refine Cc rfl (fun hc1=>?_) (fun hc1=>?_)
 ·
  have hlt:i<l.length:=by simpa using hc1
  obtain ⟨x,hx⟩:∃x,l[i]? = some x:=⟨_,List.getElem?_eq_getElem hlt⟩
  obtain ⟨pb,po,ha1,hr1⟩:=hm1.elt i x hx
  obtain ⟨qb,qo,ha2,hr2⟩:=hm2.elt i x hx
  obtain ⟨k2,rfl⟩:∃k2,k=k2+1:=by
    cases k with
    | zero=>exact hr1.elim
    | succ k2=>exact ⟨k2,rfl⟩
  obtain ⟨j2,rfl⟩:∃k2,j=k2+1:=by
    cases j with
    | zero=>exact hr2.elim
    | succ k2=>exact ⟨k2,rfl⟩
  obtain ⟨u,hr1,hs1,hs2,hs3⟩:=hr1
  obtain ⟨v,hr2,ht1,ht2,ht3⟩:=hr2
  refine Ck (Et (Cs (Cb (Cs ?_))))
  refine WC.draws0 [(0,true),(1,true),(2,true),(3,true),(4,true),(5,true),(6,true),(7,true),(8,true),(9,true),(10,true),(11,true),(12,true),(13,true),(14,true),(15,true),(16,true),(17,true),(18,true),(19,true),(20,true),(21,true),(22,true),(23,true),(24,true),(25,true),(26,true),(27,true),(28,true),(29,true),(30,true),(31,true),(32,true),(33,true),(34,true),(35,true),(36,true),(37,true),(38,true),(39,true),(40,true),(41,true),(42,true),(43,true),(44,true),(45,true),(46,true),(47,true),(48,true),(49,true),(50,true),(51,true),(52,true),(53,true),(54,true),(55,true),(56,true),(57,true),(58,true),(59,true),(60,true),(61,false),(62,true),(63,true),(64,true),(65,true),(66,true),(67,true),(68,true),(69,true),(70,true),(71,true),(72,true),(73,true),(74,true),(75,false),(76,true),(77,true),(78,true),(79,true),(80,true),(81,true),(82,true),(83,true),(84,true),(85,true),(86,true),(87,true),(88,true),(89,false),(90,true),(91,true)] mixed (by kernel_rfl) (fun _ _ _ d _ h=>by cases d<;>exact h) ?_
  refine Dq rfl (.inl rfl) rfl (fun _ h=>h) (Ym rfl) ?_
  refine Dq rfl (.inl rfl) rfl (fun _ h=>h) (Ym rfl) ?_
  refine Dq rfl (.inl rfl) rfl (fun _ h=>h) (Yo es40 rfl rfl ha1 (by omega)) ?_
  refine Dq rfl (.inl rfl) rfl (fun _ h=>h) (Yf fo68_0 rfl) ?_
  refine Dq rfl (.inl rfl) rfl (fun _ h=>h) (yl_ld 0 na3 rfl rfl (hr1 0 _ rfl)) ?_
  refine Dq rfl (.inl rfl) rfl (fun _ h=>h) (Ym rfl) ?_
  refine Dq rfl (.inl rfl) rfl (fun _ h=>h) (Ym rfl) ?_
  refine Dq rfl (.inl rfl) rfl (fun _ h=>h) (Yo es40 rfl rfl ha2 (by omega)) ?_
  refine Dq rfl (.inl rfl) rfl (fun _ h=>h) (Yf fo68_0 rfl) ?_
  refine Dq rfl (.inl rfl) rfl (fun _ h=>h) (yl_ld 1 na3 rfl rfl (hr2 0 _ rfl)) ?_
  refine Dq rfl (.inl rfl) rfl (fun _ h=>h) (yl_neY rfl rfl rfl) ?_
  refine Dq rfl (.inl rfl) rfl (fun _ h=>h) (Ym rfl) ?_
  apply WD.or 11 (x:=false) rfl rfl rfl rfl rfl (.inl rfl) rfl (fun _ h=>h) rfl rfl rfl rfl
  ·
   intro hg0
   refine Dq rfl (.g rfl rfl rfl) rfl (fun _ h=>h) (Ym rfl) ?_
   refine Dq rfl (.g rfl rfl rfl) rfl (fun _ h=>h) (Ym rfl) ?_
   refine Dq rfl (.g rfl rfl rfl) rfl (fun _ h=>h) (Yo es40 rfl rfl ha1 (by omega)) ?_
   refine Dq rfl (.g rfl rfl rfl) rfl (fun _ h=>h) (Yf fo68_1 rfl) ?_
   refine Dq rfl (.g rfl rfl rfl) rfl (fun _ h=>h) (yl_ld 0 na3 rfl rfl (hr1 1 _ rfl)) ?_
   refine Dq rfl (.g rfl rfl rfl) rfl (fun _ h=>h) (Ym rfl) ?_
   refine Dq rfl (.g rfl rfl rfl) rfl (fun _ h=>h) (Ym rfl) ?_
   refine Dq rfl (.g rfl rfl rfl) rfl (fun _ h=>h) (Yo es40 rfl rfl ha2 (by omega)) ?_
   refine Dq rfl (.g rfl rfl rfl) rfl (fun _ h=>h) (Yf fo68_1 rfl) ?_
   refine Dq rfl (.g rfl rfl rfl) rfl (fun _ h=>h) (yl_ld 1 na3 rfl rfl (hr2 1 _ rfl)) ?_
   refine Dq rfl (.g rfl rfl rfl) rfl (fun _ h=>h) (yl_neY rfl rfl rfl) ?_
   exact Gi 11 (fun _ h=>h) rfl rfl rfl
  refine Dq rfl (.inl rfl) rfl (fun _ h=>h) (Ym rfl) ?_
  apply WD.or 11 (x:=false) rfl rfl rfl rfl rfl (.inl rfl) rfl (fun _ h=>h) rfl rfl rfl rfl
  ·
   intro hg1
   refine Dq rfl (.g rfl rfl rfl) rfl (fun _ h=>h) (Ym rfl) ?_
   refine Dq rfl (.g rfl rfl rfl) rfl (fun _ h=>h) (Ym rfl) ?_
   refine Dq rfl (.g rfl rfl rfl) rfl (fun _ h=>h) (Yo es40 rfl rfl ha1 (by omega)) ?_
   refine Dq rfl (.g rfl rfl rfl) rfl (fun _ h=>h) (Yf fo68_2 rfl) ?_
   refine Dq rfl (.g rfl rfl rfl) rfl (fun _ h=>h) (yl_ld 0 na3 rfl rfl (hr1 2 _ rfl)) ?_
   refine Dq rfl (.g rfl rfl rfl) rfl (fun _ h=>h) (Ym rfl) ?_
   refine Dq rfl (.g rfl rfl rfl) rfl (fun _ h=>h) (Ym rfl) ?_
   refine Dq rfl (.g rfl rfl rfl) rfl (fun _ h=>h) (Yo es40 rfl rfl ha2 (by omega)) ?_
   refine Dq rfl (.g rfl rfl rfl) rfl (fun _ h=>h) (Yf fo68_2 rfl) ?_
   refine Dq rfl (.g rfl rfl rfl) rfl (fun _ h=>h) (yl_ld 1 na3 rfl rfl (hr2 2 _ rfl)) ?_
   refine Dq rfl (.g rfl rfl rfl) rfl (fun _ h=>h) (yl_neY rfl rfl rfl) ?_
   exact Gi 11 (fun _ h=>h) rfl rfl rfl
  refine Dq rfl (.inl rfl) rfl (fun _ h=>h) (Ym rfl) ?_
  apply WD.or 11 (x:=false) rfl rfl rfl rfl rfl (.inl rfl) rfl (fun _ h=>h) rfl rfl rfl rfl
  ·
   intro hg2
   refine Dq rfl (.g rfl rfl rfl) rfl (fun _ h=>h) (Ym rfl) ?_
   refine Dq rfl (.g rfl rfl rfl) rfl (fun _ h=>h) (Ym rfl) ?_
   refine Dq rfl (.g rfl rfl rfl) rfl (fun _ h=>h) (Yo es40 rfl rfl ha1 (by omega)) ?_
   refine Dq rfl (.g rfl rfl rfl) rfl (fun _ h=>h) (Yf fo68_3 rfl) ?_
   refine Dq rfl (.g rfl rfl rfl) rfl (fun _ h=>h) (yl_ld 0 na3 rfl rfl (hr1 3 _ rfl)) ?_
   refine Dq rfl (.g rfl rfl rfl) rfl (fun _ h=>h) (Ym rfl) ?_
   refine Dq rfl (.g rfl rfl rfl) rfl (fun _ h=>h) (Ym rfl) ?_
   refine Dq rfl (.g rfl rfl rfl) rfl (fun _ h=>h) (Yo es40 rfl rfl ha2 (by omega)) ?_
   refine Dq rfl (.g rfl rfl rfl) rfl (fun _ h=>h) (Yf fo68_3 rfl) ?_
   refine Dq rfl (.g rfl rfl rfl) rfl (fun _ h=>h) (yl_ld 1 na3 rfl rfl (hr2 3 _ rfl)) ?_
   refine Dq rfl (.g rfl rfl rfl) rfl (fun _ h=>h) (yl_neY rfl rfl rfl) ?_
   exact Gi 11 (fun _ h=>h) rfl rfl rfl
  refine Dq rfl (.inl rfl) rfl (fun _ h=>h) (Ym rfl) ?_
  apply WD.or 12 (x:=false) rfl rfl rfl rfl rfl (.inl rfl) rfl (fun _ h=>h) rfl rfl rfl rfl
  ·
   intro hg3
   refine Dq rfl (.g rfl rfl rfl) rfl (fun _ h=>h) (Ym rfl) ?_
   refine Dq rfl (.g rfl rfl rfl) rfl (fun _ h=>h) (Ym rfl) ?_
   refine Dq rfl (.g rfl rfl rfl) rfl (fun _ h=>h) (Yo es40 rfl rfl ha1 (by omega)) ?_
   refine Dq rfl (.g rfl rfl rfl) rfl (fun _ h=>h) (Yf fo68_4 rfl) ?_
   refine Dq rfl (.g rfl rfl rfl) rfl (fun _ h=>h) (yl_ld 0 na66 rfl rfl (hr1 4 _ rfl)) ?_
   refine Dq rfl (.g rfl rfl rfl) rfl (fun _ h=>h) (Ym rfl) ?_
   refine Dq rfl (.g rfl rfl rfl) rfl (fun _ h=>h) (Ym rfl) ?_
   refine Dq rfl (.g rfl rfl rfl) rfl (fun _ h=>h) (Yo es40 rfl rfl ha2 (by omega)) ?_
   refine Dq rfl (.g rfl rfl rfl) rfl (fun _ h=>h) (Yf fo68_4 rfl) ?_
   refine Dq rfl (.g rfl rfl rfl) rfl (fun _ h=>h) (yl_ld 1 na66 rfl rfl (hr2 4 _ rfl)) ?_
   refine De rfl (fun _ h=>h) ?_
   refine Lp (.g rfl rfl rfl) rfl en59 rfl (fun w hw=>sameNodes_eq H1 H2 u.s1.1 v.s1.1 u.s1.2 v.s1.2 ke1 ke2 x.args w (hw.vs _ (by simp)) (hw.vs _ (by simp)) hs1 ht1) ?_
   refine Ln (Ed ?_)
   refine Dq rfl (.g rfl rfl rfl) rfl (fun _ h=>h) (yl_not rfl) ?_
   exact Gi 12 (fun _ h=>h) rfl rfl rfl
  refine Dq rfl (.inl rfl) rfl (fun _ h=>h) (Ym rfl) ?_
  apply WD.or 12 (x:=false) rfl rfl rfl rfl rfl (.inl rfl) rfl (fun _ h=>h) rfl rfl rfl rfl
  ·
   intro hg4
   refine Dq rfl (.g rfl rfl rfl) rfl (fun _ h=>h) (Ym rfl) ?_
   refine Dq rfl (.g rfl rfl rfl) rfl (fun _ h=>h) (Ym rfl) ?_
   refine Dq rfl (.g rfl rfl rfl) rfl (fun _ h=>h) (Yo es40 rfl rfl ha1 (by omega)) ?_
   refine Dq rfl (.g rfl rfl rfl) rfl (fun _ h=>h) (Yf fo68_5 rfl) ?_
   refine Dq rfl (.g rfl rfl rfl) rfl (fun _ h=>h) (yl_ld 0 na40 rfl rfl (hr1 5 _ rfl)) ?_
   refine Dq rfl (.g rfl rfl rfl) rfl (fun _ h=>h) (Ym rfl) ?_
   refine Dq rfl (.g rfl rfl rfl) rfl (fun _ h=>h) (Ym rfl) ?_
   refine Dq rfl (.g rfl rfl rfl) rfl (fun _ h=>h) (Yo es40 rfl rfl ha2 (by omega)) ?_
   refine Dq rfl (.g rfl rfl rfl) rfl (fun _ h=>h) (Yf fo68_5 rfl) ?_
   refine Dq rfl (.g rfl rfl rfl) rfl (fun _ h=>h) (yl_ld 1 na40 rfl rfl (hr2 5 _ rfl)) ?_
   refine De rfl (fun _ h=>h) ?_
   refine Lp (.g rfl rfl rfl) rfl en40 rfl (fun w hw=>ih k2 (by omega) u.s2.1 v.s2.1 u.s2.2 v.s2.2 j2 x.body w (hw.vs _ (by simp)) (hw.vs _ (by simp)) hs2 ht2) ?_
   refine Ln (Ed ?_)
   refine Dq rfl (.g rfl rfl rfl) rfl (fun _ h=>h) (yl_not rfl) ?_
   exact Gi 12 (fun _ h=>h) rfl rfl rfl
  refine Dq rfl (.inl rfl) rfl (fun _ h=>h) (Ym rfl) ?_
  apply WD.or 12 (x:=false) rfl rfl rfl rfl rfl (.inl rfl) rfl (fun _ h=>h) rfl rfl rfl rfl
  ·
   intro hg5
   refine Dq rfl (.g rfl rfl rfl) rfl (fun _ h=>h) (Ym rfl) ?_
   refine Dq rfl (.g rfl rfl rfl) rfl (fun _ h=>h) (Ym rfl) ?_
   refine Dq rfl (.g rfl rfl rfl) rfl (fun _ h=>h) (Yo es40 rfl rfl ha1 (by omega)) ?_
   refine Dq rfl (.g rfl rfl rfl) rfl (fun _ h=>h) (Yf fo68_6 rfl) ?_
   refine Dq rfl (.g rfl rfl rfl) rfl (fun _ h=>h) (yl_ld 0 na40 rfl rfl (hr1 6 _ rfl)) ?_
   refine Dq rfl (.g rfl rfl rfl) rfl (fun _ h=>h) (Ym rfl) ?_
   refine Dq rfl (.g rfl rfl rfl) rfl (fun _ h=>h) (Ym rfl) ?_
   refine Dq rfl (.g rfl rfl rfl) rfl (fun _ h=>h) (Yo es40 rfl rfl ha2 (by omega)) ?_
   refine Dq rfl (.g rfl rfl rfl) rfl (fun _ h=>h) (Yf fo68_6 rfl) ?_
   refine Dq rfl (.g rfl rfl rfl) rfl (fun _ h=>h) (yl_ld 1 na40 rfl rfl (hr2 6 _ rfl)) ?_
   refine De rfl (fun _ h=>h) ?_
   refine Lp (.g rfl rfl rfl) rfl en40 rfl (fun w hw=>ih k2 (by omega) u.s3.1 v.s3.1 u.s3.2 v.s3.2 j2 x.other w (hw.vs _ (by simp)) (hw.vs _ (by simp)) hs3 ht3) ?_
   refine Ln (Ed ?_)
   refine Dq rfl (.g rfl rfl rfl) rfl (fun _ h=>h) (yl_not rfl) ?_
   exact Gi 12 (fun _ h=>h) rfl rfl rfl
  refine WD.nil (fun _ h=>h) ?_
  refine Et ?_
  refine WC.condf rfl ?_
  refine Ck (Eb (Et (Cr ?_)))
  refine V0 (Ym rfl) ?_
  refine V0 (Yi rfl rfl rfl (by omega)) ?_
  refine V0 (Ya rfl) ?_
  refine Ln ?_
  exact Ea (i+1) (by omega) (by omega) (sc rfl (sc rfl (sc rfl sn))) (fun _ h=>h)
 ·
  refine Ce (Ex (Ex (Ebh (Et (Cs ?_)))))
  refine Cr ?_
  refine V0 (Ya rfl) ?_
  refine Ln (Et (Crt ?_))
  refine WE.ret1 rfl rfl fun w' hw=>?_
  exact ⟨rfl,hw.fr⟩
theorem sameUnits_eq (H1 H2:View) (ke1 ke2 ks1 ks2:Nat) (r1 r2:UAt) (u:TUnit) (w:World) (hH1:Le H1 w) (hH2:Le H2 w) (hu1:RdU ke1 ks1 H1 r1 u) (hu2:RdU ke2 ks2 H2 r2 u) :
   Calls Tryz.prog 14 #[.agg (unitV u r1).toArray,.agg (unitV u r2).toArray] w fun e w'=>e = .returned (.bool true)∧Ext w w':=by
 have hm1:=hu1.parts
 have hm2:=hu2.parts
 have hcap1:=hm1.cap
 have hmax1:=hm1.max
 have hcap2:=hm2.cap
 have hmax2:=hm2.max
 refine enter Tryz.func14 rfl 94 rfl rfl ?_
 refine CWd (W':=Ws w [] [] [H1,H2]) (fun _ e=>by subst e; exact Ws.init (by simp [hH1,hH2])) ?_
 refine Cs (Cr ?_)
 refine WL.box (.inl rfl) rfl rfl fun b2=>?_
 refine WL.box (.inl rfl) rfl rfl fun b3=>?_
 refine V0 (Ya rfl) ?_
 refine Ln (Et (Cs (Cs (Cr ?_))))
 refine V0 (Yf fo42_0 rfl) ?_
 refine V0 (Yd 1 rfl rfl rfl na9) ?_
 refine V0 (Yf fo42_0 rfl) ?_
 refine V0 (Yd 0 rfl rfl rfl na9) ?_
 refine V0 (yl_nesY rfl rfl rfl) ?_
 refine V0 (Ym rfl) ?_
 apply WL.or 6 (x:=false) rfl rfl rfl rfl (.inl rfl) rfl rfl rfl rfl rfl
 ·
  intro hg0
  refine Lv (.g rfl rfl rfl) rfl (Yf fo42_1 rfl) ?_
  refine Lv (.g rfl rfl rfl) rfl (Yd 1 rfl rfl rfl na22) ?_
  refine Lv (.g rfl rfl rfl) rfl (Yf fo42_1 rfl) ?_
  refine Lv (.g rfl rfl rfl) rfl (Yd 0 rfl rfl rfl na22) ?_
  refine Lp (.g rfl rfl rfl) rfl en39 rfl (fun w hw=>sameTexts_eq H1 H2 r1.s1.1 r2.s1.1 r1.s1.2 r2.s1.2 u.uses w (hw.vs _ (by simp)) (hw.vs _ (by simp)) hu1.uses hu2.uses) ?_
  refine Lv (.g rfl rfl rfl) rfl (yl_not rfl) ?_
  exact Gt 6 rfl rfl rfl
 refine V0 (Ym rfl) ?_
 apply WL.or 5 (x:=false) rfl rfl rfl rfl (.inl rfl) rfl rfl rfl rfl rfl
 ·
  intro hg1
  refine Lv (.g rfl rfl rfl) rfl (Yf fo42_2 rfl) ?_
  refine Lv (.g rfl rfl rfl) rfl (Yd 1 rfl rfl rfl na3) ?_
  refine Lv (.g rfl rfl rfl) rfl (Yf fo42_2 rfl) ?_
  refine Lv (.g rfl rfl rfl) rfl (Yd 0 rfl rfl rfl na3) ?_
  refine Lv (.g rfl rfl rfl) rfl (yl_neY rfl rfl rfl) ?_
  exact Gt 5 rfl rfl rfl
 refine V0 (Ym rfl) ?_
 apply WL.or 7 (x:=false) rfl rfl rfl rfl (.inl rfl) rfl rfl rfl rfl rfl
 ·
  intro hg2
  refine Lv (.g rfl rfl rfl) rfl (Yf fo42_3 rfl) ?_
  refine Lv (.g rfl rfl rfl) rfl (Yd 1 rfl rfl rfl na39) ?_
  refine Lv (.g rfl rfl rfl) rfl (Yn es39 rfl) ?_
  refine Lv (.g rfl rfl rfl) rfl (Yf fo42_3 rfl) ?_
  refine Lv (.g rfl rfl rfl) rfl (Yd 0 rfl rfl rfl na39) ?_
  refine Lv (.g rfl rfl rfl) rfl (Yn es39 rfl) ?_
  refine Lv (.g rfl rfl rfl) rfl (yl_neY rfl rfl rfl) ?_
  exact Gt 7 rfl rfl rfl
 refine V0 (Ym rfl) ?_
 apply WL.or 6 (x:=false) rfl rfl rfl rfl (.inl rfl) rfl rfl rfl rfl rfl
 ·
  intro hg3
  refine Lv (.g rfl rfl rfl) rfl (Yf fo42_4 rfl) ?_
  refine Lv (.g rfl rfl rfl) rfl (Yd 1 rfl rfl rfl na40) ?_
  refine Lv (.g rfl rfl rfl) rfl (Yf fo42_4 rfl) ?_
  refine Lv (.g rfl rfl rfl) rfl (Yd 0 rfl rfl rfl na40) ?_
  refine Lp (.g rfl rfl rfl) rfl en40 rfl (fun w hw=>sameActs_eq H1 H2 r1.s3.1 r2.s3.1 r1.s3.2 r2.s3.2 ke1 ke2 ks1 ks2 u.main w (hw.vs _ (by simp)) (hw.vs _ (by simp)) hu1.main hu2.main) ?_
  refine Lv (.g rfl rfl rfl) rfl (yl_not rfl) ?_
  exact Gt 6 rfl rfl rfl
 refine Ln (Et ?_)
 refine WC.condf rfl ?_
 refine Ck (Et (Cs (Cs (Cr ?_))))
 refine V0 (Ya rfl) ?_
 refine Ln (Et (Cb ?_))
 refine CW (ι:=Nat) (fun i=>[(5,.int .i64 (i:Int))]) [(2,_),(3,_)] (fun i=>i≤u.parts.length) (fun i=>u.parts.length-i) 0 (Nat.zero_le _) (sc rfl (sc rfl (sc rfl sn))) ?_
 intro i hi
 refine Cs (Cs (Cr ?_))
 refine V0 (Ym rfl) ?_
 refine V0 (Yf fo42_3 rfl) ?_
 refine V0 (Yd 1 rfl rfl rfl na39) ?_
 refine V0 (Yn es39 rfl) ?_
 refine V0 (yl_lt rfl rfl) ?_
 refine Ln (Et ?_)
 refine Cc rfl (fun hc1=>?_) (fun hc1=>?_)
 ·
  have hlt:i<u.parts.length:=by simpa using hc1
  obtain ⟨x,hx⟩:∃x,u.parts[i]? = some x:=⟨_,List.getElem?_eq_getElem hlt⟩
  obtain ⟨pb,po,ha1,hr1⟩:=hm1.elt i x hx
  obtain ⟨qb,qo,ha2,hr2⟩:=hm2.elt i x hx
  obtain ⟨v1,hr1,hs1⟩:=hr1
  obtain ⟨v2,hr2,hs2⟩:=hr2
  refine Ck (Et (Cs (Cb (Cs ?_))))
  refine WC.draws0 [(0,true),(1,true),(2,true),(3,true),(4,true),(5,true),(6,true),(7,true),(8,true),(9,true),(10,true),(11,true),(12,true),(13,true),(14,true),(15,true),(16,true),(17,true),(18,true),(19,true),(20,true),(21,true),(22,true),(23,true),(24,true),(25,true),(26,true),(27,true),(28,true),(29,true),(30,true),(31,true),(32,true),(33,true),(34,true),(35,true),(36,true),(37,true),(38,true),(39,true),(40,true),(41,false),(42,true),(43,true)] mixed (by kernel_rfl) (fun _ _ _ d _ h=>by cases d<;>exact h) ?_
  refine Dq rfl (.inl rfl) rfl (fun _ h=>h) (Yf fo42_3 rfl) ?_
  refine Dq rfl (.inl rfl) rfl (fun _ h=>h) (Yd 1 rfl rfl rfl na39) ?_
  refine Dq rfl (.inl rfl) rfl (fun _ h=>h) (Ym rfl) ?_
  refine Dq rfl (.inl rfl) rfl (fun _ h=>h) (Yo es39 rfl rfl ha1 (by omega)) ?_
  refine Dq rfl (.inl rfl) rfl (fun _ h=>h) (Yf fo65_0 rfl) ?_
  refine Dq rfl (.inl rfl) rfl (fun _ h=>h) (yl_ld 0 na3 rfl rfl (hr1 0 _ rfl)) ?_
  refine Dq rfl (.inl rfl) rfl (fun _ h=>h) (Yf fo42_3 rfl) ?_
  refine Dq rfl (.inl rfl) rfl (fun _ h=>h) (Yd 0 rfl rfl rfl na39) ?_
  refine Dq rfl (.inl rfl) rfl (fun _ h=>h) (Ym rfl) ?_
  refine Dq rfl (.inl rfl) rfl (fun _ h=>h) (Yo es39 rfl rfl ha2 (by omega)) ?_
  refine Dq rfl (.inl rfl) rfl (fun _ h=>h) (Yf fo65_0 rfl) ?_
  refine Dq rfl (.inl rfl) rfl (fun _ h=>h) (yl_ld 1 na3 rfl rfl (hr2 0 _ rfl)) ?_
  refine Dq rfl (.inl rfl) rfl (fun _ h=>h) (yl_neY rfl rfl rfl) ?_
  refine Dq rfl (.inl rfl) rfl (fun _ h=>h) (Ym rfl) ?_
  apply WD.or 13 (x:=false) rfl rfl rfl rfl rfl (.inl rfl) rfl (fun _ h=>h) rfl rfl rfl rfl
  ·
   intro hg4
   refine Dq rfl (.g rfl rfl rfl) rfl (fun _ h=>h) (Yf fo42_3 rfl) ?_
   refine Dq rfl (.g rfl rfl rfl) rfl (fun _ h=>h) (Yd 1 rfl rfl rfl na39) ?_
   refine Dq rfl (.g rfl rfl rfl) rfl (fun _ h=>h) (Ym rfl) ?_
   refine Dq rfl (.g rfl rfl rfl) rfl (fun _ h=>h) (Yo es39 rfl rfl ha1 (by omega)) ?_
   refine Dq rfl (.g rfl rfl rfl) rfl (fun _ h=>h) (Yf fo65_1 rfl) ?_
   refine Dq rfl (.g rfl rfl rfl) rfl (fun _ h=>h) (yl_ld 0 na3 rfl rfl (hr1 1 _ rfl)) ?_
   refine Dq rfl (.g rfl rfl rfl) rfl (fun _ h=>h) (Yf fo42_3 rfl) ?_
   refine Dq rfl (.g rfl rfl rfl) rfl (fun _ h=>h) (Yd 0 rfl rfl rfl na39) ?_
   refine Dq rfl (.g rfl rfl rfl) rfl (fun _ h=>h) (Ym rfl) ?_
   refine Dq rfl (.g rfl rfl rfl) rfl (fun _ h=>h) (Yo es39 rfl rfl ha2 (by omega)) ?_
   refine Dq rfl (.g rfl rfl rfl) rfl (fun _ h=>h) (Yf fo65_1 rfl) ?_
   refine Dq rfl (.g rfl rfl rfl) rfl (fun _ h=>h) (yl_ld 1 na3 rfl rfl (hr2 1 _ rfl)) ?_
   refine Dq rfl (.g rfl rfl rfl) rfl (fun _ h=>h) (yl_neY rfl rfl rfl) ?_
   exact Gi 13 (fun _ h=>h) rfl rfl rfl
  refine Dq rfl (.inl rfl) rfl (fun _ h=>h) (Ym rfl) ?_
  apply WD.or 14 (x:=false) rfl rfl rfl rfl rfl (.inl rfl) rfl (fun _ h=>h) rfl rfl rfl rfl
  ·
   intro hg5
   refine Dq rfl (.g rfl rfl rfl) rfl (fun _ h=>h) (Yf fo42_3 rfl) ?_
   refine Dq rfl (.g rfl rfl rfl) rfl (fun _ h=>h) (Yd 1 rfl rfl rfl na39) ?_
   refine Dq rfl (.g rfl rfl rfl) rfl (fun _ h=>h) (Ym rfl) ?_
   refine Dq rfl (.g rfl rfl rfl) rfl (fun _ h=>h) (Yo es39 rfl rfl ha1 (by omega)) ?_
   refine Dq rfl (.g rfl rfl rfl) rfl (fun _ h=>h) (Yf fo65_2 rfl) ?_
   refine Dq rfl (.g rfl rfl rfl) rfl (fun _ h=>h) (yl_ld 0 na40 rfl rfl (hr1 2 _ rfl)) ?_
   refine Dq rfl (.g rfl rfl rfl) rfl (fun _ h=>h) (Yf fo42_3 rfl) ?_
   refine Dq rfl (.g rfl rfl rfl) rfl (fun _ h=>h) (Yd 0 rfl rfl rfl na39) ?_
   refine Dq rfl (.g rfl rfl rfl) rfl (fun _ h=>h) (Ym rfl) ?_
   refine Dq rfl (.g rfl rfl rfl) rfl (fun _ h=>h) (Yo es39 rfl rfl ha2 (by omega)) ?_
   refine Dq rfl (.g rfl rfl rfl) rfl (fun _ h=>h) (Yf fo65_2 rfl) ?_
   refine Dq rfl (.g rfl rfl rfl) rfl (fun _ h=>h) (yl_ld 1 na40 rfl rfl (hr2 2 _ rfl)) ?_
   refine De rfl (fun _ h=>h) ?_
   refine Lp (.g rfl rfl rfl) rfl en40 rfl (fun w hw=>sameActs_eq H1 H2 v1.1 v2.1 v1.2 v2.2 ke1 ke2 ks1 ks2 x.body w (hw.vs _ (by simp)) (hw.vs _ (by simp)) hs1 hs2) ?_
   refine Ln (Ed ?_)
   refine Dq rfl (.g rfl rfl rfl) rfl (fun _ h=>h) (yl_not rfl) ?_
   exact Gi 14 (fun _ h=>h) rfl rfl rfl
  refine WD.nil (fun _ h=>h) ?_
  refine Et ?_
  refine WC.condf rfl ?_
  refine Ck (Eb (Et (Cr ?_)))
  refine V0 (Ym rfl) ?_
  refine V0 (Yi rfl rfl rfl (by omega)) ?_
  refine V0 (Ya rfl) ?_
  refine Ln ?_
  exact Ea (i+1) (by omega) (by omega) (sc rfl (sc rfl (sc rfl sn))) (fun _ h=>h)
 ·
  refine Ce (Ex (Ex (Ebh (Et (Cs ?_)))))
  refine Cr ?_
  refine V0 (Ya rfl) ?_
  refine Ln (Et (Crt ?_))
  refine WE.ret1 rfl rfl fun w' hw=>?_
  exact ⟨rfl,hw.fr⟩
end Go.Proofs.YtinnlppbkhhoiaaGreatDoor
end
section
namespace Go.Proofs.YtinnlppbkhhoiaaGreatDoor
open Go.Bw
set_option linter.unusedVariables false
set_option linter.unusedSimpArgs false
def cntM:TMod:=(⟨[99,110,116],[],[(⟨1,[107],true,3⟩:TDecl),(⟨2,[115,117,109],true,0⟩:TDecl),(⟨3,[116],true,4⟩:TDecl)],[(⟨[100,111,119,110],true,[[110]],[[105]],[(TStmt.mk 1 [] [105] [(TExpr.mk 3 0 [] [110] [])] [] []),(TStmt.mk 5 [] [] [(TExpr.mk 3 0 [] [105] [])] [(TStmt.mk 1 [] [115,117,109] [(TExpr.mk 9 0 [] [] [(TExpr.mk 3 0 [] [115,117,109] []),(TExpr.mk 3 0 [] [105] [])])] [] []),(TStmt.mk 1 [] [105] [(TExpr.mk 10 0 [] [] [(TExpr.mk 3 0 [] [105] []),(TExpr.mk 1 1 [] [] [])])] [] [])] []),(TStmt.mk 6 [] [] [(TExpr.mk 3 0 [] [115,117,109] [])] [] [])]⟩:TProc)],[]⟩:TMod)
def topS:Tx:=[109,111,100,117,108,101,32,116,111,112,123,117,115,101,32,99,110,116,59,109,97,105,110,123,99,110,116,46,116,91,49,93,61,99,110,116,46,100,111,119,110,40,99,110,116,46,107,41,59,111,117,116,32,99,110,116,46,116,91,105,110,93,59,105,102,40,99,110,116,46,115,117,109,61,54,41,123,111,117,116,32,55,59,125,101,108,115,101,123,111,117,116,32,56,59,125,125,125]
def topM:TMod:=(parseM topS).1
def fsC:List (List UInt8×List FItem):=[(cntN,cntI)]
theorem cnt_w:wM cntM≤109951162777:=by decide +kernel
theorem top_parse:(parseM topS).2=0:=by decide +kernel
theorem cnt_face:faceM cntM=((cntN,cntI),0):=by decide +kernel
theorem cnt_fe:faceE cntN cntI=0:=by decide +kernel
theorem cnt_res:(resolveM cntM []).2=0:=by decide +kernel
theorem cnt_data:(resolveM cntM []).1.data=5:=by decide +kernel
theorem cnt_parts:(resolveM cntM []).1.parts.length=1:=by decide +kernel
theorem cnt_loc:((resolveM cntM []).1.parts[0]?).map (·.locals)=some 1:=by decide +kernel
theorem top_res:(resolveM topM fsC).2=0:=by decide +kernel
theorem top_res8:(resolveM topM []).2=8:=by decide +kernel
theorem top_len:(resolveM topM fsC).1.main.length=3:=by decide +kernel
theorem top_first0:((resolveM topM fsC).1.main[0]?).map (fun a=>(a.m,a.pl,a.n))=some (1,1,4):=by decide +kernel
theorem cnt_part:∃p,(resolveM cntM []).1.parts[0]? = some p∧p.locals=1:=by
 have h:=cnt_loc
 cases hx:(resolveM cntM []).1.parts[0]? with
 | none=>rw [hx] at h; cases h
 | some p=>rw [hx] at h; exact ⟨p,rfl,by simpa using h⟩
theorem top_act:∃a,(resolveM topM fsC).1.main[0]? = some a∧a.m=1∧a.pl=1∧a.n=4:=by
 have h:=top_first0
 cases hx:(resolveM topM fsC).1.main[0]? with
 | none=>rw [hx] at h; cases h
 | some a=>rw [hx] at h; exact ⟨a,rfl,by simpa using h⟩
theorem parseM_w (s:Tx):wM (parseM s).1≤73728:=by
 unfold parseM
 split
 · show wM noMod≤_; decide
 · rename_i h
   have h0:(lexR s).2=0:=by simpa using h
   have hl:=(lexR_tok h0).len
   split
   · rename_i m hm
     split
     · have:=modP_w hm
       simp at this
       show wM m≤_
       omega
     · show wM noMod≤_; decide
   · show wM noMod≤_; decide
theorem pl118:placesP Tryz.prog 118=some [(0,1),(1,1),(2,1),(3,1),(4,1),(5,1)]:=by kernel_rfl
theorem en23:Enters Tryz.prog 23:=enters_of Tryz.func23 (by kernel_rfl) rfl
theorem en12:Enters Tryz.prog 12:=enters_of Tryz.func12 (by kernel_rfl) rfl
theorem en25:Enters Tryz.prog 25:=enters_of Tryz.func25 (by kernel_rfl) rfl
theorem en24:Enters Tryz.prog 24:=enters_of Tryz.func24 (by kernel_rfl) rfl
theorem en26:Enters Tryz.prog 26:=enters_of Tryz.func26 (by kernel_rfl) rfl
theorem el38:EltOk Tryz.prog 38 30 (.agg #[st [],.slice none 0 0]) 2 40:=eltOk_of (by kernel_rfl)
theorem en9:Enters Tryz.prog 9:=enters_of Tryz.func9 (by kernel_rfl) rfl
theorem en8:Enters Tryz.prog 8:=enters_of Tryz.func8 (by kernel_rfl) rfl
theorem en13:Enters Tryz.prog 13:=enters_of Tryz.func13 (by kernel_rfl) rfl
theorem en14:Enters Tryz.prog 14:=enters_of Tryz.func14 (by kernel_rfl) rfl
theorem counter_any (w:World) :
   Calls Tryz.prog 23 #[] w fun e w'=>∃r:MAt,e = .returned (.agg (modV cntM r).toArray)∧Ext w w'∧RdM 7 6 (nv w w') r cntM:=by
 refine enter Tryz.func23 rfl 33 rfl rfl ?_
 refine CWd (W':=Ws w [] [] []) (fun _ e=>by subst e; exact Ws.init (by simp)) ?_
 refine Cs (Cr ?_)
 refine WL.alloc (.inl rfl) rfl zr27 fun b0=>?_
 refine Ln (Et (Cs (Cr ?_)))
 refine V0 (Yb zr109 pl109 rfl rfl) ?_
 refine V0 (Yb zr109 pl109 rfl rfl) ?_
 refine V0 (Yb zr109 pl109 rfl rfl) ?_
 refine Lb (.inl rfl) rfl el23 rfl rfl rfl rfl fun b4=>?_
 refine LN (rd:=rdDecl) (f:=TDecl.cells) (m:=3) 0 [(⟨1,[107],true,3⟩:TDecl),(⟨2,[115,117,109],true,0⟩:TDecl),(⟨3,[116],true,4⟩:TDecl)] rfl rfl (fun _ hk=>by cases hk) TDecl.cells_len (fun _ _ _ _ h=>h) (show 3≤3 by decide) (by decide) fun H4 fH4 hH4=>?_
 refine Lb (.inl rfl) rfl el22 rfl rfl rfl rfl fun b5=>?_
 refine LN (rd:=rdStr) (f:=strC) (m:=1) 0 [[110]] rfl rfl (fun _ hk=>by cases hk) strC_len (fun _ _ _ _ h=>h) (show 1≤1 by decide) (by decide) fun H5 fH5 hH5=>?_
 refine Lb (.inl rfl) rfl el22 rfl rfl rfl rfl fun b6=>?_
 refine LN (rd:=rdStr) (f:=strC) (m:=1) 0 [[105]] rfl rfl (fun _ hk=>by cases hk) strC_len (fun _ _ _ _ h=>h) (show 1≤1 by decide) (by decide) fun H6 fH6 hH6=>?_
 refine V0 (Yb zr116 pl116 rfl rfl) ?_
 refine Lb (.inl rfl) rfl el114 rfl rfl rfl rfl fun b8=>?_
 refine LN (rd:=rdXE) (f:=XE.cells) (m:=1) 0 [((TExpr.mk 3 0 [] [110] []),none,0)] rfl rfl (fun _ hk=>by cases hk) XE.cells_len (fun _ _ _ _ h=>h) (show 1≤1 by decide) (by decide) fun H8 fH8 hH8=>?_
 refine V0 (Yb zr118 pl118 rfl rfl) ?_
 refine V0 (Yb zr116 pl116 rfl rfl) ?_
 refine Lb (.inl rfl) rfl el114 rfl rfl rfl rfl fun b11=>?_
 refine LN (rd:=rdXE) (f:=XE.cells) (m:=1) 0 [((TExpr.mk 3 0 [] [105] []),none,0)] rfl rfl (fun _ hk=>by cases hk) XE.cells_len (fun _ _ _ _ h=>h) (show 1≤1 by decide) (by decide) fun H11 fH11 hH11=>?_
 refine V0 (Yb zr116 pl116 rfl rfl) ?_
 refine V0 (Yb zr116 pl116 rfl rfl) ?_
 refine Lb (.inl rfl) rfl el114 rfl rfl rfl rfl fun b14=>?_
 refine LN (rd:=rdXE) (f:=XE.cells) (m:=2) 0 [((TExpr.mk 3 0 [] [115,117,109] []),none,0),((TExpr.mk 3 0 [] [105] []),none,0)] rfl rfl (fun _ hk=>by cases hk) XE.cells_len (fun _ _ _ _ h=>h) (show 2≤2 by decide) (by decide) fun H14 fH14 hH14=>?_
 refine V0 (Yb zr116 pl116 rfl rfl) ?_
 refine Lb (.inl rfl) rfl el114 rfl rfl rfl rfl fun b16=>?_
 refine LN (rd:=rdXE) (f:=XE.cells) (m:=1) 0 [((TExpr.mk 9 0 [] [] [(TExpr.mk 3 0 [] [115,117,109] []),(TExpr.mk 3 0 [] [105] [])]),(some ⟨b14,0,none⟩),2)] rfl rfl (fun _ hk=>by cases hk) XE.cells_len (fun _ _ _ _ h=>h) (show 1≤1 by decide) (by decide) fun H16 fH16 hH16=>?_
 refine V0 (Yb zr118 pl118 rfl rfl) ?_
 refine V0 (Yb zr116 pl116 rfl rfl) ?_
 refine V0 (Yb zr116 pl116 rfl rfl) ?_
 refine Lb (.inl rfl) rfl el114 rfl rfl rfl rfl fun b20=>?_
 refine LN (rd:=rdXE) (f:=XE.cells) (m:=2) 0 [((TExpr.mk 3 0 [] [105] []),none,0),((TExpr.mk 1 1 [] [] []),none,0)] rfl rfl (fun _ hk=>by cases hk) XE.cells_len (fun _ _ _ _ h=>h) (show 2≤2 by decide) (by decide) fun H20 fH20 hH20=>?_
 refine V0 (Yb zr116 pl116 rfl rfl) ?_
 refine Lb (.inl rfl) rfl el114 rfl rfl rfl rfl fun b22=>?_
 refine LN (rd:=rdXE) (f:=XE.cells) (m:=1) 0 [((TExpr.mk 10 0 [] [] [(TExpr.mk 3 0 [] [105] []),(TExpr.mk 1 1 [] [] [])]),(some ⟨b20,0,none⟩),2)] rfl rfl (fun _ hk=>by cases hk) XE.cells_len (fun _ _ _ _ h=>h) (show 1≤1 by decide) (by decide) fun H22 fH22 hH22=>?_
 refine V0 (Yb zr118 pl118 rfl rfl) ?_
 refine Lb (.inl rfl) rfl el25 rfl rfl rfl rfl fun b24=>?_
 refine LN (rd:=rdSX) (f:=SX.cells) (m:=2) 0 [((TStmt.mk 1 [] [115,117,109] [(TExpr.mk 9 0 [] [] [(TExpr.mk 3 0 [] [115,117,109] []),(TExpr.mk 3 0 [] [105] [])])] [] []),(⟨((some ⟨b16,0,none⟩),1),(none,0),(none,0)⟩:SAt)),((TStmt.mk 1 [] [105] [(TExpr.mk 10 0 [] [] [(TExpr.mk 3 0 [] [105] []),(TExpr.mk 1 1 [] [] [])])] [] []),(⟨((some ⟨b22,0,none⟩),1),(none,0),(none,0)⟩:SAt))] rfl rfl (fun _ hk=>by cases hk) SX.cells_len (fun _ _ _ _ h=>h) (show 2≤2 by decide) (by decide) fun H24 fH24 hH24=>?_
 refine V0 (Yb zr118 pl118 rfl rfl) ?_
 refine V0 (Yb zr116 pl116 rfl rfl) ?_
 refine Lb (.inl rfl) rfl el114 rfl rfl rfl rfl fun b27=>?_
 refine LN (rd:=rdXE) (f:=XE.cells) (m:=1) 0 [((TExpr.mk 3 0 [] [115,117,109] []),none,0)] rfl rfl (fun _ hk=>by cases hk) XE.cells_len (fun _ _ _ _ h=>h) (show 1≤1 by decide) (by decide) fun H27 fH27 hH27=>?_
 refine V0 (Yb zr118 pl118 rfl rfl) ?_
 refine Lb (.inl rfl) rfl el25 rfl rfl rfl rfl fun b29=>?_
 refine LN (rd:=rdSX) (f:=SX.cells) (m:=3) 0 [((TStmt.mk 1 [] [105] [(TExpr.mk 3 0 [] [110] [])] [] []),(⟨((some ⟨b8,0,none⟩),1),(none,0),(none,0)⟩:SAt)),((TStmt.mk 5 [] [] [(TExpr.mk 3 0 [] [105] [])] [(TStmt.mk 1 [] [115,117,109] [(TExpr.mk 9 0 [] [] [(TExpr.mk 3 0 [] [115,117,109] []),(TExpr.mk 3 0 [] [105] [])])] [] []),(TStmt.mk 1 [] [105] [(TExpr.mk 10 0 [] [] [(TExpr.mk 3 0 [] [105] []),(TExpr.mk 1 1 [] [] [])])] [] [])] []),(⟨((some ⟨b11,0,none⟩),1),((some ⟨b24,0,none⟩),2),(none,0)⟩:SAt)),((TStmt.mk 6 [] [] [(TExpr.mk 3 0 [] [115,117,109] [])] [] []),(⟨((some ⟨b27,0,none⟩),1),(none,0),(none,0)⟩:SAt))] rfl rfl (fun _ hk=>by cases hk) SX.cells_len (fun _ _ _ _ h=>h) (show 3≤3 by decide) (by decide) fun H29 fH29 hH29=>?_
 refine V0 (Yb zr86 pl86 rfl rfl) ?_
 refine Lb (.inl rfl) rfl el24 rfl rfl rfl rfl fun b31=>?_
 refine LN (rd:=rdPX) (f:=PX.cells) (m:=1) 0 [((⟨[100,111,119,110],true,[[110]],[[105]],[(TStmt.mk 1 [] [105] [(TExpr.mk 3 0 [] [110] [])] [] []),(TStmt.mk 5 [] [] [(TExpr.mk 3 0 [] [105] [])] [(TStmt.mk 1 [] [115,117,109] [(TExpr.mk 9 0 [] [] [(TExpr.mk 3 0 [] [115,117,109] []),(TExpr.mk 3 0 [] [105] [])])] [] []),(TStmt.mk 1 [] [105] [(TExpr.mk 10 0 [] [] [(TExpr.mk 3 0 [] [105] []),(TExpr.mk 1 1 [] [] [])])] [] [])] []),(TStmt.mk 6 [] [] [(TExpr.mk 3 0 [] [115,117,109] [])] [] [])]⟩:TProc),(⟨((some ⟨b5,0,none⟩),1),((some ⟨b6,0,none⟩),1),((some ⟨b29,0,none⟩),3)⟩:PAt))] rfl rfl (fun _ hk=>by cases hk) PX.cells_len (fun _ _ _ _ h=>h) (show 1≤1 by decide) (by decide) fun H31 fH31 hH31=>?_
 refine V0 (Yb zr27 pl27 rfl rfl) ?_
 refine Lst 0 (.inl rfl) rfl rfl rfl sz27 rfl rfl rfl ?_
 refine Ln (Et (Crt ?_))
 refine WE.retc1 0 rfl rfl rfl ag27 rfl fun w' hw=>?_
 exact ⟨⟨none,0,(some ⟨b4,0,none⟩),3,(some ⟨b31,0,none⟩),1,none,0⟩,rfl,hw.fr,⟨Sl.nil,(slDecl_mv hH4 (nv_vs hw (by simp) fH4)),(slP_of hH31 (nv_vs hw (by simp) fH31) (VLe.refl _) ((PXs.nil _).snoc (VLe.refl _) (VLe.refl _) ⟨(slStr_mv hH5 (nv_vs hw (by simp) fH5)),(slStr_mv hH6 (nv_vs hw (by simp) fH6)),(slS_of hH29 (nv_vs hw (by simp) fH29) (VLe.refl _) ((((SXs.nil _ 5).snoc (VLe.refl _) (VLe.refl _) ⟨(slE_of hH8 (nv_vs hw (by simp) fH8) (VLe.refl _) ((XEs.nil _ 6).snoc (VLe.refl _) (VLe.refl _) Sl.nil)),Sl.nil,Sl.nil⟩).snoc (VLe.refl _) (VLe.refl _) ⟨(slE_of hH11 (nv_vs hw (by simp) fH11) (VLe.refl _) ((XEs.nil _ 6).snoc (VLe.refl _) (VLe.refl _) Sl.nil)),(slS_of hH24 (nv_vs hw (by simp) fH24) (VLe.refl _) (((SXs.nil _ 4).snoc (VLe.refl _) (VLe.refl _) ⟨(slE_of hH16 (nv_vs hw (by simp) fH16) (VLe.refl _) ((XEs.nil _ 6).snoc (VLe.refl _) (VLe.refl _) (slE_of hH14 (nv_vs hw (by simp) fH14) (VLe.refl _) (((XEs.nil _ 5).snoc (VLe.refl _) (VLe.refl _) Sl.nil).snoc (VLe.refl _) (VLe.refl _) Sl.nil)))),Sl.nil,Sl.nil⟩).snoc (VLe.refl _) (VLe.refl _) ⟨(slE_of hH22 (nv_vs hw (by simp) fH22) (VLe.refl _) ((XEs.nil _ 6).snoc (VLe.refl _) (VLe.refl _) (slE_of hH20 (nv_vs hw (by simp) fH20) (VLe.refl _) (((XEs.nil _ 5).snoc (VLe.refl _) (VLe.refl _) Sl.nil).snoc (VLe.refl _) (VLe.refl _) Sl.nil)))),Sl.nil,Sl.nil⟩)),Sl.nil⟩).snoc (VLe.refl _) (VLe.refl _) ⟨(slE_of hH27 (nv_vs hw (by simp) fH27) (VLe.refl _) ((XEs.nil _ 6).snoc (VLe.refl _) (VLe.refl _) Sl.nil)),Sl.nil,Sl.nil⟩))⟩)),Sl.nil⟩⟩
theorem topText_any (w:World) :
   Calls Tryz.prog 25 #[] w fun e w'=>e = .returned (st topS)∧Ext w w':=by
 refine enter Tryz.func25 rfl 1 rfl rfl ?_
 refine CWd (W':=Ws w [] [] []) (fun _ e=>by subst e; exact Ws.init (by simp)) ?_
 refine Cs (Cr ?_)
 refine V0 (Ya rfl) ?_
 refine Ln (Et (Cs (Cr ?_)))
 refine V0 (Ya rfl) ?_
 refine Ln (Et (Crt ?_))
 refine WE.ret1 rfl rfl fun w' hw=>?_
 exact ⟨rfl,hw.fr⟩
theorem scopeBegun_any (G:View) (w:World) (hG:Le G w) (hz:Laid G) :
   Calls Tryz.prog 8 #[] w fun e w'=>e = .returned (.bool true)∧Ext w w':=by
 refine enter Tryz.func8 rfl 115 rfl rfl ?_
 refine CWd (W':=Ws w [] [] [G]) (fun _ e=>by subst e; exact Ws.init (by simp [hG])) ?_
 refine Cs (Cr ?_)
 refine V0 (Ya rfl) ?_
 refine Ln (Et (Cs (Cr ?_)))
 refine Ld (.inl rfl) rfl en23 rfl (fun r:MAt=>.agg (modV cntM r).toArray) (fun H r=>RdM 7 6 H r cntM) (fun w hw=>counter_any w) ?_
 intro F12 r12 hf12 h12
 refine Ld (.inl rfl) rfl en6 rfl (fun r:SP=>.tuple #[.agg #[st cntN,.slice r.1 cntI.length r.2],.int .i64 0]) (fun H r=>Sl rdItem 4 H r.1 r.2 cntI) (fun w hw=>by
     have:=face_any F12 7 6 r12 cntM w (hw.vs _ (by simp)) h12 cnt_w
     rw [cnt_face] at this
     exact this) ?_
 intro F13 r13 hf13 h13
 refine V0 (Ym rfl) ?_
 refine V0 (Yx rfl rfl) ?_
 refine V0 (Yx rfl rfl) ?_
 refine WL.alloc (.inl rfl) rfl zr30 fun b1=>?_
 refine Lst 0 (.inl rfl) rfl rfl rfl sz30 rfl rfl rfl ?_
 refine V0 (Ya rfl) ?_
 refine Ln (Et (Cs (Cr ?_)))
 refine Ld (.inl rfl) rfl en23 rfl (fun r:MAt=>.agg (modV cntM r).toArray) (fun H r=>RdM 7 6 H r cntM) (fun w hw=>counter_any w) ?_
 intro F17 r17 hf17 h17
 refine Ld (.inl rfl) rfl en12 rfl (fun r:UAt=>.tuple #[.agg (unitV (resolveM cntM []).1 r).toArray,.int .i64 (resolveM cntM []).2]) (fun F r=>RdU (7+1) (6+1) F r (resolveM cntM []).1) (fun w hw=>by
     skip
     exact resolve_any F17 F17 7 6 r17 cntM none 0 [] w (hw.vs _ (by simp)) (hw.vs _ (by simp)) h17 Sl.nil cnt_w) ?_
 intro F18 r18 hf18 h18
 refine V0 (Ym rfl) ?_
 refine V0 (Yx rfl rfl) ?_
 refine V0 (Yx rfl rfl) ?_
 refine WL.alloc (.inl rfl) rfl zr42 fun b3=>?_
 refine Lst 0 (.inl rfl) rfl rfl rfl sz42 rfl rfl rfl ?_
 refine V0 (Ya rfl) ?_
 refine Ln (Et (Cs (Cr ?_)))
 refine Lp (.inl rfl) rfl en25 rfl (fun w hw=>topText_any w) ?_
 refine Ld (.inl rfl) rfl en24 rfl (fun r:MAt=>.tuple #[.agg (modV (topM) r).toArray,.int .i64 ((parseM topS).2)]) (fun H r=>RdM 7 6 H r (topM)) (fun w hw=>by
     have:=treeParse_any G (topS) w (hw.vs _ (by simp)) hz
     exact this) ?_
 intro F23 r23 hf23 h23
 refine V0 (Ym rfl) ?_
 refine V0 (Yx rfl rfl) ?_
 refine V0 (Yx rfl rfl) ?_
 refine WL.alloc (.inl rfl) rfl zr27 fun b5=>?_
 refine Lst 0 (.inl rfl) rfl rfl rfl sz27 rfl rfl rfl ?_
 refine V0 (Ya rfl) ?_
 refine Ln (Et ?_)
 refine WC.cutE (ι:=Nat×UAt×View) (fun q0=>[(1,.pointer (some ⟨b1,0,none⟩)),(2,.int .i64 0),(3,.pointer (some ⟨b3,0,none⟩)),(4,.int .i64 (resolveM cntM []).2),(5,.pointer (some ⟨b5,0,none⟩)),(6,.int .i64 (parseM topS).2),(7,.pointer (some ⟨q0.1,0,none⟩)),(8,.int .i64 (resolveM topM fsC).2)]) (fun q0=>Ws w [] [blk q0.1 (.cells (unitV (resolveM topM fsC).1 q0.2.1).toArray 42 (0,0)),blk b5 (.cells (modV topM r23).toArray 27 (0,0)),blk b3 (.cells (unitV (resolveM cntM []).1 r18).toArray 42 (0,0)),blk b1 (.cells #[st cntN,.slice r13.1 cntI.length r13.2] 30 (0,0))] [q0.2.2,F23,F18,F13,G]) (fun q0=>RdU 8 7 q0.2.2 q0.2.1 (resolveM topM fsC).1) ?_ ?_
 ·
  refine WC.drawt0 (.q 0 (.e 1 (.e 2 (.e 3 (.q 4 (.q 5 (.q 6 (.e 7 (.e 8 (.e 9 .nil .stop) .stop) .stop)))) (.e 7 (.e 3 (.q 4 (.q 5 (.q 6 (.e 8 (.e 9 .nil .stop) .stop)))) .stop) .stop)) (.e 7 (.e 2 (.e 3 (.q 4 (.q 5 (.q 6 (.e 8 (.e 9 .nil .stop) .stop)))) .stop) .stop) .stop)) (.e 7 (.e 1 (.e 2 (.e 3 (.q 4 (.q 5 (.q 6 (.e 8 (.e 9 .nil .stop) .stop)))) .stop) .stop) .stop) .stop))) mixed (by kernel_rfl) (fun _ _ _ d _ h=>by cases d<;>exact h) ?_
  refine WT.q rfl (.inl rfl) rfl (fun _ h=>h) (Yda 0 rfl rfl ag27 rfl) ?_
  refine WT.e rfl (fun _ h=>h) ?_ ?_
  ·
   refine Ld (.inl rfl) rfl en26 rfl (fun r:SP=>.agg #[st cntN,.slice r.1 cntI.length r.2]) (fun F r=>Sl rdItem 4 F r.1 r.2 cntI) (fun w hw=>counted_any w) ?_
   intro F28 r28 hf28 h28
   refine Ln (Ett ?_)
   refine WT.e rfl (fun _ h=>by have h:=Ws.drops h (fun _ hm=>List.mem_append_right [_] hm); exact h) ?_ ?_
   ·
    refine Lb (.inl rfl) rfl el38 rfl rfl rfl rfl fun b29=>?_
    refine Ln (Ett ?_)
    refine WT.e rfl (fun _ h=>by have h:=Ws.drop (L:=[_]) (L':=_) h; have h:=Ws.drops h (fun _ hm=>List.mem_append_right [_] hm); exact h) ?_ ?_
    ·
     refine Ld (.inl rfl) rfl en12 rfl (fun r:UAt=>.tuple #[.agg (unitV (resolveM topM fsC).1 r).toArray,.int .i64 (resolveM topM fsC).2]) (fun F r=>RdU (7+1) (6+1) F r (resolveM topM fsC).1) (fun w hw=>by
         have hfc:Sl rdFace 2 (hv w) (some ⟨b29,0,none⟩) 1 fsC:=⟨by decide,by decide,by simp,fun j x hj=>⟨b29,0,rfl,by
           match j,hj with
           | 0,hj=>simp only [fsC,List.getElem?_cons_zero,Option.some.injEq] at hj; subst hj; exact ⟨r28,fun k v hk=>by
               match k,hk with
               | 0,hk=>simp [faceV] at hk; subst hk; exact hw.hvb 0 rfl rfl
               | 1,hk=>simp [faceV] at hk; subst hk; exact hw.hvb 0 rfl rfl,slItem_mv (hv_of (hw.vs F28 (by simp))) h28⟩⟩⟩
         exact resolve_any F23 (hv w) 7 6 r23 topM (some ⟨b29,0,none⟩) 1 fsC w (hw.vs _ (by simp)) (hv_le w) h23 hfc (by have:=parseM_w topS; show wM (parseM topS).1≤_; omega)) ?_
     intro F30 r30 hf30 h30
     refine Ln (Ett ?_)
     refine WT.q rfl (.inl rfl) rfl (fun _ h=>by have h:=Ws.drop (L:=[_]) (L':=_) h; have h:=Ws.drops h (fun _ hm=>List.mem_append_right [_,_] hm); exact h) (Ym rfl) ?_
     refine WT.q rfl (.inl rfl) rfl (fun _ h=>by have h:=Ws.drop (L:=[_]) (L':=_) h; have h:=Ws.drops h (fun _ hm=>List.mem_append_right [_,_] hm); exact h) (Yx rfl rfl) ?_
     refine WT.q rfl (.inl rfl) rfl (fun _ h=>by have h:=Ws.drop (L:=[_]) (L':=_) h; have h:=Ws.drops h (fun _ hm=>List.mem_append_right [_,_] hm); exact h) (Yx rfl rfl) ?_
     refine WT.e rfl (fun _ h=>by have h:=Ws.drop (L:=[_]) (L':=_) h; have h:=Ws.drops h (fun _ hm=>List.mem_append_right [_,_] hm); exact h) ?_ WT.stop
     refine WL.alloc (.inl rfl) rfl zr42 fun b7=>?_
     refine Ln (Ett ?_)
     refine WT.e rfl (fun _ h=>by have h:=Ws.drop (L:=[_,_]) (L':=_) h; have h:=Ws.drops h (fun _ hm=>List.mem_append_right [_,_] hm); exact h) ?_ WT.stop
     refine Lst 0 (.inl rfl) rfl rfl rfl sz42 rfl rfl rfl ?_
     refine Ln (Ett ?_)
     refine WT.e rfl (fun _ h=>by have h:=Ws.drop (L:=[_,_]) (L':=_) h; have h:=Ws.drops h (fun _ hm=>List.mem_append_right [_,_] hm); exact h) ?_ WT.stop
     refine V0 (Ya rfl) ?_
     refine Ln (Ett ?_)
     refine WT.nil (fun _ h=>by have h:=Ws.drop (L:=[_,_]) (L':=_) h; have h:=Ws.drops h (fun _ hm=>List.mem_append_right [_,_] hm); exact h) ?_
     exact WE.meetE (b7,r30,F30) h30 (sc rfl (sc rfl (sc rfl (sc rfl (sc rfl (sc rfl (sc rfl (sc rfl sn)))))))) (fun _ h=>by
       have h:=h.fronti 4 rfl
       have h:=h.fronti 4 rfl
       have h:=h.fronti 4 rfl
       have h:=h.fronti 3 rfl
       have h:=Ws.keep (L:=[_,_,_,_]) h
       have h:=Ws.drops h (Vs':=[F30,F23,F18,F13,G]) (by simp)
       exact h)
    refine WT.e rfl (fun _ h=>by have h:=Ws.drop (L:=[_]) (L':=_) h; have h:=Ws.drops h (fun _ hm=>List.mem_append_right [_] hm); exact h) ?_ WT.stop
    refine WL.alloc (.inl rfl) rfl zr42 fun b7=>?_
    refine Ln (Ett ?_)
    refine WT.e rfl (fun _ h=>by have h:=Ws.drop (L:=[_,_]) (L':=_) h; have h:=Ws.drops h (fun _ hm=>List.mem_append_right [_] hm); exact h) ?_ WT.stop
    refine Ld (.inl rfl) rfl en12 rfl (fun r:UAt=>.tuple #[.agg (unitV (resolveM topM fsC).1 r).toArray,.int .i64 (resolveM topM fsC).2]) (fun F r=>RdU (7+1) (6+1) F r (resolveM topM fsC).1) (fun w hw=>by
        have hfc:Sl rdFace 2 (hv w) (some ⟨b29,0,none⟩) 1 fsC:=⟨by decide,by decide,by simp,fun j x hj=>⟨b29,0,rfl,by
          match j,hj with
          | 0,hj=>simp only [fsC,List.getElem?_cons_zero,Option.some.injEq] at hj; subst hj; exact ⟨r28,fun k v hk=>by
              match k,hk with
              | 0,hk=>simp [faceV] at hk; subst hk; exact hw.hvb 1 rfl rfl
              | 1,hk=>simp [faceV] at hk; subst hk; exact hw.hvb 1 rfl rfl,slItem_mv (hv_of (hw.vs F28 (by simp))) h28⟩⟩⟩
        exact resolve_any F23 (hv w) 7 6 r23 topM (some ⟨b29,0,none⟩) 1 fsC w (hw.vs _ (by simp)) (hv_le w) h23 hfc (by have:=parseM_w topS; show wM (parseM topS).1≤_; omega)) ?_
    intro F30 r30 hf30 h30
    refine Ln (Ett ?_)
    refine WT.q rfl (.inl rfl) rfl (fun _ h=>by have h:=Ws.drop (L:=[_,_]) (L':=_) h; have h:=Ws.drops h (fun _ hm=>List.mem_append_right [_,_] hm); exact h) (Ym rfl) ?_
    refine WT.q rfl (.inl rfl) rfl (fun _ h=>by have h:=Ws.drop (L:=[_,_]) (L':=_) h; have h:=Ws.drops h (fun _ hm=>List.mem_append_right [_,_] hm); exact h) (Yx rfl rfl) ?_
    refine WT.q rfl (.inl rfl) rfl (fun _ h=>by have h:=Ws.drop (L:=[_,_]) (L':=_) h; have h:=Ws.drops h (fun _ hm=>List.mem_append_right [_,_] hm); exact h) (Yx rfl rfl) ?_
    refine WT.e rfl (fun _ h=>by have h:=Ws.drop (L:=[_,_]) (L':=_) h; have h:=Ws.drops h (fun _ hm=>List.mem_append_right [_,_] hm); exact h) ?_ WT.stop
    refine Lst 0 (.inl rfl) rfl rfl rfl sz42 rfl rfl rfl ?_
    refine Ln (Ett ?_)
    refine WT.e rfl (fun _ h=>by have h:=Ws.drop (L:=[_,_]) (L':=_) h; have h:=Ws.drops h (fun _ hm=>List.mem_append_right [_,_] hm); exact h) ?_ WT.stop
    refine V0 (Ya rfl) ?_
    refine Ln (Ett ?_)
    refine WT.nil (fun _ h=>by have h:=Ws.drop (L:=[_,_]) (L':=_) h; have h:=Ws.drops h (fun _ hm=>List.mem_append_right [_,_] hm); exact h) ?_
    exact WE.meetE (b7,r30,F30) h30 (sc rfl (sc rfl (sc rfl (sc rfl (sc rfl (sc rfl (sc rfl (sc rfl sn)))))))) (fun _ h=>by
      have h:=h.fronti 4 rfl
      have h:=h.fronti 4 rfl
      have h:=h.fronti 4 rfl
      have h:=h.fronti 3 rfl
      have h:=Ws.keep (L:=[_,_,_,_]) h
      have h:=Ws.drops h (Vs':=[F30,F23,F18,F13,G]) (by simp)
      exact h)
   refine WT.e rfl (fun _ h=>by have h:=Ws.drops h (fun _ hm=>List.mem_append_right [_] hm); exact h) ?_ WT.stop
   refine WL.alloc (.inl rfl) rfl zr42 fun b7=>?_
   refine Ln (Ett ?_)
   refine WT.e rfl (fun _ h=>by have h:=Ws.drop (L:=[_]) (L':=_) h; have h:=Ws.drops h (fun _ hm=>List.mem_append_right [_] hm); exact h) ?_ WT.stop
   refine Lb (.inl rfl) rfl el38 rfl rfl rfl rfl fun b29=>?_
   refine Ln (Ett ?_)
   refine WT.e rfl (fun _ h=>by have h:=Ws.drop (L:=[_,_]) (L':=_) h; have h:=Ws.drops h (fun _ hm=>List.mem_append_right [_] hm); exact h) ?_ WT.stop
   refine Ld (.inl rfl) rfl en12 rfl (fun r:UAt=>.tuple #[.agg (unitV (resolveM topM fsC).1 r).toArray,.int .i64 (resolveM topM fsC).2]) (fun F r=>RdU (7+1) (6+1) F r (resolveM topM fsC).1) (fun w hw=>by
       have hfc:Sl rdFace 2 (hv w) (some ⟨b29,0,none⟩) 1 fsC:=⟨by decide,by decide,by simp,fun j x hj=>⟨b29,0,rfl,by
         match j,hj with
         | 0,hj=>simp only [fsC,List.getElem?_cons_zero,Option.some.injEq] at hj; subst hj; exact ⟨r28,fun k v hk=>by
             match k,hk with
             | 0,hk=>simp [faceV] at hk; subst hk; exact hw.hvb 0 rfl rfl
             | 1,hk=>simp [faceV] at hk; subst hk; exact hw.hvb 0 rfl rfl,slItem_mv (hv_of (hw.vs F28 (by simp))) h28⟩⟩⟩
       exact resolve_any F23 (hv w) 7 6 r23 topM (some ⟨b29,0,none⟩) 1 fsC w (hw.vs _ (by simp)) (hv_le w) h23 hfc (by have:=parseM_w topS; show wM (parseM topS).1≤_; omega)) ?_
   intro F30 r30 hf30 h30
   refine Ln (Ett ?_)
   refine WT.q rfl (.inl rfl) rfl (fun _ h=>by have h:=Ws.drop (L:=[_,_]) (L':=_) h; have h:=Ws.drops h (fun _ hm=>List.mem_append_right [_,_] hm); exact h) (Ym rfl) ?_
   refine WT.q rfl (.inl rfl) rfl (fun _ h=>by have h:=Ws.drop (L:=[_,_]) (L':=_) h; have h:=Ws.drops h (fun _ hm=>List.mem_append_right [_,_] hm); exact h) (Yx rfl rfl) ?_
   refine WT.q rfl (.inl rfl) rfl (fun _ h=>by have h:=Ws.drop (L:=[_,_]) (L':=_) h; have h:=Ws.drops h (fun _ hm=>List.mem_append_right [_,_] hm); exact h) (Yx rfl rfl) ?_
   refine WT.e rfl (fun _ h=>by have h:=Ws.drop (L:=[_,_]) (L':=_) h; have h:=Ws.drops h (fun _ hm=>List.mem_append_right [_,_] hm); exact h) ?_ WT.stop
   refine Lst 1 (.inl rfl) rfl rfl rfl sz42 rfl rfl rfl ?_
   refine Ln (Ett ?_)
   refine WT.e rfl (fun _ h=>by have h:=Ws.drop (L:=[_,_]) (L':=_) h; have h:=Ws.drops h (fun _ hm=>List.mem_append_right [_,_] hm); exact h) ?_ WT.stop
   refine V0 (Ya rfl) ?_
   refine Ln (Ett ?_)
   refine WT.nil (fun _ h=>by have h:=Ws.drop (L:=[_,_]) (L':=_) h; have h:=Ws.drops h (fun _ hm=>List.mem_append_right [_,_] hm); exact h) ?_
   exact WE.meetE (b7,r30,F30) h30 (sc rfl (sc rfl (sc rfl (sc rfl (sc rfl (sc rfl (sc rfl (sc rfl sn)))))))) (fun _ h=>by
     have h:=h.fronti 4 rfl
     have h:=h.fronti 4 rfl
     have h:=h.fronti 4 rfl
     have h:=h.fronti 4 rfl
     have h:=Ws.keep (L:=[_,_,_,_]) h
     have h:=Ws.drops h (Vs':=[F30,F23,F18,F13,G]) (by simp)
     exact h)
  refine WT.e rfl (fun _ h=>h) ?_ WT.stop
  refine WL.alloc (.inl rfl) rfl zr42 fun b7=>?_
  refine Ln (Ett ?_)
  refine WT.e rfl (fun _ h=>by have h:=Ws.drop (L:=[_]) (L':=_) h; exact h) ?_ WT.stop
  refine Ld (.inl rfl) rfl en26 rfl (fun r:SP=>.agg #[st cntN,.slice r.1 cntI.length r.2]) (fun F r=>Sl rdItem 4 F r.1 r.2 cntI) (fun w hw=>counted_any w) ?_
  intro F28 r28 hf28 h28
  refine Ln (Ett ?_)
  refine WT.e rfl (fun _ h=>by have h:=Ws.drop (L:=[_]) (L':=_) h; have h:=Ws.drops h (fun _ hm=>List.mem_append_right [_] hm); exact h) ?_ WT.stop
  refine Lb (.inl rfl) rfl el38 rfl rfl rfl rfl fun b29=>?_
  refine Ln (Ett ?_)
  refine WT.e rfl (fun _ h=>by have h:=Ws.drop (L:=[_,_]) (L':=_) h; have h:=Ws.drops h (fun _ hm=>List.mem_append_right [_] hm); exact h) ?_ WT.stop
  refine Ld (.inl rfl) rfl en12 rfl (fun r:UAt=>.tuple #[.agg (unitV (resolveM topM fsC).1 r).toArray,.int .i64 (resolveM topM fsC).2]) (fun F r=>RdU (7+1) (6+1) F r (resolveM topM fsC).1) (fun w hw=>by
      have hfc:Sl rdFace 2 (hv w) (some ⟨b29,0,none⟩) 1 fsC:=⟨by decide,by decide,by simp,fun j x hj=>⟨b29,0,rfl,by
        match j,hj with
        | 0,hj=>simp only [fsC,List.getElem?_cons_zero,Option.some.injEq] at hj; subst hj; exact ⟨r28,fun k v hk=>by
            match k,hk with
            | 0,hk=>simp [faceV] at hk; subst hk; exact hw.hvb 0 rfl rfl
            | 1,hk=>simp [faceV] at hk; subst hk; exact hw.hvb 0 rfl rfl,slItem_mv (hv_of (hw.vs F28 (by simp))) h28⟩⟩⟩
      exact resolve_any F23 (hv w) 7 6 r23 topM (some ⟨b29,0,none⟩) 1 fsC w (hw.vs _ (by simp)) (hv_le w) h23 hfc (by have:=parseM_w topS; show wM (parseM topS).1≤_; omega)) ?_
  intro F30 r30 hf30 h30
  refine Ln (Ett ?_)
  refine WT.q rfl (.inl rfl) rfl (fun _ h=>by have h:=Ws.drop (L:=[_,_]) (L':=_) h; have h:=Ws.drops h (fun _ hm=>List.mem_append_right [_,_] hm); exact h) (Ym rfl) ?_
  refine WT.q rfl (.inl rfl) rfl (fun _ h=>by have h:=Ws.drop (L:=[_,_]) (L':=_) h; have h:=Ws.drops h (fun _ hm=>List.mem_append_right [_,_] hm); exact h) (Yx rfl rfl) ?_
  refine WT.q rfl (.inl rfl) rfl (fun _ h=>by have h:=Ws.drop (L:=[_,_]) (L':=_) h; have h:=Ws.drops h (fun _ hm=>List.mem_append_right [_,_] hm); exact h) (Yx rfl rfl) ?_
  refine WT.e rfl (fun _ h=>by have h:=Ws.drop (L:=[_,_]) (L':=_) h; have h:=Ws.drops h (fun _ hm=>List.mem_append_right [_,_] hm); exact h) ?_ WT.stop
  refine Lst 1 (.inl rfl) rfl rfl rfl sz42 rfl rfl rfl ?_
  refine Ln (Ett ?_)
  refine WT.e rfl (fun _ h=>by have h:=Ws.drop (L:=[_,_]) (L':=_) h; have h:=Ws.drops h (fun _ hm=>List.mem_append_right [_,_] hm); exact h) ?_ WT.stop
  refine V0 (Ya rfl) ?_
  refine Ln (Ett ?_)
  refine WT.nil (fun _ h=>by have h:=Ws.drop (L:=[_,_]) (L':=_) h; have h:=Ws.drops h (fun _ hm=>List.mem_append_right [_,_] hm); exact h) ?_
  exact WE.meetE (b7,r30,F30) h30 (sc rfl (sc rfl (sc rfl (sc rfl (sc rfl (sc rfl (sc rfl (sc rfl sn)))))))) (fun _ h=>by
    have h:=h.fronti 4 rfl
    have h:=h.fronti 4 rfl
    have h:=h.fronti 4 rfl
    have h:=h.fronti 4 rfl
    have h:=Ws.keep (L:=[_,_,_,_]) h
    have h:=Ws.drops h (Vs':=[F30,F23,F18,F13,G]) (by simp)
    exact h)
 intro ⟨b7,r30,F30⟩ h30
 refine Cs (Cr ?_)
 refine V0 (Yda 1 rfl rfl ag27 rfl) ?_
 refine Ld (.inl rfl) rfl en12 rfl (fun r:UAt=>.tuple #[.agg (unitV (resolveM topM []).1 r).toArray,.int .i64 (resolveM topM []).2]) (fun F r=>RdU (7+1) (6+1) F r (resolveM topM []).1) (fun w hw=>by
     skip
     exact resolve_any F23 F23 7 6 r23 topM none 0 [] w (hw.vs _ (by simp)) (hw.vs _ (by simp)) h23 Sl.nil (by have:=parseM_w topS; show wM (parseM topS).1≤_; omega)) ?_
 intro F35 r35 hf35 h35
 refine V0 (Ym rfl) ?_
 refine V0 (Yx rfl rfl) ?_
 refine V0 (Yx rfl rfl) ?_
 refine WL.alloc (.inl rfl) rfl zr42 fun b9=>?_
 refine Lst 0 (.inl rfl) rfl rfl rfl sz42 rfl rfl rfl ?_
 refine V0 (Ya rfl) ?_
 refine Ln (Et (Cs ?_))
 obtain ⟨tp,htp0,htp⟩:=cnt_part
 obtain ⟨pb,po,hap,rp,hrp,hsp⟩:=h18.parts.elt 0 tp htp0
 obtain ⟨ta,hta0,hta1,hta2,hta3⟩:=top_act
 obtain ⟨qb,qo,haa,ra,hra,hsa,hsb,hsc⟩:=h30.main.elt 0 ta hta0
 have hpl:=cnt_parts
 have hml:=top_len
 have hpc:=h18.parts.cap
 have hpm:=h18.parts.max
 have hmc:=h30.main.cap
 have hmm:=h30.main.max
 refine WC.draws0 [(0,true),(1,true),(2,true),(3,true),(4,true),(5,true),(6,true),(7,true),(8,true),(9,true),(10,true),(11,true),(12,true),(13,true),(14,true),(15,true),(16,true),(17,true),(18,true),(19,true),(20,false),(21,false),(22,true),(23,true),(24,true),(25,false),(26,true),(27,true),(28,true),(29,true),(30,true),(31,true),(32,true),(33,true),(34,true),(35,true),(36,true),(37,true),(38,true),(39,true),(40,true),(41,true),(42,true),(43,true),(44,true),(45,true),(46,true),(47,true),(48,true),(49,true),(50,true),(51,true),(52,true),(53,true),(54,true),(55,true),(56,true),(57,true),(58,true),(59,true),(60,true),(61,true),(62,true),(63,true),(64,true),(65,true),(66,true),(67,true),(68,true),(69,true),(70,true),(71,true),(72,true),(73,true),(74,true),(75,true),(76,true),(77,true)] mixed (by kernel_rfl) (fun _ _ _ d _ h=>by cases d<;>exact h) ?_
 refine Dq rfl (.inl rfl) rfl (fun _ h=>h) (Ym rfl) ?_
 refine Dq rfl (.inl rfl) rfl (fun _ h=>h) (yl_eqiY rfl rfl rfl) ?_
 refine Dq rfl (.inl rfl) rfl (fun _ h=>h) (Ym rfl) ?_
 apply WD.and 2 (x:=true) rfl rfl rfl rfl rfl (.inl rfl) rfl (fun _ h=>h) rfl rfl rfl rfl
 ·
  intro hg0
  refine Dq rfl (.g rfl rfl rfl) rfl (fun _ h=>h) (Ym rfl) ?_
  refine Dq rfl (.g rfl rfl rfl) rfl (fun _ h=>h) (yl_eqiY rfl rfl cnt_res) ?_
  exact Gi 2 (fun _ h=>h) rfl rfl rfl
 refine Dq rfl (.inl rfl) rfl (fun _ h=>h) (Ym rfl) ?_
 apply WD.and 2 (x:=true) rfl rfl rfl rfl rfl (.inl rfl) rfl (fun _ h=>h) rfl rfl rfl rfl
 ·
  intro hg1
  refine Dq rfl (.g rfl rfl rfl) rfl (fun _ h=>h) (Ym rfl) ?_
  refine Dq rfl (.g rfl rfl rfl) rfl (fun _ h=>h) (yl_eqiY rfl rfl top_parse) ?_
  exact Gi 2 (fun _ h=>h) rfl rfl rfl
 refine Dq rfl (.inl rfl) rfl (fun _ h=>h) (Ym rfl) ?_
 apply WD.and 2 (x:=true) rfl rfl rfl rfl rfl (.inl rfl) rfl (fun _ h=>h) rfl rfl rfl rfl
 ·
  intro hg2
  refine Dq rfl (.g rfl rfl rfl) rfl (fun _ h=>h) (Ym rfl) ?_
  refine Dq rfl (.g rfl rfl rfl) rfl (fun _ h=>h) (yl_eqiY rfl rfl top_res) ?_
  exact Gi 2 (fun _ h=>h) rfl rfl rfl
 refine Dq rfl (.inl rfl) rfl (fun _ h=>h) (Ym rfl) ?_
 apply WD.and 2 (x:=true) rfl rfl rfl rfl rfl (.inl rfl) rfl (fun _ h=>h) rfl rfl rfl rfl
 ·
  intro hg3
  refine Dq rfl (.g rfl rfl rfl) rfl (fun _ h=>h) (Ym rfl) ?_
  refine Dq rfl (.g rfl rfl rfl) rfl (fun _ h=>h) (yl_eqiY rfl rfl top_res8) ?_
  exact Gi 2 (fun _ h=>h) rfl rfl rfl
 refine Dq rfl (.inl rfl) rfl (fun _ h=>h) (Ym rfl) ?_
 apply WD.and 3 (x:=true) rfl rfl rfl rfl rfl (.inl rfl) rfl (fun _ h=>h) rfl rfl rfl rfl
 ·
  intro hg4
  refine Dq rfl (.g rfl rfl rfl) rfl (fun _ h=>h) (Yda 4 rfl rfl ag30 rfl) ?_
  refine De rfl (fun _ h=>h) ?_
  refine Ld (.g rfl rfl rfl) rfl en26 rfl (fun r:SP=>.agg #[st cntN,.slice r.1 cntI.length r.2]) (fun F r=>Sl rdItem 4 F r.1 r.2 cntI) (fun w hw=>counted_any w) ?_
  intro F58 r58 hf58 h58
  refine Ln (Ed ?_)
  refine De rfl (fun _ h=>by have h:=Ws.drops h (fun _ hm=>List.mem_append_right [_] hm); exact h) ?_
  refine Lp (.g rfl rfl rfl) rfl en9 rfl (fun w hw=>sameFaces_eq F13 F58 r13.1 r58.1 r13.2 r58.2 cntN cntI w (hw.vs _ (by simp)) (hw.vs _ (by simp)) h13 h58) ?_
  refine Ln (Ed ?_)
  refine WD.wk (W':=Ws _ _ [_,_,_,_,_] [_,_,_,_,_,_]) (fun _ h=>Ws.drops (h) (fun _ hm=>List.mem_append_right [_] hm)) ?_
  exact Gi 3 (fun _ h=>h) rfl rfl rfl
 refine Dq rfl (.inl rfl) rfl (fun _ h=>h) (Ym rfl) ?_
 apply WD.and 3 (x:=true) rfl rfl rfl rfl rfl (.inl rfl) rfl (fun _ h=>h) rfl rfl rfl rfl
 ·
  intro hg5
  refine Dq rfl (.g rfl rfl rfl) rfl (fun _ h=>h) (Yda 4 rfl rfl ag30 rfl) ?_
  refine De rfl (fun _ h=>h) ?_
  refine Lp (.g rfl rfl rfl) rfl en10 rfl (fun w hw=>scopeCheck_any F13 r13.1 r13.2 cntN cntI w (hw.vs _ (by simp)) h13) ?_
  refine Ln (Ed ?_)
  refine Dq rfl (.g rfl rfl rfl) rfl (fun _ h=>h) (yl_eqiY rfl rfl cnt_fe) ?_
  exact Gi 3 (fun _ h=>h) rfl rfl rfl
 refine Dq rfl (.inl rfl) rfl (fun _ h=>h) (Ym rfl) ?_
 apply WD.and 3 (x:=true) rfl rfl rfl rfl rfl (.inl rfl) rfl (fun _ h=>h) rfl rfl rfl rfl
 ·
  intro hg6
  refine Dq rfl (.g rfl rfl rfl) rfl (fun _ h=>h) (Yf fo42_2 rfl) ?_
  refine Dq rfl (.g rfl rfl rfl) rfl (fun _ h=>h) (Yd 3 rfl rfl rfl na3) ?_
  refine Dq rfl (.g rfl rfl rfl) rfl (fun _ h=>h) (yl_eqiY rfl rfl cnt_data) ?_
  exact Gi 3 (fun _ h=>h) rfl rfl rfl
 refine Dq rfl (.inl rfl) rfl (fun _ h=>h) (Ym rfl) ?_
 apply WD.and 4 (x:=true) rfl rfl rfl rfl rfl (.inl rfl) rfl (fun _ h=>h) rfl rfl rfl rfl
 ·
  intro hg7
  refine Dq rfl (.g rfl rfl rfl) rfl (fun _ h=>h) (Yf fo42_3 rfl) ?_
  refine Dq rfl (.g rfl rfl rfl) rfl (fun _ h=>h) (Yd 3 rfl rfl rfl na39) ?_
  refine Dq rfl (.g rfl rfl rfl) rfl (fun _ h=>h) (Yn es39 rfl) ?_
  refine Dq rfl (.g rfl rfl rfl) rfl (fun _ h=>h) (yl_eqiY rfl rfl (by rw [cnt_parts]; rfl)) ?_
  exact Gi 4 (fun _ h=>h) rfl rfl rfl
 refine Dq rfl (.inl rfl) rfl (fun _ h=>h) (Ym rfl) ?_
 apply WD.and 6 (x:=true) rfl rfl rfl rfl rfl (.inl rfl) rfl (fun _ h=>h) rfl rfl rfl rfl
 ·
  intro hg8
  refine Dq rfl (.g rfl rfl rfl) rfl (fun _ h=>h) (Yf fo42_3 rfl) ?_
  refine Dq rfl (.g rfl rfl rfl) rfl (fun _ h=>h) (Yd 3 rfl rfl rfl na39) ?_
  refine Dq rfl (.g rfl rfl rfl) rfl (fun _ h=>h) (Yo (i:=0) es39 rfl rfl hap (by rw [hpl]; decide)) ?_
  refine Dq rfl (.g rfl rfl rfl) rfl (fun _ h=>h) (Yf fo65_1 rfl) ?_
  refine Dq rfl (.g rfl rfl rfl) rfl (fun _ h=>h) (yl_ld 3 na3 rfl rfl (hrp 1 _ rfl)) ?_
  refine Dq rfl (.g rfl rfl rfl) rfl (fun _ h=>h) (yl_eqiY rfl rfl htp) ?_
  exact Gi 6 (fun _ h=>h) rfl rfl rfl
 refine Dq rfl (.inl rfl) rfl (fun _ h=>h) (Ym rfl) ?_
 apply WD.and 4 (x:=true) rfl rfl rfl rfl rfl (.inl rfl) rfl (fun _ h=>h) rfl rfl rfl rfl
 ·
  intro hg9
  refine Dq rfl (.g rfl rfl rfl) rfl (fun _ h=>h) (Yf fo42_4 rfl) ?_
  refine Dq rfl (.g rfl rfl rfl) rfl (fun _ h=>h) (Yd 1 rfl rfl rfl na40) ?_
  refine Dq rfl (.g rfl rfl rfl) rfl (fun _ h=>h) (Yn es40 rfl) ?_
  refine Dq rfl (.g rfl rfl rfl) rfl (fun _ h=>h) (yl_eqiY rfl rfl (by rw [top_len]; rfl)) ?_
  exact Gi 4 (fun _ h=>h) rfl rfl rfl
 refine Dq rfl (.inl rfl) rfl (fun _ h=>h) (Ym rfl) ?_
 apply WD.and 6 (x:=true) rfl rfl rfl rfl rfl (.inl rfl) rfl (fun _ h=>h) rfl rfl rfl rfl
 ·
  intro hg10
  refine Dq rfl (.g rfl rfl rfl) rfl (fun _ h=>h) (Yf fo42_4 rfl) ?_
  refine Dq rfl (.g rfl rfl rfl) rfl (fun _ h=>h) (Yd 1 rfl rfl rfl na40) ?_
  refine Dq rfl (.g rfl rfl rfl) rfl (fun _ h=>h) (Yo (i:=0) es40 rfl rfl haa (by rw [hml]; decide)) ?_
  refine Dq rfl (.g rfl rfl rfl) rfl (fun _ h=>h) (Yf fo68_2 rfl) ?_
  refine Dq rfl (.g rfl rfl rfl) rfl (fun _ h=>h) (yl_ld 1 na3 rfl rfl (hra 2 _ rfl)) ?_
  refine Dq rfl (.g rfl rfl rfl) rfl (fun _ h=>h) (yl_eqiY rfl rfl hta1) ?_
  exact Gi 6 (fun _ h=>h) rfl rfl rfl
 refine Dq rfl (.inl rfl) rfl (fun _ h=>h) (Ym rfl) ?_
 apply WD.and 6 (x:=true) rfl rfl rfl rfl rfl (.inl rfl) rfl (fun _ h=>h) rfl rfl rfl rfl
 ·
  intro hg11
  refine Dq rfl (.g rfl rfl rfl) rfl (fun _ h=>h) (Yf fo42_4 rfl) ?_
  refine Dq rfl (.g rfl rfl rfl) rfl (fun _ h=>h) (Yd 1 rfl rfl rfl na40) ?_
  refine Dq rfl (.g rfl rfl rfl) rfl (fun _ h=>h) (Yo (i:=0) es40 rfl rfl haa (by rw [hml]; decide)) ?_
  refine Dq rfl (.g rfl rfl rfl) rfl (fun _ h=>h) (Yf fo68_3 rfl) ?_
  refine Dq rfl (.g rfl rfl rfl) rfl (fun _ h=>h) (yl_ld 1 na3 rfl rfl (hra 3 _ rfl)) ?_
  refine Dq rfl (.g rfl rfl rfl) rfl (fun _ h=>h) (yl_eqiY rfl rfl hta2) ?_
  exact Gi 6 (fun _ h=>h) rfl rfl rfl
 refine Dq rfl (.inl rfl) rfl (fun _ h=>h) (Ym rfl) ?_
 apply WD.and 6 (x:=true) rfl rfl rfl rfl rfl (.inl rfl) rfl (fun _ h=>h) rfl rfl rfl rfl
 ·
  intro hg12
  refine Dq rfl (.g rfl rfl rfl) rfl (fun _ h=>h) (Yf fo42_4 rfl) ?_
  refine Dq rfl (.g rfl rfl rfl) rfl (fun _ h=>h) (Yd 1 rfl rfl rfl na40) ?_
  refine Dq rfl (.g rfl rfl rfl) rfl (fun _ h=>h) (Yo (i:=0) es40 rfl rfl haa (by rw [hml]; decide)) ?_
  refine Dq rfl (.g rfl rfl rfl) rfl (fun _ h=>h) (Yf fo68_1 rfl) ?_
  refine Dq rfl (.g rfl rfl rfl) rfl (fun _ h=>h) (yl_ld 1 na3 rfl rfl (hra 1 _ rfl)) ?_
  refine Dq rfl (.g rfl rfl rfl) rfl (fun _ h=>h) (yl_eqiY rfl rfl hta3) ?_
  exact Gi 6 (fun _ h=>h) rfl rfl rfl
 refine Dq rfl (.inl rfl) rfl (fun _ h=>h) (Ya rfl) ?_
 refine WD.nil (fun _ h=>h) ?_
 refine Et (Crt ?_)
 refine WE.ret1 rfl rfl fun w' hw=>?_
 exact ⟨rfl,hw.fr⟩
theorem scopeResolves_any (G H HF:View) (ke ks:Nat) (q:MAt) (m:TMod) (w:World) (hG:Le G w) (hz:Laid G) (hH:Le H w) (hHF:Le HF w) (hm:RdM ke ks H q m) (hb:wM m≤109951162777) (fa:Option Addr) (fc:Nat) (fs:List (List UInt8×List FItem)) (hf:Sl rdFace 2 HF fa fc fs) :
   Calls Tryz.prog 4 #[.agg (modV m q).toArray,.slice fa fs.length fc] w fun e w'=>e = .returned (.bool true)∧Ext w w':=by
 refine enter Tryz.func4 rfl 32 rfl rfl ?_
 refine CWd (W':=Ws w [] [] [G,H,HF]) (fun _ e=>by subst e; exact Ws.init (by simp [hG,hH,hHF])) ?_
 refine Cs (Cr ?_)
 refine WL.box (.inl rfl) rfl rfl fun b2=>?_
 refine V0 (Ya rfl) ?_
 refine Ln (Et (Cs (Cr ?_)))
 refine V0 (Yda 0 rfl rfl ag27 rfl) ?_
 refine V0 (Ym rfl) ?_
 refine Ld (.inl rfl) rfl en12 rfl (fun r:UAt=>.tuple #[.agg (unitV (resolveM m fs).1 r).toArray,.int .i64 (resolveM m fs).2]) (fun F r=>RdU (ke+1) (ks+1) F r (resolveM m fs).1) (fun w hw=>by
     skip
     exact resolve_any H HF ke ks q m fa fc fs w (hw.vs _ (by simp)) (hw.vs _ (by simp)) hm hf hb) ?_
 intro F12 r12 hf12 h12
 refine V0 (Ym rfl) ?_
 refine V0 (Yx rfl rfl) ?_
 refine V0 (Yx rfl rfl) ?_
 refine WL.alloc (.inl rfl) rfl zr42 fun b5=>?_
 refine Lst 0 (.inl rfl) rfl rfl rfl sz42 rfl rfl rfl ?_
 refine V0 (Ya rfl) ?_
 refine Ln (Et (Cs (Cr ?_)))
 refine V0 (Yda 1 rfl rfl ag27 rfl) ?_
 refine V0 (Ym rfl) ?_
 refine Ld (.inl rfl) rfl en13 rfl (fun r:UAt=>.tuple #[.agg (unitV (resolveM m fs).1 r).toArray,.int .i64 (resolveM m fs).2]) (fun F r=>RdU (ke+1) (ks+1) F r (resolveM m fs).1) (fun w hw=>by
     skip
     exact resolveOf_any H HF ke ks q m fa fc fs w (hw.vs _ (by simp)) (hw.vs _ (by simp)) hm hf hb) ?_
 intro F18 r18 hf18 h18
 refine V0 (Ym rfl) ?_
 refine V0 (Yx rfl rfl) ?_
 refine V0 (Yx rfl rfl) ?_
 refine WL.alloc (.inl rfl) rfl zr42 fun b7=>?_
 refine Lst 0 (.inl rfl) rfl rfl rfl sz42 rfl rfl rfl ?_
 refine V0 (Ya rfl) ?_
 refine Ln (Et (Cs (Cr ?_)))
 refine Lp (.inl rfl) rfl en8 rfl (fun w hw=>scopeBegun_any G w (hw.vs _ (by simp)) hz) ?_
 refine V0 (Ym rfl) ?_
 apply WL.and 3 (x:=true) rfl rfl rfl rfl (.inl rfl) rfl rfl rfl rfl rfl
 ·
  intro hg0
  refine Lv (.g rfl rfl rfl) rfl (Ym rfl) ?_
  refine Lv (.g rfl rfl rfl) rfl (Ym rfl) ?_
  refine Lv (.g rfl rfl rfl) rfl (yl_eqiY rfl rfl rfl) ?_
  exact Gt 3 rfl rfl rfl
 refine V0 (Ym rfl) ?_
 apply WL.and 3 (x:=true) rfl rfl rfl rfl (.inl rfl) rfl rfl rfl rfl rfl
 ·
  intro hg1
  refine Lv (.g rfl rfl rfl) rfl (Yda 1 rfl rfl ag42 rfl) ?_
  refine Lv (.g rfl rfl rfl) rfl (Yda 0 rfl rfl ag42 rfl) ?_
  refine Lp (.g rfl rfl rfl) rfl en14 rfl (fun w hw=>sameUnits_eq F12 F18 (ke+1) (ke+1) (ks+1) (ks+1) r12 r18 (resolveM m fs).1 w (hw.vs _ (by simp)) (hw.vs _ (by simp)) h12 h18) ?_
  exact Gt 3 rfl rfl rfl
 refine V0 (Ya rfl) ?_
 refine Ln (Et (Crt ?_))
 refine WE.ret1 rfl rfl fun w' hw=>?_
 exact ⟨rfl,hw.fr⟩
end Go.Proofs.YtinnlppbkhhoiaaGreatDoor
end
