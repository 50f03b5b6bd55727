/- GenMakes: Gen answers what the document says, whatever it is handed (proved in the second form, bulk at most 1048576). -/
import Derived.Test.YtpjekjnehiinnaaGreatDoorM4
set_option linter.unusedVariables false
set_option linter.unusedSimpArgs false
section
namespace Go.Proofs.YtpjekjnehiinnaaGreatDoor
open Go.Bw
set_option linter.unusedVariables false
set_option linter.unusedSimpArgs false
theorem en87:Enters Tryz.prog 87:=enters_of Tryz.func87 (by kernel_rfl) rfl
theorem en88:Enters Tryz.prog 88:=enters_of Tryz.func88 (by kernel_rfl) rfl
theorem en89:Enters Tryz.prog 89:=enters_of Tryz.func89 (by kernel_rfl) rfl
theorem en126:Enters Tryz.prog 126:=enters_of Tryz.func126 (by kernel_rfl) rfl
theorem snode_any (sb:Nat) (K:ObjK) (t:GsA) (H:View) (k:Nat) (x:TNode) (a:Option Addr) (c:Nat) (w:World) (hl:Sl (RdN k) 5 H a c x.args) (hok:NodeOk x) (hb:t.g.code.length+8*wNd x≤1000000000000) (hfb:t.g.fix.length+8*wNd x≤1000000000000) (hw:Ws w (List.flatMap Asr.ids (gown 61 56 54 sb K t)) (gown 61 56 54 sb K t) [H] w) :
   Calls Tryz.prog 85 #[.pointer (some ⟨sb,0,none⟩),.agg (nodeV x a c).toArray] w fun e w'=>∃q:SP×SP,e = .returned (.tuple #[])∧Ws w (List.flatMap Asr.ids (gown 61 56 54 sb K t)) (gown 61 56 54 sb K ⟨nodeG x t.g,q.1,q.2⟩) [H] w':=by
 induction k using Nat.strongRecOn generalizing x a c t w
 rename_i k ih
 have hN:∀k2,k2<k→GNode H sb K k2:=fun k2 h x a c t w h1 h2 h3 h4 h5=>ih k2 h t x a c w h1 h2 h3 h4 h5
 have hcap:=hl.cap
 have hmax:=hl.max
 have hwe:=wNd_eq x
 refine enter Tryz.func85 rfl 143 rfl rfl ?_
 refine CWd (W':=Ws w (List.flatMap Asr.ids (gown 61 56 54 sb K t)) (gown 61 56 54 sb K t) [H]) (fun _ e=>by subst e; exact hw) ?_
 refine Cs (Cr ?_)
 refine WL.box (.inl rfl) rfl rfl fun b3=>?_
 refine Ln (Et (Cs (Cr (V0 (Yf fo138_0 rfl) (V0 (Yd 0 rfl rfl rfl na3) (Ln (Et (Cb (Cs (Cr (V0 (yl_eq rfl rfl) (V0 (Ya rfl) ?_))))))))))))
 refine Ln (Et ?_)
 refine Cc rfl (fun hc0=>?_) (fun hc0=>?_)
 ·
  have ho:x.op=1:=by simpa using hc0
  refine Cr (V0 (Ym rfl) (V0 (Yf fo138_1 rfl) (V0 (Yd 0 rfl rfl rfl na3) (V0 (Yb zr56 pl56 rfl rfl) ?_))))
  refine Lb (.inl rfl) rfl el27 rfl rfl rfl rfl fun b32=>?_
  refine WL.blksl (rd:=rdIG) (f:=InsG.cells) (k:=3) (m:=1) 0 [⟨1,x.n,0⟩] rfl rfl InsG.cells_len (fun _ _ _ _ h=>h) (by simp) (by decide) fun H32 hH32=>?_
  refine Lf 3 rfl (Lf 3 rfl (Lf 3 rfl ?_))
  refine Lw (ι:=SP) [_,_,_] _ (.inl rfl) rfl en43 rfl rfl (fun _=>.tuple #[]) (fun q=>(gown 61 56 54 sb K ⟨putG [⟨1,x.n,0⟩] t.g,q,t.fa⟩)) (fun _=>True) [H32] (by simp) (fun w hw=>(sput_any sb K t H32 (some ⟨b32,0,none⟩) 1 [⟨1,x.n,0⟩] w hH32 (by show (t.g).code.length+[⟨1,x.n,0⟩].length≤_; (try simp only [gsL9]); omega) hw).mono fun e w' ⟨q,h1,h2⟩=>⟨q,h1,trivial,h2⟩) ?_
  intro q33 _
  refine Ln (Eb ?_)
  refine WE.end0 rfl fun w' hw=>?_
  have hr:nodeG x t.g=putG [⟨1,x.n,0⟩] t.g:=by
    rw [nodeG_eq,nodeGo,if_pos ho]
  rw [hr]
  exact ⟨(q33,t.fa),rfl,Ws.drops (Ws.keep (L:=[_,_,_]) hw) (fun _ hm=>List.mem_append_right [_] hm)⟩
 ·
  have hn0:¬x.op=1:=by simpa using hc0
  refine Cs (Cr (V0 (yl_eq rfl rfl) (V0 (Ya rfl) (Ln (Et ?_)))))
  refine Cc rfl (fun hc1=>?_) (fun hc1=>?_)
  ·
   have ho:x.op=2:=by simpa using hc1
   refine Cr (V0 (Ym rfl) (V0 (Yb zr56 pl56 rfl rfl) ?_))
   refine Lb (.inl rfl) rfl el27 rfl rfl rfl rfl fun b38=>?_
   refine WL.blksl (rd:=rdIG) (f:=InsG.cells) (k:=3) (m:=1) 0 [⟨18,0,0⟩] rfl rfl InsG.cells_len (fun _ _ _ _ h=>h) (by simp) (by decide) fun H38 hH38=>?_
   refine Lf 3 rfl (Lf 3 rfl (Lf 3 rfl ?_))
   refine Lw (ι:=SP) [_,_,_] _ (.inl rfl) rfl en43 rfl rfl (fun _=>.tuple #[]) (fun q=>(gown 61 56 54 sb K ⟨putG [⟨18,0,0⟩] t.g,q,t.fa⟩)) (fun _=>True) [H38] (by simp) (fun w hw=>(sput_any sb K t H38 (some ⟨b38,0,none⟩) 1 [⟨18,0,0⟩] w hH38 (by show (t.g).code.length+[⟨18,0,0⟩].length≤_; (try simp only [gsL9]); omega) hw).mono fun e w' ⟨q,h1,h2⟩=>⟨q,h1,trivial,h2⟩) ?_
   intro q39 _
   refine Ln (Eb ?_)
   refine WE.end0 rfl fun w' hw=>?_
   have hr:nodeG x t.g=putG [⟨18,0,0⟩] t.g:=by
     rw [nodeG_eq,nodeGo,if_neg hn0,if_pos ho]
   rw [hr]
   exact ⟨(q39,t.fa),rfl,Ws.drops (Ws.keep (L:=[_,_,_]) hw) (fun _ hm=>List.mem_append_right [_] hm)⟩
  ·
   have hn1:¬x.op=2:=by simpa using hc1
   refine Cs (Cr (V0 (yl_eq rfl rfl) (V0 (Ya rfl) (Ln (Et ?_)))))
   refine Cc rfl (fun hc2=>?_) (fun hc2=>?_)
   ·
    have ho:x.op=16:=by simpa using hc2
    refine Cr (V0 (Ym rfl) (V0 (Yf fo138_3 rfl) (V0 (Yd 0 rfl rfl rfl na3) (V0 (Yb zr56 pl56 rfl rfl) ?_))))
    refine Lb (.inl rfl) rfl el27 rfl rfl rfl rfl fun b46=>?_
    refine WL.blksl (rd:=rdIG) (f:=InsG.cells) (k:=3) (m:=1) 0 [⟨2,x.pl,0⟩] rfl rfl InsG.cells_len (fun _ _ _ _ h=>h) (by simp) (by decide) fun H46 hH46=>?_
    refine Lf 3 rfl (Lf 3 rfl (Lf 3 rfl ?_))
    refine Lw (ι:=SP) [_,_,_] _ (.inl rfl) rfl en43 rfl rfl (fun _=>.tuple #[]) (fun q=>(gown 61 56 54 sb K ⟨putG [⟨2,x.pl,0⟩] t.g,q,t.fa⟩)) (fun _=>True) [H46] (by simp) (fun w hw=>(sput_any sb K t H46 (some ⟨b46,0,none⟩) 1 [⟨2,x.pl,0⟩] w hH46 (by show (t.g).code.length+[⟨2,x.pl,0⟩].length≤_; (try simp only [gsL9]); omega) hw).mono fun e w' ⟨q,h1,h2⟩=>⟨q,h1,trivial,h2⟩) ?_
    intro q47 _
    refine Ln (Eb ?_)
    refine WE.end0 rfl fun w' hw=>?_
    have hr:nodeG x t.g=putG [⟨2,x.pl,0⟩] t.g:=by
      rw [nodeG_eq,nodeGo,if_neg hn0,if_neg hn1,if_pos ho]
    rw [hr]
    exact ⟨(q47,t.fa),rfl,Ws.drops (Ws.keep (L:=[_,_,_]) hw) (fun _ hm=>List.mem_append_right [_] hm)⟩
   ·
    have hn2:¬x.op=16:=by simpa using hc2
    refine Cs (Cr (V0 (yl_eq rfl rfl) (V0 (Ya rfl) (Ln (Et ?_)))))
    refine Cc rfl (fun hc3=>?_) (fun hc3=>?_)
    ·
     have ho:x.op=3:=by simpa using hc3
     refine Cr (V0 (Ym rfl) (V0 (Yf fo138_3 rfl) (V0 (Yd 0 rfl rfl rfl na3) (V0 (Yb zr56 pl56 rfl rfl) (V0 (Yf fo138_2 rfl) ?_)))))
     refine V0 (Yd 0 rfl rfl rfl na3) (Lf 3 rfl (Lf 3 rfl (Lf 3 rfl ?_)))
     refine Lw (ι:=SP×SP) [_,_,_] _ (.inl rfl) rfl en86 rfl rfl (fun _=>.int .i64 (t.g.code.length:Int)) (fun q=>(gown 61 56 54 sb K ⟨fixG ⟨4,x.pl,0⟩ 3 x.m t.g,q.1,q.2⟩)) (fun _=>True) [] (by simp) (fun w hw=>(sfix_any sb K t  ⟨4,x.pl,0⟩ 3 x.m w  (by omega) (by omega) hw).mono fun e w' ⟨q,h1,h2⟩=>⟨q,h1,trivial,h2⟩) ?_
     intro q56 _
     refine Ln (Eb ?_)
     refine WE.end0 rfl fun w' hw=>?_
     have hr:nodeG x t.g=fixG ⟨4,x.pl,0⟩ 3 x.m t.g:=by
       rw [nodeG_eq,nodeGo,if_neg hn0,if_neg hn1,if_neg hn2,if_pos ho]
     rw [hr]
     exact ⟨(q56.1,q56.2),rfl,Ws.keep (L:=[_,_,_]) hw⟩
    ·
     have hn3:¬x.op=3:=by simpa using hc3
     refine Cs (Cr (V0 (yl_eq rfl rfl) (V0 (Ya rfl) (Ln (Et ?_)))))
     refine Cc rfl (fun hc4=>?_) (fun hc4=>?_)
     ·
      have ho:x.op=4:=by simpa using hc4
      refine Cs ?_
      have hl1:=hok.args.2.1 (by omega)
      obtain ⟨y,hyi⟩:∃y,x.args[0]? = some y:=⟨_,List.getElem?_eq_getElem (by omega)⟩
      obtain ⟨pby,poy,hay,hry⟩:=hl.elt 0 y hyi
      obtain ⟨k2,rfl⟩:∃k2,k=k2+1:=by
        cases k with
        | zero=>exact hry.elim
        | succ k2=>exact ⟨k2,rfl⟩
      obtain ⟨ya,yc,hrowy,hsuby⟩:=hry
      have hN2:=hN k2 (by omega)
      have hoy:=hok.args.1.at_ hyi
      have hgl:=nodeG_len y t.g
      have hh1:=hgl.hi
      have hh2:=hgl.fhi
      have hh3:=hgl.lo
      have hw1:=wNd_one hyi
      refine CU (fun _=>true) [1,1,1] [] (.q false 0 (.q false 1 (.q true 2 (.q false 3 (.q true 4 (.q false 5 (.q true 6 (.q false 7 (.q true 8 (.q false 9 (.q true 10 (.e 11 .nil .stop)))))))))))) mixed (by kernel_rfl) (fun _ _ _ d _ _ h=>by cases d<;>exact h) ?_
      refine Uq rfl (.inl rfl) rfl (fun _ h=>by have h:=Ws.out 1 h; have h:=Ws.out 1 h; have h:=Ws.out 1 h; exact h) (Ym rfl) ?_
      refine Uq rfl (.inl rfl) rfl (fun _ h=>by have h:=Ws.out 1 h; have h:=Ws.out 1 h; have h:=Ws.out 1 h; exact h) (Yf fo138_2 rfl) ?_
      refine Uq rfl (.inl rfl) rfl (fun _ h=>by have h:=Ws.out 1 h; have h:=Ws.out 1 h; have h:=Ws.out 1 h; exact h) (Yd 0 rfl rfl rfl na3) ?_
      refine Uq rfl (.inl rfl) rfl (fun _ h=>by have h:=Ws.out 1 h; have h:=Ws.out 1 h; have h:=Ws.out 1 h; exact h) (Yf fo138_3 rfl) ?_
      refine Uq rfl (.inl rfl) rfl (fun _ h=>by have h:=Ws.out 1 h; have h:=Ws.out 1 h; have h:=Ws.out 1 h; exact h) (Yd 0 rfl rfl rfl na3) ?_
      refine Uq rfl (.inl rfl) rfl (fun _ h=>by have h:=Ws.out 1 h; have h:=Ws.out 1 h; have h:=Ws.out 1 h; exact h) (Yf fo138_1 rfl) ?_
      refine Uq rfl (.inl rfl) rfl (fun _ h=>by have h:=Ws.out 1 h; have h:=Ws.out 1 h; have h:=Ws.out 1 h; exact h) (Yd 0 rfl rfl rfl na3) ?_
      refine Uq rfl (.inl rfl) rfl (fun _ h=>by have h:=Ws.out 1 h; have h:=Ws.out 1 h; have h:=Ws.out 1 h; exact h) (Yf fo138_4 rfl) ?_
      refine Uq rfl (.inl rfl) rfl (fun _ h=>by have h:=Ws.out 1 h; have h:=Ws.out 1 h; have h:=Ws.out 1 h; exact h) (Yd 0 rfl rfl rfl na102) ?_
      refine Uq rfl (.inl rfl) rfl (fun _ h=>by have h:=Ws.out 1 h; have h:=Ws.out 1 h; have h:=Ws.out 1 h; exact h) (Yo (i:=0) es102 rfl rfl hay (by omega)) ?_
      refine Uq rfl (.inl rfl) rfl (fun _ h=>by have h:=Ws.out 1 h; have h:=Ws.out 1 h; have h:=Ws.out 1 h; exact h) (yl_lda 0 ag138 rfl rfl rfl (hrowy)) ?_
      refine Ue rfl (fun _ h=>by have h:=Ws.out 1 h; have h:=Ws.out 1 h; have h:=Ws.out 1 h; exact h) ?_ WU.stop
      refine Lf 3 rfl (Lf 3 rfl (Lf 3 rfl ?_))
      refine Lw (ι:=SP×SP) [_,_,_] _ (.inl rfl) rfl en87 rfl rfl (fun _=>.tuple #[]) (fun q=>(gown 61 56 54 sb K ⟨fixG ⟨6,x.pl,x.n⟩ 3 x.m (nodeG y t.g),q.1,q.2⟩)) (fun _=>True) [H] (by simp) (fun w hw=>(sindex_any sb K t H k2 x.m x.pl x.n y ya yc w hN2 hsuby hoy (by omega) (by omega) hw).mono fun e w' ⟨q,h1,h2⟩=>⟨q,h1,trivial,h2⟩) ?_
      intro q70 _
      refine Ln (Eu ?_)
      refine WU.nil (fun _ h=>by have h:=h.fronti 2 rfl; have h:=h.fronti 2 rfl; have h:=h.fronti 2 rfl; have h:=h.fronti 3 rfl; have h:=Ws.out 1 h; have h:=Ws.out 1 h; have h:=Ws.out 1 h; exact h) ?_
      refine WS.nil ?_
      refine Et (Cr (V0 (Ym rfl) (V0 (Yb zr56 pl56 rfl rfl) ?_)))
      refine Lb (.inl rfl) rfl el27 rfl rfl rfl rfl fun b73=>?_
      refine WL.blksl (rd:=rdIG) (f:=InsG.cells) (k:=3) (m:=1) 0 [⟨7,0,0⟩] rfl rfl InsG.cells_len (fun _ _ _ _ h=>h) (by simp) (by decide) fun H73 hH73=>?_
      refine Lf 2 rfl (Lf 2 rfl (Lf 2 rfl ?_))
      refine Lw (ι:=SP) [_,_,_] _ (.inl rfl) rfl en43 rfl rfl (fun _=>.tuple #[]) (fun q=>(gown 61 56 54 sb K ⟨putG [⟨7,0,0⟩] (⟨(fixG ⟨6,x.pl,x.n⟩ 3 x.m (nodeG y t.g)),q70.1,q70.2⟩:GsA).g,q,(⟨(fixG ⟨6,x.pl,x.n⟩ 3 x.m (nodeG y t.g)),q70.1,q70.2⟩:GsA).fa⟩)) (fun _=>True) [H73] (by simp) (fun w hw=>(sput_any sb K (⟨(fixG ⟨6,x.pl,x.n⟩ 3 x.m (nodeG y t.g)),q70.1,q70.2⟩:GsA) H73 (some ⟨b73,0,none⟩) 1 [⟨7,0,0⟩] w hH73 (by show ((fixG ⟨6,x.pl,x.n⟩ 3 x.m (nodeG y t.g))).code.length+[⟨7,0,0⟩].length≤_; (try simp only [gsL9]); omega) hw).mono fun e w' ⟨q,h1,h2⟩=>⟨q,h1,trivial,h2⟩) ?_
      intro q74 _
      refine Ln (Eb ?_)
      refine WE.end0 rfl fun w' hw=>?_
      have hr:nodeG x t.g=putG [⟨7,0,0⟩] (fixG ⟨6,x.pl,x.n⟩ 3 x.m (nodeG y t.g)):=by
        rw [nodeG_eq,nodeGo,if_neg hn0,if_neg hn1,if_neg hn2,if_neg hn3,if_pos ho]
        rw [kidG_at hyi]
      rw [hr]
      exact ⟨(q74,q70.2),rfl,Ws.drops (Ws.keep (L:=[_,_,_]) hw) (fun _ hm=>List.mem_append_right [_] hm)⟩
     ·
      have hn4:¬x.op=4:=by simpa using hc4
      refine Cs (Cr (V0 (yl_eq rfl rfl) (V0 (Ya rfl) (Ln (Et ?_)))))
      refine Cc rfl (fun hc5=>?_) (fun hc5=>?_)
      ·
       have ho:x.op=5:=by simpa using hc5
       refine Cr (V0 (Ym rfl) (V0 (Yf fo138_2 rfl) (V0 (Yd 0 rfl rfl rfl na3) (V0 (Yf fo138_3 rfl) (V0 (Yd 0 rfl rfl rfl na3) ?_)))))
       refine V0 (Yf fo138_4 rfl) (V0 (Yd 0 rfl rfl rfl na102) (Lf 3 rfl (Lf 3 rfl (Lf 3 rfl ?_))))
       refine Lw (ι:=SP×SP) [_,_,_] _ (.inl rfl) rfl en88 rfl rfl (fun _=>.tuple #[]) (fun q=>(gown 61 56 54 sb K ⟨fixG ⟨13,x.pl,0⟩ 2 x.m (nodesG x.args t.g),q.1,q.2⟩)) (fun _=>True) [H] (by simp) (fun w hw=>(scall_any sb K t H k x.m x.pl x.args a c w hN hl hok.args.1 (by omega) (by omega) hw).mono fun e w' ⟨q,h1,h2⟩=>⟨q,h1,trivial,h2⟩) ?_
       intro q84 _
       refine Ln (Eb ?_)
       refine WE.end0 rfl fun w' hw=>?_
       have hr:nodeG x t.g=fixG ⟨13,x.pl,0⟩ 2 x.m (nodesG x.args t.g):=by
         rw [nodeG_eq,nodeGo,if_neg hn0,if_neg hn1,if_neg hn2,if_neg hn3,if_neg hn4,if_pos ho]
         rw [allG_nodes]
       rw [hr]
       exact ⟨(q84.1,q84.2),rfl,Ws.keep (L:=[_,_,_]) hw⟩
      ·
       have hn5:¬x.op=5:=by simpa using hc5
       refine Cs (Cs (Cr (V0 (yl_eq rfl rfl) (V0 (Ya rfl) (Ln (Et ?_))))))
       refine Cc rfl (fun hc6=>?_) (fun hc6=>?_)
       ·
        have ho:x.op=7:=by simpa using hc6
        refine Ck (Et ?_)
        refine Cc rfl (fun hc7=>?_) (fun hc7=>?_)
        ·
         refine Cs ?_
         have hl2:=hok.args.2.2.1 (by omega)
         obtain ⟨y,hyi⟩:∃y,x.args[0]? = some y:=⟨_,List.getElem?_eq_getElem (by omega)⟩
         obtain ⟨pby,poy,hay,hry⟩:=hl.elt 0 y hyi
         obtain ⟨z,hzi⟩:∃y,x.args[1]? = some y:=⟨_,List.getElem?_eq_getElem (by omega)⟩
         obtain ⟨pbz,poz,haz,hrz⟩:=hl.elt 1 z hzi
         obtain ⟨k2,rfl⟩:∃k2,k=k2+1:=by
           cases k with
           | zero=>exact hry.elim
           | succ k2=>exact ⟨k2,rfl⟩
         obtain ⟨ya,yc,hrowy,hsuby⟩:=hry
         have hN2:=hN k2 (by omega)
         have hoy:=hok.args.1.at_ hyi
         have hgl:=nodeG_len y t.g
         have hh1:=hgl.hi
         have hh2:=hgl.fhi
         have hh3:=hgl.lo
         obtain ⟨za,zc,hrowz,hsubz⟩:=hrz
         have hoz:=hok.args.1.at_ hzi
         have hw2:=wNd_two hyi hzi
         have hgz:=nodeG_len z (fixG ⟨12,0,0⟩ 1 0 (nodeG y t.g))
         have hz1:=hgz.hi
         have hz2:=hgz.fhi
         have hz3:=hgz.lo
         have hgz2:=nodeG_len z (landG ((nodeG y t.g).code.length) (fixG ⟨11,0,0⟩ 1 0 (putG [⟨1,1,0⟩] (fixG ⟨12,0,0⟩ 1 0 (nodeG y t.g)))))
         have hz4:=hgz2.hi
         have hz5:=hgz2.fhi
         have hz6:=hgz2.lo
         simp only [gsL9] at hz1 hz2 hz3 hz4 hz5 hz6
         refine Cr (V0 (Ym rfl) (V0 (Yf fo138_4 rfl) (V0 (Yd 0 rfl rfl rfl na102) ?_)))
         refine V0 (Yo (i:=0) es102 rfl rfl hay (by omega)) ?_
         refine V0 (yl_lda 0 ag138 rfl rfl rfl (hrowy)) (Lf 3 rfl (Lf 3 rfl (Lf 3 rfl ?_)))
         refine Lw (ι:=SP×SP) [_,_,_] _ (.inl rfl) rfl en85 rfl rfl (fun _=>.tuple #[]) (fun q=>(gown 61 56 54 sb K ⟨nodeG y t.g,q.1,q.2⟩)) (fun _=>True) [H] (by simp) (fun w hw=>(hN2 y ya yc t w hsuby hoy (by show (t.g).code.length+8*wNd y≤_; (try simp only [gsL9]); omega) (by show (t.g).fix.length+8*wNd y≤_; (try simp only [gsL9]); omega) hw).mono fun e w' ⟨q,h1,h2⟩=>⟨q,h1,trivial,h2⟩) ?_
         intro q93 _
         refine Ln (Et (Cs (Cr (V0 (Ym rfl) (Lf 2 rfl (Lf 2 rfl (Lf 2 rfl ?_)))))))
         refine Lw (ι:=(SP×SP)×Nat×Nat) [_,_,_] _ (.inl rfl) rfl en89 rfl rfl (fun q=>.func (.func 126) #[] #[.pointer (some ⟨q.2.1,0,none⟩),.pointer (some ⟨q.2.2,0,none⟩)]) (fun q=>(gown 61 56 54 sb K ⟨fixG ⟨12,0,0⟩ 1 0 (nodeG y t.g),q.1.1,q.1.2⟩)++[blk q.2.1 (.cells #[.pointer (some ⟨sb,0,none⟩)] 58 (0,0)),blk q.2.2 (.cells #[.int .i64 ((nodeG y t.g).code.length:Int)] 3 (0,0))]) (fun _=>True) [] (by simp) (fun w hw=>(sjump_any sb K (⟨(nodeG y t.g),q93.1,q93.2⟩:GsA) 12 w (by show ((nodeG y t.g)).code.length+1≤_; (try simp only [gsL9]); omega) (by show ((nodeG y t.g)).fix.length+1≤_; (try simp only [gsL9]); omega) hw).mono fun e w' ⟨q,h1,h2⟩=>⟨q,h1,trivial,h2⟩) ?_
         intro q95 _
         refine V0 (Ya rfl) (Ln (Et (Cs (Cs (Cr (V0 (Yf fo138_0 rfl) (V0 (Yd 5 rfl rfl rfl na3) (V0 (yl_eq rfl rfl) (Ln (Et ?_))))))))))
         refine Cc rfl (fun hc8=>?_) (fun hc8=>?_)
         ·
          exact absurd hc8 (by rw [ho]; decide)
         ·
          refine Ck (Et (Cs (Cs (Cr (V0 (Yf fo138_0 rfl) (V0 (Yd 5 rfl rfl rfl na3) (V0 (yl_eq rfl rfl) (Ln (Et ?_)))))))))
          refine Cc rfl (fun hc9=>?_) (fun hc9=>?_)
          ·
           exact absurd hc9 (by rw [ho]; decide)
          ·
           refine Ck (Et (Cs (Cr (V0 (Ym rfl) (V0 (Yf fo138_4 rfl) (V0 (Yd 5 rfl rfl rfl na102) ?_))))))
           refine V0 (Yo (i:=1) es102 rfl rfl haz (by omega)) ?_
           refine V0 (yl_lda 0 ag138 rfl rfl rfl (hrowz)) (Lf 2 rfl (Lf 2 rfl (Lf 2 rfl ?_)))
           refine Lw (ι:=SP×SP) [_,_,_] _ (.inl rfl) rfl en85 rfl rfl (fun _=>.tuple #[]) (fun q=>(gown 61 56 54 sb K ⟨nodeG z (fixG ⟨12,0,0⟩ 1 0 (nodeG y t.g)),q.1,q.2⟩)) (fun _=>True) [H] (by simp) (fun w hw=>(hN2 z za zc (⟨(fixG ⟨12,0,0⟩ 1 0 (nodeG y t.g)),q95.1.1,q95.1.2⟩:GsA) w hsubz hoz (by show ((fixG ⟨12,0,0⟩ 1 0 (nodeG y t.g))).code.length+8*wNd z≤_; (try simp only [gsL9]); omega) (by show ((fixG ⟨12,0,0⟩ 1 0 (nodeG y t.g))).fix.length+8*wNd z≤_; (try simp only [gsL9]); omega) hw).mono fun e w' ⟨q,h1,h2⟩=>⟨q,h1,trivial,h2⟩) ?_
           intro q128 _
           refine Ln (Et (Cs (Cr (V0 (Ym rfl) (V0 (Yb zr56 pl56 rfl rfl) ?_)))))
           refine Lb (.inl rfl) rfl el27 rfl rfl rfl rfl fun b131=>?_
           refine WL.blksl (rd:=rdIG) (f:=InsG.cells) (k:=3) (m:=1) 0 [⟨22,0,0⟩] rfl rfl InsG.cells_len (fun _ _ _ _ h=>h) (by simp) (by decide) fun H131 hH131=>?_
           refine Lf 2 rfl (Lf 2 rfl (Lf 2 rfl ?_))
           refine Lw (ι:=SP) [_,_,_] _ (.inl rfl) rfl en43 rfl rfl (fun _=>.tuple #[]) (fun q=>(gown 61 56 54 sb K ⟨putG [⟨22,0,0⟩] (⟨(nodeG z (fixG ⟨12,0,0⟩ 1 0 (nodeG y t.g))),q128.1,q128.2⟩:GsA).g,q,(⟨(nodeG z (fixG ⟨12,0,0⟩ 1 0 (nodeG y t.g))),q128.1,q128.2⟩:GsA).fa⟩)) (fun _=>True) [H131] (by simp) (fun w hw=>(sput_any sb K (⟨(nodeG z (fixG ⟨12,0,0⟩ 1 0 (nodeG y t.g))),q128.1,q128.2⟩:GsA) H131 (some ⟨b131,0,none⟩) 1 [⟨22,0,0⟩] w hH131 (by show ((nodeG z (fixG ⟨12,0,0⟩ 1 0 (nodeG y t.g)))).code.length+[⟨22,0,0⟩].length≤_; (try simp only [gsL9]); omega) hw).mono fun e w' ⟨q,h1,h2⟩=>⟨q,h1,trivial,h2⟩) ?_
           intro q132 _
           refine Ln (Et (Cs (Cr (V0 (Ym rfl) (Lf 2 rfl (Lf 2 rfl (Lf 2 rfl ?_)))))))
           refine Lw (ι:=(SP×SP)×Nat×Nat) [_,_,_] _ (.inl rfl) rfl en89 rfl rfl (fun q=>.func (.func 126) #[] #[.pointer (some ⟨q.2.1,0,none⟩),.pointer (some ⟨q.2.2,0,none⟩)]) (fun q=>(gown 61 56 54 sb K ⟨fixG ⟨11,0,0⟩ 1 0 (putG [⟨22,0,0⟩] (nodeG z (fixG ⟨12,0,0⟩ 1 0 (nodeG y t.g)))),q.1.1,q.1.2⟩)++[blk q.2.1 (.cells #[.pointer (some ⟨sb,0,none⟩)] 58 (0,0)),blk q.2.2 (.cells #[.int .i64 ((putG [⟨22,0,0⟩] (nodeG z (fixG ⟨12,0,0⟩ 1 0 (nodeG y t.g)))).code.length:Int)] 3 (0,0))]) (fun _=>True) [] (by simp) (fun w hw=>(sjump_any sb K (⟨(putG [⟨22,0,0⟩] (nodeG z (fixG ⟨12,0,0⟩ 1 0 (nodeG y t.g)))),q132,q128.2⟩:GsA) 11 w (by show ((putG [⟨22,0,0⟩] (nodeG z (fixG ⟨12,0,0⟩ 1 0 (nodeG y t.g))))).code.length+1≤_; (try simp only [gsL9]); omega) (by show ((putG [⟨22,0,0⟩] (nodeG z (fixG ⟨12,0,0⟩ 1 0 (nodeG y t.g))))).fix.length+1≤_; (try simp only [gsL9]); omega) hw).mono fun e w' ⟨q,h1,h2⟩=>⟨q,h1,trivial,h2⟩) ?_
           intro q134 _
           refine V0 (Ya rfl) (Ln (Et (Cs (Cr (V0 (Ym rfl) (Lf 6 rfl (Lf 6 rfl (Lf 4 rfl ?_))))))))
           refine Lf 4 rfl (Lf 4 rfl ?_)
           refine WL.callvw (ι:=Unit) [_,_,_,_,_] _ (.inl rfl) rfl en126 rfl rfl rfl (fun _=>.tuple #[]) (fun _=>(gown 61 56 54 sb K ⟨landG ((nodeG y t.g).code.length) (fixG ⟨11,0,0⟩ 1 0 (putG [⟨22,0,0⟩] (nodeG z (fixG ⟨12,0,0⟩ 1 0 (nodeG y t.g))))),(⟨(fixG ⟨11,0,0⟩ 1 0 (putG [⟨22,0,0⟩] (nodeG z (fixG ⟨12,0,0⟩ 1 0 (nodeG y t.g))))),q134.1.1,q134.1.2⟩:GsA).ca,(⟨(fixG ⟨11,0,0⟩ 1 0 (putG [⟨22,0,0⟩] (nodeG z (fixG ⟨12,0,0⟩ 1 0 (nodeG y t.g))))),q134.1.1,q134.1.2⟩:GsA).fa⟩)++[blk q95.2.1 (.cells #[.pointer (some ⟨sb,0,none⟩)] 58 (0,0)),blk q95.2.2 (.cells #[.int .i64 ((nodeG y t.g).code.length:Int)] 3 (0,0))]) (fun _=>True) [] (by simp) (fun w hw=>(sland_any sb K (⟨(fixG ⟨11,0,0⟩ 1 0 (putG [⟨22,0,0⟩] (nodeG z (fixG ⟨12,0,0⟩ 1 0 (nodeG y t.g))))),q134.1.1,q134.1.2⟩:GsA) q95.2.1 q95.2.2 ((nodeG y t.g).code.length) _ w (List.getElem?_eq_getElem (by show (nodeG y t.g).code.length<((fixG ⟨11,0,0⟩ 1 0 (putG [⟨22,0,0⟩] (nodeG z (fixG ⟨12,0,0⟩ 1 0 (nodeG y t.g)))))).code.length; (try simp only [gsL9]); omega)) hw).mono fun e w' h=>⟨(),h.1,trivial,h.2⟩) ?_
           intro _ _
           refine Ln (Et (Cs (Cr (V0 (Ym rfl) (V0 (Yb zr56 pl56 rfl rfl) ?_)))))
           refine Lb (.inl rfl) rfl el27 rfl rfl rfl rfl fun b139=>?_
           refine WL.blksl (rd:=rdIG) (f:=InsG.cells) (k:=3) (m:=1) 0 [⟨1,0,0⟩] rfl rfl InsG.cells_len (fun _ _ _ _ h=>h) (by simp) (by decide) fun H139 hH139=>?_
           refine Lf 2 rfl (Lf 2 rfl (Lf 2 rfl ?_))
           refine Lw (ι:=SP) [_,_,_] _ (.inl rfl) rfl en43 rfl rfl (fun _=>.tuple #[]) (fun q=>(gown 61 56 54 sb K ⟨putG [⟨1,0,0⟩] (⟨(landG ((nodeG y t.g).code.length) (fixG ⟨11,0,0⟩ 1 0 (putG [⟨22,0,0⟩] (nodeG z (fixG ⟨12,0,0⟩ 1 0 (nodeG y t.g)))))),q134.1.1,q134.1.2⟩:GsA).g,q,(⟨(landG ((nodeG y t.g).code.length) (fixG ⟨11,0,0⟩ 1 0 (putG [⟨22,0,0⟩] (nodeG z (fixG ⟨12,0,0⟩ 1 0 (nodeG y t.g)))))),q134.1.1,q134.1.2⟩:GsA).fa⟩)) (fun _=>True) [H139] (by simp) (fun w hw=>(sput_any sb K (⟨(landG ((nodeG y t.g).code.length) (fixG ⟨11,0,0⟩ 1 0 (putG [⟨22,0,0⟩] (nodeG z (fixG ⟨12,0,0⟩ 1 0 (nodeG y t.g)))))),q134.1.1,q134.1.2⟩:GsA) H139 (some ⟨b139,0,none⟩) 1 [⟨1,0,0⟩] w hH139 (by show ((landG ((nodeG y t.g).code.length) (fixG ⟨11,0,0⟩ 1 0 (putG [⟨22,0,0⟩] (nodeG z (fixG ⟨12,0,0⟩ 1 0 (nodeG y t.g))))))).code.length+[⟨1,0,0⟩].length≤_; (try simp only [gsL9]); omega) hw).mono fun e w' ⟨q,h1,h2⟩=>⟨q,h1,trivial,h2⟩) ?_
           intro q140 _
           refine Ln (Et (Cr (V0 (Ym rfl) (Lf 6 rfl (Lf 6 rfl (Lf 4 rfl (Lf 4 rfl ?_)))))))
           refine Lf 4 rfl ?_
           refine WL.callvw (ι:=Unit) [_,_,_,_,_] _ (.inl rfl) rfl en126 rfl rfl rfl (fun _=>.tuple #[]) (fun _=>(gown 61 56 54 sb K ⟨landG ((putG [⟨22,0,0⟩] (nodeG z (fixG ⟨12,0,0⟩ 1 0 (nodeG y t.g)))).code.length) (putG [⟨1,0,0⟩] (landG ((nodeG y t.g).code.length) (fixG ⟨11,0,0⟩ 1 0 (putG [⟨22,0,0⟩] (nodeG z (fixG ⟨12,0,0⟩ 1 0 (nodeG y t.g))))))),(⟨(putG [⟨1,0,0⟩] (landG ((nodeG y t.g).code.length) (fixG ⟨11,0,0⟩ 1 0 (putG [⟨22,0,0⟩] (nodeG z (fixG ⟨12,0,0⟩ 1 0 (nodeG y t.g))))))),q140,q134.1.2⟩:GsA).ca,(⟨(putG [⟨1,0,0⟩] (landG ((nodeG y t.g).code.length) (fixG ⟨11,0,0⟩ 1 0 (putG [⟨22,0,0⟩] (nodeG z (fixG ⟨12,0,0⟩ 1 0 (nodeG y t.g))))))),q140,q134.1.2⟩:GsA).fa⟩)++[blk q134.2.1 (.cells #[.pointer (some ⟨sb,0,none⟩)] 58 (0,0)),blk q134.2.2 (.cells #[.int .i64 ((putG [⟨22,0,0⟩] (nodeG z (fixG ⟨12,0,0⟩ 1 0 (nodeG y t.g)))).code.length:Int)] 3 (0,0))]) (fun _=>True) [] (by simp) (fun w hw=>(sland_any sb K (⟨(putG [⟨1,0,0⟩] (landG ((nodeG y t.g).code.length) (fixG ⟨11,0,0⟩ 1 0 (putG [⟨22,0,0⟩] (nodeG z (fixG ⟨12,0,0⟩ 1 0 (nodeG y t.g))))))),q140,q134.1.2⟩:GsA) q134.2.1 q134.2.2 ((putG [⟨22,0,0⟩] (nodeG z (fixG ⟨12,0,0⟩ 1 0 (nodeG y t.g)))).code.length) _ w (List.getElem?_eq_getElem (by show (putG [⟨22,0,0⟩] (nodeG z (fixG ⟨12,0,0⟩ 1 0 (nodeG y t.g)))).code.length<((putG [⟨1,0,0⟩] (landG ((nodeG y t.g).code.length) (fixG ⟨11,0,0⟩ 1 0 (putG [⟨22,0,0⟩] (nodeG z (fixG ⟨12,0,0⟩ 1 0 (nodeG y t.g)))))))).code.length; (try simp only [gsL9]); omega)) hw).mono fun e w' h=>⟨(),h.1,trivial,h.2⟩) ?_
           intro _ _
           refine Ln (Eb ?_)
           refine WE.end0 rfl fun w' hw=>?_
           have hr:nodeG x t.g=(landG ((putG [⟨22,0,0⟩] (nodeG z (fixG ⟨12,0,0⟩ 1 0 (nodeG y t.g)))).code.length) (putG [⟨1,0,0⟩] (landG ((nodeG y t.g).code.length) (fixG ⟨11,0,0⟩ 1 0 (putG [⟨22,0,0⟩] (nodeG z (fixG ⟨12,0,0⟩ 1 0 (nodeG y t.g)))))))):=by
             rw [nodeG_eq,nodeGo,if_neg hn0,if_neg hn1,if_neg hn2,if_neg hn3,if_neg hn4,if_neg hn5,if_pos ho]
             unfold andG
             rw [kidG_at hyi,kidG_at hzi]
           rw [hr]
           exact ⟨(q140,q134.1.2),rfl,Ws.drops (Ws.keep (L:=[_,_,_]) hw) (fun _ hm=>List.mem_append_right [_,_] hm)⟩
        ·
         rw [hc6] at hc7; cases hc7
       ·
        have hn6:¬x.op=7:=by simpa using hc6
        refine Cr (V0 (yl_eq rfl rfl) (V0 (Ya rfl) (Ln (Et ?_))))
        refine Cc rfl (fun hc7=>?_) (fun hc7=>?_)
        ·
         have ho:x.op=8:=by simpa using hc7
         refine Cs ?_
         have hl2:=hok.args.2.2.1 (by omega)
         obtain ⟨y,hyi⟩:∃y,x.args[0]? = some y:=⟨_,List.getElem?_eq_getElem (by omega)⟩
         obtain ⟨pby,poy,hay,hry⟩:=hl.elt 0 y hyi
         obtain ⟨z,hzi⟩:∃y,x.args[1]? = some y:=⟨_,List.getElem?_eq_getElem (by omega)⟩
         obtain ⟨pbz,poz,haz,hrz⟩:=hl.elt 1 z hzi
         obtain ⟨k2,rfl⟩:∃k2,k=k2+1:=by
           cases k with
           | zero=>exact hry.elim
           | succ k2=>exact ⟨k2,rfl⟩
         obtain ⟨ya,yc,hrowy,hsuby⟩:=hry
         have hN2:=hN k2 (by omega)
         have hoy:=hok.args.1.at_ hyi
         have hgl:=nodeG_len y t.g
         have hh1:=hgl.hi
         have hh2:=hgl.fhi
         have hh3:=hgl.lo
         obtain ⟨za,zc,hrowz,hsubz⟩:=hrz
         have hoz:=hok.args.1.at_ hzi
         have hw2:=wNd_two hyi hzi
         have hgz:=nodeG_len z (fixG ⟨12,0,0⟩ 1 0 (nodeG y t.g))
         have hz1:=hgz.hi
         have hz2:=hgz.fhi
         have hz3:=hgz.lo
         have hgz2:=nodeG_len z (landG ((nodeG y t.g).code.length) (fixG ⟨11,0,0⟩ 1 0 (putG [⟨1,1,0⟩] (fixG ⟨12,0,0⟩ 1 0 (nodeG y t.g)))))
         have hz4:=hgz2.hi
         have hz5:=hgz2.fhi
         have hz6:=hgz2.lo
         simp only [gsL9] at hz1 hz2 hz3 hz4 hz5 hz6
         refine Cr (V0 (Ym rfl) (V0 (Yf fo138_4 rfl) (V0 (Yd 0 rfl rfl rfl na102) ?_)))
         refine V0 (Yo (i:=0) es102 rfl rfl hay (by omega)) ?_
         refine V0 (yl_lda 0 ag138 rfl rfl rfl (hrowy)) (Lf 3 rfl (Lf 3 rfl (Lf 3 rfl ?_)))
         refine Lw (ι:=SP×SP) [_,_,_] _ (.inl rfl) rfl en85 rfl rfl (fun _=>.tuple #[]) (fun q=>(gown 61 56 54 sb K ⟨nodeG y t.g,q.1,q.2⟩)) (fun _=>True) [H] (by simp) (fun w hw=>(hN2 y ya yc t w hsuby hoy (by show (t.g).code.length+8*wNd y≤_; (try simp only [gsL9]); omega) (by show (t.g).fix.length+8*wNd y≤_; (try simp only [gsL9]); omega) hw).mono fun e w' ⟨q,h1,h2⟩=>⟨q,h1,trivial,h2⟩) ?_
         intro q93 _
         refine Ln (Et (Cs (Cr (V0 (Ym rfl) (Lf 2 rfl (Lf 2 rfl (Lf 2 rfl ?_)))))))
         refine Lw (ι:=(SP×SP)×Nat×Nat) [_,_,_] _ (.inl rfl) rfl en89 rfl rfl (fun q=>.func (.func 126) #[] #[.pointer (some ⟨q.2.1,0,none⟩),.pointer (some ⟨q.2.2,0,none⟩)]) (fun q=>(gown 61 56 54 sb K ⟨fixG ⟨12,0,0⟩ 1 0 (nodeG y t.g),q.1.1,q.1.2⟩)++[blk q.2.1 (.cells #[.pointer (some ⟨sb,0,none⟩)] 58 (0,0)),blk q.2.2 (.cells #[.int .i64 ((nodeG y t.g).code.length:Int)] 3 (0,0))]) (fun _=>True) [] (by simp) (fun w hw=>(sjump_any sb K (⟨(nodeG y t.g),q93.1,q93.2⟩:GsA) 12 w (by show ((nodeG y t.g)).code.length+1≤_; (try simp only [gsL9]); omega) (by show ((nodeG y t.g)).fix.length+1≤_; (try simp only [gsL9]); omega) hw).mono fun e w' ⟨q,h1,h2⟩=>⟨q,h1,trivial,h2⟩) ?_
         intro q95 _
         refine V0 (Ya rfl) (Ln (Et (Cs (Cs (Cr (V0 (Yf fo138_0 rfl) (V0 (Yd 5 rfl rfl rfl na3) (V0 (yl_eq rfl rfl) (Ln (Et ?_))))))))))
         refine Cc rfl (fun hc8=>?_) (fun hc8=>?_)
         ·
          refine Cs (Cr (V0 (Ym rfl) (V0 (Yb zr56 pl56 rfl rfl) ?_)))
          refine Lb (.inl rfl) rfl el27 rfl rfl rfl rfl fun b101=>?_
          refine WL.blksl (rd:=rdIG) (f:=InsG.cells) (k:=3) (m:=1) 0 [⟨1,1,0⟩] rfl rfl InsG.cells_len (fun _ _ _ _ h=>h) (by simp) (by decide) fun H101 hH101=>?_
          refine Lf 2 rfl (Lf 2 rfl (Lf 2 rfl ?_))
          refine Lw (ι:=SP) [_,_,_] _ (.inl rfl) rfl en43 rfl rfl (fun _=>.tuple #[]) (fun q=>(gown 61 56 54 sb K ⟨putG [⟨1,1,0⟩] (⟨(fixG ⟨12,0,0⟩ 1 0 (nodeG y t.g)),q95.1.1,q95.1.2⟩:GsA).g,q,(⟨(fixG ⟨12,0,0⟩ 1 0 (nodeG y t.g)),q95.1.1,q95.1.2⟩:GsA).fa⟩)) (fun _=>True) [H101] (by simp) (fun w hw=>(sput_any sb K (⟨(fixG ⟨12,0,0⟩ 1 0 (nodeG y t.g)),q95.1.1,q95.1.2⟩:GsA) H101 (some ⟨b101,0,none⟩) 1 [⟨1,1,0⟩] w hH101 (by show ((fixG ⟨12,0,0⟩ 1 0 (nodeG y t.g))).code.length+[⟨1,1,0⟩].length≤_; (try simp only [gsL9]); omega) hw).mono fun e w' ⟨q,h1,h2⟩=>⟨q,h1,trivial,h2⟩) ?_
          intro q102 _
          refine Ln (Et (Cs (Cr (V0 (Ym rfl) (Lf 2 rfl (Lf 2 rfl (Lf 2 rfl ?_)))))))
          refine Lw (ι:=(SP×SP)×Nat×Nat) [_,_,_] _ (.inl rfl) rfl en89 rfl rfl (fun q=>.func (.func 126) #[] #[.pointer (some ⟨q.2.1,0,none⟩),.pointer (some ⟨q.2.2,0,none⟩)]) (fun q=>(gown 61 56 54 sb K ⟨fixG ⟨11,0,0⟩ 1 0 (putG [⟨1,1,0⟩] (fixG ⟨12,0,0⟩ 1 0 (nodeG y t.g))),q.1.1,q.1.2⟩)++[blk q.2.1 (.cells #[.pointer (some ⟨sb,0,none⟩)] 58 (0,0)),blk q.2.2 (.cells #[.int .i64 ((putG [⟨1,1,0⟩] (fixG ⟨12,0,0⟩ 1 0 (nodeG y t.g))).code.length:Int)] 3 (0,0))]) (fun _=>True) [] (by simp) (fun w hw=>(sjump_any sb K (⟨(putG [⟨1,1,0⟩] (fixG ⟨12,0,0⟩ 1 0 (nodeG y t.g))),q102,q95.1.2⟩:GsA) 11 w (by show ((putG [⟨1,1,0⟩] (fixG ⟨12,0,0⟩ 1 0 (nodeG y t.g)))).code.length+1≤_; (try simp only [gsL9]); omega) (by show ((putG [⟨1,1,0⟩] (fixG ⟨12,0,0⟩ 1 0 (nodeG y t.g)))).fix.length+1≤_; (try simp only [gsL9]); omega) hw).mono fun e w' ⟨q,h1,h2⟩=>⟨q,h1,trivial,h2⟩) ?_
          intro q104 _
          refine V0 (Ya rfl) (Ln (Et (Cs (Cr (V0 (Ym rfl) (Lf 6 rfl (Lf 6 rfl (Lf 4 rfl ?_))))))))
          refine Lf 4 rfl (Lf 4 rfl ?_)
          refine WL.callvw (ι:=Unit) [_,_,_,_,_] _ (.inl rfl) rfl en126 rfl rfl rfl (fun _=>.tuple #[]) (fun _=>(gown 61 56 54 sb K ⟨landG ((nodeG y t.g).code.length) (fixG ⟨11,0,0⟩ 1 0 (putG [⟨1,1,0⟩] (fixG ⟨12,0,0⟩ 1 0 (nodeG y t.g)))),(⟨(fixG ⟨11,0,0⟩ 1 0 (putG [⟨1,1,0⟩] (fixG ⟨12,0,0⟩ 1 0 (nodeG y t.g)))),q104.1.1,q104.1.2⟩:GsA).ca,(⟨(fixG ⟨11,0,0⟩ 1 0 (putG [⟨1,1,0⟩] (fixG ⟨12,0,0⟩ 1 0 (nodeG y t.g)))),q104.1.1,q104.1.2⟩:GsA).fa⟩)++[blk q95.2.1 (.cells #[.pointer (some ⟨sb,0,none⟩)] 58 (0,0)),blk q95.2.2 (.cells #[.int .i64 ((nodeG y t.g).code.length:Int)] 3 (0,0))]) (fun _=>True) [] (by simp) (fun w hw=>(sland_any sb K (⟨(fixG ⟨11,0,0⟩ 1 0 (putG [⟨1,1,0⟩] (fixG ⟨12,0,0⟩ 1 0 (nodeG y t.g)))),q104.1.1,q104.1.2⟩:GsA) q95.2.1 q95.2.2 ((nodeG y t.g).code.length) _ w (List.getElem?_eq_getElem (by show (nodeG y t.g).code.length<((fixG ⟨11,0,0⟩ 1 0 (putG [⟨1,1,0⟩] (fixG ⟨12,0,0⟩ 1 0 (nodeG y t.g))))).code.length; (try simp only [gsL9]); omega)) hw).mono fun e w' h=>⟨(),h.1,trivial,h.2⟩) ?_
          intro _ _
          refine Ln (Et (Cr (V0 (Ym rfl) (V0 (Ya rfl) (Ln (Et (Cs (Cs (Cr (V0 (Yf fo138_0 rfl) (V0 (Yd 7 rfl rfl rfl na3) ?_)))))))))))
          refine V0 (yl_eq rfl rfl) (Ln (Et ?_))
          refine Cc rfl (fun hc9=>?_) (fun hc9=>?_)
          ·
           refine Cs (Cr (V0 (Ym rfl) (V0 (Yf fo138_4 rfl) (V0 (Yd 7 rfl rfl rfl na102) ?_))))
           refine V0 (Yo (i:=1) es102 rfl rfl haz (by omega)) ?_
           refine V0 (yl_lda 1 ag138 rfl rfl rfl (hrowz)) (Lf 2 rfl (Lf 2 rfl (Lf 2 rfl ?_)))
           refine Lw (ι:=SP×SP) [_,_,_] _ (.inl rfl) rfl en85 rfl rfl (fun _=>.tuple #[]) (fun q=>(gown 61 56 54 sb K ⟨nodeG z (landG ((nodeG y t.g).code.length) (fixG ⟨11,0,0⟩ 1 0 (putG [⟨1,1,0⟩] (fixG ⟨12,0,0⟩ 1 0 (nodeG y t.g))))),q.1,q.2⟩)) (fun _=>True) [H] (by simp) (fun w hw=>(hN2 z za zc (⟨(landG ((nodeG y t.g).code.length) (fixG ⟨11,0,0⟩ 1 0 (putG [⟨1,1,0⟩] (fixG ⟨12,0,0⟩ 1 0 (nodeG y t.g))))),q104.1.1,q104.1.2⟩:GsA) w hsubz hoz (by show ((landG ((nodeG y t.g).code.length) (fixG ⟨11,0,0⟩ 1 0 (putG [⟨1,1,0⟩] (fixG ⟨12,0,0⟩ 1 0 (nodeG y t.g)))))).code.length+8*wNd z≤_; (try simp only [gsL9]); omega) (by show ((landG ((nodeG y t.g).code.length) (fixG ⟨11,0,0⟩ 1 0 (putG [⟨1,1,0⟩] (fixG ⟨12,0,0⟩ 1 0 (nodeG y t.g)))))).fix.length+8*wNd z≤_; (try simp only [gsL9]); omega) hw).mono fun e w' ⟨q,h1,h2⟩=>⟨q,h1,trivial,h2⟩) ?_
           intro q116 _
           refine Ln (Et (Cs (Cr (V0 (Ym rfl) (V0 (Yb zr56 pl56 rfl rfl) ?_)))))
           refine Lb (.inl rfl) rfl el27 rfl rfl rfl rfl fun b119=>?_
           refine WL.blksl (rd:=rdIG) (f:=InsG.cells) (k:=3) (m:=1) 0 [⟨22,0,0⟩] rfl rfl InsG.cells_len (fun _ _ _ _ h=>h) (by simp) (by decide) fun H119 hH119=>?_
           refine Lf 2 rfl (Lf 2 rfl (Lf 2 rfl ?_))
           refine Lw (ι:=SP) [_,_,_] _ (.inl rfl) rfl en43 rfl rfl (fun _=>.tuple #[]) (fun q=>(gown 61 56 54 sb K ⟨putG [⟨22,0,0⟩] (⟨(nodeG z (landG ((nodeG y t.g).code.length) (fixG ⟨11,0,0⟩ 1 0 (putG [⟨1,1,0⟩] (fixG ⟨12,0,0⟩ 1 0 (nodeG y t.g)))))),q116.1,q116.2⟩:GsA).g,q,(⟨(nodeG z (landG ((nodeG y t.g).code.length) (fixG ⟨11,0,0⟩ 1 0 (putG [⟨1,1,0⟩] (fixG ⟨12,0,0⟩ 1 0 (nodeG y t.g)))))),q116.1,q116.2⟩:GsA).fa⟩)) (fun _=>True) [H119] (by simp) (fun w hw=>(sput_any sb K (⟨(nodeG z (landG ((nodeG y t.g).code.length) (fixG ⟨11,0,0⟩ 1 0 (putG [⟨1,1,0⟩] (fixG ⟨12,0,0⟩ 1 0 (nodeG y t.g)))))),q116.1,q116.2⟩:GsA) H119 (some ⟨b119,0,none⟩) 1 [⟨22,0,0⟩] w hH119 (by show ((nodeG z (landG ((nodeG y t.g).code.length) (fixG ⟨11,0,0⟩ 1 0 (putG [⟨1,1,0⟩] (fixG ⟨12,0,0⟩ 1 0 (nodeG y t.g))))))).code.length+[⟨22,0,0⟩].length≤_; (try simp only [gsL9]); omega) hw).mono fun e w' ⟨q,h1,h2⟩=>⟨q,h1,trivial,h2⟩) ?_
           intro q120 _
           refine Ln (Et (Cs (Cr (V0 (Ym rfl) (Lf 6 rfl (Lf 6 rfl (Lf 4 rfl (Lf 4 rfl ?_))))))))
           refine Lf 4 rfl ?_
           refine WL.callvw (ι:=Unit) [_,_,_,_,_] _ (.inl rfl) rfl en126 rfl rfl rfl (fun _=>.tuple #[]) (fun _=>(gown 61 56 54 sb K ⟨landG ((putG [⟨1,1,0⟩] (fixG ⟨12,0,0⟩ 1 0 (nodeG y t.g))).code.length) (putG [⟨22,0,0⟩] (nodeG z (landG ((nodeG y t.g).code.length) (fixG ⟨11,0,0⟩ 1 0 (putG [⟨1,1,0⟩] (fixG ⟨12,0,0⟩ 1 0 (nodeG y t.g))))))),(⟨(putG [⟨22,0,0⟩] (nodeG z (landG ((nodeG y t.g).code.length) (fixG ⟨11,0,0⟩ 1 0 (putG [⟨1,1,0⟩] (fixG ⟨12,0,0⟩ 1 0 (nodeG y t.g))))))),q120,q116.2⟩:GsA).ca,(⟨(putG [⟨22,0,0⟩] (nodeG z (landG ((nodeG y t.g).code.length) (fixG ⟨11,0,0⟩ 1 0 (putG [⟨1,1,0⟩] (fixG ⟨12,0,0⟩ 1 0 (nodeG y t.g))))))),q120,q116.2⟩:GsA).fa⟩)++[blk q104.2.1 (.cells #[.pointer (some ⟨sb,0,none⟩)] 58 (0,0)),blk q104.2.2 (.cells #[.int .i64 ((putG [⟨1,1,0⟩] (fixG ⟨12,0,0⟩ 1 0 (nodeG y t.g))).code.length:Int)] 3 (0,0))]) (fun _=>True) [] (by simp) (fun w hw=>(sland_any sb K (⟨(putG [⟨22,0,0⟩] (nodeG z (landG ((nodeG y t.g).code.length) (fixG ⟨11,0,0⟩ 1 0 (putG [⟨1,1,0⟩] (fixG ⟨12,0,0⟩ 1 0 (nodeG y t.g))))))),q120,q116.2⟩:GsA) q104.2.1 q104.2.2 ((putG [⟨1,1,0⟩] (fixG ⟨12,0,0⟩ 1 0 (nodeG y t.g))).code.length) _ w (List.getElem?_eq_getElem (by show (putG [⟨1,1,0⟩] (fixG ⟨12,0,0⟩ 1 0 (nodeG y t.g))).code.length<((putG [⟨22,0,0⟩] (nodeG z (landG ((nodeG y t.g).code.length) (fixG ⟨11,0,0⟩ 1 0 (putG [⟨1,1,0⟩] (fixG ⟨12,0,0⟩ 1 0 (nodeG y t.g)))))))).code.length; (try simp only [gsL9]); omega)) hw).mono fun e w' h=>⟨(),h.1,trivial,h.2⟩) ?_
           intro _ _
           refine Ln (Et (Crt (Er (Ebr ?_))))
           refine WE.ret0 rfl fun w' hw=>?_
           have hr:nodeG x t.g=(landG ((putG [⟨1,1,0⟩] (fixG ⟨12,0,0⟩ 1 0 (nodeG y t.g))).code.length) (putG [⟨22,0,0⟩] (nodeG z (landG ((nodeG y t.g).code.length) (fixG ⟨11,0,0⟩ 1 0 (putG [⟨1,1,0⟩] (fixG ⟨12,0,0⟩ 1 0 (nodeG y t.g)))))))):=by
             rw [nodeG_eq,nodeGo,if_neg hn0,if_neg hn1,if_neg hn2,if_neg hn3,if_neg hn4,if_neg hn5,if_neg hn6,if_pos ho]
             unfold orG
             rw [kidG_at hyi,kidG_at hzi]
           rw [hr]
           exact ⟨(q120,q116.2),rfl,Ws.drops (Ws.keep (L:=[_,_,_]) hw) (fun _ hm=>List.mem_append_right [_,_] hm)⟩
          ·
           exact absurd hc9 (by rw [ho]; decide)
         ·
          exact absurd hc8 (by rw [ho]; decide)
        ·
         have hn7:¬x.op=8:=by simpa using hc7
         refine Cs ?_
         have hgl:=nodesG_len x.args t.g
         have hh1:=hgl.hi
         have hh2:=hgl.fhi
         refine Cr (V0 (Ym rfl) (V0 (Yf fo138_4 rfl) (V0 (Yd 0 rfl rfl rfl na102) (Lf 3 rfl (Lf 3 rfl ?_)))))
         refine Lf 3 rfl ?_
         refine Lw (ι:=SP×SP) [_,_,_] _ (.inl rfl) rfl en125 rfl rfl (fun _=>.tuple #[]) (fun q=>(gown 61 56 54 sb K ⟨nodesG x.args t.g,q.1,q.2⟩)) (fun _=>True) [H] (by simp) (fun w hw=>(snodes_any sb K t H k x.args a c w hN hl hok.args.1 (by omega) (by omega) hw).mono fun e w' ⟨q,h1,h2⟩=>⟨q,h1,trivial,h2⟩) ?_
         intro q12 _
         refine Ln (Et (Cs (Cr (V0 (Yf fo138_0 rfl) (V0 (Yd 3 rfl rfl rfl na3) (V0 (yl_eq rfl rfl) (Ln (Et ?_))))))))
         refine Cc rfl (fun hc10=>?_) (fun hc10=>?_)
         ·
          have ho:x.op=6:=by simpa using hc10
          refine Cr (V0 (Ym rfl) (V0 (Yb zr56 pl56 rfl rfl) ?_))
          refine Lb (.inl rfl) rfl el27 rfl rfl rfl rfl fun b18=>?_
          refine WL.blksl (rd:=rdIG) (f:=InsG.cells) (k:=3) (m:=1) 0 [⟨9,0,0⟩] rfl rfl InsG.cells_len (fun _ _ _ _ h=>h) (by simp) (by decide) fun H18 hH18=>?_
          refine Lf 2 rfl (Lf 2 rfl (Lf 2 rfl ?_))
          refine Lw (ι:=SP) [_,_,_] _ (.inl rfl) rfl en43 rfl rfl (fun _=>.tuple #[]) (fun q=>(gown 61 56 54 sb K ⟨putG [⟨9,0,0⟩] (⟨(nodesG x.args t.g),q12.1,q12.2⟩:GsA).g,q,(⟨(nodesG x.args t.g),q12.1,q12.2⟩:GsA).fa⟩)) (fun _=>True) [H18] (by simp) (fun w hw=>(sput_any sb K (⟨(nodesG x.args t.g),q12.1,q12.2⟩:GsA) H18 (some ⟨b18,0,none⟩) 1 [⟨9,0,0⟩] w hH18 (by show ((nodesG x.args t.g)).code.length+[⟨9,0,0⟩].length≤_; (try simp only [gsL9]); omega) hw).mono fun e w' ⟨q,h1,h2⟩=>⟨q,h1,trivial,h2⟩) ?_
          intro q19 _
          refine Ln (Eb ?_)
          refine WE.end0 rfl fun w' hw=>?_
          have hr:nodeG x t.g=putG [⟨9,0,0⟩] (nodesG x.args t.g):=by
            rw [nodeG_eq,nodeGo,if_neg hn0,if_neg hn1,if_neg hn2,if_neg hn3,if_neg hn4,if_neg hn5,if_neg hn6,if_neg hn7,if_pos ho]
            rw [allG_nodes]
          rw [hr]
          exact ⟨(q19,q12.2),rfl,Ws.drops (Ws.keep (L:=[_,_,_]) hw) (fun _ hm=>List.mem_append_right [_] hm)⟩
         ·
          have hn10:¬x.op=6:=by simpa using hc10
          refine Cr (V0 (Ym rfl) (V0 (Yf fo138_0 rfl) (V0 (Yd 3 rfl rfl rfl na3) (V0 (Yb zr56 pl56 rfl rfl) ?_))))
          refine Lb (.inl rfl) rfl el27 rfl rfl rfl rfl fun b24=>?_
          refine WL.blksl (rd:=rdIG) (f:=InsG.cells) (k:=3) (m:=1) 0 [⟨10,x.op,0⟩] rfl rfl InsG.cells_len (fun _ _ _ _ h=>h) (by simp) (by decide) fun H24 hH24=>?_
          refine Lf 2 rfl (Lf 2 rfl (Lf 2 rfl ?_))
          refine Lw (ι:=SP) [_,_,_] _ (.inl rfl) rfl en43 rfl rfl (fun _=>.tuple #[]) (fun q=>(gown 61 56 54 sb K ⟨putG [⟨10,x.op,0⟩] (⟨(nodesG x.args t.g),q12.1,q12.2⟩:GsA).g,q,(⟨(nodesG x.args t.g),q12.1,q12.2⟩:GsA).fa⟩)) (fun _=>True) [H24] (by simp) (fun w hw=>(sput_any sb K (⟨(nodesG x.args t.g),q12.1,q12.2⟩:GsA) H24 (some ⟨b24,0,none⟩) 1 [⟨10,x.op,0⟩] w hH24 (by show ((nodesG x.args t.g)).code.length+[⟨10,x.op,0⟩].length≤_; (try simp only [gsL9]); omega) hw).mono fun e w' ⟨q,h1,h2⟩=>⟨q,h1,trivial,h2⟩) ?_
          intro q25 _
          refine Ln (Eb ?_)
          refine WE.end0 rfl fun w' hw=>?_
          have hr:nodeG x t.g=putG [⟨10,x.op,0⟩] (nodesG x.args t.g):=by
            rw [nodeG_eq,nodeGo,if_neg hn0,if_neg hn1,if_neg hn2,if_neg hn3,if_neg hn4,if_neg hn5,if_neg hn6,if_neg hn7,if_neg hn10,allG_nodes]
          rw [hr]
          exact ⟨(q25,q12.2),rfl,Ws.drops (Ws.keep (L:=[_,_,_]) hw) (fun _ hm=>List.mem_append_right [_] hm)⟩
end Go.Proofs.YtpjekjnehiinnaaGreatDoor
end
section
namespace Go.Proofs.YtpjekjnehiinnaaGreatDoor
open Go.Bw
set_option linter.unusedVariables false
set_option linter.unusedSimpArgs false
def GActs (H:View) (sb:Nat) (K:ObjK) (ke k:Nat):Prop:=∀(l:List TAct) (a:Option Addr) (c:Nat) (t:GsA) (w:World),Sl (RdA ke k) 7 H a c l→ActsOk l→t.g.code.length+8*wAcs l≤1000000000000→t.g.fix.length+8*wAcs l≤1000000000000→
 Ws w (List.flatMap Asr.ids (gown 61 56 54 sb K t)) (gown 61 56 54 sb K t) [H] w→Calls Tryz.prog 44 #[.pointer (some ⟨sb,0,none⟩),.slice a l.length c] w fun e w'=>∃q:SP×SP,e = .returned (.tuple #[])∧Ws w (List.flatMap Asr.ids (gown 61 56 54 sb K t)) (gown 61 56 54 sb K ⟨actsG l t.g,q.1,q.2⟩) [H] w'
theorem en44:Enters Tryz.prog 44:=enters_of Tryz.func44 (by kernel_rfl) rfl
theorem en61:Enters Tryz.prog 61:=enters_of Tryz.func61 (by kernel_rfl) rfl
theorem sact_any (sb:Nat) (K:ObjK) (t:GsA) (H:View) (ke k:Nat) (x:TAct) (r:AAt) (w:World) (hA:GActs H sb K ke k) (h1:Sl (RdN ke) 5 H r.s1.1 r.s1.2 x.args) (h2:Sl (RdA ke k) 7 H r.s2.1 r.s2.2 x.body) (h3:Sl (RdA ke k) 7 H r.s3.1 r.s3.2 x.other) (hok:ActOk x) (hb:t.g.code.length+8*wAc x≤1000000000000) (hfb:t.g.fix.length+8*wAc x≤1000000000000) (hw:Ws w (List.flatMap Asr.ids (gown 61 56 54 sb K t)) (gown 61 56 54 sb K t) [H] w) :
   Calls Tryz.prog 61 #[.pointer (some ⟨sb,0,none⟩),.agg (actV x r).toArray] w fun e w'=>∃q:SP×SP,e = .returned (.tuple #[])∧Ws w (List.flatMap Asr.ids (gown 61 56 54 sb K t)) (gown 61 56 54 sb K ⟨actG x t.g,q.1,q.2⟩) [H] w':=by
 have hN:∀k2,GNode H sb K k2:=fun k2 x a c t w h1 h2 h3 h4 h5=>snode_any sb K t H k2 x a c w h1 h2 h3 h4 h5
 have hcap:=h1.cap
 have hmax:=h1.max
 have hcap3:=h3.cap
 have hmax3:=h3.max
 have hwe:=wAc_eq x
 refine enter Tryz.func61 rfl 155 rfl rfl ?_
 refine CWd (W':=Ws w (List.flatMap Asr.ids (gown 61 56 54 sb K t)) (gown 61 56 54 sb K t) [H]) (fun _ e=>by subst e; exact hw) ?_
 refine Cs (Cr ?_)
 refine WL.box (.inl rfl) rfl rfl fun b3=>?_
 refine Ln (Et (Cs (Cr (V0 (Yf fo104_0 rfl) (V0 (Yd 0 rfl rfl rfl na3) (Ln (Et (Cb (Cs (Cr (V0 (yl_eq rfl rfl) (V0 (Ya rfl) ?_))))))))))))
 refine Ln (Et ?_)
 refine Cc rfl (fun hc0=>?_) (fun hc0=>?_)
 ·
  have ho:x.op=1:=by simpa using hc0
  refine Cs ?_
  have hl1:=hok.parts.2.2.2.1 (by omega)
  obtain ⟨y,hyi⟩:∃y,x.args[0]? = some y:=⟨_,List.getElem?_eq_getElem (by omega)⟩
  obtain ⟨pby,poy,hay,hry⟩:=h1.elt 0 y hyi
  obtain ⟨k2,rfl⟩:∃k2,ke=k2+1:=by
    cases ke with
    | zero=>exact hry.elim
    | succ k2=>exact ⟨k2,rfl⟩
  obtain ⟨ya,yc,hrowy,hsuby⟩:=hry
  have hN2:=hN k2
  have hoy:=hok.parts.1.at_ hyi
  have hw1:=wNd_one hyi
  have hgl:=nodeG_len y t.g
  have hh1:=hgl.hi
  have hh2:=hgl.fhi
  have hh3:=hgl.lo
  refine Cr (V0 (Ym rfl) (V0 (Yf fo104_4 rfl) (V0 (Yd 0 rfl rfl rfl na102) ?_)))
  refine V0 (Yo (i:=0) es102 rfl rfl hay (by omega)) ?_
  refine V0 (yl_lda 0 ag138 rfl rfl rfl (hrowy)) (Lf 3 rfl (Lf 3 rfl (Lf 3 rfl ?_)))
  refine Lw (ι:=SP×SP) [_,_,_] _ (.inl rfl) rfl en85 rfl rfl (fun _=>.tuple #[]) (fun q=>(gown 61 56 54 sb K ⟨nodeG y t.g,q.1,q.2⟩)) (fun _=>True) [H] (by simp) (fun w hw=>(hN2 y ya yc t w hsuby hoy (by show (t.g).code.length+8*wNd y≤_; (try simp only [gsL9]); omega) (by show (t.g).fix.length+8*wNd y≤_; (try simp only [gsL9]); omega) hw).mono fun e w' ⟨q,h1,h2⟩=>⟨q,h1,trivial,h2⟩) ?_
  intro q17 _
  refine Ln (Et (Cs (Cr (V0 (Yf fo104_2 rfl) (V0 (Yd 3 rfl rfl rfl na3) (V0 (yl_lt rfl rfl) (Ln (Et ?_))))))))
  refine Cc rfl (fun hc1=>?_) (fun hc1=>?_)
  ·
   have hm:x.m<0:=by simpa using hc1
   refine Cr (V0 (Ym rfl) (V0 (Yf fo104_3 rfl) (V0 (Yd 3 rfl rfl rfl na3) (V0 (Yb zr56 pl56 rfl rfl) ?_))))
   refine Lb (.inl rfl) rfl el27 rfl rfl rfl rfl fun b25=>?_
   refine WL.blksl (rd:=rdIG) (f:=InsG.cells) (k:=3) (m:=1) 0 [⟨3,x.pl,0⟩] rfl rfl InsG.cells_len (fun _ _ _ _ h=>h) (by simp) (by decide) fun H25 hH25=>?_
   refine Lf 2 rfl (Lf 2 rfl (Lf 2 rfl ?_))
   refine Lw (ι:=SP) [_,_,_] _ (.inl rfl) rfl en43 rfl rfl (fun _=>.tuple #[]) (fun q=>(gown 61 56 54 sb K ⟨putG [⟨3,x.pl,0⟩] (⟨(nodeG y t.g),q17.1,q17.2⟩:GsA).g,q,(⟨(nodeG y t.g),q17.1,q17.2⟩:GsA).fa⟩)) (fun _=>True) [H25] (by simp) (fun w hw=>(sput_any sb K (⟨(nodeG y t.g),q17.1,q17.2⟩:GsA) H25 (some ⟨b25,0,none⟩) 1 [⟨3,x.pl,0⟩] w hH25 (by show ((nodeG y t.g)).code.length+[⟨3,x.pl,0⟩].length≤_; (try simp only [gsL9]); omega) hw).mono fun e w' ⟨q,h1,h2⟩=>⟨q,h1,trivial,h2⟩) ?_
   intro q26 _
   refine Ln (Eb ?_)
   refine WE.end0 rfl fun w' hw=>?_
   have hr:actG x t.g=putG [⟨3,x.pl,0⟩] (nodeG y t.g):=by
     rw [actG_eq,actGo,if_pos ho,if_pos hm,kidG_at hyi]
   rw [hr]
   exact ⟨(q26,q17.2),rfl,Ws.drops (Ws.keep (L:=[_,_,_]) hw) (fun _ hm=>List.mem_append_right [_] hm)⟩
  ·
   have hm:¬x.m<0:=by simpa using hc1
   refine Cr (V0 (Ym rfl) (V0 (Yf fo104_3 rfl) (V0 (Yd 3 rfl rfl rfl na3) (V0 (Yb zr56 pl56 rfl rfl) (V0 (Yf fo104_2 rfl) ?_)))))
   refine V0 (Yd 3 rfl rfl rfl na3) (Lf 2 rfl (Lf 2 rfl (Lf 2 rfl ?_)))
   refine Lw (ι:=SP×SP) [_,_,_] _ (.inl rfl) rfl en86 rfl rfl (fun _=>.int .i64 ((nodeG y t.g).code.length:Int)) (fun q=>(gown 61 56 54 sb K ⟨fixG ⟨5,x.pl,0⟩ 3 x.m (nodeG y t.g),q.1,q.2⟩)) (fun _=>True) [] (by simp) (fun w hw=>(sfix_any sb K (⟨(nodeG y t.g),q17.1,q17.2⟩:GsA)  ⟨5,x.pl,0⟩ 3 x.m w  (by show ((nodeG y t.g)).code.length+1≤_; (try simp only [gsL9]); omega) (by show ((nodeG y t.g)).fix.length+1≤_; (try simp only [gsL9]); omega) hw).mono fun e w' ⟨q,h1,h2⟩=>⟨q,h1,trivial,h2⟩) ?_
   intro q33 _
   refine Ln (Eb ?_)
   refine WE.end0 rfl fun w' hw=>?_
   have hr:actG x t.g=fixG ⟨5,x.pl,0⟩ 3 x.m (nodeG y t.g):=by
     rw [actG_eq,actGo,if_pos ho,if_neg hm,kidG_at hyi]
   rw [hr]
   exact ⟨(q33.1,q33.2),rfl,Ws.keep (L:=[_,_,_]) hw⟩
 ·
  have hn1:¬x.op=1:=by simpa using hc0
  refine Cs (Cr (V0 (yl_eq rfl rfl) (V0 (Ya rfl) (Ln (Et ?_)))))
  refine Cc rfl (fun hc2=>?_) (fun hc2=>?_)
  ·
   have ho:x.op=2:=by simpa using hc2
   refine Cs ?_
   have hl2:=hok.parts.2.2.2.2.1 (by omega)
   obtain ⟨y,hyi⟩:∃y,x.args[0]? = some y:=⟨_,List.getElem?_eq_getElem (by omega)⟩
   obtain ⟨pby,poy,hay,hry⟩:=h1.elt 0 y hyi
   obtain ⟨z,hzi⟩:∃y,x.args[1]? = some y:=⟨_,List.getElem?_eq_getElem (by omega)⟩
   obtain ⟨pbz,poz,haz,hrz⟩:=h1.elt 1 z hzi
   obtain ⟨k2,rfl⟩:∃k2,ke=k2+1:=by
     cases ke with
     | zero=>exact hry.elim
     | succ k2=>exact ⟨k2,rfl⟩
   obtain ⟨ya,yc,hrowy,hsuby⟩:=hry
   have hN2:=hN k2
   have hoy:=hok.parts.1.at_ hyi
   have hw1:=wNd_one hyi
   have hgl:=nodeG_len y t.g
   have hh1:=hgl.hi
   have hh2:=hgl.fhi
   have hh3:=hgl.lo
   obtain ⟨za,zc,hrowz,hsubz⟩:=hrz
   have hoz:=hok.parts.1.at_ hzi
   have hw2:=wNd_two hyi hzi
   have hgz:=nodeG_len z (fixG ⟨6,x.pl,x.n⟩ 3 x.m (nodeG y t.g))
   have hz1:=hgz.hi
   have hz2:=hgz.fhi
   have hz3:=hgz.lo
   try simp only [gsL9] at hz1 hz2 hz3
   refine CU (fun _=>true) [1,1,1] [] (.q false 0 (.q false 1 (.q true 2 (.q false 3 (.q true 4 (.q false 5 (.q true 6 (.q false 7 (.q true 8 (.q false 9 (.q true 10 (.e 11 .nil .stop)))))))))))) mixed (by kernel_rfl) (fun _ _ _ d _ _ h=>by cases d<;>exact h) ?_
   refine Uq rfl (.inl rfl) rfl (fun _ h=>by have h:=Ws.out 1 h; have h:=Ws.out 1 h; have h:=Ws.out 1 h; exact h) (Ym rfl) ?_
   refine Uq rfl (.inl rfl) rfl (fun _ h=>by have h:=Ws.out 1 h; have h:=Ws.out 1 h; have h:=Ws.out 1 h; exact h) (Yf fo104_2 rfl) ?_
   refine Uq rfl (.inl rfl) rfl (fun _ h=>by have h:=Ws.out 1 h; have h:=Ws.out 1 h; have h:=Ws.out 1 h; exact h) (Yd 0 rfl rfl rfl na3) ?_
   refine Uq rfl (.inl rfl) rfl (fun _ h=>by have h:=Ws.out 1 h; have h:=Ws.out 1 h; have h:=Ws.out 1 h; exact h) (Yf fo104_3 rfl) ?_
   refine Uq rfl (.inl rfl) rfl (fun _ h=>by have h:=Ws.out 1 h; have h:=Ws.out 1 h; have h:=Ws.out 1 h; exact h) (Yd 0 rfl rfl rfl na3) ?_
   refine Uq rfl (.inl rfl) rfl (fun _ h=>by have h:=Ws.out 1 h; have h:=Ws.out 1 h; have h:=Ws.out 1 h; exact h) (Yf fo104_1 rfl) ?_
   refine Uq rfl (.inl rfl) rfl (fun _ h=>by have h:=Ws.out 1 h; have h:=Ws.out 1 h; have h:=Ws.out 1 h; exact h) (Yd 0 rfl rfl rfl na3) ?_
   refine Uq rfl (.inl rfl) rfl (fun _ h=>by have h:=Ws.out 1 h; have h:=Ws.out 1 h; have h:=Ws.out 1 h; exact h) (Yf fo104_4 rfl) ?_
   refine Uq rfl (.inl rfl) rfl (fun _ h=>by have h:=Ws.out 1 h; have h:=Ws.out 1 h; have h:=Ws.out 1 h; exact h) (Yd 0 rfl rfl rfl na102) ?_
   refine Uq rfl (.inl rfl) rfl (fun _ h=>by have h:=Ws.out 1 h; have h:=Ws.out 1 h; have h:=Ws.out 1 h; exact h) (Yo (i:=0) es102 rfl rfl hay (by omega)) ?_
   refine Uq rfl (.inl rfl) rfl (fun _ h=>by have h:=Ws.out 1 h; have h:=Ws.out 1 h; have h:=Ws.out 1 h; exact h) (yl_lda 0 ag138 rfl rfl rfl (hrowy)) ?_
   refine Ue rfl (fun _ h=>by have h:=Ws.out 1 h; have h:=Ws.out 1 h; have h:=Ws.out 1 h; exact h) ?_ WU.stop
   refine Lf 3 rfl (Lf 3 rfl (Lf 3 rfl ?_))
   refine Lw (ι:=SP×SP) [_,_,_] _ (.inl rfl) rfl en87 rfl rfl (fun _=>.tuple #[]) (fun q=>(gown 61 56 54 sb K ⟨fixG ⟨6,x.pl,x.n⟩ 3 x.m (nodeG y t.g),q.1,q.2⟩)) (fun _=>True) [H] (by simp) (fun w hw=>(sindex_any sb K t H k2 x.m x.pl x.n y ya yc w hN2 hsuby hoy (by omega) (by omega) hw).mono fun e w' ⟨q,h1,h2⟩=>⟨q,h1,trivial,h2⟩) ?_
   intro q47 _
   refine Ln (Eu ?_)
   refine WU.nil (fun _ h=>by have h:=h.fronti 2 rfl; have h:=h.fronti 2 rfl; have h:=h.fronti 2 rfl; have h:=h.fronti 3 rfl; have h:=Ws.out 1 h; have h:=Ws.out 1 h; have h:=Ws.out 1 h; exact h) ?_
   refine WS.nil ?_
   refine Et (Cs (Cr (V0 (Ym rfl) (V0 (Yf fo104_4 rfl) (V0 (Yd 3 rfl rfl rfl na102) ?_)))))
   refine V0 (Yo (i:=1) es102 rfl rfl haz (by omega)) ?_
   refine V0 (yl_lda 0 ag138 rfl rfl rfl (hrowz)) (Lf 2 rfl (Lf 2 rfl (Lf 2 rfl ?_)))
   refine Lw (ι:=SP×SP) [_,_,_] _ (.inl rfl) rfl en85 rfl rfl (fun _=>.tuple #[]) (fun q=>(gown 61 56 54 sb K ⟨nodeG z (fixG ⟨6,x.pl,x.n⟩ 3 x.m (nodeG y t.g)),q.1,q.2⟩)) (fun _=>True) [H] (by simp) (fun w hw=>(hN2 z za zc (⟨(fixG ⟨6,x.pl,x.n⟩ 3 x.m (nodeG y t.g)),q47.1,q47.2⟩:GsA) w hsubz hoz (by show ((fixG ⟨6,x.pl,x.n⟩ 3 x.m (nodeG y t.g))).code.length+8*wNd z≤_; (try simp only [gsL9]); omega) (by show ((fixG ⟨6,x.pl,x.n⟩ 3 x.m (nodeG y t.g))).fix.length+8*wNd z≤_; (try simp only [gsL9]); omega) hw).mono fun e w' ⟨q,h1,h2⟩=>⟨q,h1,trivial,h2⟩) ?_
   intro q53 _
   refine Ln (Et (Cr (V0 (Ym rfl) (V0 (Yb zr56 pl56 rfl rfl) ?_))))
   refine Lb (.inl rfl) rfl el27 rfl rfl rfl rfl fun b56=>?_
   refine WL.blksl (rd:=rdIG) (f:=InsG.cells) (k:=3) (m:=1) 0 [⟨8,0,0⟩] rfl rfl InsG.cells_len (fun _ _ _ _ h=>h) (by simp) (by decide) fun H56 hH56=>?_
   refine Lf 2 rfl (Lf 2 rfl (Lf 2 rfl ?_))
   refine Lw (ι:=SP) [_,_,_] _ (.inl rfl) rfl en43 rfl rfl (fun _=>.tuple #[]) (fun q=>(gown 61 56 54 sb K ⟨putG [⟨8,0,0⟩] (⟨(nodeG z (fixG ⟨6,x.pl,x.n⟩ 3 x.m (nodeG y t.g))),q53.1,q53.2⟩:GsA).g,q,(⟨(nodeG z (fixG ⟨6,x.pl,x.n⟩ 3 x.m (nodeG y t.g))),q53.1,q53.2⟩:GsA).fa⟩)) (fun _=>True) [H56] (by simp) (fun w hw=>(sput_any sb K (⟨(nodeG z (fixG ⟨6,x.pl,x.n⟩ 3 x.m (nodeG y t.g))),q53.1,q53.2⟩:GsA) H56 (some ⟨b56,0,none⟩) 1 [⟨8,0,0⟩] w hH56 (by show ((nodeG z (fixG ⟨6,x.pl,x.n⟩ 3 x.m (nodeG y t.g)))).code.length+[⟨8,0,0⟩].length≤_; (try simp only [gsL9]); omega) hw).mono fun e w' ⟨q,h1,h2⟩=>⟨q,h1,trivial,h2⟩) ?_
   intro q57 _
   refine Ln (Eb ?_)
   refine WE.end0 rfl fun w' hw=>?_
   have hr:actG x t.g=putG [⟨8,0,0⟩] (nodeG z (fixG ⟨6,x.pl,x.n⟩ 3 x.m (nodeG y t.g))):=by
     rw [actG_eq,actGo,if_neg hn1,if_pos ho,kidG_at hyi,kidG_at hzi]
   rw [hr]
   exact ⟨(q57,q53.2),rfl,Ws.drops (Ws.keep (L:=[_,_,_]) hw) (fun _ hm=>List.mem_append_right [_] hm)⟩
  ·
   have hn2:¬x.op=2:=by simpa using hc2
   refine Cs (Cr (V0 (yl_eq rfl rfl) (V0 (Ya rfl) (Ln (Et ?_)))))
   refine Cc rfl (fun hc3=>?_) (fun hc3=>?_)
   ·
    have ho:x.op=3:=by simpa using hc3
    refine Cs ?_
    have hgn:=nodesG_len x.args t.g
    have hh1:=hgn.hi
    have hh2:=hgn.fhi
    refine Cr (V0 (Ym rfl) (V0 (Yf fo104_2 rfl) (V0 (Yd 0 rfl rfl rfl na3) (V0 (Yf fo104_3 rfl) (V0 (Yd 0 rfl rfl rfl na3) ?_)))))
    refine V0 (Yf fo104_4 rfl) (V0 (Yd 0 rfl rfl rfl na102) (Lf 3 rfl (Lf 3 rfl (Lf 3 rfl ?_))))
    refine Lw (ι:=SP×SP) [_,_,_] _ (.inl rfl) rfl en88 rfl rfl (fun _=>.tuple #[]) (fun q=>(gown 61 56 54 sb K ⟨fixG ⟨13,x.pl,0⟩ 2 x.m (nodesG x.args t.g),q.1,q.2⟩)) (fun _=>True) [H] (by simp) (fun w hw=>(scall_any sb K t H ke x.m x.pl x.args r.s1.1 r.s1.2 w (fun k2 _=>hN k2) h1 hok.parts.1 (by omega) (by omega) hw).mono fun e w' ⟨q,h1,h2⟩=>⟨q,h1,trivial,h2⟩) ?_
    intro q67 _
    refine Ln (Et (Cr (V0 (Ym rfl) (V0 (Yb zr56 pl56 rfl rfl) ?_))))
    refine Lb (.inl rfl) rfl el27 rfl rfl rfl rfl fun b70=>?_
    refine WL.blksl (rd:=rdIG) (f:=InsG.cells) (k:=3) (m:=1) 0 [⟨17,0,0⟩] rfl rfl InsG.cells_len (fun _ _ _ _ h=>h) (by simp) (by decide) fun H70 hH70=>?_
    refine Lf 2 rfl (Lf 2 rfl (Lf 2 rfl ?_))
    refine Lw (ι:=SP) [_,_,_] _ (.inl rfl) rfl en43 rfl rfl (fun _=>.tuple #[]) (fun q=>(gown 61 56 54 sb K ⟨putG [⟨17,0,0⟩] (⟨(fixG ⟨13,x.pl,0⟩ 2 x.m (nodesG x.args t.g)),q67.1,q67.2⟩:GsA).g,q,(⟨(fixG ⟨13,x.pl,0⟩ 2 x.m (nodesG x.args t.g)),q67.1,q67.2⟩:GsA).fa⟩)) (fun _=>True) [H70] (by simp) (fun w hw=>(sput_any sb K (⟨(fixG ⟨13,x.pl,0⟩ 2 x.m (nodesG x.args t.g)),q67.1,q67.2⟩:GsA) H70 (some ⟨b70,0,none⟩) 1 [⟨17,0,0⟩] w hH70 (by show ((fixG ⟨13,x.pl,0⟩ 2 x.m (nodesG x.args t.g))).code.length+[⟨17,0,0⟩].length≤_; (try simp only [gsL9]); omega) hw).mono fun e w' ⟨q,h1,h2⟩=>⟨q,h1,trivial,h2⟩) ?_
    intro q71 _
    refine Ln (Eb ?_)
    refine WE.end0 rfl fun w' hw=>?_
    have hr:actG x t.g=putG [⟨17,0,0⟩] (fixG ⟨13,x.pl,0⟩ 2 x.m (nodesG x.args t.g)):=by
      rw [actG_eq,actGo,if_neg hn1,if_neg hn2,if_pos ho,allG_nodes]
    rw [hr]
    exact ⟨(q71,q67.2),rfl,Ws.drops (Ws.keep (L:=[_,_,_]) hw) (fun _ hm=>List.mem_append_right [_] hm)⟩
   ·
    have hn3:¬x.op=3:=by simpa using hc3
    refine Cs (Cr (V0 (yl_eq rfl rfl) (V0 (Ya rfl) (Ln (Et ?_)))))
    refine Cc rfl (fun hc4=>?_) (fun hc4=>?_)
    ·
     have ho:x.op=4:=by simpa using hc4
     refine Cs ?_
     have hl1:=hok.parts.2.2.2.1 (by omega)
     obtain ⟨y,hyi⟩:∃y,x.args[0]? = some y:=⟨_,List.getElem?_eq_getElem (by omega)⟩
     obtain ⟨pby,poy,hay,hry⟩:=h1.elt 0 y hyi
     obtain ⟨k2,rfl⟩:∃k2,ke=k2+1:=by
       cases ke with
       | zero=>exact hry.elim
       | succ k2=>exact ⟨k2,rfl⟩
     obtain ⟨ya,yc,hrowy,hsuby⟩:=hry
     have hN2:=hN k2
     have hoy:=hok.parts.1.at_ hyi
     have hw1:=wNd_one hyi
     have hgl:=nodeG_len y t.g
     have hh1:=hgl.hi
     have hh2:=hgl.fhi
     have hh3:=hgl.lo
     have hgb:=actsG_len x.body (fixG ⟨12,0,0⟩ 1 0 (nodeG y t.g))
     have hb1:=hgb.hi
     have hb2:=hgb.fhi
     have hb3:=hgb.lo
     try simp only [gsL9] at hb1 hb2 hb3
     have hgo:=actsG_len x.other (landG ((nodeG y t.g).code.length) (fixG ⟨11,0,0⟩ 1 0 (actsG x.body (fixG ⟨12,0,0⟩ 1 0 (nodeG y t.g)))))
     have ho1:=hgo.hi
     have ho2:=hgo.fhi
     have ho3:=hgo.lo
     try simp only [gsL9] at ho1 ho2 ho3
     refine Cr (V0 (Ym rfl) (V0 (Yf fo104_4 rfl) (V0 (Yd 0 rfl rfl rfl na102) ?_)))
     refine V0 (Yo (i:=0) es102 rfl rfl hay (by omega)) ?_
     refine V0 (yl_lda 0 ag138 rfl rfl rfl (hrowy)) (Lf 3 rfl (Lf 3 rfl (Lf 3 rfl ?_)))
     refine Lw (ι:=SP×SP) [_,_,_] _ (.inl rfl) rfl en85 rfl rfl (fun _=>.tuple #[]) (fun q=>(gown 61 56 54 sb K ⟨nodeG y t.g,q.1,q.2⟩)) (fun _=>True) [H] (by simp) (fun w hw=>(hN2 y ya yc t w hsuby hoy (by show (t.g).code.length+8*wNd y≤_; (try simp only [gsL9]); omega) (by show (t.g).fix.length+8*wNd y≤_; (try simp only [gsL9]); omega) hw).mono fun e w' ⟨q,h1,h2⟩=>⟨q,h1,trivial,h2⟩) ?_
     intro q79 _
     refine Ln (Et (Cs (Cr (V0 (Ym rfl) (Lf 2 rfl (Lf 2 rfl (Lf 2 rfl ?_)))))))
     refine Lw (ι:=(SP×SP)×Nat×Nat) [_,_,_] _ (.inl rfl) rfl en89 rfl rfl (fun q=>.func (.func 126) #[] #[.pointer (some ⟨q.2.1,0,none⟩),.pointer (some ⟨q.2.2,0,none⟩)]) (fun q=>(gown 61 56 54 sb K ⟨fixG ⟨12,0,0⟩ 1 0 (nodeG y t.g),q.1.1,q.1.2⟩)++[blk q.2.1 (.cells #[.pointer (some ⟨sb,0,none⟩)] 58 (0,0)),blk q.2.2 (.cells #[.int .i64 ((nodeG y t.g).code.length:Int)] 3 (0,0))]) (fun _=>True) [] (by simp) (fun w hw=>(sjump_any sb K (⟨(nodeG y t.g),q79.1,q79.2⟩:GsA) 12 w (by show ((nodeG y t.g)).code.length+1≤_; (try simp only [gsL9]); omega) (by show ((nodeG y t.g)).fix.length+1≤_; (try simp only [gsL9]); omega) hw).mono fun e w' ⟨q,h1,h2⟩=>⟨q,h1,trivial,h2⟩) ?_
     intro q81 _
     refine V0 (Ya rfl) (Ln (Et (Cs (Cr (V0 (Ym rfl) (V0 (Yf fo104_5 rfl) (V0 (Yd 5 rfl rfl rfl na24) (Lf 2 rfl ?_))))))))
     refine Lf 2 rfl (Lf 2 rfl ?_)
     refine Lw (ι:=SP×SP) [_,_,_] _ (.inl rfl) rfl en44 rfl rfl (fun _=>.tuple #[]) (fun q=>(gown 61 56 54 sb K ⟨actsG x.body (fixG ⟨12,0,0⟩ 1 0 (nodeG y t.g)),q.1,q.2⟩)) (fun _=>True) [H] (by simp) (fun w hw=>(hA x.body r.s2.1 r.s2.2 (⟨(fixG ⟨12,0,0⟩ 1 0 (nodeG y t.g)),q81.1.1,q81.1.2⟩:GsA) w h2 (hok.parts.2.1 (by omega)) (by show ((fixG ⟨12,0,0⟩ 1 0 (nodeG y t.g))).code.length+8*wAcs x.body≤_; (try simp only [gsL9]); omega) (by show ((fixG ⟨12,0,0⟩ 1 0 (nodeG y t.g))).fix.length+8*wAcs x.body≤_; (try simp only [gsL9]); omega) hw).mono fun e w' ⟨q,h1,h2⟩=>⟨q,h1,trivial,h2⟩) ?_
     intro q85 _
     refine Ln (Et (Cs (Cs (Cr (V0 (Yf fo104_6 rfl) (V0 (Yd 5 rfl rfl rfl na24) (V0 (Yn es24 rfl) (V0 (yl_gt rfl rfl) (Ln (Et ?_))))))))))
     refine Cc rfl (fun hc5=>?_) (fun hc5=>?_)
     ·
      have hol:0<x.other.length:=by simpa using hc5
      refine Cs (Cr (V0 (Ym rfl) (Lf 2 rfl (Lf 2 rfl (Lf 2 rfl ?_)))))
      refine Lw (ι:=(SP×SP)×Nat×Nat) [_,_,_] _ (.inl rfl) rfl en89 rfl rfl (fun q=>.func (.func 126) #[] #[.pointer (some ⟨q.2.1,0,none⟩),.pointer (some ⟨q.2.2,0,none⟩)]) (fun q=>(gown 61 56 54 sb K ⟨fixG ⟨11,0,0⟩ 1 0 (actsG x.body (fixG ⟨12,0,0⟩ 1 0 (nodeG y t.g))),q.1.1,q.1.2⟩)++[blk q.2.1 (.cells #[.pointer (some ⟨sb,0,none⟩)] 58 (0,0)),blk q.2.2 (.cells #[.int .i64 ((actsG x.body (fixG ⟨12,0,0⟩ 1 0 (nodeG y t.g))).code.length:Int)] 3 (0,0))]) (fun _=>True) [] (by simp) (fun w hw=>(sjump_any sb K (⟨(actsG x.body (fixG ⟨12,0,0⟩ 1 0 (nodeG y t.g))),q85.1,q85.2⟩:GsA) 11 w (by show ((actsG x.body (fixG ⟨12,0,0⟩ 1 0 (nodeG y t.g)))).code.length+1≤_; (try simp only [gsL9]); omega) (by show ((actsG x.body (fixG ⟨12,0,0⟩ 1 0 (nodeG y t.g)))).fix.length+1≤_; (try simp only [gsL9]); omega) hw).mono fun e w' ⟨q,h1,h2⟩=>⟨q,h1,trivial,h2⟩) ?_
      intro q91 _
      refine V0 (Ya rfl) (Ln (Et (Cs (Cr (V0 (Ym rfl) (Lf 6 rfl (Lf 6 rfl (Lf 4 rfl ?_))))))))
      refine Lf 4 rfl (Lf 4 rfl ?_)
      refine WL.callvw (ι:=Unit) [_,_,_,_,_] _ (.inl rfl) rfl en126 rfl rfl rfl (fun _=>.tuple #[]) (fun _=>(gown 61 56 54 sb K ⟨landG ((nodeG y t.g).code.length) (fixG ⟨11,0,0⟩ 1 0 (actsG x.body (fixG ⟨12,0,0⟩ 1 0 (nodeG y t.g)))),(⟨(fixG ⟨11,0,0⟩ 1 0 (actsG x.body (fixG ⟨12,0,0⟩ 1 0 (nodeG y t.g)))),q91.1.1,q91.1.2⟩:GsA).ca,(⟨(fixG ⟨11,0,0⟩ 1 0 (actsG x.body (fixG ⟨12,0,0⟩ 1 0 (nodeG y t.g)))),q91.1.1,q91.1.2⟩:GsA).fa⟩)++[blk q81.2.1 (.cells #[.pointer (some ⟨sb,0,none⟩)] 58 (0,0)),blk q81.2.2 (.cells #[.int .i64 ((nodeG y t.g).code.length:Int)] 3 (0,0))]) (fun _=>True) [] (by simp) (fun w hw=>(sland_any sb K (⟨(fixG ⟨11,0,0⟩ 1 0 (actsG x.body (fixG ⟨12,0,0⟩ 1 0 (nodeG y t.g)))),q91.1.1,q91.1.2⟩:GsA) q81.2.1 q81.2.2 ((nodeG y t.g).code.length) _ w (List.getElem?_eq_getElem (by show (nodeG y t.g).code.length<((fixG ⟨11,0,0⟩ 1 0 (actsG x.body (fixG ⟨12,0,0⟩ 1 0 (nodeG y t.g))))).code.length; (try simp only [gsL9]); omega)) hw).mono fun e w' h=>⟨(),h.1,trivial,h.2⟩) ?_
      intro _ _
      refine Ln (Et (Cs (Cr (V0 (Ym rfl) (V0 (Yf fo104_6 rfl) (V0 (Yd 7 rfl rfl rfl na24) (Lf 2 rfl (Lf 2 rfl ?_))))))))
      refine Lf 2 rfl ?_
      refine Lw (ι:=SP×SP) [_,_,_] _ (.inl rfl) rfl en44 rfl rfl (fun _=>.tuple #[]) (fun q=>(gown 61 56 54 sb K ⟨actsG x.other (landG ((nodeG y t.g).code.length) (fixG ⟨11,0,0⟩ 1 0 (actsG x.body (fixG ⟨12,0,0⟩ 1 0 (nodeG y t.g))))),q.1,q.2⟩)) (fun _=>True) [H] (by simp) (fun w hw=>(hA x.other r.s3.1 r.s3.2 (⟨(landG ((nodeG y t.g).code.length) (fixG ⟨11,0,0⟩ 1 0 (actsG x.body (fixG ⟨12,0,0⟩ 1 0 (nodeG y t.g))))),q91.1.1,q91.1.2⟩:GsA) w h3 hok.parts.2.2.1 (by show ((landG ((nodeG y t.g).code.length) (fixG ⟨11,0,0⟩ 1 0 (actsG x.body (fixG ⟨12,0,0⟩ 1 0 (nodeG y t.g)))))).code.length+8*wAcs x.other≤_; (try simp only [gsL9]); omega) (by show ((landG ((nodeG y t.g).code.length) (fixG ⟨11,0,0⟩ 1 0 (actsG x.body (fixG ⟨12,0,0⟩ 1 0 (nodeG y t.g)))))).fix.length+8*wAcs x.other≤_; (try simp only [gsL9]); omega) hw).mono fun e w' ⟨q,h1,h2⟩=>⟨q,h1,trivial,h2⟩) ?_
      intro q97 _
      refine Ln (Et (Cr (V0 (Ym rfl) (V0 (Ya rfl) (Ln (Et (Cr (V0 (Ym rfl) (Lf 6 rfl ?_)))))))))
      refine Lf 6 rfl (Lf 4 rfl (Lf 4 rfl (Lf 4 rfl ?_)))
      refine WL.callvw (ι:=Unit) [_,_,_,_,_] _ (.inl rfl) rfl en126 rfl rfl rfl (fun _=>.tuple #[]) (fun _=>(gown 61 56 54 sb K ⟨landG ((actsG x.body (fixG ⟨12,0,0⟩ 1 0 (nodeG y t.g))).code.length) (actsG x.other (landG ((nodeG y t.g).code.length) (fixG ⟨11,0,0⟩ 1 0 (actsG x.body (fixG ⟨12,0,0⟩ 1 0 (nodeG y t.g)))))),(⟨(actsG x.other (landG ((nodeG y t.g).code.length) (fixG ⟨11,0,0⟩ 1 0 (actsG x.body (fixG ⟨12,0,0⟩ 1 0 (nodeG y t.g)))))),q97.1,q97.2⟩:GsA).ca,(⟨(actsG x.other (landG ((nodeG y t.g).code.length) (fixG ⟨11,0,0⟩ 1 0 (actsG x.body (fixG ⟨12,0,0⟩ 1 0 (nodeG y t.g)))))),q97.1,q97.2⟩:GsA).fa⟩)++[blk q91.2.1 (.cells #[.pointer (some ⟨sb,0,none⟩)] 58 (0,0)),blk q91.2.2 (.cells #[.int .i64 ((actsG x.body (fixG ⟨12,0,0⟩ 1 0 (nodeG y t.g))).code.length:Int)] 3 (0,0))]) (fun _=>True) [] (by simp) (fun w hw=>(sland_any sb K (⟨(actsG x.other (landG ((nodeG y t.g).code.length) (fixG ⟨11,0,0⟩ 1 0 (actsG x.body (fixG ⟨12,0,0⟩ 1 0 (nodeG y t.g)))))),q97.1,q97.2⟩:GsA) q91.2.1 q91.2.2 ((actsG x.body (fixG ⟨12,0,0⟩ 1 0 (nodeG y t.g))).code.length) _ w (List.getElem?_eq_getElem (by show (actsG x.body (fixG ⟨12,0,0⟩ 1 0 (nodeG y t.g))).code.length<((actsG x.other (landG ((nodeG y t.g).code.length) (fixG ⟨11,0,0⟩ 1 0 (actsG x.body (fixG ⟨12,0,0⟩ 1 0 (nodeG y t.g))))))).code.length; (try simp only [gsL9]); omega)) hw).mono fun e w' h=>⟨(),h.1,trivial,h.2⟩) ?_
      intro _ _
      refine Ln (Eb ?_)
      refine WE.end0 rfl fun w' hw=>?_
      have hr:actG x t.g=landG ((actsG x.body (fixG ⟨12,0,0⟩ 1 0 (nodeG y t.g))).code.length) (actsG x.other (landG ((nodeG y t.g).code.length) (fixG ⟨11,0,0⟩ 1 0 (actsG x.body (fixG ⟨12,0,0⟩ 1 0 (nodeG y t.g)))))):=by
        rw [actG_eq,actGo,if_neg hn1,if_neg hn2,if_neg hn3,if_pos ho,kidG_at hyi]
        unfold ifG
        rw [if_pos hol]
      rw [hr]
      exact ⟨(q97.1,q97.2),rfl,Ws.keep (L:=[_,_,_]) hw⟩
     ·
      have hol:¬0<x.other.length:=by simpa using hc5
      refine Ck (Et (Cr (V0 (Ym rfl) (Lf 4 rfl (Lf 4 rfl (Lf 4 rfl (Lf 4 rfl ?_)))))))
      refine Lf 4 rfl ?_
      refine WL.callvw (ι:=Unit) [_,_,_,_,_] _ (.inl rfl) rfl en126 rfl rfl rfl (fun _=>.tuple #[]) (fun _=>(gown 61 56 54 sb K ⟨landG ((nodeG y t.g).code.length) (actsG x.body (fixG ⟨12,0,0⟩ 1 0 (nodeG y t.g))),(⟨(actsG x.body (fixG ⟨12,0,0⟩ 1 0 (nodeG y t.g))),q85.1,q85.2⟩:GsA).ca,(⟨(actsG x.body (fixG ⟨12,0,0⟩ 1 0 (nodeG y t.g))),q85.1,q85.2⟩:GsA).fa⟩)++[blk q81.2.1 (.cells #[.pointer (some ⟨sb,0,none⟩)] 58 (0,0)),blk q81.2.2 (.cells #[.int .i64 ((nodeG y t.g).code.length:Int)] 3 (0,0))]) (fun _=>True) [] (by simp) (fun w hw=>(sland_any sb K (⟨(actsG x.body (fixG ⟨12,0,0⟩ 1 0 (nodeG y t.g))),q85.1,q85.2⟩:GsA) q81.2.1 q81.2.2 ((nodeG y t.g).code.length) _ w (List.getElem?_eq_getElem (by show (nodeG y t.g).code.length<((actsG x.body (fixG ⟨12,0,0⟩ 1 0 (nodeG y t.g)))).code.length; (try simp only [gsL9]); omega)) hw).mono fun e w' h=>⟨(),h.1,trivial,h.2⟩) ?_
      intro _ _
      refine Ln (Eb ?_)
      refine WE.end0 rfl fun w' hw=>?_
      have hr:actG x t.g=landG ((nodeG y t.g).code.length) (actsG x.body (fixG ⟨12,0,0⟩ 1 0 (nodeG y t.g))):=by
        rw [actG_eq,actGo,if_neg hn1,if_neg hn2,if_neg hn3,if_pos ho,kidG_at hyi]
        unfold ifG
        rw [if_neg hol]
      rw [hr]
      exact ⟨(q85.1,q85.2),rfl,Ws.keep (L:=[_,_,_]) hw⟩
    ·
     have hn4:¬x.op=4:=by simpa using hc4
     refine Cs (Cr (V0 (yl_eq rfl rfl) (V0 (Ya rfl) (Ln (Et ?_)))))
     refine Cc rfl (fun hc6=>?_) (fun hc6=>?_)
     ·
      have ho:x.op=5:=by simpa using hc6
      refine Cs (Cr (V0 (Ym rfl) (V0 (yl_nil rfl) (V0 (Yf fo61_0 rfl) (V0 (Yf fo31_3 rfl) (V0 (Yd 1 rfl rfl rfl na27) ?_))))))
      refine V0 (Yn es27 rfl) (V0 (Ya rfl) (Ln (Et (Cs ?_))))
      have hl1:=hok.parts.2.2.2.1 (by omega)
      obtain ⟨y,hyi⟩:∃y,x.args[0]? = some y:=⟨_,List.getElem?_eq_getElem (by omega)⟩
      obtain ⟨pby,poy,hay,hry⟩:=h1.elt 0 y hyi
      obtain ⟨k2,rfl⟩:∃k2,ke=k2+1:=by
        cases ke with
        | zero=>exact hry.elim
        | succ k2=>exact ⟨k2,rfl⟩
      obtain ⟨ya,yc,hrowy,hsuby⟩:=hry
      have hN2:=hN k2
      have hoy:=hok.parts.1.at_ hyi
      have hw1:=wNd_one hyi
      have hgl:=nodeG_len y t.g
      have hh1:=hgl.hi
      have hh2:=hgl.fhi
      have hh3:=hgl.lo
      have hgb:=actsG_len x.body (putG [⟨16,0,0⟩] (fixG ⟨12,0,0⟩ 1 0 (nodeG y t.g)))
      have hb1:=hgb.hi
      have hb2:=hgb.fhi
      have hb3:=hgb.lo
      try simp only [gsL9] at hb1 hb2 hb3
      refine Cr (V0 (Ym rfl) (V0 (Yf fo104_4 rfl) (V0 (Yd 0 rfl rfl rfl na102) ?_)))
      refine V0 (Yo (i:=0) es102 rfl rfl hay (by omega)) ?_
      refine V0 (yl_lda 0 ag138 rfl rfl rfl (hrowy)) (Lf 3 rfl (Lf 3 rfl (Lf 3 rfl ?_)))
      refine Lw (ι:=SP×SP) [_,_,_] _ (.inl rfl) rfl en85 rfl rfl (fun _=>.tuple #[]) (fun q=>(gown 61 56 54 sb K ⟨nodeG y t.g,q.1,q.2⟩)) (fun _=>True) [H] (by simp) (fun w hw=>(hN2 y ya yc t w hsuby hoy (by show (t.g).code.length+8*wNd y≤_; (try simp only [gsL9]); omega) (by show (t.g).fix.length+8*wNd y≤_; (try simp only [gsL9]); omega) hw).mono fun e w' ⟨q,h1,h2⟩=>⟨q,h1,trivial,h2⟩) ?_
      intro q114 _
      refine Ln (Et (Cs (Cr (V0 (Ym rfl) (Lf 2 rfl (Lf 2 rfl (Lf 2 rfl ?_)))))))
      refine Lw (ι:=(SP×SP)×Nat×Nat) [_,_,_] _ (.inl rfl) rfl en89 rfl rfl (fun q=>.func (.func 126) #[] #[.pointer (some ⟨q.2.1,0,none⟩),.pointer (some ⟨q.2.2,0,none⟩)]) (fun q=>(gown 61 56 54 sb K ⟨fixG ⟨12,0,0⟩ 1 0 (nodeG y t.g),q.1.1,q.1.2⟩)++[blk q.2.1 (.cells #[.pointer (some ⟨sb,0,none⟩)] 58 (0,0)),blk q.2.2 (.cells #[.int .i64 ((nodeG y t.g).code.length:Int)] 3 (0,0))]) (fun _=>True) [] (by simp) (fun w hw=>(sjump_any sb K (⟨(nodeG y t.g),q114.1,q114.2⟩:GsA) 12 w (by show ((nodeG y t.g)).code.length+1≤_; (try simp only [gsL9]); omega) (by show ((nodeG y t.g)).fix.length+1≤_; (try simp only [gsL9]); omega) hw).mono fun e w' ⟨q,h1,h2⟩=>⟨q,h1,trivial,h2⟩) ?_
      intro q116 _
      refine V0 (Ya rfl) (Ln (Et (Cs (Cr (V0 (Ym rfl) (V0 (Yb zr56 pl56 rfl rfl) ?_))))))
      refine Lb (.inl rfl) rfl el27 rfl rfl rfl rfl fun b119=>?_
      refine WL.blksl (rd:=rdIG) (f:=InsG.cells) (k:=3) (m:=1) 0 [⟨16,0,0⟩] rfl rfl InsG.cells_len (fun _ _ _ _ h=>h) (by simp) (by decide) fun H119 hH119=>?_
      refine Lf 2 rfl (Lf 2 rfl (Lf 2 rfl ?_))
      refine Lw (ι:=SP) [_,_,_] _ (.inl rfl) rfl en43 rfl rfl (fun _=>.tuple #[]) (fun q=>(gown 61 56 54 sb K ⟨putG [⟨16,0,0⟩] (⟨(fixG ⟨12,0,0⟩ 1 0 (nodeG y t.g)),q116.1.1,q116.1.2⟩:GsA).g,q,(⟨(fixG ⟨12,0,0⟩ 1 0 (nodeG y t.g)),q116.1.1,q116.1.2⟩:GsA).fa⟩)) (fun _=>True) [H119] (by simp) (fun w hw=>(sput_any sb K (⟨(fixG ⟨12,0,0⟩ 1 0 (nodeG y t.g)),q116.1.1,q116.1.2⟩:GsA) H119 (some ⟨b119,0,none⟩) 1 [⟨16,0,0⟩] w hH119 (by show ((fixG ⟨12,0,0⟩ 1 0 (nodeG y t.g))).code.length+[⟨16,0,0⟩].length≤_; (try simp only [gsL9]); omega) hw).mono fun e w' ⟨q,h1,h2⟩=>⟨q,h1,trivial,h2⟩) ?_
      intro q120 _
      refine Ln (Et (Cs (Cr (V0 (Ym rfl) (V0 (Yf fo104_5 rfl) (V0 (Yd 5 rfl rfl rfl na24) (Lf 2 rfl (Lf 2 rfl ?_))))))))
      refine Lf 2 rfl ?_
      refine Lw (ι:=SP×SP) [_,_,_] _ (.inl rfl) rfl en44 rfl rfl (fun _=>.tuple #[]) (fun q=>(gown 61 56 54 sb K ⟨actsG x.body (putG [⟨16,0,0⟩] (fixG ⟨12,0,0⟩ 1 0 (nodeG y t.g))),q.1,q.2⟩)) (fun _=>True) [H] (by simp) (fun w hw=>(hA x.body r.s2.1 r.s2.2 (⟨(putG [⟨16,0,0⟩] (fixG ⟨12,0,0⟩ 1 0 (nodeG y t.g))),q120,q116.1.2⟩:GsA) w h2 (hok.parts.2.1 (by omega)) (by show ((putG [⟨16,0,0⟩] (fixG ⟨12,0,0⟩ 1 0 (nodeG y t.g)))).code.length+8*wAcs x.body≤_; (try simp only [gsL9]); omega) (by show ((putG [⟨16,0,0⟩] (fixG ⟨12,0,0⟩ 1 0 (nodeG y t.g)))).fix.length+8*wAcs x.body≤_; (try simp only [gsL9]); omega) hw).mono fun e w' ⟨q,h1,h2⟩=>⟨q,h1,trivial,h2⟩) ?_
      intro q124 _
      refine Ln (Et (Cs (Cr (V0 (Ym rfl) (V0 (Ym rfl) (V0 (Yb zr56 pl56 rfl rfl) (Lf 2 rfl (Lf 2 rfl ?_))))))))
      refine Lf 2 rfl ?_
      refine Lw (ι:=SP×SP) [_,_,_] _ (.inl rfl) rfl en86 rfl rfl (fun _=>.int .i64 ((actsG x.body (putG [⟨16,0,0⟩] (fixG ⟨12,0,0⟩ 1 0 (nodeG y t.g)))).code.length:Int)) (fun q=>(gown 61 56 54 sb K ⟨fixG ⟨11,(t.g.code.length:Int),0⟩ 1 0 (actsG x.body (putG [⟨16,0,0⟩] (fixG ⟨12,0,0⟩ 1 0 (nodeG y t.g)))),q.1,q.2⟩)) (fun _=>True) [] (by simp) (fun w hw=>(sfix_any sb K (⟨(actsG x.body (putG [⟨16,0,0⟩] (fixG ⟨12,0,0⟩ 1 0 (nodeG y t.g)))),q124.1,q124.2⟩:GsA)  ⟨11,(t.g.code.length:Int),0⟩ 1 0 w  (by show ((actsG x.body (putG [⟨16,0,0⟩] (fixG ⟨12,0,0⟩ 1 0 (nodeG y t.g))))).code.length+1≤_; (try simp only [gsL9]); omega) (by show ((actsG x.body (putG [⟨16,0,0⟩] (fixG ⟨12,0,0⟩ 1 0 (nodeG y t.g))))).fix.length+1≤_; (try simp only [gsL9]); omega) hw).mono fun e w' ⟨q,h1,h2⟩=>⟨q,h1,trivial,h2⟩) ?_
      intro q128 _
      refine Ln (Et (Cr (V0 (Ym rfl) (Lf 4 rfl (Lf 4 rfl (Lf 4 rfl (Lf 4 rfl ?_)))))))
      refine Lf 4 rfl ?_
      refine WL.callvw (ι:=Unit) [_,_,_,_,_] _ (.inl rfl) rfl en126 rfl rfl rfl (fun _=>.tuple #[]) (fun _=>(gown 61 56 54 sb K ⟨landG ((nodeG y t.g).code.length) (fixG ⟨11,(t.g.code.length:Int),0⟩ 1 0 (actsG x.body (putG [⟨16,0,0⟩] (fixG ⟨12,0,0⟩ 1 0 (nodeG y t.g))))),(⟨(fixG ⟨11,(t.g.code.length:Int),0⟩ 1 0 (actsG x.body (putG [⟨16,0,0⟩] (fixG ⟨12,0,0⟩ 1 0 (nodeG y t.g))))),q128.1,q128.2⟩:GsA).ca,(⟨(fixG ⟨11,(t.g.code.length:Int),0⟩ 1 0 (actsG x.body (putG [⟨16,0,0⟩] (fixG ⟨12,0,0⟩ 1 0 (nodeG y t.g))))),q128.1,q128.2⟩:GsA).fa⟩)++[blk q116.2.1 (.cells #[.pointer (some ⟨sb,0,none⟩)] 58 (0,0)),blk q116.2.2 (.cells #[.int .i64 ((nodeG y t.g).code.length:Int)] 3 (0,0))]) (fun _=>True) [] (by simp) (fun w hw=>(sland_any sb K (⟨(fixG ⟨11,(t.g.code.length:Int),0⟩ 1 0 (actsG x.body (putG [⟨16,0,0⟩] (fixG ⟨12,0,0⟩ 1 0 (nodeG y t.g))))),q128.1,q128.2⟩:GsA) q116.2.1 q116.2.2 ((nodeG y t.g).code.length) _ w (List.getElem?_eq_getElem (by show (nodeG y t.g).code.length<((fixG ⟨11,(t.g.code.length:Int),0⟩ 1 0 (actsG x.body (putG [⟨16,0,0⟩] (fixG ⟨12,0,0⟩ 1 0 (nodeG y t.g)))))).code.length; (try simp only [gsL9]); omega)) hw).mono fun e w' h=>⟨(),h.1,trivial,h.2⟩) ?_
      intro _ _
      refine Ln (Eb ?_)
      refine WE.end0 rfl fun w' hw=>?_
      have hr:actG x t.g=landG ((nodeG y t.g).code.length) (fixG ⟨11,(t.g.code.length:Int),0⟩ 1 0 (actsG x.body (putG [⟨16,0,0⟩] (fixG ⟨12,0,0⟩ 1 0 (nodeG y t.g))))):=by
        rw [actG_eq,actGo,if_neg hn1,if_neg hn2,if_neg hn3,if_neg hn4,if_pos ho,kidG_at hyi]
        rfl
      rw [hr]
      exact ⟨(q128.1,q128.2),rfl,Ws.drops (Ws.keep (L:=[_,_,_]) hw) (fun _ hm=>List.mem_append_right [_] hm)⟩
     ·
      have hn5:¬x.op=5:=by simpa using hc6
      refine Cs (Cr (V0 (yl_eq rfl rfl) (V0 (Ya rfl) (Ln (Et ?_)))))
      refine Cc rfl (fun hc7=>?_) (fun hc7=>?_)
      ·
       have ho:x.op=6:=by simpa using hc7
       refine Cs ?_
       have hl1:=hok.parts.2.2.2.1 (by omega)
       obtain ⟨y,hyi⟩:∃y,x.args[0]? = some y:=⟨_,List.getElem?_eq_getElem (by omega)⟩
       obtain ⟨pby,poy,hay,hry⟩:=h1.elt 0 y hyi
       obtain ⟨k2,rfl⟩:∃k2,ke=k2+1:=by
         cases ke with
         | zero=>exact hry.elim
         | succ k2=>exact ⟨k2,rfl⟩
       obtain ⟨ya,yc,hrowy,hsuby⟩:=hry
       have hN2:=hN k2
       have hoy:=hok.parts.1.at_ hyi
       have hw1:=wNd_one hyi
       have hgl:=nodeG_len y t.g
       have hh1:=hgl.hi
       have hh2:=hgl.fhi
       have hh3:=hgl.lo
       refine Cr (V0 (Ym rfl) (V0 (Yf fo104_4 rfl) (V0 (Yd 0 rfl rfl rfl na102) ?_)))
       refine V0 (Yo (i:=0) es102 rfl rfl hay (by omega)) ?_
       refine V0 (yl_lda 0 ag138 rfl rfl rfl (hrowy)) (Lf 3 rfl (Lf 3 rfl (Lf 3 rfl ?_)))
       refine Lw (ι:=SP×SP) [_,_,_] _ (.inl rfl) rfl en85 rfl rfl (fun _=>.tuple #[]) (fun q=>(gown 61 56 54 sb K ⟨nodeG y t.g,q.1,q.2⟩)) (fun _=>True) [H] (by simp) (fun w hw=>(hN2 y ya yc t w hsuby hoy (by show (t.g).code.length+8*wNd y≤_; (try simp only [gsL9]); omega) (by show (t.g).fix.length+8*wNd y≤_; (try simp only [gsL9]); omega) hw).mono fun e w' ⟨q,h1,h2⟩=>⟨q,h1,trivial,h2⟩) ?_
       intro q138 _
       refine Ln (Et (Cr (V0 (Ym rfl) (V0 (Yb zr56 pl56 rfl rfl) ?_))))
       refine Lb (.inl rfl) rfl el27 rfl rfl rfl rfl fun b141=>?_
       refine WL.blksl (rd:=rdIG) (f:=InsG.cells) (k:=3) (m:=1) 0 [⟨15,0,0⟩] rfl rfl InsG.cells_len (fun _ _ _ _ h=>h) (by simp) (by decide) fun H141 hH141=>?_
       refine Lf 2 rfl (Lf 2 rfl (Lf 2 rfl ?_))
       refine Lw (ι:=SP) [_,_,_] _ (.inl rfl) rfl en43 rfl rfl (fun _=>.tuple #[]) (fun q=>(gown 61 56 54 sb K ⟨putG [⟨15,0,0⟩] (⟨(nodeG y t.g),q138.1,q138.2⟩:GsA).g,q,(⟨(nodeG y t.g),q138.1,q138.2⟩:GsA).fa⟩)) (fun _=>True) [H141] (by simp) (fun w hw=>(sput_any sb K (⟨(nodeG y t.g),q138.1,q138.2⟩:GsA) H141 (some ⟨b141,0,none⟩) 1 [⟨15,0,0⟩] w hH141 (by show ((nodeG y t.g)).code.length+[⟨15,0,0⟩].length≤_; (try simp only [gsL9]); omega) hw).mono fun e w' ⟨q,h1,h2⟩=>⟨q,h1,trivial,h2⟩) ?_
       intro q142 _
       refine Ln (Eb ?_)
       refine WE.end0 rfl fun w' hw=>?_
       have hr:actG x t.g=putG [⟨15,0,0⟩] (nodeG y t.g):=by
         rw [actG_eq,actGo,if_neg hn1,if_neg hn2,if_neg hn3,if_neg hn4,if_neg hn5,if_pos ho,kidG_at hyi]
       rw [hr]
       exact ⟨(q142,q138.2),rfl,Ws.drops (Ws.keep (L:=[_,_,_]) hw) (fun _ hm=>List.mem_append_right [_] hm)⟩
      ·
       have hn6:¬x.op=6:=by simpa using hc7
       refine Cs (Cr (V0 (yl_eq rfl rfl) (V0 (Ya rfl) (Ln (Et ?_)))))
       refine Cc rfl (fun hc8=>?_) (fun hc8=>?_)
       ·
        have ho:x.op=7:=by simpa using hc8
        refine Cs ?_
        have hl1:=hok.parts.2.2.2.1 (by omega)
        obtain ⟨y,hyi⟩:∃y,x.args[0]? = some y:=⟨_,List.getElem?_eq_getElem (by omega)⟩
        obtain ⟨pby,poy,hay,hry⟩:=h1.elt 0 y hyi
        obtain ⟨k2,rfl⟩:∃k2,ke=k2+1:=by
          cases ke with
          | zero=>exact hry.elim
          | succ k2=>exact ⟨k2,rfl⟩
        obtain ⟨ya,yc,hrowy,hsuby⟩:=hry
        have hN2:=hN k2
        have hoy:=hok.parts.1.at_ hyi
        have hw1:=wNd_one hyi
        have hgl:=nodeG_len y t.g
        have hh1:=hgl.hi
        have hh2:=hgl.fhi
        have hh3:=hgl.lo
        refine Cr (V0 (Ym rfl) (V0 (Yf fo104_4 rfl) (V0 (Yd 0 rfl rfl rfl na102) ?_)))
        refine V0 (Yo (i:=0) es102 rfl rfl hay (by omega)) ?_
        refine V0 (yl_lda 0 ag138 rfl rfl rfl (hrowy)) (Lf 3 rfl (Lf 3 rfl (Lf 3 rfl ?_)))
        refine Lw (ι:=SP×SP) [_,_,_] _ (.inl rfl) rfl en85 rfl rfl (fun _=>.tuple #[]) (fun q=>(gown 61 56 54 sb K ⟨nodeG y t.g,q.1,q.2⟩)) (fun _=>True) [H] (by simp) (fun w hw=>(hN2 y ya yc t w hsuby hoy (by show (t.g).code.length+8*wNd y≤_; (try simp only [gsL9]); omega) (by show (t.g).fix.length+8*wNd y≤_; (try simp only [gsL9]); omega) hw).mono fun e w' ⟨q,h1,h2⟩=>⟨q,h1,trivial,h2⟩) ?_
        intro q150 _
        refine Ln (Et (Cr (V0 (Ym rfl) (V0 (Yb zr56 pl56 rfl rfl) ?_))))
        refine Lb (.inl rfl) rfl el27 rfl rfl rfl rfl fun b153=>?_
        refine WL.blksl (rd:=rdIG) (f:=InsG.cells) (k:=3) (m:=1) 0 [⟨19,0,0⟩] rfl rfl InsG.cells_len (fun _ _ _ _ h=>h) (by simp) (by decide) fun H153 hH153=>?_
        refine Lf 2 rfl (Lf 2 rfl (Lf 2 rfl ?_))
        refine Lw (ι:=SP) [_,_,_] _ (.inl rfl) rfl en43 rfl rfl (fun _=>.tuple #[]) (fun q=>(gown 61 56 54 sb K ⟨putG [⟨19,0,0⟩] (⟨(nodeG y t.g),q150.1,q150.2⟩:GsA).g,q,(⟨(nodeG y t.g),q150.1,q150.2⟩:GsA).fa⟩)) (fun _=>True) [H153] (by simp) (fun w hw=>(sput_any sb K (⟨(nodeG y t.g),q150.1,q150.2⟩:GsA) H153 (some ⟨b153,0,none⟩) 1 [⟨19,0,0⟩] w hH153 (by show ((nodeG y t.g)).code.length+[⟨19,0,0⟩].length≤_; (try simp only [gsL9]); omega) hw).mono fun e w' ⟨q,h1,h2⟩=>⟨q,h1,trivial,h2⟩) ?_
        intro q154 _
        refine Ln (Eb ?_)
        refine WE.end0 rfl fun w' hw=>?_
        have hr:actG x t.g=putG [⟨19,0,0⟩] (nodeG y t.g):=by
          rw [actG_eq,actGo,if_neg hn1,if_neg hn2,if_neg hn3,if_neg hn4,if_neg hn5,if_neg hn6,if_pos ho,kidG_at hyi]
        rw [hr]
        exact ⟨(q154,q150.2),rfl,Ws.drops (Ws.keep (L:=[_,_,_]) hw) (fun _ hm=>List.mem_append_right [_] hm)⟩
       ·
        exfalso
        have hn7:¬x.op=7:=by simpa using hc8
        have hop:=hok.parts.2.2.2.2.2
        omega
theorem sacts_any (sb:Nat) (K:ObjK) (t:GsA) (H:View) (ke k:Nat) (l:List TAct) (a:Option Addr) (c:Nat) (w:World) (hl:Sl (RdA ke k) 7 H a c l) (hok:ActsOk l) (hb:t.g.code.length+8*wAcs l≤1000000000000) (hfb:t.g.fix.length+8*wAcs l≤1000000000000) (hw:Ws w (List.flatMap Asr.ids (gown 61 56 54 sb K t)) (gown 61 56 54 sb K t) [H] w) :
   Calls Tryz.prog 44 #[.pointer (some ⟨sb,0,none⟩),.slice a l.length c] w fun e w'=>∃q:SP×SP,e = .returned (.tuple #[])∧Ws w (List.flatMap Asr.ids (gown 61 56 54 sb K t)) (gown 61 56 54 sb K ⟨actsG l t.g,q.1,q.2⟩) [H] w':=by
 induction k using Nat.strongRecOn generalizing l a c t w
 rename_i k ih
 have hcap:=hl.cap
 have hmax:=hl.max
 refine enter Tryz.func44 rfl 16 rfl rfl ?_
 refine CWd (W':=Ws w (List.flatMap Asr.ids (gown 61 56 54 sb K t)) (gown 61 56 54 sb K t) [H]) (fun _ e=>by subst e; exact hw) ?_
 refine Cs (Cr (V0 (Ym rfl) (V0 (Yn es24 rfl) (V0 (Ym rfl) (Ln (Et (Cb ?_)))))))
 refine CK (ι:=Nat×SP×SP) (fun g=>[(8,.int .i64 (g.1:Int))]) [(0,_),(6,_),(7,_)] (fun g=>Ws w (List.flatMap Asr.ids (gown 61 56 54 sb K t)) (gown 61 56 54 sb K ⟨actsG (l.take g.1) t.g,g.2.1,g.2.2⟩) [H]) (fun g=>g.1≤l.length) (fun g=>l.length-g.1) (0,t.ca,t.fa) (Nat.zero_le _) (sc rfl (sc rfl (sc rfl (sc rfl sn)))) (fun _ h=>h) ?_
 intro g hgi
 refine Cs (Cr (V0 (yl_lt rfl rfl) (Ln (Et (Cs ?_)))))
 refine Cc rfl (fun hc0=>?_) (fun hc0=>?_)
 ·
  have hlt:g.1<l.length:=by simpa using hc0
  obtain ⟨x,hxi⟩:∃q,l[g.1]? = some q:=⟨_,List.getElem?_eq_getElem hlt⟩
  obtain ⟨pbx,pox,hax,hrx⟩:=hl.elt g.1 x hxi
  obtain ⟨k2,rfl⟩:∃k2,k=k2+1:=by
    cases k with
    | zero=>exact hrx.elim
    | succ k2=>exact ⟨k2,rfl⟩
  obtain ⟨r,hrow,h1,h2,h3⟩:=hrx
  have hww:=wAc_mem hxi
  have hgl:=actsG_len (l.take g.1) t.g
  have hh1:=hgl.hi
  have hh2:=hgl.fhi
  have hA:GActs H sb K ke k2:=fun l a c t w h1 h2 h3 h4 h5=>ih k2 (by omega) t l a c w h1 h2 h3 h4 h5
  refine Ck (Et (Cs (Cb (Cs (Cr (V0 (Yo es24 rfl rfl hax hlt) (V0 (yl_lda 0 ag104 rfl rfl rfl (hrow)) ?_)))))))
  refine WL.alloc (.inl rfl) rfl zr104 fun b5=>?_
  refine Lst 0 (.inl rfl) rfl rfl rfl sz104 rfl rfl rfl (Ln (Et ?_))
  refine Crb 0 (.cells (actV x r).toArray 104 (0,0)) rfl rfl ?_
  refine Cr (V0 (Ym rfl) (V0 (Yda 0 rfl rfl ag104 rfl) (Lf 3 rfl (Lf 3 rfl (Lf 3 rfl ?_)))))
  refine Lw (ι:=SP×SP) [_,_,_] _ (.inl rfl) rfl en61 rfl rfl (fun _=>.tuple #[]) (fun q=>(gown 61 56 54 sb K ⟨actG x (actsG (l.take g.1) t.g),q.1,q.2⟩)) (fun _=>True) [H] (by simp) (fun w hw=>(sact_any sb K (⟨actsG (l.take g.1) t.g,g.2.1,g.2.2⟩:GsA) H ke k2 x r w hA h1 h2 h3 (hok.at_ hxi) (by show (actsG (l.take g.1) t.g).code.length+8*wAc x≤_; omega) (by show (actsG (l.take g.1) t.g).fix.length+8*wAc x≤_; omega) hw).mono fun e w' ⟨q,h1,h2⟩=>⟨q,h1,trivial,h2⟩) ?_
  intro q14 _
  refine Ln (Eb (Et (Cr ?_)))
  refine V0 (Yi rfl rfl rfl (by omega)) ?_
  refine V0 (Ym rfl) (Ln ?_)
  rw [←actsG_take hxi]
  exact Ea ((g.1+1,q14):Nat×SP×SP) (by show _-(g.1+1)<_; omega) (by show g.1+1≤_; omega) (sc rfl (sc rfl (sc rfl (sc rfl sn)))) (fun _ h=>by have h:=h.fronti 2 rfl; have h:=h.fronti 2 rfl; have h:=h.fronti 2 rfl; have h:=Ws.keep (L:=[_,_,_]) h; exact h)
 ·
  have hge:g.1=l.length:=by simp at hc0; omega
  rw [hge,List.take_length]
  refine Ce (Ex (Ex (Ebh ?_)))
  refine WE.end0 rfl fun w' hw=>?_
  exact ⟨g.2,rfl,hw⟩
theorem spart_any (sb:Nat) (K:ObjK) (t:GsA) (H:View) (ke k:Nat) (params locals:Int) (l:List TAct) (a:Option Addr) (c:Nat) (w:World) (hl:Sl (RdA ke k) 7 H a c l) (hok:ActsOk l) (hb:t.g.code.length+8*(1+wAcs l)≤1000000000000) (hfb:t.g.fix.length+8*(1+wAcs l)≤1000000000000) (hw:Ws w (List.flatMap Asr.ids (gown 61 56 54 sb K t)) (gown 61 56 54 sb K t) [H] w) :
   Calls Tryz.prog 25 #[.pointer (some ⟨sb,0,none⟩),.agg (partV ⟨params,locals,l⟩ (a,c)).toArray] w fun e w'=>∃q:SP×SP,e = .returned (.int .i64 (t.g.code.length:Int))∧Ws w (List.flatMap Asr.ids (gown 61 56 54 sb K t)) (gown 61 56 54 sb K ⟨partG params locals l t.g,q.1,q.2⟩) [H] w':=by
 have hgl:=actsG_len l (putG [⟨14,params,locals⟩] t.g)
 have hh1:=hgl.hi
 have hh2:=hgl.fhi
 simp only [gsL9] at hh1 hh2
 refine enter Tryz.func25 rfl 30 rfl rfl ?_
 refine CWd (W':=Ws w (List.flatMap Asr.ids (gown 61 56 54 sb K t)) (gown 61 56 54 sb K t) [H]) (fun _ e=>by subst e; exact hw) ?_
 refine Cs (Cr ?_)
 refine WL.box (.inl rfl) rfl rfl fun b3=>?_
 refine V0 (Ya rfl) (Ln (Et (Cs (Cr (V0 (Ym rfl) (V0 (yl_nil rfl) (V0 (Yf fo61_0 rfl) (V0 (Yf fo31_3 rfl) ?_))))))))
 refine V0 (Yd 1 rfl rfl rfl na27) (V0 (Yn es27 rfl) (V0 (Ya rfl) (Ln (Et (Cs (Cr (V0 (Ym rfl) (V0 (Yf fo63_0 rfl) ?_))))))))
 refine V0 (Yd 0 rfl rfl rfl na3) (V0 (Yf fo63_1 rfl) (V0 (Yd 0 rfl rfl rfl na3) (V0 (Yb zr56 pl56 rfl rfl) ?_)))
 refine Lb (.inl rfl) rfl el27 rfl rfl rfl rfl fun b18=>?_
 refine WL.blksl (rd:=rdIG) (f:=InsG.cells) (k:=3) (m:=1) 0 [⟨14,params,locals⟩] rfl rfl InsG.cells_len (fun _ _ _ _ h=>h) (by simp) (by decide) fun H18 hH18=>?_
 refine Lf 3 rfl (Lf 3 rfl (Lf 3 rfl ?_))
 refine Lw (ι:=SP) [_,_,_] _ (.inl rfl) rfl en43 rfl rfl (fun _=>.tuple #[]) (fun q=>(gown 61 56 54 sb K ⟨putG [⟨14,params,locals⟩] t.g,q,t.fa⟩)) (fun _=>True) [H18] (by simp) (fun w hw=>(sput_any sb K t H18 (some ⟨b18,0,none⟩) 1 [⟨14,params,locals⟩] w hH18 (by show (t.g).code.length+[⟨14,params,locals⟩].length≤_; (try simp only [gsL9]); omega) hw).mono fun e w' ⟨q,h1,h2⟩=>⟨q,h1,trivial,h2⟩) ?_
 intro q19 _
 refine Ln (Et (Cs (Cr (V0 (Ym rfl) (V0 (Yf fo63_2 rfl) (V0 (Yd 3 rfl rfl rfl na24) (Lf 2 rfl (Lf 2 rfl ?_))))))))
 refine Lf 2 rfl ?_
 refine Lw (ι:=SP×SP) [_,_,_] _ (.inl rfl) rfl en44 rfl rfl (fun _=>.tuple #[]) (fun q=>(gown 61 56 54 sb K ⟨actsG l (putG [⟨14,params,locals⟩] t.g),q.1,q.2⟩)) (fun _=>True) [H] (by simp) (fun w hw=>((fun l a c t w h1 h2 h3 h4 h5=>sacts_any sb K t H ke k l a c w h1 h2 h3 h4 h5) l a c (⟨(putG [⟨14,params,locals⟩] t.g),q19,t.fa⟩:GsA) w hl hok (by show ((putG [⟨14,params,locals⟩] t.g)).code.length+8*wAcs l≤_; (try simp only [gsL9]); omega) (by show ((putG [⟨14,params,locals⟩] t.g)).fix.length+8*wAcs l≤_; (try simp only [gsL9]); omega) hw).mono fun e w' ⟨q,h1,h2⟩=>⟨q,h1,trivial,h2⟩) ?_
 intro q23 _
 refine Ln (Et (Cs (Cr (V0 (Ym rfl) (V0 (Yb zr56 pl56 rfl rfl) (V0 (Yb zr56 pl56 rfl rfl) ?_))))))
 refine Lb (.inl rfl) rfl el27 rfl rfl rfl rfl fun b27=>?_
 refine WL.blksl (rd:=rdIG) (f:=InsG.cells) (k:=3) (m:=2) 0 [⟨1,0,0⟩,⟨15,0,0⟩] rfl rfl InsG.cells_len (fun _ _ _ _ h=>h) (by simp) (by decide) fun H27 hH27=>?_
 refine Lf 2 rfl (Lf 2 rfl (Lf 2 rfl ?_))
 refine Lw (ι:=SP) [_,_,_] _ (.inl rfl) rfl en43 rfl rfl (fun _=>.tuple #[]) (fun q=>(gown 61 56 54 sb K ⟨putG [⟨1,0,0⟩,⟨15,0,0⟩] (⟨(actsG l (putG [⟨14,params,locals⟩] t.g)),q23.1,q23.2⟩:GsA).g,q,(⟨(actsG l (putG [⟨14,params,locals⟩] t.g)),q23.1,q23.2⟩:GsA).fa⟩)) (fun _=>True) [H27] (by simp) (fun w hw=>(sput_any sb K (⟨(actsG l (putG [⟨14,params,locals⟩] t.g)),q23.1,q23.2⟩:GsA) H27 (some ⟨b27,0,none⟩) 2 [⟨1,0,0⟩,⟨15,0,0⟩] w hH27 (by show ((actsG l (putG [⟨14,params,locals⟩] t.g))).code.length+[⟨1,0,0⟩,⟨15,0,0⟩].length≤_; (try simp only [gsL9]); omega) hw).mono fun e w' ⟨q,h1,h2⟩=>⟨q,h1,trivial,h2⟩) ?_
 intro q28 _
 refine Ln (Et (Cs (Cr (V0 (Ym rfl) (V0 (Ya rfl) (Ln (Et (Crt ?_))))))))
 refine WE.ret1 rfl rfl fun w' hw=>?_
 exact ⟨(q28,q23.2),rfl,Ws.drops (Ws.keep (L:=[_,_,_]) hw) (fun _ hm=>List.mem_append_right [_,_] hm)⟩
end Go.Proofs.YtpjekjnehiinnaaGreatDoor
end
section
namespace Go.Proofs.YtpjekjnehiinnaaGreatDoor
open Go.Bw
set_option linter.unusedVariables false
set_option linter.unusedSimpArgs false
def noXK:XK:=(noKn,(none,0))
theorem noKn_rows {H:View} {b n:Nat} (h:Sl rdXK 3 H (some ⟨b,0,none⟩) n (List.replicate n noXK)) {N:View} (hv:VLe H N):Sl rdKn 3 N (some ⟨b,0,none⟩) n (List.replicate n noKn):=by
 have h9:=slK_of h hv fun e he=>by
   have e1:e=noXK:=List.eq_of_mem_replicate he
   subst e1; exact Sl.nil
 rw [List.map_replicate] at h9
 exact h9
theorem valone_any (H:View) (ke k:Nat) (u:TUnit) (r:UAt) (w:World) (hH:Le H w) (hu:RdU ke k H r u) (hul:u.uses.length≤1048576) :
   Calls Tryz.prog 23 #[.agg (unitV u r).toArray] w fun e w'=>e = .returned (.bool (aloneB u))∧Ext w w':=by
 have hcap:=hu.uses.cap
 have hmax:=hu.uses.max
 refine enter Tryz.func23 rfl 9 rfl rfl ?_
 refine CWd (W':=Ws w [] [] [H]) (fun _ e=>by subst e; exact Ws.init (by simp [hH])) ?_
 refine Cs (Cr ?_)
 refine WL.box (.inl rfl) rfl rfl fun b1=>?_
 refine V0 (Ya rfl) (Ln (Et (Cs ?_)))
 refine CU (fun _=>true) [] [] (.q true 0 (.q false 1 (.q true 2 (.q false 3 (.e 4 (.e 5 (.q false 6 .nil) .stop) .stop))))) mixed (by kernel_rfl) (fun _ _ _ d _ _ h=>by cases d<;>exact h) ?_
 refine Uq rfl (.inl rfl) rfl (fun _ h=>h) (Yda 0 rfl rfl ag26 rfl) ?_
 refine Uq rfl (.inl rfl) rfl (fun _ h=>h) (Yf fo26_1 rfl) ?_
 refine Uq rfl (.inl rfl) rfl (fun _ h=>h) (Yd 0 rfl rfl rfl na22) ?_
 refine Uq rfl (.inl rfl) rfl (fun _ h=>h) (Yn es22 rfl) ?_
 refine Ue rfl (fun _ h=>h) ?_ WU.stop
 refine WL.make (.inl rfl) rfl el75 rfl rfl (by omega) (by omega) (by omega) (by omega) fun b7=>?_
 refine Lrb 0 (.cells ((List.replicate u.uses.length noXK).flatMap XK.cells).toArray 77 (0,0)) rfl (by rw [←madeCells_flat (f:=XK.cells) (x:=noXK) (zs:=(Value.agg #[.bool false,.int .i64 0,.slice none 0 0]).cells) rfl (by decide)]; rfl) ?_
 refine WL.blksl (rd:=rdXK) (f:=XK.cells) (k:=3) (m:=u.uses.length) 0 (List.replicate u.uses.length noXK) rfl rfl XK.cells_len (fun _ _ _ _ h=>h) (by simp) (by omega) fun H7 hH7=>?_
 refine Ln (Eu ?_)
 refine Ue rfl (fun _ h=>by have h:=Ws.drops h (fun _ hm=>List.mem_append_right [_] hm); exact h) ?_ WU.stop
 refine Lp (.inl rfl) rfl en33 rfl (fun w hw=>by
   have hcc:=vfine_any H (hv w) ke k u r (List.replicate u.uses.length noKn) (some ⟨b7,0,none⟩) u.uses.length w (hw.vs H (by simp)) (hv_le w) hu (noKn_rows hH7 (hv_of (hw.vs H7 (by simp)))) (by simp; omega)
   rw [List.length_replicate] at hcc
   exact hcc) ?_
 refine Ln (Eu ?_)
 refine Uq rfl (.inl rfl) rfl (fun _ h=>by have h:=Ws.drops h (fun _ hm=>List.mem_append_right [_] hm); exact h) (Ya rfl) ?_
 refine WU.nil (fun _ h=>by have h:=Ws.drops h (fun _ hm=>List.mem_append_right [_] hm); exact h) ?_
 refine WS.nil ?_
 refine Et (Crt ?_)
 refine WE.ret1 rfl rfl fun w' hw=>?_
 exact ⟨rfl,hw.fr⟩
end Go.Proofs.YtpjekjnehiinnaaGreatDoor
end
section
namespace Go.Proofs.YtpjekjnehiinnaaGreatDoor
open Go.Bw
set_option linter.unusedVariables false
set_option linter.unusedSimpArgs false
theorem zr31:zeroOf Tryz.prog 31=some (.agg #[st [],.slice none 0 0,.int .i64 0,.slice none 0 0,.slice none 0 0,.slice none 0 0,.int .i64 0]):=by kernel_rfl
theorem en23:Enters Tryz.prog 23:=enters_of Tryz.func23 (by kernel_rfl) rfl
theorem pl31:placesP Tryz.prog 31=some [(0,1),(1,1),(2,1),(3,1),(4,1),(5,1),(6,1)]:=by kernel_rfl
theorem sz31:sizeP Tryz.prog 31=some 7:=by kernel_rfl
theorem ag31:aggOf Tryz.prog 31=some 7:=by kernel_rfl
theorem pl61:placesP Tryz.prog 61=some [(0,7)]:=by kernel_rfl
theorem zr61:zeroOf Tryz.prog 61=some (.agg #[st [],.slice none 0 0,.int .i64 0,.slice none 0 0,.slice none 0 0,.slice none 0 0,.int .i64 0]):=by kernel_rfl
theorem fo31_5:fieldOff Tryz.prog 31 5=some 5:=by kernel_rfl
theorem en25:Enters Tryz.prog 25:=enters_of Tryz.func25 (by kernel_rfl) rfl
theorem fo31_6:fieldOff Tryz.prog 31 6=some 6:=by kernel_rfl
theorem gen_any (H:View) (ke k:Nat) (u:TUnit) (r:UAt) (w:World) (hH:Le H w) (hu:RdU ke k H r u) (hub:wUn u≤1048576) :
   Calls Tryz.prog 9 #[.agg (unitV u r).toArray] w fun e w'=>∃q:OAt,e = .returned (.tuple #[.agg (objV (genM u).1 q).toArray,.int .i64 (genM u).2])∧Ext w w'∧RdOb (nv w w') q (genM u).1:=by
 have hcap:=hu.uses.cap
 have hmax:=hu.uses.max
 have hpcap:=hu.parts.cap
 have hpmax:=hu.parts.max
 have hwu:=wUn_eq u
 have hwn:=wN_len u.uses
 have hwp:=wPts_len u.parts
 refine enter Tryz.func9 rfl 64 rfl rfl ?_
 refine CWd (W':=Ws w [] [] [H]) (fun _ e=>by subst e; exact Ws.init (by simp [hH])) ?_
 refine Cs (Cr ?_)
 refine WL.box (.inl rfl) rfl rfl fun b1=>?_
 refine WL.alloc (.inl rfl) rfl zr31 fun b2=>?_
 refine V0 (Ya rfl) (Ln (Et (Cs (Cs (Cr (V0 (Yda 1 rfl rfl ag26 rfl) ?_))))))
 refine Lp (.inl rfl) rfl en23 rfl (fun w hw=>valone_any H ke k u r w (hw.vs H (by simp)) hu (by omega)) ?_
 refine V0 (yl_not rfl) (Ln (Et ?_))
 refine Cc rfl (fun hc0=>?_) (fun hc0=>?_)
 ·
  have hx:aloneB u=false:=by simpa using hc0
  refine Cs (Cr (V0 (Yb zr31 pl31 rfl rfl) (Lst 0 (.inl rfl) rfl rfl rfl sz31 rfl rfl rfl (V0 (Ya rfl) (Ln (Et (Crt (Er ?_))))))))
  refine WE.retc2 0 rfl rfl rfl rfl ag31 rfl fun w' hw=>?_
  rw [show genM u=(noObj,1) from by rw [genM,if_pos hx]]
  exact ⟨noOAt,rfl,hw.fr,noObj_rd _⟩
 ·
  have hx:aloneB u=true:=by simpa using hc0
  obtain ⟨hop,hom⟩:=alone_parts hx
  refine Ck (Et (Cs ?_))
  refine CU (fun _=>true) [] [] (.q false 0 (.q true 1 (.q false 2 (.q true 3 (.q false 5 (.q true 6 (.e 4 (.q false 7 (.q false 8 (.e 9 (.q false 10 .nil) .stop))) .stop))))))) mixed (by kernel_rfl) (fun _ _ _ d _ _ h=>by cases d<;>exact h) ?_
  refine Uq rfl (.inl rfl) rfl (fun _ h=>h) (Yf fo26_0 rfl) ?_
  refine Uq rfl (.inl rfl) rfl (fun _ h=>h) (Yd 1 rfl rfl rfl na9) ?_
  refine Uq rfl (.inl rfl) rfl (fun _ h=>h) (Yf fo26_1 rfl) ?_
  refine Uq rfl (.inl rfl) rfl (fun _ h=>h) (Yd 1 rfl rfl rfl na22) ?_
  refine Uq rfl (.inl rfl) rfl (fun _ h=>h) (Yf fo26_2 rfl) ?_
  refine Uq rfl (.inl rfl) rfl (fun _ h=>h) (Yd 1 rfl rfl rfl na3) ?_
  refine Ue rfl (fun _ h=>h) ?_ WU.stop
  refine Ld (.inl rfl) rfl en24 rfl (fun r:SP=>.slice r.1 u.uses.length r.2) (fun F r=>Sl rdStr 1 F r.1 r.2 u.uses) (fun w hw=>cloneS_any H r.s1.1 r.s1.2 u.uses w (hw.vs H (by simp)) hu.uses (by omega)) ?_
  intro F15 r15 hf15 h15
  refine Ln (Eu ?_)
  refine Uq rfl (.inl rfl) rfl (fun _ h=>by have h:=Ws.drops h (fun _ hm=>List.mem_append_right [_] hm); exact h) (Yb zr31 pl31 rfl rfl) ?_
  refine Uq rfl (.inl rfl) rfl (fun _ h=>by have h:=Ws.drops h (fun _ hm=>List.mem_append_right [_] hm); exact h) (Yb zr61 pl61 rfl rfl) ?_
  refine Ue rfl (fun _ h=>by have h:=Ws.drops h (fun _ hm=>List.mem_append_right [_] hm); exact h) ?_ WU.stop
  refine WL.box (.inl rfl) rfl rfl fun b20=>?_
  obtain ⟨sb,hsb⟩:∃s,s=b20:=⟨_,rfl⟩
  subst hsb
  refine Lrb 0 (gob 61 (⟨u.nm,.slice r15.1 u.uses.length r15.2,u.data,.slice none 0 0,.int .i64 0⟩:ObjK) ⟨⟨[],[]⟩,(none,0),(none,0)⟩) rfl rfl ?_
  refine LW (fun _ h=>h.osl_nil 3 1) ?_
  refine LW (fun _ h=>h.osl_nil 54 3) ?_
  refine LW (fun _ h=>h.osl_nil 56 3) ?_
  refine Ln (Eu ?_)
  refine Uq rfl (.inl rfl) rfl (fun _ h=>by have h:=Ws.drop (L:=[_,_,_,_]) (L':=_) h; have h:=Ws.drops h (fun _ hm=>List.mem_append_right [_] hm); exact h) (Ya rfl) ?_
  refine WU.nil (fun _ h=>by have h:=Ws.drop (L:=[_,_,_,_]) (L':=_) h; have h:=Ws.drops h (fun _ hm=>List.mem_append_right [_] hm); exact h) ?_
  refine WS.nil ?_
  refine Et (Cs (Cs (Cr (V0 (Yf fo26_3 rfl) (V0 (Yd 5 rfl rfl rfl na23) (V0 (Yn es23 rfl) (V0 (Ym rfl) (Ln (Et (Cb ?_))))))))))
  refine CK (ι:=Nat×(SP×SP)×SP) (fun g=>[(24,.int .i64 (g.1:Int))]) [(1,_),(2,_),(3,_),(4,_),(22,_),(23,_)] (fun g=>Ws w [] ((gown 61 56 54 sb (⟨u.nm,.slice r15.1 u.uses.length r15.2,u.data,.slice g.2.2.1 (partsG (u.parts.take g.1) ⟨[],[]⟩).1.length g.2.2.2,.int .i64 0⟩:ObjK) ⟨(partsG (u.parts.take g.1) ⟨[],[]⟩).2,g.2.1.1,g.2.1.2⟩)++[osT 3 1 ntC g.2.2.1 g.2.2.2 (partsG (u.parts.take g.1) ⟨[],[]⟩).1,blk b2 (.cells (Value.cells (.agg #[st [],.slice none 0 0,.int .i64 0,.slice none 0 0,.slice none 0 0,.slice none 0 0,.int .i64 0])) 31 (0,0)),blk b1 (.cells (unitV u r).toArray 26 (0,0))]) [F15,H]) (fun g=>g.1≤u.parts.length) (fun g=>u.parts.length-g.1) (0,(((none,0),(none,0)),(none,0))) (Nat.zero_le _) (sc rfl (sc rfl (sc rfl (sc rfl (sc rfl (sc rfl (sc rfl sn))))))) (fun _ h=>by have h:=h.fronti 5 rfl; have h:=h.fronti 5 rfl; have h:=h.fronti 4 rfl; have h:=h.fronti 4 rfl; have h:=h.fronti 4 rfl; have h:=h.fronti 5 rfl; exact h) ?_
  intro g hgi
  refine Cs (Cr (V0 (yl_lt rfl rfl) (Ln (Et (Cs ?_)))))
  refine Cc rfl (fun hc1=>?_) (fun hc1=>?_)
  ·
   have hlt:g.1<u.parts.length:=by simpa using hc1
   obtain ⟨x,hxi⟩:∃q,u.parts[g.1]? = some q:=⟨_,List.getElem?_eq_getElem hlt⟩
   obtain ⟨pbx,pox,hax,hrx⟩:=hu.parts.elt g.1 x hxi
   obtain ⟨xr,hrow,hsub⟩:=hrx
   have hww:=wPts_mem hxi
   have hpl:=partsG_len (u.parts.take g.1) ⟨[],[]⟩
   have hh1:(partsG (u.parts.take g.1) ⟨[],[]⟩).2.code.length≤8*wPts (u.parts.take g.1):=by have h9:=hpl.1.hi; simpa using h9
   have hh2:(partsG (u.parts.take g.1) ⟨[],[]⟩).2.fix.length≤8*wPts (u.parts.take g.1):=by have h9:=hpl.1.fhi; simpa using h9
   have hel:(partsG (u.parts.take g.1) ⟨[],[]⟩).1.length=g.1:=by rw [hpl.2,List.length_take]; omega
   have hwx:wPt x=1+wAcs x.body:=rfl
   have hok:=hop x (List.mem_of_getElem? hxi)
   have hT:=partsG_take hxi ⟨[],[]⟩
   have hT1:(partsG (u.parts.take (g.1+1)) ⟨[],[]⟩).1=(partsG (u.parts.take g.1) ⟨[],[]⟩).1++[(partsG (u.parts.take g.1) ⟨[],[]⟩).2.code.length]:=by rw [hT]
   have hT2:(partsG (u.parts.take (g.1+1)) ⟨[],[]⟩).2=(partG x.params x.locals x.body (partsG (u.parts.take g.1) ⟨[],[]⟩).2):=by rw [hT]
   refine Ck (Et (Cs (Cb (Cs (Cr (V0 (Yo es23 rfl rfl hax hlt) (V0 (yl_lda 1 ag63 rfl rfl rfl (hrow)) ?_)))))))
   refine WL.alloc (.inl rfl) rfl zr63 fun b6=>?_
   refine Lst 0 (.inl rfl) rfl rfl rfl sz63 rfl rfl rfl (Ln (Et ?_))
   refine Crb 0 (.cells (partV x xr).toArray 63 (0,0)) rfl rfl ?_
   refine CU (fun _=>true) [1,1,1,1] [14] (.q false 0 (.q false 1 (.q false 2 (.q false 3 (.q false 4 (.q false 6 (.q true 7 (.e 5 (.e 8 (.e 9 (.e 10 (.q false 11 (.q false 12 (.q false 13 .nil))) .stop) .stop) .stop) (.e 8 (.e 5 (.e 9 (.e 10 (.q false 11 (.q false 12 (.q false 13 .nil))) .stop) .stop) (.e 9 (.e 5 (.e 10 (.q false 11 (.q false 12 (.q false 13 .nil))) .stop) .stop) .stop)) .stop))))))))) mixed (by kernel_rfl) (fun _ _ _ d _ _ h=>by cases d<;>exact h) ?_
   refine Uq rfl (.inl rfl) rfl (fun _ h=>by have h:=Ws.out 1 h; have h:=Ws.out 1 h; have h:=Ws.out 1 h; have h:=Ws.out 1 h; exact h) (Ym rfl) ?_
   refine Uq rfl (.inl rfl) rfl (fun _ h=>by have h:=Ws.out 1 h; have h:=Ws.out 1 h; have h:=Ws.out 1 h; have h:=Ws.out 1 h; exact h) (Ym rfl) ?_
   refine Uq rfl (.inl rfl) rfl (fun _ h=>by have h:=Ws.out 1 h; have h:=Ws.out 1 h; have h:=Ws.out 1 h; have h:=Ws.out 1 h; exact h) (yl_nil rfl) ?_
   refine Uq rfl (.inl rfl) rfl (fun _ h=>by have h:=Ws.out 1 h; have h:=Ws.out 1 h; have h:=Ws.out 1 h; have h:=Ws.out 1 h; exact h) (Yf fo61_0 rfl) ?_
   refine Uq rfl (.inl rfl) rfl (fun _ h=>by have h:=Ws.out 1 h; have h:=Ws.out 1 h; have h:=Ws.out 1 h; have h:=Ws.out 1 h; exact h) (Yf fo31_5 rfl) ?_
   refine Uq rfl (.inl rfl) rfl (fun _ h=>by have h:=Ws.out 1 h; have h:=Ws.out 1 h; have h:=Ws.out 1 h; have h:=Ws.out 1 h; exact h) (Ym rfl) ?_
   refine Uq rfl (.inl rfl) rfl (fun _ h=>by have h:=Ws.out 1 h; have h:=Ws.out 1 h; have h:=Ws.out 1 h; have h:=Ws.out 1 h; exact h) (Yda 0 rfl rfl ag63 rfl) ?_
   refine Ue rfl (fun _ h=>by have h:=Ws.out 1 h; have h:=Ws.out 1 h; have h:=Ws.out 1 h; have h:=Ws.out 1 h; exact h) ?_ ?_
   ·
    refine V0 (Yd 1 rfl rfl rfl na29) (Ln (Eu ?_))
    refine Ue rfl (fun _ h=>by have h:=Ws.out 1 h; have h:=Ws.out 1 h; have h:=Ws.out 1 h; have h:=Ws.out 1 h; exact h) ?_ WU.stop
    refine Lf 3 rfl (Lf 3 rfl (Lf 3 rfl ?_))
    refine Lw (ι:=SP×SP) [_,_,_] _ (.inl rfl) rfl en25 rfl rfl (fun _=>.int .i64 (((partsG (u.parts.take g.1) ⟨[],[]⟩).2).code.length:Int)) (fun q=>(gown 61 56 54 sb (⟨u.nm,.slice r15.1 u.uses.length r15.2,u.data,.slice g.2.2.1 (partsG (u.parts.take g.1) ⟨[],[]⟩).1.length g.2.2.2,.int .i64 0⟩:ObjK) ⟨(partG x.params x.locals x.body (partsG (u.parts.take g.1) ⟨[],[]⟩).2),q.1,q.2⟩)) (fun _=>True) [H] (by simp) (fun w hw=>(spart_any sb (⟨u.nm,.slice r15.1 u.uses.length r15.2,u.data,.slice g.2.2.1 (partsG (u.parts.take g.1) ⟨[],[]⟩).1.length g.2.2.2,.int .i64 0⟩:ObjK) (⟨(partsG (u.parts.take g.1) ⟨[],[]⟩).2,g.2.1.1,g.2.1.2⟩:GsA) H ke k x.params x.locals x.body xr.1 xr.2 w hsub hok (by show ((partsG (u.parts.take g.1) ⟨[],[]⟩).2).code.length+8*(1+wAcs x.body)≤_; omega) (by show ((partsG (u.parts.take g.1) ⟨[],[]⟩).2).fix.length+8*(1+wAcs x.body)≤_; omega) hw).mono fun e w' ⟨q,h1,h2⟩=>⟨q,h1,trivial,h2⟩) ?_
    intro q36 _
    refine Ln (Eu ?_)
    refine Ue rfl (fun _ h=>by have h:=h.fronti 6 rfl; have h:=h.fronti 6 rfl; have h:=h.fronti 6 rfl; have h:=h.fronti 5 rfl; have h:=h.fronti 5 rfl; have h:=h.fronti 5 rfl; have h:=h.fronti 6 rfl; have h:=Ws.out 1 h; have h:=Ws.out 1 h; have h:=Ws.out 1 h; have h:=Ws.out 1 h; exact h) ?_ WU.stop
    refine Lb (.inl rfl) rfl el29 rfl rfl rfl rfl fun b37=>?_
    refine Lrb 0 (.cells (ntC (partsG (u.parts.take g.1) ⟨[],[]⟩).2.code.length).toArray 3 (0,0)) rfl (rfl) ?_
    refine Ln (Eu ?_)
    refine Ue rfl (fun _ h=>by have h:=h.fronti 7 rfl; have h:=h.fronti 7 rfl; have h:=h.fronti 7 rfl; have h:=h.fronti 6 rfl; have h:=h.fronti 6 rfl; have h:=h.fronti 6 rfl; have h:=h.fronti 7 rfl; have h:=Ws.keep (L:=[_,_,_,_,_,_,_]) h; have h:=Ws.out 1 h; have h:=Ws.out 1 h; have h:=Ws.out 1 h; have h:=Ws.out 1 h; exact h) ?_ WU.stop
    refine LA ((partsG (u.parts.take g.1) ⟨[],[]⟩).2.code.length) 5 0 (.inl rfl) rfl el29 rfl rfl rfl rfl rfl rfl (by omega) (by omega) fun a38 c38=>?_
    refine Ln (Eu ?_)
    refine Uq rfl (.inl rfl) rfl (fun _ h=>by have h:=h.fronti 7 rfl; have h:=h.fronti 7 rfl; have h:=h.fronti 7 rfl; have h:=h.fronti 6 rfl; have h:=h.fronti 6 rfl; have h:=h.fronti 6 rfl; have h:=h.fronti 7 rfl; have h:=Ws.keep (L:=[_,_,_,_,_,_,_]) h; have h:=Ws.out 1 h; have h:=Ws.out 1 h; have h:=Ws.out 1 h; have h:=Ws.out 1 h; exact h) (yl_nil rfl) ?_
    refine Uq rfl (.inl rfl) rfl (fun _ h=>by have h:=h.fronti 7 rfl; have h:=h.fronti 7 rfl; have h:=h.fronti 7 rfl; have h:=h.fronti 6 rfl; have h:=h.fronti 6 rfl; have h:=h.fronti 6 rfl; have h:=h.fronti 7 rfl; have h:=Ws.keep (L:=[_,_,_,_,_,_,_]) h; have h:=Ws.out 1 h; have h:=Ws.out 1 h; have h:=Ws.out 1 h; have h:=Ws.out 1 h; exact h) (Yf fo61_0 rfl) ?_
    refine Uq rfl (.inl rfl) rfl (fun _ h=>by have h:=h.fronti 7 rfl; have h:=h.fronti 7 rfl; have h:=h.fronti 7 rfl; have h:=h.fronti 6 rfl; have h:=h.fronti 6 rfl; have h:=h.fronti 6 rfl; have h:=h.fronti 7 rfl; have h:=Ws.keep (L:=[_,_,_,_,_,_,_]) h; have h:=Ws.out 1 h; have h:=Ws.out 1 h; have h:=Ws.out 1 h; have h:=Ws.out 1 h; exact h) (Yf fo31_5 rfl) ?_
    refine WU.nil (fun _ h=>by have h:=h.fronti 7 rfl; have h:=h.fronti 7 rfl; have h:=h.fronti 7 rfl; have h:=h.fronti 6 rfl; have h:=h.fronti 6 rfl; have h:=h.fronti 6 rfl; have h:=h.fronti 7 rfl; have h:=Ws.keep (L:=[_,_,_,_,_,_,_]) h; have h:=Ws.out 1 h; have h:=Ws.out 1 h; have h:=Ws.out 1 h; have h:=Ws.out 1 h; exact h) ?_
    refine WS.e rfl ?_
    refine Lst 1 (.inl rfl) rfl rfl rfl sz29 rfl rfl rfl (Ln (Es ?_))
    refine WS.nil ?_
    refine Eb (Et (Cr ?_))
    refine V0 (Yi rfl rfl rfl (by omega)) ?_
    refine V0 (Ym rfl) (Ln ?_)
    rw [←hT1,←hT2]
    refine WE.reblk 1 (gob 61 (⟨u.nm,.slice r15.1 u.uses.length r15.2,u.data,.slice a38 (partsG (u.parts.take (g.1+1)) ⟨[],[]⟩).1.length c38,.int .i64 0⟩:ObjK) ⟨(partsG (u.parts.take (g.1+1)) ⟨[],[]⟩).2,q36.1,q36.2⟩) rfl rfl ?_
    exact Ea ((g.1+1,(q36,(a38,c38))):Nat×(SP×SP)×SP) (by show _-(g.1+1)<_; omega) (by show g.1+1≤_; omega) (sc rfl (sc rfl (sc rfl (sc rfl (sc rfl (sc rfl (sc rfl sn))))))) (fun _ h=>by have h:=h.fronti 7 rfl; have h:=h.fronti 7 rfl; have h:=h.fronti 7 rfl; have h:=h.fronti 6 rfl; have h:=h.fronti 6 rfl; have h:=h.fronti 6 rfl; have h:=Ws.keep (L:=[_,_,_,_,_,_]) h; exact h)
   refine Ue rfl (fun _ h=>by have h:=Ws.out 1 h; have h:=Ws.out 1 h; have h:=Ws.out 1 h; have h:=Ws.out 1 h; exact h) ?_ WU.stop
   refine Lf 3 rfl (Lf 3 rfl (Lf 3 rfl ?_))
   refine Lw (ι:=SP×SP) [_,_,_] _ (.inl rfl) rfl en25 rfl rfl (fun _=>.int .i64 (((partsG (u.parts.take g.1) ⟨[],[]⟩).2).code.length:Int)) (fun q=>(gown 61 56 54 sb (⟨u.nm,.slice r15.1 u.uses.length r15.2,u.data,.slice g.2.2.1 (partsG (u.parts.take g.1) ⟨[],[]⟩).1.length g.2.2.2,.int .i64 0⟩:ObjK) ⟨(partG x.params x.locals x.body (partsG (u.parts.take g.1) ⟨[],[]⟩).2),q.1,q.2⟩)) (fun _=>True) [H] (by simp) (fun w hw=>(spart_any sb (⟨u.nm,.slice r15.1 u.uses.length r15.2,u.data,.slice g.2.2.1 (partsG (u.parts.take g.1) ⟨[],[]⟩).1.length g.2.2.2,.int .i64 0⟩:ObjK) (⟨(partsG (u.parts.take g.1) ⟨[],[]⟩).2,g.2.1.1,g.2.1.2⟩:GsA) H ke k x.params x.locals x.body xr.1 xr.2 w hsub hok (by show ((partsG (u.parts.take g.1) ⟨[],[]⟩).2).code.length+8*(1+wAcs x.body)≤_; omega) (by show ((partsG (u.parts.take g.1) ⟨[],[]⟩).2).fix.length+8*(1+wAcs x.body)≤_; omega) hw).mono fun e w' ⟨q,h1,h2⟩=>⟨q,h1,trivial,h2⟩) ?_
   intro q36 _
   refine Ln (Eu ?_)
   refine Ue rfl (fun _ h=>by have h:=h.fronti 6 rfl; have h:=h.fronti 6 rfl; have h:=h.fronti 6 rfl; have h:=h.fronti 5 rfl; have h:=h.fronti 5 rfl; have h:=h.fronti 5 rfl; have h:=h.fronti 6 rfl; have h:=Ws.out 1 h; have h:=Ws.out 1 h; have h:=Ws.out 1 h; have h:=Ws.out 1 h; exact h) ?_ ?_
   ·
    refine V0 (Yd 0 rfl rfl rfl na29) (Ln (Eu ?_))
    refine Ue rfl (fun _ h=>by have h:=h.fronti 6 rfl; have h:=h.fronti 6 rfl; have h:=h.fronti 6 rfl; have h:=h.fronti 5 rfl; have h:=h.fronti 5 rfl; have h:=h.fronti 5 rfl; have h:=h.fronti 6 rfl; have h:=Ws.out 1 h; have h:=Ws.out 1 h; have h:=Ws.out 1 h; have h:=Ws.out 1 h; exact h) ?_ WU.stop
    refine Lb (.inl rfl) rfl el29 rfl rfl rfl rfl fun b37=>?_
    refine Lrb 0 (.cells (ntC (partsG (u.parts.take g.1) ⟨[],[]⟩).2.code.length).toArray 3 (0,0)) rfl (rfl) ?_
    refine Ln (Eu ?_)
    refine Ue rfl (fun _ h=>by have h:=h.fronti 7 rfl; have h:=h.fronti 7 rfl; have h:=h.fronti 7 rfl; have h:=h.fronti 6 rfl; have h:=h.fronti 6 rfl; have h:=h.fronti 6 rfl; have h:=h.fronti 7 rfl; have h:=Ws.keep (L:=[_,_,_,_,_,_,_]) h; have h:=Ws.out 1 h; have h:=Ws.out 1 h; have h:=Ws.out 1 h; have h:=Ws.out 1 h; exact h) ?_ WU.stop
    refine LA ((partsG (u.parts.take g.1) ⟨[],[]⟩).2.code.length) 5 0 (.inl rfl) rfl el29 rfl rfl rfl rfl rfl rfl (by omega) (by omega) fun a38 c38=>?_
    refine Ln (Eu ?_)
    refine Uq rfl (.inl rfl) rfl (fun _ h=>by have h:=h.fronti 7 rfl; have h:=h.fronti 7 rfl; have h:=h.fronti 7 rfl; have h:=h.fronti 6 rfl; have h:=h.fronti 6 rfl; have h:=h.fronti 6 rfl; have h:=h.fronti 7 rfl; have h:=Ws.keep (L:=[_,_,_,_,_,_,_]) h; have h:=Ws.out 1 h; have h:=Ws.out 1 h; have h:=Ws.out 1 h; have h:=Ws.out 1 h; exact h) (yl_nil rfl) ?_
    refine Uq rfl (.inl rfl) rfl (fun _ h=>by have h:=h.fronti 7 rfl; have h:=h.fronti 7 rfl; have h:=h.fronti 7 rfl; have h:=h.fronti 6 rfl; have h:=h.fronti 6 rfl; have h:=h.fronti 6 rfl; have h:=h.fronti 7 rfl; have h:=Ws.keep (L:=[_,_,_,_,_,_,_]) h; have h:=Ws.out 1 h; have h:=Ws.out 1 h; have h:=Ws.out 1 h; have h:=Ws.out 1 h; exact h) (Yf fo61_0 rfl) ?_
    refine Uq rfl (.inl rfl) rfl (fun _ h=>by have h:=h.fronti 7 rfl; have h:=h.fronti 7 rfl; have h:=h.fronti 7 rfl; have h:=h.fronti 6 rfl; have h:=h.fronti 6 rfl; have h:=h.fronti 6 rfl; have h:=h.fronti 7 rfl; have h:=Ws.keep (L:=[_,_,_,_,_,_,_]) h; have h:=Ws.out 1 h; have h:=Ws.out 1 h; have h:=Ws.out 1 h; have h:=Ws.out 1 h; exact h) (Yf fo31_5 rfl) ?_
    refine WU.nil (fun _ h=>by have h:=h.fronti 7 rfl; have h:=h.fronti 7 rfl; have h:=h.fronti 7 rfl; have h:=h.fronti 6 rfl; have h:=h.fronti 6 rfl; have h:=h.fronti 6 rfl; have h:=h.fronti 7 rfl; have h:=Ws.keep (L:=[_,_,_,_,_,_,_]) h; have h:=Ws.out 1 h; have h:=Ws.out 1 h; have h:=Ws.out 1 h; have h:=Ws.out 1 h; exact h) ?_
    refine WS.e rfl ?_
    refine Lst 1 (.inl rfl) rfl rfl rfl sz29 rfl rfl rfl (Ln (Es ?_))
    refine WS.nil ?_
    refine Eb (Et (Cr ?_))
    refine V0 (Yi rfl rfl rfl (by omega)) ?_
    refine V0 (Ym rfl) (Ln ?_)
    rw [←hT1,←hT2]
    refine WE.reblk 1 (gob 61 (⟨u.nm,.slice r15.1 u.uses.length r15.2,u.data,.slice a38 (partsG (u.parts.take (g.1+1)) ⟨[],[]⟩).1.length c38,.int .i64 0⟩:ObjK) ⟨(partsG (u.parts.take (g.1+1)) ⟨[],[]⟩).2,q36.1,q36.2⟩) rfl rfl ?_
    exact Ea ((g.1+1,(q36,(a38,c38))):Nat×(SP×SP)×SP) (by show _-(g.1+1)<_; omega) (by show g.1+1≤_; omega) (sc rfl (sc rfl (sc rfl (sc rfl (sc rfl (sc rfl (sc rfl sn))))))) (fun _ h=>by have h:=h.fronti 7 rfl; have h:=h.fronti 7 rfl; have h:=h.fronti 7 rfl; have h:=h.fronti 6 rfl; have h:=h.fronti 6 rfl; have h:=h.fronti 6 rfl; have h:=Ws.keep (L:=[_,_,_,_,_,_]) h; exact h)
   refine Ue rfl (fun _ h=>by have h:=h.fronti 6 rfl; have h:=h.fronti 6 rfl; have h:=h.fronti 6 rfl; have h:=h.fronti 5 rfl; have h:=h.fronti 5 rfl; have h:=h.fronti 5 rfl; have h:=h.fronti 6 rfl; have h:=Ws.out 1 h; have h:=Ws.out 1 h; have h:=Ws.out 1 h; have h:=Ws.out 1 h; exact h) ?_ WU.stop
   refine Lb (.inl rfl) rfl el29 rfl rfl rfl rfl fun b37=>?_
   refine Lrb 0 (.cells (ntC (partsG (u.parts.take g.1) ⟨[],[]⟩).2.code.length).toArray 3 (0,0)) rfl (rfl) ?_
   refine Ln (Eu ?_)
   refine Ue rfl (fun _ h=>by have h:=h.fronti 7 rfl; have h:=h.fronti 7 rfl; have h:=h.fronti 7 rfl; have h:=h.fronti 6 rfl; have h:=h.fronti 6 rfl; have h:=h.fronti 6 rfl; have h:=h.fronti 7 rfl; have h:=Ws.keep (L:=[_,_,_,_,_,_,_]) h; have h:=Ws.out 1 h; have h:=Ws.out 1 h; have h:=Ws.out 1 h; have h:=Ws.out 1 h; exact h) ?_ WU.stop
   refine V0 (Yd 1 rfl rfl rfl na29) (Ln (Eu ?_))
   refine Ue rfl (fun _ h=>by have h:=h.fronti 7 rfl; have h:=h.fronti 7 rfl; have h:=h.fronti 7 rfl; have h:=h.fronti 6 rfl; have h:=h.fronti 6 rfl; have h:=h.fronti 6 rfl; have h:=h.fronti 7 rfl; have h:=Ws.keep (L:=[_,_,_,_,_,_,_]) h; have h:=Ws.out 1 h; have h:=Ws.out 1 h; have h:=Ws.out 1 h; have h:=Ws.out 1 h; exact h) ?_ WU.stop
   refine LA ((partsG (u.parts.take g.1) ⟨[],[]⟩).2.code.length) 5 0 (.inl rfl) rfl el29 rfl rfl rfl rfl rfl rfl (by omega) (by omega) fun a38 c38=>?_
   refine Ln (Eu ?_)
   refine Uq rfl (.inl rfl) rfl (fun _ h=>by have h:=h.fronti 7 rfl; have h:=h.fronti 7 rfl; have h:=h.fronti 7 rfl; have h:=h.fronti 6 rfl; have h:=h.fronti 6 rfl; have h:=h.fronti 6 rfl; have h:=h.fronti 7 rfl; have h:=Ws.keep (L:=[_,_,_,_,_,_,_]) h; have h:=Ws.out 1 h; have h:=Ws.out 1 h; have h:=Ws.out 1 h; have h:=Ws.out 1 h; exact h) (yl_nil rfl) ?_
   refine Uq rfl (.inl rfl) rfl (fun _ h=>by have h:=h.fronti 7 rfl; have h:=h.fronti 7 rfl; have h:=h.fronti 7 rfl; have h:=h.fronti 6 rfl; have h:=h.fronti 6 rfl; have h:=h.fronti 6 rfl; have h:=h.fronti 7 rfl; have h:=Ws.keep (L:=[_,_,_,_,_,_,_]) h; have h:=Ws.out 1 h; have h:=Ws.out 1 h; have h:=Ws.out 1 h; have h:=Ws.out 1 h; exact h) (Yf fo61_0 rfl) ?_
   refine Uq rfl (.inl rfl) rfl (fun _ h=>by have h:=h.fronti 7 rfl; have h:=h.fronti 7 rfl; have h:=h.fronti 7 rfl; have h:=h.fronti 6 rfl; have h:=h.fronti 6 rfl; have h:=h.fronti 6 rfl; have h:=h.fronti 7 rfl; have h:=Ws.keep (L:=[_,_,_,_,_,_,_]) h; have h:=Ws.out 1 h; have h:=Ws.out 1 h; have h:=Ws.out 1 h; have h:=Ws.out 1 h; exact h) (Yf fo31_5 rfl) ?_
   refine WU.nil (fun _ h=>by have h:=h.fronti 7 rfl; have h:=h.fronti 7 rfl; have h:=h.fronti 7 rfl; have h:=h.fronti 6 rfl; have h:=h.fronti 6 rfl; have h:=h.fronti 6 rfl; have h:=h.fronti 7 rfl; have h:=Ws.keep (L:=[_,_,_,_,_,_,_]) h; have h:=Ws.out 1 h; have h:=Ws.out 1 h; have h:=Ws.out 1 h; have h:=Ws.out 1 h; exact h) ?_
   refine WS.e rfl ?_
   refine Lst 1 (.inl rfl) rfl rfl rfl sz29 rfl rfl rfl (Ln (Es ?_))
   refine WS.nil ?_
   refine Eb (Et (Cr ?_))
   refine V0 (Yi rfl rfl rfl (by omega)) ?_
   refine V0 (Ym rfl) (Ln ?_)
   rw [←hT1,←hT2]
   refine WE.reblk 1 (gob 61 (⟨u.nm,.slice r15.1 u.uses.length r15.2,u.data,.slice a38 (partsG (u.parts.take (g.1+1)) ⟨[],[]⟩).1.length c38,.int .i64 0⟩:ObjK) ⟨(partsG (u.parts.take (g.1+1)) ⟨[],[]⟩).2,q36.1,q36.2⟩) rfl rfl ?_
   exact Ea ((g.1+1,(q36,(a38,c38))):Nat×(SP×SP)×SP) (by show _-(g.1+1)<_; omega) (by show g.1+1≤_; omega) (sc rfl (sc rfl (sc rfl (sc rfl (sc rfl (sc rfl (sc rfl sn))))))) (fun _ h=>by have h:=h.fronti 7 rfl; have h:=h.fronti 7 rfl; have h:=h.fronti 7 rfl; have h:=h.fronti 6 rfl; have h:=h.fronti 6 rfl; have h:=h.fronti 6 rfl; have h:=Ws.keep (L:=[_,_,_,_,_,_]) h; exact h)
  ·
   have hge:g.1=u.parts.length:=by simp at hc1; omega
   rw [hge,List.take_length]
   have hpl:=partsG_len u.parts ⟨[],[]⟩
   have hh1:(partsG u.parts ⟨[],[]⟩).2.code.length≤8*wPts u.parts:=by have h9:=hpl.1.hi; simpa using h9
   have hh2:(partsG u.parts ⟨[],[]⟩).2.fix.length≤8*wPts u.parts:=by have h9:=hpl.1.fhi; simpa using h9
   refine Ce (Ex (Ex (Ebh (Et (Cs (Cr (V0 (Ym rfl) (V0 (Ym rfl) (V0 (Yf fo26_4 rfl) (V0 (Yd 5 rfl rfl rfl na24) ?_))))))))))
   refine V0 (Yb zr63 pl63 rfl rfl) (Lf 2 rfl (Lf 2 rfl (Lf 2 rfl ?_)))
   refine Lw (ι:=SP×SP) [_,_,_] _ (.inl rfl) rfl en25 rfl rfl (fun _=>.int .i64 (((partsG u.parts ⟨[],[]⟩).2).code.length:Int)) (fun q=>(gown 61 56 54 sb (⟨u.nm,.slice r15.1 u.uses.length r15.2,u.data,.slice g.2.2.1 (partsG u.parts ⟨[],[]⟩).1.length g.2.2.2,.int .i64 0⟩:ObjK) ⟨(partG 0 0 u.main (partsG u.parts ⟨[],[]⟩).2),q.1,q.2⟩)) (fun _=>True) [H] (by simp) (fun w hw=>(spart_any sb (⟨u.nm,.slice r15.1 u.uses.length r15.2,u.data,.slice g.2.2.1 (partsG u.parts ⟨[],[]⟩).1.length g.2.2.2,.int .i64 0⟩:ObjK) (⟨(partsG u.parts ⟨[],[]⟩).2,g.2.1.1,g.2.1.2⟩:GsA) H ke k 0 0 u.main r.s3.1 r.s3.2 w hu.main hom (by show ((partsG u.parts ⟨[],[]⟩).2).code.length+8*(1+wAcs u.main)≤_; omega) (by show ((partsG u.parts ⟨[],[]⟩).2).fix.length+8*(1+wAcs u.main)≤_; omega) hw).mono fun e w' ⟨q,h1,h2⟩=>⟨q,h1,trivial,h2⟩) ?_
   intro q48 _
   refine V0 (yl_nil rfl) (V0 (Yf fo61_0 rfl) (V0 (Yf fo31_6 rfl) (Lst 0 (.inl rfl) rfl rfl rfl sz3 rfl rfl rfl (Ln (Et (Cs (Cs ?_)))))))
   refine Crb 0 (gob 61 (⟨u.nm,.slice r15.1 u.uses.length r15.2,u.data,.slice g.2.2.1 (partsG u.parts ⟨[],[]⟩).1.length g.2.2.2,.int .i64 ((partsG u.parts ⟨[],[]⟩).2.code.length:Int)⟩:ObjK) ⟨(partG 0 0 u.main (partsG u.parts ⟨[],[]⟩).2),q48.1,q48.2⟩) rfl rfl ?_
   refine Cr (V0 (Ym rfl) (V0 (yl_nil rfl) (V0 (Yf fo61_0 rfl) (V0 (Yf fo31_3 rfl) (V0 (Yd 0 rfl rfl rfl na27) ?_)))))
   refine V0 (Yn es27 rfl) (V0 (yl_gt rfl rfl) (Ln (Et ?_)))
   refine Cc rfl (fun hc2=>?_) (fun hc2=>?_)
   ·
    have hlen:2048<(unitG u).g.code.length:=by
      have h9:=hc2
      simp at h9
      show 2048<((partG 0 0 u.main (partsG u.parts ⟨[],[]⟩).2)).code.length
      omega
    refine Cs (Cr (V0 (Yb zr31 pl31 rfl rfl) (Lst 4 (.inl rfl) rfl rfl rfl sz31 rfl rfl rfl (V0 (Ya rfl) (Ln (Et (Crt (Er ?_))))))))
    refine WE.retc2 4 rfl rfl rfl rfl ag31 rfl fun w' hw=>?_
    rw [show genM u=(noObj,2) from by rw [genM,if_neg (by rw [hx]; decide),if_pos hlen]]
    exact ⟨noOAt,rfl,hw.fr,noObj_rd _⟩
   ·
    have hlen:¬2048<(unitG u).g.code.length:=by
      have h9:=hc2
      simp at h9
      show ¬2048<((partG 0 0 u.main (partsG u.parts ⟨[],[]⟩).2)).code.length
      omega
    refine Ck (Et (Cs (Cr (V0 (Ym rfl) (V0 (yl_nil rfl) (V0 (Yf fo61_0 rfl) (V0 (Yda 0 rfl rfl ag31 rfl) (Lst 4 (.inl rfl) rfl rfl rfl sz31 rfl rfl rfl ?_))))))))
    refine V0 (Ya rfl) (Ln (Et (Crt ?_)))
    refine WE.retc2 4 rfl rfl rfl rfl ag31 rfl fun w' hw=>?_
    rw [show genM u=(unitG u,0) from by rw [genM,if_neg (by rw [hx]; decide),if_neg hlen]]
    exact ⟨⟨r15,q48.1,q48.2,g.2.2⟩,rfl,hw.fr,h15.imp (fun _ _ _ h=>RdC.mono (nv_vs hw (by simp) hf15) h),hw.slT 1 rfl InsG.cells_len (fun _ _ _ _ h=>h),hw.slT 2 rfl FixE.cells_len (fun _ _ _ _ h=>h),hw.slT 3 rfl ntC_len (fun _ _ _ _ h=>h)⟩
end Go.Proofs.YtpjekjnehiinnaaGreatDoor
end
section
namespace Go.Proofs.YtpjekjnehiinnaaGreatDoor
open Go.Bw
set_option linter.unusedVariables false
set_option linter.unusedSimpArgs false
theorem fo68_0:fieldOff Tryz.prog 68 0=some 0:=by kernel_rfl
theorem en27:Enters Tryz.prog 27:=enters_of Tryz.func27 (by kernel_rfl) rfl
theorem pput_any (sb:Nat) (K:ObjK) (t:GsA)  (op a b:Int) (w:World)  (hb:t.g.code.length+1≤1000000000000) (hfb:t.g.fix.length+1≤1000000000000) (hw:Ws w (List.flatMap Asr.ids (gown 68 56 54 sb K t)) (gown 68 56 54 sb K t) [] w) :
   Calls Tryz.prog 27 #[.pointer (some ⟨sb,0,none⟩),.int .i64 op,.int .i64 a,.int .i64 b] w fun e w'=>∃q:SP×SP,e = .returned (.int .i64 (t.g.code.length:Int))∧Ws w (List.flatMap Asr.ids (gown 68 56 54 sb K t)) (gown 68 56 54 sb K ⟨putG [⟨op,a,b⟩] t.g,q.1,q.2⟩) [] w':=by
 refine enter Tryz.func27 rfl 31 rfl rfl ?_
 refine CWd (W':=Ws w (List.flatMap Asr.ids (gown 68 56 54 sb K t)) (gown 68 56 54 sb K t) []) (fun _ e=>by subst e; exact hw) ?_
 refine Cs (Cr (V0 (Ya rfl) (Ln (Et (Cs (Cr (V0 (Ym rfl) (V0 (Ym rfl) (V0 (yl_nil rfl) ?_)))))))))
 refine V0 (Yf fo68_0 rfl) (V0 (Yf fo31_3 rfl) (V0 (Yd 0 rfl rfl rfl na27) (V0 (Ym rfl) (V0 (Ym rfl) (V0 (Ym rfl) ?_)))))
 refine V0 (Yb zr56 pl56 rfl rfl) ?_
 refine Lb (.inl rfl) rfl el27 rfl rfl rfl rfl fun b19=>?_
 refine Lrb 0 (.cells (InsG.cells ⟨op,a,b⟩).toArray 56 (0,0)) rfl (rfl) ?_
 refine LA ((⟨op,a,b⟩:InsG)) 2 0 (.inl rfl) rfl el27 rfl rfl rfl rfl rfl rfl (by omega) (by omega) fun a20 c20=>?_
 refine V0 (yl_nil rfl) (V0 (Yf fo68_0 rfl) (V0 (Yf fo31_3 rfl) (Lst 1 (.inl rfl) rfl rfl rfl sz27 rfl rfl rfl (Ln (Et (Cs (Cr (V0 (Ym rfl) ?_))))))))
 refine V0 (yl_nil rfl) (V0 (Yf fo68_0 rfl) (V0 (Yf fo31_3 rfl) (V0 (Yd 1 rfl rfl rfl na27) (V0 (Yn es27 rfl) ?_))))
 refine V0 (yl_subv (t.g.code.length:Int) rfl rfl (by simp) (by omega)) ?_
 refine V0 (Ya rfl) (Ln (Et (Crt ?_)))
 refine WE.ret1 rfl rfl fun w' hw=>?_
 exact ⟨((a20,c20),t.fa),rfl,Ws.drop (L:=[_]) hw⟩
theorem pfixed_any (sb:Nat) (K:ObjK) (t:GsA)  (op a b kind m:Int) (w:World)  (hb:t.g.code.length+1≤1000000000000) (hfb:t.g.fix.length+1≤1000000000000) (hw:Ws w (List.flatMap Asr.ids (gown 68 56 54 sb K t)) (gown 68 56 54 sb K t) [] w) :
   Calls Tryz.prog 66 #[.pointer (some ⟨sb,0,none⟩),.int .i64 op,.int .i64 a,.int .i64 b,.int .i64 kind,.int .i64 m] w fun e w'=>∃q:SP×SP,e = .returned (.int .i64 (t.g.code.length:Int))∧Ws w (List.flatMap Asr.ids (gown 68 56 54 sb K t)) (gown 68 56 54 sb K ⟨fixG ⟨op,a,b⟩ kind m t.g,q.1,q.2⟩) [] w':=by
 refine enter Tryz.func66 rfl 35 rfl rfl ?_
 refine CWd (W':=Ws w (List.flatMap Asr.ids (gown 68 56 54 sb K t)) (gown 68 56 54 sb K t) []) (fun _ e=>by subst e; exact hw) ?_
 refine Cs (Cr (V0 (Ya rfl) (Ln (Et (Cs (Cr (V0 (Ym rfl) (V0 (Ym rfl) (V0 (Ym rfl) ?_)))))))))
 refine V0 (Ym rfl) (Lf 2 rfl (Lf 2 rfl (Lf 2 rfl ?_)))
 refine Lw (ι:=SP×SP) [_,_,_] _ (.inl rfl) rfl en27 rfl rfl (fun _=>.int .i64 ((t.g).code.length:Int)) (fun q=>(gown 68 56 54 sb K ⟨putG [⟨op,a,b⟩] t.g,q.1,q.2⟩)) (fun _=>True) [] (by simp) (fun w hw=>(pput_any sb K t  op a b w  (by show (t.g).code.length+1≤_; (try simp only [gsL9]); omega) (by show (t.g).fix.length+1≤_; (try simp only [gsL9]); omega) hw).mono fun e w' ⟨q,h1,h2⟩=>⟨q,h1,trivial,h2⟩) ?_
 intro q18 _
 refine V0 (Ya rfl) (Ln (Et (Cs (Cr (V0 (Ym rfl) (V0 (Ym rfl) (V0 (yl_nil rfl) (V0 (Yf fo68_0 rfl) ?_))))))))
 refine V0 (Yf fo31_4 rfl) (V0 (Yd 0 rfl rfl rfl na28) (V0 (Ym rfl) (V0 (Ym rfl) (V0 (Ym rfl) (V0 (Yb zr54 pl54 rfl rfl) ?_)))))
 refine Lb (.inl rfl) rfl el28 rfl rfl rfl rfl fun b29=>?_
 refine Lrb 0 (.cells (FixE.cells ⟨(t.g.code.length:Int),kind,m⟩).toArray 54 (0,0)) rfl (rfl) ?_
 refine LA ((⟨(t.g.code.length:Int),kind,m⟩:FixE)) 3 0 (.inl rfl) rfl el28 rfl rfl rfl rfl rfl rfl (by show t.g.fix.length+1≤_; omega) (by show (t.g.fix.length+1)*_≤_; omega) fun a30 c30=>?_
 refine V0 (yl_nil rfl) (V0 (Yf fo68_0 rfl) (V0 (Yf fo31_4 rfl) (Lst 1 (.inl rfl) rfl rfl rfl sz28 rfl rfl rfl (Ln (Et (Cs (Cr (V0 (Ym rfl) ?_))))))))
 refine V0 (Ya rfl) (Ln (Et (Crt ?_)))
 refine WE.ret1 rfl rfl fun w' hw=>?_
 exact ⟨(q18.1,(a30,c30)),rfl,Ws.drop (L:=[_]) hw⟩
theorem phere_any (sb:Nat) (K:ObjK) (t:GsA) (n:Nat) (x:InsG) (w:World) (hx:t.g.code[n]? = some x) (hw:Ws w (List.flatMap Asr.ids (gown 68 56 54 sb K t)) (gown 68 56 54 sb K t) [] w) :
   Calls Tryz.prog 68 #[.pointer (some ⟨sb,0,none⟩),.int .i64 (n:Int)] w fun e w'=>e = .returned (.tuple #[])∧Ws w (List.flatMap Asr.ids (gown 68 56 54 sb K t)) (gown 68 56 54 sb K ⟨landG n t.g,t.ca,t.fa⟩) [] w':=by
 have hlt:=(List.getElem?_eq_some_iff.1 hx).1
 refine enter Tryz.func68 rfl 18 rfl rfl ?_
 refine CWd (W':=Ws w (List.flatMap Asr.ids (gown 68 56 54 sb K t)) (gown 68 56 54 sb K t) []) (fun _ e=>by subst e; exact hw) ?_
 refine WC.shapeT 1 rfl (by omega) fun cb hcb hcc hcm=>?_
 refine WC.draws1 1 [(0,true),(1,true),(2,true),(3,true),(4,true),(5,true),(6,true),(7,true),(8,true),(9,true),(10,true),(11,true),(12,true),(13,true),(14,false)] mixed (by kernel_rfl) (fun _ _ _ d _ h=>by cases d<;>exact h) ?_
 refine Dq rfl (.inl rfl) rfl (fun _ h=>by have h:=Ws.out 1 h; exact h) (Ym rfl) ?_
 refine Dq rfl (.inl rfl) rfl (fun _ h=>by have h:=Ws.out 1 h; exact h) (yl_nil rfl) ?_
 refine Dq rfl (.inl rfl) rfl (fun _ h=>by have h:=Ws.out 1 h; exact h) (Yf fo68_0 rfl) ?_
 refine Dq rfl (.inl rfl) rfl (fun _ h=>by have h:=Ws.out 1 h; exact h) (Yf fo31_3 rfl) ?_
 refine Dq rfl (.inl rfl) rfl (fun _ h=>by have h:=Ws.out 1 h; exact h) (Yd 0 rfl rfl rfl na27) ?_
 refine Dq rfl (.inl rfl) rfl (fun _ h=>by have h:=Ws.out 1 h; exact h) (Ym rfl) ?_
 refine Dq rfl (.inl rfl) rfl (fun _ h=>by have h:=Ws.out 1 h; exact h) (Ym rfl) ?_
 refine Dq rfl (.inl rfl) rfl (fun _ h=>by have h:=Ws.out 1 h; exact h) (yl_nil rfl) ?_
 refine Dq rfl (.inl rfl) rfl (fun _ h=>by have h:=Ws.out 1 h; exact h) (Yf fo68_0 rfl) ?_
 refine Dq rfl (.inl rfl) rfl (fun _ h=>by have h:=Ws.out 1 h; exact h) (Yf fo31_3 rfl) ?_
 refine Dq rfl (.inl rfl) rfl (fun _ h=>by have h:=Ws.out 1 h; exact h) (Yd 0 rfl rfl rfl na27) ?_
 refine Dq rfl (.inl rfl) rfl (fun _ h=>by have h:=Ws.out 1 h; exact h) (Yn es27 rfl) ?_
 refine Dq rfl (.inl rfl) rfl (fun _ h=>by have h:=Ws.out 1 h; exact h) (Yo es27 rfl rfl hcb hlt) ?_
 refine Dq rfl (.inl rfl) rfl (fun _ h=>by have h:=Ws.out 1 h; exact h) (Yf fo56_1 rfl) ?_
 refine De rfl (fun _ h=>by have h:=Ws.out 1 h; exact h) ?_
 refine WL.storeT (y:=x) 1 n 1 (⟨x.op,(t.g.code.length:Int),x.b⟩:InsG) (.inl rfl) rfl rfl rfl hcb rfl InsG.cells_len hx sz3 rfl rfl (by decide) rfl ?_
 refine Ln (Ed ?_)
 refine WD.nil (fun _ h=>by have h:=Ws.out 1 h; exact h) ?_
 refine WE.end0 rfl fun w' hw=>?_
 rw [landG_at hx]
 exact ⟨rfl,hw.reL 0 rfl (show blk sb (gob 68 K t)=blk sb (gob 68 K ⟨{ t.g with code:=t.g.code.set n ⟨x.op,(t.g.code.length:Int),x.b⟩ },t.ca,t.fa⟩) by simp [gob])⟩
end Go.Proofs.YtpjekjnehiinnaaGreatDoor
end
section
namespace Go.Proofs.YtpjekjnehiinnaaGreatDoor
open Go.Bw
set_option linter.unusedVariables false
set_option linter.unusedSimpArgs false
def PNode (H:View) (sb:Nat) (K:ObjK) (k:Nat):Prop:=∀(x:TNode) (a:Option Addr) (c:Nat) (t:GsA) (w:World),Sl (RdN k) 5 H a c x.args→NodeOk x→t.g.code.length+8*wNd x≤1000000000000→t.g.fix.length+8*wNd x≤1000000000000→
 Ws w (List.flatMap Asr.ids (gown 68 56 54 sb K t)) (gown 68 56 54 sb K t) [H] w→Calls Tryz.prog 65 #[.pointer (some ⟨sb,0,none⟩),.agg (nodeV x a c).toArray] w fun e w'=>∃q:SP×SP,e = .returned (.tuple #[])∧Ws w (List.flatMap Asr.ids (gown 68 56 54 sb K t)) (gown 68 56 54 sb K ⟨nodeG x t.g,q.1,q.2⟩) [H] w'
theorem one_nodes {l:List TNode} {y:TNode} (hl:l.length=1) (h:l[0]? = some y) (g:Gs):nodesG l g=nodeG y g:=by
 obtain ⟨z,rfl⟩:=List.length_eq_one_iff.1 hl
 simp at h; subst h; rfl
theorem en65:Enters Tryz.prog 65:=enters_of Tryz.func65 (by kernel_rfl) rfl
theorem en66:Enters Tryz.prog 66:=enters_of Tryz.func66 (by kernel_rfl) rfl
theorem en67:Enters Tryz.prog 67:=enters_of Tryz.func67 (by kernel_rfl) rfl
theorem en68:Enters Tryz.prog 68:=enters_of Tryz.func68 (by kernel_rfl) rfl
theorem pnodes_any (sb:Nat) (K:ObjK) (t:GsA) (H:View) (k:Nat) (l:List TNode) (a:Option Addr) (c:Nat) (w:World) (hN:∀k2,k2<k→PNode H sb K k2) (hl:Sl (RdN k) 5 H a c l) (hok:NodesOk l) (hb:t.g.code.length+8*wNds l≤1000000000000) (hfb:t.g.fix.length+8*wNds l≤1000000000000) (hw:Ws w (List.flatMap Asr.ids (gown 68 56 54 sb K t)) (gown 68 56 54 sb K t) [H] w) :
   Calls Tryz.prog 67 #[.pointer (some ⟨sb,0,none⟩),.slice a l.length c] w fun e w'=>∃q:SP×SP,e = .returned (.tuple #[])∧Ws w (List.flatMap Asr.ids (gown 68 56 54 sb K t)) (gown 68 56 54 sb K ⟨nodesG l t.g,q.1,q.2⟩) [H] w':=by
 have hcap:=hl.cap
 have hmax:=hl.max
 refine enter Tryz.func67 rfl 17 rfl rfl ?_
 refine CWd (W':=Ws w (List.flatMap Asr.ids (gown 68 56 54 sb K t)) (gown 68 56 54 sb K t) [H]) (fun _ e=>by subst e; exact hw) ?_
 refine Cs (Cr (V0 (Ya rfl) (Ln (Et (Cb ?_)))))
 refine CK (ι:=Nat×SP×SP) (fun g=>[(4,.int .i64 (g.1:Int))]) [(0,_),(1,_)] (fun g=>Ws w (List.flatMap Asr.ids (gown 68 56 54 sb K t)) (gown 68 56 54 sb K ⟨nodesG (l.take g.1) t.g,g.2.1,g.2.2⟩) [H]) (fun g=>g.1≤l.length) (fun g=>l.length-g.1) (0,t.ca,t.fa) (Nat.zero_le _) (sc rfl (sc rfl (sc rfl sn))) (fun _ h=>h) ?_
 intro g hgi
 refine Cs (Cs (Cr (V0 (Ym rfl) (V0 (Ym rfl) (V0 (Yn es102 rfl) (V0 (yl_lt rfl rfl) (Ln (Et ?_))))))))
 refine Cc rfl (fun hc0=>?_) (fun hc0=>?_)
 ·
  have hlt:g.1<l.length:=by simpa using hc0
  obtain ⟨x,hxi⟩:∃q,l[g.1]? = some q:=⟨_,List.getElem?_eq_getElem hlt⟩
  obtain ⟨pbx,pox,hax,hrx⟩:=hl.elt g.1 x hxi
  obtain ⟨k2,rfl⟩:∃k2,k=k2+1:=by
    cases k with
    | zero=>exact hrx.elim
    | succ k2=>exact ⟨k2,rfl⟩
  obtain ⟨xa,xc,hrow,hsub⟩:=hrx
  have hww:=wNd_mem hxi
  have hgl:=nodesG_len (l.take g.1) t.g
  have hh1:=hgl.hi
  have hh2:=hgl.fhi
  refine Ck (Et (Cs (Cb (Cr (V0 (Ym rfl) (V0 (Ym rfl) (V0 (Ym rfl) (V0 (Yo es102 rfl rfl hax hlt) (V0 (yl_lda 0 ag138 rfl rfl rfl (hrow)) ?_)))))))))
  refine Lf 2 rfl (Lf 2 rfl (Lf 2 rfl ?_))
  refine Lw (ι:=SP×SP) [_,_,_] _ (.inl rfl) rfl en65 rfl rfl (fun _=>.tuple #[]) (fun q=>(gown 68 56 54 sb K ⟨nodeG x (nodesG (l.take g.1) t.g),q.1,q.2⟩)) (fun _=>True) [H] (by simp) (fun w hw=>(hN k2 (by omega) x xa xc (⟨nodesG (l.take g.1) t.g,g.2.1,g.2.2⟩:GsA) w hsub (hok.at_ hxi) (by show (nodesG (l.take g.1) t.g).code.length+8*wNd x≤_; (try simp only [gsL9]); omega) (by show (nodesG (l.take g.1) t.g).fix.length+8*wNd x≤_; (try simp only [gsL9]); omega) hw).mono fun e w' ⟨q,h1,h2⟩=>⟨q,h1,trivial,h2⟩) ?_
  intro q16 _
  refine Ln (Eb (Et (Cr (V0 (Ym rfl) ?_))))
  refine V0 (Yi rfl rfl rfl (by omega)) ?_
  refine V0 (Ya rfl) (Ln ?_)
  rw [←nodesG_take hxi]
  exact Ea ((g.1+1,q16):Nat×SP×SP) (by show _-(g.1+1)<_; omega) (by show g.1+1≤_; omega) (sc rfl (sc rfl (sc rfl sn))) (fun _ h=>h)
 ·
  have hge:g.1=l.length:=by simp at hc0; omega
  rw [hge,List.take_length]
  refine Ce (Ex (Ex (Ebh ?_)))
  refine WE.end0 rfl fun w' hw=>?_
  exact ⟨g.2,rfl,hw⟩
theorem pnode_any (sb:Nat) (K:ObjK) (t:GsA) (H:View) (k:Nat) (x:TNode) (a:Option Addr) (c:Nat) (w:World) (hl:Sl (RdN k) 5 H a c x.args) (hok:NodeOk x) (hb:t.g.code.length+8*wNd x≤1000000000000) (hfb:t.g.fix.length+8*wNd x≤1000000000000) (hw:Ws w (List.flatMap Asr.ids (gown 68 56 54 sb K t)) (gown 68 56 54 sb K t) [H] w) :
   Calls Tryz.prog 65 #[.pointer (some ⟨sb,0,none⟩),.agg (nodeV x a c).toArray] w fun e w'=>∃q:SP×SP,e = .returned (.tuple #[])∧Ws w (List.flatMap Asr.ids (gown 68 56 54 sb K t)) (gown 68 56 54 sb K ⟨nodeG x t.g,q.1,q.2⟩) [H] w':=by
 induction k using Nat.strongRecOn generalizing x a c t w
 rename_i k ih
 have hN:∀k2,k2<k→PNode H sb K k2:=fun k2 h x a c t w h1 h2 h3 h4 h5=>ih k2 h t x a c w h1 h2 h3 h4 h5
 have hcap:=hl.cap
 have hmax:=hl.max
 have hwe:=wNd_eq x
 refine enter Tryz.func65 rfl 138 rfl rfl ?_
 refine CWd (W':=Ws w (List.flatMap Asr.ids (gown 68 56 54 sb K t)) (gown 68 56 54 sb K t) [H]) (fun _ e=>by subst e; exact hw) ?_
 refine Cs (Cr ?_)
 refine WL.box (.inl rfl) rfl rfl fun b3=>?_
 refine Ln (Et (Cs (Cr (V0 (Yf fo138_0 rfl) (V0 (Yd 0 rfl rfl rfl na3) (Ln (Et (Cb (Cs (Cr (V0 (yl_eq rfl rfl) (V0 (Ya rfl) ?_))))))))))))
 refine Ln (Et ?_)
 refine Cc rfl (fun hc0=>?_) (fun hc0=>?_)
 ·
  have ho:x.op=1:=by simpa using hc0
  refine Cr (V0 (Ym rfl) (V0 (Yf fo138_1 rfl) (V0 (Yd 0 rfl rfl rfl na3) (Lf 3 rfl (Lf 3 rfl ?_)))))
  refine Lf 3 rfl ?_
  refine Lw (ι:=SP×SP) [_,_,_] _ (.inl rfl) rfl en27 rfl rfl (fun _=>.int .i64 ((t.g).code.length:Int)) (fun q=>(gown 68 56 54 sb K ⟨putG [⟨1,x.n,0⟩] (t.g),q.1,q.2⟩)) (fun _=>True) [] (by simp) (fun w hw=>(pput_any sb K t  (1) (x.n) (0) w  (by show (t.g).code.length+1≤_; (try simp only [gsL9]); omega) (by show (t.g).fix.length+1≤_; (try simp only [gsL9]); omega) hw).mono fun e w' ⟨q,h1,h2⟩=>⟨q,h1,trivial,h2⟩) ?_
  intro q23 _
  refine Ln (Eb ?_)
  refine WE.end0 rfl fun w' hw=>?_
  have hr:nodeG x t.g=putG [⟨1,x.n,0⟩] t.g:=by
    rw [nodeG_eq,nodeGo,if_pos ho]
  rw [hr]
  exact ⟨(q23),rfl,Ws.keep (L:=[_,_,_]) hw⟩
 ·
  have hn1:¬x.op=1:=by simpa using hc0
  refine Cs (Cr (V0 (yl_eq rfl rfl) (V0 (Ya rfl) (Ln (Et ?_)))))
  refine Cc rfl (fun hc1=>?_) (fun hc1=>?_)
  ·
   have ho:x.op=2:=by simpa using hc1
   refine Cr (V0 (Ym rfl) (Lf 3 rfl (Lf 3 rfl (Lf 3 rfl ?_))))
   refine Lw (ι:=SP×SP) [_,_,_] _ (.inl rfl) rfl en27 rfl rfl (fun _=>.int .i64 ((t.g).code.length:Int)) (fun q=>(gown 68 56 54 sb K ⟨putG [⟨18,0,0⟩] (t.g),q.1,q.2⟩)) (fun _=>True) [] (by simp) (fun w hw=>(pput_any sb K t  (18) (0) (0) w  (by show (t.g).code.length+1≤_; (try simp only [gsL9]); omega) (by show (t.g).fix.length+1≤_; (try simp only [gsL9]); omega) hw).mono fun e w' ⟨q,h1,h2⟩=>⟨q,h1,trivial,h2⟩) ?_
   intro q27 _
   refine Ln (Eb ?_)
   refine WE.end0 rfl fun w' hw=>?_
   have hr:nodeG x t.g=putG [⟨18,0,0⟩] t.g:=by
     rw [nodeG_eq,nodeGo,if_neg (show ¬x.op=1 by omega),if_pos ho]
   rw [hr]
   exact ⟨(q27),rfl,Ws.keep (L:=[_,_,_]) hw⟩
  ·
   have hn2:¬x.op=2:=by simpa using hc1
   refine Cs (Cr (V0 (yl_eq rfl rfl) (V0 (Ya rfl) (Ln (Et ?_)))))
   refine Cc rfl (fun hc2=>?_) (fun hc2=>?_)
   ·
    have ho:x.op=16:=by simpa using hc2
    refine Cr (V0 (Ym rfl) (V0 (Yf fo138_3 rfl) (V0 (Yd 0 rfl rfl rfl na3) (Lf 3 rfl (Lf 3 rfl ?_)))))
    refine Lf 3 rfl ?_
    refine Lw (ι:=SP×SP) [_,_,_] _ (.inl rfl) rfl en27 rfl rfl (fun _=>.int .i64 ((t.g).code.length:Int)) (fun q=>(gown 68 56 54 sb K ⟨putG [⟨2,x.pl,0⟩] (t.g),q.1,q.2⟩)) (fun _=>True) [] (by simp) (fun w hw=>(pput_any sb K t  (2) (x.pl) (0) w  (by show (t.g).code.length+1≤_; (try simp only [gsL9]); omega) (by show (t.g).fix.length+1≤_; (try simp only [gsL9]); omega) hw).mono fun e w' ⟨q,h1,h2⟩=>⟨q,h1,trivial,h2⟩) ?_
    intro q33 _
    refine Ln (Eb ?_)
    refine WE.end0 rfl fun w' hw=>?_
    have hr:nodeG x t.g=putG [⟨2,x.pl,0⟩] t.g:=by
      rw [nodeG_eq,nodeGo,if_neg (show ¬x.op=1 by omega),if_neg (show ¬x.op=2 by omega),if_pos ho]
    rw [hr]
    exact ⟨(q33),rfl,Ws.keep (L:=[_,_,_]) hw⟩
   ·
    have hn16:¬x.op=16:=by simpa using hc2
    refine Cs (Cr (V0 (yl_eq rfl rfl) (V0 (Ya rfl) (Ln (Et ?_)))))
    refine Cc rfl (fun hc3=>?_) (fun hc3=>?_)
    ·
     have ho:x.op=3:=by simpa using hc3
     refine Cr (V0 (Ym rfl) (V0 (Yf fo138_3 rfl) (V0 (Yd 0 rfl rfl rfl na3) (V0 (Yf fo138_2 rfl) (V0 (Yd 0 rfl rfl rfl na3) ?_)))))
     refine Lf 3 rfl (Lf 3 rfl (Lf 3 rfl ?_))
     refine Lw (ι:=SP×SP) [_,_,_] _ (.inl rfl) rfl en66 rfl rfl (fun _=>.int .i64 ((t.g).code.length:Int)) (fun q=>(gown 68 56 54 sb K ⟨fixG ⟨4,x.pl,0⟩ 3 x.m (t.g),q.1,q.2⟩)) (fun _=>True) [] (by simp) (fun w hw=>(pfixed_any sb K t  (4) (x.pl) (0) 3 x.m w  (by show (t.g).code.length+1≤_; (try simp only [gsL9]); omega) (by show (t.g).fix.length+1≤_; (try simp only [gsL9]); omega) hw).mono fun e w' ⟨q,h1,h2⟩=>⟨q,h1,trivial,h2⟩) ?_
     intro q41 _
     refine Ln (Eb ?_)
     refine WE.end0 rfl fun w' hw=>?_
     have hr:nodeG x t.g=fixG ⟨4,x.pl,0⟩ 3 x.m t.g:=by
       rw [nodeG_eq,nodeGo,if_neg (show ¬x.op=1 by omega),if_neg (show ¬x.op=2 by omega),if_neg (show ¬x.op=16 by omega),if_pos ho]
     rw [hr]
     exact ⟨(q41),rfl,Ws.keep (L:=[_,_,_]) hw⟩
    ·
     have hn3:¬x.op=3:=by simpa using hc3
     refine Cs (Cr (V0 (yl_eq rfl rfl) (V0 (Ya rfl) (Ln (Et ?_)))))
     refine Cc rfl (fun hc4=>?_) (fun hc4=>?_)
     ·
      have ho:x.op=4:=by simpa using hc4
      refine Cs ?_
      have hl1:=hok.args.2.1 (by omega)
      obtain ⟨y,hyi⟩:∃y,x.args[0]? = some y:=⟨_,List.getElem?_eq_getElem (by omega)⟩
      obtain ⟨pby,poy,hay,hry⟩:=hl.elt 0 y hyi
      obtain ⟨k2,rfl⟩:∃k2,k=k2+1:=by
        cases k with
        | zero=>exact hry.elim
        | succ k2=>exact ⟨k2,rfl⟩
      obtain ⟨ya,yc,hrowy,hsuby⟩:=hry
      have hN2:=hN k2 (by omega)
      have hoy:=hok.args.1.at_ hyi
      have hgl:=nodeG_len y t.g
      have hh1:=hgl.hi
      have hh2:=hgl.fhi
      have hh3:=hgl.lo
      have hw1:=wNd_one hyi
      refine Cr (V0 (Ym rfl) (V0 (Yf fo138_4 rfl) (V0 (Yd 0 rfl rfl rfl na102) ?_)))
      refine V0 (Yo (i:=0) es102 rfl rfl hay (by omega)) ?_
      refine V0 (yl_lda 0 ag138 rfl rfl rfl (hrowy)) (Lf 3 rfl (Lf 3 rfl (Lf 3 rfl ?_)))
      refine Lw (ι:=SP×SP) [_,_,_] _ (.inl rfl) rfl en65 rfl rfl (fun _=>.tuple #[]) (fun q=>(gown 68 56 54 sb K ⟨nodeG y (t.g),q.1,q.2⟩)) (fun _=>True) [H] (by simp) (fun w hw=>(hN2 y ya yc t w hsuby hoy (by show (t.g).code.length+8*wNd y≤_; (try simp only [gsL9]); omega) (by show (t.g).fix.length+8*wNd y≤_; (try simp only [gsL9]); omega) hw).mono fun e w' ⟨q,h1,h2⟩=>⟨q,h1,trivial,h2⟩) ?_
      intro q49 _
      refine Ln (Et (Cs (Cr (V0 (Ym rfl) (V0 (Yf fo138_3 rfl) (V0 (Yd 3 rfl rfl rfl na3) (V0 (Yf fo138_1 rfl) (V0 (Yd 3 rfl rfl rfl na3) ?_))))))))
      refine V0 (Yf fo138_2 rfl) (V0 (Yd 3 rfl rfl rfl na3) (Lf 2 rfl (Lf 2 rfl (Lf 2 rfl ?_))))
      refine Lw (ι:=SP×SP) [_,_,_] _ (.inl rfl) rfl en66 rfl rfl (fun _=>.int .i64 (((nodeG y t.g)).code.length:Int)) (fun q=>(gown 68 56 54 sb K ⟨fixG ⟨6,x.pl,x.n⟩ 3 x.m ((nodeG y t.g)),q.1,q.2⟩)) (fun _=>True) [] (by simp) (fun w hw=>(pfixed_any sb K (⟨(nodeG y t.g),q49.1,q49.2⟩:GsA)  (6) (x.pl) (x.n) 3 x.m w  (by show ((nodeG y t.g)).code.length+1≤_; (try simp only [gsL9]); omega) (by show ((nodeG y t.g)).fix.length+1≤_; (try simp only [gsL9]); omega) hw).mono fun e w' ⟨q,h1,h2⟩=>⟨q,h1,trivial,h2⟩) ?_
      intro q57 _
      refine Ln (Et (Cr (V0 (Ym rfl) (Lf 2 rfl (Lf 2 rfl (Lf 2 rfl ?_))))))
      refine Lw (ι:=SP×SP) [_,_,_] _ (.inl rfl) rfl en27 rfl rfl (fun _=>.int .i64 (((fixG ⟨6,x.pl,x.n⟩ 3 x.m (nodeG y t.g))).code.length:Int)) (fun q=>(gown 68 56 54 sb K ⟨putG [⟨7,0,0⟩] ((fixG ⟨6,x.pl,x.n⟩ 3 x.m (nodeG y t.g))),q.1,q.2⟩)) (fun _=>True) [] (by simp) (fun w hw=>(pput_any sb K (⟨(fixG ⟨6,x.pl,x.n⟩ 3 x.m (nodeG y t.g)),q57.1,q57.2⟩:GsA)  (7) (0) (0) w  (by show ((fixG ⟨6,x.pl,x.n⟩ 3 x.m (nodeG y t.g))).code.length+1≤_; (try simp only [gsL9]); omega) (by show ((fixG ⟨6,x.pl,x.n⟩ 3 x.m (nodeG y t.g))).fix.length+1≤_; (try simp only [gsL9]); omega) hw).mono fun e w' ⟨q,h1,h2⟩=>⟨q,h1,trivial,h2⟩) ?_
      intro q59 _
      refine Ln (Eb ?_)
      refine WE.end0 rfl fun w' hw=>?_
      have hr:nodeG x t.g=putG [⟨7,0,0⟩] (fixG ⟨6,x.pl,x.n⟩ 3 x.m (nodeG y t.g)):=by
        rw [nodeG_eq,nodeGo,if_neg (show ¬x.op=1 by omega),if_neg (show ¬x.op=2 by omega),if_neg (show ¬x.op=16 by omega),if_neg (show ¬x.op=3 by omega),if_pos ho]
        rw [kidG_at hyi]
      rw [hr]
      exact ⟨(q59),rfl,Ws.keep (L:=[_,_,_]) hw⟩
     ·
      have hn4:¬x.op=4:=by simpa using hc4
      refine Cs (Cr (V0 (yl_eq rfl rfl) (V0 (Ya rfl) (Ln (Et ?_)))))
      refine Cc rfl (fun hc5=>?_) (fun hc5=>?_)
      ·
       have ho:x.op=5:=by simpa using hc5
       refine Cs ?_
       have hgl:=nodesG_len x.args t.g
       have hh1:=hgl.hi
       have hh2:=hgl.fhi
       refine Cr (V0 (Ym rfl) (V0 (Yf fo138_4 rfl) (V0 (Yd 0 rfl rfl rfl na102) (Lf 3 rfl (Lf 3 rfl ?_)))))
       refine Lf 3 rfl ?_
       refine Lw (ι:=SP×SP) [_,_,_] _ (.inl rfl) rfl en67 rfl rfl (fun _=>.tuple #[]) (fun q=>(gown 68 56 54 sb K ⟨nodesG x.args t.g,q.1,q.2⟩)) (fun _=>True) [H] (by simp) (fun w hw=>(pnodes_any sb K t H k x.args a c w hN hl hok.args.1 (by show (t.g).code.length+8*wNds x.args≤_; (try simp only [gsL9]); omega) (by show (t.g).fix.length+8*wNds x.args≤_; (try simp only [gsL9]); omega) hw).mono fun e w' ⟨q,h1,h2⟩=>⟨q,h1,trivial,h2⟩) ?_
       intro q65 _
       refine Ln (Et (Cr (V0 (Ym rfl) (V0 (Yf fo138_3 rfl) (V0 (Yd 3 rfl rfl rfl na3) (V0 (Yf fo138_2 rfl) (V0 (Yd 3 rfl rfl rfl na3) ?_)))))))
       refine Lf 2 rfl (Lf 2 rfl (Lf 2 rfl ?_))
       refine Lw (ι:=SP×SP) [_,_,_] _ (.inl rfl) rfl en66 rfl rfl (fun _=>.int .i64 (((nodesG x.args t.g)).code.length:Int)) (fun q=>(gown 68 56 54 sb K ⟨fixG ⟨13,x.pl,0⟩ 2 x.m ((nodesG x.args t.g)),q.1,q.2⟩)) (fun _=>True) [] (by simp) (fun w hw=>(pfixed_any sb K (⟨(nodesG x.args t.g),q65.1,q65.2⟩:GsA)  (13) (x.pl) (0) 2 x.m w  (by show ((nodesG x.args t.g)).code.length+1≤_; (try simp only [gsL9]); omega) (by show ((nodesG x.args t.g)).fix.length+1≤_; (try simp only [gsL9]); omega) hw).mono fun e w' ⟨q,h1,h2⟩=>⟨q,h1,trivial,h2⟩) ?_
       intro q71 _
       refine Ln (Eb ?_)
       refine WE.end0 rfl fun w' hw=>?_
       have hr:nodeG x t.g=fixG ⟨13,x.pl,0⟩ 2 x.m (nodesG x.args t.g):=by
         rw [nodeG_eq,nodeGo,if_neg (show ¬x.op=1 by omega),if_neg (show ¬x.op=2 by omega),if_neg (show ¬x.op=16 by omega),if_neg (show ¬x.op=3 by omega),if_neg (show ¬x.op=4 by omega),if_pos ho]
         rw [allG_nodes]
       rw [hr]
       exact ⟨(q71),rfl,Ws.keep (L:=[_,_,_]) hw⟩
      ·
       have hn5:¬x.op=5:=by simpa using hc5
       refine Cs (Cr (V0 (yl_eq rfl rfl) (V0 (Ya rfl) (Ln (Et ?_)))))
       refine Cc rfl (fun hc6=>?_) (fun hc6=>?_)
       ·
        have ho:x.op=6:=by simpa using hc6
        refine Cs ?_
        have hl1:=hok.args.2.1 (by omega)
        obtain ⟨y,hyi⟩:∃y,x.args[0]? = some y:=⟨_,List.getElem?_eq_getElem (by omega)⟩
        obtain ⟨pby,poy,hay,hry⟩:=hl.elt 0 y hyi
        obtain ⟨k2,rfl⟩:∃k2,k=k2+1:=by
          cases k with
          | zero=>exact hry.elim
          | succ k2=>exact ⟨k2,rfl⟩
        obtain ⟨ya,yc,hrowy,hsuby⟩:=hry
        have hN2:=hN k2 (by omega)
        have hoy:=hok.args.1.at_ hyi
        have hgl:=nodeG_len y t.g
        have hh1:=hgl.hi
        have hh2:=hgl.fhi
        have hh3:=hgl.lo
        have hw1:=wNd_one hyi
        refine Cr (V0 (Ym rfl) (V0 (Yf fo138_4 rfl) (V0 (Yd 0 rfl rfl rfl na102) ?_)))
        refine V0 (Yo (i:=0) es102 rfl rfl hay (by omega)) ?_
        refine V0 (yl_lda 0 ag138 rfl rfl rfl (hrowy)) (Lf 3 rfl (Lf 3 rfl (Lf 3 rfl ?_)))
        refine Lw (ι:=SP×SP) [_,_,_] _ (.inl rfl) rfl en65 rfl rfl (fun _=>.tuple #[]) (fun q=>(gown 68 56 54 sb K ⟨nodeG y (t.g),q.1,q.2⟩)) (fun _=>True) [H] (by simp) (fun w hw=>(hN2 y ya yc t w hsuby hoy (by show (t.g).code.length+8*wNd y≤_; (try simp only [gsL9]); omega) (by show (t.g).fix.length+8*wNd y≤_; (try simp only [gsL9]); omega) hw).mono fun e w' ⟨q,h1,h2⟩=>⟨q,h1,trivial,h2⟩) ?_
        intro q79 _
        refine Ln (Et (Cr (V0 (Ym rfl) (Lf 2 rfl (Lf 2 rfl (Lf 2 rfl ?_))))))
        refine Lw (ι:=SP×SP) [_,_,_] _ (.inl rfl) rfl en27 rfl rfl (fun _=>.int .i64 (((nodeG y t.g)).code.length:Int)) (fun q=>(gown 68 56 54 sb K ⟨putG [⟨9,0,0⟩] ((nodeG y t.g)),q.1,q.2⟩)) (fun _=>True) [] (by simp) (fun w hw=>(pput_any sb K (⟨(nodeG y t.g),q79.1,q79.2⟩:GsA)  (9) (0) (0) w  (by show ((nodeG y t.g)).code.length+1≤_; (try simp only [gsL9]); omega) (by show ((nodeG y t.g)).fix.length+1≤_; (try simp only [gsL9]); omega) hw).mono fun e w' ⟨q,h1,h2⟩=>⟨q,h1,trivial,h2⟩) ?_
        intro q81 _
        refine Ln (Eb ?_)
        refine WE.end0 rfl fun w' hw=>?_
        have hr:nodeG x t.g=putG [⟨9,0,0⟩] (nodeG y t.g):=by
          rw [nodeG_eq,nodeGo,if_neg (show ¬x.op=1 by omega),if_neg (show ¬x.op=2 by omega),if_neg (show ¬x.op=16 by omega),if_neg (show ¬x.op=3 by omega),if_neg (show ¬x.op=4 by omega),if_neg (show ¬x.op=5 by omega),if_neg (show ¬x.op=7 by omega),if_neg (show ¬x.op=8 by omega),if_pos ho]
          rw [allG_nodes,one_nodes hl1 hyi]
        rw [hr]
        exact ⟨(q81),rfl,Ws.keep (L:=[_,_,_]) hw⟩
       ·
        have hn6:¬x.op=6:=by simpa using hc6
        refine Cs (Cr (V0 (yl_eq rfl rfl) (V0 (Ya rfl) (Ln (Et ?_)))))
        refine Cc rfl (fun hc7=>?_) (fun hc7=>?_)
        ·
         have ho:x.op=7:=by simpa using hc7
         refine Cs ?_
         have hl2:=hok.args.2.2.1 (by omega)
         obtain ⟨y,hyi⟩:∃y,x.args[0]? = some y:=⟨_,List.getElem?_eq_getElem (by omega)⟩
         obtain ⟨pby,poy,hay,hry⟩:=hl.elt 0 y hyi
         obtain ⟨z,hzi⟩:∃y,x.args[1]? = some y:=⟨_,List.getElem?_eq_getElem (by omega)⟩
         obtain ⟨pbz,poz,haz,hrz⟩:=hl.elt 1 z hzi
         obtain ⟨k2,rfl⟩:∃k2,k=k2+1:=by
           cases k with
           | zero=>exact hry.elim
           | succ k2=>exact ⟨k2,rfl⟩
         obtain ⟨ya,yc,hrowy,hsuby⟩:=hry
         have hN2:=hN k2 (by omega)
         have hoy:=hok.args.1.at_ hyi
         have hgl:=nodeG_len y t.g
         have hh1:=hgl.hi
         have hh2:=hgl.fhi
         have hh3:=hgl.lo
         obtain ⟨za,zc,hrowz,hsubz⟩:=hrz
         have hoz:=hok.args.1.at_ hzi
         have hw2:=wNd_two hyi hzi
         have hgz:=nodeG_len z (fixG ⟨12,0,0⟩ 1 0 (nodeG y t.g))
         have hz1:=hgz.hi
         have hz2:=hgz.fhi
         have hz3:=hgz.lo
         have hgz2:=nodeG_len z (landG ((nodeG y t.g).code.length) (fixG ⟨11,0,0⟩ 1 0 (putG [⟨1,1,0⟩] (fixG ⟨12,0,0⟩ 1 0 (nodeG y t.g)))))
         have hz4:=hgz2.hi
         have hz5:=hgz2.fhi
         have hz6:=hgz2.lo
         simp only [gsL9] at hz1 hz2 hz3 hz4 hz5 hz6
         refine Cr (V0 (Ym rfl) (V0 (Yf fo138_4 rfl) (V0 (Yd 0 rfl rfl rfl na102) ?_)))
         refine V0 (Yo (i:=0) es102 rfl rfl hay (by omega)) ?_
         refine V0 (yl_lda 0 ag138 rfl rfl rfl (hrowy)) (Lf 3 rfl (Lf 3 rfl (Lf 3 rfl ?_)))
         refine Lw (ι:=SP×SP) [_,_,_] _ (.inl rfl) rfl en65 rfl rfl (fun _=>.tuple #[]) (fun q=>(gown 68 56 54 sb K ⟨nodeG y (t.g),q.1,q.2⟩)) (fun _=>True) [H] (by simp) (fun w hw=>(hN2 y ya yc t w hsuby hoy (by show (t.g).code.length+8*wNd y≤_; (try simp only [gsL9]); omega) (by show (t.g).fix.length+8*wNd y≤_; (try simp only [gsL9]); omega) hw).mono fun e w' ⟨q,h1,h2⟩=>⟨q,h1,trivial,h2⟩) ?_
         intro q89 _
         refine Ln (Et (Cs (Cr (V0 (Ym rfl) (Lf 2 rfl (Lf 2 rfl (Lf 2 rfl ?_)))))))
         refine Lw (ι:=SP×SP) [_,_,_] _ (.inl rfl) rfl en66 rfl rfl (fun _=>.int .i64 (((nodeG y t.g)).code.length:Int)) (fun q=>(gown 68 56 54 sb K ⟨fixG ⟨12,0,0⟩ 1 0 ((nodeG y t.g)),q.1,q.2⟩)) (fun _=>True) [] (by simp) (fun w hw=>(pfixed_any sb K (⟨(nodeG y t.g),q89.1,q89.2⟩:GsA)  (12) (0) (0) 1 0 w  (by show ((nodeG y t.g)).code.length+1≤_; (try simp only [gsL9]); omega) (by show ((nodeG y t.g)).fix.length+1≤_; (try simp only [gsL9]); omega) hw).mono fun e w' ⟨q,h1,h2⟩=>⟨q,h1,trivial,h2⟩) ?_
         intro q91 _
         refine V0 (Ya rfl) (Ln (Et (Cs (Cr (V0 (Ym rfl) (V0 (Yf fo138_4 rfl) (V0 (Yd 3 rfl rfl rfl na102) ?_)))))))
         refine V0 (Yo (i:=1) es102 rfl rfl haz (by omega)) ?_
         refine V0 (yl_lda 0 ag138 rfl rfl rfl (hrowz)) (Lf 2 rfl (Lf 2 rfl (Lf 2 rfl ?_)))
         refine Lw (ι:=SP×SP) [_,_,_] _ (.inl rfl) rfl en65 rfl rfl (fun _=>.tuple #[]) (fun q=>(gown 68 56 54 sb K ⟨nodeG z ((fixG ⟨12,0,0⟩ 1 0 (nodeG y t.g))),q.1,q.2⟩)) (fun _=>True) [H] (by simp) (fun w hw=>(hN2 z za zc (⟨(fixG ⟨12,0,0⟩ 1 0 (nodeG y t.g)),q91.1,q91.2⟩:GsA) w hsubz hoz (by show ((fixG ⟨12,0,0⟩ 1 0 (nodeG y t.g))).code.length+8*wNd z≤_; (try simp only [gsL9]); omega) (by show ((fixG ⟨12,0,0⟩ 1 0 (nodeG y t.g))).fix.length+8*wNd z≤_; (try simp only [gsL9]); omega) hw).mono fun e w' ⟨q,h1,h2⟩=>⟨q,h1,trivial,h2⟩) ?_
         intro q97 _
         refine Ln (Et (Cs (Cr (V0 (Ym rfl) (Lf 2 rfl (Lf 2 rfl (Lf 2 rfl ?_)))))))
         refine Lw (ι:=SP×SP) [_,_,_] _ (.inl rfl) rfl en27 rfl rfl (fun _=>.int .i64 (((nodeG z (fixG ⟨12,0,0⟩ 1 0 (nodeG y t.g)))).code.length:Int)) (fun q=>(gown 68 56 54 sb K ⟨putG [⟨22,0,0⟩] ((nodeG z (fixG ⟨12,0,0⟩ 1 0 (nodeG y t.g)))),q.1,q.2⟩)) (fun _=>True) [] (by simp) (fun w hw=>(pput_any sb K (⟨(nodeG z (fixG ⟨12,0,0⟩ 1 0 (nodeG y t.g))),q97.1,q97.2⟩:GsA)  (22) (0) (0) w  (by show ((nodeG z (fixG ⟨12,0,0⟩ 1 0 (nodeG y t.g)))).code.length+1≤_; (try simp only [gsL9]); omega) (by show ((nodeG z (fixG ⟨12,0,0⟩ 1 0 (nodeG y t.g)))).fix.length+1≤_; (try simp only [gsL9]); omega) hw).mono fun e w' ⟨q,h1,h2⟩=>⟨q,h1,trivial,h2⟩) ?_
         intro q99 _
         refine Ln (Et (Cs (Cr (V0 (Ym rfl) (Lf 2 rfl (Lf 2 rfl (Lf 2 rfl ?_)))))))
         refine Lw (ι:=SP×SP) [_,_,_] _ (.inl rfl) rfl en66 rfl rfl (fun _=>.int .i64 (((putG [⟨22,0,0⟩] (nodeG z (fixG ⟨12,0,0⟩ 1 0 (nodeG y t.g))))).code.length:Int)) (fun q=>(gown 68 56 54 sb K ⟨fixG ⟨11,0,0⟩ 1 0 ((putG [⟨22,0,0⟩] (nodeG z (fixG ⟨12,0,0⟩ 1 0 (nodeG y t.g))))),q.1,q.2⟩)) (fun _=>True) [] (by simp) (fun w hw=>(pfixed_any sb K (⟨(putG [⟨22,0,0⟩] (nodeG z (fixG ⟨12,0,0⟩ 1 0 (nodeG y t.g)))),q99.1,q99.2⟩:GsA)  (11) (0) (0) 1 0 w  (by show ((putG [⟨22,0,0⟩] (nodeG z (fixG ⟨12,0,0⟩ 1 0 (nodeG y t.g))))).code.length+1≤_; (try simp only [gsL9]); omega) (by show ((putG [⟨22,0,0⟩] (nodeG z (fixG ⟨12,0,0⟩ 1 0 (nodeG y t.g))))).fix.length+1≤_; (try simp only [gsL9]); omega) hw).mono fun e w' ⟨q,h1,h2⟩=>⟨q,h1,trivial,h2⟩) ?_
         intro q101 _
         refine V0 (Ya rfl) (Ln (Et (Cs (Cr (V0 (Ym rfl) (V0 (Ym rfl) (Lf 2 rfl (Lf 2 rfl ?_))))))))
         refine Lf 2 rfl ?_
         refine Lw (ι:=Unit) [_,_,_] _ (.inl rfl) rfl en68 rfl rfl (fun _=>.tuple #[]) (fun _=>(gown 68 56 54 sb K ⟨landG ((nodeG y t.g).code.length) ((fixG ⟨11,0,0⟩ 1 0 (putG [⟨22,0,0⟩] (nodeG z (fixG ⟨12,0,0⟩ 1 0 (nodeG y t.g)))))),(⟨(fixG ⟨11,0,0⟩ 1 0 (putG [⟨22,0,0⟩] (nodeG z (fixG ⟨12,0,0⟩ 1 0 (nodeG y t.g))))),q101.1,q101.2⟩:GsA).ca,(⟨(fixG ⟨11,0,0⟩ 1 0 (putG [⟨22,0,0⟩] (nodeG z (fixG ⟨12,0,0⟩ 1 0 (nodeG y t.g))))),q101.1,q101.2⟩:GsA).fa⟩)) (fun _=>True) [] (by simp) (fun w hw=>(phere_any sb K (⟨(fixG ⟨11,0,0⟩ 1 0 (putG [⟨22,0,0⟩] (nodeG z (fixG ⟨12,0,0⟩ 1 0 (nodeG y t.g))))),q101.1,q101.2⟩:GsA) ((nodeG y t.g).code.length) _ w (List.getElem?_eq_getElem (by show (nodeG y t.g).code.length<((fixG ⟨11,0,0⟩ 1 0 (putG [⟨22,0,0⟩] (nodeG z (fixG ⟨12,0,0⟩ 1 0 (nodeG y t.g)))))).code.length; (try simp only [gsL9]); omega)) hw).mono fun e w' h=>⟨(),h.1,trivial,h.2⟩) ?_
         intro _ _
         refine Ln (Et (Cs (Cr (V0 (Ym rfl) (Lf 2 rfl (Lf 2 rfl (Lf 2 rfl ?_)))))))
         refine Lw (ι:=SP×SP) [_,_,_] _ (.inl rfl) rfl en27 rfl rfl (fun _=>.int .i64 (((landG ((nodeG y t.g).code.length) (fixG ⟨11,0,0⟩ 1 0 (putG [⟨22,0,0⟩] (nodeG z (fixG ⟨12,0,0⟩ 1 0 (nodeG y t.g))))))).code.length:Int)) (fun q=>(gown 68 56 54 sb K ⟨putG [⟨1,0,0⟩] ((landG ((nodeG y t.g).code.length) (fixG ⟨11,0,0⟩ 1 0 (putG [⟨22,0,0⟩] (nodeG z (fixG ⟨12,0,0⟩ 1 0 (nodeG y t.g))))))),q.1,q.2⟩)) (fun _=>True) [] (by simp) (fun w hw=>(pput_any sb K (⟨(landG ((nodeG y t.g).code.length) (fixG ⟨11,0,0⟩ 1 0 (putG [⟨22,0,0⟩] (nodeG z (fixG ⟨12,0,0⟩ 1 0 (nodeG y t.g)))))),q101.1,q101.2⟩:GsA)  (1) (0) (0) w  (by show ((landG ((nodeG y t.g).code.length) (fixG ⟨11,0,0⟩ 1 0 (putG [⟨22,0,0⟩] (nodeG z (fixG ⟨12,0,0⟩ 1 0 (nodeG y t.g))))))).code.length+1≤_; (try simp only [gsL9]); omega) (by show ((landG ((nodeG y t.g).code.length) (fixG ⟨11,0,0⟩ 1 0 (putG [⟨22,0,0⟩] (nodeG z (fixG ⟨12,0,0⟩ 1 0 (nodeG y t.g))))))).fix.length+1≤_; (try simp only [gsL9]); omega) hw).mono fun e w' ⟨q,h1,h2⟩=>⟨q,h1,trivial,h2⟩) ?_
         intro q106 _
         refine Ln (Et (Cr (V0 (Ym rfl) (V0 (Ym rfl) (Lf 2 rfl (Lf 2 rfl (Lf 2 rfl ?_)))))))
         refine Lw (ι:=Unit) [_,_,_] _ (.inl rfl) rfl en68 rfl rfl (fun _=>.tuple #[]) (fun _=>(gown 68 56 54 sb K ⟨landG ((putG [⟨22,0,0⟩] (nodeG z (fixG ⟨12,0,0⟩ 1 0 (nodeG y t.g)))).code.length) ((putG [⟨1,0,0⟩] (landG ((nodeG y t.g).code.length) (fixG ⟨11,0,0⟩ 1 0 (putG [⟨22,0,0⟩] (nodeG z (fixG ⟨12,0,0⟩ 1 0 (nodeG y t.g)))))))),(⟨(putG [⟨1,0,0⟩] (landG ((nodeG y t.g).code.length) (fixG ⟨11,0,0⟩ 1 0 (putG [⟨22,0,0⟩] (nodeG z (fixG ⟨12,0,0⟩ 1 0 (nodeG y t.g))))))),q106.1,q106.2⟩:GsA).ca,(⟨(putG [⟨1,0,0⟩] (landG ((nodeG y t.g).code.length) (fixG ⟨11,0,0⟩ 1 0 (putG [⟨22,0,0⟩] (nodeG z (fixG ⟨12,0,0⟩ 1 0 (nodeG y t.g))))))),q106.1,q106.2⟩:GsA).fa⟩)) (fun _=>True) [] (by simp) (fun w hw=>(phere_any sb K (⟨(putG [⟨1,0,0⟩] (landG ((nodeG y t.g).code.length) (fixG ⟨11,0,0⟩ 1 0 (putG [⟨22,0,0⟩] (nodeG z (fixG ⟨12,0,0⟩ 1 0 (nodeG y t.g))))))),q106.1,q106.2⟩:GsA) ((putG [⟨22,0,0⟩] (nodeG z (fixG ⟨12,0,0⟩ 1 0 (nodeG y t.g)))).code.length) _ w (List.getElem?_eq_getElem (by show (putG [⟨22,0,0⟩] (nodeG z (fixG ⟨12,0,0⟩ 1 0 (nodeG y t.g)))).code.length<((putG [⟨1,0,0⟩] (landG ((nodeG y t.g).code.length) (fixG ⟨11,0,0⟩ 1 0 (putG [⟨22,0,0⟩] (nodeG z (fixG ⟨12,0,0⟩ 1 0 (nodeG y t.g)))))))).code.length; (try simp only [gsL9]); omega)) hw).mono fun e w' h=>⟨(),h.1,trivial,h.2⟩) ?_
         intro _ _
         refine Ln (Eb ?_)
         refine WE.end0 rfl fun w' hw=>?_
         have hr:nodeG x t.g=(landG ((putG [⟨22,0,0⟩] (nodeG z (fixG ⟨12,0,0⟩ 1 0 (nodeG y t.g)))).code.length) (putG [⟨1,0,0⟩] (landG ((nodeG y t.g).code.length) (fixG ⟨11,0,0⟩ 1 0 (putG [⟨22,0,0⟩] (nodeG z (fixG ⟨12,0,0⟩ 1 0 (nodeG y t.g)))))))):=by
           rw [nodeG_eq,nodeGo,if_neg (show ¬x.op=1 by omega),if_neg (show ¬x.op=2 by omega),if_neg (show ¬x.op=16 by omega),if_neg (show ¬x.op=3 by omega),if_neg (show ¬x.op=4 by omega),if_neg (show ¬x.op=5 by omega),if_pos ho]
           unfold andG
           rw [kidG_at hyi,kidG_at hzi]
         rw [hr]
         exact ⟨(q106),rfl,Ws.keep (L:=[_,_,_]) hw⟩
        ·
         have hn7:¬x.op=7:=by simpa using hc7
         refine Cs (Cr (V0 (yl_eq rfl rfl) (V0 (Ya rfl) (Ln (Et ?_)))))
         refine Cc rfl (fun hc8=>?_) (fun hc8=>?_)
         ·
          have ho:x.op=8:=by simpa using hc8
          refine Cs ?_
          have hl2:=hok.args.2.2.1 (by omega)
          obtain ⟨y,hyi⟩:∃y,x.args[0]? = some y:=⟨_,List.getElem?_eq_getElem (by omega)⟩
          obtain ⟨pby,poy,hay,hry⟩:=hl.elt 0 y hyi
          obtain ⟨z,hzi⟩:∃y,x.args[1]? = some y:=⟨_,List.getElem?_eq_getElem (by omega)⟩
          obtain ⟨pbz,poz,haz,hrz⟩:=hl.elt 1 z hzi
          obtain ⟨k2,rfl⟩:∃k2,k=k2+1:=by
            cases k with
            | zero=>exact hry.elim
            | succ k2=>exact ⟨k2,rfl⟩
          obtain ⟨ya,yc,hrowy,hsuby⟩:=hry
          have hN2:=hN k2 (by omega)
          have hoy:=hok.args.1.at_ hyi
          have hgl:=nodeG_len y t.g
          have hh1:=hgl.hi
          have hh2:=hgl.fhi
          have hh3:=hgl.lo
          obtain ⟨za,zc,hrowz,hsubz⟩:=hrz
          have hoz:=hok.args.1.at_ hzi
          have hw2:=wNd_two hyi hzi
          have hgz:=nodeG_len z (fixG ⟨12,0,0⟩ 1 0 (nodeG y t.g))
          have hz1:=hgz.hi
          have hz2:=hgz.fhi
          have hz3:=hgz.lo
          have hgz2:=nodeG_len z (landG ((nodeG y t.g).code.length) (fixG ⟨11,0,0⟩ 1 0 (putG [⟨1,1,0⟩] (fixG ⟨12,0,0⟩ 1 0 (nodeG y t.g)))))
          have hz4:=hgz2.hi
          have hz5:=hgz2.fhi
          have hz6:=hgz2.lo
          simp only [gsL9] at hz1 hz2 hz3 hz4 hz5 hz6
          refine Cr (V0 (Ym rfl) (V0 (Yf fo138_4 rfl) (V0 (Yd 0 rfl rfl rfl na102) ?_)))
          refine V0 (Yo (i:=0) es102 rfl rfl hay (by omega)) ?_
          refine V0 (yl_lda 0 ag138 rfl rfl rfl (hrowy)) (Lf 3 rfl (Lf 3 rfl (Lf 3 rfl ?_)))
          refine Lw (ι:=SP×SP) [_,_,_] _ (.inl rfl) rfl en65 rfl rfl (fun _=>.tuple #[]) (fun q=>(gown 68 56 54 sb K ⟨nodeG y (t.g),q.1,q.2⟩)) (fun _=>True) [H] (by simp) (fun w hw=>(hN2 y ya yc t w hsuby hoy (by show (t.g).code.length+8*wNd y≤_; (try simp only [gsL9]); omega) (by show (t.g).fix.length+8*wNd y≤_; (try simp only [gsL9]); omega) hw).mono fun e w' ⟨q,h1,h2⟩=>⟨q,h1,trivial,h2⟩) ?_
          intro q117 _
          refine Ln (Et (Cs (Cr (V0 (Ym rfl) (Lf 2 rfl (Lf 2 rfl (Lf 2 rfl ?_)))))))
          refine Lw (ι:=SP×SP) [_,_,_] _ (.inl rfl) rfl en66 rfl rfl (fun _=>.int .i64 (((nodeG y t.g)).code.length:Int)) (fun q=>(gown 68 56 54 sb K ⟨fixG ⟨12,0,0⟩ 1 0 ((nodeG y t.g)),q.1,q.2⟩)) (fun _=>True) [] (by simp) (fun w hw=>(pfixed_any sb K (⟨(nodeG y t.g),q117.1,q117.2⟩:GsA)  (12) (0) (0) 1 0 w  (by show ((nodeG y t.g)).code.length+1≤_; (try simp only [gsL9]); omega) (by show ((nodeG y t.g)).fix.length+1≤_; (try simp only [gsL9]); omega) hw).mono fun e w' ⟨q,h1,h2⟩=>⟨q,h1,trivial,h2⟩) ?_
          intro q119 _
          refine V0 (Ya rfl) (Ln (Et (Cs (Cr (V0 (Ym rfl) (Lf 2 rfl (Lf 2 rfl (Lf 2 rfl ?_))))))))
          refine Lw (ι:=SP×SP) [_,_,_] _ (.inl rfl) rfl en27 rfl rfl (fun _=>.int .i64 (((fixG ⟨12,0,0⟩ 1 0 (nodeG y t.g))).code.length:Int)) (fun q=>(gown 68 56 54 sb K ⟨putG [⟨1,1,0⟩] ((fixG ⟨12,0,0⟩ 1 0 (nodeG y t.g))),q.1,q.2⟩)) (fun _=>True) [] (by simp) (fun w hw=>(pput_any sb K (⟨(fixG ⟨12,0,0⟩ 1 0 (nodeG y t.g)),q119.1,q119.2⟩:GsA)  (1) (1) (0) w  (by show ((fixG ⟨12,0,0⟩ 1 0 (nodeG y t.g))).code.length+1≤_; (try simp only [gsL9]); omega) (by show ((fixG ⟨12,0,0⟩ 1 0 (nodeG y t.g))).fix.length+1≤_; (try simp only [gsL9]); omega) hw).mono fun e w' ⟨q,h1,h2⟩=>⟨q,h1,trivial,h2⟩) ?_
          intro q121 _
          refine Ln (Et (Cs (Cr (V0 (Ym rfl) (Lf 2 rfl (Lf 2 rfl (Lf 2 rfl ?_)))))))
          refine Lw (ι:=SP×SP) [_,_,_] _ (.inl rfl) rfl en66 rfl rfl (fun _=>.int .i64 (((putG [⟨1,1,0⟩] (fixG ⟨12,0,0⟩ 1 0 (nodeG y t.g)))).code.length:Int)) (fun q=>(gown 68 56 54 sb K ⟨fixG ⟨11,0,0⟩ 1 0 ((putG [⟨1,1,0⟩] (fixG ⟨12,0,0⟩ 1 0 (nodeG y t.g)))),q.1,q.2⟩)) (fun _=>True) [] (by simp) (fun w hw=>(pfixed_any sb K (⟨(putG [⟨1,1,0⟩] (fixG ⟨12,0,0⟩ 1 0 (nodeG y t.g))),q121.1,q121.2⟩:GsA)  (11) (0) (0) 1 0 w  (by show ((putG [⟨1,1,0⟩] (fixG ⟨12,0,0⟩ 1 0 (nodeG y t.g)))).code.length+1≤_; (try simp only [gsL9]); omega) (by show ((putG [⟨1,1,0⟩] (fixG ⟨12,0,0⟩ 1 0 (nodeG y t.g)))).fix.length+1≤_; (try simp only [gsL9]); omega) hw).mono fun e w' ⟨q,h1,h2⟩=>⟨q,h1,trivial,h2⟩) ?_
          intro q123 _
          refine V0 (Ya rfl) (Ln (Et (Cs (Cr (V0 (Ym rfl) (V0 (Ym rfl) (Lf 2 rfl (Lf 2 rfl ?_))))))))
          refine Lf 2 rfl ?_
          refine Lw (ι:=Unit) [_,_,_] _ (.inl rfl) rfl en68 rfl rfl (fun _=>.tuple #[]) (fun _=>(gown 68 56 54 sb K ⟨landG ((nodeG y t.g).code.length) ((fixG ⟨11,0,0⟩ 1 0 (putG [⟨1,1,0⟩] (fixG ⟨12,0,0⟩ 1 0 (nodeG y t.g))))),(⟨(fixG ⟨11,0,0⟩ 1 0 (putG [⟨1,1,0⟩] (fixG ⟨12,0,0⟩ 1 0 (nodeG y t.g)))),q123.1,q123.2⟩:GsA).ca,(⟨(fixG ⟨11,0,0⟩ 1 0 (putG [⟨1,1,0⟩] (fixG ⟨12,0,0⟩ 1 0 (nodeG y t.g)))),q123.1,q123.2⟩:GsA).fa⟩)) (fun _=>True) [] (by simp) (fun w hw=>(phere_any sb K (⟨(fixG ⟨11,0,0⟩ 1 0 (putG [⟨1,1,0⟩] (fixG ⟨12,0,0⟩ 1 0 (nodeG y t.g)))),q123.1,q123.2⟩:GsA) ((nodeG y t.g).code.length) _ w (List.getElem?_eq_getElem (by show (nodeG y t.g).code.length<((fixG ⟨11,0,0⟩ 1 0 (putG [⟨1,1,0⟩] (fixG ⟨12,0,0⟩ 1 0 (nodeG y t.g))))).code.length; (try simp only [gsL9]); omega)) hw).mono fun e w' h=>⟨(),h.1,trivial,h.2⟩) ?_
          intro _ _
          refine Ln (Et (Cs (Cr (V0 (Ym rfl) (V0 (Yf fo138_4 rfl) (V0 (Yd 3 rfl rfl rfl na102) ?_))))))
          refine V0 (Yo (i:=1) es102 rfl rfl haz (by omega)) ?_
          refine V0 (yl_lda 0 ag138 rfl rfl rfl (hrowz)) (Lf 2 rfl (Lf 2 rfl (Lf 2 rfl ?_)))
          refine Lw (ι:=SP×SP) [_,_,_] _ (.inl rfl) rfl en65 rfl rfl (fun _=>.tuple #[]) (fun q=>(gown 68 56 54 sb K ⟨nodeG z ((landG ((nodeG y t.g).code.length) (fixG ⟨11,0,0⟩ 1 0 (putG [⟨1,1,0⟩] (fixG ⟨12,0,0⟩ 1 0 (nodeG y t.g)))))),q.1,q.2⟩)) (fun _=>True) [H] (by simp) (fun w hw=>(hN2 z za zc (⟨(landG ((nodeG y t.g).code.length) (fixG ⟨11,0,0⟩ 1 0 (putG [⟨1,1,0⟩] (fixG ⟨12,0,0⟩ 1 0 (nodeG y t.g))))),q123.1,q123.2⟩:GsA) w hsubz hoz (by show ((landG ((nodeG y t.g).code.length) (fixG ⟨11,0,0⟩ 1 0 (putG [⟨1,1,0⟩] (fixG ⟨12,0,0⟩ 1 0 (nodeG y t.g)))))).code.length+8*wNd z≤_; (try simp only [gsL9]); omega) (by show ((landG ((nodeG y t.g).code.length) (fixG ⟨11,0,0⟩ 1 0 (putG [⟨1,1,0⟩] (fixG ⟨12,0,0⟩ 1 0 (nodeG y t.g)))))).fix.length+8*wNd z≤_; (try simp only [gsL9]); omega) hw).mono fun e w' ⟨q,h1,h2⟩=>⟨q,h1,trivial,h2⟩) ?_
          intro q132 _
          refine Ln (Et (Cs (Cr (V0 (Ym rfl) (Lf 2 rfl (Lf 2 rfl (Lf 2 rfl ?_)))))))
          refine Lw (ι:=SP×SP) [_,_,_] _ (.inl rfl) rfl en27 rfl rfl (fun _=>.int .i64 (((nodeG z (landG ((nodeG y t.g).code.length) (fixG ⟨11,0,0⟩ 1 0 (putG [⟨1,1,0⟩] (fixG ⟨12,0,0⟩ 1 0 (nodeG y t.g))))))).code.length:Int)) (fun q=>(gown 68 56 54 sb K ⟨putG [⟨22,0,0⟩] ((nodeG z (landG ((nodeG y t.g).code.length) (fixG ⟨11,0,0⟩ 1 0 (putG [⟨1,1,0⟩] (fixG ⟨12,0,0⟩ 1 0 (nodeG y t.g))))))),q.1,q.2⟩)) (fun _=>True) [] (by simp) (fun w hw=>(pput_any sb K (⟨(nodeG z (landG ((nodeG y t.g).code.length) (fixG ⟨11,0,0⟩ 1 0 (putG [⟨1,1,0⟩] (fixG ⟨12,0,0⟩ 1 0 (nodeG y t.g)))))),q132.1,q132.2⟩:GsA)  (22) (0) (0) w  (by show ((nodeG z (landG ((nodeG y t.g).code.length) (fixG ⟨11,0,0⟩ 1 0 (putG [⟨1,1,0⟩] (fixG ⟨12,0,0⟩ 1 0 (nodeG y t.g))))))).code.length+1≤_; (try simp only [gsL9]); omega) (by show ((nodeG z (landG ((nodeG y t.g).code.length) (fixG ⟨11,0,0⟩ 1 0 (putG [⟨1,1,0⟩] (fixG ⟨12,0,0⟩ 1 0 (nodeG y t.g))))))).fix.length+1≤_; (try simp only [gsL9]); omega) hw).mono fun e w' ⟨q,h1,h2⟩=>⟨q,h1,trivial,h2⟩) ?_
          intro q134 _
          refine Ln (Et (Cr (V0 (Ym rfl) (V0 (Ym rfl) (Lf 2 rfl (Lf 2 rfl (Lf 2 rfl ?_)))))))
          refine Lw (ι:=Unit) [_,_,_] _ (.inl rfl) rfl en68 rfl rfl (fun _=>.tuple #[]) (fun _=>(gown 68 56 54 sb K ⟨landG ((putG [⟨1,1,0⟩] (fixG ⟨12,0,0⟩ 1 0 (nodeG y t.g))).code.length) ((putG [⟨22,0,0⟩] (nodeG z (landG ((nodeG y t.g).code.length) (fixG ⟨11,0,0⟩ 1 0 (putG [⟨1,1,0⟩] (fixG ⟨12,0,0⟩ 1 0 (nodeG y t.g)))))))),(⟨(putG [⟨22,0,0⟩] (nodeG z (landG ((nodeG y t.g).code.length) (fixG ⟨11,0,0⟩ 1 0 (putG [⟨1,1,0⟩] (fixG ⟨12,0,0⟩ 1 0 (nodeG y t.g))))))),q134.1,q134.2⟩:GsA).ca,(⟨(putG [⟨22,0,0⟩] (nodeG z (landG ((nodeG y t.g).code.length) (fixG ⟨11,0,0⟩ 1 0 (putG [⟨1,1,0⟩] (fixG ⟨12,0,0⟩ 1 0 (nodeG y t.g))))))),q134.1,q134.2⟩:GsA).fa⟩)) (fun _=>True) [] (by simp) (fun w hw=>(phere_any sb K (⟨(putG [⟨22,0,0⟩] (nodeG z (landG ((nodeG y t.g).code.length) (fixG ⟨11,0,0⟩ 1 0 (putG [⟨1,1,0⟩] (fixG ⟨12,0,0⟩ 1 0 (nodeG y t.g))))))),q134.1,q134.2⟩:GsA) ((putG [⟨1,1,0⟩] (fixG ⟨12,0,0⟩ 1 0 (nodeG y t.g))).code.length) _ w (List.getElem?_eq_getElem (by show (putG [⟨1,1,0⟩] (fixG ⟨12,0,0⟩ 1 0 (nodeG y t.g))).code.length<((putG [⟨22,0,0⟩] (nodeG z (landG ((nodeG y t.g).code.length) (fixG ⟨11,0,0⟩ 1 0 (putG [⟨1,1,0⟩] (fixG ⟨12,0,0⟩ 1 0 (nodeG y t.g)))))))).code.length; (try simp only [gsL9]); omega)) hw).mono fun e w' h=>⟨(),h.1,trivial,h.2⟩) ?_
          intro _ _
          refine Ln (Eb ?_)
          refine WE.end0 rfl fun w' hw=>?_
          have hr:nodeG x t.g=(landG ((putG [⟨1,1,0⟩] (fixG ⟨12,0,0⟩ 1 0 (nodeG y t.g))).code.length) (putG [⟨22,0,0⟩] (nodeG z (landG ((nodeG y t.g).code.length) (fixG ⟨11,0,0⟩ 1 0 (putG [⟨1,1,0⟩] (fixG ⟨12,0,0⟩ 1 0 (nodeG y t.g)))))))):=by
            rw [nodeG_eq,nodeGo,if_neg (show ¬x.op=1 by omega),if_neg (show ¬x.op=2 by omega),if_neg (show ¬x.op=16 by omega),if_neg (show ¬x.op=3 by omega),if_neg (show ¬x.op=4 by omega),if_neg (show ¬x.op=5 by omega),if_neg (show ¬x.op=7 by omega),if_pos ho]
            unfold orG
            rw [kidG_at hyi,kidG_at hzi]
          rw [hr]
          exact ⟨(q134),rfl,Ws.keep (L:=[_,_,_]) hw⟩
         ·
          have hn8:¬x.op=8:=by simpa using hc8
          refine Cs ?_
          have hgl:=nodesG_len x.args t.g
          have hh1:=hgl.hi
          have hh2:=hgl.fhi
          refine Cr (V0 (Ym rfl) (V0 (Yf fo138_4 rfl) (V0 (Yd 0 rfl rfl rfl na102) (Lf 3 rfl (Lf 3 rfl ?_)))))
          refine Lf 3 rfl ?_
          refine Lw (ι:=SP×SP) [_,_,_] _ (.inl rfl) rfl en67 rfl rfl (fun _=>.tuple #[]) (fun q=>(gown 68 56 54 sb K ⟨nodesG x.args t.g,q.1,q.2⟩)) (fun _=>True) [H] (by simp) (fun w hw=>(pnodes_any sb K t H k x.args a c w hN hl hok.args.1 (by show (t.g).code.length+8*wNds x.args≤_; (try simp only [gsL9]); omega) (by show (t.g).fix.length+8*wNds x.args≤_; (try simp only [gsL9]); omega) hw).mono fun e w' ⟨q,h1,h2⟩=>⟨q,h1,trivial,h2⟩) ?_
          intro q13 _
          refine Ln (Et (Cr (V0 (Ym rfl) (V0 (Yf fo138_0 rfl) (V0 (Yd 3 rfl rfl rfl na3) (Lf 2 rfl (Lf 2 rfl ?_)))))))
          refine Lf 2 rfl ?_
          refine Lw (ι:=SP×SP) [_,_,_] _ (.inl rfl) rfl en27 rfl rfl (fun _=>.int .i64 (((nodesG x.args t.g)).code.length:Int)) (fun q=>(gown 68 56 54 sb K ⟨putG [⟨10,x.op,0⟩] ((nodesG x.args t.g)),q.1,q.2⟩)) (fun _=>True) [] (by simp) (fun w hw=>(pput_any sb K (⟨(nodesG x.args t.g),q13.1,q13.2⟩:GsA)  (10) (x.op) (0) w  (by show ((nodesG x.args t.g)).code.length+1≤_; (try simp only [gsL9]); omega) (by show ((nodesG x.args t.g)).fix.length+1≤_; (try simp only [gsL9]); omega) hw).mono fun e w' ⟨q,h1,h2⟩=>⟨q,h1,trivial,h2⟩) ?_
          intro q17 _
          refine Ln (Eb ?_)
          refine WE.end0 rfl fun w' hw=>?_
          have hr:nodeG x t.g=putG [⟨10,x.op,0⟩] (nodesG x.args t.g):=by
            rw [nodeG_eq,nodeGo,if_neg (show ¬x.op=1 by omega),if_neg (show ¬x.op=2 by omega),if_neg (show ¬x.op=16 by omega),if_neg (show ¬x.op=3 by omega),if_neg (show ¬x.op=4 by omega),if_neg (show ¬x.op=5 by omega),if_neg (show ¬x.op=7 by omega),if_neg (show ¬x.op=8 by omega),if_neg (show ¬x.op=6 by omega)]
            rw [allG_nodes]
          rw [hr]
          exact ⟨(q17),rfl,Ws.keep (L:=[_,_,_]) hw⟩
end Go.Proofs.YtpjekjnehiinnaaGreatDoor
end
section
namespace Go.Proofs.YtpjekjnehiinnaaGreatDoor
open Go.Bw
set_option linter.unusedVariables false
set_option linter.unusedSimpArgs false
def PActs (H:View) (sb:Nat) (K:ObjK) (ke k:Nat):Prop:=∀(l:List TAct) (a:Option Addr) (c:Nat) (t:GsA) (w:World),Sl (RdA ke k) 7 H a c l→ActsOk l→t.g.code.length+8*wAcs l≤1000000000000→t.g.fix.length+8*wAcs l≤1000000000000→
 Ws w (List.flatMap Asr.ids (gown 68 56 54 sb K t)) (gown 68 56 54 sb K t) [H] w→Calls Tryz.prog 28 #[.pointer (some ⟨sb,0,none⟩),.slice a l.length c] w fun e w'=>∃q:SP×SP,e = .returned (.tuple #[])∧Ws w (List.flatMap Asr.ids (gown 68 56 54 sb K t)) (gown 68 56 54 sb K ⟨actsG l t.g,q.1,q.2⟩) [H] w'
theorem act_set {x:TAct} (h:ActOk x) (ho:x.op=1):x.m = -1∨0≤x.m:=by
 obtain ⟨kn,locs,d,h⟩:=h
 rw [actK_eq] at h
 obtain ⟨h1,_⟩:=Bool.and_eq_true_iff.1 h
 rw [ho] at h1
 unfold act1 at h1
 rw [if_pos rfl] at h1
 obtain ⟨_,h2⟩:=Bool.and_eq_true_iff.1 h1
 rcases Bool.or_eq_true_iff.1 h2 with h3 | h3
 · left; simp at h3; exact h3.1
 · right
   cases hd:dataC kn x.m x.pl with
   | true=>rw [dataB_no 1 hd] at h3; cases h3
   | false=>obtain ⟨⟨mi,e,_⟩,_⟩:=dataC_in hd; omega
theorem en28:Enters Tryz.prog 28:=enters_of Tryz.func28 (by kernel_rfl) rfl
theorem en47:Enters Tryz.prog 47:=enters_of Tryz.func47 (by kernel_rfl) rfl
theorem pact_any (sb:Nat) (K:ObjK) (t:GsA) (H:View) (ke k:Nat) (x:TAct) (r:AAt) (w:World) (hA:PActs H sb K ke k) (h1:Sl (RdN ke) 5 H r.s1.1 r.s1.2 x.args) (h2:Sl (RdA ke k) 7 H r.s2.1 r.s2.2 x.body) (h3:Sl (RdA ke k) 7 H r.s3.1 r.s3.2 x.other) (hok:ActOk x) (hb:t.g.code.length+8*wAc x≤1000000000000) (hfb:t.g.fix.length+8*wAc x≤1000000000000) (hw:Ws w (List.flatMap Asr.ids (gown 68 56 54 sb K t)) (gown 68 56 54 sb K t) [H] w) :
   Calls Tryz.prog 47 #[.pointer (some ⟨sb,0,none⟩),.agg (actV x r).toArray] w fun e w'=>∃q:SP×SP,e = .returned (.tuple #[])∧Ws w (List.flatMap Asr.ids (gown 68 56 54 sb K t)) (gown 68 56 54 sb K ⟨actG x t.g,q.1,q.2⟩) [H] w':=by
 have hN:∀k2,PNode H sb K k2:=fun k2 x a c t w h1 h2 h3 h4 h5=>pnode_any sb K t H k2 x a c w h1 h2 h3 h4 h5
 have hcap:=h1.cap
 have hmax:=h1.max
 have hcap3:=h3.cap
 have hmax3:=h3.max
 have hwe:=wAc_eq x
 refine enter Tryz.func47 rfl 148 rfl rfl ?_
 refine CWd (W':=Ws w (List.flatMap Asr.ids (gown 68 56 54 sb K t)) (gown 68 56 54 sb K t) [H]) (fun _ e=>by subst e; exact hw) ?_
 refine Cs (Cr ?_)
 refine WL.box (.inl rfl) rfl rfl fun b3=>?_
 refine Ln (Et (Cs (Cr (V0 (Yf fo104_0 rfl) (V0 (Yd 0 rfl rfl rfl na3) (Ln (Et (Cb (Cs (Cr (V0 (yl_eq rfl rfl) (V0 (Ya rfl) ?_))))))))))))
 refine Ln (Et ?_)
 refine Cc rfl (fun hc0=>?_) (fun hc0=>?_)
 ·
  have ho:x.op=1:=by simpa using hc0
  refine Cs ?_
  have hl1:=hok.parts.2.2.2.1 (by omega)
  obtain ⟨y,hyi⟩:∃y,x.args[0]? = some y:=⟨_,List.getElem?_eq_getElem (by omega)⟩
  obtain ⟨pby,poy,hay,hry⟩:=h1.elt 0 y hyi
  obtain ⟨k2,rfl⟩:∃k2,ke=k2+1:=by
    cases ke with
    | zero=>exact hry.elim
    | succ k2=>exact ⟨k2,rfl⟩
  obtain ⟨ya,yc,hrowy,hsuby⟩:=hry
  have hN2:=hN k2
  have hoy:=hok.parts.1.at_ hyi
  have hw1:=wNd_one hyi
  have hgl:=nodeG_len y t.g
  have hh1:=hgl.hi
  have hh2:=hgl.fhi
  have hh3:=hgl.lo
  refine Cr (V0 (Ym rfl) (V0 (Yf fo104_4 rfl) (V0 (Yd 0 rfl rfl rfl na102) ?_)))
  refine V0 (Yo (i:=0) es102 rfl rfl hay (by omega)) ?_
  refine V0 (yl_lda 0 ag138 rfl rfl rfl (hrowy)) (Lf 3 rfl (Lf 3 rfl (Lf 3 rfl ?_)))
  refine Lw (ι:=SP×SP) [_,_,_] _ (.inl rfl) rfl en65 rfl rfl (fun _=>.tuple #[]) (fun q=>(gown 68 56 54 sb K ⟨nodeG y (t.g),q.1,q.2⟩)) (fun _=>True) [H] (by simp) (fun w hw=>(hN2 y ya yc t w hsuby hoy (by show (t.g).code.length+8*wNd y≤_; (try simp only [gsL9]); omega) (by show (t.g).fix.length+8*wNd y≤_; (try simp only [gsL9]); omega) hw).mono fun e w' ⟨q,h1,h2⟩=>⟨q,h1,trivial,h2⟩) ?_
  intro q17 _
  refine Ln (Et (Cs (Cr (V0 (Yf fo104_2 rfl) (V0 (Yd 3 rfl rfl rfl na3) (V0 (yl_eq rfl rfl) (Ln (Et ?_))))))))
  refine Cc rfl (fun hc1=>?_) (fun hc1=>?_)
  ·
   have hm:x.m<0:=by simp at hc1; omega
   refine Cr (V0 (Ym rfl) (V0 (Yf fo104_3 rfl) (V0 (Yd 3 rfl rfl rfl na3) (Lf 2 rfl (Lf 2 rfl ?_)))))
   refine Lf 2 rfl ?_
   refine Lw (ι:=SP×SP) [_,_,_] _ (.inl rfl) rfl en27 rfl rfl (fun _=>.int .i64 (((nodeG y t.g)).code.length:Int)) (fun q=>(gown 68 56 54 sb K ⟨putG [⟨3,x.pl,0⟩] ((nodeG y t.g)),q.1,q.2⟩)) (fun _=>True) [] (by simp) (fun w hw=>(pput_any sb K (⟨(nodeG y t.g),q17.1,q17.2⟩:GsA)  (3) (x.pl) (0) w  (by show ((nodeG y t.g)).code.length+1≤_; (try simp only [gsL9]); omega) (by show ((nodeG y t.g)).fix.length+1≤_; (try simp only [gsL9]); omega) hw).mono fun e w' ⟨q,h1,h2⟩=>⟨q,h1,trivial,h2⟩) ?_
   intro q24 _
   refine Ln (Eb ?_)
   refine WE.end0 rfl fun w' hw=>?_
   have hr:actG x t.g=putG [⟨3,x.pl,0⟩] (nodeG y t.g):=by
     rw [actG_eq,actGo,if_pos ho,if_pos hm,kidG_at hyi]
   rw [hr]
   exact ⟨q24,rfl,Ws.keep (L:=[_,_,_]) hw⟩
  ·
   have hm:¬x.m<0:=by
     have h9:=act_set hok ho
     simp at hc1
     omega
   refine Cr (V0 (Ym rfl) (V0 (Yf fo104_3 rfl) (V0 (Yd 3 rfl rfl rfl na3) (V0 (Yf fo104_2 rfl) (V0 (Yd 3 rfl rfl rfl na3) ?_)))))
   refine Lf 2 rfl (Lf 2 rfl (Lf 2 rfl ?_))
   refine Lw (ι:=SP×SP) [_,_,_] _ (.inl rfl) rfl en66 rfl rfl (fun _=>.int .i64 (((nodeG y t.g)).code.length:Int)) (fun q=>(gown 68 56 54 sb K ⟨fixG ⟨5,x.pl,0⟩ 3 x.m ((nodeG y t.g)),q.1,q.2⟩)) (fun _=>True) [] (by simp) (fun w hw=>(pfixed_any sb K (⟨(nodeG y t.g),q17.1,q17.2⟩:GsA)  (5) (x.pl) (0) 3 x.m w  (by show ((nodeG y t.g)).code.length+1≤_; (try simp only [gsL9]); omega) (by show ((nodeG y t.g)).fix.length+1≤_; (try simp only [gsL9]); omega) hw).mono fun e w' ⟨q,h1,h2⟩=>⟨q,h1,trivial,h2⟩) ?_
   intro q30 _
   refine Ln (Eb ?_)
   refine WE.end0 rfl fun w' hw=>?_
   have hr:actG x t.g=fixG ⟨5,x.pl,0⟩ 3 x.m (nodeG y t.g):=by
     rw [actG_eq,actGo,if_pos ho,if_neg hm,kidG_at hyi]
   rw [hr]
   exact ⟨q30,rfl,Ws.keep (L:=[_,_,_]) hw⟩
 ·
  have hn1:¬x.op=1:=by simpa using hc0
  refine Cs (Cr (V0 (yl_eq rfl rfl) (V0 (Ya rfl) (Ln (Et ?_)))))
  refine Cc rfl (fun hc2=>?_) (fun hc2=>?_)
  ·
   have ho:x.op=2:=by simpa using hc2
   refine Cs ?_
   have hl2:=hok.parts.2.2.2.2.1 (by omega)
   obtain ⟨y,hyi⟩:∃y,x.args[0]? = some y:=⟨_,List.getElem?_eq_getElem (by omega)⟩
   obtain ⟨pby,poy,hay,hry⟩:=h1.elt 0 y hyi
   obtain ⟨z,hzi⟩:∃y,x.args[1]? = some y:=⟨_,List.getElem?_eq_getElem (by omega)⟩
   obtain ⟨pbz,poz,haz,hrz⟩:=h1.elt 1 z hzi
   obtain ⟨k2,rfl⟩:∃k2,ke=k2+1:=by
     cases ke with
     | zero=>exact hry.elim
     | succ k2=>exact ⟨k2,rfl⟩
   obtain ⟨ya,yc,hrowy,hsuby⟩:=hry
   have hN2:=hN k2
   have hoy:=hok.parts.1.at_ hyi
   have hw1:=wNd_one hyi
   have hgl:=nodeG_len y t.g
   have hh1:=hgl.hi
   have hh2:=hgl.fhi
   have hh3:=hgl.lo
   obtain ⟨za,zc,hrowz,hsubz⟩:=hrz
   have hoz:=hok.parts.1.at_ hzi
   have hw2:=wNd_two hyi hzi
   have hgz:=nodeG_len z (fixG ⟨6,x.pl,x.n⟩ 3 x.m (nodeG y t.g))
   have hz1:=hgz.hi
   have hz2:=hgz.fhi
   have hz3:=hgz.lo
   try simp only [gsL9] at hz1 hz2 hz3
   refine Cr (V0 (Ym rfl) (V0 (Yf fo104_4 rfl) (V0 (Yd 0 rfl rfl rfl na102) ?_)))
   refine V0 (Yo (i:=0) es102 rfl rfl hay (by omega)) ?_
   refine V0 (yl_lda 0 ag138 rfl rfl rfl (hrowy)) (Lf 3 rfl (Lf 3 rfl (Lf 3 rfl ?_)))
   refine Lw (ι:=SP×SP) [_,_,_] _ (.inl rfl) rfl en65 rfl rfl (fun _=>.tuple #[]) (fun q=>(gown 68 56 54 sb K ⟨nodeG y (t.g),q.1,q.2⟩)) (fun _=>True) [H] (by simp) (fun w hw=>(hN2 y ya yc t w hsuby hoy (by show (t.g).code.length+8*wNd y≤_; (try simp only [gsL9]); omega) (by show (t.g).fix.length+8*wNd y≤_; (try simp only [gsL9]); omega) hw).mono fun e w' ⟨q,h1,h2⟩=>⟨q,h1,trivial,h2⟩) ?_
   intro q38 _
   refine Ln (Et (Cs (Cr (V0 (Ym rfl) (V0 (Yf fo104_3 rfl) (V0 (Yd 3 rfl rfl rfl na3) (V0 (Yf fo104_1 rfl) (V0 (Yd 3 rfl rfl rfl na3) ?_))))))))
   refine V0 (Yf fo104_2 rfl) (V0 (Yd 3 rfl rfl rfl na3) (Lf 2 rfl (Lf 2 rfl (Lf 2 rfl ?_))))
   refine Lw (ι:=SP×SP) [_,_,_] _ (.inl rfl) rfl en66 rfl rfl (fun _=>.int .i64 (((nodeG y t.g)).code.length:Int)) (fun q=>(gown 68 56 54 sb K ⟨fixG ⟨6,x.pl,x.n⟩ 3 x.m ((nodeG y t.g)),q.1,q.2⟩)) (fun _=>True) [] (by simp) (fun w hw=>(pfixed_any sb K (⟨(nodeG y t.g),q38.1,q38.2⟩:GsA)  (6) (x.pl) (x.n) 3 x.m w  (by show ((nodeG y t.g)).code.length+1≤_; (try simp only [gsL9]); omega) (by show ((nodeG y t.g)).fix.length+1≤_; (try simp only [gsL9]); omega) hw).mono fun e w' ⟨q,h1,h2⟩=>⟨q,h1,trivial,h2⟩) ?_
   intro q46 _
   refine Ln (Et (Cs (Cr (V0 (Ym rfl) (V0 (Yf fo104_4 rfl) (V0 (Yd 3 rfl rfl rfl na102) ?_))))))
   refine V0 (Yo (i:=1) es102 rfl rfl haz (by omega)) ?_
   refine V0 (yl_lda 0 ag138 rfl rfl rfl (hrowz)) (Lf 2 rfl (Lf 2 rfl (Lf 2 rfl ?_)))
   refine Lw (ι:=SP×SP) [_,_,_] _ (.inl rfl) rfl en65 rfl rfl (fun _=>.tuple #[]) (fun q=>(gown 68 56 54 sb K ⟨nodeG z ((fixG ⟨6,x.pl,x.n⟩ 3 x.m (nodeG y t.g))),q.1,q.2⟩)) (fun _=>True) [H] (by simp) (fun w hw=>(hN2 z za zc (⟨(fixG ⟨6,x.pl,x.n⟩ 3 x.m (nodeG y t.g)),q46.1,q46.2⟩:GsA) w hsubz hoz (by show ((fixG ⟨6,x.pl,x.n⟩ 3 x.m (nodeG y t.g))).code.length+8*wNd z≤_; (try simp only [gsL9]); omega) (by show ((fixG ⟨6,x.pl,x.n⟩ 3 x.m (nodeG y t.g))).fix.length+8*wNd z≤_; (try simp only [gsL9]); omega) hw).mono fun e w' ⟨q,h1,h2⟩=>⟨q,h1,trivial,h2⟩) ?_
   intro q52 _
   refine Ln (Et (Cr (V0 (Ym rfl) (Lf 2 rfl (Lf 2 rfl (Lf 2 rfl ?_))))))
   refine Lw (ι:=SP×SP) [_,_,_] _ (.inl rfl) rfl en27 rfl rfl (fun _=>.int .i64 (((nodeG z (fixG ⟨6,x.pl,x.n⟩ 3 x.m (nodeG y t.g)))).code.length:Int)) (fun q=>(gown 68 56 54 sb K ⟨putG [⟨8,0,0⟩] ((nodeG z (fixG ⟨6,x.pl,x.n⟩ 3 x.m (nodeG y t.g)))),q.1,q.2⟩)) (fun _=>True) [] (by simp) (fun w hw=>(pput_any sb K (⟨(nodeG z (fixG ⟨6,x.pl,x.n⟩ 3 x.m (nodeG y t.g))),q52.1,q52.2⟩:GsA)  (8) (0) (0) w  (by show ((nodeG z (fixG ⟨6,x.pl,x.n⟩ 3 x.m (nodeG y t.g)))).code.length+1≤_; (try simp only [gsL9]); omega) (by show ((nodeG z (fixG ⟨6,x.pl,x.n⟩ 3 x.m (nodeG y t.g)))).fix.length+1≤_; (try simp only [gsL9]); omega) hw).mono fun e w' ⟨q,h1,h2⟩=>⟨q,h1,trivial,h2⟩) ?_
   intro q54 _
   refine Ln (Eb ?_)
   refine WE.end0 rfl fun w' hw=>?_
   have hr:actG x t.g=putG [⟨8,0,0⟩] (nodeG z (fixG ⟨6,x.pl,x.n⟩ 3 x.m (nodeG y t.g))):=by
     rw [actG_eq,actGo,if_neg hn1,if_pos ho,kidG_at hyi,kidG_at hzi]
   rw [hr]
   exact ⟨q54,rfl,Ws.keep (L:=[_,_,_]) hw⟩
  ·
   have hn2:¬x.op=2:=by simpa using hc2
   refine Cs (Cr (V0 (yl_eq rfl rfl) (V0 (Ya rfl) (Ln (Et ?_)))))
   refine Cc rfl (fun hc3=>?_) (fun hc3=>?_)
   ·
    have ho:x.op=3:=by simpa using hc3
    refine Cs ?_
    have hgn:=nodesG_len x.args t.g
    have hh1:=hgn.hi
    have hh2:=hgn.fhi
    refine Cr (V0 (Ym rfl) (V0 (Yf fo104_4 rfl) (V0 (Yd 0 rfl rfl rfl na102) (Lf 3 rfl (Lf 3 rfl ?_)))))
    refine Lf 3 rfl ?_
    refine Lw (ι:=SP×SP) [_,_,_] _ (.inl rfl) rfl en67 rfl rfl (fun _=>.tuple #[]) (fun q=>(gown 68 56 54 sb K ⟨nodesG x.args t.g,q.1,q.2⟩)) (fun _=>True) [H] (by simp) (fun w hw=>(pnodes_any sb K t H ke x.args r.s1.1 r.s1.2 w (fun k2 _=>hN k2) h1 hok.parts.1 (by show (t.g).code.length+8*wNds x.args≤_; (try simp only [gsL9]); omega) (by show (t.g).fix.length+8*wNds x.args≤_; (try simp only [gsL9]); omega) hw).mono fun e w' ⟨q,h1,h2⟩=>⟨q,h1,trivial,h2⟩) ?_
    intro q60 _
    refine Ln (Et (Cs (Cr (V0 (Ym rfl) (V0 (Yf fo104_3 rfl) (V0 (Yd 3 rfl rfl rfl na3) (V0 (Yf fo104_2 rfl) (V0 (Yd 3 rfl rfl rfl na3) ?_))))))))
    refine Lf 2 rfl (Lf 2 rfl (Lf 2 rfl ?_))
    refine Lw (ι:=SP×SP) [_,_,_] _ (.inl rfl) rfl en66 rfl rfl (fun _=>.int .i64 (((nodesG x.args t.g)).code.length:Int)) (fun q=>(gown 68 56 54 sb K ⟨fixG ⟨13,x.pl,0⟩ 2 x.m ((nodesG x.args t.g)),q.1,q.2⟩)) (fun _=>True) [] (by simp) (fun w hw=>(pfixed_any sb K (⟨(nodesG x.args t.g),q60.1,q60.2⟩:GsA)  (13) (x.pl) (0) 2 x.m w  (by show ((nodesG x.args t.g)).code.length+1≤_; (try simp only [gsL9]); omega) (by show ((nodesG x.args t.g)).fix.length+1≤_; (try simp only [gsL9]); omega) hw).mono fun e w' ⟨q,h1,h2⟩=>⟨q,h1,trivial,h2⟩) ?_
    intro q66 _
    refine Ln (Et (Cr (V0 (Ym rfl) (Lf 2 rfl (Lf 2 rfl (Lf 2 rfl ?_))))))
    refine Lw (ι:=SP×SP) [_,_,_] _ (.inl rfl) rfl en27 rfl rfl (fun _=>.int .i64 (((fixG ⟨13,x.pl,0⟩ 2 x.m (nodesG x.args t.g))).code.length:Int)) (fun q=>(gown 68 56 54 sb K ⟨putG [⟨17,0,0⟩] ((fixG ⟨13,x.pl,0⟩ 2 x.m (nodesG x.args t.g))),q.1,q.2⟩)) (fun _=>True) [] (by simp) (fun w hw=>(pput_any sb K (⟨(fixG ⟨13,x.pl,0⟩ 2 x.m (nodesG x.args t.g)),q66.1,q66.2⟩:GsA)  (17) (0) (0) w  (by show ((fixG ⟨13,x.pl,0⟩ 2 x.m (nodesG x.args t.g))).code.length+1≤_; (try simp only [gsL9]); omega) (by show ((fixG ⟨13,x.pl,0⟩ 2 x.m (nodesG x.args t.g))).fix.length+1≤_; (try simp only [gsL9]); omega) hw).mono fun e w' ⟨q,h1,h2⟩=>⟨q,h1,trivial,h2⟩) ?_
    intro q68 _
    refine Ln (Eb ?_)
    refine WE.end0 rfl fun w' hw=>?_
    have hr:actG x t.g=putG [⟨17,0,0⟩] (fixG ⟨13,x.pl,0⟩ 2 x.m (nodesG x.args t.g)):=by
      rw [actG_eq,actGo,if_neg hn1,if_neg hn2,if_pos ho,allG_nodes]
    rw [hr]
    exact ⟨q68,rfl,Ws.keep (L:=[_,_,_]) hw⟩
   ·
    have hn3:¬x.op=3:=by simpa using hc3
    refine Cs (Cr (V0 (yl_eq rfl rfl) (V0 (Ya rfl) (Ln (Et ?_)))))
    refine Cc rfl (fun hc4=>?_) (fun hc4=>?_)
    ·
     have ho:x.op=4:=by simpa using hc4
     refine Cs ?_
     have hl1:=hok.parts.2.2.2.1 (by omega)
     obtain ⟨y,hyi⟩:∃y,x.args[0]? = some y:=⟨_,List.getElem?_eq_getElem (by omega)⟩
     obtain ⟨pby,poy,hay,hry⟩:=h1.elt 0 y hyi
     obtain ⟨k2,rfl⟩:∃k2,ke=k2+1:=by
       cases ke with
       | zero=>exact hry.elim
       | succ k2=>exact ⟨k2,rfl⟩
     obtain ⟨ya,yc,hrowy,hsuby⟩:=hry
     have hN2:=hN k2
     have hoy:=hok.parts.1.at_ hyi
     have hw1:=wNd_one hyi
     have hgl:=nodeG_len y t.g
     have hh1:=hgl.hi
     have hh2:=hgl.fhi
     have hh3:=hgl.lo
     have hgb:=actsG_len x.body (fixG ⟨12,0,0⟩ 1 0 (nodeG y t.g))
     have hb1:=hgb.hi
     have hb2:=hgb.fhi
     have hb3:=hgb.lo
     try simp only [gsL9] at hb1 hb2 hb3
     have hgo:=actsG_len x.other (landG ((nodeG y t.g).code.length) (fixG ⟨11,0,0⟩ 1 0 (actsG x.body (fixG ⟨12,0,0⟩ 1 0 (nodeG y t.g)))))
     have ho1:=hgo.hi
     have ho2:=hgo.fhi
     have ho3:=hgo.lo
     try simp only [gsL9] at ho1 ho2 ho3
     refine Cr (V0 (Ym rfl) (V0 (Yf fo104_4 rfl) (V0 (Yd 0 rfl rfl rfl na102) ?_)))
     refine V0 (Yo (i:=0) es102 rfl rfl hay (by omega)) ?_
     refine V0 (yl_lda 0 ag138 rfl rfl rfl (hrowy)) (Lf 3 rfl (Lf 3 rfl (Lf 3 rfl ?_)))
     refine Lw (ι:=SP×SP) [_,_,_] _ (.inl rfl) rfl en65 rfl rfl (fun _=>.tuple #[]) (fun q=>(gown 68 56 54 sb K ⟨nodeG y (t.g),q.1,q.2⟩)) (fun _=>True) [H] (by simp) (fun w hw=>(hN2 y ya yc t w hsuby hoy (by show (t.g).code.length+8*wNd y≤_; (try simp only [gsL9]); omega) (by show (t.g).fix.length+8*wNd y≤_; (try simp only [gsL9]); omega) hw).mono fun e w' ⟨q,h1,h2⟩=>⟨q,h1,trivial,h2⟩) ?_
     intro q76 _
     refine Ln (Et (Cs (Cr (V0 (Ym rfl) (Lf 2 rfl (Lf 2 rfl (Lf 2 rfl ?_)))))))
     refine Lw (ι:=SP×SP) [_,_,_] _ (.inl rfl) rfl en66 rfl rfl (fun _=>.int .i64 (((nodeG y t.g)).code.length:Int)) (fun q=>(gown 68 56 54 sb K ⟨fixG ⟨12,0,0⟩ 1 0 ((nodeG y t.g)),q.1,q.2⟩)) (fun _=>True) [] (by simp) (fun w hw=>(pfixed_any sb K (⟨(nodeG y t.g),q76.1,q76.2⟩:GsA)  (12) (0) (0) 1 0 w  (by show ((nodeG y t.g)).code.length+1≤_; (try simp only [gsL9]); omega) (by show ((nodeG y t.g)).fix.length+1≤_; (try simp only [gsL9]); omega) hw).mono fun e w' ⟨q,h1,h2⟩=>⟨q,h1,trivial,h2⟩) ?_
     intro q78 _
     refine V0 (Ya rfl) (Ln (Et (Cs (Cr (V0 (Ym rfl) (V0 (Yf fo104_5 rfl) (V0 (Yd 3 rfl rfl rfl na24) (Lf 2 rfl ?_))))))))
     refine Lf 2 rfl (Lf 2 rfl ?_)
     refine Lw (ι:=SP×SP) [_,_,_] _ (.inl rfl) rfl en28 rfl rfl (fun _=>.tuple #[]) (fun q=>(gown 68 56 54 sb K ⟨actsG x.body ((fixG ⟨12,0,0⟩ 1 0 (nodeG y t.g))),q.1,q.2⟩)) (fun _=>True) [H] (by simp) (fun w hw=>(hA x.body r.s2.1 r.s2.2 (⟨(fixG ⟨12,0,0⟩ 1 0 (nodeG y t.g)),q78.1,q78.2⟩:GsA) w h2 (hok.parts.2.1 (by omega)) (by show ((fixG ⟨12,0,0⟩ 1 0 (nodeG y t.g))).code.length+8*wAcs x.body≤_; (try simp only [gsL9]); omega) (by show ((fixG ⟨12,0,0⟩ 1 0 (nodeG y t.g))).fix.length+8*wAcs x.body≤_; (try simp only [gsL9]); omega) hw).mono fun e w' ⟨q,h1,h2⟩=>⟨q,h1,trivial,h2⟩) ?_
     intro q82 _
     refine Ln (Et (Cs (Cs (Cr (V0 (Yf fo104_6 rfl) (V0 (Yd 3 rfl rfl rfl na24) (V0 (Yn es24 rfl) (V0 (yl_gt rfl rfl) (Ln (Et ?_))))))))))
     refine Cc rfl (fun hc5=>?_) (fun hc5=>?_)
     ·
      have hol:0<x.other.length:=by simpa using hc5
      refine Cs (Cr (V0 (Ym rfl) (Lf 2 rfl (Lf 2 rfl (Lf 2 rfl ?_)))))
      refine Lw (ι:=SP×SP) [_,_,_] _ (.inl rfl) rfl en66 rfl rfl (fun _=>.int .i64 (((actsG x.body (fixG ⟨12,0,0⟩ 1 0 (nodeG y t.g)))).code.length:Int)) (fun q=>(gown 68 56 54 sb K ⟨fixG ⟨11,0,0⟩ 1 0 ((actsG x.body (fixG ⟨12,0,0⟩ 1 0 (nodeG y t.g)))),q.1,q.2⟩)) (fun _=>True) [] (by simp) (fun w hw=>(pfixed_any sb K (⟨(actsG x.body (fixG ⟨12,0,0⟩ 1 0 (nodeG y t.g))),q82.1,q82.2⟩:GsA)  (11) (0) (0) 1 0 w  (by show ((actsG x.body (fixG ⟨12,0,0⟩ 1 0 (nodeG y t.g)))).code.length+1≤_; (try simp only [gsL9]); omega) (by show ((actsG x.body (fixG ⟨12,0,0⟩ 1 0 (nodeG y t.g)))).fix.length+1≤_; (try simp only [gsL9]); omega) hw).mono fun e w' ⟨q,h1,h2⟩=>⟨q,h1,trivial,h2⟩) ?_
      intro q88 _
      refine V0 (Ya rfl) (Ln (Et (Cs (Cr (V0 (Ym rfl) (V0 (Ym rfl) (Lf 2 rfl (Lf 2 rfl ?_))))))))
      refine Lf 2 rfl ?_
      refine Lw (ι:=Unit) [_,_,_] _ (.inl rfl) rfl en68 rfl rfl (fun _=>.tuple #[]) (fun _=>(gown 68 56 54 sb K ⟨landG ((nodeG y t.g).code.length) ((fixG ⟨11,0,0⟩ 1 0 (actsG x.body (fixG ⟨12,0,0⟩ 1 0 (nodeG y t.g))))),(⟨(fixG ⟨11,0,0⟩ 1 0 (actsG x.body (fixG ⟨12,0,0⟩ 1 0 (nodeG y t.g)))),q88.1,q88.2⟩:GsA).ca,(⟨(fixG ⟨11,0,0⟩ 1 0 (actsG x.body (fixG ⟨12,0,0⟩ 1 0 (nodeG y t.g)))),q88.1,q88.2⟩:GsA).fa⟩)) (fun _=>True) [] (by simp) (fun w hw=>(phere_any sb K (⟨(fixG ⟨11,0,0⟩ 1 0 (actsG x.body (fixG ⟨12,0,0⟩ 1 0 (nodeG y t.g)))),q88.1,q88.2⟩:GsA) ((nodeG y t.g).code.length) _ w (List.getElem?_eq_getElem (by show (nodeG y t.g).code.length<((fixG ⟨11,0,0⟩ 1 0 (actsG x.body (fixG ⟨12,0,0⟩ 1 0 (nodeG y t.g))))).code.length; (try simp only [gsL9]); omega)) hw).mono fun e w' h=>⟨(),h.1,trivial,h.2⟩) ?_
      intro _ _
      refine Ln (Et (Cs (Cr (V0 (Ym rfl) (V0 (Yf fo104_6 rfl) (V0 (Yd 3 rfl rfl rfl na24) (Lf 2 rfl (Lf 2 rfl ?_))))))))
      refine Lf 2 rfl ?_
      refine Lw (ι:=SP×SP) [_,_,_] _ (.inl rfl) rfl en28 rfl rfl (fun _=>.tuple #[]) (fun q=>(gown 68 56 54 sb K ⟨actsG x.other ((landG ((nodeG y t.g).code.length) (fixG ⟨11,0,0⟩ 1 0 (actsG x.body (fixG ⟨12,0,0⟩ 1 0 (nodeG y t.g)))))),q.1,q.2⟩)) (fun _=>True) [H] (by simp) (fun w hw=>(hA x.other r.s3.1 r.s3.2 (⟨(landG ((nodeG y t.g).code.length) (fixG ⟨11,0,0⟩ 1 0 (actsG x.body (fixG ⟨12,0,0⟩ 1 0 (nodeG y t.g))))),q88.1,q88.2⟩:GsA) w h3 hok.parts.2.2.1 (by show ((landG ((nodeG y t.g).code.length) (fixG ⟨11,0,0⟩ 1 0 (actsG x.body (fixG ⟨12,0,0⟩ 1 0 (nodeG y t.g)))))).code.length+8*wAcs x.other≤_; (try simp only [gsL9]); omega) (by show ((landG ((nodeG y t.g).code.length) (fixG ⟨11,0,0⟩ 1 0 (actsG x.body (fixG ⟨12,0,0⟩ 1 0 (nodeG y t.g)))))).fix.length+8*wAcs x.other≤_; (try simp only [gsL9]); omega) hw).mono fun e w' ⟨q,h1,h2⟩=>⟨q,h1,trivial,h2⟩) ?_
      intro q95 _
      refine Ln (Et (Cr (V0 (Ym rfl) (V0 (Ya rfl) (Ln (Et (Cr (V0 (Ym rfl) (V0 (Ym rfl) ?_)))))))))
      refine Lf 2 rfl (Lf 2 rfl (Lf 2 rfl ?_))
      refine Lw (ι:=Unit) [_,_,_] _ (.inl rfl) rfl en68 rfl rfl (fun _=>.tuple #[]) (fun _=>(gown 68 56 54 sb K ⟨landG ((actsG x.body (fixG ⟨12,0,0⟩ 1 0 (nodeG y t.g))).code.length) ((actsG x.other (landG ((nodeG y t.g).code.length) (fixG ⟨11,0,0⟩ 1 0 (actsG x.body (fixG ⟨12,0,0⟩ 1 0 (nodeG y t.g))))))),(⟨(actsG x.other (landG ((nodeG y t.g).code.length) (fixG ⟨11,0,0⟩ 1 0 (actsG x.body (fixG ⟨12,0,0⟩ 1 0 (nodeG y t.g)))))),q95.1,q95.2⟩:GsA).ca,(⟨(actsG x.other (landG ((nodeG y t.g).code.length) (fixG ⟨11,0,0⟩ 1 0 (actsG x.body (fixG ⟨12,0,0⟩ 1 0 (nodeG y t.g)))))),q95.1,q95.2⟩:GsA).fa⟩)) (fun _=>True) [] (by simp) (fun w hw=>(phere_any sb K (⟨(actsG x.other (landG ((nodeG y t.g).code.length) (fixG ⟨11,0,0⟩ 1 0 (actsG x.body (fixG ⟨12,0,0⟩ 1 0 (nodeG y t.g)))))),q95.1,q95.2⟩:GsA) ((actsG x.body (fixG ⟨12,0,0⟩ 1 0 (nodeG y t.g))).code.length) _ w (List.getElem?_eq_getElem (by show (actsG x.body (fixG ⟨12,0,0⟩ 1 0 (nodeG y t.g))).code.length<((actsG x.other (landG ((nodeG y t.g).code.length) (fixG ⟨11,0,0⟩ 1 0 (actsG x.body (fixG ⟨12,0,0⟩ 1 0 (nodeG y t.g))))))).code.length; (try simp only [gsL9]); omega)) hw).mono fun e w' h=>⟨(),h.1,trivial,h.2⟩) ?_
      intro _ _
      refine Ln (Eb ?_)
      refine WE.end0 rfl fun w' hw=>?_
      have hr:actG x t.g=landG ((actsG x.body (fixG ⟨12,0,0⟩ 1 0 (nodeG y t.g))).code.length) (actsG x.other (landG ((nodeG y t.g).code.length) (fixG ⟨11,0,0⟩ 1 0 (actsG x.body (fixG ⟨12,0,0⟩ 1 0 (nodeG y t.g)))))):=by
        rw [actG_eq,actGo,if_neg hn1,if_neg hn2,if_neg hn3,if_pos ho,kidG_at hyi]
        unfold ifG
        rw [if_pos hol]
      rw [hr]
      exact ⟨q95,rfl,Ws.keep (L:=[_,_,_]) hw⟩
     ·
      have hol:¬0<x.other.length:=by simpa using hc5
      refine Ck (Et (Cr (V0 (Ym rfl) (V0 (Ym rfl) (Lf 2 rfl (Lf 2 rfl (Lf 2 rfl ?_)))))))
      refine Lw (ι:=Unit) [_,_,_] _ (.inl rfl) rfl en68 rfl rfl (fun _=>.tuple #[]) (fun _=>(gown 68 56 54 sb K ⟨landG ((nodeG y t.g).code.length) ((actsG x.body (fixG ⟨12,0,0⟩ 1 0 (nodeG y t.g)))),(⟨(actsG x.body (fixG ⟨12,0,0⟩ 1 0 (nodeG y t.g))),q82.1,q82.2⟩:GsA).ca,(⟨(actsG x.body (fixG ⟨12,0,0⟩ 1 0 (nodeG y t.g))),q82.1,q82.2⟩:GsA).fa⟩)) (fun _=>True) [] (by simp) (fun w hw=>(phere_any sb K (⟨(actsG x.body (fixG ⟨12,0,0⟩ 1 0 (nodeG y t.g))),q82.1,q82.2⟩:GsA) ((nodeG y t.g).code.length) _ w (List.getElem?_eq_getElem (by show (nodeG y t.g).code.length<((actsG x.body (fixG ⟨12,0,0⟩ 1 0 (nodeG y t.g)))).code.length; (try simp only [gsL9]); omega)) hw).mono fun e w' h=>⟨(),h.1,trivial,h.2⟩) ?_
      intro _ _
      refine Ln (Eb ?_)
      refine WE.end0 rfl fun w' hw=>?_
      have hr:actG x t.g=landG ((nodeG y t.g).code.length) (actsG x.body (fixG ⟨12,0,0⟩ 1 0 (nodeG y t.g))):=by
        rw [actG_eq,actGo,if_neg hn1,if_neg hn2,if_neg hn3,if_pos ho,kidG_at hyi]
        unfold ifG
        rw [if_neg hol]
      rw [hr]
      exact ⟨q82,rfl,Ws.keep (L:=[_,_,_]) hw⟩
    ·
     have hn4:¬x.op=4:=by simpa using hc4
     refine Cs (Cr (V0 (yl_eq rfl rfl) (V0 (Ya rfl) (Ln (Et ?_)))))
     refine Cc rfl (fun hc6=>?_) (fun hc6=>?_)
     ·
      have ho:x.op=5:=by simpa using hc6
      refine Cs ?_
      have hl1:=hok.parts.2.2.2.1 (by omega)
      obtain ⟨y,hyi⟩:∃y,x.args[0]? = some y:=⟨_,List.getElem?_eq_getElem (by omega)⟩
      obtain ⟨pby,poy,hay,hry⟩:=h1.elt 0 y hyi
      obtain ⟨k2,rfl⟩:∃k2,ke=k2+1:=by
        cases ke with
        | zero=>exact hry.elim
        | succ k2=>exact ⟨k2,rfl⟩
      obtain ⟨ya,yc,hrowy,hsuby⟩:=hry
      have hN2:=hN k2
      have hoy:=hok.parts.1.at_ hyi
      have hw1:=wNd_one hyi
      have hgl:=nodeG_len y t.g
      have hh1:=hgl.hi
      have hh2:=hgl.fhi
      have hh3:=hgl.lo
      have hgb:=actsG_len x.body (putG [⟨16,0,0⟩] (fixG ⟨12,0,0⟩ 1 0 (nodeG y t.g)))
      have hb1:=hgb.hi
      have hb2:=hgb.fhi
      have hb3:=hgb.lo
      try simp only [gsL9] at hb1 hb2 hb3
      refine Cr (V0 (Ym rfl) (V0 (yl_nil rfl) (V0 (Yf fo68_0 rfl) (V0 (Yf fo31_3 rfl) (V0 (Yd 1 rfl rfl rfl na27) ?_)))))
      refine V0 (Yn es27 rfl) (V0 (Ya rfl) (Ln (Et (Cs (Cr (V0 (Ym rfl) (V0 (Yf fo104_4 rfl) (V0 (Yd 0 rfl rfl rfl na102) ?_))))))))
      refine V0 (Yo (i:=0) es102 rfl rfl hay (by omega)) ?_
      refine V0 (yl_lda 0 ag138 rfl rfl rfl (hrowy)) (Lf 3 rfl (Lf 3 rfl (Lf 3 rfl ?_)))
      refine Lw (ι:=SP×SP) [_,_,_] _ (.inl rfl) rfl en65 rfl rfl (fun _=>.tuple #[]) (fun q=>(gown 68 56 54 sb K ⟨nodeG y (t.g),q.1,q.2⟩)) (fun _=>True) [H] (by simp) (fun w hw=>(hN2 y ya yc t w hsuby hoy (by show (t.g).code.length+8*wNd y≤_; (try simp only [gsL9]); omega) (by show (t.g).fix.length+8*wNd y≤_; (try simp only [gsL9]); omega) hw).mono fun e w' ⟨q,h1,h2⟩=>⟨q,h1,trivial,h2⟩) ?_
      intro q113 _
      refine Ln (Et (Cs (Cr (V0 (Ym rfl) (Lf 2 rfl (Lf 2 rfl (Lf 2 rfl ?_)))))))
      refine Lw (ι:=SP×SP) [_,_,_] _ (.inl rfl) rfl en66 rfl rfl (fun _=>.int .i64 (((nodeG y t.g)).code.length:Int)) (fun q=>(gown 68 56 54 sb K ⟨fixG ⟨12,0,0⟩ 1 0 ((nodeG y t.g)),q.1,q.2⟩)) (fun _=>True) [] (by simp) (fun w hw=>(pfixed_any sb K (⟨(nodeG y t.g),q113.1,q113.2⟩:GsA)  (12) (0) (0) 1 0 w  (by show ((nodeG y t.g)).code.length+1≤_; (try simp only [gsL9]); omega) (by show ((nodeG y t.g)).fix.length+1≤_; (try simp only [gsL9]); omega) hw).mono fun e w' ⟨q,h1,h2⟩=>⟨q,h1,trivial,h2⟩) ?_
      intro q115 _
      refine V0 (Ya rfl) (Ln (Et (Cs (Cr (V0 (Ym rfl) (Lf 2 rfl (Lf 2 rfl (Lf 2 rfl ?_))))))))
      refine Lw (ι:=SP×SP) [_,_,_] _ (.inl rfl) rfl en27 rfl rfl (fun _=>.int .i64 (((fixG ⟨12,0,0⟩ 1 0 (nodeG y t.g))).code.length:Int)) (fun q=>(gown 68 56 54 sb K ⟨putG [⟨16,0,0⟩] ((fixG ⟨12,0,0⟩ 1 0 (nodeG y t.g))),q.1,q.2⟩)) (fun _=>True) [] (by simp) (fun w hw=>(pput_any sb K (⟨(fixG ⟨12,0,0⟩ 1 0 (nodeG y t.g)),q115.1,q115.2⟩:GsA)  (16) (0) (0) w  (by show ((fixG ⟨12,0,0⟩ 1 0 (nodeG y t.g))).code.length+1≤_; (try simp only [gsL9]); omega) (by show ((fixG ⟨12,0,0⟩ 1 0 (nodeG y t.g))).fix.length+1≤_; (try simp only [gsL9]); omega) hw).mono fun e w' ⟨q,h1,h2⟩=>⟨q,h1,trivial,h2⟩) ?_
      intro q117 _
      refine Ln (Et (Cs (Cr (V0 (Ym rfl) (V0 (Yf fo104_5 rfl) (V0 (Yd 3 rfl rfl rfl na24) (Lf 2 rfl (Lf 2 rfl ?_))))))))
      refine Lf 2 rfl ?_
      refine Lw (ι:=SP×SP) [_,_,_] _ (.inl rfl) rfl en28 rfl rfl (fun _=>.tuple #[]) (fun q=>(gown 68 56 54 sb K ⟨actsG x.body ((putG [⟨16,0,0⟩] (fixG ⟨12,0,0⟩ 1 0 (nodeG y t.g)))),q.1,q.2⟩)) (fun _=>True) [H] (by simp) (fun w hw=>(hA x.body r.s2.1 r.s2.2 (⟨(putG [⟨16,0,0⟩] (fixG ⟨12,0,0⟩ 1 0 (nodeG y t.g))),q117.1,q117.2⟩:GsA) w h2 (hok.parts.2.1 (by omega)) (by show ((putG [⟨16,0,0⟩] (fixG ⟨12,0,0⟩ 1 0 (nodeG y t.g)))).code.length+8*wAcs x.body≤_; (try simp only [gsL9]); omega) (by show ((putG [⟨16,0,0⟩] (fixG ⟨12,0,0⟩ 1 0 (nodeG y t.g)))).fix.length+8*wAcs x.body≤_; (try simp only [gsL9]); omega) hw).mono fun e w' ⟨q,h1,h2⟩=>⟨q,h1,trivial,h2⟩) ?_
      intro q121 _
      refine Ln (Et (Cs (Cr (V0 (Ym rfl) (V0 (Ym rfl) (Lf 2 rfl (Lf 2 rfl (Lf 2 rfl ?_))))))))
      refine Lw (ι:=SP×SP) [_,_,_] _ (.inl rfl) rfl en66 rfl rfl (fun _=>.int .i64 (((actsG x.body (putG [⟨16,0,0⟩] (fixG ⟨12,0,0⟩ 1 0 (nodeG y t.g))))).code.length:Int)) (fun q=>(gown 68 56 54 sb K ⟨fixG ⟨11,(t.g.code.length:Int),0⟩ 1 0 ((actsG x.body (putG [⟨16,0,0⟩] (fixG ⟨12,0,0⟩ 1 0 (nodeG y t.g))))),q.1,q.2⟩)) (fun _=>True) [] (by simp) (fun w hw=>(pfixed_any sb K (⟨(actsG x.body (putG [⟨16,0,0⟩] (fixG ⟨12,0,0⟩ 1 0 (nodeG y t.g)))),q121.1,q121.2⟩:GsA)  (11) ((t.g.code.length:Int)) (0) 1 0 w  (by show ((actsG x.body (putG [⟨16,0,0⟩] (fixG ⟨12,0,0⟩ 1 0 (nodeG y t.g))))).code.length+1≤_; (try simp only [gsL9]); omega) (by show ((actsG x.body (putG [⟨16,0,0⟩] (fixG ⟨12,0,0⟩ 1 0 (nodeG y t.g))))).fix.length+1≤_; (try simp only [gsL9]); omega) hw).mono fun e w' ⟨q,h1,h2⟩=>⟨q,h1,trivial,h2⟩) ?_
      intro q124 _
      refine Ln (Et (Cr (V0 (Ym rfl) (V0 (Ym rfl) (Lf 2 rfl (Lf 2 rfl (Lf 2 rfl ?_)))))))
      refine Lw (ι:=Unit) [_,_,_] _ (.inl rfl) rfl en68 rfl rfl (fun _=>.tuple #[]) (fun _=>(gown 68 56 54 sb K ⟨landG ((nodeG y t.g).code.length) ((fixG ⟨11,(t.g.code.length:Int),0⟩ 1 0 (actsG x.body (putG [⟨16,0,0⟩] (fixG ⟨12,0,0⟩ 1 0 (nodeG y t.g)))))),(⟨(fixG ⟨11,(t.g.code.length:Int),0⟩ 1 0 (actsG x.body (putG [⟨16,0,0⟩] (fixG ⟨12,0,0⟩ 1 0 (nodeG y t.g))))),q124.1,q124.2⟩:GsA).ca,(⟨(fixG ⟨11,(t.g.code.length:Int),0⟩ 1 0 (actsG x.body (putG [⟨16,0,0⟩] (fixG ⟨12,0,0⟩ 1 0 (nodeG y t.g))))),q124.1,q124.2⟩:GsA).fa⟩)) (fun _=>True) [] (by simp) (fun w hw=>(phere_any sb K (⟨(fixG ⟨11,(t.g.code.length:Int),0⟩ 1 0 (actsG x.body (putG [⟨16,0,0⟩] (fixG ⟨12,0,0⟩ 1 0 (nodeG y t.g))))),q124.1,q124.2⟩:GsA) ((nodeG y t.g).code.length) _ w (List.getElem?_eq_getElem (by show (nodeG y t.g).code.length<((fixG ⟨11,(t.g.code.length:Int),0⟩ 1 0 (actsG x.body (putG [⟨16,0,0⟩] (fixG ⟨12,0,0⟩ 1 0 (nodeG y t.g)))))).code.length; (try simp only [gsL9]); omega)) hw).mono fun e w' h=>⟨(),h.1,trivial,h.2⟩) ?_
      intro _ _
      refine Ln (Eb ?_)
      refine WE.end0 rfl fun w' hw=>?_
      have hr:actG x t.g=landG ((nodeG y t.g).code.length) (fixG ⟨11,(t.g.code.length:Int),0⟩ 1 0 (actsG x.body (putG [⟨16,0,0⟩] (fixG ⟨12,0,0⟩ 1 0 (nodeG y t.g))))):=by
        rw [actG_eq,actGo,if_neg hn1,if_neg hn2,if_neg hn3,if_neg hn4,if_pos ho,kidG_at hyi]
        rfl
      rw [hr]
      exact ⟨q124,rfl,Ws.keep (L:=[_,_,_]) hw⟩
     ·
      have hn5:¬x.op=5:=by simpa using hc6
      refine Cs (Cr (V0 (yl_eq rfl rfl) (V0 (Ya rfl) (Ln (Et ?_)))))
      refine Cc rfl (fun hc7=>?_) (fun hc7=>?_)
      ·
       have ho:x.op=6:=by simpa using hc7
       refine Cs ?_
       have hl1:=hok.parts.2.2.2.1 (by omega)
       obtain ⟨y,hyi⟩:∃y,x.args[0]? = some y:=⟨_,List.getElem?_eq_getElem (by omega)⟩
       obtain ⟨pby,poy,hay,hry⟩:=h1.elt 0 y hyi
       obtain ⟨k2,rfl⟩:∃k2,ke=k2+1:=by
         cases ke with
         | zero=>exact hry.elim
         | succ k2=>exact ⟨k2,rfl⟩
       obtain ⟨ya,yc,hrowy,hsuby⟩:=hry
       have hN2:=hN k2
       have hoy:=hok.parts.1.at_ hyi
       have hw1:=wNd_one hyi
       have hgl:=nodeG_len y t.g
       have hh1:=hgl.hi
       have hh2:=hgl.fhi
       have hh3:=hgl.lo
       refine Cr (V0 (Ym rfl) (V0 (Yf fo104_4 rfl) (V0 (Yd 0 rfl rfl rfl na102) ?_)))
       refine V0 (Yo (i:=0) es102 rfl rfl hay (by omega)) ?_
       refine V0 (yl_lda 0 ag138 rfl rfl rfl (hrowy)) (Lf 3 rfl (Lf 3 rfl (Lf 3 rfl ?_)))
       refine Lw (ι:=SP×SP) [_,_,_] _ (.inl rfl) rfl en65 rfl rfl (fun _=>.tuple #[]) (fun q=>(gown 68 56 54 sb K ⟨nodeG y (t.g),q.1,q.2⟩)) (fun _=>True) [H] (by simp) (fun w hw=>(hN2 y ya yc t w hsuby hoy (by show (t.g).code.length+8*wNd y≤_; (try simp only [gsL9]); omega) (by show (t.g).fix.length+8*wNd y≤_; (try simp only [gsL9]); omega) hw).mono fun e w' ⟨q,h1,h2⟩=>⟨q,h1,trivial,h2⟩) ?_
       intro q135 _
       refine Ln (Et (Cr (V0 (Ym rfl) (Lf 2 rfl (Lf 2 rfl (Lf 2 rfl ?_))))))
       refine Lw (ι:=SP×SP) [_,_,_] _ (.inl rfl) rfl en27 rfl rfl (fun _=>.int .i64 (((nodeG y t.g)).code.length:Int)) (fun q=>(gown 68 56 54 sb K ⟨putG [⟨15,0,0⟩] ((nodeG y t.g)),q.1,q.2⟩)) (fun _=>True) [] (by simp) (fun w hw=>(pput_any sb K (⟨(nodeG y t.g),q135.1,q135.2⟩:GsA)  (15) (0) (0) w  (by show ((nodeG y t.g)).code.length+1≤_; (try simp only [gsL9]); omega) (by show ((nodeG y t.g)).fix.length+1≤_; (try simp only [gsL9]); omega) hw).mono fun e w' ⟨q,h1,h2⟩=>⟨q,h1,trivial,h2⟩) ?_
       intro q137 _
       refine Ln (Eb ?_)
       refine WE.end0 rfl fun w' hw=>?_
       have hr:actG x t.g=putG [⟨15,0,0⟩] (nodeG y t.g):=by
         rw [actG_eq,actGo,if_neg hn1,if_neg hn2,if_neg hn3,if_neg hn4,if_neg hn5,if_pos ho,kidG_at hyi]
       rw [hr]
       exact ⟨q137,rfl,Ws.keep (L:=[_,_,_]) hw⟩
      ·
       have hn6:¬x.op=6:=by simpa using hc7
       refine Cs (Cr (V0 (yl_eq rfl rfl) (V0 (Ya rfl) (Ln (Et ?_)))))
       refine Cc rfl (fun hc8=>?_) (fun hc8=>?_)
       ·
        have ho:x.op=7:=by simpa using hc8
        refine Cs ?_
        have hl1:=hok.parts.2.2.2.1 (by omega)
        obtain ⟨y,hyi⟩:∃y,x.args[0]? = some y:=⟨_,List.getElem?_eq_getElem (by omega)⟩
        obtain ⟨pby,poy,hay,hry⟩:=h1.elt 0 y hyi
        obtain ⟨k2,rfl⟩:∃k2,ke=k2+1:=by
          cases ke with
          | zero=>exact hry.elim
          | succ k2=>exact ⟨k2,rfl⟩
        obtain ⟨ya,yc,hrowy,hsuby⟩:=hry
        have hN2:=hN k2
        have hoy:=hok.parts.1.at_ hyi
        have hw1:=wNd_one hyi
        have hgl:=nodeG_len y t.g
        have hh1:=hgl.hi
        have hh2:=hgl.fhi
        have hh3:=hgl.lo
        refine Cr (V0 (Ym rfl) (V0 (Yf fo104_4 rfl) (V0 (Yd 0 rfl rfl rfl na102) ?_)))
        refine V0 (Yo (i:=0) es102 rfl rfl hay (by omega)) ?_
        refine V0 (yl_lda 0 ag138 rfl rfl rfl (hrowy)) (Lf 3 rfl (Lf 3 rfl (Lf 3 rfl ?_)))
        refine Lw (ι:=SP×SP) [_,_,_] _ (.inl rfl) rfl en65 rfl rfl (fun _=>.tuple #[]) (fun q=>(gown 68 56 54 sb K ⟨nodeG y (t.g),q.1,q.2⟩)) (fun _=>True) [H] (by simp) (fun w hw=>(hN2 y ya yc t w hsuby hoy (by show (t.g).code.length+8*wNd y≤_; (try simp only [gsL9]); omega) (by show (t.g).fix.length+8*wNd y≤_; (try simp only [gsL9]); omega) hw).mono fun e w' ⟨q,h1,h2⟩=>⟨q,h1,trivial,h2⟩) ?_
        intro q145 _
        refine Ln (Et (Cr (V0 (Ym rfl) (Lf 2 rfl (Lf 2 rfl (Lf 2 rfl ?_))))))
        refine Lw (ι:=SP×SP) [_,_,_] _ (.inl rfl) rfl en27 rfl rfl (fun _=>.int .i64 (((nodeG y t.g)).code.length:Int)) (fun q=>(gown 68 56 54 sb K ⟨putG [⟨19,0,0⟩] ((nodeG y t.g)),q.1,q.2⟩)) (fun _=>True) [] (by simp) (fun w hw=>(pput_any sb K (⟨(nodeG y t.g),q145.1,q145.2⟩:GsA)  (19) (0) (0) w  (by show ((nodeG y t.g)).code.length+1≤_; (try simp only [gsL9]); omega) (by show ((nodeG y t.g)).fix.length+1≤_; (try simp only [gsL9]); omega) hw).mono fun e w' ⟨q,h1,h2⟩=>⟨q,h1,trivial,h2⟩) ?_
        intro q147 _
        refine Ln (Eb ?_)
        refine WE.end0 rfl fun w' hw=>?_
        have hr:actG x t.g=putG [⟨19,0,0⟩] (nodeG y t.g):=by
          rw [actG_eq,actGo,if_neg hn1,if_neg hn2,if_neg hn3,if_neg hn4,if_neg hn5,if_neg hn6,if_pos ho,kidG_at hyi]
        rw [hr]
        exact ⟨q147,rfl,Ws.keep (L:=[_,_,_]) hw⟩
       ·
        exfalso
        have hn7:¬x.op=7:=by simpa using hc8
        have hop:=hok.parts.2.2.2.2.2
        omega
theorem pacts_any (sb:Nat) (K:ObjK) (t:GsA) (H:View) (ke k:Nat) (l:List TAct) (a:Option Addr) (c:Nat) (w:World) (hl:Sl (RdA ke k) 7 H a c l) (hok:ActsOk l) (hb:t.g.code.length+8*wAcs l≤1000000000000) (hfb:t.g.fix.length+8*wAcs l≤1000000000000) (hw:Ws w (List.flatMap Asr.ids (gown 68 56 54 sb K t)) (gown 68 56 54 sb K t) [H] w) :
   Calls Tryz.prog 28 #[.pointer (some ⟨sb,0,none⟩),.slice a l.length c] w fun e w'=>∃q:SP×SP,e = .returned (.tuple #[])∧Ws w (List.flatMap Asr.ids (gown 68 56 54 sb K t)) (gown 68 56 54 sb K ⟨actsG l t.g,q.1,q.2⟩) [H] w':=by
 induction k using Nat.strongRecOn generalizing l a c t w
 rename_i k ih
 have hcap:=hl.cap
 have hmax:=hl.max
 refine enter Tryz.func28 rfl 17 rfl rfl ?_
 refine CWd (W':=Ws w (List.flatMap Asr.ids (gown 68 56 54 sb K t)) (gown 68 56 54 sb K t) [H]) (fun _ e=>by subst e; exact hw) ?_
 refine Cs (Cr (V0 (Ya rfl) (Ln (Et (Cb ?_)))))
 refine CK (ι:=Nat×SP×SP) (fun g=>[(4,.int .i64 (g.1:Int))]) [(0,_),(1,_)] (fun g=>Ws w (List.flatMap Asr.ids (gown 68 56 54 sb K t)) (gown 68 56 54 sb K ⟨actsG (l.take g.1) t.g,g.2.1,g.2.2⟩) [H]) (fun g=>g.1≤l.length) (fun g=>l.length-g.1) (0,t.ca,t.fa) (Nat.zero_le _) (sc rfl (sc rfl (sc rfl sn))) (fun _ h=>h) ?_
 intro g hgi
 refine Cs (Cs (Cr (V0 (Ym rfl) (V0 (Ym rfl) (V0 (Yn es24 rfl) (V0 (yl_lt rfl rfl) (Ln (Et ?_))))))))
 refine Cc rfl (fun hc0=>?_) (fun hc0=>?_)
 ·
  have hlt:g.1<l.length:=by simpa using hc0
  obtain ⟨x,hxi⟩:∃q,l[g.1]? = some q:=⟨_,List.getElem?_eq_getElem hlt⟩
  obtain ⟨pbx,pox,hax,hrx⟩:=hl.elt g.1 x hxi
  obtain ⟨k2,rfl⟩:∃k2,k=k2+1:=by
    cases k with
    | zero=>exact hrx.elim
    | succ k2=>exact ⟨k2,rfl⟩
  obtain ⟨r,hrow,h1,h2,h3⟩:=hrx
  have hww:=wAc_mem hxi
  have hgl:=actsG_len (l.take g.1) t.g
  have hh1:=hgl.hi
  have hh2:=hgl.fhi
  have hA:PActs H sb K ke k2:=fun l a c t w h1 h2 h3 h4 h5=>ih k2 (by omega) t l a c w h1 h2 h3 h4 h5
  refine Ck (Et (Cs (Cb (Cr (V0 (Ym rfl) (V0 (Ym rfl) (V0 (Ym rfl) (V0 (Yo es24 rfl rfl hax hlt) (V0 (yl_lda 0 ag104 rfl rfl rfl (hrow)) ?_)))))))))
  refine Lf 2 rfl (Lf 2 rfl (Lf 2 rfl ?_))
  refine Lw (ι:=SP×SP) [_,_,_] _ (.inl rfl) rfl en47 rfl rfl (fun _=>.tuple #[]) (fun q=>(gown 68 56 54 sb K ⟨actG x (actsG (l.take g.1) t.g),q.1,q.2⟩)) (fun _=>True) [H] (by simp) (fun w hw=>(pact_any sb K (⟨actsG (l.take g.1) t.g,g.2.1,g.2.2⟩:GsA) H ke k2 x r w hA h1 h2 h3 (hok.at_ hxi) (by show (actsG (l.take g.1) t.g).code.length+8*wAc x≤_; omega) (by show (actsG (l.take g.1) t.g).fix.length+8*wAc x≤_; omega) hw).mono fun e w' ⟨q,h1,h2⟩=>⟨q,h1,trivial,h2⟩) ?_
  intro q16 _
  refine Ln (Eb (Et (Cr (V0 (Ym rfl) ?_))))
  refine V0 (Yi rfl rfl rfl (by omega)) ?_
  refine V0 (Ya rfl) (Ln ?_)
  rw [←actsG_take hxi]
  exact Ea ((g.1+1,q16):Nat×SP×SP) (by show _-(g.1+1)<_; omega) (by show g.1+1≤_; omega) (sc rfl (sc rfl (sc rfl sn))) (fun _ h=>h)
 ·
  have hge:g.1=l.length:=by simp at hc0; omega
  rw [hge,List.take_length]
  refine Ce (Ex (Ex (Ebh ?_)))
  refine WE.end0 rfl fun w' hw=>?_
  exact ⟨g.2,rfl,hw⟩
end Go.Proofs.YtpjekjnehiinnaaGreatDoor
end
section
namespace Go.Proofs.YtpjekjnehiinnaaGreatDoor
open Go.Bw
set_option linter.unusedVariables false
set_option linter.unusedSimpArgs false
def rdU2 (ke k:Nat) (H:View) (b o:Nat) (u:TUnit):Prop:=∃r:UAt,RdC H b o (unitV u r)∧RdU ke k H r u
structure PlOk (us:List TUnit) (nu:Nat) (al:Bool) (kn:List KnW):Prop where
 len:kn.length=nu+1
 far:al=true→∀mi,0<mi→mi≤nu→kn[mi]? = some noKn
 near:∀mi,mi≤nu→(al=true→mi=0)→∃u,us[mi]? = some u∧kn[mi]? = some (knM u)
theorem pl_dataC {us:List TUnit} {nu:Nat} {al:Bool} {kn:List KnW} (h:PlOk us nu al kn) (m pl:Int):((!(within m 0 (nu:Int))||decide (pl<0))||decide (512<pl))=dataC kn m pl:=by
 unfold dataC within
 rw [h.len,Bool.eq_iff_iff]
 simp
 omega
theorem pl_partC {us:List TUnit} {nu:Nat} {al:Bool} {kn:List KnW} (h:PlOk us nu al kn) (m pl:Int):(!(within m 0 (nu:Int))||decide (pl<0))=partC kn m pl:=by
 unfold partC within
 rw [h.len,Bool.eq_iff_iff]
 simp
 omega
theorem fo99_1:fieldOff Tryz.prog 99 1=some 1:=by kernel_rfl
theorem fo99_3:fieldOff Tryz.prog 99 3=some 3:=by kernel_rfl
theorem fo99_0:fieldOff Tryz.prog 99 0=some 0:=by kernel_rfl
theorem na38:nonAgg Tryz.prog 38=true:=by kernel_rfl
theorem pdata_any (HU:View) (ke k:Nat) (us:List TUnit) (ka:Option Addr) (kc nu:Nat) (al:Bool) (kn:List KnW) (locs:Int) (m pl n:Int) (w:World) (hHU:Le HU w) (hus:Sl (rdU2 ke k) 5 HU ka kc us) (hpl:PlOk us nu al kn) (hnu:nu≤1000) (hlo:0≤locs∧locs≤1000) (hn:0≤n∧n≤32) :
   Calls Tryz.prog 90 #[.agg #[.slice ka us.length kc,.int .i64 (nu:Int),.int .i64 locs,.bool al],.int .i64 m,.int .i64 pl,.int .i64 n] w fun e w'=>e = .returned (.bool (dataB kn m pl n))∧Ext w w':=by
 have hucap:=hus.cap
 have humax:=hus.max
 refine enter Tryz.func90 rfl 46 rfl rfl ?_
 refine CWd (W':=Ws w [] [] [HU]) (fun _ e=>by subst e; exact Ws.init (by simp [hHU])) ?_
 refine Cs (Cr ?_)
 refine WL.box (.inl rfl) rfl rfl fun b4=>?_
 refine V0 (Ya rfl) (Ln (Et (Cs (Cs (Cr (V0 (Ym rfl) (V0 (Yf fo99_1 rfl) (V0 (Yd 0 rfl rfl rfl na3) ?_))))))))
 refine Lp (.inl rfl) rfl en34 rfl (fun w hw=>within_any _ _ _ w) ?_
 refine V0 (yl_not rfl) (V0 (Ym rfl) ?_)
 apply WL.or 2 rfl rfl rfl rfl (.inl rfl) rfl rfl rfl rfl rfl
 ·
  intro hg0
  refine Lv (.g rfl rfl rfl) rfl (Ym rfl) (Lv (.g rfl rfl rfl) rfl (yl_lt rfl rfl) ?_)
  exact Gt 2 rfl rfl rfl
 refine V0 (Ym rfl) ?_
 apply WL.or 2 rfl rfl rfl rfl (.inl rfl) rfl rfl rfl rfl rfl
 ·
  intro hg1
  refine Lv (.g rfl rfl rfl) rfl (Ym rfl) (Lv (.g rfl rfl rfl) rfl (yl_gt rfl rfl) ?_)
  exact Gt 2 rfl rfl rfl
 refine Ln (Et ?_)
 rw [pl_dataC hpl]
 refine Cc rfl (fun hc0=>?_) (fun hc0=>?_)
 ·
  refine Cs (Cr (V0 (Ya rfl) (Ln (Et (Crt (Er ?_))))))
  refine WE.ret1 rfl rfl fun w' hw=>?_
  exact ⟨by rw [dataB_no n hc0],hw.fr⟩
 ·
  obtain ⟨⟨mi,rfl,hmi⟩,hp0,hp1⟩:=dataC_in hc0
  rw [hpl.len] at hmi
  refine Ck (Et (Cs (Cs (Cr (V0 (Ym rfl) (V0 (yl_gt rfl rfl) (V0 (Ym rfl) ?_)))))))
  apply WL.and 2 rfl rfl rfl rfl (.inl rfl) rfl rfl rfl rfl rfl
  ·
   intro hg2
   refine Lv (.g rfl rfl rfl) rfl (Yf fo99_3 rfl) (Lv (.g rfl rfl rfl) rfl (Yd 0 rfl rfl rfl na4) ?_)
   exact Gt 2 rfl rfl rfl
  refine Ln (Et ?_)
  refine Cc rfl (fun hc1=>?_) (fun hc1=>?_)
  ·
   obtain ⟨hm0,hal⟩:0<mi∧al=true:=by simpa using hc1
   have hki:=hpl.far hal mi hm0 (by omega)
   refine Cs (Cr (V0 (Ym rfl) (V0 (Ym rfl) ?_)))
   refine V0 (yl_add rfl rfl (by omega)) ?_
   refine V0 (yl_le rfl rfl) (V0 (Ym rfl) ?_)
   apply WL.or 2 rfl rfl rfl rfl (.inl rfl) rfl rfl rfl rfl rfl
   ·
    intro hg3
    refine Lv (.g rfl rfl rfl) rfl (Ym rfl) (Lv (.g rfl rfl rfl) rfl (yl_eq rfl rfl) ?_)
    exact Gt 2 rfl rfl rfl
   refine V0 (Ya rfl) (Ln (Et (Crt (Er ?_))))
   refine WE.ret1 rfl rfl fun w' hw=>?_
   exact ⟨by rw [dataB_at hc0 hki,if_neg (by decide),Bool.or_comm],hw.fr⟩
  ·
   obtain ⟨u,hui,hki⟩:=hpl.near mi (by omega) (fun e=>by rw [e] at hc1; simp at hc1; omega)
   have hul:mi<us.length:=(List.getElem?_eq_some_iff.1 hui).1
   obtain ⟨pbu,pou,hau,ur,hrow,hru⟩:=hus.elt mi u hui
   refine Ck (Et (Cs (Cr (V0 (Ym rfl) (V0 (Ym rfl) ?_)))))
   refine V0 (yl_add rfl rfl (by omega)) ?_
   refine V0 (Yf fo99_0 rfl) (V0 (Yd 0 rfl rfl rfl na38) (V0 (Ym rfl) (V0 (Yo es38 rfl rfl hau hul) (V0 (Yf fo26_2 rfl) (V0 (yl_ld 0 na3 rfl rfl (hrow 2 _ rfl)) ?_)))))
   refine V0 (yl_le rfl rfl) (V0 (Ya rfl) (Ln (Et (Crt ?_))))
   refine WE.ret1 rfl rfl fun w' hw=>?_
   exact ⟨by rw [dataB_at hc0 hki,if_pos (show (knM u).is_=true from rfl)]; rfl,hw.fr⟩
theorem ppart_any (HU:View) (ke k:Nat) (us:List TUnit) (ka:Option Addr) (kc nu:Nat) (al:Bool) (kn:List KnW) (locs:Int) (m pl n:Int) (w:World) (hHU:Le HU w) (hus:Sl (rdU2 ke k) 5 HU ka kc us) (hpl:PlOk us nu al kn) (hnu:nu≤1000) (hlo:0≤locs∧locs≤1000)  :
   Calls Tryz.prog 91 #[.agg #[.slice ka us.length kc,.int .i64 (nu:Int),.int .i64 locs,.bool al],.int .i64 m,.int .i64 pl,.int .i64 n] w fun e w'=>e = .returned (.bool (partB kn m pl n))∧Ext w w':=by
 have hucap:=hus.cap
 have humax:=hus.max
 refine enter Tryz.func91 rfl 53 rfl rfl ?_
 refine CWd (W':=Ws w [] [] [HU]) (fun _ e=>by subst e; exact Ws.init (by simp [hHU])) ?_
 refine Cs (Cr ?_)
 refine WL.box (.inl rfl) rfl rfl fun b4=>?_
 refine V0 (Ya rfl) (Ln (Et (Cs (Cs (Cr (V0 (Ym rfl) (V0 (Yf fo99_1 rfl) (V0 (Yd 0 rfl rfl rfl na3) ?_))))))))
 refine Lp (.inl rfl) rfl en34 rfl (fun w hw=>within_any _ _ _ w) ?_
 refine V0 (yl_not rfl) (V0 (Ym rfl) ?_)
 apply WL.or 2 rfl rfl rfl rfl (.inl rfl) rfl rfl rfl rfl rfl
 ·
  intro hg0
  refine Lv (.g rfl rfl rfl) rfl (Ym rfl) (Lv (.g rfl rfl rfl) rfl (yl_lt rfl rfl) ?_)
  exact Gt 2 rfl rfl rfl
 refine Ln (Et ?_)
 rw [pl_partC hpl]
 refine Cc rfl (fun hc0=>?_) (fun hc0=>?_)
 ·
  refine Cs (Cr (V0 (Ya rfl) (Ln (Et (Crt (Er ?_))))))
  refine WE.ret1 rfl rfl fun w' hw=>?_
  exact ⟨by rw [partB_no n hc0],hw.fr⟩
 ·
  obtain ⟨⟨mi,rfl,hmi⟩,pi,rfl⟩:=partC_in hc0
  rw [hpl.len] at hmi
  refine Ck (Et (Cs (Cs (Cr (V0 (Ym rfl) (V0 (yl_gt rfl rfl) (V0 (Ym rfl) ?_)))))))
  apply WL.and 2 rfl rfl rfl rfl (.inl rfl) rfl rfl rfl rfl rfl
  ·
   intro hg1
   refine Lv (.g rfl rfl rfl) rfl (Yf fo99_3 rfl) (Lv (.g rfl rfl rfl) rfl (Yd 0 rfl rfl rfl na4) ?_)
   exact Gt 2 rfl rfl rfl
  refine Ln (Et ?_)
  refine Cc rfl (fun hc1=>?_) (fun hc1=>?_)
  ·
   obtain ⟨hm0,hal⟩:0<mi∧al=true:=by simpa using hc1
   have hki:=hpl.far hal mi hm0 (by omega)
   refine Cs (Cr (V0 (Ym rfl) (V0 (yl_lt rfl rfl) (V0 (Ym rfl) ?_))))
   apply WL.and 2 rfl rfl rfl rfl (.inl rfl) rfl rfl rfl rfl rfl
   ·
    intro hg2
    refine Lv (.g rfl rfl rfl) rfl (Ym rfl) (Lv (.g rfl rfl rfl) rfl (yl_le rfl rfl) ?_)
    exact Gt 2 rfl rfl rfl
   refine V0 (Ya rfl) (Ln (Et (Crt (Er ?_))))
   refine WE.ret1 rfl rfl fun w' hw=>?_
   exact ⟨by rw [partB_at hc0 hki,if_neg (by decide)],hw.fr⟩
  ·
   obtain ⟨u,hui,hki⟩:=hpl.near mi (by omega) (fun e=>by rw [e] at hc1; simp at hc1; omega)
   have hul:mi<us.length:=(List.getElem?_eq_some_iff.1 hui).1
   obtain ⟨pbu,pou,hau,ur,hrow,hru⟩:=hus.elt mi u hui
   have hpcap:=hru.parts.cap
   have hpmax:=hru.parts.max
   refine Ck (Et (Cs (Cr (V0 (Ym rfl) (V0 (Yf fo99_0 rfl) (V0 (Yd 0 rfl rfl rfl na38) (V0 (Ym rfl) (V0 (Yo es38 rfl rfl hau hul) ?_))))))))
   refine V0 (Yf fo26_3 rfl) (V0 (yl_ld 0 na23 rfl rfl (hrow 3 _ rfl)) (V0 (Yn es23 rfl) (V0 (yl_lt rfl rfl) (V0 (Ym rfl) ?_))))
   apply WL.and 12 (x:=((knM u).parts[((pi:Int)).toNat]?).getD 0==n) rfl rfl rfl rfl (.inl rfl) rfl rfl rfl rfl rfl
   ·
    intro hg3
    have hpn:pi<u.parts.length:=by simpa using hg3
    obtain ⟨y,hyi⟩:∃y,u.parts[pi]? = some y:=⟨_,List.getElem?_eq_getElem hpn⟩
    obtain ⟨pby,poy,hay,yr,hrowy,hsuby⟩:=hru.parts.elt pi y hyi
    have hgd:((knM u).parts[((pi:Int)).toNat]?).getD 0=y.params:=by rw [Int.toNat_natCast]; show ((u.parts.map (·.params))[pi]?).getD 0=_; rw [List.getElem?_map,hyi]; rfl
    refine Lv (.g rfl rfl rfl) rfl (Yf fo99_0 rfl) (Lv (.g rfl rfl rfl) rfl (Yd 0 rfl rfl rfl na38) (Lv (.g rfl rfl rfl) rfl (Ym rfl) (Lv (.g rfl rfl rfl) rfl (Yo es38 rfl rfl hau hul) (Lv (.g rfl rfl rfl) rfl (Yf fo26_3 rfl) (Lv (.g rfl rfl rfl) rfl (yl_ld 0 na23 rfl rfl (hrow 3 _ rfl)) ?_)))))
    refine Lv (.g rfl rfl rfl) rfl (Ym rfl) (Lv (.g rfl rfl rfl) rfl (Yo es23 rfl rfl hay hpn) (Lv (.g rfl rfl rfl) rfl (Yf fo63_0 rfl) (Lv (.g rfl rfl rfl) rfl (yl_ld 0 na3 rfl rfl (hrowy 0 _ rfl)) (Lv (.g rfl rfl rfl) rfl (Ym rfl) (Lv (.g rfl rfl rfl) rfl (yl_eq rfl rfl) ?_)))))
    rw [←hgd]
    exact Gt 12 rfl rfl rfl
   refine V0 (Ya rfl) (Ln (Et (Crt ?_)))
   refine WE.ret1 rfl rfl fun w' hw=>?_
   exact ⟨by rw [partB_at hc0 hki,if_pos (show (knM u).is_=true from rfl),show (knM u).parts.length=u.parts.length from List.length_map _],hw.fr⟩
end Go.Proofs.YtpjekjnehiinnaaGreatDoor
end
section
namespace Go.Proofs.YtpjekjnehiinnaaGreatDoor
open Go.Bw
set_option linter.unusedVariables false
set_option linter.unusedSimpArgs false
def QNode (HU H:View) (us:List TUnit) (ka:Option Addr) (kc nu:Nat) (al:Bool) (kn:List KnW) (locs:Int) (k:Nat):Prop:=∀(x:TNode) (a:Option Addr) (c:Nat) (d:Nat) (w:World),Le HU w→Le H w→Sl (RdN k) 5 H a c x.args→d≤7→
 Calls Tryz.prog 127 #[.agg #[.slice ka us.length kc,.int .i64 (nu:Int),.int .i64 locs,.bool al],.agg (nodeV x a c).toArray,.int .i64 (d:Int)] w fun e w'=>e = .returned (.bool (nodeK kn locs x d))∧Ext w w'
theorem within_local (locs pl:Int):within pl 0 (locs-1)=localB locs pl:=by
 unfold within localB
 rw [Bool.eq_iff_iff]
 simp
 omega
theorem nodeK_no {kn:List KnW} {locs:Int} {x:TNode} {d:Nat} (h:6<d):nodeK kn locs x d=false:=by
 rw [nodeK_eq,decide_eq_false (by omega)]; rfl
theorem ag99:aggOf Tryz.prog 99=some 4:=by kernel_rfl
theorem en127:Enters Tryz.prog 127:=enters_of Tryz.func127 (by kernel_rfl) rfl
theorem en90:Enters Tryz.prog 90:=enters_of Tryz.func90 (by kernel_rfl) rfl
theorem en91:Enters Tryz.prog 91:=enters_of Tryz.func91 (by kernel_rfl) rfl
theorem fo99_2:fieldOff Tryz.prog 99 2=some 2:=by kernel_rfl
theorem en92:Enters Tryz.prog 92:=enters_of Tryz.func92 (by kernel_rfl) rfl
theorem pnodesF_any (HU H:View) (ke0 ku:Nat) (us:List TUnit) (ka:Option Addr) (kc nu:Nat) (al:Bool) (kn:List KnW) (locs:Int) (k:Nat) (l:List TNode) (a:Option Addr) (c:Nat) (d:Nat) (w:World) (hHU:Le HU w) (hH:Le H w) (hus:Sl (rdU2 ke0 ku) 5 HU ka kc us) (hpl:PlOk us nu al kn) (hnu:nu≤1000) (hlo:0≤locs∧locs≤1000) (hN:∀k2,k2<k→QNode HU H us ka kc nu al kn locs k2) (hl:Sl (RdN k) 5 H a c l) (hd:d≤7) :
   Calls Tryz.prog 92 #[.agg #[.slice ka us.length kc,.int .i64 (nu:Int),.int .i64 locs,.bool al],.slice a l.length c,.int .i64 (d:Int)] w fun e w'=>e = .returned (.bool (nodesK kn locs l d))∧Ext w w':=by
 have hucap:=hus.cap
 have humax:=hus.max
 have hcap:=hl.cap
 have hmax:=hl.max
 refine enter Tryz.func92 rfl 22 rfl rfl ?_
 refine CWd (W':=Ws w [] [] [HU,H]) (fun _ e=>by subst e; exact Ws.init (by simp [hHU,hH])) ?_
 refine Cs (Cr ?_)
 refine WL.box (.inl rfl) rfl rfl fun b3=>?_
 refine V0 (Ya rfl) (Ln (Et (Cs (Cs (Cr (V0 (Ya rfl) (Ln (Et (Cb ?_)))))))))
 refine CW (ι:=Nat) (fun i=>[(7,.int .i64 (i:Int))]) [(1,_),(2,_),(3,_)] (fun i=>i≤l.length∧(l.take i).all (nodeK kn locs · d)=true) (fun i=>l.length-i) 0 ⟨Nat.zero_le _,rfl⟩ (sc rfl (sc rfl (sc rfl (sc rfl sn)))) ?_
 intro i ⟨hi,hall⟩
 refine Cs (Cs (Cr (V0 (Ym rfl) (V0 (Ym rfl) (V0 (Yn es102 rfl) (V0 (yl_lt rfl rfl) (Ln (Et ?_))))))))
 refine Cc rfl (fun hc0=>?_) (fun hc0=>?_)
 ·
  have hlt:i<l.length:=by simpa using hc0
  obtain ⟨x,hxi⟩:∃q,l[i]? = some q:=⟨_,List.getElem?_eq_getElem hlt⟩
  obtain ⟨pbx,pox,hax,hrx⟩:=hl.elt i x hxi
  obtain ⟨k2,rfl⟩:∃k2,k=k2+1:=by
    cases k with
    | zero=>exact hrx.elim
    | succ k2=>exact ⟨k2,rfl⟩
  obtain ⟨xa,xc,hrow,hsub⟩:=hrx
  refine Ck (Et (Cs (Cb (Cs ?_))))
  refine WC.draws0 [(0,true),(1,true),(2,true),(3,true),(4,true),(5,true),(6,false),(7,true)] mixed (by kernel_rfl) (fun _ _ _ d _ h=>by cases d<;>exact h) ?_
  refine Dq rfl (.inl rfl) rfl (fun _ h=>h) (Yda 0 rfl rfl ag99 rfl) ?_
  refine Dq rfl (.inl rfl) rfl (fun _ h=>h) (Ym rfl) ?_
  refine Dq rfl (.inl rfl) rfl (fun _ h=>h) (Ym rfl) ?_
  refine Dq rfl (.inl rfl) rfl (fun _ h=>h) (Yo es102 rfl rfl hax hlt) ?_
  refine Dq rfl (.inl rfl) rfl (fun _ h=>h) (yl_lda 1 ag138 rfl rfl rfl (hrow)) ?_
  refine Dq rfl (.inl rfl) rfl (fun _ h=>h) (Ym rfl) ?_
  refine De rfl (fun _ h=>h) ?_
  refine Lp (.inl rfl) rfl en127 rfl (fun w hw=>hN k2 (by omega) x xa xc d w (hw.vs _ (by simp)) (hw.vs _ (by simp)) hsub hd) ?_
  refine Ln (Ed ?_)
  refine Dq rfl (.inl rfl) rfl (fun _ h=>h) (yl_not rfl) ?_
  refine WD.nil (fun _ h=>h) ?_
  refine Et ?_
  refine Cc rfl (fun hc1=>?_) (fun hc1=>?_)
  ·
   have hx:nodeK kn locs x d=false:=by simpa using hc1
   refine Cs (Cr (V0 (Ya rfl) (Ln (Et (Crt (Ebr (Er (Er (Ebr (Er ?_))))))))))
   refine WE.ret1 rfl rfl fun w' hw=>?_
   exact ⟨by rw [nodesK_all,all_hit hxi hx],hw.fr⟩
  ·
   have hx:nodeK kn locs x d=true:=by simpa using hc1
   refine Ck (Eb (Et (Cr (V0 (Ym rfl) ?_))))
   refine V0 (Yi rfl rfl rfl (by omega)) ?_
   refine V0 (Ya rfl) (Ln ?_)
   exact Ea (i+1) (by omega) ⟨by omega,all_take hxi hall hx⟩ (sc rfl (sc rfl (sc rfl (sc rfl sn)))) (fun _ h=>h)
 ·
  have hge:¬i<l.length:=by simpa using hc0
  rw [List.take_of_length_le (by omega)] at hall
  refine Ce (Ex (Ex (Ebh (Et (Cs (Cr (V0 (Ya rfl) (Ln (Et (Crt ?_))))))))))
  refine WE.ret1 rfl rfl fun w' hw=>?_
  exact ⟨by rw [nodesK_all,hall],hw.fr⟩
theorem pnodeF_any (HU H:View) (ke0 ku:Nat) (us:List TUnit) (ka:Option Addr) (kc nu:Nat) (al:Bool) (kn:List KnW) (locs:Int) (k:Nat) (x:TNode) (a:Option Addr) (c:Nat) (d:Nat) (w:World) (hHU:Le HU w) (hH:Le H w) (hus:Sl (rdU2 ke0 ku) 5 HU ka kc us) (hpl:PlOk us nu al kn) (hnu:nu≤1000) (hlo:0≤locs∧locs≤1000) (hl:Sl (RdN k) 5 H a c x.args) (hd:d≤7) :
   Calls Tryz.prog 127 #[.agg #[.slice ka us.length kc,.int .i64 (nu:Int),.int .i64 locs,.bool al],.agg (nodeV x a c).toArray,.int .i64 (d:Int)] w fun e w'=>e = .returned (.bool (nodeK kn locs x d))∧Ext w w':=by
 have hucap:=hus.cap
 have humax:=hus.max
 induction k using Nat.strongRecOn generalizing x a c d w
 rename_i k ih
 have hN:∀k2,k2<k→QNode HU H us ka kc nu al kn locs k2:=fun k2 h x a c d w h1 h2 h3 h4=>ih k2 h x a c d w h1 h2 h3 h4
 have hcap:=hl.cap
 have hmax:=hl.max
 refine enter Tryz.func127 rfl 180 rfl rfl ?_
 refine CWd (W':=Ws w [] [] [HU,H]) (fun _ e=>by subst e; exact Ws.init (by simp [hHU,hH])) ?_
 refine Cs (Cr ?_)
 refine WL.box (.inl rfl) rfl rfl fun b3=>?_
 refine WL.box (.inl rfl) rfl rfl fun b4=>?_
 refine V0 (Ya rfl) (Ln (Et (Cs (Cs (Cr (V0 (Ym rfl) (V0 (yl_gt rfl rfl) (Ln (Et ?_)))))))))
 refine Cc rfl (fun hc0=>?_) (fun hc0=>?_)
 ·
  have hd6:6<d:=by simp at hc0; omega
  refine Cs (Cr (V0 (Ya rfl) (Ln (Et (Crt (Er ?_))))))
  refine WE.ret1 rfl rfl fun w' hw=>?_
  exact ⟨by rw [nodeK_no hd6],hw.fr⟩
 ·
  have hd6:d≤6:=by simp at hc0; omega
  refine Ck (Et (Cs (Cr (V0 (Yf fo138_2 rfl) (V0 (Yd 0 rfl rfl rfl na3) (V0 (yl_eq rfl rfl) (V0 (Ym rfl) ?_)))))))
  apply WL.and 3 rfl rfl rfl rfl (.inl rfl) rfl rfl rfl rfl rfl
  ·
   intro hg0
   refine Lv (.g rfl rfl rfl) rfl (Yf fo138_3 rfl) (Lv (.g rfl rfl rfl) rfl (Yd 0 rfl rfl rfl na3) (Lv (.g rfl rfl rfl) rfl (yl_eq rfl rfl) ?_))
   exact Gt 3 rfl rfl rfl
  refine V0 (Ya rfl) (Ln (Et (Cs (Cr (V0 (Ya rfl) (Ln (Et ?_)))))))
  refine WC.cutE (ι:=Bool) (fun bb=>[(2,.int .i64 (d:Int)),(3,.pointer (some ⟨b3,0,none⟩)),(4,.pointer (some ⟨b4,0,none⟩)),(8,.bool bb)]) (fun bb=>Ws w [] [blk b3 (.cells #[.slice ka us.length kc,.int .i64 (nu:Int),.int .i64 locs,.bool al] 99 (0,0)),blk b4 (.cells (nodeV x a c).toArray 138 (0,0))] [HU,H]) (fun bb=>bb=node1 kn locs x.op x.n x.m x.pl x.args.length) ?_ ?_
  ·
   refine Cb (Cs (Cr (V0 (Yf fo138_0 rfl) (V0 (Yd 0 rfl rfl rfl na3) (V0 (yl_eq rfl rfl) (V0 (Ya rfl) (Ln (Et ?_))))))))
   refine Cc rfl (fun hc1=>?_) (fun hc1=>?_)
   ·
    have ho:x.op=1:=by simpa using hc1
    refine Cr (V0 (Ym rfl) (V0 (Ym rfl) ?_))
    apply WL.and 3 rfl rfl rfl rfl (.inl rfl) rfl rfl rfl rfl rfl
    ·
     intro hg1
     refine Lv (.g rfl rfl rfl) rfl (Yf fo138_1 rfl) (Lv (.g rfl rfl rfl) rfl (Yd 0 rfl rfl rfl na3) ?_)
     refine Lp (.g rfl rfl rfl) rfl en34 rfl (fun w hw=>within_any _ _ _ w) ?_
     exact Gt 3 rfl rfl rfl
    refine V0 (Ym rfl) ?_
    apply WL.and 4 rfl rfl rfl rfl (.inl rfl) rfl rfl rfl rfl rfl
    ·
     intro hg2
     refine Lv (.g rfl rfl rfl) rfl (Yf fo138_4 rfl) (Lv (.g rfl rfl rfl) rfl (Yd 0 rfl rfl rfl na102) (Lv (.g rfl rfl rfl) rfl (Yn es102 rfl) (Lv (.g rfl rfl rfl) rfl (yl_eq rfl rfl) ?_)))
     exact Gt 4 rfl rfl rfl
    refine V0 (Ya rfl) (Ln (Eb ?_))
    exact WE.meetE _ (by (rw [node1,if_pos ho])<;>(try rw [within_local])<;>simp only [within,arrayB,Bool.and_assoc,Bool.and_comm,Bool.and_left_comm]) (sc rfl (sc rfl (sc rfl (sc rfl sn)))) (fun _ h=>by
      have h:=h.fronti 0 rfl
      have h:=h.fronti 1 rfl
      exact h)
   ·
    have hn1:¬x.op=1:=by simpa using hc1
    refine Cs (Cr (V0 (Yf fo138_0 rfl) (V0 (Yd 0 rfl rfl rfl na3) (V0 (yl_eq rfl rfl) (V0 (Ya rfl) (Ln (Et ?_)))))))
    refine Cc rfl (fun hc2=>?_) (fun hc2=>?_)
    ·
     have ho:x.op=2:=by simpa using hc2
     refine Cr (V0 (Ym rfl) (V0 (Ym rfl) ?_))
     apply WL.and 3 rfl rfl rfl rfl (.inl rfl) rfl rfl rfl rfl rfl
     ·
      intro hg3
      refine Lv (.g rfl rfl rfl) rfl (Yf fo138_1 rfl) (Lv (.g rfl rfl rfl) rfl (Yd 0 rfl rfl rfl na3) (Lv (.g rfl rfl rfl) rfl (yl_eq rfl rfl) ?_))
      exact Gt 3 rfl rfl rfl
     refine V0 (Ym rfl) ?_
     apply WL.and 4 rfl rfl rfl rfl (.inl rfl) rfl rfl rfl rfl rfl
     ·
      intro hg4
      refine Lv (.g rfl rfl rfl) rfl (Yf fo138_4 rfl) (Lv (.g rfl rfl rfl) rfl (Yd 0 rfl rfl rfl na102) (Lv (.g rfl rfl rfl) rfl (Yn es102 rfl) (Lv (.g rfl rfl rfl) rfl (yl_eq rfl rfl) ?_)))
      exact Gt 4 rfl rfl rfl
     refine V0 (Ya rfl) (Ln (Eb ?_))
     exact WE.meetE _ (by (rw [node1,if_neg (show ¬x.op=1 by omega),if_neg (show ¬x.op=3 by omega),if_neg (show ¬x.op=4 by omega),if_neg (show ¬x.op=5 by omega),if_neg (show ¬x.op=16 by omega),if_pos ho])<;>(try rw [within_local])<;>simp only [within,arrayB,Bool.and_assoc,Bool.and_comm,Bool.and_left_comm]) (sc rfl (sc rfl (sc rfl (sc rfl sn)))) (fun _ h=>by
       have h:=h.fronti 0 rfl
       have h:=h.fronti 1 rfl
       exact h)
    ·
     have hn2:¬x.op=2:=by simpa using hc2
     refine Cs (Cr (V0 (Yf fo138_0 rfl) (V0 (Yd 0 rfl rfl rfl na3) (V0 (yl_eq rfl rfl) (V0 (Ya rfl) (Ln (Et ?_)))))))
     refine Cc rfl (fun hc3=>?_) (fun hc3=>?_)
     ·
      have ho:x.op=3:=by simpa using hc3
      refine Cr (V0 (Yf fo138_1 rfl) (V0 (Yd 0 rfl rfl rfl na3) (V0 (yl_eq rfl rfl) (V0 (Ym rfl) ?_))))
      apply WL.and 4 rfl rfl rfl rfl (.inl rfl) rfl rfl rfl rfl rfl
      ·
       intro hg5
       refine Lv (.g rfl rfl rfl) rfl (Yf fo138_4 rfl) (Lv (.g rfl rfl rfl) rfl (Yd 0 rfl rfl rfl na102) (Lv (.g rfl rfl rfl) rfl (Yn es102 rfl) (Lv (.g rfl rfl rfl) rfl (yl_eq rfl rfl) ?_)))
       exact Gt 4 rfl rfl rfl
      refine V0 (Ym rfl) ?_
      apply WL.and 6 rfl rfl rfl rfl (.inl rfl) rfl rfl rfl rfl rfl
      ·
       intro hg6
       refine Lv (.g rfl rfl rfl) rfl (Yda 1 rfl rfl ag99 rfl) (Lv (.g rfl rfl rfl) rfl (Yf fo138_2 rfl) (Lv (.g rfl rfl rfl) rfl (Yd 0 rfl rfl rfl na3) (Lv (.g rfl rfl rfl) rfl (Yf fo138_3 rfl) (Lv (.g rfl rfl rfl) rfl (Yd 0 rfl rfl rfl na3) ?_))))
       refine Lp (.g rfl rfl rfl) rfl en90 rfl (fun w hw=>pdata_any HU ke0 ku us ka kc nu al kn locs x.m x.pl 1 w (hw.vs _ (by simp)) hus hpl hnu hlo (by omega)) ?_
       exact Gt 6 rfl rfl rfl
      refine V0 (Ya rfl) (Ln (Eb ?_))
      exact WE.meetE _ (by (rw [node1,if_neg (show ¬x.op=1 by omega),if_pos ho])<;>(try rw [within_local])<;>simp only [within,arrayB,Bool.and_assoc,Bool.and_comm,Bool.and_left_comm]) (sc rfl (sc rfl (sc rfl (sc rfl sn)))) (fun _ h=>by
        have h:=h.fronti 0 rfl
        have h:=h.fronti 1 rfl
        exact h)
     ·
      have hn3:¬x.op=3:=by simpa using hc3
      refine Cs (Cr (V0 (Yf fo138_0 rfl) (V0 (Yd 0 rfl rfl rfl na3) (V0 (yl_eq rfl rfl) (V0 (Ya rfl) (Ln (Et ?_)))))))
      refine Cc rfl (fun hc4=>?_) (fun hc4=>?_)
      ·
       have ho:x.op=4:=by simpa using hc4
       refine Cr (V0 (Yf fo138_1 rfl) (V0 (Yd 0 rfl rfl rfl na3) ?_))
       refine Lp (.inl rfl) rfl en34 rfl (fun w hw=>within_any _ _ _ w) ?_
       refine V0 (Ym rfl) ?_
       apply WL.and 4 rfl rfl rfl rfl (.inl rfl) rfl rfl rfl rfl rfl
       ·
        intro hg7
        refine Lv (.g rfl rfl rfl) rfl (Yf fo138_4 rfl) (Lv (.g rfl rfl rfl) rfl (Yd 0 rfl rfl rfl na102) (Lv (.g rfl rfl rfl) rfl (Yn es102 rfl) (Lv (.g rfl rfl rfl) rfl (yl_eq rfl rfl) ?_)))
        exact Gt 4 rfl rfl rfl
       refine V0 (Ym rfl) ?_
       apply WL.and 8 rfl rfl rfl rfl (.inl rfl) rfl rfl rfl rfl rfl
       ·
        intro hg8
        have har:0≤x.n∧x.n≤32:=by
          have h9:=(Bool.and_eq_true_iff.1 hg8).1
          simp [within] at h9
          omega
        refine Lv (.g rfl rfl rfl) rfl (Yda 1 rfl rfl ag99 rfl) (Lv (.g rfl rfl rfl) rfl (Yf fo138_2 rfl) (Lv (.g rfl rfl rfl) rfl (Yd 0 rfl rfl rfl na3) (Lv (.g rfl rfl rfl) rfl (Yf fo138_3 rfl) (Lv (.g rfl rfl rfl) rfl (Yd 0 rfl rfl rfl na3) (Lv (.g rfl rfl rfl) rfl (Yf fo138_1 rfl) ?_)))))
        refine Lv (.g rfl rfl rfl) rfl (Yd 0 rfl rfl rfl na3) ?_
        refine Lp (.g rfl rfl rfl) rfl en90 rfl (fun w hw=>pdata_any HU ke0 ku us ka kc nu al kn locs x.m x.pl x.n w (hw.vs _ (by simp)) hus hpl hnu hlo har) ?_
        exact Gt 8 rfl rfl rfl
       refine V0 (Ya rfl) (Ln (Eb ?_))
       exact WE.meetE _ (by (rw [node1,if_neg (show ¬x.op=1 by omega),if_neg (show ¬x.op=3 by omega),if_pos ho])<;>(try rw [within_local])<;>simp only [within,arrayB,Bool.and_assoc,Bool.and_comm,Bool.and_left_comm]) (sc rfl (sc rfl (sc rfl (sc rfl sn)))) (fun _ h=>by
         have h:=h.fronti 0 rfl
         have h:=h.fronti 1 rfl
         exact h)
      ·
       have hn4:¬x.op=4:=by simpa using hc4
       refine Cs (Cr (V0 (Yf fo138_0 rfl) (V0 (Yd 0 rfl rfl rfl na3) (V0 (yl_eq rfl rfl) (V0 (Ya rfl) (Ln (Et ?_)))))))
       refine Cc rfl (fun hc5=>?_) (fun hc5=>?_)
       ·
        have ho:x.op=5:=by simpa using hc5
        refine Cr (V0 (Yf fo138_1 rfl) (V0 (Yd 0 rfl rfl rfl na3) (V0 (yl_eq rfl rfl) (V0 (Ym rfl) ?_))))
        apply WL.and 9 rfl rfl rfl rfl (.inl rfl) rfl rfl rfl rfl rfl
        ·
         intro hg9
         refine Lv (.g rfl rfl rfl) rfl (Yda 1 rfl rfl ag99 rfl) (Lv (.g rfl rfl rfl) rfl (Yf fo138_2 rfl) (Lv (.g rfl rfl rfl) rfl (Yd 0 rfl rfl rfl na3) (Lv (.g rfl rfl rfl) rfl (Yf fo138_3 rfl) (Lv (.g rfl rfl rfl) rfl (Yd 0 rfl rfl rfl na3) (Lv (.g rfl rfl rfl) rfl (Yf fo138_4 rfl) ?_)))))
         refine Lv (.g rfl rfl rfl) rfl (Yd 0 rfl rfl rfl na102) (Lv (.g rfl rfl rfl) rfl (Yn es102 rfl) ?_)
         refine Lp (.g rfl rfl rfl) rfl en91 rfl (fun w hw=>ppart_any HU ke0 ku us ka kc nu al kn locs x.m x.pl x.args.length w (hw.vs _ (by simp)) hus hpl hnu hlo) ?_
         exact Gt 9 rfl rfl rfl
        refine V0 (Ya rfl) (Ln (Eb ?_))
        exact WE.meetE _ (by (rw [node1,if_neg (show ¬x.op=1 by omega),if_neg (show ¬x.op=3 by omega),if_neg (show ¬x.op=4 by omega),if_pos ho])<;>(try rw [within_local])<;>simp only [within,arrayB,Bool.and_assoc,Bool.and_comm,Bool.and_left_comm]) (sc rfl (sc rfl (sc rfl (sc rfl sn)))) (fun _ h=>by
          have h:=h.fronti 0 rfl
          have h:=h.fronti 1 rfl
          exact h)
       ·
        have hn5:¬x.op=5:=by simpa using hc5
        refine Cs (Cr (V0 (Yf fo138_0 rfl) (V0 (Yd 0 rfl rfl rfl na3) (V0 (yl_eq rfl rfl) (V0 (Ya rfl) (Ln (Et ?_)))))))
        refine Cc rfl (fun hc6=>?_) (fun hc6=>?_)
        ·
         have ho:x.op=6:=by simpa using hc6
         refine Cr (V0 (Ym rfl) (V0 (Ym rfl) ?_))
         apply WL.and 3 rfl rfl rfl rfl (.inl rfl) rfl rfl rfl rfl rfl
         ·
          intro hg10
          refine Lv (.g rfl rfl rfl) rfl (Yf fo138_1 rfl) (Lv (.g rfl rfl rfl) rfl (Yd 0 rfl rfl rfl na3) (Lv (.g rfl rfl rfl) rfl (yl_eq rfl rfl) ?_))
          exact Gt 3 rfl rfl rfl
         refine V0 (Ym rfl) ?_
         apply WL.and 4 rfl rfl rfl rfl (.inl rfl) rfl rfl rfl rfl rfl
         ·
          intro hg11
          refine Lv (.g rfl rfl rfl) rfl (Yf fo138_4 rfl) (Lv (.g rfl rfl rfl) rfl (Yd 0 rfl rfl rfl na102) (Lv (.g rfl rfl rfl) rfl (Yn es102 rfl) (Lv (.g rfl rfl rfl) rfl (yl_eq rfl rfl) ?_)))
          exact Gt 4 rfl rfl rfl
         refine V0 (Ya rfl) (Ln (Eb ?_))
         exact WE.meetE _ (by (rw [node1,if_neg (show ¬x.op=1 by omega),if_neg (show ¬x.op=3 by omega),if_neg (show ¬x.op=4 by omega),if_neg (show ¬x.op=5 by omega),if_neg (show ¬x.op=16 by omega),if_neg (show ¬x.op=2 by omega),if_pos ho])<;>(try rw [within_local])<;>simp only [within,arrayB,Bool.and_assoc,Bool.and_comm,Bool.and_left_comm]) (sc rfl (sc rfl (sc rfl (sc rfl sn)))) (fun _ h=>by
           have h:=h.fronti 0 rfl
           have h:=h.fronti 1 rfl
           exact h)
        ·
         have hn6:¬x.op=6:=by simpa using hc6
         refine Cs (Cr (V0 (Yf fo138_0 rfl) (V0 (Yd 0 rfl rfl rfl na3) ?_)))
         refine Lp (.inl rfl) rfl en34 rfl (fun w hw=>within_any _ _ _ w) ?_
         refine V0 (Ya rfl) (Ln (Et ?_))
         refine Cc rfl (fun hc7=>?_) (fun hc7=>?_)
         ·
          have ho:7≤x.op∧x.op≤15:=by simpa [within] using hc7
          refine Cr (V0 (Ym rfl) (V0 (Ym rfl) ?_))
          apply WL.and 3 rfl rfl rfl rfl (.inl rfl) rfl rfl rfl rfl rfl
          ·
           intro hg12
           refine Lv (.g rfl rfl rfl) rfl (Yf fo138_1 rfl) (Lv (.g rfl rfl rfl) rfl (Yd 0 rfl rfl rfl na3) (Lv (.g rfl rfl rfl) rfl (yl_eq rfl rfl) ?_))
           exact Gt 3 rfl rfl rfl
          refine V0 (Ym rfl) ?_
          apply WL.and 4 rfl rfl rfl rfl (.inl rfl) rfl rfl rfl rfl rfl
          ·
           intro hg13
           refine Lv (.g rfl rfl rfl) rfl (Yf fo138_4 rfl) (Lv (.g rfl rfl rfl) rfl (Yd 0 rfl rfl rfl na102) (Lv (.g rfl rfl rfl) rfl (Yn es102 rfl) (Lv (.g rfl rfl rfl) rfl (yl_eq rfl rfl) ?_)))
           exact Gt 4 rfl rfl rfl
          refine V0 (Ya rfl) (Ln (Eb ?_))
          exact WE.meetE _ (by (rw [node1,if_neg (show ¬x.op=1 by omega),if_neg (show ¬x.op=3 by omega),if_neg (show ¬x.op=4 by omega),if_neg (show ¬x.op=5 by omega),if_neg (show ¬x.op=16 by omega),if_neg (show ¬x.op=2 by omega),if_neg (show ¬x.op=6 by omega),if_pos ho])<;>(try rw [within_local])<;>simp only [within,arrayB,Bool.and_assoc,Bool.and_comm,Bool.and_left_comm]) (sc rfl (sc rfl (sc rfl (sc rfl sn)))) (fun _ h=>by
            have h:=h.fronti 0 rfl
            have h:=h.fronti 1 rfl
            exact h)
         ·
          have hn7:¬(7≤x.op∧x.op≤15):=by
            intro h
            have h9:within x.op 7 15=true:=by simpa [within] using h
            rw [h9] at hc7; cases hc7
          refine Cs (Cr (V0 (Yf fo138_0 rfl) (V0 (Yd 0 rfl rfl rfl na3) (V0 (yl_eq rfl rfl) (V0 (Ya rfl) (Ln (Et ?_)))))))
          refine Cc rfl (fun hc8=>?_) (fun hc8=>?_)
          ·
           have ho:x.op=16:=by simpa using hc8
           refine Cr (V0 (Yf fo138_2 rfl) (V0 (Yd 0 rfl rfl rfl na3) (V0 (yl_eq rfl rfl) (V0 (Ym rfl) ?_))))
           apply WL.and 3 rfl rfl rfl rfl (.inl rfl) rfl rfl rfl rfl rfl
           ·
            intro hg14
            refine Lv (.g rfl rfl rfl) rfl (Yf fo138_1 rfl) (Lv (.g rfl rfl rfl) rfl (Yd 0 rfl rfl rfl na3) (Lv (.g rfl rfl rfl) rfl (yl_eq rfl rfl) ?_))
            exact Gt 3 rfl rfl rfl
           refine V0 (Ym rfl) ?_
           apply WL.and 4 rfl rfl rfl rfl (.inl rfl) rfl rfl rfl rfl rfl
           ·
            intro hg15
            refine Lv (.g rfl rfl rfl) rfl (Yf fo138_4 rfl) (Lv (.g rfl rfl rfl) rfl (Yd 0 rfl rfl rfl na102) (Lv (.g rfl rfl rfl) rfl (Yn es102 rfl) (Lv (.g rfl rfl rfl) rfl (yl_eq rfl rfl) ?_)))
            exact Gt 4 rfl rfl rfl
           refine V0 (Ym rfl) ?_
           apply WL.and 6 rfl rfl rfl rfl (.inl rfl) rfl rfl rfl rfl rfl
           ·
            intro hg16
            refine Lv (.g rfl rfl rfl) rfl (Yf fo138_3 rfl) (Lv (.g rfl rfl rfl) rfl (Yd 0 rfl rfl rfl na3) (Lv (.g rfl rfl rfl) rfl (Yf fo99_2 rfl) (Lv (.g rfl rfl rfl) rfl (Yd 1 rfl rfl rfl na3) ?_)))
            refine Lv (.g rfl rfl rfl) rfl (yl_subv (locs-1) rfl rfl rfl (by omega)) ?_
            refine Lp (.g rfl rfl rfl) rfl en34 rfl (fun w hw=>within_any _ _ _ w) ?_
            exact Gt 6 rfl rfl rfl
           refine V0 (Ya rfl) (Ln (Eb ?_))
           exact WE.meetE _ (by (rw [node1,if_neg (show ¬x.op=1 by omega),if_neg (show ¬x.op=3 by omega),if_neg (show ¬x.op=4 by omega),if_neg (show ¬x.op=5 by omega),if_pos ho])<;>(try rw [within_local])<;>simp only [within,arrayB,Bool.and_assoc,Bool.and_comm,Bool.and_left_comm]) (sc rfl (sc rfl (sc rfl (sc rfl sn)))) (fun _ h=>by
             have h:=h.fronti 0 rfl
             have h:=h.fronti 1 rfl
             exact h)
          ·
           have hn16:¬x.op=16:=by simpa using hc8
           refine Ck (Eb ?_)
           exact WE.meetE _ (by rw [node1,if_neg (show ¬x.op=1 by omega),if_neg (show ¬x.op=3 by omega),if_neg (show ¬x.op=4 by omega),if_neg (show ¬x.op=5 by omega),if_neg (show ¬x.op=16 by omega),if_neg (show ¬x.op=2 by omega),if_neg (show ¬x.op=6 by omega),if_neg hn7]) (sc rfl (sc rfl (sc rfl (sc rfl sn)))) (fun _ h=>by
             have h:=h.fronti 0 rfl
             have h:=h.fronti 1 rfl
             exact h)
  intro bb hbb
  refine Cs (Cr (V0 (Ym rfl) (V0 (Ym rfl) ?_)))
  apply WL.and 6 rfl rfl rfl rfl (.inl rfl) rfl rfl rfl rfl rfl
  ·
   intro hg17
   refine Lv (.g rfl rfl rfl) rfl (Yda 0 rfl rfl ag99 rfl) (Lv (.g rfl rfl rfl) rfl (Yf fo138_4 rfl) (Lv (.g rfl rfl rfl) rfl (Yd 1 rfl rfl rfl na102) (Lv (.g rfl rfl rfl) rfl (Ym rfl) ?_)))
   refine Lv (.g rfl rfl rfl) rfl (Yi rfl rfl rfl (by omega)) ?_
   refine Lp (.g rfl rfl rfl) rfl en92 rfl (fun w hw=>pnodesF_any HU H ke0 ku us ka kc nu al kn locs k x.args a c (d+1) w (hw.vs _ (by simp)) (hw.vs _ (by simp)) hus hpl hnu hlo hN hl (by omega)) ?_
   exact Gt 6 rfl rfl rfl
  refine V0 (Ya rfl) (Ln (Et (Crt ?_)))
  refine WE.ret1 rfl rfl fun w' hw=>?_
  exact ⟨by rw [nodeK_eq,decide_eq_true hd6,Bool.true_and,hbb],hw.fr⟩
end Go.Proofs.YtpjekjnehiinnaaGreatDoor
end
section
namespace Go.Proofs.YtpjekjnehiinnaaGreatDoor
open Go.Bw
set_option linter.unusedVariables false
set_option linter.unusedSimpArgs false
def QActs (HU H:View) (us:List TUnit) (ka:Option Addr) (kc nu:Nat) (al:Bool) (kn:List KnW) (locs:Int) (ke k:Nat):Prop:=∀(l:List TAct) (a:Option Addr) (c:Nat) (d:Nat) (w:World),Le HU w→Le H w→Sl (RdA ke k) 7 H a c l→d≤7→
 Calls Tryz.prog 46 #[.agg #[.slice ka us.length kc,.int .i64 (nu:Int),.int .i64 locs,.bool al],.slice a l.length c,.int .i64 (d:Int)] w fun e w'=>e = .returned (.bool (actsK kn locs l d))∧Ext w w'
theorem bare_sum (a b:Nat):(((a:Int)==0)&&((b:Int)==0))=((a:Int)+(b:Int)==0):=by
 rw [Bool.eq_iff_iff]
 simp
 omega
theorem data_neg (kn:List KnW) (m pl:Int):((m != -1)&&dataB kn m pl 1)=dataB kn m pl 1:=by
 cases h:dataB kn m pl 1 with
 | false=>simp
 | true=>
   cases hd:dataC kn m pl with
   | true=>rw [dataB_no 1 hd] at h; cases h
   | false=>obtain ⟨⟨mi,e,_⟩,_⟩:=dataC_in hd; rw [Bool.and_true,bne_iff_ne]; omega
theorem actK_no {kn:List KnW} {locs:Int} {x:TAct} {d:Nat} (h:(!(act1 kn locs x.op x.n x.m x.pl x.args.length x.body.length x.other.length)||!(nodesK kn locs x.args 1))=true):actK kn locs x d=false:=by
 rw [actK_eq]
 revert h
 cases act1 kn locs x.op x.n x.m x.pl x.args.length x.body.length x.other.length<;>cases nodesK kn locs x.args 1<;>simp
theorem actK_yes {kn:List KnW} {locs:Int} {x:TAct} {d:Nat} (h:(!(act1 kn locs x.op x.n x.m x.pl x.args.length x.body.length x.other.length)||!(nodesK kn locs x.args 1))=false):((((x.op != 4)&&(x.op != 5))||actsK kn locs x.body (d+1))&&(((x.other.length:Int)==0)||actsK kn locs x.other (d+1)))=actK kn locs x d:=by
 obtain ⟨h1,h2⟩:=Bool.or_eq_false_iff.1 h
 rw [actK_eq,show act1 kn locs x.op x.n x.m x.pl x.args.length x.body.length x.other.length=true by simpa using h1,show nodesK kn locs x.args 1=true by simpa using h2]
 unfold ifWh
 rw [show ((x.other.length:Int)==0) = !(decide (0<x.other.length)) by rw [Bool.eq_iff_iff]; simp]
 show (((!(x.op==4)&&!(x.op==5))||_)&&_)=_
 cases (x.op==4)<;>cases (x.op==5)<;>rfl
theorem en46:Enters Tryz.prog 46:=enters_of Tryz.func46 (by kernel_rfl) rfl
theorem pactF_any (HU H:View) (ke0 ku:Nat) (us:List TUnit) (ka:Option Addr) (kc nu:Nat) (al:Bool) (kn:List KnW) (locs:Int) (k:Nat) (x:TAct) (r:AAt) (d:Nat) (w:World) (hHU:Le HU w) (hH:Le H w) (hus:Sl (rdU2 ke0 ku) 5 HU ka kc us) (hpl:PlOk us nu al kn) (hnu:nu≤1000) (hlo:0≤locs∧locs≤1000) (ke:Nat) (hA:QActs HU H us ka kc nu al kn locs ke k) (h1:Sl (RdN ke) 5 H r.s1.1 r.s1.2 x.args) (h2:Sl (RdA ke k) 7 H r.s2.1 r.s2.2 x.body) (h3:Sl (RdA ke k) 7 H r.s3.1 r.s3.2 x.other) (hd:d≤6) :
   Calls Tryz.prog 64 #[.agg #[.slice ka us.length kc,.int .i64 (nu:Int),.int .i64 locs,.bool al],.agg (actV x r).toArray,.int .i64 (d:Int)] w fun e w'=>e = .returned (.bool (actK kn locs x d))∧Ext w w':=by
 have hucap:=hus.cap
 have humax:=hus.max
 have hN:∀k2,QNode HU H us ka kc nu al kn locs k2:=fun k2 x a c d w g1 g2 g3 g4=>pnodeF_any HU H ke0 ku us ka kc nu al kn locs k2 x a c d w g1 g2 hus hpl hnu hlo g3 g4
 have hcap:=h1.cap
 have hmax:=h1.max
 have hcap2:=h2.cap
 have hmax2:=h2.max
 have hcap3:=h3.cap
 have hmax3:=h3.max
 refine enter Tryz.func64 rfl 194 rfl rfl ?_
 refine CWd (W':=Ws w [] [] [HU,H]) (fun _ e=>by subst e; exact Ws.init (by simp [hHU,hH])) ?_
 refine Cs (Cr ?_)
 refine WL.box (.inl rfl) rfl rfl fun b3=>?_
 refine WL.box (.inl rfl) rfl rfl fun b4=>?_
 refine V0 (Ya rfl) (Ln (Et (Cs (Cr (V0 (Yf fo104_2 rfl) (V0 (Yd 0 rfl rfl rfl na3) (V0 (yl_eq rfl rfl) (V0 (Ym rfl) ?_))))))))
 apply WL.and 3 rfl rfl rfl rfl (.inl rfl) rfl rfl rfl rfl rfl
 ·
  intro hg0
  refine Lv (.g rfl rfl rfl) rfl (Yf fo104_3 rfl) (Lv (.g rfl rfl rfl) rfl (Yd 0 rfl rfl rfl na3) (Lv (.g rfl rfl rfl) rfl (yl_eq rfl rfl) ?_))
  exact Gt 3 rfl rfl rfl
 refine V0 (Ym rfl) ?_
 apply WL.and 3 rfl rfl rfl rfl (.inl rfl) rfl rfl rfl rfl rfl
 ·
  intro hg1
  refine Lv (.g rfl rfl rfl) rfl (Yf fo104_1 rfl) (Lv (.g rfl rfl rfl) rfl (Yd 0 rfl rfl rfl na3) (Lv (.g rfl rfl rfl) rfl (yl_eq rfl rfl) ?_))
  exact Gt 3 rfl rfl rfl
 refine V0 (Ya rfl) (Ln (Et (Cs (Cr (V0 (Yf fo104_5 rfl) (V0 (Yd 0 rfl rfl rfl na24) (V0 (Yn es24 rfl) (V0 (yl_eq rfl rfl) ?_))))))))
 refine V0 (Ym rfl) ?_
 apply WL.and 4 rfl rfl rfl rfl (.inl rfl) rfl rfl rfl rfl rfl
 ·
  intro hg2
  refine Lv (.g rfl rfl rfl) rfl (Yf fo104_6 rfl) (Lv (.g rfl rfl rfl) rfl (Yd 0 rfl rfl rfl na24) (Lv (.g rfl rfl rfl) rfl (Yn es24 rfl) (Lv (.g rfl rfl rfl) rfl (yl_eq rfl rfl) ?_)))
  exact Gt 4 rfl rfl rfl
 refine V0 (Ya rfl) (Ln (Et (Cs (Cr (V0 (Ya rfl) (Ln (Et ?_)))))))
 refine WC.cutE (ι:=Bool) (fun bb=>[(2,.int .i64 (d:Int)),(3,.pointer (some ⟨b3,0,none⟩)),(4,.pointer (some ⟨b4,0,none⟩)),(9,.bool bb)]) (fun bb=>Ws w [] [blk b3 (.cells #[.slice ka us.length kc,.int .i64 (nu:Int),.int .i64 locs,.bool al] 99 (0,0)),blk b4 (.cells (actV x r).toArray 104 (0,0))] [HU,H]) (fun bb=>bb=act1 kn locs x.op x.n x.m x.pl x.args.length x.body.length x.other.length) ?_ ?_
 ·
  refine Cs (Cr (V0 (Yf fo104_0 rfl) (V0 (Yd 0 rfl rfl rfl na3) (Ln (Et (Cb (Cs (Cr (V0 (yl_eq rfl rfl) (V0 (Ya rfl) ?_))))))))))
  refine Ln (Et ?_)
  refine Cc rfl (fun hc0=>?_) (fun hc0=>?_)
  ·
   have ho:x.op=1:=by simpa using hc0
   refine Cr (V0 (Yf fo104_1 rfl) (V0 (Yd 0 rfl rfl rfl na3) (V0 (yl_eq rfl rfl) (V0 (Ym rfl) ?_))))
   apply WL.and 1 rfl rfl rfl rfl (.inl rfl) rfl rfl rfl rfl rfl
   ·
    intro hg3
    refine Lv (.g rfl rfl rfl) rfl (Ym rfl) ?_
    exact Gt 1 rfl rfl rfl
   refine V0 (Ym rfl) ?_
   apply WL.and 4 rfl rfl rfl rfl (.inl rfl) rfl rfl rfl rfl rfl
   ·
    intro hg4
    refine Lv (.g rfl rfl rfl) rfl (Yf fo104_4 rfl) (Lv (.g rfl rfl rfl) rfl (Yd 0 rfl rfl rfl na102) (Lv (.g rfl rfl rfl) rfl (Yn es102 rfl) (Lv (.g rfl rfl rfl) rfl (yl_eq rfl rfl) ?_)))
    exact Gt 4 rfl rfl rfl
   refine V0 (Ym rfl) ?_
   apply WL.and 24 (x:=((x.m==-1)&&within x.pl 0 (locs-1))||((x.m != -1)&&dataB kn x.m x.pl 1)) rfl rfl rfl rfl (.inl rfl) rfl rfl rfl rfl rfl
   ·
    intro hg5
    refine Lv (.g rfl rfl rfl) rfl (Yf fo104_2 rfl) (Lv (.g rfl rfl rfl) rfl (Yd 0 rfl rfl rfl na3) (Lv (.g rfl rfl rfl) rfl (yl_eq rfl rfl) (Lv (.g rfl rfl rfl) rfl (Ym rfl) ?_)))
    apply WL.and 6 rfl rfl rfl rfl (.g rfl rfl rfl) rfl rfl rfl rfl rfl
    ·
     intro hg6
     refine Lv (.g rfl rfl rfl) rfl (Yf fo104_3 rfl) (Lv (.g rfl rfl rfl) rfl (Yd 0 rfl rfl rfl na3) (Lv (.g rfl rfl rfl) rfl (Yf fo99_2 rfl) (Lv (.g rfl rfl rfl) rfl (Yd 1 rfl rfl rfl na3) ?_)))
     refine Lv (.g rfl rfl rfl) rfl (yl_subv (locs-1) rfl rfl rfl (by omega)) ?_
     refine Lp (.g rfl rfl rfl) rfl en34 rfl (fun w hw=>within_any _ _ _ w) ?_
     exact Gt 6 rfl rfl rfl
    refine Lv (.g rfl rfl rfl) rfl (Ym rfl) ?_
    apply WL.or 11 (x:=(x.m != -1)&&dataB kn x.m x.pl 1) rfl rfl rfl rfl (.g rfl rfl rfl) rfl rfl rfl rfl rfl
    ·
     intro hg7
     refine Lv (.g rfl rfl rfl) rfl (Yf fo104_2 rfl) (Lv (.g rfl rfl rfl) rfl (Yd 0 rfl rfl rfl na3) (Lv (.g rfl rfl rfl) rfl (yl_ne rfl rfl) (Lv (.g rfl rfl rfl) rfl (Ym rfl) ?_)))
     apply WL.and 6 rfl rfl rfl rfl (.g rfl rfl rfl) rfl rfl rfl rfl rfl
     ·
      intro hg8
      refine Lv (.g rfl rfl rfl) rfl (Yda 1 rfl rfl ag99 rfl) (Lv (.g rfl rfl rfl) rfl (Yf fo104_2 rfl) (Lv (.g rfl rfl rfl) rfl (Yd 0 rfl rfl rfl na3) (Lv (.g rfl rfl rfl) rfl (Yf fo104_3 rfl) (Lv (.g rfl rfl rfl) rfl (Yd 0 rfl rfl rfl na3) ?_))))
      refine Lp (.g rfl rfl rfl) rfl en90 rfl (fun w hw=>pdata_any HU ke0 ku us ka kc nu al kn locs x.m x.pl 1 w (hw.vs _ (by simp)) hus hpl hnu hlo (by omega)) ?_
      exact Gt 6 rfl rfl rfl
     exact Gt 5 rfl rfl rfl
    exact Gt 7 rfl rfl rfl
   refine V0 (Ya rfl) (Ln (Eb ?_))
   exact WE.meetE _ (by (rw [act1,if_pos ho])<;>(try rw [←bare_sum])<;>(try rw [within_local])<;>(try rw [data_neg])<;>simp only [within,arrayB,Bool.and_assoc,Bool.and_comm,Bool.and_left_comm]) (sc rfl (sc rfl (sc rfl (sc rfl sn)))) (fun _ h=>by
     have h:=h.fronti 0 rfl
     have h:=h.fronti 1 rfl
     exact h)
  ·
   have hn1:¬x.op=1:=by simpa using hc0
   refine Cs (Cr (V0 (yl_eq rfl rfl) (V0 (Ya rfl) (Ln (Et ?_)))))
   refine Cc rfl (fun hc1=>?_) (fun hc1=>?_)
   ·
    have ho:x.op=2:=by simpa using hc1
    refine Cr (V0 (Ym rfl) (V0 (Ym rfl) ?_))
    apply WL.and 3 rfl rfl rfl rfl (.inl rfl) rfl rfl rfl rfl rfl
    ·
     intro hg9
     refine Lv (.g rfl rfl rfl) rfl (Yf fo104_1 rfl) (Lv (.g rfl rfl rfl) rfl (Yd 0 rfl rfl rfl na3) ?_)
     refine Lp (.g rfl rfl rfl) rfl en34 rfl (fun w hw=>within_any _ _ _ w) ?_
     exact Gt 3 rfl rfl rfl
    refine V0 (Ym rfl) ?_
    apply WL.and 4 rfl rfl rfl rfl (.inl rfl) rfl rfl rfl rfl rfl
    ·
     intro hg10
     refine Lv (.g rfl rfl rfl) rfl (Yf fo104_4 rfl) (Lv (.g rfl rfl rfl) rfl (Yd 0 rfl rfl rfl na102) (Lv (.g rfl rfl rfl) rfl (Yn es102 rfl) (Lv (.g rfl rfl rfl) rfl (yl_eq rfl rfl) ?_)))
     exact Gt 4 rfl rfl rfl
    refine V0 (Ym rfl) ?_
    apply WL.and 8 rfl rfl rfl rfl (.inl rfl) rfl rfl rfl rfl rfl
    ·
     intro hg11
     have har:0≤x.n∧x.n≤32:=by
       have h9:=(Bool.and_eq_true_iff.1 (Bool.and_eq_true_iff.1 hg11).1).2
       simp [within] at h9
       omega
     refine Lv (.g rfl rfl rfl) rfl (Yda 1 rfl rfl ag99 rfl) (Lv (.g rfl rfl rfl) rfl (Yf fo104_2 rfl) (Lv (.g rfl rfl rfl) rfl (Yd 0 rfl rfl rfl na3) (Lv (.g rfl rfl rfl) rfl (Yf fo104_3 rfl) (Lv (.g rfl rfl rfl) rfl (Yd 0 rfl rfl rfl na3) (Lv (.g rfl rfl rfl) rfl (Yf fo104_1 rfl) ?_)))))
     refine Lv (.g rfl rfl rfl) rfl (Yd 0 rfl rfl rfl na3) ?_
     refine Lp (.g rfl rfl rfl) rfl en90 rfl (fun w hw=>pdata_any HU ke0 ku us ka kc nu al kn locs x.m x.pl x.n w (hw.vs _ (by simp)) hus hpl hnu hlo har) ?_
     exact Gt 8 rfl rfl rfl
    refine V0 (Ya rfl) (Ln (Eb ?_))
    exact WE.meetE _ (by (rw [act1,if_neg (show ¬x.op=1 by omega),if_pos ho])<;>(try rw [←bare_sum])<;>(try rw [within_local])<;>(try rw [data_neg])<;>simp only [within,arrayB,Bool.and_assoc,Bool.and_comm,Bool.and_left_comm]) (sc rfl (sc rfl (sc rfl (sc rfl sn)))) (fun _ h=>by
      have h:=h.fronti 0 rfl
      have h:=h.fronti 1 rfl
      exact h)
   ·
    have hn2:¬x.op=2:=by simpa using hc1
    refine Cs (Cr (V0 (yl_eq rfl rfl) (V0 (Ya rfl) (Ln (Et ?_)))))
    refine Cc rfl (fun hc2=>?_) (fun hc2=>?_)
    ·
     have ho:x.op=3:=by simpa using hc2
     refine Cr (V0 (Ym rfl) (V0 (Ym rfl) ?_))
     apply WL.and 3 rfl rfl rfl rfl (.inl rfl) rfl rfl rfl rfl rfl
     ·
      intro hg12
      refine Lv (.g rfl rfl rfl) rfl (Yf fo104_1 rfl) (Lv (.g rfl rfl rfl) rfl (Yd 0 rfl rfl rfl na3) (Lv (.g rfl rfl rfl) rfl (yl_eq rfl rfl) ?_))
      exact Gt 3 rfl rfl rfl
     refine V0 (Ym rfl) ?_
     apply WL.and 9 rfl rfl rfl rfl (.inl rfl) rfl rfl rfl rfl rfl
     ·
      intro hg13
      refine Lv (.g rfl rfl rfl) rfl (Yda 1 rfl rfl ag99 rfl) (Lv (.g rfl rfl rfl) rfl (Yf fo104_2 rfl) (Lv (.g rfl rfl rfl) rfl (Yd 0 rfl rfl rfl na3) (Lv (.g rfl rfl rfl) rfl (Yf fo104_3 rfl) (Lv (.g rfl rfl rfl) rfl (Yd 0 rfl rfl rfl na3) (Lv (.g rfl rfl rfl) rfl (Yf fo104_4 rfl) ?_)))))
      refine Lv (.g rfl rfl rfl) rfl (Yd 0 rfl rfl rfl na102) (Lv (.g rfl rfl rfl) rfl (Yn es102 rfl) ?_)
      refine Lp (.g rfl rfl rfl) rfl en91 rfl (fun w hw=>ppart_any HU ke0 ku us ka kc nu al kn locs x.m x.pl x.args.length w (hw.vs _ (by simp)) hus hpl hnu hlo) ?_
      exact Gt 9 rfl rfl rfl
     refine V0 (Ya rfl) (Ln (Eb ?_))
     exact WE.meetE _ (by (rw [act1,if_neg (show ¬x.op=1 by omega),if_neg (show ¬x.op=2 by omega),if_pos ho])<;>(try rw [←bare_sum])<;>(try rw [within_local])<;>(try rw [data_neg])<;>simp only [within,arrayB,Bool.and_assoc,Bool.and_comm,Bool.and_left_comm]) (sc rfl (sc rfl (sc rfl (sc rfl sn)))) (fun _ h=>by
       have h:=h.fronti 0 rfl
       have h:=h.fronti 1 rfl
       exact h)
    ·
     have hn3:¬x.op=3:=by simpa using hc2
     refine Cs (Cr (V0 (yl_eq rfl rfl) (V0 (Ya rfl) (Ln (Et ?_)))))
     refine Cc rfl (fun hc3=>?_) (fun hc3=>?_)
     ·
      have ho:x.op=4:=by simpa using hc3
      refine Cr (V0 (Ym rfl) (V0 (Ym rfl) ?_))
      apply WL.and 4 rfl rfl rfl rfl (.inl rfl) rfl rfl rfl rfl rfl
      ·
       intro hg14
       refine Lv (.g rfl rfl rfl) rfl (Yf fo104_4 rfl) (Lv (.g rfl rfl rfl) rfl (Yd 0 rfl rfl rfl na102) (Lv (.g rfl rfl rfl) rfl (Yn es102 rfl) (Lv (.g rfl rfl rfl) rfl (yl_eq rfl rfl) ?_)))
       exact Gt 4 rfl rfl rfl
      refine V0 (Ya rfl) (Ln (Eb ?_))
      exact WE.meetE _ (by (rw [act1,if_neg (show ¬x.op=1 by omega),if_neg (show ¬x.op=2 by omega),if_neg (show ¬x.op=3 by omega),if_pos ho])<;>(try rw [←bare_sum])<;>(try rw [within_local])<;>(try rw [data_neg])<;>simp only [within,arrayB,Bool.and_assoc,Bool.and_comm,Bool.and_left_comm]) (sc rfl (sc rfl (sc rfl (sc rfl sn)))) (fun _ h=>by
        have h:=h.fronti 0 rfl
        have h:=h.fronti 1 rfl
        exact h)
     ·
      have hn4:¬x.op=4:=by simpa using hc3
      refine Cs (Cr (V0 (yl_eq rfl rfl) (V0 (Ya rfl) (Ln (Et ?_)))))
      refine Cc rfl (fun hc4=>?_) (fun hc4=>?_)
      ·
       have ho:x.op=5:=by simpa using hc4
       refine Cr (V0 (Ym rfl) (V0 (Ym rfl) ?_))
       apply WL.and 4 rfl rfl rfl rfl (.inl rfl) rfl rfl rfl rfl rfl
       ·
        intro hg15
        refine Lv (.g rfl rfl rfl) rfl (Yf fo104_4 rfl) (Lv (.g rfl rfl rfl) rfl (Yd 0 rfl rfl rfl na102) (Lv (.g rfl rfl rfl) rfl (Yn es102 rfl) (Lv (.g rfl rfl rfl) rfl (yl_eq rfl rfl) ?_)))
        exact Gt 4 rfl rfl rfl
       refine V0 (Ym rfl) ?_
       apply WL.and 4 rfl rfl rfl rfl (.inl rfl) rfl rfl rfl rfl rfl
       ·
        intro hg16
        refine Lv (.g rfl rfl rfl) rfl (Yf fo104_6 rfl) (Lv (.g rfl rfl rfl) rfl (Yd 0 rfl rfl rfl na24) (Lv (.g rfl rfl rfl) rfl (Yn es24 rfl) (Lv (.g rfl rfl rfl) rfl (yl_eq rfl rfl) ?_)))
        exact Gt 4 rfl rfl rfl
       refine V0 (Ya rfl) (Ln (Eb ?_))
       exact WE.meetE _ (by (rw [act1,if_neg (show ¬x.op=1 by omega),if_neg (show ¬x.op=2 by omega),if_neg (show ¬x.op=3 by omega),if_neg (show ¬x.op=4 by omega),if_pos ho])<;>(try rw [←bare_sum])<;>(try rw [within_local])<;>(try rw [data_neg])<;>simp only [within,arrayB,Bool.and_assoc,Bool.and_comm,Bool.and_left_comm]) (sc rfl (sc rfl (sc rfl (sc rfl sn)))) (fun _ h=>by
         have h:=h.fronti 0 rfl
         have h:=h.fronti 1 rfl
         exact h)
      ·
       have hn5:¬x.op=5:=by simpa using hc4
       refine Cs (Cs (Cr (V0 (yl_eq rfl rfl) (V0 (Ya rfl) (Ln (Et ?_))))))
       refine Cc rfl (fun hc5=>?_) (fun hc5=>?_)
       ·
        have ho:x.op=6:=by simpa using hc5
        refine Ck (Et ?_)
        refine Cc rfl (fun hc6=>?_) (fun hc6=>?_)
        ·
         refine Cr (V0 (Ym rfl) (V0 (Ym rfl) ?_))
         apply WL.and 1 rfl rfl rfl rfl (.inl rfl) rfl rfl rfl rfl rfl
         ·
          intro hg17
          refine Lv (.g rfl rfl rfl) rfl (Ym rfl) ?_
          exact Gt 1 rfl rfl rfl
         refine V0 (Ym rfl) ?_
         apply WL.and 4 rfl rfl rfl rfl (.inl rfl) rfl rfl rfl rfl rfl
         ·
          intro hg18
          refine Lv (.g rfl rfl rfl) rfl (Yf fo104_4 rfl) (Lv (.g rfl rfl rfl) rfl (Yd 0 rfl rfl rfl na102) (Lv (.g rfl rfl rfl) rfl (Yn es102 rfl) (Lv (.g rfl rfl rfl) rfl (yl_eq rfl rfl) ?_)))
          exact Gt 4 rfl rfl rfl
         refine V0 (Ya rfl) (Ln (Eb ?_))
         exact WE.meetE _ (by (rw [act1,if_neg (show ¬x.op=1 by omega),if_neg (show ¬x.op=2 by omega),if_neg (show ¬x.op=3 by omega),if_neg (show ¬x.op=4 by omega),if_neg (show ¬x.op=5 by omega),if_pos (show x.op=6∨x.op=7 by omega)])<;>(try rw [←bare_sum])<;>(try rw [within_local])<;>(try rw [data_neg])<;>simp only [within,arrayB,Bool.and_assoc,Bool.and_comm,Bool.and_left_comm]) (sc rfl (sc rfl (sc rfl (sc rfl sn)))) (fun _ h=>by
           have h:=h.fronti 0 rfl
           have h:=h.fronti 1 rfl
           exact h)
        ·
         rw [show (x.op==6)=true by rw [ho]; rfl] at hc6; cases hc6
       ·
        have hn6:¬x.op=6:=by simpa using hc5
        refine Cr (V0 (yl_eq rfl rfl) (V0 (Ya rfl) (Ln (Et ?_))))
        refine Cc rfl (fun hc6=>?_) (fun hc6=>?_)
        ·
         have ho:x.op=7:=by simpa using hc6
         refine Cr (V0 (Ym rfl) (V0 (Ym rfl) ?_))
         apply WL.and 1 rfl rfl rfl rfl (.inl rfl) rfl rfl rfl rfl rfl
         ·
          intro hg17
          refine Lv (.g rfl rfl rfl) rfl (Ym rfl) ?_
          exact Gt 1 rfl rfl rfl
         refine V0 (Ym rfl) ?_
         apply WL.and 4 rfl rfl rfl rfl (.inl rfl) rfl rfl rfl rfl rfl
         ·
          intro hg18
          refine Lv (.g rfl rfl rfl) rfl (Yf fo104_4 rfl) (Lv (.g rfl rfl rfl) rfl (Yd 0 rfl rfl rfl na102) (Lv (.g rfl rfl rfl) rfl (Yn es102 rfl) (Lv (.g rfl rfl rfl) rfl (yl_eq rfl rfl) ?_)))
          exact Gt 4 rfl rfl rfl
         refine V0 (Ya rfl) (Ln (Eb ?_))
         exact WE.meetE _ (by (rw [act1,if_neg (show ¬x.op=1 by omega),if_neg (show ¬x.op=2 by omega),if_neg (show ¬x.op=3 by omega),if_neg (show ¬x.op=4 by omega),if_neg (show ¬x.op=5 by omega),if_pos (show x.op=6∨x.op=7 by omega)])<;>(try rw [←bare_sum])<;>(try rw [within_local])<;>(try rw [data_neg])<;>simp only [within,arrayB,Bool.and_assoc,Bool.and_comm,Bool.and_left_comm]) (sc rfl (sc rfl (sc rfl (sc rfl sn)))) (fun _ h=>by
           have h:=h.fronti 0 rfl
           have h:=h.fronti 1 rfl
           exact h)
        ·
         have hn7:¬x.op=7:=by simpa using hc6
         refine Ck (Eb ?_)
         exact WE.meetE _ (by rw [act1,if_neg (show ¬x.op=1 by omega),if_neg (show ¬x.op=2 by omega),if_neg (show ¬x.op=3 by omega),if_neg (show ¬x.op=4 by omega),if_neg (show ¬x.op=5 by omega),if_neg (show ¬(x.op=6∨x.op=7) by omega)]) (sc rfl (sc rfl (sc rfl (sc rfl sn)))) (fun _ h=>by
           have h:=h.fronti 0 rfl
           have h:=h.fronti 1 rfl
           exact h)
 intro bb hbb
 refine Cs (Cs (Cr (V0 (Ym rfl) (V0 (yl_not rfl) (V0 (Ym rfl) ?_)))))
 apply WL.or 5 rfl rfl rfl rfl (.inl rfl) rfl rfl rfl rfl rfl
 ·
  intro hg19
  refine Lv (.g rfl rfl rfl) rfl (Yda 0 rfl rfl ag99 rfl) (Lv (.g rfl rfl rfl) rfl (Yf fo104_4 rfl) (Lv (.g rfl rfl rfl) rfl (Yd 1 rfl rfl rfl na102) ?_))
  refine Lp (.g rfl rfl rfl) rfl en92 rfl (fun w hw=>pnodesF_any HU H ke0 ku us ka kc nu al kn locs ke x.args r.s1.1 r.s1.2 1 w (hw.vs _ (by simp)) (hw.vs _ (by simp)) hus hpl hnu hlo (fun k2 _=>hN k2) h1 (by omega)) ?_
  refine Lv (.g rfl rfl rfl) rfl (yl_not rfl) ?_
  exact Gt 5 rfl rfl rfl
 refine Ln (Et ?_)
 refine Cc rfl (fun hc7=>?_) (fun hc7=>?_)
 ·
  rw [hbb] at hc7
  refine Cs (Cr (V0 (Ya rfl) (Ln (Et (Crt (Er ?_))))))
  refine WE.ret1 rfl rfl fun w' hw=>?_
  exact ⟨by rw [actK_no hc7],hw.fr⟩
 ·
  rw [hbb] at hc7
  refine Ck (Et (Cs (Cr (V0 (Yf fo104_0 rfl) (V0 (Yd 1 rfl rfl rfl na3) (V0 (yl_ne rfl rfl) (V0 (Ym rfl) ?_)))))))
  apply WL.and 3 rfl rfl rfl rfl (.inl rfl) rfl rfl rfl rfl rfl
  ·
   intro hg20
   refine Lv (.g rfl rfl rfl) rfl (Yf fo104_0 rfl) (Lv (.g rfl rfl rfl) rfl (Yd 1 rfl rfl rfl na3) (Lv (.g rfl rfl rfl) rfl (yl_ne rfl rfl) ?_))
   exact Gt 3 rfl rfl rfl
  refine V0 (Ym rfl) ?_
  apply WL.or 6 rfl rfl rfl rfl (.inl rfl) rfl rfl rfl rfl rfl
  ·
   intro hg21
   refine Lv (.g rfl rfl rfl) rfl (Yda 0 rfl rfl ag99 rfl) (Lv (.g rfl rfl rfl) rfl (Yf fo104_5 rfl) (Lv (.g rfl rfl rfl) rfl (Yd 1 rfl rfl rfl na24) (Lv (.g rfl rfl rfl) rfl (Ym rfl) ?_)))
   refine Lv (.g rfl rfl rfl) rfl (Yi rfl rfl rfl (by omega)) ?_
   refine Lp (.g rfl rfl rfl) rfl en46 rfl (fun w hw=>hA x.body r.s2.1 r.s2.2 (d+1) w (hw.vs _ (by simp)) (hw.vs _ (by simp)) h2 (by omega)) ?_
   exact Gt 6 rfl rfl rfl
  refine V0 (Ym rfl) ?_
  apply WL.and 12 (x:=((x.other.length:Int)==0)||actsK kn locs x.other (d+1)) rfl rfl rfl rfl (.inl rfl) rfl rfl rfl rfl rfl
  ·
   intro hg22
   refine Lv (.g rfl rfl rfl) rfl (Yf fo104_6 rfl) (Lv (.g rfl rfl rfl) rfl (Yd 1 rfl rfl rfl na24) (Lv (.g rfl rfl rfl) rfl (Yn es24 rfl) (Lv (.g rfl rfl rfl) rfl (yl_eq rfl rfl) (Lv (.g rfl rfl rfl) rfl (Ym rfl) ?_))))
   apply WL.or 6 rfl rfl rfl rfl (.g rfl rfl rfl) rfl rfl rfl rfl rfl
   ·
    intro hg23
    refine Lv (.g rfl rfl rfl) rfl (Yda 0 rfl rfl ag99 rfl) (Lv (.g rfl rfl rfl) rfl (Yf fo104_6 rfl) (Lv (.g rfl rfl rfl) rfl (Yd 1 rfl rfl rfl na24) (Lv (.g rfl rfl rfl) rfl (Ym rfl) ?_)))
    refine Lv (.g rfl rfl rfl) rfl (Yi rfl rfl rfl (by omega)) ?_
    refine Lp (.g rfl rfl rfl) rfl en46 rfl (fun w hw=>hA x.other r.s3.1 r.s3.2 (d+1) w (hw.vs _ (by simp)) (hw.vs _ (by simp)) h3 (by omega)) ?_
    exact Gt 6 rfl rfl rfl
   exact Gt 6 rfl rfl rfl
  refine V0 (Ya rfl) (Ln (Et (Crt ?_)))
  refine WE.ret1 rfl rfl fun w' hw=>?_
  exact ⟨by rw [←actK_yes hc7],hw.fr⟩
end Go.Proofs.YtpjekjnehiinnaaGreatDoor
end
section
namespace Go.Proofs.YtpjekjnehiinnaaGreatDoor
open Go.Bw
set_option linter.unusedVariables false
set_option linter.unusedSimpArgs false
theorem en64:Enters Tryz.prog 64:=enters_of Tryz.func64 (by kernel_rfl) rfl
theorem pactsF_any (HU H:View) (ke0 ku:Nat) (us:List TUnit) (ka:Option Addr) (kc nu:Nat) (al:Bool) (kn:List KnW) (locs:Int) (ke k:Nat) (l:List TAct) (a:Option Addr) (c:Nat) (d:Nat) (w:World) (hHU:Le HU w) (hH:Le H w) (hus:Sl (rdU2 ke0 ku) 5 HU ka kc us) (hpl:PlOk us nu al kn) (hnu:nu≤1000) (hlo:0≤locs∧locs≤1000) (hl:Sl (RdA ke k) 7 H a c l) (hd:d≤7) :
   Calls Tryz.prog 46 #[.agg #[.slice ka us.length kc,.int .i64 (nu:Int),.int .i64 locs,.bool al],.slice a l.length c,.int .i64 (d:Int)] w fun e w'=>e = .returned (.bool (actsK kn locs l d))∧Ext w w':=by
 have hucap:=hus.cap
 have humax:=hus.max
 induction k using Nat.strongRecOn generalizing l a c d w
 rename_i k ih
 have hcap:=hl.cap
 have hmax:=hl.max
 refine enter Tryz.func46 rfl 29 rfl rfl ?_
 refine CWd (W':=Ws w [] [] [HU,H]) (fun _ e=>by subst e; exact Ws.init (by simp [hHU,hH])) ?_
 refine Cs (Cr ?_)
 refine WL.box (.inl rfl) rfl rfl fun b3=>?_
 refine V0 (Ya rfl) (Ln (Et (Cs (Cs (Cr (V0 (Ym rfl) (V0 (yl_gt rfl rfl) (V0 (Ym rfl) ?_))))))))
 apply WL.or 3 rfl rfl rfl rfl (.inl rfl) rfl rfl rfl rfl rfl
 ·
  intro hg0
  refine Lv (.g rfl rfl rfl) rfl (Ym rfl) (Lv (.g rfl rfl rfl) rfl (Yn es24 rfl) (Lv (.g rfl rfl rfl) rfl (yl_gt rfl rfl) ?_))
  exact Gt 3 rfl rfl rfl
 refine Ln (Et ?_)
 refine Cc rfl (fun hc0=>?_) (fun hc0=>?_)
 ·
  refine Cs (Cr (V0 (Ya rfl) (Ln (Et (Crt (Er ?_))))))
  refine WE.ret1 rfl rfl fun w' hw=>?_
  exact ⟨by rw [actsC kn locs l d hc0],hw.fr⟩
 ·
  have hin:=actsC_in hc0
  refine Ck (Et (Cs (Cs (Cr (V0 (Ya rfl) (Ln (Et (Cb ?_))))))))
  refine CW (ι:=Nat) (fun i=>[(7,.int .i64 (i:Int))]) [(1,_),(2,_),(3,_)] (fun i=>i≤l.length∧(l.take i).all (actK kn locs · d)=true) (fun i=>l.length-i) 0 ⟨Nat.zero_le _,rfl⟩ (sc rfl (sc rfl (sc rfl (sc rfl sn)))) ?_
  intro i ⟨hi,hall⟩
  refine Cs (Cs (Cr (V0 (Ym rfl) (V0 (Ym rfl) (V0 (Yn es24 rfl) (V0 (yl_lt rfl rfl) (Ln (Et ?_))))))))
  refine Cc rfl (fun hc1=>?_) (fun hc1=>?_)
  ·
   have hlt:i<l.length:=by simpa using hc1
   obtain ⟨x,hxi⟩:∃q,l[i]? = some q:=⟨_,List.getElem?_eq_getElem hlt⟩
   obtain ⟨pbx,pox,hax,hrx⟩:=hl.elt i x hxi
   obtain ⟨k2,rfl⟩:∃k2,k=k2+1:=by
     cases k with
     | zero=>exact hrx.elim
     | succ k2=>exact ⟨k2,rfl⟩
   obtain ⟨r,hrow,hs1,hs2,hs3⟩:=hrx
   have hA:QActs HU H us ka kc nu al kn locs ke k2:=fun l a c d w g1 g2 g3 g4=>ih k2 (by omega) l a c d w g1 g2 g3 g4
   refine Ck (Et (Cs (Cb (Cs ?_))))
   refine WC.draws0 [(0,true),(1,true),(2,true),(3,true),(4,true),(5,true),(6,false),(7,true)] mixed (by kernel_rfl) (fun _ _ _ d _ h=>by cases d<;>exact h) ?_
   refine Dq rfl (.inl rfl) rfl (fun _ h=>h) (Yda 0 rfl rfl ag99 rfl) ?_
   refine Dq rfl (.inl rfl) rfl (fun _ h=>h) (Ym rfl) ?_
   refine Dq rfl (.inl rfl) rfl (fun _ h=>h) (Ym rfl) ?_
   refine Dq rfl (.inl rfl) rfl (fun _ h=>h) (Yo es24 rfl rfl hax hlt) ?_
   refine Dq rfl (.inl rfl) rfl (fun _ h=>h) (yl_lda 1 ag104 rfl rfl rfl (hrow)) ?_
   refine Dq rfl (.inl rfl) rfl (fun _ h=>h) (Ym rfl) ?_
   refine De rfl (fun _ h=>h) ?_
   refine Lp (.inl rfl) rfl en64 rfl (fun w hw=>pactF_any HU H ke0 ku us ka kc nu al kn locs k2 x r d w (hw.vs _ (by simp)) (hw.vs _ (by simp)) hus hpl hnu hlo ke hA hs1 hs2 hs3 (by omega)) ?_
   refine Ln (Ed ?_)
   refine Dq rfl (.inl rfl) rfl (fun _ h=>h) (yl_not rfl) ?_
   refine WD.nil (fun _ h=>h) ?_
   refine Et ?_
   refine Cc rfl (fun hc2=>?_) (fun hc2=>?_)
   ·
    have hx:actK kn locs x d=false:=by simpa using hc2
    refine Cs (Cr (V0 (Ya rfl) (Ln (Et (Crt (Ebr (Er (Er (Ebr (Er ?_))))))))))
    refine WE.ret1 rfl rfl fun w' hw=>?_
    exact ⟨by rw [actsK_at kn locs hin,all_hit hxi hx],hw.fr⟩
   ·
    have hx:actK kn locs x d=true:=by simpa using hc2
    refine Ck (Eb (Et (Cr (V0 (Ym rfl) ?_))))
    refine V0 (Yi rfl rfl rfl (by omega)) ?_
    refine V0 (Ya rfl) (Ln ?_)
    exact Ea (i+1) (by omega) ⟨by omega,all_take hxi hall hx⟩ (sc rfl (sc rfl (sc rfl (sc rfl sn)))) (fun _ h=>h)
  ·
   have hge:¬i<l.length:=by simpa using hc1
   rw [List.take_of_length_le (by omega)] at hall
   refine Ce (Ex (Ex (Ebh (Et (Cs (Cr (V0 (Ya rfl) (Ln (Et (Crt ?_))))))))))
   refine WE.ret1 rfl rfl fun w' hw=>?_
   exact ⟨by rw [actsK_at kn locs hin,hall],hw.fr⟩
end Go.Proofs.YtpjekjnehiinnaaGreatDoor
end
section
namespace Go.Proofs.YtpjekjnehiinnaaGreatDoor
open Go.Bw
set_option linter.unusedVariables false
set_option linter.unusedSimpArgs false
abbrev XU:=TUnit×UAt
def XU.cells (e:XU):List Value:=unitV e.1 e.2
theorem XU.cells_len (e:XU):(XU.cells e).length=5:=rfl
theorem XU.one (e:XU):(XU.cells e).all (·.oneCell')=true:=rfl
def rdXU (H:View) (b o:Nat) (e:XU):Prop:=RdC H b o (XU.cells e)
def rdXUp (ke k:Nat) (H:View) (b o:Nat) (e:XU):Prop:=RdC H b o (XU.cells e)∧RdU ke k H e.2 e.1
theorem un_pairs {ke k:Nat} {H:View} {a:Option Addr} {c:Nat} {l:List TUnit} (h:Sl (rdU2 ke k) 5 H a c l):∃ys:List XU,ys.map (·.1)=l∧Sl (rdXUp ke k) 5 H a c ys:=by
 obtain ⟨ys,h1,h2⟩:=choices (β:=UAt) (p:=fun i x r=>∃b o,a=some ⟨b,o,none⟩∧RdC H b (o+i*5) (unitV x r)∧RdU ke k H r x) l 0 fun i x hx=>by
   obtain ⟨b,o,ha,r,hr,hm⟩:=h.elt i x hx
   exact ⟨r,b,o,ha,by rw [Nat.zero_add]; exact hr,hm⟩
 have hl:ys.length=l.length:=by rw [←h1,List.length_map]
 refine ⟨ys,h1,by rw [hl]; exact h.cap,h.max,h.spot,fun i y hy=>?_⟩
 obtain ⟨b,o,ha,hr,hm⟩:=h2 i y hy
 rw [Nat.zero_add] at hr
 exact ⟨b,o,ha,hr,hm⟩
theorem slU_of {ke k:Nat} {K N:View} {a:Option Addr} {c:Nat} {es:List XU} (h:Sl rdXU 5 K a c es) (hv:VLe K N) (he:∀e ∈ es,RdU ke k N e.2 e.1):Sl (rdU2 ke k) 5 N a c (es.map (·.1)):=by
 refine ⟨by rw [List.length_map]; exact h.cap,h.max,h.spot,fun i x hx=>?_⟩
 rw [List.getElem?_map] at hx
 obtain ⟨y,hy,rfl⟩:=Option.map_eq_some_iff.1 hx
 obtain ⟨b,o,ha,hr⟩:=h.elt i y hy
 exact ⟨b,o,ha,y.2,RdC.mono hv hr,he y (List.mem_of_getElem? hy)⟩
theorem head_two (u:TUnit):((((!(nameB u.nm)||decide (3<(u.uses.length:Int)))||twiceB ([u.nm]++u.uses))||!(within u.data 0 512))||decide (6<(u.parts.length:Int)))=(headC u||twiceB (u.nm::u.uses)):=by
 unfold headC within
 rw [show [u.nm]++u.uses=u.nm::u.uses from rfl,show (!(decide (0≤u.data)&&decide (u.data≤512)))=(decide (u.data<0)||decide (512<u.data)) by rw [Bool.eq_iff_iff]; simp<;>omega]
 generalize twiceB (u.nm::u.uses)=a
 generalize decide (3<(u.uses.length:Int))=b
 generalize decide (u.data<0)=c
 generalize decide (512<u.data)=d
 generalize decide (6<(u.parts.length:Int))=e
 cases nameB u.nm<;>cases a<;>cases b<;>cases c<;>cases d<;>cases e<;>rfl
theorem part_within (p q:Int):(!(within p 0 3)||!(within q 0 4))=(((decide (p<0)||decide (3<p))||decide (q<0))||decide (4<q)):=by
 unfold within
 rw [Bool.eq_iff_iff]
 simp
 omega
theorem fineU_no {u:TUnit} {kn:List KnW} (h:(headC u||twiceB (u.nm::u.uses))=true):fineU u kn=false:=by
 unfold fineU usesK
 rcases Bool.or_eq_true_iff.1 h with h | h<;>rw [h]<;>simp
theorem en45:Enters Tryz.prog 45:=enters_of Tryz.func45 (by kernel_rfl) rfl
theorem en36:Enters Tryz.prog 36:=enters_of Tryz.func36 (by kernel_rfl) rfl
theorem el38:EltOk Tryz.prog 38 26 (.agg #[st [],.slice none 0 0,.int .i64 0,.slice none 0 0,.slice none 0 0]) 5 96:=eltOk_of (by kernel_rfl)
theorem pl99:placesP Tryz.prog 99=some [(0,1),(1,1),(2,1),(3,1)]:=by kernel_rfl
theorem zr99:zeroOf Tryz.prog 99=some (.agg #[.slice none 0 0,.int .i64 0,.int .i64 0,.bool false]):=by kernel_rfl
theorem sz99:sizeP Tryz.prog 99=some 4:=by kernel_rfl
theorem unitFine_any (H HU:View) (ke k:Nat) (u:TUnit) (r:UAt) (us:List TUnit) (ua:Option Addr) (uc:Nat) (al:Bool) (kn:List KnW) (w:World) (hH:Le H w) (hHU:Le HU w) (hu:RdU ke k H r u) (hus:Sl (rdU2 ke k) 5 HU ua uc us) (hul:us.length≤1048576) (hpl:PlOk (u::us) u.uses.length al (knM u::kn)) :
   Calls Tryz.prog 26 #[.agg (unitV u r).toArray,.slice ua us.length uc,.bool al] w fun e w'=>e = .returned (.bool (fineU u kn))∧Ext w w':=by
 have hcap:=hu.uses.cap
 have hmax:=hu.uses.max
 have hpcap:=hu.parts.cap
 have hpmax:=hu.parts.max
 obtain ⟨ys,hys,hsp⟩:=un_pairs hus
 have hyl:ys.length=us.length:=by rw [←hys,List.length_map]
 have hkl:([((u,r):XU)]++ys).length=(u::us).length:=by simp [hyl]
 refine enter Tryz.func26 rfl 103 rfl rfl ?_
 refine CWd (W':=Ws w [] [] [H,HU]) (fun _ e=>by subst e; exact Ws.init (by simp [hH,hHU])) ?_
 refine Cs (Cr ?_)
 refine WL.box (.inl rfl) rfl rfl fun b3=>?_
 refine V0 (Ya rfl) (Ln (Et (Cs (Cs (Cr (V0 (Yf fo26_0 rfl) (V0 (Yd 0 rfl rfl rfl na9) ?_)))))))
 refine Lp (.inl rfl) rfl en45 rfl (fun w hw=>isName_any _ w) ?_
 refine V0 (yl_not rfl) (V0 (Ym rfl) ?_)
 apply WL.or 4 rfl rfl rfl rfl (.inl rfl) rfl rfl rfl rfl rfl
 ·
  intro hg0
  refine Lv (.g rfl rfl rfl) rfl (Yf fo26_1 rfl) (Lv (.g rfl rfl rfl) rfl (Yd 0 rfl rfl rfl na22) (Lv (.g rfl rfl rfl) rfl (Yn es22 rfl) (Lv (.g rfl rfl rfl) rfl (yl_gt rfl rfl) ?_)))
  exact Gt 4 rfl rfl rfl
 refine V0 (Ym rfl) ?_
 apply WL.or 7 rfl rfl rfl rfl (.inl rfl) rfl rfl rfl rfl rfl
 ·
  intro hg1
  have hu3:u.uses.length≤3:=by
    have h9:=(Bool.or_eq_false_iff.1 hg1).2
    simp at h9; omega
  refine Lv (.g rfl rfl rfl) rfl (Yf fo26_0 rfl) (Lv (.g rfl rfl rfl) rfl (Yd 0 rfl rfl rfl na9) ?_)
  refine Lb (.g rfl rfl rfl) rfl el22 rfl rfl rfl rfl fun b24=>?_
  refine Lrb 0 (.cells (([u.nm]).flatMap strC).toArray 9 (0,0)) rfl rfl ?_
  refine LW (fun _ h=>h.osT_blk (f:=strC) (xs:=[u.nm]) (c:=1) 0 rfl strC_len rfl (by decide)) ?_
  refine Lv (.g rfl rfl rfl) rfl (Yf fo26_1 rfl) (Lv (.g rfl rfl rfl) rfl (Yd 1 rfl rfl rfl na22) ?_)
  refine WL.appendL (f:=strC) (rd:=rdStr) (xs:=[u.nm]) (ys:=u.uses) 0 (fun _=>H) (.g rfl rfl rfl) rfl el22 rfl rfl rfl (fun w hw=>⟨hw.vs H (by simp),hu.uses⟩) (fun _ _ _ _ h=>h) strC_len (fun _=>rfl) (by simp; omega) (by simp; omega) fun a27 c27=>?_
  refine WL.oslview (rd:=rdStr) 0 rfl strC_len (fun _ _ _ _ h=>h) fun HT hHT=>?_
  refine Lp (.g rfl rfl rfl) rfl en36 rfl (fun w hw=>by
      have:=twice_any HT a27 c27 ([u.nm]++u.uses) w (hw.vs _ (by simp)) hHT
      exact this) ?_
  refine WL.wk ?_ (Gt 7 rfl rfl rfl)
  exact fun _ h=>Ws.drops (h) (fun _ hm=>List.mem_append_right [_] hm)
 refine V0 (Ym rfl) ?_
 apply WL.or 4 rfl rfl rfl rfl (.inl rfl) rfl rfl rfl rfl rfl
 ·
  intro hg2
  refine Lv (.g rfl rfl rfl) rfl (Yf fo26_2 rfl) (Lv (.g rfl rfl rfl) rfl (Yd 0 rfl rfl rfl na3) ?_)
  refine Lp (.g rfl rfl rfl) rfl en34 rfl (fun w hw=>within_any _ _ _ w) ?_
  refine Lv (.g rfl rfl rfl) rfl (yl_not rfl) ?_
  exact Gt 4 rfl rfl rfl
 refine V0 (Ym rfl) ?_
 apply WL.or 4 rfl rfl rfl rfl (.inl rfl) rfl rfl rfl rfl rfl
 ·
  intro hg3
  refine Lv (.g rfl rfl rfl) rfl (Yf fo26_3 rfl) (Lv (.g rfl rfl rfl) rfl (Yd 0 rfl rfl rfl na23) (Lv (.g rfl rfl rfl) rfl (Yn es23 rfl) (Lv (.g rfl rfl rfl) rfl (yl_gt rfl rfl) ?_)))
  exact Gt 4 rfl rfl rfl
 refine Ln (Et ?_)
 rw [head_two]
 refine Cc rfl (fun hc0=>?_) (fun hc0=>?_)
 ·
  refine Cs (Cr (V0 (Ya rfl) (Ln (Et (Crt (Er ?_))))))
  refine WE.ret1 rfl rfl fun w' hw=>?_
  exact ⟨by rw [fineU_no hc0],hw.fr⟩
 ·
  obtain ⟨hhd,h2⟩:=Bool.or_eq_false_iff.1 hc0
  obtain ⟨hp6,hu3,hd0,hd1⟩:=head_parts hhd
  refine Ck (Et (Cs (Cs (Cr (V0 (Ya rfl) (Ln (Et (Cb ?_))))))))
  refine CK (ι:=Nat) (fun i=>[(7,.int .i64 (i:Int))]) [(1,_),(2,_),(3,_)] (fun i=>Ws w [] [blk b3 (.cells (unitV u r).toArray 26 (0,0))] [H,HU]) (fun i=>i≤u.uses.length∧(u.uses.take i).all nameB=true) (fun i=>u.uses.length-i) 0 ⟨Nat.zero_le _,rfl⟩ (sc rfl (sc rfl (sc rfl (sc rfl sn)))) (fun _ h=>h) ?_
  intro i ⟨hi,hall⟩
  refine Cs (Cs (Cr (V0 (Ym rfl) (V0 (Yf fo26_1 rfl) (V0 (Yd 0 rfl rfl rfl na22) (V0 (Yn es22 rfl) (V0 (yl_lt rfl rfl) ?_)))))))
  refine Ln (Et ?_)
  refine Cc rfl (fun hc1=>?_) (fun hc1=>?_)
  ·
   have hlt:i<u.uses.length:=by simpa using hc1
   obtain ⟨s,hsi⟩:∃q,u.uses[i]? = some q:=⟨_,List.getElem?_eq_getElem hlt⟩
   obtain ⟨pbs,pos,has,hrs⟩:=hu.uses.elt i s hsi
   have hrs:RdC H pbs (pos+i*1) (strC s):=hrs
   refine Ck (Et (Cs (Cb (Cs (Cr (V0 (Yf fo26_1 rfl) (V0 (Yd 0 rfl rfl rfl na22) (V0 (Ym rfl) (V0 (Yo es22 rfl rfl has hlt) (V0 (yl_ld 0 na9 rfl rfl (hrs 0 _ rfl)) ?_))))))))))
   refine Lp (.inl rfl) rfl en45 rfl (fun w hw=>isName_any _ w) ?_
   refine V0 (yl_not rfl) (Ln (Et ?_))
   refine Cc rfl (fun hc2=>?_) (fun hc2=>?_)
   ·
    have hn:nameB s=false:=by simpa using hc2
    refine Cs (Cr (V0 (Ya rfl) (Ln (Et (Crt (Ebr (Er (Er (Ebr (Er ?_))))))))))
    refine WE.ret1 rfl rfl fun w' hw=>?_
    exact ⟨by rw [fineU,usesK,all_hit hsi hn]; simp,hw.fr⟩
   ·
    have hn:nameB s=true:=by simpa using hc2
    refine Ck (Eb (Et (Cr (V0 (Ym rfl) ?_))))
    refine V0 (Yi rfl rfl rfl (by omega)) ?_
    refine V0 (Ya rfl) (Ln ?_)
    exact Ea (i+1) (by omega) ⟨by omega,all_take hsi hall hn⟩ (sc rfl (sc rfl (sc rfl (sc rfl sn)))) (fun _ h=>h)
  ·
   have hge:i=u.uses.length:=by simp at hc1; omega
   rw [hge,List.take_length] at hall
   have hUK:usesK u.nm u.uses=true:=by unfold usesK; rw [h2,hall]; rfl
   refine Ce (Ex (Ex (Ebh (Et ?_))))
   refine WC.cutE (ι:=SP×Nat) (fun q0=>[(3,.pointer (some ⟨b3,0,none⟩)),(8,.pointer (some ⟨q0.2,0,none⟩))]) (fun q0=>Ws w [] [blk q0.2 (.cells #[.slice q0.1.1 (u::us).length q0.1.2,.int .i64 (u.uses.length:Int),.int .i64 0,.bool al] 99 (0,0)),osT 26 5 XU.cells q0.1.1 q0.1.2 ([((u,r):XU)]++ys),blk b3 (.cells (unitV u r).toArray 26 (0,0))] [H,HU]) (fun q0=>True) ?_ ?_
   ·
    refine CU (fun _=>true) [] [10] (.q true 0 (.q false 2 (.q false 4 (.q true 5 (.q false 6 (.q false 7 (.e 1 (.e 3 (.q false 8 (.e 9 .nil .stop)) (.e 9 (.e 3 (.q false 8 .nil) .stop) .stop)) (.e 9 (.e 1 (.e 3 (.q false 8 .nil) .stop) .stop) .stop)))))))) mixed (by kernel_rfl) (fun _ _ _ d _ _ h=>by cases d<;>exact h) ?_
    refine Uq rfl (.inl rfl) rfl (fun _ h=>h) (Yda 0 rfl rfl ag26 rfl) ?_
    refine Uq rfl (.inl rfl) rfl (fun _ h=>h) (Ym rfl) ?_
    refine Uq rfl (.inl rfl) rfl (fun _ h=>h) (Yf fo26_1 rfl) ?_
    refine Uq rfl (.inl rfl) rfl (fun _ h=>h) (Yd 0 rfl rfl rfl na22) ?_
    refine Uq rfl (.inl rfl) rfl (fun _ h=>h) (Yn es22 rfl) ?_
    refine Uq rfl (.inl rfl) rfl (fun _ h=>h) (Ym rfl) ?_
    refine Ue rfl (fun _ h=>h) ?_ ?_
    ·
     refine Lb (.inl rfl) rfl el38 rfl rfl rfl rfl fun b57=>?_
     refine Lrb 0 (.cells (([((u,r):XU)]).flatMap XU.cells).toArray 26 (0,0)) rfl rfl ?_
     refine LW (fun _ h=>h.osT_blk (f:=XU.cells) (xs:=[((u,r):XU)]) (c:=1) 0 rfl XU.cells_len rfl (by decide)) ?_
     refine Ln (Eu ?_)
     refine Ue rfl (fun _ h=>by have h:=Ws.drop (L:=[_]) (L':=_) h; exact h) ?_ ?_
     ·
      refine WL.appendL (f:=XU.cells) (rd:=rdXUp ke k) (xs:=[((u,r):XU)]) (ys:=ys) 0 (fun _=>HU) (.inl rfl) rfl el38 rfl (by show some (Value.slice ua us.length uc)=_; rw [←hyl]) rfl (fun w hw=>⟨hw.vs HU (by simp),hsp⟩) (fun _ _ _ _ h=>h.1) XU.cells_len XU.one (by simp; omega) (by simp; omega) fun a59 c59=>?_
      refine Ln (Eu ?_)
      refine Uq rfl (.inl rfl) rfl (fun _ h=>by have h:=Ws.drop (L:=[_]) (L':=_) h; exact h) (Yb zr99 pl99 rfl rfl) ?_
      refine Ue rfl (fun _ h=>by have h:=Ws.drop (L:=[_]) (L':=_) h; exact h) ?_ WU.stop
      refine WL.alloc (.inl rfl) rfl zr99 fun b8=>?_
      refine Ln (Eu ?_)
      refine WU.nil (fun _ h=>by have h:=Ws.drop (L:=[_,_]) (L':=_) h; exact h) ?_
      refine WS.e rfl ?_
      refine Lst 0 (.inl rfl) rfl rfl rfl sz99 rfl rfl rfl (Ln (Es ?_))
      refine WS.nil ?_
      refine WE.reblk 0 (.cells #[.slice a59 (u::us).length c59,.int .i64 (u.uses.length:Int),.int .i64 0,.bool al] 99 (0,0)) rfl (congrArg (fun n=>Obj.cells #[.slice a59 n c59,.int .i64 (u.uses.length:Int),.int .i64 0,.bool al] 99 (0,0)) hkl) ?_
      exact WE.meetE ((a59,c59),b8) trivial (sc rfl (sc rfl sn)) (fun _ h=>by
        have h:=h.fronti 2 rfl
        have h:=h.fronti 2 rfl
        have h:=h.fronti 2 rfl
        exact h)
     refine Ue rfl (fun _ h=>by have h:=Ws.drop (L:=[_]) (L':=_) h; exact h) ?_ WU.stop
     refine WL.alloc (.inl rfl) rfl zr99 fun b8=>?_
     refine Ln (Eu ?_)
     refine Ue rfl (fun _ h=>by have h:=Ws.drop (L:=[_,_]) (L':=_) h; exact h) ?_ WU.stop
     refine WL.appendL (f:=XU.cells) (rd:=rdXUp ke k) (xs:=[((u,r):XU)]) (ys:=ys) 1 (fun _=>HU) (.inl rfl) rfl el38 rfl (by show some (Value.slice ua us.length uc)=_; rw [←hyl]) rfl (fun w hw=>⟨hw.vs HU (by simp),hsp⟩) (fun _ _ _ _ h=>h.1) XU.cells_len XU.one (by simp; omega) (by simp; omega) fun a59 c59=>?_
     refine Ln (Eu ?_)
     refine Uq rfl (.inl rfl) rfl (fun _ h=>by have h:=Ws.drop (L:=[_,_]) (L':=_) h; exact h) (Yb zr99 pl99 rfl rfl) ?_
     refine WU.nil (fun _ h=>by have h:=Ws.drop (L:=[_,_]) (L':=_) h; exact h) ?_
     refine WS.e rfl ?_
     refine Lst 0 (.inl rfl) rfl rfl rfl sz99 rfl rfl rfl (Ln (Es ?_))
     refine WS.nil ?_
     refine WE.reblk 0 (.cells #[.slice a59 (u::us).length c59,.int .i64 (u.uses.length:Int),.int .i64 0,.bool al] 99 (0,0)) rfl (congrArg (fun n=>Obj.cells #[.slice a59 n c59,.int .i64 (u.uses.length:Int),.int .i64 0,.bool al] 99 (0,0)) hkl) ?_
     exact WE.meetE ((a59,c59),b8) trivial (sc rfl (sc rfl sn)) (fun _ h=>by
       have h:=h.fronti 2 rfl
       have h:=h.fronti 2 rfl
       have h:=h.fronti 2 rfl
       exact h)
    refine Ue rfl (fun _ h=>h) ?_ WU.stop
    refine WL.alloc (.inl rfl) rfl zr99 fun b8=>?_
    refine Ln (Eu ?_)
    refine Ue rfl (fun _ h=>by have h:=Ws.drop (L:=[_]) (L':=_) h; exact h) ?_ WU.stop
    refine Lb (.inl rfl) rfl el38 rfl rfl rfl rfl fun b57=>?_
    refine Lrb 0 (.cells (([((u,r):XU)]).flatMap XU.cells).toArray 26 (0,0)) rfl rfl ?_
    refine LW (fun _ h=>h.osT_blk (f:=XU.cells) (xs:=[((u,r):XU)]) (c:=1) 0 rfl XU.cells_len rfl (by decide)) ?_
    refine Ln (Eu ?_)
    refine Ue rfl (fun _ h=>by have h:=Ws.drop (L:=[_,_]) (L':=_) h; exact h) ?_ WU.stop
    refine WL.appendL (f:=XU.cells) (rd:=rdXUp ke k) (xs:=[((u,r):XU)]) (ys:=ys) 0 (fun _=>HU) (.inl rfl) rfl el38 rfl (by show some (Value.slice ua us.length uc)=_; rw [←hyl]) rfl (fun w hw=>⟨hw.vs HU (by simp),hsp⟩) (fun _ _ _ _ h=>h.1) XU.cells_len XU.one (by simp; omega) (by simp; omega) fun a59 c59=>?_
    refine Ln (Eu ?_)
    refine Uq rfl (.inl rfl) rfl (fun _ h=>by have h:=Ws.drop (L:=[_,_]) (L':=_) h; exact h) (Yb zr99 pl99 rfl rfl) ?_
    refine WU.nil (fun _ h=>by have h:=Ws.drop (L:=[_,_]) (L':=_) h; exact h) ?_
    refine WS.e rfl ?_
    refine Lst 1 (.inl rfl) rfl rfl rfl sz99 rfl rfl rfl (Ln (Es ?_))
    refine WS.nil ?_
    refine WE.reblk 1 (.cells #[.slice a59 (u::us).length c59,.int .i64 (u.uses.length:Int),.int .i64 0,.bool al] 99 (0,0)) rfl (congrArg (fun n=>Obj.cells #[.slice a59 n c59,.int .i64 (u.uses.length:Int),.int .i64 0,.bool al] 99 (0,0)) hkl) ?_
    exact WE.meetE ((a59,c59),b8) trivial (sc rfl (sc rfl sn)) (fun _ h=>by
      have h:=h.fronti 2 rfl
      have h:=h.fronti 1 rfl
      have h:=h.fronti 2 rfl
      exact h)
   intro ⟨⟨a59,c59⟩,b8⟩ _
   refine Cs (Cs ?_)
   refine WC.oslview (rd:=rdXU) 1 rfl XU.cells_len (fun _ _ _ _ h=>h) fun K hK=>?_
   have hkk:∀w,Le K w→Le H w→Le HU w→Sl (rdU2 ke k) 5 (hv w) a59 c59 (u::us):=fun w g1 g2 g3=>by
       have h9:=slU_of (ke:=ke) (k:=k) hK (hv_of g1) fun e he=>by
         rcases List.mem_append.1 he with he | he
         · rw [List.mem_singleton] at he; subst he; exact hu.mv (hv_of g2)
         · obtain ⟨q,hq⟩:=List.getElem?_of_mem he
           obtain ⟨_,_,_,_,h⟩:=hsp.elt q e hq
           exact h.mv (hv_of g3)
       rw [List.map_append,hys] at h9
       exact h9
   refine Cr (V0 (Ya rfl) (Ln (Et (Cb ?_))))
   refine CK (ι:=Nat×Int) (fun g=>[(9,.int .i64 (g.1:Int))]) [(3,_),(8,_)] (fun g=>Ws w [] [blk b8 (.cells #[.slice a59 (u::us).length c59,.int .i64 (u.uses.length:Int),.int .i64 g.2,.bool al] 99 (0,0)),blk b3 (.cells (unitV u r).toArray 26 (0,0))] [K,H,HU]) (fun g=>g.1≤u.parts.length∧(u.parts.take g.1).all (partOk (knM u::kn))=true) (fun g=>u.parts.length-g.1) (0,0) ⟨Nat.zero_le _,rfl⟩ (sc rfl (sc rfl (sc rfl sn))) (fun _ h=>h) ?_
   intro g ⟨hgi,hallp⟩
   refine Cs (Cs (Cr (V0 (Ym rfl) (V0 (Yf fo26_3 rfl) (V0 (Yd 1 rfl rfl rfl na23) (V0 (Yn es23 rfl) (V0 (yl_lt rfl rfl) ?_)))))))
   refine Ln (Et ?_)
   refine Cc rfl (fun hc3=>?_) (fun hc3=>?_)
   ·
    have hlt:g.1<u.parts.length:=by simpa using hc3
    obtain ⟨x,hxi⟩:∃q,u.parts[g.1]? = some q:=⟨_,List.getElem?_eq_getElem hlt⟩
    obtain ⟨pbx,pox,hax,hrx⟩:=hu.parts.elt g.1 x hxi
    obtain ⟨xr,hrow,hsub⟩:=hrx
    refine Ck (Et (Cs (Cb (Cs (Cr (V0 (Yf fo26_3 rfl) (V0 (Yd 1 rfl rfl rfl na23) (V0 (Ym rfl) (V0 (Yo es23 rfl rfl hax hlt) (V0 (yl_lda 1 ag63 rfl rfl rfl (hrow)) ?_))))))))))
    refine WL.alloc (.inl rfl) rfl zr63 fun b10=>?_
    refine Lst 0 (.inl rfl) rfl rfl rfl sz63 rfl rfl rfl (Ln (Et (Cs (Cs ?_))))
    refine Crb 0 (.cells (partV x xr).toArray 63 (0,0)) rfl rfl ?_
    refine Cr (V0 (Yf fo63_0 rfl) (V0 (Yd 0 rfl rfl rfl na3) ?_))
    refine Lp (.inl rfl) rfl en34 rfl (fun w hw=>within_any _ _ _ w) ?_
    refine V0 (yl_not rfl) (V0 (Ym rfl) ?_)
    apply WL.or 4 rfl rfl rfl rfl (.inl rfl) rfl rfl rfl rfl rfl
    ·
     intro hg4
     refine Lv (.g rfl rfl rfl) rfl (Yf fo63_1 rfl) (Lv (.g rfl rfl rfl) rfl (Yd 0 rfl rfl rfl na3) ?_)
     refine Lp (.g rfl rfl rfl) rfl en34 rfl (fun w hw=>within_any _ _ _ w) ?_
     refine Lv (.g rfl rfl rfl) rfl (yl_not rfl) ?_
     exact Gt 4 rfl rfl rfl
    refine Ln (Et ?_)
    rw [part_within]
    refine Cc rfl (fun hc4=>?_) (fun hc4=>?_)
    ·
     have hx:partOk (knM u::kn) x=false:=partOk_no hc4
     refine Cs (Cr (V0 (Ya rfl) (Ln (Et (Crt (Er (Ebr (Er (Er (Ebr (Er ?_)))))))))))
     refine WE.ret1 rfl rfl fun w' hw=>?_
     exact ⟨by rw [fineU,all_hit hxi hx]; simp,hw.fr⟩
    ·
     have hpx:=partOk_in (kn:=(knM u::kn)) hc4
     have hpb:0≤x.params∧x.params≤3∧0≤x.locals∧x.locals≤4:=by
       simp only [Bool.or_eq_false_iff,decide_eq_false_iff_not] at hc4; omega
     refine Ck (Et (Cs (Cr (V0 (Yf fo63_0 rfl) (V0 (Yd 0 rfl rfl rfl na3) (V0 (Yf fo63_1 rfl) (V0 (Yd 0 rfl rfl rfl na3) ?_)))))))
     refine V0 (yl_add rfl rfl (by omega)) ?_
     refine V0 (Yf fo99_2 rfl) (Lst 1 (.inl rfl) rfl rfl rfl sz3 rfl rfl rfl (Ln (Et (Cs ?_))))
     refine Crb 1 (.cells #[.slice a59 (u::us).length c59,.int .i64 (u.uses.length:Int),.int .i64 (x.params+x.locals),.bool al] 99 (0,0)) rfl rfl ?_
     refine Cr (V0 (Yda 1 rfl rfl ag99 rfl) (V0 (Yf fo63_2 rfl) (V0 (Yd 0 rfl rfl rfl na24) ?_)))
     refine Lp (.inl rfl) rfl en46 rfl (fun w hw=>pactsF_any (hv w) H ke k (u::us) a59 c59 u.uses.length al (knM u::kn) (x.params+x.locals) ke k x.body xr.1 xr.2 1 w (hv_le w) (hw.vs _ (by simp)) (hkk w (hw.vs _ (by simp)) (hw.vs _ (by simp)) (hw.vs _ (by simp))) hpl (by omega) (by omega) hsub (by omega)) ?_
     refine V0 (yl_not rfl) (Ln (Et ?_))
     refine Cc rfl (fun hc5=>?_) (fun hc5=>?_)
     ·
      have hx:partOk (knM u::kn) x=false:=by rw [hpx]; simpa using hc5
      refine Cs (Cr (V0 (Ya rfl) (Ln (Et (Crt (Ebr (Er (Er (Ebr (Er ?_))))))))))
      refine WE.ret1 rfl rfl fun w' hw=>?_
      exact ⟨by rw [fineU,all_hit hxi hx]; simp,hw.fr⟩
     ·
      have hx:partOk (knM u::kn) x=true:=by rw [hpx]; simpa using hc5
      refine Ck (Eb (Et (Cr (V0 (Ym rfl) ?_))))
      refine V0 (Yi rfl rfl rfl (by omega)) ?_
      refine V0 (Ya rfl) (Ln ?_)
      exact Ea ((g.1+1,x.params+x.locals):Nat×Int) (by show _-(g.1+1)<_; omega) ⟨(by show g.1+1≤_; omega),all_take hxi hallp hx⟩ (sc rfl (sc rfl (sc rfl sn))) (fun _ h=>Ws.drop (L:=[_]) h)
   ·
    have hge3:¬g.1<u.parts.length:=by simpa using hc3
    rw [List.take_of_length_le (by omega)] at hallp
    refine Ce (Ex (Ex (Ebh (Et (Cs (Cr (V0 (Yf fo99_2 rfl) (Lst 0 (.inl rfl) rfl rfl rfl sz3 rfl rfl rfl (Ln (Et (Cs ?_)))))))))))
    refine Crb 0 (.cells #[.slice a59 (u::us).length c59,.int .i64 (u.uses.length:Int),.int .i64 0,.bool al] 99 (0,0)) rfl rfl ?_
    refine Cr (V0 (Yda 0 rfl rfl ag99 rfl) (V0 (Yf fo26_4 rfl) (V0 (Yd 1 rfl rfl rfl na24) ?_)))
    refine Lp (.inl rfl) rfl en46 rfl (fun w hw=>pactsF_any (hv w) H ke k (u::us) a59 c59 u.uses.length al (knM u::kn) 0 ke k u.main r.s3.1 r.s3.2 1 w (hv_le w) (hw.vs _ (by simp)) (hkk w (hw.vs _ (by simp)) (hw.vs _ (by simp)) (hw.vs _ (by simp))) hpl (by omega) (by omega) hu.main (by omega)) ?_
    refine V0 (Ya rfl) (Ln (Et (Crt ?_)))
    refine WE.ret1 rfl rfl fun w' hw=>?_
    exact ⟨by rw [fineU,hUK,hhd,hallp]; rfl,hw.fr⟩
end Go.Proofs.YtpjekjnehiinnaaGreatDoor
end
