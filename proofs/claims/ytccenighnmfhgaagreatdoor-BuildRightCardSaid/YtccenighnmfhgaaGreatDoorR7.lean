/- BuildRight: what Units tells is a right program, or needs too many numbers; what Build tells is a right image. -/
import Derived.Deep.DeepHandedRow
import Derived.Deep.DeepWitnessRowRef
import Derived.LaidMore
import Derived.Lib.LaidTab
import Derived.OpenShut
import Derived.ProofKit
import Derived.SevenTiedAt
import Derived.Stop.Joined
import Derived.Stop.LaidErr
import Derived.Test.YtccenighnmfhgaaGreatDoorCards
import Derived.Test.YtccenighnmfhgaaGreatDoorRows
import Derived.Test.YtccenighnmfhgaaGreatDoorTie
import Derived.Test.YtccenighnmfhgaaGreatDoorR6
set_option linter.unusedVariables false
set_option linter.unusedSimpArgs false
section
namespace Go.Proofs.YtccenighnmfhgaaGreatDoor
open Go.Bw
open Go.ChangeShapes Go.WideShapes Go.ChangeAt Go.RowKit Go.Joins Go.Deep
def UT (a:Type):eV a:=⟨Rows.uptoBulk,Rows.uptoBulkAll,λl=>by simp [Rows.uptoBulk],λl=>by simp [Rows.uptoBulk],λl r=>by simp only [Rows.uptoBulk]; omega,by simp [Rows.uptoBulkAll],λd r=>by simp [Rows.uptoBulkAll]⟩
theorem own:ownKnob Tryz.prog.godebug=none:=by kernel_rfl
theorem laidOut:laidOutB Tryz.prog=true:=by kernel_rfl
theorem UU:(Tryz.prog.globals[3]?).map (·.type)=some 363:=by kernel_rfl
theorem UW:(Tryz.prog.globals[1]?).map (·.type)=some 246:=by kernel_rfl
theorem UX:(Tryz.prog.globals[0]?).map (·.type)=some 246:=by kernel_rfl
theorem JO : Tryz.prog.globalNamed "strconv.ErrRange" = some 1 := by kernel_rfl
theorem JP : Tryz.prog.globalNamed "strconv.ErrSyntax" = some 0 := by kernel_rfl
theorem UY:Tryz.prog.cellsOf 363=20:=by kernel_rfl
theorem UZ:Tryz.prog.cellsOf 305=1:=by kernel_rfl
theorem JQ:Tryz.prog.cellsOf 361=1:=by kernel_rfl
theorem JR:Tryz.prog.cellsOf 9=1:=by kernel_rfl
theorem JS (u:TypeId) (h:Tryz.prog.typeName? 3 u=Tryz.prog.typeName? 3 359):u=359:=
 typeName_ptr_named (P := Tryz.prog) (nm := "errors.errorString") (by kernel_rfl) (by kernel_rfl) (by decide) u (h.trans (by kernel_rfl))
theorem Ny {W:World} (h:laidMetH Tryz.prog Rows.buildAlikeRow.laid W):Laid (hv W):=by
 rw [MakeChecks.laidMetH_plain _ _ _ (by kernel_rfl)] at h;have a:=h.tail.tail;have c:Lib.TabIs Tryz.prog W GB .u64 Lib.pow10Tab:=Lib.tabIs_of_head (k:=.u64) (zs:=Lib.pow10Tab) A8 UU Tryz.underlying363 Tryz.underlying305 UZ UY a;obtain ⟨a1,s1,d,_⟩:=laid_sentinel a.tail JO UW Tryz.underlying246 (λu b=>JS u (b.trans (by kernel_rfl))) Tryz.underlying359 Tryz.underlying361 rfl rfl Tryz.underlying9 JQ JR;obtain ⟨a2,s2,e,_⟩:=laid_sentinel a.tail.tail JP UX Tryz.underlying246 (λu b=>JS u (b.trans (by kernel_rfl))) Tryz.underlying359 Tryz.underlying361 rfl rfl Tryz.underlying9 JQ JR;exact ⟨zY c A8,⟨_,yU (by simpa using World.var?_cell JP e 0),.inr ⟨_,_,O⟩⟩,⟨_,yU (by simpa using World.var?_cell JO d 0),.inr ⟨_,_,O⟩⟩⟩
theorem U1 (os:Os) (args:Array Value):laidMetH Tryz.prog Rows.buildAlikeRow.laid ((World.doorLaid Tryz.prog 62 os).forCall (λ_ _=>0) ⟨#[],args,[]⟩).memory:=
 laidMetH_of_parts3 (fuel:=8) (laidMet_of_run' 8 (by kernel_rfl) (by kernel_rfl)) (by kernel_rfl) (by kernel_rfl)
end Go.Proofs.YtccenighnmfhgaaGreatDoor
end
section
namespace Go.Bw
open Go
theorem Ct:∀{l:List cB},(∀d ∈ l,(gk d).bE=0)->0<=eQ l/\eQ l<=32*(l.length:Int)
 | [],_=>by simp [eQ]
 | d::r,h=>by
   have c:=Ct (l:=r) λx b=>h x (by simp [b]);have a:=cM (h d (by simp))
   have f:0<=hH d/\hH d<=32:=by
     unfold hH
     rcases a.kind with e | e | e
     · simp [e]
     · simp [e]
     · have:=a.n3 e; simp [e]; omega
   simp only [eQ,List.length_cons];omega
structure Cu (m:aZ) (x:bs):Prop where
 name:ei x.name=true
 kind:(x.kind=1/\0<=x.n/\x.n<=1099511627775/\x.pl=0)\/(x.kind=2/\x.n=0/\0<=x.pl/\x.pl+1<=j3 m)\/(x.kind=3/\1<=x.n/\x.n<=32/\0<=x.pl/\x.pl+x.n<=j3 m)\/(x.kind=4/\∃(i:Nat) (p:dA),x.pl=i/\m.procs[i]? = some p/\x.n=(p.params.length:Int))
theorem JT:∀{l:List cB} {a:Int},(∀d ∈ l,(gk d).bE=0)->0<=a->∀x ∈ hY l a,ei x.name=true/\((x.kind=1/\0<=x.n/\x.n<=1099511627775/\x.pl=0)\/(x.kind=2/\x.n=0/\0<=x.pl/\x.pl+1<=a+eQ l)\/(x.kind=3/\1<=x.n/\x.n<=32/\0<=x.pl/\x.pl+x.n<=a+eQ l))
 | [],_,_,_,x,b=>by simp [hY] at b
 | d::r,a,h,g,x,b=>by
   have c:=cM (h d (by simp));have i:=Ct (l:=r) λx b=>h x (by simp [b])
   have j:0<=hH d:=by
     unfold hH
     rcases c.kind with e | e | e
     · simp [e]
     · simp [e]
     · have:=c.n3 e; simp [e]; omega
   simp only [hY] at b;simp only [eQ]
   rcases List.mem_cons.1 b with rfl | b
   · refine ⟨c.name,?_⟩
     unfold lp hH
     rcases c.kind with e | e | e
     · have:=c.n1 e; simp [e]; omega
     · have:=c.n2 e; simp [e]; omega
     · have:=c.n3 e; simp [e]; omega
   · have f:=JT (l:=r) (a:=a+hH d) (λx b=>h x (by simp [b])) (by omega) x b
     rw [show a+(hH d+eQ r)=a+hH d+eQ r by omega];exact f
theorem JU {m:aZ}:∀{l:List dA} {i:Nat},(∀p ∈ l,ei p.nm=true)->(∀(j:Nat) p,l[j]? = some p->m.procs[i+j]? = some p)->∀x ∈ jI l i,ei x.name=true/\x.kind=4/\∃(j:Nat) (p:dA),x.pl=j/\m.procs[j]? = some p/\x.n=(p.params.length:Int)
 | [],_,_,_,x,a=>by simp [jI] at a
 | p::r,i,h,b,x,a=>by
   simp only [jI] at a
   rcases List.mem_cons.1 a with rfl | a
   · exact ⟨h p (by simp),O,i,p,O,b 0 p O,O⟩
   · exact JU (l:=r) (i:=i+1) (λx a=>h x (by simp [a])) (λj q c=>by rw [show i+1+j=i+(j+1) by omega]; exact b (j+1) q c) x a
theorem vH {m:aZ} (h:jw m):∀x ∈ ef m,Cu m x:=λx b=>by
 rcases List.mem_append.1 b with b | b
 · obtain ⟨c,a⟩:=JT h.decls (Int.le_refl 0) x b
   rw [Int.zero_add] at a;exact ⟨c,by rcases a with a | a | a; exact .inl a; exact .inr (.inl a); exact .inr (.inr (.inl a))⟩
 · obtain ⟨c,a⟩:=JU (m:=m) (λp d=>(cO (h.procs p d)).name) (λj p d=>by rw [Nat.zero_add]; exact d) x b
   exact ⟨c,.inr (.inr (.inr a))⟩
theorem dN {m:aZ} (h:jw m):0<=j3 m/\j3 m<=320:=by
 have:=Ct h.decls;have:=h.d';unfold j3;omega
theorem U2 {m:aZ} (h:jw m) {x:bs} (b:Cu m x):km x=true:=by
 have d:=jv b.name;have f:=dN h;unfold km dv;rw [d]
 rcases b.kind with ⟨e,a⟩ | ⟨e,a⟩ | ⟨e,a⟩ | ⟨e,i,p,a,c,g⟩
 · simp [e]; omega
 · simp [e]; omega
 · simp [e]; omega
 · have j:=(cO (h.procs p (List.mem_of_getElem? c))).d'
   have k:=(List.getElem?_eq_some_iff.1 c).1;have l:=h.d';simp [e]; omega
theorem yp:∀(l:List bs) (ps:List Bool),(hZ l ps).Sublist l
 | [],_=>by simp [hZ]
 | x::l,[]=>by simp [hZ]
 | x::l,p::ps=>by
   simp only [hZ];cases p
   · simpa using (yp l ps).cons x
   · simpa using (yp l ps).cons_cons x
theorem vI {m:aZ} (h:(ao m).2=0):hG (ao m).1.1 (ao m).1.2=0/\(ao m).1.1=m.nm/\jw m:=by
 unfold ao at h ⊢
 split at h
 · rename_i b; exact absurd h b
 · rename_i b
   have e:fH m=0:=by simpa using b
   have a:=xj (AT.1 e)
   split at h
   · cases h
   · rename_i c
     rw [if_neg b,if_neg c];refine ⟨?_,O,a⟩
     show hG m.nm (hZ (ef m) (jJ m))=0
     have f:et ((ef m).map (·.name))=false:=by
       cases g:et ((ef m).map (·.name)) with
       | false=>rfl
       | true=>rw [g] at c; simp at c
     have d:=yp (ef m) (jJ m);have i:((hZ (ef m) (jJ m)).map (·.name)).Nodup:=(d.map (·.name)).nodup (hF.2 f);have j:=zm (ef m) (jJ m);rw [uc] at j;have n:=a.d';unfold hG;have k:(hZ (ef m) (jJ m)).all km=true:=List.all_eq_true.2 λx l=>U2 a (vH a x (d.subset l));rw [k,hF.1 i,jv a.name];simp;omega
section
variable {m:aZ} {ay:List Tx}
theorem JV {nm:Tx} {l:List Tx} {i:Nat} (h:idxOf nm l 0=some i):i<l.length:=by
 have:=(qc h).2;rw [Nat.sub_zero] at this;exact (List.getElem?_eq_some_iff.1 this).1
theorem yq {nm:Tx}:∀{l:List bs} {x:bs},fJ nm l=some x->x ∈ l
 | [],_,h=>by cases h
 | y::r,x,h=>by
   unfold fJ at h
   split at h
   · injection h with h; subst h; simp
   · exact List.mem_cons_of_mem _ (yq h)
theorem u' (c:m.ak=[]) {mod nm:Tx} {k:Int} {it:bs} (h:eZ (bT m [] ay) mod nm=some (k,it)):(k = -1/\0<=it.pl/\it.pl<(ay.length:Int))\/(k=0/\it ∈ ef m):=by
 unfold eZ at h
 split at h
 · split at h
   · rename_i i hi
     injection h with h; injection h with a b
     subst a b;have f:i<ay.length:=JV hi;exact .inl ⟨O,by show (0:Int)<=(i:Int); omega,by show (i:Int)<_; omega⟩
   · obtain ⟨x,d,e⟩:=Option.map_eq_some_iff.1 h
     injection e with a b
     subst a b;exact .inr ⟨O,yq d⟩
 · unfold bT at h
   rw [c] at h;unfold iX at h;cases h
def kM (m:aZ):List cm:=[c7 (c' m [])]
theorem yr (a:jw m) {pl n:Int} (d:0<=pl) (b:pl+n<=j3 m) (e:0<=n):iD (kM m) 0 pl n=true:=by
 have f:=dN a
 have c:bh (kM m) ((0:Nat):Int) pl=false:=by
   unfold bh kM;simp;omega
 have:=rn (n:=n) (k:=c7 (c' m [])) c rfl;rw [show (((0:Nat):Int))=0 from rfl] at this;rw [this,if_pos (show (c7 (c' m [])).lZ=true from rfl)];exact decide_eq_true b
theorem JW {i:Nat} {p:dA} (a:m.procs[i]? = some p):jk (kM m) 0 i (p.params.length:Int)=true:=by
 have b:=(List.getElem?_eq_some_iff.1 a).1
 have c:j6 (kM m) ((0:Nat):Int) (i:Int)=false:=by
   unfold j6 kM;simp
 have:=o' (n:=(p.params.length:Int)) (k:=c7 (c' m [])) c rfl;rw [show (((0:Nat):Int))=0 from rfl] at this;rw [this,if_pos (show (c7 (c' m [])).lZ=true from rfl)]
 have e:(c7 (c' m [])).parts=m.procs.map λp=>(p.params.length:Int):=by
   unfold c7 c';simp [lY]
 rw [e,Int.toNat_natCast,List.getElem?_map,a,List.length_map];simp;exact b
theorem bc {a:Int} {n:Nat} (h:j2 a n=false) (b:0<=a):(n:Int)=a:=by
 unfold j2 at h;rw [decide_eq_true b] at h
 simpa using h
theorem U3 (r:jw m) (y:m.ak=[]) {op n:Int} {mod nm:Tx} {args:List aV} {d:Nat} (s:qt op n mod nm args d) (a:(cG (bT m [] ay) op n mod nm args.length).e=0) :
   node1 (kM m) ay.length (cG (bT m [] ay) op n mod nm args.length).op (cG (bT m [] ay) op n mod nm args.length).n (cG (bT m [] ay) op n mod nm args.length).m (cG (bT m [] ay) op n mod nm args.length).pl args.length=true:=by
 have C:=s.kind;have j:=s.num;have f:=s.nA
 by_cases l:dv op 3 5=true
 · have v:op=3\/op=4\/op=5:=by unfold dv at l; simp at l; omega
   have g:n=0:=by
     unfold gN at j
     have:¬op=1:=by omega
     simpa [this] using j
   unfold cG at a ⊢;rw [if_pos l] at a ⊢
   cases t:eZ (bT m [] ay) mod nm with
   | none=>rw [t] at a; cases a
   | some q=>
     obtain ⟨k,it⟩:=q;rw [t] at a;dsimp only at a ⊢
     rcases u' y t with ⟨rfl,z,A⟩ | ⟨rfl,B⟩
     · rw [if_pos rfl] at a ⊢
       have u:op=3:=by
         dsimp only at a
         split at a
         · assumption
         · cases a
       subst u;have b:=bc f (by decide);rw [show hA 3=0 from rfl] at b;unfold node1 o9;simp [g,b,z,A]
     · rw [if_neg (by decide)] at a ⊢
       have hi:=vH r it B
       rcases v with rfl | rfl | rfl
       · have b:=bc f (by decide)
         rw [show hA 3=0 from rfl] at b
         rcases hi.kind with ⟨e,c⟩ | ⟨e,c⟩ | ⟨e,c⟩ | ⟨e,c⟩
         · rw [if_pos ⟨rfl,e⟩]
           unfold node1; simp [b]; omega
         · rw [if_neg (by omega),if_pos ⟨rfl,e⟩]
           have:=yr r (pl:=it.pl) (n:=1) c.2.1 c.2.2 (by decide);unfold node1; simp [b,g,this]
         · rw [if_neg (by omega),if_neg (by omega),if_neg (by omega),if_neg (by omega)] at a; cases a
         · rw [if_neg (by omega),if_neg (by omega),if_neg (by omega),if_neg (by omega)] at a; cases a
       · have b:=bc f (by decide)
         rw [show hA 4=1 from rfl] at b;rw [if_neg (by omega),if_neg (by omega)] at a ⊢
         rcases hi.kind with ⟨e,c⟩ | ⟨e,c⟩ | ⟨e,c⟩ | ⟨e,c⟩
         · rw [if_neg (by omega),if_neg (by omega)] at a; cases a
         · rw [if_neg (by omega),if_neg (by omega)] at a; cases a
         · rw [if_pos ⟨rfl,e⟩]
           have:=yr r (pl:=it.pl) (n:=it.n) c.2.2.1 c.2.2.2 (by omega);unfold node1 ni; simp [b,this]; omega
         · rw [if_neg (by omega),if_neg (by omega)] at a; cases a
       · rw [if_neg (by omega),if_neg (by omega),if_neg (by omega)] at a ⊢
         rcases hi.kind with ⟨e,c⟩ | ⟨e,c⟩ | ⟨e,c⟩ | ⟨e,i,p,c,o,u⟩
         · rw [if_neg (by omega)] at a; cases a
         · rw [if_neg (by omega)] at a; cases a
         · rw [if_neg (by omega)] at a; cases a
         · rw [if_pos ⟨rfl,e⟩] at a ⊢
           dsimp only at a ⊢
           have b:it.n=(args.length:Int):=by
             split at a
             · assumption
             · cases a
           have:=JW o;rw [<-c,<-u,b] at this;unfold node1; simp [g,this]
 · have v:¬(op=3\/op=4\/op=5):=λh=>l (by unfold dv; simp; omega)
   unfold cG;rw [if_neg l];dsimp only
   by_cases c:op=1
   · subst c
     have b:=bc f (by decide);rw [show hA 1=0 from rfl] at b;unfold gN at j;unfold node1; simp [b] at j ⊢; omega
   · have g:n=0:=by
       unfold gN at j
       simpa [c] using j
     by_cases o:op=2
     · subst o
       have b:=bc f (by decide);rw [show hA 2=0 from rfl] at b;unfold node1; simp [g,b]
     · by_cases w:op=6
       · subst w
         have b:=bc f (by decide);rw [show hA 6=1 from rfl] at b;unfold node1; simp [g,b]
       · have x:hA op=2:=by unfold hA; rw [if_neg (by omega),if_neg (by omega),if_neg (by omega)]
         have b:=bc f (by rw [x]; decide);rw [x] at b;unfold node1;rw [if_neg c,if_neg (by omega),if_neg (by omega),if_neg (by omega),if_neg (by omega),if_neg o,if_neg w,if_pos (by omega)];simp [g,b]
mutual
theorem U4 (b:jw m) (c:m.ak=[]):∀(x:aV) (d:Nat),(ga x d).bE=0->ij (bT m [] ay) x=0->jM (kM m) ay.length (bg (bT m [] ay) x) d=true
 | .mk op n mod nm args,d,e,he=>by
   have a:=e7 e;rw [qb] at he;obtain ⟨f,g⟩:=iY.1 he;rw [zr,jM]
   have h:(fk (bT m [] ay) (aV.mk op n mod nm args).args).length=args.length:=by rw [sA,List.length_map]; rfl
   rw [h];have i:=U3 b c a f;have j:=Cv b c args (d+1) a.sub g;rw [decide_eq_true a.deep]
   show (node1 _ _ (cG (bT m [] ay) op n mod nm args.length).op (cG (bT m [] ay) op n mod nm args.length).n (cG (bT m [] ay) op n mod nm args.length).m (cG (bT m [] ay) op n mod nm args.length).pl args.length&&fw _ _ (fk (bT m [] ay) args) (d+1))=true
   rw [i,j]; rfl
theorem Cv (a:jw m) (b:m.ak=[]):∀(l:List aV) (d:Nat),(cP l d).bE=0->gC (bT m [] ay) l=0->fw (kM m) ay.length (fk (bT m [] ay) l) d=true
 | [],d,_,_=>by rw [fk,fw]
 | x::r,d,c,he=>by
   unfold cP at c;unfold gC at he;obtain ⟨c1,c2⟩:=fo c;obtain ⟨e,f⟩:=iY.1 he;rw [fk,fw,U4 a b x d c1 e,Cv a b r d c2 f]; rfl
end
theorem U5 (t:jw m) (z:m.ak=[]) {op:Int} {mod nm:Tx} {args:List aV} {body other:List bl} {d:Nat} (u:b3 op mod nm args body other d) (a:(cQ (bT m [] ay) op mod nm args.length).e=0) :
   (cQ (bT m [] ay) op mod nm args.length).op=op/\e' (kM m) ay.length (cQ (bT m [] ay) op mod nm args.length).op (cQ (bT m [] ay) op mod nm args.length).n (cQ (bT m [] ay) op mod nm args.length).m (cQ (bT m [] ay) op mod nm args.length).pl args.length body.length other.length=true:=by
 have F:=u.kind;have o:=u.nA;have r:=u.form
 have s:(op≠4/\op≠5->body.length=0)/\(op≠4->other.length=0):=by
   unfold gB inner at r;simp at r;refine ⟨λh=>?_,λh=>?_⟩
   · have:=r.1 h.1 h.2; simp [this]
   · have:=r.2 h; simp [this]
 by_cases j:dv op 1 3=true
 · have v:op=1\/op=2\/op=3:=by unfold dv at j; simp at j; omega
   have g:body.length=0:=s.1 (by omega);have f:other.length=0:=s.2 (by omega);unfold cQ at a ⊢;rw [if_pos j] at a ⊢
   cases w:eZ (bT m [] ay) mod nm with
   | none=>rw [w] at a; cases a
   | some q=>
     obtain ⟨k,it⟩:=q;rw [w] at a;dsimp only at a ⊢
     rcases u' z w with ⟨rfl,A,B⟩ | ⟨rfl,C⟩
     · rcases v with rfl | rfl | rfl
       · have c:=bc o (by decide)
         rw [show lU 1=1 from rfl] at c;rw [if_pos ⟨rfl,.inl rfl⟩];refine ⟨O,?_⟩;unfold e' o9;simp [c,g,f,A,B]
       · rw [if_neg (by omega),if_pos rfl] at a; cases a
       · rw [if_neg (by omega),if_pos rfl] at a; cases a
     · have hi:=vH t it C
       rcases v with rfl | rfl | rfl
       · have c:=bc o (by decide)
         rw [show lU 1=1 from rfl] at c
         rcases hi.kind with ⟨e,b⟩ | ⟨e,b⟩ | ⟨e,b⟩ | ⟨e,b⟩
         · rw [if_neg (by omega),if_neg (by omega),if_neg (by omega),if_neg (by omega)] at a; cases a
         · rw [if_pos ⟨rfl,.inr e⟩]
           have:=yr t (pl:=it.pl) (n:=1) b.2.1 b.2.2 (by decide);refine ⟨O,?_⟩;unfold e'; simp [c,g,f,this]
         · rw [if_neg (by omega),if_neg (by omega),if_neg (by omega),if_neg (by omega)] at a; cases a
         · rw [if_neg (by omega),if_neg (by omega),if_neg (by omega),if_neg (by omega)] at a; cases a
       · have c:=bc o (by decide)
         rw [show lU 2=2 from rfl] at c;rw [if_neg (by omega),if_neg (by omega)] at a ⊢
         rcases hi.kind with ⟨e,b⟩ | ⟨e,b⟩ | ⟨e,b⟩ | ⟨e,b⟩
         · rw [if_neg (by omega),if_neg (by omega)] at a; cases a
         · rw [if_neg (by omega),if_neg (by omega)] at a; cases a
         · rw [if_pos ⟨rfl,e⟩]
           have:=yr t (pl:=it.pl) (n:=it.n) b.2.2.1 b.2.2.2 (by omega);refine ⟨O,?_⟩;unfold e' ni; simp [c,g,f,this]; omega
         · rw [if_neg (by omega),if_neg (by omega)] at a; cases a
       · rw [if_neg (by omega),if_neg (by omega),if_neg (by omega)] at a ⊢
         rcases hi.kind with ⟨e,b⟩ | ⟨e,b⟩ | ⟨e,b⟩ | ⟨e,i,p,b,D,E⟩
         · rw [if_neg (by omega)] at a; cases a
         · rw [if_neg (by omega)] at a; cases a
         · rw [if_neg (by omega)] at a; cases a
         · rw [if_pos ⟨rfl,e⟩] at a ⊢
           dsimp only at a ⊢
           have c:it.n=(args.length:Int):=by
             split at a
             · assumption
             · cases a
           have:=JW D;rw [<-b,<-E,c] at this;refine ⟨O,?_⟩;unfold e'; simp [g,f,this]
 · have v:¬(op=1\/op=2\/op=3):=λh=>j (by unfold dv; simp; omega)
   unfold cQ;rw [if_neg j];dsimp only;refine ⟨O,?_⟩
   have y:lU op=1:=by unfold lU; rw [if_neg (by omega),if_neg (by omega)]
   have c:=bc o (by rw [y]; decide);rw [y] at c;unfold e';rw [if_neg (by omega),if_neg (by omega),if_neg (by omega)]
   by_cases l:op=4
   · rw [if_pos l]; simp [c]
   · have f:=s.2 l
     by_cases x:op=5
     · rw [if_neg l,if_pos x]; simp [c,f]
     · have g:=s.1 ⟨l,x⟩
       rw [if_neg l,if_neg x,if_pos (by omega)]; simp [c,f,g]
theorem dQ {d len:Nat} {c:bo} (h:(kU d len c).bE=0):d<=6/\len<=10/\c.bE=0:=by
 unfold kU at h
 split at h
 · cases h
 · obtain ⟨a,b⟩:=fo h
   have:=sX a;simp at this;exact ⟨by omega,by omega,b⟩
mutual
theorem U6 (b:jw m) (c:m.ak=[]):∀(x:bl) (d:Nat),(eP x d).bE=0->hJ (bT m [] ay) x=0->jl (kM m) ay.length (ko (bT m [] ay) x) d=true
 | .mk op mod nm args body other,d,k,he=>by
   have e:=uC k;rw [bW] at he;obtain ⟨l,f⟩:=iY.1 he;obtain ⟨f,g⟩:=iY.1 f;obtain ⟨g,o⟩:=iY.1 g;rw [iF,jl]
   have p:(fk (bT m [] ay) args).length=args.length:=by rw [sA,List.length_map]
   have q:(dV (bT m [] ay) body).length=body.length:=by rw [bX,List.length_map]
   have r:(dV (bT m [] ay) other).length=other.length:=by rw [bX,List.length_map]
   obtain ⟨s,t⟩:=U5 b c e l;have u:=Cv b c args 1 e.exprs f
   show (e' _ _ (cQ (bT m [] ay) op mod nm args.length).op (cQ (bT m [] ay) op mod nm args.length).n (cQ (bT m [] ay) op mod nm args.length).m (cQ (bT m [] ay) op mod nm args.length).pl (fk (bT m [] ay) args).length (dV (bT m [] ay) body).length (dV (bT m [] ay) other).length&&(fw _ _ (fk (bT m [] ay) args) 1&&((!(nj (cQ (bT m [] ay) op mod nm args.length).op)||(decide (d+1<=6)&&(decide ((dV (bT m [] ay) body).length<=10)&&fK _ _ (dV (bT m [] ay) body) (d+1))))&&(!(decide (0<(dV (bT m [] ay) other).length))||(decide (d+1<=6)&&(decide ((dV (bT m [] ay) other).length<=10)&&fK _ _ (dV (bT m [] ay) other) (d+1)))))))=true
   rw [p,q,r,t,u,s];simp only [Bool.true_and];refine Bool.and_eq_true_iff.2 ⟨?_,?_⟩
   · by_cases a:nj op=true
     · obtain ⟨h,i,j⟩:=dQ (e.body (by rw [show inner op=true from a]; rfl))
       rw [decide_eq_true h,decide_eq_true i,iC b c body (d+1) j g]; simp
     · simp [a]
   · by_cases a:0<other.length
     · obtain ⟨h,i,j⟩:=dQ (e.other a)
       rw [decide_eq_true h,decide_eq_true i,iC b c other (d+1) j o]; simp
     · rw [decide_eq_false a]; rfl
theorem iC (a:jw m) (b:m.ak=[]):∀(l:List bl) (d:Nat),(ar l d).bE=0->eu (bT m [] ay) l=0->fK (kM m) ay.length (dV (bT m [] ay) l) d=true
 | [],d,_,_=>by rw [dV,fK]
 | x::r,d,c,he=>by
   unfold ar at c;unfold eu at he;obtain ⟨c1,c2⟩:=fo c;obtain ⟨e,f⟩:=iY.1 he;rw [dV,fK,U6 a b x d c1 e,iC a b r d c2 f]; rfl
end
theorem JX (a:jw m) (b:m.ak=[]) {l:List bl} (c:(dw l 1).bE=0) (d:eu (bT m [] ay) l=0):aG (kM m) ay.length (dV (bT m [] ay) l) 1=true:=by
 obtain ⟨e,f,g⟩:=dQ c;unfold aG;rw [bX,List.length_map,<-bX,decide_eq_true e,decide_eq_true f,iC a b l 1 g d]; rfl
end
theorem Cw {α:Type} {f:α->Int}:∀{l:List α},aD f l=0->∀x ∈ l,f x=0
 | [],_,x,a=>by simp at a
 | y::r,h,x,a=>by
   unfold aD at h;obtain ⟨b,c⟩:=iY.1 h
   rcases List.mem_cons.1 a with rfl | a
   · exact b
   · exact Cw c x a
theorem U7 {m:aZ} (a:jw m) (b:m.ak=[]) (e:j5 m []=0):mz [c' m []]=0:=by
 unfold j5 at e;obtain ⟨j,k⟩:=iY.1 e;have v:=dN a;have w:=a.d'
 have l:gq (c' m []) []=true:=by
   unfold gq
   have a1:nk (c' m []).nm (c' m []).ak=true:=by
     show nk m.nm m.ak=true
     rw [b]; unfold nk; rw [hF.1 (by simp)]; rfl
   have a2:lr (c' m [])=false:=by
     unfold lr
     have n:(c' m []).parts.length=m.procs.length:=by unfold c'; simp
     have c:(c' m []).ak.length=0:=by show m.ak.length=0; rw [b]; rfl
     have o:(c' m []).nm=m.nm:=rfl;have d:(c' m []).data=j3 m:=rfl;rw [n,c,o,d,jv a.name];simp;omega
   have a3:(c' m []).parts.all (jm (kM m))=true:=by
     refine List.all_eq_true.2 λx q=>?_;obtain ⟨p,f,rfl⟩:=List.mem_map.1 (show x ∈ m.procs.map (lY m []) from q);have g:=cO (a.procs p f);have h:=Cw j p f;unfold my at h;obtain ⟨_,r⟩:=iY.1 h;have i:=JX a b g.body r;rw [List.length_append] at i;unfold jm lY;have y:=g.d';rw [show ((p.params.length:Int)+(p.ay.length:Int))=((p.params.length+p.ay.length:Nat):Int) by omega,i];simp;omega
   have a4:aG (kM m) 0 (c' m []).main 1=true:=JX (ay:=[]) a b a.main k;rw [a1,a2,show c7 (c' m [])::[]=kM m from rfl,a3,a4]; rfl
 have s:n5 [c' m []]=true:=by
   unfold n5;have c:(c' m []).ak=[]:=b;simp [List.range_succ,c]
 have t:kq [c' m []] 512=true:=by
   unfold kq kq;have d:(c' m []).data=j3 m:=rfl;rw [d];simp;omega
 have u:fy [c' m []] (c' m [])=[]:=by
   unfold fy;rw [show (c' m []).ak=[] from b]; rfl
 unfold mz;rw [if_neg (by simp),if_neg (by rw [s]; decide),if_neg (by unfold fg; rw [hF.1 (by simp)]; decide),if_neg (by rw [t]; decide),if_pos (by simp only [List.all_cons,List.all_nil,u,l]; rfl)]
theorem resolve_right {m:aZ} {fs:List (Tx×List bs)} (h:(cx m fs).2=0):(ao m).2=0/\(m.ak=[]->mz [(cx m fs).1]=0):=by
 unfold cx at h ⊢
 split at h
 · rename_i a; exact absurd h a
 · rename_i a
   have d:(ao m).2=0:=by simpa using a
   refine ⟨d,λe=>?_⟩;rw [if_neg a]
   split at h
   · cases h
   · rename_i c
     rw [if_neg c]
     split at h
     · cases h
     · rename_i f
       rw [if_neg f]
       split at h
       · rename_i b; exact absurd h b
       · rename_i b
         rw [if_neg b];have g:fs=[]:=List.eq_nil_of_length_eq_zero (by rw [e] at c; simpa using c);subst g;exact U7 (vI d).2.2 e (by simpa using b)
end Go.Bw
end
section
namespace Go.Bw
open Go
structure JY (fm:List cm) (k:Int) (x:bs):Prop where
 pos:0<=k
 kind:(x.kind=1/\0<=x.n/\x.n<=1099511627775)\/(x.kind=2/\iD fm k x.pl 1=true)\/(x.kind=3/\1<=x.n/\x.n<=32/\iD fm k x.pl x.n=true)\/(x.kind=4/\jk fm k x.pl x.n=true)
def qW (fm:List cm) (m:aZ) (fs:List fp) (ay:List Tx):Prop:=∀mod nm k it,eZ (bT m fs ay) mod nm=some (k,it)->(k = -1/\0<=it.pl/\it.pl<(ay.length:Int))\/JY fm k it
section
variable {m:aZ} {ay:List Tx} {fs:List fp} {fm:List cm}
theorem U8 (u:qW fm m fs ay) {op n:Int} {mod nm:Tx} {args:List aV} {d:Nat} (l:qt op n mod nm args d) (a:(cG (bT m fs ay) op n mod nm args.length).e=0) :
   node1 (fm) ay.length (cG (bT m fs ay) op n mod nm args.length).op (cG (bT m fs ay) op n mod nm args.length).n (cG (bT m fs ay) op n mod nm args.length).m (cG (bT m fs ay) op n mod nm args.length).pl args.length=true:=by
 have y:=l.kind;have i:=l.num;have f:=l.nA
 by_cases j:dv op 3 5=true
 · have p:op=3\/op=4\/op=5:=by unfold dv at j; simp at j; omega
   have g:n=0:=by
     unfold gN at i
     have:¬op=1:=by omega
     simpa [this] using i
   unfold cG at a ⊢;rw [if_pos j] at a ⊢
   cases o:eZ (bT m fs ay) mod nm with
   | none=>rw [o] at a; cases a
   | some q=>
     obtain ⟨k,it⟩:=q;rw [o] at a;dsimp only at a ⊢
     rcases u mod nm k it o with ⟨rfl,v,w⟩ | hi
     · rw [if_pos rfl] at a ⊢
       have x:op=3:=by
         dsimp only at a
         split at a
         · assumption
         · cases a
       subst x;have b:=bc f (by decide);rw [show hA 3=0 from rfl] at b;unfold node1 o9;simp [g,b,v,w]
     · have z:=hi.pos
       rw [if_neg (by omega)] at a ⊢
       rcases p with rfl | rfl | rfl
       · have b:=bc f (by decide)
         rw [show hA 3=0 from rfl] at b
         rcases hi.kind with ⟨e,c⟩ | ⟨e,c⟩ | ⟨e,c⟩ | ⟨e,c⟩
         · rw [if_pos ⟨rfl,e⟩]
           unfold node1; simp [b]; omega
         · rw [if_neg (by omega),if_pos ⟨rfl,e⟩]
           have:=c;unfold node1; simp [b,g,this]
         · rw [if_neg (by omega),if_neg (by omega),if_neg (by omega),if_neg (by omega)] at a; cases a
         · rw [if_neg (by omega),if_neg (by omega),if_neg (by omega),if_neg (by omega)] at a; cases a
       · have b:=bc f (by decide)
         rw [show hA 4=1 from rfl] at b;rw [if_neg (by omega),if_neg (by omega)] at a ⊢
         rcases hi.kind with ⟨e,c⟩ | ⟨e,c⟩ | ⟨e,c⟩ | ⟨e,c⟩
         · rw [if_neg (by omega),if_neg (by omega)] at a; cases a
         · rw [if_neg (by omega),if_neg (by omega)] at a; cases a
         · rw [if_pos ⟨rfl,e⟩]
           have:=c.2.2;unfold node1 ni; simp [b,this]; omega
         · rw [if_neg (by omega),if_neg (by omega)] at a; cases a
       · rw [if_neg (by omega),if_neg (by omega),if_neg (by omega)] at a ⊢
         rcases hi.kind with ⟨e,c⟩ | ⟨e,c⟩ | ⟨e,c⟩ | ⟨e,c⟩
         · rw [if_neg (by omega)] at a; cases a
         · rw [if_neg (by omega)] at a; cases a
         · rw [if_neg (by omega)] at a; cases a
         · rw [if_pos ⟨rfl,e⟩] at a ⊢
           dsimp only at a ⊢
           have b:it.n=(args.length:Int):=by
             split at a
             · assumption
             · cases a
           have:=c;rw [b] at this;unfold node1; simp [g,this]
 · have p:¬(op=3\/op=4\/op=5):=λh=>j (by unfold dv; simp; omega)
   unfold cG;rw [if_neg j];dsimp only
   by_cases c:op=1
   · subst c
     have b:=bc f (by decide);rw [show hA 1=0 from rfl] at b;unfold gN at i;unfold node1; simp [b] at i ⊢; omega
   · have g:n=0:=by
       unfold gN at i
       simpa [c] using i
     by_cases r:op=2
     · subst r
       have b:=bc f (by decide);rw [show hA 2=0 from rfl] at b;unfold node1; simp [g,b]
     · by_cases s:op=6
       · subst s
         have b:=bc f (by decide);rw [show hA 6=1 from rfl] at b;unfold node1; simp [g,b]
       · have t:hA op=2:=by unfold hA; rw [if_neg (by omega),if_neg (by omega),if_neg (by omega)]
         have b:=bc f (by rw [t]; decide);rw [t] at b;unfold node1;rw [if_neg c,if_neg (by omega),if_neg (by omega),if_neg (by omega),if_neg (by omega),if_neg r,if_neg s,if_pos (by omega)];simp [g,b]
mutual
theorem U9 (b:qW fm m fs ay):∀(x:aV) (d:Nat),(ga x d).bE=0->ij (bT m fs ay) x=0->jM (fm) ay.length (bg (bT m fs ay) x) d=true
 | .mk op n mod nm args,d,c,he=>by
   have a:=e7 c;rw [qb] at he;obtain ⟨e,f⟩:=iY.1 he;rw [zr,jM]
   have g:(fk (bT m fs ay) (aV.mk op n mod nm args).args).length=args.length:=by rw [sA,List.length_map]; rfl
   rw [g];have h:=U8 b a e;have i:=Cx b args (d+1) a.sub f;rw [decide_eq_true a.deep]
   show (node1 _ _ (cG (bT m fs ay) op n mod nm args.length).op (cG (bT m fs ay) op n mod nm args.length).n (cG (bT m fs ay) op n mod nm args.length).m (cG (bT m fs ay) op n mod nm args.length).pl args.length&&fw _ _ (fk (bT m fs ay) args) (d+1))=true
   rw [h,i]; rfl
theorem Cx (a:qW fm m fs ay):∀(l:List aV) (d:Nat),(cP l d).bE=0->gC (bT m fs ay) l=0->fw (fm) ay.length (fk (bT m fs ay) l) d=true
 | [],d,_,_=>by rw [fk,fw]
 | x::r,d,b,he=>by
   unfold cP at b;unfold gC at he;obtain ⟨c1,c2⟩:=fo b;obtain ⟨c,e⟩:=iY.1 he;rw [fk,fw,U9 a x d c1 c,Cx a r d c2 e]; rfl
end
theorem U' (w:qW fm m fs ay) {op:Int} {mod nm:Tx} {args:List aV} {body other:List bl} {d:Nat} (r:b3 op mod nm args body other d) (a:(cQ (bT m fs ay) op mod nm args.length).e=0) :
   (cQ (bT m fs ay) op mod nm args.length).op=op/\e' (fm) ay.length (cQ (bT m fs ay) op mod nm args.length).op (cQ (bT m fs ay) op mod nm args.length).n (cQ (bT m fs ay) op mod nm args.length).m (cQ (bT m fs ay) op mod nm args.length).pl args.length body.length other.length=true:=by
 have z:=r.kind;have l:=r.nA;have o:=r.form
 have p:(op≠4/\op≠5->body.length=0)/\(op≠4->other.length=0):=by
   unfold gB inner at o;simp at o;refine ⟨λh=>?_,λh=>?_⟩
   · have:=o.1 h.1 h.2; simp [this]
   · have:=o.2 h; simp [this]
 by_cases i:dv op 1 3=true
 · have s:op=1\/op=2\/op=3:=by unfold dv at i; simp at i; omega
   have g:body.length=0:=p.1 (by omega);have f:other.length=0:=p.2 (by omega);unfold cQ at a ⊢;rw [if_pos i] at a ⊢
   cases t:eZ (bT m fs ay) mod nm with
   | none=>rw [t] at a; cases a
   | some q=>
     obtain ⟨k,it⟩:=q;rw [t] at a;dsimp only at a ⊢
     rcases w mod nm k it t with ⟨rfl,x,y⟩ | hi
     · rcases s with rfl | rfl | rfl
       · have b:=bc l (by decide)
         rw [show lU 1=1 from rfl] at b;rw [if_pos ⟨rfl,.inl rfl⟩];refine ⟨O,?_⟩;unfold e' o9;simp [b,g,f,x,y]
       · rw [if_neg (by omega),if_pos rfl] at a; cases a
       · rw [if_neg (by omega),if_pos rfl] at a; cases a
     · have A:=hi.pos
       rcases s with rfl | rfl | rfl
       · have b:=bc l (by decide)
         rw [show lU 1=1 from rfl] at b
         rcases hi.kind with ⟨e,c⟩ | ⟨e,c⟩ | ⟨e,c⟩ | ⟨e,c⟩
         · rw [if_neg (by omega),if_neg (by omega),if_neg (by omega),if_neg (by omega)] at a; cases a
         · rw [if_pos ⟨rfl,.inr e⟩]
           have:=c;refine ⟨O,?_⟩;unfold e'; simp [b,g,f,this]
         · rw [if_neg (by omega),if_neg (by omega),if_neg (by omega),if_neg (by omega)] at a; cases a
         · rw [if_neg (by omega),if_neg (by omega),if_neg (by omega),if_neg (by omega)] at a; cases a
       · have b:=bc l (by decide)
         rw [show lU 2=2 from rfl] at b;rw [if_neg (by omega),if_neg (by omega)] at a ⊢
         rcases hi.kind with ⟨e,c⟩ | ⟨e,c⟩ | ⟨e,c⟩ | ⟨e,c⟩
         · rw [if_neg (by omega),if_neg (by omega)] at a; cases a
         · rw [if_neg (by omega),if_neg (by omega)] at a; cases a
         · rw [if_pos ⟨rfl,e⟩]
           have:=c.2.2;refine ⟨O,?_⟩;unfold e' ni; simp [b,g,f,this]; omega
         · rw [if_neg (by omega),if_neg (by omega)] at a; cases a
       · rw [if_neg (by omega),if_neg (by omega),if_neg (by omega)] at a ⊢
         rcases hi.kind with ⟨e,c⟩ | ⟨e,c⟩ | ⟨e,c⟩ | ⟨e,c⟩
         · rw [if_neg (by omega)] at a; cases a
         · rw [if_neg (by omega)] at a; cases a
         · rw [if_neg (by omega)] at a; cases a
         · rw [if_pos ⟨rfl,e⟩] at a ⊢
           dsimp only at a ⊢
           have b:it.n=(args.length:Int):=by
             split at a
             · assumption
             · cases a
           have:=c;rw [b] at this;refine ⟨O,?_⟩;unfold e'; simp [g,f,this]
 · have s:¬(op=1\/op=2\/op=3):=λh=>i (by unfold dv; simp; omega)
   unfold cQ;rw [if_neg i];dsimp only;refine ⟨O,?_⟩
   have v:lU op=1:=by unfold lU; rw [if_neg (by omega),if_neg (by omega)]
   have b:=bc l (by rw [v]; decide);rw [v] at b;unfold e';rw [if_neg (by omega),if_neg (by omega),if_neg (by omega)]
   by_cases j:op=4
   · rw [if_pos j]; simp [b]
   · have f:=p.2 j
     by_cases u:op=5
     · rw [if_neg j,if_pos u]; simp [b,f]
     · have g:=p.1 ⟨j,u⟩
       rw [if_neg j,if_neg u,if_pos (by omega)]; simp [b,f,g]
mutual
theorem U_ (b:qW fm m fs ay):∀(x:bl) (d:Nat),(eP x d).bE=0->hJ (bT m fs ay) x=0->jl (fm) ay.length (ko (bT m fs ay) x) d=true
 | .mk op mod nm args body other,d,j,he=>by
   have c:=uC j;rw [bW] at he;obtain ⟨k,e⟩:=iY.1 he;obtain ⟨e,f⟩:=iY.1 e;obtain ⟨f,l⟩:=iY.1 f;rw [iF,jl]
   have o:(fk (bT m fs ay) args).length=args.length:=by rw [sA,List.length_map]
   have p:(dV (bT m fs ay) body).length=body.length:=by rw [bX,List.length_map]
   have q:(dV (bT m fs ay) other).length=other.length:=by rw [bX,List.length_map]
   obtain ⟨r,s⟩:=U' b c k;have t:=Cx b args 1 c.exprs e
   show (e' _ _ (cQ (bT m fs ay) op mod nm args.length).op (cQ (bT m fs ay) op mod nm args.length).n (cQ (bT m fs ay) op mod nm args.length).m (cQ (bT m fs ay) op mod nm args.length).pl (fk (bT m fs ay) args).length (dV (bT m fs ay) body).length (dV (bT m fs ay) other).length&&(fw _ _ (fk (bT m fs ay) args) 1&&((!(nj (cQ (bT m fs ay) op mod nm args.length).op)||(decide (d+1<=6)&&(decide ((dV (bT m fs ay) body).length<=10)&&fK _ _ (dV (bT m fs ay) body) (d+1))))&&(!(decide (0<(dV (bT m fs ay) other).length))||(decide (d+1<=6)&&(decide ((dV (bT m fs ay) other).length<=10)&&fK _ _ (dV (bT m fs ay) other) (d+1)))))))=true
   rw [o,p,q,s,t,r];simp only [Bool.true_and];refine Bool.and_eq_true_iff.2 ⟨?_,?_⟩
   · by_cases a:nj op=true
     · obtain ⟨g,h,i⟩:=dQ (c.body (by rw [show inner op=true from a]; rfl))
       rw [decide_eq_true g,decide_eq_true h,yt b body (d+1) i f]; simp
     · simp [a]
   · by_cases a:0<other.length
     · obtain ⟨g,h,i⟩:=dQ (c.other a)
       rw [decide_eq_true g,decide_eq_true h,yt b other (d+1) i l]; simp
     · rw [decide_eq_false a]; rfl
theorem yt (a:qW fm m fs ay):∀(l:List bl) (d:Nat),(ar l d).bE=0->eu (bT m fs ay) l=0->fK (fm) ay.length (dV (bT m fs ay) l) d=true
 | [],d,_,_=>by rw [dV,fK]
 | x::r,d,b,he=>by
   unfold ar at b;unfold eu at he;obtain ⟨c1,c2⟩:=fo b;obtain ⟨c,e⟩:=iY.1 he;rw [dV,fK,U_ a x d c1 c,yt a r d c2 e]; rfl
end
theorem JZ (a:qW fm m fs ay) {l:List bl} (b:(dw l 1).bE=0) (c:eu (bT m fs ay) l=0):aG (fm) ay.length (dV (bT m fs ay) l) 1=true:=by
 obtain ⟨d,e,f⟩:=dQ b;unfold aG;rw [bX,List.length_map,<-bX,decide_eq_true d,decide_eq_true e,yt a l 1 f c]; rfl
end
end Go.Bw
end
section
namespace Go.Bw
open Go
def mW (ms:List aZ) (n:Nat) (M:List (hs×fp)):List (hs×fp):=((ms.take n).map λm=>(m.nm,(ao m).1)).reverse++M
theorem J0:∀{ms:List aZ} {M:List (hs×fp)} {us:List bK},fV ms M=(us,0)->us.length=ms.length/\∀(n:Nat) (m:aZ),ms[n]? = some m->(aC (mW ms n M) m).2=0/\us[n]? = some (aC (mW ms n M) m).1
 | [],M,us,h=>by
   rw [fV] at h
   injection h with h _
   subst h;exact ⟨O,λn m f=>by simp at f⟩
 | m::r,M,us,h=>by
   rw [fV] at h
   split at h
   · rename_i b; injection h with _ c; exact absurd c b
   · rename_i b
     split at h
     · rename_i d; injection h with _ c; exact absurd c d
     · rename_i d
       injection h with h _
       subst h
       have g:(fV r ((m.nm,(ao m).1)::M)).2=0:=by simpa using d
       obtain ⟨i,j⟩:=J0 (ms:=r) (M:=(m.nm,(ao m).1)::M) (us:=(fV r ((m.nm,(ao m).1)::M)).1) (Prod.ext rfl g);refine ⟨by simp [i],λn x a=>?_⟩
       cases n with
       | zero=>
         simp at a; subst a;exact ⟨by simpa [mW] using b,by simp [mW]⟩
       | succ n=>
         rw [List.getElem?_cons_succ] at a ⊢
         have e:mW (m::r) (n+1) M=mW r n ((m.nm,(ao m).1)::M):=by simp [mW]
         rw [e]; exact j n x a
theorem Va {M:List (hs×fp)} {m:aZ} (h:(aC M m).2=0):(ao m).2=0/\(aC M m).1=c' m (m.ak.map (fi M))/\lq m.ak (m.ak.map (fi M))=true/\j5 m (m.ak.map (fi M))=0:=by
 by_cases a:(ao m).2=0
 · rw [AX a] at h ⊢
   refine ⟨a,?_⟩;unfold cx at h ⊢;rw [if_neg (by rw [a]; simp)] at h ⊢;rw [if_neg (by simp)] at h ⊢
   split at h
   · cases h
   · rename_i c
     rw [if_neg c]
     split at h
     · rename_i b; exact absurd h b
     · rename_i b
       rw [if_neg b];exact ⟨O,by simpa using c,by simpa using b⟩
 · rw [AW a] at h
   exact absurd h a
theorem J1 {f:hs->fp}:∀{us:List hs},lq us (us.map f)=true->∀s ∈ us,hG (f s).1 (f s).2=0/\(f s).1=s
 | [],_,s,a=>by simp at a
 | u::us,h,s,a=>by
   rw [List.map_cons] at h;unfold lq at h;simp only [Bool.and_eq_true,beq_iff_eq] at h
   rcases List.mem_cons.1 a with e | a
   · subst e; exact h.1
   · exact J1 h.2 s a
theorem J2:∀(M:List (hs×fp)) (s:hs),(∃p ∈ M,p.1=s/\p.2=fi M s)\/fi M s=([],[])
 | [],s=>.inr rfl
 | (k,f)::r,s=>by
   unfold fi
   by_cases e:k=s
   · rw [if_pos e]; exact .inl ⟨(k,f),by simp,e,rfl⟩
   · rw [if_neg e]
     rcases J2 r s with ⟨p,a,h⟩ | h
     · exact .inl ⟨p,by simp [a],h⟩
     · exact .inr h
theorem Vb {nm:hs} {l:List bs} (h:hG nm l=0):dU nm=true:=by
 unfold hG at h
 split at h
 · cases h
 · split at h
   · rename_i a
     simp only [Bool.and_eq_true,Bool.not_eq_true',Bool.or_eq_false_iff,Bool.not_eq_false'] at a;exact a.2.2
   · cases h
theorem Vc {ms:List aZ} {n:Nat} {s:hs} (d:hG (fi (mW ms n []) s).1 (fi (mW ms n []) s).2=0):∃(j:Nat) (a:aZ),j<n/\ms[j]? = some a/\a.nm=s/\fi (mW ms n []) s=(ao a).1:=by
 rcases J2 (mW ms n []) s with ⟨p,c,e,f⟩ | h
 · unfold mW at c
   rw [List.append_nil,List.mem_reverse] at c;obtain ⟨a,g,rfl⟩:=List.mem_map.1 c;obtain ⟨j,b⟩:=List.getElem?_of_mem g;rw [List.getElem?_take] at b
   split at b
   · rename_i i; exact ⟨j,a,i,b,e,f.symm⟩
   · cases b
 · rw [h] at d
   exact absurd (Vb d) (by decide)
structure fC (ms:List aZ) (us:List bK):Prop where
 len:us.length=ms.length
 nd:(ms.map (·.nm)).Nodup
 at_:∀(n:Nat) (m:aZ),ms[n]? = some m->(ao m).2=0/\∃fs:List fp,us[n]? = some (c' m fs)/\fs.length=m.ak.length/\j5 m fs=0/\∀(i:Nat) (s:hs),m.ak[i]? = some s->∃(j:Nat) (m':aZ),j<n/\ms[j]? = some m'/\m'.nm=s/\fs[i]? = some (ao m').1
theorem Vd {ms:List aZ} {us:List bK} (h:fV ms []=(us,0)) (g:(ms.map (·.nm)).Nodup):fC ms us:=by
 obtain ⟨k,l⟩:=J0 h;refine ⟨k,g,λn m o=>?_⟩;obtain ⟨p,f⟩:=l n m o;obtain ⟨a,b,c,d⟩:=Va p;rw [b] at f;refine ⟨a,_,f,by simp,d,λi s hi=>?_⟩;obtain ⟨e,_⟩:=J1 c s (List.mem_of_getElem? hi);obtain ⟨j,q,r,t,u,v⟩:=Vc e;exact ⟨j,q,r,t,u,by rw [List.getElem?_map,hi,Option.map_some,v]⟩
theorem Cz {s:hs}:∀{l:List hs} {j k:Nat},l.Nodup->l[j]? = some s->idxOf s l k=some (k+j)
 | [],j,k,_,h=>by simp at h
 | x::r,j,k,a,h=>by
   rw [List.nodup_cons] at a;unfold idxOf
   cases j with
   | zero=>simp at h; subst h; simp
   | succ j=>
     rw [List.getElem?_cons_succ] at h
     have b:¬x=s:=λe=>by subst e; exact a.1 (List.mem_of_getElem? h)
     rw [if_neg b,Cz a.2 h]
     congr 1; omega
theorem J3 {mod nm:hs}:∀{us:List hs} {fs:List (List bs)} {k:Nat} {q:Int} {it:bs},iX mod nm us fs k=some (q,it)->∃(j:Nat) (f:List bs),us[j]? = some mod/\fs[j]? = some f/\q=((k+j+1:Nat):Int)/\it ∈ f
 | [],fs,k,q,it,h=>by unfold iX at h; cases h
 | u::us,[],k,q,it,h=>by unfold iX at h; cases h
 | u::us,f::fs,k,q,it,h=>by
   unfold iX at h
   have go:iX mod nm us fs (k+1)=some (q,it)->∃(j:Nat) (g:List bs),(u::us)[j]? = some mod/\(f::fs)[j]? = some g/\q=((k+j+1:Nat):Int)/\it ∈ g:=λh=>by
     obtain ⟨j,g,a,b,c,d⟩:=J3 h;exact ⟨j+1,g,by simpa using a,by simpa using b,by rw [c]; congr 1; omega,d⟩
   split at h
   · rename_i e
     split at h
     · rename_i x i
       injection h with h; injection h with l m
       subst l m;exact ⟨0,f,by simp [e],by simp,O,yq i⟩
     · exact go h
   · exact go h
theorem J4 {ks:List cm} {i:Nat} {k:cm} {m:aZ} (b:ks[i]? = some k) (hi:k.lZ=true) (f:k.data=j3 m) (g:k.parts=m.procs.map λp=>(p.params.length:Int)) (h:jw m) {x:bs} (l:Cu m x):JY ks (i:Int) x:=by
 have r:=(List.getElem?_eq_some_iff.1 b).1;have s:=dN h
 have data (pl n:Int) (t:0<=pl) (a:pl+n<=j3 m) (c:0<=n):iD ks (i:Int) pl n=true:=by
   have d:bh ks (i:Int) pl=false:=by
     unfold bh;simp only [Bool.or_eq_false_iff,decide_eq_false_iff_not];omega
   rw [rn d b,if_pos hi,f];exact decide_eq_true a
 refine ⟨by omega,?_⟩
 rcases l.kind with ⟨e,a⟩ | ⟨e,a⟩ | ⟨e,a⟩ | ⟨e,j,p,a,c,o⟩
 · exact .inl ⟨e,a.1,a.2.1⟩
 · exact .inr (.inl ⟨e,data _ _ a.2.1 a.2.2 (by decide)⟩)
 · exact .inr (.inr (.inl ⟨e,a.1,a.2.1,data _ _ a.2.2.1 a.2.2.2 (by omega)⟩))
 · refine .inr (.inr (.inr ⟨e,?_⟩))
   have d:j6 ks (i:Int) x.pl=false:=by
     unfold j6;simp only [Bool.or_eq_false_iff,decide_eq_false_iff_not];omega
   have q:=(List.getElem?_eq_some_iff.1 c).1;rw [o' d b,if_pos hi,g,a,o,Int.toNat_natCast,List.getElem?_map,c,List.length_map];simp;exact q
theorem fC.names {ms:List aZ} {us:List bK} (a:fC ms us):fg us=ms.map (·.nm):=by
 refine List.ext_getElem? λn=>?_;unfold fg;rw [List.getElem?_map,List.getElem?_map]
 cases b:ms[n]? with
 | none=>
   have:us[n]? = none:=by rw [List.getElem?_eq_none_iff,a.len]; exact List.getElem?_eq_none_iff.1 b
   rw [this]; rfl
 | some m=>
   obtain ⟨_,fs,c,_⟩:=a.at_ n m b;rw [c]; rfl
theorem fC.kn {ms:List aZ} {us:List bK} (b:fC ms us) {n i:Nat} {m:aZ} {s:hs} (h:ms[n]? = some m) (e:m.ak[i]? = some s) (fs:List fp):∃(j:Nat) (a:aZ) (c:List fp),j<n/\ms[j]? = some a/\a.nm=s/\us[j]? = some (c' a c)/\(fy us (c' m fs))[i]? = some (c7 (c' a c)):=by
 obtain ⟨_,q,_,_,_,o⟩:=b.at_ n m h;obtain ⟨j,a,p,d,f,_⟩:=o i s e;obtain ⟨_,c,g,_⟩:=b.at_ j a d;refine ⟨j,a,c,p,d,f,g,?_⟩
 have hi:idxOf s (fg us) 0=some j:=by
   have:=Cz (k:=0) (s:=s) (l:=fg us) (j:=j) (by rw [b.names]; exact b.nd) (by rw [b.names,List.getElem?_map,d,Option.map_some,f]);rw [this,Nat.zero_add]
 unfold fy;rw [List.getElem?_map,show (c' m fs).ak=m.ak from rfl,e,Option.map_some];simp only [hi,g,Option.map_some,Option.getD_some]
theorem fC.it {ms:List aZ} {us:List bK} (r:fC ms us) {n:Nat} {m:aZ} {fs:List fp} (w:ms[n]? = some m) (K:us[n]? = some (c' m fs)) (C:∀(i:Nat) (s:hs),m.ak[i]? = some s->∃(j:Nat) (g:aZ),j<n/\ms[j]? = some g/\g.nm=s/\fs[i]? = some (ao g).1) (ay:List hs):qW (c7 (c' m fs)::fy us (c' m fs)) m fs ay:=by
 intro mod nm k it h;have y:=(vI (r.at_ n m w).1).2.2
 have kp (m:aZ) (fs:List fp):(c7 (c' m fs)).parts=m.procs.map λp=>(p.params.length:Int):=by
   unfold c7 c';simp [lY]
 unfold eZ at h
 split at h
 · split at h
   · rename_i i hi
     injection h with h; injection h with t l
     subst t l;have L:i<ay.length:=JV hi;exact .inl ⟨O,by show (0:Int)<=(i:Int); omega,by show (i:Int)<_; omega⟩
   · obtain ⟨x,u,e⟩:=Option.map_eq_some_iff.1 h
     injection e with t l
     subst t l;exact .inr (J4 (i:=0) (m:=m) O O O (kp m fs) y (vH y x (yq u)))
 · obtain ⟨j,f,a,b,c,d⟩:=J3 h
   have a:m.ak[j]? = some mod:=a;obtain ⟨v,g,t,l,D,E⟩:=C j mod a;obtain ⟨z,M,F,N,q,G,P,H⟩:=r.kn w a fs
   have I:v=z:=by
     have A:(ms.map (·.nm))[v]? = some mod:=by rw [List.getElem?_map,l,Option.map_some,D]
     have J:(ms.map (·.nm))[z]? = some mod:=by rw [List.getElem?_map,q,Option.map_some,G]
     exact (List.getElem?_inj (List.getElem?_eq_some_iff.1 A).1 r.nd).1 (A.trans J.symm)
   subst I;rw [l] at q
   injection q with q
   subst q;have b:(fs.map (·.2))[j]? = some f:=b;rw [List.getElem?_map,E,Option.map_some] at b
   injection b with b
   subst b;have B:=(vI (r.at_ v g l).1).2.2
   have u:it ∈ ef g:=by
     have o:=d;unfold ao at o
     split at o
     · simp at o
     · split at o
       · simp at o
       · exact (yp _ _).subset o
   have:=J4 (ks:=c7 (c' m fs)::fy us (c' m fs)) (i:=j+1) (m:=g) (by rw [List.getElem?_cons_succ]; exact H) rfl rfl (kp g F) B (vH B it u);rw [c,Nat.zero_add];exact .inr this
theorem fC.Ve {ms:List aZ} {us:List bK} (a:fC ms us) {n:Nat} {m:aZ} (b:ms[n]? = some m):m.nm ∉ m.ak:=by
 intro d;obtain ⟨i,hi⟩:=List.getElem?_of_mem d;obtain ⟨_,fs,_,_,_,e⟩:=a.at_ n m b;obtain ⟨j,k,l,f,g,_⟩:=e i m.nm hi
 have c:(ms.map (·.nm))[j]? = some m.nm:=by rw [List.getElem?_map,f,Option.map_some,g]
 have h:(ms.map (·.nm))[n]? = some m.nm:=by rw [List.getElem?_map,b,Option.map_some]
 have:=(List.getElem?_inj (List.getElem?_eq_some_iff.1 c).1 a.nd).1 (c.trans h.symm);omega
theorem Vf {m:aZ} (h:(ao m).2=0):m.ak.Nodup:=by
 unfold ao at h
 split at h
 · rename_i b; exact absurd h b
 · split at h
   · cases h
   · rename_i a
     exact hF.2 (by
       cases c:et m.ak with
       | false=>rfl
       | true=>rw [c] at a; simp at a)
theorem fC.sH {ms:List aZ} {us:List bK} (b:fC ms us) {u:bK} (r:u ∈ us):gq u (fy us u)=true:=by
 obtain ⟨n,c⟩:=List.getElem?_of_mem r;have t:=(List.getElem?_eq_some_iff.1 c).1;obtain ⟨m,d⟩:∃m,ms[n]? = some m:=⟨_,List.getElem?_eq_getElem (by rw [<-b.len]; exact t)⟩;obtain ⟨h,fs,e,B,i,j⟩:=b.at_ n m d;rw [c] at e
 injection e with e
 subst e;have a:=(vI h).2.2;have C:=dN a;have D:=a.d';unfold j5 at i;obtain ⟨f,g⟩:=iY.1 i;unfold gq
 have a1:nk (c' m fs).nm (c' m fs).ak=true:=Ei (by
   show (m.nm::m.ak).Nodup
   rw [List.nodup_cons]; exact ⟨b.Ve d,Vf h⟩) (List.all_eq_true.2 λs v=>jv (a.ak s v))
 have a2:lr (c' m fs)=false:=by
   unfold lr
   have f:(c' m fs).parts.length=m.procs.length:=by unfold c'; simp
   have g:(c' m fs).ak.length=m.ak.length:=rfl;have w:(c' m fs).nm=m.nm:=rfl;have y:(c' m fs).data=j3 m:=rfl;rw [f,g,w,y,jv a.name];simp;omega
 have a3:(c' m fs).parts.all (jm (c7 (c' m fs)::fy us (c' m fs)))=true:=by
   refine List.all_eq_true.2 λx z=>?_;obtain ⟨p,k,rfl⟩:=List.mem_map.1 (show x ∈ m.procs.map (lY m fs) from z);have l:=cO (a.procs p k);have o:=Cw f p k;unfold my at o;obtain ⟨_,A⟩:=iY.1 o;have q:=JZ (b.it d c j (p.params++p.ay)) l.body A;rw [List.length_append] at q;unfold jm lY;have E:=l.d';rw [show ((p.params.length:Int)+(p.ay.length:Int))=((p.params.length+p.ay.length:Nat):Int) by omega,q];simp;omega
 have a4:aG (c7 (c' m fs)::fy us (c' m fs)) 0 (c' m fs).main 1=true:=JZ (ay:=[]) (b.it d c j []) a.main g;rw [a1,a2,a3,a4]; rfl
theorem fC.ahead {ms:List aZ} {us:List bK} (a:fC ms us):n5 us=true:=by
 unfold n5;refine List.all_eq_true.2 λn b=>?_;have c:=List.mem_range.1 b;obtain ⟨m,d⟩:∃m,ms[n]? = some m:=⟨_,List.getElem?_eq_getElem (by rw [<-a.len]; exact c)⟩;obtain ⟨_,fs,e,_,_,f⟩:=a.at_ n m d;rw [e,a.names];refine List.all_eq_true.2 λs g=>?_;obtain ⟨i,hi⟩:=List.getElem?_of_mem (show s ∈ m.ak from g);obtain ⟨j,o,h,k,l,_⟩:=f i s hi;rw [List.contains_iff_mem];refine List.mem_of_getElem? (i:=j) ?_;rw [List.getElem?_take,if_pos h,List.getElem?_map,k,Option.map_some,l]
theorem fC.data {ms:List aZ} {us:List bK} (b:fC ms us):∀u ∈ us,0<=u.data/\u.data<=320:=λu d=>by
 obtain ⟨n,c⟩:=List.getElem?_of_mem d;have e:=(List.getElem?_eq_some_iff.1 c).1;obtain ⟨m,f⟩:∃m,ms[n]? = some m:=⟨_,List.getElem?_eq_getElem (by rw [<-b.len]; exact e)⟩;obtain ⟨g,fs,a,_⟩:=b.at_ n m f;rw [c] at a
 injection a with a
 subst a;exact dN (vI g).2.2
def iP (l:List bK):Int:=(l.map (·.data)).sum
theorem J5:∀{l:List bK} {r:Int},(∀u ∈ l,0<=u.data)->iP l<=r->kq l r=true
 | [],r,_,_=>rfl
 | u::l,r,h,d=>by
   have e:=h u (by simp)
   have f:iP (u::l)=u.data+iP l:=by simp [iP]
   have g:0<=iP l:=by
     have:∀{l:List bK},(∀u ∈ l,0<=u.data)->0<=iP l:=fun {l}=>by
       induction l with
       | nil=>intro _; simp [iP]
       | cons x t b=>intro h; have:=b λu a=>h u (by simp [a]); have:=h x (by simp); simp [iP] at *; omega
     exact this λu a=>h u (by simp [a])
   rw [kq,J5 (λx c=>h x (by simp [c])) (by omega)];simp;omega
theorem fC.right {ms:List aZ} {us:List bK} (a:fC ms us) (e:1<=us.length/\us.length<=4) (c:iP us<=512):mz us=0:=by
 unfold mz
 have d:et (fg us)=false:=by rw [a.names]; exact hF.1 a.nd
 rw [if_neg (by simp; omega),if_neg (by rw [a.ahead]; decide),if_neg (by rw [d]; decide),if_neg (by rw [J5 (λu b=>(a.data u b).1) c]; decide),if_pos (List.all_eq_true.2 λu b=>a.sH b)]
theorem fC.alone {ms:List aZ} {us:List bK} (a:fC ms us) {u:bK} (c:u ∈ us):nr u=true:=by
 have d:=a.sH c
 have e:(fy us u).length=u.ak.length:=by simp [fy]
 unfold nr;rw [<-e];refine M8 (M9 λk b=>?_) d;unfold fy at b;obtain ⟨s,_,rfl⟩:=List.mem_map.1 b
 split
 · rename_i i hi
   cases f:us[i]? with
   | none=>intro h; cases h
   | some g=>exact Ah (a.sH (List.mem_of_getElem? f))
 · intro h; cases h
end Go.Bw
end
section
namespace Go.Bw
open Go
theorem N_ {u:bK} (h:nr u=true):(eb u).2=0\/(eb u).2=2:=by
 unfold eb;rw [if_neg (by rw [h]; decide)]
 split
 · exact .inr O
 · exact .inl O
theorem yu {u:bK} (h:nr u=true) (a:(eb u).2=0):(eb u).1=eY u/\(eY u).g.code.length<=2048:=by
 unfold eb at a ⊢;rw [if_neg (by rw [h]; decide)] at a ⊢
 split at a
 · cases a
 · rename_i b
   rw [if_neg b];exact ⟨O,by omega⟩
def j0 (us:List bK):List bA:=us.map λu=>(eb u).1.to
section
theorem fC.fm {ms:List aZ} {us:List bK} (b:fC ms us) (u:bK):∀k ∈ fy us u,iQ k:=by
 intro k a;unfold fy at a;obtain ⟨s,_,rfl⟩:=List.mem_map.1 a
 split
 · rename_i i hi
   cases c:us[i]? with
   | none=>intro h; cases h
   | some d=>exact Ah (b.sH (List.mem_of_getElem? c))
 · intro h; cases h
theorem Vh {us:List bK} {n:Nat} {u:bK} (h:us[n]? = some u):(j0 us)[n]? = some (eb u).1.to:=by unfold j0; rw [List.getElem?_map,h]; rfl
theorem fC.obj {ms:List aZ} {us:List bK} (d:fC ms us) (e:∀u ∈ us,(eb u).2=0) {n:Nat} {o:bA} (a:(j0 us)[n]? = some o):∃u,us[n]? = some u/\o=(eY u).to/\(eY u).g.code.length<=2048:=by
 unfold j0 at a;rw [List.getElem?_map] at a;obtain ⟨u,b,rfl⟩:=Option.map_eq_some_iff.1 a;have c:=List.mem_of_getElem? b;obtain ⟨f,h⟩:=yu (d.alone c) (e u c);exact ⟨u,b,by rw [f],h⟩
theorem fC.Vi {ms:List aZ} {us:List bK} (a:fC ms us) (c:∀u ∈ us,(eb u).2=0):eA (j0 us)=ms.map (·.nm):=by
 rw [<-a.names];unfold eA j0 fg;rw [List.map_map];refine List.map_congr_left λu b=>?_
 show (eb u).1.to.nm=u.nm
 rw [(yu (a.alone b) (c u b)).1]; rfl
theorem fC.mod {ms:List aZ} {us:List bK} (c:fC ms us) {n:Nat} {u:bK} (d:us[n]? = some u):∃(m:aZ) (fs:List fp),ms[n]? = some m/\u=c' m fs/\∀(i:Nat) (s:hs),m.ak[i]? = some s->∃(j:Nat) (b:aZ),j<n/\ms[j]? = some b/\b.nm=s/\fs[i]? = some (ao b).1:=by
 have f:=(List.getElem?_eq_some_iff.1 d).1;obtain ⟨m,e⟩:∃m,ms[n]? = some m:=⟨_,List.getElem?_eq_getElem (by rw [<-c.len]; exact f)⟩;obtain ⟨_,fs,a,_,_,g⟩:=c.at_ n m e;rw [d] at a
 injection a with a
 exact ⟨m,fs,e,a,g⟩
theorem Vj {ms:List aZ} {us:List bK} (b:fC ms us) (d:∀u ∈ us,(eb u).2=0) {n:Nat} {u:bK} (c:us[n]? = some u):qo (j0 us) n=u.parts.length:=by
 have a:=List.mem_of_getElem? c;unfold qo;rw [Vh c,Option.map_some,Option.getD_some,(yu (b.alone a) (d u a)).1]
 show ((eY u).cI.map λn:Nat=>(n:Int)).length=_
 rw [List.length_map];exact (EO (b.alone a)).d'
theorem fC.link {ms:List aZ} {us:List bK} (b:fC ms us) (ad:1<=us.length/\us.length<=4) (v:∀u ∈ us,(eb u).2=0):E8 (j0 us):=by
 have x:=b.Vi v;refine ⟨by unfold j0; rw [List.length_map]; omega,λo w=>?_,by rw [x]; exact b.nd,λn o w=>?_,λn o w f J=>?_⟩
 · obtain ⟨n,K⟩:=List.getElem?_of_mem w
   obtain ⟨u,d,rfl,y⟩:=b.obj v K;exact Nr (b.alone (List.mem_of_getElem? d)) y
 · obtain ⟨u,d,rfl,_⟩:=b.obj v w
   obtain ⟨m,fs,y,rfl,G⟩:=b.mod d;unfold pk;refine List.all_eq_true.2 λs z=>?_;obtain ⟨i,hi⟩:=List.getElem?_of_mem (show s ∈ m.ak from z);obtain ⟨j,L,B,C,D,_⟩:=G i s hi
   cases M:idxOf s ((eA (j0 us)).take n) 0 with
   | some _=>rfl
   | none=>
     refine absurd ?_ (n4.1 M);rw [x];refine List.mem_of_getElem? (i:=j) ?_;rw [List.getElem?_take,if_pos B,List.getElem?_map,C,Option.map_some,D]
 · obtain ⟨u,d,rfl,_⟩:=b.obj v w
   have N:=List.mem_of_getElem? d
   have O:=EN (b.sH N) (by simp [fy]) λk h hi=>by have:=(b.fm u k h hi).2.1; omega
   obtain ⟨c,fx,a1,a2,_,a4,_⟩:=O.ap.more
   have a2:(eY u).g.fix=fx:=by simpa using a2
   have P:f ∈ fx:=by rw [<-a2]; exact J
   obtain ⟨p,i,Q,R,_,S⟩:=a4 f P
   have T:h2 (eY u).to.code f.at_=i.a:=by
     show h2 (eY u).g.code f.at_=_
     unfold h2; rw [Q,Int.toNat_natCast,R]; rfl
   unfold bU
   rcases S with ⟨e,_⟩ | ⟨e,_,c0,c1,c2,c3,U⟩
   · rw [e]; rfl
   · rcases e with e | e
     · obtain ⟨q,l⟩:=U e
       have E:j6 (c7 u::fy us u) f.m i.a=false:=by
         cases V:j6 (c7 u::fy us u) f.m i.a with
         | false=>rfl
         | true=>rw [h8 q V] at l; cases l
       obtain ⟨⟨H,F,W⟩,ae,af⟩:=wQ E;rw [F] at l E;obtain ⟨k,h⟩:∃k,(c7 u::fy us u)[H]? = some k:=⟨_,List.getElem?_eq_getElem W⟩;rw [o' E h] at l
       have key:∃(j:Nat) (r:bK),us[j]? = some r/\k=c7 r/\aR (j0 us) n (eY u).to f.m=j:=by
         cases H with
         | zero=>
           refine ⟨n,u,d,by simpa using h.symm,?_⟩;unfold aR lA;rw [F]; rfl
         | succ t=>
           rw [List.getElem?_cons_succ] at h;obtain ⟨m,fs,y,rfl,G⟩:=b.mod d
           have X:t<m.ak.length:=by
             have I:=(List.getElem?_eq_some_iff.1 h).1
             have e:(fy us (c' m fs)).length=(c' m fs).ak.length:=by simp [fy]
             rw [e] at I;exact I
           obtain ⟨s,z⟩:∃s,m.ak[t]? = some s:=⟨_,List.getElem?_eq_getElem X⟩;obtain ⟨j,L,ag,B,C,D,Y,A⟩:=b.kn y z fs;rw [h] at A
           injection A with A
           refine ⟨j,_,Y,A,?_⟩;unfold aR lA;rw [F,show ((t+1:Nat):Int).toNat=t+1 from rfl,List.getElem?_cons_succ,List.getElem?_map,show (eY (c' m fs)).to.ak=m.ak from rfl,z,Option.map_some,Option.getD_some];unfold oj
           have Z:((eA (j0 us)).take n).Nodup:=by rw [x]; exact b.nd.sublist (List.take_sublist _ _)
           rw [Cz (k:=0) (j:=j) Z (by rw [List.getElem?_take,if_pos B,x,List.getElem?_map,C,Option.map_some,D])];simp
       obtain ⟨j,r,aa,rfl,ab⟩:=key;rw [ab,Vj b v aa,T];rw [if_pos (show (c7 r).lZ=true from rfl)] at l;simp only [Bool.and_eq_true,decide_eq_true_eq] at l
       have ac:(c7 r).parts.length=r.parts.length:=by unfold c7; simp
       rw [ac] at l;rw [decide_eq_false (by omega)];simp
     · rw [e]; rfl
theorem fC.built {ms:List aZ} {us:List bK} (a:fC ms us) (d:1<=us.length/\us.length<=4) (b:∀u ∈ us,(eb u).2=0):(hM (j0 us)).2=2\/((hM (j0 us)).2=0/\(hM (j0 us)).1.2=iP us):=by
 have e:=iW.2 (a.link d b);unfold hM;rw [if_neg (by rw [e]; simp)]
 split
 · exact .inl O
 · refine .inr ⟨O,?_⟩
   show e_ (j0 us) (j0 us).length=iP us
   unfold e_ qn iP;rw [List.take_length];unfold j0;rw [List.map_map]
   congr 1
   refine List.map_congr_left λu c=>?_
   show (eb u).1.to.data=u.data
   rw [(yu (a.alone c) (b u c)).1]; rfl
end
end Go.Bw
end
section
namespace Go.Proofs.YtccenighnmfhgaaGreatDoor.Mch
open Go.Bw
structure r' where
 op:Int
 a:Int
 b:Int
deriving DecidableEq
def r'.cells (x:r'):List Value:=[.int .i64 x.op,.int .i64 x.a,.int .i64 x.b]
def J6 (a:View) (b o:Nat) (x:r'):Prop:=bI a b o x.cells
def vJ (i:r'):Bool:=decide (i.op<1)||decide (22<i.op)
def pV (code:List r') (data:Int):Int:=
 if (decide ((code.length:Int)<1)||decide (2048<(code.length:Int)))=true then 2
 else if code.any vJ=true then 4
 else if (decide (data<0)||decide (512<data))=true then 3 else 0
theorem any_false {α:Type} {p:α->Bool} {l:List α} (h:∀(j:Nat) (x:α),l[j]? = some x->p x=false):l.any p=false:=by
 rw [List.any_eq_false];intro x a;obtain ⟨j,b⟩:=List.getElem?_of_mem a;simp [h j x b]
theorem any_true {α:Type} {p:α->Bool} {l:List α} {j:Nat} {x:α} (a:l[j]? = some x) (h:p x=true):l.any p=true:=List.any_eq_true.2 ⟨x,List.mem_of_getElem? a,h⟩
theorem nP:an Tryz.prog 33 0=some 0:=by kernel_rfl
theorem h_:eG Tryz.prog 31=true:=by kernel_rfl
theorem iN:eO Tryz.prog 31=some 3:=by kernel_rfl
theorem vq:f' Tryz.prog 108=some 3:=by kernel_rfl
theorem fY:zeroOf Tryz.prog 108=some (.agg #[.int .i64 0,.int .i64 0,.int .i64 0]):=by kernel_rfl
theorem x6:dk Tryz.prog 108=some 3:=by kernel_rfl
theorem tu:an Tryz.prog 108 0=some 0:=by kernel_rfl
theorem aT:eG Tryz.prog 3=true:=by kernel_rfl
theorem vG:an Tryz.prog 33 1=some 1:=by kernel_rfl
theorem Vk (g:View) (a:Option Addr) (c:Nat) (code:List r') (data:Int) (w:World) (t:Le g w) (l:Sl J6 3 g a c code) :
   Calls Tryz.prog 22 #[.agg #[.slice a code.length c,.int .i64 data]] w λe w'=>e = .returned (.int .i64 (pV code data))/\Ext w w':=by
 have y:=l.cap;have z:=l.max;refine enter Tryz.func22 O 39 O O ?_;refine CE (Vs:=[g]) (Ws.init (by simp [t])) (aa ?_);refine WL.box Y O O λA=>?_;refine ai O (ae (Cs (aa (I (Yf nP O) (I (Yd 0 O O O h_) (I (Yn iN O) (I (b0 O O) (ad O ?_))))))));apply Lo 4 O O O O Y O O O O O
 ·intro B;refine Vg (Yf nP O) (Vg (Yd 0 O O O h_) (Vg (Yn iN O) (Vg (dc O O) ?_)));exact Gt 4 O O O
 refine ae ?_;refine Cc O (λd=>?_) (λd=>?_)
 ·refine aa (ai O (ae (aX (Er ?_))));refine R1 O O λw' b=>?_;exact ⟨by rw [pV,if_pos d],b.fr⟩
 refine bf (Cs (aa (I (Yf nP O) (I (Yd 0 O O O h_) (I (Yn iN O) (ad O (ae (Cb ?_))))))));refine CW (ι:=Nat) (λi=>[(18,.int .i64 (i:Int))]) [(1,_),(16,_),(17,_)] (λi=>i<=code.length/\∀j x,j<i->code[j]? = some x->vJ x=false) (λi=>code.length-i) 0 ⟨Nat.zero_le _,by simp⟩ (sc O (sc O (sc O (sc O sn)))) ?_;intro i ⟨hi,r⟩;refine aa (I (b0 O O) (ae (Cs ?_)));refine Cc O (λm=>?_) (λm=>?_)
 ·have u:i<code.length:=by simpa using m
  obtain ⟨x,n⟩:∃x,code[i]? = some x:=⟨_,List.getElem?_eq_getElem u⟩;obtain ⟨pb,v,C,o⟩:=l.bJ i x n;have o:bI g pb (v+i*3) x.cells:=o;refine bf (Cs (Cb (aa (I (Yo iN O O (by assumption) (by omega)) (I (dj 0 vq O O O (o)) ?_)))));refine Al Y O fY λD=>?_;refine aO 0 Y O O O x6 O O O (ae (aa (I (Yf tu O) (I (Yd 0 O O O aT) (I (b0 O O) (ad O ?_))))));apply Lo 3 O O O O Y O O O O O
  ·intro E;refine Vg (Yf tu O) (Vg (Yd 0 O O O aT) (Vg (dc O O) ?_));exact Gt 3 O O O
  refine ae ?_;refine Cc O (λp=>?_) (λp=>?_)
  ·refine aa (ai O (ae (aX (cj (Er (Er (cj (Er ?_))))))));refine R1 O O λw' b=>?_;exact ⟨by rw [pV,if_neg (by simp [d]),if_pos (any_true n p)],b.fr⟩
  refine Ck (Eb (Et (Cr (I (Yi O O O (by omega)) (ad O (Ln ?_))))));exact Ea (i+1) (by omega) ⟨by omega,λj x k f=>by rcases Nat.lt_succ_iff_lt_or_eq.1 k with h | rfl; exact r j x h f; rw [n] at f; injection f with f; subst f; exact p⟩ (sc rfl (sc rfl (sc rfl (sc rfl sn)))) (λ_ h=>Wd 1 h)
 have F:¬i<code.length:=by simpa using m
 have s:code.any vJ=false:=any_false λj x k=>r j x (by have:=(List.getElem?_eq_some_iff.1 k).1; omega) k;refine Ce (Ex (Ex (cp (Et (Cs (aa (I (Yf vG O) (I (Yd 0 O O O aT) (I (b0 O O) (ad O ?_))))))))));apply Lo 3 O O O O Y O O O O O
 ·intro G;refine Vg (Yf vG O) (Vg (Yd 0 O O O aT) (Vg (dc O O) ?_));exact Gt 3 O O O
 refine ae ?_;refine Cc O (λq=>?_) (λq=>?_)
 ·refine aa (ai O (ae (aX (Er ?_))));refine R1 O O λw' b=>?_;exact ⟨by rw [pV,if_neg (by simp [d]),if_neg (by simp [s]),if_pos q],b.fr⟩
 refine bf (aa (ai O (ae (aX ?_))));refine R1 O O λw' b=>?_;exact ⟨by rw [pV,if_neg (by simp [d]),if_neg (by simp [s]),if_neg (by simp [q])],b.fr⟩
end Go.Proofs.YtccenighnmfhgaaGreatDoor.Mch
end
section
namespace Go.Proofs.YtccenighnmfhgaaGreatDoor
open Go.Bw
def toI (x:bG):Mch.r':=⟨x.op,x.a,x.b⟩
theorem Vl {b:View} {a:Option Addr} {c:Nat} {l:List bG} (h:Sl gv 3 b a c l):Sl Mch.J6 3 b a c (l.map toI):=by
 refine ⟨by rw [List.length_map]; exact h.cap,h.max,h.spot,λi x d=>?_⟩;rw [List.getElem?_map] at d;obtain ⟨y,e,rfl⟩:=Option.map_eq_some_iff.1 d;exact h.bJ i y e
theorem Vm {l:List bA} (h:(hM l).2=0):gX l=0/\¬(2048<aw l l.length\/512<e_ l l.length):=by
 by_cases a:gX l=0
 · refine ⟨a,λb=>?_⟩
   rw [I_ a b] at h;cases h
 · rw [I' a] at h
   exact absurd h a
theorem Vn {l:List bA} (h:(hM l).2=0):Mch.pV ((hM l).1.1.map toI) (hM l).1.2=0:=by
 obtain ⟨b,c⟩:=Vm h;have a:=iW.1 b;rw [Ja b c];have k:=uz a.d' a.lC (Nat.le_refl _);have m:=uy a.d' a.lC (Nat.le_refl _);have d:=NP l
 have n:1<=aw l l.length:=by unfold aw; omega
 have e:(decide ((((po l).map toI).length:Int)<1)||decide (2048<(((po l).map toI).length:Int)))=false:=by
   rw [List.length_map,d];simp only [Bool.or_eq_false_iff,decide_eq_false_iff_not];omega
 have f:((po l).map toI).any Mch.vJ=false:=by
   rw [List.any_eq_false];intro x g;obtain ⟨y,i,rfl⟩:=List.mem_map.1 g;have:=NO a.lC y i;unfold Mch.vJ toI;simp only [Bool.or_eq_true,decide_eq_true_eq];unfold ja at this;omega
 have j:(decide (e_ l l.length<0)||decide (512<e_ l l.length))=false:=by
   simp only [Bool.or_eq_false_iff,decide_eq_false_iff_not];omega
 show Mch.pV ((po l).map toI) (e_ l l.length)=0
 unfold Mch.pV;rw [e,f,j]
 rfl
theorem J7 {l:List aZ}:∀{d:List Nat},(∀i ∈ d,i<l.length)->(jy l d).length=d.length
 | [],_=>rfl
 | i::d,h=>by
   have a:=J7 (l:=l) (d:=d) λj b=>h j (by simp [b]);have hi:=List.getElem?_eq_getElem (h i (by simp));unfold jy at a ⊢;rw [List.filterMap_cons,hi];simp [a]
theorem J8 {l:List aZ} (f:(fL l).Nodup):∀{d:List Nat},d.Nodup->(∀i ∈ d,i<l.length)->((jy l d).map (·.nm)).Nodup
 | [],_,_=>by simp [jy]
 | i::d,b,h=>by
   rw [List.nodup_cons] at b;have n:=J8 f b.2 λj c=>h j (by simp [c]);have g:=h i (by simp);have hi:=List.getElem?_eq_getElem g
   have e:jy l (i::d)=l[i]::jy l d:=by unfold jy; rw [List.filterMap_cons,hi]
   rw [e,List.map_cons,List.nodup_cons];refine ⟨λa=>?_,n⟩;obtain ⟨m,a,o⟩:=List.mem_map.1 a;unfold jy at a;obtain ⟨j,c,k⟩:=List.mem_filterMap.1 a;have p:=(List.getElem?_eq_some_iff.1 k).1;have:i=j:=ia f g p (by rw [n6 hi,n6 k]; exact o.symm);subst this;exact b.1 c
theorem J9 {l:List Tx} {us:List bK} (h:kL l (us,0)):(1<=us.length/\us.length<=4)/\∃ms,fC ms us:=by
 obtain ⟨c,d,_,e,f,g,i⟩:=MU h rfl;have a:=n7 f;have b:=Vd i.symm (J8 e.nd a.2 a.1);have j:=b.len;rw [J7 a.1,g] at j;have k:=(AY c).1
 have m:(fW l).length=l.length:=by simp [fW]
 exact ⟨by omega,_,b⟩
theorem Vo {l:List Tx} {us:List bK} (h:kL l (us,0)):(gy (us,0)).2=2\/((gy (us,0)).2=0/\(gy (us,0)).1.2=iP us/\Mch.pV ((gy (us,0)).1.1.map toI) (gy (us,0)).1.2=0):=by
 obtain ⟨j,ms,d⟩:=J9 h
 by_cases b:oA us=0
 · have f:=l1.1 b
   rw [Jz f];have a:=d.built j f
   rcases a with a | a
   · exact .inl a
   · exact .inr ⟨a.1,a.2,Vn a.1⟩
 · have e:gy (us,0)=(([],0),oA us):=by rw [gy,if_neg (by simp),if_pos b]
   rw [e]
   left
   show oA us=2
   have key:∀{l:List bK},(∀u ∈ l,(eb u).2=0\/(eb u).2=2)->oA l=0\/oA l=2:=fun {l}=>by
     induction l with
     | nil=>intro _; exact .inl rfl
     | cons x r g=>
       intro i;unfold oA at g ⊢;rw [aD]
       rcases i x (by simp) with e | e
       · rw [e,jK]; exact g λu c=>i u (by simp [c])
       · rw [e]; exact .inr rfl
   exact (key λu c=>N_ (d.alone c)).resolve_left b
theorem J' {us:List bK} {i:Nat} {u:bK} (h:us[i]? = some u):iP (us.take (i+1))=iP (us.take i)+u.data:=by
 unfold iP;rw [a' h]; simp
theorem J_ {us:List bK} (h:∀u ∈ us,0<=u.data/\u.data<=320):∀i,i<=us.length->0<=iP (us.take i)/\iP (us.take i)<=320*i
 | 0,_=>by simp [iP]
 | i+1,hi=>by
   obtain ⟨u,a⟩:∃u,us[i]? = some u:=⟨_,List.getElem?_eq_getElem (by omega)⟩;have b:=J_ h i (by omega);have c:=h u (List.mem_of_getElem? a);rw [J' a];omega
theorem Vp:Enters Tryz.prog 21:=enters_of Tryz.func21 (by kernel_rfl) rfl
theorem Vq:Enters Tryz.prog 22:=enters_of Tryz.func22 (by kernel_rfl) rfl
theorem Vr (d j:View) (a:Option Addr) (c:Nat) (l:List Tx) (w:World) (G:Le d w) (n:Laid d) (H:Le j w) (o:Sl rdStr 1 j a c l) :
   Calls Tryz.prog 7 #[.slice a l.length c] w λe w'=>e = .returned (.bool true)/\Ext w w':=by
 have aq:=o.cap;have ar:=o.max;refine enter Tryz.func7 O 67 O O ?_;refine CE (Vs:=[d,j]) (Ws.init (by simp [G,H])) (aa (ai O (ae (aa (ad O ?_)))));refine Ld Y O yo O (λr:SP×List bK×Int=>.tuple #[.slice r.1.1 r.2.1.length r.1.2,.int .i64 r.2.2]) (λp r=>Sl (qL 8 7) 5 p r.1.1 r.1.2 r.2.1/\kL l r.2) (λw b=>yn j d a c l w (b.vs _ (by simp)) (b.vs _ (by simp)) n o) ?_;intro J K au L;obtain ⟨v,us,y⟩:=K;obtain ⟨k,f⟩:=L;dsimp only at k f;have av:=k.cap;have aw:=k.max;have ax:us.length<=4:=Jw f;refine ad O (I (Yx O O) (I (Yx O O) (ai O (ai O (ae (aa (ad O ?_)))))));refine Ld Y O JL O (λr:SP×List bK×Int=>.tuple #[.agg #[.slice r.1.1 (gy r.2).1.1.length r.1.2,.int .i64 (gy r.2).1.2],.int .i64 (gy r.2).2]) (λp r=>Sl gv 3 p r.1.1 r.1.2 (gy r.2).1.1/\kL l r.2) (λw b=>JD j d a c l w (b.vs _ (by simp)) (b.vs _ (by simp)) n o) ?_;intro M N ay P;obtain ⟨z,az⟩:=N;obtain ⟨A,B⟩:=P;dsimp only at A B;have Q:=Ud f B;subst Q;refine ad O (I (Yx O O) (I (Yx O O) ?_));refine Al Y O oW λaA=>?_;refine aO 0 Y O O O pS O O O (ai O (ae (Cs (aa (ad O (I (e8 O O) (ae ?_)))))));refine Cc O (λq=>?_) (λq=>?_)
 ·have R:¬y=0:=by simpa using q
  have S:=JA (us:=us) R;refine aa (Lp Y O JM O (λw b=>JN d w (b.vs _ (by simp)) n) (ad O ?_));apply La 3 (x:=true) O O O O Y O O O O O
  ·intro aB;refine Vg (Ym O) (Vg (Ym O) (Vg (mw O O (by rw [S])) ?_));exact Gt 3 O O O
  refine ai O (ae (aX (Er ?_)));refine R1 O O λw' b=>?_;exact ⟨O,b.fr⟩
 have T:y=0:=by simpa using q
 subst T;obtain ⟨U,ms,C⟩:=J9 f;have V:=Vo f;have D:=C.data
 have W:∀u ∈ us,u.ak.length<=1048576:=λu X=>by
   have Z:=Jv f u X
   have ab:∀l:List Tx,l.length<=wN l:=λl=>by
     induction l with
     | nil=>exact Nat.le_refl _
     | cons x r aC=>unfold wN; simp; omega
   have aD:=ab u.ak;unfold n8 at Z;omega
 refine bf (aa (ai O (ae (Cs (aa (ai O (ae (Cb ?_))))))));refine CW (ι:=Nat) (λi=>[(8,.int .i64 (i:Int)),(7,.int .i64 (iP (us.take i)))]) [(2,_),(3,_),(5,_),(6,_)] (λi=>i<=us.length) (λi=>us.length-i) 0 (Nat.zero_le _) (sc O (sc O (sc O (sc O (sc O (sc O sn)))))) ?_;intro i hi;refine Cs (aa (ad O (ad O (I (Yn jZ O) (I (b0 O O) (ae ?_))))));refine Cc O (λs=>?_) (λs=>?_)
 ·have ac:i<us.length:=by simpa using s
  obtain ⟨u,t⟩:∃u,us[i]? = some u:=⟨_,List.getElem?_eq_getElem ac⟩;obtain ⟨aE,aF,af,aG,ag,aH⟩:=k.bJ i u t;have aI:=J_ D i (by omega);have aJ:=D u (List.mem_of_getElem? t);refine bf (Cs (Cb (Cr (ad O (ad O (ad O (I (Yo jZ O O af (by omega)) (I (Yf oP O) (I (b9 1 aT O O (ag 2 _ O)) (I (bd O O (by omega)) ?_))))))))));rw [<-J' t];refine ai O (Ln (Eb (Et (Cr (ad O (I (Yi O O O (by omega)) (ai O (Ln ?_))))))));exact Ea (i+1) (by omega) (by omega) (sc O (sc O (sc O (sc O (sc O (sc O sn)))))) (λ_ h=>h)
 have ah:i=us.length:=by simp at s; omega
 rw [ah,List.take_length];refine Ce (Ex (Ex (cp (Et (Cs (aa (ad O (I (hg O O) (ad O ?_)))))))));apply La 3 (x:=false) O O O O Y O O O O O
 ·intro aj
  have al:iP us<=512:=by simpa using aj
  have am:=C.right U al;refine Vg (Ym O) ?_
  refine Lp (.g O O O) O Vp O (λw b=>by
      have m:=Sv J 8 7 v.1 v.2 us w (b.vs _ (by simp)) (k.imp λ_ _ _ h=>h) W;rw [am] at m
      exact m) ?_
  refine Vg (kl O O O) ?_;exact Gt 3 O O O
 refine ae ?_;refine Cc O (λE=>?_) (λE=>?_)
 ·exfalso
  simp at E
 refine bf (aa (Lp Y O JM O (λw b=>JN d w (b.vs _ (by simp)) n) (ad O ?_)));apply La 17 (x:=((gy (us,0)).2==2||true)) O O O O Y O O O O O
 ·intro aK;refine Vg (Ym O) (Vg (bP O O) (Vg (Ym O) ?_));apply Lo 13 (x:=true) O O O O (.g O O O) O O O O O
  ·intro an
   have ao:¬(gy (us,0)).2=2:=by simpa using an
   obtain ⟨ap,F⟩:=V.resolve_left ao;refine Vg (Ym O) (Vg (mw O O ap) (Vg (Ym O) ?_));apply La 3 (x:=true) O O O O (.g O O O) O O O O O
   ·intro aL;refine Vg (b8 0 O O qQ O) ?_
    refine Lp (.g O O O) O Vq O (λw b=>by
        have m:=Mch.Vk M z.1 z.2 ((gy (us,0)).1.1.map toI) (gy (us,0)).1.2 w (b.vs _ (by simp)) (Vl A);rw [F.2,List.length_map] at m
        exact m) ?_
    refine Vg (mw O O O) ?_;exact Gt 3 O O O
   refine Vg (Ym O) ?_;apply La 4 (x:=true) O O O O (.g O O O) O O O O O
   ·intro aM;refine Vg (Yf vG O) (Vg (Yd 0 O O O aT) (Vg (Ym O) (Vg (mw O O F.1) ?_)));exact Gt 4 O O O
   exact Gt 6 O O O
  exact Gt 4 O O O
 refine ai O (ae (aX ?_));refine R1 O O λw' b=>?_;exact ⟨by simp,b.fr⟩
end Go.Proofs.YtccenighnmfhgaaGreatDoor
end
