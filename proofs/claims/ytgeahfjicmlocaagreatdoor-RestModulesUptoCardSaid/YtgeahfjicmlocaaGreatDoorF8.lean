/- RestModules: what came, and was changed, changes nothing that was handed in, nor what comes next (proved in the second form, bulk at most 1048576). -/
import Derived.Deep.DeepHandedRow
import Derived.Deep.DeepWitnessRowRef
import Derived.LaidMore
import Derived.Lib.LaidTab
import Derived.OpenShut
import Derived.ProofKit
import Derived.SevenTiedAt
import Derived.Stop.Joined
import Derived.Stop.LaidErr
import Derived.Test.YtgeahfjicmlocaaGreatDoorCards
import Derived.Test.YtgeahfjicmlocaaGreatDoorTie
import Derived.Test.YtgeahfjicmlocaaGreatDoorF7
set_option linter.unusedVariables false
set_option linter.unusedSimpArgs false
set_option linter.defProp false
section
namespace Go.Proofs.YtgeahfjicmlocaaGreatDoor
open Go.Bw Go.Proofs.Tryz
open Go.ChangeShapes Go.WideShapes Go.ChangeAt Go.RowKit Go.Joins Go.Deep
def XY:∃e s d p m,r2 prog 239 241 109 113 27 237 25 23 24 22 e s d p m 3 4 9:=⟨_,_,_,_,_,⟨underlying3,underlying4,underlying9,aa,underlying239,aa,au,underlying237,underlying241,aa,au,underlying25,underlying109,aa,au,underlying23,underlying113,aa,au,underlying24,underlying22,underlying27,aa,au⟩⟩
def GK (H:Type):qV H:=⟨Rows.uptoBulk,Rows.uptoBulkAll,λl=>by simp [Rows.uptoBulk],λl=>by simp [Rows.uptoBulk],λl r=>by simp only [Rows.uptoBulk]; omega,by simp [Rows.uptoBulkAll],λd r=>by simp [Rows.uptoBulkAll]⟩
def XZ:∃x f,wz prog 3 9 48 40 42 28 x f:=⟨_,_,⟨underlying3,underlying9,underlying48,aa,au,underlying40,underlying42,aa,au,underlying28⟩⟩
variable {a9:Type}
def X0 (x:DataW a9):1<=Rows.uptoBulk x:=by
 cases x<;>(unfold Rows.uptoBulk; first | omega | (split<;>omega))
variable {bF:World}
def X1 {P:Program}  {enc:TypeId×Value->a9}  {base:Nat} {i:Nat->Bool} {m:Bool} (e:qV a9) (n:∀x,1<=e.B x) {f g:TypeId} (uI:P.underlying f=some (.int .i64)) (p:P.cellsOf f=1) (s:∀b,i b=true) (uS:P.underlying g=some (.slice f))
   {r:_root_.Go.Reach} {t:Nat} {v:Value} {x:DataW a9} {pl:List MemPlace} (u:Value.okWide P bF r t g v) (h:DataW.Trod enc P bF base i m g v x pl):∃(a:Option Addr) (c:Nat) (l:List Int),v = .slice a l.length c/\Sl mw 1 (hv bF) a c l/\l.length<=e.B x:=by
 obtain ⟨a,k,c,rfl⟩:=okWide_slice uS u;obtain ⟨fuel,h⟩:=h
 obtain ⟨a,c,l,w,z,A⟩:=p5 (rd:=mw) e (λ_=>1) List.length rfl (λ_ _=>by simp; omega) uS p Z s (λF j y G C D=>by
   obtain ⟨d,rfl⟩:∃d,j=[d]:=by
     match j,D with
     | [d],_=>exact ⟨d,rfl⟩
   obtain ⟨q,rfl⟩:=r1 uI C
   exact ⟨q,λb o E=>E,n _⟩) h
 exact ⟨a,c,l,w,z,A⟩
def X2 {a b:Bool} (c:a=true) (d:b=true):(a&&b)=true:=by rw [c,d]; rfl
def own:ownKnob prog.godebug=none:=aa
def laidOut:laidOutB prog=true:=aa
def X3:(prog.globals[0]?).map (·.type)=some 439:=aa
def X4:(prog.globals[2]?).map (·.type)=some 258:=aa
def X5:(prog.globals[1]?).map (·.type)=some 258:=aa
def NW : prog.globalNamed "strconv.ErrRange" = some 2 := by kernel_rfl
def NX : prog.globalNamed "strconv.ErrSyntax" = some 1 := by kernel_rfl
def X6:prog.cellsOf 439=20:=aa
def X7:prog.cellsOf 406=1:=aa
def NY:prog.cellsOf 452=1:=aa
def NZ:prog.cellsOf 9=1:=aa
def N0 (u:TypeId) (h:prog.typeName? 3 u=prog.typeName? 3 450):u=450:=
 typeName_ptr_named (P := prog) (nm := "errors.errorString") aa aa bf u (h.trans aa)
def X8 (h:laidMetH prog Rows.restModulesRow.laid bF):Laid (hv bF):=by
 rw [MakeChecks.laidMetH_plain _ _ _ aa] at h;have a:=h.tail.tail;have c:Lib.TabIs prog bF AO .u64 Lib.pow10Tab:=Lib.tabIs_of_head (k:=.u64) (zs:=Lib.pow10Tab) Fv X3 underlying439 underlying406 X7 X6 a;obtain ⟨a1,s1,d,_⟩:=laid_sentinel a.tail NW X4 underlying258 (λu b=>N0 u (b.trans aa)) underlying450 underlying452 rfl rfl underlying9 NY NZ;obtain ⟨a2,s2,e,_⟩:=laid_sentinel a.tail.tail NX X5 underlying258 (λu b=>N0 u (b.trans aa)) underlying450 underlying452 rfl rfl underlying9 NY NZ;exact ⟨O8 c Fv,⟨_,Dp (by simpa using World.var?_cell NX e 0),.inr ⟨_,_,O⟩⟩,⟨_,Dp (by simpa using World.var?_cell NW d 0),.inr ⟨_,_,O⟩⟩⟩
def X9 (os:Os) (args:Array Value):laidMetH prog Rows.restModulesRow.laid ((World.doorLaid prog 62 os).forCall (λ_ _=>0) ⟨#[],args,[]⟩).memory:=
 laidMetH_of_parts3 (fuel:=8) (laidMet_of_run' 8 aa aa) aa aa
end Go.Proofs.YtgeahfjicmlocaaGreatDoor
end
