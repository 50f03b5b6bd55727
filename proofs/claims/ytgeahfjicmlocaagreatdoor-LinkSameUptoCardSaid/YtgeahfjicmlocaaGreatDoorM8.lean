/- LinkSame: the code of a program does what the program means (proved in the second form, bulk at most 1048576). -/
import Derived.Deep.DeepHandedRow
import Derived.Deep.DeepWitnessRowRef
import Derived.LaidMore
import Derived.SevenTiedAt
import Derived.Stop.Joined
import Derived.Stop.LaidErr
import Derived.Test.YtgeahfjicmlocaaGreatDoorCards
import Derived.Test.YtgeahfjicmlocaaGreatDoorTie
import Derived.Test.YtgeahfjicmlocaaGreatDoorM7
set_option linter.unusedVariables false
set_option linter.unusedSimpArgs false
set_option linter.defProp false
section
namespace Go.Proofs.YtgeahfjicmlocaaGreatDoor
open Go.Bw Go.Proofs.Tryz
open Go.ChangeShapes Go.WideShapes Go.ChangeAt Go.RowKit Go.Joins Go.Deep
def YZ:∃e s p m,gB prog 53 51 107 37 49 35 34 22 e s p m 3 9:=⟨_,_,_,_,⟨underlying3,underlying9,ab,underlying53,ab,ai,underlying49,underlying51,ab,ai,underlying35,underlying107,ab,ai,underlying34,underlying22,underlying37,ab,ai⟩⟩
def Pd (a:Type):wW a:=⟨Rows.uptoBulk,Rows.uptoBulkAll,λl=>by simp [Rows.uptoBulk],λl=>by simp [Rows.uptoBulk],λl r=>by simp only [Rows.uptoBulk]; omega,by simp [Rows.uptoBulkAll],λd r=>by simp [Rows.uptoBulkAll]⟩
def Y0 {a b:Bool} (c:a=true) (d:b=true):(a&&b)=true:=by rw [c,d]; rfl
def own:ownKnob prog.godebug=none:=ab
def laidOut:laidOutB prog=true:=ab
def Y1:(prog.globals[0]?).map (·.type)=some 439:=ab
def Y2:(prog.globals[2]?).map (·.type)=some 258:=ab
def Y3:(prog.globals[1]?).map (·.type)=some 258:=ab
def Pe : prog.globalNamed "strconv.ErrRange" = some 2 := by kernel_rfl
def Pf : prog.globalNamed "strconv.ErrSyntax" = some 1 := by kernel_rfl
def Y4:prog.cellsOf 439=20:=ab
def Y5:prog.cellsOf 406=1:=ab
def Pg:prog.cellsOf 452=1:=ab
def Ph:prog.cellsOf 9=1:=ab
def Pj (u:TypeId) (h:prog.typeName? 3 u=prog.typeName? 3 450):u=450:=
 typeName_ptr_named (P := prog) (nm := "errors.errorString") ab ab a8 u<|h.trans ab
def Y6 {W:World} (h:laidMetH prog Rows.linkSameRow.laid W):Laid (hv W):=by
 rw [MakeChecks.laidMetH_plain _ _ _ ab] at h;have a:=h.tail.tail;have c:Lib.TabIs prog W MB .u64 Lib.pow10Tab:=Lib.tabIs_of_head (k:=.u64) (zs:=Lib.pow10Tab) GC Y1 underlying439 underlying406 Y5 Y4 a;obtain ⟨a1,s1,d,_⟩:=laid_sentinel a.tail Pe Y2 underlying258 (λu b=>Pj u<|b.trans ab) underlying450 underlying452 rfl rfl underlying9 Pg Ph;obtain ⟨a2,s2,e,_⟩:=laid_sentinel a.tail.tail Pf Y3 underlying258 (λu b=>Pj u<|b.trans ab) underlying450 underlying452 rfl rfl underlying9 Pg Ph;exact ⟨Qd c GC,⟨_,ED (by simpa using World.var?_cell Pf e 0),.inr ⟨_,_,O⟩⟩,⟨_,ED (by simpa using World.var?_cell Pe d 0),.inr ⟨_,_,O⟩⟩⟩
def Y7 (os:Os) (args:Array Value):laidMetH prog Rows.linkSameRow.laid ((World.doorLaid prog 62 os).forCall (λ_ _=>0) ⟨#[],args,[]⟩).memory:=
 laidMetH_of_parts3 (fuel:=8) (laidMet_of_run' 8 ab ab) ab ab
end Go.Proofs.YtgeahfjicmlocaaGreatDoor
end
