/- WholeShown: how a module is written changes nothing: shown anew, in another order, a program means the same. -/
import Derived.Deep.DeepHandedRow
import Derived.Deep.DeepWitnessRowRef
import Derived.LaidMore
import Derived.Lib.LaidTab
import Derived.OpenShut
import Derived.ProofKit
import Derived.SevenTiedAt
import Derived.Stop.Joined
import Derived.Stop.LaidErr
import Derived.Test.YtgeahfjicmlocaaGreatDoorCards
import Derived.Test.YtgeahfjicmlocaaGreatDoorTie
import Derived.Test.YtgeahfjicmlocaaGreatDoorH7
set_option linter.unusedVariables false
set_option linter.unusedSimpArgs false
set_option linter.defProp false
open Option renaming some->aa,none->ak
open Bool renaming true->ac
open Go.Proofs.Tryz renaming prog->aB
open Go renaming World->aL,Value->aT,TypeId->b_
open _root_ renaming Bool->aQ,Array->bE
open Or renaming inr->bl
section
namespace Go.Proofs.YtgeahfjicmlocaaGreatDoor
open Go.Bw Go.Proofs.Tryz
open Go.ChangeShapes Go.WideShapes Go.ChangeAt Go.RowKit Go.Joins Go.Deep
def Te (H:Type):y4 H:=⟨Rows.uptoBulk,Rows.uptoBulkAll,λl=>by simp [Rows.uptoBulk],λl=>by simp [Rows.uptoBulk],λl r=>by simp only [Rows.uptoBulk];omega,by simp [Rows.uptoBulkAll],λd r=>by simp [Rows.uptoBulkAll]⟩
def ae4 {a b:aQ} (c:a=ac) (d:b=ac):(a&&b)=ac:=by rw [c,d];rfl
def own:ownKnob aB.godebug=ak:=ah
def laidOut:laidOutB aB=ac:=ah
def ae5:(aB.globals[0]?).map (·.type)=aa 439:=ah
def ae6:(aB.globals[2]?).map (·.type)=aa 258:=ah
def ae7:(aB.globals[1]?).map (·.type)=aa 258:=ah
def Tf : aB.globalNamed "strconv.ErrRange" = aa 2 := by kernel_rfl
def Tg : aB.globalNamed "strconv.ErrSyntax" = aa 1 := by kernel_rfl
def ae8:aB.cellsOf 439=20:=ah
def ae9:aB.cellsOf 406=1:=ah
def Th:aB.cellsOf 452=1:=ah
def Ti:aB.cellsOf 9=1:=ah
def Tj (u:b_) (h:aB.typeName? 3 u=aB.typeName? 3 450):u=450:= typeName_ptr_named (P := aB) (nm := "errors.errorString") ah ah a' u<|h.trans ah
def ae' {W:aL} (h:laidMetH aB Rows.wholeShownRow.laid W):Laid<|hv W:=by rw [MakeChecks.laidMetH_plain _ _ _ ah] at h;have a:=h.tail.tail;have c:Lib.TabIs aB W Qh .u64 Lib.pow10Tab:=Lib.tabIs_of_head (k:=.u64) (zs:=Lib.pow10Tab) Jq ae5 underlying439 underlying406 ae9 ae8 a;obtain ⟨a1,s1,d,_⟩:=laid_sentinel a.tail Tf ae6 underlying258 (λu b=>Tj u<|b.trans ah) underlying450 underlying452 rfl rfl underlying9 Th Ti;obtain ⟨a2,s2,e,_⟩:=laid_sentinel a.tail.tail Tg ae7 underlying258 (λu b=>Tj u<|b.trans ah) underlying450 underlying452 rfl rfl underlying9 Th Ti;exact ⟨T8 c Jq,⟨_,GY (by simpa using aL.var?_cell Tg e 0),bl ⟨_,_,O⟩⟩,⟨_,GY (by simpa using aL.var?_cell Tf d 0),bl ⟨_,_,O⟩⟩⟩
def ae_ (os:Os) (args:bE aT):laidMetH aB Rows.wholeShownRow.laid ((aL.doorLaid aB 62 os).forCall (λ_ _=>0) ⟨#[],args,[]⟩).memory:= laidMetH_of_parts3 (fuel:=8) (laidMet_of_run' 8 ah ah) ah ah
end Go.Proofs.YtgeahfjicmlocaaGreatDoor
end
