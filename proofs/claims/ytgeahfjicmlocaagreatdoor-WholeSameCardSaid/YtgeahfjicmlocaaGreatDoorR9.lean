/- WholeSame: Exec tells what Mean tells: the same numbers, the same end, the same data, as many ticks; and what is executed is never Broken, nor out of steps. -/
import Derived.Deep.DeepHandedRow
import Derived.Deep.DeepWitnessRowRef
import Derived.LaidMore
import Derived.Lib.LaidTab
import Derived.OpenShut
import Derived.ProofKit
import Derived.SevenTiedAt
import Derived.Stop.Joined
import Derived.Stop.LaidErr
import Derived.Test.YtgeahfjicmlocaaGreatDoorCards
import Derived.Test.YtgeahfjicmlocaaGreatDoorTie
import Derived.Test.YtgeahfjicmlocaaGreatDoorR8
set_option linter.unusedVariables false
set_option linter.unusedSimpArgs false
set_option linter.defProp false
open Option renaming some->aa,none->ao
open Bool renaming true->ad
open Go.Proofs.Tryz renaming prog->aC
open Go renaming World->aP,Value->aR,TypeId->cn
open _root_ renaming Bool->aS,Array->bH
open Or renaming inr->be
section
namespace Go.Proofs.YtgeahfjicmlocaaGreatDoor
open Go.Bw Go.Proofs.Tryz
open Go.ChangeShapes Go.WideShapes Go.ChangeAt Go.RowKit Go.Joins Go.Deep
def V7 (a:Type):Ar a:=⟨Rows.uptoBulk,Rows.uptoBulkAll,λl=>by simp [Rows.uptoBulk],λl=>by simp [Rows.uptoBulk],λl r=>by simp only [Rows.uptoBulk];omega,by simp [Rows.uptoBulkAll],λd r=>by simp [Rows.uptoBulkAll]⟩
def ahi {a b:aS} (c:a=ad) (d:b=ad):(a&&b)=ad:=by rw [c,d];rfl
def own:ownKnob aC.godebug=ao:=ah
def laidOut:laidOutB aC=ad:=ah
def ahj:(aC.globals[0]?).map (·.type)=aa 439:=ah
def ahk:(aC.globals[2]?).map (·.type)=aa 258:=ah
def ahl:(aC.globals[1]?).map (·.type)=aa 258:=ah
def Vh : aC.globalNamed "strconv.ErrRange" = aa 2 := by kernel_rfl
def Vi : aC.globalNamed "strconv.ErrSyntax" = aa 1 := by kernel_rfl
def ahm:aC.cellsOf 439=20:=ah
def ahn:aC.cellsOf 406=1:=ah
def Vj:aC.cellsOf 452=1:=ah
def Vk:aC.cellsOf 9=1:=ah
def V8 (u:cn) (h:aC.typeName? 3 u=aC.typeName? 3 450):u=450:= typeName_ptr_named (P := aC) (nm := "errors.errorString") ah ah a8 u<|h.trans ah
def aho {W:aP} (h:laidMetH aC Rows.wholeSameRow.laid W):Laid<|hv W:=by rw [MakeChecks.laidMetH_plain _ _ _ ah] at h;have a:=h.tail.tail;have c:Lib.TabIs aC W R6 .u64 Lib.pow10Tab:=Lib.tabIs_of_head (k:=.u64) (zs:=Lib.pow10Tab) K2 ahj underlying439 underlying406 ahn ahm a;obtain ⟨a1,s1,d,_⟩:=laid_sentinel a.tail Vh ahk underlying258 (λu b=>V8 u<|b.trans ah) underlying450 underlying452 rfl rfl underlying9 Vj Vk;obtain ⟨a2,s2,e,_⟩:=laid_sentinel a.tail.tail Vi ahl underlying258 (λu b=>V8 u<|b.trans ah) underlying450 underlying452 rfl rfl underlying9 Vj Vk;exact ⟨V_ c K2,⟨_,IF (by simpa using aP.var?_cell Vi e 0),be ⟨_,_,O⟩⟩,⟨_,IF (by simpa using aP.var?_cell Vh d 0),be ⟨_,_,O⟩⟩⟩
def ahp (os:Os) (args:bH aR):laidMetH aC Rows.wholeSameRow.laid ((aP.doorLaid aC 62 os).forCall (λ_ _=>0) ⟨#[],args,[]⟩).memory:= laidMetH_of_parts3 (fuel:=8) (laidMet_of_run' 8 ah ah) ah ah
end Go.Proofs.YtgeahfjicmlocaaGreatDoor
end
