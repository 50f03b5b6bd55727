/- Walks of the functions of this claim, and plain laws on what they compute; each theorem tells its own conditions. -/
import Derived.Test.YtagoencpeflmlaaRows
import Derived.Test.YtagoencpeflmlaaBwF18
import Derived.Test.YtagoencpeflmlaaBw20
namespace Go.Proofs.Ytagoencpeflmlaa
open Go.Bw
set_option linter.unusedVariables false
set_option linter.unusedSimpArgs false
open Go.ChangeShapes Go.WideShapes Go.ChangeAt Go.RowKit Go.Joins Go.Deep
theorem conv_Item (cs : List Value) (hl : cs.length = 4) (hf : ∀ (j : Nat) (s : Sh) (v : Value), ([.int, .int, .int, .str] : List Sh)[j]? = some s → cs[j]? = some v → s.fit v) : ∃ y : Item, cs = Item.cells y := by
  match cs, hl with
  | [c0, c1, c2, c3], _ =>
    obtain ⟨x0, rfl, _⟩ := hf 0 _ _ rfl rfl
    obtain ⟨x1, rfl, _⟩ := hf 1 _ _ rfl rfl
    obtain ⟨x2, rfl, _⟩ := hf 2 _ _ rfl rfl
    obtain ⟨x3, rfl, _⟩ := hf 3 _ _ rfl rfl
    exact ⟨⟨x0, x1, x2, x3⟩, rfl⟩
theorem open_face {P : Program} {H : Type} {enc : TypeId × Value → H} {w : World} {base b0 : Nat} {spare : Nat → Bool} {held : Bool} {r : Reach} {v : Value} {d : DataW H} {p : List MemPlace} {t e1 : TypeId} {f0 f1 : Field} (hu : P.underlying t = some (.struct #[f0, f1])) (hr : (inRow P 0 (#[f0, f1] : Array Field).toList && Nat.beq (P.cellsOf t) (#[f0, f1] : Array Field).size) = true) (hct : P.cellTypes P.depth t = some ((#[f0, f1] : Array Field).toList.map (·.type)))
    (u0 : P.underlying f0.type = some .string) (u1 : P.underlying f1.type = some (.slice e1)) (E1 : flatE P e1 = some [.int, .int, .int, .str]) (c1 : P.cellsOf e1 = 4)
    (hval : Value.okWide P w r b0 t v) (h : DataW.Trod enc P w base spare held t v d p) :
    ∃ (name : List UInt8) (a1 : Option Addr) (k1 : Nat) (items : List Item), v = .agg #[st name, .slice a1 items.length k1] ∧ name.length ≤ 9223372036854775807 ∧ Sl rdItem 4 (hv w) a1 k1 items := by
  obtain ⟨cs, rfl, hl, n, hf⟩ := open_stv hu hr hct hval h
  match cs, hl with
  | [c_0, c_1], _ =>
    obtain ⟨_, y0, q0, t0, s0⟩ := hf 0 f0 rfl
    injection q0 with q0
    subst q0
    obtain ⟨name, g0, b_0⟩ := sh_trod (s := .str) (by simp [shP, u0]) t0
    subst g0
    obtain ⟨_, y1, q1, t1, s1⟩ := hf 1 f1 rfl
    injection q1 with q1
    subst q1
    obtain ⟨a1, k1, items, g1, h1⟩ := open_sl u1 E1 rfl c1 conv_Item (fun _ _ _ _ h => h) t1 (fun a m c e => s1 _ a m c u1 e)
    injection g1 with g1 _
    subst g1
    exact ⟨name, a1, k1, items, rfl, b_0, h1⟩
set_option maxRecDepth 100000 in
theorem openS_face {H : Type} {enc : TypeId × Value → H} {w : World} {base b0 : Nat} {spare : Nat → Bool} {held : Bool} {r : Reach} {v : Value} {d : DataW H} {p : List MemPlace} (hval : Value.okWide Try.prog w r b0 39 v) (h : DataW.Trod enc Try.prog w base spare held 39 v d p) :
    ∃ (name : List UInt8) (a1 : Option Addr) (k1 : Nat) (items : List Item), v = .agg #[st name, .slice a1 items.length k1] ∧ name.length ≤ 9223372036854775807 ∧ Sl rdItem 4 (hv w) a1 k1 items :=
  open_face Try.underlying39 (by kernel_rfl) (by kernel_rfl) Try.underlying9 Try.underlying37 (by kernel_rfl) (by kernel_rfl) hval h

theorem own : ownKnob Try.prog.godebug = none := by kernel_rfl
theorem laidOut : laidOutB Try.prog = true := by kernel_rfl




end Go.Proofs.Ytagoencpeflmlaa
