/- Walks of the machine of the document and of the law, and plain laws on what they compute; each theorem tells its own conditions. -/
import Derived.Test.YtagoencpeflmlaaRows
import Derived.Test.YtagoencpeflmlaaBwN7
import Derived.Test.YtagoencpeflmlaaBw20
namespace Go.Proofs.Ytagoencpeflmlaa
open Go.Bw
set_option linter.unusedVariables false
set_option linter.unusedSimpArgs false
open Go.ChangeShapes Go.WideShapes Go.ChangeAt Go.RowKit Go.Joins Go.Deep

theorem own : ownKnob Try.prog.godebug = none := by kernel_rfl
theorem laidOut : laidOutB Try.prog = true := by kernel_rfl
theorem rdIns_of (H : View) (b o : Nat) (x : Ins) (h : RdC H b o x.cells) : rdIns H b o x := h
theorem conv_Ins (cs : List Value) (hl : cs.length = 3) (hf : ∀ (j : Nat) (s : Sh) (v : Value), ([.int, .int, .int] : List Sh)[j]? = some s → cs[j]? = some v → s.fit v) : ∃ y : Ins, cs = Ins.cells y := by
  match cs, hl with
  | [c0, c1, c2], _ =>
    obtain ⟨x0, rfl, _⟩ := hf 0 _ _ rfl rfl
    obtain ⟨x1, rfl, _⟩ := hf 1 _ _ rfl rfl
    obtain ⟨x2, rfl, _⟩ := hf 2 _ _ rfl rfl
    exact ⟨⟨x0, x1, x2⟩, rfl⟩
theorem conv_Int (cs : List Value) (hl : cs.length = 1) (hf : ∀ (j : Nat) (s : Sh) (v : Value), ([.int] : List Sh)[j]? = some s → cs[j]? = some v → s.fit v) : ∃ y : Int, cs = iv y := by
  match cs, hl with
  | [c0], _ =>
    obtain ⟨x0, rfl, _⟩ := hf 0 _ _ rfl rfl
    exact ⟨x0, rfl⟩
theorem open_image {P : Program} {H : Type} {enc : TypeId × Value → H} {w : World} {base b0 : Nat} {spare : Nat → Bool} {held : Bool} {r : Reach} {v : Value} {d : DataW H} {p : List MemPlace} {t e0 : TypeId} {f0 f1 : Field} (hu : P.underlying t = some (.struct #[f0, f1])) (hr : (inRow P 0 (#[f0, f1] : Array Field).toList && Nat.beq (P.cellsOf t) (#[f0, f1] : Array Field).size) = true) (hct : P.cellTypes P.depth t = some ((#[f0, f1] : Array Field).toList.map (·.type)))
    (u0 : P.underlying f0.type = some (.slice e0)) (E0 : flatE P e0 = some [.int, .int, .int]) (c0 : P.cellsOf e0 = 3) (u1 : P.underlying f1.type = some (.int .i64))
    (hval : Value.okWide P w r b0 t v) (h : DataW.Trod enc P w base spare held t v d p) :
    ∃ (a0 : Option Addr) (k0 : Nat) (code : List Ins) (data : Int), v = .agg #[.slice a0 code.length k0, .int .i64 data] ∧ Sl rdIns 3 (hv w) a0 k0 code ∧ (-9223372036854775808 ≤ data ∧ data ≤ 9223372036854775807) := by
  obtain ⟨cs, rfl, hl, n, hf⟩ := open_stv hu hr hct hval h
  match cs, hl with
  | [c_0, c_1], _ =>
    obtain ⟨_, y0, q0, t0, s0⟩ := hf 0 f0 rfl
    injection q0 with q0
    subst q0
    obtain ⟨a0, k0, code, g0, h0⟩ := open_sl u0 E0 rfl c0 conv_Ins (fun _ _ _ _ h => h) t0 (fun a m c e => s0 _ a m c u0 e)
    injection g0 with g0 _
    subst g0
    obtain ⟨_, y1, q1, t1, s1⟩ := hf 1 f1 rfl
    injection q1 with q1
    subst q1
    obtain ⟨data, g1, b_1⟩ := sh_trod (s := .int) (by simp [shP, u1]) t1
    subst g1
    exact ⟨a0, k0, code, data, rfl, h0, b_1⟩
set_option maxRecDepth 100000 in
theorem openS_image {H : Type} {enc : TypeId × Value → H} {w : World} {base b0 : Nat} {spare : Nat → Bool} {held : Bool} {r : Reach} {v : Value} {d : DataW H} {p : List MemPlace} (hval : Value.okWide Try.prog w r b0 24 v) (h : DataW.Trod enc Try.prog w base spare held 24 v d p) :
    ∃ (a0 : Option Addr) (k0 : Nat) (code : List Ins) (data : Int), v = .agg #[.slice a0 code.length k0, .int .i64 data] ∧ Sl rdIns 3 (hv w) a0 k0 code ∧ (-9223372036854775808 ≤ data ∧ data ≤ 9223372036854775807) :=
  open_image Try.underlying24 (by kernel_rfl) (by kernel_rfl) Try.underlying22 (by kernel_rfl) (by kernel_rfl) Try.underlying3 hval h




end Go.Proofs.Ytagoencpeflmlaa
