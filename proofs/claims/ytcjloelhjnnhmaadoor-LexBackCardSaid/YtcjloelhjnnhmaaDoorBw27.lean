/- Own base: rules that step through the code of a function, with what is known of its slots and of the memory kept as a list; no condition. -/
import Derived.Test.YtcjloelhjnnhmaaDoorBw26
import Derived.Lib.LaidTab
import Derived.Lib.ItoaNum
import Derived.Laws.DeepStrings4
import Derived.Sort.Grow
namespace Go.Bw
open Go Go.RowKit

/-! ### Parts of texts by both bounds; nil asked of an error; what package-level variables hold -/
section
variable {P : Program} {l : List (Nat × Value)} {W : World → Prop} {d : Option Tmp} {ty : TypeId} {pos : String} {af : Array Edge} {g : Option (Nat × Bool)}
theorem yl_ssb {t : TypeId} {x y z : Operand} {s : List UInt8} {k k' : IntKind} {lo hi : Int} (ht : P.underlying t = some .string) (hx : opv l x = some (st s)) (hy : opv l y = some (.int k lo)) (hz : opv l z = some (.int k' hi)) (h0 : 0 ≤ lo) (h1 : lo ≤ hi) (h2 : hi ≤ s.length) : Yl P l W ⟨d, .slice t x (some y) (some z) none, ty, pos, af, g⟩ (st ((s.take hi.toNat).drop lo.toNat)) := by
  intro ρ w hρ _
  have e := run_slice_string_if (P := P) (w := w) t ⟨s.toArray⟩ k k' lo hi ht
  rw [if_pos (by rw [size_st]; exact ⟨by omega, h2⟩), if_pos ⟨h0, h1⟩] at e
  have e2 : (Instr.sliceAt t (.string ⟨s.toArray⟩) (some (.int k lo)) (some (.int k' hi)) none).run P w = .ok (st ((s.take hi.toNat).drop lo.toNat)) w := by
    rw [run_sliceAt_string (h := ht), e, st_extract]
  simp [execOp, hρ x _ hx, hρ y _ hy, hρ z _ hz, st, e2]
/-- An error that is nil just where 'b' says so. -/
def ErrIs (v : Value) (b : Bool) : Prop := (b = true → v = .nilIface) ∧ (b = false → ∃ t x, v = .iface t x)
theorem yl_eqnr {t u : TypeId} {x : Operand} {v : Value} (b : Bool) (ht : P.underlying t = some (.interface (P.methodsAt t))) (hx : opv l x = some v) (hb : ErrIs v b) : Yl P l W ⟨d, .binOp .eql t x (.const .nilIface) u, ty, pos, af, g⟩ (.bool b) := by
  intro ρ w hρ _
  have hy : ρ (.const .nilIface) = .nilIface := hρ _ _ rfl
  cases b with
  | true =>
    obtain rfl := hb.1 rfl
    simp only [execOp, hρ x _ hx, hy, Sem.run_bind]
    simp [eqGuard_nil_constR, run_eql_nil_nil (h := ht)]
  | false =>
    obtain ⟨s, y, rfl⟩ := hb.2 rfl
    have hg : (eqGuard .eql t x (.const .nilIface) (.iface s y) .nilIface) = pure () := by cases x <;> rfl
    simp only [execOp, hρ x _ hx, hy, Sem.run_bind, hg]
    simp [run_eql_held_nil (h := ht)]
end
theorem WL.wk {P : Program} {ops : Array Oper} {Q : Exit → Act → World → Prop} {n : Nat} {ds : List Deferred} {l : List (Nat × Value)} {W W' : World → Prop} {rest : List Oper} (hW : ∀ w, W w → W' w) (h : WL P ops Q n ds l W' rest) : WL P ops Q n ds l W rest := fun a w ha hw => h a w ha (hW w hw)
theorem yl_neg {P : Program} {l : List (Nat × Value)} {W : World → Prop} {d : Option Tmp} {ty : TypeId} {pos : String} {af : Array Edge} {g : Option (Nat × Bool)} {t : TypeId} {x : Operand} {a : Int} (hx : opv l x = some (.int .i64 a)) : Yl P l W ⟨d, .unOp .neg t x, ty, pos, af, g⟩ (.int .i64 (IntKind.i64.wrap (-a))) :=
  fun ρ w hρ _ => by simp [execOp, hρ x _ hx, Op.unary, Op.intArith]
/-- What the three listed variables of the library hold, in a view. -/
structure LaidV (P : Program) (gp gs gr : Nat) (H : View) : Prop where
  pow : ∃ t f, H gp = some (.cells (Lib.pow10Tab.map fun z => Value.int .u64 z).toArray t f)
  syn : ∃ ev, vc H gs 0 = some ev ∧ (ev = .nilIface ∨ ∃ te pe, ev = .iface te pe)
  rng : ∃ ev, vc H gr 0 = some ev ∧ (ev = .nilIface ∨ ∃ te pe, ev = .iface te pe)
theorem LaidV.tab {P : Program} {gp gs gr : Nat} {H : View} (h : LaidV P gp gs gr H) {w : World} (hl : Le H w) {nm : String} (hg : P.globalNamed nm = some gp) : Lib.TabIs P w nm .u64 Lib.pow10Tab := by
  obtain ⟨t, f, hp⟩ := h.pow
  unfold Lib.TabIs World.var?
  rw [hg]
  simp [hl _ _ hp]
theorem pow_of {P : Program} {W : World} {nm : String} {g : Nat} (ht : Lib.TabIs P W nm .u64 Lib.pow10Tab) (hg : P.globalNamed nm = some g) : ∃ t f, hv W g = some (.cells (Lib.pow10Tab.map fun z => Value.int .u64 z).toArray t f) := by
  unfold Lib.TabIs World.var? at ht
  rw [hg] at ht
  simp only [Option.bind_some] at ht
  cases hb : W.heap[g]? with
  | none => simp [hb] at ht
  | some o =>
    cases o with
    | cells cs t f =>
      simp only [hb, Option.some.injEq] at ht
      subst ht
      exact ⟨t, f, hb⟩
    | _ => simp [hb] at ht
theorem ext_grow (w : World) (k : Nat) (os : Array Obj) : Ext w (Go.Sort.grow (w.drewN k) os) := by
  refine ⟨rfl, rfl, rfl, by simp [Go.Sort.grow, World.drewN], fun b hb _ => ?_⟩
  simp [Go.Sort.grow, World.drewN, Array.getElem?_append, hb]
end Go.Bw
