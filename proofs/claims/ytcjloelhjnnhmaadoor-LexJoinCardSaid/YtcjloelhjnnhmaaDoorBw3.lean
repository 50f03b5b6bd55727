/- Own base: rules that step through the code of a function, with what is known of its slots and of the memory kept as a list; no condition. -/
import Derived.Test.YtcjloelhjnnhmaaDoorBw2
namespace Go.Bw
open Go Go.RowKit

/-! ### Facts of the type table -/
def nonAgg (P : Program) (t : TypeId) : Bool := match P.underlying t with | some (.struct _) | some (.array _ _) | none => false | _ => true
def aggOf (P : Program) (t : TypeId) : Option Nat := match P.underlying t with | some (.struct _) | some (.array _ _) => (P.info? t).map (·.size) | _ => none
def fieldOff (P : Program) (t : TypeId) (f : Nat) : Option Nat := match P.underlying t with
  | some (.struct fs) => match fs[f]? with
    | some x => match P.info? x.type with
      | some i => if i.size = 0 then none else some x.offset
      | none => none
    | none => none
  | _ => none
def elemSz (P : Program) (t : TypeId) : Option Nat := match P.underlying t with | some (.slice e) => (P.info? e).map (·.size) | _ => none

section
variable {P : Program} {w : World}
theorem run_isAgg_non {t : TypeId} (h : nonAgg P t = true) (w : World) : (isAgg t).run P w = .ok false w := by
  unfold nonAgg at h
  cases hu : P.underlying t with
  | none => simp [hu] at h
  | some d => cases d <;> simp_all [isAgg, run_underlying hu]
theorem run_isAgg_agg {t : TypeId} {k : Nat} (h : aggOf P t = some k) (w : World) : (isAgg t).run P w = .ok true w ∧ (sizeOf t).run P w = .ok k w := by
  unfold aggOf at h
  cases hu : P.underlying t with
  | none => simp [hu] at h
  | some d =>
    cases hi : P.info? t with
    | none => cases d <;> simp_all
    | some i => cases d <;> simp_all [isAgg, run_underlying hu, sizeOf, typeInfo]
def cellIn (o : Obj) (k : Nat) : Option Value := match o with | .cells c _ _ => c.toList[k]? | _ => none
def vc (H : View) (b k : Nat) : Option Value := (H b).bind (cellIn · k)
theorem cell_of_heap {b k : Nat} {o : Obj} {v : Value} (h : w.heap[b]? = some o) (hc : cellIn o k = some v) : w.cell? ⟨b, k, none⟩ = some v := by
  cases o <;> simp_all [cellIn, World.cell?]
theorem Le.cell {H : View} (h : Le H w) {b k : Nat} {v : Value} (hc : vc H b k = some v) : w.cell? ⟨b, k, none⟩ = some v := by
  unfold vc at hc
  cases hb : H b with
  | none => simp [hb] at hc
  | some o => simp [hb] at hc; exact cell_of_heap (h b o hb) hc
theorem VLe.cell {H H' : View} (h : VLe H H') {b k : Nat} {v : Value} (hc : vc H b k = some v) : vc H' b k = some v := by
  unfold vc at *
  cases hb : H b with
  | none => simp [hb] at hc
  | some o => simp [hb] at hc; simp [h b o hb, hc]
theorem add_none (b o k : Nat) : (⟨b, o, none⟩ : Addr).add k = ⟨b, o + k, none⟩ := by unfold Addr.add; split <;> simp_all
theorem run_loadVar_one {t : TypeId} (ht : nonAgg P t = true) {b k : Nat} {v : Value} (hc : w.cell? ⟨b, k, none⟩ = some v) : (loadVar t ⟨b, k, none⟩).run P w = .ok v w := by
  simp [loadVar, run_isAgg_non ht, hc]
theorem run_loadVar_agg {t : TypeId} {n : Nat} (ht : aggOf P t = some n) {b k : Nat} {cs : List Value} (hl : cs.length = n) (hc : ∀ j v, cs[j]? = some v → w.cell? ⟨b, k + j, none⟩ = some v) :
    (loadVar t ⟨b, k, none⟩).run P w = .ok (.agg cs.toArray) w := by
  obtain ⟨h1, h2⟩ := run_isAgg_agg ht w
  have := run_loadCells_list (P := P) w ⟨b, k, none⟩ cs (fun j v h => by rw [add_none]; exact hc j v h)
  rw [hl] at this
  simp [loadVar, h1, h2, this]
end

/-- A text. -/
def st (l : List UInt8) : Value := .string ⟨l.toArray⟩

section
variable {P : Program} {l : List (Nat × Value)} {W : World → Prop} {w0 : World} {F : List Nat} {L : List Asr} {Vs : List View}
  {d : Option Tmp} {ty : TypeId} {pos : String} {af : Array Edge} {g : Option (Nat × Bool)}

/-! ### Operations that touch no memory -/
theorem yl_move {x : Operand} {v : Value} (hx : opv l x = some v) : Yl P l W ⟨d, .move x, ty, pos, af, g⟩ v := fun ρ w hρ _ => by simp [execOp, hρ x v hx]
theorem yl_assign {x : Operand} {v : Value} (hx : opv l x = some v) : Yl P l W ⟨d, .assign x, ty, pos, af, g⟩ v := fun ρ w hρ _ => by simp [execOp, hρ x v hx]
theorem yl_pick {c x y : Operand} {t : Bool} {u v : Value} (hc : opv l c = some (.bool t)) (hx : opv l x = some u) (hy : opv l y = some v) : Yl P l W ⟨d, .pick c x y, ty, pos, af, g⟩ (if t then u else v) :=
  fun ρ w hρ _ => by simp [execOp, hρ c _ hc, hρ x _ hx, hρ y _ hy, asBool]
theorem yl_pickt {c x y : Operand} {u : Value} (hc : opv l c = some (.bool true)) (hx : opv l x = some u) : Yl P l W ⟨d, .pick c x y, ty, pos, af, g⟩ u :=
  fun ρ w hρ _ => by simp [execOp, hρ c _ hc, hρ x _ hx, asBool]
theorem yl_pickf {c x y : Operand} {u : Value} (hc : opv l c = some (.bool false)) (hy : opv l y = some u) : Yl P l W ⟨d, .pick c x y, ty, pos, af, g⟩ u :=
  fun ρ w hρ _ => by simp [execOp, hρ c _ hc, hρ y _ hy, asBool]
theorem yl_eq {t u : TypeId} {x y : Operand} {k : IntKind} {a b : Int} (hx : opv l x = some (.int k a)) (hy : opv l y = some (.int k b)) : Yl P l W ⟨d, .binOp .eql t x y u, ty, pos, af, g⟩ (.bool (a == b)) :=
  fun ρ w hρ _ => by simp [execOp, hρ x _ hx, hρ y _ hy, eqGuard, binOp, Op.intCmp]
theorem yl_ne {t u : TypeId} {x y : Operand} {k : IntKind} {a b : Int} (hx : opv l x = some (.int k a)) (hy : opv l y = some (.int k b)) : Yl P l W ⟨d, .binOp .neq t x y u, ty, pos, af, g⟩ (.bool (a != b)) :=
  fun ρ w hρ _ => by simp [execOp, hρ x _ hx, hρ y _ hy, eqGuard, binOp, Op.intCmp]
theorem yl_lt {t u : TypeId} {x y : Operand} {k : IntKind} {a b : Int} (hx : opv l x = some (.int k a)) (hy : opv l y = some (.int k b)) : Yl P l W ⟨d, .binOp .lss t x y u, ty, pos, af, g⟩ (.bool (decide (a < b))) :=
  fun ρ w hρ _ => by simp [execOp, hρ x _ hx, hρ y _ hy, eqGuard, binOp, Op.intCmp]
theorem yl_le {t u : TypeId} {x y : Operand} {k : IntKind} {a b : Int} (hx : opv l x = some (.int k a)) (hy : opv l y = some (.int k b)) : Yl P l W ⟨d, .binOp .leq t x y u, ty, pos, af, g⟩ (.bool (decide (a ≤ b))) :=
  fun ρ w hρ _ => by simp [execOp, hρ x _ hx, hρ y _ hy, eqGuard, binOp, Op.intCmp]
theorem yl_gt {t u : TypeId} {x y : Operand} {k : IntKind} {a b : Int} (hx : opv l x = some (.int k a)) (hy : opv l y = some (.int k b)) : Yl P l W ⟨d, .binOp .gtr t x y u, ty, pos, af, g⟩ (.bool (decide (b < a))) :=
  fun ρ w hρ _ => by simp [execOp, hρ x _ hx, hρ y _ hy, eqGuard, binOp, Op.intCmp]
theorem yl_ge {t u : TypeId} {x y : Operand} {k : IntKind} {a b : Int} (hx : opv l x = some (.int k a)) (hy : opv l y = some (.int k b)) : Yl P l W ⟨d, .binOp .geq t x y u, ty, pos, af, g⟩ (.bool (decide (b ≤ a))) :=
  fun ρ w hρ _ => by simp [execOp, hρ x _ hx, hρ y _ hy, eqGuard, binOp, Op.intCmp]
theorem yl_addw {t u : TypeId} {x y : Operand} {k : IntKind} {a b : Int} (hx : opv l x = some (.int k a)) (hy : opv l y = some (.int k b)) : Yl P l W ⟨d, .binOp .add t x y u, ty, pos, af, g⟩ (.int k (k.wrap (a + b))) :=
  fun ρ w hρ _ => by simp [execOp, hρ x _ hx, hρ y _ hy, eqGuard, binOp, Op.intArith]
theorem yl_subw {t u : TypeId} {x y : Operand} {k : IntKind} {a b : Int} (hx : opv l x = some (.int k a)) (hy : opv l y = some (.int k b)) : Yl P l W ⟨d, .binOp .sub t x y u, ty, pos, af, g⟩ (.int k (k.wrap (a - b))) :=
  fun ρ w hρ _ => by simp [execOp, hρ x _ hx, hρ y _ hy, eqGuard, binOp, Op.intArith]
theorem yl_mulw {t u : TypeId} {x y : Operand} {k : IntKind} {a b : Int} (hx : opv l x = some (.int k a)) (hy : opv l y = some (.int k b)) : Yl P l W ⟨d, .binOp .mul t x y u, ty, pos, af, g⟩ (.int k (k.wrap (a * b))) :=
  fun ρ w hρ _ => by simp [execOp, hρ x _ hx, hρ y _ hy, eqGuard, binOp, Op.intArith]
theorem wrap_in {n : Int} (h : -9223372036854775808 ≤ n ∧ n ≤ 9223372036854775807) : IntKind.i64.wrap n = n := by rw [IntKind.wrap_i64]; omega
theorem yl_add {t u : TypeId} {x y : Operand} {a b : Int} (hx : opv l x = some (.int .i64 a)) (hy : opv l y = some (.int .i64 b)) (hb : -9223372036854775808 ≤ a + b ∧ a + b ≤ 9223372036854775807) : Yl P l W ⟨d, .binOp .add t x y u, ty, pos, af, g⟩ (.int .i64 (a + b)) := by
  have := yl_addw (P := P) (W := W) (d := d) (t := t) (u := u) (ty := ty) (pos := pos) (af := af) (g := g) hx hy
  rwa [wrap_in hb] at this
theorem yl_sub {t u : TypeId} {x y : Operand} {a b : Int} (hx : opv l x = some (.int .i64 a)) (hy : opv l y = some (.int .i64 b)) (hb : -9223372036854775808 ≤ a - b ∧ a - b ≤ 9223372036854775807) : Yl P l W ⟨d, .binOp .sub t x y u, ty, pos, af, g⟩ (.int .i64 (a - b)) := by
  have := yl_subw (P := P) (W := W) (d := d) (t := t) (u := u) (ty := ty) (pos := pos) (af := af) (g := g) hx hy
  rwa [wrap_in hb] at this
/-- i++ of a count. -/
theorem yl_inc {t u : TypeId} {x y : Operand} {a : Nat} {b : Int} (hx : opv l x = some (.int .i64 (a : Int))) (hy : opv l y = some (.int .i64 b)) (h1 : b = 1) (hb : (a : Int) < 9223372036854775807) : Yl P l W ⟨d, .binOp .add t x y u, ty, pos, af, g⟩ (.int .i64 ((a + 1 : Nat) : Int)) := by
  subst h1
  have := yl_add (P := P) (W := W) (d := d) (t := t) (u := u) (ty := ty) (pos := pos) (af := af) (g := g) hx hy (by omega)
  simpa using this
theorem yl_eqs {t u : TypeId} {x y : Operand} {a b : List UInt8} (hx : opv l x = some (st a)) (hy : opv l y = some (st b)) : Yl P l W ⟨d, .binOp .eql t x y u, ty, pos, af, g⟩ (.bool (a == b)) :=
  fun ρ w hρ _ => by simp [execOp, hρ x _ hx, hρ y _ hy, st, eqGuard, binOp, Op.stringOp]
theorem yl_nes {t u : TypeId} {x y : Operand} {a b : List UInt8} (hx : opv l x = some (st a)) (hy : opv l y = some (st b)) : Yl P l W ⟨d, .binOp .neq t x y u, ty, pos, af, g⟩ (.bool (!(a == b))) :=
  fun ρ w hρ _ => by simp [execOp, hρ x _ hx, hρ y _ hy, st, eqGuard, binOp, Op.stringOp]
theorem yl_cats {t u : TypeId} {x y : Operand} {a b : List UInt8} (hx : opv l x = some (st a)) (hy : opv l y = some (st b)) (h : a.length + b.length ≤ 9223372036854775807) : Yl P l W ⟨d, .binOp .add t x y u, ty, pos, af, g⟩ (st (a ++ b)) := by
  intro ρ w hρ _
  have e : (Op.stringOp .add ⟨a.toArray⟩ ⟨b.toArray⟩).run P w = .ok (st (a ++ b)) w := by
    rw [run_string_add_sum w _ _ (by show a.toArray.size + b.toArray.size ≤ _; simpa using h)]
    simp [st]
    rfl
  simp [execOp, hρ x _ hx, hρ y _ hy, st, eqGuard, binOp, e]
theorem yl_not {t : TypeId} {x : Operand} {b : Bool} (hx : opv l x = some (.bool b)) : Yl P l W ⟨d, .unOp .not t x, ty, pos, af, g⟩ (.bool (!b)) :=
  fun ρ w hρ _ => by simp [execOp, hρ x _ hx, Op.unary]
theorem yl_eqb {t u : TypeId} {x y : Operand} {a b : Bool} (hu : P.underlying t = some .bool) (hx : opv l x = some (.bool a)) (hy : opv l y = some (.bool b)) : Yl P l W ⟨d, .binOp .eql t x y u, ty, pos, af, g⟩ (.bool (a == b)) :=
  fun ρ w hρ _ => by simp [execOp, hρ x _ hx, hρ y _ hy, eqGuard, run_eql_bool w t a b hu]
theorem yl_neb {t u : TypeId} {x y : Operand} {a b : Bool} (hu : P.underlying t = some .bool) (hx : opv l x = some (.bool a)) (hy : opv l y = some (.bool b)) : Yl P l W ⟨d, .binOp .neq t x y u, ty, pos, af, g⟩ (.bool (!(a == b))) :=
  fun ρ w hρ _ => by simp [execOp, hρ x _ hx, hρ y _ hy, eqGuard, run_neq_bool w t a b hu]
theorem yl_nil {x : Operand} {p : Addr} (hx : opv l x = some (.pointer (some p))) : Yl P l W ⟨d, .nilCheck x, ty, pos, af, g⟩ (.pointer (some p)) :=
  fun ρ w hρ _ => by simp [execOp, hρ x _ hx]
theorem yl_extract {x : Operand} {vs : Array Value} {i : Nat} {v : Value} (hx : opv l x = some (.tuple vs)) (hi : vs[i]? = some v) : Yl P l W ⟨d, .extract x i, ty, pos, af, g⟩ v :=
  fun ρ w hρ _ => by simp [execOp, hρ x _ hx, Instr.extract, hi]
theorem yl_fa {t : TypeId} {x : Operand} {f o b k : Nat} (ho : fieldOff P t f = some k) (hx : opv l x = some (.pointer (some ⟨b, o, none⟩))) : Yl P l W ⟨d, .fieldAddr t x f, ty, pos, af, g⟩ (.pointer (some ⟨b, o + k, none⟩)) := by
  intro ρ w hρ _
  unfold fieldOff at ho
  cases hu : P.underlying t with
  | none => simp [hu] at ho
  | some dd =>
    cases dd <;> simp [hu] at ho
    rename_i fs
    cases hf : fs[f]? with
    | none => simp [hf] at ho
    | some fd =>
      simp [hf] at ho
      cases hi : P.info? fd.type with
      | none => simp [hi] at ho
      | some i =>
        simp [hi] at ho
        obtain ⟨h0, rfl⟩ := ho
        simp [execOp, hρ x _ hx, Instr.fieldAt, run_underlying hu, hf, Instr.sureAddr, fieldPlace, sizeOf, typeInfo, hi, h0, add_none]
theorem yl_ia {t : TypeId} {x y : Operand} {b o n c s : Nat} {k : IntKind} {i : Int} (hs : elemSz P t = some s) (hx : opv l x = some (.slice (some ⟨b, o, none⟩) n c)) (hy : opv l y = some (.int k i)) (h0 : 0 ≤ i) (h1 : i < n) :
    Yl P l W ⟨d, .indexAddr t x y, ty, pos, af, g⟩ (.pointer (some ⟨b, o + i.toNat * s, none⟩)) := by
  intro ρ w hρ _
  unfold elemSz at hs
  cases hu : P.underlying t with
  | none => simp [hu] at hs
  | some dd =>
    cases dd <;> simp [hu] at hs
    rename_i e
    obtain ⟨inf, hi, rfl⟩ := hs
    simp [execOp, hρ x _ hx, hρ y _ hy, Instr.indexAt, run_underlying hu, asIntOf, h0, h1, sizeOf, typeInfo, hi, add_none]
theorem yl_iak {t : TypeId} {x y : Operand} {b o n c s : Nat} {k : IntKind} {i : Nat} (hs : elemSz P t = some s) (hx : opv l x = some (.slice (some ⟨b, o, none⟩) n c)) (hy : opv l y = some (.int k (i : Int))) (h1 : i < n) :
    Yl P l W ⟨d, .indexAddr t x y, ty, pos, af, g⟩ (.pointer (some ⟨b, o + i * s, none⟩)) := by
  have := yl_ia (P := P) (W := W) (d := d) (ty := ty) (pos := pos) (af := af) (g := g) hs hx hy (by omega) (by omega)
  simpa using this
theorem yl_len {t : TypeId} {x : Operand} {a : Option Addr} {n c s : Nat} (hs : elemSz P t = some s) (hx : opv l x = some (.slice a n c)) : Yl P l W ⟨d, .call ⟨.builtin .len, #[x], #[t]⟩, ty, pos, af, g⟩ (.int .i64 (n : Int)) := by
  intro ρ w hρ _
  unfold elemSz at hs
  cases hu : P.underlying t with
  | none => simp [hu] at hs
  | some dd =>
    cases dd <;> simp [hu] at hs
    simp [execOp, resolve, invoke, builtin, hρ x _ hx, Builtin.len_, run_underlying hu, goInt]
theorem yl_lens {t : TypeId} {x : Operand} {s : List UInt8} (hs : P.underlying t = some .string) (hx : opv l x = some (st s)) : Yl P l W ⟨d, .call ⟨.builtin .len, #[x], #[t]⟩, ty, pos, af, g⟩ (.int .i64 (s.length : Int)) := by
  intro ρ w hρ _
  have e : (ByteArray.mk s.toArray).size = s.length := by show s.toArray.size = _; simp
  simp [execOp, resolve, invoke, builtin, hρ x _ hx, st, Builtin.len_, run_underlying hs, goInt, e]
theorem st_get (s : List UInt8) (i : Nat) : (ByteArray.mk s.toArray)[i]? = s[i]? := by
  rcases Nat.lt_or_ge i s.length with h | h
  · rw [List.getElem?_eq_getElem h, getElem?_pos (ByteArray.mk s.toArray) i (by show i < s.toArray.size; simpa using h)]
    rfl
  · rw [List.getElem?_eq_none h, getElem?_neg (ByteArray.mk s.toArray) i (by show ¬ i < s.toArray.size; simpa using h)]
theorem yl_idxs {t : TypeId} {x y : Operand} {s : List UInt8} {k : IntKind} {i : Int} {u : UInt8} (hs : P.underlying t = some .string) (hx : opv l x = some (st s)) (hy : opv l y = some (.int k i)) (h0 : 0 ≤ i) (hu : s[i.toNat]? = some u) :
    Yl P l W ⟨d, .index t x y, ty, pos, af, g⟩ (.int .u8 (u.toNat : Int)) := by
  intro ρ w hρ _
  simp [execOp, hρ x _ hx, hρ y _ hy, st, Instr.index, asIntOf, run_underlying hs, h0, st_get, hu]
theorem yl_idxk {t : TypeId} {x y : Operand} {s : List UInt8} {k : IntKind} {i : Nat} {u : UInt8} (hs : P.underlying t = some .string) (hx : opv l x = some (st s)) (hy : opv l y = some (.int k (i : Int))) (hu : s[i]? = some u) :
    Yl P l W ⟨d, .index t x y, ty, pos, af, g⟩ (.int .u8 (u.toNat : Int)) := yl_idxs hs hx hy (by omega) (by simpa using hu)
/-! ### Loads -/
theorem yl_ldc {t : TypeId} {x : Operand} {b o : Nat} {v : Value} (ht : nonAgg P t = true) (hx : opv l x = some (.pointer (some ⟨b, o, none⟩))) (hc : ∀ w, W w → w.cell? ⟨b, o, none⟩ = some v) : Yl P l W ⟨d, .load t x, ty, pos, af, g⟩ v :=
  fun ρ w hρ hw => by simp [execOp, hρ x _ hx, Instr.loadAt, Instr.sureAddr, run_loadVar_one ht (hc w hw)]
theorem yl_ldac {t : TypeId} {x : Operand} {b o n : Nat} {cs : List Value} (ht : aggOf P t = some n) (hx : opv l x = some (.pointer (some ⟨b, o, none⟩))) (hl : cs.length = n) (hc : ∀ w, W w → ∀ j v, cs[j]? = some v → w.cell? ⟨b, o + j, none⟩ = some v) :
    Yl P l W ⟨d, .load t x, ty, pos, af, g⟩ (.agg cs.toArray) :=
  fun ρ w hρ hw => by simp [execOp, hρ x _ hx, Instr.loadAt, Instr.sureAddr, run_loadVar_agg ht hl (hc w hw)]
/-- From what is only read. -/
theorem yl_ld {t : TypeId} {x : Operand} {b o : Nat} {v : Value} {H : View} (i : Nat) (ht : nonAgg P t = true) (hx : opv l x = some (.pointer (some ⟨b, o, none⟩))) (hV : Vs[i]? = some H) (hc : vc H b o = some v) :
    Yl P l (Ws w0 F L Vs) ⟨d, .load t x, ty, pos, af, g⟩ v := yl_ldc ht hx fun _ hw => (hw.vs H (mem_of_idx hV)).cell hc
theorem yl_lda {t : TypeId} {x : Operand} {b o n : Nat} {cs : List Value} {H : View} (i : Nat) (ht : aggOf P t = some n) (hx : opv l x = some (.pointer (some ⟨b, o, none⟩))) (hV : Vs[i]? = some H) (hl : cs.length = n) (hc : ∀ j v, cs[j]? = some v → vc H b (o + j) = some v) :
    Yl P l (Ws w0 F L Vs) ⟨d, .load t x, ty, pos, af, g⟩ (.agg cs.toArray) := yl_ldac ht hx hl fun _ hw j v h => (hw.vs H (mem_of_idx hV)).cell (hc j v h)
/-- From a block of our own that is known whole. -/
theorem yl_ldk {t : TypeId} {x : Operand} {b o : Nat} {v : Value} {ob : Obj} (i : Nat) (hx : opv l x = some (.pointer (some ⟨b, o, none⟩))) (hL : L[i]? = some (blk b ob)) (hc : cellIn ob o = some v) (ht : nonAgg P t = true) :
    Yl P l (Ws w0 F L Vs) ⟨d, .load t x, ty, pos, af, g⟩ v := yl_ldc ht hx fun _ hw => cell_of_heap (hw.kn _ (mem_of_idx hL)) hc
def cellsIn (o : Obj) (k n : Nat) : List Value := match o with | .cells c _ _ => (c.toList.drop k).take n | _ => []
theorem yl_ldka {t : TypeId} {x : Operand} {b o n : Nat} {ob : Obj} (i : Nat) (hx : opv l x = some (.pointer (some ⟨b, o, none⟩))) (hL : L[i]? = some (blk b ob)) (ht : aggOf P t = some n) (hl : (cellsIn ob o n).length = n) :
    Yl P l (Ws w0 F L Vs) ⟨d, .load t x, ty, pos, af, g⟩ (.agg (cellsIn ob o n).toArray) := yl_ldac ht hx hl fun w hw j v h => by
  have hk : w.heap[b]? = some ob := hw.kn _ (mem_of_idx hL)
  refine cell_of_heap hk ?_
  cases ob <;> simp [cellsIn, cellIn] at *
  rw [List.getElem?_take] at h
  split at h
  · simpa using h
  · cases h
end
end Go.Bw
