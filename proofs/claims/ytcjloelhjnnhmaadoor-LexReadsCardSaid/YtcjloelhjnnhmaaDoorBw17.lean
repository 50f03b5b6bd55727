/- Own base: rules that step through the code of a function, with what is known of its slots and of the memory kept as a list; no condition. -/
import Derived.Test.YtcjloelhjnnhmaaDoorBw16
import Derived.Lib.ConvBytes
import Derived.Laws.Slices
namespace Go.Bw
open Go Go.RowKit

/-! ### Parts of texts; bits -/
section
variable {P : Program} {l : List (Nat × Value)} {W : World → Prop} {d : Option Tmp} {ty : TypeId} {pos : String} {af : Array Edge} {g : Option (Nat × Bool)}
theorem st_extract (s : List UInt8) (i j : Nat) : Value.string ((ByteArray.mk s.toArray).extract i j) = st ((s.take j).drop i) := by
  have e : ((ByteArray.mk s.toArray).extract i j) = ⟨((s.take j).drop i).toArray⟩ := by
    apply ByteArray.ext
    simp [List.drop_take]
  rw [e]; rfl
theorem yl_ssh {t : TypeId} {x y : Operand} {s : List UInt8} {k : IntKind} {h : Int} (ht : P.underlying t = some .string) (hx : opv l x = some (st s)) (hy : opv l y = some (.int k h)) (h0 : 0 ≤ h) (h1 : h ≤ s.length) : Yl P l W ⟨d, .slice t x none (some y) none, ty, pos, af, g⟩ (st (s.take h.toNat)) := by
  intro ρ w hρ _
  have e := run_slice_string_h (P := P) w t ⟨s.toArray⟩ ht k h h0 (by rw [size_st]; exact h1)
  have e2 : (Instr.sliceAt t (.string ⟨s.toArray⟩) none (some (.int k h)) none).run P w = .ok (st (s.take h.toNat)) w := by
    rw [run_sliceAt_string (h := ht), e, st_extract]; simp
  simp [execOp, hρ x _ hx, hρ y _ hy, st, e2]
theorem yl_sst {t : TypeId} {x y : Operand} {s : List UInt8} {k : IntKind} {h : Int} (ht : P.underlying t = some .string) (hx : opv l x = some (st s)) (hy : opv l y = some (.int k h)) (h0 : 0 ≤ h) (h1 : h ≤ s.length) : Yl P l W ⟨d, .slice t x (some y) none none, ty, pos, af, g⟩ (st (s.drop h.toNat)) := by
  intro ρ w hρ _
  have e := run_slice_string_l (P := P) w t ⟨s.toArray⟩ ht k h h0 (by rw [size_st]; exact h1)
  have e2 : (Instr.sliceAt t (.string ⟨s.toArray⟩) (some (.int k h)) none none).run P w = .ok (st (s.drop h.toNat)) w := by
    rw [run_sliceAt_string (h := ht), e, st_extract, size_st, List.take_length]
  simp [execOp, hρ x _ hx, hρ y _ hy, st, e2]
theorem yl_shlk {t u : TypeId} {x y : Operand} {k2 : IntKind} {n : Int} (m : Nat) (hx : opv l x = some (.int .i64 n)) (hy : opv l y = some (.int k2 (m : Int))) (hm : m ≤ 64) : Yl P l W ⟨d, .binOp .shl t x y u, ty, pos, af, g⟩ (.int .i64 (IntKind.i64.wrap (n * 2 ^ m))) := by
  intro ρ w hρ _
  have e : min m IntKind.i64.bits = m := by simp [IntKind.bits]; omega
  have : ¬ (m : Int) < 0 := by omega
  have e1 : (binOp .shl t (.int .i64 n) (.int k2 (m : Int))).run P w = .ok (.int .i64 (IntKind.i64.wrap (n * 2 ^ (min (m : Int).toNat IntKind.i64.bits)))) w := by
    simp only [binOp, Op.shift, if_neg this, Sem.run_pure]
  rw [Int.toNat_natCast, e] at e1
  simp only [execOp, hρ x _ hx, hρ y _ hy, Sem.run_bind, show eqGuard .shl t x y (.int .i64 n) (.int k2 (m : Int)) = pure () from rfl, Sem.run_pure, Result.andThen_ok, e1]
theorem wrap_mod (a b : Int) (h : a % 18446744073709551616 = b % 18446744073709551616) : IntKind.i64.wrap a = IntKind.i64.wrap b := by
  rw [IntKind.wrap_i64, IntKind.wrap_i64]; omega
theorem or_low (n : Int) (b : Nat) (hb : b < 256) : IntKind.i64.wrap ((BitVec.ofInt 64 (IntKind.i64.wrap (n * 2 ^ 8)) ||| BitVec.ofInt 64 (b : Int)).toNat : Int) = IntKind.i64.wrap (n * 256 + b) := by
  have h1 : (BitVec.ofInt 64 (IntKind.i64.wrap (n * 2 ^ 8))).toNat = ((n % 72057594037927936).toNat) <<< 8 := by
    rw [BitVec.toNat_ofInt, Nat.shiftLeft_eq]
    have e : IntKind.i64.wrap (n * 2 ^ 8) % ((2 ^ 64 : Nat) : Int) = (n % 72057594037927936) * 256 := by
      rw [IntKind.wrap_i64]; omega
    rw [e]; omega
  have h2 : (BitVec.ofInt 64 (b : Int)).toNat = b := by
    rw [BitVec.toNat_ofInt]
    omega
  rw [BitVec.toNat_or, h1, h2, ← Nat.shiftLeft_add_eq_or_of_lt (by omega), Nat.shiftLeft_eq]
  apply wrap_mod
  omega
theorem yl_or8 {t u : TypeId} {x y : Operand} {n : Int} {b : Nat} (hx : opv l x = some (.int .i64 (IntKind.i64.wrap (n * 2 ^ 8)))) (hy : opv l y = some (.int .i64 (b : Int))) (hb : b < 256) : Yl P l W ⟨d, .binOp .or t x y u, ty, pos, af, g⟩ (.int .i64 (IntKind.i64.wrap (n * 256 + b))) := by
  intro ρ w hρ _
  have e : (binOp .or t (.int .i64 (IntKind.i64.wrap (n * 2 ^ 8))) (.int .i64 (b : Int))).run P w = .ok (.int .i64 (IntKind.i64.wrap ((BitVec.ofInt 64 (IntKind.i64.wrap (n * 2 ^ 8)) ||| BitVec.ofInt 64 (b : Int)).toNat : Int))) w := rfl
  rw [or_low n b hb] at e
  simp only [execOp, hρ x _ hx, hρ y _ hy, Sem.run_bind, show eqGuard .or t x y (.int .i64 (IntKind.i64.wrap (n * 2 ^ 8))) (.int .i64 (b : Int)) = pure () from rfl, Sem.run_pure, Result.andThen_ok, e]
end
section
variable {P : Program} {ops : Array Oper} {Q : Exit → Act → World → Prop} {n : Nat} {ds : List Deferred} {l : List (Nat × Value)} {w0 : World} {F : List Nat} {L : List Asr} {Vs : List View}
  {rest : List Oper} {d : Nat} {ty : TypeId} {pos : String} {af : Array Edge} {g : Option (Nat × Bool)}
/-- The bytes of a text, laid anew. -/
theorem WL.s2b {s t e : TypeId} {x : Operand} {bs : List UInt8} (hg : GOk ops l g) (hn : Nat.blt d n = true) (hs : P.underlying s = some .string) (ht : P.underlying t = some (.slice e)) (he : P.underlying e = some (.int .u8)) (hx : opv l x = some (st bs))
    (h : ∀ b c k, WL P ops Q n ds ((d, .slice (some ⟨b, 0, none⟩) bs.length c) :: l) (Ws w0 F (blk b (.cells (bs.map byv ++ List.replicate k (Value.int .u8 0)).toArray e (bs.length + k, bs.length + k + 1)) :: L) Vs) rest) :
    WL P ops Q n ds l (Ws w0 F L Vs) (⟨some d, .convert s t x, ty, pos, af, g⟩ :: rest) := by
  refine WL.step hg fun a w ha hw K hK => ?_
  have hrun := Lib.run_convert_string_bytes (P := P) w s t e ⟨bs.toArray⟩ hs ht he
  have hrun' : (execOp a.eval ⟨some d, .convert s t x, ty, pos, af, g⟩).run P w = .ok (.value (.slice (some ⟨w.heap.size, 0, none⟩) bs.length (grownCap w bs.length 0 e))) (Lib.bytesWorld w e ⟨bs.toArray⟩) := by
    rw [size_st] at hrun
    simp only [execOp, ha.eval hx, st, Sem.run_bind, hrun, Result.andThen_ok, Sem.run_pure]
  simp only [Oper.wp, hrun', Oper.upon_value]
  refine hK _ _ (h w.heap.size _ (grownCap w bs.length 0 e - bs.length) _ _ (ha.put hn _) ?_)
  have hc : Lib.bytesCells w e ⟨bs.toArray⟩ = (bs.map byv ++ List.replicate (grownCap w bs.length 0 e - bs.length) (Value.int .u8 0)).toArray := by
    unfold Lib.bytesCells
    rw [size_st]
    apply Array.ext'
    simp [byv]
  have hsz : (Lib.bytesCells w e ⟨bs.toArray⟩).size = bs.length + (grownCap w bs.length 0 e - bs.length) := by rw [hc]; simp
  have hnew := Lib.bytesWorld_at_new w e ⟨bs.toArray⟩
  rw [hsz, hc] at hnew
  have := Ws.turn (L := []) (L' := [blk w.heap.size (.cells (bs.map byv ++ List.replicate (grownCap w bs.length 0 e - bs.length) (Value.int .u8 0)).toArray e (bs.length + (grownCap w bs.length 0 e - bs.length), bs.length + (grownCap w bs.length 0 e - bs.length) + 1))]) (L2 := L) (w' := Lib.bytesWorld w e ⟨bs.toArray⟩) (by simpa using hw)
    ⟨by unfold Lib.bytesWorld World.freeze; split <;> rfl, by unfold Lib.bytesWorld World.freeze; split <;> rfl, by unfold Lib.bytesWorld World.freeze; split <;> rfl, by rw [Lib.bytesWorld_size]; omega, fun j hj _ => Lib.bytesWorld_at_old w e _ j hj⟩
    (by intro A hA; simp at hA; subst hA; exact hnew) (by simp [blk]) (by simp [blk])
  simpa using this
end
end Go.Bw
