/- Walks of the functions of this claim, and plain laws on what they compute; each theorem tells its own conditions. -/
import Derived.Test.YtagoencpeflmlaaBwF2
namespace Go.Proofs.Ytagoencpeflmlaa
open Go.Bw
set_option linter.unusedVariables false
set_option linter.unusedSimpArgs false

def bitsB (n : Int) (k : Nat) : List UInt8 := (List.range k).map fun j => byteOf (n.fdiv (2 ^ (56 - 8 * j)))
theorem bits8 (n : Int) : bitsB n 8 = num8 n := by
  simp [bitsB, num8, List.range_succ, Int.fdiv_one]
theorem bits_succ (n : Int) (k : Nat) : bitsB n (k + 1) = bitsB n k ++ [byteOf (n.fdiv (2 ^ (56 - 8 * k)))] := by simp [bitsB, List.range_succ]
theorem bits_len (n : Int) (k : Nat) : (bitsB n k).length = k := by simp [bitsB]
theorem num8_len (n : Int) : (num8 n).length = 8 := rfl
theorem nums_len (l : List Int) : (l.flatMap num8).length = l.length * 8 := by
  induction l with
  | nil => rfl
  | cons x r ih => simp only [List.flatMap_cons, List.length_append, ih, num8_len, List.length_cons]; omega
def rdInt2 (H : View) (b o : Nat) (x : Int) : Prop := vc H b o = some (.int .i64 x)
theorem es50 : elemSz Try.prog 50 = some 1 := by kernel_rfl

theorem penNums_any (H : View) (a : Option Addr) (c : Nat) (l : List Int) (bp : Nat) (q : Option Addr) (v : Value) (bs : List UInt8) (w : World) (hm : Sl rdInt2 1 H a c l) (hq : q = none ∨ q = some ⟨bp, 0, none⟩) (hb : bs.length + l.length * 8 ≤ 1099511627776) (hw : Ws w ([blk bp (.cells #[.pointer (q), v] 85 (0, 0)), osl 5 1 v (bs).length ((bs).map byv)].flatMap Asr.ids) [blk bp (.cells #[.pointer (q), v] 85 (0, 0)), osl 5 1 v (bs).length ((bs).map byv)] [H] w) :
    Calls Try.prog 47 #[.pointer (some ⟨bp, 0, none⟩), .slice a l.length c] w fun e w' => ∃ r : Option Addr × Value, e = .returned (.tuple #[]) ∧ (r.1 = none ∨ r.1 = some ⟨bp, 0, none⟩) ∧ Ws w ([blk bp (.cells #[.pointer (q), v] 85 (0, 0)), osl 5 1 v (bs).length ((bs).map byv)].flatMap Asr.ids) [blk bp (.cells #[.pointer (r.1), r.2] 85 (0, 0)), osl 5 1 r.2 (bs ++ l.flatMap num8).length ((bs ++ l.flatMap num8).map byv)] [H] w' := by
  have hcap := hm.cap
  have hmax := hm.max
  refine enter Try.func47 rfl 23 rfl rfl ?_
  refine WC.world (W' := Ws w ([blk bp (.cells #[.pointer (q), v] 85 (0, 0)), osl 5 1 v (bs).length ((bs).map byv)].flatMap Asr.ids) [blk bp (.cells #[.pointer (q), v] 85 (0, 0)), osl 5 1 v (bs).length ((bs).map byv)] [H]) (fun _ e => by subst e; exact hw) ?_
  refine WC.seq ?_
  refine WC.region ?_
  refine WL.val (.inl rfl) rfl (yl_move rfl) ?_
  refine WL.val (.inl rfl) rfl (yl_len es50 rfl) ?_
  refine WL.val (.inl rfl) rfl (yl_move rfl) ?_
  refine WL.nil ?_
  refine WE.then_normal ?_
  refine WC.block ?_
  refine WC.loopK (ι := Nat × Option Addr × Value) (fun g => [(9, .int .i64 (g.1 : Int))]) [(0, _), (7, _), (8, _)] (fun g => Ws w ([blk bp (.cells #[.pointer (q), v] 85 (0, 0)), osl 5 1 v (bs).length ((bs).map byv)].flatMap Asr.ids) [blk bp (.cells #[.pointer (g.2.1), g.2.2] 85 (0, 0)), osl 5 1 g.2.2 (bs ++ (l.take g.1).flatMap num8).length ((bs ++ (l.take g.1).flatMap num8).map byv)] [H]) (fun g => g.1 ≤ l.length ∧ (g.2.1 = none ∨ g.2.1 = some ⟨bp, 0, none⟩)) (fun g => l.length - g.1) (0, q, v) ⟨Nat.zero_le _, hq⟩ (sc rfl (sc rfl (sc rfl (sc rfl sn)))) (fun _ h => by simpa using h) ?_
  intro g ⟨hi, hp⟩
  refine WC.seq ?_
  refine WC.region ?_
  refine WL.val (.inl rfl) rfl (yl_lt rfl rfl) ?_
  refine WL.nil ?_
  refine WE.then_normal ?_
  refine WC.seq ?_
  refine WC.cond rfl (fun hc0 => ?_) (fun hc0 => ?_)
  ·
    have hlt : g.1 < l.length := by simpa using hc0
    obtain ⟨x, hx⟩ : ∃ x, l[g.1]? = some x := ⟨_, List.getElem?_eq_getElem hlt⟩
    obtain ⟨pb, po, ha, hrow⟩ := hm.elt g.1 x hx
    have hrow : vc H pb (po + g.1 * 1) = some (.int .i64 x) := hrow
    refine WC.skip ?_
    refine WE.then_normal ?_
    refine WC.seq ?_
    refine WC.block ?_
    refine WC.seq ?_
    refine WC.region ?_
    refine WL.val (.inl rfl) rfl (yl_iao es50 rfl rfl ha (by omega)) ?_
    refine WL.val (.inl rfl) rfl (yl_ld 0 na3 rfl rfl (hrow)) ?_
    refine WL.val (.inl rfl) rfl (yl_assign rfl) ?_
    refine WL.nil ?_
    refine WE.then_normal ?_
    refine WC.seq ?_
    refine WC.region ?_
    refine WL.val (.inl rfl) rfl (yl_assign rfl) ?_
    refine WL.nil ?_
    refine WE.then_normal ?_
    refine WC.block ?_
    refine WC.loopK (ι := Nat × Option Addr × Value) (fun k => [(6, .int .i64 (56 - 8 * (k.1 : Int)))]) [(0, _), (5, _), (7, _), (8, _), (9, _)] (fun k => Ws w ([blk bp (.cells #[.pointer (q), v] 85 (0, 0)), osl 5 1 v (bs).length ((bs).map byv)].flatMap Asr.ids) [blk bp (.cells #[.pointer (k.2.1), k.2.2] 85 (0, 0)), osl 5 1 k.2.2 (bs ++ (l.take g.1).flatMap num8 ++ bitsB x k.1).length ((bs ++ (l.take g.1).flatMap num8 ++ bitsB x k.1).map byv)] [H]) (fun k => k.1 ≤ 8 ∧ (k.2.1 = none ∨ k.2.1 = some ⟨bp, 0, none⟩)) (fun k => 8 - k.1) (0, g.2.1, g.2.2) ⟨Nat.zero_le _, hp⟩ (sc rfl (sc rfl (sc rfl (sc rfl (sc rfl (sc rfl sn)))))) (fun _ h => by simpa [bitsB] using h) ?_
    intro k ⟨hk, hp2⟩
    refine WC.seq ?_
    refine WC.seq ?_
    refine WC.region ?_
    refine WL.val (.inl rfl) rfl (yl_move rfl) ?_
    refine WL.val (.inl rfl) rfl (yl_ge rfl rfl) ?_
    refine WL.nil ?_
    refine WE.then_normal ?_
    refine WC.cond rfl (fun hc1 => ?_) (fun hc1 => ?_)
    ·
      have hk8 : k.1 < 8 := by simp at hc1; omega
      refine WC.skip ?_
      refine WE.then_normal ?_
      refine WC.seq ?_
      refine WC.block ?_
      refine WC.region ?_
      refine WL.val (.inl rfl) rfl (yl_move rfl) ?_
      refine WL.val (.inl rfl) rfl (yl_move rfl) ?_
      refine WL.val (.inl rfl) rfl (yl_move rfl) ?_
      refine WL.val (.inl rfl) rfl (yl_shr rfl rfl (by omega)) ?_
      refine WL.front 1 rfl ?_
      refine WL.front 1 rfl ?_
      refine WL.callw (ι := Value) [_, _] _ (.inl rfl) rfl en46 rfl rfl (fun _ => .tuple #[]) (fun v' => [blk bp (.cells #[.pointer (some ⟨bp, 0, none⟩), v'] 85 (0, 0)), osl 5 1 v' (bs ++ (l.take g.1).flatMap num8 ++ bitsB x k.1 ++ [byteOf (x.fdiv (2 ^ (56 - 8 * k.1)))]).length ((bs ++ (l.take g.1).flatMap num8 ++ bitsB x k.1 ++ [byteOf (x.fdiv (2 ^ (56 - 8 * k.1)))]).map byv)]) (fun _ => True) [] (by simp) (fun w hw => by
          have := penByte_any bp k.2.1 k.2.2 (bs ++ (l.take g.1).flatMap num8 ++ bitsB x k.1) (x.fdiv (2 ^ (56 - 8 * k.1))) w hp2 (by simp only [List.length_append, nums_len, bits_len, List.length_take, List.length_singleton]; omega) hw
          have e : min (56 - 8 * (k.1 : Int)).toNat IntKind.i64.bits = 56 - 8 * k.1 := by simp [IntKind.bits]; omega
          rw [e]
          exact this) ?_
      intro v21 _
      refine WL.nil ?_
      refine WE.block_normal ?_
      refine WE.then_normal ?_
      refine WC.region ?_
      refine WL.val (.inl rfl) rfl (yl_move rfl) ?_
      refine WL.val (.inl rfl) rfl (yl_subv (56 - 8 * ((k.1 + 1 : Nat) : Int)) rfl rfl (by omega) (by omega)) ?_
      refine WL.val (.inl rfl) rfl (yl_assign rfl) ?_
      refine WL.nil ?_
      exact WE.again ((k.1 + 1, some ⟨bp, 0, none⟩, v21) : Nat × Option Addr × Value) (by first | omega | (dsimp only; omega)) ⟨by first | omega | (dsimp only; omega), .inr rfl⟩ (sc rfl (sc rfl (sc rfl (sc rfl (sc rfl (sc rfl sn)))))) (fun _ h => by
        have e := bits_succ x k.1
        show Ws _ _ [blk bp (.cells #[.pointer (some ⟨bp, 0, none⟩), v21] 85 (0, 0)), osl 5 1 v21 (bs ++ (l.take g.1).flatMap num8 ++ bitsB x (k.1 + 1)).length ((bs ++ (l.take g.1).flatMap num8 ++ bitsB x (k.1 + 1)).map byv)] _ _
        rw [e, ← List.append_assoc]
        exact h)
    ·
      have hk8 : k.1 = 8 := by simp at hc1; omega
      refine WC.exit ?_
      refine WE.then_exit ?_
      refine WE.then_exit ?_
      refine WE.block_hit ?_
      refine WE.block_normal ?_
      refine WE.then_normal ?_
      refine WC.region ?_
      refine WL.val (.inl rfl) rfl (yl_inc rfl rfl rfl (by omega)) ?_
      refine WL.val (.inl rfl) rfl (yl_move rfl) ?_
      refine WL.nil ?_
      exact WE.again ((g.1 + 1, k.2.1, k.2.2) : Nat × Option Addr × Value) (by first | omega | (dsimp only; omega)) ⟨by first | omega | (dsimp only; omega), hp2⟩ (sc rfl (sc rfl (sc rfl (sc rfl sn)))) (fun _ h => by
        have e : bs ++ (l.take g.1).flatMap num8 ++ bitsB x k.1 = bs ++ (l.take (g.1 + 1)).flatMap num8 := by
          rw [hk8, bits8, List.take_add_one, hx]; simp
        rw [e] at h
        exact h)
  ·
    have hie : g.1 = l.length := by simp at hc0; omega
    refine WC.exit ?_
    refine WE.then_exit ?_
    refine WE.then_exit ?_
    refine WE.block_hit ?_
    refine WE.end0 rfl fun w' hw => ?_
    rw [hie, List.take_length] at hw
    exact ⟨(g.2.1, g.2.2), rfl, hp, hw⟩

end Go.Proofs.Ytagoencpeflmlaa
