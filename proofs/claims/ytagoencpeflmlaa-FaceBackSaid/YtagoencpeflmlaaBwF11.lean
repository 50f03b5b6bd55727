/- Walks of the functions of this claim, and plain laws on what they compute; each theorem tells its own conditions. -/
import Derived.Test.YtagoencpeflmlaaRows
import Derived.Test.YtagoencpeflmlaaBwF10
import Derived.Test.YtagoencpeflmlaaBw17
namespace Go.Proofs.Ytagoencpeflmlaa
open Go.Bw
set_option linter.unusedVariables false
set_option linter.unusedSimpArgs false

def brk : List PanicEntry := [⟨.iface 145 (.agg #[]), false, false⟩]
def numOf (l : List UInt8) : Int := l.foldl (fun n b => IntKind.i64.wrap (n * 256 + (b.toNat : Nat))) 0
def glByte (s : List UInt8) : Option (Int × List UInt8) := match s with | [] => none | x :: r => some ((x.toNat : Nat), r)
def glText (s : List UInt8) : Option (List UInt8 × List UInt8) := match s with | [] => none | x :: r => if r.length < x.toNat then none else some (r.take x.toNat, r.drop x.toNat)
def glNum (s : List UInt8) : Option (Int × List UInt8) := if s.length < 8 then none else some (numOf (s.take 8), s.drop 8)
theorem fo133_0 : fieldOff Try.prog 133 0 = some 0 := by kernel_rfl
theorem pl145 : placesP Try.prog 145 = some [] := by kernel_rfl
theorem zr145 : zeroOf Try.prog 145 = some (.agg #[]) := by kernel_rfl
theorem co145 : Try.prog.concrete 145 = true := by kernel_rfl
theorem sz9 : sizeP Try.prog 9 = some 1 := by kernel_rfl
theorem en82 : Enters Try.prog 82 := enters_of Try.func82 (by kernel_rfl) rfl
theorem en56 : Enters Try.prog 56 := enters_of Try.func56 (by kernel_rfl) rfl
theorem na5 : nonAgg Try.prog 5 = true := by kernel_rfl

theorem take_any (bg : Nat) (s : List UInt8) (n : Nat) (w : World) (hs : s.length ≤ 9223372036854775807) (hw : Ws w [bg] [blk bg (.cells #[st (s)] 133 (0, 0))] [] w)  :
    Calls Try.prog 82 #[.pointer (some ⟨bg, 0, none⟩), .int .i64 (n : Int)] w fun e w' => (∃ r : List UInt8 × List UInt8, e = .returned (st r.1) ∧ (if s.length < n then none else some (s.take n, s.drop n)) = some r ∧ Ws w [bg] [blk bg (.cells #[st (r.2)] 133 (0, 0))] [] w') ∨ (∃ t : List UInt8, e = .panicked brk ∧ (if s.length < n then none else some (s.take n, s.drop n)) = none ∧ Ws w [bg] [blk bg (.cells #[st (t)] 133 (0, 0))] [] w') := by
  refine enter Try.func82 rfl 31 rfl rfl ?_
  refine WC.world (W' := Ws w [bg] [blk bg (.cells #[st (s)] 133 (0, 0))] []) (fun _ e => by subst e; exact hw) ?_
  refine WC.seq ?_
  refine WC.region ?_
  refine WL.val (.inl rfl) rfl (yl_assign rfl) ?_
  refine WL.nil ?_
  refine WE.then_normal ?_
  refine WC.seq ?_
  refine WC.seq ?_
  refine WC.region ?_
  refine WL.val (.inl rfl) rfl (yl_move rfl) ?_
  refine WL.val (.inl rfl) rfl (yl_move rfl) ?_
  refine WL.val (.inl rfl) rfl (yl_nil rfl) ?_
  refine WL.val (.inl rfl) rfl (yl_fa fo133_0 rfl) ?_
  refine WL.val (.inl rfl) rfl (yl_ldk 0 rfl rfl rfl na9) ?_
  refine WL.val (.inl rfl) rfl (yl_lens us9 rfl) ?_
  refine WL.val (.inl rfl) rfl (yl_gt rfl rfl) ?_
  refine WL.nil ?_
  refine WE.then_normal ?_
  refine WC.cond rfl (fun hc0 => ?_) (fun hc0 => ?_)
  ·
    have hlt : s.length < n := by simpa using hc0
    refine WC.region ?_
    refine WL.val (.inl rfl) rfl (yl_build zr145 pl145 rfl rfl) ?_
    refine WL.val (.inl rfl) rfl (yl_mki co145 rfl) ?_
    refine WL.panic (.inl rfl) rfl ?_
    refine WE.then_panic ?_
    refine WE.panics fun w' hw => ?_
    exact .inr ⟨s, rfl, by rw [if_pos hlt], hw⟩
  ·
    have hlt : ¬ s.length < n := by simpa using hc0
    refine WC.skip ?_
    refine WE.then_normal ?_
    refine WC.seq ?_
    refine WC.region ?_
    refine WL.val (.inl rfl) rfl (yl_move rfl) ?_
    refine WL.val (.inl rfl) rfl (yl_nil rfl) ?_
    refine WL.val (.inl rfl) rfl (yl_fa fo133_0 rfl) ?_
    refine WL.val (.inl rfl) rfl (yl_ldk 0 rfl rfl rfl na9) ?_
    refine WL.val (.inl rfl) rfl (yl_move rfl) ?_
    refine WL.val (.inl rfl) rfl (yl_ssh us9 rfl rfl (by omega) (by omega)) ?_
    refine WL.val (.inl rfl) rfl (yl_assign rfl) ?_
    refine WL.nil ?_
    refine WE.then_normal ?_
    refine WC.seq ?_
    refine WC.region ?_
    refine WL.val (.inl rfl) rfl (yl_move rfl) ?_
    refine WL.val (.inl rfl) rfl (yl_move rfl) ?_
    refine WL.val (.inl rfl) rfl (yl_nil rfl) ?_
    refine WL.val (.inl rfl) rfl (yl_fa fo133_0 rfl) ?_
    refine WL.val (.inl rfl) rfl (yl_ldk 0 rfl rfl rfl na9) ?_
    refine WL.val (.inl rfl) rfl (yl_move rfl) ?_
    refine WL.val (.inl rfl) rfl (yl_sst us9 rfl rfl (by omega) (by omega)) ?_
    refine WL.val (.inl rfl) rfl (yl_nil rfl) ?_
    refine WL.val (.inl rfl) rfl (yl_fa fo133_0 rfl) ?_
    refine WL.store 0 (.inl rfl) rfl rfl rfl sz9 rfl rfl rfl ?_
    refine WL.nil ?_
    refine WE.then_normal ?_
    refine WC.seq ?_
    refine WC.region ?_
    refine WL.val (.inl rfl) rfl (yl_move rfl) ?_
    refine WL.val (.inl rfl) rfl (yl_assign rfl) ?_
    refine WL.nil ?_
    refine WE.then_normal ?_
    refine WC.ret ?_
    refine WE.ret1 rfl rfl fun w' hw => ?_
    exact .inl ⟨(s.take n, s.drop n), rfl, by rw [if_neg hlt], hw⟩

theorem glByte_any (bg : Nat) (s : List UInt8)  (w : World) (hs : s.length ≤ 9223372036854775807) (hw : Ws w [bg] [blk bg (.cells #[st (s)] 133 (0, 0))] [] w) :
    Calls Try.prog 56 #[.pointer (some ⟨bg, 0, none⟩)] w fun e w' => (∃ r : Int × List UInt8, e = .returned (.int .i64 r.1) ∧ glByte s = some r ∧ Ws w [bg] [blk bg (.cells #[st (r.2)] 133 (0, 0))] [] w') ∨ (∃ t : List UInt8, e = .panicked brk ∧ glByte s = none ∧ Ws w [bg] [blk bg (.cells #[st (t)] 133 (0, 0))] [] w') := by
  refine enter Try.func56 rfl 7 rfl rfl ?_
  refine WC.world (W' := Ws w [bg] [blk bg (.cells #[st (s)] 133 (0, 0))] []) (fun _ e => by subst e; exact hw) ?_
  refine WC.seq ?_
  refine WC.region ?_
  refine WL.val (.inl rfl) rfl (yl_assign rfl) ?_
  refine WL.nil ?_
  refine WE.then_normal ?_
  refine WC.seq ?_
  refine WC.region ?_
  refine WL.val (.inl rfl) rfl (yl_move rfl) ?_
  refine WL.front 0 rfl ?_
  refine WL.callwx (ι := List UInt8 × List UInt8) (κ := List UInt8) [_] _ (.inl rfl) rfl en82 rfl rfl (fun r => st r.1) (fun r => [blk bg (.cells #[st (r.2)] 133 (0, 0))]) (fun r => (if s.length < 1 then none else some (s.take 1, s.drop 1)) = some r) (fun _ => brk) (fun t => [blk bg (.cells #[st (t)] 133 (0, 0))]) (fun _ => (if s.length < 1 then none else some (s.take 1, s.drop 1)) = none) ([]) (by simp) (fun w hw => take_any bg (s) 1 w hs hw) ?_ ?_
  ·
    intro t ht
    refine WE.then_panic ?_
    refine WE.panics fun w' hw => ?_
    exact .inr ⟨t, rfl, (by cases s with | nil => rfl | cons x q => simp at ht), hw⟩
  intro r hr
  obtain ⟨x, q, rfl⟩ : ∃ x q, s = x :: q := by
    cases s with
    | nil => simp at hr
    | cons x q => exact ⟨x, q, rfl⟩
  obtain rfl : r = ([x], q) := by simp at hr; exact hr.symm
  refine WL.val (.inl rfl) rfl (yl_idxk us9 rfl rfl (u := x) rfl) ?_
  refine WL.val (.inl rfl) rfl (yl_cvi ui5 ui3 rfl) ?_
  refine WL.val (.inl rfl) rfl (yl_assign rfl) ?_
  refine WL.nil ?_
  refine WE.then_normal ?_
  refine WC.ret ?_
  refine WE.ret1 rfl rfl fun w' hw => ?_
  refine .inl ⟨((x.toNat : Int), q), ?_, rfl, hw⟩
  rw [show IntKind.i64.wrap (x.toNat : Int) = (x.toNat : Int) from wrap_in (by have := x.toNat_lt; omega)]

theorem glText_any (bg : Nat) (s : List UInt8)  (w : World) (hs : s.length ≤ 9223372036854775807) (hw : Ws w [bg] [blk bg (.cells #[st (s)] 133 (0, 0))] [] w) :
    Calls Try.prog 55 #[.pointer (some ⟨bg, 0, none⟩)] w fun e w' => (∃ r : List UInt8 × List UInt8, e = .returned (st r.1) ∧ glText s = some r ∧ Ws w [bg] [blk bg (.cells #[st (r.2)] 133 (0, 0))] [] w') ∨ (∃ t : List UInt8, e = .panicked brk ∧ glText s = none ∧ Ws w [bg] [blk bg (.cells #[st (t)] 133 (0, 0))] [] w') := by
  refine enter Try.func55 rfl 7 rfl rfl ?_
  refine WC.world (W' := Ws w [bg] [blk bg (.cells #[st (s)] 133 (0, 0))] []) (fun _ e => by subst e; exact hw) ?_
  refine WC.seq ?_
  refine WC.region ?_
  refine WL.val (.inl rfl) rfl (yl_assign rfl) ?_
  refine WL.nil ?_
  refine WE.then_normal ?_
  refine WC.seq ?_
  refine WC.region ?_
  refine WL.val (.inl rfl) rfl (yl_move rfl) ?_
  refine WL.val (.inl rfl) rfl (yl_move rfl) ?_
  refine WL.front 0 rfl ?_
  refine WL.callwx (ι := Int × List UInt8) (κ := List UInt8) [_] _ (.inl rfl) rfl en56 rfl rfl (fun r => .int .i64 r.1) (fun r => [blk bg (.cells #[st (r.2)] 133 (0, 0))]) (fun r => glByte s = some r) (fun _ => brk) (fun t => [blk bg (.cells #[st (t)] 133 (0, 0))]) (fun _ => glByte s = none) ([]) (by simp) (fun w hw => glByte_any bg (s)  w hs hw) ?_ ?_
  ·
    intro t ht
    refine WE.then_panic ?_
    refine WE.panics fun w' hw => ?_
    exact .inr ⟨t, rfl, (by cases s with | nil => rfl | cons x q => cases ht), hw⟩
  intro r hr
  obtain ⟨x, q, rfl⟩ : ∃ x q, s = x :: q := by
    cases s with
    | nil => cases hr
    | cons x q => exact ⟨x, q, rfl⟩
  obtain rfl : r = ((x.toNat : Int), q) := by simp only [glByte] at hr; injection hr with hr; exact hr.symm
  refine WL.front 0 rfl ?_
  refine WL.callwx (ι := List UInt8 × List UInt8) (κ := List UInt8) [_] _ (.inl rfl) rfl en82 rfl rfl (fun r => st r.1) (fun r => [blk bg (.cells #[st (r.2)] 133 (0, 0))]) (fun r => (if q.length < x.toNat then none else some (q.take x.toNat, q.drop x.toNat)) = some r) (fun _ => brk) (fun t => [blk bg (.cells #[st (t)] 133 (0, 0))]) (fun _ => (if q.length < x.toNat then none else some (q.take x.toNat, q.drop x.toNat)) = none) ([]) (by simp) (fun w hw => take_any bg (q) x.toNat w (by simp at hs; omega) hw) ?_ ?_
  ·
    intro t ht
    refine WE.then_panic ?_
    refine WE.panics fun w' hw => ?_
    exact .inr ⟨t, rfl, ht, hw⟩
  intro r hr
  refine WL.val (.inl rfl) rfl (yl_assign rfl) ?_
  refine WL.nil ?_
  refine WE.then_normal ?_
  refine WC.ret ?_
  refine WE.ret1 rfl rfl fun w' hw => ?_
  exact .inl ⟨r, rfl, hr, hw⟩

theorem glNum_any (bg : Nat) (s : List UInt8)  (w : World) (hs : s.length ≤ 9223372036854775807) (hw : Ws w [bg] [blk bg (.cells #[st (s)] 133 (0, 0))] [] w) :
    Calls Try.prog 57 #[.pointer (some ⟨bg, 0, none⟩)] w fun e w' => (∃ r : Int × List UInt8, e = .returned (.int .i64 r.1) ∧ glNum s = some r ∧ Ws w [bg] [blk bg (.cells #[st (r.2)] 133 (0, 0))] [] w') ∨ (∃ t : List UInt8, e = .panicked brk ∧ glNum s = none ∧ Ws w [bg] [blk bg (.cells #[st (t)] 133 (0, 0))] [] w') := by
  refine enter Try.func57 rfl 21 rfl rfl ?_
  refine WC.world (W' := Ws w [bg] [blk bg (.cells #[st (s)] 133 (0, 0))] []) (fun _ e => by subst e; exact hw) ?_
  refine WC.seq ?_
  refine WC.region ?_
  refine WL.val (.inl rfl) rfl (yl_assign rfl) ?_
  refine WL.nil ?_
  refine WE.then_normal ?_
  refine WC.seq ?_
  refine WC.region ?_
  refine WL.val (.inl rfl) rfl (yl_assign rfl) ?_
  refine WL.nil ?_
  refine WE.then_normal ?_
  refine WC.seq ?_
  refine WC.seq ?_
  refine WC.region ?_
  refine WL.val (.inl rfl) rfl (yl_move rfl) ?_
  refine WL.front 0 rfl ?_
  refine WL.callwx (ι := List UInt8 × List UInt8) (κ := List UInt8) [_] _ (.inl rfl) rfl en82 rfl rfl (fun r => st r.1) (fun r => [blk bg (.cells #[st (r.2)] 133 (0, 0))]) (fun r => (if s.length < 8 then none else some (s.take 8, s.drop 8)) = some r) (fun _ => brk) (fun t => [blk bg (.cells #[st (t)] 133 (0, 0))]) (fun _ => (if s.length < 8 then none else some (s.take 8, s.drop 8)) = none) ([]) (by simp) (fun w hw => take_any bg (s) 8 w hs hw) ?_ ?_
  ·
    intro t ht
    refine WE.then_panic ?_
    refine WE.then_panic ?_
    refine WE.panics fun w' hw => ?_
    exact .inr ⟨t, rfl, (by unfold glNum; split; rfl; rename_i h; rw [if_neg h] at ht; cases ht), hw⟩
  intro r hr
  have h8 : ¬ s.length < 8 := by intro h; rw [if_pos h] at hr; cases hr
  rw [if_neg h8] at hr
  obtain ⟨q, u⟩ := r
  injection hr with hr
  injection hr with hq hu
  have hl8 : q.length = 8 := by rw [← hq]; simp; omega
  dsimp only
  refine WL.s2b (.inl rfl) rfl us9 usl81 ui5 rfl fun b8 c8 k8 => ?_
  refine WL.val (.inl rfl) rfl (yl_len es81 rfl) ?_
  refine WL.val (.inl rfl) rfl (yl_move rfl) ?_
  refine WL.nil ?_
  refine WE.then_normal ?_
  refine WC.block ?_
  refine WC.loopW (ι := Nat) (fun i => [(10, .int .i64 (i : Int)), (3, .int .i64 (numOf (q.take i)))]) [(2, _), (8, _), (9, _)] (fun i => i ≤ 8) (fun i => 8 - i) 0 (Nat.zero_le _) (sc rfl (sc rfl (sc rfl (sc rfl (sc rfl sn))))) ?_
  intro i hi
  refine WC.seq ?_
  refine WC.region ?_
  refine WL.val (.inl rfl) rfl (yl_lt rfl rfl) ?_
  refine WL.nil ?_
  refine WE.then_normal ?_
  refine WC.seq ?_
  refine WC.cond rfl (fun hc0 => ?_) (fun hc0 => ?_)
  ·
    have hlt : i < 8 := by simp at hc0; omega
    obtain ⟨x, hx⟩ : ∃ x, q[i]? = some x := ⟨_, List.getElem?_eq_getElem (by omega)⟩
    refine WC.skip ?_
    refine WE.then_normal ?_
    refine WC.seq ?_
    refine WC.block ?_
    refine WC.seq ?_
    refine WC.region ?_
    refine WL.val (.inl rfl) rfl (yl_iak es81 rfl rfl (by omega)) ?_
    refine WL.val (.inl rfl) rfl (yl_ldk 0 rfl rfl (v := byv x) (by simp only [cellIn, Nat.zero_add, Nat.mul_one]; rw [List.getElem?_append_left (by simp; omega)]; simp [hx]) na5) ?_
    refine WL.val (.inl rfl) rfl (yl_assign rfl) ?_
    refine WL.nil ?_
    refine WE.then_normal ?_
    refine WC.region ?_
    refine WL.val (.inl rfl) rfl (yl_move rfl) ?_
    refine WL.val (.inl rfl) rfl (yl_shlk 8 rfl rfl (by decide)) ?_
    refine WL.val (.inl rfl) rfl (yl_move rfl) ?_
    refine WL.val (.inl rfl) rfl (yl_cvi ui5 ui3 rfl) ?_
    refine WL.val (.inl rfl) rfl (yl_or8 (n := numOf (q.take i)) (b := x.toNat) rfl (by rw [show IntKind.i64.wrap (x.toNat : Int) = (x.toNat : Int) from wrap_in (by have := x.toNat_lt; omega)]; rfl) (x.toNat_lt)) ?_
    refine WL.val (.inl rfl) rfl (yl_assign rfl) ?_
    refine WL.nil ?_
    refine WE.block_normal ?_
    refine WE.then_normal ?_
    refine WC.region ?_
    refine WL.val (.inl rfl) rfl (yl_inc rfl rfl rfl (by omega)) ?_
    refine WL.val (.inl rfl) rfl (yl_move rfl) ?_
    refine WL.nil ?_
    rw [show IntKind.i64.wrap (numOf (q.take i) * 256 + (x.toNat : Nat)) = numOf (q.take (i + 1)) by rw [List.take_add_one, hx]; simp [numOf]]
    exact WE.again (i + 1) (by omega) (by omega) (sc rfl (sc rfl (sc rfl (sc rfl (sc rfl sn))))) (fun _ h => h)
  ·
    have hie : i = 8 := by simp at hc0; omega
    refine WC.exit ?_
    refine WE.then_exit ?_
    refine WE.then_exit ?_
    refine WE.block_hit ?_
    refine WE.then_normal ?_
    refine WC.seq ?_
    refine WC.region ?_
    refine WL.val (.inl rfl) rfl (yl_move rfl) ?_
    refine WL.val (.inl rfl) rfl (yl_assign rfl) ?_
    refine WL.nil ?_
    refine WE.then_normal ?_
    refine WC.ret ?_
    refine WE.ret1 rfl rfl fun w' hw => ?_
    subst hie
    exact .inl ⟨(numOf q, u), by rw [List.take_of_length_le (by omega)], by rw [glNum, if_neg h8, hq, hu], Ws.drop (L := [_]) hw⟩

end Go.Proofs.Ytagoencpeflmlaa
