/- Walks of the functions of this claim, and plain laws on what they compute; each theorem tells its own conditions. -/
import Derived.Test.YtagoencpeflmlaaRows
import Derived.Test.YtagoencpeflmlaaBwF11
import Derived.Test.YtagoencpeflmlaaBw18
namespace Go.Proofs.Ytagoencpeflmlaa
open Go.Bw
set_option linter.unusedVariables false
set_option linter.unusedSimpArgs false

def glItem (s : List UInt8) : Option (Item × List UInt8) := do
  let (k, s) ← glByte s
  let (nm, s) ← glText s
  let (n, s) ← glNum s
  let (pl, s) ← glNum s
  pure (⟨k, n, pl, nm⟩, s)
def glItems : Nat → List UInt8 → Option (List Item × List UInt8)
  | 0, s => some ([], s)
  | k + 1, s => (glItem s).bind fun p => (glItems k p.2).map fun q => (p.1 :: q.1, q.2)
def glFace (s : List UInt8) : Option ((List UInt8 × List Item) × List UInt8) :=
  (glText s).bind fun p => (glByte p.2).bind fun q => (glItems q.1.toNat q.2).map fun r => ((p.1, r.1), r.2)
theorem glByte_nat {s : List UInt8} {r : Int × List UInt8} (h : glByte s = some r) : 0 ≤ r.1 ∧ r.1 < 256 := by
  cases s with
  | nil => cases h
  | cons x q => simp only [glByte] at h; injection h with h; subst h; have := x.toNat_lt; simp; omega
theorem glByte_le {s : List UInt8} {r : Int × List UInt8} (h : glByte s = some r) : r.2.length ≤ s.length := by
  cases s with
  | nil => cases h
  | cons x q => simp only [glByte] at h; injection h with h; subst h; simp
theorem glText_le {s : List UInt8} {r : List UInt8 × List UInt8} (h : glText s = some r) : r.2.length ≤ s.length := by
  cases s with
  | nil => cases h
  | cons x q => simp only [glText] at h; split at h; cases h; injection h with h; subst h; simp; omega
theorem glNum_le {s : List UInt8} {r : Int × List UInt8} (h : glNum s = some r) : r.2.length ≤ s.length := by
  unfold glNum at h; split at h; cases h; injection h with h; subst h; simp
theorem zr39 : zeroOf Try.prog 39 = some (.agg #[st [], .slice none 0 0]) := by kernel_rfl
theorem en55 : Enters Try.prog 55 := enters_of Try.func55 (by kernel_rfl) rfl
theorem pl39 : placesP Try.prog 39 = some [(0, 1), (1, 1)] := by kernel_rfl
theorem sz39 : sizeP Try.prog 39 = some 2 := by kernel_rfl
theorem pl88 : placesP Try.prog 88 = some [(0, 1), (1, 1), (2, 1), (3, 1)] := by kernel_rfl
theorem en57 : Enters Try.prog 57 := enters_of Try.func57 (by kernel_rfl) rfl
theorem sz3 : sizeP Try.prog 3 = some 1 := by kernel_rfl
theorem el37 : EltOk Try.prog 37 88 (.agg #[.int .i64 0, .int .i64 0, .int .i64 0, st []]) 4 40 := eltOk_of (by kernel_rfl)
theorem sz37 : sizeP Try.prog 37 = some 1 := by kernel_rfl

theorem faceRead1_any (bg : Nat) (s : List UInt8)  (w : World) (hs : s.length ≤ 9223372036854775807) (hw : Ws w [bg] [blk bg (.cells #[st (s)] 133 (0, 0))] [] w) :
    Calls Try.prog 54 #[.pointer (some ⟨bg, 0, none⟩)] w fun e w' => (∃ r : (List UInt8 × List Item × List UInt8) × Option Addr × Nat, e = .returned (.agg #[st r.1.1, .slice r.2.1 r.1.2.1.length r.2.2]) ∧ glFace s = some ((r.1.1, r.1.2.1), r.1.2.2) ∧ Ws w [bg] [blk bg (.cells #[st (r.1.2.2)] 133 (0, 0)), osT 88 4 Item.cells r.2.1 r.2.2 (r.1.2.1)] [] w') ∨ (∃ t : List UInt8, e = .panicked brk ∧ glFace s = none ∧ Ws w [bg] [blk bg (.cells #[st (t)] 133 (0, 0))] [] w') := by
  refine enter Try.func54 rfl 31 rfl rfl ?_
  refine WC.world (W' := Ws w [bg] [blk bg (.cells #[st (s)] 133 (0, 0))] []) (fun _ e => by subst e; exact hw) ?_
  refine WC.seq ?_
  refine WC.region ?_
  refine WL.alloc (.inl rfl) rfl zr39 fun b2 => ?_
  refine WL.nil ?_
  refine WE.then_normal ?_
  refine WC.seq ?_
  refine WC.region ?_
  refine WL.val (.inl rfl) rfl (yl_move rfl) ?_
  refine WL.front 1 rfl ?_
  refine WL.callwx (ι := List UInt8 × List UInt8) (κ := List UInt8) [_] _ (.inl rfl) rfl en55 rfl rfl (fun r => st r.1) (fun r => [blk bg (.cells #[st (r.2)] 133 (0, 0))]) (fun r => glText s = some r) (fun _ => brk) (fun t => [blk bg (.cells #[st (t)] 133 (0, 0))]) (fun _ => glText s = none) ([]) (by simp) (fun w hw => glText_any bg (s)  w hs hw) ?_ ?_
  ·
    intro t ht
    refine WE.then_panic ?_
    refine WE.panics fun w' hw => ?_
    exact .inr ⟨t, rfl, (by simp [glFace, ht]), Ws.keep (L := [_]) hw⟩
  intro r6 h6
  refine WL.val (.inl rfl) rfl (yl_build zr39 pl39 rfl rfl) ?_
  refine WL.alloc (.inl rfl) rfl zr39 fun b3 => ?_
  refine WL.world (fun _ h => h.osl_nil 88 4) ?_
  refine WL.store 1 (.inl rfl) rfl rfl rfl sz39 rfl rfl rfl ?_
  refine WL.nil ?_
  refine WE.then_normal ?_
  refine WC.seq ?_
  refine WC.seq ?_
  refine WC.region ?_
  refine WL.val (.inl rfl) rfl (yl_move rfl) ?_
  refine WL.front 2 rfl ?_
  refine WL.callwx (ι := Int × List UInt8) (κ := List UInt8) [_] _ (.inl rfl) rfl en56 rfl rfl (fun r => .int .i64 r.1) (fun r => [blk bg (.cells #[st (r.2)] 133 (0, 0))]) (fun r => glByte r6.2 = some r) (fun _ => brk) (fun t => [blk bg (.cells #[st (t)] 133 (0, 0))]) (fun _ => glByte r6.2 = none) ([]) (by simp) (fun w hw => glByte_any bg (r6.2)  w (by have := glText_le h6; omega) hw) ?_ ?_
  ·
    intro t ht
    refine WE.then_panic ?_
    refine WE.then_panic ?_
    refine WE.panics fun w' hw => ?_
    exact .inr ⟨t, rfl, (by simp [glFace, h6, ht]), Ws.keep (L := [_]) hw⟩
  intro r9 h9
  obtain ⟨q0, q1⟩ := glByte_nat h9
  have hl9 : r9.2.length ≤ 9223372036854775807 := by have := glText_le h6; have := glByte_le h9; omega
  obtain ⟨cnt, hcnt⟩ : ∃ cnt : Nat, r9.1 = (cnt : Int) := ⟨r9.1.toNat, by omega⟩
  rw [hcnt]
  refine WL.val (.inl rfl) rfl (yl_move rfl) ?_
  refine WL.nil ?_
  refine WE.then_normal ?_
  refine WC.block ?_
  refine WC.loopK (ι := List Item × List UInt8 × Option Addr × Nat) (fun g => [(10, .int .i64 (g.1.length : Int))]) [(0, _), (2, _), (3, _), (9, _)] (fun g => Ws w [bg] [blk bg (.cells #[st (g.2.1)] 133 (0, 0)), osT 88 4 Item.cells g.2.2.1 g.2.2.2 (g.1), blk b3 (.cells #[st r6.1, .slice g.2.2.1 (g.1).length g.2.2.2] 39 (0, 0)), blk b2 (.cells #[st [], .slice none (([] : List Item)).length 0] 39 (0, 0))] []) (fun g => g.1.length ≤ cnt ∧ g.2.1.length ≤ 9223372036854775807 ∧ glItems cnt r9.2 = (glItems (cnt - g.1.length) g.2.1).map fun q => (g.1 ++ q.1, q.2)) (fun g => cnt - g.1.length) ([], r9.2, none, 0) ⟨Nat.zero_le _, hl9, by simp⟩ (sc rfl (sc rfl (sc rfl (sc rfl (sc rfl sn))))) (fun _ h => h) ?_
  intro g ⟨hi, hgs, hG⟩
  refine WC.seq ?_
  refine WC.region ?_
  refine WL.val (.inl rfl) rfl (yl_lt rfl rfl) ?_
  refine WL.nil ?_
  refine WE.then_normal ?_
  refine WC.seq ?_
  refine WC.cond rfl (fun hc0 => ?_) (fun hc0 => ?_)
  ·
    have hlt : g.1.length < cnt := by simpa using hc0
    have hbad : glItem g.2.1 = none → glFace s = none := fun hn => by
      obtain ⟨m, hm⟩ : ∃ m, cnt - g.1.length = m + 1 := ⟨cnt - g.1.length - 1, by omega⟩
      simp only [glFace, h6, h9, Option.bind_some, hcnt, Int.toNat_natCast, hG, hm, glItems, hn, Option.bind_none, Option.map_none]
    refine WC.skip ?_
    refine WE.then_normal ?_
    refine WC.seq ?_
    refine WC.block ?_
    refine WC.seq ?_
    refine WC.region ?_
    refine WL.val (.inl rfl) rfl (yl_move rfl) ?_
    refine WL.front 0 rfl ?_
    refine WL.callwx (ι := Int × List UInt8) (κ := List UInt8) [_] _ (.inl rfl) rfl en56 rfl rfl (fun r => .int .i64 r.1) (fun r => [blk bg (.cells #[st (r.2)] 133 (0, 0))]) (fun r => glByte g.2.1 = some r) (fun _ => brk) (fun t => [blk bg (.cells #[st (t)] 133 (0, 0))]) (fun _ => glByte g.2.1 = none) ([]) (by simp) (fun w hw => glByte_any bg (g.2.1)  w hgs hw) ?_ ?_
    ·
      intro t ht
      refine WE.then_panic ?_
      refine WE.block_panic ?_
      refine WE.then_panic ?_
      refine WE.then_panic ?_
      refine WE.block_panic ?_
      refine WE.then_panic ?_
      refine WE.panics fun w' hw => ?_
      exact .inr ⟨t, rfl, hbad (by simp [glItem, ht]), Ws.keep (L := [_]) hw⟩
    intro r13 h13
    refine WL.val (.inl rfl) rfl (yl_move rfl) ?_
    refine WL.front 0 rfl ?_
    refine WL.callwx (ι := List UInt8 × List UInt8) (κ := List UInt8) [_] _ (.inl rfl) rfl en55 rfl rfl (fun r => st r.1) (fun r => [blk bg (.cells #[st (r.2)] 133 (0, 0))]) (fun r => glText r13.2 = some r) (fun _ => brk) (fun t => [blk bg (.cells #[st (t)] 133 (0, 0))]) (fun _ => glText r13.2 = none) ([]) (by simp) (fun w hw => glText_any bg (r13.2)  w (by have := glByte_le h13; omega) hw) ?_ ?_
    ·
      intro t ht
      refine WE.then_panic ?_
      refine WE.block_panic ?_
      refine WE.then_panic ?_
      refine WE.then_panic ?_
      refine WE.block_panic ?_
      refine WE.then_panic ?_
      refine WE.panics fun w' hw => ?_
      exact .inr ⟨t, rfl, hbad (by simp [glItem, h13, ht]), Ws.keep (L := [_]) hw⟩
    intro r15 h15
    refine WL.val (.inl rfl) rfl (yl_build zr88 pl88 rfl rfl) ?_
    refine WL.alloc (.inl rfl) rfl zr88 fun b4 => ?_
    refine WL.store 0 (.inl rfl) rfl rfl rfl sz88 rfl rfl rfl ?_
    refine WL.nil ?_
    refine WE.then_normal ?_
    refine WC.seq ?_
    refine WC.region ?_
    refine WL.val (.inl rfl) rfl (yl_move rfl) ?_
    refine WL.front 1 rfl ?_
    refine WL.callwx (ι := Int × List UInt8) (κ := List UInt8) [_] _ (.inl rfl) rfl en57 rfl rfl (fun r => .int .i64 r.1) (fun r => [blk bg (.cells #[st (r.2)] 133 (0, 0))]) (fun r => glNum r15.2 = some r) (fun _ => brk) (fun t => [blk bg (.cells #[st (t)] 133 (0, 0))]) (fun _ => glNum r15.2 = none) ([]) (by simp) (fun w hw => glNum_any bg (r15.2)  w (by have := glByte_le h13; have := glText_le h15; omega) hw) ?_ ?_
    ·
      intro t ht
      refine WE.then_panic ?_
      refine WE.block_panic ?_
      refine WE.then_panic ?_
      refine WE.then_panic ?_
      refine WE.block_panic ?_
      refine WE.then_panic ?_
      refine WE.panics fun w' hw => ?_
      exact .inr ⟨t, rfl, hbad (by simp [glItem, h13, h15, ht]), Ws.keep (L := [_]) hw⟩
    intro r18 h18
    refine WL.val (.inl rfl) rfl (yl_fa fo88_1 rfl) ?_
    refine WL.store 1 (.inl rfl) rfl rfl rfl sz3 rfl rfl rfl ?_
    refine WL.nil ?_
    refine WE.then_normal ?_
    refine WC.seq ?_
    refine WC.region ?_
    refine WL.val (.inl rfl) rfl (yl_move rfl) ?_
    refine WL.front 0 rfl ?_
    refine WL.callwx (ι := Int × List UInt8) (κ := List UInt8) [_] _ (.inl rfl) rfl en57 rfl rfl (fun r => .int .i64 r.1) (fun r => [blk bg (.cells #[st (r.2)] 133 (0, 0))]) (fun r => glNum r18.2 = some r) (fun _ => brk) (fun t => [blk bg (.cells #[st (t)] 133 (0, 0))]) (fun _ => glNum r18.2 = none) ([]) (by simp) (fun w hw => glNum_any bg (r18.2)  w (by have := glByte_le h13; have := glText_le h15; have := glNum_le h18; omega) hw) ?_ ?_
    ·
      intro t ht
      refine WE.then_panic ?_
      refine WE.block_panic ?_
      refine WE.then_panic ?_
      refine WE.then_panic ?_
      refine WE.block_panic ?_
      refine WE.then_panic ?_
      refine WE.panics fun w' hw => ?_
      exact .inr ⟨t, rfl, hbad (by simp [glItem, h13, h15, h18, ht]), Ws.keep (L := [_]) hw⟩
    intro r21 h21
    refine WL.val (.inl rfl) rfl (yl_fa fo88_2 rfl) ?_
    refine WL.store 1 (.inl rfl) rfl rfl rfl sz3 rfl rfl rfl ?_
    refine WL.nil ?_
    refine WE.then_normal ?_
    refine WC.region ?_
    refine WL.val (.inl rfl) rfl (yl_fa fo39_1 rfl) ?_
    refine WL.val (.inl rfl) rfl (yl_ldk 3 rfl rfl rfl na37) ?_
    refine WL.val (.inl rfl) rfl (yl_ldka 1 rfl rfl ag88 rfl) ?_
    refine WL.bsliceF (.inl rfl) rfl el37 rfl rfl rfl rfl fun b26 => ?_
    refine WL.reblk 0 (.cells (Item.cells ⟨r13.1, r18.1, r21.1, r15.1⟩).toArray 88 (0, 0)) rfl rfl ?_
    refine WL.appT ⟨r13.1, r18.1, r21.1, r15.1⟩ 3 0 (.inl rfl) rfl el37 rfl rfl rfl rfl rfl rfl (by omega) (by omega) fun a27 c27 => ?_
    refine WL.val (.inl rfl) rfl (yl_fa fo39_1 rfl) ?_
    refine WL.store 4 (.inl rfl) rfl rfl rfl sz37 rfl rfl rfl ?_
    refine WL.nil ?_
    refine WE.block_normal ?_
    refine WE.then_normal ?_
    refine WC.region ?_
    refine WL.val (.inl rfl) rfl (yl_inc rfl rfl rfl (by omega)) ?_
    refine WL.val (.inl rfl) rfl (yl_move rfl) ?_
    refine WL.nil ?_
    have hI : glItem g.2.1 = some (⟨r13.1, r18.1, r21.1, r15.1⟩, r21.2) := by simp [glItem, h13, h15, h18, h21]
    rw [show ((g.1.length + 1 : Nat) : Int) = (((g.1 ++ [(⟨r13.1, r18.1, r21.1, r15.1⟩ : Item)]).length : Nat) : Int) by simp]
    exact WE.again ((g.1 ++ [⟨r13.1, r18.1, r21.1, r15.1⟩], r21.2, a27, c27) : List Item × List UInt8 × Option Addr × Nat) (by simp; omega) ⟨by simp; omega, by have := glByte_le h13; have := glText_le h15; have := glNum_le h18; have := glNum_le h21; dsimp only; omega, by
        rw [hG]
        obtain ⟨m, hm⟩ : ∃ m, cnt - g.1.length = m + 1 := ⟨cnt - g.1.length - 1, by omega⟩
        have hm2 : cnt - (g.1 ++ [(⟨r13.1, r18.1, r21.1, r15.1⟩ : Item)]).length = m := by simp; omega
        dsimp only
        rw [hm, hm2]
        simp [glItems, hI]
        rfl⟩ (sc rfl (sc rfl (sc rfl (sc rfl (sc rfl sn))))) (fun _ h => by
      have h := Ws.out 0 h
      have h := Ws.out 1 h
      exact h)
  ·
    have hie : g.1.length = cnt := by simp at hc0; omega
    refine WC.exit ?_
    refine WE.then_exit ?_
    refine WE.then_exit ?_
    refine WE.block_hit ?_
    refine WE.then_normal ?_
    refine WC.seq ?_
    refine WC.region ?_
    refine WL.val (.inl rfl) rfl (yl_ldka 2 rfl rfl ag39 rfl) ?_
    refine WL.store 3 (.inl rfl) rfl rfl rfl sz39 rfl rfl rfl ?_
    refine WL.nil ?_
    refine WE.then_normal ?_
    refine WC.ret ?_
    refine WE.retc1 3 rfl rfl rfl ag39 rfl fun w' hw => ?_
    have hF : glFace s = some ((r6.1, g.1), g.2.1) := by
      simp only [glFace, h6, h9, Option.bind_some, hcnt, Int.toNat_natCast, hG, hie, Nat.sub_self, glItems, Option.map_some, List.append_nil]
    exact .inl ⟨((r6.1, g.1, g.2.1), g.2.2), rfl, hF, Ws.keep (L := [_, _]) hw⟩

end Go.Proofs.Ytagoencpeflmlaa
