/- Walks of the functions of this claim, and plain laws on what they compute; each theorem tells its own conditions. -/
import Derived.Test.YtagoencpeflmlaaRows
import Derived.Test.YtagoencpeflmlaaBwF14
namespace Go.Proofs.Ytagoencpeflmlaa
open Go.Bw
set_option linter.unusedVariables false
set_option linter.unusedSimpArgs false

def noByte (p : List UInt8 × Bool) : Int × (List UInt8 × Bool) := match p.1 with | [] => (0, ([], true)) | x :: r => ((x.toNat : Nat), (r, p.2))
def noText (p : List UInt8 × Bool) : List UInt8 × (List UInt8 × Bool) := if ((noByte p).2.1.length : Int) < (noByte p).1 then ([], ((noByte p).2.1, true)) else ((noByte p).2.1.take (noByte p).1.toNat, ((noByte p).2.1.drop (noByte p).1.toNat, (noByte p).2.2))
def noNumK : Nat → Int → List UInt8 × Bool → Int × (List UInt8 × Bool)
  | 0, n, p => (n, p)
  | k + 1, n, p => noNumK k (IntKind.i64.wrap (n * 256 + (noByte p).1)) (noByte p).2
def noNum (p : List UInt8 × Bool) : Int × (List UInt8 × Bool) := noNumK 8 0 p
theorem noByte_nat (p : List UInt8 × Bool) : ∃ m : Nat, m < 256 ∧ (noByte p).1 = (m : Int) := by
  unfold noByte
  cases p.1 with
  | nil => exact ⟨0, by decide, rfl⟩
  | cons x r => exact ⟨x.toNat, x.toNat_lt, rfl⟩
theorem noByte_le (p : List UInt8 × Bool) : (noByte p).2.1.length ≤ p.1.length := by
  unfold noByte
  cases hp : p.1 with
  | nil => simp
  | cons x r => simp
theorem noText_le (p : List UInt8 × Bool) : (noText p).2.1.length ≤ p.1.length := by
  have := noByte_le p
  unfold noText
  split <;> simp <;> omega
theorem noNumK_le : ∀ (k : Nat) (n : Int) (p : List UInt8 × Bool), (noNumK k n p).2.1.length ≤ p.1.length
  | 0, _, _ => Nat.le_refl _
  | k + 1, n, p => Nat.le_trans (noNumK_le k _ _) (noByte_le p)
def noItem (p : List UInt8 × Bool) : Item × (List UInt8 × Bool) :=
  (⟨(noByte p).1, (noNum (noText (noByte p).2).2).1, (noNum (noNum (noText (noByte p).2).2).2).1, (noText (noByte p).2).1⟩, (noNum (noNum (noText (noByte p).2).2).2).2)
def noItems : Nat → List UInt8 × Bool → List Item × (List UInt8 × Bool)
  | 0, p => ([], p)
  | k + 1, p => if p.2 = true then ([], p) else ((noItem p).1 :: (noItems k (noItem p).2).1, (noItems k (noItem p).2).2)
def noFace (s : List UInt8) : (List UInt8 × List Item) × (List UInt8 × Bool) :=
  let t := noText (s, false); let n := noByte t.2; let r := noItems n.1.toNat n.2
  ((t.1, r.1), r.2)
def fromF (s : List UInt8) : (List UInt8 × List Item) × Bool := if (noFace s).2.2 = true then (([], []), false) else if faceE (noFace s).1.1 (noFace s).1.2 = 0 then if faceB (noFace s).1.1 (noFace s).1.2 = s then ((noFace s).1, true) else (([], []), false) else (([], []), false)
theorem noItem_le (p : List UInt8 × Bool) : (noItem p).2.1.length ≤ p.1.length := by
  have h1 := noByte_le p
  have h2 := noText_le (noByte p).2
  have h3 := noNumK_le 8 0 (noText (noByte p).2).2
  have h4 := noNumK_le 8 0 (noNum (noText (noByte p).2).2).2
  show (noNumK 8 0 (noNum (noText (noByte p).2).2).2).2.1.length ≤ _
  unfold noNum at h4 ⊢
  omega
theorem fo103_0 : fieldOff Try.prog 103 0 = some 0 := by kernel_rfl
theorem fo103_1 : fieldOff Try.prog 103 1 = some 1 := by kernel_rfl
theorem en60 : Enters Try.prog 60 := enters_of Try.func60 (by kernel_rfl) rfl
theorem pl103 : placesP Try.prog 103 = some [(0, 1), (1, 1)] := by kernel_rfl
theorem zr103 : zeroOf Try.prog 103 = some (.agg #[st [], .bool false]) := by kernel_rfl
theorem en59 : Enters Try.prog 59 := enters_of Try.func59 (by kernel_rfl) rfl
theorem en61 : Enters Try.prog 61 := enters_of Try.func61 (by kernel_rfl) rfl
theorem en17 : Enters Try.prog 17 := enters_of Try.func17 (by kernel_rfl) rfl
theorem en18 : Enters Try.prog 18 := enters_of Try.func18 (by kernel_rfl) rfl

theorem noByte_any (bn : Nat) (p : List UInt8 × Bool) (w : World) (hs : p.1.length ≤ 9223372036854775807) (hw : Ws w [bn] [blk bn (.cells #[st (p).1, .bool (p).2] 103 (0, 0))] [] w) :
    Calls Try.prog 60 #[.pointer (some ⟨bn, 0, none⟩)] w fun e w' => e = .returned (.int .i64 (noByte p).1) ∧ Ws w [bn] [blk bn (.cells #[st ((noByte p).2).1, .bool ((noByte p).2).2] 103 (0, 0))] [] w' := by
  refine enter Try.func60 rfl 27 rfl rfl ?_
  refine WC.world (W' := Ws w [bn] [blk bn (.cells #[st (p).1, .bool (p).2] 103 (0, 0))] []) (fun _ e => by subst e; exact hw) ?_
  refine WC.seq ?_
  refine WC.region ?_
  refine WL.val (.inl rfl) rfl (yl_assign rfl) ?_
  refine WL.nil ?_
  refine WE.then_normal ?_
  refine WC.seq ?_
  refine WC.seq ?_
  refine WC.region ?_
  refine WL.val (.inl rfl) rfl (yl_move rfl) ?_
  refine WL.val (.inl rfl) rfl (yl_nil rfl) ?_
  refine WL.val (.inl rfl) rfl (yl_fa fo103_0 rfl) ?_
  refine WL.val (.inl rfl) rfl (yl_ldk 0 rfl rfl rfl na9) ?_
  refine WL.val (.inl rfl) rfl (yl_eqs rfl rfl) ?_
  refine WL.nil ?_
  refine WE.then_normal ?_
  refine WC.cond rfl (fun hc0 => ?_) (fun hc0 => ?_)
  ·
    obtain ⟨s, b⟩ := p
    obtain rfl : s = [] := by simpa using hc0
    refine WC.seq ?_
    refine WC.region ?_
    refine WL.val (.inl rfl) rfl (yl_move rfl) ?_
    refine WL.val (.inl rfl) rfl (yl_nil rfl) ?_
    refine WL.val (.inl rfl) rfl (yl_fa fo103_1 rfl) ?_
    refine WL.store 0 (.inl rfl) rfl rfl rfl sz4 rfl rfl rfl ?_
    refine WL.nil ?_
    refine WE.then_normal ?_
    refine WC.seq ?_
    refine WC.region ?_
    refine WL.val (.inl rfl) rfl (yl_assign rfl) ?_
    refine WL.nil ?_
    refine WE.then_normal ?_
    refine WC.ret ?_
    refine WE.then_ret ?_
    refine WE.ret1 rfl rfl fun w' hw => ?_
    exact ⟨rfl, hw⟩
  ·
    obtain ⟨s, b⟩ := p
    obtain ⟨x, q, rfl⟩ : ∃ x q, s = x :: q := by
      cases s with
      | nil => simp at hc0
      | cons x q => exact ⟨x, q, rfl⟩
    refine WC.skip ?_
    refine WE.then_normal ?_
    refine WC.seq ?_
    refine WC.region ?_
    refine WL.val (.inl rfl) rfl (yl_move rfl) ?_
    refine WL.val (.inl rfl) rfl (yl_nil rfl) ?_
    refine WL.val (.inl rfl) rfl (yl_fa fo103_0 rfl) ?_
    refine WL.val (.inl rfl) rfl (yl_ldk 0 rfl rfl rfl na9) ?_
    refine WL.val (.inl rfl) rfl (yl_idxk us9 rfl rfl (u := x) rfl) ?_
    refine WL.val (.inl rfl) rfl (yl_cvi ui5 ui3 rfl) ?_
    refine WL.val (.inl rfl) rfl (yl_assign rfl) ?_
    refine WL.nil ?_
    refine WE.then_normal ?_
    refine WC.seq ?_
    refine WC.region ?_
    refine WL.val (.inl rfl) rfl (yl_move rfl) ?_
    refine WL.val (.inl rfl) rfl (yl_move rfl) ?_
    refine WL.val (.inl rfl) rfl (yl_nil rfl) ?_
    refine WL.val (.inl rfl) rfl (yl_fa fo103_0 rfl) ?_
    refine WL.val (.inl rfl) rfl (yl_ldk 0 rfl rfl rfl na9) ?_
    refine WL.val (.inl rfl) rfl (yl_sst us9 rfl rfl (by decide) (by simp; omega)) ?_
    refine WL.val (.inl rfl) rfl (yl_nil rfl) ?_
    refine WL.val (.inl rfl) rfl (yl_fa fo103_0 rfl) ?_
    refine WL.store 0 (.inl rfl) rfl rfl rfl sz9 rfl rfl rfl ?_
    refine WL.nil ?_
    refine WE.then_normal ?_
    refine WC.seq ?_
    refine WC.region ?_
    refine WL.val (.inl rfl) rfl (yl_move rfl) ?_
    refine WL.val (.inl rfl) rfl (yl_assign rfl) ?_
    refine WL.nil ?_
    refine WE.then_normal ?_
    refine WC.ret ?_
    refine WE.ret1 rfl rfl fun w' hw => ?_
    refine ⟨?_, hw⟩
    rw [show IntKind.i64.wrap (x.toNat : Int) = (x.toNat : Int) from wrap_in (by have := x.toNat_lt; omega)]
    rfl

theorem noText_any (bn : Nat) (p : List UInt8 × Bool) (w : World) (hs : p.1.length ≤ 9223372036854775807) (hw : Ws w [bn] [blk bn (.cells #[st (p).1, .bool (p).2] 103 (0, 0))] [] w) :
    Calls Try.prog 59 #[.pointer (some ⟨bn, 0, none⟩)] w fun e w' => e = .returned (st (noText p).1) ∧ Ws w [bn] [blk bn (.cells #[st ((noText p).2).1, .bool ((noText p).2).2] 103 (0, 0))] [] w' := by
  refine enter Try.func59 rfl 33 rfl rfl ?_
  refine WC.world (W' := Ws w [bn] [blk bn (.cells #[st (p).1, .bool (p).2] 103 (0, 0))] []) (fun _ e => by subst e; exact hw) ?_
  refine WC.seq ?_
  refine WC.region ?_
  refine WL.val (.inl rfl) rfl (yl_assign rfl) ?_
  refine WL.nil ?_
  refine WE.then_normal ?_
  refine WC.seq ?_
  refine WC.region ?_
  refine WL.val (.inl rfl) rfl (yl_move rfl) ?_
  refine WL.front 0 rfl ?_
  refine WL.callw (ι := Unit) [_] _ (.inl rfl) rfl en60 rfl rfl (fun _ => .int .i64 (noByte p).1) (fun _ => [blk bn (.cells #[st ((noByte p).2).1, .bool ((noByte p).2).2] 103 (0, 0))]) (fun _ => True) [] (by simp) (fun w hw => (noByte_any bn p w hs hw).mono fun e w' h => ⟨(), h.1, trivial, h.2⟩) ?_
  intro _ _
  have hb := noByte_le p
  obtain ⟨m, hm, hm1⟩ := noByte_nat p
  refine WL.val (.inl rfl) rfl (yl_assign rfl) ?_
  refine WL.nil ?_
  refine WE.then_normal ?_
  refine WC.seq ?_
  refine WC.seq ?_
  refine WC.region ?_
  refine WL.val (.inl rfl) rfl (yl_move rfl) ?_
  refine WL.val (.inl rfl) rfl (yl_move rfl) ?_
  refine WL.val (.inl rfl) rfl (yl_nil rfl) ?_
  refine WL.val (.inl rfl) rfl (yl_fa fo103_0 rfl) ?_
  refine WL.val (.inl rfl) rfl (yl_ldk 0 rfl rfl rfl na9) ?_
  refine WL.val (.inl rfl) rfl (yl_lens us9 rfl) ?_
  refine WL.val (.inl rfl) rfl (yl_gt rfl rfl) ?_
  refine WL.nil ?_
  refine WE.then_normal ?_
  refine WC.cond rfl (fun hc0 => ?_) (fun hc0 => ?_)
  ·
    have hlt : ((noByte p).2.1.length : Int) < (noByte p).1 := by simpa using hc0
    refine WC.seq ?_
    refine WC.region ?_
    refine WL.val (.inl rfl) rfl (yl_move rfl) ?_
    refine WL.val (.inl rfl) rfl (yl_nil rfl) ?_
    refine WL.val (.inl rfl) rfl (yl_fa fo103_1 rfl) ?_
    refine WL.store 0 (.inl rfl) rfl rfl rfl sz4 rfl rfl rfl ?_
    refine WL.nil ?_
    refine WE.then_normal ?_
    refine WC.seq ?_
    refine WC.region ?_
    refine WL.val (.inl rfl) rfl (yl_assign rfl) ?_
    refine WL.nil ?_
    refine WE.then_normal ?_
    refine WC.ret ?_
    refine WE.then_ret ?_
    refine WE.ret1 rfl rfl fun w' hw => ?_
    have e : noText p = ([], ((noByte p).2.1, true)) := by rw [noText, if_pos hlt]
    rw [e]
    exact ⟨rfl, hw⟩
  ·
    have hlt : ¬ ((noByte p).2.1.length : Int) < (noByte p).1 := by simpa using hc0
    refine WC.skip ?_
    refine WE.then_normal ?_
    refine WC.seq ?_
    refine WC.region ?_
    refine WL.val (.inl rfl) rfl (yl_move rfl) ?_
    refine WL.val (.inl rfl) rfl (yl_nil rfl) ?_
    refine WL.val (.inl rfl) rfl (yl_fa fo103_0 rfl) ?_
    refine WL.val (.inl rfl) rfl (yl_ldk 0 rfl rfl rfl na9) ?_
    refine WL.val (.inl rfl) rfl (yl_move rfl) ?_
    refine WL.val (.inl rfl) rfl (yl_ssh us9 rfl rfl (by omega) (by omega)) ?_
    refine WL.val (.inl rfl) rfl (yl_assign rfl) ?_
    refine WL.nil ?_
    refine WE.then_normal ?_
    refine WC.seq ?_
    refine WC.region ?_
    refine WL.val (.inl rfl) rfl (yl_move rfl) ?_
    refine WL.val (.inl rfl) rfl (yl_move rfl) ?_
    refine WL.val (.inl rfl) rfl (yl_nil rfl) ?_
    refine WL.val (.inl rfl) rfl (yl_fa fo103_0 rfl) ?_
    refine WL.val (.inl rfl) rfl (yl_ldk 0 rfl rfl rfl na9) ?_
    refine WL.val (.inl rfl) rfl (yl_move rfl) ?_
    refine WL.val (.inl rfl) rfl (yl_sst us9 rfl rfl (by omega) (by omega)) ?_
    refine WL.val (.inl rfl) rfl (yl_nil rfl) ?_
    refine WL.val (.inl rfl) rfl (yl_fa fo103_0 rfl) ?_
    refine WL.store 0 (.inl rfl) rfl rfl rfl sz9 rfl rfl rfl ?_
    refine WL.nil ?_
    refine WE.then_normal ?_
    refine WC.seq ?_
    refine WC.region ?_
    refine WL.val (.inl rfl) rfl (yl_move rfl) ?_
    refine WL.val (.inl rfl) rfl (yl_assign rfl) ?_
    refine WL.nil ?_
    refine WE.then_normal ?_
    refine WC.ret ?_
    refine WE.ret1 rfl rfl fun w' hw => ?_
    have e : noText p = ((noByte p).2.1.take (noByte p).1.toNat, ((noByte p).2.1.drop (noByte p).1.toNat, (noByte p).2.2)) := by rw [noText, if_neg hlt]
    rw [e]
    exact ⟨rfl, hw⟩

theorem noNum_any (bn : Nat) (p : List UInt8 × Bool) (w : World) (hs : p.1.length ≤ 9223372036854775807) (hw : Ws w [bn] [blk bn (.cells #[st (p).1, .bool (p).2] 103 (0, 0))] [] w) :
    Calls Try.prog 61 #[.pointer (some ⟨bn, 0, none⟩)] w fun e w' => e = .returned (.int .i64 (noNum p).1) ∧ Ws w [bn] [blk bn (.cells #[st ((noNum p).2).1, .bool ((noNum p).2).2] 103 (0, 0))] [] w' := by
  refine enter Try.func61 rfl 15 rfl rfl ?_
  refine WC.world (W' := Ws w [bn] [blk bn (.cells #[st (p).1, .bool (p).2] 103 (0, 0))] []) (fun _ e => by subst e; exact hw) ?_
  refine WC.seq ?_
  refine WC.region ?_
  refine WL.val (.inl rfl) rfl (yl_assign rfl) ?_
  refine WL.nil ?_
  refine WE.then_normal ?_
  refine WC.seq ?_
  refine WC.region ?_
  refine WL.val (.inl rfl) rfl (yl_assign rfl) ?_
  refine WL.nil ?_
  refine WE.then_normal ?_
  refine WC.seq ?_
  refine WC.seq ?_
  refine WC.region ?_
  refine WL.val (.inl rfl) rfl (yl_assign rfl) ?_
  refine WL.nil ?_
  refine WE.then_normal ?_
  refine WC.block ?_
  refine WC.loopK (ι := Nat × Int × (List UInt8 × Bool)) (fun g => [(4, .int .i64 (g.1 : Int)), (3, .int .i64 g.2.1)]) [(0, _), (2, _)] (fun g => Ws w [bn] [blk bn (.cells #[st (g.2.2).1, .bool (g.2.2).2] 103 (0, 0))] []) (fun g => g.1 ≤ 8 ∧ g.2.2.1.length ≤ 9223372036854775807 ∧ noNum p = noNumK (8 - g.1) g.2.1 g.2.2) (fun g => 8 - g.1) (0, 0, p) ⟨Nat.zero_le _, hs, rfl⟩ (sc rfl (sc rfl (sc rfl (sc rfl sn)))) (fun _ h => h) ?_
  intro g ⟨hi, hgs, hG⟩
  refine WC.seq ?_
  refine WC.seq ?_
  refine WC.region ?_
  refine WL.val (.inl rfl) rfl (yl_move rfl) ?_
  refine WL.val (.inl rfl) rfl (yl_lt rfl rfl) ?_
  refine WL.nil ?_
  refine WE.then_normal ?_
  refine WC.cond rfl (fun hc0 => ?_) (fun hc0 => ?_)
  ·
    have hlt : g.1 < 8 := by simp at hc0; omega
    obtain ⟨m, hm, hm1⟩ := noByte_nat g.2.2
    refine WC.skip ?_
    refine WE.then_normal ?_
    refine WC.seq ?_
    refine WC.block ?_
    refine WC.region ?_
    refine WL.val (.inl rfl) rfl (yl_move rfl) ?_
    refine WL.val (.inl rfl) rfl (yl_shlk 8 rfl rfl (by decide)) ?_
    refine WL.val (.inl rfl) rfl (yl_move rfl) ?_
    refine WL.front 0 rfl ?_
    refine WL.callw (ι := Unit) [_] _ (.inl rfl) rfl en60 rfl rfl (fun _ => .int .i64 (noByte g.2.2).1) (fun _ => [blk bn (.cells #[st ((noByte g.2.2).2).1, .bool ((noByte g.2.2).2).2] 103 (0, 0))]) (fun _ => True) [] (by simp) (fun w hw => (noByte_any bn g.2.2 w hgs hw).mono fun e w' h => ⟨(), h.1, trivial, h.2⟩) ?_
    intro _ _
    refine WL.val (.inl rfl) rfl (yl_or8 (n := g.2.1) (b := m) rfl (by rw [← hm1]; rfl) hm) ?_
    refine WL.val (.inl rfl) rfl (yl_assign rfl) ?_
    refine WL.nil ?_
    refine WE.block_normal ?_
    refine WE.then_normal ?_
    refine WC.region ?_
    refine WL.val (.inl rfl) rfl (yl_move rfl) ?_
    refine WL.val (.inl rfl) rfl (yl_inc rfl rfl rfl (by omega)) ?_
    refine WL.val (.inl rfl) rfl (yl_assign rfl) ?_
    refine WL.nil ?_
    exact WE.again ((g.1 + 1, IntKind.i64.wrap (g.2.1 * 256 + m), (noByte g.2.2).2) : Nat × Int × (List UInt8 × Bool)) (by first | omega | (dsimp only; omega)) ⟨by first | omega | (dsimp only; omega), by have := noByte_le g.2.2; dsimp only; omega, by
        obtain ⟨k, hk⟩ : ∃ k, 8 - g.1 = k + 1 := ⟨8 - g.1 - 1, by omega⟩
        rw [hG, hk, show 8 - (g.1 + 1) = k by omega, ← hm1]; rfl⟩ (sc rfl (sc rfl (sc rfl (sc rfl sn)))) (fun _ h => h)
  ·
    have hie : g.1 = 8 := by simp at hc0; omega
    refine WC.exit ?_
    refine WE.then_exit ?_
    refine WE.then_exit ?_
    refine WE.block_hit ?_
    refine WE.then_normal ?_
    refine WC.seq ?_
    refine WC.region ?_
    refine WL.val (.inl rfl) rfl (yl_move rfl) ?_
    refine WL.val (.inl rfl) rfl (yl_assign rfl) ?_
    refine WL.nil ?_
    refine WE.then_normal ?_
    refine WC.ret ?_
    refine WE.ret1 rfl rfl fun w' hw => ?_
    rw [hie] at hG
    rw [hG]
    exact ⟨rfl, hw⟩

theorem faceFrom_any (s : List UInt8) (w : World) (hs : s.length ≤ 9223372036854775807) :
    Calls Try.prog 22 #[st s] w fun e w' => ∃ (a : Option Addr) (c : Nat), e = .returned (.tuple #[.agg #[st (fromF s).1.1, .slice a (fromF s).1.2.length c], .bool (fromF s).2]) ∧ Ws w [] [osT 88 4 Item.cells a c ((fromF s).1.2)] [] w' := by
  refine enter Try.func22 rfl 62 rfl rfl ?_
  refine WC.world (W' := Ws w [] [] []) (fun _ e => by subst e; exact Ws.init (by simp)) ?_
  refine WC.seq ?_
  refine WC.region ?_
  refine WL.alloc (.inl rfl) rfl zr39 fun b2 => ?_
  refine WL.val (.inl rfl) rfl (yl_assign rfl) ?_
  refine WL.nil ?_
  refine WE.then_normal ?_
  refine WC.seq ?_
  refine WC.region ?_
  refine WL.val (.inl rfl) rfl (yl_move rfl) ?_
  refine WL.val (.inl rfl) rfl (yl_build zr103 pl103 rfl rfl) ?_
  refine WL.box (.inl rfl) rfl rfl fun b10 => ?_
  refine WL.val (.inl rfl) rfl (yl_assign rfl) ?_
  refine WL.nil ?_
  refine WE.then_normal ?_
  refine WC.seq ?_
  refine WC.region ?_
  refine WL.val (.inl rfl) rfl (yl_move rfl) ?_
  refine WL.front 0 rfl ?_
  refine WL.callw (ι := Unit) [_] _ (.inl rfl) rfl en59 rfl rfl (fun _ => st (noText (s, false)).1) (fun _ => [blk b10 (.cells #[st ((noText (s, false)).2).1, .bool ((noText (s, false)).2).2] 103 (0, 0))]) (fun _ => True) [] (by simp) (fun w hw => (noText_any b10 (s, false) w hs hw).mono fun e w' h => ⟨(), h.1, trivial, h.2⟩) ?_
  intro _ _
  refine WL.val (.inl rfl) rfl (yl_build zr39 pl39 rfl rfl) ?_
  refine WL.alloc (.inl rfl) rfl zr39 fun b5 => ?_
  refine WL.world (fun _ h => h.osl_nil 88 4) ?_
  refine WL.store 1 (.inl rfl) rfl rfl rfl sz39 rfl rfl rfl ?_
  refine WL.nil ?_
  refine WE.then_normal ?_
  refine WC.seq ?_
  refine WC.seq ?_
  refine WC.region ?_
  refine WL.val (.inl rfl) rfl (yl_move rfl) ?_
  refine WL.front 2 rfl ?_
  refine WL.callw (ι := Unit) [_] _ (.inl rfl) rfl en60 rfl rfl (fun _ => .int .i64 (noByte (noText (s, false)).2).1) (fun _ => [blk b10 (.cells #[st ((noByte (noText (s, false)).2).2).1, .bool ((noByte (noText (s, false)).2).2).2] 103 (0, 0))]) (fun _ => True) [] (by simp) (fun w hw => (noByte_any b10 (noText (s, false)).2 w (by have := noText_le (s, false); simp at this; omega) hw).mono fun e w' h => ⟨(), h.1, trivial, h.2⟩) ?_
  intro _ _
  obtain ⟨cnt, hcnt, hcnt1⟩ := noByte_nat (noText (s, false)).2
  have hl9 : (noByte (noText (s, false)).2).2.1.length ≤ 9223372036854775807 := by have h1 := noText_le (s, false); have h2 := noByte_le (noText (s, false)).2; simp at h1; omega
  rw [hcnt1]
  refine WL.val (.inl rfl) rfl (yl_assign rfl) ?_
  refine WL.nil ?_
  refine WE.then_normal ?_
  refine WC.block ?_
  refine WC.loopK (ι := Nat × List Item × (List UInt8 × Bool) × Option Addr × Nat) (fun g => [(6, .int .i64 (g.1 : Int))]) [(0, _), (2, _), (3, _), (4, _), (5, _)] (fun g => Ws w [] [blk b10 (.cells #[st (g.2.2.1).1, .bool (g.2.2.1).2] 103 (0, 0)), osT 88 4 Item.cells g.2.2.2.1 g.2.2.2.2 (g.2.1), blk b5 (.cells #[st (noText (s, false)).1, .slice g.2.2.2.1 (g.2.1).length g.2.2.2.2] 39 (0, 0)), blk b2 (.cells #[st [], .slice none (([] : List Item)).length 0] 39 (0, 0))] []) (fun g => g.1 + g.2.1.length ≤ cnt ∧ g.2.2.1.1.length ≤ 9223372036854775807 ∧ noItems cnt (noByte (noText (s, false)).2).2 = (g.2.1 ++ (noItems g.1 g.2.2.1).1, (noItems g.1 g.2.2.1).2)) (fun g => g.1) (cnt, [], (noByte (noText (s, false)).2).2, none, 0) ⟨by simp, hl9, by simp⟩ (sc rfl (sc rfl (sc rfl (sc rfl (sc rfl (sc rfl sn)))))) (fun _ h => h) ?_
  intro g ⟨hi, hgs, hG⟩
  refine WC.seq ?_
  refine WC.seq ?_
  refine WC.region ?_
  refine WL.val (.inl rfl) rfl (yl_move rfl) ?_
  refine WL.val (.inl rfl) rfl (yl_gt rfl rfl) ?_
  refine WL.val (.inl rfl) rfl (yl_move rfl) ?_
  apply WL.and 5 rfl rfl rfl rfl (.inl rfl) rfl rfl rfl rfl rfl
  ·
    intro hg0
    refine WL.val (.inr ⟨_, _, _, rfl, rfl, rfl⟩) rfl (yl_move rfl) ?_
    refine WL.val (.inr ⟨_, _, _, rfl, rfl, rfl⟩) rfl (yl_nil rfl) ?_
    refine WL.val (.inr ⟨_, _, _, rfl, rfl, rfl⟩) rfl (yl_fa fo103_1 rfl) ?_
    refine WL.val (.inr ⟨_, _, _, rfl, rfl, rfl⟩) rfl (yl_ldk 0 rfl rfl rfl na4) ?_
    refine WL.val (.inr ⟨_, _, _, rfl, rfl, rfl⟩) rfl (yl_not rfl) ?_
    exact Got.intro 5 rfl rfl rfl
  refine WL.nil ?_
  refine WE.then_normal ?_
  refine WC.cond rfl (fun hc0 => ?_) (fun hc0 => ?_)
  ·
    simp only [Bool.and_eq_true, decide_eq_true_eq, Bool.not_eq_true'] at hc0
    obtain ⟨hc01, hc02⟩ := hc0
    obtain ⟨m, hm⟩ : ∃ m, g.1 = m + 1 := ⟨g.1 - 1, by omega⟩
    have hac : g.2.1.length + m < cnt := by omega
    refine WC.skip ?_
    refine WE.then_normal ?_
    refine WC.seq ?_
    refine WC.block ?_
    refine WC.seq ?_
    refine WC.region ?_
    refine WL.val (.inl rfl) rfl (yl_move rfl) ?_
    refine WL.front 0 rfl ?_
    refine WL.callw (ι := Unit) [_] _ (.inl rfl) rfl en60 rfl rfl (fun _ => .int .i64 (noByte g.2.2.1).1) (fun _ => [blk b10 (.cells #[st ((noByte g.2.2.1).2).1, .bool ((noByte g.2.2.1).2).2] 103 (0, 0))]) (fun _ => True) [] (by simp) (fun w hw => (noByte_any b10 g.2.2.1 w hgs hw).mono fun e w' h => ⟨(), h.1, trivial, h.2⟩) ?_
    intro _ _
    refine WL.val (.inl rfl) rfl (yl_build zr88 pl88 rfl rfl) ?_
    refine WL.alloc (.inl rfl) rfl zr88 fun b7 => ?_
    refine WL.store 0 (.inl rfl) rfl rfl rfl sz88 rfl rfl rfl ?_
    refine WL.nil ?_
    refine WE.then_normal ?_
    refine WC.seq ?_
    refine WC.region ?_
    refine WL.val (.inl rfl) rfl (yl_move rfl) ?_
    refine WL.front 1 rfl ?_
    refine WL.callw (ι := Unit) [_] _ (.inl rfl) rfl en59 rfl rfl (fun _ => st (noText (noByte g.2.2.1).2).1) (fun _ => [blk b10 (.cells #[st ((noText (noByte g.2.2.1).2).2).1, .bool ((noText (noByte g.2.2.1).2).2).2] 103 (0, 0))]) (fun _ => True) [] (by simp) (fun w hw => (noText_any b10 (noByte g.2.2.1).2 w (by have := noByte_le g.2.2.1; omega) hw).mono fun e w' h => ⟨(), h.1, trivial, h.2⟩) ?_
    intro _ _
    refine WL.val (.inl rfl) rfl (yl_fa fo88_3 rfl) ?_
    refine WL.store 1 (.inl rfl) rfl rfl rfl sz9 rfl rfl rfl ?_
    refine WL.nil ?_
    refine WE.then_normal ?_
    refine WC.seq ?_
    refine WC.region ?_
    refine WL.val (.inl rfl) rfl (yl_move rfl) ?_
    refine WL.front 0 rfl ?_
    refine WL.callw (ι := Unit) [_] _ (.inl rfl) rfl en61 rfl rfl (fun _ => .int .i64 (noNum (noText (noByte g.2.2.1).2).2).1) (fun _ => [blk b10 (.cells #[st ((noNum (noText (noByte g.2.2.1).2).2).2).1, .bool ((noNum (noText (noByte g.2.2.1).2).2).2).2] 103 (0, 0))]) (fun _ => True) [] (by simp) (fun w hw => (noNum_any b10 (noText (noByte g.2.2.1).2).2 w (by have := noByte_le g.2.2.1; have := noText_le (noByte g.2.2.1).2; omega) hw).mono fun e w' h => ⟨(), h.1, trivial, h.2⟩) ?_
    intro _ _
    refine WL.val (.inl rfl) rfl (yl_fa fo88_1 rfl) ?_
    refine WL.store 1 (.inl rfl) rfl rfl rfl sz3 rfl rfl rfl ?_
    refine WL.nil ?_
    refine WE.then_normal ?_
    refine WC.seq ?_
    refine WC.region ?_
    refine WL.val (.inl rfl) rfl (yl_move rfl) ?_
    refine WL.front 0 rfl ?_
    refine WL.callw (ι := Unit) [_] _ (.inl rfl) rfl en61 rfl rfl (fun _ => .int .i64 (noNum (noNum (noText (noByte g.2.2.1).2).2).2).1) (fun _ => [blk b10 (.cells #[st ((noNum (noNum (noText (noByte g.2.2.1).2).2).2).2).1, .bool ((noNum (noNum (noText (noByte g.2.2.1).2).2).2).2).2] 103 (0, 0))]) (fun _ => True) [] (by simp) (fun w hw => (noNum_any b10 (noNum (noText (noByte g.2.2.1).2).2).2 w (by have := noByte_le g.2.2.1; have := noText_le (noByte g.2.2.1).2; have := noNumK_le 8 0 (noText (noByte g.2.2.1).2).2; unfold noNum; omega) hw).mono fun e w' h => ⟨(), h.1, trivial, h.2⟩) ?_
    intro _ _
    refine WL.val (.inl rfl) rfl (yl_fa fo88_2 rfl) ?_
    refine WL.store 1 (.inl rfl) rfl rfl rfl sz3 rfl rfl rfl ?_
    refine WL.nil ?_
    refine WE.then_normal ?_
    refine WC.region ?_
    refine WL.val (.inl rfl) rfl (yl_fa fo39_1 rfl) ?_
    refine WL.val (.inl rfl) rfl (yl_ldk 3 rfl rfl rfl na37) ?_
    refine WL.val (.inl rfl) rfl (yl_ldka 1 rfl rfl ag88 rfl) ?_
    refine WL.bsliceF (.inl rfl) rfl el37 rfl rfl rfl rfl fun b42 => ?_
    refine WL.reblk 0 (.cells (Item.cells (noItem g.2.2.1).1).toArray 88 (0, 0)) rfl rfl ?_
    refine WL.appT (noItem g.2.2.1).1 3 0 (.inl rfl) rfl el37 rfl rfl rfl rfl rfl rfl (by omega) (by omega) fun a43 c43 => ?_
    refine WL.val (.inl rfl) rfl (yl_fa fo39_1 rfl) ?_
    refine WL.store 4 (.inl rfl) rfl rfl rfl sz37 rfl rfl rfl ?_
    refine WL.nil ?_
    refine WE.block_normal ?_
    refine WE.then_normal ?_
    refine WC.region ?_
    refine WL.val (.inl rfl) rfl (yl_move rfl) ?_
    refine WL.val (.inl rfl) rfl (yl_subv (((g.1 : Nat) : Int) - 1) rfl rfl rfl (by omega)) ?_
    refine WL.val (.inl rfl) rfl (yl_assign rfl) ?_
    refine WL.nil ?_
    rw [show (((g.1 : Nat) : Int) - 1) = ((g.1 - 1 : Nat) : Int) by omega]
    exact WE.again ((g.1 - 1, g.2.1 ++ [(noItem g.2.2.1).1], (noItem g.2.2.1).2, a43, c43) : Nat × List Item × (List UInt8 × Bool) × Option Addr × Nat) (by dsimp only; omega) ⟨by simp; omega, by have := noItem_le g.2.2.1; dsimp only; omega, by
        dsimp only
        rw [hG, hm, Nat.add_sub_cancel]
        simp [noItems, hc02]⟩ (sc rfl (sc rfl (sc rfl (sc rfl (sc rfl (sc rfl sn)))))) (fun _ h => by
      have h := Ws.out 0 h
      have h := Ws.out 1 h
      exact h)
  ·
    have hF : noFace s = (((noText (s, false)).1, g.2.1), g.2.2.1) := by
      have h0 : noItems g.1 g.2.2.1 = ([], g.2.2.1) := by
        cases hg1 : g.1 with
        | zero => rfl
        | succ m =>
          rw [hg1] at hc0
          have hb : g.2.2.1.2 = true := by simpa using hc0
          simp [noItems, hb]
      simp only [noFace, hcnt1, Int.toNat_natCast, hG, h0, List.append_nil]
    refine WC.exit ?_
    refine WE.then_exit ?_
    refine WE.then_exit ?_
    refine WE.block_hit ?_
    refine WE.then_normal ?_
    refine WC.seq ?_
    refine WC.seq ?_
    refine WC.region ?_
    refine WL.val (.inl rfl) rfl (yl_move rfl) ?_
    refine WL.val (.inl rfl) rfl (yl_nil rfl) ?_
    refine WL.val (.inl rfl) rfl (yl_fa fo103_1 rfl) ?_
    refine WL.val (.inl rfl) rfl (yl_ldk 0 rfl rfl rfl na4) ?_
    refine WL.val (.inl rfl) rfl (yl_move rfl) ?_
    apply WL.or 3 rfl rfl rfl rfl (.inl rfl) rfl rfl rfl rfl rfl
    ·
      intro hg1
      refine WL.val (.inr ⟨_, _, _, rfl, rfl, rfl⟩) rfl (yl_ldka 2 rfl rfl ag39 rfl) ?_
      refine WL.callp (.inr ⟨_, _, _, rfl, rfl, rfl⟩) rfl en17 rfl (fun w hw => checkFace_any (hv w) _ _ _ _ w (hv_le w) (hw.slTh 1 rfl (fun _ => rfl) (fun _ _ _ _ h => h))) ?_
      refine WL.val (.inr ⟨_, _, _, rfl, rfl, rfl⟩) rfl (yl_ne rfl rfl) ?_
      exact Got.intro 3 rfl rfl rfl
    refine WL.val (.inl rfl) rfl (yl_move rfl) ?_
    apply WL.or 4 rfl rfl rfl rfl (.inl rfl) rfl rfl rfl rfl rfl
    ·
      intro hg2
      have hok := faceE_ok (name := (noText (s, false)).1) (items := g.2.1) (by simpa using (Bool.or_eq_false_iff.1 hg2).2)
      refine WL.val (.inr ⟨_, _, _, rfl, rfl, rfl⟩) rfl (yl_ldka 2 rfl rfl ag39 rfl) ?_
      refine WL.callp (.inr ⟨_, _, _, rfl, rfl, rfl⟩) rfl en18 rfl (fun w hw => faceBytes_any (hv w) _ _ _ _ w (hv_le w) (hw.slTh 1 rfl (fun _ => rfl) (fun _ _ _ _ h => h)) hok.2.1 hok.1 hok.2.2) ?_
      refine WL.val (.inr ⟨_, _, _, rfl, rfl, rfl⟩) rfl (yl_move rfl) ?_
      refine WL.val (.inr ⟨_, _, _, rfl, rfl, rfl⟩) rfl (yl_nes rfl rfl) ?_
      exact Got.intro 4 rfl rfl rfl
    refine WL.nil ?_
    refine WE.then_normal ?_
    refine WC.cond rfl (fun hc1 => ?_) (fun hc1 => ?_)
    ·
      have hR : fromF s = (([], []), false) := by
        unfold fromF
        rw [hF]
        by_cases h1 : g.2.2.1.2 = true
        · simp [h1]
        · by_cases h2 : faceE (noText (s, false)).1 g.2.1 = 0
          · by_cases h3 : faceB (noText (s, false)).1 g.2.1 = s
            · simp [h1, h2, h3] at hc1
            · simp [h1, h2, h3]
          · simp [h1, h2]
      refine WC.seq ?_
      refine WC.region ?_
      refine WL.val (.inl rfl) rfl (yl_build zr39 pl39 rfl rfl) ?_
      refine WL.store 3 (.inl rfl) rfl rfl rfl sz39 rfl rfl rfl ?_
      refine WL.val (.inl rfl) rfl (yl_assign rfl) ?_
      refine WL.nil ?_
      refine WE.then_normal ?_
      refine WC.ret ?_
      refine WE.then_ret ?_
      refine WE.retR (rs_2 rfl (rv_agg 3 rfl rfl ag39 rfl) (rv_tmp rfl)) fun w' hw => ?_
      rw [hR]
      exact ⟨none, 0, rfl, by
          have h := Ws.drop (L := [_, _, _, _]) (L' := []) hw
          exact h.osl_nil 88 4⟩
    ·
      have hR : fromF s = (((noText (s, false)).1, g.2.1), true) := by
        unfold fromF
        rw [hF]
        simp at hc1
        simp [hc1.1.1, hc1.1.2, hc1.2]
      refine WC.skip ?_
      refine WE.then_normal ?_
      refine WC.seq ?_
      refine WC.region ?_
      refine WL.val (.inl rfl) rfl (yl_ldka 2 rfl rfl ag39 rfl) ?_
      refine WL.store 3 (.inl rfl) rfl rfl rfl sz39 rfl rfl rfl ?_
      refine WL.val (.inl rfl) rfl (yl_assign rfl) ?_
      refine WL.nil ?_
      refine WE.then_normal ?_
      refine WC.ret ?_
      refine WE.retR (rs_2 rfl (rv_agg 3 rfl rfl ag39 rfl) (rv_tmp rfl)) fun w' hw => ?_
      rw [hR]
      exact ⟨g.2.2.2.1, g.2.2.2.2, rfl, Ws.keep (L := [_]) (Ws.out 0 hw)⟩

end Go.Proofs.Ytagoencpeflmlaa
