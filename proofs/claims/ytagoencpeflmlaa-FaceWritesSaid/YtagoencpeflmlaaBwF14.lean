/- Walks of the functions of this claim, and plain laws on what they compute; each theorem tells its own conditions. -/
import Derived.Test.YtagoencpeflmlaaRows
import Derived.Test.YtagoencpeflmlaaBwF13
namespace Go.Proofs.Ytagoencpeflmlaa
open Go.Bw
set_option linter.unusedVariables false
set_option linter.unusedSimpArgs false

def readF (s : List UInt8) : (List UInt8 × List Item) × Int := if 32768 < s.length then (([], []), 2) else match readR s with | some f => if faceE f.1 f.2 = 0 then (f, 0) else (([], []), 1) | none => (([], []), 1)
theorem en53 : Enters Try.prog 53 := enters_of Try.func53 (by kernel_rfl) rfl

theorem faceRead_any (s : List UInt8) (w : World) (hs : s.length ≤ 9223372036854775807) :
    Calls Try.prog 19 #[st s] w fun e w' => ∃ (a : Option Addr) (c : Nat), e = .returned (.tuple #[.agg #[st (readF s).1.1, .slice a (readF s).1.2.length c], .int .i64 (readF s).2]) ∧ Ws w [] [osT 88 4 Item.cells a c ((readF s).1.2)] [] w' := by
  refine enter Try.func19 rfl 24 rfl rfl ?_
  refine WC.world (W' := Ws w [] [] []) (fun _ e => by subst e; exact Ws.init (by simp)) ?_
  refine WC.seq ?_
  refine WC.region ?_
  refine WL.alloc (.inl rfl) rfl zr39 fun b2 => ?_
  refine WL.val (.inl rfl) rfl (yl_assign rfl) ?_
  refine WL.nil ?_
  refine WE.then_normal ?_
  refine WC.seq ?_
  refine WC.seq ?_
  refine WC.region ?_
  refine WL.val (.inl rfl) rfl (yl_move rfl) ?_
  refine WL.val (.inl rfl) rfl (yl_lens us9 rfl) ?_
  refine WL.val (.inl rfl) rfl (yl_gt rfl rfl) ?_
  refine WL.nil ?_
  refine WE.then_normal ?_
  refine WC.cond rfl (fun hc0 => ?_) (fun hc0 => ?_)
  ·
    have hl : 32768 < s.length := by simp at hc0; omega
    refine WC.seq ?_
    refine WC.region ?_
    refine WL.val (.inl rfl) rfl (yl_build zr39 pl39 rfl rfl) ?_
    refine WL.store 0 (.inl rfl) rfl rfl rfl sz39 rfl rfl rfl ?_
    refine WL.val (.inl rfl) rfl (yl_assign rfl) ?_
    refine WL.nil ?_
    refine WE.then_normal ?_
    refine WC.ret ?_
    refine WE.then_ret ?_
    refine WE.retR (rs_2 rfl (rv_agg 0 rfl rfl ag39 rfl) (rv_tmp rfl)) fun w' hw => ?_
    have hR : readF s = (([], []), 2) := by rw [readF, if_pos hl]
    rw [hR]
    exact ⟨none, 0, rfl, by
        have h := Ws.drop (L := [_]) (L' := []) hw
        exact h.osl_nil 88 4⟩
  ·
    have hl : ¬ 32768 < s.length := by simp at hc0; omega
    refine WC.skip ?_
    refine WE.then_normal ?_
    refine WC.seq ?_
    refine WC.region ?_
    refine WL.val (.inl rfl) rfl (yl_move rfl) ?_
    refine WL.callw (ι := (List UInt8 × List Item) × Bool × Option Addr × Nat) [] _ (.inl rfl) rfl en53 rfl rfl (fun r => .tuple #[.agg #[st r.1.1, .slice r.2.2.1 r.1.2.length r.2.2.2], .bool r.2.1]) (fun r => [osT 88 4 Item.cells r.2.2.1 r.2.2.2 (r.1.2)]) (fun r => (r.2.1 = true → readR s = some r.1) ∧ (r.2.1 = false → readR s = none)) [] (by simp) (fun w hw => (bytesRead_any s w hs).mono fun e w' ⟨f, ok, a, c, h1, h2, h3, h4⟩ => ⟨(f, ok, a, c), h1, ⟨h2, h3⟩, h4⟩) ?_
    intro r hr
    refine WL.val (.inl rfl) rfl (yl_move rfl) ?_
    refine WL.val (.inl rfl) rfl (yl_extract rfl rfl) ?_
    refine WL.val (.inl rfl) rfl (yl_extract rfl rfl) ?_
    refine WL.alloc (.inl rfl) rfl zr39 fun b4 => ?_
    refine WL.store 0 (.inl rfl) rfl rfl rfl sz39 rfl rfl rfl ?_
    refine WL.val (.inl rfl) rfl (yl_assign rfl) ?_
    refine WL.nil ?_
    refine WE.then_normal ?_
    refine WC.seq ?_
    refine WC.seq ?_
    refine WC.region ?_
    refine WL.val (.inl rfl) rfl (yl_move rfl) ?_
    refine WL.val (.inl rfl) rfl (yl_not rfl) ?_
    refine WL.val (.inl rfl) rfl (yl_move rfl) ?_
    apply WL.or 3 rfl rfl rfl rfl (.inl rfl) rfl rfl rfl rfl rfl
    ·
      intro hg0
      refine WL.val (.inr ⟨_, _, _, rfl, rfl, rfl⟩) rfl (yl_ldka 0 rfl rfl ag39 rfl) ?_
      refine WL.callp (.inr ⟨_, _, _, rfl, rfl, rfl⟩) rfl en44 rfl (fun w hw => scopeCheck_any (hv w) _ _ _ _ w (hv_le w) (hw.slTh 1 rfl (fun _ => rfl) (fun _ _ _ _ h => h))) ?_
      refine WL.val (.inr ⟨_, _, _, rfl, rfl, rfl⟩) rfl (yl_ne rfl rfl) ?_
      exact Got.intro 3 rfl rfl rfl
    refine WL.nil ?_
    refine WE.then_normal ?_
    refine WC.cond rfl (fun hc1 => ?_) (fun hc1 => ?_)
    ·
      have hR : readF s = (([], []), 1) := by
        unfold readF
        rw [if_neg hl]
        cases hok : r.2.1 with
        | false => rw [hr.2 hok]
        | true =>
          rw [hr.1 hok]
          have : ¬ faceE r.1.1 r.1.2 = 0 := by simpa [hok] using hc1
          simp [this]
      refine WC.seq ?_
      refine WC.region ?_
      refine WL.val (.inl rfl) rfl (yl_build zr39 pl39 rfl rfl) ?_
      refine WL.store 2 (.inl rfl) rfl rfl rfl sz39 rfl rfl rfl ?_
      refine WL.val (.inl rfl) rfl (yl_assign rfl) ?_
      refine WL.nil ?_
      refine WE.then_normal ?_
      refine WC.ret ?_
      refine WE.then_ret ?_
      refine WE.retR (rs_2 rfl (rv_agg 2 rfl rfl ag39 rfl) (rv_tmp rfl)) fun w' hw => ?_
      rw [hR]
      exact ⟨none, 0, rfl, by
          have h := Ws.drop (L := [_, _, _]) (L' := []) hw
          exact h.osl_nil 88 4⟩
    ·
      have hR : readF s = (r.1, 0) := by
        unfold readF
        rw [if_neg hl]
        simp at hc1
        rw [hr.1 hc1.1]
        simp [hc1.2]
      refine WC.skip ?_
      refine WE.then_normal ?_
      refine WC.seq ?_
      refine WC.region ?_
      refine WL.val (.inl rfl) rfl (yl_ldka 0 rfl rfl ag39 rfl) ?_
      refine WL.store 2 (.inl rfl) rfl rfl rfl sz39 rfl rfl rfl ?_
      refine WL.val (.inl rfl) rfl (yl_assign rfl) ?_
      refine WL.nil ?_
      refine WE.then_normal ?_
      refine WC.ret ?_
      refine WE.retR (rs_2 rfl (rv_agg 2 rfl rfl ag39 rfl) (rv_tmp rfl)) fun w' hw => ?_
      rw [hR]
      exact ⟨r.2.2.1, r.2.2.2, rfl, Ws.keep (L := [_]) (Ws.out 0 hw)⟩

end Go.Proofs.Ytagoencpeflmlaa
