/- Walks of the machine that the compiler hands over, and plain laws on what they compute; each theorem tells its own conditions. -/
import Derived.Test.YtagoencpeflmlaaRows
import Derived.Test.YtagoencpeflmlaaBwM1
namespace Go.Proofs.Ytagoencpeflmlaa
open Go.Bw
set_option linter.unusedVariables false
set_option linter.unusedSimpArgs false

def rdI (H : View) (b o : Nat) (x : Int) : Prop := vc H b o = some (.int .i64 x)
theorem rdI_of (H : View) (b o : Nat) (x : Int) (h : RdC H b o (iv x)) : rdI H b o x := h 0 _ rfl
theorem MFr.cells_len (f : MFr) : f.cells.length = 2 := rfl
structure MSt.good (HI : View) (s : MSt) : Prop where
  inp : Sl rdI 1 HI s.ia s.ic s.inp
  stk : s.stack.length ≤ 2048
  frs : 1 ≤ s.frames.length ∧ s.frames.length ≤ 25
  out : s.out.length ≤ 200
  dat : s.data.length ≤ 512
abbrev MSt.wst (s : MSt) (r : List Int) : MSt := { s with stack := r }
theorem MSt.good.stack {HI : View} {s : MSt} (h : s.good HI) {r : List Int} {sa : Option Addr} {sc : Nat} (hl : r.length ≤ 2048) : MSt.good HI { s with stack := r, sa := sa, sc := sc } := ⟨h.inp, hl, h.frs, h.out, h.dat⟩
theorem es50 : elemSz Try.prog 50 = some 1 := by kernel_rfl
theorem fo108_3 : fieldOff Try.prog 108 3 = some 3 := by kernel_rfl
theorem na50 : nonAgg Try.prog 50 = true := by kernel_rfl
theorem en64 : Enters Try.prog 64 := enters_of Try.func64 (by kernel_rfl) rfl
theorem sz50 : sizeP Try.prog 50 = some 1 := by kernel_rfl
theorem el50 : EltOk Try.prog 50 3 (.int .i64 0) 1 8 := eltOk_of (by kernel_rfl)

theorem top_any (bm : Nat) (s : MSt) (HI : View)  (w : World) (hg : s.good HI) (hw : Ws w ((MSt.own bm s).flatMap Asr.ids) (MSt.own bm s) [HI] w) :
    Calls Try.prog 86 #[.pointer (some ⟨bm, 0, none⟩)] w fun e w' => (∃ r : Int × List Int, e = .returned (.int .i64 r.1) ∧ (topM s.pu = .ok r.1 (MSt.wst s r.2).pu ∧ (MSt.wst s r.2).good HI) ∧ Ws w ((MSt.own bm s).flatMap Asr.ids) (MSt.own bm (MSt.wst s r.2)) [HI] w') ∨ (∃ r : Int × MSt, e = .panicked (ovr r.1) ∧ topM s.pu = .ov r.1 r.2.pu ∧ Ws w ((MSt.own bm s).flatMap Asr.ids) (MSt.own bm r.2) [HI] w') := by
  have hlr : s.stack.reverse.length = s.stack.length := by simp
  have hfr : s.frames.reverse.length = s.frames.length := by simp
  have hgs := hg.stk
  have hgf := hg.frs
  have hgo := hg.out
  have hgd := hg.dat
  refine enter Try.func86 rfl 38 rfl rfl ?_
  refine WC.world (W' := Ws w ((MSt.own bm s).flatMap Asr.ids) (MSt.own bm s) [HI]) (fun _ e => by subst e; exact hw) ?_
  refine WC.seq ?_
  refine WC.region ?_
  refine WL.val (.inl rfl) rfl (yl_assign rfl) ?_
  refine WL.nil ?_
  refine WE.then_normal ?_
  refine WC.seq ?_
  refine WC.region ?_
  refine WL.val (.inl rfl) rfl (yl_move rfl) ?_
  refine WL.val (.inl rfl) rfl (yl_nil rfl) ?_
  refine WL.val (.inl rfl) rfl (yl_fa fo108_3 rfl) ?_
  refine WL.val (.inl rfl) rfl (yl_ldk 0 rfl rfl rfl na50) ?_
  refine WL.val (.inl rfl) rfl (yl_len es50 rfl) ?_
  refine WL.val (.inl rfl) rfl (yl_eq rfl rfl) ?_
  refine WL.callwx (ι := Unit) (κ := Unit) [] _ (.inl rfl) rfl en64 rfl rfl (fun _ => .tuple #[]) (fun _ => []) (fun _ => (((s.stack.reverse.length : Nat) : Int) == 0) = false) (fun _ => ovr 6) (fun _ => []) (fun _ => (((s.stack.reverse.length : Nat) : Int) == 0) = true) ([]) (by simp) (fun w hw => (stop_any _ 6 w).mono fun e w' h => by
      rcases h with ⟨_, h1, h2, h3⟩ | ⟨_, h1, h2, h3⟩
      · exact .inl ⟨(), h1, h2, hw.ext h3⟩
      · exact .inr ⟨(), h1, h2, hw.ext h3⟩) ?_ ?_
  ·
    intro _ hn10
    refine WE.then_panic ?_
    refine WE.panics fun w' hw => ?_
    refine .inr ⟨(6, s), rfl, ?_, hw⟩
    have hst : s.stack = [] := by
      cases h : s.stack with
      | nil => rfl
      | cons x r =>
        rw [hlr, h] at hn10
        simp at hn10
        omega
    unfold topM
    rw [show s.pu.stack = [] from hst]
  intro _ hn10
  refine WL.nil ?_
  refine WE.then_normal ?_
  refine WC.seq ?_
  obtain ⟨x, r, hst⟩ : ∃ x r, s.stack = x :: r := by
    cases h : s.stack with
    | nil => rw [hlr, h] at hn10; cases hn10
    | cons x r => exact ⟨x, r, rfl⟩
  refine WC.shapeT 1 rfl (by rw [hlr, hst]; simp) fun sb hsb hsc hsm => ?_
  have hsl : s.stack.length = r.length + 1 := by rw [hst]; rfl
  refine WC.drawU (fun _ => true) [] [] (.q false 0 (.q false 1 (.q false 2 (.q true 3 (.q false 4 (.q false 5 (.q false 6 (.q true 7 (.q false 8 (.q false 9 (.q false 10 (.q true 11 (.q false 12 .nil))))))))))))) mixed (by kernel_rfl) (fun _ _ _ d _ _ h => by cases d <;> exact h) ?_
  refine WU.q rfl (.inl rfl) rfl (fun _ h => h) (yl_move rfl) ?_
  refine WU.q rfl (.inl rfl) rfl (fun _ h => h) (yl_nil rfl) ?_
  refine WU.q rfl (.inl rfl) rfl (fun _ h => h) (yl_fa fo108_3 rfl) ?_
  refine WU.q rfl (.inl rfl) rfl (fun _ h => h) (yl_ldk 0 rfl rfl rfl na50) ?_
  refine WU.q rfl (.inl rfl) rfl (fun _ h => h) (yl_move rfl) ?_
  refine WU.q rfl (.inl rfl) rfl (fun _ h => h) (yl_nil rfl) ?_
  refine WU.q rfl (.inl rfl) rfl (fun _ h => h) (yl_fa fo108_3 rfl) ?_
  refine WU.q rfl (.inl rfl) rfl (fun _ h => h) (yl_ldk 0 rfl rfl rfl na50) ?_
  refine WU.q rfl (.inl rfl) rfl (fun _ h => h) (yl_len es50 rfl) ?_
  refine WU.q rfl (.inl rfl) rfl (fun _ h => h) (yl_subv ((r.length : Nat) : Int) rfl rfl (by omega) (by omega)) ?_
  refine WU.q rfl (.inl rfl) rfl (fun _ h => h) (yl_iao es50 rfl rfl hsb (by omega)) ?_
  refine WU.q rfl (.inl rfl) rfl (fun _ h => h) (yl_ldT (y := x) 1 r.length 0 rfl rfl hsb rfl iv_len (by rw [hst, List.reverse_cons, List.getElem?_append_right (by simp)]; simp) rfl na3) ?_
  refine WU.q rfl (.inl rfl) rfl (fun _ h => h) (yl_assign rfl) ?_
  refine WU.nil (fun _ h => h) ?_
  refine WS.nil ?_
  refine WE.then_normal ?_
  refine WC.seq ?_
  refine WC.drawU (fun _ => true) [] [14] (.q false 0 (.q false 1 (.q false 2 (.q false 3 (.q true 4 (.q false 5 (.q false 6 (.q false 7 (.q true 8 (.q false 9 (.q false 10 (.q false 11 (.q false 12 (.q false 13 .nil)))))))))))))) mixed (by kernel_rfl) (fun _ _ _ d _ _ h => by cases d <;> exact h) ?_
  refine WU.q rfl (.inl rfl) rfl (fun _ h => h) (yl_move rfl) ?_
  refine WU.q rfl (.inl rfl) rfl (fun _ h => h) (yl_move rfl) ?_
  refine WU.q rfl (.inl rfl) rfl (fun _ h => h) (yl_nil rfl) ?_
  refine WU.q rfl (.inl rfl) rfl (fun _ h => h) (yl_fa fo108_3 rfl) ?_
  refine WU.q rfl (.inl rfl) rfl (fun _ h => h) (yl_ldk 0 rfl rfl rfl na50) ?_
  refine WU.q rfl (.inl rfl) rfl (fun _ h => h) (yl_move rfl) ?_
  refine WU.q rfl (.inl rfl) rfl (fun _ h => h) (yl_nil rfl) ?_
  refine WU.q rfl (.inl rfl) rfl (fun _ h => h) (yl_fa fo108_3 rfl) ?_
  refine WU.q rfl (.inl rfl) rfl (fun _ h => h) (yl_ldk 0 rfl rfl rfl na50) ?_
  refine WU.q rfl (.inl rfl) rfl (fun _ h => h) (yl_len es50 rfl) ?_
  refine WU.q rfl (.inl rfl) rfl (fun _ h => h) (yl_subv ((r.reverse.length : Nat) : Int) rfl rfl (by simp; omega) (by simp; omega)) ?_
  refine WU.q rfl (.inl rfl) rfl (fun _ h => h) (yl_slhn r.reverse.length es50 rfl (fun p hp => by rw [hsb] at hp; injection hp with hp; subst hp; rfl) rfl rfl (by simp; omega)) ?_
  refine WU.q rfl (.inl rfl) rfl (fun _ h => h) (yl_nil rfl) ?_
  refine WU.q rfl (.inl rfl) rfl (fun _ h => h) (yl_fa fo108_3 rfl) ?_
  refine WU.nil (fun _ h => h) ?_
  refine WS.e rfl ?_
  refine WL.store 0 (.inl rfl) rfl rfl rfl sz50 rfl rfl rfl ?_
  refine WL.truncT2 1 r.reverse rfl iv_len (by simp [hst]) (by rw [hst]; simp) ?_
  refine WL.nil ?_
  refine WE.toS ?_
  refine WS.nil ?_
  refine WE.then_normal ?_
  refine WC.seq ?_
  refine WC.region ?_
  refine WL.val (.inl rfl) rfl (yl_move rfl) ?_
  refine WL.val (.inl rfl) rfl (yl_assign rfl) ?_
  refine WL.nil ?_
  refine WE.then_normal ?_
  refine WC.ret ?_
  refine WE.ret1 rfl rfl fun w' hw => ?_
  refine .inl ⟨(x, r), rfl, ⟨?_, MSt.good.stack (r := r) (sa := s.sa) (sc := s.sc) hg (by omega)⟩, hw⟩
  unfold topM
  rw [show s.pu.stack = x :: r from hst]
  rfl

theorem push_any (bm : Nat) (s : MSt) (HI : View) (n : Int) (w : World) (hg : s.good HI) (hw : Ws w ((MSt.own bm s).flatMap Asr.ids) (MSt.own bm s) [HI] w) :
    Calls Try.prog 83 #[.pointer (some ⟨bm, 0, none⟩), .int .i64 n] w fun e w' => (∃ r : Unit × MSt, e = .returned (.tuple #[]) ∧ (pushM n s.pu = .ok r.1 r.2.pu ∧ r.2.good HI) ∧ Ws w ((MSt.own bm s).flatMap Asr.ids) (MSt.own bm r.2) [HI] w') ∨ (∃ r : Int × MSt, e = .panicked (ovr r.1) ∧ pushM n s.pu = .ov r.1 r.2.pu ∧ Ws w ((MSt.own bm s).flatMap Asr.ids) (MSt.own bm r.2) [HI] w') := by
  have hlr : s.stack.reverse.length = s.stack.length := by simp
  have hfr : s.frames.reverse.length = s.frames.length := by simp
  have hgs := hg.stk
  have hgf := hg.frs
  have hgo := hg.out
  have hgd := hg.dat
  refine enter Try.func83 rfl 21 rfl rfl ?_
  refine WC.world (W' := Ws w ((MSt.own bm s).flatMap Asr.ids) (MSt.own bm s) [HI]) (fun _ e => by subst e; exact hw) ?_
  refine WC.seq ?_
  refine WC.region ?_
  refine WL.val (.inl rfl) rfl (yl_move rfl) ?_
  refine WL.val (.inl rfl) rfl (yl_nil rfl) ?_
  refine WL.val (.inl rfl) rfl (yl_fa fo108_3 rfl) ?_
  refine WL.val (.inl rfl) rfl (yl_ldk 0 rfl rfl rfl na50) ?_
  refine WL.val (.inl rfl) rfl (yl_len es50 rfl) ?_
  refine WL.val (.inl rfl) rfl (yl_eq rfl rfl) ?_
  refine WL.callwx (ι := Unit) (κ := Unit) [] _ (.inl rfl) rfl en64 rfl rfl (fun _ => .tuple #[]) (fun _ => []) (fun _ => (((s.stack.reverse.length : Nat) : Int) == 2048) = false) (fun _ => ovr 6) (fun _ => []) (fun _ => (((s.stack.reverse.length : Nat) : Int) == 2048) = true) ([]) (by simp) (fun w hw => (stop_any _ 6 w).mono fun e w' h => by
      rcases h with ⟨_, h1, h2, h3⟩ | ⟨_, h1, h2, h3⟩
      · exact .inl ⟨(), h1, h2, hw.ext h3⟩
      · exact .inr ⟨(), h1, h2, hw.ext h3⟩) ?_ ?_
  ·
    intro _ hn10
    refine WE.then_panic ?_
    refine WE.panics fun w' hw => ?_
    exact .inr ⟨(6, s), rfl, by rw [pushM, if_pos (show s.pu.stack.length = 2048 from by rw [hlr] at hn10; simp at hn10; show s.stack.length = 2048; omega)], hw⟩
  intro _ hn10
  refine WL.nil ?_
  refine WE.then_normal ?_
  have hne : ¬ s.stack.length = 2048 := by intro h; rw [hlr, h] at hn10; cases hn10
  refine WC.region ?_
  refine WL.val (.inl rfl) rfl (yl_move rfl) ?_
  refine WL.val (.inl rfl) rfl (yl_move rfl) ?_
  refine WL.val (.inl rfl) rfl (yl_nil rfl) ?_
  refine WL.val (.inl rfl) rfl (yl_fa fo108_3 rfl) ?_
  refine WL.val (.inl rfl) rfl (yl_ldk 0 rfl rfl rfl na50) ?_
  refine WL.val (.inl rfl) rfl (yl_move rfl) ?_
  refine WL.bsliceF (.inl rfl) rfl el50 rfl rfl rfl rfl fun b17 => ?_
  refine WL.appT n 2 0 (.inl rfl) rfl el50 rfl rfl rfl rfl rfl rfl (by omega) (by omega) fun a18 c18 => ?_
  rw [show s.stack.reverse ++ [n] = (n :: s.stack).reverse by simp]
  refine WL.val (.inl rfl) rfl (yl_nil rfl) ?_
  refine WL.val (.inl rfl) rfl (yl_fa fo108_3 rfl) ?_
  refine WL.store 1 (.inl rfl) rfl rfl rfl sz50 rfl rfl rfl ?_
  refine WL.nil ?_
  refine WE.end0 rfl fun w' hw => ?_
  exact .inl ⟨((), { s with stack := n :: s.stack, sa := a18, sc := c18 }), rfl, ⟨by rw [pushM, if_neg (show ¬ s.pu.stack.length = 2048 from hne)]; rfl, hg.stack (by simp; omega)⟩, Ws.drop (L := [_]) hw⟩

end Go.Proofs.Ytagoencpeflmlaa
