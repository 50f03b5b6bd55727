/- Walks of the machine of the document and of the law, and plain laws on what they compute; each theorem tells its own conditions. -/
import Derived.Test.YtagoencpeflmlaaBwN1
namespace Go.Proofs.Ytagoencpeflmlaa
open Go.Bw
set_option linter.unusedVariables false
set_option linter.unusedSimpArgs false
theorem fo119_6 : fieldOff Try.prog 119 6 = some 6 := by kernel_rfl
theorem fo119_7 : fieldOff Try.prog 119 7 = some 7 := by kernel_rfl
theorem fo119_2 : fieldOff Try.prog 119 2 = some 2 := by kernel_rfl
theorem na117 : nonAgg Try.prog 117 = true := by kernel_rfl
theorem es117 : elemSz Try.prog 117 = some 2 := by kernel_rfl
theorem fo116_0 : fieldOff Try.prog 116 0 = some 0 := by kernel_rfl
theorem fo119_3 : fieldOff Try.prog 119 3 = some 3 := by kernel_rfl

theorem gtick_any (bg : Nat) (g : GSt) (HI : View)  (w : World) (hg : g.good HI) (hw : Ws w ((GSt.own bg g).flatMap Asr.ids) (GSt.own bg g) [HI] w) :
    Calls Try.prog 98 #[.pointer (some ⟨bg, 0, none⟩)] w fun e w' => e = .returned (.tuple #[]) ∧ Ws w ((GSt.own bg g).flatMap Asr.ids) (GSt.own bg g.tick) [HI] w' := by
  have hlr : g.s.stack.reverse.length = g.s.stack.length := by simp
  have hfr : g.s.frames.reverse.length = g.s.frames.length := by simp
  have hgs := hg.stk
  have hgf := hg.frs
  have hgo := hg.out
  have hgd := hg.dat
  refine enter Try.func98 rfl 25 rfl rfl ?_
  refine WC.world (W' := Ws w ((GSt.own bg g).flatMap Asr.ids) (GSt.own bg g) [HI]) (fun _ e => by subst e; exact hw) ?_
  refine WC.seq ?_
  refine WC.seq ?_
  refine WC.drawU (fun _ => true) [] [] (.q false 0 (.q false 1 (.q false 2 (.q true 3 (.q false 4 (.q false 5 (.q false 6 (.q true 7 (.q false 8 .nil))))))))) mixed (by kernel_rfl) (fun _ _ _ d _ _ h => by cases d <;> exact h) ?_
  refine WU.q rfl (.inl rfl) rfl (fun _ h => h) (yl_move rfl) ?_
  refine WU.q rfl (.inl rfl) rfl (fun _ h => h) (yl_nil rfl) ?_
  refine WU.q rfl (.inl rfl) rfl (fun _ h => h) (yl_fa fo119_6 rfl) ?_
  refine WU.q rfl (.inl rfl) rfl (fun _ h => h) (yl_ldk 0 rfl rfl rfl na3) ?_
  refine WU.q rfl (.inl rfl) rfl (fun _ h => h) (yl_move rfl) ?_
  refine WU.q rfl (.inl rfl) rfl (fun _ h => h) (yl_nil rfl) ?_
  refine WU.q rfl (.inl rfl) rfl (fun _ h => h) (yl_fa fo119_7 rfl) ?_
  refine WU.q rfl (.inl rfl) rfl (fun _ h => h) (yl_ldk 0 rfl rfl rfl na3) ?_
  refine WU.q rfl (.inl rfl) rfl (fun _ h => h) (yl_ge rfl rfl) ?_
  refine WU.nil (fun _ h => h) ?_
  refine WS.nil ?_
  refine WE.then_normal ?_
  refine WC.cond rfl (fun hc0 => ?_) (fun hc0 => ?_)
  ·
    have hle : g.s.limit ≤ g.s.ticks := by simpa using hc0
    have ht : g.tick = GSt.inc (g.stp 3) := by unfold GSt.tick; rw [if_pos hle]
    refine WC.region ?_
    refine WL.val (.inl rfl) rfl (yl_move rfl) ?_
    refine WL.front 5 rfl ?_
    refine WL.front 5 rfl ?_
    refine WL.front 5 rfl ?_
    refine WL.front 5 rfl ?_
    refine WL.front 5 rfl ?_
    refine WL.front 5 rfl ?_
    refine WL.callw (ι := Unit) [_, _, _, _, _, _] _ (.inl rfl) rfl en66 rfl rfl (fun _ => .tuple #[]) (fun _ => (GSt.own bg (g.stp 3))) (fun _ => True) [HI] (by simp) (fun w hw => (gstop_any bg g HI 3 w hg hw).mono fun e w' h => ⟨(), h.1, trivial, h.2⟩) ?_
    intro _ _
    refine WL.nil ?_
    refine WE.then_normal ?_
    refine WC.seq ?_
    refine WC.region ?_
    refine WL.val (.inl rfl) rfl (yl_move rfl) ?_
    refine WL.val (.inl rfl) rfl (yl_nil rfl) ?_
    refine WL.val (.inl rfl) rfl (yl_fa fo119_9 rfl) ?_
    refine WL.val (.inl rfl) rfl (yl_ldk 0 rfl rfl rfl na4) ?_
    refine WL.val (.inl rfl) rfl (yl_not rfl) ?_
    refine WL.nil ?_
    refine WE.then_normal ?_
    refine WC.cond rfl (fun hc1 => ?_) (fun hc1 => ?_)
    ·
      exfalso
      have := stp_over 3 g
      rw [this] at hc1
      cases hc1
    ·
      refine WC.skip ?_
      refine WE.end0 rfl fun w' hw => ?_
      have ho : (g.stp 3).over = true := by simpa using hc1
      rw [ht]
      have hs : GSt.inc (g.stp 3) = (g.stp 3) := by unfold GSt.inc; rw [ho]; rfl
      rw [hs]
      exact ⟨rfl, hw⟩
  ·
    have hle : ¬ g.s.limit ≤ g.s.ticks := by simp at hc0; omega
    have ht : g.tick = GSt.inc g := by unfold GSt.tick; rw [if_neg hle]
    refine WC.skip ?_
    refine WE.then_normal ?_
    refine WC.seq ?_
    refine WC.region ?_
    refine WL.val (.inl rfl) rfl (yl_move rfl) ?_
    refine WL.val (.inl rfl) rfl (yl_nil rfl) ?_
    refine WL.val (.inl rfl) rfl (yl_fa fo119_9 rfl) ?_
    refine WL.val (.inl rfl) rfl (yl_ldk 0 rfl rfl rfl na4) ?_
    refine WL.val (.inl rfl) rfl (yl_not rfl) ?_
    refine WL.nil ?_
    refine WE.then_normal ?_
    refine WC.cond rfl (fun hc1 => ?_) (fun hc1 => ?_)
    ·
      refine WC.region ?_
      refine WL.val (.inl rfl) rfl (yl_move rfl) ?_
      refine WL.val (.inl rfl) rfl (yl_nil rfl) ?_
      refine WL.val (.inl rfl) rfl (yl_fa fo119_6 rfl) ?_
      refine WL.val (.inl rfl) rfl (yl_ldk 0 rfl rfl rfl na3) ?_
      refine WL.val (.inl rfl) rfl (yl_addw rfl rfl) ?_
      refine WL.val (.inl rfl) rfl (yl_nil rfl) ?_
      refine WL.val (.inl rfl) rfl (yl_fa fo119_6 rfl) ?_
      refine WL.store 0 (.inl rfl) rfl rfl rfl sz3 rfl rfl rfl ?_
      refine WL.nil ?_
      refine WE.end0 rfl fun w' hw => ?_
      have ho : g.over = false := by simpa using hc1
      rw [ht]
      have hs : GSt.inc g = ⟨{ g.s with ticks := IntKind.i64.wrap (g.s.ticks + 1) }, g.fin, g.over⟩ := by unfold GSt.inc; rw [ho]; rfl
      rw [hs]
      exact ⟨rfl, hw⟩
    ·
      refine WC.skip ?_
      refine WE.end0 rfl fun w' hw => ?_
      have ho : g.over = true := by simpa using hc1
      rw [ht]
      have hs : GSt.inc g = g := by unfold GSt.inc; rw [ho]; rfl
      rw [hs]
      exact ⟨rfl, hw⟩

theorem glocal_any (bg : Nat) (g : GSt) (HI : View) (a : Int) (f : MFr) (r : List MFr) (hfs : g.s.frames = f :: r) (hlm : f.loc.length ≤ 9223372036854775807) (w : World) (hg : g.good HI) (hw : Ws w ((GSt.own bg g).flatMap Asr.ids) (GSt.own bg g) [HI] w) :
    Calls Try.prog 95 #[.pointer (some ⟨bg, 0, none⟩), .int .i64 a] w fun e w' => e = .returned (.bool (!(g.has a f.loc.length).over)) ∧ Ws w ((GSt.own bg g).flatMap Asr.ids) (GSt.own bg (g.has a f.loc.length)) [HI] w' := by
  have hlr : g.s.stack.reverse.length = g.s.stack.length := by simp
  have hfr : g.s.frames.reverse.length = g.s.frames.length := by simp
  have hgs := hg.stk
  have hgf := hg.frs
  have hgo := hg.out
  have hgd := hg.dat
  refine enter Try.func95 rfl 30 rfl rfl ?_
  refine WC.world (W' := Ws w ((GSt.own bg g).flatMap Asr.ids) (GSt.own bg g) [HI]) (fun _ e => by subst e; exact hw) ?_
  refine WC.seq ?_
  refine WC.region ?_
  refine WL.val (.inl rfl) rfl (yl_assign rfl) ?_
  refine WL.nil ?_
  refine WE.then_normal ?_
  refine WC.seq ?_
  refine WC.seq ?_
  have hft := frs_top hfs
  refine WC.shapeT 2 rfl (by omega) fun fb hfb hfc hfm => ?_
  refine WC.drawU (fun _ => true) [] [] (.q false 0 (.q false 1 (.q false 2 (.q false 3 (.q true 4 (.q false 5 (.q false 6 (.q false 7 (.q true 8 (.q false 9 (.q false 10 (.q false 11 (.q false 12 (.q true 13 (.q false 14 (.q false 15 (.e 16 (.q false 17 .nil) .stop))))))))))))))))) mixed (by kernel_rfl) (fun _ _ _ d _ _ h => by cases d <;> exact h) ?_
  refine WU.q rfl (.inl rfl) rfl (fun _ h => h) (yl_move rfl) ?_
  refine WU.q rfl (.inl rfl) rfl (fun _ h => h) (yl_move rfl) ?_
  refine WU.q rfl (.inl rfl) rfl (fun _ h => h) (yl_nil rfl) ?_
  refine WU.q rfl (.inl rfl) rfl (fun _ h => h) (yl_fa fo119_2 rfl) ?_
  refine WU.q rfl (.inl rfl) rfl (fun _ h => h) (yl_ldk 0 rfl rfl rfl na117) ?_
  refine WU.q rfl (.inl rfl) rfl (fun _ h => h) (yl_move rfl) ?_
  refine WU.q rfl (.inl rfl) rfl (fun _ h => h) (yl_nil rfl) ?_
  refine WU.q rfl (.inl rfl) rfl (fun _ h => h) (yl_fa fo119_2 rfl) ?_
  refine WU.q rfl (.inl rfl) rfl (fun _ h => h) (yl_ldk 0 rfl rfl rfl na117) ?_
  refine WU.q rfl (.inl rfl) rfl (fun _ h => h) (yl_len es117 rfl) ?_
  refine WU.q rfl (.inl rfl) rfl (fun _ h => h) (yl_subv ((g.s.frames.length - 1 : Nat) : Int) rfl rfl (by rw [hfr]; omega) (by omega)) ?_
  refine WU.q rfl (.inl rfl) rfl (fun _ h => h) (yl_iao es117 rfl rfl hfb (by omega)) ?_
  refine WU.q rfl (.inl rfl) rfl (fun _ h => h) (yl_fa fo116_0 rfl) ?_
  refine WU.q rfl (.inl rfl) rfl (fun _ h => h) (yl_ldT (y := f) 2 (g.s.frames.length - 1) 0 rfl rfl hfb rfl MFr.cells_len hft rfl na50) ?_
  refine WU.q rfl (.inl rfl) rfl (fun _ h => h) (yl_len es50 rfl) ?_
  refine WU.q rfl (.inl rfl) rfl (fun _ h => h) (yl_subv ((f.loc.length : Int) - 1) rfl rfl rfl (by omega)) ?_
  refine WU.e rfl (fun _ h => h) ?_ WU.stop
  refine WL.callp (.inl rfl) rfl en36 rfl (fun w hw => within_any _ _ _ w) ?_
  refine WL.nil ?_
  refine WE.toU ?_
  refine WU.q rfl (.inl rfl) rfl (fun _ h => h) (yl_not rfl) ?_
  refine WU.nil (fun _ h => h) ?_
  refine WS.nil ?_
  refine WE.then_normal ?_
  refine WC.cond rfl (fun hc0 => ?_) (fun hc0 => ?_)
  ·
    refine WC.region ?_
    refine WL.val (.inl rfl) rfl (yl_move rfl) ?_
    refine WL.front 5 rfl ?_
    refine WL.front 5 rfl ?_
    refine WL.front 5 rfl ?_
    refine WL.front 5 rfl ?_
    refine WL.front 5 rfl ?_
    refine WL.front 5 rfl ?_
    refine WL.callw (ι := Unit) [_, _, _, _, _, _] _ (.inl rfl) rfl en66 rfl rfl (fun _ => .tuple #[]) (fun _ => (GSt.own bg (g.stp 6))) (fun _ => True) [HI] (by simp) (fun w hw => (gstop_any bg g HI 6 w hg hw).mono fun e w' h => ⟨(), h.1, trivial, h.2⟩) ?_
    intro _ _
    refine WL.nil ?_
    refine WE.then_normal ?_
    refine WC.seq ?_
    refine WC.region ?_
    refine WL.val (.inl rfl) rfl (yl_move rfl) ?_
    refine WL.val (.inl rfl) rfl (yl_nil rfl) ?_
    refine WL.val (.inl rfl) rfl (yl_fa fo119_9 rfl) ?_
    refine WL.val (.inl rfl) rfl (yl_ldk 0 rfl rfl rfl na4) ?_
    refine WL.val (.inl rfl) rfl (yl_not rfl) ?_
    refine WL.val (.inl rfl) rfl (yl_assign rfl) ?_
    refine WL.nil ?_
    refine WE.then_normal ?_
    refine WC.ret ?_
    refine WE.ret1 rfl rfl fun w' hw => ?_
    have ho : outsideB a f.loc.length = true := by rw [within_out] at hc0; simpa using hc0
    have hs : g.has a f.loc.length = g.stp 6 := by unfold GSt.has; rw [ho]; rfl
    rw [hs]
    exact ⟨rfl, hw⟩
  ·
    refine WC.skip ?_
    refine WE.then_normal ?_
    refine WC.seq ?_
    refine WC.region ?_
    refine WL.val (.inl rfl) rfl (yl_move rfl) ?_
    refine WL.val (.inl rfl) rfl (yl_nil rfl) ?_
    refine WL.val (.inl rfl) rfl (yl_fa fo119_9 rfl) ?_
    refine WL.val (.inl rfl) rfl (yl_ldk 0 rfl rfl rfl na4) ?_
    refine WL.val (.inl rfl) rfl (yl_not rfl) ?_
    refine WL.val (.inl rfl) rfl (yl_assign rfl) ?_
    refine WL.nil ?_
    refine WE.then_normal ?_
    refine WC.ret ?_
    refine WE.ret1 rfl rfl fun w' hw => ?_
    have ho : outsideB a f.loc.length = false := by rw [within_out] at hc0; simpa using hc0
    have hs : g.has a f.loc.length = g := by unfold GSt.has; rw [ho]; rfl
    rw [hs]
    exact ⟨rfl, hw⟩

theorem gdatum_any (bg : Nat) (g : GSt) (HI : View) (a : Int) (w : World) (hg : g.good HI) (hw : Ws w ((GSt.own bg g).flatMap Asr.ids) (GSt.own bg g) [HI] w) :
    Calls Try.prog 97 #[.pointer (some ⟨bg, 0, none⟩), .int .i64 a] w fun e w' => e = .returned (.bool (!(g.has a g.s.data.length).over)) ∧ Ws w ((GSt.own bg g).flatMap Asr.ids) (GSt.own bg (g.has a g.s.data.length)) [HI] w' := by
  have hlr : g.s.stack.reverse.length = g.s.stack.length := by simp
  have hfr : g.s.frames.reverse.length = g.s.frames.length := by simp
  have hgs := hg.stk
  have hgf := hg.frs
  have hgo := hg.out
  have hgd := hg.dat
  refine enter Try.func97 rfl 21 rfl rfl ?_
  refine WC.world (W' := Ws w ((GSt.own bg g).flatMap Asr.ids) (GSt.own bg g) [HI]) (fun _ e => by subst e; exact hw) ?_
  refine WC.seq ?_
  refine WC.region ?_
  refine WL.val (.inl rfl) rfl (yl_assign rfl) ?_
  refine WL.nil ?_
  refine WE.then_normal ?_
  refine WC.seq ?_
  refine WC.seq ?_
  refine WC.region ?_
  refine WL.val (.inl rfl) rfl (yl_move rfl) ?_
  refine WL.val (.inl rfl) rfl (yl_move rfl) ?_
  refine WL.val (.inl rfl) rfl (yl_nil rfl) ?_
  refine WL.val (.inl rfl) rfl (yl_fa fo119_3 rfl) ?_
  refine WL.val (.inl rfl) rfl (yl_ldk 0 rfl rfl rfl na50) ?_
  refine WL.val (.inl rfl) rfl (yl_len es50 rfl) ?_
  refine WL.val (.inl rfl) rfl (yl_subv ((g.s.data.length : Int) - 1) rfl rfl rfl (by omega)) ?_
  refine WL.callp (.inl rfl) rfl en36 rfl (fun w hw => within_any _ _ _ w) ?_
  refine WL.val (.inl rfl) rfl (yl_not rfl) ?_
  refine WL.nil ?_
  refine WE.then_normal ?_
  refine WC.cond rfl (fun hc0 => ?_) (fun hc0 => ?_)
  ·
    refine WC.region ?_
    refine WL.val (.inl rfl) rfl (yl_move rfl) ?_
    refine WL.front 5 rfl ?_
    refine WL.front 5 rfl ?_
    refine WL.front 5 rfl ?_
    refine WL.front 5 rfl ?_
    refine WL.front 5 rfl ?_
    refine WL.front 5 rfl ?_
    refine WL.callw (ι := Unit) [_, _, _, _, _, _] _ (.inl rfl) rfl en66 rfl rfl (fun _ => .tuple #[]) (fun _ => (GSt.own bg (g.stp 6))) (fun _ => True) [HI] (by simp) (fun w hw => (gstop_any bg g HI 6 w hg hw).mono fun e w' h => ⟨(), h.1, trivial, h.2⟩) ?_
    intro _ _
    refine WL.nil ?_
    refine WE.then_normal ?_
    refine WC.seq ?_
    refine WC.region ?_
    refine WL.val (.inl rfl) rfl (yl_move rfl) ?_
    refine WL.val (.inl rfl) rfl (yl_nil rfl) ?_
    refine WL.val (.inl rfl) rfl (yl_fa fo119_9 rfl) ?_
    refine WL.val (.inl rfl) rfl (yl_ldk 0 rfl rfl rfl na4) ?_
    refine WL.val (.inl rfl) rfl (yl_not rfl) ?_
    refine WL.val (.inl rfl) rfl (yl_assign rfl) ?_
    refine WL.nil ?_
    refine WE.then_normal ?_
    refine WC.ret ?_
    refine WE.ret1 rfl rfl fun w' hw => ?_
    have ho : outsideB a g.s.data.length = true := by rw [within_out] at hc0; simpa using hc0
    have hs : g.has a g.s.data.length = g.stp 6 := by unfold GSt.has; rw [ho]; rfl
    rw [hs]
    exact ⟨rfl, hw⟩
  ·
    refine WC.skip ?_
    refine WE.then_normal ?_
    refine WC.seq ?_
    refine WC.region ?_
    refine WL.val (.inl rfl) rfl (yl_move rfl) ?_
    refine WL.val (.inl rfl) rfl (yl_nil rfl) ?_
    refine WL.val (.inl rfl) rfl (yl_fa fo119_9 rfl) ?_
    refine WL.val (.inl rfl) rfl (yl_ldk 0 rfl rfl rfl na4) ?_
    refine WL.val (.inl rfl) rfl (yl_not rfl) ?_
    refine WL.val (.inl rfl) rfl (yl_assign rfl) ?_
    refine WL.nil ?_
    refine WE.then_normal ?_
    refine WC.ret ?_
    refine WE.ret1 rfl rfl fun w' hw => ?_
    have ho : outsideB a g.s.data.length = false := by rw [within_out] at hc0; simpa using hc0
    have hs : g.has a g.s.data.length = g := by unfold GSt.has; rw [ho]; rfl
    rw [hs]
    exact ⟨rfl, hw⟩

end Go.Proofs.Ytagoencpeflmlaa
