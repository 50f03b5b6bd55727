/- Walks of the machine that the compiler hands over, and plain laws on what they compute; each theorem tells its own conditions. -/
import Derived.Test.YtagoencpeflmlaaRows
import Derived.Test.YtagoencpeflmlaaBwM2
namespace Go.Proofs.Ytagoencpeflmlaa
open Go.Bw
set_option linter.unusedVariables false
set_option linter.unusedSimpArgs false
theorem fo108_4 : fieldOff Try.prog 108 4 = some 4 := by kernel_rfl
theorem na105 : nonAgg Try.prog 105 = true := by kernel_rfl
theorem es105 : elemSz Try.prog 105 = some 2 := by kernel_rfl
theorem fo108_6 : fieldOff Try.prog 108 6 = some 6 := by kernel_rfl
theorem fo53_3 : fieldOff Try.prog 53 3 = some 3 := by kernel_rfl
theorem fo108_1 : fieldOff Try.prog 108 1 = some 1 := by kernel_rfl
theorem sz3 : sizeP Try.prog 3 = some 1 := by kernel_rfl
theorem en86 : Enters Try.prog 86 := enters_of Try.func86 (by kernel_rfl) rfl
theorem en71 : Enters Try.prog 71 := enters_of Try.func71 (by kernel_rfl) rfl
theorem en83 : Enters Try.prog 83 := enters_of Try.func83 (by kernel_rfl) rfl
theorem fo108_5 : fieldOff Try.prog 108 5 = some 5 := by kernel_rfl

theorem cell_any (a : Option Addr) (c n : Nat) (i : Int) (w : World) (ha : 0 < n → ∃ b o, a = some ⟨b, o, none⟩) :
    Calls Try.prog 84 #[.slice a n c, .int .i64 i] w fun e w' => (∃ r : Nat × Nat, e = .returned (.pointer (some ⟨r.1, r.2 + i.toNat * 1, none⟩)) ∧ (outsideB i n = false ∧ a = some ⟨r.1, r.2, none⟩) ∧ Ext w w') ∨ (∃ _ : Unit, e = .panicked (ovr 6) ∧ outsideB i n = true ∧ Ext w w') := by
  refine enter Try.func84 rfl 17 rfl rfl ?_
  refine WC.world (W' := Ws w [] [] []) (fun _ e => by subst e; exact Ws.init (by simp)) ?_
  refine WC.seq ?_
  refine WC.region ?_
  refine WL.val (.inl rfl) rfl (yl_assign rfl) ?_
  refine WL.nil ?_
  refine WE.then_normal ?_
  refine WC.seq ?_
  refine WC.region ?_
  refine WL.val (.inl rfl) rfl (yl_move rfl) ?_
  refine WL.val (.inl rfl) rfl (yl_lt rfl rfl) ?_
  refine WL.val (.inl rfl) rfl (yl_move rfl) ?_
  apply WL.or 4 rfl rfl rfl rfl (.inl rfl) rfl rfl rfl rfl rfl
  ·
    intro hg0
    refine WL.val (.inr ⟨_, _, _, rfl, rfl, rfl⟩) rfl (yl_move rfl) ?_
    refine WL.val (.inr ⟨_, _, _, rfl, rfl, rfl⟩) rfl (yl_move rfl) ?_
    refine WL.val (.inr ⟨_, _, _, rfl, rfl, rfl⟩) rfl (yl_len es50 rfl) ?_
    refine WL.val (.inr ⟨_, _, _, rfl, rfl, rfl⟩) rfl (yl_ge rfl rfl) ?_
    exact Got.intro 4 rfl rfl rfl
  refine WL.callwx (ι := Unit) (κ := Unit) [] _ (.inl rfl) rfl en64 rfl rfl (fun _ => .tuple #[]) (fun _ => []) (fun _ => (outsideB i n) = false) (fun _ => ovr 6) (fun _ => []) (fun _ => (outsideB i n) = true) ([]) (by simp) (fun w hw => (stop_any _ 6 w).mono fun e w' h => by
      rcases h with ⟨_, h1, h2, h3⟩ | ⟨_, h1, h2, h3⟩
      · exact .inl ⟨(), h1, h2, hw.ext h3⟩
      · exact .inr ⟨(), h1, h2, hw.ext h3⟩) ?_ ?_
  ·
    intro _ hn13
    refine WE.then_panic ?_
    refine WE.panics fun w' hw => ?_
    exact .inr ⟨(), rfl, hn13, hw.fr⟩
  intro _ hn13
  refine WL.nil ?_
  refine WE.then_normal ?_
  refine WC.seq ?_
  have hob : 0 ≤ i ∧ i < n := by
    unfold outsideB at hn13
    simp at hn13
    omega
  obtain ⟨cb, co, rfl⟩ := ha (by omega)
  refine WC.region ?_
  refine WL.val (.inl rfl) rfl (yl_move rfl) ?_
  refine WL.val (.inl rfl) rfl (yl_move rfl) ?_
  refine WL.val (.inl rfl) rfl (yl_ia es50 rfl rfl hob.1 hob.2) ?_
  refine WL.val (.inl rfl) rfl (yl_assign rfl) ?_
  refine WL.nil ?_
  refine WE.then_normal ?_
  refine WC.ret ?_
  refine WE.ret1 rfl rfl fun w' hw => ?_
  exact .inl ⟨(cb, co), rfl, ⟨hn13, rfl⟩, hw.fr⟩

theorem frame_any (bm : Nat) (s : MSt) (HI : View)  (w : World) (hg : s.good HI) (hw : Ws w ((MSt.own bm s).flatMap Asr.ids) (MSt.own bm s) [HI] w) :
    Calls Try.prog 85 #[.pointer (some ⟨bm, 0, none⟩)] w fun e w' => ∃ r : Nat, e = .returned (.pointer (some ⟨r, 0 + (s.frames.length - 1) * 2, none⟩)) ∧ s.fa = some ⟨r, 0, none⟩ ∧ Ws w ((MSt.own bm s).flatMap Asr.ids) (MSt.own bm s) [HI] w' := by
  have hlr : s.stack.reverse.length = s.stack.length := by simp
  have hfr : s.frames.reverse.length = s.frames.length := by simp
  have hgs := hg.stk
  have hgf := hg.frs
  have hgo := hg.out
  have hgd := hg.dat
  refine enter Try.func85 rfl 14 rfl rfl ?_
  refine WC.world (W' := Ws w ((MSt.own bm s).flatMap Asr.ids) (MSt.own bm s) [HI]) (fun _ e => by subst e; exact hw) ?_
  refine WC.seq ?_
  refine WC.region ?_
  refine WL.val (.inl rfl) rfl (yl_assign rfl) ?_
  refine WL.nil ?_
  refine WE.then_normal ?_
  refine WC.seq ?_
  refine WC.shapeT 2 rfl (by omega) fun fb hfb hfc hfm => ?_
  refine WC.drawU (fun _ => true) [] [] (.q false 0 (.q false 1 (.q false 2 (.q true 3 (.q false 4 (.q false 5 (.q false 6 (.q true 7 (.q false 8 (.q false 9 (.q false 10 (.q false 11 .nil)))))))))))) mixed (by kernel_rfl) (fun _ _ _ d _ _ h => by cases d <;> exact h) ?_
  refine WU.q rfl (.inl rfl) rfl (fun _ h => h) (yl_move rfl) ?_
  refine WU.q rfl (.inl rfl) rfl (fun _ h => h) (yl_nil rfl) ?_
  refine WU.q rfl (.inl rfl) rfl (fun _ h => h) (yl_fa fo108_4 rfl) ?_
  refine WU.q rfl (.inl rfl) rfl (fun _ h => h) (yl_ldk 0 rfl rfl rfl na105) ?_
  refine WU.q rfl (.inl rfl) rfl (fun _ h => h) (yl_move rfl) ?_
  refine WU.q rfl (.inl rfl) rfl (fun _ h => h) (yl_nil rfl) ?_
  refine WU.q rfl (.inl rfl) rfl (fun _ h => h) (yl_fa fo108_4 rfl) ?_
  refine WU.q rfl (.inl rfl) rfl (fun _ h => h) (yl_ldk 0 rfl rfl rfl na105) ?_
  refine WU.q rfl (.inl rfl) rfl (fun _ h => h) (yl_len es105 rfl) ?_
  refine WU.q rfl (.inl rfl) rfl (fun _ h => h) (yl_subv ((s.frames.length - 1 : Nat) : Int) rfl rfl (by rw [hfr]; omega) (by omega)) ?_
  refine WU.q rfl (.inl rfl) rfl (fun _ h => h) (yl_iao es105 rfl rfl hfb (by omega)) ?_
  refine WU.q rfl (.inl rfl) rfl (fun _ h => h) (yl_assign rfl) ?_
  refine WU.nil (fun _ h => h) ?_
  refine WS.nil ?_
  refine WE.then_normal ?_
  refine WC.ret ?_
  refine WE.ret1 rfl rfl fun w' hw => ?_
  exact ⟨fb, rfl, hfb, hw⟩

theorem tick_any (bm : Nat) (s : MSt) (HI : View)  (w : World) (hg : s.good HI) (hw : Ws w ((MSt.own bm s).flatMap Asr.ids) (MSt.own bm s) [HI] w) :
    Calls Try.prog 92 #[.pointer (some ⟨bm, 0, none⟩)] w fun e w' => (∃ r : Unit × MSt, e = .returned (.tuple #[]) ∧ (tickM s.pu = .ok r.1 r.2.pu ∧ r.2.good HI) ∧ Ws w ((MSt.own bm s).flatMap Asr.ids) (MSt.own bm r.2) [HI] w') ∨ (∃ r : Int × MSt, e = .panicked (ovr r.1) ∧ tickM s.pu = .ov r.1 r.2.pu ∧ Ws w ((MSt.own bm s).flatMap Asr.ids) (MSt.own bm r.2) [HI] w') := by
  have hlr : s.stack.reverse.length = s.stack.length := by simp
  have hfr : s.frames.reverse.length = s.frames.length := by simp
  have hgs := hg.stk
  have hgf := hg.frs
  have hgo := hg.out
  have hgd := hg.dat
  refine enter Try.func92 rfl 22 rfl rfl ?_
  refine WC.world (W' := Ws w ((MSt.own bm s).flatMap Asr.ids) (MSt.own bm s) [HI]) (fun _ e => by subst e; exact hw) ?_
  refine WC.seq ?_
  refine WC.drawU (fun _ => true) [] [] (.q false 0 (.q false 1 (.q false 2 (.q false 3 (.q true 4 (.q false 5 (.q false 6 (.q false 7 (.q true 8 (.q false 9 (.e 10 .nil .stop))))))))))) mixed (by kernel_rfl) (fun _ _ _ d _ _ h => by cases d <;> exact h) ?_
  refine WU.q rfl (.inl rfl) rfl (fun _ h => h) (yl_move rfl) ?_
  refine WU.q rfl (.inl rfl) rfl (fun _ h => h) (yl_nil rfl) ?_
  refine WU.q rfl (.inl rfl) rfl (fun _ h => h) (yl_fa fo108_6 rfl) ?_
  refine WU.q rfl (.inl rfl) rfl (fun _ h => h) (yl_fa fo53_3 rfl) ?_
  refine WU.q rfl (.inl rfl) rfl (fun _ h => h) (yl_ldk 0 rfl rfl rfl na3) ?_
  refine WU.q rfl (.inl rfl) rfl (fun _ h => h) (yl_move rfl) ?_
  refine WU.q rfl (.inl rfl) rfl (fun _ h => h) (yl_nil rfl) ?_
  refine WU.q rfl (.inl rfl) rfl (fun _ h => h) (yl_fa fo108_1 rfl) ?_
  refine WU.q rfl (.inl rfl) rfl (fun _ h => h) (yl_ldk 0 rfl rfl rfl na3) ?_
  refine WU.q rfl (.inl rfl) rfl (fun _ h => h) (yl_eq rfl rfl) ?_
  refine WU.e rfl (fun _ h => h) ?_ WU.stop
  refine WL.callwx (ι := Unit) (κ := Unit) [] _ (.inl rfl) rfl en64 rfl rfl (fun _ => .tuple #[]) (fun _ => []) (fun _ => (s.ticks == s.limit) = false) (fun _ => ovr 3) (fun _ => []) (fun _ => (s.ticks == s.limit) = true) ([]) (by simp) (fun w hw => (stop_any _ 3 w).mono fun e w' h => by
      rcases h with ⟨_, h1, h2, h3⟩ | ⟨_, h1, h2, h3⟩
      · exact .inl ⟨(), h1, h2, hw.ext h3⟩
      · exact .inr ⟨(), h1, h2, hw.ext h3⟩) ?_ ?_
  ·
    intro _ hn12
    refine WE.then_panic ?_
    refine WE.then_panic ?_
    refine WE.panics fun w' hw => ?_
    exact .inr ⟨(3, s), rfl, by rw [tickM, if_pos (show s.pu.ticks = s.pu.limit from (by simpa using hn12 : s.ticks = s.limit))], hw⟩
  intro _ hn12
  refine WL.nil ?_
  refine WE.toU ?_
  refine WU.nil (fun _ h => h) ?_
  refine WS.nil ?_
  refine WE.then_normal ?_
  have hne : ¬ s.ticks = s.limit := by simpa using hn12
  refine WC.region ?_
  refine WL.val (.inl rfl) rfl (yl_move rfl) ?_
  refine WL.val (.inl rfl) rfl (yl_nil rfl) ?_
  refine WL.val (.inl rfl) rfl (yl_fa fo108_6 rfl) ?_
  refine WL.val (.inl rfl) rfl (yl_fa fo53_3 rfl) ?_
  refine WL.val (.inl rfl) rfl (yl_ldk 0 rfl rfl rfl na3) ?_
  refine WL.val (.inl rfl) rfl (yl_addw rfl rfl) ?_
  refine WL.val (.inl rfl) rfl (yl_nil rfl) ?_
  refine WL.val (.inl rfl) rfl (yl_fa fo108_6 rfl) ?_
  refine WL.val (.inl rfl) rfl (yl_fa fo53_3 rfl) ?_
  refine WL.store 0 (.inl rfl) rfl rfl rfl sz3 rfl rfl rfl ?_
  refine WL.nil ?_
  refine WE.end0 rfl fun w' hw => ?_
  exact .inl ⟨((), { s with ticks := IntKind.i64.wrap (s.ticks + 1) }), rfl, ⟨by rw [tickM, if_neg (show ¬ s.pu.ticks = s.pu.limit from hne)]; rfl, ⟨hg.inp, hg.stk, hg.frs, hg.out, hg.dat⟩⟩, hw⟩

theorem math_any (bm : Nat) (s : MSt) (HI : View) (op : Int) (w : World) (hg : s.good HI) (hw : Ws w ((MSt.own bm s).flatMap Asr.ids) (MSt.own bm s) [HI] w) :
    Calls Try.prog 88 #[.pointer (some ⟨bm, 0, none⟩), .int .i64 op] w fun e w' => (∃ r : Unit × MSt, e = .returned (.tuple #[]) ∧ (mathM op s.pu = .ok r.1 r.2.pu ∧ r.2.good HI) ∧ Ws w ((MSt.own bm s).flatMap Asr.ids) (MSt.own bm r.2) [HI] w') ∨ (∃ r : Int × MSt, e = .panicked (ovr r.1) ∧ mathM op s.pu = .ov r.1 r.2.pu ∧ Ws w ((MSt.own bm s).flatMap Asr.ids) (MSt.own bm r.2) [HI] w') := by
  have hlr : s.stack.reverse.length = s.stack.length := by simp
  have hfr : s.frames.reverse.length = s.frames.length := by simp
  have hgs := hg.stk
  have hgf := hg.frs
  have hgo := hg.out
  have hgd := hg.dat
  refine enter Try.func88 rfl 42 rfl rfl ?_
  refine WC.world (W' := Ws w ((MSt.own bm s).flatMap Asr.ids) (MSt.own bm s) [HI]) (fun _ e => by subst e; exact hw) ?_
  refine WC.seq ?_
  refine WC.region ?_
  refine WL.val (.inl rfl) rfl (yl_move rfl) ?_
  refine WL.val (.inl rfl) rfl (yl_lt rfl rfl) ?_
  refine WL.val (.inl rfl) rfl (yl_move rfl) ?_
  apply WL.or 2 rfl rfl rfl rfl (.inl rfl) rfl rfl rfl rfl rfl
  ·
    intro hg0
    refine WL.val (.inr ⟨_, _, _, rfl, rfl, rfl⟩) rfl (yl_move rfl) ?_
    refine WL.val (.inr ⟨_, _, _, rfl, rfl, rfl⟩) rfl (yl_gt rfl rfl) ?_
    exact Got.intro 2 rfl rfl rfl
  refine WL.callwx (ι := Unit) (κ := Unit) [] _ (.inl rfl) rfl en64 rfl rfl (fun _ => .tuple #[]) (fun _ => []) (fun _ => (decide (op < 9) || decide (15 < op)) = false) (fun _ => ovr 6) (fun _ => []) (fun _ => (decide (op < 9) || decide (15 < op)) = true) ([]) (by simp) (fun w hw => (stop_any _ 6 w).mono fun e w' h => by
      rcases h with ⟨_, h1, h2, h3⟩ | ⟨_, h1, h2, h3⟩
      · exact .inl ⟨(), h1, h2, hw.ext h3⟩
      · exact .inr ⟨(), h1, h2, hw.ext h3⟩) ?_ ?_
  ·
    intro _ hn14
    refine WE.then_panic ?_
    refine WE.panics fun w' hw => ?_
    exact .inr ⟨(6, s), rfl, by rw [mathM, if_pos hn14], hw⟩
  intro _ hn14
  refine WL.nil ?_
  refine WE.then_normal ?_
  refine WC.seq ?_
  refine WC.region ?_
  refine WL.val (.inl rfl) rfl (yl_move rfl) ?_
  refine WL.front 5 rfl ?_
  refine WL.front 5 rfl ?_
  refine WL.front 5 rfl ?_
  refine WL.front 5 rfl ?_
  refine WL.front 5 rfl ?_
  refine WL.front 5 rfl ?_
  refine WL.callwx (ι := Int × List Int) (κ := Int × MSt) [_, _, _, _, _, _] _ (.inl rfl) rfl en86 rfl rfl (fun r => .int .i64 r.1) (fun r => (MSt.own bm (MSt.wst s r.2))) (fun r => topM s.pu = .ok r.1 (MSt.wst s r.2).pu ∧ (MSt.wst s r.2).good HI) (fun r => ovr r.1) (fun r => (MSt.own bm r.2)) (fun r => topM s.pu = .ov r.1 r.2.pu) ([HI]) (by simp) (fun w hw => top_any bm s HI w hg hw) ?_ ?_
  ·
    intro r16 hr16
    refine WE.then_panic ?_
    refine WE.panics fun w' hw => ?_
    exact .inr ⟨r16, rfl, by rw [mathM, if_neg (by rw [hn14]; simp), hr16]; rfl, hw⟩
  intro r16 ⟨hr16, hg16⟩
  refine WL.val (.inl rfl) rfl (yl_assign rfl) ?_
  refine WL.nil ?_
  refine WE.then_normal ?_
  refine WC.seq ?_
  refine WC.region ?_
  refine WL.val (.inl rfl) rfl (yl_move rfl) ?_
  refine WL.front 5 rfl ?_
  refine WL.front 5 rfl ?_
  refine WL.front 5 rfl ?_
  refine WL.front 5 rfl ?_
  refine WL.front 5 rfl ?_
  refine WL.front 5 rfl ?_
  refine WL.callwx (ι := Int × List Int) (κ := Int × MSt) [_, _, _, _, _, _] _ (.inl rfl) rfl en86 rfl rfl (fun r => .int .i64 r.1) (fun r => (MSt.own bm (MSt.wst (MSt.wst s r16.2) r.2))) (fun r => topM (MSt.wst s r16.2).pu = .ok r.1 (MSt.wst (MSt.wst s r16.2) r.2).pu ∧ (MSt.wst (MSt.wst s r16.2) r.2).good HI) (fun r => ovr r.1) (fun r => (MSt.own bm r.2)) (fun r => topM (MSt.wst s r16.2).pu = .ov r.1 r.2.pu) ([HI]) (by simp) (fun w hw => top_any bm (MSt.wst s r16.2) HI w hg16 hw) ?_ ?_
  ·
    intro r18 hr18
    refine WE.then_panic ?_
    refine WE.panics fun w' hw => ?_
    exact .inr ⟨r18, rfl, by rw [mathM, if_neg (by rw [hn14]; simp), hr16]; show Rz.bind (topM (MSt.wst s r16.2).pu) _ = _; rw [hr18]; rfl, hw⟩
  intro r18 ⟨hr18, hg18⟩
  refine WL.val (.inl rfl) rfl (yl_assign rfl) ?_
  refine WL.nil ?_
  refine WE.then_normal ?_
  refine WC.seq ?_
  refine WC.region ?_
  refine WL.val (.inl rfl) rfl (yl_move rfl) ?_
  refine WL.val (.inl rfl) rfl (yl_move rfl) ?_
  refine WL.val (.inl rfl) rfl (yl_move rfl) ?_
  refine WL.callp (.inl rfl) rfl en71 rfl (fun w hw => mmath_any _ _ _ w) ?_
  refine WL.val (.inl rfl) rfl (yl_move rfl) ?_
  refine WL.val (.inl rfl) rfl (yl_extract rfl rfl) ?_
  refine WL.val (.inl rfl) rfl (yl_extract rfl rfl) ?_
  refine WL.val (.inl rfl) rfl (yl_assign rfl) ?_
  refine WL.val (.inl rfl) rfl (yl_assign rfl) ?_
  refine WL.nil ?_
  refine WE.then_normal ?_
  refine WC.seq ?_
  refine WC.seq ?_
  refine WC.region ?_
  refine WL.val (.inl rfl) rfl (yl_move rfl) ?_
  refine WL.val (.inl rfl) rfl (yl_not rfl) ?_
  refine WL.nil ?_
  refine WE.then_normal ?_
  refine WC.cond rfl (fun hc0 => ?_) (fun hc0 => ?_)
  ·
    have hm2 : (mmath op r18.1 r16.1).2 = false := by simpa using hc0
    refine WC.seq ?_
    refine WC.region ?_
    refine WL.val (.inl rfl) rfl (yl_move rfl) ?_
    refine WL.val (.inl rfl) rfl (yl_eq rfl rfl) ?_
    refine WL.callwx (ι := Unit) (κ := Unit) [] _ (.inl rfl) rfl en64 rfl rfl (fun _ => .tuple #[]) (fun _ => []) (fun _ => (r16.1 == 0) = false) (fun _ => ovr 1) (fun _ => []) (fun _ => (r16.1 == 0) = true) ([]) (by simp) (fun w hw => (stop_any _ 1 w).mono fun e w' h => by
        rcases h with ⟨_, h1, h2, h3⟩ | ⟨_, h1, h2, h3⟩
        · exact .inl ⟨(), h1, h2, hw.ext h3⟩
        · exact .inr ⟨(), h1, h2, hw.ext h3⟩) ?_ ?_
    ·
      intro _ hn30
      refine WE.then_panic ?_
      refine WE.then_panic ?_
      refine WE.panics fun w' hw => ?_
      refine .inr ⟨(1, MSt.wst (MSt.wst s r16.2) r18.2), rfl, ?_, hw⟩
      rw [mathM, if_neg (by rw [hn14]; simp), hr16]
      show Rz.bind (topM (MSt.wst s r16.2).pu) _ = _
      rw [hr18]
      show (if (mmath op r18.1 r16.1).2 = true then _ else _) = _
      rw [hm2, if_neg (by simp), if_pos (by simpa using hn30)]
    intro _ hn30
    refine WL.nil ?_
    refine WE.then_normal ?_
    refine WC.seq ?_
    have hb0 : ¬ r16.1 = 0 := by simpa using hn30
    refine WC.region ?_
    refine WL.val (.inl rfl) rfl (yl_move rfl) ?_
    refine WL.val (.inl rfl) rfl (yl_move rfl) ?_
    refine WL.val (.inl rfl) rfl (yl_quo rfl rfl hb0) ?_
    refine WL.val (.inl rfl) rfl (yl_assign rfl) ?_
    refine WL.nil ?_
    refine WE.then_normal ?_
    refine WC.seq ?_
    refine WC.region ?_
    refine WL.val (.inl rfl) rfl (yl_move rfl) ?_
    refine WL.val (.inl rfl) rfl (yl_eq rfl rfl) ?_
    refine WL.nil ?_
    refine WE.then_normal ?_
    refine WC.cond rfl (fun hc1 => ?_) (fun hc1 => ?_)
    ·
      have h13 : op = 13 := by simpa using hc1
      refine WC.region ?_
      refine WL.val (.inl rfl) rfl (yl_move rfl) ?_
      refine WL.val (.inl rfl) rfl (yl_move rfl) ?_
      refine WL.val (.inl rfl) rfl (yl_rem rfl rfl hb0) ?_
      refine WL.val (.inl rfl) rfl (yl_assign rfl) ?_
      refine WL.nil ?_
      refine WE.then_normal ?_
      refine WC.region ?_
      refine WL.val (.inl rfl) rfl (yl_move rfl) ?_
      refine WL.val (.inl rfl) rfl (yl_move rfl) ?_
      refine WL.front 5 rfl ?_
      refine WL.front 5 rfl ?_
      refine WL.front 5 rfl ?_
      refine WL.front 5 rfl ?_
      refine WL.front 5 rfl ?_
      refine WL.front 5 rfl ?_
      refine WL.callwx (ι := Unit × MSt) (κ := Int × MSt) [_, _, _, _, _, _] _ (.inl rfl) rfl en83 rfl rfl (fun r => .tuple #[]) (fun r => (MSt.own bm r.2)) (fun r => pushM (r18.1.tmod r16.1) (MSt.wst (MSt.wst s r16.2) r18.2).pu = .ok r.1 r.2.pu ∧ r.2.good HI) (fun r => ovr r.1) (fun r => (MSt.own bm r.2)) (fun r => pushM (r18.1.tmod r16.1) (MSt.wst (MSt.wst s r16.2) r18.2).pu = .ov r.1 r.2.pu) ([HI]) (by simp) (fun w hw => push_any bm (MSt.wst (MSt.wst s r16.2) r18.2) HI (r18.1.tmod r16.1) w hg18 hw) ?_ ?_
      ·
        intro r41 hr41
        refine WE.panics fun w' hw => ?_
        refine .inr ⟨r41, rfl, ?_, hw⟩
        rw [mathM, if_neg (by rw [hn14]; simp), hr16]
        show Rz.bind (topM (MSt.wst s r16.2).pu) _ = _
        rw [hr18]
        show (if (mmath op r18.1 r16.1).2 = true then _ else _) = _
        rw [hm2, if_neg (by simp), if_neg hb0, if_pos h13]
        rw [hr41]
      intro r41 ⟨hr41, hg41⟩
      refine WL.nil ?_
      refine WE.end0 rfl fun w' hw => ?_
      refine .inl ⟨((), r41.2), rfl, ⟨?_, hg41⟩, hw⟩
      rw [mathM, if_neg (by rw [hn14]; simp), hr16]
      show Rz.bind (topM (MSt.wst s r16.2).pu) _ = _
      rw [hr18]
      show (if (mmath op r18.1 r16.1).2 = true then _ else _) = _
      rw [hm2, if_neg (by simp), if_neg hb0, if_pos h13]
      rw [hr41]
    ·
      have h13 : ¬ op = 13 := by simpa using hc1
      refine WC.skip ?_
      refine WE.then_normal ?_
      refine WC.region ?_
      refine WL.val (.inl rfl) rfl (yl_move rfl) ?_
      refine WL.val (.inl rfl) rfl (yl_move rfl) ?_
      refine WL.front 5 rfl ?_
      refine WL.front 5 rfl ?_
      refine WL.front 5 rfl ?_
      refine WL.front 5 rfl ?_
      refine WL.front 5 rfl ?_
      refine WL.front 5 rfl ?_
      refine WL.callwx (ι := Unit × MSt) (κ := Int × MSt) [_, _, _, _, _, _] _ (.inl rfl) rfl en83 rfl rfl (fun r => .tuple #[]) (fun r => (MSt.own bm r.2)) (fun r => pushM (IntKind.i64.wrap (r18.1.tdiv r16.1)) (MSt.wst (MSt.wst s r16.2) r18.2).pu = .ok r.1 r.2.pu ∧ r.2.good HI) (fun r => ovr r.1) (fun r => (MSt.own bm r.2)) (fun r => pushM (IntKind.i64.wrap (r18.1.tdiv r16.1)) (MSt.wst (MSt.wst s r16.2) r18.2).pu = .ov r.1 r.2.pu) ([HI]) (by simp) (fun w hw => push_any bm (MSt.wst (MSt.wst s r16.2) r18.2) HI (IntKind.i64.wrap (r18.1.tdiv r16.1)) w hg18 hw) ?_ ?_
      ·
        intro r41 hr41
        refine WE.panics fun w' hw => ?_
        refine .inr ⟨r41, rfl, ?_, hw⟩
        rw [mathM, if_neg (by rw [hn14]; simp), hr16]
        show Rz.bind (topM (MSt.wst s r16.2).pu) _ = _
        rw [hr18]
        show (if (mmath op r18.1 r16.1).2 = true then _ else _) = _
        rw [hm2, if_neg (by simp), if_neg hb0, if_neg h13]
        rw [hr41]
      intro r41 ⟨hr41, hg41⟩
      refine WL.nil ?_
      refine WE.end0 rfl fun w' hw => ?_
      refine .inl ⟨((), r41.2), rfl, ⟨?_, hg41⟩, hw⟩
      rw [mathM, if_neg (by rw [hn14]; simp), hr16]
      show Rz.bind (topM (MSt.wst s r16.2).pu) _ = _
      rw [hr18]
      show (if (mmath op r18.1 r16.1).2 = true then _ else _) = _
      rw [hm2, if_neg (by simp), if_neg hb0, if_neg h13]
      rw [hr41]
  ·
    have hm2 : (mmath op r18.1 r16.1).2 = true := by simpa using hc0
    refine WC.skip ?_
    refine WE.then_normal ?_
    refine WC.region ?_
    refine WL.val (.inl rfl) rfl (yl_move rfl) ?_
    refine WL.val (.inl rfl) rfl (yl_move rfl) ?_
    refine WL.front 5 rfl ?_
    refine WL.front 5 rfl ?_
    refine WL.front 5 rfl ?_
    refine WL.front 5 rfl ?_
    refine WL.front 5 rfl ?_
    refine WL.front 5 rfl ?_
    refine WL.callwx (ι := Unit × MSt) (κ := Int × MSt) [_, _, _, _, _, _] _ (.inl rfl) rfl en83 rfl rfl (fun r => .tuple #[]) (fun r => (MSt.own bm r.2)) (fun r => pushM ((mmath op r18.1 r16.1).1) (MSt.wst (MSt.wst s r16.2) r18.2).pu = .ok r.1 r.2.pu ∧ r.2.good HI) (fun r => ovr r.1) (fun r => (MSt.own bm r.2)) (fun r => pushM ((mmath op r18.1 r16.1).1) (MSt.wst (MSt.wst s r16.2) r18.2).pu = .ov r.1 r.2.pu) ([HI]) (by simp) (fun w hw => push_any bm (MSt.wst (MSt.wst s r16.2) r18.2) HI ((mmath op r18.1 r16.1).1) w hg18 hw) ?_ ?_
    ·
      intro r41 hr41
      refine WE.panics fun w' hw => ?_
      refine .inr ⟨r41, rfl, ?_, hw⟩
      rw [mathM, if_neg (by rw [hn14]; simp), hr16]
      show Rz.bind (topM (MSt.wst s r16.2).pu) _ = _
      rw [hr18]
      show (if (mmath op r18.1 r16.1).2 = true then _ else _) = _
      rw [if_pos hm2]
      rw [hr41]
    intro r41 ⟨hr41, hg41⟩
    refine WL.nil ?_
    refine WE.end0 rfl fun w' hw => ?_
    refine .inl ⟨((), r41.2), rfl, ⟨?_, hg41⟩, hw⟩
    rw [mathM, if_neg (by rw [hn14]; simp), hr16]
    show Rz.bind (topM (MSt.wst s r16.2).pu) _ = _
    rw [hr18]
    show (if (mmath op r18.1 r16.1).2 = true then _ else _) = _
    rw [if_pos hm2]
    rw [hr41]

theorem read_any (bm : Nat) (s : MSt) (HI : View)  (w : World) (hg : s.good HI) (hw : Ws w ((MSt.own bm s).flatMap Asr.ids) (MSt.own bm s) [HI] w) :
    Calls Try.prog 93 #[.pointer (some ⟨bm, 0, none⟩)] w fun e w' => (∃ r : Int × MSt, e = .returned (.int .i64 r.1) ∧ (Rz.ok (readM s.pu).1 (readM s.pu).2 = .ok r.1 r.2.pu ∧ r.2.good HI) ∧ Ws w ((MSt.own bm s).flatMap Asr.ids) (MSt.own bm r.2) [HI] w') ∨ (∃ r : Int × MSt, e = .panicked (ovr r.1) ∧ Rz.ok (readM s.pu).1 (readM s.pu).2 = .ov r.1 r.2.pu ∧ Ws w ((MSt.own bm s).flatMap Asr.ids) (MSt.own bm r.2) [HI] w') := by
  have hlr : s.stack.reverse.length = s.stack.length := by simp
  have hfr : s.frames.reverse.length = s.frames.length := by simp
  have hgs := hg.stk
  have hgf := hg.frs
  have hgo := hg.out
  have hgd := hg.dat
  refine enter Try.func93 rfl 25 rfl rfl ?_
  refine WC.world (W' := Ws w ((MSt.own bm s).flatMap Asr.ids) (MSt.own bm s) [HI]) (fun _ e => by subst e; exact hw) ?_
  refine WC.seq ?_
  refine WC.region ?_
  refine WL.val (.inl rfl) rfl (yl_assign rfl) ?_
  refine WL.nil ?_
  refine WE.then_normal ?_
  refine WC.seq ?_
  refine WC.seq ?_
  refine WC.region ?_
  refine WL.val (.inl rfl) rfl (yl_move rfl) ?_
  refine WL.val (.inl rfl) rfl (yl_nil rfl) ?_
  refine WL.val (.inl rfl) rfl (yl_fa fo108_5 rfl) ?_
  refine WL.val (.inl rfl) rfl (yl_ldk 0 rfl rfl rfl na50) ?_
  refine WL.val (.inl rfl) rfl (yl_len es50 rfl) ?_
  refine WL.val (.inl rfl) rfl (yl_eq rfl rfl) ?_
  refine WL.nil ?_
  refine WE.then_normal ?_
  refine WC.cond rfl (fun hc0 => ?_) (fun hc0 => ?_)
  ·
    have hin : s.inp = [] := by simpa using hc0
    refine WC.seq ?_
    refine WC.region ?_
    refine WL.val (.inl rfl) rfl (yl_assign rfl) ?_
    refine WL.nil ?_
    refine WE.then_normal ?_
    refine WC.ret ?_
    refine WE.then_ret ?_
    refine WE.ret1 rfl rfl fun w' hw => ?_
    refine .inl ⟨(0, s), rfl, ⟨?_, hg⟩, hw⟩
    unfold readM
    rw [show s.pu.inp = [] from hin]
  ·
    obtain ⟨x, r, hin⟩ : ∃ x r, s.inp = x :: r := by
      cases h : s.inp with
      | nil => rw [h] at hc0; cases hc0
      | cons x r => exact ⟨x, r, rfl⟩
    obtain ⟨ib, io, hia, hrow⟩ := hg.inp.elt 0 x (by rw [hin]; rfl)
    have hrow : vc HI ib (io + 0 * 1) = some (.int .i64 x) := hrow
    have hil : s.inp.length = r.length + 1 := by rw [hin]; rfl
    have hic := hg.inp.cap
    refine WC.skip ?_
    refine WE.then_normal ?_
    refine WC.seq ?_
    refine WC.region ?_
    refine WL.val (.inl rfl) rfl (yl_move rfl) ?_
    refine WL.val (.inl rfl) rfl (yl_nil rfl) ?_
    refine WL.val (.inl rfl) rfl (yl_fa fo108_5 rfl) ?_
    refine WL.val (.inl rfl) rfl (yl_ldk 0 rfl rfl rfl na50) ?_
    refine WL.val (.inl rfl) rfl (yl_iao (i := 0) es50 rfl rfl hia (by omega)) ?_
    refine WL.val (.inl rfl) rfl (yl_ld 0 na3 rfl rfl (hrow)) ?_
    refine WL.val (.inl rfl) rfl (yl_assign rfl) ?_
    refine WL.nil ?_
    refine WE.then_normal ?_
    refine WC.seq ?_
    refine WC.region ?_
    refine WL.val (.inl rfl) rfl (yl_move rfl) ?_
    refine WL.val (.inl rfl) rfl (yl_move rfl) ?_
    refine WL.val (.inl rfl) rfl (yl_nil rfl) ?_
    refine WL.val (.inl rfl) rfl (yl_fa fo108_5 rfl) ?_
    refine WL.val (.inl rfl) rfl (yl_ldk 0 rfl rfl rfl na50) ?_
    refine WL.val (.inl rfl) rfl (yl_slln 1 es50 rfl rfl rfl (by omega) hic) ?_
    refine WL.val (.inl rfl) rfl (yl_nil rfl) ?_
    refine WL.val (.inl rfl) rfl (yl_fa fo108_5 rfl) ?_
    refine WL.store 0 (.inl rfl) rfl rfl rfl sz50 rfl rfl rfl ?_
    refine WL.nil ?_
    refine WE.then_normal ?_
    refine WC.seq ?_
    refine WC.region ?_
    refine WL.val (.inl rfl) rfl (yl_move rfl) ?_
    refine WL.val (.inl rfl) rfl (yl_assign rfl) ?_
    refine WL.nil ?_
    refine WE.then_normal ?_
    refine WC.ret ?_
    refine WE.ret1 rfl rfl fun w' hw => ?_
    have hd := hg.inp.drop 1 (by omega)
    rw [show s.inp.drop 1 = r by rw [hin]; rfl] at hd
    rw [show s.inp.length - 1 = r.length by omega] at hw
    refine .inl ⟨(x, { s with inp := r, ia := _, ic := s.ic - 1 }), rfl, ⟨?_, ⟨hd, hg.stk, hg.frs, hg.out, hg.dat⟩⟩, hw⟩
    unfold readM
    rw [show s.pu.inp = x :: r from hin]
    rfl

end Go.Proofs.Ytagoencpeflmlaa
