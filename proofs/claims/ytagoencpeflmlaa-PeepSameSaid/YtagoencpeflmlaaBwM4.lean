/- Walks of the machine that the compiler hands over, and plain laws on what they compute; each theorem tells its own conditions. -/
import Derived.Test.YtagoencpeflmlaaRows
import Derived.Test.YtagoencpeflmlaaBwM3
import Derived.Test.YtagoencpeflmlaaBw24
namespace Go.Proofs.Ytagoencpeflmlaa
open Go.Bw
set_option linter.unusedVariables false
set_option linter.unusedSimpArgs false
theorem en85 : Enters Try.prog 85 := enters_of Try.func85 (by kernel_rfl) rfl
theorem fo137_1 : fieldOff Try.prog 137 1 = some 1 := by kernel_rfl
theorem fo108_0 : fieldOff Try.prog 108 0 = some 0 := by kernel_rfl
theorem sz105 : sizeP Try.prog 105 = some 1 := by kernel_rfl
theorem en92 : Enters Try.prog 92 := enters_of Try.func92 (by kernel_rfl) rfl
theorem pl137 : placesP Try.prog 137 = some [(0, 1), (1, 1)] := by kernel_rfl
theorem zr137 : zeroOf Try.prog 137 = some (.agg #[.slice none 0 0, .int .i64 0]) := by kernel_rfl
theorem el105 : EltOk Try.prog 105 137 (.agg #[.slice none 0 0, .int .i64 0]) 2 32 := eltOk_of (by kernel_rfl)

theorem ret_any (bm : Nat) (s : MSt) (HI : View)  (w : World) (hg : s.good HI) (hw : Ws w ((MSt.own bm s).flatMap Asr.ids) (MSt.own bm s) [HI] w) :
    Calls Try.prog 91 #[.pointer (some ⟨bm, 0, none⟩)] w fun e w' => (∃ r : Unit × MSt, e = .returned (.tuple #[]) ∧ (retM s.pu = .ok r.1 r.2.pu ∧ r.2.good HI) ∧ Ws w ((MSt.own bm s).flatMap Asr.ids) (MSt.own bm r.2) [HI] w') ∨ (∃ r : Int × MSt, e = .panicked (ovr r.1) ∧ retM s.pu = .ov r.1 r.2.pu ∧ Ws w ((MSt.own bm s).flatMap Asr.ids) (MSt.own bm r.2) [HI] w') := by
  have hlr : s.stack.reverse.length = s.stack.length := by simp
  have hfr : s.frames.reverse.length = s.frames.length := by simp
  have hgs := hg.stk
  have hgf := hg.frs
  have hgo := hg.out
  have hgd := hg.dat
  refine enter Try.func91 rfl 31 rfl rfl ?_
  refine WC.world (W' := Ws w ((MSt.own bm s).flatMap Asr.ids) (MSt.own bm s) [HI]) (fun _ e => by subst e; exact hw) ?_
  refine WC.seq ?_
  refine WC.region ?_
  refine WL.val (.inl rfl) rfl (yl_move rfl) ?_
  refine WL.val (.inl rfl) rfl (yl_nil rfl) ?_
  refine WL.val (.inl rfl) rfl (yl_fa fo108_4 rfl) ?_
  refine WL.val (.inl rfl) rfl (yl_ldk 0 rfl rfl rfl na105) ?_
  refine WL.val (.inl rfl) rfl (yl_len es105 rfl) ?_
  refine WL.val (.inl rfl) rfl (yl_eq rfl rfl) ?_
  refine WL.callwx (ι := Unit) (κ := Unit) [] _ (.inl rfl) rfl en64 rfl rfl (fun _ => .tuple #[]) (fun _ => []) (fun _ => (((s.frames.reverse.length : Nat) : Int) == 1) = false) (fun _ => ovr 6) (fun _ => []) (fun _ => (((s.frames.reverse.length : Nat) : Int) == 1) = true) ([]) (by simp) (fun w hw => (stop_any _ 6 w).mono fun e w' h => by
      rcases h with ⟨_, h1, h2, h3⟩ | ⟨_, h1, h2, h3⟩
      · exact .inl ⟨(), h1, h2, hw.ext h3⟩
      · exact .inr ⟨(), h1, h2, hw.ext h3⟩) ?_ ?_
  ·
    intro _ hn8
    refine WE.then_panic ?_
    refine WE.panics fun w' hw => ?_
    refine .inr ⟨(6, s), rfl, ?_, hw⟩
    rw [retM, if_pos (show s.pu.frames.length = 1 by show (s.frames.map MFr.pu).length = 1; rw [hfr] at hn8; simp at hn8; simp; omega)]
  intro _ hn8
  refine WL.nil ?_
  refine WE.then_normal ?_
  refine WC.seq ?_
  have hne : ¬ s.frames.length = 1 := by rw [hfr] at hn8; simp at hn8; omega
  obtain ⟨f, r, hfs⟩ : ∃ f r, s.frames = f :: r := by
    cases h : s.frames with
    | nil => rw [h] at hgf; simp at hgf
    | cons f r => exact ⟨f, r, rfl⟩
  have hfl : s.frames.length = r.length + 1 := by rw [hfs]; rfl
  refine WC.shapeT 2 rfl (by omega) fun fb hfb hfc hfm => ?_
  refine WC.region ?_
  refine WL.val (.inl rfl) rfl (yl_move rfl) ?_
  refine WL.val (.inl rfl) rfl (yl_move rfl) ?_
  refine WL.front 5 rfl ?_
  refine WL.front 5 rfl ?_
  refine WL.front 5 rfl ?_
  refine WL.front 5 rfl ?_
  refine WL.front 5 rfl ?_
  refine WL.front 5 rfl ?_
  refine WL.callw (ι := Nat) [_, _, _, _, _, _] _ (.inl rfl) rfl en85 rfl rfl (fun r => .pointer (some ⟨r, 0 + (s.frames.length - 1) * 2, none⟩)) (fun _ => (MSt.own bm s)) (fun r => s.fa = some ⟨r, 0, none⟩) [HI] (by simp) (fun w hw => frame_any bm s HI w hg hw) ?_
  intro fb11 hfb11
  refine WL.val (.inl rfl) rfl (yl_nil rfl) ?_
  refine WL.val (.inl rfl) rfl (yl_fa fo137_1 rfl) ?_
  refine WL.val (.inl rfl) rfl (yl_ldT (y := f) 2 r.length 1 rfl rfl hfb11 (by rw [hfl]; simp) MFr.cells_len (by rw [hfs, List.reverse_cons, List.getElem?_append_right (by simp)]; simp) rfl na3) ?_
  refine WL.val (.inl rfl) rfl (yl_nil rfl) ?_
  refine WL.val (.inl rfl) rfl (yl_fa fo108_0 rfl) ?_
  refine WL.store 0 (.inl rfl) rfl rfl rfl sz3 rfl rfl rfl ?_
  refine WL.nil ?_
  refine WE.then_normal ?_
  refine WC.drawU (fun _ => true) [] [14] (.q false 0 (.q false 1 (.q false 2 (.q false 3 (.q true 4 (.q false 5 (.q false 6 (.q false 7 (.q true 8 (.q false 9 (.q false 10 (.q false 11 (.q false 12 (.q false 13 .nil)))))))))))))) mixed (by kernel_rfl) (fun _ _ _ d _ _ h => by cases d <;> exact h) ?_
  refine WU.q rfl (.inl rfl) rfl (fun _ h => h) (yl_move rfl) ?_
  refine WU.q rfl (.inl rfl) rfl (fun _ h => h) (yl_move rfl) ?_
  refine WU.q rfl (.inl rfl) rfl (fun _ h => h) (yl_nil rfl) ?_
  refine WU.q rfl (.inl rfl) rfl (fun _ h => h) (yl_fa fo108_4 rfl) ?_
  refine WU.q rfl (.inl rfl) rfl (fun _ h => h) (yl_ldk 0 rfl rfl rfl na105) ?_
  refine WU.q rfl (.inl rfl) rfl (fun _ h => h) (yl_move rfl) ?_
  refine WU.q rfl (.inl rfl) rfl (fun _ h => h) (yl_nil rfl) ?_
  refine WU.q rfl (.inl rfl) rfl (fun _ h => h) (yl_fa fo108_4 rfl) ?_
  refine WU.q rfl (.inl rfl) rfl (fun _ h => h) (yl_ldk 0 rfl rfl rfl na105) ?_
  refine WU.q rfl (.inl rfl) rfl (fun _ h => h) (yl_len es105 rfl) ?_
  refine WU.q rfl (.inl rfl) rfl (fun _ h => h) (yl_subv ((r.reverse.length : Nat) : Int) rfl rfl (by simp; omega) (by simp; omega)) ?_
  refine WU.q rfl (.inl rfl) rfl (fun _ h => h) (yl_slhn r.reverse.length es105 rfl (fun p hp => by rw [hfb11] at hp; injection hp with hp; subst hp; rfl) rfl rfl (by simp; omega)) ?_
  refine WU.q rfl (.inl rfl) rfl (fun _ h => h) (yl_nil rfl) ?_
  refine WU.q rfl (.inl rfl) rfl (fun _ h => h) (yl_fa fo108_4 rfl) ?_
  refine WU.nil (fun _ h => h) ?_
  refine WS.e rfl ?_
  refine WL.store 0 (.inl rfl) rfl rfl rfl sz105 rfl rfl rfl ?_
  refine WL.truncT2 2 r.reverse rfl MFr.cells_len (by simp [hfs]) (by rw [hfs]; simp) ?_
  refine WL.nil ?_
  refine WE.toS ?_
  refine WS.nil ?_
  refine WE.end0 rfl fun w' hw => ?_
  have hw := hw.fronti 5 rfl
  have hw := hw.fronti 5 rfl
  have hw := hw.fronti 5 rfl
  have hw := hw.fronti 5 rfl
  have hw := hw.fronti 5 rfl
  have hw := hw.fronti 5 rfl
  have hw := Ws.keep (L := [_, _, _, _, _, _]) hw
  rw [hfs] at hw
  have hw := hw.fam_tail 5 rfl
  refine .inl ⟨((), { s with at_ := f.back, frames := r }), rfl, ⟨?_, ⟨hg.inp, hg.stk, ⟨by show 1 ≤ r.length; omega, by show r.length ≤ 25; omega⟩, hg.out, hg.dat⟩⟩, hw⟩
  unfold retM
  rw [if_neg (show ¬ s.pu.frames.length = 1 by show ¬ (s.frames.map MFr.pu).length = 1; simpa using hne), show s.pu.frames = f.pu :: r.map MFr.pu by show s.frames.map MFr.pu = _; rw [hfs]; rfl]
  rfl

theorem call_any (bm : Nat) (s : MSt) (HI : View) (to : Int) (w : World) (hg : s.good HI) (hw : Ws w ((MSt.own bm s).flatMap Asr.ids) (MSt.own bm s) [HI] w) :
    Calls Try.prog 89 #[.pointer (some ⟨bm, 0, none⟩), .int .i64 to] w fun e w' => (∃ r : Unit × MSt, e = .returned (.tuple #[]) ∧ (callM to s.pu = .ok r.1 r.2.pu ∧ r.2.good HI) ∧ Ws w ((MSt.own bm s).flatMap Asr.ids) (MSt.own bm r.2) [HI] w') ∨ (∃ r : Int × MSt, e = .panicked (ovr r.1) ∧ callM to s.pu = .ov r.1 r.2.pu ∧ Ws w ((MSt.own bm s).flatMap Asr.ids) (MSt.own bm r.2) [HI] w') := by
  have hlr : s.stack.reverse.length = s.stack.length := by simp
  have hfr : s.frames.reverse.length = s.frames.length := by simp
  have hgs := hg.stk
  have hgf := hg.frs
  have hgo := hg.out
  have hgd := hg.dat
  refine enter Try.func89 rfl 31 rfl rfl ?_
  refine WC.world (W' := Ws w ((MSt.own bm s).flatMap Asr.ids) (MSt.own bm s) [HI]) (fun _ e => by subst e; exact hw) ?_
  refine WC.seq ?_
  refine WC.region ?_
  refine WL.val (.inl rfl) rfl (yl_move rfl) ?_
  refine WL.front 5 rfl ?_
  refine WL.front 5 rfl ?_
  refine WL.front 5 rfl ?_
  refine WL.front 5 rfl ?_
  refine WL.front 5 rfl ?_
  refine WL.front 5 rfl ?_
  refine WL.callwx (ι := Unit × MSt) (κ := Int × MSt) [_, _, _, _, _, _] _ (.inl rfl) rfl en92 rfl rfl (fun r => .tuple #[]) (fun r => (MSt.own bm r.2)) (fun r => tickM s.pu = .ok r.1 r.2.pu ∧ r.2.good HI) (fun r => ovr r.1) (fun r => (MSt.own bm r.2)) (fun r => tickM s.pu = .ov r.1 r.2.pu) ([HI]) (by simp) (fun w hw => tick_any bm s HI  w hg hw) ?_ ?_
  ·
    intro r5 hr5
    refine WE.then_panic ?_
    refine WE.panics fun w' hw => ?_
    exact .inr ⟨r5, rfl, by rw [callM, hr5]; rfl, hw⟩
  intro r5 ⟨hr5, hg5⟩
  have hfr5 : r5.2.frames.reverse.length = r5.2.frames.length := by simp
  have hgf5 := hg5.frs
  refine WL.nil ?_
  refine WE.then_normal ?_
  refine WC.seq ?_
  refine WC.region ?_
  refine WL.val (.inl rfl) rfl (yl_move rfl) ?_
  refine WL.val (.inl rfl) rfl (yl_nil rfl) ?_
  refine WL.val (.inl rfl) rfl (yl_fa fo108_4 rfl) ?_
  refine WL.val (.inl rfl) rfl (yl_ldk 0 rfl rfl rfl na105) ?_
  refine WL.val (.inl rfl) rfl (yl_len es105 rfl) ?_
  refine WL.val (.inl rfl) rfl (yl_gt rfl rfl) ?_
  refine WL.callwx (ι := Unit) (κ := Unit) [] _ (.inl rfl) rfl en64 rfl rfl (fun _ => .tuple #[]) (fun _ => []) (fun _ => (decide (24 < ((r5.2.frames.reverse.length : Nat) : Int))) = false) (fun _ => ovr 4) (fun _ => []) (fun _ => (decide (24 < ((r5.2.frames.reverse.length : Nat) : Int))) = true) ([]) (by simp) (fun w hw => (stop_any _ 4 w).mono fun e w' h => by
      rcases h with ⟨_, h1, h2, h3⟩ | ⟨_, h1, h2, h3⟩
      · exact .inl ⟨(), h1, h2, hw.ext h3⟩
      · exact .inr ⟨(), h1, h2, hw.ext h3⟩) ?_ ?_
  ·
    intro _ hn12
    refine WE.then_panic ?_
    refine WE.panics fun w' hw => ?_
    refine .inr ⟨(4, r5.2), rfl, ?_, hw⟩
    rw [callM, hr5]
    show (if 24 < r5.2.pu.frames.length then _ else _) = _
    rw [if_pos (show 24 < r5.2.pu.frames.length by show 24 < (r5.2.frames.map MFr.pu).length; rw [hfr5] at hn12; simp at hn12; simp; omega)]
  intro _ hn12
  refine WL.nil ?_
  refine WE.then_normal ?_
  refine WC.seq ?_
  have hle : ¬ 24 < r5.2.frames.length := by rw [hfr5] at hn12; simp at hn12; omega
  refine WC.drawU (fun _ => true) [2] [14] (.q false 0 (.q false 1 (.q false 2 (.q false 3 (.q true 4 (.q false 5 (.q false 6 (.q false 7 (.q true 8 (.q false 9 (.e 10 (.e 11 (.q false 12 (.q false 13 .nil)) .stop) .stop))))))))))) mixed (by kernel_rfl) (fun _ _ _ d _ _ h => by cases d <;> exact h) ?_
  refine WU.q rfl (.inl rfl) rfl (fun _ h => by have h := Ws.out 2 h; exact h) (yl_move rfl) ?_
  refine WU.q rfl (.inl rfl) rfl (fun _ h => by have h := Ws.out 2 h; exact h) (yl_move rfl) ?_
  refine WU.q rfl (.inl rfl) rfl (fun _ h => by have h := Ws.out 2 h; exact h) (yl_nil rfl) ?_
  refine WU.q rfl (.inl rfl) rfl (fun _ h => by have h := Ws.out 2 h; exact h) (yl_fa fo108_4 rfl) ?_
  refine WU.q rfl (.inl rfl) rfl (fun _ h => by have h := Ws.out 2 h; exact h) (yl_ldk 0 rfl rfl rfl na105) ?_
  refine WU.q rfl (.inl rfl) rfl (fun _ h => by have h := Ws.out 2 h; exact h) (yl_move rfl) ?_
  refine WU.q rfl (.inl rfl) rfl (fun _ h => by have h := Ws.out 2 h; exact h) (yl_nil rfl) ?_
  refine WU.q rfl (.inl rfl) rfl (fun _ h => by have h := Ws.out 2 h; exact h) (yl_fa fo108_0 rfl) ?_
  refine WU.q rfl (.inl rfl) rfl (fun _ h => by have h := Ws.out 2 h; exact h) (yl_ldk 0 rfl rfl rfl na3) ?_
  refine WU.q rfl (.inl rfl) rfl (fun _ h => by have h := Ws.out 2 h; exact h) (yl_build zr137 pl137 rfl rfl) ?_
  refine WU.e rfl (fun _ h => by have h := Ws.out 2 h; exact h) ?_ WU.stop
  refine WL.bsliceF (.inl rfl) rfl el105 rfl rfl rfl rfl fun b23 => ?_
  refine WL.nil ?_
  refine WE.toU ?_
  refine WU.e rfl (fun _ h => by have h := Ws.drop (L := [_]) (L' := _) h; have h := Ws.out 2 h; exact h) ?_ WU.stop
  refine WL.appT ⟨none, 0, [], r5.2.at_⟩ 3 0 (.inl rfl) rfl el105 rfl rfl rfl rfl rfl rfl (by omega) (by omega) fun a24 c24 => ?_
  rw [show r5.2.frames.reverse ++ [(⟨none, 0, [], r5.2.at_⟩ : MFr)] = ((⟨none, 0, [], r5.2.at_⟩ : MFr) :: r5.2.frames).reverse by simp]
  refine WL.nil ?_
  refine WE.toU ?_
  refine WU.q rfl (.inl rfl) rfl (fun _ h => by have h := Ws.drop (L := [_]) (L' := _) h; have h := Ws.out 2 h; exact h) (yl_nil rfl) ?_
  refine WU.q rfl (.inl rfl) rfl (fun _ h => by have h := Ws.drop (L := [_]) (L' := _) h; have h := Ws.out 2 h; exact h) (yl_fa fo108_4 rfl) ?_
  refine WU.nil (fun _ h => by have h := Ws.drop (L := [_]) (L' := _) h; have h := Ws.out 2 h; exact h) ?_
  refine WS.e rfl ?_
  refine WL.store 1 (.inl rfl) rfl rfl rfl sz105 rfl rfl rfl ?_
  refine WL.nil ?_
  refine WE.toS ?_
  refine WS.nil ?_
  refine WE.then_normal ?_
  refine WC.region ?_
  refine WL.val (.inl rfl) rfl (yl_move rfl) ?_
  refine WL.val (.inl rfl) rfl (yl_move rfl) ?_
  refine WL.val (.inl rfl) rfl (yl_nil rfl) ?_
  refine WL.val (.inl rfl) rfl (yl_fa fo108_0 rfl) ?_
  refine WL.store 1 (.inl rfl) rfl rfl rfl sz3 rfl rfl rfl ?_
  refine WL.nil ?_
  refine WE.end0 rfl fun w' hw => ?_
  have hw := hw.fronti 6 rfl
  have hw := hw.fronti 6 rfl
  have hw := hw.fronti 6 rfl
  have hw := hw.fronti 6 rfl
  have hw := hw.fronti 6 rfl
  have hw := hw.fronti 6 rfl
  have hw := Ws.keep (L := [_, _, _, _, _, _]) hw
  have hw := hw.fam_nilcons 5 rfl 3 1
  refine .inl ⟨((), { r5.2 with at_ := to, frames := ⟨none, 0, [], r5.2.at_⟩ :: r5.2.frames, fa := a24, fc := c24 }), rfl, ⟨?_, ⟨hg5.inp, hg5.stk, ⟨by simp, by simp; omega⟩, hg5.out, hg5.dat⟩⟩, hw⟩
  rw [callM, hr5]
  show (if 24 < r5.2.pu.frames.length then _ else _) = _
  rw [if_neg (show ¬ 24 < r5.2.pu.frames.length by show ¬ 24 < (r5.2.frames.map MFr.pu).length; simpa using hle)]
  rfl

end Go.Proofs.Ytagoencpeflmlaa
