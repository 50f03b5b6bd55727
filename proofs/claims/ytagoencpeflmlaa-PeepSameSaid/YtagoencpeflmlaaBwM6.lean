/- Walks of the machine that the compiler hands over, and plain laws on what they compute; each theorem tells its own conditions. -/
import Derived.Test.YtagoencpeflmlaaRows
import Derived.Test.YtagoencpeflmlaaBwM5
namespace Go.Proofs.Ytagoencpeflmlaa
open Go.Bw
set_option linter.unusedVariables false
set_option linter.unusedSimpArgs false
theorem el149 : EltOk Try.prog 149 50 (.slice none 0 0) 1 24 := eltOk_of (by kernel_rfl)
theorem en102 : Enters Try.prog 102 := enters_of Try.func102 (by kernel_rfl) rfl
theorem fo137_0 : fieldOff Try.prog 137 0 = some 0 := by kernel_rfl

set_option maxHeartbeats 1000000 in
theorem enter_any (bm : Nat) (s : MSt) (HI : View) (a b : Int) (w : World) (hg : s.good HI) (hw : Ws w ((MSt.own bm s).flatMap Asr.ids) (MSt.own bm s) [HI] w) :
    Calls Try.prog 90 #[.pointer (some ⟨bm, 0, none⟩), .int .i64 a, .int .i64 b] w fun e w' => (∃ r : Unit × MSt, e = .returned (.tuple #[]) ∧ (enterM a b s.pu = .ok r.1 r.2.pu ∧ r.2.good HI) ∧ Ws w ((MSt.own bm s).flatMap Asr.ids) (MSt.own bm r.2) [HI] w') ∨ (∃ r : Int × MSt, e = .panicked (ovr r.1) ∧ enterM a b s.pu = .ov r.1 r.2.pu ∧ Ws w ((MSt.own bm s).flatMap Asr.ids) (MSt.own bm r.2) [HI] w') := by
  have hlr : s.stack.reverse.length = s.stack.length := by simp
  have hfr : s.frames.reverse.length = s.frames.length := by simp
  have hgs := hg.stk
  have hgf := hg.frs
  have hgo := hg.out
  have hgd := hg.dat
  refine enter Try.func90 rfl 63 rfl rfl ?_
  refine WC.world (W' := Ws w ((MSt.own bm s).flatMap Asr.ids) (MSt.own bm s) [HI]) (fun _ e => by subst e; exact hw) ?_
  refine WC.seq ?_
  refine WC.region ?_
  refine WL.val (.inl rfl) rfl (yl_move rfl) ?_
  refine WL.val (.inl rfl) rfl (yl_lt rfl rfl) ?_
  refine WL.val (.inl rfl) rfl (yl_move rfl) ?_
  apply WL.or 2 rfl rfl rfl rfl (.inl rfl) rfl rfl rfl rfl rfl
  ·
    intro hg0
    refine WL.val (.inr ⟨_, _, _, rfl, rfl, rfl⟩) rfl (yl_move rfl) ?_
    refine WL.val (.inr ⟨_, _, _, rfl, rfl, rfl⟩) rfl (yl_lt rfl rfl) ?_
    exact Got.intro 2 rfl rfl rfl
  refine WL.val (.inl rfl) rfl (yl_move rfl) ?_
  apply WL.or 2 rfl rfl rfl rfl (.inl rfl) rfl rfl rfl rfl rfl
  ·
    intro hg1
    refine WL.val (.inr ⟨_, _, _, rfl, rfl, rfl⟩) rfl (yl_move rfl) ?_
    refine WL.val (.inr ⟨_, _, _, rfl, rfl, rfl⟩) rfl (yl_gt rfl rfl) ?_
    exact Got.intro 2 rfl rfl rfl
  refine WL.val (.inl rfl) rfl (yl_move rfl) ?_
  apply WL.or 4 rfl rfl rfl rfl (.inl rfl) rfl rfl rfl rfl rfl
  ·
    intro hg2
    refine WL.val (.inr ⟨_, _, _, rfl, rfl, rfl⟩) rfl (yl_move rfl) ?_
    refine WL.val (.inr ⟨_, _, _, rfl, rfl, rfl⟩) rfl (yl_move rfl) ?_
    refine WL.val (.inr ⟨_, _, _, rfl, rfl, rfl⟩) rfl (yl_subw rfl rfl) ?_
    refine WL.val (.inr ⟨_, _, _, rfl, rfl, rfl⟩) rfl (yl_gt rfl rfl) ?_
    exact Got.intro 4 rfl rfl rfl
  refine WL.val (.inl rfl) rfl (yl_move rfl) ?_
  apply WL.or 7 rfl rfl rfl rfl (.inl rfl) rfl rfl rfl rfl rfl
  ·
    intro hg3
    refine WL.val (.inr ⟨_, _, _, rfl, rfl, rfl⟩) rfl (yl_move rfl) ?_
    refine WL.val (.inr ⟨_, _, _, rfl, rfl, rfl⟩) rfl (yl_move rfl) ?_
    refine WL.val (.inr ⟨_, _, _, rfl, rfl, rfl⟩) rfl (yl_nil rfl) ?_
    refine WL.val (.inr ⟨_, _, _, rfl, rfl, rfl⟩) rfl (yl_fa fo108_3 rfl) ?_
    refine WL.val (.inr ⟨_, _, _, rfl, rfl, rfl⟩) rfl (yl_ldk 0 rfl rfl rfl na50) ?_
    refine WL.val (.inr ⟨_, _, _, rfl, rfl, rfl⟩) rfl (yl_len es50 rfl) ?_
    refine WL.val (.inr ⟨_, _, _, rfl, rfl, rfl⟩) rfl (yl_gt rfl rfl) ?_
    exact Got.intro 7 rfl rfl rfl
  refine WL.callwx (ι := Unit) (κ := Unit) [] _ (.inl rfl) rfl en64 rfl rfl (fun _ => .tuple #[]) (fun _ => []) (fun _ => ((((decide (a < 0) || decide (b < 0)) || decide (2048 < a)) || decide (IntKind.i64.wrap (2048 - a) < b)) || decide (((s.stack.reverse.length : Nat) : Int) < a)) = false) (fun _ => ovr 6) (fun _ => []) (fun _ => ((((decide (a < 0) || decide (b < 0)) || decide (2048 < a)) || decide (IntKind.i64.wrap (2048 - a) < b)) || decide (((s.stack.reverse.length : Nat) : Int) < a)) = true) ([]) (by simp) (fun w hw => (stop_any _ 6 w).mono fun e w' h => by
      rcases h with ⟨_, h1, h2, h3⟩ | ⟨_, h1, h2, h3⟩
      · exact .inl ⟨(), h1, h2, hw.ext h3⟩
      · exact .inr ⟨(), h1, h2, hw.ext h3⟩) ?_ ?_
  ·
    intro _ hn32
    refine WE.then_panic ?_
    refine WE.panics fun w' hw => ?_
    rw [hlr] at hn32
    exact .inr ⟨(6, s), rfl, by rw [enterM, show s.pu.stack.length = s.stack.length from rfl, if_pos hn32], hw⟩
  intro _ hn32
  refine WL.nil ?_
  refine WE.then_normal ?_
  refine WC.seq ?_
  have hok : 0 ≤ a ∧ 0 ≤ b ∧ a ≤ 2048 ∧ b ≤ 2048 - a ∧ a ≤ s.stack.length := by
    rw [hlr] at hn32
    simp only [Bool.or_eq_false_iff, decide_eq_false_iff_not] at hn32
    obtain ⟨⟨⟨⟨h1, h2⟩, h3⟩, h4⟩, h5⟩ := hn32
    rw [wrap_in (by omega)] at h4
    omega
  obtain ⟨f, r, hfs⟩ : ∃ f r, s.frames = f :: r := by
    cases h : s.frames with
    | nil => rw [h] at hgf; simp at hgf
    | cons f r => exact ⟨f, r, rfl⟩
  have hfl : s.frames.length = r.length + 1 := by rw [hfs]; rfl
  refine WC.region ?_
  refine WL.val (.inl rfl) rfl (yl_move rfl) ?_
  refine WL.val (.inl rfl) rfl (yl_nil rfl) ?_
  refine WL.val (.inl rfl) rfl (yl_fa fo108_3 rfl) ?_
  refine WL.val (.inl rfl) rfl (yl_ldk 0 rfl rfl rfl na50) ?_
  refine WL.val (.inl rfl) rfl (yl_len es50 rfl) ?_
  refine WL.val (.inl rfl) rfl (yl_move rfl) ?_
  refine WL.val (.inl rfl) rfl (yl_subv (((s.stack.length - a.toNat) : Nat) : Int) rfl rfl (by rw [hlr]; omega) (by omega)) ?_
  refine WL.val (.inl rfl) rfl (yl_assign rfl) ?_
  refine WL.nil ?_
  refine WE.then_normal ?_
  refine WC.seq ?_
  refine WC.capT 1 rfl fun hsp hsc hsm => ?_
  refine WC.drawU (fun _ => true) [] [14] (.q false 0 (.q false 2 (.q false 3 (.q false 4 (.q true 5 (.q false 6 (.q false 7 (.q false 8 (.e 1 (.e 9 (.e 10 (.e 11 (.q false 12 (.q false 13 .nil)) .stop) .stop) .stop) (.e 9 (.e 1 (.e 10 (.e 11 (.q false 12 (.q false 13 .nil)) .stop) .stop) (.e 10 (.e 1 (.e 11 (.q false 12 (.q false 13 .nil)) .stop) .stop) .stop)) .stop)))))))))) mixed (by kernel_rfl) (fun _ _ _ d _ _ h => by cases d <;> exact h) ?_
  refine WU.q rfl (.inl rfl) rfl (fun _ h => h) (yl_move rfl) ?_
  refine WU.q rfl (.inl rfl) rfl (fun _ h => h) (yl_move rfl) ?_
  refine WU.q rfl (.inl rfl) rfl (fun _ h => h) (yl_nil rfl) ?_
  refine WU.q rfl (.inl rfl) rfl (fun _ h => h) (yl_fa fo108_3 rfl) ?_
  refine WU.q rfl (.inl rfl) rfl (fun _ h => h) (yl_ldk 0 rfl rfl rfl na50) ?_
  refine WU.q rfl (.inl rfl) rfl (fun _ h => h) (yl_move rfl) ?_
  refine WU.q rfl (.inl rfl) rfl (fun _ h => h) (yl_slln (s.stack.length - a.toNat) es50 rfl rfl rfl (by omega) hsc) ?_
  refine WU.q rfl (.inl rfl) rfl (fun _ h => h) (yl_move rfl) ?_
  refine WU.e rfl (fun _ h => h) ?_ ?_
  ·
    refine WL.front 5 rfl ?_
    refine WL.front 5 rfl ?_
    refine WL.front 5 rfl ?_
    refine WL.front 5 rfl ?_
    refine WL.front 5 rfl ?_
    refine WL.front 5 rfl ?_
    refine WL.callw (ι := Nat) [_, _, _, _, _, _] _ (.inl rfl) rfl en85 rfl rfl (fun r => .pointer (some ⟨r, 0 + (s.frames.length - 1) * 2, none⟩)) (fun _ => (MSt.own bm s)) (fun r => s.fa = some ⟨r, 0, none⟩) [HI] (by simp) (fun w hw => frame_any bm s HI w hg hw) ?_
    intro fb41 hfb41
    refine WL.nil ?_
    refine WE.toU ?_
    refine WU.e rfl (fun _ h => h) ?_ WU.stop
    refine WL.make (.inl rfl) rfl el50 rfl rfl (by omega) (by omega) (by omega) (by omega) fun b49 => ?_
    refine WL.reblk 0 (.cells ((List.replicate b.toNat (0 : Int)).flatMap iv).toArray 3 (0, 0)) rfl (by rw [made_iv]) ?_
    refine WL.nil ?_
    refine WE.toU ?_
    refine WU.e rfl (fun _ h => by have h := Ws.drop (L := [_]) (L' := _) h; exact h) ?_ WU.stop
    refine WL.bsliceF (.inl rfl) rfl el149 rfl rfl rfl rfl fun b50 => ?_
    refine WL.nil ?_
    refine WE.toU ?_
    refine WU.e rfl (fun _ h => by have h := Ws.drop (L := [_, _]) (L' := _) h; exact h) ?_ WU.stop
    refine WL.calln (ι := Option Addr × Nat) (.inl rfl) rfl en102 rfl (fun r => .slice r.1 ((s.stack.take a.toNat).reverse ++ List.replicate b.toNat 0).length r.2) (fun r => [osT 3 1 iv r.1 r.2 (((s.stack.take a.toNat).reverse ++ List.replicate b.toNat 0))]) (fun _ => True) (fun w hw => by
        have h1 : Sl rdI 1 (hv w) s.sa s.sc s.stack.reverse := hw.slTh 3 rfl iv_len rdI_of
        have h1 := h1.drop (s.stack.length - a.toNat) (by omega)
        have h2 : Sl rdI 1 (hv w) (some ⟨b49, 0, none⟩) b.toNat (List.replicate b.toNat (0 : Int)) := ⟨by simp, by omega, by simp, fun j x hj => ⟨b49, 0, rfl, hw.hvb 1 rfl (by
          show ((List.replicate b.toNat (0 : Int)).flatMap iv)[0 + j * 1]? = _
          have := flat_get iv_len hj (j := 0) (by decide)
          rw [Nat.zero_add]
          rw [Nat.add_zero] at this
          rw [this]; rfl)⟩⟩
        have hlen : (s.stack.reverse.drop (s.stack.length - a.toNat)).length = s.stack.reverse.length - (s.stack.length - a.toNat) := by simp
        have hlr2 : (List.replicate b.toNat (0 : Int)).length = b.toNat := by simp
        have hls : Sl rdS 1 (hv w) (some ⟨b50, 0, none⟩) 2 [((if s.sc - (s.stack.length - a.toNat) = 0 then s.sa else s.sa.map (·.add ((s.stack.length - a.toNat) * 1)), s.sc - (s.stack.length - a.toNat)), s.stack.reverse.drop (s.stack.length - a.toNat)), ((some ⟨b49, 0, none⟩, b.toNat), List.replicate b.toNat (0 : Int))] := ⟨by simp, by decide, by simp, fun j x hj => ⟨b50, 0, rfl, by
          match j, hj with
          | 0, hj => simp only [List.getElem?_cons_zero, Option.some.injEq] at hj; subst hj; exact ⟨by rw [hlen]; exact hw.hvb 0 rfl rfl, h1⟩
          | 1, hj => simp only [List.getElem?_cons_succ, List.getElem?_cons_zero, Option.some.injEq] at hj; subst hj; exact ⟨by rw [hlr2]; exact hw.hvb 0 rfl rfl, h2⟩⟩⟩
        have hfl : [((if s.sc - (s.stack.length - a.toNat) = 0 then s.sa else s.sa.map (·.add ((s.stack.length - a.toNat) * 1)), s.sc - (s.stack.length - a.toNat)), s.stack.reverse.drop (s.stack.length - a.toNat)), ((some (⟨b49, 0, none⟩ : Addr), b.toNat), List.replicate b.toNat (0 : Int))].flatMap (·.2) = ((s.stack.take a.toNat).reverse ++ List.replicate b.toNat 0) := by
          simp only [List.flatMap_cons, List.flatMap_nil, List.append_nil]
          rw [List.drop_reverse, show s.stack.length - (s.stack.length - a.toNat) = a.toNat by omega]
        have hc := concatInts_any (hv w) (some ⟨b50, 0, none⟩) 2 _ w (hv_le w) hls (by simp [totL]; omega) (by simp)
        rw [hfl] at hc
        exact hc.mono fun e w' ⟨r, h3, h4⟩ => ⟨r, h3, trivial, h4.drops (by simp)⟩) ?_
    intro r51 _
    refine WL.nil ?_
    refine WE.toU ?_
    refine WU.q rfl (.inl rfl) rfl (fun _ h => by have h := Ws.drop (L := [_, _, _]) (L' := _) h; exact h) (yl_nil rfl) ?_
    refine WU.q rfl (.inl rfl) rfl (fun _ h => by have h := Ws.drop (L := [_, _, _]) (L' := _) h; exact h) (yl_fa fo137_0 rfl) ?_
    refine WU.nil (fun _ h => by have h := Ws.drop (L := [_, _, _]) (L' := _) h; exact h) ?_
    refine WS.e rfl ?_
    refine WL.storeT (y := f) 5 r.length 0 ({ f with la := r51.1, lc := r51.2, loc := ((s.stack.take a.toNat).reverse ++ List.replicate b.toNat 0) }) (.inl rfl) rfl rfl rfl hfb41 (by rw [hfl]; simp) MFr.cells_len (by rw [hfs, List.reverse_cons, List.getElem?_append_right (by simp)]; simp) sz50 rfl rfl (by decide) rfl ?_
    rw [show s.frames.reverse.set r.length { f with la := r51.1, lc := r51.2, loc := ((s.stack.take a.toNat).reverse ++ List.replicate b.toNat 0) } = ({ f with la := r51.1, lc := r51.2, loc := ((s.stack.take a.toNat).reverse ++ List.replicate b.toNat 0) } :: r).reverse by rw [hfs, rev_set]]
    refine WL.nil ?_
    refine WE.toS ?_
    refine WS.nil ?_
    refine WE.then_normal ?_
    refine WC.region ?_
    refine WL.val (.inl rfl) rfl (yl_move rfl) ?_
    refine WL.val (.inl rfl) rfl (yl_move rfl) ?_
    refine WL.val (.inl rfl) rfl (yl_nil rfl) ?_
    refine WL.val (.inl rfl) rfl (yl_fa fo108_3 rfl) ?_
    refine WL.val (.inl rfl) rfl (yl_ldk 3 rfl rfl rfl na50) ?_
    refine WL.val (.inl rfl) rfl (yl_move rfl) ?_
    refine WL.val (.inl rfl) rfl (yl_slhn (s.stack.drop a.toNat).reverse.length es50 rfl hsp rfl (by simp) (by simp; omega)) ?_
    refine WL.val (.inl rfl) rfl (yl_nil rfl) ?_
    refine WL.val (.inl rfl) rfl (yl_fa fo108_3 rfl) ?_
    refine WL.store 3 (.inl rfl) rfl rfl rfl sz50 rfl rfl rfl ?_
    refine WL.truncT2 4 (s.stack.drop a.toNat).reverse rfl iv_len (by simp) (by rw [List.take_reverse]; congr 2; simp; omega) ?_
    refine WL.nil ?_
    refine WE.end0 rfl fun w' hw => ?_
    have hw := hw.fronti 7 rfl
    have hw := hw.fronti 7 rfl
    have hw := hw.fronti 7 rfl
    have hw := hw.fronti 7 rfl
    have hw := hw.fronti 7 rfl
    have hw := hw.fronti 5 rfl
    have hw := hw.fronti 8 rfl
    have hw := Ws.keep (L := [_, _, _, _, _, _, _]) hw
    rw [hfs] at hw
    have hw := hw.fam_open
    have hw := Ws.drop (L := [_]) hw
    have hw := hw.fronti 1 rfl
    have hw := hw.fam_shut
    have hw := hw.fronti 0 rfl
    have hw := hw.fronti 5 rfl
    have hw := hw.fronti 5 rfl
    have hw := hw.fronti 5 rfl
    have hw := hw.fronti 5 rfl
    have hw := hw.fronti 5 rfl
    have hw := Ws.keep (L := [_, _, _, _, _, _]) hw
    have hob : setIn s.obj (0 + 3) (vcells (.slice s.sa (s.stack.drop a.toNat).reverse.length s.sc)) = MSt.obj { s with stack := s.stack.drop a.toNat, frames := { f with la := r51.1, lc := r51.2, loc := ((s.stack.take a.toNat).reverse ++ List.replicate b.toNat 0) } :: r } := by
      unfold MSt.obj
      rw [show s.frames.reverse.length = ({ f with la := r51.1, lc := r51.2, loc := ((s.stack.take a.toNat).reverse ++ List.replicate b.toNat 0) } :: r).reverse.length by simp [hfs]]
      rfl
    rw [hob] at hw
    refine .inl ⟨((), { s with stack := s.stack.drop a.toNat, frames := { f with la := r51.1, lc := r51.2, loc := ((s.stack.take a.toNat).reverse ++ List.replicate b.toNat 0) } :: r }), rfl, ⟨?_, ⟨hg.inp, by show (s.stack.drop a.toNat).length ≤ 2048; simp; omega, by show 1 ≤ (r.length + 1) ∧ r.length + 1 ≤ 25; omega, hg.out, hg.dat⟩⟩, hw⟩
    rw [hlr] at hn32
    unfold enterM
    rw [if_neg (by rw [show s.pu.stack.length = s.stack.length from rfl, hn32]; simp), show s.pu.frames = f.pu :: r.map MFr.pu by show s.frames.map MFr.pu = _; rw [hfs]; rfl]
    rfl
  refine WU.e rfl (fun _ h => h) ?_ WU.stop
  refine WL.make (.inl rfl) rfl el50 rfl rfl (by omega) (by omega) (by omega) (by omega) fun b49 => ?_
  refine WL.reblk 0 (.cells ((List.replicate b.toNat (0 : Int)).flatMap iv).toArray 3 (0, 0)) rfl (by rw [made_iv]) ?_
  refine WL.nil ?_
  refine WE.toU ?_
  refine WU.e rfl (fun _ h => by have h := Ws.drop (L := [_]) (L' := _) h; exact h) ?_ ?_
  ·
    refine WL.front 6 rfl ?_
    refine WL.front 6 rfl ?_
    refine WL.front 6 rfl ?_
    refine WL.front 6 rfl ?_
    refine WL.front 6 rfl ?_
    refine WL.front 6 rfl ?_
    refine WL.callw (ι := Nat) [_, _, _, _, _, _] _ (.inl rfl) rfl en85 rfl rfl (fun r => .pointer (some ⟨r, 0 + (s.frames.length - 1) * 2, none⟩)) (fun _ => (MSt.own bm s)) (fun r => s.fa = some ⟨r, 0, none⟩) [HI] (by simp) (fun w hw => frame_any bm s HI w hg hw) ?_
    intro fb41 hfb41
    refine WL.nil ?_
    refine WE.toU ?_
    refine WU.e rfl (fun _ h => by have h := h.fronti 5 rfl; have h := h.fronti 5 rfl; have h := h.fronti 5 rfl; have h := h.fronti 5 rfl; have h := h.fronti 5 rfl; have h := h.fronti 5 rfl; have h := Ws.keep (L := [_, _, _, _, _, _]) h; exact h) ?_ WU.stop
    refine WL.bsliceF (.inl rfl) rfl el149 rfl rfl rfl rfl fun b50 => ?_
    refine WL.nil ?_
    refine WE.toU ?_
    refine WU.e rfl (fun _ h => by have h := h.fronti 6 rfl; have h := h.fronti 6 rfl; have h := h.fronti 6 rfl; have h := h.fronti 6 rfl; have h := h.fronti 6 rfl; have h := h.fronti 6 rfl; have h := Ws.keep (L := [_, _, _, _, _, _]) h; exact h) ?_ WU.stop
    refine WL.calln (ι := Option Addr × Nat) (.inl rfl) rfl en102 rfl (fun r => .slice r.1 ((s.stack.take a.toNat).reverse ++ List.replicate b.toNat 0).length r.2) (fun r => [osT 3 1 iv r.1 r.2 (((s.stack.take a.toNat).reverse ++ List.replicate b.toNat 0))]) (fun _ => True) (fun w hw => by
        have h1 : Sl rdI 1 (hv w) s.sa s.sc s.stack.reverse := hw.slTh 2 rfl iv_len rdI_of
        have h1 := h1.drop (s.stack.length - a.toNat) (by omega)
        have h2 : Sl rdI 1 (hv w) (some ⟨b49, 0, none⟩) b.toNat (List.replicate b.toNat (0 : Int)) := ⟨by simp, by omega, by simp, fun j x hj => ⟨b49, 0, rfl, hw.hvb 7 rfl (by
          show ((List.replicate b.toNat (0 : Int)).flatMap iv)[0 + j * 1]? = _
          have := flat_get iv_len hj (j := 0) (by decide)
          rw [Nat.zero_add]
          rw [Nat.add_zero] at this
          rw [this]; rfl)⟩⟩
        have hlen : (s.stack.reverse.drop (s.stack.length - a.toNat)).length = s.stack.reverse.length - (s.stack.length - a.toNat) := by simp
        have hlr2 : (List.replicate b.toNat (0 : Int)).length = b.toNat := by simp
        have hls : Sl rdS 1 (hv w) (some ⟨b50, 0, none⟩) 2 [((if s.sc - (s.stack.length - a.toNat) = 0 then s.sa else s.sa.map (·.add ((s.stack.length - a.toNat) * 1)), s.sc - (s.stack.length - a.toNat)), s.stack.reverse.drop (s.stack.length - a.toNat)), ((some ⟨b49, 0, none⟩, b.toNat), List.replicate b.toNat (0 : Int))] := ⟨by simp, by decide, by simp, fun j x hj => ⟨b50, 0, rfl, by
          match j, hj with
          | 0, hj => simp only [List.getElem?_cons_zero, Option.some.injEq] at hj; subst hj; exact ⟨by rw [hlen]; exact hw.hvb 0 rfl rfl, h1⟩
          | 1, hj => simp only [List.getElem?_cons_succ, List.getElem?_cons_zero, Option.some.injEq] at hj; subst hj; exact ⟨by rw [hlr2]; exact hw.hvb 0 rfl rfl, h2⟩⟩⟩
        have hfl : [((if s.sc - (s.stack.length - a.toNat) = 0 then s.sa else s.sa.map (·.add ((s.stack.length - a.toNat) * 1)), s.sc - (s.stack.length - a.toNat)), s.stack.reverse.drop (s.stack.length - a.toNat)), ((some (⟨b49, 0, none⟩ : Addr), b.toNat), List.replicate b.toNat (0 : Int))].flatMap (·.2) = ((s.stack.take a.toNat).reverse ++ List.replicate b.toNat 0) := by
          simp only [List.flatMap_cons, List.flatMap_nil, List.append_nil]
          rw [List.drop_reverse, show s.stack.length - (s.stack.length - a.toNat) = a.toNat by omega]
        have hc := concatInts_any (hv w) (some ⟨b50, 0, none⟩) 2 _ w (hv_le w) hls (by simp [totL]; omega) (by simp)
        rw [hfl] at hc
        exact hc.mono fun e w' ⟨r, h3, h4⟩ => ⟨r, h3, trivial, h4.drops (by simp)⟩) ?_
    intro r51 _
    refine WL.nil ?_
    refine WE.toU ?_
    refine WU.q rfl (.inl rfl) rfl (fun _ h => by have h := h.fronti 7 rfl; have h := h.fronti 7 rfl; have h := h.fronti 7 rfl; have h := h.fronti 7 rfl; have h := h.fronti 7 rfl; have h := h.fronti 7 rfl; have h := Ws.keep (L := [_, _, _, _, _, _]) h; exact h) (yl_nil rfl) ?_
    refine WU.q rfl (.inl rfl) rfl (fun _ h => by have h := h.fronti 7 rfl; have h := h.fronti 7 rfl; have h := h.fronti 7 rfl; have h := h.fronti 7 rfl; have h := h.fronti 7 rfl; have h := h.fronti 7 rfl; have h := Ws.keep (L := [_, _, _, _, _, _]) h; exact h) (yl_fa fo137_0 rfl) ?_
    refine WU.nil (fun _ h => by have h := h.fronti 7 rfl; have h := h.fronti 7 rfl; have h := h.fronti 7 rfl; have h := h.fronti 7 rfl; have h := h.fronti 7 rfl; have h := h.fronti 7 rfl; have h := Ws.keep (L := [_, _, _, _, _, _]) h; exact h) ?_
    refine WS.e rfl ?_
    refine WL.storeT (y := f) 4 r.length 0 ({ f with la := r51.1, lc := r51.2, loc := ((s.stack.take a.toNat).reverse ++ List.replicate b.toNat 0) }) (.inl rfl) rfl rfl rfl hfb41 (by rw [hfl]; simp) MFr.cells_len (by rw [hfs, List.reverse_cons, List.getElem?_append_right (by simp)]; simp) sz50 rfl rfl (by decide) rfl ?_
    rw [show s.frames.reverse.set r.length { f with la := r51.1, lc := r51.2, loc := ((s.stack.take a.toNat).reverse ++ List.replicate b.toNat 0) } = ({ f with la := r51.1, lc := r51.2, loc := ((s.stack.take a.toNat).reverse ++ List.replicate b.toNat 0) } :: r).reverse by rw [hfs, rev_set]]
    refine WL.nil ?_
    refine WE.toS ?_
    refine WS.nil ?_
    refine WE.then_normal ?_
    refine WC.region ?_
    refine WL.val (.inl rfl) rfl (yl_move rfl) ?_
    refine WL.val (.inl rfl) rfl (yl_move rfl) ?_
    refine WL.val (.inl rfl) rfl (yl_nil rfl) ?_
    refine WL.val (.inl rfl) rfl (yl_fa fo108_3 rfl) ?_
    refine WL.val (.inl rfl) rfl (yl_ldk 2 rfl rfl rfl na50) ?_
    refine WL.val (.inl rfl) rfl (yl_move rfl) ?_
    refine WL.val (.inl rfl) rfl (yl_slhn (s.stack.drop a.toNat).reverse.length es50 rfl hsp rfl (by simp) (by simp; omega)) ?_
    refine WL.val (.inl rfl) rfl (yl_nil rfl) ?_
    refine WL.val (.inl rfl) rfl (yl_fa fo108_3 rfl) ?_
    refine WL.store 2 (.inl rfl) rfl rfl rfl sz50 rfl rfl rfl ?_
    refine WL.truncT2 3 (s.stack.drop a.toNat).reverse rfl iv_len (by simp) (by rw [List.take_reverse]; congr 2; simp; omega) ?_
    refine WL.nil ?_
    refine WE.end0 rfl fun w' hw => ?_
    have hw := hw.fronti 6 rfl
    have hw := hw.fronti 6 rfl
    have hw := hw.fronti 6 rfl
    have hw := hw.fronti 6 rfl
    have hw := hw.fronti 6 rfl
    have hw := hw.fronti 5 rfl
    have hw := hw.fronti 7 rfl
    have hw := Ws.keep (L := [_, _, _, _, _, _, _]) hw
    rw [hfs] at hw
    have hw := hw.fam_open
    have hw := Ws.drop (L := [_]) hw
    have hw := hw.fronti 1 rfl
    have hw := hw.fam_shut
    have hw := hw.fronti 0 rfl
    have hw := hw.fronti 5 rfl
    have hw := hw.fronti 5 rfl
    have hw := hw.fronti 5 rfl
    have hw := hw.fronti 5 rfl
    have hw := hw.fronti 5 rfl
    have hw := Ws.keep (L := [_, _, _, _, _, _]) hw
    have hob : setIn s.obj (0 + 3) (vcells (.slice s.sa (s.stack.drop a.toNat).reverse.length s.sc)) = MSt.obj { s with stack := s.stack.drop a.toNat, frames := { f with la := r51.1, lc := r51.2, loc := ((s.stack.take a.toNat).reverse ++ List.replicate b.toNat 0) } :: r } := by
      unfold MSt.obj
      rw [show s.frames.reverse.length = ({ f with la := r51.1, lc := r51.2, loc := ((s.stack.take a.toNat).reverse ++ List.replicate b.toNat 0) } :: r).reverse.length by simp [hfs]]
      rfl
    rw [hob] at hw
    refine .inl ⟨((), { s with stack := s.stack.drop a.toNat, frames := { f with la := r51.1, lc := r51.2, loc := ((s.stack.take a.toNat).reverse ++ List.replicate b.toNat 0) } :: r }), rfl, ⟨?_, ⟨hg.inp, by show (s.stack.drop a.toNat).length ≤ 2048; simp; omega, by show 1 ≤ (r.length + 1) ∧ r.length + 1 ≤ 25; omega, hg.out, hg.dat⟩⟩, hw⟩
    rw [hlr] at hn32
    unfold enterM
    rw [if_neg (by rw [show s.pu.stack.length = s.stack.length from rfl, hn32]; simp), show s.pu.frames = f.pu :: r.map MFr.pu by show s.frames.map MFr.pu = _; rw [hfs]; rfl]
    rfl
  refine WU.e rfl (fun _ h => by have h := Ws.drop (L := [_]) (L' := _) h; exact h) ?_ WU.stop
  refine WL.bsliceF (.inl rfl) rfl el149 rfl rfl rfl rfl fun b50 => ?_
  refine WL.nil ?_
  refine WE.toU ?_
  refine WU.e rfl (fun _ h => by have h := Ws.drop (L := [_, _]) (L' := _) h; exact h) ?_ WU.stop
  refine WL.front 7 rfl ?_
  refine WL.front 7 rfl ?_
  refine WL.front 7 rfl ?_
  refine WL.front 7 rfl ?_
  refine WL.front 7 rfl ?_
  refine WL.front 7 rfl ?_
  refine WL.callw (ι := Nat) [_, _, _, _, _, _] _ (.inl rfl) rfl en85 rfl rfl (fun r => .pointer (some ⟨r, 0 + (s.frames.length - 1) * 2, none⟩)) (fun _ => (MSt.own bm s)) (fun r => s.fa = some ⟨r, 0, none⟩) [HI] (by simp) (fun w hw => frame_any bm s HI w hg hw) ?_
  intro fb41 hfb41
  refine WL.nil ?_
  refine WE.toU ?_
  refine WU.e rfl (fun _ h => by have h := h.fronti 5 rfl; have h := h.fronti 5 rfl; have h := h.fronti 5 rfl; have h := h.fronti 5 rfl; have h := h.fronti 5 rfl; have h := h.fronti 5 rfl; have h := Ws.keep (L := [_, _, _, _, _, _]) h; exact h) ?_ WU.stop
  refine WL.calln (ι := Option Addr × Nat) (.inl rfl) rfl en102 rfl (fun r => .slice r.1 ((s.stack.take a.toNat).reverse ++ List.replicate b.toNat 0).length r.2) (fun r => [osT 3 1 iv r.1 r.2 (((s.stack.take a.toNat).reverse ++ List.replicate b.toNat 0))]) (fun _ => True) (fun w hw => by
      have h1 : Sl rdI 1 (hv w) s.sa s.sc s.stack.reverse := hw.slTh 1 rfl iv_len rdI_of
      have h1 := h1.drop (s.stack.length - a.toNat) (by omega)
      have h2 : Sl rdI 1 (hv w) (some ⟨b49, 0, none⟩) b.toNat (List.replicate b.toNat (0 : Int)) := ⟨by simp, by omega, by simp, fun j x hj => ⟨b49, 0, rfl, hw.hvb 7 rfl (by
        show ((List.replicate b.toNat (0 : Int)).flatMap iv)[0 + j * 1]? = _
        have := flat_get iv_len hj (j := 0) (by decide)
        rw [Nat.zero_add]
        rw [Nat.add_zero] at this
        rw [this]; rfl)⟩⟩
      have hlen : (s.stack.reverse.drop (s.stack.length - a.toNat)).length = s.stack.reverse.length - (s.stack.length - a.toNat) := by simp
      have hlr2 : (List.replicate b.toNat (0 : Int)).length = b.toNat := by simp
      have hls : Sl rdS 1 (hv w) (some ⟨b50, 0, none⟩) 2 [((if s.sc - (s.stack.length - a.toNat) = 0 then s.sa else s.sa.map (·.add ((s.stack.length - a.toNat) * 1)), s.sc - (s.stack.length - a.toNat)), s.stack.reverse.drop (s.stack.length - a.toNat)), ((some ⟨b49, 0, none⟩, b.toNat), List.replicate b.toNat (0 : Int))] := ⟨by simp, by decide, by simp, fun j x hj => ⟨b50, 0, rfl, by
        match j, hj with
        | 0, hj => simp only [List.getElem?_cons_zero, Option.some.injEq] at hj; subst hj; exact ⟨by rw [hlen]; exact hw.hvb 6 rfl rfl, h1⟩
        | 1, hj => simp only [List.getElem?_cons_succ, List.getElem?_cons_zero, Option.some.injEq] at hj; subst hj; exact ⟨by rw [hlr2]; exact hw.hvb 6 rfl rfl, h2⟩⟩⟩
      have hfl : [((if s.sc - (s.stack.length - a.toNat) = 0 then s.sa else s.sa.map (·.add ((s.stack.length - a.toNat) * 1)), s.sc - (s.stack.length - a.toNat)), s.stack.reverse.drop (s.stack.length - a.toNat)), ((some (⟨b49, 0, none⟩ : Addr), b.toNat), List.replicate b.toNat (0 : Int))].flatMap (·.2) = ((s.stack.take a.toNat).reverse ++ List.replicate b.toNat 0) := by
        simp only [List.flatMap_cons, List.flatMap_nil, List.append_nil]
        rw [List.drop_reverse, show s.stack.length - (s.stack.length - a.toNat) = a.toNat by omega]
      have hc := concatInts_any (hv w) (some ⟨b50, 0, none⟩) 2 _ w (hv_le w) hls (by simp [totL]; omega) (by simp)
      rw [hfl] at hc
      exact hc.mono fun e w' ⟨r, h3, h4⟩ => ⟨r, h3, trivial, h4.drops (by simp)⟩) ?_
  intro r51 _
  refine WL.nil ?_
  refine WE.toU ?_
  refine WU.q rfl (.inl rfl) rfl (fun _ h => by have h := h.fronti 6 rfl; have h := h.fronti 6 rfl; have h := h.fronti 6 rfl; have h := h.fronti 6 rfl; have h := h.fronti 6 rfl; have h := h.fronti 6 rfl; have h := Ws.keep (L := [_, _, _, _, _, _]) h; exact h) (yl_nil rfl) ?_
  refine WU.q rfl (.inl rfl) rfl (fun _ h => by have h := h.fronti 6 rfl; have h := h.fronti 6 rfl; have h := h.fronti 6 rfl; have h := h.fronti 6 rfl; have h := h.fronti 6 rfl; have h := h.fronti 6 rfl; have h := Ws.keep (L := [_, _, _, _, _, _]) h; exact h) (yl_fa fo137_0 rfl) ?_
  refine WU.nil (fun _ h => by have h := h.fronti 6 rfl; have h := h.fronti 6 rfl; have h := h.fronti 6 rfl; have h := h.fronti 6 rfl; have h := h.fronti 6 rfl; have h := h.fronti 6 rfl; have h := Ws.keep (L := [_, _, _, _, _, _]) h; exact h) ?_
  refine WS.e rfl ?_
  refine WL.storeT (y := f) 3 r.length 0 ({ f with la := r51.1, lc := r51.2, loc := ((s.stack.take a.toNat).reverse ++ List.replicate b.toNat 0) }) (.inl rfl) rfl rfl rfl hfb41 (by rw [hfl]; simp) MFr.cells_len (by rw [hfs, List.reverse_cons, List.getElem?_append_right (by simp)]; simp) sz50 rfl rfl (by decide) rfl ?_
  rw [show s.frames.reverse.set r.length { f with la := r51.1, lc := r51.2, loc := ((s.stack.take a.toNat).reverse ++ List.replicate b.toNat 0) } = ({ f with la := r51.1, lc := r51.2, loc := ((s.stack.take a.toNat).reverse ++ List.replicate b.toNat 0) } :: r).reverse by rw [hfs, rev_set]]
  refine WL.nil ?_
  refine WE.toS ?_
  refine WS.nil ?_
  refine WE.then_normal ?_
  refine WC.region ?_
  refine WL.val (.inl rfl) rfl (yl_move rfl) ?_
  refine WL.val (.inl rfl) rfl (yl_move rfl) ?_
  refine WL.val (.inl rfl) rfl (yl_nil rfl) ?_
  refine WL.val (.inl rfl) rfl (yl_fa fo108_3 rfl) ?_
  refine WL.val (.inl rfl) rfl (yl_ldk 1 rfl rfl rfl na50) ?_
  refine WL.val (.inl rfl) rfl (yl_move rfl) ?_
  refine WL.val (.inl rfl) rfl (yl_slhn (s.stack.drop a.toNat).reverse.length es50 rfl hsp rfl (by simp) (by simp; omega)) ?_
  refine WL.val (.inl rfl) rfl (yl_nil rfl) ?_
  refine WL.val (.inl rfl) rfl (yl_fa fo108_3 rfl) ?_
  refine WL.store 1 (.inl rfl) rfl rfl rfl sz50 rfl rfl rfl ?_
  refine WL.truncT2 2 (s.stack.drop a.toNat).reverse rfl iv_len (by simp) (by rw [List.take_reverse]; congr 2; simp; omega) ?_
  refine WL.nil ?_
  refine WE.end0 rfl fun w' hw => ?_
  have hw := hw.fronti 5 rfl
  have hw := hw.fronti 5 rfl
  have hw := hw.fronti 5 rfl
  have hw := hw.fronti 5 rfl
  have hw := hw.fronti 5 rfl
  have hw := hw.fronti 5 rfl
  have hw := hw.fronti 6 rfl
  have hw := Ws.keep (L := [_, _, _, _, _, _, _]) hw
  rw [hfs] at hw
  have hw := hw.fam_open
  have hw := Ws.drop (L := [_]) hw
  have hw := hw.fronti 1 rfl
  have hw := hw.fam_shut
  have hw := hw.fronti 0 rfl
  have hw := hw.fronti 5 rfl
  have hw := hw.fronti 5 rfl
  have hw := hw.fronti 5 rfl
  have hw := hw.fronti 5 rfl
  have hw := hw.fronti 5 rfl
  have hw := Ws.keep (L := [_, _, _, _, _, _]) hw
  have hob : setIn s.obj (0 + 3) (vcells (.slice s.sa (s.stack.drop a.toNat).reverse.length s.sc)) = MSt.obj { s with stack := s.stack.drop a.toNat, frames := { f with la := r51.1, lc := r51.2, loc := ((s.stack.take a.toNat).reverse ++ List.replicate b.toNat 0) } :: r } := by
    unfold MSt.obj
    rw [show s.frames.reverse.length = ({ f with la := r51.1, lc := r51.2, loc := ((s.stack.take a.toNat).reverse ++ List.replicate b.toNat 0) } :: r).reverse.length by simp [hfs]]
    rfl
  rw [hob] at hw
  refine .inl ⟨((), { s with stack := s.stack.drop a.toNat, frames := { f with la := r51.1, lc := r51.2, loc := ((s.stack.take a.toNat).reverse ++ List.replicate b.toNat 0) } :: r }), rfl, ⟨?_, ⟨hg.inp, by show (s.stack.drop a.toNat).length ≤ 2048; simp; omega, by show 1 ≤ (r.length + 1) ∧ r.length + 1 ≤ 25; omega, hg.out, hg.dat⟩⟩, hw⟩
  rw [hlr] at hn32
  unfold enterM
  rw [if_neg (by rw [show s.pu.stack.length = s.stack.length from rfl, hn32]; simp), show s.pu.frames = f.pu :: r.map MFr.pu by show s.frames.map MFr.pu = _; rw [hfs]; rfl]
  rfl

end Go.Proofs.Ytagoencpeflmlaa
