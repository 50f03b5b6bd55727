/- Walks of the lexer, of the document's answer and of the laws, and plain laws on what they compute; each theorem tells its own conditions. -/
import Derived.Test.YtcjloelhjnnhmaaDoorBwL2
namespace Go.Proofs.YtcjloelhjnnhmaaDoor
open Go.Bw
set_option linter.unusedVariables false
set_option linter.unusedSimpArgs false

theorem slice_dt (s : List UInt8) (a n : Nat) : (s.take ((a + n : Nat) : Int).toNat).drop (a : Int).toNat = (s.drop a).take n := by
  rw [Int.toNat_natCast, Int.toNat_natCast, List.drop_take, Nat.add_sub_cancel_left]
theorem slice_d1 {s : List UInt8} {a : Nat} {c : UInt8} {r : List UInt8} (h : s.drop a = c :: r) : (s.take ((a + 1 : Nat) : Int).toNat).drop (a : Int).toNat = [c] := by
  rw [slice_dt, h]; rfl
theorem drop_cons {s : List UInt8} {a : Nat} (h : a < s.length) : s.drop a = (s[a]?.getD 0) :: s.drop (a + 1) := by
  rw [List.drop_eq_getElem_cons h, List.getElem?_eq_getElem h]; rfl
theorem wordT_num {s : List UInt8} (h : nameB s = false) : wordT s = if (numR s).2 = true then some ⟨2, (numR s).1, []⟩ else none := by
  have hnn : (numR s).2 = true → 0 ≤ (numR s).1 := by
    unfold numR
    split
    · simp
    · split <;> simp
  rw [wordT, if_neg (by simp [h]), numR_same]
  by_cases h2 : (numR s).2 = true
  · have := hnn h2
    simp [h2, Int.toNat_of_nonneg this]
  · simp [h2]
def atoiV (s : List UInt8) : Int := match Lib.atoiAll s with | .ok v => v | .range => Lib.atoiSat s | _ => 0
def atoiK (s : List UInt8) : Bool := match Lib.atoiAll s with | .ok _ => true | _ => false
theorem atoiV_in (s : List UInt8) : -9223372036854775808 ≤ atoiV s ∧ atoiV s ≤ 9223372036854775807 := by
  unfold atoiV
  cases h : Lib.atoiAll s with
  | ok v => exact Lib.atoiAll_bounds h
  | range => exact Lib.atoiSat_bounds s
  | _ => simp
theorem wordP_no {s : List UInt8} (h : nameB s = false) : wordP s = (⟨2, atoiV s, []⟩, ((atoiK s && decide (0 ≤ atoiV s)) && decide (atoiV s ≤ 1099511627775)) && (Lib.itoa (atoiV s) == s)) := by
  rw [wordP, if_neg (by simp [h])]
  unfold atoiV atoiK
  cases Lib.atoiAll s <;> simp
theorem lexO_no {s : List UInt8} {l : List Tok} {t : List UInt8} (h : lexO s = (lexO t).map (l ++ ·)) (ht : lexO t = none) : ¬ 4096 < s.length → lexR s = ([], 1) := fun hl => by
  rw [lexR, if_neg hl, h, ht]; rfl
theorem lexO_yes {s : List UInt8} {l : List Tok} (h : lexO s = (lexO []).map (l ++ ·)) : ¬ 4096 < s.length → lexR s = (l, 0) := fun hl => by
  rw [lexR, if_neg hl, h]; simp [lexO_nil]
theorem map_app {o : Option (List Tok)} {l : List Tok} {t : Tok} : (o.map (t :: ·)).map (l ++ ·) = o.map ((l ++ [t]) ++ ·) := by
  cases o <;> simp
theorem en24 : Enters Tryd.prog 24 := enters_of Tryd.func24 (by kernel_rfl) rfl
theorem pl38 : placesP Tryd.prog 38 = some [(0, 1), (1, 1), (2, 1)] := by kernel_rfl
theorem zr38 : zeroOf Tryd.prog 38 = some (.agg #[.int .i64 0, .int .i64 0, st []]) := by kernel_rfl
theorem el22 : EltOk Tryd.prog 22 38 (.agg #[.int .i64 0, .int .i64 0, st []]) 3 32 := eltOk_of (by kernel_rfl)
theorem en26 : Enters Tryd.prog 26 := enters_of Tryd.func26 (by kernel_rfl) rfl

theorem lexOf_any (s : List UInt8) (w : World) :
    Calls Tryd.prog 13 #[st s] w fun e w' => ∃ r : Option Addr × Nat, e = .returned (.tuple #[.slice r.1 (lexR s).1.length r.2, .int .i64 (lexR s).2]) ∧ Ext w w' ∧ Sl rdTok 3 (nv w w') r.1 r.2 (lexR s).1 := by
  refine enter Tryd.func13 rfl 90 rfl rfl ?_
  refine WC.world (W' := Ws w [] [] []) (fun _ e => by subst e; exact Ws.init (by simp)) ?_
  refine WC.seq ?_
  refine WC.region ?_
  refine WL.val (.inl rfl) rfl (yl_assign rfl) ?_
  refine WL.val (.inl rfl) rfl (yl_assign rfl) ?_
  refine WL.nil ?_
  refine WE.then_normal ?_
  refine WC.seq ?_
  refine WC.seq ?_
  refine WC.region ?_
  refine WL.val (.inl rfl) rfl (yl_move rfl) ?_
  refine WL.val (.inl rfl) rfl (yl_lens us9 rfl) ?_
  refine WL.val (.inl rfl) rfl (yl_gt rfl rfl) ?_
  refine WL.nil ?_
  refine WE.then_normal ?_
  refine WC.cond rfl (fun hc0 => ?_) (fun hc0 => ?_)
  ·
    have hl : 4096 < s.length := by simp at hc0; omega
    have hR : lexR s = ([], 2) := by rw [lexR, if_pos hl]
    refine WC.seq ?_
    refine WC.region ?_
    refine WL.val (.inl rfl) rfl (yl_assign rfl) ?_
    refine WL.val (.inl rfl) rfl (yl_assign rfl) ?_
    refine WL.nil ?_
    refine WE.then_normal ?_
    refine WC.ret ?_
    refine WE.then_ret ?_
    refine WE.retR (rs_2 rfl (rv_tmp rfl) (rv_tmp rfl)) fun w' hw => ?_
    rw [hR]
    exact ⟨(none, 0), rfl, hw.fr, Sl.nil⟩
  ·
    have hl : ¬ 4096 < s.length := by simp at hc0; omega
    refine WC.skip ?_
    refine WE.then_normal ?_
    refine WC.seq ?_
    refine WC.region ?_
    refine WL.val (.inl rfl) rfl (yl_assign rfl) ?_
    refine WL.world (fun _ h => h.osl_nil 38 3) ?_
    refine WL.nil ?_
    refine WE.then_normal ?_
    refine WC.seq ?_
    refine WC.seq ?_
    refine WC.region ?_
    refine WL.val (.inl rfl) rfl (yl_assign rfl) ?_
    refine WL.nil ?_
    refine WE.then_normal ?_
    refine WC.block ?_
    refine WC.loopK (ι := Nat × List Tok × Option Addr × Nat) (fun g => [(5, .int .i64 (g.1 : Int)), (4, .slice g.2.2.1 g.2.1.length g.2.2.2)]) [(0, _)] (fun g => Ws w [] [osT 38 3 Tok.cells g.2.2.1 g.2.2.2 (g.2.1)] []) (fun g => g.1 ≤ s.length ∧ g.2.1.length ≤ g.1 ∧ lexO s = (lexO (s.drop g.1)).map (g.2.1 ++ ·)) (fun g => s.length - g.1) (0, [], none, 0) ⟨Nat.zero_le _, Nat.le_refl _, by simp⟩ (sc rfl (sc rfl (sc rfl sn))) (fun _ h => h) ?_
    intro g ⟨hi, hgl, hG⟩
    refine WC.seq ?_
    refine WC.seq ?_
    refine WC.region ?_
    refine WL.val (.inl rfl) rfl (yl_move rfl) ?_
    refine WL.val (.inl rfl) rfl (yl_move rfl) ?_
    refine WL.val (.inl rfl) rfl (yl_lens us9 rfl) ?_
    refine WL.val (.inl rfl) rfl (yl_lt rfl rfl) ?_
    refine WL.nil ?_
    refine WE.then_normal ?_
    refine WC.cond rfl (fun hc1 => ?_) (fun hc1 => ?_)
    ·
      have hlt : g.1 < s.length := by simpa using hc1
      have hu0 := at0 hlt
      have hdr := drop_cons hlt
      have hrl := runC_le (s.drop g.1)
      rw [List.length_drop] at hrl
      refine WC.skip ?_
      refine WE.then_normal ?_
      refine WC.block ?_
      refine WC.seq ?_
      refine WC.region ?_
      refine WL.val (.inl rfl) rfl (yl_move rfl) ?_
      refine WL.val (.inl rfl) rfl (yl_move rfl) ?_
      refine WL.callp (.inl rfl) rfl en24 rfl (fun w hw => run_any s g.1 w (by omega) (by omega)) ?_
      refine WL.val (.inl rfl) rfl (yl_assign rfl) ?_
      refine WL.nil ?_
      refine WE.then_normal ?_
      refine WC.seq ?_
      refine WC.block ?_
      refine WC.seq ?_
      refine WC.region ?_
      refine WL.val (.inl rfl) rfl (yl_move rfl) ?_
      refine WL.val (.inl rfl) rfl (yl_gt rfl rfl) ?_
      refine WL.val (.inl rfl) rfl (yl_move rfl) ?_
      apply WL.and 7 rfl rfl rfl rfl (.inl rfl) rfl rfl rfl rfl rfl
      ·
        intro hg0
        refine WL.val (.inr ⟨_, _, _, rfl, rfl, rfl⟩) rfl (yl_move rfl) ?_
        refine WL.val (.inr ⟨_, _, _, rfl, rfl, rfl⟩) rfl (yl_move rfl) ?_
        refine WL.val (.inr ⟨_, _, _, rfl, rfl, rfl⟩) rfl (yl_move rfl) ?_
        refine WL.val (.inr ⟨_, _, _, rfl, rfl, rfl⟩) rfl (yl_move rfl) ?_
        refine WL.val (.inr ⟨_, _, _, rfl, rfl, rfl⟩) rfl (yl_addn (a := g.1) (b := runC (s.drop g.1)) rfl rfl rfl rfl (by omega)) ?_
        refine WL.val (.inr ⟨_, _, _, rfl, rfl, rfl⟩) rfl (yl_ssb Tryd.underlying9 rfl rfl rfl (by omega) (by omega) (by omega)) ?_
        rw [slice_dt]
        refine WL.callp (.inr ⟨_, _, _, rfl, rfl, rfl⟩) rfl en25 rfl (fun w hw => isName_any _ w) ?_
        exact Got.intro 7 rfl rfl rfl
      refine WL.val (.inl rfl) rfl (yl_assign rfl) ?_
      refine WL.nil ?_
      refine WE.then_normal ?_
      refine WC.cond rfl (fun hc2 => ?_) (fun hc2 => ?_)
      ·
        simp only [Bool.and_eq_true, decide_eq_true_eq] at hc2
        have h0n : 0 < runC (s.drop g.1) := by omega
        have hwt : wordT ((s.drop g.1).take (runC (s.drop g.1))) = some (Tok.mk 1 0 ((s.drop g.1).take (runC (s.drop g.1)))) := by rw [wordT, if_pos hc2.2]
        refine WC.region ?_
        refine WL.val (.inl rfl) rfl (yl_move rfl) ?_
        refine WL.val (.inl rfl) rfl (yl_move rfl) ?_
        refine WL.val (.inl rfl) rfl (yl_move rfl) ?_
        refine WL.val (.inl rfl) rfl (yl_move rfl) ?_
        refine WL.val (.inl rfl) rfl (yl_move rfl) ?_
        refine WL.val (.inl rfl) rfl (yl_addn (a := g.1) (b := runC (s.drop g.1)) rfl rfl rfl rfl (by omega)) ?_
        refine WL.val (.inl rfl) rfl (yl_ssb Tryd.underlying9 rfl rfl rfl (by omega) (by omega) (by omega)) ?_
        rw [slice_dt]
        refine WL.val (.inl rfl) rfl (yl_build zr38 pl38 rfl rfl) ?_
        refine WL.bsliceF (.inl rfl) rfl el22 rfl rfl rfl rfl fun b39 => ?_
        refine WL.reblk 0 (.cells (Tok.cells (Tok.mk 1 0 ((s.drop g.1).take (runC (s.drop g.1))))).toArray 38 (0, 0)) rfl rfl ?_
        refine WL.appT (Tok.mk 1 0 ((s.drop g.1).take (runC (s.drop g.1)))) 1 0 (.inl rfl) rfl el22 rfl rfl rfl rfl rfl rfl (by omega) (by omega) fun a40 c40 => ?_
        refine WL.val (.inl rfl) rfl (yl_assign rfl) ?_
        refine WL.nil ?_
        refine WE.block_normal ?_
        refine WE.then_normal ?_
        refine WC.region ?_
        refine WL.val (.inl rfl) rfl (yl_move rfl) ?_
        refine WL.val (.inl rfl) rfl (yl_move rfl) ?_
        refine WL.val (.inl rfl) rfl (yl_addn (a := g.1) (b := runC (s.drop g.1)) rfl rfl rfl rfl (by omega)) ?_
        refine WL.val (.inl rfl) rfl (yl_assign rfl) ?_
        refine WL.nil ?_
        refine WE.block_normal ?_
        exact WE.again ((g.1 + runC (s.drop g.1), g.2.1 ++ [Tok.mk 1 0 ((s.drop g.1).take (runC (s.drop g.1)))], a40, c40) : Nat × List Tok × Option Addr × Nat) (by dsimp only; omega) ⟨by dsimp only; omega, by dsimp only; simp; omega, by
            dsimp only
            rw [hG, lexO_word h0n, hwt]
            simp only
            rw [map_app, List.drop_drop]⟩ (sc rfl (sc rfl (sc rfl sn))) (fun _ h => Ws.drop (L := [_]) h)
      ·
        refine WC.seq ?_
        refine WC.region ?_
        refine WL.val (.inl rfl) rfl (yl_move rfl) ?_
        refine WL.val (.inl rfl) rfl (yl_gt rfl rfl) ?_
        refine WL.val (.inl rfl) rfl (yl_assign rfl) ?_
        refine WL.nil ?_
        refine WE.then_normal ?_
        refine WC.cond rfl (fun hc3 => ?_) (fun hc3 => ?_)
        ·
          have h0n : 0 < runC (s.drop g.1) := by simp at hc3; omega
          have hnm : nameB ((s.drop g.1).take (runC (s.drop g.1))) = false := by
            rw [decide_eq_true (by omega : (0 : Int) < ((runC (s.drop g.1) : Nat) : Int)), Bool.true_and] at hc2
            exact hc2
          have hwn := wordT_num hnm
          refine WC.seq ?_
          refine WC.region ?_
          refine WL.val (.inl rfl) rfl (yl_move rfl) ?_
          refine WL.val (.inl rfl) rfl (yl_move rfl) ?_
          refine WL.val (.inl rfl) rfl (yl_move rfl) ?_
          refine WL.val (.inl rfl) rfl (yl_move rfl) ?_
          refine WL.val (.inl rfl) rfl (yl_addn (a := g.1) (b := runC (s.drop g.1)) rfl rfl rfl rfl (by omega)) ?_
          refine WL.val (.inl rfl) rfl (yl_ssb Tryd.underlying9 rfl rfl rfl (by omega) (by omega) (by omega)) ?_
          rw [slice_dt]
          refine WL.callp (.inl rfl) rfl en26 rfl (fun w hw => numberOf_any _ w (by simp; omega)) ?_
          refine WL.val (.inl rfl) rfl (yl_move rfl) ?_
          refine WL.val (.inl rfl) rfl (yl_extract rfl rfl) ?_
          refine WL.val (.inl rfl) rfl (yl_extract rfl rfl) ?_
          refine WL.val (.inl rfl) rfl (yl_assign rfl) ?_
          refine WL.val (.inl rfl) rfl (yl_assign rfl) ?_
          refine WL.nil ?_
          refine WE.then_normal ?_
          refine WC.seq ?_
          refine WC.seq ?_
          refine WC.region ?_
          refine WL.val (.inl rfl) rfl (yl_move rfl) ?_
          refine WL.val (.inl rfl) rfl (yl_not rfl) ?_
          refine WL.nil ?_
          refine WE.then_normal ?_
          refine WC.cond rfl (fun hc4 => ?_) (fun hc4 => ?_)
          ·
            have hR : lexR s = ([], 1) := lexO_no hG (by rw [lexO_word h0n, hwn, if_neg (by simpa using hc4)]) hl
            refine WC.seq ?_
            refine WC.region ?_
            refine WL.val (.inl rfl) rfl (yl_assign rfl) ?_
            refine WL.val (.inl rfl) rfl (yl_assign rfl) ?_
            refine WL.nil ?_
            refine WE.then_normal ?_
            refine WC.ret ?_
            refine WE.then_ret ?_
            refine WE.block_ret ?_
            refine WE.then_ret ?_
            refine WE.block_ret ?_
            refine WE.then_ret ?_
            refine WE.block_ret ?_
            refine WE.then_ret ?_
            refine WE.retR (rs_2 rfl (rv_tmp rfl) (rv_tmp rfl)) fun w' hw => ?_
            rw [hR]
            exact ⟨(none, 0), rfl, hw.fr, Sl.nil⟩
          ·
            have hwt : wordT ((s.drop g.1).take (runC (s.drop g.1))) = some (Tok.mk 2 (numR ((s.drop g.1).take (runC (s.drop g.1)))).1 []) := by rw [hwn, if_pos (by simpa using hc4)]
            refine WC.skip ?_
            refine WE.then_normal ?_
            refine WC.region ?_
            refine WL.val (.inl rfl) rfl (yl_move rfl) ?_
            refine WL.val (.inl rfl) rfl (yl_move rfl) ?_
            refine WL.val (.inl rfl) rfl (yl_build zr38 pl38 rfl rfl) ?_
            refine WL.bsliceF (.inl rfl) rfl el22 rfl rfl rfl rfl fun b59 => ?_
            refine WL.reblk 0 (.cells (Tok.cells (Tok.mk 2 (numR ((s.drop g.1).take (runC (s.drop g.1)))).1 [])).toArray 38 (0, 0)) rfl rfl ?_
            refine WL.appT (Tok.mk 2 (numR ((s.drop g.1).take (runC (s.drop g.1)))).1 []) 1 0 (.inl rfl) rfl el22 rfl rfl rfl rfl rfl rfl (by omega) (by omega) fun a60 c60 => ?_
            refine WL.val (.inl rfl) rfl (yl_assign rfl) ?_
            refine WL.nil ?_
            refine WE.block_normal ?_
            refine WE.then_normal ?_
            refine WC.region ?_
            refine WL.val (.inl rfl) rfl (yl_move rfl) ?_
            refine WL.val (.inl rfl) rfl (yl_move rfl) ?_
            refine WL.val (.inl rfl) rfl (yl_addn (a := g.1) (b := runC (s.drop g.1)) rfl rfl rfl rfl (by omega)) ?_
            refine WL.val (.inl rfl) rfl (yl_assign rfl) ?_
            refine WL.nil ?_
            refine WE.block_normal ?_
            exact WE.again ((g.1 + runC (s.drop g.1), g.2.1 ++ [Tok.mk 2 (numR ((s.drop g.1).take (runC (s.drop g.1)))).1 []], a60, c60) : Nat × List Tok × Option Addr × Nat) (by dsimp only; omega) ⟨by dsimp only; omega, by dsimp only; simp; omega, by
                dsimp only
                rw [hG, lexO_word h0n, hwt]
                simp only
                rw [map_app, List.drop_drop]⟩ (sc rfl (sc rfl (sc rfl sn))) (fun _ h => Ws.drop (L := [_]) h)
        ·
          have h0c : runC ((s[g.1]?.getD 0) :: s.drop (g.1 + 1)) = 0 := by rw [← hdr]; simp at hc3; omega
          refine WC.seq ?_
          refine WC.region ?_
          refine WL.val (.inl rfl) rfl (yl_move rfl) ?_
          refine WL.val (.inl rfl) rfl (yl_move rfl) ?_
          refine WL.val (.inl rfl) rfl (yl_idxk us9 rfl rfl hu0) ?_
          refine WL.callp (.inl rfl) rfl en27 rfl (fun w hw => isSign_any _ w) ?_
          refine WL.val (.inl rfl) rfl (yl_assign rfl) ?_
          refine WL.nil ?_
          refine WE.then_normal ?_
          refine WC.cond rfl (fun hc5 => ?_) (fun hc5 => ?_)
          ·
            refine WC.seq ?_
            refine WC.region ?_
            refine WL.val (.inl rfl) rfl (yl_move rfl) ?_
            refine WL.val (.inl rfl) rfl (yl_move rfl) ?_
            refine WL.val (.inl rfl) rfl (yl_move rfl) ?_
            refine WL.val (.inl rfl) rfl (yl_move rfl) ?_
            refine WL.val (.inl rfl) rfl (yl_addn (a := g.1) (b := 1) rfl rfl rfl rfl (by omega)) ?_
            refine WL.val (.inl rfl) rfl (yl_ssb Tryd.underlying9 rfl rfl rfl (by omega) (by omega) (by omega)) ?_
            rw [slice_d1 hdr]
            refine WL.val (.inl rfl) rfl (yl_build zr38 pl38 rfl rfl) ?_
            refine WL.bsliceF (.inl rfl) rfl el22 rfl rfl rfl rfl fun b73 => ?_
            refine WL.reblk 0 (.cells (Tok.cells (Tok.mk 3 0 [s[g.1]?.getD 0])).toArray 38 (0, 0)) rfl rfl ?_
            refine WL.appT (Tok.mk 3 0 [s[g.1]?.getD 0]) 1 0 (.inl rfl) rfl el22 rfl rfl rfl rfl rfl rfl (by omega) (by omega) fun a74 c74 => ?_
            refine WL.val (.inl rfl) rfl (yl_assign rfl) ?_
            refine WL.nil ?_
            refine WE.then_normal ?_
            refine WC.region ?_
            refine WL.val (.inl rfl) rfl (yl_assign rfl) ?_
            refine WL.nil ?_
            refine WE.block_normal ?_
            refine WE.then_normal ?_
            refine WC.region ?_
            refine WL.val (.inl rfl) rfl (yl_move rfl) ?_
            refine WL.val (.inl rfl) rfl (yl_move rfl) ?_
            refine WL.val (.inl rfl) rfl (yl_addn (a := g.1) (b := 1) rfl rfl rfl rfl (by omega)) ?_
            refine WL.val (.inl rfl) rfl (yl_assign rfl) ?_
            refine WL.nil ?_
            refine WE.block_normal ?_
            exact WE.again ((g.1 + 1, g.2.1 ++ [Tok.mk 3 0 [s[g.1]?.getD 0]], a74, c74) : Nat × List Tok × Option Addr × Nat) (by dsimp only; omega) ⟨by dsimp only; omega, by dsimp only; simp; omega, by
                dsimp only
                rw [hG, hdr, lexO_sign h0c (by simpa using hc5), map_app]⟩ (sc rfl (sc rfl (sc rfl sn))) (fun _ h => Ws.drop (L := [_]) h)
          ·
            refine WC.seq ?_
            refine WC.region ?_
            refine WL.val (.inl rfl) rfl (yl_move rfl) ?_
            refine WL.val (.inl rfl) rfl (yl_move rfl) ?_
            refine WL.val (.inl rfl) rfl (yl_idxk us9 rfl rfl hu0) ?_
            refine WL.val (.inl rfl) rfl (yl_eq rfl rfl) ?_
            refine WL.val (.inl rfl) rfl (yl_move rfl) ?_
            apply WL.or 4 rfl rfl rfl rfl (.inl rfl) rfl rfl rfl rfl rfl
            ·
              intro hg1
              refine WL.val (.inr ⟨_, _, _, rfl, rfl, rfl⟩) rfl (yl_move rfl) ?_
              refine WL.val (.inr ⟨_, _, _, rfl, rfl, rfl⟩) rfl (yl_move rfl) ?_
              refine WL.val (.inr ⟨_, _, _, rfl, rfl, rfl⟩) rfl (yl_idxk us9 rfl rfl hu0) ?_
              refine WL.val (.inr ⟨_, _, _, rfl, rfl, rfl⟩) rfl (yl_eq rfl rfl) ?_
              exact Got.intro 4 rfl rfl rfl
            refine WL.val (.inl rfl) rfl (yl_assign rfl) ?_
            refine WL.nil ?_
            refine WE.then_normal ?_
            refine WC.cond rfl (fun hc6 => ?_) (fun hc6 => ?_)
            ·
              have hbl : (s[g.1]?.getD 0) = 32 ∨ (s[g.1]?.getD 0) = 10 := by
                simp only [Bool.or_eq_true, beq_iff_eq] at hc6
                rcases hc6 with h | h
                · left; exact toNat_inj (by simpa using h)
                · right; exact toNat_inj (by simpa using h)
              refine WC.region ?_
              refine WL.val (.inl rfl) rfl (yl_assign rfl) ?_
              refine WL.nil ?_
              refine WE.block_normal ?_
              refine WE.then_normal ?_
              refine WC.region ?_
              refine WL.val (.inl rfl) rfl (yl_move rfl) ?_
              refine WL.val (.inl rfl) rfl (yl_move rfl) ?_
              refine WL.val (.inl rfl) rfl (yl_addn (a := g.1) (b := 1) rfl rfl rfl rfl (by omega)) ?_
              refine WL.val (.inl rfl) rfl (yl_assign rfl) ?_
              refine WL.nil ?_
              refine WE.block_normal ?_
              exact WE.again ((g.1 + 1, g.2.1, g.2.2.1, g.2.2.2) : Nat × List Tok × Option Addr × Nat) (by dsimp only; omega) ⟨by dsimp only; omega, by dsimp only; omega, by
                  dsimp only
                  rw [hG, hdr, lexO_blank h0c (by simpa using hc5) hbl]⟩ (sc rfl (sc rfl (sc rfl sn))) (fun _ h => h)
            ·
              have hbl : ¬ ((s[g.1]?.getD 0) = 32 ∨ (s[g.1]?.getD 0) = 10) := by
                rintro (h | h) <;> rw [h] at hc6 <;> simp at hc6
              have hR : lexR s = ([], 1) := lexO_no hG (by rw [hdr, lexO_bad h0c (by simpa using hc5) hbl]) hl
              refine WC.seq ?_
              refine WC.region ?_
              refine WL.val (.inl rfl) rfl (yl_assign rfl) ?_
              refine WL.val (.inl rfl) rfl (yl_assign rfl) ?_
              refine WL.nil ?_
              refine WE.then_normal ?_
              refine WC.ret ?_
              refine WE.block_ret ?_
              refine WE.then_ret ?_
              refine WE.block_ret ?_
              refine WE.then_ret ?_
              refine WE.block_ret ?_
              refine WE.then_ret ?_
              refine WE.retR (rs_2 rfl (rv_tmp rfl) (rv_tmp rfl)) fun w' hw => ?_
              rw [hR]
              exact ⟨(none, 0), rfl, hw.fr, Sl.nil⟩
    ·
      have hge : s.length ≤ g.1 := by simp at hc1; omega
      have hR : lexR s = (g.2.1, 0) := by
        rw [List.drop_of_length_le hge] at hG
        exact lexO_yes hG hl
      refine WC.exit ?_
      refine WE.then_exit ?_
      refine WE.then_exit ?_
      refine WE.block_hit ?_
      refine WE.then_normal ?_
      refine WC.seq ?_
      refine WC.region ?_
      refine WL.val (.inl rfl) rfl (yl_move rfl) ?_
      refine WL.val (.inl rfl) rfl (yl_assign rfl) ?_
      refine WL.val (.inl rfl) rfl (yl_assign rfl) ?_
      refine WL.nil ?_
      refine WE.then_normal ?_
      refine WC.ret ?_
      refine WE.retR (rs_2 rfl (rv_tmp rfl) (rv_tmp rfl)) fun w' hw => ?_
      rw [hR]
      exact ⟨(g.2.2.1, g.2.2.2), rfl, hw.fr, hw.slT 0 rfl Tok.cells_len (fun _ _ _ _ h => h)⟩

end Go.Proofs.YtcjloelhjnnhmaaDoor
