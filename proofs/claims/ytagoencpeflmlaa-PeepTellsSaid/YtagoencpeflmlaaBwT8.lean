/- Walks of the functions of this claim, and plain laws on what they compute; each theorem tells its own conditions. -/
import Derived.Test.YtagoencpeflmlaaBwT7
namespace Go.Proofs.Ytagoencpeflmlaa
open Go.Bw
set_option linter.unusedVariables false
set_option linter.unusedSimpArgs false

theorem okAt_lt {mk : List Bool} {cur : List Ins} {m : Nat} {o : Int} (h : okAt mk cur m o = true) : m < cur.length := by
  unfold okAt at h; simp at h; exact h.1
theorem within_lt {a n : Int} (h : within a 0 (n - 1) = true) : 0 ≤ a ∧ a < n := by
  simp [within] at h; omega
theorem en12 : Enters Try.prog 12 := enters_of Try.func12 (by kernel_rfl) rfl
theorem zr25 : zeroOf Try.prog 25 = some (.slice none 0 0) := by kernel_rfl
theorem sz25 : sizeP Try.prog 25 = some 1 := by kernel_rfl
theorem zr22 : zeroOf Try.prog 22 = some (.slice none 0 0) := by kernel_rfl
theorem sz22 : sizeP Try.prog 22 = some 1 := by kernel_rfl
theorem zr73 : zeroOf Try.prog 73 = some (.nilFunc) := by kernel_rfl
theorem sz73 : sizeP Try.prog 73 = some 1 := by kernel_rfl
theorem en38 : Enters Try.prog 38 := enters_of Try.func38 (by kernel_rfl) rfl
theorem en39 : Enters Try.prog 39 := enters_of Try.func39 (by kernel_rfl) rfl
theorem en40 : Enters Try.prog 40 := enters_of Try.func40 (by kernel_rfl) rfl

theorem peepOf_any (H : View) (a : Option Addr) (c : Nat) (code : List Ins) (data : Int) (w : World) (hH : Le H w) (hm : Sl rdIns 3 H a c code) (hz : checkImg code data = 0) :
    Calls Try.prog 13 #[.agg #[.slice a code.length c, .int .i64 data]] w fun e w' => ∃ r : Option Addr × Nat, e = .returned (.agg #[.slice r.1 (peepL code).length r.2, .int .i64 data]) ∧ Ext w w' ∧ Sl rdIns 3 (nv w w') r.1 r.2 (peepL code) := by
  have hcap := hm.cap
  have hmax := hm.max
  obtain ⟨hpos, hle⟩ := check_len hz
  have hml : (marks code).length = code.length := mk_len _ _ _
  refine enter Try.func13 rfl 236 rfl rfl ?_
  refine WC.world (W' := Ws w [] [] [H]) (fun _ e => by subst e; exact Ws.init (by simp [hH])) ?_
  refine WC.seq ?_
  refine WC.region ?_
  refine WL.box (.inl rfl) rfl rfl fun b1 => ?_
  refine WL.alloc (.inl rfl) rfl zr24 fun b2 => ?_
  refine WL.nil ?_
  refine WE.then_normal ?_
  refine WC.seq ?_
  refine WC.region ?_
  refine WL.val (.inl rfl) rfl (yl_ldka 1 rfl rfl ag24 rfl) ?_
  refine WL.calld (.inl rfl) rfl en12 rfl (fun r : Option Addr × Nat => .slice r.1 (marks code).length r.2) (fun H r => Sl rdBool 1 H r.1 r.2 (marks code)) (fun w hw => marksOf_any H a c code data w (hw.vs _ (by simp)) hm hpos hle) ?_
  intro K r14 hfK hmk
  simp only [hml]
  refine WL.alloc (.inl rfl) rfl zr25 fun b3 => ?_
  refine WL.store 0 (.inl rfl) rfl rfl rfl sz25 rfl rfl rfl ?_
  refine WL.nil ?_
  refine WE.then_normal ?_
  refine WC.seq ?_
  obtain ⟨x0, hx0⟩ : ∃ x, code[0]? = some x := ⟨_, List.getElem?_eq_getElem hpos⟩
  obtain ⟨qb, qo, rfl, _⟩ := hm.elt 0 x0 hx0
  have hfl := hm.flat Ins.cells_len (by decide) (fun _ _ _ h => h)
  refine WC.region ?_
  refine WL.bslice (.inl rfl) rfl el22 rfl rfl rfl fun b15 => ?_
  refine WL.asOsl (size := 3) 0 rfl (Nat.le_refl 0) (Nat.zero_le _) rfl ?_
  refine WL.val (.inl rfl) rfl (yl_fa fo24_0 rfl) ?_
  refine WL.val (.inl rfl) rfl (yl_ldk 3 rfl rfl rfl na22) ?_
  refine WL.append 0 (.inl rfl) rfl el22 rfl rfl rfl (flat_length Ins.cells_len code) (fun w hw j u hu => by rw [add_none]; exact (hw.vs H (by simp)).cell (hfl j u hu)) (fun u hu => by
    obtain ⟨x, _, hx⟩ := List.mem_flatMap.1 hu
    simp [Ins.cells] at hx
    rcases hx with rfl | rfl | rfl <;> rfl) (by unfold maxLen; omega) (by omega) (fun v18 hnil18 => ?_)
  refine WL.reosl 0 code.length (code.flatMap Ins.cells) rfl (by omega) (by simp) ?_
  refine WL.shape 0 rfl hpos fun bc cc hv18 hcc hcm => ?_
  subst hv18
  have hcm : cc ≤ 9223372036854775807 := by unfold maxLen at hcm; omega
  refine WL.alloc (.inl rfl) rfl zr22 fun b4 => ?_
  refine WL.store 0 (.inl rfl) rfl rfl rfl sz22 rfl rfl rfl ?_
  refine WL.nil ?_
  refine WE.then_normal ?_
  refine WC.seq ?_
  refine WC.region ?_
  refine WL.val (.inl rfl) rfl (yl_build zr65 pl65 rfl rfl) ?_
  refine WL.alloc (.inl rfl) rfl zr65 fun b5 => ?_
  refine WL.store 0 (.inl rfl) rfl rfl rfl sz65 rfl rfl rfl ?_
  refine WL.nil ?_
  refine WE.then_normal ?_
  refine WC.seq ?_
  refine WC.region ?_
  refine WL.val (.inl rfl) rfl (yl_func rfl) ?_
  refine WL.alloc (.inl rfl) rfl zr73 fun b6 => ?_
  refine WL.store 0 (.inl rfl) rfl rfl rfl sz73 rfl rfl rfl ?_
  refine WL.nil ?_
  refine WE.then_normal ?_
  refine WC.seq ?_
  refine WC.region ?_
  refine WL.val (.inl rfl) rfl (yl_func rfl) ?_
  refine WL.val (.inl rfl) rfl (yl_assign rfl) ?_
  refine WL.nil ?_
  refine WE.then_normal ?_
  refine WC.seq ?_
  refine WC.seq ?_
  refine WC.region ?_
  refine WL.val (.inl rfl) rfl (yl_assign rfl) ?_
  refine WL.nil ?_
  refine WE.then_normal ?_
  refine WC.block ?_
  refine WC.loopK (ι := Nat) (fun i => [(8, .int .i64 (i : Int))]) [(1, _), (2, _), (4, _), (5, _), (6, _), (7, _)] (fun i => Ws w [] [blk b6 (.cells #[.func (.func 37) #[] #[.pointer (some ⟨b4, 0, none⟩)]] 73 (0, 0)), blk b5 (.cells #[.int .i64 21, .int .i64 0, .int .i64 0] 65 (0, 0)), blk b4 (.cells #[.slice (some ⟨bc, 0, none⟩) code.length cc] 22 (0, 0)), osl 65 3 (.slice (some ⟨bc, 0, none⟩) code.length cc) code.length ((peepN (marks code) code i).flatMap Ins.cells), blk b3 (.cells #[.slice r14.1 code.length r14.2] 25 (0, 0)), blk b2 (.cells #[.slice none 0 0, .int .i64 0] 24 (0, 0)), blk b1 (.cells (Value.agg #[.slice (some ⟨qb, qo, none⟩) code.length c, .int .i64 data]).cells 24 (0, 0))] [K, H]) (fun i => i ≤ code.length) (fun i => code.length - i) 0 (Nat.zero_le _) (sc rfl (sc rfl (sc rfl (sc rfl (sc rfl (sc rfl (sc rfl sn))))))) (fun _ h => h) ?_
  intro i hi
  refine WC.seq ?_
  refine WC.seq ?_
  refine WC.region ?_
  refine WL.val (.inl rfl) rfl (yl_move rfl) ?_
  refine WL.val (.inl rfl) rfl (yl_ldk 2 rfl rfl rfl na22) ?_
  refine WL.val (.inl rfl) rfl (yl_len es22 rfl) ?_
  refine WL.val (.inl rfl) rfl (yl_lt rfl rfl) ?_
  refine WL.nil ?_
  refine WE.then_normal ?_
  refine WC.cond rfl (fun hc0 => ?_) (fun hc0 => ?_)
  ·
    have hlt : i < code.length := by simpa using hc0
    have hN : (peepN (marks code) code i).length = code.length := peepN_len _ _ _
    have hx : (peepN (marks code) code i)[i]? = some (atI (peepN (marks code) code i) i) := atI_get (by rw [peepN_len]; exact hlt)
    refine WC.skip ?_
    refine WE.then_normal ?_
    refine WC.seq ?_
    refine WC.block ?_
    refine WC.seq ?_
    refine WC.region ?_
    refine WL.val (.inl rfl) rfl (yl_ldk 0 rfl rfl rfl na73) ?_
    refine WL.val (.inl rfl) rfl (yl_move rfl) ?_
    refine WL.callvp (.inl rfl) rfl en37 rfl rfl (fun w hw => same_any (hv w) b4 code.length _ cc (peepN (marks code) code i) _ _ w (hv_le w) hN (hw.hvb 2 rfl rfl) (hv_ins hw 3 rfl (by omega) hcm)) ?_
    refine WL.val (.inl rfl) rfl (yl_assign rfl) ?_
    refine WL.nil ?_
    refine WE.then_normal ?_
    refine WC.block ?_
    refine WC.seq ?_
    refine WC.region ?_
    refine WL.val (.inl rfl) rfl (yl_ldk 0 rfl rfl rfl na73) ?_
    refine WL.val (.inl rfl) rfl (yl_move rfl) ?_
    refine WL.callvp (.inl rfl) rfl en37 rfl rfl (fun w hw => same_any (hv w) b4 code.length _ cc (peepN (marks code) code i) _ _ w (hv_le w) hN (hw.hvb 2 rfl rfl) (hv_ins hw 3 rfl (by omega) hcm)) ?_
    refine WL.val (.inl rfl) rfl (yl_move rfl) ?_
    apply WL.or 3 rfl rfl rfl rfl (.inl rfl) rfl rfl rfl rfl rfl
    ·
      intro hg0
      refine WL.val (.inr ⟨_, _, _, rfl, rfl, rfl⟩) rfl (yl_ldk 0 rfl rfl rfl na73) ?_
      refine WL.val (.inr ⟨_, _, _, rfl, rfl, rfl⟩) rfl (yl_move rfl) ?_
      refine WL.callvp (.inr ⟨_, _, _, rfl, rfl, rfl⟩) rfl en37 rfl rfl (fun w hw => same_any (hv w) b4 code.length _ cc (peepN (marks code) code i) _ _ w (hv_le w) hN (hw.hvb 2 rfl rfl) (hv_ins hw 3 rfl (by omega) hcm)) ?_
      exact Got.intro 3 rfl rfl rfl
    refine WL.val (.inl rfl) rfl (yl_assign rfl) ?_
    refine WL.nil ?_
    refine WE.then_normal ?_
    refine WC.cond rfl (fun hc1 => ?_) (fun hc1 => ?_)
    ·
      refine WC.seq ?_
      refine WC.region ?_
      refine WL.val (.inl rfl) rfl (yl_ldk 2 rfl rfl rfl na22) ?_
      refine WL.val (.inl rfl) rfl (yl_move rfl) ?_
      refine WL.val (.inl rfl) rfl (yl_iak es22 rfl rfl (by omega)) ?_
      refine WL.val (.inl rfl) rfl (yl_fa fo65_1 rfl) ?_
      refine WL.val (.inl rfl) rfl (yl_ldo 3 rfl rfl na3 (ins_a hx)) ?_
      refine WL.val (.inl rfl) rfl (yl_assign rfl) ?_
      refine WL.nil ?_
      refine WE.then_normal ?_
      refine WC.seq ?_
      refine WC.region ?_
      refine WL.val (.inl rfl) rfl (yl_move rfl) ?_
      refine WL.val (.inl rfl) rfl (yl_ldk 2 rfl rfl rfl na22) ?_
      refine WL.val (.inl rfl) rfl (yl_len es22 rfl) ?_
      refine WL.val (.inl rfl) rfl (yl_sub rfl rfl (by omega)) ?_
      refine WL.callp (.inl rfl) rfl en36 rfl (fun w hw => within_any _ _ _ w) ?_
      refine WL.val (.inl rfl) rfl (yl_move rfl) ?_
      apply WL.and 3 rfl rfl rfl rfl (.inl rfl) rfl rfl rfl rfl rfl
      ·
        intro hg1
        refine WL.val (.inr ⟨_, _, _, rfl, rfl, rfl⟩) rfl (yl_move rfl) ?_
        refine WL.val (.inr ⟨_, _, _, rfl, rfl, rfl⟩) rfl (yl_move rfl) ?_
        refine WL.val (.inr ⟨_, _, _, rfl, rfl, rfl⟩) rfl (yl_ne rfl rfl) ?_
        exact Got.intro 3 rfl rfl rfl
      refine WL.val (.inl rfl) rfl (yl_move rfl) ?_
      apply WL.and 7 rfl rfl rfl rfl (.inl rfl) rfl rfl rfl rfl rfl
      ·
        intro hg2
        have hwi := (bool_split hg2).1
        obtain ⟨h0, h1⟩ := within_lt hwi
        obtain ⟨pb, po, ha, hrow⟩ := hm.elt _ _ (atI_get (l := code) (k := (atI (peepN (marks code) code i) i).a.toNat) (by omega))
        have hrow : RdC H pb (po + (atI (peepN (marks code) code i) i).a.toNat * 3) (atI code (atI (peepN (marks code) code i) i).a.toNat).cells := hrow
        refine WL.val (.inr ⟨_, _, _, rfl, rfl, rfl⟩) rfl (yl_fa fo24_0 rfl) ?_
        refine WL.val (.inr ⟨_, _, _, rfl, rfl, rfl⟩) rfl (yl_ldk 6 rfl rfl rfl na22) ?_
        refine WL.val (.inr ⟨_, _, _, rfl, rfl, rfl⟩) rfl (yl_move rfl) ?_
        refine WL.val (.inr ⟨_, _, _, rfl, rfl, rfl⟩) rfl (yl_iai es22 rfl rfl ha h0 (by omega)) ?_
        refine WL.val (.inr ⟨_, _, _, rfl, rfl, rfl⟩) rfl (yl_fa fo65_0 rfl) ?_
        refine WL.val (.inr ⟨_, _, _, rfl, rfl, rfl⟩) rfl (yl_ld 1 na3 rfl rfl (hrow 0 _ rfl)) ?_
        refine WL.val (.inr ⟨_, _, _, rfl, rfl, rfl⟩) rfl (yl_eq rfl rfl) ?_
        exact Got.intro 7 rfl rfl rfl
      refine WL.nil ?_
      refine WE.then_normal ?_
      refine WC.cond rfl (fun hc2 => ?_) (fun hc2 => ?_)
      ·
        have hwi := (bool_split (bool_split hc2).1).1
        obtain ⟨h0, h1⟩ := within_lt hwi
        obtain ⟨pb, po, ha, hrow⟩ := hm.elt _ _ (atI_get (l := code) (k := (atI (peepN (marks code) code i) i).a.toNat) (by omega))
        have hrow : RdC H pb (po + (atI (peepN (marks code) code i) i).a.toNat * 3) (atI code (atI (peepN (marks code) code i) i).a.toNat).cells := hrow
        refine WC.draws1 3 [(0, true), (1, true), (2, true), (3, true), (4, true), (5, true), (6, true), (7, true), (8, true), (9, true), (10, false)] mixed (by kernel_rfl) (fun _ _ _ d _ h => by cases d <;> exact h) ?_
        refine WD.q rfl (.inl rfl) rfl (fun _ h => by have h := Ws.out 3 h; exact h) (yl_ldk 2 rfl rfl rfl na22) ?_
        refine WD.q rfl (.inl rfl) rfl (fun _ h => by have h := Ws.out 3 h; exact h) (yl_move rfl) ?_
        refine WD.q rfl (.inl rfl) rfl (fun _ h => by have h := Ws.out 3 h; exact h) (yl_fa fo24_0 rfl) ?_
        refine WD.q rfl (.inl rfl) rfl (fun _ h => by have h := Ws.out 3 h; exact h) (yl_ldk 5 rfl rfl rfl na22) ?_
        refine WD.q rfl (.inl rfl) rfl (fun _ h => by have h := Ws.out 3 h; exact h) (yl_move rfl) ?_
        refine WD.q rfl (.inl rfl) rfl (fun _ h => by have h := Ws.out 3 h; exact h) (yl_iai es22 rfl rfl ha h0 (by omega)) ?_
        refine WD.q rfl (.inl rfl) rfl (fun _ h => by have h := Ws.out 3 h; exact h) (yl_fa fo65_1 rfl) ?_
        refine WD.q rfl (.inl rfl) rfl (fun _ h => by have h := Ws.out 3 h; exact h) (yl_ld 1 na3 rfl rfl (hrow 1 _ rfl)) ?_
        refine WD.q rfl (.inl rfl) rfl (fun _ h => by have h := Ws.out 3 h; exact h) (yl_iak es22 rfl rfl (by omega)) ?_
        refine WD.q rfl (.inl rfl) rfl (fun _ h => by have h := Ws.out 3 h; exact h) (yl_fa fo65_1 rfl) ?_
        refine WD.e rfl (fun _ h => by have h := Ws.out 3 h; exact h) ?_
        refine WL.storeO 3 _ (.inl rfl) rfl rfl rfl sz3 rfl rfl (ins_le1 hx) (ins_seta hx _) ?_
        refine WL.nil ?_
        refine WE.toD ?_
        refine WD.nil (fun _ h => by have h := Ws.out 3 h; exact h) ?_
        refine WE.block_normal ?_
        refine WE.block_normal ?_
        refine WE.then_normal ?_
        refine WC.region ?_
        refine WL.val (.inl rfl) rfl (yl_move rfl) ?_
        refine WL.val (.inl rfl) rfl (yl_inc rfl rfl rfl (by omega)) ?_
        refine WL.val (.inl rfl) rfl (yl_assign rfl) ?_
        refine WL.nil ?_
        exact WE.again (i + 1) (by omega) (by omega) (sc rfl (sc rfl (sc rfl (sc rfl (sc rfl (sc rfl (sc rfl sn))))))) (fun _ h => by
          have e : peepN (marks code) code (i + 1) = refStepL (marks code) code (peepN (marks code) code i) i := (refStep_eq (by rw [peepN_len]; exact hlt)).symm
          rw [e]
          simp only [refStepL, hc1, hc2, Bool.false_eq_true, if_false, if_true]
          exact h)
      ·
        refine WC.skip ?_
        refine WE.block_normal ?_
        refine WE.block_normal ?_
        refine WE.then_normal ?_
        refine WC.region ?_
        refine WL.val (.inl rfl) rfl (yl_move rfl) ?_
        refine WL.val (.inl rfl) rfl (yl_inc rfl rfl rfl (by omega)) ?_
        refine WL.val (.inl rfl) rfl (yl_assign rfl) ?_
        refine WL.nil ?_
        exact WE.again (i + 1) (by omega) (by omega) (sc rfl (sc rfl (sc rfl (sc rfl (sc rfl (sc rfl (sc rfl sn))))))) (fun _ h => by
          have e : peepN (marks code) code (i + 1) = refStepL (marks code) code (peepN (marks code) code i) i := (refStep_eq (by rw [peepN_len]; exact hlt)).symm
          rw [e]
          simp only [refStepL, hc1, hc2, Bool.false_eq_true, if_false, if_true]
          exact h)
    ·
      refine WC.seq ?_
      refine WC.region ?_
      refine WL.val (.inl rfl) rfl (yl_move rfl) ?_
      refine WL.val (.inl rfl) rfl (yl_move rfl) ?_
      apply WL.and 4 rfl rfl rfl rfl (.inl rfl) rfl rfl rfl rfl rfl
      ·
        intro hg3
        refine WL.val (.inr ⟨_, _, _, rfl, rfl, rfl⟩) rfl (yl_move rfl) ?_
        refine WL.val (.inr ⟨_, _, _, rfl, rfl, rfl⟩) rfl (yl_move rfl) ?_
        refine WL.val (.inr ⟨_, _, _, rfl, rfl, rfl⟩) rfl (yl_inc rfl rfl rfl (by omega)) ?_
        refine WL.callvp (.inr ⟨_, _, _, rfl, rfl, rfl⟩) rfl en38 rfl rfl (fun w hw => plain_any (hv w) b6 b4 b3 code.length _ r14.1 cc r14.2 (peepN (marks code) code i) (marks code) _ _ w (hv_le w) hN hml (hw.hvb 0 rfl rfl) (hw.hvb 2 rfl rfl) (hw.hvb 4 rfl rfl) (hv_ins hw 3 rfl (by omega) hcm) (hmk.mono fun _ _ _ h => (hv_of (hw.vs K (by simp))).cell h)) ?_
        exact Got.intro 4 rfl rfl rfl
      refine WL.val (.inl rfl) rfl (yl_move rfl) ?_
      apply WL.and 4 rfl rfl rfl rfl (.inl rfl) rfl rfl rfl rfl rfl
      ·
        intro hg4
        refine WL.val (.inr ⟨_, _, _, rfl, rfl, rfl⟩) rfl (yl_move rfl) ?_
        refine WL.val (.inr ⟨_, _, _, rfl, rfl, rfl⟩) rfl (yl_move rfl) ?_
        refine WL.val (.inr ⟨_, _, _, rfl, rfl, rfl⟩) rfl (yl_addn (b := 2) rfl rfl rfl rfl (by omega)) ?_
        refine WL.callvp (.inr ⟨_, _, _, rfl, rfl, rfl⟩) rfl en38 rfl rfl (fun w hw => plain_any (hv w) b6 b4 b3 code.length _ r14.1 cc r14.2 (peepN (marks code) code i) (marks code) _ _ w (hv_le w) hN hml (hw.hvb 0 rfl rfl) (hw.hvb 2 rfl rfl) (hw.hvb 4 rfl rfl) (hv_ins hw 3 rfl (by omega) hcm) (hmk.mono fun _ _ _ h => (hv_of (hw.vs K (by simp))).cell h)) ?_
        exact Got.intro 4 rfl rfl rfl
      refine WL.val (.inl rfl) rfl (yl_move rfl) ?_
      apply WL.and 7 rfl rfl rfl rfl (.inl rfl) rfl rfl rfl rfl rfl
      ·
        intro hg5
        have hlt2 : i + 2 < code.length := by have := okAt_lt (bool_split hg5).2; rw [peepN_len] at this; exact this
        have hx2 : (peepN (marks code) code i)[i + 2]? = some (atI (peepN (marks code) code i) (i + 2)) := atI_get (by rw [peepN_len]; exact hlt2)
        refine WL.val (.inr ⟨_, _, _, rfl, rfl, rfl⟩) rfl (yl_ldk 2 rfl rfl rfl na22) ?_
        refine WL.val (.inr ⟨_, _, _, rfl, rfl, rfl⟩) rfl (yl_move rfl) ?_
        refine WL.val (.inr ⟨_, _, _, rfl, rfl, rfl⟩) rfl (yl_addn (b := 2) rfl rfl rfl rfl (by omega)) ?_
        refine WL.val (.inr ⟨_, _, _, rfl, rfl, rfl⟩) rfl (yl_iak es22 rfl rfl (by omega)) ?_
        refine WL.val (.inr ⟨_, _, _, rfl, rfl, rfl⟩) rfl (yl_fa fo65_1 rfl) ?_
        refine WL.val (.inr ⟨_, _, _, rfl, rfl, rfl⟩) rfl (yl_ldo 3 rfl rfl na3 (ins_a hx2)) ?_
        refine WL.callp (.inr ⟨_, _, _, rfl, rfl, rfl⟩) rfl en39 rfl (fun w hw => folds_any _ w) ?_
        exact Got.intro 7 rfl rfl rfl
      refine WL.val (.inl rfl) rfl (yl_assign rfl) ?_
      refine WL.nil ?_
      refine WE.then_normal ?_
      refine WC.cond rfl (fun hc3 => ?_) (fun hc3 => ?_)
      ·
        have hlt2 : i + 2 < code.length := by have := okAt_lt (bool_split (bool_split hc3).1).2; rw [peepN_len] at this; exact this
        have hx2 : (peepN (marks code) code i)[i + 2]? = some (atI (peepN (marks code) code i) (i + 2)) := atI_get (by rw [peepN_len]; exact hlt2)
        have hx1 : (peepN (marks code) code i)[i + 1]? = some (atI (peepN (marks code) code i) (i + 1)) := atI_get (by rw [peepN_len]; omega)
        refine WC.seq ?_
        refine WC.draws0 [(0, true), (1, true), (2, true), (3, true), (4, true), (5, true), (6, true), (7, true), (8, true), (9, true), (10, true), (11, true), (12, true), (13, true), (14, true), (15, true), (16, true), (17, false), (18, true), (19, true), (20, true), (21, true), (22, true)] mixed (by kernel_rfl) (fun _ _ _ d _ h => by cases d <;> exact h) ?_
        refine WD.q rfl (.inl rfl) rfl (fun _ h => h) (yl_ldk 2 rfl rfl rfl na22) ?_
        refine WD.q rfl (.inl rfl) rfl (fun _ h => h) (yl_move rfl) ?_
        refine WD.q rfl (.inl rfl) rfl (fun _ h => h) (yl_addn (b := 2) rfl rfl rfl rfl (by omega)) ?_
        refine WD.q rfl (.inl rfl) rfl (fun _ h => h) (yl_iak es22 rfl rfl (by omega)) ?_
        refine WD.q rfl (.inl rfl) rfl (fun _ h => h) (yl_fa fo65_1 rfl) ?_
        refine WD.q rfl (.inl rfl) rfl (fun _ h => h) (yl_ldo 3 rfl rfl na3 (ins_a hx2)) ?_
        refine WD.q rfl (.inl rfl) rfl (fun _ h => h) (yl_ldk 2 rfl rfl rfl na22) ?_
        refine WD.q rfl (.inl rfl) rfl (fun _ h => h) (yl_move rfl) ?_
        refine WD.q rfl (.inl rfl) rfl (fun _ h => h) (yl_iak es22 rfl rfl (by omega)) ?_
        refine WD.q rfl (.inl rfl) rfl (fun _ h => h) (yl_fa fo65_1 rfl) ?_
        refine WD.q rfl (.inl rfl) rfl (fun _ h => h) (yl_ldo 3 rfl rfl na3 (ins_a hx)) ?_
        refine WD.q rfl (.inl rfl) rfl (fun _ h => h) (yl_ldk 2 rfl rfl rfl na22) ?_
        refine WD.q rfl (.inl rfl) rfl (fun _ h => h) (yl_move rfl) ?_
        refine WD.q rfl (.inl rfl) rfl (fun _ h => h) (yl_inc rfl rfl rfl (by omega)) ?_
        refine WD.q rfl (.inl rfl) rfl (fun _ h => h) (yl_iak es22 rfl rfl (by omega)) ?_
        refine WD.q rfl (.inl rfl) rfl (fun _ h => h) (yl_fa fo65_1 rfl) ?_
        refine WD.q rfl (.inl rfl) rfl (fun _ h => h) (yl_ldo 3 rfl rfl na3 (ins_a hx1)) ?_
        refine WD.e rfl (fun _ h => h) ?_
        refine WL.callp (.inl rfl) rfl en40 rfl (fun w hw => rmath_any _ _ _ w) ?_
        refine WL.nil ?_
        refine WE.toD ?_
        refine WD.q rfl (.inl rfl) rfl (fun _ h => h) (yl_move rfl) ?_
        refine WD.q rfl (.inl rfl) rfl (fun _ h => h) (yl_extract rfl rfl) ?_
        refine WD.q rfl (.inl rfl) rfl (fun _ h => h) (yl_extract rfl rfl) ?_
        refine WD.q rfl (.inl rfl) rfl (fun _ h => h) (yl_assign rfl) ?_
        refine WD.q rfl (.inl rfl) rfl (fun _ h => h) (yl_assign rfl) ?_
        refine WD.nil (fun _ h => h) ?_
        refine WE.then_normal ?_
        refine WC.draws1 3 [(0, true), (1, true), (2, true), (3, true), (4, true), (5, true), (6, true), (7, true), (8, true), (9, true), (10, true), (11, true), (12, true), (13, false), (14, false), (15, false), (16, false), (17, false)] mixed (by kernel_rfl) (fun _ _ _ d _ h => by cases d <;> exact h) ?_
        refine WD.q rfl (.inl rfl) rfl (fun _ h => by have h := Ws.out 3 h; exact h) (yl_ldk 2 rfl rfl rfl na22) ?_
        refine WD.q rfl (.inl rfl) rfl (fun _ h => by have h := Ws.out 3 h; exact h) (yl_move rfl) ?_
        refine WD.q rfl (.inl rfl) rfl (fun _ h => by have h := Ws.out 3 h; exact h) (yl_ldk 2 rfl rfl rfl na22) ?_
        refine WD.q rfl (.inl rfl) rfl (fun _ h => by have h := Ws.out 3 h; exact h) (yl_move rfl) ?_
        refine WD.q rfl (.inl rfl) rfl (fun _ h => by have h := Ws.out 3 h; exact h) (yl_inc rfl rfl rfl (by omega)) ?_
        refine WD.q rfl (.inl rfl) rfl (fun _ h => by have h := Ws.out 3 h; exact h) (yl_ldk 2 rfl rfl rfl na22) ?_
        refine WD.q rfl (.inl rfl) rfl (fun _ h => by have h := Ws.out 3 h; exact h) (yl_move rfl) ?_
        refine WD.q rfl (.inl rfl) rfl (fun _ h => by have h := Ws.out 3 h; exact h) (yl_addn (b := 2) rfl rfl rfl rfl (by omega)) ?_
        refine WD.q rfl (.inl rfl) rfl (fun _ h => by have h := Ws.out 3 h; exact h) (yl_ldka 1 rfl rfl ag65 rfl) ?_
        refine WD.q rfl (.inl rfl) rfl (fun _ h => by have h := Ws.out 3 h; exact h) (yl_ldka 1 rfl rfl ag65 rfl) ?_
        refine WD.q rfl (.inl rfl) rfl (fun _ h => by have h := Ws.out 3 h; exact h) (yl_move rfl) ?_
        refine WD.q rfl (.inl rfl) rfl (fun _ h => by have h := Ws.out 3 h; exact h) (yl_build zr65 pl65 rfl rfl) ?_
        refine WD.q rfl (.inl rfl) rfl (fun _ h => by have h := Ws.out 3 h; exact h) (yl_iak es22 rfl rfl (by omega)) ?_
        refine WD.e rfl (fun _ h => by have h := Ws.out 3 h; exact h) ?_
        refine WL.storeO 3 _ (.inl rfl) rfl rfl rfl sz65 rfl rfl (ins_le3 (atI_get (by simp only [List.length_set, peepN_len]; omega))) (ins_set (atI_get (by simp only [List.length_set, peepN_len]; omega)) 21 0 0) ?_
        refine WL.nil ?_
        refine WE.toD ?_
        refine WD.e rfl (fun _ h => by have h := Ws.out 3 h; exact h) ?_
        refine WL.val (.inl rfl) rfl (yl_iak es22 rfl rfl (by omega)) ?_
        refine WL.nil ?_
        refine WE.toD ?_
        refine WD.e rfl (fun _ h => by have h := Ws.out 3 h; exact h) ?_
        refine WL.storeO 3 _ (.inl rfl) rfl rfl rfl sz65 rfl rfl (ins_le3 (atI_get (by simp only [List.length_set, peepN_len]; omega))) (ins_set (atI_get (by simp only [List.length_set, peepN_len]; omega)) 21 0 0) ?_
        refine WL.nil ?_
        refine WE.toD ?_
        refine WD.e rfl (fun _ h => by have h := Ws.out 3 h; exact h) ?_
        refine WL.val (.inl rfl) rfl (yl_iak es22 rfl rfl (by omega)) ?_
        refine WL.nil ?_
        refine WE.toD ?_
        refine WD.e rfl (fun _ h => by have h := Ws.out 3 h; exact h) ?_
        refine WL.storeO 3 _ (.inl rfl) rfl rfl rfl sz65 rfl rfl (ins_le3 (atI_get (by simp only [List.length_set, peepN_len]; omega))) (ins_set (atI_get (by simp only [List.length_set, peepN_len]; omega)) 1 _ 0) ?_
        refine WL.nil ?_
        refine WE.toD ?_
        refine WD.nil (fun _ h => by have h := Ws.out 3 h; exact h) ?_
        refine WE.block_normal ?_
        refine WE.block_normal ?_
        refine WE.then_normal ?_
        refine WC.region ?_
        refine WL.val (.inl rfl) rfl (yl_move rfl) ?_
        refine WL.val (.inl rfl) rfl (yl_inc rfl rfl rfl (by omega)) ?_
        refine WL.val (.inl rfl) rfl (yl_assign rfl) ?_
        refine WL.nil ?_
        exact WE.again (i + 1) (by omega) (by omega) (sc rfl (sc rfl (sc rfl (sc rfl (sc rfl (sc rfl (sc rfl sn))))))) (fun _ h => by
          have e : peepN (marks code) code (i + 1) = refStepL (marks code) code (peepN (marks code) code i) i := (refStep_eq (by rw [peepN_len]; exact hlt)).symm
          rw [e]
          simp only [refStepL, hc1, hc3, Bool.false_eq_true, if_false, if_true]
          exact h)
      ·
        refine WC.seq ?_
        refine WC.region ?_
        refine WL.val (.inl rfl) rfl (yl_move rfl) ?_
        refine WL.val (.inl rfl) rfl (yl_move rfl) ?_
        apply WL.and 4 rfl rfl rfl rfl (.inl rfl) rfl rfl rfl rfl rfl
        ·
          intro hg6
          refine WL.val (.inr ⟨_, _, _, rfl, rfl, rfl⟩) rfl (yl_move rfl) ?_
          refine WL.val (.inr ⟨_, _, _, rfl, rfl, rfl⟩) rfl (yl_move rfl) ?_
          refine WL.val (.inr ⟨_, _, _, rfl, rfl, rfl⟩) rfl (yl_inc rfl rfl rfl (by omega)) ?_
          refine WL.callvp (.inr ⟨_, _, _, rfl, rfl, rfl⟩) rfl en38 rfl rfl (fun w hw => plain_any (hv w) b6 b4 b3 code.length _ r14.1 cc r14.2 (peepN (marks code) code i) (marks code) _ _ w (hv_le w) hN hml (hw.hvb 0 rfl rfl) (hw.hvb 2 rfl rfl) (hw.hvb 4 rfl rfl) (hv_ins hw 3 rfl (by omega) hcm) (hmk.mono fun _ _ _ h => (hv_of (hw.vs K (by simp))).cell h)) ?_
          exact Got.intro 4 rfl rfl rfl
        refine WL.val (.inl rfl) rfl (yl_assign rfl) ?_
        refine WL.nil ?_
        refine WE.then_normal ?_
        refine WC.cond rfl (fun hc4 => ?_) (fun hc4 => ?_)
        ·
          have hlt1 : i + 1 < code.length := by have := okAt_lt (bool_split hc4).2; rw [peepN_len] at this; exact this
          have hx1 : (peepN (marks code) code i)[i + 1]? = some (atI (peepN (marks code) code i) (i + 1)) := atI_get (by rw [peepN_len]; exact hlt1)
          refine WC.seq ?_
          refine WC.seq ?_
          refine WC.region ?_
          refine WL.val (.inl rfl) rfl (yl_ldk 2 rfl rfl rfl na22) ?_
          refine WL.val (.inl rfl) rfl (yl_move rfl) ?_
          refine WL.val (.inl rfl) rfl (yl_iak es22 rfl rfl (by omega)) ?_
          refine WL.val (.inl rfl) rfl (yl_fa fo65_1 rfl) ?_
          refine WL.val (.inl rfl) rfl (yl_ldo 3 rfl rfl na3 (ins_a hx)) ?_
          refine WL.val (.inl rfl) rfl (yl_eq rfl rfl) ?_
          refine WL.nil ?_
          refine WE.then_normal ?_
          refine WC.cond rfl (fun hc5 => ?_) (fun hc5 => ?_)
          ·
            refine WC.draws1 3 [(0, true), (1, true), (2, true), (3, true), (4, true), (5, true), (6, true), (7, true), (8, false), (9, true), (10, true), (11, false)] mixed (by kernel_rfl) (fun _ _ _ d _ h => by cases d <;> exact h) ?_
            refine WD.q rfl (.inl rfl) rfl (fun _ h => by have h := Ws.out 3 h; exact h) (yl_ldk 2 rfl rfl rfl na22) ?_
            refine WD.q rfl (.inl rfl) rfl (fun _ h => by have h := Ws.out 3 h; exact h) (yl_move rfl) ?_
            refine WD.q rfl (.inl rfl) rfl (fun _ h => by have h := Ws.out 3 h; exact h) (yl_inc rfl rfl rfl (by omega)) ?_
            refine WD.q rfl (.inl rfl) rfl (fun _ h => by have h := Ws.out 3 h; exact h) (yl_ldk 2 rfl rfl rfl na22) ?_
            refine WD.q rfl (.inl rfl) rfl (fun _ h => by have h := Ws.out 3 h; exact h) (yl_move rfl) ?_
            refine WD.q rfl (.inl rfl) rfl (fun _ h => by have h := Ws.out 3 h; exact h) (yl_inc rfl rfl rfl (by omega)) ?_
            refine WD.q rfl (.inl rfl) rfl (fun _ h => by have h := Ws.out 3 h; exact h) (yl_iak es22 rfl rfl (by omega)) ?_
            refine WD.q rfl (.inl rfl) rfl (fun _ h => by have h := Ws.out 3 h; exact h) (yl_fa fo65_1 rfl) ?_
            refine WD.e rfl (fun _ h => by have h := Ws.out 3 h; exact h) ?_
            refine WL.val (.inl rfl) rfl (yl_ldo 3 rfl rfl na3 (ins_a hx1)) ?_
            refine WL.nil ?_
            refine WE.toD ?_
            refine WD.q rfl (.inl rfl) rfl (fun _ h => by have h := Ws.out 3 h; exact h) (yl_build zr65 pl65 rfl rfl) ?_
            refine WD.q rfl (.inl rfl) rfl (fun _ h => by have h := Ws.out 3 h; exact h) (yl_iak es22 rfl rfl (by omega)) ?_
            refine WD.e rfl (fun _ h => by have h := Ws.out 3 h; exact h) ?_
            refine WL.storeO 3 _ (.inl rfl) rfl rfl rfl sz65 rfl rfl (ins_le3 (atI_get (by simp only [List.length_set, peepN_len]; omega))) (ins_set (atI_get (by simp only [List.length_set, peepN_len]; omega)) 11 _ 0) ?_
            refine WL.nil ?_
            refine WE.toD ?_
            refine WD.nil (fun _ h => by have h := Ws.out 3 h; exact h) ?_
            refine WE.then_normal ?_
            refine WC.region ?_
            refine WL.val (.inl rfl) rfl (yl_ldk 2 rfl rfl rfl na22) ?_
            refine WL.val (.inl rfl) rfl (yl_move rfl) ?_
            refine WL.val (.inl rfl) rfl (yl_ldka 1 rfl rfl ag65 rfl) ?_
            refine WL.val (.inl rfl) rfl (yl_iak es22 rfl rfl (by omega)) ?_
            refine WL.storeO 3 _ (.inl rfl) rfl rfl rfl sz65 rfl rfl (ins_le3 (atI_get (by simp only [List.length_set, peepN_len]; omega))) (ins_set (atI_get (by simp only [List.length_set, peepN_len]; omega)) 21 0 0) ?_
            refine WL.nil ?_
            refine WE.block_normal ?_
            refine WE.block_normal ?_
            refine WE.then_normal ?_
            refine WC.region ?_
            refine WL.val (.inl rfl) rfl (yl_move rfl) ?_
            refine WL.val (.inl rfl) rfl (yl_inc rfl rfl rfl (by omega)) ?_
            refine WL.val (.inl rfl) rfl (yl_assign rfl) ?_
            refine WL.nil ?_
            exact WE.again (i + 1) (by omega) (by omega) (sc rfl (sc rfl (sc rfl (sc rfl (sc rfl (sc rfl (sc rfl sn))))))) (fun _ h => by
              have e : peepN (marks code) code (i + 1) = refStepL (marks code) code (peepN (marks code) code i) i := (refStep_eq (by rw [peepN_len]; exact hlt)).symm
              rw [e]
              simp only [refStepL, hc1, hc3, hc4, hc5, Bool.false_eq_true, if_false, if_true]
              exact h)
          ·
            refine WC.region ?_
            refine WL.val (.inl rfl) rfl (yl_ldk 2 rfl rfl rfl na22) ?_
            refine WL.val (.inl rfl) rfl (yl_move rfl) ?_
            refine WL.val (.inl rfl) rfl (yl_inc rfl rfl rfl (by omega)) ?_
            refine WL.val (.inl rfl) rfl (yl_ldka 1 rfl rfl ag65 rfl) ?_
            refine WL.val (.inl rfl) rfl (yl_iak es22 rfl rfl (by omega)) ?_
            refine WL.storeO 3 _ (.inl rfl) rfl rfl rfl sz65 rfl rfl (ins_le3 (atI_get (by simp only [List.length_set, peepN_len]; omega))) (ins_set (atI_get (by simp only [List.length_set, peepN_len]; omega)) 21 0 0) ?_
            refine WL.nil ?_
            refine WE.then_normal ?_
            refine WC.region ?_
            refine WL.val (.inl rfl) rfl (yl_ldk 2 rfl rfl rfl na22) ?_
            refine WL.val (.inl rfl) rfl (yl_move rfl) ?_
            refine WL.val (.inl rfl) rfl (yl_ldka 1 rfl rfl ag65 rfl) ?_
            refine WL.val (.inl rfl) rfl (yl_iak es22 rfl rfl (by omega)) ?_
            refine WL.storeO 3 _ (.inl rfl) rfl rfl rfl sz65 rfl rfl (ins_le3 (atI_get (by simp only [List.length_set, peepN_len]; omega))) (ins_set (atI_get (by simp only [List.length_set, peepN_len]; omega)) 21 0 0) ?_
            refine WL.nil ?_
            refine WE.block_normal ?_
            refine WE.block_normal ?_
            refine WE.then_normal ?_
            refine WC.region ?_
            refine WL.val (.inl rfl) rfl (yl_move rfl) ?_
            refine WL.val (.inl rfl) rfl (yl_inc rfl rfl rfl (by omega)) ?_
            refine WL.val (.inl rfl) rfl (yl_assign rfl) ?_
            refine WL.nil ?_
            exact WE.again (i + 1) (by omega) (by omega) (sc rfl (sc rfl (sc rfl (sc rfl (sc rfl (sc rfl (sc rfl sn))))))) (fun _ h => by
              have e : peepN (marks code) code (i + 1) = refStepL (marks code) code (peepN (marks code) code i) i := (refStep_eq (by rw [peepN_len]; exact hlt)).symm
              rw [e]
              simp only [refStepL, hc1, hc3, hc4, hc5, Bool.false_eq_true, if_false, if_true]
              exact h)
        ·
          refine WC.seq ?_
          refine WC.region ?_
          refine WL.val (.inl rfl) rfl (yl_move rfl) ?_
          refine WL.val (.inl rfl) rfl (yl_move rfl) ?_
          apply WL.and 4 rfl rfl rfl rfl (.inl rfl) rfl rfl rfl rfl rfl
          ·
            intro hg7
            refine WL.val (.inr ⟨_, _, _, rfl, rfl, rfl⟩) rfl (yl_move rfl) ?_
            refine WL.val (.inr ⟨_, _, _, rfl, rfl, rfl⟩) rfl (yl_move rfl) ?_
            refine WL.val (.inr ⟨_, _, _, rfl, rfl, rfl⟩) rfl (yl_inc rfl rfl rfl (by omega)) ?_
            refine WL.callvp (.inr ⟨_, _, _, rfl, rfl, rfl⟩) rfl en38 rfl rfl (fun w hw => plain_any (hv w) b6 b4 b3 code.length _ r14.1 cc r14.2 (peepN (marks code) code i) (marks code) _ _ w (hv_le w) hN hml (hw.hvb 0 rfl rfl) (hw.hvb 2 rfl rfl) (hw.hvb 4 rfl rfl) (hv_ins hw 3 rfl (by omega) hcm) (hmk.mono fun _ _ _ h => (hv_of (hw.vs K (by simp))).cell h)) ?_
            exact Got.intro 4 rfl rfl rfl
          refine WL.val (.inl rfl) rfl (yl_assign rfl) ?_
          refine WL.nil ?_
          refine WE.then_normal ?_
          refine WC.cond rfl (fun hc6 => ?_) (fun hc6 => ?_)
          ·
            have hlt1 : i + 1 < code.length := by have := okAt_lt (bool_split hc6).2; rw [peepN_len] at this; exact this
            have hx1 : (peepN (marks code) code i)[i + 1]? = some (atI (peepN (marks code) code i) (i + 1)) := atI_get (by rw [peepN_len]; exact hlt1)
            refine WC.draws1 3 [(0, true), (1, true), (2, true), (3, true), (4, true), (5, true), (6, true), (7, true), (8, true), (9, true), (10, false), (11, true), (12, false), (13, true), (14, true), (15, false), (16, false), (17, false)] mixed (by kernel_rfl) (fun _ _ _ d _ h => by cases d <;> exact h) ?_
            refine WD.q rfl (.inl rfl) rfl (fun _ h => by have h := Ws.out 3 h; exact h) (yl_ldk 2 rfl rfl rfl na22) ?_
            refine WD.q rfl (.inl rfl) rfl (fun _ h => by have h := Ws.out 3 h; exact h) (yl_move rfl) ?_
            refine WD.q rfl (.inl rfl) rfl (fun _ h => by have h := Ws.out 3 h; exact h) (yl_ldk 2 rfl rfl rfl na22) ?_
            refine WD.q rfl (.inl rfl) rfl (fun _ h => by have h := Ws.out 3 h; exact h) (yl_move rfl) ?_
            refine WD.q rfl (.inl rfl) rfl (fun _ h => by have h := Ws.out 3 h; exact h) (yl_inc rfl rfl rfl (by omega)) ?_
            refine WD.q rfl (.inl rfl) rfl (fun _ h => by have h := Ws.out 3 h; exact h) (yl_ldka 1 rfl rfl ag65 rfl) ?_
            refine WD.q rfl (.inl rfl) rfl (fun _ h => by have h := Ws.out 3 h; exact h) (yl_ldk 2 rfl rfl rfl na22) ?_
            refine WD.q rfl (.inl rfl) rfl (fun _ h => by have h := Ws.out 3 h; exact h) (yl_move rfl) ?_
            refine WD.q rfl (.inl rfl) rfl (fun _ h => by have h := Ws.out 3 h; exact h) (yl_iak es22 rfl rfl (by omega)) ?_
            refine WD.q rfl (.inl rfl) rfl (fun _ h => by have h := Ws.out 3 h; exact h) (yl_fa fo65_1 rfl) ?_
            refine WD.e rfl (fun _ h => by have h := Ws.out 3 h; exact h) ?_
            refine WL.val (.inl rfl) rfl (yl_ldo 3 rfl rfl na3 (ins_a hx)) ?_
            refine WL.nil ?_
            refine WE.toD ?_
            refine WD.q rfl (.inl rfl) rfl (fun _ h => by have h := Ws.out 3 h; exact h) (yl_eq rfl rfl) ?_
            refine WD.e rfl (fun _ h => by have h := Ws.out 3 h; exact h) ?_
            refine WL.callp (.inl rfl) rfl en41 rfl (fun w hw => truth_any _ w) ?_
            refine WL.nil ?_
            refine WE.toD ?_
            refine WD.q rfl (.inl rfl) rfl (fun _ h => by have h := Ws.out 3 h; exact h) (yl_build zr65 pl65 rfl rfl) ?_
            refine WD.q rfl (.inl rfl) rfl (fun _ h => by have h := Ws.out 3 h; exact h) (yl_iak es22 rfl rfl (by omega)) ?_
            refine WD.e rfl (fun _ h => by have h := Ws.out 3 h; exact h) ?_
            refine WL.storeO 3 _ (.inl rfl) rfl rfl rfl sz65 rfl rfl (ins_le3 (atI_get (by simp only [List.length_set, peepN_len]; omega))) (ins_set (atI_get (by simp only [List.length_set, peepN_len]; omega)) 21 0 0) ?_
            refine WL.nil ?_
            refine WE.toD ?_
            refine WD.e rfl (fun _ h => by have h := Ws.out 3 h; exact h) ?_
            refine WL.val (.inl rfl) rfl (yl_iak es22 rfl rfl (by omega)) ?_
            refine WL.nil ?_
            refine WE.toD ?_
            refine WD.e rfl (fun _ h => by have h := Ws.out 3 h; exact h) ?_
            refine WL.storeO 3 _ (.inl rfl) rfl rfl rfl sz65 rfl rfl (ins_le3 (atI_get (by simp only [List.length_set, peepN_len]; omega))) (ins_set (atI_get (by simp only [List.length_set, peepN_len]; omega)) 1 _ 0) ?_
            refine WL.nil ?_
            refine WE.toD ?_
            refine WD.nil (fun _ h => by have h := Ws.out 3 h; exact h) ?_
            refine WE.block_normal ?_
            refine WE.block_normal ?_
            refine WE.then_normal ?_
            refine WC.region ?_
            refine WL.val (.inl rfl) rfl (yl_move rfl) ?_
            refine WL.val (.inl rfl) rfl (yl_inc rfl rfl rfl (by omega)) ?_
            refine WL.val (.inl rfl) rfl (yl_assign rfl) ?_
            refine WL.nil ?_
            exact WE.again (i + 1) (by omega) (by omega) (sc rfl (sc rfl (sc rfl (sc rfl (sc rfl (sc rfl (sc rfl sn))))))) (fun _ h => by
              have e : peepN (marks code) code (i + 1) = refStepL (marks code) code (peepN (marks code) code i) i := (refStep_eq (by rw [peepN_len]; exact hlt)).symm
              rw [e]
              simp only [refStepL, hc1, hc3, hc4, hc6, Bool.false_eq_true, if_false, if_true]
              exact h)
          ·
            refine WC.seq ?_
            refine WC.region ?_
            refine WL.val (.inl rfl) rfl (yl_move rfl) ?_
            refine WL.val (.inl rfl) rfl (yl_move rfl) ?_
            apply WL.and 4 rfl rfl rfl rfl (.inl rfl) rfl rfl rfl rfl rfl
            ·
              intro hg8
              refine WL.val (.inr ⟨_, _, _, rfl, rfl, rfl⟩) rfl (yl_move rfl) ?_
              refine WL.val (.inr ⟨_, _, _, rfl, rfl, rfl⟩) rfl (yl_move rfl) ?_
              refine WL.val (.inr ⟨_, _, _, rfl, rfl, rfl⟩) rfl (yl_inc rfl rfl rfl (by omega)) ?_
              refine WL.callvp (.inr ⟨_, _, _, rfl, rfl, rfl⟩) rfl en38 rfl rfl (fun w hw => plain_any (hv w) b6 b4 b3 code.length _ r14.1 cc r14.2 (peepN (marks code) code i) (marks code) _ _ w (hv_le w) hN hml (hw.hvb 0 rfl rfl) (hw.hvb 2 rfl rfl) (hw.hvb 4 rfl rfl) (hv_ins hw 3 rfl (by omega) hcm) (hmk.mono fun _ _ _ h => (hv_of (hw.vs K (by simp))).cell h)) ?_
              exact Got.intro 4 rfl rfl rfl
            refine WL.val (.inl rfl) rfl (yl_assign rfl) ?_
            refine WL.nil ?_
            refine WE.then_normal ?_
            refine WC.cond rfl (fun hc7 => ?_) (fun hc7 => ?_)
            ·
              have hlt1 : i + 1 < code.length := by have := okAt_lt (bool_split hc7).2; rw [peepN_len] at this; exact this
              have hx1 : (peepN (marks code) code i)[i + 1]? = some (atI (peepN (marks code) code i) (i + 1)) := atI_get (by rw [peepN_len]; exact hlt1)
              refine WC.draws1 3 [(0, true), (1, true), (2, true), (3, true), (4, true), (5, true), (6, true), (7, true), (8, true), (9, true), (10, false), (11, true), (12, false), (13, true), (14, true), (15, false), (16, false), (17, false)] mixed (by kernel_rfl) (fun _ _ _ d _ h => by cases d <;> exact h) ?_
              refine WD.q rfl (.inl rfl) rfl (fun _ h => by have h := Ws.out 3 h; exact h) (yl_ldk 2 rfl rfl rfl na22) ?_
              refine WD.q rfl (.inl rfl) rfl (fun _ h => by have h := Ws.out 3 h; exact h) (yl_move rfl) ?_
              refine WD.q rfl (.inl rfl) rfl (fun _ h => by have h := Ws.out 3 h; exact h) (yl_ldk 2 rfl rfl rfl na22) ?_
              refine WD.q rfl (.inl rfl) rfl (fun _ h => by have h := Ws.out 3 h; exact h) (yl_move rfl) ?_
              refine WD.q rfl (.inl rfl) rfl (fun _ h => by have h := Ws.out 3 h; exact h) (yl_inc rfl rfl rfl (by omega)) ?_
              refine WD.q rfl (.inl rfl) rfl (fun _ h => by have h := Ws.out 3 h; exact h) (yl_ldka 1 rfl rfl ag65 rfl) ?_
              refine WD.q rfl (.inl rfl) rfl (fun _ h => by have h := Ws.out 3 h; exact h) (yl_ldk 2 rfl rfl rfl na22) ?_
              refine WD.q rfl (.inl rfl) rfl (fun _ h => by have h := Ws.out 3 h; exact h) (yl_move rfl) ?_
              refine WD.q rfl (.inl rfl) rfl (fun _ h => by have h := Ws.out 3 h; exact h) (yl_iak es22 rfl rfl (by omega)) ?_
              refine WD.q rfl (.inl rfl) rfl (fun _ h => by have h := Ws.out 3 h; exact h) (yl_fa fo65_1 rfl) ?_
              refine WD.e rfl (fun _ h => by have h := Ws.out 3 h; exact h) ?_
              refine WL.val (.inl rfl) rfl (yl_ldo 3 rfl rfl na3 (ins_a hx)) ?_
              refine WL.nil ?_
              refine WE.toD ?_
              refine WD.q rfl (.inl rfl) rfl (fun _ h => by have h := Ws.out 3 h; exact h) (yl_ne rfl rfl) ?_
              refine WD.e rfl (fun _ h => by have h := Ws.out 3 h; exact h) ?_
              refine WL.callp (.inl rfl) rfl en41 rfl (fun w hw => truth_any _ w) ?_
              refine WL.nil ?_
              refine WE.toD ?_
              refine WD.q rfl (.inl rfl) rfl (fun _ h => by have h := Ws.out 3 h; exact h) (yl_build zr65 pl65 rfl rfl) ?_
              refine WD.q rfl (.inl rfl) rfl (fun _ h => by have h := Ws.out 3 h; exact h) (yl_iak es22 rfl rfl (by omega)) ?_
              refine WD.e rfl (fun _ h => by have h := Ws.out 3 h; exact h) ?_
              refine WL.storeO 3 _ (.inl rfl) rfl rfl rfl sz65 rfl rfl (ins_le3 (atI_get (by simp only [List.length_set, peepN_len]; omega))) (ins_set (atI_get (by simp only [List.length_set, peepN_len]; omega)) 21 0 0) ?_
              refine WL.nil ?_
              refine WE.toD ?_
              refine WD.e rfl (fun _ h => by have h := Ws.out 3 h; exact h) ?_
              refine WL.val (.inl rfl) rfl (yl_iak es22 rfl rfl (by omega)) ?_
              refine WL.nil ?_
              refine WE.toD ?_
              refine WD.e rfl (fun _ h => by have h := Ws.out 3 h; exact h) ?_
              refine WL.storeO 3 _ (.inl rfl) rfl rfl rfl sz65 rfl rfl (ins_le3 (atI_get (by simp only [List.length_set, peepN_len]; omega))) (ins_set (atI_get (by simp only [List.length_set, peepN_len]; omega)) 1 _ 0) ?_
              refine WL.nil ?_
              refine WE.toD ?_
              refine WD.nil (fun _ h => by have h := Ws.out 3 h; exact h) ?_
              refine WE.block_normal ?_
              refine WE.block_normal ?_
              refine WE.then_normal ?_
              refine WC.region ?_
              refine WL.val (.inl rfl) rfl (yl_move rfl) ?_
              refine WL.val (.inl rfl) rfl (yl_inc rfl rfl rfl (by omega)) ?_
              refine WL.val (.inl rfl) rfl (yl_assign rfl) ?_
              refine WL.nil ?_
              exact WE.again (i + 1) (by omega) (by omega) (sc rfl (sc rfl (sc rfl (sc rfl (sc rfl (sc rfl (sc rfl sn))))))) (fun _ h => by
                have e : peepN (marks code) code (i + 1) = refStepL (marks code) code (peepN (marks code) code i) i := (refStep_eq (by rw [peepN_len]; exact hlt)).symm
                rw [e]
                simp only [refStepL, hc1, hc3, hc4, hc6, hc7, Bool.false_eq_true, if_false, if_true]
                exact h)
            ·
              refine WC.seq ?_
              refine WC.region ?_
              refine WL.val (.inl rfl) rfl (yl_move rfl) ?_
              refine WL.val (.inl rfl) rfl (yl_move rfl) ?_
              apply WL.and 4 rfl rfl rfl rfl (.inl rfl) rfl rfl rfl rfl rfl
              ·
                intro hg9
                refine WL.val (.inr ⟨_, _, _, rfl, rfl, rfl⟩) rfl (yl_move rfl) ?_
                refine WL.val (.inr ⟨_, _, _, rfl, rfl, rfl⟩) rfl (yl_move rfl) ?_
                refine WL.val (.inr ⟨_, _, _, rfl, rfl, rfl⟩) rfl (yl_inc rfl rfl rfl (by omega)) ?_
                refine WL.callvp (.inr ⟨_, _, _, rfl, rfl, rfl⟩) rfl en38 rfl rfl (fun w hw => plain_any (hv w) b6 b4 b3 code.length _ r14.1 cc r14.2 (peepN (marks code) code i) (marks code) _ _ w (hv_le w) hN hml (hw.hvb 0 rfl rfl) (hw.hvb 2 rfl rfl) (hw.hvb 4 rfl rfl) (hv_ins hw 3 rfl (by omega) hcm) (hmk.mono fun _ _ _ h => (hv_of (hw.vs K (by simp))).cell h)) ?_
                exact Got.intro 4 rfl rfl rfl
              refine WL.val (.inl rfl) rfl (yl_assign rfl) ?_
              refine WL.nil ?_
              refine WE.then_normal ?_
              refine WC.cond rfl (fun hc8 => ?_) (fun hc8 => ?_)
              ·
                have hlt1 : i + 1 < code.length := by have := okAt_lt (bool_split hc8).2; rw [peepN_len] at this; exact this
                have hx1 : (peepN (marks code) code i)[i + 1]? = some (atI (peepN (marks code) code i) (i + 1)) := atI_get (by rw [peepN_len]; exact hlt1)
                refine WC.draws1 3 [(0, true), (1, true), (2, true), (3, true), (4, true), (5, true), (6, true), (7, true), (8, false), (9, false), (10, false)] mixed (by kernel_rfl) (fun _ _ _ d _ h => by cases d <;> exact h) ?_
                refine WD.q rfl (.inl rfl) rfl (fun _ h => by have h := Ws.out 3 h; exact h) (yl_ldk 2 rfl rfl rfl na22) ?_
                refine WD.q rfl (.inl rfl) rfl (fun _ h => by have h := Ws.out 3 h; exact h) (yl_move rfl) ?_
                refine WD.q rfl (.inl rfl) rfl (fun _ h => by have h := Ws.out 3 h; exact h) (yl_ldk 2 rfl rfl rfl na22) ?_
                refine WD.q rfl (.inl rfl) rfl (fun _ h => by have h := Ws.out 3 h; exact h) (yl_move rfl) ?_
                refine WD.q rfl (.inl rfl) rfl (fun _ h => by have h := Ws.out 3 h; exact h) (yl_inc rfl rfl rfl (by omega)) ?_
                refine WD.q rfl (.inl rfl) rfl (fun _ h => by have h := Ws.out 3 h; exact h) (yl_ldka 1 rfl rfl ag65 rfl) ?_
                refine WD.q rfl (.inl rfl) rfl (fun _ h => by have h := Ws.out 3 h; exact h) (yl_ldka 1 rfl rfl ag65 rfl) ?_
                refine WD.q rfl (.inl rfl) rfl (fun _ h => by have h := Ws.out 3 h; exact h) (yl_iak es22 rfl rfl (by omega)) ?_
                refine WD.e rfl (fun _ h => by have h := Ws.out 3 h; exact h) ?_
                refine WL.storeO 3 _ (.inl rfl) rfl rfl rfl sz65 rfl rfl (ins_le3 (atI_get (by simp only [List.length_set, peepN_len]; omega))) (ins_set (atI_get (by simp only [List.length_set, peepN_len]; omega)) 21 0 0) ?_
                refine WL.nil ?_
                refine WE.toD ?_
                refine WD.e rfl (fun _ h => by have h := Ws.out 3 h; exact h) ?_
                refine WL.val (.inl rfl) rfl (yl_iak es22 rfl rfl (by omega)) ?_
                refine WL.nil ?_
                refine WE.toD ?_
                refine WD.e rfl (fun _ h => by have h := Ws.out 3 h; exact h) ?_
                refine WL.storeO 3 _ (.inl rfl) rfl rfl rfl sz65 rfl rfl (ins_le3 (atI_get (by simp only [List.length_set, peepN_len]; omega))) (ins_set (atI_get (by simp only [List.length_set, peepN_len]; omega)) 21 0 0) ?_
                refine WL.nil ?_
                refine WE.toD ?_
                refine WD.nil (fun _ h => by have h := Ws.out 3 h; exact h) ?_
                refine WE.block_normal ?_
                refine WE.block_normal ?_
                refine WE.then_normal ?_
                refine WC.region ?_
                refine WL.val (.inl rfl) rfl (yl_move rfl) ?_
                refine WL.val (.inl rfl) rfl (yl_inc rfl rfl rfl (by omega)) ?_
                refine WL.val (.inl rfl) rfl (yl_assign rfl) ?_
                refine WL.nil ?_
                exact WE.again (i + 1) (by omega) (by omega) (sc rfl (sc rfl (sc rfl (sc rfl (sc rfl (sc rfl (sc rfl sn))))))) (fun _ h => by
                  have e : peepN (marks code) code (i + 1) = refStepL (marks code) code (peepN (marks code) code i) i := (refStep_eq (by rw [peepN_len]; exact hlt)).symm
                  rw [e]
                  simp only [refStepL, hc1, hc3, hc4, hc6, hc7, hc8, Bool.false_eq_true, if_false, if_true]
                  exact h)
              ·
                refine WC.skip ?_
                refine WE.block_normal ?_
                refine WE.block_normal ?_
                refine WE.then_normal ?_
                refine WC.region ?_
                refine WL.val (.inl rfl) rfl (yl_move rfl) ?_
                refine WL.val (.inl rfl) rfl (yl_inc rfl rfl rfl (by omega)) ?_
                refine WL.val (.inl rfl) rfl (yl_assign rfl) ?_
                refine WL.nil ?_
                exact WE.again (i + 1) (by omega) (by omega) (sc rfl (sc rfl (sc rfl (sc rfl (sc rfl (sc rfl (sc rfl sn))))))) (fun _ h => by
                  have e : peepN (marks code) code (i + 1) = refStepL (marks code) code (peepN (marks code) code i) i := (refStep_eq (by rw [peepN_len]; exact hlt)).symm
                  rw [e]
                  simp only [refStepL, hc1, hc3, hc4, hc6, hc7, hc8, Bool.false_eq_true, if_false, if_true]
                  exact h)
  ·
    have hie : i = code.length := by simp at hc0; omega
    subst hie
    refine WC.exit ?_
    refine WE.then_exit ?_
    refine WE.then_exit ?_
    refine WE.block_hit ?_
    refine WE.then_normal ?_
    refine WC.seq ?_
    refine WC.region ?_
    refine WL.val (.inl rfl) rfl (yl_ldk 2 rfl rfl rfl na22) ?_
    refine WL.val (.inl rfl) rfl (yl_fa fo24_1 rfl) ?_
    refine WL.val (.inl rfl) rfl (yl_ldk 6 rfl rfl rfl na3) ?_
    refine WL.val (.inl rfl) rfl (yl_build zr24 pl24 rfl rfl) ?_
    refine WL.store 5 (.inl rfl) rfl rfl rfl sz24 rfl rfl rfl ?_
    refine WL.nil ?_
    refine WE.then_normal ?_
    refine WC.ret ?_
    refine WE.retc1 5 rfl rfl rfl ag24 rfl fun w' hw => ?_
    exact ⟨(some ⟨bc, 0, none⟩, cc), by simp [peepL, peepN_len]; rfl, hw.fr, own_ins hw 3 rfl (peepN_len _ _ _)⟩

end Go.Proofs.Ytagoencpeflmlaa
