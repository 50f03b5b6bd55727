/- Walks of the functions of this claim, and plain laws on what they compute; each theorem tells its own conditions. -/
import Derived.Test.YtagoencpeflmlaaBwT2
namespace Go.Proofs.Ytagoencpeflmlaa
open Go.Bw
set_option linter.unusedVariables false
set_option linter.unusedSimpArgs false

theorem bool_split {a b : Bool} (h : (a && b) = true) : a = true ∧ b = true := by simpa using h

theorem mk_succ_ref {code : List Ins} {i : Nat} {x : Ins} (hx : code[i]? = some x) : mk code code.length (i + 1) =
    (if (x.op == 13 && decide (((i + 1 : Nat) : Int) < (code.length : Int))) = true then (if ((x.op == 11 || x.op == 12 || x.op == 13) && within x.a 0 ((code.length : Int) - 1)) = true then (mk code code.length i).set x.a.toNat true else mk code code.length i).set (i + 1) true
      else if ((x.op == 11 || x.op == 12 || x.op == 13) && within x.a 0 ((code.length : Int) - 1)) = true then (mk code code.length i).set x.a.toNat true else mk code code.length i) := by
  have e : ((x.op == 11 || x.op == 12 || x.op == 13) && within x.a 0 ((code.length : Int) - 1)) = (goes x.op && decide (0 ≤ x.a) && decide (x.a < (code.length : Int))) := by
    have : decide (x.a ≤ (code.length : Int) - 1) = decide (x.a < (code.length : Int)) := by rw [decide_eq_decide]; omega
    simp [goes, within, this, Bool.and_assoc]
  rw [e, mk_succ hx]
  by_cases h : (x.op == 13) = true
  · by_cases h2 : i + 1 < code.length
    · have : decide (((i + 1 : Nat) : Int) < (code.length : Int)) = true := by simp; omega
      simp only [h, this, Bool.and_self, if_true]
    · have : decide (((i + 1 : Nat) : Int) < (code.length : Int)) = false := by simp; omega
      simp only [h, this, Bool.and_false, if_true, Bool.false_eq_true, if_false]
      rw [List.set_eq_of_length_le]
      split <;> simp [mk_len] <;> omega
  · have h' : (x.op == 13) = false := by simpa using h
    simp only [h', Bool.false_and, Bool.false_eq_true, if_false]
theorem en36 : Enters Try.prog 36 := enters_of Try.func36 (by kernel_rfl) rfl

theorem checkImage_any (H : View) (a : Option Addr) (c : Nat) (code : List Ins) (data : Int) (w : World) (hH : Le H w) (hm : Sl rdIns 3 H a c code) :
    Calls Try.prog 11 #[.agg #[.slice a code.length c, .int .i64 data]] w fun e w' => e = .returned (.int .i64 (checkImg code data)) ∧ Ext w w' := by
  have hcap := hm.cap
  have hmax := hm.max
  refine enter Try.func11 rfl 28 rfl rfl ?_
  refine WC.world (W' := Ws w [] [] [H]) (fun _ e => by subst e; exact Ws.init (by simp [hH])) ?_
  refine WC.seq ?_
  refine WC.region ?_
  refine WL.box (.inl rfl) rfl rfl fun b1 => ?_
  refine WL.val (.inl rfl) rfl (yl_assign rfl) ?_
  refine WL.nil ?_
  refine WE.then_normal ?_
  refine WC.seq ?_
  refine WC.seq ?_
  refine WC.region ?_
  refine WL.val (.inl rfl) rfl (yl_fa fo24_0 rfl) ?_
  refine WL.val (.inl rfl) rfl (yl_ldk 0 rfl rfl rfl na22) ?_
  refine WL.val (.inl rfl) rfl (yl_len es22 rfl) ?_
  refine WL.callp (.inl rfl) rfl en36 rfl (fun w hw => within_any _ _ _ w) ?_
  refine WL.val (.inl rfl) rfl (yl_not rfl) ?_
  refine WL.nil ?_
  refine WE.then_normal ?_
  refine WC.cond rfl (fun hc0 => ?_) (fun hc0 => ?_)
  ·
    have hb0 : (decide ((code.length : Int) < 1) || decide (2048 < (code.length : Int))) = true := by simp [within] at hc0; simp; omega
    refine WC.seq ?_
    refine WC.region ?_
    refine WL.val (.inl rfl) rfl (yl_assign rfl) ?_
    refine WL.nil ?_
    refine WE.then_normal ?_
    refine WC.ret ?_
    refine WE.then_ret ?_
    refine WE.ret1 rfl rfl fun w' hw => ?_
    exact ⟨by rw [checkImg, if_pos hb0], hw.fr⟩
  ·
    have hb0 : ¬ (decide ((code.length : Int) < 1) || decide (2048 < (code.length : Int))) = true := by simp [within] at hc0; simp; omega
    refine WC.skip ?_
    refine WE.then_normal ?_
    refine WC.seq ?_
    refine WC.seq ?_
    refine WC.region ?_
    refine WL.val (.inl rfl) rfl (yl_assign rfl) ?_
    refine WL.nil ?_
    refine WE.then_normal ?_
    refine WC.block ?_
    refine WC.loopW (ι := Nat) (fun i => [(3, .int .i64 (i : Int))]) [(1, _)] (fun i => i ≤ code.length ∧ ∀ j x, j < i → code[j]? = some x → insBad x = false) (fun i => code.length - i) 0 ⟨Nat.zero_le _, by simp⟩ (sc rfl (sc rfl sn)) ?_
    intro i ⟨hi, hall⟩
    refine WC.seq ?_
    refine WC.seq ?_
    refine WC.region ?_
    refine WL.val (.inl rfl) rfl (yl_move rfl) ?_
    refine WL.val (.inl rfl) rfl (yl_fa fo24_0 rfl) ?_
    refine WL.val (.inl rfl) rfl (yl_ldk 0 rfl rfl rfl na22) ?_
    refine WL.val (.inl rfl) rfl (yl_len es22 rfl) ?_
    refine WL.val (.inl rfl) rfl (yl_lt rfl rfl) ?_
    refine WL.nil ?_
    refine WE.then_normal ?_
    refine WC.cond rfl (fun hc1 => ?_) (fun hc1 => ?_)
    ·
      have hlt : i < code.length := by simpa using hc1
      obtain ⟨x, hxi⟩ : ∃ x, code[i]? = some x := ⟨_, List.getElem?_eq_getElem hlt⟩
      obtain ⟨pb, po, ha, hrow⟩ := hm.elt i x hxi
      have hrow : RdC H pb (po + i * 3) x.cells := hrow
      have hop : vc H pb (po + i * 3 + 0) = some (.int .i64 x.op) := hrow 0 _ rfl
      refine WC.skip ?_
      refine WE.then_normal ?_
      refine WC.seq ?_
      refine WC.block ?_
      refine WC.seq ?_
      refine WC.region ?_
      refine WL.val (.inl rfl) rfl (yl_fa fo24_0 rfl) ?_
      refine WL.val (.inl rfl) rfl (yl_ldk 0 rfl rfl rfl na22) ?_
      refine WL.val (.inl rfl) rfl (yl_move rfl) ?_
      refine WL.val (.inl rfl) rfl (yl_iao es22 rfl rfl (by assumption) (by omega)) ?_
      refine WL.val (.inl rfl) rfl (yl_fa fo65_0 rfl) ?_
      refine WL.val (.inl rfl) rfl (yl_ld 0 na3 rfl rfl (hop)) ?_
      refine WL.callp (.inl rfl) rfl en36 rfl (fun w hw => within_any _ _ _ w) ?_
      refine WL.val (.inl rfl) rfl (yl_not rfl) ?_
      refine WL.nil ?_
      refine WE.then_normal ?_
      refine WC.cond rfl (fun hc2 => ?_) (fun hc2 => ?_)
      ·
        have hbad : insBad x = true := by simp [within] at hc2; simp [insBad]; omega
        refine WC.seq ?_
        refine WC.region ?_
        refine WL.val (.inl rfl) rfl (yl_assign rfl) ?_
        refine WL.nil ?_
        refine WE.then_normal ?_
        refine WC.ret ?_
        refine WE.block_ret ?_
        refine WE.then_ret ?_
        refine WE.then_ret ?_
        refine WE.block_ret ?_
        refine WE.then_ret ?_
        refine WE.ret1 rfl rfl fun w' hw => ?_
        exact ⟨by rw [checkImg, if_neg hb0, if_pos (any_true hxi hbad)], hw.fr⟩
      ·
        have hbad : insBad x = false := by simp [within] at hc2; simp [insBad]; omega
        refine WC.skip ?_
        refine WE.block_normal ?_
        refine WE.then_normal ?_
        refine WC.region ?_
        refine WL.val (.inl rfl) rfl (yl_move rfl) ?_
        refine WL.val (.inl rfl) rfl (yl_inc rfl rfl rfl (by omega)) ?_
        refine WL.val (.inl rfl) rfl (yl_assign rfl) ?_
        refine WL.nil ?_
        exact WE.again (i + 1) (by omega) ⟨by omega, fun j x hj hx => by rcases Nat.lt_succ_iff_lt_or_eq.1 hj with h | rfl; exact hall j x h hx; rw [hxi] at hx; injection hx with hx; subst hx; exact hbad⟩ (sc rfl (sc rfl sn)) (fun _ h => h)
    ·
      have hge : ¬ i < code.length := by simpa using hc1
      have hany : code.any insBad = false := any_false fun j x hj => hall j x (by have := (List.getElem?_eq_some_iff.1 hj).1; omega) hj
      refine WC.exit ?_
      refine WE.then_exit ?_
      refine WE.then_exit ?_
      refine WE.block_hit ?_
      refine WE.then_normal ?_
      refine WC.seq ?_
      refine WC.seq ?_
      refine WC.region ?_
      refine WL.val (.inl rfl) rfl (yl_fa fo24_1 rfl) ?_
      refine WL.val (.inl rfl) rfl (yl_ldk 0 rfl rfl rfl na3) ?_
      refine WL.callp (.inl rfl) rfl en36 rfl (fun w hw => within_any _ _ _ w) ?_
      refine WL.val (.inl rfl) rfl (yl_not rfl) ?_
      refine WL.nil ?_
      refine WE.then_normal ?_
      refine WC.cond rfl (fun hc3 => ?_) (fun hc3 => ?_)
      ·
        have hb3 : (decide (data < 0) || decide (512 < data)) = true := by simp [within] at hc3; simp; omega
        refine WC.seq ?_
        refine WC.region ?_
        refine WL.val (.inl rfl) rfl (yl_assign rfl) ?_
        refine WL.nil ?_
        refine WE.then_normal ?_
        refine WC.ret ?_
        refine WE.then_ret ?_
        refine WE.ret1 rfl rfl fun w' hw => ?_
        exact ⟨by rw [checkImg, if_neg hb0, if_neg (by simp [hany]), if_pos hb3], hw.fr⟩
      ·
        have hb3 : ¬ (decide (data < 0) || decide (512 < data)) = true := by simp [within] at hc3; simp; omega
        refine WC.skip ?_
        refine WE.then_normal ?_
        refine WC.seq ?_
        refine WC.region ?_
        refine WL.val (.inl rfl) rfl (yl_assign rfl) ?_
        refine WL.nil ?_
        refine WE.then_normal ?_
        refine WC.ret ?_
        refine WE.ret1 rfl rfl fun w' hw => ?_
        exact ⟨by rw [checkImg, if_neg hb0, if_neg (by simp [hany]), if_neg hb3], hw.fr⟩

theorem marksOf_any (H : View) (a : Option Addr) (c : Nat) (code : List Ins) (data : Int) (w : World) (hH : Le H w) (hm : Sl rdIns 3 H a c code) (hpos : 0 < code.length) (hle : code.length ≤ 2048) :
    Calls Try.prog 12 #[.agg #[.slice a code.length c, .int .i64 data]] w fun e w' => ∃ r : Option Addr × Nat, e = .returned (.slice r.1 (marks code).length r.2) ∧ Ext w w' ∧ Sl rdBool 1 (nv w w') r.1 r.2 (marks code) := by
  have hcap := hm.cap
  have hmax := hm.max
  refine enter Try.func12 rfl 66 rfl rfl ?_
  refine WC.world (W' := Ws w [] [] [H]) (fun _ e => by subst e; exact Ws.init (by simp [hH])) ?_
  refine WC.seq ?_
  refine WC.region ?_
  refine WL.box (.inl rfl) rfl rfl fun b1 => ?_
  refine WL.val (.inl rfl) rfl (yl_assign rfl) ?_
  refine WL.nil ?_
  refine WE.then_normal ?_
  refine WC.seq ?_
  refine WC.region ?_
  refine WL.val (.inl rfl) rfl (yl_fa fo24_0 rfl) ?_
  refine WL.val (.inl rfl) rfl (yl_ldk 0 rfl rfl rfl na22) ?_
  refine WL.val (.inl rfl) rfl (yl_len es22 rfl) ?_
  refine WL.make (.inl rfl) rfl el25 rfl rfl (by omega) (by omega) (by omega) (by omega) fun b10 => ?_
  refine WL.reblk 0 (.cells ((List.replicate code.length false).map Value.bool).toArray 4 (0, 0)) rfl (by rw [made_one _ rfl]; simp) ?_
  refine WL.val (.inl rfl) rfl (yl_assign rfl) ?_
  refine WL.nil ?_
  refine WE.then_normal ?_
  refine WC.seq ?_
  refine WC.region ?_
  refine WL.val (.inl rfl) rfl (yl_move rfl) ?_
  refine WL.val (.inl rfl) rfl (yl_iak (i := 0) es25 rfl rfl (by omega)) ?_
  refine WL.storeAs 0 (.cells ((mk code code.length 0).map Value.bool).toArray 4 (0, 0)) (.inl rfl) rfl rfl rfl sz4 rfl rfl (stOk_map _ _ _ _ (by simp; omega)) (by rw [mk_zero]; exact setIn_map Value.bool _ 4 0 true (by simp; omega)) ?_
  refine WL.nil ?_
  refine WE.then_normal ?_
  refine WC.seq ?_
  refine WC.seq ?_
  refine WC.region ?_
  refine WL.val (.inl rfl) rfl (yl_assign rfl) ?_
  refine WL.nil ?_
  refine WE.then_normal ?_
  refine WC.block ?_
  refine WC.loopK (ι := Nat) (fun i => [(4, .int .i64 (i : Int))]) [(1, _), (2, _), (3, _)] (fun i => Ws w [] [blk b10 (.cells ((mk code code.length i).map Value.bool).toArray 4 (0, 0)), blk b1 (.cells (Value.agg #[.slice a code.length c, .int .i64 data]).cells 24 (0, 0))] [H]) (fun i => i ≤ code.length) (fun i => code.length - i) 0 (Nat.zero_le _) (sc rfl (sc rfl (sc rfl (sc rfl sn)))) (fun _ h => h) ?_
  intro i hi
  refine WC.seq ?_
  refine WC.seq ?_
  refine WC.region ?_
  refine WL.val (.inl rfl) rfl (yl_move rfl) ?_
  refine WL.val (.inl rfl) rfl (yl_fa fo24_0 rfl) ?_
  refine WL.val (.inl rfl) rfl (yl_ldk 1 rfl rfl rfl na22) ?_
  refine WL.val (.inl rfl) rfl (yl_len es22 rfl) ?_
  refine WL.val (.inl rfl) rfl (yl_lt rfl rfl) ?_
  refine WL.nil ?_
  refine WE.then_normal ?_
  refine WC.cond rfl (fun hc0 => ?_) (fun hc0 => ?_)
  ·
    have hlt : i < code.length := by simpa using hc0
    obtain ⟨x, hxi⟩ : ∃ x, code[i]? = some x := ⟨_, List.getElem?_eq_getElem hlt⟩
    obtain ⟨pb, po, ha, hrow⟩ := hm.elt i x hxi
    have hrow : RdC H pb (po + i * 3) x.cells := hrow
    refine WC.skip ?_
    refine WE.then_normal ?_
    refine WC.seq ?_
    refine WC.block ?_
    refine WC.seq ?_
    refine WC.region ?_
    refine WL.val (.inl rfl) rfl (yl_fa fo24_0 rfl) ?_
    refine WL.val (.inl rfl) rfl (yl_ldk 1 rfl rfl rfl na22) ?_
    refine WL.val (.inl rfl) rfl (yl_move rfl) ?_
    refine WL.val (.inl rfl) rfl (yl_iao es22 rfl rfl (by assumption) (by omega)) ?_
    refine WL.val (.inl rfl) rfl (yl_lda 0 ag65 rfl rfl rfl (hrow)) ?_
    refine WL.alloc (.inl rfl) rfl zr65 fun b5 => ?_
    refine WL.store 0 (.inl rfl) rfl rfl rfl sz65 rfl rfl rfl ?_
    refine WL.nil ?_
    refine WE.then_normal ?_
    refine WC.seq ?_
    refine WC.region ?_
    refine WL.val (.inl rfl) rfl (yl_fa fo65_0 rfl) ?_
    refine WL.val (.inl rfl) rfl (yl_ldk 0 rfl rfl rfl na3) ?_
    refine WL.val (.inl rfl) rfl (yl_eq rfl rfl) ?_
    refine WL.val (.inl rfl) rfl (yl_move rfl) ?_
    apply WL.or 3 rfl rfl rfl rfl (.inl rfl) rfl rfl rfl rfl rfl
    ·
      intro hg0
      refine WL.val (.inr ⟨_, _, _, rfl, rfl, rfl⟩) rfl (yl_fa fo65_0 rfl) ?_
      refine WL.val (.inr ⟨_, _, _, rfl, rfl, rfl⟩) rfl (yl_ldk 0 rfl rfl rfl na3) ?_
      refine WL.val (.inr ⟨_, _, _, rfl, rfl, rfl⟩) rfl (yl_eq rfl rfl) ?_
      exact Got.intro 3 rfl rfl rfl
    refine WL.val (.inl rfl) rfl (yl_move rfl) ?_
    apply WL.or 3 rfl rfl rfl rfl (.inl rfl) rfl rfl rfl rfl rfl
    ·
      intro hg1
      refine WL.val (.inr ⟨_, _, _, rfl, rfl, rfl⟩) rfl (yl_fa fo65_0 rfl) ?_
      refine WL.val (.inr ⟨_, _, _, rfl, rfl, rfl⟩) rfl (yl_ldk 0 rfl rfl rfl na3) ?_
      refine WL.val (.inr ⟨_, _, _, rfl, rfl, rfl⟩) rfl (yl_eq rfl rfl) ?_
      exact Got.intro 3 rfl rfl rfl
    refine WL.val (.inl rfl) rfl (yl_assign rfl) ?_
    refine WL.nil ?_
    refine WE.then_normal ?_
    refine WC.seq ?_
    refine WC.seq ?_
    refine WC.region ?_
    refine WL.val (.inl rfl) rfl (yl_move rfl) ?_
    refine WL.val (.inl rfl) rfl (yl_move rfl) ?_
    apply WL.and 6 rfl rfl rfl rfl (.inl rfl) rfl rfl rfl rfl rfl
    ·
      intro hg2
      refine WL.val (.inr ⟨_, _, _, rfl, rfl, rfl⟩) rfl (yl_fa fo65_1 rfl) ?_
      refine WL.val (.inr ⟨_, _, _, rfl, rfl, rfl⟩) rfl (yl_ldk 0 rfl rfl rfl na3) ?_
      refine WL.val (.inr ⟨_, _, _, rfl, rfl, rfl⟩) rfl (yl_move rfl) ?_
      refine WL.val (.inr ⟨_, _, _, rfl, rfl, rfl⟩) rfl (yl_len es25 rfl) ?_
      refine WL.val (.inr ⟨_, _, _, rfl, rfl, rfl⟩) rfl (yl_sub rfl rfl (by simp; omega)) ?_
      refine WL.callp (.inr ⟨_, _, _, rfl, rfl, rfl⟩) rfl en36 rfl (fun w hw => within_any _ _ _ w) ?_
      exact Got.intro 6 rfl rfl rfl
    refine WL.nil ?_
    refine WE.then_normal ?_
    refine WC.cond rfl (fun hc1 => ?_) (fun hc1 => ?_)
    ·
      have hx2 : 0 ≤ x.a ∧ x.a ≤ (code.length : Int) - 1 := by have := (bool_split hc1).2; simpa [within] using this
      obtain ⟨hx0, hx1⟩ := hx2
      refine WC.region ?_
      refine WL.val (.inl rfl) rfl (yl_move rfl) ?_
      refine WL.val (.inl rfl) rfl (yl_fa fo65_1 rfl) ?_
      refine WL.val (.inl rfl) rfl (yl_ldk 0 rfl rfl rfl na3) ?_
      refine WL.val (.inl rfl) rfl (yl_ia es25 rfl rfl hx0 (by omega)) ?_
      refine WL.storeAs 1 _ (.inl rfl) rfl rfl rfl sz4 rfl rfl (stOk_map _ _ _ _ (by simp [mk_len]; omega)) (setIn_map Value.bool _ 4 _ true (by simp [mk_len]; omega)) ?_
      refine WL.nil ?_
      refine WE.then_normal ?_
      refine WC.seq ?_
      refine WC.region ?_
      refine WL.val (.inl rfl) rfl (yl_fa fo65_0 rfl) ?_
      refine WL.val (.inl rfl) rfl (yl_ldk 0 rfl rfl rfl na3) ?_
      refine WL.val (.inl rfl) rfl (yl_eq rfl rfl) ?_
      refine WL.val (.inl rfl) rfl (yl_move rfl) ?_
      apply WL.and 5 rfl rfl rfl rfl (.inl rfl) rfl rfl rfl rfl rfl
      ·
        intro hg3
        refine WL.val (.inr ⟨_, _, _, rfl, rfl, rfl⟩) rfl (yl_move rfl) ?_
        refine WL.val (.inr ⟨_, _, _, rfl, rfl, rfl⟩) rfl (yl_inc rfl rfl rfl (by omega)) ?_
        refine WL.val (.inr ⟨_, _, _, rfl, rfl, rfl⟩) rfl (yl_move rfl) ?_
        refine WL.val (.inr ⟨_, _, _, rfl, rfl, rfl⟩) rfl (yl_len es25 rfl) ?_
        refine WL.val (.inr ⟨_, _, _, rfl, rfl, rfl⟩) rfl (yl_lt rfl rfl) ?_
        exact Got.intro 5 rfl rfl rfl
      refine WL.nil ?_
      refine WE.then_normal ?_
      refine WC.cond rfl (fun hc2 => ?_) (fun hc2 => ?_)
      ·
        have hx3 : ((i + 1 : Nat) : Int) < (code.length : Int) := by have := (bool_split hc2).2; simpa using this
        refine WC.region ?_
        refine WL.val (.inl rfl) rfl (yl_move rfl) ?_
        refine WL.val (.inl rfl) rfl (yl_move rfl) ?_
        refine WL.val (.inl rfl) rfl (yl_inc rfl rfl rfl (by omega)) ?_
        refine WL.val (.inl rfl) rfl (yl_iak es25 rfl rfl (by omega)) ?_
        refine WL.storeAs 1 _ (.inl rfl) rfl rfl rfl sz4 rfl rfl (stOk_map _ _ _ _ (by simp [mk_len]; omega)) (setIn_map Value.bool _ 4 _ true (by simp [mk_len]; omega)) ?_
        refine WL.nil ?_
        refine WE.block_normal ?_
        refine WE.then_normal ?_
        refine WC.region ?_
        refine WL.val (.inl rfl) rfl (yl_move rfl) ?_
        refine WL.val (.inl rfl) rfl (yl_inc rfl rfl rfl (by omega)) ?_
        refine WL.val (.inl rfl) rfl (yl_assign rfl) ?_
        refine WL.nil ?_
        exact WE.again (i + 1) (by omega) (by omega) (sc rfl (sc rfl (sc rfl (sc rfl sn)))) (fun _ h => by
          have e := mk_succ_ref hxi
          have hn : ((((code.length : Nat) : Int).toNat : Nat) : Int) = (code.length : Int) := by omega
          simp only [hn] at hc1 hc2
          simp only [hc1, hc2, if_true, Bool.false_eq_true, if_false] at e
          have h := Ws.drop (L := [_]) h
          rw [e]
          exact h)
      ·
        refine WC.skip ?_
        refine WE.block_normal ?_
        refine WE.then_normal ?_
        refine WC.region ?_
        refine WL.val (.inl rfl) rfl (yl_move rfl) ?_
        refine WL.val (.inl rfl) rfl (yl_inc rfl rfl rfl (by omega)) ?_
        refine WL.val (.inl rfl) rfl (yl_assign rfl) ?_
        refine WL.nil ?_
        exact WE.again (i + 1) (by omega) (by omega) (sc rfl (sc rfl (sc rfl (sc rfl sn)))) (fun _ h => by
          have e := mk_succ_ref hxi
          have hn : ((((code.length : Nat) : Int).toNat : Nat) : Int) = (code.length : Int) := by omega
          simp only [hn] at hc1 hc2
          simp only [hc1, hc2, if_true, Bool.false_eq_true, if_false] at e
          have h := Ws.drop (L := [_]) h
          rw [e]
          exact h)
    ·
      refine WC.skip ?_
      refine WE.then_normal ?_
      refine WC.seq ?_
      refine WC.region ?_
      refine WL.val (.inl rfl) rfl (yl_fa fo65_0 rfl) ?_
      refine WL.val (.inl rfl) rfl (yl_ldk 0 rfl rfl rfl na3) ?_
      refine WL.val (.inl rfl) rfl (yl_eq rfl rfl) ?_
      refine WL.val (.inl rfl) rfl (yl_move rfl) ?_
      apply WL.and 5 rfl rfl rfl rfl (.inl rfl) rfl rfl rfl rfl rfl
      ·
        intro hg3
        refine WL.val (.inr ⟨_, _, _, rfl, rfl, rfl⟩) rfl (yl_move rfl) ?_
        refine WL.val (.inr ⟨_, _, _, rfl, rfl, rfl⟩) rfl (yl_inc rfl rfl rfl (by omega)) ?_
        refine WL.val (.inr ⟨_, _, _, rfl, rfl, rfl⟩) rfl (yl_move rfl) ?_
        refine WL.val (.inr ⟨_, _, _, rfl, rfl, rfl⟩) rfl (yl_len es25 rfl) ?_
        refine WL.val (.inr ⟨_, _, _, rfl, rfl, rfl⟩) rfl (yl_lt rfl rfl) ?_
        exact Got.intro 5 rfl rfl rfl
      refine WL.nil ?_
      refine WE.then_normal ?_
      refine WC.cond rfl (fun hc2 => ?_) (fun hc2 => ?_)
      ·
        have hx3 : ((i + 1 : Nat) : Int) < (code.length : Int) := by have := (bool_split hc2).2; simpa using this
        refine WC.region ?_
        refine WL.val (.inl rfl) rfl (yl_move rfl) ?_
        refine WL.val (.inl rfl) rfl (yl_move rfl) ?_
        refine WL.val (.inl rfl) rfl (yl_inc rfl rfl rfl (by omega)) ?_
        refine WL.val (.inl rfl) rfl (yl_iak es25 rfl rfl (by omega)) ?_
        refine WL.storeAs 1 _ (.inl rfl) rfl rfl rfl sz4 rfl rfl (stOk_map _ _ _ _ (by simp [mk_len]; omega)) (setIn_map Value.bool _ 4 _ true (by simp [mk_len]; omega)) ?_
        refine WL.nil ?_
        refine WE.block_normal ?_
        refine WE.then_normal ?_
        refine WC.region ?_
        refine WL.val (.inl rfl) rfl (yl_move rfl) ?_
        refine WL.val (.inl rfl) rfl (yl_inc rfl rfl rfl (by omega)) ?_
        refine WL.val (.inl rfl) rfl (yl_assign rfl) ?_
        refine WL.nil ?_
        exact WE.again (i + 1) (by omega) (by omega) (sc rfl (sc rfl (sc rfl (sc rfl sn)))) (fun _ h => by
          have e := mk_succ_ref hxi
          have hn : ((((code.length : Nat) : Int).toNat : Nat) : Int) = (code.length : Int) := by omega
          simp only [hn] at hc1 hc2
          simp only [hc1, hc2, if_true, Bool.false_eq_true, if_false] at e
          have h := Ws.drop (L := [_]) h
          rw [e]
          exact h)
      ·
        refine WC.skip ?_
        refine WE.block_normal ?_
        refine WE.then_normal ?_
        refine WC.region ?_
        refine WL.val (.inl rfl) rfl (yl_move rfl) ?_
        refine WL.val (.inl rfl) rfl (yl_inc rfl rfl rfl (by omega)) ?_
        refine WL.val (.inl rfl) rfl (yl_assign rfl) ?_
        refine WL.nil ?_
        exact WE.again (i + 1) (by omega) (by omega) (sc rfl (sc rfl (sc rfl (sc rfl sn)))) (fun _ h => by
          have e := mk_succ_ref hxi
          have hn : ((((code.length : Nat) : Int).toNat : Nat) : Int) = (code.length : Int) := by omega
          simp only [hn] at hc1 hc2
          simp only [hc1, hc2, if_true, Bool.false_eq_true, if_false] at e
          have h := Ws.drop (L := [_]) h
          rw [e]
          exact h)
  ·
    have hge : ¬ i < code.length := by simpa using hc0
    have hie : i = code.length := by omega
    subst hie
    refine WC.exit ?_
    refine WE.then_exit ?_
    refine WE.then_exit ?_
    refine WE.block_hit ?_
    refine WE.then_normal ?_
    refine WC.seq ?_
    refine WC.region ?_
    refine WL.val (.inl rfl) rfl (yl_move rfl) ?_
    refine WL.val (.inl rfl) rfl (yl_assign rfl) ?_
    refine WL.nil ?_
    refine WE.then_normal ?_
    refine WC.ret ?_
    refine WE.ret1 rfl rfl fun w' hw => ?_
    refine ⟨(some ⟨b10, 0, none⟩, ((code.length : Nat) : Int).toNat), ?_, hw.fr, ?_⟩
    · simp [marks, mk_len]
    · exact hw.sl_map 0 rfl (fun _ _ _ _ h => h) (by simp [marks, mk_len]) (by omega) (fun j x hx => hx)

end Go.Proofs.Ytagoencpeflmlaa
