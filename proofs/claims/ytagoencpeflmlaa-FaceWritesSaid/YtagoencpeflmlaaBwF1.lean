/- Walks of the functions of this claim, and plain laws on what they compute; each theorem tells its own conditions. -/
import Derived.Test.YtagoencpeflmlaaBwT1
import Derived.Test.YtagoencpeflmlaaBw14
namespace Go.Proofs.Ytagoencpeflmlaa
open Go.Bw
set_option linter.unusedVariables false
set_option linter.unusedSimpArgs false

def letterB (u : Int) : Bool := decide (97 ≤ u) && decide (u ≤ 122)
def digitB (u : Int) : Bool := decide (48 ≤ u) && decide (u ≤ 57)
def charB (u : UInt8) : Bool := letterB u.toNat || digitB u.toNat
def nameB (s : List UInt8) : Bool := (decide (1 ≤ s.length) && decide (s.length ≤ 8)) && letterB ((s[0]?.getD 0).toNat) && s.all charB
theorem within_nat (n : Nat) : within (n : Int) 1 8 = (decide (1 ≤ n) && decide (n ≤ 8)) := by
  rw [Bool.eq_iff_iff]
  simp [within]
  omega
theorem lex_cond (n : Nat) (u : Int) : (((((n : Int) == 0) || decide (8 < (n : Int))) || decide (u < 97)) || decide (122 < u)) = !((decide (1 ≤ n) && decide (n ≤ 8)) && letterB u) := by
  rw [Bool.eq_iff_iff]
  simp [letterB]
  omega
theorem at0 {s : List UInt8} {i : Nat} (h : i < s.length) : s[i]? = some (s[i]?.getD 0) := by rw [List.getElem?_eq_getElem h]; rfl
theorem all_no {s : List UInt8} {p : UInt8 → Bool} {i : Nat} (h : i < s.length) (hp : p (s[i]?.getD 0) = false) : s.all p = false := by
  rw [List.all_eq_false]
  exact ⟨_, List.mem_of_getElem? (at0 h), by simp [hp]⟩
theorem all_yes {s : List UInt8} {p : UInt8 → Bool} (h : ∀ i, i < s.length → p (s[i]?.getD 0) = true) : s.all p = true := by
  rw [List.all_eq_true]
  intro x hx
  obtain ⟨i, hi⟩ := List.getElem?_of_mem hx
  have := h i (List.getElem?_eq_some_iff.1 hi).1
  rw [hi] at this
  exact this
theorem us9 : Try.prog.underlying 9 = some .string := by kernel_rfl
theorem en36 : Enters Try.prog 36 := enters_of Try.func36 (by kernel_rfl) rfl
theorem en79 : Enters Try.prog 79 := enters_of Try.func79 (by kernel_rfl) rfl
theorem en80 : Enters Try.prog 80 := enters_of Try.func80 (by kernel_rfl) rfl
theorem en100 : Enters Try.prog 100 := enters_of Try.func100 (by kernel_rfl) rfl

theorem letter_any (u : Int) (w : World) :
    Calls Try.prog 79 #[.int .u8 u] w fun e w' => e = .returned (.bool (letterB u)) ∧ Ext w w' := by
  refine enter Try.func79 rfl 9 rfl rfl ?_
  refine WC.world (W' := Ws w [] [] []) (fun _ e => by subst e; exact Ws.init (by simp)) ?_
  refine WC.seq ?_
  refine WC.region ?_
  refine WL.val (.inl rfl) rfl (yl_assign rfl) ?_
  refine WL.nil ?_
  refine WE.then_normal ?_
  refine WC.seq ?_
  refine WC.region ?_
  refine WL.val (.inl rfl) rfl (yl_move rfl) ?_
  refine WL.val (.inl rfl) rfl (yl_ge rfl rfl) ?_
  refine WL.val (.inl rfl) rfl (yl_move rfl) ?_
  apply WL.and 2 rfl rfl rfl rfl (.inl rfl) rfl rfl rfl rfl rfl
  ·
    intro hg0
    refine WL.val (.inr ⟨_, _, _, rfl, rfl, rfl⟩) rfl (yl_move rfl) ?_
    refine WL.val (.inr ⟨_, _, _, rfl, rfl, rfl⟩) rfl (yl_le rfl rfl) ?_
    exact Got.intro 2 rfl rfl rfl
  refine WL.val (.inl rfl) rfl (yl_assign rfl) ?_
  refine WL.nil ?_
  refine WE.then_normal ?_
  refine WC.ret ?_
  refine WE.ret1 rfl rfl fun w' hw => ?_
  exact ⟨rfl, hw.fr⟩

theorem digit_any (u : Int) (w : World) :
    Calls Try.prog 80 #[.int .u8 u] w fun e w' => e = .returned (.bool (digitB u)) ∧ Ext w w' := by
  refine enter Try.func80 rfl 9 rfl rfl ?_
  refine WC.world (W' := Ws w [] [] []) (fun _ e => by subst e; exact Ws.init (by simp)) ?_
  refine WC.seq ?_
  refine WC.region ?_
  refine WL.val (.inl rfl) rfl (yl_assign rfl) ?_
  refine WL.nil ?_
  refine WE.then_normal ?_
  refine WC.seq ?_
  refine WC.region ?_
  refine WL.val (.inl rfl) rfl (yl_move rfl) ?_
  refine WL.val (.inl rfl) rfl (yl_ge rfl rfl) ?_
  refine WL.val (.inl rfl) rfl (yl_move rfl) ?_
  apply WL.and 2 rfl rfl rfl rfl (.inl rfl) rfl rfl rfl rfl rfl
  ·
    intro hg0
    refine WL.val (.inr ⟨_, _, _, rfl, rfl, rfl⟩) rfl (yl_move rfl) ?_
    refine WL.val (.inr ⟨_, _, _, rfl, rfl, rfl⟩) rfl (yl_le rfl rfl) ?_
    exact Got.intro 2 rfl rfl rfl
  refine WL.val (.inl rfl) rfl (yl_assign rfl) ?_
  refine WL.nil ?_
  refine WE.then_normal ?_
  refine WC.ret ?_
  refine WE.ret1 rfl rfl fun w' hw => ?_
  exact ⟨rfl, hw.fr⟩

theorem plain_char (u : Int) (w : World) :
    Calls Try.prog 100 #[.int .u8 u] w fun e w' => e = .returned (.bool (letterB u || digitB u)) ∧ Ext w w' := by
  refine enter Try.func100 rfl 17 rfl rfl ?_
  refine WC.world (W' := Ws w [] [] []) (fun _ e => by subst e; exact Ws.init (by simp)) ?_
  refine WC.seq ?_
  refine WC.region ?_
  refine WL.val (.inl rfl) rfl (yl_assign rfl) ?_
  refine WL.nil ?_
  refine WE.then_normal ?_
  refine WC.seq ?_
  refine WC.region ?_
  refine WL.val (.inl rfl) rfl (yl_move rfl) ?_
  refine WL.val (.inl rfl) rfl (yl_ge rfl rfl) ?_
  refine WL.val (.inl rfl) rfl (yl_move rfl) ?_
  apply WL.and 2 rfl rfl rfl rfl (.inl rfl) rfl rfl rfl rfl rfl
  ·
    intro hg0
    refine WL.val (.inr ⟨_, _, _, rfl, rfl, rfl⟩) rfl (yl_move rfl) ?_
    refine WL.val (.inr ⟨_, _, _, rfl, rfl, rfl⟩) rfl (yl_le rfl rfl) ?_
    exact Got.intro 2 rfl rfl rfl
  refine WL.val (.inl rfl) rfl (yl_move rfl) ?_
  apply WL.or 6 rfl rfl rfl rfl (.inl rfl) rfl rfl rfl rfl rfl
  ·
    intro hg1
    refine WL.val (.inr ⟨_, _, _, rfl, rfl, rfl⟩) rfl (yl_move rfl) ?_
    refine WL.val (.inr ⟨_, _, _, rfl, rfl, rfl⟩) rfl (yl_ge rfl rfl) ?_
    refine WL.val (.inr ⟨_, _, _, rfl, rfl, rfl⟩) rfl (yl_move rfl) ?_
    apply WL.and 2 rfl rfl rfl rfl (.inr ⟨_, _, _, rfl, rfl, rfl⟩) rfl rfl rfl rfl rfl
    ·
      intro hg2
      refine WL.val (.inr ⟨_, _, _, rfl, rfl, rfl⟩) rfl (yl_move rfl) ?_
      refine WL.val (.inr ⟨_, _, _, rfl, rfl, rfl⟩) rfl (yl_le rfl rfl) ?_
      exact Got.intro 2 rfl rfl rfl
    exact Got.intro 4 rfl rfl rfl
  refine WL.val (.inl rfl) rfl (yl_assign rfl) ?_
  refine WL.nil ?_
  refine WE.then_normal ?_
  refine WC.ret ?_
  refine WE.ret1 rfl rfl fun w' hw => ?_
  exact ⟨rfl, hw.fr⟩

theorem isName_any (s : List UInt8) (w : World) :
    Calls Try.prog 49 #[st s] w fun e w' => e = .returned (.bool (nameB s)) ∧ Ext w w' := by
  refine enter Try.func49 rfl 32 rfl rfl ?_
  refine WC.world (W' := Ws w [] [] []) (fun _ e => by subst e; exact Ws.init (by simp)) ?_
  refine WC.seq ?_
  refine WC.region ?_
  refine WL.val (.inl rfl) rfl (yl_assign rfl) ?_
  refine WL.nil ?_
  refine WE.then_normal ?_
  refine WC.seq ?_
  refine WC.seq ?_
  refine WC.region ?_
  refine WL.val (.inl rfl) rfl (yl_move rfl) ?_
  refine WL.val (.inl rfl) rfl (yl_lens us9 rfl) ?_
  refine WL.callp (.inl rfl) rfl en36 rfl (fun w hw => within_any _ _ _ w) ?_
  refine WL.val (.inl rfl) rfl (yl_not rfl) ?_
  refine WL.val (.inl rfl) rfl (yl_move rfl) ?_
  apply WL.or 4 rfl rfl rfl rfl (.inl rfl) rfl rfl rfl rfl rfl
  ·
    intro hg0
    have h0 : 0 < s.length := by simp [within] at hg0; omega
    have hu0 := at0 h0
    refine WL.val (.inr ⟨_, _, _, rfl, rfl, rfl⟩) rfl (yl_move rfl) ?_
    refine WL.val (.inr ⟨_, _, _, rfl, rfl, rfl⟩) rfl (yl_idxk us9 rfl rfl hu0) ?_
    refine WL.callp (.inr ⟨_, _, _, rfl, rfl, rfl⟩) rfl en79 rfl (fun w hw => letter_any _ w) ?_
    refine WL.val (.inr ⟨_, _, _, rfl, rfl, rfl⟩) rfl (yl_not rfl) ?_
    exact Got.intro 4 rfl rfl rfl
  refine WL.nil ?_
  refine WE.then_normal ?_
  refine WC.cond rfl (fun hc0 => ?_) (fun hc0 => ?_)
  ·
    have hn : nameB s = false := by
      unfold nameB
      rw [within_nat] at hc0
      revert hc0
      generalize (decide (1 ≤ s.length) && decide (s.length ≤ 8)) = A
      generalize letterB ((s[0]?.getD 0).toNat) = B
      cases A <;> cases B <;> simp
    refine WC.seq ?_
    refine WC.region ?_
    refine WL.val (.inl rfl) rfl (yl_assign rfl) ?_
    refine WL.nil ?_
    refine WE.then_normal ?_
    refine WC.ret ?_
    refine WE.then_ret ?_
    refine WE.ret1 rfl rfl fun w' hw => ?_
    exact ⟨by rw [hn], hw.fr⟩
  ·
    have hok : ((decide (1 ≤ s.length) && decide (s.length ≤ 8)) && letterB ((s[0]?.getD 0).toNat)) = true := by
      rw [within_nat] at hc0
      revert hc0
      generalize (decide (1 ≤ s.length) && decide (s.length ≤ 8)) = A
      generalize letterB ((s[0]?.getD 0).toNat) = B
      cases A <;> cases B <;> simp
    have h8 : s.length ≤ 8 := by simp at hok; omega
    refine WC.skip ?_
    refine WE.then_normal ?_
    refine WC.seq ?_
    refine WC.seq ?_
    refine WC.region ?_
    refine WL.val (.inl rfl) rfl (yl_assign rfl) ?_
    refine WL.nil ?_
    refine WE.then_normal ?_
    refine WC.block ?_
    refine WC.loopW (ι := Nat) (fun i => [(3, .int .i64 (i : Int))]) [(0, _)] (fun i => i ≤ s.length ∧ ∀ j, j < i → charB (s[j]?.getD 0) = true) (fun i => s.length - i) 0 ⟨Nat.zero_le _, by simp⟩ (sc rfl (sc rfl sn)) ?_
    intro i ⟨hi, hall⟩
    refine WC.seq ?_
    refine WC.seq ?_
    refine WC.region ?_
    refine WL.val (.inl rfl) rfl (yl_move rfl) ?_
    refine WL.val (.inl rfl) rfl (yl_move rfl) ?_
    refine WL.val (.inl rfl) rfl (yl_lens us9 rfl) ?_
    refine WL.val (.inl rfl) rfl (yl_lt rfl rfl) ?_
    refine WL.nil ?_
    refine WE.then_normal ?_
    refine WC.cond rfl (fun hc1 => ?_) (fun hc1 => ?_)
    ·
      have hlt : i < s.length := by simpa using hc1
      have hui := at0 hlt
      refine WC.skip ?_
      refine WE.then_normal ?_
      refine WC.seq ?_
      refine WC.block ?_
      refine WC.seq ?_
      refine WC.region ?_
      refine WL.val (.inl rfl) rfl (yl_move rfl) ?_
      refine WL.val (.inl rfl) rfl (yl_move rfl) ?_
      refine WL.val (.inl rfl) rfl (yl_idxk us9 rfl rfl hui) ?_
      refine WL.callp (.inl rfl) rfl en79 rfl (fun w hw => letter_any _ w) ?_
      refine WL.val (.inl rfl) rfl (yl_not rfl) ?_
      refine WL.val (.inl rfl) rfl (yl_move rfl) ?_
      apply WL.and 5 rfl rfl rfl rfl (.inl rfl) rfl rfl rfl rfl rfl
      ·
        intro hg1
        refine WL.val (.inr ⟨_, _, _, rfl, rfl, rfl⟩) rfl (yl_move rfl) ?_
        refine WL.val (.inr ⟨_, _, _, rfl, rfl, rfl⟩) rfl (yl_move rfl) ?_
        refine WL.val (.inr ⟨_, _, _, rfl, rfl, rfl⟩) rfl (yl_idxk us9 rfl rfl hui) ?_
        refine WL.callp (.inr ⟨_, _, _, rfl, rfl, rfl⟩) rfl en80 rfl (fun w hw => digit_any _ w) ?_
        refine WL.val (.inr ⟨_, _, _, rfl, rfl, rfl⟩) rfl (yl_not rfl) ?_
        exact Got.intro 5 rfl rfl rfl
      refine WL.nil ?_
      refine WE.then_normal ?_
      refine WC.cond rfl (fun hc2 => ?_) (fun hc2 => ?_)
      ·
        have hch : charB (s[i]?.getD 0) = false := by unfold charB; revert hc2; cases letterB _ <;> cases digitB _ <;> simp
        refine WC.seq ?_
        refine WC.region ?_
        refine WL.val (.inl rfl) rfl (yl_assign rfl) ?_
        refine WL.nil ?_
        refine WE.then_normal ?_
        refine WC.ret ?_
        refine WE.block_ret ?_
        refine WE.then_ret ?_
        refine WE.then_ret ?_
        refine WE.block_ret ?_
        refine WE.then_ret ?_
        refine WE.ret1 rfl rfl fun w' hw => ?_
        exact ⟨by unfold nameB; rw [all_no hlt hch]; simp, hw.fr⟩
      ·
        have hch : charB (s[i]?.getD 0) = true := by unfold charB; revert hc2; cases letterB _ <;> cases digitB _ <;> simp
        refine WC.skip ?_
        refine WE.block_normal ?_
        refine WE.then_normal ?_
        refine WC.region ?_
        refine WL.val (.inl rfl) rfl (yl_move rfl) ?_
        refine WL.val (.inl rfl) rfl (yl_inc rfl rfl rfl (by omega)) ?_
        refine WL.val (.inl rfl) rfl (yl_assign rfl) ?_
        refine WL.nil ?_
        exact WE.again (i + 1) (by omega) ⟨by omega, fun j hj => by rcases Nat.lt_succ_iff_lt_or_eq.1 hj with h | rfl; exact hall j h; exact hch⟩ (sc rfl (sc rfl sn)) (fun _ h => h)
    ·
      have hge : ¬ i < s.length := by simpa using hc1
      refine WC.exit ?_
      refine WE.then_exit ?_
      refine WE.then_exit ?_
      refine WE.block_hit ?_
      refine WE.then_normal ?_
      refine WC.seq ?_
      refine WC.region ?_
      refine WL.val (.inl rfl) rfl (yl_assign rfl) ?_
      refine WL.nil ?_
      refine WE.then_normal ?_
      refine WC.ret ?_
      refine WE.ret1 rfl rfl fun w' hw => ?_
      exact ⟨by unfold nameB; rw [all_yes fun j hj => hall j (by omega), hok]; rfl, hw.fr⟩

theorem lexName_any (s : List UInt8) (w : World) :
    Calls Try.prog 76 #[st s] w fun e w' => e = .returned (.bool (nameB s)) ∧ Ext w w' := by
  refine enter Try.func76 rfl 33 rfl rfl ?_
  refine WC.world (W' := Ws w [] [] []) (fun _ e => by subst e; exact Ws.init (by simp)) ?_
  refine WC.seq ?_
  refine WC.region ?_
  refine WL.val (.inl rfl) rfl (yl_assign rfl) ?_
  refine WL.nil ?_
  refine WE.then_normal ?_
  refine WC.seq ?_
  refine WC.seq ?_
  refine WC.region ?_
  refine WL.val (.inl rfl) rfl (yl_move rfl) ?_
  refine WL.val (.inl rfl) rfl (yl_lens us9 rfl) ?_
  refine WL.val (.inl rfl) rfl (yl_eq rfl rfl) ?_
  refine WL.val (.inl rfl) rfl (yl_move rfl) ?_
  apply WL.or 3 rfl rfl rfl rfl (.inl rfl) rfl rfl rfl rfl rfl
  ·
    intro hg0
    refine WL.val (.inr ⟨_, _, _, rfl, rfl, rfl⟩) rfl (yl_move rfl) ?_
    refine WL.val (.inr ⟨_, _, _, rfl, rfl, rfl⟩) rfl (yl_lens us9 rfl) ?_
    refine WL.val (.inr ⟨_, _, _, rfl, rfl, rfl⟩) rfl (yl_gt rfl rfl) ?_
    exact Got.intro 3 rfl rfl rfl
  refine WL.val (.inl rfl) rfl (yl_move rfl) ?_
  apply WL.or 3 rfl rfl rfl rfl (.inl rfl) rfl rfl rfl rfl rfl
  ·
    intro hg1
    have h0 : 0 < s.length := by
      rcases Nat.eq_zero_or_pos s.length with h | h
      · simp [h] at hg1
      · exact h
    have hu0 := at0 h0
    refine WL.val (.inr ⟨_, _, _, rfl, rfl, rfl⟩) rfl (yl_move rfl) ?_
    refine WL.val (.inr ⟨_, _, _, rfl, rfl, rfl⟩) rfl (yl_idxk us9 rfl rfl (by assumption)) ?_
    refine WL.val (.inr ⟨_, _, _, rfl, rfl, rfl⟩) rfl (yl_lt rfl rfl) ?_
    exact Got.intro 3 rfl rfl rfl
  refine WL.val (.inl rfl) rfl (yl_move rfl) ?_
  apply WL.or 3 rfl rfl rfl rfl (.inl rfl) rfl rfl rfl rfl rfl
  ·
    intro hg2
    have h0 : 0 < s.length := by
      rcases Nat.eq_zero_or_pos s.length with h | h
      · simp [h] at hg2
      · exact h
    have hu0 := at0 h0
    refine WL.val (.inr ⟨_, _, _, rfl, rfl, rfl⟩) rfl (yl_move rfl) ?_
    refine WL.val (.inr ⟨_, _, _, rfl, rfl, rfl⟩) rfl (yl_idxk us9 rfl rfl hu0) ?_
    refine WL.val (.inr ⟨_, _, _, rfl, rfl, rfl⟩) rfl (yl_gt rfl rfl) ?_
    exact Got.intro 3 rfl rfl rfl
  refine WL.nil ?_
  refine WE.then_normal ?_
  refine WC.cond rfl (fun hc0 => ?_) (fun hc0 => ?_)
  ·
    rw [lex_cond] at hc0
    have hn : nameB s = false := by
      unfold nameB
      simp only [Bool.not_eq_true'] at hc0
      rw [hc0]; rfl
    refine WC.seq ?_
    refine WC.region ?_
    refine WL.val (.inl rfl) rfl (yl_assign rfl) ?_
    refine WL.nil ?_
    refine WE.then_normal ?_
    refine WC.ret ?_
    refine WE.then_ret ?_
    refine WE.ret1 rfl rfl fun w' hw => ?_
    exact ⟨by rw [hn], hw.fr⟩
  ·
    rw [lex_cond] at hc0
    have hok : ((decide (1 ≤ s.length) && decide (s.length ≤ 8)) && letterB ((s[0]?.getD 0).toNat)) = true := by simpa using hc0
    have h8 : s.length ≤ 8 := by simp at hok; omega
    refine WC.skip ?_
    refine WE.then_normal ?_
    refine WC.seq ?_
    refine WC.seq ?_
    refine WC.region ?_
    refine WL.val (.inl rfl) rfl (yl_move rfl) ?_
    refine WL.val (.inl rfl) rfl (yl_lens us9 rfl) ?_
    refine WL.val (.inl rfl) rfl (yl_move rfl) ?_
    refine WL.nil ?_
    refine WE.then_normal ?_
    refine WC.block ?_
    refine WC.loopW (ι := Nat) (fun i => [(24, .int .i64 (i : Int))]) [(0, _), (23, _)] (fun i => i ≤ s.length ∧ ∀ j, j < i → charB (s[j]?.getD 0) = true) (fun i => s.length - i) 0 ⟨Nat.zero_le _, by simp⟩ (sc rfl (sc rfl (sc rfl sn))) ?_
    intro i ⟨hi, hall⟩
    refine WC.seq ?_
    refine WC.region ?_
    refine WL.val (.inl rfl) rfl (yl_lt rfl rfl) ?_
    refine WL.nil ?_
    refine WE.then_normal ?_
    refine WC.seq ?_
    refine WC.cond rfl (fun hc1 => ?_) (fun hc1 => ?_)
    ·
      have hlt : i < s.length := by simpa using hc1
      have hui := at0 hlt
      refine WC.skip ?_
      refine WE.then_normal ?_
      refine WC.seq ?_
      refine WC.block ?_
      refine WC.seq ?_
      refine WC.region ?_
      refine WL.val (.inl rfl) rfl (yl_move rfl) ?_
      refine WL.val (.inl rfl) rfl (yl_assign rfl) ?_
      refine WL.nil ?_
      refine WE.then_normal ?_
      refine WC.seq ?_
      refine WC.region ?_
      refine WL.val (.inl rfl) rfl (yl_move rfl) ?_
      refine WL.val (.inl rfl) rfl (yl_move rfl) ?_
      refine WL.val (.inl rfl) rfl (yl_idxk us9 rfl rfl hui) ?_
      refine WL.callp (.inl rfl) rfl en100 rfl (fun w hw => plain_char _ w) ?_
      refine WL.val (.inl rfl) rfl (yl_not rfl) ?_
      refine WL.nil ?_
      refine WE.then_normal ?_
      refine WC.cond rfl (fun hc2 => ?_) (fun hc2 => ?_)
      ·
        have hch : charB (s[i]?.getD 0) = false := by unfold charB; revert hc2; cases letterB _ <;> cases digitB _ <;> simp
        refine WC.seq ?_
        refine WC.region ?_
        refine WL.val (.inl rfl) rfl (yl_assign rfl) ?_
        refine WL.nil ?_
        refine WE.then_normal ?_
        refine WC.ret ?_
        refine WE.block_ret ?_
        refine WE.then_ret ?_
        refine WE.then_ret ?_
        refine WE.block_ret ?_
        refine WE.then_ret ?_
        refine WE.ret1 rfl rfl fun w' hw => ?_
        exact ⟨by unfold nameB; rw [all_no hlt hch]; simp, hw.fr⟩
      ·
        have hch : charB (s[i]?.getD 0) = true := by unfold charB; revert hc2; cases letterB _ <;> cases digitB _ <;> simp
        refine WC.skip ?_
        refine WE.block_normal ?_
        refine WE.then_normal ?_
        refine WC.region ?_
        refine WL.val (.inl rfl) rfl (yl_inc rfl rfl rfl (by omega)) ?_
        refine WL.val (.inl rfl) rfl (yl_move rfl) ?_
        refine WL.nil ?_
        exact WE.again (i + 1) (by omega) ⟨by omega, fun j hj => by rcases Nat.lt_succ_iff_lt_or_eq.1 hj with h | rfl; exact hall j h; exact hch⟩ (sc rfl (sc rfl (sc rfl sn))) (fun _ h => h)
    ·
      have hge : ¬ i < s.length := by simpa using hc1
      refine WC.exit ?_
      refine WE.then_exit ?_
      refine WE.then_exit ?_
      refine WE.block_hit ?_
      refine WE.then_normal ?_
      refine WC.seq ?_
      refine WC.region ?_
      refine WL.val (.inl rfl) rfl (yl_assign rfl) ?_
      refine WL.nil ?_
      refine WE.then_normal ?_
      refine WC.ret ?_
      refine WE.ret1 rfl rfl fun w' hw => ?_
      exact ⟨by unfold nameB; rw [all_yes fun j hj => hall j (by omega), hok]; rfl, hw.fr⟩

end Go.Proofs.Ytagoencpeflmlaa
