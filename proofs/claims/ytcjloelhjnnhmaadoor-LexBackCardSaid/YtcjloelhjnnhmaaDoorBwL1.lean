/- Walks of the lexer, of the document's answer and of the laws, and plain laws on what they compute; each theorem tells its own conditions. -/
import Derived.Test.YtcjloelhjnnhmaaDoorRows
import Derived.Test.YtcjloelhjnnhmaaDoorBwK1
import Derived.Test.YtcjloelhjnnhmaaDoorBw27
import Derived.Test.YtcjloelhjnnhmaaDoorBwLS
namespace Go.Proofs.YtcjloelhjnnhmaaDoor
open Go.Bw
set_option linter.unusedVariables false
set_option linter.unusedSimpArgs false
open Go.Proofs

def within (n low high : Int) : Bool := decide (low ≤ n) && decide (n ≤ high)
theorem within_nat (n : Nat) : within (n : Int) 1 8 = (decide (1 ≤ n) && decide (n ≤ 8)) := by
  rw [Bool.eq_iff_iff]
  simp [within]
  omega
theorem lex_cond (n : Nat) (u : Int) : (((((n : Int) == 0) || decide (8 < (n : Int))) || decide (u < 97)) || decide (122 < u)) = !((decide (1 ≤ n) && decide (n ≤ 8)) && letterB u) := by
  rw [Bool.eq_iff_iff]
  simp [letterB]
  omega
theorem at0 {s : List UInt8} {i : Nat} (h : i < s.length) : s[i]? = some (s[i]?.getD 0) := by rw [List.getElem?_eq_getElem h]; rfl
theorem all_no {s : List UInt8} {p : UInt8 → Bool} {i : Nat} (h : i < s.length) (hp : p (s[i]?.getD 0) = false) : s.all p = false := by
  rw [List.all_eq_false]
  exact ⟨_, List.mem_of_getElem? (at0 h), by simp [hp]⟩
theorem all_yes {s : List UInt8} {p : UInt8 → Bool} (h : ∀ i, i < s.length → p (s[i]?.getD 0) = true) : s.all p = true := by
  rw [List.all_eq_true]
  intro x hx
  obtain ⟨i, hi⟩ := List.getElem?_of_mem hx
  have := h i (List.getElem?_eq_some_iff.1 hi).1
  rw [hi] at this
  exact this
theorem indexByte_ge0 (u : UInt8) : ∀ s : List UInt8, decide (0 ≤ Lib.indexByte s u) = s.contains u
  | [] => rfl
  | b :: l => by
    have ih := indexByte_ge0 u l
    have hge := Lib.indexByte_ge l u
    unfold Lib.indexByte
    by_cases hb : b = u
    · subst hb; simp
    · have h1 : (b == u) = false := by simpa using hb
      have h2 : (u == b) = false := by simpa using fun h => hb h.symm
      rw [if_neg (by simp [h1]), List.contains_cons, h2, Bool.false_or, ← ih]
      split
      · rename_i h; simp at h; simp [h]
      · rename_i h; simp at h
        rw [Bool.eq_iff_iff]; simp; omega
theorem sign_no {u : UInt8} (h : ∀ j, j < signL.length → signL[j]? ≠ some u) : signB u = false := by
  unfold signB
  rw [Bool.eq_false_iff]
  intro hc
  rw [List.contains_iff_mem] at hc
  obtain ⟨j, hj⟩ := List.getElem?_of_mem hc
  exact h j (List.getElem?_eq_some_iff.1 hj).1 hj
theorem sign_yes {u : UInt8} {j : Nat} (h : signL[j]? = some u) : signB u = true := by
  unfold signB
  rw [List.contains_iff_mem]
  exact List.mem_of_getElem? h
theorem tmod_10 (n : Nat) : (n : Int).tmod 10 = ((n % 10 : Nat) : Int) := rfl
theorem tdiv_10 (n : Nat) : (n : Int).tdiv 10 = ((n / 10 : Nat) : Int) := rfl
theorem wrap_dig (n : Nat) : IntKind.u8.wrap (48 + ((n % 10 : Nat) : Int)) = ((UInt8.ofNat (48 + n % 10)).toNat : Int) := by
  have h : n % 10 < 10 := Nat.mod_lt _ (by decide)
  generalize n % 10 = m at h
  unfold IntKind.wrap
  simp [IntKind.signed, IntKind.bits, UInt8.toNat_ofNat']
theorem toNat_inj {u v : UInt8} (h : (u.toNat : Int) = (v.toNat : Int)) : u = v := UInt8.toNat_inj.1 (by omega)
theorem us9 : Tryd.prog.underlying 9 = some .string := by kernel_rfl
theorem en17 : Enters Tryd.prog 17 := enters_of Tryd.func17 (by kernel_rfl) rfl
theorem en35 : Enters Tryd.prog 35 := enters_of Tryd.func35 (by kernel_rfl) rfl
theorem en36 : Enters Tryd.prog 36 := enters_of Tryd.func36 (by kernel_rfl) rfl
theorem en22 : Enters Tryd.prog 22 := enters_of Tryd.func22 (by kernel_rfl) rfl
theorem en37 : Enters Tryd.prog 37 := enters_of Tryd.func37 (by kernel_rfl) rfl
theorem en33 : Enters Tryd.prog 33 := enters_of Tryd.func33 (by kernel_rfl) rfl
theorem ui3 : Tryd.prog.underlying 3 = some (.int .i64) := by kernel_rfl
theorem ui5 : Tryd.prog.underlying 5 = some (.int .u8) := by kernel_rfl
theorem el51 : EltOk Tryd.prog 51 5 (.int .u8 0) 1 1 := eltOk_of (by kernel_rfl)
theorem en32 : Enters Tryd.prog 32 := enters_of Tryd.func32 (by kernel_rfl) rfl

theorem within_any (n low high : Int) (w : World) :
    Calls Tryd.prog 17 #[.int .i64 n, .int .i64 low, .int .i64 high] w fun e w' => e = .returned (.bool (within n low high)) ∧ Ext w w' := by
  refine enter Tryd.func17 rfl 15 rfl rfl ?_
  refine WC.world (W' := Ws w [] [] []) (fun _ e => by subst e; exact Ws.init (by simp)) ?_
  refine WC.seq ?_
  refine WC.region ?_
  refine WL.val (.inl rfl) rfl (yl_assign rfl) ?_
  refine WL.nil ?_
  refine WE.then_normal ?_
  refine WC.seq ?_
  refine WC.region ?_
  refine WL.val (.inl rfl) rfl (yl_move rfl) ?_
  refine WL.val (.inl rfl) rfl (yl_move rfl) ?_
  refine WL.val (.inl rfl) rfl (yl_ge rfl rfl) ?_
  refine WL.val (.inl rfl) rfl (yl_move rfl) ?_
  apply WL.and 3 rfl rfl rfl rfl (.inl rfl) rfl rfl rfl rfl rfl
  ·
    intro hg0
    refine WL.val (.inr ⟨_, _, _, rfl, rfl, rfl⟩) rfl (yl_move rfl) ?_
    refine WL.val (.inr ⟨_, _, _, rfl, rfl, rfl⟩) rfl (yl_move rfl) ?_
    refine WL.val (.inr ⟨_, _, _, rfl, rfl, rfl⟩) rfl (yl_le rfl rfl) ?_
    exact Got.intro 3 rfl rfl rfl
  refine WL.val (.inl rfl) rfl (yl_assign rfl) ?_
  refine WL.nil ?_
  refine WE.then_normal ?_
  refine WC.ret ?_
  refine WE.ret1 rfl rfl fun w' hw => ?_
  exact ⟨rfl, hw.fr⟩

theorem letter_any (u : Int) (w : World) :
    Calls Tryd.prog 35 #[.int .u8 u] w fun e w' => e = .returned (.bool (letterB u)) ∧ Ext w w' := by
  refine enter Tryd.func35 rfl 9 rfl rfl ?_
  refine WC.world (W' := Ws w [] [] []) (fun _ e => by subst e; exact Ws.init (by simp)) ?_
  refine WC.seq ?_
  refine WC.region ?_
  refine WL.val (.inl rfl) rfl (yl_assign rfl) ?_
  refine WL.nil ?_
  refine WE.then_normal ?_
  refine WC.seq ?_
  refine WC.region ?_
  refine WL.val (.inl rfl) rfl (yl_move rfl) ?_
  refine WL.val (.inl rfl) rfl (yl_ge rfl rfl) ?_
  refine WL.val (.inl rfl) rfl (yl_move rfl) ?_
  apply WL.and 2 rfl rfl rfl rfl (.inl rfl) rfl rfl rfl rfl rfl
  ·
    intro hg0
    refine WL.val (.inr ⟨_, _, _, rfl, rfl, rfl⟩) rfl (yl_move rfl) ?_
    refine WL.val (.inr ⟨_, _, _, rfl, rfl, rfl⟩) rfl (yl_le rfl rfl) ?_
    exact Got.intro 2 rfl rfl rfl
  refine WL.val (.inl rfl) rfl (yl_assign rfl) ?_
  refine WL.nil ?_
  refine WE.then_normal ?_
  refine WC.ret ?_
  refine WE.ret1 rfl rfl fun w' hw => ?_
  exact ⟨rfl, hw.fr⟩

theorem digit_any (u : Int) (w : World) :
    Calls Tryd.prog 36 #[.int .u8 u] w fun e w' => e = .returned (.bool (digitB u)) ∧ Ext w w' := by
  refine enter Tryd.func36 rfl 9 rfl rfl ?_
  refine WC.world (W' := Ws w [] [] []) (fun _ e => by subst e; exact Ws.init (by simp)) ?_
  refine WC.seq ?_
  refine WC.region ?_
  refine WL.val (.inl rfl) rfl (yl_assign rfl) ?_
  refine WL.nil ?_
  refine WE.then_normal ?_
  refine WC.seq ?_
  refine WC.region ?_
  refine WL.val (.inl rfl) rfl (yl_move rfl) ?_
  refine WL.val (.inl rfl) rfl (yl_ge rfl rfl) ?_
  refine WL.val (.inl rfl) rfl (yl_move rfl) ?_
  apply WL.and 2 rfl rfl rfl rfl (.inl rfl) rfl rfl rfl rfl rfl
  ·
    intro hg0
    refine WL.val (.inr ⟨_, _, _, rfl, rfl, rfl⟩) rfl (yl_move rfl) ?_
    refine WL.val (.inr ⟨_, _, _, rfl, rfl, rfl⟩) rfl (yl_le rfl rfl) ?_
    exact Got.intro 2 rfl rfl rfl
  refine WL.val (.inl rfl) rfl (yl_assign rfl) ?_
  refine WL.nil ?_
  refine WE.then_normal ?_
  refine WC.ret ?_
  refine WE.ret1 rfl rfl fun w' hw => ?_
  exact ⟨rfl, hw.fr⟩

theorem plain_char (u : Int) (w : World) :
    Calls Tryd.prog 22 #[.int .u8 u] w fun e w' => e = .returned (.bool (letterB u || digitB u)) ∧ Ext w w' := by
  refine enter Tryd.func22 rfl 17 rfl rfl ?_
  refine WC.world (W' := Ws w [] [] []) (fun _ e => by subst e; exact Ws.init (by simp)) ?_
  refine WC.seq ?_
  refine WC.region ?_
  refine WL.val (.inl rfl) rfl (yl_assign rfl) ?_
  refine WL.nil ?_
  refine WE.then_normal ?_
  refine WC.seq ?_
  refine WC.region ?_
  refine WL.val (.inl rfl) rfl (yl_move rfl) ?_
  refine WL.val (.inl rfl) rfl (yl_ge rfl rfl) ?_
  refine WL.val (.inl rfl) rfl (yl_move rfl) ?_
  apply WL.and 2 rfl rfl rfl rfl (.inl rfl) rfl rfl rfl rfl rfl
  ·
    intro hg0
    refine WL.val (.inr ⟨_, _, _, rfl, rfl, rfl⟩) rfl (yl_move rfl) ?_
    refine WL.val (.inr ⟨_, _, _, rfl, rfl, rfl⟩) rfl (yl_le rfl rfl) ?_
    exact Got.intro 2 rfl rfl rfl
  refine WL.val (.inl rfl) rfl (yl_move rfl) ?_
  apply WL.or 6 rfl rfl rfl rfl (.inl rfl) rfl rfl rfl rfl rfl
  ·
    intro hg1
    refine WL.val (.inr ⟨_, _, _, rfl, rfl, rfl⟩) rfl (yl_move rfl) ?_
    refine WL.val (.inr ⟨_, _, _, rfl, rfl, rfl⟩) rfl (yl_ge rfl rfl) ?_
    refine WL.val (.inr ⟨_, _, _, rfl, rfl, rfl⟩) rfl (yl_move rfl) ?_
    apply WL.and 2 rfl rfl rfl rfl (.inr ⟨_, _, _, rfl, rfl, rfl⟩) rfl rfl rfl rfl rfl
    ·
      intro hg2
      refine WL.val (.inr ⟨_, _, _, rfl, rfl, rfl⟩) rfl (yl_move rfl) ?_
      refine WL.val (.inr ⟨_, _, _, rfl, rfl, rfl⟩) rfl (yl_le rfl rfl) ?_
      exact Got.intro 2 rfl rfl rfl
    exact Got.intro 4 rfl rfl rfl
  refine WL.val (.inl rfl) rfl (yl_assign rfl) ?_
  refine WL.nil ?_
  refine WE.then_normal ?_
  refine WC.ret ?_
  refine WE.ret1 rfl rfl fun w' hw => ?_
  exact ⟨rfl, hw.fr⟩

theorem isName_any (s : List UInt8) (w : World) :
    Calls Tryd.prog 25 #[st s] w fun e w' => e = .returned (.bool (nameB s)) ∧ Ext w w' := by
  refine enter Tryd.func25 rfl 32 rfl rfl ?_
  refine WC.world (W' := Ws w [] [] []) (fun _ e => by subst e; exact Ws.init (by simp)) ?_
  refine WC.seq ?_
  refine WC.region ?_
  refine WL.val (.inl rfl) rfl (yl_assign rfl) ?_
  refine WL.nil ?_
  refine WE.then_normal ?_
  refine WC.seq ?_
  refine WC.seq ?_
  refine WC.region ?_
  refine WL.val (.inl rfl) rfl (yl_move rfl) ?_
  refine WL.val (.inl rfl) rfl (yl_lens us9 rfl) ?_
  refine WL.callp (.inl rfl) rfl en17 rfl (fun w hw => within_any _ _ _ w) ?_
  refine WL.val (.inl rfl) rfl (yl_not rfl) ?_
  refine WL.val (.inl rfl) rfl (yl_move rfl) ?_
  apply WL.or 4 rfl rfl rfl rfl (.inl rfl) rfl rfl rfl rfl rfl
  ·
    intro hg0
    have h0 : 0 < s.length := by simp [within] at hg0; omega
    have hu0 := at0 h0
    refine WL.val (.inr ⟨_, _, _, rfl, rfl, rfl⟩) rfl (yl_move rfl) ?_
    refine WL.val (.inr ⟨_, _, _, rfl, rfl, rfl⟩) rfl (yl_idxk us9 rfl rfl hu0) ?_
    refine WL.callp (.inr ⟨_, _, _, rfl, rfl, rfl⟩) rfl en35 rfl (fun w hw => letter_any _ w) ?_
    refine WL.val (.inr ⟨_, _, _, rfl, rfl, rfl⟩) rfl (yl_not rfl) ?_
    exact Got.intro 4 rfl rfl rfl
  refine WL.nil ?_
  refine WE.then_normal ?_
  refine WC.cond rfl (fun hc0 => ?_) (fun hc0 => ?_)
  ·
    have hn : nameB s = false := by
      unfold nameB
      rw [within_nat] at hc0
      revert hc0
      generalize (decide (1 ≤ s.length) && decide (s.length ≤ 8)) = A
      generalize letterB ((s[0]?.getD 0).toNat) = B
      cases A <;> cases B <;> simp
    refine WC.seq ?_
    refine WC.region ?_
    refine WL.val (.inl rfl) rfl (yl_assign rfl) ?_
    refine WL.nil ?_
    refine WE.then_normal ?_
    refine WC.ret ?_
    refine WE.then_ret ?_
    refine WE.ret1 rfl rfl fun w' hw => ?_
    exact ⟨by rw [hn], hw.fr⟩
  ·
    have hok : ((decide (1 ≤ s.length) && decide (s.length ≤ 8)) && letterB ((s[0]?.getD 0).toNat)) = true := by
      rw [within_nat] at hc0
      revert hc0
      generalize (decide (1 ≤ s.length) && decide (s.length ≤ 8)) = A
      generalize letterB ((s[0]?.getD 0).toNat) = B
      cases A <;> cases B <;> simp
    have h8 : s.length ≤ 8 := by simp at hok; omega
    refine WC.skip ?_
    refine WE.then_normal ?_
    refine WC.seq ?_
    refine WC.seq ?_
    refine WC.region ?_
    refine WL.val (.inl rfl) rfl (yl_assign rfl) ?_
    refine WL.nil ?_
    refine WE.then_normal ?_
    refine WC.block ?_
    refine WC.loopW (ι := Nat) (fun i => [(3, .int .i64 (i : Int))]) [(0, _)] (fun i => i ≤ s.length ∧ ∀ j, j < i → charB (s[j]?.getD 0) = true) (fun i => s.length - i) 0 ⟨Nat.zero_le _, by simp⟩ (sc rfl (sc rfl sn)) ?_
    intro i ⟨hi, hall⟩
    refine WC.seq ?_
    refine WC.seq ?_
    refine WC.region ?_
    refine WL.val (.inl rfl) rfl (yl_move rfl) ?_
    refine WL.val (.inl rfl) rfl (yl_move rfl) ?_
    refine WL.val (.inl rfl) rfl (yl_lens us9 rfl) ?_
    refine WL.val (.inl rfl) rfl (yl_lt rfl rfl) ?_
    refine WL.nil ?_
    refine WE.then_normal ?_
    refine WC.cond rfl (fun hc1 => ?_) (fun hc1 => ?_)
    ·
      have hlt : i < s.length := by simpa using hc1
      have hui := at0 hlt
      refine WC.skip ?_
      refine WE.then_normal ?_
      refine WC.seq ?_
      refine WC.block ?_
      refine WC.seq ?_
      refine WC.region ?_
      refine WL.val (.inl rfl) rfl (yl_move rfl) ?_
      refine WL.val (.inl rfl) rfl (yl_move rfl) ?_
      refine WL.val (.inl rfl) rfl (yl_idxk us9 rfl rfl hui) ?_
      refine WL.callp (.inl rfl) rfl en35 rfl (fun w hw => letter_any _ w) ?_
      refine WL.val (.inl rfl) rfl (yl_not rfl) ?_
      refine WL.val (.inl rfl) rfl (yl_move rfl) ?_
      apply WL.and 5 rfl rfl rfl rfl (.inl rfl) rfl rfl rfl rfl rfl
      ·
        intro hg1
        refine WL.val (.inr ⟨_, _, _, rfl, rfl, rfl⟩) rfl (yl_move rfl) ?_
        refine WL.val (.inr ⟨_, _, _, rfl, rfl, rfl⟩) rfl (yl_move rfl) ?_
        refine WL.val (.inr ⟨_, _, _, rfl, rfl, rfl⟩) rfl (yl_idxk us9 rfl rfl hui) ?_
        refine WL.callp (.inr ⟨_, _, _, rfl, rfl, rfl⟩) rfl en36 rfl (fun w hw => digit_any _ w) ?_
        refine WL.val (.inr ⟨_, _, _, rfl, rfl, rfl⟩) rfl (yl_not rfl) ?_
        exact Got.intro 5 rfl rfl rfl
      refine WL.nil ?_
      refine WE.then_normal ?_
      refine WC.cond rfl (fun hc2 => ?_) (fun hc2 => ?_)
      ·
        have hch : charB (s[i]?.getD 0) = false := by unfold charB; revert hc2; cases letterB _ <;> cases digitB _ <;> simp
        refine WC.seq ?_
        refine WC.region ?_
        refine WL.val (.inl rfl) rfl (yl_assign rfl) ?_
        refine WL.nil ?_
        refine WE.then_normal ?_
        refine WC.ret ?_
        refine WE.block_ret ?_
        refine WE.then_ret ?_
        refine WE.then_ret ?_
        refine WE.block_ret ?_
        refine WE.then_ret ?_
        refine WE.ret1 rfl rfl fun w' hw => ?_
        exact ⟨by unfold nameB; rw [all_no hlt hch]; simp, hw.fr⟩
      ·
        have hch : charB (s[i]?.getD 0) = true := by unfold charB; revert hc2; cases letterB _ <;> cases digitB _ <;> simp
        refine WC.skip ?_
        refine WE.block_normal ?_
        refine WE.then_normal ?_
        refine WC.region ?_
        refine WL.val (.inl rfl) rfl (yl_move rfl) ?_
        refine WL.val (.inl rfl) rfl (yl_inc rfl rfl rfl (by omega)) ?_
        refine WL.val (.inl rfl) rfl (yl_assign rfl) ?_
        refine WL.nil ?_
        exact WE.again (i + 1) (by omega) ⟨by omega, fun j hj => by rcases Nat.lt_succ_iff_lt_or_eq.1 hj with h | rfl; exact hall j h; exact hch⟩ (sc rfl (sc rfl sn)) (fun _ h => h)
    ·
      have hge : ¬ i < s.length := by simpa using hc1
      refine WC.exit ?_
      refine WE.then_exit ?_
      refine WE.then_exit ?_
      refine WE.block_hit ?_
      refine WE.then_normal ?_
      refine WC.seq ?_
      refine WC.region ?_
      refine WL.val (.inl rfl) rfl (yl_assign rfl) ?_
      refine WL.nil ?_
      refine WE.then_normal ?_
      refine WC.ret ?_
      refine WE.ret1 rfl rfl fun w' hw => ?_
      exact ⟨by unfold nameB; rw [all_yes fun j hj => hall j (by omega), hok]; rfl, hw.fr⟩

theorem lexName_any (s : List UInt8) (w : World) :
    Calls Tryd.prog 21 #[st s] w fun e w' => e = .returned (.bool (nameB s)) ∧ Ext w w' := by
  refine enter Tryd.func21 rfl 33 rfl rfl ?_
  refine WC.world (W' := Ws w [] [] []) (fun _ e => by subst e; exact Ws.init (by simp)) ?_
  refine WC.seq ?_
  refine WC.region ?_
  refine WL.val (.inl rfl) rfl (yl_assign rfl) ?_
  refine WL.nil ?_
  refine WE.then_normal ?_
  refine WC.seq ?_
  refine WC.seq ?_
  refine WC.region ?_
  refine WL.val (.inl rfl) rfl (yl_move rfl) ?_
  refine WL.val (.inl rfl) rfl (yl_lens us9 rfl) ?_
  refine WL.val (.inl rfl) rfl (yl_eq rfl rfl) ?_
  refine WL.val (.inl rfl) rfl (yl_move rfl) ?_
  apply WL.or 3 rfl rfl rfl rfl (.inl rfl) rfl rfl rfl rfl rfl
  ·
    intro hg0
    refine WL.val (.inr ⟨_, _, _, rfl, rfl, rfl⟩) rfl (yl_move rfl) ?_
    refine WL.val (.inr ⟨_, _, _, rfl, rfl, rfl⟩) rfl (yl_lens us9 rfl) ?_
    refine WL.val (.inr ⟨_, _, _, rfl, rfl, rfl⟩) rfl (yl_gt rfl rfl) ?_
    exact Got.intro 3 rfl rfl rfl
  refine WL.val (.inl rfl) rfl (yl_move rfl) ?_
  apply WL.or 3 rfl rfl rfl rfl (.inl rfl) rfl rfl rfl rfl rfl
  ·
    intro hg1
    have h0 : 0 < s.length := by
      rcases Nat.eq_zero_or_pos s.length with h | h
      · simp [h] at hg1
      · exact h
    have hu0 := at0 h0
    refine WL.val (.inr ⟨_, _, _, rfl, rfl, rfl⟩) rfl (yl_move rfl) ?_
    refine WL.val (.inr ⟨_, _, _, rfl, rfl, rfl⟩) rfl (yl_idxk us9 rfl rfl (by assumption)) ?_
    refine WL.val (.inr ⟨_, _, _, rfl, rfl, rfl⟩) rfl (yl_lt rfl rfl) ?_
    exact Got.intro 3 rfl rfl rfl
  refine WL.val (.inl rfl) rfl (yl_move rfl) ?_
  apply WL.or 3 rfl rfl rfl rfl (.inl rfl) rfl rfl rfl rfl rfl
  ·
    intro hg2
    have h0 : 0 < s.length := by
      rcases Nat.eq_zero_or_pos s.length with h | h
      · simp [h] at hg2
      · exact h
    have hu0 := at0 h0
    refine WL.val (.inr ⟨_, _, _, rfl, rfl, rfl⟩) rfl (yl_move rfl) ?_
    refine WL.val (.inr ⟨_, _, _, rfl, rfl, rfl⟩) rfl (yl_idxk us9 rfl rfl hu0) ?_
    refine WL.val (.inr ⟨_, _, _, rfl, rfl, rfl⟩) rfl (yl_gt rfl rfl) ?_
    exact Got.intro 3 rfl rfl rfl
  refine WL.nil ?_
  refine WE.then_normal ?_
  refine WC.cond rfl (fun hc0 => ?_) (fun hc0 => ?_)
  ·
    rw [lex_cond] at hc0
    have hn : nameB s = false := by
      unfold nameB
      simp only [Bool.not_eq_true'] at hc0
      rw [hc0]; rfl
    refine WC.seq ?_
    refine WC.region ?_
    refine WL.val (.inl rfl) rfl (yl_assign rfl) ?_
    refine WL.nil ?_
    refine WE.then_normal ?_
    refine WC.ret ?_
    refine WE.then_ret ?_
    refine WE.ret1 rfl rfl fun w' hw => ?_
    exact ⟨by rw [hn], hw.fr⟩
  ·
    rw [lex_cond] at hc0
    have hok : ((decide (1 ≤ s.length) && decide (s.length ≤ 8)) && letterB ((s[0]?.getD 0).toNat)) = true := by simpa using hc0
    have h8 : s.length ≤ 8 := by simp at hok; omega
    refine WC.skip ?_
    refine WE.then_normal ?_
    refine WC.seq ?_
    refine WC.seq ?_
    refine WC.region ?_
    refine WL.val (.inl rfl) rfl (yl_move rfl) ?_
    refine WL.val (.inl rfl) rfl (yl_lens us9 rfl) ?_
    refine WL.val (.inl rfl) rfl (yl_move rfl) ?_
    refine WL.nil ?_
    refine WE.then_normal ?_
    refine WC.block ?_
    refine WC.loopW (ι := Nat) (fun i => [(24, .int .i64 (i : Int))]) [(0, _), (23, _)] (fun i => i ≤ s.length ∧ ∀ j, j < i → charB (s[j]?.getD 0) = true) (fun i => s.length - i) 0 ⟨Nat.zero_le _, by simp⟩ (sc rfl (sc rfl (sc rfl sn))) ?_
    intro i ⟨hi, hall⟩
    refine WC.seq ?_
    refine WC.region ?_
    refine WL.val (.inl rfl) rfl (yl_lt rfl rfl) ?_
    refine WL.nil ?_
    refine WE.then_normal ?_
    refine WC.seq ?_
    refine WC.cond rfl (fun hc1 => ?_) (fun hc1 => ?_)
    ·
      have hlt : i < s.length := by simpa using hc1
      have hui := at0 hlt
      refine WC.skip ?_
      refine WE.then_normal ?_
      refine WC.seq ?_
      refine WC.block ?_
      refine WC.seq ?_
      refine WC.region ?_
      refine WL.val (.inl rfl) rfl (yl_move rfl) ?_
      refine WL.val (.inl rfl) rfl (yl_assign rfl) ?_
      refine WL.nil ?_
      refine WE.then_normal ?_
      refine WC.seq ?_
      refine WC.region ?_
      refine WL.val (.inl rfl) rfl (yl_move rfl) ?_
      refine WL.val (.inl rfl) rfl (yl_move rfl) ?_
      refine WL.val (.inl rfl) rfl (yl_idxk us9 rfl rfl hui) ?_
      refine WL.callp (.inl rfl) rfl en22 rfl (fun w hw => plain_char _ w) ?_
      refine WL.val (.inl rfl) rfl (yl_not rfl) ?_
      refine WL.nil ?_
      refine WE.then_normal ?_
      refine WC.cond rfl (fun hc2 => ?_) (fun hc2 => ?_)
      ·
        have hch : charB (s[i]?.getD 0) = false := by unfold charB; revert hc2; cases letterB _ <;> cases digitB _ <;> simp
        refine WC.seq ?_
        refine WC.region ?_
        refine WL.val (.inl rfl) rfl (yl_assign rfl) ?_
        refine WL.nil ?_
        refine WE.then_normal ?_
        refine WC.ret ?_
        refine WE.block_ret ?_
        refine WE.then_ret ?_
        refine WE.then_ret ?_
        refine WE.block_ret ?_
        refine WE.then_ret ?_
        refine WE.ret1 rfl rfl fun w' hw => ?_
        exact ⟨by unfold nameB; rw [all_no hlt hch]; simp, hw.fr⟩
      ·
        have hch : charB (s[i]?.getD 0) = true := by unfold charB; revert hc2; cases letterB _ <;> cases digitB _ <;> simp
        refine WC.skip ?_
        refine WE.block_normal ?_
        refine WE.then_normal ?_
        refine WC.region ?_
        refine WL.val (.inl rfl) rfl (yl_inc rfl rfl rfl (by omega)) ?_
        refine WL.val (.inl rfl) rfl (yl_move rfl) ?_
        refine WL.nil ?_
        exact WE.again (i + 1) (by omega) ⟨by omega, fun j hj => by rcases Nat.lt_succ_iff_lt_or_eq.1 hj with h | rfl; exact hall j h; exact hch⟩ (sc rfl (sc rfl (sc rfl sn))) (fun _ h => h)
    ·
      have hge : ¬ i < s.length := by simpa using hc1
      refine WC.exit ?_
      refine WE.then_exit ?_
      refine WE.then_exit ?_
      refine WE.block_hit ?_
      refine WE.then_normal ?_
      refine WC.seq ?_
      refine WC.region ?_
      refine WL.val (.inl rfl) rfl (yl_assign rfl) ?_
      refine WL.nil ?_
      refine WE.then_normal ?_
      refine WC.ret ?_
      refine WE.ret1 rfl rfl fun w' hw => ?_
      exact ⟨by unfold nameB; rw [all_yes fun j hj => hall j (by omega), hok]; rfl, hw.fr⟩

theorem signs_any (w : World) :
    Calls Tryd.prog 37 #[] w fun e w' => e = .returned (st signL) ∧ Ext w w' := by
  refine enter Tryd.func37 rfl 1 rfl rfl ?_
  refine WC.world (W' := Ws w [] [] []) (fun _ e => by subst e; exact Ws.init (by simp)) ?_
  refine WC.seq ?_
  refine WC.region ?_
  refine WL.val (.inl rfl) rfl (yl_assign rfl) ?_
  refine WL.nil ?_
  refine WE.then_normal ?_
  refine WC.seq ?_
  refine WC.region ?_
  refine WL.val (.inl rfl) rfl (yl_assign rfl) ?_
  refine WL.nil ?_
  refine WE.then_normal ?_
  refine WC.ret ?_
  refine WE.ret1 rfl rfl fun w' hw => ?_
  exact ⟨rfl, hw.fr⟩

theorem isSign_any (u : UInt8) (w : World) :
    Calls Tryd.prog 27 #[.int .u8 (u.toNat : Int)] w fun e w' => e = .returned (.bool (signB u)) ∧ Ext w w' := by
  have hsl : signL.length = 19 := rfl
  refine enter Tryd.func27 rfl 17 rfl rfl ?_
  refine WC.world (W' := Ws w [] [] []) (fun _ e => by subst e; exact Ws.init (by simp)) ?_
  refine WC.seq ?_
  refine WC.region ?_
  refine WL.val (.inl rfl) rfl (yl_assign rfl) ?_
  refine WL.nil ?_
  refine WE.then_normal ?_
  refine WC.seq ?_
  refine WC.region ?_
  refine WL.callp (.inl rfl) rfl en37 rfl (fun w hw => signs_any w) ?_
  refine WL.val (.inl rfl) rfl (yl_assign rfl) ?_
  refine WL.nil ?_
  refine WE.then_normal ?_
  refine WC.seq ?_
  refine WC.seq ?_
  refine WC.region ?_
  refine WL.val (.inl rfl) rfl (yl_assign rfl) ?_
  refine WL.nil ?_
  refine WE.then_normal ?_
  refine WC.block ?_
  refine WC.loopW (ι := Nat) (fun i => [(4, .int .i64 (i : Int))]) [(0, _), (3, _)] (fun i => i ≤ signL.length ∧ ∀ j, j < i → signL[j]? ≠ some u) (fun i => signL.length - i) 0 ⟨Nat.zero_le _, by simp⟩ (sc rfl (sc rfl (sc rfl sn))) ?_
  intro i ⟨hi, hall⟩
  refine WC.seq ?_
  refine WC.seq ?_
  refine WC.region ?_
  refine WL.val (.inl rfl) rfl (yl_move rfl) ?_
  refine WL.val (.inl rfl) rfl (yl_move rfl) ?_
  refine WL.val (.inl rfl) rfl (yl_lens us9 rfl) ?_
  refine WL.val (.inl rfl) rfl (yl_lt rfl rfl) ?_
  refine WL.nil ?_
  refine WE.then_normal ?_
  refine WC.cond rfl (fun hc0 => ?_) (fun hc0 => ?_)
  ·
    have hlt : i < signL.length := by simpa using hc0
    have hui := at0 hlt
    refine WC.skip ?_
    refine WE.then_normal ?_
    refine WC.seq ?_
    refine WC.block ?_
    refine WC.seq ?_
    refine WC.region ?_
    refine WL.val (.inl rfl) rfl (yl_move rfl) ?_
    refine WL.val (.inl rfl) rfl (yl_move rfl) ?_
    refine WL.val (.inl rfl) rfl (yl_idxk us9 rfl rfl hui) ?_
    refine WL.val (.inl rfl) rfl (yl_move rfl) ?_
    refine WL.val (.inl rfl) rfl (yl_eq rfl rfl) ?_
    refine WL.nil ?_
    refine WE.then_normal ?_
    refine WC.cond rfl (fun hc1 => ?_) (fun hc1 => ?_)
    ·
      have heq : signL[i]? = some u := by rw [hui]; congr 1; exact toNat_inj (by simpa using hc1)
      refine WC.seq ?_
      refine WC.region ?_
      refine WL.val (.inl rfl) rfl (yl_assign rfl) ?_
      refine WL.nil ?_
      refine WE.then_normal ?_
      refine WC.ret ?_
      refine WE.block_ret ?_
      refine WE.then_ret ?_
      refine WE.then_ret ?_
      refine WE.block_ret ?_
      refine WE.then_ret ?_
      refine WE.ret1 rfl rfl fun w' hw => ?_
      exact ⟨by rw [sign_yes heq], hw.fr⟩
    ·
      have hne : signL[i]? ≠ some u := by
        intro h; rw [h] at hc1; simp at hc1
      refine WC.skip ?_
      refine WE.block_normal ?_
      refine WE.then_normal ?_
      refine WC.region ?_
      refine WL.val (.inl rfl) rfl (yl_move rfl) ?_
      refine WL.val (.inl rfl) rfl (yl_inc rfl rfl rfl (by omega)) ?_
      refine WL.val (.inl rfl) rfl (yl_assign rfl) ?_
      refine WL.nil ?_
      exact WE.again (i + 1) (by omega) ⟨by omega, fun j hj => by rcases Nat.lt_succ_iff_lt_or_eq.1 hj with h | rfl; exact hall j h; exact hne⟩ (sc rfl (sc rfl (sc rfl sn))) (fun _ h => h)
  ·
    have hge : ¬ i < signL.length := by simpa using hc0
    refine WC.exit ?_
    refine WE.then_exit ?_
    refine WE.then_exit ?_
    refine WE.block_hit ?_
    refine WE.then_normal ?_
    refine WC.seq ?_
    refine WC.region ?_
    refine WL.val (.inl rfl) rfl (yl_assign rfl) ?_
    refine WL.nil ?_
    refine WE.then_normal ?_
    refine WC.ret ?_
    refine WE.ret1 rfl rfl fun w' hw => ?_
    exact ⟨by rw [sign_no fun j hj => hall j (by omega)], hw.fr⟩

theorem indexByte_any (s : List UInt8) (u : UInt8) (w : World) : Calls Tryd.prog 33 #[st s, .int .u8 (u.toNat : Int)] w fun e w' => e = .returned (.int .i64 (Lib.indexByte s u)) ∧ Ext w w' :=
  (Any.strings_IndexByte Go.Proofs.Tryd.lays137 ⟨s.toArray⟩ (u.toNat : Int) w).mono fun e w' h => by
    obtain ⟨h1, h2⟩ := h
    subst h2
    have e1 : ((u.toNat : Int)).toNat.toUInt8 = u := by simp
    rw [e1] at h1
    exact ⟨h1, Fr.refl _ _⟩

theorem lexSign_any (u : UInt8) (w : World) :
    Calls Tryd.prog 20 #[.int .u8 (u.toNat : Int)] w fun e w' => e = .returned (.bool (signB u)) ∧ Ext w w' := by
  refine enter Tryd.func20 rfl 6 rfl rfl ?_
  refine WC.world (W' := Ws w [] [] []) (fun _ e => by subst e; exact Ws.init (by simp)) ?_
  refine WC.seq ?_
  refine WC.region ?_
  refine WL.val (.inl rfl) rfl (yl_assign rfl) ?_
  refine WL.nil ?_
  refine WE.then_normal ?_
  refine WC.seq ?_
  refine WC.region ?_
  refine WL.val (.inl rfl) rfl (yl_move rfl) ?_
  refine WL.callp (.inl rfl) rfl en33 rfl (fun w hw => indexByte_any signL u w) ?_
  refine WL.val (.inl rfl) rfl (yl_ge rfl rfl) ?_
  refine WL.val (.inl rfl) rfl (yl_assign rfl) ?_
  refine WL.nil ?_
  refine WE.then_normal ?_
  refine WC.ret ?_
  refine WE.ret1 rfl rfl fun w' hw => ?_
  exact ⟨by rw [indexByte_ge0]; rfl, hw.fr⟩

theorem digits_any (n : Nat) (w : World) (hn : n ≤ 9223372036854775807) :
    Calls Tryd.prog 32 #[.int .i64 (n : Int)] w fun e w' => e = .returned (st (Lib.decDigits n)) ∧ Ext w w' := by
  induction n using Nat.strongRecOn generalizing w
  rename_i n ih
  refine enter Tryd.func32 rfl 18 rfl rfl ?_
  refine WC.world (W' := Ws w [] [] []) (fun _ e => by subst e; exact Ws.init (by simp)) ?_
  refine WC.seq ?_
  refine WC.region ?_
  refine WL.val (.inl rfl) rfl (yl_assign rfl) ?_
  refine WL.nil ?_
  refine WE.then_normal ?_
  refine WC.seq ?_
  refine WC.region ?_
  refine WL.val (.inl rfl) rfl (yl_move rfl) ?_
  refine WL.val (.inl rfl) rfl (yl_rem rfl rfl (by decide)) ?_
  rw [tmod_10 n]
  refine WL.val (.inl rfl) rfl (yl_addv (48 + ((n % 10 : Nat) : Int)) rfl rfl rfl (by omega)) ?_
  refine WL.val (.inl rfl) rfl (yl_cvi ui3 ui5 rfl) ?_
  rw [wrap_dig n]
  refine WL.bsliceF (.inl rfl) rfl el51 rfl rfl rfl rfl fun b8 => ?_
  refine WL.val (.inl rfl) rfl (yl_b2s 0 Tryd.underlying51 Tryd.underlying5 Tryd.underlying9 rfl (bs := [UInt8.ofNat (48 + n % 10)]) rfl rfl) ?_
  refine WL.val (.inl rfl) rfl (yl_assign rfl) ?_
  refine WL.nil ?_
  refine WE.then_normal ?_
  refine WC.seq ?_
  refine WC.seq ?_
  refine WC.region ?_
  refine WL.val (.inl rfl) rfl (yl_move rfl) ?_
  refine WL.val (.inl rfl) rfl (yl_lt rfl rfl) ?_
  refine WL.nil ?_
  refine WE.then_normal ?_
  refine WC.cond rfl (fun hc0 => ?_) (fun hc0 => ?_)
  ·
    have hlt : n < 10 := by simp at hc0; omega
    refine WC.seq ?_
    refine WC.region ?_
    refine WL.val (.inl rfl) rfl (yl_move rfl) ?_
    refine WL.val (.inl rfl) rfl (yl_assign rfl) ?_
    refine WL.nil ?_
    refine WE.then_normal ?_
    refine WC.ret ?_
    refine WE.then_ret ?_
    refine WE.ret1 rfl rfl fun w' hw => ?_
    exact ⟨by rw [Lib.decDigits, dif_pos hlt, Nat.mod_eq_of_lt hlt], hw.fr⟩
  ·
    have hlt : ¬ n < 10 := by simp at hc0; omega
    obtain ⟨q, hq⟩ : ∃ q, q = n / 10 := ⟨_, rfl⟩
    have hl1 : q < n := by omega
    have hl2 : q ≤ 9223372036854775807 := by omega
    refine WC.skip ?_
    refine WE.then_normal ?_
    refine WC.seq ?_
    refine WC.region ?_
    refine WL.val (.inl rfl) rfl (yl_move rfl) ?_
    refine WL.val (.inl rfl) rfl (yl_quo rfl rfl (by decide)) ?_
    rw [tdiv_10 n, ← hq, wrap_in (by omega)]
    refine WL.callp (.inl rfl) rfl en32 rfl (fun w hw => by
        have := ih q hl1 w hl2
        exact this) ?_
    refine WL.val (.inl rfl) rfl (yl_move rfl) ?_
    refine WL.val (.inl rfl) rfl (yl_cats rfl rfl (by have := decDigits_len 18 q (by omega); simp; omega)) ?_
    refine WL.val (.inl rfl) rfl (yl_assign rfl) ?_
    refine WL.nil ?_
    refine WE.then_normal ?_
    refine WC.ret ?_
    refine WE.ret1 rfl rfl fun w' hw => ?_
    exact ⟨by conv => rhs; rw [Lib.decDigits, dif_neg hlt, ← hq], hw.fr⟩

end Go.Proofs.YtcjloelhjnnhmaaDoor
