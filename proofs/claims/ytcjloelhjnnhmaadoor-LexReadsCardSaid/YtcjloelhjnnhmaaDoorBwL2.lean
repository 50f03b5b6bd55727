/- Walks of the lexer, of the document's answer and of the laws, and plain laws on what they compute; each theorem tells its own conditions. -/
import Derived.Test.YtcjloelhjnnhmaaDoorBwL1
namespace Go.Proofs.YtcjloelhjnnhmaaDoor
open Go.Bw
set_option linter.unusedVariables false
set_option linter.unusedSimpArgs false

theorem any_true {α : Type} {p : α → Bool} {l : List α} {j : Nat} {x : α} (hj : l[j]? = some x) (h : p x = true) : l.any p = true := List.any_eq_true.2 ⟨x, List.mem_of_getElem? hj, h⟩
theorem any_false {α : Type} {p : α → Bool} {l : List α} (h : ∀ (j : Nat) (x : α), l[j]? = some x → p x = false) : l.any p = false := by
  rw [List.any_eq_false]
  intro x hx
  obtain ⟨j, hj⟩ := List.getElem?_of_mem hx
  simp [h j x hj]
theorem take_snoc {α : Type} {l : List α} {i : Nat} {x : α} (h : l[i]? = some x) : l.take (i + 1) = l.take i ++ [x] := by rw [List.take_add_one, h]; rfl
theorem int_beq1 (n : Nat) : ((n : Int) == 1) = (n == 1) := by rw [Bool.eq_iff_iff]; simp; omega
theorem kind_or (k : Int) : (decide (k < 1) || decide (3 < k)) = !(decide (1 ≤ k) && decide (k ≤ 3)) := by rw [Bool.eq_iff_iff]; simp
theorem tokBad1 {x : Tok} (h : x.kind = 1) : tokBad x = !((x.n == 0) && nameB x.text) := by rw [tokBad, tokOk, if_pos h]
theorem tokBad2 {x : Tok} (h1 : ¬ x.kind = 1) (h : x.kind = 2) : tokBad x = !(((x.text == []) && decide (0 ≤ x.n)) && decide (x.n ≤ 1099511627775)) := by rw [tokBad, tokOk, if_neg h1, if_pos h, Bool.and_assoc]
theorem tokBad3 {x : Tok} (h1 : ¬ x.kind = 1) (h : ¬ x.kind = 2) : tokBad x = !(((x.n == 0) && ((x.text.length : Int) == 1)) && signB (x.text[0]?.getD 0)) := by rw [tokBad, tokOk, if_neg h1, if_neg h, int_beq1, Bool.and_assoc]
theorem tokOk1 {x : Tok} (h : x.kind = 1) : tokOk x = ((x.n == 0) && nameB x.text) := by rw [tokOk, if_pos h]
theorem tokOk2 {x : Tok} (h1 : ¬ x.kind = 1) (h : x.kind = 2) : tokOk x = ((x.text == []) && within x.n 0 1099511627775) := by rw [tokOk, if_neg h1, if_pos h]; rfl
theorem tokOk3 {x : Tok} (h1 : ¬ x.kind = 1) (h : ¬ x.kind = 2) : tokOk x = (((x.n == 0) && ((x.text.length : Int) == 1)) && signB (x.text[0]?.getD 0)) := by rw [tokOk, if_neg h1, if_neg h, int_beq1, Bool.and_assoc]
def numR (s : List UInt8) : Int × Bool := if 15 < s.length then (0, false) else match Lib.decFrom 0 s with
  | some n => ((n : Int), decide ((n : Int) ≤ 1099511627775) && (Lib.decDigits n == s))
  | none => (0, false)
theorem numR_same {s : List UInt8} : numN s = if (numR s).2 = true then some (numR s).1.toNat else none := by
  cases h : numN s with
  | some n =>
    obtain ⟨h1, h2⟩ := numN_some h
    have hl := digits13 h1
    have h15 : ¬ 15 < s.length := by rw [← h2]; omega
    have hd : Lib.decFrom 0 s = some n := by rw [← h2]; exact decFrom_digits n
    have hR : numR s = ((n : Int), decide ((n : Int) ≤ 1099511627775) && (Lib.decDigits n == s)) := by rw [numR, if_neg h15, hd]
    rw [hR]
    have : ((n : Int) ≤ 1099511627775) := by omega
    simp [h2, this]
  | none =>
    unfold numR
    by_cases h15 : 15 < s.length
    · simp [h15]
    · rw [if_neg h15]
      cases hd : Lib.decFrom 0 s with
      | none => simp
      | some n =>
        simp only
        by_cases hc : (decide ((n : Int) ≤ 1099511627775) && (Lib.decDigits n == s)) = true
        · simp only [Bool.and_eq_true, decide_eq_true_eq, beq_iff_eq] at hc
          have := numN_digits (n := n) (by omega)
          rw [hc.2, h] at this
          cases this
        · rw [if_neg hc]
theorem digit_val {u : UInt8} (h : digitB (u.toNat : Int) = true) : Lib.digitVal u = some (u.toNat - 48) ∧ 48 ≤ u.toNat ∧ u.toNat ≤ 57 := by
  have : 48 ≤ u.toNat ∧ u.toNat ≤ 57 := by simp [digitB] at h; omega
  unfold Lib.digitVal
  rw [if_pos this]
  exact ⟨rfl, this⟩
theorem digit_no {u : UInt8} (h : digitB (u.toNat : Int) = false) : Lib.digitVal u = none := by
  unfold Lib.digitVal
  rw [if_neg]
  intro h2
  simp [digitB] at h
  omega
theorem decFrom_bad {s : List UInt8} {i : Nat} {u : UInt8} (hu : s[i]? = some u) (h : digitB (u.toNat : Int) = false) : Lib.decFrom 0 s = none := by
  cases hd : Lib.decFrom 0 s with
  | none => rfl
  | some n =>
    obtain ⟨d, hd2⟩ := Lib.digit_of_decFrom s 0 n hd i u hu
    rw [digit_no h] at hd2
    cases hd2
theorem wrap_dsub {u : UInt8} (h : 48 ≤ u.toNat) : IntKind.u8.wrap ((u.toNat : Int) - 48) = ((u.toNat - 48 : Nat) : Int) := by
  have := u.toNat_lt
  unfold IntKind.wrap
  simp [IntKind.signed, IntKind.bits]
  omega
theorem pow_15 : ∀ i, i ≤ 15 → 10 ^ i ≤ 10 ^ 15 := fun i h => Nat.pow_le_pow_right (by decide) h
theorem es22 : elemSz Tryd.prog 22 = some 3 := by kernel_rfl
theorem mixed : Tryd.prog.follows .mixedOrders = true := by kernel_rfl
theorem ag38 : aggOf Tryd.prog 38 = some 3 := by kernel_rfl
theorem fl38 : flatSt Tryd.prog 38 = some [0, 0, 1] := by kernel_rfl
theorem fo38_0 : fieldOff Tryd.prog 38 0 = some 0 := by kernel_rfl
theorem na3 : nonAgg Tryd.prog 3 = true := by kernel_rfl
theorem fo38_1 : fieldOff Tryd.prog 38 1 = some 1 := by kernel_rfl
theorem fo38_2 : fieldOff Tryd.prog 38 2 = some 2 := by kernel_rfl
theorem na9 : nonAgg Tryd.prog 9 = true := by kernel_rfl
theorem en25 : Enters Tryd.prog 25 := enters_of Tryd.func25 (by kernel_rfl) rfl
theorem en27 : Enters Tryd.prog 27 := enters_of Tryd.func27 (by kernel_rfl) rfl
theorem en18 : Enters Tryd.prog 18 := enters_of Tryd.func18 (by kernel_rfl) rfl
theorem en19 : Enters Tryd.prog 19 := enters_of Tryd.func19 (by kernel_rfl) rfl

theorem sameToks_any (H1 H2 : View) (a1 a2 : Option Addr) (c1 c2 : Nat) (l1 l2 : List Tok) (w : World) (hH1 : Le H1 w) (hH2 : Le H2 w) (hm1 : Sl rdTok 3 H1 a1 c1 l1) (hm2 : Sl rdTok 3 H2 a2 c2 l2) :
    Calls Tryd.prog 14 #[.slice a1 l1.length c1, .slice a2 l2.length c2] w fun e w' => e = .returned (.bool (decide (l1 = l2))) ∧ Ext w w' := by
  have hcap1 := hm1.cap
  have hmax1 := hm1.max
  have hcap2 := hm2.cap
  have hmax2 := hm2.max
  refine enter Tryd.func14 rfl 26 rfl rfl ?_
  refine WC.world (W' := Ws w [] [] [H1, H2]) (fun _ e => by subst e; exact Ws.init (by simp [hH1, hH2])) ?_
  refine WC.seq ?_
  refine WC.region ?_
  refine WL.val (.inl rfl) rfl (yl_assign rfl) ?_
  refine WL.nil ?_
  refine WE.then_normal ?_
  refine WC.seq ?_
  refine WC.seq ?_
  refine WC.region ?_
  refine WL.val (.inl rfl) rfl (yl_move rfl) ?_
  refine WL.val (.inl rfl) rfl (yl_len es22 rfl) ?_
  refine WL.val (.inl rfl) rfl (yl_move rfl) ?_
  refine WL.val (.inl rfl) rfl (yl_len es22 rfl) ?_
  refine WL.val (.inl rfl) rfl (yl_ne rfl rfl) ?_
  refine WL.nil ?_
  refine WE.then_normal ?_
  refine WC.cond rfl (fun hc0 => ?_) (fun hc0 => ?_)
  ·
    have hne : ¬ (l1 = l2) := by rintro e1; subst e1; simp at hc0
    refine WC.seq ?_
    refine WC.region ?_
    refine WL.val (.inl rfl) rfl (yl_assign rfl) ?_
    refine WL.nil ?_
    refine WE.then_normal ?_
    refine WC.ret ?_
    refine WE.then_ret ?_
    refine WE.ret1 rfl rfl fun w' hw => ?_
    exact ⟨by rw [show decide (l1 = l2) = false by simpa using hne], hw.fr⟩
  ·
    have hlen : l1.length = l2.length := by simp at hc0; omega
    refine WC.skip ?_
    refine WE.then_normal ?_
    refine WC.seq ?_
    refine WC.seq ?_
    refine WC.region ?_
    refine WL.val (.inl rfl) rfl (yl_assign rfl) ?_
    refine WL.nil ?_
    refine WE.then_normal ?_
    refine WC.block ?_
    refine WC.loopW (ι := Nat) (fun i => [(5, .int .i64 (i : Int))]) [(0, _), (1, _)] (fun i => i ≤ l1.length ∧ ∀ j, j < i → l1[j]? = l2[j]?) (fun i => l1.length - i) 0 ⟨Nat.zero_le _, by simp⟩ (sc rfl (sc rfl (sc rfl sn))) ?_
    intro i ⟨hi, hall⟩
    refine WC.seq ?_
    refine WC.seq ?_
    refine WC.region ?_
    refine WL.val (.inl rfl) rfl (yl_move rfl) ?_
    refine WL.val (.inl rfl) rfl (yl_move rfl) ?_
    refine WL.val (.inl rfl) rfl (yl_len es22 rfl) ?_
    refine WL.val (.inl rfl) rfl (yl_lt rfl rfl) ?_
    refine WL.nil ?_
    refine WE.then_normal ?_
    refine WC.cond rfl (fun hc1 => ?_) (fun hc1 => ?_)
    ·
      have hlt : i < l1.length := by simpa using hc1
      obtain ⟨x, hx⟩ : ∃ x, l1[i]? = some x := ⟨_, List.getElem?_eq_getElem hlt⟩
      obtain ⟨y, hy⟩ : ∃ y, l2[i]? = some y := ⟨_, List.getElem?_eq_getElem (by omega)⟩
      obtain ⟨pb, po, ha1, hrow1⟩ := hm1.elt i x hx
      obtain ⟨qb, qo, ha2, hrow2⟩ := hm2.elt i y hy
      have hrow1 : RdC H1 pb (po + i * 3) x.cells := hrow1
      have hrow2 : RdC H2 qb (qo + i * 3) y.cells := hrow2
      refine WC.skip ?_
      refine WE.then_normal ?_
      refine WC.seq ?_
      refine WC.block ?_
      refine WC.seq ?_
      refine WC.draws0 [(0, true), (1, true), (2, true), (3, true), (4, true), (5, true), (6, true), (7, true), (8, true)] mixed (by kernel_rfl) (fun _ _ _ d _ h => by cases d <;> exact h) ?_
      refine WD.q rfl (.inl rfl) rfl (fun _ h => h) (yl_move rfl) ?_
      refine WD.q rfl (.inl rfl) rfl (fun _ h => h) (yl_move rfl) ?_
      refine WD.q rfl (.inl rfl) rfl (fun _ h => h) (yl_iao es22 rfl rfl ha1 (by omega)) ?_
      refine WD.q rfl (.inl rfl) rfl (fun _ h => h) (yl_lda 0 ag38 rfl rfl rfl (hrow1)) ?_
      refine WD.q rfl (.inl rfl) rfl (fun _ h => h) (yl_move rfl) ?_
      refine WD.q rfl (.inl rfl) rfl (fun _ h => h) (yl_move rfl) ?_
      refine WD.q rfl (.inl rfl) rfl (fun _ h => h) (yl_iao es22 rfl rfl ha2 (by omega)) ?_
      refine WD.q rfl (.inl rfl) rfl (fun _ h => h) (yl_lda 1 ag38 rfl rfl rfl (hrow2)) ?_
      refine WD.q rfl (.inl rfl) rfl (fun _ h => h) (yl_nest fl38 rfl rfl rfl) ?_
      refine WD.nil (fun _ h => h) ?_
      refine WE.then_normal ?_
      refine WC.cond rfl (fun hc2 => ?_) (fun hc2 => ?_)
      ·
        have hne : ¬ (l1 = l2) := by rintro e; subst e; rw [hx] at hy; injection hy with hy; subst hy; simp at hc2
        refine WC.seq ?_
        refine WC.region ?_
        refine WL.val (.inl rfl) rfl (yl_assign rfl) ?_
        refine WL.nil ?_
        refine WE.then_normal ?_
        refine WC.ret ?_
        refine WE.block_ret ?_
        refine WE.then_ret ?_
        refine WE.then_ret ?_
        refine WE.block_ret ?_
        refine WE.then_ret ?_
        refine WE.ret1 rfl rfl fun w' hw => ?_
        exact ⟨by rw [show decide (l1 = l2) = false by simpa using hne], hw.fr⟩
      ·
        have hxy : x = y := by cases x; cases y; simp_all
        refine WC.skip ?_
        refine WE.block_normal ?_
        refine WE.then_normal ?_
        refine WC.region ?_
        refine WL.val (.inl rfl) rfl (yl_move rfl) ?_
        refine WL.val (.inl rfl) rfl (yl_inc rfl rfl rfl (by omega)) ?_
        refine WL.val (.inl rfl) rfl (yl_assign rfl) ?_
        refine WL.nil ?_
        exact WE.again (i + 1) (by omega) ⟨by omega, fun j hj => by rcases Nat.lt_succ_iff_lt_or_eq.1 hj with h | rfl; exact hall j h; rw [hx, hy, hxy]⟩ (sc rfl (sc rfl (sc rfl sn))) (fun _ h => h)
    ·
      have hge : ¬ i < l1.length := by simpa using hc1
      have heq : l1 = l2 := List.ext_getElem? fun j => by
        rcases Nat.lt_or_ge j i with h | h
        · exact hall j h
        · rw [List.getElem?_eq_none (by omega), List.getElem?_eq_none (by omega)]
      refine WC.exit ?_
      refine WE.then_exit ?_
      refine WE.then_exit ?_
      refine WE.block_hit ?_
      refine WE.then_normal ?_
      refine WC.seq ?_
      refine WC.region ?_
      refine WL.val (.inl rfl) rfl (yl_assign rfl) ?_
      refine WL.nil ?_
      refine WE.then_normal ?_
      refine WC.ret ?_
      refine WE.ret1 rfl rfl fun w' hw => ?_
      exact ⟨by simp [heq], hw.fr⟩

theorem tokFine_any (t : Tok) (w : World) :
    Calls Tryd.prog 18 #[.agg #[.int .i64 t.kind, .int .i64 t.n, st t.text]] w fun e w' => e = .returned (.bool (tokOk t)) ∧ Ext w w' := by
  refine enter Tryd.func18 rfl 40 rfl rfl ?_
  refine WC.world (W' := Ws w [] [] []) (fun _ e => by subst e; exact Ws.init (by simp)) ?_
  refine WC.seq ?_
  refine WC.region ?_
  refine WL.box (.inl rfl) rfl rfl fun b1 => ?_
  refine WL.val (.inl rfl) rfl (yl_assign rfl) ?_
  refine WL.nil ?_
  refine WE.then_normal ?_
  refine WC.seq ?_
  refine WC.seq ?_
  refine WC.region ?_
  refine WL.val (.inl rfl) rfl (yl_fa fo38_0 rfl) ?_
  refine WL.val (.inl rfl) rfl (yl_ldk 0 rfl rfl rfl na3) ?_
  refine WL.nil ?_
  refine WE.then_normal ?_
  refine WC.block ?_
  refine WC.seq ?_
  refine WC.region ?_
  refine WL.val (.inl rfl) rfl (yl_eq rfl rfl) ?_
  refine WL.val (.inl rfl) rfl (yl_assign rfl) ?_
  refine WL.nil ?_
  refine WE.then_normal ?_
  refine WC.cond rfl (fun hc0 => ?_) (fun hc0 => ?_)
  ·
    have hk : t.kind = 1 := by simpa using hc0
    refine WC.seq ?_
    refine WC.region ?_
    refine WL.val (.inl rfl) rfl (yl_fa fo38_1 rfl) ?_
    refine WL.val (.inl rfl) rfl (yl_ldk 0 rfl rfl rfl na3) ?_
    refine WL.val (.inl rfl) rfl (yl_eq rfl rfl) ?_
    refine WL.val (.inl rfl) rfl (yl_move rfl) ?_
    apply WL.and 3 rfl rfl rfl rfl (.inl rfl) rfl rfl rfl rfl rfl
    ·
      intro hg0
      refine WL.val (.inr ⟨_, _, _, rfl, rfl, rfl⟩) rfl (yl_fa fo38_2 rfl) ?_
      refine WL.val (.inr ⟨_, _, _, rfl, rfl, rfl⟩) rfl (yl_ldk 0 rfl rfl rfl na9) ?_
      refine WL.callp (.inr ⟨_, _, _, rfl, rfl, rfl⟩) rfl en25 rfl (fun w hw => isName_any _ w) ?_
      exact Got.intro 3 rfl rfl rfl
    refine WL.val (.inl rfl) rfl (yl_assign rfl) ?_
    refine WL.nil ?_
    refine WE.then_normal ?_
    refine WC.ret ?_
    refine WE.block_ret ?_
    refine WE.then_ret ?_
    refine WE.ret1 rfl rfl fun w' hw => ?_
    exact ⟨by rw [tokOk1 hk], hw.fr⟩
  ·
    have hk : ¬ t.kind = 1 := by simpa using hc0
    refine WC.seq ?_
    refine WC.region ?_
    refine WL.val (.inl rfl) rfl (yl_eq rfl rfl) ?_
    refine WL.val (.inl rfl) rfl (yl_assign rfl) ?_
    refine WL.nil ?_
    refine WE.then_normal ?_
    refine WC.cond rfl (fun hc1 => ?_) (fun hc1 => ?_)
    ·
      have hk2 : t.kind = 2 := by simpa using hc1
      refine WC.seq ?_
      refine WC.region ?_
      refine WL.val (.inl rfl) rfl (yl_fa fo38_2 rfl) ?_
      refine WL.val (.inl rfl) rfl (yl_ldk 0 rfl rfl rfl na9) ?_
      refine WL.val (.inl rfl) rfl (yl_eqs rfl rfl) ?_
      refine WL.val (.inl rfl) rfl (yl_move rfl) ?_
      apply WL.and 3 rfl rfl rfl rfl (.inl rfl) rfl rfl rfl rfl rfl
      ·
        intro hg1
        refine WL.val (.inr ⟨_, _, _, rfl, rfl, rfl⟩) rfl (yl_fa fo38_1 rfl) ?_
        refine WL.val (.inr ⟨_, _, _, rfl, rfl, rfl⟩) rfl (yl_ldk 0 rfl rfl rfl na3) ?_
        refine WL.callp (.inr ⟨_, _, _, rfl, rfl, rfl⟩) rfl en17 rfl (fun w hw => within_any _ _ _ w) ?_
        exact Got.intro 3 rfl rfl rfl
      refine WL.val (.inl rfl) rfl (yl_assign rfl) ?_
      refine WL.nil ?_
      refine WE.then_normal ?_
      refine WC.ret ?_
      refine WE.block_ret ?_
      refine WE.then_ret ?_
      refine WE.ret1 rfl rfl fun w' hw => ?_
      exact ⟨by rw [tokOk2 hk hk2], hw.fr⟩
    ·
      have hk2 : ¬ t.kind = 2 := by simpa using hc1
      refine WC.skip ?_
      refine WE.block_normal ?_
      refine WE.then_normal ?_
      refine WC.seq ?_
      refine WC.region ?_
      refine WL.val (.inl rfl) rfl (yl_fa fo38_1 rfl) ?_
      refine WL.val (.inl rfl) rfl (yl_ldk 0 rfl rfl rfl na3) ?_
      refine WL.val (.inl rfl) rfl (yl_eq rfl rfl) ?_
      refine WL.val (.inl rfl) rfl (yl_move rfl) ?_
      apply WL.and 4 rfl rfl rfl rfl (.inl rfl) rfl rfl rfl rfl rfl
      ·
        intro hg2
        refine WL.val (.inr ⟨_, _, _, rfl, rfl, rfl⟩) rfl (yl_fa fo38_2 rfl) ?_
        refine WL.val (.inr ⟨_, _, _, rfl, rfl, rfl⟩) rfl (yl_ldk 0 rfl rfl rfl na9) ?_
        refine WL.val (.inr ⟨_, _, _, rfl, rfl, rfl⟩) rfl (yl_lens us9 rfl) ?_
        refine WL.val (.inr ⟨_, _, _, rfl, rfl, rfl⟩) rfl (yl_eq rfl rfl) ?_
        exact Got.intro 4 rfl rfl rfl
      refine WL.val (.inl rfl) rfl (yl_move rfl) ?_
      apply WL.and 4 rfl rfl rfl rfl (.inl rfl) rfl rfl rfl rfl rfl
      ·
        intro hg3
        have h0 : 0 < t.text.length := by
          rcases Nat.eq_zero_or_pos t.text.length with h | h
          · simp [h] at hg3
          · exact h
        have hu0 := at0 h0
        refine WL.val (.inr ⟨_, _, _, rfl, rfl, rfl⟩) rfl (yl_fa fo38_2 rfl) ?_
        refine WL.val (.inr ⟨_, _, _, rfl, rfl, rfl⟩) rfl (yl_ldk 0 rfl rfl rfl na9) ?_
        refine WL.val (.inr ⟨_, _, _, rfl, rfl, rfl⟩) rfl (yl_idxk us9 rfl rfl hu0) ?_
        refine WL.callp (.inr ⟨_, _, _, rfl, rfl, rfl⟩) rfl en27 rfl (fun w hw => isSign_any _ w) ?_
        exact Got.intro 4 rfl rfl rfl
      refine WL.val (.inl rfl) rfl (yl_assign rfl) ?_
      refine WL.nil ?_
      refine WE.then_normal ?_
      refine WC.ret ?_
      refine WE.ret1 rfl rfl fun w' hw => ?_
      exact ⟨by rw [tokOk3 hk hk2], hw.fr⟩

theorem checkToks_any (H : View) (a : Option Addr) (c : Nat) (l : List Tok) (w : World) (hH : Le H w) (hm : Sl rdTok 3 H a c l) :
    Calls Tryd.prog 8 #[.slice a l.length c] w fun e w' => e = .returned (.int .i64 (checkT l)) ∧ Ext w w' := by
  have hcap := hm.cap
  have hmax := hm.max
  refine enter Tryd.func8 rfl 33 rfl rfl ?_
  refine WC.world (W' := Ws w [] [] [H]) (fun _ e => by subst e; exact Ws.init (by simp [hH])) ?_
  refine WC.seq ?_
  refine WC.region ?_
  refine WL.val (.inl rfl) rfl (yl_assign rfl) ?_
  refine WL.nil ?_
  refine WE.then_normal ?_
  refine WC.seq ?_
  refine WC.seq ?_
  refine WC.region ?_
  refine WL.val (.inl rfl) rfl (yl_assign rfl) ?_
  refine WL.nil ?_
  refine WE.then_normal ?_
  refine WC.block ?_
  refine WC.loopW (ι := Nat) (fun i => [(3, .int .i64 (i : Int))]) [(0, _)] (fun i => i ≤ l.length ∧ ∀ j x, j < i → l[j]? = some x → kindBad x = false) (fun i => l.length - i) 0 ⟨Nat.zero_le _, by simp⟩ (sc rfl (sc rfl sn)) ?_
  intro i ⟨hi, hall⟩
  refine WC.seq ?_
  refine WC.seq ?_
  refine WC.region ?_
  refine WL.val (.inl rfl) rfl (yl_move rfl) ?_
  refine WL.val (.inl rfl) rfl (yl_move rfl) ?_
  refine WL.val (.inl rfl) rfl (yl_len es22 rfl) ?_
  refine WL.val (.inl rfl) rfl (yl_lt rfl rfl) ?_
  refine WL.nil ?_
  refine WE.then_normal ?_
  refine WC.cond rfl (fun hc0 => ?_) (fun hc0 => ?_)
  ·
    have hlt : i < l.length := by simpa using hc0
    obtain ⟨x, hxi⟩ : ∃ x, l[i]? = some x := ⟨_, List.getElem?_eq_getElem hlt⟩
    obtain ⟨pbx, pox, ha, hrow⟩ := hm.elt i x hxi
    have hrow : RdC H pbx (pox + i * 3) x.cells := hrow
    refine WC.skip ?_
    refine WE.then_normal ?_
    refine WC.seq ?_
    refine WC.block ?_
    refine WC.seq ?_
    refine WC.region ?_
    refine WL.val (.inl rfl) rfl (yl_move rfl) ?_
    refine WL.val (.inl rfl) rfl (yl_move rfl) ?_
    refine WL.val (.inl rfl) rfl (yl_iao es22 rfl rfl (by assumption) (by omega)) ?_
    refine WL.val (.inl rfl) rfl (yl_fa fo38_0 rfl) ?_
    refine WL.val (.inl rfl) rfl (yl_ld 0 na3 rfl rfl (hrow 0 _ rfl)) ?_
    refine WL.callp (.inl rfl) rfl en17 rfl (fun w hw => within_any x.kind 1 3 w) ?_
    refine WL.val (.inl rfl) rfl (yl_not rfl) ?_
    refine WL.nil ?_
    refine WE.then_normal ?_
    refine WC.cond rfl (fun hc1 => ?_) (fun hc1 => ?_)
    ·
      have hbad : kindBad x = true := hc1
      refine WC.seq ?_
      refine WC.region ?_
      refine WL.val (.inl rfl) rfl (yl_assign rfl) ?_
      refine WL.nil ?_
      refine WE.then_normal ?_
      refine WC.ret ?_
      refine WE.block_ret ?_
      refine WE.then_ret ?_
      refine WE.then_ret ?_
      refine WE.block_ret ?_
      refine WE.then_ret ?_
      refine WE.ret1 rfl rfl fun w' hw => ?_
      exact ⟨by rw [checkT, if_pos (any_true hxi hbad)], hw.fr⟩
    ·
      have hbad : kindBad x = false := hc1
      refine WC.skip ?_
      refine WE.block_normal ?_
      refine WE.then_normal ?_
      refine WC.region ?_
      refine WL.val (.inl rfl) rfl (yl_move rfl) ?_
      refine WL.val (.inl rfl) rfl (yl_inc rfl rfl rfl (by omega)) ?_
      refine WL.val (.inl rfl) rfl (yl_assign rfl) ?_
      refine WL.nil ?_
      exact WE.again (i + 1) (by omega) ⟨by omega, fun j x hj hx => by rcases Nat.lt_succ_iff_lt_or_eq.1 hj with h | rfl; exact hall j x h hx; rw [hxi] at hx; injection hx with hx; subst hx; exact hbad⟩ (sc rfl (sc rfl sn)) (fun _ h => h)
  ·
    have hge : ¬ i < l.length := by simpa using hc0
    have hanykindBad : l.any kindBad = false := any_false fun j x hj => hall j x (by have := (List.getElem?_eq_some_iff.1 hj).1; omega) hj
    refine WC.exit ?_
    refine WE.then_exit ?_
    refine WE.then_exit ?_
    refine WE.block_hit ?_
    refine WE.then_normal ?_
    refine WC.seq ?_
    refine WC.seq ?_
    refine WC.region ?_
    refine WL.val (.inl rfl) rfl (yl_assign rfl) ?_
    refine WL.nil ?_
    refine WE.then_normal ?_
    refine WC.block ?_
    refine WC.loopW (ι := Nat) (fun i => [(4, .int .i64 (i : Int))]) [(0, _)] (fun i => i ≤ l.length ∧ ∀ j x, j < i → l[j]? = some x → tokBad x = false) (fun i => l.length - i) 0 ⟨Nat.zero_le _, by simp⟩ (sc rfl (sc rfl sn)) ?_
    intro i ⟨hi, hall⟩
    refine WC.seq ?_
    refine WC.seq ?_
    refine WC.region ?_
    refine WL.val (.inl rfl) rfl (yl_move rfl) ?_
    refine WL.val (.inl rfl) rfl (yl_move rfl) ?_
    refine WL.val (.inl rfl) rfl (yl_len es22 rfl) ?_
    refine WL.val (.inl rfl) rfl (yl_lt rfl rfl) ?_
    refine WL.nil ?_
    refine WE.then_normal ?_
    refine WC.cond rfl (fun hc2 => ?_) (fun hc2 => ?_)
    ·
      have hlt : i < l.length := by simpa using hc2
      obtain ⟨x, hxi⟩ : ∃ x, l[i]? = some x := ⟨_, List.getElem?_eq_getElem hlt⟩
      obtain ⟨pbx, pox, ha, hrow⟩ := hm.elt i x hxi
      have hrow : RdC H pbx (pox + i * 3) x.cells := hrow
      refine WC.skip ?_
      refine WE.then_normal ?_
      refine WC.seq ?_
      refine WC.block ?_
      refine WC.seq ?_
      refine WC.region ?_
      refine WL.val (.inl rfl) rfl (yl_move rfl) ?_
      refine WL.val (.inl rfl) rfl (yl_move rfl) ?_
      refine WL.val (.inl rfl) rfl (yl_iao es22 rfl rfl (by assumption) (by omega)) ?_
      refine WL.val (.inl rfl) rfl (yl_lda 0 ag38 rfl rfl rfl (hrow)) ?_
      refine WL.callp (.inl rfl) rfl en18 rfl (fun w hw => tokFine_any x w) ?_
      refine WL.val (.inl rfl) rfl (yl_not rfl) ?_
      refine WL.nil ?_
      refine WE.then_normal ?_
      refine WC.cond rfl (fun hc3 => ?_) (fun hc3 => ?_)
      ·
        have hbad : tokBad x = true := hc3
        refine WC.seq ?_
        refine WC.region ?_
        refine WL.val (.inl rfl) rfl (yl_assign rfl) ?_
        refine WL.nil ?_
        refine WE.then_normal ?_
        refine WC.ret ?_
        refine WE.block_ret ?_
        refine WE.then_ret ?_
        refine WE.then_ret ?_
        refine WE.block_ret ?_
        refine WE.then_ret ?_
        refine WE.ret1 rfl rfl fun w' hw => ?_
        exact ⟨by rw [checkT, if_neg (by simp [hanykindBad]), if_pos (any_true hxi hbad)], hw.fr⟩
      ·
        have hbad : tokBad x = false := hc3
        refine WC.skip ?_
        refine WE.block_normal ?_
        refine WE.then_normal ?_
        refine WC.region ?_
        refine WL.val (.inl rfl) rfl (yl_move rfl) ?_
        refine WL.val (.inl rfl) rfl (yl_inc rfl rfl rfl (by omega)) ?_
        refine WL.val (.inl rfl) rfl (yl_assign rfl) ?_
        refine WL.nil ?_
        exact WE.again (i + 1) (by omega) ⟨by omega, fun j x hj hx => by rcases Nat.lt_succ_iff_lt_or_eq.1 hj with h | rfl; exact hall j x h hx; rw [hxi] at hx; injection hx with hx; subst hx; exact hbad⟩ (sc rfl (sc rfl sn)) (fun _ h => h)
    ·
      have hge : ¬ i < l.length := by simpa using hc2
      have hanytokBad : l.any tokBad = false := any_false fun j x hj => hall j x (by have := (List.getElem?_eq_some_iff.1 hj).1; omega) hj
      refine WC.exit ?_
      refine WE.then_exit ?_
      refine WE.then_exit ?_
      refine WE.block_hit ?_
      refine WE.then_normal ?_
      refine WC.seq ?_
      refine WC.seq ?_
      refine WC.region ?_
      refine WL.val (.inl rfl) rfl (yl_move rfl) ?_
      refine WL.val (.inl rfl) rfl (yl_len es22 rfl) ?_
      refine WL.val (.inl rfl) rfl (yl_gt rfl rfl) ?_
      refine WL.nil ?_
      refine WE.then_normal ?_
      refine WC.cond rfl (fun hc4 => ?_) (fun hc4 => ?_)
      ·
        have hl : 4096 < l.length := by simp at hc4; omega
        refine WC.seq ?_
        refine WC.region ?_
        refine WL.val (.inl rfl) rfl (yl_assign rfl) ?_
        refine WL.nil ?_
        refine WE.then_normal ?_
        refine WC.ret ?_
        refine WE.then_ret ?_
        refine WE.ret1 rfl rfl fun w' hw => ?_
        exact ⟨by rw [checkT, if_neg (by simp [hanykindBad]), if_neg (by simp [hanytokBad]), if_pos hl], hw.fr⟩
      ·
        have hl : ¬ 4096 < l.length := by simp at hc4; omega
        refine WC.skip ?_
        refine WE.then_normal ?_
        refine WC.seq ?_
        refine WC.region ?_
        refine WL.val (.inl rfl) rfl (yl_assign rfl) ?_
        refine WL.nil ?_
        refine WE.then_normal ?_
        refine WC.ret ?_
        refine WE.ret1 rfl rfl fun w' hw => ?_
        exact ⟨by rw [checkT, if_neg (by simp [hanykindBad]), if_neg (by simp [hanytokBad]), if_neg hl], hw.fr⟩

theorem tokText_any (t : Tok) (w : World) (ht : t.kind = 2 → 0 ≤ t.n ∧ t.n ≤ 1099511627775) :
    Calls Tryd.prog 19 #[.agg #[.int .i64 t.kind, .int .i64 t.n, st t.text]] w fun e w' => e = .returned (st (tokTxt t)) ∧ Ext w w' := by
  refine enter Tryd.func19 rfl 11 rfl rfl ?_
  refine WC.world (W' := Ws w [] [] []) (fun _ e => by subst e; exact Ws.init (by simp)) ?_
  refine WC.seq ?_
  refine WC.region ?_
  refine WL.box (.inl rfl) rfl rfl fun b1 => ?_
  refine WL.val (.inl rfl) rfl (yl_assign rfl) ?_
  refine WL.nil ?_
  refine WE.then_normal ?_
  refine WC.seq ?_
  refine WC.seq ?_
  refine WC.region ?_
  refine WL.val (.inl rfl) rfl (yl_fa fo38_0 rfl) ?_
  refine WL.val (.inl rfl) rfl (yl_ldk 0 rfl rfl rfl na3) ?_
  refine WL.val (.inl rfl) rfl (yl_eq rfl rfl) ?_
  refine WL.nil ?_
  refine WE.then_normal ?_
  refine WC.cond rfl (fun hc0 => ?_) (fun hc0 => ?_)
  ·
    have hk : t.kind = 2 := by simpa using hc0
    obtain ⟨hn0, hn1⟩ := ht hk
    refine WC.seq ?_
    refine WC.region ?_
    refine WL.val (.inl rfl) rfl (yl_fa fo38_1 rfl) ?_
    refine WL.val (.inl rfl) rfl (yl_ldk 0 rfl rfl rfl na3) ?_
    refine WL.callp (.inl rfl) rfl en32 rfl (fun w hw => by
        have := digits_any t.n.toNat w (by omega)
        rw [Int.toNat_of_nonneg hn0] at this
        exact this) ?_
    refine WL.val (.inl rfl) rfl (yl_assign rfl) ?_
    refine WL.nil ?_
    refine WE.then_normal ?_
    refine WC.ret ?_
    refine WE.then_ret ?_
    refine WE.ret1 rfl rfl fun w' hw => ?_
    exact ⟨by rw [tokTxt, if_pos hk, itoa_pos hn0], hw.fr⟩
  ·
    have hk : ¬ t.kind = 2 := by simpa using hc0
    refine WC.skip ?_
    refine WE.then_normal ?_
    refine WC.seq ?_
    refine WC.region ?_
    refine WL.val (.inl rfl) rfl (yl_fa fo38_2 rfl) ?_
    refine WL.val (.inl rfl) rfl (yl_ldk 0 rfl rfl rfl na9) ?_
    refine WL.val (.inl rfl) rfl (yl_assign rfl) ?_
    refine WL.nil ?_
    refine WE.then_normal ?_
    refine WC.ret ?_
    refine WE.ret1 rfl rfl fun w' hw => ?_
    exact ⟨by rw [tokTxt, if_neg hk], hw.fr⟩

theorem toksText_any (H : View) (a : Option Addr) (c : Nat) (l : List Tok) (w : World) (hH : Le H w) (hm : Sl rdTok 3 H a c l) (hok : ∀ t ∈ l, kindT t = true ∧ tokOk t = true) (hl : l.length ≤ 4096) :
    Calls Tryd.prog 9 #[.slice a l.length c] w fun e w' => e = .returned (st (joinT l)) ∧ Ext w w' := by
  have hcap := hm.cap
  have hmax := hm.max
  refine enter Tryd.func9 rfl 23 rfl rfl ?_
  refine WC.world (W' := Ws w [] [] [H]) (fun _ e => by subst e; exact Ws.init (by simp [hH])) ?_
  refine WC.seq ?_
  refine WC.region ?_
  refine WL.val (.inl rfl) rfl (yl_assign rfl) ?_
  refine WL.nil ?_
  refine WE.then_normal ?_
  refine WC.seq ?_
  refine WC.region ?_
  refine WL.val (.inl rfl) rfl (yl_assign rfl) ?_
  refine WL.nil ?_
  refine WE.then_normal ?_
  refine WC.seq ?_
  refine WC.seq ?_
  refine WC.region ?_
  refine WL.val (.inl rfl) rfl (yl_assign rfl) ?_
  refine WL.nil ?_
  refine WE.then_normal ?_
  refine WC.block ?_
  refine WC.loopW (ι := Nat) (fun i => [(4, .int .i64 (i : Int)), (3, st (joinT (l.take i)))]) [(0, _), (2, _)] (fun i => i ≤ l.length) (fun i => l.length - i) 0 (Nat.zero_le _) (sc rfl (sc rfl (sc rfl (sc rfl sn)))) ?_
  intro i hi
  refine WC.seq ?_
  refine WC.seq ?_
  refine WC.region ?_
  refine WL.val (.inl rfl) rfl (yl_move rfl) ?_
  refine WL.val (.inl rfl) rfl (yl_move rfl) ?_
  refine WL.val (.inl rfl) rfl (yl_len es22 rfl) ?_
  refine WL.val (.inl rfl) rfl (yl_lt rfl rfl) ?_
  refine WL.nil ?_
  refine WE.then_normal ?_
  refine WC.cond rfl (fun hc0 => ?_) (fun hc0 => ?_)
  ·
    have hlt : i < l.length := by simpa using hc0
    obtain ⟨x, hxi⟩ : ∃ x, l[i]? = some x := ⟨_, List.getElem?_eq_getElem hlt⟩
    obtain ⟨pbx, pox, ha, hrow⟩ := hm.elt i x hxi
    have hrow : RdC H pbx (pox + i * 3) x.cells := hrow
    have hjl := joinT_len (l.take i) fun t ht => hok t (List.mem_of_mem_take ht)
    have htl : (l.take i).length ≤ 4096 := by simp; omega
    have hxm := hok x (List.mem_of_getElem? hxi)
    have hxl := tokTxt_len hxm.1 hxm.2
    refine WC.skip ?_
    refine WE.then_normal ?_
    refine WC.seq ?_
    refine WC.block ?_
    refine WC.seq ?_
    refine WC.seq ?_
    refine WC.region ?_
    refine WL.val (.inl rfl) rfl (yl_move rfl) ?_
    refine WL.val (.inl rfl) rfl (yl_gt rfl rfl) ?_
    refine WL.nil ?_
    refine WE.then_normal ?_
    refine WC.cond rfl (fun hc1 => ?_) (fun hc1 => ?_)
    ·
      have hi0 : 0 < i := by simp at hc1; omega
      have hj : joinT (l.take i) ++ [32] ++ tokTxt x = joinT (l.take (i + 1)) := by
        rw [take_snoc hxi, joinT_snoc]
        intro h
        have h2 : (l.take i).length = i := by simp; omega
        rw [h] at h2
        simp at h2
        omega
      refine WC.region ?_
      refine WL.val (.inl rfl) rfl (yl_move rfl) ?_
      refine WL.val (.inl rfl) rfl (yl_cats (b := [32]) rfl rfl (show _ + 1 ≤ _ by omega)) ?_
      refine WL.val (.inl rfl) rfl (yl_assign rfl) ?_
      refine WL.nil ?_
      refine WE.then_normal ?_
      refine WC.region ?_
      refine WL.val (.inl rfl) rfl (yl_move rfl) ?_
      refine WL.val (.inl rfl) rfl (yl_move rfl) ?_
      refine WL.val (.inl rfl) rfl (yl_move rfl) ?_
      refine WL.val (.inl rfl) rfl (yl_iao es22 rfl rfl (by assumption) (by omega)) ?_
      refine WL.val (.inl rfl) rfl (yl_lda 0 ag38 rfl rfl rfl (hrow)) ?_
      refine WL.callp (.inl rfl) rfl en19 rfl (fun w hw => tokText_any x w (by
          intro hk
          have := hxm.2
          rw [tokOk2 (by omega) hk] at this
          simp [within] at this
          omega)) ?_
      refine WL.val (.inl rfl) rfl (yl_cats rfl rfl (by first | omega | (simp only [List.length_append, List.length_cons, List.length_nil]; omega))) ?_
      refine WL.val (.inl rfl) rfl (yl_assign rfl) ?_
      refine WL.nil ?_
      refine WE.block_normal ?_
      refine WE.then_normal ?_
      refine WC.region ?_
      refine WL.val (.inl rfl) rfl (yl_move rfl) ?_
      refine WL.val (.inl rfl) rfl (yl_inc rfl rfl rfl (by omega)) ?_
      refine WL.val (.inl rfl) rfl (yl_assign rfl) ?_
      refine WL.nil ?_
      rw [hj]
      exact WE.again (i + 1) (by omega) (by omega) (sc rfl (sc rfl (sc rfl (sc rfl sn)))) (fun _ h => h)
    ·
      have hi0 : i = 0 := by simp at hc1; omega
      have hj : joinT (l.take i) ++ tokTxt x = joinT (l.take (i + 1)) := by
        rw [take_snoc hxi]
        subst hi0
        simp [joinT, Lib.join, List.intercalate]
      refine WC.skip ?_
      refine WE.then_normal ?_
      refine WC.region ?_
      refine WL.val (.inl rfl) rfl (yl_move rfl) ?_
      refine WL.val (.inl rfl) rfl (yl_move rfl) ?_
      refine WL.val (.inl rfl) rfl (yl_move rfl) ?_
      refine WL.val (.inl rfl) rfl (yl_iao es22 rfl rfl (by assumption) (by omega)) ?_
      refine WL.val (.inl rfl) rfl (yl_lda 0 ag38 rfl rfl rfl (hrow)) ?_
      refine WL.callp (.inl rfl) rfl en19 rfl (fun w hw => tokText_any x w (by
          intro hk
          have := hxm.2
          rw [tokOk2 (by omega) hk] at this
          simp [within] at this
          omega)) ?_
      refine WL.val (.inl rfl) rfl (yl_cats rfl rfl (by first | omega | (simp only [List.length_append, List.length_cons, List.length_nil]; omega))) ?_
      refine WL.val (.inl rfl) rfl (yl_assign rfl) ?_
      refine WL.nil ?_
      refine WE.block_normal ?_
      refine WE.then_normal ?_
      refine WC.region ?_
      refine WL.val (.inl rfl) rfl (yl_move rfl) ?_
      refine WL.val (.inl rfl) rfl (yl_inc rfl rfl rfl (by omega)) ?_
      refine WL.val (.inl rfl) rfl (yl_assign rfl) ?_
      refine WL.nil ?_
      rw [hj]
      exact WE.again (i + 1) (by omega) (by omega) (sc rfl (sc rfl (sc rfl (sc rfl sn)))) (fun _ h => h)
  ·
    have hge : ¬ i < l.length := by simpa using hc0
    have hT : l.take i = l := List.take_of_length_le (by omega)
    refine WC.exit ?_
    refine WE.then_exit ?_
    refine WE.then_exit ?_
    refine WE.block_hit ?_
    refine WE.then_normal ?_
    refine WC.seq ?_
    refine WC.region ?_
    refine WL.val (.inl rfl) rfl (yl_move rfl) ?_
    refine WL.val (.inl rfl) rfl (yl_assign rfl) ?_
    refine WL.nil ?_
    refine WE.then_normal ?_
    refine WC.ret ?_
    refine WE.ret1 rfl rfl fun w' hw => ?_
    exact ⟨by rw [hT], hw.fr⟩

theorem run_any (s : List UInt8) (a : Nat) (w : World) (ha : a ≤ s.length) (hs : s.length ≤ 4096) :
    Calls Tryd.prog 24 #[st s, .int .i64 (a : Int)] w fun e w' => e = .returned (.int .i64 (runC (s.drop a) : Int)) ∧ Ext w w' := by
  refine enter Tryd.func24 rfl 31 rfl rfl ?_
  refine WC.world (W' := Ws w [] [] []) (fun _ e => by subst e; exact Ws.init (by simp)) ?_
  refine WC.seq ?_
  refine WC.region ?_
  refine WL.val (.inl rfl) rfl (yl_assign rfl) ?_
  refine WL.nil ?_
  refine WE.then_normal ?_
  refine WC.seq ?_
  refine WC.region ?_
  refine WL.val (.inl rfl) rfl (yl_assign rfl) ?_
  refine WL.nil ?_
  refine WE.then_normal ?_
  refine WC.seq ?_
  refine WC.block ?_
  refine WC.loopW (ι := Nat) (fun i => [(5, .int .i64 (i : Int))]) [(0, _), (1, _), (4, _)] (fun i => i ≤ (s.drop a).length ∧ ∀ j, j < i → charB ((s.drop a)[j]?.getD 0) = true) (fun i => s.length - i) 0 ⟨Nat.zero_le _, by simp⟩ (sc rfl (sc rfl (sc rfl (sc rfl sn)))) ?_
  intro i ⟨hi, hall⟩
  have hi2 : i ≤ s.length - a := by simpa using hi
  refine WC.seq ?_
  refine WC.seq ?_
  refine WC.region ?_
  refine WL.val (.inl rfl) rfl (yl_move rfl) ?_
  refine WL.val (.inl rfl) rfl (yl_move rfl) ?_
  refine WL.val (.inl rfl) rfl (yl_addn (a := a) (b := i) rfl rfl rfl rfl (by omega)) ?_
  refine WL.val (.inl rfl) rfl (yl_move rfl) ?_
  refine WL.val (.inl rfl) rfl (yl_lens us9 rfl) ?_
  refine WL.val (.inl rfl) rfl (yl_lt rfl rfl) ?_
  refine WL.val (.inl rfl) rfl (yl_move rfl) ?_
  apply WL.and 14 rfl rfl rfl rfl (.inl rfl) rfl rfl rfl rfl rfl
  ·
    intro hg0
    have hlt : a + i < s.length := by simp at hg0; omega
    have hu0 := at0 hlt
    refine WL.val (.inr ⟨_, _, _, rfl, rfl, rfl⟩) rfl (yl_move rfl) ?_
    refine WL.val (.inr ⟨_, _, _, rfl, rfl, rfl⟩) rfl (yl_move rfl) ?_
    refine WL.val (.inr ⟨_, _, _, rfl, rfl, rfl⟩) rfl (yl_move rfl) ?_
    refine WL.val (.inr ⟨_, _, _, rfl, rfl, rfl⟩) rfl (yl_addn (a := a) (b := i) rfl rfl rfl rfl (by omega)) ?_
    refine WL.val (.inr ⟨_, _, _, rfl, rfl, rfl⟩) rfl (yl_idxk us9 rfl rfl hu0) ?_
    refine WL.callp (.inr ⟨_, _, _, rfl, rfl, rfl⟩) rfl en35 rfl (fun w hw => letter_any _ w) ?_
    refine WL.val (.inr ⟨_, _, _, rfl, rfl, rfl⟩) rfl (yl_move rfl) ?_
    apply WL.or 6 rfl rfl rfl rfl (.inr ⟨_, _, _, rfl, rfl, rfl⟩) rfl rfl rfl rfl rfl
    ·
      intro hg1
      refine WL.val (.inr ⟨_, _, _, rfl, rfl, rfl⟩) rfl (yl_move rfl) ?_
      refine WL.val (.inr ⟨_, _, _, rfl, rfl, rfl⟩) rfl (yl_move rfl) ?_
      refine WL.val (.inr ⟨_, _, _, rfl, rfl, rfl⟩) rfl (yl_move rfl) ?_
      refine WL.val (.inr ⟨_, _, _, rfl, rfl, rfl⟩) rfl (yl_addn (a := a) (b := i) rfl rfl rfl rfl (by omega)) ?_
      refine WL.val (.inr ⟨_, _, _, rfl, rfl, rfl⟩) rfl (yl_idxk us9 rfl rfl hu0) ?_
      refine WL.callp (.inr ⟨_, _, _, rfl, rfl, rfl⟩) rfl en36 rfl (fun w hw => digit_any _ w) ?_
      exact Got.intro 6 rfl rfl rfl
    exact Got.intro 8 rfl rfl rfl
  refine WL.nil ?_
  refine WE.then_normal ?_
  refine WC.cond rfl (fun hc0 => ?_) (fun hc0 => ?_)
  ·
    have hlt : a + i < s.length := by
      simp only [Bool.and_eq_true, decide_eq_true_eq] at hc0
      omega
    have hch : charB ((s.drop a)[i]?.getD 0) = true := by
      rw [List.getElem?_drop]
      simp only [Bool.and_eq_true] at hc0
      exact hc0.2
    refine WC.skip ?_
    refine WE.then_normal ?_
    refine WC.block ?_
    refine WC.region ?_
    refine WL.val (.inl rfl) rfl (yl_move rfl) ?_
    refine WL.val (.inl rfl) rfl (yl_inc rfl rfl rfl (by omega)) ?_
    refine WL.val (.inl rfl) rfl (yl_assign rfl) ?_
    refine WL.nil ?_
    refine WE.block_normal ?_
    exact WE.again (i + 1) (by omega) ⟨by simp; omega, fun j hj => by rcases Nat.lt_succ_iff_lt_or_eq.1 hj with h | rfl; exact hall j h; exact hch⟩ (sc rfl (sc rfl (sc rfl (sc rfl sn)))) (fun _ h => h)
  ·
    have hend : runC (s.drop a) = i := by
      refine runC_spec _ _ hi hall ?_
      rcases Nat.lt_or_ge (a + i) s.length with h | h
      · right
        rw [List.getElem?_drop]
        rw [decide_eq_true (by omega : ((a + i : Nat) : Int) < (s.length : Int)), Bool.true_and] at hc0
        exact hc0
      · left; simp at hi ⊢; omega
    refine WC.exit ?_
    refine WE.then_exit ?_
    refine WE.then_exit ?_
    refine WE.block_hit ?_
    refine WE.then_normal ?_
    refine WC.seq ?_
    refine WC.region ?_
    refine WL.val (.inl rfl) rfl (yl_move rfl) ?_
    refine WL.val (.inl rfl) rfl (yl_assign rfl) ?_
    refine WL.nil ?_
    refine WE.then_normal ?_
    refine WC.ret ?_
    refine WE.ret1 rfl rfl fun w' hw => ?_
    exact ⟨by rw [hend], hw.fr⟩

theorem numberOf_any (s : List UInt8) (w : World) (hs : s.length ≤ 4096) :
    Calls Tryd.prog 26 #[st s] w fun e w' => e = .returned (.tuple #[.int .i64 (numR s).1, .bool (numR s).2]) ∧ Ext w w' := by
  refine enter Tryd.func26 rfl 37 rfl rfl ?_
  refine WC.world (W' := Ws w [] [] []) (fun _ e => by subst e; exact Ws.init (by simp)) ?_
  refine WC.seq ?_
  refine WC.region ?_
  refine WL.val (.inl rfl) rfl (yl_assign rfl) ?_
  refine WL.val (.inl rfl) rfl (yl_assign rfl) ?_
  refine WL.nil ?_
  refine WE.then_normal ?_
  refine WC.seq ?_
  refine WC.seq ?_
  refine WC.region ?_
  refine WL.val (.inl rfl) rfl (yl_move rfl) ?_
  refine WL.val (.inl rfl) rfl (yl_lens us9 rfl) ?_
  refine WL.val (.inl rfl) rfl (yl_gt rfl rfl) ?_
  refine WL.nil ?_
  refine WE.then_normal ?_
  refine WC.cond rfl (fun hc0 => ?_) (fun hc0 => ?_)
  ·
    have h15 : 15 < s.length := by simp at hc0; omega
    refine WC.seq ?_
    refine WC.region ?_
    refine WL.val (.inl rfl) rfl (yl_assign rfl) ?_
    refine WL.val (.inl rfl) rfl (yl_assign rfl) ?_
    refine WL.nil ?_
    refine WE.then_normal ?_
    refine WC.ret ?_
    refine WE.then_ret ?_
    refine WE.ret2 rfl rfl rfl fun w' hw => ?_
    exact ⟨by rw [numR, if_pos h15], hw.fr⟩
  ·
    have h15 : ¬ 15 < s.length := by simp at hc0; omega
    refine WC.skip ?_
    refine WE.then_normal ?_
    refine WC.seq ?_
    refine WC.region ?_
    refine WL.val (.inl rfl) rfl (yl_assign rfl) ?_
    refine WL.nil ?_
    refine WE.then_normal ?_
    refine WC.seq ?_
    refine WC.seq ?_
    refine WC.region ?_
    refine WL.val (.inl rfl) rfl (yl_assign rfl) ?_
    refine WL.nil ?_
    refine WE.then_normal ?_
    refine WC.block ?_
    refine WC.loopW (ι := Nat × Nat) (fun g => [(5, .int .i64 (g.1 : Int)), (4, .int .i64 (g.2 : Int))]) [(0, _)] (fun g => g.1 ≤ s.length ∧ Lib.decFrom 0 (s.take g.1) = some g.2) (fun g => s.length - g.1) (0, 0) ⟨Nat.zero_le _, by simp [Lib.decFrom]⟩ (sc rfl (sc rfl (sc rfl sn))) ?_
    intro g ⟨hi, hd⟩
    refine WC.seq ?_
    refine WC.seq ?_
    refine WC.region ?_
    refine WL.val (.inl rfl) rfl (yl_move rfl) ?_
    refine WL.val (.inl rfl) rfl (yl_move rfl) ?_
    refine WL.val (.inl rfl) rfl (yl_lens us9 rfl) ?_
    refine WL.val (.inl rfl) rfl (yl_lt rfl rfl) ?_
    refine WL.nil ?_
    refine WE.then_normal ?_
    refine WC.cond rfl (fun hc1 => ?_) (fun hc1 => ?_)
    ·
      have hlt : g.1 < s.length := by simpa using hc1
      have hu0 := at0 hlt
      have hb := Lib.decFrom_lt _ _ _ hd
      have hb2 := pow_15 g.1 (by omega)
      have hbl : (s.take g.1).length = g.1 := by simp; omega
      rw [hbl] at hb
      refine WC.skip ?_
      refine WE.then_normal ?_
      refine WC.seq ?_
      refine WC.block ?_
      refine WC.seq ?_
      refine WC.seq ?_
      refine WC.region ?_
      refine WL.val (.inl rfl) rfl (yl_move rfl) ?_
      refine WL.val (.inl rfl) rfl (yl_move rfl) ?_
      refine WL.val (.inl rfl) rfl (yl_idxk us9 rfl rfl hu0) ?_
      refine WL.callp (.inl rfl) rfl en36 rfl (fun w hw => digit_any _ w) ?_
      refine WL.val (.inl rfl) rfl (yl_not rfl) ?_
      refine WL.nil ?_
      refine WE.then_normal ?_
      refine WC.cond rfl (fun hc2 => ?_) (fun hc2 => ?_)
      ·
        have hdn := decFrom_bad hu0 (by simpa using hc2)
        refine WC.seq ?_
        refine WC.region ?_
        refine WL.val (.inl rfl) rfl (yl_assign rfl) ?_
        refine WL.val (.inl rfl) rfl (yl_assign rfl) ?_
        refine WL.nil ?_
        refine WE.then_normal ?_
        refine WC.ret ?_
        refine WE.then_ret ?_
        refine WE.block_ret ?_
        refine WE.then_ret ?_
        refine WE.then_ret ?_
        refine WE.block_ret ?_
        refine WE.then_ret ?_
        refine WE.ret2 rfl rfl rfl fun w' hw => ?_
        exact ⟨by rw [numR, if_neg h15, hdn], hw.fr⟩
      ·
        obtain ⟨hdv, h48, h57⟩ := digit_val (by simpa using hc2 : digitB _ = true)
        refine WC.skip ?_
        refine WE.then_normal ?_
        refine WC.region ?_
        refine WL.val (.inl rfl) rfl (yl_move rfl) ?_
        refine WL.val (.inl rfl) rfl (yl_mulw rfl rfl) ?_
        rw [wrap_in (by omega)]
        refine WL.val (.inl rfl) rfl (yl_move rfl) ?_
        refine WL.val (.inl rfl) rfl (yl_move rfl) ?_
        refine WL.val (.inl rfl) rfl (yl_idxk us9 rfl rfl hu0) ?_
        refine WL.val (.inl rfl) rfl (yl_subw rfl rfl) ?_
        rw [wrap_dsub h48]
        refine WL.val (.inl rfl) rfl (yl_cvi ui5 ui3 rfl) ?_
        rw [wrap_in (by omega)]
        refine WL.val (.inl rfl) rfl (yl_addv ((g.2 * 10 + ((s[g.1]?.getD 0).toNat - 48) : Nat) : Int) rfl rfl (by omega) (by omega)) ?_
        refine WL.val (.inl rfl) rfl (yl_assign rfl) ?_
        refine WL.nil ?_
        refine WE.block_normal ?_
        refine WE.then_normal ?_
        refine WC.region ?_
        refine WL.val (.inl rfl) rfl (yl_move rfl) ?_
        refine WL.val (.inl rfl) rfl (yl_inc rfl rfl rfl (by omega)) ?_
        refine WL.val (.inl rfl) rfl (yl_assign rfl) ?_
        refine WL.nil ?_
        exact WE.again ((g.1 + 1, g.2 * 10 + ((s[g.1]?.getD 0).toNat - 48)) : Nat × Nat) (by omega) ⟨by omega, Lib.decFrom_take s g.1 0 g.2 _ _ hd hu0 hdv⟩ (sc rfl (sc rfl (sc rfl sn))) (fun _ h => h)
    ·
      have hge : s.length ≤ g.1 := by simp at hc1; omega
      rw [List.take_of_length_le hge] at hd
      have hR : numR s = ((g.2 : Int), decide ((g.2 : Int) ≤ 1099511627775) && (Lib.decDigits g.2 == s)) := by rw [numR, if_neg h15, hd]
      refine WC.exit ?_
      refine WE.then_exit ?_
      refine WE.then_exit ?_
      refine WE.block_hit ?_
      refine WE.then_normal ?_
      refine WC.seq ?_
      refine WC.region ?_
      refine WL.val (.inl rfl) rfl (yl_move rfl) ?_
      refine WL.val (.inl rfl) rfl (yl_move rfl) ?_
      refine WL.val (.inl rfl) rfl (yl_le rfl rfl) ?_
      refine WL.val (.inl rfl) rfl (yl_move rfl) ?_
      apply WL.and 4 rfl rfl rfl rfl (.inl rfl) rfl rfl rfl rfl rfl
      ·
        intro hg0
        have hgm : g.2 ≤ 1099511627775 := by simp at hg0; omega
        refine WL.val (.inr ⟨_, _, _, rfl, rfl, rfl⟩) rfl (yl_move rfl) ?_
        refine WL.callp (.inr ⟨_, _, _, rfl, rfl, rfl⟩) rfl en32 rfl (fun w hw => digits_any g.2 w (by omega)) ?_
        refine WL.val (.inr ⟨_, _, _, rfl, rfl, rfl⟩) rfl (yl_move rfl) ?_
        refine WL.val (.inr ⟨_, _, _, rfl, rfl, rfl⟩) rfl (yl_eqs rfl rfl) ?_
        exact Got.intro 4 rfl rfl rfl
      refine WL.val (.inl rfl) rfl (yl_assign rfl) ?_
      refine WL.val (.inl rfl) rfl (yl_assign rfl) ?_
      refine WL.nil ?_
      refine WE.then_normal ?_
      refine WC.ret ?_
      refine WE.ret2 rfl rfl rfl fun w' hw => ?_
      exact ⟨by rw [hR], hw.fr⟩

end Go.Proofs.YtcjloelhjnnhmaaDoor
