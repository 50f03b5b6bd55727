/- Walks of the functions of this claim, and plain laws on what they compute; each theorem tells its own conditions. -/
import Derived.Test.YtagoencpeflmlaaBwF5
namespace Go.Proofs.Ytagoencpeflmlaa
open Go.Bw
set_option linter.unusedVariables false
set_option linter.unusedSimpArgs false

def itemOk (x : Item) : Bool := !((((((((!(nameB x.name) || !(within x.kind 1 4)) || !(within x.n 0 1099511627775)) || !(within x.pl 0 320)) || (x.kind == 1 && x.pl != 0)) || (x.kind == 2 && x.n != 0)) || (x.kind == 3 && !(within x.n 1 32))) || (x.kind == 4 && decide (3 < x.n))))
theorem item_kind {x : Item} {lo hi mx : Int} (h : (x.kind = 1 ∧ lo = 0 ∧ hi = 1099511627775 ∧ mx = 0) ∨ (x.kind = 2 ∧ lo = 0 ∧ hi = 0 ∧ mx = 320) ∨ (x.kind = 3 ∧ lo = 1 ∧ hi = 32 ∧ mx = 320) ∨ (x.kind = 4 ∧ lo = 0 ∧ hi = 3 ∧ mx = 320)) :
    ((((nameB x.name && decide (lo ≤ x.n)) && decide (x.n ≤ hi)) && decide (0 ≤ x.pl)) && decide (x.pl ≤ mx)) = itemOk x := by
  unfold itemOk
  generalize nameB x.name = b
  rw [Bool.eq_iff_iff]
  cases b
  · simp
  · rcases h with ⟨h, rfl, rfl, rfl⟩ | ⟨h, rfl, rfl, rfl⟩ | ⟨h, rfl, rfl, rfl⟩ | ⟨h, rfl, rfl, rfl⟩ <;> simp [within, h] <;> omega
theorem item_none {x : Item} (h1 : x.kind ≠ 1) (h2 : x.kind ≠ 2) (h3 : x.kind ≠ 3) (h4 : x.kind ≠ 4) : itemOk x = false := by
  unfold itemOk
  have : within x.kind 1 4 = false := by simp [within]; omega
  simp [this]
def rdStr (H : View) (b o : Nat) (x : List UInt8) : Prop := vc H b o = some (st x)
def twiceB (l : List (List UInt8)) : Bool := (List.range l.length).any fun i => (List.range i).any fun j => l[i]?.getD [] == l[j]?.getD []
theorem twice_no {l : List (List UInt8)} (h : ∀ i, i < l.length → ∀ j, j < i → (l[i]?.getD [] == l[j]?.getD []) = false) : twiceB l = false := by
  unfold twiceB
  rw [List.any_eq_false]
  intro i hi
  simp only [List.any_eq_true, not_exists, not_and]
  intro j hj
  have := h i (by simpa using hi) j (by simpa using hj)
  simp [this]
theorem twice_yes {l : List (List UInt8)} {i j : Nat} (hi : i < l.length) (hj : j < i) (h : (l[i]?.getD [] == l[j]?.getD []) = true) : twiceB l = true := by
  unfold twiceB
  exact List.any_eq_true.2 ⟨i, by simpa using hi, List.any_eq_true.2 ⟨j, by simpa using hj, h⟩⟩
theorem en76 : Enters Try.prog 76 := enters_of Try.func76 (by kernel_rfl) rfl
theorem es92 : elemSz Try.prog 92 = some 1 := by kernel_rfl

theorem item_any (x : Item) (w : World) :
    Calls Try.prog 74 #[.agg #[.int .i64 x.kind, .int .i64 x.n, .int .i64 x.pl, st x.name]] w fun e w' => e = .returned (.bool (itemOk x)) ∧ Ext w w' := by
  refine enter Try.func74 rfl 42 rfl rfl ?_
  refine WC.world (W' := Ws w [] [] []) (fun _ e => by subst e; exact Ws.init (by simp)) ?_
  refine WC.seq ?_
  refine WC.region ?_
  refine WL.box (.inl rfl) rfl rfl fun b1 => ?_
  refine WL.val (.inl rfl) rfl (yl_assign rfl) ?_
  refine WL.nil ?_
  refine WE.then_normal ?_
  refine WC.seq ?_
  refine WC.region ?_
  refine WL.val (.inl rfl) rfl (yl_assign rfl) ?_
  refine WL.val (.inl rfl) rfl (yl_assign rfl) ?_
  refine WL.nil ?_
  refine WE.then_normal ?_
  refine WC.seq ?_
  refine WC.region ?_
  refine WL.val (.inl rfl) rfl (yl_assign rfl) ?_
  refine WL.nil ?_
  refine WE.then_normal ?_
  refine WC.seq ?_
  refine WC.seq ?_
  refine WC.region ?_
  refine WL.val (.inl rfl) rfl (yl_fa fo88_0 rfl) ?_
  refine WL.val (.inl rfl) rfl (yl_ldk 0 rfl rfl rfl na3) ?_
  refine WL.nil ?_
  refine WE.then_normal ?_
  refine WC.block ?_
  refine WC.seq ?_
  refine WC.region ?_
  refine WL.val (.inl rfl) rfl (yl_eq rfl rfl) ?_
  refine WL.val (.inl rfl) rfl (yl_assign rfl) ?_
  refine WL.nil ?_
  refine WE.then_normal ?_
  refine WC.cond rfl (fun hc0 => ?_) (fun hc0 => ?_)
  ·
    refine WC.region ?_
    refine WL.val (.inl rfl) rfl (yl_assign rfl) ?_
    refine WL.nil ?_
    refine WE.block_normal ?_
    refine WE.then_normal ?_
    refine WC.seq ?_
    refine WC.region ?_
    refine WL.val (.inl rfl) rfl (yl_fa fo88_3 rfl) ?_
    refine WL.val (.inl rfl) rfl (yl_ldk 0 rfl rfl rfl na9) ?_
    refine WL.callp (.inl rfl) rfl en76 rfl (fun w hw => lexName_any _ w) ?_
    refine WL.val (.inl rfl) rfl (yl_move rfl) ?_
    apply WL.and 4 rfl rfl rfl rfl (.inl rfl) rfl rfl rfl rfl rfl
    ·
      intro hg0
      refine WL.val (.inr ⟨_, _, _, rfl, rfl, rfl⟩) rfl (yl_fa fo88_1 rfl) ?_
      refine WL.val (.inr ⟨_, _, _, rfl, rfl, rfl⟩) rfl (yl_ldk 0 rfl rfl rfl na3) ?_
      refine WL.val (.inr ⟨_, _, _, rfl, rfl, rfl⟩) rfl (yl_move rfl) ?_
      refine WL.val (.inr ⟨_, _, _, rfl, rfl, rfl⟩) rfl (yl_ge rfl rfl) ?_
      exact Got.intro 4 rfl rfl rfl
    refine WL.val (.inl rfl) rfl (yl_move rfl) ?_
    apply WL.and 4 rfl rfl rfl rfl (.inl rfl) rfl rfl rfl rfl rfl
    ·
      intro hg1
      refine WL.val (.inr ⟨_, _, _, rfl, rfl, rfl⟩) rfl (yl_fa fo88_1 rfl) ?_
      refine WL.val (.inr ⟨_, _, _, rfl, rfl, rfl⟩) rfl (yl_ldk 0 rfl rfl rfl na3) ?_
      refine WL.val (.inr ⟨_, _, _, rfl, rfl, rfl⟩) rfl (yl_move rfl) ?_
      refine WL.val (.inr ⟨_, _, _, rfl, rfl, rfl⟩) rfl (yl_le rfl rfl) ?_
      exact Got.intro 4 rfl rfl rfl
    refine WL.val (.inl rfl) rfl (yl_move rfl) ?_
    apply WL.and 3 rfl rfl rfl rfl (.inl rfl) rfl rfl rfl rfl rfl
    ·
      intro hg2
      refine WL.val (.inr ⟨_, _, _, rfl, rfl, rfl⟩) rfl (yl_fa fo88_2 rfl) ?_
      refine WL.val (.inr ⟨_, _, _, rfl, rfl, rfl⟩) rfl (yl_ldk 0 rfl rfl rfl na3) ?_
      refine WL.val (.inr ⟨_, _, _, rfl, rfl, rfl⟩) rfl (yl_ge rfl rfl) ?_
      exact Got.intro 3 rfl rfl rfl
    refine WL.val (.inl rfl) rfl (yl_move rfl) ?_
    apply WL.and 4 rfl rfl rfl rfl (.inl rfl) rfl rfl rfl rfl rfl
    ·
      intro hg3
      refine WL.val (.inr ⟨_, _, _, rfl, rfl, rfl⟩) rfl (yl_fa fo88_2 rfl) ?_
      refine WL.val (.inr ⟨_, _, _, rfl, rfl, rfl⟩) rfl (yl_ldk 0 rfl rfl rfl na3) ?_
      refine WL.val (.inr ⟨_, _, _, rfl, rfl, rfl⟩) rfl (yl_move rfl) ?_
      refine WL.val (.inr ⟨_, _, _, rfl, rfl, rfl⟩) rfl (yl_le rfl rfl) ?_
      exact Got.intro 4 rfl rfl rfl
    refine WL.val (.inl rfl) rfl (yl_assign rfl) ?_
    refine WL.nil ?_
    refine WE.then_normal ?_
    refine WC.ret ?_
    refine WE.ret1 rfl rfl fun w' hw => ?_
    have hk : x.kind = 1 := by simpa using hc0
    exact ⟨by rw [item_kind (by simp [hk])], hw.fr⟩
  ·
    refine WC.seq ?_
    refine WC.region ?_
    refine WL.val (.inl rfl) rfl (yl_eq rfl rfl) ?_
    refine WL.val (.inl rfl) rfl (yl_assign rfl) ?_
    refine WL.nil ?_
    refine WE.then_normal ?_
    refine WC.cond rfl (fun hc1 => ?_) (fun hc1 => ?_)
    ·
      refine WC.region ?_
      refine WL.val (.inl rfl) rfl (yl_assign rfl) ?_
      refine WL.nil ?_
      refine WE.block_normal ?_
      refine WE.then_normal ?_
      refine WC.seq ?_
      refine WC.region ?_
      refine WL.val (.inl rfl) rfl (yl_fa fo88_3 rfl) ?_
      refine WL.val (.inl rfl) rfl (yl_ldk 0 rfl rfl rfl na9) ?_
      refine WL.callp (.inl rfl) rfl en76 rfl (fun w hw => lexName_any _ w) ?_
      refine WL.val (.inl rfl) rfl (yl_move rfl) ?_
      apply WL.and 4 rfl rfl rfl rfl (.inl rfl) rfl rfl rfl rfl rfl
      ·
        intro hg0
        refine WL.val (.inr ⟨_, _, _, rfl, rfl, rfl⟩) rfl (yl_fa fo88_1 rfl) ?_
        refine WL.val (.inr ⟨_, _, _, rfl, rfl, rfl⟩) rfl (yl_ldk 0 rfl rfl rfl na3) ?_
        refine WL.val (.inr ⟨_, _, _, rfl, rfl, rfl⟩) rfl (yl_move rfl) ?_
        refine WL.val (.inr ⟨_, _, _, rfl, rfl, rfl⟩) rfl (yl_ge rfl rfl) ?_
        exact Got.intro 4 rfl rfl rfl
      refine WL.val (.inl rfl) rfl (yl_move rfl) ?_
      apply WL.and 4 rfl rfl rfl rfl (.inl rfl) rfl rfl rfl rfl rfl
      ·
        intro hg1
        refine WL.val (.inr ⟨_, _, _, rfl, rfl, rfl⟩) rfl (yl_fa fo88_1 rfl) ?_
        refine WL.val (.inr ⟨_, _, _, rfl, rfl, rfl⟩) rfl (yl_ldk 0 rfl rfl rfl na3) ?_
        refine WL.val (.inr ⟨_, _, _, rfl, rfl, rfl⟩) rfl (yl_move rfl) ?_
        refine WL.val (.inr ⟨_, _, _, rfl, rfl, rfl⟩) rfl (yl_le rfl rfl) ?_
        exact Got.intro 4 rfl rfl rfl
      refine WL.val (.inl rfl) rfl (yl_move rfl) ?_
      apply WL.and 3 rfl rfl rfl rfl (.inl rfl) rfl rfl rfl rfl rfl
      ·
        intro hg2
        refine WL.val (.inr ⟨_, _, _, rfl, rfl, rfl⟩) rfl (yl_fa fo88_2 rfl) ?_
        refine WL.val (.inr ⟨_, _, _, rfl, rfl, rfl⟩) rfl (yl_ldk 0 rfl rfl rfl na3) ?_
        refine WL.val (.inr ⟨_, _, _, rfl, rfl, rfl⟩) rfl (yl_ge rfl rfl) ?_
        exact Got.intro 3 rfl rfl rfl
      refine WL.val (.inl rfl) rfl (yl_move rfl) ?_
      apply WL.and 4 rfl rfl rfl rfl (.inl rfl) rfl rfl rfl rfl rfl
      ·
        intro hg3
        refine WL.val (.inr ⟨_, _, _, rfl, rfl, rfl⟩) rfl (yl_fa fo88_2 rfl) ?_
        refine WL.val (.inr ⟨_, _, _, rfl, rfl, rfl⟩) rfl (yl_ldk 0 rfl rfl rfl na3) ?_
        refine WL.val (.inr ⟨_, _, _, rfl, rfl, rfl⟩) rfl (yl_move rfl) ?_
        refine WL.val (.inr ⟨_, _, _, rfl, rfl, rfl⟩) rfl (yl_le rfl rfl) ?_
        exact Got.intro 4 rfl rfl rfl
      refine WL.val (.inl rfl) rfl (yl_assign rfl) ?_
      refine WL.nil ?_
      refine WE.then_normal ?_
      refine WC.ret ?_
      refine WE.ret1 rfl rfl fun w' hw => ?_
      have hk : x.kind = 2 := by simpa using hc1
      exact ⟨by rw [item_kind (by simp [hk])], hw.fr⟩
    ·
      refine WC.seq ?_
      refine WC.region ?_
      refine WL.val (.inl rfl) rfl (yl_eq rfl rfl) ?_
      refine WL.val (.inl rfl) rfl (yl_assign rfl) ?_
      refine WL.nil ?_
      refine WE.then_normal ?_
      refine WC.cond rfl (fun hc2 => ?_) (fun hc2 => ?_)
      ·
        refine WC.region ?_
        refine WL.val (.inl rfl) rfl (yl_assign rfl) ?_
        refine WL.val (.inl rfl) rfl (yl_assign rfl) ?_
        refine WL.nil ?_
        refine WE.block_normal ?_
        refine WE.then_normal ?_
        refine WC.seq ?_
        refine WC.region ?_
        refine WL.val (.inl rfl) rfl (yl_fa fo88_3 rfl) ?_
        refine WL.val (.inl rfl) rfl (yl_ldk 0 rfl rfl rfl na9) ?_
        refine WL.callp (.inl rfl) rfl en76 rfl (fun w hw => lexName_any _ w) ?_
        refine WL.val (.inl rfl) rfl (yl_move rfl) ?_
        apply WL.and 4 rfl rfl rfl rfl (.inl rfl) rfl rfl rfl rfl rfl
        ·
          intro hg0
          refine WL.val (.inr ⟨_, _, _, rfl, rfl, rfl⟩) rfl (yl_fa fo88_1 rfl) ?_
          refine WL.val (.inr ⟨_, _, _, rfl, rfl, rfl⟩) rfl (yl_ldk 0 rfl rfl rfl na3) ?_
          refine WL.val (.inr ⟨_, _, _, rfl, rfl, rfl⟩) rfl (yl_move rfl) ?_
          refine WL.val (.inr ⟨_, _, _, rfl, rfl, rfl⟩) rfl (yl_ge rfl rfl) ?_
          exact Got.intro 4 rfl rfl rfl
        refine WL.val (.inl rfl) rfl (yl_move rfl) ?_
        apply WL.and 4 rfl rfl rfl rfl (.inl rfl) rfl rfl rfl rfl rfl
        ·
          intro hg1
          refine WL.val (.inr ⟨_, _, _, rfl, rfl, rfl⟩) rfl (yl_fa fo88_1 rfl) ?_
          refine WL.val (.inr ⟨_, _, _, rfl, rfl, rfl⟩) rfl (yl_ldk 0 rfl rfl rfl na3) ?_
          refine WL.val (.inr ⟨_, _, _, rfl, rfl, rfl⟩) rfl (yl_move rfl) ?_
          refine WL.val (.inr ⟨_, _, _, rfl, rfl, rfl⟩) rfl (yl_le rfl rfl) ?_
          exact Got.intro 4 rfl rfl rfl
        refine WL.val (.inl rfl) rfl (yl_move rfl) ?_
        apply WL.and 3 rfl rfl rfl rfl (.inl rfl) rfl rfl rfl rfl rfl
        ·
          intro hg2
          refine WL.val (.inr ⟨_, _, _, rfl, rfl, rfl⟩) rfl (yl_fa fo88_2 rfl) ?_
          refine WL.val (.inr ⟨_, _, _, rfl, rfl, rfl⟩) rfl (yl_ldk 0 rfl rfl rfl na3) ?_
          refine WL.val (.inr ⟨_, _, _, rfl, rfl, rfl⟩) rfl (yl_ge rfl rfl) ?_
          exact Got.intro 3 rfl rfl rfl
        refine WL.val (.inl rfl) rfl (yl_move rfl) ?_
        apply WL.and 4 rfl rfl rfl rfl (.inl rfl) rfl rfl rfl rfl rfl
        ·
          intro hg3
          refine WL.val (.inr ⟨_, _, _, rfl, rfl, rfl⟩) rfl (yl_fa fo88_2 rfl) ?_
          refine WL.val (.inr ⟨_, _, _, rfl, rfl, rfl⟩) rfl (yl_ldk 0 rfl rfl rfl na3) ?_
          refine WL.val (.inr ⟨_, _, _, rfl, rfl, rfl⟩) rfl (yl_move rfl) ?_
          refine WL.val (.inr ⟨_, _, _, rfl, rfl, rfl⟩) rfl (yl_le rfl rfl) ?_
          exact Got.intro 4 rfl rfl rfl
        refine WL.val (.inl rfl) rfl (yl_assign rfl) ?_
        refine WL.nil ?_
        refine WE.then_normal ?_
        refine WC.ret ?_
        refine WE.ret1 rfl rfl fun w' hw => ?_
        have hk : x.kind = 3 := by simpa using hc2
        exact ⟨by rw [item_kind (by simp [hk])], hw.fr⟩
      ·
        refine WC.seq ?_
        refine WC.region ?_
        refine WL.val (.inl rfl) rfl (yl_eq rfl rfl) ?_
        refine WL.val (.inl rfl) rfl (yl_assign rfl) ?_
        refine WL.nil ?_
        refine WE.then_normal ?_
        refine WC.cond rfl (fun hc3 => ?_) (fun hc3 => ?_)
        ·
          refine WC.region ?_
          refine WL.val (.inl rfl) rfl (yl_assign rfl) ?_
          refine WL.nil ?_
          refine WE.block_normal ?_
          refine WE.then_normal ?_
          refine WC.seq ?_
          refine WC.region ?_
          refine WL.val (.inl rfl) rfl (yl_fa fo88_3 rfl) ?_
          refine WL.val (.inl rfl) rfl (yl_ldk 0 rfl rfl rfl na9) ?_
          refine WL.callp (.inl rfl) rfl en76 rfl (fun w hw => lexName_any _ w) ?_
          refine WL.val (.inl rfl) rfl (yl_move rfl) ?_
          apply WL.and 4 rfl rfl rfl rfl (.inl rfl) rfl rfl rfl rfl rfl
          ·
            intro hg0
            refine WL.val (.inr ⟨_, _, _, rfl, rfl, rfl⟩) rfl (yl_fa fo88_1 rfl) ?_
            refine WL.val (.inr ⟨_, _, _, rfl, rfl, rfl⟩) rfl (yl_ldk 0 rfl rfl rfl na3) ?_
            refine WL.val (.inr ⟨_, _, _, rfl, rfl, rfl⟩) rfl (yl_move rfl) ?_
            refine WL.val (.inr ⟨_, _, _, rfl, rfl, rfl⟩) rfl (yl_ge rfl rfl) ?_
            exact Got.intro 4 rfl rfl rfl
          refine WL.val (.inl rfl) rfl (yl_move rfl) ?_
          apply WL.and 4 rfl rfl rfl rfl (.inl rfl) rfl rfl rfl rfl rfl
          ·
            intro hg1
            refine WL.val (.inr ⟨_, _, _, rfl, rfl, rfl⟩) rfl (yl_fa fo88_1 rfl) ?_
            refine WL.val (.inr ⟨_, _, _, rfl, rfl, rfl⟩) rfl (yl_ldk 0 rfl rfl rfl na3) ?_
            refine WL.val (.inr ⟨_, _, _, rfl, rfl, rfl⟩) rfl (yl_move rfl) ?_
            refine WL.val (.inr ⟨_, _, _, rfl, rfl, rfl⟩) rfl (yl_le rfl rfl) ?_
            exact Got.intro 4 rfl rfl rfl
          refine WL.val (.inl rfl) rfl (yl_move rfl) ?_
          apply WL.and 3 rfl rfl rfl rfl (.inl rfl) rfl rfl rfl rfl rfl
          ·
            intro hg2
            refine WL.val (.inr ⟨_, _, _, rfl, rfl, rfl⟩) rfl (yl_fa fo88_2 rfl) ?_
            refine WL.val (.inr ⟨_, _, _, rfl, rfl, rfl⟩) rfl (yl_ldk 0 rfl rfl rfl na3) ?_
            refine WL.val (.inr ⟨_, _, _, rfl, rfl, rfl⟩) rfl (yl_ge rfl rfl) ?_
            exact Got.intro 3 rfl rfl rfl
          refine WL.val (.inl rfl) rfl (yl_move rfl) ?_
          apply WL.and 4 rfl rfl rfl rfl (.inl rfl) rfl rfl rfl rfl rfl
          ·
            intro hg3
            refine WL.val (.inr ⟨_, _, _, rfl, rfl, rfl⟩) rfl (yl_fa fo88_2 rfl) ?_
            refine WL.val (.inr ⟨_, _, _, rfl, rfl, rfl⟩) rfl (yl_ldk 0 rfl rfl rfl na3) ?_
            refine WL.val (.inr ⟨_, _, _, rfl, rfl, rfl⟩) rfl (yl_move rfl) ?_
            refine WL.val (.inr ⟨_, _, _, rfl, rfl, rfl⟩) rfl (yl_le rfl rfl) ?_
            exact Got.intro 4 rfl rfl rfl
          refine WL.val (.inl rfl) rfl (yl_assign rfl) ?_
          refine WL.nil ?_
          refine WE.then_normal ?_
          refine WC.ret ?_
          refine WE.ret1 rfl rfl fun w' hw => ?_
          have hk : x.kind = 4 := by simpa using hc3
          exact ⟨by rw [item_kind (by simp [hk])], hw.fr⟩
        ·
          refine WC.seq ?_
          refine WC.region ?_
          refine WL.val (.inl rfl) rfl (yl_assign rfl) ?_
          refine WL.nil ?_
          refine WE.then_normal ?_
          refine WC.ret ?_
          refine WE.block_ret ?_
          refine WE.then_ret ?_
          refine WE.ret1 rfl rfl fun w' hw => ?_
          simp at hc0 hc1 hc2 hc3
          exact ⟨by rw [item_none hc0 hc1 hc2 hc3], hw.fr⟩

theorem twice_any (H : View) (a : Option Addr) (c : Nat) (l : List (List UInt8)) (w : World) (hH : Le H w) (hm : Sl rdStr 1 H a c l) :
    Calls Try.prog 50 #[.slice a l.length c] w fun e w' => e = .returned (.bool (twiceB l)) ∧ Ext w w' := by
  have hcap := hm.cap
  have hmax := hm.max
  refine enter Try.func50 rfl 25 rfl rfl ?_
  refine WC.world (W' := Ws w [] [] [H]) (fun _ e => by subst e; exact Ws.init (by simp [hH])) ?_
  refine WC.seq ?_
  refine WC.region ?_
  refine WL.val (.inl rfl) rfl (yl_assign rfl) ?_
  refine WL.nil ?_
  refine WE.then_normal ?_
  refine WC.seq ?_
  refine WC.seq ?_
  refine WC.region ?_
  refine WL.val (.inl rfl) rfl (yl_assign rfl) ?_
  refine WL.nil ?_
  refine WE.then_normal ?_
  refine WC.block ?_
  refine WC.loopW (ι := Nat) (fun i => [(3, .int .i64 (i : Int))]) [(0, _)] (fun i => i ≤ l.length ∧ ∀ i2, i2 < i → ∀ j, j < i2 → (l[i2]?.getD [] == l[j]?.getD []) = false) (fun i => l.length - i) 0 ⟨Nat.zero_le _, by simp⟩ (sc rfl (sc rfl sn)) ?_
  intro i ⟨hi, hall⟩
  refine WC.seq ?_
  refine WC.seq ?_
  refine WC.region ?_
  refine WL.val (.inl rfl) rfl (yl_move rfl) ?_
  refine WL.val (.inl rfl) rfl (yl_move rfl) ?_
  refine WL.val (.inl rfl) rfl (yl_len es92 rfl) ?_
  refine WL.val (.inl rfl) rfl (yl_lt rfl rfl) ?_
  refine WL.nil ?_
  refine WE.then_normal ?_
  refine WC.cond rfl (fun hc0 => ?_) (fun hc0 => ?_)
  ·
    have hlt : i < l.length := by simpa using hc0
    obtain ⟨pb, po, ha, hrow⟩ := hm.elt i (l[i]?.getD []) (by rw [List.getElem?_eq_getElem hlt]; rfl)
    have hrow : vc H pb (po + i * 1) = some (st (l[i]?.getD [])) := hrow
    refine WC.skip ?_
    refine WE.then_normal ?_
    refine WC.seq ?_
    refine WC.block ?_
    refine WC.seq ?_
    refine WC.region ?_
    refine WL.val (.inl rfl) rfl (yl_assign rfl) ?_
    refine WL.nil ?_
    refine WE.then_normal ?_
    refine WC.block ?_
    refine WC.loopW (ι := Nat) (fun j => [(4, .int .i64 (j : Int))]) [(0, _), (3, _)] (fun j => j ≤ i ∧ ∀ j2, j2 < j → (l[i]?.getD [] == l[j2]?.getD []) = false) (fun j => i - j) 0 ⟨Nat.zero_le _, by simp⟩ (sc rfl (sc rfl (sc rfl sn))) ?_
    intro j ⟨hj, hin⟩
    refine WC.seq ?_
    refine WC.seq ?_
    refine WC.region ?_
    refine WL.val (.inl rfl) rfl (yl_move rfl) ?_
    refine WL.val (.inl rfl) rfl (yl_move rfl) ?_
    refine WL.val (.inl rfl) rfl (yl_lt rfl rfl) ?_
    refine WL.nil ?_
    refine WE.then_normal ?_
    refine WC.cond rfl (fun hc1 => ?_) (fun hc1 => ?_)
    ·
      have hjt : j < i := by simpa using hc1
      obtain ⟨qb, qo, ha2, hrow2⟩ := hm.elt j (l[j]?.getD []) (by rw [List.getElem?_eq_getElem (by omega)]; rfl)
      have hrow2 : vc H qb (qo + j * 1) = some (st (l[j]?.getD [])) := hrow2
      refine WC.skip ?_
      refine WE.then_normal ?_
      refine WC.seq ?_
      refine WC.block ?_
      refine WC.seq ?_
      refine WC.draws0 [(0, true), (1, true), (2, true), (3, true), (4, true), (5, true), (6, true), (7, true), (8, true)] mixed (by kernel_rfl) (fun _ _ _ d _ h => by cases d <;> exact h) ?_
      refine WD.q rfl (.inl rfl) rfl (fun _ h => h) (yl_move rfl) ?_
      refine WD.q rfl (.inl rfl) rfl (fun _ h => h) (yl_move rfl) ?_
      refine WD.q rfl (.inl rfl) rfl (fun _ h => h) (yl_iao es92 rfl rfl ha (by omega)) ?_
      refine WD.q rfl (.inl rfl) rfl (fun _ h => h) (yl_ld 0 na9 rfl rfl (hrow)) ?_
      refine WD.q rfl (.inl rfl) rfl (fun _ h => h) (yl_move rfl) ?_
      refine WD.q rfl (.inl rfl) rfl (fun _ h => h) (yl_move rfl) ?_
      refine WD.q rfl (.inl rfl) rfl (fun _ h => h) (yl_iao es92 rfl rfl ha2 (by omega)) ?_
      refine WD.q rfl (.inl rfl) rfl (fun _ h => h) (yl_ld 0 na9 rfl rfl (hrow2)) ?_
      refine WD.q rfl (.inl rfl) rfl (fun _ h => h) (yl_eqs rfl rfl) ?_
      refine WD.nil (fun _ h => h) ?_
      refine WE.then_normal ?_
      refine WC.cond rfl (fun hc2 => ?_) (fun hc2 => ?_)
      ·
        refine WC.seq ?_
        refine WC.region ?_
        refine WL.val (.inl rfl) rfl (yl_assign rfl) ?_
        refine WL.nil ?_
        refine WE.then_normal ?_
        refine WC.ret ?_
        refine WE.block_ret ?_
        refine WE.then_ret ?_
        refine WE.then_ret ?_
        refine WE.block_ret ?_
        refine WE.block_ret ?_
        refine WE.then_ret ?_
        refine WE.then_ret ?_
        refine WE.block_ret ?_
        refine WE.then_ret ?_
        refine WE.ret1 rfl rfl fun w' hw => ?_
        exact ⟨by rw [twice_yes hlt hjt hc2], hw.fr⟩
      ·
        refine WC.skip ?_
        refine WE.block_normal ?_
        refine WE.then_normal ?_
        refine WC.region ?_
        refine WL.val (.inl rfl) rfl (yl_move rfl) ?_
        refine WL.val (.inl rfl) rfl (yl_inc rfl rfl rfl (by omega)) ?_
        refine WL.val (.inl rfl) rfl (yl_assign rfl) ?_
        refine WL.nil ?_
        exact WE.again (j + 1) (by omega) ⟨by omega, fun j2 h2 => by rcases Nat.lt_succ_iff_lt_or_eq.1 h2 with h | rfl; exact hin j2 h; exact hc2⟩ (sc rfl (sc rfl (sc rfl sn))) (fun _ h => h)
    ·
      refine WC.exit ?_
      refine WE.then_exit ?_
      refine WE.then_exit ?_
      refine WE.block_hit ?_
      refine WE.block_normal ?_
      refine WE.then_normal ?_
      refine WC.region ?_
      refine WL.val (.inl rfl) rfl (yl_move rfl) ?_
      refine WL.val (.inl rfl) rfl (yl_inc rfl rfl rfl (by omega)) ?_
      refine WL.val (.inl rfl) rfl (yl_assign rfl) ?_
      refine WL.nil ?_
      exact WE.again (i + 1) (by omega) ⟨by omega, fun i2 h2 j2 hj2 => by rcases Nat.lt_succ_iff_lt_or_eq.1 h2 with h | rfl; exact hall i2 h j2 hj2; exact hin j2 (by simp at hc1; omega)⟩ (sc rfl (sc rfl sn)) (fun _ h => h)
  ·
    refine WC.exit ?_
    refine WE.then_exit ?_
    refine WE.then_exit ?_
    refine WE.block_hit ?_
    refine WE.then_normal ?_
    refine WC.seq ?_
    refine WC.region ?_
    refine WL.val (.inl rfl) rfl (yl_assign rfl) ?_
    refine WL.nil ?_
    refine WE.then_normal ?_
    refine WC.ret ?_
    refine WE.ret1 rfl rfl fun w' hw => ?_
    exact ⟨by rw [twice_no fun i2 h2 => hall i2 (by simp at hc0; omega)], hw.fr⟩

end Go.Proofs.Ytagoencpeflmlaa
