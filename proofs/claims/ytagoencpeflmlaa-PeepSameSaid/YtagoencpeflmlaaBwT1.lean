/- Walks of the functions of this claim, and plain laws on what they compute; each theorem tells its own conditions. -/
import Derived.Test.YtagoencpeflmlaaRows
import Derived.Test.YtagoencpeflmlaaBw12
namespace Go.Proofs.Ytagoencpeflmlaa
open Go.Bw
set_option linter.unusedVariables false
set_option linter.unusedSimpArgs false

structure Ins where
  op : Int
  a : Int
  b : Int
deriving DecidableEq
def Ins.cells (x : Ins) : List Value := [.int .i64 x.op, .int .i64 x.a, .int .i64 x.b]
def rdIns (H : View) (b o : Nat) (x : Ins) : Prop := RdC H b o x.cells
def goes (op : Int) : Bool := op == 11 || op == 12 || op == 13
def within (n low high : Int) : Bool := decide (low ≤ n) && decide (n ≤ high)
def insBad (i : Ins) : Bool := decide (i.op < 1) || decide (22 < i.op)
def checkImg (code : List Ins) (data : Int) : Int :=
  if (decide ((code.length : Int) < 1) || decide (2048 < (code.length : Int))) = true then 2
  else if code.any insBad = true then 4
  else if (decide (data < 0) || decide (512 < data)) = true then 3 else 0
theorem any_false {α : Type} {p : α → Bool} {l : List α} (h : ∀ (j : Nat) (x : α), l[j]? = some x → p x = false) : l.any p = false := by
  rw [List.any_eq_false]
  intro x hx
  obtain ⟨j, hj⟩ := List.getElem?_of_mem hx
  simp [h j x hj]
theorem any_true {α : Type} {p : α → Bool} {l : List α} {j : Nat} {x : α} (hj : l[j]? = some x) (h : p x = true) : l.any p = true := List.any_eq_true.2 ⟨x, List.mem_of_getElem? hj, h⟩
theorem fo24_0 : fieldOff Try.prog 24 0 = some 0 := by kernel_rfl
theorem na22 : nonAgg Try.prog 22 = true := by kernel_rfl
theorem es22 : elemSz Try.prog 22 = some 3 := by kernel_rfl
theorem ag65 : aggOf Try.prog 65 = some 3 := by kernel_rfl
theorem zr65 : zeroOf Try.prog 65 = some (.agg #[.int .i64 0, .int .i64 0, .int .i64 0]) := by kernel_rfl
theorem sz65 : sizeP Try.prog 65 = some 3 := by kernel_rfl
theorem fo65_0 : fieldOff Try.prog 65 0 = some 0 := by kernel_rfl
theorem na3 : nonAgg Try.prog 3 = true := by kernel_rfl
theorem fo24_1 : fieldOff Try.prog 24 1 = some 1 := by kernel_rfl

theorem goes_any (op : Int) (w : World) :
    Calls Try.prog 32 #[.int .i64 op] w fun e w' => e = .returned (.bool (goes op)) ∧ Ext w w' := by
  refine enter Try.func32 rfl 13 rfl rfl ?_
  refine WC.world (W' := Ws w [] [] []) (fun _ e => by subst e; exact Ws.init (by simp)) ?_
  refine WC.seq ?_
  refine WC.region ?_
  refine WL.val (.inl rfl) rfl (yl_assign rfl) ?_
  refine WL.nil ?_
  refine WE.then_normal ?_
  refine WC.seq ?_
  refine WC.region ?_
  refine WL.val (.inl rfl) rfl (yl_move rfl) ?_
  refine WL.val (.inl rfl) rfl (yl_eq rfl rfl) ?_
  refine WL.val (.inl rfl) rfl (yl_move rfl) ?_
  apply WL.or 2 rfl rfl rfl rfl (.inl rfl) rfl rfl rfl rfl rfl
  ·
    intro hg0
    refine WL.val (.inr ⟨_, _, _, rfl, rfl, rfl⟩) rfl (yl_move rfl) ?_
    refine WL.val (.inr ⟨_, _, _, rfl, rfl, rfl⟩) rfl (yl_eq rfl rfl) ?_
    exact Got.intro 2 rfl rfl rfl
  refine WL.val (.inl rfl) rfl (yl_move rfl) ?_
  apply WL.or 2 rfl rfl rfl rfl (.inl rfl) rfl rfl rfl rfl rfl
  ·
    intro hg1
    refine WL.val (.inr ⟨_, _, _, rfl, rfl, rfl⟩) rfl (yl_move rfl) ?_
    refine WL.val (.inr ⟨_, _, _, rfl, rfl, rfl⟩) rfl (yl_eq rfl rfl) ?_
    exact Got.intro 2 rfl rfl rfl
  refine WL.val (.inl rfl) rfl (yl_assign rfl) ?_
  refine WL.nil ?_
  refine WE.then_normal ?_
  refine WC.ret ?_
  refine WE.ret1 rfl rfl fun w' hw => ?_
  exact ⟨rfl, hw.fr⟩

theorem within_any (n low high : Int) (w : World) :
    Calls Try.prog 36 #[.int .i64 n, .int .i64 low, .int .i64 high] w fun e w' => e = .returned (.bool (within n low high)) ∧ Ext w w' := by
  refine enter Try.func36 rfl 15 rfl rfl ?_
  refine WC.world (W' := Ws w [] [] []) (fun _ e => by subst e; exact Ws.init (by simp)) ?_
  refine WC.seq ?_
  refine WC.region ?_
  refine WL.val (.inl rfl) rfl (yl_assign rfl) ?_
  refine WL.nil ?_
  refine WE.then_normal ?_
  refine WC.seq ?_
  refine WC.region ?_
  refine WL.val (.inl rfl) rfl (yl_move rfl) ?_
  refine WL.val (.inl rfl) rfl (yl_move rfl) ?_
  refine WL.val (.inl rfl) rfl (yl_ge rfl rfl) ?_
  refine WL.val (.inl rfl) rfl (yl_move rfl) ?_
  apply WL.and 3 rfl rfl rfl rfl (.inl rfl) rfl rfl rfl rfl rfl
  ·
    intro hg0
    refine WL.val (.inr ⟨_, _, _, rfl, rfl, rfl⟩) rfl (yl_move rfl) ?_
    refine WL.val (.inr ⟨_, _, _, rfl, rfl, rfl⟩) rfl (yl_move rfl) ?_
    refine WL.val (.inr ⟨_, _, _, rfl, rfl, rfl⟩) rfl (yl_le rfl rfl) ?_
    exact Got.intro 3 rfl rfl rfl
  refine WL.val (.inl rfl) rfl (yl_assign rfl) ?_
  refine WL.nil ?_
  refine WE.then_normal ?_
  refine WC.ret ?_
  refine WE.ret1 rfl rfl fun w' hw => ?_
  exact ⟨rfl, hw.fr⟩

theorem check_any (H : View) (a : Option Addr) (c : Nat) (code : List Ins) (data : Int) (w : World) (hH : Le H w) (hm : Sl rdIns 3 H a c code) :
    Calls Try.prog 28 #[.agg #[.slice a code.length c, .int .i64 data]] w fun e w' => e = .returned (.int .i64 (checkImg code data)) ∧ Ext w w' := by
  have hcap := hm.cap
  have hmax := hm.max
  refine enter Try.func28 rfl 39 rfl rfl ?_
  refine WC.world (W' := Ws w [] [] [H]) (fun _ e => by subst e; exact Ws.init (by simp [hH])) ?_
  refine WC.seq ?_
  refine WC.region ?_
  refine WL.box (.inl rfl) rfl rfl fun b1 => ?_
  refine WL.val (.inl rfl) rfl (yl_assign rfl) ?_
  refine WL.nil ?_
  refine WE.then_normal ?_
  refine WC.seq ?_
  refine WC.seq ?_
  refine WC.region ?_
  refine WL.val (.inl rfl) rfl (yl_fa fo24_0 rfl) ?_
  refine WL.val (.inl rfl) rfl (yl_ldk 0 rfl rfl rfl na22) ?_
  refine WL.val (.inl rfl) rfl (yl_len es22 rfl) ?_
  refine WL.val (.inl rfl) rfl (yl_lt rfl rfl) ?_
  refine WL.val (.inl rfl) rfl (yl_move rfl) ?_
  apply WL.or 4 rfl rfl rfl rfl (.inl rfl) rfl rfl rfl rfl rfl
  ·
    intro hg0
    refine WL.val (.inr ⟨_, _, _, rfl, rfl, rfl⟩) rfl (yl_fa fo24_0 rfl) ?_
    refine WL.val (.inr ⟨_, _, _, rfl, rfl, rfl⟩) rfl (yl_ldk 0 rfl rfl rfl na22) ?_
    refine WL.val (.inr ⟨_, _, _, rfl, rfl, rfl⟩) rfl (yl_len es22 rfl) ?_
    refine WL.val (.inr ⟨_, _, _, rfl, rfl, rfl⟩) rfl (yl_gt rfl rfl) ?_
    exact Got.intro 4 rfl rfl rfl
  refine WL.nil ?_
  refine WE.then_normal ?_
  refine WC.cond rfl (fun hc0 => ?_) (fun hc0 => ?_)
  ·
    refine WC.seq ?_
    refine WC.region ?_
    refine WL.val (.inl rfl) rfl (yl_assign rfl) ?_
    refine WL.nil ?_
    refine WE.then_normal ?_
    refine WC.ret ?_
    refine WE.then_ret ?_
    refine WE.ret1 rfl rfl fun w' hw => ?_
    exact ⟨by rw [checkImg, if_pos hc0], hw.fr⟩
  ·
    refine WC.skip ?_
    refine WE.then_normal ?_
    refine WC.seq ?_
    refine WC.seq ?_
    refine WC.region ?_
    refine WL.val (.inl rfl) rfl (yl_fa fo24_0 rfl) ?_
    refine WL.val (.inl rfl) rfl (yl_ldk 0 rfl rfl rfl na22) ?_
    refine WL.val (.inl rfl) rfl (yl_len es22 rfl) ?_
    refine WL.val (.inl rfl) rfl (yl_move rfl) ?_
    refine WL.nil ?_
    refine WE.then_normal ?_
    refine WC.block ?_
    refine WC.loopW (ι := Nat) (fun i => [(18, .int .i64 (i : Int))]) [(1, _), (16, _), (17, _)] (fun i => i ≤ code.length ∧ ∀ j x, j < i → code[j]? = some x → insBad x = false) (fun i => code.length - i) 0 ⟨Nat.zero_le _, by simp⟩ (sc rfl (sc rfl (sc rfl (sc rfl sn)))) ?_
    intro i ⟨hi, hall⟩
    refine WC.seq ?_
    refine WC.region ?_
    refine WL.val (.inl rfl) rfl (yl_lt rfl rfl) ?_
    refine WL.nil ?_
    refine WE.then_normal ?_
    refine WC.seq ?_
    refine WC.cond rfl (fun hc1 => ?_) (fun hc1 => ?_)
    ·
      have hlt : i < code.length := by simpa using hc1
      obtain ⟨x, hxi⟩ : ∃ x, code[i]? = some x := ⟨_, List.getElem?_eq_getElem hlt⟩
      obtain ⟨pb, po, ha, hrow⟩ := hm.elt i x hxi
      have hrow : RdC H pb (po + i * 3) x.cells := hrow
      refine WC.skip ?_
      refine WE.then_normal ?_
      refine WC.seq ?_
      refine WC.block ?_
      refine WC.seq ?_
      refine WC.region ?_
      refine WL.val (.inl rfl) rfl (yl_iao es22 rfl rfl (by assumption) (by omega)) ?_
      refine WL.val (.inl rfl) rfl (yl_lda 0 ag65 rfl rfl rfl (hrow)) ?_
      refine WL.alloc (.inl rfl) rfl zr65 fun b4 => ?_
      refine WL.store 0 (.inl rfl) rfl rfl rfl sz65 rfl rfl rfl ?_
      refine WL.nil ?_
      refine WE.then_normal ?_
      refine WC.seq ?_
      refine WC.region ?_
      refine WL.val (.inl rfl) rfl (yl_fa fo65_0 rfl) ?_
      refine WL.val (.inl rfl) rfl (yl_ldk 0 rfl rfl rfl na3) ?_
      refine WL.val (.inl rfl) rfl (yl_lt rfl rfl) ?_
      refine WL.val (.inl rfl) rfl (yl_move rfl) ?_
      apply WL.or 3 rfl rfl rfl rfl (.inl rfl) rfl rfl rfl rfl rfl
      ·
        intro hg1
        refine WL.val (.inr ⟨_, _, _, rfl, rfl, rfl⟩) rfl (yl_fa fo65_0 rfl) ?_
        refine WL.val (.inr ⟨_, _, _, rfl, rfl, rfl⟩) rfl (yl_ldk 0 rfl rfl rfl na3) ?_
        refine WL.val (.inr ⟨_, _, _, rfl, rfl, rfl⟩) rfl (yl_gt rfl rfl) ?_
        exact Got.intro 3 rfl rfl rfl
      refine WL.nil ?_
      refine WE.then_normal ?_
      refine WC.cond rfl (fun hc2 => ?_) (fun hc2 => ?_)
      ·
        refine WC.seq ?_
        refine WC.region ?_
        refine WL.val (.inl rfl) rfl (yl_assign rfl) ?_
        refine WL.nil ?_
        refine WE.then_normal ?_
        refine WC.ret ?_
        refine WE.block_ret ?_
        refine WE.then_ret ?_
        refine WE.then_ret ?_
        refine WE.block_ret ?_
        refine WE.then_ret ?_
        refine WE.ret1 rfl rfl fun w' hw => ?_
        exact ⟨by rw [checkImg, if_neg (by simp [hc0]), if_pos (any_true hxi hc2)], hw.fr⟩
      ·
        refine WC.skip ?_
        refine WE.block_normal ?_
        refine WE.then_normal ?_
        refine WC.region ?_
        refine WL.val (.inl rfl) rfl (yl_inc rfl rfl rfl (by omega)) ?_
        refine WL.val (.inl rfl) rfl (yl_move rfl) ?_
        refine WL.nil ?_
        exact WE.again (i + 1) (by omega) ⟨by omega, fun j x hj hx => by rcases Nat.lt_succ_iff_lt_or_eq.1 hj with h | rfl; exact hall j x h hx; rw [hxi] at hx; injection hx with hx; subst hx; exact hc2⟩ (sc rfl (sc rfl (sc rfl (sc rfl sn)))) (fun _ h => Ws.drop (L := [_]) h)
    ·
      have hge : ¬ i < code.length := by simpa using hc1
      have hany : code.any insBad = false := any_false fun j x hj => hall j x (by have := (List.getElem?_eq_some_iff.1 hj).1; omega) hj
      refine WC.exit ?_
      refine WE.then_exit ?_
      refine WE.then_exit ?_
      refine WE.block_hit ?_
      refine WE.then_normal ?_
      refine WC.seq ?_
      refine WC.seq ?_
      refine WC.region ?_
      refine WL.val (.inl rfl) rfl (yl_fa fo24_1 rfl) ?_
      refine WL.val (.inl rfl) rfl (yl_ldk 0 rfl rfl rfl na3) ?_
      refine WL.val (.inl rfl) rfl (yl_lt rfl rfl) ?_
      refine WL.val (.inl rfl) rfl (yl_move rfl) ?_
      apply WL.or 3 rfl rfl rfl rfl (.inl rfl) rfl rfl rfl rfl rfl
      ·
        intro hg2
        refine WL.val (.inr ⟨_, _, _, rfl, rfl, rfl⟩) rfl (yl_fa fo24_1 rfl) ?_
        refine WL.val (.inr ⟨_, _, _, rfl, rfl, rfl⟩) rfl (yl_ldk 0 rfl rfl rfl na3) ?_
        refine WL.val (.inr ⟨_, _, _, rfl, rfl, rfl⟩) rfl (yl_gt rfl rfl) ?_
        exact Got.intro 3 rfl rfl rfl
      refine WL.nil ?_
      refine WE.then_normal ?_
      refine WC.cond rfl (fun hc3 => ?_) (fun hc3 => ?_)
      ·
        refine WC.seq ?_
        refine WC.region ?_
        refine WL.val (.inl rfl) rfl (yl_assign rfl) ?_
        refine WL.nil ?_
        refine WE.then_normal ?_
        refine WC.ret ?_
        refine WE.then_ret ?_
        refine WE.ret1 rfl rfl fun w' hw => ?_
        exact ⟨by rw [checkImg, if_neg (by simp [hc0]), if_neg (by simp [hany]), if_pos hc3], hw.fr⟩
      ·
        refine WC.skip ?_
        refine WE.then_normal ?_
        refine WC.seq ?_
        refine WC.region ?_
        refine WL.val (.inl rfl) rfl (yl_assign rfl) ?_
        refine WL.nil ?_
        refine WE.then_normal ?_
        refine WC.ret ?_
        refine WE.ret1 rfl rfl fun w' hw => ?_
        exact ⟨by rw [checkImg, if_neg (by simp [hc0]), if_neg (by simp [hany]), if_neg (by simp [hc3])], hw.fr⟩

end Go.Proofs.Ytagoencpeflmlaa
