/- Walks of the functions of this claim, and plain laws on what they compute; each theorem tells its own conditions. -/
import Derived.Test.YtagoencpeflmlaaBwT3
namespace Go.Proofs.Ytagoencpeflmlaa
open Go.Bw
set_option linter.unusedVariables false
set_option linter.unusedSimpArgs false

def bitI (b : Bool) : Int := if b = true then 1 else 0
def mmath (op a b : Int) : Int × Bool :=
  if (op == 9) = true then (IntKind.i64.wrap (a + b), true) else if (op == 10) = true then (IntKind.i64.wrap (a - b), true) else if (op == 11) = true then (IntKind.i64.wrap (a * b), true)
  else if (op == 14) = true then (bitI (a == b), true) else if (op == 15) = true then (bitI (decide (a < b)), true) else (0, false)
def rmath (op a b : Int) : Int × Bool :=
  if (op == 9) = true then (IntKind.i64.wrap (a + b), true) else if (op == 10) = true then (IntKind.i64.wrap (a - b), true) else if (op == 11) = true then (IntKind.i64.wrap (a * b), true)
  else if (op == 12) = true then (if (b == 0) = true then (0, false) else (IntKind.i64.wrap (a.tdiv b), true)) else if (op == 13) = true then (if (b == 0) = true then (0, false) else (a.tmod b, true))
  else if (op == 14) = true then (bitI (a == b), true) else (bitI (decide (a < b)), true)
def foldsB (op : Int) : Bool := op == 9 || op == 10 || op == 11 || op == 14 || op == 15
theorem Ins.cells_len (x : Ins) : x.cells.length = 3 := rfl
theorem en87 : Enters Try.prog 87 := enters_of Try.func87 (by kernel_rfl) rfl
theorem en41 : Enters Try.prog 41 := enters_of Try.func41 (by kernel_rfl) rfl
theorem mixed : Try.prog.follows .mixedOrders = true := by kernel_rfl
theorem fl65 : flatSt Try.prog 65 = some [0, 0, 0] := by kernel_rfl
theorem en43 : Enters Try.prog 43 := enters_of Try.func43 (by kernel_rfl) rfl
theorem el22 : EltOk Try.prog 22 65 (.agg #[.int .i64 0, .int .i64 0, .int .i64 0]) 3 24 := eltOk_of (by kernel_rfl)

theorem mbit_any (b : Bool) (w : World) :
    Calls Try.prog 87 #[.bool b] w fun e w' => e = .returned (.int .i64 (bitI b)) ∧ Ext w w' := by
  refine enter Try.func87 rfl 4 rfl rfl ?_
  refine WC.world (W' := Ws w [] [] []) (fun _ e => by subst e; exact Ws.init (by simp)) ?_
  refine WC.seq ?_
  refine WC.region ?_
  refine WL.val (.inl rfl) rfl (yl_assign rfl) ?_
  refine WL.nil ?_
  refine WE.then_normal ?_
  refine WC.seq ?_
  refine WC.seq ?_
  refine WC.region ?_
  refine WL.val (.inl rfl) rfl (yl_move rfl) ?_
  refine WL.nil ?_
  refine WE.then_normal ?_
  refine WC.cond rfl (fun hc0 => ?_) (fun hc0 => ?_)
  ·
    refine WC.seq ?_
    refine WC.region ?_
    refine WL.val (.inl rfl) rfl (yl_assign rfl) ?_
    refine WL.nil ?_
    refine WE.then_normal ?_
    refine WC.ret ?_
    refine WE.then_ret ?_
    refine WE.ret1 rfl rfl fun w' hw => ?_
    exact ⟨by simp [bitI, *], hw.fr⟩
  ·
    refine WC.skip ?_
    refine WE.then_normal ?_
    refine WC.seq ?_
    refine WC.region ?_
    refine WL.val (.inl rfl) rfl (yl_assign rfl) ?_
    refine WL.nil ?_
    refine WE.then_normal ?_
    refine WC.ret ?_
    refine WE.ret1 rfl rfl fun w' hw => ?_
    exact ⟨by simp [bitI, *], hw.fr⟩

theorem pbit_any (b : Bool) (w : World) :
    Calls Try.prog 73 #[.bool b] w fun e w' => e = .returned (.int .i64 (bitI b)) ∧ Ext w w' := by
  refine enter Try.func73 rfl 4 rfl rfl ?_
  refine WC.world (W' := Ws w [] [] []) (fun _ e => by subst e; exact Ws.init (by simp)) ?_
  refine WC.seq ?_
  refine WC.region ?_
  refine WL.val (.inl rfl) rfl (yl_assign rfl) ?_
  refine WL.nil ?_
  refine WE.then_normal ?_
  refine WC.seq ?_
  refine WC.seq ?_
  refine WC.region ?_
  refine WL.val (.inl rfl) rfl (yl_move rfl) ?_
  refine WL.nil ?_
  refine WE.then_normal ?_
  refine WC.cond rfl (fun hc0 => ?_) (fun hc0 => ?_)
  ·
    refine WC.seq ?_
    refine WC.region ?_
    refine WL.val (.inl rfl) rfl (yl_assign rfl) ?_
    refine WL.nil ?_
    refine WE.then_normal ?_
    refine WC.ret ?_
    refine WE.then_ret ?_
    refine WE.ret1 rfl rfl fun w' hw => ?_
    exact ⟨by simp [bitI, *], hw.fr⟩
  ·
    refine WC.skip ?_
    refine WE.then_normal ?_
    refine WC.seq ?_
    refine WC.region ?_
    refine WL.val (.inl rfl) rfl (yl_assign rfl) ?_
    refine WL.nil ?_
    refine WE.then_normal ?_
    refine WC.ret ?_
    refine WE.ret1 rfl rfl fun w' hw => ?_
    exact ⟨by simp [bitI, *], hw.fr⟩

theorem truth_any (b : Bool) (w : World) :
    Calls Try.prog 41 #[.bool b] w fun e w' => e = .returned (.int .i64 (bitI b)) ∧ Ext w w' := by
  refine enter Try.func41 rfl 4 rfl rfl ?_
  refine WC.world (W' := Ws w [] [] []) (fun _ e => by subst e; exact Ws.init (by simp)) ?_
  refine WC.seq ?_
  refine WC.region ?_
  refine WL.val (.inl rfl) rfl (yl_assign rfl) ?_
  refine WL.nil ?_
  refine WE.then_normal ?_
  refine WC.seq ?_
  refine WC.seq ?_
  refine WC.region ?_
  refine WL.val (.inl rfl) rfl (yl_move rfl) ?_
  refine WL.nil ?_
  refine WE.then_normal ?_
  refine WC.cond rfl (fun hc0 => ?_) (fun hc0 => ?_)
  ·
    refine WC.seq ?_
    refine WC.region ?_
    refine WL.val (.inl rfl) rfl (yl_assign rfl) ?_
    refine WL.nil ?_
    refine WE.then_normal ?_
    refine WC.ret ?_
    refine WE.then_ret ?_
    refine WE.ret1 rfl rfl fun w' hw => ?_
    exact ⟨by simp [bitI, *], hw.fr⟩
  ·
    refine WC.skip ?_
    refine WE.then_normal ?_
    refine WC.seq ?_
    refine WC.region ?_
    refine WL.val (.inl rfl) rfl (yl_assign rfl) ?_
    refine WL.nil ?_
    refine WE.then_normal ?_
    refine WC.ret ?_
    refine WE.ret1 rfl rfl fun w' hw => ?_
    exact ⟨by simp [bitI, *], hw.fr⟩

theorem folds_any (op : Int) (w : World) :
    Calls Try.prog 39 #[.int .i64 op] w fun e w' => e = .returned (.bool (foldsB op)) ∧ Ext w w' := by
  refine enter Try.func39 rfl 21 rfl rfl ?_
  refine WC.world (W' := Ws w [] [] []) (fun _ e => by subst e; exact Ws.init (by simp)) ?_
  refine WC.seq ?_
  refine WC.region ?_
  refine WL.val (.inl rfl) rfl (yl_assign rfl) ?_
  refine WL.nil ?_
  refine WE.then_normal ?_
  refine WC.seq ?_
  refine WC.region ?_
  refine WL.val (.inl rfl) rfl (yl_move rfl) ?_
  refine WL.val (.inl rfl) rfl (yl_eq rfl rfl) ?_
  refine WL.val (.inl rfl) rfl (yl_move rfl) ?_
  apply WL.or 2 rfl rfl rfl rfl (.inl rfl) rfl rfl rfl rfl rfl
  ·
    intro hg0
    refine WL.val (.inr ⟨_, _, _, rfl, rfl, rfl⟩) rfl (yl_move rfl) ?_
    refine WL.val (.inr ⟨_, _, _, rfl, rfl, rfl⟩) rfl (yl_eq rfl rfl) ?_
    exact Got.intro 2 rfl rfl rfl
  refine WL.val (.inl rfl) rfl (yl_move rfl) ?_
  apply WL.or 2 rfl rfl rfl rfl (.inl rfl) rfl rfl rfl rfl rfl
  ·
    intro hg1
    refine WL.val (.inr ⟨_, _, _, rfl, rfl, rfl⟩) rfl (yl_move rfl) ?_
    refine WL.val (.inr ⟨_, _, _, rfl, rfl, rfl⟩) rfl (yl_eq rfl rfl) ?_
    exact Got.intro 2 rfl rfl rfl
  refine WL.val (.inl rfl) rfl (yl_move rfl) ?_
  apply WL.or 2 rfl rfl rfl rfl (.inl rfl) rfl rfl rfl rfl rfl
  ·
    intro hg2
    refine WL.val (.inr ⟨_, _, _, rfl, rfl, rfl⟩) rfl (yl_move rfl) ?_
    refine WL.val (.inr ⟨_, _, _, rfl, rfl, rfl⟩) rfl (yl_eq rfl rfl) ?_
    exact Got.intro 2 rfl rfl rfl
  refine WL.val (.inl rfl) rfl (yl_move rfl) ?_
  apply WL.or 2 rfl rfl rfl rfl (.inl rfl) rfl rfl rfl rfl rfl
  ·
    intro hg3
    refine WL.val (.inr ⟨_, _, _, rfl, rfl, rfl⟩) rfl (yl_move rfl) ?_
    refine WL.val (.inr ⟨_, _, _, rfl, rfl, rfl⟩) rfl (yl_eq rfl rfl) ?_
    exact Got.intro 2 rfl rfl rfl
  refine WL.val (.inl rfl) rfl (yl_assign rfl) ?_
  refine WL.nil ?_
  refine WE.then_normal ?_
  refine WC.ret ?_
  refine WE.ret1 rfl rfl fun w' hw => ?_
  exact ⟨rfl, hw.fr⟩

theorem mmath_any (op a b : Int) (w : World) :
    Calls Try.prog 71 #[.int .i64 op, .int .i64 a, .int .i64 b] w fun e w' => e = .returned (.tuple #[.int .i64 (mmath op a b).1, .bool (mmath op a b).2]) ∧ Ext w w' := by
  refine enter Try.func71 rfl 36 rfl rfl ?_
  refine WC.world (W' := Ws w [] [] []) (fun _ e => by subst e; exact Ws.init (by simp)) ?_
  refine WC.seq ?_
  refine WC.region ?_
  refine WL.val (.inl rfl) rfl (yl_assign rfl) ?_
  refine WL.val (.inl rfl) rfl (yl_assign rfl) ?_
  refine WL.nil ?_
  refine WE.then_normal ?_
  refine WC.seq ?_
  refine WC.seq ?_
  refine WC.region ?_
  refine WL.val (.inl rfl) rfl (yl_move rfl) ?_
  refine WL.nil ?_
  refine WE.then_normal ?_
  refine WC.block ?_
  refine WC.seq ?_
  refine WC.region ?_
  refine WL.val (.inl rfl) rfl (yl_eq rfl rfl) ?_
  refine WL.val (.inl rfl) rfl (yl_assign rfl) ?_
  refine WL.nil ?_
  refine WE.then_normal ?_
  refine WC.cond rfl (fun hc0 => ?_) (fun hc0 => ?_)
  ·
    refine WC.seq ?_
    refine WC.region ?_
    refine WL.val (.inl rfl) rfl (yl_move rfl) ?_
    refine WL.val (.inl rfl) rfl (yl_move rfl) ?_
    refine WL.val (.inl rfl) rfl (yl_addw rfl rfl) ?_
    refine WL.val (.inl rfl) rfl (yl_assign rfl) ?_
    refine WL.val (.inl rfl) rfl (yl_assign rfl) ?_
    refine WL.nil ?_
    refine WE.then_normal ?_
    refine WC.ret ?_
    refine WE.block_ret ?_
    refine WE.then_ret ?_
    refine WE.ret2 rfl rfl rfl fun w' hw => ?_
    exact ⟨by simp [mmath, *], hw.fr⟩
  ·
    refine WC.seq ?_
    refine WC.region ?_
    refine WL.val (.inl rfl) rfl (yl_eq rfl rfl) ?_
    refine WL.val (.inl rfl) rfl (yl_assign rfl) ?_
    refine WL.nil ?_
    refine WE.then_normal ?_
    refine WC.cond rfl (fun hc1 => ?_) (fun hc1 => ?_)
    ·
      refine WC.seq ?_
      refine WC.region ?_
      refine WL.val (.inl rfl) rfl (yl_move rfl) ?_
      refine WL.val (.inl rfl) rfl (yl_move rfl) ?_
      refine WL.val (.inl rfl) rfl (yl_subw rfl rfl) ?_
      refine WL.val (.inl rfl) rfl (yl_assign rfl) ?_
      refine WL.val (.inl rfl) rfl (yl_assign rfl) ?_
      refine WL.nil ?_
      refine WE.then_normal ?_
      refine WC.ret ?_
      refine WE.block_ret ?_
      refine WE.then_ret ?_
      refine WE.ret2 rfl rfl rfl fun w' hw => ?_
      exact ⟨by simp [mmath, *], hw.fr⟩
    ·
      refine WC.seq ?_
      refine WC.region ?_
      refine WL.val (.inl rfl) rfl (yl_eq rfl rfl) ?_
      refine WL.val (.inl rfl) rfl (yl_assign rfl) ?_
      refine WL.nil ?_
      refine WE.then_normal ?_
      refine WC.cond rfl (fun hc2 => ?_) (fun hc2 => ?_)
      ·
        refine WC.seq ?_
        refine WC.region ?_
        refine WL.val (.inl rfl) rfl (yl_move rfl) ?_
        refine WL.val (.inl rfl) rfl (yl_move rfl) ?_
        refine WL.val (.inl rfl) rfl (yl_mulw rfl rfl) ?_
        refine WL.val (.inl rfl) rfl (yl_assign rfl) ?_
        refine WL.val (.inl rfl) rfl (yl_assign rfl) ?_
        refine WL.nil ?_
        refine WE.then_normal ?_
        refine WC.ret ?_
        refine WE.block_ret ?_
        refine WE.then_ret ?_
        refine WE.ret2 rfl rfl rfl fun w' hw => ?_
        exact ⟨by simp [mmath, *], hw.fr⟩
      ·
        refine WC.seq ?_
        refine WC.region ?_
        refine WL.val (.inl rfl) rfl (yl_eq rfl rfl) ?_
        refine WL.val (.inl rfl) rfl (yl_assign rfl) ?_
        refine WL.nil ?_
        refine WE.then_normal ?_
        refine WC.cond rfl (fun hc3 => ?_) (fun hc3 => ?_)
        ·
          refine WC.seq ?_
          refine WC.region ?_
          refine WL.val (.inl rfl) rfl (yl_move rfl) ?_
          refine WL.val (.inl rfl) rfl (yl_move rfl) ?_
          refine WL.val (.inl rfl) rfl (yl_eq rfl rfl) ?_
          refine WL.callp (.inl rfl) rfl en87 rfl (fun w hw => mbit_any _ w) ?_
          refine WL.val (.inl rfl) rfl (yl_assign rfl) ?_
          refine WL.val (.inl rfl) rfl (yl_assign rfl) ?_
          refine WL.nil ?_
          refine WE.then_normal ?_
          refine WC.ret ?_
          refine WE.block_ret ?_
          refine WE.then_ret ?_
          refine WE.ret2 rfl rfl rfl fun w' hw => ?_
          exact ⟨by simp [mmath, *], hw.fr⟩
        ·
          refine WC.seq ?_
          refine WC.region ?_
          refine WL.val (.inl rfl) rfl (yl_eq rfl rfl) ?_
          refine WL.val (.inl rfl) rfl (yl_assign rfl) ?_
          refine WL.nil ?_
          refine WE.then_normal ?_
          refine WC.cond rfl (fun hc4 => ?_) (fun hc4 => ?_)
          ·
            refine WC.seq ?_
            refine WC.region ?_
            refine WL.val (.inl rfl) rfl (yl_move rfl) ?_
            refine WL.val (.inl rfl) rfl (yl_move rfl) ?_
            refine WL.val (.inl rfl) rfl (yl_lt rfl rfl) ?_
            refine WL.callp (.inl rfl) rfl en87 rfl (fun w hw => mbit_any _ w) ?_
            refine WL.val (.inl rfl) rfl (yl_assign rfl) ?_
            refine WL.val (.inl rfl) rfl (yl_assign rfl) ?_
            refine WL.nil ?_
            refine WE.then_normal ?_
            refine WC.ret ?_
            refine WE.block_ret ?_
            refine WE.then_ret ?_
            refine WE.ret2 rfl rfl rfl fun w' hw => ?_
            exact ⟨by simp [mmath, *], hw.fr⟩
          ·
            refine WC.skip ?_
            refine WE.block_normal ?_
            refine WE.then_normal ?_
            refine WC.seq ?_
            refine WC.region ?_
            refine WL.val (.inl rfl) rfl (yl_assign rfl) ?_
            refine WL.val (.inl rfl) rfl (yl_assign rfl) ?_
            refine WL.nil ?_
            refine WE.then_normal ?_
            refine WC.ret ?_
            refine WE.ret2 rfl rfl rfl fun w' hw => ?_
            exact ⟨by simp [mmath, *], hw.fr⟩

theorem rmath_any (op a b : Int) (w : World) :
    Calls Try.prog 40 #[.int .i64 op, .int .i64 a, .int .i64 b] w fun e w' => e = .returned (.tuple #[.int .i64 (rmath op a b).1, .bool (rmath op a b).2]) ∧ Ext w w' := by
  refine enter Try.func40 rfl 48 rfl rfl ?_
  refine WC.world (W' := Ws w [] [] []) (fun _ e => by subst e; exact Ws.init (by simp)) ?_
  refine WC.seq ?_
  refine WC.region ?_
  refine WL.val (.inl rfl) rfl (yl_assign rfl) ?_
  refine WL.val (.inl rfl) rfl (yl_assign rfl) ?_
  refine WL.nil ?_
  refine WE.then_normal ?_
  refine WC.seq ?_
  refine WC.seq ?_
  refine WC.region ?_
  refine WL.val (.inl rfl) rfl (yl_move rfl) ?_
  refine WL.nil ?_
  refine WE.then_normal ?_
  refine WC.block ?_
  refine WC.seq ?_
  refine WC.region ?_
  refine WL.val (.inl rfl) rfl (yl_eq rfl rfl) ?_
  refine WL.val (.inl rfl) rfl (yl_assign rfl) ?_
  refine WL.nil ?_
  refine WE.then_normal ?_
  refine WC.cond rfl (fun hc0 => ?_) (fun hc0 => ?_)
  ·
    refine WC.seq ?_
    refine WC.region ?_
    refine WL.val (.inl rfl) rfl (yl_move rfl) ?_
    refine WL.val (.inl rfl) rfl (yl_move rfl) ?_
    refine WL.val (.inl rfl) rfl (yl_addw rfl rfl) ?_
    refine WL.val (.inl rfl) rfl (yl_assign rfl) ?_
    refine WL.val (.inl rfl) rfl (yl_assign rfl) ?_
    refine WL.nil ?_
    refine WE.then_normal ?_
    refine WC.ret ?_
    refine WE.block_ret ?_
    refine WE.then_ret ?_
    refine WE.ret2 rfl rfl rfl fun w' hw => ?_
    exact ⟨by simp_all [rmath], hw.fr⟩
  ·
    refine WC.seq ?_
    refine WC.region ?_
    refine WL.val (.inl rfl) rfl (yl_eq rfl rfl) ?_
    refine WL.val (.inl rfl) rfl (yl_assign rfl) ?_
    refine WL.nil ?_
    refine WE.then_normal ?_
    refine WC.cond rfl (fun hc1 => ?_) (fun hc1 => ?_)
    ·
      refine WC.seq ?_
      refine WC.region ?_
      refine WL.val (.inl rfl) rfl (yl_move rfl) ?_
      refine WL.val (.inl rfl) rfl (yl_move rfl) ?_
      refine WL.val (.inl rfl) rfl (yl_subw rfl rfl) ?_
      refine WL.val (.inl rfl) rfl (yl_assign rfl) ?_
      refine WL.val (.inl rfl) rfl (yl_assign rfl) ?_
      refine WL.nil ?_
      refine WE.then_normal ?_
      refine WC.ret ?_
      refine WE.block_ret ?_
      refine WE.then_ret ?_
      refine WE.ret2 rfl rfl rfl fun w' hw => ?_
      exact ⟨by simp_all [rmath], hw.fr⟩
    ·
      refine WC.seq ?_
      refine WC.region ?_
      refine WL.val (.inl rfl) rfl (yl_eq rfl rfl) ?_
      refine WL.val (.inl rfl) rfl (yl_assign rfl) ?_
      refine WL.nil ?_
      refine WE.then_normal ?_
      refine WC.cond rfl (fun hc2 => ?_) (fun hc2 => ?_)
      ·
        refine WC.seq ?_
        refine WC.region ?_
        refine WL.val (.inl rfl) rfl (yl_move rfl) ?_
        refine WL.val (.inl rfl) rfl (yl_move rfl) ?_
        refine WL.val (.inl rfl) rfl (yl_mulw rfl rfl) ?_
        refine WL.val (.inl rfl) rfl (yl_assign rfl) ?_
        refine WL.val (.inl rfl) rfl (yl_assign rfl) ?_
        refine WL.nil ?_
        refine WE.then_normal ?_
        refine WC.ret ?_
        refine WE.block_ret ?_
        refine WE.then_ret ?_
        refine WE.ret2 rfl rfl rfl fun w' hw => ?_
        exact ⟨by simp_all [rmath], hw.fr⟩
      ·
        refine WC.seq ?_
        refine WC.region ?_
        refine WL.val (.inl rfl) rfl (yl_eq rfl rfl) ?_
        refine WL.val (.inl rfl) rfl (yl_assign rfl) ?_
        refine WL.nil ?_
        refine WE.then_normal ?_
        refine WC.cond rfl (fun hc3 => ?_) (fun hc3 => ?_)
        ·
          refine WC.seq ?_
          refine WC.seq ?_
          refine WC.region ?_
          refine WL.val (.inl rfl) rfl (yl_move rfl) ?_
          refine WL.val (.inl rfl) rfl (yl_eq rfl rfl) ?_
          refine WL.nil ?_
          refine WE.then_normal ?_
          refine WC.cond rfl (fun hc4 => ?_) (fun hc4 => ?_)
          ·
            refine WC.seq ?_
            refine WC.region ?_
            refine WL.val (.inl rfl) rfl (yl_assign rfl) ?_
            refine WL.val (.inl rfl) rfl (yl_assign rfl) ?_
            refine WL.nil ?_
            refine WE.then_normal ?_
            refine WC.ret ?_
            refine WE.then_ret ?_
            refine WE.block_ret ?_
            refine WE.then_ret ?_
            refine WE.ret2 rfl rfl rfl fun w' hw => ?_
            exact ⟨by simp_all [rmath], hw.fr⟩
          ·
            refine WC.skip ?_
            refine WE.then_normal ?_
            refine WC.seq ?_
            refine WC.region ?_
            refine WL.val (.inl rfl) rfl (yl_move rfl) ?_
            refine WL.val (.inl rfl) rfl (yl_move rfl) ?_
            refine WL.val (.inl rfl) rfl (yl_quo rfl rfl (by simpa using hc4)) ?_
            refine WL.val (.inl rfl) rfl (yl_assign rfl) ?_
            refine WL.val (.inl rfl) rfl (yl_assign rfl) ?_
            refine WL.nil ?_
            refine WE.then_normal ?_
            refine WC.ret ?_
            refine WE.block_ret ?_
            refine WE.then_ret ?_
            refine WE.ret2 rfl rfl rfl fun w' hw => ?_
            exact ⟨by simp_all [rmath], hw.fr⟩
        ·
          refine WC.seq ?_
          refine WC.region ?_
          refine WL.val (.inl rfl) rfl (yl_eq rfl rfl) ?_
          refine WL.val (.inl rfl) rfl (yl_assign rfl) ?_
          refine WL.nil ?_
          refine WE.then_normal ?_
          refine WC.cond rfl (fun hc5 => ?_) (fun hc5 => ?_)
          ·
            refine WC.seq ?_
            refine WC.seq ?_
            refine WC.region ?_
            refine WL.val (.inl rfl) rfl (yl_move rfl) ?_
            refine WL.val (.inl rfl) rfl (yl_eq rfl rfl) ?_
            refine WL.nil ?_
            refine WE.then_normal ?_
            refine WC.cond rfl (fun hc6 => ?_) (fun hc6 => ?_)
            ·
              refine WC.seq ?_
              refine WC.region ?_
              refine WL.val (.inl rfl) rfl (yl_assign rfl) ?_
              refine WL.val (.inl rfl) rfl (yl_assign rfl) ?_
              refine WL.nil ?_
              refine WE.then_normal ?_
              refine WC.ret ?_
              refine WE.then_ret ?_
              refine WE.block_ret ?_
              refine WE.then_ret ?_
              refine WE.ret2 rfl rfl rfl fun w' hw => ?_
              exact ⟨by simp_all [rmath], hw.fr⟩
            ·
              refine WC.skip ?_
              refine WE.then_normal ?_
              refine WC.seq ?_
              refine WC.region ?_
              refine WL.val (.inl rfl) rfl (yl_move rfl) ?_
              refine WL.val (.inl rfl) rfl (yl_move rfl) ?_
              refine WL.val (.inl rfl) rfl (yl_rem rfl rfl (by simpa using hc6)) ?_
              refine WL.val (.inl rfl) rfl (yl_assign rfl) ?_
              refine WL.val (.inl rfl) rfl (yl_assign rfl) ?_
              refine WL.nil ?_
              refine WE.then_normal ?_
              refine WC.ret ?_
              refine WE.block_ret ?_
              refine WE.then_ret ?_
              refine WE.ret2 rfl rfl rfl fun w' hw => ?_
              exact ⟨by simp_all [rmath], hw.fr⟩
          ·
            refine WC.seq ?_
            refine WC.region ?_
            refine WL.val (.inl rfl) rfl (yl_eq rfl rfl) ?_
            refine WL.val (.inl rfl) rfl (yl_assign rfl) ?_
            refine WL.nil ?_
            refine WE.then_normal ?_
            refine WC.cond rfl (fun hc7 => ?_) (fun hc7 => ?_)
            ·
              refine WC.seq ?_
              refine WC.region ?_
              refine WL.val (.inl rfl) rfl (yl_move rfl) ?_
              refine WL.val (.inl rfl) rfl (yl_move rfl) ?_
              refine WL.val (.inl rfl) rfl (yl_eq rfl rfl) ?_
              refine WL.callp (.inl rfl) rfl en41 rfl (fun w hw => truth_any _ w) ?_
              refine WL.val (.inl rfl) rfl (yl_assign rfl) ?_
              refine WL.val (.inl rfl) rfl (yl_assign rfl) ?_
              refine WL.nil ?_
              refine WE.then_normal ?_
              refine WC.ret ?_
              refine WE.block_ret ?_
              refine WE.then_ret ?_
              refine WE.ret2 rfl rfl rfl fun w' hw => ?_
              exact ⟨by simp_all [rmath], hw.fr⟩
            ·
              refine WC.skip ?_
              refine WE.block_normal ?_
              refine WE.then_normal ?_
              refine WC.seq ?_
              refine WC.region ?_
              refine WL.val (.inl rfl) rfl (yl_move rfl) ?_
              refine WL.val (.inl rfl) rfl (yl_move rfl) ?_
              refine WL.val (.inl rfl) rfl (yl_lt rfl rfl) ?_
              refine WL.callp (.inl rfl) rfl en41 rfl (fun w hw => truth_any _ w) ?_
              refine WL.val (.inl rfl) rfl (yl_assign rfl) ?_
              refine WL.val (.inl rfl) rfl (yl_assign rfl) ?_
              refine WL.nil ?_
              refine WE.then_normal ?_
              refine WC.ret ?_
              refine WE.ret2 rfl rfl rfl fun w' hw => ?_
              exact ⟨by simp_all [rmath], hw.fr⟩

theorem sameCode_any (H1 H2 : View) (a1 a2 : Option Addr) (c1 c2 : Nat) (l1 l2 : List Ins) (w : World) (hH1 : Le H1 w) (hH2 : Le H2 w) (hm1 : Sl rdIns 3 H1 a1 c1 l1) (hm2 : Sl rdIns 3 H2 a2 c2 l2) :
    Calls Try.prog 43 #[.slice a1 l1.length c1, .slice a2 l2.length c2] w fun e w' => e = .returned (.bool (decide (l1 = l2))) ∧ Ext w w' := by
  have hcap1 := hm1.cap
  have hmax1 := hm1.max
  have hcap2 := hm2.cap
  have hmax2 := hm2.max
  refine enter Try.func43 rfl 26 rfl rfl ?_
  refine WC.world (W' := Ws w [] [] [H1, H2]) (fun _ e => by subst e; exact Ws.init (by simp [hH1, hH2])) ?_
  refine WC.seq ?_
  refine WC.region ?_
  refine WL.val (.inl rfl) rfl (yl_assign rfl) ?_
  refine WL.nil ?_
  refine WE.then_normal ?_
  refine WC.seq ?_
  refine WC.seq ?_
  refine WC.region ?_
  refine WL.val (.inl rfl) rfl (yl_move rfl) ?_
  refine WL.val (.inl rfl) rfl (yl_len es22 rfl) ?_
  refine WL.val (.inl rfl) rfl (yl_move rfl) ?_
  refine WL.val (.inl rfl) rfl (yl_len es22 rfl) ?_
  refine WL.val (.inl rfl) rfl (yl_ne rfl rfl) ?_
  refine WL.nil ?_
  refine WE.then_normal ?_
  refine WC.cond rfl (fun hc0 => ?_) (fun hc0 => ?_)
  ·
    have hne : l1 ≠ l2 := by intro e; subst e; simp at hc0
    refine WC.seq ?_
    refine WC.region ?_
    refine WL.val (.inl rfl) rfl (yl_assign rfl) ?_
    refine WL.nil ?_
    refine WE.then_normal ?_
    refine WC.ret ?_
    refine WE.then_ret ?_
    refine WE.ret1 rfl rfl fun w' hw => ?_
    exact ⟨by simp [hne], hw.fr⟩
  ·
    have hlen : l1.length = l2.length := by simp at hc0; omega
    refine WC.skip ?_
    refine WE.then_normal ?_
    refine WC.seq ?_
    refine WC.seq ?_
    refine WC.region ?_
    refine WL.val (.inl rfl) rfl (yl_assign rfl) ?_
    refine WL.nil ?_
    refine WE.then_normal ?_
    refine WC.block ?_
    refine WC.loopW (ι := Nat) (fun i => [(5, .int .i64 (i : Int))]) [(0, _), (1, _)] (fun i => i ≤ l1.length ∧ ∀ j, j < i → l1[j]? = l2[j]?) (fun i => l1.length - i) 0 ⟨Nat.zero_le _, by simp⟩ (sc rfl (sc rfl (sc rfl sn))) ?_
    intro i ⟨hi, hall⟩
    refine WC.seq ?_
    refine WC.seq ?_
    refine WC.region ?_
    refine WL.val (.inl rfl) rfl (yl_move rfl) ?_
    refine WL.val (.inl rfl) rfl (yl_move rfl) ?_
    refine WL.val (.inl rfl) rfl (yl_len es22 rfl) ?_
    refine WL.val (.inl rfl) rfl (yl_lt rfl rfl) ?_
    refine WL.nil ?_
    refine WE.then_normal ?_
    refine WC.cond rfl (fun hc1 => ?_) (fun hc1 => ?_)
    ·
      have hlt : i < l1.length := by simpa using hc1
      obtain ⟨x, hx⟩ : ∃ x, l1[i]? = some x := ⟨_, List.getElem?_eq_getElem hlt⟩
      obtain ⟨y, hy⟩ : ∃ y, l2[i]? = some y := ⟨_, List.getElem?_eq_getElem (by omega)⟩
      obtain ⟨pb, po, ha1, hrow1⟩ := hm1.elt i x hx
      obtain ⟨qb, qo, ha2, hrow2⟩ := hm2.elt i y hy
      have hrow1 : RdC H1 pb (po + i * 3) x.cells := hrow1
      have hrow2 : RdC H2 qb (qo + i * 3) y.cells := hrow2
      refine WC.skip ?_
      refine WE.then_normal ?_
      refine WC.seq ?_
      refine WC.block ?_
      refine WC.seq ?_
      refine WC.draws0 [(0, true), (1, true), (2, true), (3, true), (4, true), (5, true), (6, true), (7, true), (8, true)] mixed (by kernel_rfl) (fun _ _ _ d _ h => by cases d <;> exact h) ?_
      refine WD.q rfl (.inl rfl) rfl (fun _ h => h) (yl_move rfl) ?_
      refine WD.q rfl (.inl rfl) rfl (fun _ h => h) (yl_move rfl) ?_
      refine WD.q rfl (.inl rfl) rfl (fun _ h => h) (yl_iao es22 rfl rfl ha1 (by omega)) ?_
      refine WD.q rfl (.inl rfl) rfl (fun _ h => h) (yl_lda 0 ag65 rfl rfl rfl (hrow1)) ?_
      refine WD.q rfl (.inl rfl) rfl (fun _ h => h) (yl_move rfl) ?_
      refine WD.q rfl (.inl rfl) rfl (fun _ h => h) (yl_move rfl) ?_
      refine WD.q rfl (.inl rfl) rfl (fun _ h => h) (yl_iao es22 rfl rfl ha2 (by omega)) ?_
      refine WD.q rfl (.inl rfl) rfl (fun _ h => h) (yl_lda 1 ag65 rfl rfl rfl (hrow2)) ?_
      refine WD.q rfl (.inl rfl) rfl (fun _ h => h) (yl_nest fl65 rfl rfl rfl) ?_
      refine WD.nil (fun _ h => h) ?_
      refine WE.then_normal ?_
      refine WC.cond rfl (fun hc2 => ?_) (fun hc2 => ?_)
      ·
        have hne : l1 ≠ l2 := by intro e; subst e; rw [hx] at hy; injection hy with hy; subst hy; simp at hc2
        refine WC.seq ?_
        refine WC.region ?_
        refine WL.val (.inl rfl) rfl (yl_assign rfl) ?_
        refine WL.nil ?_
        refine WE.then_normal ?_
        refine WC.ret ?_
        refine WE.block_ret ?_
        refine WE.then_ret ?_
        refine WE.then_ret ?_
        refine WE.block_ret ?_
        refine WE.then_ret ?_
        refine WE.ret1 rfl rfl fun w' hw => ?_
        exact ⟨by simp [hne], hw.fr⟩
      ·
        have hxy : x = y := by cases x; cases y; simp_all
        refine WC.skip ?_
        refine WE.block_normal ?_
        refine WE.then_normal ?_
        refine WC.region ?_
        refine WL.val (.inl rfl) rfl (yl_move rfl) ?_
        refine WL.val (.inl rfl) rfl (yl_inc rfl rfl rfl (by omega)) ?_
        refine WL.val (.inl rfl) rfl (yl_assign rfl) ?_
        refine WL.nil ?_
        exact WE.again (i + 1) (by omega) ⟨by omega, fun j hj => by rcases Nat.lt_succ_iff_lt_or_eq.1 hj with h | rfl; exact hall j h; rw [hx, hy, hxy]⟩ (sc rfl (sc rfl (sc rfl sn))) (fun _ h => h)
    ·
      have hge : ¬ i < l1.length := by simpa using hc1
      have heq : l1 = l2 := List.ext_getElem? fun j => by
        rcases Nat.lt_or_ge j i with h | h
        · exact hall j h
        · rw [List.getElem?_eq_none (by omega), List.getElem?_eq_none (by omega)]
      refine WC.exit ?_
      refine WE.then_exit ?_
      refine WE.then_exit ?_
      refine WE.block_hit ?_
      refine WE.then_normal ?_
      refine WC.seq ?_
      refine WC.region ?_
      refine WL.val (.inl rfl) rfl (yl_assign rfl) ?_
      refine WL.nil ?_
      refine WE.then_normal ?_
      refine WC.ret ?_
      refine WE.ret1 rfl rfl fun w' hw => ?_
      exact ⟨by simp [heq], hw.fr⟩

theorem sameImages_any (H1 H2 : View) (a1 a2 : Option Addr) (c1 c2 : Nat) (l1 l2 : List Ins) (d1 d2 : Int) (w : World) (hH1 : Le H1 w) (hH2 : Le H2 w) (hm1 : Sl rdIns 3 H1 a1 c1 l1) (hm2 : Sl rdIns 3 H2 a2 c2 l2) :
    Calls Try.prog 15 #[.agg #[.slice a1 l1.length c1, .int .i64 d1], .agg #[.slice a2 l2.length c2, .int .i64 d2]] w fun e w' => e = .returned (.bool ((d1 == d2) && decide (l1 = l2))) ∧ Ext w w' := by
  have hcap1 := hm1.cap
  have hmax1 := hm1.max
  have hcap2 := hm2.cap
  have hmax2 := hm2.max
  refine enter Try.func15 rfl 17 rfl rfl ?_
  refine WC.world (W' := Ws w [] [] [H1, H2]) (fun _ e => by subst e; exact Ws.init (by simp [hH1, hH2])) ?_
  refine WC.seq ?_
  refine WC.region ?_
  refine WL.box (.inl rfl) rfl rfl fun b2 => ?_
  refine WL.box (.inl rfl) rfl rfl fun b3 => ?_
  refine WL.val (.inl rfl) rfl (yl_assign rfl) ?_
  refine WL.nil ?_
  refine WE.then_normal ?_
  refine WC.seq ?_
  refine WC.region ?_
  refine WL.val (.inl rfl) rfl (yl_fa fo24_1 rfl) ?_
  refine WL.val (.inl rfl) rfl (yl_ldk 1 rfl rfl rfl na3) ?_
  refine WL.val (.inl rfl) rfl (yl_fa fo24_1 rfl) ?_
  refine WL.val (.inl rfl) rfl (yl_ldk 0 rfl rfl rfl na3) ?_
  refine WL.val (.inl rfl) rfl (yl_eq rfl rfl) ?_
  refine WL.val (.inl rfl) rfl (yl_move rfl) ?_
  apply WL.and 5 rfl rfl rfl rfl (.inl rfl) rfl rfl rfl rfl rfl
  ·
    intro hg0
    refine WL.val (.inr ⟨_, _, _, rfl, rfl, rfl⟩) rfl (yl_fa fo24_0 rfl) ?_
    refine WL.val (.inr ⟨_, _, _, rfl, rfl, rfl⟩) rfl (yl_ldk 1 rfl rfl rfl na22) ?_
    refine WL.val (.inr ⟨_, _, _, rfl, rfl, rfl⟩) rfl (yl_fa fo24_0 rfl) ?_
    refine WL.val (.inr ⟨_, _, _, rfl, rfl, rfl⟩) rfl (yl_ldk 0 rfl rfl rfl na22) ?_
    refine WL.callp (.inr ⟨_, _, _, rfl, rfl, rfl⟩) rfl en43 rfl (fun w hw => sameCode_any H1 H2 a1 a2 c1 c2 l1 l2 _ (hw.vs _ (by simp)) (hw.vs _ (by simp)) hm1 hm2) ?_
    exact Got.intro 5 rfl rfl rfl
  refine WL.val (.inl rfl) rfl (yl_assign rfl) ?_
  refine WL.nil ?_
  refine WE.then_normal ?_
  refine WC.ret ?_
  refine WE.ret1 rfl rfl fun w' hw => ?_
  exact ⟨rfl, hw.fr⟩

theorem cloneIns_any (H : View) (a : Option Addr) (c : Nat) (code : List Ins) (w : World) (hH : Le H w) (hm : Sl rdIns 3 H a c code) (hb : code.length * 24 ≤ 140737488355328) :
    Calls Try.prog 33 #[.slice a code.length c] w fun e w' => ∃ v, e = .returned v ∧ Ext w w' ∧ w'.ownsRow w.heap.size 65 3 v code.length (code.flatMap Ins.cells) := by
  have hcap := hm.cap
  have hmax := hm.max
  refine enter Try.func33 rfl 8 rfl rfl ?_
  refine WC.world (W' := Ws w [] [] [H]) (fun _ e => by subst e; exact Ws.init (by simp [hH])) ?_
  refine WC.seq ?_
  refine WC.region ?_
  refine WL.val (.inl rfl) rfl (yl_assign rfl) ?_
  refine WL.nil ?_
  refine WE.then_normal ?_
  refine WC.seq ?_
  refine WC.seq ?_
  refine WC.region ?_
  refine WL.val (.inl rfl) rfl (yl_move rfl) ?_
  refine WL.val (.inl rfl) rfl (yl_eqnil es22 rfl) ?_
  refine WL.nil ?_
  refine WE.then_normal ?_
  refine WC.cond rfl (fun hc0 => ?_) (fun hc0 => ?_)
  ·
    have hnil : code = [] := by
      cases code with
      | nil => rfl
      | cons x r => obtain ⟨b, o, h, _⟩ := hm.elt 0 x rfl; rw [h] at hc0; cases hc0
    refine WC.seq ?_
    refine WC.region ?_
    refine WL.val (.inl rfl) rfl (yl_assign rfl) ?_
    refine WL.nil ?_
    refine WE.then_normal ?_
    refine WC.ret ?_
    refine WE.then_ret ?_
    refine WE.ret1 rfl rfl fun w' hw => ?_
    subst hnil
    exact ⟨_, rfl, hw.fr, ownsRow_nil' _ _ _ _⟩
  ·
    obtain ⟨p, rfl⟩ : ∃ p, a = some p := by cases a with | none => cases hc0 | some p => exact ⟨p, rfl⟩
    obtain ⟨pb, po, ps⟩ := p
    obtain rfl : ps = none := hm.spot _ rfl
    have hfl := hm.flat Ins.cells_len (by decide) (fun _ _ _ h => h)
    refine WC.skip ?_
    refine WE.then_normal ?_
    refine WC.seq ?_
    refine WC.region ?_
    refine WL.bslice (.inl rfl) rfl el22 rfl rfl rfl fun b5 => ?_
    refine WL.asOsl (size := 3) 0 rfl (Nat.le_refl 0) (Nat.zero_le _) rfl ?_
    refine WL.val (.inl rfl) rfl (yl_move rfl) ?_
    refine WL.append 0 (.inl rfl) rfl el22 rfl rfl rfl (flat_length Ins.cells_len code) (fun w hw j u hu => by rw [add_none]; exact (hw.vs H (by simp)).cell (hfl j u hu)) (fun u hu => by
      obtain ⟨x, _, hx⟩ := List.mem_flatMap.1 hu
      simp [Ins.cells] at hx
      rcases hx with rfl | rfl | rfl <;> rfl) (by unfold maxLen; omega) (by omega) (fun v7 hnil7 => ?_)
    refine WL.val (.inl rfl) rfl (yl_assign rfl) ?_
    refine WL.nil ?_
    refine WE.then_normal ?_
    refine WC.ret ?_
    refine WE.ret1 rfl rfl fun w' hw => ?_
    have ho := hw.own_new 0 rfl
    exact ⟨_, rfl, hw.fr, by simpa using ho⟩

end Go.Proofs.Ytagoencpeflmlaa
