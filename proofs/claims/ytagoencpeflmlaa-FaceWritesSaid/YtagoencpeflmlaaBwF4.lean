/- Walks of the functions of this claim, and plain laws on what they compute; each theorem tells its own conditions. -/
import Derived.Test.YtagoencpeflmlaaBwF3
namespace Go.Proofs.Ytagoencpeflmlaa
open Go.Bw
set_option linter.unusedVariables false
set_option linter.unusedSimpArgs false

structure Item where
  kind : Int
  n : Int
  pl : Int
  name : List UInt8
deriving DecidableEq
def Item.cells (x : Item) : List Value := [.int .i64 x.kind, .int .i64 x.n, .int .i64 x.pl, st x.name]
def rdItem (H : View) (b o : Nat) (x : Item) : Prop := RdC H b o x.cells
def itemB (x : Item) : List UInt8 := [byteOf x.kind] ++ textB x.name ++ num8 x.n ++ num8 x.pl
def faceB (name : List UInt8) (items : List Item) : List UInt8 := textB name ++ [byteOf items.length] ++ items.flatMap itemB
theorem num8_cells (n : Int) (T : TypeId) : (Obj.cells #[.int .u8 (IntKind.u8.wrap (n.fdiv (2 ^ 56))), .int .u8 (IntKind.u8.wrap (n.fdiv (2 ^ 48))), .int .u8 (IntKind.u8.wrap (n.fdiv (2 ^ 40))), .int .u8 (IntKind.u8.wrap (n.fdiv (2 ^ 32))), .int .u8 (IntKind.u8.wrap (n.fdiv (2 ^ 24))), .int .u8 (IntKind.u8.wrap (n.fdiv (2 ^ 16))), .int .u8 (IntKind.u8.wrap (n.fdiv (2 ^ 8))), .int .u8 (IntKind.u8.wrap n)] T (0, 0)) = .cells ((num8 n).map byv).toArray T (0, 0) := by
  simp only [wrap_u8]; rfl
theorem one_cell (n : Int) (T : TypeId) : (Obj.cells #[.int .u8 (IntKind.u8.wrap n)] T (0, 0)) = .cells ([byteOf n].map byv).toArray T (0, 0) := by
  simp only [wrap_u8]; rfl
theorem usl81 : Try.prog.underlying 81 = some (.slice 5) := by kernel_rfl

theorem numBytes_any (n : Int) (w : World) :
    Calls Try.prog 52 #[.int .i64 n] w fun e w' => e = .returned (st (num8 n)) ∧ Ext w w' := by
  refine enter Try.func52 rfl 28 rfl rfl ?_
  refine WC.world (W' := Ws w [] [] []) (fun _ e => by subst e; exact Ws.init (by simp)) ?_
  refine WC.seq ?_
  refine WC.region ?_
  refine WL.val (.inl rfl) rfl (yl_assign rfl) ?_
  refine WL.nil ?_
  refine WE.then_normal ?_
  refine WC.seq ?_
  refine WC.region ?_
  refine WL.val (.inl rfl) rfl (yl_move rfl) ?_
  refine WL.val (.inl rfl) rfl (yl_shrk 56 rfl rfl (by decide)) ?_
  refine WL.val (.inl rfl) rfl (yl_cvi ui3 ui5 rfl) ?_
  refine WL.val (.inl rfl) rfl (yl_move rfl) ?_
  refine WL.val (.inl rfl) rfl (yl_shrk 48 rfl rfl (by decide)) ?_
  refine WL.val (.inl rfl) rfl (yl_cvi ui3 ui5 rfl) ?_
  refine WL.val (.inl rfl) rfl (yl_move rfl) ?_
  refine WL.val (.inl rfl) rfl (yl_shrk 40 rfl rfl (by decide)) ?_
  refine WL.val (.inl rfl) rfl (yl_cvi ui3 ui5 rfl) ?_
  refine WL.val (.inl rfl) rfl (yl_move rfl) ?_
  refine WL.val (.inl rfl) rfl (yl_shrk 32 rfl rfl (by decide)) ?_
  refine WL.val (.inl rfl) rfl (yl_cvi ui3 ui5 rfl) ?_
  refine WL.val (.inl rfl) rfl (yl_move rfl) ?_
  refine WL.val (.inl rfl) rfl (yl_shrk 24 rfl rfl (by decide)) ?_
  refine WL.val (.inl rfl) rfl (yl_cvi ui3 ui5 rfl) ?_
  refine WL.val (.inl rfl) rfl (yl_move rfl) ?_
  refine WL.val (.inl rfl) rfl (yl_shrk 16 rfl rfl (by decide)) ?_
  refine WL.val (.inl rfl) rfl (yl_cvi ui3 ui5 rfl) ?_
  refine WL.val (.inl rfl) rfl (yl_move rfl) ?_
  refine WL.val (.inl rfl) rfl (yl_shrk 8 rfl rfl (by decide)) ?_
  refine WL.val (.inl rfl) rfl (yl_cvi ui3 ui5 rfl) ?_
  refine WL.val (.inl rfl) rfl (yl_move rfl) ?_
  refine WL.val (.inl rfl) rfl (yl_cvi ui3 ui5 rfl) ?_
  refine WL.bsliceF (.inl rfl) rfl el81 rfl rfl rfl rfl fun b26 => ?_
  refine WL.reblk 0 (.cells ((num8 n).map byv).toArray 5 (0, 0)) rfl (num8_cells n 5) ?_
  refine WL.val (.inl rfl) rfl (yl_b2s 0 usl81 ui5 us9 rfl rfl rfl) ?_
  refine WL.val (.inl rfl) rfl (yl_assign rfl) ?_
  refine WL.nil ?_
  refine WE.then_normal ?_
  refine WC.ret ?_
  refine WE.ret1 rfl rfl fun w' hw => ?_
  exact ⟨rfl, hw.fr⟩

theorem textBytes_any (s : List UInt8) (w : World) (hs : s.length ≤ 1099511627776) :
    Calls Try.prog 51 #[st s] w fun e w' => e = .returned (st (textB s)) ∧ Ext w w' := by
  refine enter Try.func51 rfl 10 rfl rfl ?_
  refine WC.world (W' := Ws w [] [] []) (fun _ e => by subst e; exact Ws.init (by simp)) ?_
  refine WC.seq ?_
  refine WC.region ?_
  refine WL.val (.inl rfl) rfl (yl_assign rfl) ?_
  refine WL.nil ?_
  refine WE.then_normal ?_
  refine WC.seq ?_
  refine WC.region ?_
  refine WL.val (.inl rfl) rfl (yl_move rfl) ?_
  refine WL.val (.inl rfl) rfl (yl_lens us9 rfl) ?_
  refine WL.val (.inl rfl) rfl (yl_cvi ui3 ui5 rfl) ?_
  refine WL.bsliceF (.inl rfl) rfl el81 rfl rfl rfl rfl fun b6 => ?_
  refine WL.reblk 0 (.cells ([byteOf s.length].map byv).toArray 5 (0, 0)) rfl (one_cell _ 5) ?_
  refine WL.val (.inl rfl) rfl (yl_b2s 0 usl81 ui5 us9 rfl rfl rfl) ?_
  refine WL.val (.inl rfl) rfl (yl_move rfl) ?_
  refine WL.val (.inl rfl) rfl (yl_cats rfl rfl (by simp; omega)) ?_
  refine WL.val (.inl rfl) rfl (yl_assign rfl) ?_
  refine WL.nil ?_
  refine WE.then_normal ?_
  refine WC.ret ?_
  refine WE.ret1 rfl rfl fun w' hw => ?_
  exact ⟨rfl, hw.fr⟩

end Go.Proofs.Ytagoencpeflmlaa
