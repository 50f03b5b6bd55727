/- Walks of the machine that the compiler hands over, and plain laws on what they compute; each theorem tells its own conditions. -/
import Derived.Test.YtagoencpeflmlaaRows
import Derived.Test.YtagoencpeflmlaaBwT4
import Derived.Test.YtagoencpeflmlaaBw23
namespace Go.Proofs.Ytagoencpeflmlaa
open Go.Bw
set_option linter.unusedVariables false
set_option linter.unusedSimpArgs false

/-! ### The machine -/
def iv (x : Int) : List Value := [.int .i64 x]
theorem iv_len (x : Int) : (iv x).length = 1 := rfl
structure MFr where
  la : Option Addr
  lc : Nat
  loc : List Int
  back : Int
def MFr.cells (f : MFr) : List Value := [.slice f.la f.loc.length f.lc, .int .i64 f.back]
def MFr.own (f : MFr) : Asr := osT 3 1 iv f.la f.lc f.loc
/-- The machine, as numbers; the stack's and the frames' top first. -/
structure Pm where
  at_ : Int
  limit : Int
  steps : Int
  stack : List Int
  frames : List (List Int × Int)
  inp : List Int
  out : List Int
  data : List Int
  ticks : Int
structure MSt where
  at_ : Int
  limit : Int
  steps : Int
  stack : List Int
  frames : List MFr
  inp : List Int
  out : List Int
  data : List Int
  ticks : Int
  sa : Option Addr
  sc : Nat
  fa : Option Addr
  fc : Nat
  ia : Option Addr
  ic : Nat
  oa : Option Addr
  oc : Nat
  da : Option Addr
  dc : Nat
def MFr.pu (f : MFr) : List Int × Int := (f.loc, f.back)
def MSt.pu (s : MSt) : Pm := ⟨s.at_, s.limit, s.steps, s.stack, s.frames.map MFr.pu, s.inp, s.out, s.data, s.ticks⟩
def MSt.obj (s : MSt) : Obj := .cells #[.int .i64 s.at_, .int .i64 s.limit, .int .i64 s.steps, .slice s.sa s.stack.reverse.length s.sc, .slice s.fa s.frames.reverse.length s.fc, .slice s.ia s.inp.length s.ic, .int .i64 0, .slice s.oa s.out.length s.oc, .slice s.da s.data.length s.dc, .int .i64 s.ticks] 108 (0, 0)
abbrev MSt.own (b : Nat) (s : MSt) : List Asr := [blk b s.obj, osT 3 1 iv s.sa s.sc s.stack.reverse, osT 137 2 MFr.cells s.fa s.fc s.frames.reverse, osT 3 1 iv s.oa s.oc s.out, osT 3 1 iv s.da s.dc s.data, fam (s.frames.map MFr.own)]
inductive Rz (α : Type) where
  | ok (a : α) (m : Pm)
  | ov (e : Int) (m : Pm)
def Rz.bind {α β : Type} (r : Rz α) (f : α → Pm → Rz β) : Rz β := match r with
  | .ok a m => f a m
  | .ov e m => .ov e m
def ovr (e : Int) : List PanicEntry := [⟨.iface 110 (.agg #[.int .i64 e]), false, false⟩]
def topM (m : Pm) : Rz Int := match m.stack with
  | [] => .ov 6 m
  | x :: r => .ok x { m with stack := r }
def pushM (n : Int) (m : Pm) : Rz Unit := if m.stack.length = 2048 then .ov 6 m else .ok () { m with stack := n :: m.stack }
def tickM (m : Pm) : Rz Unit := if m.ticks = m.limit then .ov 3 m else .ok () { m with ticks := IntKind.i64.wrap (m.ticks + 1) }
def mathM (op : Int) (m : Pm) : Rz Unit := if (decide (op < 9) || decide (15 < op)) = true then .ov 6 m else (topM m).bind fun b m => (topM m).bind fun a m =>
  if (mmath op a b).2 = true then pushM (mmath op a b).1 m else if b = 0 then .ov 1 m else pushM (if op = 13 then a.tmod b else IntKind.i64.wrap (a.tdiv b)) m
def enterM (a b : Int) (m : Pm) : Rz Unit := if ((((decide (a < 0) || decide (b < 0)) || decide (2048 < a)) || decide (IntKind.i64.wrap (2048 - a) < b)) || decide ((m.stack.length : Int) < a)) = true then .ov 6 m
  else .ok () { m with stack := m.stack.drop a.toNat, frames := match m.frames with | [] => [] | f :: r => ((m.stack.take a.toNat).reverse ++ List.replicate b.toNat 0, f.2) :: r }
def callM (to : Int) (m : Pm) : Rz Unit := (tickM m).bind fun _ m => if 24 < m.frames.length then .ov 4 m else .ok () { m with frames := ([], m.at_) :: m.frames, at_ := to }
def retM (m : Pm) : Rz Unit := if m.frames.length = 1 then .ov 6 m else match m.frames with | [] => .ov 6 m | f :: r => .ok () { m with at_ := f.2, frames := r }
def readM (m : Pm) : Int × Pm := match m.inp with | [] => (0, m) | x :: r => (x, { m with inp := r })
def outsideB (at_ : Int) (n : Nat) : Bool := decide (at_ < 0) || decide ((n : Int) ≤ at_)
theorem pl110 : placesP Try.prog 110 = some [(0, 1)] := by kernel_rfl
theorem zr110 : zeroOf Try.prog 110 = some (.agg #[.int .i64 0]) := by kernel_rfl
theorem co110 : Try.prog.concrete 110 = true := by kernel_rfl

theorem stop_any (b : Bool) (e : Int) (w : World) :
    Calls Try.prog 64 #[.bool b, .int .i64 e] w fun e' w' => (∃ _ : Unit, e' = .returned (.tuple #[]) ∧ b = false ∧ Ext w w') ∨ (∃ _ : Unit, e' = .panicked (ovr e) ∧ b = true ∧ Ext w w') := by
  refine enter Try.func64 rfl 8 rfl rfl ?_
  refine WC.world (W' := Ws w [] [] []) (fun _ e => by subst e; exact Ws.init (by simp)) ?_
  refine WC.seq ?_
  refine WC.region ?_
  refine WL.val (.inl rfl) rfl (yl_move rfl) ?_
  refine WL.nil ?_
  refine WE.then_normal ?_
  refine WC.cond rfl (fun hc0 => ?_) (fun hc0 => ?_)
  ·
    refine WC.region ?_
    refine WL.val (.inl rfl) rfl (yl_move rfl) ?_
    refine WL.val (.inl rfl) rfl (yl_build zr110 pl110 rfl rfl) ?_
    refine WL.val (.inl rfl) rfl (yl_mki co110 rfl) ?_
    refine WL.panic (.inl rfl) rfl ?_
    refine WE.panics fun w' hw => ?_
    exact .inr ⟨(), rfl, hc0, hw.fr⟩
  ·
    refine WC.skip ?_
    refine WE.end0 rfl fun w' hw => ?_
    exact .inl ⟨(), rfl, hc0, hw.fr⟩

end Go.Proofs.Ytagoencpeflmlaa
