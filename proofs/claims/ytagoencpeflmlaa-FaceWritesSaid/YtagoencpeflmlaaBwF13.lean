/- Walks of the functions of this claim, and plain laws on what they compute; each theorem tells its own conditions. -/
import Derived.Test.YtagoencpeflmlaaRows
import Derived.Test.YtagoencpeflmlaaBwF12
import Derived.Test.YtagoencpeflmlaaBw19
namespace Go.Proofs.Ytagoencpeflmlaa
open Go.Bw
set_option linter.unusedVariables false
set_option linter.unusedSimpArgs false

def readR (s : List UInt8) : Option (List UInt8 × List Item) := match glFace s with | some (f, []) => some f | _ => none
theorem uif20 : Try.prog.underlying 20 = some (.interface (Try.prog.methodsAt 20)) := by kernel_rfl
theorem sz4 : sizeP Try.prog 4 = some 1 := by kernel_rfl
theorem zr4 : zeroOf Try.prog 4 = some (.bool false) := by kernel_rfl
theorem pl133 : placesP Try.prog 133 = some [(0, 1)] := by kernel_rfl
theorem zr133 : zeroOf Try.prog 133 = some (.agg #[st []]) := by kernel_rfl
theorem en54 : Enters Try.prog 54 := enters_of Try.func54 (by kernel_rfl) rfl
theorem en81 : Enters Try.prog 81 := enters_of Try.func81 (by kernel_rfl) rfl
theorem na4 : nonAgg Try.prog 4 = true := by kernel_rfl

theorem read1_ret (bi : Nat) (x : Bool) (w : World) (hw : Ws w [bi] [blk bi (.cells #[.bool x] 4 (0, 0))] [] w) :
    CallsD Try.prog 81 #[.pointer (some ⟨bi, 0, none⟩)] (.returning) w fun e u2 w' => u2 = .returning ∧ (e = .returned (.tuple #[]) ∧ Ws w [bi] [blk bi (.cells #[.bool x] 4 (0, 0))] [] w') := by
  refine closD Try.func81 rfl 3 rfl rfl rfl rfl rfl (fun _ => rfl) (.inl ⟨rfl, rfl, rfl⟩) ?_
  refine WL.world (W' := Ws w [bi] [blk bi (.cells #[.bool x] 4 (0, 0))] []) (fun _ e => by subst e; exact hw) ?_
  refine WL.val (.inl rfl) rfl (yl_nein uif20 rfl) ?_
  refine WL.nil ?_
  refine WE.then_normal ?_
  refine WC.condf rfl ?_
  refine WC.skip ?_
  refine WE.end0 rfl fun w' hw => ?_
  exact ⟨rfl, hw⟩

theorem read1_pan (bi : Nat) (x : Bool) (w : World) (hw : Ws w [bi] [blk bi (.cells #[.bool x] 4 (0, 0))] [] w) :
    CallsD Try.prog 81 #[.pointer (some ⟨bi, 0, none⟩)] (.panicking [⟨.iface 145 (.agg #[]), false, false⟩]) w fun e u2 w' => u2 = .panicking [⟨.iface 145 (.agg #[]), true, false⟩] ∧ (e = .returned (.tuple #[]) ∧ Ws w [bi] [blk bi (.cells #[.bool false] 4 (0, 0))] [] w') := by
  refine closD Try.func81 rfl 3 rfl rfl rfl rfl rfl (fun _ => rfl) (.inr ⟨_, rfl, rfl, rfl⟩) ?_
  refine WL.world (W' := Ws w [bi] [blk bi (.cells #[.bool x] 4 (0, 0))] []) (fun _ e => by subst e; exact hw) ?_
  refine WL.val (.inl rfl) rfl (yl_neih uif20 rfl) ?_
  refine WL.nil ?_
  refine WE.then_normal ?_
  refine WC.condt rfl ?_
  refine WC.region ?_
  refine WL.store 0 (.inl rfl) rfl rfl rfl sz4 rfl rfl rfl ?_
  refine WL.nil ?_
  refine WE.end0 rfl fun w' hw => ?_
  exact ⟨rfl, hw⟩

theorem bytesRead_any (s : List UInt8) (w : World) (hs : s.length ≤ 9223372036854775807) :
    Calls Try.prog 53 #[st s, .func (.func 54) #[] #[]] w fun e w' => ∃ (f : List UInt8 × List Item) (ok : Bool) (a : Option Addr) (c : Nat), e = .returned (.tuple #[.agg #[st f.1, .slice a f.2.length c], .bool ok]) ∧ (ok = true → readR s = some f) ∧ (ok = false → readR s = none) ∧ Ws w [] [osT 88 4 Item.cells a c (f.2)] [] w' := by
  refine enterD Try.func53 rfl 20 rfl rfl ?_
  refine WC.world (W' := Ws w [] [] []) (fun _ e => by subst e; exact Ws.init (by simp)) ?_
  refine WC.seq ?_
  refine WC.region ?_
  refine WL.alloc (.inl rfl) rfl zr39 fun b4 => ?_
  refine WL.alloc (.inl rfl) rfl zr4 fun b5 => ?_
  refine WL.nil ?_
  refine WE.then_normal ?_
  refine WC.seq ?_
  refine WC.region ?_
  refine WL.val (.inl rfl) rfl (yl_func rfl) ?_
  refine WL.defer (.inl rfl) rfl ?_
  refine WL.nil ?_
  refine WE.then_normal ?_
  refine WC.seq ?_
  refine WC.region ?_
  refine WL.val (.inl rfl) rfl (yl_move rfl) ?_
  refine WL.val (.inl rfl) rfl (yl_build zr133 pl133 rfl rfl) ?_
  refine WL.box (.inl rfl) rfl rfl fun b10 => ?_
  refine WL.val (.inl rfl) rfl (yl_assign rfl) ?_
  refine WL.nil ?_
  refine WE.then_normal ?_
  refine WC.seq ?_
  refine WC.region ?_
  refine WL.val (.inl rfl) rfl (yl_move rfl) ?_
  refine WL.val (.inl rfl) rfl (yl_move rfl) ?_
  refine WL.front 0 rfl ?_
  refine WL.callvwx (ι := (List UInt8 × List Item × List UInt8) × Option Addr × Nat) (κ := List UInt8) [_] _ (.inl rfl) rfl en54 rfl rfl rfl (fun r => .agg #[st r.1.1, .slice r.2.1 r.1.2.1.length r.2.2]) (fun r => [blk b10 (.cells #[st (r.1.2.2)] 133 (0, 0)), osT 88 4 Item.cells r.2.1 r.2.2 (r.1.2.1)]) (fun r => glFace s = some ((r.1.1, r.1.2.1), r.1.2.2)) (fun _ => brk) (fun t => [blk b10 (.cells #[st (t)] 133 (0, 0))]) (fun _ => glFace s = none) ([]) (by simp) (fun w hw => faceRead1_any b10 s w hs hw) ?_ ?_
  ·
    intro t ht
    refine WE.then_panic ?_
    refine WE.front 1 rfl ?_
    refine WE.panD en81 (closW [_] _ _ rfl (fun w hw => read1_pan b5 _ w hw)) (rs_2 rfl (rv_agg 2 rfl rfl ag39 rfl) (rv_one 0 rfl rfl rfl na4)) fun w' hw => ?_
    refine ⟨([], []), false, none, 0, rfl, by simp, fun _ => by simp [readR, ht], ?_⟩
    have h := Ws.drop (L := [_, _, _]) (L' := []) hw
    exact h.osl_nil 88 4
  intro r hr
  refine WL.store 3 (.inl rfl) rfl rfl rfl sz39 rfl rfl rfl ?_
  refine WL.nil ?_
  refine WE.then_normal ?_
  refine WC.seq ?_
  refine WC.drawsK (noRes [.cell 4 39, .cell 5 4]) [3, 2] [(1, true), (2, true), (3, true), (4, true), (5, true), (0, false), (6, false), (7, false)] mixed (by kernel_rfl) (by kernel_rfl) (fun _ _ _ _ _ hd h => bodyD_put (fn := Try.f53) [.cell 4 39, .cell 5 4] rfl hd h) ?_
  refine WD.q rfl (.inl rfl) rfl (fun _ h => by have h := Ws.out 3 h; have h := Ws.out 2 h; exact h) (yl_move rfl) ?_
  refine WD.q rfl (.inl rfl) rfl (fun _ h => by have h := Ws.out 3 h; have h := Ws.out 2 h; exact h) (yl_nil rfl) ?_
  refine WD.q rfl (.inl rfl) rfl (fun _ h => by have h := Ws.out 3 h; have h := Ws.out 2 h; exact h) (yl_fa fo133_0 rfl) ?_
  refine WD.q rfl (.inl rfl) rfl (fun _ h => by have h := Ws.out 3 h; have h := Ws.out 2 h; exact h) (yl_ldk 0 rfl rfl rfl na9) ?_
  refine WD.q rfl (.inl rfl) rfl (fun _ h => by have h := Ws.out 3 h; have h := Ws.out 2 h; exact h) (yl_eqs rfl rfl) ?_
  refine WD.e rfl (fun _ h => by have h := Ws.out 3 h; have h := Ws.out 2 h; exact h) ?_
  refine WL.val (.inl rfl) rfl (yl_ldka 3 rfl rfl ag39 rfl) ?_
  refine WL.nil ?_
  refine WE.toD ?_
  refine WD.e rfl (fun _ h => by have h := Ws.out 3 h; have h := Ws.out 2 h; exact h) ?_
  refine WL.store 3 (.inl rfl) rfl rfl rfl sz39 rfl rfl rfl ?_
  refine WL.nil ?_
  refine WE.toD ?_
  refine WD.e rfl (fun _ h => by have h := Ws.out 3 h; have h := Ws.out 2 h; exact h) ?_
  refine WL.store 2 (.inl rfl) rfl rfl rfl sz4 rfl rfl rfl ?_
  refine WL.nil ?_
  refine WE.toD ?_
  refine WD.nil (fun _ h => by have h := Ws.out 3 h; have h := Ws.out 2 h; exact h) ?_
  refine WE.then_normal ?_
  refine WC.ret ?_
  refine WE.front 2 rfl ?_
  refine WE.retD en81 (closW [_] _ _ rfl (fun w hw => read1_ret b5 _ w hw)) (rs_2 rfl (rv_agg 3 rfl rfl ag39 rfl) (rv_one 0 rfl rfl rfl na4)) fun w' hw => ?_
  refine ⟨(r.1.1, r.1.2.1), r.1.2.2 == [], r.2.1, r.2.2, rfl, fun h => ?_, fun h => ?_, ?_⟩
  · simp only [beq_iff_eq] at h
    simp [readR, hr, h]
  · simp only [beq_eq_false_iff_ne] at h
    unfold readR
    rw [hr]
    obtain ⟨⟨nm, its, rest⟩, q⟩ := r
    cases rest with
    | nil => exact absurd rfl h
    | cons _ _ => rfl
  · exact Ws.keep (L := [_]) (Ws.out 0 (Ws.out 0 hw))

end Go.Proofs.Ytagoencpeflmlaa
