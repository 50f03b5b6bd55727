/- Walks of the machine that the compiler hands over, and plain laws on what they compute; each theorem tells its own conditions. -/
import Derived.Test.YtagoencpeflmlaaRows
import Derived.Test.YtagoencpeflmlaaBwM7
namespace Go.Proofs.Ytagoencpeflmlaa
open Go.Bw
set_option linter.unusedVariables false
set_option linter.unusedSimpArgs false

theorem yl_tas {P : Program} {l : List (Nat × Value)} {W : World → Prop} {d : Option Tmp} {ty : TypeId} {pos : String} {af : Array Edge} {g : Option (Nat × Bool)} {x : Operand} {t u : TypeId} {v : Value} (h : ∀ (w : World) (v : Value), (Instr.typeAssert (.iface t v) u t true).run P w = .ok (.tuple #[v, .bool true]) w) (hx : opv l x = some (.iface t v)) :
    Yl P l W ⟨d, .typeAssert x u t true, ty, pos, af, g⟩ (.tuple #[v, .bool true]) := fun ρ w hρ _ => by
  simp only [execOp, hρ x _ hx, Sem.run_bind, h w v, Result.andThen_ok, Sem.run_pure]
def resObj (e : Int) (s : MSt) : Obj := .cells #[.int .i64 e, .slice s.oa s.out.length s.oc, .slice s.da s.data.length s.dc, .int .i64 s.ticks] 53 (0, 0)
theorem ta110 : ∀ (w : World) (v : Value), (Instr.typeAssert (.iface 110 v) 20 110 true).run Try.prog w = .ok (.tuple #[v, .bool true]) w := fun w v => by kernel_rfl
theorem ag53 : aggOf Try.prog 53 = some 4 := by kernel_rfl
theorem sz110 : sizeP Try.prog 110 = some 1 := by kernel_rfl
theorem na104 : nonAgg Try.prog 104 = true := by kernel_rfl
theorem fo110_0 : fieldOff Try.prog 110 0 = some 0 := by kernel_rfl
theorem fo53_0 : fieldOff Try.prog 53 0 = some 0 := by kernel_rfl
theorem fo108_2 : fieldOff Try.prog 108 2 = some 2 := by kernel_rfl
theorem sz53 : sizeP Try.prog 53 = some 4 := by kernel_rfl
theorem sz26 : sizeP Try.prog 26 = some 1 := by kernel_rfl

theorem run1_pan (bp b8 b9 b10 bm : Nat) (s : MSt) (x : Int) (v80 v81 v82 v83 v9 v10 : Value) (w : World) (hw : Ws w ([blk bp (.cells #[.pointer (some ⟨bm, 0, none⟩)] 104 (0, 0)), blk b8 (.cells #[v80, v81, v82, v83] 53 (0, 0)), blk b9 (.cells #[v9] 3 (0, 0)), blk b10 (.cells #[v10] 26 (0, 0)), blk bm s.obj].flatMap Asr.ids) [blk bp (.cells #[.pointer (some ⟨bm, 0, none⟩)] 104 (0, 0)), blk b8 (.cells #[v80, v81, v82, v83] 53 (0, 0)), blk b9 (.cells #[v9] 3 (0, 0)), blk b10 (.cells #[v10] 26 (0, 0)), blk bm s.obj] [] w) :
    CallsD Try.prog 63 #[.pointer (some ⟨bp, 0, none⟩), .pointer (some ⟨b8, 0, none⟩), .pointer (some ⟨b9, 0, none⟩), .pointer (some ⟨b10, 0, none⟩)] (.panicking [⟨.iface 110 (.agg #[.int .i64 x]), false, false⟩]) w fun e u2 w' => u2 = .panicking [⟨.iface 110 (.agg #[.int .i64 x]), true, false⟩] ∧ (e = .returned (.tuple #[]) ∧ Ws w ([blk bp (.cells #[.pointer (some ⟨bm, 0, none⟩)] 104 (0, 0)), blk b8 (.cells #[v80, v81, v82, v83] 53 (0, 0)), blk b9 (.cells #[v9] 3 (0, 0)), blk b10 (.cells #[v10] 26 (0, 0)), blk bm s.obj].flatMap Asr.ids) [blk bp (.cells #[.pointer (some ⟨bm, 0, none⟩)] 104 (0, 0)), blk b8 (resObj x s), blk b9 (.cells #[.int .i64 s.steps] 3 (0, 0)), blk b10 (.cells #[.int .i64 0] 26 (0, 0)), blk bm (setIn s.obj 6 [.int .i64 x])] [] w') := by
  refine closD Try.func63 rfl 31 rfl rfl rfl rfl rfl (fun _ => rfl) (.inr ⟨_, rfl, rfl, rfl⟩) ?_
  refine WL.world (W' := Ws w ([blk bp (.cells #[.pointer (some ⟨bm, 0, none⟩)] 104 (0, 0)), blk b8 (.cells #[v80, v81, v82, v83] 53 (0, 0)), blk b9 (.cells #[v9] 3 (0, 0)), blk b10 (.cells #[v10] 26 (0, 0)), blk bm s.obj].flatMap Asr.ids) [blk bp (.cells #[.pointer (some ⟨bm, 0, none⟩)] 104 (0, 0)), blk b8 (.cells #[v80, v81, v82, v83] 53 (0, 0)), blk b9 (.cells #[v9] 3 (0, 0)), blk b10 (.cells #[v10] 26 (0, 0)), blk bm s.obj] []) (fun _ e => by subst e; exact hw) ?_
  refine WL.val (.inl rfl) rfl (yl_assign rfl) ?_
  refine WL.nil ?_
  refine WE.then_normal ?_
  refine WC.seq ?_
  refine WC.region ?_
  refine WL.val (.inl rfl) rfl (yl_move rfl) ?_
  refine WL.val (.inl rfl) rfl (yl_tas ta110 rfl) ?_
  refine WL.val (.inl rfl) rfl (yl_move rfl) ?_
  refine WL.val (.inl rfl) rfl (yl_extract rfl rfl) ?_
  refine WL.val (.inl rfl) rfl (yl_extract rfl rfl) ?_
  refine WL.alloc (.inl rfl) rfl zr110 fun b5 => ?_
  refine WL.store 0 (.inl rfl) rfl rfl rfl sz110 rfl rfl rfl ?_
  refine WL.val (.inl rfl) rfl (yl_assign rfl) ?_
  refine WL.nil ?_
  refine WE.then_normal ?_
  refine WC.seq ?_
  refine WC.region ?_
  refine WL.val (.inl rfl) rfl (yl_move rfl) ?_
  refine WL.nil ?_
  refine WE.then_normal ?_
  refine WC.condt rfl ?_
  refine WC.seq ?_
  refine WC.region ?_
  refine WL.val (.inl rfl) rfl (yl_ldk 1 rfl rfl rfl na104) ?_
  refine WL.val (.inl rfl) rfl (yl_fa fo110_0 rfl) ?_
  refine WL.val (.inl rfl) rfl (yl_ldk 0 rfl rfl (v := .int .i64 x) rfl na3) ?_
  refine WL.val (.inl rfl) rfl (yl_nil rfl) ?_
  refine WL.val (.inl rfl) rfl (yl_fa fo108_6 rfl) ?_
  refine WL.val (.inl rfl) rfl (yl_fa fo53_0 rfl) ?_
  refine WL.store 5 (.inl rfl) rfl rfl rfl sz3 rfl rfl rfl ?_
  refine WL.reblk 5 (setIn s.obj 6 [.int .i64 x]) rfl rfl ?_
  refine WL.nil ?_
  refine WE.then_normal ?_
  refine WC.drawU (fun _ => true) [] [8, 9, 10] (.q true 0 (.q false 1 (.q false 2 (.q true 3 (.q true 4 (.q false 5 (.q false 6 (.q true 7 .nil)))))))) mixed (by kernel_rfl) (fun _ _ _ d _ _ h => by cases d <;> exact h) ?_
  refine WU.q rfl (.inl rfl) rfl (fun _ h => h) (yl_ldk 1 rfl rfl rfl na104) ?_
  refine WU.q rfl (.inl rfl) rfl (fun _ h => h) (yl_nil rfl) ?_
  refine WU.q rfl (.inl rfl) rfl (fun _ h => h) (yl_fa fo108_6 rfl) ?_
  refine WU.q rfl (.inl rfl) rfl (fun _ h => h) (yl_ldac ag53 rfl (cs := [.int .i64 x, .slice s.oa s.out.length s.oc, .slice s.da s.data.length s.dc, .int .i64 s.ticks]) rfl (fun w hw j v hv => by
    refine cell_of_heap (hw.kn _ (mem_of_idx (i := 5) rfl)) ?_
    match j, hv with
    | 0, hv => exact hv
    | 1, hv => exact hv
    | 2, hv => exact hv
    | 3, hv => exact hv)) ?_
  refine WU.q rfl (.inl rfl) rfl (fun _ h => h) (yl_ldk 1 rfl rfl rfl na104) ?_
  refine WU.q rfl (.inl rfl) rfl (fun _ h => h) (yl_nil rfl) ?_
  refine WU.q rfl (.inl rfl) rfl (fun _ h => h) (yl_fa fo108_2 rfl) ?_
  refine WU.q rfl (.inl rfl) rfl (fun _ h => h) (yl_ldk 5 rfl rfl rfl na3) ?_
  refine WU.nil (fun _ h => h) ?_
  refine WS.e rfl ?_
  refine WL.store 2 (.inl rfl) rfl rfl rfl sz53 rfl rfl rfl ?_
  refine WL.nil ?_
  refine WE.toS ?_
  refine WS.e rfl ?_
  refine WL.store 3 (.inl rfl) rfl rfl rfl sz3 rfl rfl rfl ?_
  refine WL.nil ?_
  refine WE.toS ?_
  refine WS.e rfl ?_
  refine WL.store 4 (.inl rfl) rfl rfl rfl sz26 rfl rfl rfl ?_
  refine WL.nil ?_
  refine WE.toS ?_
  refine WS.nil ?_
  refine WE.end0 rfl fun w' hw => ?_
  exact ⟨rfl, Ws.drop (L := [_]) hw⟩

end Go.Proofs.Ytagoencpeflmlaa
