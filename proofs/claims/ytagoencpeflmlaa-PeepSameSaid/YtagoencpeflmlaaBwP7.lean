/- Walks of the peepholes and of what the law of this claim calls, and plain laws on what they compute; each theorem tells its own conditions. -/
import Derived.Test.YtagoencpeflmlaaBwP6
namespace Go.Proofs.Ytagoencpeflmlaa
open Go.Bw
set_option linter.unusedVariables false
set_option linter.unusedSimpArgs false

def foldCode : List Ins := [⟨1, 2, 0⟩, ⟨1, 3, 0⟩, ⟨10, 11, 0⟩, ⟨1, 4, 0⟩, ⟨10, 9, 0⟩, ⟨19, 0, 0⟩, ⟨1, 0, 0⟩, ⟨12, 9, 0⟩, ⟨20, 0, 0⟩, ⟨11, 8, 0⟩]
def foldWant : List Ins := [⟨21, 0, 0⟩, ⟨21, 0, 0⟩, ⟨21, 0, 0⟩, ⟨21, 0, 0⟩, ⟨1, 10, 0⟩, ⟨19, 0, 0⟩, ⟨21, 0, 0⟩, ⟨11, 8, 0⟩, ⟨20, 0, 0⟩, ⟨11, 8, 0⟩]
def foldMarks : List Bool := [true, false, false, false, false, false, false, false, true, true]
theorem fold_marks : marksR foldCode 0 = (foldMarks, 0) := by decide
theorem fold_peep : peepR foldCode 0 = (foldWant, 0, 0) := by decide
theorem own_insb {w0 w : World} {L : List Asr} {Vs : List View} (h : Ws w0 [] L Vs w) (i : Nat) {c b e : Nat} {fz : Nat × Nat} {cur : List Ins} (hL : L[i]? = some (blk b (.cells (cur.flatMap Ins.cells).toArray e fz))) (hc : cur.length ≤ c) (hx : c ≤ 9223372036854775807) : Sl rdIns 3 (nv w0 w) (some ⟨b, 0, none⟩) c cur :=
  ⟨hc, hx, by simp, fun j x hj => ⟨b, 0, rfl, fun k v hk => h.nvc i hL (by
    have : k < 3 := (List.getElem?_eq_some_iff.1 hk).1
    simp only [cellIn, List.getElem?_toArray]
    rw [Nat.zero_add, flat_get Ins.cells_len hj this]; exact hk)⟩⟩
theorem hv_insb {w0 w : World} {F : List Nat} {L : List Asr} {Vs : List View} (h : Ws w0 F L Vs w) (i : Nat) {c b e : Nat} {fz : Nat × Nat} {cur : List Ins} (hL : L[i]? = some (blk b (.cells (cur.flatMap Ins.cells).toArray e fz))) (hc : cur.length ≤ c) (hx : c ≤ 9223372036854775807) : Sl rdIns 3 (hv w) (some ⟨b, 0, none⟩) c cur :=
  ⟨hc, hx, by simp, fun j x hj => ⟨b, 0, rfl, fun k v hk => h.hvb i hL (by
    have : k < 3 := (List.getElem?_eq_some_iff.1 hk).1
    simp only [cellIn, List.getElem?_toArray]
    rw [Nat.zero_add, flat_get Ins.cells_len hj this]; exact hk)⟩⟩
theorem rdIns_mono {H H' : View} (h : VLe H H') (b o : Nat) (x : Ins) (r : rdIns H b o x) : rdIns H' b o x := RdC.mono h r
theorem en42 : Enters Try.prog 42 := enters_of Try.func42 (by kernel_rfl) rfl
theorem en10 : Enters Try.prog 10 := enters_of Try.func10 (by kernel_rfl) rfl

theorem foldable_any (w : World) :
    Calls Try.prog 42 #[] w fun e w' => ∃ r : Option Addr × Nat, e = .returned (.agg #[.slice r.1 foldCode.length r.2, .int .i64 0]) ∧ Ext w w' ∧ Sl rdIns 3 (nv w w') r.1 r.2 foldCode := by
  refine enter Try.func42 rfl 13 rfl rfl ?_
  refine WC.world (W' := Ws w [] [] []) (fun _ e => by subst e; exact Ws.init (by simp)) ?_
  refine WC.seq ?_
  refine WC.region ?_
  refine WL.alloc (.inl rfl) rfl zr24 fun b0 => ?_
  refine WL.nil ?_
  refine WE.then_normal ?_
  refine WC.seq ?_
  refine WC.region ?_
  refine WL.val (.inl rfl) rfl (yl_build zr65 pl65 rfl rfl) ?_
  refine WL.val (.inl rfl) rfl (yl_build zr65 pl65 rfl rfl) ?_
  refine WL.val (.inl rfl) rfl (yl_build zr65 pl65 rfl rfl) ?_
  refine WL.val (.inl rfl) rfl (yl_build zr65 pl65 rfl rfl) ?_
  refine WL.val (.inl rfl) rfl (yl_build zr65 pl65 rfl rfl) ?_
  refine WL.val (.inl rfl) rfl (yl_build zr65 pl65 rfl rfl) ?_
  refine WL.val (.inl rfl) rfl (yl_build zr65 pl65 rfl rfl) ?_
  refine WL.val (.inl rfl) rfl (yl_build zr65 pl65 rfl rfl) ?_
  refine WL.val (.inl rfl) rfl (yl_build zr65 pl65 rfl rfl) ?_
  refine WL.val (.inl rfl) rfl (yl_build zr65 pl65 rfl rfl) ?_
  refine WL.bslice (.inl rfl) rfl el22 rfl rfl rfl fun b11 => ?_
  refine WL.val (.inl rfl) rfl (yl_build zr24 pl24 rfl rfl) ?_
  refine WL.store 1 (.inl rfl) rfl rfl rfl sz24 rfl rfl rfl ?_
  refine WL.nil ?_
  refine WE.then_normal ?_
  refine WC.ret ?_
  refine WE.retc1 1 rfl rfl rfl ag24 rfl fun w' hw => ?_
  exact ⟨(some ⟨b11, 0, none⟩, 10), rfl, hw.fr, own_insb (c := 10) (cur := foldCode) hw 0 rfl (by decide) (by decide)⟩

theorem peepBegun_any (w : World) :
    Calls Try.prog 14 #[] w fun e w' => e = .returned (.bool true) ∧ Ext w w' := by
  refine enter Try.func14 rfl 67 rfl rfl ?_
  refine WC.world (W' := Ws w [] [] []) (fun _ e => by subst e; exact Ws.init (by simp)) ?_
  refine WC.seq ?_
  refine WC.region ?_
  refine WL.val (.inl rfl) rfl (yl_assign rfl) ?_
  refine WL.nil ?_
  refine WE.then_normal ?_
  refine WC.seq ?_
  refine WC.region ?_
  refine WL.calld (.inl rfl) rfl en42 rfl (fun r : Option Addr × Nat => .agg #[.slice r.1 foldCode.length r.2, .int .i64 0]) (fun H r => Sl rdIns 3 H r.1 r.2 foldCode) (fun w hw => foldable_any w) ?_
  intro F8 r8 hf8 h8
  refine WL.calld (.inl rfl) rfl en9 rfl (fun r : Option Addr × Nat => .tuple #[.slice r.1 foldMarks.length r.2, .int .i64 0]) (fun H r => Sl rdBool 1 H r.1 r.2 foldMarks) (fun w hw => by
      have := marks_any F8 r8.1 r8.2 foldCode 0 w (hw.vs _ (by simp)) h8
      rw [fold_marks] at this
      exact this) ?_
  intro K r9 hfK hmk
  refine WL.val (.inl rfl) rfl (yl_move rfl) ?_
  refine WL.val (.inl rfl) rfl (yl_extract rfl rfl) ?_
  refine WL.val (.inl rfl) rfl (yl_extract rfl rfl) ?_
  refine WL.val (.inl rfl) rfl (yl_assign rfl) ?_
  refine WL.val (.inl rfl) rfl (yl_assign rfl) ?_
  refine WL.nil ?_
  refine WE.then_normal ?_
  refine WC.seq ?_
  refine WC.region ?_
  refine WL.calld (.inl rfl) rfl en42 rfl (fun r : Option Addr × Nat => .agg #[.slice r.1 foldCode.length r.2, .int .i64 0]) (fun H r => Sl rdIns 3 H r.1 r.2 foldCode) (fun w hw => foldable_any w) ?_
  intro F13 r13 hf13 h13
  refine WL.calld (.inl rfl) rfl en10 rfl (fun r : Option Addr × Nat => .tuple #[.agg #[.slice r.1 foldWant.length r.2, .int .i64 0], .int .i64 0]) (fun H r => Sl rdIns 3 H r.1 r.2 foldWant) (fun w hw => by
      have := peep_any F13 r13.1 r13.2 foldCode 0 w (hw.vs _ (by simp)) h13
      rw [fold_peep] at this
      exact this) ?_
  intro P14 r14 hfP hp14
  refine WL.val (.inl rfl) rfl (yl_move rfl) ?_
  refine WL.val (.inl rfl) rfl (yl_extract rfl rfl) ?_
  refine WL.val (.inl rfl) rfl (yl_extract rfl rfl) ?_
  refine WL.alloc (.inl rfl) rfl zr24 fun b3 => ?_
  refine WL.store 0 (.inl rfl) rfl rfl rfl sz24 rfl rfl rfl ?_
  refine WL.val (.inl rfl) rfl (yl_assign rfl) ?_
  refine WL.nil ?_
  refine WE.then_normal ?_
  refine WC.seq ?_
  refine WC.region ?_
  refine WL.val (.inl rfl) rfl (yl_build zr65 pl65 rfl rfl) ?_
  refine WL.alloc (.inl rfl) rfl zr65 fun b5 => ?_
  refine WL.store 0 (.inl rfl) rfl rfl rfl sz65 rfl rfl rfl ?_
  refine WL.nil ?_
  refine WE.then_normal ?_
  refine WC.seq ?_
  refine WC.region ?_
  refine WL.val (.inl rfl) rfl (yl_ldka 0 rfl rfl ag65 rfl) ?_
  refine WL.val (.inl rfl) rfl (yl_ldka 0 rfl rfl ag65 rfl) ?_
  refine WL.val (.inl rfl) rfl (yl_ldka 0 rfl rfl ag65 rfl) ?_
  refine WL.val (.inl rfl) rfl (yl_ldka 0 rfl rfl ag65 rfl) ?_
  refine WL.val (.inl rfl) rfl (yl_build zr65 pl65 rfl rfl) ?_
  refine WL.val (.inl rfl) rfl (yl_build zr65 pl65 rfl rfl) ?_
  refine WL.val (.inl rfl) rfl (yl_ldka 0 rfl rfl ag65 rfl) ?_
  refine WL.val (.inl rfl) rfl (yl_build zr65 pl65 rfl rfl) ?_
  refine WL.val (.inl rfl) rfl (yl_build zr65 pl65 rfl rfl) ?_
  refine WL.val (.inl rfl) rfl (yl_build zr65 pl65 rfl rfl) ?_
  refine WL.bslice (.inl rfl) rfl el22 rfl rfl rfl fun b28 => ?_
  refine WL.val (.inl rfl) rfl (yl_assign rfl) ?_
  refine WL.nil ?_
  refine WE.then_normal ?_
  refine WC.seq ?_
  obtain ⟨q0, o0, ha0, hr0⟩ := hmk.elt 0 true rfl
  obtain ⟨q8, o8, ha8, hr8⟩ := hmk.elt 8 true rfl
  obtain ⟨q9, o9, ha9, hr9⟩ := hmk.elt 9 true rfl
  obtain ⟨q7, o7, ha7, hr7⟩ := hmk.elt 7 false rfl
  refine WC.region ?_
  refine WL.val (.inl rfl) rfl (yl_move rfl) ?_
  refine WL.val (.inl rfl) rfl (yl_eq rfl rfl) ?_
  refine WL.val (.inl rfl) rfl (yl_move rfl) ?_
  apply WL.and 2 rfl rfl rfl rfl (.inl rfl) rfl rfl rfl rfl rfl
  ·
    intro hg0
    refine WL.val (.inr ⟨_, _, _, rfl, rfl, rfl⟩) rfl (yl_move rfl) ?_
    refine WL.val (.inr ⟨_, _, _, rfl, rfl, rfl⟩) rfl (yl_eq rfl rfl) ?_
    exact Got.intro 2 rfl rfl rfl
  refine WL.val (.inl rfl) rfl (yl_move rfl) ?_
  apply WL.and 3 rfl rfl rfl rfl (.inl rfl) rfl rfl rfl rfl rfl
  ·
    intro hg1
    refine WL.val (.inr ⟨_, _, _, rfl, rfl, rfl⟩) rfl (yl_move rfl) ?_
    refine WL.val (.inr ⟨_, _, _, rfl, rfl, rfl⟩) rfl (yl_len es25 rfl) ?_
    refine WL.val (.inr ⟨_, _, _, rfl, rfl, rfl⟩) rfl (yl_eq rfl rfl) ?_
    exact Got.intro 3 rfl rfl rfl
  refine WL.val (.inl rfl) rfl (yl_move rfl) ?_
  apply WL.and 3 rfl rfl rfl rfl (.inl rfl) rfl rfl rfl rfl rfl
  ·
    intro hg2
    refine WL.val (.inr ⟨_, _, _, rfl, rfl, rfl⟩) rfl (yl_move rfl) ?_
    refine WL.val (.inr ⟨_, _, _, rfl, rfl, rfl⟩) rfl (yl_iao (i := 0) es25 rfl rfl ha0 (by decide)) ?_
    refine WL.val (.inr ⟨_, _, _, rfl, rfl, rfl⟩) rfl (yl_ld 2 na4 rfl rfl (hr0)) ?_
    exact Got.intro 3 rfl rfl rfl
  refine WL.val (.inl rfl) rfl (yl_move rfl) ?_
  apply WL.and 3 rfl rfl rfl rfl (.inl rfl) rfl rfl rfl rfl rfl
  ·
    intro hg3
    refine WL.val (.inr ⟨_, _, _, rfl, rfl, rfl⟩) rfl (yl_move rfl) ?_
    refine WL.val (.inr ⟨_, _, _, rfl, rfl, rfl⟩) rfl (yl_iao (i := 8) es25 rfl rfl ha8 (by decide)) ?_
    refine WL.val (.inr ⟨_, _, _, rfl, rfl, rfl⟩) rfl (yl_ld 2 na4 rfl rfl (hr8)) ?_
    exact Got.intro 3 rfl rfl rfl
  refine WL.val (.inl rfl) rfl (yl_move rfl) ?_
  apply WL.and 3 rfl rfl rfl rfl (.inl rfl) rfl rfl rfl rfl rfl
  ·
    intro hg4
    refine WL.val (.inr ⟨_, _, _, rfl, rfl, rfl⟩) rfl (yl_move rfl) ?_
    refine WL.val (.inr ⟨_, _, _, rfl, rfl, rfl⟩) rfl (yl_iao (i := 9) es25 rfl rfl ha9 (by decide)) ?_
    refine WL.val (.inr ⟨_, _, _, rfl, rfl, rfl⟩) rfl (yl_ld 2 na4 rfl rfl (hr9)) ?_
    exact Got.intro 3 rfl rfl rfl
  refine WL.val (.inl rfl) rfl (yl_move rfl) ?_
  apply WL.and 4 rfl rfl rfl rfl (.inl rfl) rfl rfl rfl rfl rfl
  ·
    intro hg5
    refine WL.val (.inr ⟨_, _, _, rfl, rfl, rfl⟩) rfl (yl_move rfl) ?_
    refine WL.val (.inr ⟨_, _, _, rfl, rfl, rfl⟩) rfl (yl_iao (i := 7) es25 rfl rfl ha7 (by decide)) ?_
    refine WL.val (.inr ⟨_, _, _, rfl, rfl, rfl⟩) rfl (yl_ld 2 na4 rfl rfl (hr7)) ?_
    refine WL.val (.inr ⟨_, _, _, rfl, rfl, rfl⟩) rfl (yl_not rfl) ?_
    exact Got.intro 4 rfl rfl rfl
  refine WL.val (.inl rfl) rfl (yl_move rfl) ?_
  apply WL.and 4 rfl rfl rfl rfl (.inl rfl) rfl rfl rfl rfl rfl
  ·
    intro hg6
    refine WL.val (.inr ⟨_, _, _, rfl, rfl, rfl⟩) rfl (yl_fa fo24_0 rfl) ?_
    refine WL.val (.inr ⟨_, _, _, rfl, rfl, rfl⟩) rfl (yl_ldk 2 rfl rfl rfl na22) ?_
    refine WL.val (.inr ⟨_, _, _, rfl, rfl, rfl⟩) rfl (yl_move rfl) ?_
    refine WL.callp (.inr ⟨_, _, _, rfl, rfl, rfl⟩) rfl en43 rfl (fun w hw => sameCode_any (hv w) (hv w) r14.1 (some ⟨b28, 0, none⟩) r14.2 10 foldWant foldWant w (hv_le w) (hv_le w) (hp14.mono (rdIns_mono (hv_of (hw.vs P14 (by simp))))) (hv_insb (cur := foldWant) hw 0 rfl (by decide) (by decide))) ?_
    exact Got.intro 4 rfl rfl rfl
  refine WL.val (.inl rfl) rfl (yl_assign rfl) ?_
  refine WL.nil ?_
  refine WE.then_normal ?_
  refine WC.ret ?_
  refine WE.ret1 rfl rfl fun w' hw => ?_
  exact ⟨by simp [foldMarks], hw.fr⟩

end Go.Proofs.Ytagoencpeflmlaa
