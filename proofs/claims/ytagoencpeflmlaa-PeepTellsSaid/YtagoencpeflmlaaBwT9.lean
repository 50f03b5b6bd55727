/- Walks of the functions of this claim, and plain laws on what they compute; each theorem tells its own conditions. -/
import Derived.Test.YtagoencpeflmlaaBwT8
namespace Go.Proofs.Ytagoencpeflmlaa
open Go.Bw
set_option linter.unusedVariables false
set_option linter.unusedSimpArgs false

def foldCode : List Ins := [⟨1, 2, 0⟩, ⟨1, 3, 0⟩, ⟨10, 11, 0⟩, ⟨1, 4, 0⟩, ⟨10, 9, 0⟩, ⟨19, 0, 0⟩, ⟨1, 0, 0⟩, ⟨12, 9, 0⟩, ⟨20, 0, 0⟩, ⟨11, 8, 0⟩]
def foldWant : List Ins := [⟨21, 0, 0⟩, ⟨21, 0, 0⟩, ⟨21, 0, 0⟩, ⟨21, 0, 0⟩, ⟨1, 10, 0⟩, ⟨19, 0, 0⟩, ⟨21, 0, 0⟩, ⟨11, 8, 0⟩, ⟨20, 0, 0⟩, ⟨11, 8, 0⟩]
def foldMarks : List Bool := [true, false, false, false, false, false, false, false, true, true]
theorem fold_marks : marksR foldCode 0 = (foldMarks, 0) := by decide
theorem fold_peep : peepR foldCode 0 = (foldWant, 0, 0) := by decide
theorem own_insb {w0 w : World} {L : List Asr} {Vs : List View} (h : Ws w0 [] L Vs w) (i : Nat) {c b e : Nat} {fz : Nat × Nat} {cur : List Ins} (hL : L[i]? = some (blk b (.cells (cur.flatMap Ins.cells).toArray e fz))) (hc : cur.length ≤ c) (hx : c ≤ 9223372036854775807) : Sl rdIns 3 (nv w0 w) (some ⟨b, 0, none⟩) c cur :=
  ⟨hc, hx, by simp, fun j x hj => ⟨b, 0, rfl, fun k v hk => h.nvc i hL (by
    have : k < 3 := (List.getElem?_eq_some_iff.1 hk).1
    simp only [cellIn, List.getElem?_toArray]
    rw [Nat.zero_add, flat_get Ins.cells_len hj this]; exact hk)⟩⟩
theorem hv_insb {w0 w : World} {F : List Nat} {L : List Asr} {Vs : List View} (h : Ws w0 F L Vs w) (i : Nat) {c b e : Nat} {fz : Nat × Nat} {cur : List Ins} (hL : L[i]? = some (blk b (.cells (cur.flatMap Ins.cells).toArray e fz))) (hc : cur.length ≤ c) (hx : c ≤ 9223372036854775807) : Sl rdIns 3 (hv w) (some ⟨b, 0, none⟩) c cur :=
  ⟨hc, hx, by simp, fun j x hj => ⟨b, 0, rfl, fun k v hk => h.hvb i hL (by
    have : k < 3 := (List.getElem?_eq_some_iff.1 hk).1
    simp only [cellIn, List.getElem?_toArray]
    rw [Nat.zero_add, flat_get Ins.cells_len hj this]; exact hk)⟩⟩
theorem rdIns_mono {H H' : View} (h : VLe H H') (b o : Nat) (x : Ins) (r : rdIns H b o x) : rdIns H' b o x := RdC.mono h r
theorem en42 : Enters Try.prog 42 := enters_of Try.func42 (by kernel_rfl) rfl
theorem en10 : Enters Try.prog 10 := enters_of Try.func10 (by kernel_rfl) rfl
theorem en11 : Enters Try.prog 11 := enters_of Try.func11 (by kernel_rfl) rfl
theorem en13 : Enters Try.prog 13 := enters_of Try.func13 (by kernel_rfl) rfl
theorem ub4 : Try.prog.underlying 4 = some .bool := by kernel_rfl
theorem en14 : Enters Try.prog 14 := enters_of Try.func14 (by kernel_rfl) rfl
theorem en15 : Enters Try.prog 15 := enters_of Try.func15 (by kernel_rfl) rfl

theorem foldable_any (w : World) :
    Calls Try.prog 42 #[] w fun e w' => ∃ r : Option Addr × Nat, e = .returned (.agg #[.slice r.1 foldCode.length r.2, .int .i64 0]) ∧ Ext w w' ∧ Sl rdIns 3 (nv w w') r.1 r.2 foldCode := by
  refine enter Try.func42 rfl 13 rfl rfl ?_
  refine WC.world (W' := Ws w [] [] []) (fun _ e => by subst e; exact Ws.init (by simp)) ?_
  refine WC.seq ?_
  refine WC.region ?_
  refine WL.alloc (.inl rfl) rfl zr24 fun b0 => ?_
  refine WL.nil ?_
  refine WE.then_normal ?_
  refine WC.seq ?_
  refine WC.region ?_
  refine WL.val (.inl rfl) rfl (yl_build zr65 pl65 rfl rfl) ?_
  refine WL.val (.inl rfl) rfl (yl_build zr65 pl65 rfl rfl) ?_
  refine WL.val (.inl rfl) rfl (yl_build zr65 pl65 rfl rfl) ?_
  refine WL.val (.inl rfl) rfl (yl_build zr65 pl65 rfl rfl) ?_
  refine WL.val (.inl rfl) rfl (yl_build zr65 pl65 rfl rfl) ?_
  refine WL.val (.inl rfl) rfl (yl_build zr65 pl65 rfl rfl) ?_
  refine WL.val (.inl rfl) rfl (yl_build zr65 pl65 rfl rfl) ?_
  refine WL.val (.inl rfl) rfl (yl_build zr65 pl65 rfl rfl) ?_
  refine WL.val (.inl rfl) rfl (yl_build zr65 pl65 rfl rfl) ?_
  refine WL.val (.inl rfl) rfl (yl_build zr65 pl65 rfl rfl) ?_
  refine WL.bslice (.inl rfl) rfl el22 rfl rfl rfl fun b11 => ?_
  refine WL.val (.inl rfl) rfl (yl_build zr24 pl24 rfl rfl) ?_
  refine WL.store 1 (.inl rfl) rfl rfl rfl sz24 rfl rfl rfl ?_
  refine WL.nil ?_
  refine WE.then_normal ?_
  refine WC.ret ?_
  refine WE.retc1 1 rfl rfl rfl ag24 rfl fun w' hw => ?_
  exact ⟨(some ⟨b11, 0, none⟩, 10), rfl, hw.fr, own_insb (c := 10) (cur := foldCode) hw 0 rfl (by decide) (by decide)⟩

theorem peepBegun_any (w : World) :
    Calls Try.prog 14 #[] w fun e w' => e = .returned (.bool true) ∧ Ext w w' := by
  refine enter Try.func14 rfl 67 rfl rfl ?_
  refine WC.world (W' := Ws w [] [] []) (fun _ e => by subst e; exact Ws.init (by simp)) ?_
  refine WC.seq ?_
  refine WC.region ?_
  refine WL.val (.inl rfl) rfl (yl_assign rfl) ?_
  refine WL.nil ?_
  refine WE.then_normal ?_
  refine WC.seq ?_
  refine WC.region ?_
  refine WL.calld (.inl rfl) rfl en42 rfl (fun r : Option Addr × Nat => .agg #[.slice r.1 foldCode.length r.2, .int .i64 0]) (fun H r => Sl rdIns 3 H r.1 r.2 foldCode) (fun w hw => foldable_any w) ?_
  intro F8 r8 hf8 h8
  refine WL.calld (.inl rfl) rfl en9 rfl (fun r : Option Addr × Nat => .tuple #[.slice r.1 foldMarks.length r.2, .int .i64 0]) (fun H r => Sl rdBool 1 H r.1 r.2 foldMarks) (fun w hw => by
      have := marks_any F8 r8.1 r8.2 foldCode 0 w (hw.vs _ (by simp)) h8
      rw [fold_marks] at this
      exact this) ?_
  intro K r9 hfK hmk
  refine WL.val (.inl rfl) rfl (yl_move rfl) ?_
  refine WL.val (.inl rfl) rfl (yl_extract rfl rfl) ?_
  refine WL.val (.inl rfl) rfl (yl_extract rfl rfl) ?_
  refine WL.val (.inl rfl) rfl (yl_assign rfl) ?_
  refine WL.val (.inl rfl) rfl (yl_assign rfl) ?_
  refine WL.nil ?_
  refine WE.then_normal ?_
  refine WC.seq ?_
  refine WC.region ?_
  refine WL.calld (.inl rfl) rfl en42 rfl (fun r : Option Addr × Nat => .agg #[.slice r.1 foldCode.length r.2, .int .i64 0]) (fun H r => Sl rdIns 3 H r.1 r.2 foldCode) (fun w hw => foldable_any w) ?_
  intro F13 r13 hf13 h13
  refine WL.calld (.inl rfl) rfl en10 rfl (fun r : Option Addr × Nat => .tuple #[.agg #[.slice r.1 foldWant.length r.2, .int .i64 0], .int .i64 0]) (fun H r => Sl rdIns 3 H r.1 r.2 foldWant) (fun w hw => by
      have := peep_any F13 r13.1 r13.2 foldCode 0 w (hw.vs _ (by simp)) h13
      rw [fold_peep] at this
      exact this) ?_
  intro P14 r14 hfP hp14
  refine WL.val (.inl rfl) rfl (yl_move rfl) ?_
  refine WL.val (.inl rfl) rfl (yl_extract rfl rfl) ?_
  refine WL.val (.inl rfl) rfl (yl_extract rfl rfl) ?_
  refine WL.alloc (.inl rfl) rfl zr24 fun b3 => ?_
  refine WL.store 0 (.inl rfl) rfl rfl rfl sz24 rfl rfl rfl ?_
  refine WL.val (.inl rfl) rfl (yl_assign rfl) ?_
  refine WL.nil ?_
  refine WE.then_normal ?_
  refine WC.seq ?_
  refine WC.region ?_
  refine WL.val (.inl rfl) rfl (yl_build zr65 pl65 rfl rfl) ?_
  refine WL.alloc (.inl rfl) rfl zr65 fun b5 => ?_
  refine WL.store 0 (.inl rfl) rfl rfl rfl sz65 rfl rfl rfl ?_
  refine WL.nil ?_
  refine WE.then_normal ?_
  refine WC.seq ?_
  refine WC.region ?_
  refine WL.val (.inl rfl) rfl (yl_ldka 0 rfl rfl ag65 rfl) ?_
  refine WL.val (.inl rfl) rfl (yl_ldka 0 rfl rfl ag65 rfl) ?_
  refine WL.val (.inl rfl) rfl (yl_ldka 0 rfl rfl ag65 rfl) ?_
  refine WL.val (.inl rfl) rfl (yl_ldka 0 rfl rfl ag65 rfl) ?_
  refine WL.val (.inl rfl) rfl (yl_build zr65 pl65 rfl rfl) ?_
  refine WL.val (.inl rfl) rfl (yl_build zr65 pl65 rfl rfl) ?_
  refine WL.val (.inl rfl) rfl (yl_ldka 0 rfl rfl ag65 rfl) ?_
  refine WL.val (.inl rfl) rfl (yl_build zr65 pl65 rfl rfl) ?_
  refine WL.val (.inl rfl) rfl (yl_build zr65 pl65 rfl rfl) ?_
  refine WL.val (.inl rfl) rfl (yl_build zr65 pl65 rfl rfl) ?_
  refine WL.bslice (.inl rfl) rfl el22 rfl rfl rfl fun b28 => ?_
  refine WL.val (.inl rfl) rfl (yl_assign rfl) ?_
  refine WL.nil ?_
  refine WE.then_normal ?_
  refine WC.seq ?_
  obtain ⟨q0, o0, ha0, hr0⟩ := hmk.elt 0 true rfl
  obtain ⟨q8, o8, ha8, hr8⟩ := hmk.elt 8 true rfl
  obtain ⟨q9, o9, ha9, hr9⟩ := hmk.elt 9 true rfl
  obtain ⟨q7, o7, ha7, hr7⟩ := hmk.elt 7 false rfl
  refine WC.region ?_
  refine WL.val (.inl rfl) rfl (yl_move rfl) ?_
  refine WL.val (.inl rfl) rfl (yl_eq rfl rfl) ?_
  refine WL.val (.inl rfl) rfl (yl_move rfl) ?_
  apply WL.and 2 rfl rfl rfl rfl (.inl rfl) rfl rfl rfl rfl rfl
  ·
    intro hg0
    refine WL.val (.inr ⟨_, _, _, rfl, rfl, rfl⟩) rfl (yl_move rfl) ?_
    refine WL.val (.inr ⟨_, _, _, rfl, rfl, rfl⟩) rfl (yl_eq rfl rfl) ?_
    exact Got.intro 2 rfl rfl rfl
  refine WL.val (.inl rfl) rfl (yl_move rfl) ?_
  apply WL.and 3 rfl rfl rfl rfl (.inl rfl) rfl rfl rfl rfl rfl
  ·
    intro hg1
    refine WL.val (.inr ⟨_, _, _, rfl, rfl, rfl⟩) rfl (yl_move rfl) ?_
    refine WL.val (.inr ⟨_, _, _, rfl, rfl, rfl⟩) rfl (yl_len es25 rfl) ?_
    refine WL.val (.inr ⟨_, _, _, rfl, rfl, rfl⟩) rfl (yl_eq rfl rfl) ?_
    exact Got.intro 3 rfl rfl rfl
  refine WL.val (.inl rfl) rfl (yl_move rfl) ?_
  apply WL.and 3 rfl rfl rfl rfl (.inl rfl) rfl rfl rfl rfl rfl
  ·
    intro hg2
    refine WL.val (.inr ⟨_, _, _, rfl, rfl, rfl⟩) rfl (yl_move rfl) ?_
    refine WL.val (.inr ⟨_, _, _, rfl, rfl, rfl⟩) rfl (yl_iao (i := 0) es25 rfl rfl ha0 (by decide)) ?_
    refine WL.val (.inr ⟨_, _, _, rfl, rfl, rfl⟩) rfl (yl_ld 2 na4 rfl rfl (hr0)) ?_
    exact Got.intro 3 rfl rfl rfl
  refine WL.val (.inl rfl) rfl (yl_move rfl) ?_
  apply WL.and 3 rfl rfl rfl rfl (.inl rfl) rfl rfl rfl rfl rfl
  ·
    intro hg3
    refine WL.val (.inr ⟨_, _, _, rfl, rfl, rfl⟩) rfl (yl_move rfl) ?_
    refine WL.val (.inr ⟨_, _, _, rfl, rfl, rfl⟩) rfl (yl_iao (i := 8) es25 rfl rfl ha8 (by decide)) ?_
    refine WL.val (.inr ⟨_, _, _, rfl, rfl, rfl⟩) rfl (yl_ld 2 na4 rfl rfl (hr8)) ?_
    exact Got.intro 3 rfl rfl rfl
  refine WL.val (.inl rfl) rfl (yl_move rfl) ?_
  apply WL.and 3 rfl rfl rfl rfl (.inl rfl) rfl rfl rfl rfl rfl
  ·
    intro hg4
    refine WL.val (.inr ⟨_, _, _, rfl, rfl, rfl⟩) rfl (yl_move rfl) ?_
    refine WL.val (.inr ⟨_, _, _, rfl, rfl, rfl⟩) rfl (yl_iao (i := 9) es25 rfl rfl ha9 (by decide)) ?_
    refine WL.val (.inr ⟨_, _, _, rfl, rfl, rfl⟩) rfl (yl_ld 2 na4 rfl rfl (hr9)) ?_
    exact Got.intro 3 rfl rfl rfl
  refine WL.val (.inl rfl) rfl (yl_move rfl) ?_
  apply WL.and 4 rfl rfl rfl rfl (.inl rfl) rfl rfl rfl rfl rfl
  ·
    intro hg5
    refine WL.val (.inr ⟨_, _, _, rfl, rfl, rfl⟩) rfl (yl_move rfl) ?_
    refine WL.val (.inr ⟨_, _, _, rfl, rfl, rfl⟩) rfl (yl_iao (i := 7) es25 rfl rfl ha7 (by decide)) ?_
    refine WL.val (.inr ⟨_, _, _, rfl, rfl, rfl⟩) rfl (yl_ld 2 na4 rfl rfl (hr7)) ?_
    refine WL.val (.inr ⟨_, _, _, rfl, rfl, rfl⟩) rfl (yl_not rfl) ?_
    exact Got.intro 4 rfl rfl rfl
  refine WL.val (.inl rfl) rfl (yl_move rfl) ?_
  apply WL.and 4 rfl rfl rfl rfl (.inl rfl) rfl rfl rfl rfl rfl
  ·
    intro hg6
    refine WL.val (.inr ⟨_, _, _, rfl, rfl, rfl⟩) rfl (yl_fa fo24_0 rfl) ?_
    refine WL.val (.inr ⟨_, _, _, rfl, rfl, rfl⟩) rfl (yl_ldk 2 rfl rfl rfl na22) ?_
    refine WL.val (.inr ⟨_, _, _, rfl, rfl, rfl⟩) rfl (yl_move rfl) ?_
    refine WL.callp (.inr ⟨_, _, _, rfl, rfl, rfl⟩) rfl en43 rfl (fun w hw => sameCode_any (hv w) (hv w) r14.1 (some ⟨b28, 0, none⟩) r14.2 10 foldWant foldWant w (hv_le w) (hv_le w) (hp14.mono (rdIns_mono (hv_of (hw.vs P14 (by simp))))) (hv_insb (cur := foldWant) hw 0 rfl (by decide) (by decide))) ?_
    exact Got.intro 4 rfl rfl rfl
  refine WL.val (.inl rfl) rfl (yl_assign rfl) ?_
  refine WL.nil ?_
  refine WE.then_normal ?_
  refine WC.ret ?_
  refine WE.ret1 rfl rfl fun w' hw => ?_
  exact ⟨by simp [foldMarks], hw.fr⟩

theorem peepTells_any (H : View) (a : Option Addr) (c : Nat) (code : List Ins) (data : Int) (w : World) (hH : Le H w) (hm : Sl rdIns 3 H a c code) :
    Calls Try.prog 3 #[.agg #[.slice a code.length c, .int .i64 data]] w fun e w' => e = .returned (.bool true) ∧ Ext w w' := by
  have hcap := hm.cap
  have hmax := hm.max
  refine enter Try.func3 rfl 65 rfl rfl ?_
  refine WC.world (W' := Ws w [] [] [H]) (fun _ e => by subst e; exact Ws.init (by simp [hH])) ?_
  refine WC.seq ?_
  refine WC.region ?_
  refine WL.box (.inl rfl) rfl rfl fun b1 => ?_
  refine WL.val (.inl rfl) rfl (yl_assign rfl) ?_
  refine WL.nil ?_
  refine WE.then_normal ?_
  refine WC.seq ?_
  refine WC.region ?_
  refine WL.val (.inl rfl) rfl (yl_ldka 0 rfl rfl ag24 rfl) ?_
  refine WL.calld (.inl rfl) rfl en9 rfl (fun r : Option Addr × Nat => .tuple #[.slice r.1 (marksR code data).1.length r.2, .int .i64 (marksR code data).2]) (fun H r => Sl rdBool 1 H r.1 r.2 (marksR code data).1) (fun w hw => marks_any H a c code data w (hw.vs _ (by simp)) hm) ?_
  intro K r13 hfK hmk
  refine WL.val (.inl rfl) rfl (yl_move rfl) ?_
  refine WL.val (.inl rfl) rfl (yl_extract rfl rfl) ?_
  refine WL.val (.inl rfl) rfl (yl_extract rfl rfl) ?_
  refine WL.val (.inl rfl) rfl (yl_assign rfl) ?_
  refine WL.val (.inl rfl) rfl (yl_assign rfl) ?_
  refine WL.nil ?_
  refine WE.then_normal ?_
  refine WC.seq ?_
  refine WC.region ?_
  refine WL.val (.inl rfl) rfl (yl_ldka 0 rfl rfl ag24 rfl) ?_
  refine WL.calld (.inl rfl) rfl en10 rfl (fun r : Option Addr × Nat => .tuple #[.agg #[.slice r.1 (peepR code data).1.length r.2, .int .i64 (peepR code data).2.1], .int .i64 (peepR code data).2.2]) (fun H r => Sl rdIns 3 H r.1 r.2 (peepR code data).1) (fun w hw => peep_any H a c code data w (hw.vs _ (by simp)) hm) ?_
  intro P r18 hfP hp
  refine WL.val (.inl rfl) rfl (yl_move rfl) ?_
  refine WL.val (.inl rfl) rfl (yl_extract rfl rfl) ?_
  refine WL.val (.inl rfl) rfl (yl_extract rfl rfl) ?_
  refine WL.alloc (.inl rfl) rfl zr24 fun b5 => ?_
  refine WL.store 0 (.inl rfl) rfl rfl rfl sz24 rfl rfl rfl ?_
  refine WL.val (.inl rfl) rfl (yl_assign rfl) ?_
  refine WL.nil ?_
  refine WE.then_normal ?_
  refine WC.seq ?_
  refine WC.region ?_
  refine WL.val (.inl rfl) rfl (yl_ldka 1 rfl rfl ag24 rfl) ?_
  refine WL.callp (.inl rfl) rfl en11 rfl (fun w hw => checkImage_any H a c code data _ (hw.vs _ (by simp)) hm) ?_
  refine WL.val (.inl rfl) rfl (yl_assign rfl) ?_
  refine WL.nil ?_
  refine WE.then_normal ?_
  refine WC.seq ?_
  refine WC.region ?_
  refine WL.val (.inl rfl) rfl (yl_assign rfl) ?_
  refine WL.nil ?_
  refine WE.then_normal ?_
  refine WC.seq ?_
  refine WC.region ?_
  refine WL.alloc (.inl rfl) rfl zr24 fun b9 => ?_
  refine WL.nil ?_
  refine WE.then_normal ?_
  refine WC.seq ?_
  refine WC.seq ?_
  refine WC.region ?_
  refine WL.val (.inl rfl) rfl (yl_move rfl) ?_
  refine WL.val (.inl rfl) rfl (yl_eq rfl rfl) ?_
  refine WL.nil ?_
  refine WE.then_normal ?_
  refine WC.cond rfl (fun hc0 => ?_) (fun hc0 => ?_)
  ·
    have hz : checkImg code data = 0 := by simpa using hc0
    obtain ⟨hpos, hle⟩ := check_len hz
    have hM : marksR code data = (marks code, 0) := by simp [marksR, hz]
    have hP : peepR code data = (peepL code, data, 0) := by simp [peepR, hz]
    rw [hM] at hmk
    rw [hP] at hp
    rw [hM, hP]
    refine WC.draws1 0 [(0, true), (2, true), (1, false), (3, false), (4, true), (5, false)] mixed (by kernel_rfl) (fun _ _ _ d _ h => by cases d <;> exact h) ?_
    refine WD.q rfl (.inl rfl) rfl (fun _ h => by have h := Ws.out 0 h; exact h) (yl_ldka 1 rfl rfl ag24 rfl) ?_
    refine WD.q rfl (.inl rfl) rfl (fun _ h => by have h := Ws.out 0 h; exact h) (yl_ldka 1 rfl rfl ag24 rfl) ?_
    refine WD.e rfl (fun _ h => by have h := Ws.out 0 h; exact h) ?_
    refine WL.calld (.inl rfl) rfl en12 rfl (fun r : Option Addr × Nat => .slice r.1 (marks code).length r.2) (fun H r => Sl rdBool 1 H r.1 r.2 (marks code)) (fun w hw => marksOf_any H a c code data w (hw.vs _ (by simp)) hm hpos hle) ?_
    intro M r26 hfM hmk2
    refine WL.nil ?_
    refine WE.toD ?_
    refine WD.e rfl (fun _ h => by have h := Ws.out 0 h; have h := Ws.drops h (fun _ hm => List.mem_append_right [_] hm); exact h) ?_
    refine WL.calld (.inl rfl) rfl en13 rfl (fun r : Option Addr × Nat => .agg #[.slice r.1 (peepL code).length r.2, .int .i64 data]) (fun H r => Sl rdIns 3 H r.1 r.2 (peepL code)) (fun w hw => peepOf_any H a c code data w (hw.vs _ (by simp)) hm hz) ?_
    intro Q r28 hfQ hq
    refine WL.nil ?_
    refine WE.toD ?_
    refine WD.q rfl (.inl rfl) rfl (fun _ h => by have h := Ws.out 0 h; have h := Ws.drops h (fun _ hm => List.mem_append_right [_, _] hm); exact h) (yl_assign rfl) ?_
    refine WD.e rfl (fun _ h => by have h := Ws.out 0 h; have h := Ws.drops h (fun _ hm => List.mem_append_right [_, _] hm); exact h) ?_
    refine WL.store 0 (.inl rfl) rfl rfl rfl sz24 rfl rfl rfl ?_
    refine WL.nil ?_
    refine WE.toD ?_
    refine WD.nil (fun _ h => by have h := Ws.out 0 h; have h := Ws.drops h (fun _ hm => List.mem_append_right [_, _] hm); exact h) ?_
    refine WE.then_normal ?_
    refine WC.seq ?_
    refine WC.seq ?_
    refine WC.region ?_
    refine WL.val (.inl rfl) rfl (yl_move rfl) ?_
    refine WL.val (.inl rfl) rfl (yl_len es25 rfl) ?_
    refine WL.val (.inl rfl) rfl (yl_move rfl) ?_
    refine WL.val (.inl rfl) rfl (yl_len es25 rfl) ?_
    refine WL.val (.inl rfl) rfl (yl_ne rfl rfl) ?_
    refine WL.nil ?_
    refine WE.then_normal ?_
    refine WC.cond rfl (fun hc1 => ?_) (fun hc1 => ?_)
    ·
      simp at hc1
    ·
      refine WC.skip ?_
      refine WE.then_normal ?_
      refine WC.seq ?_
      refine WC.seq ?_
      refine WC.region ?_
      refine WL.val (.inl rfl) rfl (yl_assign rfl) ?_
      refine WL.nil ?_
      refine WE.then_normal ?_
      refine WC.block ?_
      refine WC.loopW (ι := Nat) (fun i => [(10, .int .i64 (i : Int))]) [(3, _), (4, _), (5, _), (6, _), (7, _), (8, _), (9, _)] (fun i => True) (fun i => (marks code).length - i) 0 trivial (sc rfl (sc rfl (sc rfl (sc rfl (sc rfl (sc rfl (sc rfl (sc rfl sn)))))))) ?_
      intro i _
      refine WC.seq ?_
      refine WC.seq ?_
      refine WC.region ?_
      refine WL.val (.inl rfl) rfl (yl_move rfl) ?_
      refine WL.val (.inl rfl) rfl (yl_move rfl) ?_
      refine WL.val (.inl rfl) rfl (yl_len es25 rfl) ?_
      refine WL.val (.inl rfl) rfl (yl_lt rfl rfl) ?_
      refine WL.nil ?_
      refine WE.then_normal ?_
      refine WC.cond rfl (fun hc2 => ?_) (fun hc2 => ?_)
      ·
        have hlt : i < (marks code).length := by simpa using hc2
        obtain ⟨x, hb⟩ : ∃ x, (marks code)[i]? = some x := ⟨_, List.getElem?_eq_getElem hlt⟩
        obtain ⟨q1, o1, ha1, hr1⟩ := hmk.elt i x hb
        obtain ⟨q2, o2, ha2, hr2⟩ := hmk2.elt i x hb
        have hcap1 := hmk.cap
        have hmax1 := hmk.max
        refine WC.skip ?_
        refine WE.then_normal ?_
        refine WC.seq ?_
        refine WC.block ?_
        refine WC.seq ?_
        refine WC.draws0 [(0, true), (1, true), (2, true), (3, true), (4, true), (5, true), (6, true), (7, true), (8, true)] mixed (by kernel_rfl) (fun _ _ _ d _ h => by cases d <;> exact h) ?_
        refine WD.q rfl (.inl rfl) rfl (fun _ h => h) (yl_move rfl) ?_
        refine WD.q rfl (.inl rfl) rfl (fun _ h => h) (yl_move rfl) ?_
        refine WD.q rfl (.inl rfl) rfl (fun _ h => h) (yl_iao es25 rfl rfl ha1 (by simpa using hlt)) ?_
        refine WD.q rfl (.inl rfl) rfl (fun _ h => h) (yl_ld 3 na4 rfl rfl (hr1)) ?_
        refine WD.q rfl (.inl rfl) rfl (fun _ h => h) (yl_move rfl) ?_
        refine WD.q rfl (.inl rfl) rfl (fun _ h => h) (yl_move rfl) ?_
        refine WD.q rfl (.inl rfl) rfl (fun _ h => h) (yl_iao es25 rfl rfl ha2 (by simpa using hlt)) ?_
        refine WD.q rfl (.inl rfl) rfl (fun _ h => h) (yl_ld 1 na4 rfl rfl (hr2)) ?_
        refine WD.q rfl (.inl rfl) rfl (fun _ h => h) (yl_neb ub4 rfl rfl) ?_
        refine WD.nil (fun _ h => h) ?_
        refine WE.then_normal ?_
        refine WC.cond rfl (fun hc3 => ?_) (fun hc3 => ?_)
        ·
          simp at hc3
        ·
          refine WC.skip ?_
          refine WE.block_normal ?_
          refine WE.then_normal ?_
          refine WC.region ?_
          refine WL.val (.inl rfl) rfl (yl_move rfl) ?_
          refine WL.val (.inl rfl) rfl (yl_inc rfl rfl rfl (by simp at hcap1; omega)) ?_
          refine WL.val (.inl rfl) rfl (yl_assign rfl) ?_
          refine WL.nil ?_
          exact WE.again (i + 1) (by omega) trivial (sc rfl (sc rfl (sc rfl (sc rfl (sc rfl (sc rfl (sc rfl (sc rfl sn)))))))) (fun _ h => h)
      ·
        refine WC.exit ?_
        refine WE.then_exit ?_
        refine WE.then_exit ?_
        refine WE.block_hit ?_
        refine WE.then_normal ?_
        refine WC.seq ?_
        refine WC.region ?_
        refine WL.callp (.inl rfl) rfl en14 rfl (fun w hw => peepBegun_any w) ?_
        refine WL.val (.inl rfl) rfl (yl_move rfl) ?_
        apply WL.and 3 rfl rfl rfl rfl (.inl rfl) rfl rfl rfl rfl rfl
        ·
          intro hg0
          refine WL.val (.inr ⟨_, _, _, rfl, rfl, rfl⟩) rfl (yl_move rfl) ?_
          refine WL.val (.inr ⟨_, _, _, rfl, rfl, rfl⟩) rfl (yl_move rfl) ?_
          refine WL.val (.inr ⟨_, _, _, rfl, rfl, rfl⟩) rfl (yl_eq rfl rfl) ?_
          exact Got.intro 3 rfl rfl rfl
        refine WL.val (.inl rfl) rfl (yl_move rfl) ?_
        apply WL.and 3 rfl rfl rfl rfl (.inl rfl) rfl rfl rfl rfl rfl
        ·
          intro hg1
          refine WL.val (.inr ⟨_, _, _, rfl, rfl, rfl⟩) rfl (yl_move rfl) ?_
          refine WL.val (.inr ⟨_, _, _, rfl, rfl, rfl⟩) rfl (yl_move rfl) ?_
          refine WL.val (.inr ⟨_, _, _, rfl, rfl, rfl⟩) rfl (yl_eq rfl rfl) ?_
          exact Got.intro 3 rfl rfl rfl
        refine WL.val (.inl rfl) rfl (yl_move rfl) ?_
        apply WL.and 3 rfl rfl rfl rfl (.inl rfl) rfl rfl rfl rfl rfl
        ·
          intro hg2
          refine WL.val (.inr ⟨_, _, _, rfl, rfl, rfl⟩) rfl (yl_ldka 1 rfl rfl ag24 rfl) ?_
          refine WL.val (.inr ⟨_, _, _, rfl, rfl, rfl⟩) rfl (yl_ldka 0 rfl rfl ag24 rfl) ?_
          refine WL.callp (.inr ⟨_, _, _, rfl, rfl, rfl⟩) rfl en15 rfl (fun w hw => sameImages_any P Q r18.1 r28.1 r18.2 r28.2 (peepL code) (peepL code) data data w (hw.vs _ (by simp)) (hw.vs _ (by simp)) hp hq) ?_
          exact Got.intro 3 rfl rfl rfl
        refine WL.val (.inl rfl) rfl (yl_assign rfl) ?_
        refine WL.nil ?_
        refine WE.then_normal ?_
        refine WC.ret ?_
        refine WE.ret1 rfl rfl fun w' hw => ?_
        exact ⟨by simp [hz], hw.fr⟩
  ·
    have hz : ¬ checkImg code data = 0 := by simpa using hc0
    have hM : marksR code data = ([], checkImg code data) := by simp [marksR, hz]
    have hP : peepR code data = ([], 0, checkImg code data) := by simp [peepR, hz]
    rw [hM] at hmk
    rw [hP] at hp
    rw [hM, hP]
    refine WC.skip ?_
    refine WE.then_normal ?_
    refine WC.seq ?_
    refine WC.seq ?_
    refine WC.region ?_
    refine WL.val (.inl rfl) rfl (yl_move rfl) ?_
    refine WL.val (.inl rfl) rfl (yl_len es25 rfl) ?_
    refine WL.val (.inl rfl) rfl (yl_move rfl) ?_
    refine WL.val (.inl rfl) rfl (yl_len es25 rfl) ?_
    refine WL.val (.inl rfl) rfl (yl_ne rfl rfl) ?_
    refine WL.nil ?_
    refine WE.then_normal ?_
    refine WC.cond rfl (fun hc1 => ?_) (fun hc1 => ?_)
    ·
      simp at hc1
    ·
      refine WC.skip ?_
      refine WE.then_normal ?_
      refine WC.seq ?_
      refine WC.seq ?_
      refine WC.region ?_
      refine WL.val (.inl rfl) rfl (yl_assign rfl) ?_
      refine WL.nil ?_
      refine WE.then_normal ?_
      refine WC.block ?_
      refine WC.loopW (ι := Nat) (fun i => [(10, .int .i64 (i : Int))]) [(3, _), (4, _), (5, _), (6, _), (7, _), (8, _), (9, _)] (fun i => True) (fun i => (marks code).length - i) 0 trivial (sc rfl (sc rfl (sc rfl (sc rfl (sc rfl (sc rfl (sc rfl (sc rfl sn)))))))) ?_
      intro i _
      refine WC.seq ?_
      refine WC.seq ?_
      refine WC.region ?_
      refine WL.val (.inl rfl) rfl (yl_move rfl) ?_
      refine WL.val (.inl rfl) rfl (yl_move rfl) ?_
      refine WL.val (.inl rfl) rfl (yl_len es25 rfl) ?_
      refine WL.val (.inl rfl) rfl (yl_lt rfl rfl) ?_
      refine WL.nil ?_
      refine WE.then_normal ?_
      refine WC.cond rfl (fun hc2 => ?_) (fun hc2 => ?_)
      ·
        exfalso
        simp at hc2
        omega
      ·
        refine WC.exit ?_
        refine WE.then_exit ?_
        refine WE.then_exit ?_
        refine WE.block_hit ?_
        refine WE.then_normal ?_
        refine WC.seq ?_
        refine WC.region ?_
        refine WL.callp (.inl rfl) rfl en14 rfl (fun w hw => peepBegun_any w) ?_
        refine WL.val (.inl rfl) rfl (yl_move rfl) ?_
        apply WL.and 3 rfl rfl rfl rfl (.inl rfl) rfl rfl rfl rfl rfl
        ·
          intro hg0
          refine WL.val (.inr ⟨_, _, _, rfl, rfl, rfl⟩) rfl (yl_move rfl) ?_
          refine WL.val (.inr ⟨_, _, _, rfl, rfl, rfl⟩) rfl (yl_move rfl) ?_
          refine WL.val (.inr ⟨_, _, _, rfl, rfl, rfl⟩) rfl (yl_eq rfl rfl) ?_
          exact Got.intro 3 rfl rfl rfl
        refine WL.val (.inl rfl) rfl (yl_move rfl) ?_
        apply WL.and 3 rfl rfl rfl rfl (.inl rfl) rfl rfl rfl rfl rfl
        ·
          intro hg1
          refine WL.val (.inr ⟨_, _, _, rfl, rfl, rfl⟩) rfl (yl_move rfl) ?_
          refine WL.val (.inr ⟨_, _, _, rfl, rfl, rfl⟩) rfl (yl_move rfl) ?_
          refine WL.val (.inr ⟨_, _, _, rfl, rfl, rfl⟩) rfl (yl_eq rfl rfl) ?_
          exact Got.intro 3 rfl rfl rfl
        refine WL.val (.inl rfl) rfl (yl_move rfl) ?_
        apply WL.and 3 rfl rfl rfl rfl (.inl rfl) rfl rfl rfl rfl rfl
        ·
          intro hg2
          refine WL.val (.inr ⟨_, _, _, rfl, rfl, rfl⟩) rfl (yl_ldka 1 rfl rfl ag24 rfl) ?_
          refine WL.val (.inr ⟨_, _, _, rfl, rfl, rfl⟩) rfl (yl_ldka 0 rfl rfl ag24 rfl) ?_
          refine WL.callp (.inr ⟨_, _, _, rfl, rfl, rfl⟩) rfl en15 rfl (fun w hw => sameImages_any P P r18.1 none r18.2 0 [] [] 0 0 w (hw.vs _ (by simp)) (hw.vs _ (by simp)) hp Sl.nil) ?_
          exact Got.intro 3 rfl rfl rfl
        refine WL.val (.inl rfl) rfl (yl_assign rfl) ?_
        refine WL.nil ?_
        refine WE.then_normal ?_
        refine WC.ret ?_
        refine WE.ret1 rfl rfl fun w' hw => ?_
        exact ⟨by simp [hz], hw.fr⟩

end Go.Proofs.Ytagoencpeflmlaa
