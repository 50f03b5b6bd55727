/- Walks of the functions of this claim, and plain laws on what they compute; each theorem tells its own conditions. -/
import Derived.Test.YtagoencpeflmlaaRows
import Derived.Test.YtagoencpeflmlaaBwF17
namespace Go.Proofs.Ytagoencpeflmlaa
open Go.Bw
set_option linter.unusedVariables false
set_option linter.unusedSimpArgs false
theorem en58 : Enters Try.prog 58 := enters_of Try.func58 (by kernel_rfl) rfl
theorem en16 : Enters Try.prog 16 := enters_of Try.func16 (by kernel_rfl) rfl
theorem en19 : Enters Try.prog 19 := enters_of Try.func19 (by kernel_rfl) rfl
theorem en21 : Enters Try.prog 21 := enters_of Try.func21 (by kernel_rfl) rfl
theorem en20 : Enters Try.prog 20 := enters_of Try.func20 (by kernel_rfl) rfl
theorem en22 : Enters Try.prog 22 := enters_of Try.func22 (by kernel_rfl) rfl

theorem faceBegun_any (w : World) :
    Calls Try.prog 20 #[] w fun e w' => e = .returned (.bool true) ∧ Ext w w' := by
  refine enter Try.func20 rfl 43 rfl rfl ?_
  refine WC.world (W' := Ws w [] [] []) (fun _ e => by subst e; exact Ws.init (by simp)) ?_
  refine WC.seq ?_
  refine WC.region ?_
  refine WL.val (.inl rfl) rfl (yl_assign rfl) ?_
  refine WL.nil ?_
  refine WE.then_normal ?_
  refine WC.seq ?_
  refine WC.region ?_
  refine WL.calld (.inl rfl) rfl en58 rfl (fun r : Option Addr × Nat => .agg #[st cntN, .slice r.1 cntI.length r.2]) (fun H r => Sl rdItem 4 H r.1 r.2 cntI) (fun w hw => counted_any w) ?_
  intro F8 r8 hf8 h8
  refine WL.callp (.inl rfl) rfl en16 rfl (fun w hw => by
      have := faceWrite_any F8 r8.1 r8.2 cntN cntI w (hw.vs _ (by simp)) h8
      rw [cnt_write] at this
      exact this) ?_
  refine WL.val (.inl rfl) rfl (yl_move rfl) ?_
  refine WL.val (.inl rfl) rfl (yl_extract rfl rfl) ?_
  refine WL.val (.inl rfl) rfl (yl_extract rfl rfl) ?_
  refine WL.val (.inl rfl) rfl (yl_assign rfl) ?_
  refine WL.val (.inl rfl) rfl (yl_assign rfl) ?_
  refine WL.nil ?_
  refine WE.then_normal ?_
  refine WC.seq ?_
  refine WC.region ?_
  refine WL.val (.inl rfl) rfl (yl_move rfl) ?_
  refine WL.calld (.inl rfl) rfl en19 rfl (fun r : Option Addr × Nat => .tuple #[.agg #[st cntN, .slice r.1 cntI.length r.2], .int .i64 0]) (fun H r => Sl rdItem 4 H r.1 r.2 cntI) (fun w hw => by
      have := faceReadD_any cntT w (by rw [cnt_len]; decide)
      rw [cnt_read] at this
      exact this) ?_
  intro F14 r14 hf14 h14
  refine WL.val (.inl rfl) rfl (yl_move rfl) ?_
  refine WL.val (.inl rfl) rfl (yl_extract rfl rfl) ?_
  refine WL.val (.inl rfl) rfl (yl_extract rfl rfl) ?_
  refine WL.alloc (.inl rfl) rfl zr39 fun b3 => ?_
  refine WL.store 0 (.inl rfl) rfl rfl rfl sz39 rfl rfl rfl ?_
  refine WL.val (.inl rfl) rfl (yl_assign rfl) ?_
  refine WL.nil ?_
  refine WE.then_normal ?_
  refine WC.seq ?_
  refine WC.region ?_
  refine WL.val (.inl rfl) rfl (yl_move rfl) ?_
  refine WL.val (.inl rfl) rfl (yl_cats rfl rfl (by rw [cnt_len]; decide)) ?_
  refine WL.calld (.inl rfl) rfl en19 rfl (fun r : Option Addr × Nat => .tuple #[.agg #[st [], .slice r.1 ([] : List Item).length r.2], .int .i64 1]) (fun H r => Sl rdItem 4 H r.1 r.2 []) (fun w hw => by
      have := faceReadD_any (cntT ++ [120]) w (by simp [cnt_len])
      rw [cnt_read2] at this
      exact this) ?_
  intro F20 r20 hf20 h20
  refine WL.val (.inl rfl) rfl (yl_move rfl) ?_
  refine WL.val (.inl rfl) rfl (yl_extract rfl rfl) ?_
  refine WL.val (.inl rfl) rfl (yl_extract rfl rfl) ?_
  refine WL.alloc (.inl rfl) rfl zr39 fun b5 => ?_
  refine WL.store 0 (.inl rfl) rfl rfl rfl sz39 rfl rfl rfl ?_
  refine WL.val (.inl rfl) rfl (yl_assign rfl) ?_
  refine WL.nil ?_
  refine WE.then_normal ?_
  refine WC.seq ?_
  refine WC.draws0 [(0, true), (1, true), (2, true), (3, true), (4, true), (5, true), (6, true), (7, true), (8, true), (9, true), (10, true), (11, true), (12, false), (13, false), (14, true), (15, true), (16, true), (17, true), (18, true), (19, true), (20, true)] mixed (by kernel_rfl) (fun _ _ _ d _ h => by cases d <;> exact h) ?_
  refine WD.q rfl (.inl rfl) rfl (fun _ h => h) (yl_move rfl) ?_
  refine WD.q rfl (.inl rfl) rfl (fun _ h => h) (yl_eq rfl rfl) ?_
  refine WD.q rfl (.inl rfl) rfl (fun _ h => h) (yl_move rfl) ?_
  refine WD.q rfl (.inr ⟨_, _, _, rfl, rfl, rfl⟩) rfl (fun _ h => h) (yl_move rfl) ?_
  refine WD.q rfl (.inr ⟨_, _, _, rfl, rfl, rfl⟩) rfl (fun _ h => h) (yl_eq rfl rfl) ?_
  refine WD.q rfl (.inl rfl) rfl (fun _ h => h) (yl_pick rfl rfl rfl) ?_
  refine WD.q rfl (.inl rfl) rfl (fun _ h => h) (yl_move rfl) ?_
  refine WD.q rfl (.inr ⟨_, _, _, rfl, rfl, rfl⟩) rfl (fun _ h => h) (yl_move rfl) ?_
  refine WD.q rfl (.inr ⟨_, _, _, rfl, rfl, rfl⟩) rfl (fun _ h => h) (yl_eq rfl rfl) ?_
  refine WD.q rfl (.inl rfl) rfl (fun _ h => h) (yl_pick rfl rfl rfl) ?_
  refine WD.q rfl (.inl rfl) rfl (fun _ h => h) (yl_move rfl) ?_
  refine WD.q rfl (.inr ⟨_, _, _, rfl, rfl, rfl⟩) rfl (fun _ h => h) (yl_ldka 1 rfl rfl ag39 rfl) ?_
  refine WD.e rfl (fun _ h => h) ?_
  refine WL.calld (.inr ⟨_, _, _, rfl, rfl, rfl⟩) rfl en58 rfl (fun r : Option Addr × Nat => .agg #[st cntN, .slice r.1 cntI.length r.2]) (fun H r => Sl rdItem 4 H r.1 r.2 cntI) (fun w hw => counted_any w) ?_
  intro F35 r35 hf35 h35
  refine WL.nil ?_
  refine WE.toD ?_
  refine WD.e rfl (fun _ h => by have h := Ws.drops h (fun _ hm => List.mem_append_right [_] hm); exact h) ?_
  refine WL.callp (.inr ⟨_, _, _, rfl, rfl, rfl⟩) rfl en21 rfl (fun w hw => by
      have := sameFaces_any F14 F35 r14.1 r35.1 r14.2 r35.2 cntN cntN cntI cntI w (hw.vs _ (by simp)) (hw.vs _ (by simp)) h14 h35
      simp only [decide_true, Bool.and_self] at this
      exact this) ?_
  refine WL.nil ?_
  refine WE.toD ?_
  refine WD.q rfl (.inl rfl) rfl (fun _ h => by have h := Ws.drops h (fun _ hm => List.mem_append_right [_] hm); exact h) (yl_pick rfl rfl rfl) ?_
  refine WD.q rfl (.inl rfl) rfl (fun _ h => by have h := Ws.drops h (fun _ hm => List.mem_append_right [_] hm); exact h) (yl_move rfl) ?_
  refine WD.q rfl (.inr ⟨_, _, _, rfl, rfl, rfl⟩) rfl (fun _ h => by have h := Ws.drops h (fun _ hm => List.mem_append_right [_] hm); exact h) (yl_move rfl) ?_
  refine WD.q rfl (.inr ⟨_, _, _, rfl, rfl, rfl⟩) rfl (fun _ h => by have h := Ws.drops h (fun _ hm => List.mem_append_right [_] hm); exact h) (yl_lens us9 rfl) ?_
  refine WD.q rfl (.inr ⟨_, _, _, rfl, rfl, rfl⟩) rfl (fun _ h => by have h := Ws.drops h (fun _ hm => List.mem_append_right [_] hm); exact h) (yl_eq rfl rfl) ?_
  refine WD.q rfl (.inl rfl) rfl (fun _ h => by have h := Ws.drops h (fun _ hm => List.mem_append_right [_] hm); exact h) (yl_pick rfl rfl rfl) ?_
  refine WD.q rfl (.inl rfl) rfl (fun _ h => by have h := Ws.drops h (fun _ hm => List.mem_append_right [_] hm); exact h) (yl_assign rfl) ?_
  refine WD.nil (fun _ h => by have h := Ws.drops h (fun _ hm => List.mem_append_right [_] hm); exact h) ?_
  refine WE.then_normal ?_
  refine WC.ret ?_
  refine WE.ret1 rfl rfl fun w' hw => ?_
  exact ⟨by simp [cnt_len], hw.fr⟩

theorem faceWrites_any (H : View) (a : Option Addr) (c : Nat) (name : List UInt8) (items : List Item) (w : World) (hH : Le H w) (hm : Sl rdItem 4 H a c items) (s : List UInt8) (hs : s.length ≤ 9223372036854775807) :
    Calls Try.prog 4 #[.agg #[st name, .slice a items.length c], st s] w fun e w' => e = .returned (.bool true) ∧ Ext w w' := by
  have hcap := hm.cap
  have hmax := hm.max
  refine enter Try.func4 rfl 81 rfl rfl ?_
  refine WC.world (W' := Ws w [] [] [H]) (fun _ e => by subst e; exact Ws.init (by simp [hH])) ?_
  refine WC.seq ?_
  refine WC.region ?_
  refine WL.box (.inl rfl) rfl rfl fun b2 => ?_
  refine WL.val (.inl rfl) rfl (yl_assign rfl) ?_
  refine WL.nil ?_
  refine WE.then_normal ?_
  refine WC.seq ?_
  refine WC.region ?_
  refine WL.val (.inl rfl) rfl (yl_ldka 0 rfl rfl ag39 rfl) ?_
  refine WL.callp (.inl rfl) rfl en16 rfl (fun w hw => faceWrite_any H a c name items w (hw.vs _ (by simp)) hm) ?_
  refine WL.val (.inl rfl) rfl (yl_move rfl) ?_
  refine WL.val (.inl rfl) rfl (yl_extract rfl rfl) ?_
  refine WL.val (.inl rfl) rfl (yl_extract rfl rfl) ?_
  refine WL.val (.inl rfl) rfl (yl_assign rfl) ?_
  refine WL.val (.inl rfl) rfl (yl_assign rfl) ?_
  refine WL.nil ?_
  refine WE.then_normal ?_
  refine WC.seq ?_
  refine WC.region ?_
  refine WL.val (.inl rfl) rfl (yl_ldka 0 rfl rfl ag39 rfl) ?_
  refine WL.callp (.inl rfl) rfl en17 rfl (fun w hw => checkFace_any H a c name items _ (hw.vs _ (by simp)) hm) ?_
  refine WL.val (.inl rfl) rfl (yl_assign rfl) ?_
  refine WL.nil ?_
  refine WE.then_normal ?_
  refine WC.seq ?_
  refine WC.region ?_
  refine WL.val (.inl rfl) rfl (yl_assign rfl) ?_
  refine WL.nil ?_
  refine WE.then_normal ?_
  refine WC.seq ?_
  refine WC.seq ?_
  refine WC.region ?_
  refine WL.val (.inl rfl) rfl (yl_move rfl) ?_
  refine WL.val (.inl rfl) rfl (yl_eq rfl rfl) ?_
  refine WL.nil ?_
  refine WE.then_normal ?_
  refine WC.cond rfl (fun hc0 => ?_) (fun hc0 => ?_)
  ·
    have hz : faceE name items = 0 := by simpa using hc0
    have hok := faceE_ok hz
    have hW : writeR name items = (faceB name items, 0) := by rw [writeR, if_pos hz]
    refine WC.region ?_
    refine WL.val (.inl rfl) rfl (yl_ldka 0 rfl rfl ag39 rfl) ?_
    refine WL.callp (.inl rfl) rfl en18 rfl (fun w hw => faceBytes_any H a c name items w (hw.vs _ (by simp)) hm hok.2.1 hok.1 hok.2.2) ?_
    refine WL.val (.inl rfl) rfl (yl_assign rfl) ?_
    refine WL.nil ?_
    refine WE.then_normal ?_
    refine WC.seq ?_
    refine WC.region ?_
    refine WL.val (.inl rfl) rfl (yl_move rfl) ?_
    refine WL.calld (.inl rfl) rfl en19 rfl (fun r : Option Addr × Nat => .tuple #[.agg #[st (readF s).1.1, .slice r.1 (readF s).1.2.length r.2], .int .i64 (readF s).2]) (fun H r => Sl rdItem 4 H r.1 r.2 (readF s).1.2) (fun w hw => faceReadD_any s w hs) ?_
    intro K27 r27 hf27 hk27
    refine WL.val (.inl rfl) rfl (yl_move rfl) ?_
    refine WL.val (.inl rfl) rfl (yl_extract rfl rfl) ?_
    refine WL.val (.inl rfl) rfl (yl_extract rfl rfl) ?_
    refine WL.alloc (.inl rfl) rfl zr39 fun b9 => ?_
    refine WL.store 0 (.inl rfl) rfl rfl rfl sz39 rfl rfl rfl ?_
    refine WL.val (.inl rfl) rfl (yl_assign rfl) ?_
    refine WL.nil ?_
    refine WE.then_normal ?_
    refine WC.seq ?_
    refine WC.seq ?_
    refine WC.region ?_
    refine WL.val (.inl rfl) rfl (yl_move rfl) ?_
    refine WL.val (.inl rfl) rfl (yl_lens us9 rfl) ?_
    refine WL.val (.inl rfl) rfl (yl_gt rfl rfl) ?_
    refine WL.nil ?_
    refine WE.then_normal ?_
    refine WC.cond rfl (fun hc1 => ?_) (fun hc1 => ?_)
    ·
      have hl : 32768 < s.length := by simp at hc1; omega
      have hR : readF s = (([], []), 2) := by rw [readF, if_pos hl]
      refine WC.seq ?_
      refine WC.region ?_
      refine WL.callp (.inl rfl) rfl en20 rfl (fun w hw => faceBegun_any w) ?_
      refine WL.val (.inl rfl) rfl (yl_move rfl) ?_
      apply WL.and 3 rfl rfl rfl rfl (.inl rfl) rfl rfl rfl rfl rfl
      ·
        intro hg0
        refine WL.val (.inr ⟨_, _, _, rfl, rfl, rfl⟩) rfl (yl_move rfl) ?_
        refine WL.val (.inr ⟨_, _, _, rfl, rfl, rfl⟩) rfl (yl_move rfl) ?_
        refine WL.val (.inr ⟨_, _, _, rfl, rfl, rfl⟩) rfl (yl_eqs rfl rfl) ?_
        exact Got.intro 3 rfl rfl rfl
      refine WL.val (.inl rfl) rfl (yl_move rfl) ?_
      apply WL.and 3 rfl rfl rfl rfl (.inl rfl) rfl rfl rfl rfl rfl
      ·
        intro hg1
        refine WL.val (.inr ⟨_, _, _, rfl, rfl, rfl⟩) rfl (yl_move rfl) ?_
        refine WL.val (.inr ⟨_, _, _, rfl, rfl, rfl⟩) rfl (yl_move rfl) ?_
        refine WL.val (.inr ⟨_, _, _, rfl, rfl, rfl⟩) rfl (yl_eq rfl rfl) ?_
        exact Got.intro 3 rfl rfl rfl
      refine WL.val (.inl rfl) rfl (yl_move rfl) ?_
      apply WL.and 2 rfl rfl rfl rfl (.inl rfl) rfl rfl rfl rfl rfl
      ·
        intro hg2
        refine WL.val (.inr ⟨_, _, _, rfl, rfl, rfl⟩) rfl (yl_move rfl) ?_
        refine WL.val (.inr ⟨_, _, _, rfl, rfl, rfl⟩) rfl (yl_eq rfl rfl) ?_
        exact Got.intro 2 rfl rfl rfl
      refine WL.val (.inl rfl) rfl (yl_move rfl) ?_
      apply WL.and 3 rfl rfl rfl rfl (.inl rfl) rfl rfl rfl rfl rfl
      ·
        intro hg3
        refine WL.val (.inr ⟨_, _, _, rfl, rfl, rfl⟩) rfl (yl_ldka 0 rfl rfl ag39 rfl) ?_
        refine WL.val (.inr ⟨_, _, _, rfl, rfl, rfl⟩) rfl (yl_build zr39 pl39 rfl rfl) ?_
        refine WL.callp (.inr ⟨_, _, _, rfl, rfl, rfl⟩) rfl en21 rfl (fun w hw => sameFaces_any K27 K27 r27.1 none r27.2 0 _ [] _ [] w (hw.vs _ (by simp)) (hw.vs _ (by simp)) hk27 Sl.nil) ?_
        exact Got.intro 3 rfl rfl rfl
      refine WL.val (.inl rfl) rfl (yl_assign rfl) ?_
      refine WL.nil ?_
      refine WE.then_normal ?_
      refine WC.ret ?_
      refine WE.then_ret ?_
      refine WE.ret1 rfl rfl fun w' hw => ?_
      exact ⟨by simp [hz, hW, hR], hw.fr⟩
    ·
      have hl : ¬ 32768 < s.length := by simp at hc1; omega
      have hR := read_law hl
      refine WC.skip ?_
      refine WE.then_normal ?_
      refine WC.seq ?_
      refine WC.region ?_
      refine WL.val (.inl rfl) rfl (yl_move rfl) ?_
      refine WL.calld (.inl rfl) rfl en22 rfl (fun r : Option Addr × Nat => .tuple #[.agg #[st (fromF s).1.1, .slice r.1 (fromF s).1.2.length r.2], .bool (fromF s).2]) (fun H r => Sl rdItem 4 H r.1 r.2 (fromF s).1.2) (fun w hw => faceFromD_any s w hs) ?_
      intro K55 r55 hf55 hk55
      refine WL.val (.inl rfl) rfl (yl_move rfl) ?_
      refine WL.val (.inl rfl) rfl (yl_extract rfl rfl) ?_
      refine WL.val (.inl rfl) rfl (yl_extract rfl rfl) ?_
      refine WL.alloc (.inl rfl) rfl zr39 fun b11 => ?_
      refine WL.store 0 (.inl rfl) rfl rfl rfl sz39 rfl rfl rfl ?_
      refine WL.val (.inl rfl) rfl (yl_assign rfl) ?_
      refine WL.nil ?_
      refine WE.then_normal ?_
      refine WC.seq ?_
      refine WC.region ?_
      refine WL.val (.inl rfl) rfl (yl_assign rfl) ?_
      refine WL.nil ?_
      refine WE.then_normal ?_
      refine WC.seq ?_
      refine WC.seq ?_
      refine WC.region ?_
      refine WL.val (.inl rfl) rfl (yl_move rfl) ?_
      refine WL.val (.inl rfl) rfl (yl_not rfl) ?_
      refine WL.nil ?_
      refine WE.then_normal ?_
      refine WC.cond rfl (fun hc2 => ?_) (fun hc2 => ?_)
      ·
        have hx : (fromF s).2 = false := by simpa using hc2
        refine WC.region ?_
        refine WL.val (.inl rfl) rfl (yl_assign rfl) ?_
        refine WL.nil ?_
        refine WE.then_normal ?_
        refine WC.seq ?_
        refine WC.region ?_
        refine WL.callp (.inl rfl) rfl en20 rfl (fun w hw => faceBegun_any w) ?_
        refine WL.val (.inl rfl) rfl (yl_move rfl) ?_
        apply WL.and 3 rfl rfl rfl rfl (.inl rfl) rfl rfl rfl rfl rfl
        ·
          intro hg4
          refine WL.val (.inr ⟨_, _, _, rfl, rfl, rfl⟩) rfl (yl_move rfl) ?_
          refine WL.val (.inr ⟨_, _, _, rfl, rfl, rfl⟩) rfl (yl_move rfl) ?_
          refine WL.val (.inr ⟨_, _, _, rfl, rfl, rfl⟩) rfl (yl_eqs rfl rfl) ?_
          exact Got.intro 3 rfl rfl rfl
        refine WL.val (.inl rfl) rfl (yl_move rfl) ?_
        apply WL.and 3 rfl rfl rfl rfl (.inl rfl) rfl rfl rfl rfl rfl
        ·
          intro hg5
          refine WL.val (.inr ⟨_, _, _, rfl, rfl, rfl⟩) rfl (yl_move rfl) ?_
          refine WL.val (.inr ⟨_, _, _, rfl, rfl, rfl⟩) rfl (yl_move rfl) ?_
          refine WL.val (.inr ⟨_, _, _, rfl, rfl, rfl⟩) rfl (yl_eq rfl rfl) ?_
          exact Got.intro 3 rfl rfl rfl
        refine WL.val (.inl rfl) rfl (yl_move rfl) ?_
        apply WL.and 3 rfl rfl rfl rfl (.inl rfl) rfl rfl rfl rfl rfl
        ·
          intro hg6
          refine WL.val (.inr ⟨_, _, _, rfl, rfl, rfl⟩) rfl (yl_move rfl) ?_
          refine WL.val (.inr ⟨_, _, _, rfl, rfl, rfl⟩) rfl (yl_move rfl) ?_
          refine WL.val (.inr ⟨_, _, _, rfl, rfl, rfl⟩) rfl (yl_eq rfl rfl) ?_
          exact Got.intro 3 rfl rfl rfl
        refine WL.val (.inl rfl) rfl (yl_move rfl) ?_
        apply WL.and 3 rfl rfl rfl rfl (.inl rfl) rfl rfl rfl rfl rfl
        ·
          intro hg7
          refine WL.val (.inr ⟨_, _, _, rfl, rfl, rfl⟩) rfl (yl_ldka 1 rfl rfl ag39 rfl) ?_
          refine WL.val (.inr ⟨_, _, _, rfl, rfl, rfl⟩) rfl (yl_ldka 0 rfl rfl ag39 rfl) ?_
          refine WL.callp (.inr ⟨_, _, _, rfl, rfl, rfl⟩) rfl en21 rfl (fun w hw => sameFaces_any K27 K55 r27.1 r55.1 r27.2 r55.2 _ _ _ _ w (hw.vs _ (by simp)) (hw.vs _ (by simp)) hk27 hk55) ?_
          exact Got.intro 3 rfl rfl rfl
        refine WL.val (.inl rfl) rfl (yl_assign rfl) ?_
        refine WL.nil ?_
        refine WE.then_normal ?_
        refine WC.ret ?_
        refine WE.ret1 rfl rfl fun w' hw => ?_
        exact ⟨by simp [hz, hW, hR, hx], hw.fr⟩
      ·
        have hx : (fromF s).2 = true := by simpa using hc2
        refine WC.skip ?_
        refine WE.then_normal ?_
        refine WC.seq ?_
        refine WC.region ?_
        refine WL.callp (.inl rfl) rfl en20 rfl (fun w hw => faceBegun_any w) ?_
        refine WL.val (.inl rfl) rfl (yl_move rfl) ?_
        apply WL.and 3 rfl rfl rfl rfl (.inl rfl) rfl rfl rfl rfl rfl
        ·
          intro hg4
          refine WL.val (.inr ⟨_, _, _, rfl, rfl, rfl⟩) rfl (yl_move rfl) ?_
          refine WL.val (.inr ⟨_, _, _, rfl, rfl, rfl⟩) rfl (yl_move rfl) ?_
          refine WL.val (.inr ⟨_, _, _, rfl, rfl, rfl⟩) rfl (yl_eqs rfl rfl) ?_
          exact Got.intro 3 rfl rfl rfl
        refine WL.val (.inl rfl) rfl (yl_move rfl) ?_
        apply WL.and 3 rfl rfl rfl rfl (.inl rfl) rfl rfl rfl rfl rfl
        ·
          intro hg5
          refine WL.val (.inr ⟨_, _, _, rfl, rfl, rfl⟩) rfl (yl_move rfl) ?_
          refine WL.val (.inr ⟨_, _, _, rfl, rfl, rfl⟩) rfl (yl_move rfl) ?_
          refine WL.val (.inr ⟨_, _, _, rfl, rfl, rfl⟩) rfl (yl_eq rfl rfl) ?_
          exact Got.intro 3 rfl rfl rfl
        refine WL.val (.inl rfl) rfl (yl_move rfl) ?_
        apply WL.and 3 rfl rfl rfl rfl (.inl rfl) rfl rfl rfl rfl rfl
        ·
          intro hg6
          refine WL.val (.inr ⟨_, _, _, rfl, rfl, rfl⟩) rfl (yl_move rfl) ?_
          refine WL.val (.inr ⟨_, _, _, rfl, rfl, rfl⟩) rfl (yl_move rfl) ?_
          refine WL.val (.inr ⟨_, _, _, rfl, rfl, rfl⟩) rfl (yl_eq rfl rfl) ?_
          exact Got.intro 3 rfl rfl rfl
        refine WL.val (.inl rfl) rfl (yl_move rfl) ?_
        apply WL.and 3 rfl rfl rfl rfl (.inl rfl) rfl rfl rfl rfl rfl
        ·
          intro hg7
          refine WL.val (.inr ⟨_, _, _, rfl, rfl, rfl⟩) rfl (yl_ldka 1 rfl rfl ag39 rfl) ?_
          refine WL.val (.inr ⟨_, _, _, rfl, rfl, rfl⟩) rfl (yl_ldka 0 rfl rfl ag39 rfl) ?_
          refine WL.callp (.inr ⟨_, _, _, rfl, rfl, rfl⟩) rfl en21 rfl (fun w hw => sameFaces_any K27 K55 r27.1 r55.1 r27.2 r55.2 _ _ _ _ w (hw.vs _ (by simp)) (hw.vs _ (by simp)) hk27 hk55) ?_
          exact Got.intro 3 rfl rfl rfl
        refine WL.val (.inl rfl) rfl (yl_assign rfl) ?_
        refine WL.nil ?_
        refine WE.then_normal ?_
        refine WC.ret ?_
        refine WE.ret1 rfl rfl fun w' hw => ?_
        exact ⟨by simp [hz, hW, hR, hx], hw.fr⟩
  ·
    have hz : ¬ faceE name items = 0 := by simpa using hc0
    have hW : writeR name items = ([], faceE name items) := by rw [writeR, if_neg hz]
    refine WC.skip ?_
    refine WE.then_normal ?_
    refine WC.seq ?_
    refine WC.region ?_
    refine WL.val (.inl rfl) rfl (yl_move rfl) ?_
    refine WL.calld (.inl rfl) rfl en19 rfl (fun r : Option Addr × Nat => .tuple #[.agg #[st (readF s).1.1, .slice r.1 (readF s).1.2.length r.2], .int .i64 (readF s).2]) (fun H r => Sl rdItem 4 H r.1 r.2 (readF s).1.2) (fun w hw => faceReadD_any s w hs) ?_
    intro K27 r27 hf27 hk27
    refine WL.val (.inl rfl) rfl (yl_move rfl) ?_
    refine WL.val (.inl rfl) rfl (yl_extract rfl rfl) ?_
    refine WL.val (.inl rfl) rfl (yl_extract rfl rfl) ?_
    refine WL.alloc (.inl rfl) rfl zr39 fun b9 => ?_
    refine WL.store 0 (.inl rfl) rfl rfl rfl sz39 rfl rfl rfl ?_
    refine WL.val (.inl rfl) rfl (yl_assign rfl) ?_
    refine WL.nil ?_
    refine WE.then_normal ?_
    refine WC.seq ?_
    refine WC.seq ?_
    refine WC.region ?_
    refine WL.val (.inl rfl) rfl (yl_move rfl) ?_
    refine WL.val (.inl rfl) rfl (yl_lens us9 rfl) ?_
    refine WL.val (.inl rfl) rfl (yl_gt rfl rfl) ?_
    refine WL.nil ?_
    refine WE.then_normal ?_
    refine WC.cond rfl (fun hc1 => ?_) (fun hc1 => ?_)
    ·
      have hl : 32768 < s.length := by simp at hc1; omega
      have hR : readF s = (([], []), 2) := by rw [readF, if_pos hl]
      refine WC.seq ?_
      refine WC.region ?_
      refine WL.callp (.inl rfl) rfl en20 rfl (fun w hw => faceBegun_any w) ?_
      refine WL.val (.inl rfl) rfl (yl_move rfl) ?_
      apply WL.and 3 rfl rfl rfl rfl (.inl rfl) rfl rfl rfl rfl rfl
      ·
        intro hg0
        refine WL.val (.inr ⟨_, _, _, rfl, rfl, rfl⟩) rfl (yl_move rfl) ?_
        refine WL.val (.inr ⟨_, _, _, rfl, rfl, rfl⟩) rfl (yl_move rfl) ?_
        refine WL.val (.inr ⟨_, _, _, rfl, rfl, rfl⟩) rfl (yl_eqs rfl rfl) ?_
        exact Got.intro 3 rfl rfl rfl
      refine WL.val (.inl rfl) rfl (yl_move rfl) ?_
      apply WL.and 3 rfl rfl rfl rfl (.inl rfl) rfl rfl rfl rfl rfl
      ·
        intro hg1
        refine WL.val (.inr ⟨_, _, _, rfl, rfl, rfl⟩) rfl (yl_move rfl) ?_
        refine WL.val (.inr ⟨_, _, _, rfl, rfl, rfl⟩) rfl (yl_move rfl) ?_
        refine WL.val (.inr ⟨_, _, _, rfl, rfl, rfl⟩) rfl (yl_eq rfl rfl) ?_
        exact Got.intro 3 rfl rfl rfl
      refine WL.val (.inl rfl) rfl (yl_move rfl) ?_
      apply WL.and 2 rfl rfl rfl rfl (.inl rfl) rfl rfl rfl rfl rfl
      ·
        intro hg2
        refine WL.val (.inr ⟨_, _, _, rfl, rfl, rfl⟩) rfl (yl_move rfl) ?_
        refine WL.val (.inr ⟨_, _, _, rfl, rfl, rfl⟩) rfl (yl_eq rfl rfl) ?_
        exact Got.intro 2 rfl rfl rfl
      refine WL.val (.inl rfl) rfl (yl_move rfl) ?_
      apply WL.and 3 rfl rfl rfl rfl (.inl rfl) rfl rfl rfl rfl rfl
      ·
        intro hg3
        refine WL.val (.inr ⟨_, _, _, rfl, rfl, rfl⟩) rfl (yl_ldka 0 rfl rfl ag39 rfl) ?_
        refine WL.val (.inr ⟨_, _, _, rfl, rfl, rfl⟩) rfl (yl_build zr39 pl39 rfl rfl) ?_
        refine WL.callp (.inr ⟨_, _, _, rfl, rfl, rfl⟩) rfl en21 rfl (fun w hw => sameFaces_any K27 K27 r27.1 none r27.2 0 _ [] _ [] w (hw.vs _ (by simp)) (hw.vs _ (by simp)) hk27 Sl.nil) ?_
        exact Got.intro 3 rfl rfl rfl
      refine WL.val (.inl rfl) rfl (yl_assign rfl) ?_
      refine WL.nil ?_
      refine WE.then_normal ?_
      refine WC.ret ?_
      refine WE.then_ret ?_
      refine WE.ret1 rfl rfl fun w' hw => ?_
      exact ⟨by simp [hz, hW, hR], hw.fr⟩
    ·
      have hl : ¬ 32768 < s.length := by simp at hc1; omega
      have hR := read_law hl
      refine WC.skip ?_
      refine WE.then_normal ?_
      refine WC.seq ?_
      refine WC.region ?_
      refine WL.val (.inl rfl) rfl (yl_move rfl) ?_
      refine WL.calld (.inl rfl) rfl en22 rfl (fun r : Option Addr × Nat => .tuple #[.agg #[st (fromF s).1.1, .slice r.1 (fromF s).1.2.length r.2], .bool (fromF s).2]) (fun H r => Sl rdItem 4 H r.1 r.2 (fromF s).1.2) (fun w hw => faceFromD_any s w hs) ?_
      intro K55 r55 hf55 hk55
      refine WL.val (.inl rfl) rfl (yl_move rfl) ?_
      refine WL.val (.inl rfl) rfl (yl_extract rfl rfl) ?_
      refine WL.val (.inl rfl) rfl (yl_extract rfl rfl) ?_
      refine WL.alloc (.inl rfl) rfl zr39 fun b11 => ?_
      refine WL.store 0 (.inl rfl) rfl rfl rfl sz39 rfl rfl rfl ?_
      refine WL.val (.inl rfl) rfl (yl_assign rfl) ?_
      refine WL.nil ?_
      refine WE.then_normal ?_
      refine WC.seq ?_
      refine WC.region ?_
      refine WL.val (.inl rfl) rfl (yl_assign rfl) ?_
      refine WL.nil ?_
      refine WE.then_normal ?_
      refine WC.seq ?_
      refine WC.seq ?_
      refine WC.region ?_
      refine WL.val (.inl rfl) rfl (yl_move rfl) ?_
      refine WL.val (.inl rfl) rfl (yl_not rfl) ?_
      refine WL.nil ?_
      refine WE.then_normal ?_
      refine WC.cond rfl (fun hc2 => ?_) (fun hc2 => ?_)
      ·
        have hx : (fromF s).2 = false := by simpa using hc2
        refine WC.region ?_
        refine WL.val (.inl rfl) rfl (yl_assign rfl) ?_
        refine WL.nil ?_
        refine WE.then_normal ?_
        refine WC.seq ?_
        refine WC.region ?_
        refine WL.callp (.inl rfl) rfl en20 rfl (fun w hw => faceBegun_any w) ?_
        refine WL.val (.inl rfl) rfl (yl_move rfl) ?_
        apply WL.and 3 rfl rfl rfl rfl (.inl rfl) rfl rfl rfl rfl rfl
        ·
          intro hg4
          refine WL.val (.inr ⟨_, _, _, rfl, rfl, rfl⟩) rfl (yl_move rfl) ?_
          refine WL.val (.inr ⟨_, _, _, rfl, rfl, rfl⟩) rfl (yl_move rfl) ?_
          refine WL.val (.inr ⟨_, _, _, rfl, rfl, rfl⟩) rfl (yl_eqs rfl rfl) ?_
          exact Got.intro 3 rfl rfl rfl
        refine WL.val (.inl rfl) rfl (yl_move rfl) ?_
        apply WL.and 3 rfl rfl rfl rfl (.inl rfl) rfl rfl rfl rfl rfl
        ·
          intro hg5
          refine WL.val (.inr ⟨_, _, _, rfl, rfl, rfl⟩) rfl (yl_move rfl) ?_
          refine WL.val (.inr ⟨_, _, _, rfl, rfl, rfl⟩) rfl (yl_move rfl) ?_
          refine WL.val (.inr ⟨_, _, _, rfl, rfl, rfl⟩) rfl (yl_eq rfl rfl) ?_
          exact Got.intro 3 rfl rfl rfl
        refine WL.val (.inl rfl) rfl (yl_move rfl) ?_
        apply WL.and 3 rfl rfl rfl rfl (.inl rfl) rfl rfl rfl rfl rfl
        ·
          intro hg6
          refine WL.val (.inr ⟨_, _, _, rfl, rfl, rfl⟩) rfl (yl_move rfl) ?_
          refine WL.val (.inr ⟨_, _, _, rfl, rfl, rfl⟩) rfl (yl_move rfl) ?_
          refine WL.val (.inr ⟨_, _, _, rfl, rfl, rfl⟩) rfl (yl_eq rfl rfl) ?_
          exact Got.intro 3 rfl rfl rfl
        refine WL.val (.inl rfl) rfl (yl_move rfl) ?_
        apply WL.and 3 rfl rfl rfl rfl (.inl rfl) rfl rfl rfl rfl rfl
        ·
          intro hg7
          refine WL.val (.inr ⟨_, _, _, rfl, rfl, rfl⟩) rfl (yl_ldka 1 rfl rfl ag39 rfl) ?_
          refine WL.val (.inr ⟨_, _, _, rfl, rfl, rfl⟩) rfl (yl_ldka 0 rfl rfl ag39 rfl) ?_
          refine WL.callp (.inr ⟨_, _, _, rfl, rfl, rfl⟩) rfl en21 rfl (fun w hw => sameFaces_any K27 K55 r27.1 r55.1 r27.2 r55.2 _ _ _ _ w (hw.vs _ (by simp)) (hw.vs _ (by simp)) hk27 hk55) ?_
          exact Got.intro 3 rfl rfl rfl
        refine WL.val (.inl rfl) rfl (yl_assign rfl) ?_
        refine WL.nil ?_
        refine WE.then_normal ?_
        refine WC.ret ?_
        refine WE.ret1 rfl rfl fun w' hw => ?_
        exact ⟨by simp [hz, hW, hR, hx], hw.fr⟩
      ·
        have hx : (fromF s).2 = true := by simpa using hc2
        refine WC.skip ?_
        refine WE.then_normal ?_
        refine WC.seq ?_
        refine WC.region ?_
        refine WL.callp (.inl rfl) rfl en20 rfl (fun w hw => faceBegun_any w) ?_
        refine WL.val (.inl rfl) rfl (yl_move rfl) ?_
        apply WL.and 3 rfl rfl rfl rfl (.inl rfl) rfl rfl rfl rfl rfl
        ·
          intro hg4
          refine WL.val (.inr ⟨_, _, _, rfl, rfl, rfl⟩) rfl (yl_move rfl) ?_
          refine WL.val (.inr ⟨_, _, _, rfl, rfl, rfl⟩) rfl (yl_move rfl) ?_
          refine WL.val (.inr ⟨_, _, _, rfl, rfl, rfl⟩) rfl (yl_eqs rfl rfl) ?_
          exact Got.intro 3 rfl rfl rfl
        refine WL.val (.inl rfl) rfl (yl_move rfl) ?_
        apply WL.and 3 rfl rfl rfl rfl (.inl rfl) rfl rfl rfl rfl rfl
        ·
          intro hg5
          refine WL.val (.inr ⟨_, _, _, rfl, rfl, rfl⟩) rfl (yl_move rfl) ?_
          refine WL.val (.inr ⟨_, _, _, rfl, rfl, rfl⟩) rfl (yl_move rfl) ?_
          refine WL.val (.inr ⟨_, _, _, rfl, rfl, rfl⟩) rfl (yl_eq rfl rfl) ?_
          exact Got.intro 3 rfl rfl rfl
        refine WL.val (.inl rfl) rfl (yl_move rfl) ?_
        apply WL.and 3 rfl rfl rfl rfl (.inl rfl) rfl rfl rfl rfl rfl
        ·
          intro hg6
          refine WL.val (.inr ⟨_, _, _, rfl, rfl, rfl⟩) rfl (yl_move rfl) ?_
          refine WL.val (.inr ⟨_, _, _, rfl, rfl, rfl⟩) rfl (yl_move rfl) ?_
          refine WL.val (.inr ⟨_, _, _, rfl, rfl, rfl⟩) rfl (yl_eq rfl rfl) ?_
          exact Got.intro 3 rfl rfl rfl
        refine WL.val (.inl rfl) rfl (yl_move rfl) ?_
        apply WL.and 3 rfl rfl rfl rfl (.inl rfl) rfl rfl rfl rfl rfl
        ·
          intro hg7
          refine WL.val (.inr ⟨_, _, _, rfl, rfl, rfl⟩) rfl (yl_ldka 1 rfl rfl ag39 rfl) ?_
          refine WL.val (.inr ⟨_, _, _, rfl, rfl, rfl⟩) rfl (yl_ldka 0 rfl rfl ag39 rfl) ?_
          refine WL.callp (.inr ⟨_, _, _, rfl, rfl, rfl⟩) rfl en21 rfl (fun w hw => sameFaces_any K27 K55 r27.1 r55.1 r27.2 r55.2 _ _ _ _ w (hw.vs _ (by simp)) (hw.vs _ (by simp)) hk27 hk55) ?_
          exact Got.intro 3 rfl rfl rfl
        refine WL.val (.inl rfl) rfl (yl_assign rfl) ?_
        refine WL.nil ?_
        refine WE.then_normal ?_
        refine WC.ret ?_
        refine WE.ret1 rfl rfl fun w' hw => ?_
        exact ⟨by simp [hz, hW, hR, hx], hw.fr⟩

theorem faceBack_any (H : View) (a : Option Addr) (c : Nat) (name : List UInt8) (items : List Item) (w : World) (hH : Le H w) (hm : Sl rdItem 4 H a c items) (s : List UInt8) (hs : s.length ≤ 9223372036854775807) :
    Calls Try.prog 5 #[.agg #[st name, .slice a items.length c], st s] w fun e w' => e = .returned (.bool true) ∧ Ext w w' := by
  have hcap := hm.cap
  have hmax := hm.max
  refine enter Try.func5 rfl 56 rfl rfl ?_
  refine WC.world (W' := Ws w [] [] [H]) (fun _ e => by subst e; exact Ws.init (by simp [hH])) ?_
  refine WC.seq ?_
  refine WC.region ?_
  refine WL.box (.inl rfl) rfl rfl fun b2 => ?_
  refine WL.val (.inl rfl) rfl (yl_assign rfl) ?_
  refine WL.nil ?_
  refine WE.then_normal ?_
  refine WC.seq ?_
  refine WC.region ?_
  refine WL.val (.inl rfl) rfl (yl_ldka 0 rfl rfl ag39 rfl) ?_
  refine WL.callp (.inl rfl) rfl en16 rfl (fun w hw => faceWrite_any H a c name items w (hw.vs _ (by simp)) hm) ?_
  refine WL.val (.inl rfl) rfl (yl_move rfl) ?_
  refine WL.val (.inl rfl) rfl (yl_extract rfl rfl) ?_
  refine WL.val (.inl rfl) rfl (yl_extract rfl rfl) ?_
  refine WL.val (.inl rfl) rfl (yl_assign rfl) ?_
  refine WL.val (.inl rfl) rfl (yl_assign rfl) ?_
  refine WL.nil ?_
  refine WE.then_normal ?_
  refine WC.seq ?_
  refine WC.seq ?_
  refine WC.region ?_
  refine WL.val (.inl rfl) rfl (yl_move rfl) ?_
  refine WL.val (.inl rfl) rfl (yl_eq rfl rfl) ?_
  refine WL.nil ?_
  refine WE.then_normal ?_
  refine WC.cond rfl (fun hc0 => ?_) (fun hc0 => ?_)
  ·
    have hz : faceE name items = 0 := by
      by_cases h : faceE name items = 0
      · exact h
      · simp [writeR, h] at hc0
    have hW : writeR name items = (faceB name items, 0) := by rw [writeR, if_pos hz]
    rw [hW]
    refine WC.seq ?_
    refine WC.region ?_
    refine WL.val (.inl rfl) rfl (yl_move rfl) ?_
    refine WL.calld (.inl rfl) rfl en19 rfl (fun r : Option Addr × Nat => .tuple #[.agg #[st name, .slice r.1 items.length r.2], .int .i64 0]) (fun H r => Sl rdItem 4 H r.1 r.2 items) (fun w hw => by
        have := faceReadD_any (faceB name items) w (by have := face_len hz; omega)
        rw [write_read hz] at this
        exact this) ?_
    intro K22 r22 hf22 hk22
    refine WL.val (.inl rfl) rfl (yl_move rfl) ?_
    refine WL.val (.inl rfl) rfl (yl_extract rfl rfl) ?_
    refine WL.val (.inl rfl) rfl (yl_extract rfl rfl) ?_
    refine WL.alloc (.inl rfl) rfl zr39 fun b7 => ?_
    refine WL.store 0 (.inl rfl) rfl rfl rfl sz39 rfl rfl rfl ?_
    refine WL.val (.inl rfl) rfl (yl_assign rfl) ?_
    refine WL.nil ?_
    refine WE.then_normal ?_
    refine WC.seq ?_
    refine WC.region ?_
    refine WL.val (.inl rfl) rfl (yl_move rfl) ?_
    refine WL.val (.inl rfl) rfl (yl_ne rfl rfl) ?_
    refine WL.val (.inl rfl) rfl (yl_move rfl) ?_
    apply WL.or 4 rfl rfl rfl rfl (.inl rfl) rfl rfl rfl rfl rfl
    ·
      intro hg0
      refine WL.val (.inr ⟨_, _, _, rfl, rfl, rfl⟩) rfl (yl_ldka 0 rfl rfl ag39 rfl) ?_
      refine WL.val (.inr ⟨_, _, _, rfl, rfl, rfl⟩) rfl (yl_ldka 1 rfl rfl ag39 rfl) ?_
      refine WL.callp (.inr ⟨_, _, _, rfl, rfl, rfl⟩) rfl en21 rfl (fun w hw => by
          have := sameFaces_any K22 H r22.1 a r22.2 c name name items items w (hw.vs _ (by simp)) (hw.vs _ (by simp)) hk22 hm
          simp only [decide_true, Bool.and_self] at this
          exact this) ?_
      refine WL.val (.inr ⟨_, _, _, rfl, rfl, rfl⟩) rfl (yl_not rfl) ?_
      exact Got.intro 4 rfl rfl rfl
    refine WL.nil ?_
    refine WE.then_normal ?_
    refine WC.cond rfl (fun hc1 => ?_) (fun hc1 => ?_)
    ·
      simp at hc1
    ·
      refine WC.skip ?_
      refine WE.then_normal ?_
      refine WC.seq ?_
      refine WC.region ?_
      refine WL.val (.inl rfl) rfl (yl_move rfl) ?_
      refine WL.calld (.inl rfl) rfl en19 rfl (fun r : Option Addr × Nat => .tuple #[.agg #[st (readF s).1.1, .slice r.1 (readF s).1.2.length r.2], .int .i64 (readF s).2]) (fun H r => Sl rdItem 4 H r.1 r.2 (readF s).1.2) (fun w hw => faceReadD_any s w hs) ?_
      intro K35 r35 hf35 hk35
      refine WL.val (.inl rfl) rfl (yl_move rfl) ?_
      refine WL.val (.inl rfl) rfl (yl_extract rfl rfl) ?_
      refine WL.val (.inl rfl) rfl (yl_extract rfl rfl) ?_
      refine WL.alloc (.inl rfl) rfl zr39 fun b9 => ?_
      refine WL.store 0 (.inl rfl) rfl rfl rfl sz39 rfl rfl rfl ?_
      refine WL.val (.inl rfl) rfl (yl_assign rfl) ?_
      refine WL.nil ?_
      refine WE.then_normal ?_
      refine WC.seq ?_
      refine WC.seq ?_
      refine WC.region ?_
      refine WL.val (.inl rfl) rfl (yl_move rfl) ?_
      refine WL.val (.inl rfl) rfl (yl_ne rfl rfl) ?_
      refine WL.nil ?_
      refine WE.then_normal ?_
      refine WC.cond rfl (fun hc2 => ?_) (fun hc2 => ?_)
      ·
        refine WC.seq ?_
        refine WC.region ?_
        refine WL.callp (.inl rfl) rfl en20 rfl (fun w hw => faceBegun_any w) ?_
        refine WL.val (.inl rfl) rfl (yl_assign rfl) ?_
        refine WL.nil ?_
        refine WE.then_normal ?_
        refine WC.ret ?_
        refine WE.then_ret ?_
        refine WE.ret1 rfl rfl fun w' hw => ?_
        exact ⟨by simp, hw.fr⟩
      ·
        have hr0 : (readF s).2 = 0 := by simpa using hc2
        refine WC.skip ?_
        refine WE.then_normal ?_
        refine WC.seq ?_
        refine WC.region ?_
        refine WL.val (.inl rfl) rfl (yl_ldka 0 rfl rfl ag39 rfl) ?_
        refine WL.callp (.inl rfl) rfl en16 rfl (fun w hw => by
            have := faceWrite_any K35 r35.1 r35.2 (readF s).1.1 (readF s).1.2 w (hw.vs _ (by simp)) hk35
            rw [read_write hr0] at this
            exact this) ?_
        refine WL.val (.inl rfl) rfl (yl_move rfl) ?_
        refine WL.val (.inl rfl) rfl (yl_extract rfl rfl) ?_
        refine WL.val (.inl rfl) rfl (yl_extract rfl rfl) ?_
        refine WL.val (.inl rfl) rfl (yl_assign rfl) ?_
        refine WL.val (.inl rfl) rfl (yl_assign rfl) ?_
        refine WL.nil ?_
        refine WE.then_normal ?_
        refine WC.seq ?_
        refine WC.region ?_
        refine WL.callp (.inl rfl) rfl en20 rfl (fun w hw => faceBegun_any w) ?_
        refine WL.val (.inl rfl) rfl (yl_move rfl) ?_
        apply WL.and 2 rfl rfl rfl rfl (.inl rfl) rfl rfl rfl rfl rfl
        ·
          intro hg1
          refine WL.val (.inr ⟨_, _, _, rfl, rfl, rfl⟩) rfl (yl_move rfl) ?_
          refine WL.val (.inr ⟨_, _, _, rfl, rfl, rfl⟩) rfl (yl_eq rfl rfl) ?_
          exact Got.intro 2 rfl rfl rfl
        refine WL.val (.inl rfl) rfl (yl_move rfl) ?_
        apply WL.and 3 rfl rfl rfl rfl (.inl rfl) rfl rfl rfl rfl rfl
        ·
          intro hg2
          refine WL.val (.inr ⟨_, _, _, rfl, rfl, rfl⟩) rfl (yl_move rfl) ?_
          refine WL.val (.inr ⟨_, _, _, rfl, rfl, rfl⟩) rfl (yl_move rfl) ?_
          refine WL.val (.inr ⟨_, _, _, rfl, rfl, rfl⟩) rfl (yl_eqs rfl rfl) ?_
          exact Got.intro 3 rfl rfl rfl
        refine WL.val (.inl rfl) rfl (yl_assign rfl) ?_
        refine WL.nil ?_
        refine WE.then_normal ?_
        refine WC.ret ?_
        refine WE.ret1 rfl rfl fun w' hw => ?_
        exact ⟨by simp, hw.fr⟩
  ·
    refine WC.skip ?_
    refine WE.then_normal ?_
    refine WC.seq ?_
    refine WC.region ?_
    refine WL.val (.inl rfl) rfl (yl_move rfl) ?_
    refine WL.calld (.inl rfl) rfl en19 rfl (fun r : Option Addr × Nat => .tuple #[.agg #[st (readF s).1.1, .slice r.1 (readF s).1.2.length r.2], .int .i64 (readF s).2]) (fun H r => Sl rdItem 4 H r.1 r.2 (readF s).1.2) (fun w hw => faceReadD_any s w hs) ?_
    intro K35 r35 hf35 hk35
    refine WL.val (.inl rfl) rfl (yl_move rfl) ?_
    refine WL.val (.inl rfl) rfl (yl_extract rfl rfl) ?_
    refine WL.val (.inl rfl) rfl (yl_extract rfl rfl) ?_
    refine WL.alloc (.inl rfl) rfl zr39 fun b9 => ?_
    refine WL.store 0 (.inl rfl) rfl rfl rfl sz39 rfl rfl rfl ?_
    refine WL.val (.inl rfl) rfl (yl_assign rfl) ?_
    refine WL.nil ?_
    refine WE.then_normal ?_
    refine WC.seq ?_
    refine WC.seq ?_
    refine WC.region ?_
    refine WL.val (.inl rfl) rfl (yl_move rfl) ?_
    refine WL.val (.inl rfl) rfl (yl_ne rfl rfl) ?_
    refine WL.nil ?_
    refine WE.then_normal ?_
    refine WC.cond rfl (fun hc2 => ?_) (fun hc2 => ?_)
    ·
      refine WC.seq ?_
      refine WC.region ?_
      refine WL.callp (.inl rfl) rfl en20 rfl (fun w hw => faceBegun_any w) ?_
      refine WL.val (.inl rfl) rfl (yl_assign rfl) ?_
      refine WL.nil ?_
      refine WE.then_normal ?_
      refine WC.ret ?_
      refine WE.then_ret ?_
      refine WE.ret1 rfl rfl fun w' hw => ?_
      exact ⟨by simp, hw.fr⟩
    ·
      have hr0 : (readF s).2 = 0 := by simpa using hc2
      refine WC.skip ?_
      refine WE.then_normal ?_
      refine WC.seq ?_
      refine WC.region ?_
      refine WL.val (.inl rfl) rfl (yl_ldka 0 rfl rfl ag39 rfl) ?_
      refine WL.callp (.inl rfl) rfl en16 rfl (fun w hw => by
          have := faceWrite_any K35 r35.1 r35.2 (readF s).1.1 (readF s).1.2 w (hw.vs _ (by simp)) hk35
          rw [read_write hr0] at this
          exact this) ?_
      refine WL.val (.inl rfl) rfl (yl_move rfl) ?_
      refine WL.val (.inl rfl) rfl (yl_extract rfl rfl) ?_
      refine WL.val (.inl rfl) rfl (yl_extract rfl rfl) ?_
      refine WL.val (.inl rfl) rfl (yl_assign rfl) ?_
      refine WL.val (.inl rfl) rfl (yl_assign rfl) ?_
      refine WL.nil ?_
      refine WE.then_normal ?_
      refine WC.seq ?_
      refine WC.region ?_
      refine WL.callp (.inl rfl) rfl en20 rfl (fun w hw => faceBegun_any w) ?_
      refine WL.val (.inl rfl) rfl (yl_move rfl) ?_
      apply WL.and 2 rfl rfl rfl rfl (.inl rfl) rfl rfl rfl rfl rfl
      ·
        intro hg1
        refine WL.val (.inr ⟨_, _, _, rfl, rfl, rfl⟩) rfl (yl_move rfl) ?_
        refine WL.val (.inr ⟨_, _, _, rfl, rfl, rfl⟩) rfl (yl_eq rfl rfl) ?_
        exact Got.intro 2 rfl rfl rfl
      refine WL.val (.inl rfl) rfl (yl_move rfl) ?_
      apply WL.and 3 rfl rfl rfl rfl (.inl rfl) rfl rfl rfl rfl rfl
      ·
        intro hg2
        refine WL.val (.inr ⟨_, _, _, rfl, rfl, rfl⟩) rfl (yl_move rfl) ?_
        refine WL.val (.inr ⟨_, _, _, rfl, rfl, rfl⟩) rfl (yl_move rfl) ?_
        refine WL.val (.inr ⟨_, _, _, rfl, rfl, rfl⟩) rfl (yl_eqs rfl rfl) ?_
        exact Got.intro 3 rfl rfl rfl
      refine WL.val (.inl rfl) rfl (yl_assign rfl) ?_
      refine WL.nil ?_
      refine WE.then_normal ?_
      refine WC.ret ?_
      refine WE.ret1 rfl rfl fun w' hw => ?_
      exact ⟨by simp, hw.fr⟩

end Go.Proofs.Ytagoencpeflmlaa
