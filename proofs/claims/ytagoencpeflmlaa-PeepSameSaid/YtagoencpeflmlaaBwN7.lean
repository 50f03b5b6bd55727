/- Walks of the machine of the document and of the law, and plain laws on what they compute; each theorem tells its own conditions. -/
import Derived.Test.YtagoencpeflmlaaBwN6
namespace Go.Proofs.Ytagoencpeflmlaa
open Go.Bw
set_option linter.unusedVariables false
set_option linter.unusedSimpArgs false

theorem yl_eqY {P : Program} {l : List (Nat × Value)} {W : World → Prop} {d : Option Tmp} {ty : TypeId} {pos : String} {af : Array Edge} {g : Option (Nat × Bool)} {t u : TypeId} {x y : Operand} {k : IntKind} {a b : Int} (hx : opv l x = some (.int k a)) (hy : opv l y = some (.int k b)) (h : a = b) : Yl P l W ⟨d, .binOp .eql t x y u, ty, pos, af, g⟩ (.bool true) := by
  have := yl_eq (P := P) (W := W) (d := d) (t := t) (u := u) (ty := ty) (pos := pos) (af := af) (g := g) hx hy
  rwa [show (a == b) = true by simpa using h] at this
theorem errB_eq {code : List Ins} {data : Int} {inp : List Int} {ticks n e1 : Int} (he : e1 = (if (checkImg code data == 0) = true then runE inp ticks else checkImg code data)) : (if (e1 == 0 && (decide (n < 0) || decide (134217728 < n))) = true then 3 else e1) = machE code data inp ticks n := by
  rw [← refE_eq]
  unfold refE
  by_cases h : (checkImg code data == 0) = true
  · rw [if_pos h] at he
    rw [if_pos h, ← he]
    by_cases h1 : (e1 == 0) = true
    · have h0 : e1 = 0 := by simpa using h1
      rw [if_pos h1, h0]
      by_cases h2 : n < 0 ∨ 134217728 < n
      · rw [if_pos h2, if_pos (by simpa using h2)]
      · rw [if_neg h2, if_neg (by simpa using h2)]
    · rw [if_neg h1, if_neg (by simp at h1; simp [h1])]
  · rw [if_neg h] at he
    rw [if_neg h, ← he, if_neg (by simp at h; rw [← he] at h; simp [h])]
theorem en23 : Enters Try.prog 23 := enters_of Try.func23 (by kernel_rfl) rfl
theorem en11 : Enters Try.prog 11 := enters_of Try.func11 (by kernel_rfl) rfl
theorem en25 : Enters Try.prog 25 := enters_of Try.func25 (by kernel_rfl) rfl
theorem en26 : Enters Try.prog 26 := enters_of Try.func26 (by kernel_rfl) rfl
theorem en27 : Enters Try.prog 27 := enters_of Try.func27 (by kernel_rfl) rfl

theorem machRuns_any (H : View) (a : Option Addr) (c : Nat) (code : List Ins) (data : Int) (Hi : View) (ai : Option Addr) (ci : Nat) (inp : List Int) (ticks steps : Int) (w : World) (hH : Le H w) (hm : Sl rdIns 3 H a c code) (hHi : Le Hi w) (hmi : Sl rdI 1 Hi ai ci inp) :
    Calls Try.prog 6 #[.agg #[.slice a code.length c, .int .i64 data], .slice ai inp.length ci, .int .i64 ticks, .int .i64 steps] w fun e w' => e = .returned (.bool true) ∧ Ext w w' := by
  refine enter Try.func6 rfl 80 rfl rfl ?_
  refine WC.world (W' := Ws w [] [] [H, Hi]) (fun _ e => by subst e; exact Ws.init (by simp [hH, hHi])) ?_
  refine WC.seq ?_
  refine WC.region ?_
  refine WL.box (.inl rfl) rfl rfl fun b4 => ?_
  refine WL.val (.inl rfl) rfl (yl_assign rfl) ?_
  refine WL.nil ?_
  refine WE.then_normal ?_
  refine WC.seq ?_
  refine WC.region ?_
  refine WL.val (.inl rfl) rfl (yl_move rfl) ?_
  refine WL.val (.inl rfl) rfl (yl_assign rfl) ?_
  refine WL.nil ?_
  refine WE.then_normal ?_
  refine WC.cutE (ι := Int) (fun n => [(4, .pointer (some ⟨b4, 0, none⟩)), (1, .slice ai inp.length ci), (2, .int .i64 ticks), (9, .int .i64 n)]) (fun n => Ws w [] [blk b4 (.cells (Value.agg #[.slice a code.length c, .int .i64 data]).cells 24 (0, 0))] [H, Hi]) (fun n => True) ?_ ?_
  ·
    refine WC.seq ?_
    refine WC.region ?_
    refine WL.val (.inl rfl) rfl (yl_move rfl) ?_
    refine WL.val (.inl rfl) rfl (yl_le rfl rfl) ?_
    refine WL.nil ?_
    refine WE.then_normal ?_
    refine WC.cond rfl (fun hc0 => ?_) (fun hc0 => ?_)
    ·
      refine WC.region ?_
      refine WL.val (.inl rfl) rfl (yl_move rfl) ?_
      refine WL.callp (.inl rfl) rfl en23 rfl (fun w hw => few_any _ w) ?_
      refine WL.val (.inl rfl) rfl (yl_assign rfl) ?_
      refine WL.nil ?_
      exact WE.meetE (fewN steps) trivial (sc rfl (sc rfl (sc rfl (sc rfl sn)))) (fun _ h => by
        have h := h.fronti 0 rfl
        exact h)
    ·
      refine WC.skip ?_
      exact WE.meetE steps trivial (sc rfl (sc rfl (sc rfl (sc rfl sn)))) (fun _ h => by
        have h := h.fronti 0 rfl
        exact h)
  intro n _
  refine WC.seq ?_
  refine WC.region ?_
  refine WL.val (.inl rfl) rfl (yl_ldka 0 rfl rfl ag24 rfl) ?_
  refine WL.val (.inl rfl) rfl (yl_move rfl) ?_
  refine WL.val (.inl rfl) rfl (yl_move rfl) ?_
  refine WL.val (.inl rfl) rfl (yl_move rfl) ?_
  refine WL.calld (.inl rfl) rfl en24 rfl (fun r : (Option Addr × Nat) × (Option Addr × Nat) => .tuple #[.agg #[.int .i64 (machR code data inp ticks n).1.fin, .slice r.1.1 (machR code data inp ticks n).1.out.length r.1.2, .slice r.2.1 (machR code data inp ticks n).1.data.length r.2.2, .int .i64 (machR code data inp ticks n).1.ticks], .int .i64 (machR code data inp ticks n).2, .int .i64 (machE code data inp ticks n)]) (fun K r => Sl rdI 1 K r.1.1 r.1.2 (machR code data inp ticks n).1.out ∧ Sl rdI 1 K r.2.1 r.2.2 (machR code data inp ticks n).1.data) (fun w hw => machRun_any H a c code data Hi ai ci inp ticks n w (hw.vs _ (by simp)) hm (hw.vs _ (by simp)) hmi) ?_
  intro K26 r26 hf26 hk26
  refine WL.val (.inl rfl) rfl (yl_move rfl) ?_
  refine WL.val (.inl rfl) rfl (yl_extract rfl rfl) ?_
  refine WL.val (.inl rfl) rfl (yl_extract rfl rfl) ?_
  refine WL.val (.inl rfl) rfl (yl_extract rfl rfl) ?_
  refine WL.alloc (.inl rfl) rfl zr53 fun b10 => ?_
  refine WL.store 0 (.inl rfl) rfl rfl rfl sz53 rfl rfl rfl ?_
  refine WL.val (.inl rfl) rfl (yl_assign rfl) ?_
  refine WL.val (.inl rfl) rfl (yl_assign rfl) ?_
  refine WL.nil ?_
  refine WE.then_normal ?_
  refine WC.seq ?_
  refine WC.region ?_
  refine WL.val (.inl rfl) rfl (yl_ldka 1 rfl rfl ag24 rfl) ?_
  refine WL.callp (.inl rfl) rfl en11 rfl (fun w hw => checkImage_any H a c code data _ (hw.vs _ (by simp)) hm) ?_
  refine WL.val (.inl rfl) rfl (yl_assign rfl) ?_
  refine WL.nil ?_
  refine WE.then_normal ?_
  refine WC.cutE (ι := Int) (fun e1 => [(4, .pointer (some ⟨b4, 0, none⟩)), (1, .slice ai inp.length ci), (2, .int .i64 ticks), (9, .int .i64 n), (10, .pointer (some ⟨b10, 0, none⟩)), (11, .int .i64 (machR code data inp ticks n).2), (12, .int .i64 (machE code data inp ticks n)), (13, .int .i64 e1)]) (fun e1 => Ws w [] [blk b10 (.cells (Value.cells (.agg #[.int .i64 (machR code data inp ticks n).1.fin, .slice r26.1.1 (machR code data inp ticks n).1.out.length r26.1.2, .slice r26.2.1 (machR code data inp ticks n).1.data.length r26.2.2, .int .i64 (machR code data inp ticks n).1.ticks])) 53 (0, 0)), blk b4 (.cells (Value.agg #[.slice a code.length c, .int .i64 data]).cells 24 (0, 0))] [K26, H, Hi]) (fun e1 => e1 = (if (checkImg code data == 0) = true then runE inp ticks else checkImg code data)) ?_ ?_
  ·
    refine WC.seq ?_
    refine WC.region ?_
    refine WL.val (.inl rfl) rfl (yl_move rfl) ?_
    refine WL.val (.inl rfl) rfl (yl_eq rfl rfl) ?_
    refine WL.nil ?_
    refine WE.then_normal ?_
    refine WC.cond rfl (fun hc1 => ?_) (fun hc1 => ?_)
    ·
      refine WC.region ?_
      refine WL.val (.inl rfl) rfl (yl_move rfl) ?_
      refine WL.val (.inl rfl) rfl (yl_move rfl) ?_
      refine WL.callp (.inl rfl) rfl en25 rfl (fun w hw => runError_any H ai ci inp ticks w) ?_
      refine WL.val (.inl rfl) rfl (yl_assign rfl) ?_
      refine WL.nil ?_
      exact WE.meetE (runE inp ticks) (if_pos hc1).symm (sc rfl (sc rfl (sc rfl (sc rfl (sc rfl (sc rfl (sc rfl (sc rfl sn)))))))) (fun _ h => by
        have h := h.fronti 1 rfl
        have h := h.fronti 1 rfl
        exact h)
    ·
      refine WC.skip ?_
      exact WE.meetE (checkImg code data) (if_neg (by rw [hc1]; simp)).symm (sc rfl (sc rfl (sc rfl (sc rfl (sc rfl (sc rfl (sc rfl (sc rfl sn)))))))) (fun _ h => by
        have h := h.fronti 1 rfl
        have h := h.fronti 1 rfl
        exact h)
  intro e1 he1
  refine WC.cutE (ι := Int) (fun e2 => [(4, .pointer (some ⟨b4, 0, none⟩)), (1, .slice ai inp.length ci), (2, .int .i64 ticks), (9, .int .i64 n), (10, .pointer (some ⟨b10, 0, none⟩)), (11, .int .i64 (machR code data inp ticks n).2), (12, .int .i64 (machE code data inp ticks n)), (13, .int .i64 e2)]) (fun e2 => Ws w [] [blk b10 (.cells (Value.cells (.agg #[.int .i64 (machR code data inp ticks n).1.fin, .slice r26.1.1 (machR code data inp ticks n).1.out.length r26.1.2, .slice r26.2.1 (machR code data inp ticks n).1.data.length r26.2.2, .int .i64 (machR code data inp ticks n).1.ticks])) 53 (0, 0)), blk b4 (.cells (Value.agg #[.slice a code.length c, .int .i64 data]).cells 24 (0, 0))] [K26, H, Hi]) (fun e2 => e2 = (machE code data inp ticks n)) ?_ ?_
  ·
    refine WC.seq ?_
    refine WC.region ?_
    refine WL.val (.inl rfl) rfl (yl_move rfl) ?_
    refine WL.val (.inl rfl) rfl (yl_eq rfl rfl) ?_
    refine WL.val (.inl rfl) rfl (yl_move rfl) ?_
    apply WL.and 6 rfl rfl rfl rfl (.inl rfl) rfl rfl rfl rfl rfl
    ·
      intro hg0
      refine WL.val (.inr ⟨_, _, _, rfl, rfl, rfl⟩) rfl (yl_move rfl) ?_
      refine WL.val (.inr ⟨_, _, _, rfl, rfl, rfl⟩) rfl (yl_lt rfl rfl) ?_
      refine WL.val (.inr ⟨_, _, _, rfl, rfl, rfl⟩) rfl (yl_move rfl) ?_
      apply WL.or 2 rfl rfl rfl rfl (.inr ⟨_, _, _, rfl, rfl, rfl⟩) rfl rfl rfl rfl rfl
      ·
        intro hg1
        refine WL.val (.inr ⟨_, _, _, rfl, rfl, rfl⟩) rfl (yl_move rfl) ?_
        refine WL.val (.inr ⟨_, _, _, rfl, rfl, rfl⟩) rfl (yl_gt rfl rfl) ?_
        exact Got.intro 2 rfl rfl rfl
      exact Got.intro 4 rfl rfl rfl
    refine WL.nil ?_
    refine WE.then_normal ?_
    refine WC.cond rfl (fun hc2 => ?_) (fun hc2 => ?_)
    ·
      refine WC.region ?_
      refine WL.val (.inl rfl) rfl (yl_assign rfl) ?_
      refine WL.nil ?_
      exact WE.meetE 3 (by rw [← errB_eq he1, if_pos hc2]) (sc rfl (sc rfl (sc rfl (sc rfl (sc rfl (sc rfl (sc rfl (sc rfl sn)))))))) (fun _ h => by
        have h := h.fronti 1 rfl
        have h := h.fronti 1 rfl
        exact h)
    ·
      refine WC.skip ?_
      exact WE.meetE e1 (by rw [← errB_eq he1, if_neg (by rw [hc2]; simp)]) (sc rfl (sc rfl (sc rfl (sc rfl (sc rfl (sc rfl (sc rfl (sc rfl sn)))))))) (fun _ h => by
        have h := h.fronti 1 rfl
        have h := h.fronti 1 rfl
        exact h)
  intro e2 he2
  refine WC.seq ?_
  refine WC.region ?_
  refine WL.alloc (.inl rfl) rfl zr53 fun b14 => ?_
  refine WL.nil ?_
  refine WE.then_normal ?_
  refine WC.seq ?_
  refine WC.region ?_
  refine WL.val (.inl rfl) rfl (yl_assign rfl) ?_
  refine WL.nil ?_
  refine WE.then_normal ?_
  refine WC.seq ?_
  refine WC.seq ?_
  refine WC.region ?_
  refine WL.val (.inl rfl) rfl (yl_move rfl) ?_
  refine WL.val (.inl rfl) rfl (yl_eq rfl rfl) ?_
  refine WL.nil ?_
  refine WE.then_normal ?_
  refine WC.cond rfl (fun hc3 => ?_) (fun hc3 => ?_)
  ·
    have hz0 : (machE code data inp ticks n) = 0 := by rw [← he2]; simpa using hc3
    have hz := machE_zero hz0
    refine WC.region ?_
    refine WL.val (.inl rfl) rfl (yl_ldka 2 rfl rfl ag24 rfl) ?_
    refine WL.val (.inl rfl) rfl (yl_move rfl) ?_
    refine WL.val (.inl rfl) rfl (yl_move rfl) ?_
    refine WL.val (.inl rfl) rfl (yl_move rfl) ?_
    refine WL.calld (.inl rfl) rfl en26 rfl (fun r : (Option Addr × Nat) × (Option Addr × Nat) => .tuple #[.agg #[.int .i64 (gearR code data inp ticks n).1.fin, .slice r.1.1 (gearR code data inp ticks n).1.out.length r.1.2, .slice r.2.1 (gearR code data inp ticks n).1.data.length r.2.2, .int .i64 (gearR code data inp ticks n).1.ticks], .int .i64 ((gearR code data inp ticks n).2 : Int)]) (fun K r => Sl rdI 1 K r.1.1 r.1.2 (gearR code data inp ticks n).1.out ∧ Sl rdI 1 K r.2.1 r.2.2 (gearR code data inp ticks n).1.data) (fun w hw => runImage_any H a c code data Hi ai ci inp ticks n w (hw.vs _ (by simp)) hm (hw.vs _ (by simp)) hmi hz.1 hz.2.2.2) ?_
    intro K54 r54 hf54 hk54
    refine WL.val (.inl rfl) rfl (yl_move rfl) ?_
    refine WL.val (.inl rfl) rfl (yl_extract rfl rfl) ?_
    refine WL.val (.inl rfl) rfl (yl_extract rfl rfl) ?_
    refine WL.store 0 (.inl rfl) rfl rfl rfl sz53 rfl rfl rfl ?_
    refine WL.val (.inl rfl) rfl (yl_assign rfl) ?_
    refine WL.nil ?_
    refine WE.then_normal ?_
    refine WC.seq ?_
    refine WC.drawU (fun _ => true) [] [] (.e 0 (.q false 1 (.q true 2 (.q true 4 (.e 3 (.e 5 (.q false 6 (.q false 7 (.q false 8 (.q false 9 (.q false 10 (.q false 11 (.q false 12 (.q false 13 (.q false 14 (.q false 15 (.q false 16 (.q false 17 (.q false 18 (.q true 19 (.q true 20 (.e 21 (.q false 22 (.q false 23 .nil)) .stop)))))))))))))))) .stop) .stop)))) .stop) mixed (by kernel_rfl) (fun _ _ _ d _ _ h => by cases d <;> exact h) ?_
    refine WU.e rfl (fun _ h => h) ?_ WU.stop
    refine WL.callp (.inl rfl) rfl en27 rfl (fun w hw => machBegun_any w) ?_
    refine WL.nil ?_
    refine WE.toU ?_
    refine WU.q rfl (.inl rfl) rfl (fun _ h => h) (yl_move rfl) ?_
    refine WU.q rfl (.inr ⟨_, _, _, rfl, rfl, rfl⟩) rfl (fun _ h => h) (yl_ldka 2 rfl rfl ag24 rfl) ?_
    refine WU.q rfl (.inr ⟨_, _, _, rfl, rfl, rfl⟩) rfl (fun _ h => h) (yl_ldka 2 rfl rfl ag24 rfl) ?_
    refine WU.e rfl (fun _ h => h) ?_ WU.stop
    refine WL.callp (.inr ⟨_, _, _, rfl, rfl, rfl⟩) rfl en28 rfl (fun w hw => check_any H a c code data w (hw.vs _ (by simp)) hm) ?_
    refine WL.nil ?_
    refine WE.toU ?_
    refine WU.e rfl (fun _ h => h) ?_ WU.stop
    refine WL.callp (.inr ⟨_, _, _, rfl, rfl, rfl⟩) rfl en11 rfl (fun w hw => checkImage_any H a c code data _ (hw.vs _ (by simp)) hm) ?_
    refine WL.nil ?_
    refine WE.toU ?_
    refine WU.q rfl (.inr ⟨_, _, _, rfl, rfl, rfl⟩) rfl (fun _ h => h) (yl_eqY rfl rfl rfl) ?_
    refine WU.q rfl (.inl rfl) rfl (fun _ h => h) (yl_pick rfl rfl rfl) ?_
    refine WU.q rfl (.inl rfl) rfl (fun _ h => h) (yl_move rfl) ?_
    refine WU.q rfl (.inr ⟨_, _, _, rfl, rfl, rfl⟩) rfl (fun _ h => h) (yl_move rfl) ?_
    refine WU.q rfl (.inr ⟨_, _, _, rfl, rfl, rfl⟩) rfl (fun _ h => h) (yl_move rfl) ?_
    refine WU.q rfl (.inr ⟨_, _, _, rfl, rfl, rfl⟩) rfl (fun _ h => h) (yl_eqY rfl rfl he2.symm) ?_
    refine WU.q rfl (.inl rfl) rfl (fun _ h => h) (yl_pick rfl rfl rfl) ?_
    refine WU.q rfl (.inl rfl) rfl (fun _ h => h) (yl_move rfl) ?_
    refine WU.q rfl (.inr ⟨_, _, _, rfl, rfl, rfl⟩) rfl (fun _ h => h) (yl_move rfl) ?_
    refine WU.q rfl (.inr ⟨_, _, _, rfl, rfl, rfl⟩) rfl (fun _ h => h) (yl_move rfl) ?_
    refine WU.q rfl (.inr ⟨_, _, _, rfl, rfl, rfl⟩) rfl (fun _ h => h) (yl_eqY rfl rfl (mach_gear hz0).2.symm) ?_
    refine WU.q rfl (.inl rfl) rfl (fun _ h => h) (yl_pick rfl rfl rfl) ?_
    refine WU.q rfl (.inl rfl) rfl (fun _ h => h) (yl_move rfl) ?_
    refine WU.q rfl (.inr ⟨_, _, _, rfl, rfl, rfl⟩) rfl (fun _ h => h) (yl_ldka 1 rfl rfl ag53 rfl) ?_
    refine WU.q rfl (.inr ⟨_, _, _, rfl, rfl, rfl⟩) rfl (fun _ h => h) (yl_ldka 0 rfl rfl ag53 rfl) ?_
    refine WU.e rfl (fun _ h => h) ?_ WU.stop
    refine WL.callp (.inr ⟨_, _, _, rfl, rfl, rfl⟩) rfl en29 rfl (fun w hw => sameResults_any K26 K54 K26 K54 r26.1.1 r54.1.1 r26.2.1 r54.2.1 r26.1.2 r54.1.2 r26.2.2 r54.2.2 (machR code data inp ticks n).1 (gearR code data inp ticks n).1 w (hw.vs K26 (by simp)) (hw.vs K54 (by simp)) (hw.vs K26 (by simp)) (hw.vs K54 (by simp)) hk26.1 hk54.1 hk26.2 hk54.2) ?_
    refine WL.nil ?_
    refine WE.toU ?_
    refine WU.q rfl (.inl rfl) rfl (fun _ h => h) (yl_pick rfl rfl rfl) ?_
    refine WU.q rfl (.inl rfl) rfl (fun _ h => h) (yl_assign rfl) ?_
    refine WU.nil (fun _ h => h) ?_
    refine WS.nil ?_
    refine WE.then_normal ?_
    refine WC.ret ?_
    refine WE.ret1 rfl rfl fun w' hw => ?_
    obtain ⟨g1, g2⟩ := mach_gear hz0
    exact ⟨by simp [g1, g2, he2], hw.fr⟩
  ·
    have hz : ¬ (machE code data inp ticks n) = 0 := by rw [← he2]; simpa using hc3
    refine WC.skip ?_
    refine WE.then_normal ?_
    refine WC.seq ?_
    refine WC.drawU (fun _ => true) [] [] (.e 0 (.q false 1 (.q true 2 (.q true 4 (.e 3 (.e 5 (.q false 6 (.q false 7 (.q false 8 (.q false 9 (.q false 10 (.q false 11 (.q false 12 (.q false 13 (.q false 14 (.q false 15 (.q false 16 (.q false 17 (.q false 18 (.q true 19 (.q true 20 (.e 21 (.q false 22 (.q false 23 .nil)) .stop)))))))))))))))) .stop) .stop)))) .stop) mixed (by kernel_rfl) (fun _ _ _ d _ _ h => by cases d <;> exact h) ?_
    refine WU.e rfl (fun _ h => h) ?_ WU.stop
    refine WL.callp (.inl rfl) rfl en27 rfl (fun w hw => machBegun_any w) ?_
    refine WL.nil ?_
    refine WE.toU ?_
    refine WU.q rfl (.inl rfl) rfl (fun _ h => h) (yl_move rfl) ?_
    refine WU.q rfl (.inr ⟨_, _, _, rfl, rfl, rfl⟩) rfl (fun _ h => h) (yl_ldka 2 rfl rfl ag24 rfl) ?_
    refine WU.q rfl (.inr ⟨_, _, _, rfl, rfl, rfl⟩) rfl (fun _ h => h) (yl_ldka 2 rfl rfl ag24 rfl) ?_
    refine WU.e rfl (fun _ h => h) ?_ WU.stop
    refine WL.callp (.inr ⟨_, _, _, rfl, rfl, rfl⟩) rfl en28 rfl (fun w hw => check_any H a c code data w (hw.vs _ (by simp)) hm) ?_
    refine WL.nil ?_
    refine WE.toU ?_
    refine WU.e rfl (fun _ h => h) ?_ WU.stop
    refine WL.callp (.inr ⟨_, _, _, rfl, rfl, rfl⟩) rfl en11 rfl (fun w hw => checkImage_any H a c code data _ (hw.vs _ (by simp)) hm) ?_
    refine WL.nil ?_
    refine WE.toU ?_
    refine WU.q rfl (.inr ⟨_, _, _, rfl, rfl, rfl⟩) rfl (fun _ h => h) (yl_eqY rfl rfl rfl) ?_
    refine WU.q rfl (.inl rfl) rfl (fun _ h => h) (yl_pick rfl rfl rfl) ?_
    refine WU.q rfl (.inl rfl) rfl (fun _ h => h) (yl_move rfl) ?_
    refine WU.q rfl (.inr ⟨_, _, _, rfl, rfl, rfl⟩) rfl (fun _ h => h) (yl_move rfl) ?_
    refine WU.q rfl (.inr ⟨_, _, _, rfl, rfl, rfl⟩) rfl (fun _ h => h) (yl_move rfl) ?_
    refine WU.q rfl (.inr ⟨_, _, _, rfl, rfl, rfl⟩) rfl (fun _ h => h) (yl_eqY rfl rfl he2.symm) ?_
    refine WU.q rfl (.inl rfl) rfl (fun _ h => h) (yl_pick rfl rfl rfl) ?_
    refine WU.q rfl (.inl rfl) rfl (fun _ h => h) (yl_move rfl) ?_
    refine WU.q rfl (.inr ⟨_, _, _, rfl, rfl, rfl⟩) rfl (fun _ h => h) (yl_move rfl) ?_
    refine WU.q rfl (.inr ⟨_, _, _, rfl, rfl, rfl⟩) rfl (fun _ h => h) (yl_move rfl) ?_
    refine WU.q rfl (.inr ⟨_, _, _, rfl, rfl, rfl⟩) rfl (fun _ h => h) (yl_eqY rfl rfl (by rw [mach_err hz])) ?_
    refine WU.q rfl (.inl rfl) rfl (fun _ h => h) (yl_pick rfl rfl rfl) ?_
    refine WU.q rfl (.inl rfl) rfl (fun _ h => h) (yl_move rfl) ?_
    refine WU.q rfl (.inr ⟨_, _, _, rfl, rfl, rfl⟩) rfl (fun _ h => h) (yl_ldka 1 rfl rfl ag53 rfl) ?_
    refine WU.q rfl (.inr ⟨_, _, _, rfl, rfl, rfl⟩) rfl (fun _ h => h) (yl_ldka 0 rfl rfl ag53 rfl) ?_
    refine WU.e rfl (fun _ h => h) ?_ WU.stop
    refine WL.callp (.inr ⟨_, _, _, rfl, rfl, rfl⟩) rfl en29 rfl (fun w hw => sameResults_any K26 K26 K26 K26 r26.1.1 none r26.2.1 none r26.1.2 0 r26.2.2 0 (machR code data inp ticks n).1 ⟨0, [], [], 0⟩ w (hw.vs K26 (by simp)) (hw.vs K26 (by simp)) (hw.vs K26 (by simp)) (hw.vs K26 (by simp)) hk26.1 Sl.nil hk26.2 Sl.nil) ?_
    refine WL.nil ?_
    refine WE.toU ?_
    refine WU.q rfl (.inl rfl) rfl (fun _ h => h) (yl_pick rfl rfl rfl) ?_
    refine WU.q rfl (.inl rfl) rfl (fun _ h => h) (yl_assign rfl) ?_
    refine WU.nil (fun _ h => h) ?_
    refine WS.nil ?_
    refine WE.then_normal ?_
    refine WC.ret ?_
    refine WE.ret1 rfl rfl fun w' hw => ?_
    exact ⟨by simp [mach_err hz, he2], hw.fr⟩

end Go.Proofs.Ytagoencpeflmlaa
