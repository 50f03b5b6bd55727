/- Walks of the machine of the document and of the law, and plain laws on what they compute; each theorem tells its own conditions. -/
import Derived.Test.YtagoencpeflmlaaBwN7
namespace Go.Proofs.Ytagoencpeflmlaa
open Go.Bw
set_option linter.unusedVariables false
set_option linter.unusedSimpArgs false

section
variable {P : Program} {l : List (Nat × Value)} {W : World → Prop} {d : Option Tmp} {ty : TypeId} {pos : String} {af : Array Edge} {g : Option (Nat × Bool)}
theorem yl_neN {t u : TypeId} {x y : Operand} {k : IntKind} {a b : Int} (hx : opv l x = some (.int k a)) (hy : opv l y = some (.int k b)) (h : a = b) : Yl P l W ⟨d, .binOp .neq t x y u, ty, pos, af, g⟩ (.bool false) := by
  have := yl_ne (P := P) (W := W) (d := d) (t := t) (u := u) (ty := ty) (pos := pos) (af := af) (g := g) hx hy
  rwa [show (a != b) = false by simpa using h] at this
theorem yl_gtN {t u : TypeId} {x y : Operand} {k : IntKind} {a b : Int} (hx : opv l x = some (.int k a)) (hy : opv l y = some (.int k b)) (h : a ≤ b) : Yl P l W ⟨d, .binOp .gtr t x y u, ty, pos, af, g⟩ (.bool false) := by
  have := yl_gt (P := P) (W := W) (d := d) (t := t) (u := u) (ty := ty) (pos := pos) (af := af) (g := g) hx hy
  rwa [show decide (b < a) = false by simpa using h] at this
end
theorem few_le (n : Int) : fewN n ≤ 16384 := by unfold fewN; split <;> omega
theorem pre_take {a b : List Int} (h : a <+: b) : b.take a.length = a := by obtain ⟨t, rfl⟩ := h; simp
theorem same_pre {H1 H2 : View} {a1 a2 : Option Addr} {c1 c2 : Nat} {l1 l2 : List Int} {w : World} (hH1 : Le H1 w) (hH2 : Le H2 w) (hm1 : Sl rdI 1 H1 a1 c1 l1) (hm2 : Sl rdI 1 H2 a2 c2 l2) (h : l1 <+: l2) :
    Calls Try.prog 31 #[.slice a1 l1.length c1, .slice a2 l1.length c2] w fun e w' => e = .returned (.bool true) ∧ Ext w w' := by
  have ht := hm2.take l1.length
  rw [pre_take h] at ht
  have := sameInts_any H1 H2 a1 a2 c1 c2 l1 l1 w hH1 hH2 hm1 ht
  simpa using this
theorem en30 : Enters Try.prog 30 := enters_of Try.func30 (by kernel_rfl) rfl

theorem machMore_any (H : View) (a : Option Addr) (c : Nat) (code : List Ins) (data : Int) (Hi : View) (ai : Option Addr) (ci : Nat) (inp : List Int) (ticks steps more : Int) (w : World) (hH : Le H w) (hm : Sl rdIns 3 H a c code) (hHi : Le Hi w) (hmi : Sl rdI 1 Hi ai ci inp) (hmo : -9223372036854775808 ≤ more ∧ more ≤ 9223372036854775807) :
    Calls Try.prog 7 #[.agg #[.slice a code.length c, .int .i64 data], .slice ai inp.length ci, .int .i64 ticks, .int .i64 steps, .int .i64 more] w fun e w' => e = .returned (.bool true) ∧ Ext w w' := by
  refine enter Try.func7 rfl 94 rfl rfl ?_
  refine WC.world (W' := Ws w [] [] [H, Hi]) (fun _ e => by subst e; exact Ws.init (by simp [hH, hHi])) ?_
  refine WC.seq ?_
  refine WC.region ?_
  refine WL.box (.inl rfl) rfl rfl fun b5 => ?_
  refine WL.val (.inl rfl) rfl (yl_assign rfl) ?_
  refine WL.nil ?_
  refine WE.then_normal ?_
  refine WC.seq ?_
  refine WC.region ?_
  refine WL.val (.inl rfl) rfl (yl_move rfl) ?_
  refine WL.callp (.inl rfl) rfl en23 rfl (fun w hw => few_any _ w) ?_
  refine WL.val (.inl rfl) rfl (yl_assign rfl) ?_
  refine WL.nil ?_
  refine WE.then_normal ?_
  refine WC.seq ?_
  refine WC.region ?_
  refine WL.val (.inl rfl) rfl (yl_ldka 0 rfl rfl ag24 rfl) ?_
  refine WL.val (.inl rfl) rfl (yl_move rfl) ?_
  refine WL.val (.inl rfl) rfl (yl_move rfl) ?_
  refine WL.val (.inl rfl) rfl (yl_move rfl) ?_
  refine WL.calld (.inl rfl) rfl en24 rfl (fun r : (Option Addr × Nat) × (Option Addr × Nat) => .tuple #[.agg #[.int .i64 (machR code data inp ticks (fewN steps)).1.fin, .slice r.1.1 (machR code data inp ticks (fewN steps)).1.out.length r.1.2, .slice r.2.1 (machR code data inp ticks (fewN steps)).1.data.length r.2.2, .int .i64 (machR code data inp ticks (fewN steps)).1.ticks], .int .i64 (machR code data inp ticks (fewN steps)).2, .int .i64 (machE code data inp ticks (fewN steps))]) (fun K r => Sl rdI 1 K r.1.1 r.1.2 (machR code data inp ticks (fewN steps)).1.out ∧ Sl rdI 1 K r.2.1 r.2.2 (machR code data inp ticks (fewN steps)).1.data) (fun w hw => machRun_any H a c code data Hi ai ci inp ticks (fewN steps) w (hw.vs _ (by simp)) hm (hw.vs _ (by simp)) hmi) ?_
  intro K25 r25 hf25 hk25
  refine WL.val (.inl rfl) rfl (yl_move rfl) ?_
  refine WL.val (.inl rfl) rfl (yl_extract rfl rfl) ?_
  refine WL.val (.inl rfl) rfl (yl_extract rfl rfl) ?_
  refine WL.val (.inl rfl) rfl (yl_extract rfl rfl) ?_
  refine WL.alloc (.inl rfl) rfl zr53 fun b12 => ?_
  refine WL.store 0 (.inl rfl) rfl rfl rfl sz53 rfl rfl rfl ?_
  refine WL.val (.inl rfl) rfl (yl_assign rfl) ?_
  refine WL.val (.inl rfl) rfl (yl_assign rfl) ?_
  refine WL.nil ?_
  refine WE.then_normal ?_
  refine WC.seq ?_
  refine WC.seq ?_
  refine WC.region ?_
  refine WL.val (.inl rfl) rfl (yl_move rfl) ?_
  refine WL.val (.inl rfl) rfl (yl_ne rfl rfl) ?_
  refine WL.nil ?_
  refine WE.then_normal ?_
  refine WC.cond rfl (fun hc0 => ?_) (fun hc0 => ?_)
  ·
    refine WC.seq ?_
    refine WC.region ?_
    refine WL.callp (.inl rfl) rfl en27 rfl (fun w hw => machBegun_any w) ?_
    refine WL.val (.inl rfl) rfl (yl_assign rfl) ?_
    refine WL.nil ?_
    refine WE.then_normal ?_
    refine WC.ret ?_
    refine WE.then_ret ?_
    refine WE.ret1 rfl rfl fun w' hw => ?_
    exact ⟨rfl, hw.fr⟩
  ·
    have hz0 : (machE code data inp ticks (fewN steps)) = 0 := by simpa using hc0
    have hn := (machE_zero hz0).2.2.2
    have hfl := few_le steps
    have hch := choose_in hmo.1 hmo.2
    obtain ⟨hE2, hl, ht, hp, hor⟩ := mach_more hz0 hch.1 (by omega)
    have hpl := hp.length_le
    refine WC.skip ?_
    refine WE.then_normal ?_
    refine WC.seq ?_
    refine WC.drawU (fun _ => true) [] [13, 14, 15] (.q true 0 (.q false 1 (.q false 2 (.q false 3 (.q false 4 (.e 5 (.q false 6 (.e 7 (.q false 8 (.q false 9 (.q false 10 (.q false 11 (.e 12 .nil .stop))))) (.e 12 (.e 7 (.q false 8 (.q false 9 (.q false 10 (.q false 11 .nil)))) .stop) .stop))) (.e 12 (.e 5 (.q false 6 (.e 7 (.q false 8 (.q false 9 (.q false 10 (.q false 11 .nil)))) .stop)) .stop) .stop))))))) mixed (by kernel_rfl) (fun _ _ _ d _ _ h => by cases d <;> exact h) ?_
    refine WU.q rfl (.inl rfl) rfl (fun _ h => h) (yl_ldka 1 rfl rfl ag24 rfl) ?_
    refine WU.q rfl (.inl rfl) rfl (fun _ h => h) (yl_move rfl) ?_
    refine WU.q rfl (.inl rfl) rfl (fun _ h => h) (yl_move rfl) ?_
    refine WU.q rfl (.inl rfl) rfl (fun _ h => h) (yl_move rfl) ?_
    refine WU.q rfl (.inl rfl) rfl (fun _ h => h) (yl_move rfl) ?_
    refine WU.e rfl (fun _ h => h) ?_ ?_
    ·
      refine WL.callp (.inl rfl) rfl en30 rfl (fun w hw => choose_any more 16384 (by decide) w) ?_
      refine WL.nil ?_
      refine WE.toU ?_
      refine WU.q rfl (.inl rfl) rfl (fun _ h => h) (yl_add rfl rfl (by omega)) ?_
      refine WU.e rfl (fun _ h => h) ?_ ?_
      ·
        refine WL.calld (.inl rfl) rfl en24 rfl (fun r : (Option Addr × Nat) × (Option Addr × Nat) => .tuple #[.agg #[.int .i64 (machR code data inp ticks (fewN steps + chooseN more 16384)).1.fin, .slice r.1.1 (machR code data inp ticks (fewN steps + chooseN more 16384)).1.out.length r.1.2, .slice r.2.1 (machR code data inp ticks (fewN steps + chooseN more 16384)).1.data.length r.2.2, .int .i64 (machR code data inp ticks (fewN steps + chooseN more 16384)).1.ticks], .int .i64 (machR code data inp ticks (fewN steps + chooseN more 16384)).2, .int .i64 (machE code data inp ticks (fewN steps + chooseN more 16384))]) (fun K r => Sl rdI 1 K r.1.1 r.1.2 (machR code data inp ticks (fewN steps + chooseN more 16384)).1.out ∧ Sl rdI 1 K r.2.1 r.2.2 (machR code data inp ticks (fewN steps + chooseN more 16384)).1.data) (fun w hw => machRun_any H a c code data Hi ai ci inp ticks (fewN steps + chooseN more 16384) w (hw.vs _ (by simp)) hm (hw.vs _ (by simp)) hmi) ?_
        intro K40 r40 hf40 hk40
        refine WL.nil ?_
        refine WE.toU ?_
        refine WU.q rfl (.inl rfl) rfl (fun _ h => by have h := Ws.drops h (fun _ hm => List.mem_append_right [_] hm); exact h) (yl_move rfl) ?_
        refine WU.q rfl (.inl rfl) rfl (fun _ h => by have h := Ws.drops h (fun _ hm => List.mem_append_right [_] hm); exact h) (yl_extract rfl rfl) ?_
        refine WU.q rfl (.inl rfl) rfl (fun _ h => by have h := Ws.drops h (fun _ hm => List.mem_append_right [_] hm); exact h) (yl_extract rfl rfl) ?_
        refine WU.q rfl (.inl rfl) rfl (fun _ h => by have h := Ws.drops h (fun _ hm => List.mem_append_right [_] hm); exact h) (yl_extract rfl rfl) ?_
        refine WU.e rfl (fun _ h => by have h := Ws.drops h (fun _ hm => List.mem_append_right [_] hm); exact h) ?_ WU.stop
        refine WL.alloc (.inl rfl) rfl zr53 fun b15 => ?_
        refine WL.nil ?_
        refine WE.toU ?_
        refine WU.nil (fun _ h => by have h := Ws.drop (L := [_]) (L' := _) h; have h := Ws.drops h (fun _ hm => List.mem_append_right [_] hm); exact h) ?_
        refine WS.e rfl ?_
        refine WL.store 0 (.inl rfl) rfl rfl rfl sz53 rfl rfl rfl ?_
        refine WL.nil ?_
        refine WE.toS ?_
        refine WS.e rfl ?_
        refine WL.val (.inl rfl) rfl (yl_assign rfl) ?_
        refine WL.nil ?_
        refine WE.toS ?_
        refine WS.e rfl ?_
        refine WL.val (.inl rfl) rfl (yl_assign rfl) ?_
        refine WL.nil ?_
        refine WE.toS ?_
        refine WS.nil ?_
        refine WE.then_normal ?_
        refine WC.seq ?_
        refine WC.seq ?_
        refine WC.drawU (fun _ => true) [] [] (.q false 0 (.q false 1 (.q false 2 (.q false 3 (.q false 4 (.q false 5 (.q false 6 (.q false 7 (.q false 8 (.q true 9 (.q false 10 (.q false 11 (.q false 12 (.q false 13 (.q false 14 (.q true 15 (.q false 16 (.q false 17 (.q true 18 (.q false 19 (.q false 20 (.q false 21 (.q false 22 (.q false 23 (.q true 24 (.q false 25 (.q true 26 (.q false 27 (.q true 28 (.q false 29 (.q false 30 (.e 31 (.q false 32 (.q false 33 .nil)) .stop)))))))))))))))))))))))))))))))) mixed (by kernel_rfl) (fun _ _ _ d _ _ h => by cases d <;> exact h) ?_
        refine WU.q rfl (.inl rfl) rfl (fun _ h => h) (yl_move rfl) ?_
        refine WU.q rfl (.inl rfl) rfl (fun _ h => h) (yl_neN rfl rfl hE2) ?_
        refine WU.q rfl (.inl rfl) rfl (fun _ h => h) (yl_move rfl) ?_
        refine WU.q rfl (.inr ⟨_, _, _, rfl, rfl, rfl⟩) rfl (fun _ h => h) (yl_move rfl) ?_
        refine WU.q rfl (.inr ⟨_, _, _, rfl, rfl, rfl⟩) rfl (fun _ h => h) (yl_move rfl) ?_
        refine WU.q rfl (.inr ⟨_, _, _, rfl, rfl, rfl⟩) rfl (fun _ h => h) (yl_gtN rfl rfl hl) ?_
        refine WU.q rfl (.inl rfl) rfl (fun _ h => h) (yl_pick rfl rfl rfl) ?_
        refine WU.q rfl (.inl rfl) rfl (fun _ h => h) (yl_move rfl) ?_
        refine WU.q rfl (.inr ⟨_, _, _, rfl, rfl, rfl⟩) rfl (fun _ h => h) (yl_fa fo53_3 rfl) ?_
        refine WU.q rfl (.inr ⟨_, _, _, rfl, rfl, rfl⟩) rfl (fun _ h => h) (yl_ldk 1 rfl rfl rfl na3) ?_
        refine WU.q rfl (.inr ⟨_, _, _, rfl, rfl, rfl⟩) rfl (fun _ h => h) (yl_move rfl) ?_
        refine WU.q rfl (.inr ⟨_, _, _, rfl, rfl, rfl⟩) rfl (fun _ h => h) (yl_gtN rfl rfl ht) ?_
        refine WU.q rfl (.inl rfl) rfl (fun _ h => h) (yl_pick rfl rfl rfl) ?_
        refine WU.q rfl (.inl rfl) rfl (fun _ h => h) (yl_move rfl) ?_
        refine WU.q rfl (.inr ⟨_, _, _, rfl, rfl, rfl⟩) rfl (fun _ h => h) (yl_fa fo53_1 rfl) ?_
        refine WU.q rfl (.inr ⟨_, _, _, rfl, rfl, rfl⟩) rfl (fun _ h => h) (yl_ldk 1 rfl rfl rfl na50) ?_
        refine WU.q rfl (.inr ⟨_, _, _, rfl, rfl, rfl⟩) rfl (fun _ h => h) (yl_len es50 rfl) ?_
        refine WU.q rfl (.inr ⟨_, _, _, rfl, rfl, rfl⟩) rfl (fun _ h => h) (yl_fa fo53_1 rfl) ?_
        refine WU.q rfl (.inr ⟨_, _, _, rfl, rfl, rfl⟩) rfl (fun _ h => h) (yl_ldk 0 rfl rfl rfl na50) ?_
        refine WU.q rfl (.inr ⟨_, _, _, rfl, rfl, rfl⟩) rfl (fun _ h => h) (yl_len es50 rfl) ?_
        refine WU.q rfl (.inr ⟨_, _, _, rfl, rfl, rfl⟩) rfl (fun _ h => h) (yl_gtN rfl rfl (by omega)) ?_
        refine WU.q rfl (.inl rfl) rfl (fun _ h => h) (yl_pick rfl rfl rfl) ?_
        refine WU.q rfl (.inl rfl) rfl (fun _ h => h) (yl_move rfl) ?_
        refine WU.q rfl (.inr ⟨_, _, _, rfl, rfl, rfl⟩) rfl (fun _ h => h) (yl_fa fo53_1 rfl) ?_
        refine WU.q rfl (.inr ⟨_, _, _, rfl, rfl, rfl⟩) rfl (fun _ h => h) (yl_ldk 1 rfl rfl rfl na50) ?_
        refine WU.q rfl (.inr ⟨_, _, _, rfl, rfl, rfl⟩) rfl (fun _ h => h) (yl_fa fo53_1 rfl) ?_
        refine WU.q rfl (.inr ⟨_, _, _, rfl, rfl, rfl⟩) rfl (fun _ h => h) (yl_ldk 0 rfl rfl rfl na50) ?_
        refine WU.q rfl (.inr ⟨_, _, _, rfl, rfl, rfl⟩) rfl (fun _ h => h) (yl_fa fo53_1 rfl) ?_
        refine WU.q rfl (.inr ⟨_, _, _, rfl, rfl, rfl⟩) rfl (fun _ h => h) (yl_ldk 1 rfl rfl rfl na50) ?_
        refine WU.q rfl (.inr ⟨_, _, _, rfl, rfl, rfl⟩) rfl (fun _ h => h) (yl_len es50 rfl) ?_
        refine WU.q rfl (.inr ⟨_, _, _, rfl, rfl, rfl⟩) rfl (fun _ h => h) (yl_slhn (machR code data inp ticks (fewN steps)).1.out.length es50 rfl hk40.1.spot rfl rfl (by have := hk40.1.cap; omega)) ?_
        refine WU.e rfl (fun _ h => h) ?_ WU.stop
        refine WL.callp (.inr ⟨_, _, _, rfl, rfl, rfl⟩) rfl en31 rfl (fun w hw => same_pre (hw.vs K25 (by simp)) (hw.vs K40 (by simp)) hk25.1 hk40.1 hp) ?_
        refine WL.nil ?_
        refine WE.toU ?_
        refine WU.q rfl (.inr ⟨_, _, _, rfl, rfl, rfl⟩) rfl (fun _ h => h) (yl_not rfl) ?_
        refine WU.q rfl (.inl rfl) rfl (fun _ h => h) (yl_pick rfl rfl rfl) ?_
        refine WU.nil (fun _ h => h) ?_
        refine WS.nil ?_
        refine WE.then_normal ?_
        refine WC.condf rfl ?_
        refine WC.skip ?_
        refine WE.then_normal ?_
        refine WC.seq ?_
        refine WC.region ?_
        refine WL.callp (.inl rfl) rfl en27 rfl (fun w hw => machBegun_any w) ?_
        refine WL.val (.inl rfl) rfl (yl_move rfl) ?_
        apply WL.and 13 (x := ((machR code data inp ticks (fewN steps)).1.fin == 7 || (decide ((machR code data inp ticks (fewN steps)).1 = (machR code data inp ticks (fewN steps + chooseN more 16384)).1) && (machR code data inp ticks (fewN steps)).2 == (machR code data inp ticks (fewN steps + chooseN more 16384)).2))) rfl rfl rfl rfl (.inl rfl) rfl rfl rfl rfl rfl
        ·
          intro hg0
          refine WL.val (.inr ⟨_, _, _, rfl, rfl, rfl⟩) rfl (yl_fa fo53_0 rfl) ?_
          refine WL.val (.inr ⟨_, _, _, rfl, rfl, rfl⟩) rfl (yl_ldk 1 rfl rfl rfl na3) ?_
          refine WL.val (.inr ⟨_, _, _, rfl, rfl, rfl⟩) rfl (yl_eq rfl rfl) ?_
          refine WL.val (.inr ⟨_, _, _, rfl, rfl, rfl⟩) rfl (yl_move rfl) ?_
          apply WL.or 8 (x := (decide ((machR code data inp ticks (fewN steps)).1 = (machR code data inp ticks (fewN steps + chooseN more 16384)).1) && (machR code data inp ticks (fewN steps)).2 == (machR code data inp ticks (fewN steps + chooseN more 16384)).2)) rfl rfl rfl rfl (.inr ⟨_, _, _, rfl, rfl, rfl⟩) rfl rfl rfl rfl rfl
          ·
            intro hg1
            refine WL.val (.inr ⟨_, _, _, rfl, rfl, rfl⟩) rfl (yl_ldka 1 rfl rfl ag53 rfl) ?_
            refine WL.val (.inr ⟨_, _, _, rfl, rfl, rfl⟩) rfl (yl_ldka 0 rfl rfl ag53 rfl) ?_
            refine WL.callp (.inr ⟨_, _, _, rfl, rfl, rfl⟩) rfl en29 rfl (fun w hw => sameResults_any K25 K40 K25 K40 r25.1.1 r40.1.1 r25.2.1 r40.2.1 r25.1.2 r40.1.2 r25.2.2 r40.2.2 (machR code data inp ticks (fewN steps)).1 (machR code data inp ticks (fewN steps + chooseN more 16384)).1 w (hw.vs K25 (by simp)) (hw.vs K40 (by simp)) (hw.vs K25 (by simp)) (hw.vs K40 (by simp)) hk25.1 hk40.1 hk25.2 hk40.2) ?_
            refine WL.val (.inr ⟨_, _, _, rfl, rfl, rfl⟩) rfl (yl_move rfl) ?_
            apply WL.and 3 (x := ((machR code data inp ticks (fewN steps)).2 == (machR code data inp ticks (fewN steps + chooseN more 16384)).2)) rfl rfl rfl rfl (.inr ⟨_, _, _, rfl, rfl, rfl⟩) rfl rfl rfl rfl rfl
            ·
              intro hg2
              refine WL.val (.inr ⟨_, _, _, rfl, rfl, rfl⟩) rfl (yl_move rfl) ?_
              refine WL.val (.inr ⟨_, _, _, rfl, rfl, rfl⟩) rfl (yl_move rfl) ?_
              refine WL.val (.inr ⟨_, _, _, rfl, rfl, rfl⟩) rfl (yl_eq rfl rfl) ?_
              exact Got.intro 3 rfl rfl rfl
            exact Got.intro 5 rfl rfl rfl
          exact Got.intro 5 rfl rfl rfl
        refine WL.val (.inl rfl) rfl (yl_assign rfl) ?_
        refine WL.nil ?_
        refine WE.then_normal ?_
        refine WC.ret ?_
        refine WE.ret1 rfl rfl fun w' hw => ?_
        rcases hor with h7 | h7
        · exact ⟨by simp [h7], hw.fr⟩
        · exact ⟨by simp [h7], hw.fr⟩
      refine WU.e rfl (fun _ h => h) ?_ WU.stop
      refine WL.alloc (.inl rfl) rfl zr53 fun b15 => ?_
      refine WL.nil ?_
      refine WE.toU ?_
      refine WU.e rfl (fun _ h => by have h := Ws.drop (L := [_]) (L' := _) h; exact h) ?_ WU.stop
      refine WL.calld (.inl rfl) rfl en24 rfl (fun r : (Option Addr × Nat) × (Option Addr × Nat) => .tuple #[.agg #[.int .i64 (machR code data inp ticks (fewN steps + chooseN more 16384)).1.fin, .slice r.1.1 (machR code data inp ticks (fewN steps + chooseN more 16384)).1.out.length r.1.2, .slice r.2.1 (machR code data inp ticks (fewN steps + chooseN more 16384)).1.data.length r.2.2, .int .i64 (machR code data inp ticks (fewN steps + chooseN more 16384)).1.ticks], .int .i64 (machR code data inp ticks (fewN steps + chooseN more 16384)).2, .int .i64 (machE code data inp ticks (fewN steps + chooseN more 16384))]) (fun K r => Sl rdI 1 K r.1.1 r.1.2 (machR code data inp ticks (fewN steps + chooseN more 16384)).1.out ∧ Sl rdI 1 K r.2.1 r.2.2 (machR code data inp ticks (fewN steps + chooseN more 16384)).1.data) (fun w hw => machRun_any H a c code data Hi ai ci inp ticks (fewN steps + chooseN more 16384) w (hw.vs _ (by simp)) hm (hw.vs _ (by simp)) hmi) ?_
      intro K40 r40 hf40 hk40
      refine WL.nil ?_
      refine WE.toU ?_
      refine WU.q rfl (.inl rfl) rfl (fun _ h => by have h := Ws.drop (L := [_]) (L' := _) h; have h := Ws.drops h (fun _ hm => List.mem_append_right [_] hm); exact h) (yl_move rfl) ?_
      refine WU.q rfl (.inl rfl) rfl (fun _ h => by have h := Ws.drop (L := [_]) (L' := _) h; have h := Ws.drops h (fun _ hm => List.mem_append_right [_] hm); exact h) (yl_extract rfl rfl) ?_
      refine WU.q rfl (.inl rfl) rfl (fun _ h => by have h := Ws.drop (L := [_]) (L' := _) h; have h := Ws.drops h (fun _ hm => List.mem_append_right [_] hm); exact h) (yl_extract rfl rfl) ?_
      refine WU.q rfl (.inl rfl) rfl (fun _ h => by have h := Ws.drop (L := [_]) (L' := _) h; have h := Ws.drops h (fun _ hm => List.mem_append_right [_] hm); exact h) (yl_extract rfl rfl) ?_
      refine WU.nil (fun _ h => by have h := Ws.drop (L := [_]) (L' := _) h; have h := Ws.drops h (fun _ hm => List.mem_append_right [_] hm); exact h) ?_
      refine WS.e rfl ?_
      refine WL.store 0 (.inl rfl) rfl rfl rfl sz53 rfl rfl rfl ?_
      refine WL.nil ?_
      refine WE.toS ?_
      refine WS.e rfl ?_
      refine WL.val (.inl rfl) rfl (yl_assign rfl) ?_
      refine WL.nil ?_
      refine WE.toS ?_
      refine WS.e rfl ?_
      refine WL.val (.inl rfl) rfl (yl_assign rfl) ?_
      refine WL.nil ?_
      refine WE.toS ?_
      refine WS.nil ?_
      refine WE.then_normal ?_
      refine WC.seq ?_
      refine WC.seq ?_
      refine WC.drawU (fun _ => true) [] [] (.q false 0 (.q false 1 (.q false 2 (.q false 3 (.q false 4 (.q false 5 (.q false 6 (.q false 7 (.q false 8 (.q true 9 (.q false 10 (.q false 11 (.q false 12 (.q false 13 (.q false 14 (.q true 15 (.q false 16 (.q false 17 (.q true 18 (.q false 19 (.q false 20 (.q false 21 (.q false 22 (.q false 23 (.q true 24 (.q false 25 (.q true 26 (.q false 27 (.q true 28 (.q false 29 (.q false 30 (.e 31 (.q false 32 (.q false 33 .nil)) .stop)))))))))))))))))))))))))))))))) mixed (by kernel_rfl) (fun _ _ _ d _ _ h => by cases d <;> exact h) ?_
      refine WU.q rfl (.inl rfl) rfl (fun _ h => h) (yl_move rfl) ?_
      refine WU.q rfl (.inl rfl) rfl (fun _ h => h) (yl_neN rfl rfl hE2) ?_
      refine WU.q rfl (.inl rfl) rfl (fun _ h => h) (yl_move rfl) ?_
      refine WU.q rfl (.inr ⟨_, _, _, rfl, rfl, rfl⟩) rfl (fun _ h => h) (yl_move rfl) ?_
      refine WU.q rfl (.inr ⟨_, _, _, rfl, rfl, rfl⟩) rfl (fun _ h => h) (yl_move rfl) ?_
      refine WU.q rfl (.inr ⟨_, _, _, rfl, rfl, rfl⟩) rfl (fun _ h => h) (yl_gtN rfl rfl hl) ?_
      refine WU.q rfl (.inl rfl) rfl (fun _ h => h) (yl_pick rfl rfl rfl) ?_
      refine WU.q rfl (.inl rfl) rfl (fun _ h => h) (yl_move rfl) ?_
      refine WU.q rfl (.inr ⟨_, _, _, rfl, rfl, rfl⟩) rfl (fun _ h => h) (yl_fa fo53_3 rfl) ?_
      refine WU.q rfl (.inr ⟨_, _, _, rfl, rfl, rfl⟩) rfl (fun _ h => h) (yl_ldk 1 rfl rfl rfl na3) ?_
      refine WU.q rfl (.inr ⟨_, _, _, rfl, rfl, rfl⟩) rfl (fun _ h => h) (yl_move rfl) ?_
      refine WU.q rfl (.inr ⟨_, _, _, rfl, rfl, rfl⟩) rfl (fun _ h => h) (yl_gtN rfl rfl ht) ?_
      refine WU.q rfl (.inl rfl) rfl (fun _ h => h) (yl_pick rfl rfl rfl) ?_
      refine WU.q rfl (.inl rfl) rfl (fun _ h => h) (yl_move rfl) ?_
      refine WU.q rfl (.inr ⟨_, _, _, rfl, rfl, rfl⟩) rfl (fun _ h => h) (yl_fa fo53_1 rfl) ?_
      refine WU.q rfl (.inr ⟨_, _, _, rfl, rfl, rfl⟩) rfl (fun _ h => h) (yl_ldk 1 rfl rfl rfl na50) ?_
      refine WU.q rfl (.inr ⟨_, _, _, rfl, rfl, rfl⟩) rfl (fun _ h => h) (yl_len es50 rfl) ?_
      refine WU.q rfl (.inr ⟨_, _, _, rfl, rfl, rfl⟩) rfl (fun _ h => h) (yl_fa fo53_1 rfl) ?_
      refine WU.q rfl (.inr ⟨_, _, _, rfl, rfl, rfl⟩) rfl (fun _ h => h) (yl_ldk 0 rfl rfl rfl na50) ?_
      refine WU.q rfl (.inr ⟨_, _, _, rfl, rfl, rfl⟩) rfl (fun _ h => h) (yl_len es50 rfl) ?_
      refine WU.q rfl (.inr ⟨_, _, _, rfl, rfl, rfl⟩) rfl (fun _ h => h) (yl_gtN rfl rfl (by omega)) ?_
      refine WU.q rfl (.inl rfl) rfl (fun _ h => h) (yl_pick rfl rfl rfl) ?_
      refine WU.q rfl (.inl rfl) rfl (fun _ h => h) (yl_move rfl) ?_
      refine WU.q rfl (.inr ⟨_, _, _, rfl, rfl, rfl⟩) rfl (fun _ h => h) (yl_fa fo53_1 rfl) ?_
      refine WU.q rfl (.inr ⟨_, _, _, rfl, rfl, rfl⟩) rfl (fun _ h => h) (yl_ldk 1 rfl rfl rfl na50) ?_
      refine WU.q rfl (.inr ⟨_, _, _, rfl, rfl, rfl⟩) rfl (fun _ h => h) (yl_fa fo53_1 rfl) ?_
      refine WU.q rfl (.inr ⟨_, _, _, rfl, rfl, rfl⟩) rfl (fun _ h => h) (yl_ldk 0 rfl rfl rfl na50) ?_
      refine WU.q rfl (.inr ⟨_, _, _, rfl, rfl, rfl⟩) rfl (fun _ h => h) (yl_fa fo53_1 rfl) ?_
      refine WU.q rfl (.inr ⟨_, _, _, rfl, rfl, rfl⟩) rfl (fun _ h => h) (yl_ldk 1 rfl rfl rfl na50) ?_
      refine WU.q rfl (.inr ⟨_, _, _, rfl, rfl, rfl⟩) rfl (fun _ h => h) (yl_len es50 rfl) ?_
      refine WU.q rfl (.inr ⟨_, _, _, rfl, rfl, rfl⟩) rfl (fun _ h => h) (yl_slhn (machR code data inp ticks (fewN steps)).1.out.length es50 rfl hk40.1.spot rfl rfl (by have := hk40.1.cap; omega)) ?_
      refine WU.e rfl (fun _ h => h) ?_ WU.stop
      refine WL.callp (.inr ⟨_, _, _, rfl, rfl, rfl⟩) rfl en31 rfl (fun w hw => same_pre (hw.vs K25 (by simp)) (hw.vs K40 (by simp)) hk25.1 hk40.1 hp) ?_
      refine WL.nil ?_
      refine WE.toU ?_
      refine WU.q rfl (.inr ⟨_, _, _, rfl, rfl, rfl⟩) rfl (fun _ h => h) (yl_not rfl) ?_
      refine WU.q rfl (.inl rfl) rfl (fun _ h => h) (yl_pick rfl rfl rfl) ?_
      refine WU.nil (fun _ h => h) ?_
      refine WS.nil ?_
      refine WE.then_normal ?_
      refine WC.condf rfl ?_
      refine WC.skip ?_
      refine WE.then_normal ?_
      refine WC.seq ?_
      refine WC.region ?_
      refine WL.callp (.inl rfl) rfl en27 rfl (fun w hw => machBegun_any w) ?_
      refine WL.val (.inl rfl) rfl (yl_move rfl) ?_
      apply WL.and 13 (x := ((machR code data inp ticks (fewN steps)).1.fin == 7 || (decide ((machR code data inp ticks (fewN steps)).1 = (machR code data inp ticks (fewN steps + chooseN more 16384)).1) && (machR code data inp ticks (fewN steps)).2 == (machR code data inp ticks (fewN steps + chooseN more 16384)).2))) rfl rfl rfl rfl (.inl rfl) rfl rfl rfl rfl rfl
      ·
        intro hg0
        refine WL.val (.inr ⟨_, _, _, rfl, rfl, rfl⟩) rfl (yl_fa fo53_0 rfl) ?_
        refine WL.val (.inr ⟨_, _, _, rfl, rfl, rfl⟩) rfl (yl_ldk 1 rfl rfl rfl na3) ?_
        refine WL.val (.inr ⟨_, _, _, rfl, rfl, rfl⟩) rfl (yl_eq rfl rfl) ?_
        refine WL.val (.inr ⟨_, _, _, rfl, rfl, rfl⟩) rfl (yl_move rfl) ?_
        apply WL.or 8 (x := (decide ((machR code data inp ticks (fewN steps)).1 = (machR code data inp ticks (fewN steps + chooseN more 16384)).1) && (machR code data inp ticks (fewN steps)).2 == (machR code data inp ticks (fewN steps + chooseN more 16384)).2)) rfl rfl rfl rfl (.inr ⟨_, _, _, rfl, rfl, rfl⟩) rfl rfl rfl rfl rfl
        ·
          intro hg1
          refine WL.val (.inr ⟨_, _, _, rfl, rfl, rfl⟩) rfl (yl_ldka 1 rfl rfl ag53 rfl) ?_
          refine WL.val (.inr ⟨_, _, _, rfl, rfl, rfl⟩) rfl (yl_ldka 0 rfl rfl ag53 rfl) ?_
          refine WL.callp (.inr ⟨_, _, _, rfl, rfl, rfl⟩) rfl en29 rfl (fun w hw => sameResults_any K25 K40 K25 K40 r25.1.1 r40.1.1 r25.2.1 r40.2.1 r25.1.2 r40.1.2 r25.2.2 r40.2.2 (machR code data inp ticks (fewN steps)).1 (machR code data inp ticks (fewN steps + chooseN more 16384)).1 w (hw.vs K25 (by simp)) (hw.vs K40 (by simp)) (hw.vs K25 (by simp)) (hw.vs K40 (by simp)) hk25.1 hk40.1 hk25.2 hk40.2) ?_
          refine WL.val (.inr ⟨_, _, _, rfl, rfl, rfl⟩) rfl (yl_move rfl) ?_
          apply WL.and 3 (x := ((machR code data inp ticks (fewN steps)).2 == (machR code data inp ticks (fewN steps + chooseN more 16384)).2)) rfl rfl rfl rfl (.inr ⟨_, _, _, rfl, rfl, rfl⟩) rfl rfl rfl rfl rfl
          ·
            intro hg2
            refine WL.val (.inr ⟨_, _, _, rfl, rfl, rfl⟩) rfl (yl_move rfl) ?_
            refine WL.val (.inr ⟨_, _, _, rfl, rfl, rfl⟩) rfl (yl_move rfl) ?_
            refine WL.val (.inr ⟨_, _, _, rfl, rfl, rfl⟩) rfl (yl_eq rfl rfl) ?_
            exact Got.intro 3 rfl rfl rfl
          exact Got.intro 5 rfl rfl rfl
        exact Got.intro 5 rfl rfl rfl
      refine WL.val (.inl rfl) rfl (yl_assign rfl) ?_
      refine WL.nil ?_
      refine WE.then_normal ?_
      refine WC.ret ?_
      refine WE.ret1 rfl rfl fun w' hw => ?_
      rcases hor with h7 | h7
      · exact ⟨by simp [h7], hw.fr⟩
      · exact ⟨by simp [h7], hw.fr⟩
    refine WU.e rfl (fun _ h => h) ?_ WU.stop
    refine WL.alloc (.inl rfl) rfl zr53 fun b15 => ?_
    refine WL.nil ?_
    refine WE.toU ?_
    refine WU.e rfl (fun _ h => by have h := Ws.drop (L := [_]) (L' := _) h; exact h) ?_ WU.stop
    refine WL.callp (.inl rfl) rfl en30 rfl (fun w hw => choose_any more 16384 (by decide) w) ?_
    refine WL.nil ?_
    refine WE.toU ?_
    refine WU.q rfl (.inl rfl) rfl (fun _ h => by have h := Ws.drop (L := [_]) (L' := _) h; exact h) (yl_add rfl rfl (by omega)) ?_
    refine WU.e rfl (fun _ h => by have h := Ws.drop (L := [_]) (L' := _) h; exact h) ?_ WU.stop
    refine WL.calld (.inl rfl) rfl en24 rfl (fun r : (Option Addr × Nat) × (Option Addr × Nat) => .tuple #[.agg #[.int .i64 (machR code data inp ticks (fewN steps + chooseN more 16384)).1.fin, .slice r.1.1 (machR code data inp ticks (fewN steps + chooseN more 16384)).1.out.length r.1.2, .slice r.2.1 (machR code data inp ticks (fewN steps + chooseN more 16384)).1.data.length r.2.2, .int .i64 (machR code data inp ticks (fewN steps + chooseN more 16384)).1.ticks], .int .i64 (machR code data inp ticks (fewN steps + chooseN more 16384)).2, .int .i64 (machE code data inp ticks (fewN steps + chooseN more 16384))]) (fun K r => Sl rdI 1 K r.1.1 r.1.2 (machR code data inp ticks (fewN steps + chooseN more 16384)).1.out ∧ Sl rdI 1 K r.2.1 r.2.2 (machR code data inp ticks (fewN steps + chooseN more 16384)).1.data) (fun w hw => machRun_any H a c code data Hi ai ci inp ticks (fewN steps + chooseN more 16384) w (hw.vs _ (by simp)) hm (hw.vs _ (by simp)) hmi) ?_
    intro K40 r40 hf40 hk40
    refine WL.nil ?_
    refine WE.toU ?_
    refine WU.q rfl (.inl rfl) rfl (fun _ h => by have h := Ws.drop (L := [_]) (L' := _) h; have h := Ws.drops h (fun _ hm => List.mem_append_right [_] hm); exact h) (yl_move rfl) ?_
    refine WU.q rfl (.inl rfl) rfl (fun _ h => by have h := Ws.drop (L := [_]) (L' := _) h; have h := Ws.drops h (fun _ hm => List.mem_append_right [_] hm); exact h) (yl_extract rfl rfl) ?_
    refine WU.q rfl (.inl rfl) rfl (fun _ h => by have h := Ws.drop (L := [_]) (L' := _) h; have h := Ws.drops h (fun _ hm => List.mem_append_right [_] hm); exact h) (yl_extract rfl rfl) ?_
    refine WU.q rfl (.inl rfl) rfl (fun _ h => by have h := Ws.drop (L := [_]) (L' := _) h; have h := Ws.drops h (fun _ hm => List.mem_append_right [_] hm); exact h) (yl_extract rfl rfl) ?_
    refine WU.nil (fun _ h => by have h := Ws.drop (L := [_]) (L' := _) h; have h := Ws.drops h (fun _ hm => List.mem_append_right [_] hm); exact h) ?_
    refine WS.e rfl ?_
    refine WL.store 0 (.inl rfl) rfl rfl rfl sz53 rfl rfl rfl ?_
    refine WL.nil ?_
    refine WE.toS ?_
    refine WS.e rfl ?_
    refine WL.val (.inl rfl) rfl (yl_assign rfl) ?_
    refine WL.nil ?_
    refine WE.toS ?_
    refine WS.e rfl ?_
    refine WL.val (.inl rfl) rfl (yl_assign rfl) ?_
    refine WL.nil ?_
    refine WE.toS ?_
    refine WS.nil ?_
    refine WE.then_normal ?_
    refine WC.seq ?_
    refine WC.seq ?_
    refine WC.drawU (fun _ => true) [] [] (.q false 0 (.q false 1 (.q false 2 (.q false 3 (.q false 4 (.q false 5 (.q false 6 (.q false 7 (.q false 8 (.q true 9 (.q false 10 (.q false 11 (.q false 12 (.q false 13 (.q false 14 (.q true 15 (.q false 16 (.q false 17 (.q true 18 (.q false 19 (.q false 20 (.q false 21 (.q false 22 (.q false 23 (.q true 24 (.q false 25 (.q true 26 (.q false 27 (.q true 28 (.q false 29 (.q false 30 (.e 31 (.q false 32 (.q false 33 .nil)) .stop)))))))))))))))))))))))))))))))) mixed (by kernel_rfl) (fun _ _ _ d _ _ h => by cases d <;> exact h) ?_
    refine WU.q rfl (.inl rfl) rfl (fun _ h => h) (yl_move rfl) ?_
    refine WU.q rfl (.inl rfl) rfl (fun _ h => h) (yl_neN rfl rfl hE2) ?_
    refine WU.q rfl (.inl rfl) rfl (fun _ h => h) (yl_move rfl) ?_
    refine WU.q rfl (.inr ⟨_, _, _, rfl, rfl, rfl⟩) rfl (fun _ h => h) (yl_move rfl) ?_
    refine WU.q rfl (.inr ⟨_, _, _, rfl, rfl, rfl⟩) rfl (fun _ h => h) (yl_move rfl) ?_
    refine WU.q rfl (.inr ⟨_, _, _, rfl, rfl, rfl⟩) rfl (fun _ h => h) (yl_gtN rfl rfl hl) ?_
    refine WU.q rfl (.inl rfl) rfl (fun _ h => h) (yl_pick rfl rfl rfl) ?_
    refine WU.q rfl (.inl rfl) rfl (fun _ h => h) (yl_move rfl) ?_
    refine WU.q rfl (.inr ⟨_, _, _, rfl, rfl, rfl⟩) rfl (fun _ h => h) (yl_fa fo53_3 rfl) ?_
    refine WU.q rfl (.inr ⟨_, _, _, rfl, rfl, rfl⟩) rfl (fun _ h => h) (yl_ldk 1 rfl rfl rfl na3) ?_
    refine WU.q rfl (.inr ⟨_, _, _, rfl, rfl, rfl⟩) rfl (fun _ h => h) (yl_move rfl) ?_
    refine WU.q rfl (.inr ⟨_, _, _, rfl, rfl, rfl⟩) rfl (fun _ h => h) (yl_gtN rfl rfl ht) ?_
    refine WU.q rfl (.inl rfl) rfl (fun _ h => h) (yl_pick rfl rfl rfl) ?_
    refine WU.q rfl (.inl rfl) rfl (fun _ h => h) (yl_move rfl) ?_
    refine WU.q rfl (.inr ⟨_, _, _, rfl, rfl, rfl⟩) rfl (fun _ h => h) (yl_fa fo53_1 rfl) ?_
    refine WU.q rfl (.inr ⟨_, _, _, rfl, rfl, rfl⟩) rfl (fun _ h => h) (yl_ldk 1 rfl rfl rfl na50) ?_
    refine WU.q rfl (.inr ⟨_, _, _, rfl, rfl, rfl⟩) rfl (fun _ h => h) (yl_len es50 rfl) ?_
    refine WU.q rfl (.inr ⟨_, _, _, rfl, rfl, rfl⟩) rfl (fun _ h => h) (yl_fa fo53_1 rfl) ?_
    refine WU.q rfl (.inr ⟨_, _, _, rfl, rfl, rfl⟩) rfl (fun _ h => h) (yl_ldk 0 rfl rfl rfl na50) ?_
    refine WU.q rfl (.inr ⟨_, _, _, rfl, rfl, rfl⟩) rfl (fun _ h => h) (yl_len es50 rfl) ?_
    refine WU.q rfl (.inr ⟨_, _, _, rfl, rfl, rfl⟩) rfl (fun _ h => h) (yl_gtN rfl rfl (by omega)) ?_
    refine WU.q rfl (.inl rfl) rfl (fun _ h => h) (yl_pick rfl rfl rfl) ?_
    refine WU.q rfl (.inl rfl) rfl (fun _ h => h) (yl_move rfl) ?_
    refine WU.q rfl (.inr ⟨_, _, _, rfl, rfl, rfl⟩) rfl (fun _ h => h) (yl_fa fo53_1 rfl) ?_
    refine WU.q rfl (.inr ⟨_, _, _, rfl, rfl, rfl⟩) rfl (fun _ h => h) (yl_ldk 1 rfl rfl rfl na50) ?_
    refine WU.q rfl (.inr ⟨_, _, _, rfl, rfl, rfl⟩) rfl (fun _ h => h) (yl_fa fo53_1 rfl) ?_
    refine WU.q rfl (.inr ⟨_, _, _, rfl, rfl, rfl⟩) rfl (fun _ h => h) (yl_ldk 0 rfl rfl rfl na50) ?_
    refine WU.q rfl (.inr ⟨_, _, _, rfl, rfl, rfl⟩) rfl (fun _ h => h) (yl_fa fo53_1 rfl) ?_
    refine WU.q rfl (.inr ⟨_, _, _, rfl, rfl, rfl⟩) rfl (fun _ h => h) (yl_ldk 1 rfl rfl rfl na50) ?_
    refine WU.q rfl (.inr ⟨_, _, _, rfl, rfl, rfl⟩) rfl (fun _ h => h) (yl_len es50 rfl) ?_
    refine WU.q rfl (.inr ⟨_, _, _, rfl, rfl, rfl⟩) rfl (fun _ h => h) (yl_slhn (machR code data inp ticks (fewN steps)).1.out.length es50 rfl hk40.1.spot rfl rfl (by have := hk40.1.cap; omega)) ?_
    refine WU.e rfl (fun _ h => h) ?_ WU.stop
    refine WL.callp (.inr ⟨_, _, _, rfl, rfl, rfl⟩) rfl en31 rfl (fun w hw => same_pre (hw.vs K25 (by simp)) (hw.vs K40 (by simp)) hk25.1 hk40.1 hp) ?_
    refine WL.nil ?_
    refine WE.toU ?_
    refine WU.q rfl (.inr ⟨_, _, _, rfl, rfl, rfl⟩) rfl (fun _ h => h) (yl_not rfl) ?_
    refine WU.q rfl (.inl rfl) rfl (fun _ h => h) (yl_pick rfl rfl rfl) ?_
    refine WU.nil (fun _ h => h) ?_
    refine WS.nil ?_
    refine WE.then_normal ?_
    refine WC.condf rfl ?_
    refine WC.skip ?_
    refine WE.then_normal ?_
    refine WC.seq ?_
    refine WC.region ?_
    refine WL.callp (.inl rfl) rfl en27 rfl (fun w hw => machBegun_any w) ?_
    refine WL.val (.inl rfl) rfl (yl_move rfl) ?_
    apply WL.and 13 (x := ((machR code data inp ticks (fewN steps)).1.fin == 7 || (decide ((machR code data inp ticks (fewN steps)).1 = (machR code data inp ticks (fewN steps + chooseN more 16384)).1) && (machR code data inp ticks (fewN steps)).2 == (machR code data inp ticks (fewN steps + chooseN more 16384)).2))) rfl rfl rfl rfl (.inl rfl) rfl rfl rfl rfl rfl
    ·
      intro hg0
      refine WL.val (.inr ⟨_, _, _, rfl, rfl, rfl⟩) rfl (yl_fa fo53_0 rfl) ?_
      refine WL.val (.inr ⟨_, _, _, rfl, rfl, rfl⟩) rfl (yl_ldk 1 rfl rfl rfl na3) ?_
      refine WL.val (.inr ⟨_, _, _, rfl, rfl, rfl⟩) rfl (yl_eq rfl rfl) ?_
      refine WL.val (.inr ⟨_, _, _, rfl, rfl, rfl⟩) rfl (yl_move rfl) ?_
      apply WL.or 8 (x := (decide ((machR code data inp ticks (fewN steps)).1 = (machR code data inp ticks (fewN steps + chooseN more 16384)).1) && (machR code data inp ticks (fewN steps)).2 == (machR code data inp ticks (fewN steps + chooseN more 16384)).2)) rfl rfl rfl rfl (.inr ⟨_, _, _, rfl, rfl, rfl⟩) rfl rfl rfl rfl rfl
      ·
        intro hg1
        refine WL.val (.inr ⟨_, _, _, rfl, rfl, rfl⟩) rfl (yl_ldka 1 rfl rfl ag53 rfl) ?_
        refine WL.val (.inr ⟨_, _, _, rfl, rfl, rfl⟩) rfl (yl_ldka 0 rfl rfl ag53 rfl) ?_
        refine WL.callp (.inr ⟨_, _, _, rfl, rfl, rfl⟩) rfl en29 rfl (fun w hw => sameResults_any K25 K40 K25 K40 r25.1.1 r40.1.1 r25.2.1 r40.2.1 r25.1.2 r40.1.2 r25.2.2 r40.2.2 (machR code data inp ticks (fewN steps)).1 (machR code data inp ticks (fewN steps + chooseN more 16384)).1 w (hw.vs K25 (by simp)) (hw.vs K40 (by simp)) (hw.vs K25 (by simp)) (hw.vs K40 (by simp)) hk25.1 hk40.1 hk25.2 hk40.2) ?_
        refine WL.val (.inr ⟨_, _, _, rfl, rfl, rfl⟩) rfl (yl_move rfl) ?_
        apply WL.and 3 (x := ((machR code data inp ticks (fewN steps)).2 == (machR code data inp ticks (fewN steps + chooseN more 16384)).2)) rfl rfl rfl rfl (.inr ⟨_, _, _, rfl, rfl, rfl⟩) rfl rfl rfl rfl rfl
        ·
          intro hg2
          refine WL.val (.inr ⟨_, _, _, rfl, rfl, rfl⟩) rfl (yl_move rfl) ?_
          refine WL.val (.inr ⟨_, _, _, rfl, rfl, rfl⟩) rfl (yl_move rfl) ?_
          refine WL.val (.inr ⟨_, _, _, rfl, rfl, rfl⟩) rfl (yl_eq rfl rfl) ?_
          exact Got.intro 3 rfl rfl rfl
        exact Got.intro 5 rfl rfl rfl
      exact Got.intro 5 rfl rfl rfl
    refine WL.val (.inl rfl) rfl (yl_assign rfl) ?_
    refine WL.nil ?_
    refine WE.then_normal ?_
    refine WC.ret ?_
    refine WE.ret1 rfl rfl fun w' hw => ?_
    rcases hor with h7 | h7
    · exact ⟨by simp [h7], hw.fr⟩
    · exact ⟨by simp [h7], hw.fr⟩

end Go.Proofs.Ytagoencpeflmlaa
