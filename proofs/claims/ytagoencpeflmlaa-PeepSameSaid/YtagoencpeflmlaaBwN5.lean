/- Walks of the machine of the document and of the law, and plain laws on what they compute; each theorem tells its own conditions. -/
import Derived.Test.YtagoencpeflmlaaBwN4
namespace Go.Proofs.Ytagoencpeflmlaa
open Go.Bw
set_option linter.unusedVariables false
set_option linter.unusedSimpArgs false

def runG (code : List Ins) (lim : Int) : Nat → Nat → Pg → Pg × Nat
  | 0, n, g => (g, n)
  | k + 1, n, g => if g.over = true then (g, n) else if ((n : Int) == lim) = true then (stopG 7 g, n) else if outsideB g.m.at_ code.length = true then (stopG 6 g, n + 1) else runG code lim k (n + 1) (doG (code[g.m.at_.toNat]?.getD ⟨0, 0, 0⟩) g)
def startG (ticks : Int) (inp : List Int) (data : Int) : Pg := ⟨startM ticks inp data, 0, false⟩
def gearR (code : List Ins) (data : Int) (inp : List Int) (ticks steps : Int) : Res × Nat :=
  let r := runG code steps (steps.toNat + 1) 0 (startG ticks inp data)
  (⟨r.1.fin, r.1.m.out, r.1.m.data, r.1.m.ticks⟩, r.2)
def runE (inp : List Int) (ticks : Int) : Int := if 64 < inp.length then 2 else if within ticks 0 2000 = true then 0 else 3
def fewN (n : Int) : Int := if 16384 < n then 16384 else n
theorem pl119 : placesP Try.prog 119 = some [(0, 1), (1, 1), (2, 1), (3, 1), (4, 1), (5, 1), (6, 1), (7, 1), (8, 1), (9, 1)] := by kernel_rfl
theorem zr119 : zeroOf Try.prog 119 = some (.agg #[.int .i64 0, .slice none 0 0, .slice none 0 0, .slice none 0 0, .slice none 0 0, .slice none 0 0, .int .i64 0, .int .i64 0, .int .i64 0, .bool false]) := by kernel_rfl
theorem en67 : Enters Try.prog 67 := enters_of Try.func67 (by kernel_rfl) rfl
theorem en31 : Enters Try.prog 31 := enters_of Try.func31 (by kernel_rfl) rfl

set_option maxHeartbeats 2000000 in
theorem runImage_any (H : View) (a : Option Addr) (c : Nat) (code : List Ins) (data : Int) (Hi : View) (ai : Option Addr) (ci : Nat) (inp : List Int) (ticks steps : Int) (w : World) (hH : Le H w) (hm : Sl rdIns 3 H a c code) (hHi : Le Hi w) (hmi : Sl rdI 1 Hi ai ci inp) (hz : checkImg code data = 0) (hst : 0 ≤ steps ∧ steps ≤ 134217728) :
    Calls Try.prog 26 #[.agg #[.slice a code.length c, .int .i64 data], .slice ai inp.length ci, .int .i64 ticks, .int .i64 steps] w fun e w' => ∃ r : (Option Addr × Nat) × (Option Addr × Nat), e = .returned (.tuple #[.agg #[.int .i64 (gearR code data inp ticks steps).1.fin, .slice r.1.1 (gearR code data inp ticks steps).1.out.length r.1.2, .slice r.2.1 (gearR code data inp ticks steps).1.data.length r.2.2, .int .i64 (gearR code data inp ticks steps).1.ticks], .int .i64 ((gearR code data inp ticks steps).2 : Int)]) ∧ Ext w w' ∧ Sl rdI 1 (nv w w') r.1.1 r.1.2 (gearR code data inp ticks steps).1.out ∧ Sl rdI 1 (nv w w') r.2.1 r.2.2 (gearR code data inp ticks steps).1.data := by
  have hcap := hm.cap
  have hmax := hm.max
  have hcapi := hmi.cap
  have hmaxi := hmi.max
  have hd := check_data hz
  refine enter Try.func26 rfl 73 rfl rfl ?_
  refine WC.world (W' := Ws w [] [] [H, Hi]) (fun _ e => by subst e; exact Ws.init (by simp [hH, hHi])) ?_
  refine WC.seq ?_
  refine WC.region ?_
  refine WL.box (.inl rfl) rfl rfl fun b4 => ?_
  refine WL.alloc (.inl rfl) rfl zr53 fun b8 => ?_
  refine WL.val (.inl rfl) rfl (yl_assign rfl) ?_
  refine WL.nil ?_
  refine WE.then_normal ?_
  refine WC.seq ?_
  refine WC.region ?_
  refine WL.val (.inl rfl) rfl (yl_build zr116 pl116 rfl rfl) ?_
  refine WL.bsliceF (.inl rfl) rfl el117 rfl rfl rfl rfl fun b13 => ?_
  refine WL.reblk 0 (.cells #[.slice none 0 0, .int .i64 0] 116 (0, 0)) rfl rfl ?_
  refine WL.val (.inl rfl) rfl (yl_fa fo24_1 rfl) ?_
  refine WL.val (.inl rfl) rfl (yl_ldk 2 rfl rfl rfl na3) ?_
  refine WL.make (.inl rfl) rfl el50 rfl rfl (by omega) (by omega) (by omega) (by omega) fun b16 => ?_
  refine WL.reblk 0 (.cells ((List.replicate data.toNat (0 : Int)).flatMap iv).toArray 3 (0, 0)) rfl (by rw [made_iv]) ?_
  refine WL.val (.inl rfl) rfl (yl_move rfl) ?_
  refine WL.val (.inl rfl) rfl (yl_move rfl) ?_
  refine WL.val (.inl rfl) rfl (yl_build zr119 pl119 rfl rfl) ?_
  refine WL.box (.inl rfl) rfl rfl fun b20 => ?_
  refine WL.val (.inl rfl) rfl (yl_assign rfl) ?_
  refine WL.nil ?_
  refine WE.then_normal ?_
  refine WC.seq ?_
  refine WC.region ?_
  refine WL.val (.inl rfl) rfl (yl_assign rfl) ?_
  refine WL.nil ?_
  refine WE.then_normal ?_
  refine WC.seq ?_
  refine WC.block ?_
  refine WC.loopK (ι := GSt × Nat) (fun q => [(11, .int .i64 (q.2 : Int))]) [(3, _), (4, _), (8, _), (9, _), (10, _)] (fun q => Ws w [] (GSt.own b20 q.1 ++ [blk b8 (.cells (Value.cells (.agg #[.int .i64 0, .slice none 0 0, .slice none 0 0, .int .i64 0])) 53 (0, 0)), blk b4 (.cells (Value.agg #[.slice a code.length c, .int .i64 data]).cells 24 (0, 0))]) [H, Hi]) (fun q => q.1.good Hi ∧ (q.2 : Int) ≤ steps ∧ runG code steps (steps.toNat + 1 - q.2) q.2 q.1.pg = runG code steps (steps.toNat + 1) 0 (startG ticks inp data)) (fun q => steps.toNat + 1 - q.2) ((⟨{ at_ := 0, limit := ticks, steps := 0, stack := [], frames := [⟨none, 0, [], 0⟩], inp := inp, out := [], data := List.replicate data.toNat 0, ticks := 0, sa := none, sc := 0, fa := some ⟨b13, 0, none⟩, fc := 1, ia := ai, ic := ci, oa := none, oc := 0, da := some ⟨b16, 0, none⟩, dc := data.toNat }, 0, false⟩, 0) : GSt × Nat) ⟨⟨hmi, by simp, by simp, by simp, by simp, by simp; omega⟩, hst.1, rfl⟩ (sc rfl (sc rfl (sc rfl (sc rfl (sc rfl (sc rfl sn)))))) (fun _ h => by
    have h := h.osT_blk (f := iv) (c := data.toNat) 1 rfl iv_len (by simp) (by unfold maxLen; omega)
    have h := h.osT_blk (f := MFr.cells) (xs := [⟨none, 0, [], 0⟩]) (c := 1) 2 rfl MFr.cells_len rfl (by decide)
    have h := h.reL 0 rfl (show _ = blk b20 (GSt.obj ((⟨{ at_ := 0, limit := ticks, steps := 0, stack := [], frames := [⟨none, 0, [], 0⟩], inp := inp, out := [], data := List.replicate data.toNat 0, ticks := 0, sa := none, sc := 0, fa := some ⟨b13, 0, none⟩, fc := 1, ia := ai, ic := ci, oa := none, oc := 0, da := some ⟨b16, 0, none⟩, dc := data.toNat }, 0, false⟩, 0) : GSt × Nat).1) by simp [GSt.obj]; rfl)
    have h := h.osl_nil 3 1
    have h := h.osl_nil 3 1
    have h := h.fam_nil
    have h := h.fam_nilcons 0 rfl 3 1
    have h := h.fronti 0 rfl
    have h := h.fronti 4 rfl
    have h := h.fronti 2 rfl
    have h := h.fronti 5 rfl
    have h := h.fronti 4 rfl
    have h := h.fronti 5 rfl
    exact h) ?_
  intro q ⟨hg0, hqs, hrun⟩
  have hfu : steps.toNat + 1 - q.2 = (steps.toNat - q.2) + 1 := by omega
  refine WC.seq ?_
  refine WC.seq ?_
  refine WC.region ?_
  refine WL.val (.inl rfl) rfl (yl_move rfl) ?_
  refine WL.val (.inl rfl) rfl (yl_nil rfl) ?_
  refine WL.val (.inl rfl) rfl (yl_fa fo119_9 rfl) ?_
  refine WL.val (.inl rfl) rfl (yl_ldk 0 rfl rfl rfl na4) ?_
  refine WL.val (.inl rfl) rfl (yl_not rfl) ?_
  refine WL.nil ?_
  refine WE.then_normal ?_
  refine WC.cond rfl (fun hc0 => ?_) (fun hc0 => ?_)
  ·
    have hno : q.1.over = false := by simpa using hc0
    refine WC.skip ?_
    refine WE.then_normal ?_
    refine WC.block ?_
    refine WC.seq ?_
    refine WC.seq ?_
    refine WC.region ?_
    refine WL.val (.inl rfl) rfl (yl_move rfl) ?_
    refine WL.val (.inl rfl) rfl (yl_move rfl) ?_
    refine WL.val (.inl rfl) rfl (yl_eq rfl rfl) ?_
    refine WL.nil ?_
    refine WE.then_normal ?_
    refine WC.cond rfl (fun hc1 => ?_) (fun hc1 => ?_)
    ·
      refine WC.seq ?_
      refine WC.region ?_
      refine WL.val (.inl rfl) rfl (yl_move rfl) ?_
      refine WL.front 5 rfl ?_
      refine WL.front 5 rfl ?_
      refine WL.front 5 rfl ?_
      refine WL.front 5 rfl ?_
      refine WL.front 5 rfl ?_
      refine WL.front 5 rfl ?_
      refine WL.callw (ι := Unit) [_, _, _, _, _, _] _ (.inl rfl) rfl en66 rfl rfl (fun _ => .tuple #[]) (fun _ => (GSt.own b20 (q.1.stp 7))) (fun _ => True) [Hi] (by simp) (fun w hw => (gstop_any b20 q.1 Hi 7 w hg0 hw).mono fun e w' h => ⟨(), h.1, trivial, h.2⟩) ?_
      intro _ _
      refine WL.nil ?_
      refine WE.then_normal ?_
      refine WC.exit ?_
      refine WE.then_exit ?_
      refine WE.block_miss rfl ?_
      refine WE.then_exit ?_
      refine WE.block_hit ?_
      refine WE.then_normal ?_
      refine WC.seq ?_
      refine WC.drawU (fun _ => true) [] [18, 19] (.q false 0 (.q false 1 (.q false 2 (.q true 3 (.q false 4 (.q false 5 (.q false 6 (.q true 7 (.q false 8 (.q false 9 (.q false 10 (.q true 11 (.q false 12 (.q false 13 (.q false 14 (.q true 15 (.q false 16 (.q false 17 .nil)))))))))))))))))) mixed (by kernel_rfl) (fun _ _ _ d _ _ h => by cases d <;> exact h) ?_
      refine WU.q rfl (.inl rfl) rfl (fun _ h => h) (yl_move rfl) ?_
      refine WU.q rfl (.inl rfl) rfl (fun _ h => h) (yl_nil rfl) ?_
      refine WU.q rfl (.inl rfl) rfl (fun _ h => h) (yl_fa fo119_8 rfl) ?_
      refine WU.q rfl (.inl rfl) rfl (fun _ h => h) (yl_ldk 0 rfl rfl rfl na3) ?_
      refine WU.q rfl (.inl rfl) rfl (fun _ h => h) (yl_move rfl) ?_
      refine WU.q rfl (.inl rfl) rfl (fun _ h => h) (yl_nil rfl) ?_
      refine WU.q rfl (.inl rfl) rfl (fun _ h => h) (yl_fa fo119_5 rfl) ?_
      refine WU.q rfl (.inl rfl) rfl (fun _ h => h) (yl_ldk 0 rfl rfl rfl na50) ?_
      refine WU.q rfl (.inl rfl) rfl (fun _ h => h) (yl_move rfl) ?_
      refine WU.q rfl (.inl rfl) rfl (fun _ h => h) (yl_nil rfl) ?_
      refine WU.q rfl (.inl rfl) rfl (fun _ h => h) (yl_fa fo119_3 rfl) ?_
      refine WU.q rfl (.inl rfl) rfl (fun _ h => h) (yl_ldk 0 rfl rfl rfl na50) ?_
      refine WU.q rfl (.inl rfl) rfl (fun _ h => h) (yl_move rfl) ?_
      refine WU.q rfl (.inl rfl) rfl (fun _ h => h) (yl_nil rfl) ?_
      refine WU.q rfl (.inl rfl) rfl (fun _ h => h) (yl_fa fo119_6 rfl) ?_
      refine WU.q rfl (.inl rfl) rfl (fun _ h => h) (yl_ldk 0 rfl rfl rfl na3) ?_
      refine WU.q rfl (.inl rfl) rfl (fun _ h => h) (yl_build zr53 pl53 rfl rfl) ?_
      refine WU.q rfl (.inl rfl) rfl (fun _ h => h) (yl_move rfl) ?_
      refine WU.nil (fun _ h => h) ?_
      refine WS.e rfl ?_
      refine WL.store 6 (.inl rfl) rfl rfl rfl sz53 rfl rfl rfl ?_
      refine WL.nil ?_
      refine WE.toS ?_
      refine WS.e rfl ?_
      refine WL.val (.inl rfl) rfl (yl_assign rfl) ?_
      refine WL.nil ?_
      refine WE.toS ?_
      refine WS.nil ?_
      refine WE.then_normal ?_
      refine WC.ret ?_
      refine WE.retR (rs_2 rfl (rv_agg 6 rfl rfl ag53 rfl) (rv_tmp rfl)) fun w' hw => ?_
      have hR : (gearR code data inp ticks steps) = (⟨(q.1.stp 7).fin, (q.1.stp 7).s.out, (q.1.stp 7).s.data, (q.1.stp 7).s.ticks⟩, q.2) := by
        unfold gearR
        rw [← hrun]
        rw [hfu, runG, if_neg (show ¬ q.1.pg.over = true by rw [show q.1.pg.over = false from hno]; simp), if_pos hc1, ← stp_pg]
        rfl
      rw [hR]
      exact ⟨(((q.1.stp 7).s.oa, (q.1.stp 7).s.oc), ((q.1.stp 7).s.da, (q.1.stp 7).s.dc)), rfl, hw.fr, hw.slT 3 rfl iv_len rdI_of, hw.slT 4 rfl iv_len rdI_of⟩
    ·
      have hne : q.2 < steps.toNat := by simp at hc1; omega
      refine WC.skip ?_
      refine WE.then_normal ?_
      refine WC.seq ?_
      refine WC.region ?_
      refine WL.val (.inl rfl) rfl (yl_move rfl) ?_
      refine WL.val (.inl rfl) rfl (yl_inc rfl rfl rfl (by omega)) ?_
      refine WL.val (.inl rfl) rfl (yl_assign rfl) ?_
      refine WL.nil ?_
      refine WE.then_normal ?_
      refine WC.seq ?_
      refine WC.seq ?_
      refine WC.drawU (fun _ => true) [] [] (.q false 0 (.q false 1 (.q false 2 (.q true 3 (.q false 4 (.q true 5 (.q false 6 (.q false 7 (.e 8 (.q false 9 .nil) .stop))))))))) mixed (by kernel_rfl) (fun _ _ _ d _ _ h => by cases d <;> exact h) ?_
      refine WU.q rfl (.inl rfl) rfl (fun _ h => h) (yl_move rfl) ?_
      refine WU.q rfl (.inl rfl) rfl (fun _ h => h) (yl_nil rfl) ?_
      refine WU.q rfl (.inl rfl) rfl (fun _ h => h) (yl_fa fo119_0 rfl) ?_
      refine WU.q rfl (.inl rfl) rfl (fun _ h => h) (yl_ldk 0 rfl rfl rfl na3) ?_
      refine WU.q rfl (.inl rfl) rfl (fun _ h => h) (yl_fa fo24_0 rfl) ?_
      refine WU.q rfl (.inl rfl) rfl (fun _ h => h) (yl_ldk 7 rfl rfl rfl na22) ?_
      refine WU.q rfl (.inl rfl) rfl (fun _ h => h) (yl_len es22 rfl) ?_
      refine WU.q rfl (.inl rfl) rfl (fun _ h => h) (yl_subv ((code.length : Int) - 1) rfl rfl rfl (by omega)) ?_
      refine WU.e rfl (fun _ h => h) ?_ WU.stop
      refine WL.callp (.inl rfl) rfl en36 rfl (fun w hw => within_any _ _ _ w) ?_
      refine WL.nil ?_
      refine WE.toU ?_
      refine WU.q rfl (.inl rfl) rfl (fun _ h => h) (yl_not rfl) ?_
      refine WU.nil (fun _ h => h) ?_
      refine WS.nil ?_
      refine WE.then_normal ?_
      refine WC.cond rfl (fun hc2 => ?_) (fun hc2 => ?_)
      ·
        have hout : outsideB q.1.s.at_ code.length = true := by rw [within_out] at hc2; simpa using hc2
        refine WC.seq ?_
        refine WC.region ?_
        refine WL.val (.inl rfl) rfl (yl_move rfl) ?_
        refine WL.front 5 rfl ?_
        refine WL.front 5 rfl ?_
        refine WL.front 5 rfl ?_
        refine WL.front 5 rfl ?_
        refine WL.front 5 rfl ?_
        refine WL.front 5 rfl ?_
        refine WL.callw (ι := Unit) [_, _, _, _, _, _] _ (.inl rfl) rfl en66 rfl rfl (fun _ => .tuple #[]) (fun _ => (GSt.own b20 (q.1.stp 6))) (fun _ => True) [Hi] (by simp) (fun w hw => (gstop_any b20 q.1 Hi 6 w hg0 hw).mono fun e w' h => ⟨(), h.1, trivial, h.2⟩) ?_
        intro _ _
        refine WL.nil ?_
        refine WE.then_normal ?_
        refine WC.exit ?_
        refine WE.then_exit ?_
        refine WE.block_miss rfl ?_
        refine WE.then_exit ?_
        refine WE.block_hit ?_
        refine WE.then_normal ?_
        refine WC.seq ?_
        refine WC.drawU (fun _ => true) [] [18, 19] (.q false 0 (.q false 1 (.q false 2 (.q true 3 (.q false 4 (.q false 5 (.q false 6 (.q true 7 (.q false 8 (.q false 9 (.q false 10 (.q true 11 (.q false 12 (.q false 13 (.q false 14 (.q true 15 (.q false 16 (.q false 17 .nil)))))))))))))))))) mixed (by kernel_rfl) (fun _ _ _ d _ _ h => by cases d <;> exact h) ?_
        refine WU.q rfl (.inl rfl) rfl (fun _ h => h) (yl_move rfl) ?_
        refine WU.q rfl (.inl rfl) rfl (fun _ h => h) (yl_nil rfl) ?_
        refine WU.q rfl (.inl rfl) rfl (fun _ h => h) (yl_fa fo119_8 rfl) ?_
        refine WU.q rfl (.inl rfl) rfl (fun _ h => h) (yl_ldk 0 rfl rfl rfl na3) ?_
        refine WU.q rfl (.inl rfl) rfl (fun _ h => h) (yl_move rfl) ?_
        refine WU.q rfl (.inl rfl) rfl (fun _ h => h) (yl_nil rfl) ?_
        refine WU.q rfl (.inl rfl) rfl (fun _ h => h) (yl_fa fo119_5 rfl) ?_
        refine WU.q rfl (.inl rfl) rfl (fun _ h => h) (yl_ldk 0 rfl rfl rfl na50) ?_
        refine WU.q rfl (.inl rfl) rfl (fun _ h => h) (yl_move rfl) ?_
        refine WU.q rfl (.inl rfl) rfl (fun _ h => h) (yl_nil rfl) ?_
        refine WU.q rfl (.inl rfl) rfl (fun _ h => h) (yl_fa fo119_3 rfl) ?_
        refine WU.q rfl (.inl rfl) rfl (fun _ h => h) (yl_ldk 0 rfl rfl rfl na50) ?_
        refine WU.q rfl (.inl rfl) rfl (fun _ h => h) (yl_move rfl) ?_
        refine WU.q rfl (.inl rfl) rfl (fun _ h => h) (yl_nil rfl) ?_
        refine WU.q rfl (.inl rfl) rfl (fun _ h => h) (yl_fa fo119_6 rfl) ?_
        refine WU.q rfl (.inl rfl) rfl (fun _ h => h) (yl_ldk 0 rfl rfl rfl na3) ?_
        refine WU.q rfl (.inl rfl) rfl (fun _ h => h) (yl_build zr53 pl53 rfl rfl) ?_
        refine WU.q rfl (.inl rfl) rfl (fun _ h => h) (yl_move rfl) ?_
        refine WU.nil (fun _ h => h) ?_
        refine WS.e rfl ?_
        refine WL.store 6 (.inl rfl) rfl rfl rfl sz53 rfl rfl rfl ?_
        refine WL.nil ?_
        refine WE.toS ?_
        refine WS.e rfl ?_
        refine WL.val (.inl rfl) rfl (yl_assign rfl) ?_
        refine WL.nil ?_
        refine WE.toS ?_
        refine WS.nil ?_
        refine WE.then_normal ?_
        refine WC.ret ?_
        refine WE.retR (rs_2 rfl (rv_agg 6 rfl rfl ag53 rfl) (rv_tmp rfl)) fun w' hw => ?_
        have hR : (gearR code data inp ticks steps) = (⟨(q.1.stp 6).fin, (q.1.stp 6).s.out, (q.1.stp 6).s.data, (q.1.stp 6).s.ticks⟩, (q.2 + 1)) := by
          unfold gearR
          rw [← hrun]
          rw [hfu, runG, if_neg (show ¬ q.1.pg.over = true by rw [show q.1.pg.over = false from hno]; simp), if_neg (by rw [hc1]; simp), if_pos (show outsideB q.1.pg.m.at_ code.length = true from hout), ← stp_pg]
          rfl
        rw [hR]
        exact ⟨(((q.1.stp 6).s.oa, (q.1.stp 6).s.oc), ((q.1.stp 6).s.da, (q.1.stp 6).s.dc)), rfl, hw.fr, hw.slT 3 rfl iv_len rdI_of, hw.slT 4 rfl iv_len rdI_of⟩
      ·
        have hout : outsideB q.1.s.at_ code.length = false := by rw [within_out] at hc2; simpa using hc2
        obtain ⟨x, hx⟩ : ∃ x, code[q.1.s.at_.toNat]? = some x := ⟨_, List.getElem?_eq_getElem (not_outside hout).2⟩
        obtain ⟨pb, po, ha, hrow⟩ := hm.elt _ x hx
        have hrow : RdC H pb (po + q.1.s.at_.toNat * 3) x.cells := hrow
        have hlt := not_outside hout
        refine WC.skip ?_
        refine WE.then_normal ?_
        refine WC.drawU (fun _ => true) [] [9] (.q false 0 (.q false 1 (.q true 2 (.q false 3 (.q false 4 (.q false 5 (.q true 6 (.q false 7 (.q true 8 .nil))))))))) mixed (by kernel_rfl) (fun _ _ _ d _ _ h => by cases d <;> exact h) ?_
        refine WU.q rfl (.inl rfl) rfl (fun _ h => h) (yl_move rfl) ?_
        refine WU.q rfl (.inl rfl) rfl (fun _ h => h) (yl_fa fo24_0 rfl) ?_
        refine WU.q rfl (.inl rfl) rfl (fun _ h => h) (yl_ldk 7 rfl rfl rfl na22) ?_
        refine WU.q rfl (.inl rfl) rfl (fun _ h => h) (yl_move rfl) ?_
        refine WU.q rfl (.inl rfl) rfl (fun _ h => h) (yl_nil rfl) ?_
        refine WU.q rfl (.inl rfl) rfl (fun _ h => h) (yl_fa fo119_0 rfl) ?_
        refine WU.q rfl (.inl rfl) rfl (fun _ h => h) (yl_ldk 0 rfl rfl rfl na3) ?_
        refine WU.q rfl (.inl rfl) rfl (fun _ h => h) (yl_iai es22 rfl rfl ha hlt.1 (by have := hlt.2; omega)) ?_
        refine WU.q rfl (.inl rfl) rfl (fun _ h => h) (yl_lda 0 ag65 rfl rfl rfl (hrow)) ?_
        refine WU.nil (fun _ h => h) ?_
        refine WS.e rfl ?_
        refine WL.front 5 rfl ?_
        refine WL.front 5 rfl ?_
        refine WL.front 5 rfl ?_
        refine WL.front 5 rfl ?_
        refine WL.front 5 rfl ?_
        refine WL.front 5 rfl ?_
        refine WL.callw (ι := GSt) [_, _, _, _, _, _] _ (.inl rfl) rfl en67 rfl rfl (fun r => .tuple #[]) (fun r => (GSt.own b20 r)) (fun r => (r.pg = doG x q.1.pg ∧ r.good Hi)) [Hi] (by simp) (fun w hw => gdo_any b20 q.1 Hi x hno w hg0 hw) ?_
        intro r54 hr54
        refine WL.nil ?_
        refine WE.toS ?_
        refine WS.nil ?_
        refine WE.block_normal ?_
        exact WE.again ((r54, q.2 + 1) : GSt × Nat) (by show steps.toNat + 1 - (q.2 + 1) < steps.toNat + 1 - q.2; omega) ⟨hr54.2, by show ((q.2 + 1 : Nat) : Int) ≤ steps; omega, by
            rw [← hrun, hfu]
            show runG code steps (steps.toNat + 1 - (q.2 + 1)) (q.2 + 1) r54.pg = _
            rw [runG, if_neg (show ¬ q.1.pg.over = true by rw [show q.1.pg.over = false from hno]; simp), if_neg (by rw [hc1]; simp), if_neg (show ¬ outsideB q.1.pg.m.at_ code.length = true by show ¬ outsideB q.1.s.at_ code.length = true; rw [hout]; simp), show code[q.1.pg.m.at_.toNat]? = some x from hx, hr54.1, show steps.toNat + 1 - (q.2 + 1) = steps.toNat - q.2 by omega]
            rfl⟩ (sc rfl (sc rfl (sc rfl (sc rfl (sc rfl (sc rfl sn)))))) (fun _ h => h)
  ·
    have hov : q.1.over = true := by simpa using hc0
    refine WC.exit ?_
    refine WE.then_exit ?_
    refine WE.then_exit ?_
    refine WE.block_hit ?_
    refine WE.then_normal ?_
    refine WC.seq ?_
    refine WC.drawU (fun _ => true) [] [18, 19] (.q false 0 (.q false 1 (.q false 2 (.q true 3 (.q false 4 (.q false 5 (.q false 6 (.q true 7 (.q false 8 (.q false 9 (.q false 10 (.q true 11 (.q false 12 (.q false 13 (.q false 14 (.q true 15 (.q false 16 (.q false 17 .nil)))))))))))))))))) mixed (by kernel_rfl) (fun _ _ _ d _ _ h => by cases d <;> exact h) ?_
    refine WU.q rfl (.inl rfl) rfl (fun _ h => h) (yl_move rfl) ?_
    refine WU.q rfl (.inl rfl) rfl (fun _ h => h) (yl_nil rfl) ?_
    refine WU.q rfl (.inl rfl) rfl (fun _ h => h) (yl_fa fo119_8 rfl) ?_
    refine WU.q rfl (.inl rfl) rfl (fun _ h => h) (yl_ldk 0 rfl rfl rfl na3) ?_
    refine WU.q rfl (.inl rfl) rfl (fun _ h => h) (yl_move rfl) ?_
    refine WU.q rfl (.inl rfl) rfl (fun _ h => h) (yl_nil rfl) ?_
    refine WU.q rfl (.inl rfl) rfl (fun _ h => h) (yl_fa fo119_5 rfl) ?_
    refine WU.q rfl (.inl rfl) rfl (fun _ h => h) (yl_ldk 0 rfl rfl rfl na50) ?_
    refine WU.q rfl (.inl rfl) rfl (fun _ h => h) (yl_move rfl) ?_
    refine WU.q rfl (.inl rfl) rfl (fun _ h => h) (yl_nil rfl) ?_
    refine WU.q rfl (.inl rfl) rfl (fun _ h => h) (yl_fa fo119_3 rfl) ?_
    refine WU.q rfl (.inl rfl) rfl (fun _ h => h) (yl_ldk 0 rfl rfl rfl na50) ?_
    refine WU.q rfl (.inl rfl) rfl (fun _ h => h) (yl_move rfl) ?_
    refine WU.q rfl (.inl rfl) rfl (fun _ h => h) (yl_nil rfl) ?_
    refine WU.q rfl (.inl rfl) rfl (fun _ h => h) (yl_fa fo119_6 rfl) ?_
    refine WU.q rfl (.inl rfl) rfl (fun _ h => h) (yl_ldk 0 rfl rfl rfl na3) ?_
    refine WU.q rfl (.inl rfl) rfl (fun _ h => h) (yl_build zr53 pl53 rfl rfl) ?_
    refine WU.q rfl (.inl rfl) rfl (fun _ h => h) (yl_move rfl) ?_
    refine WU.nil (fun _ h => h) ?_
    refine WS.e rfl ?_
    refine WL.store 6 (.inl rfl) rfl rfl rfl sz53 rfl rfl rfl ?_
    refine WL.nil ?_
    refine WE.toS ?_
    refine WS.e rfl ?_
    refine WL.val (.inl rfl) rfl (yl_assign rfl) ?_
    refine WL.nil ?_
    refine WE.toS ?_
    refine WS.nil ?_
    refine WE.then_normal ?_
    refine WC.ret ?_
    refine WE.retR (rs_2 rfl (rv_agg 6 rfl rfl ag53 rfl) (rv_tmp rfl)) fun w' hw => ?_
    have hR : (gearR code data inp ticks steps) = (⟨q.1.fin, q.1.s.out, q.1.s.data, q.1.s.ticks⟩, q.2) := by
      unfold gearR
      rw [← hrun]
      rw [hfu, runG, if_pos (show q.1.pg.over = true from hov)]
      rfl
    rw [hR]
    exact ⟨((q.1.s.oa, q.1.s.oc), (q.1.s.da, q.1.s.dc)), rfl, hw.fr, hw.slT 3 rfl iv_len rdI_of, hw.slT 4 rfl iv_len rdI_of⟩

theorem runError_any (H : View) (a : Option Addr) (c : Nat) (inp : List Int) (ticks : Int) (w : World) :
    Calls Try.prog 25 #[.slice a inp.length c, .int .i64 ticks] w fun e w' => e = .returned (.int .i64 (runE inp ticks)) ∧ Ext w w' := by
  refine enter Try.func25 rfl 11 rfl rfl ?_
  refine WC.world (W' := Ws w [] [] []) (fun _ e => by subst e; exact Ws.init (by simp)) ?_
  refine WC.seq ?_
  refine WC.region ?_
  refine WL.val (.inl rfl) rfl (yl_assign rfl) ?_
  refine WL.nil ?_
  refine WE.then_normal ?_
  refine WC.seq ?_
  refine WC.seq ?_
  refine WC.region ?_
  refine WL.val (.inl rfl) rfl (yl_move rfl) ?_
  refine WL.val (.inl rfl) rfl (yl_len es50 rfl) ?_
  refine WL.val (.inl rfl) rfl (yl_gt rfl rfl) ?_
  refine WL.nil ?_
  refine WE.then_normal ?_
  refine WC.cond rfl (fun hc0 => ?_) (fun hc0 => ?_)
  ·
    refine WC.seq ?_
    refine WC.region ?_
    refine WL.val (.inl rfl) rfl (yl_assign rfl) ?_
    refine WL.nil ?_
    refine WE.then_normal ?_
    refine WC.ret ?_
    refine WE.then_ret ?_
    refine WE.ret1 rfl rfl fun w' hw => ?_
    exact ⟨by rw [runE, if_pos (by simp at hc0; omega)], hw.fr⟩
  ·
    refine WC.skip ?_
    refine WE.then_normal ?_
    refine WC.seq ?_
    refine WC.seq ?_
    refine WC.region ?_
    refine WL.val (.inl rfl) rfl (yl_move rfl) ?_
    refine WL.callp (.inl rfl) rfl en36 rfl (fun w hw => within_any _ _ _ w) ?_
    refine WL.val (.inl rfl) rfl (yl_not rfl) ?_
    refine WL.nil ?_
    refine WE.then_normal ?_
    refine WC.cond rfl (fun hc1 => ?_) (fun hc1 => ?_)
    ·
      refine WC.seq ?_
      refine WC.region ?_
      refine WL.val (.inl rfl) rfl (yl_assign rfl) ?_
      refine WL.nil ?_
      refine WE.then_normal ?_
      refine WC.ret ?_
      refine WE.then_ret ?_
      refine WE.ret1 rfl rfl fun w' hw => ?_
      exact ⟨by rw [runE, if_neg (by simp at hc0; omega), if_neg (by simpa using hc1)], hw.fr⟩
    ·
      refine WC.skip ?_
      refine WE.then_normal ?_
      refine WC.seq ?_
      refine WC.region ?_
      refine WL.val (.inl rfl) rfl (yl_assign rfl) ?_
      refine WL.nil ?_
      refine WE.then_normal ?_
      refine WC.ret ?_
      refine WE.ret1 rfl rfl fun w' hw => ?_
      exact ⟨by rw [runE, if_neg (by simp at hc0; omega), if_pos (by simpa using hc1)], hw.fr⟩

theorem sameInts_any (H1 H2 : View) (a1 a2 : Option Addr) (c1 c2 : Nat) (l1 l2 : List Int) (w : World) (hH1 : Le H1 w) (hH2 : Le H2 w) (hm1 : Sl rdI 1 H1 a1 c1 l1) (hm2 : Sl rdI 1 H2 a2 c2 l2) :
    Calls Try.prog 31 #[.slice a1 l1.length c1, .slice a2 l2.length c2] w fun e w' => e = .returned (.bool (decide (l1 = l2))) ∧ Ext w w' := by
  have hcap1 := hm1.cap
  have hmax1 := hm1.max
  have hcap2 := hm2.cap
  have hmax2 := hm2.max
  refine enter Try.func31 rfl 26 rfl rfl ?_
  refine WC.world (W' := Ws w [] [] [H1, H2]) (fun _ e => by subst e; exact Ws.init (by simp [hH1, hH2])) ?_
  refine WC.seq ?_
  refine WC.region ?_
  refine WL.val (.inl rfl) rfl (yl_assign rfl) ?_
  refine WL.nil ?_
  refine WE.then_normal ?_
  refine WC.seq ?_
  refine WC.seq ?_
  refine WC.region ?_
  refine WL.val (.inl rfl) rfl (yl_move rfl) ?_
  refine WL.val (.inl rfl) rfl (yl_len es50 rfl) ?_
  refine WL.val (.inl rfl) rfl (yl_move rfl) ?_
  refine WL.val (.inl rfl) rfl (yl_len es50 rfl) ?_
  refine WL.val (.inl rfl) rfl (yl_ne rfl rfl) ?_
  refine WL.nil ?_
  refine WE.then_normal ?_
  refine WC.cond rfl (fun hc0 => ?_) (fun hc0 => ?_)
  ·
    have hne : l1 ≠ l2 := by intro e; subst e; simp at hc0
    refine WC.seq ?_
    refine WC.region ?_
    refine WL.val (.inl rfl) rfl (yl_assign rfl) ?_
    refine WL.nil ?_
    refine WE.then_normal ?_
    refine WC.ret ?_
    refine WE.then_ret ?_
    refine WE.ret1 rfl rfl fun w' hw => ?_
    exact ⟨by simp [hne], hw.fr⟩
  ·
    have hlen : l1.length = l2.length := by simp at hc0; omega
    refine WC.skip ?_
    refine WE.then_normal ?_
    refine WC.seq ?_
    refine WC.seq ?_
    refine WC.region ?_
    refine WL.val (.inl rfl) rfl (yl_assign rfl) ?_
    refine WL.nil ?_
    refine WE.then_normal ?_
    refine WC.block ?_
    refine WC.loopW (ι := Nat) (fun i => [(5, .int .i64 (i : Int))]) [(0, _), (1, _)] (fun i => i ≤ l1.length ∧ ∀ j, j < i → l1[j]? = l2[j]?) (fun i => l1.length - i) 0 ⟨Nat.zero_le _, by simp⟩ (sc rfl (sc rfl (sc rfl sn))) ?_
    intro i ⟨hi, hall⟩
    refine WC.seq ?_
    refine WC.seq ?_
    refine WC.region ?_
    refine WL.val (.inl rfl) rfl (yl_move rfl) ?_
    refine WL.val (.inl rfl) rfl (yl_move rfl) ?_
    refine WL.val (.inl rfl) rfl (yl_len es50 rfl) ?_
    refine WL.val (.inl rfl) rfl (yl_lt rfl rfl) ?_
    refine WL.nil ?_
    refine WE.then_normal ?_
    refine WC.cond rfl (fun hc1 => ?_) (fun hc1 => ?_)
    ·
      have hlt : i < l1.length := by simpa using hc1
      obtain ⟨x, hx⟩ : ∃ x, l1[i]? = some x := ⟨_, List.getElem?_eq_getElem hlt⟩
      obtain ⟨y, hy⟩ : ∃ y, l2[i]? = some y := ⟨_, List.getElem?_eq_getElem (by omega)⟩
      obtain ⟨pb, po, ha1, hrow1⟩ := hm1.elt i x hx
      obtain ⟨qb, qo, ha2, hrow2⟩ := hm2.elt i y hy
      have hrow1 : vc H1 pb (po + i * 1) = some (.int .i64 x) := hrow1
      have hrow2 : vc H2 qb (qo + i * 1) = some (.int .i64 y) := hrow2
      refine WC.skip ?_
      refine WE.then_normal ?_
      refine WC.seq ?_
      refine WC.block ?_
      refine WC.seq ?_
      refine WC.drawU (fun _ => true) [] [] (.q false 0 (.q false 1 (.q false 2 (.q true 3 (.q false 4 (.q false 5 (.q false 6 (.q true 7 (.q false 8 .nil))))))))) mixed (by kernel_rfl) (fun _ _ _ d _ _ h => by cases d <;> exact h) ?_
      refine WU.q rfl (.inl rfl) rfl (fun _ h => h) (yl_move rfl) ?_
      refine WU.q rfl (.inl rfl) rfl (fun _ h => h) (yl_move rfl) ?_
      refine WU.q rfl (.inl rfl) rfl (fun _ h => h) (yl_iao es50 rfl rfl ha1 (by omega)) ?_
      refine WU.q rfl (.inl rfl) rfl (fun _ h => h) (yl_ld 0 na3 rfl rfl (hrow1)) ?_
      refine WU.q rfl (.inl rfl) rfl (fun _ h => h) (yl_move rfl) ?_
      refine WU.q rfl (.inl rfl) rfl (fun _ h => h) (yl_move rfl) ?_
      refine WU.q rfl (.inl rfl) rfl (fun _ h => h) (yl_iao es50 rfl rfl ha2 (by omega)) ?_
      refine WU.q rfl (.inl rfl) rfl (fun _ h => h) (yl_ld 1 na3 rfl rfl (hrow2)) ?_
      refine WU.q rfl (.inl rfl) rfl (fun _ h => h) (yl_ne rfl rfl) ?_
      refine WU.nil (fun _ h => h) ?_
      refine WS.nil ?_
      refine WE.then_normal ?_
      refine WC.cond rfl (fun hc2 => ?_) (fun hc2 => ?_)
      ·
        have hne : l1 ≠ l2 := by intro e; subst e; rw [hx] at hy; injection hy with hy; subst hy; simp at hc2
        refine WC.seq ?_
        refine WC.region ?_
        refine WL.val (.inl rfl) rfl (yl_assign rfl) ?_
        refine WL.nil ?_
        refine WE.then_normal ?_
        refine WC.ret ?_
        refine WE.block_ret ?_
        refine WE.then_ret ?_
        refine WE.then_ret ?_
        refine WE.block_ret ?_
        refine WE.then_ret ?_
        refine WE.ret1 rfl rfl fun w' hw => ?_
        exact ⟨by simp [hne], hw.fr⟩
      ·
        have hxy : x = y := by simpa using hc2
        refine WC.skip ?_
        refine WE.block_normal ?_
        refine WE.then_normal ?_
        refine WC.region ?_
        refine WL.val (.inl rfl) rfl (yl_move rfl) ?_
        refine WL.val (.inl rfl) rfl (yl_inc rfl rfl rfl (by omega)) ?_
        refine WL.val (.inl rfl) rfl (yl_assign rfl) ?_
        refine WL.nil ?_
        exact WE.again (i + 1) (by omega) ⟨by omega, fun j hj => by rcases Nat.lt_succ_iff_lt_or_eq.1 hj with h | rfl; exact hall j h; rw [hx, hy, hxy]⟩ (sc rfl (sc rfl (sc rfl sn))) (fun _ h => h)
    ·
      have hge : ¬ i < l1.length := by simpa using hc1
      have heq : l1 = l2 := List.ext_getElem? fun j => by
        rcases Nat.lt_or_ge j i with h | h
        · exact hall j h
        · rw [List.getElem?_eq_none (by omega), List.getElem?_eq_none (by omega)]
      refine WC.exit ?_
      refine WE.then_exit ?_
      refine WE.then_exit ?_
      refine WE.block_hit ?_
      refine WE.then_normal ?_
      refine WC.seq ?_
      refine WC.region ?_
      refine WL.val (.inl rfl) rfl (yl_assign rfl) ?_
      refine WL.nil ?_
      refine WE.then_normal ?_
      refine WC.ret ?_
      refine WE.ret1 rfl rfl fun w' hw => ?_
      exact ⟨by simp [heq], hw.fr⟩

theorem sameResults_any (H1 H2 G1 G2 : View) (a1 a2 e1 e2 : Option Addr) (c1 c2 d1 d2 : Nat) (r1 r2 : Res) (w : World) (hH1 : Le H1 w) (hH2 : Le H2 w) (hG1 : Le G1 w) (hG2 : Le G2 w) (hm1 : Sl rdI 1 H1 a1 c1 r1.out) (hm2 : Sl rdI 1 H2 a2 c2 r2.out) (hn1 : Sl rdI 1 G1 e1 d1 r1.data) (hn2 : Sl rdI 1 G2 e2 d2 r2.data) :
    Calls Try.prog 29 #[.agg #[.int .i64 r1.fin, .slice a1 r1.out.length c1, .slice e1 r1.data.length d1, .int .i64 r1.ticks], .agg #[.int .i64 r2.fin, .slice a2 r2.out.length c2, .slice e2 r2.data.length d2, .int .i64 r2.ticks]] w fun e w' => e = .returned (.bool (decide (r1 = r2))) ∧ Ext w w' := by
  refine enter Try.func29 rfl 31 rfl rfl ?_
  refine WC.world (W' := Ws w [] [] [H1, H2, G1, G2]) (fun _ e => by subst e; exact Ws.init (by simp [hH1, hH2, hG1, hG2])) ?_
  refine WC.seq ?_
  refine WC.region ?_
  refine WL.box (.inl rfl) rfl rfl fun b2 => ?_
  refine WL.box (.inl rfl) rfl rfl fun b3 => ?_
  refine WL.val (.inl rfl) rfl (yl_assign rfl) ?_
  refine WL.nil ?_
  refine WE.then_normal ?_
  refine WC.seq ?_
  refine WC.region ?_
  refine WL.val (.inl rfl) rfl (yl_fa fo53_0 rfl) ?_
  refine WL.val (.inl rfl) rfl (yl_ldk 1 rfl rfl rfl na3) ?_
  refine WL.val (.inl rfl) rfl (yl_fa fo53_0 rfl) ?_
  refine WL.val (.inl rfl) rfl (yl_ldk 0 rfl rfl rfl na3) ?_
  refine WL.val (.inl rfl) rfl (yl_eq rfl rfl) ?_
  refine WL.val (.inl rfl) rfl (yl_move rfl) ?_
  apply WL.and 5 rfl rfl rfl rfl (.inl rfl) rfl rfl rfl rfl rfl
  ·
    intro hg0
    refine WL.val (.inr ⟨_, _, _, rfl, rfl, rfl⟩) rfl (yl_fa fo53_3 rfl) ?_
    refine WL.val (.inr ⟨_, _, _, rfl, rfl, rfl⟩) rfl (yl_ldk 1 rfl rfl rfl na3) ?_
    refine WL.val (.inr ⟨_, _, _, rfl, rfl, rfl⟩) rfl (yl_fa fo53_3 rfl) ?_
    refine WL.val (.inr ⟨_, _, _, rfl, rfl, rfl⟩) rfl (yl_ldk 0 rfl rfl rfl na3) ?_
    refine WL.val (.inr ⟨_, _, _, rfl, rfl, rfl⟩) rfl (yl_eq rfl rfl) ?_
    exact Got.intro 5 rfl rfl rfl
  refine WL.val (.inl rfl) rfl (yl_move rfl) ?_
  apply WL.and 5 rfl rfl rfl rfl (.inl rfl) rfl rfl rfl rfl rfl
  ·
    intro hg1
    refine WL.val (.inr ⟨_, _, _, rfl, rfl, rfl⟩) rfl (yl_fa fo53_1 rfl) ?_
    refine WL.val (.inr ⟨_, _, _, rfl, rfl, rfl⟩) rfl (yl_ldk 1 rfl rfl rfl na50) ?_
    refine WL.val (.inr ⟨_, _, _, rfl, rfl, rfl⟩) rfl (yl_fa fo53_1 rfl) ?_
    refine WL.val (.inr ⟨_, _, _, rfl, rfl, rfl⟩) rfl (yl_ldk 0 rfl rfl rfl na50) ?_
    refine WL.callp (.inr ⟨_, _, _, rfl, rfl, rfl⟩) rfl en31 rfl (fun w hw => sameInts_any H1 H2 a1 a2 c1 c2 r1.out r2.out w (hw.vs _ (by simp)) (hw.vs _ (by simp)) hm1 hm2) ?_
    exact Got.intro 5 rfl rfl rfl
  refine WL.val (.inl rfl) rfl (yl_move rfl) ?_
  apply WL.and 5 rfl rfl rfl rfl (.inl rfl) rfl rfl rfl rfl rfl
  ·
    intro hg2
    refine WL.val (.inr ⟨_, _, _, rfl, rfl, rfl⟩) rfl (yl_fa fo53_2 rfl) ?_
    refine WL.val (.inr ⟨_, _, _, rfl, rfl, rfl⟩) rfl (yl_ldk 1 rfl rfl rfl na50) ?_
    refine WL.val (.inr ⟨_, _, _, rfl, rfl, rfl⟩) rfl (yl_fa fo53_2 rfl) ?_
    refine WL.val (.inr ⟨_, _, _, rfl, rfl, rfl⟩) rfl (yl_ldk 0 rfl rfl rfl na50) ?_
    refine WL.callp (.inr ⟨_, _, _, rfl, rfl, rfl⟩) rfl en31 rfl (fun w hw => sameInts_any G1 G2 e1 e2 d1 d2 r1.data r2.data w (hw.vs _ (by simp)) (hw.vs _ (by simp)) hn1 hn2) ?_
    exact Got.intro 5 rfl rfl rfl
  refine WL.val (.inl rfl) rfl (yl_assign rfl) ?_
  refine WL.nil ?_
  refine WE.then_normal ?_
  refine WC.ret ?_
  refine WE.ret1 rfl rfl fun w' hw => ?_
  refine ⟨?_, hw.fr⟩
  cases r1; cases r2
  congr 2
  rw [Bool.eq_iff_iff]
  simp
  constructor
  · rintro ⟨⟨⟨h1, h2⟩, h3⟩, h4⟩
    exact ⟨h1, h3, h4, h2⟩
  · rintro ⟨h1, h3, h4, h2⟩
    exact ⟨⟨⟨h1, h2⟩, h3⟩, h4⟩

theorem few_any (n : Int) (w : World) :
    Calls Try.prog 23 #[.int .i64 n] w fun e w' => e = .returned (.int .i64 (fewN n)) ∧ Ext w w' := by
  refine enter Try.func23 rfl 6 rfl rfl ?_
  refine WC.world (W' := Ws w [] [] []) (fun _ e => by subst e; exact Ws.init (by simp)) ?_
  refine WC.seq ?_
  refine WC.region ?_
  refine WL.val (.inl rfl) rfl (yl_assign rfl) ?_
  refine WL.nil ?_
  refine WE.then_normal ?_
  refine WC.seq ?_
  refine WC.seq ?_
  refine WC.region ?_
  refine WL.val (.inl rfl) rfl (yl_move rfl) ?_
  refine WL.val (.inl rfl) rfl (yl_gt rfl rfl) ?_
  refine WL.nil ?_
  refine WE.then_normal ?_
  refine WC.cond rfl (fun hc0 => ?_) (fun hc0 => ?_)
  ·
    refine WC.seq ?_
    refine WC.region ?_
    refine WL.val (.inl rfl) rfl (yl_assign rfl) ?_
    refine WL.nil ?_
    refine WE.then_normal ?_
    refine WC.ret ?_
    refine WE.then_ret ?_
    refine WE.ret1 rfl rfl fun w' hw => ?_
    exact ⟨by rw [fewN, if_pos (by simpa using hc0)], hw.fr⟩
  ·
    refine WC.skip ?_
    refine WE.then_normal ?_
    refine WC.seq ?_
    refine WC.region ?_
    refine WL.val (.inl rfl) rfl (yl_move rfl) ?_
    refine WL.val (.inl rfl) rfl (yl_assign rfl) ?_
    refine WL.nil ?_
    refine WE.then_normal ?_
    refine WC.ret ?_
    refine WE.ret1 rfl rfl fun w' hw => ?_
    exact ⟨by rw [fewN, if_neg (by simpa using hc0)], hw.fr⟩

end Go.Proofs.Ytagoencpeflmlaa
