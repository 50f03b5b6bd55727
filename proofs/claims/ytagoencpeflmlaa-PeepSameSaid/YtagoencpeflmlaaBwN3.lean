/- Walks of the machine of the document and of the law, and plain laws on what they compute; each theorem tells its own conditions. -/
import Derived.Test.YtagoencpeflmlaaBwN2
namespace Go.Proofs.Ytagoencpeflmlaa
open Go.Bw
set_option linter.unusedVariables false
set_option linter.unusedSimpArgs false

theorem yl_sllk {P : Program} {l : List (Nat × Value)} {W : World → Prop} {d : Option Tmp} {ty : TypeId} {pos : String} {af : Array Edge} {gg : Option (Nat × Bool)} {t : TypeId} {x y : Operand} {a : Option Addr} {m c s : Nat} {k : IntKind} {h : Int} (n k' : Nat) (hs : elemSz P t = some s) (hx : opv l x = some (.slice a m c)) (hy : opv l y = some (.int k h)) (hh : h = (n : Int)) (h1 : n ≤ m) (h2 : m ≤ c) (hk : m - n = k') :
    Yl P l W ⟨d, .slice t x (some y) none none, ty, pos, af, gg⟩ (.slice (if c - n = 0 then a else a.map (·.add (n * s))) k' (c - n)) := by subst hk; exact yl_slln n hs hx hy hh h1 h2
theorem rev_top (x : MFr) (r : List MFr) : (x :: r).reverse[r.length]? = some x := by rw [List.reverse_cons, List.getElem?_append_right (by simp)]; simp
def enterG (a b : Int) (g : Pg) : Pg := if (((((decide (a < 0) || decide (b < 0)) || decide (2048 < a)) || decide (2048 < b)) || decide (2048 < IntKind.i64.wrap (a + b))) || decide ((g.m.stack.length : Int) < a)) = true then stopG 6 g
  else ⟨{ g.m with stack := g.m.stack.drop a.toNat, frames := match g.m.frames with | [] => [] | f :: r => ((g.m.stack.take a.toNat).reverse ++ List.replicate b.toNat 0, f.2) :: r }, g.fin, g.over⟩


set_option maxHeartbeats 1000000 in
theorem genter_any (bg : Nat) (g : GSt) (HI : View) (fb : Nat) (f : MFr) (r : List MFr) (hfb : g.s.fa = some ⟨fb, 0, none⟩) (hfs : g.s.frames = f :: r) (a b : Int) (w : World) (hg : g.good HI) (hw : Ws w ((GSt.own bg g).flatMap Asr.ids) (GSt.own bg g) [HI] w) :
    Calls Try.prog 99 #[.pointer (some ⟨bg, 0, none⟩), .pointer (some ⟨fb, 0 + (g.s.frames.length - 1) * 2, none⟩), .int .i64 a, .int .i64 b] w fun e w' => ∃ k : GSt, e = .returned (.tuple #[]) ∧ (k.pg = enterG a b g.pg ∧ k.good HI) ∧ Ws w ((GSt.own bg g).flatMap Asr.ids) (GSt.own bg k) [HI] w' := by
  have hlr : g.s.stack.reverse.length = g.s.stack.length := by simp
  have hfr : g.s.frames.reverse.length = g.s.frames.length := by simp
  have hgs := hg.stk
  have hgf := hg.frs
  have hgo := hg.out
  have hgd := hg.dat
  have hfl : g.s.frames.length = r.length + 1 := by rw [hfs]; rfl
  refine enter Try.func99 rfl 86 rfl rfl ?_
  refine WC.world (W' := Ws w ((GSt.own bg g).flatMap Asr.ids) (GSt.own bg g) [HI]) (fun _ e => by subst e; exact hw) ?_
  refine WC.seq ?_
  refine WC.seq ?_
  refine WC.region ?_
  refine WL.val (.inl rfl) rfl (yl_move rfl) ?_
  refine WL.val (.inl rfl) rfl (yl_lt rfl rfl) ?_
  refine WL.val (.inl rfl) rfl (yl_move rfl) ?_
  apply WL.or 2 rfl rfl rfl rfl (.inl rfl) rfl rfl rfl rfl rfl
  ·
    intro hg0
    refine WL.val (.inr ⟨_, _, _, rfl, rfl, rfl⟩) rfl (yl_move rfl) ?_
    refine WL.val (.inr ⟨_, _, _, rfl, rfl, rfl⟩) rfl (yl_lt rfl rfl) ?_
    exact Got.intro 2 rfl rfl rfl
  refine WL.val (.inl rfl) rfl (yl_move rfl) ?_
  apply WL.or 2 rfl rfl rfl rfl (.inl rfl) rfl rfl rfl rfl rfl
  ·
    intro hg1
    refine WL.val (.inr ⟨_, _, _, rfl, rfl, rfl⟩) rfl (yl_move rfl) ?_
    refine WL.val (.inr ⟨_, _, _, rfl, rfl, rfl⟩) rfl (yl_gt rfl rfl) ?_
    exact Got.intro 2 rfl rfl rfl
  refine WL.val (.inl rfl) rfl (yl_move rfl) ?_
  apply WL.or 2 rfl rfl rfl rfl (.inl rfl) rfl rfl rfl rfl rfl
  ·
    intro hg2
    refine WL.val (.inr ⟨_, _, _, rfl, rfl, rfl⟩) rfl (yl_move rfl) ?_
    refine WL.val (.inr ⟨_, _, _, rfl, rfl, rfl⟩) rfl (yl_gt rfl rfl) ?_
    exact Got.intro 2 rfl rfl rfl
  refine WL.val (.inl rfl) rfl (yl_move rfl) ?_
  apply WL.or 4 rfl rfl rfl rfl (.inl rfl) rfl rfl rfl rfl rfl
  ·
    intro hg3
    refine WL.val (.inr ⟨_, _, _, rfl, rfl, rfl⟩) rfl (yl_move rfl) ?_
    refine WL.val (.inr ⟨_, _, _, rfl, rfl, rfl⟩) rfl (yl_move rfl) ?_
    refine WL.val (.inr ⟨_, _, _, rfl, rfl, rfl⟩) rfl (yl_addw rfl rfl) ?_
    refine WL.val (.inr ⟨_, _, _, rfl, rfl, rfl⟩) rfl (yl_gt rfl rfl) ?_
    exact Got.intro 4 rfl rfl rfl
  refine WL.val (.inl rfl) rfl (yl_move rfl) ?_
  apply WL.or 7 rfl rfl rfl rfl (.inl rfl) rfl rfl rfl rfl rfl
  ·
    intro hg4
    refine WL.val (.inr ⟨_, _, _, rfl, rfl, rfl⟩) rfl (yl_move rfl) ?_
    refine WL.val (.inr ⟨_, _, _, rfl, rfl, rfl⟩) rfl (yl_move rfl) ?_
    refine WL.val (.inr ⟨_, _, _, rfl, rfl, rfl⟩) rfl (yl_nil rfl) ?_
    refine WL.val (.inr ⟨_, _, _, rfl, rfl, rfl⟩) rfl (yl_fa fo119_1 rfl) ?_
    refine WL.val (.inr ⟨_, _, _, rfl, rfl, rfl⟩) rfl (yl_ldk 0 rfl rfl rfl na50) ?_
    refine WL.val (.inr ⟨_, _, _, rfl, rfl, rfl⟩) rfl (yl_len es50 rfl) ?_
    refine WL.val (.inr ⟨_, _, _, rfl, rfl, rfl⟩) rfl (yl_gt rfl rfl) ?_
    exact Got.intro 7 rfl rfl rfl
  refine WL.nil ?_
  refine WE.then_normal ?_
  refine WC.cond rfl (fun hc0 => ?_) (fun hc0 => ?_)
  ·
    rw [hlr] at hc0
    have hE : enterG a b g.pg = (g.stp 6).pg := by
      unfold enterG
      rw [show g.pg.m.stack.length = g.s.stack.length from rfl, if_pos hc0, stp_pg]
    refine WC.seq ?_
    refine WC.region ?_
    refine WL.val (.inl rfl) rfl (yl_move rfl) ?_
    refine WL.front 5 rfl ?_
    refine WL.front 5 rfl ?_
    refine WL.front 5 rfl ?_
    refine WL.front 5 rfl ?_
    refine WL.front 5 rfl ?_
    refine WL.front 5 rfl ?_
    refine WL.callw (ι := Unit) [_, _, _, _, _, _] _ (.inl rfl) rfl en66 rfl rfl (fun _ => .tuple #[]) (fun _ => (GSt.own bg (g.stp 6))) (fun _ => True) [HI] (by simp) (fun w hw => (gstop_any bg g HI 6 w hg hw).mono fun e w' h => ⟨(), h.1, trivial, h.2⟩) ?_
    intro _ _
    refine WL.nil ?_
    refine WE.then_normal ?_
    refine WC.ret ?_
    refine WE.then_ret ?_
    refine WE.ret0 rfl fun w' hw => ?_
    exact ⟨g.stp 6, rfl, ⟨hE.symm, hg.stp 6⟩, hw⟩
  ·
    rw [hlr] at hc0
    have hok : 0 ≤ a ∧ 0 ≤ b ∧ a ≤ 2048 ∧ b ≤ 2048 ∧ a ≤ g.s.stack.length := by
      simp only [Bool.or_eq_false_iff, decide_eq_false_iff_not] at hc0
      obtain ⟨⟨⟨⟨⟨h1, h2⟩, h3⟩, h4⟩, h5⟩, h6⟩ := hc0
      omega
    refine WC.skip ?_
    refine WE.then_normal ?_
    refine WC.seq ?_
    refine WC.capT 1 rfl fun hsp hsc hsm => ?_
    refine WC.drawU (fun _ => true) [] [17] (.q false 0 (.q false 2 (.q false 3 (.q false 4 (.q true 5 (.q false 6 (.q false 7 (.q false 8 (.q true 9 (.q false 10 (.q false 11 (.q false 12 (.q false 13 (.e 1 (.e 14 (.q false 15 (.q false 16 .nil)) .stop) .stop)))))))))))))) mixed (by kernel_rfl) (fun _ _ _ d _ _ h => by cases d <;> exact h) ?_
    refine WU.q rfl (.inl rfl) rfl (fun _ h => h) (yl_move rfl) ?_
    refine WU.q rfl (.inl rfl) rfl (fun _ h => h) (yl_move rfl) ?_
    refine WU.q rfl (.inl rfl) rfl (fun _ h => h) (yl_nil rfl) ?_
    refine WU.q rfl (.inl rfl) rfl (fun _ h => h) (yl_fa fo119_1 rfl) ?_
    refine WU.q rfl (.inl rfl) rfl (fun _ h => h) (yl_ldk 0 rfl rfl rfl na50) ?_
    refine WU.q rfl (.inl rfl) rfl (fun _ h => h) (yl_move rfl) ?_
    refine WU.q rfl (.inl rfl) rfl (fun _ h => h) (yl_nil rfl) ?_
    refine WU.q rfl (.inl rfl) rfl (fun _ h => h) (yl_fa fo119_1 rfl) ?_
    refine WU.q rfl (.inl rfl) rfl (fun _ h => h) (yl_ldk 0 rfl rfl rfl na50) ?_
    refine WU.q rfl (.inl rfl) rfl (fun _ h => h) (yl_len es50 rfl) ?_
    refine WU.q rfl (.inl rfl) rfl (fun _ h => h) (yl_move rfl) ?_
    refine WU.q rfl (.inl rfl) rfl (fun _ h => h) (yl_subv (((g.s.stack.length - a.toNat) : Nat) : Int) rfl rfl (by rw [hlr]; omega) (by omega)) ?_
    refine WU.q rfl (.inl rfl) rfl (fun _ h => h) (yl_sllk (g.s.stack.length - a.toNat) (g.s.stack.reverse.drop (g.s.stack.length - a.toNat)).length es50 rfl rfl rfl (by omega) hsc (by simp)) ?_
    refine WU.e rfl (fun _ h => h) ?_ WU.stop
    refine WL.bslice (.inl rfl) rfl el50 rfl rfl rfl fun b41 => ?_
    refine WL.asOsl (size := 1) 0 rfl (Nat.le_refl 0) (Nat.zero_le _) rfl ?_
    refine WL.reosl 0 ([] : List Int).length (([] : List Int).flatMap iv) rfl rfl rfl ?_
    refine WL.nil ?_
    refine WE.toU ?_
    refine WU.e rfl (fun _ h => by have h := Ws.drop (L := [_]) (L' := _) h; exact h) ?_ WU.stop
    refine WL.appendL (f := iv) (xs := []) (ys := g.s.stack.reverse.drop (g.s.stack.length - a.toNat)) 0 (fun w => hv w) (.inl rfl) rfl el50 rfl rfl rfl (fun w hw => ⟨hv_le w, (hw.slTh 2 rfl iv_len rdI_of).drop (g.s.stack.length - a.toNat) (by omega)⟩) rdI_to iv_len iv_one (by simp; omega) (by simp; omega) fun a54 c54 => ?_
    rw [show ([] : List Int) ++ g.s.stack.reverse.drop (g.s.stack.length - a.toNat) = (g.s.stack.take a.toNat).reverse by rw [List.nil_append, List.drop_reverse]; congr 2; omega]
    refine WL.nil ?_
    refine WE.toU ?_
    refine WU.q rfl (.inl rfl) rfl (fun _ h => by have h := Ws.drop (L := [_]) (L' := _) h; exact h) (yl_nil rfl) ?_
    refine WU.q rfl (.inl rfl) rfl (fun _ h => by have h := Ws.drop (L := [_]) (L' := _) h; exact h) (yl_fa fo116_0 rfl) ?_
    refine WU.nil (fun _ h => by have h := Ws.drop (L := [_]) (L' := _) h; exact h) ?_
    refine WS.e rfl ?_
    refine WL.storeT (y := f) 3 r.length 0 ({ f with la := a54, lc := c54, loc := (g.s.stack.take a.toNat).reverse }) (.inl rfl) rfl rfl rfl hfb (by rw [hfl]; simp) MFr.cells_len (by rw [hfs]; exact rev_top f r) sz50 rfl rfl (by decide) rfl ?_
    rw [show g.s.frames.reverse.set r.length { f with la := a54, lc := c54, loc := (g.s.stack.take a.toNat).reverse } = ({ f with la := a54, lc := c54, loc := (g.s.stack.take a.toNat).reverse } :: r).reverse by rw [hfs, rev_set]]
    refine WL.nil ?_
    refine WE.toS ?_
    refine WS.nil ?_
    refine WE.then_normal ?_
    refine WC.seq ?_
    refine WC.seq ?_
    refine WC.region ?_
    refine WL.val (.inl rfl) rfl (yl_assign rfl) ?_
    refine WL.nil ?_
    refine WE.then_normal ?_
    refine WC.block ?_
    refine WC.loopK (ι := Nat × Option Addr × Nat) (fun q => [(8, .int .i64 (q.1 : Int))]) [(0, _), (1, _), (2, _), (3, _)] (fun q => Ws w ((GSt.own bg g).flatMap Asr.ids) [osT 3 1 iv q.2.1 q.2.2 ((g.s.stack.take a.toNat).reverse ++ List.replicate q.1 0), blk bg g.obj, osT 3 1 iv g.s.sa g.s.sc g.s.stack.reverse, osT 116 2 MFr.cells g.s.fa g.s.fc ({ f with la := q.2.1, lc := q.2.2, loc := (g.s.stack.take a.toNat).reverse ++ List.replicate q.1 0 } :: r).reverse, osT 3 1 iv g.s.oa g.s.oc g.s.out, osT 3 1 iv g.s.da g.s.dc g.s.data, fam (g.s.frames.map MFr.own)] [HI]) (fun q => q.1 ≤ b.toNat) (fun q => b.toNat - q.1) (0, a54, c54) (Nat.zero_le _) (sc rfl (sc rfl (sc rfl (sc rfl (sc rfl sn))))) (fun _ h => by
      simp only [List.replicate_zero, List.append_nil]
      exact h) ?_
    intro q hq
    refine WC.seq ?_
    refine WC.seq ?_
    refine WC.region ?_
    refine WL.val (.inl rfl) rfl (yl_move rfl) ?_
    refine WL.val (.inl rfl) rfl (yl_move rfl) ?_
    refine WL.val (.inl rfl) rfl (yl_lt rfl rfl) ?_
    refine WL.nil ?_
    refine WE.then_normal ?_
    refine WC.cond rfl (fun hc1 => ?_) (fun hc1 => ?_)
    ·
      have hkb : q.1 < b.toNat := by simp at hc1; omega
      refine WC.skip ?_
      refine WE.then_normal ?_
      refine WC.seq ?_
      refine WC.block ?_
      refine WC.region ?_
      refine WL.val (.inl rfl) rfl (yl_move rfl) ?_
      refine WL.val (.inl rfl) rfl (yl_move rfl) ?_
      refine WL.val (.inl rfl) rfl (yl_nil rfl) ?_
      refine WL.val (.inl rfl) rfl (yl_fa fo116_0 rfl) ?_
      refine WL.val (.inl rfl) rfl (yl_ldT (y := { f with la := q.2.1, lc := q.2.2, loc := (g.s.stack.take a.toNat).reverse ++ List.replicate q.1 0 }) 3 r.length 0 rfl rfl hfb (by rw [hfl]; simp) MFr.cells_len (rev_top _ r) rfl na50) ?_
      refine WL.bsliceF (.inl rfl) rfl el50 rfl rfl rfl rfl fun b67 => ?_
      refine WL.appT (xs := (g.s.stack.take a.toNat).reverse ++ List.replicate q.1 0) 0 1 0 (.inl rfl) rfl el50 rfl rfl rfl rfl rfl rfl (by simp; omega) (by simp; omega) fun a68 c68 => ?_
      rw [show (g.s.stack.take a.toNat).reverse ++ List.replicate q.1 0 ++ [(0 : Int)] = (g.s.stack.take a.toNat).reverse ++ List.replicate (q.1 + 1) 0 by rw [List.append_assoc, ← List.replicate_succ']]
      refine WL.val (.inl rfl) rfl (yl_nil rfl) ?_
      refine WL.val (.inl rfl) rfl (yl_fa fo116_0 rfl) ?_
      refine WL.storeT (y := { f with la := q.2.1, lc := q.2.2, loc := (g.s.stack.take a.toNat).reverse ++ List.replicate q.1 0 }) 4 r.length 0 ({ f with la := a68, lc := c68, loc := (g.s.stack.take a.toNat).reverse ++ List.replicate (q.1 + 1) 0 }) (.inl rfl) rfl rfl rfl hfb (by rw [hfl]; simp) MFr.cells_len (rev_top _ r) sz50 rfl rfl (by decide) rfl ?_
      rw [show ({ f with la := q.2.1, lc := q.2.2, loc := (g.s.stack.take a.toNat).reverse ++ List.replicate q.1 0 } :: r).reverse.set r.length { f with la := a68, lc := c68, loc := (g.s.stack.take a.toNat).reverse ++ List.replicate (q.1 + 1) 0 } = ({ f with la := a68, lc := c68, loc := (g.s.stack.take a.toNat).reverse ++ List.replicate (q.1 + 1) 0 } :: r).reverse by rw [rev_set]]
      refine WL.nil ?_
      refine WE.block_normal ?_
      refine WE.then_normal ?_
      refine WC.region ?_
      refine WL.val (.inl rfl) rfl (yl_move rfl) ?_
      refine WL.val (.inl rfl) rfl (yl_inc rfl rfl rfl (by omega)) ?_
      refine WL.val (.inl rfl) rfl (yl_assign rfl) ?_
      refine WL.nil ?_
      exact WE.again ((q.1 + 1, a68, c68) : Nat × Option Addr × Nat) (by first | omega | (dsimp only; omega)) (by first | omega | (dsimp only; omega)) (sc rfl (sc rfl (sc rfl (sc rfl (sc rfl sn))))) (fun _ h => Ws.drop (L := [_]) h)
    ·
      have hkb : q.1 = b.toNat := by simp at hc1; omega
      refine WC.exit ?_
      refine WE.then_exit ?_
      refine WE.then_exit ?_
      refine WE.block_hit ?_
      refine WE.then_normal ?_
      refine WC.drawU (fun _ => true) [] [15] (.q false 0 (.q false 1 (.q false 2 (.q false 3 (.q true 4 (.q false 5 (.q false 6 (.q false 7 (.q true 8 (.q false 9 (.q false 10 (.q false 11 (.q false 12 (.q false 13 (.q false 14 .nil))))))))))))))) mixed (by kernel_rfl) (fun _ _ _ d _ _ h => by cases d <;> exact h) ?_
      refine WU.q rfl (.inl rfl) rfl (fun _ h => h) (yl_move rfl) ?_
      refine WU.q rfl (.inl rfl) rfl (fun _ h => h) (yl_move rfl) ?_
      refine WU.q rfl (.inl rfl) rfl (fun _ h => h) (yl_nil rfl) ?_
      refine WU.q rfl (.inl rfl) rfl (fun _ h => h) (yl_fa fo119_1 rfl) ?_
      refine WU.q rfl (.inl rfl) rfl (fun _ h => h) (yl_ldk 1 rfl rfl rfl na50) ?_
      refine WU.q rfl (.inl rfl) rfl (fun _ h => h) (yl_move rfl) ?_
      refine WU.q rfl (.inl rfl) rfl (fun _ h => h) (yl_nil rfl) ?_
      refine WU.q rfl (.inl rfl) rfl (fun _ h => h) (yl_fa fo119_1 rfl) ?_
      refine WU.q rfl (.inl rfl) rfl (fun _ h => h) (yl_ldk 1 rfl rfl rfl na50) ?_
      refine WU.q rfl (.inl rfl) rfl (fun _ h => h) (yl_len es50 rfl) ?_
      refine WU.q rfl (.inl rfl) rfl (fun _ h => h) (yl_move rfl) ?_
      refine WU.q rfl (.inl rfl) rfl (fun _ h => h) (yl_subv (((g.s.stack.drop a.toNat).reverse.length : Nat) : Int) rfl rfl (by rw [hlr]; simp; omega) (by simp; omega)) ?_
      refine WU.q rfl (.inl rfl) rfl (fun _ h => h) (yl_slhn (g.s.stack.drop a.toNat).reverse.length es50 rfl hsp rfl rfl (by simp; omega)) ?_
      refine WU.q rfl (.inl rfl) rfl (fun _ h => h) (yl_nil rfl) ?_
      refine WU.q rfl (.inl rfl) rfl (fun _ h => h) (yl_fa fo119_1 rfl) ?_
      refine WU.nil (fun _ h => h) ?_
      refine WS.e rfl ?_
      refine WL.store 1 (.inl rfl) rfl rfl rfl sz50 rfl rfl rfl ?_
      refine WL.truncT2 2 (g.s.stack.drop a.toNat).reverse rfl iv_len (by simp) (by rw [List.take_reverse]; congr 2; simp; omega) ?_
      refine WL.nil ?_
      refine WE.toS ?_
      refine WS.nil ?_
      refine WE.end0 rfl fun w' hw => ?_
      rw [hkb] at hw
      have hw := hw.fronti 5 rfl
      have hw := hw.fronti 5 rfl
      have hw := hw.fronti 5 rfl
      have hw := hw.fronti 5 rfl
      have hw := hw.fronti 5 rfl
      have hw := hw.fronti 5 rfl
      have hw := hw.fronti 6 rfl
      have hw := Ws.keep (L := [_, _, _, _, _, _, _]) hw
      rw [hfs] at hw
      have hw := hw.fam_open
      have hw := Ws.drop (L := [_]) hw
      have hw := hw.fronti 1 rfl
      have hw := hw.fam_shut
      have hw := hw.fronti 0 rfl
      have hw := hw.fronti 5 rfl
      have hw := hw.fronti 5 rfl
      have hw := hw.fronti 5 rfl
      have hw := hw.fronti 5 rfl
      have hw := hw.fronti 5 rfl
      have hw := Ws.keep (L := [_, _, _, _, _, _]) hw
      have hob : setIn g.obj (0 + 1) (vcells (.slice g.s.sa (g.s.stack.drop a.toNat).reverse.length g.s.sc)) = GSt.obj ⟨{ g.s with stack := g.s.stack.drop a.toNat, frames := { f with la := q.2.1, lc := q.2.2, loc := (g.s.stack.take a.toNat).reverse ++ List.replicate b.toNat 0 } :: r }, g.fin, g.over⟩ := by
        unfold GSt.obj
        rw [show g.s.frames.reverse.length = ({ f with la := q.2.1, lc := q.2.2, loc := (g.s.stack.take a.toNat).reverse ++ List.replicate b.toNat 0 } :: r).reverse.length by simp [hfs]]
        rfl
      rw [hob] at hw
      refine ⟨⟨{ g.s with stack := g.s.stack.drop a.toNat, frames := { f with la := q.2.1, lc := q.2.2, loc := (g.s.stack.take a.toNat).reverse ++ List.replicate b.toNat 0 } :: r }, g.fin, g.over⟩, rfl, ⟨?_, ⟨hg.inp, by show (g.s.stack.drop a.toNat).length ≤ 2048; simp; omega, by show 1 ≤ (r.length + 1) ∧ r.length + 1 ≤ 26; omega, fun ho => by have := hg.frn ho; show r.length + 1 ≤ 25; omega, hg.out, hg.dat⟩⟩, hw⟩
      unfold enterG
      rw [if_neg (by rw [show g.pg.m.stack.length = g.s.stack.length from rfl, hc0]; simp), show g.pg.m.frames = f.pu :: r.map MFr.pu by show g.s.frames.map MFr.pu = _; rw [hfs]; rfl]
      rfl

end Go.Proofs.Ytagoencpeflmlaa
