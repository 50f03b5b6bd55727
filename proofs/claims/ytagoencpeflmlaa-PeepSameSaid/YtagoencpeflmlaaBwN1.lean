/- Walks of the machine of the document and of the law, and plain laws on what they compute; each theorem tells its own conditions. -/
import Derived.Test.YtagoencpeflmlaaRows
import Derived.Test.YtagoencpeflmlaaBwM10
namespace Go.Proofs.Ytagoencpeflmlaa
open Go.Bw
set_option linter.unusedVariables false
set_option linter.unusedSimpArgs false

/-! ### The gear of the reference -/
structure GSt where
  s : MSt
  fin : Int
  over : Bool
structure Pg where
  m : Pm
  fin : Int
  over : Bool
def GSt.pg (g : GSt) : Pg := ⟨g.s.pu, g.fin, g.over⟩
def GSt.obj (g : GSt) : Obj := .cells #[.int .i64 g.s.at_, .slice g.s.sa g.s.stack.reverse.length g.s.sc, .slice g.s.fa g.s.frames.reverse.length g.s.fc, .slice g.s.da g.s.data.length g.s.dc, .slice g.s.ia g.s.inp.length g.s.ic, .slice g.s.oa g.s.out.length g.s.oc, .int .i64 g.s.ticks, .int .i64 g.s.limit, .int .i64 g.fin, .bool g.over] 119 (0, 0)
abbrev GSt.own (b : Nat) (g : GSt) : List Asr := [blk b g.obj, osT 3 1 iv g.s.sa g.s.sc g.s.stack.reverse, osT 116 2 MFr.cells g.s.fa g.s.fc g.s.frames.reverse, osT 3 1 iv g.s.oa g.s.oc g.s.out, osT 3 1 iv g.s.da g.s.dc g.s.data, fam (g.s.frames.map MFr.own)]
structure GSt.good (HI : View) (g : GSt) : Prop where
  inp : Sl rdI 1 HI g.s.ia g.s.ic g.s.inp
  stk : g.s.stack.length ≤ 2048
  frs : 1 ≤ g.s.frames.length ∧ g.s.frames.length ≤ 26
  frn : g.over = false → g.s.frames.length ≤ 25
  out : g.s.out.length ≤ 200
  dat : g.s.data.length ≤ 512
def GSt.stp (e : Int) (g : GSt) : GSt := bif g.over then g else ⟨g.s, e, true⟩
def stopG (e : Int) (g : Pg) : Pg := bif g.over then g else ⟨g.m, e, true⟩
theorem stp_pg (e : Int) (g : GSt) : (g.stp e).pg = stopG e g.pg := by
  unfold GSt.stp stopG
  cases h : g.over with
  | true => simp [GSt.pg, h]
  | false => simp [GSt.pg, h]
theorem stp_s (e : Int) (g : GSt) : (g.stp e).s = g.s := by unfold GSt.stp; cases g.over <;> rfl
theorem stp_over (e : Int) (g : GSt) : (g.stp e).over = true := by unfold GSt.stp; cases h : g.over <;> simp [h]
theorem GSt.good.stp {HI : View} {g : GSt} (h : g.good HI) (e : Int) : (g.stp e).good HI := by
  refine ⟨?_, ?_, ?_, ?_, ?_, ?_⟩
  · rw [stp_s]; exact h.inp
  · rw [stp_s]; exact h.stk
  · rw [stp_s]; exact h.frs
  · rw [stp_over]; intro h; cases h
  · rw [stp_s]; exact h.out
  · rw [stp_s]; exact h.dat
def GSt.pop (g : GSt) : Int × GSt := match g.s.stack with
  | [] => (0, g.stp 6)
  | x :: r => (x, ⟨g.s.wst r, g.fin, g.over⟩)
def popG (g : Pg) : Int × Pg := match g.m.stack with
  | [] => (0, stopG 6 g)
  | x :: r => (x, ⟨{ g.m with stack := r }, g.fin, g.over⟩)
theorem pop_pg (g : GSt) : popG g.pg = (g.pop.1, g.pop.2.pg) := by
  unfold popG GSt.pop
  cases h : g.s.stack with
  | nil =>
    rw [show g.pg.m.stack = [] from h]
    show (0, stopG 6 g.pg) = (0, (g.stp 6).pg)
    rw [stp_pg]
  | cons x r =>
    rw [show g.pg.m.stack = x :: r from h]
    rfl
theorem GSt.good.pop {HI : View} {g : GSt} (h : g.good HI) : (g.pop.2).good HI := by
  unfold GSt.pop
  cases hs : g.s.stack with
  | nil => exact h.stp 6
  | cons x r => exact ⟨h.inp, by have := h.stk; rw [hs] at this; simp at this; show r.length ≤ 2048; omega, h.frs, h.frn, h.out, h.dat⟩
def putG (n : Int) (g : Pg) : Pg := bif g.over then g else ⟨{ g.m with stack := n :: g.m.stack }, g.fin, g.over⟩
def pushG (n : Int) (g : Pg) : Pg := putG n (if 2048 ≤ g.m.stack.length then stopG 6 g else g)
def GSt.inc (g : GSt) : GSt := bif g.over then g else ⟨{ g.s with ticks := IntKind.i64.wrap (g.s.ticks + 1) }, g.fin, g.over⟩
def incG (g : Pg) : Pg := bif g.over then g else ⟨{ g.m with ticks := IntKind.i64.wrap (g.m.ticks + 1) }, g.fin, g.over⟩
def GSt.tick (g : GSt) : GSt := GSt.inc (if g.s.limit ≤ g.s.ticks then g.stp 3 else g)
def tickG (g : Pg) : Pg := incG (if g.m.limit ≤ g.m.ticks then stopG 3 g else g)
theorem inc_pg (g : GSt) : incG g.pg = g.inc.pg := by
  unfold incG GSt.inc
  cases h : g.over with
  | true => rw [show g.pg.over = true from h]; rfl
  | false => rw [show g.pg.over = false from h]; rfl
theorem tick_pg (g : GSt) : tickG g.pg = g.tick.pg := by
  unfold tickG GSt.tick
  rw [← inc_pg]
  by_cases h : g.s.limit ≤ g.s.ticks
  · rw [if_pos (show g.pg.m.limit ≤ g.pg.m.ticks from h), if_pos h, stp_pg]
  · rw [if_neg (show ¬ g.pg.m.limit ≤ g.pg.m.ticks from h), if_neg h]
theorem GSt.good.inc {HI : View} {g : GSt} (h2 : g.good HI) : g.inc.good HI := by
  unfold GSt.inc
  cases ho : g.over with
  | true => exact h2
  | false => exact ⟨h2.inp, h2.stk, h2.frs, fun _ => h2.frn ho, h2.out, h2.dat⟩
theorem GSt.good.tick {HI : View} {g : GSt} (h : g.good HI) : g.tick.good HI := by
  unfold GSt.tick
  refine GSt.good.inc ?_
  split
  · exact h.stp 3
  · exact h
theorem putG_over {n : Int} {g : Pg} (h : g.over = true) : putG n g = g := by unfold putG; rw [h]; rfl
theorem putG_not {n : Int} {g : Pg} (h : g.over = false) : putG n g = ⟨{ g.m with stack := n :: g.m.stack }, g.fin, g.over⟩ := by unfold putG; rw [h]; rfl
/-- Is there such a place? -/
def GSt.has (a : Int) (n : Nat) (g : GSt) : GSt := bif outsideB a n then g.stp 6 else g
def hasG (a : Int) (n : Nat) (g : Pg) : Pg := bif outsideB a n then stopG 6 g else g
theorem has_pg (a : Int) (n : Nat) (g : GSt) : (g.has a n).pg = hasG a n g.pg := by
  unfold GSt.has hasG; cases outsideB a n
  · rfl
  · exact stp_pg 6 g
theorem has_s (a : Int) (n : Nat) (g : GSt) : (g.has a n).s = g.s := by unfold GSt.has; cases outsideB a n; rfl; exact stp_s 6 g
theorem GSt.good.has {HI : View} {g : GSt} (h : g.good HI) (a : Int) (n : Nat) : (g.has a n).good HI := by unfold GSt.has; cases outsideB a n; exact h; exact h.stp 6
theorem within_out (a : Int) (n : Nat) : within a 0 ((n : Int) - 1) = !(outsideB a n) := by
  rw [Bool.eq_iff_iff]; simp [within, outsideB]; omega
theorem fo119_9 : fieldOff Try.prog 119 9 = some 9 := by kernel_rfl
theorem na4 : nonAgg Try.prog 4 = true := by kernel_rfl
theorem fo119_8 : fieldOff Try.prog 119 8 = some 8 := by kernel_rfl
theorem fo119_1 : fieldOff Try.prog 119 1 = some 1 := by kernel_rfl
theorem en66 : Enters Try.prog 66 := enters_of Try.func66 (by kernel_rfl) rfl

theorem gstop_any (bg : Nat) (g : GSt) (HI : View) (e0 : Int) (w : World) (hg : g.good HI) (hw : Ws w ((GSt.own bg g).flatMap Asr.ids) (GSt.own bg g) [HI] w) :
    Calls Try.prog 66 #[.pointer (some ⟨bg, 0, none⟩), .int .i64 e0] w fun e w' => e = .returned (.tuple #[]) ∧ Ws w ((GSt.own bg g).flatMap Asr.ids) (GSt.own bg (g.stp e0)) [HI] w' := by
  have hlr : g.s.stack.reverse.length = g.s.stack.length := by simp
  have hfr : g.s.frames.reverse.length = g.s.frames.length := by simp
  have hgs := hg.stk
  have hgf := hg.frs
  have hgo := hg.out
  have hgd := hg.dat
  refine enter Try.func66 rfl 16 rfl rfl ?_
  refine WC.world (W' := Ws w ((GSt.own bg g).flatMap Asr.ids) (GSt.own bg g) [HI]) (fun _ e => by subst e; exact hw) ?_
  refine WC.seq ?_
  refine WC.region ?_
  refine WL.val (.inl rfl) rfl (yl_move rfl) ?_
  refine WL.val (.inl rfl) rfl (yl_nil rfl) ?_
  refine WL.val (.inl rfl) rfl (yl_fa fo119_9 rfl) ?_
  refine WL.val (.inl rfl) rfl (yl_ldk 0 rfl rfl rfl na4) ?_
  refine WL.val (.inl rfl) rfl (yl_not rfl) ?_
  refine WL.nil ?_
  refine WE.then_normal ?_
  refine WC.cond rfl (fun hc0 => ?_) (fun hc0 => ?_)
  ·
    refine WC.region ?_
    refine WL.val (.inl rfl) rfl (yl_move rfl) ?_
    refine WL.val (.inl rfl) rfl (yl_move rfl) ?_
    refine WL.val (.inl rfl) rfl (yl_move rfl) ?_
    refine WL.val (.inl rfl) rfl (yl_nil rfl) ?_
    refine WL.val (.inl rfl) rfl (yl_fa fo119_8 rfl) ?_
    refine WL.store 0 (.inl rfl) rfl rfl rfl sz3 rfl rfl rfl ?_
    refine WL.val (.inl rfl) rfl (yl_nil rfl) ?_
    refine WL.val (.inl rfl) rfl (yl_fa fo119_9 rfl) ?_
    refine WL.store 0 (.inl rfl) rfl rfl rfl sz4 rfl rfl rfl ?_
    refine WL.nil ?_
    refine WE.end0 rfl fun w' hw => ?_
    have ho : g.over = false := by simpa using hc0
    have hs : g.stp e0 = ⟨g.s, e0, true⟩ := by unfold GSt.stp; rw [ho]; rfl
    rw [hs]
    exact ⟨rfl, hw⟩
  ·
    refine WC.skip ?_
    refine WE.end0 rfl fun w' hw => ?_
    have ho : g.over = true := by simpa using hc0
    have hs : g.stp e0 = g := by unfold GSt.stp; rw [ho]; rfl
    rw [hs]
    exact ⟨rfl, hw⟩

theorem gpop_any (bg : Nat) (g : GSt) (HI : View)  (w : World) (hg : g.good HI) (hw : Ws w ((GSt.own bg g).flatMap Asr.ids) (GSt.own bg g) [HI] w) :
    Calls Try.prog 96 #[.pointer (some ⟨bg, 0, none⟩)] w fun e w' => e = .returned (.int .i64 g.pop.1) ∧ Ws w ((GSt.own bg g).flatMap Asr.ids) (GSt.own bg g.pop.2) [HI] w' := by
  have hlr : g.s.stack.reverse.length = g.s.stack.length := by simp
  have hfr : g.s.frames.reverse.length = g.s.frames.length := by simp
  have hgs := hg.stk
  have hgf := hg.frs
  have hgo := hg.out
  have hgd := hg.dat
  refine enter Try.func96 rfl 39 rfl rfl ?_
  refine WC.world (W' := Ws w ((GSt.own bg g).flatMap Asr.ids) (GSt.own bg g) [HI]) (fun _ e => by subst e; exact hw) ?_
  refine WC.seq ?_
  refine WC.region ?_
  refine WL.val (.inl rfl) rfl (yl_assign rfl) ?_
  refine WL.nil ?_
  refine WE.then_normal ?_
  refine WC.seq ?_
  refine WC.seq ?_
  refine WC.region ?_
  refine WL.val (.inl rfl) rfl (yl_move rfl) ?_
  refine WL.val (.inl rfl) rfl (yl_nil rfl) ?_
  refine WL.val (.inl rfl) rfl (yl_fa fo119_1 rfl) ?_
  refine WL.val (.inl rfl) rfl (yl_ldk 0 rfl rfl rfl na50) ?_
  refine WL.val (.inl rfl) rfl (yl_len es50 rfl) ?_
  refine WL.val (.inl rfl) rfl (yl_eq rfl rfl) ?_
  refine WL.nil ?_
  refine WE.then_normal ?_
  refine WC.cond rfl (fun hc0 => ?_) (fun hc0 => ?_)
  ·
    have hst : g.s.stack = [] := by
      cases h : g.s.stack with
      | nil => rfl
      | cons x r =>
        rw [hlr, h] at hc0
        simp at hc0
        omega
    have hp : g.pop = (0, g.stp 6) := by unfold GSt.pop; rw [hst]
    refine WC.seq ?_
    refine WC.region ?_
    refine WL.val (.inl rfl) rfl (yl_move rfl) ?_
    refine WL.front 5 rfl ?_
    refine WL.front 5 rfl ?_
    refine WL.front 5 rfl ?_
    refine WL.front 5 rfl ?_
    refine WL.front 5 rfl ?_
    refine WL.front 5 rfl ?_
    refine WL.callw (ι := Unit) [_, _, _, _, _, _] _ (.inl rfl) rfl en66 rfl rfl (fun _ => .tuple #[]) (fun _ => (GSt.own bg (g.stp 6))) (fun _ => True) [HI] (by simp) (fun w hw => (gstop_any bg g HI 6 w hg hw).mono fun e w' h => ⟨(), h.1, trivial, h.2⟩) ?_
    intro _ _
    refine WL.nil ?_
    refine WE.then_normal ?_
    refine WC.seq ?_
    refine WC.region ?_
    refine WL.val (.inl rfl) rfl (yl_assign rfl) ?_
    refine WL.nil ?_
    refine WE.then_normal ?_
    refine WC.ret ?_
    refine WE.then_ret ?_
    refine WE.ret1 rfl rfl fun w' hw => ?_
    rw [hp]
    exact ⟨rfl, hw⟩
  ·
    obtain ⟨x, r, hst⟩ : ∃ x r, g.s.stack = x :: r := by
      cases h : g.s.stack with
      | nil => rw [hlr, h] at hc0; cases hc0
      | cons x r => exact ⟨x, r, rfl⟩
    have hp : g.pop = (x, ⟨g.s.wst r, g.fin, g.over⟩) := by unfold GSt.pop; rw [hst]
    have hsl : g.s.stack.length = r.length + 1 := by rw [hst]; rfl
    refine WC.skip ?_
    refine WE.then_normal ?_
    refine WC.seq ?_
    refine WC.shapeT 1 rfl (by rw [hlr, hst]; simp) fun sb hsb hsc hsm => ?_
    refine WC.drawU (fun _ => true) [] [] (.q false 0 (.q false 1 (.q false 2 (.q true 3 (.q false 4 (.q false 5 (.q false 6 (.q true 7 (.q false 8 (.q false 9 (.q false 10 (.q true 11 (.q false 12 .nil))))))))))))) mixed (by kernel_rfl) (fun _ _ _ d _ _ h => by cases d <;> exact h) ?_
    refine WU.q rfl (.inl rfl) rfl (fun _ h => h) (yl_move rfl) ?_
    refine WU.q rfl (.inl rfl) rfl (fun _ h => h) (yl_nil rfl) ?_
    refine WU.q rfl (.inl rfl) rfl (fun _ h => h) (yl_fa fo119_1 rfl) ?_
    refine WU.q rfl (.inl rfl) rfl (fun _ h => h) (yl_ldk 0 rfl rfl rfl na50) ?_
    refine WU.q rfl (.inl rfl) rfl (fun _ h => h) (yl_move rfl) ?_
    refine WU.q rfl (.inl rfl) rfl (fun _ h => h) (yl_nil rfl) ?_
    refine WU.q rfl (.inl rfl) rfl (fun _ h => h) (yl_fa fo119_1 rfl) ?_
    refine WU.q rfl (.inl rfl) rfl (fun _ h => h) (yl_ldk 0 rfl rfl rfl na50) ?_
    refine WU.q rfl (.inl rfl) rfl (fun _ h => h) (yl_len es50 rfl) ?_
    refine WU.q rfl (.inl rfl) rfl (fun _ h => h) (yl_subv ((r.length : Nat) : Int) rfl rfl (by omega) (by omega)) ?_
    refine WU.q rfl (.inl rfl) rfl (fun _ h => h) (yl_iao es50 rfl rfl hsb (by omega)) ?_
    refine WU.q rfl (.inl rfl) rfl (fun _ h => h) (yl_ldT (y := x) 1 r.length 0 rfl rfl hsb rfl iv_len (by rw [hst, List.reverse_cons, List.getElem?_append_right (by simp)]; simp) rfl na3) ?_
    refine WU.q rfl (.inl rfl) rfl (fun _ h => h) (yl_assign rfl) ?_
    refine WU.nil (fun _ h => h) ?_
    refine WS.nil ?_
    refine WE.then_normal ?_
    refine WC.seq ?_
    refine WC.drawU (fun _ => true) [] [14] (.q false 0 (.q false 1 (.q false 2 (.q false 3 (.q true 4 (.q false 5 (.q false 6 (.q false 7 (.q true 8 (.q false 9 (.q false 10 (.q false 11 (.q false 12 (.q false 13 .nil)))))))))))))) mixed (by kernel_rfl) (fun _ _ _ d _ _ h => by cases d <;> exact h) ?_
    refine WU.q rfl (.inl rfl) rfl (fun _ h => h) (yl_move rfl) ?_
    refine WU.q rfl (.inl rfl) rfl (fun _ h => h) (yl_move rfl) ?_
    refine WU.q rfl (.inl rfl) rfl (fun _ h => h) (yl_nil rfl) ?_
    refine WU.q rfl (.inl rfl) rfl (fun _ h => h) (yl_fa fo119_1 rfl) ?_
    refine WU.q rfl (.inl rfl) rfl (fun _ h => h) (yl_ldk 0 rfl rfl rfl na50) ?_
    refine WU.q rfl (.inl rfl) rfl (fun _ h => h) (yl_move rfl) ?_
    refine WU.q rfl (.inl rfl) rfl (fun _ h => h) (yl_nil rfl) ?_
    refine WU.q rfl (.inl rfl) rfl (fun _ h => h) (yl_fa fo119_1 rfl) ?_
    refine WU.q rfl (.inl rfl) rfl (fun _ h => h) (yl_ldk 0 rfl rfl rfl na50) ?_
    refine WU.q rfl (.inl rfl) rfl (fun _ h => h) (yl_len es50 rfl) ?_
    refine WU.q rfl (.inl rfl) rfl (fun _ h => h) (yl_subv ((r.reverse.length : Nat) : Int) rfl rfl (by simp; omega) (by simp; omega)) ?_
    refine WU.q rfl (.inl rfl) rfl (fun _ h => h) (yl_slhn r.reverse.length es50 rfl (fun p hp => by rw [hsb] at hp; injection hp with hp; subst hp; rfl) rfl rfl (by simp; omega)) ?_
    refine WU.q rfl (.inl rfl) rfl (fun _ h => h) (yl_nil rfl) ?_
    refine WU.q rfl (.inl rfl) rfl (fun _ h => h) (yl_fa fo119_1 rfl) ?_
    refine WU.nil (fun _ h => h) ?_
    refine WS.e rfl ?_
    refine WL.store 0 (.inl rfl) rfl rfl rfl sz50 rfl rfl rfl ?_
    refine WL.truncT2 1 r.reverse rfl iv_len (by simp [hst]) (by rw [hst]; simp) ?_
    refine WL.nil ?_
    refine WE.toS ?_
    refine WS.nil ?_
    refine WE.then_normal ?_
    refine WC.seq ?_
    refine WC.region ?_
    refine WL.val (.inl rfl) rfl (yl_move rfl) ?_
    refine WL.val (.inl rfl) rfl (yl_assign rfl) ?_
    refine WL.nil ?_
    refine WE.then_normal ?_
    refine WC.ret ?_
    refine WE.ret1 rfl rfl fun w' hw => ?_
    rw [hp]
    exact ⟨rfl, hw⟩

theorem gpush_any (bg : Nat) (g : GSt) (HI : View) (n : Int) (w : World) (hg : g.good HI) (hw : Ws w ((GSt.own bg g).flatMap Asr.ids) (GSt.own bg g) [HI] w) :
    Calls Try.prog 94 #[.pointer (some ⟨bg, 0, none⟩), .int .i64 n] w fun e w' => ∃ r : GSt, e = .returned (.tuple #[]) ∧ (r.pg = pushG n g.pg ∧ r.good HI) ∧ Ws w ((GSt.own bg g).flatMap Asr.ids) (GSt.own bg r) [HI] w' := by
  have hlr : g.s.stack.reverse.length = g.s.stack.length := by simp
  have hfr : g.s.frames.reverse.length = g.s.frames.length := by simp
  have hgs := hg.stk
  have hgf := hg.frs
  have hgo := hg.out
  have hgd := hg.dat
  refine enter Try.func94 rfl 27 rfl rfl ?_
  refine WC.world (W' := Ws w ((GSt.own bg g).flatMap Asr.ids) (GSt.own bg g) [HI]) (fun _ e => by subst e; exact hw) ?_
  refine WC.seq ?_
  refine WC.seq ?_
  refine WC.region ?_
  refine WL.val (.inl rfl) rfl (yl_move rfl) ?_
  refine WL.val (.inl rfl) rfl (yl_nil rfl) ?_
  refine WL.val (.inl rfl) rfl (yl_fa fo119_1 rfl) ?_
  refine WL.val (.inl rfl) rfl (yl_ldk 0 rfl rfl rfl na50) ?_
  refine WL.val (.inl rfl) rfl (yl_len es50 rfl) ?_
  refine WL.val (.inl rfl) rfl (yl_ge rfl rfl) ?_
  refine WL.nil ?_
  refine WE.then_normal ?_
  refine WC.cond rfl (fun hc0 => ?_) (fun hc0 => ?_)
  ·
    have hle : 2048 ≤ g.s.stack.length := by rw [hlr] at hc0; simp at hc0; omega
    refine WC.region ?_
    refine WL.val (.inl rfl) rfl (yl_move rfl) ?_
    refine WL.front 5 rfl ?_
    refine WL.front 5 rfl ?_
    refine WL.front 5 rfl ?_
    refine WL.front 5 rfl ?_
    refine WL.front 5 rfl ?_
    refine WL.front 5 rfl ?_
    refine WL.callw (ι := Unit) [_, _, _, _, _, _] _ (.inl rfl) rfl en66 rfl rfl (fun _ => .tuple #[]) (fun _ => (GSt.own bg (g.stp 6))) (fun _ => True) [HI] (by simp) (fun w hw => (gstop_any bg g HI 6 w hg hw).mono fun e w' h => ⟨(), h.1, trivial, h.2⟩) ?_
    intro _ _
    refine WL.nil ?_
    refine WE.then_normal ?_
    refine WC.seq ?_
    refine WC.region ?_
    refine WL.val (.inl rfl) rfl (yl_move rfl) ?_
    refine WL.val (.inl rfl) rfl (yl_nil rfl) ?_
    refine WL.val (.inl rfl) rfl (yl_fa fo119_9 rfl) ?_
    refine WL.val (.inl rfl) rfl (yl_ldk 0 rfl rfl rfl na4) ?_
    refine WL.val (.inl rfl) rfl (yl_not rfl) ?_
    refine WL.nil ?_
    refine WE.then_normal ?_
    refine WC.cond rfl (fun hc1 => ?_) (fun hc1 => ?_)
    ·
      exfalso
      have := stp_over 6 g
      rw [this] at hc1
      cases hc1
    ·
      refine WC.skip ?_
      refine WE.end0 rfl fun w' hw => ?_
      have hpu : pushG n g.pg = putG n (g.stp 6).pg := by
        unfold pushG
        rw [if_pos (show 2048 ≤ g.pg.m.stack.length from hle), stp_pg]
      have ho : (g.stp 6).over = true := by simpa using hc1
      exact ⟨(g.stp 6), rfl, ⟨by rw [hpu, putG_over (show (g.stp 6).pg.over = true from ho)], (hg.stp 6)⟩, hw⟩
  ·
    have hle : ¬ 2048 ≤ g.s.stack.length := by rw [hlr] at hc0; simp at hc0; omega
    refine WC.skip ?_
    refine WE.then_normal ?_
    refine WC.seq ?_
    refine WC.region ?_
    refine WL.val (.inl rfl) rfl (yl_move rfl) ?_
    refine WL.val (.inl rfl) rfl (yl_nil rfl) ?_
    refine WL.val (.inl rfl) rfl (yl_fa fo119_9 rfl) ?_
    refine WL.val (.inl rfl) rfl (yl_ldk 0 rfl rfl rfl na4) ?_
    refine WL.val (.inl rfl) rfl (yl_not rfl) ?_
    refine WL.nil ?_
    refine WE.then_normal ?_
    refine WC.cond rfl (fun hc1 => ?_) (fun hc1 => ?_)
    ·
      have hlt : g.s.stack.length < 2048 := by omega
      refine WC.region ?_
      refine WL.val (.inl rfl) rfl (yl_move rfl) ?_
      refine WL.val (.inl rfl) rfl (yl_move rfl) ?_
      refine WL.val (.inl rfl) rfl (yl_nil rfl) ?_
      refine WL.val (.inl rfl) rfl (yl_fa fo119_1 rfl) ?_
      refine WL.val (.inl rfl) rfl (yl_ldk 0 rfl rfl rfl na50) ?_
      refine WL.val (.inl rfl) rfl (yl_move rfl) ?_
      refine WL.bsliceF (.inl rfl) rfl el50 rfl rfl rfl rfl fun b23 => ?_
      refine WL.appT n 2 0 (.inl rfl) rfl el50 rfl rfl rfl rfl rfl rfl (by omega) (by omega) fun a24 c24 => ?_
      rw [show g.s.stack.reverse ++ [n] = (n :: g.s.stack).reverse by simp]
      refine WL.val (.inl rfl) rfl (yl_nil rfl) ?_
      refine WL.val (.inl rfl) rfl (yl_fa fo119_1 rfl) ?_
      refine WL.store 1 (.inl rfl) rfl rfl rfl sz50 rfl rfl rfl ?_
      refine WL.nil ?_
      refine WE.end0 rfl fun w' hw => ?_
      have hpu : pushG n g.pg = putG n g.pg := by
        unfold pushG
        rw [if_neg (show ¬ 2048 ≤ g.pg.m.stack.length from hle)]
      have ho : g.over = false := by simpa using hc1
      exact ⟨⟨{ g.s with stack := n :: g.s.stack, sa := a24, sc := c24 }, g.fin, g.over⟩, rfl, ⟨by rw [hpu, putG_not (show g.pg.over = false from ho)]; rfl, ⟨hg.inp, by show (g.s.stack.length + 1) ≤ 2048; have hne := hlt; omega, hg.frs, hg.frn, hg.out, hg.dat⟩⟩, Ws.drop (L := [_]) hw⟩
    ·
      refine WC.skip ?_
      refine WE.end0 rfl fun w' hw => ?_
      have hpu : pushG n g.pg = putG n g.pg := by
        unfold pushG
        rw [if_neg (show ¬ 2048 ≤ g.pg.m.stack.length from hle)]
      have ho : g.over = true := by simpa using hc1
      exact ⟨g, rfl, ⟨by rw [hpu, putG_over (show g.pg.over = true from ho)], hg⟩, hw⟩

end Go.Proofs.Ytagoencpeflmlaa
