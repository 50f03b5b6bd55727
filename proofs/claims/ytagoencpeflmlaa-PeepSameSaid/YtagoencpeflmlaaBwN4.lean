/- Walks of the machine of the document and of the law, and plain laws on what they compute; each theorem tells its own conditions. -/
import Derived.Test.YtagoencpeflmlaaBwN3
namespace Go.Proofs.Ytagoencpeflmlaa
open Go.Bw
set_option linter.unusedVariables false
set_option linter.unusedSimpArgs false

def locG (g : Pg) : List Int := locP g.m
def setAt (n : Int) (g : Pg) : Pg := ⟨{ g.m with at_ := n }, g.fin, g.over⟩
def putLoc (k : Nat) (n : Int) (g : Pg) : Pg := ⟨setLoc g.m k n, g.fin, g.over⟩
def putDat (k : Nat) (n : Int) (g : Pg) : Pg := ⟨{ g.m with data := g.m.data.set k n }, g.fin, g.over⟩
def whenG (h : Pg) (k : Pg → Pg) : Pg := bif h.over then h else k h
theorem whenT {h : Pg} {k : Pg → Pg} (ho : h.over = true) : whenG h k = h := by unfold whenG; rw [ho]; rfl
theorem whenF {h : Pg} {k : Pg → Pg} (ho : h.over = false) : whenG h k = k h := by unfold whenG; rw [ho]; rfl
def pushFr (nx : Int) (g : Pg) : Pg := ⟨{ g.m with frames := ([], nx) :: g.m.frames }, g.fin, g.over⟩
def callG (nx : Int) (g : Pg) : Pg := pushFr nx (if 24 < (tickG g).m.frames.length then stopG 4 (tickG g) else tickG g)
def tailG (g : Pg) : Pg := ⟨{ g.m with inp := g.m.inp.tail }, g.fin, g.over⟩
def putOut (n : Int) (g : Pg) : Pg := bif g.over then g else ⟨{ g.m with out := g.m.out ++ [n] }, g.fin, g.over⟩
def outG (n : Int) (g : Pg) : Pg := putOut n (if g.over = false ∧ 200 ≤ g.m.out.length then stopG 5 g else g)
def mathG (op nx : Int) (g : Pg) : Pg := if (popG (popG g).2).2.over = true then (popG (popG g).2).2 else
  setAt nx (pushG (rmath op (popG (popG g).2).1 (popG g).1).1 (if (rmath op (popG (popG g).2).1 (popG g).1).2 = true then (popG (popG g).2).2 else stopG 1 (popG (popG g).2).2))
def doA (i : Ins) (nx : Int) (g : Pg) : Pg :=
  if (i.op == 1) = true then setAt nx (pushG i.a g)
  else if (i.op == 2) = true then setAt nx (whenG (hasG i.a (locG g).length g) fun h => pushG ((locG g)[i.a.toNat]?.getD 0) h)
  else if (i.op == 3) = true then setAt nx (whenG (hasG i.a (locG (popG g).2).length (popG g).2) fun h => putLoc i.a.toNat (popG g).1 h)
  else if (i.op == 4) = true then setAt nx (whenG (hasG i.a g.m.data.length g) fun h => pushG (g.m.data[i.a.toNat]?.getD 0) h)
  else if (i.op == 5) = true then setAt nx (whenG (hasG i.a (popG g).2.m.data.length (popG g).2) fun h => putDat i.a.toNat (popG g).1 h)
  else if (i.op == 6) = true then setAt nx (pushG (IntKind.i64.wrap (i.a + (popG g).1)) (if (decide ((popG g).1 < 0) || decide (i.b ≤ (popG g).1)) = true then stopG 2 (popG g).2 else (popG g).2))
  else if (i.op == 7) = true then setAt nx (whenG (hasG (popG g).1 (popG g).2.m.data.length (popG g).2) fun h => pushG ((popG g).2.m.data[(popG g).1.toNat]?.getD 0) h)
  else if (i.op == 8) = true then setAt nx (whenG (hasG (popG (popG g).2).1 (popG (popG g).2).2.m.data.length (popG (popG g).2).2) fun h => putDat (popG (popG g).2).1.toNat (popG g).1 h)
  else if (i.op == 9) = true then setAt nx (pushG (bitI ((popG g).1 == 0)) (popG g).2)
  else if (i.op == 22) = true then setAt nx (pushG (bitI ((popG g).1 != 0)) (popG g).2)
  else if (i.op == 10) = true then mathG i.a nx (if within i.a 9 15 = true then g else stopG 6 g)
  else if (i.op == 11) = true then setAt i.a g
  else if (i.op == 12) = true then setAt (if ((popG g).1 == 0) = true then i.a else nx) (popG g).2
  else if (i.op == 13) = true then setAt i.a (callG nx g)
  else if (i.op == 14) = true then setAt nx (enterG i.a i.b g)
  else if (i.op == 15) = true then if g.m.frames.length = 1 then stopG 6 g else match g.m.frames with | [] => g | f :: r => setAt f.2 ⟨{ g.m with frames := r }, g.fin, g.over⟩
  else if (i.op == 16) = true then setAt nx (tickG g)
  else if (i.op == 17) = true then setAt nx (popG g).2
  else if (i.op == 18) = true then setAt nx (tailG (pushG (g.m.inp.head?.getD 0) g))
  else if (i.op == 19) = true then setAt nx (outG (popG g).1 (popG g).2)
  else if (i.op == 20) = true then setAt nx (stopG 0 g)
  else setAt nx g
def doG (i : Ins) (g : Pg) : Pg := doA i (IntKind.i64.wrap (g.m.at_ + 1)) g
abbrev GSt.at_ (n : Int) (g : GSt) : GSt := ⟨{ g.s with at_ := n }, g.fin, g.over⟩
theorem GSt.good.at {HI : View} {g : GSt} (h : g.good HI) (n : Int) : (GSt.at_ n g).good HI := ⟨h.inp, h.stk, h.frs, h.frn, h.out, h.dat⟩
theorem pop_frs (g : GSt) : g.pop.2.s.frames = g.s.frames := by unfold GSt.pop; split; rw [stp_s]; rfl
theorem pop_fa (g : GSt) : g.pop.2.s.fa = g.s.fa := by unfold GSt.pop; split; rw [stp_s]; rfl
theorem pop_inp (g : GSt) : g.pop.2.s.inp = g.s.inp := by unfold GSt.pop; split; rw [stp_s]; rfl
theorem tick_s (g : GSt) : ∃ t, g.tick.s = { g.s with ticks := t } := by
  unfold GSt.tick GSt.inc
  split
  · cases (g.stp 3).over
    · exact ⟨_, by show ({ (g.stp 3).s with ticks := _ } : MSt) = _; rw [stp_s]⟩
    · exact ⟨g.s.ticks, by show (g.stp 3).s = _; rw [stp_s]⟩
  · cases g.over
    · exact ⟨_, rfl⟩
    · exact ⟨g.s.ticks, rfl⟩
theorem tick_frs (g : GSt) : g.tick.s.frames = g.s.frames := by obtain ⟨t, h⟩ := tick_s g; rw [h]
theorem has_in {g : GSt} {a : Int} {n : Nat} (h : (g.has a n).over = false) : outsideB a n = false ∧ g.has a n = g := by
  unfold GSt.has at h ⊢
  cases ho : outsideB a n with
  | false => exact ⟨rfl, rfl⟩
  | true => rw [ho] at h; have := stp_over 6 g; simp only [cond_true] at h; rw [this] at h; cases h
theorem gown_setloc {g : GSt} {f : MFr} {r : List MFr} (hfs : g.s.frames = f :: r) (k : Nat) (n : Int) : g.obj = GSt.obj ⟨{ g.s with frames := { f with loc := f.loc.set k n } :: r }, g.fin, g.over⟩ ∧ osT 116 2 MFr.cells g.s.fa g.s.fc g.s.frames.reverse = osT 116 2 MFr.cells g.s.fa g.s.fc ({ f with loc := f.loc.set k n } :: r).reverse := by
  constructor
  · simp [GSt.obj, hfs]
  · simp [hfs, MFr.cells, osT]
theorem gown_setdat (g : GSt) (k : Nat) (n : Int) : g.obj = GSt.obj ⟨{ g.s with data := g.s.data.set k n }, g.fin, g.over⟩ := by simp [GSt.obj]
theorem putLoc_pg {g : GSt} {f : MFr} {r : List MFr} (hfs : g.s.frames = f :: r) (k : Nat) (n : Int) : putLoc k n g.pg = GSt.pg ⟨{ g.s with frames := { f with loc := f.loc.set k n } :: r }, g.fin, g.over⟩ := by
  show (⟨setLoc g.s.pu k n, g.fin, g.over⟩ : Pg) = _
  rw [setLoc_pu hfs]; rfl
theorem putOut_not {n : Int} {g : Pg} (h : g.over = false) : putOut n g = ⟨{ g.m with out := g.m.out ++ [n] }, g.fin, g.over⟩ := by unfold putOut; rw [h]; rfl
theorem pushG_inp (n : Int) (g : Pg) : (pushG n g).m.inp = g.m.inp := by
  unfold pushG
  split
  · unfold putG stopG; cases h : g.over <;> simp [h]
  · unfold putG; cases h : g.over <;> simp [h]
theorem fo119_0 : fieldOff Try.prog 119 0 = some 0 := by kernel_rfl
theorem en94 : Enters Try.prog 94 := enters_of Try.func94 (by kernel_rfl) rfl
theorem en95 : Enters Try.prog 95 := enters_of Try.func95 (by kernel_rfl) rfl
theorem en96 : Enters Try.prog 96 := enters_of Try.func96 (by kernel_rfl) rfl
theorem en97 : Enters Try.prog 97 := enters_of Try.func97 (by kernel_rfl) rfl
theorem en40 : Enters Try.prog 40 := enters_of Try.func40 (by kernel_rfl) rfl
theorem en98 : Enters Try.prog 98 := enters_of Try.func98 (by kernel_rfl) rfl
theorem pl116 : placesP Try.prog 116 = some [(0, 1), (1, 1)] := by kernel_rfl
theorem zr116 : zeroOf Try.prog 116 = some (.agg #[.slice none 0 0, .int .i64 0]) := by kernel_rfl
theorem el117 : EltOk Try.prog 117 116 (.agg #[.slice none 0 0, .int .i64 0]) 2 32 := eltOk_of (by kernel_rfl)
theorem sz117 : sizeP Try.prog 117 = some 1 := by kernel_rfl
theorem en99 : Enters Try.prog 99 := enters_of Try.func99 (by kernel_rfl) rfl
theorem fo116_1 : fieldOff Try.prog 116 1 = some 1 := by kernel_rfl
theorem fo119_4 : fieldOff Try.prog 119 4 = some 4 := by kernel_rfl
theorem fo119_5 : fieldOff Try.prog 119 5 = some 5 := by kernel_rfl

set_option maxHeartbeats 8000000 in
theorem gdo_any (bg : Nat) (g : GSt) (HI : View) (i : Ins) (hno : g.over = false) (w : World) (hg : g.good HI) (hw : Ws w ((GSt.own bg g).flatMap Asr.ids) (GSt.own bg g) [HI] w) :
    Calls Try.prog 67 #[.pointer (some ⟨bg, 0, none⟩), .agg #[.int .i64 i.op, .int .i64 i.a, .int .i64 i.b]] w fun e w' => ∃ k : GSt, e = .returned (.tuple #[]) ∧ (k.pg = doG i g.pg ∧ k.good HI) ∧ Ws w ((GSt.own bg g).flatMap Asr.ids) (GSt.own bg k) [HI] w' := by
  have hlr : g.s.stack.reverse.length = g.s.stack.length := by simp
  have hfr : g.s.frames.reverse.length = g.s.frames.length := by simp
  have hgs := hg.stk
  have hgf := hg.frs
  have hgo := hg.out
  have hgd := hg.dat
  have hgp : g.pop.2.good HI := hg.pop
  have hgp2 : g.pop.2.pop.2.good HI := hgp.pop
  have hgn := hg.frn hno
  refine enter Try.func67 rfl 365 rfl rfl ?_
  refine WC.world (W' := Ws w ((GSt.own bg g).flatMap Asr.ids) (GSt.own bg g) [HI]) (fun _ e => by subst e; exact hw) ?_
  refine WC.seq ?_
  refine WC.region ?_
  refine WL.box (.inl rfl) rfl rfl fun b3 => ?_
  refine WL.nil ?_
  refine WE.then_normal ?_
  refine WC.seq ?_
  obtain ⟨f, r, hfs⟩ : ∃ f r, g.s.frames = f :: r := by
    cases h : g.s.frames with
    | nil => have := hg.frs; rw [h] at this; simp at this
    | cons f r => exact ⟨f, r, rfl⟩
  refine WC.fact (p := f.loc.length ≤ maxLen) (fun w hw => fam_len (As := g.s.frames.map MFr.own) hw 6 rfl (by rw [hfs]; exact List.mem_cons_self)) fun hlm => ?_
  refine WC.fact (p := 0 < f.loc.length → ∃ b o, f.la = some ⟨b, o, none⟩) (fun w hw hp => fam_shape (As := g.s.frames.map MFr.own) hw 6 rfl (by rw [hfs]; exact List.mem_cons_self) hp) fun hla => ?_
  have hft := frs_top hfs
  unfold maxLen at hlm
  have hfl : g.s.frames.length = r.length + 1 := by rw [hfs]; rfl
  refine WC.shapeT 3 rfl (by omega) fun fb hfb hfc hfm => ?_
  refine WC.drawU (fun _ => true) [] [] (.q false 0 (.q false 1 (.q false 2 (.q true 3 (.q false 4 (.q false 5 (.q false 6 (.q true 7 (.q false 8 (.q false 9 (.q false 10 (.q false 11 .nil)))))))))))) mixed (by kernel_rfl) (fun _ _ _ d _ _ h => by cases d <;> exact h) ?_
  refine WU.q rfl (.inl rfl) rfl (fun _ h => h) (yl_move rfl) ?_
  refine WU.q rfl (.inl rfl) rfl (fun _ h => h) (yl_nil rfl) ?_
  refine WU.q rfl (.inl rfl) rfl (fun _ h => h) (yl_fa fo119_2 rfl) ?_
  refine WU.q rfl (.inl rfl) rfl (fun _ h => h) (yl_ldk 1 rfl rfl rfl na117) ?_
  refine WU.q rfl (.inl rfl) rfl (fun _ h => h) (yl_move rfl) ?_
  refine WU.q rfl (.inl rfl) rfl (fun _ h => h) (yl_nil rfl) ?_
  refine WU.q rfl (.inl rfl) rfl (fun _ h => h) (yl_fa fo119_2 rfl) ?_
  refine WU.q rfl (.inl rfl) rfl (fun _ h => h) (yl_ldk 1 rfl rfl rfl na117) ?_
  refine WU.q rfl (.inl rfl) rfl (fun _ h => h) (yl_len es117 rfl) ?_
  refine WU.q rfl (.inl rfl) rfl (fun _ h => h) (yl_subv ((g.s.frames.length - 1 : Nat) : Int) rfl rfl (by rw [hfr]; omega) (by omega)) ?_
  refine WU.q rfl (.inl rfl) rfl (fun _ h => h) (yl_iao es117 rfl rfl hfb (by omega)) ?_
  refine WU.q rfl (.inl rfl) rfl (fun _ h => h) (yl_assign rfl) ?_
  refine WU.nil (fun _ h => h) ?_
  refine WS.nil ?_
  refine WE.then_normal ?_
  refine WC.seq ?_
  refine WC.region ?_
  refine WL.val (.inl rfl) rfl (yl_move rfl) ?_
  refine WL.val (.inl rfl) rfl (yl_nil rfl) ?_
  refine WL.val (.inl rfl) rfl (yl_fa fo119_0 rfl) ?_
  refine WL.val (.inl rfl) rfl (yl_ldk 1 rfl rfl rfl na3) ?_
  refine WL.val (.inl rfl) rfl (yl_addw rfl rfl) ?_
  refine WL.val (.inl rfl) rfl (yl_assign rfl) ?_
  refine WL.nil ?_
  refine WE.then_normal ?_
  refine WC.seq ?_
  refine WC.seq ?_
  refine WC.region ?_
  refine WL.val (.inl rfl) rfl (yl_fa fo65_0 rfl) ?_
  refine WL.val (.inl rfl) rfl (yl_ldk 0 rfl rfl rfl na3) ?_
  refine WL.nil ?_
  refine WE.then_normal ?_
  refine WC.block ?_
  refine WC.seq ?_
  refine WC.region ?_
  refine WL.val (.inl rfl) rfl (yl_eq rfl rfl) ?_
  refine WL.val (.inl rfl) rfl (yl_assign rfl) ?_
  refine WL.nil ?_
  refine WE.then_normal ?_
  refine WC.cond rfl (fun hc0 => ?_) (fun hc0 => ?_)
  ·
    refine WC.region ?_
    refine WL.val (.inl rfl) rfl (yl_move rfl) ?_
    refine WL.val (.inl rfl) rfl (yl_fa fo65_1 rfl) ?_
    refine WL.val (.inl rfl) rfl (yl_ldk 0 rfl rfl rfl na3) ?_
    refine WL.front 6 rfl ?_
    refine WL.front 6 rfl ?_
    refine WL.front 6 rfl ?_
    refine WL.front 6 rfl ?_
    refine WL.front 6 rfl ?_
    refine WL.front 6 rfl ?_
    refine WL.callw (ι := GSt) [_, _, _, _, _, _] _ (.inl rfl) rfl en94 rfl rfl (fun r => .tuple #[]) (fun r => (GSt.own bg r)) (fun r => (r.pg = pushG (i.a) g.pg ∧ r.good HI)) [HI] (by simp) (fun w hw => gpush_any bg g HI (i.a) w hg hw) ?_
    intro r44 hr44
    refine WL.nil ?_
    refine WE.block_normal ?_
    refine WE.then_normal ?_
    refine WC.region ?_
    refine WL.val (.inl rfl) rfl (yl_move rfl) ?_
    refine WL.val (.inl rfl) rfl (yl_move rfl) ?_
    refine WL.val (.inl rfl) rfl (yl_nil rfl) ?_
    refine WL.val (.inl rfl) rfl (yl_fa fo119_0 rfl) ?_
    refine WL.store 0 (.inl rfl) rfl rfl rfl sz3 rfl rfl rfl ?_
    refine WL.nil ?_
    refine WE.end0 rfl fun w' hw => ?_
    have hw := hw.fronti 5 rfl
    have hw := hw.fronti 5 rfl
    have hw := hw.fronti 5 rfl
    have hw := hw.fronti 5 rfl
    have hw := hw.fronti 5 rfl
    have hw := hw.fronti 5 rfl
    have hw := Ws.keep (L := [_, _, _, _, _, _]) hw
    refine ⟨GSt.at_ (IntKind.i64.wrap (g.s.at_ + 1)) r44, rfl, ⟨?_, GSt.good.at hr44.2 _⟩, hw⟩
    show setAt (IntKind.i64.wrap (g.s.at_ + 1)) r44.pg = _
    unfold doG doA
    simp only [hc0, Bool.false_eq_true, if_false, if_true]
    rw [hr44.1]
    all_goals rfl
  ·
    refine WC.seq ?_
    refine WC.region ?_
    refine WL.val (.inl rfl) rfl (yl_eq rfl rfl) ?_
    refine WL.val (.inl rfl) rfl (yl_assign rfl) ?_
    refine WL.nil ?_
    refine WE.then_normal ?_
    refine WC.cond rfl (fun hc1 => ?_) (fun hc1 => ?_)
    ·
      refine WC.seq ?_
      refine WC.region ?_
      refine WL.val (.inl rfl) rfl (yl_move rfl) ?_
      refine WL.val (.inl rfl) rfl (yl_fa fo65_1 rfl) ?_
      refine WL.val (.inl rfl) rfl (yl_ldk 0 rfl rfl rfl na3) ?_
      refine WL.front 6 rfl ?_
      refine WL.front 6 rfl ?_
      refine WL.front 6 rfl ?_
      refine WL.front 6 rfl ?_
      refine WL.front 6 rfl ?_
      refine WL.front 6 rfl ?_
      refine WL.callw (ι := Unit) [_, _, _, _, _, _] _ (.inl rfl) rfl en95 rfl rfl (fun _ => .bool (!(g.has (i.a) f.loc.length).over)) (fun _ => (GSt.own bg (g.has (i.a) f.loc.length))) (fun _ => True) [HI] (by simp) (fun w hw => (glocal_any bg g HI i.a f r hfs hlm w hg hw).mono fun e w' h => ⟨(), h.1, trivial, h.2⟩) ?_
      intro _ _
      refine WL.nil ?_
      refine WE.then_normal ?_
      refine WC.cond rfl (fun hc2 => ?_) (fun hc2 => ?_)
      ·
        have ho2 : (g.has (i.a) f.loc.length).over = false := by simpa using hc2
        obtain ⟨hob, hH⟩ := has_in ho2
        rw [hH]
        obtain ⟨x59, hx59⟩ : ∃ x, f.loc[(i.a).toNat]? = some x := ⟨_, List.getElem?_eq_getElem (not_outside hob).2⟩
        obtain ⟨lb, lo, hlb⟩ := hla (by have := (not_outside hob).2; omega)
        refine WC.drawU (fun _ => true) [] [9] (.q false 0 (.q false 1 (.q false 2 (.q false 3 (.q true 4 (.q false 5 (.q true 6 (.q false 7 (.q true 8 .nil))))))))) mixed (by kernel_rfl) (fun _ _ _ d _ _ h => by cases d <;> exact h) ?_
        refine WU.q rfl (.inl rfl) rfl (fun _ h => h) (yl_move rfl) ?_
        refine WU.q rfl (.inl rfl) rfl (fun _ h => h) (yl_move rfl) ?_
        refine WU.q rfl (.inl rfl) rfl (fun _ h => h) (yl_nil rfl) ?_
        refine WU.q rfl (.inl rfl) rfl (fun _ h => h) (yl_fa fo116_0 rfl) ?_
        refine WU.q rfl (.inl rfl) rfl (fun _ h => h) (yl_ldT (y := f) 2 (g.s.frames.length - 1) 0 rfl rfl hfb rfl MFr.cells_len hft rfl na50) ?_
        refine WU.q rfl (.inl rfl) rfl (fun _ h => h) (yl_fa fo65_1 rfl) ?_
        refine WU.q rfl (.inl rfl) rfl (fun _ h => h) (yl_ldk 6 rfl rfl rfl na3) ?_
        refine WU.q rfl (.inl rfl) rfl (fun _ h => h) (yl_iai es50 rfl rfl hlb (not_outside hob).1 (by have := (not_outside hob).2; omega)) ?_
        refine WU.q rfl (.inl rfl) rfl (fun _ h => h) (yl_ldTF (xs := f.loc) (y := x59) 5 i.a.toNat 0 rfl rfl (by rw [hfs]; exact List.mem_cons_self) hlb rfl iv_len hx59 rfl na3) ?_
        refine WU.nil (fun _ h => h) ?_
        refine WS.e rfl ?_
        refine WL.front 5 rfl ?_
        refine WL.front 5 rfl ?_
        refine WL.front 5 rfl ?_
        refine WL.front 5 rfl ?_
        refine WL.front 5 rfl ?_
        refine WL.front 5 rfl ?_
        refine WL.callw (ι := GSt) [_, _, _, _, _, _] _ (.inl rfl) rfl en94 rfl rfl (fun r => .tuple #[]) (fun r => (GSt.own bg r)) (fun r => (r.pg = pushG (x59) g.pg ∧ r.good HI)) [HI] (by simp) (fun w hw => gpush_any bg g HI (x59) w hg hw) ?_
        intro r60 hr60
        refine WL.nil ?_
        refine WE.toS ?_
        refine WS.nil ?_
        refine WE.block_normal ?_
        refine WE.then_normal ?_
        refine WC.region ?_
        refine WL.val (.inl rfl) rfl (yl_move rfl) ?_
        refine WL.val (.inl rfl) rfl (yl_move rfl) ?_
        refine WL.val (.inl rfl) rfl (yl_nil rfl) ?_
        refine WL.val (.inl rfl) rfl (yl_fa fo119_0 rfl) ?_
        refine WL.store 0 (.inl rfl) rfl rfl rfl sz3 rfl rfl rfl ?_
        refine WL.nil ?_
        refine WE.end0 rfl fun w' hw => ?_
        have hw := hw.fronti 5 rfl
        have hw := hw.fronti 5 rfl
        have hw := hw.fronti 5 rfl
        have hw := hw.fronti 5 rfl
        have hw := hw.fronti 5 rfl
        have hw := hw.fronti 5 rfl
        have hw := Ws.keep (L := [_, _, _, _, _, _]) hw
        refine ⟨GSt.at_ (IntKind.i64.wrap (g.s.at_ + 1)) r60, rfl, ⟨?_, GSt.good.at hr60.2 _⟩, hw⟩
        show setAt (IntKind.i64.wrap (g.s.at_ + 1)) r60.pg = _
        unfold doG doA
        simp only [hc0, hc1, Bool.false_eq_true, if_false, if_true]
        rw [show locG g.pg = f.loc from loc_pu hfs, ← has_pg, whenF (show (g.has i.a f.loc.length).pg.over = false from ho2), hH, hx59, hr60.1]
        all_goals rfl
      ·
        have ho2 : (g.has (i.a) f.loc.length).over = true := by simpa using hc2
        refine WC.skip ?_
        refine WE.block_normal ?_
        refine WE.then_normal ?_
        refine WC.region ?_
        refine WL.val (.inl rfl) rfl (yl_move rfl) ?_
        refine WL.val (.inl rfl) rfl (yl_move rfl) ?_
        refine WL.val (.inl rfl) rfl (yl_nil rfl) ?_
        refine WL.val (.inl rfl) rfl (yl_fa fo119_0 rfl) ?_
        refine WL.store 0 (.inl rfl) rfl rfl rfl sz3 rfl rfl rfl ?_
        refine WL.nil ?_
        refine WE.end0 rfl fun w' hw => ?_
        have hw := hw.fronti 5 rfl
        have hw := hw.fronti 5 rfl
        have hw := hw.fronti 5 rfl
        have hw := hw.fronti 5 rfl
        have hw := hw.fronti 5 rfl
        have hw := hw.fronti 5 rfl
        have hw := Ws.keep (L := [_, _, _, _, _, _]) hw
        refine ⟨GSt.at_ (IntKind.i64.wrap (g.s.at_ + 1)) (g.has i.a f.loc.length), rfl, ⟨?_, GSt.good.at (hg.has _ _) _⟩, hw⟩
        show setAt (IntKind.i64.wrap (g.s.at_ + 1)) (g.has i.a f.loc.length).pg = _
        unfold doG doA
        simp only [hc0, hc1, Bool.false_eq_true, if_false, if_true]
        rw [show locG g.pg = f.loc from loc_pu hfs, ← has_pg, whenT (show (g.has i.a f.loc.length).pg.over = true from ho2)]
        all_goals rfl
    ·
      refine WC.seq ?_
      refine WC.region ?_
      refine WL.val (.inl rfl) rfl (yl_eq rfl rfl) ?_
      refine WL.val (.inl rfl) rfl (yl_assign rfl) ?_
      refine WL.nil ?_
      refine WE.then_normal ?_
      refine WC.cond rfl (fun hc3 => ?_) (fun hc3 => ?_)
      ·
        refine WC.seq ?_
        refine WC.region ?_
        refine WL.val (.inl rfl) rfl (yl_move rfl) ?_
        refine WL.front 6 rfl ?_
        refine WL.front 6 rfl ?_
        refine WL.front 6 rfl ?_
        refine WL.front 6 rfl ?_
        refine WL.front 6 rfl ?_
        refine WL.front 6 rfl ?_
        refine WL.callw (ι := Unit) [_, _, _, _, _, _] _ (.inl rfl) rfl en96 rfl rfl (fun _ => .int .i64 g.pop.1) (fun _ => (GSt.own bg g.pop.2)) (fun _ => True) [HI] (by simp) (fun w hw => (gpop_any bg g HI  w hg hw).mono fun e w' h => ⟨(), h.1, trivial, h.2⟩) ?_
        intro _ _
        refine WL.val (.inl rfl) rfl (yl_assign rfl) ?_
        refine WL.nil ?_
        refine WE.then_normal ?_
        refine WC.seq ?_
        have hfs0 := hfs
        have hfs : g.pop.2.s.frames = f :: r := by rw [pop_frs]; exact hfs0
        have hfb4 : g.pop.2.s.fa = some ⟨fb, 0, none⟩ := by rw [pop_fa]; exact hfb
        refine WC.region ?_
        refine WL.val (.inl rfl) rfl (yl_move rfl) ?_
        refine WL.val (.inl rfl) rfl (yl_fa fo65_1 rfl) ?_
        refine WL.val (.inl rfl) rfl (yl_ldk 6 rfl rfl rfl na3) ?_
        refine WL.front 5 rfl ?_
        refine WL.front 5 rfl ?_
        refine WL.front 5 rfl ?_
        refine WL.front 5 rfl ?_
        refine WL.front 5 rfl ?_
        refine WL.front 5 rfl ?_
        refine WL.callw (ι := Unit) [_, _, _, _, _, _] _ (.inl rfl) rfl en95 rfl rfl (fun _ => .bool (!(g.pop.2.has (i.a) f.loc.length).over)) (fun _ => (GSt.own bg (g.pop.2.has (i.a) f.loc.length))) (fun _ => True) [HI] (by simp) (fun w hw => (glocal_any bg g.pop.2 HI i.a f r hfs hlm w hgp hw).mono fun e w' h => ⟨(), h.1, trivial, h.2⟩) ?_
        intro _ _
        refine WL.nil ?_
        refine WE.then_normal ?_
        refine WC.cond rfl (fun hc4 => ?_) (fun hc4 => ?_)
        ·
          have ho4 : (g.pop.2.has (i.a) f.loc.length).over = false := by simpa using hc4
          obtain ⟨hob, hH⟩ := has_in ho4
          rw [hH]
          obtain ⟨x76, hx76⟩ : ∃ x, f.loc[(i.a).toNat]? = some x := ⟨_, List.getElem?_eq_getElem (not_outside hob).2⟩
          obtain ⟨lb, lo, hlb⟩ := hla (by have := (not_outside hob).2; omega)
          have hft4 := frs_top hfs
          have hln : g.pop.2.s.frames.length = g.s.frames.length := by rw [pop_frs]
          refine WC.drawU (fun _ => true) [] [8] (.q false 0 (.q false 1 (.q false 2 (.q true 3 (.q false 4 (.q true 5 (.q false 6 (.q false 7 .nil)))))))) mixed (by kernel_rfl) (fun _ _ _ d _ _ h => by cases d <;> exact h) ?_
          refine WU.q rfl (.inl rfl) rfl (fun _ h => h) (yl_move rfl) ?_
          refine WU.q rfl (.inl rfl) rfl (fun _ h => h) (yl_nil rfl) ?_
          refine WU.q rfl (.inl rfl) rfl (fun _ h => h) (yl_fa fo116_0 rfl) ?_
          refine WU.q rfl (.inl rfl) rfl (fun _ h => h) (yl_ldT (y := f) 2 (g.pop.2.s.frames.length - 1) 0 rfl rfl hfb4 (by rw [hln]) MFr.cells_len hft4 rfl na50) ?_
          refine WU.q rfl (.inl rfl) rfl (fun _ h => h) (yl_fa fo65_1 rfl) ?_
          refine WU.q rfl (.inl rfl) rfl (fun _ h => h) (yl_ldk 6 rfl rfl rfl na3) ?_
          refine WU.q rfl (.inl rfl) rfl (fun _ h => h) (yl_move rfl) ?_
          refine WU.q rfl (.inl rfl) rfl (fun _ h => h) (yl_iai es50 rfl rfl hlb (not_outside hob).1 (by have := (not_outside hob).2; omega)) ?_
          refine WU.nil (fun _ h => h) ?_
          refine WS.e rfl ?_
          refine WL.reL (A' := fam (MFr.own f :: r.map MFr.own)) 5 rfl (by rw [hfs]; rfl) ?_
          refine WL.front 5 rfl ?_
          refine WL.famOpen ?_
          refine WL.storeT (y := x76) 0 i.a.toNat 0 g.pop.1 (.inl rfl) rfl rfl rfl hlb rfl iv_len hx76 sz3 rfl rfl (by decide) rfl ?_
          refine WL.famShut ?_
          refine WL.nil ?_
          refine WE.toS ?_
          refine WS.nil ?_
          refine WE.block_normal ?_
          refine WE.then_normal ?_
          refine WC.region ?_
          refine WL.val (.inl rfl) rfl (yl_move rfl) ?_
          refine WL.val (.inl rfl) rfl (yl_move rfl) ?_
          refine WL.val (.inl rfl) rfl (yl_nil rfl) ?_
          refine WL.val (.inl rfl) rfl (yl_fa fo119_0 rfl) ?_
          refine WL.store 1 (.inl rfl) rfl rfl rfl sz3 rfl rfl rfl ?_
          refine WL.nil ?_
          refine WE.end0 rfl fun w' hw => ?_
          have hw := hw.fronti 0 rfl
          have hw := hw.fronti 5 rfl
          have hw := hw.fronti 5 rfl
          have hw := hw.fronti 5 rfl
          have hw := hw.fronti 5 rfl
          have hw := hw.fronti 5 rfl
          have hw := Ws.keep (L := [_, _, _, _, _, _]) hw
          have e := gown_setloc (g := g.pop.2) hfs i.a.toNat g.pop.1
          have hw := hw.reL 0 rfl (congrArg (blk bg) (congrArg (fun o => setIn o 0 [.int .i64 (IntKind.i64.wrap (g.s.at_ + 1))]) e.1))
          have hw := hw.reL 2 rfl e.2
          refine ⟨GSt.at_ (IntKind.i64.wrap (g.s.at_ + 1)) ⟨{ g.pop.2.s with frames := { f with loc := f.loc.set i.a.toNat g.pop.1 } :: r }, g.pop.2.fin, g.pop.2.over⟩, rfl, ⟨?_, ⟨hgp.inp, hgp.stk, by have := hgp.frs; rw [hfs] at this; exact this, fun ho => by have := hgp.frn ho; rw [hfs] at this; exact this, hgp.out, hgp.dat⟩⟩, hw⟩
          unfold doG doA
          simp only [hc0, hc1, hc3, Bool.false_eq_true, if_false, if_true]
          simp only [pop_pg]
          rw [show locG g.pop.2.pg = f.loc from loc_pu hfs, ← has_pg, whenF (show (g.pop.2.has i.a f.loc.length).pg.over = false from ho4), hH, putLoc_pg hfs]
          all_goals rfl
        ·
          have ho4 : (g.pop.2.has (i.a) f.loc.length).over = true := by simpa using hc4
          refine WC.skip ?_
          refine WE.block_normal ?_
          refine WE.then_normal ?_
          refine WC.region ?_
          refine WL.val (.inl rfl) rfl (yl_move rfl) ?_
          refine WL.val (.inl rfl) rfl (yl_move rfl) ?_
          refine WL.val (.inl rfl) rfl (yl_nil rfl) ?_
          refine WL.val (.inl rfl) rfl (yl_fa fo119_0 rfl) ?_
          refine WL.store 0 (.inl rfl) rfl rfl rfl sz3 rfl rfl rfl ?_
          refine WL.nil ?_
          refine WE.end0 rfl fun w' hw => ?_
          have hw := hw.fronti 5 rfl
          have hw := hw.fronti 5 rfl
          have hw := hw.fronti 5 rfl
          have hw := hw.fronti 5 rfl
          have hw := hw.fronti 5 rfl
          have hw := hw.fronti 5 rfl
          have hw := Ws.keep (L := [_, _, _, _, _, _]) hw
          refine ⟨GSt.at_ (IntKind.i64.wrap (g.s.at_ + 1)) (g.pop.2.has i.a f.loc.length), rfl, ⟨?_, GSt.good.at (hgp.has _ _) _⟩, hw⟩
          show setAt (IntKind.i64.wrap (g.s.at_ + 1)) (g.pop.2.has i.a f.loc.length).pg = _
          unfold doG doA
          simp only [hc0, hc1, hc3, Bool.false_eq_true, if_false, if_true]
          simp only [pop_pg]
          rw [show locG g.pop.2.pg = f.loc from loc_pu hfs, ← has_pg, whenT (show (g.pop.2.has i.a f.loc.length).pg.over = true from ho4)]
          all_goals rfl
      ·
        refine WC.seq ?_
        refine WC.region ?_
        refine WL.val (.inl rfl) rfl (yl_eq rfl rfl) ?_
        refine WL.val (.inl rfl) rfl (yl_assign rfl) ?_
        refine WL.nil ?_
        refine WE.then_normal ?_
        refine WC.cond rfl (fun hc5 => ?_) (fun hc5 => ?_)
        ·
          refine WC.seq ?_
          refine WC.region ?_
          refine WL.val (.inl rfl) rfl (yl_move rfl) ?_
          refine WL.val (.inl rfl) rfl (yl_fa fo65_1 rfl) ?_
          refine WL.val (.inl rfl) rfl (yl_ldk 0 rfl rfl rfl na3) ?_
          refine WL.front 6 rfl ?_
          refine WL.front 6 rfl ?_
          refine WL.front 6 rfl ?_
          refine WL.front 6 rfl ?_
          refine WL.front 6 rfl ?_
          refine WL.front 6 rfl ?_
          refine WL.callw (ι := Unit) [_, _, _, _, _, _] _ (.inl rfl) rfl en97 rfl rfl (fun _ => .bool (!(g.has (i.a) g.s.data.length).over)) (fun _ => (GSt.own bg (g.has (i.a) g.s.data.length))) (fun _ => True) [HI] (by simp) (fun w hw => (gdatum_any bg g HI i.a w hg hw).mono fun e w' h => ⟨(), h.1, trivial, h.2⟩) ?_
          intro _ _
          refine WL.nil ?_
          refine WE.then_normal ?_
          refine WC.cond rfl (fun hc6 => ?_) (fun hc6 => ?_)
          ·
            have ho6 : (g.has (i.a) g.s.data.length).over = false := by simpa using hc6
            obtain ⟨hob, hH⟩ := has_in ho6
            rw [hH]
            obtain ⟨x91, hx91⟩ : ∃ x, g.s.data[(i.a).toNat]? = some x := ⟨_, List.getElem?_eq_getElem (not_outside hob).2⟩
            refine WC.fact (p := 0 < g.s.data.length → ∃ b o, g.s.da = some ⟨b, o, none⟩) (fun w hw hp => osT_shape' hw 4 rfl hp) fun hda => ?_
            obtain ⟨db, dof, hdb⟩ := hda (by have := (not_outside hob).2; omega)
            refine WC.drawU (fun _ => true) [] [9] (.q false 0 (.q false 1 (.q false 2 (.q false 3 (.q true 4 (.q false 5 (.q true 6 (.q false 7 (.q true 8 .nil))))))))) mixed (by kernel_rfl) (fun _ _ _ d _ _ h => by cases d <;> exact h) ?_
            refine WU.q rfl (.inl rfl) rfl (fun _ h => h) (yl_move rfl) ?_
            refine WU.q rfl (.inl rfl) rfl (fun _ h => h) (yl_move rfl) ?_
            refine WU.q rfl (.inl rfl) rfl (fun _ h => h) (yl_nil rfl) ?_
            refine WU.q rfl (.inl rfl) rfl (fun _ h => h) (yl_fa fo119_3 rfl) ?_
            refine WU.q rfl (.inl rfl) rfl (fun _ h => h) (yl_ldk 0 rfl rfl rfl na50) ?_
            refine WU.q rfl (.inl rfl) rfl (fun _ h => h) (yl_fa fo65_1 rfl) ?_
            refine WU.q rfl (.inl rfl) rfl (fun _ h => h) (yl_ldk 6 rfl rfl rfl na3) ?_
            refine WU.q rfl (.inl rfl) rfl (fun _ h => h) (yl_iai es50 rfl rfl hdb (not_outside hob).1 (by have := (not_outside hob).2; omega)) ?_
            refine WU.q rfl (.inl rfl) rfl (fun _ h => h) (yl_ldT (y := x91) 4 i.a.toNat 0 rfl rfl hdb rfl iv_len hx91 rfl na3) ?_
            refine WU.nil (fun _ h => h) ?_
            refine WS.e rfl ?_
            refine WL.front 5 rfl ?_
            refine WL.front 5 rfl ?_
            refine WL.front 5 rfl ?_
            refine WL.front 5 rfl ?_
            refine WL.front 5 rfl ?_
            refine WL.front 5 rfl ?_
            refine WL.callw (ι := GSt) [_, _, _, _, _, _] _ (.inl rfl) rfl en94 rfl rfl (fun r => .tuple #[]) (fun r => (GSt.own bg r)) (fun r => (r.pg = pushG (x91) g.pg ∧ r.good HI)) [HI] (by simp) (fun w hw => gpush_any bg g HI (x91) w hg hw) ?_
            intro r92 hr92
            refine WL.nil ?_
            refine WE.toS ?_
            refine WS.nil ?_
            refine WE.block_normal ?_
            refine WE.then_normal ?_
            refine WC.region ?_
            refine WL.val (.inl rfl) rfl (yl_move rfl) ?_
            refine WL.val (.inl rfl) rfl (yl_move rfl) ?_
            refine WL.val (.inl rfl) rfl (yl_nil rfl) ?_
            refine WL.val (.inl rfl) rfl (yl_fa fo119_0 rfl) ?_
            refine WL.store 0 (.inl rfl) rfl rfl rfl sz3 rfl rfl rfl ?_
            refine WL.nil ?_
            refine WE.end0 rfl fun w' hw => ?_
            have hw := hw.fronti 5 rfl
            have hw := hw.fronti 5 rfl
            have hw := hw.fronti 5 rfl
            have hw := hw.fronti 5 rfl
            have hw := hw.fronti 5 rfl
            have hw := hw.fronti 5 rfl
            have hw := Ws.keep (L := [_, _, _, _, _, _]) hw
            refine ⟨GSt.at_ (IntKind.i64.wrap (g.s.at_ + 1)) r92, rfl, ⟨?_, GSt.good.at hr92.2 _⟩, hw⟩
            show setAt (IntKind.i64.wrap (g.s.at_ + 1)) r92.pg = _
            unfold doG doA
            simp only [hc0, hc1, hc3, hc5, Bool.false_eq_true, if_false, if_true]
            rw [show g.pg.m.data.length = g.s.data.length from rfl, ← has_pg, whenF (show (g.has i.a g.s.data.length).pg.over = false from ho6), hH, show g.pg.m.data[i.a.toNat]? = some x91 from hx91, hr92.1]
            all_goals rfl
          ·
            have ho6 : (g.has (i.a) g.s.data.length).over = true := by simpa using hc6
            refine WC.skip ?_
            refine WE.block_normal ?_
            refine WE.then_normal ?_
            refine WC.region ?_
            refine WL.val (.inl rfl) rfl (yl_move rfl) ?_
            refine WL.val (.inl rfl) rfl (yl_move rfl) ?_
            refine WL.val (.inl rfl) rfl (yl_nil rfl) ?_
            refine WL.val (.inl rfl) rfl (yl_fa fo119_0 rfl) ?_
            refine WL.store 0 (.inl rfl) rfl rfl rfl sz3 rfl rfl rfl ?_
            refine WL.nil ?_
            refine WE.end0 rfl fun w' hw => ?_
            have hw := hw.fronti 5 rfl
            have hw := hw.fronti 5 rfl
            have hw := hw.fronti 5 rfl
            have hw := hw.fronti 5 rfl
            have hw := hw.fronti 5 rfl
            have hw := hw.fronti 5 rfl
            have hw := Ws.keep (L := [_, _, _, _, _, _]) hw
            refine ⟨GSt.at_ (IntKind.i64.wrap (g.s.at_ + 1)) (g.has i.a g.s.data.length), rfl, ⟨?_, GSt.good.at (hg.has _ _) _⟩, hw⟩
            show setAt (IntKind.i64.wrap (g.s.at_ + 1)) (g.has i.a g.s.data.length).pg = _
            unfold doG doA
            simp only [hc0, hc1, hc3, hc5, Bool.false_eq_true, if_false, if_true]
            rw [show g.pg.m.data.length = g.s.data.length from rfl, ← has_pg, whenT (show (g.has i.a g.s.data.length).pg.over = true from ho6)]
            all_goals rfl
        ·
          refine WC.seq ?_
          refine WC.region ?_
          refine WL.val (.inl rfl) rfl (yl_eq rfl rfl) ?_
          refine WL.val (.inl rfl) rfl (yl_assign rfl) ?_
          refine WL.nil ?_
          refine WE.then_normal ?_
          refine WC.cond rfl (fun hc7 => ?_) (fun hc7 => ?_)
          ·
            refine WC.seq ?_
            refine WC.region ?_
            refine WL.val (.inl rfl) rfl (yl_move rfl) ?_
            refine WL.front 6 rfl ?_
            refine WL.front 6 rfl ?_
            refine WL.front 6 rfl ?_
            refine WL.front 6 rfl ?_
            refine WL.front 6 rfl ?_
            refine WL.front 6 rfl ?_
            refine WL.callw (ι := Unit) [_, _, _, _, _, _] _ (.inl rfl) rfl en96 rfl rfl (fun _ => .int .i64 g.pop.1) (fun _ => (GSt.own bg g.pop.2)) (fun _ => True) [HI] (by simp) (fun w hw => (gpop_any bg g HI  w hg hw).mono fun e w' h => ⟨(), h.1, trivial, h.2⟩) ?_
            intro _ _
            refine WL.val (.inl rfl) rfl (yl_assign rfl) ?_
            refine WL.nil ?_
            refine WE.then_normal ?_
            refine WC.seq ?_
            refine WC.region ?_
            refine WL.val (.inl rfl) rfl (yl_move rfl) ?_
            refine WL.val (.inl rfl) rfl (yl_fa fo65_1 rfl) ?_
            refine WL.val (.inl rfl) rfl (yl_ldk 6 rfl rfl rfl na3) ?_
            refine WL.front 5 rfl ?_
            refine WL.front 5 rfl ?_
            refine WL.front 5 rfl ?_
            refine WL.front 5 rfl ?_
            refine WL.front 5 rfl ?_
            refine WL.front 5 rfl ?_
            refine WL.callw (ι := Unit) [_, _, _, _, _, _] _ (.inl rfl) rfl en97 rfl rfl (fun _ => .bool (!(g.pop.2.has (i.a) g.pop.2.s.data.length).over)) (fun _ => (GSt.own bg (g.pop.2.has (i.a) g.pop.2.s.data.length))) (fun _ => True) [HI] (by simp) (fun w hw => (gdatum_any bg g.pop.2 HI i.a w hgp hw).mono fun e w' h => ⟨(), h.1, trivial, h.2⟩) ?_
            intro _ _
            refine WL.nil ?_
            refine WE.then_normal ?_
            refine WC.cond rfl (fun hc8 => ?_) (fun hc8 => ?_)
            ·
              have ho8 : (g.pop.2.has (i.a) g.pop.2.s.data.length).over = false := by simpa using hc8
              obtain ⟨hob, hH⟩ := has_in ho8
              rw [hH]
              obtain ⟨x108, hx108⟩ : ∃ x, g.pop.2.s.data[(i.a).toNat]? = some x := ⟨_, List.getElem?_eq_getElem (not_outside hob).2⟩
              refine WC.fact (p := 0 < g.pop.2.s.data.length → ∃ b o, g.pop.2.s.da = some ⟨b, o, none⟩) (fun w hw hp => osT_shape' hw 4 rfl hp) fun hda => ?_
              obtain ⟨db, dof, hdb⟩ := hda (by have := (not_outside hob).2; omega)
              refine WC.drawU (fun _ => true) [] [8] (.q false 0 (.q false 1 (.q false 2 (.q true 3 (.q false 4 (.q true 5 (.q false 6 (.q false 7 .nil)))))))) mixed (by kernel_rfl) (fun _ _ _ d _ _ h => by cases d <;> exact h) ?_
              refine WU.q rfl (.inl rfl) rfl (fun _ h => h) (yl_move rfl) ?_
              refine WU.q rfl (.inl rfl) rfl (fun _ h => h) (yl_nil rfl) ?_
              refine WU.q rfl (.inl rfl) rfl (fun _ h => h) (yl_fa fo119_3 rfl) ?_
              refine WU.q rfl (.inl rfl) rfl (fun _ h => h) (yl_ldk 0 rfl rfl rfl na50) ?_
              refine WU.q rfl (.inl rfl) rfl (fun _ h => h) (yl_fa fo65_1 rfl) ?_
              refine WU.q rfl (.inl rfl) rfl (fun _ h => h) (yl_ldk 6 rfl rfl rfl na3) ?_
              refine WU.q rfl (.inl rfl) rfl (fun _ h => h) (yl_move rfl) ?_
              refine WU.q rfl (.inl rfl) rfl (fun _ h => h) (yl_iai es50 rfl rfl hdb (not_outside hob).1 (by have := (not_outside hob).2; omega)) ?_
              refine WU.nil (fun _ h => h) ?_
              refine WS.e rfl ?_
              refine WL.storeT (y := x108) 4 i.a.toNat 0 g.pop.1 (.inl rfl) rfl rfl rfl hdb rfl iv_len hx108 sz3 rfl rfl (by decide) rfl ?_
              refine WL.nil ?_
              refine WE.toS ?_
              refine WS.nil ?_
              refine WE.block_normal ?_
              refine WE.then_normal ?_
              refine WC.region ?_
              refine WL.val (.inl rfl) rfl (yl_move rfl) ?_
              refine WL.val (.inl rfl) rfl (yl_move rfl) ?_
              refine WL.val (.inl rfl) rfl (yl_nil rfl) ?_
              refine WL.val (.inl rfl) rfl (yl_fa fo119_0 rfl) ?_
              refine WL.store 0 (.inl rfl) rfl rfl rfl sz3 rfl rfl rfl ?_
              refine WL.nil ?_
              refine WE.end0 rfl fun w' hw => ?_
              have hw := hw.fronti 5 rfl
              have hw := hw.fronti 5 rfl
              have hw := hw.fronti 5 rfl
              have hw := hw.fronti 5 rfl
              have hw := hw.fronti 5 rfl
              have hw := hw.fronti 5 rfl
              have hw := Ws.keep (L := [_, _, _, _, _, _]) hw
              have hw := hw.reL 0 rfl (congrArg (blk bg) (congrArg (fun o => setIn o 0 [.int .i64 (IntKind.i64.wrap (g.s.at_ + 1))]) (gown_setdat g.pop.2 (i.a).toNat (g.pop.1))))
              refine ⟨GSt.at_ (IntKind.i64.wrap (g.s.at_ + 1)) ⟨{ g.pop.2.s with data := g.pop.2.s.data.set (i.a).toNat (g.pop.1) }, g.pop.2.fin, g.pop.2.over⟩, rfl, ⟨?_, ⟨hgp.inp, hgp.stk, hgp.frs, hgp.frn, hgp.out, by show (g.pop.2.s.data.set _ _).length ≤ 512; rw [List.length_set]; exact hgp.dat⟩⟩, hw⟩
              unfold doG doA
              simp only [hc0, hc1, hc3, hc5, hc7, Bool.false_eq_true, if_false, if_true]
              simp only [pop_pg]
              rw [show (g.pop.2).pg.m.data.length = g.pop.2.s.data.length from rfl, ← has_pg, whenF (show (g.pop.2.has (i.a) g.pop.2.s.data.length).pg.over = false from ho8), hH]
              all_goals rfl
            ·
              have ho8 : (g.pop.2.has (i.a) g.pop.2.s.data.length).over = true := by simpa using hc8
              refine WC.skip ?_
              refine WE.block_normal ?_
              refine WE.then_normal ?_
              refine WC.region ?_
              refine WL.val (.inl rfl) rfl (yl_move rfl) ?_
              refine WL.val (.inl rfl) rfl (yl_move rfl) ?_
              refine WL.val (.inl rfl) rfl (yl_nil rfl) ?_
              refine WL.val (.inl rfl) rfl (yl_fa fo119_0 rfl) ?_
              refine WL.store 0 (.inl rfl) rfl rfl rfl sz3 rfl rfl rfl ?_
              refine WL.nil ?_
              refine WE.end0 rfl fun w' hw => ?_
              have hw := hw.fronti 5 rfl
              have hw := hw.fronti 5 rfl
              have hw := hw.fronti 5 rfl
              have hw := hw.fronti 5 rfl
              have hw := hw.fronti 5 rfl
              have hw := hw.fronti 5 rfl
              have hw := Ws.keep (L := [_, _, _, _, _, _]) hw
              refine ⟨GSt.at_ (IntKind.i64.wrap (g.s.at_ + 1)) (g.pop.2.has (i.a) g.pop.2.s.data.length), rfl, ⟨?_, GSt.good.at (hgp.has _ _) _⟩, hw⟩
              show setAt (IntKind.i64.wrap (g.s.at_ + 1)) (g.pop.2.has (i.a) g.pop.2.s.data.length).pg = _
              unfold doG doA
              simp only [hc0, hc1, hc3, hc5, hc7, Bool.false_eq_true, if_false, if_true]
              simp only [pop_pg]
              rw [show (g.pop.2).pg.m.data.length = g.pop.2.s.data.length from rfl, ← has_pg, whenT (show (g.pop.2.has (i.a) g.pop.2.s.data.length).pg.over = true from ho8)]
              all_goals rfl
          ·
            refine WC.seq ?_
            refine WC.region ?_
            refine WL.val (.inl rfl) rfl (yl_eq rfl rfl) ?_
            refine WL.val (.inl rfl) rfl (yl_assign rfl) ?_
            refine WL.nil ?_
            refine WE.then_normal ?_
            refine WC.cond rfl (fun hc9 => ?_) (fun hc9 => ?_)
            ·
              refine WC.seq ?_
              refine WC.region ?_
              refine WL.val (.inl rfl) rfl (yl_move rfl) ?_
              refine WL.front 6 rfl ?_
              refine WL.front 6 rfl ?_
              refine WL.front 6 rfl ?_
              refine WL.front 6 rfl ?_
              refine WL.front 6 rfl ?_
              refine WL.front 6 rfl ?_
              refine WL.callw (ι := Unit) [_, _, _, _, _, _] _ (.inl rfl) rfl en96 rfl rfl (fun _ => .int .i64 g.pop.1) (fun _ => (GSt.own bg g.pop.2)) (fun _ => True) [HI] (by simp) (fun w hw => (gpop_any bg g HI  w hg hw).mono fun e w' h => ⟨(), h.1, trivial, h.2⟩) ?_
              intro _ _
              refine WL.val (.inl rfl) rfl (yl_assign rfl) ?_
              refine WL.nil ?_
              refine WE.then_normal ?_
              refine WC.seq ?_
              refine WC.seq ?_
              refine WC.region ?_
              refine WL.val (.inl rfl) rfl (yl_move rfl) ?_
              refine WL.val (.inl rfl) rfl (yl_lt rfl rfl) ?_
              refine WL.val (.inl rfl) rfl (yl_move rfl) ?_
              apply WL.or 4 rfl rfl rfl rfl (.inl rfl) rfl rfl rfl rfl rfl
              ·
                intro hg0
                refine WL.val (.inr ⟨_, _, _, rfl, rfl, rfl⟩) rfl (yl_move rfl) ?_
                refine WL.val (.inr ⟨_, _, _, rfl, rfl, rfl⟩) rfl (yl_fa fo65_2 rfl) ?_
                refine WL.val (.inr ⟨_, _, _, rfl, rfl, rfl⟩) rfl (yl_ldk 6 rfl rfl rfl na3) ?_
                refine WL.val (.inr ⟨_, _, _, rfl, rfl, rfl⟩) rfl (yl_ge rfl rfl) ?_
                exact Got.intro 4 rfl rfl rfl
              refine WL.nil ?_
              refine WE.then_normal ?_
              refine WC.cond rfl (fun hc10 => ?_) (fun hc10 => ?_)
              ·
                refine WC.region ?_
                refine WL.val (.inl rfl) rfl (yl_move rfl) ?_
                refine WL.front 5 rfl ?_
                refine WL.front 5 rfl ?_
                refine WL.front 5 rfl ?_
                refine WL.front 5 rfl ?_
                refine WL.front 5 rfl ?_
                refine WL.front 5 rfl ?_
                refine WL.callw (ι := Unit) [_, _, _, _, _, _] _ (.inl rfl) rfl en66 rfl rfl (fun _ => .tuple #[]) (fun _ => (GSt.own bg (g.pop.2.stp 2))) (fun _ => True) [HI] (by simp) (fun w hw => (gstop_any bg g.pop.2 HI 2 w hgp hw).mono fun e w' h => ⟨(), h.1, trivial, h.2⟩) ?_
                intro _ _
                refine WL.nil ?_
                refine WE.then_normal ?_
                refine WC.region ?_
                refine WL.val (.inl rfl) rfl (yl_move rfl) ?_
                refine WL.val (.inl rfl) rfl (yl_fa fo65_1 rfl) ?_
                refine WL.val (.inl rfl) rfl (yl_ldk 6 rfl rfl rfl na3) ?_
                refine WL.val (.inl rfl) rfl (yl_move rfl) ?_
                refine WL.val (.inl rfl) rfl (yl_addw rfl rfl) ?_
                refine WL.front 5 rfl ?_
                refine WL.front 5 rfl ?_
                refine WL.front 5 rfl ?_
                refine WL.front 5 rfl ?_
                refine WL.front 5 rfl ?_
                refine WL.front 5 rfl ?_
                refine WL.callw (ι := GSt) [_, _, _, _, _, _] _ (.inl rfl) rfl en94 rfl rfl (fun r => .tuple #[]) (fun r => (GSt.own bg r)) (fun r => (r.pg = pushG (IntKind.i64.wrap (i.a + g.pop.1)) (g.pop.2.stp 2).pg ∧ r.good HI)) [HI] (by simp) (fun w hw => gpush_any bg (g.pop.2.stp 2) HI (IntKind.i64.wrap (i.a + g.pop.1)) w (hgp.stp 2) hw) ?_
                intro r128 hr128
                refine WL.nil ?_
                refine WE.block_normal ?_
                refine WE.then_normal ?_
                refine WC.region ?_
                refine WL.val (.inl rfl) rfl (yl_move rfl) ?_
                refine WL.val (.inl rfl) rfl (yl_move rfl) ?_
                refine WL.val (.inl rfl) rfl (yl_nil rfl) ?_
                refine WL.val (.inl rfl) rfl (yl_fa fo119_0 rfl) ?_
                refine WL.store 0 (.inl rfl) rfl rfl rfl sz3 rfl rfl rfl ?_
                refine WL.nil ?_
                refine WE.end0 rfl fun w' hw => ?_
                have hw := hw.fronti 5 rfl
                have hw := hw.fronti 5 rfl
                have hw := hw.fronti 5 rfl
                have hw := hw.fronti 5 rfl
                have hw := hw.fronti 5 rfl
                have hw := hw.fronti 5 rfl
                have hw := Ws.keep (L := [_, _, _, _, _, _]) hw
                refine ⟨GSt.at_ (IntKind.i64.wrap (g.s.at_ + 1)) r128, rfl, ⟨?_, GSt.good.at hr128.2 _⟩, hw⟩
                show setAt (IntKind.i64.wrap (g.s.at_ + 1)) r128.pg = _
                unfold doG doA
                simp only [hc0, hc1, hc3, hc5, hc7, hc9, Bool.false_eq_true, if_false, if_true]
                simp only [pop_pg]
                rw [show (if (decide (g.pop.1 < 0) || decide (i.b ≤ g.pop.1)) = true then stopG 2 g.pop.2.pg else g.pop.2.pg) = (g.pop.2.stp 2).pg by rw [if_pos hc10, stp_pg], hr128.1]
                all_goals rfl
              ·
                refine WC.skip ?_
                refine WE.then_normal ?_
                refine WC.region ?_
                refine WL.val (.inl rfl) rfl (yl_move rfl) ?_
                refine WL.val (.inl rfl) rfl (yl_fa fo65_1 rfl) ?_
                refine WL.val (.inl rfl) rfl (yl_ldk 6 rfl rfl rfl na3) ?_
                refine WL.val (.inl rfl) rfl (yl_move rfl) ?_
                refine WL.val (.inl rfl) rfl (yl_addw rfl rfl) ?_
                refine WL.front 5 rfl ?_
                refine WL.front 5 rfl ?_
                refine WL.front 5 rfl ?_
                refine WL.front 5 rfl ?_
                refine WL.front 5 rfl ?_
                refine WL.front 5 rfl ?_
                refine WL.callw (ι := GSt) [_, _, _, _, _, _] _ (.inl rfl) rfl en94 rfl rfl (fun r => .tuple #[]) (fun r => (GSt.own bg r)) (fun r => (r.pg = pushG (IntKind.i64.wrap (i.a + g.pop.1)) g.pop.2.pg ∧ r.good HI)) [HI] (by simp) (fun w hw => gpush_any bg g.pop.2 HI (IntKind.i64.wrap (i.a + g.pop.1)) w hgp hw) ?_
                intro r128 hr128
                refine WL.nil ?_
                refine WE.block_normal ?_
                refine WE.then_normal ?_
                refine WC.region ?_
                refine WL.val (.inl rfl) rfl (yl_move rfl) ?_
                refine WL.val (.inl rfl) rfl (yl_move rfl) ?_
                refine WL.val (.inl rfl) rfl (yl_nil rfl) ?_
                refine WL.val (.inl rfl) rfl (yl_fa fo119_0 rfl) ?_
                refine WL.store 0 (.inl rfl) rfl rfl rfl sz3 rfl rfl rfl ?_
                refine WL.nil ?_
                refine WE.end0 rfl fun w' hw => ?_
                have hw := hw.fronti 5 rfl
                have hw := hw.fronti 5 rfl
                have hw := hw.fronti 5 rfl
                have hw := hw.fronti 5 rfl
                have hw := hw.fronti 5 rfl
                have hw := hw.fronti 5 rfl
                have hw := Ws.keep (L := [_, _, _, _, _, _]) hw
                refine ⟨GSt.at_ (IntKind.i64.wrap (g.s.at_ + 1)) r128, rfl, ⟨?_, GSt.good.at hr128.2 _⟩, hw⟩
                show setAt (IntKind.i64.wrap (g.s.at_ + 1)) r128.pg = _
                unfold doG doA
                simp only [hc0, hc1, hc3, hc5, hc7, hc9, Bool.false_eq_true, if_false, if_true]
                simp only [pop_pg]
                rw [show (if (decide (g.pop.1 < 0) || decide (i.b ≤ g.pop.1)) = true then stopG 2 g.pop.2.pg else g.pop.2.pg) = g.pop.2.pg by rw [hc10, if_neg (by simp)], hr128.1]
                all_goals rfl
            ·
              refine WC.seq ?_
              refine WC.region ?_
              refine WL.val (.inl rfl) rfl (yl_eq rfl rfl) ?_
              refine WL.val (.inl rfl) rfl (yl_assign rfl) ?_
              refine WL.nil ?_
              refine WE.then_normal ?_
              refine WC.cond rfl (fun hc11 => ?_) (fun hc11 => ?_)
              ·
                refine WC.seq ?_
                refine WC.region ?_
                refine WL.val (.inl rfl) rfl (yl_move rfl) ?_
                refine WL.front 6 rfl ?_
                refine WL.front 6 rfl ?_
                refine WL.front 6 rfl ?_
                refine WL.front 6 rfl ?_
                refine WL.front 6 rfl ?_
                refine WL.front 6 rfl ?_
                refine WL.callw (ι := Unit) [_, _, _, _, _, _] _ (.inl rfl) rfl en96 rfl rfl (fun _ => .int .i64 g.pop.1) (fun _ => (GSt.own bg g.pop.2)) (fun _ => True) [HI] (by simp) (fun w hw => (gpop_any bg g HI  w hg hw).mono fun e w' h => ⟨(), h.1, trivial, h.2⟩) ?_
                intro _ _
                refine WL.val (.inl rfl) rfl (yl_assign rfl) ?_
                refine WL.nil ?_
                refine WE.then_normal ?_
                refine WC.seq ?_
                refine WC.region ?_
                refine WL.val (.inl rfl) rfl (yl_move rfl) ?_
                refine WL.val (.inl rfl) rfl (yl_move rfl) ?_
                refine WL.front 5 rfl ?_
                refine WL.front 5 rfl ?_
                refine WL.front 5 rfl ?_
                refine WL.front 5 rfl ?_
                refine WL.front 5 rfl ?_
                refine WL.front 5 rfl ?_
                refine WL.callw (ι := Unit) [_, _, _, _, _, _] _ (.inl rfl) rfl en97 rfl rfl (fun _ => .bool (!(g.pop.2.has (g.pop.1) g.pop.2.s.data.length).over)) (fun _ => (GSt.own bg (g.pop.2.has (g.pop.1) g.pop.2.s.data.length))) (fun _ => True) [HI] (by simp) (fun w hw => (gdatum_any bg g.pop.2 HI g.pop.1 w hgp hw).mono fun e w' h => ⟨(), h.1, trivial, h.2⟩) ?_
                intro _ _
                refine WL.nil ?_
                refine WE.then_normal ?_
                refine WC.cond rfl (fun hc12 => ?_) (fun hc12 => ?_)
                ·
                  have ho12 : (g.pop.2.has (g.pop.1) g.pop.2.s.data.length).over = false := by simpa using hc12
                  obtain ⟨hob, hH⟩ := has_in ho12
                  rw [hH]
                  obtain ⟨x143, hx143⟩ : ∃ x, g.pop.2.s.data[(g.pop.1).toNat]? = some x := ⟨_, List.getElem?_eq_getElem (not_outside hob).2⟩
                  refine WC.fact (p := 0 < g.pop.2.s.data.length → ∃ b o, g.pop.2.s.da = some ⟨b, o, none⟩) (fun w hw hp => osT_shape' hw 4 rfl hp) fun hda => ?_
                  obtain ⟨db, dof, hdb⟩ := hda (by have := (not_outside hob).2; omega)
                  refine WC.region ?_
                  refine WL.val (.inl rfl) rfl (yl_move rfl) ?_
                  refine WL.val (.inl rfl) rfl (yl_move rfl) ?_
                  refine WL.val (.inl rfl) rfl (yl_nil rfl) ?_
                  refine WL.val (.inl rfl) rfl (yl_fa fo119_3 rfl) ?_
                  refine WL.val (.inl rfl) rfl (yl_ldk 0 rfl rfl rfl na50) ?_
                  refine WL.val (.inl rfl) rfl (yl_move rfl) ?_
                  refine WL.val (.inl rfl) rfl (yl_iai es50 rfl rfl hdb (not_outside hob).1 (by have := (not_outside hob).2; omega)) ?_
                  refine WL.val (.inl rfl) rfl (yl_ldT (y := x143) 4 g.pop.1.toNat 0 rfl rfl hdb rfl iv_len hx143 rfl na3) ?_
                  refine WL.front 5 rfl ?_
                  refine WL.front 5 rfl ?_
                  refine WL.front 5 rfl ?_
                  refine WL.front 5 rfl ?_
                  refine WL.front 5 rfl ?_
                  refine WL.front 5 rfl ?_
                  refine WL.callw (ι := GSt) [_, _, _, _, _, _] _ (.inl rfl) rfl en94 rfl rfl (fun r => .tuple #[]) (fun r => (GSt.own bg r)) (fun r => (r.pg = pushG (x143) g.pop.2.pg ∧ r.good HI)) [HI] (by simp) (fun w hw => gpush_any bg g.pop.2 HI (x143) w hgp hw) ?_
                  intro r144 hr144
                  refine WL.nil ?_
                  refine WE.block_normal ?_
                  refine WE.then_normal ?_
                  refine WC.region ?_
                  refine WL.val (.inl rfl) rfl (yl_move rfl) ?_
                  refine WL.val (.inl rfl) rfl (yl_move rfl) ?_
                  refine WL.val (.inl rfl) rfl (yl_nil rfl) ?_
                  refine WL.val (.inl rfl) rfl (yl_fa fo119_0 rfl) ?_
                  refine WL.store 0 (.inl rfl) rfl rfl rfl sz3 rfl rfl rfl ?_
                  refine WL.nil ?_
                  refine WE.end0 rfl fun w' hw => ?_
                  have hw := hw.fronti 5 rfl
                  have hw := hw.fronti 5 rfl
                  have hw := hw.fronti 5 rfl
                  have hw := hw.fronti 5 rfl
                  have hw := hw.fronti 5 rfl
                  have hw := hw.fronti 5 rfl
                  have hw := Ws.keep (L := [_, _, _, _, _, _]) hw
                  refine ⟨GSt.at_ (IntKind.i64.wrap (g.s.at_ + 1)) r144, rfl, ⟨?_, GSt.good.at hr144.2 _⟩, hw⟩
                  show setAt (IntKind.i64.wrap (g.s.at_ + 1)) r144.pg = _
                  unfold doG doA
                  simp only [hc0, hc1, hc3, hc5, hc7, hc9, hc11, Bool.false_eq_true, if_false, if_true]
                  simp only [pop_pg]
                  rw [show (g.pop.2).pg.m.data.length = g.pop.2.s.data.length from rfl, ← has_pg, whenF (show (g.pop.2.has g.pop.1 g.pop.2.s.data.length).pg.over = false from ho12), hH, show g.pop.2.pg.m.data[g.pop.1.toNat]? = some x143 from hx143, hr144.1]
                  all_goals rfl
                ·
                  have ho12 : (g.pop.2.has (g.pop.1) g.pop.2.s.data.length).over = true := by simpa using hc12
                  refine WC.skip ?_
                  refine WE.block_normal ?_
                  refine WE.then_normal ?_
                  refine WC.region ?_
                  refine WL.val (.inl rfl) rfl (yl_move rfl) ?_
                  refine WL.val (.inl rfl) rfl (yl_move rfl) ?_
                  refine WL.val (.inl rfl) rfl (yl_nil rfl) ?_
                  refine WL.val (.inl rfl) rfl (yl_fa fo119_0 rfl) ?_
                  refine WL.store 0 (.inl rfl) rfl rfl rfl sz3 rfl rfl rfl ?_
                  refine WL.nil ?_
                  refine WE.end0 rfl fun w' hw => ?_
                  have hw := hw.fronti 5 rfl
                  have hw := hw.fronti 5 rfl
                  have hw := hw.fronti 5 rfl
                  have hw := hw.fronti 5 rfl
                  have hw := hw.fronti 5 rfl
                  have hw := hw.fronti 5 rfl
                  have hw := Ws.keep (L := [_, _, _, _, _, _]) hw
                  refine ⟨GSt.at_ (IntKind.i64.wrap (g.s.at_ + 1)) (g.pop.2.has g.pop.1 g.pop.2.s.data.length), rfl, ⟨?_, GSt.good.at (hgp.has _ _) _⟩, hw⟩
                  show setAt (IntKind.i64.wrap (g.s.at_ + 1)) (g.pop.2.has g.pop.1 g.pop.2.s.data.length).pg = _
                  unfold doG doA
                  simp only [hc0, hc1, hc3, hc5, hc7, hc9, hc11, Bool.false_eq_true, if_false, if_true]
                  simp only [pop_pg]
                  rw [show (g.pop.2).pg.m.data.length = g.pop.2.s.data.length from rfl, ← has_pg, whenT (show (g.pop.2.has g.pop.1 g.pop.2.s.data.length).pg.over = true from ho12)]
                  all_goals rfl
              ·
                refine WC.seq ?_
                refine WC.region ?_
                refine WL.val (.inl rfl) rfl (yl_eq rfl rfl) ?_
                refine WL.val (.inl rfl) rfl (yl_assign rfl) ?_
                refine WL.nil ?_
                refine WE.then_normal ?_
                refine WC.cond rfl (fun hc13 => ?_) (fun hc13 => ?_)
                ·
                  refine WC.seq ?_
                  refine WC.region ?_
                  refine WL.val (.inl rfl) rfl (yl_move rfl) ?_
                  refine WL.front 6 rfl ?_
                  refine WL.front 6 rfl ?_
                  refine WL.front 6 rfl ?_
                  refine WL.front 6 rfl ?_
                  refine WL.front 6 rfl ?_
                  refine WL.front 6 rfl ?_
                  refine WL.callw (ι := Unit) [_, _, _, _, _, _] _ (.inl rfl) rfl en96 rfl rfl (fun _ => .int .i64 g.pop.1) (fun _ => (GSt.own bg g.pop.2)) (fun _ => True) [HI] (by simp) (fun w hw => (gpop_any bg g HI  w hg hw).mono fun e w' h => ⟨(), h.1, trivial, h.2⟩) ?_
                  intro _ _
                  refine WL.val (.inl rfl) rfl (yl_assign rfl) ?_
                  refine WL.nil ?_
                  refine WE.then_normal ?_
                  refine WC.seq ?_
                  refine WC.region ?_
                  refine WL.val (.inl rfl) rfl (yl_move rfl) ?_
                  refine WL.front 5 rfl ?_
                  refine WL.front 5 rfl ?_
                  refine WL.front 5 rfl ?_
                  refine WL.front 5 rfl ?_
                  refine WL.front 5 rfl ?_
                  refine WL.front 5 rfl ?_
                  refine WL.callw (ι := Unit) [_, _, _, _, _, _] _ (.inl rfl) rfl en96 rfl rfl (fun _ => .int .i64 g.pop.2.pop.1) (fun _ => (GSt.own bg g.pop.2.pop.2)) (fun _ => True) [HI] (by simp) (fun w hw => (gpop_any bg g.pop.2 HI  w hgp hw).mono fun e w' h => ⟨(), h.1, trivial, h.2⟩) ?_
                  intro _ _
                  refine WL.val (.inl rfl) rfl (yl_assign rfl) ?_
                  refine WL.nil ?_
                  refine WE.then_normal ?_
                  refine WC.seq ?_
                  refine WC.region ?_
                  refine WL.val (.inl rfl) rfl (yl_move rfl) ?_
                  refine WL.val (.inl rfl) rfl (yl_move rfl) ?_
                  refine WL.front 5 rfl ?_
                  refine WL.front 5 rfl ?_
                  refine WL.front 5 rfl ?_
                  refine WL.front 5 rfl ?_
                  refine WL.front 5 rfl ?_
                  refine WL.front 5 rfl ?_
                  refine WL.callw (ι := Unit) [_, _, _, _, _, _] _ (.inl rfl) rfl en97 rfl rfl (fun _ => .bool (!(g.pop.2.pop.2.has (g.pop.2.pop.1) g.pop.2.pop.2.s.data.length).over)) (fun _ => (GSt.own bg (g.pop.2.pop.2.has (g.pop.2.pop.1) g.pop.2.pop.2.s.data.length))) (fun _ => True) [HI] (by simp) (fun w hw => (gdatum_any bg g.pop.2.pop.2 HI g.pop.2.pop.1 w hgp2 hw).mono fun e w' h => ⟨(), h.1, trivial, h.2⟩) ?_
                  intro _ _
                  refine WL.nil ?_
                  refine WE.then_normal ?_
                  refine WC.cond rfl (fun hc14 => ?_) (fun hc14 => ?_)
                  ·
                    have ho14 : (g.pop.2.pop.2.has (g.pop.2.pop.1) g.pop.2.pop.2.s.data.length).over = false := by simpa using hc14
                    obtain ⟨hob, hH⟩ := has_in ho14
                    rw [hH]
                    obtain ⟨x160, hx160⟩ : ∃ x, g.pop.2.pop.2.s.data[(g.pop.2.pop.1).toNat]? = some x := ⟨_, List.getElem?_eq_getElem (not_outside hob).2⟩
                    refine WC.fact (p := 0 < g.pop.2.pop.2.s.data.length → ∃ b o, g.pop.2.pop.2.s.da = some ⟨b, o, none⟩) (fun w hw hp => osT_shape' hw 4 rfl hp) fun hda => ?_
                    obtain ⟨db, dof, hdb⟩ := hda (by have := (not_outside hob).2; omega)
                    refine WC.region ?_
                    refine WL.val (.inl rfl) rfl (yl_move rfl) ?_
                    refine WL.val (.inl rfl) rfl (yl_nil rfl) ?_
                    refine WL.val (.inl rfl) rfl (yl_fa fo119_3 rfl) ?_
                    refine WL.val (.inl rfl) rfl (yl_ldk 0 rfl rfl rfl na50) ?_
                    refine WL.val (.inl rfl) rfl (yl_move rfl) ?_
                    refine WL.val (.inl rfl) rfl (yl_move rfl) ?_
                    refine WL.val (.inl rfl) rfl (yl_iai es50 rfl rfl hdb (not_outside hob).1 (by have := (not_outside hob).2; omega)) ?_
                    refine WL.storeT (y := x160) 4 g.pop.2.pop.1.toNat 0 g.pop.1 (.inl rfl) rfl rfl rfl hdb rfl iv_len hx160 sz3 rfl rfl (by decide) rfl ?_
                    refine WL.nil ?_
                    refine WE.block_normal ?_
                    refine WE.then_normal ?_
                    refine WC.region ?_
                    refine WL.val (.inl rfl) rfl (yl_move rfl) ?_
                    refine WL.val (.inl rfl) rfl (yl_move rfl) ?_
                    refine WL.val (.inl rfl) rfl (yl_nil rfl) ?_
                    refine WL.val (.inl rfl) rfl (yl_fa fo119_0 rfl) ?_
                    refine WL.store 0 (.inl rfl) rfl rfl rfl sz3 rfl rfl rfl ?_
                    refine WL.nil ?_
                    refine WE.end0 rfl fun w' hw => ?_
                    have hw := hw.fronti 5 rfl
                    have hw := hw.fronti 5 rfl
                    have hw := hw.fronti 5 rfl
                    have hw := hw.fronti 5 rfl
                    have hw := hw.fronti 5 rfl
                    have hw := hw.fronti 5 rfl
                    have hw := Ws.keep (L := [_, _, _, _, _, _]) hw
                    have hw := hw.reL 0 rfl (congrArg (blk bg) (congrArg (fun o => setIn o 0 [.int .i64 (IntKind.i64.wrap (g.s.at_ + 1))]) (gown_setdat g.pop.2.pop.2 (g.pop.2.pop.1).toNat (g.pop.1))))
                    refine ⟨GSt.at_ (IntKind.i64.wrap (g.s.at_ + 1)) ⟨{ g.pop.2.pop.2.s with data := g.pop.2.pop.2.s.data.set (g.pop.2.pop.1).toNat (g.pop.1) }, g.pop.2.pop.2.fin, g.pop.2.pop.2.over⟩, rfl, ⟨?_, ⟨hgp2.inp, hgp2.stk, hgp2.frs, hgp2.frn, hgp2.out, by show (g.pop.2.pop.2.s.data.set _ _).length ≤ 512; rw [List.length_set]; exact hgp2.dat⟩⟩, hw⟩
                    unfold doG doA
                    simp only [hc0, hc1, hc3, hc5, hc7, hc9, hc11, hc13, Bool.false_eq_true, if_false, if_true]
                    simp only [pop_pg]
                    rw [show (g.pop.2.pop.2).pg.m.data.length = g.pop.2.pop.2.s.data.length from rfl, ← has_pg, whenF (show (g.pop.2.pop.2.has (g.pop.2.pop.1) g.pop.2.pop.2.s.data.length).pg.over = false from ho14), hH]
                    all_goals rfl
                  ·
                    have ho14 : (g.pop.2.pop.2.has (g.pop.2.pop.1) g.pop.2.pop.2.s.data.length).over = true := by simpa using hc14
                    refine WC.skip ?_
                    refine WE.block_normal ?_
                    refine WE.then_normal ?_
                    refine WC.region ?_
                    refine WL.val (.inl rfl) rfl (yl_move rfl) ?_
                    refine WL.val (.inl rfl) rfl (yl_move rfl) ?_
                    refine WL.val (.inl rfl) rfl (yl_nil rfl) ?_
                    refine WL.val (.inl rfl) rfl (yl_fa fo119_0 rfl) ?_
                    refine WL.store 0 (.inl rfl) rfl rfl rfl sz3 rfl rfl rfl ?_
                    refine WL.nil ?_
                    refine WE.end0 rfl fun w' hw => ?_
                    have hw := hw.fronti 5 rfl
                    have hw := hw.fronti 5 rfl
                    have hw := hw.fronti 5 rfl
                    have hw := hw.fronti 5 rfl
                    have hw := hw.fronti 5 rfl
                    have hw := hw.fronti 5 rfl
                    have hw := Ws.keep (L := [_, _, _, _, _, _]) hw
                    refine ⟨GSt.at_ (IntKind.i64.wrap (g.s.at_ + 1)) (g.pop.2.pop.2.has (g.pop.2.pop.1) g.pop.2.pop.2.s.data.length), rfl, ⟨?_, GSt.good.at (hgp2.has _ _) _⟩, hw⟩
                    show setAt (IntKind.i64.wrap (g.s.at_ + 1)) (g.pop.2.pop.2.has (g.pop.2.pop.1) g.pop.2.pop.2.s.data.length).pg = _
                    unfold doG doA
                    simp only [hc0, hc1, hc3, hc5, hc7, hc9, hc11, hc13, Bool.false_eq_true, if_false, if_true]
                    simp only [pop_pg]
                    rw [show (g.pop.2.pop.2).pg.m.data.length = g.pop.2.pop.2.s.data.length from rfl, ← has_pg, whenT (show (g.pop.2.pop.2.has (g.pop.2.pop.1) g.pop.2.pop.2.s.data.length).pg.over = true from ho14)]
                    all_goals rfl
                ·
                  refine WC.seq ?_
                  refine WC.region ?_
                  refine WL.val (.inl rfl) rfl (yl_eq rfl rfl) ?_
                  refine WL.val (.inl rfl) rfl (yl_assign rfl) ?_
                  refine WL.nil ?_
                  refine WE.then_normal ?_
                  refine WC.cond rfl (fun hc15 => ?_) (fun hc15 => ?_)
                  ·
                    refine WC.seq ?_
                    refine WC.region ?_
                    refine WL.val (.inl rfl) rfl (yl_move rfl) ?_
                    refine WL.front 6 rfl ?_
                    refine WL.front 6 rfl ?_
                    refine WL.front 6 rfl ?_
                    refine WL.front 6 rfl ?_
                    refine WL.front 6 rfl ?_
                    refine WL.front 6 rfl ?_
                    refine WL.callw (ι := Unit) [_, _, _, _, _, _] _ (.inl rfl) rfl en96 rfl rfl (fun _ => .int .i64 g.pop.1) (fun _ => (GSt.own bg g.pop.2)) (fun _ => True) [HI] (by simp) (fun w hw => (gpop_any bg g HI  w hg hw).mono fun e w' h => ⟨(), h.1, trivial, h.2⟩) ?_
                    intro _ _
                    refine WL.val (.inl rfl) rfl (yl_assign rfl) ?_
                    refine WL.nil ?_
                    refine WE.then_normal ?_
                    refine WC.region ?_
                    refine WL.val (.inl rfl) rfl (yl_move rfl) ?_
                    refine WL.val (.inl rfl) rfl (yl_move rfl) ?_
                    refine WL.val (.inl rfl) rfl (yl_eq rfl rfl) ?_
                    refine WL.callp (.inl rfl) rfl en41 rfl (fun w hw => truth_any _ w) ?_
                    refine WL.front 5 rfl ?_
                    refine WL.front 5 rfl ?_
                    refine WL.front 5 rfl ?_
                    refine WL.front 5 rfl ?_
                    refine WL.front 5 rfl ?_
                    refine WL.front 5 rfl ?_
                    refine WL.callw (ι := GSt) [_, _, _, _, _, _] _ (.inl rfl) rfl en94 rfl rfl (fun r => .tuple #[]) (fun r => (GSt.own bg r)) (fun r => (r.pg = pushG (bitI (g.pop.1 == 0)) g.pop.2.pg ∧ r.good HI)) [HI] (by simp) (fun w hw => gpush_any bg g.pop.2 HI (bitI (g.pop.1 == 0)) w hgp hw) ?_
                    intro r169 hr169
                    refine WL.nil ?_
                    refine WE.block_normal ?_
                    refine WE.then_normal ?_
                    refine WC.region ?_
                    refine WL.val (.inl rfl) rfl (yl_move rfl) ?_
                    refine WL.val (.inl rfl) rfl (yl_move rfl) ?_
                    refine WL.val (.inl rfl) rfl (yl_nil rfl) ?_
                    refine WL.val (.inl rfl) rfl (yl_fa fo119_0 rfl) ?_
                    refine WL.store 0 (.inl rfl) rfl rfl rfl sz3 rfl rfl rfl ?_
                    refine WL.nil ?_
                    refine WE.end0 rfl fun w' hw => ?_
                    have hw := hw.fronti 5 rfl
                    have hw := hw.fronti 5 rfl
                    have hw := hw.fronti 5 rfl
                    have hw := hw.fronti 5 rfl
                    have hw := hw.fronti 5 rfl
                    have hw := hw.fronti 5 rfl
                    have hw := Ws.keep (L := [_, _, _, _, _, _]) hw
                    refine ⟨GSt.at_ (IntKind.i64.wrap (g.s.at_ + 1)) r169, rfl, ⟨?_, GSt.good.at hr169.2 _⟩, hw⟩
                    show setAt (IntKind.i64.wrap (g.s.at_ + 1)) r169.pg = _
                    unfold doG doA
                    simp only [hc0, hc1, hc3, hc5, hc7, hc9, hc11, hc13, hc15, Bool.false_eq_true, if_false, if_true]
                    simp only [pop_pg]
                    rw [hr169.1]
                    all_goals rfl
                  ·
                    refine WC.seq ?_
                    refine WC.region ?_
                    refine WL.val (.inl rfl) rfl (yl_eq rfl rfl) ?_
                    refine WL.val (.inl rfl) rfl (yl_assign rfl) ?_
                    refine WL.nil ?_
                    refine WE.then_normal ?_
                    refine WC.cond rfl (fun hc16 => ?_) (fun hc16 => ?_)
                    ·
                      refine WC.seq ?_
                      refine WC.region ?_
                      refine WL.val (.inl rfl) rfl (yl_move rfl) ?_
                      refine WL.front 6 rfl ?_
                      refine WL.front 6 rfl ?_
                      refine WL.front 6 rfl ?_
                      refine WL.front 6 rfl ?_
                      refine WL.front 6 rfl ?_
                      refine WL.front 6 rfl ?_
                      refine WL.callw (ι := Unit) [_, _, _, _, _, _] _ (.inl rfl) rfl en96 rfl rfl (fun _ => .int .i64 g.pop.1) (fun _ => (GSt.own bg g.pop.2)) (fun _ => True) [HI] (by simp) (fun w hw => (gpop_any bg g HI  w hg hw).mono fun e w' h => ⟨(), h.1, trivial, h.2⟩) ?_
                      intro _ _
                      refine WL.val (.inl rfl) rfl (yl_assign rfl) ?_
                      refine WL.nil ?_
                      refine WE.then_normal ?_
                      refine WC.region ?_
                      refine WL.val (.inl rfl) rfl (yl_move rfl) ?_
                      refine WL.val (.inl rfl) rfl (yl_move rfl) ?_
                      refine WL.val (.inl rfl) rfl (yl_ne rfl rfl) ?_
                      refine WL.callp (.inl rfl) rfl en41 rfl (fun w hw => truth_any _ w) ?_
                      refine WL.front 5 rfl ?_
                      refine WL.front 5 rfl ?_
                      refine WL.front 5 rfl ?_
                      refine WL.front 5 rfl ?_
                      refine WL.front 5 rfl ?_
                      refine WL.front 5 rfl ?_
                      refine WL.callw (ι := GSt) [_, _, _, _, _, _] _ (.inl rfl) rfl en94 rfl rfl (fun r => .tuple #[]) (fun r => (GSt.own bg r)) (fun r => (r.pg = pushG (bitI (g.pop.1 != 0)) g.pop.2.pg ∧ r.good HI)) [HI] (by simp) (fun w hw => gpush_any bg g.pop.2 HI (bitI (g.pop.1 != 0)) w hgp hw) ?_
                      intro r178 hr178
                      refine WL.nil ?_
                      refine WE.block_normal ?_
                      refine WE.then_normal ?_
                      refine WC.region ?_
                      refine WL.val (.inl rfl) rfl (yl_move rfl) ?_
                      refine WL.val (.inl rfl) rfl (yl_move rfl) ?_
                      refine WL.val (.inl rfl) rfl (yl_nil rfl) ?_
                      refine WL.val (.inl rfl) rfl (yl_fa fo119_0 rfl) ?_
                      refine WL.store 0 (.inl rfl) rfl rfl rfl sz3 rfl rfl rfl ?_
                      refine WL.nil ?_
                      refine WE.end0 rfl fun w' hw => ?_
                      have hw := hw.fronti 5 rfl
                      have hw := hw.fronti 5 rfl
                      have hw := hw.fronti 5 rfl
                      have hw := hw.fronti 5 rfl
                      have hw := hw.fronti 5 rfl
                      have hw := hw.fronti 5 rfl
                      have hw := Ws.keep (L := [_, _, _, _, _, _]) hw
                      refine ⟨GSt.at_ (IntKind.i64.wrap (g.s.at_ + 1)) r178, rfl, ⟨?_, GSt.good.at hr178.2 _⟩, hw⟩
                      show setAt (IntKind.i64.wrap (g.s.at_ + 1)) r178.pg = _
                      unfold doG doA
                      simp only [hc0, hc1, hc3, hc5, hc7, hc9, hc11, hc13, hc15, hc16, Bool.false_eq_true, if_false, if_true]
                      simp only [pop_pg]
                      rw [hr178.1]
                      all_goals rfl
                    ·
                      refine WC.seq ?_
                      refine WC.region ?_
                      refine WL.val (.inl rfl) rfl (yl_eq rfl rfl) ?_
                      refine WL.val (.inl rfl) rfl (yl_assign rfl) ?_
                      refine WL.nil ?_
                      refine WE.then_normal ?_
                      refine WC.cond rfl (fun hc17 => ?_) (fun hc17 => ?_)
                      ·
                        refine WC.seq ?_
                        refine WC.seq ?_
                        refine WC.region ?_
                        refine WL.val (.inl rfl) rfl (yl_fa fo65_1 rfl) ?_
                        refine WL.val (.inl rfl) rfl (yl_ldk 0 rfl rfl rfl na3) ?_
                        refine WL.callp (.inl rfl) rfl en36 rfl (fun w hw => within_any _ _ _ w) ?_
                        refine WL.val (.inl rfl) rfl (yl_not rfl) ?_
                        refine WL.nil ?_
                        refine WE.then_normal ?_
                        refine WC.cond rfl (fun hc18 => ?_) (fun hc18 => ?_)
                        ·
                          have hw18 : ¬ within i.a 9 15 = true := by simpa using hc18
                          have hgm0 : (g.stp 6).good HI := hg.stp 6
                          refine WC.region ?_
                          refine WL.val (.inl rfl) rfl (yl_move rfl) ?_
                          refine WL.front 6 rfl ?_
                          refine WL.front 6 rfl ?_
                          refine WL.front 6 rfl ?_
                          refine WL.front 6 rfl ?_
                          refine WL.front 6 rfl ?_
                          refine WL.front 6 rfl ?_
                          refine WL.callw (ι := Unit) [_, _, _, _, _, _] _ (.inl rfl) rfl en66 rfl rfl (fun _ => .tuple #[]) (fun _ => (GSt.own bg (g.stp 6))) (fun _ => True) [HI] (by simp) (fun w hw => (gstop_any bg g HI 6 w hg hw).mono fun e w' h => ⟨(), h.1, trivial, h.2⟩) ?_
                          intro _ _
                          refine WL.nil ?_
                          refine WE.then_normal ?_
                          refine WC.seq ?_
                          refine WC.region ?_
                          refine WL.val (.inl rfl) rfl (yl_move rfl) ?_
                          refine WL.front 5 rfl ?_
                          refine WL.front 5 rfl ?_
                          refine WL.front 5 rfl ?_
                          refine WL.front 5 rfl ?_
                          refine WL.front 5 rfl ?_
                          refine WL.front 5 rfl ?_
                          refine WL.callw (ι := Unit) [_, _, _, _, _, _] _ (.inl rfl) rfl en96 rfl rfl (fun _ => .int .i64 (g.stp 6).pop.1) (fun _ => (GSt.own bg (g.stp 6).pop.2)) (fun _ => True) [HI] (by simp) (fun w hw => (gpop_any bg (g.stp 6) HI  w hgm0 hw).mono fun e w' h => ⟨(), h.1, trivial, h.2⟩) ?_
                          intro _ _
                          refine WL.val (.inl rfl) rfl (yl_assign rfl) ?_
                          refine WL.nil ?_
                          refine WE.then_normal ?_
                          refine WC.seq ?_
                          refine WC.region ?_
                          refine WL.val (.inl rfl) rfl (yl_move rfl) ?_
                          refine WL.front 5 rfl ?_
                          refine WL.front 5 rfl ?_
                          refine WL.front 5 rfl ?_
                          refine WL.front 5 rfl ?_
                          refine WL.front 5 rfl ?_
                          refine WL.front 5 rfl ?_
                          refine WL.callw (ι := Unit) [_, _, _, _, _, _] _ (.inl rfl) rfl en96 rfl rfl (fun _ => .int .i64 (g.stp 6).pop.2.pop.1) (fun _ => (GSt.own bg (g.stp 6).pop.2.pop.2)) (fun _ => True) [HI] (by simp) (fun w hw => (gpop_any bg (g.stp 6).pop.2 HI  w hgm0.pop hw).mono fun e w' h => ⟨(), h.1, trivial, h.2⟩) ?_
                          intro _ _
                          refine WL.val (.inl rfl) rfl (yl_assign rfl) ?_
                          refine WL.nil ?_
                          refine WE.then_normal ?_
                          refine WC.seq ?_
                          refine WC.seq ?_
                          have hgm := hgm0.pop.pop
                          refine WC.region ?_
                          refine WL.val (.inl rfl) rfl (yl_move rfl) ?_
                          refine WL.val (.inl rfl) rfl (yl_nil rfl) ?_
                          refine WL.val (.inl rfl) rfl (yl_fa fo119_9 rfl) ?_
                          refine WL.val (.inl rfl) rfl (yl_ldk 0 rfl rfl rfl na4) ?_
                          refine WL.nil ?_
                          refine WE.then_normal ?_
                          refine WC.cond rfl (fun hc19 => ?_) (fun hc19 => ?_)
                          ·
                            have ho19 : (g.stp 6).pop.2.pop.2.over = true := hc19
                            refine WC.ret ?_
                            refine WE.then_ret ?_
                            refine WE.block_ret ?_
                            refine WE.then_ret ?_
                            refine WE.ret0 rfl fun w' hw => ?_
                            have hw := hw.fronti 5 rfl
                            have hw := hw.fronti 5 rfl
                            have hw := hw.fronti 5 rfl
                            have hw := hw.fronti 5 rfl
                            have hw := hw.fronti 5 rfl
                            have hw := hw.fronti 5 rfl
                            have hw := Ws.keep (L := [_, _, _, _, _, _]) hw
                            refine ⟨(g.stp 6).pop.2.pop.2, rfl, ⟨?_, hgm⟩, hw⟩
                            unfold doG doA
                            simp only [hc0, hc1, hc3, hc5, hc7, hc9, hc11, hc13, hc15, hc16, hc17, Bool.false_eq_true, if_false, if_true]
                            rw [show (if within i.a 9 15 = true then g.pg else stopG 6 g.pg) = (g.stp 6).pg by rw [if_neg hw18, stp_pg]]
                            unfold mathG
                            simp only [pop_pg]
                            rw [if_pos (show (g.stp 6).pop.2.pop.2.pg.over = true from ho19)]
                          ·
                            have ho19 : (g.stp 6).pop.2.pop.2.over = false := hc19
                            refine WC.skip ?_
                            refine WE.then_normal ?_
                            refine WC.seq ?_
                            refine WC.region ?_
                            refine WL.val (.inl rfl) rfl (yl_fa fo65_1 rfl) ?_
                            refine WL.val (.inl rfl) rfl (yl_ldk 6 rfl rfl rfl na3) ?_
                            refine WL.val (.inl rfl) rfl (yl_move rfl) ?_
                            refine WL.val (.inl rfl) rfl (yl_move rfl) ?_
                            refine WL.callp (.inl rfl) rfl en40 rfl (fun w hw => rmath_any i.a (g.stp 6).pop.2.pop.1 (g.stp 6).pop.1 w) ?_
                            refine WL.val (.inl rfl) rfl (yl_move rfl) ?_
                            refine WL.val (.inl rfl) rfl (yl_extract rfl rfl) ?_
                            refine WL.val (.inl rfl) rfl (yl_extract rfl rfl) ?_
                            refine WL.val (.inl rfl) rfl (yl_assign rfl) ?_
                            refine WL.val (.inl rfl) rfl (yl_assign rfl) ?_
                            refine WL.nil ?_
                            refine WE.then_normal ?_
                            refine WC.seq ?_
                            refine WC.seq ?_
                            refine WC.region ?_
                            refine WL.val (.inl rfl) rfl (yl_move rfl) ?_
                            refine WL.val (.inl rfl) rfl (yl_not rfl) ?_
                            refine WL.nil ?_
                            refine WE.then_normal ?_
                            refine WC.cond rfl (fun hc20 => ?_) (fun hc20 => ?_)
                            ·
                              have hi20 : ¬ (rmath i.a (g.stp 6).pop.2.pop.1 (g.stp 6).pop.1).2 = true := by simpa using hc20
                              refine WC.region ?_
                              refine WL.val (.inl rfl) rfl (yl_move rfl) ?_
                              refine WL.front 5 rfl ?_
                              refine WL.front 5 rfl ?_
                              refine WL.front 5 rfl ?_
                              refine WL.front 5 rfl ?_
                              refine WL.front 5 rfl ?_
                              refine WL.front 5 rfl ?_
                              refine WL.callw (ι := Unit) [_, _, _, _, _, _] _ (.inl rfl) rfl en66 rfl rfl (fun _ => .tuple #[]) (fun _ => (GSt.own bg ((g.stp 6).pop.2.pop.2.stp 1))) (fun _ => True) [HI] (by simp) (fun w hw => (gstop_any bg (g.stp 6).pop.2.pop.2 HI 1 w hgm hw).mono fun e w' h => ⟨(), h.1, trivial, h.2⟩) ?_
                              intro _ _
                              refine WL.nil ?_
                              refine WE.then_normal ?_
                              refine WC.region ?_
                              refine WL.val (.inl rfl) rfl (yl_move rfl) ?_
                              refine WL.val (.inl rfl) rfl (yl_move rfl) ?_
                              refine WL.front 5 rfl ?_
                              refine WL.front 5 rfl ?_
                              refine WL.front 5 rfl ?_
                              refine WL.front 5 rfl ?_
                              refine WL.front 5 rfl ?_
                              refine WL.front 5 rfl ?_
                              refine WL.callw (ι := GSt) [_, _, _, _, _, _] _ (.inl rfl) rfl en94 rfl rfl (fun r => .tuple #[]) (fun r => (GSt.own bg r)) (fun r => (r.pg = pushG ((rmath i.a (g.stp 6).pop.2.pop.1 (g.stp 6).pop.1).1) ((g.stp 6).pop.2.pop.2.stp 1).pg ∧ r.good HI)) [HI] (by simp) (fun w hw => gpush_any bg ((g.stp 6).pop.2.pop.2.stp 1) HI ((rmath i.a (g.stp 6).pop.2.pop.1 (g.stp 6).pop.1).1) w (hgm.stp 1) hw) ?_
                              intro r209 hr209
                              refine WL.nil ?_
                              refine WE.block_normal ?_
                              refine WE.then_normal ?_
                              refine WC.region ?_
                              refine WL.val (.inl rfl) rfl (yl_move rfl) ?_
                              refine WL.val (.inl rfl) rfl (yl_move rfl) ?_
                              refine WL.val (.inl rfl) rfl (yl_nil rfl) ?_
                              refine WL.val (.inl rfl) rfl (yl_fa fo119_0 rfl) ?_
                              refine WL.store 0 (.inl rfl) rfl rfl rfl sz3 rfl rfl rfl ?_
                              refine WL.nil ?_
                              refine WE.end0 rfl fun w' hw => ?_
                              have hw := hw.fronti 5 rfl
                              have hw := hw.fronti 5 rfl
                              have hw := hw.fronti 5 rfl
                              have hw := hw.fronti 5 rfl
                              have hw := hw.fronti 5 rfl
                              have hw := hw.fronti 5 rfl
                              have hw := Ws.keep (L := [_, _, _, _, _, _]) hw
                              refine ⟨GSt.at_ (IntKind.i64.wrap (g.s.at_ + 1)) r209, rfl, ⟨?_, GSt.good.at hr209.2 _⟩, hw⟩
                              show setAt (IntKind.i64.wrap (g.s.at_ + 1)) r209.pg = _
                              unfold doG doA
                              simp only [hc0, hc1, hc3, hc5, hc7, hc9, hc11, hc13, hc15, hc16, hc17, Bool.false_eq_true, if_false, if_true]
                              rw [show (if within i.a 9 15 = true then g.pg else stopG 6 g.pg) = (g.stp 6).pg by rw [if_neg hw18, stp_pg]]
                              unfold mathG
                              simp only [pop_pg]
                              rw [if_neg (show ¬ (g.stp 6).pop.2.pop.2.pg.over = true by rw [show (g.stp 6).pop.2.pop.2.pg.over = false from ho19]; simp), show (if (rmath i.a (g.stp 6).pop.2.pop.1 (g.stp 6).pop.1).2 = true then (g.stp 6).pop.2.pop.2.pg else stopG 1 (g.stp 6).pop.2.pop.2.pg) = ((g.stp 6).pop.2.pop.2.stp 1).pg by rw [if_neg hi20, stp_pg], hr209.1]
                              all_goals rfl
                            ·
                              have hi20 : (rmath i.a (g.stp 6).pop.2.pop.1 (g.stp 6).pop.1).2 = true := by simpa using hc20
                              refine WC.skip ?_
                              refine WE.then_normal ?_
                              refine WC.region ?_
                              refine WL.val (.inl rfl) rfl (yl_move rfl) ?_
                              refine WL.val (.inl rfl) rfl (yl_move rfl) ?_
                              refine WL.front 5 rfl ?_
                              refine WL.front 5 rfl ?_
                              refine WL.front 5 rfl ?_
                              refine WL.front 5 rfl ?_
                              refine WL.front 5 rfl ?_
                              refine WL.front 5 rfl ?_
                              refine WL.callw (ι := GSt) [_, _, _, _, _, _] _ (.inl rfl) rfl en94 rfl rfl (fun r => .tuple #[]) (fun r => (GSt.own bg r)) (fun r => (r.pg = pushG ((rmath i.a (g.stp 6).pop.2.pop.1 (g.stp 6).pop.1).1) (g.stp 6).pop.2.pop.2.pg ∧ r.good HI)) [HI] (by simp) (fun w hw => gpush_any bg (g.stp 6).pop.2.pop.2 HI ((rmath i.a (g.stp 6).pop.2.pop.1 (g.stp 6).pop.1).1) w hgm hw) ?_
                              intro r209 hr209
                              refine WL.nil ?_
                              refine WE.block_normal ?_
                              refine WE.then_normal ?_
                              refine WC.region ?_
                              refine WL.val (.inl rfl) rfl (yl_move rfl) ?_
                              refine WL.val (.inl rfl) rfl (yl_move rfl) ?_
                              refine WL.val (.inl rfl) rfl (yl_nil rfl) ?_
                              refine WL.val (.inl rfl) rfl (yl_fa fo119_0 rfl) ?_
                              refine WL.store 0 (.inl rfl) rfl rfl rfl sz3 rfl rfl rfl ?_
                              refine WL.nil ?_
                              refine WE.end0 rfl fun w' hw => ?_
                              have hw := hw.fronti 5 rfl
                              have hw := hw.fronti 5 rfl
                              have hw := hw.fronti 5 rfl
                              have hw := hw.fronti 5 rfl
                              have hw := hw.fronti 5 rfl
                              have hw := hw.fronti 5 rfl
                              have hw := Ws.keep (L := [_, _, _, _, _, _]) hw
                              refine ⟨GSt.at_ (IntKind.i64.wrap (g.s.at_ + 1)) r209, rfl, ⟨?_, GSt.good.at hr209.2 _⟩, hw⟩
                              show setAt (IntKind.i64.wrap (g.s.at_ + 1)) r209.pg = _
                              unfold doG doA
                              simp only [hc0, hc1, hc3, hc5, hc7, hc9, hc11, hc13, hc15, hc16, hc17, Bool.false_eq_true, if_false, if_true]
                              rw [show (if within i.a 9 15 = true then g.pg else stopG 6 g.pg) = (g.stp 6).pg by rw [if_neg hw18, stp_pg]]
                              unfold mathG
                              simp only [pop_pg]
                              rw [if_neg (show ¬ (g.stp 6).pop.2.pop.2.pg.over = true by rw [show (g.stp 6).pop.2.pop.2.pg.over = false from ho19]; simp), show (if (rmath i.a (g.stp 6).pop.2.pop.1 (g.stp 6).pop.1).2 = true then (g.stp 6).pop.2.pop.2.pg else stopG 1 (g.stp 6).pop.2.pop.2.pg) = (g.stp 6).pop.2.pop.2.pg by rw [if_pos hi20], hr209.1]
                              all_goals rfl
                        ·
                          have hw18 : within i.a 9 15 = true := by simpa using hc18
                          have hgm0 := hg
                          refine WC.skip ?_
                          refine WE.then_normal ?_
                          refine WC.seq ?_
                          refine WC.region ?_
                          refine WL.val (.inl rfl) rfl (yl_move rfl) ?_
                          refine WL.front 6 rfl ?_
                          refine WL.front 6 rfl ?_
                          refine WL.front 6 rfl ?_
                          refine WL.front 6 rfl ?_
                          refine WL.front 6 rfl ?_
                          refine WL.front 6 rfl ?_
                          refine WL.callw (ι := Unit) [_, _, _, _, _, _] _ (.inl rfl) rfl en96 rfl rfl (fun _ => .int .i64 g.pop.1) (fun _ => (GSt.own bg g.pop.2)) (fun _ => True) [HI] (by simp) (fun w hw => (gpop_any bg g HI  w hgm0 hw).mono fun e w' h => ⟨(), h.1, trivial, h.2⟩) ?_
                          intro _ _
                          refine WL.val (.inl rfl) rfl (yl_assign rfl) ?_
                          refine WL.nil ?_
                          refine WE.then_normal ?_
                          refine WC.seq ?_
                          refine WC.region ?_
                          refine WL.val (.inl rfl) rfl (yl_move rfl) ?_
                          refine WL.front 5 rfl ?_
                          refine WL.front 5 rfl ?_
                          refine WL.front 5 rfl ?_
                          refine WL.front 5 rfl ?_
                          refine WL.front 5 rfl ?_
                          refine WL.front 5 rfl ?_
                          refine WL.callw (ι := Unit) [_, _, _, _, _, _] _ (.inl rfl) rfl en96 rfl rfl (fun _ => .int .i64 g.pop.2.pop.1) (fun _ => (GSt.own bg g.pop.2.pop.2)) (fun _ => True) [HI] (by simp) (fun w hw => (gpop_any bg g.pop.2 HI  w hgm0.pop hw).mono fun e w' h => ⟨(), h.1, trivial, h.2⟩) ?_
                          intro _ _
                          refine WL.val (.inl rfl) rfl (yl_assign rfl) ?_
                          refine WL.nil ?_
                          refine WE.then_normal ?_
                          refine WC.seq ?_
                          refine WC.seq ?_
                          have hgm := hgm0.pop.pop
                          refine WC.region ?_
                          refine WL.val (.inl rfl) rfl (yl_move rfl) ?_
                          refine WL.val (.inl rfl) rfl (yl_nil rfl) ?_
                          refine WL.val (.inl rfl) rfl (yl_fa fo119_9 rfl) ?_
                          refine WL.val (.inl rfl) rfl (yl_ldk 0 rfl rfl rfl na4) ?_
                          refine WL.nil ?_
                          refine WE.then_normal ?_
                          refine WC.cond rfl (fun hc19 => ?_) (fun hc19 => ?_)
                          ·
                            have ho19 : g.pop.2.pop.2.over = true := hc19
                            refine WC.ret ?_
                            refine WE.then_ret ?_
                            refine WE.block_ret ?_
                            refine WE.then_ret ?_
                            refine WE.ret0 rfl fun w' hw => ?_
                            have hw := hw.fronti 5 rfl
                            have hw := hw.fronti 5 rfl
                            have hw := hw.fronti 5 rfl
                            have hw := hw.fronti 5 rfl
                            have hw := hw.fronti 5 rfl
                            have hw := hw.fronti 5 rfl
                            have hw := Ws.keep (L := [_, _, _, _, _, _]) hw
                            refine ⟨g.pop.2.pop.2, rfl, ⟨?_, hgm⟩, hw⟩
                            unfold doG doA
                            simp only [hc0, hc1, hc3, hc5, hc7, hc9, hc11, hc13, hc15, hc16, hc17, Bool.false_eq_true, if_false, if_true]
                            rw [show (if within i.a 9 15 = true then g.pg else stopG 6 g.pg) = g.pg by rw [if_pos hw18]]
                            unfold mathG
                            simp only [pop_pg]
                            rw [if_pos (show g.pop.2.pop.2.pg.over = true from ho19)]
                          ·
                            have ho19 : g.pop.2.pop.2.over = false := hc19
                            refine WC.skip ?_
                            refine WE.then_normal ?_
                            refine WC.seq ?_
                            refine WC.region ?_
                            refine WL.val (.inl rfl) rfl (yl_fa fo65_1 rfl) ?_
                            refine WL.val (.inl rfl) rfl (yl_ldk 6 rfl rfl rfl na3) ?_
                            refine WL.val (.inl rfl) rfl (yl_move rfl) ?_
                            refine WL.val (.inl rfl) rfl (yl_move rfl) ?_
                            refine WL.callp (.inl rfl) rfl en40 rfl (fun w hw => rmath_any i.a g.pop.2.pop.1 g.pop.1 w) ?_
                            refine WL.val (.inl rfl) rfl (yl_move rfl) ?_
                            refine WL.val (.inl rfl) rfl (yl_extract rfl rfl) ?_
                            refine WL.val (.inl rfl) rfl (yl_extract rfl rfl) ?_
                            refine WL.val (.inl rfl) rfl (yl_assign rfl) ?_
                            refine WL.val (.inl rfl) rfl (yl_assign rfl) ?_
                            refine WL.nil ?_
                            refine WE.then_normal ?_
                            refine WC.seq ?_
                            refine WC.seq ?_
                            refine WC.region ?_
                            refine WL.val (.inl rfl) rfl (yl_move rfl) ?_
                            refine WL.val (.inl rfl) rfl (yl_not rfl) ?_
                            refine WL.nil ?_
                            refine WE.then_normal ?_
                            refine WC.cond rfl (fun hc20 => ?_) (fun hc20 => ?_)
                            ·
                              have hi20 : ¬ (rmath i.a g.pop.2.pop.1 g.pop.1).2 = true := by simpa using hc20
                              refine WC.region ?_
                              refine WL.val (.inl rfl) rfl (yl_move rfl) ?_
                              refine WL.front 5 rfl ?_
                              refine WL.front 5 rfl ?_
                              refine WL.front 5 rfl ?_
                              refine WL.front 5 rfl ?_
                              refine WL.front 5 rfl ?_
                              refine WL.front 5 rfl ?_
                              refine WL.callw (ι := Unit) [_, _, _, _, _, _] _ (.inl rfl) rfl en66 rfl rfl (fun _ => .tuple #[]) (fun _ => (GSt.own bg (g.pop.2.pop.2.stp 1))) (fun _ => True) [HI] (by simp) (fun w hw => (gstop_any bg g.pop.2.pop.2 HI 1 w hgm hw).mono fun e w' h => ⟨(), h.1, trivial, h.2⟩) ?_
                              intro _ _
                              refine WL.nil ?_
                              refine WE.then_normal ?_
                              refine WC.region ?_
                              refine WL.val (.inl rfl) rfl (yl_move rfl) ?_
                              refine WL.val (.inl rfl) rfl (yl_move rfl) ?_
                              refine WL.front 5 rfl ?_
                              refine WL.front 5 rfl ?_
                              refine WL.front 5 rfl ?_
                              refine WL.front 5 rfl ?_
                              refine WL.front 5 rfl ?_
                              refine WL.front 5 rfl ?_
                              refine WL.callw (ι := GSt) [_, _, _, _, _, _] _ (.inl rfl) rfl en94 rfl rfl (fun r => .tuple #[]) (fun r => (GSt.own bg r)) (fun r => (r.pg = pushG ((rmath i.a g.pop.2.pop.1 g.pop.1).1) (g.pop.2.pop.2.stp 1).pg ∧ r.good HI)) [HI] (by simp) (fun w hw => gpush_any bg (g.pop.2.pop.2.stp 1) HI ((rmath i.a g.pop.2.pop.1 g.pop.1).1) w (hgm.stp 1) hw) ?_
                              intro r209 hr209
                              refine WL.nil ?_
                              refine WE.block_normal ?_
                              refine WE.then_normal ?_
                              refine WC.region ?_
                              refine WL.val (.inl rfl) rfl (yl_move rfl) ?_
                              refine WL.val (.inl rfl) rfl (yl_move rfl) ?_
                              refine WL.val (.inl rfl) rfl (yl_nil rfl) ?_
                              refine WL.val (.inl rfl) rfl (yl_fa fo119_0 rfl) ?_
                              refine WL.store 0 (.inl rfl) rfl rfl rfl sz3 rfl rfl rfl ?_
                              refine WL.nil ?_
                              refine WE.end0 rfl fun w' hw => ?_
                              have hw := hw.fronti 5 rfl
                              have hw := hw.fronti 5 rfl
                              have hw := hw.fronti 5 rfl
                              have hw := hw.fronti 5 rfl
                              have hw := hw.fronti 5 rfl
                              have hw := hw.fronti 5 rfl
                              have hw := Ws.keep (L := [_, _, _, _, _, _]) hw
                              refine ⟨GSt.at_ (IntKind.i64.wrap (g.s.at_ + 1)) r209, rfl, ⟨?_, GSt.good.at hr209.2 _⟩, hw⟩
                              show setAt (IntKind.i64.wrap (g.s.at_ + 1)) r209.pg = _
                              unfold doG doA
                              simp only [hc0, hc1, hc3, hc5, hc7, hc9, hc11, hc13, hc15, hc16, hc17, Bool.false_eq_true, if_false, if_true]
                              rw [show (if within i.a 9 15 = true then g.pg else stopG 6 g.pg) = g.pg by rw [if_pos hw18]]
                              unfold mathG
                              simp only [pop_pg]
                              rw [if_neg (show ¬ g.pop.2.pop.2.pg.over = true by rw [show g.pop.2.pop.2.pg.over = false from ho19]; simp), show (if (rmath i.a g.pop.2.pop.1 g.pop.1).2 = true then g.pop.2.pop.2.pg else stopG 1 g.pop.2.pop.2.pg) = (g.pop.2.pop.2.stp 1).pg by rw [if_neg hi20, stp_pg], hr209.1]
                              all_goals rfl
                            ·
                              have hi20 : (rmath i.a g.pop.2.pop.1 g.pop.1).2 = true := by simpa using hc20
                              refine WC.skip ?_
                              refine WE.then_normal ?_
                              refine WC.region ?_
                              refine WL.val (.inl rfl) rfl (yl_move rfl) ?_
                              refine WL.val (.inl rfl) rfl (yl_move rfl) ?_
                              refine WL.front 5 rfl ?_
                              refine WL.front 5 rfl ?_
                              refine WL.front 5 rfl ?_
                              refine WL.front 5 rfl ?_
                              refine WL.front 5 rfl ?_
                              refine WL.front 5 rfl ?_
                              refine WL.callw (ι := GSt) [_, _, _, _, _, _] _ (.inl rfl) rfl en94 rfl rfl (fun r => .tuple #[]) (fun r => (GSt.own bg r)) (fun r => (r.pg = pushG ((rmath i.a g.pop.2.pop.1 g.pop.1).1) g.pop.2.pop.2.pg ∧ r.good HI)) [HI] (by simp) (fun w hw => gpush_any bg g.pop.2.pop.2 HI ((rmath i.a g.pop.2.pop.1 g.pop.1).1) w hgm hw) ?_
                              intro r209 hr209
                              refine WL.nil ?_
                              refine WE.block_normal ?_
                              refine WE.then_normal ?_
                              refine WC.region ?_
                              refine WL.val (.inl rfl) rfl (yl_move rfl) ?_
                              refine WL.val (.inl rfl) rfl (yl_move rfl) ?_
                              refine WL.val (.inl rfl) rfl (yl_nil rfl) ?_
                              refine WL.val (.inl rfl) rfl (yl_fa fo119_0 rfl) ?_
                              refine WL.store 0 (.inl rfl) rfl rfl rfl sz3 rfl rfl rfl ?_
                              refine WL.nil ?_
                              refine WE.end0 rfl fun w' hw => ?_
                              have hw := hw.fronti 5 rfl
                              have hw := hw.fronti 5 rfl
                              have hw := hw.fronti 5 rfl
                              have hw := hw.fronti 5 rfl
                              have hw := hw.fronti 5 rfl
                              have hw := hw.fronti 5 rfl
                              have hw := Ws.keep (L := [_, _, _, _, _, _]) hw
                              refine ⟨GSt.at_ (IntKind.i64.wrap (g.s.at_ + 1)) r209, rfl, ⟨?_, GSt.good.at hr209.2 _⟩, hw⟩
                              show setAt (IntKind.i64.wrap (g.s.at_ + 1)) r209.pg = _
                              unfold doG doA
                              simp only [hc0, hc1, hc3, hc5, hc7, hc9, hc11, hc13, hc15, hc16, hc17, Bool.false_eq_true, if_false, if_true]
                              rw [show (if within i.a 9 15 = true then g.pg else stopG 6 g.pg) = g.pg by rw [if_pos hw18]]
                              unfold mathG
                              simp only [pop_pg]
                              rw [if_neg (show ¬ g.pop.2.pop.2.pg.over = true by rw [show g.pop.2.pop.2.pg.over = false from ho19]; simp), show (if (rmath i.a g.pop.2.pop.1 g.pop.1).2 = true then g.pop.2.pop.2.pg else stopG 1 g.pop.2.pop.2.pg) = g.pop.2.pop.2.pg by rw [if_pos hi20], hr209.1]
                              all_goals rfl
                      ·
                        refine WC.seq ?_
                        refine WC.region ?_
                        refine WL.val (.inl rfl) rfl (yl_eq rfl rfl) ?_
                        refine WL.val (.inl rfl) rfl (yl_assign rfl) ?_
                        refine WL.nil ?_
                        refine WE.then_normal ?_
                        refine WC.cond rfl (fun hc21 => ?_) (fun hc21 => ?_)
                        ·
                          refine WC.region ?_
                          refine WL.val (.inl rfl) rfl (yl_fa fo65_1 rfl) ?_
                          refine WL.val (.inl rfl) rfl (yl_ldk 0 rfl rfl rfl na3) ?_
                          refine WL.val (.inl rfl) rfl (yl_assign rfl) ?_
                          refine WL.nil ?_
                          refine WE.block_normal ?_
                          refine WE.then_normal ?_
                          refine WC.region ?_
                          refine WL.val (.inl rfl) rfl (yl_move rfl) ?_
                          refine WL.val (.inl rfl) rfl (yl_move rfl) ?_
                          refine WL.val (.inl rfl) rfl (yl_nil rfl) ?_
                          refine WL.val (.inl rfl) rfl (yl_fa fo119_0 rfl) ?_
                          refine WL.store 1 (.inl rfl) rfl rfl rfl sz3 rfl rfl rfl ?_
                          refine WL.nil ?_
                          refine WE.end0 rfl fun w' hw => ?_
                          have hw := hw.fronti 6 rfl
                          have hw := hw.fronti 6 rfl
                          have hw := hw.fronti 6 rfl
                          have hw := hw.fronti 6 rfl
                          have hw := hw.fronti 6 rfl
                          have hw := hw.fronti 6 rfl
                          have hw := Ws.keep (L := [_, _, _, _, _, _]) hw
                          refine ⟨GSt.at_ i.a g, rfl, ⟨?_, GSt.good.at hg _⟩, hw⟩
                          show setAt i.a g.pg = _
                          unfold doG doA
                          simp only [hc0, hc1, hc3, hc5, hc7, hc9, hc11, hc13, hc15, hc16, hc17, hc21, Bool.false_eq_true, if_false, if_true]
                          all_goals rfl
                        ·
                          refine WC.seq ?_
                          refine WC.region ?_
                          refine WL.val (.inl rfl) rfl (yl_eq rfl rfl) ?_
                          refine WL.val (.inl rfl) rfl (yl_assign rfl) ?_
                          refine WL.nil ?_
                          refine WE.then_normal ?_
                          refine WC.cond rfl (fun hc22 => ?_) (fun hc22 => ?_)
                          ·
                            refine WC.seq ?_
                            refine WC.region ?_
                            refine WL.val (.inl rfl) rfl (yl_move rfl) ?_
                            refine WL.front 6 rfl ?_
                            refine WL.front 6 rfl ?_
                            refine WL.front 6 rfl ?_
                            refine WL.front 6 rfl ?_
                            refine WL.front 6 rfl ?_
                            refine WL.front 6 rfl ?_
                            refine WL.callw (ι := Unit) [_, _, _, _, _, _] _ (.inl rfl) rfl en96 rfl rfl (fun _ => .int .i64 g.pop.1) (fun _ => (GSt.own bg g.pop.2)) (fun _ => True) [HI] (by simp) (fun w hw => (gpop_any bg g HI  w hg hw).mono fun e w' h => ⟨(), h.1, trivial, h.2⟩) ?_
                            intro _ _
                            refine WL.val (.inl rfl) rfl (yl_assign rfl) ?_
                            refine WL.nil ?_
                            refine WE.then_normal ?_
                            refine WC.seq ?_
                            refine WC.region ?_
                            refine WL.val (.inl rfl) rfl (yl_move rfl) ?_
                            refine WL.val (.inl rfl) rfl (yl_eq rfl rfl) ?_
                            refine WL.nil ?_
                            refine WE.then_normal ?_
                            refine WC.cond rfl (fun hc23 => ?_) (fun hc23 => ?_)
                            ·
                              refine WC.region ?_
                              refine WL.val (.inl rfl) rfl (yl_fa fo65_1 rfl) ?_
                              refine WL.val (.inl rfl) rfl (yl_ldk 6 rfl rfl rfl na3) ?_
                              refine WL.val (.inl rfl) rfl (yl_assign rfl) ?_
                              refine WL.nil ?_
                              refine WE.block_normal ?_
                              refine WE.then_normal ?_
                              refine WC.region ?_
                              refine WL.val (.inl rfl) rfl (yl_move rfl) ?_
                              refine WL.val (.inl rfl) rfl (yl_move rfl) ?_
                              refine WL.val (.inl rfl) rfl (yl_nil rfl) ?_
                              refine WL.val (.inl rfl) rfl (yl_fa fo119_0 rfl) ?_
                              refine WL.store 0 (.inl rfl) rfl rfl rfl sz3 rfl rfl rfl ?_
                              refine WL.nil ?_
                              refine WE.end0 rfl fun w' hw => ?_
                              have hw := hw.fronti 5 rfl
                              have hw := hw.fronti 5 rfl
                              have hw := hw.fronti 5 rfl
                              have hw := hw.fronti 5 rfl
                              have hw := hw.fronti 5 rfl
                              have hw := hw.fronti 5 rfl
                              have hw := Ws.keep (L := [_, _, _, _, _, _]) hw
                              refine ⟨GSt.at_ i.a g.pop.2, rfl, ⟨?_, GSt.good.at hgp _⟩, hw⟩
                              show setAt i.a g.pop.2.pg = _
                              unfold doG doA
                              simp only [hc0, hc1, hc3, hc5, hc7, hc9, hc11, hc13, hc15, hc16, hc17, hc21, hc22, Bool.false_eq_true, if_false, if_true]
                              simp only [pop_pg]
                              rw [if_pos hc23]
                              all_goals rfl
                            ·
                              refine WC.skip ?_
                              refine WE.block_normal ?_
                              refine WE.then_normal ?_
                              refine WC.region ?_
                              refine WL.val (.inl rfl) rfl (yl_move rfl) ?_
                              refine WL.val (.inl rfl) rfl (yl_move rfl) ?_
                              refine WL.val (.inl rfl) rfl (yl_nil rfl) ?_
                              refine WL.val (.inl rfl) rfl (yl_fa fo119_0 rfl) ?_
                              refine WL.store 0 (.inl rfl) rfl rfl rfl sz3 rfl rfl rfl ?_
                              refine WL.nil ?_
                              refine WE.end0 rfl fun w' hw => ?_
                              have hw := hw.fronti 5 rfl
                              have hw := hw.fronti 5 rfl
                              have hw := hw.fronti 5 rfl
                              have hw := hw.fronti 5 rfl
                              have hw := hw.fronti 5 rfl
                              have hw := hw.fronti 5 rfl
                              have hw := Ws.keep (L := [_, _, _, _, _, _]) hw
                              refine ⟨GSt.at_ (IntKind.i64.wrap (g.s.at_ + 1)) g.pop.2, rfl, ⟨?_, GSt.good.at hgp _⟩, hw⟩
                              show setAt (IntKind.i64.wrap (g.s.at_ + 1)) g.pop.2.pg = _
                              unfold doG doA
                              simp only [hc0, hc1, hc3, hc5, hc7, hc9, hc11, hc13, hc15, hc16, hc17, hc21, hc22, Bool.false_eq_true, if_false, if_true]
                              simp only [pop_pg]
                              rw [if_neg (by rw [hc23]; simp)]
                              all_goals rfl
                          ·
                            refine WC.seq ?_
                            refine WC.region ?_
                            refine WL.val (.inl rfl) rfl (yl_eq rfl rfl) ?_
                            refine WL.val (.inl rfl) rfl (yl_assign rfl) ?_
                            refine WL.nil ?_
                            refine WE.then_normal ?_
                            refine WC.cond rfl (fun hc24 => ?_) (fun hc24 => ?_)
                            ·
                              refine WC.seq ?_
                              refine WC.region ?_
                              refine WL.val (.inl rfl) rfl (yl_move rfl) ?_
                              refine WL.front 6 rfl ?_
                              refine WL.front 6 rfl ?_
                              refine WL.front 6 rfl ?_
                              refine WL.front 6 rfl ?_
                              refine WL.front 6 rfl ?_
                              refine WL.front 6 rfl ?_
                              refine WL.callw (ι := Unit) [_, _, _, _, _, _] _ (.inl rfl) rfl en98 rfl rfl (fun _ => .tuple #[]) (fun _ => (GSt.own bg g.tick)) (fun _ => True) [HI] (by simp) (fun w hw => (gtick_any bg g HI  w hg hw).mono fun e w' h => ⟨(), h.1, trivial, h.2⟩) ?_
                              intro _ _
                              refine WL.nil ?_
                              refine WE.then_normal ?_
                              refine WC.seq ?_
                              refine WC.seq ?_
                              have htf := tick_frs g
                              have hgt0 := hg.tick
                              have htl : g.tick.s.frames.reverse.length = g.s.frames.length := by rw [htf]; simp
                              refine WC.region ?_
                              refine WL.val (.inl rfl) rfl (yl_move rfl) ?_
                              refine WL.val (.inl rfl) rfl (yl_nil rfl) ?_
                              refine WL.val (.inl rfl) rfl (yl_fa fo119_2 rfl) ?_
                              refine WL.val (.inl rfl) rfl (yl_ldk 0 rfl rfl rfl na117) ?_
                              refine WL.val (.inl rfl) rfl (yl_len es117 rfl) ?_
                              refine WL.val (.inl rfl) rfl (yl_gt rfl rfl) ?_
                              refine WL.nil ?_
                              refine WE.then_normal ?_
                              refine WC.cond rfl (fun hc25 => ?_) (fun hc25 => ?_)
                              ·
                                have hl25 : 24 < g.tick.s.frames.length := by rw [htl] at hc25; simp at hc25; rw [htf]; omega
                                have hgt := hgt0.stp 4
                                have htf2 : (g.tick.stp 4).s.frames = g.s.frames := by rw [stp_s, htf]
                                have htl2 : (g.tick.stp 4).s.frames.length = g.s.frames.length := by rw [htf2]
                                refine WC.region ?_
                                refine WL.val (.inl rfl) rfl (yl_move rfl) ?_
                                refine WL.front 5 rfl ?_
                                refine WL.front 5 rfl ?_
                                refine WL.front 5 rfl ?_
                                refine WL.front 5 rfl ?_
                                refine WL.front 5 rfl ?_
                                refine WL.front 5 rfl ?_
                                refine WL.callw (ι := Unit) [_, _, _, _, _, _] _ (.inl rfl) rfl en66 rfl rfl (fun _ => .tuple #[]) (fun _ => (GSt.own bg (g.tick.stp 4))) (fun _ => True) [HI] (by simp) (fun w hw => (gstop_any bg g.tick HI 4 w hg.tick hw).mono fun e w' h => ⟨(), h.1, trivial, h.2⟩) ?_
                                intro _ _
                                refine WL.nil ?_
                                refine WE.then_normal ?_
                                refine WC.seq ?_
                                refine WC.region ?_
                                refine WL.val (.inl rfl) rfl (yl_move rfl) ?_
                                refine WL.val (.inl rfl) rfl (yl_move rfl) ?_
                                refine WL.val (.inl rfl) rfl (yl_nil rfl) ?_
                                refine WL.val (.inl rfl) rfl (yl_fa fo119_2 rfl) ?_
                                refine WL.val (.inl rfl) rfl (yl_ldk 0 rfl rfl rfl na117) ?_
                                refine WL.val (.inl rfl) rfl (yl_move rfl) ?_
                                refine WL.val (.inl rfl) rfl (yl_build zr116 pl116 rfl rfl) ?_
                                refine WL.bsliceF (.inl rfl) rfl el117 rfl rfl rfl rfl fun b241 => ?_
                                refine WL.appT (xs := (g.tick.stp 4).s.frames.reverse) (⟨none, 0, [], (IntKind.i64.wrap (g.s.at_ + 1))⟩ : MFr) 3 0 (.inl rfl) rfl el117 rfl rfl rfl rfl rfl rfl (by simp; omega) (by simp; omega) fun a242 c242 => ?_
                                rw [show (g.tick.stp 4).s.frames.reverse ++ [(⟨none, 0, [], (IntKind.i64.wrap (g.s.at_ + 1))⟩ : MFr)] = ((⟨none, 0, [], (IntKind.i64.wrap (g.s.at_ + 1))⟩ : MFr) :: (g.tick.stp 4).s.frames).reverse by simp]
                                refine WL.val (.inl rfl) rfl (yl_nil rfl) ?_
                                refine WL.val (.inl rfl) rfl (yl_fa fo119_2 rfl) ?_
                                refine WL.store 1 (.inl rfl) rfl rfl rfl sz117 rfl rfl rfl ?_
                                refine WL.nil ?_
                                refine WE.then_normal ?_
                                refine WC.region ?_
                                refine WL.val (.inl rfl) rfl (yl_fa fo65_1 rfl) ?_
                                refine WL.val (.inl rfl) rfl (yl_ldk 7 rfl rfl rfl na3) ?_
                                refine WL.val (.inl rfl) rfl (yl_assign rfl) ?_
                                refine WL.nil ?_
                                refine WE.block_normal ?_
                                refine WE.then_normal ?_
                                refine WC.region ?_
                                refine WL.val (.inl rfl) rfl (yl_move rfl) ?_
                                refine WL.val (.inl rfl) rfl (yl_move rfl) ?_
                                refine WL.val (.inl rfl) rfl (yl_nil rfl) ?_
                                refine WL.val (.inl rfl) rfl (yl_fa fo119_0 rfl) ?_
                                refine WL.store 1 (.inl rfl) rfl rfl rfl sz3 rfl rfl rfl ?_
                                refine WL.nil ?_
                                refine WE.end0 rfl fun w' hw => ?_
                                have hw := hw.fronti 6 rfl
                                have hw := hw.fronti 6 rfl
                                have hw := hw.fronti 6 rfl
                                have hw := hw.fronti 6 rfl
                                have hw := hw.fronti 6 rfl
                                have hw := hw.fronti 6 rfl
                                have hw := Ws.keep (L := [_, _, _, _, _, _]) hw
                                have hw := hw.fam_nilcons 5 rfl 3 1
                                refine ⟨GSt.at_ i.a ⟨{ (g.tick.stp 4).s with frames := (⟨none, 0, [], (IntKind.i64.wrap (g.s.at_ + 1))⟩ : MFr) :: (g.tick.stp 4).s.frames, fa := a242, fc := c242 }, (g.tick.stp 4).fin, (g.tick.stp 4).over⟩, rfl, ⟨?_, ⟨hgt.inp, hgt.stk, ⟨by simp, by show (g.tick.stp 4).s.frames.length + 1 ≤ 26; omega⟩, fun ho => by
                                  show (g.tick.stp 4).s.frames.length + 1 ≤ 25
                                  exact absurd (show (g.tick.stp 4).over = false from ho) (by rw [stp_over]; simp), hgt.out, hgt.dat⟩⟩, hw⟩
                                unfold doG doA
                                simp only [hc0, hc1, hc3, hc5, hc7, hc9, hc11, hc13, hc15, hc16, hc17, hc21, hc22, hc24, Bool.false_eq_true, if_false, if_true]
                                unfold callG
                                rw [tick_pg, show (if 24 < g.tick.pg.m.frames.length then stopG 4 g.tick.pg else g.tick.pg) = (g.tick.stp 4).pg by rw [if_pos (show 24 < g.tick.pg.m.frames.length from (by show 24 < (g.tick.s.frames.map MFr.pu).length; simpa using hl25)), stp_pg]]
                                all_goals rfl
                              ·
                                have hl25 : ¬ 24 < g.tick.s.frames.length := by rw [htl] at hc25; simp at hc25; rw [htf]; omega
                                have hgt := hgt0
                                have htl2 : g.tick.s.frames.length = g.s.frames.length := by rw [htf]
                                refine WC.skip ?_
                                refine WE.then_normal ?_
                                refine WC.seq ?_
                                refine WC.region ?_
                                refine WL.val (.inl rfl) rfl (yl_move rfl) ?_
                                refine WL.val (.inl rfl) rfl (yl_move rfl) ?_
                                refine WL.val (.inl rfl) rfl (yl_nil rfl) ?_
                                refine WL.val (.inl rfl) rfl (yl_fa fo119_2 rfl) ?_
                                refine WL.val (.inl rfl) rfl (yl_ldk 0 rfl rfl rfl na117) ?_
                                refine WL.val (.inl rfl) rfl (yl_move rfl) ?_
                                refine WL.val (.inl rfl) rfl (yl_build zr116 pl116 rfl rfl) ?_
                                refine WL.bsliceF (.inl rfl) rfl el117 rfl rfl rfl rfl fun b241 => ?_
                                refine WL.appT (xs := g.tick.s.frames.reverse) (⟨none, 0, [], (IntKind.i64.wrap (g.s.at_ + 1))⟩ : MFr) 3 0 (.inl rfl) rfl el117 rfl rfl rfl rfl rfl rfl (by simp; omega) (by simp; omega) fun a242 c242 => ?_
                                rw [show g.tick.s.frames.reverse ++ [(⟨none, 0, [], (IntKind.i64.wrap (g.s.at_ + 1))⟩ : MFr)] = ((⟨none, 0, [], (IntKind.i64.wrap (g.s.at_ + 1))⟩ : MFr) :: g.tick.s.frames).reverse by simp]
                                refine WL.val (.inl rfl) rfl (yl_nil rfl) ?_
                                refine WL.val (.inl rfl) rfl (yl_fa fo119_2 rfl) ?_
                                refine WL.store 1 (.inl rfl) rfl rfl rfl sz117 rfl rfl rfl ?_
                                refine WL.nil ?_
                                refine WE.then_normal ?_
                                refine WC.region ?_
                                refine WL.val (.inl rfl) rfl (yl_fa fo65_1 rfl) ?_
                                refine WL.val (.inl rfl) rfl (yl_ldk 7 rfl rfl rfl na3) ?_
                                refine WL.val (.inl rfl) rfl (yl_assign rfl) ?_
                                refine WL.nil ?_
                                refine WE.block_normal ?_
                                refine WE.then_normal ?_
                                refine WC.region ?_
                                refine WL.val (.inl rfl) rfl (yl_move rfl) ?_
                                refine WL.val (.inl rfl) rfl (yl_move rfl) ?_
                                refine WL.val (.inl rfl) rfl (yl_nil rfl) ?_
                                refine WL.val (.inl rfl) rfl (yl_fa fo119_0 rfl) ?_
                                refine WL.store 1 (.inl rfl) rfl rfl rfl sz3 rfl rfl rfl ?_
                                refine WL.nil ?_
                                refine WE.end0 rfl fun w' hw => ?_
                                have hw := hw.fronti 6 rfl
                                have hw := hw.fronti 6 rfl
                                have hw := hw.fronti 6 rfl
                                have hw := hw.fronti 6 rfl
                                have hw := hw.fronti 6 rfl
                                have hw := hw.fronti 6 rfl
                                have hw := Ws.keep (L := [_, _, _, _, _, _]) hw
                                have hw := hw.fam_nilcons 5 rfl 3 1
                                refine ⟨GSt.at_ i.a ⟨{ g.tick.s with frames := (⟨none, 0, [], (IntKind.i64.wrap (g.s.at_ + 1))⟩ : MFr) :: g.tick.s.frames, fa := a242, fc := c242 }, g.tick.fin, g.tick.over⟩, rfl, ⟨?_, ⟨hgt.inp, hgt.stk, ⟨by simp, by show g.tick.s.frames.length + 1 ≤ 26; omega⟩, fun ho => by
                                  show g.tick.s.frames.length + 1 ≤ 25
                                  omega, hgt.out, hgt.dat⟩⟩, hw⟩
                                unfold doG doA
                                simp only [hc0, hc1, hc3, hc5, hc7, hc9, hc11, hc13, hc15, hc16, hc17, hc21, hc22, hc24, Bool.false_eq_true, if_false, if_true]
                                unfold callG
                                rw [tick_pg, show (if 24 < g.tick.pg.m.frames.length then stopG 4 g.tick.pg else g.tick.pg) = g.tick.pg by rw [if_neg (show ¬ 24 < g.tick.pg.m.frames.length from (by show ¬ 24 < (g.tick.s.frames.map MFr.pu).length; simpa using hl25))]]
                                all_goals rfl
                            ·
                              refine WC.seq ?_
                              refine WC.region ?_
                              refine WL.val (.inl rfl) rfl (yl_eq rfl rfl) ?_
                              refine WL.val (.inl rfl) rfl (yl_assign rfl) ?_
                              refine WL.nil ?_
                              refine WE.then_normal ?_
                              refine WC.cond rfl (fun hc26 => ?_) (fun hc26 => ?_)
                              ·
                                refine WC.region ?_
                                refine WL.val (.inl rfl) rfl (yl_move rfl) ?_
                                refine WL.val (.inl rfl) rfl (yl_move rfl) ?_
                                refine WL.val (.inl rfl) rfl (yl_fa fo65_1 rfl) ?_
                                refine WL.val (.inl rfl) rfl (yl_ldk 0 rfl rfl rfl na3) ?_
                                refine WL.val (.inl rfl) rfl (yl_fa fo65_2 rfl) ?_
                                refine WL.val (.inl rfl) rfl (yl_ldk 0 rfl rfl rfl na3) ?_
                                refine WL.front 6 rfl ?_
                                refine WL.front 6 rfl ?_
                                refine WL.front 6 rfl ?_
                                refine WL.front 6 rfl ?_
                                refine WL.front 6 rfl ?_
                                refine WL.front 6 rfl ?_
                                refine WL.callw (ι := GSt) [_, _, _, _, _, _] _ (.inl rfl) rfl en99 rfl rfl (fun r => .tuple #[]) (fun r => (GSt.own bg r)) (fun r => (r.pg = enterG i.a i.b g.pg ∧ r.good HI)) [HI] (by simp) (fun w hw => genter_any bg g HI fb f r hfb hfs i.a i.b w hg hw) ?_
                                intro r255 hr255
                                refine WL.nil ?_
                                refine WE.block_normal ?_
                                refine WE.then_normal ?_
                                refine WC.region ?_
                                refine WL.val (.inl rfl) rfl (yl_move rfl) ?_
                                refine WL.val (.inl rfl) rfl (yl_move rfl) ?_
                                refine WL.val (.inl rfl) rfl (yl_nil rfl) ?_
                                refine WL.val (.inl rfl) rfl (yl_fa fo119_0 rfl) ?_
                                refine WL.store 0 (.inl rfl) rfl rfl rfl sz3 rfl rfl rfl ?_
                                refine WL.nil ?_
                                refine WE.end0 rfl fun w' hw => ?_
                                have hw := hw.fronti 5 rfl
                                have hw := hw.fronti 5 rfl
                                have hw := hw.fronti 5 rfl
                                have hw := hw.fronti 5 rfl
                                have hw := hw.fronti 5 rfl
                                have hw := hw.fronti 5 rfl
                                have hw := Ws.keep (L := [_, _, _, _, _, _]) hw
                                refine ⟨GSt.at_ (IntKind.i64.wrap (g.s.at_ + 1)) r255, rfl, ⟨?_, GSt.good.at hr255.2 _⟩, hw⟩
                                show setAt (IntKind.i64.wrap (g.s.at_ + 1)) r255.pg = _
                                unfold doG doA
                                simp only [hc0, hc1, hc3, hc5, hc7, hc9, hc11, hc13, hc15, hc16, hc17, hc21, hc22, hc24, hc26, Bool.false_eq_true, if_false, if_true]
                                rw [hr255.1]
                                all_goals rfl
                              ·
                                refine WC.seq ?_
                                refine WC.region ?_
                                refine WL.val (.inl rfl) rfl (yl_eq rfl rfl) ?_
                                refine WL.val (.inl rfl) rfl (yl_assign rfl) ?_
                                refine WL.nil ?_
                                refine WE.then_normal ?_
                                refine WC.cond rfl (fun hc27 => ?_) (fun hc27 => ?_)
                                ·
                                  refine WC.seq ?_
                                  refine WC.seq ?_
                                  refine WC.region ?_
                                  refine WL.val (.inl rfl) rfl (yl_move rfl) ?_
                                  refine WL.val (.inl rfl) rfl (yl_nil rfl) ?_
                                  refine WL.val (.inl rfl) rfl (yl_fa fo119_2 rfl) ?_
                                  refine WL.val (.inl rfl) rfl (yl_ldk 1 rfl rfl rfl na117) ?_
                                  refine WL.val (.inl rfl) rfl (yl_len es117 rfl) ?_
                                  refine WL.val (.inl rfl) rfl (yl_eq rfl rfl) ?_
                                  refine WL.nil ?_
                                  refine WE.then_normal ?_
                                  refine WC.cond rfl (fun hc28 => ?_) (fun hc28 => ?_)
                                  ·
                                    have hl28 : g.s.frames.length = 1 := by rw [hfr] at hc28; simp at hc28; omega
                                    refine WC.seq ?_
                                    refine WC.region ?_
                                    refine WL.val (.inl rfl) rfl (yl_move rfl) ?_
                                    refine WL.front 6 rfl ?_
                                    refine WL.front 6 rfl ?_
                                    refine WL.front 6 rfl ?_
                                    refine WL.front 6 rfl ?_
                                    refine WL.front 6 rfl ?_
                                    refine WL.front 6 rfl ?_
                                    refine WL.callw (ι := Unit) [_, _, _, _, _, _] _ (.inl rfl) rfl en66 rfl rfl (fun _ => .tuple #[]) (fun _ => (GSt.own bg (g.stp 6))) (fun _ => True) [HI] (by simp) (fun w hw => (gstop_any bg g HI 6 w hg hw).mono fun e w' h => ⟨(), h.1, trivial, h.2⟩) ?_
                                    intro _ _
                                    refine WL.nil ?_
                                    refine WE.then_normal ?_
                                    refine WC.ret ?_
                                    refine WE.then_ret ?_
                                    refine WE.block_ret ?_
                                    refine WE.then_ret ?_
                                    refine WE.ret0 rfl fun w' hw => ?_
                                    have hw := hw.fronti 5 rfl
                                    have hw := hw.fronti 5 rfl
                                    have hw := hw.fronti 5 rfl
                                    have hw := hw.fronti 5 rfl
                                    have hw := hw.fronti 5 rfl
                                    have hw := hw.fronti 5 rfl
                                    have hw := Ws.keep (L := [_, _, _, _, _, _]) hw
                                    refine ⟨(g.stp 6), rfl, ⟨?_, (hg.stp 6)⟩, hw⟩
                                    unfold doG doA
                                    simp only [hc0, hc1, hc3, hc5, hc7, hc9, hc11, hc13, hc15, hc16, hc17, hc21, hc22, hc24, hc26, hc27, Bool.false_eq_true, if_false, if_true]
                                    rw [if_pos (show g.pg.m.frames.length = 1 by show (g.s.frames.map MFr.pu).length = 1; simpa using hl28), stp_pg]
                                  ·
                                    have hl28 : ¬ g.s.frames.length = 1 := by rw [hfr] at hc28; simp at hc28; omega
                                    refine WC.skip ?_
                                    refine WE.then_normal ?_
                                    refine WC.seq ?_
                                    refine WC.region ?_
                                    refine WL.val (.inl rfl) rfl (yl_move rfl) ?_
                                    refine WL.val (.inl rfl) rfl (yl_nil rfl) ?_
                                    refine WL.val (.inl rfl) rfl (yl_fa fo116_1 rfl) ?_
                                    refine WL.val (.inl rfl) rfl (yl_ldT (y := f) 3 (g.s.frames.length - 1) 1 rfl rfl hfb rfl MFr.cells_len hft rfl na3) ?_
                                    refine WL.val (.inl rfl) rfl (yl_assign rfl) ?_
                                    refine WL.nil ?_
                                    refine WE.then_normal ?_
                                    refine WC.drawU (fun _ => true) [] [14] (.q false 0 (.q false 1 (.q false 2 (.q false 3 (.q true 4 (.q false 5 (.q false 6 (.q false 7 (.q true 8 (.q false 9 (.q false 10 (.q false 11 (.q false 12 (.q false 13 .nil)))))))))))))) mixed (by kernel_rfl) (fun _ _ _ d _ _ h => by cases d <;> exact h) ?_
                                    refine WU.q rfl (.inl rfl) rfl (fun _ h => h) (yl_move rfl) ?_
                                    refine WU.q rfl (.inl rfl) rfl (fun _ h => h) (yl_move rfl) ?_
                                    refine WU.q rfl (.inl rfl) rfl (fun _ h => h) (yl_nil rfl) ?_
                                    refine WU.q rfl (.inl rfl) rfl (fun _ h => h) (yl_fa fo119_2 rfl) ?_
                                    refine WU.q rfl (.inl rfl) rfl (fun _ h => h) (yl_ldk 1 rfl rfl rfl na117) ?_
                                    refine WU.q rfl (.inl rfl) rfl (fun _ h => h) (yl_move rfl) ?_
                                    refine WU.q rfl (.inl rfl) rfl (fun _ h => h) (yl_nil rfl) ?_
                                    refine WU.q rfl (.inl rfl) rfl (fun _ h => h) (yl_fa fo119_2 rfl) ?_
                                    refine WU.q rfl (.inl rfl) rfl (fun _ h => h) (yl_ldk 1 rfl rfl rfl na117) ?_
                                    refine WU.q rfl (.inl rfl) rfl (fun _ h => h) (yl_len es117 rfl) ?_
                                    refine WU.q rfl (.inl rfl) rfl (fun _ h => h) (yl_subv ((r.reverse.length : Nat) : Int) rfl rfl (by rw [hfr]; simp; omega) (by simp; omega)) ?_
                                    refine WU.q rfl (.inl rfl) rfl (fun _ h => h) (yl_slhn r.reverse.length es117 rfl (fun p hp => by rw [hfb] at hp; injection hp with hp; subst hp; rfl) rfl rfl (by simp; omega)) ?_
                                    refine WU.q rfl (.inl rfl) rfl (fun _ h => h) (yl_nil rfl) ?_
                                    refine WU.q rfl (.inl rfl) rfl (fun _ h => h) (yl_fa fo119_2 rfl) ?_
                                    refine WU.nil (fun _ h => h) ?_
                                    refine WS.e rfl ?_
                                    refine WL.store 1 (.inl rfl) rfl rfl rfl sz117 rfl rfl rfl ?_
                                    refine WL.truncT2 3 r.reverse rfl MFr.cells_len (by simp [hfs]) (by rw [hfs]; simp) ?_
                                    refine WL.nil ?_
                                    refine WE.toS ?_
                                    refine WS.nil ?_
                                    refine WE.block_normal ?_
                                    refine WE.then_normal ?_
                                    refine WC.region ?_
                                    refine WL.val (.inl rfl) rfl (yl_move rfl) ?_
                                    refine WL.val (.inl rfl) rfl (yl_move rfl) ?_
                                    refine WL.val (.inl rfl) rfl (yl_nil rfl) ?_
                                    refine WL.val (.inl rfl) rfl (yl_fa fo119_0 rfl) ?_
                                    refine WL.store 1 (.inl rfl) rfl rfl rfl sz3 rfl rfl rfl ?_
                                    refine WL.nil ?_
                                    refine WE.end0 rfl fun w' hw => ?_
                                    have hw := hw.fronti 6 rfl
                                    have hw := hw.fronti 6 rfl
                                    have hw := hw.fronti 6 rfl
                                    have hw := hw.fronti 6 rfl
                                    have hw := hw.fronti 6 rfl
                                    have hw := hw.fronti 6 rfl
                                    have hw := Ws.keep (L := [_, _, _, _, _, _]) hw
                                    rw [hfs] at hw
                                    have hw := hw.fam_tail 5 rfl
                                    refine ⟨GSt.at_ f.back ⟨{ g.s with frames := r }, g.fin, g.over⟩, rfl, ⟨?_, ⟨hg.inp, hg.stk, ⟨by show 1 ≤ r.length; omega, by show r.length ≤ 26; omega⟩, fun ho => by show r.length ≤ 25; omega, hg.out, hg.dat⟩⟩, hw⟩
                                    unfold doG doA
                                    simp only [hc0, hc1, hc3, hc5, hc7, hc9, hc11, hc13, hc15, hc16, hc17, hc21, hc22, hc24, hc26, hc27, Bool.false_eq_true, if_false, if_true]
                                    rw [if_neg (show ¬ g.pg.m.frames.length = 1 by show ¬ (g.s.frames.map MFr.pu).length = 1; simpa using hl28), show g.pg.m.frames = f.pu :: r.map MFr.pu by show g.s.frames.map MFr.pu = _; rw [hfs]; rfl]
                                    all_goals rfl
                                ·
                                  refine WC.seq ?_
                                  refine WC.region ?_
                                  refine WL.val (.inl rfl) rfl (yl_eq rfl rfl) ?_
                                  refine WL.val (.inl rfl) rfl (yl_assign rfl) ?_
                                  refine WL.nil ?_
                                  refine WE.then_normal ?_
                                  refine WC.cond rfl (fun hc29 => ?_) (fun hc29 => ?_)
                                  ·
                                    refine WC.region ?_
                                    refine WL.val (.inl rfl) rfl (yl_move rfl) ?_
                                    refine WL.front 6 rfl ?_
                                    refine WL.front 6 rfl ?_
                                    refine WL.front 6 rfl ?_
                                    refine WL.front 6 rfl ?_
                                    refine WL.front 6 rfl ?_
                                    refine WL.front 6 rfl ?_
                                    refine WL.callw (ι := Unit) [_, _, _, _, _, _] _ (.inl rfl) rfl en98 rfl rfl (fun _ => .tuple #[]) (fun _ => (GSt.own bg g.tick)) (fun _ => True) [HI] (by simp) (fun w hw => (gtick_any bg g HI  w hg hw).mono fun e w' h => ⟨(), h.1, trivial, h.2⟩) ?_
                                    intro _ _
                                    refine WL.nil ?_
                                    refine WE.block_normal ?_
                                    refine WE.then_normal ?_
                                    refine WC.region ?_
                                    refine WL.val (.inl rfl) rfl (yl_move rfl) ?_
                                    refine WL.val (.inl rfl) rfl (yl_move rfl) ?_
                                    refine WL.val (.inl rfl) rfl (yl_nil rfl) ?_
                                    refine WL.val (.inl rfl) rfl (yl_fa fo119_0 rfl) ?_
                                    refine WL.store 0 (.inl rfl) rfl rfl rfl sz3 rfl rfl rfl ?_
                                    refine WL.nil ?_
                                    refine WE.end0 rfl fun w' hw => ?_
                                    have hw := hw.fronti 5 rfl
                                    have hw := hw.fronti 5 rfl
                                    have hw := hw.fronti 5 rfl
                                    have hw := hw.fronti 5 rfl
                                    have hw := hw.fronti 5 rfl
                                    have hw := hw.fronti 5 rfl
                                    have hw := Ws.keep (L := [_, _, _, _, _, _]) hw
                                    refine ⟨GSt.at_ (IntKind.i64.wrap (g.s.at_ + 1)) g.tick, rfl, ⟨?_, GSt.good.at hg.tick _⟩, hw⟩
                                    show setAt (IntKind.i64.wrap (g.s.at_ + 1)) g.tick.pg = _
                                    unfold doG doA
                                    simp only [hc0, hc1, hc3, hc5, hc7, hc9, hc11, hc13, hc15, hc16, hc17, hc21, hc22, hc24, hc26, hc27, hc29, Bool.false_eq_true, if_false, if_true]
                                    rw [tick_pg]
                                    all_goals rfl
                                  ·
                                    refine WC.seq ?_
                                    refine WC.region ?_
                                    refine WL.val (.inl rfl) rfl (yl_eq rfl rfl) ?_
                                    refine WL.val (.inl rfl) rfl (yl_assign rfl) ?_
                                    refine WL.nil ?_
                                    refine WE.then_normal ?_
                                    refine WC.cond rfl (fun hc30 => ?_) (fun hc30 => ?_)
                                    ·
                                      refine WC.region ?_
                                      refine WL.val (.inl rfl) rfl (yl_move rfl) ?_
                                      refine WL.front 6 rfl ?_
                                      refine WL.front 6 rfl ?_
                                      refine WL.front 6 rfl ?_
                                      refine WL.front 6 rfl ?_
                                      refine WL.front 6 rfl ?_
                                      refine WL.front 6 rfl ?_
                                      refine WL.callw (ι := Unit) [_, _, _, _, _, _] _ (.inl rfl) rfl en96 rfl rfl (fun _ => .int .i64 g.pop.1) (fun _ => (GSt.own bg g.pop.2)) (fun _ => True) [HI] (by simp) (fun w hw => (gpop_any bg g HI  w hg hw).mono fun e w' h => ⟨(), h.1, trivial, h.2⟩) ?_
                                      intro _ _
                                      refine WL.nil ?_
                                      refine WE.block_normal ?_
                                      refine WE.then_normal ?_
                                      refine WC.region ?_
                                      refine WL.val (.inl rfl) rfl (yl_move rfl) ?_
                                      refine WL.val (.inl rfl) rfl (yl_move rfl) ?_
                                      refine WL.val (.inl rfl) rfl (yl_nil rfl) ?_
                                      refine WL.val (.inl rfl) rfl (yl_fa fo119_0 rfl) ?_
                                      refine WL.store 0 (.inl rfl) rfl rfl rfl sz3 rfl rfl rfl ?_
                                      refine WL.nil ?_
                                      refine WE.end0 rfl fun w' hw => ?_
                                      have hw := hw.fronti 5 rfl
                                      have hw := hw.fronti 5 rfl
                                      have hw := hw.fronti 5 rfl
                                      have hw := hw.fronti 5 rfl
                                      have hw := hw.fronti 5 rfl
                                      have hw := hw.fronti 5 rfl
                                      have hw := Ws.keep (L := [_, _, _, _, _, _]) hw
                                      refine ⟨GSt.at_ (IntKind.i64.wrap (g.s.at_ + 1)) g.pop.2, rfl, ⟨?_, GSt.good.at hgp _⟩, hw⟩
                                      show setAt (IntKind.i64.wrap (g.s.at_ + 1)) g.pop.2.pg = _
                                      unfold doG doA
                                      simp only [hc0, hc1, hc3, hc5, hc7, hc9, hc11, hc13, hc15, hc16, hc17, hc21, hc22, hc24, hc26, hc27, hc29, hc30, Bool.false_eq_true, if_false, if_true]
                                      simp only [pop_pg]
                                      all_goals rfl
                                    ·
                                      refine WC.seq ?_
                                      refine WC.region ?_
                                      refine WL.val (.inl rfl) rfl (yl_eq rfl rfl) ?_
                                      refine WL.val (.inl rfl) rfl (yl_assign rfl) ?_
                                      refine WL.nil ?_
                                      refine WE.then_normal ?_
                                      refine WC.cond rfl (fun hc31 => ?_) (fun hc31 => ?_)
                                      ·
                                        refine WC.seq ?_
                                        refine WC.region ?_
                                        refine WL.val (.inl rfl) rfl (yl_assign rfl) ?_
                                        refine WL.nil ?_
                                        refine WE.then_normal ?_
                                        refine WC.seq ?_
                                        refine WC.seq ?_
                                        refine WC.region ?_
                                        refine WL.val (.inl rfl) rfl (yl_move rfl) ?_
                                        refine WL.val (.inl rfl) rfl (yl_nil rfl) ?_
                                        refine WL.val (.inl rfl) rfl (yl_fa fo119_4 rfl) ?_
                                        refine WL.val (.inl rfl) rfl (yl_ldk 1 rfl rfl rfl na50) ?_
                                        refine WL.val (.inl rfl) rfl (yl_len es50 rfl) ?_
                                        refine WL.val (.inl rfl) rfl (yl_gt rfl rfl) ?_
                                        refine WL.nil ?_
                                        refine WE.then_normal ?_
                                        refine WC.cond rfl (fun hc32 => ?_) (fun hc32 => ?_)
                                        ·
                                          obtain ⟨x305, q305, hin⟩ : ∃ x q, g.s.inp = x :: q := by
                                            cases h : g.s.inp with
                                            | nil => rw [h] at hc32; simp at hc32
                                            | cons x q => exact ⟨x, q, rfl⟩
                                          obtain ⟨ib, io, hia, hrow⟩ := hg.inp.elt 0 x305 (by rw [hin]; rfl)
                                          have hrow : vc HI ib (io + 0 * 1) = some (.int .i64 x305) := hrow
                                          have hil : 0 < g.s.inp.length := by rw [hin]; simp
                                          refine WC.region ?_
                                          refine WL.val (.inl rfl) rfl (yl_move rfl) ?_
                                          refine WL.val (.inl rfl) rfl (yl_nil rfl) ?_
                                          refine WL.val (.inl rfl) rfl (yl_fa fo119_4 rfl) ?_
                                          refine WL.val (.inl rfl) rfl (yl_ldk 1 rfl rfl rfl na50) ?_
                                          refine WL.val (.inl rfl) rfl (yl_iao (i := 0) es50 rfl rfl hia (by omega)) ?_
                                          refine WL.val (.inl rfl) rfl (yl_ld 0 na3 rfl rfl (hrow)) ?_
                                          refine WL.val (.inl rfl) rfl (yl_assign rfl) ?_
                                          refine WL.nil ?_
                                          refine WE.then_normal ?_
                                          refine WC.seq ?_
                                          refine WC.region ?_
                                          refine WL.val (.inl rfl) rfl (yl_move rfl) ?_
                                          refine WL.val (.inl rfl) rfl (yl_move rfl) ?_
                                          refine WL.front 6 rfl ?_
                                          refine WL.front 6 rfl ?_
                                          refine WL.front 6 rfl ?_
                                          refine WL.front 6 rfl ?_
                                          refine WL.front 6 rfl ?_
                                          refine WL.front 6 rfl ?_
                                          refine WL.callw (ι := GSt) [_, _, _, _, _, _] _ (.inl rfl) rfl en94 rfl rfl (fun r => .tuple #[]) (fun r => (GSt.own bg r)) (fun r => (r.pg = pushG (x305) g.pg ∧ r.good HI)) [HI] (by simp) (fun w hw => gpush_any bg g HI (x305) w hg hw) ?_
                                          intro r308 hr308
                                          refine WL.nil ?_
                                          refine WE.then_normal ?_
                                          refine WC.seq ?_
                                          refine WC.region ?_
                                          refine WL.val (.inl rfl) rfl (yl_move rfl) ?_
                                          refine WL.val (.inl rfl) rfl (yl_nil rfl) ?_
                                          refine WL.val (.inl rfl) rfl (yl_fa fo119_4 rfl) ?_
                                          refine WL.val (.inl rfl) rfl (yl_ldk 0 rfl rfl rfl na50) ?_
                                          refine WL.val (.inl rfl) rfl (yl_len es50 rfl) ?_
                                          refine WL.val (.inl rfl) rfl (yl_gt rfl rfl) ?_
                                          refine WL.nil ?_
                                          refine WE.then_normal ?_
                                          refine WC.cond rfl (fun hc33 => ?_) (fun hc33 => ?_)
                                          ·
                                            obtain ⟨y3, q3, hin3⟩ : ∃ x q, r308.s.inp = x :: q := by
                                              cases h : r308.s.inp with
                                              | nil => rw [h] at hc33; simp at hc33
                                              | cons x q => exact ⟨x, q, rfl⟩
                                            have hic3 := hr308.2.inp.cap
                                            have hil3 : 0 < r308.s.inp.length := by rw [hin3]; simp
                                            refine WC.region ?_
                                            refine WL.val (.inl rfl) rfl (yl_move rfl) ?_
                                            refine WL.val (.inl rfl) rfl (yl_move rfl) ?_
                                            refine WL.val (.inl rfl) rfl (yl_nil rfl) ?_
                                            refine WL.val (.inl rfl) rfl (yl_fa fo119_4 rfl) ?_
                                            refine WL.val (.inl rfl) rfl (yl_ldk 0 rfl rfl rfl na50) ?_
                                            refine WL.val (.inl rfl) rfl (yl_slln 1 es50 rfl rfl rfl (by omega) hic3) ?_
                                            refine WL.val (.inl rfl) rfl (yl_nil rfl) ?_
                                            refine WL.val (.inl rfl) rfl (yl_fa fo119_4 rfl) ?_
                                            refine WL.store 0 (.inl rfl) rfl rfl rfl sz50 rfl rfl rfl ?_
                                            refine WL.nil ?_
                                            refine WE.block_normal ?_
                                            refine WE.then_normal ?_
                                            refine WC.region ?_
                                            refine WL.val (.inl rfl) rfl (yl_move rfl) ?_
                                            refine WL.val (.inl rfl) rfl (yl_move rfl) ?_
                                            refine WL.val (.inl rfl) rfl (yl_nil rfl) ?_
                                            refine WL.val (.inl rfl) rfl (yl_fa fo119_0 rfl) ?_
                                            refine WL.store 0 (.inl rfl) rfl rfl rfl sz3 rfl rfl rfl ?_
                                            refine WL.nil ?_
                                            refine WE.end0 rfl fun w' hw => ?_
                                            have hw := hw.fronti 5 rfl
                                            have hw := hw.fronti 5 rfl
                                            have hw := hw.fronti 5 rfl
                                            have hw := hw.fronti 5 rfl
                                            have hw := hw.fronti 5 rfl
                                            have hw := hw.fronti 5 rfl
                                            have hw := Ws.keep (L := [_, _, _, _, _, _]) hw
                                            have hd := hr308.2.inp.drop 1 (by rw [hin3]; simp)
                                            rw [show r308.s.inp.drop 1 = q3 by rw [hin3]; rfl] at hd
                                            rw [show r308.s.inp.length - 1 = q3.length by rw [hin3]; rfl] at hw
                                            refine ⟨GSt.at_ (IntKind.i64.wrap (g.s.at_ + 1)) ⟨{ r308.s with inp := q3, ia := _, ic := r308.s.ic - 1 }, r308.fin, r308.over⟩, rfl, ⟨?_, ⟨hd, hr308.2.stk, hr308.2.frs, hr308.2.frn, hr308.2.out, hr308.2.dat⟩⟩, hw⟩
                                            unfold doG doA
                                            simp only [hc0, hc1, hc3, hc5, hc7, hc9, hc11, hc13, hc15, hc16, hc17, hc21, hc22, hc24, hc26, hc27, hc29, hc30, hc31, Bool.false_eq_true, if_false, if_true]
                                            rw [show g.pg.m.inp.head?.getD 0 = x305 by show g.s.inp.head?.getD 0 = _; rw [hin]; rfl]
                                            rw [← hr308.1]
                                            unfold tailG
                                            rw [show r308.pg.m.inp = y3 :: q3 from hin3]
                                            all_goals rfl
                                          ·
                                            have hin3 : r308.s.inp = [] := by
                                              cases h : r308.s.inp with
                                              | nil => rfl
                                              | cons x q => rw [h] at hc33; simp at hc33
                                            refine WC.skip ?_
                                            refine WE.block_normal ?_
                                            refine WE.then_normal ?_
                                            refine WC.region ?_
                                            refine WL.val (.inl rfl) rfl (yl_move rfl) ?_
                                            refine WL.val (.inl rfl) rfl (yl_move rfl) ?_
                                            refine WL.val (.inl rfl) rfl (yl_nil rfl) ?_
                                            refine WL.val (.inl rfl) rfl (yl_fa fo119_0 rfl) ?_
                                            refine WL.store 0 (.inl rfl) rfl rfl rfl sz3 rfl rfl rfl ?_
                                            refine WL.nil ?_
                                            refine WE.end0 rfl fun w' hw => ?_
                                            have hw := hw.fronti 5 rfl
                                            have hw := hw.fronti 5 rfl
                                            have hw := hw.fronti 5 rfl
                                            have hw := hw.fronti 5 rfl
                                            have hw := hw.fronti 5 rfl
                                            have hw := hw.fronti 5 rfl
                                            have hw := Ws.keep (L := [_, _, _, _, _, _]) hw
                                            refine ⟨GSt.at_ (IntKind.i64.wrap (g.s.at_ + 1)) r308, rfl, ⟨?_, GSt.good.at hr308.2 _⟩, hw⟩
                                            show setAt (IntKind.i64.wrap (g.s.at_ + 1)) r308.pg = _
                                            unfold doG doA
                                            simp only [hc0, hc1, hc3, hc5, hc7, hc9, hc11, hc13, hc15, hc16, hc17, hc21, hc22, hc24, hc26, hc27, hc29, hc30, hc31, Bool.false_eq_true, if_false, if_true]
                                            rw [show g.pg.m.inp.head?.getD 0 = x305 by show g.s.inp.head?.getD 0 = _; rw [hin]; rfl]
                                            rw [← hr308.1]
                                            unfold tailG
                                            rw [show r308.pg.m.inp = [] from hin3]
                                            have e : r308.pg.m = { r308.pg.m with inp := [] } := by rw [← show r308.pg.m.inp = [] from hin3]
                                            show setAt _ r308.pg = setAt _ ⟨{ r308.pg.m with inp := [] }, r308.pg.fin, r308.pg.over⟩
                                            rw [← e]
                                            all_goals rfl
                                        ·
                                          have hin : g.s.inp = [] := by
                                            cases h : g.s.inp with
                                            | nil => rfl
                                            | cons x q => rw [h] at hc32; simp at hc32
                                          refine WC.skip ?_
                                          refine WE.then_normal ?_
                                          refine WC.seq ?_
                                          refine WC.region ?_
                                          refine WL.val (.inl rfl) rfl (yl_move rfl) ?_
                                          refine WL.val (.inl rfl) rfl (yl_move rfl) ?_
                                          refine WL.front 6 rfl ?_
                                          refine WL.front 6 rfl ?_
                                          refine WL.front 6 rfl ?_
                                          refine WL.front 6 rfl ?_
                                          refine WL.front 6 rfl ?_
                                          refine WL.front 6 rfl ?_
                                          refine WL.callw (ι := GSt) [_, _, _, _, _, _] _ (.inl rfl) rfl en94 rfl rfl (fun r => .tuple #[]) (fun r => (GSt.own bg r)) (fun r => (r.pg = pushG (0) g.pg ∧ r.good HI)) [HI] (by simp) (fun w hw => gpush_any bg g HI (0) w hg hw) ?_
                                          intro r308 hr308
                                          refine WL.nil ?_
                                          refine WE.then_normal ?_
                                          refine WC.seq ?_
                                          refine WC.region ?_
                                          refine WL.val (.inl rfl) rfl (yl_move rfl) ?_
                                          refine WL.val (.inl rfl) rfl (yl_nil rfl) ?_
                                          refine WL.val (.inl rfl) rfl (yl_fa fo119_4 rfl) ?_
                                          refine WL.val (.inl rfl) rfl (yl_ldk 0 rfl rfl rfl na50) ?_
                                          refine WL.val (.inl rfl) rfl (yl_len es50 rfl) ?_
                                          refine WL.val (.inl rfl) rfl (yl_gt rfl rfl) ?_
                                          refine WL.nil ?_
                                          refine WE.then_normal ?_
                                          refine WC.cond rfl (fun hc33 => ?_) (fun hc33 => ?_)
                                          ·
                                            obtain ⟨y3, q3, hin3⟩ : ∃ x q, r308.s.inp = x :: q := by
                                              cases h : r308.s.inp with
                                              | nil => rw [h] at hc33; simp at hc33
                                              | cons x q => exact ⟨x, q, rfl⟩
                                            have hic3 := hr308.2.inp.cap
                                            have hil3 : 0 < r308.s.inp.length := by rw [hin3]; simp
                                            refine WC.region ?_
                                            refine WL.val (.inl rfl) rfl (yl_move rfl) ?_
                                            refine WL.val (.inl rfl) rfl (yl_move rfl) ?_
                                            refine WL.val (.inl rfl) rfl (yl_nil rfl) ?_
                                            refine WL.val (.inl rfl) rfl (yl_fa fo119_4 rfl) ?_
                                            refine WL.val (.inl rfl) rfl (yl_ldk 0 rfl rfl rfl na50) ?_
                                            refine WL.val (.inl rfl) rfl (yl_slln 1 es50 rfl rfl rfl (by omega) hic3) ?_
                                            refine WL.val (.inl rfl) rfl (yl_nil rfl) ?_
                                            refine WL.val (.inl rfl) rfl (yl_fa fo119_4 rfl) ?_
                                            refine WL.store 0 (.inl rfl) rfl rfl rfl sz50 rfl rfl rfl ?_
                                            refine WL.nil ?_
                                            refine WE.block_normal ?_
                                            refine WE.then_normal ?_
                                            refine WC.region ?_
                                            refine WL.val (.inl rfl) rfl (yl_move rfl) ?_
                                            refine WL.val (.inl rfl) rfl (yl_move rfl) ?_
                                            refine WL.val (.inl rfl) rfl (yl_nil rfl) ?_
                                            refine WL.val (.inl rfl) rfl (yl_fa fo119_0 rfl) ?_
                                            refine WL.store 0 (.inl rfl) rfl rfl rfl sz3 rfl rfl rfl ?_
                                            refine WL.nil ?_
                                            refine WE.end0 rfl fun w' hw => ?_
                                            have hw := hw.fronti 5 rfl
                                            have hw := hw.fronti 5 rfl
                                            have hw := hw.fronti 5 rfl
                                            have hw := hw.fronti 5 rfl
                                            have hw := hw.fronti 5 rfl
                                            have hw := hw.fronti 5 rfl
                                            have hw := Ws.keep (L := [_, _, _, _, _, _]) hw
                                            have hd := hr308.2.inp.drop 1 (by rw [hin3]; simp)
                                            rw [show r308.s.inp.drop 1 = q3 by rw [hin3]; rfl] at hd
                                            rw [show r308.s.inp.length - 1 = q3.length by rw [hin3]; rfl] at hw
                                            refine ⟨GSt.at_ (IntKind.i64.wrap (g.s.at_ + 1)) ⟨{ r308.s with inp := q3, ia := _, ic := r308.s.ic - 1 }, r308.fin, r308.over⟩, rfl, ⟨?_, ⟨hd, hr308.2.stk, hr308.2.frs, hr308.2.frn, hr308.2.out, hr308.2.dat⟩⟩, hw⟩
                                            unfold doG doA
                                            simp only [hc0, hc1, hc3, hc5, hc7, hc9, hc11, hc13, hc15, hc16, hc17, hc21, hc22, hc24, hc26, hc27, hc29, hc30, hc31, Bool.false_eq_true, if_false, if_true]
                                            rw [show g.pg.m.inp.head?.getD 0 = 0 by show g.s.inp.head?.getD 0 = _; rw [hin]; rfl]
                                            rw [← hr308.1]
                                            unfold tailG
                                            rw [show r308.pg.m.inp = y3 :: q3 from hin3]
                                            all_goals rfl
                                          ·
                                            have hin3 : r308.s.inp = [] := by
                                              cases h : r308.s.inp with
                                              | nil => rfl
                                              | cons x q => rw [h] at hc33; simp at hc33
                                            refine WC.skip ?_
                                            refine WE.block_normal ?_
                                            refine WE.then_normal ?_
                                            refine WC.region ?_
                                            refine WL.val (.inl rfl) rfl (yl_move rfl) ?_
                                            refine WL.val (.inl rfl) rfl (yl_move rfl) ?_
                                            refine WL.val (.inl rfl) rfl (yl_nil rfl) ?_
                                            refine WL.val (.inl rfl) rfl (yl_fa fo119_0 rfl) ?_
                                            refine WL.store 0 (.inl rfl) rfl rfl rfl sz3 rfl rfl rfl ?_
                                            refine WL.nil ?_
                                            refine WE.end0 rfl fun w' hw => ?_
                                            have hw := hw.fronti 5 rfl
                                            have hw := hw.fronti 5 rfl
                                            have hw := hw.fronti 5 rfl
                                            have hw := hw.fronti 5 rfl
                                            have hw := hw.fronti 5 rfl
                                            have hw := hw.fronti 5 rfl
                                            have hw := Ws.keep (L := [_, _, _, _, _, _]) hw
                                            refine ⟨GSt.at_ (IntKind.i64.wrap (g.s.at_ + 1)) r308, rfl, ⟨?_, GSt.good.at hr308.2 _⟩, hw⟩
                                            show setAt (IntKind.i64.wrap (g.s.at_ + 1)) r308.pg = _
                                            unfold doG doA
                                            simp only [hc0, hc1, hc3, hc5, hc7, hc9, hc11, hc13, hc15, hc16, hc17, hc21, hc22, hc24, hc26, hc27, hc29, hc30, hc31, Bool.false_eq_true, if_false, if_true]
                                            rw [show g.pg.m.inp.head?.getD 0 = 0 by show g.s.inp.head?.getD 0 = _; rw [hin]; rfl]
                                            rw [← hr308.1]
                                            unfold tailG
                                            rw [show r308.pg.m.inp = [] from hin3]
                                            have e : r308.pg.m = { r308.pg.m with inp := [] } := by rw [← show r308.pg.m.inp = [] from hin3]
                                            show setAt _ r308.pg = setAt _ ⟨{ r308.pg.m with inp := [] }, r308.pg.fin, r308.pg.over⟩
                                            rw [← e]
                                            all_goals rfl
                                      ·
                                        refine WC.seq ?_
                                        refine WC.region ?_
                                        refine WL.val (.inl rfl) rfl (yl_eq rfl rfl) ?_
                                        refine WL.val (.inl rfl) rfl (yl_assign rfl) ?_
                                        refine WL.nil ?_
                                        refine WE.then_normal ?_
                                        refine WC.cond rfl (fun hc34 => ?_) (fun hc34 => ?_)
                                        ·
                                          refine WC.seq ?_
                                          refine WC.region ?_
                                          refine WL.val (.inl rfl) rfl (yl_move rfl) ?_
                                          refine WL.front 6 rfl ?_
                                          refine WL.front 6 rfl ?_
                                          refine WL.front 6 rfl ?_
                                          refine WL.front 6 rfl ?_
                                          refine WL.front 6 rfl ?_
                                          refine WL.front 6 rfl ?_
                                          refine WL.callw (ι := Unit) [_, _, _, _, _, _] _ (.inl rfl) rfl en96 rfl rfl (fun _ => .int .i64 g.pop.1) (fun _ => (GSt.own bg g.pop.2)) (fun _ => True) [HI] (by simp) (fun w hw => (gpop_any bg g HI  w hg hw).mono fun e w' h => ⟨(), h.1, trivial, h.2⟩) ?_
                                          intro _ _
                                          refine WL.val (.inl rfl) rfl (yl_assign rfl) ?_
                                          refine WL.nil ?_
                                          refine WE.then_normal ?_
                                          refine WC.seq ?_
                                          refine WC.seq ?_
                                          refine WC.region ?_
                                          refine WL.val (.inl rfl) rfl (yl_move rfl) ?_
                                          refine WL.val (.inl rfl) rfl (yl_nil rfl) ?_
                                          refine WL.val (.inl rfl) rfl (yl_fa fo119_9 rfl) ?_
                                          refine WL.val (.inl rfl) rfl (yl_ldk 0 rfl rfl rfl na4) ?_
                                          refine WL.val (.inl rfl) rfl (yl_not rfl) ?_
                                          refine WL.val (.inl rfl) rfl (yl_move rfl) ?_
                                          apply WL.and 6 rfl rfl rfl rfl (.inl rfl) rfl rfl rfl rfl rfl
                                          ·
                                            intro hg1
                                            refine WL.val (.inr ⟨_, _, _, rfl, rfl, rfl⟩) rfl (yl_move rfl) ?_
                                            refine WL.val (.inr ⟨_, _, _, rfl, rfl, rfl⟩) rfl (yl_nil rfl) ?_
                                            refine WL.val (.inr ⟨_, _, _, rfl, rfl, rfl⟩) rfl (yl_fa fo119_5 rfl) ?_
                                            refine WL.val (.inr ⟨_, _, _, rfl, rfl, rfl⟩) rfl (yl_ldk 0 rfl rfl rfl na50) ?_
                                            refine WL.val (.inr ⟨_, _, _, rfl, rfl, rfl⟩) rfl (yl_len es50 rfl) ?_
                                            refine WL.val (.inr ⟨_, _, _, rfl, rfl, rfl⟩) rfl (yl_ge rfl rfl) ?_
                                            exact Got.intro 6 rfl rfl rfl
                                          refine WL.nil ?_
                                          refine WE.then_normal ?_
                                          refine WC.cond rfl (fun hc35 => ?_) (fun hc35 => ?_)
                                          ·
                                            have ho35 : g.pop.2.pg.over = false ∧ 200 ≤ g.pop.2.pg.m.out.length := by
                                              have h := hc35
                                              simp at h
                                              exact ⟨h.1, by show 200 ≤ g.pop.2.s.out.length; omega⟩
                                            refine WC.region ?_
                                            refine WL.val (.inl rfl) rfl (yl_move rfl) ?_
                                            refine WL.front 5 rfl ?_
                                            refine WL.front 5 rfl ?_
                                            refine WL.front 5 rfl ?_
                                            refine WL.front 5 rfl ?_
                                            refine WL.front 5 rfl ?_
                                            refine WL.front 5 rfl ?_
                                            refine WL.callw (ι := Unit) [_, _, _, _, _, _] _ (.inl rfl) rfl en66 rfl rfl (fun _ => .tuple #[]) (fun _ => (GSt.own bg (g.pop.2.stp 5))) (fun _ => True) [HI] (by simp) (fun w hw => (gstop_any bg g.pop.2 HI 5 w hgp hw).mono fun e w' h => ⟨(), h.1, trivial, h.2⟩) ?_
                                            intro _ _
                                            refine WL.nil ?_
                                            refine WE.then_normal ?_
                                            refine WC.seq ?_
                                            refine WC.region ?_
                                            refine WL.val (.inl rfl) rfl (yl_move rfl) ?_
                                            refine WL.val (.inl rfl) rfl (yl_nil rfl) ?_
                                            refine WL.val (.inl rfl) rfl (yl_fa fo119_9 rfl) ?_
                                            refine WL.val (.inl rfl) rfl (yl_ldk 0 rfl rfl rfl na4) ?_
                                            refine WL.val (.inl rfl) rfl (yl_not rfl) ?_
                                            refine WL.nil ?_
                                            refine WE.then_normal ?_
                                            refine WC.cond rfl (fun hc36 => ?_) (fun hc36 => ?_)
                                            ·
                                              exfalso
                                              have := stp_over 5 g.pop.2
                                              rw [this] at hc36
                                              cases hc36
                                            ·
                                              have ho36 : (g.pop.2.stp 5).over = true := by simpa using hc36
                                              refine WC.skip ?_
                                              refine WE.block_normal ?_
                                              refine WE.then_normal ?_
                                              refine WC.region ?_
                                              refine WL.val (.inl rfl) rfl (yl_move rfl) ?_
                                              refine WL.val (.inl rfl) rfl (yl_move rfl) ?_
                                              refine WL.val (.inl rfl) rfl (yl_nil rfl) ?_
                                              refine WL.val (.inl rfl) rfl (yl_fa fo119_0 rfl) ?_
                                              refine WL.store 0 (.inl rfl) rfl rfl rfl sz3 rfl rfl rfl ?_
                                              refine WL.nil ?_
                                              refine WE.end0 rfl fun w' hw => ?_
                                              have hw := hw.fronti 5 rfl
                                              have hw := hw.fronti 5 rfl
                                              have hw := hw.fronti 5 rfl
                                              have hw := hw.fronti 5 rfl
                                              have hw := hw.fronti 5 rfl
                                              have hw := hw.fronti 5 rfl
                                              have hw := Ws.keep (L := [_, _, _, _, _, _]) hw
                                              refine ⟨GSt.at_ (IntKind.i64.wrap (g.s.at_ + 1)) (g.pop.2.stp 5), rfl, ⟨?_, GSt.good.at (hgp.stp 5) _⟩, hw⟩
                                              show setAt (IntKind.i64.wrap (g.s.at_ + 1)) (g.pop.2.stp 5).pg = _
                                              unfold doG doA
                                              simp only [hc0, hc1, hc3, hc5, hc7, hc9, hc11, hc13, hc15, hc16, hc17, hc21, hc22, hc24, hc26, hc27, hc29, hc30, hc31, hc34, Bool.false_eq_true, if_false, if_true]
                                              simp only [pop_pg]
                                              unfold outG
                                              rw [show (if g.pop.2.pg.over = false ∧ 200 ≤ g.pop.2.pg.m.out.length then stopG 5 g.pop.2.pg else g.pop.2.pg) = (g.pop.2.stp 5).pg by rw [if_pos ho35, stp_pg]]
                                              unfold putOut
                                              rw [show (g.pop.2.stp 5).pg.over = true from ho36]
                                              all_goals rfl
                                          ·
                                            have ho35 : ¬ (g.pop.2.pg.over = false ∧ 200 ≤ g.pop.2.pg.m.out.length) := by
                                              rintro ⟨h1, h2⟩
                                              have h1 : g.pop.2.over = false := h1
                                              have h2 : 200 ≤ g.pop.2.s.out.length := h2
                                              simp [h1] at hc35
                                              omega
                                            refine WC.skip ?_
                                            refine WE.then_normal ?_
                                            refine WC.seq ?_
                                            refine WC.region ?_
                                            refine WL.val (.inl rfl) rfl (yl_move rfl) ?_
                                            refine WL.val (.inl rfl) rfl (yl_nil rfl) ?_
                                            refine WL.val (.inl rfl) rfl (yl_fa fo119_9 rfl) ?_
                                            refine WL.val (.inl rfl) rfl (yl_ldk 0 rfl rfl rfl na4) ?_
                                            refine WL.val (.inl rfl) rfl (yl_not rfl) ?_
                                            refine WL.nil ?_
                                            refine WE.then_normal ?_
                                            refine WC.cond rfl (fun hc36 => ?_) (fun hc36 => ?_)
                                            ·
                                              have ho36 : g.pop.2.over = false := by simpa using hc36
                                              have hol : g.pop.2.s.out.length < 200 := by
                                                have := fun h => ho35 ⟨ho36, h⟩
                                                have h2 : ¬ 200 ≤ g.pop.2.s.out.length := this
                                                omega
                                              refine WC.region ?_
                                              refine WL.val (.inl rfl) rfl (yl_move rfl) ?_
                                              refine WL.val (.inl rfl) rfl (yl_move rfl) ?_
                                              refine WL.val (.inl rfl) rfl (yl_nil rfl) ?_
                                              refine WL.val (.inl rfl) rfl (yl_fa fo119_5 rfl) ?_
                                              refine WL.val (.inl rfl) rfl (yl_ldk 0 rfl rfl rfl na50) ?_
                                              refine WL.val (.inl rfl) rfl (yl_move rfl) ?_
                                              refine WL.bsliceF (.inl rfl) rfl el50 rfl rfl rfl rfl fun b353 => ?_
                                              refine WL.appT (xs := g.pop.2.s.out) g.pop.1 4 0 (.inl rfl) rfl el50 rfl rfl rfl rfl rfl rfl (by omega) (by omega) fun a354 c354 => ?_
                                              refine WL.val (.inl rfl) rfl (yl_nil rfl) ?_
                                              refine WL.val (.inl rfl) rfl (yl_fa fo119_5 rfl) ?_
                                              refine WL.store 1 (.inl rfl) rfl rfl rfl sz50 rfl rfl rfl ?_
                                              refine WL.nil ?_
                                              refine WE.block_normal ?_
                                              refine WE.then_normal ?_
                                              refine WC.region ?_
                                              refine WL.val (.inl rfl) rfl (yl_move rfl) ?_
                                              refine WL.val (.inl rfl) rfl (yl_move rfl) ?_
                                              refine WL.val (.inl rfl) rfl (yl_nil rfl) ?_
                                              refine WL.val (.inl rfl) rfl (yl_fa fo119_0 rfl) ?_
                                              refine WL.store 1 (.inl rfl) rfl rfl rfl sz3 rfl rfl rfl ?_
                                              refine WL.nil ?_
                                              refine WE.end0 rfl fun w' hw => ?_
                                              have hw := hw.fronti 6 rfl
                                              have hw := hw.fronti 6 rfl
                                              have hw := hw.fronti 6 rfl
                                              have hw := hw.fronti 6 rfl
                                              have hw := hw.fronti 6 rfl
                                              have hw := hw.fronti 6 rfl
                                              have hw := Ws.keep (L := [_, _, _, _, _, _]) hw
                                              refine ⟨GSt.at_ (IntKind.i64.wrap (g.s.at_ + 1)) ⟨{ g.pop.2.s with out := g.pop.2.s.out ++ [g.pop.1], oa := a354, oc := c354 }, g.pop.2.fin, g.pop.2.over⟩, rfl, ⟨?_, ⟨hgp.inp, hgp.stk, hgp.frs, hgp.frn, by show (g.pop.2.s.out ++ [g.pop.1]).length ≤ 200; rw [List.length_append]; simp; omega, hgp.dat⟩⟩, hw⟩
                                              unfold doG doA
                                              simp only [hc0, hc1, hc3, hc5, hc7, hc9, hc11, hc13, hc15, hc16, hc17, hc21, hc22, hc24, hc26, hc27, hc29, hc30, hc31, hc34, Bool.false_eq_true, if_false, if_true]
                                              simp only [pop_pg]
                                              unfold outG
                                              rw [show (if g.pop.2.pg.over = false ∧ 200 ≤ g.pop.2.pg.m.out.length then stopG 5 g.pop.2.pg else g.pop.2.pg) = g.pop.2.pg by rw [if_neg ho35]]
                                              rw [putOut_not (show g.pop.2.pg.over = false from ho36)]
                                              all_goals rfl
                                            ·
                                              have ho36 : g.pop.2.over = true := by simpa using hc36
                                              refine WC.skip ?_
                                              refine WE.block_normal ?_
                                              refine WE.then_normal ?_
                                              refine WC.region ?_
                                              refine WL.val (.inl rfl) rfl (yl_move rfl) ?_
                                              refine WL.val (.inl rfl) rfl (yl_move rfl) ?_
                                              refine WL.val (.inl rfl) rfl (yl_nil rfl) ?_
                                              refine WL.val (.inl rfl) rfl (yl_fa fo119_0 rfl) ?_
                                              refine WL.store 0 (.inl rfl) rfl rfl rfl sz3 rfl rfl rfl ?_
                                              refine WL.nil ?_
                                              refine WE.end0 rfl fun w' hw => ?_
                                              have hw := hw.fronti 5 rfl
                                              have hw := hw.fronti 5 rfl
                                              have hw := hw.fronti 5 rfl
                                              have hw := hw.fronti 5 rfl
                                              have hw := hw.fronti 5 rfl
                                              have hw := hw.fronti 5 rfl
                                              have hw := Ws.keep (L := [_, _, _, _, _, _]) hw
                                              refine ⟨GSt.at_ (IntKind.i64.wrap (g.s.at_ + 1)) g.pop.2, rfl, ⟨?_, GSt.good.at hgp _⟩, hw⟩
                                              show setAt (IntKind.i64.wrap (g.s.at_ + 1)) g.pop.2.pg = _
                                              unfold doG doA
                                              simp only [hc0, hc1, hc3, hc5, hc7, hc9, hc11, hc13, hc15, hc16, hc17, hc21, hc22, hc24, hc26, hc27, hc29, hc30, hc31, hc34, Bool.false_eq_true, if_false, if_true]
                                              simp only [pop_pg]
                                              unfold outG
                                              rw [show (if g.pop.2.pg.over = false ∧ 200 ≤ g.pop.2.pg.m.out.length then stopG 5 g.pop.2.pg else g.pop.2.pg) = g.pop.2.pg by rw [if_neg ho35]]
                                              unfold putOut
                                              rw [show g.pop.2.pg.over = true from ho36]
                                              all_goals rfl
                                        ·
                                          refine WC.seq ?_
                                          refine WC.region ?_
                                          refine WL.val (.inl rfl) rfl (yl_eq rfl rfl) ?_
                                          refine WL.val (.inl rfl) rfl (yl_assign rfl) ?_
                                          refine WL.nil ?_
                                          refine WE.then_normal ?_
                                          refine WC.cond rfl (fun hc37 => ?_) (fun hc37 => ?_)
                                          ·
                                            refine WC.region ?_
                                            refine WL.val (.inl rfl) rfl (yl_move rfl) ?_
                                            refine WL.front 6 rfl ?_
                                            refine WL.front 6 rfl ?_
                                            refine WL.front 6 rfl ?_
                                            refine WL.front 6 rfl ?_
                                            refine WL.front 6 rfl ?_
                                            refine WL.front 6 rfl ?_
                                            refine WL.callw (ι := Unit) [_, _, _, _, _, _] _ (.inl rfl) rfl en66 rfl rfl (fun _ => .tuple #[]) (fun _ => (GSt.own bg (g.stp 0))) (fun _ => True) [HI] (by simp) (fun w hw => (gstop_any bg g HI 0 w hg hw).mono fun e w' h => ⟨(), h.1, trivial, h.2⟩) ?_
                                            intro _ _
                                            refine WL.nil ?_
                                            refine WE.block_normal ?_
                                            refine WE.then_normal ?_
                                            refine WC.region ?_
                                            refine WL.val (.inl rfl) rfl (yl_move rfl) ?_
                                            refine WL.val (.inl rfl) rfl (yl_move rfl) ?_
                                            refine WL.val (.inl rfl) rfl (yl_nil rfl) ?_
                                            refine WL.val (.inl rfl) rfl (yl_fa fo119_0 rfl) ?_
                                            refine WL.store 0 (.inl rfl) rfl rfl rfl sz3 rfl rfl rfl ?_
                                            refine WL.nil ?_
                                            refine WE.end0 rfl fun w' hw => ?_
                                            have hw := hw.fronti 5 rfl
                                            have hw := hw.fronti 5 rfl
                                            have hw := hw.fronti 5 rfl
                                            have hw := hw.fronti 5 rfl
                                            have hw := hw.fronti 5 rfl
                                            have hw := hw.fronti 5 rfl
                                            have hw := Ws.keep (L := [_, _, _, _, _, _]) hw
                                            refine ⟨GSt.at_ (IntKind.i64.wrap (g.s.at_ + 1)) (g.stp 0), rfl, ⟨?_, GSt.good.at (hg.stp 0) _⟩, hw⟩
                                            show setAt (IntKind.i64.wrap (g.s.at_ + 1)) (g.stp 0).pg = _
                                            unfold doG doA
                                            simp only [hc0, hc1, hc3, hc5, hc7, hc9, hc11, hc13, hc15, hc16, hc17, hc21, hc22, hc24, hc26, hc27, hc29, hc30, hc31, hc34, hc37, Bool.false_eq_true, if_false, if_true]
                                            rw [← stp_pg]
                                            all_goals rfl
                                          ·
                                            refine WC.skip ?_
                                            refine WE.block_normal ?_
                                            refine WE.then_normal ?_
                                            refine WC.region ?_
                                            refine WL.val (.inl rfl) rfl (yl_move rfl) ?_
                                            refine WL.val (.inl rfl) rfl (yl_move rfl) ?_
                                            refine WL.val (.inl rfl) rfl (yl_nil rfl) ?_
                                            refine WL.val (.inl rfl) rfl (yl_fa fo119_0 rfl) ?_
                                            refine WL.store 1 (.inl rfl) rfl rfl rfl sz3 rfl rfl rfl ?_
                                            refine WL.nil ?_
                                            refine WE.end0 rfl fun w' hw => ?_
                                            have hw := hw.fronti 6 rfl
                                            have hw := hw.fronti 6 rfl
                                            have hw := hw.fronti 6 rfl
                                            have hw := hw.fronti 6 rfl
                                            have hw := hw.fronti 6 rfl
                                            have hw := hw.fronti 6 rfl
                                            have hw := Ws.keep (L := [_, _, _, _, _, _]) hw
                                            refine ⟨GSt.at_ (IntKind.i64.wrap (g.s.at_ + 1)) g, rfl, ⟨?_, GSt.good.at hg _⟩, hw⟩
                                            show setAt (IntKind.i64.wrap (g.s.at_ + 1)) g.pg = _
                                            unfold doG doA
                                            simp only [hc0, hc1, hc3, hc5, hc7, hc9, hc11, hc13, hc15, hc16, hc17, hc21, hc22, hc24, hc26, hc27, hc29, hc30, hc31, hc34, hc37, Bool.false_eq_true, if_false, if_true]
                                            all_goals rfl

end Go.Proofs.Ytagoencpeflmlaa
