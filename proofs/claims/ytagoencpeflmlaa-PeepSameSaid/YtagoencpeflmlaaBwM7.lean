/- Walks of the machine that the compiler hands over, and plain laws on what they compute; each theorem tells its own conditions. -/
import Derived.Test.YtagoencpeflmlaaRows
import Derived.Test.YtagoencpeflmlaaBwM6
import Derived.Test.YtagoencpeflmlaaBw26
namespace Go.Proofs.Ytagoencpeflmlaa
open Go.Bw
set_option linter.unusedVariables false
set_option linter.unusedSimpArgs false

abbrev MSt.at1 (s : MSt) : MSt := { s with at_ := IntKind.i64.wrap (s.at_ + 1) }
def Pm.at1 (m : Pm) : Pm := { m with at_ := IntKind.i64.wrap (m.at_ + 1) }
theorem MSt.good.at {HI : View} {s : MSt} (h : s.good HI) (a : Int) : MSt.good HI { s with at_ := a } := ⟨h.inp, h.stk, h.frs, h.out, h.dat⟩
def locP (m : Pm) : List Int := match m.frames with | [] => [] | f :: _ => f.1
def setLoc (m : Pm) (k : Nat) (n : Int) : Pm := { m with frames := match m.frames with | [] => [] | f :: r => (f.1.set k n, f.2) :: r }
def stepB (i : Ins) (m : Pm) : Rz Unit :=
  if (i.op == 1) = true then pushM i.a m
  else if (i.op == 2) = true then (if outsideB i.a (locP m).length = true then .ov 6 m else pushM ((locP m)[i.a.toNat]?.getD 0) m)
  else if (i.op == 3) = true then (topM m).bind fun n m => if outsideB i.a (locP m).length = true then .ov 6 m else .ok () (setLoc m i.a.toNat n)
  else if (i.op == 4) = true then (if outsideB i.a m.data.length = true then .ov 6 m else pushM (m.data[i.a.toNat]?.getD 0) m)
  else if (i.op == 5) = true then (topM m).bind fun n m => if outsideB i.a m.data.length = true then .ov 6 m else .ok () { m with data := m.data.set i.a.toNat n }
  else if (i.op == 6) = true then (topM m).bind fun n m => if (decide (n < 0) || decide (i.b ≤ n)) = true then .ov 2 m else pushM (IntKind.i64.wrap (i.a + n)) m
  else if (i.op == 7) = true then (topM m).bind fun n m => if outsideB n m.data.length = true then .ov 6 m else pushM (m.data[n.toNat]?.getD 0) m
  else if (i.op == 8) = true then (topM m).bind fun n m => (topM m).bind fun k m => if outsideB k m.data.length = true then .ov 6 m else .ok () { m with data := m.data.set k.toNat n }
  else if (i.op == 9) = true then (topM m).bind fun n m => pushM (bitI (n == 0)) m
  else if (i.op == 22) = true then (topM m).bind fun n m => pushM (bitI (n != 0)) m
  else if (i.op == 10) = true then mathM i.a m
  else if (i.op == 11) = true then .ok () { m with at_ := i.a }
  else if (i.op == 12) = true then (topM m).bind fun n m => if (n == 0) = true then .ok () { m with at_ := i.a } else .ok () m
  else if (i.op == 13) = true then callM i.a m
  else if (i.op == 14) = true then enterM i.a i.b m
  else if (i.op == 15) = true then retM m
  else if (i.op == 16) = true then tickM m
  else if (i.op == 17) = true then (topM m).bind fun _ m => .ok () m
  else if (i.op == 18) = true then pushM (readM m).1 (readM m).2
  else if (i.op == 19) = true then (topM m).bind fun n m => if m.out.length = 200 then .ov 5 m else .ok () { m with out := m.out ++ [n] }
  else if (i.op == 20) = true then .ov 0 m
  else .ok () m
def stepM (i : Ins) (m : Pm) : Rz Unit := stepB i m.at1
theorem own_setloc {s : MSt} {f : MFr} {r : List MFr} (hfs : s.frames = f :: r) (k : Nat) (n : Int) : s.obj = MSt.obj { s with frames := { f with loc := f.loc.set k n } :: r } ∧ osT 137 2 MFr.cells s.fa s.fc s.frames.reverse = osT 137 2 MFr.cells s.fa s.fc ({ f with loc := f.loc.set k n } :: r).reverse := by
  constructor
  · simp [MSt.obj, hfs]
  · simp [hfs, MFr.cells, osT]
theorem own_setdat (s : MSt) (k : Nat) (n : Int) : s.obj = MSt.obj { s with data := s.data.set k n } := by simp [MSt.obj]
theorem loc_pu {s : MSt} {f : MFr} {r : List MFr} (hfs : s.frames = f :: r) : locP s.pu = f.loc := by
  show (match s.frames.map MFr.pu with | [] => [] | f :: _ => f.1) = _
  rw [hfs]; rfl
theorem setLoc_pu {s : MSt} {f : MFr} {r : List MFr} (hfs : s.frames = f :: r) (k : Nat) (n : Int) : setLoc s.pu k n = MSt.pu { s with frames := { f with loc := f.loc.set k n } :: r } := by
  show ({ s.pu with frames := match s.frames.map MFr.pu with | [] => [] | f :: r => (f.1.set k n, f.2) :: r } : Pm) = _
  rw [hfs]; rfl
theorem frs_cons {HI : View} {s : MSt} (h : s.good HI) : ∃ f r, s.frames = f :: r := by
  have := h.frs.1
  cases hs : s.frames with
  | nil => rw [hs] at this; simp at this
  | cons f r => exact ⟨f, r, rfl⟩
theorem frs_top {s : MSt} {f : MFr} {r : List MFr} (hfs : s.frames = f :: r) : s.frames.reverse[s.frames.length - 1]? = some f := by
  rw [hfs, List.reverse_cons, List.getElem?_append_right (by simp)]; simp
theorem not_outside {i : Int} {n : Nat} (h : outsideB i n = false) : 0 ≤ i ∧ i.toNat < n := by
  unfold outsideB at h
  simp at h
  omega
theorem en84 : Enters Try.prog 84 := enters_of Try.func84 (by kernel_rfl) rfl
theorem fo53_2 : fieldOff Try.prog 53 2 = some 2 := by kernel_rfl
theorem fo65_2 : fieldOff Try.prog 65 2 = some 2 := by kernel_rfl
theorem en88 : Enters Try.prog 88 := enters_of Try.func88 (by kernel_rfl) rfl
theorem en89 : Enters Try.prog 89 := enters_of Try.func89 (by kernel_rfl) rfl
theorem en90 : Enters Try.prog 90 := enters_of Try.func90 (by kernel_rfl) rfl
theorem en91 : Enters Try.prog 91 := enters_of Try.func91 (by kernel_rfl) rfl
theorem en93 : Enters Try.prog 93 := enters_of Try.func93 (by kernel_rfl) rfl
theorem fo53_1 : fieldOff Try.prog 53 1 = some 1 := by kernel_rfl

set_option maxHeartbeats 4000000 in
theorem step_any (bm : Nat) (s : MSt) (HI : View) (i : Ins) (w : World) (hg : s.good HI) (hw : Ws w ((MSt.own bm s).flatMap Asr.ids) (MSt.own bm s) [HI] w) :
    Calls Try.prog 65 #[.pointer (some ⟨bm, 0, none⟩), .agg #[.int .i64 i.op, .int .i64 i.a, .int .i64 i.b]] w fun e w' => (∃ r : Unit × MSt, e = .returned (.tuple #[]) ∧ (stepM i s.pu = .ok r.1 r.2.pu ∧ r.2.good HI) ∧ Ws w ((MSt.own bm s).flatMap Asr.ids) (MSt.own bm r.2) [HI] w') ∨ (∃ r : Int × MSt, e = .panicked (ovr r.1) ∧ stepM i s.pu = .ov r.1 r.2.pu ∧ Ws w ((MSt.own bm s).flatMap Asr.ids) (MSt.own bm r.2) [HI] w') := by
  have hlr : s.stack.reverse.length = s.stack.length := by simp
  have hfr : s.frames.reverse.length = s.frames.length := by simp
  have hgs := hg.stk
  have hgf := hg.frs
  have hgo := hg.out
  have hgd := hg.dat
  refine enter Try.func65 rfl 225 rfl rfl ?_
  refine WC.world (W' := Ws w ((MSt.own bm s).flatMap Asr.ids) (MSt.own bm s) [HI]) (fun _ e => by subst e; exact hw) ?_
  refine WC.seq ?_
  refine WC.region ?_
  refine WL.box (.inl rfl) rfl rfl fun b3 => ?_
  refine WL.nil ?_
  refine WE.then_normal ?_
  refine WC.seq ?_
  refine WC.region ?_
  refine WL.val (.inl rfl) rfl (yl_move rfl) ?_
  refine WL.val (.inl rfl) rfl (yl_nil rfl) ?_
  refine WL.val (.inl rfl) rfl (yl_fa fo108_0 rfl) ?_
  refine WL.val (.inl rfl) rfl (yl_ldk 1 rfl rfl rfl na3) ?_
  refine WL.val (.inl rfl) rfl (yl_addw rfl rfl) ?_
  refine WL.val (.inl rfl) rfl (yl_nil rfl) ?_
  refine WL.val (.inl rfl) rfl (yl_fa fo108_0 rfl) ?_
  refine WL.store 1 (.inl rfl) rfl rfl rfl sz3 rfl rfl rfl ?_
  refine WL.reblk 1 (MSt.obj (MSt.at1 s)) rfl rfl ?_
  have hg1 : MSt.good HI (MSt.at1 s) := hg.at _
  refine WL.nil ?_
  refine WE.then_normal ?_
  refine WC.seq ?_
  refine WC.region ?_
  refine WL.val (.inl rfl) rfl (yl_fa fo65_0 rfl) ?_
  refine WL.val (.inl rfl) rfl (yl_ldk 0 rfl rfl rfl na3) ?_
  refine WL.nil ?_
  refine WE.then_normal ?_
  refine WC.block ?_
  refine WC.seq ?_
  refine WC.region ?_
  refine WL.val (.inl rfl) rfl (yl_eq rfl rfl) ?_
  refine WL.val (.inl rfl) rfl (yl_assign rfl) ?_
  refine WL.nil ?_
  refine WE.then_normal ?_
  refine WC.cond rfl (fun hc0 => ?_) (fun hc0 => ?_)
  ·
    refine WC.region ?_
    refine WL.val (.inl rfl) rfl (yl_move rfl) ?_
    refine WL.val (.inl rfl) rfl (yl_fa fo65_1 rfl) ?_
    refine WL.val (.inl rfl) rfl (yl_ldk 0 rfl rfl rfl na3) ?_
    refine WL.front 6 rfl ?_
    refine WL.front 6 rfl ?_
    refine WL.front 6 rfl ?_
    refine WL.front 6 rfl ?_
    refine WL.front 6 rfl ?_
    refine WL.front 6 rfl ?_
    refine WL.callwx (ι := Unit × MSt) (κ := Int × MSt) [_, _, _, _, _, _] _ (.inl rfl) rfl en83 rfl rfl (fun r => .tuple #[]) (fun r => (MSt.own bm r.2)) (fun r => pushM i.a (MSt.at1 s).pu = .ok r.1 r.2.pu ∧ r.2.good HI) (fun r => ovr r.1) (fun r => (MSt.own bm r.2)) (fun r => pushM i.a (MSt.at1 s).pu = .ov r.1 r.2.pu) ([HI]) (by simp) (fun w hw => push_any bm (MSt.at1 s) HI i.a w hg1 hw) ?_ ?_
    ·
      intro r23 hr23
      refine WE.block_panic ?_
      refine WE.panics fun w' hw => ?_
      have hw := hw.fronti 5 rfl
      have hw := hw.fronti 5 rfl
      have hw := hw.fronti 5 rfl
      have hw := hw.fronti 5 rfl
      have hw := hw.fronti 5 rfl
      have hw := hw.fronti 5 rfl
      have hw := Ws.keep (L := [_, _, _, _, _, _]) hw
      refine .inr ⟨r23, rfl, ?_, hw⟩
      unfold stepM stepB
      rw [show s.pu.at1 = (MSt.at1 s).pu from rfl]
      simp only [hc0, Bool.false_eq_true, if_false, if_true]
      exact hr23
    intro r23 ⟨hr23, hg23⟩
    refine WL.nil ?_
    refine WE.block_normal ?_
    refine WE.end0 rfl fun w' hw => ?_
    have hw := hw.fronti 5 rfl
    have hw := hw.fronti 5 rfl
    have hw := hw.fronti 5 rfl
    have hw := hw.fronti 5 rfl
    have hw := hw.fronti 5 rfl
    have hw := hw.fronti 5 rfl
    have hw := Ws.keep (L := [_, _, _, _, _, _]) hw
    refine .inl ⟨((), r23.2), rfl, ⟨?_, hg23⟩, hw⟩
    unfold stepM stepB
    rw [show s.pu.at1 = (MSt.at1 s).pu from rfl]
    simp only [hc0, Bool.false_eq_true, if_false, if_true]
    exact hr23
  ·
    refine WC.seq ?_
    refine WC.region ?_
    refine WL.val (.inl rfl) rfl (yl_eq rfl rfl) ?_
    refine WL.val (.inl rfl) rfl (yl_assign rfl) ?_
    refine WL.nil ?_
    refine WE.then_normal ?_
    refine WC.cond rfl (fun hc1 => ?_) (fun hc1 => ?_)
    ·
      obtain ⟨f, r, hfs⟩ := frs_cons hg1
      refine WC.fact (p := 0 < f.loc.length → ∃ b o, f.la = some ⟨b, o, none⟩) (fun w hw hp => fam_shape (As := (MSt.at1 s).frames.map MFr.own) hw 6 rfl (by rw [hfs]; exact List.mem_cons_self) hp) fun hla => ?_
      have hft := frs_top hfs
      refine WC.drawU (fun _ => true) [] [11] (.q false 0 (.q false 1 (.q false 6 (.q true 7 (.e 2 (.q false 3 (.q false 4 (.q true 5 (.e 8 (.q false 9 (.q true 10 .nil)) .stop)))) .stop))))) mixed (by kernel_rfl) (fun _ _ _ d _ _ h => by cases d <;> exact h) ?_
      refine WU.q rfl (.inl rfl) rfl (fun _ h => h) (yl_move rfl) ?_
      refine WU.q rfl (.inl rfl) rfl (fun _ h => h) (yl_move rfl) ?_
      refine WU.q rfl (.inl rfl) rfl (fun _ h => h) (yl_fa fo65_1 rfl) ?_
      refine WU.q rfl (.inl rfl) rfl (fun _ h => h) (yl_ldk 0 rfl rfl rfl na3) ?_
      refine WU.e rfl (fun _ h => h) ?_ WU.stop
      refine WL.front 6 rfl ?_
      refine WL.front 6 rfl ?_
      refine WL.front 6 rfl ?_
      refine WL.front 6 rfl ?_
      refine WL.front 6 rfl ?_
      refine WL.front 6 rfl ?_
      refine WL.callw (ι := Nat) [_, _, _, _, _, _] _ (.inl rfl) rfl en85 rfl rfl (fun r => .pointer (some ⟨r, 0 + ((MSt.at1 s).frames.length - 1) * 2, none⟩)) (fun _ => (MSt.own bm (MSt.at1 s))) (fun r => (MSt.at1 s).fa = some ⟨r, 0, none⟩) [HI] (by simp) (fun w hw => frame_any bm (MSt.at1 s) HI w hg1 hw) ?_
      intro fb28 hfb28
      refine WL.nil ?_
      refine WE.toU ?_
      refine WU.q rfl (.inl rfl) rfl (fun _ h => by have h := h.fronti 5 rfl; have h := h.fronti 5 rfl; have h := h.fronti 5 rfl; have h := h.fronti 5 rfl; have h := h.fronti 5 rfl; have h := h.fronti 5 rfl; have h := h.fronti 6 rfl; exact h) (yl_nil rfl) ?_
      refine WU.q rfl (.inl rfl) rfl (fun _ h => by have h := h.fronti 5 rfl; have h := h.fronti 5 rfl; have h := h.fronti 5 rfl; have h := h.fronti 5 rfl; have h := h.fronti 5 rfl; have h := h.fronti 5 rfl; have h := h.fronti 6 rfl; exact h) (yl_fa fo137_0 rfl) ?_
      refine WU.q rfl (.inl rfl) rfl (fun _ h => by have h := h.fronti 5 rfl; have h := h.fronti 5 rfl; have h := h.fronti 5 rfl; have h := h.fronti 5 rfl; have h := h.fronti 5 rfl; have h := h.fronti 5 rfl; have h := h.fronti 6 rfl; exact h) (yl_ldT (y := f) 3 (s.frames.length - 1) 0 rfl rfl hfb28 rfl MFr.cells_len hft rfl na50) ?_
      refine WU.e rfl (fun _ h => by have h := h.fronti 5 rfl; have h := h.fronti 5 rfl; have h := h.fronti 5 rfl; have h := h.fronti 5 rfl; have h := h.fronti 5 rfl; have h := h.fronti 5 rfl; have h := h.fronti 6 rfl; exact h) ?_ WU.stop
      refine WL.callwx (ι := Nat × Nat) (κ := Unit) [] _ (.inl rfl) rfl en84 rfl rfl (fun r => .pointer (some ⟨r.1, r.2 + (i.a).toNat * 1, none⟩)) (fun _ => []) (fun r => outsideB (i.a) (f.loc.length) = false ∧ f.la = some ⟨r.1, r.2, none⟩) (fun _ => ovr 6) (fun _ => []) (fun _ => outsideB (i.a) (f.loc.length) = true) ([]) (by simp) (fun w hw => (cell_any f.la _ (f.loc.length) (i.a) w hla).mono fun e w' h => by
          rcases h with ⟨r, h1, h2, h3⟩ | ⟨_, h1, h2, h3⟩
          · exact .inl ⟨r, h1, h2, hw.ext h3⟩
          · exact .inr ⟨(), h1, h2, hw.ext h3⟩) ?_ ?_
      ·
        intro _ ho34
        refine WE.then_panic ?_
        refine WE.block_panic ?_
        refine WE.panics fun w' hw => ?_
        have hw := hw.fronti 5 rfl
        have hw := hw.fronti 5 rfl
        have hw := hw.fronti 5 rfl
        have hw := hw.fronti 5 rfl
        have hw := hw.fronti 5 rfl
        have hw := hw.fronti 5 rfl
        have hw := Ws.keep (L := [_, _, _, _, _, _]) hw
        refine .inr ⟨(6, (MSt.at1 s)), rfl, ?_, hw⟩
        unfold stepM stepB
        rw [show s.pu.at1 = (MSt.at1 s).pu from rfl]
        simp only [hc0, hc1, Bool.false_eq_true, if_false, if_true]
        rw [loc_pu (s := (MSt.at1 s)) hfs, if_pos ho34]
      intro r34 ⟨ho34, ha34⟩
      obtain ⟨x36, hx36⟩ : ∃ x, f.loc[i.a.toNat]? = some x := ⟨_, List.getElem?_eq_getElem (not_outside ho34).2⟩
      refine WL.nil ?_
      refine WE.toU ?_
      refine WU.q rfl (.inl rfl) rfl (fun _ h => by have h := h.fronti 5 rfl; have h := h.fronti 5 rfl; have h := h.fronti 5 rfl; have h := h.fronti 5 rfl; have h := h.fronti 5 rfl; have h := h.fronti 5 rfl; have h := h.fronti 6 rfl; exact h) (yl_nil rfl) ?_
      refine WU.q rfl (.inl rfl) rfl (fun _ h => by have h := h.fronti 5 rfl; have h := h.fronti 5 rfl; have h := h.fronti 5 rfl; have h := h.fronti 5 rfl; have h := h.fronti 5 rfl; have h := h.fronti 5 rfl; have h := h.fronti 6 rfl; exact h) (yl_ldTF (xs := f.loc) (y := x36) 6 i.a.toNat 0 rfl rfl (by rw [hfs]; exact List.mem_cons_self) ha34 rfl iv_len hx36 rfl na3) ?_
      refine WU.nil (fun _ h => by have h := h.fronti 5 rfl; have h := h.fronti 5 rfl; have h := h.fronti 5 rfl; have h := h.fronti 5 rfl; have h := h.fronti 5 rfl; have h := h.fronti 5 rfl; have h := h.fronti 6 rfl; exact h) ?_
      refine WS.e rfl ?_
      refine WL.front 5 rfl ?_
      refine WL.front 5 rfl ?_
      refine WL.front 5 rfl ?_
      refine WL.front 5 rfl ?_
      refine WL.front 5 rfl ?_
      refine WL.front 5 rfl ?_
      refine WL.callwx (ι := Unit × MSt) (κ := Int × MSt) [_, _, _, _, _, _] _ (.inl rfl) rfl en83 rfl rfl (fun r => .tuple #[]) (fun r => (MSt.own bm r.2)) (fun r => pushM x36 (MSt.at1 s).pu = .ok r.1 r.2.pu ∧ r.2.good HI) (fun r => ovr r.1) (fun r => (MSt.own bm r.2)) (fun r => pushM x36 (MSt.at1 s).pu = .ov r.1 r.2.pu) ([HI]) (by simp) (fun w hw => push_any bm (MSt.at1 s) HI x36 w hg1 hw) ?_ ?_
      ·
        intro r37 hr37
        refine WE.then_panic ?_
        refine WE.block_panic ?_
        refine WE.panics fun w' hw => ?_
        have hw := hw.fronti 5 rfl
        have hw := hw.fronti 5 rfl
        have hw := hw.fronti 5 rfl
        have hw := hw.fronti 5 rfl
        have hw := hw.fronti 5 rfl
        have hw := hw.fronti 5 rfl
        have hw := Ws.keep (L := [_, _, _, _, _, _]) hw
        refine .inr ⟨r37, rfl, ?_, hw⟩
        unfold stepM stepB
        rw [show s.pu.at1 = (MSt.at1 s).pu from rfl]
        simp only [hc0, hc1, Bool.false_eq_true, if_false, if_true]
        rw [loc_pu (s := (MSt.at1 s)) hfs, ho34, if_neg (by simp), hx36]
        exact hr37
      intro r37 ⟨hr37, hg37⟩
      refine WL.nil ?_
      refine WE.toS ?_
      refine WS.nil ?_
      refine WE.block_normal ?_
      refine WE.end0 rfl fun w' hw => ?_
      have hw := hw.fronti 5 rfl
      have hw := hw.fronti 5 rfl
      have hw := hw.fronti 5 rfl
      have hw := hw.fronti 5 rfl
      have hw := hw.fronti 5 rfl
      have hw := hw.fronti 5 rfl
      have hw := Ws.keep (L := [_, _, _, _, _, _]) hw
      refine .inl ⟨((), r37.2), rfl, ⟨?_, hg37⟩, hw⟩
      unfold stepM stepB
      rw [show s.pu.at1 = (MSt.at1 s).pu from rfl]
      simp only [hc0, hc1, Bool.false_eq_true, if_false, if_true]
      rw [loc_pu (s := (MSt.at1 s)) hfs, ho34, if_neg (by simp), hx36]
      exact hr37
    ·
      refine WC.seq ?_
      refine WC.region ?_
      refine WL.val (.inl rfl) rfl (yl_eq rfl rfl) ?_
      refine WL.val (.inl rfl) rfl (yl_assign rfl) ?_
      refine WL.nil ?_
      refine WE.then_normal ?_
      refine WC.cond rfl (fun hc2 => ?_) (fun hc2 => ?_)
      ·
        refine WC.seq ?_
        refine WC.region ?_
        refine WL.val (.inl rfl) rfl (yl_move rfl) ?_
        refine WL.front 6 rfl ?_
        refine WL.front 6 rfl ?_
        refine WL.front 6 rfl ?_
        refine WL.front 6 rfl ?_
        refine WL.front 6 rfl ?_
        refine WL.front 6 rfl ?_
        refine WL.callwx (ι := Int × List Int) (κ := Int × MSt) [_, _, _, _, _, _] _ (.inl rfl) rfl en86 rfl rfl (fun r => .int .i64 r.1) (fun r => (MSt.own bm (MSt.wst (MSt.at1 s) r.2))) (fun r => topM (MSt.at1 s).pu = .ok r.1 (MSt.wst (MSt.at1 s) r.2).pu ∧ (MSt.wst (MSt.at1 s) r.2).good HI) (fun r => ovr r.1) (fun r => (MSt.own bm r.2)) (fun r => topM (MSt.at1 s).pu = .ov r.1 r.2.pu) ([HI]) (by simp) (fun w hw => top_any bm (MSt.at1 s) HI w hg1 hw) ?_ ?_
        ·
          intro r41 hr41
          refine WE.then_panic ?_
          refine WE.block_panic ?_
          refine WE.panics fun w' hw => ?_
          have hw := hw.fronti 5 rfl
          have hw := hw.fronti 5 rfl
          have hw := hw.fronti 5 rfl
          have hw := hw.fronti 5 rfl
          have hw := hw.fronti 5 rfl
          have hw := hw.fronti 5 rfl
          have hw := Ws.keep (L := [_, _, _, _, _, _]) hw
          refine .inr ⟨r41, rfl, ?_, hw⟩
          unfold stepM stepB
          rw [show s.pu.at1 = (MSt.at1 s).pu from rfl]
          simp only [hc0, hc1, hc2, Bool.false_eq_true, if_false, if_true]
          rw [hr41]
          rfl
        intro r41 ⟨hr41, hg41⟩
        refine WL.val (.inl rfl) rfl (yl_assign rfl) ?_
        refine WL.nil ?_
        refine WE.then_normal ?_
        obtain ⟨f, r, hfs⟩ := frs_cons hg41
        refine WC.fact (p := 0 < f.loc.length → ∃ b o, f.la = some ⟨b, o, none⟩) (fun w hw hp => fam_shape (As := (MSt.wst (MSt.at1 s) r41.2).frames.map MFr.own) hw 5 rfl (by rw [hfs]; exact List.mem_cons_self) hp) fun hla => ?_
        have hft := frs_top hfs
        refine WC.drawU (fun _ => true) [] [10] (.q false 0 (.q false 5 (.q true 6 (.q false 8 (.e 1 (.q false 2 (.q false 3 (.q true 4 (.e 7 (.q false 9 .nil) .stop)))) .stop))))) mixed (by kernel_rfl) (fun _ _ _ d _ _ h => by cases d <;> exact h) ?_
        refine WU.q rfl (.inl rfl) rfl (fun _ h => h) (yl_move rfl) ?_
        refine WU.q rfl (.inl rfl) rfl (fun _ h => h) (yl_fa fo65_1 rfl) ?_
        refine WU.q rfl (.inl rfl) rfl (fun _ h => h) (yl_ldk 6 rfl rfl rfl na3) ?_
        refine WU.q rfl (.inl rfl) rfl (fun _ h => h) (yl_move rfl) ?_
        refine WU.e rfl (fun _ h => h) ?_ WU.stop
        refine WL.front 5 rfl ?_
        refine WL.front 5 rfl ?_
        refine WL.front 5 rfl ?_
        refine WL.front 5 rfl ?_
        refine WL.front 5 rfl ?_
        refine WL.front 5 rfl ?_
        refine WL.callw (ι := Nat) [_, _, _, _, _, _] _ (.inl rfl) rfl en85 rfl rfl (fun r => .pointer (some ⟨r, 0 + ((MSt.wst (MSt.at1 s) r41.2).frames.length - 1) * 2, none⟩)) (fun _ => (MSt.own bm (MSt.wst (MSt.at1 s) r41.2))) (fun r => (MSt.wst (MSt.at1 s) r41.2).fa = some ⟨r, 0, none⟩) [HI] (by simp) (fun w hw => frame_any bm (MSt.wst (MSt.at1 s) r41.2) HI w hg41 hw) ?_
        intro fb43 hfb43
        refine WL.nil ?_
        refine WE.toU ?_
        refine WU.q rfl (.inl rfl) rfl (fun _ h => h) (yl_nil rfl) ?_
        refine WU.q rfl (.inl rfl) rfl (fun _ h => h) (yl_fa fo137_0 rfl) ?_
        refine WU.q rfl (.inl rfl) rfl (fun _ h => h) (yl_ldT (y := f) 2 (s.frames.length - 1) 0 rfl rfl hfb43 rfl MFr.cells_len hft rfl na50) ?_
        refine WU.e rfl (fun _ h => h) ?_ WU.stop
        refine WL.callwx (ι := Nat × Nat) (κ := Unit) [] _ (.inl rfl) rfl en84 rfl rfl (fun r => .pointer (some ⟨r.1, r.2 + (i.a).toNat * 1, none⟩)) (fun _ => []) (fun r => outsideB (i.a) (f.loc.length) = false ∧ f.la = some ⟨r.1, r.2, none⟩) (fun _ => ovr 6) (fun _ => []) (fun _ => outsideB (i.a) (f.loc.length) = true) ([]) (by simp) (fun w hw => (cell_any f.la _ (f.loc.length) (i.a) w hla).mono fun e w' h => by
            rcases h with ⟨r, h1, h2, h3⟩ | ⟨_, h1, h2, h3⟩
            · exact .inl ⟨r, h1, h2, hw.ext h3⟩
            · exact .inr ⟨(), h1, h2, hw.ext h3⟩) ?_ ?_
        ·
          intro _ ho49
          refine WE.then_panic ?_
          refine WE.block_panic ?_
          refine WE.panics fun w' hw => ?_
          have hw := hw.fronti 5 rfl
          have hw := hw.fronti 5 rfl
          have hw := hw.fronti 5 rfl
          have hw := hw.fronti 5 rfl
          have hw := hw.fronti 5 rfl
          have hw := hw.fronti 5 rfl
          have hw := Ws.keep (L := [_, _, _, _, _, _]) hw
          refine .inr ⟨(6, (MSt.wst (MSt.at1 s) r41.2)), rfl, ?_, hw⟩
          unfold stepM stepB
          rw [show s.pu.at1 = (MSt.at1 s).pu from rfl]
          simp only [hc0, hc1, hc2, Bool.false_eq_true, if_false, if_true]
          rw [hr41]
          show (if outsideB i.a (locP (MSt.wst (MSt.at1 s) r41.2).pu).length = true then _ else _) = _
          rw [loc_pu (s := (MSt.wst (MSt.at1 s) r41.2)) hfs, if_pos ho49]
        intro r49 ⟨ho49, ha49⟩
        obtain ⟨x49, hx49⟩ : ∃ x, f.loc[i.a.toNat]? = some x := ⟨_, List.getElem?_eq_getElem (not_outside ho49).2⟩
        refine WL.nil ?_
        refine WE.toU ?_
        refine WU.q rfl (.inl rfl) rfl (fun _ h => h) (yl_nil rfl) ?_
        refine WU.nil (fun _ h => h) ?_
        refine WS.e rfl ?_
        refine WL.reL (A' := fam (MFr.own f :: r.map MFr.own)) 5 rfl (by rw [hfs]; rfl) ?_
        refine WL.front 5 rfl ?_
        refine WL.famOpen ?_
        refine WL.storeT (y := x49) 0 i.a.toNat 0 r41.1 (.inl rfl) rfl rfl rfl ha49 rfl iv_len hx49 sz3 rfl rfl (by decide) rfl ?_
        refine WL.famShut ?_
        refine WL.nil ?_
        refine WE.toS ?_
        refine WS.nil ?_
        refine WE.block_normal ?_
        refine WE.end0 rfl fun w' hw => ?_
        have hw := hw.fronti 0 rfl
        have hw := hw.fronti 5 rfl
        have hw := hw.fronti 5 rfl
        have hw := hw.fronti 5 rfl
        have hw := hw.fronti 5 rfl
        have hw := hw.fronti 5 rfl
        have hw := Ws.keep (L := [_, _, _, _, _, _]) hw
        have e := own_setloc (s := (MSt.wst (MSt.at1 s) r41.2)) hfs i.a.toNat r41.1
        have hw := hw.reL 0 rfl (congrArg (blk bm) e.1)
        have hw := hw.reL 2 rfl e.2
        refine .inl ⟨((), { (MSt.wst (MSt.at1 s) r41.2) with frames := { f with loc := f.loc.set i.a.toNat r41.1 } :: r }), rfl, ⟨?_, ⟨hg1.inp, hg41.stk, by have := hg1.frs; rw [show ((MSt.at1 s)).frames = f :: r from hfs] at this; exact this, hg1.out, hg1.dat⟩⟩, hw⟩
        unfold stepM stepB
        rw [show s.pu.at1 = (MSt.at1 s).pu from rfl]
        simp only [hc0, hc1, hc2, Bool.false_eq_true, if_false, if_true]
        rw [hr41]
        show (if outsideB i.a (locP (MSt.wst (MSt.at1 s) r41.2).pu).length = true then _ else _) = _
        rw [loc_pu (s := (MSt.wst (MSt.at1 s) r41.2)) hfs, ho49, if_neg (by simp)]
        show Rz.ok () (setLoc (MSt.wst (MSt.at1 s) r41.2).pu i.a.toNat r41.1) = _
        rw [setLoc_pu (s := (MSt.wst (MSt.at1 s) r41.2)) hfs]
      ·
        refine WC.seq ?_
        refine WC.region ?_
        refine WL.val (.inl rfl) rfl (yl_eq rfl rfl) ?_
        refine WL.val (.inl rfl) rfl (yl_assign rfl) ?_
        refine WL.nil ?_
        refine WE.then_normal ?_
        refine WC.cond rfl (fun hc3 => ?_) (fun hc3 => ?_)
        ·
          refine WC.fact (p := 0 < s.data.length → ∃ b o, s.da = some ⟨b, o, none⟩) (fun w hw hp => osT_shape' hw 5 rfl hp) fun hda => ?_
          refine WC.drawU (fun _ => true) [] [11] (.q false 0 (.q false 1 (.q false 2 (.q false 3 (.q false 4 (.q true 5 (.q false 6 (.q true 7 (.e 8 (.q false 9 (.q true 10 .nil)) .stop))))))))) mixed (by kernel_rfl) (fun _ _ _ d _ _ h => by cases d <;> exact h) ?_
          refine WU.q rfl (.inl rfl) rfl (fun _ h => h) (yl_move rfl) ?_
          refine WU.q rfl (.inl rfl) rfl (fun _ h => h) (yl_move rfl) ?_
          refine WU.q rfl (.inl rfl) rfl (fun _ h => h) (yl_nil rfl) ?_
          refine WU.q rfl (.inl rfl) rfl (fun _ h => h) (yl_fa fo108_6 rfl) ?_
          refine WU.q rfl (.inl rfl) rfl (fun _ h => h) (yl_fa fo53_2 rfl) ?_
          refine WU.q rfl (.inl rfl) rfl (fun _ h => h) (yl_ldk 1 rfl rfl rfl na50) ?_
          refine WU.q rfl (.inl rfl) rfl (fun _ h => h) (yl_fa fo65_1 rfl) ?_
          refine WU.q rfl (.inl rfl) rfl (fun _ h => h) (yl_ldk 0 rfl rfl rfl na3) ?_
          refine WU.e rfl (fun _ h => h) ?_ WU.stop
          refine WL.callwx (ι := Nat × Nat) (κ := Unit) [] _ (.inl rfl) rfl en84 rfl rfl (fun r => .pointer (some ⟨r.1, r.2 + (i.a).toNat * 1, none⟩)) (fun _ => []) (fun r => outsideB (i.a) (s.data.length) = false ∧ s.da = some ⟨r.1, r.2, none⟩) (fun _ => ovr 6) (fun _ => []) (fun _ => outsideB (i.a) (s.data.length) = true) ([]) (by simp) (fun w hw => (cell_any s.da _ (s.data.length) (i.a) w hda).mono fun e w' h => by
              rcases h with ⟨r, h1, h2, h3⟩ | ⟨_, h1, h2, h3⟩
              · exact .inl ⟨r, h1, h2, hw.ext h3⟩
              · exact .inr ⟨(), h1, h2, hw.ext h3⟩) ?_ ?_
          ·
            intro _ ho62
            refine WE.then_panic ?_
            refine WE.block_panic ?_
            refine WE.panics fun w' hw => ?_
            have hw := hw.fronti 6 rfl
            have hw := hw.fronti 6 rfl
            have hw := hw.fronti 6 rfl
            have hw := hw.fronti 6 rfl
            have hw := hw.fronti 6 rfl
            have hw := hw.fronti 6 rfl
            have hw := Ws.keep (L := [_, _, _, _, _, _]) hw
            refine .inr ⟨(6, (MSt.at1 s)), rfl, ?_, hw⟩
            unfold stepM stepB
            rw [show s.pu.at1 = (MSt.at1 s).pu from rfl]
            simp only [hc0, hc1, hc2, hc3, Bool.false_eq_true, if_false, if_true]
            show (if outsideB i.a s.data.length = true then _ else _) = _
            rw [if_pos ho62]
          intro r62 ⟨ho62, ha62⟩
          obtain ⟨x64, hx64⟩ : ∃ x, s.data[i.a.toNat]? = some x := ⟨_, List.getElem?_eq_getElem (not_outside ho62).2⟩
          refine WL.nil ?_
          refine WE.toU ?_
          refine WU.q rfl (.inl rfl) rfl (fun _ h => h) (yl_nil rfl) ?_
          refine WU.q rfl (.inl rfl) rfl (fun _ h => h) (yl_ldT (y := x64) 5 i.a.toNat 0 rfl rfl ha62 rfl iv_len hx64 rfl na3) ?_
          refine WU.nil (fun _ h => h) ?_
          refine WS.e rfl ?_
          refine WL.front 6 rfl ?_
          refine WL.front 6 rfl ?_
          refine WL.front 6 rfl ?_
          refine WL.front 6 rfl ?_
          refine WL.front 6 rfl ?_
          refine WL.front 6 rfl ?_
          refine WL.callwx (ι := Unit × MSt) (κ := Int × MSt) [_, _, _, _, _, _] _ (.inl rfl) rfl en83 rfl rfl (fun r => .tuple #[]) (fun r => (MSt.own bm r.2)) (fun r => pushM x64 (MSt.at1 s).pu = .ok r.1 r.2.pu ∧ r.2.good HI) (fun r => ovr r.1) (fun r => (MSt.own bm r.2)) (fun r => pushM x64 (MSt.at1 s).pu = .ov r.1 r.2.pu) ([HI]) (by simp) (fun w hw => push_any bm (MSt.at1 s) HI x64 w hg1 hw) ?_ ?_
          ·
            intro r65 hr65
            refine WE.then_panic ?_
            refine WE.block_panic ?_
            refine WE.panics fun w' hw => ?_
            have hw := hw.fronti 5 rfl
            have hw := hw.fronti 5 rfl
            have hw := hw.fronti 5 rfl
            have hw := hw.fronti 5 rfl
            have hw := hw.fronti 5 rfl
            have hw := hw.fronti 5 rfl
            have hw := Ws.keep (L := [_, _, _, _, _, _]) hw
            refine .inr ⟨r65, rfl, ?_, hw⟩
            unfold stepM stepB
            rw [show s.pu.at1 = (MSt.at1 s).pu from rfl]
            simp only [hc0, hc1, hc2, hc3, Bool.false_eq_true, if_false, if_true]
            show (if outsideB i.a s.data.length = true then _ else _) = _
            rw [ho62, if_neg (by simp)]
            show pushM (s.data[i.a.toNat]?.getD 0) _ = _
            rw [hx64]
            exact hr65
          intro r65 ⟨hr65, hg65⟩
          refine WL.nil ?_
          refine WE.toS ?_
          refine WS.nil ?_
          refine WE.block_normal ?_
          refine WE.end0 rfl fun w' hw => ?_
          have hw := hw.fronti 5 rfl
          have hw := hw.fronti 5 rfl
          have hw := hw.fronti 5 rfl
          have hw := hw.fronti 5 rfl
          have hw := hw.fronti 5 rfl
          have hw := hw.fronti 5 rfl
          have hw := Ws.keep (L := [_, _, _, _, _, _]) hw
          refine .inl ⟨((), r65.2), rfl, ⟨?_, hg65⟩, hw⟩
          unfold stepM stepB
          rw [show s.pu.at1 = (MSt.at1 s).pu from rfl]
          simp only [hc0, hc1, hc2, hc3, Bool.false_eq_true, if_false, if_true]
          show (if outsideB i.a s.data.length = true then _ else _) = _
          rw [ho62, if_neg (by simp)]
          show pushM (s.data[i.a.toNat]?.getD 0) _ = _
          rw [hx64]
          exact hr65
        ·
          refine WC.seq ?_
          refine WC.region ?_
          refine WL.val (.inl rfl) rfl (yl_eq rfl rfl) ?_
          refine WL.val (.inl rfl) rfl (yl_assign rfl) ?_
          refine WL.nil ?_
          refine WE.then_normal ?_
          refine WC.cond rfl (fun hc4 => ?_) (fun hc4 => ?_)
          ·
            refine WC.seq ?_
            refine WC.region ?_
            refine WL.val (.inl rfl) rfl (yl_move rfl) ?_
            refine WL.front 6 rfl ?_
            refine WL.front 6 rfl ?_
            refine WL.front 6 rfl ?_
            refine WL.front 6 rfl ?_
            refine WL.front 6 rfl ?_
            refine WL.front 6 rfl ?_
            refine WL.callwx (ι := Int × List Int) (κ := Int × MSt) [_, _, _, _, _, _] _ (.inl rfl) rfl en86 rfl rfl (fun r => .int .i64 r.1) (fun r => (MSt.own bm (MSt.wst (MSt.at1 s) r.2))) (fun r => topM (MSt.at1 s).pu = .ok r.1 (MSt.wst (MSt.at1 s) r.2).pu ∧ (MSt.wst (MSt.at1 s) r.2).good HI) (fun r => ovr r.1) (fun r => (MSt.own bm r.2)) (fun r => topM (MSt.at1 s).pu = .ov r.1 r.2.pu) ([HI]) (by simp) (fun w hw => top_any bm (MSt.at1 s) HI w hg1 hw) ?_ ?_
            ·
              intro r69 hr69
              refine WE.then_panic ?_
              refine WE.block_panic ?_
              refine WE.panics fun w' hw => ?_
              have hw := hw.fronti 5 rfl
              have hw := hw.fronti 5 rfl
              have hw := hw.fronti 5 rfl
              have hw := hw.fronti 5 rfl
              have hw := hw.fronti 5 rfl
              have hw := hw.fronti 5 rfl
              have hw := Ws.keep (L := [_, _, _, _, _, _]) hw
              refine .inr ⟨r69, rfl, ?_, hw⟩
              unfold stepM stepB
              rw [show s.pu.at1 = (MSt.at1 s).pu from rfl]
              simp only [hc0, hc1, hc2, hc3, hc4, Bool.false_eq_true, if_false, if_true]
              rw [hr69]
              rfl
            intro r69 ⟨hr69, hg69⟩
            refine WL.val (.inl rfl) rfl (yl_assign rfl) ?_
            refine WL.nil ?_
            refine WE.then_normal ?_
            refine WC.fact (p := 0 < s.data.length → ∃ b o, s.da = some ⟨b, o, none⟩) (fun w hw hp => osT_shape' hw 4 rfl hp) fun hda => ?_
            refine WC.drawU (fun _ => true) [] [10] (.q false 0 (.q false 1 (.q false 2 (.q false 3 (.q true 4 (.q false 5 (.q true 6 (.q false 8 (.e 7 (.q false 9 .nil) .stop))))))))) mixed (by kernel_rfl) (fun _ _ _ d _ _ h => by cases d <;> exact h) ?_
            refine WU.q rfl (.inl rfl) rfl (fun _ h => h) (yl_move rfl) ?_
            refine WU.q rfl (.inl rfl) rfl (fun _ h => h) (yl_nil rfl) ?_
            refine WU.q rfl (.inl rfl) rfl (fun _ h => h) (yl_fa fo108_6 rfl) ?_
            refine WU.q rfl (.inl rfl) rfl (fun _ h => h) (yl_fa fo53_2 rfl) ?_
            refine WU.q rfl (.inl rfl) rfl (fun _ h => h) (yl_ldk 0 rfl rfl rfl na50) ?_
            refine WU.q rfl (.inl rfl) rfl (fun _ h => h) (yl_fa fo65_1 rfl) ?_
            refine WU.q rfl (.inl rfl) rfl (fun _ h => h) (yl_ldk 6 rfl rfl rfl na3) ?_
            refine WU.q rfl (.inl rfl) rfl (fun _ h => h) (yl_move rfl) ?_
            refine WU.e rfl (fun _ h => h) ?_ WU.stop
            refine WL.callwx (ι := Nat × Nat) (κ := Unit) [] _ (.inl rfl) rfl en84 rfl rfl (fun r => .pointer (some ⟨r.1, r.2 + (i.a).toNat * 1, none⟩)) (fun _ => []) (fun r => outsideB (i.a) (s.data.length) = false ∧ s.da = some ⟨r.1, r.2, none⟩) (fun _ => ovr 6) (fun _ => []) (fun _ => outsideB (i.a) (s.data.length) = true) ([]) (by simp) (fun w hw => (cell_any s.da _ (s.data.length) (i.a) w hda).mono fun e w' h => by
                rcases h with ⟨r, h1, h2, h3⟩ | ⟨_, h1, h2, h3⟩
                · exact .inl ⟨r, h1, h2, hw.ext h3⟩
                · exact .inr ⟨(), h1, h2, hw.ext h3⟩) ?_ ?_
            ·
              intro _ ho77
              refine WE.then_panic ?_
              refine WE.block_panic ?_
              refine WE.panics fun w' hw => ?_
              have hw := hw.fronti 5 rfl
              have hw := hw.fronti 5 rfl
              have hw := hw.fronti 5 rfl
              have hw := hw.fronti 5 rfl
              have hw := hw.fronti 5 rfl
              have hw := hw.fronti 5 rfl
              have hw := Ws.keep (L := [_, _, _, _, _, _]) hw
              refine .inr ⟨(6, (MSt.wst (MSt.at1 s) r69.2)), rfl, ?_, hw⟩
              unfold stepM stepB
              rw [show s.pu.at1 = (MSt.at1 s).pu from rfl]
              simp only [hc0, hc1, hc2, hc3, hc4, Bool.false_eq_true, if_false, if_true]
              rw [hr69]
              show (if outsideB i.a s.data.length = true then _ else _) = _
              rw [if_pos ho77]
            intro r77 ⟨ho77, ha77⟩
            obtain ⟨x77, hx77⟩ : ∃ x, s.data[i.a.toNat]? = some x := ⟨_, List.getElem?_eq_getElem (not_outside ho77).2⟩
            refine WL.nil ?_
            refine WE.toU ?_
            refine WU.q rfl (.inl rfl) rfl (fun _ h => h) (yl_nil rfl) ?_
            refine WU.nil (fun _ h => h) ?_
            refine WS.e rfl ?_
            refine WL.storeT (y := x77) 4 i.a.toNat 0 r69.1 (.inl rfl) rfl rfl rfl ha77 rfl iv_len hx77 sz3 rfl rfl (by decide) rfl ?_
            refine WL.nil ?_
            refine WE.toS ?_
            refine WS.nil ?_
            refine WE.block_normal ?_
            refine WE.end0 rfl fun w' hw => ?_
            have hw := hw.fronti 5 rfl
            have hw := hw.fronti 5 rfl
            have hw := hw.fronti 5 rfl
            have hw := hw.fronti 5 rfl
            have hw := hw.fronti 5 rfl
            have hw := hw.fronti 5 rfl
            have hw := Ws.keep (L := [_, _, _, _, _, _]) hw
            have hw := hw.reL 0 rfl (congrArg (blk bm) (own_setdat (MSt.wst (MSt.at1 s) r69.2) i.a.toNat r69.1))
            refine .inl ⟨((), { (MSt.wst (MSt.at1 s) r69.2) with data := s.data.set i.a.toNat r69.1 }), rfl, ⟨?_, ⟨hg1.inp, hg69.stk, hg1.frs, hg1.out, by show (s.data.set i.a.toNat r69.1).length ≤ 512; simp; exact hgd⟩⟩, hw⟩
            unfold stepM stepB
            rw [show s.pu.at1 = (MSt.at1 s).pu from rfl]
            simp only [hc0, hc1, hc2, hc3, hc4, Bool.false_eq_true, if_false, if_true]
            rw [hr69]
            show (if outsideB i.a s.data.length = true then _ else _) = _
            rw [ho77, if_neg (by simp)]
            rfl
          ·
            refine WC.seq ?_
            refine WC.region ?_
            refine WL.val (.inl rfl) rfl (yl_eq rfl rfl) ?_
            refine WL.val (.inl rfl) rfl (yl_assign rfl) ?_
            refine WL.nil ?_
            refine WE.then_normal ?_
            refine WC.cond rfl (fun hc5 => ?_) (fun hc5 => ?_)
            ·
              refine WC.seq ?_
              refine WC.region ?_
              refine WL.val (.inl rfl) rfl (yl_move rfl) ?_
              refine WL.front 6 rfl ?_
              refine WL.front 6 rfl ?_
              refine WL.front 6 rfl ?_
              refine WL.front 6 rfl ?_
              refine WL.front 6 rfl ?_
              refine WL.front 6 rfl ?_
              refine WL.callwx (ι := Int × List Int) (κ := Int × MSt) [_, _, _, _, _, _] _ (.inl rfl) rfl en86 rfl rfl (fun r => .int .i64 r.1) (fun r => (MSt.own bm (MSt.wst (MSt.at1 s) r.2))) (fun r => topM (MSt.at1 s).pu = .ok r.1 (MSt.wst (MSt.at1 s) r.2).pu ∧ (MSt.wst (MSt.at1 s) r.2).good HI) (fun r => ovr r.1) (fun r => (MSt.own bm r.2)) (fun r => topM (MSt.at1 s).pu = .ov r.1 r.2.pu) ([HI]) (by simp) (fun w hw => top_any bm (MSt.at1 s) HI w hg1 hw) ?_ ?_
              ·
                intro r83 hr83
                refine WE.then_panic ?_
                refine WE.block_panic ?_
                refine WE.panics fun w' hw => ?_
                have hw := hw.fronti 5 rfl
                have hw := hw.fronti 5 rfl
                have hw := hw.fronti 5 rfl
                have hw := hw.fronti 5 rfl
                have hw := hw.fronti 5 rfl
                have hw := hw.fronti 5 rfl
                have hw := Ws.keep (L := [_, _, _, _, _, _]) hw
                refine .inr ⟨r83, rfl, ?_, hw⟩
                unfold stepM stepB
                rw [show s.pu.at1 = (MSt.at1 s).pu from rfl]
                simp only [hc0, hc1, hc2, hc3, hc4, hc5, Bool.false_eq_true, if_false, if_true]
                rw [hr83]
                rfl
              intro r83 ⟨hr83, hg83⟩
              refine WL.val (.inl rfl) rfl (yl_assign rfl) ?_
              refine WL.nil ?_
              refine WE.then_normal ?_
              refine WC.seq ?_
              refine WC.region ?_
              refine WL.val (.inl rfl) rfl (yl_move rfl) ?_
              refine WL.val (.inl rfl) rfl (yl_lt rfl rfl) ?_
              refine WL.val (.inl rfl) rfl (yl_move rfl) ?_
              apply WL.or 4 rfl rfl rfl rfl (.inl rfl) rfl rfl rfl rfl rfl
              ·
                intro hg0
                refine WL.val (.inr ⟨_, _, _, rfl, rfl, rfl⟩) rfl (yl_move rfl) ?_
                refine WL.val (.inr ⟨_, _, _, rfl, rfl, rfl⟩) rfl (yl_fa fo65_2 rfl) ?_
                refine WL.val (.inr ⟨_, _, _, rfl, rfl, rfl⟩) rfl (yl_ldk 6 rfl rfl rfl na3) ?_
                refine WL.val (.inr ⟨_, _, _, rfl, rfl, rfl⟩) rfl (yl_ge rfl rfl) ?_
                exact Got.intro 4 rfl rfl rfl
              refine WL.callwx (ι := Unit) (κ := Unit) [] _ (.inl rfl) rfl en64 rfl rfl (fun _ => .tuple #[]) (fun _ => []) (fun _ => (decide (r83.1 < 0) || decide (i.b ≤ r83.1)) = false) (fun _ => ovr 2) (fun _ => []) (fun _ => (decide (r83.1 < 0) || decide (i.b ≤ r83.1)) = true) ([]) (by simp) (fun w hw => (stop_any _ 2 w).mono fun e w' h => by
                  rcases h with ⟨_, h1, h2, h3⟩ | ⟨_, h1, h2, h3⟩
                  · exact .inl ⟨(), h1, h2, hw.ext h3⟩
                  · exact .inr ⟨(), h1, h2, hw.ext h3⟩) ?_ ?_
              ·
                intro _ hn92
                refine WE.then_panic ?_
                refine WE.block_panic ?_
                refine WE.panics fun w' hw => ?_
                have hw := hw.fronti 5 rfl
                have hw := hw.fronti 5 rfl
                have hw := hw.fronti 5 rfl
                have hw := hw.fronti 5 rfl
                have hw := hw.fronti 5 rfl
                have hw := hw.fronti 5 rfl
                have hw := Ws.keep (L := [_, _, _, _, _, _]) hw
                refine .inr ⟨(2, (MSt.wst (MSt.at1 s) r83.2)), rfl, ?_, hw⟩
                unfold stepM stepB
                rw [show s.pu.at1 = (MSt.at1 s).pu from rfl]
                simp only [hc0, hc1, hc2, hc3, hc4, hc5, Bool.false_eq_true, if_false, if_true]
                rw [hr83]
                show (if (decide (r83.1 < 0) || decide (i.b ≤ r83.1)) = true then _ else _) = _
                rw [if_pos hn92]
              intro _ hn92
              refine WL.nil ?_
              refine WE.then_normal ?_
              refine WC.region ?_
              refine WL.val (.inl rfl) rfl (yl_move rfl) ?_
              refine WL.val (.inl rfl) rfl (yl_fa fo65_1 rfl) ?_
              refine WL.val (.inl rfl) rfl (yl_ldk 6 rfl rfl rfl na3) ?_
              refine WL.val (.inl rfl) rfl (yl_move rfl) ?_
              refine WL.val (.inl rfl) rfl (yl_addw rfl rfl) ?_
              refine WL.front 5 rfl ?_
              refine WL.front 5 rfl ?_
              refine WL.front 5 rfl ?_
              refine WL.front 5 rfl ?_
              refine WL.front 5 rfl ?_
              refine WL.front 5 rfl ?_
              refine WL.callwx (ι := Unit × MSt) (κ := Int × MSt) [_, _, _, _, _, _] _ (.inl rfl) rfl en83 rfl rfl (fun r => .tuple #[]) (fun r => (MSt.own bm r.2)) (fun r => pushM (IntKind.i64.wrap (i.a + r83.1)) (MSt.wst (MSt.at1 s) r83.2).pu = .ok r.1 r.2.pu ∧ r.2.good HI) (fun r => ovr r.1) (fun r => (MSt.own bm r.2)) (fun r => pushM (IntKind.i64.wrap (i.a + r83.1)) (MSt.wst (MSt.at1 s) r83.2).pu = .ov r.1 r.2.pu) ([HI]) (by simp) (fun w hw => push_any bm (MSt.wst (MSt.at1 s) r83.2) HI (IntKind.i64.wrap (i.a + r83.1)) w hg83 hw) ?_ ?_
              ·
                intro r98 hr98
                refine WE.block_panic ?_
                refine WE.panics fun w' hw => ?_
                have hw := hw.fronti 5 rfl
                have hw := hw.fronti 5 rfl
                have hw := hw.fronti 5 rfl
                have hw := hw.fronti 5 rfl
                have hw := hw.fronti 5 rfl
                have hw := hw.fronti 5 rfl
                have hw := Ws.keep (L := [_, _, _, _, _, _]) hw
                refine .inr ⟨r98, rfl, ?_, hw⟩
                unfold stepM stepB
                rw [show s.pu.at1 = (MSt.at1 s).pu from rfl]
                simp only [hc0, hc1, hc2, hc3, hc4, hc5, Bool.false_eq_true, if_false, if_true]
                rw [hr83]
                show (if (decide (r83.1 < 0) || decide (i.b ≤ r83.1)) = true then _ else _) = _
                rw [hn92, if_neg (by simp)]
                exact hr98
              intro r98 ⟨hr98, hg98⟩
              refine WL.nil ?_
              refine WE.block_normal ?_
              refine WE.end0 rfl fun w' hw => ?_
              have hw := hw.fronti 5 rfl
              have hw := hw.fronti 5 rfl
              have hw := hw.fronti 5 rfl
              have hw := hw.fronti 5 rfl
              have hw := hw.fronti 5 rfl
              have hw := hw.fronti 5 rfl
              have hw := Ws.keep (L := [_, _, _, _, _, _]) hw
              refine .inl ⟨((), r98.2), rfl, ⟨?_, hg98⟩, hw⟩
              unfold stepM stepB
              rw [show s.pu.at1 = (MSt.at1 s).pu from rfl]
              simp only [hc0, hc1, hc2, hc3, hc4, hc5, Bool.false_eq_true, if_false, if_true]
              rw [hr83]
              show (if (decide (r83.1 < 0) || decide (i.b ≤ r83.1)) = true then _ else _) = _
              rw [hn92, if_neg (by simp)]
              exact hr98
            ·
              refine WC.seq ?_
              refine WC.region ?_
              refine WL.val (.inl rfl) rfl (yl_eq rfl rfl) ?_
              refine WL.val (.inl rfl) rfl (yl_assign rfl) ?_
              refine WL.nil ?_
              refine WE.then_normal ?_
              refine WC.cond rfl (fun hc6 => ?_) (fun hc6 => ?_)
              ·
                refine WC.fact (p := 0 < s.data.length → ∃ b o, s.da = some ⟨b, o, none⟩) (fun w hw hp => osT_shape' hw 5 rfl hp) fun hda => ?_
                refine WC.drawU (fun _ => true) [1, 1] [11] (.q false 0 (.q false 1 (.q false 2 (.q false 3 (.q false 4 (.q false 6 (.e 5 (.e 7 (.e 8 (.q false 9 (.q true 10 .nil)) .stop) .stop) (.e 7 (.e 5 (.e 8 (.q false 9 (.q true 10 .nil)) .stop) .stop) .stop)))))))) mixed (by kernel_rfl) (fun _ _ _ d _ _ h => by cases d <;> exact h) ?_
                refine WU.q rfl (.inl rfl) rfl (fun _ h => by have h := Ws.out 1 h; have h := Ws.out 1 h; exact h) (yl_move rfl) ?_
                refine WU.q rfl (.inl rfl) rfl (fun _ h => by have h := Ws.out 1 h; have h := Ws.out 1 h; exact h) (yl_move rfl) ?_
                refine WU.q rfl (.inl rfl) rfl (fun _ h => by have h := Ws.out 1 h; have h := Ws.out 1 h; exact h) (yl_nil rfl) ?_
                refine WU.q rfl (.inl rfl) rfl (fun _ h => by have h := Ws.out 1 h; have h := Ws.out 1 h; exact h) (yl_fa fo108_6 rfl) ?_
                refine WU.q rfl (.inl rfl) rfl (fun _ h => by have h := Ws.out 1 h; have h := Ws.out 1 h; exact h) (yl_fa fo53_2 rfl) ?_
                refine WU.q rfl (.inl rfl) rfl (fun _ h => by have h := Ws.out 1 h; have h := Ws.out 1 h; exact h) (yl_move rfl) ?_
                refine WU.e rfl (fun _ h => by have h := Ws.out 1 h; have h := Ws.out 1 h; exact h) ?_ ?_
                ·
                  refine WL.val (.inl rfl) rfl (yl_ldk 1 rfl rfl rfl na50) ?_
                  refine WL.nil ?_
                  refine WE.toU ?_
                  refine WU.e rfl (fun _ h => by have h := Ws.out 1 h; have h := Ws.out 1 h; exact h) ?_ WU.stop
                  refine WL.front 6 rfl ?_
                  refine WL.front 6 rfl ?_
                  refine WL.front 6 rfl ?_
                  refine WL.front 6 rfl ?_
                  refine WL.front 6 rfl ?_
                  refine WL.front 6 rfl ?_
                  refine WL.callwx (ι := Int × List Int) (κ := Int × MSt) [_, _, _, _, _, _] _ (.inl rfl) rfl en86 rfl rfl (fun r => .int .i64 r.1) (fun r => (MSt.own bm (MSt.wst (MSt.at1 s) r.2))) (fun r => topM (MSt.at1 s).pu = .ok r.1 (MSt.wst (MSt.at1 s) r.2).pu ∧ (MSt.wst (MSt.at1 s) r.2).good HI) (fun r => ovr r.1) (fun r => (MSt.own bm r.2)) (fun r => topM (MSt.at1 s).pu = .ov r.1 r.2.pu) ([HI]) (by simp) (fun w hw => top_any bm (MSt.at1 s) HI w hg1 hw) ?_ ?_
                  ·
                    intro r108 hr108
                    refine WE.then_panic ?_
                    refine WE.block_panic ?_
                    refine WE.panics fun w' hw => ?_
                    have hw := hw.fronti 5 rfl
                    have hw := hw.fronti 5 rfl
                    have hw := hw.fronti 5 rfl
                    have hw := hw.fronti 5 rfl
                    have hw := hw.fronti 5 rfl
                    have hw := hw.fronti 5 rfl
                    have hw := Ws.keep (L := [_, _, _, _, _, _]) hw
                    refine .inr ⟨r108, rfl, ?_, hw⟩
                    unfold stepM stepB
                    rw [show s.pu.at1 = (MSt.at1 s).pu from rfl]
                    simp only [hc0, hc1, hc2, hc3, hc4, hc5, hc6, Bool.false_eq_true, if_false, if_true]
                    rw [hr108]
                    rfl
                  intro r108 ⟨hr108, hg108⟩
                  refine WL.nil ?_
                  refine WE.toU ?_
                  refine WU.e rfl (fun _ h => by have h := h.fronti 5 rfl; have h := h.fronti 5 rfl; have h := h.fronti 5 rfl; have h := h.fronti 5 rfl; have h := h.fronti 5 rfl; have h := h.fronti 5 rfl; have h := h.fronti 6 rfl; have h := Ws.out 1 h; have h := Ws.out 1 h; exact h) ?_ WU.stop
                  refine WL.callwx (ι := Nat × Nat) (κ := Unit) [] _ (.inl rfl) rfl en84 rfl rfl (fun r => .pointer (some ⟨r.1, r.2 + (r108.1).toNat * 1, none⟩)) (fun _ => []) (fun r => outsideB (r108.1) (s.data.length) = false ∧ s.da = some ⟨r.1, r.2, none⟩) (fun _ => ovr 6) (fun _ => []) (fun _ => outsideB (r108.1) (s.data.length) = true) ([]) (by simp) (fun w hw => (cell_any s.da _ (s.data.length) (r108.1) w hda).mono fun e w' h => by
                      rcases h with ⟨r, h1, h2, h3⟩ | ⟨_, h1, h2, h3⟩
                      · exact .inl ⟨r, h1, h2, hw.ext h3⟩
                      · exact .inr ⟨(), h1, h2, hw.ext h3⟩) ?_ ?_
                  ·
                    intro _ ho109
                    refine WE.then_panic ?_
                    refine WE.block_panic ?_
                    refine WE.panics fun w' hw => ?_
                    have hw := hw.fronti 5 rfl
                    have hw := hw.fronti 5 rfl
                    have hw := hw.fronti 5 rfl
                    have hw := hw.fronti 5 rfl
                    have hw := hw.fronti 5 rfl
                    have hw := hw.fronti 5 rfl
                    have hw := Ws.keep (L := [_, _, _, _, _, _]) hw
                    refine .inr ⟨(6, (MSt.wst (MSt.at1 s) r108.2)), rfl, ?_, hw⟩
                    unfold stepM stepB
                    rw [show s.pu.at1 = (MSt.at1 s).pu from rfl]
                    simp only [hc0, hc1, hc2, hc3, hc4, hc5, hc6, Bool.false_eq_true, if_false, if_true]
                    rw [hr108]
                    show (if outsideB r108.1 s.data.length = true then _ else _) = _
                    rw [if_pos ho109]
                  intro r109 ⟨ho109, ha109⟩
                  obtain ⟨x111, hx111⟩ : ∃ x, s.data[r108.1.toNat]? = some x := ⟨_, List.getElem?_eq_getElem (not_outside ho109).2⟩
                  refine WL.nil ?_
                  refine WE.toU ?_
                  refine WU.q rfl (.inl rfl) rfl (fun _ h => by have h := h.fronti 5 rfl; have h := h.fronti 5 rfl; have h := h.fronti 5 rfl; have h := h.fronti 5 rfl; have h := h.fronti 5 rfl; have h := h.fronti 5 rfl; have h := h.fronti 6 rfl; have h := Ws.out 1 h; have h := Ws.out 1 h; exact h) (yl_nil rfl) ?_
                  refine WU.q rfl (.inl rfl) rfl (fun _ h => by have h := h.fronti 5 rfl; have h := h.fronti 5 rfl; have h := h.fronti 5 rfl; have h := h.fronti 5 rfl; have h := h.fronti 5 rfl; have h := h.fronti 5 rfl; have h := h.fronti 6 rfl; have h := Ws.out 1 h; have h := Ws.out 1 h; exact h) (yl_ldT (y := x111) 3 r108.1.toNat 0 rfl rfl ha109 rfl iv_len hx111 rfl na3) ?_
                  refine WU.nil (fun _ h => by have h := h.fronti 5 rfl; have h := h.fronti 5 rfl; have h := h.fronti 5 rfl; have h := h.fronti 5 rfl; have h := h.fronti 5 rfl; have h := h.fronti 5 rfl; have h := h.fronti 6 rfl; have h := Ws.out 1 h; have h := Ws.out 1 h; exact h) ?_
                  refine WS.e rfl ?_
                  refine WL.front 5 rfl ?_
                  refine WL.front 5 rfl ?_
                  refine WL.front 5 rfl ?_
                  refine WL.front 5 rfl ?_
                  refine WL.front 5 rfl ?_
                  refine WL.front 5 rfl ?_
                  refine WL.callwx (ι := Unit × MSt) (κ := Int × MSt) [_, _, _, _, _, _] _ (.inl rfl) rfl en83 rfl rfl (fun r => .tuple #[]) (fun r => (MSt.own bm r.2)) (fun r => pushM x111 (MSt.wst (MSt.at1 s) r108.2).pu = .ok r.1 r.2.pu ∧ r.2.good HI) (fun r => ovr r.1) (fun r => (MSt.own bm r.2)) (fun r => pushM x111 (MSt.wst (MSt.at1 s) r108.2).pu = .ov r.1 r.2.pu) ([HI]) (by simp) (fun w hw => push_any bm (MSt.wst (MSt.at1 s) r108.2) HI x111 w hg108 hw) ?_ ?_
                  ·
                    intro r112 hr112
                    refine WE.then_panic ?_
                    refine WE.block_panic ?_
                    refine WE.panics fun w' hw => ?_
                    have hw := hw.fronti 5 rfl
                    have hw := hw.fronti 5 rfl
                    have hw := hw.fronti 5 rfl
                    have hw := hw.fronti 5 rfl
                    have hw := hw.fronti 5 rfl
                    have hw := hw.fronti 5 rfl
                    have hw := Ws.keep (L := [_, _, _, _, _, _]) hw
                    refine .inr ⟨r112, rfl, ?_, hw⟩
                    unfold stepM stepB
                    rw [show s.pu.at1 = (MSt.at1 s).pu from rfl]
                    simp only [hc0, hc1, hc2, hc3, hc4, hc5, hc6, Bool.false_eq_true, if_false, if_true]
                    rw [hr108]
                    show (if outsideB r108.1 s.data.length = true then _ else _) = _
                    rw [ho109, if_neg (by simp)]
                    show pushM (s.data[r108.1.toNat]?.getD 0) _ = _
                    rw [hx111]
                    exact hr112
                  intro r112 ⟨hr112, hg112⟩
                  refine WL.nil ?_
                  refine WE.toS ?_
                  refine WS.nil ?_
                  refine WE.block_normal ?_
                  refine WE.end0 rfl fun w' hw => ?_
                  have hw := hw.fronti 5 rfl
                  have hw := hw.fronti 5 rfl
                  have hw := hw.fronti 5 rfl
                  have hw := hw.fronti 5 rfl
                  have hw := hw.fronti 5 rfl
                  have hw := hw.fronti 5 rfl
                  have hw := Ws.keep (L := [_, _, _, _, _, _]) hw
                  refine .inl ⟨((), r112.2), rfl, ⟨?_, hg112⟩, hw⟩
                  unfold stepM stepB
                  rw [show s.pu.at1 = (MSt.at1 s).pu from rfl]
                  simp only [hc0, hc1, hc2, hc3, hc4, hc5, hc6, Bool.false_eq_true, if_false, if_true]
                  rw [hr108]
                  show (if outsideB r108.1 s.data.length = true then _ else _) = _
                  rw [ho109, if_neg (by simp)]
                  show pushM (s.data[r108.1.toNat]?.getD 0) _ = _
                  rw [hx111]
                  exact hr112
                refine WU.e rfl (fun _ h => by have h := Ws.out 1 h; have h := Ws.out 1 h; exact h) ?_ WU.stop
                refine WL.front 6 rfl ?_
                refine WL.front 6 rfl ?_
                refine WL.front 6 rfl ?_
                refine WL.front 6 rfl ?_
                refine WL.front 6 rfl ?_
                refine WL.front 6 rfl ?_
                refine WL.callwx (ι := Int × List Int) (κ := Int × MSt) [_, _, _, _, _, _] _ (.inl rfl) rfl en86 rfl rfl (fun r => .int .i64 r.1) (fun r => (MSt.own bm (MSt.wst (MSt.at1 s) r.2))) (fun r => topM (MSt.at1 s).pu = .ok r.1 (MSt.wst (MSt.at1 s) r.2).pu ∧ (MSt.wst (MSt.at1 s) r.2).good HI) (fun r => ovr r.1) (fun r => (MSt.own bm r.2)) (fun r => topM (MSt.at1 s).pu = .ov r.1 r.2.pu) ([HI]) (by simp) (fun w hw => top_any bm (MSt.at1 s) HI w hg1 hw) ?_ ?_
                ·
                  intro r108 hr108
                  refine WE.then_panic ?_
                  refine WE.block_panic ?_
                  refine WE.panics fun w' hw => ?_
                  have hw := hw.fronti 5 rfl
                  have hw := hw.fronti 5 rfl
                  have hw := hw.fronti 5 rfl
                  have hw := hw.fronti 5 rfl
                  have hw := hw.fronti 5 rfl
                  have hw := hw.fronti 5 rfl
                  have hw := Ws.keep (L := [_, _, _, _, _, _]) hw
                  refine .inr ⟨r108, rfl, ?_, hw⟩
                  unfold stepM stepB
                  rw [show s.pu.at1 = (MSt.at1 s).pu from rfl]
                  simp only [hc0, hc1, hc2, hc3, hc4, hc5, hc6, Bool.false_eq_true, if_false, if_true]
                  rw [hr108]
                  rfl
                intro r108 ⟨hr108, hg108⟩
                refine WL.nil ?_
                refine WE.toU ?_
                refine WU.e rfl (fun _ h => by have h := h.fronti 5 rfl; have h := h.fronti 5 rfl; have h := h.fronti 5 rfl; have h := h.fronti 5 rfl; have h := h.fronti 5 rfl; have h := h.fronti 5 rfl; have h := h.fronti 6 rfl; have h := Ws.out 1 h; have h := Ws.out 1 h; exact h) ?_ WU.stop
                refine WL.val (.inl rfl) rfl (yl_ldk 0 rfl rfl rfl na50) ?_
                refine WL.nil ?_
                refine WE.toU ?_
                refine WU.e rfl (fun _ h => by have h := h.fronti 5 rfl; have h := h.fronti 5 rfl; have h := h.fronti 5 rfl; have h := h.fronti 5 rfl; have h := h.fronti 5 rfl; have h := h.fronti 5 rfl; have h := h.fronti 6 rfl; have h := Ws.out 1 h; have h := Ws.out 1 h; exact h) ?_ WU.stop
                refine WL.callwx (ι := Nat × Nat) (κ := Unit) [] _ (.inl rfl) rfl en84 rfl rfl (fun r => .pointer (some ⟨r.1, r.2 + (r108.1).toNat * 1, none⟩)) (fun _ => []) (fun r => outsideB (r108.1) (s.data.length) = false ∧ s.da = some ⟨r.1, r.2, none⟩) (fun _ => ovr 6) (fun _ => []) (fun _ => outsideB (r108.1) (s.data.length) = true) ([]) (by simp) (fun w hw => (cell_any s.da _ (s.data.length) (r108.1) w hda).mono fun e w' h => by
                    rcases h with ⟨r, h1, h2, h3⟩ | ⟨_, h1, h2, h3⟩
                    · exact .inl ⟨r, h1, h2, hw.ext h3⟩
                    · exact .inr ⟨(), h1, h2, hw.ext h3⟩) ?_ ?_
                ·
                  intro _ ho109
                  refine WE.then_panic ?_
                  refine WE.block_panic ?_
                  refine WE.panics fun w' hw => ?_
                  have hw := hw.fronti 5 rfl
                  have hw := hw.fronti 5 rfl
                  have hw := hw.fronti 5 rfl
                  have hw := hw.fronti 5 rfl
                  have hw := hw.fronti 5 rfl
                  have hw := hw.fronti 5 rfl
                  have hw := Ws.keep (L := [_, _, _, _, _, _]) hw
                  refine .inr ⟨(6, (MSt.wst (MSt.at1 s) r108.2)), rfl, ?_, hw⟩
                  unfold stepM stepB
                  rw [show s.pu.at1 = (MSt.at1 s).pu from rfl]
                  simp only [hc0, hc1, hc2, hc3, hc4, hc5, hc6, Bool.false_eq_true, if_false, if_true]
                  rw [hr108]
                  show (if outsideB r108.1 s.data.length = true then _ else _) = _
                  rw [if_pos ho109]
                intro r109 ⟨ho109, ha109⟩
                obtain ⟨x111, hx111⟩ : ∃ x, s.data[r108.1.toNat]? = some x := ⟨_, List.getElem?_eq_getElem (not_outside ho109).2⟩
                refine WL.nil ?_
                refine WE.toU ?_
                refine WU.q rfl (.inl rfl) rfl (fun _ h => by have h := h.fronti 5 rfl; have h := h.fronti 5 rfl; have h := h.fronti 5 rfl; have h := h.fronti 5 rfl; have h := h.fronti 5 rfl; have h := h.fronti 5 rfl; have h := h.fronti 6 rfl; have h := Ws.out 1 h; have h := Ws.out 1 h; exact h) (yl_nil rfl) ?_
                refine WU.q rfl (.inl rfl) rfl (fun _ h => by have h := h.fronti 5 rfl; have h := h.fronti 5 rfl; have h := h.fronti 5 rfl; have h := h.fronti 5 rfl; have h := h.fronti 5 rfl; have h := h.fronti 5 rfl; have h := h.fronti 6 rfl; have h := Ws.out 1 h; have h := Ws.out 1 h; exact h) (yl_ldT (y := x111) 3 r108.1.toNat 0 rfl rfl ha109 rfl iv_len hx111 rfl na3) ?_
                refine WU.nil (fun _ h => by have h := h.fronti 5 rfl; have h := h.fronti 5 rfl; have h := h.fronti 5 rfl; have h := h.fronti 5 rfl; have h := h.fronti 5 rfl; have h := h.fronti 5 rfl; have h := h.fronti 6 rfl; have h := Ws.out 1 h; have h := Ws.out 1 h; exact h) ?_
                refine WS.e rfl ?_
                refine WL.front 5 rfl ?_
                refine WL.front 5 rfl ?_
                refine WL.front 5 rfl ?_
                refine WL.front 5 rfl ?_
                refine WL.front 5 rfl ?_
                refine WL.front 5 rfl ?_
                refine WL.callwx (ι := Unit × MSt) (κ := Int × MSt) [_, _, _, _, _, _] _ (.inl rfl) rfl en83 rfl rfl (fun r => .tuple #[]) (fun r => (MSt.own bm r.2)) (fun r => pushM x111 (MSt.wst (MSt.at1 s) r108.2).pu = .ok r.1 r.2.pu ∧ r.2.good HI) (fun r => ovr r.1) (fun r => (MSt.own bm r.2)) (fun r => pushM x111 (MSt.wst (MSt.at1 s) r108.2).pu = .ov r.1 r.2.pu) ([HI]) (by simp) (fun w hw => push_any bm (MSt.wst (MSt.at1 s) r108.2) HI x111 w hg108 hw) ?_ ?_
                ·
                  intro r112 hr112
                  refine WE.then_panic ?_
                  refine WE.block_panic ?_
                  refine WE.panics fun w' hw => ?_
                  have hw := hw.fronti 5 rfl
                  have hw := hw.fronti 5 rfl
                  have hw := hw.fronti 5 rfl
                  have hw := hw.fronti 5 rfl
                  have hw := hw.fronti 5 rfl
                  have hw := hw.fronti 5 rfl
                  have hw := Ws.keep (L := [_, _, _, _, _, _]) hw
                  refine .inr ⟨r112, rfl, ?_, hw⟩
                  unfold stepM stepB
                  rw [show s.pu.at1 = (MSt.at1 s).pu from rfl]
                  simp only [hc0, hc1, hc2, hc3, hc4, hc5, hc6, Bool.false_eq_true, if_false, if_true]
                  rw [hr108]
                  show (if outsideB r108.1 s.data.length = true then _ else _) = _
                  rw [ho109, if_neg (by simp)]
                  show pushM (s.data[r108.1.toNat]?.getD 0) _ = _
                  rw [hx111]
                  exact hr112
                intro r112 ⟨hr112, hg112⟩
                refine WL.nil ?_
                refine WE.toS ?_
                refine WS.nil ?_
                refine WE.block_normal ?_
                refine WE.end0 rfl fun w' hw => ?_
                have hw := hw.fronti 5 rfl
                have hw := hw.fronti 5 rfl
                have hw := hw.fronti 5 rfl
                have hw := hw.fronti 5 rfl
                have hw := hw.fronti 5 rfl
                have hw := hw.fronti 5 rfl
                have hw := Ws.keep (L := [_, _, _, _, _, _]) hw
                refine .inl ⟨((), r112.2), rfl, ⟨?_, hg112⟩, hw⟩
                unfold stepM stepB
                rw [show s.pu.at1 = (MSt.at1 s).pu from rfl]
                simp only [hc0, hc1, hc2, hc3, hc4, hc5, hc6, Bool.false_eq_true, if_false, if_true]
                rw [hr108]
                show (if outsideB r108.1 s.data.length = true then _ else _) = _
                rw [ho109, if_neg (by simp)]
                show pushM (s.data[r108.1.toNat]?.getD 0) _ = _
                rw [hx111]
                exact hr112
              ·
                refine WC.seq ?_
                refine WC.region ?_
                refine WL.val (.inl rfl) rfl (yl_eq rfl rfl) ?_
                refine WL.val (.inl rfl) rfl (yl_assign rfl) ?_
                refine WL.nil ?_
                refine WE.then_normal ?_
                refine WC.cond rfl (fun hc7 => ?_) (fun hc7 => ?_)
                ·
                  refine WC.seq ?_
                  refine WC.region ?_
                  refine WL.val (.inl rfl) rfl (yl_move rfl) ?_
                  refine WL.front 6 rfl ?_
                  refine WL.front 6 rfl ?_
                  refine WL.front 6 rfl ?_
                  refine WL.front 6 rfl ?_
                  refine WL.front 6 rfl ?_
                  refine WL.front 6 rfl ?_
                  refine WL.callwx (ι := Int × List Int) (κ := Int × MSt) [_, _, _, _, _, _] _ (.inl rfl) rfl en86 rfl rfl (fun r => .int .i64 r.1) (fun r => (MSt.own bm (MSt.wst (MSt.at1 s) r.2))) (fun r => topM (MSt.at1 s).pu = .ok r.1 (MSt.wst (MSt.at1 s) r.2).pu ∧ (MSt.wst (MSt.at1 s) r.2).good HI) (fun r => ovr r.1) (fun r => (MSt.own bm r.2)) (fun r => topM (MSt.at1 s).pu = .ov r.1 r.2.pu) ([HI]) (by simp) (fun w hw => top_any bm (MSt.at1 s) HI w hg1 hw) ?_ ?_
                  ·
                    intro r116 hr116
                    refine WE.then_panic ?_
                    refine WE.block_panic ?_
                    refine WE.panics fun w' hw => ?_
                    have hw := hw.fronti 5 rfl
                    have hw := hw.fronti 5 rfl
                    have hw := hw.fronti 5 rfl
                    have hw := hw.fronti 5 rfl
                    have hw := hw.fronti 5 rfl
                    have hw := hw.fronti 5 rfl
                    have hw := Ws.keep (L := [_, _, _, _, _, _]) hw
                    refine .inr ⟨r116, rfl, ?_, hw⟩
                    unfold stepM stepB
                    rw [show s.pu.at1 = (MSt.at1 s).pu from rfl]
                    simp only [hc0, hc1, hc2, hc3, hc4, hc5, hc6, hc7, Bool.false_eq_true, if_false, if_true]
                    rw [hr116]
                    rfl
                  intro r116 ⟨hr116, hg116⟩
                  refine WL.val (.inl rfl) rfl (yl_assign rfl) ?_
                  refine WL.nil ?_
                  refine WE.then_normal ?_
                  refine WC.fact (p := 0 < s.data.length → ∃ b o, s.da = some ⟨b, o, none⟩) (fun w hw hp => osT_shape' hw 4 rfl hp) fun hda => ?_
                  refine WC.drawU (fun _ => true) [0, 0] [10] (.q false 0 (.q false 1 (.q false 2 (.q false 3 (.q false 5 (.q false 8 (.e 4 (.e 6 (.e 7 (.q false 9 .nil) .stop) .stop) (.e 6 (.e 4 (.e 7 (.q false 9 .nil) .stop) .stop) .stop)))))))) mixed (by kernel_rfl) (fun _ _ _ d _ _ h => by cases d <;> exact h) ?_
                  refine WU.q rfl (.inl rfl) rfl (fun _ h => by have h := Ws.out 0 h; have h := Ws.out 0 h; exact h) (yl_move rfl) ?_
                  refine WU.q rfl (.inl rfl) rfl (fun _ h => by have h := Ws.out 0 h; have h := Ws.out 0 h; exact h) (yl_nil rfl) ?_
                  refine WU.q rfl (.inl rfl) rfl (fun _ h => by have h := Ws.out 0 h; have h := Ws.out 0 h; exact h) (yl_fa fo108_6 rfl) ?_
                  refine WU.q rfl (.inl rfl) rfl (fun _ h => by have h := Ws.out 0 h; have h := Ws.out 0 h; exact h) (yl_fa fo53_2 rfl) ?_
                  refine WU.q rfl (.inl rfl) rfl (fun _ h => by have h := Ws.out 0 h; have h := Ws.out 0 h; exact h) (yl_move rfl) ?_
                  refine WU.q rfl (.inl rfl) rfl (fun _ h => by have h := Ws.out 0 h; have h := Ws.out 0 h; exact h) (yl_move rfl) ?_
                  refine WU.e rfl (fun _ h => by have h := Ws.out 0 h; have h := Ws.out 0 h; exact h) ?_ ?_
                  ·
                    refine WL.val (.inl rfl) rfl (yl_ldk 0 rfl rfl rfl na50) ?_
                    refine WL.nil ?_
                    refine WE.toU ?_
                    refine WU.e rfl (fun _ h => by have h := Ws.out 0 h; have h := Ws.out 0 h; exact h) ?_ WU.stop
                    refine WL.front 5 rfl ?_
                    refine WL.front 5 rfl ?_
                    refine WL.front 5 rfl ?_
                    refine WL.front 5 rfl ?_
                    refine WL.front 5 rfl ?_
                    refine WL.front 5 rfl ?_
                    refine WL.callwx (ι := Int × List Int) (κ := Int × MSt) [_, _, _, _, _, _] _ (.inl rfl) rfl en86 rfl rfl (fun r => .int .i64 r.1) (fun r => (MSt.own bm (MSt.wst (MSt.wst (MSt.at1 s) r116.2) r.2))) (fun r => topM (MSt.wst (MSt.at1 s) r116.2).pu = .ok r.1 (MSt.wst (MSt.wst (MSt.at1 s) r116.2) r.2).pu ∧ (MSt.wst (MSt.wst (MSt.at1 s) r116.2) r.2).good HI) (fun r => ovr r.1) (fun r => (MSt.own bm r.2)) (fun r => topM (MSt.wst (MSt.at1 s) r116.2).pu = .ov r.1 r.2.pu) ([HI]) (by simp) (fun w hw => top_any bm (MSt.wst (MSt.at1 s) r116.2) HI w hg116 hw) ?_ ?_
                    ·
                      intro r123 hr123
                      refine WE.then_panic ?_
                      refine WE.block_panic ?_
                      refine WE.panics fun w' hw => ?_
                      have hw := hw.fronti 5 rfl
                      have hw := hw.fronti 5 rfl
                      have hw := hw.fronti 5 rfl
                      have hw := hw.fronti 5 rfl
                      have hw := hw.fronti 5 rfl
                      have hw := hw.fronti 5 rfl
                      have hw := Ws.keep (L := [_, _, _, _, _, _]) hw
                      refine .inr ⟨r123, rfl, ?_, hw⟩
                      unfold stepM stepB
                      rw [show s.pu.at1 = (MSt.at1 s).pu from rfl]
                      simp only [hc0, hc1, hc2, hc3, hc4, hc5, hc6, hc7, Bool.false_eq_true, if_false, if_true]
                      rw [hr116]
                      show Rz.bind (topM (MSt.wst (MSt.at1 s) r116.2).pu) _ = _
                      rw [hr123]
                      rfl
                    intro r123 ⟨hr123, hg123⟩
                    refine WL.nil ?_
                    refine WE.toU ?_
                    refine WU.e rfl (fun _ h => by have h := Ws.out 0 h; have h := Ws.out 0 h; exact h) ?_ WU.stop
                    refine WL.callwx (ι := Nat × Nat) (κ := Unit) [] _ (.inl rfl) rfl en84 rfl rfl (fun r => .pointer (some ⟨r.1, r.2 + (r123.1).toNat * 1, none⟩)) (fun _ => []) (fun r => outsideB (r123.1) (s.data.length) = false ∧ s.da = some ⟨r.1, r.2, none⟩) (fun _ => ovr 6) (fun _ => []) (fun _ => outsideB (r123.1) (s.data.length) = true) ([]) (by simp) (fun w hw => (cell_any s.da _ (s.data.length) (r123.1) w hda).mono fun e w' h => by
                        rcases h with ⟨r, h1, h2, h3⟩ | ⟨_, h1, h2, h3⟩
                        · exact .inl ⟨r, h1, h2, hw.ext h3⟩
                        · exact .inr ⟨(), h1, h2, hw.ext h3⟩) ?_ ?_
                    ·
                      intro _ ho124
                      refine WE.then_panic ?_
                      refine WE.block_panic ?_
                      refine WE.panics fun w' hw => ?_
                      have hw := hw.fronti 5 rfl
                      have hw := hw.fronti 5 rfl
                      have hw := hw.fronti 5 rfl
                      have hw := hw.fronti 5 rfl
                      have hw := hw.fronti 5 rfl
                      have hw := hw.fronti 5 rfl
                      have hw := Ws.keep (L := [_, _, _, _, _, _]) hw
                      refine .inr ⟨(6, (MSt.wst (MSt.wst (MSt.at1 s) r116.2) r123.2)), rfl, ?_, hw⟩
                      unfold stepM stepB
                      rw [show s.pu.at1 = (MSt.at1 s).pu from rfl]
                      simp only [hc0, hc1, hc2, hc3, hc4, hc5, hc6, hc7, Bool.false_eq_true, if_false, if_true]
                      rw [hr116]
                      show Rz.bind (topM (MSt.wst (MSt.at1 s) r116.2).pu) _ = _
                      rw [hr123]
                      show (if outsideB r123.1 s.data.length = true then _ else _) = _
                      rw [if_pos ho124]
                    intro r124 ⟨ho124, ha124⟩
                    obtain ⟨x124, hx124⟩ : ∃ x, s.data[r123.1.toNat]? = some x := ⟨_, List.getElem?_eq_getElem (not_outside ho124).2⟩
                    refine WL.nil ?_
                    refine WE.toU ?_
                    refine WU.q rfl (.inl rfl) rfl (fun _ h => by have h := Ws.out 0 h; have h := Ws.out 0 h; exact h) (yl_nil rfl) ?_
                    refine WU.nil (fun _ h => by have h := Ws.out 0 h; have h := Ws.out 0 h; exact h) ?_
                    refine WS.e rfl ?_
                    refine WL.storeT (y := x124) 4 r123.1.toNat 0 r116.1 (.inl rfl) rfl rfl rfl ha124 rfl iv_len hx124 sz3 rfl rfl (by decide) rfl ?_
                    refine WL.nil ?_
                    refine WE.toS ?_
                    refine WS.nil ?_
                    refine WE.block_normal ?_
                    refine WE.end0 rfl fun w' hw => ?_
                    have hw := hw.fronti 5 rfl
                    have hw := hw.fronti 5 rfl
                    have hw := hw.fronti 5 rfl
                    have hw := hw.fronti 5 rfl
                    have hw := hw.fronti 5 rfl
                    have hw := hw.fronti 5 rfl
                    have hw := Ws.keep (L := [_, _, _, _, _, _]) hw
                    have hw := hw.reL 0 rfl (congrArg (blk bm) (own_setdat (MSt.wst (MSt.wst (MSt.at1 s) r116.2) r123.2) r123.1.toNat r116.1))
                    refine .inl ⟨((), { (MSt.wst (MSt.wst (MSt.at1 s) r116.2) r123.2) with data := s.data.set r123.1.toNat r116.1 }), rfl, ⟨?_, ⟨hg1.inp, hg123.stk, hg1.frs, hg1.out, by show (s.data.set r123.1.toNat r116.1).length ≤ 512; simp; exact hgd⟩⟩, hw⟩
                    unfold stepM stepB
                    rw [show s.pu.at1 = (MSt.at1 s).pu from rfl]
                    simp only [hc0, hc1, hc2, hc3, hc4, hc5, hc6, hc7, Bool.false_eq_true, if_false, if_true]
                    rw [hr116]
                    show Rz.bind (topM (MSt.wst (MSt.at1 s) r116.2).pu) _ = _
                    rw [hr123]
                    show (if outsideB r123.1 s.data.length = true then _ else _) = _
                    rw [ho124, if_neg (by simp)]
                    rfl
                  refine WU.e rfl (fun _ h => by have h := Ws.out 0 h; have h := Ws.out 0 h; exact h) ?_ WU.stop
                  refine WL.front 5 rfl ?_
                  refine WL.front 5 rfl ?_
                  refine WL.front 5 rfl ?_
                  refine WL.front 5 rfl ?_
                  refine WL.front 5 rfl ?_
                  refine WL.front 5 rfl ?_
                  refine WL.callwx (ι := Int × List Int) (κ := Int × MSt) [_, _, _, _, _, _] _ (.inl rfl) rfl en86 rfl rfl (fun r => .int .i64 r.1) (fun r => (MSt.own bm (MSt.wst (MSt.wst (MSt.at1 s) r116.2) r.2))) (fun r => topM (MSt.wst (MSt.at1 s) r116.2).pu = .ok r.1 (MSt.wst (MSt.wst (MSt.at1 s) r116.2) r.2).pu ∧ (MSt.wst (MSt.wst (MSt.at1 s) r116.2) r.2).good HI) (fun r => ovr r.1) (fun r => (MSt.own bm r.2)) (fun r => topM (MSt.wst (MSt.at1 s) r116.2).pu = .ov r.1 r.2.pu) ([HI]) (by simp) (fun w hw => top_any bm (MSt.wst (MSt.at1 s) r116.2) HI w hg116 hw) ?_ ?_
                  ·
                    intro r123 hr123
                    refine WE.then_panic ?_
                    refine WE.block_panic ?_
                    refine WE.panics fun w' hw => ?_
                    have hw := hw.fronti 5 rfl
                    have hw := hw.fronti 5 rfl
                    have hw := hw.fronti 5 rfl
                    have hw := hw.fronti 5 rfl
                    have hw := hw.fronti 5 rfl
                    have hw := hw.fronti 5 rfl
                    have hw := Ws.keep (L := [_, _, _, _, _, _]) hw
                    refine .inr ⟨r123, rfl, ?_, hw⟩
                    unfold stepM stepB
                    rw [show s.pu.at1 = (MSt.at1 s).pu from rfl]
                    simp only [hc0, hc1, hc2, hc3, hc4, hc5, hc6, hc7, Bool.false_eq_true, if_false, if_true]
                    rw [hr116]
                    show Rz.bind (topM (MSt.wst (MSt.at1 s) r116.2).pu) _ = _
                    rw [hr123]
                    rfl
                  intro r123 ⟨hr123, hg123⟩
                  refine WL.nil ?_
                  refine WE.toU ?_
                  refine WU.e rfl (fun _ h => by have h := Ws.out 0 h; have h := Ws.out 0 h; exact h) ?_ WU.stop
                  refine WL.val (.inl rfl) rfl (yl_ldk 0 rfl rfl rfl na50) ?_
                  refine WL.nil ?_
                  refine WE.toU ?_
                  refine WU.e rfl (fun _ h => by have h := Ws.out 0 h; have h := Ws.out 0 h; exact h) ?_ WU.stop
                  refine WL.callwx (ι := Nat × Nat) (κ := Unit) [] _ (.inl rfl) rfl en84 rfl rfl (fun r => .pointer (some ⟨r.1, r.2 + (r123.1).toNat * 1, none⟩)) (fun _ => []) (fun r => outsideB (r123.1) (s.data.length) = false ∧ s.da = some ⟨r.1, r.2, none⟩) (fun _ => ovr 6) (fun _ => []) (fun _ => outsideB (r123.1) (s.data.length) = true) ([]) (by simp) (fun w hw => (cell_any s.da _ (s.data.length) (r123.1) w hda).mono fun e w' h => by
                      rcases h with ⟨r, h1, h2, h3⟩ | ⟨_, h1, h2, h3⟩
                      · exact .inl ⟨r, h1, h2, hw.ext h3⟩
                      · exact .inr ⟨(), h1, h2, hw.ext h3⟩) ?_ ?_
                  ·
                    intro _ ho124
                    refine WE.then_panic ?_
                    refine WE.block_panic ?_
                    refine WE.panics fun w' hw => ?_
                    have hw := hw.fronti 5 rfl
                    have hw := hw.fronti 5 rfl
                    have hw := hw.fronti 5 rfl
                    have hw := hw.fronti 5 rfl
                    have hw := hw.fronti 5 rfl
                    have hw := hw.fronti 5 rfl
                    have hw := Ws.keep (L := [_, _, _, _, _, _]) hw
                    refine .inr ⟨(6, (MSt.wst (MSt.wst (MSt.at1 s) r116.2) r123.2)), rfl, ?_, hw⟩
                    unfold stepM stepB
                    rw [show s.pu.at1 = (MSt.at1 s).pu from rfl]
                    simp only [hc0, hc1, hc2, hc3, hc4, hc5, hc6, hc7, Bool.false_eq_true, if_false, if_true]
                    rw [hr116]
                    show Rz.bind (topM (MSt.wst (MSt.at1 s) r116.2).pu) _ = _
                    rw [hr123]
                    show (if outsideB r123.1 s.data.length = true then _ else _) = _
                    rw [if_pos ho124]
                  intro r124 ⟨ho124, ha124⟩
                  obtain ⟨x124, hx124⟩ : ∃ x, s.data[r123.1.toNat]? = some x := ⟨_, List.getElem?_eq_getElem (not_outside ho124).2⟩
                  refine WL.nil ?_
                  refine WE.toU ?_
                  refine WU.q rfl (.inl rfl) rfl (fun _ h => by have h := Ws.out 0 h; have h := Ws.out 0 h; exact h) (yl_nil rfl) ?_
                  refine WU.nil (fun _ h => by have h := Ws.out 0 h; have h := Ws.out 0 h; exact h) ?_
                  refine WS.e rfl ?_
                  refine WL.storeT (y := x124) 4 r123.1.toNat 0 r116.1 (.inl rfl) rfl rfl rfl ha124 rfl iv_len hx124 sz3 rfl rfl (by decide) rfl ?_
                  refine WL.nil ?_
                  refine WE.toS ?_
                  refine WS.nil ?_
                  refine WE.block_normal ?_
                  refine WE.end0 rfl fun w' hw => ?_
                  have hw := hw.fronti 5 rfl
                  have hw := hw.fronti 5 rfl
                  have hw := hw.fronti 5 rfl
                  have hw := hw.fronti 5 rfl
                  have hw := hw.fronti 5 rfl
                  have hw := hw.fronti 5 rfl
                  have hw := Ws.keep (L := [_, _, _, _, _, _]) hw
                  have hw := hw.reL 0 rfl (congrArg (blk bm) (own_setdat (MSt.wst (MSt.wst (MSt.at1 s) r116.2) r123.2) r123.1.toNat r116.1))
                  refine .inl ⟨((), { (MSt.wst (MSt.wst (MSt.at1 s) r116.2) r123.2) with data := s.data.set r123.1.toNat r116.1 }), rfl, ⟨?_, ⟨hg1.inp, hg123.stk, hg1.frs, hg1.out, by show (s.data.set r123.1.toNat r116.1).length ≤ 512; simp; exact hgd⟩⟩, hw⟩
                  unfold stepM stepB
                  rw [show s.pu.at1 = (MSt.at1 s).pu from rfl]
                  simp only [hc0, hc1, hc2, hc3, hc4, hc5, hc6, hc7, Bool.false_eq_true, if_false, if_true]
                  rw [hr116]
                  show Rz.bind (topM (MSt.wst (MSt.at1 s) r116.2).pu) _ = _
                  rw [hr123]
                  show (if outsideB r123.1 s.data.length = true then _ else _) = _
                  rw [ho124, if_neg (by simp)]
                  rfl
                ·
                  refine WC.seq ?_
                  refine WC.region ?_
                  refine WL.val (.inl rfl) rfl (yl_eq rfl rfl) ?_
                  refine WL.val (.inl rfl) rfl (yl_assign rfl) ?_
                  refine WL.nil ?_
                  refine WE.then_normal ?_
                  refine WC.cond rfl (fun hc8 => ?_) (fun hc8 => ?_)
                  ·
                    refine WC.region ?_
                    refine WL.val (.inl rfl) rfl (yl_move rfl) ?_
                    refine WL.val (.inl rfl) rfl (yl_move rfl) ?_
                    refine WL.front 6 rfl ?_
                    refine WL.front 6 rfl ?_
                    refine WL.front 6 rfl ?_
                    refine WL.front 6 rfl ?_
                    refine WL.front 6 rfl ?_
                    refine WL.front 6 rfl ?_
                    refine WL.callwx (ι := Int × List Int) (κ := Int × MSt) [_, _, _, _, _, _] _ (.inl rfl) rfl en86 rfl rfl (fun r => .int .i64 r.1) (fun r => (MSt.own bm (MSt.wst (MSt.at1 s) r.2))) (fun r => topM (MSt.at1 s).pu = .ok r.1 (MSt.wst (MSt.at1 s) r.2).pu ∧ (MSt.wst (MSt.at1 s) r.2).good HI) (fun r => ovr r.1) (fun r => (MSt.own bm r.2)) (fun r => topM (MSt.at1 s).pu = .ov r.1 r.2.pu) ([HI]) (by simp) (fun w hw => top_any bm (MSt.at1 s) HI w hg1 hw) ?_ ?_
                    ·
                      intro r131 hr131
                      refine WE.block_panic ?_
                      refine WE.panics fun w' hw => ?_
                      have hw := hw.fronti 5 rfl
                      have hw := hw.fronti 5 rfl
                      have hw := hw.fronti 5 rfl
                      have hw := hw.fronti 5 rfl
                      have hw := hw.fronti 5 rfl
                      have hw := hw.fronti 5 rfl
                      have hw := Ws.keep (L := [_, _, _, _, _, _]) hw
                      refine .inr ⟨r131, rfl, ?_, hw⟩
                      unfold stepM stepB
                      rw [show s.pu.at1 = (MSt.at1 s).pu from rfl]
                      simp only [hc0, hc1, hc2, hc3, hc4, hc5, hc6, hc7, hc8, Bool.false_eq_true, if_false, if_true]
                      rw [hr131]
                      rfl
                    intro r131 ⟨hr131, hg131⟩
                    refine WL.val (.inl rfl) rfl (yl_eq rfl rfl) ?_
                    refine WL.callp (.inl rfl) rfl en87 rfl (fun w hw => mbit_any _ w) ?_
                    refine WL.front 5 rfl ?_
                    refine WL.front 5 rfl ?_
                    refine WL.front 5 rfl ?_
                    refine WL.front 5 rfl ?_
                    refine WL.front 5 rfl ?_
                    refine WL.front 5 rfl ?_
                    refine WL.callwx (ι := Unit × MSt) (κ := Int × MSt) [_, _, _, _, _, _] _ (.inl rfl) rfl en83 rfl rfl (fun r => .tuple #[]) (fun r => (MSt.own bm r.2)) (fun r => pushM (bitI (r131.1 == 0)) (MSt.wst (MSt.at1 s) r131.2).pu = .ok r.1 r.2.pu ∧ r.2.good HI) (fun r => ovr r.1) (fun r => (MSt.own bm r.2)) (fun r => pushM (bitI (r131.1 == 0)) (MSt.wst (MSt.at1 s) r131.2).pu = .ov r.1 r.2.pu) ([HI]) (by simp) (fun w hw => push_any bm (MSt.wst (MSt.at1 s) r131.2) HI (bitI (r131.1 == 0)) w hg131 hw) ?_ ?_
                    ·
                      intro r134 hr134
                      refine WE.block_panic ?_
                      refine WE.panics fun w' hw => ?_
                      have hw := hw.fronti 5 rfl
                      have hw := hw.fronti 5 rfl
                      have hw := hw.fronti 5 rfl
                      have hw := hw.fronti 5 rfl
                      have hw := hw.fronti 5 rfl
                      have hw := hw.fronti 5 rfl
                      have hw := Ws.keep (L := [_, _, _, _, _, _]) hw
                      refine .inr ⟨r134, rfl, ?_, hw⟩
                      unfold stepM stepB
                      rw [show s.pu.at1 = (MSt.at1 s).pu from rfl]
                      simp only [hc0, hc1, hc2, hc3, hc4, hc5, hc6, hc7, hc8, Bool.false_eq_true, if_false, if_true]
                      rw [hr131]
                      exact hr134
                    intro r134 ⟨hr134, hg134⟩
                    refine WL.nil ?_
                    refine WE.block_normal ?_
                    refine WE.end0 rfl fun w' hw => ?_
                    have hw := hw.fronti 5 rfl
                    have hw := hw.fronti 5 rfl
                    have hw := hw.fronti 5 rfl
                    have hw := hw.fronti 5 rfl
                    have hw := hw.fronti 5 rfl
                    have hw := hw.fronti 5 rfl
                    have hw := Ws.keep (L := [_, _, _, _, _, _]) hw
                    refine .inl ⟨((), r134.2), rfl, ⟨?_, hg134⟩, hw⟩
                    unfold stepM stepB
                    rw [show s.pu.at1 = (MSt.at1 s).pu from rfl]
                    simp only [hc0, hc1, hc2, hc3, hc4, hc5, hc6, hc7, hc8, Bool.false_eq_true, if_false, if_true]
                    rw [hr131]
                    exact hr134
                  ·
                    refine WC.seq ?_
                    refine WC.region ?_
                    refine WL.val (.inl rfl) rfl (yl_eq rfl rfl) ?_
                    refine WL.val (.inl rfl) rfl (yl_assign rfl) ?_
                    refine WL.nil ?_
                    refine WE.then_normal ?_
                    refine WC.cond rfl (fun hc9 => ?_) (fun hc9 => ?_)
                    ·
                      refine WC.region ?_
                      refine WL.val (.inl rfl) rfl (yl_move rfl) ?_
                      refine WL.val (.inl rfl) rfl (yl_move rfl) ?_
                      refine WL.front 6 rfl ?_
                      refine WL.front 6 rfl ?_
                      refine WL.front 6 rfl ?_
                      refine WL.front 6 rfl ?_
                      refine WL.front 6 rfl ?_
                      refine WL.front 6 rfl ?_
                      refine WL.callwx (ι := Int × List Int) (κ := Int × MSt) [_, _, _, _, _, _] _ (.inl rfl) rfl en86 rfl rfl (fun r => .int .i64 r.1) (fun r => (MSt.own bm (MSt.wst (MSt.at1 s) r.2))) (fun r => topM (MSt.at1 s).pu = .ok r.1 (MSt.wst (MSt.at1 s) r.2).pu ∧ (MSt.wst (MSt.at1 s) r.2).good HI) (fun r => ovr r.1) (fun r => (MSt.own bm r.2)) (fun r => topM (MSt.at1 s).pu = .ov r.1 r.2.pu) ([HI]) (by simp) (fun w hw => top_any bm (MSt.at1 s) HI w hg1 hw) ?_ ?_
                      ·
                        intro r139 hr139
                        refine WE.block_panic ?_
                        refine WE.panics fun w' hw => ?_
                        have hw := hw.fronti 5 rfl
                        have hw := hw.fronti 5 rfl
                        have hw := hw.fronti 5 rfl
                        have hw := hw.fronti 5 rfl
                        have hw := hw.fronti 5 rfl
                        have hw := hw.fronti 5 rfl
                        have hw := Ws.keep (L := [_, _, _, _, _, _]) hw
                        refine .inr ⟨r139, rfl, ?_, hw⟩
                        unfold stepM stepB
                        rw [show s.pu.at1 = (MSt.at1 s).pu from rfl]
                        simp only [hc0, hc1, hc2, hc3, hc4, hc5, hc6, hc7, hc8, hc9, Bool.false_eq_true, if_false, if_true]
                        rw [hr139]
                        rfl
                      intro r139 ⟨hr139, hg139⟩
                      refine WL.val (.inl rfl) rfl (yl_ne rfl rfl) ?_
                      refine WL.callp (.inl rfl) rfl en87 rfl (fun w hw => mbit_any _ w) ?_
                      refine WL.front 5 rfl ?_
                      refine WL.front 5 rfl ?_
                      refine WL.front 5 rfl ?_
                      refine WL.front 5 rfl ?_
                      refine WL.front 5 rfl ?_
                      refine WL.front 5 rfl ?_
                      refine WL.callwx (ι := Unit × MSt) (κ := Int × MSt) [_, _, _, _, _, _] _ (.inl rfl) rfl en83 rfl rfl (fun r => .tuple #[]) (fun r => (MSt.own bm r.2)) (fun r => pushM (bitI (r139.1 != 0)) (MSt.wst (MSt.at1 s) r139.2).pu = .ok r.1 r.2.pu ∧ r.2.good HI) (fun r => ovr r.1) (fun r => (MSt.own bm r.2)) (fun r => pushM (bitI (r139.1 != 0)) (MSt.wst (MSt.at1 s) r139.2).pu = .ov r.1 r.2.pu) ([HI]) (by simp) (fun w hw => push_any bm (MSt.wst (MSt.at1 s) r139.2) HI (bitI (r139.1 != 0)) w hg139 hw) ?_ ?_
                      ·
                        intro r142 hr142
                        refine WE.block_panic ?_
                        refine WE.panics fun w' hw => ?_
                        have hw := hw.fronti 5 rfl
                        have hw := hw.fronti 5 rfl
                        have hw := hw.fronti 5 rfl
                        have hw := hw.fronti 5 rfl
                        have hw := hw.fronti 5 rfl
                        have hw := hw.fronti 5 rfl
                        have hw := Ws.keep (L := [_, _, _, _, _, _]) hw
                        refine .inr ⟨r142, rfl, ?_, hw⟩
                        unfold stepM stepB
                        rw [show s.pu.at1 = (MSt.at1 s).pu from rfl]
                        simp only [hc0, hc1, hc2, hc3, hc4, hc5, hc6, hc7, hc8, hc9, Bool.false_eq_true, if_false, if_true]
                        rw [hr139]
                        exact hr142
                      intro r142 ⟨hr142, hg142⟩
                      refine WL.nil ?_
                      refine WE.block_normal ?_
                      refine WE.end0 rfl fun w' hw => ?_
                      have hw := hw.fronti 5 rfl
                      have hw := hw.fronti 5 rfl
                      have hw := hw.fronti 5 rfl
                      have hw := hw.fronti 5 rfl
                      have hw := hw.fronti 5 rfl
                      have hw := hw.fronti 5 rfl
                      have hw := Ws.keep (L := [_, _, _, _, _, _]) hw
                      refine .inl ⟨((), r142.2), rfl, ⟨?_, hg142⟩, hw⟩
                      unfold stepM stepB
                      rw [show s.pu.at1 = (MSt.at1 s).pu from rfl]
                      simp only [hc0, hc1, hc2, hc3, hc4, hc5, hc6, hc7, hc8, hc9, Bool.false_eq_true, if_false, if_true]
                      rw [hr139]
                      exact hr142
                    ·
                      refine WC.seq ?_
                      refine WC.region ?_
                      refine WL.val (.inl rfl) rfl (yl_eq rfl rfl) ?_
                      refine WL.val (.inl rfl) rfl (yl_assign rfl) ?_
                      refine WL.nil ?_
                      refine WE.then_normal ?_
                      refine WC.cond rfl (fun hc10 => ?_) (fun hc10 => ?_)
                      ·
                        refine WC.region ?_
                        refine WL.val (.inl rfl) rfl (yl_move rfl) ?_
                        refine WL.val (.inl rfl) rfl (yl_fa fo65_1 rfl) ?_
                        refine WL.val (.inl rfl) rfl (yl_ldk 0 rfl rfl rfl na3) ?_
                        refine WL.front 6 rfl ?_
                        refine WL.front 6 rfl ?_
                        refine WL.front 6 rfl ?_
                        refine WL.front 6 rfl ?_
                        refine WL.front 6 rfl ?_
                        refine WL.front 6 rfl ?_
                        refine WL.callwx (ι := Unit × MSt) (κ := Int × MSt) [_, _, _, _, _, _] _ (.inl rfl) rfl en88 rfl rfl (fun r => .tuple #[]) (fun r => (MSt.own bm r.2)) (fun r => mathM i.a (MSt.at1 s).pu = .ok r.1 r.2.pu ∧ r.2.good HI) (fun r => ovr r.1) (fun r => (MSt.own bm r.2)) (fun r => mathM i.a (MSt.at1 s).pu = .ov r.1 r.2.pu) ([HI]) (by simp) (fun w hw => math_any bm (MSt.at1 s) HI i.a w hg1 hw) ?_ ?_
                        ·
                          intro r148 hr148
                          refine WE.block_panic ?_
                          refine WE.panics fun w' hw => ?_
                          have hw := hw.fronti 5 rfl
                          have hw := hw.fronti 5 rfl
                          have hw := hw.fronti 5 rfl
                          have hw := hw.fronti 5 rfl
                          have hw := hw.fronti 5 rfl
                          have hw := hw.fronti 5 rfl
                          have hw := Ws.keep (L := [_, _, _, _, _, _]) hw
                          refine .inr ⟨r148, rfl, ?_, hw⟩
                          unfold stepM stepB
                          rw [show s.pu.at1 = (MSt.at1 s).pu from rfl]
                          simp only [hc0, hc1, hc2, hc3, hc4, hc5, hc6, hc7, hc8, hc9, hc10, Bool.false_eq_true, if_false, if_true]
                          exact hr148
                        intro r148 ⟨hr148, hg148⟩
                        refine WL.nil ?_
                        refine WE.block_normal ?_
                        refine WE.end0 rfl fun w' hw => ?_
                        have hw := hw.fronti 5 rfl
                        have hw := hw.fronti 5 rfl
                        have hw := hw.fronti 5 rfl
                        have hw := hw.fronti 5 rfl
                        have hw := hw.fronti 5 rfl
                        have hw := hw.fronti 5 rfl
                        have hw := Ws.keep (L := [_, _, _, _, _, _]) hw
                        refine .inl ⟨((), r148.2), rfl, ⟨?_, hg148⟩, hw⟩
                        unfold stepM stepB
                        rw [show s.pu.at1 = (MSt.at1 s).pu from rfl]
                        simp only [hc0, hc1, hc2, hc3, hc4, hc5, hc6, hc7, hc8, hc9, hc10, Bool.false_eq_true, if_false, if_true]
                        exact hr148
                      ·
                        refine WC.seq ?_
                        refine WC.region ?_
                        refine WL.val (.inl rfl) rfl (yl_eq rfl rfl) ?_
                        refine WL.val (.inl rfl) rfl (yl_assign rfl) ?_
                        refine WL.nil ?_
                        refine WE.then_normal ?_
                        refine WC.cond rfl (fun hc11 => ?_) (fun hc11 => ?_)
                        ·
                          refine WC.region ?_
                          refine WL.val (.inl rfl) rfl (yl_move rfl) ?_
                          refine WL.val (.inl rfl) rfl (yl_fa fo65_1 rfl) ?_
                          refine WL.val (.inl rfl) rfl (yl_ldk 0 rfl rfl rfl na3) ?_
                          refine WL.val (.inl rfl) rfl (yl_nil rfl) ?_
                          refine WL.val (.inl rfl) rfl (yl_fa fo108_0 rfl) ?_
                          refine WL.store 1 (.inl rfl) rfl rfl rfl sz3 rfl rfl rfl ?_
                          refine WL.nil ?_
                          refine WE.block_normal ?_
                          refine WE.end0 rfl fun w' hw => ?_
                          have hw := hw.fronti 6 rfl
                          have hw := hw.fronti 6 rfl
                          have hw := hw.fronti 6 rfl
                          have hw := hw.fronti 6 rfl
                          have hw := hw.fronti 6 rfl
                          have hw := hw.fronti 6 rfl
                          have hw := Ws.keep (L := [_, _, _, _, _, _]) hw
                          refine .inl ⟨((), { (MSt.at1 s) with at_ := i.a }), rfl, ⟨?_, hg1.at i.a⟩, hw⟩
                          unfold stepM stepB
                          rw [show s.pu.at1 = (MSt.at1 s).pu from rfl]
                          simp only [hc0, hc1, hc2, hc3, hc4, hc5, hc6, hc7, hc8, hc9, hc10, hc11, Bool.false_eq_true, if_false, if_true]
                          all_goals rfl
                        ·
                          refine WC.seq ?_
                          refine WC.region ?_
                          refine WL.val (.inl rfl) rfl (yl_eq rfl rfl) ?_
                          refine WL.val (.inl rfl) rfl (yl_assign rfl) ?_
                          refine WL.nil ?_
                          refine WE.then_normal ?_
                          refine WC.cond rfl (fun hc12 => ?_) (fun hc12 => ?_)
                          ·
                            refine WC.seq ?_
                            refine WC.region ?_
                            refine WL.val (.inl rfl) rfl (yl_move rfl) ?_
                            refine WL.front 6 rfl ?_
                            refine WL.front 6 rfl ?_
                            refine WL.front 6 rfl ?_
                            refine WL.front 6 rfl ?_
                            refine WL.front 6 rfl ?_
                            refine WL.front 6 rfl ?_
                            refine WL.callwx (ι := Int × List Int) (κ := Int × MSt) [_, _, _, _, _, _] _ (.inl rfl) rfl en86 rfl rfl (fun r => .int .i64 r.1) (fun r => (MSt.own bm (MSt.wst (MSt.at1 s) r.2))) (fun r => topM (MSt.at1 s).pu = .ok r.1 (MSt.wst (MSt.at1 s) r.2).pu ∧ (MSt.wst (MSt.at1 s) r.2).good HI) (fun r => ovr r.1) (fun r => (MSt.own bm r.2)) (fun r => topM (MSt.at1 s).pu = .ov r.1 r.2.pu) ([HI]) (by simp) (fun w hw => top_any bm (MSt.at1 s) HI w hg1 hw) ?_ ?_
                            ·
                              intro r159 hr159
                              refine WE.then_panic ?_
                              refine WE.block_panic ?_
                              refine WE.panics fun w' hw => ?_
                              have hw := hw.fronti 5 rfl
                              have hw := hw.fronti 5 rfl
                              have hw := hw.fronti 5 rfl
                              have hw := hw.fronti 5 rfl
                              have hw := hw.fronti 5 rfl
                              have hw := hw.fronti 5 rfl
                              have hw := Ws.keep (L := [_, _, _, _, _, _]) hw
                              refine .inr ⟨r159, rfl, ?_, hw⟩
                              unfold stepM stepB
                              rw [show s.pu.at1 = (MSt.at1 s).pu from rfl]
                              simp only [hc0, hc1, hc2, hc3, hc4, hc5, hc6, hc7, hc8, hc9, hc10, hc11, hc12, Bool.false_eq_true, if_false, if_true]
                              rw [hr159]
                              rfl
                            intro r159 ⟨hr159, hg159⟩
                            refine WL.val (.inl rfl) rfl (yl_eq rfl rfl) ?_
                            refine WL.nil ?_
                            refine WE.then_normal ?_
                            refine WC.cond rfl (fun hc13 => ?_) (fun hc13 => ?_)
                            ·
                              refine WC.region ?_
                              refine WL.val (.inl rfl) rfl (yl_move rfl) ?_
                              refine WL.val (.inl rfl) rfl (yl_fa fo65_1 rfl) ?_
                              refine WL.val (.inl rfl) rfl (yl_ldk 6 rfl rfl rfl na3) ?_
                              refine WL.val (.inl rfl) rfl (yl_nil rfl) ?_
                              refine WL.val (.inl rfl) rfl (yl_fa fo108_0 rfl) ?_
                              refine WL.store 0 (.inl rfl) rfl rfl rfl sz3 rfl rfl rfl ?_
                              refine WL.nil ?_
                              refine WE.block_normal ?_
                              refine WE.end0 rfl fun w' hw => ?_
                              have hw := hw.fronti 5 rfl
                              have hw := hw.fronti 5 rfl
                              have hw := hw.fronti 5 rfl
                              have hw := hw.fronti 5 rfl
                              have hw := hw.fronti 5 rfl
                              have hw := hw.fronti 5 rfl
                              have hw := Ws.keep (L := [_, _, _, _, _, _]) hw
                              refine .inl ⟨((), { (MSt.wst (MSt.at1 s) r159.2) with at_ := i.a }), rfl, ⟨?_, hg159.at _⟩, hw⟩
                              unfold stepM stepB
                              rw [show s.pu.at1 = (MSt.at1 s).pu from rfl]
                              simp only [hc0, hc1, hc2, hc3, hc4, hc5, hc6, hc7, hc8, hc9, hc10, hc11, hc12, Bool.false_eq_true, if_false, if_true]
                              rw [hr159]
                              show (if (r159.1 == 0) = true then _ else _) = _
                              rw [hc13]
                              rfl
                            ·
                              refine WC.skip ?_
                              refine WE.block_normal ?_
                              refine WE.end0 rfl fun w' hw => ?_
                              have hw := hw.fronti 5 rfl
                              have hw := hw.fronti 5 rfl
                              have hw := hw.fronti 5 rfl
                              have hw := hw.fronti 5 rfl
                              have hw := hw.fronti 5 rfl
                              have hw := hw.fronti 5 rfl
                              have hw := Ws.keep (L := [_, _, _, _, _, _]) hw
                              refine .inl ⟨((), (MSt.wst (MSt.at1 s) r159.2)), rfl, ⟨?_, hg159⟩, hw⟩
                              unfold stepM stepB
                              rw [show s.pu.at1 = (MSt.at1 s).pu from rfl]
                              simp only [hc0, hc1, hc2, hc3, hc4, hc5, hc6, hc7, hc8, hc9, hc10, hc11, hc12, Bool.false_eq_true, if_false, if_true]
                              rw [hr159]
                              show (if (r159.1 == 0) = true then _ else _) = _
                              rw [hc13]
                              rfl
                          ·
                            refine WC.seq ?_
                            refine WC.region ?_
                            refine WL.val (.inl rfl) rfl (yl_eq rfl rfl) ?_
                            refine WL.val (.inl rfl) rfl (yl_assign rfl) ?_
                            refine WL.nil ?_
                            refine WE.then_normal ?_
                            refine WC.cond rfl (fun hc14 => ?_) (fun hc14 => ?_)
                            ·
                              refine WC.region ?_
                              refine WL.val (.inl rfl) rfl (yl_move rfl) ?_
                              refine WL.val (.inl rfl) rfl (yl_fa fo65_1 rfl) ?_
                              refine WL.val (.inl rfl) rfl (yl_ldk 0 rfl rfl rfl na3) ?_
                              refine WL.front 6 rfl ?_
                              refine WL.front 6 rfl ?_
                              refine WL.front 6 rfl ?_
                              refine WL.front 6 rfl ?_
                              refine WL.front 6 rfl ?_
                              refine WL.front 6 rfl ?_
                              refine WL.callwx (ι := Unit × MSt) (κ := Int × MSt) [_, _, _, _, _, _] _ (.inl rfl) rfl en89 rfl rfl (fun r => .tuple #[]) (fun r => (MSt.own bm r.2)) (fun r => callM i.a (MSt.at1 s).pu = .ok r.1 r.2.pu ∧ r.2.good HI) (fun r => ovr r.1) (fun r => (MSt.own bm r.2)) (fun r => callM i.a (MSt.at1 s).pu = .ov r.1 r.2.pu) ([HI]) (by simp) (fun w hw => call_any bm (MSt.at1 s) HI i.a w hg1 hw) ?_ ?_
                              ·
                                intro r171 hr171
                                refine WE.block_panic ?_
                                refine WE.panics fun w' hw => ?_
                                have hw := hw.fronti 5 rfl
                                have hw := hw.fronti 5 rfl
                                have hw := hw.fronti 5 rfl
                                have hw := hw.fronti 5 rfl
                                have hw := hw.fronti 5 rfl
                                have hw := hw.fronti 5 rfl
                                have hw := Ws.keep (L := [_, _, _, _, _, _]) hw
                                refine .inr ⟨r171, rfl, ?_, hw⟩
                                unfold stepM stepB
                                rw [show s.pu.at1 = (MSt.at1 s).pu from rfl]
                                simp only [hc0, hc1, hc2, hc3, hc4, hc5, hc6, hc7, hc8, hc9, hc10, hc11, hc12, hc14, Bool.false_eq_true, if_false, if_true]
                                exact hr171
                              intro r171 ⟨hr171, hg171⟩
                              refine WL.nil ?_
                              refine WE.block_normal ?_
                              refine WE.end0 rfl fun w' hw => ?_
                              have hw := hw.fronti 5 rfl
                              have hw := hw.fronti 5 rfl
                              have hw := hw.fronti 5 rfl
                              have hw := hw.fronti 5 rfl
                              have hw := hw.fronti 5 rfl
                              have hw := hw.fronti 5 rfl
                              have hw := Ws.keep (L := [_, _, _, _, _, _]) hw
                              refine .inl ⟨((), r171.2), rfl, ⟨?_, hg171⟩, hw⟩
                              unfold stepM stepB
                              rw [show s.pu.at1 = (MSt.at1 s).pu from rfl]
                              simp only [hc0, hc1, hc2, hc3, hc4, hc5, hc6, hc7, hc8, hc9, hc10, hc11, hc12, hc14, Bool.false_eq_true, if_false, if_true]
                              exact hr171
                            ·
                              refine WC.seq ?_
                              refine WC.region ?_
                              refine WL.val (.inl rfl) rfl (yl_eq rfl rfl) ?_
                              refine WL.val (.inl rfl) rfl (yl_assign rfl) ?_
                              refine WL.nil ?_
                              refine WE.then_normal ?_
                              refine WC.cond rfl (fun hc15 => ?_) (fun hc15 => ?_)
                              ·
                                refine WC.region ?_
                                refine WL.val (.inl rfl) rfl (yl_move rfl) ?_
                                refine WL.val (.inl rfl) rfl (yl_fa fo65_1 rfl) ?_
                                refine WL.val (.inl rfl) rfl (yl_ldk 0 rfl rfl rfl na3) ?_
                                refine WL.val (.inl rfl) rfl (yl_fa fo65_2 rfl) ?_
                                refine WL.val (.inl rfl) rfl (yl_ldk 0 rfl rfl rfl na3) ?_
                                refine WL.front 6 rfl ?_
                                refine WL.front 6 rfl ?_
                                refine WL.front 6 rfl ?_
                                refine WL.front 6 rfl ?_
                                refine WL.front 6 rfl ?_
                                refine WL.front 6 rfl ?_
                                refine WL.callwx (ι := Unit × MSt) (κ := Int × MSt) [_, _, _, _, _, _] _ (.inl rfl) rfl en90 rfl rfl (fun r => .tuple #[]) (fun r => (MSt.own bm r.2)) (fun r => enterM i.a i.b (MSt.at1 s).pu = .ok r.1 r.2.pu ∧ r.2.good HI) (fun r => ovr r.1) (fun r => (MSt.own bm r.2)) (fun r => enterM i.a i.b (MSt.at1 s).pu = .ov r.1 r.2.pu) ([HI]) (by simp) (fun w hw => enter_any bm (MSt.at1 s) HI i.a i.b w hg1 hw) ?_ ?_
                                ·
                                  intro r179 hr179
                                  refine WE.block_panic ?_
                                  refine WE.panics fun w' hw => ?_
                                  have hw := hw.fronti 5 rfl
                                  have hw := hw.fronti 5 rfl
                                  have hw := hw.fronti 5 rfl
                                  have hw := hw.fronti 5 rfl
                                  have hw := hw.fronti 5 rfl
                                  have hw := hw.fronti 5 rfl
                                  have hw := Ws.keep (L := [_, _, _, _, _, _]) hw
                                  refine .inr ⟨r179, rfl, ?_, hw⟩
                                  unfold stepM stepB
                                  rw [show s.pu.at1 = (MSt.at1 s).pu from rfl]
                                  simp only [hc0, hc1, hc2, hc3, hc4, hc5, hc6, hc7, hc8, hc9, hc10, hc11, hc12, hc14, hc15, Bool.false_eq_true, if_false, if_true]
                                  exact hr179
                                intro r179 ⟨hr179, hg179⟩
                                refine WL.nil ?_
                                refine WE.block_normal ?_
                                refine WE.end0 rfl fun w' hw => ?_
                                have hw := hw.fronti 5 rfl
                                have hw := hw.fronti 5 rfl
                                have hw := hw.fronti 5 rfl
                                have hw := hw.fronti 5 rfl
                                have hw := hw.fronti 5 rfl
                                have hw := hw.fronti 5 rfl
                                have hw := Ws.keep (L := [_, _, _, _, _, _]) hw
                                refine .inl ⟨((), r179.2), rfl, ⟨?_, hg179⟩, hw⟩
                                unfold stepM stepB
                                rw [show s.pu.at1 = (MSt.at1 s).pu from rfl]
                                simp only [hc0, hc1, hc2, hc3, hc4, hc5, hc6, hc7, hc8, hc9, hc10, hc11, hc12, hc14, hc15, Bool.false_eq_true, if_false, if_true]
                                exact hr179
                              ·
                                refine WC.seq ?_
                                refine WC.region ?_
                                refine WL.val (.inl rfl) rfl (yl_eq rfl rfl) ?_
                                refine WL.val (.inl rfl) rfl (yl_assign rfl) ?_
                                refine WL.nil ?_
                                refine WE.then_normal ?_
                                refine WC.cond rfl (fun hc16 => ?_) (fun hc16 => ?_)
                                ·
                                  refine WC.region ?_
                                  refine WL.val (.inl rfl) rfl (yl_move rfl) ?_
                                  refine WL.front 6 rfl ?_
                                  refine WL.front 6 rfl ?_
                                  refine WL.front 6 rfl ?_
                                  refine WL.front 6 rfl ?_
                                  refine WL.front 6 rfl ?_
                                  refine WL.front 6 rfl ?_
                                  refine WL.callwx (ι := Unit × MSt) (κ := Int × MSt) [_, _, _, _, _, _] _ (.inl rfl) rfl en91 rfl rfl (fun r => .tuple #[]) (fun r => (MSt.own bm r.2)) (fun r => retM (MSt.at1 s).pu = .ok r.1 r.2.pu ∧ r.2.good HI) (fun r => ovr r.1) (fun r => (MSt.own bm r.2)) (fun r => retM (MSt.at1 s).pu = .ov r.1 r.2.pu) ([HI]) (by simp) (fun w hw => ret_any bm (MSt.at1 s) HI  w hg1 hw) ?_ ?_
                                  ·
                                    intro r183 hr183
                                    refine WE.block_panic ?_
                                    refine WE.panics fun w' hw => ?_
                                    have hw := hw.fronti 5 rfl
                                    have hw := hw.fronti 5 rfl
                                    have hw := hw.fronti 5 rfl
                                    have hw := hw.fronti 5 rfl
                                    have hw := hw.fronti 5 rfl
                                    have hw := hw.fronti 5 rfl
                                    have hw := Ws.keep (L := [_, _, _, _, _, _]) hw
                                    refine .inr ⟨r183, rfl, ?_, hw⟩
                                    unfold stepM stepB
                                    rw [show s.pu.at1 = (MSt.at1 s).pu from rfl]
                                    simp only [hc0, hc1, hc2, hc3, hc4, hc5, hc6, hc7, hc8, hc9, hc10, hc11, hc12, hc14, hc15, hc16, Bool.false_eq_true, if_false, if_true]
                                    exact hr183
                                  intro r183 ⟨hr183, hg183⟩
                                  refine WL.nil ?_
                                  refine WE.block_normal ?_
                                  refine WE.end0 rfl fun w' hw => ?_
                                  have hw := hw.fronti 5 rfl
                                  have hw := hw.fronti 5 rfl
                                  have hw := hw.fronti 5 rfl
                                  have hw := hw.fronti 5 rfl
                                  have hw := hw.fronti 5 rfl
                                  have hw := hw.fronti 5 rfl
                                  have hw := Ws.keep (L := [_, _, _, _, _, _]) hw
                                  refine .inl ⟨((), r183.2), rfl, ⟨?_, hg183⟩, hw⟩
                                  unfold stepM stepB
                                  rw [show s.pu.at1 = (MSt.at1 s).pu from rfl]
                                  simp only [hc0, hc1, hc2, hc3, hc4, hc5, hc6, hc7, hc8, hc9, hc10, hc11, hc12, hc14, hc15, hc16, Bool.false_eq_true, if_false, if_true]
                                  exact hr183
                                ·
                                  refine WC.seq ?_
                                  refine WC.region ?_
                                  refine WL.val (.inl rfl) rfl (yl_eq rfl rfl) ?_
                                  refine WL.val (.inl rfl) rfl (yl_assign rfl) ?_
                                  refine WL.nil ?_
                                  refine WE.then_normal ?_
                                  refine WC.cond rfl (fun hc17 => ?_) (fun hc17 => ?_)
                                  ·
                                    refine WC.region ?_
                                    refine WL.val (.inl rfl) rfl (yl_move rfl) ?_
                                    refine WL.front 6 rfl ?_
                                    refine WL.front 6 rfl ?_
                                    refine WL.front 6 rfl ?_
                                    refine WL.front 6 rfl ?_
                                    refine WL.front 6 rfl ?_
                                    refine WL.front 6 rfl ?_
                                    refine WL.callwx (ι := Unit × MSt) (κ := Int × MSt) [_, _, _, _, _, _] _ (.inl rfl) rfl en92 rfl rfl (fun r => .tuple #[]) (fun r => (MSt.own bm r.2)) (fun r => tickM (MSt.at1 s).pu = .ok r.1 r.2.pu ∧ r.2.good HI) (fun r => ovr r.1) (fun r => (MSt.own bm r.2)) (fun r => tickM (MSt.at1 s).pu = .ov r.1 r.2.pu) ([HI]) (by simp) (fun w hw => tick_any bm (MSt.at1 s) HI  w hg1 hw) ?_ ?_
                                    ·
                                      intro r187 hr187
                                      refine WE.block_panic ?_
                                      refine WE.panics fun w' hw => ?_
                                      have hw := hw.fronti 5 rfl
                                      have hw := hw.fronti 5 rfl
                                      have hw := hw.fronti 5 rfl
                                      have hw := hw.fronti 5 rfl
                                      have hw := hw.fronti 5 rfl
                                      have hw := hw.fronti 5 rfl
                                      have hw := Ws.keep (L := [_, _, _, _, _, _]) hw
                                      refine .inr ⟨r187, rfl, ?_, hw⟩
                                      unfold stepM stepB
                                      rw [show s.pu.at1 = (MSt.at1 s).pu from rfl]
                                      simp only [hc0, hc1, hc2, hc3, hc4, hc5, hc6, hc7, hc8, hc9, hc10, hc11, hc12, hc14, hc15, hc16, hc17, Bool.false_eq_true, if_false, if_true]
                                      exact hr187
                                    intro r187 ⟨hr187, hg187⟩
                                    refine WL.nil ?_
                                    refine WE.block_normal ?_
                                    refine WE.end0 rfl fun w' hw => ?_
                                    have hw := hw.fronti 5 rfl
                                    have hw := hw.fronti 5 rfl
                                    have hw := hw.fronti 5 rfl
                                    have hw := hw.fronti 5 rfl
                                    have hw := hw.fronti 5 rfl
                                    have hw := hw.fronti 5 rfl
                                    have hw := Ws.keep (L := [_, _, _, _, _, _]) hw
                                    refine .inl ⟨((), r187.2), rfl, ⟨?_, hg187⟩, hw⟩
                                    unfold stepM stepB
                                    rw [show s.pu.at1 = (MSt.at1 s).pu from rfl]
                                    simp only [hc0, hc1, hc2, hc3, hc4, hc5, hc6, hc7, hc8, hc9, hc10, hc11, hc12, hc14, hc15, hc16, hc17, Bool.false_eq_true, if_false, if_true]
                                    exact hr187
                                  ·
                                    refine WC.seq ?_
                                    refine WC.region ?_
                                    refine WL.val (.inl rfl) rfl (yl_eq rfl rfl) ?_
                                    refine WL.val (.inl rfl) rfl (yl_assign rfl) ?_
                                    refine WL.nil ?_
                                    refine WE.then_normal ?_
                                    refine WC.cond rfl (fun hc18 => ?_) (fun hc18 => ?_)
                                    ·
                                      refine WC.region ?_
                                      refine WL.val (.inl rfl) rfl (yl_move rfl) ?_
                                      refine WL.front 6 rfl ?_
                                      refine WL.front 6 rfl ?_
                                      refine WL.front 6 rfl ?_
                                      refine WL.front 6 rfl ?_
                                      refine WL.front 6 rfl ?_
                                      refine WL.front 6 rfl ?_
                                      refine WL.callwx (ι := Int × List Int) (κ := Int × MSt) [_, _, _, _, _, _] _ (.inl rfl) rfl en86 rfl rfl (fun r => .int .i64 r.1) (fun r => (MSt.own bm (MSt.wst (MSt.at1 s) r.2))) (fun r => topM (MSt.at1 s).pu = .ok r.1 (MSt.wst (MSt.at1 s) r.2).pu ∧ (MSt.wst (MSt.at1 s) r.2).good HI) (fun r => ovr r.1) (fun r => (MSt.own bm r.2)) (fun r => topM (MSt.at1 s).pu = .ov r.1 r.2.pu) ([HI]) (by simp) (fun w hw => top_any bm (MSt.at1 s) HI w hg1 hw) ?_ ?_
                                      ·
                                        intro r191 hr191
                                        refine WE.block_panic ?_
                                        refine WE.panics fun w' hw => ?_
                                        have hw := hw.fronti 5 rfl
                                        have hw := hw.fronti 5 rfl
                                        have hw := hw.fronti 5 rfl
                                        have hw := hw.fronti 5 rfl
                                        have hw := hw.fronti 5 rfl
                                        have hw := hw.fronti 5 rfl
                                        have hw := Ws.keep (L := [_, _, _, _, _, _]) hw
                                        refine .inr ⟨r191, rfl, ?_, hw⟩
                                        unfold stepM stepB
                                        rw [show s.pu.at1 = (MSt.at1 s).pu from rfl]
                                        simp only [hc0, hc1, hc2, hc3, hc4, hc5, hc6, hc7, hc8, hc9, hc10, hc11, hc12, hc14, hc15, hc16, hc17, hc18, Bool.false_eq_true, if_false, if_true]
                                        rw [hr191]
                                        rfl
                                      intro r191 ⟨hr191, hg191⟩
                                      refine WL.nil ?_
                                      refine WE.block_normal ?_
                                      refine WE.end0 rfl fun w' hw => ?_
                                      have hw := hw.fronti 5 rfl
                                      have hw := hw.fronti 5 rfl
                                      have hw := hw.fronti 5 rfl
                                      have hw := hw.fronti 5 rfl
                                      have hw := hw.fronti 5 rfl
                                      have hw := hw.fronti 5 rfl
                                      have hw := Ws.keep (L := [_, _, _, _, _, _]) hw
                                      refine .inl ⟨((), (MSt.wst (MSt.at1 s) r191.2)), rfl, ⟨?_, hg191⟩, hw⟩
                                      unfold stepM stepB
                                      rw [show s.pu.at1 = (MSt.at1 s).pu from rfl]
                                      simp only [hc0, hc1, hc2, hc3, hc4, hc5, hc6, hc7, hc8, hc9, hc10, hc11, hc12, hc14, hc15, hc16, hc17, hc18, Bool.false_eq_true, if_false, if_true]
                                      rw [hr191]
                                      rfl
                                    ·
                                      refine WC.seq ?_
                                      refine WC.region ?_
                                      refine WL.val (.inl rfl) rfl (yl_eq rfl rfl) ?_
                                      refine WL.val (.inl rfl) rfl (yl_assign rfl) ?_
                                      refine WL.nil ?_
                                      refine WE.then_normal ?_
                                      refine WC.cond rfl (fun hc19 => ?_) (fun hc19 => ?_)
                                      ·
                                        refine WC.region ?_
                                        refine WL.val (.inl rfl) rfl (yl_move rfl) ?_
                                        refine WL.val (.inl rfl) rfl (yl_move rfl) ?_
                                        refine WL.front 6 rfl ?_
                                        refine WL.front 6 rfl ?_
                                        refine WL.front 6 rfl ?_
                                        refine WL.front 6 rfl ?_
                                        refine WL.front 6 rfl ?_
                                        refine WL.front 6 rfl ?_
                                        refine WL.callwx (ι := Int × MSt) (κ := Int × MSt) [_, _, _, _, _, _] _ (.inl rfl) rfl en93 rfl rfl (fun r => .int .i64 r.1) (fun r => (MSt.own bm r.2)) (fun r => Rz.ok (readM (MSt.at1 s).pu).1 (readM (MSt.at1 s).pu).2 = .ok r.1 r.2.pu ∧ r.2.good HI) (fun r => ovr r.1) (fun r => (MSt.own bm r.2)) (fun r => Rz.ok (readM (MSt.at1 s).pu).1 (readM (MSt.at1 s).pu).2 = .ov r.1 r.2.pu) ([HI]) (by simp) (fun w hw => read_any bm (MSt.at1 s) HI  w hg1 hw) ?_ ?_
                                        ·
                                          intro r196 hr196
                                          refine WE.block_panic ?_
                                          refine WE.panics fun w' hw => ?_
                                          cases hr196
                                        intro r196 ⟨hr196, hg196⟩
                                        refine WL.front 5 rfl ?_
                                        refine WL.front 5 rfl ?_
                                        refine WL.front 5 rfl ?_
                                        refine WL.front 5 rfl ?_
                                        refine WL.front 5 rfl ?_
                                        refine WL.front 5 rfl ?_
                                        refine WL.callwx (ι := Unit × MSt) (κ := Int × MSt) [_, _, _, _, _, _] _ (.inl rfl) rfl en83 rfl rfl (fun r => .tuple #[]) (fun r => (MSt.own bm r.2)) (fun r => pushM r196.1 r196.2.pu = .ok r.1 r.2.pu ∧ r.2.good HI) (fun r => ovr r.1) (fun r => (MSt.own bm r.2)) (fun r => pushM r196.1 r196.2.pu = .ov r.1 r.2.pu) ([HI]) (by simp) (fun w hw => push_any bm r196.2 HI r196.1 w hg196 hw) ?_ ?_
                                        ·
                                          intro r197 hr197
                                          refine WE.block_panic ?_
                                          refine WE.panics fun w' hw => ?_
                                          have hw := hw.fronti 5 rfl
                                          have hw := hw.fronti 5 rfl
                                          have hw := hw.fronti 5 rfl
                                          have hw := hw.fronti 5 rfl
                                          have hw := hw.fronti 5 rfl
                                          have hw := hw.fronti 5 rfl
                                          have hw := Ws.keep (L := [_, _, _, _, _, _]) hw
                                          refine .inr ⟨r197, rfl, ?_, hw⟩
                                          unfold stepM stepB
                                          rw [show s.pu.at1 = (MSt.at1 s).pu from rfl]
                                          simp only [hc0, hc1, hc2, hc3, hc4, hc5, hc6, hc7, hc8, hc9, hc10, hc11, hc12, hc14, hc15, hc16, hc17, hc18, hc19, Bool.false_eq_true, if_false, if_true]
                                          injection hr196 with e1 e2
                                          rw [e1, e2]
                                          exact hr197
                                        intro r197 ⟨hr197, hg197⟩
                                        refine WL.nil ?_
                                        refine WE.block_normal ?_
                                        refine WE.end0 rfl fun w' hw => ?_
                                        have hw := hw.fronti 5 rfl
                                        have hw := hw.fronti 5 rfl
                                        have hw := hw.fronti 5 rfl
                                        have hw := hw.fronti 5 rfl
                                        have hw := hw.fronti 5 rfl
                                        have hw := hw.fronti 5 rfl
                                        have hw := Ws.keep (L := [_, _, _, _, _, _]) hw
                                        refine .inl ⟨((), r197.2), rfl, ⟨?_, hg197⟩, hw⟩
                                        unfold stepM stepB
                                        rw [show s.pu.at1 = (MSt.at1 s).pu from rfl]
                                        simp only [hc0, hc1, hc2, hc3, hc4, hc5, hc6, hc7, hc8, hc9, hc10, hc11, hc12, hc14, hc15, hc16, hc17, hc18, hc19, Bool.false_eq_true, if_false, if_true]
                                        injection hr196 with e1 e2
                                        rw [e1, e2]
                                        exact hr197
                                      ·
                                        refine WC.seq ?_
                                        refine WC.region ?_
                                        refine WL.val (.inl rfl) rfl (yl_eq rfl rfl) ?_
                                        refine WL.val (.inl rfl) rfl (yl_assign rfl) ?_
                                        refine WL.nil ?_
                                        refine WE.then_normal ?_
                                        refine WC.cond rfl (fun hc20 => ?_) (fun hc20 => ?_)
                                        ·
                                          refine WC.seq ?_
                                          refine WC.region ?_
                                          refine WL.val (.inl rfl) rfl (yl_move rfl) ?_
                                          refine WL.front 6 rfl ?_
                                          refine WL.front 6 rfl ?_
                                          refine WL.front 6 rfl ?_
                                          refine WL.front 6 rfl ?_
                                          refine WL.front 6 rfl ?_
                                          refine WL.front 6 rfl ?_
                                          refine WL.callwx (ι := Int × List Int) (κ := Int × MSt) [_, _, _, _, _, _] _ (.inl rfl) rfl en86 rfl rfl (fun r => .int .i64 r.1) (fun r => (MSt.own bm (MSt.wst (MSt.at1 s) r.2))) (fun r => topM (MSt.at1 s).pu = .ok r.1 (MSt.wst (MSt.at1 s) r.2).pu ∧ (MSt.wst (MSt.at1 s) r.2).good HI) (fun r => ovr r.1) (fun r => (MSt.own bm r.2)) (fun r => topM (MSt.at1 s).pu = .ov r.1 r.2.pu) ([HI]) (by simp) (fun w hw => top_any bm (MSt.at1 s) HI w hg1 hw) ?_ ?_
                                          ·
                                            intro r201 hr201
                                            refine WE.then_panic ?_
                                            refine WE.block_panic ?_
                                            refine WE.panics fun w' hw => ?_
                                            have hw := hw.fronti 5 rfl
                                            have hw := hw.fronti 5 rfl
                                            have hw := hw.fronti 5 rfl
                                            have hw := hw.fronti 5 rfl
                                            have hw := hw.fronti 5 rfl
                                            have hw := hw.fronti 5 rfl
                                            have hw := Ws.keep (L := [_, _, _, _, _, _]) hw
                                            refine .inr ⟨r201, rfl, ?_, hw⟩
                                            unfold stepM stepB
                                            rw [show s.pu.at1 = (MSt.at1 s).pu from rfl]
                                            simp only [hc0, hc1, hc2, hc3, hc4, hc5, hc6, hc7, hc8, hc9, hc10, hc11, hc12, hc14, hc15, hc16, hc17, hc18, hc19, hc20, Bool.false_eq_true, if_false, if_true]
                                            rw [hr201]
                                            rfl
                                          intro r201 ⟨hr201, hg201⟩
                                          refine WL.val (.inl rfl) rfl (yl_assign rfl) ?_
                                          refine WL.nil ?_
                                          refine WE.then_normal ?_
                                          refine WC.seq ?_
                                          refine WC.region ?_
                                          refine WL.val (.inl rfl) rfl (yl_move rfl) ?_
                                          refine WL.val (.inl rfl) rfl (yl_nil rfl) ?_
                                          refine WL.val (.inl rfl) rfl (yl_fa fo108_6 rfl) ?_
                                          refine WL.val (.inl rfl) rfl (yl_fa fo53_1 rfl) ?_
                                          refine WL.val (.inl rfl) rfl (yl_ldk 0 rfl rfl rfl na50) ?_
                                          refine WL.val (.inl rfl) rfl (yl_len es50 rfl) ?_
                                          refine WL.val (.inl rfl) rfl (yl_eq rfl rfl) ?_
                                          refine WL.callwx (ι := Unit) (κ := Unit) [] _ (.inl rfl) rfl en64 rfl rfl (fun _ => .tuple #[]) (fun _ => []) (fun _ => (((s.out.length : Nat) : Int) == 200) = false) (fun _ => ovr 5) (fun _ => []) (fun _ => (((s.out.length : Nat) : Int) == 200) = true) ([]) (by simp) (fun w hw => (stop_any _ 5 w).mono fun e w' h => by
                                              rcases h with ⟨_, h1, h2, h3⟩ | ⟨_, h1, h2, h3⟩
                                              · exact .inl ⟨(), h1, h2, hw.ext h3⟩
                                              · exact .inr ⟨(), h1, h2, hw.ext h3⟩) ?_ ?_
                                          ·
                                            intro _ hn209
                                            refine WE.then_panic ?_
                                            refine WE.block_panic ?_
                                            refine WE.panics fun w' hw => ?_
                                            have hw := hw.fronti 5 rfl
                                            have hw := hw.fronti 5 rfl
                                            have hw := hw.fronti 5 rfl
                                            have hw := hw.fronti 5 rfl
                                            have hw := hw.fronti 5 rfl
                                            have hw := hw.fronti 5 rfl
                                            have hw := Ws.keep (L := [_, _, _, _, _, _]) hw
                                            refine .inr ⟨(5, (MSt.wst (MSt.at1 s) r201.2)), rfl, ?_, hw⟩
                                            unfold stepM stepB
                                            rw [show s.pu.at1 = (MSt.at1 s).pu from rfl]
                                            simp only [hc0, hc1, hc2, hc3, hc4, hc5, hc6, hc7, hc8, hc9, hc10, hc11, hc12, hc14, hc15, hc16, hc17, hc18, hc19, hc20, Bool.false_eq_true, if_false, if_true]
                                            rw [hr201]
                                            show (if s.out.length = 200 then _ else _) = _
                                            rw [if_pos (by simp at hn209; omega)]
                                          intro _ hn209
                                          refine WL.nil ?_
                                          refine WE.then_normal ?_
                                          have hno : ¬ s.out.length = 200 := by simp at hn209; omega
                                          refine WC.region ?_
                                          refine WL.val (.inl rfl) rfl (yl_move rfl) ?_
                                          refine WL.val (.inl rfl) rfl (yl_move rfl) ?_
                                          refine WL.val (.inl rfl) rfl (yl_nil rfl) ?_
                                          refine WL.val (.inl rfl) rfl (yl_fa fo108_6 rfl) ?_
                                          refine WL.val (.inl rfl) rfl (yl_fa fo53_1 rfl) ?_
                                          refine WL.val (.inl rfl) rfl (yl_ldk 0 rfl rfl rfl na50) ?_
                                          refine WL.val (.inl rfl) rfl (yl_move rfl) ?_
                                          refine WL.bsliceF (.inl rfl) rfl el50 rfl rfl rfl rfl fun b217 => ?_
                                          refine WL.appT (xs := s.out) r201.1 4 0 (.inl rfl) rfl el50 rfl rfl rfl rfl rfl rfl (by omega) (by omega) fun a218 c218 => ?_
                                          refine WL.val (.inl rfl) rfl (yl_nil rfl) ?_
                                          refine WL.val (.inl rfl) rfl (yl_fa fo108_6 rfl) ?_
                                          refine WL.val (.inl rfl) rfl (yl_fa fo53_1 rfl) ?_
                                          refine WL.store 1 (.inl rfl) rfl rfl rfl sz50 rfl rfl rfl ?_
                                          refine WL.nil ?_
                                          refine WE.block_normal ?_
                                          refine WE.end0 rfl fun w' hw => ?_
                                          have hw := hw.fronti 6 rfl
                                          have hw := hw.fronti 6 rfl
                                          have hw := hw.fronti 6 rfl
                                          have hw := hw.fronti 6 rfl
                                          have hw := hw.fronti 6 rfl
                                          have hw := hw.fronti 6 rfl
                                          have hw := Ws.keep (L := [_, _, _, _, _, _]) hw
                                          refine .inl ⟨((), { (MSt.wst (MSt.at1 s) r201.2) with out := s.out ++ [r201.1], oa := a218, oc := c218 }), rfl, ⟨?_, ⟨hg1.inp, hg201.stk, hg1.frs, by show (s.out ++ [r201.1]).length ≤ 200; simp; omega, hg1.dat⟩⟩, hw⟩
                                          unfold stepM stepB
                                          rw [show s.pu.at1 = (MSt.at1 s).pu from rfl]
                                          simp only [hc0, hc1, hc2, hc3, hc4, hc5, hc6, hc7, hc8, hc9, hc10, hc11, hc12, hc14, hc15, hc16, hc17, hc18, hc19, hc20, Bool.false_eq_true, if_false, if_true]
                                          rw [hr201]
                                          show (if s.out.length = 200 then _ else _) = _
                                          rw [if_neg hno]
                                          rfl
                                        ·
                                          refine WC.seq ?_
                                          refine WC.region ?_
                                          refine WL.val (.inl rfl) rfl (yl_eq rfl rfl) ?_
                                          refine WL.val (.inl rfl) rfl (yl_assign rfl) ?_
                                          refine WL.nil ?_
                                          refine WE.then_normal ?_
                                          refine WC.cond rfl (fun hc21 => ?_) (fun hc21 => ?_)
                                          ·
                                            refine WC.region ?_
                                            refine WL.callwx (ι := Unit) (κ := Unit) [] _ (.inl rfl) rfl en64 rfl rfl (fun _ => .tuple #[]) (fun _ => []) (fun _ => (true) = false) (fun _ => ovr 0) (fun _ => []) (fun _ => (true) = true) ([]) (by simp) (fun w hw => (stop_any _ 0 w).mono fun e w' h => by
                                                rcases h with ⟨_, h1, h2, h3⟩ | ⟨_, h1, h2, h3⟩
                                                · exact .inl ⟨(), h1, h2, hw.ext h3⟩
                                                · exact .inr ⟨(), h1, h2, hw.ext h3⟩) ?_ ?_
                                            ·
                                              intro _ hn224
                                              refine WE.block_panic ?_
                                              refine WE.panics fun w' hw => ?_
                                              have hw := hw.fronti 6 rfl
                                              have hw := hw.fronti 6 rfl
                                              have hw := hw.fronti 6 rfl
                                              have hw := hw.fronti 6 rfl
                                              have hw := hw.fronti 6 rfl
                                              have hw := hw.fronti 6 rfl
                                              have hw := Ws.keep (L := [_, _, _, _, _, _]) hw
                                              refine .inr ⟨(0, (MSt.at1 s)), rfl, ?_, hw⟩
                                              unfold stepM stepB
                                              rw [show s.pu.at1 = (MSt.at1 s).pu from rfl]
                                              simp only [hc0, hc1, hc2, hc3, hc4, hc5, hc6, hc7, hc8, hc9, hc10, hc11, hc12, hc14, hc15, hc16, hc17, hc18, hc19, hc20, hc21, Bool.false_eq_true, if_false, if_true]
                                              all_goals rfl
                                            intro _ hn224
                                            refine WL.nil ?_
                                            refine WE.block_normal ?_
                                            refine WE.end0 rfl fun w' hw => ?_
                                            cases hn224
                                          ·
                                            refine WC.skip ?_
                                            refine WE.block_normal ?_
                                            refine WE.end0 rfl fun w' hw => ?_
                                            have hw := hw.fronti 6 rfl
                                            have hw := hw.fronti 6 rfl
                                            have hw := hw.fronti 6 rfl
                                            have hw := hw.fronti 6 rfl
                                            have hw := hw.fronti 6 rfl
                                            have hw := hw.fronti 6 rfl
                                            have hw := Ws.keep (L := [_, _, _, _, _, _]) hw
                                            refine .inl ⟨((), (MSt.at1 s)), rfl, ⟨?_, hg1⟩, hw⟩
                                            unfold stepM stepB
                                            rw [show s.pu.at1 = (MSt.at1 s).pu from rfl]
                                            simp only [hc0, hc1, hc2, hc3, hc4, hc5, hc6, hc7, hc8, hc9, hc10, hc11, hc12, hc14, hc15, hc16, hc17, hc18, hc19, hc20, hc21, Bool.false_eq_true, if_false, if_true]
                                            all_goals rfl

end Go.Proofs.Ytagoencpeflmlaa
