/- Walks of the lexer, of the document's answer and of the laws, and plain laws on what they compute; each theorem tells its own conditions. -/
import Derived.Lib.AtoiErrMem
import Derived.Test.YtcjloelhjnnhmaaDoorBwL3
namespace Go.Proofs.YtcjloelhjnnhmaaDoor
open Go.Bw
set_option linter.unusedVariables false
set_option linter.unusedSimpArgs false

abbrev Laid (H : View) : Prop := LaidV Tryd.prog 0 2 3 H
def powNm : String := (Rows.lexChecksRow.laid.map (·.1)).getD 2 ""
theorem powName : Tryd.prog.globalNamed powNm = some 0 := by kernel_rfl
theorem itoa_any (G : View) (n : Int) (h0 : -9223372036854775808 ≤ n) (h1 : n ≤ 9223372036854775807) (w : World) (hG : Le G w) (hz : Laid G) :
    Calls Tryd.prog 15 #[.int .i64 n] w fun e w' => e = .returned (st (Lib.itoa n)) ∧ Ext w w' :=
  (Any.strconv_Itoa Go.Proofs.Tryd.laysM171 n h0 h1 w (hz.tab hG powName)).mono fun e w' h => by
    obtain ⟨h1, k, os, rfl⟩ := h
    exact ⟨h1, ext_grow w k os⟩
theorem atoi_any (G : View) (s : List UInt8) (hs : s.length ≤ 4096) (w : World) (hG : Le G w) (hz : Laid G) :
    Calls Tryd.prog 34 #[st s] w fun e w' => ∃ r : Value, e = .returned (.tuple #[.int .i64 (atoiV s), r]) ∧ Ext w w' ∧ ErrIs r (atoiK s) := by
  have hsz : (ByteArray.mk s.toArray).size = s.length := size_st s
  cases h : Lib.atoiAll s with
  | ok v =>
    refine (Any.strconv_Atoi_ok Go.Proofs.Tryd.laysC172 ⟨s.toArray⟩ (by rw [hsz]; omega) v h w).mono fun e w' hh => ?_
    obtain ⟨h1, h2⟩ := hh
    refine ⟨.nilIface, by simp only [atoiV, h]; exact h1, ?_, by simp [ErrIs, atoiK, h]⟩
    rcases h2 with rfl | ⟨t, rfl⟩
    · exact Fr.refl _ _
    · exact Ext.of_below (Lib.bytesWorld_below _ _ _)
  | range =>
    obtain ⟨ev, hv, hev⟩ := hz.rng
    refine (Any.strconv_Atoi_range Go.Proofs.Tryd.laysC172 ⟨s.toArray⟩ (by rw [hsz]; omega) h ev w (hG.cell hv) hev).mono fun e w' hh => ?_
    obtain ⟨N, h1, _, _, h2⟩ := hh
    exact ⟨_, by simp only [atoiV, h]; exact h1, Ext.of_below h2, by simp [ErrIs, atoiK, h]⟩
  | _ =>
    obtain ⟨ev, hv, hev⟩ := hz.syn
    refine (Any.strconv_Atoi_syntax Go.Proofs.Tryd.laysC172 ⟨s.toArray⟩ (by rw [hsz]; omega) h ev w (hG.cell hv) hev).mono fun e w' hh => ?_
    obtain ⟨N, h1, _, _, h2⟩ := hh
    exact ⟨_, by simp only [atoiV, h]; exact h1, Ext.of_below h2, by simp [ErrIs, atoiK, h]⟩
def strC (s : List UInt8) : List Value := [st s]
def rdStr (H : View) (b o : Nat) (s : List UInt8) : Prop := RdC H b o (strC s)
theorem join_any (H : View) (a : Option Addr) (c : Nat) (xs : List (List UInt8)) (sep : List UInt8) (w : World) (hH : Le H w) (hm : Sl rdStr 1 H a c xs) (hN : xs.length ≤ 4096) (hl : (Lib.join xs sep).length ≤ 65536) :
    Calls Tryd.prog 16 #[.slice a xs.length c, st sep] w fun e w' => e = .returned (st (Lib.join xs sep)) ∧ Ext w w' := by
  cases xs with
  | nil =>
    refine (Any.strings_Join_none Go.Proofs.Tryd.lays156 Go.Proofs.Tryd.Builder_Extra_156 a c ⟨sep.toArray⟩ w).mono fun e w' hh => ?_
    obtain ⟨h1, rfl⟩ := hh
    exact ⟨h1, Fr.refl _ _⟩
  | cons x r =>
    obtain ⟨b, o, ha, h0⟩ := hm.elt 0 x rfl
    subst ha
    have hcell : ∀ (j : Nat) (y : List UInt8), (x :: r)[j]? = some y → w.cell? ⟨b, o + j, none⟩ = some (st y) := fun j y hj => by
      obtain ⟨b', o', e1, h1⟩ := hm.elt j y hj
      injection e1 with e1
      injection e1 with e2 e3
      subst e2 e3
      have := h1 0 _ rfl
      rw [Nat.mul_one, Nat.add_zero] at this
      exact hH.cell this
    have hlen : ((x :: r).map fun s : List UInt8 => (ByteArray.mk s.toArray)).length = (x :: r).length := by simp
    have hmap : ((x :: r).map fun s : List UInt8 => (ByteArray.mk s.toArray)).map (·.data.toList) = x :: r := by simp [Function.comp_def]
    have := Any.strings_Join Go.Proofs.Tryd.lays156 Go.Proofs.Tryd.Builder_Extra_156 b o c ((x :: r).map fun s : List UInt8 => (ByteArray.mk s.toArray)) ⟨sep.toArray⟩ w (fun j y hj => by
        rw [List.getElem?_map] at hj
        obtain ⟨z, hz, rfl⟩ := Option.map_eq_some_iff.1 hj
        exact hcell j z hz)
      (Lib.lt_of_cell (hcell 0 x rfl)) (by rw [hlen]; omega) (by rw [hlen]; exact hm.cap) (by rw [hmap]; show (Lib.join (x :: r) sep).length ≤ _; omega)
    rw [hlen, hmap] at this
    refine this.mono fun e w' hh => ?_
    obtain ⟨h1, h2⟩ := hh
    exact ⟨h1, Ext.of_below h2⟩
theorem sz38 : sizeP Tryd.prog 38 = some 3 := by kernel_rfl
theorem en20 : Enters Tryd.prog 20 := enters_of Tryd.func20 (by kernel_rfl) rfl
theorem en21 : Enters Tryd.prog 21 := enters_of Tryd.func21 (by kernel_rfl) rfl
theorem uif56 : Tryd.prog.underlying 56 = some (.interface (Tryd.prog.methodsAt 56)) := by kernel_rfl
theorem en34 : Enters Tryd.prog 34 := enters_of Tryd.func34 (by kernel_rfl) rfl
theorem en15 : Enters Tryd.prog 15 := enters_of Tryd.func15 (by kernel_rfl) rfl
theorem en23 : Enters Tryd.prog 23 := enters_of Tryd.func23 (by kernel_rfl) rfl
theorem en11 : Enters Tryd.prog 11 := enters_of Tryd.func11 (by kernel_rfl) rfl
theorem el36 : EltOk Tryd.prog 36 9 (st []) 1 16 := eltOk_of (by kernel_rfl)
theorem en16 : Enters Tryd.prog 16 := enters_of Tryd.func16 (by kernel_rfl) rfl

theorem lexCheck_any (H : View) (a : Option Addr) (c : Nat) (l : List Tok) (w : World) (hH : Le H w) (hm : Sl rdTok 3 H a c l) :
    Calls Tryd.prog 11 #[.slice a l.length c] w fun e w' => e = .returned (.int .i64 (checkT l)) ∧ Ext w w' := by
  have hcap := hm.cap
  have hmax := hm.max
  refine enter Tryd.func11 rfl 77 rfl rfl ?_
  refine WC.world (W' := Ws w [] [] [H]) (fun _ e => by subst e; exact Ws.init (by simp [hH])) ?_
  refine WC.seq ?_
  refine WC.region ?_
  refine WL.val (.inl rfl) rfl (yl_assign rfl) ?_
  refine WL.nil ?_
  refine WE.then_normal ?_
  refine WC.seq ?_
  refine WC.seq ?_
  refine WC.region ?_
  refine WL.val (.inl rfl) rfl (yl_move rfl) ?_
  refine WL.val (.inl rfl) rfl (yl_len es22 rfl) ?_
  refine WL.val (.inl rfl) rfl (yl_move rfl) ?_
  refine WL.nil ?_
  refine WE.then_normal ?_
  refine WC.block ?_
  refine WC.loopW (ι := Nat) (fun i => [(10, .int .i64 (i : Int))]) [(0, _), (8, _), (9, _)] (fun i => i ≤ l.length ∧ ∀ j x, j < i → l[j]? = some x → kindBad x = false) (fun i => l.length - i) 0 ⟨Nat.zero_le _, by simp⟩ (sc rfl (sc rfl (sc rfl (sc rfl sn)))) ?_
  intro i ⟨hi, hall⟩
  refine WC.seq ?_
  refine WC.region ?_
  refine WL.val (.inl rfl) rfl (yl_lt rfl rfl) ?_
  refine WL.nil ?_
  refine WE.then_normal ?_
  refine WC.seq ?_
  refine WC.cond rfl (fun hc0 => ?_) (fun hc0 => ?_)
  ·
    have hlt : i < l.length := by simpa using hc0
    obtain ⟨x, hxi⟩ : ∃ x, l[i]? = some x := ⟨_, List.getElem?_eq_getElem hlt⟩
    obtain ⟨pbx, pox, ha, hrow⟩ := hm.elt i x hxi
    have hrow : RdC H pbx (pox + i * 3) x.cells := hrow
    refine WC.skip ?_
    refine WE.then_normal ?_
    refine WC.seq ?_
    refine WC.block ?_
    refine WC.seq ?_
    refine WC.region ?_
    refine WL.val (.inl rfl) rfl (yl_iao es22 rfl rfl (by assumption) (by omega)) ?_
    refine WL.val (.inl rfl) rfl (yl_lda 0 ag38 rfl rfl rfl (hrow)) ?_
    refine WL.alloc (.inl rfl) rfl zr38 fun b4 => ?_
    refine WL.store 0 (.inl rfl) rfl rfl rfl sz38 rfl rfl rfl ?_
    refine WL.nil ?_
    refine WE.then_normal ?_
    refine WC.seq ?_
    refine WC.region ?_
    refine WL.val (.inl rfl) rfl (yl_fa fo38_0 rfl) ?_
    refine WL.val (.inl rfl) rfl (yl_ldk 0 rfl rfl rfl na3) ?_
    refine WL.val (.inl rfl) rfl (yl_lt rfl rfl) ?_
    refine WL.val (.inl rfl) rfl (yl_move rfl) ?_
    apply WL.or 3 rfl rfl rfl rfl (.inl rfl) rfl rfl rfl rfl rfl
    ·
      intro hg0
      refine WL.val (.inr ⟨_, _, _, rfl, rfl, rfl⟩) rfl (yl_fa fo38_0 rfl) ?_
      refine WL.val (.inr ⟨_, _, _, rfl, rfl, rfl⟩) rfl (yl_ldk 0 rfl rfl rfl na3) ?_
      refine WL.val (.inr ⟨_, _, _, rfl, rfl, rfl⟩) rfl (yl_gt rfl rfl) ?_
      exact Got.intro 3 rfl rfl rfl
    refine WL.nil ?_
    refine WE.then_normal ?_
    refine WC.cond rfl (fun hc1 => ?_) (fun hc1 => ?_)
    ·
      have hbad : kindBad x = true := by rw [kind_or] at hc1; exact hc1
      refine WC.seq ?_
      refine WC.region ?_
      refine WL.val (.inl rfl) rfl (yl_assign rfl) ?_
      refine WL.nil ?_
      refine WE.then_normal ?_
      refine WC.ret ?_
      refine WE.block_ret ?_
      refine WE.then_ret ?_
      refine WE.then_ret ?_
      refine WE.block_ret ?_
      refine WE.then_ret ?_
      refine WE.ret1 rfl rfl fun w' hw => ?_
      exact ⟨by rw [checkT, if_pos (any_true hxi hbad)], hw.fr⟩
    ·
      have hbad : kindBad x = false := by rw [kind_or] at hc1; exact hc1
      refine WC.skip ?_
      refine WE.block_normal ?_
      refine WE.then_normal ?_
      refine WC.region ?_
      refine WL.val (.inl rfl) rfl (yl_inc rfl rfl rfl (by omega)) ?_
      refine WL.val (.inl rfl) rfl (yl_move rfl) ?_
      refine WL.nil ?_
      exact WE.again (i + 1) (by omega) ⟨by omega, fun j x hj hx => by rcases Nat.lt_succ_iff_lt_or_eq.1 hj with h | rfl; exact hall j x h hx; rw [hxi] at hx; injection hx with hx; subst hx; exact hbad⟩ (sc rfl (sc rfl (sc rfl (sc rfl sn)))) (fun _ h => Ws.drop (L := [_]) h)
  ·
    have hge : ¬ i < l.length := by simpa using hc0
    have hanykindBad : l.any kindBad = false := any_false fun j x hj => hall j x (by have := (List.getElem?_eq_some_iff.1 hj).1; omega) hj
    refine WC.exit ?_
    refine WE.then_exit ?_
    refine WE.then_exit ?_
    refine WE.block_hit ?_
    refine WE.then_normal ?_
    refine WC.seq ?_
    refine WC.seq ?_
    refine WC.region ?_
    refine WL.val (.inl rfl) rfl (yl_move rfl) ?_
    refine WL.val (.inl rfl) rfl (yl_len es22 rfl) ?_
    refine WL.val (.inl rfl) rfl (yl_move rfl) ?_
    refine WL.nil ?_
    refine WE.then_normal ?_
    refine WC.block ?_
    refine WC.loopW (ι := Nat) (fun i => [(25, .int .i64 (i : Int))]) [(0, _), (23, _), (24, _)] (fun i => i ≤ l.length ∧ ∀ j x, j < i → l[j]? = some x → tokBad x = false) (fun i => l.length - i) 0 ⟨Nat.zero_le _, by simp⟩ (sc rfl (sc rfl (sc rfl (sc rfl sn)))) ?_
    intro i ⟨hi, hall⟩
    refine WC.seq ?_
    refine WC.region ?_
    refine WL.val (.inl rfl) rfl (yl_lt rfl rfl) ?_
    refine WL.nil ?_
    refine WE.then_normal ?_
    refine WC.seq ?_
    refine WC.cond rfl (fun hc2 => ?_) (fun hc2 => ?_)
    ·
      have hlt : i < l.length := by simpa using hc2
      obtain ⟨x, hxi⟩ : ∃ x, l[i]? = some x := ⟨_, List.getElem?_eq_getElem hlt⟩
      obtain ⟨pbx, pox, ha, hrow⟩ := hm.elt i x hxi
      have hrow : RdC H pbx (pox + i * 3) x.cells := hrow
      refine WC.skip ?_
      refine WE.then_normal ?_
      refine WC.seq ?_
      refine WC.block ?_
      refine WC.seq ?_
      refine WC.region ?_
      refine WL.val (.inl rfl) rfl (yl_iao es22 rfl rfl (by assumption) (by omega)) ?_
      refine WL.val (.inl rfl) rfl (yl_lda 0 ag38 rfl rfl rfl (hrow)) ?_
      refine WL.alloc (.inl rfl) rfl zr38 fun b6 => ?_
      refine WL.store 0 (.inl rfl) rfl rfl rfl sz38 rfl rfl rfl ?_
      refine WL.nil ?_
      refine WE.then_normal ?_
      refine WC.seq ?_
      refine WC.region ?_
      refine WL.val (.inl rfl) rfl (yl_fa fo38_1 rfl) ?_
      refine WL.val (.inl rfl) rfl (yl_ldk 0 rfl rfl rfl na3) ?_
      refine WL.val (.inl rfl) rfl (yl_eq rfl rfl) ?_
      refine WL.val (.inl rfl) rfl (yl_move rfl) ?_
      apply WL.and 4 rfl rfl rfl rfl (.inl rfl) rfl rfl rfl rfl rfl
      ·
        intro hg1
        refine WL.val (.inr ⟨_, _, _, rfl, rfl, rfl⟩) rfl (yl_fa fo38_2 rfl) ?_
        refine WL.val (.inr ⟨_, _, _, rfl, rfl, rfl⟩) rfl (yl_ldk 0 rfl rfl rfl na9) ?_
        refine WL.val (.inr ⟨_, _, _, rfl, rfl, rfl⟩) rfl (yl_lens us9 rfl) ?_
        refine WL.val (.inr ⟨_, _, _, rfl, rfl, rfl⟩) rfl (yl_eq rfl rfl) ?_
        exact Got.intro 4 rfl rfl rfl
      refine WL.val (.inl rfl) rfl (yl_move rfl) ?_
      apply WL.and 4 rfl rfl rfl rfl (.inl rfl) rfl rfl rfl rfl rfl
      ·
        intro hg2
        have h0 : 0 < x.text.length := by
          rcases Nat.eq_zero_or_pos x.text.length with h | h
          · simp [h] at hg2
          · exact h
        have hu0 := at0 h0
        refine WL.val (.inr ⟨_, _, _, rfl, rfl, rfl⟩) rfl (yl_fa fo38_2 rfl) ?_
        refine WL.val (.inr ⟨_, _, _, rfl, rfl, rfl⟩) rfl (yl_ldk 0 rfl rfl rfl na9) ?_
        refine WL.val (.inr ⟨_, _, _, rfl, rfl, rfl⟩) rfl (yl_idxk us9 rfl rfl hu0) ?_
        refine WL.callp (.inr ⟨_, _, _, rfl, rfl, rfl⟩) rfl en20 rfl (fun w hw => lexSign_any _ w) ?_
        exact Got.intro 4 rfl rfl rfl
      refine WL.val (.inl rfl) rfl (yl_assign rfl) ?_
      refine WL.nil ?_
      refine WE.then_normal ?_
      refine WC.seq ?_
      refine WC.seq ?_
      refine WC.region ?_
      refine WL.val (.inl rfl) rfl (yl_fa fo38_0 rfl) ?_
      refine WL.val (.inl rfl) rfl (yl_ldk 0 rfl rfl rfl na3) ?_
      refine WL.nil ?_
      refine WE.then_normal ?_
      refine WC.block ?_
      refine WC.seq ?_
      refine WC.region ?_
      refine WL.val (.inl rfl) rfl (yl_eq rfl rfl) ?_
      refine WL.val (.inl rfl) rfl (yl_assign rfl) ?_
      refine WL.nil ?_
      refine WE.then_normal ?_
      refine WC.cond rfl (fun hc3 => ?_) (fun hc3 => ?_)
      ·
        have hk : x.kind = 1 := by simpa using hc3
        refine WC.region ?_
        refine WL.val (.inl rfl) rfl (yl_fa fo38_1 rfl) ?_
        refine WL.val (.inl rfl) rfl (yl_ldk 0 rfl rfl rfl na3) ?_
        refine WL.val (.inl rfl) rfl (yl_eq rfl rfl) ?_
        refine WL.val (.inl rfl) rfl (yl_move rfl) ?_
        apply WL.and 3 rfl rfl rfl rfl (.inl rfl) rfl rfl rfl rfl rfl
        ·
          intro hg3
          refine WL.val (.inr ⟨_, _, _, rfl, rfl, rfl⟩) rfl (yl_fa fo38_2 rfl) ?_
          refine WL.val (.inr ⟨_, _, _, rfl, rfl, rfl⟩) rfl (yl_ldk 0 rfl rfl rfl na9) ?_
          refine WL.callp (.inr ⟨_, _, _, rfl, rfl, rfl⟩) rfl en21 rfl (fun w hw => lexName_any _ w) ?_
          exact Got.intro 3 rfl rfl rfl
        refine WL.val (.inl rfl) rfl (yl_assign rfl) ?_
        refine WL.nil ?_
        refine WE.block_normal ?_
        refine WE.then_normal ?_
        refine WC.seq ?_
        refine WC.region ?_
        refine WL.val (.inl rfl) rfl (yl_move rfl) ?_
        refine WL.val (.inl rfl) rfl (yl_not rfl) ?_
        refine WL.nil ?_
        refine WE.then_normal ?_
        refine WC.cond rfl (fun hc5 => ?_) (fun hc5 => ?_)
        ·
          have hbad : tokBad x = true := (tokBad1 hk).trans hc5
          refine WC.seq ?_
          refine WC.region ?_
          refine WL.val (.inl rfl) rfl (yl_assign rfl) ?_
          refine WL.nil ?_
          refine WE.then_normal ?_
          refine WC.ret ?_
          refine WE.block_ret ?_
          refine WE.then_ret ?_
          refine WE.then_ret ?_
          refine WE.block_ret ?_
          refine WE.then_ret ?_
          refine WE.ret1 rfl rfl fun w' hw => ?_
          exact ⟨by rw [checkT, if_neg (by simp [hanykindBad]), if_pos (any_true hxi hbad)], hw.fr⟩
        ·
          have hbad : tokBad x = false := (tokBad1 hk).trans hc5
          refine WC.skip ?_
          refine WE.block_normal ?_
          refine WE.then_normal ?_
          refine WC.region ?_
          refine WL.val (.inl rfl) rfl (yl_inc rfl rfl rfl (by omega)) ?_
          refine WL.val (.inl rfl) rfl (yl_move rfl) ?_
          refine WL.nil ?_
          exact WE.again (i + 1) (by omega) ⟨by omega, fun j x hj hx => by rcases Nat.lt_succ_iff_lt_or_eq.1 hj with h | rfl; exact hall j x h hx; rw [hxi] at hx; injection hx with hx; subst hx; exact hbad⟩ (sc rfl (sc rfl (sc rfl (sc rfl sn)))) (fun _ h => Ws.drop (L := [_]) h)
      ·
        have hk : ¬ x.kind = 1 := by simpa using hc3
        refine WC.seq ?_
        refine WC.region ?_
        refine WL.val (.inl rfl) rfl (yl_eq rfl rfl) ?_
        refine WL.val (.inl rfl) rfl (yl_assign rfl) ?_
        refine WL.nil ?_
        refine WE.then_normal ?_
        refine WC.cond rfl (fun hc4 => ?_) (fun hc4 => ?_)
        ·
          have hk2 : x.kind = 2 := by simpa using hc4
          refine WC.region ?_
          refine WL.val (.inl rfl) rfl (yl_fa fo38_2 rfl) ?_
          refine WL.val (.inl rfl) rfl (yl_ldk 0 rfl rfl rfl na9) ?_
          refine WL.val (.inl rfl) rfl (yl_eqs rfl rfl) ?_
          refine WL.val (.inl rfl) rfl (yl_move rfl) ?_
          apply WL.and 3 rfl rfl rfl rfl (.inl rfl) rfl rfl rfl rfl rfl
          ·
            intro hg4
            refine WL.val (.inr ⟨_, _, _, rfl, rfl, rfl⟩) rfl (yl_fa fo38_1 rfl) ?_
            refine WL.val (.inr ⟨_, _, _, rfl, rfl, rfl⟩) rfl (yl_ldk 0 rfl rfl rfl na3) ?_
            refine WL.val (.inr ⟨_, _, _, rfl, rfl, rfl⟩) rfl (yl_ge rfl rfl) ?_
            exact Got.intro 3 rfl rfl rfl
          refine WL.val (.inl rfl) rfl (yl_move rfl) ?_
          apply WL.and 3 rfl rfl rfl rfl (.inl rfl) rfl rfl rfl rfl rfl
          ·
            intro hg5
            refine WL.val (.inr ⟨_, _, _, rfl, rfl, rfl⟩) rfl (yl_fa fo38_1 rfl) ?_
            refine WL.val (.inr ⟨_, _, _, rfl, rfl, rfl⟩) rfl (yl_ldk 0 rfl rfl rfl na3) ?_
            refine WL.val (.inr ⟨_, _, _, rfl, rfl, rfl⟩) rfl (yl_le rfl rfl) ?_
            exact Got.intro 3 rfl rfl rfl
          refine WL.val (.inl rfl) rfl (yl_assign rfl) ?_
          refine WL.nil ?_
          refine WE.block_normal ?_
          refine WE.then_normal ?_
          refine WC.seq ?_
          refine WC.region ?_
          refine WL.val (.inl rfl) rfl (yl_move rfl) ?_
          refine WL.val (.inl rfl) rfl (yl_not rfl) ?_
          refine WL.nil ?_
          refine WE.then_normal ?_
          refine WC.cond rfl (fun hc5 => ?_) (fun hc5 => ?_)
          ·
            have hbad : tokBad x = true := (tokBad2 hk hk2).trans hc5
            refine WC.seq ?_
            refine WC.region ?_
            refine WL.val (.inl rfl) rfl (yl_assign rfl) ?_
            refine WL.nil ?_
            refine WE.then_normal ?_
            refine WC.ret ?_
            refine WE.block_ret ?_
            refine WE.then_ret ?_
            refine WE.then_ret ?_
            refine WE.block_ret ?_
            refine WE.then_ret ?_
            refine WE.ret1 rfl rfl fun w' hw => ?_
            exact ⟨by rw [checkT, if_neg (by simp [hanykindBad]), if_pos (any_true hxi hbad)], hw.fr⟩
          ·
            have hbad : tokBad x = false := (tokBad2 hk hk2).trans hc5
            refine WC.skip ?_
            refine WE.block_normal ?_
            refine WE.then_normal ?_
            refine WC.region ?_
            refine WL.val (.inl rfl) rfl (yl_inc rfl rfl rfl (by omega)) ?_
            refine WL.val (.inl rfl) rfl (yl_move rfl) ?_
            refine WL.nil ?_
            exact WE.again (i + 1) (by omega) ⟨by omega, fun j x hj hx => by rcases Nat.lt_succ_iff_lt_or_eq.1 hj with h | rfl; exact hall j x h hx; rw [hxi] at hx; injection hx with hx; subst hx; exact hbad⟩ (sc rfl (sc rfl (sc rfl (sc rfl sn)))) (fun _ h => Ws.drop (L := [_]) h)
        ·
          have hk2 : ¬ x.kind = 2 := by simpa using hc4
          refine WC.skip ?_
          refine WE.block_normal ?_
          refine WE.then_normal ?_
          refine WC.seq ?_
          refine WC.region ?_
          refine WL.val (.inl rfl) rfl (yl_move rfl) ?_
          refine WL.val (.inl rfl) rfl (yl_not rfl) ?_
          refine WL.nil ?_
          refine WE.then_normal ?_
          refine WC.cond rfl (fun hc5 => ?_) (fun hc5 => ?_)
          ·
            have hbad : tokBad x = true := (tokBad3 hk hk2).trans hc5
            refine WC.seq ?_
            refine WC.region ?_
            refine WL.val (.inl rfl) rfl (yl_assign rfl) ?_
            refine WL.nil ?_
            refine WE.then_normal ?_
            refine WC.ret ?_
            refine WE.block_ret ?_
            refine WE.then_ret ?_
            refine WE.then_ret ?_
            refine WE.block_ret ?_
            refine WE.then_ret ?_
            refine WE.ret1 rfl rfl fun w' hw => ?_
            exact ⟨by rw [checkT, if_neg (by simp [hanykindBad]), if_pos (any_true hxi hbad)], hw.fr⟩
          ·
            have hbad : tokBad x = false := (tokBad3 hk hk2).trans hc5
            refine WC.skip ?_
            refine WE.block_normal ?_
            refine WE.then_normal ?_
            refine WC.region ?_
            refine WL.val (.inl rfl) rfl (yl_inc rfl rfl rfl (by omega)) ?_
            refine WL.val (.inl rfl) rfl (yl_move rfl) ?_
            refine WL.nil ?_
            exact WE.again (i + 1) (by omega) ⟨by omega, fun j x hj hx => by rcases Nat.lt_succ_iff_lt_or_eq.1 hj with h | rfl; exact hall j x h hx; rw [hxi] at hx; injection hx with hx; subst hx; exact hbad⟩ (sc rfl (sc rfl (sc rfl (sc rfl sn)))) (fun _ h => Ws.drop (L := [_]) h)
    ·
      have hge : ¬ i < l.length := by simpa using hc2
      have hanytokBad : l.any tokBad = false := any_false fun j x hj => hall j x (by have := (List.getElem?_eq_some_iff.1 hj).1; omega) hj
      refine WC.exit ?_
      refine WE.then_exit ?_
      refine WE.then_exit ?_
      refine WE.block_hit ?_
      refine WE.then_normal ?_
      refine WC.seq ?_
      refine WC.seq ?_
      refine WC.region ?_
      refine WL.val (.inl rfl) rfl (yl_move rfl) ?_
      refine WL.val (.inl rfl) rfl (yl_len es22 rfl) ?_
      refine WL.val (.inl rfl) rfl (yl_gt rfl rfl) ?_
      refine WL.nil ?_
      refine WE.then_normal ?_
      refine WC.cond rfl (fun hc6 => ?_) (fun hc6 => ?_)
      ·
        have hl : 4096 < l.length := by simp at hc6; omega
        refine WC.seq ?_
        refine WC.region ?_
        refine WL.val (.inl rfl) rfl (yl_assign rfl) ?_
        refine WL.nil ?_
        refine WE.then_normal ?_
        refine WC.ret ?_
        refine WE.then_ret ?_
        refine WE.ret1 rfl rfl fun w' hw => ?_
        exact ⟨by rw [checkT, if_neg (by simp [hanykindBad]), if_neg (by simp [hanytokBad]), if_pos hl], hw.fr⟩
      ·
        have hl : ¬ 4096 < l.length := by simp at hc6; omega
        refine WC.skip ?_
        refine WE.then_normal ?_
        refine WC.seq ?_
        refine WC.region ?_
        refine WL.val (.inl rfl) rfl (yl_assign rfl) ?_
        refine WL.nil ?_
        refine WE.then_normal ?_
        refine WC.ret ?_
        refine WE.ret1 rfl rfl fun w' hw => ?_
        exact ⟨by rw [checkT, if_neg (by simp [hanykindBad]), if_neg (by simp [hanytokBad]), if_neg hl], hw.fr⟩

theorem word_any (G : View) (s : List UInt8) (hs : s.length ≤ 4096) (w : World) (hG : Le G w) (hz : Laid G) :
    Calls Tryd.prog 23 #[st s] w fun e w' => e = .returned (.tuple #[.agg #[.int .i64 (wordP s).1.kind, .int .i64 (wordP s).1.n, st (wordP s).1.text], .bool (wordP s).2]) ∧ Ext w w' := by
  refine enter Tryd.func23 rfl 33 rfl rfl ?_
  refine WC.world (W' := Ws w [] [] [G]) (fun _ e => by subst e; exact Ws.init (by simp [hG])) ?_
  refine WC.seq ?_
  refine WC.region ?_
  refine WL.alloc (.inl rfl) rfl zr38 fun b2 => ?_
  refine WL.val (.inl rfl) rfl (yl_assign rfl) ?_
  refine WL.nil ?_
  refine WE.then_normal ?_
  refine WC.seq ?_
  refine WC.seq ?_
  refine WC.region ?_
  refine WL.val (.inl rfl) rfl (yl_move rfl) ?_
  refine WL.callp (.inl rfl) rfl en21 rfl (fun w hw => lexName_any _ w) ?_
  refine WL.nil ?_
  refine WE.then_normal ?_
  refine WC.cond rfl (fun hc0 => ?_) (fun hc0 => ?_)
  ·
    have hW : wordP s = (⟨1, 0, s⟩, true) := by rw [wordP, if_pos hc0]
    refine WC.seq ?_
    refine WC.region ?_
    refine WL.val (.inl rfl) rfl (yl_move rfl) ?_
    refine WL.val (.inl rfl) rfl (yl_build zr38 pl38 rfl rfl) ?_
    refine WL.store 0 (.inl rfl) rfl rfl rfl sz38 rfl rfl rfl ?_
    refine WL.val (.inl rfl) rfl (yl_assign rfl) ?_
    refine WL.nil ?_
    refine WE.then_normal ?_
    refine WC.ret ?_
    refine WE.then_ret ?_
    refine WE.retc2 0 rfl rfl rfl rfl ag38 rfl fun w' hw => ?_
    rw [hW]
    exact ⟨rfl, hw.fr⟩
  ·
    have hW := wordP_no hc0
    have hin := atoiV_in s
    refine WC.skip ?_
    refine WE.then_normal ?_
    refine WC.seq ?_
    refine WC.region ?_
    refine WL.val (.inl rfl) rfl (yl_move rfl) ?_
    refine WL.calld (.inl rfl) rfl en34 rfl (fun r : Value => .tuple #[.int .i64 (atoiV s), r]) (fun _ r => ErrIs r (atoiK s)) (fun w hw => atoi_any G s hs w (hw.vs _ (by simp)) hz) ?_
    intro F12 r12 hf12 h12
    refine WL.val (.inl rfl) rfl (yl_move rfl) ?_
    refine WL.val (.inl rfl) rfl (yl_extract rfl rfl) ?_
    refine WL.val (.inl rfl) rfl (yl_extract rfl rfl) ?_
    refine WL.val (.inl rfl) rfl (yl_assign rfl) ?_
    refine WL.val (.inl rfl) rfl (yl_assign rfl) ?_
    refine WL.nil ?_
    refine WE.then_normal ?_
    refine WC.seq ?_
    refine WC.region ?_
    refine WL.val (.inl rfl) rfl (yl_move rfl) ?_
    refine WL.val (.inl rfl) rfl (yl_build zr38 pl38 rfl rfl) ?_
    refine WL.val (.inl rfl) rfl (yl_move rfl) ?_
    refine WL.val (.inl rfl) rfl (yl_eqnr (atoiK s) uif56 rfl h12) ?_
    refine WL.val (.inl rfl) rfl (yl_move rfl) ?_
    apply WL.and 2 rfl rfl rfl rfl (.inl rfl) rfl rfl rfl rfl rfl
    ·
      intro hg0
      refine WL.val (.inr ⟨_, _, _, rfl, rfl, rfl⟩) rfl (yl_move rfl) ?_
      refine WL.val (.inr ⟨_, _, _, rfl, rfl, rfl⟩) rfl (yl_ge rfl rfl) ?_
      exact Got.intro 2 rfl rfl rfl
    refine WL.val (.inl rfl) rfl (yl_move rfl) ?_
    apply WL.and 2 rfl rfl rfl rfl (.inl rfl) rfl rfl rfl rfl rfl
    ·
      intro hg1
      refine WL.val (.inr ⟨_, _, _, rfl, rfl, rfl⟩) rfl (yl_move rfl) ?_
      refine WL.val (.inr ⟨_, _, _, rfl, rfl, rfl⟩) rfl (yl_le rfl rfl) ?_
      exact Got.intro 2 rfl rfl rfl
    refine WL.val (.inl rfl) rfl (yl_move rfl) ?_
    apply WL.and 4 rfl rfl rfl rfl (.inl rfl) rfl rfl rfl rfl rfl
    ·
      intro hg2
      refine WL.val (.inr ⟨_, _, _, rfl, rfl, rfl⟩) rfl (yl_move rfl) ?_
      refine WL.callp (.inr ⟨_, _, _, rfl, rfl, rfl⟩) rfl en15 rfl (fun w hw => itoa_any G _ hin.1 hin.2 w (hw.vs _ (by simp)) hz) ?_
      refine WL.val (.inr ⟨_, _, _, rfl, rfl, rfl⟩) rfl (yl_move rfl) ?_
      refine WL.val (.inr ⟨_, _, _, rfl, rfl, rfl⟩) rfl (yl_eqs rfl rfl) ?_
      exact Got.intro 4 rfl rfl rfl
    refine WL.store 0 (.inl rfl) rfl rfl rfl sz38 rfl rfl rfl ?_
    refine WL.val (.inl rfl) rfl (yl_assign rfl) ?_
    refine WL.nil ?_
    refine WE.then_normal ?_
    refine WC.ret ?_
    refine WE.retc2 0 rfl rfl rfl rfl ag38 rfl fun w' hw => ?_
    rw [hW]
    exact ⟨rfl, hw.fr⟩

theorem lex_any (G : View) (s : List UInt8) (w : World) (hG : Le G w) (hz : Laid G) :
    Calls Tryd.prog 12 #[st s] w fun e w' => ∃ r : Option Addr × Nat, e = .returned (.tuple #[.slice r.1 (lexR s).1.length r.2, .int .i64 (lexR s).2]) ∧ Ext w w' ∧ Sl rdTok 3 (nv w w') r.1 r.2 (lexR s).1 := by
  refine enter Tryd.func12 rfl 66 rfl rfl ?_
  refine WC.world (W' := Ws w [] [] [G]) (fun _ e => by subst e; exact Ws.init (by simp [hG])) ?_
  refine WC.seq ?_
  refine WC.region ?_
  refine WL.val (.inl rfl) rfl (yl_assign rfl) ?_
  refine WL.val (.inl rfl) rfl (yl_assign rfl) ?_
  refine WL.nil ?_
  refine WE.then_normal ?_
  refine WC.seq ?_
  refine WC.seq ?_
  refine WC.region ?_
  refine WL.val (.inl rfl) rfl (yl_move rfl) ?_
  refine WL.val (.inl rfl) rfl (yl_lens us9 rfl) ?_
  refine WL.val (.inl rfl) rfl (yl_gt rfl rfl) ?_
  refine WL.nil ?_
  refine WE.then_normal ?_
  refine WC.cond rfl (fun hc0 => ?_) (fun hc0 => ?_)
  ·
    have hl : 4096 < s.length := by simp at hc0; omega
    have hR : lexR s = ([], 2) := by rw [lexR, if_pos hl]
    refine WC.seq ?_
    refine WC.region ?_
    refine WL.val (.inl rfl) rfl (yl_assign rfl) ?_
    refine WL.val (.inl rfl) rfl (yl_assign rfl) ?_
    refine WL.nil ?_
    refine WE.then_normal ?_
    refine WC.ret ?_
    refine WE.then_ret ?_
    refine WE.retR (rs_2 rfl (rv_tmp rfl) (rv_tmp rfl)) fun w' hw => ?_
    rw [hR]
    exact ⟨(none, 0), rfl, hw.fr, Sl.nil⟩
  ·
    have hl : ¬ 4096 < s.length := by simp at hc0; omega
    refine WC.skip ?_
    refine WE.then_normal ?_
    refine WC.seq ?_
    refine WC.region ?_
    refine WL.val (.inl rfl) rfl (yl_assign rfl) ?_
    refine WL.world (fun _ h => h.osl_nil 38 3) ?_
    refine WL.nil ?_
    refine WE.then_normal ?_
    refine WC.seq ?_
    refine WC.block ?_
    refine WC.loopK (ι := List UInt8 × List Tok × Option Addr × Nat) (fun g => [(0, st g.1), (4, .slice g.2.2.1 g.2.1.length g.2.2.2)]) [] (fun g => Ws w [] [osT 38 3 Tok.cells g.2.2.1 g.2.2.2 (g.2.1)] [G]) (fun g => g.2.1.length + g.1.length ≤ s.length ∧ lexO s = (lexO g.1).map (g.2.1 ++ ·)) (fun g => g.1.length) (s, [], none, 0) ⟨by simp, by simp⟩ (sc rfl (sc rfl sn)) (fun _ h => h) ?_
    intro g ⟨hgl, hO⟩
    refine WC.seq ?_
    refine WC.seq ?_
    refine WC.region ?_
    refine WL.val (.inl rfl) rfl (yl_move rfl) ?_
    refine WL.val (.inl rfl) rfl (yl_nes rfl rfl) ?_
    refine WL.nil ?_
    refine WE.then_normal ?_
    refine WC.cond rfl (fun hc1 => ?_) (fun hc1 => ?_)
    ·
      obtain ⟨u, r, hcr⟩ : ∃ u r, g.1 = u :: r := by
        cases hg1 : g.1 with
        | nil => rw [hg1] at hc1; simp at hc1
        | cons u r => exact ⟨u, r, rfl⟩
      have hcl : g.1.length = r.length + 1 := by rw [hcr]; rfl
      refine WC.skip ?_
      refine WE.then_normal ?_
      refine WC.block ?_
      refine WC.seq ?_
      refine WC.region ?_
      refine WL.val (.inl rfl) rfl (yl_assign rfl) ?_
      refine WL.nil ?_
      refine WE.then_normal ?_
      refine WC.seq ?_
      refine WC.block ?_
      refine WC.loopW (ι := Nat) (fun i => [(5, .int .i64 (i : Int))]) [(0, _), (4, _)] (fun i => i ≤ g.1.length ∧ ∀ j, j < i → charB (g.1[j]?.getD 0) = true) (fun i => g.1.length - i) 0 ⟨Nat.zero_le _, by simp⟩ (sc rfl (sc rfl (sc rfl sn))) ?_
      intro i ⟨hi, hall⟩
      refine WC.seq ?_
      refine WC.seq ?_
      refine WC.region ?_
      refine WL.val (.inl rfl) rfl (yl_move rfl) ?_
      refine WL.val (.inl rfl) rfl (yl_move rfl) ?_
      refine WL.val (.inl rfl) rfl (yl_lens us9 rfl) ?_
      refine WL.val (.inl rfl) rfl (yl_lt rfl rfl) ?_
      refine WL.val (.inl rfl) rfl (yl_move rfl) ?_
      apply WL.and 4 rfl rfl rfl rfl (.inl rfl) rfl rfl rfl rfl rfl
      ·
        intro hg0
        have hlt : i < g.1.length := by simpa using hg0
        have hu0 := at0 hlt
        refine WL.val (.inr ⟨_, _, _, rfl, rfl, rfl⟩) rfl (yl_move rfl) ?_
        refine WL.val (.inr ⟨_, _, _, rfl, rfl, rfl⟩) rfl (yl_move rfl) ?_
        refine WL.val (.inr ⟨_, _, _, rfl, rfl, rfl⟩) rfl (yl_idxk us9 rfl rfl hu0) ?_
        refine WL.callp (.inr ⟨_, _, _, rfl, rfl, rfl⟩) rfl en22 rfl (fun w hw => plain_char _ w) ?_
        exact Got.intro 4 rfl rfl rfl
      refine WL.nil ?_
      refine WE.then_normal ?_
      refine WC.cond rfl (fun hc2 => ?_) (fun hc2 => ?_)
      ·
        have hlt : i < g.1.length := by
          simp only [Bool.and_eq_true, decide_eq_true_eq] at hc2
          omega
        have hch : charB (g.1[i]?.getD 0) = true := by
          simp only [Bool.and_eq_true] at hc2
          exact hc2.2
        refine WC.skip ?_
        refine WE.then_normal ?_
        refine WC.block ?_
        refine WC.region ?_
        refine WL.val (.inl rfl) rfl (yl_move rfl) ?_
        refine WL.val (.inl rfl) rfl (yl_inc rfl rfl rfl (by omega)) ?_
        refine WL.val (.inl rfl) rfl (yl_assign rfl) ?_
        refine WL.nil ?_
        refine WE.block_normal ?_
        exact WE.again (i + 1) (by omega) ⟨by omega, fun j hj => by rcases Nat.lt_succ_iff_lt_or_eq.1 hj with h | rfl; exact hall j h; exact hch⟩ (sc rfl (sc rfl (sc rfl sn))) (fun _ h => h)
      ·
        have hrn : runC g.1 = i := by
          refine runC_spec _ _ hi hall ?_
          rcases Nat.lt_or_ge i g.1.length with h | h
          · right
            rw [decide_eq_true (by omega : ((i : Nat) : Int) < (g.1.length : Int)), Bool.true_and] at hc2
            exact hc2
          · left; omega
        have hu1 : g.1[0]? = some u := by rw [hcr]; rfl
        refine WC.exit ?_
        refine WE.then_exit ?_
        refine WE.then_exit ?_
        refine WE.block_hit ?_
        refine WE.then_normal ?_
        refine WC.seq ?_
        refine WC.seq ?_
        refine WC.region ?_
        refine WL.val (.inl rfl) rfl (yl_move rfl) ?_
        refine WL.val (.inl rfl) rfl (yl_idxk us9 rfl rfl (i := 0) hu1) ?_
        refine WL.val (.inl rfl) rfl (yl_assign rfl) ?_
        refine WL.nil ?_
        refine WE.then_normal ?_
        refine WC.block ?_
        refine WC.seq ?_
        refine WC.region ?_
        refine WL.val (.inl rfl) rfl (yl_move rfl) ?_
        refine WL.val (.inl rfl) rfl (yl_gt rfl rfl) ?_
        refine WL.val (.inl rfl) rfl (yl_assign rfl) ?_
        refine WL.nil ?_
        refine WE.then_normal ?_
        refine WC.cond rfl (fun hc3 => ?_) (fun hc3 => ?_)
        ·
          have h0n : 0 < i := by simp at hc3; omega
          refine WC.seq ?_
          refine WC.region ?_
          refine WL.val (.inl rfl) rfl (yl_move rfl) ?_
          refine WL.val (.inl rfl) rfl (yl_move rfl) ?_
          refine WL.val (.inl rfl) rfl (yl_ssh Tryd.underlying9 rfl rfl (by omega) (by omega)) ?_
          rw [Int.toNat_natCast]
          refine WL.callp (.inl rfl) rfl en23 rfl (fun w hw => word_any G _ (by simp; omega) w (hw.vs _ (by simp)) hz) ?_
          refine WL.val (.inl rfl) rfl (yl_move rfl) ?_
          refine WL.val (.inl rfl) rfl (yl_extract rfl rfl) ?_
          refine WL.val (.inl rfl) rfl (yl_extract rfl rfl) ?_
          refine WL.alloc (.inl rfl) rfl zr38 fun b7 => ?_
          refine WL.store 0 (.inl rfl) rfl rfl rfl sz38 rfl rfl rfl ?_
          refine WL.val (.inl rfl) rfl (yl_assign rfl) ?_
          refine WL.nil ?_
          refine WE.then_normal ?_
          refine WC.seq ?_
          refine WC.seq ?_
          refine WC.region ?_
          refine WL.val (.inl rfl) rfl (yl_move rfl) ?_
          refine WL.val (.inl rfl) rfl (yl_not rfl) ?_
          refine WL.nil ?_
          refine WE.then_normal ?_
          refine WC.cond rfl (fun hc4 => ?_) (fun hc4 => ?_)
          ·
            have hR : lexR s = ([], 1) := lexO_no hO (by rw [lexO_word (by omega), hrn, word_same, if_neg (by simpa using hc4)]) hl
            refine WC.seq ?_
            refine WC.region ?_
            refine WL.val (.inl rfl) rfl (yl_assign rfl) ?_
            refine WL.val (.inl rfl) rfl (yl_assign rfl) ?_
            refine WL.nil ?_
            refine WE.then_normal ?_
            refine WC.ret ?_
            refine WE.then_ret ?_
            refine WE.block_ret ?_
            refine WE.then_ret ?_
            refine WE.block_ret ?_
            refine WE.then_ret ?_
            refine WE.block_ret ?_
            refine WE.then_ret ?_
            refine WE.retR (rs_2 rfl (rv_tmp rfl) (rv_tmp rfl)) fun w' hw => ?_
            rw [hR]
            exact ⟨(none, 0), rfl, hw.fr, Sl.nil⟩
          ·
            have hwt : wordT (g.1.take i) = some ((wordP (g.1.take i)).1) := by rw [word_same, if_pos (by simpa using hc4)]
            refine WC.skip ?_
            refine WE.then_normal ?_
            refine WC.seq ?_
            refine WC.region ?_
            refine WL.val (.inl rfl) rfl (yl_move rfl) ?_
            refine WL.val (.inl rfl) rfl (yl_ldka 0 rfl rfl ag38 rfl) ?_
            refine WL.bsliceF (.inl rfl) rfl el22 rfl rfl rfl rfl fun b42 => ?_
            refine WL.reblk 0 (.cells (Tok.cells ((wordP (g.1.take i)).1)).toArray 38 (0, 0)) rfl rfl ?_
            refine WL.appT ((wordP (g.1.take i)).1) 2 0 (.inl rfl) rfl el22 rfl rfl rfl rfl rfl rfl (by omega) (by omega) fun a43 c43 => ?_
            refine WL.val (.inl rfl) rfl (yl_assign rfl) ?_
            refine WL.nil ?_
            refine WE.then_normal ?_
            refine WC.seq ?_
            refine WC.region ?_
            refine WL.val (.inl rfl) rfl (yl_move rfl) ?_
            refine WL.val (.inl rfl) rfl (yl_move rfl) ?_
            refine WL.val (.inl rfl) rfl (yl_sst Tryd.underlying9 rfl rfl (by omega) (by omega)) ?_
            rw [Int.toNat_natCast]
            refine WL.val (.inl rfl) rfl (yl_assign rfl) ?_
            refine WL.nil ?_
            refine WE.then_normal ?_
            refine WC.exit ?_
            refine WE.block_miss rfl ?_
            refine WE.then_exit ?_
            refine WE.block_hit ?_
            exact WE.again ((g.1.drop i, g.2.1 ++ [(wordP (g.1.take i)).1], a43, c43) : List UInt8 × List Tok × Option Addr × Nat) (by dsimp only; simp; omega) ⟨by dsimp only; simp; omega, by
                dsimp only
                rw [hO, lexO_word (by omega), hrn, hwt]
                simp only
                rw [map_app]⟩ (sc rfl (sc rfl sn)) (fun _ h => Ws.drop (L := [_, _]) h)
        ·
          have h0c : runC (u :: r) = 0 := by rw [← hcr, hrn]; simp at hc3; omega
          refine WC.seq ?_
          refine WC.region ?_
          refine WL.val (.inl rfl) rfl (yl_move rfl) ?_
          refine WL.callp (.inl rfl) rfl en20 rfl (fun w hw => lexSign_any _ w) ?_
          refine WL.val (.inl rfl) rfl (yl_assign rfl) ?_
          refine WL.nil ?_
          refine WE.then_normal ?_
          refine WC.cond rfl (fun hc5 => ?_) (fun hc5 => ?_)
          ·
            refine WC.region ?_
            refine WL.val (.inl rfl) rfl (yl_move rfl) ?_
            refine WL.val (.inl rfl) rfl (yl_move rfl) ?_
            refine WL.val (.inl rfl) rfl (yl_ssh Tryd.underlying9 rfl rfl (by omega) (by omega)) ?_
            rw [show g.1.take (1 : Int).toNat = [u] by rw [hcr]; rfl]
            refine WL.val (.inl rfl) rfl (yl_build zr38 pl38 rfl rfl) ?_
            refine WL.bsliceF (.inl rfl) rfl el22 rfl rfl rfl rfl fun b54 => ?_
            refine WL.reblk 0 (.cells (Tok.cells (Tok.mk 3 0 [u])).toArray 38 (0, 0)) rfl rfl ?_
            refine WL.appT (Tok.mk 3 0 [u]) 1 0 (.inl rfl) rfl el22 rfl rfl rfl rfl rfl rfl (by omega) (by omega) fun a55 c55 => ?_
            refine WL.val (.inl rfl) rfl (yl_assign rfl) ?_
            refine WL.nil ?_
            refine WE.block_normal ?_
            refine WE.then_normal ?_
            refine WC.region ?_
            refine WL.val (.inl rfl) rfl (yl_move rfl) ?_
            refine WL.val (.inl rfl) rfl (yl_sst Tryd.underlying9 rfl rfl (by omega) (by omega)) ?_
            rw [show g.1.drop (1 : Int).toNat = r by rw [hcr]; rfl]
            refine WL.val (.inl rfl) rfl (yl_assign rfl) ?_
            refine WL.nil ?_
            refine WE.block_normal ?_
            exact WE.again ((r, g.2.1 ++ [Tok.mk 3 0 [u]], a55, c55) : List UInt8 × List Tok × Option Addr × Nat) (by dsimp only; omega) ⟨by dsimp only; simp; omega, by
                dsimp only
                rw [hO, hcr, lexO_sign h0c (by simpa using hc5), map_app]⟩ (sc rfl (sc rfl sn)) (fun _ h => Ws.drop (L := [_]) h)
          ·
            refine WC.seq ?_
            refine WC.region ?_
            refine WL.val (.inl rfl) rfl (yl_move rfl) ?_
            refine WL.val (.inl rfl) rfl (yl_ne rfl rfl) ?_
            refine WL.val (.inl rfl) rfl (yl_move rfl) ?_
            apply WL.and 2 rfl rfl rfl rfl (.inl rfl) rfl rfl rfl rfl rfl
            ·
              intro hg1
              refine WL.val (.inr ⟨_, _, _, rfl, rfl, rfl⟩) rfl (yl_move rfl) ?_
              refine WL.val (.inr ⟨_, _, _, rfl, rfl, rfl⟩) rfl (yl_ne rfl rfl) ?_
              exact Got.intro 2 rfl rfl rfl
            refine WL.val (.inl rfl) rfl (yl_assign rfl) ?_
            refine WL.nil ?_
            refine WE.then_normal ?_
            refine WC.cond rfl (fun hc6 => ?_) (fun hc6 => ?_)
            ·
              have hbl : ¬ (u = 32 ∨ u = 10) := by
                rintro (h | h) <;> rw [h] at hc6 <;> simp at hc6
              have hR : lexR s = ([], 1) := lexO_no hO (by rw [hcr, lexO_bad h0c (by simpa using hc5) hbl]) hl
              refine WC.seq ?_
              refine WC.region ?_
              refine WL.val (.inl rfl) rfl (yl_assign rfl) ?_
              refine WL.val (.inl rfl) rfl (yl_assign rfl) ?_
              refine WL.nil ?_
              refine WE.then_normal ?_
              refine WC.ret ?_
              refine WE.block_ret ?_
              refine WE.then_ret ?_
              refine WE.block_ret ?_
              refine WE.then_ret ?_
              refine WE.block_ret ?_
              refine WE.then_ret ?_
              refine WE.retR (rs_2 rfl (rv_tmp rfl) (rv_tmp rfl)) fun w' hw => ?_
              rw [hR]
              exact ⟨(none, 0), rfl, hw.fr, Sl.nil⟩
            ·
              have hbl : u = 32 ∨ u = 10 := by
                simp only [bne, Bool.and_eq_false_iff, Bool.not_eq_false', beq_iff_eq] at hc6
                rcases hc6 with h | h
                · left; exact toNat_inj (by simpa using h)
                · right; exact toNat_inj (by simpa using h)
              refine WC.skip ?_
              refine WE.block_normal ?_
              refine WE.then_normal ?_
              refine WC.region ?_
              refine WL.val (.inl rfl) rfl (yl_move rfl) ?_
              refine WL.val (.inl rfl) rfl (yl_sst Tryd.underlying9 rfl rfl (by omega) (by omega)) ?_
              rw [show g.1.drop (1 : Int).toNat = r by rw [hcr]; rfl]
              refine WL.val (.inl rfl) rfl (yl_assign rfl) ?_
              refine WL.nil ?_
              refine WE.block_normal ?_
              exact WE.again ((r, g.2.1, g.2.2.1, g.2.2.2) : List UInt8 × List Tok × Option Addr × Nat) (by dsimp only; omega) ⟨by dsimp only; omega, by
                  dsimp only
                  rw [hO, hcr, lexO_blank h0c (by simpa using hc5) hbl]⟩ (sc rfl (sc rfl sn)) (fun _ h => h)
    ·
      have hge : g.1 = [] := by simpa using hc1
      have hR : lexR s = (g.2.1, 0) := by
        rw [hge] at hO
        exact lexO_yes hO hl
      refine WC.exit ?_
      refine WE.then_exit ?_
      refine WE.then_exit ?_
      refine WE.block_hit ?_
      refine WE.then_normal ?_
      refine WC.seq ?_
      refine WC.region ?_
      refine WL.val (.inl rfl) rfl (yl_move rfl) ?_
      refine WL.val (.inl rfl) rfl (yl_assign rfl) ?_
      refine WL.val (.inl rfl) rfl (yl_assign rfl) ?_
      refine WL.nil ?_
      refine WE.then_normal ?_
      refine WC.ret ?_
      refine WE.retR (rs_2 rfl (rv_tmp rfl) (rv_tmp rfl)) fun w' hw => ?_
      rw [hR]
      exact ⟨(g.2.2.1, g.2.2.2), rfl, hw.fr, hw.slT 0 rfl Tok.cells_len (fun _ _ _ _ h => h)⟩

theorem lexShow_any (G : View) (H : View) (a : Option Addr) (c : Nat) (l : List Tok) (w : World) (hG : Le G w) (hz : Laid G) (hH : Le H w) (hm : Sl rdTok 3 H a c l) :
    Calls Tryd.prog 7 #[.slice a l.length c] w fun e w' => e = .returned (.tuple #[st (showT l).1, .int .i64 (showT l).2]) ∧ Ext w w' := by
  have hcap := hm.cap
  have hmax := hm.max
  refine enter Tryd.func7 rfl 36 rfl rfl ?_
  refine WC.world (W' := Ws w [] [] [G, H]) (fun _ e => by subst e; exact Ws.init (by simp [hG, hH])) ?_
  refine WC.seq ?_
  refine WC.region ?_
  refine WL.val (.inl rfl) rfl (yl_assign rfl) ?_
  refine WL.val (.inl rfl) rfl (yl_assign rfl) ?_
  refine WL.nil ?_
  refine WE.then_normal ?_
  refine WC.seq ?_
  refine WC.seq ?_
  refine WC.region ?_
  refine WL.val (.inl rfl) rfl (yl_move rfl) ?_
  refine WL.callp (.inl rfl) rfl en11 rfl (fun w hw => lexCheck_any H a c l w (hw.vs _ (by simp)) hm) ?_
  refine WL.val (.inl rfl) rfl (yl_assign rfl) ?_
  refine WL.nil ?_
  refine WE.then_normal ?_
  refine WC.seq ?_
  refine WC.region ?_
  refine WL.val (.inl rfl) rfl (yl_move rfl) ?_
  refine WL.val (.inl rfl) rfl (yl_ne rfl rfl) ?_
  refine WL.nil ?_
  refine WE.then_normal ?_
  refine WC.cond rfl (fun hc0 => ?_) (fun hc0 => ?_)
  ·
    have hc : ¬ checkT l = 0 := by simpa using hc0
    have hS : showT l = ([], checkT l) := by rw [showT, if_neg hc]
    refine WC.seq ?_
    refine WC.region ?_
    refine WL.val (.inl rfl) rfl (yl_move rfl) ?_
    refine WL.val (.inl rfl) rfl (yl_assign rfl) ?_
    refine WL.val (.inl rfl) rfl (yl_assign rfl) ?_
    refine WL.nil ?_
    refine WE.then_normal ?_
    refine WC.ret ?_
    refine WE.then_ret ?_
    refine WE.ret2 rfl rfl rfl fun w' hw => ?_
    rw [hS]
    exact ⟨rfl, hw.fr⟩
  ·
    have hc : checkT l = 0 := by simpa using hc0
    obtain ⟨hok, hl⟩ := checkT_zero hc
    have hS : showT l = (joinT l, 0) := by rw [showT, if_pos hc]
    have hjl := joinT_len l hok
    refine WC.skip ?_
    refine WE.then_normal ?_
    refine WC.seq ?_
    refine WC.region ?_
    refine WL.val (.inl rfl) rfl (yl_assign rfl) ?_
    refine WL.world (fun _ h => h.osl_nil 9 1) ?_
    refine WL.nil ?_
    refine WE.then_normal ?_
    refine WC.seq ?_
    refine WC.seq ?_
    refine WC.region ?_
    refine WL.val (.inl rfl) rfl (yl_move rfl) ?_
    refine WL.val (.inl rfl) rfl (yl_len es22 rfl) ?_
    refine WL.val (.inl rfl) rfl (yl_move rfl) ?_
    refine WL.nil ?_
    refine WE.then_normal ?_
    refine WC.block ?_
    refine WC.loopK (ι := Nat × List (List UInt8) × Option Addr × Nat) (fun g => [(15, .int .i64 (g.1 : Int)), (5, .slice g.2.2.1 g.2.1.length g.2.2.2)]) [(2, _), (3, _), (13, _), (14, _)] (fun g => Ws w [] [osT 9 1 strC g.2.2.1 g.2.2.2 g.2.1] [G, H]) (fun g => g.1 ≤ l.length ∧ g.2.1 = (l.take g.1).map tokTxt) (fun g => l.length - g.1) (0, [], none, 0) ⟨Nat.zero_le _, by simp⟩ (sc rfl (sc rfl (sc rfl (sc rfl (sc rfl (sc rfl sn)))))) (fun _ h => h) ?_
    intro g ⟨hi, hys⟩
    refine WC.seq ?_
    refine WC.region ?_
    refine WL.val (.inl rfl) rfl (yl_lt rfl rfl) ?_
    refine WL.nil ?_
    refine WE.then_normal ?_
    refine WC.seq ?_
    refine WC.cond rfl (fun hc1 => ?_) (fun hc1 => ?_)
    ·
      have hlt : g.1 < l.length := by simpa using hc1
      obtain ⟨x, hxi⟩ : ∃ x, l[g.1]? = some x := ⟨_, List.getElem?_eq_getElem hlt⟩
      obtain ⟨pbx, pox, ha, hrow⟩ := hm.elt g.1 x hxi
      have hrow : RdC H pbx (pox + g.1 * 3) x.cells := hrow
      have hxm := hok x (List.mem_of_getElem? hxi)
      have hyl : g.2.1.length ≤ g.1 := by rw [hys]; simp; omega
      refine WC.skip ?_
      refine WE.then_normal ?_
      refine WC.seq ?_
      refine WC.block ?_
      refine WC.seq ?_
      refine WC.region ?_
      refine WL.val (.inl rfl) rfl (yl_iao es22 rfl rfl ha (by omega)) ?_
      refine WL.val (.inl rfl) rfl (yl_lda 1 ag38 rfl rfl rfl (hrow)) ?_
      refine WL.alloc (.inl rfl) rfl zr38 fun b7 => ?_
      refine WL.store 0 (.inl rfl) rfl rfl rfl sz38 rfl rfl rfl ?_
      refine WL.nil ?_
      refine WE.then_normal ?_
      refine WC.seq ?_
      refine WC.region ?_
      refine WL.val (.inl rfl) rfl (yl_fa fo38_0 rfl) ?_
      refine WL.val (.inl rfl) rfl (yl_ldk 0 rfl rfl rfl na3) ?_
      refine WL.val (.inl rfl) rfl (yl_eq rfl rfl) ?_
      refine WL.nil ?_
      refine WE.then_normal ?_
      refine WC.cond rfl (fun hc2 => ?_) (fun hc2 => ?_)
      ·
        have hk : x.kind = 2 := by simpa using hc2
        have htx : tokTxt x = Lib.itoa x.n := by rw [tokTxt, if_pos hk]
        have hnn := hxm.2
        rw [tokOk2 (by omega) hk] at hnn
        simp [within] at hnn
        refine WC.region ?_
        refine WL.val (.inl rfl) rfl (yl_move rfl) ?_
        refine WL.val (.inl rfl) rfl (yl_fa fo38_1 rfl) ?_
        refine WL.val (.inl rfl) rfl (yl_ldk 0 rfl rfl rfl na3) ?_
        refine WL.callp (.inl rfl) rfl en15 rfl (fun w hw => itoa_any G _ (by omega) (by omega) w (hw.vs _ (by simp)) hz) ?_
        refine WL.bsliceF (.inl rfl) rfl el36 rfl rfl rfl rfl fun b26 => ?_
        refine WL.reblk 0 (.cells (strC (tokTxt x)).toArray 9 (0, 0)) rfl (by rw [htx]; rfl) ?_
        refine WL.appT (tokTxt x) 2 0 (.inl rfl) rfl el36 rfl rfl rfl rfl rfl rfl (by omega) (by omega) fun a27 c27 => ?_
        refine WL.val (.inl rfl) rfl (yl_assign rfl) ?_
        refine WL.nil ?_
        refine WE.block_normal ?_
        refine WE.then_normal ?_
        refine WC.region ?_
        refine WL.val (.inl rfl) rfl (yl_inc rfl rfl rfl (by omega)) ?_
        refine WL.val (.inl rfl) rfl (yl_move rfl) ?_
        refine WL.nil ?_
        exact WE.again ((g.1 + 1, g.2.1 ++ [tokTxt x], a27, c27) : Nat × List (List UInt8) × Option Addr × Nat) (by dsimp only; omega) ⟨by dsimp only; omega, by dsimp only; rw [take_snoc hxi, hys]; simp⟩ (sc rfl (sc rfl (sc rfl (sc rfl (sc rfl (sc rfl sn)))))) (fun _ h => Ws.drop (L := [_, _]) h)
      ·
        have hk : ¬ x.kind = 2 := by simpa using hc2
        have htx : tokTxt x = x.text := by rw [tokTxt, if_neg hk]
        refine WC.region ?_
        refine WL.val (.inl rfl) rfl (yl_move rfl) ?_
        refine WL.val (.inl rfl) rfl (yl_fa fo38_2 rfl) ?_
        refine WL.val (.inl rfl) rfl (yl_ldk 0 rfl rfl rfl na9) ?_
        refine WL.bsliceF (.inl rfl) rfl el36 rfl rfl rfl rfl fun b31 => ?_
        refine WL.reblk 0 (.cells (strC (tokTxt x)).toArray 9 (0, 0)) rfl (by rw [htx]; rfl) ?_
        refine WL.appT (tokTxt x) 2 0 (.inl rfl) rfl el36 rfl rfl rfl rfl rfl rfl (by omega) (by omega) fun a32 c32 => ?_
        refine WL.val (.inl rfl) rfl (yl_assign rfl) ?_
        refine WL.nil ?_
        refine WE.block_normal ?_
        refine WE.then_normal ?_
        refine WC.region ?_
        refine WL.val (.inl rfl) rfl (yl_inc rfl rfl rfl (by omega)) ?_
        refine WL.val (.inl rfl) rfl (yl_move rfl) ?_
        refine WL.nil ?_
        exact WE.again ((g.1 + 1, g.2.1 ++ [tokTxt x], a32, c32) : Nat × List (List UInt8) × Option Addr × Nat) (by dsimp only; omega) ⟨by dsimp only; omega, by dsimp only; rw [take_snoc hxi, hys]; simp⟩ (sc rfl (sc rfl (sc rfl (sc rfl (sc rfl (sc rfl sn)))))) (fun _ h => Ws.drop (L := [_, _]) h)
    ·
      have hge : ¬ g.1 < l.length := by simpa using hc1
      rw [List.take_of_length_le (by omega)] at hys
      rw [hys]
      refine WC.exit ?_
      refine WE.then_exit ?_
      refine WE.then_exit ?_
      refine WE.block_hit ?_
      refine WE.then_normal ?_
      refine WC.seq ?_
      refine WC.region ?_
      refine WL.val (.inl rfl) rfl (yl_move rfl) ?_
      refine WL.callp (.inl rfl) rfl en16 rfl (fun w hw => join_any (hv w) _ _ _ [32] w (hv_le w) (hw.slTh 0 rfl (fun _ => rfl) (fun _ _ _ _ h => h)) (by simp; omega) (by rw [show Lib.join _ [32] = joinT l from rfl]; omega)) ?_
      refine WL.val (.inl rfl) rfl (yl_assign rfl) ?_
      refine WL.val (.inl rfl) rfl (yl_assign rfl) ?_
      refine WL.nil ?_
      refine WE.then_normal ?_
      refine WC.ret ?_
      refine WE.ret2 rfl rfl rfl fun w' hw => ?_
      rw [hS]
      exact ⟨rfl, hw.fr⟩

end Go.Proofs.YtcjloelhjnnhmaaDoor
