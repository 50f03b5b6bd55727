/- Walks of the functions of this claim, and plain laws on what they compute; each theorem tells its own conditions. -/
import Derived.Test.YtagoencpeflmlaaBwF8
namespace Go.Proofs.Ytagoencpeflmlaa
open Go.Bw
set_option linter.unusedVariables false
set_option linter.unusedSimpArgs false
theorem en49 : Enters Try.prog 49 := enters_of Try.func49 (by kernel_rfl) rfl
theorem en50 : Enters Try.prog 50 := enters_of Try.func50 (by kernel_rfl) rfl

theorem checkFace_any (H : View) (a : Option Addr) (c : Nat) (name : List UInt8) (items : List Item) (w : World) (hH : Le H w) (hm : Sl rdItem 4 H a c items) :
    Calls Try.prog 17 #[.agg #[st name, .slice a items.length c]] w fun e w' => e = .returned (.int .i64 (faceE name items)) ∧ Ext w w' := by
  have hcap := hm.cap
  have hmax := hm.max
  refine enter Try.func17 rfl 98 rfl rfl ?_
  refine WC.world (W' := Ws w [] [] [H]) (fun _ e => by subst e; exact Ws.init (by simp [hH])) ?_
  refine WC.seq ?_
  refine WC.region ?_
  refine WL.box (.inl rfl) rfl rfl fun b1 => ?_
  refine WL.val (.inl rfl) rfl (yl_assign rfl) ?_
  refine WL.nil ?_
  refine WE.then_normal ?_
  refine WC.seq ?_
  refine WC.seq ?_
  refine WC.region ?_
  refine WL.val (.inl rfl) rfl (yl_fa fo39_1 rfl) ?_
  refine WL.val (.inl rfl) rfl (yl_ldk 0 rfl rfl rfl na37) ?_
  refine WL.val (.inl rfl) rfl (yl_len es37 rfl) ?_
  refine WL.val (.inl rfl) rfl (yl_gt rfl rfl) ?_
  refine WL.nil ?_
  refine WE.then_normal ?_
  refine WC.cond rfl (fun hc0 => ?_) (fun hc0 => ?_)
  ·
    have h16 : 16 < items.length := by simp at hc0; omega
    refine WC.seq ?_
    refine WC.region ?_
    refine WL.val (.inl rfl) rfl (yl_assign rfl) ?_
    refine WL.nil ?_
    refine WE.then_normal ?_
    refine WC.ret ?_
    refine WE.then_ret ?_
    refine WE.ret1 rfl rfl fun w' hw => ?_
    exact ⟨by rw [faceE, if_pos h16], hw.fr⟩
  ·
    have h16 : ¬ 16 < items.length := by simp at hc0; omega
    refine WC.skip ?_
    refine WE.then_normal ?_
    refine WC.seq ?_
    refine WC.seq ?_
    refine WC.region ?_
    refine WL.val (.inl rfl) rfl (yl_fa fo39_0 rfl) ?_
    refine WL.val (.inl rfl) rfl (yl_ldk 0 rfl rfl rfl na9) ?_
    refine WL.callp (.inl rfl) rfl en49 rfl (fun w hw => isName_any _ w) ?_
    refine WL.val (.inl rfl) rfl (yl_not rfl) ?_
    refine WL.nil ?_
    refine WE.then_normal ?_
    refine WC.cond rfl (fun hc1 => ?_) (fun hc1 => ?_)
    ·
      refine WC.seq ?_
      refine WC.region ?_
      refine WL.val (.inl rfl) rfl (yl_assign rfl) ?_
      refine WL.nil ?_
      refine WE.then_normal ?_
      refine WC.ret ?_
      refine WE.then_ret ?_
      refine WE.ret1 rfl rfl fun w' hw => ?_
      have hn : nameB name = false := by simpa using hc1
      exact ⟨by rw [faceE, if_neg h16, hn]; simp, hw.fr⟩
    ·
      refine WC.skip ?_
      refine WE.then_normal ?_
      refine WC.seq ?_
      refine WC.region ?_
      refine WL.val (.inl rfl) rfl (yl_assign rfl) ?_
      refine WL.world (fun _ h => h.osl_nil 9 1) ?_
      refine WL.nil ?_
      refine WE.then_normal ?_
      refine WC.seq ?_
      refine WC.seq ?_
      refine WC.region ?_
      refine WL.val (.inl rfl) rfl (yl_assign rfl) ?_
      refine WL.nil ?_
      refine WE.then_normal ?_
      refine WC.block ?_
      refine WC.loopK (ι := Nat × Option Addr × Nat) (fun g => [(4, .int .i64 (g.1 : Int)), (3, .slice g.2.1 g.1 g.2.2)]) [(1, _)] (fun g => Ws w [] [osl 9 1 (.slice g.2.1 g.1 g.2.2) g.1 (((items.take g.1).map (·.name)).map st), blk b1 (.cells (Value.agg #[st name, .slice a items.length c]).cells 39 (0, 0))] [H]) (fun g => g.1 ≤ items.length ∧ ∀ j x, j < g.1 → items[j]? = some x → itemOk x = true) (fun g => items.length - g.1) (0, none, 0) ⟨Nat.zero_le _, by simp⟩ (sc rfl (sc rfl (sc rfl sn))) (fun _ h => h) ?_
      intro g ⟨hi, hall⟩
      refine WC.seq ?_
      refine WC.seq ?_
      refine WC.region ?_
      refine WL.val (.inl rfl) rfl (yl_move rfl) ?_
      refine WL.val (.inl rfl) rfl (yl_fa fo39_1 rfl) ?_
      refine WL.val (.inl rfl) rfl (yl_ldk 1 rfl rfl rfl na37) ?_
      refine WL.val (.inl rfl) rfl (yl_len es37 rfl) ?_
      refine WL.val (.inl rfl) rfl (yl_lt rfl rfl) ?_
      refine WL.nil ?_
      refine WE.then_normal ?_
      refine WC.cond rfl (fun hc2 => ?_) (fun hc2 => ?_)
      ·
        have hlt : g.1 < items.length := by simpa using hc2
        obtain ⟨x, hx⟩ : ∃ x, items[g.1]? = some x := ⟨_, List.getElem?_eq_getElem hlt⟩
        obtain ⟨pb, po, ha, hrow⟩ := hm.elt g.1 x hx
        have hrow : RdC H pb (po + g.1 * 4) x.cells := hrow
        refine WC.skip ?_
        refine WE.then_normal ?_
        refine WC.seq ?_
        refine WC.block ?_
        refine WC.seq ?_
        refine WC.region ?_
        refine WL.val (.inl rfl) rfl (yl_fa fo39_1 rfl) ?_
        refine WL.val (.inl rfl) rfl (yl_ldk 1 rfl rfl rfl na37) ?_
        refine WL.val (.inl rfl) rfl (yl_move rfl) ?_
        refine WL.val (.inl rfl) rfl (yl_iao es37 rfl rfl ha (by omega)) ?_
        refine WL.val (.inl rfl) rfl (yl_lda 0 ag88 rfl rfl rfl (hrow)) ?_
        refine WL.alloc (.inl rfl) rfl zr88 fun b5 => ?_
        refine WL.store 0 (.inl rfl) rfl rfl rfl sz88 rfl rfl rfl ?_
        refine WL.nil ?_
        refine WE.then_normal ?_
        refine WC.seq ?_
        refine WC.region ?_
        refine WL.val (.inl rfl) rfl (yl_move rfl) ?_
        refine WL.val (.inl rfl) rfl (yl_fa fo88_3 rfl) ?_
        refine WL.val (.inl rfl) rfl (yl_ldk 0 rfl rfl rfl na9) ?_
        refine WL.bsliceF (.inl rfl) rfl el92 rfl rfl rfl rfl fun b30 => ?_
        refine WL.append 2 (.inl rfl) rfl el92 rfl rfl rfl (news := [st x.name]) rfl (fun w hw j u hu => blk_cells hw 0 rfl (k := j) hu) (fun u hu => by simp at hu; subst hu; rfl) (by unfold maxLen; omega) (by omega) (fun v31 hnil31 => ?_)
        refine WL.reosl 2 (g.1 + 1) (((items.take (g.1 + 1)).map (·.name)).map st) rfl rfl (by rw [List.take_add_one, hx]; simp) ?_
        refine WL.slcm 2 rfl fun a24 c24 hv24 => ?_
        subst hv24
        refine WL.val (.inl rfl) rfl (yl_assign rfl) ?_
        refine WL.world (fun _ h => h.osl_nil 9 1) ?_
        refine WL.nil ?_
        refine WE.then_normal ?_
        refine WC.seq ?_
        refine WC.region ?_
        refine WL.val (.inl rfl) rfl (yl_assign rfl) ?_
        refine WL.nil ?_
        refine WE.then_normal ?_
        refine WC.seq ?_
        refine WC.region ?_
        refine WL.val (.inl rfl) rfl (yl_fa fo88_3 rfl) ?_
        refine WL.val (.inl rfl) rfl (yl_ldk 2 rfl rfl rfl na9) ?_
        refine WL.callp (.inl rfl) rfl en49 rfl (fun w hw => isName_any _ w) ?_
        refine WL.val (.inl rfl) rfl (yl_not rfl) ?_
        refine WL.val (.inl rfl) rfl (yl_move rfl) ?_
        apply WL.or 4 rfl rfl rfl rfl (.inl rfl) rfl rfl rfl rfl rfl
        ·
          intro hg0
          refine WL.val (.inr ⟨_, _, _, rfl, rfl, rfl⟩) rfl (yl_fa fo88_0 rfl) ?_
          refine WL.val (.inr ⟨_, _, _, rfl, rfl, rfl⟩) rfl (yl_ldk 2 rfl rfl rfl na3) ?_
          refine WL.callp (.inr ⟨_, _, _, rfl, rfl, rfl⟩) rfl en36 rfl (fun w hw => within_any _ _ _ w) ?_
          refine WL.val (.inr ⟨_, _, _, rfl, rfl, rfl⟩) rfl (yl_not rfl) ?_
          exact Got.intro 4 rfl rfl rfl
        refine WL.val (.inl rfl) rfl (yl_move rfl) ?_
        apply WL.or 4 rfl rfl rfl rfl (.inl rfl) rfl rfl rfl rfl rfl
        ·
          intro hg1
          refine WL.val (.inr ⟨_, _, _, rfl, rfl, rfl⟩) rfl (yl_fa fo88_1 rfl) ?_
          refine WL.val (.inr ⟨_, _, _, rfl, rfl, rfl⟩) rfl (yl_ldk 2 rfl rfl rfl na3) ?_
          refine WL.callp (.inr ⟨_, _, _, rfl, rfl, rfl⟩) rfl en36 rfl (fun w hw => within_any _ _ _ w) ?_
          refine WL.val (.inr ⟨_, _, _, rfl, rfl, rfl⟩) rfl (yl_not rfl) ?_
          exact Got.intro 4 rfl rfl rfl
        refine WL.val (.inl rfl) rfl (yl_move rfl) ?_
        apply WL.or 5 rfl rfl rfl rfl (.inl rfl) rfl rfl rfl rfl rfl
        ·
          intro hg2
          refine WL.val (.inr ⟨_, _, _, rfl, rfl, rfl⟩) rfl (yl_fa fo88_2 rfl) ?_
          refine WL.val (.inr ⟨_, _, _, rfl, rfl, rfl⟩) rfl (yl_ldk 2 rfl rfl rfl na3) ?_
          refine WL.val (.inr ⟨_, _, _, rfl, rfl, rfl⟩) rfl (yl_move rfl) ?_
          refine WL.callp (.inr ⟨_, _, _, rfl, rfl, rfl⟩) rfl en36 rfl (fun w hw => within_any _ _ _ w) ?_
          refine WL.val (.inr ⟨_, _, _, rfl, rfl, rfl⟩) rfl (yl_not rfl) ?_
          exact Got.intro 5 rfl rfl rfl
        refine WL.val (.inl rfl) rfl (yl_move rfl) ?_
        apply WL.or 8 rfl rfl rfl rfl (.inl rfl) rfl rfl rfl rfl rfl
        ·
          intro hg3
          refine WL.val (.inr ⟨_, _, _, rfl, rfl, rfl⟩) rfl (yl_fa fo88_0 rfl) ?_
          refine WL.val (.inr ⟨_, _, _, rfl, rfl, rfl⟩) rfl (yl_ldk 2 rfl rfl rfl na3) ?_
          refine WL.val (.inr ⟨_, _, _, rfl, rfl, rfl⟩) rfl (yl_eq rfl rfl) ?_
          refine WL.val (.inr ⟨_, _, _, rfl, rfl, rfl⟩) rfl (yl_move rfl) ?_
          apply WL.and 3 rfl rfl rfl rfl (.inr ⟨_, _, _, rfl, rfl, rfl⟩) rfl rfl rfl rfl rfl
          ·
            intro hg4
            refine WL.val (.inr ⟨_, _, _, rfl, rfl, rfl⟩) rfl (yl_fa fo88_2 rfl) ?_
            refine WL.val (.inr ⟨_, _, _, rfl, rfl, rfl⟩) rfl (yl_ldk 2 rfl rfl rfl na3) ?_
            refine WL.val (.inr ⟨_, _, _, rfl, rfl, rfl⟩) rfl (yl_ne rfl rfl) ?_
            exact Got.intro 3 rfl rfl rfl
          exact Got.intro 5 rfl rfl rfl
        refine WL.val (.inl rfl) rfl (yl_move rfl) ?_
        apply WL.or 8 rfl rfl rfl rfl (.inl rfl) rfl rfl rfl rfl rfl
        ·
          intro hg5
          refine WL.val (.inr ⟨_, _, _, rfl, rfl, rfl⟩) rfl (yl_fa fo88_0 rfl) ?_
          refine WL.val (.inr ⟨_, _, _, rfl, rfl, rfl⟩) rfl (yl_ldk 2 rfl rfl rfl na3) ?_
          refine WL.val (.inr ⟨_, _, _, rfl, rfl, rfl⟩) rfl (yl_eq rfl rfl) ?_
          refine WL.val (.inr ⟨_, _, _, rfl, rfl, rfl⟩) rfl (yl_move rfl) ?_
          apply WL.and 3 rfl rfl rfl rfl (.inr ⟨_, _, _, rfl, rfl, rfl⟩) rfl rfl rfl rfl rfl
          ·
            intro hg6
            refine WL.val (.inr ⟨_, _, _, rfl, rfl, rfl⟩) rfl (yl_fa fo88_1 rfl) ?_
            refine WL.val (.inr ⟨_, _, _, rfl, rfl, rfl⟩) rfl (yl_ldk 2 rfl rfl rfl na3) ?_
            refine WL.val (.inr ⟨_, _, _, rfl, rfl, rfl⟩) rfl (yl_ne rfl rfl) ?_
            exact Got.intro 3 rfl rfl rfl
          exact Got.intro 5 rfl rfl rfl
        refine WL.val (.inl rfl) rfl (yl_move rfl) ?_
        apply WL.or 9 rfl rfl rfl rfl (.inl rfl) rfl rfl rfl rfl rfl
        ·
          intro hg7
          refine WL.val (.inr ⟨_, _, _, rfl, rfl, rfl⟩) rfl (yl_fa fo88_0 rfl) ?_
          refine WL.val (.inr ⟨_, _, _, rfl, rfl, rfl⟩) rfl (yl_ldk 2 rfl rfl rfl na3) ?_
          refine WL.val (.inr ⟨_, _, _, rfl, rfl, rfl⟩) rfl (yl_eq rfl rfl) ?_
          refine WL.val (.inr ⟨_, _, _, rfl, rfl, rfl⟩) rfl (yl_move rfl) ?_
          apply WL.and 4 rfl rfl rfl rfl (.inr ⟨_, _, _, rfl, rfl, rfl⟩) rfl rfl rfl rfl rfl
          ·
            intro hg8
            refine WL.val (.inr ⟨_, _, _, rfl, rfl, rfl⟩) rfl (yl_fa fo88_1 rfl) ?_
            refine WL.val (.inr ⟨_, _, _, rfl, rfl, rfl⟩) rfl (yl_ldk 2 rfl rfl rfl na3) ?_
            refine WL.callp (.inr ⟨_, _, _, rfl, rfl, rfl⟩) rfl en36 rfl (fun w hw => within_any _ _ _ w) ?_
            refine WL.val (.inr ⟨_, _, _, rfl, rfl, rfl⟩) rfl (yl_not rfl) ?_
            exact Got.intro 4 rfl rfl rfl
          exact Got.intro 5 rfl rfl rfl
        refine WL.val (.inl rfl) rfl (yl_move rfl) ?_
        apply WL.or 8 rfl rfl rfl rfl (.inl rfl) rfl rfl rfl rfl rfl
        ·
          intro hg9
          refine WL.val (.inr ⟨_, _, _, rfl, rfl, rfl⟩) rfl (yl_fa fo88_0 rfl) ?_
          refine WL.val (.inr ⟨_, _, _, rfl, rfl, rfl⟩) rfl (yl_ldk 2 rfl rfl rfl na3) ?_
          refine WL.val (.inr ⟨_, _, _, rfl, rfl, rfl⟩) rfl (yl_eq rfl rfl) ?_
          refine WL.val (.inr ⟨_, _, _, rfl, rfl, rfl⟩) rfl (yl_move rfl) ?_
          apply WL.and 3 rfl rfl rfl rfl (.inr ⟨_, _, _, rfl, rfl, rfl⟩) rfl rfl rfl rfl rfl
          ·
            intro hg10
            refine WL.val (.inr ⟨_, _, _, rfl, rfl, rfl⟩) rfl (yl_fa fo88_1 rfl) ?_
            refine WL.val (.inr ⟨_, _, _, rfl, rfl, rfl⟩) rfl (yl_ldk 2 rfl rfl rfl na3) ?_
            refine WL.val (.inr ⟨_, _, _, rfl, rfl, rfl⟩) rfl (yl_gt rfl rfl) ?_
            exact Got.intro 3 rfl rfl rfl
          exact Got.intro 5 rfl rfl rfl
        refine WL.nil ?_
        refine WE.then_normal ?_
        refine WC.cond rfl (fun hc3 => ?_) (fun hc3 => ?_)
        ·
          have hok : itemOk x = false := by unfold itemOk; rw [hc3]; rfl
          have hno := fall_no hx hok
          refine WC.seq ?_
          refine WC.region ?_
          refine WL.val (.inl rfl) rfl (yl_assign rfl) ?_
          refine WL.nil ?_
          refine WE.then_normal ?_
          refine WC.ret ?_
          refine WE.block_ret ?_
          refine WE.then_ret ?_
          refine WE.then_ret ?_
          refine WE.block_ret ?_
          refine WE.then_ret ?_
          refine WE.ret1 rfl rfl fun w' hw => ?_
          exact ⟨by rw [faceE, if_neg h16, hno]; rfl, hw.fr⟩
        ·
          have hok : itemOk x = true := by unfold itemOk; rw [hc3]; rfl
          refine WC.skip ?_
          refine WE.block_normal ?_
          refine WE.then_normal ?_
          refine WC.region ?_
          refine WL.val (.inl rfl) rfl (yl_move rfl) ?_
          refine WL.val (.inl rfl) rfl (yl_inc rfl rfl rfl (by omega)) ?_
          refine WL.val (.inl rfl) rfl (yl_assign rfl) ?_
          refine WL.nil ?_
          exact WE.again ((g.1 + 1, a24, c24) : Nat × Option Addr × Nat) (by first | omega | (dsimp only; omega)) ⟨by first | omega | (dsimp only; omega), fun j y hj hy => by
              rcases Nat.lt_succ_iff_lt_or_eq.1 hj with h | h
              · exact hall j y h hy
              · subst h; rw [hx] at hy; injection hy with hy; subst hy; exact hok⟩ (sc rfl (sc rfl (sc rfl sn))) (fun _ h => Ws.drop (L := [_, _, _]) h)
      ·
        have hie : g.1 = items.length := by simp at hc2; omega
        rw [hie, List.take_length]
        rw [show items.length = (items.map (·.name)).length by simp]
        refine WC.exit ?_
        refine WE.then_exit ?_
        refine WE.then_exit ?_
        refine WE.block_hit ?_
        refine WE.then_normal ?_
        refine WC.seq ?_
        refine WC.seq ?_
        refine WC.region ?_
        refine WL.val (.inl rfl) rfl (yl_move rfl) ?_
        refine WL.callp (.inl rfl) rfl en50 rfl (fun w hw => by
            have hs : Sl rdStr 1 (hv w) g.2.1 g.2.2 (items.map (·.name)) := own_sl (f := st) (rd := rdStr) st_rd hw 0 rfl rfl
            exact twice_any (hv w) g.2.1 g.2.2 (items.map (·.name)) w (hv_le w) hs) ?_
        refine WL.nil ?_
        refine WE.then_normal ?_
        refine WC.cond rfl (fun hc4 => ?_) (fun hc4 => ?_)
        ·
          refine WC.seq ?_
          refine WC.region ?_
          refine WL.val (.inl rfl) rfl (yl_assign rfl) ?_
          refine WL.nil ?_
          refine WE.then_normal ?_
          refine WC.ret ?_
          refine WE.then_ret ?_
          refine WE.ret1 rfl rfl fun w' hw => ?_
          have hy := fall_yes fun j y hy => hall j y (by have := (List.getElem?_eq_some_iff.1 hy).1; omega) hy
          exact ⟨by rw [faceE, if_neg h16, hy, hc4]; rfl, hw.fr⟩
        ·
          refine WC.skip ?_
          refine WE.then_normal ?_
          refine WC.seq ?_
          refine WC.region ?_
          refine WL.val (.inl rfl) rfl (yl_assign rfl) ?_
          refine WL.nil ?_
          refine WE.then_normal ?_
          refine WC.ret ?_
          refine WE.ret1 rfl rfl fun w' hw => ?_
          have hn : nameB name = true := by simpa using hc1
          have hy := fall_yes fun j y hy => hall j y (by have := (List.getElem?_eq_some_iff.1 hy).1; omega) hy
          exact ⟨by rw [faceE, if_neg h16, hy, hc4, hn]; rfl, hw.fr⟩

end Go.Proofs.Ytagoencpeflmlaa
