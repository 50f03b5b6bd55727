/- Walks of the functions of this claim, and plain laws on what they compute; each theorem tells its own conditions. -/
import Derived.Test.YtagoencpeflmlaaBwF16
namespace Go.Proofs.Ytagoencpeflmlaa
open Go.Bw
set_option linter.unusedVariables false
set_option linter.unusedSimpArgs false

theorem Item.cells_len (x : Item) : x.cells.length = 4 := rfl
theorem rdItem_mono {H H' : View} (h : VLe H H') (b o : Nat) (x : Item) (r : rdItem H b o x) : rdItem H' b o x := RdC.mono h r
def cntN : List UInt8 := [99, 110, 116]
def cntI : List Item := [⟨1, 3, 0, [107]⟩, ⟨2, 0, 0, [115, 117, 109]⟩, ⟨3, 4, 1, [116]⟩, ⟨4, 1, 0, [100, 111, 119, 110]⟩]
def cntT : List UInt8 := faceB cntN cntI
theorem cnt_write : writeR cntN cntI = (cntT, 0) := by decide +kernel
theorem cnt_read : readF cntT = ((cntN, cntI), 0) := write_read (by decide +kernel)
theorem cnt_read2 : (readF (cntT ++ [120])) = (([], []), 1) := by decide +kernel
theorem cnt_len : cntT.length = 86 := by decide +kernel
theorem fl88 : flatSt Try.prog 88 = some [0, 0, 0, 1] := by kernel_rfl

theorem sameFaces_any (H1 H2 : View) (a1 a2 : Option Addr) (c1 c2 : Nat) (n1 n2 : List UInt8) (l1 l2 : List Item) (w : World) (hH1 : Le H1 w) (hH2 : Le H2 w) (hm1 : Sl rdItem 4 H1 a1 c1 l1) (hm2 : Sl rdItem 4 H2 a2 c2 l2) :
    Calls Try.prog 21 #[.agg #[st n1, .slice a1 l1.length c1], .agg #[st n2, .slice a2 l2.length c2]] w fun e w' => e = .returned (.bool (decide (n1 = n2) && decide (l1 = l2))) ∧ Ext w w' := by
  have hcap1 := hm1.cap
  have hmax1 := hm1.max
  have hcap2 := hm2.cap
  have hmax2 := hm2.max
  refine enter Try.func21 rfl 38 rfl rfl ?_
  refine WC.world (W' := Ws w [] [] [H1, H2]) (fun _ e => by subst e; exact Ws.init (by simp [hH1, hH2])) ?_
  refine WC.seq ?_
  refine WC.region ?_
  refine WL.box (.inl rfl) rfl rfl fun b2 => ?_
  refine WL.box (.inl rfl) rfl rfl fun b3 => ?_
  refine WL.val (.inl rfl) rfl (yl_assign rfl) ?_
  refine WL.nil ?_
  refine WE.then_normal ?_
  refine WC.seq ?_
  refine WC.seq ?_
  refine WC.region ?_
  refine WL.val (.inl rfl) rfl (yl_fa fo39_0 rfl) ?_
  refine WL.val (.inl rfl) rfl (yl_ldk 1 rfl rfl rfl na9) ?_
  refine WL.val (.inl rfl) rfl (yl_fa fo39_0 rfl) ?_
  refine WL.val (.inl rfl) rfl (yl_ldk 0 rfl rfl rfl na9) ?_
  refine WL.val (.inl rfl) rfl (yl_nes rfl rfl) ?_
  refine WL.val (.inl rfl) rfl (yl_move rfl) ?_
  apply WL.or 7 rfl rfl rfl rfl (.inl rfl) rfl rfl rfl rfl rfl
  ·
    intro hg0
    refine WL.val (.inr ⟨_, _, _, rfl, rfl, rfl⟩) rfl (yl_fa fo39_1 rfl) ?_
    refine WL.val (.inr ⟨_, _, _, rfl, rfl, rfl⟩) rfl (yl_ldk 1 rfl rfl rfl na37) ?_
    refine WL.val (.inr ⟨_, _, _, rfl, rfl, rfl⟩) rfl (yl_len es37 rfl) ?_
    refine WL.val (.inr ⟨_, _, _, rfl, rfl, rfl⟩) rfl (yl_fa fo39_1 rfl) ?_
    refine WL.val (.inr ⟨_, _, _, rfl, rfl, rfl⟩) rfl (yl_ldk 0 rfl rfl rfl na37) ?_
    refine WL.val (.inr ⟨_, _, _, rfl, rfl, rfl⟩) rfl (yl_len es37 rfl) ?_
    refine WL.val (.inr ⟨_, _, _, rfl, rfl, rfl⟩) rfl (yl_ne rfl rfl) ?_
    exact Got.intro 7 rfl rfl rfl
  refine WL.nil ?_
  refine WE.then_normal ?_
  refine WC.cond rfl (fun hc0 => ?_) (fun hc0 => ?_)
  ·
    have hne : ¬ (n1 = n2 ∧ l1 = l2) := by rintro ⟨e1, e2⟩; subst e1; subst e2; simp at hc0
    refine WC.seq ?_
    refine WC.region ?_
    refine WL.val (.inl rfl) rfl (yl_assign rfl) ?_
    refine WL.nil ?_
    refine WE.then_normal ?_
    refine WC.ret ?_
    refine WE.then_ret ?_
    refine WE.ret1 rfl rfl fun w' hw => ?_
    exact ⟨by rw [show (decide (n1 = n2) && decide (l1 = l2)) = false by simpa using hne], hw.fr⟩
  ·
    have hn12 : n1 = n2 := by simp at hc0; exact hc0.1
    have hlen : l1.length = l2.length := by simp at hc0; omega
    refine WC.skip ?_
    refine WE.then_normal ?_
    refine WC.seq ?_
    refine WC.seq ?_
    refine WC.region ?_
    refine WL.val (.inl rfl) rfl (yl_assign rfl) ?_
    refine WL.nil ?_
    refine WE.then_normal ?_
    refine WC.block ?_
    refine WC.loopW (ι := Nat) (fun i => [(5, .int .i64 (i : Int))]) [(2, _), (3, _)] (fun i => i ≤ l1.length ∧ ∀ j, j < i → l1[j]? = l2[j]?) (fun i => l1.length - i) 0 ⟨Nat.zero_le _, by simp⟩ (sc rfl (sc rfl (sc rfl sn))) ?_
    intro i ⟨hi, hall⟩
    refine WC.seq ?_
    refine WC.seq ?_
    refine WC.region ?_
    refine WL.val (.inl rfl) rfl (yl_move rfl) ?_
    refine WL.val (.inl rfl) rfl (yl_fa fo39_1 rfl) ?_
    refine WL.val (.inl rfl) rfl (yl_ldk 1 rfl rfl rfl na37) ?_
    refine WL.val (.inl rfl) rfl (yl_len es37 rfl) ?_
    refine WL.val (.inl rfl) rfl (yl_lt rfl rfl) ?_
    refine WL.nil ?_
    refine WE.then_normal ?_
    refine WC.cond rfl (fun hc1 => ?_) (fun hc1 => ?_)
    ·
      have hlt : i < l1.length := by simpa using hc1
      obtain ⟨x, hx⟩ : ∃ x, l1[i]? = some x := ⟨_, List.getElem?_eq_getElem hlt⟩
      obtain ⟨y, hy⟩ : ∃ y, l2[i]? = some y := ⟨_, List.getElem?_eq_getElem (by omega)⟩
      obtain ⟨pb, po, ha1, hrow1⟩ := hm1.elt i x hx
      obtain ⟨qb, qo, ha2, hrow2⟩ := hm2.elt i y hy
      have hrow1 : RdC H1 pb (po + i * 4) x.cells := hrow1
      have hrow2 : RdC H2 qb (qo + i * 4) y.cells := hrow2
      refine WC.skip ?_
      refine WE.then_normal ?_
      refine WC.seq ?_
      refine WC.block ?_
      refine WC.seq ?_
      refine WC.draws0 [(0, true), (1, true), (2, true), (3, true), (4, true), (5, true), (6, true), (7, true), (8, true), (9, true), (10, true)] mixed (by kernel_rfl) (fun _ _ _ d _ h => by cases d <;> exact h) ?_
      refine WD.q rfl (.inl rfl) rfl (fun _ h => h) (yl_fa fo39_1 rfl) ?_
      refine WD.q rfl (.inl rfl) rfl (fun _ h => h) (yl_ldk 1 rfl rfl rfl na37) ?_
      refine WD.q rfl (.inl rfl) rfl (fun _ h => h) (yl_move rfl) ?_
      refine WD.q rfl (.inl rfl) rfl (fun _ h => h) (yl_iao es37 rfl rfl ha1 (by omega)) ?_
      refine WD.q rfl (.inl rfl) rfl (fun _ h => h) (yl_lda 0 ag88 rfl rfl rfl (hrow1)) ?_
      refine WD.q rfl (.inl rfl) rfl (fun _ h => h) (yl_fa fo39_1 rfl) ?_
      refine WD.q rfl (.inl rfl) rfl (fun _ h => h) (yl_ldk 0 rfl rfl rfl na37) ?_
      refine WD.q rfl (.inl rfl) rfl (fun _ h => h) (yl_move rfl) ?_
      refine WD.q rfl (.inl rfl) rfl (fun _ h => h) (yl_iao es37 rfl rfl ha2 (by omega)) ?_
      refine WD.q rfl (.inl rfl) rfl (fun _ h => h) (yl_lda 1 ag88 rfl rfl rfl (hrow2)) ?_
      refine WD.q rfl (.inl rfl) rfl (fun _ h => h) (yl_nest fl88 rfl rfl rfl) ?_
      refine WD.nil (fun _ h => h) ?_
      refine WE.then_normal ?_
      refine WC.cond rfl (fun hc2 => ?_) (fun hc2 => ?_)
      ·
        have hne : ¬ (n1 = n2 ∧ l1 = l2) := by rintro ⟨_, e⟩; subst e; rw [hx] at hy; injection hy with hy; subst hy; simp at hc2
        refine WC.seq ?_
        refine WC.region ?_
        refine WL.val (.inl rfl) rfl (yl_assign rfl) ?_
        refine WL.nil ?_
        refine WE.then_normal ?_
        refine WC.ret ?_
        refine WE.block_ret ?_
        refine WE.then_ret ?_
        refine WE.then_ret ?_
        refine WE.block_ret ?_
        refine WE.then_ret ?_
        refine WE.ret1 rfl rfl fun w' hw => ?_
        exact ⟨by rw [show (decide (n1 = n2) && decide (l1 = l2)) = false by simpa using hne], hw.fr⟩
      ·
        have hxy : x = y := by cases x; cases y; simp_all
        refine WC.skip ?_
        refine WE.block_normal ?_
        refine WE.then_normal ?_
        refine WC.region ?_
        refine WL.val (.inl rfl) rfl (yl_move rfl) ?_
        refine WL.val (.inl rfl) rfl (yl_inc rfl rfl rfl (by omega)) ?_
        refine WL.val (.inl rfl) rfl (yl_assign rfl) ?_
        refine WL.nil ?_
        exact WE.again (i + 1) (by omega) ⟨by omega, fun j hj => by rcases Nat.lt_succ_iff_lt_or_eq.1 hj with h | rfl; exact hall j h; rw [hx, hy, hxy]⟩ (sc rfl (sc rfl (sc rfl sn))) (fun _ h => h)
    ·
      have hge : ¬ i < l1.length := by simpa using hc1
      have heq : l1 = l2 := List.ext_getElem? fun j => by
        rcases Nat.lt_or_ge j i with h | h
        · exact hall j h
        · rw [List.getElem?_eq_none (by omega), List.getElem?_eq_none (by omega)]
      refine WC.exit ?_
      refine WE.then_exit ?_
      refine WE.then_exit ?_
      refine WE.block_hit ?_
      refine WE.then_normal ?_
      refine WC.seq ?_
      refine WC.region ?_
      refine WL.val (.inl rfl) rfl (yl_assign rfl) ?_
      refine WL.nil ?_
      refine WE.then_normal ?_
      refine WC.ret ?_
      refine WE.ret1 rfl rfl fun w' hw => ?_
      exact ⟨by simp [heq, hn12], hw.fr⟩

theorem counted_any (w : World) :
    Calls Try.prog 58 #[] w fun e w' => ∃ r : Option Addr × Nat, e = .returned (.agg #[st cntN, .slice r.1 cntI.length r.2]) ∧ Ext w w' ∧ Sl rdItem 4 (nv w w') r.1 r.2 cntI := by
  refine enter Try.func58 rfl 7 rfl rfl ?_
  refine WC.world (W' := Ws w [] [] []) (fun _ e => by subst e; exact Ws.init (by simp)) ?_
  refine WC.seq ?_
  refine WC.region ?_
  refine WL.alloc (.inl rfl) rfl zr39 fun b0 => ?_
  refine WL.nil ?_
  refine WE.then_normal ?_
  refine WC.seq ?_
  refine WC.region ?_
  refine WL.val (.inl rfl) rfl (yl_build zr88 pl88 rfl rfl) ?_
  refine WL.val (.inl rfl) rfl (yl_build zr88 pl88 rfl rfl) ?_
  refine WL.val (.inl rfl) rfl (yl_build zr88 pl88 rfl rfl) ?_
  refine WL.val (.inl rfl) rfl (yl_build zr88 pl88 rfl rfl) ?_
  refine WL.bsliceF (.inl rfl) rfl el37 rfl rfl rfl rfl fun b5 => ?_
  refine WL.val (.inl rfl) rfl (yl_build zr39 pl39 rfl rfl) ?_
  refine WL.store 1 (.inl rfl) rfl rfl rfl sz39 rfl rfl rfl ?_
  refine WL.nil ?_
  refine WE.then_normal ?_
  refine WC.ret ?_
  refine WE.retR (rs_1 rfl (rv_agg 1 rfl rfl ag39 rfl)) fun w' hw => ?_
  exact ⟨(some ⟨b5, 0, none⟩, 4), rfl, hw.fr, ⟨show cntI.length ≤ 4 by decide, show 4 ≤ 9223372036854775807 by decide, by simp, fun j x hj => ⟨b5, 0, rfl, fun k v hk => hw.nvc 0 rfl (by
      have : k < 4 := (List.getElem?_eq_some_iff.1 hk).1
      show (cntI.flatMap Item.cells)[0 + j * 4 + k]? = some v
      rw [Nat.zero_add, flat_get Item.cells_len hj this]; exact hk)⟩⟩⟩

theorem faceReadD_any (s : List UInt8) (w : World) (hs : s.length ≤ 9223372036854775807) : Calls Try.prog 19 #[st s] w fun e w' => ∃ r : Option Addr × Nat, e = .returned (.tuple #[.agg #[st (readF s).1.1, .slice r.1 (readF s).1.2.length r.2], .int .i64 (readF s).2]) ∧ Ext w w' ∧ Sl rdItem 4 (nv w w') r.1 r.2 (readF s).1.2 :=
  (faceRead_any s w hs).mono fun e w' ⟨a, c, he, hw⟩ => ⟨(a, c), he, hw.fr, hw.slT 0 rfl Item.cells_len (fun _ _ _ _ h => h)⟩
theorem faceFromD_any (s : List UInt8) (w : World) (hs : s.length ≤ 9223372036854775807) : Calls Try.prog 22 #[st s] w fun e w' => ∃ r : Option Addr × Nat, e = .returned (.tuple #[.agg #[st (fromF s).1.1, .slice r.1 (fromF s).1.2.length r.2], .bool (fromF s).2]) ∧ Ext w w' ∧ Sl rdItem 4 (nv w w') r.1 r.2 (fromF s).1.2 :=
  (faceFrom_any s w hs).mono fun e w' ⟨a, c, he, hw⟩ => ⟨(a, c), he, hw.fr, hw.slT 0 rfl Item.cells_len (fun _ _ _ _ h => h)⟩


end Go.Proofs.Ytagoencpeflmlaa
