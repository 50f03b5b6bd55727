/- Walks of the functions of this claim, and plain laws on what they compute; each theorem tells its own conditions. -/
import Derived.Test.YtagoencpeflmlaaBwF9
namespace Go.Proofs.Ytagoencpeflmlaa
open Go.Bw
set_option linter.unusedVariables false
set_option linter.unusedSimpArgs false

def writeR (name : List UInt8) (items : List Item) : List UInt8 × Int := if faceE name items = 0 then (faceB name items, 0) else ([], faceE name items)
theorem faceE_ok {name : List UInt8} {items : List Item} (h : faceE name items = 0) : items.length ≤ 16 ∧ name.length ≤ 8 ∧ ∀ x ∈ items, x.name.length ≤ 8 := by
  unfold faceE at h
  split at h
  · cases h
  · rename_i h16
    split at h
    · rename_i hb
      simp only [Bool.and_eq_true, Bool.not_eq_true', Bool.or_eq_false_iff, Bool.not_eq_false'] at hb
      obtain ⟨h1, _, h3⟩ := hb
      refine ⟨by omega, ?_, ?_⟩
      · unfold nameB at h3; simp at h3; omega
      · intro x hx
        have := List.all_eq_true.1 h1 x hx
        unfold itemOk at this
        simp only [Bool.not_eq_true', Bool.or_eq_false_iff, Bool.not_eq_false'] at this
        have hn := this.1.1.1.1.1.1.1
        unfold nameB at hn; simp at hn; omega
    · cases h
theorem ag39 : aggOf Try.prog 39 = some 2 := by kernel_rfl
theorem en44 : Enters Try.prog 44 := enters_of Try.func44 (by kernel_rfl) rfl
theorem pl85 : placesP Try.prog 85 = some [(0, 2)] := by kernel_rfl
theorem zr85 : zeroOf Try.prog 85 = some (.agg #[.pointer none, .slice none 0 0]) := by kernel_rfl
theorem en45 : Enters Try.prog 45 := enters_of Try.func45 (by kernel_rfl) rfl
theorem el50 : EltOk Try.prog 50 3 (.int .i64 0) 1 8 := eltOk_of (by kernel_rfl)
theorem en47 : Enters Try.prog 47 := enters_of Try.func47 (by kernel_rfl) rfl
theorem en48 : Enters Try.prog 48 := enters_of Try.func48 (by kernel_rfl) rfl

theorem faceWrite_any (H : View) (a : Option Addr) (c : Nat) (name : List UInt8) (items : List Item) (w : World) (hH : Le H w) (hm : Sl rdItem 4 H a c items) :
    Calls Try.prog 16 #[.agg #[st name, .slice a items.length c]] w fun e w' => e = .returned (.tuple #[st (writeR name items).1, .int .i64 (writeR name items).2]) ∧ Ext w w' := by
  have hcap := hm.cap
  have hmax := hm.max
  refine enter Try.func16 rfl 51 rfl rfl ?_
  refine WC.world (W' := Ws w [] [] [H]) (fun _ e => by subst e; exact Ws.init (by simp [hH])) ?_
  refine WC.seq ?_
  refine WC.region ?_
  refine WL.box (.inl rfl) rfl rfl fun b1 => ?_
  refine WL.val (.inl rfl) rfl (yl_assign rfl) ?_
  refine WL.val (.inl rfl) rfl (yl_assign rfl) ?_
  refine WL.nil ?_
  refine WE.then_normal ?_
  refine WC.seq ?_
  refine WC.seq ?_
  refine WC.region ?_
  refine WL.val (.inl rfl) rfl (yl_ldka 0 rfl rfl ag39 rfl) ?_
  refine WL.callp (.inl rfl) rfl en44 rfl (fun w hw => scopeCheck_any H a c name items _ (hw.vs _ (by simp)) hm) ?_
  refine WL.val (.inl rfl) rfl (yl_assign rfl) ?_
  refine WL.nil ?_
  refine WE.then_normal ?_
  refine WC.seq ?_
  refine WC.region ?_
  refine WL.val (.inl rfl) rfl (yl_move rfl) ?_
  refine WL.val (.inl rfl) rfl (yl_ne rfl rfl) ?_
  refine WL.nil ?_
  refine WE.then_normal ?_
  refine WC.cond rfl (fun hc0 => ?_) (fun hc0 => ?_)
  ·
    have hz : ¬ faceE name items = 0 := by simpa using hc0
    refine WC.seq ?_
    refine WC.region ?_
    refine WL.val (.inl rfl) rfl (yl_move rfl) ?_
    refine WL.val (.inl rfl) rfl (yl_assign rfl) ?_
    refine WL.val (.inl rfl) rfl (yl_assign rfl) ?_
    refine WL.nil ?_
    refine WE.then_normal ?_
    refine WC.ret ?_
    refine WE.then_ret ?_
    refine WE.ret2 rfl rfl rfl fun w' hw => ?_
    exact ⟨by rw [writeR, if_neg hz]; rfl, hw.fr⟩
  ·
    have hz : faceE name items = 0 := by simpa using hc0
    obtain ⟨h16, hn8, hx8⟩ := faceE_ok hz
    refine WC.skip ?_
    refine WE.then_normal ?_
    refine WC.seq ?_
    refine WC.region ?_
    refine WL.val (.inl rfl) rfl (yl_build zr85 pl85 rfl rfl) ?_
    refine WL.box (.inl rfl) rfl rfl fun b14 => ?_
    refine WL.world (fun _ h => h.osl_nil 5 1) ?_
    refine WL.val (.inl rfl) rfl (yl_assign rfl) ?_
    refine WL.nil ?_
    refine WE.then_normal ?_
    refine WC.seq ?_
    refine WC.region ?_
    refine WL.val (.inl rfl) rfl (yl_move rfl) ?_
    refine WL.val (.inl rfl) rfl (yl_fa fo39_0 rfl) ?_
    refine WL.val (.inl rfl) rfl (yl_ldk 2 rfl rfl rfl na9) ?_
    refine WL.front 0 rfl ?_
    refine WL.front 1 rfl ?_
    refine WL.callw (ι := Value) [_, _] _ (.inl rfl) rfl en45 rfl rfl (fun _ => .tuple #[]) (fun v' => [blk b14 (.cells #[.pointer (some ⟨b14, 0, none⟩), v'] 85 (0, 0)), osl 5 1 v' (textB name).length ((textB name).map byv)]) (fun _ => True) [] (by simp) (fun w hw => penText_any b14 none (.slice none 0 0) [] name w (.inl rfl) (by simp only [List.length_append, textB_len, List.length_singleton, List.length_cons, List.length_nil]; omega) hw) ?_
    intro v18 _
    refine WL.nil ?_
    refine WE.then_normal ?_
    refine WC.seq ?_
    refine WC.region ?_
    refine WL.val (.inl rfl) rfl (yl_move rfl) ?_
    refine WL.val (.inl rfl) rfl (yl_fa fo39_1 rfl) ?_
    refine WL.val (.inl rfl) rfl (yl_ldk 2 rfl rfl rfl na37) ?_
    refine WL.val (.inl rfl) rfl (yl_len es37 rfl) ?_
    refine WL.front 1 rfl ?_
    refine WL.front 1 rfl ?_
    refine WL.callw (ι := Value) [_, _] _ (.inl rfl) rfl en46 rfl rfl (fun _ => .tuple #[]) (fun v' => [blk b14 (.cells #[.pointer (some ⟨b14, 0, none⟩), v'] 85 (0, 0)), osl 5 1 v' (textB name ++ [byteOf items.length]).length ((textB name ++ [byteOf items.length]).map byv)]) (fun _ => True) [] (by simp) (fun w hw => penByte_any b14 (some ⟨b14, 0, none⟩) v18 (textB name) items.length w (.inr rfl) (by simp only [List.length_append, textB_len, List.length_singleton, List.length_cons, List.length_nil]; omega) hw) ?_
    intro v23 _
    refine WL.nil ?_
    refine WE.then_normal ?_
    refine WC.seq ?_
    refine WC.seq ?_
    refine WC.region ?_
    refine WL.val (.inl rfl) rfl (yl_fa fo39_1 rfl) ?_
    refine WL.val (.inl rfl) rfl (yl_ldk 2 rfl rfl rfl na37) ?_
    refine WL.val (.inl rfl) rfl (yl_len es37 rfl) ?_
    refine WL.val (.inl rfl) rfl (yl_move rfl) ?_
    refine WL.nil ?_
    refine WE.then_normal ?_
    refine WC.block ?_
    refine WC.loopK (ι := Nat × Option Addr × Value) (fun g => [(27, .int .i64 (g.1 : Int))]) [(2, _), (3, _), (5, _), (25, _), (26, _)] (fun g => Ws w [] ([blk b14 (.cells #[.pointer (g.2.1), g.2.2] 85 (0, 0)), osl 5 1 g.2.2 (textB name ++ [byteOf items.length] ++ (items.take g.1).flatMap itemB).length ((textB name ++ [byteOf items.length] ++ (items.take g.1).flatMap itemB).map byv)] ++ [blk b1 (.cells (Value.agg #[st name, .slice a items.length c]).cells 39 (0, 0))]) [H]) (fun g => g.1 ≤ items.length ∧ (g.2.1 = none ∨ g.2.1 = some ⟨b14, 0, none⟩)) (fun g => items.length - g.1) (0, some ⟨b14, 0, none⟩, v23) ⟨Nat.zero_le _, .inr rfl⟩ (sc rfl (sc rfl (sc rfl (sc rfl (sc rfl (sc rfl sn)))))) (fun _ h => by simp only [List.take_zero, List.flatMap_nil, List.append_nil]; exact h) ?_
    intro g ⟨hi, hp⟩
    refine WC.seq ?_
    refine WC.region ?_
    refine WL.val (.inl rfl) rfl (yl_lt rfl rfl) ?_
    refine WL.nil ?_
    refine WE.then_normal ?_
    refine WC.seq ?_
    refine WC.cond rfl (fun hc1 => ?_) (fun hc1 => ?_)
    ·
      have hlt : g.1 < items.length := by simpa using hc1
      obtain ⟨x, hx⟩ : ∃ x, items[g.1]? = some x := ⟨_, List.getElem?_eq_getElem hlt⟩
      obtain ⟨pb, po, ha, hrow⟩ := hm.elt g.1 x hx
      have hrow : RdC H pb (po + g.1 * 4) x.cells := hrow
      have hxn := hx8 x (List.mem_of_getElem? hx)
      have hts := take_small hx8 g.1
      refine WC.skip ?_
      refine WE.then_normal ?_
      refine WC.seq ?_
      refine WC.block ?_
      refine WC.seq ?_
      refine WC.region ?_
      refine WL.val (.inl rfl) rfl (yl_iao es37 rfl rfl ha (by omega)) ?_
      refine WL.val (.inl rfl) rfl (yl_lda 0 ag88 rfl rfl rfl (hrow)) ?_
      refine WL.alloc (.inl rfl) rfl zr88 fun b7 => ?_
      refine WL.store 0 (.inl rfl) rfl rfl rfl sz88 rfl rfl rfl ?_
      refine WL.nil ?_
      refine WE.then_normal ?_
      refine WC.seq ?_
      refine WC.region ?_
      refine WL.val (.inl rfl) rfl (yl_move rfl) ?_
      refine WL.val (.inl rfl) rfl (yl_fa fo88_0 rfl) ?_
      refine WL.val (.inl rfl) rfl (yl_ldk 0 rfl rfl rfl na3) ?_
      refine WL.front 2 rfl ?_
      refine WL.front 2 rfl ?_
      refine WL.callw (ι := Value) [_, _] _ (.inl rfl) rfl en46 rfl rfl (fun _ => .tuple #[]) (fun v' => [blk b14 (.cells #[.pointer (some ⟨b14, 0, none⟩), v'] 85 (0, 0)), osl 5 1 v' (textB name ++ [byteOf items.length] ++ (items.take g.1).flatMap itemB ++ [byteOf x.kind]).length ((textB name ++ [byteOf items.length] ++ (items.take g.1).flatMap itemB ++ [byteOf x.kind]).map byv)]) (fun _ => True) [] (by simp) (fun w hw => penByte_any b14 g.2.1 g.2.2 (textB name ++ [byteOf items.length] ++ (items.take g.1).flatMap itemB) x.kind w hp (by simp only [List.length_append, textB_len, List.length_singleton, List.length_cons, List.length_nil]; omega) hw) ?_
      intro v34 _
      refine WL.nil ?_
      refine WE.then_normal ?_
      refine WC.seq ?_
      refine WC.region ?_
      refine WL.val (.inl rfl) rfl (yl_move rfl) ?_
      refine WL.val (.inl rfl) rfl (yl_fa fo88_3 rfl) ?_
      refine WL.val (.inl rfl) rfl (yl_ldk 2 rfl rfl rfl na9) ?_
      refine WL.front 1 rfl ?_
      refine WL.front 1 rfl ?_
      refine WL.callw (ι := Value) [_, _] _ (.inl rfl) rfl en45 rfl rfl (fun _ => .tuple #[]) (fun v' => [blk b14 (.cells #[.pointer (some ⟨b14, 0, none⟩), v'] 85 (0, 0)), osl 5 1 v' (textB name ++ [byteOf items.length] ++ (items.take g.1).flatMap itemB ++ [byteOf x.kind] ++ textB x.name).length ((textB name ++ [byteOf items.length] ++ (items.take g.1).flatMap itemB ++ [byteOf x.kind] ++ textB x.name).map byv)]) (fun _ => True) [] (by simp) (fun w hw => penText_any b14 (some ⟨b14, 0, none⟩) v34 (textB name ++ [byteOf items.length] ++ (items.take g.1).flatMap itemB ++ [byteOf x.kind]) x.name w (.inr rfl) (by simp only [List.length_append, textB_len, List.length_singleton, List.length_cons, List.length_nil]; omega) hw) ?_
      intro v38 _
      refine WL.nil ?_
      refine WE.then_normal ?_
      refine WC.region ?_
      refine WL.val (.inl rfl) rfl (yl_move rfl) ?_
      refine WL.val (.inl rfl) rfl (yl_fa fo88_1 rfl) ?_
      refine WL.val (.inl rfl) rfl (yl_ldk 2 rfl rfl rfl na3) ?_
      refine WL.val (.inl rfl) rfl (yl_fa fo88_2 rfl) ?_
      refine WL.val (.inl rfl) rfl (yl_ldk 2 rfl rfl rfl na3) ?_
      refine WL.bsliceF (.inl rfl) rfl el50 rfl rfl rfl rfl fun b44 => ?_
      refine WL.blkview 0 rfl ?_
      refine WL.front 1 rfl ?_
      refine WL.front 1 rfl ?_
      refine WL.callw (ι := Option Addr × Value) [_, _] _ (.inl rfl) rfl en47 rfl rfl (fun _ => .tuple #[]) (fun r => [blk b14 (.cells #[.pointer (r.1), r.2] 85 (0, 0)), osl 5 1 r.2 (textB name ++ [byteOf items.length] ++ (items.take g.1).flatMap itemB ++ [byteOf x.kind] ++ textB x.name ++ [x.n, x.pl].flatMap num8).length ((textB name ++ [byteOf items.length] ++ (items.take g.1).flatMap itemB ++ [byteOf x.kind] ++ textB x.name ++ [x.n, x.pl].flatMap num8).map byv)]) (fun r => r.1 = none ∨ r.1 = some ⟨b14, 0, none⟩) [bv b44 (.cells (fullV [(0, .int .i64 x.n), (1, .int .i64 x.pl)]).toArray 3 (0, 0))] (by simp) (fun w hw => penNums_any (bv b44 (.cells (fullV [(0, .int .i64 x.n), (1, .int .i64 x.pl)]).toArray 3 (0, 0))) (some ⟨b44, 0, none⟩) 2 [x.n, x.pl] b14 (some ⟨b14, 0, none⟩) v38 (textB name ++ [byteOf items.length] ++ (items.take g.1).flatMap itemB ++ [byteOf x.kind] ++ textB x.name) w ⟨by simp, by decide, by simp, fun i y hy => ⟨b44, 0, rfl, bv_vc (by match i, hy with | 0, hy => cases hy; rfl | 1, hy => cases hy; rfl)⟩⟩ (.inr rfl) (by simp only [List.length_append, textB_len, List.length_singleton, List.length_cons, List.length_nil]; omega) hw) ?_
      intro r45 hr45
      refine WL.nil ?_
      refine WE.block_normal ?_
      refine WE.then_normal ?_
      refine WC.region ?_
      refine WL.val (.inl rfl) rfl (yl_inc rfl rfl rfl (by omega)) ?_
      refine WL.val (.inl rfl) rfl (yl_move rfl) ?_
      refine WL.nil ?_
      exact WE.again ((g.1 + 1, r45.1, r45.2) : Nat × Option Addr × Value) (by first | omega | (dsimp only; omega)) ⟨by first | omega | (dsimp only; omega), hr45⟩ (sc rfl (sc rfl (sc rfl (sc rfl (sc rfl (sc rfl sn)))))) (fun _ h => by
        have h := Ws.out 2 h
        have h := Ws.drops h (Vs' := [H]) (by simp)
        have e : textB name ++ [byteOf items.length] ++ (items.take g.1).flatMap itemB ++ [byteOf x.kind] ++ textB x.name ++ [x.n, x.pl].flatMap num8 = textB name ++ [byteOf items.length] ++ (items.take (g.1 + 1)).flatMap itemB := by rw [take_flat hx]; simp [itemB]
        rw [e] at h
        exact h)
    ·
      have hie : g.1 = items.length := by simp at hc1; omega
      refine WC.exit ?_
      refine WE.then_exit ?_
      refine WE.then_exit ?_
      refine WE.block_hit ?_
      refine WE.then_normal ?_
      refine WC.seq ?_
      refine WC.region ?_
      refine WL.val (.inl rfl) rfl (yl_move rfl) ?_
      refine WL.val (.inl rfl) rfl (yl_nil rfl) ?_
      refine WL.val (.inl rfl) rfl (yl_fa fo85_0 rfl) ?_
      refine WL.front 1 rfl ?_
      refine WL.front 1 rfl ?_
      refine WL.callw (ι := Unit) [_, _] _ (.inl rfl) rfl en48 rfl rfl (fun _ => st (textB name ++ [byteOf items.length] ++ (items.take g.1).flatMap itemB)) (fun _ => []) (fun _ => True) [] (by simp) (fun w hw => by
          have := builderString_any b14 g.2.1 g.2.2 (textB name ++ [byteOf items.length] ++ (items.take g.1).flatMap itemB) (by simp) w hp (by simp only [List.length_append, textB_len, List.length_singleton]; have hts := take_small hx8 g.1; omega) hw
          exact this.mono fun e w' h => ⟨(), h.1, trivial, h.2⟩) ?_
      intro _ _
      refine WL.val (.inl rfl) rfl (yl_assign rfl) ?_
      refine WL.val (.inl rfl) rfl (yl_assign rfl) ?_
      refine WL.nil ?_
      refine WE.then_normal ?_
      refine WC.ret ?_
      refine WE.ret2 rfl rfl rfl fun w' hw => ?_
      exact ⟨by rw [writeR, if_pos hz, hie, List.take_length]; rfl, hw.fr⟩

end Go.Proofs.Ytagoencpeflmlaa
