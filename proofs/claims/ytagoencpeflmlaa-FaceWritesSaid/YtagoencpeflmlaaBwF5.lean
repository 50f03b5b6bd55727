/- Walks of the functions of this claim, and plain laws on what they compute; each theorem tells its own conditions. -/
import Derived.Test.YtagoencpeflmlaaBwF4
namespace Go.Proofs.Ytagoencpeflmlaa
open Go.Bw
set_option linter.unusedVariables false
set_option linter.unusedSimpArgs false

theorem textB_len (s : List UInt8) : (textB s).length = s.length + 1 := rfl
theorem itemB_len (x : Item) : (itemB x).length = x.name.length + 18 := by simp only [itemB, List.length_append, textB_len, num8_len, List.length_singleton]; omega
theorem items_len : ∀ (l : List Item), (∀ x ∈ l, x.name.length ≤ 8) → (l.flatMap itemB).length ≤ l.length * 26
  | [], _ => by simp
  | x :: r, h => by
    have h1 := h x (by simp)
    have h2 := items_len r fun y hy => h y (by simp [hy])
    simp only [List.flatMap_cons, List.length_append, itemB_len, List.length_cons]; omega
theorem take_flat {α β : Type} {f : α → List β} {l : List α} {i : Nat} {x : α} (h : l[i]? = some x) : (l.take (i + 1)).flatMap f = (l.take i).flatMap f ++ f x := by
  rw [List.take_add_one, h]; simp
theorem take_small {l : List Item} (h : ∀ x ∈ l, x.name.length ≤ 8) (i : Nat) : ((l.take i).flatMap itemB).length ≤ l.length * 26 := by
  have h1 := items_len (l.take i) fun x hx => h x (List.mem_of_mem_take hx)
  have h2 : (l.take i).length ≤ l.length := by simp; omega
  omega
theorem fo39_0 : fieldOff Try.prog 39 0 = some 0 := by kernel_rfl
theorem na9 : nonAgg Try.prog 9 = true := by kernel_rfl
theorem fo39_1 : fieldOff Try.prog 39 1 = some 1 := by kernel_rfl
theorem na37 : nonAgg Try.prog 37 = true := by kernel_rfl
theorem es37 : elemSz Try.prog 37 = some 4 := by kernel_rfl
theorem en51 : Enters Try.prog 51 := enters_of Try.func51 (by kernel_rfl) rfl
theorem ag88 : aggOf Try.prog 88 = some 4 := by kernel_rfl
theorem zr88 : zeroOf Try.prog 88 = some (.agg #[.int .i64 0, .int .i64 0, .int .i64 0, st []]) := by kernel_rfl
theorem sz88 : sizeP Try.prog 88 = some 4 := by kernel_rfl
theorem fo88_0 : fieldOff Try.prog 88 0 = some 0 := by kernel_rfl
theorem fo88_3 : fieldOff Try.prog 88 3 = some 3 := by kernel_rfl
theorem fo88_1 : fieldOff Try.prog 88 1 = some 1 := by kernel_rfl
theorem fo88_2 : fieldOff Try.prog 88 2 = some 2 := by kernel_rfl
theorem en52 : Enters Try.prog 52 := enters_of Try.func52 (by kernel_rfl) rfl

theorem faceBytes_any (H : View) (a : Option Addr) (c : Nat) (name : List UInt8) (items : List Item) (w : World) (hH : Le H w) (hm : Sl rdItem 4 H a c items) (hn : name.length ≤ 8) (hi16 : items.length ≤ 16) (hns : ∀ x ∈ items, x.name.length ≤ 8) :
    Calls Try.prog 18 #[.agg #[st name, .slice a items.length c]] w fun e w' => e = .returned (st (faceB name items)) ∧ Ext w w' := by
  have hcap := hm.cap
  have hmax := hm.max
  refine enter Try.func18 rfl 48 rfl rfl ?_
  refine WC.world (W' := Ws w [] [] [H]) (fun _ e => by subst e; exact Ws.init (by simp [hH])) ?_
  refine WC.seq ?_
  refine WC.region ?_
  refine WL.box (.inl rfl) rfl rfl fun b1 => ?_
  refine WL.val (.inl rfl) rfl (yl_assign rfl) ?_
  refine WL.nil ?_
  refine WE.then_normal ?_
  refine WC.seq ?_
  refine WC.drawt0 (.q 0 (.q 1 (.q 3 (.q 4 (.q 5 (.q 6 (.e 2 (.e 7 (.e 8 (.q 9 (.q 10 .nil)) .stop) .stop) (.e 7 (.e 2 (.e 8 (.q 9 (.q 10 .nil)) .stop) (.e 8 (.e 2 (.q 9 (.q 10 .nil)) .stop) .stop)) .stop)))))))) mixed (by kernel_rfl) (fun _ _ _ d _ h => by cases d <;> exact h) ?_
  refine WT.q rfl (.inl rfl) rfl (fun _ h => h) (yl_fa fo39_0 rfl) ?_
  refine WT.q rfl (.inl rfl) rfl (fun _ h => h) (yl_ldk 0 rfl rfl rfl na9) ?_
  refine WT.q rfl (.inl rfl) rfl (fun _ h => h) (yl_fa fo39_1 rfl) ?_
  refine WT.q rfl (.inl rfl) rfl (fun _ h => h) (yl_ldk 0 rfl rfl rfl na37) ?_
  refine WT.q rfl (.inl rfl) rfl (fun _ h => h) (yl_len es37 rfl) ?_
  refine WT.q rfl (.inl rfl) rfl (fun _ h => h) (yl_cvi ui3 ui5 rfl) ?_
  refine WT.e rfl (fun _ h => h) ?_ ?_
  ·
    refine WL.callp (.inl rfl) rfl en51 rfl (fun w hw => textBytes_any _ w (by omega)) ?_
    refine WL.nil ?_
    refine WE.toT ?_
    refine WT.e rfl (fun _ h => h) ?_ WT.stop
    refine WL.bsliceF (.inl rfl) rfl el81 rfl rfl rfl rfl fun b13 => ?_
    refine WL.reblk 0 (.cells ([byteOf items.length].map byv).toArray 5 (0, 0)) rfl (one_cell _ 5) ?_
    refine WL.nil ?_
    refine WE.toT ?_
    refine WT.e rfl (fun _ h => by have h := Ws.drop (L := [_]) (L' := _) h; exact h) ?_ WT.stop
    refine WL.val (.inl rfl) rfl (yl_b2s 0 usl81 ui5 us9 rfl rfl rfl) ?_
    refine WL.nil ?_
    refine WE.toT ?_
    refine WT.q rfl (.inl rfl) rfl (fun _ h => by have h := Ws.drop (L := [_]) (L' := _) h; exact h) (yl_cats rfl rfl (by simp [textB_len]; omega)) ?_
    refine WT.q rfl (.inl rfl) rfl (fun _ h => by have h := Ws.drop (L := [_]) (L' := _) h; exact h) (yl_assign rfl) ?_
    refine WT.nil (fun _ h => by have h := Ws.drop (L := [_]) (L' := _) h; exact h) ?_
    refine WE.then_normal ?_
    refine WC.seq ?_
    refine WC.seq ?_
    refine WC.region ?_
    refine WL.val (.inl rfl) rfl (yl_assign rfl) ?_
    refine WL.nil ?_
    refine WE.then_normal ?_
    refine WC.block ?_
    rw [show st (textB name ++ [byteOf items.length]) = st (textB name ++ [byteOf items.length] ++ (items.take 0).flatMap itemB) by simp]
    refine WC.loopW (ι := Nat) (fun i => [(4, .int .i64 (i : Int)), (3, st (textB name ++ [byteOf items.length] ++ (items.take i).flatMap itemB))]) [(1, _), (2, _)] (fun i => i ≤ items.length) (fun i => items.length - i) 0 (Nat.zero_le _) (sc rfl (sc rfl (sc rfl (sc rfl sn)))) ?_
    intro i hi
    refine WC.seq ?_
    refine WC.seq ?_
    refine WC.region ?_
    refine WL.val (.inl rfl) rfl (yl_move rfl) ?_
    refine WL.val (.inl rfl) rfl (yl_fa fo39_1 rfl) ?_
    refine WL.val (.inl rfl) rfl (yl_ldk 1 rfl rfl rfl na37) ?_
    refine WL.val (.inl rfl) rfl (yl_len es37 rfl) ?_
    refine WL.val (.inl rfl) rfl (yl_lt rfl rfl) ?_
    refine WL.nil ?_
    refine WE.then_normal ?_
    refine WC.cond rfl (fun hc0 => ?_) (fun hc0 => ?_)
    ·
      have hlt : i < items.length := by simpa using hc0
      obtain ⟨x, hx⟩ : ∃ x, items[i]? = some x := ⟨_, List.getElem?_eq_getElem hlt⟩
      obtain ⟨pb, po, ha, hrow⟩ := hm.elt i x hx
      have hrow : RdC H pb (po + i * 4) x.cells := hrow
      have hxn := hns x (List.mem_of_getElem? hx)
      have hts := take_small hns i
      refine WC.skip ?_
      refine WE.then_normal ?_
      refine WC.seq ?_
      refine WC.block ?_
      refine WC.seq ?_
      refine WC.region ?_
      refine WL.val (.inl rfl) rfl (yl_fa fo39_1 rfl) ?_
      refine WL.val (.inl rfl) rfl (yl_ldk 1 rfl rfl rfl na37) ?_
      refine WL.val (.inl rfl) rfl (yl_move rfl) ?_
      refine WL.val (.inl rfl) rfl (yl_iao es37 rfl rfl ha (by omega)) ?_
      refine WL.val (.inl rfl) rfl (yl_lda 0 ag88 rfl rfl rfl (hrow)) ?_
      refine WL.alloc (.inl rfl) rfl zr88 fun b5 => ?_
      refine WL.store 0 (.inl rfl) rfl rfl rfl sz88 rfl rfl rfl ?_
      refine WL.nil ?_
      refine WE.then_normal ?_
      refine WC.drawt0 (.q 0 (.q 1 (.q 2 (.q 3 (.q 7 (.q 8 (.q 11 (.q 12 (.q 15 (.q 16 (.e 4 (.e 5 (.q 6 (.e 9 (.q 10 (.e 13 (.q 14 (.e 17 (.q 18 (.q 19 .nil)) .stop)) .stop)) .stop)) (.e 9 (.e 5 (.q 6 (.q 10 (.e 13 (.q 14 (.e 17 (.q 18 (.q 19 .nil)) .stop)) .stop))) (.e 13 (.e 5 (.q 6 (.q 10 (.q 14 (.e 17 (.q 18 (.q 19 .nil)) .stop)))) (.e 17 (.e 5 (.q 6 (.q 10 (.q 14 (.q 18 (.q 19 .nil))))) .stop) .stop)) .stop)) .stop)) (.e 9 (.e 4 (.e 5 (.q 6 (.q 10 (.e 13 (.q 14 (.e 17 (.q 18 (.q 19 .nil)) .stop)) .stop))) (.e 13 (.e 5 (.q 6 (.q 10 (.q 14 (.e 17 (.q 18 (.q 19 .nil)) .stop)))) (.e 17 (.e 5 (.q 6 (.q 10 (.q 14 (.q 18 (.q 19 .nil))))) .stop) .stop)) .stop)) (.e 13 (.e 4 (.e 5 (.q 6 (.q 10 (.q 14 (.e 17 (.q 18 (.q 19 .nil)) .stop)))) (.e 17 (.e 5 (.q 6 (.q 10 (.q 14 (.q 18 (.q 19 .nil))))) .stop) .stop)) (.e 17 (.e 4 (.e 5 (.q 6 (.q 10 (.q 14 (.q 18 (.q 19 .nil))))) .stop) .stop) .stop)) .stop)) .stop)))))))))))) mixed (by kernel_rfl) (fun _ _ _ d _ h => by cases d <;> exact h) ?_
      refine WT.q rfl (.inl rfl) rfl (fun _ h => h) (yl_move rfl) ?_
      refine WT.q rfl (.inl rfl) rfl (fun _ h => h) (yl_fa fo88_0 rfl) ?_
      refine WT.q rfl (.inl rfl) rfl (fun _ h => h) (yl_ldk 0 rfl rfl rfl na3) ?_
      refine WT.q rfl (.inl rfl) rfl (fun _ h => h) (yl_cvi ui3 ui5 rfl) ?_
      refine WT.q rfl (.inl rfl) rfl (fun _ h => h) (yl_fa fo88_3 rfl) ?_
      refine WT.q rfl (.inl rfl) rfl (fun _ h => h) (yl_ldk 0 rfl rfl rfl na9) ?_
      refine WT.q rfl (.inl rfl) rfl (fun _ h => h) (yl_fa fo88_1 rfl) ?_
      refine WT.q rfl (.inl rfl) rfl (fun _ h => h) (yl_ldk 0 rfl rfl rfl na3) ?_
      refine WT.q rfl (.inl rfl) rfl (fun _ h => h) (yl_fa fo88_2 rfl) ?_
      refine WT.q rfl (.inl rfl) rfl (fun _ h => h) (yl_ldk 0 rfl rfl rfl na3) ?_
      refine WT.e rfl (fun _ h => h) ?_ ?_
      ·
        refine WL.bsliceF (.inl rfl) rfl el81 rfl rfl rfl rfl fun b32 => ?_
        refine WL.reblk 0 (.cells ([byteOf x.kind].map byv).toArray 5 (0, 0)) rfl (one_cell _ 5) ?_
        refine WL.nil ?_
        refine WE.toT ?_
        refine WT.e rfl (fun _ h => by have h := Ws.drop (L := [_]) (L' := _) h; exact h) ?_ ?_
        ·
          refine WL.val (.inl rfl) rfl (yl_b2s 0 usl81 ui5 us9 rfl rfl rfl) ?_
          refine WL.nil ?_
          refine WE.toT ?_
          refine WT.q rfl (.inl rfl) rfl (fun _ h => by have h := Ws.drop (L := [_]) (L' := _) h; exact h) (yl_cats rfl rfl (by simp only [List.length_append, textB_len, List.length_singleton]; omega)) ?_
          refine WT.e rfl (fun _ h => by have h := Ws.drop (L := [_]) (L' := _) h; exact h) ?_ WT.stop
          refine WL.callp (.inl rfl) rfl en51 rfl (fun w hw => textBytes_any _ w (by omega)) ?_
          refine WL.nil ?_
          refine WE.toT ?_
          refine WT.q rfl (.inl rfl) rfl (fun _ h => by have h := Ws.drop (L := [_]) (L' := _) h; exact h) (yl_cats rfl rfl (by simp only [List.length_append, textB_len, List.length_singleton]; omega)) ?_
          refine WT.e rfl (fun _ h => by have h := Ws.drop (L := [_]) (L' := _) h; exact h) ?_ WT.stop
          refine WL.callp (.inl rfl) rfl en52 rfl (fun w hw => numBytes_any _ w) ?_
          refine WL.nil ?_
          refine WE.toT ?_
          refine WT.q rfl (.inl rfl) rfl (fun _ h => by have h := Ws.drop (L := [_]) (L' := _) h; exact h) (yl_cats rfl rfl (by simp only [List.length_append, textB_len, num8_len, List.length_singleton]; omega)) ?_
          refine WT.e rfl (fun _ h => by have h := Ws.drop (L := [_]) (L' := _) h; exact h) ?_ WT.stop
          refine WL.callp (.inl rfl) rfl en52 rfl (fun w hw => numBytes_any _ w) ?_
          refine WL.nil ?_
          refine WE.toT ?_
          refine WT.q rfl (.inl rfl) rfl (fun _ h => by have h := Ws.drop (L := [_]) (L' := _) h; exact h) (yl_cats rfl rfl (by simp only [List.length_append, textB_len, num8_len, List.length_singleton]; omega)) ?_
          refine WT.q rfl (.inl rfl) rfl (fun _ h => by have h := Ws.drop (L := [_]) (L' := _) h; exact h) (yl_assign rfl) ?_
          refine WT.nil (fun _ h => by have h := Ws.drop (L := [_]) (L' := _) h; exact h) ?_
          refine WE.block_normal ?_
          refine WE.then_normal ?_
          refine WC.region ?_
          refine WL.val (.inl rfl) rfl (yl_move rfl) ?_
          refine WL.val (.inl rfl) rfl (yl_inc rfl rfl rfl (by omega)) ?_
          refine WL.val (.inl rfl) rfl (yl_assign rfl) ?_
          refine WL.nil ?_
          rw [show st (textB name ++ [byteOf items.length] ++ (items.take i).flatMap itemB ++ [byteOf x.kind] ++ textB x.name ++ num8 x.n ++ num8 x.pl) = st (textB name ++ [byteOf items.length] ++ (items.take (i + 1)).flatMap itemB) by rw [take_flat hx]; simp [itemB]]
          exact WE.again (i + 1) (by omega) (by omega) (sc rfl (sc rfl (sc rfl (sc rfl sn)))) (fun _ h => Ws.drop (L := [_, _]) h)
        refine WT.e rfl (fun _ h => by have h := Ws.drop (L := [_]) (L' := _) h; exact h) ?_ WT.stop
        refine WL.callp (.inl rfl) rfl en51 rfl (fun w hw => textBytes_any _ w (by omega)) ?_
        refine WL.nil ?_
        refine WE.toT ?_
        refine WT.e rfl (fun _ h => by have h := Ws.drop (L := [_]) (L' := _) h; exact h) ?_ ?_
        ·
          refine WL.val (.inl rfl) rfl (yl_b2s 0 usl81 ui5 us9 rfl rfl rfl) ?_
          refine WL.nil ?_
          refine WE.toT ?_
          refine WT.q rfl (.inl rfl) rfl (fun _ h => by have h := Ws.drop (L := [_]) (L' := _) h; exact h) (yl_cats rfl rfl (by simp only [List.length_append, textB_len, List.length_singleton]; omega)) ?_
          refine WT.q rfl (.inl rfl) rfl (fun _ h => by have h := Ws.drop (L := [_]) (L' := _) h; exact h) (yl_cats rfl rfl (by simp only [List.length_append, textB_len, List.length_singleton]; omega)) ?_
          refine WT.e rfl (fun _ h => by have h := Ws.drop (L := [_]) (L' := _) h; exact h) ?_ WT.stop
          refine WL.callp (.inl rfl) rfl en52 rfl (fun w hw => numBytes_any _ w) ?_
          refine WL.nil ?_
          refine WE.toT ?_
          refine WT.q rfl (.inl rfl) rfl (fun _ h => by have h := Ws.drop (L := [_]) (L' := _) h; exact h) (yl_cats rfl rfl (by simp only [List.length_append, textB_len, num8_len, List.length_singleton]; omega)) ?_
          refine WT.e rfl (fun _ h => by have h := Ws.drop (L := [_]) (L' := _) h; exact h) ?_ WT.stop
          refine WL.callp (.inl rfl) rfl en52 rfl (fun w hw => numBytes_any _ w) ?_
          refine WL.nil ?_
          refine WE.toT ?_
          refine WT.q rfl (.inl rfl) rfl (fun _ h => by have h := Ws.drop (L := [_]) (L' := _) h; exact h) (yl_cats rfl rfl (by simp only [List.length_append, textB_len, num8_len, List.length_singleton]; omega)) ?_
          refine WT.q rfl (.inl rfl) rfl (fun _ h => by have h := Ws.drop (L := [_]) (L' := _) h; exact h) (yl_assign rfl) ?_
          refine WT.nil (fun _ h => by have h := Ws.drop (L := [_]) (L' := _) h; exact h) ?_
          refine WE.block_normal ?_
          refine WE.then_normal ?_
          refine WC.region ?_
          refine WL.val (.inl rfl) rfl (yl_move rfl) ?_
          refine WL.val (.inl rfl) rfl (yl_inc rfl rfl rfl (by omega)) ?_
          refine WL.val (.inl rfl) rfl (yl_assign rfl) ?_
          refine WL.nil ?_
          rw [show st (textB name ++ [byteOf items.length] ++ (items.take i).flatMap itemB ++ [byteOf x.kind] ++ textB x.name ++ num8 x.n ++ num8 x.pl) = st (textB name ++ [byteOf items.length] ++ (items.take (i + 1)).flatMap itemB) by rw [take_flat hx]; simp [itemB]]
          exact WE.again (i + 1) (by omega) (by omega) (sc rfl (sc rfl (sc rfl (sc rfl sn)))) (fun _ h => Ws.drop (L := [_, _]) h)
        refine WT.e rfl (fun _ h => by have h := Ws.drop (L := [_]) (L' := _) h; exact h) ?_ WT.stop
        refine WL.callp (.inl rfl) rfl en52 rfl (fun w hw => numBytes_any _ w) ?_
        refine WL.nil ?_
        refine WE.toT ?_
        refine WT.e rfl (fun _ h => by have h := Ws.drop (L := [_]) (L' := _) h; exact h) ?_ ?_
        ·
          refine WL.val (.inl rfl) rfl (yl_b2s 0 usl81 ui5 us9 rfl rfl rfl) ?_
          refine WL.nil ?_
          refine WE.toT ?_
          refine WT.q rfl (.inl rfl) rfl (fun _ h => by have h := Ws.drop (L := [_]) (L' := _) h; exact h) (yl_cats rfl rfl (by simp only [List.length_append, textB_len, List.length_singleton]; omega)) ?_
          refine WT.q rfl (.inl rfl) rfl (fun _ h => by have h := Ws.drop (L := [_]) (L' := _) h; exact h) (yl_cats rfl rfl (by simp only [List.length_append, textB_len, List.length_singleton]; omega)) ?_
          refine WT.q rfl (.inl rfl) rfl (fun _ h => by have h := Ws.drop (L := [_]) (L' := _) h; exact h) (yl_cats rfl rfl (by simp only [List.length_append, textB_len, num8_len, List.length_singleton]; omega)) ?_
          refine WT.e rfl (fun _ h => by have h := Ws.drop (L := [_]) (L' := _) h; exact h) ?_ WT.stop
          refine WL.callp (.inl rfl) rfl en52 rfl (fun w hw => numBytes_any _ w) ?_
          refine WL.nil ?_
          refine WE.toT ?_
          refine WT.q rfl (.inl rfl) rfl (fun _ h => by have h := Ws.drop (L := [_]) (L' := _) h; exact h) (yl_cats rfl rfl (by simp only [List.length_append, textB_len, num8_len, List.length_singleton]; omega)) ?_
          refine WT.q rfl (.inl rfl) rfl (fun _ h => by have h := Ws.drop (L := [_]) (L' := _) h; exact h) (yl_assign rfl) ?_
          refine WT.nil (fun _ h => by have h := Ws.drop (L := [_]) (L' := _) h; exact h) ?_
          refine WE.block_normal ?_
          refine WE.then_normal ?_
          refine WC.region ?_
          refine WL.val (.inl rfl) rfl (yl_move rfl) ?_
          refine WL.val (.inl rfl) rfl (yl_inc rfl rfl rfl (by omega)) ?_
          refine WL.val (.inl rfl) rfl (yl_assign rfl) ?_
          refine WL.nil ?_
          rw [show st (textB name ++ [byteOf items.length] ++ (items.take i).flatMap itemB ++ [byteOf x.kind] ++ textB x.name ++ num8 x.n ++ num8 x.pl) = st (textB name ++ [byteOf items.length] ++ (items.take (i + 1)).flatMap itemB) by rw [take_flat hx]; simp [itemB]]
          exact WE.again (i + 1) (by omega) (by omega) (sc rfl (sc rfl (sc rfl (sc rfl sn)))) (fun _ h => Ws.drop (L := [_, _]) h)
        refine WT.e rfl (fun _ h => by have h := Ws.drop (L := [_]) (L' := _) h; exact h) ?_ WT.stop
        refine WL.callp (.inl rfl) rfl en52 rfl (fun w hw => numBytes_any _ w) ?_
        refine WL.nil ?_
        refine WE.toT ?_
        refine WT.e rfl (fun _ h => by have h := Ws.drop (L := [_]) (L' := _) h; exact h) ?_ WT.stop
        refine WL.val (.inl rfl) rfl (yl_b2s 0 usl81 ui5 us9 rfl rfl rfl) ?_
        refine WL.nil ?_
        refine WE.toT ?_
        refine WT.q rfl (.inl rfl) rfl (fun _ h => by have h := Ws.drop (L := [_]) (L' := _) h; exact h) (yl_cats rfl rfl (by simp only [List.length_append, textB_len, List.length_singleton]; omega)) ?_
        refine WT.q rfl (.inl rfl) rfl (fun _ h => by have h := Ws.drop (L := [_]) (L' := _) h; exact h) (yl_cats rfl rfl (by simp only [List.length_append, textB_len, List.length_singleton]; omega)) ?_
        refine WT.q rfl (.inl rfl) rfl (fun _ h => by have h := Ws.drop (L := [_]) (L' := _) h; exact h) (yl_cats rfl rfl (by simp only [List.length_append, textB_len, num8_len, List.length_singleton]; omega)) ?_
        refine WT.q rfl (.inl rfl) rfl (fun _ h => by have h := Ws.drop (L := [_]) (L' := _) h; exact h) (yl_cats rfl rfl (by simp only [List.length_append, textB_len, num8_len, List.length_singleton]; omega)) ?_
        refine WT.q rfl (.inl rfl) rfl (fun _ h => by have h := Ws.drop (L := [_]) (L' := _) h; exact h) (yl_assign rfl) ?_
        refine WT.nil (fun _ h => by have h := Ws.drop (L := [_]) (L' := _) h; exact h) ?_
        refine WE.block_normal ?_
        refine WE.then_normal ?_
        refine WC.region ?_
        refine WL.val (.inl rfl) rfl (yl_move rfl) ?_
        refine WL.val (.inl rfl) rfl (yl_inc rfl rfl rfl (by omega)) ?_
        refine WL.val (.inl rfl) rfl (yl_assign rfl) ?_
        refine WL.nil ?_
        rw [show st (textB name ++ [byteOf items.length] ++ (items.take i).flatMap itemB ++ [byteOf x.kind] ++ textB x.name ++ num8 x.n ++ num8 x.pl) = st (textB name ++ [byteOf items.length] ++ (items.take (i + 1)).flatMap itemB) by rw [take_flat hx]; simp [itemB]]
        exact WE.again (i + 1) (by omega) (by omega) (sc rfl (sc rfl (sc rfl (sc rfl sn)))) (fun _ h => Ws.drop (L := [_, _]) h)
      refine WT.e rfl (fun _ h => h) ?_ WT.stop
      refine WL.callp (.inl rfl) rfl en51 rfl (fun w hw => textBytes_any _ w (by omega)) ?_
      refine WL.nil ?_
      refine WE.toT ?_
      refine WT.e rfl (fun _ h => h) ?_ ?_
      ·
        refine WL.bsliceF (.inl rfl) rfl el81 rfl rfl rfl rfl fun b32 => ?_
        refine WL.reblk 0 (.cells ([byteOf x.kind].map byv).toArray 5 (0, 0)) rfl (one_cell _ 5) ?_
        refine WL.nil ?_
        refine WE.toT ?_
        refine WT.e rfl (fun _ h => by have h := Ws.drop (L := [_]) (L' := _) h; exact h) ?_ ?_
        ·
          refine WL.val (.inl rfl) rfl (yl_b2s 0 usl81 ui5 us9 rfl rfl rfl) ?_
          refine WL.nil ?_
          refine WE.toT ?_
          refine WT.q rfl (.inl rfl) rfl (fun _ h => by have h := Ws.drop (L := [_]) (L' := _) h; exact h) (yl_cats rfl rfl (by simp only [List.length_append, textB_len, List.length_singleton]; omega)) ?_
          refine WT.q rfl (.inl rfl) rfl (fun _ h => by have h := Ws.drop (L := [_]) (L' := _) h; exact h) (yl_cats rfl rfl (by simp only [List.length_append, textB_len, List.length_singleton]; omega)) ?_
          refine WT.e rfl (fun _ h => by have h := Ws.drop (L := [_]) (L' := _) h; exact h) ?_ WT.stop
          refine WL.callp (.inl rfl) rfl en52 rfl (fun w hw => numBytes_any _ w) ?_
          refine WL.nil ?_
          refine WE.toT ?_
          refine WT.q rfl (.inl rfl) rfl (fun _ h => by have h := Ws.drop (L := [_]) (L' := _) h; exact h) (yl_cats rfl rfl (by simp only [List.length_append, textB_len, num8_len, List.length_singleton]; omega)) ?_
          refine WT.e rfl (fun _ h => by have h := Ws.drop (L := [_]) (L' := _) h; exact h) ?_ WT.stop
          refine WL.callp (.inl rfl) rfl en52 rfl (fun w hw => numBytes_any _ w) ?_
          refine WL.nil ?_
          refine WE.toT ?_
          refine WT.q rfl (.inl rfl) rfl (fun _ h => by have h := Ws.drop (L := [_]) (L' := _) h; exact h) (yl_cats rfl rfl (by simp only [List.length_append, textB_len, num8_len, List.length_singleton]; omega)) ?_
          refine WT.q rfl (.inl rfl) rfl (fun _ h => by have h := Ws.drop (L := [_]) (L' := _) h; exact h) (yl_assign rfl) ?_
          refine WT.nil (fun _ h => by have h := Ws.drop (L := [_]) (L' := _) h; exact h) ?_
          refine WE.block_normal ?_
          refine WE.then_normal ?_
          refine WC.region ?_
          refine WL.val (.inl rfl) rfl (yl_move rfl) ?_
          refine WL.val (.inl rfl) rfl (yl_inc rfl rfl rfl (by omega)) ?_
          refine WL.val (.inl rfl) rfl (yl_assign rfl) ?_
          refine WL.nil ?_
          rw [show st (textB name ++ [byteOf items.length] ++ (items.take i).flatMap itemB ++ [byteOf x.kind] ++ textB x.name ++ num8 x.n ++ num8 x.pl) = st (textB name ++ [byteOf items.length] ++ (items.take (i + 1)).flatMap itemB) by rw [take_flat hx]; simp [itemB]]
          exact WE.again (i + 1) (by omega) (by omega) (sc rfl (sc rfl (sc rfl (sc rfl sn)))) (fun _ h => Ws.drop (L := [_, _]) h)
        refine WT.e rfl (fun _ h => by have h := Ws.drop (L := [_]) (L' := _) h; exact h) ?_ WT.stop
        refine WL.callp (.inl rfl) rfl en52 rfl (fun w hw => numBytes_any _ w) ?_
        refine WL.nil ?_
        refine WE.toT ?_
        refine WT.e rfl (fun _ h => by have h := Ws.drop (L := [_]) (L' := _) h; exact h) ?_ ?_
        ·
          refine WL.val (.inl rfl) rfl (yl_b2s 0 usl81 ui5 us9 rfl rfl rfl) ?_
          refine WL.nil ?_
          refine WE.toT ?_
          refine WT.q rfl (.inl rfl) rfl (fun _ h => by have h := Ws.drop (L := [_]) (L' := _) h; exact h) (yl_cats rfl rfl (by simp only [List.length_append, textB_len, List.length_singleton]; omega)) ?_
          refine WT.q rfl (.inl rfl) rfl (fun _ h => by have h := Ws.drop (L := [_]) (L' := _) h; exact h) (yl_cats rfl rfl (by simp only [List.length_append, textB_len, List.length_singleton]; omega)) ?_
          refine WT.q rfl (.inl rfl) rfl (fun _ h => by have h := Ws.drop (L := [_]) (L' := _) h; exact h) (yl_cats rfl rfl (by simp only [List.length_append, textB_len, num8_len, List.length_singleton]; omega)) ?_
          refine WT.e rfl (fun _ h => by have h := Ws.drop (L := [_]) (L' := _) h; exact h) ?_ WT.stop
          refine WL.callp (.inl rfl) rfl en52 rfl (fun w hw => numBytes_any _ w) ?_
          refine WL.nil ?_
          refine WE.toT ?_
          refine WT.q rfl (.inl rfl) rfl (fun _ h => by have h := Ws.drop (L := [_]) (L' := _) h; exact h) (yl_cats rfl rfl (by simp only [List.length_append, textB_len, num8_len, List.length_singleton]; omega)) ?_
          refine WT.q rfl (.inl rfl) rfl (fun _ h => by have h := Ws.drop (L := [_]) (L' := _) h; exact h) (yl_assign rfl) ?_
          refine WT.nil (fun _ h => by have h := Ws.drop (L := [_]) (L' := _) h; exact h) ?_
          refine WE.block_normal ?_
          refine WE.then_normal ?_
          refine WC.region ?_
          refine WL.val (.inl rfl) rfl (yl_move rfl) ?_
          refine WL.val (.inl rfl) rfl (yl_inc rfl rfl rfl (by omega)) ?_
          refine WL.val (.inl rfl) rfl (yl_assign rfl) ?_
          refine WL.nil ?_
          rw [show st (textB name ++ [byteOf items.length] ++ (items.take i).flatMap itemB ++ [byteOf x.kind] ++ textB x.name ++ num8 x.n ++ num8 x.pl) = st (textB name ++ [byteOf items.length] ++ (items.take (i + 1)).flatMap itemB) by rw [take_flat hx]; simp [itemB]]
          exact WE.again (i + 1) (by omega) (by omega) (sc rfl (sc rfl (sc rfl (sc rfl sn)))) (fun _ h => Ws.drop (L := [_, _]) h)
        refine WT.e rfl (fun _ h => by have h := Ws.drop (L := [_]) (L' := _) h; exact h) ?_ WT.stop
        refine WL.callp (.inl rfl) rfl en52 rfl (fun w hw => numBytes_any _ w) ?_
        refine WL.nil ?_
        refine WE.toT ?_
        refine WT.e rfl (fun _ h => by have h := Ws.drop (L := [_]) (L' := _) h; exact h) ?_ WT.stop
        refine WL.val (.inl rfl) rfl (yl_b2s 0 usl81 ui5 us9 rfl rfl rfl) ?_
        refine WL.nil ?_
        refine WE.toT ?_
        refine WT.q rfl (.inl rfl) rfl (fun _ h => by have h := Ws.drop (L := [_]) (L' := _) h; exact h) (yl_cats rfl rfl (by simp only [List.length_append, textB_len, List.length_singleton]; omega)) ?_
        refine WT.q rfl (.inl rfl) rfl (fun _ h => by have h := Ws.drop (L := [_]) (L' := _) h; exact h) (yl_cats rfl rfl (by simp only [List.length_append, textB_len, List.length_singleton]; omega)) ?_
        refine WT.q rfl (.inl rfl) rfl (fun _ h => by have h := Ws.drop (L := [_]) (L' := _) h; exact h) (yl_cats rfl rfl (by simp only [List.length_append, textB_len, num8_len, List.length_singleton]; omega)) ?_
        refine WT.q rfl (.inl rfl) rfl (fun _ h => by have h := Ws.drop (L := [_]) (L' := _) h; exact h) (yl_cats rfl rfl (by simp only [List.length_append, textB_len, num8_len, List.length_singleton]; omega)) ?_
        refine WT.q rfl (.inl rfl) rfl (fun _ h => by have h := Ws.drop (L := [_]) (L' := _) h; exact h) (yl_assign rfl) ?_
        refine WT.nil (fun _ h => by have h := Ws.drop (L := [_]) (L' := _) h; exact h) ?_
        refine WE.block_normal ?_
        refine WE.then_normal ?_
        refine WC.region ?_
        refine WL.val (.inl rfl) rfl (yl_move rfl) ?_
        refine WL.val (.inl rfl) rfl (yl_inc rfl rfl rfl (by omega)) ?_
        refine WL.val (.inl rfl) rfl (yl_assign rfl) ?_
        refine WL.nil ?_
        rw [show st (textB name ++ [byteOf items.length] ++ (items.take i).flatMap itemB ++ [byteOf x.kind] ++ textB x.name ++ num8 x.n ++ num8 x.pl) = st (textB name ++ [byteOf items.length] ++ (items.take (i + 1)).flatMap itemB) by rw [take_flat hx]; simp [itemB]]
        exact WE.again (i + 1) (by omega) (by omega) (sc rfl (sc rfl (sc rfl (sc rfl sn)))) (fun _ h => Ws.drop (L := [_, _]) h)
      refine WT.e rfl (fun _ h => h) ?_ WT.stop
      refine WL.callp (.inl rfl) rfl en52 rfl (fun w hw => numBytes_any _ w) ?_
      refine WL.nil ?_
      refine WE.toT ?_
      refine WT.e rfl (fun _ h => h) ?_ ?_
      ·
        refine WL.bsliceF (.inl rfl) rfl el81 rfl rfl rfl rfl fun b32 => ?_
        refine WL.reblk 0 (.cells ([byteOf x.kind].map byv).toArray 5 (0, 0)) rfl (one_cell _ 5) ?_
        refine WL.nil ?_
        refine WE.toT ?_
        refine WT.e rfl (fun _ h => by have h := Ws.drop (L := [_]) (L' := _) h; exact h) ?_ ?_
        ·
          refine WL.val (.inl rfl) rfl (yl_b2s 0 usl81 ui5 us9 rfl rfl rfl) ?_
          refine WL.nil ?_
          refine WE.toT ?_
          refine WT.q rfl (.inl rfl) rfl (fun _ h => by have h := Ws.drop (L := [_]) (L' := _) h; exact h) (yl_cats rfl rfl (by simp only [List.length_append, textB_len, List.length_singleton]; omega)) ?_
          refine WT.q rfl (.inl rfl) rfl (fun _ h => by have h := Ws.drop (L := [_]) (L' := _) h; exact h) (yl_cats rfl rfl (by simp only [List.length_append, textB_len, List.length_singleton]; omega)) ?_
          refine WT.q rfl (.inl rfl) rfl (fun _ h => by have h := Ws.drop (L := [_]) (L' := _) h; exact h) (yl_cats rfl rfl (by simp only [List.length_append, textB_len, num8_len, List.length_singleton]; omega)) ?_
          refine WT.e rfl (fun _ h => by have h := Ws.drop (L := [_]) (L' := _) h; exact h) ?_ WT.stop
          refine WL.callp (.inl rfl) rfl en52 rfl (fun w hw => numBytes_any _ w) ?_
          refine WL.nil ?_
          refine WE.toT ?_
          refine WT.q rfl (.inl rfl) rfl (fun _ h => by have h := Ws.drop (L := [_]) (L' := _) h; exact h) (yl_cats rfl rfl (by simp only [List.length_append, textB_len, num8_len, List.length_singleton]; omega)) ?_
          refine WT.q rfl (.inl rfl) rfl (fun _ h => by have h := Ws.drop (L := [_]) (L' := _) h; exact h) (yl_assign rfl) ?_
          refine WT.nil (fun _ h => by have h := Ws.drop (L := [_]) (L' := _) h; exact h) ?_
          refine WE.block_normal ?_
          refine WE.then_normal ?_
          refine WC.region ?_
          refine WL.val (.inl rfl) rfl (yl_move rfl) ?_
          refine WL.val (.inl rfl) rfl (yl_inc rfl rfl rfl (by omega)) ?_
          refine WL.val (.inl rfl) rfl (yl_assign rfl) ?_
          refine WL.nil ?_
          rw [show st (textB name ++ [byteOf items.length] ++ (items.take i).flatMap itemB ++ [byteOf x.kind] ++ textB x.name ++ num8 x.n ++ num8 x.pl) = st (textB name ++ [byteOf items.length] ++ (items.take (i + 1)).flatMap itemB) by rw [take_flat hx]; simp [itemB]]
          exact WE.again (i + 1) (by omega) (by omega) (sc rfl (sc rfl (sc rfl (sc rfl sn)))) (fun _ h => Ws.drop (L := [_, _]) h)
        refine WT.e rfl (fun _ h => by have h := Ws.drop (L := [_]) (L' := _) h; exact h) ?_ WT.stop
        refine WL.callp (.inl rfl) rfl en52 rfl (fun w hw => numBytes_any _ w) ?_
        refine WL.nil ?_
        refine WE.toT ?_
        refine WT.e rfl (fun _ h => by have h := Ws.drop (L := [_]) (L' := _) h; exact h) ?_ WT.stop
        refine WL.val (.inl rfl) rfl (yl_b2s 0 usl81 ui5 us9 rfl rfl rfl) ?_
        refine WL.nil ?_
        refine WE.toT ?_
        refine WT.q rfl (.inl rfl) rfl (fun _ h => by have h := Ws.drop (L := [_]) (L' := _) h; exact h) (yl_cats rfl rfl (by simp only [List.length_append, textB_len, List.length_singleton]; omega)) ?_
        refine WT.q rfl (.inl rfl) rfl (fun _ h => by have h := Ws.drop (L := [_]) (L' := _) h; exact h) (yl_cats rfl rfl (by simp only [List.length_append, textB_len, List.length_singleton]; omega)) ?_
        refine WT.q rfl (.inl rfl) rfl (fun _ h => by have h := Ws.drop (L := [_]) (L' := _) h; exact h) (yl_cats rfl rfl (by simp only [List.length_append, textB_len, num8_len, List.length_singleton]; omega)) ?_
        refine WT.q rfl (.inl rfl) rfl (fun _ h => by have h := Ws.drop (L := [_]) (L' := _) h; exact h) (yl_cats rfl rfl (by simp only [List.length_append, textB_len, num8_len, List.length_singleton]; omega)) ?_
        refine WT.q rfl (.inl rfl) rfl (fun _ h => by have h := Ws.drop (L := [_]) (L' := _) h; exact h) (yl_assign rfl) ?_
        refine WT.nil (fun _ h => by have h := Ws.drop (L := [_]) (L' := _) h; exact h) ?_
        refine WE.block_normal ?_
        refine WE.then_normal ?_
        refine WC.region ?_
        refine WL.val (.inl rfl) rfl (yl_move rfl) ?_
        refine WL.val (.inl rfl) rfl (yl_inc rfl rfl rfl (by omega)) ?_
        refine WL.val (.inl rfl) rfl (yl_assign rfl) ?_
        refine WL.nil ?_
        rw [show st (textB name ++ [byteOf items.length] ++ (items.take i).flatMap itemB ++ [byteOf x.kind] ++ textB x.name ++ num8 x.n ++ num8 x.pl) = st (textB name ++ [byteOf items.length] ++ (items.take (i + 1)).flatMap itemB) by rw [take_flat hx]; simp [itemB]]
        exact WE.again (i + 1) (by omega) (by omega) (sc rfl (sc rfl (sc rfl (sc rfl sn)))) (fun _ h => Ws.drop (L := [_, _]) h)
      refine WT.e rfl (fun _ h => h) ?_ WT.stop
      refine WL.callp (.inl rfl) rfl en52 rfl (fun w hw => numBytes_any _ w) ?_
      refine WL.nil ?_
      refine WE.toT ?_
      refine WT.e rfl (fun _ h => h) ?_ WT.stop
      refine WL.bsliceF (.inl rfl) rfl el81 rfl rfl rfl rfl fun b32 => ?_
      refine WL.reblk 0 (.cells ([byteOf x.kind].map byv).toArray 5 (0, 0)) rfl (one_cell _ 5) ?_
      refine WL.nil ?_
      refine WE.toT ?_
      refine WT.e rfl (fun _ h => by have h := Ws.drop (L := [_]) (L' := _) h; exact h) ?_ WT.stop
      refine WL.val (.inl rfl) rfl (yl_b2s 0 usl81 ui5 us9 rfl rfl rfl) ?_
      refine WL.nil ?_
      refine WE.toT ?_
      refine WT.q rfl (.inl rfl) rfl (fun _ h => by have h := Ws.drop (L := [_]) (L' := _) h; exact h) (yl_cats rfl rfl (by simp only [List.length_append, textB_len, List.length_singleton]; omega)) ?_
      refine WT.q rfl (.inl rfl) rfl (fun _ h => by have h := Ws.drop (L := [_]) (L' := _) h; exact h) (yl_cats rfl rfl (by simp only [List.length_append, textB_len, List.length_singleton]; omega)) ?_
      refine WT.q rfl (.inl rfl) rfl (fun _ h => by have h := Ws.drop (L := [_]) (L' := _) h; exact h) (yl_cats rfl rfl (by simp only [List.length_append, textB_len, num8_len, List.length_singleton]; omega)) ?_
      refine WT.q rfl (.inl rfl) rfl (fun _ h => by have h := Ws.drop (L := [_]) (L' := _) h; exact h) (yl_cats rfl rfl (by simp only [List.length_append, textB_len, num8_len, List.length_singleton]; omega)) ?_
      refine WT.q rfl (.inl rfl) rfl (fun _ h => by have h := Ws.drop (L := [_]) (L' := _) h; exact h) (yl_assign rfl) ?_
      refine WT.nil (fun _ h => by have h := Ws.drop (L := [_]) (L' := _) h; exact h) ?_
      refine WE.block_normal ?_
      refine WE.then_normal ?_
      refine WC.region ?_
      refine WL.val (.inl rfl) rfl (yl_move rfl) ?_
      refine WL.val (.inl rfl) rfl (yl_inc rfl rfl rfl (by omega)) ?_
      refine WL.val (.inl rfl) rfl (yl_assign rfl) ?_
      refine WL.nil ?_
      rw [show st (textB name ++ [byteOf items.length] ++ (items.take i).flatMap itemB ++ [byteOf x.kind] ++ textB x.name ++ num8 x.n ++ num8 x.pl) = st (textB name ++ [byteOf items.length] ++ (items.take (i + 1)).flatMap itemB) by rw [take_flat hx]; simp [itemB]]
      exact WE.again (i + 1) (by omega) (by omega) (sc rfl (sc rfl (sc rfl (sc rfl sn)))) (fun _ h => Ws.drop (L := [_, _]) h)
    ·
      have hie : i = items.length := by simp at hc0; omega
      refine WC.exit ?_
      refine WE.then_exit ?_
      refine WE.then_exit ?_
      refine WE.block_hit ?_
      refine WE.then_normal ?_
      refine WC.seq ?_
      refine WC.region ?_
      refine WL.val (.inl rfl) rfl (yl_move rfl) ?_
      refine WL.val (.inl rfl) rfl (yl_assign rfl) ?_
      refine WL.nil ?_
      refine WE.then_normal ?_
      refine WC.ret ?_
      refine WE.ret1 rfl rfl fun w' hw => ?_
      exact ⟨by rw [hie, List.take_length]; rfl, hw.fr⟩
  refine WT.e rfl (fun _ h => h) ?_ WT.stop
  refine WL.bsliceF (.inl rfl) rfl el81 rfl rfl rfl rfl fun b13 => ?_
  refine WL.reblk 0 (.cells ([byteOf items.length].map byv).toArray 5 (0, 0)) rfl (one_cell _ 5) ?_
  refine WL.nil ?_
  refine WE.toT ?_
  refine WT.e rfl (fun _ h => by have h := Ws.drop (L := [_]) (L' := _) h; exact h) ?_ ?_
  ·
    refine WL.callp (.inl rfl) rfl en51 rfl (fun w hw => textBytes_any _ w (by omega)) ?_
    refine WL.nil ?_
    refine WE.toT ?_
    refine WT.e rfl (fun _ h => by have h := Ws.drop (L := [_]) (L' := _) h; exact h) ?_ WT.stop
    refine WL.val (.inl rfl) rfl (yl_b2s 0 usl81 ui5 us9 rfl rfl rfl) ?_
    refine WL.nil ?_
    refine WE.toT ?_
    refine WT.q rfl (.inl rfl) rfl (fun _ h => by have h := Ws.drop (L := [_]) (L' := _) h; exact h) (yl_cats rfl rfl (by simp [textB_len]; omega)) ?_
    refine WT.q rfl (.inl rfl) rfl (fun _ h => by have h := Ws.drop (L := [_]) (L' := _) h; exact h) (yl_assign rfl) ?_
    refine WT.nil (fun _ h => by have h := Ws.drop (L := [_]) (L' := _) h; exact h) ?_
    refine WE.then_normal ?_
    refine WC.seq ?_
    refine WC.seq ?_
    refine WC.region ?_
    refine WL.val (.inl rfl) rfl (yl_assign rfl) ?_
    refine WL.nil ?_
    refine WE.then_normal ?_
    refine WC.block ?_
    rw [show st (textB name ++ [byteOf items.length]) = st (textB name ++ [byteOf items.length] ++ (items.take 0).flatMap itemB) by simp]
    refine WC.loopW (ι := Nat) (fun i => [(4, .int .i64 (i : Int)), (3, st (textB name ++ [byteOf items.length] ++ (items.take i).flatMap itemB))]) [(1, _), (2, _)] (fun i => i ≤ items.length) (fun i => items.length - i) 0 (Nat.zero_le _) (sc rfl (sc rfl (sc rfl (sc rfl sn)))) ?_
    intro i hi
    refine WC.seq ?_
    refine WC.seq ?_
    refine WC.region ?_
    refine WL.val (.inl rfl) rfl (yl_move rfl) ?_
    refine WL.val (.inl rfl) rfl (yl_fa fo39_1 rfl) ?_
    refine WL.val (.inl rfl) rfl (yl_ldk 1 rfl rfl rfl na37) ?_
    refine WL.val (.inl rfl) rfl (yl_len es37 rfl) ?_
    refine WL.val (.inl rfl) rfl (yl_lt rfl rfl) ?_
    refine WL.nil ?_
    refine WE.then_normal ?_
    refine WC.cond rfl (fun hc0 => ?_) (fun hc0 => ?_)
    ·
      have hlt : i < items.length := by simpa using hc0
      obtain ⟨x, hx⟩ : ∃ x, items[i]? = some x := ⟨_, List.getElem?_eq_getElem hlt⟩
      obtain ⟨pb, po, ha, hrow⟩ := hm.elt i x hx
      have hrow : RdC H pb (po + i * 4) x.cells := hrow
      have hxn := hns x (List.mem_of_getElem? hx)
      have hts := take_small hns i
      refine WC.skip ?_
      refine WE.then_normal ?_
      refine WC.seq ?_
      refine WC.block ?_
      refine WC.seq ?_
      refine WC.region ?_
      refine WL.val (.inl rfl) rfl (yl_fa fo39_1 rfl) ?_
      refine WL.val (.inl rfl) rfl (yl_ldk 1 rfl rfl rfl na37) ?_
      refine WL.val (.inl rfl) rfl (yl_move rfl) ?_
      refine WL.val (.inl rfl) rfl (yl_iao es37 rfl rfl ha (by omega)) ?_
      refine WL.val (.inl rfl) rfl (yl_lda 0 ag88 rfl rfl rfl (hrow)) ?_
      refine WL.alloc (.inl rfl) rfl zr88 fun b5 => ?_
      refine WL.store 0 (.inl rfl) rfl rfl rfl sz88 rfl rfl rfl ?_
      refine WL.nil ?_
      refine WE.then_normal ?_
      refine WC.drawt0 (.q 0 (.q 1 (.q 2 (.q 3 (.q 7 (.q 8 (.q 11 (.q 12 (.q 15 (.q 16 (.e 4 (.e 5 (.q 6 (.e 9 (.q 10 (.e 13 (.q 14 (.e 17 (.q 18 (.q 19 .nil)) .stop)) .stop)) .stop)) (.e 9 (.e 5 (.q 6 (.q 10 (.e 13 (.q 14 (.e 17 (.q 18 (.q 19 .nil)) .stop)) .stop))) (.e 13 (.e 5 (.q 6 (.q 10 (.q 14 (.e 17 (.q 18 (.q 19 .nil)) .stop)))) (.e 17 (.e 5 (.q 6 (.q 10 (.q 14 (.q 18 (.q 19 .nil))))) .stop) .stop)) .stop)) .stop)) (.e 9 (.e 4 (.e 5 (.q 6 (.q 10 (.e 13 (.q 14 (.e 17 (.q 18 (.q 19 .nil)) .stop)) .stop))) (.e 13 (.e 5 (.q 6 (.q 10 (.q 14 (.e 17 (.q 18 (.q 19 .nil)) .stop)))) (.e 17 (.e 5 (.q 6 (.q 10 (.q 14 (.q 18 (.q 19 .nil))))) .stop) .stop)) .stop)) (.e 13 (.e 4 (.e 5 (.q 6 (.q 10 (.q 14 (.e 17 (.q 18 (.q 19 .nil)) .stop)))) (.e 17 (.e 5 (.q 6 (.q 10 (.q 14 (.q 18 (.q 19 .nil))))) .stop) .stop)) (.e 17 (.e 4 (.e 5 (.q 6 (.q 10 (.q 14 (.q 18 (.q 19 .nil))))) .stop) .stop) .stop)) .stop)) .stop)))))))))))) mixed (by kernel_rfl) (fun _ _ _ d _ h => by cases d <;> exact h) ?_
      refine WT.q rfl (.inl rfl) rfl (fun _ h => h) (yl_move rfl) ?_
      refine WT.q rfl (.inl rfl) rfl (fun _ h => h) (yl_fa fo88_0 rfl) ?_
      refine WT.q rfl (.inl rfl) rfl (fun _ h => h) (yl_ldk 0 rfl rfl rfl na3) ?_
      refine WT.q rfl (.inl rfl) rfl (fun _ h => h) (yl_cvi ui3 ui5 rfl) ?_
      refine WT.q rfl (.inl rfl) rfl (fun _ h => h) (yl_fa fo88_3 rfl) ?_
      refine WT.q rfl (.inl rfl) rfl (fun _ h => h) (yl_ldk 0 rfl rfl rfl na9) ?_
      refine WT.q rfl (.inl rfl) rfl (fun _ h => h) (yl_fa fo88_1 rfl) ?_
      refine WT.q rfl (.inl rfl) rfl (fun _ h => h) (yl_ldk 0 rfl rfl rfl na3) ?_
      refine WT.q rfl (.inl rfl) rfl (fun _ h => h) (yl_fa fo88_2 rfl) ?_
      refine WT.q rfl (.inl rfl) rfl (fun _ h => h) (yl_ldk 0 rfl rfl rfl na3) ?_
      refine WT.e rfl (fun _ h => h) ?_ ?_
      ·
        refine WL.bsliceF (.inl rfl) rfl el81 rfl rfl rfl rfl fun b32 => ?_
        refine WL.reblk 0 (.cells ([byteOf x.kind].map byv).toArray 5 (0, 0)) rfl (one_cell _ 5) ?_
        refine WL.nil ?_
        refine WE.toT ?_
        refine WT.e rfl (fun _ h => by have h := Ws.drop (L := [_]) (L' := _) h; exact h) ?_ ?_
        ·
          refine WL.val (.inl rfl) rfl (yl_b2s 0 usl81 ui5 us9 rfl rfl rfl) ?_
          refine WL.nil ?_
          refine WE.toT ?_
          refine WT.q rfl (.inl rfl) rfl (fun _ h => by have h := Ws.drop (L := [_]) (L' := _) h; exact h) (yl_cats rfl rfl (by simp only [List.length_append, textB_len, List.length_singleton]; omega)) ?_
          refine WT.e rfl (fun _ h => by have h := Ws.drop (L := [_]) (L' := _) h; exact h) ?_ WT.stop
          refine WL.callp (.inl rfl) rfl en51 rfl (fun w hw => textBytes_any _ w (by omega)) ?_
          refine WL.nil ?_
          refine WE.toT ?_
          refine WT.q rfl (.inl rfl) rfl (fun _ h => by have h := Ws.drop (L := [_]) (L' := _) h; exact h) (yl_cats rfl rfl (by simp only [List.length_append, textB_len, List.length_singleton]; omega)) ?_
          refine WT.e rfl (fun _ h => by have h := Ws.drop (L := [_]) (L' := _) h; exact h) ?_ WT.stop
          refine WL.callp (.inl rfl) rfl en52 rfl (fun w hw => numBytes_any _ w) ?_
          refine WL.nil ?_
          refine WE.toT ?_
          refine WT.q rfl (.inl rfl) rfl (fun _ h => by have h := Ws.drop (L := [_]) (L' := _) h; exact h) (yl_cats rfl rfl (by simp only [List.length_append, textB_len, num8_len, List.length_singleton]; omega)) ?_
          refine WT.e rfl (fun _ h => by have h := Ws.drop (L := [_]) (L' := _) h; exact h) ?_ WT.stop
          refine WL.callp (.inl rfl) rfl en52 rfl (fun w hw => numBytes_any _ w) ?_
          refine WL.nil ?_
          refine WE.toT ?_
          refine WT.q rfl (.inl rfl) rfl (fun _ h => by have h := Ws.drop (L := [_]) (L' := _) h; exact h) (yl_cats rfl rfl (by simp only [List.length_append, textB_len, num8_len, List.length_singleton]; omega)) ?_
          refine WT.q rfl (.inl rfl) rfl (fun _ h => by have h := Ws.drop (L := [_]) (L' := _) h; exact h) (yl_assign rfl) ?_
          refine WT.nil (fun _ h => by have h := Ws.drop (L := [_]) (L' := _) h; exact h) ?_
          refine WE.block_normal ?_
          refine WE.then_normal ?_
          refine WC.region ?_
          refine WL.val (.inl rfl) rfl (yl_move rfl) ?_
          refine WL.val (.inl rfl) rfl (yl_inc rfl rfl rfl (by omega)) ?_
          refine WL.val (.inl rfl) rfl (yl_assign rfl) ?_
          refine WL.nil ?_
          rw [show st (textB name ++ [byteOf items.length] ++ (items.take i).flatMap itemB ++ [byteOf x.kind] ++ textB x.name ++ num8 x.n ++ num8 x.pl) = st (textB name ++ [byteOf items.length] ++ (items.take (i + 1)).flatMap itemB) by rw [take_flat hx]; simp [itemB]]
          exact WE.again (i + 1) (by omega) (by omega) (sc rfl (sc rfl (sc rfl (sc rfl sn)))) (fun _ h => Ws.drop (L := [_, _]) h)
        refine WT.e rfl (fun _ h => by have h := Ws.drop (L := [_]) (L' := _) h; exact h) ?_ WT.stop
        refine WL.callp (.inl rfl) rfl en51 rfl (fun w hw => textBytes_any _ w (by omega)) ?_
        refine WL.nil ?_
        refine WE.toT ?_
        refine WT.e rfl (fun _ h => by have h := Ws.drop (L := [_]) (L' := _) h; exact h) ?_ ?_
        ·
          refine WL.val (.inl rfl) rfl (yl_b2s 0 usl81 ui5 us9 rfl rfl rfl) ?_
          refine WL.nil ?_
          refine WE.toT ?_
          refine WT.q rfl (.inl rfl) rfl (fun _ h => by have h := Ws.drop (L := [_]) (L' := _) h; exact h) (yl_cats rfl rfl (by simp only [List.length_append, textB_len, List.length_singleton]; omega)) ?_
          refine WT.q rfl (.inl rfl) rfl (fun _ h => by have h := Ws.drop (L := [_]) (L' := _) h; exact h) (yl_cats rfl rfl (by simp only [List.length_append, textB_len, List.length_singleton]; omega)) ?_
          refine WT.e rfl (fun _ h => by have h := Ws.drop (L := [_]) (L' := _) h; exact h) ?_ WT.stop
          refine WL.callp (.inl rfl) rfl en52 rfl (fun w hw => numBytes_any _ w) ?_
          refine WL.nil ?_
          refine WE.toT ?_
          refine WT.q rfl (.inl rfl) rfl (fun _ h => by have h := Ws.drop (L := [_]) (L' := _) h; exact h) (yl_cats rfl rfl (by simp only [List.length_append, textB_len, num8_len, List.length_singleton]; omega)) ?_
          refine WT.e rfl (fun _ h => by have h := Ws.drop (L := [_]) (L' := _) h; exact h) ?_ WT.stop
          refine WL.callp (.inl rfl) rfl en52 rfl (fun w hw => numBytes_any _ w) ?_
          refine WL.nil ?_
          refine WE.toT ?_
          refine WT.q rfl (.inl rfl) rfl (fun _ h => by have h := Ws.drop (L := [_]) (L' := _) h; exact h) (yl_cats rfl rfl (by simp only [List.length_append, textB_len, num8_len, List.length_singleton]; omega)) ?_
          refine WT.q rfl (.inl rfl) rfl (fun _ h => by have h := Ws.drop (L := [_]) (L' := _) h; exact h) (yl_assign rfl) ?_
          refine WT.nil (fun _ h => by have h := Ws.drop (L := [_]) (L' := _) h; exact h) ?_
          refine WE.block_normal ?_
          refine WE.then_normal ?_
          refine WC.region ?_
          refine WL.val (.inl rfl) rfl (yl_move rfl) ?_
          refine WL.val (.inl rfl) rfl (yl_inc rfl rfl rfl (by omega)) ?_
          refine WL.val (.inl rfl) rfl (yl_assign rfl) ?_
          refine WL.nil ?_
          rw [show st (textB name ++ [byteOf items.length] ++ (items.take i).flatMap itemB ++ [byteOf x.kind] ++ textB x.name ++ num8 x.n ++ num8 x.pl) = st (textB name ++ [byteOf items.length] ++ (items.take (i + 1)).flatMap itemB) by rw [take_flat hx]; simp [itemB]]
          exact WE.again (i + 1) (by omega) (by omega) (sc rfl (sc rfl (sc rfl (sc rfl sn)))) (fun _ h => Ws.drop (L := [_, _]) h)
        refine WT.e rfl (fun _ h => by have h := Ws.drop (L := [_]) (L' := _) h; exact h) ?_ WT.stop
        refine WL.callp (.inl rfl) rfl en52 rfl (fun w hw => numBytes_any _ w) ?_
        refine WL.nil ?_
        refine WE.toT ?_
        refine WT.e rfl (fun _ h => by have h := Ws.drop (L := [_]) (L' := _) h; exact h) ?_ ?_
        ·
          refine WL.val (.inl rfl) rfl (yl_b2s 0 usl81 ui5 us9 rfl rfl rfl) ?_
          refine WL.nil ?_
          refine WE.toT ?_
          refine WT.q rfl (.inl rfl) rfl (fun _ h => by have h := Ws.drop (L := [_]) (L' := _) h; exact h) (yl_cats rfl rfl (by simp only [List.length_append, textB_len, List.length_singleton]; omega)) ?_
          refine WT.q rfl (.inl rfl) rfl (fun _ h => by have h := Ws.drop (L := [_]) (L' := _) h; exact h) (yl_cats rfl rfl (by simp only [List.length_append, textB_len, List.length_singleton]; omega)) ?_
          refine WT.q rfl (.inl rfl) rfl (fun _ h => by have h := Ws.drop (L := [_]) (L' := _) h; exact h) (yl_cats rfl rfl (by simp only [List.length_append, textB_len, num8_len, List.length_singleton]; omega)) ?_
          refine WT.e rfl (fun _ h => by have h := Ws.drop (L := [_]) (L' := _) h; exact h) ?_ WT.stop
          refine WL.callp (.inl rfl) rfl en52 rfl (fun w hw => numBytes_any _ w) ?_
          refine WL.nil ?_
          refine WE.toT ?_
          refine WT.q rfl (.inl rfl) rfl (fun _ h => by have h := Ws.drop (L := [_]) (L' := _) h; exact h) (yl_cats rfl rfl (by simp only [List.length_append, textB_len, num8_len, List.length_singleton]; omega)) ?_
          refine WT.q rfl (.inl rfl) rfl (fun _ h => by have h := Ws.drop (L := [_]) (L' := _) h; exact h) (yl_assign rfl) ?_
          refine WT.nil (fun _ h => by have h := Ws.drop (L := [_]) (L' := _) h; exact h) ?_
          refine WE.block_normal ?_
          refine WE.then_normal ?_
          refine WC.region ?_
          refine WL.val (.inl rfl) rfl (yl_move rfl) ?_
          refine WL.val (.inl rfl) rfl (yl_inc rfl rfl rfl (by omega)) ?_
          refine WL.val (.inl rfl) rfl (yl_assign rfl) ?_
          refine WL.nil ?_
          rw [show st (textB name ++ [byteOf items.length] ++ (items.take i).flatMap itemB ++ [byteOf x.kind] ++ textB x.name ++ num8 x.n ++ num8 x.pl) = st (textB name ++ [byteOf items.length] ++ (items.take (i + 1)).flatMap itemB) by rw [take_flat hx]; simp [itemB]]
          exact WE.again (i + 1) (by omega) (by omega) (sc rfl (sc rfl (sc rfl (sc rfl sn)))) (fun _ h => Ws.drop (L := [_, _]) h)
        refine WT.e rfl (fun _ h => by have h := Ws.drop (L := [_]) (L' := _) h; exact h) ?_ WT.stop
        refine WL.callp (.inl rfl) rfl en52 rfl (fun w hw => numBytes_any _ w) ?_
        refine WL.nil ?_
        refine WE.toT ?_
        refine WT.e rfl (fun _ h => by have h := Ws.drop (L := [_]) (L' := _) h; exact h) ?_ WT.stop
        refine WL.val (.inl rfl) rfl (yl_b2s 0 usl81 ui5 us9 rfl rfl rfl) ?_
        refine WL.nil ?_
        refine WE.toT ?_
        refine WT.q rfl (.inl rfl) rfl (fun _ h => by have h := Ws.drop (L := [_]) (L' := _) h; exact h) (yl_cats rfl rfl (by simp only [List.length_append, textB_len, List.length_singleton]; omega)) ?_
        refine WT.q rfl (.inl rfl) rfl (fun _ h => by have h := Ws.drop (L := [_]) (L' := _) h; exact h) (yl_cats rfl rfl (by simp only [List.length_append, textB_len, List.length_singleton]; omega)) ?_
        refine WT.q rfl (.inl rfl) rfl (fun _ h => by have h := Ws.drop (L := [_]) (L' := _) h; exact h) (yl_cats rfl rfl (by simp only [List.length_append, textB_len, num8_len, List.length_singleton]; omega)) ?_
        refine WT.q rfl (.inl rfl) rfl (fun _ h => by have h := Ws.drop (L := [_]) (L' := _) h; exact h) (yl_cats rfl rfl (by simp only [List.length_append, textB_len, num8_len, List.length_singleton]; omega)) ?_
        refine WT.q rfl (.inl rfl) rfl (fun _ h => by have h := Ws.drop (L := [_]) (L' := _) h; exact h) (yl_assign rfl) ?_
        refine WT.nil (fun _ h => by have h := Ws.drop (L := [_]) (L' := _) h; exact h) ?_
        refine WE.block_normal ?_
        refine WE.then_normal ?_
        refine WC.region ?_
        refine WL.val (.inl rfl) rfl (yl_move rfl) ?_
        refine WL.val (.inl rfl) rfl (yl_inc rfl rfl rfl (by omega)) ?_
        refine WL.val (.inl rfl) rfl (yl_assign rfl) ?_
        refine WL.nil ?_
        rw [show st (textB name ++ [byteOf items.length] ++ (items.take i).flatMap itemB ++ [byteOf x.kind] ++ textB x.name ++ num8 x.n ++ num8 x.pl) = st (textB name ++ [byteOf items.length] ++ (items.take (i + 1)).flatMap itemB) by rw [take_flat hx]; simp [itemB]]
        exact WE.again (i + 1) (by omega) (by omega) (sc rfl (sc rfl (sc rfl (sc rfl sn)))) (fun _ h => Ws.drop (L := [_, _]) h)
      refine WT.e rfl (fun _ h => h) ?_ WT.stop
      refine WL.callp (.inl rfl) rfl en51 rfl (fun w hw => textBytes_any _ w (by omega)) ?_
      refine WL.nil ?_
      refine WE.toT ?_
      refine WT.e rfl (fun _ h => h) ?_ ?_
      ·
        refine WL.bsliceF (.inl rfl) rfl el81 rfl rfl rfl rfl fun b32 => ?_
        refine WL.reblk 0 (.cells ([byteOf x.kind].map byv).toArray 5 (0, 0)) rfl (one_cell _ 5) ?_
        refine WL.nil ?_
        refine WE.toT ?_
        refine WT.e rfl (fun _ h => by have h := Ws.drop (L := [_]) (L' := _) h; exact h) ?_ ?_
        ·
          refine WL.val (.inl rfl) rfl (yl_b2s 0 usl81 ui5 us9 rfl rfl rfl) ?_
          refine WL.nil ?_
          refine WE.toT ?_
          refine WT.q rfl (.inl rfl) rfl (fun _ h => by have h := Ws.drop (L := [_]) (L' := _) h; exact h) (yl_cats rfl rfl (by simp only [List.length_append, textB_len, List.length_singleton]; omega)) ?_
          refine WT.q rfl (.inl rfl) rfl (fun _ h => by have h := Ws.drop (L := [_]) (L' := _) h; exact h) (yl_cats rfl rfl (by simp only [List.length_append, textB_len, List.length_singleton]; omega)) ?_
          refine WT.e rfl (fun _ h => by have h := Ws.drop (L := [_]) (L' := _) h; exact h) ?_ WT.stop
          refine WL.callp (.inl rfl) rfl en52 rfl (fun w hw => numBytes_any _ w) ?_
          refine WL.nil ?_
          refine WE.toT ?_
          refine WT.q rfl (.inl rfl) rfl (fun _ h => by have h := Ws.drop (L := [_]) (L' := _) h; exact h) (yl_cats rfl rfl (by simp only [List.length_append, textB_len, num8_len, List.length_singleton]; omega)) ?_
          refine WT.e rfl (fun _ h => by have h := Ws.drop (L := [_]) (L' := _) h; exact h) ?_ WT.stop
          refine WL.callp (.inl rfl) rfl en52 rfl (fun w hw => numBytes_any _ w) ?_
          refine WL.nil ?_
          refine WE.toT ?_
          refine WT.q rfl (.inl rfl) rfl (fun _ h => by have h := Ws.drop (L := [_]) (L' := _) h; exact h) (yl_cats rfl rfl (by simp only [List.length_append, textB_len, num8_len, List.length_singleton]; omega)) ?_
          refine WT.q rfl (.inl rfl) rfl (fun _ h => by have h := Ws.drop (L := [_]) (L' := _) h; exact h) (yl_assign rfl) ?_
          refine WT.nil (fun _ h => by have h := Ws.drop (L := [_]) (L' := _) h; exact h) ?_
          refine WE.block_normal ?_
          refine WE.then_normal ?_
          refine WC.region ?_
          refine WL.val (.inl rfl) rfl (yl_move rfl) ?_
          refine WL.val (.inl rfl) rfl (yl_inc rfl rfl rfl (by omega)) ?_
          refine WL.val (.inl rfl) rfl (yl_assign rfl) ?_
          refine WL.nil ?_
          rw [show st (textB name ++ [byteOf items.length] ++ (items.take i).flatMap itemB ++ [byteOf x.kind] ++ textB x.name ++ num8 x.n ++ num8 x.pl) = st (textB name ++ [byteOf items.length] ++ (items.take (i + 1)).flatMap itemB) by rw [take_flat hx]; simp [itemB]]
          exact WE.again (i + 1) (by omega) (by omega) (sc rfl (sc rfl (sc rfl (sc rfl sn)))) (fun _ h => Ws.drop (L := [_, _]) h)
        refine WT.e rfl (fun _ h => by have h := Ws.drop (L := [_]) (L' := _) h; exact h) ?_ WT.stop
        refine WL.callp (.inl rfl) rfl en52 rfl (fun w hw => numBytes_any _ w) ?_
        refine WL.nil ?_
        refine WE.toT ?_
        refine WT.e rfl (fun _ h => by have h := Ws.drop (L := [_]) (L' := _) h; exact h) ?_ ?_
        ·
          refine WL.val (.inl rfl) rfl (yl_b2s 0 usl81 ui5 us9 rfl rfl rfl) ?_
          refine WL.nil ?_
          refine WE.toT ?_
          refine WT.q rfl (.inl rfl) rfl (fun _ h => by have h := Ws.drop (L := [_]) (L' := _) h; exact h) (yl_cats rfl rfl (by simp only [List.length_append, textB_len, List.length_singleton]; omega)) ?_
          refine WT.q rfl (.inl rfl) rfl (fun _ h => by have h := Ws.drop (L := [_]) (L' := _) h; exact h) (yl_cats rfl rfl (by simp only [List.length_append, textB_len, List.length_singleton]; omega)) ?_
          refine WT.q rfl (.inl rfl) rfl (fun _ h => by have h := Ws.drop (L := [_]) (L' := _) h; exact h) (yl_cats rfl rfl (by simp only [List.length_append, textB_len, num8_len, List.length_singleton]; omega)) ?_
          refine WT.e rfl (fun _ h => by have h := Ws.drop (L := [_]) (L' := _) h; exact h) ?_ WT.stop
          refine WL.callp (.inl rfl) rfl en52 rfl (fun w hw => numBytes_any _ w) ?_
          refine WL.nil ?_
          refine WE.toT ?_
          refine WT.q rfl (.inl rfl) rfl (fun _ h => by have h := Ws.drop (L := [_]) (L' := _) h; exact h) (yl_cats rfl rfl (by simp only [List.length_append, textB_len, num8_len, List.length_singleton]; omega)) ?_
          refine WT.q rfl (.inl rfl) rfl (fun _ h => by have h := Ws.drop (L := [_]) (L' := _) h; exact h) (yl_assign rfl) ?_
          refine WT.nil (fun _ h => by have h := Ws.drop (L := [_]) (L' := _) h; exact h) ?_
          refine WE.block_normal ?_
          refine WE.then_normal ?_
          refine WC.region ?_
          refine WL.val (.inl rfl) rfl (yl_move rfl) ?_
          refine WL.val (.inl rfl) rfl (yl_inc rfl rfl rfl (by omega)) ?_
          refine WL.val (.inl rfl) rfl (yl_assign rfl) ?_
          refine WL.nil ?_
          rw [show st (textB name ++ [byteOf items.length] ++ (items.take i).flatMap itemB ++ [byteOf x.kind] ++ textB x.name ++ num8 x.n ++ num8 x.pl) = st (textB name ++ [byteOf items.length] ++ (items.take (i + 1)).flatMap itemB) by rw [take_flat hx]; simp [itemB]]
          exact WE.again (i + 1) (by omega) (by omega) (sc rfl (sc rfl (sc rfl (sc rfl sn)))) (fun _ h => Ws.drop (L := [_, _]) h)
        refine WT.e rfl (fun _ h => by have h := Ws.drop (L := [_]) (L' := _) h; exact h) ?_ WT.stop
        refine WL.callp (.inl rfl) rfl en52 rfl (fun w hw => numBytes_any _ w) ?_
        refine WL.nil ?_
        refine WE.toT ?_
        refine WT.e rfl (fun _ h => by have h := Ws.drop (L := [_]) (L' := _) h; exact h) ?_ WT.stop
        refine WL.val (.inl rfl) rfl (yl_b2s 0 usl81 ui5 us9 rfl rfl rfl) ?_
        refine WL.nil ?_
        refine WE.toT ?_
        refine WT.q rfl (.inl rfl) rfl (fun _ h => by have h := Ws.drop (L := [_]) (L' := _) h; exact h) (yl_cats rfl rfl (by simp only [List.length_append, textB_len, List.length_singleton]; omega)) ?_
        refine WT.q rfl (.inl rfl) rfl (fun _ h => by have h := Ws.drop (L := [_]) (L' := _) h; exact h) (yl_cats rfl rfl (by simp only [List.length_append, textB_len, List.length_singleton]; omega)) ?_
        refine WT.q rfl (.inl rfl) rfl (fun _ h => by have h := Ws.drop (L := [_]) (L' := _) h; exact h) (yl_cats rfl rfl (by simp only [List.length_append, textB_len, num8_len, List.length_singleton]; omega)) ?_
        refine WT.q rfl (.inl rfl) rfl (fun _ h => by have h := Ws.drop (L := [_]) (L' := _) h; exact h) (yl_cats rfl rfl (by simp only [List.length_append, textB_len, num8_len, List.length_singleton]; omega)) ?_
        refine WT.q rfl (.inl rfl) rfl (fun _ h => by have h := Ws.drop (L := [_]) (L' := _) h; exact h) (yl_assign rfl) ?_
        refine WT.nil (fun _ h => by have h := Ws.drop (L := [_]) (L' := _) h; exact h) ?_
        refine WE.block_normal ?_
        refine WE.then_normal ?_
        refine WC.region ?_
        refine WL.val (.inl rfl) rfl (yl_move rfl) ?_
        refine WL.val (.inl rfl) rfl (yl_inc rfl rfl rfl (by omega)) ?_
        refine WL.val (.inl rfl) rfl (yl_assign rfl) ?_
        refine WL.nil ?_
        rw [show st (textB name ++ [byteOf items.length] ++ (items.take i).flatMap itemB ++ [byteOf x.kind] ++ textB x.name ++ num8 x.n ++ num8 x.pl) = st (textB name ++ [byteOf items.length] ++ (items.take (i + 1)).flatMap itemB) by rw [take_flat hx]; simp [itemB]]
        exact WE.again (i + 1) (by omega) (by omega) (sc rfl (sc rfl (sc rfl (sc rfl sn)))) (fun _ h => Ws.drop (L := [_, _]) h)
      refine WT.e rfl (fun _ h => h) ?_ WT.stop
      refine WL.callp (.inl rfl) rfl en52 rfl (fun w hw => numBytes_any _ w) ?_
      refine WL.nil ?_
      refine WE.toT ?_
      refine WT.e rfl (fun _ h => h) ?_ ?_
      ·
        refine WL.bsliceF (.inl rfl) rfl el81 rfl rfl rfl rfl fun b32 => ?_
        refine WL.reblk 0 (.cells ([byteOf x.kind].map byv).toArray 5 (0, 0)) rfl (one_cell _ 5) ?_
        refine WL.nil ?_
        refine WE.toT ?_
        refine WT.e rfl (fun _ h => by have h := Ws.drop (L := [_]) (L' := _) h; exact h) ?_ ?_
        ·
          refine WL.val (.inl rfl) rfl (yl_b2s 0 usl81 ui5 us9 rfl rfl rfl) ?_
          refine WL.nil ?_
          refine WE.toT ?_
          refine WT.q rfl (.inl rfl) rfl (fun _ h => by have h := Ws.drop (L := [_]) (L' := _) h; exact h) (yl_cats rfl rfl (by simp only [List.length_append, textB_len, List.length_singleton]; omega)) ?_
          refine WT.q rfl (.inl rfl) rfl (fun _ h => by have h := Ws.drop (L := [_]) (L' := _) h; exact h) (yl_cats rfl rfl (by simp only [List.length_append, textB_len, List.length_singleton]; omega)) ?_
          refine WT.q rfl (.inl rfl) rfl (fun _ h => by have h := Ws.drop (L := [_]) (L' := _) h; exact h) (yl_cats rfl rfl (by simp only [List.length_append, textB_len, num8_len, List.length_singleton]; omega)) ?_
          refine WT.e rfl (fun _ h => by have h := Ws.drop (L := [_]) (L' := _) h; exact h) ?_ WT.stop
          refine WL.callp (.inl rfl) rfl en52 rfl (fun w hw => numBytes_any _ w) ?_
          refine WL.nil ?_
          refine WE.toT ?_
          refine WT.q rfl (.inl rfl) rfl (fun _ h => by have h := Ws.drop (L := [_]) (L' := _) h; exact h) (yl_cats rfl rfl (by simp only [List.length_append, textB_len, num8_len, List.length_singleton]; omega)) ?_
          refine WT.q rfl (.inl rfl) rfl (fun _ h => by have h := Ws.drop (L := [_]) (L' := _) h; exact h) (yl_assign rfl) ?_
          refine WT.nil (fun _ h => by have h := Ws.drop (L := [_]) (L' := _) h; exact h) ?_
          refine WE.block_normal ?_
          refine WE.then_normal ?_
          refine WC.region ?_
          refine WL.val (.inl rfl) rfl (yl_move rfl) ?_
          refine WL.val (.inl rfl) rfl (yl_inc rfl rfl rfl (by omega)) ?_
          refine WL.val (.inl rfl) rfl (yl_assign rfl) ?_
          refine WL.nil ?_
          rw [show st (textB name ++ [byteOf items.length] ++ (items.take i).flatMap itemB ++ [byteOf x.kind] ++ textB x.name ++ num8 x.n ++ num8 x.pl) = st (textB name ++ [byteOf items.length] ++ (items.take (i + 1)).flatMap itemB) by rw [take_flat hx]; simp [itemB]]
          exact WE.again (i + 1) (by omega) (by omega) (sc rfl (sc rfl (sc rfl (sc rfl sn)))) (fun _ h => Ws.drop (L := [_, _]) h)
        refine WT.e rfl (fun _ h => by have h := Ws.drop (L := [_]) (L' := _) h; exact h) ?_ WT.stop
        refine WL.callp (.inl rfl) rfl en52 rfl (fun w hw => numBytes_any _ w) ?_
        refine WL.nil ?_
        refine WE.toT ?_
        refine WT.e rfl (fun _ h => by have h := Ws.drop (L := [_]) (L' := _) h; exact h) ?_ WT.stop
        refine WL.val (.inl rfl) rfl (yl_b2s 0 usl81 ui5 us9 rfl rfl rfl) ?_
        refine WL.nil ?_
        refine WE.toT ?_
        refine WT.q rfl (.inl rfl) rfl (fun _ h => by have h := Ws.drop (L := [_]) (L' := _) h; exact h) (yl_cats rfl rfl (by simp only [List.length_append, textB_len, List.length_singleton]; omega)) ?_
        refine WT.q rfl (.inl rfl) rfl (fun _ h => by have h := Ws.drop (L := [_]) (L' := _) h; exact h) (yl_cats rfl rfl (by simp only [List.length_append, textB_len, List.length_singleton]; omega)) ?_
        refine WT.q rfl (.inl rfl) rfl (fun _ h => by have h := Ws.drop (L := [_]) (L' := _) h; exact h) (yl_cats rfl rfl (by simp only [List.length_append, textB_len, num8_len, List.length_singleton]; omega)) ?_
        refine WT.q rfl (.inl rfl) rfl (fun _ h => by have h := Ws.drop (L := [_]) (L' := _) h; exact h) (yl_cats rfl rfl (by simp only [List.length_append, textB_len, num8_len, List.length_singleton]; omega)) ?_
        refine WT.q rfl (.inl rfl) rfl (fun _ h => by have h := Ws.drop (L := [_]) (L' := _) h; exact h) (yl_assign rfl) ?_
        refine WT.nil (fun _ h => by have h := Ws.drop (L := [_]) (L' := _) h; exact h) ?_
        refine WE.block_normal ?_
        refine WE.then_normal ?_
        refine WC.region ?_
        refine WL.val (.inl rfl) rfl (yl_move rfl) ?_
        refine WL.val (.inl rfl) rfl (yl_inc rfl rfl rfl (by omega)) ?_
        refine WL.val (.inl rfl) rfl (yl_assign rfl) ?_
        refine WL.nil ?_
        rw [show st (textB name ++ [byteOf items.length] ++ (items.take i).flatMap itemB ++ [byteOf x.kind] ++ textB x.name ++ num8 x.n ++ num8 x.pl) = st (textB name ++ [byteOf items.length] ++ (items.take (i + 1)).flatMap itemB) by rw [take_flat hx]; simp [itemB]]
        exact WE.again (i + 1) (by omega) (by omega) (sc rfl (sc rfl (sc rfl (sc rfl sn)))) (fun _ h => Ws.drop (L := [_, _]) h)
      refine WT.e rfl (fun _ h => h) ?_ WT.stop
      refine WL.callp (.inl rfl) rfl en52 rfl (fun w hw => numBytes_any _ w) ?_
      refine WL.nil ?_
      refine WE.toT ?_
      refine WT.e rfl (fun _ h => h) ?_ WT.stop
      refine WL.bsliceF (.inl rfl) rfl el81 rfl rfl rfl rfl fun b32 => ?_
      refine WL.reblk 0 (.cells ([byteOf x.kind].map byv).toArray 5 (0, 0)) rfl (one_cell _ 5) ?_
      refine WL.nil ?_
      refine WE.toT ?_
      refine WT.e rfl (fun _ h => by have h := Ws.drop (L := [_]) (L' := _) h; exact h) ?_ WT.stop
      refine WL.val (.inl rfl) rfl (yl_b2s 0 usl81 ui5 us9 rfl rfl rfl) ?_
      refine WL.nil ?_
      refine WE.toT ?_
      refine WT.q rfl (.inl rfl) rfl (fun _ h => by have h := Ws.drop (L := [_]) (L' := _) h; exact h) (yl_cats rfl rfl (by simp only [List.length_append, textB_len, List.length_singleton]; omega)) ?_
      refine WT.q rfl (.inl rfl) rfl (fun _ h => by have h := Ws.drop (L := [_]) (L' := _) h; exact h) (yl_cats rfl rfl (by simp only [List.length_append, textB_len, List.length_singleton]; omega)) ?_
      refine WT.q rfl (.inl rfl) rfl (fun _ h => by have h := Ws.drop (L := [_]) (L' := _) h; exact h) (yl_cats rfl rfl (by simp only [List.length_append, textB_len, num8_len, List.length_singleton]; omega)) ?_
      refine WT.q rfl (.inl rfl) rfl (fun _ h => by have h := Ws.drop (L := [_]) (L' := _) h; exact h) (yl_cats rfl rfl (by simp only [List.length_append, textB_len, num8_len, List.length_singleton]; omega)) ?_
      refine WT.q rfl (.inl rfl) rfl (fun _ h => by have h := Ws.drop (L := [_]) (L' := _) h; exact h) (yl_assign rfl) ?_
      refine WT.nil (fun _ h => by have h := Ws.drop (L := [_]) (L' := _) h; exact h) ?_
      refine WE.block_normal ?_
      refine WE.then_normal ?_
      refine WC.region ?_
      refine WL.val (.inl rfl) rfl (yl_move rfl) ?_
      refine WL.val (.inl rfl) rfl (yl_inc rfl rfl rfl (by omega)) ?_
      refine WL.val (.inl rfl) rfl (yl_assign rfl) ?_
      refine WL.nil ?_
      rw [show st (textB name ++ [byteOf items.length] ++ (items.take i).flatMap itemB ++ [byteOf x.kind] ++ textB x.name ++ num8 x.n ++ num8 x.pl) = st (textB name ++ [byteOf items.length] ++ (items.take (i + 1)).flatMap itemB) by rw [take_flat hx]; simp [itemB]]
      exact WE.again (i + 1) (by omega) (by omega) (sc rfl (sc rfl (sc rfl (sc rfl sn)))) (fun _ h => Ws.drop (L := [_, _]) h)
    ·
      have hie : i = items.length := by simp at hc0; omega
      refine WC.exit ?_
      refine WE.then_exit ?_
      refine WE.then_exit ?_
      refine WE.block_hit ?_
      refine WE.then_normal ?_
      refine WC.seq ?_
      refine WC.region ?_
      refine WL.val (.inl rfl) rfl (yl_move rfl) ?_
      refine WL.val (.inl rfl) rfl (yl_assign rfl) ?_
      refine WL.nil ?_
      refine WE.then_normal ?_
      refine WC.ret ?_
      refine WE.ret1 rfl rfl fun w' hw => ?_
      exact ⟨by rw [hie, List.take_length]; rfl, hw.fr⟩
  refine WT.e rfl (fun _ h => by have h := Ws.drop (L := [_]) (L' := _) h; exact h) ?_ WT.stop
  refine WL.val (.inl rfl) rfl (yl_b2s 0 usl81 ui5 us9 rfl rfl rfl) ?_
  refine WL.nil ?_
  refine WE.toT ?_
  refine WT.e rfl (fun _ h => by have h := Ws.drop (L := [_]) (L' := _) h; exact h) ?_ WT.stop
  refine WL.callp (.inl rfl) rfl en51 rfl (fun w hw => textBytes_any _ w (by omega)) ?_
  refine WL.nil ?_
  refine WE.toT ?_
  refine WT.q rfl (.inl rfl) rfl (fun _ h => by have h := Ws.drop (L := [_]) (L' := _) h; exact h) (yl_cats rfl rfl (by simp [textB_len]; omega)) ?_
  refine WT.q rfl (.inl rfl) rfl (fun _ h => by have h := Ws.drop (L := [_]) (L' := _) h; exact h) (yl_assign rfl) ?_
  refine WT.nil (fun _ h => by have h := Ws.drop (L := [_]) (L' := _) h; exact h) ?_
  refine WE.then_normal ?_
  refine WC.seq ?_
  refine WC.seq ?_
  refine WC.region ?_
  refine WL.val (.inl rfl) rfl (yl_assign rfl) ?_
  refine WL.nil ?_
  refine WE.then_normal ?_
  refine WC.block ?_
  rw [show st (textB name ++ [byteOf items.length]) = st (textB name ++ [byteOf items.length] ++ (items.take 0).flatMap itemB) by simp]
  refine WC.loopW (ι := Nat) (fun i => [(4, .int .i64 (i : Int)), (3, st (textB name ++ [byteOf items.length] ++ (items.take i).flatMap itemB))]) [(1, _), (2, _)] (fun i => i ≤ items.length) (fun i => items.length - i) 0 (Nat.zero_le _) (sc rfl (sc rfl (sc rfl (sc rfl sn)))) ?_
  intro i hi
  refine WC.seq ?_
  refine WC.seq ?_
  refine WC.region ?_
  refine WL.val (.inl rfl) rfl (yl_move rfl) ?_
  refine WL.val (.inl rfl) rfl (yl_fa fo39_1 rfl) ?_
  refine WL.val (.inl rfl) rfl (yl_ldk 1 rfl rfl rfl na37) ?_
  refine WL.val (.inl rfl) rfl (yl_len es37 rfl) ?_
  refine WL.val (.inl rfl) rfl (yl_lt rfl rfl) ?_
  refine WL.nil ?_
  refine WE.then_normal ?_
  refine WC.cond rfl (fun hc0 => ?_) (fun hc0 => ?_)
  ·
    have hlt : i < items.length := by simpa using hc0
    obtain ⟨x, hx⟩ : ∃ x, items[i]? = some x := ⟨_, List.getElem?_eq_getElem hlt⟩
    obtain ⟨pb, po, ha, hrow⟩ := hm.elt i x hx
    have hrow : RdC H pb (po + i * 4) x.cells := hrow
    have hxn := hns x (List.mem_of_getElem? hx)
    have hts := take_small hns i
    refine WC.skip ?_
    refine WE.then_normal ?_
    refine WC.seq ?_
    refine WC.block ?_
    refine WC.seq ?_
    refine WC.region ?_
    refine WL.val (.inl rfl) rfl (yl_fa fo39_1 rfl) ?_
    refine WL.val (.inl rfl) rfl (yl_ldk 1 rfl rfl rfl na37) ?_
    refine WL.val (.inl rfl) rfl (yl_move rfl) ?_
    refine WL.val (.inl rfl) rfl (yl_iao es37 rfl rfl ha (by omega)) ?_
    refine WL.val (.inl rfl) rfl (yl_lda 0 ag88 rfl rfl rfl (hrow)) ?_
    refine WL.alloc (.inl rfl) rfl zr88 fun b5 => ?_
    refine WL.store 0 (.inl rfl) rfl rfl rfl sz88 rfl rfl rfl ?_
    refine WL.nil ?_
    refine WE.then_normal ?_
    refine WC.drawt0 (.q 0 (.q 1 (.q 2 (.q 3 (.q 7 (.q 8 (.q 11 (.q 12 (.q 15 (.q 16 (.e 4 (.e 5 (.q 6 (.e 9 (.q 10 (.e 13 (.q 14 (.e 17 (.q 18 (.q 19 .nil)) .stop)) .stop)) .stop)) (.e 9 (.e 5 (.q 6 (.q 10 (.e 13 (.q 14 (.e 17 (.q 18 (.q 19 .nil)) .stop)) .stop))) (.e 13 (.e 5 (.q 6 (.q 10 (.q 14 (.e 17 (.q 18 (.q 19 .nil)) .stop)))) (.e 17 (.e 5 (.q 6 (.q 10 (.q 14 (.q 18 (.q 19 .nil))))) .stop) .stop)) .stop)) .stop)) (.e 9 (.e 4 (.e 5 (.q 6 (.q 10 (.e 13 (.q 14 (.e 17 (.q 18 (.q 19 .nil)) .stop)) .stop))) (.e 13 (.e 5 (.q 6 (.q 10 (.q 14 (.e 17 (.q 18 (.q 19 .nil)) .stop)))) (.e 17 (.e 5 (.q 6 (.q 10 (.q 14 (.q 18 (.q 19 .nil))))) .stop) .stop)) .stop)) (.e 13 (.e 4 (.e 5 (.q 6 (.q 10 (.q 14 (.e 17 (.q 18 (.q 19 .nil)) .stop)))) (.e 17 (.e 5 (.q 6 (.q 10 (.q 14 (.q 18 (.q 19 .nil))))) .stop) .stop)) (.e 17 (.e 4 (.e 5 (.q 6 (.q 10 (.q 14 (.q 18 (.q 19 .nil))))) .stop) .stop) .stop)) .stop)) .stop)))))))))))) mixed (by kernel_rfl) (fun _ _ _ d _ h => by cases d <;> exact h) ?_
    refine WT.q rfl (.inl rfl) rfl (fun _ h => h) (yl_move rfl) ?_
    refine WT.q rfl (.inl rfl) rfl (fun _ h => h) (yl_fa fo88_0 rfl) ?_
    refine WT.q rfl (.inl rfl) rfl (fun _ h => h) (yl_ldk 0 rfl rfl rfl na3) ?_
    refine WT.q rfl (.inl rfl) rfl (fun _ h => h) (yl_cvi ui3 ui5 rfl) ?_
    refine WT.q rfl (.inl rfl) rfl (fun _ h => h) (yl_fa fo88_3 rfl) ?_
    refine WT.q rfl (.inl rfl) rfl (fun _ h => h) (yl_ldk 0 rfl rfl rfl na9) ?_
    refine WT.q rfl (.inl rfl) rfl (fun _ h => h) (yl_fa fo88_1 rfl) ?_
    refine WT.q rfl (.inl rfl) rfl (fun _ h => h) (yl_ldk 0 rfl rfl rfl na3) ?_
    refine WT.q rfl (.inl rfl) rfl (fun _ h => h) (yl_fa fo88_2 rfl) ?_
    refine WT.q rfl (.inl rfl) rfl (fun _ h => h) (yl_ldk 0 rfl rfl rfl na3) ?_
    refine WT.e rfl (fun _ h => h) ?_ ?_
    ·
      refine WL.bsliceF (.inl rfl) rfl el81 rfl rfl rfl rfl fun b32 => ?_
      refine WL.reblk 0 (.cells ([byteOf x.kind].map byv).toArray 5 (0, 0)) rfl (one_cell _ 5) ?_
      refine WL.nil ?_
      refine WE.toT ?_
      refine WT.e rfl (fun _ h => by have h := Ws.drop (L := [_]) (L' := _) h; exact h) ?_ ?_
      ·
        refine WL.val (.inl rfl) rfl (yl_b2s 0 usl81 ui5 us9 rfl rfl rfl) ?_
        refine WL.nil ?_
        refine WE.toT ?_
        refine WT.q rfl (.inl rfl) rfl (fun _ h => by have h := Ws.drop (L := [_]) (L' := _) h; exact h) (yl_cats rfl rfl (by simp only [List.length_append, textB_len, List.length_singleton]; omega)) ?_
        refine WT.e rfl (fun _ h => by have h := Ws.drop (L := [_]) (L' := _) h; exact h) ?_ WT.stop
        refine WL.callp (.inl rfl) rfl en51 rfl (fun w hw => textBytes_any _ w (by omega)) ?_
        refine WL.nil ?_
        refine WE.toT ?_
        refine WT.q rfl (.inl rfl) rfl (fun _ h => by have h := Ws.drop (L := [_]) (L' := _) h; exact h) (yl_cats rfl rfl (by simp only [List.length_append, textB_len, List.length_singleton]; omega)) ?_
        refine WT.e rfl (fun _ h => by have h := Ws.drop (L := [_]) (L' := _) h; exact h) ?_ WT.stop
        refine WL.callp (.inl rfl) rfl en52 rfl (fun w hw => numBytes_any _ w) ?_
        refine WL.nil ?_
        refine WE.toT ?_
        refine WT.q rfl (.inl rfl) rfl (fun _ h => by have h := Ws.drop (L := [_]) (L' := _) h; exact h) (yl_cats rfl rfl (by simp only [List.length_append, textB_len, num8_len, List.length_singleton]; omega)) ?_
        refine WT.e rfl (fun _ h => by have h := Ws.drop (L := [_]) (L' := _) h; exact h) ?_ WT.stop
        refine WL.callp (.inl rfl) rfl en52 rfl (fun w hw => numBytes_any _ w) ?_
        refine WL.nil ?_
        refine WE.toT ?_
        refine WT.q rfl (.inl rfl) rfl (fun _ h => by have h := Ws.drop (L := [_]) (L' := _) h; exact h) (yl_cats rfl rfl (by simp only [List.length_append, textB_len, num8_len, List.length_singleton]; omega)) ?_
        refine WT.q rfl (.inl rfl) rfl (fun _ h => by have h := Ws.drop (L := [_]) (L' := _) h; exact h) (yl_assign rfl) ?_
        refine WT.nil (fun _ h => by have h := Ws.drop (L := [_]) (L' := _) h; exact h) ?_
        refine WE.block_normal ?_
        refine WE.then_normal ?_
        refine WC.region ?_
        refine WL.val (.inl rfl) rfl (yl_move rfl) ?_
        refine WL.val (.inl rfl) rfl (yl_inc rfl rfl rfl (by omega)) ?_
        refine WL.val (.inl rfl) rfl (yl_assign rfl) ?_
        refine WL.nil ?_
        rw [show st (textB name ++ [byteOf items.length] ++ (items.take i).flatMap itemB ++ [byteOf x.kind] ++ textB x.name ++ num8 x.n ++ num8 x.pl) = st (textB name ++ [byteOf items.length] ++ (items.take (i + 1)).flatMap itemB) by rw [take_flat hx]; simp [itemB]]
        exact WE.again (i + 1) (by omega) (by omega) (sc rfl (sc rfl (sc rfl (sc rfl sn)))) (fun _ h => Ws.drop (L := [_, _]) h)
      refine WT.e rfl (fun _ h => by have h := Ws.drop (L := [_]) (L' := _) h; exact h) ?_ WT.stop
      refine WL.callp (.inl rfl) rfl en51 rfl (fun w hw => textBytes_any _ w (by omega)) ?_
      refine WL.nil ?_
      refine WE.toT ?_
      refine WT.e rfl (fun _ h => by have h := Ws.drop (L := [_]) (L' := _) h; exact h) ?_ ?_
      ·
        refine WL.val (.inl rfl) rfl (yl_b2s 0 usl81 ui5 us9 rfl rfl rfl) ?_
        refine WL.nil ?_
        refine WE.toT ?_
        refine WT.q rfl (.inl rfl) rfl (fun _ h => by have h := Ws.drop (L := [_]) (L' := _) h; exact h) (yl_cats rfl rfl (by simp only [List.length_append, textB_len, List.length_singleton]; omega)) ?_
        refine WT.q rfl (.inl rfl) rfl (fun _ h => by have h := Ws.drop (L := [_]) (L' := _) h; exact h) (yl_cats rfl rfl (by simp only [List.length_append, textB_len, List.length_singleton]; omega)) ?_
        refine WT.e rfl (fun _ h => by have h := Ws.drop (L := [_]) (L' := _) h; exact h) ?_ WT.stop
        refine WL.callp (.inl rfl) rfl en52 rfl (fun w hw => numBytes_any _ w) ?_
        refine WL.nil ?_
        refine WE.toT ?_
        refine WT.q rfl (.inl rfl) rfl (fun _ h => by have h := Ws.drop (L := [_]) (L' := _) h; exact h) (yl_cats rfl rfl (by simp only [List.length_append, textB_len, num8_len, List.length_singleton]; omega)) ?_
        refine WT.e rfl (fun _ h => by have h := Ws.drop (L := [_]) (L' := _) h; exact h) ?_ WT.stop
        refine WL.callp (.inl rfl) rfl en52 rfl (fun w hw => numBytes_any _ w) ?_
        refine WL.nil ?_
        refine WE.toT ?_
        refine WT.q rfl (.inl rfl) rfl (fun _ h => by have h := Ws.drop (L := [_]) (L' := _) h; exact h) (yl_cats rfl rfl (by simp only [List.length_append, textB_len, num8_len, List.length_singleton]; omega)) ?_
        refine WT.q rfl (.inl rfl) rfl (fun _ h => by have h := Ws.drop (L := [_]) (L' := _) h; exact h) (yl_assign rfl) ?_
        refine WT.nil (fun _ h => by have h := Ws.drop (L := [_]) (L' := _) h; exact h) ?_
        refine WE.block_normal ?_
        refine WE.then_normal ?_
        refine WC.region ?_
        refine WL.val (.inl rfl) rfl (yl_move rfl) ?_
        refine WL.val (.inl rfl) rfl (yl_inc rfl rfl rfl (by omega)) ?_
        refine WL.val (.inl rfl) rfl (yl_assign rfl) ?_
        refine WL.nil ?_
        rw [show st (textB name ++ [byteOf items.length] ++ (items.take i).flatMap itemB ++ [byteOf x.kind] ++ textB x.name ++ num8 x.n ++ num8 x.pl) = st (textB name ++ [byteOf items.length] ++ (items.take (i + 1)).flatMap itemB) by rw [take_flat hx]; simp [itemB]]
        exact WE.again (i + 1) (by omega) (by omega) (sc rfl (sc rfl (sc rfl (sc rfl sn)))) (fun _ h => Ws.drop (L := [_, _]) h)
      refine WT.e rfl (fun _ h => by have h := Ws.drop (L := [_]) (L' := _) h; exact h) ?_ WT.stop
      refine WL.callp (.inl rfl) rfl en52 rfl (fun w hw => numBytes_any _ w) ?_
      refine WL.nil ?_
      refine WE.toT ?_
      refine WT.e rfl (fun _ h => by have h := Ws.drop (L := [_]) (L' := _) h; exact h) ?_ ?_
      ·
        refine WL.val (.inl rfl) rfl (yl_b2s 0 usl81 ui5 us9 rfl rfl rfl) ?_
        refine WL.nil ?_
        refine WE.toT ?_
        refine WT.q rfl (.inl rfl) rfl (fun _ h => by have h := Ws.drop (L := [_]) (L' := _) h; exact h) (yl_cats rfl rfl (by simp only [List.length_append, textB_len, List.length_singleton]; omega)) ?_
        refine WT.q rfl (.inl rfl) rfl (fun _ h => by have h := Ws.drop (L := [_]) (L' := _) h; exact h) (yl_cats rfl rfl (by simp only [List.length_append, textB_len, List.length_singleton]; omega)) ?_
        refine WT.q rfl (.inl rfl) rfl (fun _ h => by have h := Ws.drop (L := [_]) (L' := _) h; exact h) (yl_cats rfl rfl (by simp only [List.length_append, textB_len, num8_len, List.length_singleton]; omega)) ?_
        refine WT.e rfl (fun _ h => by have h := Ws.drop (L := [_]) (L' := _) h; exact h) ?_ WT.stop
        refine WL.callp (.inl rfl) rfl en52 rfl (fun w hw => numBytes_any _ w) ?_
        refine WL.nil ?_
        refine WE.toT ?_
        refine WT.q rfl (.inl rfl) rfl (fun _ h => by have h := Ws.drop (L := [_]) (L' := _) h; exact h) (yl_cats rfl rfl (by simp only [List.length_append, textB_len, num8_len, List.length_singleton]; omega)) ?_
        refine WT.q rfl (.inl rfl) rfl (fun _ h => by have h := Ws.drop (L := [_]) (L' := _) h; exact h) (yl_assign rfl) ?_
        refine WT.nil (fun _ h => by have h := Ws.drop (L := [_]) (L' := _) h; exact h) ?_
        refine WE.block_normal ?_
        refine WE.then_normal ?_
        refine WC.region ?_
        refine WL.val (.inl rfl) rfl (yl_move rfl) ?_
        refine WL.val (.inl rfl) rfl (yl_inc rfl rfl rfl (by omega)) ?_
        refine WL.val (.inl rfl) rfl (yl_assign rfl) ?_
        refine WL.nil ?_
        rw [show st (textB name ++ [byteOf items.length] ++ (items.take i).flatMap itemB ++ [byteOf x.kind] ++ textB x.name ++ num8 x.n ++ num8 x.pl) = st (textB name ++ [byteOf items.length] ++ (items.take (i + 1)).flatMap itemB) by rw [take_flat hx]; simp [itemB]]
        exact WE.again (i + 1) (by omega) (by omega) (sc rfl (sc rfl (sc rfl (sc rfl sn)))) (fun _ h => Ws.drop (L := [_, _]) h)
      refine WT.e rfl (fun _ h => by have h := Ws.drop (L := [_]) (L' := _) h; exact h) ?_ WT.stop
      refine WL.callp (.inl rfl) rfl en52 rfl (fun w hw => numBytes_any _ w) ?_
      refine WL.nil ?_
      refine WE.toT ?_
      refine WT.e rfl (fun _ h => by have h := Ws.drop (L := [_]) (L' := _) h; exact h) ?_ WT.stop
      refine WL.val (.inl rfl) rfl (yl_b2s 0 usl81 ui5 us9 rfl rfl rfl) ?_
      refine WL.nil ?_
      refine WE.toT ?_
      refine WT.q rfl (.inl rfl) rfl (fun _ h => by have h := Ws.drop (L := [_]) (L' := _) h; exact h) (yl_cats rfl rfl (by simp only [List.length_append, textB_len, List.length_singleton]; omega)) ?_
      refine WT.q rfl (.inl rfl) rfl (fun _ h => by have h := Ws.drop (L := [_]) (L' := _) h; exact h) (yl_cats rfl rfl (by simp only [List.length_append, textB_len, List.length_singleton]; omega)) ?_
      refine WT.q rfl (.inl rfl) rfl (fun _ h => by have h := Ws.drop (L := [_]) (L' := _) h; exact h) (yl_cats rfl rfl (by simp only [List.length_append, textB_len, num8_len, List.length_singleton]; omega)) ?_
      refine WT.q rfl (.inl rfl) rfl (fun _ h => by have h := Ws.drop (L := [_]) (L' := _) h; exact h) (yl_cats rfl rfl (by simp only [List.length_append, textB_len, num8_len, List.length_singleton]; omega)) ?_
      refine WT.q rfl (.inl rfl) rfl (fun _ h => by have h := Ws.drop (L := [_]) (L' := _) h; exact h) (yl_assign rfl) ?_
      refine WT.nil (fun _ h => by have h := Ws.drop (L := [_]) (L' := _) h; exact h) ?_
      refine WE.block_normal ?_
      refine WE.then_normal ?_
      refine WC.region ?_
      refine WL.val (.inl rfl) rfl (yl_move rfl) ?_
      refine WL.val (.inl rfl) rfl (yl_inc rfl rfl rfl (by omega)) ?_
      refine WL.val (.inl rfl) rfl (yl_assign rfl) ?_
      refine WL.nil ?_
      rw [show st (textB name ++ [byteOf items.length] ++ (items.take i).flatMap itemB ++ [byteOf x.kind] ++ textB x.name ++ num8 x.n ++ num8 x.pl) = st (textB name ++ [byteOf items.length] ++ (items.take (i + 1)).flatMap itemB) by rw [take_flat hx]; simp [itemB]]
      exact WE.again (i + 1) (by omega) (by omega) (sc rfl (sc rfl (sc rfl (sc rfl sn)))) (fun _ h => Ws.drop (L := [_, _]) h)
    refine WT.e rfl (fun _ h => h) ?_ WT.stop
    refine WL.callp (.inl rfl) rfl en51 rfl (fun w hw => textBytes_any _ w (by omega)) ?_
    refine WL.nil ?_
    refine WE.toT ?_
    refine WT.e rfl (fun _ h => h) ?_ ?_
    ·
      refine WL.bsliceF (.inl rfl) rfl el81 rfl rfl rfl rfl fun b32 => ?_
      refine WL.reblk 0 (.cells ([byteOf x.kind].map byv).toArray 5 (0, 0)) rfl (one_cell _ 5) ?_
      refine WL.nil ?_
      refine WE.toT ?_
      refine WT.e rfl (fun _ h => by have h := Ws.drop (L := [_]) (L' := _) h; exact h) ?_ ?_
      ·
        refine WL.val (.inl rfl) rfl (yl_b2s 0 usl81 ui5 us9 rfl rfl rfl) ?_
        refine WL.nil ?_
        refine WE.toT ?_
        refine WT.q rfl (.inl rfl) rfl (fun _ h => by have h := Ws.drop (L := [_]) (L' := _) h; exact h) (yl_cats rfl rfl (by simp only [List.length_append, textB_len, List.length_singleton]; omega)) ?_
        refine WT.q rfl (.inl rfl) rfl (fun _ h => by have h := Ws.drop (L := [_]) (L' := _) h; exact h) (yl_cats rfl rfl (by simp only [List.length_append, textB_len, List.length_singleton]; omega)) ?_
        refine WT.e rfl (fun _ h => by have h := Ws.drop (L := [_]) (L' := _) h; exact h) ?_ WT.stop
        refine WL.callp (.inl rfl) rfl en52 rfl (fun w hw => numBytes_any _ w) ?_
        refine WL.nil ?_
        refine WE.toT ?_
        refine WT.q rfl (.inl rfl) rfl (fun _ h => by have h := Ws.drop (L := [_]) (L' := _) h; exact h) (yl_cats rfl rfl (by simp only [List.length_append, textB_len, num8_len, List.length_singleton]; omega)) ?_
        refine WT.e rfl (fun _ h => by have h := Ws.drop (L := [_]) (L' := _) h; exact h) ?_ WT.stop
        refine WL.callp (.inl rfl) rfl en52 rfl (fun w hw => numBytes_any _ w) ?_
        refine WL.nil ?_
        refine WE.toT ?_
        refine WT.q rfl (.inl rfl) rfl (fun _ h => by have h := Ws.drop (L := [_]) (L' := _) h; exact h) (yl_cats rfl rfl (by simp only [List.length_append, textB_len, num8_len, List.length_singleton]; omega)) ?_
        refine WT.q rfl (.inl rfl) rfl (fun _ h => by have h := Ws.drop (L := [_]) (L' := _) h; exact h) (yl_assign rfl) ?_
        refine WT.nil (fun _ h => by have h := Ws.drop (L := [_]) (L' := _) h; exact h) ?_
        refine WE.block_normal ?_
        refine WE.then_normal ?_
        refine WC.region ?_
        refine WL.val (.inl rfl) rfl (yl_move rfl) ?_
        refine WL.val (.inl rfl) rfl (yl_inc rfl rfl rfl (by omega)) ?_
        refine WL.val (.inl rfl) rfl (yl_assign rfl) ?_
        refine WL.nil ?_
        rw [show st (textB name ++ [byteOf items.length] ++ (items.take i).flatMap itemB ++ [byteOf x.kind] ++ textB x.name ++ num8 x.n ++ num8 x.pl) = st (textB name ++ [byteOf items.length] ++ (items.take (i + 1)).flatMap itemB) by rw [take_flat hx]; simp [itemB]]
        exact WE.again (i + 1) (by omega) (by omega) (sc rfl (sc rfl (sc rfl (sc rfl sn)))) (fun _ h => Ws.drop (L := [_, _]) h)
      refine WT.e rfl (fun _ h => by have h := Ws.drop (L := [_]) (L' := _) h; exact h) ?_ WT.stop
      refine WL.callp (.inl rfl) rfl en52 rfl (fun w hw => numBytes_any _ w) ?_
      refine WL.nil ?_
      refine WE.toT ?_
      refine WT.e rfl (fun _ h => by have h := Ws.drop (L := [_]) (L' := _) h; exact h) ?_ ?_
      ·
        refine WL.val (.inl rfl) rfl (yl_b2s 0 usl81 ui5 us9 rfl rfl rfl) ?_
        refine WL.nil ?_
        refine WE.toT ?_
        refine WT.q rfl (.inl rfl) rfl (fun _ h => by have h := Ws.drop (L := [_]) (L' := _) h; exact h) (yl_cats rfl rfl (by simp only [List.length_append, textB_len, List.length_singleton]; omega)) ?_
        refine WT.q rfl (.inl rfl) rfl (fun _ h => by have h := Ws.drop (L := [_]) (L' := _) h; exact h) (yl_cats rfl rfl (by simp only [List.length_append, textB_len, List.length_singleton]; omega)) ?_
        refine WT.q rfl (.inl rfl) rfl (fun _ h => by have h := Ws.drop (L := [_]) (L' := _) h; exact h) (yl_cats rfl rfl (by simp only [List.length_append, textB_len, num8_len, List.length_singleton]; omega)) ?_
        refine WT.e rfl (fun _ h => by have h := Ws.drop (L := [_]) (L' := _) h; exact h) ?_ WT.stop
        refine WL.callp (.inl rfl) rfl en52 rfl (fun w hw => numBytes_any _ w) ?_
        refine WL.nil ?_
        refine WE.toT ?_
        refine WT.q rfl (.inl rfl) rfl (fun _ h => by have h := Ws.drop (L := [_]) (L' := _) h; exact h) (yl_cats rfl rfl (by simp only [List.length_append, textB_len, num8_len, List.length_singleton]; omega)) ?_
        refine WT.q rfl (.inl rfl) rfl (fun _ h => by have h := Ws.drop (L := [_]) (L' := _) h; exact h) (yl_assign rfl) ?_
        refine WT.nil (fun _ h => by have h := Ws.drop (L := [_]) (L' := _) h; exact h) ?_
        refine WE.block_normal ?_
        refine WE.then_normal ?_
        refine WC.region ?_
        refine WL.val (.inl rfl) rfl (yl_move rfl) ?_
        refine WL.val (.inl rfl) rfl (yl_inc rfl rfl rfl (by omega)) ?_
        refine WL.val (.inl rfl) rfl (yl_assign rfl) ?_
        refine WL.nil ?_
        rw [show st (textB name ++ [byteOf items.length] ++ (items.take i).flatMap itemB ++ [byteOf x.kind] ++ textB x.name ++ num8 x.n ++ num8 x.pl) = st (textB name ++ [byteOf items.length] ++ (items.take (i + 1)).flatMap itemB) by rw [take_flat hx]; simp [itemB]]
        exact WE.again (i + 1) (by omega) (by omega) (sc rfl (sc rfl (sc rfl (sc rfl sn)))) (fun _ h => Ws.drop (L := [_, _]) h)
      refine WT.e rfl (fun _ h => by have h := Ws.drop (L := [_]) (L' := _) h; exact h) ?_ WT.stop
      refine WL.callp (.inl rfl) rfl en52 rfl (fun w hw => numBytes_any _ w) ?_
      refine WL.nil ?_
      refine WE.toT ?_
      refine WT.e rfl (fun _ h => by have h := Ws.drop (L := [_]) (L' := _) h; exact h) ?_ WT.stop
      refine WL.val (.inl rfl) rfl (yl_b2s 0 usl81 ui5 us9 rfl rfl rfl) ?_
      refine WL.nil ?_
      refine WE.toT ?_
      refine WT.q rfl (.inl rfl) rfl (fun _ h => by have h := Ws.drop (L := [_]) (L' := _) h; exact h) (yl_cats rfl rfl (by simp only [List.length_append, textB_len, List.length_singleton]; omega)) ?_
      refine WT.q rfl (.inl rfl) rfl (fun _ h => by have h := Ws.drop (L := [_]) (L' := _) h; exact h) (yl_cats rfl rfl (by simp only [List.length_append, textB_len, List.length_singleton]; omega)) ?_
      refine WT.q rfl (.inl rfl) rfl (fun _ h => by have h := Ws.drop (L := [_]) (L' := _) h; exact h) (yl_cats rfl rfl (by simp only [List.length_append, textB_len, num8_len, List.length_singleton]; omega)) ?_
      refine WT.q rfl (.inl rfl) rfl (fun _ h => by have h := Ws.drop (L := [_]) (L' := _) h; exact h) (yl_cats rfl rfl (by simp only [List.length_append, textB_len, num8_len, List.length_singleton]; omega)) ?_
      refine WT.q rfl (.inl rfl) rfl (fun _ h => by have h := Ws.drop (L := [_]) (L' := _) h; exact h) (yl_assign rfl) ?_
      refine WT.nil (fun _ h => by have h := Ws.drop (L := [_]) (L' := _) h; exact h) ?_
      refine WE.block_normal ?_
      refine WE.then_normal ?_
      refine WC.region ?_
      refine WL.val (.inl rfl) rfl (yl_move rfl) ?_
      refine WL.val (.inl rfl) rfl (yl_inc rfl rfl rfl (by omega)) ?_
      refine WL.val (.inl rfl) rfl (yl_assign rfl) ?_
      refine WL.nil ?_
      rw [show st (textB name ++ [byteOf items.length] ++ (items.take i).flatMap itemB ++ [byteOf x.kind] ++ textB x.name ++ num8 x.n ++ num8 x.pl) = st (textB name ++ [byteOf items.length] ++ (items.take (i + 1)).flatMap itemB) by rw [take_flat hx]; simp [itemB]]
      exact WE.again (i + 1) (by omega) (by omega) (sc rfl (sc rfl (sc rfl (sc rfl sn)))) (fun _ h => Ws.drop (L := [_, _]) h)
    refine WT.e rfl (fun _ h => h) ?_ WT.stop
    refine WL.callp (.inl rfl) rfl en52 rfl (fun w hw => numBytes_any _ w) ?_
    refine WL.nil ?_
    refine WE.toT ?_
    refine WT.e rfl (fun _ h => h) ?_ ?_
    ·
      refine WL.bsliceF (.inl rfl) rfl el81 rfl rfl rfl rfl fun b32 => ?_
      refine WL.reblk 0 (.cells ([byteOf x.kind].map byv).toArray 5 (0, 0)) rfl (one_cell _ 5) ?_
      refine WL.nil ?_
      refine WE.toT ?_
      refine WT.e rfl (fun _ h => by have h := Ws.drop (L := [_]) (L' := _) h; exact h) ?_ ?_
      ·
        refine WL.val (.inl rfl) rfl (yl_b2s 0 usl81 ui5 us9 rfl rfl rfl) ?_
        refine WL.nil ?_
        refine WE.toT ?_
        refine WT.q rfl (.inl rfl) rfl (fun _ h => by have h := Ws.drop (L := [_]) (L' := _) h; exact h) (yl_cats rfl rfl (by simp only [List.length_append, textB_len, List.length_singleton]; omega)) ?_
        refine WT.q rfl (.inl rfl) rfl (fun _ h => by have h := Ws.drop (L := [_]) (L' := _) h; exact h) (yl_cats rfl rfl (by simp only [List.length_append, textB_len, List.length_singleton]; omega)) ?_
        refine WT.q rfl (.inl rfl) rfl (fun _ h => by have h := Ws.drop (L := [_]) (L' := _) h; exact h) (yl_cats rfl rfl (by simp only [List.length_append, textB_len, num8_len, List.length_singleton]; omega)) ?_
        refine WT.e rfl (fun _ h => by have h := Ws.drop (L := [_]) (L' := _) h; exact h) ?_ WT.stop
        refine WL.callp (.inl rfl) rfl en52 rfl (fun w hw => numBytes_any _ w) ?_
        refine WL.nil ?_
        refine WE.toT ?_
        refine WT.q rfl (.inl rfl) rfl (fun _ h => by have h := Ws.drop (L := [_]) (L' := _) h; exact h) (yl_cats rfl rfl (by simp only [List.length_append, textB_len, num8_len, List.length_singleton]; omega)) ?_
        refine WT.q rfl (.inl rfl) rfl (fun _ h => by have h := Ws.drop (L := [_]) (L' := _) h; exact h) (yl_assign rfl) ?_
        refine WT.nil (fun _ h => by have h := Ws.drop (L := [_]) (L' := _) h; exact h) ?_
        refine WE.block_normal ?_
        refine WE.then_normal ?_
        refine WC.region ?_
        refine WL.val (.inl rfl) rfl (yl_move rfl) ?_
        refine WL.val (.inl rfl) rfl (yl_inc rfl rfl rfl (by omega)) ?_
        refine WL.val (.inl rfl) rfl (yl_assign rfl) ?_
        refine WL.nil ?_
        rw [show st (textB name ++ [byteOf items.length] ++ (items.take i).flatMap itemB ++ [byteOf x.kind] ++ textB x.name ++ num8 x.n ++ num8 x.pl) = st (textB name ++ [byteOf items.length] ++ (items.take (i + 1)).flatMap itemB) by rw [take_flat hx]; simp [itemB]]
        exact WE.again (i + 1) (by omega) (by omega) (sc rfl (sc rfl (sc rfl (sc rfl sn)))) (fun _ h => Ws.drop (L := [_, _]) h)
      refine WT.e rfl (fun _ h => by have h := Ws.drop (L := [_]) (L' := _) h; exact h) ?_ WT.stop
      refine WL.callp (.inl rfl) rfl en52 rfl (fun w hw => numBytes_any _ w) ?_
      refine WL.nil ?_
      refine WE.toT ?_
      refine WT.e rfl (fun _ h => by have h := Ws.drop (L := [_]) (L' := _) h; exact h) ?_ WT.stop
      refine WL.val (.inl rfl) rfl (yl_b2s 0 usl81 ui5 us9 rfl rfl rfl) ?_
      refine WL.nil ?_
      refine WE.toT ?_
      refine WT.q rfl (.inl rfl) rfl (fun _ h => by have h := Ws.drop (L := [_]) (L' := _) h; exact h) (yl_cats rfl rfl (by simp only [List.length_append, textB_len, List.length_singleton]; omega)) ?_
      refine WT.q rfl (.inl rfl) rfl (fun _ h => by have h := Ws.drop (L := [_]) (L' := _) h; exact h) (yl_cats rfl rfl (by simp only [List.length_append, textB_len, List.length_singleton]; omega)) ?_
      refine WT.q rfl (.inl rfl) rfl (fun _ h => by have h := Ws.drop (L := [_]) (L' := _) h; exact h) (yl_cats rfl rfl (by simp only [List.length_append, textB_len, num8_len, List.length_singleton]; omega)) ?_
      refine WT.q rfl (.inl rfl) rfl (fun _ h => by have h := Ws.drop (L := [_]) (L' := _) h; exact h) (yl_cats rfl rfl (by simp only [List.length_append, textB_len, num8_len, List.length_singleton]; omega)) ?_
      refine WT.q rfl (.inl rfl) rfl (fun _ h => by have h := Ws.drop (L := [_]) (L' := _) h; exact h) (yl_assign rfl) ?_
      refine WT.nil (fun _ h => by have h := Ws.drop (L := [_]) (L' := _) h; exact h) ?_
      refine WE.block_normal ?_
      refine WE.then_normal ?_
      refine WC.region ?_
      refine WL.val (.inl rfl) rfl (yl_move rfl) ?_
      refine WL.val (.inl rfl) rfl (yl_inc rfl rfl rfl (by omega)) ?_
      refine WL.val (.inl rfl) rfl (yl_assign rfl) ?_
      refine WL.nil ?_
      rw [show st (textB name ++ [byteOf items.length] ++ (items.take i).flatMap itemB ++ [byteOf x.kind] ++ textB x.name ++ num8 x.n ++ num8 x.pl) = st (textB name ++ [byteOf items.length] ++ (items.take (i + 1)).flatMap itemB) by rw [take_flat hx]; simp [itemB]]
      exact WE.again (i + 1) (by omega) (by omega) (sc rfl (sc rfl (sc rfl (sc rfl sn)))) (fun _ h => Ws.drop (L := [_, _]) h)
    refine WT.e rfl (fun _ h => h) ?_ WT.stop
    refine WL.callp (.inl rfl) rfl en52 rfl (fun w hw => numBytes_any _ w) ?_
    refine WL.nil ?_
    refine WE.toT ?_
    refine WT.e rfl (fun _ h => h) ?_ WT.stop
    refine WL.bsliceF (.inl rfl) rfl el81 rfl rfl rfl rfl fun b32 => ?_
    refine WL.reblk 0 (.cells ([byteOf x.kind].map byv).toArray 5 (0, 0)) rfl (one_cell _ 5) ?_
    refine WL.nil ?_
    refine WE.toT ?_
    refine WT.e rfl (fun _ h => by have h := Ws.drop (L := [_]) (L' := _) h; exact h) ?_ WT.stop
    refine WL.val (.inl rfl) rfl (yl_b2s 0 usl81 ui5 us9 rfl rfl rfl) ?_
    refine WL.nil ?_
    refine WE.toT ?_
    refine WT.q rfl (.inl rfl) rfl (fun _ h => by have h := Ws.drop (L := [_]) (L' := _) h; exact h) (yl_cats rfl rfl (by simp only [List.length_append, textB_len, List.length_singleton]; omega)) ?_
    refine WT.q rfl (.inl rfl) rfl (fun _ h => by have h := Ws.drop (L := [_]) (L' := _) h; exact h) (yl_cats rfl rfl (by simp only [List.length_append, textB_len, List.length_singleton]; omega)) ?_
    refine WT.q rfl (.inl rfl) rfl (fun _ h => by have h := Ws.drop (L := [_]) (L' := _) h; exact h) (yl_cats rfl rfl (by simp only [List.length_append, textB_len, num8_len, List.length_singleton]; omega)) ?_
    refine WT.q rfl (.inl rfl) rfl (fun _ h => by have h := Ws.drop (L := [_]) (L' := _) h; exact h) (yl_cats rfl rfl (by simp only [List.length_append, textB_len, num8_len, List.length_singleton]; omega)) ?_
    refine WT.q rfl (.inl rfl) rfl (fun _ h => by have h := Ws.drop (L := [_]) (L' := _) h; exact h) (yl_assign rfl) ?_
    refine WT.nil (fun _ h => by have h := Ws.drop (L := [_]) (L' := _) h; exact h) ?_
    refine WE.block_normal ?_
    refine WE.then_normal ?_
    refine WC.region ?_
    refine WL.val (.inl rfl) rfl (yl_move rfl) ?_
    refine WL.val (.inl rfl) rfl (yl_inc rfl rfl rfl (by omega)) ?_
    refine WL.val (.inl rfl) rfl (yl_assign rfl) ?_
    refine WL.nil ?_
    rw [show st (textB name ++ [byteOf items.length] ++ (items.take i).flatMap itemB ++ [byteOf x.kind] ++ textB x.name ++ num8 x.n ++ num8 x.pl) = st (textB name ++ [byteOf items.length] ++ (items.take (i + 1)).flatMap itemB) by rw [take_flat hx]; simp [itemB]]
    exact WE.again (i + 1) (by omega) (by omega) (sc rfl (sc rfl (sc rfl (sc rfl sn)))) (fun _ h => Ws.drop (L := [_, _]) h)
  ·
    have hie : i = items.length := by simp at hc0; omega
    refine WC.exit ?_
    refine WE.then_exit ?_
    refine WE.then_exit ?_
    refine WE.block_hit ?_
    refine WE.then_normal ?_
    refine WC.seq ?_
    refine WC.region ?_
    refine WL.val (.inl rfl) rfl (yl_move rfl) ?_
    refine WL.val (.inl rfl) rfl (yl_assign rfl) ?_
    refine WL.nil ?_
    refine WE.then_normal ?_
    refine WC.ret ?_
    refine WE.ret1 rfl rfl fun w' hw => ?_
    exact ⟨by rw [hie, List.take_length]; rfl, hw.fr⟩

end Go.Proofs.Ytagoencpeflmlaa
